/- TopCircle: the bounds of the readings, and the quotients as rational numbers. TopCircle: steps of the region that copies the readings and appends one. -/
import Derived.Test.YtehifkdfbiebfaaDoorK34
import Derived.Test.YtehifkdfbiebfaaDoorK40
import Derived.Test.YtehifkdfbiebfaaDoorK42
import Derived.Test.YtehifkdfbiebfaaDoorK33
import Derived.Deep.RegionHeldLaw
namespace Go.Proofs.YtehifkdfbiebfaaDoor
open Go Go.RowKit Go.Shelf

section
variable {fr : Nat → Nat} {g : Nat → Nat → Int} {L : Nat}
theorem D_sum (hf : ∀ k, fr k ≤ k) (a b : Nat) (ha : a ≤ L) (hb : b ≤ L) : -Dt fr (loF g L) (hiF g L) L b a ≤ Dt fr (loF g L) (hiF g L) L a b := by
  have hab := Dt_least (lo := loF g L) (hi := hiF g L) hf (p := fun v => Dt fr (loF g L) (hiF g L) L b v) L (fun k hk => Dt_feas hf (fun k => lh_le k) L b k hb hk) a b ha hb
  have hab' : Dt fr (loF g L) (hiF g L) L b b ≤ Dt fr (loF g L) (hiF g L) L b a + Dt fr (loF g L) (hiF g L) L a b := hab
  rw [Dt_self L b hb] at hab'
  omega
theorem D_szV (h : ∀ k, k < L → okS fr g k = true) (hf : ∀ k, fr k ≤ k) (hL : L ≤ 12) (a b : Nat) (ha : a ≤ L) (hb : b ≤ L) : szV (-Dt fr (loF g L) (hiF g L) L b a) (Dt fr (loF g L) (hiF g L) L a b) = true := by
  have h1 := D_bd h hL a b
  have h2 := D_bd h hL b a
  have h3 := D_sum (g := g) hf a b ha hb
  unfold szV
  simp only [Bool.and_eq_true, decide_eq_true_eq]
  omega
theorem cirBound_c (h : ∀ k, k < L → okS fr g k = true) (hf : ∀ k, fr k ≤ k) (hL : L ≤ 12) {a b : Nat} (ha : a ≤ L) (hb : b ≤ L) (A : Option Addr) (cap : Nat) (w : World) (hr : Rds w w.heap.size A (treeL fr (loF g L) (hiF g L) L)) :
    Calls Tryd.prog 12 #[.int .i64 ((L : Int) + 1), .slice A L cap, .int .i64 (a : Int), .int .i64 (b : Int)] w (Ret (.tuple #[.agg #[.int .i64 (-Dt fr (loF g L) (hiF g L) L b a), .int .i64 (Dt fr (loF g L) (hiF g L) L a b)], .int .i64 0]) w) := by
  have hok := rd_ok h hf hL
  have d := fun a => (show Done (L + 1) (treeL fr (loF g L) (hiF g L) L) (updF (fun _ => false) a true) (L + 2) from ⟨by omega, Or.inr rfl⟩)
  have e1 := from_tree (lo := loF g L) (hi := hiF g L) hf (fun k => lh_le k) ha hok (d a) hb
  have e2 := from_tree (lo := loF g L) (hi := hiF g L) hf (fun k => lh_le k) hb hok (d b) ha
  have := Bound_c hok ⟨_, Dt_Feas (lo := loF g L) (hi := hiF g L) hf (fun k => lh_le k) (m := L) (a := 0) (by omega)⟩ (a := a) (b := b) (by omega) (by omega) e1.1 e1.2 e2.2 (D_szV h hf hL a b ha hb) A cap w hr
  rw [treeL_len, show ((L + 1 : Nat) : Int) = (L : Int) + 1 by omega] at this
  exact this
theorem way_pV (h : ∀ k, k < L → okS fr g k = true) {j : Nat} (hj : j ≤ L) : pV (wayF fr g j 0) (wayF fr g j 1) (wayF fr g j 2) (wayF fr g j 3) (wayF fr g j 4) (wayF fr g j 5) 48 = true := by
  cases j with
  | zero => simp only [wayF_zero]; decide
  | succ j =>
    have := h j (by omega)
    unfold okS at this
    simp only [Bool.and_eq_true] at this
    exact this.2
/-- The quotient of two frequencies, as a number, is the number of the interval's product. -/
theorem cir_quo {f1 f2 : Int} {p : Nat → Int × Int} (hf : ∀ k, fr k ≤ k) (hv : vld ((L : Int) + 1) (btL fr g L) = true) (hs : sdV f1 f2 = true) (hp : plO (btL fr g L) (f1, f2) (fun _ => (0, 1)) L = some p) {j : Nat} (hj : j ≤ L) :
    ∃ dn dd de : Int, divV (p j).1 (p j).2 (p 0).1 (p 0).2 = .tuple #[.agg #[.int .i64 dn, .int .i64 dd], .int .i64 de] ∧
      (de = 0 → raP dn dd = .tuple #[.agg #[.int .i64 (wayF fr g j 0), .int .i64 (wayF fr g j 1), .int .i64 (wayF fr g j 2), .int .i64 (wayF fr g j 3), .int .i64 (wayF fr g j 4), .int .i64 (wayF fr g j 5)], .int .i64 0]) := by
  refine ⟨_, _, _, divV_eq _ _ _ _, fun hE => ?_⟩
  obtain ⟨q1, q2⟩ := quo_law hf hv hs hp j hj
  obtain ⟨q3, q4⟩ := quo_law hf hv hs hp 0 (by omega)
  have h0 : p 0 = (f1, f2) := (play_fix (k := L) hv (by simp [btL]) hp).1
  rw [h0] at hE ⊢
  simp only at hE ⊢
  have r1 := rt_of (sd_of q1).1
  have r2 := rt_of (sd_of hs).1
  have p1 := (sd_of q1).2
  have p2 := (sd_of hs).2
  have v1 : vR (p j).1 (p j).2 = true := rt_v (sd_of q1).1
  have v2 : vR f1 f2 = true := rt_v (sd_of hs).1
  unfold diE at hE
  rw [v1, v2] at hE
  simp only [Bool.and_self, if_true] at hE
  unfold diN diD
  rw [v1, v2]
  simp only [Bool.and_self, if_true]
  obtain ⟨_, m1, m2⟩ := mk_spec hE
  have m0 := den_pos m1
  generalize (p j).1 = N at *
  generalize (p j).2 = D at *
  generalize mkN (N * f2) (D * f1) = X at *
  generalize mkD (N * f2) (D * f1) = Y at *
  have hDf : 0 < D * f1 := Int.mul_pos (by have := r1.2.2.1; omega) p2
  have hNY : 0 < N * f2 * Y := Int.mul_pos (Int.mul_pos p1 (by have := r2.2.2.1; omega)) m0
  have hX : 1 ≤ X := by
    rcases Int.lt_or_le X 1 with h | h
    · have := Int.mul_nonneg (show 0 ≤ -X by omega) (Int.le_of_lt hDf)
      have e : -X * (D * f1) = -(X * (D * f1)) := by grind
      omega
    · exact h
  refine ra_of_ud (v := fun i => wayF fr g j i) m1 hX ?_
  have key : (X * (dW (wayF fr g j) : Int) - Y * (uW (wayF fr g j) : Int)) * (D * f1) = 0 := by grind
  have e1 : dW (fun i => wayF fr g j i) = dW (wayF fr g j) := rfl
  have e2 : uW (fun i => wayF fr g j i) = uW (wayF fr g j) := rfl
  rw [e1, e2]
  rcases Int.mul_eq_zero.1 key with z | z
  · omega
  · omega
end
end Go.Proofs.YtehifkdfbiebfaaDoor
namespace Go.Proofs.YtehifkdfbiebfaaDoor
open Go Go.RowKit Go.Shelf

theorem step_rd {i0 : TypeInfo} {z : Value} (hi : Tryd.prog.info? 41 = some i0) (hz : i0.zero = some z) (hsz : i0.size = 4) (hby : i0.bytes = 32) (hzs : z.cells.size = 4)
    {ops : Array Oper} {o : Oper} {a : Act} {K : Act → World → Prop} {Q : Exit → Act → World → Prop} {E : Prop} {W : World} (hgd : o.guard = none) (s x : Operand)
    (ho : o.op = .call { callee := .builtin .append, args := #[s, x], argTypes := #[33, 33] })
    (B k g0 c0 : Nat) (xs : List Value) (hs : a.eval s = .slice (some ⟨g0, 0, none⟩) k c0) (hown : W.ownsRow B 41 4 (.slice (some ⟨g0, 0, none⟩) k c0) k xs) (ad : Addr) (m c : Nat) (news : List Value) (hx : a.eval x = .slice (some ad) m c)
    (hl : news.length = m * 4) (hnews : ∀ j u, news[j]? = some u → W.cell? (ad.add j) = some u) (h1 : ∀ u ∈ news, u.oneCell' = true) (hm : 0 < m) (hk : k + m ≤ 1000) (hB : B ≤ W.heap.size)
    (h : ∀ g cap W', W'.ownsRow B 41 4 (.slice (some ⟨g, 0, none⟩) (k + m) cap) (k + m) (xs ++ news) → W.grownBy W' (some g0) → (g = g0 ∨ g = W.heap.size) → g < W'.heap.size → K (a.put o.dst (.slice (some ⟨g, 0, none⟩) (k + m) cap)) W') :
    if Region.wanted o (yielded ops a.tmps) = true then Oper.wp Tryd.prog o a W K Q else E :=
  step_append_lies _ hgd s x 33 ho B 41 i0 z 4 32 Tryd.underlying33 hi hz hsz hby hzs (by decide) _ k xs hs hown ad m c news hx hl hnews h1 hm (by unfold maxLen; omega) (by omega) hB _ rfl
    (fun g cap w' h2 h3 h4 h5 => h g cap w' h2 h3 (h4.imp (fun e => (Option.some.inj e).symm) id) h5)
theorem rd4_one (fr : Nat → Nat) (lo hi : Nat → Int) (rows : Nat → List Value) (hr : ∀ j, rows j = [.int .i64 (fr j : Int), .int .i64 ((j : Int) + 1), .int .i64 (lo j), .int .i64 (hi j)]) (L : Nat) : ∀ u ∈ rowL rows L, u.oneCell' = true := by
  intro u hu
  unfold rowL at hu
  rw [List.mem_flatMap] at hu
  obtain ⟨j, _, hj⟩ := hu
  rw [hr j] at hj
  simp at hj
  rcases hj with rfl | rfl | rfl | rfl <;> rfl
end Go.Proofs.YtehifkdfbiebfaaDoor
