/- BenchSharp: one step that appends to a row of the call's own, in a region that draws its order. -/
import Derived.Test.YtkgklmmkkhbimaaBenchV
import Derived.Test.YtkgklmmkkhbimaaBenchG
import Derived.Test.YtkgklmmkkhbimaaPlainC
import Derived.Deep.RegionHeldLaw
import Derived.Maps.AppendAt
import Derived.Deep.AppendLies
namespace Go.Proofs.Ytkgklmmkkhbimaa
open Go Go.RowKit

theorem step_app {i0 : TypeInfo} {z : Value} (hi : Try.prog.info? 24 = some i0) (hz : i0.zero = some z) (hsz : i0.size = 2) (hby : i0.bytes = 16) (hzs : z.cells.size = 2)
    {ops : Array Oper} {o : Oper} {a : Act} {K : Act → World → Prop} {Q : Exit → Act → World → Prop} {E : Prop} {W : World} (hgd : o.guard = none) (s x : Operand)
    (ho : o.op = .call { callee := .builtin .append, args := #[s, x], argTypes := #[25, 25] })
    (B k : Nat) (v : Value) (xs : List Value) (hs : a.eval s = v) (hown : W.ownsRow B 24 2 v k xs) (b : Nat) (n1 n2 : Int) (hx : a.eval x = .slice (some ⟨b, 0, none⟩) 1 1) (hb : Blk W b 24 #[.int .i64 n1, .int .i64 n2])
    (hk : k ≤ 1000) (hB : B ≤ W.heap.size)
    (h : ∀ v' W', W'.ownsRow B 24 2 v' (k + 1) (xs ++ [.int .i64 n1, .int .i64 n2]) → W.grownBy W' v.ownBlock → (v'.ownBlock = v.ownBlock ∨ v'.ownBlock = some W.heap.size) → K (a.put o.dst v') W') :
    if Region.wanted o (yielded ops a.tmps) = true then Oper.wp Try.prog o a W K Q else E := by
  have hw : Region.wanted o (yielded ops a.tmps) = true := by simp [Region.wanted, hgd]
  rw [if_pos hw]
  have hnews : ∀ j u, [Value.int .i64 n1, .int .i64 n2][j]? = some u → W.cell? ((⟨b, 0, none⟩ : Addr).add j) = some u := by
    intro j u hj
    have : (⟨b, 0, none⟩ : Addr).add j = ⟨b, j, none⟩ := by
      unfold Addr.add
      split
      · rename_i h; subst h; rfl
      · simp
    rw [this, hb.cell j]
    simpa using hj
  obtain ⟨v', W', hr, h2, h3, _, h5⟩ := run_append_own_at (P := Try.prog) W B 25 o.type 24 i0 z 2 16 Try.underlying25 hi hz hsz hby hzs (by decide) v k xs hown ⟨b, 0, none⟩ 1 1 [.int .i64 n1, .int .i64 n2] rfl hnews (by
    intro u hu
    simp at hu
    rcases hu with rfl | rfl <;> rfl) (by unfold maxLen; omega) (by omega) hB
  unfold Oper.wp execOp
  simp only [ho, resolve, invoke, builtin, Sem.run_bind, Sem.run_pure, Result.andThen_ok, List.map_toArray, List.map_cons, List.map_nil, hs, hx, hr]
  exact h v' W' h2 h3 h5
theorem blk_grown {W W' : World} {b : Nat} {T : TypeId} {cs : Array Value} {row : Option Nat} (h : Blk W b T cs) (hg : W.grownBy W' row) (hne : some b ≠ row) : Blk W' b T cs := (hg.block b h.lt hne).trans h
def Apart (v u : Value) : Prop := ∀ g, v.ownBlock = some g → u.ownBlock = some g → False
theorem Apart.ne {v u : Value} (h : Apart v u) : u.ownBlock = none ∨ u.ownBlock ≠ v.ownBlock := by
  cases hu : u.ownBlock with
  | none => exact Or.inl rfl
  | some g => exact Or.inr (fun e => h g e.symm hu)
theorem v1_ne {v u v1 : Value} {S1 : Nat} (h : Apart v u) (h1 : v1.ownBlock = v.ownBlock ∨ v1.ownBlock = some S1) (hu : ∀ g, u.ownBlock = some g → g < S1) : v1.ownBlock = none ∨ v1.ownBlock ≠ u.ownBlock := by
  cases hv : v1.ownBlock with
  | none => exact Or.inl rfl
  | some g =>
    refine Or.inr (fun e => ?_)
    rcases h1 with h1 | h1
    · exact h g (h1.symm.trans hv) e.symm
    · have := hu g e.symm
      rw [hv] at h1
      obtain rfl := Option.some.inj h1
      omega
theorem apart_next {v u v1 v2 : Value} {S1 S2 : Nat} (h : Apart v u) (h1 : v1.ownBlock = v.ownBlock ∨ v1.ownBlock = some S1) (h2 : v2.ownBlock = u.ownBlock ∨ v2.ownBlock = some S2) (hu : ∀ g, u.ownBlock = some g → g < S1)
    (h12 : ∀ g, v1.ownBlock = some g → g < S2) : Apart v1 v2 := by
  intro g e1 e2
  rcases h2 with h2 | h2
  · rw [h2] at e2
    rcases h1 with h1 | h1
    · exact h g (h1.symm.trans e1) e2
    · have := hu g e2
      rw [e1] at h1
      obtain rfl := Option.some.inj h1
      omega
  · have := h12 g e1
    rw [e2] at h2
    obtain rfl := Option.some.inj h2
    omega
theorem bl_grown {a w w' : World} {row : Option Nat} (h : Below a.heap.size a w) (hg : w.grownBy w' row) (hr : ∀ k, row = some k → a.heap.size ≤ k) : Below a.heap.size a w' := h.grown hg h.size hr
/-- k times the same number. -/
def repL (a b : Int) (k : Nat) : List Value := (List.range k).flatMap fun _ => [.int .i64 a, .int .i64 b]
theorem repL_succ (a b : Int) (k : Nat) : repL a b (k + 1) = repL a b k ++ [.int .i64 a, .int .i64 b] := by simp [repL, List.range_succ]
theorem repL_len (a b : Int) : ∀ k, (repL a b k).length = k * 2
  | 0 => rfl
  | k + 1 => by rw [repL_succ, List.length_append, repL_len a b k]; simp; omega
theorem repL_get (a b : Int) {x : Nat} : ∀ {k : Nat}, x < k → (repL a b k)[x * 2]? = some (.int .i64 a) ∧ (repL a b k)[x * 2 + 1]? = some (.int .i64 b)
  | 0, h => absurd h (by omega)
  | k + 1, h => by
    rw [repL_succ]
    have hl := repL_len a b k
    by_cases e : x < k
    · obtain ⟨p1, p2⟩ := repL_get a b e
      rw [List.getElem?_append_left (by omega), List.getElem?_append_left (by omega)]
      exact ⟨p1, p2⟩
    · have e' : x = k := by omega
      subst e'
      rw [List.getElem?_append_right (by omega), List.getElem?_append_right (by omega), hl]
      have q1 : x * 2 - x * 2 = 0 := by omega
      have q2 : x * 2 + 1 - x * 2 = 1 := by omega
      rw [q1, q2]
      exact ⟨rfl, rfl⟩
theorem rats_of_rep {w : World} {base n : Nat} {e : TypeId} {v : Value} {a b : Int} (ho : w.ownsRow base e 2 v n (repL a b n)) : ∃ A cap, v = .slice A n cap ∧ RatsR w w.heap.size A n (fun _ => (a, b)) := by
  rcases ho.2 with ⟨rfl, rfl⟩ | ⟨g0, cap, cur, rfl, hb, hh, hc⟩
  · exact ⟨none, 0, rfl, fun h => absurd h (by omega)⟩
  · refine ⟨_, cap, rfl, fun _ => ⟨g0, 0, rfl, (Array.getElem?_eq_some_iff.1 hh).1, fun x hx => ?_⟩⟩
    obtain ⟨p1, p2⟩ := repL_get a b hx
    rw [Nat.zero_add]
    exact ⟨(World.ownsRow.cellAt ho _ (by omega)).trans p1, (World.ownsRow.cellAt ho _ (by omega)).trans p2⟩
theorem vR_neg {n d : Int} (h : vR n d = true) : vR (-n) d = true := by
  obtain ⟨a, b, c, e, f⟩ := v_of h
  have e1 : absF (-n) = absF n := Int.natAbs_neg n
  unfold vR
  rw [e1]
  exact decide_eq_true ⟨a, b, by omega, by omega, f⟩
/-- Play where all steps are off by the same number, and all is in range. -/
theorem play_ok {n : Int} {l : List Bt} {f1 f2 a b : Int} {g : Nat → Int × Int} (hv : vld n l = true) (hs : sdV f1 f2 = true) (hab : vR a b = true) (hg : plO l (f1, f2) (fun _ => (a, b)) l.length = some g) (A Ao : Option Addr) (cap capo : Nat) (w : World) (hl : Lst w w.heap.size A l) (ho : RatsR w w.heap.size Ao l.length (fun _ => (a, b))) (hlen : l.length ≤ 9223372036854775807) :
    Calls Try.prog 17 #[.int .i64 n, .slice A l.length cap, .agg #[.int .i64 f1, .int .i64 f2], .slice Ao l.length capo] w (fun e w' => Below w.heap.size w w' ∧ ∃ B : Option Addr, e = .returned (.tuple #[.slice B n.toNat n.toNat, .int .i64 0]) ∧ RatsR w' w'.heap.size B n.toNat g) := by
  refine (Play_c n l f1 f2 l.length (fun _ => (a, b)) A Ao cap capo w hl ho hlen hlen).mono ?_
  have hG : plyG n l f1 f2 l.length (fun _ => (a, b)) = true := by
    unfold plyG allV
    rw [hv, hs, decide_eq_true rfl]
    simp [hab]
  rintro e w' ⟨hb, ⟨h, _⟩ | ⟨_, h, _⟩ | ⟨_, g', B, h, rfl, hR⟩⟩
  · rw [hG] at h; cases h
  · rw [hg] at h; cases h
  · rw [hg] at h
    obtain rfl := Option.some.inj h
    exact ⟨hb, B, rfl, hR⟩
end Go.Proofs.Ytkgklmmkkhbimaa
