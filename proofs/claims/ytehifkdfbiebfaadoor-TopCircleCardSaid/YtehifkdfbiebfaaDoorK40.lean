/- TopCircle: the quotient of two frequencies. Plain. -/
import Derived.Test.YtehifkdfbiebfaaDoorK33
import Derived.Test.YtehifkdfbiebfaaDoorK39
import Derived.Test.YtehifkdfbiebfaaDoorK19
namespace Go.Proofs.YtehifkdfbiebfaaDoor
open Go Go.RowKit

theorem pwF_toNat (b : Nat) (x : Int) : pwF b x = b ^ x.toNat := by
  unfold pwF
  split
  · rfl
  · rw [show x.toNat = 0 by omega, Nat.pow_zero]
theorem prod_three {fb : Nat → Nat} {A B C D E F : Nat → Int} : ∀ n, (∀ i, i < n → pwF (fb i) (A i) * pwF (fb i) (B i) * pwF (fb i) (C i) = pwF (fb i) (D i) * pwF (fb i) (E i) * pwF (fb i) (F i)) → prodF fb A n * prodF fb B n * prodF fb C n = prodF fb D n * prodF fb E n * prodF fb F n
  | 0, _ => by simp [prodF]
  | n + 1, h => by
    have h1 := prod_three n (fun i hi => h i (by omega))
    have h2 := h n (by omega)
    show prodF fb A n * pwF (fb n) (A n) * (prodF fb B n * pwF (fb n) (B n)) * (prodF fb C n * pwF (fb n) (C n)) = prodF fb D n * pwF (fb n) (D n) * (prodF fb E n * pwF (fb n) (E n)) * (prodF fb F n * pwF (fb n) (F n))
    generalize prodF fb A n = a at *
    generalize prodF fb B n = b at *
    generalize prodF fb C n = c at *
    generalize prodF fb D n = d at *
    generalize prodF fb E n = e at *
    generalize prodF fb F n = f at *
    generalize pwF (fb n) (A n) = a' at *
    generalize pwF (fb n) (B n) = b' at *
    generalize pwF (fb n) (C n) = c' at *
    generalize pwF (fb n) (D n) = d' at *
    generalize pwF (fb n) (E n) = e' at *
    generalize pwF (fb n) (F n) = f' at *
    have e1 : a * a' * (b * b') * (c * c') = (a * b * c) * (a' * b' * c') := by grind
    have e2 : d * d' * (e * e') * (f * f') = (d * e * f) * (d' * e' * f') := by grind
    rw [e1, e2, h1, h2]
/-- The two products of an interval's primes. -/
def uW (g : Nat → Int) : Nat := prodF prm g 6
def dW (g : Nat → Int) : Nat := prodF prm (fun i => -g i) 6
theorem paU_eq (g : Nat → Int) : paU (g 0) (g 1) (g 2) (g 3) (g 4) (g 5) 6 = uW g := rfl
theorem paD_eq (g : Nat → Int) : paD (g 0) (g 1) (g 2) (g 3) (g 4) (g 5) 6 = dW g := rfl
theorem pw_pos (b : Nat) (e : Int) (h : 0 < b) : 0 < pwF b e := by
  unfold pwF
  split
  · exact Nat.pow_pos h
  · omega
theorem pd_pos {fb : Nat → Nat} {fe : Nat → Int} {k : Nat} (h : ∀ j, j < k → 0 < fb j) : ∀ i, i ≤ k → 0 < prodF fb fe i
  | 0, _ => by simp [prodF]
  | i + 1, hi => Nat.mul_pos (pd_pos h i (by omega)) (pw_pos _ _ (h i (by omega)))
theorem uW_pos (g : Nat → Int) : 0 < uW g := pd_pos (k := 6) (fun j hj => by have := prm_pos hj; omega) 6 (Nat.le_refl _)
theorem dW_pos (g : Nat → Int) : 0 < dW g := pd_pos (k := 6) (fun j hj => by have := prm_pos hj; omega) 6 (Nat.le_refl _)
theorem ud_add {a x d : Nat → Int} (h : ∀ i, i < 6 → a i = x i + d i) : uW a * dW x * dW d = uW x * uW d * dW a := by
  refine prod_three 6 fun i hi => ?_
  rw [h i hi]
  simp only [pwF_toNat]
  rw [← Nat.pow_add, ← Nat.pow_add, ← Nat.pow_add, ← Nat.pow_add]
  congr 1
  omega
/-- The quotients of the frequencies are the products. -/
theorem quo_law {fr : Nat → Nat} {g : Nat → Nat → Int} {L : Nat} {f1 f2 : Int} {p : Nat → Int × Int} (hf : ∀ k, fr k ≤ k) (hv : vld ((L : Int) + 1) (btL fr g L) = true) (hs : sdV f1 f2 = true) (hp : plO (btL fr g L) (f1, f2) (fun _ => (0, 1)) L = some p) :
    ∀ j, j ≤ L → (sdV (p j).1 (p j).2 = true ∧ (p j).1 * f2 * (dW (wayF fr g j) : Int) = f1 * (p j).2 * (uW (wayF fr g j) : Int)) := by
  have hlen : (btL fr g L).length = L := by simp [btL]
  obtain ⟨h0, hfix⟩ := play_fix (k := L) hv (by rw [hlen]; exact Nat.le_refl _) hp
  have hfp := (rt_of (sd_of hs).1).2.2.1
  intro j
  induction j using Nat.strongRecOn with
  | _ j ih =>
    intro hj
    cases j with
    | zero =>
      rw [h0]
      refine ⟨hs, ?_⟩
      have e1 : dW (wayF fr g 0) = 1 := by
        show dW (fun i => wayF fr g 0 i) = 1
        simp only [wayF_zero]
        decide
      have e2 : uW (wayF fr g 0) = 1 := by
        show uW (fun i => wayF fr g 0 i) = 1
        simp only [wayF_zero]
        decide
      rw [e1, e2]
    | succ k =>
      have hk : k < L := by omega
      have hb : (btL fr g L)[k]? = some (btK fr g k) := by
        unfold btL
        rw [List.getElem?_map, List.getElem?_range hk]
        rfl
      obtain ⟨e1, e2⟩ := hfix k (btK fr g k) hk hb
      have hfr : (btK fr g k).fr.toNat = fr k := by show ((fr k : Int)).toNat = _; omega
      have hto : (btK fr g k).to.toNat = k + 1 := by show ((k : Int) + 1).toNat = _; omega
      rw [hfr] at e1 e2
      rw [hto] at e2
      obtain ⟨i1, i2⟩ := ih (fr k) (by have := hf k; omega) (by have := hf k; omega)
      have ha := ud_add (a := wayF fr g (k + 1)) (x := wayF fr g (fr k)) (d := g k) (fun i _ => wayF_succ hf g k i)
      have pU := uW_pos (g k)
      have pD := dW_pos (g k)
      have pd2 := dW_pos (wayF fr g (fr k))
      generalize wayF fr g (fr k) = wf at *
      generalize wayF fr g (k + 1) = wk at *
      have e1' : moE (p (fr k)).1 (p (fr k)).2 (uW (g k) : Int) (dW (g k) : Int) 0 1 0 1 = 0 := e1
      have e2' : p (k + 1) = (moX (p (fr k)).1 (p (fr k)).2 (uW (g k) : Int) (dW (g k) : Int) 0 1 0 1, moY (p (fr k)).1 (p (fr k)).2 (uW (g k) : Int) (dW (g k) : Int) 0 1 0 1) := e2
      have a0 : adN 0 1 0 1 = 0 ∧ adD 0 1 0 1 = 1 := by decide
      have hse : seE (p (fr k)).1 (p (fr k)).2 (uW (g k) : Int) (dW (g k) : Int) 0 1 true = 0 := by
        have h' := e1'
        unfold moE at h'
        split at h'
        · rename_i hh
          have := hh.2
          rw [a0.1, a0.2] at this
          exact this
        · omega
      obtain ⟨m1, m2⟩ := mo_set (ab := true) (x := 0) (y := 1) e1' a0.1 a0.2 (Int.le_refl 0)
      obtain ⟨s1, s2, s3⟩ := se_spec hse
      rw [e2', m1, m2]
      refine ⟨s2, ?_⟩
      have hd1 := (rt_of (sd_of i1).1).2.2.1
      unfold seN at s3
      rw [if_pos rfl] at s3
      show seX (p (fr k)).1 (p (fr k)).2 (uW (g k) : Int) (dW (g k) : Int) 0 1 true * f2 * (dW wk : Int) = f1 * seY (p (fr k)).1 (p (fr k)).2 (uW (g k) : Int) (dW (g k) : Int) 0 1 true * (uW wk : Int)
      generalize seX (p (fr k)).1 (p (fr k)).2 (uW (g k) : Int) (dW (g k) : Int) 0 1 true = X at *
      generalize seY (p (fr k)).1 (p (fr k)).2 (uW (g k) : Int) (dW (g k) : Int) 0 1 true = Y at *
      generalize (p (fr k)).1 = N at *
      generalize (p (fr k)).2 = D at *
      have hai : (uW wk : Int) * dW wf * dW (g k) = uW wf * uW (g k) * dW wk := by exact_mod_cast ha
      have q1 : (0 : Int) < dW (g k) := by exact_mod_cast pD
      have q2 : (0 : Int) < dW wf := by exact_mod_cast pd2
      generalize (uW wk : Int) = a at *
      generalize (dW wk : Int) = a' at *
      generalize (uW wf : Int) = b at *
      generalize (dW wf : Int) = b' at *
      generalize (uW (g k) : Int) = c at *
      generalize (dW (g k) : Int) = c' at *
      have hs3 : X * (c' * D) = c * N * Y := by grind
      have hne : c' * D * b' ≠ 0 := by
        have := Int.mul_pos (Int.mul_pos q1 (show 0 < D by omega)) q2
        omega
      have key : (X * f2 * a' - f1 * Y * a) * (c' * D * b') = 0 := by grind
      rcases Int.mul_eq_zero.1 key with z | z
      · omega
      · exact absurd z hne
theorem prm_co {i j : Nat} (hi : i < 6) (hj : j < 6) (h : i ≠ j) : Nat.Coprime (prm i) (prm j) := by
  rcases lt6 hi with rfl | rfl | rfl | rfl | rfl | rfl <;> rcases lt6 hj with rfl | rfl | rfl | rfl | rfl | rfl <;> first | (exact absurd rfl h) | decide
theorem pw_co {i j : Nat} (hi : i < 6) (hj : j < 6) {a b : Int} (h : i ≠ j ∨ a ≤ 0 ∨ b ≤ 0) : Nat.Coprime (pwF (prm i) a) (pwF (prm j) b) := by
  simp only [pwF_toNat]
  by_cases e : i = j
  · rcases h with h | h | h
    · exact absurd e h
    · rw [show a.toNat = 0 by omega, Nat.pow_zero]; exact Nat.coprime_one_left _
    · rw [show b.toNat = 0 by omega, Nat.pow_zero]; exact Nat.coprime_one_right _
  · exact Nat.Coprime.pow _ _ (prm_co hi hj e)
theorem prod_co {a b : Nat → Int} (h : ∀ i, i < 6 → a i ≤ 0 ∨ b i ≤ 0) : ∀ m, m ≤ 6 → ∀ k, k ≤ 6 → Nat.Coprime (prodF prm a m) (prodF prm b k)
  | 0, _, k, _ => by simp [prodF]
  | m + 1, hm, k, hk => by
    show Nat.Coprime (prodF prm a m * pwF (prm m) (a m)) _
    refine Nat.Coprime.mul_left (prod_co h m (by omega) k hk) ?_
    have hm6 : m < 6 := by omega
    clear hm
    induction k with
    | zero => simp [prodF]
    | succ k ih =>
      show Nat.Coprime _ (prodF prm b k * pwF (prm k) (b k))
      refine Nat.Coprime.mul_right (ih (by omega)) (pw_co hm6 (by omega) ?_)
      by_cases e : m = k
      · subst e; exact Or.inr (h m hm6)
      · exact Or.inl e
theorem ud_co (v : Nat → Int) : Nat.Coprime (uW v) (dW v) := prod_co (fun i _ => by omega) 6 (Nat.le_refl _) 6 (Nat.le_refl _)
theorem low_two {n d U V : Nat} (h1 : Nat.Coprime n d) (h2 : Nat.Coprime U V) (h : n * V = d * U) : n = U ∧ d = V := by
  have a1 : n ∣ U := h1.dvd_of_dvd_mul_left (show n ∣ d * U from h ▸ Nat.dvd_mul_right n V)
  have a2 : U ∣ n := h2.dvd_of_dvd_mul_right (show U ∣ n * V from h ▸ Nat.dvd_mul_left U d)
  have a3 : d ∣ V := h1.symm.dvd_of_dvd_mul_left (show d ∣ n * V from h ▸ Nat.dvd_mul_right d U)
  have a4 : V ∣ d := h2.symm.dvd_of_dvd_mul_right (show V ∣ d * U from h ▸ Nat.dvd_mul_left V n)
  exact ⟨Nat.dvd_antisymm a1 a2, Nat.dvd_antisymm a3 a4⟩
/-- What is left behind the first primes. -/
def sfN (e : Nat → Int) : Nat → Nat
  | 0 => 1
  | r + 1 => sfN e r * pwF (prm (5 - r)) (e (5 - r))
theorem sfN_all (e : Nat → Int) : prodF prm e 6 = sfN e 6 := by
  simp only [prodF, sfN, Nat.one_mul]
  simp only [Nat.sub_zero, Nat.reduceSub, Nat.sub_self]
  ac_rfl
theorem sfN_co (e : Nat → Int) {i : Nat} : ∀ r, i + r ≤ 5 → Nat.Coprime (prm i) (sfN e r)
  | 0, _ => by simp [sfN]
  | r + 1, h => by
    refine Nat.Coprime.mul_right (sfN_co e r (by omega)) ?_
    rw [pwF_toNat]
    exact Nat.Coprime.pow_right _ (prm_co (by omega) (by omega) (by omega))
theorem sfN_pos (e : Nat → Int) : ∀ r, r ≤ 6 → 0 < sfN e r
  | 0, _ => by simp [sfN]
  | r + 1, h => Nat.mul_pos (sfN_pos e r (by omega)) (pw_pos _ _ (by have := prm_pos (i := 5 - r) (by omega); omega))
theorem chN_sfx (e : Nat → Int) : ∀ i, i ≤ 6 → chN (sfN e 6) i = sfN e (6 - i) ∧ (i < 6 → val (prm i) (chN (sfN e 6) i) = (e i).toNat)
  | 0, _ => by
    have hc := sfN_co e (i := 0) 5 (by omega)
    refine ⟨rfl, fun _ => ?_⟩
    have := val_of (p := prm 0) (n := sfN e 6) (c := sfN e 5) (k := (e 0).toNat) (by decide) (by rw [← pwF_toNat]; rfl) (fun h => by
      have h1 := Nat.Coprime.eq_one_of_dvd hc (Nat.dvd_of_mod_eq_zero h)
      exact absurd h1 (by decide))
    exact this.1
  | i + 1, hi => by
    obtain ⟨ih, _⟩ := chN_sfx e i (by omega)
    have step : ∀ i, i < 6 → val (prm i) (sfN e (6 - i)) = (e i).toNat ∧ cof (prm i) (sfN e (6 - i)) = sfN e (6 - (i + 1)) := fun i hi => by
      have hc := sfN_co e (i := i) (6 - (i + 1)) (by omega)
      have hp := prm_pos hi
      refine val_of hp.1 ?_ (fun h => ?_)
      · rw [← pwF_toNat]
        obtain ⟨r, hr⟩ : ∃ r, 6 - (i + 1) = r := ⟨_, rfl⟩
        have e1 : 6 - i = r + 1 := by omega
        have e2 : 5 - r = i := by omega
        rw [hr, e1]
        show sfN e r * pwF (prm (5 - r)) (e (5 - r)) = _
        rw [e2]
      · have h1 := Nat.Coprime.eq_one_of_dvd hc (Nat.dvd_of_mod_eq_zero h)
        omega
    have hch : chN (sfN e 6) (i + 1) = sfN e (6 - (i + 1)) := by
      show cof (prm i) (chN (sfN e 6) i) = _
      rw [ih]
      exact (step i (by omega)).2
    exact ⟨hch, fun h => by rw [hch]; exact (step (i + 1) h).1⟩
/-- The number of an interval is the interval's. -/
theorem ra_of_ud {v : Nat → Int} {n d : Int} (hv : vR n d = true) (hn : 1 ≤ n) (h : n * (dW v : Int) = d * (uW v : Int)) :
    raP n d = .tuple #[.agg #[.int .i64 (v 0), .int .i64 (v 1), .int .i64 (v 2), .int .i64 (v 3), .int .i64 (v 4), .int .i64 (v 5)], .int .i64 0] := by
  obtain ⟨b1, b2, b3, b4, b5⟩ := v_of hv
  have hG : rtG n d = true := by unfold rtG; simp; omega
  obtain ⟨N, rfl⟩ : ∃ N : Nat, n = (N : Int) := ⟨n.toNat, by omega⟩
  obtain ⟨D, rfl⟩ : ∃ D : Nat, d = (D : Int) := ⟨d.toNat, by omega⟩
  have hcop : Nat.Coprime N D := by
    have a1 : absF (N : Int) = N := by unfold absF; omega
    have a2 : absF (D : Int) = D := by unfold absF; omega
    rw [a1, a2] at b5
    exact b5
  obtain ⟨rfl, rfl⟩ := low_two hcop (ud_co v) (by exact_mod_cast h)
  have k1 := chN_sfx v
  have k2 := chN_sfx (fun i => -v i)
  have e1 : sfN v 6 = uW v := (sfN_all v).symm
  have e2 : sfN (fun i => -v i) 6 = dW v := (sfN_all _).symm
  rw [e1] at k1
  rw [e2] at k2
  have hr : ∀ i, i < 6 → raE3 (uW v) (dW v) i = v i := fun i hi => by
    unfold raE3
    rw [(k1 i (by omega)).2 hi, (k2 i (by omega)).2 hi]
    omega
  unfold raP
  rw [hG, if_pos rfl]
  simp only [Int.toNat_natCast]
  rw [if_pos (by rw [(k1 6 (Nat.le_refl _)).1, (k2 6 (Nat.le_refl _)).1]; rfl), hr 0 (by omega), hr 1 (by omega), hr 2 (by omega), hr 3 (by omega), hr 4 (by omega), hr 5 (by omega)]
end Go.Proofs.YtehifkdfbiebfaaDoor
