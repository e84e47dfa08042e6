/- Powers of the primes: plain laws. -/
import Derived.Test.YtgbiiaaeabflnaaDoorNatK
import Derived.Test.YtgbiiaaeabflnaaDoorPitA
import Derived.Test.YtgbiiaaeabflnaaDoorBlks
namespace Go.Proofs.YtgbiiaaeabflnaaDoor
open Go Go.RowKit

def pwF (b : Nat) (e : Int) : Nat := if 0 < e then b ^ e.toNat else 1
def prodF (fb : Nat → Nat) (fe : Nat → Int) : Nat → Nat
  | 0 => 1
  | i + 1 => prodF fb fe i * pwF (fb i) (fe i)
theorem lt_big {x k : Nat} (h : x ≤ 2 ^ k) (hk : k < 20480) : x < Cap := by
  obtain ⟨c, hc, e⟩ := cap_is
  rw [e, show (4294967296 : Nat) = 2 ^ 32 from rfl, ← Nat.pow_mul]
  exact Nat.lt_of_le_of_lt h (Nat.pow_lt_pow_right (by omega) (by omega))
theorem pwF_le {b c E : Nat} {e : Int} (hb : b ≤ 2 ^ c) (he : e ≤ E) : pwF b e ≤ 2 ^ (c * E) := by
  unfold pwF
  split
  · refine Nat.le_trans (Nat.pow_le_pow_left hb _) ?_
    rw [← Nat.pow_mul]
    exact Nat.pow_le_pow_right (by omega) (Nat.mul_le_mul_left _ (by omega))
  · exact Nat.one_le_two_pow
theorem pwF_le2 {b c E k : Nat} {e : Int} (hb : b ≤ 2 ^ c) (he : e ≤ E) (hk : c * E = k) : pwF b e ≤ 2 ^ k := hk ▸ pwF_le hb he
def sumF (g : Nat → Nat) : Nat → Nat
  | 0 => 0
  | i + 1 => sumF g i + g i
theorem prodF_le {fb : Nat → Nat} {fe : Nat → Int} {g : Nat → Nat} {k : Nat} (h : ∀ j, j < k → pwF (fb j) (fe j) ≤ 2 ^ g j) : ∀ i, i ≤ k → prodF fb fe i ≤ 2 ^ sumF g i
  | 0, _ => by simp [prodF, sumF]
  | i + 1, hi => by
    show prodF fb fe i * pwF (fb i) (fe i) ≤ 2 ^ (sumF g i + g i)
    rw [Nat.pow_add]
    exact Nat.mul_le_mul (prodF_le h i (by omega)) (h i (by omega))
theorem sumF_mono {g : Nat → Nat} {i k : Nat} (h : i ≤ k) : sumF g i ≤ sumF g k := by
  induction k with
  | zero => obtain rfl : i = 0 := by omega
            exact Nat.le_refl _
  | succ k ih =>
    by_cases e : i = k + 1
    · subst e; exact Nat.le_refl _
    · exact Nat.le_trans (ih (by omega)) (Nat.le_add_right _ _)
/-- The letters of the six primes. -/
def prm (i : Nat) : Nat := [2, 3, 5, 7, 11, 13].getD i 0
def pex (a b c d e f : Int) (i : Nat) : Int := [a, b, c, d, e, f].getD i 0
theorem lt6 {i : Nat} (h : i < 6) : i = 0 ∨ i = 1 ∨ i = 2 ∨ i = 3 ∨ i = 4 ∨ i = 5 := by omega
theorem pwF_pos {b : Nat} {e : Int} (h : 0 < b) : 0 < pwF b e := by
  unfold pwF
  split
  · exact Nat.pow_pos h
  · omega
theorem prodF_pos {fb : Nat → Nat} {fe : Nat → Int} {k : Nat} (h : ∀ j, j < k → 0 < fb j) : ∀ i, i ≤ k → 0 < prodF fb fe i
  | 0, _ => by simp [prodF]
  | i + 1, hi => Nat.mul_pos (prodF_pos h i (by omega)) (pwF_pos (h i (by omega)))
theorem prm_pos {i : Nat} (h : i < 6) : 2 ≤ prm i ∧ prm i ≤ 13 := by
  rcases lt6 h with rfl | rfl | rfl | rfl | rfl | rfl <;> simp [prm]
theorem prodF_mono {fb : Nat → Nat} {fe : Nat → Int} {k : Nat} (h : ∀ j, j < k → 0 < fb j) : ∀ i, i ≤ k → prodF fb fe i ≤ prodF fb fe k := by
  intro i hi
  induction k with
  | zero => obtain rfl : i = 0 := by omega
            exact Nat.le_refl _
  | succ k ih =>
    by_cases e : i = k + 1
    · subst e; exact Nat.le_refl _
    · have h1 := ih (fun j hj => h j (by omega)) (by omega)
      have h2 : 0 < pwF (fb k) (fe k) := pwF_pos (h k (by omega))
      refine Nat.le_trans h1 ?_
      show prodF fb fe k ≤ prodF fb fe k * pwF (fb k) (fe k)
      exact Nat.le_mul_of_pos_right _ h2
theorem idx_prm (i : Nat) (h : i < 6) (w : World) : (Instr.index 22 (.agg #[.int .i64 2, .int .i64 3, .int .i64 5, .int .i64 7, .int .i64 11, .int .i64 13]) (.int .i64 (i : Int))).run Tryd.prog w = .ok (.int .i64 (prm i : Int)) w := by
  rcases lt6 h with rfl | rfl | rfl | rfl | rfl | rfl
  · exact idx6_0 2 3 5 7 11 13 w
  · exact idx6_1 2 3 5 7 11 13 w
  · exact idx6_2 2 3 5 7 11 13 w
  · exact idx6_3 2 3 5 7 11 13 w
  · exact idx6_4 2 3 5 7 11 13 w
  · exact idx6_5 2 3 5 7 11 13 w
theorem vec_at {W : World} {g : Nat} {t : TypeId} {a b c d e f : Int} (B : Blk W g t #[.int .i64 a, .int .i64 b, .int .i64 c, .int .i64 d, .int .i64 e, .int .i64 f]) {i : Nat} (h : i < 6) : W.cell? ⟨g, i, none⟩ = some (.int .i64 (pex a b c d e f i)) := by
  have hc := B.cell i
  rcases lt6 h with rfl | rfl | rfl | rfl | rfl | rfl <;> exact hc
theorem pwF_toNat (b : Nat) (x : Int) : pwF b x = b ^ x.toNat := by
  unfold pwF
  split
  · rfl
  · rw [show x.toNat = 0 by omega, Nat.pow_zero]
/-- The exponents by a sign. -/
def sgE (s a b c d e f : Int) (i : Nat) : Int := s * pex a b c d e f i
theorem sgE_one (a b c d e f : Int) : sgE 1 a b c d e f = pex a b c d e f := by
  funext i
  exact Int.one_mul _
theorem sgE_neg (a b c d e f : Int) : sgE (-1) a b c d e f = fun i => -pex a b c d e f i := by
  funext i
  show -1 * pex a b c d e f i = _
  omega
def prH (i : Nat) : Nat := [1 * 1152, 2 * 1152, 3 * 1152, 3 * 1152, 4 * 1152, 4 * 1152].getD i 0
theorem sgE_bd2 {s a b c d e f : Int} (hs : s = 1 ∨ s = -1) (hp : pV a b c d e f 1152 = true) {i : Nat} (h : i < 6) : -1152 ≤ sgE s a b c d e f i ∧ sgE s a b c d e f i ≤ 1152 ∧ -1152 ≤ pex a b c d e f i ∧ pex a b c d e f i ≤ 1152 := by
  obtain ⟨h1, h2, h3, h4, h5, h6⟩ := pV_of hp
  have hx : -1152 ≤ pex a b c d e f i ∧ pex a b c d e f i ≤ 1152 := by
    rcases lt6 h with rfl | rfl | rfl | rfl | rfl | rfl
    · exact wi_of h1
    · exact wi_of h2
    · exact wi_of h3
    · exact wi_of h4
    · exact wi_of h5
    · exact wi_of h6
  unfold sgE
  rcases hs with rfl | rfl <;> omega
theorem sg_le3 {s a b c d e f : Int} (hs : s = 1 ∨ s = -1) (hp : pV a b c d e f 1152 = true) : ∀ i, i < 6 → pwF (prm i) (sgE s a b c d e f i) ≤ 2 ^ prH i := by
  intro i hi
  obtain ⟨_, hb, _⟩ := sgE_bd2 hs hp hi
  generalize sgE s a b c d e f i = g at *
  rcases lt6 hi with rfl | rfl | rfl | rfl | rfl | rfl
  · exact pwF_le2 (k := prH 0) (b := 2) (c := 1) (E := 1152) (by decide) (by omega) rfl
  · exact pwF_le2 (k := prH 1) (b := 3) (c := 2) (E := 1152) (by decide) (by omega) rfl
  · exact pwF_le2 (k := prH 2) (b := 5) (c := 3) (E := 1152) (by decide) (by omega) rfl
  · exact pwF_le2 (k := prH 3) (b := 7) (c := 3) (E := 1152) (by decide) (by omega) rfl
  · exact pwF_le2 (k := prH 4) (b := 11) (c := 4) (E := 1152) (by decide) (by omega) rfl
  · exact pwF_le2 (k := prH 5) (b := 13) (c := 4) (E := 1152) (by decide) (by omega) rfl
theorem sg_cap2 {s a b c d e f : Int} (hs : s = 1 ∨ s = -1) (hp : pV a b c d e f 1152 = true) : ∀ i, i ≤ 6 → prodF prm (sgE s a b c d e f) i < Cap := fun i hi => by
  have h1 := prodF_mono (fb := prm) (fe := sgE s a b c d e f) (k := 6) (fun j hj => by have := prm_pos hj; omega) i hi
  have h2 := prodF_le (sg_le3 hs hp) 6 (Nat.le_refl _)
  rw [show sumF prH 6 = 19584 from rfl] at h2
  exact lt_big (k := 19584) (Nat.le_trans h1 h2) (by omega)
def upN (a b c d e f : Int) : Nat := prodF prm (sgE 1 a b c d e f) 6
def dnN (a b c d e f : Int) : Nat := prodF prm (sgE (-1) a b c d e f) 6
theorem pw_three (P : Nat) (x y : Int) : pwF P x * pwF P (-y) * pwF P (-(x - y)) = pwF P y * pwF P (-x) * pwF P (x - y) := by
  simp only [pwF_toNat]
  rw [← Nat.pow_add, ← Nat.pow_add, ← Nat.pow_add, ← Nat.pow_add]
  congr 1
  omega
theorem prod_three {fb : Nat → Nat} {A B C D E F : Nat → Int} : ∀ n, (∀ i, i < n → pwF (fb i) (A i) * pwF (fb i) (B i) * pwF (fb i) (C i) = pwF (fb i) (D i) * pwF (fb i) (E i) * pwF (fb i) (F i)) → prodF fb A n * prodF fb B n * prodF fb C n = prodF fb D n * prodF fb E n * prodF fb F n
  | 0, _ => by simp [prodF]
  | n + 1, h => by
    have h1 := prod_three n (fun i hi => h i (by omega))
    have h2 := h n (by omega)
    show prodF fb A n * pwF (fb n) (A n) * (prodF fb B n * pwF (fb n) (B n)) * (prodF fb C n * pwF (fb n) (C n)) = prodF fb D n * pwF (fb n) (D n) * (prodF fb E n * pwF (fb n) (E n)) * (prodF fb F n * pwF (fb n) (F n))
    generalize prodF fb A n = a at *
    generalize prodF fb B n = b at *
    generalize prodF fb C n = c at *
    generalize prodF fb D n = d at *
    generalize prodF fb E n = e at *
    generalize prodF fb F n = f at *
    generalize pwF (fb n) (A n) = a' at *
    generalize pwF (fb n) (B n) = b' at *
    generalize pwF (fb n) (C n) = c' at *
    generalize pwF (fb n) (D n) = d' at *
    generalize pwF (fb n) (E n) = e' at *
    generalize pwF (fb n) (F n) = f' at *
    have e1 : a * a' * (b * b') * (c * c') = (a * b * c) * (a' * b' * c') := by grind
    have e2 : d * d' * (e * e') * (f * f') = (d * e * f) * (d' * e' * f') := by grind
    rw [e1, e2, h1, h2]
theorem up_dn (a b c d e f x y z s t u : Int) : upN a b c d e f * dnN x y z s t u * dnN (a - x) (b - y) (c - z) (d - s) (e - t) (f - u) = upN x y z s t u * dnN a b c d e f * upN (a - x) (b - y) (c - z) (d - s) (e - t) (f - u) := by
  unfold upN dnN
  rw [sgE_one, sgE_one, sgE_one, sgE_neg, sgE_neg, sgE_neg]
  refine prod_three 6 (fun i hi => ?_)
  rcases lt6 hi with rfl | rfl | rfl | rfl | rfl | rfl <;> exact pw_three _ _ _
theorem up_pos (a b c d e f : Int) : 0 < upN a b c d e f := by
  unfold upN
  exact prodF_pos (fun j hj => by have := prm_pos hj; omega) 6 (Nat.le_refl _)
theorem dn_pos (a b c d e f : Int) : 0 < dnN a b c d e f := by
  unfold dnN
  exact prodF_pos (fun j hj => by have := prm_pos hj; omega) 6 (Nat.le_refl _)
end Go.Proofs.YtgbiiaaeabflnaaDoor
