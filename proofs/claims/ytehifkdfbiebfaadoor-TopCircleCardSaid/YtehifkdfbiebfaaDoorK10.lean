/- Beat: the products of Hertz, and how it compares. Beat: the comparison inside Hertz; sort.Search over it. -/
import Derived.Test.YtehifkdfbiebfaaDoorK08
import Derived.Test.YtehifkdfbiebfaaDoorK09
namespace Go.Proofs.YtehifkdfbiebfaaDoor
open Go.RowKit

theorem lt_big {x k : Nat} (h : x ≤ 2 ^ k) (hk : k < 20480) : x < Cap := by
  obtain ⟨c, hc, e⟩ := cap_is
  rw [e, show (4294967296 : Nat) = 2 ^ 32 from rfl, ← Nat.pow_mul]
  exact Nat.lt_of_le_of_lt h (Nat.pow_lt_pow_right (by omega) (by omega))
theorem pwF_le {b c E : Nat} {e : Int} (hb : b ≤ 2 ^ c) (he : e ≤ E) : pwF b e ≤ 2 ^ (c * E) := by
  unfold pwF
  split
  · refine Nat.le_trans (Nat.pow_le_pow_left hb _) ?_
    rw [← Nat.pow_mul]
    exact Nat.pow_le_pow_right (by omega) (Nat.mul_le_mul_left _ (by omega))
  · exact Nat.one_le_two_pow
theorem pwF_le2 {b c E k : Nat} {e : Int} (hb : b ≤ 2 ^ c) (he : e ≤ E) (hk : c * E = k) : pwF b e ≤ 2 ^ k := hk ▸ pwF_le hb he
def sumF (g : Nat → Nat) : Nat → Nat
  | 0 => 0
  | i + 1 => sumF g i + g i
theorem prodF_le {fb : Nat → Nat} {fe : Nat → Int} {g : Nat → Nat} {k : Nat} (h : ∀ j, j < k → pwF (fb j) (fe j) ≤ 2 ^ g j) : ∀ i, i ≤ k → prodF fb fe i ≤ 2 ^ sumF g i
  | 0, _ => by simp [prodF, sumF]
  | i + 1, hi => by
    show prodF fb fe i * pwF (fb i) (fe i) ≤ 2 ^ (sumF g i + g i)
    rw [Nat.pow_add]
    exact Nat.mul_le_mul (prodF_le h i (by omega)) (h i (by omega))
theorem sumF_mono {g : Nat → Nat} {i k : Nat} (h : i ≤ k) : sumF g i ≤ sumF g k := by
  induction k with
  | zero => obtain rfl : i = 0 := by omega
            exact Nat.le_refl _
  | succ k ih =>
    by_cases e : i = k + 1
    · subst e; exact Nat.le_refl _
    · exact Nat.le_trans (ih (by omega)) (Nat.le_add_right _ _)
theorem prod_one (b : Nat) (e : Int) (h : 0 < e) : prodF (fun _ => b) (fun _ => e) 1 = b ^ e.toNat := by
  show 1 * pwF b e = _
  rw [Nat.one_mul, pwF, if_pos h]
/-- The letters of the six primes. -/
def prm (i : Nat) : Nat := [2, 3, 5, 7, 11, 13].getD i 0
def pex (a b c d e f : Int) (i : Nat) : Int := [a, b, c, d, e, f].getD i 0
def goB (z : Nat) (i : Nat) : Nat := [z, 2, 3, 5, 7, 11, 13].getD i 0
def goE (a b c d e f : Int) (i : Nat) : Int := [12, a, b, c, d, e, f].getD i 0
def goalN (z : Nat) (a b c d e f : Int) : Nat := prodF (goB z) (goE a b c d e f) 7
def restN (a b c d e f : Int) : Nat := prodF prm (fun i => -pex a b c d e f i) 6
theorem lt7 {i : Nat} (h : i < 7) : i = 0 ∨ i = 1 ∨ i = 2 ∨ i = 3 ∨ i = 4 ∨ i = 5 ∨ i = 6 := by omega
theorem lt6 {i : Nat} (h : i < 6) : i = 0 ∨ i = 1 ∨ i = 2 ∨ i = 3 ∨ i = 4 ∨ i = 5 := by omega
def goG (i : Nat) : Nat := [50 * 12, 1 * 576, 2 * 576, 3 * 576, 3 * 576, 4 * 576, 4 * 576].getD i 0
def prG (i : Nat) : Nat := [1 * 576, 2 * 576, 3 * 576, 3 * 576, 4 * 576, 4 * 576].getD i 0
theorem goG_le {z : Nat} {a b c d e f : Int} (hz : z ≤ 1000000000000000) (hp : pV a b c d e f 576 = true) : ∀ i, i < 7 → pwF (goB z i) (goE a b c d e f i) ≤ 2 ^ goG i := by
  obtain ⟨h1, h2, h3, h4, h5, h6⟩ := pV_of hp
  have h1 := wi_of h1; have h2 := wi_of h2; have h3 := wi_of h3; have h4 := wi_of h4; have h5 := wi_of h5; have h6 := wi_of h6
  intro i hi
  rcases lt7 hi with rfl | rfl | rfl | rfl | rfl | rfl | rfl
  · exact pwF_le2 (k := goG 0) (b := z) (c := 50) (E := 12) (e := 12) (Nat.le_trans hz (by decide)) (by omega) rfl
  · exact pwF_le2 (k := goG 1) (b := 2) (c := 1) (E := 576) (e := a) (by decide) (by omega) rfl
  · exact pwF_le2 (k := goG 2) (b := 3) (c := 2) (E := 576) (e := b) (by decide) (by omega) rfl
  · exact pwF_le2 (k := goG 3) (b := 5) (c := 3) (E := 576) (e := c) (by decide) (by omega) rfl
  · exact pwF_le2 (k := goG 4) (b := 7) (c := 3) (E := 576) (e := d) (by decide) (by omega) rfl
  · exact pwF_le2 (k := goG 5) (b := 11) (c := 4) (E := 576) (e := e) (by decide) (by omega) rfl
  · exact pwF_le2 (k := goG 6) (b := 13) (c := 4) (E := 576) (e := f) (by decide) (by omega) rfl
theorem prG_le {a b c d e f : Int} (hp : pV a b c d e f 576 = true) : ∀ i, i < 6 → pwF (prm i) (-pex a b c d e f i) ≤ 2 ^ prG i := by
  obtain ⟨h1, h2, h3, h4, h5, h6⟩ := pV_of hp
  have h1 := wi_of h1; have h2 := wi_of h2; have h3 := wi_of h3; have h4 := wi_of h4; have h5 := wi_of h5; have h6 := wi_of h6
  intro i hi
  rcases lt6 hi with rfl | rfl | rfl | rfl | rfl | rfl
  · exact pwF_le2 (k := prG 0) (b := 2) (c := 1) (E := 576) (e := -a) (by decide) (by omega) rfl
  · exact pwF_le2 (k := prG 1) (b := 3) (c := 2) (E := 576) (e := -b) (by decide) (by omega) rfl
  · exact pwF_le2 (k := prG 2) (b := 5) (c := 3) (E := 576) (e := -c) (by decide) (by omega) rfl
  · exact pwF_le2 (k := prG 3) (b := 7) (c := 3) (E := 576) (e := -d) (by decide) (by omega) rfl
  · exact pwF_le2 (k := prG 4) (b := 11) (c := 4) (E := 576) (e := -e) (by decide) (by omega) rfl
  · exact pwF_le2 (k := prG 5) (b := 13) (c := 4) (E := 576) (e := -f) (by decide) (by omega) rfl
theorem goal_le {z : Nat} {a b c d e f : Int} (hz : z ≤ 1000000000000000) (hp : pV a b c d e f 576 = true) : goalN z a b c d e f ≤ 2 ^ 10392 := by
  have h := prodF_le (goG_le hz hp) 7 (Nat.le_refl _)
  rw [show sumF goG 7 = 10392 from rfl] at h
  exact h
theorem rest_le {a b c d e f : Int} (hp : pV a b c d e f 576 = true) : restN a b c d e f ≤ 2 ^ 9792 := by
  have h := prodF_le (prG_le hp) 6 (Nat.le_refl _)
  rw [show sumF prG 6 = 9792 from rfl] at h
  exact h
end Go.Proofs.YtehifkdfbiebfaaDoor
namespace Go.Proofs.YtehifkdfbiebfaaDoor
open Go.RowKit

/-- How k / d compares with the frequency. -/
def hzO (D R G k : Nat) : Int := ordZ (((k * D) ^ 12 * R : Nat) : Int) (G : Int)
structure HzW (A R G br nr cr bg ng cg D r g : Nat) (w : World) : Prop where
  dc : w.cell? ⟨A, 1, none⟩ = some (.int .i64 (D : Int))
  rc : w.cell? ⟨R, 0, none⟩ = some (.slice (some ⟨br, 0, none⟩) nr cr)
  gc : w.cell? ⟨G, 0, none⟩ = some (.slice (some ⟨bg, 0, none⟩) ng cg)
  rn : Num w w.heap.size br nr r
  gn : Num w w.heap.size bg ng g
theorem HzW.up {A R G br nr cr bg ng cg D r g : Nat} {w w' : World} (h : HzW A R G br nr cr bg ng cg D r g w) (hb : Below w.heap.size w w') : HzW A R G br nr cr bg ng cg D r g w' :=
  ⟨keep_cell hb h.dc, keep_cell hb h.rc, keep_cell hb h.gc, h.rn.up hb, h.gn.up hb⟩

theorem pow_le_two {a k m n : Nat} (h : a ≤ 2 ^ m) (hn : m * k ≤ n) : a ^ k ≤ 2 ^ n := by
  refine Nat.le_trans (Nat.pow_le_pow_left h k) ?_
  rw [← Nat.pow_mul]
  exact Nat.pow_le_pow_right (by omega) hn

/-- What the search asks. -/
def hzB (D R G k : Nat) : Bool := decide (0 ≤ hzO D R G k)

/-- What the search leaves. -/
def SeaP (p : Nat → Bool) (n : Nat) (w : World) (e : Ending) (w' : World) : Prop := Below w.heap.size w w' ∧ ∃ r : Nat, r ≤ n ∧ e = .returned (.int .i64 (r : Int)) ∧ (∀ i, i < r → p i = false) ∧ (∀ i, r ≤ i → i < n → p i = true)
end Go.Proofs.YtehifkdfbiebfaaDoor
