/- Beat: the products of Hertz, and how it compares. -/
import Derived.Test.YthlnfjllkmielaaBeatP
import Derived.Test.YthlnfjllkmielaaPitA
namespace Go.Proofs.Ythlnfjllkmielaa
open Go.RowKit

theorem lt_big {x k : Nat} (h : x ≤ 2 ^ k) (hk : k < 20480) : x < Cap := by
  obtain ⟨c, hc, e⟩ := cap_is
  rw [e, show (4294967296 : Nat) = 2 ^ 32 from rfl, ← Nat.pow_mul]
  exact Nat.lt_of_le_of_lt h (Nat.pow_lt_pow_right (by omega) (by omega))
theorem pwF_le {b c E : Nat} {e : Int} (hb : b ≤ 2 ^ c) (he : e ≤ E) : pwF b e ≤ 2 ^ (c * E) := by
  unfold pwF
  split
  · refine Nat.le_trans (Nat.pow_le_pow_left hb _) ?_
    rw [← Nat.pow_mul]
    exact Nat.pow_le_pow_right (by omega) (Nat.mul_le_mul_left _ (by omega))
  · exact Nat.one_le_two_pow
theorem pwF_le2 {b c E k : Nat} {e : Int} (hb : b ≤ 2 ^ c) (he : e ≤ E) (hk : c * E = k) : pwF b e ≤ 2 ^ k := hk ▸ pwF_le hb he
def sumF (g : Nat → Nat) : Nat → Nat
  | 0 => 0
  | i + 1 => sumF g i + g i
theorem prodF_le {fb : Nat → Nat} {fe : Nat → Int} {g : Nat → Nat} {k : Nat} (h : ∀ j, j < k → pwF (fb j) (fe j) ≤ 2 ^ g j) : ∀ i, i ≤ k → prodF fb fe i ≤ 2 ^ sumF g i
  | 0, _ => by simp [prodF, sumF]
  | i + 1, hi => by
    show prodF fb fe i * pwF (fb i) (fe i) ≤ 2 ^ (sumF g i + g i)
    rw [Nat.pow_add]
    exact Nat.mul_le_mul (prodF_le h i (by omega)) (h i (by omega))
theorem sumF_mono {g : Nat → Nat} {i k : Nat} (h : i ≤ k) : sumF g i ≤ sumF g k := by
  induction k with
  | zero => obtain rfl : i = 0 := by omega
            exact Nat.le_refl _
  | succ k ih =>
    by_cases e : i = k + 1
    · subst e; exact Nat.le_refl _
    · exact Nat.le_trans (ih (by omega)) (Nat.le_add_right _ _)
/-- The contract of product, with its bounds by powers of two. -/
theorem bproduct_g (bl k c : Nat) (fb : Nat → Nat) (fe : Nat → Int) (g : Nat → Nat) (w : World) (hbl : bl < w.heap.size) (hc : ∀ i, i < k → w.cell? ⟨bl, i * 2, none⟩ = some (.int .i64 (fb i)) ∧ w.cell? ⟨bl, i * 2 + 1, none⟩ = some (.int .i64 (fe i)))
    (hk : k ≤ 100) (hfb : ∀ i, i < k → fb i ≤ 1000000000000000000) (hfe : ∀ i, i < k → fe i ≤ 20000) (hg : ∀ i, i < k → pwF (fb i) (fe i) ≤ 2 ^ g i) (hs : sumF g k < 20480) :
    Calls Try.prog 50 #[.slice (some ⟨bl, 0, none⟩) k c] w (NumP (prodF fb fe k) w) :=
  bproduct_c bl k c fb fe w (fun _ => hbl) hc hk hfb hfe (fun i hi => lt_big (hg i hi) (Nat.lt_of_le_of_lt (Nat.le_trans (Nat.le_add_left _ _) (sumF_mono (show i + 1 ≤ k from hi))) hs))
    (fun i hi => lt_big (prodF_le hg i hi) (Nat.lt_of_le_of_lt (sumF_mono hi) hs))
theorem prod_one (b : Nat) (e : Int) (h : 0 < e) : prodF (fun _ => b) (fun _ => e) 1 = b ^ e.toNat := by
  show 1 * pwF b e = _
  rw [Nat.one_mul, pwF, if_pos h]
/-- One factor. -/
theorem bprod1_c (W : World) (q : Nat) (b : Nat) (hb : b ≤ 100000000000000000) (B : Blk W q 74 #[.int .i64 (b : Int), .int .i64 12]) : Calls Try.prog 50 #[.slice (some ⟨q, 0, none⟩) 1 1] W (NumP (b ^ 12) W) := by
  have h := bproduct_g q 1 1 (fun _ => b) (fun _ => 12) (fun _ => 57 * 12) _ B.lt (fun i hi => by
    obtain rfl : i = 0 := by omega
    exact ⟨B.cell 0, B.cell 1⟩) (by omega) (fun _ _ => by omega) (fun _ _ => by omega) (fun _ _ => pwF_le (Nat.le_trans hb (by decide)) (by omega)) (by simp [sumF])
  rw [prod_one _ _ (by omega)] at h
  exact h
/-- The letters of the six primes. -/
def prm (i : Nat) : Nat := [2, 3, 5, 7, 11, 13].getD i 0
def pex (a b c d e f : Int) (i : Nat) : Int := [a, b, c, d, e, f].getD i 0
def goB (z : Nat) (i : Nat) : Nat := [z, 2, 3, 5, 7, 11, 13].getD i 0
def goE (a b c d e f : Int) (i : Nat) : Int := [12, a, b, c, d, e, f].getD i 0
def goalN (z : Nat) (a b c d e f : Int) : Nat := prodF (goB z) (goE a b c d e f) 7
def restN (a b c d e f : Int) : Nat := prodF prm (fun i => -pex a b c d e f i) 6
theorem lt7 {i : Nat} (h : i < 7) : i = 0 ∨ i = 1 ∨ i = 2 ∨ i = 3 ∨ i = 4 ∨ i = 5 ∨ i = 6 := by omega
theorem lt6 {i : Nat} (h : i < 6) : i = 0 ∨ i = 1 ∨ i = 2 ∨ i = 3 ∨ i = 4 ∨ i = 5 := by omega
def goG (i : Nat) : Nat := [50 * 12, 1 * 576, 2 * 576, 3 * 576, 3 * 576, 4 * 576, 4 * 576].getD i 0
def prG (i : Nat) : Nat := [1 * 576, 2 * 576, 3 * 576, 3 * 576, 4 * 576, 4 * 576].getD i 0
theorem goG_le {z : Nat} {a b c d e f : Int} (hz : z ≤ 1000000000000000) (hp : pV a b c d e f 576 = true) : ∀ i, i < 7 → pwF (goB z i) (goE a b c d e f i) ≤ 2 ^ goG i := by
  obtain ⟨h1, h2, h3, h4, h5, h6⟩ := pV_of hp
  have h1 := wi_of h1; have h2 := wi_of h2; have h3 := wi_of h3; have h4 := wi_of h4; have h5 := wi_of h5; have h6 := wi_of h6
  intro i hi
  rcases lt7 hi with rfl | rfl | rfl | rfl | rfl | rfl | rfl
  · exact pwF_le2 (k := goG 0) (b := z) (c := 50) (E := 12) (e := 12) (Nat.le_trans hz (by decide)) (by omega) rfl
  · exact pwF_le2 (k := goG 1) (b := 2) (c := 1) (E := 576) (e := a) (by decide) (by omega) rfl
  · exact pwF_le2 (k := goG 2) (b := 3) (c := 2) (E := 576) (e := b) (by decide) (by omega) rfl
  · exact pwF_le2 (k := goG 3) (b := 5) (c := 3) (E := 576) (e := c) (by decide) (by omega) rfl
  · exact pwF_le2 (k := goG 4) (b := 7) (c := 3) (E := 576) (e := d) (by decide) (by omega) rfl
  · exact pwF_le2 (k := goG 5) (b := 11) (c := 4) (E := 576) (e := e) (by decide) (by omega) rfl
  · exact pwF_le2 (k := goG 6) (b := 13) (c := 4) (E := 576) (e := f) (by decide) (by omega) rfl
theorem prG_le {a b c d e f : Int} (hp : pV a b c d e f 576 = true) : ∀ i, i < 6 → pwF (prm i) (-pex a b c d e f i) ≤ 2 ^ prG i := by
  obtain ⟨h1, h2, h3, h4, h5, h6⟩ := pV_of hp
  have h1 := wi_of h1; have h2 := wi_of h2; have h3 := wi_of h3; have h4 := wi_of h4; have h5 := wi_of h5; have h6 := wi_of h6
  intro i hi
  rcases lt6 hi with rfl | rfl | rfl | rfl | rfl | rfl
  · exact pwF_le2 (k := prG 0) (b := 2) (c := 1) (E := 576) (e := -a) (by decide) (by omega) rfl
  · exact pwF_le2 (k := prG 1) (b := 3) (c := 2) (E := 576) (e := -b) (by decide) (by omega) rfl
  · exact pwF_le2 (k := prG 2) (b := 5) (c := 3) (E := 576) (e := -c) (by decide) (by omega) rfl
  · exact pwF_le2 (k := prG 3) (b := 7) (c := 3) (E := 576) (e := -d) (by decide) (by omega) rfl
  · exact pwF_le2 (k := prG 4) (b := 11) (c := 4) (E := 576) (e := -e) (by decide) (by omega) rfl
  · exact pwF_le2 (k := prG 5) (b := 13) (c := 4) (E := 576) (e := -f) (by decide) (by omega) rfl
theorem goal_le {z : Nat} {a b c d e f : Int} (hz : z ≤ 1000000000000000) (hp : pV a b c d e f 576 = true) : goalN z a b c d e f ≤ 2 ^ 10392 := by
  have h := prodF_le (goG_le hz hp) 7 (Nat.le_refl _)
  rw [show sumF goG 7 = 10392 from rfl] at h
  exact h
theorem rest_le {a b c d e f : Int} (hp : pV a b c d e f 576 = true) : restN a b c d e f ≤ 2 ^ 9792 := by
  have h := prodF_le (prG_le hp) 6 (Nat.le_refl _)
  rw [show sumF prG 6 = 9792 from rfl] at h
  exact h
theorem bprod7_c (W : World) (q : Nat) (z : Nat) (a b c d e f : Int) (hz : z ≤ 1000000000000000) (hp : pV a b c d e f 576 = true) (B : Blk W q 74 #[.int .i64 (z : Int), .int .i64 12, .int .i64 2, .int .i64 a, .int .i64 3, .int .i64 b, .int .i64 5, .int .i64 c, .int .i64 7, .int .i64 d, .int .i64 11, .int .i64 e, .int .i64 13, .int .i64 f]) : Calls Try.prog 50 #[.slice (some ⟨q, 0, none⟩) 7 7] W (NumP (goalN z a b c d e f) W) := by
  have hgo := goG_le hz hp
  obtain ⟨h1, h2, h3, h4, h5, h6⟩ := pV_of hp
  have h1 := wi_of h1; have h2 := wi_of h2; have h3 := wi_of h3; have h4 := wi_of h4; have h5 := wi_of h5; have h6 := wi_of h6
  refine bproduct_g q 7 7 (goB z) (goE a b c d e f) goG _ B.lt (fun i hi => ?_) (by omega) (fun i hi => ?_) (fun i hi => ?_) hgo (by simp [sumF, goG])
  · rcases lt7 hi with rfl | rfl | rfl | rfl | rfl | rfl | rfl
    · exact ⟨B.cell 0, B.cell 1⟩
    · exact ⟨B.cell 2, B.cell 3⟩
    · exact ⟨B.cell 4, B.cell 5⟩
    · exact ⟨B.cell 6, B.cell 7⟩
    · exact ⟨B.cell 8, B.cell 9⟩
    · exact ⟨B.cell 10, B.cell 11⟩
    · exact ⟨B.cell 12, B.cell 13⟩
  · rcases lt7 hi with rfl | rfl | rfl | rfl | rfl | rfl | rfl <;> simp [goB] <;> omega
  · rcases lt7 hi with rfl | rfl | rfl | rfl | rfl | rfl | rfl <;> simp [goE] <;> omega
theorem bprod6_c (W : World) (q : Nat) (a b c d e f : Int) (hp : pV a b c d e f 576 = true) (B : Blk W q 74 #[.int .i64 2, .int .i64 (-a), .int .i64 3, .int .i64 (-b), .int .i64 5, .int .i64 (-c), .int .i64 7, .int .i64 (-d), .int .i64 11, .int .i64 (-e), .int .i64 13, .int .i64 (-f)]) : Calls Try.prog 50 #[.slice (some ⟨q, 0, none⟩) 6 6] W (NumP (restN a b c d e f) W) := by
  have hgo := prG_le hp
  obtain ⟨h1, h2, h3, h4, h5, h6⟩ := pV_of hp
  have h1 := wi_of h1; have h2 := wi_of h2; have h3 := wi_of h3; have h4 := wi_of h4; have h5 := wi_of h5; have h6 := wi_of h6
  refine bproduct_g q 6 6 prm (fun i => -pex a b c d e f i) prG _ B.lt (fun i hi => ?_) (by omega) (fun i hi => ?_) (fun i hi => ?_) hgo (by simp [sumF, prG])
  · rcases lt6 hi with rfl | rfl | rfl | rfl | rfl | rfl
    · exact ⟨B.cell 0, B.cell 1⟩
    · exact ⟨B.cell 2, B.cell 3⟩
    · exact ⟨B.cell 4, B.cell 5⟩
    · exact ⟨B.cell 6, B.cell 7⟩
    · exact ⟨B.cell 8, B.cell 9⟩
    · exact ⟨B.cell 10, B.cell 11⟩
  · rcases lt6 hi with rfl | rfl | rfl | rfl | rfl | rfl <;> simp [prm] <;> omega
  · rcases lt6 hi with rfl | rfl | rfl | rfl | rfl | rfl <;> simp [pex] <;> omega
end Go.Proofs.Ythlnfjllkmielaa
