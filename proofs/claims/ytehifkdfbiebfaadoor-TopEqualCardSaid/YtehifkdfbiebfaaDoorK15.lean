/- Powers of the primes: plain laws. Pitch: plain laws of the order. -/
import Derived.Test.YtehifkdfbiebfaaDoorK13
import Derived.Test.YtehifkdfbiebfaaDoorK14
import Derived.Test.YtehifkdfbiebfaaDoorK01
namespace Go.Proofs.YtehifkdfbiebfaaDoor
open Go Go.RowKit

def pwF (b : Nat) (e : Int) : Nat := if 0 < e then b ^ e.toNat else 1
def prodF (fb : Nat → Nat) (fe : Nat → Int) : Nat → Nat
  | 0 => 1
  | i + 1 => prodF fb fe i * pwF (fb i) (fe i)
theorem lt_big {x k : Nat} (h : x ≤ 2 ^ k) (hk : k < 20480) : x < Cap := by
  obtain ⟨c, hc, e⟩ := cap_is
  rw [e, show (4294967296 : Nat) = 2 ^ 32 from rfl, ← Nat.pow_mul]
  exact Nat.lt_of_le_of_lt h (Nat.pow_lt_pow_right (by omega) (by omega))
theorem pwF_le {b c E : Nat} {e : Int} (hb : b ≤ 2 ^ c) (he : e ≤ E) : pwF b e ≤ 2 ^ (c * E) := by
  unfold pwF
  split
  · refine Nat.le_trans (Nat.pow_le_pow_left hb _) ?_
    rw [← Nat.pow_mul]
    exact Nat.pow_le_pow_right (by omega) (Nat.mul_le_mul_left _ (by omega))
  · exact Nat.one_le_two_pow
theorem pwF_le2 {b c E k : Nat} {e : Int} (hb : b ≤ 2 ^ c) (he : e ≤ E) (hk : c * E = k) : pwF b e ≤ 2 ^ k := hk ▸ pwF_le hb he
def sumF (g : Nat → Nat) : Nat → Nat
  | 0 => 0
  | i + 1 => sumF g i + g i
theorem prodF_le {fb : Nat → Nat} {fe : Nat → Int} {g : Nat → Nat} {k : Nat} (h : ∀ j, j < k → pwF (fb j) (fe j) ≤ 2 ^ g j) : ∀ i, i ≤ k → prodF fb fe i ≤ 2 ^ sumF g i
  | 0, _ => by simp [prodF, sumF]
  | i + 1, hi => by
    show prodF fb fe i * pwF (fb i) (fe i) ≤ 2 ^ (sumF g i + g i)
    rw [Nat.pow_add]
    exact Nat.mul_le_mul (prodF_le h i (by omega)) (h i (by omega))
theorem sumF_mono {g : Nat → Nat} {i k : Nat} (h : i ≤ k) : sumF g i ≤ sumF g k := by
  induction k with
  | zero => obtain rfl : i = 0 := by omega
            exact Nat.le_refl _
  | succ k ih =>
    by_cases e : i = k + 1
    · subst e; exact Nat.le_refl _
    · exact Nat.le_trans (ih (by omega)) (Nat.le_add_right _ _)
/-- The letters of the six primes. -/
def prm (i : Nat) : Nat := [2, 3, 5, 7, 11, 13].getD i 0
def pex (a b c d e f : Int) (i : Nat) : Int := [a, b, c, d, e, f].getD i 0
theorem lt6 {i : Nat} (h : i < 6) : i = 0 ∨ i = 1 ∨ i = 2 ∨ i = 3 ∨ i = 4 ∨ i = 5 := by omega
theorem pwF_pos {b : Nat} {e : Int} (h : 0 < b) : 0 < pwF b e := by
  unfold pwF
  split
  · exact Nat.pow_pos h
  · omega
theorem prodF_pos {fb : Nat → Nat} {fe : Nat → Int} {k : Nat} (h : ∀ j, j < k → 0 < fb j) : ∀ i, i ≤ k → 0 < prodF fb fe i
  | 0, _ => by simp [prodF]
  | i + 1, hi => Nat.mul_pos (prodF_pos h i (by omega)) (pwF_pos (h i (by omega)))
theorem prm_pos {i : Nat} (h : i < 6) : 2 ≤ prm i ∧ prm i ≤ 13 := by
  rcases lt6 h with rfl | rfl | rfl | rfl | rfl | rfl <;> simp [prm]
theorem prodF_mono {fb : Nat → Nat} {fe : Nat → Int} {k : Nat} (h : ∀ j, j < k → 0 < fb j) : ∀ i, i ≤ k → prodF fb fe i ≤ prodF fb fe k := by
  intro i hi
  induction k with
  | zero => obtain rfl : i = 0 := by omega
            exact Nat.le_refl _
  | succ k ih =>
    by_cases e : i = k + 1
    · subst e; exact Nat.le_refl _
    · have h1 := ih (fun j hj => h j (by omega)) (by omega)
      have h2 : 0 < pwF (fb k) (fe k) := pwF_pos (h k (by omega))
      refine Nat.le_trans h1 ?_
      show prodF fb fe k ≤ prodF fb fe k * pwF (fb k) (fe k)
      exact Nat.le_mul_of_pos_right _ h2
theorem idx_prm (i : Nat) (h : i < 6) (w : World) : (Instr.index 26 (.agg #[.int .i64 2, .int .i64 3, .int .i64 5, .int .i64 7, .int .i64 11, .int .i64 13]) (.int .i64 (i : Int))).run Tryd.prog w = .ok (.int .i64 (prm i : Int)) w := by
  rcases lt6 h with rfl | rfl | rfl | rfl | rfl | rfl
  · exact idx6_0 2 3 5 7 11 13 w
  · exact idx6_1 2 3 5 7 11 13 w
  · exact idx6_2 2 3 5 7 11 13 w
  · exact idx6_3 2 3 5 7 11 13 w
  · exact idx6_4 2 3 5 7 11 13 w
  · exact idx6_5 2 3 5 7 11 13 w
theorem vec_at {W : World} {g : Nat} {t : TypeId} {a b c d e f : Int} (B : Blk W g t #[.int .i64 a, .int .i64 b, .int .i64 c, .int .i64 d, .int .i64 e, .int .i64 f]) {i : Nat} (h : i < 6) : W.cell? ⟨g, i, none⟩ = some (.int .i64 (pex a b c d e f i)) := by
  have hc := B.cell i
  rcases lt6 h with rfl | rfl | rfl | rfl | rfl | rfl <;> exact hc
theorem pwF_toNat (b : Nat) (x : Int) : pwF b x = b ^ x.toNat := by
  unfold pwF
  split
  · rfl
  · rw [show x.toNat = 0 by omega, Nat.pow_zero]
/-- The exponents by a sign. -/
def sgE (s a b c d e f : Int) (i : Nat) : Int := s * pex a b c d e f i
theorem sgE_one (a b c d e f : Int) : sgE 1 a b c d e f = pex a b c d e f := by
  funext i
  exact Int.one_mul _
theorem sgE_neg (a b c d e f : Int) : sgE (-1) a b c d e f = fun i => -pex a b c d e f i := by
  funext i
  show -1 * pex a b c d e f i = _
  omega
def prH (i : Nat) : Nat := [1 * 1152, 2 * 1152, 3 * 1152, 3 * 1152, 4 * 1152, 4 * 1152].getD i 0
theorem sgE_bd2 {s a b c d e f : Int} (hs : s = 1 ∨ s = -1) (hp : pV a b c d e f 1152 = true) {i : Nat} (h : i < 6) : -1152 ≤ sgE s a b c d e f i ∧ sgE s a b c d e f i ≤ 1152 ∧ -1152 ≤ pex a b c d e f i ∧ pex a b c d e f i ≤ 1152 := by
  obtain ⟨h1, h2, h3, h4, h5, h6⟩ := pV_of hp
  have hx : -1152 ≤ pex a b c d e f i ∧ pex a b c d e f i ≤ 1152 := by
    rcases lt6 h with rfl | rfl | rfl | rfl | rfl | rfl
    · exact wi_of h1
    · exact wi_of h2
    · exact wi_of h3
    · exact wi_of h4
    · exact wi_of h5
    · exact wi_of h6
  unfold sgE
  rcases hs with rfl | rfl <;> omega
theorem sg_le3 {s a b c d e f : Int} (hs : s = 1 ∨ s = -1) (hp : pV a b c d e f 1152 = true) : ∀ i, i < 6 → pwF (prm i) (sgE s a b c d e f i) ≤ 2 ^ prH i := by
  intro i hi
  obtain ⟨_, hb, _⟩ := sgE_bd2 hs hp hi
  generalize sgE s a b c d e f i = g at *
  rcases lt6 hi with rfl | rfl | rfl | rfl | rfl | rfl
  · exact pwF_le2 (k := prH 0) (b := 2) (c := 1) (E := 1152) (by decide) (by omega) rfl
  · exact pwF_le2 (k := prH 1) (b := 3) (c := 2) (E := 1152) (by decide) (by omega) rfl
  · exact pwF_le2 (k := prH 2) (b := 5) (c := 3) (E := 1152) (by decide) (by omega) rfl
  · exact pwF_le2 (k := prH 3) (b := 7) (c := 3) (E := 1152) (by decide) (by omega) rfl
  · exact pwF_le2 (k := prH 4) (b := 11) (c := 4) (E := 1152) (by decide) (by omega) rfl
  · exact pwF_le2 (k := prH 5) (b := 13) (c := 4) (E := 1152) (by decide) (by omega) rfl
theorem sg_cap2 {s a b c d e f : Int} (hs : s = 1 ∨ s = -1) (hp : pV a b c d e f 1152 = true) : ∀ i, i ≤ 6 → prodF prm (sgE s a b c d e f) i < Cap := fun i hi => by
  have h1 := prodF_mono (fb := prm) (fe := sgE s a b c d e f) (k := 6) (fun j hj => by have := prm_pos hj; omega) i hi
  have h2 := prodF_le (sg_le3 hs hp) 6 (Nat.le_refl _)
  rw [show sumF prH 6 = 19584 from rfl] at h2
  exact lt_big (k := 19584) (Nat.le_trans h1 h2) (by omega)
def upN (a b c d e f : Int) : Nat := prodF prm (sgE 1 a b c d e f) 6
def dnN (a b c d e f : Int) : Nat := prodF prm (sgE (-1) a b c d e f) 6
theorem pw_three (P : Nat) (x y : Int) : pwF P x * pwF P (-y) * pwF P (-(x - y)) = pwF P y * pwF P (-x) * pwF P (x - y) := by
  simp only [pwF_toNat]
  rw [← Nat.pow_add, ← Nat.pow_add, ← Nat.pow_add, ← Nat.pow_add]
  congr 1
  omega
theorem prod_three {fb : Nat → Nat} {A B C D E F : Nat → Int} : ∀ n, (∀ i, i < n → pwF (fb i) (A i) * pwF (fb i) (B i) * pwF (fb i) (C i) = pwF (fb i) (D i) * pwF (fb i) (E i) * pwF (fb i) (F i)) → prodF fb A n * prodF fb B n * prodF fb C n = prodF fb D n * prodF fb E n * prodF fb F n
  | 0, _ => by simp [prodF]
  | n + 1, h => by
    have h1 := prod_three n (fun i hi => h i (by omega))
    have h2 := h n (by omega)
    show prodF fb A n * pwF (fb n) (A n) * (prodF fb B n * pwF (fb n) (B n)) * (prodF fb C n * pwF (fb n) (C n)) = prodF fb D n * pwF (fb n) (D n) * (prodF fb E n * pwF (fb n) (E n)) * (prodF fb F n * pwF (fb n) (F n))
    generalize prodF fb A n = a at *
    generalize prodF fb B n = b at *
    generalize prodF fb C n = c at *
    generalize prodF fb D n = d at *
    generalize prodF fb E n = e at *
    generalize prodF fb F n = f at *
    generalize pwF (fb n) (A n) = a' at *
    generalize pwF (fb n) (B n) = b' at *
    generalize pwF (fb n) (C n) = c' at *
    generalize pwF (fb n) (D n) = d' at *
    generalize pwF (fb n) (E n) = e' at *
    generalize pwF (fb n) (F n) = f' at *
    have e1 : a * a' * (b * b') * (c * c') = (a * b * c) * (a' * b' * c') := by grind
    have e2 : d * d' * (e * e') * (f * f') = (d * e * f) * (d' * e' * f') := by grind
    rw [e1, e2, h1, h2]
theorem up_dn (a b c d e f x y z s t u : Int) : upN a b c d e f * dnN x y z s t u * dnN (a - x) (b - y) (c - z) (d - s) (e - t) (f - u) = upN x y z s t u * dnN a b c d e f * upN (a - x) (b - y) (c - z) (d - s) (e - t) (f - u) := by
  unfold upN dnN
  rw [sgE_one, sgE_one, sgE_one, sgE_neg, sgE_neg, sgE_neg]
  refine prod_three 6 (fun i hi => ?_)
  rcases lt6 hi with rfl | rfl | rfl | rfl | rfl | rfl <;> exact pw_three _ _ _
theorem up_pos (a b c d e f : Int) : 0 < upN a b c d e f := by
  unfold upN
  exact prodF_pos (fun j hj => by have := prm_pos hj; omega) 6 (Nat.le_refl _)
theorem dn_pos (a b c d e f : Int) : 0 < dnN a b c d e f := by
  unfold dnN
  exact prodF_pos (fun j hj => by have := prm_pos hj; omega) 6 (Nat.le_refl _)
end Go.Proofs.YtehifkdfbiebfaaDoor
namespace Go.Proofs.YtehifkdfbiebfaaDoor
open Go Go.RowKit

/-- How two pitches stand to each other. -/
def cmP (a b c d e f x y z s t u : Int) : Int := ordZ ((upN (a - x) (b - y) (c - z) (d - s) (e - t) (f - u) : Nat) : Int) ((dnN (a - x) (b - y) (c - z) (d - s) (e - t) (f - u) : Nat) : Int)
theorem ordZ_neg (x y : Int) : ordZ y x = -ordZ x y := by
  unfold ordZ
  split <;> split <;> (try split) <;> omega
theorem ordZ_ways (x y : Int) : (x < y ∧ ordZ x y = -1) ∨ (y < x ∧ ordZ x y = 1) ∨ (x = y ∧ ordZ x y = 0) := by
  unfold ordZ
  split
  · exact Or.inl ⟨by assumption, rfl⟩
  · split
    · exact Or.inr (Or.inl ⟨by assumption, rfl⟩)
    · exact Or.inr (Or.inr ⟨by omega, rfl⟩)
/-- Two orders that go hand in hand. -/
theorem ordZ_same {A B C D : Nat} (h1 : A < B → C < D) (h2 : B < A → D < C) (h3 : A = B → C = D) : ordZ (A : Int) B = ordZ (C : Int) D := by
  rcases Nat.lt_trichotomy A B with g | g | g
  · rw [ordZ_lt (by omega), ordZ_lt (by have := h1 g; omega)]
  · rw [g, h3 g, ordZ_eq, ordZ_eq]
  · rw [ordZ_gt (by omega), ordZ_gt (by have := h2 g; omega)]
theorem pwF_mul (P : Nat) (x : Int) (k : Nat) : pwF P (x * k) = pwF P x ^ k := by
  rw [pwF_toNat, pwF_toNat, ← Nat.pow_mul]
  congr 1
  rcases Int.le_total 0 x with h | h
  · obtain ⟨m, rfl⟩ : ∃ m : Nat, x = m := ⟨x.toNat, by omega⟩
    rw [← Int.natCast_mul, Int.toNat_natCast, Int.toNat_natCast]
  · rw [Int.toNat_of_nonpos h, Int.toNat_of_nonpos (Int.mul_nonpos_of_nonpos_of_nonneg h (by omega)), Nat.zero_mul]
theorem prodF_mul {fb : Nat → Nat} {fe ge : Nat → Int} {k : Nat} : ∀ n, (∀ i, i < n → ge i = fe i * k) → prodF fb ge n = prodF fb fe n ^ k
  | 0, _ => by simp [prodF]
  | n + 1, h => by
    show prodF fb ge n * pwF (fb n) (ge n) = (prodF fb fe n * pwF (fb n) (fe n)) ^ k
    rw [prodF_mul n (fun i hi => h i (by omega)), h n (by omega), pwF_mul, Nat.mul_pow]
theorem up_neg (a b c d e f : Int) : upN (-a) (-b) (-c) (-d) (-e) (-f) = dnN a b c d e f := by
  unfold upN dnN
  rw [sgE_one, sgE_neg]
  have h := prodF_mul (fb := prm) (fe := fun i => -pex a b c d e f i) (ge := pex (-a) (-b) (-c) (-d) (-e) (-f)) (k := 1) 6 (fun i hi => by
    rcases lt6 hi with rfl | rfl | rfl | rfl | rfl | rfl <;> exact (Int.mul_one _).symm)
  rw [h, Nat.pow_one]
theorem dn_neg (a b c d e f : Int) : dnN (-a) (-b) (-c) (-d) (-e) (-f) = upN a b c d e f := by
  have h := up_neg (-a) (-b) (-c) (-d) (-e) (-f)
  simp only [Int.neg_neg] at h
  exact h.symm
theorem cmP_anti (a b c d e f x y z s t u : Int) : cmP x y z s t u a b c d e f = -cmP a b c d e f x y z s t u := by
  unfold cmP
  rw [← ordZ_neg]
  have e1 : x - a = -(a - x) := by omega
  have e2 : y - b = -(b - y) := by omega
  have e3 : z - c = -(c - z) := by omega
  have e4 : s - d = -(d - s) := by omega
  have e5 : t - e = -(e - t) := by omega
  have e6 : u - f = -(f - u) := by omega
  rw [e1, e2, e3, e4, e5, e6, up_neg, dn_neg]
theorem mul_lt_mul_left' {a b c : Nat} (hc : 0 < c) : c * a < c * b ↔ a < b := Nat.mul_lt_mul_left hc
/-- The order by cross products. -/
theorem cmP_cross (a b c d e f x y z s t u : Int) : cmP a b c d e f x y z s t u = ordZ ((upN a b c d e f * dnN x y z s t u : Nat) : Int) ((upN x y z s t u * dnN a b c d e f : Nat) : Int) := by
  unfold cmP
  have h := up_dn a b c d e f x y z s t u
  have h1 := dn_pos (a - x) (b - y) (c - z) (d - s) (e - t) (f - u)
  have h2 := up_pos (a - x) (b - y) (c - z) (d - s) (e - t) (f - u)
  have h3 := Nat.mul_pos (up_pos a b c d e f) (dn_pos x y z s t u)
  have h4 := Nat.mul_pos (up_pos x y z s t u) (dn_pos a b c d e f)
  generalize upN a b c d e f * dnN x y z s t u = A at *
  generalize upN x y z s t u * dnN a b c d e f = B at *
  generalize upN (a - x) (b - y) (c - z) (d - s) (e - t) (f - u) = U at *
  generalize dnN (a - x) (b - y) (c - z) (d - s) (e - t) (f - u) = V at *
  -- A * V = B * U
  refine ordZ_same (fun g => ?_) (fun g => ?_) (fun g => ?_)
  · refine Nat.lt_of_mul_lt_mul_right (a := V) ?_
    rw [h]
    exact Nat.mul_lt_mul_of_pos_left g h4
  · refine Nat.lt_of_mul_lt_mul_right (a := V) ?_
    rw [h]
    exact Nat.mul_lt_mul_of_pos_left g h4
  · subst g
    exact Nat.eq_of_mul_eq_mul_right h2 h
/-- The order goes on. -/
theorem cmP_trans {a b c d e f x y z s t u i j k l m n : Int} (h1 : cmP a b c d e f x y z s t u ≤ 0) (h2 : cmP x y z s t u i j k l m n ≤ 0) : cmP a b c d e f i j k l m n ≤ 0 ∧ (cmP a b c d e f i j k l m n = 0 ↔ cmP a b c d e f x y z s t u = 0 ∧ cmP x y z s t u i j k l m n = 0) := by
  rw [cmP_cross] at h1 h2 ⊢
  rw [cmP_cross a b c d e f x y z s t u, cmP_cross x y z s t u i j k l m n]
  have p1 := up_pos a b c d e f
  have p2 := up_pos x y z s t u
  have p3 := up_pos i j k l m n
  have q1 := dn_pos a b c d e f
  have q2 := dn_pos x y z s t u
  have q3 := dn_pos i j k l m n
  generalize upN a b c d e f = A at *
  generalize upN x y z s t u = B at *
  generalize upN i j k l m n = C at *
  generalize dnN a b c d e f = A' at *
  generalize dnN x y z s t u = B' at *
  generalize dnN i j k l m n = C' at *
  -- A B' ≤ B A', B C' ≤ C B'
  have g1 : A * B' ≤ B * A' := by
    rcases ordZ_ways ((A * B' : Nat) : Int) ((B * A' : Nat) : Int) with ⟨g, _⟩ | ⟨_, g⟩ | ⟨g, _⟩ <;> omega
  have g2 : B * C' ≤ C * B' := by
    rcases ordZ_ways ((B * C' : Nat) : Int) ((C * B' : Nat) : Int) with ⟨g, _⟩ | ⟨_, g⟩ | ⟨g, _⟩ <;> omega
  have k1 : A * C' * B' ≤ B * A' * C' := by
    have : A * C' * B' = A * B' * C' := by grind
    rw [this]
    exact Nat.mul_le_mul_right _ g1
  have k2 : B * A' * C' ≤ C * A' * B' := by
    have e1 : B * A' * C' = B * C' * A' := by grind
    have e2 : C * A' * B' = C * B' * A' := by grind
    rw [e1, e2]
    exact Nat.mul_le_mul_right _ g2
  have k3 : A * C' ≤ C * A' := Nat.le_of_mul_le_mul_right (Nat.le_trans k1 k2) q2
  have z : ∀ x y : Nat, x ≤ y → (ordZ (x : Int) (y : Int) ≤ 0 ∧ (ordZ (x : Int) (y : Int) = 0 ↔ x = y)) := by
    intro x y h
    rcases ordZ_ways (x : Int) (y : Int) with ⟨g, g'⟩ | ⟨g, g'⟩ | ⟨g, g'⟩
    · rw [g']; omega
    · omega
    · rw [g']; omega
  refine ⟨(z _ _ k3).1, ?_⟩
  rw [(z _ _ k3).2, (z _ _ g1).2, (z _ _ g2).2]
  constructor
  · intro h
    have h' : A * C' * B' = C * A' * B' := by rw [h]
    have e1 : A * B' * C' = B * A' * C' := by
      have : A * B' * C' = A * C' * B' := by grind
      omega
    have e2 : B * C' * A' = C * B' * A' := by
      have : C * B' * A' = C * A' * B' := by grind
      have : B * C' * A' = B * A' * C' := by grind
      omega
    exact ⟨Nat.eq_of_mul_eq_mul_right q3 e1, Nat.eq_of_mul_eq_mul_right q1 e2⟩
  · rintro ⟨e1, e2⟩
    refine Nat.eq_of_mul_eq_mul_right q2 ?_
    have f1 : A * C' * B' = A * B' * C' := by grind
    have f2 : C * A' * B' = C * B' * A' := by grind
    rw [f1, f2, e1, ← e2]
    grind
/-- A prime that divides neither. -/
theorem pw_part {P : Nat} {x : Int} (h : 0 < x) : P ∣ pwF P x := by
  rw [pwF_toNat]
  obtain ⟨k, hk⟩ : ∃ k, x.toNat = k + 1 := ⟨x.toNat - 1, by omega⟩
  rw [hk, Nat.pow_succ]
  exact Nat.dvd_mul_left _ _
theorem pw_cop {P Q : Nat} (x : Int) (h : Nat.gcd P Q = 1) : Nat.gcd P (pwF Q x) = 1 := by
  rw [pwF_toNat]
  exact (Nat.Coprime.pow_right _ (h : Nat.Coprime P Q))
theorem cop_mul {P A B : Nat} (h1 : Nat.gcd P A = 1) (h2 : Nat.gcd P B = 1) : Nat.gcd P (A * B) = 1 := Nat.Coprime.mul_right h1 h2
theorem cop_prod {P : Nat} {fe : Nat → Int} : ∀ n, n ≤ 6 → (∀ i, i < n → Nat.gcd P (prm i) = 1 ∨ ¬ 0 < fe i) → Nat.gcd P (prodF prm fe n) = 1
  | 0, _, _ => by simp [prodF]
  | n + 1, hn, h => by
    show Nat.gcd P (prodF prm fe n * pwF (prm n) (fe n)) = 1
    refine cop_mul (cop_prod n (by omega) (fun i hi => h i (by omega))) ?_
    rcases h n (by omega) with g | g
    · exact pw_cop _ g
    · rw [pwF, if_neg g]
      simp
theorem dvd_prod {fe : Nat → Int} {k : Nat} : ∀ n, k < n → 0 < fe k → prm k ∣ prodF prm fe n
  | 0, h, _ => by omega
  | n + 1, h, hp => by
    show prm k ∣ prodF prm fe n * pwF (prm n) (fe n)
    by_cases e : k = n
    · subst e
      exact Nat.dvd_trans (pw_part hp) (Nat.dvd_mul_left _ _)
    · exact Nat.dvd_trans (dvd_prod n (by omega) hp) (Nat.dvd_mul_right _ _)
theorem prm_cop {i j : Nat} (hi : i < 6) (hj : j < 6) (h : i ≠ j) : Nat.gcd (prm i) (prm j) = 1 := by
  rcases lt6 hi with rfl | rfl | rfl | rfl | rfl | rfl <;> rcases lt6 hj with rfl | rfl | rfl | rfl | rfl | rfl <;> first | rfl | exact absurd rfl h
theorem no_pos {fe ge : Nat → Int} (hg : ∀ i, ge i = -fe i) (h : prodF prm fe 6 = prodF prm ge 6) {k : Nat} (hk : k < 6) : ¬ 0 < fe k := by
  intro hp
  have h1 : prm k ∣ prodF prm ge 6 := h ▸ dvd_prod 6 hk hp
  have h2 : Nat.gcd (prm k) (prodF prm ge 6) = 1 := cop_prod 6 (Nat.le_refl _) (fun i hi => by
    by_cases e : k = i
    · subst e
      right
      rw [hg]
      omega
    · exact Or.inl (prm_cop hk hi e))
  rw [Nat.gcd_eq_left h1] at h2
  have := prm_pos hk
  omega
theorem up_eq_dn {a b c d e f : Int} (h : upN a b c d e f = dnN a b c d e f) : a = 0 ∧ b = 0 ∧ c = 0 ∧ d = 0 ∧ e = 0 ∧ f = 0 := by
  unfold upN dnN at h
  have h1 : ∀ k, k < 6 → ¬ 0 < sgE 1 a b c d e f k := fun k hk => no_pos (fun i => by unfold sgE; omega) h hk
  have h2 : ∀ k, k < 6 → ¬ 0 < sgE (-1) a b c d e f k := fun k hk => no_pos (fun i => by unfold sgE; omega) h.symm hk
  rw [sgE_one] at h1
  rw [sgE_neg] at h2
  have k : ∀ k, k < 6 → pex a b c d e f k = 0 := fun k hk => by
    have := h1 k hk
    have : ¬ 0 < -pex a b c d e f k := h2 k hk
    omega
  exact ⟨k 0 (by omega), k 1 (by omega), k 2 (by omega), k 3 (by omega), k 4 (by omega), k 5 (by omega)⟩
/-- Equal exactly for equal pitches. -/
theorem cmP_zero {a b c d e f x y z s t u : Int} : cmP a b c d e f x y z s t u = 0 ↔ a = x ∧ b = y ∧ c = z ∧ d = s ∧ e = t ∧ f = u := by
  constructor
  · intro h
    unfold cmP at h
    have h1 : upN (a - x) (b - y) (c - z) (d - s) (e - t) (f - u) = dnN (a - x) (b - y) (c - z) (d - s) (e - t) (f - u) := by
      rcases ordZ_ways ((upN (a - x) (b - y) (c - z) (d - s) (e - t) (f - u) : Nat) : Int) ((dnN (a - x) (b - y) (c - z) (d - s) (e - t) (f - u) : Nat) : Int) with ⟨_, g⟩ | ⟨_, g⟩ | ⟨g, _⟩ <;> omega
    obtain ⟨e1, e2, e3, e4, e5, e6⟩ := up_eq_dn h1
    omega
  · rintro ⟨rfl, rfl, rfl, rfl, rfl, rfl⟩
    unfold cmP
    simp only [Int.sub_self]
    exact ordZ_eq _
theorem up_pow (a b c d e f : Int) (k : Nat) : upN (a * k) (b * k) (c * k) (d * k) (e * k) (f * k) = upN a b c d e f ^ k := by
  unfold upN
  rw [sgE_one, sgE_one]
  refine prodF_mul 6 (fun i hi => ?_)
  rcases lt6 hi with rfl | rfl | rfl | rfl | rfl | rfl <;> rfl
theorem dn_pow (a b c d e f : Int) (k : Nat) : dnN (a * k) (b * k) (c * k) (d * k) (e * k) (f * k) = dnN a b c d e f ^ k := by
  unfold dnN
  rw [sgE_neg, sgE_neg]
  refine prodF_mul 6 (fun i hi => ?_)
  rcases lt6 hi with rfl | rfl | rfl | rfl | rfl | rfl <;> exact (Int.neg_mul _ _).symm
theorem ordZ_pow {A B : Nat} {k : Nat} (hk : 0 < k) : ordZ ((A ^ k : Nat) : Int) ((B ^ k : Nat) : Int) = ordZ (A : Int) (B : Int) :=
  (ordZ_same (fun g => Nat.pow_lt_pow_left g (by omega)) (fun g => Nat.pow_lt_pow_left g (by omega)) (fun g => by rw [g])).symm
theorem cmP_pow (a b c d e f x y z s t u : Int) {k : Nat} (hk : 0 < k) : cmP (a * k) (b * k) (c * k) (d * k) (e * k) (f * k) (x * k) (y * k) (z * k) (s * k) (t * k) (u * k) = cmP a b c d e f x y z s t u := by
  unfold cmP
  rw [← Int.sub_mul, ← Int.sub_mul, ← Int.sub_mul, ← Int.sub_mul, ← Int.sub_mul, ← Int.sub_mul, up_pow, dn_pow, ordZ_pow hk]
end Go.Proofs.YtehifkdfbiebfaaDoor
