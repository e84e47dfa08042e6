/- Pitch: plain laws of the order. -/
import Derived.Test.YtgbiiaaeabflnaaDoorPowA
namespace Go.Proofs.YtgbiiaaeabflnaaDoor
open Go Go.RowKit

/-- How two pitches stand to each other. -/
def cmP (a b c d e f x y z s t u : Int) : Int := ordZ ((upN (a - x) (b - y) (c - z) (d - s) (e - t) (f - u) : Nat) : Int) ((dnN (a - x) (b - y) (c - z) (d - s) (e - t) (f - u) : Nat) : Int)
theorem ordZ_neg (x y : Int) : ordZ y x = -ordZ x y := by
  unfold ordZ
  split <;> split <;> (try split) <;> omega
theorem ordZ_ways (x y : Int) : (x < y ∧ ordZ x y = -1) ∨ (y < x ∧ ordZ x y = 1) ∨ (x = y ∧ ordZ x y = 0) := by
  unfold ordZ
  split
  · exact Or.inl ⟨by assumption, rfl⟩
  · split
    · exact Or.inr (Or.inl ⟨by assumption, rfl⟩)
    · exact Or.inr (Or.inr ⟨by omega, rfl⟩)
/-- Two orders that go hand in hand. -/
theorem ordZ_same {A B C D : Nat} (h1 : A < B → C < D) (h2 : B < A → D < C) (h3 : A = B → C = D) : ordZ (A : Int) B = ordZ (C : Int) D := by
  rcases Nat.lt_trichotomy A B with g | g | g
  · rw [ordZ_lt (by omega), ordZ_lt (by have := h1 g; omega)]
  · rw [g, h3 g, ordZ_eq, ordZ_eq]
  · rw [ordZ_gt (by omega), ordZ_gt (by have := h2 g; omega)]
theorem pwF_mul (P : Nat) (x : Int) (k : Nat) : pwF P (x * k) = pwF P x ^ k := by
  rw [pwF_toNat, pwF_toNat, ← Nat.pow_mul]
  congr 1
  rcases Int.le_total 0 x with h | h
  · obtain ⟨m, rfl⟩ : ∃ m : Nat, x = m := ⟨x.toNat, by omega⟩
    rw [← Int.natCast_mul, Int.toNat_natCast, Int.toNat_natCast]
  · rw [Int.toNat_of_nonpos h, Int.toNat_of_nonpos (Int.mul_nonpos_of_nonpos_of_nonneg h (by omega)), Nat.zero_mul]
theorem prodF_mul {fb : Nat → Nat} {fe ge : Nat → Int} {k : Nat} : ∀ n, (∀ i, i < n → ge i = fe i * k) → prodF fb ge n = prodF fb fe n ^ k
  | 0, _ => by simp [prodF]
  | n + 1, h => by
    show prodF fb ge n * pwF (fb n) (ge n) = (prodF fb fe n * pwF (fb n) (fe n)) ^ k
    rw [prodF_mul n (fun i hi => h i (by omega)), h n (by omega), pwF_mul, Nat.mul_pow]
theorem up_neg (a b c d e f : Int) : upN (-a) (-b) (-c) (-d) (-e) (-f) = dnN a b c d e f := by
  unfold upN dnN
  rw [sgE_one, sgE_neg]
  have h := prodF_mul (fb := prm) (fe := fun i => -pex a b c d e f i) (ge := pex (-a) (-b) (-c) (-d) (-e) (-f)) (k := 1) 6 (fun i hi => by
    rcases lt6 hi with rfl | rfl | rfl | rfl | rfl | rfl <;> exact (Int.mul_one _).symm)
  rw [h, Nat.pow_one]
theorem dn_neg (a b c d e f : Int) : dnN (-a) (-b) (-c) (-d) (-e) (-f) = upN a b c d e f := by
  have h := up_neg (-a) (-b) (-c) (-d) (-e) (-f)
  simp only [Int.neg_neg] at h
  exact h.symm
theorem cmP_anti (a b c d e f x y z s t u : Int) : cmP x y z s t u a b c d e f = -cmP a b c d e f x y z s t u := by
  unfold cmP
  rw [← ordZ_neg]
  have e1 : x - a = -(a - x) := by omega
  have e2 : y - b = -(b - y) := by omega
  have e3 : z - c = -(c - z) := by omega
  have e4 : s - d = -(d - s) := by omega
  have e5 : t - e = -(e - t) := by omega
  have e6 : u - f = -(f - u) := by omega
  rw [e1, e2, e3, e4, e5, e6, up_neg, dn_neg]
theorem mul_lt_mul_left' {a b c : Nat} (hc : 0 < c) : c * a < c * b ↔ a < b := Nat.mul_lt_mul_left hc
/-- The order by cross products. -/
theorem cmP_cross (a b c d e f x y z s t u : Int) : cmP a b c d e f x y z s t u = ordZ ((upN a b c d e f * dnN x y z s t u : Nat) : Int) ((upN x y z s t u * dnN a b c d e f : Nat) : Int) := by
  unfold cmP
  have h := up_dn a b c d e f x y z s t u
  have h1 := dn_pos (a - x) (b - y) (c - z) (d - s) (e - t) (f - u)
  have h2 := up_pos (a - x) (b - y) (c - z) (d - s) (e - t) (f - u)
  have h3 := Nat.mul_pos (up_pos a b c d e f) (dn_pos x y z s t u)
  have h4 := Nat.mul_pos (up_pos x y z s t u) (dn_pos a b c d e f)
  generalize upN a b c d e f * dnN x y z s t u = A at *
  generalize upN x y z s t u * dnN a b c d e f = B at *
  generalize upN (a - x) (b - y) (c - z) (d - s) (e - t) (f - u) = U at *
  generalize dnN (a - x) (b - y) (c - z) (d - s) (e - t) (f - u) = V at *
  -- A * V = B * U
  refine ordZ_same (fun g => ?_) (fun g => ?_) (fun g => ?_)
  · refine Nat.lt_of_mul_lt_mul_right (a := V) ?_
    rw [h]
    exact Nat.mul_lt_mul_of_pos_left g h4
  · refine Nat.lt_of_mul_lt_mul_right (a := V) ?_
    rw [h]
    exact Nat.mul_lt_mul_of_pos_left g h4
  · subst g
    exact Nat.eq_of_mul_eq_mul_right h2 h
/-- The order goes on. -/
theorem cmP_trans {a b c d e f x y z s t u i j k l m n : Int} (h1 : cmP a b c d e f x y z s t u ≤ 0) (h2 : cmP x y z s t u i j k l m n ≤ 0) : cmP a b c d e f i j k l m n ≤ 0 ∧ (cmP a b c d e f i j k l m n = 0 ↔ cmP a b c d e f x y z s t u = 0 ∧ cmP x y z s t u i j k l m n = 0) := by
  rw [cmP_cross] at h1 h2 ⊢
  rw [cmP_cross a b c d e f x y z s t u, cmP_cross x y z s t u i j k l m n]
  have p1 := up_pos a b c d e f
  have p2 := up_pos x y z s t u
  have p3 := up_pos i j k l m n
  have q1 := dn_pos a b c d e f
  have q2 := dn_pos x y z s t u
  have q3 := dn_pos i j k l m n
  generalize upN a b c d e f = A at *
  generalize upN x y z s t u = B at *
  generalize upN i j k l m n = C at *
  generalize dnN a b c d e f = A' at *
  generalize dnN x y z s t u = B' at *
  generalize dnN i j k l m n = C' at *
  -- A B' ≤ B A', B C' ≤ C B'
  have g1 : A * B' ≤ B * A' := by
    rcases ordZ_ways ((A * B' : Nat) : Int) ((B * A' : Nat) : Int) with ⟨g, _⟩ | ⟨_, g⟩ | ⟨g, _⟩ <;> omega
  have g2 : B * C' ≤ C * B' := by
    rcases ordZ_ways ((B * C' : Nat) : Int) ((C * B' : Nat) : Int) with ⟨g, _⟩ | ⟨_, g⟩ | ⟨g, _⟩ <;> omega
  have k1 : A * C' * B' ≤ B * A' * C' := by
    have : A * C' * B' = A * B' * C' := by grind
    rw [this]
    exact Nat.mul_le_mul_right _ g1
  have k2 : B * A' * C' ≤ C * A' * B' := by
    have e1 : B * A' * C' = B * C' * A' := by grind
    have e2 : C * A' * B' = C * B' * A' := by grind
    rw [e1, e2]
    exact Nat.mul_le_mul_right _ g2
  have k3 : A * C' ≤ C * A' := Nat.le_of_mul_le_mul_right (Nat.le_trans k1 k2) q2
  have z : ∀ x y : Nat, x ≤ y → (ordZ (x : Int) (y : Int) ≤ 0 ∧ (ordZ (x : Int) (y : Int) = 0 ↔ x = y)) := by
    intro x y h
    rcases ordZ_ways (x : Int) (y : Int) with ⟨g, g'⟩ | ⟨g, g'⟩ | ⟨g, g'⟩
    · rw [g']; omega
    · omega
    · rw [g']; omega
  refine ⟨(z _ _ k3).1, ?_⟩
  rw [(z _ _ k3).2, (z _ _ g1).2, (z _ _ g2).2]
  constructor
  · intro h
    have h' : A * C' * B' = C * A' * B' := by rw [h]
    have e1 : A * B' * C' = B * A' * C' := by
      have : A * B' * C' = A * C' * B' := by grind
      omega
    have e2 : B * C' * A' = C * B' * A' := by
      have : C * B' * A' = C * A' * B' := by grind
      have : B * C' * A' = B * A' * C' := by grind
      omega
    exact ⟨Nat.eq_of_mul_eq_mul_right q3 e1, Nat.eq_of_mul_eq_mul_right q1 e2⟩
  · rintro ⟨e1, e2⟩
    refine Nat.eq_of_mul_eq_mul_right q2 ?_
    have f1 : A * C' * B' = A * B' * C' := by grind
    have f2 : C * A' * B' = C * B' * A' := by grind
    rw [f1, f2, e1, ← e2]
    grind
/-- A prime that divides neither. -/
theorem pw_part {P : Nat} {x : Int} (h : 0 < x) : P ∣ pwF P x := by
  rw [pwF_toNat]
  obtain ⟨k, hk⟩ : ∃ k, x.toNat = k + 1 := ⟨x.toNat - 1, by omega⟩
  rw [hk, Nat.pow_succ]
  exact Nat.dvd_mul_left _ _
theorem pw_cop {P Q : Nat} (x : Int) (h : Nat.gcd P Q = 1) : Nat.gcd P (pwF Q x) = 1 := by
  rw [pwF_toNat]
  exact (Nat.Coprime.pow_right _ (h : Nat.Coprime P Q))
theorem cop_mul {P A B : Nat} (h1 : Nat.gcd P A = 1) (h2 : Nat.gcd P B = 1) : Nat.gcd P (A * B) = 1 := Nat.Coprime.mul_right h1 h2
theorem cop_prod {P : Nat} {fe : Nat → Int} : ∀ n, n ≤ 6 → (∀ i, i < n → Nat.gcd P (prm i) = 1 ∨ ¬ 0 < fe i) → Nat.gcd P (prodF prm fe n) = 1
  | 0, _, _ => by simp [prodF]
  | n + 1, hn, h => by
    show Nat.gcd P (prodF prm fe n * pwF (prm n) (fe n)) = 1
    refine cop_mul (cop_prod n (by omega) (fun i hi => h i (by omega))) ?_
    rcases h n (by omega) with g | g
    · exact pw_cop _ g
    · rw [pwF, if_neg g]
      simp
theorem dvd_prod {fe : Nat → Int} {k : Nat} : ∀ n, k < n → 0 < fe k → prm k ∣ prodF prm fe n
  | 0, h, _ => by omega
  | n + 1, h, hp => by
    show prm k ∣ prodF prm fe n * pwF (prm n) (fe n)
    by_cases e : k = n
    · subst e
      exact Nat.dvd_trans (pw_part hp) (Nat.dvd_mul_left _ _)
    · exact Nat.dvd_trans (dvd_prod n (by omega) hp) (Nat.dvd_mul_right _ _)
theorem prm_cop {i j : Nat} (hi : i < 6) (hj : j < 6) (h : i ≠ j) : Nat.gcd (prm i) (prm j) = 1 := by
  rcases lt6 hi with rfl | rfl | rfl | rfl | rfl | rfl <;> rcases lt6 hj with rfl | rfl | rfl | rfl | rfl | rfl <;> first | rfl | exact absurd rfl h
theorem no_pos {fe ge : Nat → Int} (hg : ∀ i, ge i = -fe i) (h : prodF prm fe 6 = prodF prm ge 6) {k : Nat} (hk : k < 6) : ¬ 0 < fe k := by
  intro hp
  have h1 : prm k ∣ prodF prm ge 6 := h ▸ dvd_prod 6 hk hp
  have h2 : Nat.gcd (prm k) (prodF prm ge 6) = 1 := cop_prod 6 (Nat.le_refl _) (fun i hi => by
    by_cases e : k = i
    · subst e
      right
      rw [hg]
      omega
    · exact Or.inl (prm_cop hk hi e))
  rw [Nat.gcd_eq_left h1] at h2
  have := prm_pos hk
  omega
theorem up_eq_dn {a b c d e f : Int} (h : upN a b c d e f = dnN a b c d e f) : a = 0 ∧ b = 0 ∧ c = 0 ∧ d = 0 ∧ e = 0 ∧ f = 0 := by
  unfold upN dnN at h
  have h1 : ∀ k, k < 6 → ¬ 0 < sgE 1 a b c d e f k := fun k hk => no_pos (fun i => by unfold sgE; omega) h hk
  have h2 : ∀ k, k < 6 → ¬ 0 < sgE (-1) a b c d e f k := fun k hk => no_pos (fun i => by unfold sgE; omega) h.symm hk
  rw [sgE_one] at h1
  rw [sgE_neg] at h2
  have k : ∀ k, k < 6 → pex a b c d e f k = 0 := fun k hk => by
    have := h1 k hk
    have : ¬ 0 < -pex a b c d e f k := h2 k hk
    omega
  exact ⟨k 0 (by omega), k 1 (by omega), k 2 (by omega), k 3 (by omega), k 4 (by omega), k 5 (by omega)⟩
/-- Equal exactly for equal pitches. -/
theorem cmP_zero {a b c d e f x y z s t u : Int} : cmP a b c d e f x y z s t u = 0 ↔ a = x ∧ b = y ∧ c = z ∧ d = s ∧ e = t ∧ f = u := by
  constructor
  · intro h
    unfold cmP at h
    have h1 : upN (a - x) (b - y) (c - z) (d - s) (e - t) (f - u) = dnN (a - x) (b - y) (c - z) (d - s) (e - t) (f - u) := by
      rcases ordZ_ways ((upN (a - x) (b - y) (c - z) (d - s) (e - t) (f - u) : Nat) : Int) ((dnN (a - x) (b - y) (c - z) (d - s) (e - t) (f - u) : Nat) : Int) with ⟨_, g⟩ | ⟨_, g⟩ | ⟨g, _⟩ <;> omega
    obtain ⟨e1, e2, e3, e4, e5, e6⟩ := up_eq_dn h1
    omega
  · rintro ⟨rfl, rfl, rfl, rfl, rfl, rfl⟩
    unfold cmP
    simp only [Int.sub_self]
    exact ordZ_eq _
theorem up_pow (a b c d e f : Int) (k : Nat) : upN (a * k) (b * k) (c * k) (d * k) (e * k) (f * k) = upN a b c d e f ^ k := by
  unfold upN
  rw [sgE_one, sgE_one]
  refine prodF_mul 6 (fun i hi => ?_)
  rcases lt6 hi with rfl | rfl | rfl | rfl | rfl | rfl <;> rfl
theorem dn_pow (a b c d e f : Int) (k : Nat) : dnN (a * k) (b * k) (c * k) (d * k) (e * k) (f * k) = dnN a b c d e f ^ k := by
  unfold dnN
  rw [sgE_neg, sgE_neg]
  refine prodF_mul 6 (fun i hi => ?_)
  rcases lt6 hi with rfl | rfl | rfl | rfl | rfl | rfl <;> exact (Int.neg_mul _ _).symm
theorem ordZ_pow {A B : Nat} {k : Nat} (hk : 0 < k) : ordZ ((A ^ k : Nat) : Int) ((B ^ k : Nat) : Int) = ordZ (A : Int) (B : Int) :=
  (ordZ_same (fun g => Nat.pow_lt_pow_left g (by omega)) (fun g => Nat.pow_lt_pow_left g (by omega)) (fun g => by rw [g])).symm
theorem cmP_pow (a b c d e f x y z s t u : Int) {k : Nat} (hk : 0 < k) : cmP (a * k) (b * k) (c * k) (d * k) (e * k) (f * k) (x * k) (y * k) (z * k) (s * k) (t * k) (u * k) = cmP a b c d e f x y z s t u := by
  unfold cmP
  rw [← Int.sub_mul, ← Int.sub_mul, ← Int.sub_mul, ← Int.sub_mul, ← Int.sub_mul, ← Int.sub_mul, up_pow, dn_pow, ordZ_pow hk]
end Go.Proofs.YtgbiiaaeabflnaaDoor
