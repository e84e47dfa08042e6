/- Plain laws of what is set: the value, and that it grows with the frequency and with what the step is off. -/
import Derived.Test.YtkgklmmkkhbimaaOpens
namespace Go.Proofs.Ytkgklmmkkhbimaa
open Go.RowKit

/-- What a step sets: it is a frequency, and has the exact value. -/
theorem mo_val {fn fd p q s sd o od : Int} (h : moE fn fd p q s sd o od = 0) :
    sdV fn fd = true ∧ ptV p = true ∧ ptV q = true ∧ vR s sd = true ∧ vR o od = true ∧ sdV (moX fn fd p q s sd o od) (moY fn fd p q s sd o od) = true ∧
      moX fn fd p q s sd o od * (q * fd * sd * od) = (p * fn * sd * od + s * od * fd + o * sd * fd) * moY fn fd p q s sd o od := by
  have h' := h
  unfold moE at h'
  split at h'
  case isFalse => omega
  case isTrue hh =>
    obtain ⟨ha, hs⟩ := hh
    obtain ⟨v1, v2, v3, e1⟩ := ad_spec ha
    have hX : moX fn fd p q s sd o od = seX fn fd p q (adN s sd o od).natAbs (adD s sd o od) (decide (0 ≤ adN s sd o od)) := by unfold moX; rw [if_pos h]
    have hY : moY fn fd p q s sd o od = seY fn fd p q (adN s sd o od).natAbs (adD s sd o od) (decide (0 ≤ adN s sd o od)) := by unfold moY; rw [if_pos h]
    rw [hX, hY]
    have dp := den_pos v3
    have dq := den_pos v1
    have dr := den_pos v2
    generalize adN s sd o od = S at *
    generalize adD s sd o od = D at *
    have hN : seN fn fd p S.natAbs D (decide (0 ≤ S)) = p * fn * D + S * fd := by
      unfold seN
      by_cases h0 : 0 ≤ S
      · have : ((S.natAbs : Nat) : Int) = S := by omega
        simp [h0, this]
      · have : ((S.natAbs : Nat) : Int) = -S := by omega
        simp [h0, this]
        grind
    unfold seE at hs
    split at hs
    case isFalse => omega
    case isTrue hg =>
      split at hs
      case isFalse => omega
      case isTrue hm =>
        have x1 : seX fn fd p q S.natAbs D (decide (0 ≤ S)) = mkN (p * fn * D + S * fd) (q * fd * D) := by unfold seX; rw [if_pos hg, if_pos hm, hN]
        have y1 : seY fn fd p q S.natAbs D (decide (0 ≤ S)) = mkD (p * fn * D + S * fd) (q * fd * D) := by unfold seY; rw [if_pos hg, if_pos hm, hN]
        rw [x1, y1]
        rw [hN] at hm
        unfold maE at hm
        simp only [Bool.and_eq_true, decide_eq_true_eq] at hm
        obtain ⟨m1, m2⟩ := hm
        obtain ⟨_, _, e2⟩ := mk_spec m1
        unfold seG at hg
        simp only [Bool.and_eq_true] at hg
        obtain ⟨g1, g2, g3, g4⟩ := hg
        refine ⟨g1, g3, g4, v1, v2, m2, ?_⟩
        generalize mkN (p * fn * D + S * fd) (q * fd * D) = X at *
        generalize mkD (p * fn * D + S * fd) (q * fd * D) = Y at *
        refine cancel dp ?_
        have : (p * fn * sd * od + s * od * fd + o * sd * fd) * Y * D = p * fn * sd * od * Y * D + ((s * od + o * sd) * D) * fd * Y := by grind
        rw [this, ← e1]
        have : X * (q * fd * sd * od) * D = (X * (q * fd * D)) * (sd * od) := by grind
        rw [this, e2]
        grind
theorem sd_pos {n d : Int} (h : sdV n d = true) : vR n d = true ∧ 0 < n ∧ 0 < d := by
  unfold sdV rtV at h
  simp only [Bool.and_eq_true, decide_eq_true_eq] at h
  exact ⟨h.1.1, h.2, den_pos h.1.1⟩
def Le (a b : Int × Int) : Prop := a.1 * b.2 ≤ b.1 * a.2
theorem mo_mono {fn fd gn gd p q s sd o od u ud : Int} (h : moE fn fd p q s sd o od = 0) (k : moE gn gd p q s sd u ud = 0) (hf : fn * gd ≤ gn * fd) (ho : o * ud ≤ u * od) :
    moX fn fd p q s sd o od * moY gn gd p q s sd u ud ≤ moX gn gd p q s sd u ud * moY fn fd p q s sd o od := by
  obtain ⟨a1, a2, a3, a4, a5, a6, a7⟩ := mo_val h
  obtain ⟨b1, b2, b3, b4, b5, b6, b7⟩ := mo_val k
  obtain ⟨_, _, fp⟩ := sd_pos a1
  obtain ⟨_, _, gp⟩ := sd_pos b1
  obtain ⟨_, _, yp⟩ := sd_pos a6
  obtain ⟨_, _, zp⟩ := sd_pos b6
  have sp := den_pos a4
  have op := den_pos a5
  have up := den_pos b5
  have p0 : 0 ≤ p := by unfold ptV at a2; simp only [Bool.and_eq_true, decide_eq_true_eq] at a2; omega
  have q0 : 0 < q := by unfold ptV at a3; simp only [Bool.and_eq_true, decide_eq_true_eq] at a3; omega
  generalize moX fn fd p q s sd o od = X at *
  generalize moY fn fd p q s sd o od = Y at *
  generalize moX gn gd p q s sd u ud = X' at *
  generalize moY gn gd p q s sd u ud = Y' at *
  have K : 0 < q * fd * sd * od * (gd * ud) := Int.mul_pos (Int.mul_pos (Int.mul_pos (Int.mul_pos q0 fp) sp) op) (Int.mul_pos gp up)
  refine Int.le_of_mul_le_mul_right ?_ K
  have e1 : X * Y' * (q * fd * sd * od * (gd * ud)) = (X * (q * fd * sd * od)) * (Y' * gd * ud) := by grind
  have e2 : X' * Y * (q * fd * sd * od * (gd * ud)) = (X' * (q * gd * sd * ud)) * (Y * fd * od) := by grind
  rw [e1, e2, a7, b7]
  have d1 : 0 ≤ p * sd * od * ud * (gn * fd - fn * gd) := Int.mul_nonneg (Int.mul_nonneg (Int.mul_nonneg (Int.mul_nonneg p0 (by omega)) (by omega)) (by omega)) (by omega)
  have d2 : 0 ≤ sd * fd * gd * (u * od - o * ud) := Int.mul_nonneg (Int.mul_nonneg (Int.mul_nonneg (by omega) (by omega)) (by omega)) (by omega)
  have d3 : 0 ≤ (p * sd * od * ud * (gn * fd - fn * gd) + sd * fd * gd * (u * od - o * ud)) * (Y * Y') := Int.mul_nonneg (by omega) (Int.mul_nonneg (by omega) (by omega))
  have e3 : (p * gn * sd * ud + s * ud * gd + u * sd * gd) * Y' * (Y * fd * od) - (p * fn * sd * od + s * od * fd + o * sd * fd) * Y * (Y' * gd * ud) = (p * sd * od * ud * (gn * fd - fn * gd) + sd * fd * gd * (u * od - o * ud)) * (Y * Y') := by grind
  omega

/-- The frequencies grow with what the steps are off. -/
theorem plO_le {l : List Bt} {f0 : Int × Int} {o o' : Nat → Int × Int} : ∀ {k : Nat} {g g' : Nat → Int × Int}, (∀ j, j < k → Le (o j) (o' j)) → plO l f0 o k = some g → plO l f0 o' k = some g' → ∀ x, Le (g x) (g' x)
  | 0, g, g', _, h1, h2, x => by
    simp only [plO, Option.some.injEq] at h1 h2
    subst h1 h2
    exact Int.le_refl _
  | k + 1, g, g', ho, h1, h2, x => by
    simp only [plO, Option.bind_eq_some_iff] at h1 h2
    obtain ⟨a, ha, h1⟩ := h1
    obtain ⟨a', ha', h2⟩ := h2
    have ih := plO_le (fun j hj => ho j (by omega)) ha ha'
    split at h1
    case isFalse => cases h1
    case isTrue e1 =>
      split at h2
      case isFalse => cases h2
      case isTrue e2 =>
        simp only [Option.some.injEq] at h1 h2
        subst h1 h2
        by_cases hx : x = (l.getD k default).to.toNat
        · simp only [hx, if_true]
          exact mo_mono e1 e2 (ih _) (ho k (by omega))
        · simp only [hx, if_false]
          exact ih x
/-- All that is set is a frequency. -/
theorem plO_set {l : List Bt} {f0 : Int × Int} {o : Nat → Int × Int} (hf : sdV f0.1 f0.2 = true) : ∀ {k : Nat} {g : Nat → Int × Int}, plO l f0 o k = some g → ∀ x, x = 0 ∨ (∃ j, j < k ∧ (l.getD j default).to.toNat = x) → sdV (g x).1 (g x).2 = true
  | 0, g, h1, x, hx => by
    simp only [plO, Option.some.injEq] at h1
    subst h1
    rcases hx with hx | ⟨j, hj, _⟩
    · simp only [hx, if_true]; exact hf
    · omega
  | k + 1, g, h1, x, hx => by
    simp only [plO, Option.bind_eq_some_iff] at h1
    obtain ⟨a, ha, h1⟩ := h1
    split at h1
    case isFalse => cases h1
    case isTrue e1 =>
      simp only [Option.some.injEq] at h1
      subst h1
      by_cases hx' : x = (l.getD k default).to.toNat
      · simp only [hx', if_true]
        exact (mo_val e1).2.2.2.2.2.1
      · simp only [hx', if_false]
        refine plO_set hf ha x ?_
        rcases hx with hx | ⟨j, hj, he⟩
        · exact Or.inl hx
        · refine Or.inr ⟨j, ?_, he⟩
          have : j ≠ k := fun e => hx' (by rw [← he, e])
          omega
theorem play_all {n : Int} {l : List Bt} {f0 : Int × Int} {o : Nat → Int × Int} {g : Nat → Int × Int} (hv : vld n l = true) (hf : sdV f0.1 f0.2 = true) (h : plO l f0 o l.length = some g) {x : Nat} (hx : x < n.toNat) : vR (g x).1 (g x).2 = true := by
  refine (sd_pos (plO_set hf h x ?_)).1
  by_cases h0 : x = 0
  · exact Or.inl h0
  · have hs := all_set hv (x := (x : Int)) (by omega) (by omega)
    obtain ⟨b, hb, ht⟩ := stF_get hs
    have hlt := (List.getElem?_eq_some_iff.1 hb).1
    refine Or.inr ⟨(stF l x).toNat, hlt, ?_⟩
    simp [List.getD, hb, ht]
theorem cmp_le {a b : Int × Int} (ha : vR a.1 a.2 = true) (hb : vR b.1 b.2 = true) (h : Le a b) : ∃ c : Int, c ≤ 0 ∧ cmpV a.1 a.2 b.1 b.2 = .tuple #[.int .i64 c, .int .i64 0] := by
  refine ⟨_, ?_, cmp_good (by rw [ha, hb]; rfl)⟩
  unfold Le at h
  rcases sg_ways (a.1 * b.2 - b.1 * a.2) with ⟨_, e⟩ | ⟨h1, _⟩ | ⟨_, e⟩
  · rw [e]; decide
  · omega
  · rw [e]; decide
theorem cmp_ways (an ad bn bd : Int) : (∃ c : Int, cmpV an ad bn bd = .tuple #[.int .i64 c, .int .i64 1]) ∨ (∃ c : Int, 0 < c ∧ cmpV an ad bn bd = .tuple #[.int .i64 c, .int .i64 0]) ∨
    (∃ c : Int, c ≤ 0 ∧ Le (an, ad) (bn, bd) ∧ cmpV an ad bn bd = .tuple #[.int .i64 c, .int .i64 0]) := by
  cases h : (vR an ad && vR bn bd)
  · exact Or.inl ⟨0, cmp_bad h⟩
  · rcases sg_ways (an * bd - bn * ad) with ⟨h1, e⟩ | ⟨h1, e⟩ | ⟨h1, e⟩
    · exact Or.inr (Or.inr ⟨_, by rw [e]; decide, by unfold Le; simp only; omega, cmp_good h⟩)
    · exact Or.inr (Or.inl ⟨_, by rw [e]; decide, cmp_good h⟩)
    · exact Or.inr (Or.inr ⟨_, by rw [e]; decide, by unfold Le; simp only; omega, cmp_good h⟩)
end Go.Proofs.Ytkgklmmkkhbimaa
