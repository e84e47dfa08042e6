/- Rational: the reference's Near. -/
import Derived.Test.YtmjbcoapceoakaaDoorRatXZ
import Derived.Test.YtmjbcoapceoakaaDoorRatF
import Derived.Test.YtmjbcoapceoakaaDoorBlks
import Derived.Deep.RegionHeldLaw
namespace Go.Proofs.YtmjbcoapceoakaaDoor
open Go Go.RowKit

/-- What the reference's Near leaves. -/
def RNearQ (aN aD most : Int) (w : World) (e : Ending) (w' : World) : Prop := Below w.heap.size w w' ∧
  ((nrG aN aD most = false ∧ e = .returned (.tuple #[.agg #[.int .i64 0, .int .i64 0], .int .i64 1])) ∨
    (nrG aN aD most = true ∧ ∃ N D : Int, e = .returned (.tuple #[.agg #[.int .i64 N, .int .i64 D], .int .i64 0]) ∧ PickZ aN aD most N D))
/-- The bounds of a round. -/
theorem farw_bd {r D most P Q R S : Int} (h : FarW r D most P Q R S) (h0 : 0 < r) (h1 : r < D) (hD : D ≤ 1000000000) (_hm : most ≤ 1000000000) (hP : 0 ≤ P) (hPQ : P ≤ Q) (hR : 0 ≤ R) (hRS : R ≤ S) :
    (0 ≤ r * Q ∧ r * Q ≤ 1000000000000000000) ∧ (0 ≤ P * D ∧ P * D ≤ 1000000000000000000) ∧ (0 ≤ R * D ∧ R * D ≤ 1000000000000000000) ∧ (0 ≤ r * S ∧ r * S ≤ 1000000000000000000) ∧ Q ≤ 1000000000 ∧ S ≤ 1000000000 := by
  obtain ⟨a1, a2, a3, a4, a5, a6, a7⟩ := h
  have b1 := mul_bdA (A := 1000000000) (B := 1000000000) (a := r) (b := Q) (by omega) (by omega) (by omega) (by omega) (by omega)
  have b2 := mul_bdA (A := 1000000000) (B := 1000000000) (a := P) (b := D) (by omega) (by omega) (by omega) (by omega) (by omega)
  have b3 := mul_bdA (A := 1000000000) (B := 1000000000) (a := R) (b := D) (by omega) (by omega) (by omega) (by omega) (by omega)
  have b4 := mul_bdA (A := 1000000000) (B := 1000000000) (a := r) (b := S) (by omega) (by omega) (by omega) (by omega) (by omega)
  have c1 := Int.mul_nonneg (Int.le_of_lt h0) (Int.le_of_lt a1)
  have c2 := Int.mul_nonneg hP (show 0 ≤ D by omega)
  have c3 := Int.mul_nonneg hR (show 0 ≤ D by omega)
  have c4 := Int.mul_nonneg (Int.le_of_lt h0) (Int.le_of_lt a2)
  omega
theorem far_v {aN aD most lp lq hp hq : Int} (h : FarZ aN aD most lp lq hp hq) (hD : most < aD) (hm : most ≤ 1000000000) (hA : (aN.natAbs : Int) ≤ 1000000000) (hB : aD ≤ 1000000000) : vR lp lq = true ∧ vR hp hq = true := by
  obtain ⟨s1, s2⟩ := farz_sides h
  obtain ⟨a1, a2, a3, a4, a5, a6, a7, a8⟩ := h
  constructor
  · have hn := num_le (aN := aN) (aD := aD) (P := lp) (Q := lq) (e := -(aN * lq - lp * aD)) (M := 1000000000) (by omega) (by omega) (by omega) (by omega) (by omega) hA hB
    have hdet : lp * hq - hp * lq = -1 := by omega
    exact v_mk ⟨by omega, det_gcd (b := hq) (c := hp) (d := lq) (Or.inr hdet)⟩ (by omega) (by unfold absF; omega)
  · have hn := num_le (aN := aN) (aD := aD) (P := hp) (Q := hq) (e := hp * aD - aN * hq) (M := 1000000000) (by omega) (by omega) (by omega) (by omega) (by omega) hA hB
    exact v_mk ⟨by omega, det_gcd (b := lq) (c := lp) (d := hq) (Or.inl a5)⟩ (by omega) (by unfold absF; omega)
theorem mkV_v {n d : Int} (h : vR n d = true) : mkV n d = .tuple #[.agg #[.int .i64 n, .int .i64 d], .int .i64 0] := by
  obtain ⟨h1, _⟩ := v_of h
  obtain ⟨e0, e1, e2⟩ := mk_of (n := n) (d := d) (x := n) (y := d) (by omega) h rfl
  unfold mkV
  rw [e0, e1, e2]
set_option maxRecDepth 100000 in
set_option maxHeartbeats 4000000 in
theorem rnear_bad (aN aD most : Int) (w : World) (h : nrG aN aD most = false) : Calls Tryd.prog 32 #[.agg #[.int .i64 aN, .int .i64 aD], .int .i64 most] w (RNearQ aN aD most w) := by
  have hF := fun w => RFloor_c aN aD w
  unfold flV at hF
  have hways : vR aN aD = false ∨ (vR aN aD = true ∧ most < 1) ∨ (vR aN aD = true ∧ ¬ most < 1 ∧ 1000000000 < most) := by
    unfold nrG at h
    cases hv : vR aN aD
    · exact Or.inl rfl
    · rw [hv, Bool.true_and] at h
      simp at h
      by_cases h1 : most < 1
      · exact Or.inr (Or.inl ⟨rfl, h1⟩)
      · exact Or.inr (Or.inr ⟨rfl, by omega, by omega⟩)
  have HG := Lib.hid h
  clear h
  rcases hways with h | ⟨h, h1⟩ | ⟨h, h1, h2⟩
  all_goals
    rw [h] at hF
    first | rw [if_neg (by decide)] at hF | rw [if_pos rfl] at hF
    have HF := Lib.hid hF
    clear hF h
    go_enter Tryd.func32, Tryd.ntmps32
    go_wp2_with (go_at_call 36; ((with_reducible refine (HF.out _).mono ?_); rintro e w' ⟨rfl, hb⟩; obtain ⟨hz, hc, hf⟩ := bcl hb (by first | (simp; rfl) | rfl)))
    refine bodyPost_ret (v := .tuple #[.agg #[.int .i64 0, .int .i64 0], .int .i64 1]) (by simp only [results, Tryd.results32]; go_simp) rfl ⟨?_, Or.inl ⟨HG.out, rfl⟩⟩
    (repeat (first | (with_reducible exact bl_refl _) | (with_reducible refine bl_drew ?_) | (with_reducible refine bl_alloc ?_ _) | (with_reducible refine bl_set' ?_ ?_; · (first | omega | (simp; done) | (simp; omega))) | (with_reducible refine bl_last (by assumption) ?_) | (with_reducible refine bl_drewN ?_ _)))
set_option maxRecDepth 100000 in
set_option maxHeartbeats 8000000 in
theorem RNear_c (aN aD most : Int) (w : World) : Calls Tryd.prog 32 #[.agg #[.int .i64 aN, .int .i64 aD], .int .i64 most] w (RNearQ aN aD most w) := by
  cases hg : nrG aN aD most
  · exact rnear_bad aN aD most w hg
  have hg' := hg
  unfold nrG at hg'
  simp only [Bool.and_eq_true, decide_eq_true_eq] at hg'
  obtain ⟨hv, hm1, hm2⟩ := hg'
  obtain ⟨v1, v2, v3, v4, v5⟩ := v_of hv
  have hF := fun w => RFloor_c aN aD w
  unfold flV at hF
  rw [hv, if_pos rfl] at hF
  have HG := Lib.hid hg
  have m1 : ¬ most < 1 := by omega
  have m2 : ¬ 1000000000 < most := by omega
  clear hg
  by_cases hle : aD ≤ most
  · have HN := Lib.hid (show PickZ aN aD most aN aD from Or.inl ⟨hle, rfl, rfl⟩)
    have HF := Lib.hid hF
    clear hv v5 hF
    go_enter Tryd.func32, Tryd.ntmps32
    go_wp2_with (go_at_call 36; ((with_reducible refine (HF.out _).mono ?_); rintro e w' ⟨rfl, hb⟩; obtain ⟨hz, hc, hf⟩ := bcl hb (by first | (simp; rfl) | rfl)))
    refine bodyPost_ret (v := .tuple #[.agg #[.int .i64 aN, .int .i64 aD], .int .i64 0]) (by simp only [results, Tryd.results32]; go_simp) rfl ⟨?_, Or.inr ⟨HG.out, aN, aD, rfl, HN.out⟩⟩
    (repeat (first | (with_reducible exact bl_refl _) | (with_reducible refine bl_drew ?_) | (with_reducible refine bl_alloc ?_ _) | (with_reducible refine bl_set' ?_ ?_; · (first | omega | (simp; done) | (simp; omega))) | (with_reducible refine bl_last (by assumption) ?_) | (with_reducible refine bl_drewN ?_ _)))
  have hlt : most < aD := by omega
  have hA : (aN.natAbs : Int) ≤ 1000000000 := by omega
  -- the rest over the floor
  have k1 : aN / aD * aD ≤ aN := Int.ediv_mul_le aN (by omega)
  have k2 : aN < (aN / aD + 1) * aD := Int.lt_ediv_add_one_mul_self aN (by omega)
  have kb : -1000000000 ≤ aN / aD ∧ aN / aD ≤ 1000000000 := by
    have e : (aN / aD + 1) * aD = aN / aD * aD + aD := by rw [Int.add_mul, Int.one_mul]
    constructor
    · rcases Int.lt_or_le (aN / aD) (-1000000000) with h | h
      · exfalso
        have := Int.mul_le_mul_of_nonneg_right (show aN / aD + 1 ≤ -1000000000 by omega) (show (0 : Int) ≤ aD by omega)
        have := Int.mul_le_mul_of_nonneg_left (show 1 ≤ aD by omega) (show (0 : Int) ≤ 1000000000 by omega)
        rw [Int.neg_mul] at *
        omega
      · exact h
    · rcases Int.lt_or_le 1000000000 (aN / aD) with h | h
      · exfalso
        have := Int.mul_le_mul_of_nonneg_right (show 1000000001 ≤ aN / aD by omega) (show (0 : Int) ≤ aD by omega)
        omega
      · exact h
  generalize aN / aD = f at *
  obtain ⟨r, hr⟩ : ∃ r, aN - f * aD = r := ⟨_, rfl⟩
  have e : (f + 1) * aD = f * aD + aD := by rw [Int.add_mul, Int.one_mul]
  have hg1 : Int.gcd r aD = 1 := by
    have : Int.gcd r aD = Int.gcd aN aD := by
      rw [← hr]
      have : aN - f * aD = aN + aD * (-f) := by grind
      rw [this, Int.gcd_add_mul_left_left]
    rw [this]
    exact v5
  have r0 : 0 < r := by
    rcases Int.lt_or_le 0 r with h | h
    · exact h
    · exfalso
      have h0 : r = 0 := by omega
      rw [h0] at hg1
      have : Int.gcd 0 aD = aD.natAbs := Int.gcd_zero_left aD
      omega
  have r1 : r < aD := by omega
  have hN : aN = r + f * aD := by omega
  have wf := mul_bdA (A := 1000000000) (B := 1000000000) (a := f) (b := aD) kb.1 kb.2 (by omega) (by omega) (by omega)
  have w1 : IntKind.i64.wrap (f * aD) = f * aD := by rw [IntKind.wrap_i64]; omega
  have w2 : IntKind.i64.wrap (aN - f * aD) = aN - f * aD := by rw [IntKind.wrap_i64]; omega
  have H0 := Lib.hid (farw_start (most := most) r0 r1 hm1)
  have HE := Lib.hid (fun P Q R S (h : FarW r aD most P Q R S) hk hm => farw_end h hg1 hlt hk hm)
  have HSh := Lib.hid (fun P Q R S (h : FarZ r aD most P Q R S) => farz_shift f h)
  have HV := Lib.hid (fun P Q R S (h : FarZ aN aD most P Q R S) => far_v h hlt hm2 hA v2)
  have HAN := Lib.hid hN
  have HF := Lib.hid hF
  have HK := Lib.hid kb
  have HD0 := Lib.hid (show ¬ aD ≤ most by omega)
  clear hv v5 hF hg1 k1 k2 wf e kb hN
  go_enter Tryd.func32, Tryd.ntmps32
  have hd0 := HD0.out
  go_wp2_with fail
  ((with_reducible refine (HF.out _).mono ?_); rintro en v6 ⟨rfl, d6⟩)
  obtain ⟨hz6, hc6, hf6⟩ := bcl d6 (by first | (simp; rfl) | rfl)
  have k6 : Below w.heap.size w v6 := bl_last d6 (by (repeat (first | (with_reducible exact bl_refl _) | (with_reducible refine bl_drew ?_) | (with_reducible refine bl_alloc ?_ _) | (with_reducible refine bl_set' ?_ ?_; · (first | omega | (simp; done) | (simp; omega))) | (with_reducible refine bl_last (by assumption) ?_) | (with_reducible refine bl_drewN ?_ _))))
  have hA6 : Blk v6 w.heap.size 25 #[.int .i64 aN, .int .i64 aD] := blk_up ((Blk.new _ _ _).alloc _) d6
  have hR6 : Blk v6 (w.heap.size + 1) 25 #[.int .i64 0, .int .i64 0] := blk_up (blkNew' _ _ _ _ (by simp)) d6
  have zA := hA6.lt
  have zR := hR6.lt
  go_wp2
  go_loopw [9, 10, 11, 12] (fun lp lq hp hq wr => ∃ P Q R S : Int, lp = .int .i64 P ∧ lq = .int .i64 Q ∧ hp = .int .i64 R ∧ hq = .int .i64 S ∧ Hid (FarW r aD most P Q R S) ∧ (0 ≤ P ∧ P ≤ Q ∧ 0 ≤ R ∧ R ≤ S) ∧ Hid (Below w.heap.size w wr) ∧ Hid (Blk wr w.heap.size 25 #[.int .i64 aN, .int .i64 aD]) ∧ Hid (Blk wr (w.heap.size + 1) 25 #[.int .i64 0, .int .i64 0])) (fun _ lq _ hq _ => (2 * most - intOf lq - intOf hq).toNat)
  case atStart => exact ⟨0, 1, 1, 1, rfl, rfl, rfl, rfl, H0, by omega, Lib.hid k6, Lib.hid hA6, Lib.hid hR6⟩
  case round =>
    clear k6 hA6 hR6 zA zR hz6 hc6 hf6 d6 H0 w1 w2 hd0
    obtain ⟨P, Q, R, S, rfl, rfl, rfl, rfl, HW, ⟨p1, p2, p3, p4⟩, HB, HA1, HR1⟩ := hrel
    obtain ⟨⟨b1, b2⟩, ⟨b3, b4⟩, ⟨b5, b6⟩, ⟨b7, b8⟩, b9, b10⟩ := farw_bd HW.out r0 r1 v2 hm2 p1 p2 p3 p4
    obtain ⟨a1, a2, a3, a4, a5, a6, a7⟩ := HW.out
    have x1 : IntKind.i64.wrap (r * Q) = r * Q := by rw [IntKind.wrap_i64]; omega
    have x2 : IntKind.i64.wrap (P * aD) = P * aD := by rw [IntKind.wrap_i64]; omega
    have x3 : IntKind.i64.wrap (R * aD) = R * aD := by rw [IntKind.wrap_i64]; omega
    have x4 : IntKind.i64.wrap (r * S) = r * S := by rw [IntKind.wrap_i64]; omega
    obtain ⟨X, hX⟩ : ∃ X, (r * Q - P * aD - 1) / (R * aD - r * S) = X := ⟨_, rfl⟩
    obtain ⟨Y, hY⟩ : ∃ Y, (most - Q) / S = Y := ⟨_, rfl⟩
    have X0 : 0 ≤ X := by rw [← hX]; exact Int.ediv_nonneg (by omega) (by omega)
    have Y0 : 0 ≤ Y := by rw [← hY]; exact Int.ediv_nonneg (by omega) (by omega)
    have X1 : X ≤ r * Q - P * aD - 1 := by rw [← hX]; exact Int.ediv_le_self _ (by omega)
    have Y1 : Y ≤ most - Q := by rw [← hY]; exact Int.ediv_le_self _ (by omega)
    have YS : Y * S ≤ most - Q := by rw [← hY]; exact Int.ediv_mul_le _ (by omega)
    obtain ⟨K, hK⟩ : ∃ K, min X Y = K := ⟨_, rfl⟩
    have hKi : (if Y < X then Y else X) = K := by rw [← hK]; split <;> omega
    have K0 : 0 ≤ K := by omega
    have KX : K ≤ X := by omega
    have KY : K ≤ Y := by omega
    have hW2 := farw_lo HW.out K0 (by rw [hX]; exact KX) (by rw [hY]; exact KY)
    have KS : K * S ≤ most - Q := Int.le_trans (Int.mul_le_mul_of_nonneg_right KY (by omega)) YS
    have KR : K * R ≤ K * S := Int.mul_le_mul_of_nonneg_left p4 K0
    have KR0 : 0 ≤ K * R := Int.mul_nonneg K0 p3
    obtain ⟨P', hP'⟩ : ∃ P', P + K * R = P' := ⟨_, rfl⟩
    obtain ⟨Q', hQ'⟩ : ∃ Q', Q + K * S = Q' := ⟨_, rfl⟩
    rw [hP', hQ'] at hW2
    obtain ⟨⟨c1, c2⟩, ⟨c3, c4⟩, _, _, c9, _⟩ := farw_bd hW2 r0 r1 v2 hm2 (by omega) (by omega) p3 p4
    obtain ⟨e1, e2, e3, e4, e5, e6, e7⟩ := hW2
    have x5 : IntKind.i64.wrap (r * Q') = r * Q' := by rw [IntKind.wrap_i64]; omega
    have x6 : IntKind.i64.wrap (P' * aD) = P' * aD := by rw [IntKind.wrap_i64]; omega
    obtain ⟨X', hX'⟩ : ∃ X', (R * aD - r * S - 1) / (r * Q' - P' * aD) = X' := ⟨_, rfl⟩
    obtain ⟨Y', hY'⟩ : ∃ Y', (most - S) / Q' = Y' := ⟨_, rfl⟩
    have X0' : 0 ≤ X' := by rw [← hX']; exact Int.ediv_nonneg (by omega) (by omega)
    have Y0' : 0 ≤ Y' := by rw [← hY']; exact Int.ediv_nonneg (by omega) (by omega)
    have X1' : X' ≤ R * aD - r * S - 1 := by rw [← hX']; exact Int.ediv_le_self _ (by omega)
    have Y1' : Y' ≤ most - S := by rw [← hY']; exact Int.ediv_le_self _ (by omega)
    have YS' : Y' * Q' ≤ most - S := by rw [← hY']; exact Int.ediv_mul_le _ (by omega)
    obtain ⟨M, hM⟩ : ∃ M, min X' Y' = M := ⟨_, rfl⟩
    have hMi : (if Y' < X' then Y' else X') = M := by rw [← hM]; split <;> omega
    have M0 : 0 ≤ M := by omega
    have MX : M ≤ X' := by omega
    have MY : M ≤ Y' := by omega
    have hW3 := farw_hi (k := M) ⟨e1, e2, e3, e4, e5, e6, e7⟩ M0 (by rw [hX']; exact MX) (by rw [hY']; exact MY)
    have MQ : M * Q' ≤ most - S := Int.le_trans (Int.mul_le_mul_of_nonneg_right MY (by omega)) YS'
    have MP : M * P' ≤ M * Q' := Int.mul_le_mul_of_nonneg_left (by omega) M0
    have MP0 : 0 ≤ M * P' := Int.mul_nonneg M0 (by omega)
    obtain ⟨R', hR'⟩ : ∃ R', R + M * P' = R' := ⟨_, rfl⟩
    obtain ⟨S', hS'⟩ : ∃ S', S + M * Q' = S' := ⟨_, rfl⟩
    rw [hR', hS'] at hW3
    have HW3 := Lib.hid hW3
    have KS1 : 1 ≤ K → 1 ≤ K * S := fun h => by
      have := Int.mul_le_mul h (show 1 ≤ S by omega) (by omega) K0
      omega
    have MQ1 : 1 ≤ M → 1 ≤ M * Q' := fun h => by
      have := Int.mul_le_mul h (show 1 ≤ Q' by omega) (by omega) M0
      omega
    have HMS := Lib.hid (show (¬ (K = 0 ∧ M = 0) → Q + S < Q' + S') from fun h => by
      rcases Int.lt_or_le 0 K with g | g
      · have := KS1 (by omega)
        have := Int.mul_nonneg M0 (show 0 ≤ Q' by omega)
        omega
      · have hm : 1 ≤ M := by omega
        have := MQ1 hm
        have := Int.mul_nonneg K0 (show 0 ≤ S by omega)
        omega)
    have hPQ3 : 0 ≤ P' ∧ P' ≤ Q' ∧ 0 ≤ R' ∧ R' ≤ S' := by omega
    have hQS3 : Q' ≤ most ∧ S' ≤ most := by omega
    have HFz := Lib.hid (show (K = 0 ∧ M = 0 → P' = P ∧ Q' = Q ∧ R' = R ∧ S' = S ∧ FarZ r aD most P Q R S) from fun h => by
      obtain ⟨h1, h2⟩ := h
      rw [h1, Int.zero_mul, Int.add_zero] at hP' hQ'
      rw [h2, Int.zero_mul, Int.add_zero] at hR' hS'
      subst hP' hQ' hR' hS'
      exact ⟨rfl, rfl, rfl, rfl, HE.out _ _ _ _ HW.out (by rw [hX, hY, hK, h1]) (by rw [hX', hY', hM, h2])⟩)
    obtain ⟨U, hU⟩ : ∃ U, r * Q - P * aD = U := ⟨_, rfl⟩
    obtain ⟨V, hVV⟩ : ∃ V, R * aD - r * S = V := ⟨_, rfl⟩
    obtain ⟨U', hU'⟩ : ∃ U', r * Q' - P' * aD = U' := ⟨_, rfl⟩
    have y1 : IntKind.i64.wrap U = U := by rw [IntKind.wrap_i64]; omega
    have y2 : IntKind.i64.wrap V = V := by rw [IntKind.wrap_i64]; omega
    have y3 : IntKind.i64.wrap U' = U' := by rw [IntKind.wrap_i64]; omega
    have y4 : IntKind.i64.wrap (U - 1) = U - 1 := by rw [IntKind.wrap_i64]; omega
    have y5 : IntKind.i64.wrap (V - 1) = V - 1 := by rw [IntKind.wrap_i64]; omega
    have y6 : IntKind.i64.wrap (most - Q) = most - Q := by rw [IntKind.wrap_i64]; omega
    have y7 : IntKind.i64.wrap (most - S) = most - S := by rw [IntKind.wrap_i64]; omega
    have y8 : IntKind.i64.wrap X = X := by rw [IntKind.wrap_i64]; omega
    have y9 : IntKind.i64.wrap Y = Y := by rw [IntKind.wrap_i64]; omega
    have y10 : IntKind.i64.wrap X' = X' := by rw [IntKind.wrap_i64]; omega
    have y11 : IntKind.i64.wrap Y' = Y' := by rw [IntKind.wrap_i64]; omega
    have y12 : IntKind.i64.wrap (K * R) = K * R := by rw [IntKind.wrap_i64]; omega
    have y13 : IntKind.i64.wrap (K * S) = K * S := by rw [IntKind.wrap_i64]; omega
    have y14 : IntKind.i64.wrap (M * P') = M * P' := by rw [IntKind.wrap_i64]; omega
    have y15 : IntKind.i64.wrap (M * Q') = M * Q' := by rw [IntKind.wrap_i64]; omega
    have y16 : IntKind.i64.wrap P' = P' := by rw [IntKind.wrap_i64]; omega
    have y17 : IntKind.i64.wrap Q' = Q' := by rw [IntKind.wrap_i64]; omega
    have y18 : IntKind.i64.wrap R' = R' := by rw [IntKind.wrap_i64]; omega
    have y19 : IntKind.i64.wrap S' = S' := by rw [IntKind.wrap_i64]; omega
    rw [hU, hVV] at hX
    rw [hVV, hU'] at hX'
    have t1 : (U - 1).tdiv V = X := by rw [← hX]; exact Int.tdiv_eq_ediv_of_nonneg (by omega)
    have t2 : (most - Q).tdiv S = Y := by rw [← hY]; exact Int.tdiv_eq_ediv_of_nonneg (by omega)
    have t3 : (V - 1).tdiv U' = X' := by rw [← hX']; exact Int.tdiv_eq_ediv_of_nonneg (by omega)
    have t4 : (most - S).tdiv Q' = Y' := by rw [← hY']; exact Int.tdiv_eq_ediv_of_nonneg (by omega)
    have n1 : V ≠ 0 := by omega
    have n2 : S ≠ 0 := by omega
    have n3 : U' ≠ 0 := by omega
    have n4 : Q' ≠ 0 := by omega
    have zA := HA1.out.lt
    have zR := HR1.out.lt
    have ca := HA1.out.cell 0
    have cb := HA1.out.cell 1
    simp only [List.getElem?_toArray, List.getElem?_cons_zero, List.getElem?_cons_succ] at ca cb
    clear b1 b2 b3 b4 b5 b6 b7 b8 c1 c2 c3 c4 X0 Y0 X1 Y1 YS K0 KX KY KS KR KR0 X0' Y0' X1' Y1' YS' M0 MX MY MQ MP MP0 KS1 MQ1 hW3 a5 e5 a6 a7 e6 e7
    go_wp2
    (refine wp_region_bl [0,1,2,3,4,5,6,7,8,9] [10] (by kernel_rfl) (by kernel_rfl) (by rfl) ?_
     simp only [pickI, pick, List.getElem?_cons_succ, List.getElem?_cons_zero]
     iterate 10 (first
       | (refine head_val (by rfl) (by rfl) ?_
          apply Exists.intro
          refine ⟨fun X hX => ?_, ?_⟩
          · (obtain ⟨qz, qc, qf⟩ := bcl hX.out (by first | (simp; rfl) | rfl)
             go_simp
             first | done | rfl | exact ⟨rfl, rfl⟩)
          simp only [Act.put, List.setIfInBounds_toArray, List.set_cons_zero, List.set_cons_succ])
       | (refine head_pass (by rfl) ?_
          simp only [Act.put, List.setIfInBounds_toArray, List.set_cons_zero, List.set_cons_succ]))
     refine head_nil ?_
     intro w' hw'
     have hb := hw'.out
     clear hw'
     obtain ⟨hz, hc, hf⟩ := bcl hb (by first | (simp; rfl) | rfl))
    have zA2 : w.heap.size < w'.heap.size := by omega
    have zR2 : w.heap.size + 1 < w'.heap.size := by omega
    obtain ⟨w7, hw7⟩ : ∃ w7, w7 = w' := ⟨_, rfl⟩
    have hb7 : Below wr.heap.size wr w7 := by rw [hw7]; exact hb
    rw [← hw7] at hz hc hf zA2 zR2 ⊢
    clear hw7 hb
    go_wp2
    (refine wp_region_bl [0,1,2,3,4,5,6,7,8,9] [10] (by kernel_rfl) (by kernel_rfl) (by rfl) ?_
     simp only [pickI, pick, List.getElem?_cons_succ, List.getElem?_cons_zero]
     iterate 10 (first
       | (refine head_val (by rfl) (by rfl) ?_
          apply Exists.intro
          refine ⟨fun X hX => ?_, ?_⟩
          · (obtain ⟨qz, qc, qf⟩ := bcl hX.out (by first | (simp; rfl) | rfl)
             go_simp
             first | done | rfl | exact ⟨rfl, rfl⟩)
          simp only [Act.put, List.setIfInBounds_toArray, List.set_cons_zero, List.set_cons_succ])
       | (refine head_pass (by rfl) ?_
          simp only [Act.put, List.setIfInBounds_toArray, List.set_cons_zero, List.set_cons_succ]))
     refine head_nil ?_
     intro w' hw'
     have hb := hw'.out
     clear hw'
     obtain ⟨hz, hc, hf⟩ := bcl hb (by first | (simp; rfl) | rfl))
    have k8 : Below wr.heap.size wr w' := bl_trans hb7 hb
    have hA8 := Lib.hid (blk_up HA1.out k8)
    have hR8 := Lib.hid (blk_up HR1.out k8)
    have hB8 := Lib.hid (bl_trans HB.out k8)
    obtain ⟨w8, hw8⟩ : ∃ w8, w8 = w' := ⟨_, rfl⟩
    rw [← hw8] at hA8 hR8 hB8 ⊢
    clear hw8 hb hb7 k8 hz hc hf zA2 zR2 zA zR ca cb HA1 HR1 HB t1 t2 t3 t4 n1 n2 n3 n4 x1 x2 x3 x4 x5 x6 hX hY hX' hY' hK hM
    by_cases hkm : K = 0 ∧ M = 0
    · obtain ⟨rfl, rfl, rfl, rfl, hFz⟩ := HFz.out hkm
      obtain ⟨rfl, rfl⟩ := hkm
      obtain rfl : U = U' := hU.symm.trans hU'
      obtain ⟨hFs, sU, sV⟩ := HSh.out _ _ _ _ hFz
      rw [← HAN.out] at hFs sU sV
      obtain ⟨vlo, vhi⟩ := HV.out _ _ _ _ hFs
      obtain ⟨sd1, sd2⟩ := farz_sides hFz
      rw [hU] at sU sd1
      rw [hVV] at sV sd2
      have hKb := HK.out
      have U1 : 1 ≤ U := by have := hFz.2.2.2.2.2.2.1; omega
      have V1 : 1 ≤ V := by have := hFz.2.2.2.2.2.2.2; omega
      have z1 := mul_bdA (A := 1000000000) (B := 1000000000) (a := U) (b := S') (by omega) (by omega) (by omega) (by omega) (by omega)
      have z2 := mul_bdA (A := 1000000000) (B := 1000000000) (a := V) (b := Q') (by omega) (by omega) (by omega) (by omega) (by omega)
      have z3 := mul_bdA (A := 1000000000) (B := 1000000000) (a := f) (b := Q') hKb.1 hKb.2 (by omega) (by omega) (by omega)
      have z4 := mul_bdA (A := 1000000000) (B := 1000000000) (a := f) (b := S') hKb.1 hKb.2 (by omega) (by omega) (by omega)
      have hb2 := farw_bd HW.out r0 r1 v2 hm2 p1 p2 p3 p4
      obtain ⟨⟨b1, b2⟩, ⟨b3, b4⟩, ⟨b5, b6⟩, ⟨b7, b8⟩, _, _⟩ := hb2
      have x1 : IntKind.i64.wrap (r * Q') = r * Q' := by rw [IntKind.wrap_i64]; omega
      have x2 : IntKind.i64.wrap (P' * aD) = P' * aD := by rw [IntKind.wrap_i64]; omega
      have x3 : IntKind.i64.wrap (R' * aD) = R' * aD := by rw [IntKind.wrap_i64]; omega
      have x4 : IntKind.i64.wrap (r * S') = r * S' := by rw [IntKind.wrap_i64]; omega
      have x5 : IntKind.i64.wrap (U * S') = U * S' := by rw [IntKind.wrap_i64]; omega
      have x6 : IntKind.i64.wrap (V * Q') = V * Q' := by rw [IntKind.wrap_i64]; omega
      have x7 : IntKind.i64.wrap (f * Q') = f * Q' := by rw [IntKind.wrap_i64]; omega
      have x8 : IntKind.i64.wrap (f * S') = f * S' := by rw [IntKind.wrap_i64]; omega
      have x9 : IntKind.i64.wrap (f * Q' + P') = f * Q' + P' := by rw [IntKind.wrap_i64]; omega
      have x10 : IntKind.i64.wrap (f * S' + R') = f * S' + R' := by rw [IntKind.wrap_i64]; omega
      have mlo := fun W => RMake_c (f * Q' + P') Q' W (by constructor <;> omega) (by constructor <;> omega)
      have mhi := fun W => RMake_c (f * S' + R') S' W (by constructor <;> omega) (by constructor <;> omega)
      rw [mkV_v vlo] at mlo
      rw [mkV_v vhi] at mhi
      have Mlo := Lib.hid mlo
      have Mhi := Lib.hid mhi
      have zA := hA8.out.lt
      have zR := hR8.out.lt
      have ca := hA8.out.cell 0
      have cb := hA8.out.cell 1
      have cr := hR8.out.cell 0
      have cs := hR8.out.cell 1
      have fr := hR8.out.frozen 0
      have fs := hR8.out.frozen 1
      simp only [List.getElem?_toArray, List.getElem?_cons_zero, List.getElem?_cons_succ] at ca cb cr cs
      have hLo : lowZ aN aD (f * Q' + P') Q' (f * S' + R') S' ↔ (U * S' < V * Q' ∨ (U * S' = V * Q' ∧ Q' ≤ S')) := by
        unfold lowZ
        rw [sU, sV]
      have PLo := Lib.hid (show (U * S' < V * Q' ∨ (U * S' = V * Q' ∧ Q' ≤ S')) → PickZ aN aD most (f * Q' + P') Q' from fun h => Or.inr ⟨hlt, _, _, _, _, hFs, Or.inl ⟨hLo.2 h, rfl, rfl⟩⟩)
      have PHi := Lib.hid (show ¬ (U * S' < V * Q' ∨ (U * S' = V * Q' ∧ Q' ≤ S')) → PickZ aN aD most (f * S' + R') S' from fun h => Or.inr ⟨hlt, _, _, _, _, hFs, Or.inr ⟨fun g => h (hLo.1 g), rfl, rfl⟩⟩)
      clear mlo mhi hLo hFs hFz sU sV vlo vhi z1 z2 z3 z4 b1 b2 b3 b4 b5 b6 b7 b8
      have hbs : Below w.heap.size w w8 := hB8.out
      have hways : U * S' < V * Q' ∨ (¬ U * S' < V * Q' ∧ U * S' = V * Q' ∧ Q' ≤ S') ∨ (¬ U * S' < V * Q' ∧ U * S' = V * Q' ∧ ¬ Q' ≤ S') ∨ (¬ U * S' < V * Q' ∧ ¬ U * S' = V * Q') := by omega
      generalize hus : U * S' = US at *
      generalize hvq : V * Q' = VQ at *
      rcases hways with g | ⟨g, g', g''⟩ | ⟨g, g', g''⟩ | ⟨g, g'⟩
      · have HPk := Lib.hid (PLo.out (Or.inl g))
        clear PLo PHi
        go_wp2_with (go_at_call 27; ((with_reducible refine (Mlo.out _).mono ?_); rintro e w' ⟨rfl, hb⟩; obtain ⟨hz, hc, hf⟩ := bcl hb (by first | (simp; rfl) | rfl)))
        refine bodyPost_ret (v := .tuple #[.agg #[.int .i64 (f * Q' + P'), .int .i64 Q'], .int .i64 0]) (by simp only [results, Tryd.results32]; go_simp) rfl ⟨?_, Or.inr ⟨HG.out, _, _, rfl, HPk.out⟩⟩
        (repeat (first | (with_reducible exact bl_refl _) | (with_reducible refine bl_drew ?_) | (with_reducible refine bl_alloc ?_ _) | (with_reducible refine bl_set' ?_ ?_; · (first | omega | (simp; done) | (simp; omega))) | (with_reducible refine bl_last (by assumption) ?_) | (with_reducible refine bl_drewN ?_ _)))
      · have HPk := Lib.hid (PLo.out (Or.inr ⟨g', g''⟩))
        have gb : (US == VQ) = true := by simpa using g'
        clear PLo PHi
        go_wp2_with (go_at_call 27; ((with_reducible refine (Mlo.out _).mono ?_); rintro e w' ⟨rfl, hb⟩; obtain ⟨hz, hc, hf⟩ := bcl hb (by first | (simp; rfl) | rfl)))
        refine bodyPost_ret (v := .tuple #[.agg #[.int .i64 (f * Q' + P'), .int .i64 Q'], .int .i64 0]) (by simp only [results, Tryd.results32]; go_simp) rfl ⟨?_, Or.inr ⟨HG.out, _, _, rfl, HPk.out⟩⟩
        (repeat (first | (with_reducible exact bl_refl _) | (with_reducible refine bl_drew ?_) | (with_reducible refine bl_alloc ?_ _) | (with_reducible refine bl_set' ?_ ?_; · (first | omega | (simp; done) | (simp; omega))) | (with_reducible refine bl_last (by assumption) ?_) | (with_reducible refine bl_drewN ?_ _)))
      · have HPk := Lib.hid (PHi.out (by rintro (h | ⟨_, h⟩); exact g h; exact g'' h))
        have gb : (US == VQ) = true := by simpa using g'
        clear PLo PHi
        go_wp2_with (go_at_call 27; ((with_reducible refine (Mhi.out _).mono ?_); rintro e w' ⟨rfl, hb⟩; obtain ⟨hz, hc, hf⟩ := bcl hb (by first | (simp; rfl) | rfl)))
        refine bodyPost_ret (v := .tuple #[.agg #[.int .i64 (f * S' + R'), .int .i64 S'], .int .i64 0]) (by simp only [results, Tryd.results32]; go_simp) rfl ⟨?_, Or.inr ⟨HG.out, _, _, rfl, HPk.out⟩⟩
        (repeat (first | (with_reducible exact bl_refl _) | (with_reducible refine bl_drew ?_) | (with_reducible refine bl_alloc ?_ _) | (with_reducible refine bl_set' ?_ ?_; · (first | omega | (simp; done) | (simp; omega))) | (with_reducible refine bl_last (by assumption) ?_) | (with_reducible refine bl_drewN ?_ _)))
      · have HPk := Lib.hid (PHi.out (by rintro (h | ⟨h, _⟩); exact g h; exact g' h))
        have gb : (US == VQ) = false := by simpa using g'
        clear PLo PHi
        go_wp2_with (go_at_call 27; ((with_reducible refine (Mhi.out _).mono ?_); rintro e w' ⟨rfl, hb⟩; obtain ⟨hz, hc, hf⟩ := bcl hb (by first | (simp; rfl) | rfl)))
        refine bodyPost_ret (v := .tuple #[.agg #[.int .i64 (f * S' + R'), .int .i64 S'], .int .i64 0]) (by simp only [results, Tryd.results32]; go_simp) rfl ⟨?_, Or.inr ⟨HG.out, _, _, rfl, HPk.out⟩⟩
        (repeat (first | (with_reducible exact bl_refl _) | (with_reducible refine bl_drew ?_) | (with_reducible refine bl_alloc ?_ _) | (with_reducible refine bl_set' ?_ ?_; · (first | omega | (simp; done) | (simp; omega))) | (with_reducible refine bl_last (by assumption) ?_) | (with_reducible refine bl_drewN ?_ _)))
    · have hms := HMS.out hkm
      have hkm2 : (K == 0) = false ∨ ((K == 0) = true ∧ (M == 0) = false) := by
        by_cases h : K = 0
        · right
          exact ⟨by simpa using h, by simp; omega⟩
        · left
          simpa using h
      clear HFz HMS hU hVV hU'
      rcases hkm2 with g | ⟨g, g'⟩
      all_goals
        go_wp2
        go_roundw
        case rel => exact ⟨P', Q', R', S', rfl, rfl, rfl, rfl, HW3, hPQ3, hB8, hA8, hR8⟩
        case measure => simp [intOf]; omega
end Go.Proofs.YtmjbcoapceoakaaDoor
