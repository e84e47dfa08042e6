/- Rational: the reference's Simple (gensr02.py prints it). -/
import Derived.Test.YtmjbcoapceoakaaDoorRatS
import Derived.Test.YtmjbcoapceoakaaDoorRatF
namespace Go.Proofs.YtmjbcoapceoakaaDoor
open Go.RowKit

theorem simp_uni {aN aD bN bD sN sD tN tD : Int} (h : Simp aN aD bN bD sN sD) (h' : Simp aN aD bN bD tN tD) (hs : 0 < sD) (ht : 0 < tD) (hab : 0 < aD) (hbb : 0 < bD) : sN = tN ∧ sD = tD := by
  obtain ⟨_, h2, h3, h4⟩ := h
  obtain ⟨_, k2, k3, k4⟩ := h'
  obtain ⟨e1, e2⟩ := h4 tN tD ht k2 k3
  obtain ⟨f1, f2⟩ := k4 sN sD hs h2 h3
  have eD : sD = tD := by omega
  refine ⟨?_, eD⟩
  have eN : sN.natAbs = tN.natAbs := by omega
  rcases Int.natAbs_eq_natAbs_iff.1 eN with e | e
  · exact e
  · -- opposite signs: zero lies between
    subst eD
    have z1 : aN * 1 ≤ 0 * aD := by
      have : aN * sD + aN * sD ≤ 0 := by rw [e] at h2; rw [Int.neg_mul] at h2; omega
      rcases Int.lt_or_le 0 aN with g | g
      · have := Int.mul_pos g hs
        omega
      · omega
    have z2 : 0 * bD ≤ bN * 1 := by
      have : 0 ≤ bN * sD + bN * sD := by rw [e] at h3; rw [Int.neg_mul] at h3; omega
      rcases Int.lt_or_le bN 0 with g | g
      · have := Int.mul_pos (show 0 < -bN by omega) hs
        rw [Int.neg_mul] at this
        omega
      · omega
    have := (h4 0 1 (by omega) z1 z2).2
    have e0 : sN = 0 := by omega
    omega
def RsP (aN aD bN bD : Int) (w : World) (e : Ending) (w' : World) : Prop := Below w.heap.size w w' ∧ ∃ sN sD : Int, e = .returned (.tuple #[.int .i64 sN, .int .i64 sD]) ∧ Least aN aD bN bD sN sD
set_option maxRecDepth 100000 in
set_option maxHeartbeats 2000000 in
theorem Rsimple_c : ∀ (m : Nat) (aN aD bN bD : Int) (w : World), aD + bD ≤ m → 0 < aN → aN ≤ 1000000000 → 0 < aD → aD ≤ 1000000000 → 0 < bN → bN ≤ 1000000000 → 0 < bD → bD ≤ 1000000000 → aN * bD ≤ bN * aD →
    Calls Tryd.prog 59 #[.int .i64 aN, .int .i64 aD, .int .i64 bN, .int .i64 bD] w (RsP aN aD bN bD w)
  | 0, aN, aD, bN, bD, w, hm, _, _, _, _, _, _, _, _, _ => absurd hm (by omega)
  | m + 1, aN, aD, bN, bD, w, hm, a1, a2, a3, a4, b1, b2, b3, b4, hab => by
    have k1 : aN / aD * aD ≤ aN := Int.ediv_mul_le aN (by omega)
    have k2 : aN < (aN / aD + 1) * aD := Int.lt_ediv_add_one_mul_self aN a3
    have k0 : 0 ≤ aN / aD := Int.ediv_nonneg (by omega) (by omega)
    have kb : aN / aD ≤ 1000000000 := by
      have : aN / aD ≤ aN := Int.ediv_le_self _ (by omega)
      omega
    have f1 : aN.tdiv aD = aN / aD := Int.tdiv_eq_ediv_of_nonneg (by omega)
    have g1 : (aN + aD - 1).tdiv aD = (aN + aD - 1) / aD := Int.tdiv_eq_ediv_of_nonneg (by omega)
    have n1 : (aN + aD - 1) / aD * aD ≤ aN + aD - 1 := Int.ediv_mul_le _ (by omega)
    have n2 : aN + aD - 1 < ((aN + aD - 1) / aD + 1) * aD := Int.lt_ediv_add_one_mul_self _ a3
    generalize hkk : aN / aD = k at *
    generalize hnn : (aN + aD - 1) / aD = N at *
    have hd0 : aD ≠ 0 := by omega
    have e1 : (k + 1) * bD = k * bD + bD := by rw [Int.add_mul, Int.one_mul]
    have e2 : (k + 1) * aD = k * aD + aD := by rw [Int.add_mul, Int.one_mul]
    have e3 : (N + 1) * aD = N * aD + aD := by rw [Int.add_mul, Int.one_mul]
    have c1 : 0 ≤ k * aD := Int.mul_nonneg k0 (by omega)
    have c2 : 0 ≤ (k + 1) * bD := Int.mul_nonneg (by omega) (by omega)
    have c3 : (k + 1) * bD ≤ 1000000001 * 1000000000 := Int.mul_le_mul (by omega) (by omega) (by omega) (by omega)
    have c4 : 0 ≤ k * bD := Int.mul_nonneg k0 (by omega)
    have hways : (k * aD = aN ∧ N = k) ∨ (k * aD < aN ∧ N = k + 1) := by
      rcases Int.lt_or_eq_of_le k1 with g | g
      · right
        refine ⟨g, ?_⟩
        have u1 : N ≤ k + 1 := by
          rcases Int.lt_or_le (k + 1) N with h | h
          · have := Int.mul_le_mul_of_nonneg_right (show k + 2 ≤ N by omega) (Int.le_of_lt a3)
            have e4 : (k + 2) * aD = k * aD + 2 * aD := Int.add_mul ..
            omega
          · exact h
        have u2 : k + 1 ≤ N := by
          rcases Int.lt_or_le N (k + 1) with h | h
          · have := Int.mul_le_mul_of_nonneg_right (show N ≤ k by omega) (Int.le_of_lt a3)
            omega
          · exact h
        omega
      · left
        refine ⟨g, ?_⟩
        have u1 : N ≤ k := by
          rcases Int.lt_or_le k N with h | h
          · have := Int.mul_le_mul_of_nonneg_right (show k + 1 ≤ N by omega) (Int.le_of_lt a3)
            omega
          · exact h
        have u2 : k ≤ N := by
          rcases Int.lt_or_le N k with h | h
          · have := Int.mul_le_mul_of_nonneg_right (show N + 1 ≤ k by omega) (Int.le_of_lt a3)
            omega
          · exact h
        omega
    clear n1 n2 hkk hnn e3
    rcases hways with ⟨h1, rfl⟩ | ⟨h2, rfl⟩
    · have HL := Lib.hid (least_whole a1 a3 b3 hab h1)
      have hle : N * bD ≤ bN := by
        refine mul_le_of a3 ?_
        have : N * bD * aD = N * aD * bD := by grind
        rw [this, h1]
        exact hab
      clear k2 hab hm
      go_enter Tryd.func59, Tryd.ntmps59
      go_wp2
      refine bodyPost_ret (v := .tuple #[.int .i64 N, .int .i64 1]) (by simp only [results, Tryd.results59]; go_simp) rfl ⟨?_, N, 1, rfl, HL.out⟩
      (repeat (first | (with_reducible exact bl_refl _) | (with_reducible refine bl_drew ?_) | (with_reducible refine bl_alloc ?_ _) | (with_reducible refine bl_set' ?_ ?_; · (first | omega | (simp; done) | (simp; omega))) | (with_reducible refine bl_last (by assumption) ?_) | (with_reducible refine bl_drewN ?_ _)))
    by_cases h3 : (k + 1) * bD ≤ bN
    · have HL := Lib.hid (least_next (bN := bN) a3 k0 h2 k2 h3)
      clear k2 hab hm e1 e2
      go_enter Tryd.func59, Tryd.ntmps59
      go_wp2
      refine bodyPost_ret (v := .tuple #[.int .i64 (k + 1), .int .i64 1]) (by simp only [results, Tryd.results59]; go_simp) rfl ⟨?_, k + 1, 1, rfl, HL.out⟩
      (repeat (first | (with_reducible exact bl_refl _) | (with_reducible refine bl_drew ?_) | (with_reducible refine bl_alloc ?_ _) | (with_reducible refine bl_set' ?_ ?_; · (first | omega | (simp; done) | (simp; omega))) | (with_reducible refine bl_last (by assumption) ?_) | (with_reducible refine bl_drewN ?_ _)))
    have h4 : k * bD < bN := mul_lt_of a3 (by
      have e : k * bD * aD = k * aD * bD := by grind
      rw [e]
      have := Int.mul_lt_mul_of_pos_right h2 b3
      omega)
    have hab2 : bD * (aN - k * aD) ≤ aD * (bN - k * bD) := by grind
    have HI := Lib.hid (fun w => Rsimple_c m bD (bN - k * bD) aD (aN - k * aD) w (by omega) (by omega) (by omega) (by omega) (by omega) (by omega) (by omega) (by omega) (by omega) hab2)
    have HR := Lib.hid (fun rN rD hr => least_rec (aN := aN) (aD := aD) (bN := bN) (bD := bD) (k := k) (rN := rN) (rD := rD) a3 k0 h2 hr)
    have HM := Lib.hid hab
    have h3' : ¬ (k + 1) * bD ≤ bN := h3
    have w1 : IntKind.i64.wrap (k * aD) = k * aD := by rw [IntKind.wrap_i64]; omega
    have w2 : IntKind.i64.wrap (k * bD) = k * bD := by rw [IntKind.wrap_i64]; omega
    clear hab hab2 hm e1 e2 h3
    go_enter Tryd.func59, Tryd.ntmps59
    go_wp2_with fail
    refine (HI.out _).mono ?_
    rintro e w' ⟨hb, rN, rD, rfl, hL⟩
    obtain ⟨hz, hc, hf⟩ := bcl hb (by first | (simp; rfl) | rfl)
    have hS := HR.out rN rD hL
    obtain ⟨s1, s2, s3, s4, s5⟩ := hS
    obtain ⟨t1, t2⟩ := s5 aN aD a3 (Int.le_refl _) HM.out
    have r0 : 0 < rD := hL.2.1
    have r1 : 0 ≤ k * rN := Int.mul_nonneg k0 (by omega)
    have HLL := Lib.hid (HR.out rN rD hL)
    have w3 : IntKind.i64.wrap (k * rN) = k * rN := by rw [IntKind.wrap_i64]; omega
    have w4 : IntKind.i64.wrap (k * rN + rD) = k * rN + rD := by rw [IntKind.wrap_i64]; omega
    clear hL s3 s4 s5
    go_wp2
    refine bodyPost_ret (v := .tuple #[.int .i64 (k * rN + rD), .int .i64 rN]) (by simp only [results, Tryd.results59]; go_simp) rfl ⟨?_, k * rN + rD, rN, rfl, HLL.out⟩
    (repeat (first | (with_reducible exact bl_refl _) | (with_reducible refine bl_drew ?_) | (with_reducible refine bl_alloc ?_ _) | (with_reducible refine bl_set' ?_ ?_; · (first | omega | (simp; done) | (simp; omega))) | (with_reducible refine bl_last (by assumption) ?_) | (with_reducible refine bl_drewN ?_ _)))

set_option maxRecDepth 100000 in
set_option maxHeartbeats 2000000 in
theorem RSimple_c (aN aD bN bD : Int) (w : World) : Calls Tryd.prog 33 #[.agg #[.int .i64 aN, .int .i64 aD], .agg #[.int .i64 bN, .int .i64 bD]] w (SimP aN aD bN bD w) := by
  have hways : (∃ u v : Int, (∀ w, Calls Tryd.prog 35 #[.agg #[.int .i64 aN, .int .i64 aD], .agg #[.int .i64 bN, .int .i64 bD]] w (Ret (.tuple #[.int .i64 u, .int .i64 v]) w)) ∧ smG aN aD bN bD = false ∧ (v = 1 ∨ (v = 0 ∧ 0 < u))) ∨
      (∃ u : Int, (∀ w, Calls Tryd.prog 35 #[.agg #[.int .i64 aN, .int .i64 aD], .agg #[.int .i64 bN, .int .i64 bD]] w (Ret (.tuple #[.int .i64 u, .int .i64 0]) w)) ∧ smG aN aD bN bD = true ∧ u ≤ 0 ∧ vR aN aD = true ∧ vR bN bD = true ∧ aN * bD ≤ bN * aD) := by
    have HC := fun w => RCmp_c aN aD bN bD w
    cases h : (vR aN aD && vR bN bD)
    · rw [cmp_bad h] at HC
      refine Or.inl ⟨0, 1, HC, ?_, Or.inl rfl⟩
      unfold smG
      rw [← Bool.and_assoc, h]
      rfl
    · rw [cmp_good h] at HC
      have h' : vR aN aD = true ∧ vR bN bD = true := by simpa using h
      obtain ⟨h1, h2⟩ := h'
      rcases sg_ways (aN * bD - bN * aD) with ⟨g, hs⟩ | ⟨g, hs⟩ | ⟨g, hs⟩
      · exact Or.inr ⟨_, HC, by unfold smG; rw [h1, h2, decide_eq_true (by omega)]; rfl, by omega, h1, h2, by omega⟩
      · exact Or.inl ⟨_, _, HC, by unfold smG; rw [h1, h2, decide_eq_false (by omega)]; rfl, Or.inr ⟨rfl, by omega⟩⟩
      · exact Or.inr ⟨_, HC, by unfold smG; rw [h1, h2, decide_eq_true (by omega)]; rfl, by omega, h1, h2, by omega⟩
  rcases hways with ⟨u, v, hC, hg, hv⟩ | ⟨u, hC, hg, hu, ha, hb, hab⟩
  · have HC := Lib.hid hC
    have HG := Lib.hid hg
    clear hC hg
    rcases hv with rfl | ⟨rfl, hu⟩
    all_goals
      go_enter Tryd.func33, Tryd.ntmps33
      go_wp2_with (go_at_call 35; ((with_reducible refine (HC.out _).mono ?_); rintro e w' ⟨rfl, hb⟩; obtain ⟨hz, hc, hf⟩ := bcl hb (by first | (simp; rfl) | rfl)))
      refine bodyPost_ret (v := .tuple #[.agg #[.int .i64 0, .int .i64 0], .int .i64 1]) (by simp only [results, Tryd.results33]; go_simp) rfl ⟨?_, Or.inl ⟨HG.out, rfl⟩⟩
      (repeat (first | (with_reducible exact bl_refl _) | (with_reducible refine bl_drew ?_) | (with_reducible refine bl_alloc ?_ _) | (with_reducible refine bl_set' ?_ ?_; · (first | omega | (simp; done) | (simp; omega))) | (with_reducible refine bl_last (by assumption) ?_) | (with_reducible refine bl_drewN ?_ _)))
  have HC := Lib.hid hC
  have HG := Lib.hid hg
  obtain ⟨a1, a2, a3, a4⟩ := rg_of ha
  obtain ⟨b1, b2, b3, b4⟩ := rg_of hb
  clear hC hg ha hb
  by_cases ha0 : 0 < aN
  · have hb0 : 0 < bN := by
      rcases Int.lt_or_le 0 bN with h | h
      · exact h
      · have p1 := Int.mul_pos ha0 (show 0 < bD by omega)
        have p2 := Int.mul_nonneg (show 0 ≤ -bN by omega) (show 0 ≤ aD by omega)
        rw [Int.neg_mul] at p2
        omega
    have HB := Lib.hid (fun w => Rsimple_c (aD + bD).toNat aN aD bN bD w (by omega) ha0 a2 (by omega) a4 hb0 b2 (by omega) b4 hab)
    have HS := Lib.hid (fun sN sD h => simp_pos (sN := sN) (sD := sD) ha0 a2 (by omega) a4 hab h)
    have na : ¬ aN ≤ 0 := by omega
    have nb : ¬ bN < 0 := by omega
    clear hab
    go_enter Tryd.func33, Tryd.ntmps33
    go_wp2_with (go_at_call 35; ((with_reducible refine (HC.out _).mono ?_); rintro e w' ⟨rfl, hb⟩; obtain ⟨hz, hc, hf⟩ := bcl hb (by first | (simp; rfl) | rfl)))
    refine (HB.out _).mono ?_
    rintro e w2 ⟨hb2, sN, sD, rfl, hL⟩
    obtain ⟨hz2, hc2, hf2⟩ := bcl hb2 (by first | (simp; rfl) | rfl)
    have HSS := Lib.hid (HS.out sN sD hL)
    clear hL
    go_wp2
    refine bodyPost_ret (v := .tuple #[.agg #[.int .i64 sN, .int .i64 sD], .int .i64 0]) (by simp only [results, Tryd.results33]; go_simp) rfl ⟨?_, Or.inr ⟨HG.out, sN, sD, rfl, HSS.out⟩⟩
    (repeat (first | (with_reducible exact bl_refl _) | (with_reducible refine bl_drew ?_) | (with_reducible refine bl_alloc ?_ _) | (with_reducible refine bl_set' ?_ ?_; · (first | omega | (simp; done) | (simp; omega))) | (with_reducible refine bl_last (by assumption) ?_) | (with_reducible refine bl_drewN ?_ _)))
  by_cases hb0 : bN < 0
  · have ha1 : aN < 0 := by
      rcases Int.lt_or_le aN 0 with h | h
      · exact h
      · have p1 := Int.mul_nonneg h (show 0 ≤ bD by omega)
        have p2 := Int.mul_pos (show 0 < -bN by omega) (show 0 < aD by omega)
        rw [Int.neg_mul] at p2
        omega
    have HB := Lib.hid (fun w => Rsimple_c (bD + aD).toNat (-bN) bD (-aN) aD w (by omega) (by omega) (by omega) (by omega) b4 (by omega) (by omega) (by omega) a4 (by rw [Int.neg_mul, Int.neg_mul]; omega))
    have HS := Lib.hid (fun sN sD h => simp_neg (sN := sN) (sD := sD) hb0 b1 (by omega) b4 hab h)
    have HBd := Lib.hid (fun sN sD (h : Least (-bN) bD (-aN) aD sN sD) => (h.2.2.2.2 (-bN) bD (by omega) (Int.le_refl _) (by rw [Int.neg_mul, Int.neg_mul]; omega)).1)
    have na : aN ≤ 0 := by omega
    have nb : ¬ 0 ≤ bN := by omega
    clear hab
    go_enter Tryd.func33, Tryd.ntmps33
    go_wp2_with (go_at_call 35; ((with_reducible refine (HC.out _).mono ?_); rintro e w' ⟨rfl, hb⟩; obtain ⟨hz, hc, hf⟩ := bcl hb (by first | (simp; rfl) | rfl)))
    refine (HB.out _).mono ?_
    rintro e w2 ⟨hb2, sN, sD, rfl, hL⟩
    obtain ⟨hz2, hc2, hf2⟩ := bcl hb2 (by first | (simp; rfl) | rfl)
    have HSS := Lib.hid (HS.out sN sD hL)
    have hs0 := hL.1
    have hs1 := HBd.out sN sD hL
    have w1 : IntKind.i64.wrap (-sN) = -sN := by rw [IntKind.wrap_i64]; omega
    clear hL
    go_wp2
    refine bodyPost_ret (v := .tuple #[.agg #[.int .i64 (-sN), .int .i64 sD], .int .i64 0]) (by simp only [results, Tryd.results33]; go_simp) rfl ⟨?_, Or.inr ⟨HG.out, -sN, sD, rfl, HSS.out⟩⟩
    (repeat (first | (with_reducible exact bl_refl _) | (with_reducible refine bl_drew ?_) | (with_reducible refine bl_alloc ?_ _) | (with_reducible refine bl_set' ?_ ?_; · (first | omega | (simp; done) | (simp; omega))) | (with_reducible refine bl_last (by assumption) ?_) | (with_reducible refine bl_drewN ?_ _)))
  · have HSS := Lib.hid (simp_zero (aN := aN) (aD := aD) (bN := bN) (bD := bD) (by omega) (by omega))
    have na : aN ≤ 0 := by omega
    have nb : 0 ≤ bN := by omega
    clear hab
    go_enter Tryd.func33, Tryd.ntmps33
    go_wp2_with (go_at_call 35; ((with_reducible refine (HC.out _).mono ?_); rintro e w' ⟨rfl, hb⟩; obtain ⟨hz, hc, hf⟩ := bcl hb (by first | (simp; rfl) | rfl)))
    refine bodyPost_ret (v := .tuple #[.agg #[.int .i64 0, .int .i64 1], .int .i64 0]) (by simp only [results, Tryd.results33]; go_simp) rfl ⟨?_, Or.inr ⟨HG.out, 0, 1, rfl, HSS.out⟩⟩
    (repeat (first | (with_reducible exact bl_refl _) | (with_reducible refine bl_drew ?_) | (with_reducible refine bl_alloc ?_ _) | (with_reducible refine bl_set' ?_ ?_; · (first | omega | (simp; done) | (simp; omega))) | (with_reducible refine bl_last (by assumption) ?_) | (with_reducible refine bl_drewN ?_ _)))
end Go.Proofs.YtmjbcoapceoakaaDoor
