/- BeatTriangle: the plain law and the walk. -/
import Derived.Test.YthlnfjllkmielaaLawMult
namespace Go.Proofs.Ythlnfjllkmielaa
open Go Go.RowKit

theorem raN_sym (fn fd gn gd p q : Int) : raN gn gd fn fd q p = raN fn fd gn gd p q := by
  unfold raN
  have e : q * gn * fd - p * fn * gd = -(p * fn * gd - q * gn * fd) := by omega
  rw [e, Int.natAbs_neg]
theorem raG_sym (fn fd gn gd p q : Int) : raG gn gd fn fd q p = raG fn fd gn gd p q := by
  unfold raG
  rw [Bool.and_comm (sdV gn gd), Bool.and_comm (ptV q)]
theorem raV_sym (fn fd gn gd p q : Int) : raV gn gd fn fd q p = raV fn fd gn gd p q := by
  unfold raV
  rw [raN_sym, raG_sym, Int.mul_comm gd fd]
theorem tri_abs {x1 x2 x3 f g h : Int} (hf : 0 < f) (hh : 0 < h) (e : x3 * g = x1 * h + x2 * f) : (x3.natAbs : Int) * g ≤ x1.natAbs * h + x2.natAbs * f := by
  have a1 := Int.mul_le_mul_of_nonneg_right (show x1 ≤ (x1.natAbs : Int) by omega) (Int.le_of_lt hh)
  have a2 := Int.mul_le_mul_of_nonneg_right (show x2 ≤ (x2.natAbs : Int) by omega) (Int.le_of_lt hf)
  have b1 := Int.mul_le_mul_of_nonneg_right (show -x1 ≤ (x1.natAbs : Int) by omega) (Int.le_of_lt hh)
  have b2 := Int.mul_le_mul_of_nonneg_right (show -x2 ≤ (x2.natAbs : Int) by omega) (Int.le_of_lt hf)
  rw [Int.neg_mul] at b1 b2
  rcases Int.lt_or_le x3 0 with h3 | h3
  · have : (x3.natAbs : Int) = -x3 := by omega
    rw [this, Int.neg_mul]
    omega
  · have : (x3.natAbs : Int) = x3 := by omega
    rw [this]
    omega
theorem tri_law {fn fd gn gd hn hd p q s : Int} (h1 : raE fn fd gn gd p q = 0) (h2 : raE gn gd hn hd q s = 0) (h3 : raE fn fd hn hd p s = 0) :
    (adE (raX fn fd gn gd p q) (raY fn fd gn gd p q) (raX gn gd hn hd q s) (raY gn gd hn hd q s) != 0) = true ∧ adE (raX fn fd gn gd p q) (raY fn fd gn gd p q) (raX gn gd hn hd q s) (raY gn gd hn hd q s) = 3 ∨
      adE (raX fn fd gn gd p q) (raY fn fd gn gd p q) (raX gn gd hn hd q s) (raY gn gd hn hd q s) = 0 ∧
        cmpE (raX fn fd hn hd p s) (raY fn fd hn hd p s) (adN (raX fn fd gn gd p q) (raY fn fd gn gd p q) (raX gn gd hn hd q s) (raY gn gd hn hd q s)) (adD (raX fn fd gn gd p q) (raY fn fd gn gd p q) (raX gn gd hn hd q s) (raY gn gd hn hd q s)) = 0 ∧
        cmpN (raX fn fd hn hd p s) (raY fn fd hn hd p s) (adN (raX fn fd gn gd p q) (raY fn fd gn gd p q) (raX gn gd hn hd q s) (raY gn gd hn hd q s)) (adD (raX fn fd gn gd p q) (raY fn fd gn gd p q) (raX gn gd hn hd q s) (raY gn gd hn hd q s)) ≤ 0 := by
  obtain ⟨g1, r1, e1⟩ := ra_spec h1
  obtain ⟨g2, r2, e2⟩ := ra_spec h2
  obtain ⟨_, r3, e3⟩ := ra_spec h3
  obtain ⟨⟨s1, s2⟩, _⟩ := raG_of g1
  obtain ⟨⟨_, s3⟩, _⟩ := raG_of g2
  have f1 : 0 < fd := by have := (rt_of (sd_of s1).1).2.2.1; omega
  have f2 : 0 < gd := by have := (rt_of (sd_of s2).1).2.2.1; omega
  have f3 : 0 < hd := by have := (rt_of (sd_of s3).1).2.2.1; omega
  have ht := tri_abs (x1 := p * fn * gd - q * gn * fd) (x2 := q * gn * hd - s * hn * gd) (x3 := p * fn * hd - s * hn * fd) (f := fd) (g := gd) (h := hd) f1 f3 (by grind)
  have u1 : ((p * fn * gd - q * gn * fd).natAbs : Int) = raN fn fd gn gd p q := rfl
  have u2 : ((q * gn * hd - s * hn * gd).natAbs : Int) = raN gn gd hn hd q s := rfl
  have u3 : ((p * fn * hd - s * hn * fd).natAbs : Int) = raN fn fd hn hd p s := rfl
  rw [u1, u2, u3] at ht
  clear u1 u2 u3 h1 h2 h3 g1 g2 s1 s2 s3
  generalize raX fn fd gn gd p q = aN at *
  generalize raY fn fd gn gd p q = aD at *
  generalize raX gn gd hn hd q s = cN at *
  generalize raY gn gd hn hd q s = cD at *
  generalize raX fn fd hn hd p s = dN at *
  generalize raY fn fd hn hd p s = dD at *
  generalize raN fn fd gn gd p q = U1 at *
  generalize raN gn gd hn hd q s = U2 at *
  generalize raN fn fd hn hd p s = U3 at *
  by_cases hE : adE aN aD cN cD = 0
  · obtain ⟨_, _, hv, he⟩ := ad_spec hE
    have q1 := den_pos (rt_v r1)
    have q2 := den_pos (rt_v r2)
    have q3 := den_pos (rt_v r3)
    have q4 := den_pos hv
    refine Or.inr ⟨hE, ?_, ?_⟩
    · unfold cmpE
      rw [rt_v r3, hv]
      rfl
    · unfold cmpN
      rw [rt_v r3, hv]
      generalize adN aN aD cN cD = sN at *
      generalize adD aN aD cN cD = sD at *
      have hK : 0 < aD * cD * (fd * gd * hd) := Int.mul_pos (Int.mul_pos q1 q2) (Int.mul_pos (Int.mul_pos f1 f2) f3)
      have hM : 0 ≤ aD * cD * (sD * dD) := Int.le_of_lt (Int.mul_pos (Int.mul_pos q1 q2) (Int.mul_pos q4 q3))
      have hle := Int.mul_le_mul_of_nonneg_right ht hM
      have i1 : dN * sD * (aD * cD * (fd * gd * hd)) = U3 * gd * (aD * cD * (sD * dD)) := by
        have : dN * sD * (aD * cD * (fd * gd * hd)) = dN * (fd * hd) * (gd * aD * cD * sD) := by grind
        rw [this, e3]
        grind
      have i2 : sN * dD * (aD * cD * (fd * gd * hd)) = (U1 * hd + U2 * fd) * (aD * cD * (sD * dD)) := by
        have : sN * dD * (aD * cD * (fd * gd * hd)) = sN * (aD * cD) * (dD * (fd * gd * hd)) := by grind
        rw [this, he]
        have : (aN * cD + cN * aD) * sD * (dD * (fd * gd * hd)) = aN * (fd * gd) * (cD * sD * dD * hd) + cN * (gd * hd) * (aD * sD * dD * fd) := by grind
        rw [this, e1, e2]
        grind
      rw [← i1, ← i2] at hle
      have hf := Int.le_of_mul_le_mul_right hle hK
      rcases sg_ways (dN * sD - sN * dD) with ⟨_, h⟩ | ⟨h0, h⟩ | ⟨_, h⟩
      · simp only [Bool.and_self, if_true, h]; omega
      · omega
      · simp only [Bool.and_self, if_true, h]; omega
  · refine Or.inl ⟨by simpa using hE, ?_⟩
    unfold adE at hE ⊢
    rw [rt_v r1, rt_v r2] at hE ⊢
    simp only [Bool.and_self, if_true] at hE ⊢
    exact (mkE_ways _ _ (mul_ne (den_pos (rt_v r1)) (den_pos (rt_v r2)))).resolve_left hE
set_option maxRecDepth 100000 in
set_option maxHeartbeats 4000000 in
theorem walk_BeatTriangle (fn fd gn gd hn hd p q s : Int) (w : World) (_ : (Lit.int .i64 fn).wf = true) (_ : (Lit.int .i64 fd).wf = true) (_ : (Lit.int .i64 gn).wf = true) (_ : (Lit.int .i64 gd).wf = true) (_ : (Lit.int .i64 hn).wf = true) (_ : (Lit.int .i64 hd).wf = true) (_ : (Lit.int .i64 p).wf = true) (_ : (Lit.int .i64 q).wf = true) (_ : (Lit.int .i64 s).wf = true) :
    Calls Try.prog 9 #[.agg #[.int .i64 fn, .int .i64 fd], .agg #[.int .i64 gn, .int .i64 gd], .agg #[.int .i64 hn, .int .i64 hd], .int .i64 p, .int .i64 q, .int .i64 s] w (Ret (.bool true) w) := by
  have HH := Lib.hid (fun w => head17_c w)
  have h1 := fun w => Rate_c fn fd gn gd p q w
  have h2 := fun w => Rate_c gn gd fn fd q p w
  have h3 := fun w => Rate_c gn gd hn hd q s w
  have h4 := fun w => Rate_c fn fd hn hd p s w
  simp only [raV_sym fn fd gn gd p q] at h2
  simp only [raV_eq] at h1 h2 h3 h4
  have hA := fun w => RAdd_c (raX fn fd gn gd p q) (raY fn fd gn gd p q) (raX gn gd hn hd q s) (raY gn gd hn hd q s) w
  have hC := fun w => RCmp_c (raX fn fd hn hd p s) (raY fn fd hn hd p s) (adN (raX fn fd gn gd p q) (raY fn fd gn gd p q) (raX gn gd hn hd q s) (raY gn gd hn hd q s)) (adD (raX fn fd gn gd p q) (raY fn fd gn gd p q) (raX gn gd hn hd q s) (raY gn gd hn hd q s)) w
  have hlaw := tri_law (fn := fn) (fd := fd) (gn := gn) (gd := gd) (hn := hn) (hd := hd) (p := p) (q := q) (s := s)
  simp only [addV_eq] at hA
  unfold cmpV at hC
  generalize raX fn fd gn gd p q = aN at *
  generalize raY fn fd gn gd p q = aD at *
  generalize raE fn fd gn gd p q = e1 at *
  generalize raX gn gd hn hd q s = cN at *
  generalize raY gn gd hn hd q s = cD at *
  generalize raE gn gd hn hd q s = e2 at *
  generalize raX fn fd hn hd p s = dN at *
  generalize raY fn fd hn hd p s = dD at *
  generalize raE fn fd hn hd p s = e3 at *
  have H1 := Lib.hid h1
  have H2 := Lib.hid h2
  have H3 := Lib.hid h3
  have H4 := Lib.hid h4
  clear h1 h2 h3 h4
  have hw : (e1 != 0) = true ∨ (e1 = 0 ∧ (e2 != 0) = true) ∨ (e1 = 0 ∧ e2 = 0 ∧ (e3 != 0) = true) ∨ (e1 = 0 ∧ e2 = 0 ∧ e3 = 0) := by
    by_cases g1 : e1 = 0
    · by_cases g2 : e2 = 0
      · by_cases g3 : e3 = 0
        · exact Or.inr (Or.inr (Or.inr ⟨g1, g2, g3⟩))
        · exact Or.inr (Or.inr (Or.inl ⟨g1, g2, by simpa using g3⟩))
      · exact Or.inr (Or.inl ⟨g1, by simpa using g2⟩)
    · exact Or.inl (by simpa using g1)
  rcases hw with g1 | ⟨rfl, g2⟩ | ⟨rfl, rfl, g3⟩ | ⟨rfl, rfl, rfl⟩
  case inr.inr.inr =>
    have hl := hlaw rfl rfl rfl
    clear hlaw
    generalize cmpN dN dD (adN aN aD cN cD) (adD aN aD cN cD) = n at *
    generalize cmpE dN dD (adN aN aD cN cD) (adD aN aD cN cD) = m at *
    generalize adN aN aD cN cD = sN at *
    generalize adD aN aD cN cD = sD at *
    generalize adE aN aD cN cD = E at *
    rcases hl with ⟨_, rfl⟩ | ⟨rfl, rfl, hn⟩
    · have HA := Lib.hid hA
      clear hA hC
      go_enter Try.func9, Try.ntmps9
      go_wp2_with (first | (go_at_call 11; ((with_reducible refine (HH.out _).mono ?_); rintro e w' ⟨rfl, hb⟩; obtain ⟨hz, hc, hf⟩ := bcl hb (by first | (simp; rfl) | rfl))) | (go_at_call 12; ((with_reducible refine (H1.out _).mono ?_); rintro e w' ⟨rfl, hb⟩; obtain ⟨hz, hc, hf⟩ := bcl hb (by first | (simp; rfl) | rfl))) | (go_at_call 12; ((with_reducible refine (H2.out _).mono ?_); rintro e w' ⟨rfl, hb⟩; obtain ⟨hz, hc, hf⟩ := bcl hb (by first | (simp; rfl) | rfl))) | (go_at_call 12; ((with_reducible refine (H3.out _).mono ?_); rintro e w' ⟨rfl, hb⟩; obtain ⟨hz, hc, hf⟩ := bcl hb (by first | (simp; rfl) | rfl))) | (go_at_call 12; ((with_reducible refine (H4.out _).mono ?_); rintro e w' ⟨rfl, hb⟩; obtain ⟨hz, hc, hf⟩ := bcl hb (by first | (simp; rfl) | rfl))) | (go_at_call 32; ((with_reducible refine (HA.out _).mono ?_); rintro e w' ⟨rfl, hb⟩; obtain ⟨hz, hc, hf⟩ := bcl hb (by first | (simp; rfl) | rfl))))
      go_ret
      refine ⟨rfl, ?_⟩
      (repeat (first | (with_reducible exact bl_refl _) | (with_reducible refine bl_drew ?_) | (with_reducible refine bl_alloc ?_ _) | (with_reducible refine bl_set' ?_ ?_; · (first | omega | (simp; done) | (simp; omega))) | (with_reducible refine bl_last (by assumption) ?_) | (with_reducible refine bl_drewN ?_ _)))
    · have HA := Lib.hid hA
      have HC := Lib.hid hC
      clear hA hC
      have hn' : decide (n ≤ 0) = true := decide_eq_true hn
      clear hn
      go_enter Try.func9, Try.ntmps9
      go_wp2_with (first | (go_at_call 11; ((with_reducible refine (HH.out _).mono ?_); rintro e w' ⟨rfl, hb⟩; obtain ⟨hz, hc, hf⟩ := bcl hb (by first | (simp; rfl) | rfl))) | (go_at_call 12; ((with_reducible refine (H1.out _).mono ?_); rintro e w' ⟨rfl, hb⟩; obtain ⟨hz, hc, hf⟩ := bcl hb (by first | (simp; rfl) | rfl))) | (go_at_call 12; ((with_reducible refine (H2.out _).mono ?_); rintro e w' ⟨rfl, hb⟩; obtain ⟨hz, hc, hf⟩ := bcl hb (by first | (simp; rfl) | rfl))) | (go_at_call 12; ((with_reducible refine (H3.out _).mono ?_); rintro e w' ⟨rfl, hb⟩; obtain ⟨hz, hc, hf⟩ := bcl hb (by first | (simp; rfl) | rfl))) | (go_at_call 12; ((with_reducible refine (H4.out _).mono ?_); rintro e w' ⟨rfl, hb⟩; obtain ⟨hz, hc, hf⟩ := bcl hb (by first | (simp; rfl) | rfl))) | (go_at_call 32; ((with_reducible refine (HA.out _).mono ?_); rintro e w' ⟨rfl, hb⟩; obtain ⟨hz, hc, hf⟩ := bcl hb (by first | (simp; rfl) | rfl))) | (go_at_call 30; ((with_reducible refine (HC.out _).mono ?_); rintro e w' ⟨rfl, hb⟩; obtain ⟨hz, hc, hf⟩ := bcl hb (by first | (simp; rfl) | rfl))))
      go_ret
      refine ⟨rfl, ?_⟩
      (repeat (first | (with_reducible exact bl_refl _) | (with_reducible refine bl_drew ?_) | (with_reducible refine bl_alloc ?_ _) | (with_reducible refine bl_set' ?_ ?_; · (first | omega | (simp; done) | (simp; omega))) | (with_reducible refine bl_last (by assumption) ?_) | (with_reducible refine bl_drewN ?_ _)))
  all_goals
    clear hlaw hA hC
    go_enter Try.func9, Try.ntmps9
    go_wp2_with (first | (go_at_call 11; ((with_reducible refine (HH.out _).mono ?_); rintro e w' ⟨rfl, hb⟩; obtain ⟨hz, hc, hf⟩ := bcl hb (by first | (simp; rfl) | rfl))) | (go_at_call 12; ((with_reducible refine (H1.out _).mono ?_); rintro e w' ⟨rfl, hb⟩; obtain ⟨hz, hc, hf⟩ := bcl hb (by first | (simp; rfl) | rfl))) | (go_at_call 12; ((with_reducible refine (H2.out _).mono ?_); rintro e w' ⟨rfl, hb⟩; obtain ⟨hz, hc, hf⟩ := bcl hb (by first | (simp; rfl) | rfl))) | (go_at_call 12; ((with_reducible refine (H3.out _).mono ?_); rintro e w' ⟨rfl, hb⟩; obtain ⟨hz, hc, hf⟩ := bcl hb (by first | (simp; rfl) | rfl))) | (go_at_call 12; ((with_reducible refine (H4.out _).mono ?_); rintro e w' ⟨rfl, hb⟩; obtain ⟨hz, hc, hf⟩ := bcl hb (by first | (simp; rfl) | rfl))))
    go_ret
    refine ⟨rfl, ?_⟩
    (repeat (first | (with_reducible exact bl_refl _) | (with_reducible refine bl_drew ?_) | (with_reducible refine bl_alloc ?_ _) | (with_reducible refine bl_set' ?_ ?_; · (first | omega | (simp; done) | (simp; omega))) | (with_reducible refine bl_last (by assumption) ?_) | (with_reducible refine bl_drewN ?_ _)))
end Go.Proofs.Ythlnfjllkmielaa
