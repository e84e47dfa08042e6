/- Bench: isRate, isFrequency; the reference's minus. -/
import Derived.Test.YtehifkdfbiebfaaDoorK10
namespace Go.Proofs.YtehifkdfbiebfaaDoor
open Go.RowKit

theorem sd_big : sdV 1000000000 1 = true := by decide +kernel
theorem pt_one : ptV 1 = true := by decide
theorem maE_zero {t : Int → Int → Bool} (ht : t 0 1 = true) {d : Int} (hd : 1 ≤ d) : maE t 0 d = true := by
  have hg : gF 0 d = absF d := by simp [gF, absF]
  have hx : xF 0 d = 0 := by simp [xF, absF]
  have hy : yF 0 d = 1 := by
    unfold yF
    rw [hg]
    have : 0 < absF d := by unfold absF; omega
    simp [Nat.div_self this]
  have he : mkE 0 d = 0 := by
    unfold mkE
    rw [if_neg (by omega), hx, hy]
    simp
  have hn : mkN 0 d = 0 := by
    unfold mkN
    rw [if_pos he]
    simp [numF, hx]
  have hd : mkD 0 d = 1 := by
    unfold mkD
    rw [if_pos he, hy]
    rfl
  simp [maE, he, hn, hd, ht]
theorem maV_err (t : Int → Int → Bool) (n d : Int) : ∃ x y k : Int, (k = 0 ∨ k = 3) ∧ maV t n d = .tuple #[.agg #[.int .i64 x, .int .i64 y], .int .i64 k] := by
  unfold maV
  cases maE t n d
  · exact ⟨_, _, _, Or.inr rfl, rfl⟩
  · exact ⟨_, _, _, Or.inl rfl, rfl⟩

set_option maxHeartbeats 1000000 in
theorem isRate_c (n d : Int) (w : World) : Calls Tryd.prog 63 #[.agg #[.int .i64 n, .int .i64 d]] w (Ret (.bool (rtV n d)) w) := by
  have HS := fun w => Set_c 1000000000 1 1 1 n d true w
  cases h : rtV n d
  · have hG : seG 1000000000 1 1 1 n d = false := by simp [seG, h]
    have hV : seV 1000000000 1 1 1 n d true = .tuple #[.agg #[.int .i64 0, .int .i64 0], .int .i64 1] := by simp [seV, hG]
    rw [hV] at HS
    clear hV hG
    have HS := Lib.hid HS
    go_enter Tryd.func63, Tryd.ntmps63
    go_wp2_with (go_at_call 75; ((with_reducible refine (HS.out _).mono ?_); rintro e w' ⟨rfl, hb⟩; obtain ⟨hz, hc, hf⟩ := bcl hb (by first | (simp; rfl) | rfl)))
    go_ret
    refine ⟨rfl, ?_⟩
    (repeat (first | (with_reducible exact bl_refl _) | (with_reducible refine bl_drew ?_) | (with_reducible refine bl_alloc ?_ _) | (with_reducible refine bl_set' ?_ ?_; · (first | omega | (simp; done) | (simp; omega))) | (with_reducible refine bl_last (by assumption) ?_) | (with_reducible refine bl_drewN ?_ _)))
  · have hG : seG 1000000000 1 1 1 n d = true := by simp [seG, h, sd_big, pt_one]
    obtain ⟨x, y, k, hk, hm⟩ := maV_err sdV (seN 1000000000 1 1 n d true) (1 * 1 * d)
    have hV : seV 1000000000 1 1 1 n d true = .tuple #[.agg #[.int .i64 x, .int .i64 y], .int .i64 k] := by rw [← hm]; simp [seV, hG]
    rw [hV] at HS
    clear hV hG hm
    have HS := Lib.hid HS
    rcases hk with rfl | rfl
    all_goals
      go_enter Tryd.func63, Tryd.ntmps63
      go_wp2_with (go_at_call 75; ((with_reducible refine (HS.out _).mono ?_); rintro e w' ⟨rfl, hb⟩; obtain ⟨hz, hc, hf⟩ := bcl hb (by first | (simp; rfl) | rfl)))
      go_ret
      refine ⟨rfl, ?_⟩
      (repeat (first | (with_reducible exact bl_refl _) | (with_reducible refine bl_drew ?_) | (with_reducible refine bl_alloc ?_ _) | (with_reducible refine bl_set' ?_ ?_; · (first | omega | (simp; done) | (simp; omega))) | (with_reducible refine bl_last (by assumption) ?_) | (with_reducible refine bl_drewN ?_ _)))

set_option maxHeartbeats 1000000 in
theorem isFreq_c (n d : Int) (w : World) : Calls Tryd.prog 51 #[.agg #[.int .i64 n, .int .i64 d]] w (Ret (.bool (sdV n d)) w) := by
  have HS := fun w => Rate_c n d n d 1 1 w
  cases h : sdV n d
  · have hG : raG n d n d 1 1 = false := by simp [raG, h]
    have hV : raV n d n d 1 1 = .tuple #[.agg #[.int .i64 0, .int .i64 0], .int .i64 1] := by simp [raV, hG]
    rw [hV] at HS
    clear hV hG
    have HS := Lib.hid HS
    go_enter Tryd.func51, Tryd.ntmps51
    go_wp2_with (go_at_call 22; ((with_reducible refine (HS.out _).mono ?_); rintro e w' ⟨rfl, hb⟩; obtain ⟨hz, hc, hf⟩ := bcl hb (by first | (simp; rfl) | rfl)))
    go_ret
    refine ⟨rfl, ?_⟩
    (repeat (first | (with_reducible exact bl_refl _) | (with_reducible refine bl_drew ?_) | (with_reducible refine bl_alloc ?_ _) | (with_reducible refine bl_set' ?_ ?_; · (first | omega | (simp; done) | (simp; omega))) | (with_reducible refine bl_last (by assumption) ?_) | (with_reducible refine bl_drewN ?_ _)))
  · have hG : raG n d n d 1 1 = true := by simp [raG, h, pt_one]
    obtain ⟨a1, a2, a3, a4⟩ := rt_of (sd_of h).1
    have hd : 1 ≤ d * d := Int.mul_pos (by omega) (by omega)
    have hN : raN n d n d 1 1 = 0 := by simp [raN]
    have hV : raV n d n d 1 1 = .tuple #[.agg #[.int .i64 (mkN 0 (d * d)), .int .i64 (mkD 0 (d * d))], .int .i64 0] := by
      simp only [raV, hG, hN, if_true]
      exact ma_ok (maE_zero (by decide +kernel) hd)
    rw [hV] at HS
    clear hV hG
    generalize mkN 0 (d * d) = x at *
    generalize mkD 0 (d * d) = y at *
    have HS := Lib.hid HS
    go_enter Tryd.func51, Tryd.ntmps51
    go_wp2_with (go_at_call 22; ((with_reducible refine (HS.out _).mono ?_); rintro e w' ⟨rfl, hb⟩; obtain ⟨hz, hc, hf⟩ := bcl hb (by first | (simp; rfl) | rfl)))
    go_ret
    refine ⟨rfl, ?_⟩
    (repeat (first | (with_reducible exact bl_refl _) | (with_reducible refine bl_drew ?_) | (with_reducible refine bl_alloc ?_ _) | (with_reducible refine bl_set' ?_ ?_; · (first | omega | (simp; done) | (simp; omega))) | (with_reducible refine bl_last (by assumption) ?_) | (with_reducible refine bl_drewN ?_ _)))
end Go.Proofs.YtehifkdfbiebfaaDoor
