/- TopBlown: the head, and the small functions of the law. -/
import Derived.Test.YtehifkdfbiebfaaDoorK41
namespace Go.Proofs.YtehifkdfbiebfaaDoor
open Go Go.RowKit

set_option maxRecDepth 100000 in
set_option maxHeartbeats 4000000 in
theorem far_c (l h : Int) (w : World) (h1 : -9000000000000000000 ≤ l) (h2 : l ≤ 9000000000000000000) (h3 : -9000000000000000000 ≤ h) (h4 : h ≤ 9000000000000000000) : Calls Tryd.prog 38 #[.agg #[.int .i64 l, .int .i64 h]] w (Ret (.tuple #[.int .i64 (farA l h), .int .i64 (farB l h)]) w) := by
  have w1 : IntKind.i64.wrap (-l) = -l := by rw [IntKind.wrap_i64]; omega
  have w2 : IntKind.i64.wrap (-h) = -h := by rw [IntKind.wrap_i64]; omega
  clear h1 h2 h3 h4
  have hB : farB l h = max h (-l) := rfl
  rw [hB]
  clear hB
  by_cases p1 : l ≤ 0
  · have q1 : decide (l ≤ 0) = true := decide_eq_true p1
    by_cases p2 : 0 ≤ h
    · have q2 : decide (0 ≤ h) = true := decide_eq_true p2
      rw [show farA l h = 0 from if_pos ⟨p1, p2⟩]
      clear p1 p2
      go_enter Tryd.func38, Tryd.ntmps38
      go_wp2
      go_ret2
      exact ⟨rfl, by (repeat (first | (with_reducible exact bl_refl _) | (with_reducible refine bl_drew ?_) | (with_reducible refine bl_alloc ?_ _) | (with_reducible refine bl_set' ?_ ?_; · (first | omega | (simp; done) | (simp; omega))) | (with_reducible refine bl_last (by assumption) ?_) | (with_reducible refine bl_drewN ?_ _)))⟩
    · have q2 : decide (0 ≤ h) = false := decide_eq_false p2
      rw [show farA l h = max l (-h) from if_neg (fun h => p2 h.2)]
      clear p1 p2
      go_enter Tryd.func38, Tryd.ntmps38
      go_wp2
      go_ret2
      exact ⟨rfl, by (repeat (first | (with_reducible exact bl_refl _) | (with_reducible refine bl_drew ?_) | (with_reducible refine bl_alloc ?_ _) | (with_reducible refine bl_set' ?_ ?_; · (first | omega | (simp; done) | (simp; omega))) | (with_reducible refine bl_last (by assumption) ?_) | (with_reducible refine bl_drewN ?_ _)))⟩
  · have q1 : decide (l ≤ 0) = false := decide_eq_false p1
    rw [show farA l h = max l (-h) from if_neg (fun h => p1 h.1)]
    clear p1
    go_enter Tryd.func38, Tryd.ntmps38
    go_wp2
    go_ret2
    exact ⟨rfl, by (repeat (first | (with_reducible exact bl_refl _) | (with_reducible refine bl_drew ?_) | (with_reducible refine bl_alloc ?_ _) | (with_reducible refine bl_set' ?_ ?_; · (first | omega | (simp; done) | (simp; omega))) | (with_reducible refine bl_last (by assumption) ?_) | (with_reducible refine bl_drewN ?_ _)))⟩
def hornB (i : Nat) : Int := [-24, 0, 0, 0, 0, 0].getD i 0
def hornG (k i : Nat) : Int := ([[-36, 24, 0, 0, 0, 0], [48, -12, -12, 0, 0, 0], [12, 12, -12, 0, 0, 0]].getD k []).getD i 0
set_option maxRecDepth 100000 in
set_option maxHeartbeats 4000000 in
theorem horn_c (w : World) : Calls Tryd.prog 76 #[] w (fun e w' => Below w.heap.size w w' ∧ ∃ b, e = .returned (.agg #[.int .i64 (-24), .int .i64 0, .int .i64 0, .int .i64 0, .int .i64 0, .int .i64 0, .slice (some ⟨b, 0, none⟩) 3 3, .int .i64 8, .int .i64 20000]) ∧ VecsR w' w'.heap.size (some ⟨b, 0, none⟩) 3 hornG) := by
  go_enter Tryd.func76, Tryd.ntmps76
  go_wp2
  (refine bodyPost_ret (v := .agg #[.int .i64 (-24), .int .i64 0, .int .i64 0, .int .i64 0, .int .i64 0, .int .i64 0, .slice (some ⟨w.heap.size + 1, 0, none⟩) 3 3, .int .i64 8, .int .i64 20000]) (by simp only [results, Tryd.results76]; go_simp) rfl ⟨?_, w.heap.size + 1, rfl, ?_⟩)
  · (repeat (first | (with_reducible exact bl_refl _) | (with_reducible refine bl_drew ?_) | (with_reducible refine bl_alloc ?_ _) | (with_reducible refine bl_set' ?_ ?_; · (first | omega | (simp; done) | (simp; omega))) | (with_reducible refine bl_last (by assumption) ?_) | (with_reducible refine bl_drewN ?_ _)))
  · intro _
    refine ⟨_, 0, rfl, by simp, fun k hk i hi => ?_⟩
    rcases (show k = 0 ∨ k = 1 ∨ k = 2 by omega) with rfl | rfl | rfl <;> rcases lt6 hi with rfl | rfl | rfl | rfl | rfl | rfl <;> (go_simp; try rfl)
def vec13 (i : Nat) : Int := [0, 0, -1, 1, 0, 0].getD i 0
theorem hd_fd : fdG hornB 3 hornG 8 20000 vec13 = true := by decide +kernel
theorem hd_len : (fdL hornB 3 hornG 20000 (at12 vec13) ((8 : Int).toNat * 2 ^ 3)).length = 2 := by decide +kernel
theorem hd_bs : bsE hornB 3 hornG 8 20000 vec13 = 0 ∧ bsX 3 (bsB hornB 3 hornG 8 20000 vec13) = 6 ∧ bsS 3 (bsB hornB 3 hornG 8 20000 vec13) = 2 := by decide +kernel
theorem hd_bv : bsV hornB 3 hornG 8 20000 vec13 = .tuple #[.agg #[.int .i64 6, .int .i64 2], .int .i64 0] := by
  unfold bsV
  rw [hd_bs.1, hd_bs.2.1, hd_bs.2.2]
set_option maxRecDepth 100000 in
set_option maxHeartbeats 4000000 in
theorem head13_c (w : World) (hP : PR w) (hQ : BP w) (hL : LG w) : Calls Tryd.prog 26 #[] w (Ret (.bool true) w) := by
  have HH := Lib.hid (fun w => horn_c w)
  have HP := Lib.hid hP
  have HQ := Lib.hid hQ
  have HL := Lib.hid hL
  have e0 : hornB 0 = -24 := rfl
  have e1 : hornB 1 = 0 := rfl
  have e2 : hornB 2 = 0 := rfl
  have e3 : hornB 3 = 0 := rfl
  have e4 : hornB 4 = 0 := rfl
  have e5 : hornB 5 = 0 := rfl
  have d0 : vec13 0 = 0 := rfl
  have d1 : vec13 1 = 0 := rfl
  have d2 : vec13 2 = -1 := rfl
  have d3 : vec13 3 = 1 := rfl
  have d4 : vec13 4 = 0 := rfl
  have d5 : vec13 5 = 0 := rfl
  have hF := fun b w hv hP hQ hL => Find_c hornB (some ⟨b, 0, none⟩) 3 3 hornG 8 20000 vec13 w hv hP hQ hL (by omega)
  have hB := fun b w hv hP hQ hL => Best_c hornB (some ⟨b, 0, none⟩) 3 3 hornG 8 20000 vec13 w hv hP hQ hL (by omega)
  simp only [e0, e1, e2, e3, e4, e5, d0, d1, d2, d3, d4, d5] at hF hB
  rw [hd_bv] at hB
  have HF := Lib.hid hF
  have HB := Lib.hid hB
  clear hP hQ hL e0 e1 e2 e3 e4 e5 d0 d1 d2 d3 d4 d5 hF hB
  go_enter Tryd.func26, Tryd.ntmps26
  go_wp2_with fail
  (with_reducible refine (HH.out _).mono ?_)
  rintro e W1 ⟨hb1, b1, rfl, hv1⟩
  go_wp2_with fail
  (with_reducible refine (HF.out b1 W1 hv1 (HP.out.up hb1) (HQ.out.up hb1) (HL.out.up hb1)).mono ?_)
  rintro e W2 ⟨hb2, ⟨hx, _⟩ | ⟨_, A2, c2, rfl, hr2⟩⟩
  · rw [hd_fd] at hx
    cases hx
  rw [hd_len]
  have HB2 := Lib.hid (bl_trans hb1 hb2)
  clear hr2 hb1 hb2 hv1
  go_wp2_with fail
  (with_reducible refine (HH.out _).mono ?_)
  rintro e W3 ⟨hb3, b3, rfl, hv3⟩
  have hb3' := bl_trans HB2.out hb3
  go_wp2_with fail
  (with_reducible refine (HB.out b3 W3 hv3 (HP.out.up hb3') (HQ.out.up hb3') (HL.out.up hb3')).mono ?_)
  rintro e W4 ⟨rfl, hb4⟩
  have hb4' := bl_trans hb3' hb4
  clear hb3 hb3' hv3 hb4
  go_wp2
  go_ret
  exact ⟨rfl, by (repeat (first | (with_reducible exact bl_refl _) | (with_reducible refine bl_drew ?_) | (with_reducible refine bl_alloc ?_ _) | (with_reducible refine bl_set' ?_ ?_; · (first | omega | (simp; done) | (simp; omega))) | (with_reducible refine bl_last (by assumption) ?_) | (with_reducible refine bl_drewN ?_ _)))⟩
end Go.Proofs.YtehifkdfbiebfaaDoor
