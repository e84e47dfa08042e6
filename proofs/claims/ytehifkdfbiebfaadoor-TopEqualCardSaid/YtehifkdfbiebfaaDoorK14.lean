/- Pitch: the bounds of exponents. Pitch: '==' of pitches and intervals. -/
import Derived.Test.YtehifkdfbiebfaaDoorK03
import Derived.LoopN
import Derived.Laws.StructEq
namespace Go.Proofs.YtehifkdfbiebfaaDoor
open Go.RowKit

def wi (x B : Int) : Bool := decide (-B ≤ x) && decide (x ≤ B)
theorem wi_ways (x B : Int) : (x < -B ∧ wi x B = false) ∨ (-B ≤ x ∧ B < x ∧ wi x B = false) ∨ (-B ≤ x ∧ x ≤ B ∧ wi x B = true) := by
  unfold wi
  by_cases h1 : -B ≤ x
  · by_cases h2 : x ≤ B
    · exact Or.inr (Or.inr ⟨h1, h2, by simp [h1, h2]⟩)
    · exact Or.inr (Or.inl ⟨h1, by omega, by simp [h2]⟩)
  · exact Or.inl ⟨by omega, by simp [h1]⟩
theorem wi_of {x B : Int} (h : wi x B = true) : -B ≤ x ∧ x ≤ B := by simpa [wi] using h
/-- All six exponents are at most B, in absolute value. -/
def pV (a b c d e f B : Int) : Bool := wi a B && (wi b B && (wi c B && (wi d B && (wi e B && wi f B))))
theorem pV_of {a b c d e f B : Int} (h : pV a b c d e f B = true) : wi a B = true ∧ wi b B = true ∧ wi c B = true ∧ wi d B = true ∧ wi e B = true ∧ wi f B = true := by simpa [pV] using h
theorem pV_mk {a b c d e f B : Int} (h1 : wi a B = true) (h2 : wi b B = true) (h3 : wi c B = true) (h4 : wi d B = true) (h5 : wi e B = true) (h6 : wi f B = true) : pV a b c d e f B = true := by simp [pV, h1, h2, h3, h4, h5, h6]

@[go_sem] theorem idx6_0 (a b c d e f : Int) (w : World) : (Instr.index 26 (.agg #[.int .i64 a, .int .i64 b, .int .i64 c, .int .i64 d, .int .i64 e, .int .i64 f]) (.int .i64 0)).run Tryd.prog w = .ok (.int .i64 a) w := by kernel_rfl
@[go_sem] theorem idx6_1 (a b c d e f : Int) (w : World) : (Instr.index 26 (.agg #[.int .i64 a, .int .i64 b, .int .i64 c, .int .i64 d, .int .i64 e, .int .i64 f]) (.int .i64 1)).run Tryd.prog w = .ok (.int .i64 b) w := by kernel_rfl
@[go_sem] theorem idx6_2 (a b c d e f : Int) (w : World) : (Instr.index 26 (.agg #[.int .i64 a, .int .i64 b, .int .i64 c, .int .i64 d, .int .i64 e, .int .i64 f]) (.int .i64 2)).run Tryd.prog w = .ok (.int .i64 c) w := by kernel_rfl
@[go_sem] theorem idx6_3 (a b c d e f : Int) (w : World) : (Instr.index 26 (.agg #[.int .i64 a, .int .i64 b, .int .i64 c, .int .i64 d, .int .i64 e, .int .i64 f]) (.int .i64 3)).run Tryd.prog w = .ok (.int .i64 d) w := by kernel_rfl
@[go_sem] theorem idx6_4 (a b c d e f : Int) (w : World) : (Instr.index 26 (.agg #[.int .i64 a, .int .i64 b, .int .i64 c, .int .i64 d, .int .i64 e, .int .i64 f]) (.int .i64 4)).run Tryd.prog w = .ok (.int .i64 e) w := by kernel_rfl
@[go_sem] theorem idx6_5 (a b c d e f : Int) (w : World) : (Instr.index 26 (.agg #[.int .i64 a, .int .i64 b, .int .i64 c, .int .i64 d, .int .i64 e, .int .i64 f]) (.int .i64 5)).run Tryd.prog w = .ok (.int .i64 f) w := by kernel_rfl

set_option maxRecDepth 100000 in
set_option maxHeartbeats 4000000 in
theorem within_c (a b c d e f B : Int) (w : World) (hB : 0 ≤ B) (hB' : B ≤ 1000) : Calls Tryd.prog 61 #[.agg #[.int .i64 a, .int .i64 b, .int .i64 c, .int .i64 d, .int .i64 e, .int .i64 f], .int .i64 B] w (Ret (.bool (pV a b c d e f B)) w) := by
  generalize hv : pV a b c d e f B = V
  have HV := Lib.hid hv.symm
  clear hv
  go_enter Tryd.func61, Tryd.ntmps61
  go_wp2
  refine wp_loop_rounds 7 ?_
  rw [rounds_succ]
  rcases wi_ways a (B) with ⟨h0, e0⟩ | ⟨h0, g0, e0⟩ | ⟨h0, g0, e0⟩
  · (have E0 := Lib.hid e0; clear e0; go_wp2; go_ret; exact ⟨ret_bool (by rw [HV.out]; simp [pV, E0.out]), by (repeat (first | (with_reducible exact bl_refl _) | (with_reducible refine bl_drew ?_) | (with_reducible refine bl_alloc ?_ _) | (with_reducible refine bl_set' ?_ ?_; · (first | omega | (simp; done) | (simp; omega))) | (with_reducible refine bl_last (by assumption) ?_) | (with_reducible refine bl_drewN ?_ _)))⟩)
  · (have E0 := Lib.hid e0; clear e0; go_wp2; go_ret; exact ⟨ret_bool (by rw [HV.out]; simp [pV, E0.out]), by (repeat (first | (with_reducible exact bl_refl _) | (with_reducible refine bl_drew ?_) | (with_reducible refine bl_alloc ?_ _) | (with_reducible refine bl_set' ?_ ?_; · (first | omega | (simp; done) | (simp; omega))) | (with_reducible refine bl_last (by assumption) ?_) | (with_reducible refine bl_drewN ?_ _)))⟩)
  have E0 := Lib.hid e0
  clear e0
  go_wp2
  rw [rounds_succ]
  rcases wi_ways b (B) with ⟨h1, e1⟩ | ⟨h1, g1, e1⟩ | ⟨h1, g1, e1⟩
  · (have E1 := Lib.hid e1; clear e1; go_wp2; go_ret; exact ⟨ret_bool (by rw [HV.out]; simp [pV, E0.out, E1.out]), by (repeat (first | (with_reducible exact bl_refl _) | (with_reducible refine bl_drew ?_) | (with_reducible refine bl_alloc ?_ _) | (with_reducible refine bl_set' ?_ ?_; · (first | omega | (simp; done) | (simp; omega))) | (with_reducible refine bl_last (by assumption) ?_) | (with_reducible refine bl_drewN ?_ _)))⟩)
  · (have E1 := Lib.hid e1; clear e1; go_wp2; go_ret; exact ⟨ret_bool (by rw [HV.out]; simp [pV, E0.out, E1.out]), by (repeat (first | (with_reducible exact bl_refl _) | (with_reducible refine bl_drew ?_) | (with_reducible refine bl_alloc ?_ _) | (with_reducible refine bl_set' ?_ ?_; · (first | omega | (simp; done) | (simp; omega))) | (with_reducible refine bl_last (by assumption) ?_) | (with_reducible refine bl_drewN ?_ _)))⟩)
  have E1 := Lib.hid e1
  clear e1
  go_wp2
  rw [rounds_succ]
  rcases wi_ways c (B) with ⟨h2, e2⟩ | ⟨h2, g2, e2⟩ | ⟨h2, g2, e2⟩
  · (have E2 := Lib.hid e2; clear e2; go_wp2; go_ret; exact ⟨ret_bool (by rw [HV.out]; simp [pV, E0.out, E1.out, E2.out]), by (repeat (first | (with_reducible exact bl_refl _) | (with_reducible refine bl_drew ?_) | (with_reducible refine bl_alloc ?_ _) | (with_reducible refine bl_set' ?_ ?_; · (first | omega | (simp; done) | (simp; omega))) | (with_reducible refine bl_last (by assumption) ?_) | (with_reducible refine bl_drewN ?_ _)))⟩)
  · (have E2 := Lib.hid e2; clear e2; go_wp2; go_ret; exact ⟨ret_bool (by rw [HV.out]; simp [pV, E0.out, E1.out, E2.out]), by (repeat (first | (with_reducible exact bl_refl _) | (with_reducible refine bl_drew ?_) | (with_reducible refine bl_alloc ?_ _) | (with_reducible refine bl_set' ?_ ?_; · (first | omega | (simp; done) | (simp; omega))) | (with_reducible refine bl_last (by assumption) ?_) | (with_reducible refine bl_drewN ?_ _)))⟩)
  have E2 := Lib.hid e2
  clear e2
  go_wp2
  rw [rounds_succ]
  rcases wi_ways d (B) with ⟨h3, e3⟩ | ⟨h3, g3, e3⟩ | ⟨h3, g3, e3⟩
  · (have E3 := Lib.hid e3; clear e3; go_wp2; go_ret; exact ⟨ret_bool (by rw [HV.out]; simp [pV, E0.out, E1.out, E2.out, E3.out]), by (repeat (first | (with_reducible exact bl_refl _) | (with_reducible refine bl_drew ?_) | (with_reducible refine bl_alloc ?_ _) | (with_reducible refine bl_set' ?_ ?_; · (first | omega | (simp; done) | (simp; omega))) | (with_reducible refine bl_last (by assumption) ?_) | (with_reducible refine bl_drewN ?_ _)))⟩)
  · (have E3 := Lib.hid e3; clear e3; go_wp2; go_ret; exact ⟨ret_bool (by rw [HV.out]; simp [pV, E0.out, E1.out, E2.out, E3.out]), by (repeat (first | (with_reducible exact bl_refl _) | (with_reducible refine bl_drew ?_) | (with_reducible refine bl_alloc ?_ _) | (with_reducible refine bl_set' ?_ ?_; · (first | omega | (simp; done) | (simp; omega))) | (with_reducible refine bl_last (by assumption) ?_) | (with_reducible refine bl_drewN ?_ _)))⟩)
  have E3 := Lib.hid e3
  clear e3
  go_wp2
  rw [rounds_succ]
  rcases wi_ways e (B) with ⟨h4, e4⟩ | ⟨h4, g4, e4⟩ | ⟨h4, g4, e4⟩
  · (have E4 := Lib.hid e4; clear e4; go_wp2; go_ret; exact ⟨ret_bool (by rw [HV.out]; simp [pV, E0.out, E1.out, E2.out, E3.out, E4.out]), by (repeat (first | (with_reducible exact bl_refl _) | (with_reducible refine bl_drew ?_) | (with_reducible refine bl_alloc ?_ _) | (with_reducible refine bl_set' ?_ ?_; · (first | omega | (simp; done) | (simp; omega))) | (with_reducible refine bl_last (by assumption) ?_) | (with_reducible refine bl_drewN ?_ _)))⟩)
  · (have E4 := Lib.hid e4; clear e4; go_wp2; go_ret; exact ⟨ret_bool (by rw [HV.out]; simp [pV, E0.out, E1.out, E2.out, E3.out, E4.out]), by (repeat (first | (with_reducible exact bl_refl _) | (with_reducible refine bl_drew ?_) | (with_reducible refine bl_alloc ?_ _) | (with_reducible refine bl_set' ?_ ?_; · (first | omega | (simp; done) | (simp; omega))) | (with_reducible refine bl_last (by assumption) ?_) | (with_reducible refine bl_drewN ?_ _)))⟩)
  have E4 := Lib.hid e4
  clear e4
  go_wp2
  rw [rounds_succ]
  rcases wi_ways f (B) with ⟨h5, e5⟩ | ⟨h5, g5, e5⟩ | ⟨h5, g5, e5⟩
  · (have E5 := Lib.hid e5; clear e5; go_wp2; go_ret; exact ⟨ret_bool (by rw [HV.out]; simp [pV, E0.out, E1.out, E2.out, E3.out, E4.out, E5.out]), by (repeat (first | (with_reducible exact bl_refl _) | (with_reducible refine bl_drew ?_) | (with_reducible refine bl_alloc ?_ _) | (with_reducible refine bl_set' ?_ ?_; · (first | omega | (simp; done) | (simp; omega))) | (with_reducible refine bl_last (by assumption) ?_) | (with_reducible refine bl_drewN ?_ _)))⟩)
  · (have E5 := Lib.hid e5; clear e5; go_wp2; go_ret; exact ⟨ret_bool (by rw [HV.out]; simp [pV, E0.out, E1.out, E2.out, E3.out, E4.out, E5.out]), by (repeat (first | (with_reducible exact bl_refl _) | (with_reducible refine bl_drew ?_) | (with_reducible refine bl_alloc ?_ _) | (with_reducible refine bl_set' ?_ ?_; · (first | omega | (simp; done) | (simp; omega))) | (with_reducible refine bl_last (by assumption) ?_) | (with_reducible refine bl_drewN ?_ _)))⟩)
  have E5 := Lib.hid e5
  clear e5
  go_wp2
  rw [rounds_succ]
  go_wp2
  go_ret
  exact ⟨ret_bool (by rw [HV.out]; simp [pV, E0.out, E1.out, E2.out, E3.out, E4.out, E5.out]), by (repeat (first | (with_reducible exact bl_refl _) | (with_reducible refine bl_drew ?_) | (with_reducible refine bl_alloc ?_ _) | (with_reducible refine bl_set' ?_ ?_; · (first | omega | (simp; done) | (simp; omega))) | (with_reducible refine bl_last (by assumption) ?_) | (with_reducible refine bl_drewN ?_ _)))⟩


set_option maxHeartbeats 1000000 in
theorem PVld_c (a b c d e f : Int) (w : World) : Calls Tryd.prog 80 #[.agg #[.int .i64 a, .int .i64 b, .int .i64 c, .int .i64 d, .int .i64 e, .int .i64 f]] w (Ret (.bool (pV a b c d e f 576)) w) := by
  have HW := Lib.hid (fun w => within_c a b c d e f 576 w (by omega) (by omega))
  generalize pV a b c d e f 576 = V at *
  go_enter Tryd.func80, Tryd.ntmps80
  go_wp2_with (go_at_call 61; ((with_reducible refine (HW.out _).mono ?_); rintro e w' ⟨rfl, hb⟩; obtain ⟨hz, hc, hf⟩ := bcl hb (by first | (simp; rfl) | rfl)))
  go_ret
  exact ⟨rfl, by (repeat (first | (with_reducible exact bl_refl _) | (with_reducible refine bl_drew ?_) | (with_reducible refine bl_alloc ?_ _) | (with_reducible refine bl_set' ?_ ?_; · (first | omega | (simp; done) | (simp; omega))) | (with_reducible refine bl_last (by assumption) ?_) | (with_reducible refine bl_drewN ?_ _)))⟩

set_option maxHeartbeats 1000000 in
theorem PInt_c (a b c d e f : Int) (w : World) : Calls Tryd.prog 15 #[.agg #[.int .i64 a, .int .i64 b, .int .i64 c, .int .i64 d, .int .i64 e, .int .i64 f]] w (Ret (.bool (pV a b c d e f 48)) w) := by
  have HW := Lib.hid (fun w => within_c a b c d e f 48 w (by omega) (by omega))
  generalize pV a b c d e f 48 = V at *
  go_enter Tryd.func15, Tryd.ntmps15
  go_wp2_with (go_at_call 61; ((with_reducible refine (HW.out _).mono ?_); rintro e w' ⟨rfl, hb⟩; obtain ⟨hz, hc, hf⟩ := bcl hb (by first | (simp; rfl) | rfl)))
  go_ret
  exact ⟨rfl, by (repeat (first | (with_reducible exact bl_refl _) | (with_reducible refine bl_drew ?_) | (with_reducible refine bl_alloc ?_ _) | (with_reducible refine bl_set' ?_ ?_; · (first | omega | (simp; done) | (simp; omega))) | (with_reducible refine bl_last (by assumption) ?_) | (with_reducible refine bl_drewN ?_ _)))⟩



set_option maxRecDepth 100000 in
set_option maxHeartbeats 4000000 in
theorem RPInt_c (a b c d e f : Int) (w : World) : Calls Tryd.prog 45 #[.agg #[.int .i64 a, .int .i64 b, .int .i64 c, .int .i64 d, .int .i64 e, .int .i64 f]] w (Ret (.bool (pV a b c d e f 48)) w) := by
  generalize hv : pV a b c d e f 48 = V
  have HV := Lib.hid hv.symm
  clear hv
  go_enter Tryd.func45, Tryd.ntmps45
  go_wp2
  refine wp_loop_rounds 7 ?_
  rw [rounds_succ]
  rcases wi_ways a (48) with ⟨h0, e0⟩ | ⟨h0, g0, e0⟩ | ⟨h0, g0, e0⟩
  · (have E0 := Lib.hid e0; clear e0; go_wp2; go_ret; exact ⟨ret_bool (by rw [HV.out]; simp [pV, E0.out]), by (repeat (first | (with_reducible exact bl_refl _) | (with_reducible refine bl_drew ?_) | (with_reducible refine bl_alloc ?_ _) | (with_reducible refine bl_set' ?_ ?_; · (first | omega | (simp; done) | (simp; omega))) | (with_reducible refine bl_last (by assumption) ?_) | (with_reducible refine bl_drewN ?_ _)))⟩)
  · (have E0 := Lib.hid e0; clear e0; go_wp2; go_ret; exact ⟨ret_bool (by rw [HV.out]; simp [pV, E0.out]), by (repeat (first | (with_reducible exact bl_refl _) | (with_reducible refine bl_drew ?_) | (with_reducible refine bl_alloc ?_ _) | (with_reducible refine bl_set' ?_ ?_; · (first | omega | (simp; done) | (simp; omega))) | (with_reducible refine bl_last (by assumption) ?_) | (with_reducible refine bl_drewN ?_ _)))⟩)
  have E0 := Lib.hid e0
  clear e0
  go_wp2
  rw [rounds_succ]
  rcases wi_ways b (48) with ⟨h1, e1⟩ | ⟨h1, g1, e1⟩ | ⟨h1, g1, e1⟩
  · (have E1 := Lib.hid e1; clear e1; go_wp2; go_ret; exact ⟨ret_bool (by rw [HV.out]; simp [pV, E0.out, E1.out]), by (repeat (first | (with_reducible exact bl_refl _) | (with_reducible refine bl_drew ?_) | (with_reducible refine bl_alloc ?_ _) | (with_reducible refine bl_set' ?_ ?_; · (first | omega | (simp; done) | (simp; omega))) | (with_reducible refine bl_last (by assumption) ?_) | (with_reducible refine bl_drewN ?_ _)))⟩)
  · (have E1 := Lib.hid e1; clear e1; go_wp2; go_ret; exact ⟨ret_bool (by rw [HV.out]; simp [pV, E0.out, E1.out]), by (repeat (first | (with_reducible exact bl_refl _) | (with_reducible refine bl_drew ?_) | (with_reducible refine bl_alloc ?_ _) | (with_reducible refine bl_set' ?_ ?_; · (first | omega | (simp; done) | (simp; omega))) | (with_reducible refine bl_last (by assumption) ?_) | (with_reducible refine bl_drewN ?_ _)))⟩)
  have E1 := Lib.hid e1
  clear e1
  go_wp2
  rw [rounds_succ]
  rcases wi_ways c (48) with ⟨h2, e2⟩ | ⟨h2, g2, e2⟩ | ⟨h2, g2, e2⟩
  · (have E2 := Lib.hid e2; clear e2; go_wp2; go_ret; exact ⟨ret_bool (by rw [HV.out]; simp [pV, E0.out, E1.out, E2.out]), by (repeat (first | (with_reducible exact bl_refl _) | (with_reducible refine bl_drew ?_) | (with_reducible refine bl_alloc ?_ _) | (with_reducible refine bl_set' ?_ ?_; · (first | omega | (simp; done) | (simp; omega))) | (with_reducible refine bl_last (by assumption) ?_) | (with_reducible refine bl_drewN ?_ _)))⟩)
  · (have E2 := Lib.hid e2; clear e2; go_wp2; go_ret; exact ⟨ret_bool (by rw [HV.out]; simp [pV, E0.out, E1.out, E2.out]), by (repeat (first | (with_reducible exact bl_refl _) | (with_reducible refine bl_drew ?_) | (with_reducible refine bl_alloc ?_ _) | (with_reducible refine bl_set' ?_ ?_; · (first | omega | (simp; done) | (simp; omega))) | (with_reducible refine bl_last (by assumption) ?_) | (with_reducible refine bl_drewN ?_ _)))⟩)
  have E2 := Lib.hid e2
  clear e2
  go_wp2
  rw [rounds_succ]
  rcases wi_ways d (48) with ⟨h3, e3⟩ | ⟨h3, g3, e3⟩ | ⟨h3, g3, e3⟩
  · (have E3 := Lib.hid e3; clear e3; go_wp2; go_ret; exact ⟨ret_bool (by rw [HV.out]; simp [pV, E0.out, E1.out, E2.out, E3.out]), by (repeat (first | (with_reducible exact bl_refl _) | (with_reducible refine bl_drew ?_) | (with_reducible refine bl_alloc ?_ _) | (with_reducible refine bl_set' ?_ ?_; · (first | omega | (simp; done) | (simp; omega))) | (with_reducible refine bl_last (by assumption) ?_) | (with_reducible refine bl_drewN ?_ _)))⟩)
  · (have E3 := Lib.hid e3; clear e3; go_wp2; go_ret; exact ⟨ret_bool (by rw [HV.out]; simp [pV, E0.out, E1.out, E2.out, E3.out]), by (repeat (first | (with_reducible exact bl_refl _) | (with_reducible refine bl_drew ?_) | (with_reducible refine bl_alloc ?_ _) | (with_reducible refine bl_set' ?_ ?_; · (first | omega | (simp; done) | (simp; omega))) | (with_reducible refine bl_last (by assumption) ?_) | (with_reducible refine bl_drewN ?_ _)))⟩)
  have E3 := Lib.hid e3
  clear e3
  go_wp2
  rw [rounds_succ]
  rcases wi_ways e (48) with ⟨h4, e4⟩ | ⟨h4, g4, e4⟩ | ⟨h4, g4, e4⟩
  · (have E4 := Lib.hid e4; clear e4; go_wp2; go_ret; exact ⟨ret_bool (by rw [HV.out]; simp [pV, E0.out, E1.out, E2.out, E3.out, E4.out]), by (repeat (first | (with_reducible exact bl_refl _) | (with_reducible refine bl_drew ?_) | (with_reducible refine bl_alloc ?_ _) | (with_reducible refine bl_set' ?_ ?_; · (first | omega | (simp; done) | (simp; omega))) | (with_reducible refine bl_last (by assumption) ?_) | (with_reducible refine bl_drewN ?_ _)))⟩)
  · (have E4 := Lib.hid e4; clear e4; go_wp2; go_ret; exact ⟨ret_bool (by rw [HV.out]; simp [pV, E0.out, E1.out, E2.out, E3.out, E4.out]), by (repeat (first | (with_reducible exact bl_refl _) | (with_reducible refine bl_drew ?_) | (with_reducible refine bl_alloc ?_ _) | (with_reducible refine bl_set' ?_ ?_; · (first | omega | (simp; done) | (simp; omega))) | (with_reducible refine bl_last (by assumption) ?_) | (with_reducible refine bl_drewN ?_ _)))⟩)
  have E4 := Lib.hid e4
  clear e4
  go_wp2
  rw [rounds_succ]
  rcases wi_ways f (48) with ⟨h5, e5⟩ | ⟨h5, g5, e5⟩ | ⟨h5, g5, e5⟩
  · (have E5 := Lib.hid e5; clear e5; go_wp2; go_ret; exact ⟨ret_bool (by rw [HV.out]; simp [pV, E0.out, E1.out, E2.out, E3.out, E4.out, E5.out]), by (repeat (first | (with_reducible exact bl_refl _) | (with_reducible refine bl_drew ?_) | (with_reducible refine bl_alloc ?_ _) | (with_reducible refine bl_set' ?_ ?_; · (first | omega | (simp; done) | (simp; omega))) | (with_reducible refine bl_last (by assumption) ?_) | (with_reducible refine bl_drewN ?_ _)))⟩)
  · (have E5 := Lib.hid e5; clear e5; go_wp2; go_ret; exact ⟨ret_bool (by rw [HV.out]; simp [pV, E0.out, E1.out, E2.out, E3.out, E4.out, E5.out]), by (repeat (first | (with_reducible exact bl_refl _) | (with_reducible refine bl_drew ?_) | (with_reducible refine bl_alloc ?_ _) | (with_reducible refine bl_set' ?_ ?_; · (first | omega | (simp; done) | (simp; omega))) | (with_reducible refine bl_last (by assumption) ?_) | (with_reducible refine bl_drewN ?_ _)))⟩)
  have E5 := Lib.hid e5
  clear e5
  go_wp2
  rw [rounds_succ]
  go_wp2
  go_ret
  exact ⟨ret_bool (by rw [HV.out]; simp [pV, E0.out, E1.out, E2.out, E3.out, E4.out, E5.out]), by (repeat (first | (with_reducible exact bl_refl _) | (with_reducible refine bl_drew ?_) | (with_reducible refine bl_alloc ?_ _) | (with_reducible refine bl_set' ?_ ?_; · (first | omega | (simp; done) | (simp; omega))) | (with_reducible refine bl_last (by assumption) ?_) | (with_reducible refine bl_drewN ?_ _)))⟩
end Go.Proofs.YtehifkdfbiebfaaDoor
namespace Go.Proofs.YtehifkdfbiebfaaDoor
open Go Go.RowKit

theorem eq6_run (t : TypeId) (h : Tryd.prog.underlying t = some (.array 6 3)) (a b c d e f x y z p q r : Int) (w : World) :
    (Op.equalIn 10000 t (.agg #[.int .i64 a, .int .i64 b, .int .i64 c, .int .i64 d, .int .i64 e, .int .i64 f]) (.agg #[.int .i64 x, .int .i64 y, .int .i64 z, .int .i64 p, .int .i64 q, .int .i64 r])).run Tryd.prog w = .ok (a == x && (b == y && (c == z && (d == p && (e == q && f == r))))) w := by
  have hI := Tryd.underlying3
  rw [show (10000 : Nat) = 9999 + 1 from rfl, Op.equalIn]
  simp only [Sem.run_bind, run_underlying h, Result.andThen_ok]
  simp only [Std.Legacy.Range.forIn_eq_forIn_range', Std.Legacy.Range.size, Nat.sub_zero, Nat.add_sub_cancel, Nat.div_one, List.range'_succ, List.range'_zero, List.forIn_cons, List.forIn_nil]
  go_simp
  by_cases h1 : a = x
  · by_cases h2 : b = y
    · by_cases h3 : c = z
      · by_cases h4 : d = p
        · by_cases h5 : e = q
          · by_cases h6 : f = r
            · simp [h1, h2, h3, h4, h5, h6]
            · simp [h1, h2, h3, h4, h5, h6]
          · simp [h1, h2, h3, h4, h5]
        · simp [h1, h2, h3, h4]
      · simp [h1, h2, h3]
    · simp [h1, h2]
  · simp [h1]
@[go_sem] theorem eq6_vec (a b c d e f x y z p q r : Int) (w : World) :
    (Op.equalIn 10000 27 (.agg #[.int .i64 a, .int .i64 b, .int .i64 c, .int .i64 d, .int .i64 e, .int .i64 f]) (.agg #[.int .i64 x, .int .i64 y, .int .i64 z, .int .i64 p, .int .i64 q, .int .i64 r])).run Tryd.prog w = .ok (a == x && (b == y && (c == z && (d == p && (e == q && f == r))))) w :=
  eq6_run _ Tryd.underlying27 a b c d e f x y z p q r w
@[go_sem] theorem eq6_pitch (a b c d e f x y z p q r : Int) (w : World) :
    (Op.equalIn 10000 72 (.agg #[.int .i64 a, .int .i64 b, .int .i64 c, .int .i64 d, .int .i64 e, .int .i64 f]) (.agg #[.int .i64 x, .int .i64 y, .int .i64 z, .int .i64 p, .int .i64 q, .int .i64 r])).run Tryd.prog w = .ok (a == x && (b == y && (c == z && (d == p && (e == q && f == r))))) w :=
  eq6_run _ Tryd.underlying72 a b c d e f x y z p q r w
@[go_sem] theorem eg6_vec (op : BinOp) (x y : Operand) (xs ys : Array Value) (w : World) : (eqGuard op 27 x y (.agg xs) (.agg ys)).run Tryd.prog w = .ok () w := run_eqGuard_agg w op _ x y xs ys (by kernel_rfl)
@[go_sem] theorem eg6_pitch (op : BinOp) (x y : Operand) (xs ys : Array Value) (w : World) : (eqGuard op 72 x y (.agg xs) (.agg ys)).run Tryd.prog w = .ok () w := run_eqGuard_agg w op _ x y xs ys (by kernel_rfl)
end Go.Proofs.YtehifkdfbiebfaaDoor
