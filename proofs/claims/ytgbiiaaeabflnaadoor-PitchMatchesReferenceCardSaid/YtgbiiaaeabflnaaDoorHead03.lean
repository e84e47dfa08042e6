/- The head of chapter 3's laws. (genhead03.py prints this.) -/
import Derived.Test.YtgbiiaaeabflnaaDoorHeadC
import Derived.Test.YtgbiiaaeabflnaaDoorEqP
import Derived.Test.YtgbiiaaeabflnaaDoorBlks
namespace Go.Proofs.YtgbiiaaeabflnaaDoor
open Go Go.RowKit

theorem fr_81 {w w' : World} {en : Ending} (h : FrE (-4) 4 (-1) 0 0 0 w en w') : Below w.heap.size w w' ∧ ∃ q n q' n' : Nat, w.heap.size ≤ q ∧ w.heap.size ≤ q' ∧ en = .returned (.tuple #[.slice (some ⟨q, 0, none⟩) n n, .slice (some ⟨q', 0, none⟩) n' n', .int .i64 0]) ∧ Num w' w'.heap.size q n 81 ∧ n ≤ 640 ∧ Num w' w'.heap.size q' n' 80 ∧ n' ≤ 640 := by
  unfold FrE at h
  rw [if_pos (by decide), up_81, dn_80] at h
  exact h
theorem num_lit {W : World} {g : Nat} {t : TypeId} {x : Nat} (h : Blk W g t #[.int .u32 (x : Int)]) (h0 : 1 ≤ x) (h1 : x < 4294967296) : Num W W.heap.size g 1 x :=
  ⟨fun _ => x, ⟨h.lt, fun i hi => by
    obtain rfl : i = 0 := by omega
    exact h.cell 0⟩, ⟨fun i _ => h1, by show 0 + x * 4294967296 ^ 0 = x; omega, fun k _ => by omega⟩⟩
set_option maxRecDepth 100000 in
set_option maxHeartbeats 16000000 in
theorem head03_c (w : World) (hP : PR w) (hQ : PW w) : Calls Tryd.prog 10 #[] w (Ret (.bool true) w) := by
  have H1 := Lib.hid (fun W (h : PR W) => by have := PRatio_c 81 80 W h; rw [ra_81] at this; exact this)
  have H2 := Lib.hid (fun W (h : PR W) => by have := PRatio_c 17 34 W h; rw [ra_17] at this; exact this)
  have H3 := Lib.hid (fun W (h : PR W) => by have := PRatio_c 17 16 W h; rw [ra_16] at this; exact this)
  have H4 := Lib.hid (fun W (h : PR W) => PFraction_c (-4) 4 (-1) 0 0 0 W h)
  have H7 := Lib.hid (fun W => by have := POf_c 0 0 1 0 0 0 W; rw [of_five] at this; exact this)
  have H8 := Lib.hid (fun W => by have := POf_c (-1) 1 0 0 0 0 W; rw [of_fifth] at this; exact this)
  have H9 := Lib.hid (fun W => by have := PPower_c 0 0 12 0 0 0 1 4 W; rw [pw_root] at this; exact this)
  have H10 := Lib.hid (fun W (h : PR W) (h' : PW W) => by have := PText_c 0 0 3 0 0 0 W h h'; rw [tx_root] at this; exact this)
  have H11 := Lib.hid (fun W (h : PR W) (h' : PW W) => by have := PText_c (-12) 12 0 0 0 0 W h h'; rw [tx_fifth] at this; exact this)
  have H12 := Lib.hid (fun W => by have := PWhole_c 0 0 3 0 0 0 W; rw [wh_root] at this; exact this)
  have H13 := Lib.hid (fun W (h : PR W) => by have := PCmp_c 0 0 3 0 0 0 (-12) 12 0 0 0 0 W h; rw [pc_one] at this; exact this)
  have H14 := Lib.hid (fun W (h : PR W) => by have := PCmp_c (-144) 144 0 0 0 0 84 0 0 0 0 0 W h; rw [pc_two] at this; exact this)
  have H15 := Lib.hid (fun W (h : PR W) (h' : PW W) => by have := PParse_c [51, 42, 50] W (by decide) h h'; rw [pr_1] at this; exact this)
  have H16 := Lib.hid (fun W (h : PR W) (h' : PW W) => by have := PParse_c [50, 94, 50, 47, 50] W (by decide) h h'; rw [pr_2] at this; exact this)
  have H17 := Lib.hid (fun W (h : PR W) (h' : PW W) => by have := PParse_c [50, 94, 49] W (by decide) h h'; rw [pr_3] at this; exact this)
  have H18 := Lib.hid (fun W (h : PR W) (h' : PW W) => by have := PParse_c [50, 94, 45, 49, 42, 51] W (by decide) h h'; rw [pr_4] at this; exact this)
  have HP := Lib.hid hP
  have HQ := Lib.hid hQ
  clear hP hQ
  go_enter Tryd.func10, Tryd.ntmps10
  go_wp2_with fail
  ((with_reducible refine (H1.out _ HP.out).mono ?_); rintro e u1 ⟨rfl, d1⟩)
  obtain ⟨hz1, hc1, hf1⟩ := bcl d1 (by first | (simp; rfl) | rfl)
  go_wp2_with fail
  refine calls_letter ?_
  intro W2 hW2
  have k2 : Below w.heap.size w W2 := by
    rw [hW2]
    (repeat (first | (with_reducible assumption) | (with_reducible exact bl_refl _) | (with_reducible refine bl_alloc ?_ _) | (with_reducible refine bl_set' ?_ ?_; · (dsimp only; first | assumption | exact Nat.le_refl _ | omega)) | (with_reducible refine bl_last (by assumption) ?_)))
  have A2 : Blk W2 (u1.heap.size) 38 #[.int .i64 (-4), .int .i64 4, .int .i64 (-1), .int .i64 0, .int .i64 0, .int .i64 0] := by
    rw [hW2]
    (repeat (first | (with_reducible assumption) | (with_reducible apply Blk.new) | (with_reducible exact blkAt _ _ _ _ (by simp; done)) | (with_reducible apply blk_st2) | (with_reducible apply blk_st4) | (with_reducible apply blk_st6) | (with_reducible apply blk_far (hne := by first | (with_reducible assumption) | omega)) | (with_reducible apply blk_up (hb := by assumption)) | (with_reducible apply Blk.alloc)))
  clear hW2
  try clear hz1
  try clear hc1
  try clear hf1
  try clear d1
  have y2 := k2.size
  have gA2 := A2.lt
  have lA2 := Nat.le_of_lt gA2
  ((with_reducible refine (H2.out _ (HP.out.up k2)).mono ?_); rintro e u2 ⟨rfl, d2⟩)
  obtain ⟨hz2, hc2, hf2⟩ := bcl d2 (by first | (simp; rfl) | rfl)
  have qA2 : u1.heap.size < u2.heap.size := by omega
  have pA2 : u1.heap.size ≤ u2.heap.size := by omega
  have oB : w.heap.size ≤ u2.heap.size := by omega
  have nAB : u1.heap.size ≠ u2.heap.size := by omega
  have mAB : u2.heap.size ≠ u1.heap.size := by omega
  go_wp2_with fail
  refine calls_letter ?_
  intro W3 hW3
  have k3 : Below w.heap.size w W3 := by
    rw [hW3]
    (repeat (first | (with_reducible assumption) | (with_reducible exact bl_refl _) | (with_reducible refine bl_alloc ?_ _) | (with_reducible refine bl_set' ?_ ?_; · (dsimp only; first | assumption | exact Nat.le_refl _ | omega)) | (with_reducible refine bl_last (by assumption) ?_)))
  have A3 : Blk W3 (u1.heap.size) 38 #[.int .i64 (-4), .int .i64 4, .int .i64 (-1), .int .i64 0, .int .i64 0, .int .i64 0] := by
    rw [hW3]
    (repeat (first | (with_reducible assumption) | (with_reducible apply Blk.new) | (with_reducible exact blkAt _ _ _ _ (by simp; done)) | (with_reducible apply blk_st2) | (with_reducible apply blk_st4) | (with_reducible apply blk_st6) | (with_reducible apply blk_far (hne := by first | (with_reducible assumption) | omega)) | (with_reducible apply blk_up (hb := by assumption)) | (with_reducible apply Blk.alloc)))
  have B3 : Blk W3 (u2.heap.size) 38 #[.int .i64 (-1), .int .i64 0, .int .i64 0, .int .i64 0, .int .i64 0, .int .i64 0] := by
    rw [hW3]
    (repeat (first | (with_reducible assumption) | (with_reducible apply Blk.new) | (with_reducible exact blkAt _ _ _ _ (by simp; done)) | (with_reducible apply blk_st2) | (with_reducible apply blk_st4) | (with_reducible apply blk_st6) | (with_reducible apply blk_far (hne := by first | (with_reducible assumption) | omega)) | (with_reducible apply blk_up (hb := by assumption)) | (with_reducible apply Blk.alloc)))
  clear hW3
  try clear qA2
  try clear pA2
  try clear hz2
  try clear hc2
  try clear hf2
  try clear d2
  try clear y2
  try clear k2
  try clear A2
  try clear gA2
  try clear lA2
  have y3 := k3.size
  have gA3 := A3.lt
  have lA3 := Nat.le_of_lt gA3
  have gB3 := B3.lt
  have lB3 := Nat.le_of_lt gB3
  ((with_reducible refine (H3.out _ (HP.out.up k3)).mono ?_); rintro e u3 ⟨rfl, d3⟩)
  obtain ⟨hz3, hc3, hf3⟩ := bcl d3 (by first | (simp; rfl) | rfl)
  have qA3 : u1.heap.size < u3.heap.size := by omega
  have pA3 : u1.heap.size ≤ u3.heap.size := by omega
  have qB3 : u2.heap.size < u3.heap.size := by omega
  have pB3 : u2.heap.size ≤ u3.heap.size := by omega
  have oZ : w.heap.size ≤ u3.heap.size := by omega
  have nAZ : u1.heap.size ≠ u3.heap.size := by omega
  have mAZ : u3.heap.size ≠ u1.heap.size := by omega
  have nBZ : u2.heap.size ≠ u3.heap.size := by omega
  have mBZ : u3.heap.size ≠ u2.heap.size := by omega
  go_wp2_with fail
  refine calls_letter ?_
  intro W4 hW4
  have k4 : Below w.heap.size w W4 := by
    rw [hW4]
    (repeat (first | (with_reducible assumption) | (with_reducible exact bl_refl _) | (with_reducible refine bl_alloc ?_ _) | (with_reducible refine bl_set' ?_ ?_; · (dsimp only; first | assumption | exact Nat.le_refl _ | omega)) | (with_reducible refine bl_last (by assumption) ?_)))
  have A4 : Blk W4 (u1.heap.size) 38 #[.int .i64 (-4), .int .i64 4, .int .i64 (-1), .int .i64 0, .int .i64 0, .int .i64 0] := by
    rw [hW4]
    (repeat (first | (with_reducible assumption) | (with_reducible apply Blk.new) | (with_reducible exact blkAt _ _ _ _ (by simp; done)) | (with_reducible apply blk_st2) | (with_reducible apply blk_st4) | (with_reducible apply blk_st6) | (with_reducible apply blk_far (hne := by first | (with_reducible assumption) | omega)) | (with_reducible apply blk_up (hb := by assumption)) | (with_reducible apply Blk.alloc)))
  have B4 : Blk W4 (u2.heap.size) 38 #[.int .i64 (-1), .int .i64 0, .int .i64 0, .int .i64 0, .int .i64 0, .int .i64 0] := by
    rw [hW4]
    (repeat (first | (with_reducible assumption) | (with_reducible apply Blk.new) | (with_reducible exact blkAt _ _ _ _ (by simp; done)) | (with_reducible apply blk_st2) | (with_reducible apply blk_st4) | (with_reducible apply blk_st6) | (with_reducible apply blk_far (hne := by first | (with_reducible assumption) | omega)) | (with_reducible apply blk_up (hb := by assumption)) | (with_reducible apply Blk.alloc)))
  clear hW4
  try clear qB3
  try clear pB3
  try clear qA3
  try clear pA3
  try clear hz3
  try clear hc3
  try clear hf3
  try clear d3
  try clear y3
  try clear k3
  try clear A3
  try clear B3
  try clear gA3
  try clear lA3
  try clear gB3
  try clear lB3
  have y4 := k4.size
  have gA4 := A4.lt
  have lA4 := Nat.le_of_lt gA4
  have gB4 := B4.lt
  have lB4 := Nat.le_of_lt gB4
  ((with_reducible refine (H4.out _ (HP.out.up k4)).mono ?_); intro e u4 hF)
  obtain ⟨d4, q, n, q', n', hq, hq', rfl, hN, h6, hN', h6'⟩ := fr_81 hF
  have k5 := bl_trans k4 d4
  have A5 := blk_up A4 d4
  have B5 := blk_up B4 d4
  clear k4 A4 B4 d4 hF hq hq'
  try clear y4
  try clear k4
  try clear A4
  try clear B4
  try clear gA4
  try clear lA4
  try clear gB4
  try clear lB4
  have gA5 := A5.lt
  have lA5 := Nat.le_of_lt gA5
  have gB5 := B5.lt
  have lB5 := Nat.le_of_lt gB5
  have cA5_0 := A5.cell 0
  have cA5_1 := A5.cell 1
  have cA5_2 := A5.cell 2
  have cA5_3 := A5.cell 3
  have cA5_4 := A5.cell 4
  have cA5_5 := A5.cell 5
  simp only [List.getElem?_toArray, List.getElem?_cons_zero, List.getElem?_cons_succ] at cA5_0 cA5_1 cA5_2 cA5_3 cA5_4 cA5_5
  have cB5_0 := B5.cell 0
  have cB5_1 := B5.cell 1
  have cB5_2 := B5.cell 2
  have cB5_3 := B5.cell 3
  have cB5_4 := B5.cell 4
  have cB5_5 := B5.cell 5
  simp only [List.getElem?_toArray, List.getElem?_cons_zero, List.getElem?_cons_succ] at cB5_0 cB5_1 cB5_2 cB5_3 cB5_4 cB5_5
  go_wp2_with fail
  refine calls_letter ?_
  intro W6 hW6
  have e6 : Below u4.heap.size u4 W6 := by
    rw [hW6]
    (repeat (first | (with_reducible exact bl_refl _) | (with_reducible refine bl_drew ?_) | (with_reducible refine bl_alloc ?_ _) | (with_reducible refine bl_set' ?_ ?_; · (first | omega | (simp; done) | (simp; omega))) | (with_reducible refine bl_last (by assumption) ?_) | (with_reducible refine bl_drewN ?_ _)))
  have k6 := bl_last e6 k5
  have L6 : Num W6 W6.heap.size u4.heap.size 1 81 := num_lit (t := 57) (by rw [hW6]; exact Blk.new _ _ _) (by decide) (by decide)
  have N6 := (hN.below e6).more e6.size
  have M6 := (hN'.below e6).more e6.size
  clear hW6 hN hN' e6
  try clear cB5_0
  try clear cB5_1
  try clear cB5_2
  try clear cB5_3
  try clear cB5_4
  try clear cB5_5
  try clear cA5_0
  try clear cA5_1
  try clear cA5_2
  try clear cA5_3
  try clear cA5_4
  try clear cA5_5
  try clear k5
  try clear A5
  try clear B5
  try clear gA5
  try clear lA5
  try clear gB5
  try clear lB5
  ((with_reducible refine (RSame_c _ _ _ _ _ _ _ _ N6 L6 h6).mono ?_); rintro e u6 ⟨rfl, d6⟩)
  have k6' := bl_last d6 k6
  have M6' := (M6.below d6).more d6.size
  clear N6 L6 M6 d6 k6
  go_wp2_with fail
  refine calls_letter ?_
  intro W7 hW7
  have e7 : Below u6.heap.size u6 W7 := by
    rw [hW7]
    (repeat (first | (with_reducible exact bl_refl _) | (with_reducible refine bl_drew ?_) | (with_reducible refine bl_alloc ?_ _) | (with_reducible refine bl_set' ?_ ?_; · (first | omega | (simp; done) | (simp; omega))) | (with_reducible refine bl_last (by assumption) ?_) | (with_reducible refine bl_drewN ?_ _)))
  have k7 := bl_last e7 k6'
  have L7 : Num W7 W7.heap.size u6.heap.size 1 80 := num_lit (t := 57) (by rw [hW7]; exact Blk.new _ _ _) (by decide) (by decide)
  have N7 := (M6'.below e7).more e7.size
  clear hW7 M6' e7 k6'
  ((with_reducible refine (RSame_c _ _ _ _ _ _ _ _ N7 L7 h6').mono ?_); rintro e u7 ⟨rfl, d7⟩)
  clear N7 L7
  go_wp2_with fail
  refine calls_letter ?_
  intro W8 hW8
  have k8 : Below w.heap.size w W8 := by
    rw [hW8]
    (repeat (first | (with_reducible assumption) | (with_reducible exact bl_refl _) | (with_reducible refine bl_alloc ?_ _) | (with_reducible refine bl_set' ?_ ?_; · (dsimp only; first | assumption | exact Nat.le_refl _ | omega)) | (with_reducible refine bl_last (by assumption) ?_)))
  clear hW8
  try clear k7
  try clear d7
  have y8 := k8.size
  ((with_reducible refine (H7.out _).mono ?_); rintro e u8 ⟨rfl, d8⟩)
  obtain ⟨hz8, hc8, hf8⟩ := bcl d8 (by first | (simp; rfl) | rfl)
  have oF : w.heap.size ≤ u8.heap.size := by omega
  go_wp2_with fail
  refine calls_letter ?_
  intro W9 hW9
  have k9 : Below w.heap.size w W9 := by
    rw [hW9]
    (repeat (first | (with_reducible assumption) | (with_reducible exact bl_refl _) | (with_reducible refine bl_alloc ?_ _) | (with_reducible refine bl_set' ?_ ?_; · (dsimp only; first | assumption | exact Nat.le_refl _ | omega)) | (with_reducible refine bl_last (by assumption) ?_)))
  have F9 : Blk W9 (u8.heap.size) 23 #[.int .i64 0, .int .i64 0, .int .i64 12, .int .i64 0, .int .i64 0, .int .i64 0] := by
    rw [hW9]
    (repeat (first | (with_reducible assumption) | (with_reducible apply Blk.new) | (with_reducible exact blkAt _ _ _ _ (by simp; done)) | (with_reducible apply blk_st2) | (with_reducible apply blk_st4) | (with_reducible apply blk_st6) | (with_reducible apply blk_far (hne := by first | (with_reducible assumption) | omega)) | (with_reducible apply blk_up (hb := by assumption)) | (with_reducible apply Blk.alloc)))
  clear hW9
  try clear hz8
  try clear hc8
  try clear hf8
  try clear d8
  try clear y8
  try clear k8
  have y9 := k9.size
  have gF9 := F9.lt
  have lF9 := Nat.le_of_lt gF9
  have cF9_0 := F9.cell 0
  have cF9_1 := F9.cell 1
  have cF9_2 := F9.cell 2
  have cF9_3 := F9.cell 3
  have cF9_4 := F9.cell 4
  have cF9_5 := F9.cell 5
  simp only [List.getElem?_toArray, List.getElem?_cons_zero, List.getElem?_cons_succ] at cF9_0 cF9_1 cF9_2 cF9_3 cF9_4 cF9_5
  ((with_reducible refine (H8.out _).mono ?_); rintro e u9 ⟨rfl, d9⟩)
  obtain ⟨hz9, hc9, hf9⟩ := bcl d9 (by first | (simp; rfl) | rfl)
  have qF9 : u8.heap.size < u9.heap.size := by omega
  have pF9 : u8.heap.size ≤ u9.heap.size := by omega
  have oG : w.heap.size ≤ u9.heap.size := by omega
  have nFG : u8.heap.size ≠ u9.heap.size := by omega
  have mFG : u9.heap.size ≠ u8.heap.size := by omega
  go_wp2_with fail
  refine calls_letter ?_
  intro W10 hW10
  have k10 : Below w.heap.size w W10 := by
    rw [hW10]
    (repeat (first | (with_reducible assumption) | (with_reducible exact bl_refl _) | (with_reducible refine bl_alloc ?_ _) | (with_reducible refine bl_set' ?_ ?_; · (dsimp only; first | assumption | exact Nat.le_refl _ | omega)) | (with_reducible refine bl_last (by assumption) ?_)))
  have F10 : Blk W10 (u8.heap.size) 23 #[.int .i64 0, .int .i64 0, .int .i64 12, .int .i64 0, .int .i64 0, .int .i64 0] := by
    rw [hW10]
    (repeat (first | (with_reducible assumption) | (with_reducible apply Blk.new) | (with_reducible exact blkAt _ _ _ _ (by simp; done)) | (with_reducible apply blk_st2) | (with_reducible apply blk_st4) | (with_reducible apply blk_st6) | (with_reducible apply blk_far (hne := by first | (with_reducible assumption) | omega)) | (with_reducible apply blk_up (hb := by assumption)) | (with_reducible apply Blk.alloc)))
  have G10 : Blk W10 (u9.heap.size) 23 #[.int .i64 (-12), .int .i64 12, .int .i64 0, .int .i64 0, .int .i64 0, .int .i64 0] := by
    rw [hW10]
    (repeat (first | (with_reducible assumption) | (with_reducible apply Blk.new) | (with_reducible exact blkAt _ _ _ _ (by simp; done)) | (with_reducible apply blk_st2) | (with_reducible apply blk_st4) | (with_reducible apply blk_st6) | (with_reducible apply blk_far (hne := by first | (with_reducible assumption) | omega)) | (with_reducible apply blk_up (hb := by assumption)) | (with_reducible apply Blk.alloc)))
  clear hW10
  try clear qF9
  try clear pF9
  try clear hz9
  try clear hc9
  try clear hf9
  try clear d9
  try clear cF9_0
  try clear cF9_1
  try clear cF9_2
  try clear cF9_3
  try clear cF9_4
  try clear cF9_5
  try clear y9
  try clear k9
  try clear F9
  try clear gF9
  try clear lF9
  have y10 := k10.size
  have gF10 := F10.lt
  have lF10 := Nat.le_of_lt gF10
  have gG10 := G10.lt
  have lG10 := Nat.le_of_lt gG10
  have cF10_0 := F10.cell 0
  have cF10_1 := F10.cell 1
  have cF10_2 := F10.cell 2
  have cF10_3 := F10.cell 3
  have cF10_4 := F10.cell 4
  have cF10_5 := F10.cell 5
  simp only [List.getElem?_toArray, List.getElem?_cons_zero, List.getElem?_cons_succ] at cF10_0 cF10_1 cF10_2 cF10_3 cF10_4 cF10_5
  have cG10_0 := G10.cell 0
  have cG10_1 := G10.cell 1
  have cG10_2 := G10.cell 2
  have cG10_3 := G10.cell 3
  have cG10_4 := G10.cell 4
  have cG10_5 := G10.cell 5
  simp only [List.getElem?_toArray, List.getElem?_cons_zero, List.getElem?_cons_succ] at cG10_0 cG10_1 cG10_2 cG10_3 cG10_4 cG10_5
  ((with_reducible refine (H9.out _).mono ?_); rintro e u10 ⟨rfl, d10⟩)
  obtain ⟨hz10, hc10, hf10⟩ := bcl d10 (by first | (simp; rfl) | rfl)
  have qF10 : u8.heap.size < u10.heap.size := by omega
  have pF10 : u8.heap.size ≤ u10.heap.size := by omega
  have qG10 : u9.heap.size < u10.heap.size := by omega
  have pG10 : u9.heap.size ≤ u10.heap.size := by omega
  have oR : w.heap.size ≤ u10.heap.size := by omega
  have nFR : u8.heap.size ≠ u10.heap.size := by omega
  have mFR : u10.heap.size ≠ u8.heap.size := by omega
  have nGR : u9.heap.size ≠ u10.heap.size := by omega
  have mGR : u10.heap.size ≠ u9.heap.size := by omega
  go_wp2_with fail
  refine calls_letter ?_
  intro W11 hW11
  have k11 : Below w.heap.size w W11 := by
    rw [hW11]
    (repeat (first | (with_reducible assumption) | (with_reducible exact bl_refl _) | (with_reducible refine bl_alloc ?_ _) | (with_reducible refine bl_set' ?_ ?_; · (dsimp only; first | assumption | exact Nat.le_refl _ | omega)) | (with_reducible refine bl_last (by assumption) ?_)))
  have G11 : Blk W11 (u9.heap.size) 23 #[.int .i64 (-12), .int .i64 12, .int .i64 0, .int .i64 0, .int .i64 0, .int .i64 0] := by
    rw [hW11]
    (repeat (first | (with_reducible assumption) | (with_reducible apply Blk.new) | (with_reducible exact blkAt _ _ _ _ (by simp; done)) | (with_reducible apply blk_st2) | (with_reducible apply blk_st4) | (with_reducible apply blk_st6) | (with_reducible apply blk_far (hne := by first | (with_reducible assumption) | omega)) | (with_reducible apply blk_up (hb := by assumption)) | (with_reducible apply Blk.alloc)))
  have R11 : Blk W11 (u10.heap.size) 23 #[.int .i64 0, .int .i64 0, .int .i64 3, .int .i64 0, .int .i64 0, .int .i64 0] := by
    rw [hW11]
    (repeat (first | (with_reducible assumption) | (with_reducible apply Blk.new) | (with_reducible exact blkAt _ _ _ _ (by simp; done)) | (with_reducible apply blk_st2) | (with_reducible apply blk_st4) | (with_reducible apply blk_st6) | (with_reducible apply blk_far (hne := by first | (with_reducible assumption) | omega)) | (with_reducible apply blk_up (hb := by assumption)) | (with_reducible apply Blk.alloc)))
  clear hW11
  try clear qG10
  try clear pG10
  try clear qF10
  try clear pF10
  try clear hz10
  try clear hc10
  try clear hf10
  try clear d10
  try clear cG10_0
  try clear cG10_1
  try clear cG10_2
  try clear cG10_3
  try clear cG10_4
  try clear cG10_5
  try clear cF10_0
  try clear cF10_1
  try clear cF10_2
  try clear cF10_3
  try clear cF10_4
  try clear cF10_5
  try clear y10
  try clear k10
  try clear F10
  try clear G10
  try clear gF10
  try clear lF10
  try clear gG10
  try clear lG10
  have y11 := k11.size
  have gG11 := G11.lt
  have lG11 := Nat.le_of_lt gG11
  have gR11 := R11.lt
  have lR11 := Nat.le_of_lt gR11
  have cG11_0 := G11.cell 0
  have cG11_1 := G11.cell 1
  have cG11_2 := G11.cell 2
  have cG11_3 := G11.cell 3
  have cG11_4 := G11.cell 4
  have cG11_5 := G11.cell 5
  simp only [List.getElem?_toArray, List.getElem?_cons_zero, List.getElem?_cons_succ] at cG11_0 cG11_1 cG11_2 cG11_3 cG11_4 cG11_5
  ((with_reducible refine (H10.out _ (HP.out.up k11) (tab_up HQ.out k11)).mono ?_); rintro e u11 ⟨rfl, d11⟩)
  obtain ⟨hz11, hc11, hf11⟩ := bcl d11 (by first | (simp; rfl) | rfl)
  have qG11 : u9.heap.size < u11.heap.size := by omega
  have pG11 : u9.heap.size ≤ u11.heap.size := by omega
  have qR11 : u10.heap.size < u11.heap.size := by omega
  have pR11 : u10.heap.size ≤ u11.heap.size := by omega
  go_wp2_with fail
  refine calls_letter ?_
  intro W12 hW12
  have k12 : Below w.heap.size w W12 := by
    rw [hW12]
    (repeat (first | (with_reducible assumption) | (with_reducible exact bl_refl _) | (with_reducible refine bl_alloc ?_ _) | (with_reducible refine bl_set' ?_ ?_; · (dsimp only; first | assumption | exact Nat.le_refl _ | omega)) | (with_reducible refine bl_last (by assumption) ?_)))
  have G12 : Blk W12 (u9.heap.size) 23 #[.int .i64 (-12), .int .i64 12, .int .i64 0, .int .i64 0, .int .i64 0, .int .i64 0] := by
    rw [hW12]
    (repeat (first | (with_reducible assumption) | (with_reducible apply Blk.new) | (with_reducible exact blkAt _ _ _ _ (by simp; done)) | (with_reducible apply blk_st2) | (with_reducible apply blk_st4) | (with_reducible apply blk_st6) | (with_reducible apply blk_far (hne := by first | (with_reducible assumption) | omega)) | (with_reducible apply blk_up (hb := by assumption)) | (with_reducible apply Blk.alloc)))
  have R12 : Blk W12 (u10.heap.size) 23 #[.int .i64 0, .int .i64 0, .int .i64 3, .int .i64 0, .int .i64 0, .int .i64 0] := by
    rw [hW12]
    (repeat (first | (with_reducible assumption) | (with_reducible apply Blk.new) | (with_reducible exact blkAt _ _ _ _ (by simp; done)) | (with_reducible apply blk_st2) | (with_reducible apply blk_st4) | (with_reducible apply blk_st6) | (with_reducible apply blk_far (hne := by first | (with_reducible assumption) | omega)) | (with_reducible apply blk_up (hb := by assumption)) | (with_reducible apply Blk.alloc)))
  clear hW12
  try clear qR11
  try clear pR11
  try clear qG11
  try clear pG11
  try clear hz11
  try clear hc11
  try clear hf11
  try clear d11
  try clear cG11_0
  try clear cG11_1
  try clear cG11_2
  try clear cG11_3
  try clear cG11_4
  try clear cG11_5
  try clear y11
  try clear k11
  try clear G11
  try clear R11
  try clear gG11
  try clear lG11
  try clear gR11
  try clear lR11
  have y12 := k12.size
  have gG12 := G12.lt
  have lG12 := Nat.le_of_lt gG12
  have gR12 := R12.lt
  have lR12 := Nat.le_of_lt gR12
  have cR12_0 := R12.cell 0
  have cR12_1 := R12.cell 1
  have cR12_2 := R12.cell 2
  have cR12_3 := R12.cell 3
  have cR12_4 := R12.cell 4
  have cR12_5 := R12.cell 5
  simp only [List.getElem?_toArray, List.getElem?_cons_zero, List.getElem?_cons_succ] at cR12_0 cR12_1 cR12_2 cR12_3 cR12_4 cR12_5
  ((with_reducible refine (H11.out _ (HP.out.up k12) (tab_up HQ.out k12)).mono ?_); rintro e u12 ⟨rfl, d12⟩)
  obtain ⟨hz12, hc12, hf12⟩ := bcl d12 (by first | (simp; rfl) | rfl)
  have qG12 : u9.heap.size < u12.heap.size := by omega
  have pG12 : u9.heap.size ≤ u12.heap.size := by omega
  have qR12 : u10.heap.size < u12.heap.size := by omega
  have pR12 : u10.heap.size ≤ u12.heap.size := by omega
  go_wp2_with fail
  refine calls_letter ?_
  intro W13 hW13
  have k13 : Below w.heap.size w W13 := by
    rw [hW13]
    (repeat (first | (with_reducible assumption) | (with_reducible exact bl_refl _) | (with_reducible refine bl_alloc ?_ _) | (with_reducible refine bl_set' ?_ ?_; · (dsimp only; first | assumption | exact Nat.le_refl _ | omega)) | (with_reducible refine bl_last (by assumption) ?_)))
  have G13 : Blk W13 (u9.heap.size) 23 #[.int .i64 (-12), .int .i64 12, .int .i64 0, .int .i64 0, .int .i64 0, .int .i64 0] := by
    rw [hW13]
    (repeat (first | (with_reducible assumption) | (with_reducible apply Blk.new) | (with_reducible exact blkAt _ _ _ _ (by simp; done)) | (with_reducible apply blk_st2) | (with_reducible apply blk_st4) | (with_reducible apply blk_st6) | (with_reducible apply blk_far (hne := by first | (with_reducible assumption) | omega)) | (with_reducible apply blk_up (hb := by assumption)) | (with_reducible apply Blk.alloc)))
  have R13 : Blk W13 (u10.heap.size) 23 #[.int .i64 0, .int .i64 0, .int .i64 3, .int .i64 0, .int .i64 0, .int .i64 0] := by
    rw [hW13]
    (repeat (first | (with_reducible assumption) | (with_reducible apply Blk.new) | (with_reducible exact blkAt _ _ _ _ (by simp; done)) | (with_reducible apply blk_st2) | (with_reducible apply blk_st4) | (with_reducible apply blk_st6) | (with_reducible apply blk_far (hne := by first | (with_reducible assumption) | omega)) | (with_reducible apply blk_up (hb := by assumption)) | (with_reducible apply Blk.alloc)))
  clear hW13
  try clear qR12
  try clear pR12
  try clear qG12
  try clear pG12
  try clear hz12
  try clear hc12
  try clear hf12
  try clear d12
  try clear cR12_0
  try clear cR12_1
  try clear cR12_2
  try clear cR12_3
  try clear cR12_4
  try clear cR12_5
  try clear y12
  try clear k12
  try clear G12
  try clear R12
  try clear gG12
  try clear lG12
  try clear gR12
  try clear lR12
  have y13 := k13.size
  have gG13 := G13.lt
  have lG13 := Nat.le_of_lt gG13
  have gR13 := R13.lt
  have lR13 := Nat.le_of_lt gR13
  have cR13_0 := R13.cell 0
  have cR13_1 := R13.cell 1
  have cR13_2 := R13.cell 2
  have cR13_3 := R13.cell 3
  have cR13_4 := R13.cell 4
  have cR13_5 := R13.cell 5
  simp only [List.getElem?_toArray, List.getElem?_cons_zero, List.getElem?_cons_succ] at cR13_0 cR13_1 cR13_2 cR13_3 cR13_4 cR13_5
  have cG13_0 := G13.cell 0
  have cG13_1 := G13.cell 1
  have cG13_2 := G13.cell 2
  have cG13_3 := G13.cell 3
  have cG13_4 := G13.cell 4
  have cG13_5 := G13.cell 5
  simp only [List.getElem?_toArray, List.getElem?_cons_zero, List.getElem?_cons_succ] at cG13_0 cG13_1 cG13_2 cG13_3 cG13_4 cG13_5
  ((with_reducible refine (H12.out _).mono ?_); rintro e u13 ⟨rfl, d13⟩)
  obtain ⟨hz13, hc13, hf13⟩ := bcl d13 (by first | (simp; rfl) | rfl)
  have qG13 : u9.heap.size < u13.heap.size := by omega
  have pG13 : u9.heap.size ≤ u13.heap.size := by omega
  have qR13 : u10.heap.size < u13.heap.size := by omega
  have pR13 : u10.heap.size ≤ u13.heap.size := by omega
  go_wp2_with fail
  refine calls_letter ?_
  intro W14 hW14
  have k14 : Below w.heap.size w W14 := by
    rw [hW14]
    (repeat (first | (with_reducible assumption) | (with_reducible exact bl_refl _) | (with_reducible refine bl_alloc ?_ _) | (with_reducible refine bl_set' ?_ ?_; · (dsimp only; first | assumption | exact Nat.le_refl _ | omega)) | (with_reducible refine bl_last (by assumption) ?_)))
  have G14 : Blk W14 (u9.heap.size) 23 #[.int .i64 (-12), .int .i64 12, .int .i64 0, .int .i64 0, .int .i64 0, .int .i64 0] := by
    rw [hW14]
    (repeat (first | (with_reducible assumption) | (with_reducible apply Blk.new) | (with_reducible exact blkAt _ _ _ _ (by simp; done)) | (with_reducible apply blk_st2) | (with_reducible apply blk_st4) | (with_reducible apply blk_st6) | (with_reducible apply blk_far (hne := by first | (with_reducible assumption) | omega)) | (with_reducible apply blk_up (hb := by assumption)) | (with_reducible apply Blk.alloc)))
  have R14 : Blk W14 (u10.heap.size) 23 #[.int .i64 0, .int .i64 0, .int .i64 3, .int .i64 0, .int .i64 0, .int .i64 0] := by
    rw [hW14]
    (repeat (first | (with_reducible assumption) | (with_reducible apply Blk.new) | (with_reducible exact blkAt _ _ _ _ (by simp; done)) | (with_reducible apply blk_st2) | (with_reducible apply blk_st4) | (with_reducible apply blk_st6) | (with_reducible apply blk_far (hne := by first | (with_reducible assumption) | omega)) | (with_reducible apply blk_up (hb := by assumption)) | (with_reducible apply Blk.alloc)))
  clear hW14
  try clear qR13
  try clear pR13
  try clear qG13
  try clear pG13
  try clear hz13
  try clear hc13
  try clear hf13
  try clear d13
  try clear cG13_0
  try clear cG13_1
  try clear cG13_2
  try clear cG13_3
  try clear cG13_4
  try clear cG13_5
  try clear cR13_0
  try clear cR13_1
  try clear cR13_2
  try clear cR13_3
  try clear cR13_4
  try clear cR13_5
  try clear y13
  try clear k13
  try clear G13
  try clear R13
  try clear gG13
  try clear lG13
  try clear gR13
  try clear lR13
  have y14 := k14.size
  have gG14 := G14.lt
  have lG14 := Nat.le_of_lt gG14
  have gR14 := R14.lt
  have lR14 := Nat.le_of_lt gR14
  ((with_reducible refine (H13.out _ (HP.out.up k14)).mono ?_); rintro e u14 ⟨rfl, d14⟩)
  obtain ⟨hz14, hc14, hf14⟩ := bcl d14 (by first | (simp; rfl) | rfl)
  have qG14 : u9.heap.size < u14.heap.size := by omega
  have pG14 : u9.heap.size ≤ u14.heap.size := by omega
  have qR14 : u10.heap.size < u14.heap.size := by omega
  have pR14 : u10.heap.size ≤ u14.heap.size := by omega
  go_wp2_with fail
  refine calls_letter ?_
  intro W15 hW15
  have k15 : Below w.heap.size w W15 := by
    rw [hW15]
    (repeat (first | (with_reducible assumption) | (with_reducible exact bl_refl _) | (with_reducible refine bl_alloc ?_ _) | (with_reducible refine bl_set' ?_ ?_; · (dsimp only; first | assumption | exact Nat.le_refl _ | omega)) | (with_reducible refine bl_last (by assumption) ?_)))
  have G15 : Blk W15 (u9.heap.size) 23 #[.int .i64 (-12), .int .i64 12, .int .i64 0, .int .i64 0, .int .i64 0, .int .i64 0] := by
    rw [hW15]
    (repeat (first | (with_reducible assumption) | (with_reducible apply Blk.new) | (with_reducible exact blkAt _ _ _ _ (by simp; done)) | (with_reducible apply blk_st2) | (with_reducible apply blk_st4) | (with_reducible apply blk_st6) | (with_reducible apply blk_far (hne := by first | (with_reducible assumption) | omega)) | (with_reducible apply blk_up (hb := by assumption)) | (with_reducible apply Blk.alloc)))
  clear hW15
  try clear qR14
  try clear pR14
  try clear qG14
  try clear pG14
  try clear hz14
  try clear hc14
  try clear hf14
  try clear d14
  try clear y14
  try clear k14
  try clear G14
  try clear R14
  try clear gG14
  try clear lG14
  try clear gR14
  try clear lR14
  have y15 := k15.size
  have gG15 := G15.lt
  have lG15 := Nat.le_of_lt gG15
  ((with_reducible refine (H14.out _ (HP.out.up k15)).mono ?_); rintro e u15 ⟨rfl, d15⟩)
  obtain ⟨hz15, hc15, hf15⟩ := bcl d15 (by first | (simp; rfl) | rfl)
  have qG15 : u9.heap.size < u15.heap.size := by omega
  have pG15 : u9.heap.size ≤ u15.heap.size := by omega
  go_wp2_with fail
  refine calls_letter ?_
  intro W16 hW16
  have k16 : Below w.heap.size w W16 := by
    rw [hW16]
    (repeat (first | (with_reducible assumption) | (with_reducible exact bl_refl _) | (with_reducible refine bl_alloc ?_ _) | (with_reducible refine bl_set' ?_ ?_; · (dsimp only; first | assumption | exact Nat.le_refl _ | omega)) | (with_reducible refine bl_last (by assumption) ?_)))
  have G16 : Blk W16 (u9.heap.size) 23 #[.int .i64 (-12), .int .i64 12, .int .i64 0, .int .i64 0, .int .i64 0, .int .i64 0] := by
    rw [hW16]
    (repeat (first | (with_reducible assumption) | (with_reducible apply Blk.new) | (with_reducible exact blkAt _ _ _ _ (by simp; done)) | (with_reducible apply blk_st2) | (with_reducible apply blk_st4) | (with_reducible apply blk_st6) | (with_reducible apply blk_far (hne := by first | (with_reducible assumption) | omega)) | (with_reducible apply blk_up (hb := by assumption)) | (with_reducible apply Blk.alloc)))
  clear hW16
  try clear qG15
  try clear pG15
  try clear hz15
  try clear hc15
  try clear hf15
  try clear d15
  try clear y15
  try clear k15
  try clear G15
  try clear gG15
  try clear lG15
  have y16 := k16.size
  have gG16 := G16.lt
  have lG16 := Nat.le_of_lt gG16
  ((with_reducible refine (H15.out _ (HP.out.up k16) (tab_up HQ.out k16)).mono ?_); rintro e u16 ⟨rfl, d16⟩)
  obtain ⟨hz16, hc16, hf16⟩ := bcl d16 (by first | (simp; rfl) | rfl)
  have qG16 : u9.heap.size < u16.heap.size := by omega
  have pG16 : u9.heap.size ≤ u16.heap.size := by omega
  go_wp2_with fail
  refine calls_letter ?_
  intro W17 hW17
  have k17 : Below w.heap.size w W17 := by
    rw [hW17]
    (repeat (first | (with_reducible assumption) | (with_reducible exact bl_refl _) | (with_reducible refine bl_alloc ?_ _) | (with_reducible refine bl_set' ?_ ?_; · (dsimp only; first | assumption | exact Nat.le_refl _ | omega)) | (with_reducible refine bl_last (by assumption) ?_)))
  have G17 : Blk W17 (u9.heap.size) 23 #[.int .i64 (-12), .int .i64 12, .int .i64 0, .int .i64 0, .int .i64 0, .int .i64 0] := by
    rw [hW17]
    (repeat (first | (with_reducible assumption) | (with_reducible apply Blk.new) | (with_reducible exact blkAt _ _ _ _ (by simp; done)) | (with_reducible apply blk_st2) | (with_reducible apply blk_st4) | (with_reducible apply blk_st6) | (with_reducible apply blk_far (hne := by first | (with_reducible assumption) | omega)) | (with_reducible apply blk_up (hb := by assumption)) | (with_reducible apply Blk.alloc)))
  clear hW17
  try clear qG16
  try clear pG16
  try clear hz16
  try clear hc16
  try clear hf16
  try clear d16
  try clear y16
  try clear k16
  try clear G16
  try clear gG16
  try clear lG16
  have y17 := k17.size
  have gG17 := G17.lt
  have lG17 := Nat.le_of_lt gG17
  ((with_reducible refine (H16.out _ (HP.out.up k17) (tab_up HQ.out k17)).mono ?_); rintro e u17 ⟨rfl, d17⟩)
  obtain ⟨hz17, hc17, hf17⟩ := bcl d17 (by first | (simp; rfl) | rfl)
  have qG17 : u9.heap.size < u17.heap.size := by omega
  have pG17 : u9.heap.size ≤ u17.heap.size := by omega
  go_wp2_with fail
  refine calls_letter ?_
  intro W18 hW18
  have k18 : Below w.heap.size w W18 := by
    rw [hW18]
    (repeat (first | (with_reducible assumption) | (with_reducible exact bl_refl _) | (with_reducible refine bl_alloc ?_ _) | (with_reducible refine bl_set' ?_ ?_; · (dsimp only; first | assumption | exact Nat.le_refl _ | omega)) | (with_reducible refine bl_last (by assumption) ?_)))
  have G18 : Blk W18 (u9.heap.size) 23 #[.int .i64 (-12), .int .i64 12, .int .i64 0, .int .i64 0, .int .i64 0, .int .i64 0] := by
    rw [hW18]
    (repeat (first | (with_reducible assumption) | (with_reducible apply Blk.new) | (with_reducible exact blkAt _ _ _ _ (by simp; done)) | (with_reducible apply blk_st2) | (with_reducible apply blk_st4) | (with_reducible apply blk_st6) | (with_reducible apply blk_far (hne := by first | (with_reducible assumption) | omega)) | (with_reducible apply blk_up (hb := by assumption)) | (with_reducible apply Blk.alloc)))
  clear hW18
  try clear qG17
  try clear pG17
  try clear hz17
  try clear hc17
  try clear hf17
  try clear d17
  try clear y17
  try clear k17
  try clear G17
  try clear gG17
  try clear lG17
  have y18 := k18.size
  have gG18 := G18.lt
  have lG18 := Nat.le_of_lt gG18
  ((with_reducible refine (H17.out _ (HP.out.up k18) (tab_up HQ.out k18)).mono ?_); rintro e u18 ⟨rfl, d18⟩)
  obtain ⟨hz18, hc18, hf18⟩ := bcl d18 (by first | (simp; rfl) | rfl)
  have qG18 : u9.heap.size < u18.heap.size := by omega
  have pG18 : u9.heap.size ≤ u18.heap.size := by omega
  go_wp2_with fail
  refine calls_letter ?_
  intro W19 hW19
  have k19 : Below w.heap.size w W19 := by
    rw [hW19]
    (repeat (first | (with_reducible assumption) | (with_reducible exact bl_refl _) | (with_reducible refine bl_alloc ?_ _) | (with_reducible refine bl_set' ?_ ?_; · (dsimp only; first | assumption | exact Nat.le_refl _ | omega)) | (with_reducible refine bl_last (by assumption) ?_)))
  have G19 : Blk W19 (u9.heap.size) 23 #[.int .i64 (-12), .int .i64 12, .int .i64 0, .int .i64 0, .int .i64 0, .int .i64 0] := by
    rw [hW19]
    (repeat (first | (with_reducible assumption) | (with_reducible apply Blk.new) | (with_reducible exact blkAt _ _ _ _ (by simp; done)) | (with_reducible apply blk_st2) | (with_reducible apply blk_st4) | (with_reducible apply blk_st6) | (with_reducible apply blk_far (hne := by first | (with_reducible assumption) | omega)) | (with_reducible apply blk_up (hb := by assumption)) | (with_reducible apply Blk.alloc)))
  clear hW19
  try clear qG18
  try clear pG18
  try clear hz18
  try clear hc18
  try clear hf18
  try clear d18
  try clear y18
  try clear k18
  try clear G18
  try clear gG18
  try clear lG18
  have y19 := k19.size
  have gG19 := G19.lt
  have lG19 := Nat.le_of_lt gG19
  have cG19_0 := G19.cell 0
  have cG19_1 := G19.cell 1
  have cG19_2 := G19.cell 2
  have cG19_3 := G19.cell 3
  have cG19_4 := G19.cell 4
  have cG19_5 := G19.cell 5
  simp only [List.getElem?_toArray, List.getElem?_cons_zero, List.getElem?_cons_succ] at cG19_0 cG19_1 cG19_2 cG19_3 cG19_4 cG19_5
  ((with_reducible refine (H18.out _ (HP.out.up k19) (tab_up HQ.out k19)).mono ?_); rintro e u19 ⟨rfl, d19⟩)
  obtain ⟨hz19, hc19, hf19⟩ := bcl d19 (by first | (simp; rfl) | rfl)
  have qG19 : u9.heap.size < u19.heap.size := by omega
  have pG19 : u9.heap.size ≤ u19.heap.size := by omega
  have oK : w.heap.size ≤ u19.heap.size := by omega
  have nGK : u9.heap.size ≠ u19.heap.size := by omega
  have mGK : u19.heap.size ≠ u9.heap.size := by omega
  go_wp2_with fail
  go_ret
  refine ⟨rfl, ?_⟩
  (repeat (first | (with_reducible exact bl_refl _) | (with_reducible refine bl_drew ?_) | (with_reducible refine bl_alloc ?_ _) | (with_reducible refine bl_set' ?_ ?_; · (first | omega | (simp; done) | (simp; omega))) | (with_reducible refine bl_last (by assumption) ?_) | (with_reducible refine bl_drewN ?_ _)))
end Go.Proofs.YtgbiiaaeabflnaaDoor
