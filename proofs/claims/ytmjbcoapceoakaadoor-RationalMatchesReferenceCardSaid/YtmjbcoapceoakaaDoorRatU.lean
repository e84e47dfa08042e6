/- Rational: the head of the laws: the chapter's examples. -/
import Derived.Test.YtmjbcoapceoakaaDoorRatT
namespace Go.Proofs.YtmjbcoapceoakaaDoor
open Go Go.RowKit

theorem of_1_2 (w : World) : Calls Tryd.prog 38 #[.int .i64 1, .int .i64 2] w (Ret (.agg #[.int .i64 1, .int .i64 2]) w) := of_v 1 2 w (by decide +kernel)
theorem of_1_3 (w : World) : Calls Tryd.prog 38 #[.int .i64 1, .int .i64 3] w (Ret (.agg #[.int .i64 1, .int .i64 3]) w) := of_v 1 3 w (by decide +kernel)
theorem of_m3_2 (w : World) : Calls Tryd.prog 38 #[.int .i64 (-3), .int .i64 2] w (Ret (.agg #[.int .i64 (-3), .int .i64 2]) w) := of_v (-3) 2 w (by decide +kernel)
theorem of_n (w : World) : Calls Tryd.prog 38 #[.int .i64 584963, .int .i64 1000000] w (Ret (.agg #[.int .i64 584963, .int .i64 1000000]) w) := of_v 584963 1000000 w (by decide +kernel)
theorem of_29_50 (w : World) : Calls Tryd.prog 38 #[.int .i64 29, .int .i64 50] w (Ret (.agg #[.int .i64 29, .int .i64 50]) w) := of_v 29 50 w (by decide +kernel)
theorem of_59_100 (w : World) : Calls Tryd.prog 38 #[.int .i64 59, .int .i64 100] w (Ret (.agg #[.int .i64 59, .int .i64 100]) w) := of_v 59 100 w (by decide +kernel)
theorem of_m5_2 (w : World) : Calls Tryd.prog 38 #[.int .i64 (-5), .int .i64 2] w (Ret (.agg #[.int .i64 (-5), .int .i64 2]) w) := of_v (-5) 2 w (by decide +kernel)
theorem of_m4_3 (w : World) : Calls Tryd.prog 38 #[.int .i64 (-4), .int .i64 3] w (Ret (.agg #[.int .i64 (-4), .int .i64 3]) w) := of_v (-4) 3 w (by decide +kernel)
theorem of_5_6 (w : World) : Calls Tryd.prog 38 #[.int .i64 5, .int .i64 6] w (Ret (.agg #[.int .i64 5, .int .i64 6]) w) := of_v 5 6 w (by decide +kernel)
theorem of_7_12 (w : World) : Calls Tryd.prog 38 #[.int .i64 7, .int .i64 12] w (Ret (.agg #[.int .i64 7, .int .i64 12]) w) := of_v 7 12 w (by decide +kernel)
theorem of_m2_1 (w : World) : Calls Tryd.prog 38 #[.int .i64 (-2), .int .i64 1] w (Ret (.agg #[.int .i64 (-2), .int .i64 1]) w) := of_v (-2) 1 w (by decide +kernel)

theorem blk_last {a b : World} {g : Nat} {t : TypeId} {cs : Array Value} (h : Blk a g t cs) (hb : Below a.heap.size a b) : Blk b g t cs := h.below hb h.lt
set_option maxRecDepth 100000 in
set_option maxHeartbeats 4000000 in
theorem head02_c (w : World) (ht : PW w) : Calls Tryd.prog 11 #[] w (Ret (.bool true) w) := by
  have HT := Lib.hid (fun W (hb : Below w.heap.size w W) => text_head W (tab_up ht hb))
  clear ht
  go_enter Tryd.func11, Tryd.ntmps11
  go_wp2_with fail
  ((with_reducible refine (make_a _).mono ?_); rintro e w1 ⟨rfl, b1⟩)
  go_wp2_with fail
  ((with_reducible refine (of_1_2 _).mono ?_); rintro e w2 ⟨rfl, b2⟩)
  go_wp2_with fail
  ((with_reducible refine (of_1_3 _).mono ?_); rintro e w3 ⟨rfl, b3⟩)
  go_wp2_with fail
  ((with_reducible refine (add_a _).mono ?_); rintro e w4 ⟨rfl, b4⟩)
  go_wp2_with fail
  ((with_reducible refine (of_m3_2 _).mono ?_); rintro e w5 ⟨rfl, b5⟩)
  go_wp2_with fail
  ((with_reducible refine (floor_a _).mono ?_); rintro e w6 ⟨rfl, b6⟩)
  go_wp2_with fail
  ((with_reducible refine (of_n _).mono ?_); rintro e w7 ⟨rfl, b7⟩)
  go_wp2_with fail
  ((with_reducible refine (near_head _).mono ?_); rintro e w8 ⟨rfl, b8⟩)
  go_wp2_with fail
  ((with_reducible refine (of_29_50 _).mono ?_); rintro e w9 ⟨rfl, b9⟩)
  go_wp2_with fail
  ((with_reducible refine (of_59_100 _).mono ?_); rintro e w10 ⟨rfl, b10⟩)
  go_wp2_with fail
  ((with_reducible refine (simple_a _).mono ?_); rintro e w11 ⟨rfl, b11⟩)
  go_wp2_with fail
  ((with_reducible refine (of_m5_2 _).mono ?_); rintro e w12 ⟨rfl, b12⟩)
  go_wp2_with fail
  ((with_reducible refine (of_m4_3 _).mono ?_); rintro e w13 ⟨rfl, b13⟩)
  go_wp2_with fail
  ((with_reducible refine (simple_b _).mono ?_); rintro e w14 ⟨rfl, b14⟩)
  go_wp2_with fail
  ((with_reducible refine (of_m3_2 _).mono ?_); rintro e w15 ⟨rfl, b15⟩)
  go_wp2_with fail
  ((with_reducible refine (HT.out _ (by (repeat (first | (with_reducible exact bl_refl _) | (with_reducible refine bl_drew ?_) | (with_reducible refine bl_alloc ?_ _) | (with_reducible refine bl_set' ?_ ?_; · (first | omega | (simp; done) | (simp; omega))) | (with_reducible refine bl_last (by assumption) ?_) | (with_reducible refine bl_drewN ?_ _))))).mono ?_); rintro e w16 ⟨rfl, b16⟩)
  go_wp2_with fail
  ((with_reducible refine (make_b _).mono ?_); rintro e w17 ⟨rfl, b17⟩)
  go_wp2
  obtain ⟨W, hW⟩ : ∃ W : World, w17.alloc (.cells #[.int .i64 0, .int .i64 0] 25) = W := ⟨_, rfl⟩
  rw [hW]
  have hbW : Below w.heap.size w W := by rw [← hW]; (repeat (first | (with_reducible exact bl_refl _) | (with_reducible refine bl_drew ?_) | (with_reducible refine bl_alloc ?_ _) | (with_reducible refine bl_set' ?_ ?_; · (first | omega | (simp; done) | (simp; omega))) | (with_reducible refine bl_last (by assumption) ?_) | (with_reducible refine bl_drewN ?_ _)))
  have BA : Blk W w1.heap.size 25 #[.int .i64 (-3), .int .i64 2] := by
    rw [← hW]
    repeat (first | (with_reducible exact Blk.new _ _ _) | (with_reducible refine blk_last ?_ (by assumption)) | (with_reducible refine Blk.alloc ?_ _))
  have BB : Blk W w4.heap.size 25 #[.int .i64 (5), .int .i64 6] := by
    rw [← hW]
    repeat (first | (with_reducible exact Blk.new _ _ _) | (with_reducible refine blk_last ?_ (by assumption)) | (with_reducible refine Blk.alloc ?_ _))
  have BD : Blk W w8.heap.size 25 #[.int .i64 (7), .int .i64 12] := by
    rw [← hW]
    repeat (first | (with_reducible exact Blk.new _ _ _) | (with_reducible refine blk_last ?_ (by assumption)) | (with_reducible refine Blk.alloc ?_ _))
  have BX : Blk W w11.heap.size 25 #[.int .i64 (7), .int .i64 12] := by
    rw [← hW]
    repeat (first | (with_reducible exact Blk.new _ _ _) | (with_reducible refine blk_last ?_ (by assumption)) | (with_reducible refine Blk.alloc ?_ _))
  have BY : Blk W w14.heap.size 25 #[.int .i64 (-2), .int .i64 1] := by
    rw [← hW]
    repeat (first | (with_reducible exact Blk.new _ _ _) | (with_reducible refine blk_last ?_ (by assumption)) | (with_reducible refine Blk.alloc ?_ _))
  have cA0 := BA.cell 0
  have cA1 := BA.cell 1
  have zA := BA.lt
  have cB0 := BB.cell 0
  have cB1 := BB.cell 1
  have zB := BB.lt
  have cD0 := BD.cell 0
  have cD1 := BD.cell 1
  have zD := BD.lt
  have cX0 := BX.cell 0
  have cX1 := BX.cell 1
  have zX := BX.lt
  have cY0 := BY.cell 0
  have cY1 := BY.cell 1
  have zY := BY.lt
  simp only [List.getElem?_toArray, List.getElem?_cons_zero, List.getElem?_cons_succ] at cA0 cA1 cB0 cB1 cD0 cD1 cX0 cX1 cY0 cY1
  have HBW := Lib.hid hbW
  clear hW hbW HT b1 b2 b3 b4 b5 b6 b7 b8 b9 b10 b11 b12 b13 b14 b15 b16 b17 BA BB BD BX BY
  (refine wp_region_bl [0,1,2,3,4,5,6,7,8,9,10,11,12,13,14,15,16,17,18,19,20,21,22,23,24,25,26,27,28,29,30,31,32,33] [34] (by kernel_rfl) (by kernel_rfl) (by rfl) ?_
   simp only [pickI, pick, List.getElem?_cons_succ, List.getElem?_cons_zero]
   iterate 34 (first
     | (refine head_val (by rfl) (by rfl) ?_
        apply Exists.intro
        refine ⟨fun X hX => ?_, ?_⟩
        · (obtain ⟨qz, qc, qf⟩ := bcl hX.out (by first | (simp; rfl) | rfl)
           go_simp
           first | done | (go_at_call 38; ((with_reducible refine (of_m3_2 _).mono ?_); rintro e w2 ⟨rfl, hb2⟩; exact ⟨rfl, hX.trans hb2⟩)) | (go_at_call 38; ((with_reducible refine (of_5_6 _).mono ?_); rintro e w2 ⟨rfl, hb2⟩; exact ⟨rfl, hX.trans hb2⟩)) | (go_at_call 38; ((with_reducible refine (of_7_12 _).mono ?_); rintro e w2 ⟨rfl, hb2⟩; exact ⟨rfl, hX.trans hb2⟩)) | (go_at_call 38; ((with_reducible refine (of_m2_1 _).mono ?_); rintro e w2 ⟨rfl, hb2⟩; exact ⟨rfl, hX.trans hb2⟩)) | rfl | exact ⟨rfl, rfl⟩)
        simp only [Act.put, List.setIfInBounds_toArray, List.set_cons_zero, List.set_cons_succ])
     | (refine head_pass (by rfl) ?_
        simp only [Act.put, List.setIfInBounds_toArray, List.set_cons_zero, List.set_cons_succ]))
   refine head_nil ?_
   intro w' hw'
   have hb := hw'.out
   clear hw'
   obtain ⟨hz, hc, hf⟩ := bcl hb (by first | (simp; rfl) | rfl))
  go_wp2
  go_ret
  exact ⟨rfl, bl_trans HBW.out hb⟩
end Go.Proofs.YtmjbcoapceoakaaDoor
