/- TopEqual: Octave of a valid pitch with one coordinate. -/
import Derived.Test.YtehifkdfbiebfaaDoorK23
namespace Go.Proofs.YtehifkdfbiebfaaDoor
open Go Go.RowKit

theorem PVld1_c (x : Int) (w : World) (hx : -576 ≤ x ∧ x ≤ 576) : Calls Tryd.prog 80 #[one6 x] w (Ret (.bool true) w) := by
  have h := PVld_c x 0 0 0 0 0 w
  rw [(pV_one (by omega)).2 hx] at h
  exact h
set_option maxRecDepth 100000 in
set_option maxHeartbeats 4000000 in
theorem octave_c (x : Int) (w : World) (hP : PR w) (hx : -576 ≤ x ∧ x ≤ 576) : Calls Tryd.prog 95 #[one6 x] w (Ret (.tuple #[one6 (x % 12), .int .i64 (x / 12), .int .i64 0]) w) := by
  have HV := Lib.hid (fun X => PVld1_c x X hx)
  have hl : ∀ y : Int, 0 ≤ y → y.tdiv 12 = y / 12 := fun y h => Int.tdiv_eq_ediv_of_nonneg h
  have HL := Lib.hid (fun bp X (hX : Below w.heap.size w X) (hB : Blk X bp 72 (arr1 x)) => last1_c x (-((576 - x) / 12)) ((576 + x) / 12) bp X (hP.up hX) hB hx (by omega) (by omega) (by omega) (by omega))
  have HR := Lib.hid (fun X => raised_c x (-(x / 12)) X (by rw [IntKind.wrap_i64]; omega) (by rw [IntKind.wrap_i64]; omega))
  have e : x + 12 * -(x / 12) = x % 12 := by omega
  rw [e] at HR
  have HI := Lib.hid (fun X (hX : Below w.heap.size w X) => inside_c (x % 12) X (hP.up hX) (by omega))
  have ei : (decide (0 ≤ x % 12) && decide (x % 12 < 12)) = true := by
    have h1 : 0 ≤ x % 12 := by omega
    have h2 : x % 12 < 12 := by omega
    simp [h1, h2]
  rw [ei] at HI
  have w1 : IntKind.i64.wrap (576 - x) = 576 - x := by rw [IntKind.wrap_i64]; omega
  have w2 : IntKind.i64.wrap (576 + x) = 576 + x := by rw [IntKind.wrap_i64]; omega
  have w3 : IntKind.i64.wrap ((576 - x) / 12) = (576 - x) / 12 := by rw [IntKind.wrap_i64]; omega
  have w4 : IntKind.i64.wrap ((576 + x) / 12) = (576 + x) / 12 := by rw [IntKind.wrap_i64]; omega
  have w5 : IntKind.i64.wrap (-((576 - x) / 12)) = -((576 - x) / 12) := by rw [IntKind.wrap_i64]; omega
  have w6 : IntKind.i64.wrap (-(x / 12)) = -(x / 12) := by rw [IntKind.wrap_i64]; omega
  have t1 : (576 - x).tdiv 12 = (576 - x) / 12 := hl _ (by omega)
  have t2 : (576 + x).tdiv 12 = (576 + x) / 12 := hl _ (by omega)
  clear hl e ei
  go_enter Tryd.func95, Tryd.ntmps95
  go_upto_region 1 with fail
  refine wp_letter ?_
  intro W1 hW1
  have b1 : Below w.heap.size w W1 := by rw [hW1]; exact bl_alloc (bl_alloc (bl_refl _) _) _
  have P1 : Blk W1 w.heap.size 72 (arr1 x) := by rw [hW1]; exact (Blk.new _ _ _).alloc _
  have R1 : Blk W1 (w.heap.size + 1) 72 (arr1 0) := by rw [hW1]; exact blkAt _ _ _ _ (by simp)
  clear hW1
  have p_0 := P1.cell 0
  have p_1 := P1.cell 1
  have p_2 := P1.cell 2
  have p_3 := P1.cell 3
  have p_4 := P1.cell 4
  have p_5 := P1.cell 5
  simp only [List.getElem?_toArray, List.getElem?_cons_zero, List.getElem?_cons_succ] at p_0 p_1 p_2 p_3 p_4 p_5
  have zp := P1.lt
  go_wp2_with fail
  (with_reducible refine (HV.out _).mono ?_)
  rintro e W2 ⟨rfl, hb2⟩
  have b2 := bl_trans b1 hb2
  have P2 := P1.below hb2 P1.lt
  have R2 := R1.below hb2 R1.lt
  clear p_0 p_1 p_2 p_3 p_4 p_5 zp P1 R1 b1 hb2
  have p_0 := P2.cell 0
  have zp := P2.lt
  simp only [List.getElem?_toArray, List.getElem?_cons_zero] at p_0
  simp only
  go_upto_region 3 with fail
  (refine wp_region_bl [0,1,2,3,4,5,6,7,8,9,10] [] (by kernel_rfl) (by kernel_rfl) (by rfl) ?_
   simp only [pickI, pick, List.getElem?_cons_succ, List.getElem?_cons_zero]
   iterate 11 (first
     | (refine head_val (by rfl) (by first | exact wanted_free rfl | rfl) ?_
        apply Exists.intro
        refine ⟨fun X hX => ?_, ?_⟩
        · (obtain ⟨qz, qc, qf⟩ := bcl hX.out (by first | (simp; rfl) | rfl)
           go_simp
           first | done | rfl | exact ⟨rfl, rfl⟩)
        simp only [Act.put, List.setIfInBounds_toArray, List.set_cons_zero, List.set_cons_succ])
     | (refine head_pass (by rfl) ?_
        simp only [Act.put, List.setIfInBounds_toArray, List.set_cons_zero, List.set_cons_succ]))
   refine head_nil ?_
   intro w' hw'
   have hb := hw'.out
   clear hw'
   obtain ⟨hz, hc, hf⟩ := bcl hb (by first | (simp; rfl) | rfl))
  have b3 := bl_trans b2 hb
  have P3 := P2.below hb P2.lt
  have R3 := R2.below hb R2.lt
  clear p_0 zp P2 R2 b2 hb hz hc hf
  have HL3 := Lib.hid (HL.out _ _ b3 P3)
  go_wp2_with fail
  (with_reducible refine HL3.out.mono ?_)
  rintro e W4 ⟨rfl, hb4⟩
  have b4 := bl_trans b3 hb4
  have P4 := P3.below hb4 P3.lt
  have R4 := R3.below hb4 R3.lt
  clear P3 R3 b3 hb4 HL3 HL
  simp only
  have p_0 := P4.cell 0
  have p_1 := P4.cell 1
  have p_2 := P4.cell 2
  have p_3 := P4.cell 3
  have p_4 := P4.cell 4
  have p_5 := P4.cell 5
  have zp := P4.lt
  simp only [List.getElem?_toArray, List.getElem?_cons_zero, List.getElem?_cons_succ] at p_0 p_1 p_2 p_3 p_4 p_5
  go_wp2_with fail
  (with_reducible refine (HR.out _).mono ?_)
  rintro e W5 ⟨rfl, hb5⟩
  have b5 := bl_trans b4 hb5
  have R5 := R4.below hb5 R4.lt
  have z5 : w.heap.size + 1 < W5.heap.size := R5.lt
  clear p_0 p_1 p_2 p_3 p_4 p_5 zp P4 R4 b4 hb5
  simp only
  generalize x / 12 = d at *
  go_upto_region 6 with fail
  refine wp_letter ?_
  intro W6 hW6
  have b6 : Below w.heap.size w W6 := by rw [hW6]; (repeat (first | (with_reducible exact bl_refl _) | (with_reducible refine bl_drew ?_) | (with_reducible refine bl_alloc ?_ _) | (with_reducible refine bl_set' ?_ ?_; · (first | omega | (simp; done) | (simp; omega))) | (with_reducible refine bl_last (by assumption) ?_) | (with_reducible refine bl_drewN ?_ _)))
  have Q6 : Blk W6 W5.heap.size 72 (arr1 (x % 12)) := by
    rw [hW6]
    first | exact Blk.new _ _ _ | (have h := Blk.new W5 72 (arr1 0); exact (((((h.set_ 0 _).set_ 1 _).set_ 2 _).set_ 3 _).set_ 4 _).set_ 5 _)
  have R6 : Blk W6 (w.heap.size + 1) 72 (arr1 0) := by
    rw [hW6]
    first | exact R5.alloc _ | (refine blk_far (by simp; omega) (blk_far (by simp; omega) (blk_far (by simp; omega) (blk_far (by simp; omega) (blk_far (by simp; omega) (blk_far (by simp; omega) (R5.alloc _))))))) 
  clear hW6 R5 b5
  generalize W5.heap.size = qp at *
  have p_0 := Q6.cell 0
  have p_1 := Q6.cell 1
  have p_2 := Q6.cell 2
  have p_3 := Q6.cell 3
  have p_4 := Q6.cell 4
  have p_5 := Q6.cell 5
  have zp := Q6.lt
  simp only [List.getElem?_toArray, List.getElem?_cons_zero, List.getElem?_cons_succ] at p_0 p_1 p_2 p_3 p_4 p_5
  go_wp2_with fail
  (with_reducible refine (HI.out _ b6).mono ?_)
  rintro e W7 ⟨rfl, hb7⟩
  have b7 := bl_trans b6 hb7
  have Q7 := Q6.below hb7 Q6.lt
  have R7 := R6.below hb7 R6.lt
  clear p_0 p_1 p_2 p_3 p_4 p_5 zp Q6 R6 b6 hb7
  have p_0 := Q7.cell 0
  have p_1 := Q7.cell 1
  have p_2 := Q7.cell 2
  have p_3 := Q7.cell 3
  have p_4 := Q7.cell 4
  have p_5 := Q7.cell 5
  have zp := Q7.lt
  have r_0 := R7.cell 0
  have r_1 := R7.cell 1
  have r_2 := R7.cell 2
  have r_3 := R7.cell 3
  have r_4 := R7.cell 4
  have r_5 := R7.cell 5
  have f_0 := R7.frozen 0
  have f_1 := R7.frozen 1
  have f_2 := R7.frozen 2
  have f_3 := R7.frozen 3
  have f_4 := R7.frozen 4
  have f_5 := R7.frozen 5
  have zr := R7.lt
  simp only [List.getElem?_toArray, List.getElem?_cons_zero, List.getElem?_cons_succ] at p_0 p_1 p_2 p_3 p_4 p_5 r_0 r_1 r_2 r_3 r_4 r_5
  simp only
  go_wp2
  (refine bodyPost_ret (v := .tuple #[one6 (x % 12), .int .i64 d, .int .i64 0]) (by simp only [results, Tryd.results95]; go_simp) rfl ⟨rfl, ?_⟩)
  (repeat (first | (with_reducible exact b7) | (with_reducible refine bl_set' ?_ ?_; · (dsimp only; omega))))
end Go.Proofs.YtehifkdfbiebfaaDoor
