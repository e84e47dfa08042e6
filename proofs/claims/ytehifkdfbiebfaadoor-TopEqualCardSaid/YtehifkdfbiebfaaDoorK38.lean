/- TopEqual: the determinant's closure at the first of two rows that are the same. -/
import Derived.Test.YtehifkdfbiebfaaDoorK37
namespace Go.Proofs.YtehifkdfbiebfaaDoor
open Go Go.RowKit

set_option maxRecDepth 100000 in
set_option maxHeartbeats 8000000 in
theorem exp2_c (pi pj pu pr pe ub uc : Nat) (col : Nat → Nat) (r : Nat → Int) (hc0 : col 0 < 6) (hc1 : col 1 < 6) (hx : r (col 0) ≠ 0) (hb0 : -400 ≤ r (col 0) ∧ r (col 0) ≤ 400) (hb1 : -400 ≤ r (col 1) ∧ r (col 1) ≤ 400) (w : World) (hE : ExpF ub w 2 pi pj pr col r) (hU : Blk w pu 124 #[.slice (some ⟨ub, 0, none⟩) 2 uc]) (hV : Blk w ub 4 #[.bool false, .bool false]) (hW : Blk w pe (177) #[.func (.func 164) #[] (expA pi pj pu pr pe)]) (hne : ub ≠ pi ∧ ub ≠ pj ∧ ub ≠ pr ∧ ub ≠ pu ∧ ub ≠ pe) :
    Calls Tryd.prog 164 #[.int .i64 0, .pointer (some ⟨pi, 0, none⟩), .pointer (some ⟨pj, 0, none⟩), .pointer (some ⟨pu, 0, none⟩), .pointer (some ⟨pr, 0, none⟩), .pointer (some ⟨pe, 0, none⟩)] w (Ret (.int .i64 0) w) := by
  have HE := Lib.hid hE
  have HU := Lib.hid hU
  have HV := Lib.hid hV
  have HW := Lib.hid hW
  have HN := Lib.hid hne
  have HR := Lib.hid (fun X hE hU hV hW => exp2r_c pi pj pu pr pe ub uc col r hc1 hb1 X hE hU hV hW hne)
  have HL := Lib.hid (fun X hE hU hV hW => exp2l_c pi pj pu pr pe ub uc col r hc0 hx hb0 X hE hU hV hW hne)
  obtain ⟨ib, ic, jb, jc, rb, ro, rc, hC⟩ : ∃ ib ic jb jc rb ro rc, ∀ X, Below w.heap.size w X → X.cell? ⟨pi, 0, none⟩ = some (.slice (some ⟨ib, 0, none⟩) 2 ic) ∧ pi < X.heap.size ∧ X.cell? ⟨pj, 0, none⟩ = some (.slice (some ⟨jb, 0, none⟩) 2 jc) ∧ pj < X.heap.size ∧ X.cell? ⟨pr, 0, none⟩ = some (.slice (some ⟨rb, ro, none⟩) 1 rc) ∧ pr < X.heap.size ∧ X.cell? ⟨ib, 0, none⟩ = some (.int .i64 0) ∧ ib < X.heap.size ∧ X.cell? ⟨jb, 0, none⟩ = some (.int .i64 (col 0 : Int)) ∧ X.cell? ⟨jb, 1, none⟩ = some (.int .i64 (col 1 : Int)) ∧ jb < X.heap.size ∧ X.cell? ⟨rb, ro + col 0, none⟩ = some (.int .i64 (r (col 0))) ∧ X.cell? ⟨rb, ro + col 1, none⟩ = some (.int .i64 (r (col 1))) ∧ rb < X.heap.size := by
    obtain ⟨⟨ib, ic, h1, h2, _, h3⟩, ⟨jb, jc, h4, h5, _, h6⟩, ⟨rb, ro, rc, h7, h8, _, h9⟩, _, _, _⟩ := hE
    refine ⟨ib, ic, jb, jc, rb, ro, rc, fun X hX => ?_⟩
    have hs := hX.size
    have k1 := h1.below hX h1.lt
    have k4 := h4.below hX h4.lt
    have k7 := h7.below hX h7.lt
    exact ⟨k1.cell 0, k1.lt, k4.cell 0, k4.lt, k7.cell 0, k7.lt, (hX.cell (p := ⟨ib, 0, none⟩) h2).trans (h3 0 (by omega)), by omega, (hX.cell (p := ⟨jb, 0, none⟩) h5).trans (h6 0 (by omega)), (hX.cell (p := ⟨jb, 1, none⟩) h5).trans (h6 1 (by omega)), by omega, (hX.cell (p := ⟨rb, ro + col 0, none⟩) h8).trans (h9 _ hc0), (hX.cell (p := ⟨rb, ro + col 1, none⟩) h8).trans (h9 _ hc1), by omega⟩
  have HC := Lib.hid hC
  obtain ⟨a_0, za, b_0, zb, c_0, zc, i_0, zi, j_0, j_1, zj, x_0, x_1, zr⟩ := hC w (bl_refl _)
  clear hC
  have hci0 : (col 0 : Int) < 6 := by omega
  have hci1 : (col 1 : Int) < 6 := by omega
  have hP : -160000 ≤ r (col 0) * r (col 1) ∧ r (col 0) * r (col 1) ≤ 160000 := by
    have h1 : (r (col 0) * r (col 1)).natAbs ≤ 400 * 400 := by rw [Int.natAbs_mul]; exact Nat.mul_le_mul (by omega) (by omega)
    omega
  have hc : r (col 1) * r (col 0) = r (col 0) * r (col 1) := Int.mul_comm _ _
  obtain ⟨u_0, zu⟩ := And.intro (hU.cell 0) hU.lt
  obtain ⟨v_0, zv⟩ := And.intro (hV.cell 0) hV.lt
  obtain ⟨e_0, ze⟩ := And.intro (hW.cell 0) hW.lt
  have fv := hV.frozen 0
  simp only [List.getElem?_toArray, List.getElem?_cons_zero] at u_0 v_0 e_0
  generalize hxx : r (col 0) = x at *
  generalize hyy : r (col 1) = y at *
  generalize hpp : x * y = P at *
  have wx : IntKind.i64.wrap x = x := by rw [IntKind.wrap_i64]; omega
  have wP : IntKind.i64.wrap P = P := by rw [IntKind.wrap_i64]; omega
  have q1 : (x != 0) = true := by simpa using hx
  have wy : IntKind.i64.wrap y = y := by rw [IntKind.wrap_i64]; omega
  have wn1 : IntKind.i64.wrap (-y) = -y := by rw [IntKind.wrap_i64]; omega
  have wn2 : IntKind.i64.wrap (-P) = -P := by rw [IntKind.wrap_i64]; omega
  have hnm : -y * x = -P := by rw [Int.neg_mul, hc]
  have HPy := Lib.hid hpp
  clear hE hU hV hW hne hx hP
  go_enter Tryd.func164, Tryd.ntmps164
  go_upto_block 0 with fail
  go_wp2
  go_loopw [8, 9, 19] (fun sv gv kv wr => (sv = .int .i64 0 ∧ gv = .int .i64 1 ∧ kv = .int .i64 0 ∧ wr = w) ∨ (sv = .int .i64 P ∧ gv = .int .i64 (-1) ∧ kv = .int .i64 1 ∧ Hid (Below w.heap.size w wr)) ∨ (sv = .int .i64 0 ∧ kv = .int .i64 2 ∧ Hid (Below w.heap.size w wr))) (fun _ _ kv _ => 2 - (intOf kv).toNat)
  case atStart => exact Or.inl ⟨rfl, rfl, rfl, rfl⟩
  case round =>
    rcases hrel with ⟨rfl, rfl, rfl, rfl⟩ | ⟨rfl, rfl, rfl, HB⟩ | ⟨rfl, rfl, HB⟩
    · go_upto_region 8 with fail
      (refine wp_region_bl [0,1,2,3,4,5,6,7,8,9] [] (by kernel_rfl) (by kernel_rfl) (by rfl) ?_
       simp only [pickI, pick, List.getElem?_cons_succ, List.getElem?_cons_zero]
       iterate 10 (first
         | (refine head_val (by rfl) (by first | exact wanted_free rfl | rfl) ?_
            apply Exists.intro
            refine ⟨fun X hX => ?_, ?_⟩
            · (obtain ⟨qz, qc, qf⟩ := bcl hX.out (by first | (simp; rfl) | rfl)
               go_simp
               first | done | rfl | exact ⟨rfl, rfl⟩)
            simp only [Act.put, List.setIfInBounds_toArray, List.set_cons_zero, List.set_cons_succ])
         | (refine head_pass (by rfl) ?_
            simp only [Act.put, List.setIfInBounds_toArray, List.set_cons_zero, List.set_cons_succ]))
       refine head_nil ?_
       intro w' hw'
       have hb := hw'.out
       clear hw'
       obtain ⟨hz, hc, hf⟩ := bcl hb (by first | (simp; rfl) | rfl))
      have HB2 := Lib.hid hb
      clear hb hz hc hf a_0 za b_0 zb c_0 zc u_0 zu v_0 fv zv e_0 ze i_0 zi j_0 j_1 zj x_0 x_1 zr
      have U2 := HU.out.below HB2.out HU.out.lt
      have V2 := HV.out.below HB2.out HV.out.lt
      have E2 := HW.out.below HB2.out HW.out.lt
      have HU2 := Lib.hid U2
      have HV2 := Lib.hid V2
      have HE2 := Lib.hid E2
      have u2 := U2.cell 0
      have zu2 := U2.lt
      have v2 := V2.cell 0
      have fv2 := V2.frozen 0
      have zv2 := V2.lt
      have e2 := E2.cell 0
      have ze2 := E2.lt
      simp only [List.getElem?_toArray, List.getElem?_cons_zero] at u2 v2 e2
      clear U2 V2 E2
      obtain ⟨n1, n2, n3, n4, n5⟩ := HN.out
      have n4' := n4.symm
      have n5' := n5.symm
      have HG1 := Lib.hid (grown_setc w' ub 0 (.bool true))
      have HV3 : Hid (Blk (w'.setCell ⟨ub, 0, none⟩ (.bool true)) ub 4 #[.bool true, .bool false]) := Lib.hid (HV2.out.set_ 0 (.bool true))
      have HU3 := Lib.hid (HU2.out.far (p := ⟨ub, 0, none⟩) n4' (.bool true))
      have HE3 := Lib.hid (HE2.out.far (p := ⟨ub, 0, none⟩) n5' (.bool true))
      go_upto_region 11 with fail
      refine wp_letter ?_
      intro W3 hW3
      rw [← hW3] at HG1 HV3 HU3 HE3
      clear hW3 u2 zu2 v2 fv2 zv2 e2 ze2
      have e3 := HE3.out.cell 0
      have ze3 := HE3.out.lt
      simp only [List.getElem?_toArray, List.getElem?_cons_zero] at e3
      have HEnd := Lib.hid (HR.out W3 ((HE.out.up HB2.out).grow HG1.out).toE HU3.out HV3.out HE3.out)
      go_wp2_with fail
      (with_reducible refine HEnd.out.mono ?_)
      rintro e W4 ⟨rfl, hb4⟩
      have HB4 := Lib.hid hb4
      have HV4 := Lib.hid (HV3.out.below hb4 HV3.out.lt)
      have U4 := HU3.out.below hb4 HU3.out.lt
      clear hb4 e3 ze3 HEnd HE3 HV3 HU3
      have u4 := U4.cell 0
      have zu4 := U4.lt
      have v4 := HV4.out.cell 0
      have fv4 := HV4.out.frozen 0
      have zv4 := HV4.out.lt
      simp only [List.getElem?_toArray, List.getElem?_cons_zero] at u4 v4
      have HG5 := Lib.hid (grown_tri HG1.out HB4.out (grown_setc W4 ub 0 (.bool false)))
      have HV5 : Hid (Blk (W4.setCell ⟨ub, 0, none⟩ (.bool false)) ub 4 #[.bool false, .bool false]) := Lib.hid (HV4.out.set_ 0 (.bool false))
      simp only
      go_wp2
      go_roundw
      case rel => exact Or.inr (Or.inl ⟨rfl, rfl, rfl, Lib.hid (bl_trans HB2.out (bl_back HG5.out HV2.out HV5.out))⟩)
      case measure => simp [intOf]
    · obtain ⟨a_0', za', b_0', zb', c_0', zc', i_0', zi', j_0', j_1', zj', x_0', x_1', zr'⟩ := HC.out wr HB.out
      have U1 := HU.out.below HB.out HU.out.lt
      have V1 := HV.out.below HB.out HV.out.lt
      have E1 := HW.out.below HB.out HW.out.lt
      have u_0' := U1.cell 0
      have zu' := U1.lt
      have v_0' := V1.cell 1
      have zv' := V1.lt
      simp only [List.getElem?_toArray, List.getElem?_cons_zero, List.getElem?_cons_succ] at u_0' v_0'
      clear a_0 za b_0 zb c_0 zc u_0 zu v_0 fv zv e_0 ze i_0 zi j_0 j_1 zj x_0 x_1 zr U1 V1 E1
      go_upto_region 8 with fail
      (refine wp_region_bl [0,1,2,3,4,5,6,7,8,9] [] (by kernel_rfl) (by kernel_rfl) (by rfl) ?_
       simp only [pickI, pick, List.getElem?_cons_succ, List.getElem?_cons_zero]
       iterate 10 (first
         | (refine head_val (by rfl) (by first | exact wanted_free rfl | rfl) ?_
            apply Exists.intro
            refine ⟨fun X hX => ?_, ?_⟩
            · (obtain ⟨qz, qc, qf⟩ := bcl hX.out (by first | (simp; rfl) | rfl)
               go_simp
               first | done | rfl | exact ⟨rfl, rfl⟩)
            simp only [Act.put, List.setIfInBounds_toArray, List.set_cons_zero, List.set_cons_succ])
         | (refine head_pass (by rfl) ?_
            simp only [Act.put, List.setIfInBounds_toArray, List.set_cons_zero, List.set_cons_succ]))
       refine head_nil ?_
       intro w' hw'
       have hb := hw'.out
       clear hw'
       obtain ⟨hz, hc, hf⟩ := bcl hb (by first | (simp; rfl) | rfl))
      have HB2 := Lib.hid (bl_trans HB.out hb)
      clear hb hz hf a_0' za' b_0' zb' c_0' zc' i_0' zi' j_0' j_1' zj' x_0' x_1' zr' u_0' zu' v_0' zv' HB
      by_cases hy : y = 0
      · have q2 : (y != 0) = false := by rw [hy]; rfl
        have hP0 : P = 0 := by rw [← HPy.out, hy]; simp
        have HP0 := Lib.hid hP0
        clear hy hP0
        go_wp2
        go_roundw
        case rel => exact Or.inr (Or.inr ⟨by rw [HP0.out], rfl, HB2⟩)
        case measure => simp [intOf]
      have q2 : (y != 0) = true := by simpa using hy
      clear hy
      have U2 := HU.out.below HB2.out HU.out.lt
      have V2 := HV.out.below HB2.out HV.out.lt
      have E2 := HW.out.below HB2.out HW.out.lt
      have HU2 := Lib.hid U2
      have HV2 := Lib.hid V2
      have HE2 := Lib.hid E2
      have u2 := U2.cell 0
      have zu2 := U2.lt
      have v2 := V2.cell 1
      have fv2 := V2.frozen 1
      have zv2 := V2.lt
      have e2 := E2.cell 0
      have ze2 := E2.lt
      simp only [List.getElem?_toArray, List.getElem?_cons_zero, List.getElem?_cons_succ] at u2 v2 e2
      clear U2 V2 E2
      obtain ⟨n1, n2, n3, n4, n5⟩ := HN.out
      have n4' := n4.symm
      have n5' := n5.symm
      have HG1 := Lib.hid (grown_setc w' ub 1 (.bool true))
      have HV3 : Hid (Blk (w'.setCell ⟨ub, 1, none⟩ (.bool true)) ub 4 #[.bool false, .bool true]) := Lib.hid (HV2.out.set_ 1 (.bool true))
      have HU3 := Lib.hid (HU2.out.far (p := ⟨ub, 1, none⟩) n4' (.bool true))
      have HE3 := Lib.hid (HE2.out.far (p := ⟨ub, 1, none⟩) n5' (.bool true))
      go_upto_region 11 with fail
      refine wp_letter ?_
      intro W3 hW3
      rw [← hW3] at HG1 HV3 HU3 HE3
      clear hW3 u2 zu2 v2 fv2 zv2 e2 ze2
      have e3 := HE3.out.cell 0
      have ze3 := HE3.out.lt
      simp only [List.getElem?_toArray, List.getElem?_cons_zero] at e3
      have HEnd := Lib.hid (HL.out W3 ((HE.out.up HB2.out).grow HG1.out).toE HU3.out HV3.out HE3.out)
      go_wp2_with fail
      (with_reducible refine HEnd.out.mono ?_)
      rintro e W4 ⟨rfl, hb4⟩
      have HB4 := Lib.hid hb4
      have HV4 := Lib.hid (HV3.out.below hb4 HV3.out.lt)
      have U4 := HU3.out.below hb4 HU3.out.lt
      clear hb4 e3 ze3 HEnd HE3 HV3 HU3
      have u4 := U4.cell 0
      have zu4 := U4.lt
      have v4 := HV4.out.cell 1
      have fv4 := HV4.out.frozen 1
      have zv4 := HV4.out.lt
      simp only [List.getElem?_toArray, List.getElem?_cons_zero, List.getElem?_cons_succ] at u4 v4
      have HG5 := Lib.hid (grown_tri HG1.out HB4.out (grown_setc W4 ub 1 (.bool false)))
      have HV5 : Hid (Blk (W4.setCell ⟨ub, 1, none⟩ (.bool false)) ub 4 #[.bool false, .bool false]) := Lib.hid (HV4.out.set_ 1 (.bool false))
      simp only
      go_wp2
      go_roundw
      case rel => exact Or.inr (Or.inr ⟨by rw [Int.add_right_neg], rfl, Lib.hid (bl_trans HB2.out (bl_back HG5.out HV2.out HV5.out))⟩)
      case measure => simp [intOf]
    · go_wp2
      go_ret
      exact ⟨rfl, HB.out⟩
end Go.Proofs.YtehifkdfbiebfaaDoor
