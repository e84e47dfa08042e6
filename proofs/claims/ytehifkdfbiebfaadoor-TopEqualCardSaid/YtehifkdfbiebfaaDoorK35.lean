/- TopEqual: the determinant's closure at the last of two rows, the first column used. -/
import Derived.Test.YtehifkdfbiebfaaDoorK34
namespace Go.Proofs.YtehifkdfbiebfaaDoor
open Go Go.RowKit

set_option maxRecDepth 100000 in
set_option maxHeartbeats 8000000 in
theorem exp2r_c (pi pj pu pr pe ub uc : Nat) (col : Nat → Nat) (r : Nat → Int) (hc : col 1 < 6) (hb : -400 ≤ r (col 1) ∧ r (col 1) ≤ 400) (w : World) (hE : ExpE w 2 pi pj pr col r) (hU : Blk w pu 124 #[.slice (some ⟨ub, 0, none⟩) 2 uc]) (hV : Blk w ub 4 #[.bool true, .bool false]) (hW : Blk w pe (177) #[.func (.func 164) #[] (expA pi pj pu pr pe)]) (hne : ub ≠ pi ∧ ub ≠ pj ∧ ub ≠ pr ∧ ub ≠ pu ∧ ub ≠ pe) :
    Calls Tryd.prog 164 #[.int .i64 1, .pointer (some ⟨pi, 0, none⟩), .pointer (some ⟨pj, 0, none⟩), .pointer (some ⟨pu, 0, none⟩), .pointer (some ⟨pr, 0, none⟩), .pointer (some ⟨pe, 0, none⟩)] w (Ret (.int .i64 (r (col 1))) w) := by
  obtain ⟨⟨ib, ic, i1, i2, i3⟩, ⟨jb, jc, j1, j2, j3⟩, rb, ro, rc, r1, r2, r3⟩ := hE
  have a_0 := i1.cell 0
  have za := i1.lt
  have b_0 := j1.cell 0
  have zb := j1.lt
  have c_0 := r1.cell 0
  have zc := r1.lt
  have u_0 := hU.cell 0
  have zu := hU.lt
  have v_0 := hV.cell 0
  have v_1 := hV.cell 1
  have fv := hV.frozen 1
  have zv := hV.lt
  have e_0 := hW.cell 0
  have ze := hW.lt
  simp only [List.getElem?_toArray, List.getElem?_cons_zero, List.getElem?_cons_succ] at a_0 b_0 c_0 u_0 v_0 v_1 e_0
  have i_0 := i3 1 (by omega)
  have j_0 := j3 0 (by omega)
  have j_1 := j3 1 (by omega)
  have x_0 := r3 (col 1) hc
  have hci : (col 1 : Int) < 6 := by omega
  generalize r (col 1) = x at *
  generalize col 1 = cc at *
  have HH := Lib.hid (And.intro i1 (And.intro hV (And.intro hU (And.intro hW hne))))
  have wx : IntKind.i64.wrap x = x := by rw [IntKind.wrap_i64]; omega
  clear i1 j1 r1 hU hV hW i3 j3 r3 hne
  go_enter Tryd.func164, Tryd.ntmps164
  go_upto_block 0 with fail
  go_wp2
  go_loopw [8, 9, 19] (fun sv gv kv wr => (sv = .int .i64 0 ∧ gv = .int .i64 1 ∧ kv = .int .i64 0 ∧ wr = w) ∨ (sv = .int .i64 0 ∧ gv = .int .i64 1 ∧ kv = .int .i64 1 ∧ wr = w) ∨ (sv = .int .i64 x ∧ kv = .int .i64 2 ∧ Hid (Below w.heap.size w wr))) (fun _ _ kv _ => 2 - (intOf kv).toNat)
  case atStart => exact Or.inl ⟨rfl, rfl, rfl, rfl⟩
  case round =>
    rcases hrel with ⟨rfl, rfl, rfl, rfl⟩ | ⟨rfl, rfl, rfl, rfl⟩ | ⟨rfl, rfl, HB⟩
    · go_wp2
      go_roundw
      case rel => first | exact Or.inr (Or.inl ⟨rfl, rfl, rfl, trivial⟩) | exact Or.inr (Or.inl ⟨rfl, rfl, rfl, rfl⟩)
      case measure => simp [intOf]
    · go_upto_region 8 with fail
      (refine wp_region_bl [0,1,2,3,4,5,6,7,8,9] [] (by kernel_rfl) (by kernel_rfl) (by rfl) ?_
       simp only [pickI, pick, List.getElem?_cons_succ, List.getElem?_cons_zero]
       iterate 10 (first
         | (refine head_val (by rfl) (by first | exact wanted_free rfl | rfl) ?_
            apply Exists.intro
            refine ⟨fun X hX => ?_, ?_⟩
            · (obtain ⟨qz, qc, qf⟩ := bcl hX.out (by first | (simp; rfl) | rfl)
               go_simp
               first | done | rfl | exact ⟨rfl, rfl⟩)
            simp only [Act.put, List.setIfInBounds_toArray, List.set_cons_zero, List.set_cons_succ])
         | (refine head_pass (by rfl) ?_
            simp only [Act.put, List.setIfInBounds_toArray, List.set_cons_zero, List.set_cons_succ]))
       refine head_nil ?_
       intro w' hw'
       have hb := hw'.out
       clear hw'
       obtain ⟨hz, hc, hf⟩ := bcl hb (by first | (simp; rfl) | rfl))
      by_cases hx : x = 0
      · have q1 : (x != 0) = false := by rw [hx]; rfl
        have HB2 := Lib.hid hb
        have HX := Lib.hid hx
        clear hx hb hz hc hf
        go_wp2
        go_roundw
        case rel => exact Or.inr (Or.inr ⟨by rw [HX.out], rfl, HB2⟩)
        case measure => simp [intOf]
      have q1 : (x != 0) = true := by simpa using hx
      clear hx
      obtain ⟨i1, hV, hU, hW, n1, n2, n3, n4, n5⟩ := HH.out
      have I2 := Lib.hid (i1.below hb i1.lt)
      have V2 := hV.below hb hV.lt
      have U2 := hU.below hb hU.lt
      have E2 := hW.below hb hW.lt
      have HV2 := Lib.hid V2
      have HU2 := Lib.hid U2
      have HE2 := Lib.hid E2
      have HB2 := Lib.hid hb
      have u2 := U2.cell 0
      have zu2 := U2.lt
      have v2 := V2.cell 1
      have fv2 := V2.frozen 1
      have zv2 := V2.lt
      have e2 := E2.cell 0
      have ze2 := E2.lt
      simp only [List.getElem?_toArray, List.getElem?_cons_zero, List.getElem?_cons_succ] at u2 v2 e2
      clear hb hz hc hf a_0 za b_0 zb c_0 zc u_0 zu v_0 v_1 fv zv e_0 ze i_0 j_0 j_1 x_0 i1 hV hU hW V2 U2 E2
      have n1' := n1.symm
      have n4' := n4.symm
      have n5' := n5.symm
      have HG1 := Lib.hid (grown_setc w' ub 1 (.bool true))
      have HV3 := Lib.hid (HV2.out.set_ 1 (.bool true))
      have HI3 := Lib.hid (I2.out.far (p := ⟨ub, 1, none⟩) n1' (.bool true))
      go_upto_region 11 with fail
      refine wp_letter ?_
      intro W3 hW3
      have HU3 := Lib.hid (HU2.out.far (p := ⟨ub, 1, none⟩) n4' (.bool true))
      have HE3 := Lib.hid (HE2.out.far (p := ⟨ub, 1, none⟩) n5' (.bool true))
      rw [← hW3] at HG1 HV3 HI3 HU3 HE3
      clear hW3 u2 zu2 v2 fv2 zv2 e2 ze2
      have e3 := HE3.out.cell 0
      have ze3 := HE3.out.lt
      simp only [List.getElem?_toArray, List.getElem?_cons_zero] at e3
      have hend := exp_end 2 ic pi pj pu pr pe _ W3 HI3.out
      rw [show ((2 : Nat) : Int) = 2 from rfl] at hend
      have HEnd := Lib.hid hend
      clear hend
      go_wp2_with fail
      (with_reducible refine HEnd.out.mono ?_)
      rintro e W4 ⟨rfl, hb4⟩
      have HB4 := Lib.hid hb4
      have HV4 := Lib.hid (HV3.out.below hb4 HV3.out.lt)
      have U4 := HU3.out.below hb4 HU3.out.lt
      clear hb4 e3 ze3 HEnd HI3 HE3 HV3 HU3
      have u4 := U4.cell 0
      have zu4 := U4.lt
      have v4 := HV4.out.cell 1
      have fv4 := HV4.out.frozen 1
      have zv4 := HV4.out.lt
      simp only [List.getElem?_toArray, List.getElem?_cons_zero, List.getElem?_cons_succ, List.setIfInBounds_toArray, List.set_cons_zero, List.set_cons_succ] at u4 v4
      have HG5 := Lib.hid (grown_tri HG1.out HB4.out (grown_setc W4 ub 1 (.bool false)))
      have HV5 := Lib.hid (HV4.out.set_ 1 (.bool false))
      simp only
      go_wp2
      go_roundw
      case rel => exact Or.inr (Or.inr ⟨rfl, rfl, Lib.hid (bl_trans HB2.out (bl_back HG5.out HV2.out HV5.out))⟩)
      case measure => simp [intOf]
    · go_wp2
      go_ret
      exact ⟨rfl, HB.out⟩
end Go.Proofs.YtehifkdfbiebfaaDoor
