/- TopEqual: the head, fifths and twelfths in twelve equal steps. -/
import Derived.Test.YtehifkdfbiebfaaDoorK45
import Derived.Test.YtehifkdfbiebfaaDoorK46
namespace Go.Proofs.YtehifkdfbiebfaaDoor
open Go Go.RowKit

theorem vecs_blk {w : World} {b : Nat} {t : TypeId} {r : Nat → Int} (h : Blk w b t #[.int .i64 (r 0), .int .i64 (r 1), .int .i64 (r 2), .int .i64 (r 3), .int .i64 (r 4), .int .i64 (r 5)]) : VecsR w w.heap.size (some ⟨b, 0, none⟩) 1 (fun _ => r) := fun _ => ⟨b, 0, rfl, h.lt, fun k hk i hi => by
  obtain rfl : k = 0 := by omega
  rcases lt6 hi with rfl | rfl | rfl | rfl | rfl | rfl
  · exact h.cell 0
  · exact h.cell 1
  · exact h.cell 2
  · exact h.cell 3
  · exact h.cell 4
  · exact h.cell 5⟩
theorem st_blk {w : World} {b : Nat} {t : TypeId} {d : Int} (h : Blk w b t (arr1 d)) : VecsR w w.heap.size (some ⟨b, 0, none⟩) 1 (stG (fun _ => d)) := fun _ => ⟨b, 0, rfl, h.lt, fun k hk i hi => by
  obtain rfl : k = 0 := by omega
  rcases lt6 hi with rfl | rfl | rfl | rfl | rfl | rfl
  · exact h.cell 0
  · exact h.cell 1
  · exact h.cell 2
  · exact h.cell 3
  · exact h.cell 4
  · exact h.cell 5⟩
def hdR : Nat → Int
  | 0 => 12
  | 1 => 19
  | 2 => 28
  | 3 => 34
  | 4 => 42
  | _ => 44
def hdV (x : Int) : Nat → Int
  | 0 => x
  | 1 => 1
  | _ => 0
theorem hd_row : rowOk (fun _ => hdR) = true := by decide
theorem hd_v1 : vecOk (hdV (-1)) = true := by decide
theorem hd_v0 : vecOk (hdV 0) = true := by decide
theorem hd_i1 : imS hdR (hdV (-1)) 6 = 7 := by decide
theorem hd_i0 : imS hdR (hdV 0) 6 = 19 := by decide
theorem hd_rise : Rise (chS 1) 12 := chS_rise rfl (by omega)
set_option maxRecDepth 100000 in
set_option maxHeartbeats 16000000 in
theorem head_c (w : World) (hP : PR w) : Calls Tryd.prog 39 #[] w (Ret (.bool true) w) := by
  have HCh := Lib.hid (fun X (hX : Below w.heap.size w X) => show Calls Tryd.prog 40 #[one6 1, .int .i64 12] X _ from chain_c 1 12 rfl (by omega) X (hP.up hX))
  have HT1 := Lib.hid (fun b gb X (hX : VecsR X X.heap.size (some ⟨b, 0, none⟩) 1 (fun _ => hdR)) (hG : VecsR X X.heap.size (some ⟨gb, 0, none⟩) 1 (stG (fun _ => 1))) => show Calls Tryd.prog 43 #[mapV b 0 1, .slice (some ⟨gb, 0, none⟩) 1 1, .agg #[.int .i64 (-1), .int .i64 1, .int .i64 0, .int .i64 0, .int .i64 0, .int .i64 0]] X (Ret (.tuple #[one6 7, .int .i64 0]) X) from
    ttune_g (fun _ => hdR) (hdV (-1)) (by decide) hd_row hd_v1 1 (by omega) 7 0 ⟨fun _ => ⟨by rw [hd_i1]; rfl, rfl⟩, fun h => absurd (by rw [hd_i1]; decide) h⟩ b 0 1 gb 0 1 X hX hG)
  have HT0 := Lib.hid (fun b gb X (hX : VecsR X X.heap.size (some ⟨b, 0, none⟩) 1 (fun _ => hdR)) (hG : VecsR X X.heap.size (some ⟨gb, 0, none⟩) 1 (stG (fun _ => 1))) => show Calls Tryd.prog 43 #[mapV b 0 1, .slice (some ⟨gb, 0, none⟩) 1 1, .agg #[.int .i64 0, .int .i64 1, .int .i64 0, .int .i64 0, .int .i64 0, .int .i64 0]] X (Ret (.tuple #[one6 19, .int .i64 0]) X) from
    ttune_g (fun _ => hdR) (hdV 0) (by decide) hd_row hd_v0 1 (by omega) 19 0 ⟨fun _ => ⟨by rw [hd_i0]; rfl, rfl⟩, fun h => absurd (by rw [hd_i0]; decide) h⟩ b 0 1 gb 0 1 X hX hG)
  have HD1 := Lib.hid (fun b c (hc : 12 ≤ c) X (hX : Below w.heap.size w X) (hv : VecsR X X.heap.size (some ⟨b, 0, none⟩) 12 (stG (chS 1))) => show Calls Tryd.prog 46 #[.slice (some ⟨b, 0, none⟩) 12 c, one6 7] X (Ret (.tuple #[.int .i64 7, .int .i64 0, .int .i64 0]) X) from
    degree_c (chS 1) 12 7 hd_rise (by omega) 7 (by omega) rfl (fun j hj => by unfold chS; omega) b 0 c X (hP.up hX) hc hv)
  have HD0 := Lib.hid (fun b c (hc : 12 ≤ c) X (hX : Below w.heap.size w X) (hv : VecsR X X.heap.size (some ⟨b, 0, none⟩) 12 (stG (chS 1))) => show Calls Tryd.prog 46 #[.slice (some ⟨b, 0, none⟩) 12 c, one6 19] X (Ret (.tuple #[.int .i64 7, .int .i64 1, .int .i64 0]) X) from
    degree_c (chS 1) 12 7 hd_rise (by omega) 19 (by omega) rfl (fun j hj => by unfold chS; omega) b 0 c X (hP.up hX) hc hv)
  clear hP
  go_enter Tryd.func39, Tryd.ntmps39
  go_upto_region 2 with fail
  refine wp_letter ?_
  intro W1 hW1
  have b1 : Below w.heap.size w W1 := by rw [hW1]; exact bl_alloc (bl_alloc (bl_refl _) _) _
  have R1 : Blk W1 w.heap.size 27 #[.int .i64 (hdR 0), .int .i64 (hdR 1), .int .i64 (hdR 2), .int .i64 (hdR 3), .int .i64 (hdR 4), .int .i64 (hdR 5)] := by rw [hW1]; exact (Blk.new _ _ _).alloc _
  have M1 : Blk W1 (w.heap.size + 1) (101) #[.slice (some ⟨w.heap.size, 0, none⟩) 1 1] := by rw [hW1]; exact blkAt _ _ _ _ (by simp)
  have HB1 := Lib.hid b1
  have HR1 := Lib.hid (vecs_blk R1)
  have HM1 := Lib.hid M1
  have HC1 := Lib.hid (HCh.out W1 b1)
  obtain ⟨pr, hpr⟩ : ∃ pr, pr = w.heap.size := ⟨_, rfl⟩
  obtain ⟨pm, hpm⟩ : ∃ pm, pm = w.heap.size + 1 := ⟨_, rfl⟩
  rw [← hpm] at HM1 ⊢
  rw [← hpr] at HM1 HR1 ⊢
  clear hW1 b1 R1 M1 hpr hpm
  go_wp2_with fail
  (with_reducible refine HC1.out.mono ?_)
  rintro e w2 ⟨hb2, sb, sc, rfl, hsc, hs2⟩
  have HB2 := Lib.hid (bl_trans HB1.out hb2)
  have HR2 := Lib.hid (HR1.out.up hb2)
  have HM2 := Lib.hid (HM1.out.below hb2 HM1.out.lt)
  have HSc := Lib.hid hsc
  have HS2 := Lib.hid hs2
  clear hb2 hsc hs2 HC1
  try simp only
  have p_0 := HM2.out.cell 0
  have zp := HM2.out.lt
  simp only [List.getElem?_toArray, List.getElem?_cons_zero] at p_0
  obtain ⟨X, hX⟩ : ∃ X, X = w2.alloc (.cells (arr1 1) 72) := ⟨_, rfl⟩
  have bX : Below w2.heap.size w2 X := by rw [hX]; exact bl_alloc (bl_refl _) _
  have GX : Blk X w2.heap.size 72 (arr1 1) := by rw [hX]; exact Blk.new _ _ _
  have hC := HT1.out pr w2.heap.size X (HR2.out.up bX) (st_blk GX)
  rw [hX] at hC
  have HC2 := Lib.hid hC
  have HBX := Lib.hid bX
  rw [hX] at HBX
  clear hX bX GX hC X
  go_wp2_with fail
  (with_reducible refine HC2.out.mono ?_)
  rintro e w3 ⟨rfl, hb3⟩
  have hb := bl_trans HBX.out hb3
  have HB3 := Lib.hid (bl_trans HB2.out hb)
  have HR3 := Lib.hid (HR2.out.up hb)
  have HM3 := Lib.hid (HM2.out.below hb HM2.out.lt)
  have HS3 := Lib.hid (HS2.out.up hb)
  clear hb hb3 HBX HC2 p_0 zp
  simp only
  go_upto_region 4 with fail
  refine wp_letter ?_
  intro w4 hW
  have hb : Below w3.heap.size w3 w4 := by rw [hW]; exact bl_alloc (bl_refl _) _
  have P4 : Blk w4 w3.heap.size 72 (arr1 7) := by rw [hW]; exact Blk.new _ _ _
  have HB4 := Lib.hid (bl_trans HB3.out hb)
  have HR4 := Lib.hid (HR3.out.up hb)
  have HM4 := Lib.hid (HM3.out.below hb HM3.out.lt)
  have HS4 := Lib.hid (HS3.out.up hb)
  obtain ⟨pp, hpp⟩ : ∃ p, p = w3.heap.size := ⟨_, rfl⟩
  rw [← hpp] at P4 ⊢
  have HP4 := Lib.hid P4
  clear hW hb P4 hpp
  try simp only
  have p_0 := HM4.out.cell 0
  have zp := HM4.out.lt
  simp only [List.getElem?_toArray, List.getElem?_cons_zero] at p_0
  obtain ⟨X, hX⟩ : ∃ X, X = w4.alloc (.cells (arr1 1) 72) := ⟨_, rfl⟩
  have bX : Below w4.heap.size w4 X := by rw [hX]; exact bl_alloc (bl_refl _) _
  have GX : Blk X w4.heap.size 72 (arr1 1) := by rw [hX]; exact Blk.new _ _ _
  have hC := HT0.out pr w4.heap.size X (HR4.out.up bX) (st_blk GX)
  rw [hX] at hC
  have HC4 := Lib.hid hC
  have HBX := Lib.hid bX
  rw [hX] at HBX
  clear hX bX GX hC X
  go_wp2_with fail
  (with_reducible refine HC4.out.mono ?_)
  rintro e w5 ⟨rfl, hb5⟩
  have hb := bl_trans HBX.out hb5
  have HB5 := Lib.hid (bl_trans HB4.out hb)
  have HR5 := Lib.hid (HR4.out.up hb)
  have HM5 := Lib.hid (HM4.out.below hb HM4.out.lt)
  have HS5 := Lib.hid (HS4.out.up hb)
  have HP5 := Lib.hid (HP4.out.below hb HP4.out.lt)
  clear hb hb5 HBX HC4 p_0 zp
  simp only
  go_upto_region 5 with fail
  refine wp_letter ?_
  intro w6 hW
  have hb : Below w5.heap.size w5 w6 := by rw [hW]; exact bl_alloc (bl_refl _) _
  have P6 : Blk w6 w5.heap.size 72 (arr1 19) := by rw [hW]; exact Blk.new _ _ _
  have HB6 := Lib.hid (bl_trans HB5.out hb)
  have HR6 := Lib.hid (HR5.out.up hb)
  have HM6 := Lib.hid (HM5.out.below hb HM5.out.lt)
  have HS6 := Lib.hid (HS5.out.up hb)
  have HP6 := Lib.hid (HP5.out.below hb HP5.out.lt)
  obtain ⟨pq, hpq⟩ : ∃ p, p = w5.heap.size := ⟨_, rfl⟩
  rw [← hpq] at P6 ⊢
  have HQ6 := Lib.hid P6
  clear hW hb P6 hpq
  have hC := HD1.out sb sc HSc.out w6 HB6.out HS6.out
  have HC := Lib.hid hC
  clear hC
  have p_0 := HP6.out.cell 0
  have p_1 := HP6.out.cell 1
  have p_2 := HP6.out.cell 2
  have p_3 := HP6.out.cell 3
  have p_4 := HP6.out.cell 4
  have p_5 := HP6.out.cell 5
  have zp := HP6.out.lt
  simp only [arr1, List.getElem?_toArray, List.getElem?_cons_zero, List.getElem?_cons_succ] at p_0 p_1 p_2 p_3 p_4 p_5
  go_wp2_with fail
  (with_reducible refine HC.out.mono ?_)
  rintro e w7 ⟨rfl, hb⟩
  have HB7 := Lib.hid (bl_trans HB6.out hb)
  have HS7 := Lib.hid (HS6.out.up hb)
  have HQ7 := Lib.hid (HQ6.out.below hb HQ6.out.lt)
  clear hb HC p_0 p_1 p_2 p_3 p_4 p_5 zp
  simp only
  have hC := HD0.out sb sc HSc.out w7 HB7.out HS7.out
  have HC := Lib.hid hC
  clear hC
  have p_0 := HQ7.out.cell 0
  have p_1 := HQ7.out.cell 1
  have p_2 := HQ7.out.cell 2
  have p_3 := HQ7.out.cell 3
  have p_4 := HQ7.out.cell 4
  have p_5 := HQ7.out.cell 5
  have zp := HQ7.out.lt
  simp only [arr1, List.getElem?_toArray, List.getElem?_cons_zero, List.getElem?_cons_succ] at p_0 p_1 p_2 p_3 p_4 p_5
  go_wp2_with fail
  (with_reducible refine HC.out.mono ?_)
  rintro e w8 ⟨rfl, hb⟩
  have HB8 := Lib.hid (bl_trans HB7.out hb)
  have HS8 := Lib.hid (HS7.out.up hb)
  clear hb HC p_0 p_1 p_2 p_3 p_4 p_5 zp
  simp only
  go_wp2
  go_ret
  exact ⟨rfl, HB8.out⟩
end Go.Proofs.YtehifkdfbiebfaaDoor
