/- TopEqual: Image and Tempers of a temperament of one row. -/
import Derived.Test.YtehifkdfbiebfaaDoorK42
namespace Go.Proofs.YtehifkdfbiebfaaDoor
open Go Go.RowKit

/-- An interval. -/
def vecOk (v : Nat → Int) : Bool := pV (v 0) (v 1) (v 2) (v 3) (v 4) (v 5) 48
theorem vecOk_bd {v : Nat → Int} (h : vecOk v = true) : ∀ i, i < 6 → -48 ≤ v i ∧ v i ≤ 48 := by
  obtain ⟨h0, h1, h2, h3, h4, h5⟩ := pV_of h
  intro i hi
  rcases lt6 hi with rfl | rfl | rfl | rfl | rfl | rfl
  · exact wi_of h0
  · exact wi_of h1
  · exact wi_of h2
  · exact wi_of h3
  · exact wi_of h4
  · exact wi_of h5
theorem vInt_c (v : Nat → Int) (w : World) : Calls Tryd.prog 15 #[vagg v] w (Ret (.bool (vecOk v)) w) := PInt_c _ _ _ _ _ _ w
set_option maxRecDepth 100000 in
set_option maxHeartbeats 8000000 in
theorem timage_no (g : Nat → Nat → Int) (v : Nat → Int) (hx : g 0 0 ≠ 0) (hno : (rowOk g && vecOk v) = false) (b o c : Nat) (w : World) (hv : VecsR w w.heap.size (some ⟨b, o, none⟩) 1 g) :
    Calls Tryd.prog 42 #[mapV b o c, vagg v] w (Ret (.tuple #[.slice none 0 0, .int .i64 1]) w) := by
  have HT := Lib.hid (fun X (hX : Below w.heap.size w X) => tvalid_c g hx b o c X (hv.up hX))
  have HI := Lib.hid (fun X => vInt_c v X)
  clear hx hv
  generalize rowOk g = V at *
  generalize vecOk v = U at *
  have HNo := Lib.hid hno
  clear hno
  go_enter Tryd.func42, Tryd.ntmps42
  go_upto_region 1 with fail
  refine wp_letter ?_
  intro W1 hW1
  have b1 : Below w.heap.size w W1 := by rw [hW1]; exact bl_alloc (bl_alloc (bl_refl _) _) _
  have S1 : Blk W1 w.heap.size (101) #[.slice (some ⟨b, o, none⟩) 1 c] := by rw [hW1]; exact (Blk.new _ _ _).alloc _
  have V1 : Blk W1 (w.heap.size + 1) 27 #[.int .i64 (v 0), .int .i64 (v 1), .int .i64 (v 2), .int .i64 (v 3), .int .i64 (v 4), .int .i64 (v 5)] := by rw [hW1]; exact blkAt _ _ _ _ (by simp)
  have p_0 := S1.cell 0
  have zp := S1.lt
  simp only [List.getElem?_toArray, List.getElem?_cons_zero] at p_0
  have HB1 := Lib.hid b1
  have HV1 := Lib.hid V1
  have HC1 := Lib.hid (HT.out W1 b1)
  clear hW1 b1 S1 V1
  cases V
  · go_wp2_with fail
    (with_reducible refine HC1.out.mono ?_)
    rintro e w2 ⟨rfl, hb2⟩
    have HB2 := Lib.hid (bl_trans HB1.out hb2)
    clear hb2 HC1 p_0 zp
    simp only
    go_wp2
    refine bodyPost_ret (v := .tuple #[.slice none 0 0, .int .i64 1]) (by simp only [results, Tryd.results42]; go_simp) rfl ?_
    exact ⟨rfl, HB2.out⟩
  cases U
  · go_wp2_with fail
    (with_reducible refine HC1.out.mono ?_)
    rintro e w2 ⟨rfl, hb2⟩
    have HB2 := Lib.hid (bl_trans HB1.out hb2)
    have V2 := HV1.out.below hb2 HV1.out.lt
    clear hb2 HC1 p_0 zp
    have p_0 := V2.cell 0
    have p_1 := V2.cell 1
    have p_2 := V2.cell 2
    have p_3 := V2.cell 3
    have p_4 := V2.cell 4
    have p_5 := V2.cell 5
    have zp := V2.lt
    simp only [List.getElem?_toArray, List.getElem?_cons_zero, List.getElem?_cons_succ] at p_0 p_1 p_2 p_3 p_4 p_5
    clear V2
    simp only
    go_wp2_with fail
    (with_reducible refine (HI.out _).mono ?_)
    rintro e w3 ⟨rfl, hb3⟩
    have HB3 := Lib.hid (bl_trans HB2.out hb3)
    clear hb3 p_0 p_1 p_2 p_3 p_4 p_5 zp
    simp only
    go_wp2
    refine bodyPost_ret (v := .tuple #[.slice none 0 0, .int .i64 1]) (by simp only [results, Tryd.results42]; go_simp) rfl ?_
    exact ⟨rfl, HB3.out⟩
  · exact absurd HNo.out (by decide)
set_option maxRecDepth 100000 in
set_option maxHeartbeats 8000000 in
theorem timage_c (g : Nat → Nat → Int) (v : Nat → Int) (hx : g 0 0 ≠ 0) (hr : rowOk g = true) (hi : vecOk v = true) (b o c : Nat) (w : World) (hv : VecsR w w.heap.size (some ⟨b, o, none⟩) 1 g) :
    Calls Tryd.prog 42 #[mapV b o c, vagg v] w (fun e w' => Below w.heap.size w w' ∧ ∃ x cc, e = .returned (.tuple #[.slice (some ⟨x, 0, none⟩) 1 cc, .int .i64 0]) ∧ x < w'.heap.size ∧ w'.cell? ⟨x, 0, none⟩ = some (.int .i64 (imS (g 0) v 6))) := by
  have HT := Lib.hid (fun X (hX : Below w.heap.size w X) => tvalid_c g hx b o c X (hv.up hX))
  have HI := Lib.hid (fun X => vInt_c v X)
  have HIm := Lib.hid (fun X (hX : Below w.heap.size w X) => image_c g v (rowOk_bd hr) (vecOk_bd hi) b o c X (hv.up hX))
  clear hx hv
  rw [hr] at HT
  rw [hi] at HI
  clear hr hi
  generalize imS (g 0) v 6 = a at *
  go_enter Tryd.func42, Tryd.ntmps42
  go_upto_region 1 with fail
  refine wp_letter ?_
  intro W1 hW1
  have b1 : Below w.heap.size w W1 := by rw [hW1]; exact bl_alloc (bl_alloc (bl_refl _) _) _
  have S1 : Blk W1 w.heap.size (101) #[.slice (some ⟨b, o, none⟩) 1 c] := by rw [hW1]; exact (Blk.new _ _ _).alloc _
  have V1 : Blk W1 (w.heap.size + 1) 27 #[.int .i64 (v 0), .int .i64 (v 1), .int .i64 (v 2), .int .i64 (v 3), .int .i64 (v 4), .int .i64 (v 5)] := by rw [hW1]; exact blkAt _ _ _ _ (by simp)
  have p_0 := S1.cell 0
  have zp := S1.lt
  simp only [List.getElem?_toArray, List.getElem?_cons_zero] at p_0
  have HB1 := Lib.hid b1
  have HV1 := Lib.hid V1
  have HS1 := Lib.hid S1
  have HC1 := Lib.hid (HT.out W1 b1)
  clear hW1 b1 S1 V1
  go_wp2_with fail
  (with_reducible refine HC1.out.mono ?_)
  rintro e w2 ⟨rfl, hb2⟩
  have HB2 := Lib.hid (bl_trans HB1.out hb2)
  have V2 := HV1.out.below hb2 HV1.out.lt
  have HS2 := Lib.hid (HS1.out.below hb2 HS1.out.lt)
  have HV2 := Lib.hid V2
  clear hb2 HC1 p_0 zp
  have p_0 := V2.cell 0
  have p_1 := V2.cell 1
  have p_2 := V2.cell 2
  have p_3 := V2.cell 3
  have p_4 := V2.cell 4
  have p_5 := V2.cell 5
  have zp := V2.lt
  simp only [List.getElem?_toArray, List.getElem?_cons_zero, List.getElem?_cons_succ] at p_0 p_1 p_2 p_3 p_4 p_5
  clear V2
  simp only
  go_wp2_with fail
  (with_reducible refine (HI.out _).mono ?_)
  rintro e w3 ⟨rfl, hb3⟩
  have HB3 := Lib.hid (bl_trans HB2.out hb3)
  have V3 := HV2.out.below hb3 HV2.out.lt
  have S3 := HS2.out.below hb3 HS2.out.lt
  clear hb3 p_0 p_1 p_2 p_3 p_4 p_5 zp
  have p_0 := V3.cell 0
  have p_1 := V3.cell 1
  have p_2 := V3.cell 2
  have p_3 := V3.cell 3
  have p_4 := V3.cell 4
  have p_5 := V3.cell 5
  have zp := V3.lt
  have s_0 := S3.cell 0
  have zs := S3.lt
  simp only [List.getElem?_toArray, List.getElem?_cons_zero, List.getElem?_cons_succ] at p_0 p_1 p_2 p_3 p_4 p_5 s_0
  clear V3 S3
  simp only
  have HC3 := Lib.hid (HIm.out w3 HB3.out)
  go_wp2_with fail
  (with_reducible refine HC3.out.mono ?_)
  rintro e w4 ⟨hb4, x, cc, rfl, hx4, hc4⟩
  have HB4 := Lib.hid (bl_trans HB3.out hb4)
  have HX4 := Lib.hid (And.intro hx4 hc4)
  clear hb4 hx4 hc4 p_0 p_1 p_2 p_3 p_4 p_5 zp s_0 zs HC3
  simp only
  go_wp2
  refine bodyPost_ret (v := .tuple #[.slice (some ⟨x, 0, none⟩) 1 cc, .int .i64 0]) (by simp only [results, Tryd.results42]; go_simp) rfl ?_
  exact ⟨HB4.out, x, cc, rfl, HX4.out.1, HX4.out.2⟩
set_option maxRecDepth 100000 in
set_option maxHeartbeats 8000000 in
theorem tempers_c (g : Nat → Nat → Int) (v : Nat → Int) (hx : g 0 0 ≠ 0) (hr : rowOk g = true) (hi : vecOk v = true) (b o c : Nat) (w : World) (hv : VecsR w w.heap.size (some ⟨b, o, none⟩) 1 g) :
    Calls Tryd.prog 47 #[mapV b o c, vagg v] w (Ret (.tuple #[.bool (decide (imS (g 0) v 6 = 0)), .int .i64 0]) w) := by
  have HIm := Lib.hid (fun X (hX : Below w.heap.size w X) => timage_c g v hx hr hi b o c X (hv.up hX))
  clear hx hv hr hi
  generalize imS (g 0) v 6 = a at *
  generalize hz : decide (a = 0) = Z at *
  have HZ := Lib.hid hz
  clear hz
  go_enter Tryd.func47, Tryd.ntmps47
  go_upto_region 1 with fail
  refine wp_letter ?_
  intro W1 hW1
  have b1 : Below w.heap.size w W1 := by rw [hW1]; exact bl_alloc (bl_alloc (bl_refl _) _) _
  have S1 : Blk W1 w.heap.size (101) #[.slice (some ⟨b, o, none⟩) 1 c] := by rw [hW1]; exact (Blk.new _ _ _).alloc _
  have V1 : Blk W1 (w.heap.size + 1) 27 #[.int .i64 (v 0), .int .i64 (v 1), .int .i64 (v 2), .int .i64 (v 3), .int .i64 (v 4), .int .i64 (v 5)] := by rw [hW1]; exact blkAt _ _ _ _ (by simp)
  have s_0 := S1.cell 0
  have zs := S1.lt
  have p_0 := V1.cell 0
  have p_1 := V1.cell 1
  have p_2 := V1.cell 2
  have p_3 := V1.cell 3
  have p_4 := V1.cell 4
  have p_5 := V1.cell 5
  have zp := V1.lt
  simp only [List.getElem?_toArray, List.getElem?_cons_zero, List.getElem?_cons_succ] at p_0 p_1 p_2 p_3 p_4 p_5 s_0
  have HB1 := Lib.hid b1
  have HC1 := Lib.hid (HIm.out W1 b1)
  clear hW1 b1 S1 V1
  go_wp2_with fail
  (with_reducible refine HC1.out.mono ?_)
  rintro e w4 ⟨hb4, x, cc, rfl, x_0, zx⟩
  have HB4 := Lib.hid (bl_trans HB1.out hb4)
  clear hb4 p_0 p_1 p_2 p_3 p_4 p_5 zp s_0 zs HC1
  simp only
  go_upto_block 0 with fail
  go_wp2
  refine wp_loop_rounds 2 ?_
  rw [rounds_succ]
  by_cases ha : a = 0
  · have q1 : (a != 0) = false := by rw [ha]; rfl
    have hZ : Z = true := by rw [← HZ.out]; exact decide_eq_true ha
    have HZ2 := Lib.hid hZ
    clear ha hZ
    go_wp2
    rw [rounds_succ]
    go_wp2
    refine bodyPost_ret (v := .tuple #[.bool true, .int .i64 0]) (by simp only [results, Tryd.results47]; go_simp) rfl ?_
    rw [HZ2.out]
    exact ⟨rfl, HB4.out⟩
  · have q1 : (a != 0) = true := by simpa using ha
    have hZ : Z = false := by rw [← HZ.out]; exact decide_eq_false ha
    have HZ2 := Lib.hid hZ
    clear ha hZ
    go_wp2
    refine bodyPost_ret (v := .tuple #[.bool false, .int .i64 0]) (by simp only [results, Tryd.results47]; go_simp) rfl ?_
    rw [HZ2.out]
    exact ⟨rfl, HB4.out⟩
end Go.Proofs.YtehifkdfbiebfaaDoor
