/- TopEqual: the rank of one row; Valid of a temperament of one row. -/
import Derived.Test.YtehifkdfbiebfaaDoorK40
namespace Go.Proofs.YtehifkdfbiebfaaDoor
open Go Go.RowKit

@[go_sem] theorem fld_frame (b o c ib ic jb jc : Nat) (d : Int) (w : World) : (Instr.field (235) (.agg #[.slice (some ⟨b, o, none⟩) 1 c, .slice (some ⟨ib, 0, none⟩) 1 ic, .slice (some ⟨jb, 0, none⟩) 1 jc, .int .i64 d]) 1).run Tryd.prog w = .ok (.slice (some ⟨ib, 0, none⟩) 1 ic) w := by kernel_rfl
set_option maxRecDepth 100000 in
theorem forward_c (w : World) : Calls Tryd.prog 150 #[] w (fun e w' => Below w.heap.size w w' ∧ ∃ x c, e = .returned (.slice (some ⟨x, 0, none⟩) 6 c) ∧ x < w'.heap.size ∧ ∀ k, k < 6 → w'.cell? ⟨x, k, none⟩ = some (.int .i64 (k : Int))) := by
  go_enter Tryd.func150, Tryd.ntmps150
  go_wp2
  refine bodyPost_ret (v := .slice (some ⟨w.heap.size, 0, none⟩) 6 6) (by simp only [results, Tryd.results150]; go_simp) rfl ?_
  have hB := Blk.new w 3 #[.int .i64 0, .int .i64 1, .int .i64 2, .int .i64 3, .int .i64 4, .int .i64 5]
  refine ⟨bl_alloc (bl_refl _) _, w.heap.size, 6, rfl, hB.lt, fun k hk => ?_⟩
  rcases lt6 hk with rfl | rfl | rfl | rfl | rfl | rfl
  · exact hB.cell 0
  · exact hB.cell 1
  · exact hB.cell 2
  · exact hB.cell 3
  · exact hB.cell 4
  · exact hB.cell 5
set_option maxRecDepth 100000 in
set_option maxHeartbeats 4000000 in
theorem rank_c (g : Nat → Nat → Int) (hx : g 0 0 ≠ 0) (hg : ∀ i, i < 6 → -400 ≤ g 0 i ∧ g 0 i ≤ 400) (b o c : Nat) (w : World) (hv : VecsR w w.heap.size (some ⟨b, o, none⟩) 1 g) :
    Calls Tryd.prog 129 #[.slice (some ⟨b, o, none⟩) 1 c] w (Ret (.tuple #[.int .i64 1, .int .i64 0]) w) := by
  have HV := Lib.hid (mvalid_c g hg b o c w hv)
  have HF := Lib.hid (fun ob oc X (hX : Below w.heap.size w X) => framed_c g hx hg b o c ob oc X (hv.up hX))
  clear hx hg hv
  go_enter Tryd.func129, Tryd.ntmps129
  go_wp2_with fail
  (with_reducible refine HV.out.mono ?_)
  rintro e w2 ⟨rfl, hb2⟩
  have HB2 := Lib.hid hb2
  clear hb2
  simp only
  go_wp2_with fail
  (with_reducible refine (forward_c _).mono ?_)
  rintro e w3 ⟨hb3, x, c3, rfl, hx3, hc3⟩
  have HB3 := Lib.hid (bl_trans HB2.out hb3)
  have HC := Lib.hid (HF.out x c3 w3 HB3.out hx3 hc3)
  clear hb3 hx3 hc3
  simp only
  go_wp2_with fail
  (with_reducible refine HC.out.mono ?_)
  rintro e w4 ⟨hb4, ib, ic, jb, jc, d, rfl⟩
  have HB4 := Lib.hid (bl_trans HB3.out hb4)
  clear hb4 HC
  simp only
  go_wp2
  refine bodyPost_ret (v := .tuple #[.int .i64 1, .int .i64 0]) (by simp only [results, Tryd.results129]; go_simp) rfl ?_
  exact ⟨rfl, HB4.out⟩
/-- A temperament of one row. -/
abbrev mapV (b o c : Nat) : Value := .agg #[.slice (some ⟨b, o, none⟩) 1 c]
/-- The row of a matrix of one row. -/
def rowOk (g : Nat → Nat → Int) : Bool := pV (g 0 0) (g 0 1) (g 0 2) (g 0 3) (g 0 4) (g 0 5) 400
theorem rowOk_bd {g : Nat → Nat → Int} (h : rowOk g = true) : ∀ i, i < 6 → -400 ≤ g 0 i ∧ g 0 i ≤ 400 := by
  obtain ⟨h0, h1, h2, h3, h4, h5⟩ := pV_of h
  intro i hi
  rcases lt6 hi with rfl | rfl | rfl | rfl | rfl | rfl
  · exact wi_of h0
  · exact wi_of h1
  · exact wi_of h2
  · exact wi_of h3
  · exact wi_of h4
  · exact wi_of h5
set_option maxRecDepth 100000 in
set_option maxHeartbeats 16000000 in
theorem cvalid_c (g : Nat → Nat → Int) (hx : g 0 0 ≠ 0) (b o c : Nat) (w : World) (hv : VecsR w w.heap.size (some ⟨b, o, none⟩) 1 g) :
    Calls Tryd.prog 104 #[mapV b o c] w (Ret (.bool (rowOk g)) w) := by
  obtain ⟨b', o', hbo, hb0, hcl⟩ := hv (by omega)
  obtain ⟨rfl, rfl⟩ : b = b' ∧ o = o' := by
    have := Option.some.inj hbo
    injection this with e1 e2
    exact ⟨e1, e2⟩
  have h0 := hcl 0 (by omega)
  simp only [Nat.zero_mul, Nat.add_zero] at h0
  have HR := Lib.hid (fun (h : rowOk g = true) X (hX : Below w.heap.size w X) => rank_c g hx (rowOk_bd h) b o c X (hv.up hX))
  have HRow := Lib.hid (fun X (hX : Below w.heap.size w X) => And.intro ((hX.cell (p := ⟨b, o, none⟩) hb0).trans (h0 0 (by omega))) (And.intro ((hX.cell (p := ⟨b, o + 1, none⟩) hb0).trans (h0 1 (by omega))) (And.intro ((hX.cell (p := ⟨b, o + 2, none⟩) hb0).trans (h0 2 (by omega))) (And.intro ((hX.cell (p := ⟨b, o + 3, none⟩) hb0).trans (h0 3 (by omega))) (And.intro ((hX.cell (p := ⟨b, o + 4, none⟩) hb0).trans (h0 4 (by omega))) (And.intro ((hX.cell (p := ⟨b, o + 5, none⟩) hb0).trans (h0 5 (by omega))) (show b < X.heap.size by have := hX.size; omega)))))))
  generalize hvv : rowOk g = V at *
  have HV : Hid (V = pV (g 0 0) (g 0 1) (g 0 2) (g 0 3) (g 0 4) (g 0 5) 400) := Lib.hid hvv.symm
  generalize g 0 0 = x0 at *
  generalize g 0 1 = x1 at *
  generalize g 0 2 = x2 at *
  generalize g 0 3 = x3 at *
  generalize g 0 4 = x4 at *
  generalize g 0 5 = x5 at *
  clear hv h0 hvv hbo hcl hx hb0
  go_enter Tryd.func104, Tryd.ntmps104
  go_upto_region 1 with fail
  refine wp_letter ?_
  intro W1 hW1
  have b1 : Below w.heap.size w W1 := by rw [hW1]; exact bl_alloc (bl_refl _) _
  have S1 : Blk W1 w.heap.size (179) #[.slice (some ⟨b, o, none⟩) 1 c] := by rw [hW1]; exact Blk.new _ _ _
  have HB1 := Lib.hid b1
  have HS1 := Lib.hid S1
  have p_0 := S1.cell 0
  have zp := S1.lt
  simp only [List.getElem?_toArray, List.getElem?_cons_zero] at p_0
  clear hW1 b1 S1
  go_upto_block 0 with fail
  go_wp2
  refine wp_loop_rounds 2 ?_
  rw [rounds_succ]
  obtain ⟨s_0, s_1, s_2, s_3, s_4, s_5, zs⟩ := HRow.out W1 HB1.out
  go_upto_block 2 with fail
  refine wp_letter ?_
  intro W2 hW2
  have HB2 : Hid (Below w.heap.size w W2) := Lib.hid (by rw [hW2]; exact bl_alloc HB1.out _)
  have HS2 : Hid (Blk W2 w.heap.size (179) #[.slice (some ⟨b, o, none⟩) 1 c]) := Lib.hid (by rw [hW2]; exact HS1.out.alloc _)
  clear hW2 s_0 s_1 s_2 s_3 s_4 s_5 zs p_0 zp HS1 HB1
  go_wp2
  refine wp_loop_rounds 7 ?_
  rw [rounds_succ]
  rcases wi_ways x0 (400) with ⟨h0, e0⟩ | ⟨h0, g0, e0⟩ | ⟨h0, g0, e0⟩
  · (have E0 := Lib.hid e0; clear e0; go_wp2; go_ret; exact ⟨ret_bool (by rw [HV.out]; simp [pV, E0.out]), HB2.out⟩)
  · (have E0 := Lib.hid e0; clear e0; go_wp2; go_ret; exact ⟨ret_bool (by rw [HV.out]; simp [pV, E0.out]), HB2.out⟩)
  have E0 := Lib.hid e0
  clear e0
  go_wp2
  rw [rounds_succ]
  rcases wi_ways x1 (400) with ⟨h1, e1⟩ | ⟨h1, g1, e1⟩ | ⟨h1, g1, e1⟩
  · (have E1 := Lib.hid e1; clear e1; go_wp2; go_ret; exact ⟨ret_bool (by rw [HV.out]; simp [pV, E0.out, E1.out]), HB2.out⟩)
  · (have E1 := Lib.hid e1; clear e1; go_wp2; go_ret; exact ⟨ret_bool (by rw [HV.out]; simp [pV, E0.out, E1.out]), HB2.out⟩)
  have E1 := Lib.hid e1
  clear e1
  go_wp2
  rw [rounds_succ]
  rcases wi_ways x2 (400) with ⟨h2, e2⟩ | ⟨h2, g2, e2⟩ | ⟨h2, g2, e2⟩
  · (have E2 := Lib.hid e2; clear e2; go_wp2; go_ret; exact ⟨ret_bool (by rw [HV.out]; simp [pV, E0.out, E1.out, E2.out]), HB2.out⟩)
  · (have E2 := Lib.hid e2; clear e2; go_wp2; go_ret; exact ⟨ret_bool (by rw [HV.out]; simp [pV, E0.out, E1.out, E2.out]), HB2.out⟩)
  have E2 := Lib.hid e2
  clear e2
  go_wp2
  rw [rounds_succ]
  rcases wi_ways x3 (400) with ⟨h3, e3⟩ | ⟨h3, g3, e3⟩ | ⟨h3, g3, e3⟩
  · (have E3 := Lib.hid e3; clear e3; go_wp2; go_ret; exact ⟨ret_bool (by rw [HV.out]; simp [pV, E0.out, E1.out, E2.out, E3.out]), HB2.out⟩)
  · (have E3 := Lib.hid e3; clear e3; go_wp2; go_ret; exact ⟨ret_bool (by rw [HV.out]; simp [pV, E0.out, E1.out, E2.out, E3.out]), HB2.out⟩)
  have E3 := Lib.hid e3
  clear e3
  go_wp2
  rw [rounds_succ]
  rcases wi_ways x4 (400) with ⟨h4, e4⟩ | ⟨h4, g4, e4⟩ | ⟨h4, g4, e4⟩
  · (have E4 := Lib.hid e4; clear e4; go_wp2; go_ret; exact ⟨ret_bool (by rw [HV.out]; simp [pV, E0.out, E1.out, E2.out, E3.out, E4.out]), HB2.out⟩)
  · (have E4 := Lib.hid e4; clear e4; go_wp2; go_ret; exact ⟨ret_bool (by rw [HV.out]; simp [pV, E0.out, E1.out, E2.out, E3.out, E4.out]), HB2.out⟩)
  have E4 := Lib.hid e4
  clear e4
  go_wp2
  rw [rounds_succ]
  rcases wi_ways x5 (400) with ⟨h5, e5⟩ | ⟨h5, g5, e5⟩ | ⟨h5, g5, e5⟩
  · (have E5 := Lib.hid e5; clear e5; go_wp2; go_ret; exact ⟨ret_bool (by rw [HV.out]; simp [pV, E0.out, E1.out, E2.out, E3.out, E4.out, E5.out]), HB2.out⟩)
  · (have E5 := Lib.hid e5; clear e5; go_wp2; go_ret; exact ⟨ret_bool (by rw [HV.out]; simp [pV, E0.out, E1.out, E2.out, E3.out, E4.out, E5.out]), HB2.out⟩)
  have E5 := Lib.hid e5
  clear e5
  go_wp2
  rw [rounds_succ]
  have hV : V = true := by rw [HV.out]; exact pV_mk E0.out E1.out E2.out E3.out E4.out E5.out
  have HC := Lib.hid (HR.out hV W2 HB2.out)
  have p_0 := HS2.out.cell 0
  have zp := HS2.out.lt
  simp only [List.getElem?_toArray, List.getElem?_cons_zero] at p_0
  have HVt := Lib.hid hV
  clear hV
  go_wp2
  rw [rounds_succ]
  go_wp2_with fail
  (with_reducible refine HC.out.mono ?_)
  rintro e w4 ⟨rfl, hb4⟩
  have HB4 := Lib.hid (bl_trans HB2.out hb4)
  have S4 := HS2.out.below hb4 HS2.out.lt
  clear p_0 zp hb4 HC
  have p_0 := S4.cell 0
  have zp := S4.lt
  simp only [List.getElem?_toArray, List.getElem?_cons_zero] at p_0
  clear S4
  simp only
  go_wp2
  go_ret
  exact ⟨ret_bool HVt.out.symm, HB4.out⟩
end Go.Proofs.YtehifkdfbiebfaaDoor
