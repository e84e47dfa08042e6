/- TopEqual: Steps, slices.Index, Degree. -/
import Derived.Test.YtehifkdfbiebfaaDoorK28
namespace Go.Proofs.YtehifkdfbiebfaaDoor
open Go Go.RowKit

set_option maxRecDepth 100000 in
theorem steps_c (st : Nat → Int) (n : Nat) (hs : Rise st n) (d : Int) (hd : 0 ≤ d ∧ d ≤ 12) (hdd : ∀ i, i < n → atD st n (i + 1) - atD st n i = d) (b o c : Nat) (w : World) (hP : PR w) (hc : n ≤ c) (hv : VecsR w w.heap.size (some ⟨b, o, none⟩) n (stG st)) :
    Calls Tryd.prog 41 #[.slice (some ⟨b, o, none⟩) n c] w (fun e w' => Below w.heap.size w w' ∧ ∃ b' c', e = .returned (.tuple #[.slice (some ⟨b', 0, none⟩) n c', .int .i64 0]) ∧ VecsR w' w'.heap.size (some ⟨b', 0, none⟩) n (stG (fun _ => d))) := by
  have HV := Lib.hid (scValid_c st n hs (some ⟨b, o, none⟩) c w hP hc hv)
  have HQ := Lib.hid (fun X (hX : Below w.heap.size w X) => quot_c st n hs d hd hdd b o c X (hv.up hX))
  clear hs hdd hP hv
  go_enter Tryd.func41, Tryd.ntmps41
  go_wp2_with fail
  (with_reducible refine HV.out.mono ?_)
  rintro e w2 ⟨rfl, hb2⟩
  simp only
  go_wp2_with fail
  (with_reducible refine (HQ.out _ hb2).mono ?_)
  rintro e w3 ⟨hb3, b', c', rfl, hv'⟩
  have HVs := Lib.hid hv'
  have b9 := bl_trans hb2 hb3
  clear hv'
  simp only
  go_wp2
  refine bodyPost_ret (v := .tuple #[.slice (some ⟨b', 0, none⟩) n c', .int .i64 0]) (by simp only [results, Tryd.results41]; go_simp) rfl ?_
  exact ⟨b9, b', c', rfl, HVs.out⟩
set_option maxRecDepth 100000 in
set_option maxHeartbeats 8000000 in
theorem index_c (st : Nat → Int) (n i : Nat) (hn : n ≤ 12) (hi : i < n) (y : Int) (hy : st i = y) (hne : ∀ j, j < i → st j ≠ y) (b o c : Nat) (w : World) (hv : VecsR w w.heap.size (some ⟨b, o, none⟩) n (stG st)) :
    Calls Tryd.prog 105 #[.slice (some ⟨b, o, none⟩) n c, one6 y] w (Ret (.int .i64 (i : Int)) w) := by
  obtain ⟨b', o', hbo, hb0, hcl⟩ := st_cells hv (by omega)
  obtain ⟨rfl, rfl⟩ : b = b' ∧ o = o' := by
    have := Option.some.inj hbo
    injection this with e1 e2
    exact ⟨e1, e2⟩
  have HCl := Lib.hid hcl
  have HNe := Lib.hid hne
  have HY := Lib.hid hy
  clear hcl hv hne hbo hy
  go_enter Tryd.func105, Tryd.ntmps105
  go_upto_region 1 with fail
  refine wp_letter ?_
  intro W1 hW1
  have HB1 : Hid (Below w.heap.size w W1) := Lib.hid (by rw [hW1]; exact bl_alloc (bl_refl _) _)
  have HY1 : Hid (Blk W1 w.heap.size 72 (arr1 y)) := Lib.hid (by rw [hW1]; exact Blk.new _ _ _)
  clear hW1
  have hz1 : w.heap.size + 1 ≤ W1.heap.size := HY1.out.lt
  go_wp2
  go_loopw [8] (fun kv wr => ∃ k : Nat, k ≤ i ∧ kv = .int .i64 (k : Int) ∧ Hid (Below W1.heap.size W1 wr)) (fun kv _ => n - (intOf kv).toNat)
  case atStart => exact ⟨0, by omega, rfl, Lib.hid (bl_refl _)⟩
  case round =>
    obtain ⟨k, hk, rfl, HB⟩ := hrel
    have hki : (k : Int) < (n : Int) := by omega
    have wk : IntKind.i64.wrap ((k : Int) + 1) = (k : Int) + 1 := by rw [IntKind.wrap_i64]; omega
    obtain ⟨s_0, s_1, s_2, s_3, s_4, s_5, zs⟩ := HCl.out k (by omega) wr (bl_trans HB1.out HB.out)
    have Y1 := HY1.out.below HB.out HY1.out.lt
    have p_0 := Y1.cell 0
    have p_1 := Y1.cell 1
    have p_2 := Y1.cell 2
    have p_3 := Y1.cell 3
    have p_4 := Y1.cell 4
    have p_5 := Y1.cell 5
    have zp := Y1.lt
    simp only [List.getElem?_toArray, List.getElem?_cons_zero, List.getElem?_cons_succ] at p_0 p_1 p_2 p_3 p_4 p_5
    by_cases hlt : k < i
    · have q1 : (y == st k) = false := by rw [beq_eq_false_iff_ne]; exact fun h => HNe.out k hlt h.symm
      go_wp2
      (refine wp_region_bl [0,1,2,3,4,5] [] (by kernel_rfl) (by kernel_rfl) (by rfl) ?_
       simp only [pickI, pick, List.getElem?_cons_succ, List.getElem?_cons_zero]
       iterate 6 (first
         | (refine head_val (by rfl) (by first | exact wanted_free rfl | rfl) ?_
            apply Exists.intro
            refine ⟨fun X hX => ?_, ?_⟩
            · (obtain ⟨qz, qc, qf⟩ := bcl hX.out (by first | (simp; rfl) | rfl)
               go_simp
               first | done | rfl | exact ⟨rfl, rfl⟩)
            simp only [Act.put, List.setIfInBounds_toArray, List.set_cons_zero, List.set_cons_succ])
         | (refine head_pass (by rfl) ?_
            simp only [Act.put, List.setIfInBounds_toArray, List.set_cons_zero, List.set_cons_succ]))
       refine head_nil ?_
       intro w' hw'
       have hb := hw'.out
       clear hw'
       obtain ⟨hz, hc, hf⟩ := bcl hb (by first | (simp; rfl) | rfl))
      have HB3 := Lib.hid (bl_trans HB.out hb)
      clear hb hz hc hf Y1 s_0 s_1 s_2 s_3 s_4 s_5 zs p_0 p_1 p_2 p_3 p_4 p_5 zp HB
      go_wp2
      go_roundw
      case rel => exact ⟨k + 1, by omega, by go_num, HB3⟩
      case measure => simp [intOf]; omega
    · obtain rfl : k = i := by omega
      have q1 : (y == st k) = true := by rw [HY.out]; simp
      go_wp2
      (refine wp_region_bl [0,1,2,3,4,5] [] (by kernel_rfl) (by kernel_rfl) (by rfl) ?_
       simp only [pickI, pick, List.getElem?_cons_succ, List.getElem?_cons_zero]
       iterate 6 (first
         | (refine head_val (by rfl) (by first | exact wanted_free rfl | rfl) ?_
            apply Exists.intro
            refine ⟨fun X hX => ?_, ?_⟩
            · (obtain ⟨qz, qc, qf⟩ := bcl hX.out (by first | (simp; rfl) | rfl)
               go_simp
               first | done | rfl | exact ⟨rfl, rfl⟩)
            simp only [Act.put, List.setIfInBounds_toArray, List.set_cons_zero, List.set_cons_succ])
         | (refine head_pass (by rfl) ?_
            simp only [Act.put, List.setIfInBounds_toArray, List.set_cons_zero, List.set_cons_succ]))
       refine head_nil ?_
       intro w' hw'
       have hb := hw'.out
       clear hw'
       obtain ⟨hz, hc, hf⟩ := bcl hb (by first | (simp; rfl) | rfl))
      have HB3 := Lib.hid (bl_trans HB1.out (bl_trans HB.out hb))
      clear hb hz hc hf Y1 s_0 s_1 s_2 s_3 s_4 s_5 zs p_0 p_1 p_2 p_3 p_4 p_5 zp HB
      go_wp2
      go_ret
      exact ⟨rfl, HB3.out⟩
set_option maxRecDepth 100000 in
set_option maxHeartbeats 8000000 in
theorem degree_c (st : Nat → Int) (n i : Nat) (hs : Rise st n) (hi : i < n) (x : Int) (hx : -576 ≤ x ∧ x ≤ 576) (hy : st i = x % 12) (hne : ∀ j, j < i → st j ≠ x % 12) (b o c : Nat) (w : World) (hP : PR w) (hc : n ≤ c) (hv : VecsR w w.heap.size (some ⟨b, o, none⟩) n (stG st)) :
    Calls Tryd.prog 46 #[.slice (some ⟨b, o, none⟩) n c, one6 x] w (Ret (.tuple #[.int .i64 (i : Int), .int .i64 (x / 12), .int .i64 0]) w) := by
  have HV := Lib.hid (fun X (hX : Below w.heap.size w X) => scValid_c st n hs (some ⟨b, o, none⟩) c X (hP.up hX) hc (hv.up hX))
  have HO := Lib.hid (fun X (hX : Below w.heap.size w X) => octave_c x X (hP.up hX) hx)
  have HI := Lib.hid (fun X (hX : Below w.heap.size w X) => index_c st n i hs.2.1 hi (x % 12) hy hne b o c X (hv.up hX))
  have q1 : decide ((i : Int) < 0) = false := decide_eq_false (by omega)
  clear hs hi hx hy hne hP hc hv
  generalize x % 12 = y at *
  generalize x / 12 = z at *
  go_enter Tryd.func46, Tryd.ntmps46
  go_upto_region 1 with fail
  refine wp_letter ?_
  intro W1 hW1
  have b1 : Below w.heap.size w W1 := by rw [hW1]; exact bl_alloc (bl_refl _) _
  have P1 : Blk W1 w.heap.size 72 (arr1 x) := by rw [hW1]; exact Blk.new _ _ _
  clear hW1
  go_wp2_with fail
  (with_reducible refine (HV.out _ b1).mono ?_)
  rintro e W2 ⟨rfl, hb2⟩
  have b2 := bl_trans b1 hb2
  have P2 := P1.below hb2 P1.lt
  clear hb2 P1 b1
  have p_0 := P2.cell 0
  have p_1 := P2.cell 1
  have p_2 := P2.cell 2
  have p_3 := P2.cell 3
  have p_4 := P2.cell 4
  have p_5 := P2.cell 5
  have zp := P2.lt
  simp only [List.getElem?_toArray, List.getElem?_cons_zero, List.getElem?_cons_succ] at p_0 p_1 p_2 p_3 p_4 p_5
  simp only
  go_wp2_with fail
  (with_reducible refine (HO.out _ b2).mono ?_)
  rintro e W3 ⟨rfl, hb3⟩
  have b3 := bl_trans b2 hb3
  clear hb3 P2 b2 p_0 p_1 p_2 p_3 p_4 p_5 zp
  simp only
  go_upto_region 4 with fail
  refine wp_letter ?_
  intro W4 hW4
  have b4 : Below w.heap.size w W4 := by rw [hW4]; exact bl_alloc b3 _
  have P4 : Blk W4 W3.heap.size 72 (arr1 y) := by rw [hW4]; exact Blk.new _ _ _
  clear hW4 b3
  generalize W3.heap.size = qp at *
  have p_0 := P4.cell 0
  have p_1 := P4.cell 1
  have p_2 := P4.cell 2
  have p_3 := P4.cell 3
  have p_4 := P4.cell 4
  have p_5 := P4.cell 5
  have zp := P4.lt
  simp only [List.getElem?_toArray, List.getElem?_cons_zero, List.getElem?_cons_succ] at p_0 p_1 p_2 p_3 p_4 p_5
  go_wp2_with fail
  (with_reducible refine (HI.out _ b4).mono ?_)
  rintro e W5 ⟨rfl, hb5⟩
  have b5 := bl_trans b4 hb5
  clear hb5 P4 b4 p_0 p_1 p_2 p_3 p_4 p_5 zp
  simp only
  go_wp2
  refine bodyPost_ret (v := .tuple #[.int .i64 (i : Int), .int .i64 z, .int .i64 0]) (by simp only [results, Tryd.results46]; go_simp) rfl ?_
  exact ⟨rfl, b5⟩
end Go.Proofs.YtehifkdfbiebfaaDoor
