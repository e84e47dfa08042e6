/- TopEqual: Tune of a temperament of one row. -/
import Derived.Test.YtehifkdfbiebfaaDoorK44
namespace Go.Proofs.YtehifkdfbiebfaaDoor
open Go Go.RowKit

set_option maxRecDepth 100000 in
set_option maxHeartbeats 8000000 in
theorem ttune_no (g : Nat → Nat → Int) (v : Nat → Int) (hx : g 0 0 ≠ 0) (hno : (rowOk g && vecOk v) = false) (b o c : Nat) (G : Option Addr) (gc : Nat) (w : World) (hv : VecsR w w.heap.size (some ⟨b, o, none⟩) 1 g) :
    Calls Tryd.prog 43 #[mapV b o c, .slice G 1 gc, vagg v] w (Ret (.tuple #[one6 0, .int .i64 1]) w) := by
  have HT := Lib.hid (fun X (hX : Below w.heap.size w X) => tvalid_c g hx b o c X (hv.up hX))
  have HI := Lib.hid (fun X => vInt_c v X)
  clear hx hv
  generalize rowOk g = V at *
  generalize vecOk v = U at *
  have HNo := Lib.hid hno
  clear hno
  go_enter Tryd.func43, Tryd.ntmps43
  go_upto_region 1 with fail
  refine wp_letter ?_
  intro W1 hW1
  have b1 : Below w.heap.size w W1 := by rw [hW1]; exact bl_alloc (bl_alloc (bl_alloc (bl_refl _) _) _) _
  have S1 : Blk W1 w.heap.size (101) #[.slice (some ⟨b, o, none⟩) 1 c] := by rw [hW1]; exact ((Blk.new _ _ _).alloc _).alloc _
  have V1 : Blk W1 (w.heap.size + 1) 27 #[.int .i64 (v 0), .int .i64 (v 1), .int .i64 (v 2), .int .i64 (v 3), .int .i64 (v 4), .int .i64 (v 5)] := by rw [hW1]; exact (blkAt _ _ _ _ (by simp)).alloc _
  have Q1 : Blk W1 (w.heap.size + 1 + 1) 72 (arr1 0) := by rw [hW1]; exact blkAt _ _ _ _ (by simp)
  obtain ⟨pq, hpq⟩ : ∃ pq, pq = w.heap.size + 1 + 1 := ⟨_, rfl⟩
  rw [← hpq] at Q1 ⊢
  have HP := Lib.hid hpq
  have s_0 := S1.cell 0
  have zs := S1.lt
  simp only [List.getElem?_toArray, List.getElem?_cons_zero] at s_0
  have HB1 := Lib.hid b1
  have HS1 := Lib.hid S1
  have HV1 := Lib.hid V1
  have HQ1 := Lib.hid Q1
  have HC1 := Lib.hid (HT.out W1 b1)
  clear hW1 b1 S1 V1 Q1 hpq
  cases V
  · go_wp2_with fail
    (with_reducible refine HC1.out.mono ?_)
    rintro e w2 ⟨rfl, hb2⟩
    have HB2 := Lib.hid (bl_trans HB1.out hb2)
    have HQ2 := Lib.hid (HQ1.out.below hb2 HQ1.out.lt)
    clear hb2 HC1
    clear s_0 zs
    have q_0 := HQ2.out.cell 0
    have q_1 := HQ2.out.cell 1
    have q_2 := HQ2.out.cell 2
    have q_3 := HQ2.out.cell 3
    have q_4 := HQ2.out.cell 4
    have q_5 := HQ2.out.cell 5
    have zq := HQ2.out.lt
    have f_0 := HQ2.out.frozen 0
    have f_1 := HQ2.out.frozen 1
    have f_2 := HQ2.out.frozen 2
    have f_3 := HQ2.out.frozen 3
    have f_4 := HQ2.out.frozen 4
    have f_5 := HQ2.out.frozen 5
    simp only [arr1, List.getElem?_toArray, List.getElem?_cons_zero, List.getElem?_cons_succ] at q_0 q_1 q_2 q_3 q_4 q_5
    simp only
    go_wp2
    refine bodyPost_ret (v := .tuple #[one6 0, .int .i64 1]) (by simp only [results, Tryd.results43]; go_simp) rfl ⟨rfl, ?_⟩
    have hpq := HP.out
    exact bl_set' (by show w.heap.size ≤ pq; omega) (bl_set' (by show w.heap.size ≤ pq; omega) (bl_set' (by show w.heap.size ≤ pq; omega) (bl_set' (by show w.heap.size ≤ pq; omega) (bl_set' (by show w.heap.size ≤ pq; omega) (bl_set' (by show w.heap.size ≤ pq; omega) HB2.out)))))
  cases U
  · go_wp2_with fail
    (with_reducible refine HC1.out.mono ?_)
    rintro e w2 ⟨rfl, hb2⟩
    have HB2 := Lib.hid (bl_trans HB1.out hb2)
    have HS2 := Lib.hid (HS1.out.below hb2 HS1.out.lt)
    have HV2 := Lib.hid (HV1.out.below hb2 HV1.out.lt)
    have HQ2 := Lib.hid (HQ1.out.below hb2 HQ1.out.lt)
    clear hb2 HC1
    clear s_0 zs
    have s_0 := HS2.out.cell 0
    have zs := HS2.out.lt
    simp only [List.getElem?_toArray, List.getElem?_cons_zero] at s_0
    have p_0 := HV2.out.cell 0
    have p_1 := HV2.out.cell 1
    have p_2 := HV2.out.cell 2
    have p_3 := HV2.out.cell 3
    have p_4 := HV2.out.cell 4
    have p_5 := HV2.out.cell 5
    have zp := HV2.out.lt
    simp only [List.getElem?_toArray, List.getElem?_cons_zero, List.getElem?_cons_succ] at p_0 p_1 p_2 p_3 p_4 p_5
    simp only
    go_wp2_with fail
    (with_reducible refine (HI.out _).mono ?_)
    rintro e w3 ⟨rfl, hb3⟩
    have HB3 := Lib.hid (bl_trans HB2.out hb3)
    have HQ3 := Lib.hid (HQ2.out.below hb3 HQ2.out.lt)
    clear hb3
    clear s_0 zs
    clear p_0 p_1 p_2 p_3 p_4 p_5 zp
    have q_0 := HQ3.out.cell 0
    have q_1 := HQ3.out.cell 1
    have q_2 := HQ3.out.cell 2
    have q_3 := HQ3.out.cell 3
    have q_4 := HQ3.out.cell 4
    have q_5 := HQ3.out.cell 5
    have zq := HQ3.out.lt
    have f_0 := HQ3.out.frozen 0
    have f_1 := HQ3.out.frozen 1
    have f_2 := HQ3.out.frozen 2
    have f_3 := HQ3.out.frozen 3
    have f_4 := HQ3.out.frozen 4
    have f_5 := HQ3.out.frozen 5
    simp only [arr1, List.getElem?_toArray, List.getElem?_cons_zero, List.getElem?_cons_succ] at q_0 q_1 q_2 q_3 q_4 q_5
    simp only
    go_wp2
    refine bodyPost_ret (v := .tuple #[one6 0, .int .i64 1]) (by simp only [results, Tryd.results43]; go_simp) rfl ⟨rfl, ?_⟩
    have hpq := HP.out
    exact bl_set' (by show w.heap.size ≤ pq; omega) (bl_set' (by show w.heap.size ≤ pq; omega) (bl_set' (by show w.heap.size ≤ pq; omega) (bl_set' (by show w.heap.size ≤ pq; omega) (bl_set' (by show w.heap.size ≤ pq; omega) (bl_set' (by show w.heap.size ≤ pq; omega) HB3.out)))))
  · exact absurd HNo.out (by decide)
theorem pV_six (a : Int) : (pV a 0 0 0 0 0 576 = true → -576 ≤ a ∧ a ≤ 576) ∧ (-576 ≤ a ∧ a ≤ 576 → pV a 0 0 0 0 0 576 = true) :=
  ⟨fun h => wi_of (pV_of h).1, fun h => by simp [pV, wi, h]⟩
set_option maxRecDepth 100000 in
set_option maxHeartbeats 8000000 in
theorem ttune_g (g : Nat → Nat → Int) (v : Nat → Int) (hx : g 0 0 ≠ 0) (hr : rowOk g = true) (hi : vecOk v = true) (d : Int) (hd : 0 ≤ d ∧ d ≤ 12) (P C : Int)
    (hPC : (-576 ≤ imS (g 0) v 6 * d ∧ imS (g 0) v 6 * d ≤ 576 → P = imS (g 0) v 6 * d ∧ C = 0) ∧ (¬ (-576 ≤ imS (g 0) v 6 * d ∧ imS (g 0) v 6 * d ≤ 576) → P = 0 ∧ C = 3))
    (b o c gb go gc : Nat) (w : World) (hv : VecsR w w.heap.size (some ⟨b, o, none⟩) 1 g) (hgs : VecsR w w.heap.size (some ⟨gb, go, none⟩) 1 (stG (fun _ => d))) :
    Calls Tryd.prog 43 #[mapV b o c, .slice (some ⟨gb, go, none⟩) 1 gc, vagg v] w (Ret (.tuple #[one6 P, .int .i64 C]) w) := by
  have HT := Lib.hid (fun X (hX : Below w.heap.size w X) => tvalid_c g hx b o c X (hv.up hX))
  have HI := Lib.hid (fun X => vInt_c v X)
  have HTu := Lib.hid (fun X (hX : Below w.heap.size w X) => tune_c g v hr hi d hd b o c gb go gc X (hv.up hX) (hgs.up hX))
  have HVd := Lib.hid (fun X => PVld1_c d X (by omega))
  obtain ⟨b', o', hbo, hb0, hcl⟩ := st_cells hgs (by omega)
  obtain ⟨rfl, rfl⟩ : gb = b' ∧ go = o' := by
    have := Option.some.inj hbo
    injection this with e1 e2
    exact ⟨e1, e2⟩
  have hG := hcl 0 (by omega)
  simp only [Nat.zero_mul, Nat.add_zero] at hG
  have HG := Lib.hid hG
  clear hx hv hgs hcl hb0 hG hbo
  rw [hr] at HT
  rw [hi] at HI
  clear hr hi
  generalize imS (g 0) v 6 * d = a at *
  have HVa := Lib.hid (fun X => PVld_c a 0 0 0 0 0 X)
  have hpv := pV_six a
  generalize pV a 0 0 0 0 0 576 = T at *
  have HPC := Lib.hid hPC
  have HPV := Lib.hid hpv
  clear hPC hpv hd
  go_enter Tryd.func43, Tryd.ntmps43
  go_upto_region 1 with fail
  refine wp_letter ?_
  intro W1 hW1
  have b1 : Below w.heap.size w W1 := by rw [hW1]; exact bl_alloc (bl_alloc (bl_alloc (bl_refl _) _) _) _
  have S1 : Blk W1 w.heap.size (101) #[.slice (some ⟨b, o, none⟩) 1 c] := by rw [hW1]; exact ((Blk.new _ _ _).alloc _).alloc _
  have V1 : Blk W1 (w.heap.size + 1) 27 #[.int .i64 (v 0), .int .i64 (v 1), .int .i64 (v 2), .int .i64 (v 3), .int .i64 (v 4), .int .i64 (v 5)] := by rw [hW1]; exact (blkAt _ _ _ _ (by simp)).alloc _
  have Q1 : Blk W1 (w.heap.size + 1 + 1) 72 (arr1 0) := by rw [hW1]; exact blkAt _ _ _ _ (by simp)
  obtain ⟨pq, hpq⟩ : ∃ pq, pq = w.heap.size + 1 + 1 := ⟨_, rfl⟩
  rw [← hpq] at Q1 ⊢
  have HP := Lib.hid hpq
  have s_0 := S1.cell 0
  have zs := S1.lt
  simp only [List.getElem?_toArray, List.getElem?_cons_zero] at s_0
  have HB1 := Lib.hid b1
  have HS1 := Lib.hid S1
  have HV1 := Lib.hid V1
  have HQ1 := Lib.hid Q1
  have HC1 := Lib.hid (HT.out W1 b1)
  clear hW1 b1 S1 V1 Q1 hpq
  go_wp2_with fail
  (with_reducible refine HC1.out.mono ?_)
  rintro e w2 ⟨rfl, hb2⟩
  have HB2 := Lib.hid (bl_trans HB1.out hb2)
  have HS2 := Lib.hid (HS1.out.below hb2 HS1.out.lt)
  have HV2 := Lib.hid (HV1.out.below hb2 HV1.out.lt)
  have HQ2 := Lib.hid (HQ1.out.below hb2 HQ1.out.lt)
  clear hb2 HC1
  clear s_0 zs
  have s_0 := HS2.out.cell 0
  have zs := HS2.out.lt
  simp only [List.getElem?_toArray, List.getElem?_cons_zero] at s_0
  have p_0 := HV2.out.cell 0
  have p_1 := HV2.out.cell 1
  have p_2 := HV2.out.cell 2
  have p_3 := HV2.out.cell 3
  have p_4 := HV2.out.cell 4
  have p_5 := HV2.out.cell 5
  have zp := HV2.out.lt
  simp only [List.getElem?_toArray, List.getElem?_cons_zero, List.getElem?_cons_succ] at p_0 p_1 p_2 p_3 p_4 p_5
  simp only
  go_wp2_with fail
  (with_reducible refine (HI.out _).mono ?_)
  rintro e w3 ⟨rfl, hb3⟩
  have HB3 := Lib.hid (bl_trans HB2.out hb3)
  have HS3 := Lib.hid (HS2.out.below hb3 HS2.out.lt)
  have HV3 := Lib.hid (HV2.out.below hb3 HV2.out.lt)
  have HQ3 := Lib.hid (HQ2.out.below hb3 HQ2.out.lt)
  clear hb3
  clear s_0 zs
  clear p_0 p_1 p_2 p_3 p_4 p_5 zp
  simp only
  go_upto_block 0 with fail
  go_wp2
  refine wp_loop_rounds 2 ?_
  rw [rounds_succ]
  obtain ⟨g_0, g_1, g_2, g_3, g_4, g_5, zg⟩ := HG.out w3 HB3.out
  go_upto_region 6 with fail
  refine wp_letter ?_
  intro W4 hW4
  have hb4 : Below w3.heap.size w3 W4 := by rw [hW4]; exact bl_alloc (bl_refl _) _
  have A4 : Blk W4 w3.heap.size 72 (arr1 d) := by rw [hW4]; exact Blk.new _ _ _
  have HB4 := Lib.hid (bl_trans HB3.out hb4)
  have HS4 := Lib.hid (HS3.out.below hb4 HS3.out.lt)
  have HV4 := Lib.hid (HV3.out.below hb4 HV3.out.lt)
  have HQ4 := Lib.hid (HQ3.out.below hb4 HQ3.out.lt)
  clear hW4 hb4 g_0 g_1 g_2 g_3 g_4 g_5 zg
  have p_0 := A4.cell 0
  have p_1 := A4.cell 1
  have p_2 := A4.cell 2
  have p_3 := A4.cell 3
  have p_4 := A4.cell 4
  have p_5 := A4.cell 5
  have zp := A4.lt
  simp only [arr1, List.getElem?_toArray, List.getElem?_cons_zero, List.getElem?_cons_succ] at p_0 p_1 p_2 p_3 p_4 p_5
  clear A4
  go_wp2_with fail
  (with_reducible refine (HVd.out _).mono ?_)
  rintro e w5 ⟨rfl, hb5⟩
  have HB5 := Lib.hid (bl_trans HB4.out hb5)
  have HS5 := Lib.hid (HS4.out.below hb5 HS4.out.lt)
  have HV5 := Lib.hid (HV4.out.below hb5 HV4.out.lt)
  have HQ5 := Lib.hid (HQ4.out.below hb5 HQ4.out.lt)
  clear hb5
  clear p_0 p_1 p_2 p_3 p_4 p_5 zp
  have s_0 := HS5.out.cell 0
  have zs := HS5.out.lt
  simp only [List.getElem?_toArray, List.getElem?_cons_zero] at s_0
  have p_0 := HV5.out.cell 0
  have p_1 := HV5.out.cell 1
  have p_2 := HV5.out.cell 2
  have p_3 := HV5.out.cell 3
  have p_4 := HV5.out.cell 4
  have p_5 := HV5.out.cell 5
  have zp := HV5.out.lt
  simp only [List.getElem?_toArray, List.getElem?_cons_zero, List.getElem?_cons_succ] at p_0 p_1 p_2 p_3 p_4 p_5
  simp only
  have HC5 := Lib.hid (HTu.out w5 HB5.out)
  go_wp2
  rw [rounds_succ]
  go_wp2_with fail
  (with_reducible refine HC5.out.mono ?_)
  rintro e w6 ⟨rfl, hb6⟩
  have HB6 := Lib.hid (bl_trans HB5.out hb6)
  have HQ6 := Lib.hid (HQ5.out.below hb6 HQ5.out.lt)
  clear hb6 HC5
  clear s_0 zs
  clear p_0 p_1 p_2 p_3 p_4 p_5 zp
  simp only
  go_upto_region 10 with fail
  refine wp_letter ?_
  intro W7 hW7
  have hb7 : Below w6.heap.size w6 W7 := by rw [hW7]; exact bl_alloc (bl_refl _) _
  have A7 : Blk W7 w6.heap.size 72 (arr1 a) := by rw [hW7]; exact Blk.new _ _ _
  have HB7 := Lib.hid (bl_trans HB6.out hb7)
  have HQ7 := Lib.hid (HQ6.out.below hb7 HQ6.out.lt)
  have HA7 := Lib.hid A7
  clear hW7 hb7
  have p_0 := A7.cell 0
  have p_1 := A7.cell 1
  have p_2 := A7.cell 2
  have p_3 := A7.cell 3
  have p_4 := A7.cell 4
  have p_5 := A7.cell 5
  have zp := A7.lt
  simp only [arr1, List.getElem?_toArray, List.getElem?_cons_zero, List.getElem?_cons_succ] at p_0 p_1 p_2 p_3 p_4 p_5
  clear A7
  go_wp2_with fail
  (with_reducible refine (HVa.out _).mono ?_)
  rintro e w8 ⟨rfl, hb8⟩
  have HB8 := Lib.hid (bl_trans HB7.out hb8)
  have HQ8 := Lib.hid (HQ7.out.below hb8 HQ7.out.lt)
  have HA8 := Lib.hid (HA7.out.below hb8 HA7.out.lt)
  clear hb8
  clear p_0 p_1 p_2 p_3 p_4 p_5 zp
  have q_0 := HQ8.out.cell 0
  have q_1 := HQ8.out.cell 1
  have q_2 := HQ8.out.cell 2
  have q_3 := HQ8.out.cell 3
  have q_4 := HQ8.out.cell 4
  have q_5 := HQ8.out.cell 5
  have zq := HQ8.out.lt
  have f_0 := HQ8.out.frozen 0
  have f_1 := HQ8.out.frozen 1
  have f_2 := HQ8.out.frozen 2
  have f_3 := HQ8.out.frozen 3
  have f_4 := HQ8.out.frozen 4
  have f_5 := HQ8.out.frozen 5
  simp only [arr1, List.getElem?_toArray, List.getElem?_cons_zero, List.getElem?_cons_succ] at q_0 q_1 q_2 q_3 q_4 q_5
  simp only
  cases T
  · have hpc := HPC.out.2 (fun h => by have := HPV.out.2 h; simp at this)
    obtain ⟨hP0, hC0⟩ := hpc
    have HP0 := Lib.hid hP0
    have HC0 := Lib.hid hC0
    clear hP0 hC0
    go_wp2
    rw [HP0.out, HC0.out]
    refine bodyPost_ret (v := .tuple #[one6 0, .int .i64 3]) (by simp only [results, Tryd.results43]; go_simp) rfl ⟨rfl, ?_⟩
    have hpq := HP.out
    exact bl_set' (by show w.heap.size ≤ pq; omega) (bl_set' (by show w.heap.size ≤ pq; omega) (bl_set' (by show w.heap.size ≤ pq; omega) (bl_set' (by show w.heap.size ≤ pq; omega) (bl_set' (by show w.heap.size ≤ pq; omega) (bl_set' (by show w.heap.size ≤ pq; omega) HB8.out)))))
  · have hpc := HPC.out.1 (HPV.out.1 rfl)
    obtain ⟨hP0, hC0⟩ := hpc
    have HP0 := Lib.hid hP0
    have HC0 := Lib.hid hC0
    clear hP0 hC0
    have p_0 := HA8.out.cell 0
    have p_1 := HA8.out.cell 1
    have p_2 := HA8.out.cell 2
    have p_3 := HA8.out.cell 3
    have p_4 := HA8.out.cell 4
    have p_5 := HA8.out.cell 5
    have zp := HA8.out.lt
    simp only [arr1, List.getElem?_toArray, List.getElem?_cons_zero, List.getElem?_cons_succ] at p_0 p_1 p_2 p_3 p_4 p_5
    go_wp2
    rw [HP0.out, HC0.out]
    refine bodyPost_ret (v := .tuple #[one6 a, .int .i64 0]) (by simp only [results, Tryd.results43]; go_simp) rfl ⟨rfl, ?_⟩
    have hpq := HP.out
    exact bl_set' (by show w.heap.size ≤ pq; omega) (bl_set' (by show w.heap.size ≤ pq; omega) (bl_set' (by show w.heap.size ≤ pq; omega) (bl_set' (by show w.heap.size ≤ pq; omega) (bl_set' (by show w.heap.size ≤ pq; omega) (bl_set' (by show w.heap.size ≤ pq; omega) HB8.out)))))
end Go.Proofs.YtehifkdfbiebfaaDoor
