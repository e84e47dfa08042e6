/- TopEqual: the walk. -/
import Derived.Test.YtehifkdfbiebfaaDoorK47
import Derived.Test.YtehifkdfbiebfaaDoorK48
namespace Go.Proofs.YtehifkdfbiebfaaDoor
open Go Go.RowKit

set_option maxRecDepth 100000 in
set_option maxHeartbeats 16000000 in
theorem walk_TopEqual (r v u : Nat → Int) (w : World) (hP : PR w) : Calls Tryd.prog 6 #[vagg r, vagg v, vagg u] w (Ret (.bool true) w) := by
  have HPr := Lib.hid (fun X (hX : Below w.heap.size w X) => hP.up hX)
  have HHd := Lib.hid (fun X (hX : Below w.heap.size w X) => head_c X (hP.up hX))
  clear hP
  go_enter Tryd.func6, Tryd.ntmps6
  go_upto_region 1 with fail
  refine wp_letter ?_
  intro w1 hW1
  have b1 : Below w.heap.size w w1 := by rw [hW1]; exact bl_alloc (bl_alloc (bl_alloc (bl_refl _) _) _) _
  have R1 : Blk w1 w.heap.size 27 #[.int .i64 (r 0), .int .i64 (r 1), .int .i64 (r 2), .int .i64 (r 3), .int .i64 (r 4), .int .i64 (r 5)] := by rw [hW1]; exact ((Blk.new _ _ _).alloc _).alloc _
  have V1 : Blk w1 (w.heap.size + 1) 27 #[.int .i64 (v 0), .int .i64 (v 1), .int .i64 (v 2), .int .i64 (v 3), .int .i64 (v 4), .int .i64 (v 5)] := by rw [hW1]; exact (blkAt _ _ _ _ (by simp)).alloc _
  have U1 : Blk w1 (w.heap.size + 1 + 1) 27 #[.int .i64 (u 0), .int .i64 (u 1), .int .i64 (u 2), .int .i64 (u 3), .int .i64 (u 4), .int .i64 (u 5)] := by rw [hW1]; exact blkAt _ _ _ _ (by simp)
  obtain ⟨pu, hpu⟩ : ∃ p, p = w.heap.size + 1 + 1 := ⟨_, rfl⟩
  rw [← hpu] at U1 ⊢
  obtain ⟨pv, hpv⟩ : ∃ p, p = w.heap.size + 1 := ⟨_, rfl⟩
  rw [← hpv] at V1 ⊢
  obtain ⟨pr, hpr⟩ : ∃ p, p = w.heap.size := ⟨_, rfl⟩
  rw [← hpr] at R1 ⊢
  have HB1 := Lib.hid b1
  have HC1 := Lib.hid (HHd.out w1 b1)
  have HR1 := Lib.hid R1
  have HV1 := Lib.hid V1
  have HU1 := Lib.hid U1
  clear hW1 b1 R1 V1 U1 hpr hpv hpu
  go_wp2_with fail
  (with_reducible refine HC1.out.mono ?_)
  rintro e w2 ⟨rfl, hb2⟩
  have HB2 := Lib.hid (bl_trans HB1.out hb2)
  have HR2 := Lib.hid (HR1.out.below hb2 HR1.out.lt)
  have HV2 := Lib.hid (HV1.out.below hb2 HV1.out.lt)
  have HU2 := Lib.hid (HU1.out.below hb2 HU1.out.lt)
  clear hb2 HC1 HB1 HR1 HV1 HU1 HHd
  simp only
  have s_0 := HR2.out.cell 0
  have s_1 := HR2.out.cell 1
  have s_2 := HR2.out.cell 2
  have s_3 := HR2.out.cell 3
  have s_4 := HR2.out.cell 4
  have s_5 := HR2.out.cell 5
  have zs := HR2.out.lt
  simp only [List.getElem?_toArray, List.getElem?_cons_zero, List.getElem?_cons_succ] at s_0 s_1 s_2 s_3 s_4 s_5
  by_cases h1 : r 0 < 1
  · go_wp2
    go_ret
    exact ⟨rfl, HB2.out⟩
  by_cases h2 : 12 < r 0
  · go_wp2
    go_ret
    exact ⟨rfl, HB2.out⟩
  obtain ⟨n, hn⟩ : ∃ n : Nat, r 0 = (n : Int) := ⟨(r 0).toNat, by omega⟩
  have hn0 : ¬ n = 0 := by omega
  have hn1 : 0 < n := by omega
  rw [hn] at h1 h2 s_0
  have hnb : n ≤ 12 := by omega
  by_cases h3 : ¬ 12 % n = 0
  · have q3 : ((12 : Int) % (n : Int) != 0) = true := by
      have h : ¬ ((12 : Int) % (n : Int)) = 0 := fun h => h3 (by exact_mod_cast h)
      simpa using h
    clear hn
    go_wp2
    go_ret
    exact ⟨rfl, HB2.out⟩
  have h3' : 12 % n = 0 := by omega
  have q3 : ((12 : Int) % (n : Int) != 0) = false := by
    have h : ((12 : Int) % (n : Int)) = 0 := by exact_mod_cast h3'
    rw [h]
    rfl
  obtain ⟨d, hd⟩ : ∃ d : Nat, d * n = 12 := ⟨12 / n, Nat.div_mul_cancel (Nat.dvd_of_mod_eq_zero h3')⟩
  have hq : (12 : Int) / (n : Int) = (d : Int) := by
    have e : (12 : Int) = (d : Int) * (n : Int) := by exact_mod_cast hd.symm
    rw [e, Int.mul_ediv_cancel _ (by omega)]
  have hd12 : d ≤ 12 := (chS_bd hd (show n - 1 < n by omega)).2.1
  have hRow : ∀ W : World, W = ((w2.alloc (.cells #[.int .i64 (n : Int), .int .i64 (r 1), .int .i64 (r 2), .int .i64 (r 3), .int .i64 (r 4), .int .i64 (r 5)] 27)).alloc (.cells #[.slice (some ⟨w2.heap.size, 0, none⟩) 1 1] 101)).alloc (.cells (arr1 (d : Int)) 72) → VecsR W W.heap.size (some ⟨w2.heap.size, 0, none⟩) 1 (fun _ => r) := fun W hW => vecs_blk (t := 27) (by
    rw [hn, hW]
    exact ((Blk.new _ _ _).alloc _).alloc _)
  have HRow := Lib.hid hRow
  have HD := Lib.hid hd
  have hx0 : (fun _ : Nat => r) 0 0 ≠ 0 := by show r 0 ≠ 0; rw [hn]; omega
  have HX0 := Lib.hid hx0
  clear hn h3 h3' hx0 hRow hd
  go_upto_region 7 with fail
  refine wp_letter ?_
  intro w3 hW3
  have hb3 : Below w2.heap.size w2 w3 := by rw [hW3]; exact bl_alloc (bl_alloc (bl_alloc (bl_refl _) _) _) _
  have R3 := HRow.out w3 hW3
  have M3 : Blk w3 (w2.heap.size + 1) (101) #[.slice (some ⟨w2.heap.size, 0, none⟩) 1 1] := by rw [hW3]; exact (blkAt _ _ _ _ (by simp)).alloc _
  have O3 : Blk w3 (w2.heap.size + 1 + 1) 72 (arr1 (d : Int)) := by rw [hW3]; exact blkAt _ _ _ _ (by simp)
  obtain ⟨gb, hgb⟩ : ∃ p, p = w2.heap.size + 1 + 1 := ⟨_, rfl⟩
  rw [← hgb] at O3 ⊢
  obtain ⟨pm, hpm⟩ : ∃ p, p = w2.heap.size + 1 := ⟨_, rfl⟩
  rw [← hpm] at M3 ⊢
  obtain ⟨b, hb⟩ : ∃ p, p = w2.heap.size := ⟨_, rfl⟩
  rw [← hb] at M3 R3
  have HV3 := Lib.hid (HV2.out.below hb3 HV2.out.lt)
  have HU3 := Lib.hid (HU2.out.below hb3 HU2.out.lt)
  have HB3 := Lib.hid (bl_trans HB2.out hb3)
  have HR3 := Lib.hid R3
  have HM3 := Lib.hid M3
  have HO3 := Lib.hid O3
  clear hW3 hb3 R3 M3 O3 hgb hpm hb HB2 HR2 HV2 HU2 HRow s_0 s_1 s_2 s_3 s_4 s_5 zs
  obtain ⟨g, hg⟩ : ∃ g : Nat → Nat → Int, g = fun _ => r := ⟨_, rfl⟩
  rw [← hg] at HR3 HX0
  clear hg
  have HC3 := Lib.hid (chain_c d n HD.out hn1 w3 (HPr.out w3 HB3.out))
  have g_0 := HO3.out.cell 0
  have g_1 := HO3.out.cell 1
  have g_2 := HO3.out.cell 2
  have g_3 := HO3.out.cell 3
  have g_4 := HO3.out.cell 4
  have g_5 := HO3.out.cell 5
  have zg := HO3.out.lt
  simp only [arr1, List.getElem?_toArray, List.getElem?_cons_zero, List.getElem?_cons_succ] at g_0 g_1 g_2 g_3 g_4 g_5
  go_wp2_with fail
  (with_reducible refine HC3.out.mono ?_)
  rintro e w4 ⟨hb4, sb, sc, rfl, hsc, hs4⟩
  have HS4 := Lib.hid hs4
  have HSc := Lib.hid hsc
  have HB4 := Lib.hid (bl_trans HB3.out hb4)
  have HV4 := Lib.hid (HV3.out.below hb4 HV3.out.lt)
  have HU4 := Lib.hid (HU3.out.below hb4 HU3.out.lt)
  have HR4 := Lib.hid (HR3.out.up hb4)
  have HM4 := Lib.hid (HM3.out.below hb4 HM3.out.lt)
  have HO4 := Lib.hid (HO3.out.below hb4 HO3.out.lt)
  clear HB3 HV3 HU3 HR3 HM3 HO3
  clear hb4 hs4 hsc HC3 g_0 g_1 g_2 g_3 g_4 g_5 zg
  simp only
  have HC4 := Lib.hid (steps_c (chS d) n (chS_rise HD.out hn1) d (by omega) (chS_step HD.out hn1) sb 0 sc w4 (HPr.out w4 HB4.out) HSc.out HS4.out)
  go_wp2_with fail
  (with_reducible refine HC4.out.mono ?_)
  rintro e w5 ⟨hb5, tb, tc, rfl, ht5⟩
  have HT5 := Lib.hid ht5
  have HB5 := Lib.hid (bl_trans HB4.out hb5)
  have HV5 := Lib.hid (HV4.out.below hb5 HV4.out.lt)
  have HU5 := Lib.hid (HU4.out.below hb5 HU4.out.lt)
  have HR5 := Lib.hid (HR4.out.up hb5)
  have HM5 := Lib.hid (HM4.out.below hb5 HM4.out.lt)
  have HO5 := Lib.hid (HO4.out.below hb5 HO4.out.lt)
  have HS5 := Lib.hid (HS4.out.up hb5)
  clear HB4 HV4 HU4 HR4 HM4 HO4 HS4
  clear hb5 ht5 HC4
  simp only
  go_upto_block 0 with fail
  go_wp2
  go_loopw [7, 89] (fun uv kv wr => ∃ k : Nat, k ≤ n ∧ uv = .bool true ∧ kv = .int .i64 (k : Int) ∧ Hid (Below w5.heap.size w5 wr)) (fun _ kv _ => n - (intOf kv).toNat)
  case atStart => exact ⟨0, by omega, rfl, rfl, Lib.hid (bl_refl _)⟩
  case round =>
    obtain ⟨k, hk, rfl, rfl, HL⟩ := hrel
    by_cases hlt : k < n
    · have hki : (k : Int) < (n : Int) := by omega
      have wk : IntKind.i64.wrap ((k : Int) + 1) = (k : Int) + 1 := by rw [IntKind.wrap_i64]; omega
      obtain ⟨tb', to', htb, _, hcl⟩ := st_cells HT5.out hn1
      obtain ⟨rfl, rfl⟩ : tb = tb' ∧ 0 = to' := by
        have := Option.some.inj htb
        injection this with e1 e2
        exact ⟨e1, e2⟩
      obtain ⟨s_0, s_1, s_2, s_3, s_4, s_5, zs⟩ := hcl k hlt wr HL.out
      rw [Nat.zero_add] at s_0 s_1 s_2 s_3 s_4 s_5
      clear hcl htb
      go_upto_region 14 with fail
      refine wp_letter ?_
      intro w6 hW6
      have hb6 : Below wr.heap.size wr w6 := by rw [hW6]; exact bl_alloc (bl_refl _) _
      have P6 : Blk w6 wr.heap.size 72 (arr1 (d : Int)) := by rw [hW6]; exact Blk.new _ _ _
      have O6 := HO5.out.below (bl_trans HL.out hb6) HO5.out.lt
      have p_0 := P6.cell 0
      have p_1 := P6.cell 1
      have p_2 := P6.cell 2
      have p_3 := P6.cell 3
      have p_4 := P6.cell 4
      have p_5 := P6.cell 5
      have zp := P6.lt
      simp only [arr1, List.getElem?_toArray, List.getElem?_cons_zero, List.getElem?_cons_succ] at p_0 p_1 p_2 p_3 p_4 p_5
      have g_0 := O6.cell 0
      have g_1 := O6.cell 1
      have g_2 := O6.cell 2
      have g_3 := O6.cell 3
      have g_4 := O6.cell 4
      have g_5 := O6.cell 5
      have zg := O6.lt
      simp only [arr1, List.getElem?_toArray, List.getElem?_cons_zero, List.getElem?_cons_succ] at g_0 g_1 g_2 g_3 g_4 g_5
      have HB6 := Lib.hid (bl_trans HL.out hb6)
      clear hW6 hb6 P6 O6 s_0 s_1 s_2 s_3 s_4 s_5 zs HL
      (refine wp_region_bl [0,1,2,3,4,5,6,7,8] [] (by kernel_rfl) (by kernel_rfl) (by rfl) ?_
       simp only [pickI, pick, List.getElem?_cons_succ, List.getElem?_cons_zero]
       iterate 9 (first
         | (refine head_val (by rfl) (by first | exact wanted_free rfl | rfl) ?_
            apply Exists.intro
            refine ⟨fun X hX => ?_, ?_⟩
            · (obtain ⟨qz, qc, qf⟩ := bcl hX.out (by first | (simp; rfl) | rfl)
               go_simp
               first | done | rfl | exact ⟨rfl, rfl⟩)
            simp only [Act.put, List.setIfInBounds_toArray, List.set_cons_zero, List.set_cons_succ])
         | (refine head_pass (by rfl) ?_
            simp only [Act.put, List.setIfInBounds_toArray, List.set_cons_zero, List.set_cons_succ]))
       refine head_nil ?_
       intro w' hw'
       have hb := hw'.out
       clear hw'
       obtain ⟨hz, hc, hf⟩ := bcl hb (by first | (simp; rfl) | rfl))
      have HB7 := Lib.hid (bl_trans HB6.out hb)
      clear hb hz hc hf HB6 p_0 p_1 p_2 p_3 p_4 p_5 zp g_0 g_1 g_2 g_3 g_4 g_5 zg
      go_wp2
      go_roundw
      case rel => exact ⟨k + 1, by omega, rfl, by go_num, HB7⟩
      case measure => simp [intOf]; omega
    obtain rfl : k = n := by omega
    clear hlt hk
    have HB6 := Lib.hid (bl_trans HB5.out HL.out)
    have HV6 := Lib.hid (HV5.out.below HL.out HV5.out.lt)
    have HU6 := Lib.hid (HU5.out.below HL.out HU5.out.lt)
    have HR6 := Lib.hid (HR5.out.up HL.out)
    have HM6 := Lib.hid (HM5.out.below HL.out HM5.out.lt)
    have HO6 := Lib.hid (HO5.out.below HL.out HO5.out.lt)
    have HS6 := Lib.hid (HS5.out.up HL.out)
    clear HB5 HV5 HU5 HR5 HM5 HO5 HS5 HT5
    have m_0 := HM6.out.cell 0
    have zm := HM6.out.lt
    simp only [List.getElem?_toArray, List.getElem?_cons_zero] at m_0
    have p_0 := HV6.out.cell 0
    have p_1 := HV6.out.cell 1
    have p_2 := HV6.out.cell 2
    have p_3 := HV6.out.cell 3
    have p_4 := HV6.out.cell 4
    have p_5 := HV6.out.cell 5
    have zp := HV6.out.lt
    simp only [List.getElem?_toArray, List.getElem?_cons_zero, List.getElem?_cons_succ] at p_0 p_1 p_2 p_3 p_4 p_5
    by_cases hrv : (rowOk g && vecOk v) = false
    · have HC6 := Lib.hid (timage_no g v HX0.out hrv b 0 1 wr HR6.out)
      go_wp2_with fail
      (with_reducible refine HC6.out.mono ?_)
      rintro e w7 ⟨rfl, hb7⟩
      have HB7 := Lib.hid (bl_trans HB6.out hb7)
      have HV7 := Lib.hid (HV6.out.below hb7 HV6.out.lt)
      have HR7 := Lib.hid (HR6.out.up hb7)
      have HM7 := Lib.hid (HM6.out.below hb7 HM6.out.lt)
      clear hb7 HC6 m_0 zm p_0 p_1 p_2 p_3 p_4 p_5 zp
      simp only
      have HC7 := Lib.hid (ttune_no g v HX0.out hrv b 0 1 (some ⟨gb, 0, none⟩) 1 w7 HR7.out)
      have m_0 := HM7.out.cell 0
      have zm := HM7.out.lt
      simp only [List.getElem?_toArray, List.getElem?_cons_zero] at m_0
      have p_0 := HV7.out.cell 0
      have p_1 := HV7.out.cell 1
      have p_2 := HV7.out.cell 2
      have p_3 := HV7.out.cell 3
      have p_4 := HV7.out.cell 4
      have p_5 := HV7.out.cell 5
      have zp := HV7.out.lt
      simp only [List.getElem?_toArray, List.getElem?_cons_zero, List.getElem?_cons_succ] at p_0 p_1 p_2 p_3 p_4 p_5
      go_wp2_with fail
      (with_reducible refine HC7.out.mono ?_)
      rintro e w8 ⟨rfl, hb8⟩
      have HB8 := Lib.hid (bl_trans HB7.out hb8)
      have HV8 := Lib.hid (HV7.out.below hb8 HV7.out.lt)
      have HR8 := Lib.hid (HR7.out.up hb8)
      have HM8 := Lib.hid (HM7.out.below hb8 HM7.out.lt)
      clear hb8 HC7 m_0 zm p_0 p_1 p_2 p_3 p_4 p_5 zp
      simp only
      go_upto_region 18 with fail
      refine wp_letter ?_
      intro w9 hW9
      have hb9 : Below w8.heap.size w8 w9 := by rw [hW9]; exact bl_alloc (bl_refl _) _
      have HB9 := Lib.hid (bl_trans HB8.out hb9)
      have HV9 := Lib.hid (HV8.out.below hb9 HV8.out.lt)
      have HR9 := Lib.hid (HR8.out.up hb9)
      have HM9 := Lib.hid (HM8.out.below hb9 HM8.out.lt)
      clear hW9 hb9
      have HC9 := tvalid_c g HX0.out b 0 1 w9 HR9.out
      have m_0 := HM9.out.cell 0
      have zm := HM9.out.lt
      simp only [List.getElem?_toArray, List.getElem?_cons_zero] at m_0
      cases hrow : rowOk g
      · rw [hrow] at HC9
        have HCv := Lib.hid HC9
        clear HC9 hrv hrow
        go_wp2_with fail
        (with_reducible refine HCv.out.mono ?_)
        rintro e w10 ⟨rfl, hb10⟩
        have HB10 := Lib.hid (bl_trans HB9.out hb10)
        clear hb10 HCv m_0 zm
        simp only
        go_wp2
        go_ret
        exact ⟨rfl, HB10.out⟩
      · rw [hrow] at HC9 hrv
        have hvv : vecOk v = false := by simpa using hrv
        have hI := fun X => RPInt_c (v 0) (v 1) (v 2) (v 3) (v 4) (v 5) X
        rw [show pV (v 0) (v 1) (v 2) (v 3) (v 4) (v 5) 48 = false from hvv] at hI
        have HI := Lib.hid hI
        have HCv := Lib.hid HC9
        clear HC9 hrv hrow hvv hI
        go_wp2_with fail
        (with_reducible refine HCv.out.mono ?_)
        rintro e w10 ⟨rfl, hb10⟩
        have HB10 := Lib.hid (bl_trans HB9.out hb10)
        have HV10 := Lib.hid (HV9.out.below hb10 HV9.out.lt)
        clear hb10 HCv m_0 zm
        have p_0 := HV10.out.cell 0
        have p_1 := HV10.out.cell 1
        have p_2 := HV10.out.cell 2
        have p_3 := HV10.out.cell 3
        have p_4 := HV10.out.cell 4
        have p_5 := HV10.out.cell 5
        have zp := HV10.out.lt
        simp only [List.getElem?_toArray, List.getElem?_cons_zero, List.getElem?_cons_succ] at p_0 p_1 p_2 p_3 p_4 p_5
        simp only
        go_wp2_with fail
        (with_reducible refine (HI.out _).mono ?_)
        rintro e w11 ⟨rfl, hb11⟩
        have HB11 := Lib.hid (bl_trans HB10.out hb11)
        clear hb11 HI p_0 p_1 p_2 p_3 p_4 p_5 zp
        simp only
        go_wp2
        go_ret
        exact ⟨rfl, HB11.out⟩
    have hrv' : rowOk g = true ∧ vecOk v = true := by simpa using hrv
    obtain ⟨hr, hvv⟩ := hrv'
    have HRw := Lib.hid hr
    have HVv := Lib.hid hvv
    obtain ⟨a, ha⟩ : ∃ a, a = imS (g 0) v 6 := ⟨_, rfl⟩
    have hC6 := timage_c g v HX0.out hr hvv b 0 1 wr HR6.out
    rw [← ha] at hC6
    have HC6 := Lib.hid hC6
    have HA := Lib.hid ha
    have hab := imS_bd (rowOk_bd hr) (vecOk_bd hvv) 6 (by omega)
    rw [← ha] at hab
    clear hC6 hr hvv hrv ha
    go_wp2_with fail
    (with_reducible refine HC6.out.mono ?_)
    rintro e w7 ⟨hb7, x, cc, rfl, hx7, hc7⟩
    have HX7 := Lib.hid (And.intro hx7 hc7)
    have HB7 := Lib.hid (bl_trans HB6.out hb7)
    have HV7 := Lib.hid (HV6.out.below hb7 HV6.out.lt)
    have HU7 := Lib.hid (HU6.out.below hb7 HU6.out.lt)
    have HR7 := Lib.hid (HR6.out.up hb7)
    have HM7 := Lib.hid (HM6.out.below hb7 HM6.out.lt)
    have HO7 := Lib.hid (HO6.out.below hb7 HO6.out.lt)
    have HS7 := Lib.hid (HS6.out.up hb7)
    clear hb7 hx7 hc7 HC6 m_0 zm p_0 p_1 p_2 p_3 p_4 p_5 zp
    simp only
    clear HB6 HV6 HU6 HR6 HM6 HO6 HS6
    have m_0 := HM7.out.cell 0
    have zm := HM7.out.lt
    simp only [List.getElem?_toArray, List.getElem?_cons_zero] at m_0
    have p_0 := HV7.out.cell 0
    have p_1 := HV7.out.cell 1
    have p_2 := HV7.out.cell 2
    have p_3 := HV7.out.cell 3
    have p_4 := HV7.out.cell 4
    have p_5 := HV7.out.cell 5
    have zp := HV7.out.lt
    simp only [List.getElem?_toArray, List.getElem?_cons_zero, List.getElem?_cons_succ] at p_0 p_1 p_2 p_3 p_4 p_5
    by_cases hin : ¬ (-576 ≤ a * (d : Int) ∧ a * (d : Int) ≤ 576)
    · have HC7 := Lib.hid (ttune_g g v HX0.out HRw.out HVv.out d (by omega) 0 3 ⟨fun h => absurd h (by rw [← HA.out]; exact hin), fun _ => ⟨rfl, rfl⟩⟩ b 0 1 gb 0 1 w7 HR7.out (st_blk HO7.out))
      clear hin
      go_wp2_with fail
      (with_reducible refine HC7.out.mono ?_)
      rintro e w8 ⟨rfl, hb8⟩
      have HB8 := Lib.hid (bl_trans HB7.out hb8)
      clear hb8 HC7 m_0 zm p_0 p_1 p_2 p_3 p_4 p_5 zp
      simp only
      go_upto_region 18 with fail
      refine wp_letter ?_
      intro w9 hW9
      have HB9 : Hid (Below w.heap.size w w9) := Lib.hid (by rw [hW9]; exact bl_alloc HB8.out _)
      clear hW9
      go_wp2
      go_ret
      exact ⟨rfl, HB9.out⟩
    have hin' : -576 ≤ a * (d : Int) ∧ a * (d : Int) ≤ 576 := by omega
    have HC7 := Lib.hid (ttune_g g v HX0.out HRw.out HVv.out d (by omega) (a * (d : Int)) 0 ⟨fun _ => ⟨by rw [← HA.out], rfl⟩, fun h => absurd hin' (by rw [← HA.out] at h; exact h)⟩ b 0 1 gb 0 1 w7 HR7.out (st_blk HO7.out))
    obtain ⟨j, hj, hj1, hj2, hj3, hj4, hj5, hj6, hj7⟩ := dg_law HD.out a
    obtain ⟨y, hy⟩ : ∃ y, y = a * (d : Int) := ⟨_, rfl⟩
    rw [← hy] at HC7 hin' hj1 hj2 hj3 hj5
    have HY := Lib.hid hy
    have HIn := Lib.hid hin'
    obtain ⟨z, hz⟩ : ∃ z, z = y / 12 := ⟨_, rfl⟩
    have hDg := fun X (hX : Below w.heap.size w X) hv => degree_c (chS d) k j (chS_rise HD.out hn1) hj y hin' hj1 hj2 sb 0 sc X (HPr.out X hX) HSc.out hv
    rw [← hz] at hDg hj3 hj5
    have HDg := Lib.hid hDg
    have HJ := Lib.hid (And.intro hj hj3)
    have wt : IntKind.i64.wrap (a.tmod (k : Int) + (k : Int)) = a.tmod (k : Int) + (k : Int) := by rw [IntKind.wrap_i64]; omega
    have wj : IntKind.i64.wrap (a - (j : Int)) = a - (j : Int) := by rw [IntKind.wrap_i64]; omega
    have hji : (j : Int) < 12 := by omega
    have wz : IntKind.i64.wrap z = z := by rw [IntKind.wrap_i64]; omega
    clear hin hin' hy hj1 hj2 hj3 hj6 hj7 hz hDg
    go_wp2_with fail
    (with_reducible refine HC7.out.mono ?_)
    rintro e w8 ⟨rfl, hb8⟩
    have HB8 := Lib.hid (bl_trans HB7.out hb8)
    have HV8 := Lib.hid (HV7.out.below hb8 HV7.out.lt)
    have HU8 := Lib.hid (HU7.out.below hb8 HU7.out.lt)
    have HR8 := Lib.hid (HR7.out.up hb8)
    have HM8 := Lib.hid (HM7.out.below hb8 HM7.out.lt)
    have HO8 := Lib.hid (HO7.out.below hb8 HO7.out.lt)
    have HS8 := Lib.hid (HS7.out.up hb8)
    have HX8 := Lib.hid (And.intro (Nat.lt_of_lt_of_le HX7.out.1 (Below.size hb8)) ((Below.cell hb8 (p := ⟨x, 0, none⟩) HX7.out.1).trans HX7.out.2))
    clear HB7 HV7 HU7 HR7 HM7 HO7 HS7 HX7
    clear hb8 HC7 m_0 zm p_0 p_1 p_2 p_3 p_4 p_5 zp
    simp only
    go_upto_region 18 with fail
    refine wp_letter ?_
    intro w9 hW9
    have hb9 : Below w8.heap.size w8 w9 := by rw [hW9]; exact bl_alloc (bl_refl _) _
    have P9 : Blk w9 w8.heap.size 72 (arr1 y) := by rw [hW9]; exact Blk.new _ _ _
    obtain ⟨pp, hpp⟩ : ∃ p, p = w8.heap.size := ⟨_, rfl⟩
    rw [← hpp] at P9 ⊢
    have HP9 := Lib.hid P9
    have HB9 := Lib.hid (bl_trans HB8.out hb9)
    have HV9 := Lib.hid (HV8.out.below hb9 HV8.out.lt)
    have HU9 := Lib.hid (HU8.out.below hb9 HU8.out.lt)
    have HR9 := Lib.hid (HR8.out.up hb9)
    have HM9 := Lib.hid (HM8.out.below hb9 HM8.out.lt)
    have HO9 := Lib.hid (HO8.out.below hb9 HO8.out.lt)
    have HS9 := Lib.hid (HS8.out.up hb9)
    have HX9 := Lib.hid (And.intro (Nat.lt_of_lt_of_le HX8.out.1 (Below.size hb9)) ((Below.cell hb9 (p := ⟨x, 0, none⟩) HX8.out.1).trans HX8.out.2))
    clear HB8 HV8 HU8 HR8 HM8 HO8 HS8 HX8
    clear hW9 hb9 P9 hpp
    obtain ⟨zx, x_0⟩ := HX9.out
    go_upto_region 23 with fail
    clear x_0 zx
    have HC9 := Lib.hid (HDg.out w9 HB9.out HS9.out)
    have p_0 := HP9.out.cell 0
    have p_1 := HP9.out.cell 1
    have p_2 := HP9.out.cell 2
    have p_3 := HP9.out.cell 3
    have p_4 := HP9.out.cell 4
    have p_5 := HP9.out.cell 5
    have zp := HP9.out.lt
    simp only [arr1, List.getElem?_toArray, List.getElem?_cons_zero, List.getElem?_cons_succ] at p_0 p_1 p_2 p_3 p_4 p_5
    go_wp2_with fail
    (with_reducible refine HC9.out.mono ?_)
    rintro e w10 ⟨rfl, hb10⟩
    have HB10 := Lib.hid (bl_trans HB9.out hb10)
    have HV10 := Lib.hid (HV9.out.below hb10 HV9.out.lt)
    have HU10 := Lib.hid (HU9.out.below hb10 HU9.out.lt)
    have HR10 := Lib.hid (HR9.out.up hb10)
    have HM10 := Lib.hid (HM9.out.below hb10 HM9.out.lt)
    have HO10 := Lib.hid (HO9.out.below hb10 HO9.out.lt)
    have HS10 := Lib.hid (HS9.out.up hb10)
    have HX10 := Lib.hid (And.intro (Nat.lt_of_lt_of_le HX9.out.1 (Below.size hb10)) ((Below.cell hb10 (p := ⟨x, 0, none⟩) HX9.out.1).trans HX9.out.2))
    clear HB9 HV9 HU9 HR9 HM9 HO9 HS9 HX9
    clear hb10 HC9 HP9 p_0 p_1 p_2 p_3 p_4 p_5 zp
    obtain ⟨zx, x_0⟩ := HX10.out
    simp only
    go_upto_region 25 with fail
    clear x_0 zx wt wj wz hj4 hj5 HX10
    have m_0 := HM10.out.cell 0
    have zm := HM10.out.lt
    simp only [List.getElem?_toArray, List.getElem?_cons_zero] at m_0
    have p_0 := HU10.out.cell 0
    have p_1 := HU10.out.cell 1
    have p_2 := HU10.out.cell 2
    have p_3 := HU10.out.cell 3
    have p_4 := HU10.out.cell 4
    have p_5 := HU10.out.cell 5
    have zp := HU10.out.lt
    simp only [List.getElem?_toArray, List.getElem?_cons_zero, List.getElem?_cons_succ] at p_0 p_1 p_2 p_3 p_4 p_5
    by_cases huv : vecOk u = false
    · have HC10 := Lib.hid (ttune_no g u HX0.out (by rw [huv]; simp) b 0 1 (some ⟨gb, 0, none⟩) 1 w10 HR10.out)
      go_wp2_with fail
      (with_reducible refine HC10.out.mono ?_)
      rintro e w11 ⟨rfl, hb11⟩
      have HB11 := Lib.hid (bl_trans HB10.out hb11)
      clear hb11 HC10 huv m_0 zm p_0 p_1 p_2 p_3 p_4 p_5 zp
      simp only
      go_upto_region 26 with fail
      refine wp_letter ?_
      intro w12 hW12
      have HB12 : Hid (Below w.heap.size w w12) := Lib.hid (by rw [hW12]; exact bl_alloc HB11.out _)
      clear hW12
      go_wp2
      go_ret
      exact ⟨rfl, HB12.out⟩
    have huv' : vecOk u = true := by simpa using huv
    have HUv := Lib.hid huv'
    obtain ⟨a2, ha2⟩ : ∃ a2, a2 = imS (g 0) u 6 := ⟨_, rfl⟩
    have HA2 := Lib.hid ha2
    have hab2 := imS_bd (rowOk_bd HRw.out) (vecOk_bd huv') 6 (by omega)
    rw [← ha2] at hab2
    clear huv huv' ha2
    by_cases hin : ¬ (-576 ≤ a2 * (d : Int) ∧ a2 * (d : Int) ≤ 576)
    · have HC10 := Lib.hid (ttune_g g u HX0.out HRw.out HUv.out d (by omega) 0 3 ⟨fun h => absurd h (by rw [← HA2.out]; exact hin), fun _ => ⟨rfl, rfl⟩⟩ b 0 1 gb 0 1 w10 HR10.out (st_blk HO10.out))
      clear hin
      go_wp2_with fail
      (with_reducible refine HC10.out.mono ?_)
      rintro e w11 ⟨rfl, hb11⟩
      have HB11 := Lib.hid (bl_trans HB10.out hb11)
      clear hb11 HC10 m_0 zm p_0 p_1 p_2 p_3 p_4 p_5 zp
      simp only
      go_upto_region 26 with fail
      refine wp_letter ?_
      intro w12 hW12
      have HB12 : Hid (Below w.heap.size w w12) := Lib.hid (by rw [hW12]; exact bl_alloc HB11.out _)
      clear hW12
      go_wp2
      go_ret
      exact ⟨rfl, HB12.out⟩
    have hin' : -576 ≤ a2 * (d : Int) ∧ a2 * (d : Int) ≤ 576 := by omega
    have HC10 := Lib.hid (ttune_g g u HX0.out HRw.out HUv.out d (by omega) (a2 * (d : Int)) 0 ⟨fun _ => ⟨by rw [← HA2.out], rfl⟩, fun h => absurd hin' (by rw [← HA2.out] at h; exact h)⟩ b 0 1 gb 0 1 w10 HR10.out (st_blk HO10.out))
    obtain ⟨y2, hy2⟩ : ∃ y, y = a2 * (d : Int) := ⟨_, rfl⟩
    rw [← hy2] at HC10 hin'
    have HY2 := Lib.hid hy2
    have HIn2 := Lib.hid hin'
    clear hin hin' hy2
    go_wp2_with fail
    (with_reducible refine HC10.out.mono ?_)
    rintro e w11 ⟨rfl, hb11⟩
    have HB11 := Lib.hid (bl_trans HB10.out hb11)
    have HV11 := Lib.hid (HV10.out.below hb11 HV10.out.lt)
    have HU11 := Lib.hid (HU10.out.below hb11 HU10.out.lt)
    have HR11 := Lib.hid (HR10.out.up hb11)
    have HM11 := Lib.hid (HM10.out.below hb11 HM10.out.lt)
    have HS11 := Lib.hid (HS10.out.up hb11)
    clear HB10 HV10 HU10 HR10 HM10 HS10 HO10
    clear hb11 HC10 m_0 zm p_0 p_1 p_2 p_3 p_4 p_5 zp
    simp only
    go_upto_region 26 with fail
    refine wp_letter ?_
    intro w12 hW12
    have hb12 : Below w11.heap.size w11 w12 := by rw [hW12]; exact bl_alloc (bl_refl _) _
    have P12 : Blk w12 w11.heap.size 72 (arr1 y2) := by rw [hW12]; exact Blk.new _ _ _
    obtain ⟨pq, hpq⟩ : ∃ p, p = w11.heap.size := ⟨_, rfl⟩
    rw [← hpq] at P12 ⊢
    have HP12 := Lib.hid P12
    have HB12 := Lib.hid (bl_trans HB11.out hb12)
    have HV12 := Lib.hid (HV11.out.below hb12 HV11.out.lt)
    have HU12 := Lib.hid (HU11.out.below hb12 HU11.out.lt)
    have HR12 := Lib.hid (HR11.out.up hb12)
    have HM12 := Lib.hid (HM11.out.below hb12 HM11.out.lt)
    have HS12 := Lib.hid (HS11.out.up hb12)
    clear HB11 HV11 HU11 HR11 HM11 HS11
    clear hW12 hb12 P12 hpq
    go_upto_block 2 with fail
    refine wp_letter ?_
    intro w13 hW13
    have hb13 : Below w12.heap.size w12 w13 := by rw [hW13]; exact bl_alloc (bl_refl _) _
    have Q13 : Blk w13 w12.heap.size 27 (sixA (ofF v u 0)) := by rw [hW13]; exact Blk.new _ _ _
    obtain ⟨po, hpo⟩ : ∃ p, p = w12.heap.size := ⟨_, rfl⟩
    rw [← hpo] at Q13 ⊢
    have HQ13 := Lib.hid Q13
    have HPo := Lib.hid hpo
    have HB13 := Lib.hid hb13
    have HVd := Lib.hid (vecOk_bd HVv.out)
    have HUd := Lib.hid (vecOk_bd HUv.out)
    clear hW13 hb13 Q13 hpo
    go_wp2
    go_loopw [193] (fun kv wq => ∃ m : Nat, m ≤ 6 ∧ kv = .int .i64 (m : Int) ∧ Hid (Below w12.heap.size w12 wq) ∧ Hid (Blk wq po 27 (sixA (ofF v u m)))) (fun kv _ => 6 - (intOf kv).toNat)
    case atStart => exact ⟨0, by omega, rfl, HB13, HQ13⟩
    case round =>
      obtain ⟨m, hm, rfl, HBq, HQ⟩ := hrel
      clear HB13 HQ13
      by_cases hm6 : m < 6
      · have hmi : (m : Int) < 6 := by omega
        have wm : IntKind.i64.wrap ((m : Int) + 1) = (m : Int) + 1 := by rw [IntKind.wrap_i64]; omega
        have hv1 := HVd.out m hm6
        have hu1 := HUd.out m hm6
        have wd : IntKind.i64.wrap (v m - u m) = v m - u m := by rw [IntKind.wrap_i64]; omega
        have Vq := HV12.out.below HBq.out HV12.out.lt
        have Uq := HU12.out.below HBq.out HU12.out.lt
        have v_m := (Vq.cell m).trans (sixA_get v hm6)
        have u_m := (Uq.cell m).trans (sixA_get u hm6)
        have zv := Vq.lt
        have zu := Uq.lt
        have q_m := (HQ.out.cell m).trans (sixA_get _ hm6)
        have zq := HQ.out.lt
        have HS6 := Lib.hid (ofF_set v u hm6)
        have HHm := Lib.hid hm6
        clear hv1 hu1 Vq Uq
        go_wp2
        (refine wp_region_bl [0,1,2,3,4,5,6,7,8] [9] (by kernel_rfl) (by kernel_rfl) (by rfl) ?_
         simp only [pickI, pick, List.getElem?_cons_succ, List.getElem?_cons_zero]
         iterate 9 (first
           | (refine head_val (by rfl) (by first | exact wanted_free rfl | rfl) ?_
              apply Exists.intro
              refine ⟨fun X hX => ?_, ?_⟩
              · (obtain ⟨qz, qc, qf⟩ := bcl hX.out (by first | (simp; rfl) | rfl)
                 go_simp
                 first | done | rfl | exact ⟨rfl, rfl⟩)
              simp only [Act.put, List.setIfInBounds_toArray, List.set_cons_zero, List.set_cons_succ])
           | (refine head_pass (by rfl) ?_
              simp only [Act.put, List.setIfInBounds_toArray, List.set_cons_zero, List.set_cons_succ]))
         refine head_nil ?_
         intro w' hw'
         have hb := hw'.out
         clear hw'
         obtain ⟨hz, hc, hf⟩ := bcl hb (by first | (simp; rfl) | rfl))
        have HBr := Lib.hid (bl_trans HBq.out hb)
        have Qr := HQ.out.below hb HQ.out.lt
        have HQr := Lib.hid Qr
        clear hb hz hc hf v_m u_m zv zu q_m zq HBq HQ
        have q_m := (Qr.cell m).trans (sixA_get _ HHm.out)
        have zq := Qr.lt
        have fq := Qr.frozen m
        clear Qr
        go_wp2
        go_roundw
        case rel =>
          have h5 := HQr.out.set_ m (.int .i64 (v m - u m))
          rw [HS6.out] at h5
          exact ⟨m + 1, by omega, by go_num, Lib.hid (bl_set' (by have := HPo.out; show w12.heap.size ≤ po; omega) HBr.out), Lib.hid h5⟩
        case measure => simp [intOf]; omega
      obtain rfl : m = 6 := by omega
      clear hm hm6
      obtain ⟨f, hf⟩ : ∃ f, f = ofF v u 6 := ⟨_, rfl⟩
      have hsub : imS (g 0) f 6 = a - a2 := by
        rw [HA.out, HA2.out, hf]
        exact imS_sub (g 0) v u _ 6 (fun i hi => ofF_six v u i hi)
      have hQ := HQ.out
      rw [← hf] at hQ
      have HQ14 := Lib.hid hQ
      have HSub := Lib.hid hsub
      have HB14 := Lib.hid (bl_trans HB12.out HBq.out)
      have HR14 := Lib.hid (HR12.out.up HBq.out)
      have HM14 := Lib.hid (HM12.out.below HBq.out HM12.out.lt)
      have HS14 := Lib.hid (HS12.out.up HBq.out)
      have HP14 := Lib.hid (HP12.out.below HBq.out HP12.out.lt)
      clear HB12 HV12 HU12 HR12 HM12 HS12 HP12
      clear hf hsub hQ HQ HBq
      have q_0 := HQ14.out.cell 0
      have q_1 := HQ14.out.cell 1
      have q_2 := HQ14.out.cell 2
      have q_3 := HQ14.out.cell 3
      have q_4 := HQ14.out.cell 4
      have q_5 := HQ14.out.cell 5
      have zq := HQ14.out.lt
      simp only [sixA, List.getElem?_toArray, List.getElem?_cons_zero, List.getElem?_cons_succ] at q_0 q_1 q_2 q_3 q_4 q_5
      have hI := fun X => RPInt_c (f 0) (f 1) (f 2) (f 3) (f 4) (f 5) X
      cases hvo : vecOk f
      · rw [show pV (f 0) (f 1) (f 2) (f 3) (f 4) (f 5) 48 = false from hvo] at hI
        have HI := Lib.hid hI
        clear hI hvo
        go_wp2_with fail
        (with_reducible refine (HI.out _).mono ?_)
        rintro e w15 ⟨rfl, hb15⟩
        have HB15 := Lib.hid (bl_trans HB14.out hb15)
        clear hb15 HI q_0 q_1 q_2 q_3 q_4 q_5 zq
        simp only
        go_wp2
        go_ret
        exact ⟨rfl, HB15.out⟩
      rw [show pV (f 0) (f 1) (f 2) (f 3) (f 4) (f 5) 48 = true from hvo] at hI
      have HI := Lib.hid hI
      have HVo := Lib.hid hvo
      clear hI hvo
      go_wp2_with fail
      (with_reducible refine (HI.out _).mono ?_)
      rintro e w15 ⟨rfl, hb15⟩
      have HB15 := Lib.hid (bl_trans HB14.out hb15)
      have HR15 := Lib.hid (HR14.out.up hb15)
      have HM15 := Lib.hid (HM14.out.below hb15 HM14.out.lt)
      have HS15 := Lib.hid (HS14.out.up hb15)
      have HP15 := Lib.hid (HP14.out.below hb15 HP14.out.lt)
      have HQ15 := Lib.hid (HQ14.out.below hb15 HQ14.out.lt)
      clear HB14 HR14 HM14 HS14 HP14 HQ14
      clear hb15 HI q_0 q_1 q_2 q_3 q_4 q_5 zq
      simp only
      by_cases haa : a2 = a
      · have hyy : y2 = y := by rw [HY2.out, HY.out, haa]
        subst hyy
        have HAA := Lib.hid haa
        have HC15 := Lib.hid (HDg.out w15 HB15.out HS15.out)
        clear haa
        have p_0 := HP15.out.cell 0
        have p_1 := HP15.out.cell 1
        have p_2 := HP15.out.cell 2
        have p_3 := HP15.out.cell 3
        have p_4 := HP15.out.cell 4
        have p_5 := HP15.out.cell 5
        have zp := HP15.out.lt
        simp only [arr1, List.getElem?_toArray, List.getElem?_cons_zero, List.getElem?_cons_succ] at p_0 p_1 p_2 p_3 p_4 p_5
        go_wp2_with fail
        (with_reducible refine HC15.out.mono ?_)
        rintro e w16 ⟨rfl, hb16⟩
        have HB16 := Lib.hid (bl_trans HB15.out hb16)
        have HR16 := Lib.hid (HR15.out.up hb16)
        have HM16 := Lib.hid (HM15.out.below hb16 HM15.out.lt)
        have HQ16 := Lib.hid (HQ15.out.below hb16 HQ15.out.lt)
        clear hb16 HC15 p_0 p_1 p_2 p_3 p_4 p_5 zp
        simp only
        have hT := tempers_c g f HX0.out HRw.out HVo.out b 0 1 w16 HR16.out
        rw [HSub.out, show decide (a - a2 = 0) = true from decide_eq_true (by have := HAA.out; omega)] at hT
        have HC16 := Lib.hid hT
        clear hT
        have m_0 := HM16.out.cell 0
        have zm := HM16.out.lt
        simp only [List.getElem?_toArray, List.getElem?_cons_zero] at m_0
        have q_0 := HQ16.out.cell 0
        have q_1 := HQ16.out.cell 1
        have q_2 := HQ16.out.cell 2
        have q_3 := HQ16.out.cell 3
        have q_4 := HQ16.out.cell 4
        have q_5 := HQ16.out.cell 5
        have zq := HQ16.out.lt
        simp only [sixA, List.getElem?_toArray, List.getElem?_cons_zero, List.getElem?_cons_succ] at q_0 q_1 q_2 q_3 q_4 q_5
        go_wp2_with fail
        (with_reducible refine HC16.out.mono ?_)
        rintro e w17 ⟨rfl, hb17⟩
        have HB17 := Lib.hid (bl_trans HB16.out hb17)
        clear hb17 HC16 m_0 zm q_0 q_1 q_2 q_3 q_4 q_5 zq
        simp only
        go_wp2
        go_ret
        exact ⟨rfl, HB17.out⟩
      · obtain ⟨j2, hj, hj1, hj2, hj3, hj4, hj5, hj6, hj7⟩ := dg_law HD.out a2
        rw [← HY2.out] at hj1 hj2 hj3 hj5
        obtain ⟨z2, hz⟩ : ∃ z, z = y2 / 12 := ⟨_, rfl⟩
        have hDg := degree_c (chS d) k j2 (chS_rise HD.out hn1) hj y2 HIn2.out hj1 hj2 sb 0 sc w15 (HPr.out w15 HB15.out) HSc.out HS15.out
        rw [← hz] at hDg hj3 hj5
        have HC15 := Lib.hid hDg
        have hne : ¬ (j2 = j ∧ z2 = z) := by
          rintro ⟨e1, e2⟩
          apply haa
          rw [hj3, HJ.out.2, e1, e2]
        have HNe := Lib.hid hne
        have HAA := Lib.hid haa
        clear hj hj1 hj2 hj3 hj4 hj5 hj6 hj7 hz hDg hne haa
        have p_0 := HP15.out.cell 0
        have p_1 := HP15.out.cell 1
        have p_2 := HP15.out.cell 2
        have p_3 := HP15.out.cell 3
        have p_4 := HP15.out.cell 4
        have p_5 := HP15.out.cell 5
        have zp := HP15.out.lt
        simp only [arr1, List.getElem?_toArray, List.getElem?_cons_zero, List.getElem?_cons_succ] at p_0 p_1 p_2 p_3 p_4 p_5
        go_wp2_with fail
        (with_reducible refine HC15.out.mono ?_)
        rintro e w16 ⟨rfl, hb16⟩
        have HB16 := Lib.hid (bl_trans HB15.out hb16)
        have HR16 := Lib.hid (HR15.out.up hb16)
        have HM16 := Lib.hid (HM15.out.below hb16 HM15.out.lt)
        have HQ16 := Lib.hid (HQ15.out.below hb16 HQ15.out.lt)
        clear hb16 HC15 p_0 p_1 p_2 p_3 p_4 p_5 zp
        simp only
        have hT := tempers_c g f HX0.out HRw.out HVo.out b 0 1 w16 HR16.out
        rw [HSub.out, show decide (a - a2 = 0) = false from decide_eq_false (by have := HAA.out; omega)] at hT
        have HC16 := Lib.hid hT
        clear hT
        have m_0 := HM16.out.cell 0
        have zm := HM16.out.lt
        simp only [List.getElem?_toArray, List.getElem?_cons_zero] at m_0
        have q_0 := HQ16.out.cell 0
        have q_1 := HQ16.out.cell 1
        have q_2 := HQ16.out.cell 2
        have q_3 := HQ16.out.cell 3
        have q_4 := HQ16.out.cell 4
        have q_5 := HQ16.out.cell 5
        have zq := HQ16.out.lt
        simp only [sixA, List.getElem?_toArray, List.getElem?_cons_zero, List.getElem?_cons_succ] at q_0 q_1 q_2 q_3 q_4 q_5
        go_wp2_with fail
        (with_reducible refine HC16.out.mono ?_)
        rintro e w17 ⟨rfl, hb17⟩
        have HB17 := Lib.hid (bl_trans HB16.out hb17)
        clear hb17 HC16 m_0 zm q_0 q_1 q_2 q_3 q_4 q_5 zq
        simp only
        by_cases e1 : j2 = j
        · have e2 : (z2 == z) = false := by
            rw [beq_eq_false_iff_ne]
            exact fun e => HNe.out ⟨e1, e⟩
          subst e1
          go_wp2
          go_ret
          exact ⟨rfl, HB17.out⟩
        · have e2 : ((j2 : Int) == (j : Int)) = false := by
            rw [beq_eq_false_iff_ne]
            exact fun e => e1 (by omega)
          clear e1
          go_wp2
          go_ret
          exact ⟨rfl, HB17.out⟩
end Go.Proofs.YtehifkdfbiebfaaDoor
