/- TopCircle: the walk (gencircle.py prints it). -/
import Derived.Test.YtehifkdfbiebfaaDoorK34
import Derived.Test.YtehifkdfbiebfaaDoorK40
import Derived.Test.YtehifkdfbiebfaaDoorK43
import Derived.Test.YtehifkdfbiebfaaDoorK47
import Derived.Test.YtehifkdfbiebfaaDoorK44
import Derived.Test.YtehifkdfbiebfaaDoorK48
import Derived.Test.YtehifkdfbiebfaaDoorK42
import Derived.Test.YtehifkdfbiebfaaDoorK38
import Derived.Deep.CutRange
namespace Go.Proofs.YtehifkdfbiebfaaDoor
open Go Go.RowKit Go.Shelf

def zr2 (_ : Nat) : List Value := [.int .i64 0, .int .i64 1]
theorem Tryd.infoRat' : (Tryd.prog.info? 25).map (fun i => (i.zero, i.size, i.bytes)) = some (some (.agg #[.int .i64 0, .int .i64 0]), 2, 16) := by kernel_rfl
theorem rds_of_own {w : World} {base L : Nat} {e : TypeId} {v : Value} {fr : Nat → Nat} {lo hi : Nat → Int} (h : w.ownsRow base e 4 v L (rowL (rd4 fr lo hi) L)) : ∃ A c, v = .slice A L c ∧ Rds w w.heap.size A (treeL fr lo hi L) := by
  have h' := h
  rcases h.2 with ⟨rfl, rfl⟩ | ⟨b, cap, cur, rfl, hb, hh, _⟩
  · exact ⟨none, 0, rfl, fun h0 => by rw [treeL_len] at h0; omega⟩
  · refine ⟨_, cap, rfl, fun _ => ⟨b, 0, rfl, (Array.getElem?_eq_some_iff.1 hh).1, fun k hk => ?_⟩⟩
    rw [treeL_len] at hk
    have e := rd_tree (fr := fr) (lo := lo) (hi := hi) (m := L) [] hk
    rw [List.append_nil] at e
    rw [e]
    have hc : ∀ i, i < 4 → w.cell? ⟨b, 0 + k * 4 + i, none⟩ = (rd4 fr lo hi k)[i]? := fun i hi => by
      have := World.ownsRow.cellAt h' (k * 4 + i) (by omega)
      rw [Nat.zero_add, this, rowL_get (c := 4) (fun _ => rfl) hi hk]
    exact ⟨hc 0 (by omega), (hc 1 (by omega)), hc 2 (by omega), hc 3 (by omega)⟩
theorem rats_of_own0 {w : World} {base L : Nat} {e : TypeId} {v : Value} (h : w.ownsRow base e 2 v L (rowL zr2 L)) : ∃ A c, v = .slice A L c ∧ RatsR w w.heap.size A L (fun _ => (0, 1)) := by
  have h' := h
  rcases h.2 with ⟨rfl, rfl⟩ | ⟨b, cap, cur, rfl, hb, hh, _⟩
  · exact ⟨none, 0, rfl, fun h0 => by omega⟩
  · refine ⟨_, cap, rfl, fun _ => ⟨b, 0, rfl, (Array.getElem?_eq_some_iff.1 hh).1, fun k hk => ?_⟩⟩
    have hc : ∀ i, i < 2 → w.cell? ⟨b, 0 + k * 2 + i, none⟩ = (zr2 k)[i]? := fun i hi => by
      have := World.ownsRow.cellAt h' (k * 2 + i) (by omega)
      rw [Nat.zero_add, this, rowL_get (c := 2) (fun _ => rfl) hi hk]
    exact ⟨hc 0 (by omega), hc 1 (by omega)⟩
set_option maxRecDepth 100000 in
set_option maxHeartbeats 32000000 in
theorem circle_walk (xs : List Int) (Af : Option Addr) (capf : Nat) (Av : Option Addr) (L : Nat) (g : Nat → Nat → Int) (capv : Nat) (f1 f2 a b v0 v1 v2 v3 v4 v5 : Int) (w : World) (hxl : xs.length ≤ 9223372036854775807) (hf : IntsR w w.heap.size Af xs)
    (hL9 : L ≤ 140737488355328) (hv : VecsR w w.heap.size Av L g) (hlg : LG w) (hpr : PR w) :
    Calls Tryd.prog 3 #[.slice Af xs.length capf, .slice Av L capv, .agg #[.int .i64 f1, .int .i64 f2], .int .i64 a, .int .i64 b, .agg #[.int .i64 v0, .int .i64 v1, .int .i64 v2, .int .i64 v3, .int .i64 v4, .int .i64 v5]] w (Ret (.bool true) w) := by
  obtain ⟨ir, hri, hr0, hr1, hr2⟩ := info_parts Tryd.infoRat'
  obtain ⟨id_, hdi, hd0, hd1, hd2⟩ := info_parts Tryd.infoRd
  have HF := Lib.hid hf
  have HV := Lib.hid hv
  have HG := Lib.hid hlg
  have HP := Lib.hid hpr
  clear hf hv hlg hpr
  go_enter Tryd.func3, Tryd.ntmps3
  go_wp2_with fail
  refine calls_letter ?_
  intro W1 hW1
  have b1 : Below w.heap.size w W1 := by rw [hW1]; (repeat (first | (with_reducible exact bl_refl _) | (with_reducible refine bl_drew ?_) | (with_reducible refine bl_alloc ?_ _) | (with_reducible refine bl_set' ?_ ?_; · (first | omega | (simp; done) | (simp; omega))) | (with_reducible refine bl_last (by assumption) ?_) | (with_reducible refine bl_drewN ?_ _)))
  have F1 : Blk W1 w.heap.size 25 #[.int .i64 f1, .int .i64 f2] := by rw [hW1]; exact (Blk.new _ _ _).alloc _
  have V1 : Blk W1 (w.heap.size + 1) 27 #[.int .i64 v0, .int .i64 v1, .int .i64 v2, .int .i64 v3, .int .i64 v4, .int .i64 v5] := by rw [hW1]; exact blkAt _ _ _ _ (by simp)
  clear hW1
  (with_reducible refine (headT_c _ (HG.out.up b1)).mono ?_)
  rintro e W2 ⟨rfl, hb2⟩
  have F2 := F1.below hb2 F1.lt
  have V2 := V1.below hb2 V1.lt
  have b2 := bl_trans b1 hb2
  clear F1 V1 b1 hb2
  have HF2 := Lib.hid F2
  have HV2 := Lib.hid V2
  have Hb2 := Lib.hid b2
  clear F2 V2 b2
  have w1 : IntKind.i64.wrap ((L : Int) + 1) = (L : Int) + 1 := by rw [IntKind.wrap_i64]; omega
  by_cases hL12 : ¬ L ≤ 12
  · have hq : (13 : Int) < (L : Int) + 1 := by omega
    go_wp2
    go_ret
    exact ⟨rfl, Hb2.out⟩
  have hL : L ≤ 12 := by omega
  have hq : ¬ (13 : Int) < (L : Int) + 1 := by omega
  clear hL12
  go_wp2_with fail
  (with_reducible refine (list18_c xs g L hL Af Av capf capv _ (HF.out.up Hb2.out) hxl (HV.out.up Hb2.out)).mono ?_)
  rintro e W3 ⟨hb3, ⟨_, rfl⟩ | ⟨hok, A1, c1, A2, c2, rfl, hl3, hv3⟩⟩
  · have b3 := bl_trans Hb2.out hb3
    go_wp2
    go_ret
    exact ⟨rfl, b3⟩
  have hfr := frK_le xs
  generalize frK xs = fr at *
  have HF3 := Lib.hid (HF2.out.below hb3 HF2.out.lt)
  have HW3 := Lib.hid (HV2.out.below hb3 HV2.out.lt)
  have HOk := Lib.hid hok
  have HFr := Lib.hid hfr
  have HL3 := Lib.hid hl3
  have HV3 := Lib.hid hv3
  have Hb3 := Lib.hid (bl_trans Hb2.out hb3)
  have HVs := Lib.hid ((HV.out.up Hb2.out).up hb3)
  have HG3 := Lib.hid (HG.out.up Hb3.out)
  have HP3 := Lib.hid (HP.out.up Hb3.out)
  have hlen : (btL fr g L).length = L := by simp [btL]
  have hsz3 : w.heap.size + 1 < W3.heap.size := HW3.out.lt
  clear hb3 hok hfr hl3 hv3 HF2 HV2 Hb2 HF HV HG HP
  simp only
  go_upto_region 10 with fail
  refine wp_letter ?_
  intro W4 hW4
  have b4 : Below W3.heap.size W3 W4 := by rw [hW4]; (repeat (first | (with_reducible exact bl_refl _) | (with_reducible refine bl_drew ?_) | (with_reducible refine bl_alloc ?_ _) | (with_reducible refine bl_set' ?_ ?_; · (first | omega | (simp; done) | (simp; omega))) | (with_reducible refine bl_last (by assumption) ?_) | (with_reducible refine bl_drewN ?_ _)))
  have o4 : W4.ownsRow W3.heap.size 25 2 (.slice (some ⟨W3.heap.size, 0, none⟩) 0 0) 0 (rowL zr2 0) := by rw [hW4]; exact (World.ownsRow_lit W3 #[] 0 (Nat.le_refl _) (by unfold maxLen; omega) rfl).alloc _
  have r4 : W4.ownsRow W3.heap.size 41 4 (.slice (some ⟨W3.heap.size + 1, 0, none⟩) 0 0) 0 (rowL (rd4 fr (loF g L) (hiF g L)) 0) := by
    rw [hW4]
    have := World.ownsRow_lit (base := W3.heap.size) (e := 41) (size := 4) (W3.alloc (.cells #[] 25)) #[] 0 (by simp) (by unfold maxLen; omega) rfl
    rw [World.size_alloc] at this
    exact this
  have HO4 := Lib.hid o4
  have HR4 := Lib.hid r4
  have Hb4 := Lib.hid b4
  clear hW4 o4 r4 b4
  go_wp2
  go_loopw [18, 19, 20] (fun ov rv kv wr => ∃ k : Nat, k ≤ L ∧ kv = .int .i64 (k : Int) ∧ Hid (wr.ownsRow W3.heap.size 25 2 ov k (rowL zr2 k)) ∧ Hid (wr.ownsRow W3.heap.size 41 4 rv k (rowL (rd4 fr (loF g L) (hiF g L)) k)) ∧ Hid (∀ b, ov.ownBlock = some b → rv.ownBlock ≠ some b) ∧ Hid (Below W3.heap.size W3 wr)) (fun _ _ kv _ => L - (intOf kv).toNat)
  case atStart => exact ⟨0, Nat.zero_le _, rfl, HO4, HR4, Lib.hid (fun b h e => by simp [Value.ownBlock] at h e; omega), Hb4⟩
  case round =>
    obtain ⟨k, hk, rfl, HO, HR, HNe, HB⟩ := hrel
    by_cases hlt : k < L
    · as_aux_lemma =>
      have hki : (k : Int) < (L : Int) := by omega
      have w2 : IntKind.i64.wrap ((k : Int) + 1) = (k : Int) + 1 := by rw [IntKind.wrap_i64]; omega
      obtain ⟨bv, ov, rfl, hbv, hcv⟩ := HVs.out (by omega)
      obtain ⟨bl, ol, rfl, hbl, hcl⟩ := HL3.out (by omega)
      have hck := hcv k hlt
      have g0 := (HB.out.cell (p := ⟨bv, ov + k * 6 + 0, none⟩) hbv).trans (hck 0 (by omega))
      have g1 := (HB.out.cell (p := ⟨bv, ov + k * 6 + 1, none⟩) hbv).trans (hck 1 (by omega))
      have g2 := (HB.out.cell (p := ⟨bv, ov + k * 6 + 2, none⟩) hbv).trans (hck 2 (by omega))
      have g3 := (HB.out.cell (p := ⟨bv, ov + k * 6 + 3, none⟩) hbv).trans (hck 3 (by omega))
      have g4 := (HB.out.cell (p := ⟨bv, ov + k * 6 + 4, none⟩) hbv).trans (hck 4 (by omega))
      have g5 := (HB.out.cell (p := ⟨bv, ov + k * 6 + 5, none⟩) hbv).trans (hck 5 (by omega))
      have hbk : (btL fr g L)[k]? = some (btK fr g k) := by
        unfold btL
        rw [List.getElem?_map, List.getElem?_range hlt]
        rfl
      obtain ⟨l0, l1, _⟩ := hcl k _ hbk
      have m0 := (HB.out.cell (p := ⟨bl, ol + k * 7, none⟩) hbl).trans l0
      have m1 := (HB.out.cell (p := ⟨bl, ol + k * 7 + 1, none⟩) hbl).trans l1
      have m0' : wr.cell? ⟨bl, ol + k * 7, none⟩ = some (.int .i64 (fr k : Int)) := m0
      have m1' : wr.cell? ⟨bl, ol + k * 7 + 1, none⟩ = some (.int .i64 ((k : Int) + 1)) := m1
      have zv : bv < wr.heap.size := by have := HB.out.size; omega
      have zl : bl < wr.heap.size := by have := HB.out.size; omega
      have hpv : pV (g k 0) (g k 1) (g k 2) (g k 3) (g k 4) (g k 5) 48 = true := by
        have := HOk.out k hlt
        unfold okS paO at this
        simp only [Bool.and_eq_true] at this
        exact this.1.1
      have hSz := size18_c (g k 0) (g k 1) (g k 2) (g k 3) (g k 4) (g k 5) wr (HG3.out.up HB.out) hpv
      rw [lS_eq, hS_eq] at hSz
      have HSz := Lib.hid hSz
      have hlo : loF g L k = lS (g k) := by unfold loF; rw [if_pos hlt]
      have hhi : hiF g L k = hS (g k) := by unfold hiF; rw [if_pos hlt]
      have HLo := Lib.hid hlo
      have HHi := Lib.hid hhi
      clear hcv hcl hck hbk m0 m1 hpv hSz hlo hhi
      generalize lS (g k) = sl at *
      generalize hS (g k) = sh at *
      simp only [Nat.add_zero] at g0
      go_upto_region 16 with (go_at_call 9; ((with_reducible refine (HSz.out).mono ?_); rintro e w' ⟨rfl, hb⟩; obtain ⟨hz, hc, hf⟩ := bcl hb (by first | (simp; rfl) | rfl)))
      refine wp_letter ?_
      intro W5 hW5
      have b5 : Below wr.heap.size wr W5 := by rw [hW5]; exact bl_alloc hb _
      have s5 : Blk W5 w'.heap.size 35 #[.int .i64 sl, .int .i64 sh] := by rw [hW5]; exact Blk.new _ _ _
      have hw5 := hb.size
      have HO5 := Lib.hid (own_below HO.out b5)
      have HR5 := Lib.hid (own_below HR.out b5)
      have HS5 := Lib.hid s5
      have HB5 := Lib.hid (bl_trans HB.out b5)
      have HLt := Lib.hid (fun b h => HO.out.lt b h)
      have HLr := Lib.hid (fun b h => HR.out.lt b h)
      have n0 := (b5.cell (p := ⟨bl, ol + k * 7, none⟩) zl).trans m0'
      have n1 := (b5.cell (p := ⟨bl, ol + k * 7 + 1, none⟩) zl).trans m1'
      have HN : Hid (∀ X, Below W3.heap.size W3 X → X.cell? ⟨bl, ol + k * 7, none⟩ = some (.int .i64 (fr k : Int)) ∧ X.cell? ⟨bl, ol + k * 7 + 1, none⟩ = some (.int .i64 ((k : Int) + 1)) ∧ bl < X.heap.size) := Lib.hid (fun X hX => ⟨(hX.cell (p := ⟨bl, ol + k * 7, none⟩) hbl).trans l0, (hX.cell (p := ⟨bl, ol + k * 7 + 1, none⟩) hbl).trans l1, by have := hX.size; omega⟩)
      have z5 : bl < W5.heap.size := by have := b5.size; omega
      have y5 := b5.size
      have hB3 := HB5.out.size
      clear hW5 b5 s5 n0 n1 l0 l1 hbl m0' m1' g0 g1 g2 g3 g4 g5 hb hz hc hf zv zl
      generalize w'.heap.size = sn at *
      go_wp2_with (at_builtin; refine wpList_append_lies _ rfl _ _ 32 rfl W3.heap.size 25 ir (.agg #[.int .i64 0, .int .i64 0]) 2 16 Tryd.underlying32 hri hr0 hr1 hr2 rfl (by decide) _ _ _ rfl (HO5.out.alloc _) ⟨W5.heap.size, 0, none⟩ 1 1 (zr2 k) rfl rfl (World.news_of_block (World.alloc_heap_new W5 _)) (fun u hu => by simp [zr2] at hu; rcases hu with rfl | rfl <;> rfl) (by omega) (by unfold maxLen; omega) (by omega) (by simp; omega) _ rfl ?_; intro n1 c1 w6 hown1 hg1 hl1 hlt1)
      have HO6 := Lib.hid hown1
      have HR6 := Lib.hid (own_kept (HR5.out.alloc _) hg1 (fun b h e => HNe.out b e h))
      have b6 : Below W3.heap.size W3 w6 := (bl_alloc HB5.out _).grown hg1 (by simp; omega) (fun b h => (HLt.out b h).1)
      have s6 : Blk w6 sn 35 #[.int .i64 sl, .int .i64 sh] := blk_grown (HS5.out.alloc _) hg1 (fun e => by have := (HLt.out _ e).2; omega)
      have hsz6 := hg1.size
      simp only [World.size_alloc] at hsz6
      have HL1 := Lib.hid hl1
      have HB6 := Lib.hid b6
      have HG1 := Lib.hid hlt1
      obtain ⟨n0, n1', zb⟩ := HN.out _ b6
      have HS6 := Lib.hid s6
      have p_0 := s6.cell 0
      have p_1 := s6.cell 1
      have zs := s6.lt
      simp only [List.getElem?_toArray, List.getElem?_cons_zero, List.getElem?_cons_succ] at p_0 p_1
      clear hown1 hg1 hl1 hlt1 b6 s6 HS5 HO5 HR5 HB5
      (refine wp_region_ble [0,1,2,3,4,5,6,7,8,9,10,11,12,13,14,15] [0] [16,17,18] (by kernel_rfl) (by kernel_rfl) (by rfl) (by repeat (first | (with_reducible assumption) | (with_reducible refine panic_then ?_) | (with_reducible refine panic_block ?_) | (with_reducible exact panic_body) | exact panic_body | refine panic_then ?_ | refine panic_block ?_)) ?_
       simp only [pickI, pick, List.getElem?_cons_succ, List.getElem?_cons_zero]
       iterate 16 (first
         | (refine head_val (by rfl) (wanted_free rfl) ⟨_, fun X hX => quiet_build (pv := #[(0, .int .i64 (fr k : Int)), (1, .int .i64 ((k : Int) + 1)), (2, .int .i64 sl), (3, .int .i64 sh)]) (by rfl) (by kernel_rfl) (built_rd _ _ _ _), ?_⟩
            simp only [Act.put, List.setIfInBounds_toArray, List.set_cons_zero, List.set_cons_succ])
         | (refine head_val (by rfl) (by first | exact wanted_free rfl | rfl) ?_
            apply Exists.intro
            refine ⟨fun X hX => ?_, ?_⟩
            · (obtain ⟨qz, qc, qf⟩ := bcl hX.out (by first | (simp; rfl) | rfl)
               go_simp
               first | done | rfl | exact ⟨rfl, rfl⟩)
            simp only [Act.put, List.setIfInBounds_toArray, List.set_cons_zero, List.set_cons_succ])
         | (refine head_pure (by rfl) (by first | exact wanted_free rfl | rfl) ?_
            apply Exists.intro
            refine ⟨fun X => ?_, ?_⟩
            · (go_simp
               first | done | rfl)
            simp only [Act.put, List.setIfInBounds_toArray, List.set_cons_zero, List.set_cons_succ])
         | (refine head_pass (by rfl) ?_
            simp only [Act.put, List.setIfInBounds_toArray, List.set_cons_zero, List.set_cons_succ]))
       refine head_nil ?_
       intro w' hw'
       have hb := hw'.out
       clear hw'
       obtain ⟨hz, hc, hf⟩ := bcl hb (by first | (simp; rfl) | rfl))
      have HO7 := Lib.hid (own_below HO6.out hb)
      have HR7 := Lib.hid (own_below HR6.out hb)
      have HB7 := Lib.hid (bl_trans HB6.out hb)
      have hsz7 := hb.size
      have hB7 := HB7.out.size
      clear hb hz hc hf n0 n1' zb p_0 p_1 zs HO6 HR6 HB6
      go_wp2_with (at_builtin; refine wpList_append_lies _ rfl _ _ 33 rfl W3.heap.size 41 id_ (.agg #[.int .i64 0, .int .i64 0, .int .i64 0, .int .i64 0]) 4 32 Tryd.underlying33 hdi hd0 hd1 hd2 rfl (by decide) _ _ _ rfl (HR7.out.alloc _) ⟨w'.heap.size, 0, none⟩ 1 1 [.int .i64 (fr k : Int), .int .i64 ((k : Int) + 1), .int .i64 sl, .int .i64 sh] rfl rfl (World.news_of_block (World.alloc_heap_new w' _)) (fun u hu => by simp at hu; rcases hu with rfl | rfl | rfl | rfl <;> rfl) (by omega) (by unfold maxLen; omega) (by omega) (by simp; omega) _ rfl ?_; intro n2 c2 w8 hown2 hg2 hl2 hlt2)
      have hx : u19.ownBlock ≠ some n1 := fun h => by
        rcases HL1.out with h1 | h1
        · exact HNe.out n1 h1 h
        · have := (HLr.out n1 h).2
          simp only [World.size_alloc] at h1
          omega
      have hr4 : rowL (rd4 fr (loF g L) (hiF g L)) (k + 1) = rowL (rd4 fr (loF g L) (hiF g L)) k ++ [.int .i64 (fr k : Int), .int .i64 ((k : Int) + 1), .int .i64 sl, .int .i64 sh] := by
        rw [rowL_succ]
        unfold rd4
        rw [HLo.out, HHi.out]
      have HX := Lib.hid hx
      have HR4' := Lib.hid hr4
      have HQ2 := Lib.hid hown2
      have HG2 := Lib.hid hg2
      have HL2 := Lib.hid hl2
      clear hx hr4 hown2 hg2 hl2 hlt2
      go_roundw
      case rel =>
        refine ⟨k + 1, by omega, by go_num, ?_, ?_, ?_, ?_⟩
        · refine Lib.hid ?_
          rw [rowL_succ]
          exact own_kept (HO7.out.alloc _) HG2.out (fun b h e => HX.out (e.trans h.symm))
        · refine Lib.hid ?_
          rw [HR4'.out]
          exact HQ2.out
        · refine Lib.hid (fun b h e => ?_)
          have h1 : n1 = b := Option.some.inj h
          have h2 : n2 = b := Option.some.inj e
          rcases HL2.out with h3 | h3
          · exact HX.out (h3.trans (by rw [h1, h2]))
          · have h5 := HG1.out
            simp only [World.size_alloc] at h3
            omega
        · exact Lib.hid ((bl_alloc HB7.out _).grown HG2.out (by simp; omega) (fun b h => (HLr.out b h).1))
      case measure => simp [intOf]; omega
    · obtain rfl : L = k := by omega
      obtain ⟨Ao, co, rfl, hro⟩ := rats_of_own0 HO.out
      obtain ⟨Ar, cr, rfl, hrr⟩ := rds_of_own HR.out
      obtain ⟨Wl, rfl⟩ : ∃ x : World, x = wr := ⟨_, rfl⟩
      have hF := HF3.out.below HB.out HF3.out.lt
      have hW := HW3.out.below HB.out HW3.out.lt
      have HWl := Lib.hid hW
      have HRl := Lib.hid hrr
      have HVl := Lib.hid (HV3.out.up HB.out)
      have HGl := Lib.hid (HG3.out.up HB.out)
      have HPl := Lib.hid (HP3.out.up HB.out)
      have Hbl := Lib.hid (bl_trans Hb3.out HB.out)
      have hPl := Play_c ((L : Int) + 1) (btL fr g L) f1 f2 L (fun _ => (0, 1)) A1 Ao c1 co Wl (HL3.out.up HB.out) hro (by rw [hlen]; omega) (by omega)
      rw [hlen] at hPl
      have HPy := Lib.hid hPl
      have hwl : w.heap.size + 1 < Wl.heap.size := hW.lt
      have eL : ((L + 1 : Nat) : Int) = (L : Int) + 1 := by omega
      have hSo := fun W (hb : Below Wl.heap.size Wl W) => Solve_ok (rd_ok HOk.out HFr.out hL) ⟨_, Dt_Feas (lo := loF g L) (hi := hiF g L) HFr.out (fun k => lh_le k) (m := L) (a := 0) (by omega)⟩ Ar cr W (HRl.out.up hb)
      rw [treeL_len, eL] at hSo
      have HSo := Lib.hid hSo
      have cf_0 := hF.cell 0
      have cf_1 := hF.cell 1
      have zcf := hF.lt
      simp only [List.getElem?_toArray, List.getElem?_cons_zero, List.getElem?_cons_succ] at cf_0 cf_1
      clear hF hW hrr hPl hSo hro HO HR HNe HB HF3 HW3 HV3 HG3 HP3 Hb3 HL3 HVs HO4 HR4 Hb4 hri hr0 hr1 hr2
      go_wp2_with fail
      (with_reducible refine HPy.out.mono ?_)
      rintro e W5 ⟨hb5, hcase⟩
      have hu : ∃ (Bf : Option Addr) (Nf cf : Nat) (ek : Int), e = .returned (.tuple #[.slice Bf Nf cf, .int .i64 ek]) ∧ ((ek = 1 ∨ ek = 3) ∨ (ek = 0 ∧ Nf = L + 1 ∧ ∃ p, vld ((L : Int) + 1) (btL fr g L) = true ∧ sdV f1 f2 = true ∧ plO (btL fr g L) (f1, f2) (fun _ => (0, 1)) L = some p ∧ RatsR W5 W5.heap.size Bf (L + 1) p)) := by
        rcases hcase with ⟨_, rfl⟩ | ⟨_, _, rfl⟩ | ⟨hg, p, B, p1, rfl, hB⟩
        · exact ⟨none, 0, 0, 1, rfl, Or.inl (Or.inl rfl)⟩
        · exact ⟨none, 0, 0, 3, rfl, Or.inl (Or.inr rfl)⟩
        · obtain ⟨q1, q2, _, _⟩ := ply_parts hg
          rw [hlen] at p1
          have eN : ((L : Int) + 1).toNat = L + 1 := by omega
          rw [eN] at hB
          rw [eN]
          exact ⟨B, L + 1, _, 0, rfl, Or.inr ⟨rfl, rfl, p, q1, q2, p1, hB⟩⟩
      obtain ⟨Bf, Nf, cf, ek, rfl, hu⟩ := hu
      have HU := Lib.hid hu
      have Hb5 := Lib.hid hb5
      clear hcase hu HPy cf_0 cf_1 zcf hb5
      simp only
      go_wp2_with fail
      (with_reducible refine (HSo.out _ Hb5.out).mono ?_)
      rintro e W6 ⟨hb6, xs6, rfl⟩
      have Hb6 := Lib.hid (bl_trans Hb5.out hb6)
      have HU6 : Hid ((ek = 1 ∨ ek = 3) ∨ (ek = 0 ∧ Nf = L + 1 ∧ ∃ p, vld ((L : Int) + 1) (btL fr g L) = true ∧ sdV f1 f2 = true ∧ plO (btL fr g L) (f1, f2) (fun _ => (0, 1)) L = some p ∧ RatsR W6 W6.heap.size Bf (L + 1) p)) := Lib.hid (by
        rcases HU.out with h | ⟨h1, h2, p, h3, h4, h5, h6⟩
        · exact Or.inl h
        · exact Or.inr ⟨h1, h2, p, h3, h4, h5, h6.up hb6⟩)
      clear hb6 HU Hb5 HSo
      go_upto_region 20 with fail
      go_cut [148] from 53 (fun u W => u = .bool false ∧ W = W6)
      case first =>
       as_aux_lemma =>
        rcases HU6.out with (h | h) | ⟨h, h', _⟩
        · have q1 : (ek != 0) = true := by rw [h]; rfl
          have q2 : (ek != 1) = false := by rw [h]; rfl
          have q3 : (ek == 0) = false := by rw [h]; rfl
          clear h
          go_wp2
          go_meet
          case rel => exact ⟨rfl, rfl⟩
        · have q1 : (ek != 0) = true := by rw [h]; rfl
          have q2 : (ek != 1) = true := by rw [h]; rfl
          have q3 : (ek == 0) = false := by rw [h]; rfl
          have q4 : (ek != 3) = false := by rw [h]; rfl
          clear h
          go_wp2
          go_meet
          case rel => exact ⟨rfl, rfl⟩
        · have q1 : (ek != 0) = false := by rw [h]; rfl
          have q2 : (ek == 0) = true := by rw [h]; rfl
          have q3 : ((Nf : Int) != (L : Int) + 1) = false := by rw [h', eL]; simp
          clear h h'
          go_wp2
          go_meet
          case rel => exact ⟨rfl, rfl⟩
      case rest =>
      obtain ⟨rfl, hw⟩ := hcut
      rw [hw]
      clear hw
      have HBn := Lib.hid (fun (x y : Nat) (hx : x ≤ L) (hy : y ≤ L) W (hb : Below Wl.heap.size Wl W) => cirBound_c HOk.out HFr.out hL hx hy Ar cr W (HRl.out.up hb))
      have HD0 := Lib.hid (fun j (hj : j ≤ L) => D_way0 (g := g) (L := L) HFr.out j hj)
      have HQ6 : Hid (ek = 0 → ∃ p, (∀ j, j ≤ L → ∃ dn dd de : Int, divV (p j).1 (p j).2 (p 0).1 (p 0).2 = .tuple #[.agg #[.int .i64 dn, .int .i64 dd], .int .i64 de] ∧
            (de = 0 → raP dn dd = .tuple #[.agg #[.int .i64 (wayF fr g j 0), .int .i64 (wayF fr g j 1), .int .i64 (wayF fr g j 2), .int .i64 (wayF fr g j 3), .int .i64 (wayF fr g j 4), .int .i64 (wayF fr g j 5)], .int .i64 0])) ∧ Nf = L + 1 ∧ RatsR W6 W6.heap.size Bf (L + 1) p) := Lib.hid (fun h0 => by
        rcases HU6.out with h | ⟨h1, h2, p, h3, h4, h5, h6⟩
        · omega
        · exact ⟨p, fun j hj => cir_quo HFr.out h3 h4 h5 hj, h2, h6⟩)
      clear HU6
      go_wp2
      go_loopw [28] (fun i wr => ∃ j : Nat, j ≤ L + 1 ∧ i = .int .i64 (j : Int) ∧ Hid (Below W6.heap.size W6 wr)) (fun i _ => L + 1 - (intOf i).toNat)
      case atStart => exact ⟨0, Nat.zero_le _, rfl, Lib.hid (bl_refl _)⟩
      case round =>
        obtain ⟨j, hj, rfl, HB⟩ := hrel
        by_cases hlt : j < L + 1
        · as_aux_lemma =>
          have hji : (j : Int) < (L : Int) + 1 := by omega
          have hjL : j ≤ L := by omega
          have wj : IntKind.i64.wrap ((j : Int) + 1) = (j : Int) + 1 := by rw [IntKind.wrap_i64]; omega
          have hB1 := bl_trans Hb6.out HB.out
          have hB0 := HBn.out 0 j (by omega) hjL wr hB1
          rw [show ((0 : Nat) : Int) = 0 from rfl] at hB0
          have hB := Lib.hid hB0
          have hD := HD0.out j hjL
          have hSw := fun W (hb : Below Wl.heap.size Wl W) => size18_c (wayF fr g j 0) (wayF fr g j 1) (wayF fr g j 2) (wayF fr g j 3) (wayF fr g j 4) (wayF fr g j 5) W (HGl.out.up hb) (way_pV HOk.out hjL)
          simp only [lS_eq, hS_eq] at hSw
          have HSw := Lib.hid hSw
          obtain ⟨bw, ow, rfl, hbw, hcw⟩ := HVl.out (by omega)
          have hck := hcw j (by omega)
          have HVw : Hid (∀ X, Below Wl.heap.size Wl X → X.cell? ⟨bw, ow + j * 6, none⟩ = some (.int .i64 (wayF fr g j 0)) ∧ X.cell? ⟨bw, ow + j * 6 + 1, none⟩ = some (.int .i64 (wayF fr g j 1)) ∧ X.cell? ⟨bw, ow + j * 6 + 2, none⟩ = some (.int .i64 (wayF fr g j 2)) ∧ X.cell? ⟨bw, ow + j * 6 + 3, none⟩ = some (.int .i64 (wayF fr g j 3)) ∧ X.cell? ⟨bw, ow + j * 6 + 4, none⟩ = some (.int .i64 (wayF fr g j 4)) ∧ X.cell? ⟨bw, ow + j * 6 + 5, none⟩ = some (.int .i64 (wayF fr g j 5)) ∧ bw < X.heap.size) :=
            Lib.hid (fun X hX => ⟨(hX.cell (p := ⟨bw, ow + j * 6 + 0, none⟩) hbw).trans (hck 0 (by omega)), (hX.cell (p := ⟨bw, ow + j * 6 + 1, none⟩) hbw).trans (hck 1 (by omega)), (hX.cell (p := ⟨bw, ow + j * 6 + 2, none⟩) hbw).trans (hck 2 (by omega)), (hX.cell (p := ⟨bw, ow + j * 6 + 3, none⟩) hbw).trans (hck 3 (by omega)), (hX.cell (p := ⟨bw, ow + j * 6 + 4, none⟩) hbw).trans (hck 4 (by omega)), (hX.cell (p := ⟨bw, ow + j * 6 + 5, none⟩) hbw).trans (hck 5 (by omega)), by have := hX.size; omega⟩)
          have HQj : Hid (ek = 0 → ∃ (bf of : Nat) (p1 p2 p3 p4 dn dd de : Int), Bf = some ⟨bf, of, none⟩ ∧ Nf = L + 1 ∧ divV p1 p2 p3 p4 = .tuple #[.agg #[.int .i64 dn, .int .i64 dd], .int .i64 de] ∧
              (de = 0 → raP dn dd = .tuple #[.agg #[.int .i64 (wayF fr g j 0), .int .i64 (wayF fr g j 1), .int .i64 (wayF fr g j 2), .int .i64 (wayF fr g j 3), .int .i64 (wayF fr g j 4), .int .i64 (wayF fr g j 5)], .int .i64 0]) ∧
              (∀ X, Below W6.heap.size W6 X → X.cell? ⟨bf, of + j * 2, none⟩ = some (.int .i64 p1) ∧ X.cell? ⟨bf, of + j * 2 + 1, none⟩ = some (.int .i64 p2) ∧ X.cell? ⟨bf, of, none⟩ = some (.int .i64 p3) ∧ X.cell? ⟨bf, of + 1, none⟩ = some (.int .i64 p4) ∧ bf < X.heap.size)) := Lib.hid (fun h0 => by
            obtain ⟨p, hp, hN, hR⟩ := HQ6.out h0
            obtain ⟨dn, dd, de, e1, e2⟩ := hp j hjL
            obtain ⟨bf, of, rfl, hbf, hcf⟩ := hR (by omega)
            obtain ⟨x1, x2⟩ := hcf j hlt
            obtain ⟨x3, x4⟩ := hcf 0 (by omega)
            simp only [Nat.zero_mul, Nat.add_zero] at x3 x4
            exact ⟨bf, of, _, _, _, _, dn, dd, de, rfl, hN, e1, e2, fun X hX => ⟨(hX.cell (p := ⟨bf, of + j * 2, none⟩) hbf).trans x1, (hX.cell (p := ⟨bf, of + j * 2 + 1, none⟩) hbf).trans x2, (hX.cell (p := ⟨bf, of, none⟩) hbf).trans x3, (hX.cell (p := ⟨bf, of + 1, none⟩) hbf).trans x4, by have := hX.size; omega⟩⟩)
          clear hB0 hcw hck hSw hbw
          generalize -Dt fr (loF g L) (hiF g L) L j 0 = sl at *
          generalize Dt fr (loF g L) (hiF g L) L 0 j = sh at *
          generalize lS (wayF fr g j) = tl at *
          generalize hS (wayF fr g j) = th at *
          generalize wayF fr g j 0 = y0 at *
          generalize wayF fr g j 1 = y1 at *
          generalize wayF fr g j 2 = y2 at *
          generalize wayF fr g j 3 = y3 at *
          generalize wayF fr g j 4 = y4 at *
          generalize wayF fr g j 5 = y5 at *
          have d1 : decide (tl < sl) = false := decide_eq_false (by omega)
          have d2 : decide (sh < th) = false := decide_eq_false (by omega)
          clear hD
          go_wp2_with fail
          (with_reducible refine hB.out.mono ?_)
          rintro e W7 ⟨rfl, hb7⟩
          have HB7 := Lib.hid (bl_trans HB.out hb7)
          have hB7 := bl_trans hB1 hb7
          obtain ⟨z0, z1, z2, z3, z4, z5, zz⟩ := HVw.out _ hB7
          clear hb7 hB
          simp only
          go_wp2_with fail
          refine calls_letter ?_
          intro W8 hW8
          have hB8 : Below Wl.heap.size Wl W8 := by rw [hW8]; exact bl_alloc hB7 _
          have HB8 : Hid (Below W6.heap.size W6 W8) := Lib.hid (by rw [hW8]; exact bl_alloc HB7.out _)
          have S8 : Blk W8 W7.heap.size 35 #[.int .i64 sl, .int .i64 sh] := by rw [hW8]; exact Blk.new _ _ _
          clear hW8 z0 z1 z2 z3 z4 z5 zz hB7 HB7
          (with_reducible refine (HSw.out _ hB8).mono ?_)
          rintro e W9 ⟨rfl, hb9⟩
          have hB9 := bl_trans hB8 hb9
          have HB9 := Lib.hid (bl_trans HB8.out hb9)
          have S9 := S8.below hb9 S8.lt
          clear hb9 S8 HB8 hB8
          simp only
          generalize W7.heap.size = a29 at *
          go_upto_region 27 with fail
          refine wp_letter ?_
          intro Wa hWa
          have HBa : Hid (Below W6.heap.size W6 Wa) := Lib.hid (by rw [hWa]; exact bl_alloc HB9.out _)
          have Sa : Blk Wa a29 35 #[.int .i64 sl, .int .i64 sh] := by rw [hWa]; exact S9.alloc _
          have Ta : Blk Wa W9.heap.size 35 #[.int .i64 tl, .int .i64 th] := by rw [hWa]; exact Blk.new _ _ _
          have HBl : Hid (Below Wl.heap.size Wl Wa) := Lib.hid (by rw [hWa]; exact bl_alloc hB9 _)
          clear hWa S9 HB9 hB9
          generalize W9.heap.size = a31 at *
          have s_0 := Sa.cell 0
          have s_1 := Sa.cell 1
          have t_0 := Ta.cell 0
          have t_1 := Ta.cell 1
          have zs := Sa.lt
          have zt := Ta.lt
          simp only [List.getElem?_toArray, List.getElem?_cons_zero, List.getElem?_cons_succ] at s_0 s_1 t_0 t_1
          by_cases hek : ek = 0
          · have q1 : (ek != 0) = false := by rw [hek]; rfl
            obtain ⟨bf, of, p1, p2, p3, p4, dn, dd, de, rfl, rfl, e1, e2, hce⟩ := HQj.out hek
            have HDv := Lib.hid (fun W => Div_c p1 p2 p3 p4 W)
            rw [e1] at HDv
            have HE2 := Lib.hid e2
            have HCe := Lib.hid hce
            clear hek e1 e2 hce HQj Sa Ta
            go_upto_region 30 with fail
            clear s_0 s_1 t_0 t_1 zs zt d1 d2
            obtain ⟨z0, z1, z2, z3, zz⟩ := HCe.out _ HBa.out
            go_wp2
            (refine wp_region_alloc [0,1,2,3,4,5,6,7,8,9,10] [10] [12,13] 11 25 #[.int .i64 0, .int .i64 0] _ (by kernel_rfl) (by kernel_rfl) (by kernel_rfl) (by rfl) (by repeat (first | (with_reducible assumption) | (with_reducible refine panic_then ?_) | (with_reducible refine panic_block ?_) | (with_reducible exact panic_body) | exact panic_body | refine panic_then ?_ | refine panic_block ?_)) rfl (fun _ _ => by go_simp) ?_
             simp only [pickI, pick, List.getElem?_cons_succ, List.getElem?_cons_zero]
             iterate 11 (first
               | (refine headZ_val (by rfl) (by first | exact wanted_free rfl | rfl) ?_
                  apply Exists.intro
                  refine ⟨fun X hX => ?_, ?_⟩
                  · (obtain ⟨qz, qc, qf⟩ := bcl hX.out (by first | (simp; rfl) | rfl)
                     go_simp
                     first | done | (go_at_call 13; ((with_reducible refine (HDv.out _).mono ?_); rintro e w2 ⟨rfl, hb2⟩; exact ⟨rfl, hb2⟩)) | rfl | exact ⟨rfl, rfl⟩)
                  simp only [Act.put, List.setIfInBounds_toArray, List.set_cons_zero, List.set_cons_succ])
               | (refine headZ_pure (by rfl) (by first | exact wanted_free rfl | rfl) ?_
                  apply Exists.intro
                  refine ⟨fun X => ?_, ?_⟩
                  · (go_simp
                     first | done | rfl)
                  simp only [Act.put, List.setIfInBounds_toArray, List.set_cons_zero, List.set_cons_succ])
               | (refine headZ_pass (by rfl) ?_
                  simp only [Act.put, List.setIfInBounds_toArray, List.set_cons_zero, List.set_cons_succ]))
             refine headZ_nil ?_
             intro w' Bq hw' hBq hBk
             have hb := hw'.out
             clear hw'
             try simp only [List.setIfInBounds_toArray, List.set_cons_zero, List.set_cons_succ]
             obtain ⟨hz, hc, hf⟩ := bcl hb (by first | (simp; rfl) | rfl))
            have c0 := hBk.cell 0
            have c1 := hBk.cell 1
            have x0 := hBk.frozen 0
            have x1 := hBk.frozen 1
            have vz := hBk.lt
            simp only [List.getElem?_toArray, List.getElem?_cons_zero, List.getElem?_cons_succ] at c0 c1
            have b7 := bl_trans HBa.out hb
            have l7 := bl_trans HBl.out hb
            have g0 : W6.heap.size ≤ Bq := Nat.le_trans HBa.out.size hBq
            have g1 : Wl.heap.size ≤ Bq := Nat.le_trans HBl.out.size hBq
            clear z0 z1 z2 z3 zz hz hc hf hb HBa HBl HDv HCe
            go_upto_region 31 with fail
            refine wp_letter ?_
            intro Wb hWb
            have HBa : Hid (Below W6.heap.size W6 Wb) := Lib.hid (by rw [hWb]; exact bl_set' g0 (bl_set' g0 b7))
            have hBl : Below Wl.heap.size Wl Wb := by rw [hWb]; exact bl_set' g1 (bl_set' g1 l7)
            have Rb : Blk Wb Bq 25 #[.int .i64 dn, .int .i64 dd] := by rw [hWb]; exact (hBk.set_ 0 _).set_ 1 _
            clear hWb b7 l7 c0 c1 x0 x1 vz hBk g0 g1 hBq
            generalize Bq = a33 at *
            by_cases hde : de = 0
            · have q2 : (de != 0) = false := by rw [hde]; rfl
              have hRa := fun W (hp : PR W) => PRatio_c dn dd W hp
              rw [HE2.out hde] at hRa
              have hRa1 := Lib.hid (hRa Wb (HPl.out.up hBl))
              have r_0 := Rb.cell 0
              have r_1 := Rb.cell 1
              have zr := Rb.lt
              simp only [List.getElem?_toArray, List.getElem?_cons_zero, List.getElem?_cons_succ] at r_0 r_1
              clear hde hRa Rb HE2
              go_wp2_with fail
              (with_reducible refine hRa1.out.mono ?_)
              rintro e Wc ⟨rfl, hbc⟩
              have HBc := Lib.hid (bl_trans HBa.out hbc)
              have HLc := Lib.hid (bl_trans hBl hbc)
              clear r_0 r_1 zr hbc hRa1 HBa hBl
              simp only
              go_upto_region 33 with fail
              refine wp_letter ?_
              intro Wd hWd
              have HBd : Hid (Below W6.heap.size W6 Wd) := Lib.hid (by rw [hWd]; exact bl_alloc HBc.out _)
              have hLd : Below Wl.heap.size Wl Wd := by rw [hWd]; exact bl_alloc HLc.out _
              have Vd : Blk Wd Wc.heap.size 27 #[.int .i64 y0, .int .i64 y1, .int .i64 y2, .int .i64 y3, .int .i64 y4, .int .i64 y5] := by rw [hWd]; exact Blk.new _ _ _
              obtain ⟨z0, z1, z2, z3, z4, z5, zz⟩ := HVw.out _ hLd
              have c0 := Vd.cell 0
              have c1 := Vd.cell 1
              have c2 := Vd.cell 2
              have c3 := Vd.cell 3
              have c4 := Vd.cell 4
              have c5 := Vd.cell 5
              have zv := Vd.lt
              simp only [List.getElem?_toArray, List.getElem?_cons_zero, List.getElem?_cons_succ] at c0 c1 c2 c3 c4 c5
              clear hWd Vd HBc HLc hLd
              generalize Wc.heap.size = a35 at *
              (refine wp_region_bl [0,1,2,3,4,5,6,7,8,9] [] (by kernel_rfl) (by kernel_rfl) (by rfl) ?_
               simp only [pickI, pick, List.getElem?_cons_succ, List.getElem?_cons_zero]
               iterate 10 (first
                 | (refine head_val (by rfl) (by first | exact wanted_free rfl | rfl) ?_
                    apply Exists.intro
                    refine ⟨fun X hX => ?_, ?_⟩
                    · (obtain ⟨qz, qc, qf⟩ := bcl hX.out (by first | (simp; rfl) | rfl)
                       go_simp
                       first | done | rfl | exact ⟨rfl, rfl⟩)
                    simp only [Act.put, List.setIfInBounds_toArray, List.set_cons_zero, List.set_cons_succ])
                 | (refine head_pass (by rfl) ?_
                    simp only [Act.put, List.setIfInBounds_toArray, List.set_cons_zero, List.set_cons_succ]))
               refine head_nil ?_
               intro w' hw'
               have hb := hw'.out
               clear hw'
               obtain ⟨hz, hc, hf⟩ := bcl hb (by first | (simp; rfl) | rfl))
              have HBe := Lib.hid (bl_trans HBd.out hb)
              clear z0 z1 z2 z3 z4 z5 zz c0 c1 c2 c3 c4 c5 zv hz hc hf hb HBd
              go_wp2
              go_roundw
              case rel => exact ⟨j + 1, by omega, by go_num, HBe⟩
              case measure => simp [intOf]; omega
            · have q2 : (de != 0) = true := by simpa using hde
              clear hde Rb
              go_wp2
              go_roundw
              case rel => exact ⟨j + 1, by omega, by go_num, HBa⟩
              case measure => simp [intOf]; omega
          · have q1 : (ek != 0) = true := by simpa using hek
            clear hek
            go_wp2
            go_roundw
            case rel => exact ⟨j + 1, by omega, by go_num, HBa⟩
            case measure => simp [intOf]; omega
        · obtain rfl : j = L + 1 := by omega
          have HB7 := Lib.hid (bl_trans Hb6.out HB.out)
          clear HB HQ6 HD0 Hb6
          have HBX := Lib.hid (bl_trans Hbl.out HB7.out)
          have hWw := HWl.out.below HB7.out HWl.out.lt
          obtain ⟨Wd, rfl⟩ : ∃ x : World, x = wr := ⟨_, rfl⟩
          by_cases ha0 : a < 0
          · as_aux_lemma =>
            have q1 : decide (a < 0) = true := decide_eq_true ha0
            clear ha0 hWw
            go_wp2
            go_ret
            exact ⟨rfl, HBX.out⟩
          have q1 : decide (a < 0) = false := decide_eq_false ha0
          by_cases ha1 : (L : Int) + 1 ≤ a
          · as_aux_lemma =>
            have q2 : decide ((L : Int) + 1 ≤ a) = true := decide_eq_true ha1
            clear ha0 ha1 hWw
            go_wp2
            go_ret
            exact ⟨rfl, HBX.out⟩
          have q2 : decide ((L : Int) + 1 ≤ a) = false := decide_eq_false ha1
          by_cases hb0 : b < 0
          · as_aux_lemma =>
            have q3 : decide (b < 0) = true := decide_eq_true hb0
            clear ha0 ha1 hb0 hWw
            go_wp2
            go_ret
            exact ⟨rfl, HBX.out⟩
          have q3 : decide (b < 0) = false := decide_eq_false hb0
          by_cases hb1 : (L : Int) + 1 ≤ b
          · as_aux_lemma =>
            have q4 : decide ((L : Int) + 1 ≤ b) = true := decide_eq_true hb1
            clear ha0 ha1 hb0 hb1 hWw
            go_wp2
            go_ret
            exact ⟨rfl, HBX.out⟩
          have q4 : decide ((L : Int) + 1 ≤ b) = false := decide_eq_false hb1
          by_cases hab : a = b
          · as_aux_lemma =>
            have q5 : (a == b) = true := by rw [hab]; simp
            clear ha0 ha1 hb0 hb1 hWw hab
            go_wp2
            go_ret
            exact ⟨rfl, HBX.out⟩
          have q5 : (a == b) = false := by rw [beq_eq_false_iff_ne]; exact hab
          have hIn := fun W => PInt_c v0 v1 v2 v3 v4 v5 W
          have w_0 := hWw.cell 0
          have w_1 := hWw.cell 1
          have w_2 := hWw.cell 2
          have w_3 := hWw.cell 3
          have w_4 := hWw.cell 4
          have w_5 := hWw.cell 5
          have zw := hWw.lt
          simp only [List.getElem?_toArray, List.getElem?_cons_zero, List.getElem?_cons_succ] at w_0 w_1 w_2 w_3 w_4 w_5
          by_cases hpv : pV v0 v1 v2 v3 v4 v5 48 = true
          case neg =>
            have hpf : pV v0 v1 v2 v3 v4 v5 48 = false := by simpa using hpv
            rw [hpf] at hIn
            have HIn := Lib.hid hIn
            clear ha0 ha1 hb0 hb1 hab hWw hpv hpf hIn
            go_wp2_with (go_at_call 15; ((with_reducible refine (HIn.out _).mono ?_); rintro e w' ⟨rfl, hb⟩; obtain ⟨hz, hc, hf⟩ := bcl hb (by first | (simp; rfl) | rfl)))
            go_ret
            exact ⟨rfl, bl_trans HBX.out (by assumption)⟩
          rw [hpv] at hIn
          have HIn := Lib.hid hIn
          clear hIn hWw
          obtain ⟨A', rfl⟩ : ∃ x : Nat, a = (x : Int) := ⟨a.toNat, by omega⟩
          obtain ⟨B', rfl⟩ : ∃ x : Nat, b = (x : Int) := ⟨b.toNat, by omega⟩
          have haL : A' ≤ L := by omega
          have hbL : B' ≤ L := by omega
          have habn : A' ≠ B' := fun h => hab (by rw [h])
          clear ha0 ha1 hb0 hb1 hab
          go_upto_region 37 with (go_at_call 15; ((with_reducible refine (HIn.out _).mono ?_); rintro e w' ⟨rfl, hb⟩; obtain ⟨hz, hc, hf⟩ := bcl hb (by first | (simp; rfl) | rfl)))
          have HB8 := Lib.hid (bl_trans HB7.out hb)
          clear hb hz hc hf w_0 w_1 w_2 w_3 w_4 w_5 zw q1 q2 q3 q4 q5 HB7 HIn
          have hBd := fun W (hb : Below Wl.heap.size Wl W) => HBn.out A' B' haL hbL W hb
          have hSw := fun W (hb : Below Wl.heap.size Wl W) => size18_c v0 v1 v2 v3 v4 v5 W (HGl.out.up hb) hpv
          have evec : ∃ vv : Nat → Int, v0 = vv 0 ∧ v1 = vv 1 ∧ v2 = vv 2 ∧ v3 = vv 3 ∧ v4 = vv 4 ∧ v5 = vv 5 := ⟨fun i => [v0, v1, v2, v3, v4, v5].getD i 0, rfl, rfl, rfl, rfl, rfl, rfl⟩
          obtain ⟨vv, e0, e1, e2, e3, e4, e5⟩ := evec
          have HEV := Lib.hid (And.intro e0 (And.intro e1 (And.intro e2 (And.intro e3 (And.intro e4 e5)))))
          have eh : szH (ex12 v0 v1 v2 v3 v4 v5) 6 = hS vv := by rw [e0, e1, e2, e3, e4, e5]; rfl
          have el : szL (ex12 v0 v1 v2 v3 v4 v5) 6 = lS vv := by rw [e0, e1, e2, e3, e4, e5]; rfl
          simp only [eh, el] at hSw
          have hvb : ∀ i, i < 6 → -48 ≤ vv i ∧ vv i ≤ 48 := by
            obtain ⟨p1, p2, p3, p4, p5, p6⟩ := pV_of hpv
            have p1 := wi_of p1; have p2 := wi_of p2; have p3 := wi_of p3; have p4 := wi_of p4; have p5 := wi_of p5; have p6 := wi_of p6
            intro i hi
            rcases lt6 hi with rfl | rfl | rfl | rfl | rfl | rfl
            · rw [← e0]; omega
            · rw [← e1]; omega
            · rw [← e2]; omega
            · rw [← e3]; omega
            · rw [← e4]; omega
            · rw [← e5]; omega
          have hsb := S_bd hvb
          have hle := lS_le vv
          have hszt : szV (lS vv) (hS vv) = true := by
            unfold szV
            simp only [Bool.and_eq_true, decide_eq_true_eq]
            omega
          have hszs := D_szV HOk.out HFr.out hL A' B' haL hbL
          have hCm := fun W => SzCmp_c (-Dt fr (loF g L) (hiF g L) L B' A') (Dt fr (loF g L) (hiF g L) L A' B') (lS vv) (hS vv) W hszs hszt
          have HJ := Lib.hid (join_ok (lo := loF g L) (hi := hiF g L) HFr.out (fun k => lh_le k) haL hbL hle)
          have HRk := Lib.hid (rd_ok2 HOk.out HFr.out hL haL hbL habn (by omega) hle (show hS vv ≤ 100000000000000 by omega))
          have HSm := Lib.hid (fun hv => same_in (g := g) (L := L) (v := vv) HFr.out haL hbL hv)
          have hDD := D_sum (g := g) HFr.out A' B' haL hbL
          have HBd := Lib.hid hBd
          have HSw := Lib.hid hSw
          have HCm := Lib.hid hCm
          clear hBd hSw hCm e0 e1 e2 e3 e4 e5 eh el hvb hszt hszs HBn hpv
          generalize hd1 : Dt fr (loF g L) (hiF g L) L B' A' = d1 at *
          generalize hd2 : Dt fr (loF g L) (hiF g L) L A' B' = d2 at *
          generalize hS vv = th at *
          generalize lS vv = tl at *
          clear hd1 hd2
          go_wp2_with fail
          (with_reducible refine (HBd.out _ HB8.out).mono ?_)
          rintro e W9 ⟨rfl, hb9⟩
          have HB9 := Lib.hid (bl_trans HB8.out hb9)
          clear hb9 HB8 HBd
          simp only
          go_upto_region 38 with fail
          refine wp_letter ?_
          intro Wa hWa
          have HBa := Lib.hid (show Below Wl.heap.size Wl Wa by rw [hWa]; exact bl_alloc HB9.out _)
          have Sa : Blk Wa W9.heap.size 35 #[.int .i64 (-d1), .int .i64 d2] := by rw [hWa]; exact Blk.new _ _ _
          clear hWa HB9
          have hWw := HWl.out.below HBa.out HWl.out.lt
          have w_0 := hWw.cell 0
          have w_1 := hWw.cell 1
          have w_2 := hWw.cell 2
          have w_3 := hWw.cell 3
          have w_4 := hWw.cell 4
          have w_5 := hWw.cell 5
          have zw := hWw.lt
          simp only [List.getElem?_toArray, List.getElem?_cons_zero, List.getElem?_cons_succ] at w_0 w_1 w_2 w_3 w_4 w_5
          clear hWw
          go_wp2_with fail
          (with_reducible refine (HSw.out _ HBa.out).mono ?_)
          rintro e Wb ⟨rfl, hbb⟩
          have HBb := Lib.hid (bl_trans HBa.out hbb)
          have Sb := Sa.below hbb Sa.lt
          clear hbb Sa HBa HSw w_0 w_1 w_2 w_3 w_4 w_5 zw
          simp only
          generalize W9.heap.size = a37 at *
          go_upto_region 39 with fail
          rename_i hKz
          refine wp_letter ?_
          intro Wc hWc
          have HBc := Lib.hid (show Below Wl.heap.size Wl Wc by rw [hWc]; exact bl_alloc HBb.out _)
          have Sc : Blk Wc a37 35 #[.int .i64 (-d1), .int .i64 d2] := by rw [hWc]; exact Sb.alloc _
          have Tc : Blk Wc Wb.heap.size 35 #[.int .i64 tl, .int .i64 th] := by rw [hWc]; exact Blk.new _ _ _
          clear hWc Sb HBb
          generalize Wb.heap.size = a39 at *
          have s_0 := Sc.cell 0
          have s_1 := Sc.cell 1
          have t_0 := Tc.cell 0
          have t_1 := Tc.cell 1
          have zs := Sc.lt
          have zt := Tc.lt
          simp only [List.getElem?_toArray, List.getElem?_cons_zero, List.getElem?_cons_succ] at s_0 s_1 t_0 t_1
          have HTc := Lib.hid Tc
          clear Sc Tc
          go_cut [41, 42] from 262 to 267 (fun u v W => u = .int .i64 (szc (-d1) d2 tl th) ∧ v = .int .i64 0 ∧ Hid (Below Wc.heap.size Wc W))
          case first =>
            go_wp2_with (go_at_call 16; ((with_reducible refine (HCm.out _).mono ?_); rintro e w' ⟨rfl, hb⟩; obtain ⟨hz, hc, hf⟩ := bcl hb (by first | (simp; rfl) | rfl)))
            go_meet
            case rel => exact ⟨rfl, rfl, Lib.hid (by assumption)⟩
          case rest =>
          obtain ⟨rfl, rfl, HBw⟩ := hcut
          have HBd := Lib.hid (bl_trans HBc.out HBw.out)
          have Td := HTc.out.below HBw.out HTc.out.lt
          clear s_0 s_1 t_0 t_1 zs zt HBc HTc HCm HBw
          obtain ⟨br, or_, rfl, hbr, hcr⟩ := HRl.out (by rw [treeL_len]; omega)
          have hL0 : 0 < L := by omega
          have hNews : ∀ X, Below Wl.heap.size Wl X → ∀ j u, (rowL (rd4 fr (loF g L) (hiF g L)) L)[j]? = some u → X.cell? ((⟨br, or_, none⟩ : Addr).add j) = some u := fun X hX j u hu => by
            have hjl : j < L * 4 := by
              have := (List.getElem?_eq_some_iff.1 hu).1
              rw [rowL_len (c := 4) (fun _ => rfl)] at this
              exact this
            have hadd : (⟨br, or_, none⟩ : Addr).add j = ⟨br, or_ + j, none⟩ := by
              unfold Addr.add
              split
              · rename_i h; subst h; rfl
              · rfl
            rw [hadd, hX.cell (p := ⟨br, or_ + j, none⟩) hbr]
            have ej : j = j / 4 * 4 + j % 4 := by omega
            have hq : j / 4 < L := by omega
            have e := rd_tree (fr := fr) (lo := loF g L) (hi := hiF g L) (m := L) [] hq
            rw [List.append_nil] at e
            obtain ⟨x0, x1, x2, x3⟩ := hcr (j / 4) (by rw [treeL_len]; exact hq)
            rw [e] at x0 x1 x2 x3
            rw [ej, rowL_get (c := 4) (fun _ => rfl) (Nat.mod_lt _ (by omega)) hq] at hu
            rw [ej]
            rcases (show j % 4 = 0 ∨ j % 4 = 1 ∨ j % 4 = 2 ∨ j % 4 = 3 by omega) with h | h | h | h
            · rw [h] at hu ⊢; rw [← hu]; exact x0
            · rw [h] at hu ⊢; rw [← hu]; exact x1
            · rw [h] at hu ⊢; rw [← hu]; exact x2
            · rw [h] at hu ⊢; rw [← hu]; exact x3
          have hz : szc (-d1) d2 tl th = 0 ↔ (-d1 ≤ th ∧ tl ≤ d2) := by
            unfold szc
            by_cases h1 : d2 < tl
            · rw [if_pos h1]
              constructor
              · intro h; omega
              · rintro ⟨_, h⟩; omega
            · rw [if_neg h1]
              by_cases h2 : th < -d1
              · rw [if_pos h2]
                constructor
                · intro h; omega
                · rintro ⟨h, _⟩; omega
              · rw [if_neg h2]
                exact ⟨fun _ => ⟨by omega, by omega⟩, fun _ => rfl⟩
          have hVx : Blk wc (w.heap.size + 1) 27 #[.int .i64 (vv 0), .int .i64 (vv 1), .int .i64 (vv 2), .int .i64 (vv 3), .int .i64 (vv 4), .int .i64 (vv 5)] := by
            have h := HWl.out.below HBd.out HWl.out.lt
            obtain ⟨e0, e1, e2, e3, e4, e5⟩ := HEV.out
            rw [e0, e1, e2, e3, e4, e5] at h
            exact h
          refine hKz _ _ ?_
          exact circ_r40 fr (loF g L) (hiF g L) L A' B' a39 br or_ _ (w.heap.size + 1) tl th A2 c2 (wayF fr g) vv (szc (-d1) d2 tl th) w _ _ _ _ _ _ _ _ _ _ _ _ _ _ _ _ _ _ _ _ _ _ _ _ _ _ _ _ _ _ _ _ _ _ _ _ _ _ _ _ _ _ _ _ _ _ _ _ _ _ _ _ _ _ _ _ _ _ _ _ _ _ _ _ _ _ _ _ _ _ _ _ _ _ _ _ _ _ _ _ _ _ _ _ _ _ _ _ _ _ _ _ _ _ _ _ _ _ _ _ _ _ _ _ _ _ _ _ _ _ _ _ _ _ _ _ _ _ _ _ _ _ _ _ _ _ _ _ _ _ _ _ _ _ _ _ _ _ _ _ _ _ _ _ _ _ _ _ _ _ _ _ _ _ _ _ _ _ _ _ _ _ _ _ _ _ _ _ _ _ _ _ _ _ _ _ _ _ _ _ _ _ _ _ _ _ _ _ _ _ _ _ _ _ _ _ _ _ _ _ _ _ _ _ _ _ _ _ _ _ _ _ _ _ _ _ _ _ _ _ _ _ _ _ _ _ _ _ _ _ _ _ _ _ _ _ _ _ _ _ _ _ _ _ _ _ _ _ _ _ _ _ _ _ _ _ _ _ _ _ _ _ _ _ _ _ _ _ _ _ _ _ _ _ _ _ _ _ _ _ _ _ _ _ _ _ _ _ _ _ _ _ _ _ _ _ _ _ _ _ _ _ _ _ _ _ _ _ _ _ _ _ _ _ _ _ _ _ _ _ _ _ _ _ _ _ _ _ _ _ _ _ _ _ _ _ _ _ _ _ _ _ _ _ _ _ _ _ _ _ _ _ _ _ _ _ _ _ _ _ _ _ _ _ _ _ _ _ _ _ _ _ _ wc hL hL0 haL hbL Td (fun X hX => hNews X (bl_trans HBd.out hX)) HRk.out (HJ.out.trans hz.symm) (fun c hc => chain_passes HFr.out (fun k => lh_le k) hc) (fun hv => hz.2 (HSm.out hv)) (bl_trans Hbl.out HBd.out) (HVl.out.up HBd.out) (fun j i hj hi => by
            obtain ⟨p1, p2, p3, p4, p5, p6⟩ := pV_of (way_pV HOk.out hj)
            have p1 := wi_of p1; have p2 := wi_of p2; have p3 := wi_of p3; have p4 := wi_of p4; have p5 := wi_of p5; have p6 := wi_of p6
            rcases lt6 hi with rfl | rfl | rfl | rfl | rfl | rfl <;> assumption) hVx
end Go.Proofs.YtehifkdfbiebfaaDoor
