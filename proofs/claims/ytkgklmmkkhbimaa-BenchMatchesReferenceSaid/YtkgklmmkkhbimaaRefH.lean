/- The reference's Play (under way). -/
import Derived.Test.YtkgklmmkkhbimaaRefK
namespace Go.Proofs.Ytkgklmmkkhbimaa
open Go.RowKit

set_option maxRecDepth 100000 in
set_option maxHeartbeats 4000000 in
theorem RPlay_c (n : Int) (l : List Bt) (f1 f2 : Int) (M : Nat) (off : Nat → Int × Int) (A Ao : Option Addr) (cap capo : Nat) (w : World) (hl : Lst w w.heap.size A l) (ho : RatsR w w.heap.size Ao M off) (hlen : l.length ≤ 9223372036854775807) (hcap : l.length ≤ cap) (hM : M ≤ 9223372036854775807) :
    Calls Try.prog 18 #[.int .i64 n, .slice A l.length cap, .agg #[.int .i64 f1, .int .i64 f2], .slice Ao M capo] w (PlyP n l f1 f2 M off w) := by
  have HV := Lib.hid (fun w h => RefValid_c n l A cap w h hlen hcap)
  have HL := Lib.hid hl
  have HO := Lib.hid ho
  have HF := Lib.hid (fun w => Freq_c f1 f2 w)
  clear hl ho
  cases hv : vld n l
  · rw [hv] at HV
    have HP : Hid (plyG n l f1 f2 M off = false) := Lib.hid (by simp [plyG, hv])
    clear hv
    generalize sdV f1 f2 = sd at HF
    generalize l.length = L at HV hlen hcap ⊢
    go_enter Try.func18, Try.ntmps18
    go_wp2_with (first | (go_at_call 13; ((with_reducible refine (HV.out _ (HL.out.up (by (repeat (first | (with_reducible exact bl_refl _) | (with_reducible refine bl_drew ?_) | (with_reducible refine bl_alloc ?_ _) | (with_reducible refine bl_set' ?_ ?_; · (first | omega | (simp; done) | (simp; omega))) | (with_reducible refine bl_last (by assumption) ?_) | (with_reducible refine bl_drewN ?_ _)))))).mono ?_); rintro e w' ⟨rfl, hb⟩; obtain ⟨hz, hc, hf⟩ := bcl hb (by first | (simp; rfl) | rfl))) | (go_at_call 28; ((with_reducible refine (HF.out _).mono ?_); rintro e w' ⟨rfl, hb⟩; obtain ⟨hz, hc, hf⟩ := bcl hb (by first | (simp; rfl) | rfl))))
    refine bodyPost_ret (v := .tuple #[.slice none 0 0, .int .i64 1]) (by simp only [results, Try.results18]; go_simp) rfl ⟨?_, Or.inl ⟨HP.out, rfl⟩⟩
    (repeat (first | (with_reducible exact bl_refl _) | (with_reducible refine bl_drew ?_) | (with_reducible refine bl_alloc ?_ _) | (with_reducible refine bl_set' ?_ ?_; · (first | omega | (simp; done) | (simp; omega))) | (with_reducible refine bl_last (by assumption) ?_) | (with_reducible refine bl_drewN ?_ _)))
  rw [hv] at HV
  have hvl := vld_len hv
  have hL39 : l.length ≤ 39 := by omega
  have HVV := Lib.hid hv
  have HVL := Lib.hid hvl
  clear hvl
  cases hsd : sdV f1 f2
  · rw [hsd] at HF
    have HP : Hid (plyG n l f1 f2 M off = false) := Lib.hid (by simp [plyG, hsd])
    clear hsd hv
    generalize l.length = L at HV hlen hcap hL39 ⊢
    go_enter Try.func18, Try.ntmps18
    go_wp2_with (first | (go_at_call 13; ((with_reducible refine (HV.out _ (HL.out.up (by (repeat (first | (with_reducible exact bl_refl _) | (with_reducible refine bl_drew ?_) | (with_reducible refine bl_alloc ?_ _) | (with_reducible refine bl_set' ?_ ?_; · (first | omega | (simp; done) | (simp; omega))) | (with_reducible refine bl_last (by assumption) ?_) | (with_reducible refine bl_drewN ?_ _)))))).mono ?_); rintro e w' ⟨rfl, hb⟩; obtain ⟨hz, hc, hf⟩ := bcl hb (by first | (simp; rfl) | rfl))) | (go_at_call 28; ((with_reducible refine (HF.out _).mono ?_); rintro e w' ⟨rfl, hb⟩; obtain ⟨hz, hc, hf⟩ := bcl hb (by first | (simp; rfl) | rfl))))
    refine bodyPost_ret (v := .tuple #[.slice none 0 0, .int .i64 1]) (by simp only [results, Try.results18]; go_simp) rfl ⟨?_, Or.inl ⟨HP.out, rfl⟩⟩
    (repeat (first | (with_reducible exact bl_refl _) | (with_reducible refine bl_drew ?_) | (with_reducible refine bl_alloc ?_ _) | (with_reducible refine bl_set' ?_ ?_; · (first | omega | (simp; done) | (simp; omega))) | (with_reducible refine bl_last (by assumption) ?_) | (with_reducible refine bl_drewN ?_ _)))
  rw [hsd] at HF
  by_cases hML : M = l.length
  case neg =>
    have HP : Hid (plyG n l f1 f2 M off = false) := Lib.hid (by
      unfold plyG
      rw [decide_eq_false hML]
      simp)
    have hne : ((M : Int) != (l.length : Int)) = true := by simp; omega
    clear hsd hv hML
    generalize l.length = L at *
    go_enter Try.func18, Try.ntmps18
    go_wp2_with (first | (go_at_call 13; ((with_reducible refine (HV.out _ (HL.out.up (by (repeat (first | (with_reducible exact bl_refl _) | (with_reducible refine bl_drew ?_) | (with_reducible refine bl_alloc ?_ _) | (with_reducible refine bl_set' ?_ ?_; · (first | omega | (simp; done) | (simp; omega))) | (with_reducible refine bl_last (by assumption) ?_) | (with_reducible refine bl_drewN ?_ _)))))).mono ?_); rintro e w' ⟨rfl, hb⟩; obtain ⟨hz, hc, hf⟩ := bcl hb (by first | (simp; rfl) | rfl))) | (go_at_call 28; ((with_reducible refine (HF.out _).mono ?_); rintro e w' ⟨rfl, hb⟩; obtain ⟨hz, hc, hf⟩ := bcl hb (by first | (simp; rfl) | rfl))))
    refine bodyPost_ret (v := .tuple #[.slice none 0 0, .int .i64 1]) (by simp only [results, Try.results18]; go_simp) rfl ⟨?_, Or.inl ⟨HP.out, rfl⟩⟩
    (repeat (first | (with_reducible exact bl_refl _) | (with_reducible refine bl_drew ?_) | (with_reducible refine bl_alloc ?_ _) | (with_reducible refine bl_set' ?_ ?_; · (first | omega | (simp; done) | (simp; omega))) | (with_reducible refine bl_last (by assumption) ?_) | (with_reducible refine bl_drewN ?_ _)))
  subst hML
  have HSD := Lib.hid hsd
  clear hsd hv
  generalize hLL : l.length = L at *
  have HLL := Lib.hid hLL
  clear hLL
  go_enter Try.func18, Try.ntmps18
  go_wp2_with (first | (go_at_call 13; ((with_reducible refine (HV.out _ (HL.out.up (by (repeat (first | (with_reducible exact bl_refl _) | (with_reducible refine bl_drew ?_) | (with_reducible refine bl_alloc ?_ _) | (with_reducible refine bl_set' ?_ ?_; · (first | omega | (simp; done) | (simp; omega))) | (with_reducible refine bl_last (by assumption) ?_) | (with_reducible refine bl_drewN ?_ _)))))).mono ?_); rintro e w' ⟨rfl, hb⟩; obtain ⟨hz, hc, hf⟩ := bcl hb (by first | (simp; rfl) | rfl))) | (go_at_call 28; ((with_reducible refine (HF.out _).mono ?_); rintro e w' ⟨rfl, hb⟩; obtain ⟨hz, hc, hf⟩ := bcl hb (by first | (simp; rfl) | rfl))))
  have HB1 : Hid (Below w.heap.size w w') := Lib.hid (by (repeat (first | (with_reducible exact bl_refl _) | (with_reducible refine bl_drew ?_) | (with_reducible refine bl_alloc ?_ _) | (with_reducible refine bl_set' ?_ ?_; · (first | omega | (simp; done) | (simp; omega))) | (with_reducible refine bl_last (by assumption) ?_) | (with_reducible refine bl_drewN ?_ _))))
  go_loopw [12] (fun i wr => ∃ k : Nat, k ≤ L ∧ i = .int .i64 k ∧ Hid (allV off k = true) ∧ Below w'.heap.size w' wr) (fun i _ => L - (intOf i).toNat)
  case atStart => exact ⟨0, Nat.zero_le _, rfl, rfl, bl_refl _⟩
  case round =>
    obtain ⟨k, hk, rfl, HK, hbr⟩ := hrel
    have hbwr := bl_trans HB1.out hbr
    by_cases hlt : k < L
    · obtain ⟨bl, o, rfl, hbl, hcl⟩ := HO.out (by omega)
      obtain ⟨u1, u2⟩ := hcl k hlt
      have cx := (hbwr.cell (p := ⟨bl, o + k * 2, none⟩) hbl).trans u1
      have cy := (hbwr.cell (p := ⟨bl, o + k * 2 + 1, none⟩) hbl).trans u2
      have hbl' : bl < wr.heap.size := by have := hbwr.size; omega
      have HVC := Lib.hid (fun w => RValid_c (off k).1 (off k).2 w)
      have HBR := Lib.hid hbr
      have HBWR := Lib.hid hbwr
      clear hcl u1 u2 hbl hbr hbwr hc hf
      cases hvk : vR (off k).1 (off k).2
      · rw [hvk] at HVC
        have HP : Hid (plyG n l f1 f2 L off = false) := Lib.hid (by
          have : allV off L = false := by
            cases ha : allV off L with
            | false => rfl
            | true =>
              unfold allV at ha
              have := List.all_eq_true.1 ha k (by simp [hlt])
              rw [hvk] at this
              cases this
          simp [plyG, this])
        clear hvk
        go_wp2_with (go_at_call 30; ((with_reducible refine (HVC.out _).mono ?_); rintro e w' ⟨rfl, hb⟩; obtain ⟨hz, hc, hf⟩ := bcl hb (by first | (simp; rfl) | rfl)))
        refine bodyPost_ret (v := .tuple #[.slice none 0 0, .int .i64 1]) (by simp only [results, Try.results18]; go_simp) rfl ⟨bl_trans HBWR.out hb, Or.inl ⟨HP.out, rfl⟩⟩
      · rw [hvk] at HVC
        have HNX : Hid (allV off (k + 1) = true) := Lib.hid (by
          have := HK.out
          unfold allV at this ⊢
          rw [List.range_succ, List.all_append, this]
          simp [hvk])
        clear hvk
        go_wp2_with (go_at_call 30; ((with_reducible refine (HVC.out _).mono ?_); rintro e w' ⟨rfl, hb⟩; obtain ⟨hz, hc, hf⟩ := bcl hb (by first | (simp; rfl) | rfl)))
        go_roundw
        case rel => exact ⟨k + 1, by omega, by go_num, HNX, bl_trans HBR.out hb⟩
        case measure => simp [intOf]; omega
    · have hkL : k = L := by omega
      subst hkL
      obtain ⟨N, rfl⟩ : ∃ N : Nat, n = N := ⟨n.toNat, by have := HVL.out; omega⟩
      have hN1 : 1 ≤ N := by have := HVL.out; omega
      have hN2 : N ≤ 40 := by have := HVL.out; omega
      have hmk := make_rats N (by omega)
      have hz0 := ratA_0 N (fun _ => (0, 0)) (x := 0) (by omega)
      have hz1 := ratA_1 N (fun _ => (0, 0)) (x := 0) (by omega)
      simp only [Nat.zero_mul, Nat.zero_add] at hz0 hz1
      have HP : Hid (plyG N l f1 f2 k off = true) := Lib.hid (by
        unfold plyG
        rw [HVV.out, HSD.out, HK.out, decide_eq_true HLL.out.symm]
        rfl)
      have HBW := Lib.hid hbwr
      have hzw := hbwr.size
      obtain ⟨bz, bc, bf⟩ := bcl hbr (by first | (simp; rfl) | rfl)
      clear hbwr hbr
      obtain ⟨wo, rfl⟩ : ∃ x : World, x = wr := ⟨_, rfl⟩
      go_wp2
      go_loopw [15] (fun i wt => ∃ (k' : Nat) (g : Nat → Int × Int), k' ≤ k ∧ i = .int .i64 k' ∧ Hid (plO l (f1, f2) off k' = some g) ∧ Below wo.heap.size wo wt ∧ wo.heap.size + 1 ≤ wt.heap.size ∧ Hid (Blk wt wo.heap.size 24 (ratA N g))) (fun i _ => k - (intOf i).toNat)
      case atStart =>
        refine ⟨0, _, Nat.zero_le _, rfl, rfl, ?_, by simp, ?_⟩
        · (repeat (first | (with_reducible exact bl_refl _) | (with_reducible refine bl_drew ?_) | (with_reducible refine bl_alloc ?_ _) | (with_reducible refine bl_set' ?_ ?_; · (first | omega | (simp; done) | (simp; omega))) | (with_reducible refine bl_last (by assumption) ?_) | (with_reducible refine bl_drewN ?_ _)))
        · show Blk _ _ _ _
          refine Eq.trans (Blk.new' _ _ _ _ (by simp)) ?_
          rw [show (1 : Nat) = 0 * 2 + 1 from rfl, show (0 : Nat) = 0 * 2 from rfl, ratA_set]
      case round =>
        clear hmk hz0 hz1
        obtain ⟨k', g, hk', rfl, HU, hbt, hzt, B2⟩ := hrel
        have hbwt := bl_trans HBW.out hbt
        by_cases hlt : k' < k
        · obtain ⟨x, hx⟩ : ∃ x, l[k']? = some x := ⟨l[k']'(by have := HLL.out; omega), by simp⟩
          obtain ⟨bl, o, rfl, hbl, hcl⟩ := HL.out (by have := HLL.out; omega)
          obtain ⟨x0, x1, x2, x3, x4, x5, x6⟩ := (hcl k' x hx).same (fun j => hbwt.cell (p := ⟨bl, j, none⟩) hbl)
          obtain ⟨bo, oo, rfl, hbo, hco⟩ := HO.out (by omega)
          have o1 := (hbwt.cell (p := ⟨bo, oo + k' * 2, none⟩) hbo).trans (hco k' (by omega)).1
          have o2 := (hbwt.cell (p := ⟨bo, oo + k' * 2 + 1, none⟩) hbo).trans (hco k' (by omega)).2
          have hok := ok_parts (vld_at HVV.out hx)
          have hxD : l.getD k' default = x := by rw [List.getD_eq_getElem?_getD, hx]; rfl
          have hrn := rt_of hok.2.2.1
          have ht0 : 0 < x.to := hok.2.2.2.1
          have htn : x.to < N := hok.2.2.2.2.1
          have hfr : 0 ≤ x.fr ∧ x.fr < N := by
            have := hok.2.2.2.2.2.2
            omega
          have hst : plO l (f1, f2) off (k' + 1) = if moE (g x.fr.toNat).1 (g x.fr.toNat).2 x.p x.q (sgn x.ab x.rn) x.rd (off k').1 (off k').2 = 0 then
              some fun y => if y = x.to.toNat then (moX (g x.fr.toNat).1 (g x.fr.toNat).2 x.p x.q (sgn x.ab x.rn) x.rd (off k').1 (off k').2, moY (g x.fr.toNat).1 (g x.fr.toNat).2 x.p x.q (sgn x.ab x.rn) x.rd (off k').1 (off k').2) else g y
              else none := by
            show (plO l (f1, f2) off k').bind _ = _
            rw [HU.out, Option.bind_some]
            simp only [hxD]
          have hM := fun W => Rset_c (g x.fr.toNat).1 (g x.fr.toNat).2 x.fr x.to x.p x.q x.rn x.rd (off k').1 (off k').2 x.ab W (by have := hrn.1; omega) hrn.2.1
          have cf1 := (B2.out.cell (x.fr.toNat * 2)).trans (ratA_0 N g (x := x.fr.toNat) (by omega))
          have cf2 := (B2.out.cell (x.fr.toNat * 2 + 1)).trans (ratA_1 N g (x := x.fr.toNat) (by omega))
          have ct1 := (B2.out.cell (x.to.toNat * 2)).trans (ratA_0 N g (x := x.to.toNat) (by omega))
          have ct2 := (B2.out.cell (x.to.toNat * 2 + 1)).trans (ratA_1 N g (x := x.to.toNat) (by omega))
          have ft1 := B2.out.frozen (x.to.toNat * 2)
          have ft2 := B2.out.frozen (x.to.toNat * 2 + 1)
          have hways : (moE (g x.fr.toNat).1 (g x.fr.toNat).2 x.p x.q (sgn x.ab x.rn) x.rd (off k').1 (off k').2 = 0 ∧ (moE (g x.fr.toNat).1 (g x.fr.toNat).2 x.p x.q (sgn x.ab x.rn) x.rd (off k').1 (off k').2 != 0) = false) ∨
              (moE (g x.fr.toNat).1 (g x.fr.toNat).2 x.p x.q (sgn x.ab x.rn) x.rd (off k').1 (off k').2 = 3 ∧ (moE (g x.fr.toNat).1 (g x.fr.toNat).2 x.p x.q (sgn x.ab x.rn) x.rd (off k').1 (off k').2 != 0) = true) := by
            unfold moE
            split
            · exact Or.inl ⟨rfl, rfl⟩
            · exact Or.inr ⟨rfl, rfl⟩
          have zl : bl < wr.heap.size := by have := hbwt.size; omega
          have zo : bo < wr.heap.size := by have := hbwt.size; omega
          clear hcl hx hok hxD hrn hbl hbo hco
          obtain ⟨xfr, xto, xp, xq, xrn, xrd, xab⟩ := x
          simp only at x0 x1 x2 x3 x4 x5 x6 ht0 htn hfr hst hM cf1 cf2 ct1 ct2 ft1 ft2 hways
          unfold moV at hM
          obtain ⟨hf0, hfn⟩ := hfr
          generalize moX (g xfr.toNat).1 (g xfr.toNat).2 xp xq (sgn xab xrn) xrd (off k').1 (off k').2 = mx at *
          generalize moY (g xfr.toNat).1 (g xfr.toNat).2 xp xq (sgn xab xrn) xrd (off k').1 (off k').2 = my at *
          generalize moE (g xfr.toNat).1 (g xfr.toNat).2 xp xq (sgn xab xrn) xrd (off k').1 (off k').2 = me at *
          have HST := Lib.hid hst
          have HM := Lib.hid hM
          clear hst hM
          generalize (g xfr.toNat).1 = gx at *
          generalize (g xfr.toNat).2 = gy at *
          generalize (g xto.toNat).1 = tx at *
          generalize (g xto.toNat).2 = ty at *
          generalize (off k').1 = ox at *
          generalize (off k').2 = oy at *
          have HBT := Lib.hid hbt
          clear hbt hbwt
          rcases hways with ⟨rfl, hm⟩ | ⟨rfl, hm⟩
          · go_wp2
            (refine wp_region_alloc [0,1,2,3,4,5,6,7,8,9,10,11,12,13,14,15,16,17,18,19] [19] [21,22] 20 24 #[.int .i64 0, .int .i64 0] _ (by kernel_rfl) (by kernel_rfl) (by kernel_rfl) (by rfl) (by repeat (first | exact panic_body | refine panic_then ?_ | refine panic_block ?_)) rfl (fun _ _ => by go_simp) ?_
             simp only [pickI, pick, List.getElem?_cons_succ, List.getElem?_cons_zero]
             iterate 20 (first
               | (refine headZ_val (by rfl) (by rfl) ?_
                  apply Exists.intro
                  refine ⟨fun X hX => ?_, ?_⟩
                  · (obtain ⟨qz, qc, qf⟩ := bcl hX.out (by first | (simp; rfl) | rfl)
                     go_simp
                     first | done | (go_at_call 42; ((with_reducible refine (HM.out _).mono ?_); rintro e w2 ⟨rfl, hb2⟩; exact ⟨rfl, hb2⟩)) | rfl | exact ⟨rfl, rfl⟩)
                  simp only [Act.put, List.setIfInBounds_toArray, List.set_cons_zero, List.set_cons_succ])
               | (refine headZ_pure (by rfl) (by rfl) ?_
                  apply Exists.intro
                  refine ⟨fun X => ?_, ?_⟩
                  · (go_simp
                     first | done | rfl)
                  simp only [Act.put, List.setIfInBounds_toArray, List.set_cons_zero, List.set_cons_succ])
               | (refine headZ_pass (by rfl) ?_
                  simp only [Act.put, List.setIfInBounds_toArray, List.set_cons_zero, List.set_cons_succ]))
             refine headZ_nil ?_
             intro w' Bq hw' hBq hBk
             have hb := hw'.out
             clear hw'
             try simp only [Act.put, List.setIfInBounds_toArray, List.set_cons_zero, List.set_cons_succ]
             obtain ⟨hz, hc, hf⟩ := bcl hb (by first | (simp; rfl) | rfl))
            have cq0 := hBk.cell 0
            have cq1 := hBk.cell 1
            have fq0 := hBk.frozen 0
            have fq1 := hBk.frozen 1
            simp only [List.getElem?_toArray, List.getElem?_cons_zero, List.getElem?_cons_succ] at cq0 cq1
            have HBK := Lib.hid hBk
            clear hBk
            go_wp2
            obtain ⟨W1, hW1⟩ : ∃ W : World, (w'.setCell ⟨Bq, 0, none⟩ (.int .i64 mx)).setCell ⟨Bq, 1, none⟩ (.int .i64 my) = W := ⟨_, rfl⟩
            have hs1 : W1.heap.size = w'.heap.size := by rw [← hW1]; simp only [World.setCell, Array.size_modify]
            have hbs := hb.size
            have hb1 : Below wr.heap.size wr W1 := by
              rw [← hW1]
              exact (hb.setCell (p := ⟨Bq, 0, none⟩) hBq _).setCell (p := ⟨Bq, 1, none⟩) hBq _
            have BQ : Blk W1 Bq 24 #[.int .i64 mx, .int .i64 my] := by
              rw [← hW1]
              exact (HBK.out.set_ 0 (.int .i64 mx)).set_ 1 (.int .i64 my)
            have B3 : Hid (Blk W1 wo.heap.size 24 (ratA N g)) := Lib.hid (B2.out.below hb1 hzt)
            rw [hW1]
            have d0 := BQ.cell 0
            have d1 := BQ.cell 1
            simp only [List.getElem?_toArray, List.getElem?_cons_zero, List.getElem?_cons_succ] at d0 d1
            have e1 := (hb1.cell (p := ⟨bl, o + k' * 7 + 1, none⟩) (by show bl < _; omega)).trans x1
            have u1 := (hb1.cell (p := ⟨wo.heap.size, xto.toNat * 2, none⟩) (by show wo.heap.size < _; omega)).trans ct1
            have u2 := (hb1.cell (p := ⟨wo.heap.size, xto.toNat * 2 + 1, none⟩) (by show wo.heap.size < _; omega)).trans ct2
            have v1 := (hb1.frozen (p := ⟨wo.heap.size, xto.toNat * 2, none⟩) (by show wo.heap.size < _; omega)).trans ft1
            have v2 := (hb1.frozen (p := ⟨wo.heap.size, xto.toNat * 2 + 1, none⟩) (by show wo.heap.size < _; omega)).trans ft2
            have HB1W := Lib.hid hb1
            have zq1 := BQ.lt
            clear hW1 BQ cq0 cq1 fq0 fq1 hb1 x0 x1 x2 x3 x4 x5 x6 ct1 ct2 ft1 ft2 cf1 cf2 o1 o2 hb hz hc hf
            have zl1 : bl < W1.heap.size := by omega
            have zr1 : wo.heap.size < W1.heap.size := by omega
            (refine wp_region_bl [0,1,2,3,4,5,6] [7,8] (by kernel_rfl) (by kernel_rfl) (by rfl) ?_
             simp only [pickI, pick, List.getElem?_cons_succ, List.getElem?_cons_zero]
             iterate 7 (first
               | (refine head_val (by rfl) (by rfl) ?_
                  apply Exists.intro
                  refine ⟨fun X hX => ?_, ?_⟩
                  · (obtain ⟨qz, qc, qf⟩ := bcl hX.out (by first | (simp; rfl) | rfl)
                     go_simp
                     first | done | rfl | exact ⟨rfl, rfl⟩)
                  simp only [Act.put, List.setIfInBounds_toArray, List.set_cons_zero, List.set_cons_succ])
               | (refine head_pass (by rfl) ?_
                  simp only [Act.put, List.setIfInBounds_toArray, List.set_cons_zero, List.set_cons_succ]))
             refine head_nil ?_
             intro w' hw'
             have hb := hw'.out
             clear hw'
             obtain ⟨hz, hc, hf⟩ := bcl hb (by first | (simp; rfl) | rfl))
            go_wp2
            go_roundw
            case rel =>
              refine ⟨k' + 1, _, by omega, by go_num, HST.out.trans (if_pos (by trivial)), ?_, ?_, ?_⟩
              · refine Below.setCell (Below.setCell (bl_trans (bl_trans HBT.out HB1W.out) hb) ?_ _) ?_ _
                · exact Nat.le_refl _
                · exact Nat.le_refl _
              · have := hb.size
                simp only [World.setCell, Array.size_modify]
                omega
              · have h2 := ((B3.out.below hb zr1).set_ (xto.toNat * 2) (.int .i64 mx)).set_ (xto.toNat * 2 + 1) (.int .i64 my)
                rw [ratA_set] at h2
                exact h2
            case measure => simp [intOf]; omega
          · have hN : plO l (f1, f2) off l.length = none := by
              refine plO_mono (j := k' + 1) ?_ (by have := HLL.out; omega)
              rw [HST.out, if_neg (by omega)]
            have HNo := Lib.hid hN
            clear hN
            go_wp2
            (refine wp_region_alloc [0,1,2,3,4,5,6,7,8,9,10,11,12,13,14,15,16,17,18,19] [19] [21,22] 20 24 #[.int .i64 0, .int .i64 0] _ (by kernel_rfl) (by kernel_rfl) (by kernel_rfl) (by rfl) (by repeat (first | exact panic_body | refine panic_then ?_ | refine panic_block ?_)) rfl (fun _ _ => by go_simp) ?_
             simp only [pickI, pick, List.getElem?_cons_succ, List.getElem?_cons_zero]
             iterate 20 (first
               | (refine headZ_val (by rfl) (by rfl) ?_
                  apply Exists.intro
                  refine ⟨fun X hX => ?_, ?_⟩
                  · (obtain ⟨qz, qc, qf⟩ := bcl hX.out (by first | (simp; rfl) | rfl)
                     go_simp
                     first | done | (go_at_call 42; ((with_reducible refine (HM.out _).mono ?_); rintro e w2 ⟨rfl, hb2⟩; exact ⟨rfl, hb2⟩)) | rfl | exact ⟨rfl, rfl⟩)
                  simp only [Act.put, List.setIfInBounds_toArray, List.set_cons_zero, List.set_cons_succ])
               | (refine headZ_pure (by rfl) (by rfl) ?_
                  apply Exists.intro
                  refine ⟨fun X => ?_, ?_⟩
                  · (go_simp
                     first | done | rfl)
                  simp only [Act.put, List.setIfInBounds_toArray, List.set_cons_zero, List.set_cons_succ])
               | (refine headZ_pass (by rfl) ?_
                  simp only [Act.put, List.setIfInBounds_toArray, List.set_cons_zero, List.set_cons_succ]))
             refine headZ_nil ?_
             intro w' Bq hw' hBq hBk
             have hb := hw'.out
             clear hw'
             try simp only [Act.put, List.setIfInBounds_toArray, List.set_cons_zero, List.set_cons_succ]
             obtain ⟨hz, hc, hf⟩ := bcl hb (by first | (simp; rfl) | rfl))
            have cq0 := hBk.cell 0
            have cq1 := hBk.cell 1
            have fq0 := hBk.frozen 0
            have fq1 := hBk.frozen 1
            simp only [List.getElem?_toArray, List.getElem?_cons_zero, List.getElem?_cons_succ] at cq0 cq1
            clear hBk
            go_wp2
            refine bodyPost_ret (v := .tuple #[.slice none 0 0, .int .i64 3]) (by simp only [results, Try.results18]; go_simp) rfl ⟨?_, Or.inr (Or.inl ⟨HP.out, HNo.out, rfl⟩)⟩
            have hbA : Below w.heap.size w w' := bl_trans (bl_trans HBW.out HBT.out) hb
            have hza := (bl_trans HBW.out HBT.out).size
            refine Below.setCell (Below.setCell hbA ?_ _) ?_ _
            · show w.heap.size ≤ Bq; omega
            · show w.heap.size ≤ Bq; omega
        · have hkk : k' = k := by omega
          subst hkk
          go_wp2
          refine bodyPost_ret (v := .tuple #[.slice (some ⟨_, 0, none⟩) N N, .int .i64 0]) (by simp only [results, Try.results18]; go_simp) rfl ⟨hbwt, Or.inr (Or.inr ⟨HP.out, g, _, by rw [HLL.out]; exact HU.out, rfl, RatsR.of_blk B2.out⟩)⟩
end Go.Proofs.Ytkgklmmkkhbimaa
