/- BenchOrder: the walk of the law. -/
import Derived.Test.YtkgklmmkkhbimaaOrderA
import Derived.Test.YtkgklmmkkhbimaaBenchG
import Derived.Test.YtkgklmmkkhbimaaRefB
namespace Go.Proofs.Ytkgklmmkkhbimaa
open Go.RowKit

theorem Try.infoBeat : (Try.prog.info? 49).map (fun i => (i.zero, i.size, i.bytes)) = some (some (.agg #[.int .i64 0, .int .i64 0, .int .i64 0, .int .i64 0, .int .i64 0, .int .i64 0, .bool false]), 7, 56) := by kernel_rfl
set_option maxRecDepth 100000 in
set_option maxHeartbeats 8000000 in
theorem walk_BenchOrder (n : Int) (A : Option Addr) (l : List Bt) (cap : Nat) (f1 f2 e1 e2 at' : Int) (w : World) (hlen : l.length ≤ 9223372036854775807) (hl : Lst w w.heap.size A l) (hcap : l.length ≤ cap) (hat : (Lit.int .u8 at').wf = true) :
    Calls Try.prog 8 #[.int .i64 n, .slice A l.length cap, .agg #[.int .i64 f1, .int .i64 f2], .agg #[.int .i64 e1, .int .i64 e2], .int .u8 at'] w (Ret (.bool true) w) := by
  obtain ⟨b0, hbi, hz0, hz1, hz2⟩ := info_parts Try.infoBeat
  have ha : 0 ≤ at' ∧ at' ≤ 255 := by
    have h1 : (decide ((0 : Int) ≤ at') && decide (at' ≤ 255)) = true := hat
    simpa using h1
  clear hat
  have HL := Lib.hid hl
  clear hl
  have HV := Lib.hid (fun w h => RefValid_c n l A cap w h hlen hcap)
  have HF := Lib.hid (fun w => Freq_c f1 f2 w)
  have HR := Lib.hid (fun w => Rated_c e1 e2 w)
  by_cases hL2 : l.length < 2
  · clear HV HF HR
    generalize l.length = L at *
    go_enter Try.func8, Try.ntmps8
    go_wp2_with (go_at_call 11; ((with_reducible refine (head18_c _).mono ?_); rintro e w' ⟨rfl, hb⟩; obtain ⟨hz, hc, hf⟩ := bcl hb (by first | (simp; rfl) | rfl)))
    go_ret
    refine ⟨rfl, ?_⟩
    (repeat (first | (with_reducible exact bl_refl _) | (with_reducible refine bl_drew ?_) | (with_reducible refine bl_alloc ?_ _) | (with_reducible refine bl_set' ?_ ?_; · (first | omega | (simp; done) | (simp; omega))) | (with_reducible refine bl_last (by assumption) ?_) | (with_reducible refine bl_drewN ?_ _)))
  cases hv : vld n l
  · rw [hv] at HV
    clear hv HF HR
    generalize l.length = L at *
    go_enter Try.func8, Try.ntmps8
    go_wp2_with (first | (go_at_call 11; ((with_reducible refine (head18_c _).mono ?_); rintro e w' ⟨rfl, hb⟩; obtain ⟨hz, hc, hf⟩ := bcl hb (by first | (simp; rfl) | rfl))) | (go_at_call 13; ((with_reducible refine (HV.out _ (HL.out.up (by (repeat (first | (with_reducible exact bl_refl _) | (with_reducible refine bl_drew ?_) | (with_reducible refine bl_alloc ?_ _) | (with_reducible refine bl_set' ?_ ?_; · (first | omega | (simp; done) | (simp; omega))) | (with_reducible refine bl_last (by assumption) ?_) | (with_reducible refine bl_drewN ?_ _)))))).mono ?_); rintro e w' ⟨rfl, hb⟩; obtain ⟨hz, hc, hf⟩ := bcl hb (by first | (simp; rfl) | rfl))))
    go_ret
    refine ⟨rfl, ?_⟩
    (repeat (first | (with_reducible exact bl_refl _) | (with_reducible refine bl_drew ?_) | (with_reducible refine bl_alloc ?_ _) | (with_reducible refine bl_set' ?_ ?_; · (first | omega | (simp; done) | (simp; omega))) | (with_reducible refine bl_last (by assumption) ?_) | (with_reducible refine bl_drewN ?_ _)))
  rw [hv] at HV
  cases hsd : sdV f1 f2
  · rw [hsd] at HF
    clear hsd hv HR
    generalize l.length = L at *
    go_enter Try.func8, Try.ntmps8
    go_wp2_with (first | (go_at_call 11; ((with_reducible refine (head18_c _).mono ?_); rintro e w' ⟨rfl, hb⟩; obtain ⟨hz, hc, hf⟩ := bcl hb (by first | (simp; rfl) | rfl))) | (go_at_call 13; ((with_reducible refine (HV.out _ (HL.out.up (by (repeat (first | (with_reducible exact bl_refl _) | (with_reducible refine bl_drew ?_) | (with_reducible refine bl_alloc ?_ _) | (with_reducible refine bl_set' ?_ ?_; · (first | omega | (simp; done) | (simp; omega))) | (with_reducible refine bl_last (by assumption) ?_) | (with_reducible refine bl_drewN ?_ _)))))).mono ?_); rintro e w' ⟨rfl, hb⟩; obtain ⟨hz, hc, hf⟩ := bcl hb (by first | (simp; rfl) | rfl))) | (go_at_call 28; ((with_reducible refine (HF.out _).mono ?_); rintro e w' ⟨rfl, hb⟩; obtain ⟨hz, hc, hf⟩ := bcl hb (by first | (simp; rfl) | rfl))))
    go_ret
    refine ⟨rfl, ?_⟩
    (repeat (first | (with_reducible exact bl_refl _) | (with_reducible refine bl_drew ?_) | (with_reducible refine bl_alloc ?_ _) | (with_reducible refine bl_set' ?_ ?_; · (first | omega | (simp; done) | (simp; omega))) | (with_reducible refine bl_last (by assumption) ?_) | (with_reducible refine bl_drewN ?_ _)))
  rw [hsd] at HF
  cases hrt : rtV e1 e2
  · rw [hrt] at HR
    clear hsd hrt hv
    generalize l.length = L at *
    go_enter Try.func8, Try.ntmps8
    go_wp2_with (first | (go_at_call 11; ((with_reducible refine (head18_c _).mono ?_); rintro e w' ⟨rfl, hb⟩; obtain ⟨hz, hc, hf⟩ := bcl hb (by first | (simp; rfl) | rfl))) | (go_at_call 13; ((with_reducible refine (HV.out _ (HL.out.up (by (repeat (first | (with_reducible exact bl_refl _) | (with_reducible refine bl_drew ?_) | (with_reducible refine bl_alloc ?_ _) | (with_reducible refine bl_set' ?_ ?_; · (first | omega | (simp; done) | (simp; omega))) | (with_reducible refine bl_last (by assumption) ?_) | (with_reducible refine bl_drewN ?_ _)))))).mono ?_); rintro e w' ⟨rfl, hb⟩; obtain ⟨hz, hc, hf⟩ := bcl hb (by first | (simp; rfl) | rfl))) | (go_at_call 28; ((with_reducible refine (HF.out _).mono ?_); rintro e w' ⟨rfl, hb⟩; obtain ⟨hz, hc, hf⟩ := bcl hb (by first | (simp; rfl) | rfl))) | (go_at_call 29; ((with_reducible refine (HR.out _).mono ?_); rintro e w' ⟨rfl, hb⟩; obtain ⟨hz, hc, hf⟩ := bcl hb (by first | (simp; rfl) | rfl))))
    go_ret
    refine ⟨rfl, ?_⟩
    (repeat (first | (with_reducible exact bl_refl _) | (with_reducible refine bl_drew ?_) | (with_reducible refine bl_alloc ?_ _) | (with_reducible refine bl_set' ?_ ?_; · (first | omega | (simp; done) | (simp; omega))) | (with_reducible refine bl_last (by assumption) ?_) | (with_reducible refine bl_drewN ?_ _)))
  rw [hrt] at HR
  have hvr : vR e1 e2 = true := by
    unfold rtV at hrt
    simp only [Bool.and_eq_true] at hrt
    exact hrt.1
  have HQ := Lib.hid (fun w => RValid_c e1 e2 w)
  rw [hvr] at HQ
  clear hsd hrt hvr
  have hL39 : l.length ≤ 39 := by have := vld_len hv; omega
  obtain ⟨i, hi⟩ : ∃ i : Nat, at' % ((l.length : Int) - 1) = i := ⟨(at' % ((l.length : Int) - 1)).toNat, by have := Int.emod_nonneg at' (show (l.length : Int) - 1 ≠ 0 by omega); omega⟩
  have hiL : i + 1 < l.length := by have := Int.emod_lt_of_pos at' (show (0 : Int) < (l.length : Int) - 1 by omega); omega
  obtain ⟨x, hx⟩ : ∃ x, l[i]? = some x := ⟨l[i]'(by omega), by simp⟩
  obtain ⟨y, hy⟩ : ∃ y, l[i + 1]? = some y := ⟨l[i + 1]'hiL, by simp⟩
  have hxD := getD_of hx
  have hyD := getD_of hy
  have HSW := Lib.hid (fun hne => swap_law hiL hv hne)
  have HRS := Lib.hid (fun hne w e w' h => run_swap (f1 := f1) (f2 := f2) (e1 := e1) (e2 := e2) (w := w) (e := e) (w' := w') hiL hv hne h)
  have HLS := Lib.hid (fun W g cur h1 h2 => lst_swap (W := W) (g := g) (cur := cur) hiL h1 h2)
  have HVS := Lib.hid (fun (hne : (l.getD (i + 1) default).fr ≠ (l.getD i default).to) => (swap_law hiL hv hne (0, 0) (0, 0)).1)
  rw [hxD, hyD] at HRS HLS HVS
  clear HSW
  obtain ⟨N1, k1, g1, h1, hN1, hRu⟩ := run_outO (n := n) (l := l) (f1 := f1) (f2 := f2) (e1 := e1) (e2 := e2)
  have HRun := Lib.hid (fun w h => (Run_c n l f1 f2 e1 e2 A cap w h hlen).mono (hRu w))
  have HRun2 := Lib.hid (fun hne A cap w h => (Run_c n (swapL l i) f1 f2 e1 e2 A cap w h (by rw [swapL_len]; exact hlen)).mono (fun e w' hh => hRu w e w' (HRS.out hne w e w' hh)))
  have HVal := Lib.hid (fun A cap w h => Valid18_c n (swapL l i) A cap w h (by rw [swapL_len]; exact hlen))
  have HSB := Lib.hid (bands_sameO N1 g1 h1 hN1)
  rw [swapL_len] at HRun2 HVal
  clear hRu HRS hv
  generalize hLL : l.length = L at *
  have HLL := Lib.hid hLL
  clear hLL
  obtain ⟨m, hm⟩ : ∃ m : Nat, i + 1 = m := ⟨_, rfl⟩
  have hm' : (i : Int) + 1 = (m : Int) := by omega
  obtain ⟨bl, off, rfl, hbl, hcl⟩ := HL.out (by have := HLL.out; omega)
  have HCL := Lib.hid hcl
  have HX := Lib.hid (hcl i x hx)
  have HY := Lib.hid (hcl m y (by rw [← hm]; exact hy))
  clear hcl
  go_enter Try.func8, Try.ntmps8
  go_wp2_with fail
  ((with_reducible refine (head18_c _).mono ?_); rintro e w1 ⟨rfl, b1⟩)
  have HB : Hid (Below w.heap.size w w1) := Lib.hid (by (repeat (first | (with_reducible exact bl_refl _) | (with_reducible refine bl_drew ?_) | (with_reducible refine bl_alloc ?_ _) | (with_reducible refine bl_set' ?_ ?_; · (first | omega | (simp; done) | (simp; omega))) | (with_reducible refine bl_last (by assumption) ?_) | (with_reducible refine bl_drewN ?_ _))))
  have H6 : Hid (Blk w1 w.heap.size 24 #[.int .i64 f1, .int .i64 f2]) := Lib.hid (((Blk.new w _ _).alloc _).below b1 (by simp; omega))
  have H7 : Hid (Blk w1 (w.heap.size + 1) 24 #[.int .i64 e1, .int .i64 e2]) := Lib.hid ((Blk.new' _ _ _ _ (by simp)).below b1 (by simp))
  clear b1
  go_wp2_with fail
  ((with_reducible refine (HV.out _ (HL.out.up HB.out)).mono ?_); rintro e w2 ⟨rfl, b2⟩)
  have H6 := Lib.hid (H6.out.below b2 H6.out.lt)
  have H7 := Lib.hid (H7.out.below b2 H7.out.lt)
  have HB := Lib.hid (bl_trans HB.out b2)
  clear b2
  have c60 : w2.cell? ⟨w.heap.size, 0, none⟩ = some (.int .i64 f1) := by simpa using H6.out.cell 0
  have c61 : w2.cell? ⟨w.heap.size, 1, none⟩ = some (.int .i64 f2) := by simpa using H6.out.cell 1
  go_wp2_with fail
  ((with_reducible refine (HF.out _).mono ?_); rintro e w3 ⟨rfl, b3⟩)
  have H6 := Lib.hid (H6.out.below b3 H6.out.lt)
  have H7 := Lib.hid (H7.out.below b3 H7.out.lt)
  have HB := Lib.hid (bl_trans HB.out b3)
  clear b3 c60 c61
  have c70 : w3.cell? ⟨w.heap.size + 1, 0, none⟩ = some (.int .i64 e1) := by simpa using H7.out.cell 0
  have c71 : w3.cell? ⟨w.heap.size + 1, 1, none⟩ = some (.int .i64 e2) := by simpa using H7.out.cell 1
  go_wp2_with fail
  ((with_reducible refine (HR.out _).mono ?_); rintro e w4 ⟨rfl, b4⟩)
  have H6 := Lib.hid (H6.out.below b4 H6.out.lt)
  have H7 := Lib.hid (H7.out.below b4 H7.out.lt)
  have HB := Lib.hid (bl_trans HB.out b4)
  clear b4 c70 c71
  have c70 : w4.cell? ⟨w.heap.size + 1, 0, none⟩ = some (.int .i64 e1) := by simpa using H7.out.cell 0
  have c71 : w4.cell? ⟨w.heap.size + 1, 1, none⟩ = some (.int .i64 e2) := by simpa using H7.out.cell 1
  go_wp2_with fail
  ((with_reducible refine (HQ.out _).mono ?_); rintro e w5 ⟨rfl, b5⟩)
  have H6 := Lib.hid (H6.out.below b5 H6.out.lt)
  have H7 := Lib.hid (H7.out.below b5 H7.out.lt)
  have HB := Lib.hid (bl_trans HB.out b5)
  clear b5 c70 c71
  go_wp2
  rw [hi]
  obtain ⟨x0, x1, x2, x3, x4, x5, x6⟩ := HX.out.same (fun j => HB.out.cell (p := ⟨bl, j, none⟩) hbl)
  obtain ⟨y0, y1, y2, y3, y4, y5, y6⟩ := HY.out.same (fun j => HB.out.cell (p := ⟨bl, j, none⟩) hbl)
  have zl5 : bl < w5.heap.size := by have := HB.out.size; omega
  have hmL : m < L := by omega
  have hi0 : i < L := by omega
  have hwi : IntKind.i64.wrap (i : Int) = i := by rw [IntKind.wrap_i64]; omega
  have hwm : IntKind.i64.wrap (m : Int) = m := by rw [IntKind.wrap_i64]; omega
  clear x0 x2 x3 x4 x5 x6 y1 y2 y3 y4 y5 y6 hi ha
  by_cases heq : y.fr = x.to
  · have heq' : (y.fr == x.to) = true := by simpa using heq
    have HEQ := Lib.hid heq'
    generalize y.fr = yf at *
    generalize x.to = xt at *
    subst heq
    (refine wp_region_bl [0,1,2,3,4,5,6,7,8,9,10,11] [] (by kernel_rfl) (by kernel_rfl) (by rfl) ?_
     simp only [pickI, pick, List.getElem?_cons_succ, List.getElem?_cons_zero]
     iterate 12 (first
       | (refine head_val (by rfl) (by rfl) ?_
          apply Exists.intro
          refine ⟨fun X hX => ?_, ?_⟩
          · (obtain ⟨qz, qc, qf⟩ := bcl hX.out (by first | (simp; rfl) | rfl)
             go_simp
             first | done | rfl | exact ⟨rfl, rfl⟩)
          simp only [Act.put, List.setIfInBounds_toArray, List.set_cons_zero, List.set_cons_succ])
       | (refine head_pass (by rfl) ?_
          simp only [Act.put, List.setIfInBounds_toArray, List.set_cons_zero, List.set_cons_succ]))
     refine head_nil ?_
     intro w' hw'
     have hb := hw'.out
     clear hw'
     obtain ⟨hz, hc, hf⟩ := bcl hb (by first | (simp; rfl) | rfl))
    go_wp2
    go_ret
    exact ⟨rfl, bl_trans HB.out hb⟩
  have heq' : (y.fr == x.to) = false := by simpa using heq
  have HRun2 := Lib.hid (HRun2.out heq)
  have HVS := Lib.hid (HVS.out heq)
  generalize hyf : y.fr = yf at y0 heq heq'
  generalize hxt : x.to = xt at x1 heq heq'
  have HYF := Lib.hid hyf
  have HXT := Lib.hid hxt
  clear hyf hxt
  (refine wp_region_bl [0,1,2,3,4,5,6,7,8,9,10,11] [] (by kernel_rfl) (by kernel_rfl) (by rfl) ?_
   simp only [pickI, pick, List.getElem?_cons_succ, List.getElem?_cons_zero]
   iterate 12 (first
     | (refine head_val (by rfl) (by rfl) ?_
        apply Exists.intro
        refine ⟨fun X hX => ?_, ?_⟩
        · (obtain ⟨qz, qc, qf⟩ := bcl hX.out (by first | (simp; rfl) | rfl)
           go_simp
           first | done | rfl | exact ⟨rfl, rfl⟩)
        simp only [Act.put, List.setIfInBounds_toArray, List.set_cons_zero, List.set_cons_succ])
     | (refine head_pass (by rfl) ?_
        simp only [Act.put, List.setIfInBounds_toArray, List.set_cons_zero, List.set_cons_succ]))
   refine head_nil ?_
   intro w' hw'
   have hb := hw'.out
   clear hw'
   obtain ⟨hz, hc, hf⟩ := bcl hb (by first | (simp; rfl) | rfl))
  have H6 := Lib.hid (H6.out.below hb H6.out.lt)
  have H7 := Lib.hid (H7.out.below hb H7.out.lt)
  have HB := Lib.hid (bl_trans HB.out hb)
  clear hb hz hc hf x1 y0 zl5
  obtain ⟨w6, rfl⟩ : ∃ x : World, x = w' := ⟨_, rfl⟩
  have hz6 : w.heap.size ≤ w6.heap.size := HB.out.size
  have hl6 : w.heap.size + 1 < w6.heap.size := H7.out.lt
  have HSRC : Hid (∀ o, ∀ (j : Nat) (u : Value), (btL l)[j]? = some u → (w6.alloc o).cell? ((⟨bl, off, none⟩ : Addr).add j) = some u) := Lib.hid (fun o => btL_src (fun i x hx => (HCL.out i x hx).same (fun j => (HB.out.alloc HB.out.size o).cell (p := ⟨bl, j, none⟩) hbl)))
  have HLN : Hid ((btL l).length = L * 7) := Lib.hid (by rw [btL_len, HLL.out])
  go_wp2_with (at_builtin; refine wpList_append_own _ rfl _ _ 22 rfl w6.heap.size 49 b0 _ 7 56 Try.underlying22 hbi hz0 hz1 hz2 rfl (by decide) _ 0 [] rfl ⟨rfl, Or.inr ⟨w6.heap.size, 0, #[], rfl, Nat.le_refl _, Blk.new _ _ _, Nat.le_refl _, Nat.zero_le _, rfl, rfl⟩⟩ ⟨bl, off, none⟩ L cap (btL l) rfl HLN.out (HSRC.out _) btL_one (by unfold maxLen; omega) (by omega) (by simp) ?_; intro v' w7 hown' hgrow _)
  rw [Nat.zero_add] at hown'
  rcases hown'.2 with ⟨_, h0⟩ | ⟨g, cap', cur, rfl, hg0, hh, hn, hcap', hsz, htake⟩
  · omega
  have h67 : Below w6.heap.size w6 w7 := ((Below.refl _ _).alloc (Nat.le_refl _) _).grown hgrow (by simp) (fun k hk => by cases hk; exact Nat.le_refl _)
  have B7 : Blk w7 g 49 cur := hh
  have hg7 := B7.lt
  have H6 := Lib.hid (H6.out.below h67 H6.out.lt)
  have H7 := Lib.hid (H7.out.below h67 H7.out.lt)
  have HB := Lib.hid (bl_trans HB.out h67)
  have HT : Hid (cur.toList.take (l.length * 7) = btL l) := Lib.hid (by rw [HLL.out]; simpa using htake)
  have HX' := Lib.hid hx
  have HY' : Hid (l[m]? = some y) := Lib.hid (by rw [← hm]; exact hy)
  obtain ⟨x0, x1, x2, x3, x4, x5, x6⟩ := HX.out.same (fun j => HB.out.cell (p := ⟨bl, j, none⟩) hbl)
  obtain ⟨y0, y1, y2, y3, y4, y5, y6⟩ := HY.out.same (fun j => HB.out.cell (p := ⟨bl, j, none⟩) hbl)
  have zl7 : bl < w7.heap.size := by have := HB.out.size; omega
  have HB7 := Lib.hid B7
  clear hown' hgrow hh htake hsz h67 B7 hx hy hxD hyD
  go_wp2
  (refine wp_region_ble [0,1,2,3,4,5,6,7,8,9,10,11,12,13] [2,3,4] [14,15,16,17] (by kernel_rfl) (by kernel_rfl) (by rfl) (by repeat (first | exact panic_body | refine panic_then ?_ | refine panic_block ?_)) ?_
   simp only [pickI, pick, List.getElem?_cons_succ, List.getElem?_cons_zero]
   iterate 14 (first
     | (refine head_val (by rfl) (by rfl) ?_
        apply Exists.intro
        refine ⟨fun X hX => ?_, ?_⟩
        · (obtain ⟨qz, qc, qf⟩ := bcl hX.out (by first | (simp; rfl) | rfl)
           go_simp
           first | done | rfl | exact ⟨rfl, rfl⟩)
        simp only [Act.put, List.setIfInBounds_toArray, List.set_cons_zero, List.set_cons_succ])
     | (refine head_pure (by rfl) (by rfl) ?_
        apply Exists.intro
        refine ⟨fun X => ?_, ?_⟩
        · (go_simp
           first | done | rfl)
        simp only [Act.put, List.setIfInBounds_toArray, List.set_cons_zero, List.set_cons_succ])
     | (refine head_pass (by rfl) ?_
        simp only [Act.put, List.setIfInBounds_toArray, List.set_cons_zero, List.set_cons_succ]))
   refine head_nil ?_
   intro w' hw'
   have hb := hw'.out
   clear hw'
   obtain ⟨hz, hc, hf⟩ := bcl hb (by first | (simp; rfl) | rfl))
  have B8 := HB7.out.below hb hg7
  have hs7 : L * 7 ≤ cur.size := by
    have := congrArg List.length HT.out
    rw [btL_len, List.length_take, HLL.out] at this
    have h2 : cur.toList.length = cur.size := rfl
    omega
  have HTi := Lib.hid (there_of B8 hi0 hs7)
  have B9 := blk_setBt B8 i y
  have HTm := Lib.hid (there_of B9 hmL (by rw [setBt_size]; exact hs7))
  have B10 := blk_setBt B9 m x
  have HBB := Lib.hid hb
  have HB10 := Lib.hid B10
  clear B8 B9 B10 hb hz hc hf x0 x1 x2 x3 x4 x5 x6 y0 y1 y2 y3 y4 y5 y6
  refine wpList_plain rfl (fun K hK => ?_)
  unfold Oper.wp
  go_simp
  refine hK _ _ ?_
  refine wpList_store_mid rfl _ _ _ rfl g (i * 7) (btC y).toArray rfl rfl HTi.out rfl (btC_one y) ?_
  refine wpList_plain rfl (fun K hK => ?_)
  unfold Oper.wp
  go_simp
  refine hK _ _ ?_
  refine wpList_store_mid rfl _ _ _ rfl g (m * 7) (btC x).toArray rfl rfl HTm.out rfl (btC_one x) ?_
  obtain ⟨W9, hW9⟩ : ∃ W : World, (w'.setCells g (i * 7) (btC y).toArray.toList).setCells g (m * 7) (btC x).toArray.toList = W := ⟨_, rfl⟩
  rw [hW9]
  have hgw : w.heap.size ≤ g := by omega
  have HB : Hid (Below w.heap.size w W9) := Lib.hid (by
    rw [← hW9]
    exact bl_setCells hgw _ _ _ (bl_setCells hgw _ _ _ (bl_trans HB.out HBB.out)))
  have H6 : Hid (Blk W9 w.heap.size 24 #[.int .i64 f1, .int .i64 f2]) := Lib.hid (by
    rw [← hW9]
    exact blk_far (by omega) _ _ _ (blk_far (by omega) _ _ _ (H6.out.below HBB.out H6.out.lt)))
  have H7 : Hid (Blk W9 (w.heap.size + 1) 24 #[.int .i64 e1, .int .i64 e2]) := Lib.hid (by
    rw [← hW9]
    exact blk_far (by omega) _ _ _ (blk_far (by omega) _ _ _ (H7.out.below HBB.out H7.out.lt)))
  have HLO : Hid (Lst W9 W9.heap.size (some ⟨g, 0, none⟩) (swapL l i)) := Lib.hid (HLS.out W9 g cur (by have := HT.out; rw [HLL.out] at this; exact this) (by
    rw [hm, ← hW9]
    exact HB10.out))
  have HVal' : Hid (∀ A cap w, Lst w w.heap.size A (swapL l i) → Calls Try.prog 12 #[.int .i64 n, .slice A L cap] w (Ret (.bool true) w)) := Lib.hid (fun A cap w h => by
    have := HVal.out A cap w h
    rw [HVS.out] at this
    exact this)
  clear hW9
  have c60 : W9.cell? ⟨w.heap.size, 0, none⟩ = some (.int .i64 f1) := by simpa using H6.out.cell 0
  have c61 : W9.cell? ⟨w.heap.size, 1, none⟩ = some (.int .i64 f2) := by simpa using H6.out.cell 1
  have c70 : W9.cell? ⟨w.heap.size + 1, 0, none⟩ = some (.int .i64 e1) := by simpa using H7.out.cell 0
  have c71 : W9.cell? ⟨w.heap.size + 1, 1, none⟩ = some (.int .i64 e2) := by simpa using H7.out.cell 1
  go_wp2_with fail
  ((with_reducible refine (HRun.out _ (HL.out.up HB.out)).mono ?_); rintro e w10 ⟨b10, A10, c10, rfl, hR⟩)
  have HR4 := Lib.hid hR
  have H6 := Lib.hid (H6.out.below b10 H6.out.lt)
  have H7 := Lib.hid (H7.out.below b10 H7.out.lt)
  have HB := Lib.hid (bl_trans HB.out b10)
  have HLO := Lib.hid (HLO.out.up b10)
  clear hR b10 c60 c61 c70 c71
  have c60 : w10.cell? ⟨w.heap.size, 0, none⟩ = some (.int .i64 f1) := by simpa using H6.out.cell 0
  have c61 : w10.cell? ⟨w.heap.size, 1, none⟩ = some (.int .i64 f2) := by simpa using H6.out.cell 1
  have c70 : w10.cell? ⟨w.heap.size + 1, 0, none⟩ = some (.int .i64 e1) := by simpa using H7.out.cell 0
  have c71 : w10.cell? ⟨w.heap.size + 1, 1, none⟩ = some (.int .i64 e2) := by simpa using H7.out.cell 1
  go_wp2_with fail
  ((with_reducible refine (HRun2.out _ _ _ HLO.out).mono ?_); rintro e w11 ⟨b11, A11, c11, rfl, hR⟩)
  have HR4 := Lib.hid (HR4.out.up b11)
  have HR5 := Lib.hid hR
  have HB := Lib.hid (bl_trans HB.out b11)
  have HLO := Lib.hid (HLO.out.up b11)
  clear hR b11 c60 c61 c70 c71
  go_wp2_with fail
  ((with_reducible refine (HVal'.out _ _ _ HLO.out).mono ?_); rintro e w12 ⟨rfl, b12⟩)
  have HR4 := Lib.hid (HR4.out.up b12)
  have HR5 := Lib.hid (HR5.out.up b12)
  have HB := Lib.hid (bl_trans HB.out b12)
  clear b12
  go_wp2_with fail
  ((with_reducible refine (HSB.out _ _ _ _ _ HR4.out HR5.out).mono ?_); rintro e w13 ⟨rfl, b13⟩)
  have HB := Lib.hid (bl_trans HB.out b13)
  clear b13
  go_wp2
  go_ret
  exact ⟨rfl, HB.out⟩
end Go.Proofs.Ytkgklmmkkhbimaa
