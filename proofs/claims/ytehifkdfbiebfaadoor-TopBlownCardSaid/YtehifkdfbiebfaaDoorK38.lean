/- Horns: the step of Best. -/
import Derived.Test.YtehifkdfbiebfaaDoorK36
import Derived.Test.YtehifkdfbiebfaaDoorK37
namespace Go.Proofs.YtehifkdfbiebfaaDoor
open Go Go.RowKit

theorem blk_drew {W : World} {g : Nat} {t : TypeId} {cs : Array Value} (h : Blk W g t cs) : Blk W.drew g t cs := h.below (bl_drew (bl_refl _)) h.lt
/-- What one step of Best makes of the best blow (bx, by) at the distance l. -/
def TryP (s a : Nat → Int) (X S : Nat) (l : Nat → Int) (bx by' : Int) (pl pb : Nat) (w : World) (e : Ending) (w' : World) : Prop :=
  Below pb w w' ∧ ((dsE s a ≠ 0 ∧ e = .returned (.int .i64 3) ∧ Blk w' pl 72 (cell6 l) ∧ Blk w' pb 79 #[.int .i64 bx, .int .i64 by']) ∨
    (dsE s a = 0 ∧ e = .returned (.int .i64 0) ∧ (((bx = 0 ∧ by' = 0) ∨ pcN6 (dsF s a) l < 0) ∧ Blk w' pl 72 (cell6 (dsF s a)) ∧ Blk w' pb 79 #[.int .i64 (X : Int), .int .i64 (S : Int)] ∨
      (¬ (bx = 0 ∧ by' = 0) ∧ ¬ pcN6 (dsF s a) l < 0) ∧ Blk w' pl 72 (cell6 l) ∧ Blk w' pb 79 #[.int .i64 bx, .int .i64 by'])))
set_option maxRecDepth 100000 in
set_option maxHeartbeats 8000000 in
theorem Try_c (bs : Nat → Int) (A : Option Addr) (n cap : Nat) (g : Nat → Nat → Int) (mo tl : Int) (X S : Nat) (a l : Nat → Int) (bx by' : Int) (ph pa pl pb : Nat) (w : World) (hv : VecsR w w.heap.size A n g) (hP : PR w) (hQ : BP w) (hn : n ≤ 4) (hx1 : 1 ≤ X) (hx : X ≤ 16) (hs : S ≤ 15)
    (hb : ∀ i, i < 6 → -576 ≤ bs i ∧ bs i ≤ 576) (hg : ∀ k, k < n → ∀ i, i < 6 → -576 ≤ g k i ∧ g k i ≤ 576) (hbl : (bx = 0 ∧ by' = 0) ∨ 1 ≤ bx)
    (H1 : Blk w ph 75 #[.int .i64 (bs 0), .int .i64 (bs 1), .int .i64 (bs 2), .int .i64 (bs 3), .int .i64 (bs 4), .int .i64 (bs 5), .slice A n cap, .int .i64 mo, .int .i64 tl])
    (A1 : Blk w pa 72 (cell6 a)) (L1 : Blk w pl 72 (cell6 l)) (B1 : Blk w pb 79 #[.int .i64 bx, .int .i64 by']) (hbl2 : pb < pl) :
    Calls Tryd.prog 90 #[.agg #[.int .i64 (X : Int), .int .i64 (S : Int)], .pointer (some ⟨ph, 0, none⟩), .pointer (some ⟨pa, 0, none⟩), .pointer (some ⟨pl, 0, none⟩), .pointer (some ⟨pb, 0, none⟩)] w (TryP (sdF bs g n X S) a X S l bx by' pl pb w) := by
  have HSd : Hid (∀ W, Below w.heap.size w W → Calls Tryd.prog 79 #[.agg #[.int .i64 (bs 0), .int .i64 (bs 1), .int .i64 (bs 2), .int .i64 (bs 3), .int .i64 (bs 4), .int .i64 (bs 5), .slice A n cap, .int .i64 mo, .int .i64 tl], .agg #[.int .i64 (X : Int), .int .i64 (S : Int)]] W (Ret (.agg #[.int .i64 (sdF bs g n X S 0), .int .i64 (sdF bs g n X S 1), .int .i64 (sdF bs g n X S 2), .int .i64 (sdF bs g n X S 3), .int .i64 (sdF bs g n X S 4), .int .i64 (sdF bs g n X S 5)]) W)) :=
    Lib.hid (fun W hW => sound_c bs A n cap g mo tl X S W (hv.up hW) (hQ.up hW) hn hx1 hx hs hb hg)
  have HDi : Hid (∀ W, Below w.heap.size w W → Calls Tryd.prog 91 #[.agg #[.int .i64 (sdF bs g n X S 0), .int .i64 (sdF bs g n X S 1), .int .i64 (sdF bs g n X S 2), .int .i64 (sdF bs g n X S 3), .int .i64 (sdF bs g n X S 4), .int .i64 (sdF bs g n X S 5)], .agg #[.int .i64 (a 0), .int .i64 (a 1), .int .i64 (a 2), .int .i64 (a 3), .int .i64 (a 4), .int .i64 (a 5)]] W
      (Ret (.tuple #[.agg #[.int .i64 (dsF (sdF bs g n X S) a 0), .int .i64 (dsF (sdF bs g n X S) a 1), .int .i64 (dsF (sdF bs g n X S) a 2), .int .i64 (dsF (sdF bs g n X S) a 3), .int .i64 (dsF (sdF bs g n X S) a 4), .int .i64 (dsF (sdF bs g n X S) a 5)], .int .i64 (dsE (sdF bs g n X S) a)]) W)) := Lib.hid (fun W hW => dist_c _ _ W (hP.up hW))
  have HCm : Hid (∀ W, Below w.heap.size w W → Calls Tryd.prog 92 #[.agg #[.int .i64 (dsF (sdF bs g n X S) a 0), .int .i64 (dsF (sdF bs g n X S) a 1), .int .i64 (dsF (sdF bs g n X S) a 2), .int .i64 (dsF (sdF bs g n X S) a 3), .int .i64 (dsF (sdF bs g n X S) a 4), .int .i64 (dsF (sdF bs g n X S) a 5)], .agg #[.int .i64 (l 0), .int .i64 (l 1), .int .i64 (l 2), .int .i64 (l 3), .int .i64 (l 4), .int .i64 (l 5)]] W
      (Ret (.tuple #[.int .i64 (pcN6 (dsF (sdF bs g n X S) a) l), .int .i64 (pcE6 (dsF (sdF bs g n X S) a) l)]) W)) := Lib.hid (fun W hW => PCmp6 _ _ W (hP.up hW))
  have HYd : Hid (cell6 (dsF (sdF bs g n X S) a) = #[.int .i64 (dsF (sdF bs g n X S) a 0), .int .i64 (dsF (sdF bs g n X S) a 1), .int .i64 (dsF (sdF bs g n X S) a 2), .int .i64 (dsF (sdF bs g n X S) a 3), .int .i64 (dsF (sdF bs g n X S) a 4), .int .i64 (dsF (sdF bs g n X S) a 5)]) := Lib.hid rfl
  have HT1 : Hid (∀ w', Below pb w w' → dsE (sdF bs g n X S) a ≠ 0 → Blk w' pl 72 (cell6 l) → Blk w' pb 79 #[.int .i64 bx, .int .i64 by'] → TryP (sdF bs g n X S) a X S l bx by' pl pb w (.returned (.int .i64 3)) w') := Lib.hid (fun w' h1 h2 h3 h4 => ⟨h1, .inl ⟨h2, rfl, h3, h4⟩⟩)
  have HT2 : Hid (∀ w', Below pb w w' → dsE (sdF bs g n X S) a = 0 → ((bx = 0 ∧ by' = 0) ∨ pcN6 (dsF (sdF bs g n X S) a) l < 0) → Blk w' pl 72 (cell6 (dsF (sdF bs g n X S) a)) → Blk w' pb 79 #[.int .i64 (X : Int), .int .i64 (S : Int)] → TryP (sdF bs g n X S) a X S l bx by' pl pb w (.returned (.int .i64 0)) w') := Lib.hid (fun w' h1 h2 h3 h4 h5 => ⟨h1, .inr ⟨h2, rfl, .inl ⟨h3, h4, h5⟩⟩⟩)
  have HT3 : Hid (∀ w', Below pb w w' → dsE (sdF bs g n X S) a = 0 → 1 ≤ bx → 0 ≤ pcN6 (dsF (sdF bs g n X S) a) l → Blk w' pl 72 (cell6 l) → Blk w' pb 79 #[.int .i64 bx, .int .i64 by'] → TryP (sdF bs g n X S) a X S l bx by' pl pb w (.returned (.int .i64 0)) w') := Lib.hid (fun w' h1 h2 h3 h4 h5 h6 => ⟨h1, .inr ⟨h2, rfl, .inr ⟨⟨fun h => by omega, by omega⟩, h5, h6⟩⟩⟩)
  generalize TryP (sdF bs g n X S) a X S l bx by' pl pb w = R at *
  have g0 := H1.cell 0
  have g1 := H1.cell 1
  have g2 := H1.cell 2
  have g3 := H1.cell 3
  have g4 := H1.cell 4
  have g5 := H1.cell 5
  have g6 := H1.cell 6
  have g7 := H1.cell 7
  have g8 := H1.cell 8
  have zh := H1.lt
  have a0 := A1.cell 0
  have a1 := A1.cell 1
  have a2 := A1.cell 2
  have a3 := A1.cell 3
  have a4 := A1.cell 4
  have a5 := A1.cell 5
  have za := A1.lt
  unfold cell6 at a0 a1 a2 a3 a4 a5
  simp only [List.getElem?_toArray, List.getElem?_cons_zero, List.getElem?_cons_succ] at g0 g1 g2 g3 g4 g5 g6 g7 g8 a0 a1 a2 a3 a4 a5
  have HL1 := Lib.hid L1
  have HB1 := Lib.hid B1
  have zb := B1.lt
  have HBL := Lib.hid hbl
  clear hv hP hQ hb hg H1 A1 L1 B1 hbl
  generalize pcN6 (dsF (sdF bs g n X S) a) l = cn at *
  generalize pcE6 (dsF (sdF bs g n X S) a) l = ce at *
  generalize dsE (sdF bs g n X S) a = dE at *
  generalize dsF (sdF bs g n X S) a 0 = d0 at *
  generalize dsF (sdF bs g n X S) a 1 = d1 at *
  generalize dsF (sdF bs g n X S) a 2 = d2 at *
  generalize dsF (sdF bs g n X S) a 3 = d3 at *
  generalize dsF (sdF bs g n X S) a 4 = d4 at *
  generalize dsF (sdF bs g n X S) a 5 = d5 at *
  generalize dsF (sdF bs g n X S) a = dF at *
  generalize sdF bs g n X S 0 = s0 at *
  generalize sdF bs g n X S 1 = s1 at *
  generalize sdF bs g n X S 2 = s2 at *
  generalize sdF bs g n X S 3 = s3 at *
  generalize sdF bs g n X S 4 = s4 at *
  generalize sdF bs g n X S 5 = s5 at *
  go_enter Tryd.func90, Tryd.ntmps90
  go_wp2
  (refine wp_region_alloc [0,1,2,3,4,5,6,7] [7] [9,10] 8 72 #[.int .i64 0, .int .i64 0, .int .i64 0, .int .i64 0, .int .i64 0, .int .i64 0] _ (by kernel_rfl) (by kernel_rfl) (by kernel_rfl) (by rfl) (by repeat (first | (with_reducible refine panic_then ?_) | (with_reducible refine panic_block ?_) | (with_reducible exact panic_body) | exact panic_body | refine panic_then ?_ | refine panic_block ?_)) rfl (fun _ _ => by go_simp) ?_
   simp only [pickI, pick, List.getElem?_cons_succ, List.getElem?_cons_zero]
   iterate 8 (first
     | (refine headZ_val (by rfl) (by first | exact wanted_free rfl | rfl) ?_
        apply Exists.intro
        refine ⟨fun X hX => ?_, ?_⟩
        · (obtain ⟨qz, qc, qf⟩ := bcl hX.out (by first | (simp; rfl) | rfl)
           go_simp
           first | done | (first | (go_at_call 79; ((with_reducible refine (HSd.out _ (bl_trans (by (repeat (first | (with_reducible exact bl_refl _) | (with_reducible refine bl_drew ?_) | (with_reducible refine bl_alloc ?_ _) | (with_reducible refine bl_set' ?_ ?_; · (first | omega | (simp; done) | (simp; omega))) | (with_reducible refine bl_last (by assumption) ?_) | (with_reducible refine bl_drewN ?_ _)))) hX.out)).mono ?_); rintro e w2 ⟨rfl, hb2⟩; exact ⟨rfl, hb2⟩)) | (go_at_call 91; ((with_reducible refine (HDi.out _ (bl_trans (by (repeat (first | (with_reducible exact bl_refl _) | (with_reducible refine bl_drew ?_) | (with_reducible refine bl_alloc ?_ _) | (with_reducible refine bl_set' ?_ ?_; · (first | omega | (simp; done) | (simp; omega))) | (with_reducible refine bl_last (by assumption) ?_) | (with_reducible refine bl_drewN ?_ _)))) hX.out)).mono ?_); rintro e w2 ⟨rfl, hb2⟩; exact ⟨rfl, hb2⟩))) | rfl | exact ⟨rfl, rfl⟩)
        simp only [Act.put, List.setIfInBounds_toArray, List.set_cons_zero, List.set_cons_succ])
     | (refine headZ_pure (by rfl) (by first | exact wanted_free rfl | rfl) ?_
        apply Exists.intro
        refine ⟨fun X => ?_, ?_⟩
        · (go_simp
           first | done | rfl)
        simp only [Act.put, List.setIfInBounds_toArray, List.set_cons_zero, List.set_cons_succ])
     | (refine headZ_pass (by rfl) ?_
        simp only [Act.put, List.setIfInBounds_toArray, List.set_cons_zero, List.set_cons_succ]))
   refine headZ_nil ?_
   intro w' Bq hw' hBq hBk
   have hb := hw'.out
   clear hw'
   try simp only [List.setIfInBounds_toArray, List.set_cons_zero, List.set_cons_succ]
   obtain ⟨hz, hc, hf⟩ := bcl hb (by first | (simp; rfl) | rfl))
  have k1 : Below w.heap.size w w' := bl_trans (bl_alloc (bl_refl _) _) hb
  have X1 : Blk w' w.heap.size 79 #[.int .i64 (X : Int), .int .i64 (S : Int)] := (Blk.new _ _ _).below hb (Blk.new _ _ _).lt
  have hBq2 : w.heap.size < Bq := by simp at hBq; omega
  have zl1 : pl < w.heap.size := HL1.out.lt
  have HL2 := Lib.hid (HL1.out.below k1 HL1.out.lt)
  have HB2 := Lib.hid (HB1.out.below k1 HB1.out.lt)
  have f0 := hBk.frozen 0
  have f1 := hBk.frozen 1
  have f2 := hBk.frozen 2
  have f3 := hBk.frozen 3
  have f4 := hBk.frozen 4
  have f5 := hBk.frozen 5
  have e0 := hBk.cell 0
  have e1 := hBk.cell 1
  have e2 := hBk.cell 2
  have e3 := hBk.cell 3
  have e4 := hBk.cell 4
  have e5 := hBk.cell 5
  have zq := hBk.lt
  simp only [List.getElem?_toArray, List.getElem?_cons_zero, List.getElem?_cons_succ] at e0 e1 e2 e3 e4 e5
  have HX1 := Lib.hid X1
  have HBk := Lib.hid hBk
  have hk1 := k1.size
  clear g0 g1 g2 g3 g4 g5 g6 g7 g8 zh a0 a1 a2 a3 a4 a5 za zb hb hz hc hf X1 hBk hBq HL1 HB1 HSd HDi
  go_upto_region 2 with fail
  refine wp_letter ?_
  intro W2 hW2
  have HK2 : Hid (Below w.heap.size w W2) := Lib.hid (by
    rw [hW2]
    (repeat (first | (with_reducible exact k1) | (with_reducible refine bl_set' ?_ ?_; · (dsimp only; omega)))))
  have HD2 : Hid (Blk W2 Bq 72 #[.int .i64 d0, .int .i64 d1, .int .i64 d2, .int .i64 d3, .int .i64 d4, .int .i64 d5]) := Lib.hid (by rw [hW2]; exact blk_st6 HBk.out)
  have HL3 : Hid (Blk W2 pl 72 (cell6 l)) := Lib.hid (by
    rw [hW2]
    exact blk_far (by omega) (blk_far (by omega) (blk_far (by omega) (blk_far (by omega) (blk_far (by omega) (blk_far (by omega) HL2.out))))))
  have HB3 : Hid (Blk W2 pb 79 #[.int .i64 bx, .int .i64 by']) := Lib.hid (by
    rw [hW2]
    exact blk_far (by omega) (blk_far (by omega) (blk_far (by omega) (blk_far (by omega) (blk_far (by omega) (blk_far (by omega) HB2.out))))))
  have HX3 : Hid (Blk W2 w.heap.size 79 #[.int .i64 (X : Int), .int .i64 (S : Int)]) := Lib.hid (by
    rw [hW2]
    exact blk_far (by omega) (blk_far (by omega) (blk_far (by omega) (blk_far (by omega) (blk_far (by omega) (blk_far (by omega) HX1.out))))))
  clear hW2 k1 hk1 f0 f1 f2 f3 f4 f5 e0 e1 e2 e3 e4 e5 zq HBk HX1 HL2 HB2
  by_cases hE : dE = 0
  · have q1 : (dE != 0) = false := by rw [hE]; rfl
    have HE := Lib.hid hE
    clear hE
    have e0 := HD2.out.cell 0
    have e1 := HD2.out.cell 1
    have e2 := HD2.out.cell 2
    have e3 := HD2.out.cell 3
    have e4 := HD2.out.cell 4
    have e5 := HD2.out.cell 5
    have zq := HD2.out.lt
    have l0 := HL3.out.cell 0
    have l1 := HL3.out.cell 1
    have l2 := HL3.out.cell 2
    have l3 := HL3.out.cell 3
    have l4 := HL3.out.cell 4
    have l5 := HL3.out.cell 5
    have zl := HL3.out.lt
    unfold cell6 at l0 l1 l2 l3 l4 l5
    simp only [List.getElem?_toArray, List.getElem?_cons_zero, List.getElem?_cons_succ] at e0 e1 e2 e3 e4 e5 l0 l1 l2 l3 l4 l5
    go_wp2_with fail
    (with_reducible refine (HCm.out _ HK2.out).mono ?_)
    rintro en W3 ⟨rfl, hb3⟩
    have HK3 := Lib.hid (bl_trans HK2.out hb3)
    have HD3 := Lib.hid (HD2.out.below hb3 HD2.out.lt)
    have HL4 := Lib.hid (HL3.out.below hb3 HL3.out.lt)
    have HB4 := Lib.hid (HB3.out.below hb3 HB3.out.lt)
    have HX4 := Lib.hid (HX3.out.below hb3 HX3.out.lt)
    clear e0 e1 e2 e3 e4 e5 zq l0 l1 l2 l3 l4 l5 zl hb3 HD2 HL3 HB3 HX3 HCm
    have x0 := HB4.out.cell 0
    have x1 := HB4.out.cell 1
    have zx := HB4.out.lt
    simp only [List.getElem?_toArray, List.getElem?_cons_zero, List.getElem?_cons_succ] at x0 x1
    have hways : ((bx = 0 ∧ by' = 0) ∨ (1 ≤ bx ∧ cn < 0)) ∨ (1 ≤ bx ∧ 0 ≤ cn) := by
      rcases HBL.out with h | h
      · exact .inl (.inl h)
      · by_cases h2 : cn < 0
        · exact .inl (.inr ⟨h, h2⟩)
        · exact .inr ⟨h, by omega⟩
    rcases hways with hw | ⟨hw1, hw2⟩
    · have HW : Hid ((bx = 0 ∧ by' = 0) ∨ cn < 0) := Lib.hid (hw.imp id (fun h => h.2))
      rcases hw with ⟨rfl, rfl⟩ | ⟨hw1, hw2⟩
      · have y0 := HX4.out.cell 0
        have y1 := HX4.out.cell 1
        have zy := HX4.out.lt
        have e0 := HD3.out.cell 0
        have e1 := HD3.out.cell 1
        have e2 := HD3.out.cell 2
        have e3 := HD3.out.cell 3
        have e4 := HD3.out.cell 4
        have e5 := HD3.out.cell 5
        have zq := HD3.out.lt
        have f0 := HL4.out.frozen 0
        have f1 := HL4.out.frozen 1
        have f2 := HL4.out.frozen 2
        have f3 := HL4.out.frozen 3
        have f4 := HL4.out.frozen 4
        have f5 := HL4.out.frozen 5
        have l0 := HL4.out.cell 0
        have l1 := HL4.out.cell 1
        have l2 := HL4.out.cell 2
        have l3 := HL4.out.cell 3
        have l4 := HL4.out.cell 4
        have l5 := HL4.out.cell 5
        have zl := HL4.out.lt
        have f6 := HB4.out.frozen 0
        have f7 := HB4.out.frozen 1
        unfold cell6 at l0 l1 l2 l3 l4 l5
        simp only [List.getElem?_toArray, List.getElem?_cons_zero, List.getElem?_cons_succ] at y0 y1 e0 e1 e2 e3 e4 e5 l0 l1 l2 l3 l4 l5
        go_wp2
        go_region
        refine br_letter ?_
        intro W5 hW5
        have HK5 : Hid (Below pb w W5) := Lib.hid (by
          rw [hW5]
          have hbb := HK3.out.mono (show pb ≤ w.heap.size by omega)
          (repeat (first | (with_reducible exact hbb) | (with_reducible refine Below.drew ?_) | (with_reducible refine Below.setCell ?_ ?_ _; rotate_left; · (dsimp only; omega)))))
        have HL5 : Hid (Blk W5 pl 72 (cell6 dF)) := Lib.hid (by
          rw [hW5, HYd.out]
          exact blk_drew (blk_st6 (blk_far (by omega) (blk_far (by omega) HL4.out))))
        have HB5 : Hid (Blk W5 pb 79 #[.int .i64 (X : Int), .int .i64 (S : Int)]) := Lib.hid (by
          rw [hW5]
          exact blk_drew (blk_far (by omega) (blk_far (by omega) (blk_far (by omega) (blk_far (by omega) (blk_far (by omega) (blk_far (by omega) (blk_st2 HB4.out))))))))
        clear hW5 e0 e1 e2 e3 e4 e5 zq l0 l1 l2 l3 l4 l5 zl f0 f1 f2 f3 f4 f5 f6 f7 y0 y1 zy x0 x1 zx HL4 HB4 HX4
        go_wp2
        try go_ret
        exact HT2.out _ HK5.out HE.out HW.out HL5.out HB5.out
      · have q2 : decide (cn < 0) = true := decide_eq_true hw2
        have hne : ¬ bx = 0 := by omega
        have hne2 : (bx == 0) = false := by rw [beq_eq_false_iff_ne]; exact hne
        clear hw1 hw2
        have y0 := HX4.out.cell 0
        have y1 := HX4.out.cell 1
        have zy := HX4.out.lt
        have e0 := HD3.out.cell 0
        have e1 := HD3.out.cell 1
        have e2 := HD3.out.cell 2
        have e3 := HD3.out.cell 3
        have e4 := HD3.out.cell 4
        have e5 := HD3.out.cell 5
        have zq := HD3.out.lt
        have f0 := HL4.out.frozen 0
        have f1 := HL4.out.frozen 1
        have f2 := HL4.out.frozen 2
        have f3 := HL4.out.frozen 3
        have f4 := HL4.out.frozen 4
        have f5 := HL4.out.frozen 5
        have l0 := HL4.out.cell 0
        have l1 := HL4.out.cell 1
        have l2 := HL4.out.cell 2
        have l3 := HL4.out.cell 3
        have l4 := HL4.out.cell 4
        have l5 := HL4.out.cell 5
        have zl := HL4.out.lt
        have f6 := HB4.out.frozen 0
        have f7 := HB4.out.frozen 1
        unfold cell6 at l0 l1 l2 l3 l4 l5
        simp only [List.getElem?_toArray, List.getElem?_cons_zero, List.getElem?_cons_succ] at y0 y1 e0 e1 e2 e3 e4 e5 l0 l1 l2 l3 l4 l5
        go_wp2
        go_region
        refine br_letter ?_
        intro W5 hW5
        have HK5 : Hid (Below pb w W5) := Lib.hid (by
          rw [hW5]
          have hbb := HK3.out.mono (show pb ≤ w.heap.size by omega)
          (repeat (first | (with_reducible exact hbb) | (with_reducible refine Below.drew ?_) | (with_reducible refine Below.setCell ?_ ?_ _; rotate_left; · (dsimp only; omega)))))
        have HL5 : Hid (Blk W5 pl 72 (cell6 dF)) := Lib.hid (by
          rw [hW5, HYd.out]
          exact blk_drew (blk_st6 (blk_far (by omega) (blk_far (by omega) HL4.out))))
        have HB5 : Hid (Blk W5 pb 79 #[.int .i64 (X : Int), .int .i64 (S : Int)]) := Lib.hid (by
          rw [hW5]
          exact blk_drew (blk_far (by omega) (blk_far (by omega) (blk_far (by omega) (blk_far (by omega) (blk_far (by omega) (blk_far (by omega) (blk_st2 HB4.out))))))))
        clear hW5 e0 e1 e2 e3 e4 e5 zq l0 l1 l2 l3 l4 l5 zl f0 f1 f2 f3 f4 f5 f6 f7 y0 y1 zy x0 x1 zx HL4 HB4 HX4
        go_wp2
        try go_ret
        exact HT2.out _ HK5.out HE.out HW.out HL5.out HB5.out
    · have HW : Hid (1 ≤ bx ∧ 0 ≤ cn) := Lib.hid ⟨hw1, hw2⟩
      have q2 : decide (cn < 0) = false := decide_eq_false (by omega)
      have hne : ¬ bx = 0 := by omega
      have hne2 : (bx == 0) = false := by rw [beq_eq_false_iff_ne]; exact hne
      clear hw1 hw2
      go_wp2
      try go_ret
      exact HT3.out _ (HK3.out.mono (by omega)) HE.out HW.out.1 HW.out.2 HL4.out HB4.out
  · have q1 : (dE != 0) = true := by simpa using hE
    have HE := Lib.hid hE
    clear hE
    go_wp2
    try go_ret
    exact HT1.out _ (HK2.out.mono (by omega)) HE.out HL3.out HB3.out
end Go.Proofs.YtehifkdfbiebfaaDoor
