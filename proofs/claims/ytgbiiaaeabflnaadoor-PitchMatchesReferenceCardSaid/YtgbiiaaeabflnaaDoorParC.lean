/- Pitch: Parse. -/
import Derived.Test.YtgbiiaaeabflnaaDoorParB
import Derived.Deep.DeepCutAuto
namespace Go.Proofs.YtgbiiaaeabflnaaDoor
open Go Go.RowKit

def parW (l : List UInt8) (G : Option (Nat → Int)) : Value := match G with
  | none => zP
  | some E => if parOK l E then .tuple #[.agg (cell6 E), .int .i64 0] else zP
theorem bodyPost_letter {P : Program} {fn : Func} {R : Ending → World → Prop} {e : Exit} {a : Act} {w : World} (h : ∀ W, W = w → bodyPost P fn R e a W) : bodyPost P fn R e a w := h w rfl
/-- The state of Parse. -/
structure PS (w : World) (E : Nat → Int) (l : List UInt8) (W : World) : Prop where
  below : Below w.heap.size w W
  a : Blk W w.heap.size 23 #[.int .i64 0, .int .i64 0, .int .i64 0, .int .i64 0, .int .i64 0, .int .i64 0]
  b : Blk W (w.heap.size + 1) 23 (cell6 E)
  r : Blk W (w.heap.size + 1 + 1) 9 #[.string ⟨l.toArray⟩]
theorem RestP.keep {R g : Nat} {w w' : World} {l : List UInt8} {t : TypeId} {cs : Array Value} (h : RestP R w l w') (hb : Blk w g t cs) (hg : g ≠ R) : Blk w' g t cs := hb.same (h.1.block g hb.lt (fun e => hg (Option.some.inj e)))
theorem PS.rest {w W W' : World} {E : Nat → Int} {l l' : List UInt8} (h : PS w E l W) (hr : RestP (w.heap.size + 1 + 1) W l' W') : PS w E l' W' :=
  ⟨h.below.trans ⟨hr.1.os, hr.1.tape, hr.1.output, hr.1.size, fun k hk => hr.1.block k (by have := h.below.size; omega) (fun e => by have := Option.some.inj e; omega)⟩,
    hr.keep h.a (by omega), hr.keep h.b (by omega), hr.2⟩
theorem PS.set {w W : World} {E : Nat → Int} {l : List UInt8} (h : PS w E l W) {k : Nat} (hk : k < 6) (x : Int) : PS w (upd6 E k x) l (W.setCell ⟨w.heap.size + 1, k, none⟩ (.int .i64 x)) :=
  ⟨bl_set' (by show w.heap.size ≤ w.heap.size + 1; omega) h.below, h.a.far (by show w.heap.size ≠ w.heap.size + 1; omega) _, by rw [← cell6_set E hk]; exact h.b.set_ k _, h.r.far (by show w.heap.size + 1 + 1 ≠ w.heap.size + 1; omega) _⟩
def restLen (R : Nat) (w : World) : Nat := match w.cell? ⟨R, 0, none⟩ with
  | some (.string s) => s.size
  | _ => 0
theorem PS.restLen {w W : World} {E : Nat → Int} {l : List UInt8} (h : PS w E l W) : restLen (w.heap.size + 1 + 1) W = l.length := by
  have c := h.r.cell 0
  simp only [List.getElem?_toArray, List.getElem?_cons_zero] at c
  unfold Go.Proofs.YtgbiiaaeabflnaaDoor.restLen
  rw [c]
  simp [ByteArray.size]
set_option maxRecDepth 100000 in
set_option maxHeartbeats 8000000 in
theorem PParse_c (l : List UInt8) (w : World) (hl : l.length ≤ 200) (hP : PR w) (hQ : PW w) : Calls Tryd.prog 14 #[.string ⟨l.toArray⟩] w (Ret (parV l) w) := by
  have hmf := mkFunc
  obtain ⟨G, hG⟩ : ∃ G, parF (l.length + 1) l (fun _ => 0) = G := ⟨_, rfl⟩
  have hV : parV l = parW l G := by
    unfold parV parW par
    rw [hG]
    cases G <;> rfl
  generalize parV l = VV at *
  have HG0 := Lib.hid hG
  have HV := Lib.hid hV
  have HPr := Lib.hid hP
  have HPw := Lib.hid hQ
  have HX := Lib.hid (fun i h w => idx_prm i h w)
  obtain ⟨S, hS⟩ : ∃ S : ByteArray, S = ⟨l.toArray⟩ := ⟨_, rfl⟩
  rw [← hS]
  have HSS := Lib.hid hS
  clear hG hV hP hQ hS
  go_enter Tryd.func14, Tryd.ntmps14
  go_wp2
  go_loopw [] (fun wr => ∃ (f : Nat) (l' : List UInt8) (E : Nat → Int), Hid (parF f l' E = G) ∧ l'.length < f ∧ l'.length ≤ 200 ∧ Hid (PS w E l' wr)) (fun wr => restLen (w.heap.size + 1 + 1) wr)
  case atStart =>
    refine ⟨l.length + 1, l, fun _ => 0, HG0, by omega, hl, Lib.hid ⟨by (repeat (first | (with_reducible exact bl_refl _) | (with_reducible refine bl_drew ?_) | (with_reducible refine bl_alloc ?_ _) | (with_reducible refine bl_set' ?_ ?_; · (first | omega | (simp; done) | (simp; omega))) | (with_reducible refine bl_last (by assumption) ?_) | (with_reducible refine bl_drewN ?_ _))), ?_, ?_, ?_⟩⟩
    · exact Blk.alloc (Blk.alloc (Blk.new _ _ _) _) _
    · show Blk _ (w.heap.size + 1) 23 #[.int .i64 0, .int .i64 0, .int .i64 0, .int .i64 0, .int .i64 0, .int .i64 0]
      exact Blk.alloc (blkAt _ _ _ _ (by simp)) _
    · rw [← HSS.out]
      exact blkAt _ _ _ _ (by simp)
  case round =>
    obtain ⟨f, l', E, HG, hf, hl', HS⟩ := hrel
    have HLen := Lib.hid HS.out.restLen
    go_wp2_with fail
    refine (number_c l' _ _ HS.out.r (by omega)).mono ?_
    rintro en W1 ⟨rfl, r1⟩
    have S1 := Lib.hid (HS.out.rest r1)
    clear r1
    go_wp2_with fail
    refine (cut_c 94 _ _ _ S1.out.r (by have := numR_len 3 l'; omega)).mono ?_
    rintro en W2 ⟨rfl, r2⟩
    have S2 := Lib.hid (S1.out.rest r2)
    clear r2
    go_upto_if 22 with fail
    go_cut [9, 10] (fun e d W => e = .int .i64 (stE l') ∧ d = .int .i64 (stD l') ∧ Hid (PS w E (stR l') W))
    case first =>
      as_aux_lemma =>
      cases hX : cutB 94 (numR 3 l')
      · have e1 : stE l' = 1 := by unfold stE stX; rw [hX]; rfl
        have e2 : stD l' = 1 := by unfold stD stX; rw [hX]; rfl
        have e3 : stR l' = cutR 94 (numR 3 l') := by unfold stR stX stL; rw [hX]; rfl
        go_wp2
        go_meet
        case rel => exact ⟨by rw [e1], by rw [e2], by rw [e3]; exact S2⟩
      · go_wp2_with fail
        refine (cut_c 45 _ _ _ S2.out.r (by have := stL_len l'; unfold stL at this; omega)).mono ?_
        rintro en W3 ⟨rfl, r3⟩
        have S3 := Lib.hid (S2.out.rest r3)
        clear r3
        go_wp2_with fail
        refine (number_c _ _ _ S3.out.r (by have := stL3_len l'; unfold stL3 stL at this; omega)).mono ?_
        rintro en W4 ⟨rfl, r4⟩
        have S4 := Lib.hid (S3.out.rest r4)
        clear r4
        have hn := num_le (cutR 45 (cutR 94 (numR 3 l')))
        have wn : IntKind.i64.wrap (-(numN 3 0 (cutR 45 (cutR 94 (numR 3 l'))) : Int)) = -(numN 3 0 (cutR 45 (cutR 94 (numR 3 l'))) : Int) := by rw [IntKind.wrap_i64]; omega
        cases hM : cutB 45 (cutR 94 (numR 3 l'))
        · go_wp2_with fail
          refine (cut_c 47 _ _ _ S4.out.r (by have := stL4_len l'; unfold stL4 stL3 stL at this; omega)).mono ?_
          rintro en W5 ⟨rfl, r5⟩
          have S5 := Lib.hid (S4.out.rest r5)
          clear r5
          have f1 : stE l' = (numN 3 0 (cutR 45 (cutR 94 (numR 3 l'))) : Int) := by unfold stE stX stM stL3 stL; rw [hX, hM]; rfl
          cases hS : cutB 47 (numR 3 (cutR 45 (cutR 94 (numR 3 l'))))
          · have f2 : stD l' = 1 := by unfold stD stX stL4 stL3 stL; rw [hX, hS]; rfl
            have f3 : stR l' = cutR 47 (numR 3 (cutR 45 (cutR 94 (numR 3 l')))) := by unfold stR stX stL4 stL3 stL; rw [hX, hS]; rfl
            go_wp2
            go_meet
            case rel => exact ⟨by rw [f1], by rw [f2], by rw [f3]; exact S5⟩
          · have f2 : stD l' = (numN 3 0 (cutR 47 (numR 3 (cutR 45 (cutR 94 (numR 3 l'))))) : Int) := by unfold stD stX stL4 stL3 stL; rw [hX, hS]; rfl
            have f3 : stR l' = numR 3 (cutR 47 (numR 3 (cutR 45 (cutR 94 (numR 3 l'))))) := by unfold stR stX stL4 stL3 stL; rw [hX, hS]; rfl
            go_wp2_with fail
            refine (number_c _ _ _ S5.out.r (by have := stL4_len l'; have := cutR_len 47 (stL4 l'); unfold stL4 stL3 stL at *; omega)).mono ?_
            rintro en W6 ⟨rfl, r6⟩
            have S6 := Lib.hid (S5.out.rest r6)
            clear r6
            go_wp2
            go_meet
            case rel => exact ⟨by rw [f1], by rw [f2], by rw [f3]; exact S6⟩
        · go_wp2_with fail
          refine (cut_c 47 _ _ _ S4.out.r (by have := stL4_len l'; unfold stL4 stL3 stL at this; omega)).mono ?_
          rintro en W5 ⟨rfl, r5⟩
          have S5 := Lib.hid (S4.out.rest r5)
          clear r5
          have f1 : stE l' = -(numN 3 0 (cutR 45 (cutR 94 (numR 3 l'))) : Int) := by unfold stE stX stM stL3 stL; rw [hX, hM]; rfl
          cases hS : cutB 47 (numR 3 (cutR 45 (cutR 94 (numR 3 l'))))
          · have f2 : stD l' = 1 := by unfold stD stX stL4 stL3 stL; rw [hX, hS]; rfl
            have f3 : stR l' = cutR 47 (numR 3 (cutR 45 (cutR 94 (numR 3 l')))) := by unfold stR stX stL4 stL3 stL; rw [hX, hS]; rfl
            go_wp2
            go_meet
            case rel => exact ⟨by rw [f1], by rw [f2], by rw [f3]; exact S5⟩
          · have f2 : stD l' = (numN 3 0 (cutR 47 (numR 3 (cutR 45 (cutR 94 (numR 3 l'))))) : Int) := by unfold stD stX stL4 stL3 stL; rw [hX, hS]; rfl
            have f3 : stR l' = numR 3 (cutR 47 (numR 3 (cutR 45 (cutR 94 (numR 3 l'))))) := by unfold stR stX stL4 stL3 stL; rw [hX, hS]; rfl
            go_wp2_with fail
            refine (number_c _ _ _ S5.out.r (by have := stL4_len l'; have := cutR_len 47 (stL4 l'); unfold stL4 stL3 stL at *; omega)).mono ?_
            rintro en W6 ⟨rfl, r6⟩
            have S6 := Lib.hid (S5.out.rest r6)
            clear r6
            go_wp2
            go_meet
            case rel => exact ⟨by rw [f1], by rw [f2], by rw [f3]; exact S6⟩
    case rest =>
    obtain ⟨rfl, rfl, HS2⟩ := hcut
    clear S1 S2 HS
    have hE := stE_bd l'
    have hD := stD_bd l'
    have hB := stV_bd l'
    have w1 : IntKind.i64.wrap (stE l' * 12) = stE l' * 12 := by rw [IntKind.wrap_i64]; omega
    have w2 : IntKind.i64.wrap ((stE l' * 12).tdiv (stD l')) = (stE l' * 12).tdiv (stD l') := by
      have : (stE l' * 12).tdiv (stD l') = stV l' := rfl
      rw [this, IntKind.wrap_i64]; omega
    have hfl : ∃ f', f = f' + 1 := ⟨f - 1, by omega⟩
    obtain ⟨f', rfl⟩ := hfl
    have aA := HS2.out.a
    have aB := HS2.out.b
    have lA := aA.lt
    have lB := aB.lt
    have lR := HS2.out.r.lt
    by_cases hd1 : stD l' < 1
    case pos =>
      have hOK : stOK l' = false := by unfold stOK; rw [decide_eq_false (by omega)]; rfl
      have hGn : none = G := by
        have h := HG.out
        unfold parF at h
        rw [hOK] at h
        exact h
      have hv := HV
      rw [← hGn] at hv
      have hv : VV = zP := hv
      have g0 := aA.frozen 0
      have g1 := aA.frozen 1
      have g2 := aA.frozen 2
      have g3 := aA.frozen 3
      have g4 := aA.frozen 4
      have g5 := aA.frozen 5
      have f0 := aA.cell 0
      have f1 := aA.cell 1
      have f2 := aA.cell 2
      have f3 := aA.cell 3
      have f4 := aA.cell 4
      have f5 := aA.cell 5
      simp only [List.getElem?_toArray, List.getElem?_cons_zero, List.getElem?_cons_succ] at f0 f1 f2 f3 f4 f5
      go_wp2
      refine bodyPost_ret (v := .tuple #[.agg #[.int .i64 0, .int .i64 0, .int .i64 0, .int .i64 0, .int .i64 0, .int .i64 0], .int .i64 8]) (by simp only [results, Tryd.results14]; go_simp) rfl ⟨by first | rfl | (rw [hv]; rfl), ?_⟩
      repeat (first | (with_reducible exact HS2.out.below) | (with_reducible refine bl_set' ?_ ?_; · (dsimp only; omega)))
    by_cases hd2 : (stE l' * 12).tmod (stD l') = 0
    case neg =>
      have hOK : stOK l' = false := by unfold stOK; rw [decide_eq_false hd2, Bool.and_false]
      have hGn : none = G := by
        have h := HG.out
        unfold parF at h
        rw [hOK] at h
        exact h
      have hv := HV
      rw [← hGn] at hv
      have hv : VV = zP := hv
      have hd3 : ((stE l' * 12).tmod (stD l') != 0) = true := by simpa using hd2
      have hd0 : stD l' ≠ 0 := by omega
      have g0 := aA.frozen 0
      have g1 := aA.frozen 1
      have g2 := aA.frozen 2
      have g3 := aA.frozen 3
      have g4 := aA.frozen 4
      have g5 := aA.frozen 5
      have f0 := aA.cell 0
      have f1 := aA.cell 1
      have f2 := aA.cell 2
      have f3 := aA.cell 3
      have f4 := aA.cell 4
      have f5 := aA.cell 5
      simp only [List.getElem?_toArray, List.getElem?_cons_zero, List.getElem?_cons_succ] at f0 f1 f2 f3 f4 f5
      go_wp2
      refine bodyPost_ret (v := .tuple #[.agg #[.int .i64 0, .int .i64 0, .int .i64 0, .int .i64 0, .int .i64 0, .int .i64 0], .int .i64 8]) (by simp only [results, Tryd.results14]; go_simp) rfl ⟨by first | rfl | (rw [hv]; rfl), ?_⟩
      repeat (first | (with_reducible exact HS2.out.below) | (with_reducible refine bl_set' ?_ ?_; · (dsimp only; omega)))
    have hOK : stOK l' = true := by unfold stOK; rw [decide_eq_true (by omega), decide_eq_true hd2]; rfl
    have HGs : Hid ((if cutB 42 (stR l') then parF f' (cutR 42 (stR l')) (stU l' E 6) else some (stU l' E 6)) = G) := Lib.hid (by
      have h := HG.out
      unfold parF at h
      rw [hOK] at h
      exact h)
    have hd0 : stD l' ≠ 0 := by omega
    have hP' := HPr.out.up HS2.out.below
    have c0 : wc.cell? ⟨0, 0, none⟩ = some (.int .i64 2) := hP'.2 0 (by omega)
    have c1 : wc.cell? ⟨0, 1, none⟩ = some (.int .i64 3) := hP'.2 1 (by omega)
    have c2 : wc.cell? ⟨0, 2, none⟩ = some (.int .i64 5) := hP'.2 2 (by omega)
    have c3 : wc.cell? ⟨0, 3, none⟩ = some (.int .i64 7) := hP'.2 3 (by omega)
    have c4 : wc.cell? ⟨0, 4, none⟩ = some (.int .i64 11) := hP'.2 4 (by omega)
    have c5 : wc.cell? ⟨0, 5, none⟩ = some (.int .i64 13) := hP'.2 5 (by omega)
    have z0 := hP'.1
    clear HG hOK hP' aA aB
    go_wp2
    go_loopw [45] (fun i wr => ∃ k : Nat, k ≤ 6 ∧ i = .int .i64 (k : Int) ∧ Hid (PS w (stU l' E k) (stR l') wr)) (fun i _ => 6 - (intOf i).toNat)
    case atStart => exact ⟨0, by omega, rfl, by rw [stU_zero]; exact HS2⟩
    case round =>
      clear c0 c1 c2 c3 c4 c5 z0 HS2 lA lB lR
      obtain ⟨k, hk, rfl, HS3⟩ := hrel
      by_cases hlt : k < 6
      · have hx := fun w => HX.out k hlt w
        have cB := (HS3.out.b.cell k).trans (cell6_get _ hlt)
        have fB := HS3.out.b.frozen k
        have lB := HS3.out.b.lt
        have e8 : IntKind.i64.wrap ((k : Int) + 1) = ((k + 1 : Nat) : Int) := by rw [IntKind.wrap_i64]; omega
        by_cases hq : prm k = stQ l'
        · have HN := Lib.hid (stU_yes (E := E) hq)
          have hq' : (prm k : Int) = (numN 3 0 l' : Int) := by rw [hq]; rfl
          have hq2 : ((prm k : Int) == (numN 3 0 l' : Int)) = true := by rw [hq']; simp
          clear hq hq'
          generalize prm k = pk at *
          go_wp2
          go_roundw
          case rel => exact ⟨k + 1, hlt, by go_num, Lib.hid (by rw [← HN.out]; exact HS3.out.set hlt (stV l'))⟩
          case measure => simp [intOf]; omega
        · have HN := Lib.hid (stU_no (E := E) hq)
          have hq' : ¬ (prm k : Int) = (numN 3 0 l' : Int) := fun e => hq (by unfold stQ; omega)
          have hq2 : ((prm k : Int) == (numN 3 0 l' : Int)) = false := by simpa using hq'
          clear hq hq'
          generalize prm k = pk at *
          go_wp2
          go_roundw
          case rel => exact ⟨k + 1, hlt, by go_num, Lib.hid (by rw [HN.out]; exact HS3.out)⟩
          case measure => simp [intOf]; omega
      · obtain rfl : k = 6 := by omega
        go_wp2_with fail
        refine (cut_c 42 _ _ _ HS3.out.r (by have := stR_len l'; omega)).mono ?_
        rintro en W7 ⟨rfl, r7⟩
        have S7 := Lib.hid (HS3.out.rest r7)
        clear r7
        cases hC : cutB 42 (stR l')
        · have hGn : some (stU l' E 6) = G := by
            have h := HGs.out
            rw [hC] at h
            exact h
          have hv := HV
          rw [← hGn] at hv
          have hv : VV = (if parOK l (stU l' E 6) then .tuple #[.agg (cell6 (stU l' E 6)), .int .i64 0] else zP) := hv
          obtain ⟨E', hE'⟩ : ∃ E', stU l' E 6 = E' := ⟨_, rfl⟩
          rw [hE'] at hv S7
          have aA := S7.out.a
          have aB := S7.out.b
          have lA := aA.lt
          have lB := aB.lt
          have g0 := aA.frozen 0
          have g1 := aA.frozen 1
          have g2 := aA.frozen 2
          have g3 := aA.frozen 3
          have g4 := aA.frozen 4
          have g5 := aA.frozen 5
          have f0 := aA.cell 0
          have f1 := aA.cell 1
          have f2 := aA.cell 2
          have f3 := aA.cell 3
          have f4 := aA.cell 4
          have f5 := aA.cell 5
          have b0 := aB.cell 0
          have b1 := aB.cell 1
          have b2 := aB.cell 2
          have b3 := aB.cell 3
          have b4 := aB.cell 4
          have b5 := aB.cell 5
          simp only [cell6, List.getElem?_toArray, List.getElem?_cons_zero, List.getElem?_cons_succ] at f0 f1 f2 f3 f4 f5 b0 b1 b2 b3 b4 b5
          have hT := PText_c (E' 0) (E' 1) (E' 2) (E' 3) (E' 4) (E' 5) W7 (HPr.out.up S7.out.below) (tab_up HPw.out S7.out.below)
          unfold textV at hT
          clear HS3 hGn hE' aA aB
          cases hp : pV (E' 0) (E' 1) (E' 2) (E' 3) (E' 4) (E' 5) 576
          · have hOK : parOK l E' = false := by unfold parOK; rw [hp]; rfl
            rw [hp, if_neg (by decide)] at hT
            rw [hOK, if_neg (by decide)] at hv
            have HVz := Lib.hid hv
            have HT := Lib.hid hT
            clear hv hT hOK hp
            go_wp2_with (go_at_call 13; (with_reducible refine HT.out.mono ?_); rintro en W8 ⟨rfl, d8⟩; obtain ⟨hz8, hc8, hf8⟩ := bcl d8 (by first | (simp; rfl) | rfl))
            refine bodyPost_letter ?_
            intro W9 hW9
            have k9 : Below w.heap.size w W9 := by
              rw [hW9]
              exact bl_set' (Nat.le_refl _) (bl_set' (Nat.le_refl _) (bl_set' (Nat.le_refl _) (bl_set' (Nat.le_refl _) (bl_set' (Nat.le_refl _) (bl_set' (Nat.le_refl _) (bl_last d8 S7.out.below))))))
            have hA9 : Blk W9 w.heap.size 23 #[.int .i64 0, .int .i64 0, .int .i64 0, .int .i64 0, .int .i64 0, .int .i64 0] := by
              rw [hW9]
              exact blk_st6 (blk_up S7.out.a d8)
            clear hW9 hc8 hf8 hz8 d8 S7 f0 f1 f2 f3 f4 f5 g0 g1 g2 g3 g4 g5 b0 b1 b2 b3 b4 b5 lA lB
            have r0 := hA9.cell 0
            have r1 := hA9.cell 1
            have r2 := hA9.cell 2
            have r3 := hA9.cell 3
            have r4 := hA9.cell 4
            have r5 := hA9.cell 5
            simp only [List.getElem?_toArray, List.getElem?_cons_zero, List.getElem?_cons_succ] at r0 r1 r2 r3 r4 r5
            refine bodyPost_ret (v := .tuple #[.agg #[.int .i64 0, .int .i64 0, .int .i64 0, .int .i64 0, .int .i64 0, .int .i64 0], .int .i64 8]) (by simp only [results, Tryd.results14]; go_simp) rfl ⟨?_, k9⟩
            first | (rw [HVz.out]; done) | (rw [HVz.out]; rfl)
          rw [hp, if_pos rfl] at hT
          by_cases ht : textB (pex (E' 0) (E' 1) (E' 2) (E' 3) (E' 4) (E' 5)) = l
          · have hOK : parOK l E' = true := by unfold parOK; rw [hp, decide_eq_true ht]; rfl
            rw [ht, ← HSS.out] at hT
            rw [hOK, if_pos rfl] at hv
            unfold cell6 at hv
            have HVz := Lib.hid hv
            have HT := Lib.hid hT
            clear hv hT hOK hp ht
            go_wp2_with (go_at_call 13; (with_reducible refine HT.out.mono ?_); rintro en W8 ⟨rfl, d8⟩; obtain ⟨hz8, hc8, hf8⟩ := bcl d8 (by first | (simp; rfl) | rfl))
            refine bodyPost_letter ?_
            intro W9 hW9
            have k9 : Below w.heap.size w W9 := by
              rw [hW9]
              exact bl_set' (Nat.le_refl _) (bl_set' (Nat.le_refl _) (bl_set' (Nat.le_refl _) (bl_set' (Nat.le_refl _) (bl_set' (Nat.le_refl _) (bl_set' (Nat.le_refl _) (bl_last d8 S7.out.below))))))
            have hA9 : Blk W9 w.heap.size 23 #[.int .i64 (E' 0), .int .i64 (E' 1), .int .i64 (E' 2), .int .i64 (E' 3), .int .i64 (E' 4), .int .i64 (E' 5)] := by
              rw [hW9]
              exact blk_st6 (blk_up S7.out.a d8)
            clear hW9 hc8 hf8 hz8 d8 S7 f0 f1 f2 f3 f4 f5 g0 g1 g2 g3 g4 g5 b0 b1 b2 b3 b4 b5 lA lB
            have r0 := hA9.cell 0
            have r1 := hA9.cell 1
            have r2 := hA9.cell 2
            have r3 := hA9.cell 3
            have r4 := hA9.cell 4
            have r5 := hA9.cell 5
            simp only [List.getElem?_toArray, List.getElem?_cons_zero, List.getElem?_cons_succ] at r0 r1 r2 r3 r4 r5
            refine bodyPost_ret (v := .tuple #[.agg #[.int .i64 (E' 0), .int .i64 (E' 1), .int .i64 (E' 2), .int .i64 (E' 3), .int .i64 (E' 4), .int .i64 (E' 5)], .int .i64 0]) (by simp only [results, Tryd.results14]; go_simp) rfl ⟨?_, k9⟩
            first | (rw [HVz.out]; done) | (rw [HVz.out]; rfl)
          · have hOK : parOK l E' = false := by unfold parOK; rw [hp, decide_eq_false ht]; rfl
            rw [hOK, if_neg (by decide)] at hv
            obtain ⟨T, hT0⟩ : ∃ T : ByteArray, T = ⟨(textB (pex (E' 0) (E' 1) (E' 2) (E' 3) (E' 4) (E' 5))).toArray⟩ := ⟨_, rfl⟩
            rw [← hT0] at hT
            have hne2 : ¬ T.toList = S.toList := by
              rw [hT0, HSS.out, ByteArray.toList_eq, ByteArray.toList_eq]
              simpa using ht
            have hne : (T.toList == S.toList) = false := by simpa using hne2
            have hne3 : (T.toList != S.toList) = true := by simpa using hne2
            have HVz := Lib.hid hv
            have HT := Lib.hid hT
            clear hv hT hOK hp ht hT0
            go_wp2_with (go_at_call 13; (with_reducible refine HT.out.mono ?_); rintro en W8 ⟨rfl, d8⟩; obtain ⟨hz8, hc8, hf8⟩ := bcl d8 (by first | (simp; rfl) | rfl))
            refine bodyPost_letter ?_
            intro W9 hW9
            have k9 : Below w.heap.size w W9 := by
              rw [hW9]
              exact bl_set' (Nat.le_refl _) (bl_set' (Nat.le_refl _) (bl_set' (Nat.le_refl _) (bl_set' (Nat.le_refl _) (bl_set' (Nat.le_refl _) (bl_set' (Nat.le_refl _) (bl_last d8 S7.out.below))))))
            have hA9 : Blk W9 w.heap.size 23 #[.int .i64 0, .int .i64 0, .int .i64 0, .int .i64 0, .int .i64 0, .int .i64 0] := by
              rw [hW9]
              exact blk_st6 (blk_up S7.out.a d8)
            clear hW9 hc8 hf8 hz8 d8 S7 f0 f1 f2 f3 f4 f5 g0 g1 g2 g3 g4 g5 b0 b1 b2 b3 b4 b5 lA lB
            have r0 := hA9.cell 0
            have r1 := hA9.cell 1
            have r2 := hA9.cell 2
            have r3 := hA9.cell 3
            have r4 := hA9.cell 4
            have r5 := hA9.cell 5
            simp only [List.getElem?_toArray, List.getElem?_cons_zero, List.getElem?_cons_succ] at r0 r1 r2 r3 r4 r5
            refine bodyPost_ret (v := .tuple #[.agg #[.int .i64 0, .int .i64 0, .int .i64 0, .int .i64 0, .int .i64 0, .int .i64 0], .int .i64 8]) (by simp only [results, Tryd.results14]; go_simp) rfl ⟨?_, k9⟩
            first | (rw [HVz.out]; done) | (rw [HVz.out]; rfl)
        · have HGn : Hid (parF f' (cutR 42 (stR l')) (stU l' E 6) = G) := Lib.hid (by
            have h := HGs.out
            rw [hC] at h
            exact h)
          have h1 := cutR_lt hC
          have h2 := stR_len l'
          go_wp2
          go_roundw
          case rel => exact ⟨f', _, _, HGn, by omega, by omega, S7⟩
          case measure =>
            rw [S7.out.restLen, HLen.out]
            omega
end Go.Proofs.YtgbiiaaeabflnaaDoor
