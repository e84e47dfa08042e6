/- PitchFractions: the walk (genlaw03.py prints it). -/
import Derived.Test.YtgbiiaaeabflnaaDoorHead03
import Derived.Test.YtgbiiaaeabflnaaDoorFracF
import Derived.Test.YtgbiiaaeabflnaaDoorDivA
import Derived.Test.YtgbiiaaeabflnaaDoorLawTrans
import Derived.Deep.Cut
namespace Go.Proofs.YtgbiiaaeabflnaaDoor
open Go Go.RowKit

theorem met_letter {J : Act → World → Prop} {a : Act} {w : World} (h : ∀ W, W = w → Met J a W) : Met J a w := h w rfl
theorem fr_no {a0 a1 a2 a3 a4 a5 : Int} {w w' : World} {en : Ending} (h : FrE a0 a1 a2 a3 a4 a5 w en w') (hp : pV a0 a1 a2 a3 a4 a5 48 = false) : Below w.heap.size w w' ∧ en = .returned (.tuple #[.slice none 0 0, .slice none 0 0, .int .i64 1]) := by
  unfold FrE at h
  rw [hp, if_neg (by decide)] at h
  exact h
theorem fr_yes {a0 a1 a2 a3 a4 a5 : Int} {w w' : World} {en : Ending} (h : FrE a0 a1 a2 a3 a4 a5 w en w') (hp : pV a0 a1 a2 a3 a4 a5 48 = true) : Below w.heap.size w w' ∧ ∃ q n q' n' : Nat, w.heap.size ≤ q ∧ w.heap.size ≤ q' ∧ en = .returned (.tuple #[.slice (some ⟨q, 0, none⟩) n n, .slice (some ⟨q', 0, none⟩) n' n', .int .i64 0]) ∧ Num w' w'.heap.size q n (upN a0 a1 a2 a3 a4 a5) ∧ n ≤ 640 ∧ Num w' w'.heap.size q' n' (dnN a0 a1 a2 a3 a4 a5) ∧ n' ≤ 640 := by
  unfold FrE at h
  rw [hp, if_pos rfl] at h
  exact h
theorem one_limb {W : World} {B b n x : Nat} (h : Num W B b n x) (h0 : 1 ≤ x) (h1 : x < 4294967296) : n = 1 := by
  obtain ⟨f, _, hI⟩ := h
  have hg : IsN (fun _ => x) 1 x := ⟨fun _ _ => h1, by show 0 + x * 4294967296 ^ 0 = x; omega, fun _ _ => by omega⟩
  exact (isN_uni hI hg).1
theorem of_ok {a0 a1 a2 a3 a4 a5 : Int} (hp : pV a0 a1 a2 a3 a4 a5 48 = true) : ofV a0 a1 a2 a3 a4 a5 = .tuple #[.agg #[.int .i64 (a0 * 12), .int .i64 (a1 * 12), .int .i64 (a2 * 12), .int .i64 (a3 * 12), .int .i64 (a4 * 12), .int .i64 (a5 * 12)], .int .i64 0] := by
  unfold ofV
  rw [hp]
  rfl
theorem wi12 {x : Int} (h : wi x 48 = true) : wi (x * 12) 576 = true := by
  have := wi_of h
  exact wi_mk (by omega) (by omega)
theorem pV12 {a0 a1 a2 a3 a4 a5 : Int} (hp : pV a0 a1 a2 a3 a4 a5 48 = true) : pV (a0 * 12) (a1 * 12) (a2 * 12) (a3 * 12) (a4 * 12) (a5 * 12) 576 = true := by
  obtain ⟨g1, g2, g3, g4, g5, g6⟩ := pV_of hp
  unfold pV
  rw [wi12 g1, wi12 g2, wi12 g3, wi12 g4, wi12 g5, wi12 g6]
  rfl
theorem cm12 {a0 a1 a2 a3 a4 a5 b0 b1 b2 b3 b4 b5 : Int} (ha : pV a0 a1 a2 a3 a4 a5 48 = true) (hb : pV b0 b1 b2 b3 b4 b5 48 = true) : pcV (a0 * 12) (a1 * 12) (a2 * 12) (a3 * 12) (a4 * 12) (a5 * 12) (b0 * 12) (b1 * 12) (b2 * 12) (b3 * 12) (b4 * 12) (b5 * 12) = .tuple #[.int .i64 (ordZ ((upN a0 a1 a2 a3 a4 a5 * dnN b0 b1 b2 b3 b4 b5 : Nat) : Int) ((upN b0 b1 b2 b3 b4 b5 * dnN a0 a1 a2 a3 a4 a5 : Nat) : Int)), .int .i64 0] := by
  rw [pc_ok (pV12 ha) (pV12 hb), ← cmP_cross]
  have := cmP_pow a0 a1 a2 a3 a4 a5 b0 b1 b2 b3 b4 b5 (k := 12) (by omega)
  rw [← this]
  rfl
set_option maxRecDepth 100000 in
set_option maxHeartbeats 16000000 in
theorem walk_PitchFractions (a0 a1 a2 a3 a4 a5 b0 b1 b2 b3 b4 b5 n d : Int) (w : World)
    (_ : (Lit.int .i64 a0).wf = true) (_ : (Lit.int .i64 a1).wf = true) (_ : (Lit.int .i64 a2).wf = true) (_ : (Lit.int .i64 a3).wf = true) (_ : (Lit.int .i64 a4).wf = true) (_ : (Lit.int .i64 a5).wf = true) (_ : (Lit.int .i64 b0).wf = true) (_ : (Lit.int .i64 b1).wf = true) (_ : (Lit.int .i64 b2).wf = true) (_ : (Lit.int .i64 b3).wf = true) (_ : (Lit.int .i64 b4).wf = true) (_ : (Lit.int .i64 b5).wf = true) (_ : (Lit.int .i64 n).wf = true) (_ : (Lit.int .i64 d).wf = true) (hL : PR w ∧ PW w) :
    Calls Tryd.prog 9 #[.agg #[.int .i64 a0, .int .i64 a1, .int .i64 a2, .int .i64 a3, .int .i64 a4, .int .i64 a5], .agg #[.int .i64 b0, .int .i64 b1, .int .i64 b2, .int .i64 b3, .int .i64 b4, .int .i64 b5], .int .i64 n, .int .i64 d] w (Ret (.bool true) w) := by
  have HP := Lib.hid hL.1
  have HQ := Lib.hid hL.2
  have HH := Lib.hid (fun W (h : PR W) (h' : PW W) => head03_c W h h')
  clear hL
  have h1 := fun W (h : PR W) => PRatio_c n d W h
  obtain ⟨v0, v1, v2, v3, v4, v5, e, e1, hall⟩ := ra_frac n d
  rw [e1] at h1
  have H1 := Lib.hid h1
  have HU := Lib.hid (fun W (h : PR W) => PFraction_c v0 v1 v2 v3 v4 v5 W h)
  have HA := Lib.hid (fun W (h : PR W) => PFraction_c a0 a1 a2 a3 a4 a5 W h)
  have HB := Lib.hid (fun W (h : PR W) => PFraction_c b0 b1 b2 b3 b4 b5 W h)
  have HL := Lib.hid hall
  clear e1 h1 hall
  go_enter Tryd.func9, Tryd.ntmps9
  go_wp2_with fail
  ((with_reducible refine (HH.out _ (HP.out.up (by (repeat (first | (with_reducible exact bl_refl _) | (with_reducible refine bl_drew ?_) | (with_reducible refine bl_alloc ?_ _) | (with_reducible refine bl_set' ?_ ?_; · (first | omega | (simp; done) | (simp; omega))) | (with_reducible refine bl_last (by assumption) ?_) | (with_reducible refine bl_drewN ?_ _))))) (tab_up HQ.out (by (repeat (first | (with_reducible exact bl_refl _) | (with_reducible refine bl_drew ?_) | (with_reducible refine bl_alloc ?_ _) | (with_reducible refine bl_set' ?_ ?_; · (first | omega | (simp; done) | (simp; omega))) | (with_reducible refine bl_last (by assumption) ?_) | (with_reducible refine bl_drewN ?_ _)))))).mono ?_); rintro e u0 ⟨rfl, d0⟩)
  obtain ⟨hz0, hc0, hf0⟩ := bcl d0 (by first | (simp; rfl) | rfl)
  have z0_0 : w.heap.size < u0.heap.size := by omega
  have z0_1 : w.heap.size + 1 < u0.heap.size := by omega
  go_wp2_with fail
  refine calls_letter ?_
  intro W1 hW1
  have k1 : Below w.heap.size w W1 := by
    rw [hW1]
    (repeat (first | (with_reducible assumption) | (with_reducible exact bl_refl _) | (with_reducible refine bl_alloc ?_ _) | (with_reducible refine bl_set' ?_ ?_; · (dsimp only; first | assumption | exact Nat.le_refl _ | omega)) | (with_reducible refine bl_last (by assumption) ?_)))
  have A1 : Blk W1 (w.heap.size) 38 #[.int .i64 a0, .int .i64 a1, .int .i64 a2, .int .i64 a3, .int .i64 a4, .int .i64 a5] := by
    rw [hW1]
    (repeat (first | (with_reducible assumption) | (with_reducible apply Blk.new) | (with_reducible exact blkAt _ _ _ _ (by simp; done)) | (with_reducible apply blk_st2) | (with_reducible apply blk_st4) | (with_reducible apply blk_st6) | (with_reducible apply blk_far (hne := by first | (with_reducible assumption) | omega)) | (with_reducible apply blk_up (hb := by assumption)) | (with_reducible apply Blk.alloc)))
  have B1 : Blk W1 (w.heap.size + 1) 38 #[.int .i64 b0, .int .i64 b1, .int .i64 b2, .int .i64 b3, .int .i64 b4, .int .i64 b5] := by
    rw [hW1]
    (repeat (first | (with_reducible assumption) | (with_reducible apply Blk.new) | (with_reducible exact blkAt _ _ _ _ (by simp; done)) | (with_reducible apply blk_st2) | (with_reducible apply blk_st4) | (with_reducible apply blk_st6) | (with_reducible apply blk_far (hne := by first | (with_reducible assumption) | omega)) | (with_reducible apply blk_up (hb := by assumption)) | (with_reducible apply Blk.alloc)))
  clear hW1
  try clear hz0
  try clear hc0
  try clear hf0
  try clear d0
  try clear z0_0
  try clear z0_1
  have y1 := k1.size
  have gA1 := A1.lt
  have lA1 := Nat.le_of_lt gA1
  have gB1 := B1.lt
  have lB1 := Nat.le_of_lt gB1
  ((with_reducible refine (H1.out _ (HP.out.up k1)).mono ?_); rintro e u1 ⟨rfl, d1⟩)
  obtain ⟨hz1, hc1, hf1⟩ := bcl d1 (by first | (simp; rfl) | rfl)
  have qA1 : w.heap.size < u1.heap.size := by omega
  have pA1 : w.heap.size ≤ u1.heap.size := by omega
  have qB1 : w.heap.size + 1 < u1.heap.size := by omega
  have pB1 : w.heap.size + 1 ≤ u1.heap.size := by omega
  have oU : w.heap.size ≤ u1.heap.size := by omega
  have nAU : w.heap.size ≠ u1.heap.size := by omega
  have mAU : u1.heap.size ≠ w.heap.size := by omega
  have nBU : w.heap.size + 1 ≠ u1.heap.size := by omega
  have mBU : u1.heap.size ≠ w.heap.size + 1 := by omega
  go_upto_if 46 with fail
  refine wp_letter ?_
  intro W2 hW2
  have k2 : Below w.heap.size w W2 := by
    rw [hW2]
    (repeat (first | (with_reducible assumption) | (with_reducible exact bl_refl _) | (with_reducible refine bl_alloc ?_ _) | (with_reducible refine bl_set' ?_ ?_; · (dsimp only; first | assumption | exact Nat.le_refl _ | omega)) | (with_reducible refine bl_last (by assumption) ?_)))
  have A2 : Blk W2 (w.heap.size) 38 #[.int .i64 a0, .int .i64 a1, .int .i64 a2, .int .i64 a3, .int .i64 a4, .int .i64 a5] := by
    rw [hW2]
    (repeat (first | (with_reducible assumption) | (with_reducible apply Blk.new) | (with_reducible exact blkAt _ _ _ _ (by simp; done)) | (with_reducible apply blk_st2) | (with_reducible apply blk_st4) | (with_reducible apply blk_st6) | (with_reducible apply blk_far (hne := by first | (with_reducible assumption) | omega)) | (with_reducible apply blk_up (hb := by assumption)) | (with_reducible apply Blk.alloc)))
  have B2 : Blk W2 (w.heap.size + 1) 38 #[.int .i64 b0, .int .i64 b1, .int .i64 b2, .int .i64 b3, .int .i64 b4, .int .i64 b5] := by
    rw [hW2]
    (repeat (first | (with_reducible assumption) | (with_reducible apply Blk.new) | (with_reducible exact blkAt _ _ _ _ (by simp; done)) | (with_reducible apply blk_st2) | (with_reducible apply blk_st4) | (with_reducible apply blk_st6) | (with_reducible apply blk_far (hne := by first | (with_reducible assumption) | omega)) | (with_reducible apply blk_up (hb := by assumption)) | (with_reducible apply Blk.alloc)))
  have U2 : Blk W2 (u1.heap.size) 38 #[.int .i64 v0, .int .i64 v1, .int .i64 v2, .int .i64 v3, .int .i64 v4, .int .i64 v5] := by
    rw [hW2]
    (repeat (first | (with_reducible assumption) | (with_reducible apply Blk.new) | (with_reducible exact blkAt _ _ _ _ (by simp; done)) | (with_reducible apply blk_st2) | (with_reducible apply blk_st4) | (with_reducible apply blk_st6) | (with_reducible apply blk_far (hne := by first | (with_reducible assumption) | omega)) | (with_reducible apply blk_up (hb := by assumption)) | (with_reducible apply Blk.alloc)))
  clear hW2
  try clear qB1
  try clear pB1
  try clear qA1
  try clear pA1
  try clear hz1
  try clear hc1
  try clear hf1
  try clear d1
  try clear y1
  try clear k1
  try clear A1
  try clear B1
  try clear gA1
  try clear lA1
  try clear gB1
  try clear lB1
  have y2 := k2.size
  have gA2 := A2.lt
  have lA2 := Nat.le_of_lt gA2
  have gB2 := B2.lt
  have lB2 := Nat.le_of_lt gB2
  have gU2 := U2.lt
  have lU2 := Nat.le_of_lt gU2
  have cU2_0 := U2.cell 0
  have cU2_1 := U2.cell 1
  have cU2_2 := U2.cell 2
  have cU2_3 := U2.cell 3
  have cU2_4 := U2.cell 4
  have cU2_5 := U2.cell 5
  simp only [List.getElem?_toArray, List.getElem?_cons_zero, List.getElem?_cons_succ] at cU2_0 cU2_1 cU2_2 cU2_3 cU2_4 cU2_5
  go_cut [9] from 38 (fun u W => u = .bool true ∧ Below w.heap.size w W ∧ Blk W (w.heap.size) 38 #[.int .i64 a0, .int .i64 a1, .int .i64 a2, .int .i64 a3, .int .i64 a4, .int .i64 a5] ∧ Blk W (w.heap.size + 1) 38 #[.int .i64 b0, .int .i64 b1, .int .i64 b2, .int .i64 b3, .int .i64 b4, .int .i64 b5])
  case first =>
    as_aux_lemma =>
    by_cases he : e = 0
    · subst he
      obtain ⟨hv, N, D, rfl, rfl, hN1, hN2, hD1, hD2, hu, hd, hx, hm⟩ := HL.out rfl
      have hu0 := up_pos v0 v1 v2 v3 v4 v5
      have hd0 := dn_pos v0 v1 v2 v3 v4 v5
      have c1 : upN v0 v1 v2 v3 v4 v5 * D < Cap := big_le (k := 2) (Nat.lt_of_le_of_lt (Nat.mul_le_mul (Nat.le_trans hu hN2) hD2) (by decide)) (by omega)
      have c2 : dnN v0 v1 v2 v3 v4 v5 * N < Cap := big_le (k := 2) (Nat.lt_of_le_of_lt (Nat.mul_le_mul (Nat.le_trans hd hD2) hN2) (by decide)) (by omega)
      have wN : IntKind.u64.wrap (N : Int) = (N : Int) := by rw [IntKind.wrap_u64]; omega
      have wD : IntKind.u64.wrap (D : Int) = (D : Int) := by rw [IntKind.wrap_u64]; omega
      have tN : ¬ (N : Int) < 1 := by omega
      have tD : ¬ (D : Int) < 1 := by omega
      go_wp2_with fail
      ((with_reducible refine (HU.out _ (HP.out.up k2)).mono ?_); intro en u3 hF)
      obtain ⟨d3, q, m, q', m', _, _, rfl, hQ, h6, hQ', h6'⟩ := fr_yes hF hv
      clear hF
      have k3 := bl_last d3 k2
      have A3 := blk_up A2 d3
      have B3 := blk_up B2 d3
      generalize upN v0 v1 v2 v3 v4 v5 = x at *
      generalize dnN v0 v1 v2 v3 v4 v5 = y at *
      clear hv
      obtain rfl : m = 1 := one_limb hQ hu0 (by omega)
      go_wp2_with fail
      ((with_reducible refine (Nmake_c D _ (by omega)).mono ?_); rintro en u4 ⟨d4, b4, n4, _, rfl, hN4, l4⟩)
      have Q4 := hQ.up d4
      have R4 := hQ'.up d4
      go_wp2_with fail
      ((with_reducible refine (Nmul_c _ _ _ _ _ _ _ _ _ Q4 hN4 h6 l4 c1).mono ?_); rintro en u5 ⟨d5, b5, n5, _, rfl, hN5, l5⟩)
      have Q5 := Q4.up d5
      have R5 := R4.up d5
      go_wp2_with fail
      ((with_reducible refine (Nmake_c N _ (by omega)).mono ?_); rintro en u6 ⟨d6, b6, n6, _, rfl, hN6, l6⟩)
      have Q6 := Q5.up d6
      have R6 := R5.up d6
      have L6 := hN5.up d6
      go_wp2_with fail
      ((with_reducible refine (Nmul_c _ _ _ _ _ _ _ _ _ R6 hN6 h6' l6 c2).mono ?_); rintro en u7 ⟨d7, b7, n7, _, rfl, hN7, l7⟩)
      have Q7 := Q6.up d7
      have L7 := L6.up d7
      go_wp2_with fail
      ((with_reducible refine (Nmake_c N _ (by omega)).mono ?_); rintro en u8 ⟨d8, b8, n8, _, rfl, hN8, l8⟩)
      have Q8 := Q7.up d8
      have L8 := L7.up d8
      have M8 := hN7.up d8
      obtain rfl : n8 = 1 := one_limb hN8 hN1 (by omega)
      go_wp2_with fail
      ((with_reducible refine (Div1_c _ _ _ _ _ _ _ hN8 Q8).mono ?_); rintro en u9 ⟨d9, b9, n9, r9, m9, rfl, hm9⟩)
      obtain rfl : m9 = 0 := hm9 hm
      have L9 := L8.up d9
      have M9 := M8.up d9
      rw [← hx] at M9
      go_wp2_with fail
      ((with_reducible refine (RSame_c _ _ _ _ _ _ _ _ L9 M9 l5).mono ?_); rintro en u10 ⟨rfl, d10⟩)
      go_wp2_with fail
      have k10 := bl_last d10 (bl_last d9 (bl_last d8 (bl_last d7 (bl_last d6 (bl_last d5 (bl_last d4 k3))))))
      have A10 := blk_up (blk_up (blk_up (blk_up (blk_up (blk_up (blk_up A3 d4) d5) d6) d7) d8) d9) d10
      have B10 := blk_up (blk_up (blk_up (blk_up (blk_up (blk_up (blk_up B3 d4) d5) d6) d7) d8) d9) d10
      go_meet
      case rel => exact ⟨rfl, k10, A10, B10⟩
    · go_wp2_with fail
      all_goals
        go_meet
        case rel => exact ⟨rfl, k2, A2, B2⟩
  case rest =>
  obtain ⟨rfl, kc, Ac, Bc⟩ := hcut
  try clear cU2_0
  try clear cU2_1
  try clear cU2_2
  try clear cU2_3
  try clear cU2_4
  try clear cU2_5
  try clear y2
  try clear k2
  try clear A2
  try clear B2
  try clear U2
  try clear gA2
  try clear lA2
  try clear gB2
  try clear lB2
  try clear gU2
  try clear lU2
  clear HL HU H1
  have gAc := Ac.lt
  have lAc := Nat.le_of_lt gAc
  have gBc := Bc.lt
  have lBc := Nat.le_of_lt gBc
  have cAc_0 := Ac.cell 0
  have cAc_1 := Ac.cell 1
  have cAc_2 := Ac.cell 2
  have cAc_3 := Ac.cell 3
  have cAc_4 := Ac.cell 4
  have cAc_5 := Ac.cell 5
  simp only [List.getElem?_toArray, List.getElem?_cons_zero, List.getElem?_cons_succ] at cAc_0 cAc_1 cAc_2 cAc_3 cAc_4 cAc_5
  have cBc_0 := Bc.cell 0
  have cBc_1 := Bc.cell 1
  have cBc_2 := Bc.cell 2
  have cBc_3 := Bc.cell 3
  have cBc_4 := Bc.cell 4
  have cBc_5 := Bc.cell 5
  simp only [List.getElem?_toArray, List.getElem?_cons_zero, List.getElem?_cons_succ] at cBc_0 cBc_1 cBc_2 cBc_3 cBc_4 cBc_5
  have HIa := Lib.hid (fun W => RPInt_c a0 a1 a2 a3 a4 a5 W)
  have HIb := Lib.hid (fun W => RPInt_c b0 b1 b2 b3 b4 b5 W)
  cases pa : pV a0 a1 a2 a3 a4 a5 48 <;> cases pb : pV b0 b1 b2 b3 b4 b5 48
  · go_wp2_with fail
    ((with_reducible refine (HA.out _ (HP.out.up kc)).mono ?_); intro en ud hF)
    obtain ⟨dd, rfl⟩ := fr_no hF pa
    clear hF
    obtain ⟨hzd, hcd, hfd⟩ := bcl dd (by first | (simp; rfl) | rfl)
    have kd := bl_last dd kc
    have Ad := blk_up Ac dd
    have Bd := blk_up Bc dd
    have zAd := Ad.lt
    have zBd := Bd.lt
    have cAd_0 := Ad.cell 0
    have cAd_1 := Ad.cell 1
    have cAd_2 := Ad.cell 2
    have cAd_3 := Ad.cell 3
    have cAd_4 := Ad.cell 4
    have cAd_5 := Ad.cell 5
    have cBd_0 := Bd.cell 0
    have cBd_1 := Bd.cell 1
    have cBd_2 := Bd.cell 2
    have cBd_3 := Bd.cell 3
    have cBd_4 := Bd.cell 4
    have cBd_5 := Bd.cell 5
    simp only [List.getElem?_toArray, List.getElem?_cons_zero, List.getElem?_cons_succ] at cAd_0 cAd_1 cAd_2 cAd_3 cAd_4 cAd_5 cBd_0 cBd_1 cBd_2 cBd_3 cBd_4 cBd_5
    go_wp2_with fail
    ((with_reducible refine (HB.out _ (HP.out.up kd)).mono ?_); intro en ue hF)
    obtain ⟨de, rfl⟩ := fr_no hF pb
    clear hF
    obtain ⟨hze, hce, hfe⟩ := bcl de (by first | (simp; rfl) | rfl)
    have ke := bl_last de kd
    have Ae := blk_up Ad de
    have Be := blk_up Bd de
    have zAe := Ae.lt
    have zBe := Be.lt
    have cAe_0 := Ae.cell 0
    have cAe_1 := Ae.cell 1
    have cAe_2 := Ae.cell 2
    have cAe_3 := Ae.cell 3
    have cAe_4 := Ae.cell 4
    have cAe_5 := Ae.cell 5
    have cBe_0 := Be.cell 0
    have cBe_1 := Be.cell 1
    have cBe_2 := Be.cell 2
    have cBe_3 := Be.cell 3
    have cBe_4 := Be.cell 4
    have cBe_5 := Be.cell 5
    simp only [List.getElem?_toArray, List.getElem?_cons_zero, List.getElem?_cons_succ] at cAe_0 cAe_1 cAe_2 cAe_3 cAe_4 cAe_5 cBe_0 cBe_1 cBe_2 cBe_3 cBe_4 cBe_5
    rw [pa] at HIa
    rw [pb] at HIb
    go_wp2_with (first | (go_at_call 19; ((with_reducible refine (HIa.out _).mono ?_); rintro en ua ⟨rfl, da⟩; obtain ⟨hza, hca, hfa⟩ := bcl da (by first | (simp; rfl) | rfl); (try have qza : w.heap.size + 1 < ua.heap.size := by omega))) | (go_at_call 19; ((with_reducible refine (HIb.out _).mono ?_); rintro en ub ⟨rfl, db⟩; obtain ⟨hzb, hcb, hfb⟩ := bcl db (by first | (simp; rfl) | rfl))))
    go_ret
    refine ⟨rfl, ?_⟩
    (repeat (first | (with_reducible exact bl_refl _) | (with_reducible refine bl_drew ?_) | (with_reducible refine bl_alloc ?_ _) | (with_reducible refine bl_set' ?_ ?_; · (first | omega | (simp; done) | (simp; omega))) | (with_reducible refine bl_last (by assumption) ?_) | (with_reducible refine bl_drewN ?_ _)))
  · go_wp2_with fail
    ((with_reducible refine (HA.out _ (HP.out.up kc)).mono ?_); intro en ud hF)
    obtain ⟨dd, rfl⟩ := fr_no hF pa
    clear hF
    obtain ⟨hzd, hcd, hfd⟩ := bcl dd (by first | (simp; rfl) | rfl)
    have kd := bl_last dd kc
    have Ad := blk_up Ac dd
    have Bd := blk_up Bc dd
    have zAd := Ad.lt
    have zBd := Bd.lt
    have cAd_0 := Ad.cell 0
    have cAd_1 := Ad.cell 1
    have cAd_2 := Ad.cell 2
    have cAd_3 := Ad.cell 3
    have cAd_4 := Ad.cell 4
    have cAd_5 := Ad.cell 5
    have cBd_0 := Bd.cell 0
    have cBd_1 := Bd.cell 1
    have cBd_2 := Bd.cell 2
    have cBd_3 := Bd.cell 3
    have cBd_4 := Bd.cell 4
    have cBd_5 := Bd.cell 5
    simp only [List.getElem?_toArray, List.getElem?_cons_zero, List.getElem?_cons_succ] at cAd_0 cAd_1 cAd_2 cAd_3 cAd_4 cAd_5 cBd_0 cBd_1 cBd_2 cBd_3 cBd_4 cBd_5
    go_wp2_with fail
    ((with_reducible refine (HB.out _ (HP.out.up kd)).mono ?_); intro en ue hF)
    obtain ⟨de, qe, ne, re, me, _, _, rfl, Ne, le, Me, te⟩ := fr_yes hF pb
    clear hF
    obtain ⟨hze, hce, hfe⟩ := bcl de (by first | (simp; rfl) | rfl)
    have ke := bl_last de kd
    have Ae := blk_up Ad de
    have Be := blk_up Bd de
    have zAe := Ae.lt
    have zBe := Be.lt
    have cAe_0 := Ae.cell 0
    have cAe_1 := Ae.cell 1
    have cAe_2 := Ae.cell 2
    have cAe_3 := Ae.cell 3
    have cAe_4 := Ae.cell 4
    have cAe_5 := Ae.cell 5
    have cBe_0 := Be.cell 0
    have cBe_1 := Be.cell 1
    have cBe_2 := Be.cell 2
    have cBe_3 := Be.cell 3
    have cBe_4 := Be.cell 4
    have cBe_5 := Be.cell 5
    simp only [List.getElem?_toArray, List.getElem?_cons_zero, List.getElem?_cons_succ] at cAe_0 cAe_1 cAe_2 cAe_3 cAe_4 cAe_5 cBe_0 cBe_1 cBe_2 cBe_3 cBe_4 cBe_5
    rw [pa] at HIa
    rw [pb] at HIb
    go_wp2_with (first | (go_at_call 19; ((with_reducible refine (HIa.out _).mono ?_); rintro en ua ⟨rfl, da⟩; obtain ⟨hza, hca, hfa⟩ := bcl da (by first | (simp; rfl) | rfl); (try have qza : w.heap.size + 1 < ua.heap.size := by omega))) | (go_at_call 19; ((with_reducible refine (HIb.out _).mono ?_); rintro en ub ⟨rfl, db⟩; obtain ⟨hzb, hcb, hfb⟩ := bcl db (by first | (simp; rfl) | rfl))))
    go_ret
    refine ⟨rfl, ?_⟩
    (repeat (first | (with_reducible exact bl_refl _) | (with_reducible refine bl_drew ?_) | (with_reducible refine bl_alloc ?_ _) | (with_reducible refine bl_set' ?_ ?_; · (first | omega | (simp; done) | (simp; omega))) | (with_reducible refine bl_last (by assumption) ?_) | (with_reducible refine bl_drewN ?_ _)))
  · go_wp2_with fail
    ((with_reducible refine (HA.out _ (HP.out.up kc)).mono ?_); intro en ud hF)
    obtain ⟨dd, qd, nd, rd, md, _, _, rfl, Nd, ld, Md, td⟩ := fr_yes hF pa
    clear hF
    obtain ⟨hzd, hcd, hfd⟩ := bcl dd (by first | (simp; rfl) | rfl)
    have kd := bl_last dd kc
    have Ad := blk_up Ac dd
    have Bd := blk_up Bc dd
    have zAd := Ad.lt
    have zBd := Bd.lt
    have cAd_0 := Ad.cell 0
    have cAd_1 := Ad.cell 1
    have cAd_2 := Ad.cell 2
    have cAd_3 := Ad.cell 3
    have cAd_4 := Ad.cell 4
    have cAd_5 := Ad.cell 5
    have cBd_0 := Bd.cell 0
    have cBd_1 := Bd.cell 1
    have cBd_2 := Bd.cell 2
    have cBd_3 := Bd.cell 3
    have cBd_4 := Bd.cell 4
    have cBd_5 := Bd.cell 5
    simp only [List.getElem?_toArray, List.getElem?_cons_zero, List.getElem?_cons_succ] at cAd_0 cAd_1 cAd_2 cAd_3 cAd_4 cAd_5 cBd_0 cBd_1 cBd_2 cBd_3 cBd_4 cBd_5
    go_wp2_with fail
    ((with_reducible refine (HB.out _ (HP.out.up kd)).mono ?_); intro en ue hF)
    obtain ⟨de, rfl⟩ := fr_no hF pb
    clear hF
    obtain ⟨hze, hce, hfe⟩ := bcl de (by first | (simp; rfl) | rfl)
    have ke := bl_last de kd
    have Ae := blk_up Ad de
    have Be := blk_up Bd de
    have zAe := Ae.lt
    have zBe := Be.lt
    have cAe_0 := Ae.cell 0
    have cAe_1 := Ae.cell 1
    have cAe_2 := Ae.cell 2
    have cAe_3 := Ae.cell 3
    have cAe_4 := Ae.cell 4
    have cAe_5 := Ae.cell 5
    have cBe_0 := Be.cell 0
    have cBe_1 := Be.cell 1
    have cBe_2 := Be.cell 2
    have cBe_3 := Be.cell 3
    have cBe_4 := Be.cell 4
    have cBe_5 := Be.cell 5
    simp only [List.getElem?_toArray, List.getElem?_cons_zero, List.getElem?_cons_succ] at cAe_0 cAe_1 cAe_2 cAe_3 cAe_4 cAe_5 cBe_0 cBe_1 cBe_2 cBe_3 cBe_4 cBe_5
    rw [pa] at HIa
    rw [pb] at HIb
    go_wp2_with (first | (go_at_call 19; ((with_reducible refine (HIa.out _).mono ?_); rintro en ua ⟨rfl, da⟩; obtain ⟨hza, hca, hfa⟩ := bcl da (by first | (simp; rfl) | rfl); (try have qza : w.heap.size + 1 < ua.heap.size := by omega))) | (go_at_call 19; ((with_reducible refine (HIb.out _).mono ?_); rintro en ub ⟨rfl, db⟩; obtain ⟨hzb, hcb, hfb⟩ := bcl db (by first | (simp; rfl) | rfl))))
    go_ret
    refine ⟨rfl, ?_⟩
    (repeat (first | (with_reducible exact bl_refl _) | (with_reducible refine bl_drew ?_) | (with_reducible refine bl_alloc ?_ _) | (with_reducible refine bl_set' ?_ ?_; · (first | omega | (simp; done) | (simp; omega))) | (with_reducible refine bl_last (by assumption) ?_) | (with_reducible refine bl_drewN ?_ _)))
  · clear HIa HIb
    go_wp2_with fail
    ((with_reducible refine (HA.out _ (HP.out.up kc)).mono ?_); intro en ud hF)
    obtain ⟨dd, qd, nd, rd, md, _, _, rfl, Nd, ld, Md, td⟩ := fr_yes hF pa
    clear hF
    obtain ⟨hzd, hcd, hfd⟩ := bcl dd (by first | (simp; rfl) | rfl)
    have kd := bl_last dd kc
    have Ad := blk_up Ac dd
    have Bd := blk_up Bc dd
    have zAd := Ad.lt
    have zBd := Bd.lt
    have cAd_0 := Ad.cell 0
    have cAd_1 := Ad.cell 1
    have cAd_2 := Ad.cell 2
    have cAd_3 := Ad.cell 3
    have cAd_4 := Ad.cell 4
    have cAd_5 := Ad.cell 5
    have cBd_0 := Bd.cell 0
    have cBd_1 := Bd.cell 1
    have cBd_2 := Bd.cell 2
    have cBd_3 := Bd.cell 3
    have cBd_4 := Bd.cell 4
    have cBd_5 := Bd.cell 5
    simp only [List.getElem?_toArray, List.getElem?_cons_zero, List.getElem?_cons_succ] at cAd_0 cAd_1 cAd_2 cAd_3 cAd_4 cAd_5 cBd_0 cBd_1 cBd_2 cBd_3 cBd_4 cBd_5
    go_wp2_with fail
    ((with_reducible refine (HB.out _ (HP.out.up kd)).mono ?_); intro en ue hF)
    obtain ⟨de, qe, ne, re, me, _, _, rfl, Ne, le, Me, te⟩ := fr_yes hF pb
    clear hF
    obtain ⟨hze, hce, hfe⟩ := bcl de (by first | (simp; rfl) | rfl)
    have ke := bl_last de kd
    have Ae := blk_up Ad de
    have Be := blk_up Bd de
    have zAe := Ae.lt
    have zBe := Be.lt
    have cAe_0 := Ae.cell 0
    have cAe_1 := Ae.cell 1
    have cAe_2 := Ae.cell 2
    have cAe_3 := Ae.cell 3
    have cAe_4 := Ae.cell 4
    have cAe_5 := Ae.cell 5
    have cBe_0 := Be.cell 0
    have cBe_1 := Be.cell 1
    have cBe_2 := Be.cell 2
    have cBe_3 := Be.cell 3
    have cBe_4 := Be.cell 4
    have cBe_5 := Be.cell 5
    simp only [List.getElem?_toArray, List.getElem?_cons_zero, List.getElem?_cons_succ] at cAe_0 cAe_1 cAe_2 cAe_3 cAe_4 cAe_5 cBe_0 cBe_1 cBe_2 cBe_3 cBe_4 cBe_5
    have o1 := fun W => POf_c a0 a1 a2 a3 a4 a5 W
    have o2 := fun W => POf_c b0 b1 b2 b3 b4 b5 W
    have o3 := fun W (h : PR W) => PCmp_c (a0 * 12) (a1 * 12) (a2 * 12) (a3 * 12) (a4 * 12) (a5 * 12) (b0 * 12) (b1 * 12) (b2 * 12) (b3 * 12) (b4 * 12) (b5 * 12) W h
    rw [of_ok pa] at o1
    rw [of_ok pb] at o2
    rw [cm12 pa pb] at o3
    have O1 := Lib.hid o1
    have O2 := Lib.hid o2
    have O3 := Lib.hid o3
    have c1 := mul_cap8 (up_le8 pa) (dn_le8 pb)
    have c2 := mul_cap8 (up_le8 pb) (dn_le8 pa)
    clear o1 o2 o3 pa pb
    generalize upN a0 a1 a2 a3 a4 a5 = x at *
    generalize upN b0 b1 b2 b3 b4 b5 = y at *
    generalize dnN a0 a1 a2 a3 a4 a5 = x' at *
    generalize dnN b0 b1 b2 b3 b4 b5 = y' at *
    have Na := Nd.up de
    have Ma := Md.up de
    go_wp2_with fail
    ((with_reducible refine (Nmul_c _ _ _ _ _ _ _ _ _ Na Me ld te c1).mono ?_); rintro en u1a ⟨df, bf, nf, _, rfl, hNf, lf⟩)
    have Nb := Ne.up df
    have Mb := Ma.up df
    have k1a := bl_last df ke
    have A1a := blk_up Ae df
    have B1a := blk_up Be df
    go_wp2_with fail
    ((with_reducible refine (Nmul_c _ _ _ _ _ _ _ _ _ Nb Mb le td c2).mono ?_); rintro en u2a ⟨dg, bg, ng, _, rfl, hNg, lg⟩)
    have Lg := hNf.up dg
    have k2a := bl_last dg k1a
    have A2a := blk_up A1a dg
    have B2a := blk_up B1a dg
    go_wp2_with fail
    ((with_reducible refine (Ncmp_c _ _ _ _ _ _ _ _ _ Lg hNg lf lg).mono ?_); rintro en u3a ⟨rfl, dh⟩)
    obtain ⟨hzh, hch, hfh⟩ := bcl dh (by first | (simp; rfl) | rfl)
    have k3a := bl_last dh k2a
    have A3a := blk_up A2a dh
    have B3a := blk_up B2a dh
    generalize ordZ ((x * y' : Nat) : Int) ((y * x' : Nat) : Int) = z at *
    clear kd Ad Bd ke Ae Be k1a A1a B1a k2a A2a B2a
    have gA3a := A3a.lt
    have lA3a := Nat.le_of_lt gA3a
    have gB3a := B3a.lt
    have lB3a := Nat.le_of_lt gB3a
    have cA3a_0 := A3a.cell 0
    have cA3a_1 := A3a.cell 1
    have cA3a_2 := A3a.cell 2
    have cA3a_3 := A3a.cell 3
    have cA3a_4 := A3a.cell 4
    have cA3a_5 := A3a.cell 5
    simp only [List.getElem?_toArray, List.getElem?_cons_zero, List.getElem?_cons_succ] at cA3a_0 cA3a_1 cA3a_2 cA3a_3 cA3a_4 cA3a_5
    have cB3a_0 := B3a.cell 0
    have cB3a_1 := B3a.cell 1
    have cB3a_2 := B3a.cell 2
    have cB3a_3 := B3a.cell 3
    have cB3a_4 := B3a.cell 4
    have cB3a_5 := B3a.cell 5
    simp only [List.getElem?_toArray, List.getElem?_cons_zero, List.getElem?_cons_succ] at cB3a_0 cB3a_1 cB3a_2 cB3a_3 cB3a_4 cB3a_5
    go_wp2_with fail
    refine calls_letter ?_
    intro W6 hW6
    have k6 : Below w.heap.size w W6 := by
      rw [hW6]
      (repeat (first | (with_reducible assumption) | (with_reducible exact bl_refl _) | (with_reducible refine bl_alloc ?_ _) | (with_reducible refine bl_set' ?_ ?_; · (dsimp only; first | assumption | exact Nat.le_refl _ | omega)) | (with_reducible refine bl_last (by assumption) ?_)))
    have A6 : Blk W6 (w.heap.size) 38 #[.int .i64 a0, .int .i64 a1, .int .i64 a2, .int .i64 a3, .int .i64 a4, .int .i64 a5] := by
      rw [hW6]
      (repeat (first | (with_reducible assumption) | (with_reducible apply Blk.new) | (with_reducible exact blkAt _ _ _ _ (by simp; done)) | (with_reducible apply blk_st2) | (with_reducible apply blk_st4) | (with_reducible apply blk_st6) | (with_reducible apply blk_far (hne := by first | (with_reducible assumption) | omega)) | (with_reducible apply blk_up (hb := by assumption)) | (with_reducible apply Blk.alloc)))
    have B6 : Blk W6 (w.heap.size + 1) 38 #[.int .i64 b0, .int .i64 b1, .int .i64 b2, .int .i64 b3, .int .i64 b4, .int .i64 b5] := by
      rw [hW6]
      (repeat (first | (with_reducible assumption) | (with_reducible apply Blk.new) | (with_reducible exact blkAt _ _ _ _ (by simp; done)) | (with_reducible apply blk_st2) | (with_reducible apply blk_st4) | (with_reducible apply blk_st6) | (with_reducible apply blk_far (hne := by first | (with_reducible assumption) | omega)) | (with_reducible apply blk_up (hb := by assumption)) | (with_reducible apply Blk.alloc)))
    clear hW6
    try clear cB3a_0
    try clear cB3a_1
    try clear cB3a_2
    try clear cB3a_3
    try clear cB3a_4
    try clear cB3a_5
    try clear cA3a_0
    try clear cA3a_1
    try clear cA3a_2
    try clear cA3a_3
    try clear cA3a_4
    try clear cA3a_5
    try clear k3a
    try clear A3a
    try clear B3a
    try clear hzh
    try clear hch
    try clear hfh
    try clear dh
    try clear hzd
    try clear hcd
    try clear hfd
    try clear hze
    try clear hce
    try clear hfe
    try clear gA3a
    try clear lA3a
    try clear gB3a
    try clear lB3a
    have y6 := k6.size
    have gA6 := A6.lt
    have lA6 := Nat.le_of_lt gA6
    have gB6 := B6.lt
    have lB6 := Nat.le_of_lt gB6
    have cB6_0 := B6.cell 0
    have cB6_1 := B6.cell 1
    have cB6_2 := B6.cell 2
    have cB6_3 := B6.cell 3
    have cB6_4 := B6.cell 4
    have cB6_5 := B6.cell 5
    simp only [List.getElem?_toArray, List.getElem?_cons_zero, List.getElem?_cons_succ] at cB6_0 cB6_1 cB6_2 cB6_3 cB6_4 cB6_5
    ((with_reducible refine (O1.out _).mono ?_); rintro e u6 ⟨rfl, d6⟩)
    obtain ⟨hz6, hc6, hf6⟩ := bcl d6 (by first | (simp; rfl) | rfl)
    have qA6 : w.heap.size < u6.heap.size := by omega
    have pA6 : w.heap.size ≤ u6.heap.size := by omega
    have qB6 : w.heap.size + 1 < u6.heap.size := by omega
    have pB6 : w.heap.size + 1 ≤ u6.heap.size := by omega
    have oP : w.heap.size ≤ u6.heap.size := by omega
    have nAP : w.heap.size ≠ u6.heap.size := by omega
    have mAP : u6.heap.size ≠ w.heap.size := by omega
    have nBP : w.heap.size + 1 ≠ u6.heap.size := by omega
    have mBP : u6.heap.size ≠ w.heap.size + 1 := by omega
    go_wp2_with fail
    refine calls_letter ?_
    intro W7 hW7
    have k7 : Below w.heap.size w W7 := by
      rw [hW7]
      (repeat (first | (with_reducible assumption) | (with_reducible exact bl_refl _) | (with_reducible refine bl_alloc ?_ _) | (with_reducible refine bl_set' ?_ ?_; · (dsimp only; first | assumption | exact Nat.le_refl _ | omega)) | (with_reducible refine bl_last (by assumption) ?_)))
    have A7 : Blk W7 (w.heap.size) 38 #[.int .i64 a0, .int .i64 a1, .int .i64 a2, .int .i64 a3, .int .i64 a4, .int .i64 a5] := by
      rw [hW7]
      (repeat (first | (with_reducible assumption) | (with_reducible apply Blk.new) | (with_reducible exact blkAt _ _ _ _ (by simp; done)) | (with_reducible apply blk_st2) | (with_reducible apply blk_st4) | (with_reducible apply blk_st6) | (with_reducible apply blk_far (hne := by first | (with_reducible assumption) | omega)) | (with_reducible apply blk_up (hb := by assumption)) | (with_reducible apply Blk.alloc)))
    have B7 : Blk W7 (w.heap.size + 1) 38 #[.int .i64 b0, .int .i64 b1, .int .i64 b2, .int .i64 b3, .int .i64 b4, .int .i64 b5] := by
      rw [hW7]
      (repeat (first | (with_reducible assumption) | (with_reducible apply Blk.new) | (with_reducible exact blkAt _ _ _ _ (by simp; done)) | (with_reducible apply blk_st2) | (with_reducible apply blk_st4) | (with_reducible apply blk_st6) | (with_reducible apply blk_far (hne := by first | (with_reducible assumption) | omega)) | (with_reducible apply blk_up (hb := by assumption)) | (with_reducible apply Blk.alloc)))
    have P7 : Blk W7 (u6.heap.size) 23 #[.int .i64 (a0 * 12), .int .i64 (a1 * 12), .int .i64 (a2 * 12), .int .i64 (a3 * 12), .int .i64 (a4 * 12), .int .i64 (a5 * 12)] := by
      rw [hW7]
      (repeat (first | (with_reducible assumption) | (with_reducible apply Blk.new) | (with_reducible exact blkAt _ _ _ _ (by simp; done)) | (with_reducible apply blk_st2) | (with_reducible apply blk_st4) | (with_reducible apply blk_st6) | (with_reducible apply blk_far (hne := by first | (with_reducible assumption) | omega)) | (with_reducible apply blk_up (hb := by assumption)) | (with_reducible apply Blk.alloc)))
    clear hW7
    try clear qB6
    try clear pB6
    try clear qA6
    try clear pA6
    try clear hz6
    try clear hc6
    try clear hf6
    try clear d6
    try clear cB6_0
    try clear cB6_1
    try clear cB6_2
    try clear cB6_3
    try clear cB6_4
    try clear cB6_5
    try clear y6
    try clear k6
    try clear A6
    try clear B6
    try clear gA6
    try clear lA6
    try clear gB6
    try clear lB6
    have y7 := k7.size
    have gA7 := A7.lt
    have lA7 := Nat.le_of_lt gA7
    have gB7 := B7.lt
    have lB7 := Nat.le_of_lt gB7
    have gP7 := P7.lt
    have lP7 := Nat.le_of_lt gP7
    have cP7_0 := P7.cell 0
    have cP7_1 := P7.cell 1
    have cP7_2 := P7.cell 2
    have cP7_3 := P7.cell 3
    have cP7_4 := P7.cell 4
    have cP7_5 := P7.cell 5
    simp only [List.getElem?_toArray, List.getElem?_cons_zero, List.getElem?_cons_succ] at cP7_0 cP7_1 cP7_2 cP7_3 cP7_4 cP7_5
    ((with_reducible refine (O2.out _).mono ?_); rintro e u7 ⟨rfl, d7⟩)
    obtain ⟨hz7, hc7, hf7⟩ := bcl d7 (by first | (simp; rfl) | rfl)
    have qA7 : w.heap.size < u7.heap.size := by omega
    have pA7 : w.heap.size ≤ u7.heap.size := by omega
    have qB7 : w.heap.size + 1 < u7.heap.size := by omega
    have pB7 : w.heap.size + 1 ≤ u7.heap.size := by omega
    have qP7 : u6.heap.size < u7.heap.size := by omega
    have pP7 : u6.heap.size ≤ u7.heap.size := by omega
    have oQ : w.heap.size ≤ u7.heap.size := by omega
    have nAQ : w.heap.size ≠ u7.heap.size := by omega
    have mAQ : u7.heap.size ≠ w.heap.size := by omega
    have nBQ : w.heap.size + 1 ≠ u7.heap.size := by omega
    have mBQ : u7.heap.size ≠ w.heap.size + 1 := by omega
    have nPQ : u6.heap.size ≠ u7.heap.size := by omega
    have mPQ : u7.heap.size ≠ u6.heap.size := by omega
    go_wp2_with fail
    refine calls_letter ?_
    intro W8 hW8
    have k8 : Below w.heap.size w W8 := by
      rw [hW8]
      (repeat (first | (with_reducible assumption) | (with_reducible exact bl_refl _) | (with_reducible refine bl_alloc ?_ _) | (with_reducible refine bl_set' ?_ ?_; · (dsimp only; first | assumption | exact Nat.le_refl _ | omega)) | (with_reducible refine bl_last (by assumption) ?_)))
    have A8 : Blk W8 (w.heap.size) 38 #[.int .i64 a0, .int .i64 a1, .int .i64 a2, .int .i64 a3, .int .i64 a4, .int .i64 a5] := by
      rw [hW8]
      (repeat (first | (with_reducible assumption) | (with_reducible apply Blk.new) | (with_reducible exact blkAt _ _ _ _ (by simp; done)) | (with_reducible apply blk_st2) | (with_reducible apply blk_st4) | (with_reducible apply blk_st6) | (with_reducible apply blk_far (hne := by first | (with_reducible assumption) | omega)) | (with_reducible apply blk_up (hb := by assumption)) | (with_reducible apply Blk.alloc)))
    have B8 : Blk W8 (w.heap.size + 1) 38 #[.int .i64 b0, .int .i64 b1, .int .i64 b2, .int .i64 b3, .int .i64 b4, .int .i64 b5] := by
      rw [hW8]
      (repeat (first | (with_reducible assumption) | (with_reducible apply Blk.new) | (with_reducible exact blkAt _ _ _ _ (by simp; done)) | (with_reducible apply blk_st2) | (with_reducible apply blk_st4) | (with_reducible apply blk_st6) | (with_reducible apply blk_far (hne := by first | (with_reducible assumption) | omega)) | (with_reducible apply blk_up (hb := by assumption)) | (with_reducible apply Blk.alloc)))
    have P8 : Blk W8 (u6.heap.size) 23 #[.int .i64 (a0 * 12), .int .i64 (a1 * 12), .int .i64 (a2 * 12), .int .i64 (a3 * 12), .int .i64 (a4 * 12), .int .i64 (a5 * 12)] := by
      rw [hW8]
      (repeat (first | (with_reducible assumption) | (with_reducible apply Blk.new) | (with_reducible exact blkAt _ _ _ _ (by simp; done)) | (with_reducible apply blk_st2) | (with_reducible apply blk_st4) | (with_reducible apply blk_st6) | (with_reducible apply blk_far (hne := by first | (with_reducible assumption) | omega)) | (with_reducible apply blk_up (hb := by assumption)) | (with_reducible apply Blk.alloc)))
    have Q8 : Blk W8 (u7.heap.size) 23 #[.int .i64 (b0 * 12), .int .i64 (b1 * 12), .int .i64 (b2 * 12), .int .i64 (b3 * 12), .int .i64 (b4 * 12), .int .i64 (b5 * 12)] := by
      rw [hW8]
      (repeat (first | (with_reducible assumption) | (with_reducible apply Blk.new) | (with_reducible exact blkAt _ _ _ _ (by simp; done)) | (with_reducible apply blk_st2) | (with_reducible apply blk_st4) | (with_reducible apply blk_st6) | (with_reducible apply blk_far (hne := by first | (with_reducible assumption) | omega)) | (with_reducible apply blk_up (hb := by assumption)) | (with_reducible apply Blk.alloc)))
    clear hW8
    try clear qP7
    try clear pP7
    try clear qB7
    try clear pB7
    try clear qA7
    try clear pA7
    try clear hz7
    try clear hc7
    try clear hf7
    try clear d7
    try clear cP7_0
    try clear cP7_1
    try clear cP7_2
    try clear cP7_3
    try clear cP7_4
    try clear cP7_5
    try clear y7
    try clear k7
    try clear A7
    try clear B7
    try clear P7
    try clear gA7
    try clear lA7
    try clear gB7
    try clear lB7
    try clear gP7
    try clear lP7
    have y8 := k8.size
    have gA8 := A8.lt
    have lA8 := Nat.le_of_lt gA8
    have gB8 := B8.lt
    have lB8 := Nat.le_of_lt gB8
    have gP8 := P8.lt
    have lP8 := Nat.le_of_lt gP8
    have gQ8 := Q8.lt
    have lQ8 := Nat.le_of_lt gQ8
    ((with_reducible refine (O3.out _ (HP.out.up k8)).mono ?_); rintro e u8 ⟨rfl, d8⟩)
    obtain ⟨hz8, hc8, hf8⟩ := bcl d8 (by first | (simp; rfl) | rfl)
    have qA8 : w.heap.size < u8.heap.size := by omega
    have pA8 : w.heap.size ≤ u8.heap.size := by omega
    have qB8 : w.heap.size + 1 < u8.heap.size := by omega
    have pB8 : w.heap.size + 1 ≤ u8.heap.size := by omega
    have qP8 : u6.heap.size < u8.heap.size := by omega
    have pP8 : u6.heap.size ≤ u8.heap.size := by omega
    have qQ8 : u7.heap.size < u8.heap.size := by omega
    have pQ8 : u7.heap.size ≤ u8.heap.size := by omega
    go_wp2_with fail
    go_ret
    refine ⟨rfl, ?_⟩
    (repeat (first | (with_reducible exact bl_refl _) | (with_reducible refine bl_drew ?_) | (with_reducible refine bl_alloc ?_ _) | (with_reducible refine bl_set' ?_ ?_; · (first | omega | (simp; done) | (simp; omega))) | (with_reducible refine bl_last (by assumption) ?_) | (with_reducible refine bl_drewN ?_ _)))
end Go.Proofs.YtgbiiaaeabflnaaDoor
