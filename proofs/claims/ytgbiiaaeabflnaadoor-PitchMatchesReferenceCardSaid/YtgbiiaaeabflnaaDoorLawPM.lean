/- PitchMatchesReference: the walk (genpm03.py prints it). -/
import Derived.Test.YtgbiiaaeabflnaaDoorHead03
import Derived.Test.YtgbiiaaeabflnaaDoorRefPB
import Derived.Test.YtgbiiaaeabflnaaDoorRefPC

import Derived.Test.YtgbiiaaeabflnaaDoorRefPY
namespace Go.Proofs.YtgbiiaaeabflnaaDoor
open Go Go.RowKit

theorem blk_drew {W : World} {g : Nat} {t : TypeId} {cs : Array Value} (h : Blk W g t cs) : Blk W.drew g t cs := blk_up h (bl_drew (bl_refl W))
theorem exit_letter {K : Act → World → Prop} {Q : Exit → Act → World → Prop} {e : Exit} {a : Act} {w : World} (h : ∀ W, W = w → Exit.then K Q e a W) : Exit.then K Q e a w := h w rfl
theorem fr_no' {a0 a1 a2 a3 a4 a5 : Int} {w w' : World} {en : Ending} (h : FrE a0 a1 a2 a3 a4 a5 w en w') (hp : pV a0 a1 a2 a3 a4 a5 48 = false) : Below w.heap.size w w' ∧ en = .returned (.tuple #[.slice none 0 0, .slice none 0 0, .int .i64 1]) := by
  unfold FrE at h
  rw [hp, if_neg (by decide)] at h
  exact h
theorem fr_yes' {a0 a1 a2 a3 a4 a5 : Int} {w w' : World} {en : Ending} (h : FrE a0 a1 a2 a3 a4 a5 w en w') (hp : pV a0 a1 a2 a3 a4 a5 48 = true) : Below w.heap.size w w' ∧ ∃ q n q' n' : Nat, w.heap.size ≤ q ∧ w.heap.size ≤ q' ∧ en = .returned (.tuple #[.slice (some ⟨q, 0, none⟩) n n, .slice (some ⟨q', 0, none⟩) n' n', .int .i64 0]) ∧ Num w' w'.heap.size q n (upN a0 a1 a2 a3 a4 a5) ∧ n ≤ 640 ∧ Num w' w'.heap.size q' n' (dnN a0 a1 a2 a3 a4 a5) ∧ n' ≤ 640 := by
  unfold FrE at h
  rw [hp, if_pos rfl] at h
  exact h
theorem rfr_no {a0 a1 a2 a3 a4 a5 : Int} {w w' : World} {en : Ending} (h : RFrE a0 a1 a2 a3 a4 a5 w en w') (hp : pV a0 a1 a2 a3 a4 a5 48 = false) : Below w.heap.size w w' ∧ en = .returned (.tuple #[.slice none 0 0, .slice none 0 0, .int .i64 1]) := by
  unfold RFrE at h
  rw [hp, if_neg (by decide)] at h
  exact h
theorem rfr_yes {a0 a1 a2 a3 a4 a5 : Int} {w w' : World} {en : Ending} (h : RFrE a0 a1 a2 a3 a4 a5 w en w') (hp : pV a0 a1 a2 a3 a4 a5 48 = true) : Below w.heap.size w w' ∧ ∃ q n u q' n' u' : Nat, en = .returned (.tuple #[.slice (some ⟨q, 0, none⟩) n u, .slice (some ⟨q', 0, none⟩) n' u', .int .i64 0]) ∧ Num w' w'.heap.size q n (upN a0 a1 a2 a3 a4 a5) ∧ n ≤ 640 ∧ Num w' w'.heap.size q' n' (dnN a0 a1 a2 a3 a4 a5) ∧ n' ≤ 640 := by
  unfold RFrE at h
  rw [hp, if_pos rfl] at h
  exact h
set_option maxRecDepth 100000 in
set_option maxHeartbeats 4000000 in
theorem RSameNil_c (w : World) : Calls Tryd.prog 33 #[.slice none 0 0, .slice none 0 0] w (Ret (.bool true) w) := by
  go_enter Tryd.func33, Tryd.ntmps33
  go_wp2
  refine wp_loop_rounds 2 ?_
  rw [rounds_succ]
  go_wp2
  go_ret
  refine ⟨rfl, ?_⟩
  (repeat (first | (with_reducible exact bl_refl _) | (with_reducible refine bl_drew ?_) | (with_reducible refine bl_alloc ?_ _) | (with_reducible refine bl_set' ?_ ?_; · (first | omega | (simp; done) | (simp; omega))) | (with_reducible refine bl_last (by assumption) ?_) | (with_reducible refine bl_drewN ?_ _)))
theorem tx_shape (a0 a1 a2 a3 a4 a5 : Int) : ∃ (T : ByteArray) (e : Int), textV a0 a1 a2 a3 a4 a5 = .tuple #[.string T, .int .i64 e] := by
  unfold textV
  split
  · exact ⟨_, _, rfl⟩
  · exact ⟨_, _, rfl⟩
theorem par_shape (l : List UInt8) : ∃ q0 q1 q2 q3 q4 q5 e : Int, parV l = .tuple #[.agg #[.int .i64 q0, .int .i64 q1, .int .i64 q2, .int .i64 q3, .int .i64 q4, .int .i64 q5], .int .i64 e] := by
  unfold parV
  split
  · exact ⟨_, _, _, _, _, _, _, rfl⟩
  · split
    · exact ⟨_, _, _, _, _, _, _, rfl⟩
    · exact ⟨_, _, _, _, _, _, _, rfl⟩
theorem of_shape (a0 a1 a2 a3 a4 a5 : Int) : ∃ q0 q1 q2 q3 q4 q5 e : Int, ofV a0 a1 a2 a3 a4 a5 = .tuple #[.agg #[.int .i64 q0, .int .i64 q1, .int .i64 q2, .int .i64 q3, .int .i64 q4, .int .i64 q5], .int .i64 e] := by
  unfold ofV
  split
  · exact ⟨_, _, _, _, _, _, _, rfl⟩
  · exact ⟨_, _, _, _, _, _, _, rfl⟩
theorem wh_shape (a0 a1 a2 a3 a4 a5 : Int) : ∃ q0 q1 q2 q3 q4 q5 e : Int, whV a0 a1 a2 a3 a4 a5 = .tuple #[.agg #[.int .i64 q0, .int .i64 q1, .int .i64 q2, .int .i64 q3, .int .i64 q4, .int .i64 q5], .int .i64 e] := by
  unfold whV
  split
  · split
    · exact ⟨_, _, _, _, _, _, _, rfl⟩
    · exact ⟨_, _, _, _, _, _, _, rfl⟩
  · exact ⟨_, _, _, _, _, _, _, rfl⟩
theorem ra_shape (n d : Int) : ∃ q0 q1 q2 q3 q4 q5 e : Int, raP n d = .tuple #[.agg #[.int .i64 q0, .int .i64 q1, .int .i64 q2, .int .i64 q3, .int .i64 q4, .int .i64 q5], .int .i64 e] := by
  unfold raP
  split
  · split
    · exact ⟨_, _, _, _, _, _, _, rfl⟩
    · exact ⟨_, _, _, _, _, _, _, rfl⟩
  · exact ⟨_, _, _, _, _, _, _, rfl⟩
set_option maxRecDepth 100000 in
set_option maxHeartbeats 32000000 in
theorem walk_PitchMatchesReference (a0 a1 a2 a3 a4 a5 b0 b1 b2 b3 b4 b5 v0 v1 v2 v3 v4 v5 n d : Int) (s : ByteArray) (w : World)
    (_ : (Lit.int .i64 a0).wf = true) (_ : (Lit.int .i64 a1).wf = true) (_ : (Lit.int .i64 a2).wf = true) (_ : (Lit.int .i64 a3).wf = true) (_ : (Lit.int .i64 a4).wf = true) (_ : (Lit.int .i64 a5).wf = true) (_ : (Lit.int .i64 b0).wf = true) (_ : (Lit.int .i64 b1).wf = true) (_ : (Lit.int .i64 b2).wf = true) (_ : (Lit.int .i64 b3).wf = true) (_ : (Lit.int .i64 b4).wf = true) (_ : (Lit.int .i64 b5).wf = true) (_ : (Lit.int .i64 v0).wf = true) (_ : (Lit.int .i64 v1).wf = true) (_ : (Lit.int .i64 v2).wf = true) (_ : (Lit.int .i64 v3).wf = true) (_ : (Lit.int .i64 v4).wf = true) (_ : (Lit.int .i64 v5).wf = true) (_ : (Lit.int .i64 n).wf = true) (_ : (Lit.int .i64 d).wf = true) (hs : s.size ≤ 140737488351232) (hL : PR w ∧ PW w) :
    Calls Tryd.prog 6 #[.agg #[.int .i64 a0, .int .i64 a1, .int .i64 a2, .int .i64 a3, .int .i64 a4, .int .i64 a5], .agg #[.int .i64 b0, .int .i64 b1, .int .i64 b2, .int .i64 b3, .int .i64 b4, .int .i64 b5], .agg #[.int .i64 v0, .int .i64 v1, .int .i64 v2, .int .i64 v3, .int .i64 v4, .int .i64 v5], .int .i64 n, .int .i64 d, .string s] w (Ret (.bool true) w) := by
  have HP := Lib.hid hL.1
  have HQ := Lib.hid hL.2
  have HH := Lib.hid (fun W (h : PR W) (h' : PW W) => head03_c W h h')
  clear hL
  have HV1 := Lib.hid (fun W => PVld_c a0 a1 a2 a3 a4 a5 W)
  have HV2 := Lib.hid (fun W => RPVld_c a0 a1 a2 a3 a4 a5 W)
  have HV3 := Lib.hid (fun W => PInt_c v0 v1 v2 v3 v4 v5 W)
  have HV4 := Lib.hid (fun W => RPInt_c v0 v1 v2 v3 v4 v5 W)
  have hAo := fun W => POf_c v0 v1 v2 v3 v4 v5 W
  have hBo := fun W => ROf_c v0 v1 v2 v3 v4 v5 W
  obtain ⟨o0, o1, o2, o3, o4, o5, eo, hSo⟩ := of_shape v0 v1 v2 v3 v4 v5
  rw [hSo] at hAo hBo
  have HAo := Lib.hid hAo
  have HBo := Lib.hid hBo
  clear hAo hBo hSo
  have hAf := fun W => PWhole_c a0 a1 a2 a3 a4 a5 W
  have hBf := fun W => RWhole_c a0 a1 a2 a3 a4 a5 W
  obtain ⟨f0, f1, f2, f3, f4, f5, ef, hSf⟩ := wh_shape a0 a1 a2 a3 a4 a5
  rw [hSf] at hAf hBf
  have HAf := Lib.hid hAf
  have HBf := Lib.hid hBf
  clear hAf hBf hSf
  have hAm := fun W => PMul_c a0 a1 a2 a3 a4 a5 b0 b1 b2 b3 b4 b5 W
  have hBm := fun W => RMul_c a0 a1 a2 a3 a4 a5 b0 b1 b2 b3 b4 b5 W
  obtain ⟨m0, m1, m2, m3, m4, m5, em, hSm⟩ := (⟨_, _, _, _, _, _, _, rfl⟩ : ∃ q0 q1 q2 q3 q4 q5 e : Int, cbV 1 a0 a1 a2 a3 a4 a5 b0 b1 b2 b3 b4 b5 = .tuple #[.agg #[.int .i64 q0, .int .i64 q1, .int .i64 q2, .int .i64 q3, .int .i64 q4, .int .i64 q5], .int .i64 e])
  rw [hSm] at hAm hBm
  have HAm := Lib.hid hAm
  have HBm := Lib.hid hBm
  clear hAm hBm hSm
  have hAt := fun W => PDiv_c a0 a1 a2 a3 a4 a5 b0 b1 b2 b3 b4 b5 W
  have hBt := fun W => RDiv_c a0 a1 a2 a3 a4 a5 b0 b1 b2 b3 b4 b5 W
  obtain ⟨t0, t1, t2, t3, t4, t5, et, hSt⟩ := (⟨_, _, _, _, _, _, _, rfl⟩ : ∃ q0 q1 q2 q3 q4 q5 e : Int, cbV (-1) a0 a1 a2 a3 a4 a5 b0 b1 b2 b3 b4 b5 = .tuple #[.agg #[.int .i64 q0, .int .i64 q1, .int .i64 q2, .int .i64 q3, .int .i64 q4, .int .i64 q5], .int .i64 e])
  rw [hSt] at hAt hBt
  have HAt := Lib.hid hAt
  have HBt := Lib.hid hBt
  clear hAt hBt hSt
  have hAp := fun W => PPower_c a0 a1 a2 a3 a4 a5 n d W
  have hBp := fun W => RPower_c a0 a1 a2 a3 a4 a5 n d W
  obtain ⟨p0, p1, p2, p3, p4, p5, ep, hSp⟩ := (⟨_, _, _, _, _, _, _, rfl⟩ : ∃ q0 q1 q2 q3 q4 q5 e : Int, pwV a0 a1 a2 a3 a4 a5 n d = .tuple #[.agg #[.int .i64 q0, .int .i64 q1, .int .i64 q2, .int .i64 q3, .int .i64 q4, .int .i64 q5], .int .i64 e])
  rw [hSp] at hAp hBp
  have HAp := Lib.hid hAp
  have HBp := Lib.hid hBp
  clear hAp hBp hSp
  have hAc := fun W (h : PR W) => PCmp_c a0 a1 a2 a3 a4 a5 b0 b1 b2 b3 b4 b5 W h
  have hBc := fun W => RCmp3_c a0 a1 a2 a3 a4 a5 b0 b1 b2 b3 b4 b5 W
  obtain ⟨cx, ec, hSc⟩ := (⟨_, _, rfl⟩ : ∃ x e : Int, pcV a0 a1 a2 a3 a4 a5 b0 b1 b2 b3 b4 b5 = .tuple #[.int .i64 x, .int .i64 e])
  rw [hSc] at hAc hBc
  have HAc := Lib.hid hAc
  have HBc := Lib.hid hBc
  clear hAc hBc hSc
  have hAr := fun W (h : PR W) => PRatio_c n d W h
  have hBr := fun W => RRatio_c n d W
  obtain ⟨r0, r1, r2, r3, r4, r5, er, hSr⟩ := ra_shape n d
  rw [hSr] at hAr hBr
  have HAr := Lib.hid hAr
  have HBr := Lib.hid hBr
  clear hAr hBr hSr
  have hAx := fun W (h : PR W) (h' : PW W) => PText_c a0 a1 a2 a3 a4 a5 W h h'
  have hBx := fun W => RText_c a0 a1 a2 a3 a4 a5 W
  obtain ⟨T, ex, hSx⟩ := tx_shape a0 a1 a2 a3 a4 a5
  rw [hSx] at hAx hBx
  have HAx := Lib.hid hAx
  have HBx := Lib.hid hBx
  clear hAx hBx hSx
  have HF1 := Lib.hid (fun W (h : PR W) => PFraction_c v0 v1 v2 v3 v4 v5 W h)
  have HF2 := Lib.hid (fun W => RFraction_c v0 v1 v2 v3 v4 v5 W)
  obtain ⟨l, hl⟩ : ∃ l : List UInt8, l = s.data.toList := ⟨_, rfl⟩
  have hsl : s = ⟨l.toArray⟩ := by rw [hl]
  have hsz : s.size = l.length := by rw [hl, Array.length_toList]; rfl
  have hA1 := fun W (hz : s.size ≤ 200) (h : PR W) (h' : PW W) => PParse_c l W (by omega) h h'
  have hB1 := fun W (hz : s.size ≤ 200) => RParse_c l W (by omega)
  rw [← hsl] at hA1 hB1
  obtain ⟨q0, q1, q2, q3, q4, q5, eq, hS⟩ := par_shape l
  rw [hS] at hA1 hB1
  have HAq := Lib.hid hA1
  have HBq := Lib.hid hB1
  clear hA1 hB1 hS hsl hl hsz l
  have HPV : Hid (pV v0 v1 v2 v3 v4 v5 48 = true ∨ pV v0 v1 v2 v3 v4 v5 48 = false) := Lib.hid (by cases pV v0 v1 v2 v3 v4 v5 48 <;> simp)
  go_enter Tryd.func6, Tryd.ntmps6
  go_wp2_with fail
  ((with_reducible refine (HH.out _ (HP.out.up (by (repeat (first | (with_reducible exact bl_refl _) | (with_reducible refine bl_drew ?_) | (with_reducible refine bl_alloc ?_ _) | (with_reducible refine bl_set' ?_ ?_; · (first | omega | (simp; done) | (simp; omega))) | (with_reducible refine bl_last (by assumption) ?_) | (with_reducible refine bl_drewN ?_ _))))) (tab_up HQ.out (by (repeat (first | (with_reducible exact bl_refl _) | (with_reducible refine bl_drew ?_) | (with_reducible refine bl_alloc ?_ _) | (with_reducible refine bl_set' ?_ ?_; · (first | omega | (simp; done) | (simp; omega))) | (with_reducible refine bl_last (by assumption) ?_) | (with_reducible refine bl_drewN ?_ _)))))).mono ?_); rintro e u0 ⟨rfl, d0⟩)
  obtain ⟨hz0, hc0, hf0⟩ := bcl d0 (by first | (simp; rfl) | rfl)
  have z0_0 : w.heap.size < u0.heap.size := by omega
  have z0_1 : w.heap.size + 1 < u0.heap.size := by omega
  have z0_2 : w.heap.size + 1 + 1 < u0.heap.size := by omega
  go_upto_region 2 with fail
  refine wp_letter ?_
  intro W0 hW0
  have k0 : Below w.heap.size w W0 := by
    rw [hW0]
    (repeat (first | (with_reducible assumption) | (with_reducible exact bl_refl _) | (with_reducible refine bl_alloc ?_ _) | (with_reducible refine bl_drew ?_) | (with_reducible refine bl_set' ?_ ?_; · (dsimp only; first | assumption | exact Nat.le_refl _ | omega)) | (with_reducible refine bl_last (by assumption) ?_)))
  have A0 : Blk W0 (w.heap.size) 23 #[.int .i64 a0, .int .i64 a1, .int .i64 a2, .int .i64 a3, .int .i64 a4, .int .i64 a5] := by
    rw [hW0]
    (repeat (first | (with_reducible assumption) | (with_reducible apply Blk.new) | (with_reducible exact blkAt _ _ _ _ (by simp; done)) | (with_reducible apply blk_st2) | (with_reducible apply blk_st4) | (with_reducible apply blk_st6) | (with_reducible apply blk_far (hne := by first | (with_reducible assumption) | omega)) | (with_reducible apply blk_up (hb := by assumption)) | (with_reducible apply Blk.alloc) | (with_reducible apply blk_drew)))
  have B0 : Blk W0 (w.heap.size + 1) 23 #[.int .i64 b0, .int .i64 b1, .int .i64 b2, .int .i64 b3, .int .i64 b4, .int .i64 b5] := by
    rw [hW0]
    (repeat (first | (with_reducible assumption) | (with_reducible apply Blk.new) | (with_reducible exact blkAt _ _ _ _ (by simp; done)) | (with_reducible apply blk_st2) | (with_reducible apply blk_st4) | (with_reducible apply blk_st6) | (with_reducible apply blk_far (hne := by first | (with_reducible assumption) | omega)) | (with_reducible apply blk_up (hb := by assumption)) | (with_reducible apply Blk.alloc) | (with_reducible apply blk_drew)))
  have V0 : Blk W0 (w.heap.size + 1 + 1) 38 #[.int .i64 v0, .int .i64 v1, .int .i64 v2, .int .i64 v3, .int .i64 v4, .int .i64 v5] := by
    rw [hW0]
    (repeat (first | (with_reducible assumption) | (with_reducible apply Blk.new) | (with_reducible exact blkAt _ _ _ _ (by simp; done)) | (with_reducible apply blk_st2) | (with_reducible apply blk_st4) | (with_reducible apply blk_st6) | (with_reducible apply blk_far (hne := by first | (with_reducible assumption) | omega)) | (with_reducible apply blk_up (hb := by assumption)) | (with_reducible apply Blk.alloc) | (with_reducible apply blk_drew)))
  clear hW0
  try clear hz0
  try clear hc0
  try clear hf0
  try clear d0
  try clear z0_0
  try clear z0_1
  try clear z0_2
  have y0 := k0.size
  have gA0 := A0.lt
  have lA0 := Nat.le_of_lt gA0
  have gB0 := B0.lt
  have lB0 := Nat.le_of_lt gB0
  have gV0 := V0.lt
  have lV0 := Nat.le_of_lt gV0
  have cA0_0 := A0.cell 0
  have cA0_1 := A0.cell 1
  have cA0_2 := A0.cell 2
  have cA0_3 := A0.cell 3
  have cA0_4 := A0.cell 4
  have cA0_5 := A0.cell 5
  simp only [List.getElem?_toArray, List.getElem?_cons_zero, List.getElem?_cons_succ] at cA0_0 cA0_1 cA0_2 cA0_3 cA0_4 cA0_5
  have cV0_0 := V0.cell 0
  have cV0_1 := V0.cell 1
  have cV0_2 := V0.cell 2
  have cV0_3 := V0.cell 3
  have cV0_4 := V0.cell 4
  have cV0_5 := V0.cell 5
  simp only [List.getElem?_toArray, List.getElem?_cons_zero, List.getElem?_cons_succ] at cV0_0 cV0_1 cV0_2 cV0_3 cV0_4 cV0_5
  go_region_held3 (fun W => W.cell? ⟨w.heap.size, 0, none⟩ = some (.int .i64 a0) ∧ W.cell? ⟨w.heap.size, 1, none⟩ = some (.int .i64 a1) ∧ W.cell? ⟨w.heap.size, 2, none⟩ = some (.int .i64 a2) ∧ W.cell? ⟨w.heap.size, 3, none⟩ = some (.int .i64 a3) ∧ W.cell? ⟨w.heap.size, 4, none⟩ = some (.int .i64 a4) ∧ W.cell? ⟨w.heap.size, 5, none⟩ = some (.int .i64 a5) ∧ W.cell? ⟨w.heap.size + 1 + 1, 0, none⟩ = some (.int .i64 v0) ∧ W.cell? ⟨w.heap.size + 1 + 1, 1, none⟩ = some (.int .i64 v1) ∧ W.cell? ⟨w.heap.size + 1 + 1, 2, none⟩ = some (.int .i64 v2) ∧ W.cell? ⟨w.heap.size + 1 + 1, 3, none⟩ = some (.int .i64 v3) ∧ W.cell? ⟨w.heap.size + 1 + 1, 4, none⟩ = some (.int .i64 v4) ∧ W.cell? ⟨w.heap.size + 1 + 1, 5, none⟩ = some (.int .i64 v5))
    (first | go_keep | (refine ⟨?_, ?_, ?_, ?_, ?_, ?_, ?_, ?_, ?_, ?_, ?_, ?_⟩ <;> (go_simp; done)))
    (first | (go_at_call 17; ((with_reducible refine (HV1.out _).mono ?_); rintro en x91 ⟨rfl, b91⟩; obtain ⟨bz91, bc91, bf91⟩ := bcl b91 (by first | (simp; rfl) | rfl))) | (go_at_call 11; ((with_reducible refine (HV2.out _).mono ?_); rintro en x92 ⟨rfl, b92⟩; obtain ⟨bz92, bc92, bf92⟩ := bcl b92 (by first | (simp; rfl) | rfl))) | (go_at_call 18; ((with_reducible refine (HV3.out _).mono ?_); rintro en x93 ⟨rfl, b93⟩; obtain ⟨bz93, bc93, bf93⟩ := bcl b93 (by first | (simp; rfl) | rfl))) | (go_at_call 19; ((with_reducible refine (HV4.out _).mono ?_); rintro en x94 ⟨rfl, b94⟩; obtain ⟨bz94, bc94, bf94⟩ := bcl b94 (by first | (simp; rfl) | rfl))))
  refine exit_letter ?_
  intro W1 hW1
  have k1 : Below w.heap.size w W1 := by
    rw [hW1]
    (repeat (first | (with_reducible assumption) | (with_reducible exact bl_refl _) | (with_reducible refine bl_alloc ?_ _) | (with_reducible refine bl_drew ?_) | (with_reducible refine bl_set' ?_ ?_; · (dsimp only; first | assumption | exact Nat.le_refl _ | omega)) | (with_reducible refine bl_last (by assumption) ?_)))
  have A1 : Blk W1 (w.heap.size) 23 #[.int .i64 a0, .int .i64 a1, .int .i64 a2, .int .i64 a3, .int .i64 a4, .int .i64 a5] := by
    rw [hW1]
    (repeat (first | (with_reducible assumption) | (with_reducible apply Blk.new) | (with_reducible exact blkAt _ _ _ _ (by simp; done)) | (with_reducible apply blk_st2) | (with_reducible apply blk_st4) | (with_reducible apply blk_st6) | (with_reducible apply blk_far (hne := by first | (with_reducible assumption) | omega)) | (with_reducible apply blk_up (hb := by assumption)) | (with_reducible apply Blk.alloc) | (with_reducible apply blk_drew)))
  have B1 : Blk W1 (w.heap.size + 1) 23 #[.int .i64 b0, .int .i64 b1, .int .i64 b2, .int .i64 b3, .int .i64 b4, .int .i64 b5] := by
    rw [hW1]
    (repeat (first | (with_reducible assumption) | (with_reducible apply Blk.new) | (with_reducible exact blkAt _ _ _ _ (by simp; done)) | (with_reducible apply blk_st2) | (with_reducible apply blk_st4) | (with_reducible apply blk_st6) | (with_reducible apply blk_far (hne := by first | (with_reducible assumption) | omega)) | (with_reducible apply blk_up (hb := by assumption)) | (with_reducible apply Blk.alloc) | (with_reducible apply blk_drew)))
  have V1 : Blk W1 (w.heap.size + 1 + 1) 38 #[.int .i64 v0, .int .i64 v1, .int .i64 v2, .int .i64 v3, .int .i64 v4, .int .i64 v5] := by
    rw [hW1]
    (repeat (first | (with_reducible assumption) | (with_reducible apply Blk.new) | (with_reducible exact blkAt _ _ _ _ (by simp; done)) | (with_reducible apply blk_st2) | (with_reducible apply blk_st4) | (with_reducible apply blk_st6) | (with_reducible apply blk_far (hne := by first | (with_reducible assumption) | omega)) | (with_reducible apply blk_up (hb := by assumption)) | (with_reducible apply Blk.alloc) | (with_reducible apply blk_drew)))
  clear hW1
  try clear cV0_0
  try clear cV0_1
  try clear cV0_2
  try clear cV0_3
  try clear cV0_4
  try clear cV0_5
  try clear cA0_0
  try clear cA0_1
  try clear cA0_2
  try clear cA0_3
  try clear cA0_4
  try clear cA0_5
  try clear y0
  try clear k0
  try clear A0
  try clear B0
  try clear V0
  try clear gA0
  try clear lA0
  try clear gB0
  try clear lB0
  try clear gV0
  try clear lV0
  try clear b91
  try clear b92
  try clear b93
  try clear b94
  try clear bz91
  try clear bz92
  try clear bz93
  try clear bz94
  try clear bc91
  try clear bc92
  try clear bc93
  try clear bc94
  try clear bf91
  try clear bf92
  try clear bf93
  try clear bf94
  have y1 := k1.size
  have gA1 := A1.lt
  have lA1 := Nat.le_of_lt gA1
  have gB1 := B1.lt
  have lB1 := Nat.le_of_lt gB1
  have gV1 := V1.lt
  have lV1 := Nat.le_of_lt gV1
  have cV1_0 := V1.cell 0
  have cV1_1 := V1.cell 1
  have cV1_2 := V1.cell 2
  have cV1_3 := V1.cell 3
  have cV1_4 := V1.cell 4
  have cV1_5 := V1.cell 5
  simp only [List.getElem?_toArray, List.getElem?_cons_zero, List.getElem?_cons_succ] at cV1_0 cV1_1 cV1_2 cV1_3 cV1_4 cV1_5
  clear HV1 HV2 HV3 HV4
  go_wp2_with fail
  ((with_reducible refine (HAo.out _).mono ?_); rintro e u1 ⟨rfl, d1⟩)
  obtain ⟨hz1, hc1, hf1⟩ := bcl d1 (by first | (simp; rfl) | rfl)
  have qA1 : w.heap.size < u1.heap.size := by omega
  have pA1 : w.heap.size ≤ u1.heap.size := by omega
  have qB1 : w.heap.size + 1 < u1.heap.size := by omega
  have pB1 : w.heap.size + 1 ≤ u1.heap.size := by omega
  have qV1 : w.heap.size + 1 + 1 < u1.heap.size := by omega
  have pV1 : w.heap.size + 1 + 1 ≤ u1.heap.size := by omega
  have oX : w.heap.size ≤ u1.heap.size := by omega
  have nAX : w.heap.size ≠ u1.heap.size := by omega
  have mAX : u1.heap.size ≠ w.heap.size := by omega
  have nBX : w.heap.size + 1 ≠ u1.heap.size := by omega
  have mBX : u1.heap.size ≠ w.heap.size + 1 := by omega
  have nVX : w.heap.size + 1 + 1 ≠ u1.heap.size := by omega
  have mVX : u1.heap.size ≠ w.heap.size + 1 + 1 := by omega
  go_wp2_with fail
  refine calls_letter ?_
  intro W2 hW2
  have k2 : Below w.heap.size w W2 := by
    rw [hW2]
    (repeat (first | (with_reducible assumption) | (with_reducible exact bl_refl _) | (with_reducible refine bl_alloc ?_ _) | (with_reducible refine bl_drew ?_) | (with_reducible refine bl_set' ?_ ?_; · (dsimp only; first | assumption | exact Nat.le_refl _ | omega)) | (with_reducible refine bl_last (by assumption) ?_)))
  have A2 : Blk W2 (w.heap.size) 23 #[.int .i64 a0, .int .i64 a1, .int .i64 a2, .int .i64 a3, .int .i64 a4, .int .i64 a5] := by
    rw [hW2]
    (repeat (first | (with_reducible assumption) | (with_reducible apply Blk.new) | (with_reducible exact blkAt _ _ _ _ (by simp; done)) | (with_reducible apply blk_st2) | (with_reducible apply blk_st4) | (with_reducible apply blk_st6) | (with_reducible apply blk_far (hne := by first | (with_reducible assumption) | omega)) | (with_reducible apply blk_up (hb := by assumption)) | (with_reducible apply Blk.alloc) | (with_reducible apply blk_drew)))
  have B2 : Blk W2 (w.heap.size + 1) 23 #[.int .i64 b0, .int .i64 b1, .int .i64 b2, .int .i64 b3, .int .i64 b4, .int .i64 b5] := by
    rw [hW2]
    (repeat (first | (with_reducible assumption) | (with_reducible apply Blk.new) | (with_reducible exact blkAt _ _ _ _ (by simp; done)) | (with_reducible apply blk_st2) | (with_reducible apply blk_st4) | (with_reducible apply blk_st6) | (with_reducible apply blk_far (hne := by first | (with_reducible assumption) | omega)) | (with_reducible apply blk_up (hb := by assumption)) | (with_reducible apply Blk.alloc) | (with_reducible apply blk_drew)))
  have V2 : Blk W2 (w.heap.size + 1 + 1) 38 #[.int .i64 v0, .int .i64 v1, .int .i64 v2, .int .i64 v3, .int .i64 v4, .int .i64 v5] := by
    rw [hW2]
    (repeat (first | (with_reducible assumption) | (with_reducible apply Blk.new) | (with_reducible exact blkAt _ _ _ _ (by simp; done)) | (with_reducible apply blk_st2) | (with_reducible apply blk_st4) | (with_reducible apply blk_st6) | (with_reducible apply blk_far (hne := by first | (with_reducible assumption) | omega)) | (with_reducible apply blk_up (hb := by assumption)) | (with_reducible apply Blk.alloc) | (with_reducible apply blk_drew)))
  have X2 : Blk W2 (u1.heap.size) 23 #[.int .i64 o0, .int .i64 o1, .int .i64 o2, .int .i64 o3, .int .i64 o4, .int .i64 o5] := by
    rw [hW2]
    (repeat (first | (with_reducible assumption) | (with_reducible apply Blk.new) | (with_reducible exact blkAt _ _ _ _ (by simp; done)) | (with_reducible apply blk_st2) | (with_reducible apply blk_st4) | (with_reducible apply blk_st6) | (with_reducible apply blk_far (hne := by first | (with_reducible assumption) | omega)) | (with_reducible apply blk_up (hb := by assumption)) | (with_reducible apply Blk.alloc) | (with_reducible apply blk_drew)))
  clear hW2
  try clear qV1
  try clear pV1
  try clear qB1
  try clear pB1
  try clear qA1
  try clear pA1
  try clear hz1
  try clear hc1
  try clear hf1
  try clear d1
  try clear cV1_0
  try clear cV1_1
  try clear cV1_2
  try clear cV1_3
  try clear cV1_4
  try clear cV1_5
  try clear y1
  try clear k1
  try clear A1
  try clear B1
  try clear V1
  try clear gA1
  try clear lA1
  try clear gB1
  try clear lB1
  try clear gV1
  try clear lV1
  have y2 := k2.size
  have gA2 := A2.lt
  have lA2 := Nat.le_of_lt gA2
  have gB2 := B2.lt
  have lB2 := Nat.le_of_lt gB2
  have gV2 := V2.lt
  have lV2 := Nat.le_of_lt gV2
  have gX2 := X2.lt
  have lX2 := Nat.le_of_lt gX2
  have cX2_0 := X2.cell 0
  have cX2_1 := X2.cell 1
  have cX2_2 := X2.cell 2
  have cX2_3 := X2.cell 3
  have cX2_4 := X2.cell 4
  have cX2_5 := X2.cell 5
  simp only [List.getElem?_toArray, List.getElem?_cons_zero, List.getElem?_cons_succ] at cX2_0 cX2_1 cX2_2 cX2_3 cX2_4 cX2_5
  have cA2_0 := A2.cell 0
  have cA2_1 := A2.cell 1
  have cA2_2 := A2.cell 2
  have cA2_3 := A2.cell 3
  have cA2_4 := A2.cell 4
  have cA2_5 := A2.cell 5
  simp only [List.getElem?_toArray, List.getElem?_cons_zero, List.getElem?_cons_succ] at cA2_0 cA2_1 cA2_2 cA2_3 cA2_4 cA2_5
  ((with_reducible refine (HBo.out _).mono ?_); rintro e u2 ⟨rfl, d2⟩)
  obtain ⟨hz2, hc2, hf2⟩ := bcl d2 (by first | (simp; rfl) | rfl)
  have qA2 : w.heap.size < u2.heap.size := by omega
  have pA2 : w.heap.size ≤ u2.heap.size := by omega
  have qB2 : w.heap.size + 1 < u2.heap.size := by omega
  have pB2 : w.heap.size + 1 ≤ u2.heap.size := by omega
  have qV2 : w.heap.size + 1 + 1 < u2.heap.size := by omega
  have pV2 : w.heap.size + 1 + 1 ≤ u2.heap.size := by omega
  have qX2 : u1.heap.size < u2.heap.size := by omega
  have pX2 : u1.heap.size ≤ u2.heap.size := by omega
  have oY : w.heap.size ≤ u2.heap.size := by omega
  have nAY : w.heap.size ≠ u2.heap.size := by omega
  have mAY : u2.heap.size ≠ w.heap.size := by omega
  have nBY : w.heap.size + 1 ≠ u2.heap.size := by omega
  have mBY : u2.heap.size ≠ w.heap.size + 1 := by omega
  have nVY : w.heap.size + 1 + 1 ≠ u2.heap.size := by omega
  have mVY : u2.heap.size ≠ w.heap.size + 1 + 1 := by omega
  have nXY : u1.heap.size ≠ u2.heap.size := by omega
  have mXY : u2.heap.size ≠ u1.heap.size := by omega
  go_wp2_with fail
  refine calls_letter ?_
  intro W3 hW3
  have k3 : Below w.heap.size w W3 := by
    rw [hW3]
    (repeat (first | (with_reducible assumption) | (with_reducible exact bl_refl _) | (with_reducible refine bl_alloc ?_ _) | (with_reducible refine bl_drew ?_) | (with_reducible refine bl_set' ?_ ?_; · (dsimp only; first | assumption | exact Nat.le_refl _ | omega)) | (with_reducible refine bl_last (by assumption) ?_)))
  have A3 : Blk W3 (w.heap.size) 23 #[.int .i64 a0, .int .i64 a1, .int .i64 a2, .int .i64 a3, .int .i64 a4, .int .i64 a5] := by
    rw [hW3]
    (repeat (first | (with_reducible assumption) | (with_reducible apply Blk.new) | (with_reducible exact blkAt _ _ _ _ (by simp; done)) | (with_reducible apply blk_st2) | (with_reducible apply blk_st4) | (with_reducible apply blk_st6) | (with_reducible apply blk_far (hne := by first | (with_reducible assumption) | omega)) | (with_reducible apply blk_up (hb := by assumption)) | (with_reducible apply Blk.alloc) | (with_reducible apply blk_drew)))
  have B3 : Blk W3 (w.heap.size + 1) 23 #[.int .i64 b0, .int .i64 b1, .int .i64 b2, .int .i64 b3, .int .i64 b4, .int .i64 b5] := by
    rw [hW3]
    (repeat (first | (with_reducible assumption) | (with_reducible apply Blk.new) | (with_reducible exact blkAt _ _ _ _ (by simp; done)) | (with_reducible apply blk_st2) | (with_reducible apply blk_st4) | (with_reducible apply blk_st6) | (with_reducible apply blk_far (hne := by first | (with_reducible assumption) | omega)) | (with_reducible apply blk_up (hb := by assumption)) | (with_reducible apply Blk.alloc) | (with_reducible apply blk_drew)))
  have V3 : Blk W3 (w.heap.size + 1 + 1) 38 #[.int .i64 v0, .int .i64 v1, .int .i64 v2, .int .i64 v3, .int .i64 v4, .int .i64 v5] := by
    rw [hW3]
    (repeat (first | (with_reducible assumption) | (with_reducible apply Blk.new) | (with_reducible exact blkAt _ _ _ _ (by simp; done)) | (with_reducible apply blk_st2) | (with_reducible apply blk_st4) | (with_reducible apply blk_st6) | (with_reducible apply blk_far (hne := by first | (with_reducible assumption) | omega)) | (with_reducible apply blk_up (hb := by assumption)) | (with_reducible apply Blk.alloc) | (with_reducible apply blk_drew)))
  have X3 : Blk W3 (u1.heap.size) 23 #[.int .i64 o0, .int .i64 o1, .int .i64 o2, .int .i64 o3, .int .i64 o4, .int .i64 o5] := by
    rw [hW3]
    (repeat (first | (with_reducible assumption) | (with_reducible apply Blk.new) | (with_reducible exact blkAt _ _ _ _ (by simp; done)) | (with_reducible apply blk_st2) | (with_reducible apply blk_st4) | (with_reducible apply blk_st6) | (with_reducible apply blk_far (hne := by first | (with_reducible assumption) | omega)) | (with_reducible apply blk_up (hb := by assumption)) | (with_reducible apply Blk.alloc) | (with_reducible apply blk_drew)))
  have Y3 : Blk W3 (u2.heap.size) 23 #[.int .i64 o0, .int .i64 o1, .int .i64 o2, .int .i64 o3, .int .i64 o4, .int .i64 o5] := by
    rw [hW3]
    (repeat (first | (with_reducible assumption) | (with_reducible apply Blk.new) | (with_reducible exact blkAt _ _ _ _ (by simp; done)) | (with_reducible apply blk_st2) | (with_reducible apply blk_st4) | (with_reducible apply blk_st6) | (with_reducible apply blk_far (hne := by first | (with_reducible assumption) | omega)) | (with_reducible apply blk_up (hb := by assumption)) | (with_reducible apply Blk.alloc) | (with_reducible apply blk_drew)))
  clear hW3
  try clear qX2
  try clear pX2
  try clear qV2
  try clear pV2
  try clear qB2
  try clear pB2
  try clear qA2
  try clear pA2
  try clear hz2
  try clear hc2
  try clear hf2
  try clear d2
  try clear cA2_0
  try clear cA2_1
  try clear cA2_2
  try clear cA2_3
  try clear cA2_4
  try clear cA2_5
  try clear cX2_0
  try clear cX2_1
  try clear cX2_2
  try clear cX2_3
  try clear cX2_4
  try clear cX2_5
  try clear y2
  try clear k2
  try clear A2
  try clear B2
  try clear V2
  try clear X2
  try clear gA2
  try clear lA2
  try clear gB2
  try clear lB2
  try clear gV2
  try clear lV2
  try clear gX2
  try clear lX2
  have y3 := k3.size
  have gA3 := A3.lt
  have lA3 := Nat.le_of_lt gA3
  have gB3 := B3.lt
  have lB3 := Nat.le_of_lt gB3
  have gV3 := V3.lt
  have lV3 := Nat.le_of_lt gV3
  have gX3 := X3.lt
  have lX3 := Nat.le_of_lt gX3
  have gY3 := Y3.lt
  have lY3 := Nat.le_of_lt gY3
  have cA3_0 := A3.cell 0
  have cA3_1 := A3.cell 1
  have cA3_2 := A3.cell 2
  have cA3_3 := A3.cell 3
  have cA3_4 := A3.cell 4
  have cA3_5 := A3.cell 5
  simp only [List.getElem?_toArray, List.getElem?_cons_zero, List.getElem?_cons_succ] at cA3_0 cA3_1 cA3_2 cA3_3 cA3_4 cA3_5
  ((with_reducible refine (HAf.out _).mono ?_); rintro e u3 ⟨rfl, d3⟩)
  obtain ⟨hz3, hc3, hf3⟩ := bcl d3 (by first | (simp; rfl) | rfl)
  have qA3 : w.heap.size < u3.heap.size := by omega
  have pA3 : w.heap.size ≤ u3.heap.size := by omega
  have qB3 : w.heap.size + 1 < u3.heap.size := by omega
  have pB3 : w.heap.size + 1 ≤ u3.heap.size := by omega
  have qV3 : w.heap.size + 1 + 1 < u3.heap.size := by omega
  have pV3 : w.heap.size + 1 + 1 ≤ u3.heap.size := by omega
  have qX3 : u1.heap.size < u3.heap.size := by omega
  have pX3 : u1.heap.size ≤ u3.heap.size := by omega
  have qY3 : u2.heap.size < u3.heap.size := by omega
  have pY3 : u2.heap.size ≤ u3.heap.size := by omega
  have oH : w.heap.size ≤ u3.heap.size := by omega
  have nAH : w.heap.size ≠ u3.heap.size := by omega
  have mAH : u3.heap.size ≠ w.heap.size := by omega
  have nBH : w.heap.size + 1 ≠ u3.heap.size := by omega
  have mBH : u3.heap.size ≠ w.heap.size + 1 := by omega
  have nVH : w.heap.size + 1 + 1 ≠ u3.heap.size := by omega
  have mVH : u3.heap.size ≠ w.heap.size + 1 + 1 := by omega
  have nXH : u1.heap.size ≠ u3.heap.size := by omega
  have mXH : u3.heap.size ≠ u1.heap.size := by omega
  have nYH : u2.heap.size ≠ u3.heap.size := by omega
  have mYH : u3.heap.size ≠ u2.heap.size := by omega
  go_wp2_with fail
  refine calls_letter ?_
  intro W4 hW4
  have k4 : Below w.heap.size w W4 := by
    rw [hW4]
    (repeat (first | (with_reducible assumption) | (with_reducible exact bl_refl _) | (with_reducible refine bl_alloc ?_ _) | (with_reducible refine bl_drew ?_) | (with_reducible refine bl_set' ?_ ?_; · (dsimp only; first | assumption | exact Nat.le_refl _ | omega)) | (with_reducible refine bl_last (by assumption) ?_)))
  have A4 : Blk W4 (w.heap.size) 23 #[.int .i64 a0, .int .i64 a1, .int .i64 a2, .int .i64 a3, .int .i64 a4, .int .i64 a5] := by
    rw [hW4]
    (repeat (first | (with_reducible assumption) | (with_reducible apply Blk.new) | (with_reducible exact blkAt _ _ _ _ (by simp; done)) | (with_reducible apply blk_st2) | (with_reducible apply blk_st4) | (with_reducible apply blk_st6) | (with_reducible apply blk_far (hne := by first | (with_reducible assumption) | omega)) | (with_reducible apply blk_up (hb := by assumption)) | (with_reducible apply Blk.alloc) | (with_reducible apply blk_drew)))
  have B4 : Blk W4 (w.heap.size + 1) 23 #[.int .i64 b0, .int .i64 b1, .int .i64 b2, .int .i64 b3, .int .i64 b4, .int .i64 b5] := by
    rw [hW4]
    (repeat (first | (with_reducible assumption) | (with_reducible apply Blk.new) | (with_reducible exact blkAt _ _ _ _ (by simp; done)) | (with_reducible apply blk_st2) | (with_reducible apply blk_st4) | (with_reducible apply blk_st6) | (with_reducible apply blk_far (hne := by first | (with_reducible assumption) | omega)) | (with_reducible apply blk_up (hb := by assumption)) | (with_reducible apply Blk.alloc) | (with_reducible apply blk_drew)))
  have V4 : Blk W4 (w.heap.size + 1 + 1) 38 #[.int .i64 v0, .int .i64 v1, .int .i64 v2, .int .i64 v3, .int .i64 v4, .int .i64 v5] := by
    rw [hW4]
    (repeat (first | (with_reducible assumption) | (with_reducible apply Blk.new) | (with_reducible exact blkAt _ _ _ _ (by simp; done)) | (with_reducible apply blk_st2) | (with_reducible apply blk_st4) | (with_reducible apply blk_st6) | (with_reducible apply blk_far (hne := by first | (with_reducible assumption) | omega)) | (with_reducible apply blk_up (hb := by assumption)) | (with_reducible apply Blk.alloc) | (with_reducible apply blk_drew)))
  have X4 : Blk W4 (u1.heap.size) 23 #[.int .i64 o0, .int .i64 o1, .int .i64 o2, .int .i64 o3, .int .i64 o4, .int .i64 o5] := by
    rw [hW4]
    (repeat (first | (with_reducible assumption) | (with_reducible apply Blk.new) | (with_reducible exact blkAt _ _ _ _ (by simp; done)) | (with_reducible apply blk_st2) | (with_reducible apply blk_st4) | (with_reducible apply blk_st6) | (with_reducible apply blk_far (hne := by first | (with_reducible assumption) | omega)) | (with_reducible apply blk_up (hb := by assumption)) | (with_reducible apply Blk.alloc) | (with_reducible apply blk_drew)))
  have Y4 : Blk W4 (u2.heap.size) 23 #[.int .i64 o0, .int .i64 o1, .int .i64 o2, .int .i64 o3, .int .i64 o4, .int .i64 o5] := by
    rw [hW4]
    (repeat (first | (with_reducible assumption) | (with_reducible apply Blk.new) | (with_reducible exact blkAt _ _ _ _ (by simp; done)) | (with_reducible apply blk_st2) | (with_reducible apply blk_st4) | (with_reducible apply blk_st6) | (with_reducible apply blk_far (hne := by first | (with_reducible assumption) | omega)) | (with_reducible apply blk_up (hb := by assumption)) | (with_reducible apply Blk.alloc) | (with_reducible apply blk_drew)))
  have H4 : Blk W4 (u3.heap.size) 38 #[.int .i64 f0, .int .i64 f1, .int .i64 f2, .int .i64 f3, .int .i64 f4, .int .i64 f5] := by
    rw [hW4]
    (repeat (first | (with_reducible assumption) | (with_reducible apply Blk.new) | (with_reducible exact blkAt _ _ _ _ (by simp; done)) | (with_reducible apply blk_st2) | (with_reducible apply blk_st4) | (with_reducible apply blk_st6) | (with_reducible apply blk_far (hne := by first | (with_reducible assumption) | omega)) | (with_reducible apply blk_up (hb := by assumption)) | (with_reducible apply Blk.alloc) | (with_reducible apply blk_drew)))
  clear hW4
  try clear qY3
  try clear pY3
  try clear qX3
  try clear pX3
  try clear qV3
  try clear pV3
  try clear qB3
  try clear pB3
  try clear qA3
  try clear pA3
  try clear hz3
  try clear hc3
  try clear hf3
  try clear d3
  try clear cA3_0
  try clear cA3_1
  try clear cA3_2
  try clear cA3_3
  try clear cA3_4
  try clear cA3_5
  try clear y3
  try clear k3
  try clear A3
  try clear B3
  try clear V3
  try clear X3
  try clear Y3
  try clear gA3
  try clear lA3
  try clear gB3
  try clear lB3
  try clear gV3
  try clear lV3
  try clear gX3
  try clear lX3
  try clear gY3
  try clear lY3
  have y4 := k4.size
  have gA4 := A4.lt
  have lA4 := Nat.le_of_lt gA4
  have gB4 := B4.lt
  have lB4 := Nat.le_of_lt gB4
  have gV4 := V4.lt
  have lV4 := Nat.le_of_lt gV4
  have gX4 := X4.lt
  have lX4 := Nat.le_of_lt gX4
  have gY4 := Y4.lt
  have lY4 := Nat.le_of_lt gY4
  have gH4 := H4.lt
  have lH4 := Nat.le_of_lt gH4
  have cH4_0 := H4.cell 0
  have cH4_1 := H4.cell 1
  have cH4_2 := H4.cell 2
  have cH4_3 := H4.cell 3
  have cH4_4 := H4.cell 4
  have cH4_5 := H4.cell 5
  simp only [List.getElem?_toArray, List.getElem?_cons_zero, List.getElem?_cons_succ] at cH4_0 cH4_1 cH4_2 cH4_3 cH4_4 cH4_5
  have cA4_0 := A4.cell 0
  have cA4_1 := A4.cell 1
  have cA4_2 := A4.cell 2
  have cA4_3 := A4.cell 3
  have cA4_4 := A4.cell 4
  have cA4_5 := A4.cell 5
  simp only [List.getElem?_toArray, List.getElem?_cons_zero, List.getElem?_cons_succ] at cA4_0 cA4_1 cA4_2 cA4_3 cA4_4 cA4_5
  have cB4_0 := B4.cell 0
  have cB4_1 := B4.cell 1
  have cB4_2 := B4.cell 2
  have cB4_3 := B4.cell 3
  have cB4_4 := B4.cell 4
  have cB4_5 := B4.cell 5
  simp only [List.getElem?_toArray, List.getElem?_cons_zero, List.getElem?_cons_succ] at cB4_0 cB4_1 cB4_2 cB4_3 cB4_4 cB4_5
  ((with_reducible refine (HBf.out _).mono ?_); rintro e u4 ⟨rfl, d4⟩)
  obtain ⟨hz4, hc4, hf4⟩ := bcl d4 (by first | (simp; rfl) | rfl)
  have qA4 : w.heap.size < u4.heap.size := by omega
  have pA4 : w.heap.size ≤ u4.heap.size := by omega
  have qB4 : w.heap.size + 1 < u4.heap.size := by omega
  have pB4 : w.heap.size + 1 ≤ u4.heap.size := by omega
  have qV4 : w.heap.size + 1 + 1 < u4.heap.size := by omega
  have pV4 : w.heap.size + 1 + 1 ≤ u4.heap.size := by omega
  have qX4 : u1.heap.size < u4.heap.size := by omega
  have pX4 : u1.heap.size ≤ u4.heap.size := by omega
  have qY4 : u2.heap.size < u4.heap.size := by omega
  have pY4 : u2.heap.size ≤ u4.heap.size := by omega
  have qH4 : u3.heap.size < u4.heap.size := by omega
  have pH4 : u3.heap.size ≤ u4.heap.size := by omega
  have oI : w.heap.size ≤ u4.heap.size := by omega
  have nAI : w.heap.size ≠ u4.heap.size := by omega
  have mAI : u4.heap.size ≠ w.heap.size := by omega
  have nBI : w.heap.size + 1 ≠ u4.heap.size := by omega
  have mBI : u4.heap.size ≠ w.heap.size + 1 := by omega
  have nVI : w.heap.size + 1 + 1 ≠ u4.heap.size := by omega
  have mVI : u4.heap.size ≠ w.heap.size + 1 + 1 := by omega
  have nXI : u1.heap.size ≠ u4.heap.size := by omega
  have mXI : u4.heap.size ≠ u1.heap.size := by omega
  have nYI : u2.heap.size ≠ u4.heap.size := by omega
  have mYI : u4.heap.size ≠ u2.heap.size := by omega
  have nHI : u3.heap.size ≠ u4.heap.size := by omega
  have mHI : u4.heap.size ≠ u3.heap.size := by omega
  go_wp2_with fail
  refine calls_letter ?_
  intro W5 hW5
  have k5 : Below w.heap.size w W5 := by
    rw [hW5]
    (repeat (first | (with_reducible assumption) | (with_reducible exact bl_refl _) | (with_reducible refine bl_alloc ?_ _) | (with_reducible refine bl_drew ?_) | (with_reducible refine bl_set' ?_ ?_; · (dsimp only; first | assumption | exact Nat.le_refl _ | omega)) | (with_reducible refine bl_last (by assumption) ?_)))
  have A5 : Blk W5 (w.heap.size) 23 #[.int .i64 a0, .int .i64 a1, .int .i64 a2, .int .i64 a3, .int .i64 a4, .int .i64 a5] := by
    rw [hW5]
    (repeat (first | (with_reducible assumption) | (with_reducible apply Blk.new) | (with_reducible exact blkAt _ _ _ _ (by simp; done)) | (with_reducible apply blk_st2) | (with_reducible apply blk_st4) | (with_reducible apply blk_st6) | (with_reducible apply blk_far (hne := by first | (with_reducible assumption) | omega)) | (with_reducible apply blk_up (hb := by assumption)) | (with_reducible apply Blk.alloc) | (with_reducible apply blk_drew)))
  have B5 : Blk W5 (w.heap.size + 1) 23 #[.int .i64 b0, .int .i64 b1, .int .i64 b2, .int .i64 b3, .int .i64 b4, .int .i64 b5] := by
    rw [hW5]
    (repeat (first | (with_reducible assumption) | (with_reducible apply Blk.new) | (with_reducible exact blkAt _ _ _ _ (by simp; done)) | (with_reducible apply blk_st2) | (with_reducible apply blk_st4) | (with_reducible apply blk_st6) | (with_reducible apply blk_far (hne := by first | (with_reducible assumption) | omega)) | (with_reducible apply blk_up (hb := by assumption)) | (with_reducible apply Blk.alloc) | (with_reducible apply blk_drew)))
  have V5 : Blk W5 (w.heap.size + 1 + 1) 38 #[.int .i64 v0, .int .i64 v1, .int .i64 v2, .int .i64 v3, .int .i64 v4, .int .i64 v5] := by
    rw [hW5]
    (repeat (first | (with_reducible assumption) | (with_reducible apply Blk.new) | (with_reducible exact blkAt _ _ _ _ (by simp; done)) | (with_reducible apply blk_st2) | (with_reducible apply blk_st4) | (with_reducible apply blk_st6) | (with_reducible apply blk_far (hne := by first | (with_reducible assumption) | omega)) | (with_reducible apply blk_up (hb := by assumption)) | (with_reducible apply Blk.alloc) | (with_reducible apply blk_drew)))
  have X5 : Blk W5 (u1.heap.size) 23 #[.int .i64 o0, .int .i64 o1, .int .i64 o2, .int .i64 o3, .int .i64 o4, .int .i64 o5] := by
    rw [hW5]
    (repeat (first | (with_reducible assumption) | (with_reducible apply Blk.new) | (with_reducible exact blkAt _ _ _ _ (by simp; done)) | (with_reducible apply blk_st2) | (with_reducible apply blk_st4) | (with_reducible apply blk_st6) | (with_reducible apply blk_far (hne := by first | (with_reducible assumption) | omega)) | (with_reducible apply blk_up (hb := by assumption)) | (with_reducible apply Blk.alloc) | (with_reducible apply blk_drew)))
  have Y5 : Blk W5 (u2.heap.size) 23 #[.int .i64 o0, .int .i64 o1, .int .i64 o2, .int .i64 o3, .int .i64 o4, .int .i64 o5] := by
    rw [hW5]
    (repeat (first | (with_reducible assumption) | (with_reducible apply Blk.new) | (with_reducible exact blkAt _ _ _ _ (by simp; done)) | (with_reducible apply blk_st2) | (with_reducible apply blk_st4) | (with_reducible apply blk_st6) | (with_reducible apply blk_far (hne := by first | (with_reducible assumption) | omega)) | (with_reducible apply blk_up (hb := by assumption)) | (with_reducible apply Blk.alloc) | (with_reducible apply blk_drew)))
  have H5 : Blk W5 (u3.heap.size) 38 #[.int .i64 f0, .int .i64 f1, .int .i64 f2, .int .i64 f3, .int .i64 f4, .int .i64 f5] := by
    rw [hW5]
    (repeat (first | (with_reducible assumption) | (with_reducible apply Blk.new) | (with_reducible exact blkAt _ _ _ _ (by simp; done)) | (with_reducible apply blk_st2) | (with_reducible apply blk_st4) | (with_reducible apply blk_st6) | (with_reducible apply blk_far (hne := by first | (with_reducible assumption) | omega)) | (with_reducible apply blk_up (hb := by assumption)) | (with_reducible apply Blk.alloc) | (with_reducible apply blk_drew)))
  have I5 : Blk W5 (u4.heap.size) 38 #[.int .i64 f0, .int .i64 f1, .int .i64 f2, .int .i64 f3, .int .i64 f4, .int .i64 f5] := by
    rw [hW5]
    (repeat (first | (with_reducible assumption) | (with_reducible apply Blk.new) | (with_reducible exact blkAt _ _ _ _ (by simp; done)) | (with_reducible apply blk_st2) | (with_reducible apply blk_st4) | (with_reducible apply blk_st6) | (with_reducible apply blk_far (hne := by first | (with_reducible assumption) | omega)) | (with_reducible apply blk_up (hb := by assumption)) | (with_reducible apply Blk.alloc) | (with_reducible apply blk_drew)))
  clear hW5
  try clear qH4
  try clear pH4
  try clear qY4
  try clear pY4
  try clear qX4
  try clear pX4
  try clear qV4
  try clear pV4
  try clear qB4
  try clear pB4
  try clear qA4
  try clear pA4
  try clear hz4
  try clear hc4
  try clear hf4
  try clear d4
  try clear cB4_0
  try clear cB4_1
  try clear cB4_2
  try clear cB4_3
  try clear cB4_4
  try clear cB4_5
  try clear cA4_0
  try clear cA4_1
  try clear cA4_2
  try clear cA4_3
  try clear cA4_4
  try clear cA4_5
  try clear cH4_0
  try clear cH4_1
  try clear cH4_2
  try clear cH4_3
  try clear cH4_4
  try clear cH4_5
  try clear y4
  try clear k4
  try clear A4
  try clear B4
  try clear V4
  try clear X4
  try clear Y4
  try clear H4
  try clear gA4
  try clear lA4
  try clear gB4
  try clear lB4
  try clear gV4
  try clear lV4
  try clear gX4
  try clear lX4
  try clear gY4
  try clear lY4
  try clear gH4
  try clear lH4
  have y5 := k5.size
  have gA5 := A5.lt
  have lA5 := Nat.le_of_lt gA5
  have gB5 := B5.lt
  have lB5 := Nat.le_of_lt gB5
  have gV5 := V5.lt
  have lV5 := Nat.le_of_lt gV5
  have gX5 := X5.lt
  have lX5 := Nat.le_of_lt gX5
  have gY5 := Y5.lt
  have lY5 := Nat.le_of_lt gY5
  have gH5 := H5.lt
  have lH5 := Nat.le_of_lt gH5
  have gI5 := I5.lt
  have lI5 := Nat.le_of_lt gI5
  have cA5_0 := A5.cell 0
  have cA5_1 := A5.cell 1
  have cA5_2 := A5.cell 2
  have cA5_3 := A5.cell 3
  have cA5_4 := A5.cell 4
  have cA5_5 := A5.cell 5
  simp only [List.getElem?_toArray, List.getElem?_cons_zero, List.getElem?_cons_succ] at cA5_0 cA5_1 cA5_2 cA5_3 cA5_4 cA5_5
  have cB5_0 := B5.cell 0
  have cB5_1 := B5.cell 1
  have cB5_2 := B5.cell 2
  have cB5_3 := B5.cell 3
  have cB5_4 := B5.cell 4
  have cB5_5 := B5.cell 5
  simp only [List.getElem?_toArray, List.getElem?_cons_zero, List.getElem?_cons_succ] at cB5_0 cB5_1 cB5_2 cB5_3 cB5_4 cB5_5
  have cX5_0 := X5.cell 0
  have cX5_1 := X5.cell 1
  have cX5_2 := X5.cell 2
  have cX5_3 := X5.cell 3
  have cX5_4 := X5.cell 4
  have cX5_5 := X5.cell 5
  simp only [List.getElem?_toArray, List.getElem?_cons_zero, List.getElem?_cons_succ] at cX5_0 cX5_1 cX5_2 cX5_3 cX5_4 cX5_5
  have fX5_0 := X5.frozen 0
  have fX5_1 := X5.frozen 1
  have fX5_2 := X5.frozen 2
  have fX5_3 := X5.frozen 3
  have fX5_4 := X5.frozen 4
  have fX5_5 := X5.frozen 5
  ((with_reducible refine (HAm.out _).mono ?_); rintro e u5 ⟨rfl, d5⟩)
  obtain ⟨hz5, hc5, hf5⟩ := bcl d5 (by first | (simp; rfl) | rfl)
  have qA5 : w.heap.size < u5.heap.size := by omega
  have pA5 : w.heap.size ≤ u5.heap.size := by omega
  have qB5 : w.heap.size + 1 < u5.heap.size := by omega
  have pB5 : w.heap.size + 1 ≤ u5.heap.size := by omega
  have qV5 : w.heap.size + 1 + 1 < u5.heap.size := by omega
  have pV5 : w.heap.size + 1 + 1 ≤ u5.heap.size := by omega
  have qX5 : u1.heap.size < u5.heap.size := by omega
  have pX5 : u1.heap.size ≤ u5.heap.size := by omega
  have qY5 : u2.heap.size < u5.heap.size := by omega
  have pY5 : u2.heap.size ≤ u5.heap.size := by omega
  have qH5 : u3.heap.size < u5.heap.size := by omega
  have pH5 : u3.heap.size ≤ u5.heap.size := by omega
  have qI5 : u4.heap.size < u5.heap.size := by omega
  have pI5 : u4.heap.size ≤ u5.heap.size := by omega
  go_wp2_with fail
  refine calls_letter ?_
  intro W6 hW6
  have k6 : Below w.heap.size w W6 := by
    rw [hW6]
    (repeat (first | (with_reducible assumption) | (with_reducible exact bl_refl _) | (with_reducible refine bl_alloc ?_ _) | (with_reducible refine bl_drew ?_) | (with_reducible refine bl_set' ?_ ?_; · (dsimp only; first | assumption | exact Nat.le_refl _ | omega)) | (with_reducible refine bl_last (by assumption) ?_)))
  have A6 : Blk W6 (w.heap.size) 23 #[.int .i64 a0, .int .i64 a1, .int .i64 a2, .int .i64 a3, .int .i64 a4, .int .i64 a5] := by
    rw [hW6]
    (repeat (first | (with_reducible assumption) | (with_reducible apply Blk.new) | (with_reducible exact blkAt _ _ _ _ (by simp; done)) | (with_reducible apply blk_st2) | (with_reducible apply blk_st4) | (with_reducible apply blk_st6) | (with_reducible apply blk_far (hne := by first | (with_reducible assumption) | omega)) | (with_reducible apply blk_up (hb := by assumption)) | (with_reducible apply Blk.alloc) | (with_reducible apply blk_drew)))
  have B6 : Blk W6 (w.heap.size + 1) 23 #[.int .i64 b0, .int .i64 b1, .int .i64 b2, .int .i64 b3, .int .i64 b4, .int .i64 b5] := by
    rw [hW6]
    (repeat (first | (with_reducible assumption) | (with_reducible apply Blk.new) | (with_reducible exact blkAt _ _ _ _ (by simp; done)) | (with_reducible apply blk_st2) | (with_reducible apply blk_st4) | (with_reducible apply blk_st6) | (with_reducible apply blk_far (hne := by first | (with_reducible assumption) | omega)) | (with_reducible apply blk_up (hb := by assumption)) | (with_reducible apply Blk.alloc) | (with_reducible apply blk_drew)))
  have V6 : Blk W6 (w.heap.size + 1 + 1) 38 #[.int .i64 v0, .int .i64 v1, .int .i64 v2, .int .i64 v3, .int .i64 v4, .int .i64 v5] := by
    rw [hW6]
    (repeat (first | (with_reducible assumption) | (with_reducible apply Blk.new) | (with_reducible exact blkAt _ _ _ _ (by simp; done)) | (with_reducible apply blk_st2) | (with_reducible apply blk_st4) | (with_reducible apply blk_st6) | (with_reducible apply blk_far (hne := by first | (with_reducible assumption) | omega)) | (with_reducible apply blk_up (hb := by assumption)) | (with_reducible apply Blk.alloc) | (with_reducible apply blk_drew)))
  have X6 : Blk W6 (u1.heap.size) 23 #[.int .i64 m0, .int .i64 m1, .int .i64 m2, .int .i64 m3, .int .i64 m4, .int .i64 m5] := by
    rw [hW6]
    (repeat (first | (with_reducible assumption) | (with_reducible apply Blk.new) | (with_reducible exact blkAt _ _ _ _ (by simp; done)) | (with_reducible apply blk_st2) | (with_reducible apply blk_st4) | (with_reducible apply blk_st6) | (with_reducible apply blk_far (hne := by first | (with_reducible assumption) | omega)) | (with_reducible apply blk_up (hb := by assumption)) | (with_reducible apply Blk.alloc) | (with_reducible apply blk_drew)))
  have Y6 : Blk W6 (u2.heap.size) 23 #[.int .i64 o0, .int .i64 o1, .int .i64 o2, .int .i64 o3, .int .i64 o4, .int .i64 o5] := by
    rw [hW6]
    (repeat (first | (with_reducible assumption) | (with_reducible apply Blk.new) | (with_reducible exact blkAt _ _ _ _ (by simp; done)) | (with_reducible apply blk_st2) | (with_reducible apply blk_st4) | (with_reducible apply blk_st6) | (with_reducible apply blk_far (hne := by first | (with_reducible assumption) | omega)) | (with_reducible apply blk_up (hb := by assumption)) | (with_reducible apply Blk.alloc) | (with_reducible apply blk_drew)))
  have H6 : Blk W6 (u3.heap.size) 38 #[.int .i64 f0, .int .i64 f1, .int .i64 f2, .int .i64 f3, .int .i64 f4, .int .i64 f5] := by
    rw [hW6]
    (repeat (first | (with_reducible assumption) | (with_reducible apply Blk.new) | (with_reducible exact blkAt _ _ _ _ (by simp; done)) | (with_reducible apply blk_st2) | (with_reducible apply blk_st4) | (with_reducible apply blk_st6) | (with_reducible apply blk_far (hne := by first | (with_reducible assumption) | omega)) | (with_reducible apply blk_up (hb := by assumption)) | (with_reducible apply Blk.alloc) | (with_reducible apply blk_drew)))
  have I6 : Blk W6 (u4.heap.size) 38 #[.int .i64 f0, .int .i64 f1, .int .i64 f2, .int .i64 f3, .int .i64 f4, .int .i64 f5] := by
    rw [hW6]
    (repeat (first | (with_reducible assumption) | (with_reducible apply Blk.new) | (with_reducible exact blkAt _ _ _ _ (by simp; done)) | (with_reducible apply blk_st2) | (with_reducible apply blk_st4) | (with_reducible apply blk_st6) | (with_reducible apply blk_far (hne := by first | (with_reducible assumption) | omega)) | (with_reducible apply blk_up (hb := by assumption)) | (with_reducible apply Blk.alloc) | (with_reducible apply blk_drew)))
  clear hW6
  try clear qI5
  try clear pI5
  try clear qH5
  try clear pH5
  try clear qY5
  try clear pY5
  try clear qX5
  try clear pX5
  try clear qV5
  try clear pV5
  try clear qB5
  try clear pB5
  try clear qA5
  try clear pA5
  try clear hz5
  try clear hc5
  try clear hf5
  try clear d5
  try clear fX5_5
  try clear fX5_4
  try clear fX5_3
  try clear fX5_2
  try clear fX5_1
  try clear fX5_0
  try clear cX5_0
  try clear cX5_1
  try clear cX5_2
  try clear cX5_3
  try clear cX5_4
  try clear cX5_5
  try clear cB5_0
  try clear cB5_1
  try clear cB5_2
  try clear cB5_3
  try clear cB5_4
  try clear cB5_5
  try clear cA5_0
  try clear cA5_1
  try clear cA5_2
  try clear cA5_3
  try clear cA5_4
  try clear cA5_5
  try clear y5
  try clear k5
  try clear A5
  try clear B5
  try clear V5
  try clear X5
  try clear Y5
  try clear H5
  try clear I5
  try clear gA5
  try clear lA5
  try clear gB5
  try clear lB5
  try clear gV5
  try clear lV5
  try clear gX5
  try clear lX5
  try clear gY5
  try clear lY5
  try clear gH5
  try clear lH5
  try clear gI5
  try clear lI5
  have y6 := k6.size
  have gA6 := A6.lt
  have lA6 := Nat.le_of_lt gA6
  have gB6 := B6.lt
  have lB6 := Nat.le_of_lt gB6
  have gV6 := V6.lt
  have lV6 := Nat.le_of_lt gV6
  have gX6 := X6.lt
  have lX6 := Nat.le_of_lt gX6
  have gY6 := Y6.lt
  have lY6 := Nat.le_of_lt gY6
  have gH6 := H6.lt
  have lH6 := Nat.le_of_lt gH6
  have gI6 := I6.lt
  have lI6 := Nat.le_of_lt gI6
  have cX6_0 := X6.cell 0
  have cX6_1 := X6.cell 1
  have cX6_2 := X6.cell 2
  have cX6_3 := X6.cell 3
  have cX6_4 := X6.cell 4
  have cX6_5 := X6.cell 5
  simp only [List.getElem?_toArray, List.getElem?_cons_zero, List.getElem?_cons_succ] at cX6_0 cX6_1 cX6_2 cX6_3 cX6_4 cX6_5
  have cA6_0 := A6.cell 0
  have cA6_1 := A6.cell 1
  have cA6_2 := A6.cell 2
  have cA6_3 := A6.cell 3
  have cA6_4 := A6.cell 4
  have cA6_5 := A6.cell 5
  simp only [List.getElem?_toArray, List.getElem?_cons_zero, List.getElem?_cons_succ] at cA6_0 cA6_1 cA6_2 cA6_3 cA6_4 cA6_5
  have cB6_0 := B6.cell 0
  have cB6_1 := B6.cell 1
  have cB6_2 := B6.cell 2
  have cB6_3 := B6.cell 3
  have cB6_4 := B6.cell 4
  have cB6_5 := B6.cell 5
  simp only [List.getElem?_toArray, List.getElem?_cons_zero, List.getElem?_cons_succ] at cB6_0 cB6_1 cB6_2 cB6_3 cB6_4 cB6_5
  have cY6_0 := Y6.cell 0
  have cY6_1 := Y6.cell 1
  have cY6_2 := Y6.cell 2
  have cY6_3 := Y6.cell 3
  have cY6_4 := Y6.cell 4
  have cY6_5 := Y6.cell 5
  simp only [List.getElem?_toArray, List.getElem?_cons_zero, List.getElem?_cons_succ] at cY6_0 cY6_1 cY6_2 cY6_3 cY6_4 cY6_5
  have fY6_0 := Y6.frozen 0
  have fY6_1 := Y6.frozen 1
  have fY6_2 := Y6.frozen 2
  have fY6_3 := Y6.frozen 3
  have fY6_4 := Y6.frozen 4
  have fY6_5 := Y6.frozen 5
  ((with_reducible refine (HBm.out _).mono ?_); rintro e u6 ⟨rfl, d6⟩)
  obtain ⟨hz6, hc6, hf6⟩ := bcl d6 (by first | (simp; rfl) | rfl)
  have qA6 : w.heap.size < u6.heap.size := by omega
  have pA6 : w.heap.size ≤ u6.heap.size := by omega
  have qB6 : w.heap.size + 1 < u6.heap.size := by omega
  have pB6 : w.heap.size + 1 ≤ u6.heap.size := by omega
  have qV6 : w.heap.size + 1 + 1 < u6.heap.size := by omega
  have pV6 : w.heap.size + 1 + 1 ≤ u6.heap.size := by omega
  have qX6 : u1.heap.size < u6.heap.size := by omega
  have pX6 : u1.heap.size ≤ u6.heap.size := by omega
  have qY6 : u2.heap.size < u6.heap.size := by omega
  have pY6 : u2.heap.size ≤ u6.heap.size := by omega
  have qH6 : u3.heap.size < u6.heap.size := by omega
  have pH6 : u3.heap.size ≤ u6.heap.size := by omega
  have qI6 : u4.heap.size < u6.heap.size := by omega
  have pI6 : u4.heap.size ≤ u6.heap.size := by omega
  go_wp2_with fail
  refine calls_letter ?_
  intro W7 hW7
  have k7 : Below w.heap.size w W7 := by
    rw [hW7]
    (repeat (first | (with_reducible assumption) | (with_reducible exact bl_refl _) | (with_reducible refine bl_alloc ?_ _) | (with_reducible refine bl_drew ?_) | (with_reducible refine bl_set' ?_ ?_; · (dsimp only; first | assumption | exact Nat.le_refl _ | omega)) | (with_reducible refine bl_last (by assumption) ?_)))
  have A7 : Blk W7 (w.heap.size) 23 #[.int .i64 a0, .int .i64 a1, .int .i64 a2, .int .i64 a3, .int .i64 a4, .int .i64 a5] := by
    rw [hW7]
    (repeat (first | (with_reducible assumption) | (with_reducible apply Blk.new) | (with_reducible exact blkAt _ _ _ _ (by simp; done)) | (with_reducible apply blk_st2) | (with_reducible apply blk_st4) | (with_reducible apply blk_st6) | (with_reducible apply blk_far (hne := by first | (with_reducible assumption) | omega)) | (with_reducible apply blk_up (hb := by assumption)) | (with_reducible apply Blk.alloc) | (with_reducible apply blk_drew)))
  have B7 : Blk W7 (w.heap.size + 1) 23 #[.int .i64 b0, .int .i64 b1, .int .i64 b2, .int .i64 b3, .int .i64 b4, .int .i64 b5] := by
    rw [hW7]
    (repeat (first | (with_reducible assumption) | (with_reducible apply Blk.new) | (with_reducible exact blkAt _ _ _ _ (by simp; done)) | (with_reducible apply blk_st2) | (with_reducible apply blk_st4) | (with_reducible apply blk_st6) | (with_reducible apply blk_far (hne := by first | (with_reducible assumption) | omega)) | (with_reducible apply blk_up (hb := by assumption)) | (with_reducible apply Blk.alloc) | (with_reducible apply blk_drew)))
  have V7 : Blk W7 (w.heap.size + 1 + 1) 38 #[.int .i64 v0, .int .i64 v1, .int .i64 v2, .int .i64 v3, .int .i64 v4, .int .i64 v5] := by
    rw [hW7]
    (repeat (first | (with_reducible assumption) | (with_reducible apply Blk.new) | (with_reducible exact blkAt _ _ _ _ (by simp; done)) | (with_reducible apply blk_st2) | (with_reducible apply blk_st4) | (with_reducible apply blk_st6) | (with_reducible apply blk_far (hne := by first | (with_reducible assumption) | omega)) | (with_reducible apply blk_up (hb := by assumption)) | (with_reducible apply Blk.alloc) | (with_reducible apply blk_drew)))
  have X7 : Blk W7 (u1.heap.size) 23 #[.int .i64 m0, .int .i64 m1, .int .i64 m2, .int .i64 m3, .int .i64 m4, .int .i64 m5] := by
    rw [hW7]
    (repeat (first | (with_reducible assumption) | (with_reducible apply Blk.new) | (with_reducible exact blkAt _ _ _ _ (by simp; done)) | (with_reducible apply blk_st2) | (with_reducible apply blk_st4) | (with_reducible apply blk_st6) | (with_reducible apply blk_far (hne := by first | (with_reducible assumption) | omega)) | (with_reducible apply blk_up (hb := by assumption)) | (with_reducible apply Blk.alloc) | (with_reducible apply blk_drew)))
  have Y7 : Blk W7 (u2.heap.size) 23 #[.int .i64 m0, .int .i64 m1, .int .i64 m2, .int .i64 m3, .int .i64 m4, .int .i64 m5] := by
    rw [hW7]
    (repeat (first | (with_reducible assumption) | (with_reducible apply Blk.new) | (with_reducible exact blkAt _ _ _ _ (by simp; done)) | (with_reducible apply blk_st2) | (with_reducible apply blk_st4) | (with_reducible apply blk_st6) | (with_reducible apply blk_far (hne := by first | (with_reducible assumption) | omega)) | (with_reducible apply blk_up (hb := by assumption)) | (with_reducible apply Blk.alloc) | (with_reducible apply blk_drew)))
  have H7 : Blk W7 (u3.heap.size) 38 #[.int .i64 f0, .int .i64 f1, .int .i64 f2, .int .i64 f3, .int .i64 f4, .int .i64 f5] := by
    rw [hW7]
    (repeat (first | (with_reducible assumption) | (with_reducible apply Blk.new) | (with_reducible exact blkAt _ _ _ _ (by simp; done)) | (with_reducible apply blk_st2) | (with_reducible apply blk_st4) | (with_reducible apply blk_st6) | (with_reducible apply blk_far (hne := by first | (with_reducible assumption) | omega)) | (with_reducible apply blk_up (hb := by assumption)) | (with_reducible apply Blk.alloc) | (with_reducible apply blk_drew)))
  have I7 : Blk W7 (u4.heap.size) 38 #[.int .i64 f0, .int .i64 f1, .int .i64 f2, .int .i64 f3, .int .i64 f4, .int .i64 f5] := by
    rw [hW7]
    (repeat (first | (with_reducible assumption) | (with_reducible apply Blk.new) | (with_reducible exact blkAt _ _ _ _ (by simp; done)) | (with_reducible apply blk_st2) | (with_reducible apply blk_st4) | (with_reducible apply blk_st6) | (with_reducible apply blk_far (hne := by first | (with_reducible assumption) | omega)) | (with_reducible apply blk_up (hb := by assumption)) | (with_reducible apply Blk.alloc) | (with_reducible apply blk_drew)))
  clear hW7
  try clear qI6
  try clear pI6
  try clear qH6
  try clear pH6
  try clear qY6
  try clear pY6
  try clear qX6
  try clear pX6
  try clear qV6
  try clear pV6
  try clear qB6
  try clear pB6
  try clear qA6
  try clear pA6
  try clear hz6
  try clear hc6
  try clear hf6
  try clear d6
  try clear fY6_5
  try clear fY6_4
  try clear fY6_3
  try clear fY6_2
  try clear fY6_1
  try clear fY6_0
  try clear cY6_0
  try clear cY6_1
  try clear cY6_2
  try clear cY6_3
  try clear cY6_4
  try clear cY6_5
  try clear cB6_0
  try clear cB6_1
  try clear cB6_2
  try clear cB6_3
  try clear cB6_4
  try clear cB6_5
  try clear cA6_0
  try clear cA6_1
  try clear cA6_2
  try clear cA6_3
  try clear cA6_4
  try clear cA6_5
  try clear cX6_0
  try clear cX6_1
  try clear cX6_2
  try clear cX6_3
  try clear cX6_4
  try clear cX6_5
  try clear y6
  try clear k6
  try clear A6
  try clear B6
  try clear V6
  try clear X6
  try clear Y6
  try clear H6
  try clear I6
  try clear gA6
  try clear lA6
  try clear gB6
  try clear lB6
  try clear gV6
  try clear lV6
  try clear gX6
  try clear lX6
  try clear gY6
  try clear lY6
  try clear gH6
  try clear lH6
  try clear gI6
  try clear lI6
  have y7 := k7.size
  have gA7 := A7.lt
  have lA7 := Nat.le_of_lt gA7
  have gB7 := B7.lt
  have lB7 := Nat.le_of_lt gB7
  have gV7 := V7.lt
  have lV7 := Nat.le_of_lt gV7
  have gX7 := X7.lt
  have lX7 := Nat.le_of_lt gX7
  have gY7 := Y7.lt
  have lY7 := Nat.le_of_lt gY7
  have gH7 := H7.lt
  have lH7 := Nat.le_of_lt gH7
  have gI7 := I7.lt
  have lI7 := Nat.le_of_lt gI7
  have cA7_0 := A7.cell 0
  have cA7_1 := A7.cell 1
  have cA7_2 := A7.cell 2
  have cA7_3 := A7.cell 3
  have cA7_4 := A7.cell 4
  have cA7_5 := A7.cell 5
  simp only [List.getElem?_toArray, List.getElem?_cons_zero, List.getElem?_cons_succ] at cA7_0 cA7_1 cA7_2 cA7_3 cA7_4 cA7_5
  have cB7_0 := B7.cell 0
  have cB7_1 := B7.cell 1
  have cB7_2 := B7.cell 2
  have cB7_3 := B7.cell 3
  have cB7_4 := B7.cell 4
  have cB7_5 := B7.cell 5
  simp only [List.getElem?_toArray, List.getElem?_cons_zero, List.getElem?_cons_succ] at cB7_0 cB7_1 cB7_2 cB7_3 cB7_4 cB7_5
  have cX7_0 := X7.cell 0
  have cX7_1 := X7.cell 1
  have cX7_2 := X7.cell 2
  have cX7_3 := X7.cell 3
  have cX7_4 := X7.cell 4
  have cX7_5 := X7.cell 5
  simp only [List.getElem?_toArray, List.getElem?_cons_zero, List.getElem?_cons_succ] at cX7_0 cX7_1 cX7_2 cX7_3 cX7_4 cX7_5
  have fX7_0 := X7.frozen 0
  have fX7_1 := X7.frozen 1
  have fX7_2 := X7.frozen 2
  have fX7_3 := X7.frozen 3
  have fX7_4 := X7.frozen 4
  have fX7_5 := X7.frozen 5
  ((with_reducible refine (HAt.out _).mono ?_); rintro e u7 ⟨rfl, d7⟩)
  obtain ⟨hz7, hc7, hf7⟩ := bcl d7 (by first | (simp; rfl) | rfl)
  have qA7 : w.heap.size < u7.heap.size := by omega
  have pA7 : w.heap.size ≤ u7.heap.size := by omega
  have qB7 : w.heap.size + 1 < u7.heap.size := by omega
  have pB7 : w.heap.size + 1 ≤ u7.heap.size := by omega
  have qV7 : w.heap.size + 1 + 1 < u7.heap.size := by omega
  have pV7 : w.heap.size + 1 + 1 ≤ u7.heap.size := by omega
  have qX7 : u1.heap.size < u7.heap.size := by omega
  have pX7 : u1.heap.size ≤ u7.heap.size := by omega
  have qY7 : u2.heap.size < u7.heap.size := by omega
  have pY7 : u2.heap.size ≤ u7.heap.size := by omega
  have qH7 : u3.heap.size < u7.heap.size := by omega
  have pH7 : u3.heap.size ≤ u7.heap.size := by omega
  have qI7 : u4.heap.size < u7.heap.size := by omega
  have pI7 : u4.heap.size ≤ u7.heap.size := by omega
  go_wp2_with fail
  refine calls_letter ?_
  intro W8 hW8
  have k8 : Below w.heap.size w W8 := by
    rw [hW8]
    (repeat (first | (with_reducible assumption) | (with_reducible exact bl_refl _) | (with_reducible refine bl_alloc ?_ _) | (with_reducible refine bl_drew ?_) | (with_reducible refine bl_set' ?_ ?_; · (dsimp only; first | assumption | exact Nat.le_refl _ | omega)) | (with_reducible refine bl_last (by assumption) ?_)))
  have A8 : Blk W8 (w.heap.size) 23 #[.int .i64 a0, .int .i64 a1, .int .i64 a2, .int .i64 a3, .int .i64 a4, .int .i64 a5] := by
    rw [hW8]
    (repeat (first | (with_reducible assumption) | (with_reducible apply Blk.new) | (with_reducible exact blkAt _ _ _ _ (by simp; done)) | (with_reducible apply blk_st2) | (with_reducible apply blk_st4) | (with_reducible apply blk_st6) | (with_reducible apply blk_far (hne := by first | (with_reducible assumption) | omega)) | (with_reducible apply blk_up (hb := by assumption)) | (with_reducible apply Blk.alloc) | (with_reducible apply blk_drew)))
  have B8 : Blk W8 (w.heap.size + 1) 23 #[.int .i64 b0, .int .i64 b1, .int .i64 b2, .int .i64 b3, .int .i64 b4, .int .i64 b5] := by
    rw [hW8]
    (repeat (first | (with_reducible assumption) | (with_reducible apply Blk.new) | (with_reducible exact blkAt _ _ _ _ (by simp; done)) | (with_reducible apply blk_st2) | (with_reducible apply blk_st4) | (with_reducible apply blk_st6) | (with_reducible apply blk_far (hne := by first | (with_reducible assumption) | omega)) | (with_reducible apply blk_up (hb := by assumption)) | (with_reducible apply Blk.alloc) | (with_reducible apply blk_drew)))
  have V8 : Blk W8 (w.heap.size + 1 + 1) 38 #[.int .i64 v0, .int .i64 v1, .int .i64 v2, .int .i64 v3, .int .i64 v4, .int .i64 v5] := by
    rw [hW8]
    (repeat (first | (with_reducible assumption) | (with_reducible apply Blk.new) | (with_reducible exact blkAt _ _ _ _ (by simp; done)) | (with_reducible apply blk_st2) | (with_reducible apply blk_st4) | (with_reducible apply blk_st6) | (with_reducible apply blk_far (hne := by first | (with_reducible assumption) | omega)) | (with_reducible apply blk_up (hb := by assumption)) | (with_reducible apply Blk.alloc) | (with_reducible apply blk_drew)))
  have X8 : Blk W8 (u1.heap.size) 23 #[.int .i64 t0, .int .i64 t1, .int .i64 t2, .int .i64 t3, .int .i64 t4, .int .i64 t5] := by
    rw [hW8]
    (repeat (first | (with_reducible assumption) | (with_reducible apply Blk.new) | (with_reducible exact blkAt _ _ _ _ (by simp; done)) | (with_reducible apply blk_st2) | (with_reducible apply blk_st4) | (with_reducible apply blk_st6) | (with_reducible apply blk_far (hne := by first | (with_reducible assumption) | omega)) | (with_reducible apply blk_up (hb := by assumption)) | (with_reducible apply Blk.alloc) | (with_reducible apply blk_drew)))
  have Y8 : Blk W8 (u2.heap.size) 23 #[.int .i64 m0, .int .i64 m1, .int .i64 m2, .int .i64 m3, .int .i64 m4, .int .i64 m5] := by
    rw [hW8]
    (repeat (first | (with_reducible assumption) | (with_reducible apply Blk.new) | (with_reducible exact blkAt _ _ _ _ (by simp; done)) | (with_reducible apply blk_st2) | (with_reducible apply blk_st4) | (with_reducible apply blk_st6) | (with_reducible apply blk_far (hne := by first | (with_reducible assumption) | omega)) | (with_reducible apply blk_up (hb := by assumption)) | (with_reducible apply Blk.alloc) | (with_reducible apply blk_drew)))
  have H8 : Blk W8 (u3.heap.size) 38 #[.int .i64 f0, .int .i64 f1, .int .i64 f2, .int .i64 f3, .int .i64 f4, .int .i64 f5] := by
    rw [hW8]
    (repeat (first | (with_reducible assumption) | (with_reducible apply Blk.new) | (with_reducible exact blkAt _ _ _ _ (by simp; done)) | (with_reducible apply blk_st2) | (with_reducible apply blk_st4) | (with_reducible apply blk_st6) | (with_reducible apply blk_far (hne := by first | (with_reducible assumption) | omega)) | (with_reducible apply blk_up (hb := by assumption)) | (with_reducible apply Blk.alloc) | (with_reducible apply blk_drew)))
  have I8 : Blk W8 (u4.heap.size) 38 #[.int .i64 f0, .int .i64 f1, .int .i64 f2, .int .i64 f3, .int .i64 f4, .int .i64 f5] := by
    rw [hW8]
    (repeat (first | (with_reducible assumption) | (with_reducible apply Blk.new) | (with_reducible exact blkAt _ _ _ _ (by simp; done)) | (with_reducible apply blk_st2) | (with_reducible apply blk_st4) | (with_reducible apply blk_st6) | (with_reducible apply blk_far (hne := by first | (with_reducible assumption) | omega)) | (with_reducible apply blk_up (hb := by assumption)) | (with_reducible apply Blk.alloc) | (with_reducible apply blk_drew)))
  clear hW8
  try clear qI7
  try clear pI7
  try clear qH7
  try clear pH7
  try clear qY7
  try clear pY7
  try clear qX7
  try clear pX7
  try clear qV7
  try clear pV7
  try clear qB7
  try clear pB7
  try clear qA7
  try clear pA7
  try clear hz7
  try clear hc7
  try clear hf7
  try clear d7
  try clear fX7_5
  try clear fX7_4
  try clear fX7_3
  try clear fX7_2
  try clear fX7_1
  try clear fX7_0
  try clear cX7_0
  try clear cX7_1
  try clear cX7_2
  try clear cX7_3
  try clear cX7_4
  try clear cX7_5
  try clear cB7_0
  try clear cB7_1
  try clear cB7_2
  try clear cB7_3
  try clear cB7_4
  try clear cB7_5
  try clear cA7_0
  try clear cA7_1
  try clear cA7_2
  try clear cA7_3
  try clear cA7_4
  try clear cA7_5
  try clear y7
  try clear k7
  try clear A7
  try clear B7
  try clear V7
  try clear X7
  try clear Y7
  try clear H7
  try clear I7
  try clear gA7
  try clear lA7
  try clear gB7
  try clear lB7
  try clear gV7
  try clear lV7
  try clear gX7
  try clear lX7
  try clear gY7
  try clear lY7
  try clear gH7
  try clear lH7
  try clear gI7
  try clear lI7
  have y8 := k8.size
  have gA8 := A8.lt
  have lA8 := Nat.le_of_lt gA8
  have gB8 := B8.lt
  have lB8 := Nat.le_of_lt gB8
  have gV8 := V8.lt
  have lV8 := Nat.le_of_lt gV8
  have gX8 := X8.lt
  have lX8 := Nat.le_of_lt gX8
  have gY8 := Y8.lt
  have lY8 := Nat.le_of_lt gY8
  have gH8 := H8.lt
  have lH8 := Nat.le_of_lt gH8
  have gI8 := I8.lt
  have lI8 := Nat.le_of_lt gI8
  have cX8_0 := X8.cell 0
  have cX8_1 := X8.cell 1
  have cX8_2 := X8.cell 2
  have cX8_3 := X8.cell 3
  have cX8_4 := X8.cell 4
  have cX8_5 := X8.cell 5
  simp only [List.getElem?_toArray, List.getElem?_cons_zero, List.getElem?_cons_succ] at cX8_0 cX8_1 cX8_2 cX8_3 cX8_4 cX8_5
  have cA8_0 := A8.cell 0
  have cA8_1 := A8.cell 1
  have cA8_2 := A8.cell 2
  have cA8_3 := A8.cell 3
  have cA8_4 := A8.cell 4
  have cA8_5 := A8.cell 5
  simp only [List.getElem?_toArray, List.getElem?_cons_zero, List.getElem?_cons_succ] at cA8_0 cA8_1 cA8_2 cA8_3 cA8_4 cA8_5
  have cY8_0 := Y8.cell 0
  have cY8_1 := Y8.cell 1
  have cY8_2 := Y8.cell 2
  have cY8_3 := Y8.cell 3
  have cY8_4 := Y8.cell 4
  have cY8_5 := Y8.cell 5
  simp only [List.getElem?_toArray, List.getElem?_cons_zero, List.getElem?_cons_succ] at cY8_0 cY8_1 cY8_2 cY8_3 cY8_4 cY8_5
  have fY8_0 := Y8.frozen 0
  have fY8_1 := Y8.frozen 1
  have fY8_2 := Y8.frozen 2
  have fY8_3 := Y8.frozen 3
  have fY8_4 := Y8.frozen 4
  have fY8_5 := Y8.frozen 5
  ((with_reducible refine (HBt.out _).mono ?_); rintro e u8 ⟨rfl, d8⟩)
  obtain ⟨hz8, hc8, hf8⟩ := bcl d8 (by first | (simp; rfl) | rfl)
  have qA8 : w.heap.size < u8.heap.size := by omega
  have pA8 : w.heap.size ≤ u8.heap.size := by omega
  have qB8 : w.heap.size + 1 < u8.heap.size := by omega
  have pB8 : w.heap.size + 1 ≤ u8.heap.size := by omega
  have qV8 : w.heap.size + 1 + 1 < u8.heap.size := by omega
  have pV8 : w.heap.size + 1 + 1 ≤ u8.heap.size := by omega
  have qX8 : u1.heap.size < u8.heap.size := by omega
  have pX8 : u1.heap.size ≤ u8.heap.size := by omega
  have qY8 : u2.heap.size < u8.heap.size := by omega
  have pY8 : u2.heap.size ≤ u8.heap.size := by omega
  have qH8 : u3.heap.size < u8.heap.size := by omega
  have pH8 : u3.heap.size ≤ u8.heap.size := by omega
  have qI8 : u4.heap.size < u8.heap.size := by omega
  have pI8 : u4.heap.size ≤ u8.heap.size := by omega
  go_wp2_with fail
  refine calls_letter ?_
  intro W9 hW9
  have k9 : Below w.heap.size w W9 := by
    rw [hW9]
    (repeat (first | (with_reducible assumption) | (with_reducible exact bl_refl _) | (with_reducible refine bl_alloc ?_ _) | (with_reducible refine bl_drew ?_) | (with_reducible refine bl_set' ?_ ?_; · (dsimp only; first | assumption | exact Nat.le_refl _ | omega)) | (with_reducible refine bl_last (by assumption) ?_)))
  have A9 : Blk W9 (w.heap.size) 23 #[.int .i64 a0, .int .i64 a1, .int .i64 a2, .int .i64 a3, .int .i64 a4, .int .i64 a5] := by
    rw [hW9]
    (repeat (first | (with_reducible assumption) | (with_reducible apply Blk.new) | (with_reducible exact blkAt _ _ _ _ (by simp; done)) | (with_reducible apply blk_st2) | (with_reducible apply blk_st4) | (with_reducible apply blk_st6) | (with_reducible apply blk_far (hne := by first | (with_reducible assumption) | omega)) | (with_reducible apply blk_up (hb := by assumption)) | (with_reducible apply Blk.alloc) | (with_reducible apply blk_drew)))
  have B9 : Blk W9 (w.heap.size + 1) 23 #[.int .i64 b0, .int .i64 b1, .int .i64 b2, .int .i64 b3, .int .i64 b4, .int .i64 b5] := by
    rw [hW9]
    (repeat (first | (with_reducible assumption) | (with_reducible apply Blk.new) | (with_reducible exact blkAt _ _ _ _ (by simp; done)) | (with_reducible apply blk_st2) | (with_reducible apply blk_st4) | (with_reducible apply blk_st6) | (with_reducible apply blk_far (hne := by first | (with_reducible assumption) | omega)) | (with_reducible apply blk_up (hb := by assumption)) | (with_reducible apply Blk.alloc) | (with_reducible apply blk_drew)))
  have V9 : Blk W9 (w.heap.size + 1 + 1) 38 #[.int .i64 v0, .int .i64 v1, .int .i64 v2, .int .i64 v3, .int .i64 v4, .int .i64 v5] := by
    rw [hW9]
    (repeat (first | (with_reducible assumption) | (with_reducible apply Blk.new) | (with_reducible exact blkAt _ _ _ _ (by simp; done)) | (with_reducible apply blk_st2) | (with_reducible apply blk_st4) | (with_reducible apply blk_st6) | (with_reducible apply blk_far (hne := by first | (with_reducible assumption) | omega)) | (with_reducible apply blk_up (hb := by assumption)) | (with_reducible apply Blk.alloc) | (with_reducible apply blk_drew)))
  have X9 : Blk W9 (u1.heap.size) 23 #[.int .i64 t0, .int .i64 t1, .int .i64 t2, .int .i64 t3, .int .i64 t4, .int .i64 t5] := by
    rw [hW9]
    (repeat (first | (with_reducible assumption) | (with_reducible apply Blk.new) | (with_reducible exact blkAt _ _ _ _ (by simp; done)) | (with_reducible apply blk_st2) | (with_reducible apply blk_st4) | (with_reducible apply blk_st6) | (with_reducible apply blk_far (hne := by first | (with_reducible assumption) | omega)) | (with_reducible apply blk_up (hb := by assumption)) | (with_reducible apply Blk.alloc) | (with_reducible apply blk_drew)))
  have Y9 : Blk W9 (u2.heap.size) 23 #[.int .i64 t0, .int .i64 t1, .int .i64 t2, .int .i64 t3, .int .i64 t4, .int .i64 t5] := by
    rw [hW9]
    (repeat (first | (with_reducible assumption) | (with_reducible apply Blk.new) | (with_reducible exact blkAt _ _ _ _ (by simp; done)) | (with_reducible apply blk_st2) | (with_reducible apply blk_st4) | (with_reducible apply blk_st6) | (with_reducible apply blk_far (hne := by first | (with_reducible assumption) | omega)) | (with_reducible apply blk_up (hb := by assumption)) | (with_reducible apply Blk.alloc) | (with_reducible apply blk_drew)))
  have H9 : Blk W9 (u3.heap.size) 38 #[.int .i64 f0, .int .i64 f1, .int .i64 f2, .int .i64 f3, .int .i64 f4, .int .i64 f5] := by
    rw [hW9]
    (repeat (first | (with_reducible assumption) | (with_reducible apply Blk.new) | (with_reducible exact blkAt _ _ _ _ (by simp; done)) | (with_reducible apply blk_st2) | (with_reducible apply blk_st4) | (with_reducible apply blk_st6) | (with_reducible apply blk_far (hne := by first | (with_reducible assumption) | omega)) | (with_reducible apply blk_up (hb := by assumption)) | (with_reducible apply Blk.alloc) | (with_reducible apply blk_drew)))
  have I9 : Blk W9 (u4.heap.size) 38 #[.int .i64 f0, .int .i64 f1, .int .i64 f2, .int .i64 f3, .int .i64 f4, .int .i64 f5] := by
    rw [hW9]
    (repeat (first | (with_reducible assumption) | (with_reducible apply Blk.new) | (with_reducible exact blkAt _ _ _ _ (by simp; done)) | (with_reducible apply blk_st2) | (with_reducible apply blk_st4) | (with_reducible apply blk_st6) | (with_reducible apply blk_far (hne := by first | (with_reducible assumption) | omega)) | (with_reducible apply blk_up (hb := by assumption)) | (with_reducible apply Blk.alloc) | (with_reducible apply blk_drew)))
  clear hW9
  try clear qI8
  try clear pI8
  try clear qH8
  try clear pH8
  try clear qY8
  try clear pY8
  try clear qX8
  try clear pX8
  try clear qV8
  try clear pV8
  try clear qB8
  try clear pB8
  try clear qA8
  try clear pA8
  try clear hz8
  try clear hc8
  try clear hf8
  try clear d8
  try clear fY8_5
  try clear fY8_4
  try clear fY8_3
  try clear fY8_2
  try clear fY8_1
  try clear fY8_0
  try clear cY8_0
  try clear cY8_1
  try clear cY8_2
  try clear cY8_3
  try clear cY8_4
  try clear cY8_5
  try clear cA8_0
  try clear cA8_1
  try clear cA8_2
  try clear cA8_3
  try clear cA8_4
  try clear cA8_5
  try clear cX8_0
  try clear cX8_1
  try clear cX8_2
  try clear cX8_3
  try clear cX8_4
  try clear cX8_5
  try clear y8
  try clear k8
  try clear A8
  try clear B8
  try clear V8
  try clear X8
  try clear Y8
  try clear H8
  try clear I8
  try clear gA8
  try clear lA8
  try clear gB8
  try clear lB8
  try clear gV8
  try clear lV8
  try clear gX8
  try clear lX8
  try clear gY8
  try clear lY8
  try clear gH8
  try clear lH8
  try clear gI8
  try clear lI8
  have y9 := k9.size
  have gA9 := A9.lt
  have lA9 := Nat.le_of_lt gA9
  have gB9 := B9.lt
  have lB9 := Nat.le_of_lt gB9
  have gV9 := V9.lt
  have lV9 := Nat.le_of_lt gV9
  have gX9 := X9.lt
  have lX9 := Nat.le_of_lt gX9
  have gY9 := Y9.lt
  have lY9 := Nat.le_of_lt gY9
  have gH9 := H9.lt
  have lH9 := Nat.le_of_lt gH9
  have gI9 := I9.lt
  have lI9 := Nat.le_of_lt gI9
  have cA9_0 := A9.cell 0
  have cA9_1 := A9.cell 1
  have cA9_2 := A9.cell 2
  have cA9_3 := A9.cell 3
  have cA9_4 := A9.cell 4
  have cA9_5 := A9.cell 5
  simp only [List.getElem?_toArray, List.getElem?_cons_zero, List.getElem?_cons_succ] at cA9_0 cA9_1 cA9_2 cA9_3 cA9_4 cA9_5
  have cX9_0 := X9.cell 0
  have cX9_1 := X9.cell 1
  have cX9_2 := X9.cell 2
  have cX9_3 := X9.cell 3
  have cX9_4 := X9.cell 4
  have cX9_5 := X9.cell 5
  simp only [List.getElem?_toArray, List.getElem?_cons_zero, List.getElem?_cons_succ] at cX9_0 cX9_1 cX9_2 cX9_3 cX9_4 cX9_5
  have fX9_0 := X9.frozen 0
  have fX9_1 := X9.frozen 1
  have fX9_2 := X9.frozen 2
  have fX9_3 := X9.frozen 3
  have fX9_4 := X9.frozen 4
  have fX9_5 := X9.frozen 5
  ((with_reducible refine (HAp.out _).mono ?_); rintro e u9 ⟨rfl, d9⟩)
  obtain ⟨hz9, hc9, hf9⟩ := bcl d9 (by first | (simp; rfl) | rfl)
  have qA9 : w.heap.size < u9.heap.size := by omega
  have pA9 : w.heap.size ≤ u9.heap.size := by omega
  have qB9 : w.heap.size + 1 < u9.heap.size := by omega
  have pB9 : w.heap.size + 1 ≤ u9.heap.size := by omega
  have qV9 : w.heap.size + 1 + 1 < u9.heap.size := by omega
  have pV9 : w.heap.size + 1 + 1 ≤ u9.heap.size := by omega
  have qX9 : u1.heap.size < u9.heap.size := by omega
  have pX9 : u1.heap.size ≤ u9.heap.size := by omega
  have qY9 : u2.heap.size < u9.heap.size := by omega
  have pY9 : u2.heap.size ≤ u9.heap.size := by omega
  have qH9 : u3.heap.size < u9.heap.size := by omega
  have pH9 : u3.heap.size ≤ u9.heap.size := by omega
  have qI9 : u4.heap.size < u9.heap.size := by omega
  have pI9 : u4.heap.size ≤ u9.heap.size := by omega
  go_wp2_with fail
  refine calls_letter ?_
  intro W10 hW10
  have k10 : Below w.heap.size w W10 := by
    rw [hW10]
    (repeat (first | (with_reducible assumption) | (with_reducible exact bl_refl _) | (with_reducible refine bl_alloc ?_ _) | (with_reducible refine bl_drew ?_) | (with_reducible refine bl_set' ?_ ?_; · (dsimp only; first | assumption | exact Nat.le_refl _ | omega)) | (with_reducible refine bl_last (by assumption) ?_)))
  have A10 : Blk W10 (w.heap.size) 23 #[.int .i64 a0, .int .i64 a1, .int .i64 a2, .int .i64 a3, .int .i64 a4, .int .i64 a5] := by
    rw [hW10]
    (repeat (first | (with_reducible assumption) | (with_reducible apply Blk.new) | (with_reducible exact blkAt _ _ _ _ (by simp; done)) | (with_reducible apply blk_st2) | (with_reducible apply blk_st4) | (with_reducible apply blk_st6) | (with_reducible apply blk_far (hne := by first | (with_reducible assumption) | omega)) | (with_reducible apply blk_up (hb := by assumption)) | (with_reducible apply Blk.alloc) | (with_reducible apply blk_drew)))
  have B10 : Blk W10 (w.heap.size + 1) 23 #[.int .i64 b0, .int .i64 b1, .int .i64 b2, .int .i64 b3, .int .i64 b4, .int .i64 b5] := by
    rw [hW10]
    (repeat (first | (with_reducible assumption) | (with_reducible apply Blk.new) | (with_reducible exact blkAt _ _ _ _ (by simp; done)) | (with_reducible apply blk_st2) | (with_reducible apply blk_st4) | (with_reducible apply blk_st6) | (with_reducible apply blk_far (hne := by first | (with_reducible assumption) | omega)) | (with_reducible apply blk_up (hb := by assumption)) | (with_reducible apply Blk.alloc) | (with_reducible apply blk_drew)))
  have V10 : Blk W10 (w.heap.size + 1 + 1) 38 #[.int .i64 v0, .int .i64 v1, .int .i64 v2, .int .i64 v3, .int .i64 v4, .int .i64 v5] := by
    rw [hW10]
    (repeat (first | (with_reducible assumption) | (with_reducible apply Blk.new) | (with_reducible exact blkAt _ _ _ _ (by simp; done)) | (with_reducible apply blk_st2) | (with_reducible apply blk_st4) | (with_reducible apply blk_st6) | (with_reducible apply blk_far (hne := by first | (with_reducible assumption) | omega)) | (with_reducible apply blk_up (hb := by assumption)) | (with_reducible apply Blk.alloc) | (with_reducible apply blk_drew)))
  have X10 : Blk W10 (u1.heap.size) 23 #[.int .i64 p0, .int .i64 p1, .int .i64 p2, .int .i64 p3, .int .i64 p4, .int .i64 p5] := by
    rw [hW10]
    (repeat (first | (with_reducible assumption) | (with_reducible apply Blk.new) | (with_reducible exact blkAt _ _ _ _ (by simp; done)) | (with_reducible apply blk_st2) | (with_reducible apply blk_st4) | (with_reducible apply blk_st6) | (with_reducible apply blk_far (hne := by first | (with_reducible assumption) | omega)) | (with_reducible apply blk_up (hb := by assumption)) | (with_reducible apply Blk.alloc) | (with_reducible apply blk_drew)))
  have Y10 : Blk W10 (u2.heap.size) 23 #[.int .i64 t0, .int .i64 t1, .int .i64 t2, .int .i64 t3, .int .i64 t4, .int .i64 t5] := by
    rw [hW10]
    (repeat (first | (with_reducible assumption) | (with_reducible apply Blk.new) | (with_reducible exact blkAt _ _ _ _ (by simp; done)) | (with_reducible apply blk_st2) | (with_reducible apply blk_st4) | (with_reducible apply blk_st6) | (with_reducible apply blk_far (hne := by first | (with_reducible assumption) | omega)) | (with_reducible apply blk_up (hb := by assumption)) | (with_reducible apply Blk.alloc) | (with_reducible apply blk_drew)))
  have H10 : Blk W10 (u3.heap.size) 38 #[.int .i64 f0, .int .i64 f1, .int .i64 f2, .int .i64 f3, .int .i64 f4, .int .i64 f5] := by
    rw [hW10]
    (repeat (first | (with_reducible assumption) | (with_reducible apply Blk.new) | (with_reducible exact blkAt _ _ _ _ (by simp; done)) | (with_reducible apply blk_st2) | (with_reducible apply blk_st4) | (with_reducible apply blk_st6) | (with_reducible apply blk_far (hne := by first | (with_reducible assumption) | omega)) | (with_reducible apply blk_up (hb := by assumption)) | (with_reducible apply Blk.alloc) | (with_reducible apply blk_drew)))
  have I10 : Blk W10 (u4.heap.size) 38 #[.int .i64 f0, .int .i64 f1, .int .i64 f2, .int .i64 f3, .int .i64 f4, .int .i64 f5] := by
    rw [hW10]
    (repeat (first | (with_reducible assumption) | (with_reducible apply Blk.new) | (with_reducible exact blkAt _ _ _ _ (by simp; done)) | (with_reducible apply blk_st2) | (with_reducible apply blk_st4) | (with_reducible apply blk_st6) | (with_reducible apply blk_far (hne := by first | (with_reducible assumption) | omega)) | (with_reducible apply blk_up (hb := by assumption)) | (with_reducible apply Blk.alloc) | (with_reducible apply blk_drew)))
  clear hW10
  try clear qI9
  try clear pI9
  try clear qH9
  try clear pH9
  try clear qY9
  try clear pY9
  try clear qX9
  try clear pX9
  try clear qV9
  try clear pV9
  try clear qB9
  try clear pB9
  try clear qA9
  try clear pA9
  try clear hz9
  try clear hc9
  try clear hf9
  try clear d9
  try clear fX9_5
  try clear fX9_4
  try clear fX9_3
  try clear fX9_2
  try clear fX9_1
  try clear fX9_0
  try clear cX9_0
  try clear cX9_1
  try clear cX9_2
  try clear cX9_3
  try clear cX9_4
  try clear cX9_5
  try clear cA9_0
  try clear cA9_1
  try clear cA9_2
  try clear cA9_3
  try clear cA9_4
  try clear cA9_5
  try clear y9
  try clear k9
  try clear A9
  try clear B9
  try clear V9
  try clear X9
  try clear Y9
  try clear H9
  try clear I9
  try clear gA9
  try clear lA9
  try clear gB9
  try clear lB9
  try clear gV9
  try clear lV9
  try clear gX9
  try clear lX9
  try clear gY9
  try clear lY9
  try clear gH9
  try clear lH9
  try clear gI9
  try clear lI9
  have y10 := k10.size
  have gA10 := A10.lt
  have lA10 := Nat.le_of_lt gA10
  have gB10 := B10.lt
  have lB10 := Nat.le_of_lt gB10
  have gV10 := V10.lt
  have lV10 := Nat.le_of_lt gV10
  have gX10 := X10.lt
  have lX10 := Nat.le_of_lt gX10
  have gY10 := Y10.lt
  have lY10 := Nat.le_of_lt gY10
  have gH10 := H10.lt
  have lH10 := Nat.le_of_lt gH10
  have gI10 := I10.lt
  have lI10 := Nat.le_of_lt gI10
  have cX10_0 := X10.cell 0
  have cX10_1 := X10.cell 1
  have cX10_2 := X10.cell 2
  have cX10_3 := X10.cell 3
  have cX10_4 := X10.cell 4
  have cX10_5 := X10.cell 5
  simp only [List.getElem?_toArray, List.getElem?_cons_zero, List.getElem?_cons_succ] at cX10_0 cX10_1 cX10_2 cX10_3 cX10_4 cX10_5
  have cA10_0 := A10.cell 0
  have cA10_1 := A10.cell 1
  have cA10_2 := A10.cell 2
  have cA10_3 := A10.cell 3
  have cA10_4 := A10.cell 4
  have cA10_5 := A10.cell 5
  simp only [List.getElem?_toArray, List.getElem?_cons_zero, List.getElem?_cons_succ] at cA10_0 cA10_1 cA10_2 cA10_3 cA10_4 cA10_5
  have cB10_0 := B10.cell 0
  have cB10_1 := B10.cell 1
  have cB10_2 := B10.cell 2
  have cB10_3 := B10.cell 3
  have cB10_4 := B10.cell 4
  have cB10_5 := B10.cell 5
  simp only [List.getElem?_toArray, List.getElem?_cons_zero, List.getElem?_cons_succ] at cB10_0 cB10_1 cB10_2 cB10_3 cB10_4 cB10_5
  have cY10_0 := Y10.cell 0
  have cY10_1 := Y10.cell 1
  have cY10_2 := Y10.cell 2
  have cY10_3 := Y10.cell 3
  have cY10_4 := Y10.cell 4
  have cY10_5 := Y10.cell 5
  simp only [List.getElem?_toArray, List.getElem?_cons_zero, List.getElem?_cons_succ] at cY10_0 cY10_1 cY10_2 cY10_3 cY10_4 cY10_5
  have fY10_0 := Y10.frozen 0
  have fY10_1 := Y10.frozen 1
  have fY10_2 := Y10.frozen 2
  have fY10_3 := Y10.frozen 3
  have fY10_4 := Y10.frozen 4
  have fY10_5 := Y10.frozen 5
  ((with_reducible refine (HBp.out _).mono ?_); rintro e u10 ⟨rfl, d10⟩)
  obtain ⟨hz10, hc10, hf10⟩ := bcl d10 (by first | (simp; rfl) | rfl)
  have qA10 : w.heap.size < u10.heap.size := by omega
  have pA10 : w.heap.size ≤ u10.heap.size := by omega
  have qB10 : w.heap.size + 1 < u10.heap.size := by omega
  have pB10 : w.heap.size + 1 ≤ u10.heap.size := by omega
  have qV10 : w.heap.size + 1 + 1 < u10.heap.size := by omega
  have pV10 : w.heap.size + 1 + 1 ≤ u10.heap.size := by omega
  have qX10 : u1.heap.size < u10.heap.size := by omega
  have pX10 : u1.heap.size ≤ u10.heap.size := by omega
  have qY10 : u2.heap.size < u10.heap.size := by omega
  have pY10 : u2.heap.size ≤ u10.heap.size := by omega
  have qH10 : u3.heap.size < u10.heap.size := by omega
  have pH10 : u3.heap.size ≤ u10.heap.size := by omega
  have qI10 : u4.heap.size < u10.heap.size := by omega
  have pI10 : u4.heap.size ≤ u10.heap.size := by omega
  go_wp2_with fail
  refine calls_letter ?_
  intro W11 hW11
  have k11 : Below w.heap.size w W11 := by
    rw [hW11]
    (repeat (first | (with_reducible assumption) | (with_reducible exact bl_refl _) | (with_reducible refine bl_alloc ?_ _) | (with_reducible refine bl_drew ?_) | (with_reducible refine bl_set' ?_ ?_; · (dsimp only; first | assumption | exact Nat.le_refl _ | omega)) | (with_reducible refine bl_last (by assumption) ?_)))
  have A11 : Blk W11 (w.heap.size) 23 #[.int .i64 a0, .int .i64 a1, .int .i64 a2, .int .i64 a3, .int .i64 a4, .int .i64 a5] := by
    rw [hW11]
    (repeat (first | (with_reducible assumption) | (with_reducible apply Blk.new) | (with_reducible exact blkAt _ _ _ _ (by simp; done)) | (with_reducible apply blk_st2) | (with_reducible apply blk_st4) | (with_reducible apply blk_st6) | (with_reducible apply blk_far (hne := by first | (with_reducible assumption) | omega)) | (with_reducible apply blk_up (hb := by assumption)) | (with_reducible apply Blk.alloc) | (with_reducible apply blk_drew)))
  have B11 : Blk W11 (w.heap.size + 1) 23 #[.int .i64 b0, .int .i64 b1, .int .i64 b2, .int .i64 b3, .int .i64 b4, .int .i64 b5] := by
    rw [hW11]
    (repeat (first | (with_reducible assumption) | (with_reducible apply Blk.new) | (with_reducible exact blkAt _ _ _ _ (by simp; done)) | (with_reducible apply blk_st2) | (with_reducible apply blk_st4) | (with_reducible apply blk_st6) | (with_reducible apply blk_far (hne := by first | (with_reducible assumption) | omega)) | (with_reducible apply blk_up (hb := by assumption)) | (with_reducible apply Blk.alloc) | (with_reducible apply blk_drew)))
  have V11 : Blk W11 (w.heap.size + 1 + 1) 38 #[.int .i64 v0, .int .i64 v1, .int .i64 v2, .int .i64 v3, .int .i64 v4, .int .i64 v5] := by
    rw [hW11]
    (repeat (first | (with_reducible assumption) | (with_reducible apply Blk.new) | (with_reducible exact blkAt _ _ _ _ (by simp; done)) | (with_reducible apply blk_st2) | (with_reducible apply blk_st4) | (with_reducible apply blk_st6) | (with_reducible apply blk_far (hne := by first | (with_reducible assumption) | omega)) | (with_reducible apply blk_up (hb := by assumption)) | (with_reducible apply Blk.alloc) | (with_reducible apply blk_drew)))
  have X11 : Blk W11 (u1.heap.size) 23 #[.int .i64 p0, .int .i64 p1, .int .i64 p2, .int .i64 p3, .int .i64 p4, .int .i64 p5] := by
    rw [hW11]
    (repeat (first | (with_reducible assumption) | (with_reducible apply Blk.new) | (with_reducible exact blkAt _ _ _ _ (by simp; done)) | (with_reducible apply blk_st2) | (with_reducible apply blk_st4) | (with_reducible apply blk_st6) | (with_reducible apply blk_far (hne := by first | (with_reducible assumption) | omega)) | (with_reducible apply blk_up (hb := by assumption)) | (with_reducible apply Blk.alloc) | (with_reducible apply blk_drew)))
  have Y11 : Blk W11 (u2.heap.size) 23 #[.int .i64 p0, .int .i64 p1, .int .i64 p2, .int .i64 p3, .int .i64 p4, .int .i64 p5] := by
    rw [hW11]
    (repeat (first | (with_reducible assumption) | (with_reducible apply Blk.new) | (with_reducible exact blkAt _ _ _ _ (by simp; done)) | (with_reducible apply blk_st2) | (with_reducible apply blk_st4) | (with_reducible apply blk_st6) | (with_reducible apply blk_far (hne := by first | (with_reducible assumption) | omega)) | (with_reducible apply blk_up (hb := by assumption)) | (with_reducible apply Blk.alloc) | (with_reducible apply blk_drew)))
  have H11 : Blk W11 (u3.heap.size) 38 #[.int .i64 f0, .int .i64 f1, .int .i64 f2, .int .i64 f3, .int .i64 f4, .int .i64 f5] := by
    rw [hW11]
    (repeat (first | (with_reducible assumption) | (with_reducible apply Blk.new) | (with_reducible exact blkAt _ _ _ _ (by simp; done)) | (with_reducible apply blk_st2) | (with_reducible apply blk_st4) | (with_reducible apply blk_st6) | (with_reducible apply blk_far (hne := by first | (with_reducible assumption) | omega)) | (with_reducible apply blk_up (hb := by assumption)) | (with_reducible apply Blk.alloc) | (with_reducible apply blk_drew)))
  have I11 : Blk W11 (u4.heap.size) 38 #[.int .i64 f0, .int .i64 f1, .int .i64 f2, .int .i64 f3, .int .i64 f4, .int .i64 f5] := by
    rw [hW11]
    (repeat (first | (with_reducible assumption) | (with_reducible apply Blk.new) | (with_reducible exact blkAt _ _ _ _ (by simp; done)) | (with_reducible apply blk_st2) | (with_reducible apply blk_st4) | (with_reducible apply blk_st6) | (with_reducible apply blk_far (hne := by first | (with_reducible assumption) | omega)) | (with_reducible apply blk_up (hb := by assumption)) | (with_reducible apply Blk.alloc) | (with_reducible apply blk_drew)))
  clear hW11
  try clear qI10
  try clear pI10
  try clear qH10
  try clear pH10
  try clear qY10
  try clear pY10
  try clear qX10
  try clear pX10
  try clear qV10
  try clear pV10
  try clear qB10
  try clear pB10
  try clear qA10
  try clear pA10
  try clear hz10
  try clear hc10
  try clear hf10
  try clear d10
  try clear fY10_5
  try clear fY10_4
  try clear fY10_3
  try clear fY10_2
  try clear fY10_1
  try clear fY10_0
  try clear cY10_0
  try clear cY10_1
  try clear cY10_2
  try clear cY10_3
  try clear cY10_4
  try clear cY10_5
  try clear cB10_0
  try clear cB10_1
  try clear cB10_2
  try clear cB10_3
  try clear cB10_4
  try clear cB10_5
  try clear cA10_0
  try clear cA10_1
  try clear cA10_2
  try clear cA10_3
  try clear cA10_4
  try clear cA10_5
  try clear cX10_0
  try clear cX10_1
  try clear cX10_2
  try clear cX10_3
  try clear cX10_4
  try clear cX10_5
  try clear y10
  try clear k10
  try clear A10
  try clear B10
  try clear V10
  try clear X10
  try clear Y10
  try clear H10
  try clear I10
  try clear gA10
  try clear lA10
  try clear gB10
  try clear lB10
  try clear gV10
  try clear lV10
  try clear gX10
  try clear lX10
  try clear gY10
  try clear lY10
  try clear gH10
  try clear lH10
  try clear gI10
  try clear lI10
  have y11 := k11.size
  have gA11 := A11.lt
  have lA11 := Nat.le_of_lt gA11
  have gB11 := B11.lt
  have lB11 := Nat.le_of_lt gB11
  have gV11 := V11.lt
  have lV11 := Nat.le_of_lt gV11
  have gX11 := X11.lt
  have lX11 := Nat.le_of_lt gX11
  have gY11 := Y11.lt
  have lY11 := Nat.le_of_lt gY11
  have gH11 := H11.lt
  have lH11 := Nat.le_of_lt gH11
  have gI11 := I11.lt
  have lI11 := Nat.le_of_lt gI11
  have cA11_0 := A11.cell 0
  have cA11_1 := A11.cell 1
  have cA11_2 := A11.cell 2
  have cA11_3 := A11.cell 3
  have cA11_4 := A11.cell 4
  have cA11_5 := A11.cell 5
  simp only [List.getElem?_toArray, List.getElem?_cons_zero, List.getElem?_cons_succ] at cA11_0 cA11_1 cA11_2 cA11_3 cA11_4 cA11_5
  have cB11_0 := B11.cell 0
  have cB11_1 := B11.cell 1
  have cB11_2 := B11.cell 2
  have cB11_3 := B11.cell 3
  have cB11_4 := B11.cell 4
  have cB11_5 := B11.cell 5
  simp only [List.getElem?_toArray, List.getElem?_cons_zero, List.getElem?_cons_succ] at cB11_0 cB11_1 cB11_2 cB11_3 cB11_4 cB11_5
  ((with_reducible refine (HAc.out _ (HP.out.up k11)).mono ?_); rintro e u11 ⟨rfl, d11⟩)
  obtain ⟨hz11, hc11, hf11⟩ := bcl d11 (by first | (simp; rfl) | rfl)
  have qA11 : w.heap.size < u11.heap.size := by omega
  have pA11 : w.heap.size ≤ u11.heap.size := by omega
  have qB11 : w.heap.size + 1 < u11.heap.size := by omega
  have pB11 : w.heap.size + 1 ≤ u11.heap.size := by omega
  have qV11 : w.heap.size + 1 + 1 < u11.heap.size := by omega
  have pV11 : w.heap.size + 1 + 1 ≤ u11.heap.size := by omega
  have qX11 : u1.heap.size < u11.heap.size := by omega
  have pX11 : u1.heap.size ≤ u11.heap.size := by omega
  have qY11 : u2.heap.size < u11.heap.size := by omega
  have pY11 : u2.heap.size ≤ u11.heap.size := by omega
  have qH11 : u3.heap.size < u11.heap.size := by omega
  have pH11 : u3.heap.size ≤ u11.heap.size := by omega
  have qI11 : u4.heap.size < u11.heap.size := by omega
  have pI11 : u4.heap.size ≤ u11.heap.size := by omega
  go_wp2_with fail
  refine calls_letter ?_
  intro W12 hW12
  have k12 : Below w.heap.size w W12 := by
    rw [hW12]
    (repeat (first | (with_reducible assumption) | (with_reducible exact bl_refl _) | (with_reducible refine bl_alloc ?_ _) | (with_reducible refine bl_drew ?_) | (with_reducible refine bl_set' ?_ ?_; · (dsimp only; first | assumption | exact Nat.le_refl _ | omega)) | (with_reducible refine bl_last (by assumption) ?_)))
  have A12 : Blk W12 (w.heap.size) 23 #[.int .i64 a0, .int .i64 a1, .int .i64 a2, .int .i64 a3, .int .i64 a4, .int .i64 a5] := by
    rw [hW12]
    (repeat (first | (with_reducible assumption) | (with_reducible apply Blk.new) | (with_reducible exact blkAt _ _ _ _ (by simp; done)) | (with_reducible apply blk_st2) | (with_reducible apply blk_st4) | (with_reducible apply blk_st6) | (with_reducible apply blk_far (hne := by first | (with_reducible assumption) | omega)) | (with_reducible apply blk_up (hb := by assumption)) | (with_reducible apply Blk.alloc) | (with_reducible apply blk_drew)))
  have B12 : Blk W12 (w.heap.size + 1) 23 #[.int .i64 b0, .int .i64 b1, .int .i64 b2, .int .i64 b3, .int .i64 b4, .int .i64 b5] := by
    rw [hW12]
    (repeat (first | (with_reducible assumption) | (with_reducible apply Blk.new) | (with_reducible exact blkAt _ _ _ _ (by simp; done)) | (with_reducible apply blk_st2) | (with_reducible apply blk_st4) | (with_reducible apply blk_st6) | (with_reducible apply blk_far (hne := by first | (with_reducible assumption) | omega)) | (with_reducible apply blk_up (hb := by assumption)) | (with_reducible apply Blk.alloc) | (with_reducible apply blk_drew)))
  have V12 : Blk W12 (w.heap.size + 1 + 1) 38 #[.int .i64 v0, .int .i64 v1, .int .i64 v2, .int .i64 v3, .int .i64 v4, .int .i64 v5] := by
    rw [hW12]
    (repeat (first | (with_reducible assumption) | (with_reducible apply Blk.new) | (with_reducible exact blkAt _ _ _ _ (by simp; done)) | (with_reducible apply blk_st2) | (with_reducible apply blk_st4) | (with_reducible apply blk_st6) | (with_reducible apply blk_far (hne := by first | (with_reducible assumption) | omega)) | (with_reducible apply blk_up (hb := by assumption)) | (with_reducible apply Blk.alloc) | (with_reducible apply blk_drew)))
  have X12 : Blk W12 (u1.heap.size) 23 #[.int .i64 p0, .int .i64 p1, .int .i64 p2, .int .i64 p3, .int .i64 p4, .int .i64 p5] := by
    rw [hW12]
    (repeat (first | (with_reducible assumption) | (with_reducible apply Blk.new) | (with_reducible exact blkAt _ _ _ _ (by simp; done)) | (with_reducible apply blk_st2) | (with_reducible apply blk_st4) | (with_reducible apply blk_st6) | (with_reducible apply blk_far (hne := by first | (with_reducible assumption) | omega)) | (with_reducible apply blk_up (hb := by assumption)) | (with_reducible apply Blk.alloc) | (with_reducible apply blk_drew)))
  have Y12 : Blk W12 (u2.heap.size) 23 #[.int .i64 p0, .int .i64 p1, .int .i64 p2, .int .i64 p3, .int .i64 p4, .int .i64 p5] := by
    rw [hW12]
    (repeat (first | (with_reducible assumption) | (with_reducible apply Blk.new) | (with_reducible exact blkAt _ _ _ _ (by simp; done)) | (with_reducible apply blk_st2) | (with_reducible apply blk_st4) | (with_reducible apply blk_st6) | (with_reducible apply blk_far (hne := by first | (with_reducible assumption) | omega)) | (with_reducible apply blk_up (hb := by assumption)) | (with_reducible apply Blk.alloc) | (with_reducible apply blk_drew)))
  have H12 : Blk W12 (u3.heap.size) 38 #[.int .i64 f0, .int .i64 f1, .int .i64 f2, .int .i64 f3, .int .i64 f4, .int .i64 f5] := by
    rw [hW12]
    (repeat (first | (with_reducible assumption) | (with_reducible apply Blk.new) | (with_reducible exact blkAt _ _ _ _ (by simp; done)) | (with_reducible apply blk_st2) | (with_reducible apply blk_st4) | (with_reducible apply blk_st6) | (with_reducible apply blk_far (hne := by first | (with_reducible assumption) | omega)) | (with_reducible apply blk_up (hb := by assumption)) | (with_reducible apply Blk.alloc) | (with_reducible apply blk_drew)))
  have I12 : Blk W12 (u4.heap.size) 38 #[.int .i64 f0, .int .i64 f1, .int .i64 f2, .int .i64 f3, .int .i64 f4, .int .i64 f5] := by
    rw [hW12]
    (repeat (first | (with_reducible assumption) | (with_reducible apply Blk.new) | (with_reducible exact blkAt _ _ _ _ (by simp; done)) | (with_reducible apply blk_st2) | (with_reducible apply blk_st4) | (with_reducible apply blk_st6) | (with_reducible apply blk_far (hne := by first | (with_reducible assumption) | omega)) | (with_reducible apply blk_up (hb := by assumption)) | (with_reducible apply Blk.alloc) | (with_reducible apply blk_drew)))
  clear hW12
  try clear qI11
  try clear pI11
  try clear qH11
  try clear pH11
  try clear qY11
  try clear pY11
  try clear qX11
  try clear pX11
  try clear qV11
  try clear pV11
  try clear qB11
  try clear pB11
  try clear qA11
  try clear pA11
  try clear hz11
  try clear hc11
  try clear hf11
  try clear d11
  try clear cB11_0
  try clear cB11_1
  try clear cB11_2
  try clear cB11_3
  try clear cB11_4
  try clear cB11_5
  try clear cA11_0
  try clear cA11_1
  try clear cA11_2
  try clear cA11_3
  try clear cA11_4
  try clear cA11_5
  try clear y11
  try clear k11
  try clear A11
  try clear B11
  try clear V11
  try clear X11
  try clear Y11
  try clear H11
  try clear I11
  try clear gA11
  try clear lA11
  try clear gB11
  try clear lB11
  try clear gV11
  try clear lV11
  try clear gX11
  try clear lX11
  try clear gY11
  try clear lY11
  try clear gH11
  try clear lH11
  try clear gI11
  try clear lI11
  have y12 := k12.size
  have gA12 := A12.lt
  have lA12 := Nat.le_of_lt gA12
  have gB12 := B12.lt
  have lB12 := Nat.le_of_lt gB12
  have gV12 := V12.lt
  have lV12 := Nat.le_of_lt gV12
  have gX12 := X12.lt
  have lX12 := Nat.le_of_lt gX12
  have gY12 := Y12.lt
  have lY12 := Nat.le_of_lt gY12
  have gH12 := H12.lt
  have lH12 := Nat.le_of_lt gH12
  have gI12 := I12.lt
  have lI12 := Nat.le_of_lt gI12
  ((with_reducible refine (HBc.out _).mono ?_); rintro e u12 ⟨rfl, d12⟩)
  obtain ⟨hz12, hc12, hf12⟩ := bcl d12 (by first | (simp; rfl) | rfl)
  have qA12 : w.heap.size < u12.heap.size := by omega
  have pA12 : w.heap.size ≤ u12.heap.size := by omega
  have qB12 : w.heap.size + 1 < u12.heap.size := by omega
  have pB12 : w.heap.size + 1 ≤ u12.heap.size := by omega
  have qV12 : w.heap.size + 1 + 1 < u12.heap.size := by omega
  have pV12 : w.heap.size + 1 + 1 ≤ u12.heap.size := by omega
  have qX12 : u1.heap.size < u12.heap.size := by omega
  have pX12 : u1.heap.size ≤ u12.heap.size := by omega
  have qY12 : u2.heap.size < u12.heap.size := by omega
  have pY12 : u2.heap.size ≤ u12.heap.size := by omega
  have qH12 : u3.heap.size < u12.heap.size := by omega
  have pH12 : u3.heap.size ≤ u12.heap.size := by omega
  have qI12 : u4.heap.size < u12.heap.size := by omega
  have pI12 : u4.heap.size ≤ u12.heap.size := by omega
  go_wp2_with fail
  refine calls_letter ?_
  intro W13 hW13
  have k13 : Below w.heap.size w W13 := by
    rw [hW13]
    (repeat (first | (with_reducible assumption) | (with_reducible exact bl_refl _) | (with_reducible refine bl_alloc ?_ _) | (with_reducible refine bl_drew ?_) | (with_reducible refine bl_set' ?_ ?_; · (dsimp only; first | assumption | exact Nat.le_refl _ | omega)) | (with_reducible refine bl_last (by assumption) ?_)))
  have A13 : Blk W13 (w.heap.size) 23 #[.int .i64 a0, .int .i64 a1, .int .i64 a2, .int .i64 a3, .int .i64 a4, .int .i64 a5] := by
    rw [hW13]
    (repeat (first | (with_reducible assumption) | (with_reducible apply Blk.new) | (with_reducible exact blkAt _ _ _ _ (by simp; done)) | (with_reducible apply blk_st2) | (with_reducible apply blk_st4) | (with_reducible apply blk_st6) | (with_reducible apply blk_far (hne := by first | (with_reducible assumption) | omega)) | (with_reducible apply blk_up (hb := by assumption)) | (with_reducible apply Blk.alloc) | (with_reducible apply blk_drew)))
  have B13 : Blk W13 (w.heap.size + 1) 23 #[.int .i64 b0, .int .i64 b1, .int .i64 b2, .int .i64 b3, .int .i64 b4, .int .i64 b5] := by
    rw [hW13]
    (repeat (first | (with_reducible assumption) | (with_reducible apply Blk.new) | (with_reducible exact blkAt _ _ _ _ (by simp; done)) | (with_reducible apply blk_st2) | (with_reducible apply blk_st4) | (with_reducible apply blk_st6) | (with_reducible apply blk_far (hne := by first | (with_reducible assumption) | omega)) | (with_reducible apply blk_up (hb := by assumption)) | (with_reducible apply Blk.alloc) | (with_reducible apply blk_drew)))
  have V13 : Blk W13 (w.heap.size + 1 + 1) 38 #[.int .i64 v0, .int .i64 v1, .int .i64 v2, .int .i64 v3, .int .i64 v4, .int .i64 v5] := by
    rw [hW13]
    (repeat (first | (with_reducible assumption) | (with_reducible apply Blk.new) | (with_reducible exact blkAt _ _ _ _ (by simp; done)) | (with_reducible apply blk_st2) | (with_reducible apply blk_st4) | (with_reducible apply blk_st6) | (with_reducible apply blk_far (hne := by first | (with_reducible assumption) | omega)) | (with_reducible apply blk_up (hb := by assumption)) | (with_reducible apply Blk.alloc) | (with_reducible apply blk_drew)))
  have X13 : Blk W13 (u1.heap.size) 23 #[.int .i64 p0, .int .i64 p1, .int .i64 p2, .int .i64 p3, .int .i64 p4, .int .i64 p5] := by
    rw [hW13]
    (repeat (first | (with_reducible assumption) | (with_reducible apply Blk.new) | (with_reducible exact blkAt _ _ _ _ (by simp; done)) | (with_reducible apply blk_st2) | (with_reducible apply blk_st4) | (with_reducible apply blk_st6) | (with_reducible apply blk_far (hne := by first | (with_reducible assumption) | omega)) | (with_reducible apply blk_up (hb := by assumption)) | (with_reducible apply Blk.alloc) | (with_reducible apply blk_drew)))
  have Y13 : Blk W13 (u2.heap.size) 23 #[.int .i64 p0, .int .i64 p1, .int .i64 p2, .int .i64 p3, .int .i64 p4, .int .i64 p5] := by
    rw [hW13]
    (repeat (first | (with_reducible assumption) | (with_reducible apply Blk.new) | (with_reducible exact blkAt _ _ _ _ (by simp; done)) | (with_reducible apply blk_st2) | (with_reducible apply blk_st4) | (with_reducible apply blk_st6) | (with_reducible apply blk_far (hne := by first | (with_reducible assumption) | omega)) | (with_reducible apply blk_up (hb := by assumption)) | (with_reducible apply Blk.alloc) | (with_reducible apply blk_drew)))
  have H13 : Blk W13 (u3.heap.size) 38 #[.int .i64 f0, .int .i64 f1, .int .i64 f2, .int .i64 f3, .int .i64 f4, .int .i64 f5] := by
    rw [hW13]
    (repeat (first | (with_reducible assumption) | (with_reducible apply Blk.new) | (with_reducible exact blkAt _ _ _ _ (by simp; done)) | (with_reducible apply blk_st2) | (with_reducible apply blk_st4) | (with_reducible apply blk_st6) | (with_reducible apply blk_far (hne := by first | (with_reducible assumption) | omega)) | (with_reducible apply blk_up (hb := by assumption)) | (with_reducible apply Blk.alloc) | (with_reducible apply blk_drew)))
  have I13 : Blk W13 (u4.heap.size) 38 #[.int .i64 f0, .int .i64 f1, .int .i64 f2, .int .i64 f3, .int .i64 f4, .int .i64 f5] := by
    rw [hW13]
    (repeat (first | (with_reducible assumption) | (with_reducible apply Blk.new) | (with_reducible exact blkAt _ _ _ _ (by simp; done)) | (with_reducible apply blk_st2) | (with_reducible apply blk_st4) | (with_reducible apply blk_st6) | (with_reducible apply blk_far (hne := by first | (with_reducible assumption) | omega)) | (with_reducible apply blk_up (hb := by assumption)) | (with_reducible apply Blk.alloc) | (with_reducible apply blk_drew)))
  clear hW13
  try clear qI12
  try clear pI12
  try clear qH12
  try clear pH12
  try clear qY12
  try clear pY12
  try clear qX12
  try clear pX12
  try clear qV12
  try clear pV12
  try clear qB12
  try clear pB12
  try clear qA12
  try clear pA12
  try clear hz12
  try clear hc12
  try clear hf12
  try clear d12
  try clear y12
  try clear k12
  try clear A12
  try clear B12
  try clear V12
  try clear X12
  try clear Y12
  try clear H12
  try clear I12
  try clear gA12
  try clear lA12
  try clear gB12
  try clear lB12
  try clear gV12
  try clear lV12
  try clear gX12
  try clear lX12
  try clear gY12
  try clear lY12
  try clear gH12
  try clear lH12
  try clear gI12
  try clear lI12
  have y13 := k13.size
  have gA13 := A13.lt
  have lA13 := Nat.le_of_lt gA13
  have gB13 := B13.lt
  have lB13 := Nat.le_of_lt gB13
  have gV13 := V13.lt
  have lV13 := Nat.le_of_lt gV13
  have gX13 := X13.lt
  have lX13 := Nat.le_of_lt gX13
  have gY13 := Y13.lt
  have lY13 := Nat.le_of_lt gY13
  have gH13 := H13.lt
  have lH13 := Nat.le_of_lt gH13
  have gI13 := I13.lt
  have lI13 := Nat.le_of_lt gI13
  have cH13_0 := H13.cell 0
  have cH13_1 := H13.cell 1
  have cH13_2 := H13.cell 2
  have cH13_3 := H13.cell 3
  have cH13_4 := H13.cell 4
  have cH13_5 := H13.cell 5
  simp only [List.getElem?_toArray, List.getElem?_cons_zero, List.getElem?_cons_succ] at cH13_0 cH13_1 cH13_2 cH13_3 cH13_4 cH13_5
  have fH13_0 := H13.frozen 0
  have fH13_1 := H13.frozen 1
  have fH13_2 := H13.frozen 2
  have fH13_3 := H13.frozen 3
  have fH13_4 := H13.frozen 4
  have fH13_5 := H13.frozen 5
  ((with_reducible refine (HAr.out _ (HP.out.up k13)).mono ?_); rintro e u13 ⟨rfl, d13⟩)
  obtain ⟨hz13, hc13, hf13⟩ := bcl d13 (by first | (simp; rfl) | rfl)
  have qA13 : w.heap.size < u13.heap.size := by omega
  have pA13 : w.heap.size ≤ u13.heap.size := by omega
  have qB13 : w.heap.size + 1 < u13.heap.size := by omega
  have pB13 : w.heap.size + 1 ≤ u13.heap.size := by omega
  have qV13 : w.heap.size + 1 + 1 < u13.heap.size := by omega
  have pV13 : w.heap.size + 1 + 1 ≤ u13.heap.size := by omega
  have qX13 : u1.heap.size < u13.heap.size := by omega
  have pX13 : u1.heap.size ≤ u13.heap.size := by omega
  have qY13 : u2.heap.size < u13.heap.size := by omega
  have pY13 : u2.heap.size ≤ u13.heap.size := by omega
  have qH13 : u3.heap.size < u13.heap.size := by omega
  have pH13 : u3.heap.size ≤ u13.heap.size := by omega
  have qI13 : u4.heap.size < u13.heap.size := by omega
  have pI13 : u4.heap.size ≤ u13.heap.size := by omega
  go_wp2_with fail
  refine calls_letter ?_
  intro W14 hW14
  have k14 : Below w.heap.size w W14 := by
    rw [hW14]
    (repeat (first | (with_reducible assumption) | (with_reducible exact bl_refl _) | (with_reducible refine bl_alloc ?_ _) | (with_reducible refine bl_drew ?_) | (with_reducible refine bl_set' ?_ ?_; · (dsimp only; first | assumption | exact Nat.le_refl _ | omega)) | (with_reducible refine bl_last (by assumption) ?_)))
  have A14 : Blk W14 (w.heap.size) 23 #[.int .i64 a0, .int .i64 a1, .int .i64 a2, .int .i64 a3, .int .i64 a4, .int .i64 a5] := by
    rw [hW14]
    (repeat (first | (with_reducible assumption) | (with_reducible apply Blk.new) | (with_reducible exact blkAt _ _ _ _ (by simp; done)) | (with_reducible apply blk_st2) | (with_reducible apply blk_st4) | (with_reducible apply blk_st6) | (with_reducible apply blk_far (hne := by first | (with_reducible assumption) | omega)) | (with_reducible apply blk_up (hb := by assumption)) | (with_reducible apply Blk.alloc) | (with_reducible apply blk_drew)))
  have B14 : Blk W14 (w.heap.size + 1) 23 #[.int .i64 b0, .int .i64 b1, .int .i64 b2, .int .i64 b3, .int .i64 b4, .int .i64 b5] := by
    rw [hW14]
    (repeat (first | (with_reducible assumption) | (with_reducible apply Blk.new) | (with_reducible exact blkAt _ _ _ _ (by simp; done)) | (with_reducible apply blk_st2) | (with_reducible apply blk_st4) | (with_reducible apply blk_st6) | (with_reducible apply blk_far (hne := by first | (with_reducible assumption) | omega)) | (with_reducible apply blk_up (hb := by assumption)) | (with_reducible apply Blk.alloc) | (with_reducible apply blk_drew)))
  have V14 : Blk W14 (w.heap.size + 1 + 1) 38 #[.int .i64 v0, .int .i64 v1, .int .i64 v2, .int .i64 v3, .int .i64 v4, .int .i64 v5] := by
    rw [hW14]
    (repeat (first | (with_reducible assumption) | (with_reducible apply Blk.new) | (with_reducible exact blkAt _ _ _ _ (by simp; done)) | (with_reducible apply blk_st2) | (with_reducible apply blk_st4) | (with_reducible apply blk_st6) | (with_reducible apply blk_far (hne := by first | (with_reducible assumption) | omega)) | (with_reducible apply blk_up (hb := by assumption)) | (with_reducible apply Blk.alloc) | (with_reducible apply blk_drew)))
  have X14 : Blk W14 (u1.heap.size) 23 #[.int .i64 p0, .int .i64 p1, .int .i64 p2, .int .i64 p3, .int .i64 p4, .int .i64 p5] := by
    rw [hW14]
    (repeat (first | (with_reducible assumption) | (with_reducible apply Blk.new) | (with_reducible exact blkAt _ _ _ _ (by simp; done)) | (with_reducible apply blk_st2) | (with_reducible apply blk_st4) | (with_reducible apply blk_st6) | (with_reducible apply blk_far (hne := by first | (with_reducible assumption) | omega)) | (with_reducible apply blk_up (hb := by assumption)) | (with_reducible apply Blk.alloc) | (with_reducible apply blk_drew)))
  have Y14 : Blk W14 (u2.heap.size) 23 #[.int .i64 p0, .int .i64 p1, .int .i64 p2, .int .i64 p3, .int .i64 p4, .int .i64 p5] := by
    rw [hW14]
    (repeat (first | (with_reducible assumption) | (with_reducible apply Blk.new) | (with_reducible exact blkAt _ _ _ _ (by simp; done)) | (with_reducible apply blk_st2) | (with_reducible apply blk_st4) | (with_reducible apply blk_st6) | (with_reducible apply blk_far (hne := by first | (with_reducible assumption) | omega)) | (with_reducible apply blk_up (hb := by assumption)) | (with_reducible apply Blk.alloc) | (with_reducible apply blk_drew)))
  have H14 : Blk W14 (u3.heap.size) 38 #[.int .i64 r0, .int .i64 r1, .int .i64 r2, .int .i64 r3, .int .i64 r4, .int .i64 r5] := by
    rw [hW14]
    (repeat (first | (with_reducible assumption) | (with_reducible apply Blk.new) | (with_reducible exact blkAt _ _ _ _ (by simp; done)) | (with_reducible apply blk_st2) | (with_reducible apply blk_st4) | (with_reducible apply blk_st6) | (with_reducible apply blk_far (hne := by first | (with_reducible assumption) | omega)) | (with_reducible apply blk_up (hb := by assumption)) | (with_reducible apply Blk.alloc) | (with_reducible apply blk_drew)))
  have I14 : Blk W14 (u4.heap.size) 38 #[.int .i64 f0, .int .i64 f1, .int .i64 f2, .int .i64 f3, .int .i64 f4, .int .i64 f5] := by
    rw [hW14]
    (repeat (first | (with_reducible assumption) | (with_reducible apply Blk.new) | (with_reducible exact blkAt _ _ _ _ (by simp; done)) | (with_reducible apply blk_st2) | (with_reducible apply blk_st4) | (with_reducible apply blk_st6) | (with_reducible apply blk_far (hne := by first | (with_reducible assumption) | omega)) | (with_reducible apply blk_up (hb := by assumption)) | (with_reducible apply Blk.alloc) | (with_reducible apply blk_drew)))
  clear hW14
  try clear qI13
  try clear pI13
  try clear qH13
  try clear pH13
  try clear qY13
  try clear pY13
  try clear qX13
  try clear pX13
  try clear qV13
  try clear pV13
  try clear qB13
  try clear pB13
  try clear qA13
  try clear pA13
  try clear hz13
  try clear hc13
  try clear hf13
  try clear d13
  try clear fH13_5
  try clear fH13_4
  try clear fH13_3
  try clear fH13_2
  try clear fH13_1
  try clear fH13_0
  try clear cH13_0
  try clear cH13_1
  try clear cH13_2
  try clear cH13_3
  try clear cH13_4
  try clear cH13_5
  try clear y13
  try clear k13
  try clear A13
  try clear B13
  try clear V13
  try clear X13
  try clear Y13
  try clear H13
  try clear I13
  try clear gA13
  try clear lA13
  try clear gB13
  try clear lB13
  try clear gV13
  try clear lV13
  try clear gX13
  try clear lX13
  try clear gY13
  try clear lY13
  try clear gH13
  try clear lH13
  try clear gI13
  try clear lI13
  have y14 := k14.size
  have gA14 := A14.lt
  have lA14 := Nat.le_of_lt gA14
  have gB14 := B14.lt
  have lB14 := Nat.le_of_lt gB14
  have gV14 := V14.lt
  have lV14 := Nat.le_of_lt gV14
  have gX14 := X14.lt
  have lX14 := Nat.le_of_lt gX14
  have gY14 := Y14.lt
  have lY14 := Nat.le_of_lt gY14
  have gH14 := H14.lt
  have lH14 := Nat.le_of_lt gH14
  have gI14 := I14.lt
  have lI14 := Nat.le_of_lt gI14
  have cH14_0 := H14.cell 0
  have cH14_1 := H14.cell 1
  have cH14_2 := H14.cell 2
  have cH14_3 := H14.cell 3
  have cH14_4 := H14.cell 4
  have cH14_5 := H14.cell 5
  simp only [List.getElem?_toArray, List.getElem?_cons_zero, List.getElem?_cons_succ] at cH14_0 cH14_1 cH14_2 cH14_3 cH14_4 cH14_5
  have cV14_0 := V14.cell 0
  have cV14_1 := V14.cell 1
  have cV14_2 := V14.cell 2
  have cV14_3 := V14.cell 3
  have cV14_4 := V14.cell 4
  have cV14_5 := V14.cell 5
  simp only [List.getElem?_toArray, List.getElem?_cons_zero, List.getElem?_cons_succ] at cV14_0 cV14_1 cV14_2 cV14_3 cV14_4 cV14_5
  have cI14_0 := I14.cell 0
  have cI14_1 := I14.cell 1
  have cI14_2 := I14.cell 2
  have cI14_3 := I14.cell 3
  have cI14_4 := I14.cell 4
  have cI14_5 := I14.cell 5
  simp only [List.getElem?_toArray, List.getElem?_cons_zero, List.getElem?_cons_succ] at cI14_0 cI14_1 cI14_2 cI14_3 cI14_4 cI14_5
  have fI14_0 := I14.frozen 0
  have fI14_1 := I14.frozen 1
  have fI14_2 := I14.frozen 2
  have fI14_3 := I14.frozen 3
  have fI14_4 := I14.frozen 4
  have fI14_5 := I14.frozen 5
  ((with_reducible refine (HBr.out _).mono ?_); rintro e u14 ⟨rfl, d14⟩)
  obtain ⟨hz14, hc14, hf14⟩ := bcl d14 (by first | (simp; rfl) | rfl)
  have qA14 : w.heap.size < u14.heap.size := by omega
  have pA14 : w.heap.size ≤ u14.heap.size := by omega
  have qB14 : w.heap.size + 1 < u14.heap.size := by omega
  have pB14 : w.heap.size + 1 ≤ u14.heap.size := by omega
  have qV14 : w.heap.size + 1 + 1 < u14.heap.size := by omega
  have pV14 : w.heap.size + 1 + 1 ≤ u14.heap.size := by omega
  have qX14 : u1.heap.size < u14.heap.size := by omega
  have pX14 : u1.heap.size ≤ u14.heap.size := by omega
  have qY14 : u2.heap.size < u14.heap.size := by omega
  have pY14 : u2.heap.size ≤ u14.heap.size := by omega
  have qH14 : u3.heap.size < u14.heap.size := by omega
  have pH14 : u3.heap.size ≤ u14.heap.size := by omega
  have qI14 : u4.heap.size < u14.heap.size := by omega
  have pI14 : u4.heap.size ≤ u14.heap.size := by omega
  go_wp2_with fail
  refine calls_letter ?_
  intro W15 hW15
  have k15 : Below w.heap.size w W15 := by
    rw [hW15]
    (repeat (first | (with_reducible assumption) | (with_reducible exact bl_refl _) | (with_reducible refine bl_alloc ?_ _) | (with_reducible refine bl_drew ?_) | (with_reducible refine bl_set' ?_ ?_; · (dsimp only; first | assumption | exact Nat.le_refl _ | omega)) | (with_reducible refine bl_last (by assumption) ?_)))
  have A15 : Blk W15 (w.heap.size) 23 #[.int .i64 a0, .int .i64 a1, .int .i64 a2, .int .i64 a3, .int .i64 a4, .int .i64 a5] := by
    rw [hW15]
    (repeat (first | (with_reducible assumption) | (with_reducible apply Blk.new) | (with_reducible exact blkAt _ _ _ _ (by simp; done)) | (with_reducible apply blk_st2) | (with_reducible apply blk_st4) | (with_reducible apply blk_st6) | (with_reducible apply blk_far (hne := by first | (with_reducible assumption) | omega)) | (with_reducible apply blk_up (hb := by assumption)) | (with_reducible apply Blk.alloc) | (with_reducible apply blk_drew)))
  have V15 : Blk W15 (w.heap.size + 1 + 1) 38 #[.int .i64 v0, .int .i64 v1, .int .i64 v2, .int .i64 v3, .int .i64 v4, .int .i64 v5] := by
    rw [hW15]
    (repeat (first | (with_reducible assumption) | (with_reducible apply Blk.new) | (with_reducible exact blkAt _ _ _ _ (by simp; done)) | (with_reducible apply blk_st2) | (with_reducible apply blk_st4) | (with_reducible apply blk_st6) | (with_reducible apply blk_far (hne := by first | (with_reducible assumption) | omega)) | (with_reducible apply blk_up (hb := by assumption)) | (with_reducible apply Blk.alloc) | (with_reducible apply blk_drew)))
  have X15 : Blk W15 (u1.heap.size) 23 #[.int .i64 p0, .int .i64 p1, .int .i64 p2, .int .i64 p3, .int .i64 p4, .int .i64 p5] := by
    rw [hW15]
    (repeat (first | (with_reducible assumption) | (with_reducible apply Blk.new) | (with_reducible exact blkAt _ _ _ _ (by simp; done)) | (with_reducible apply blk_st2) | (with_reducible apply blk_st4) | (with_reducible apply blk_st6) | (with_reducible apply blk_far (hne := by first | (with_reducible assumption) | omega)) | (with_reducible apply blk_up (hb := by assumption)) | (with_reducible apply Blk.alloc) | (with_reducible apply blk_drew)))
  have Y15 : Blk W15 (u2.heap.size) 23 #[.int .i64 p0, .int .i64 p1, .int .i64 p2, .int .i64 p3, .int .i64 p4, .int .i64 p5] := by
    rw [hW15]
    (repeat (first | (with_reducible assumption) | (with_reducible apply Blk.new) | (with_reducible exact blkAt _ _ _ _ (by simp; done)) | (with_reducible apply blk_st2) | (with_reducible apply blk_st4) | (with_reducible apply blk_st6) | (with_reducible apply blk_far (hne := by first | (with_reducible assumption) | omega)) | (with_reducible apply blk_up (hb := by assumption)) | (with_reducible apply Blk.alloc) | (with_reducible apply blk_drew)))
  clear hW15
  try clear qI14
  try clear pI14
  try clear qH14
  try clear pH14
  try clear qY14
  try clear pY14
  try clear qX14
  try clear pX14
  try clear qV14
  try clear pV14
  try clear qB14
  try clear pB14
  try clear qA14
  try clear pA14
  try clear hz14
  try clear hc14
  try clear hf14
  try clear d14
  try clear fI14_5
  try clear fI14_4
  try clear fI14_3
  try clear fI14_2
  try clear fI14_1
  try clear fI14_0
  try clear cI14_0
  try clear cI14_1
  try clear cI14_2
  try clear cI14_3
  try clear cI14_4
  try clear cI14_5
  try clear cV14_0
  try clear cV14_1
  try clear cV14_2
  try clear cV14_3
  try clear cV14_4
  try clear cV14_5
  try clear cH14_0
  try clear cH14_1
  try clear cH14_2
  try clear cH14_3
  try clear cH14_4
  try clear cH14_5
  try clear y14
  try clear k14
  try clear A14
  try clear B14
  try clear V14
  try clear X14
  try clear Y14
  try clear H14
  try clear I14
  try clear gA14
  try clear lA14
  try clear gB14
  try clear lB14
  try clear gV14
  try clear lV14
  try clear gX14
  try clear lX14
  try clear gY14
  try clear lY14
  try clear gH14
  try clear lH14
  try clear gI14
  try clear lI14
  have y15 := k15.size
  have gA15 := A15.lt
  have lA15 := Nat.le_of_lt gA15
  have gV15 := V15.lt
  have lV15 := Nat.le_of_lt gV15
  have gX15 := X15.lt
  have lX15 := Nat.le_of_lt gX15
  have gY15 := Y15.lt
  have lY15 := Nat.le_of_lt gY15
  have cV15_0 := V15.cell 0
  have cV15_1 := V15.cell 1
  have cV15_2 := V15.cell 2
  have cV15_3 := V15.cell 3
  have cV15_4 := V15.cell 4
  have cV15_5 := V15.cell 5
  simp only [List.getElem?_toArray, List.getElem?_cons_zero, List.getElem?_cons_succ] at cV15_0 cV15_1 cV15_2 cV15_3 cV15_4 cV15_5
  clear HAo HBo HAf HBf HAm HBm HAt HBt HAp HBp HAc HBc HAr HBr
  rcases HPV.out with pv | pv
  · ((with_reducible refine (HF1.out _ (HP.out.up k15)).mono ?_); intro en u15 hF)
    obtain ⟨d15, q15, n15, r15, m15, _, _, rfl, N15, l15, M15, t15⟩ := fr_yes' hF pv
    clear hF
    obtain ⟨hz15a, hc15a, hf15a⟩ := bcl d15 (by first | (simp; rfl) | rfl)
    have k15a := bl_last d15 k15
    have A15a := blk_up A15 d15
    have V15a := blk_up V15 d15
    have X15a := blk_up X15 d15
    have Y15a := blk_up Y15 d15
    have lv15 := V15a.lt
    have cv0 := V15a.cell 0
    have cv1 := V15a.cell 1
    have cv2 := V15a.cell 2
    have cv3 := V15a.cell 3
    have cv4 := V15a.cell 4
    have cv5 := V15a.cell 5
    simp only [List.getElem?_toArray, List.getElem?_cons_zero, List.getElem?_cons_succ] at cv0 cv1 cv2 cv3 cv4 cv5
    go_wp2_with fail
    ((with_reducible refine (HF2.out _).mono ?_); intro en u16 hF)
    obtain ⟨d16, q16, n16, x16, r16, m16, y16, rfl, N16, l16, M16, t16⟩ := rfr_yes hF pv
    clear hF
    obtain ⟨hz16a, hc16a, hf16a⟩ := bcl d16 (by first | (simp; rfl) | rfl)
    have k16a := bl_last d16 k15a
    have A16a := blk_up A15a d16
    have V16a := blk_up V15a d16
    have X16a := blk_up X15a d16
    have Y16a := blk_up Y15a d16
    have N16a := N15.up d16
    have M16a := M15.up d16
    go_wp2_with fail
    ((with_reducible refine (RSame_c _ _ _ _ _ _ _ _ N16a N16 l15).mono ?_); rintro en u17 ⟨rfl, d17⟩)
    obtain ⟨hz17a, hc17a, hf17a⟩ := bcl d17 (by first | (simp; rfl) | rfl)
    have k17a := bl_last d17 k16a
    have A17a := blk_up A16a d17
    have V17a := blk_up V16a d17
    have X17a := blk_up X16a d17
    have Y17a := blk_up Y16a d17
    have M17a := M16a.up d17
    have M17b := M16.up d17
    go_wp2_with fail
    ((with_reducible refine (RSame_c _ _ _ _ _ _ _ _ M17a M17b t15).mono ?_); rintro en u18 ⟨rfl, d18⟩)
    obtain ⟨hz18a, hc18a, hf18a⟩ := bcl d18 (by first | (simp; rfl) | rfl)
    have k18a := bl_last d18 k17a
    have A18a := blk_up A17a d18
    have V18a := blk_up V17a d18
    have X18a := blk_up X17a d18
    have Y18a := blk_up Y17a d18
    clear k15a k16a k17a A15a A16a A17a V15a V16a V17a X15a X16a X17a Y15a Y16a Y17a
    try clear cV15_0
    try clear cV15_1
    try clear cV15_2
    try clear cV15_3
    try clear cV15_4
    try clear cV15_5
    try clear y15
    try clear k15
    try clear A15
    try clear V15
    try clear X15
    try clear Y15
    try clear gA15
    try clear lA15
    try clear gV15
    try clear lV15
    try clear gX15
    try clear lX15
    try clear gY15
    try clear lY15
    clear N15 M15 N16 M16 N16a M16a M17a M17b
    clear hz15a hc15a hf15a hz16a hc16a hf16a hz17a hc17a hf17a hz18a hc18a hf18a d15 d16 d17 d18 cv0 cv1 cv2 cv3 cv4 cv5 lv15
    have gA18a := A18a.lt
    have lA18a := Nat.le_of_lt gA18a
    have gV18a := V18a.lt
    have lV18a := Nat.le_of_lt gV18a
    have gX18a := X18a.lt
    have lX18a := Nat.le_of_lt gX18a
    have gY18a := Y18a.lt
    have lY18a := Nat.le_of_lt gY18a
    have cA18a_0 := A18a.cell 0
    have cA18a_1 := A18a.cell 1
    have cA18a_2 := A18a.cell 2
    have cA18a_3 := A18a.cell 3
    have cA18a_4 := A18a.cell 4
    have cA18a_5 := A18a.cell 5
    simp only [List.getElem?_toArray, List.getElem?_cons_zero, List.getElem?_cons_succ] at cA18a_0 cA18a_1 cA18a_2 cA18a_3 cA18a_4 cA18a_5
    have y18a := k18a.size
    go_wp2_with fail
    refine calls_letter ?_
    intro W19 hW19
    have k19 : Below w.heap.size w W19 := by
      rw [hW19]
      (repeat (first | (with_reducible assumption) | (with_reducible exact bl_refl _) | (with_reducible refine bl_alloc ?_ _) | (with_reducible refine bl_drew ?_) | (with_reducible refine bl_set' ?_ ?_; · (dsimp only; first | assumption | exact Nat.le_refl _ | omega)) | (with_reducible refine bl_last (by assumption) ?_)))
    have A19 : Blk W19 (w.heap.size) 23 #[.int .i64 a0, .int .i64 a1, .int .i64 a2, .int .i64 a3, .int .i64 a4, .int .i64 a5] := by
      rw [hW19]
      (repeat (first | (with_reducible assumption) | (with_reducible apply Blk.new) | (with_reducible exact blkAt _ _ _ _ (by simp; done)) | (with_reducible apply blk_st2) | (with_reducible apply blk_st4) | (with_reducible apply blk_st6) | (with_reducible apply blk_far (hne := by first | (with_reducible assumption) | omega)) | (with_reducible apply blk_up (hb := by assumption)) | (with_reducible apply Blk.alloc) | (with_reducible apply blk_drew)))
    have X19 : Blk W19 (u1.heap.size) 23 #[.int .i64 p0, .int .i64 p1, .int .i64 p2, .int .i64 p3, .int .i64 p4, .int .i64 p5] := by
      rw [hW19]
      (repeat (first | (with_reducible assumption) | (with_reducible apply Blk.new) | (with_reducible exact blkAt _ _ _ _ (by simp; done)) | (with_reducible apply blk_st2) | (with_reducible apply blk_st4) | (with_reducible apply blk_st6) | (with_reducible apply blk_far (hne := by first | (with_reducible assumption) | omega)) | (with_reducible apply blk_up (hb := by assumption)) | (with_reducible apply Blk.alloc) | (with_reducible apply blk_drew)))
    have Y19 : Blk W19 (u2.heap.size) 23 #[.int .i64 p0, .int .i64 p1, .int .i64 p2, .int .i64 p3, .int .i64 p4, .int .i64 p5] := by
      rw [hW19]
      (repeat (first | (with_reducible assumption) | (with_reducible apply Blk.new) | (with_reducible exact blkAt _ _ _ _ (by simp; done)) | (with_reducible apply blk_st2) | (with_reducible apply blk_st4) | (with_reducible apply blk_st6) | (with_reducible apply blk_far (hne := by first | (with_reducible assumption) | omega)) | (with_reducible apply blk_up (hb := by assumption)) | (with_reducible apply Blk.alloc) | (with_reducible apply blk_drew)))
    clear hW19
    try clear cA18a_0
    try clear cA18a_1
    try clear cA18a_2
    try clear cA18a_3
    try clear cA18a_4
    try clear cA18a_5
    try clear k18a
    try clear A18a
    try clear V18a
    try clear X18a
    try clear Y18a
    try clear hz15a
    try clear hc15a
    try clear hf15a
    try clear hz16a
    try clear hc16a
    try clear hf16a
    try clear hz17a
    try clear hc17a
    try clear hf17a
    try clear hz18a
    try clear hc18a
    try clear hf18a
    try clear d15
    try clear d16
    try clear d17
    try clear d18
    try clear cv0
    try clear cv1
    try clear cv2
    try clear cv3
    try clear cv4
    try clear cv5
    try clear lv15
    try clear gA18a
    try clear lA18a
    try clear gV18a
    try clear lV18a
    try clear gX18a
    try clear lX18a
    try clear gY18a
    try clear lY18a
    try clear y18a
    have y19 := k19.size
    have gA19 := A19.lt
    have lA19 := Nat.le_of_lt gA19
    have gX19 := X19.lt
    have lX19 := Nat.le_of_lt gX19
    have gY19 := Y19.lt
    have lY19 := Nat.le_of_lt gY19
    have cA19_0 := A19.cell 0
    have cA19_1 := A19.cell 1
    have cA19_2 := A19.cell 2
    have cA19_3 := A19.cell 3
    have cA19_4 := A19.cell 4
    have cA19_5 := A19.cell 5
    simp only [List.getElem?_toArray, List.getElem?_cons_zero, List.getElem?_cons_succ] at cA19_0 cA19_1 cA19_2 cA19_3 cA19_4 cA19_5
    ((with_reducible refine (HAx.out _ (HP.out.up k19) (tab_up HQ.out k19)).mono ?_); rintro e u19 ⟨rfl, d19⟩)
    obtain ⟨hz19, hc19, hf19⟩ := bcl d19 (by first | (simp; rfl) | rfl)
    have qA19 : w.heap.size < u19.heap.size := by omega
    have pA19 : w.heap.size ≤ u19.heap.size := by omega
    have qX19 : u1.heap.size < u19.heap.size := by omega
    have pX19 : u1.heap.size ≤ u19.heap.size := by omega
    have qY19 : u2.heap.size < u19.heap.size := by omega
    have pY19 : u2.heap.size ≤ u19.heap.size := by omega
    go_wp2_with fail
    refine calls_letter ?_
    intro W20 hW20
    have k20 : Below w.heap.size w W20 := by
      rw [hW20]
      (repeat (first | (with_reducible assumption) | (with_reducible exact bl_refl _) | (with_reducible refine bl_alloc ?_ _) | (with_reducible refine bl_drew ?_) | (with_reducible refine bl_set' ?_ ?_; · (dsimp only; first | assumption | exact Nat.le_refl _ | omega)) | (with_reducible refine bl_last (by assumption) ?_)))
    have A20 : Blk W20 (w.heap.size) 23 #[.int .i64 a0, .int .i64 a1, .int .i64 a2, .int .i64 a3, .int .i64 a4, .int .i64 a5] := by
      rw [hW20]
      (repeat (first | (with_reducible assumption) | (with_reducible apply Blk.new) | (with_reducible exact blkAt _ _ _ _ (by simp; done)) | (with_reducible apply blk_st2) | (with_reducible apply blk_st4) | (with_reducible apply blk_st6) | (with_reducible apply blk_far (hne := by first | (with_reducible assumption) | omega)) | (with_reducible apply blk_up (hb := by assumption)) | (with_reducible apply Blk.alloc) | (with_reducible apply blk_drew)))
    have X20 : Blk W20 (u1.heap.size) 23 #[.int .i64 p0, .int .i64 p1, .int .i64 p2, .int .i64 p3, .int .i64 p4, .int .i64 p5] := by
      rw [hW20]
      (repeat (first | (with_reducible assumption) | (with_reducible apply Blk.new) | (with_reducible exact blkAt _ _ _ _ (by simp; done)) | (with_reducible apply blk_st2) | (with_reducible apply blk_st4) | (with_reducible apply blk_st6) | (with_reducible apply blk_far (hne := by first | (with_reducible assumption) | omega)) | (with_reducible apply blk_up (hb := by assumption)) | (with_reducible apply Blk.alloc) | (with_reducible apply blk_drew)))
    have Y20 : Blk W20 (u2.heap.size) 23 #[.int .i64 p0, .int .i64 p1, .int .i64 p2, .int .i64 p3, .int .i64 p4, .int .i64 p5] := by
      rw [hW20]
      (repeat (first | (with_reducible assumption) | (with_reducible apply Blk.new) | (with_reducible exact blkAt _ _ _ _ (by simp; done)) | (with_reducible apply blk_st2) | (with_reducible apply blk_st4) | (with_reducible apply blk_st6) | (with_reducible apply blk_far (hne := by first | (with_reducible assumption) | omega)) | (with_reducible apply blk_up (hb := by assumption)) | (with_reducible apply Blk.alloc) | (with_reducible apply blk_drew)))
    clear hW20
    try clear qY19
    try clear pY19
    try clear qX19
    try clear pX19
    try clear qA19
    try clear pA19
    try clear hz19
    try clear hc19
    try clear hf19
    try clear d19
    try clear cA19_0
    try clear cA19_1
    try clear cA19_2
    try clear cA19_3
    try clear cA19_4
    try clear cA19_5
    try clear y19
    try clear k19
    try clear A19
    try clear X19
    try clear Y19
    try clear gA19
    try clear lA19
    try clear gX19
    try clear lX19
    try clear gY19
    try clear lY19
    have y20 := k20.size
    have gA20 := A20.lt
    have lA20 := Nat.le_of_lt gA20
    have gX20 := X20.lt
    have lX20 := Nat.le_of_lt gX20
    have gY20 := Y20.lt
    have lY20 := Nat.le_of_lt gY20
    ((with_reducible refine (HBx.out _).mono ?_); rintro e u20 ⟨rfl, d20⟩)
    obtain ⟨hz20, hc20, hf20⟩ := bcl d20 (by first | (simp; rfl) | rfl)
    have qA20 : w.heap.size < u20.heap.size := by omega
    have pA20 : w.heap.size ≤ u20.heap.size := by omega
    have qX20 : u1.heap.size < u20.heap.size := by omega
    have pX20 : u1.heap.size ≤ u20.heap.size := by omega
    have qY20 : u2.heap.size < u20.heap.size := by omega
    have pY20 : u2.heap.size ≤ u20.heap.size := by omega
    rcases Nat.lt_or_ge 200 s.size with hz | hz
    · have hz2 : (200 : Int) < (s.size : Int) := by omega
      go_wp2_with fail
      go_ret
      refine ⟨rfl, ?_⟩
      (repeat (first | (with_reducible exact bl_refl _) | (with_reducible refine bl_drew ?_) | (with_reducible refine bl_alloc ?_ _) | (with_reducible refine bl_set' ?_ ?_; · (first | omega | (simp; done) | (simp; omega))) | (with_reducible refine bl_last (by assumption) ?_) | (with_reducible refine bl_drewN ?_ _)))
    · have hz2 : ¬ (200 : Int) < (s.size : Int) := by omega
      go_wp2_with fail
      refine calls_letter ?_
      intro W21 hW21
      have k21 : Below w.heap.size w W21 := by
        rw [hW21]
        (repeat (first | (with_reducible assumption) | (with_reducible exact bl_refl _) | (with_reducible refine bl_alloc ?_ _) | (with_reducible refine bl_drew ?_) | (with_reducible refine bl_set' ?_ ?_; · (dsimp only; first | assumption | exact Nat.le_refl _ | omega)) | (with_reducible refine bl_last (by assumption) ?_)))
      have X21 : Blk W21 (u1.heap.size) 23 #[.int .i64 p0, .int .i64 p1, .int .i64 p2, .int .i64 p3, .int .i64 p4, .int .i64 p5] := by
        rw [hW21]
        (repeat (first | (with_reducible assumption) | (with_reducible apply Blk.new) | (with_reducible exact blkAt _ _ _ _ (by simp; done)) | (with_reducible apply blk_st2) | (with_reducible apply blk_st4) | (with_reducible apply blk_st6) | (with_reducible apply blk_far (hne := by first | (with_reducible assumption) | omega)) | (with_reducible apply blk_up (hb := by assumption)) | (with_reducible apply Blk.alloc) | (with_reducible apply blk_drew)))
      have Y21 : Blk W21 (u2.heap.size) 23 #[.int .i64 p0, .int .i64 p1, .int .i64 p2, .int .i64 p3, .int .i64 p4, .int .i64 p5] := by
        rw [hW21]
        (repeat (first | (with_reducible assumption) | (with_reducible apply Blk.new) | (with_reducible exact blkAt _ _ _ _ (by simp; done)) | (with_reducible apply blk_st2) | (with_reducible apply blk_st4) | (with_reducible apply blk_st6) | (with_reducible apply blk_far (hne := by first | (with_reducible assumption) | omega)) | (with_reducible apply blk_up (hb := by assumption)) | (with_reducible apply Blk.alloc) | (with_reducible apply blk_drew)))
      clear hW21
      try clear qY20
      try clear pY20
      try clear qX20
      try clear pX20
      try clear qA20
      try clear pA20
      try clear hz20
      try clear hc20
      try clear hf20
      try clear d20
      try clear y20
      try clear k20
      try clear A20
      try clear X20
      try clear Y20
      try clear gA20
      try clear lA20
      try clear gX20
      try clear lX20
      try clear gY20
      try clear lY20
      have y21 := k21.size
      have gX21 := X21.lt
      have lX21 := Nat.le_of_lt gX21
      have gY21 := Y21.lt
      have lY21 := Nat.le_of_lt gY21
      have cX21_0 := X21.cell 0
      have cX21_1 := X21.cell 1
      have cX21_2 := X21.cell 2
      have cX21_3 := X21.cell 3
      have cX21_4 := X21.cell 4
      have cX21_5 := X21.cell 5
      simp only [List.getElem?_toArray, List.getElem?_cons_zero, List.getElem?_cons_succ] at cX21_0 cX21_1 cX21_2 cX21_3 cX21_4 cX21_5
      have fX21_0 := X21.frozen 0
      have fX21_1 := X21.frozen 1
      have fX21_2 := X21.frozen 2
      have fX21_3 := X21.frozen 3
      have fX21_4 := X21.frozen 4
      have fX21_5 := X21.frozen 5
      ((with_reducible refine (HAq.out _ hz (HP.out.up k21) (tab_up HQ.out k21)).mono ?_); rintro e u21 ⟨rfl, d21⟩)
      obtain ⟨hz21, hc21, hf21⟩ := bcl d21 (by first | (simp; rfl) | rfl)
      have qX21 : u1.heap.size < u21.heap.size := by omega
      have pX21 : u1.heap.size ≤ u21.heap.size := by omega
      have qY21 : u2.heap.size < u21.heap.size := by omega
      have pY21 : u2.heap.size ≤ u21.heap.size := by omega
      go_wp2_with fail
      refine calls_letter ?_
      intro W22 hW22
      have k22 : Below w.heap.size w W22 := by
        rw [hW22]
        (repeat (first | (with_reducible assumption) | (with_reducible exact bl_refl _) | (with_reducible refine bl_alloc ?_ _) | (with_reducible refine bl_drew ?_) | (with_reducible refine bl_set' ?_ ?_; · (dsimp only; first | assumption | exact Nat.le_refl _ | omega)) | (with_reducible refine bl_last (by assumption) ?_)))
      have X22 : Blk W22 (u1.heap.size) 23 #[.int .i64 q0, .int .i64 q1, .int .i64 q2, .int .i64 q3, .int .i64 q4, .int .i64 q5] := by
        rw [hW22]
        (repeat (first | (with_reducible assumption) | (with_reducible apply Blk.new) | (with_reducible exact blkAt _ _ _ _ (by simp; done)) | (with_reducible apply blk_st2) | (with_reducible apply blk_st4) | (with_reducible apply blk_st6) | (with_reducible apply blk_far (hne := by first | (with_reducible assumption) | omega)) | (with_reducible apply blk_up (hb := by assumption)) | (with_reducible apply Blk.alloc) | (with_reducible apply blk_drew)))
      have Y22 : Blk W22 (u2.heap.size) 23 #[.int .i64 p0, .int .i64 p1, .int .i64 p2, .int .i64 p3, .int .i64 p4, .int .i64 p5] := by
        rw [hW22]
        (repeat (first | (with_reducible assumption) | (with_reducible apply Blk.new) | (with_reducible exact blkAt _ _ _ _ (by simp; done)) | (with_reducible apply blk_st2) | (with_reducible apply blk_st4) | (with_reducible apply blk_st6) | (with_reducible apply blk_far (hne := by first | (with_reducible assumption) | omega)) | (with_reducible apply blk_up (hb := by assumption)) | (with_reducible apply Blk.alloc) | (with_reducible apply blk_drew)))
      clear hW22
      try clear qY21
      try clear pY21
      try clear qX21
      try clear pX21
      try clear hz21
      try clear hc21
      try clear hf21
      try clear d21
      try clear fX21_5
      try clear fX21_4
      try clear fX21_3
      try clear fX21_2
      try clear fX21_1
      try clear fX21_0
      try clear cX21_0
      try clear cX21_1
      try clear cX21_2
      try clear cX21_3
      try clear cX21_4
      try clear cX21_5
      try clear y21
      try clear k21
      try clear X21
      try clear Y21
      try clear gX21
      try clear lX21
      try clear gY21
      try clear lY21
      have y22 := k22.size
      have gX22 := X22.lt
      have lX22 := Nat.le_of_lt gX22
      have gY22 := Y22.lt
      have lY22 := Nat.le_of_lt gY22
      have cX22_0 := X22.cell 0
      have cX22_1 := X22.cell 1
      have cX22_2 := X22.cell 2
      have cX22_3 := X22.cell 3
      have cX22_4 := X22.cell 4
      have cX22_5 := X22.cell 5
      simp only [List.getElem?_toArray, List.getElem?_cons_zero, List.getElem?_cons_succ] at cX22_0 cX22_1 cX22_2 cX22_3 cX22_4 cX22_5
      have cY22_0 := Y22.cell 0
      have cY22_1 := Y22.cell 1
      have cY22_2 := Y22.cell 2
      have cY22_3 := Y22.cell 3
      have cY22_4 := Y22.cell 4
      have cY22_5 := Y22.cell 5
      simp only [List.getElem?_toArray, List.getElem?_cons_zero, List.getElem?_cons_succ] at cY22_0 cY22_1 cY22_2 cY22_3 cY22_4 cY22_5
      have fY22_0 := Y22.frozen 0
      have fY22_1 := Y22.frozen 1
      have fY22_2 := Y22.frozen 2
      have fY22_3 := Y22.frozen 3
      have fY22_4 := Y22.frozen 4
      have fY22_5 := Y22.frozen 5
      ((with_reducible refine (HBq.out _ hz).mono ?_); rintro e u22 ⟨rfl, d22⟩)
      obtain ⟨hz22, hc22, hf22⟩ := bcl d22 (by first | (simp; rfl) | rfl)
      have qX22 : u1.heap.size < u22.heap.size := by omega
      have pX22 : u1.heap.size ≤ u22.heap.size := by omega
      have qY22 : u2.heap.size < u22.heap.size := by omega
      have pY22 : u2.heap.size ≤ u22.heap.size := by omega
      go_wp2_with fail
      go_ret
      refine ⟨rfl, ?_⟩
      (repeat (first | (with_reducible exact bl_refl _) | (with_reducible refine bl_drew ?_) | (with_reducible refine bl_alloc ?_ _) | (with_reducible refine bl_set' ?_ ?_; · (first | omega | (simp; done) | (simp; omega))) | (with_reducible refine bl_last (by assumption) ?_) | (with_reducible refine bl_drewN ?_ _)))
  · ((with_reducible refine (HF1.out _ (HP.out.up k15)).mono ?_); intro en u15 hF)
    obtain ⟨d15, rfl⟩ := fr_no' hF pv
    clear hF
    obtain ⟨hz15a, hc15a, hf15a⟩ := bcl d15 (by first | (simp; rfl) | rfl)
    have k15a := bl_last d15 k15
    have A15a := blk_up A15 d15
    have V15a := blk_up V15 d15
    have X15a := blk_up X15 d15
    have Y15a := blk_up Y15 d15
    have lv15 := V15a.lt
    have cv0 := V15a.cell 0
    have cv1 := V15a.cell 1
    have cv2 := V15a.cell 2
    have cv3 := V15a.cell 3
    have cv4 := V15a.cell 4
    have cv5 := V15a.cell 5
    simp only [List.getElem?_toArray, List.getElem?_cons_zero, List.getElem?_cons_succ] at cv0 cv1 cv2 cv3 cv4 cv5
    go_wp2_with fail
    ((with_reducible refine (HF2.out _).mono ?_); intro en u16 hF)
    obtain ⟨d16, rfl⟩ := rfr_no hF pv
    clear hF
    obtain ⟨hz16a, hc16a, hf16a⟩ := bcl d16 (by first | (simp; rfl) | rfl)
    have k16a := bl_last d16 k15a
    have A16a := blk_up A15a d16
    have V16a := blk_up V15a d16
    have X16a := blk_up X15a d16
    have Y16a := blk_up Y15a d16
    go_wp2_with fail
    ((with_reducible refine (RSameNil_c _).mono ?_); rintro en u17 ⟨rfl, d17⟩)
    obtain ⟨hz17a, hc17a, hf17a⟩ := bcl d17 (by first | (simp; rfl) | rfl)
    have k17a := bl_last d17 k16a
    have A17a := blk_up A16a d17
    have V17a := blk_up V16a d17
    have X17a := blk_up X16a d17
    have Y17a := blk_up Y16a d17
    go_wp2_with fail
    ((with_reducible refine (RSameNil_c _).mono ?_); rintro en u18 ⟨rfl, d18⟩)
    obtain ⟨hz18a, hc18a, hf18a⟩ := bcl d18 (by first | (simp; rfl) | rfl)
    have k18a := bl_last d18 k17a
    have A18a := blk_up A17a d18
    have V18a := blk_up V17a d18
    have X18a := blk_up X17a d18
    have Y18a := blk_up Y17a d18
    clear k15a k16a k17a A15a A16a A17a V15a V16a V17a X15a X16a X17a Y15a Y16a Y17a
    try clear cV15_0
    try clear cV15_1
    try clear cV15_2
    try clear cV15_3
    try clear cV15_4
    try clear cV15_5
    try clear y15
    try clear k15
    try clear A15
    try clear V15
    try clear X15
    try clear Y15
    try clear gA15
    try clear lA15
    try clear gV15
    try clear lV15
    try clear gX15
    try clear lX15
    try clear gY15
    try clear lY15
    clear hz15a hc15a hf15a hz16a hc16a hf16a hz17a hc17a hf17a hz18a hc18a hf18a d15 d16 d17 d18 cv0 cv1 cv2 cv3 cv4 cv5 lv15
    have gA18a := A18a.lt
    have lA18a := Nat.le_of_lt gA18a
    have gV18a := V18a.lt
    have lV18a := Nat.le_of_lt gV18a
    have gX18a := X18a.lt
    have lX18a := Nat.le_of_lt gX18a
    have gY18a := Y18a.lt
    have lY18a := Nat.le_of_lt gY18a
    have cA18a_0 := A18a.cell 0
    have cA18a_1 := A18a.cell 1
    have cA18a_2 := A18a.cell 2
    have cA18a_3 := A18a.cell 3
    have cA18a_4 := A18a.cell 4
    have cA18a_5 := A18a.cell 5
    simp only [List.getElem?_toArray, List.getElem?_cons_zero, List.getElem?_cons_succ] at cA18a_0 cA18a_1 cA18a_2 cA18a_3 cA18a_4 cA18a_5
    have y18a := k18a.size
    go_wp2_with fail
    refine calls_letter ?_
    intro W19 hW19
    have k19 : Below w.heap.size w W19 := by
      rw [hW19]
      (repeat (first | (with_reducible assumption) | (with_reducible exact bl_refl _) | (with_reducible refine bl_alloc ?_ _) | (with_reducible refine bl_drew ?_) | (with_reducible refine bl_set' ?_ ?_; · (dsimp only; first | assumption | exact Nat.le_refl _ | omega)) | (with_reducible refine bl_last (by assumption) ?_)))
    have A19 : Blk W19 (w.heap.size) 23 #[.int .i64 a0, .int .i64 a1, .int .i64 a2, .int .i64 a3, .int .i64 a4, .int .i64 a5] := by
      rw [hW19]
      (repeat (first | (with_reducible assumption) | (with_reducible apply Blk.new) | (with_reducible exact blkAt _ _ _ _ (by simp; done)) | (with_reducible apply blk_st2) | (with_reducible apply blk_st4) | (with_reducible apply blk_st6) | (with_reducible apply blk_far (hne := by first | (with_reducible assumption) | omega)) | (with_reducible apply blk_up (hb := by assumption)) | (with_reducible apply Blk.alloc) | (with_reducible apply blk_drew)))
    have X19 : Blk W19 (u1.heap.size) 23 #[.int .i64 p0, .int .i64 p1, .int .i64 p2, .int .i64 p3, .int .i64 p4, .int .i64 p5] := by
      rw [hW19]
      (repeat (first | (with_reducible assumption) | (with_reducible apply Blk.new) | (with_reducible exact blkAt _ _ _ _ (by simp; done)) | (with_reducible apply blk_st2) | (with_reducible apply blk_st4) | (with_reducible apply blk_st6) | (with_reducible apply blk_far (hne := by first | (with_reducible assumption) | omega)) | (with_reducible apply blk_up (hb := by assumption)) | (with_reducible apply Blk.alloc) | (with_reducible apply blk_drew)))
    have Y19 : Blk W19 (u2.heap.size) 23 #[.int .i64 p0, .int .i64 p1, .int .i64 p2, .int .i64 p3, .int .i64 p4, .int .i64 p5] := by
      rw [hW19]
      (repeat (first | (with_reducible assumption) | (with_reducible apply Blk.new) | (with_reducible exact blkAt _ _ _ _ (by simp; done)) | (with_reducible apply blk_st2) | (with_reducible apply blk_st4) | (with_reducible apply blk_st6) | (with_reducible apply blk_far (hne := by first | (with_reducible assumption) | omega)) | (with_reducible apply blk_up (hb := by assumption)) | (with_reducible apply Blk.alloc) | (with_reducible apply blk_drew)))
    clear hW19
    try clear cA18a_0
    try clear cA18a_1
    try clear cA18a_2
    try clear cA18a_3
    try clear cA18a_4
    try clear cA18a_5
    try clear k18a
    try clear A18a
    try clear V18a
    try clear X18a
    try clear Y18a
    try clear hz15a
    try clear hc15a
    try clear hf15a
    try clear hz16a
    try clear hc16a
    try clear hf16a
    try clear hz17a
    try clear hc17a
    try clear hf17a
    try clear hz18a
    try clear hc18a
    try clear hf18a
    try clear d15
    try clear d16
    try clear d17
    try clear d18
    try clear cv0
    try clear cv1
    try clear cv2
    try clear cv3
    try clear cv4
    try clear cv5
    try clear lv15
    try clear gA18a
    try clear lA18a
    try clear gV18a
    try clear lV18a
    try clear gX18a
    try clear lX18a
    try clear gY18a
    try clear lY18a
    try clear y18a
    have y19 := k19.size
    have gA19 := A19.lt
    have lA19 := Nat.le_of_lt gA19
    have gX19 := X19.lt
    have lX19 := Nat.le_of_lt gX19
    have gY19 := Y19.lt
    have lY19 := Nat.le_of_lt gY19
    have cA19_0 := A19.cell 0
    have cA19_1 := A19.cell 1
    have cA19_2 := A19.cell 2
    have cA19_3 := A19.cell 3
    have cA19_4 := A19.cell 4
    have cA19_5 := A19.cell 5
    simp only [List.getElem?_toArray, List.getElem?_cons_zero, List.getElem?_cons_succ] at cA19_0 cA19_1 cA19_2 cA19_3 cA19_4 cA19_5
    ((with_reducible refine (HAx.out _ (HP.out.up k19) (tab_up HQ.out k19)).mono ?_); rintro e u19 ⟨rfl, d19⟩)
    obtain ⟨hz19, hc19, hf19⟩ := bcl d19 (by first | (simp; rfl) | rfl)
    have qA19 : w.heap.size < u19.heap.size := by omega
    have pA19 : w.heap.size ≤ u19.heap.size := by omega
    have qX19 : u1.heap.size < u19.heap.size := by omega
    have pX19 : u1.heap.size ≤ u19.heap.size := by omega
    have qY19 : u2.heap.size < u19.heap.size := by omega
    have pY19 : u2.heap.size ≤ u19.heap.size := by omega
    go_wp2_with fail
    refine calls_letter ?_
    intro W20 hW20
    have k20 : Below w.heap.size w W20 := by
      rw [hW20]
      (repeat (first | (with_reducible assumption) | (with_reducible exact bl_refl _) | (with_reducible refine bl_alloc ?_ _) | (with_reducible refine bl_drew ?_) | (with_reducible refine bl_set' ?_ ?_; · (dsimp only; first | assumption | exact Nat.le_refl _ | omega)) | (with_reducible refine bl_last (by assumption) ?_)))
    have A20 : Blk W20 (w.heap.size) 23 #[.int .i64 a0, .int .i64 a1, .int .i64 a2, .int .i64 a3, .int .i64 a4, .int .i64 a5] := by
      rw [hW20]
      (repeat (first | (with_reducible assumption) | (with_reducible apply Blk.new) | (with_reducible exact blkAt _ _ _ _ (by simp; done)) | (with_reducible apply blk_st2) | (with_reducible apply blk_st4) | (with_reducible apply blk_st6) | (with_reducible apply blk_far (hne := by first | (with_reducible assumption) | omega)) | (with_reducible apply blk_up (hb := by assumption)) | (with_reducible apply Blk.alloc) | (with_reducible apply blk_drew)))
    have X20 : Blk W20 (u1.heap.size) 23 #[.int .i64 p0, .int .i64 p1, .int .i64 p2, .int .i64 p3, .int .i64 p4, .int .i64 p5] := by
      rw [hW20]
      (repeat (first | (with_reducible assumption) | (with_reducible apply Blk.new) | (with_reducible exact blkAt _ _ _ _ (by simp; done)) | (with_reducible apply blk_st2) | (with_reducible apply blk_st4) | (with_reducible apply blk_st6) | (with_reducible apply blk_far (hne := by first | (with_reducible assumption) | omega)) | (with_reducible apply blk_up (hb := by assumption)) | (with_reducible apply Blk.alloc) | (with_reducible apply blk_drew)))
    have Y20 : Blk W20 (u2.heap.size) 23 #[.int .i64 p0, .int .i64 p1, .int .i64 p2, .int .i64 p3, .int .i64 p4, .int .i64 p5] := by
      rw [hW20]
      (repeat (first | (with_reducible assumption) | (with_reducible apply Blk.new) | (with_reducible exact blkAt _ _ _ _ (by simp; done)) | (with_reducible apply blk_st2) | (with_reducible apply blk_st4) | (with_reducible apply blk_st6) | (with_reducible apply blk_far (hne := by first | (with_reducible assumption) | omega)) | (with_reducible apply blk_up (hb := by assumption)) | (with_reducible apply Blk.alloc) | (with_reducible apply blk_drew)))
    clear hW20
    try clear qY19
    try clear pY19
    try clear qX19
    try clear pX19
    try clear qA19
    try clear pA19
    try clear hz19
    try clear hc19
    try clear hf19
    try clear d19
    try clear cA19_0
    try clear cA19_1
    try clear cA19_2
    try clear cA19_3
    try clear cA19_4
    try clear cA19_5
    try clear y19
    try clear k19
    try clear A19
    try clear X19
    try clear Y19
    try clear gA19
    try clear lA19
    try clear gX19
    try clear lX19
    try clear gY19
    try clear lY19
    have y20 := k20.size
    have gA20 := A20.lt
    have lA20 := Nat.le_of_lt gA20
    have gX20 := X20.lt
    have lX20 := Nat.le_of_lt gX20
    have gY20 := Y20.lt
    have lY20 := Nat.le_of_lt gY20
    ((with_reducible refine (HBx.out _).mono ?_); rintro e u20 ⟨rfl, d20⟩)
    obtain ⟨hz20, hc20, hf20⟩ := bcl d20 (by first | (simp; rfl) | rfl)
    have qA20 : w.heap.size < u20.heap.size := by omega
    have pA20 : w.heap.size ≤ u20.heap.size := by omega
    have qX20 : u1.heap.size < u20.heap.size := by omega
    have pX20 : u1.heap.size ≤ u20.heap.size := by omega
    have qY20 : u2.heap.size < u20.heap.size := by omega
    have pY20 : u2.heap.size ≤ u20.heap.size := by omega
    rcases Nat.lt_or_ge 200 s.size with hz | hz
    · have hz2 : (200 : Int) < (s.size : Int) := by omega
      go_wp2_with fail
      go_ret
      refine ⟨rfl, ?_⟩
      (repeat (first | (with_reducible exact bl_refl _) | (with_reducible refine bl_drew ?_) | (with_reducible refine bl_alloc ?_ _) | (with_reducible refine bl_set' ?_ ?_; · (first | omega | (simp; done) | (simp; omega))) | (with_reducible refine bl_last (by assumption) ?_) | (with_reducible refine bl_drewN ?_ _)))
    · have hz2 : ¬ (200 : Int) < (s.size : Int) := by omega
      go_wp2_with fail
      refine calls_letter ?_
      intro W21 hW21
      have k21 : Below w.heap.size w W21 := by
        rw [hW21]
        (repeat (first | (with_reducible assumption) | (with_reducible exact bl_refl _) | (with_reducible refine bl_alloc ?_ _) | (with_reducible refine bl_drew ?_) | (with_reducible refine bl_set' ?_ ?_; · (dsimp only; first | assumption | exact Nat.le_refl _ | omega)) | (with_reducible refine bl_last (by assumption) ?_)))
      have X21 : Blk W21 (u1.heap.size) 23 #[.int .i64 p0, .int .i64 p1, .int .i64 p2, .int .i64 p3, .int .i64 p4, .int .i64 p5] := by
        rw [hW21]
        (repeat (first | (with_reducible assumption) | (with_reducible apply Blk.new) | (with_reducible exact blkAt _ _ _ _ (by simp; done)) | (with_reducible apply blk_st2) | (with_reducible apply blk_st4) | (with_reducible apply blk_st6) | (with_reducible apply blk_far (hne := by first | (with_reducible assumption) | omega)) | (with_reducible apply blk_up (hb := by assumption)) | (with_reducible apply Blk.alloc) | (with_reducible apply blk_drew)))
      have Y21 : Blk W21 (u2.heap.size) 23 #[.int .i64 p0, .int .i64 p1, .int .i64 p2, .int .i64 p3, .int .i64 p4, .int .i64 p5] := by
        rw [hW21]
        (repeat (first | (with_reducible assumption) | (with_reducible apply Blk.new) | (with_reducible exact blkAt _ _ _ _ (by simp; done)) | (with_reducible apply blk_st2) | (with_reducible apply blk_st4) | (with_reducible apply blk_st6) | (with_reducible apply blk_far (hne := by first | (with_reducible assumption) | omega)) | (with_reducible apply blk_up (hb := by assumption)) | (with_reducible apply Blk.alloc) | (with_reducible apply blk_drew)))
      clear hW21
      try clear qY20
      try clear pY20
      try clear qX20
      try clear pX20
      try clear qA20
      try clear pA20
      try clear hz20
      try clear hc20
      try clear hf20
      try clear d20
      try clear y20
      try clear k20
      try clear A20
      try clear X20
      try clear Y20
      try clear gA20
      try clear lA20
      try clear gX20
      try clear lX20
      try clear gY20
      try clear lY20
      have y21 := k21.size
      have gX21 := X21.lt
      have lX21 := Nat.le_of_lt gX21
      have gY21 := Y21.lt
      have lY21 := Nat.le_of_lt gY21
      have cX21_0 := X21.cell 0
      have cX21_1 := X21.cell 1
      have cX21_2 := X21.cell 2
      have cX21_3 := X21.cell 3
      have cX21_4 := X21.cell 4
      have cX21_5 := X21.cell 5
      simp only [List.getElem?_toArray, List.getElem?_cons_zero, List.getElem?_cons_succ] at cX21_0 cX21_1 cX21_2 cX21_3 cX21_4 cX21_5
      have fX21_0 := X21.frozen 0
      have fX21_1 := X21.frozen 1
      have fX21_2 := X21.frozen 2
      have fX21_3 := X21.frozen 3
      have fX21_4 := X21.frozen 4
      have fX21_5 := X21.frozen 5
      ((with_reducible refine (HAq.out _ hz (HP.out.up k21) (tab_up HQ.out k21)).mono ?_); rintro e u21 ⟨rfl, d21⟩)
      obtain ⟨hz21, hc21, hf21⟩ := bcl d21 (by first | (simp; rfl) | rfl)
      have qX21 : u1.heap.size < u21.heap.size := by omega
      have pX21 : u1.heap.size ≤ u21.heap.size := by omega
      have qY21 : u2.heap.size < u21.heap.size := by omega
      have pY21 : u2.heap.size ≤ u21.heap.size := by omega
      go_wp2_with fail
      refine calls_letter ?_
      intro W22 hW22
      have k22 : Below w.heap.size w W22 := by
        rw [hW22]
        (repeat (first | (with_reducible assumption) | (with_reducible exact bl_refl _) | (with_reducible refine bl_alloc ?_ _) | (with_reducible refine bl_drew ?_) | (with_reducible refine bl_set' ?_ ?_; · (dsimp only; first | assumption | exact Nat.le_refl _ | omega)) | (with_reducible refine bl_last (by assumption) ?_)))
      have X22 : Blk W22 (u1.heap.size) 23 #[.int .i64 q0, .int .i64 q1, .int .i64 q2, .int .i64 q3, .int .i64 q4, .int .i64 q5] := by
        rw [hW22]
        (repeat (first | (with_reducible assumption) | (with_reducible apply Blk.new) | (with_reducible exact blkAt _ _ _ _ (by simp; done)) | (with_reducible apply blk_st2) | (with_reducible apply blk_st4) | (with_reducible apply blk_st6) | (with_reducible apply blk_far (hne := by first | (with_reducible assumption) | omega)) | (with_reducible apply blk_up (hb := by assumption)) | (with_reducible apply Blk.alloc) | (with_reducible apply blk_drew)))
      have Y22 : Blk W22 (u2.heap.size) 23 #[.int .i64 p0, .int .i64 p1, .int .i64 p2, .int .i64 p3, .int .i64 p4, .int .i64 p5] := by
        rw [hW22]
        (repeat (first | (with_reducible assumption) | (with_reducible apply Blk.new) | (with_reducible exact blkAt _ _ _ _ (by simp; done)) | (with_reducible apply blk_st2) | (with_reducible apply blk_st4) | (with_reducible apply blk_st6) | (with_reducible apply blk_far (hne := by first | (with_reducible assumption) | omega)) | (with_reducible apply blk_up (hb := by assumption)) | (with_reducible apply Blk.alloc) | (with_reducible apply blk_drew)))
      clear hW22
      try clear qY21
      try clear pY21
      try clear qX21
      try clear pX21
      try clear hz21
      try clear hc21
      try clear hf21
      try clear d21
      try clear fX21_5
      try clear fX21_4
      try clear fX21_3
      try clear fX21_2
      try clear fX21_1
      try clear fX21_0
      try clear cX21_0
      try clear cX21_1
      try clear cX21_2
      try clear cX21_3
      try clear cX21_4
      try clear cX21_5
      try clear y21
      try clear k21
      try clear X21
      try clear Y21
      try clear gX21
      try clear lX21
      try clear gY21
      try clear lY21
      have y22 := k22.size
      have gX22 := X22.lt
      have lX22 := Nat.le_of_lt gX22
      have gY22 := Y22.lt
      have lY22 := Nat.le_of_lt gY22
      have cX22_0 := X22.cell 0
      have cX22_1 := X22.cell 1
      have cX22_2 := X22.cell 2
      have cX22_3 := X22.cell 3
      have cX22_4 := X22.cell 4
      have cX22_5 := X22.cell 5
      simp only [List.getElem?_toArray, List.getElem?_cons_zero, List.getElem?_cons_succ] at cX22_0 cX22_1 cX22_2 cX22_3 cX22_4 cX22_5
      have cY22_0 := Y22.cell 0
      have cY22_1 := Y22.cell 1
      have cY22_2 := Y22.cell 2
      have cY22_3 := Y22.cell 3
      have cY22_4 := Y22.cell 4
      have cY22_5 := Y22.cell 5
      simp only [List.getElem?_toArray, List.getElem?_cons_zero, List.getElem?_cons_succ] at cY22_0 cY22_1 cY22_2 cY22_3 cY22_4 cY22_5
      have fY22_0 := Y22.frozen 0
      have fY22_1 := Y22.frozen 1
      have fY22_2 := Y22.frozen 2
      have fY22_3 := Y22.frozen 3
      have fY22_4 := Y22.frozen 4
      have fY22_5 := Y22.frozen 5
      ((with_reducible refine (HBq.out _ hz).mono ?_); rintro e u22 ⟨rfl, d22⟩)
      obtain ⟨hz22, hc22, hf22⟩ := bcl d22 (by first | (simp; rfl) | rfl)
      have qX22 : u1.heap.size < u22.heap.size := by omega
      have pX22 : u1.heap.size ≤ u22.heap.size := by omega
      have qY22 : u2.heap.size < u22.heap.size := by omega
      have pY22 : u2.heap.size ≤ u22.heap.size := by omega
      go_wp2_with fail
      go_ret
      refine ⟨rfl, ?_⟩
      (repeat (first | (with_reducible exact bl_refl _) | (with_reducible refine bl_drew ?_) | (with_reducible refine bl_alloc ?_ _) | (with_reducible refine bl_set' ?_ ?_; · (first | omega | (simp; done) | (simp; omega))) | (with_reducible refine bl_last (by assumption) ?_) | (with_reducible refine bl_drewN ?_ _)))
end Go.Proofs.YtgbiiaaeabflnaaDoor
