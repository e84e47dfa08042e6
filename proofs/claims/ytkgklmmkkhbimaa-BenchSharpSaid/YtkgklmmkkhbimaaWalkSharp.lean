/- BenchSharp: the walk of the law. -/
import Derived.Test.YtkgklmmkkhbimaaSharpA
namespace Go.Proofs.Ytkgklmmkkhbimaa
open Go Go.RowKit

theorem blkN (w : World) (t : TypeId) (cs : Array Value) (g : Nat) (h : g = w.heap.size) : Blk (w.alloc (.cells cs t)) g t cs := by
  subst h
  exact Blk.new _ _ _

set_option maxRecDepth 100000 in
set_option maxHeartbeats 1000000 in
theorem walk_BenchSharp (n : Int) (A : Option Addr) (l : List Bt) (cap : Nat) (f1 f2 e1 e2 : Int) (w : World) (hlen : l.length ≤ 9223372036854775807) (hl : Lst w w.heap.size A l) :
    Calls Try.prog 4 #[.int .i64 n, .slice A l.length cap, .agg #[.int .i64 f1, .int .i64 f2], .agg #[.int .i64 e1, .int .i64 e2]] w (Ret (.bool true) w) := by
  obtain ⟨i0, hi, hz0, hz1, hz2⟩ := info_parts Try.infoRat
  have HL := Lib.hid hl
  clear hl
  go_enter Try.func4, Try.ntmps4
  go_wp2_with fail
  ((with_reducible refine (head18_c _).mono ?_); rintro e w1 ⟨rfl, b1⟩)
  have HB : Hid (Below w.heap.size w w1) := Lib.hid (by (repeat (first | (with_reducible exact bl_refl _) | (with_reducible refine bl_drew ?_) | (with_reducible refine bl_alloc ?_ _) | (with_reducible refine bl_set' ?_ ?_; · (first | omega | (simp; done) | (simp; omega))) | (with_reducible refine bl_last (by assumption) ?_) | (with_reducible refine bl_drewN ?_ _))))
  have H6 : Hid (Blk w1 w.heap.size 24 #[.int .i64 f1, .int .i64 f2]) := Lib.hid (((Blk.new w _ _).alloc _).below b1 (by simp; omega))
  have H7 : Hid (Blk w1 (w.heap.size + 1) 24 #[.int .i64 e1, .int .i64 e2]) := Lib.hid ((Blk.new' _ _ _ _ (by simp)).below b1 (by simp))
  clear b1
  have c60 : w1.cell? ⟨w.heap.size, 0, none⟩ = some (.int .i64 f1) := by simpa using H6.out.cell 0
  have c61 : w1.cell? ⟨w.heap.size, 1, none⟩ = some (.int .i64 f2) := by simpa using H6.out.cell 1
  have c70 : w1.cell? ⟨w.heap.size + 1, 0, none⟩ = some (.int .i64 e1) := by simpa using H7.out.cell 0
  have c71 : w1.cell? ⟨w.heap.size + 1, 1, none⟩ = some (.int .i64 e2) := by simpa using H7.out.cell 1
  go_wp2_with fail
  (with_reducible refine (Run_u n l f1 f2 e1 e2 A cap _ (HL.out.up HB.out) hlen).mono ?_)
  rintro e w2 ⟨b2, Bb, N, cb, kk, rfl, hN, h1⟩
  have H6 := Lib.hid (H6.out.below b2 H6.out.lt)
  have H7 := Lib.hid (H7.out.below b2 H7.out.lt)
  have HB := Lib.hid (bl_trans HB.out b2)
  clear b2 c60 c61 c70 c71
  rcases h1 with h1 | ⟨rfl, g, h, hNn, hg, pg, ph, hBd⟩
  · go_wp2
    go_ret
    exact ⟨rfl, HB.out⟩
  have hgg : vld n l = true ∧ sdV f1 f2 = true ∧ rtV e1 e2 = true := by
    unfold runG at hg
    revert hg
    cases vld n l <;> cases sdV f1 f2 <;> cases rtV e1 e2 <;> simp
  obtain ⟨hv, hsd, hrt⟩ := hgg
  have hvl := vld_len hv
  have hbd : -1000000000 ≤ e1 ∧ e1 ≤ 1000000000 := by
    obtain ⟨r0, r1, r2, r3⟩ := rt_of hrt
    exact ⟨by omega, r1⟩
  have hneg : IntKind.i64.wrap (-e1) = -e1 := by rw [IntKind.wrap_i64]; omega
  have HV := Lib.hid hv
  have HSD := Lib.hid hsd
  have HRT := Lib.hid hrt
  have HPG := Lib.hid pg
  have HPH := Lib.hid ph
  have HBD := Lib.hid hBd
  have HVL := Lib.hid hvl
  have HNN := Lib.hid hNn
  have hL39 : l.length ≤ 39 := by omega
  clear hv hsd hrt pg ph hBd hg hNn hvl hbd
  generalize hLL : l.length = L at *
  have HLL := Lib.hid hLL
  clear hLL
  have hl2 : w.heap.size + 1 < w2.heap.size := H7.out.lt
  go_wp2
  go_loopw [12, 13, 34] (fun v u i wr => ∃ k : Nat, k ≤ L ∧ i = .int .i64 k ∧ Hid (wr.ownsRow w2.heap.size 24 2 v k (repL (-e1) e2 k)) ∧ Hid (wr.ownsRow w2.heap.size 24 2 u k (repL e1 e2 k)) ∧ Hid (Apart v u) ∧ Below w2.heap.size w2 wr) (fun _ _ i _ => L - (intOf i).toNat)
  case atStart => exact ⟨0, Nat.zero_le _, rfl, World.ownsRow_nil _ _ _ _, World.ownsRow_nil _ _ _ _, Lib.hid (fun g h _ => by cases h), bl_refl _⟩
  case round =>
    obtain ⟨k, hk, rfl, HOV, HOU, HAP, hbr⟩ := hrel
    have hzr := hbr.size
    by_cases hlt : k < L
    · have c70 : wr.cell? ⟨w.heap.size + 1, 0, none⟩ = some (.int .i64 e1) := (hbr.cell (p := ⟨w.heap.size + 1, 0, none⟩) hl2).trans (by simpa using H7.out.cell 0)
      have c71 : wr.cell? ⟨w.heap.size + 1, 1, none⟩ = some (.int .i64 e2) := (hbr.cell (p := ⟨w.heap.size + 1, 1, none⟩) hl2).trans (by simpa using H7.out.cell 1)
      have hEr : w.heap.size + 1 < wr.heap.size := by omega
      have HNE : Hid (∀ b, wr.heap.size ≤ b → some b ≠ u12.ownBlock) := Lib.hid (fun b hb h => by
        have := (HOV.out.lt b h.symm).2
        omega)
      have HAN : Hid (u13.ownBlock = none ∨ u13.ownBlock ≠ u12.ownBlock) := Lib.hid HAP.out.ne
      have HEV : Hid (some (w.heap.size + 1) ≠ u12.ownBlock) := Lib.hid (fun h => by
        have := (HOV.out.lt _ h.symm).1
        omega)
      have HEU : Hid (some (w.heap.size + 1) ≠ u13.ownBlock) := Lib.hid (fun h => by
        have := (HOU.out.lt _ h.symm).1
        omega)
      go_wp2
      go_region_held_law (fun w' => w'.cell? ⟨w.heap.size + 1, 0, none⟩ = some (.int .i64 e1) ∧ w'.cell? ⟨w.heap.size + 1, 1, none⟩ = some (.int .i64 e2))
        (first
          | go_keep
          | (go_split_ands
             refine ⟨?_, ?_⟩
             · (rw [hgrow1.cell_far _ (by simp; omega) HEV.out]; assumption)
             · (rw [hgrow1.cell_far _ (by simp; omega) HEV.out]; assumption))
          | (go_split_ands
             refine ⟨?_, ?_⟩
             · (rw [hgrow2.cell_far _ (by have := hgrow1.size; simp at this ⊢; omega) HEU.out]; assumption)
             · (rw [hgrow2.cell_far _ (by have := hgrow1.size; simp at this ⊢; omega) HEU.out]; assumption)))
        (first
          | (refine step_app hi hz0 hz1 hz2 rfl (by rfl) _ _ (by rfl) w2.heap.size k u12 (repL (-e1) e2 k) (by rfl) (by repeat (first | (with_reducible exact HOV.out) | (with_reducible refine World.ownsRow.alloc ?_ _) | (with_reducible refine World.ownsRow.drew ?_))) wr.heap.size (-e1) e2 (by rfl) (by repeat (first | (with_reducible refine blkN _ _ _ _ ?_; first | (simp; done) | (simp; omega)) | (with_reducible refine Blk.alloc ?_ _) | (with_reducible refine Blk.drew ?_))) (by omega) (by simp; omega) ?_; intro v1 W1 hown1 hgrow1 hat1)
          | (refine step_app hi hz0 hz1 hz2 rfl (by rfl) _ _ (by rfl) w2.heap.size k u12 (repL (-e1) e2 k) (by rfl) (by repeat (first | (with_reducible exact HOV.out) | (with_reducible refine World.ownsRow.alloc ?_ _) | (with_reducible refine World.ownsRow.drew ?_))) (wr.heap.size + 1) (-e1) e2 (by rfl) (by repeat (first | (with_reducible refine blkN _ _ _ _ ?_; first | (simp; done) | (simp; omega)) | (with_reducible refine Blk.alloc ?_ _) | (with_reducible refine Blk.drew ?_))) (by omega) (by simp; omega) ?_; intro v1 W1 hown1 hgrow1 hat1)
          | (refine step_app hi hz0 hz1 hz2 rfl (by rfl) _ _ (by rfl) w2.heap.size k u13 (repL e1 e2 k) (by rfl) (by repeat (first | (with_reducible exact HOU.out) | (with_reducible refine World.ownsRow.alloc ?_ _) | (with_reducible refine World.ownsRow.drew ?_) | (with_reducible refine World.ownsRow.kept ?_ hgrow1 HAN.out))) W1.heap.size e1 e2 (by rfl) (by repeat (first | (with_reducible refine blkN _ _ _ _ ?_; first | (simp; done) | (simp; omega)) | (with_reducible refine Blk.alloc ?_ _) | (with_reducible refine Blk.drew ?_) | (with_reducible refine blk_grown ?_ hgrow1 (HNE.out _ (by first | exact Nat.le_refl _ | omega))))) (by omega) (by first | (simp; omega) | (have := hgrow1.size; simp at this ⊢; omega)) ?_; intro v2 W2 hown2 hgrow2 hat2)
          | (refine step_app hi hz0 hz1 hz2 rfl (by rfl) _ _ (by rfl) w2.heap.size k u13 (repL e1 e2 k) (by rfl) (by repeat (first | (with_reducible exact HOU.out) | (with_reducible refine World.ownsRow.alloc ?_ _) | (with_reducible refine World.ownsRow.drew ?_) | (with_reducible refine World.ownsRow.kept ?_ hgrow1 HAN.out))) (wr.heap.size + 1) e1 e2 (by rfl) (by repeat (first | (with_reducible refine blkN _ _ _ _ ?_; first | (simp; done) | (simp; omega)) | (with_reducible refine Blk.alloc ?_ _) | (with_reducible refine Blk.drew ?_) | (with_reducible refine blk_grown ?_ hgrow1 (HNE.out _ (by first | exact Nat.le_refl _ | omega))))) (by omega) (by first | (simp; omega) | (have := hgrow1.size; simp at this ⊢; omega)) ?_; intro v2 W2 hown2 hgrow2 hat2)
          | (refine step_app hi hz0 hz1 hz2 rfl (by rfl) _ _ (by rfl) w2.heap.size k u13 (repL e1 e2 k) (by rfl) (by repeat (first | (with_reducible exact HOU.out) | (with_reducible refine World.ownsRow.alloc ?_ _) | (with_reducible refine World.ownsRow.drew ?_) | (with_reducible refine World.ownsRow.kept ?_ hgrow1 HAN.out))) wr.heap.size e1 e2 (by rfl) (by repeat (first | (with_reducible refine blkN _ _ _ _ ?_; first | (simp; done) | (simp; omega)) | (with_reducible refine Blk.alloc ?_ _) | (with_reducible refine Blk.drew ?_) | (with_reducible refine blk_grown ?_ hgrow1 (HNE.out _ (by first | exact Nat.le_refl _ | omega))))) (by omega) (by first | (simp; omega) | (have := hgrow1.size; simp at this ⊢; omega)) ?_; intro v2 W2 hown2 hgrow2 hat2))
      all_goals
        have hV1 := hown1.lt
        have HUL := HOU.out.lt
        have hN1 : v1.ownBlock = none ∨ v1.ownBlock ≠ u13.ownBlock := v1_ne HAP.out hat1 (fun g hg => by have := (HUL g hg).2; simp; omega)
        have hAP2 := apart_next HAP.out hat1 hat2 (fun g hg => by have := (HUL g hg).2; simp; omega) (fun g hg => by have := (hV1 g hg).2; first | exact this | (simp; omega))
        have HOW1 : Hid (W2.ownsRow w2.heap.size 24 2 v1 (k + 1) (repL (-e1) e2 (k + 1))) := Lib.hid (by
          rw [repL_succ]
          repeat (first | (with_reducible exact hown1) | (with_reducible refine World.ownsRow.alloc ?_ _) | (with_reducible refine World.ownsRow.drew ?_) | (with_reducible refine World.ownsRow.kept ?_ hgrow2 hN1)))
        have HOW2 : Hid (W2.ownsRow w2.heap.size 24 2 v2 (k + 1) (repL e1 e2 (k + 1))) := Lib.hid (by
          rw [repL_succ]
          exact hown2)
        have HBW : Hid (Below w2.heap.size w2 W2) := Lib.hid (by
          have hr1 : ∀ k, u12.ownBlock = some k → w2.heap.size ≤ k := fun k hk => (HOV.out.lt k hk).1
          have hr2 : ∀ k, u13.ownBlock = some k → w2.heap.size ≤ k := fun k hk => (HOU.out.lt k hk).1
          repeat (first | (with_reducible exact hbr) | (with_reducible refine bl_alloc ?_ _) | (with_reducible refine bl_drew ?_) | (with_reducible refine bl_grown ?_ hgrow1 hr1) | (with_reducible refine bl_grown ?_ hgrow2 hr2)))
        have HAP2 := Lib.hid hAP2
        clear hown1 hown2 hgrow1 hgrow2 hat1 hat2 hV1 hN1 hAP2 HUL
        go_wp2
        go_roundw
        case rel => exact ⟨k + 1, by omega, by go_num, HOW1, HOW2, HAP2, HBW.out⟩
        case measure => simp [intOf]; omega
    · have hkL : k = L := by omega
      subst hkL
      obtain ⟨Av, cv, rfl, RV⟩ := rats_of_rep HOV.out
      obtain ⟨Au, cu, rfl, RU⟩ := rats_of_rep HOU.out
      have HRV := Lib.hid RV
      have HRU := Lib.hid RU
      have hvr : vR e1 e2 = true := by
        have := HRT.out
        unfold rtV at this
        simp only [Bool.and_eq_true] at this
        exact this.1
      have HP1 := Lib.hid (fun Ao capo w hl ho => play_ok HV.out HSD.out (vR_neg hvr) (by rw [HLL.out]; exact HPG.out) A Ao cap capo w hl ho (by rw [HLL.out]; exact hlen))
      have HP2 := Lib.hid (fun Ao capo w hl ho => play_ok HV.out HSD.out hvr (by rw [HLL.out]; exact HPH.out) A Ao cap capo w hl ho (by rw [HLL.out]; exact hlen))
      rw [HLL.out, ← HNN.out] at HP1 HP2
      have HBr := Lib.hid (bl_trans HB.out hbr)
      have H6r := Lib.hid (H6.out.below hbr H6.out.lt)
      have HBDr := Lib.hid (HBD.out.up hbr)
      clear RV RU hvr hbr HOV HOU HAP
      obtain ⟨wo, rfl⟩ : ∃ x : World, x = wr := ⟨_, rfl⟩
      have c60 : wo.cell? ⟨w.heap.size, 0, none⟩ = some (.int .i64 f1) := by simpa using H6r.out.cell 0
      have c61 : wo.cell? ⟨w.heap.size, 1, none⟩ = some (.int .i64 f2) := by simpa using H6r.out.cell 1
      go_wp2_with fail
      (with_reducible refine (HP1.out _ _ _ (HL.out.up HBr.out) HRV.out).mono ?_)
      rintro e w3 ⟨b3, Ap, rfl, hR3⟩
      have HR3 := Lib.hid hR3
      have H6r := Lib.hid (H6r.out.below b3 H6r.out.lt)
      have HBr := Lib.hid (bl_trans HBr.out b3)
      have HBDr := Lib.hid (HBDr.out.up b3)
      have HRU := Lib.hid (HRU.out.up b3)
      clear hR3 b3 c60 c61
      have c60 : w3.cell? ⟨w.heap.size, 0, none⟩ = some (.int .i64 f1) := by simpa using H6r.out.cell 0
      have c61 : w3.cell? ⟨w.heap.size, 1, none⟩ = some (.int .i64 f2) := by simpa using H6r.out.cell 1
      go_wp2_with fail
      (with_reducible refine (HP2.out _ _ _ (HL.out.up HBr.out) HRU.out).mono ?_)
      rintro e w4 ⟨b4, Aq, rfl, hR4⟩
      have HR3 := Lib.hid (HR3.out.up b4)
      have HR4 := Lib.hid hR4
      have HBr := Lib.hid (bl_trans HBr.out b4)
      have HBDr := Lib.hid (HBDr.out.up b4)
      clear hR4 b4 c60 c61
      go_wp2
      go_loopw [9, 88] (fun u i wr => u = .bool true ∧ ∃ k : Nat, k ≤ N ∧ i = .int .i64 k ∧ Below w4.heap.size w4 wr) (fun _ i _ => N - (intOf i).toNat)
      case atStart => exact ⟨rfl, 0, Nat.zero_le _, rfl, bl_refl _⟩
      case round =>
        obtain ⟨rfl, j, hj, rfl, hbr⟩ := hrel
        have hzr := hbr.size
        by_cases hlt2 : j < N
        · obtain ⟨bb, bo, rfl, hbb, hcb⟩ := HBDr.out (by omega)
          obtain ⟨bp, po, rfl, hbp, hcp⟩ := HR3.out (by omega)
          obtain ⟨bq, qo, rfl, hbq, hcq⟩ := HR4.out (by omega)
          obtain ⟨s1, s2, s3, s4⟩ := hcb j hlt2
          have x1 := (hbr.cell (p := ⟨bb, bo + j * 4, none⟩) hbb).trans s1
          have x2 := (hbr.cell (p := ⟨bb, bo + j * 4 + 1, none⟩) hbb).trans s2
          have x3 := (hbr.cell (p := ⟨bb, bo + j * 4 + 2, none⟩) hbb).trans s3
          have x4 := (hbr.cell (p := ⟨bb, bo + j * 4 + 3, none⟩) hbb).trans s4
          have y1 := (hbr.cell (p := ⟨bp, po + j * 2, none⟩) hbp).trans (hcp j hlt2).1
          have y2 := (hbr.cell (p := ⟨bp, po + j * 2 + 1, none⟩) hbp).trans (hcp j hlt2).2
          have y3 := (hbr.cell (p := ⟨bq, qo + j * 2, none⟩) hbq).trans (hcq j hlt2).1
          have y4 := (hbr.cell (p := ⟨bq, qo + j * 2 + 1, none⟩) hbq).trans (hcq j hlt2).2
          have z1 : bb < wr.heap.size := by omega
          have z2 : bp < wr.heap.size := by omega
          have z3 : bq < wr.heap.size := by omega
          generalize (g j).1 = ga at *
          generalize (g j).2 = gb at *
          generalize (h j).1 = ha at *
          generalize (h j).2 = hb' at *
          have HBR2 := Lib.hid hbr
          clear hcb hcp hcq s1 s2 s3 s4 hbb hbp hbq hbr
          go_wp2
          (refine wp_region_bl [0,1,2,3,4,5,6,7,8,9,10,11,12,13] [14] (by kernel_rfl) (by kernel_rfl) (by rfl) ?_
           simp only [pickI, pick, List.getElem?_cons_succ, List.getElem?_cons_zero]
           iterate 14 (first
             | (refine head_val (by rfl) (by rfl) ?_
                apply Exists.intro
                refine ⟨fun X hX => ?_, ?_⟩
                · (obtain ⟨qz, qc, qf⟩ := bcl hX.out (by first | (simp; rfl) | rfl)
                   go_simp
                   first | done | rfl | exact ⟨rfl, rfl⟩)
                simp only [Act.put, List.setIfInBounds_toArray, List.set_cons_zero, List.set_cons_succ])
             | (refine head_pass (by rfl) ?_
                simp only [Act.put, List.setIfInBounds_toArray, List.set_cons_zero, List.set_cons_succ]))
           refine head_nil ?_
           intro w' hw'
           have hb := hw'.out
           clear hw'
           obtain ⟨hz, hc, hf⟩ := bcl hb (by first | (simp; rfl) | rfl))
          go_wp2
          go_roundw
          case rel => exact ⟨rfl, j + 1, by omega, by go_num, by
            have h3 := hb
            exact Below.trans (HBR2.out.alloc HBR2.out.size _) (hb.mono (by simp; omega))⟩
          case measure => simp [intOf]; omega
        · have hjN : j = N := by omega
          subst hjN
          go_wp2
          go_ret
          exact ⟨rfl, bl_trans HBr.out hbr⟩
end Go.Proofs.Ytkgklmmkkhbimaa
