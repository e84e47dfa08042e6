/- Readings: the steps of a list. -/
import Derived.Test.YtehifkdfbiebfaaDoorK21
import Derived.Test.YtehifkdfbiebfaaDoorK22
import Derived.Test.YtehifkdfbiebfaaDoorK01
import Derived.OwnWalkIn
import Derived.TacticsInMore
import Derived.LoopNIn
import Derived.LoopIn
namespace Go.Proofs.YtehifkdfbiebfaaDoor
open Go Go.RowKit

/-- The readings of a list lie from o on in block b. -/
def RdsAt (w : World) (b o : Nat) (l : List Rd) : Prop := ∀ k, k < l.length →
  w.cell? ⟨b, o + k * 4, none⟩ = some (.int .i64 ((rdAt l k).fr : Int)) ∧ w.cell? ⟨b, o + k * 4 + 1, none⟩ = some (.int .i64 ((rdAt l k).to : Int)) ∧
  w.cell? ⟨b, o + k * 4 + 2, none⟩ = some (.int .i64 (rdAt l k).lo) ∧ w.cell? ⟨b, o + k * 4 + 3, none⟩ = some (.int .i64 (rdAt l k).hi)
def Rds (w : World) (B : Nat) (A : Option Addr) (l : List Rd) : Prop := 0 < l.length → ∃ b o, A = some ⟨b, o, none⟩ ∧ b < B ∧ RdsAt w b o l
theorem RdsAt.same {w w' : World} {b o : Nat} {l : List Rd} (h : RdsAt w b o l) (hs : ∀ i, w'.cell? ⟨b, i, none⟩ = w.cell? ⟨b, i, none⟩) : RdsAt w' b o l := by
  intro k hk
  obtain ⟨h1, h2, h3, h4⟩ := h k hk
  exact ⟨(hs _).trans h1, (hs _).trans h2, (hs _).trans h3, (hs _).trans h4⟩
theorem Rds.below {w w' : World} {B : Nat} {A : Option Addr} {l : List Rd} (h : Rds w B A l) (hb : Below B w w') : Rds w' B A l := fun h0 => by
  obtain ⟨b, o, e, hlt, hc⟩ := h h0
  exact ⟨b, o, e, hlt, hc.same fun i => hb.cell (p := ⟨b, i, none⟩) hlt⟩
theorem Rds.more {w : World} {B B' : Nat} {A : Option Addr} {l : List Rd} (h : Rds w B A l) (hB : B ≤ B') : Rds w B' A l := fun h0 => by
  obtain ⟨b, o, e, hlt, hc⟩ := h h0
  exact ⟨b, o, e, by omega, hc⟩
theorem Rds.up {w w' : World} {A : Option Addr} {l : List Rd} (h : Rds w w.heap.size A l) (hb : Below w.heap.size w w') : Rds w' w'.heap.size A l := (h.below hb).more hb.size
theorem Rds.but {w w' : World} {A : Option Addr} {l : List Rd} {x y B : Nat} (h : Rds w B A l) (hB : B ≤ w.heap.size) (hx : B ≤ x) (hy : B ≤ y) (k : But x y w w') : Rds w' B A l := fun h0 => by
  obtain ⟨b, o, e, hlt, hc⟩ := h h0
  exact ⟨b, o, e, hlt, hc.same fun i => k.cell (p := ⟨b, i, none⟩) (show b < _ by omega) (show b ≠ _ by omega) (show b ≠ _ by omega)⟩

theorem turned_c (a b c d : Int) (w : World) (hc : -9223372036854775807 ≤ c) (hc2 : c ≤ 9223372036854775807) : Calls Tryd.prog 114 #[.agg #[.int .i64 a, .int .i64 b, .int .i64 c, .int .i64 d]] w (Ret (.agg #[.int .i64 b, .int .i64 a, .int .i64 (-c)]) w) := by
  have e : IntKind.i64.wrap (-c) = -c := by rw [IntKind.wrap_i64]; omega
  go_enter Tryd.func114, Tryd.ntmps114
  go_wp2
  (refine bodyPost_ret (v := .agg #[.int .i64 b, .int .i64 a, .int .i64 (-c)]) (by simp only [results, Tryd.results114]; go_simp) rfl ⟨rfl, ?_⟩)
  (repeat (first | (with_reducible exact bl_refl _) | (with_reducible refine bl_drew ?_) | (with_reducible refine bl_alloc ?_ _) | (with_reducible refine bl_set' ?_ ?_; · (first | omega | (simp; done) | (simp; omega))) | (with_reducible refine bl_last (by assumption) ?_) | (with_reducible refine bl_drewN ?_ _)))

/-- A step, as find returns it. -/
def Ed.val (e : Ed) : Value := .agg #[.int .i64 (e.fr : Int), .int .i64 (e.to : Int), .int .i64 e.mo]
theorem find_c {n : Nat} {l : List Rd} (hl : RdOk n l) {j : Nat} (hj : j < 2 * l.length) (A : Option Addr) (cap : Nat) (w : World) (hr : Rds w w.heap.size A l) :
    Calls Tryd.prog 62 #[.slice A l.length cap, .int .i64 (edAt l j).st] w (Ret (edAt l j).val w) := by
  obtain ⟨b, o, rfl, hb, hc⟩ := hr (by omega)
  obtain ⟨c1, c2, c3, c4⟩ := hc (j / 2) (by omega)
  obtain ⟨_, _, _, b1, b2, b3⟩ := hl.2.2 (j / 2) (by omega)
  have h200 := hl.2.1
  have hlt : j / 2 < l.length := by omega
  unfold edAt Ed.val
  generalize rdAt l (j / 2) = r at *
  obtain ⟨rf, rt, rl, rh⟩ := r
  simp only at *
  generalize j / 2 = i at *
  generalize l.length = L at *
  split
  · have w1 : IntKind.i64.wrap ((i : Int) + 1 - 1) = (i : Int) := by rw [IntKind.wrap_i64]; omega
    have d1 : ¬ (i : Int) + 1 < 0 := by omega
    clear hc hl hr hj
    simp only
    generalize (i : Int) + 1 = s at *
    go_enter Tryd.func62, Tryd.ntmps62
    go_wp2
    (refine bodyPost_ret (v := .agg #[.int .i64 (rf : Int), .int .i64 (rt : Int), .int .i64 rh]) (by simp only [results, Tryd.results62]; go_simp) rfl ⟨rfl, ?_⟩)
    (repeat (first | (with_reducible exact bl_refl _) | (with_reducible refine bl_drew ?_) | (with_reducible refine bl_alloc ?_ _) | (with_reducible refine bl_set' ?_ ?_; · (first | omega | (simp; done) | (simp; omega))) | (with_reducible refine bl_last (by assumption) ?_) | (with_reducible refine bl_drewN ?_ _)))
  · obtain ⟨t, ht⟩ : ∃ t : Int, t = (i : Int) + 1 := ⟨_, rfl⟩
    have w1 : IntKind.i64.wrap (-(-(i : Int) - 1)) = t := by rw [IntKind.wrap_i64]; omega
    have w2 : IntKind.i64.wrap (t - 1) = (i : Int) := by rw [IntKind.wrap_i64]; omega
    have d1 : -(i : Int) - 1 < 0 := by omega
    have HT := Lib.hid (fun w => turned_c (rf : Int) (rt : Int) rl rh w (by omega) (by omega))
    clear hc hl hr hj ht
    simp only
    generalize -(i : Int) - 1 = s at *
    go_enter Tryd.func62, Tryd.ntmps62
    go_wp2_with (go_at_call 114; ((with_reducible refine (HT.out _).mono ?_); rintro e w' ⟨rfl, hb⟩; obtain ⟨hz, hc, hf⟩ := bcl hb (by first | (simp; rfl) | rfl)))
    (refine bodyPost_ret (v := .agg #[.int .i64 (rt : Int), .int .i64 (rf : Int), .int .i64 (-rl)]) (by simp only [results, Tryd.results62]; go_simp) rfl ⟨rfl, ?_⟩)
    (repeat (first | (with_reducible exact bl_refl _) | (with_reducible refine bl_drew ?_) | (with_reducible refine bl_alloc ?_ _) | (with_reducible refine bl_set' ?_ ?_; · (first | omega | (simp; done) | (simp; omega))) | (with_reducible refine bl_last (by assumption) ?_) | (with_reducible refine bl_drewN ?_ _)))

/-- What the iterator of the steps leans on. -/
def StepsS (Bx : Nat) (A : Option Addr) (cap : Nat) (l : List Rd) (W : World) : Prop := Blk W Bx 33 #[.slice A l.length cap] ∧ Rds W W.heap.size A l
attribute [local go_sem] Oper.semAt_some
set_option maxRecDepth 100000 in
set_option maxHeartbeats 4000000 in
theorem steps1_c {n : Nat} {l : List Rd} (hl : RdOk n l) (A : Option Addr) (cap Bx x y : Nat) :
    IterX Tryd.prog 151 #[.pointer (some ⟨Bx, 0, none⟩)] (2 * l.length) (fun j => #[.int .i64 (edAt l j).st, (edAt l j).val]) (StepsS Bx A cap l) x y := by
  intro lp J W hgrow hSL hlt hY h0
  have HSL := Lib.hid hSL
  have HY := Lib.hid hY
  have HG := Lib.hid hgrow
  have hB := (hSL 0 W h0).1
  have c0 := hB.cell 0
  simp only [List.getElem?_toArray, List.getElem?_cons_zero] at c0
  have HL := Lib.hid hl
  obtain ⟨hlt1, hlt2, hlt3⟩ := hlt
  have h200 := hl.2.1
  clear hgrow hSL hY hB hl
  generalize hLL : l.length = L at *
  refine callsIn_of_wp Tryd.func151 rfl trivial ?_ rfl
  simp only [Tryd.ntmps151, List.size_toArray, List.length_cons, List.length_nil, Nat.reduceAdd, Nat.reduceSub, Array.replicate_succ, Array.replicate_zero, List.push_toArray, List.append_toArray, List.nil_append, List.cons_append]
  gi_wp2
  gi_loopw [7] (fun i wr => ∃ k : Nat, k ≤ L ∧ i = .int .i64 (k : Int) ∧ W.heap.size ≤ wr.heap.size ∧ Hid (J (2 * k) wr)) (fun i _ => L - (intOf i).toNat)
  case atStart => exact ⟨0, by omega, rfl, Nat.le_refl _, Lib.hid h0⟩
  case round =>
    obtain ⟨k, hk, rfl, hws, HJ⟩ := hrel
    by_cases hltk : k < L
    · obtain ⟨hBx, hR⟩ := HSL.out _ _ HJ.out
      obtain ⟨b, o, rfl, hb, hc⟩ := hR (by omega)
      obtain ⟨c1, c2, c3, c4⟩ := hc k (by omega)
      obtain ⟨_, _, _, b1, b2, b3⟩ := HL.out.2.2 k (by omega)
      have hse : edAt l (2 * k) = ⟨(k : Int) + 1, (rdAt l k).fr, (rdAt l k).to, (rdAt l k).hi⟩ := by
        unfold edAt; rw [if_pos (by omega), show 2 * k / 2 = k by omega]
      have hso : edAt l (2 * k + 1) = ⟨-(k : Int) - 1, (rdAt l k).to, (rdAt l k).fr, -(rdAt l k).lo⟩ := by
        unfold edAt; rw [if_neg (by omega), show (2 * k + 1) / 2 = k by omega]
      have hys := HY.out (2 * k) (wr.alloc (.cells #[.int .i64 ((rdAt l k).fr : Int), .int .i64 ((rdAt l k).to : Int), .int .i64 (rdAt l k).lo, .int .i64 (rdAt l k).hi] 41)) (by omega) (HG.out _ _ _ HJ.out (bl_alloc (bl_refl _) _))
      have hyt := HY.out (2 * k + 1)
      have HW : Hid (∀ W1 W2, ButL x y lp W1 W2 → W.heap.size ≤ wr.heap.size → wr.heap.size < W1.heap.size → Blk W1 wr.heap.size 41 #[.int .i64 ((rdAt l k).fr : Int), .int .i64 ((rdAt l k).to : Int), .int .i64 (rdAt l k).lo, .int .i64 (rdAt l k).hi] → Blk W2 wr.heap.size 41 #[.int .i64 ((rdAt l k).fr : Int), .int .i64 ((rdAt l k).to : Int), .int .i64 (rdAt l k).lo, .int .i64 (rdAt l k).hi]) :=
        Lib.hid (fun W1 W2 h1 h2 h3 h4 => h4.same (h1.2 _ h3 (by omega) (by omega) (by omega)))
      rw [hse] at hys
      rw [hso] at hyt
      unfold Ed.val at hys hyt
      clear hse hso hc hR
      generalize rdAt l k = r at *
      obtain ⟨rf, rt, rl, rh⟩ := r
      simp only at *
      have w1 : IntKind.i64.wrap ((k : Int) + 1) = ((k : Int) + 1) := by rw [IntKind.wrap_i64]; omega
      have w2 : IntKind.i64.wrap (-(k : Int)) = -(k : Int) := by rw [IntKind.wrap_i64]; omega
      have w3 : IntKind.i64.wrap (-(k : Int) - 1) = -(k : Int) - 1 := by rw [IntKind.wrap_i64]; omega
      have HT := Lib.hid (fun w => turned_c (rf : Int) (rt : Int) rl rh w (by omega) (by omega))
      have hkL := hltk
      obtain ⟨fn, tmps, assign, body, hyr, hR1⟩ := hys
      gi_wp2
      refine hR1.mono ?_
      rintro e W3 ⟨rfl, hJ3, hB3⟩
      have hB4 := HW.out _ _ hB3 hws (by simp) (Blk.new _ _ _)
      have hz3 : wr.heap.size < W3.heap.size := hB4.lt
      have d0 := hB4.cell 0
      have d1 := hB4.cell 1
      have d2 := hB4.cell 2
      have d3 := hB4.cell 3
      simp only [List.getElem?_toArray, List.getElem?_cons_zero, List.getElem?_cons_succ] at d0 d1 d2 d3
      have HB4 := Lib.hid hB4
      have HJ3 := Lib.hid hJ3
      have HYT := Lib.hid hyt
      clear hyr hR1 hB3 hB4 hJ3 hyt c1 c2 c3 c4
      gi_wp2_with fail
      refine ⟨trivial, (callsIn_wide.2 (HT.out _)).mono ?_⟩
      rintro e W4 ⟨rfl, hb4⟩
      have hz4 := hb4.size
      obtain ⟨fn2, tmps2, assign2, body2, hyr2, hR2⟩ := HYT.out W4 (by omega) (HG.out _ _ _ HJ3.out hb4)
      clear d0 d1 d2 d3
      gi_wp2
      refine hR2.mono ?_
      rintro e W5 ⟨rfl, hJ5, hB5⟩
      have hz5 := hB5.1
      have HJ5 := Lib.hid hJ5
      clear hyr2 hR2 hB5 hJ5
      gi_wp2
      go_roundw
      case rel => exact ⟨k + 1, by omega, by go_num, by omega, HJ5⟩
      case measure => simp [intOf]; omega
    · obtain rfl : k = L := by omega
      gi_wp2
      refine bodyPost_end (results_none rfl _ _ _) rfl ?_
      exact ⟨⟨_, rfl⟩, HJ.out⟩
end Go.Proofs.YtehifkdfbiebfaaDoor
