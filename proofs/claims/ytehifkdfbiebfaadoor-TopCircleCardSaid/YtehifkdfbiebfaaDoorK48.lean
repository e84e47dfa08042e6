/- TopTuned's and TopCircle's head. -/
import Derived.Test.YtehifkdfbiebfaaDoorK33
import Derived.Test.YtehifkdfbiebfaaDoorK41
import Derived.Test.YtehifkdfbiebfaaDoorK18
import Derived.Test.YtehifkdfbiebfaaDoorK38
import Derived.Test.YtehifkdfbiebfaaDoorK09
namespace Go.Proofs.YtehifkdfbiebfaaDoor
open Go Go.RowKit

def hdG : Nat → Nat → Int := fun _ i => if i = 0 then -1 else if i = 1 then 1 else 0
def hdL : List Bt := btL (frK [0, 1]) hdG 2
def hdR : List Rd := [⟨0, 1, 7019550000, 7019550012⟩, ⟨1, 2, 7019550000, 7019550012⟩, ⟨0, 2, 13824037104, 13824037140⟩]
theorem hd_ok : okS (frK [0, 1]) hdG 0 = true ∧ okS (frK [0, 1]) hdG 1 = true := by constructor <;> decide +kernel
theorem hd_ply : plyG 3 hdL 200 1 2 (fun _ => (0, 1)) = true := by decide +kernel
def getP (o : Option (Nat → Int × Int)) : Nat → Int × Int := match o with | some g => g | none => fun _ => (0, 0)
theorem getP_eq {o : Option (Nat → Int × Int)} {g : Nat → Int × Int} (h : o = some g) : getP o = g := by rw [h]; rfl
theorem hd_some : (plO hdL (200, 1) (fun _ => (0, 1)) hdL.length).isSome = true := by decide +kernel
theorem hd_two : getP (plO hdL (200, 1) (fun _ => (0, 1)) hdL.length) 2 = (450, 1) := by decide +kernel
theorem hd_way : wayF (frK [0, 1]) hdG 2 0 = -2 ∧ wayF (frK [0, 1]) hdG 2 1 = 2 ∧ wayF (frK [0, 1]) hdG 2 2 = 0 ∧ wayF (frK [0, 1]) hdG 2 3 = 0 ∧ wayF (frK [0, 1]) hdG 2 4 = 0 ∧ wayF (frK [0, 1]) hdG 2 5 = 0 := by decide +kernel
theorem hd_fifth : szL (ex12 (-1) 1 0 0 0 0) 6 = 7019550000 ∧ szH (ex12 (-1) 1 0 0 0 0) 6 = 7019550012 := by decide +kernel
theorem hd_tone : szL (ex12 2 (-2) 1 0 0 0) 6 = 13824037104 ∧ szH (ex12 2 (-2) 1 0 0 0) 6 = 13824037140 := by decide +kernel
theorem hd_rd : RdOk 3 hdR := by
  refine ⟨⟨by omega, by omega⟩, by decide, fun i hi => ?_⟩
  have h3 : i = 0 ∨ i = 1 ∨ i = 2 := by have : hdR.length = 3 := rfl; omega
  rcases h3 with rfl | rfl | rfl <;> decide
theorem hd_no (p : Nat → Int) : ¬ Feas hdR p := fun h => by
  have h1 : p 0 ≤ p 1 + -7019550000 := h 1 (by decide)
  have h2 : p 1 ≤ p 2 + -7019550000 := h 3 (by decide)
  have h3 : p 2 ≤ p 0 + 13824037140 := h 4 (by decide)
  omega
set_option maxRecDepth 100000 in
set_option maxHeartbeats 16000000 in
theorem headT_c (w : World) (hg : LG w) : Calls Tryd.prog 7 #[] w (Ret (.bool true) w) := by
  have HF := Lib.hid (fun W (hb : Below w.heap.size w W) => size18_c (-1) 1 0 0 0 0 W (hg.up hb) (by decide +kernel))
  have HT := Lib.hid (fun W (hb : Below w.heap.size w W) => size18_c 2 (-2) 1 0 0 0 W (hg.up hb) (by decide +kernel))
  simp only [hd_fifth.1, hd_fifth.2, hd_tone.1, hd_tone.2] at HF HT
  clear hg
  go_enter Tryd.func7, Tryd.ntmps7
  go_wp2_with fail
  refine calls_letter ?_
  intro W1 hW1
  have b1 : Below w.heap.size w W1 := by rw [hW1]; (repeat (first | (with_reducible exact bl_refl _) | (with_reducible refine bl_drew ?_) | (with_reducible refine bl_alloc ?_ _) | (with_reducible refine bl_set' ?_ ?_; · (first | omega | (simp; done) | (simp; omega))) | (with_reducible refine bl_last (by assumption) ?_) | (with_reducible refine bl_drewN ?_ _)))
  have F1 : Blk W1 w.heap.size 3 #[.int .i64 0, .int .i64 1] := by rw [hW1]; exact (Blk.new _ _ _).alloc _
  have V1 : Blk W1 (w.heap.size + 1) 27 #[.int .i64 (-1), .int .i64 1, .int .i64 0, .int .i64 0, .int .i64 0, .int .i64 0, .int .i64 (-1), .int .i64 1, .int .i64 0, .int .i64 0, .int .i64 0, .int .i64 0] := by rw [hW1]; exact blkAt _ _ _ _ (by simp)
  clear hW1
  have hf1 : IntsR W1 W1.heap.size (some ⟨w.heap.size, 0, none⟩) [0, 1] := fun _ => ⟨_, 0, rfl, F1.lt, fun i x hx => by
    rw [Nat.zero_add, F1.cell]
    rcases i with _ | _ | i
    · have e : x = 0 := by simpa using hx.symm
      subst e; rfl
    · have e : x = 1 := by simpa using hx.symm
      subst e; rfl
    · simp at hx⟩
  have hv1 : VecsR W1 W1.heap.size (some ⟨w.heap.size + 1, 0, none⟩) 2 hdG := fun _ => ⟨_, 0, rfl, V1.lt, fun k hk i hi => by
    rw [V1.cell]
    rcases (show k = 0 ∨ k = 1 by omega) with rfl | rfl <;> rcases lt6 hi with rfl | rfl | rfl | rfl | rfl | rfl <;> rfl⟩
  refine (list18_c [0, 1] hdG 2 (by omega) _ _ 2 2 W1 hf1 (by decide) hv1).mono ?_
  rintro e w2 ⟨hb2, ⟨⟨k, hk, hno⟩, _⟩ | ⟨_, A1, c1, A2, c2, rfl, hl2, hv2⟩⟩
  · exfalso
    rcases (show k = 0 ∨ k = 1 by omega) with rfl | rfl
    · rw [hd_ok.1] at hno; cases hno
    · rw [hd_ok.2] at hno; cases hno
  have HL2 := Lib.hid hl2
  have HV2 := Lib.hid hv2
  have B2 : Below w.heap.size w w2 := bl_trans b1 hb2
  clear hl2 hv2 hf1 hv1 F1 V1 b1 hb2
  simp only
  go_wp2_with fail
  refine calls_letter ?_
  intro W3 hW3
  have b3 : Below w2.heap.size w2 W3 := by rw [hW3]; (repeat (first | (with_reducible exact bl_refl _) | (with_reducible refine bl_drew ?_) | (with_reducible refine bl_alloc ?_ _) | (with_reducible refine bl_set' ?_ ?_; · (first | omega | (simp; done) | (simp; omega))) | (with_reducible refine bl_last (by assumption) ?_) | (with_reducible refine bl_drewN ?_ _)))
  have R3 : Blk W3 w2.heap.size 25 #[.int .i64 0, .int .i64 1, .int .i64 0, .int .i64 1] := by rw [hW3]; exact Blk.new _ _ _
  clear hW3
  have ho3 : RatsR W3 W3.heap.size (some ⟨w2.heap.size, 0, none⟩) 2 (fun _ => (0, 1)) := fun _ => ⟨_, 0, rfl, R3.lt, fun k hk => by
    rw [R3.cell, R3.cell]
    rcases (show k = 0 ∨ k = 1 by omega) with rfl | rfl <;> exact ⟨rfl, rfl⟩⟩
  refine (Play_c 3 hdL 200 1 2 (fun _ => (0, 1)) A1 _ c1 2 W3 (HL2.out.up b3) ho3 (by decide) (by decide)).mono ?_
  rintro e w4 ⟨hb4, ⟨hno, _⟩ | ⟨_, hnone, _⟩ | ⟨_, g, A4, hg4, rfl, hr4⟩⟩
  · rw [hd_ply] at hno; cases hno
  · have := hd_some; rw [hnone] at this; cases this
  have hg2 : g 2 = (450, 1) := by have := hd_two; rw [getP_eq hg4] at this; exact this
  obtain ⟨b4, o4, rfl, hb4', hc4⟩ := hr4 (by decide)
  obtain ⟨d0, d1⟩ := hc4 2 (by decide)
  rw [hg2] at d0 d1
  obtain ⟨bw, ow, rfl, hbw, hcw⟩ := HV2.out (by omega)
  have B4 : Below w2.heap.size w2 w4 := bl_trans b3 hb4
  have B4w : Below w.heap.size w w4 := bl_trans B2 B4
  have hww : ∀ i, i < 6 → w4.cell? ⟨bw, ow + 2 * 6 + i, none⟩ = some (.int .i64 (wayF (frK [0, 1]) hdG 2 i)) := fun i hi => (B4.cell (p := ⟨bw, ow + 2 * 6 + i, none⟩) hbw).trans (hcw 2 (by omega) i hi)
  have e0 := hww 0 (by omega)
  have e1 := hww 1 (by omega)
  have e2 := hww 2 (by omega)
  have e3 := hww 3 (by omega)
  have e4 := hww 4 (by omega)
  have e5 := hww 5 (by omega)
  obtain ⟨q0, q1, q2, q3, q4, q5⟩ := hd_way
  rw [q0] at e0
  rw [q1] at e1
  rw [q2] at e2
  rw [q3] at e3
  rw [q4] at e4
  rw [q5] at e5
  have zw : bw < w4.heap.size := by have := B4.size; omega
  clear hc4 hcw hww HL2 HV2 hr4 hg4 hg2 ho3 R3 q0 q1 q2 q3 q4 q5 B2 b3 hb4 B4 hbw
  have h3 : (3 : Int).toNat = 3 := rfl
  simp only [h3]
  go_wp2_with (go_at_call 9; first | ((with_reducible refine (HF.out _ (by (repeat (first | (with_reducible exact bl_refl _) | (with_reducible refine bl_drew ?_) | (with_reducible refine bl_alloc ?_ _) | (with_reducible refine bl_set' ?_ ?_; · (first | omega | (simp; done) | (simp; omega))) | (with_reducible refine bl_last (by assumption) ?_) | (with_reducible refine bl_drewN ?_ _))))).mono ?_); rintro e w5 ⟨rfl, hb5⟩; obtain ⟨hz5, hc5, hf5⟩ := bcl hb5 (by first | (simp; rfl) | rfl)) | ((with_reducible refine (HT.out _ (by (repeat (first | (with_reducible exact bl_refl _) | (with_reducible refine bl_drew ?_) | (with_reducible refine bl_alloc ?_ _) | (with_reducible refine bl_set' ?_ ?_; · (first | omega | (simp; done) | (simp; omega))) | (with_reducible refine bl_last (by assumption) ?_) | (with_reducible refine bl_drewN ?_ _))))).mono ?_); rintro e w6 ⟨rfl, hb6⟩; obtain ⟨hz6, hc6, hf6⟩ := bcl hb6 (by first | (simp; rfl) | rfl)))
  refine calls_letter ?_
  intro W7 hW7
  have k7 : Below w4.heap.size w4 W7 := by rw [hW7]; (repeat (first | (with_reducible exact bl_refl _) | (with_reducible refine bl_drew ?_) | (with_reducible refine bl_alloc ?_ _) | (with_reducible refine bl_set' ?_ ?_; · (first | omega | (simp; done) | (simp; omega))) | (with_reducible refine bl_last (by assumption) ?_) | (with_reducible refine bl_drewN ?_ _)))
  have R7 : Blk W7 (w6.heap.size + 1) 41 #[.int .i64 0, .int .i64 1, .int .i64 7019550000, .int .i64 7019550012, .int .i64 1, .int .i64 2, .int .i64 7019550000, .int .i64 7019550012, .int .i64 0, .int .i64 2, .int .i64 13824037104, .int .i64 13824037140] := by rw [hW7]; exact blkAt _ _ _ _ (by simp)
  clear hW7 hz5 hc5 hf5 hz6 hc6 hf6 hb5 hb6
  have hr7 : Rds W7 W7.heap.size (some ⟨w6.heap.size + 1, 0, none⟩) hdR := fun _ => ⟨_, 0, rfl, R7.lt, fun k hk => by
    rw [R7.cell, R7.cell, R7.cell, R7.cell]
    have hk' : k < 3 := hk
    rcases (show k = 0 ∨ k = 1 ∨ k = 2 by omega) with rfl | rfl | rfl <;> exact ⟨rfl, rfl, rfl, rfl⟩⟩
  refine (Solve_lie hd_rd hd_no (some ⟨w6.heap.size + 1, 0, none⟩) 3 W7 hr7).mono ?_
  rintro e w8 ⟨hb8, c, A8, c8, _, rfl, _⟩
  have B8 : Below w4.heap.size w4 w8 := bl_trans k7 hb8
  obtain ⟨hz, hc, hf⟩ := bcl B8 (by first | (simp; rfl) | rfl)
  have BF : Below w.heap.size w w8 := bl_trans B4w B8
  clear hr7 R7 k7 hb8
  simp only
  go_wp2
  go_ret
  exact ⟨rfl, BF⟩
end Go.Proofs.YtehifkdfbiebfaaDoor
