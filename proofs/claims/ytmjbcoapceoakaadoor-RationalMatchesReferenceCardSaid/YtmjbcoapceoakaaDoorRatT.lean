/- Rational: Text at the chapter's value; the head of the laws of the rationals. -/
import Derived.Test.YtmjbcoapceoakaaDoorRatN
import Derived.Test.YtmjbcoapceoakaaDoorItoa
import Derived.Lib.LaidTab
import Derived.Sort.Grow
namespace Go.Proofs.YtmjbcoapceoakaaDoor
open Go Go.RowKit

/-- The table of the powers of ten lies as the program's text lays it. -/
def PW (w : World) : Prop := Lib.TabIs Tryd.prog w "internal/strconv.uint64pow10" .u64 Lib.pow10Tab
theorem tab_up {w w' : World} (h : PW w) (hb : Below w.heap.size w w') : PW w' := by
  have hgn : Tryd.prog.globalNamed "internal/strconv.uint64pow10" = some 3 := by kernel_rfl
  unfold PW Lib.TabIs World.var? at h ⊢
  rw [hgn] at h ⊢
  simp only [Option.bind_some] at h ⊢
  have hlt : 3 < w.heap.size := by
    rcases Nat.lt_or_ge 3 w.heap.size with h' | h'
    · exact h'
    · rw [Array.getElem?_eq_none h'] at h; cases h
  rw [hb.block 3 hlt]
  exact h
theorem below_grow (w : World) (q : Nat) (os : Array Obj) : Below w.heap.size w (Sort.grow (w.drewN q) os) :=
  ⟨rfl, rfl, rfl, by first | (simp [Sort.grow]; done) | (simp [Sort.grow]; omega), fun i hi => by
    show ((w.drewN q).heap ++ os)[i]? = _
    rw [Array.getElem?_append_left (by show i < w.heap.size; omega)]
    rfl⟩
theorem itoa_m3 (w : World) (h : PW w) : Calls Tryd.prog 54 #[.int .i64 (-3)] w (Ret (.string ⟨#[45, 51]⟩) w) := by
  refine (Tryd.strconv_Itoa (-3) (by decide) (by decide) w h).mono ?_
  rintro e w' ⟨rfl, k, os, rfl⟩
  refine ⟨?_, below_grow _ _ _⟩
  rw [show Lib.itoa (-3) = [45, 51] by decide +kernel]
theorem itoa_2 (w : World) : Calls Tryd.prog 54 #[.int .i64 2] w (Ret (.string ⟨#[50]⟩) w) := by
  refine (Tryd.strconv_Itoa_small 2 (by decide) w).mono ?_
  rintro e w' ⟨rfl, rfl⟩
  refine ⟨?_, bl_refl _⟩
  rw [show Lib.decDigits 2 = [50] by decide +kernel]

set_option maxRecDepth 100000 in
set_option maxHeartbeats 1000000 in
theorem text_head (w : World) (ht : PW w) : Calls Tryd.prog 24 #[.agg #[.int .i64 (-3), .int .i64 2]] w (Ret (.tuple #[.string ⟨#[45, 51, 47, 50]⟩, .int .i64 0]) w) := by
  have hV := fun w => Valid_c (-3) 2 w
  rw [show vR (-3) 2 = true by decide +kernel] at hV
  have HV := Lib.hid hV
  have HT := Lib.hid ht
  have HI := Lib.hid (fun W (hb : Below w.heap.size w W) => itoa_m3 W (tab_up ht hb))
  clear hV ht
  go_enter Tryd.func24, Tryd.ntmps24
  go_wp2_with (first | (go_at_call 13; ((with_reducible refine (HV.out _).mono ?_); rintro e w' ⟨rfl, hb⟩; obtain ⟨hz, hc, hf⟩ := bcl hb (by first | (simp; rfl) | rfl))) | (go_at_call 54; ((with_reducible refine (HI.out _ (by (repeat (first | (with_reducible exact bl_refl _) | (with_reducible refine bl_drew ?_) | (with_reducible refine bl_alloc ?_ _) | (with_reducible refine bl_set' ?_ ?_; · (first | omega | (simp; done) | (simp; omega))) | (with_reducible refine bl_last (by assumption) ?_) | (with_reducible refine bl_drewN ?_ _))))).mono ?_); rintro e w' ⟨rfl, hb⟩; obtain ⟨hz, hc, hf⟩ := bcl hb (by first | (simp; rfl) | rfl))) | (go_at_call 54; ((with_reducible refine (itoa_2 _).mono ?_); rintro e w' ⟨rfl, hb⟩; obtain ⟨hz, hc, hf⟩ := bcl hb (by first | (simp; rfl) | rfl))))
  refine bodyPost_ret (v := .tuple #[.string ⟨#[45, 51, 47, 50]⟩, .int .i64 0]) (by simp only [results, Tryd.results24]; go_simp; rfl) rfl ⟨rfl, ?_⟩
  (repeat (first | (with_reducible exact bl_refl _) | (with_reducible refine bl_drew ?_) | (with_reducible refine bl_alloc ?_ _) | (with_reducible refine bl_set' ?_ ?_; · (first | omega | (simp; done) | (simp; omega))) | (with_reducible refine bl_last (by assumption) ?_) | (with_reducible refine bl_drewN ?_ _)))

set_option maxHeartbeats 400000 in
theorem of_v (n d : Int) (w : World) (h : vR n d = true) : Calls Tryd.prog 38 #[.int .i64 n, .int .i64 d] w (Ret (.agg #[.int .i64 n, .int .i64 d]) w) := by
  obtain ⟨v1, v2, v3, v4, _⟩ := v_of h
  have HM := Lib.hid (fun w => RMake_c n d w ⟨by omega, by omega⟩ ⟨by omega, by omega⟩)
  obtain ⟨m1, m2, m3⟩ := mk_of (n := n) (d := d) (x := n) (y := d) (by omega) h rfl
  have hm : mkV n d = .tuple #[.agg #[.int .i64 n, .int .i64 d], .int .i64 0] := by
    unfold mkV
    rw [m1, m2, m3]
  rw [hm] at HM
  clear h hm m1 m2 m3
  go_enter Tryd.func38, Tryd.ntmps38
  go_wp2_with (go_at_call 27; ((with_reducible refine (HM.out _).mono ?_); rintro e w' ⟨rfl, hb⟩; obtain ⟨hz, hc, hf⟩ := bcl hb (by first | (simp; rfl) | rfl)))
  refine bodyPost_ret (v := .agg #[.int .i64 n, .int .i64 d]) (by simp only [results, Tryd.results38]; go_simp) rfl ⟨rfl, ?_⟩
  (repeat (first | (with_reducible exact bl_refl _) | (with_reducible refine bl_drew ?_) | (with_reducible refine bl_alloc ?_ _) | (with_reducible refine bl_set' ?_ ?_; · (first | omega | (simp; done) | (simp; omega))) | (with_reducible refine bl_last (by assumption) ?_) | (with_reducible refine bl_drewN ?_ _)))
theorem make_a (w : World) : Calls Tryd.prog 12 #[.int .i64 6, .int .i64 (-4)] w (Ret (.tuple #[.agg #[.int .i64 (-3), .int .i64 2], .int .i64 0]) w) := by
  have h := Make_c 6 (-4) w ⟨by decide, by decide⟩ ⟨by decide, by decide⟩
  rw [show mkV 6 (-4) = .tuple #[.agg #[.int .i64 (-3), .int .i64 2], .int .i64 0] by
    unfold mkV
    rw [show mkN 6 (-4) = -3 by decide +kernel, show mkD 6 (-4) = 2 by decide +kernel, show mkE 6 (-4) = 0 by decide +kernel]] at h
  exact h
theorem make_b (w : World) : Calls Tryd.prog 12 #[.int .i64 1, .int .i64 0] w (Ret (.tuple #[.agg #[.int .i64 0, .int .i64 0], .int .i64 7]) w) := by
  have h := Make_c 1 0 w ⟨by decide, by decide⟩ ⟨by decide, by decide⟩
  rw [mk_zero] at h
  exact h
theorem add_a (w : World) : Calls Tryd.prog 19 #[.agg #[.int .i64 1, .int .i64 2], .agg #[.int .i64 1, .int .i64 3]] w (Ret (.tuple #[.agg #[.int .i64 5, .int .i64 6], .int .i64 0]) w) := by
  have h := Add_c 1 2 1 3 w
  rw [addV_eq, show adN 1 2 1 3 = 5 by decide +kernel, show adD 1 2 1 3 = 6 by decide +kernel, show adE 1 2 1 3 = 0 by decide +kernel] at h
  exact h
theorem floor_a (w : World) : Calls Tryd.prog 21 #[.agg #[.int .i64 (-3), .int .i64 2]] w (Ret (.tuple #[.int .i64 (-2), .int .i64 0]) w) := by
  have h := Floor_c (-3) 2 w
  unfold flV at h
  rw [show vR (-3) 2 = true by decide +kernel] at h
  exact h
theorem simple_a (w : World) : Calls Tryd.prog 17 #[.agg #[.int .i64 29, .int .i64 50], .agg #[.int .i64 59, .int .i64 100]] w (Ret (.tuple #[.agg #[.int .i64 7, .int .i64 12], .int .i64 0]) w) := by
  refine (Simple_c 29 50 59 100 w).mono ?_
  rintro e w' ⟨hb, ⟨hg, _⟩ | ⟨_, sN, sD, rfl, h1, h2, h3, h4⟩⟩
  · rw [show smG 29 50 59 100 = true by decide +kernel] at hg
    cases hg
  · obtain ⟨q1, q2⟩ := h4 7 12 (by decide) (by decide) (by decide)
    have h5 := (v_of h1).1
    have hs : sD = 1 ∨ sD = 2 ∨ sD = 3 ∨ sD = 4 ∨ sD = 5 ∨ sD = 6 ∨ sD = 7 ∨ sD = 8 ∨ sD = 9 ∨ sD = 10 ∨ sD = 11 ∨ sD = 12 := by omega
    have : sN = 7 ∧ sD = 12 := by
      rcases hs with rfl | rfl | rfl | rfl | rfl | rfl | rfl | rfl | rfl | rfl | rfl | rfl <;> omega
    obtain ⟨rfl, rfl⟩ := this
    exact ⟨rfl, hb⟩
theorem simple_b (w : World) : Calls Tryd.prog 17 #[.agg #[.int .i64 (-5), .int .i64 2], .agg #[.int .i64 (-4), .int .i64 3]] w (Ret (.tuple #[.agg #[.int .i64 (-2), .int .i64 1], .int .i64 0]) w) := by
  refine (Simple_c (-5) 2 (-4) 3 w).mono ?_
  rintro e w' ⟨hb, ⟨hg, _⟩ | ⟨_, sN, sD, rfl, h1, h2, h3, h4⟩⟩
  · rw [show smG (-5) 2 (-4) 3 = true by decide +kernel] at hg
    cases hg
  · obtain ⟨q1, q2⟩ := h4 (-2) 1 (by decide) (by decide) (by decide)
    have h5 := (v_of h1).1
    have e1 : sD = 1 := by omega
    subst e1
    have e2 : sN = -2 := by omega
    subst e2
    exact ⟨rfl, hb⟩
end Go.Proofs.YtmjbcoapceoakaaDoor
