/- RationalSimple: the walk of the law. -/
import Derived.Test.YtmjbcoapceoakaaDoorRatU
import Derived.Deep.Cut
namespace Go.Proofs.YtmjbcoapceoakaaDoor
open Go.RowKit

theorem cmp_val {an ad bn bd : Int} (h1 : vR an ad = true) (h2 : vR bn bd = true) : ∃ u : Int, (∀ w, Calls Tryd.prog 18 #[.agg #[.int .i64 an, .int .i64 ad], .agg #[.int .i64 bn, .int .i64 bd]] w (Ret (.tuple #[.int .i64 u, .int .i64 0]) w)) ∧ (u ≤ 0 ↔ an * bd ≤ bn * ad) := by
  have HC := fun w => Cmp_c an ad bn bd w
  rw [cmp_good (by rw [h1, h2]; rfl)] at HC
  refine ⟨_, HC, ?_⟩
  rcases sg_ways (an * bd - bn * ad) with ⟨g, hs⟩ | ⟨g, hs⟩ | ⟨g, hs⟩ <;> rw [hs] <;> omega
theorem cmp_inv {an ad bn bd : Int} (h : (vR an ad && vR bn bd) = false) (w : World) : Calls Tryd.prog 18 #[.agg #[.int .i64 an, .int .i64 ad], .agg #[.int .i64 bn, .int .i64 bd]] w (Ret (.tuple #[.int .i64 0, .int .i64 1]) w) := by
  have HC := Cmp_c an ad bn bd w
  rw [cmp_bad h] at HC
  exact HC
set_option maxRecDepth 100000 in
set_option maxHeartbeats 8000000 in
theorem walk_RationalSimple (an ad bn bd cn cd : Int) (w : World) (_ : (Lit.int .i64 an).wf = true) (_ : (Lit.int .i64 ad).wf = true) (_ : (Lit.int .i64 bn).wf = true) (_ : (Lit.int .i64 bd).wf = true) (_ : (Lit.int .i64 cn).wf = true) (_ : (Lit.int .i64 cd).wf = true) (ht : PW w) :
    Calls Tryd.prog 5 #[.agg #[.int .i64 an, .int .i64 ad], .agg #[.int .i64 bn, .int .i64 bd], .agg #[.int .i64 cn, .int .i64 cd]] w (Ret (.bool true) w) := by
  have HH := Lib.hid (fun w h => head02_c w h)
  have HT := Lib.hid ht
  clear ht
  cases hg : smG an ad bn bd
  · have HS : Hid (∀ w, Calls Tryd.prog 17 #[.agg #[.int .i64 an, .int .i64 ad], .agg #[.int .i64 bn, .int .i64 bd]] w (Ret (.tuple #[.agg #[.int .i64 0, .int .i64 0], .int .i64 1]) w)) := Lib.hid (fun w => (Simple_c an ad bn bd w).mono (by
      rintro e w' ⟨hb, ⟨_, rfl⟩ | ⟨h, _⟩⟩
      · exact ⟨rfl, hb⟩
      · rw [hg] at h; cases h))
    have hways : ∃ u v : Int, (∀ w, Calls Tryd.prog 18 #[.agg #[.int .i64 an, .int .i64 ad], .agg #[.int .i64 bn, .int .i64 bd]] w (Ret (.tuple #[.int .i64 u, .int .i64 v]) w)) ∧ (v = 1 ∨ (v = 0 ∧ 0 < u)) := by
      cases h : (vR an ad && vR bn bd)
      · exact ⟨0, 1, cmp_inv h, Or.inl rfl⟩
      · have h' : vR an ad = true ∧ vR bn bd = true := by simpa using h
        obtain ⟨u, hu, hi⟩ := cmp_val h'.1 h'.2
        refine ⟨u, 0, hu, Or.inr ⟨rfl, ?_⟩⟩
        unfold smG at hg
        rw [h'.1, h'.2] at hg
        simp only [Bool.true_and, decide_eq_false_iff_not] at hg
        omega
    obtain ⟨u, v, hC, hv⟩ := hways
    have HC := Lib.hid hC
    clear hC hg
    rcases hv with rfl | ⟨rfl, hu⟩
    all_goals
      go_enter Tryd.func5, Tryd.ntmps5
      go_wp2_with (first | (go_at_call 11; ((with_reducible refine (HH.out _ (tab_up HT.out (by (repeat (first | (with_reducible exact bl_refl _) | (with_reducible refine bl_drew ?_) | (with_reducible refine bl_alloc ?_ _) | (with_reducible refine bl_set' ?_ ?_; · (first | omega | (simp; done) | (simp; omega))) | (with_reducible refine bl_last (by assumption) ?_) | (with_reducible refine bl_drewN ?_ _)))))).mono ?_); rintro e w' ⟨rfl, hb⟩; obtain ⟨hz, hc, hf⟩ := bcl hb (by first | (simp; rfl) | rfl))) | (go_at_call 17; ((with_reducible refine (HS.out _).mono ?_); rintro e w' ⟨rfl, hb⟩; obtain ⟨hz, hc, hf⟩ := bcl hb (by first | (simp; rfl) | rfl))) | (go_at_call 18; ((with_reducible refine (HC.out _).mono ?_); rintro e w' ⟨rfl, hb⟩; obtain ⟨hz, hc, hf⟩ := bcl hb (by first | (simp; rfl) | rfl))))
      go_ret
      refine ⟨rfl, ?_⟩
      (repeat (first | (with_reducible exact bl_refl _) | (with_reducible refine bl_drew ?_) | (with_reducible refine bl_alloc ?_ _) | (with_reducible refine bl_set' ?_ ?_; · (first | omega | (simp; done) | (simp; omega))) | (with_reducible refine bl_last (by assumption) ?_) | (with_reducible refine bl_drewN ?_ _)))
  have hg' := hg
  unfold smG at hg'
  simp only [Bool.and_eq_true, decide_eq_true_eq] at hg'
  obtain ⟨va, vb, hab⟩ := hg'
  obtain ⟨u, hU, hu⟩ := cmp_val va vb
  have hu0 : u ≤ 0 := hu.2 hab
  have HU := Lib.hid hU
  have HG := Lib.hid hg
  have HVA := Lib.hid va
  have HVB := Lib.hid vb
  clear hU hu hab hg va vb
  go_enter Tryd.func5, Tryd.ntmps5
  go_wp2_with (go_at_call 11; ((with_reducible refine (HH.out _ (tab_up HT.out (by (repeat (first | (with_reducible exact bl_refl _) | (with_reducible refine bl_drew ?_) | (with_reducible refine bl_alloc ?_ _) | (with_reducible refine bl_set' ?_ ?_; · (first | omega | (simp; done) | (simp; omega))) | (with_reducible refine bl_last (by assumption) ?_) | (with_reducible refine bl_drewN ?_ _)))))).mono ?_); rintro e w' ⟨rfl, hb⟩; obtain ⟨hz, hc, hf⟩ := bcl hb (by first | (simp; rfl) | rfl)))
  refine (Simple_c an ad bn bd _).mono ?_
  rintro e w2 ⟨hb2, ⟨h, _⟩ | ⟨_, sn, sd, rfl, vs, p1, p2, p3⟩⟩
  · rw [HG.out] at h
    cases h
  obtain ⟨hz2, hc2, hf2⟩ := bcl hb2 (by first | (simp; rfl) | rfl)
  obtain ⟨x, hX, hx⟩ := cmp_val HVA.out vs
  obtain ⟨y, hY, hy⟩ := cmp_val vs HVB.out
  have hx0 : x ≤ 0 := hx.2 p1
  have hy0 : y ≤ 0 := hy.2 p2
  have HX := Lib.hid hX
  have HY := Lib.hid hY
  obtain ⟨s1, s2, s3, s4, _⟩ := v_of vs
  have HP3 := Lib.hid p3
  clear hX hY hx hy p1 p2 vs p3
  cases hvc : vR cn cd
  · have HZ := Lib.hid (fun w => cmp_inv (an := an) (ad := ad) (bn := cn) (bd := cd) (by rw [hvc, Bool.and_false]) w)
    have HW := Lib.hid (fun w => cmp_inv (an := cn) (ad := cd) (bn := bn) (bd := bd) (by rw [hvc, Bool.false_and]) w)
    clear hvc
    go_wp2_with (first | (go_at_call 18; ((with_reducible refine (HU.out _).mono ?_); rintro e w' ⟨rfl, hb⟩; obtain ⟨hz, hc, hf⟩ := bcl hb (by first | (simp; rfl) | rfl))) | (go_at_call 18; ((with_reducible refine (HX.out _).mono ?_); rintro e w' ⟨rfl, hb⟩; obtain ⟨hz, hc, hf⟩ := bcl hb (by first | (simp; rfl) | rfl))) | (go_at_call 18; ((with_reducible refine (HY.out _).mono ?_); rintro e w' ⟨rfl, hb⟩; obtain ⟨hz, hc, hf⟩ := bcl hb (by first | (simp; rfl) | rfl))) | (go_at_call 18; ((with_reducible refine (HZ.out _).mono ?_); rintro e w' ⟨rfl, hb⟩; obtain ⟨hz, hc, hf⟩ := bcl hb (by first | (simp; rfl) | rfl))) | (go_at_call 18; ((with_reducible refine (HW.out _).mono ?_); rintro e w' ⟨rfl, hb⟩; obtain ⟨hz, hc, hf⟩ := bcl hb (by first | (simp; rfl) | rfl))))
    go_ret
    refine ⟨rfl, ?_⟩
    (repeat (first | (with_reducible exact bl_refl _) | (with_reducible refine bl_drew ?_) | (with_reducible refine bl_alloc ?_ _) | (with_reducible refine bl_set' ?_ ?_; · (first | omega | (simp; done) | (simp; omega))) | (with_reducible refine bl_last (by assumption) ?_) | (with_reducible refine bl_drewN ?_ _)))
  obtain ⟨z, hZ, hz0⟩ := cmp_val HVA.out hvc
  obtain ⟨y', hW, hw0⟩ := cmp_val hvc HVB.out
  obtain ⟨t1, t2, t3, t4, _⟩ := v_of hvc
  have HZ := Lib.hid hZ
  have HW := Lib.hid hW
  clear hZ hW hvc
  by_cases hzz : 0 < z
  · clear hz0 hw0
    go_wp2_with (first | (go_at_call 18; ((with_reducible refine (HU.out _).mono ?_); rintro e w' ⟨rfl, hb⟩; obtain ⟨hz, hc, hf⟩ := bcl hb (by first | (simp; rfl) | rfl))) | (go_at_call 18; ((with_reducible refine (HX.out _).mono ?_); rintro e w' ⟨rfl, hb⟩; obtain ⟨hz, hc, hf⟩ := bcl hb (by first | (simp; rfl) | rfl))) | (go_at_call 18; ((with_reducible refine (HY.out _).mono ?_); rintro e w' ⟨rfl, hb⟩; obtain ⟨hz, hc, hf⟩ := bcl hb (by first | (simp; rfl) | rfl))) | (go_at_call 18; ((with_reducible refine (HZ.out _).mono ?_); rintro e w' ⟨rfl, hb⟩; obtain ⟨hz, hc, hf⟩ := bcl hb (by first | (simp; rfl) | rfl))) | (go_at_call 18; ((with_reducible refine (HW.out _).mono ?_); rintro e w' ⟨rfl, hb⟩; obtain ⟨hz, hc, hf⟩ := bcl hb (by first | (simp; rfl) | rfl))))
    go_ret
    refine ⟨rfl, ?_⟩
    (repeat (first | (with_reducible exact bl_refl _) | (with_reducible refine bl_drew ?_) | (with_reducible refine bl_alloc ?_ _) | (with_reducible refine bl_set' ?_ ?_; · (first | omega | (simp; done) | (simp; omega))) | (with_reducible refine bl_last (by assumption) ?_) | (with_reducible refine bl_drewN ?_ _)))
  have hz1 : z ≤ 0 := by omega
  by_cases hww : 0 < y'
  · clear hz0 hw0
    go_wp2_with (first | (go_at_call 18; ((with_reducible refine (HU.out _).mono ?_); rintro e w' ⟨rfl, hb⟩; obtain ⟨hz, hc, hf⟩ := bcl hb (by first | (simp; rfl) | rfl))) | (go_at_call 18; ((with_reducible refine (HX.out _).mono ?_); rintro e w' ⟨rfl, hb⟩; obtain ⟨hz, hc, hf⟩ := bcl hb (by first | (simp; rfl) | rfl))) | (go_at_call 18; ((with_reducible refine (HY.out _).mono ?_); rintro e w' ⟨rfl, hb⟩; obtain ⟨hz, hc, hf⟩ := bcl hb (by first | (simp; rfl) | rfl))) | (go_at_call 18; ((with_reducible refine (HZ.out _).mono ?_); rintro e w' ⟨rfl, hb⟩; obtain ⟨hz, hc, hf⟩ := bcl hb (by first | (simp; rfl) | rfl))) | (go_at_call 18; ((with_reducible refine (HW.out _).mono ?_); rintro e w' ⟨rfl, hb⟩; obtain ⟨hz, hc, hf⟩ := bcl hb (by first | (simp; rfl) | rfl))))
    go_ret
    refine ⟨rfl, ?_⟩
    (repeat (first | (with_reducible exact bl_refl _) | (with_reducible refine bl_drew ?_) | (with_reducible refine bl_alloc ?_ _) | (with_reducible refine bl_set' ?_ ?_; · (first | omega | (simp; done) | (simp; omega))) | (with_reducible refine bl_last (by assumption) ?_) | (with_reducible refine bl_drewN ?_ _)))
  have hw1 : y' ≤ 0 := by omega
  obtain ⟨q1, q2⟩ := HP3.out cn cd (by omega) (hz0.1 hz1) (hw0.1 hw1)
  clear hz0 hw0 hzz hww
  have d1 : decide (sd ≤ cd) = true := decide_eq_true q1
  have d3 : decide (max sn (-sn) ≤ max cn (-cn)) = true := decide_eq_true (by omega)
  go_wp2_with (first | (go_at_call 18; ((with_reducible refine (HU.out _).mono ?_); rintro e w' ⟨rfl, hb⟩; obtain ⟨hz, hc, hf⟩ := bcl hb (by first | (simp; rfl) | rfl))) | (go_at_call 18; ((with_reducible refine (HX.out _).mono ?_); rintro e w' ⟨rfl, hb⟩; obtain ⟨hz, hc, hf⟩ := bcl hb (by first | (simp; rfl) | rfl))) | (go_at_call 18; ((with_reducible refine (HY.out _).mono ?_); rintro e w' ⟨rfl, hb⟩; obtain ⟨hz, hc, hf⟩ := bcl hb (by first | (simp; rfl) | rfl))) | (go_at_call 18; ((with_reducible refine (HZ.out _).mono ?_); rintro e w' ⟨rfl, hb⟩; obtain ⟨hz, hc, hf⟩ := bcl hb (by first | (simp; rfl) | rfl))) | (go_at_call 18; ((with_reducible refine (HW.out _).mono ?_); rintro e w' ⟨rfl, hb⟩; obtain ⟨hz, hc, hf⟩ := bcl hb (by first | (simp; rfl) | rfl))))
  go_ret
  refine ⟨rfl, ?_⟩
  (repeat (first | (with_reducible exact bl_refl _) | (with_reducible refine bl_drew ?_) | (with_reducible refine bl_alloc ?_ _) | (with_reducible refine bl_set' ?_ ?_; · (first | omega | (simp; done) | (simp; omega))) | (with_reducible refine bl_last (by assumption) ?_) | (with_reducible refine bl_drewN ?_ _)))
end Go.Proofs.YtmjbcoapceoakaaDoor
