/- ClockSure holds: at the reading of Sure, and at each later one, the tick has surely come, and at no earlier one. No condition. -/
import Derived.Test.YtjanlgnagooioaaRows
import Derived.Test.YtjanlgnagooioaaClockP
import Derived.ProofKit
import Derived.OpenShut
import Derived.ChangeOld
import Derived.Lib.SmallJoins
namespace Go.Proofs.Ytjanlgnagooioaa
open Go.ChangeShapes Go.WideShapes Go.ChangeAt Go.RowKit Go.Joins

theorem own : ownKnob Try.prog.godebug = none := by kernel_rfl
theorem laidOut : laidOutB Try.prog = true := by kernel_rfl

set_option maxHeartbeats 4000000 in
theorem walk_ClockSure (s e d tick r : Int) (w : World) (_ : (Lit.int .i64 s).wf = true) (_ : (Lit.int .i64 e).wf = true) (_ : (Lit.int .i64 d).wf = true) (_ : (Lit.int .i64 tick).wf = true) (_ : (Lit.int .i64 r).wf = true) :
    Calls Try.prog 7 #[.agg #[.int .i64 s, .int .i64 e, .int .i64 d], .int .i64 tick, .int .i64 r] w (Ret (.bool true) w) := by
  by_cases hv : rdB s e d r = false ∨ (rdB s e d r = true ∧ tickB tick = false)
  · rcases hv with g1 | ⟨g1, g2⟩
    all_goals
      go_enter Try.func7, Try.ntmps7
      go_wp2_with (first | (go_at_call 11; refine (head_c _).mono ?_; rintro e w' ⟨rfl, hb⟩; obtain ⟨hz, hc, hf⟩ := bcl hb (by first | (simp; rfl) | rfl)) | (go_at_call 24; refine (reads_c _ _ _ _ _).mono ?_; rintro e w' ⟨rfl, hb⟩; obtain ⟨hz, hc, hf⟩ := bcl hb (by first | (simp; rfl) | rfl)) | (go_at_call 26; refine (Rtick_c _ _).mono ?_; rintro e w' ⟨rfl, hb⟩; obtain ⟨hz, hc, hf⟩ := bcl hb (by first | (simp; rfl) | rfl)))
      go_ret
      refine ⟨rfl, ?_⟩
      (repeat (first | (with_reducible exact bl_refl _) | (with_reducible refine bl_drew ?_) | (with_reducible refine bl_alloc ?_ _) | (with_reducible refine bl_set' ?_ ?_; · (first | omega | (simp; done) | (simp; omega))) | (with_reducible refine bl_last (by assumption) ?_) | (with_reducible refine bl_drewN ?_ _)))
  have g1 : rdB s e d r = true := by cases h : rdB s e d r <;> simp_all
  have g2 : tickB tick = true := by cases h : tickB tick <;> simp_all
  clear hv
  obtain ⟨hv, _, _⟩ := rd_ok_ways g1
  obtain ⟨h0, h1, h2, _, _, h5, h6⟩ := rd_of g1
  have SA := fun w => Sure_ok s e d tick w hv g2
  have PA := Lib.hid (fun w => Passed_ok s e d r tick w g1 g2)
  obtain ⟨hk1, hk2, hk3⟩ := leastF_spec (sureP s e d tick) (sureN s)
  have hw1 := pass_ways s e d r tick (fst_le_lst g1).1
  -- the tick has come at the reading just if the reading is not below that of Sure
  have hiff : (sureK s e d tick < sureN s → ((s + (sureK s e d tick : Int) ≤ r) ↔ tick ≤ fstF s e d r)) ∧ (¬ sureK s e d tick < sureN s → ¬ tick ≤ fstF s e d r) := by
    have hr : r = s + (((r - s).toNat : Nat) : Int) := by omega
    refine ⟨fun hk => ⟨fun hle => ?_, fun ht => ?_⟩, fun hk ht => ?_⟩
    · have h3 := sure_hi (t := tick) hv (r - s).toNat (by omega) (by unfold sureN; omega)
      unfold sureP at h3
      rw [← hr] at h3
      simpa using h3
    · rcases Nat.lt_or_ge (r - s).toNat (sureK s e d tick) with h3 | h3
      · have h4 := hk2 _ h3
        unfold sureP at h4
        rw [← hr] at h4
        simp only [decide_eq_false_iff_not] at h4
        exact absurd ht h4
      · omega
    · have hkn : sureK s e d tick = sureN s := by have : leastF (sureP s e d tick) (sureN s) ≤ sureN s := hk1; have : sureK s e d tick ≤ sureN s := this; omega
      have h4 := hk2 (r - s).toNat (by show (r - s).toNat < sureK s e d tick; rw [hkn]; unfold sureN; omega)
      unfold sureP at h4
      rw [← hr] at h4
      simp only [decide_eq_false_iff_not] at h4
      exact h4 ht
  have hkb : sureK s e d tick < sureN s → s + (sureK s e d tick : Int) ≤ 100000 := fun h => by unfold sureN at h; omega
  clear hk1 hk2 hk3
  generalize passF s e d r tick = pa at *
  generalize fstF s e d r = fa at *
  generalize lstF s e d r = la at *
  generalize sureK s e d tick = k at *
  generalize sureN s = n at *
  obtain ⟨hi1, hi2⟩ := hiff
  by_cases hk : k < n
  · have hkb := hkb hk
    have hi := hi1 hk
    clear hi1 hi2
    rw [if_pos hk, if_pos hk] at SA
    have SA := Lib.hid SA
    by_cases hle : s + (k : Int) ≤ r
    · have ht := hi.1 hle
      have hdl : decide (s + (k : Int) ≤ r) = true := decide_eq_true hle
      clear hi
      rcases hw1 with ⟨c1, c2, c3, c4, rfl⟩ | ⟨c1, c2, c3, c4, rfl⟩ | ⟨c1, c2, c3, c4, rfl⟩
      all_goals first | (exfalso; omega) | skip
      go_enter Try.func7, Try.ntmps7
      go_wp2_with (first | (go_at_call 11; refine (head_c _).mono ?_; rintro e w' ⟨rfl, hb⟩; obtain ⟨hz, hc, hf⟩ := bcl hb (by first | (simp; rfl) | rfl)) | (go_at_call 24; refine (reads_c _ _ _ _ _).mono ?_; rintro e w' ⟨rfl, hb⟩; obtain ⟨hz, hc, hf⟩ := bcl hb (by first | (simp; rfl) | rfl)) | (go_at_call 26; refine (Rtick_c _ _).mono ?_; rintro e w' ⟨rfl, hb⟩; obtain ⟨hz, hc, hf⟩ := bcl hb (by first | (simp; rfl) | rfl)) | (go_at_call 18; refine (SA.out _).mono ?_; rintro e w' ⟨rfl, hb⟩; obtain ⟨hz, hc, hf⟩ := bcl hb (by first | (simp; rfl) | rfl)) | (go_at_call 16; refine (PA.out _).mono ?_; rintro e w' ⟨rfl, hb⟩; obtain ⟨hz, hc, hf⟩ := bcl hb (by first | (simp; rfl) | rfl)))
      go_ret
      refine ⟨rfl, ?_⟩
      (repeat (first | (with_reducible exact bl_refl _) | (with_reducible refine bl_drew ?_) | (with_reducible refine bl_alloc ?_ _) | (with_reducible refine bl_set' ?_ ?_; · (first | omega | (simp; done) | (simp; omega))) | (with_reducible refine bl_last (by assumption) ?_) | (with_reducible refine bl_drewN ?_ _)))
    · have ht : ¬ tick ≤ fa := fun h => hle (hi.2 h)
      have hdl : decide (s + (k : Int) ≤ r) = false := decide_eq_false hle
      clear hi
      rcases hw1 with ⟨c1, c2, c3, c4, rfl⟩ | ⟨c1, c2, c3, c4, rfl⟩ | ⟨c1, c2, c3, c4, rfl⟩
      · exact absurd c1 ht
      all_goals
        go_enter Try.func7, Try.ntmps7
        go_wp2_with (first | (go_at_call 11; refine (head_c _).mono ?_; rintro e w' ⟨rfl, hb⟩; obtain ⟨hz, hc, hf⟩ := bcl hb (by first | (simp; rfl) | rfl)) | (go_at_call 24; refine (reads_c _ _ _ _ _).mono ?_; rintro e w' ⟨rfl, hb⟩; obtain ⟨hz, hc, hf⟩ := bcl hb (by first | (simp; rfl) | rfl)) | (go_at_call 26; refine (Rtick_c _ _).mono ?_; rintro e w' ⟨rfl, hb⟩; obtain ⟨hz, hc, hf⟩ := bcl hb (by first | (simp; rfl) | rfl)) | (go_at_call 18; refine (SA.out _).mono ?_; rintro e w' ⟨rfl, hb⟩; obtain ⟨hz, hc, hf⟩ := bcl hb (by first | (simp; rfl) | rfl)) | (go_at_call 16; refine (PA.out _).mono ?_; rintro e w' ⟨rfl, hb⟩; obtain ⟨hz, hc, hf⟩ := bcl hb (by first | (simp; rfl) | rfl)))
        go_ret
        refine ⟨rfl, ?_⟩
        (repeat (first | (with_reducible exact bl_refl _) | (with_reducible refine bl_drew ?_) | (with_reducible refine bl_alloc ?_ _) | (with_reducible refine bl_set' ?_ ?_; · (first | omega | (simp; done) | (simp; omega))) | (with_reducible refine bl_last (by assumption) ?_) | (with_reducible refine bl_drewN ?_ _)))
  · have ht := hi2 hk
    clear hi1 hi2 hkb
    rw [if_neg hk, if_neg hk] at SA
    have SA := Lib.hid SA
    rcases hw1 with ⟨c1, c2, c3, c4, rfl⟩ | ⟨c1, c2, c3, c4, rfl⟩ | ⟨c1, c2, c3, c4, rfl⟩
    · exact absurd c1 ht
    all_goals
      go_enter Try.func7, Try.ntmps7
      go_wp2_with (first | (go_at_call 11; refine (head_c _).mono ?_; rintro e w' ⟨rfl, hb⟩; obtain ⟨hz, hc, hf⟩ := bcl hb (by first | (simp; rfl) | rfl)) | (go_at_call 24; refine (reads_c _ _ _ _ _).mono ?_; rintro e w' ⟨rfl, hb⟩; obtain ⟨hz, hc, hf⟩ := bcl hb (by first | (simp; rfl) | rfl)) | (go_at_call 26; refine (Rtick_c _ _).mono ?_; rintro e w' ⟨rfl, hb⟩; obtain ⟨hz, hc, hf⟩ := bcl hb (by first | (simp; rfl) | rfl)) | (go_at_call 18; refine (SA.out _).mono ?_; rintro e w' ⟨rfl, hb⟩; obtain ⟨hz, hc, hf⟩ := bcl hb (by first | (simp; rfl) | rfl)) | (go_at_call 16; refine (PA.out _).mono ?_; rintro e w' ⟨rfl, hb⟩; obtain ⟨hz, hc, hf⟩ := bcl hb (by first | (simp; rfl) | rfl)))
      go_ret
      refine ⟨rfl, ?_⟩
      (repeat (first | (with_reducible exact bl_refl _) | (with_reducible refine bl_drew ?_) | (with_reducible refine bl_alloc ?_ _) | (with_reducible refine bl_set' ?_ ?_; · (first | omega | (simp; done) | (simp; omega))) | (with_reducible refine bl_last (by assumption) ?_) | (with_reducible refine bl_drewN ?_ _)))

set_option maxRecDepth 100000 in
theorem lifted_ClockSure (os : Os) (started : os.Started) (H : Type) (enc : TypeId × Value → H) :
    ReturnsInHanded {} Try.checked os 7 .any (Rows.clockSureSpec.pre6 enc Try.prog Try.f7 Rows.clockSureRow.domain false) (Rows.clockSureSpec.post enc Try.prog Try.f7 false true false false) := by
  refine returnsInHanded_of_change (C := Try.checked) own started (by kernel_rfl) Try.func7
    (ChangeSpec.witness6 (enc := enc) (C := Try.checked) false ⟨#[], #[.agg #[.int .i64 0, .int .i64 0, .int .i64 0], .int .i64 0, .int .i64 0], []⟩ 8 (by kernel_rfl) (by kernel_rfl) (by kernel_rfl) (by kernel_rfl)) ?_
  intro W base args ds gs before hval0 hW hcnd _
  have hval : ∀ (j : Nat) t v, Try.f7.params[j]? = some t → args[j]? = some v → Value.okWide Try.prog W .any base t v := hval0
  have hW' := hW
  obtain ⟨p, q, hA0, hV, rfl, hfz, hnd⟩ := hW
  have hA : DataW.TrodAll enc Try.prog W 0 (fun _ => true) true Try.f7.params.toList args.toList ds p := hA0
  rw [Try.params7] at hA hval
  obtain ⟨v0, vs0, d0, ds0, p0, q0, hargs, rfl, rfl, h0, r0⟩ := trodAll_cons hA
  obtain ⟨v1, vs1, d1, ds1, p1, q1, rfl, rfl, rfl, h1, r1⟩ := trodAll_cons r0
  obtain ⟨v2, vs2, d2, ds2, p2, q2, rfl, rfl, rfl, h2, r2⟩ := trodAll_cons r1
  obtain ⟨rfl, rfl, rfl⟩ := trodAll_nil r2
  obtain rfl : args = #[v0, v1, v2] := by cases args; simp_all
  obtain ⟨rfl, rfl⟩ := trodVars_none hV
  have k0 := h0
  have lt0 : ∀ x ∈ p0, x.block < W.heap.size := by obtain ⟨m, hm⟩ := k0; exact DataW.trod_lt m _ _ _ hm
  obtain ⟨c0_0, c0_1, c0_2, y0_0, y0_1, y0_2, m0, rfl, _, _, hy0_0, hy0_1, hy0_2⟩ := open_agg3 Try.underlying23 (by kernel_rfl) (show Try.prog.cellsOf 23 = 3 by kernel_rfl) (hval 0 23 v0 rfl rfl) h0
  obtain ⟨a0_0, e0_0, _, w0_0⟩ := DataW.trod_int Try.underlying3 hy0_0
  simp at e0_0
  subst e0_0
  obtain ⟨a0_1, e0_1, _, w0_1⟩ := DataW.trod_int Try.underlying3 hy0_1
  simp at e0_1
  subst e0_1
  obtain ⟨a0_2, e0_2, _, w0_2⟩ := DataW.trod_int Try.underlying3 hy0_2
  simp at e0_2
  subst e0_2
  have k1 := h1
  have lt1 : ∀ x ∈ p1, x.block < W.heap.size := by obtain ⟨m, hm⟩ := k1; exact DataW.trod_lt m _ _ _ hm
  obtain ⟨a1, rfl, _, _, w1⟩ := open_int Try.underlying3 (hval 1 3 v1 rfl rfl) h1
  have k2 := h2
  have lt2 : ∀ x ∈ p2, x.block < W.heap.size := by obtain ⟨m, hm⟩ := k2; exact DataW.trod_lt m _ _ _ hm
  obtain ⟨a2, rfl, _, _, w2⟩ := open_int Try.underlying3 (hval 2 3 v2 rfl rfl) h2
  clear hA0 hval0
  refine (walk_ClockSure a0_0 a0_1 a0_2 a1 a2 W w0_0 w0_1 w0_2 w1 w2).mono fun e W' ⟨he, bel⟩ => ?_
  subst he
  exact ⟨_, rfl, _, _, _, [], _, [], hW', trodAll_mk1 (shut_bool Try.underlying4 _), (trodAll_cons_mk (Below.trod laidOut (by kernel_rfl) (of_decide_eq_true (by kernel_rfl)) k0 bel lt0) (trodAll_cons_mk (Below.trod laidOut (by kernel_rfl) (of_decide_eq_true (by kernel_rfl)) k1 bel lt1) (trodAll_cons_mk (Below.trod laidOut (by kernel_rfl) (of_decide_eq_true (by kernel_rfl)) k2 bel lt2) trodAll_mk0))), rfl, bel.frame _, fun h => by cases h⟩

theorem clockSure_holds : Rows.ClockSureSaid :=
  OpenClaim.holds_of_wide 7 Try.f7 rfl rfl rfl rfl rfl rfl rfl ⟨rfl, rfl, rfl, rfl, rfl⟩ rfl rfl rfl rfl rfl (by kernel_rfl) Try.func7 (by kernel_rfl)
    (of_decide_eq_true (by kernel_rfl)) (by unfold Func.isWrapper; first | (rw [if_pos (by decide +kernel)]; kernel_rfl) | (rw [if_neg (by decide +kernel)]; exact ⟨rfl, rfl⟩))
    (fun os started H enc _ => lifted_ClockSure os started H enc)
#print axioms clockSure_holds

end Go.Proofs.Ytjanlgnagooioaa
