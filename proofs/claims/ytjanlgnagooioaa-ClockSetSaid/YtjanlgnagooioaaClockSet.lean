/- ClockSet holds: the clock that is set is valid, shows the reading, and all ticks of the window are possible then; with an Error less by one one of them is not. No condition. -/
import Derived.Test.YtjanlgnagooioaaRows
import Derived.Test.YtjanlgnagooioaaClockP
import Derived.ProofKit
import Derived.OpenShut
import Derived.ChangeOld
import Derived.Lib.SmallJoins
namespace Go.Proofs.Ytjanlgnagooioaa
open Go.ChangeShapes Go.WideShapes Go.ChangeAt Go.RowKit Go.Joins

theorem own : ownKnob Try.prog.godebug = none := by kernel_rfl
theorem laidOut : laidOutB Try.prog = true := by kernel_rfl

set_option maxHeartbeats 4000000 in
theorem walk_ClockSet (r a b d : Int) (w : World) (_ : (Lit.int .i64 r).wf = true) (_ : (Lit.int .i64 a).wf = true) (_ : (Lit.int .i64 b).wf = true) (_ : (Lit.int .i64 d).wf = true) :
    Calls Try.prog 8 #[.int .i64 r, .agg #[.int .i64 a, .int .i64 b], .int .i64 d] w (Ret (.bool true) w) := by
  cases hs : setB r a b d
  · have S0 := Lib.hid (fun w => Set_no r a b d w hs)
    go_enter Try.func8, Try.ntmps8
    go_wp2_with (first | (go_at_call 11; refine (head_c _).mono ?_; rintro e w' ⟨rfl, hb⟩; obtain ⟨hz, hc, hf⟩ := bcl hb (by first | (simp; rfl) | rfl)) | (go_at_call 24; refine (reads_c _ _ _ _ _).mono ?_; rintro e w' ⟨rfl, hb⟩; obtain ⟨hz, hc, hf⟩ := bcl hb (by first | (simp; rfl) | rfl)) | (go_at_call 20; refine (S0.out _).mono ?_; rintro e w' ⟨rfl, hb⟩; obtain ⟨hz, hc, hf⟩ := bcl hb (by first | (simp; rfl) | rfl)))
    go_ret
    refine ⟨rfl, ?_⟩
    (repeat (first | (with_reducible exact bl_refl _) | (with_reducible refine bl_drew ?_) | (with_reducible refine bl_alloc ?_ _) | (with_reducible refine bl_set' ?_ ?_; · (first | omega | (simp; done) | (simp; omega))) | (with_reducible refine bl_last (by assumption) ?_) | (with_reducible refine bl_drewN ?_ _)))
  by_cases hm : 1000 < errF r a b
  · have S0 := Lib.hid (fun w => Set_big r a b d w hs hm)
    go_enter Try.func8, Try.ntmps8
    go_wp2_with (first | (go_at_call 11; refine (head_c _).mono ?_; rintro e w' ⟨rfl, hb⟩; obtain ⟨hz, hc, hf⟩ := bcl hb (by first | (simp; rfl) | rfl)) | (go_at_call 24; refine (reads_c _ _ _ _ _).mono ?_; rintro e w' ⟨rfl, hb⟩; obtain ⟨hz, hc, hf⟩ := bcl hb (by first | (simp; rfl) | rfl)) | (go_at_call 20; refine (S0.out _).mono ?_; rintro e w' ⟨rfl, hb⟩; obtain ⟨hz, hc, hf⟩ := bcl hb (by first | (simp; rfl) | rfl)))
    go_ret
    refine ⟨rfl, ?_⟩
    (repeat (first | (with_reducible exact bl_refl _) | (with_reducible refine bl_drew ?_) | (with_reducible refine bl_alloc ?_ _) | (with_reducible refine bl_set' ?_ ?_; · (first | omega | (simp; done) | (simp; omega))) | (with_reducible refine bl_last (by assumption) ?_) | (with_reducible refine bl_drewN ?_ _)))
  have S0 := fun w => Set_ok r a b d w hs (by omega)
  obtain ⟨_, _, h3, h4, h5, h6, h7, h8, h9⟩ := set_ok_ways hs
  have he : r - a ≤ errF r a b ∧ b - r ≤ errF r a b ∧ (errF r a b = r - a ∨ errF r a b = b - r) ∧ 0 ≤ errF r a b := by unfold errF; omega
  obtain ⟨e1, e2, e3, e4⟩ := he
  generalize errF r a b = er at *
  have S0 := Lib.hid S0
  have hv : vldB r er d = true := by simp only [vldB, decide_eq_true_eq]; omega
  have hr : ∀ x : Int, 0 ≤ x → x ≤ 1000 → rdB r x d r = true := fun x hx hx' => by simp only [rdB, decide_eq_true_eq]; omega
  have hslk : ∀ x : Int, slk r x d r = x := fun x => by unfold slk; rw [Int.sub_self, Int.zero_mul]; omega
  have hf : ∀ x : Int, fstF r x d r = max (r - x) 0 ∧ lstF r x d r = min (r + x) 100000 := fun x => by unfold fstF lstF; rw [hslk]; exact ⟨rfl, rfl⟩
  have T1 := fun w => True_ok r er d r w (hr er e4 (by omega))
  obtain ⟨lo, hi, l1, l2, T1⟩ : ∃ lo hi : Int, lo ≤ a ∧ b ≤ hi ∧ ∀ w, Calls Try.prog 14 #[.agg #[.int .i64 r, .int .i64 er, .int .i64 d], .int .i64 r] w (Ret (.tuple #[.agg #[.int .i64 lo, .int .i64 hi], .int .i64 0]) w) :=
    ⟨fstF r er d r, lstF r er d r, by rw [(hf er).1]; omega, by rw [(hf er).2]; omega, T1⟩
  have T1 := Lib.hid T1
  by_cases hz0 : er = 0
  · subst hz0
    clear hf hslk hr
    go_enter Try.func8, Try.ntmps8
    go_wp2_with (first | (go_at_call 11; refine (head_c _).mono ?_; rintro e w' ⟨rfl, hb⟩; obtain ⟨hz, hc, hf⟩ := bcl hb (by first | (simp; rfl) | rfl)) | (go_at_call 24; refine (reads_c _ _ _ _ _).mono ?_; rintro e w' ⟨rfl, hb⟩; obtain ⟨hz, hc, hf⟩ := bcl hb (by first | (simp; rfl) | rfl)) | (go_at_call 20; refine (S0.out _).mono ?_; rintro e w' ⟨rfl, hb⟩; obtain ⟨hz, hc, hf⟩ := bcl hb (by first | (simp; rfl) | rfl)) | (go_at_call 12; refine (valid_c _ _ _ _).mono ?_; rintro e w' ⟨rfl, hb⟩; obtain ⟨hz, hc, hf⟩ := bcl hb (by first | (simp; rfl) | rfl)) | (go_at_call 14; refine (T1.out _).mono ?_; rintro e w' ⟨rfl, hb⟩; obtain ⟨hz, hc, hf⟩ := bcl hb (by first | (simp; rfl) | rfl)))
    go_ret
    refine ⟨rfl, ?_⟩
    (repeat (first | (with_reducible exact bl_refl _) | (with_reducible refine bl_drew ?_) | (with_reducible refine bl_alloc ?_ _) | (with_reducible refine bl_set' ?_ ?_; · (first | omega | (simp; done) | (simp; omega))) | (with_reducible refine bl_last (by assumption) ?_) | (with_reducible refine bl_drewN ?_ _)))
  have T2 := fun w => True_ok r (er - 1) d r w (hr (er - 1) (by omega) (by omega))
  obtain ⟨lo', hi', l3, T2⟩ : ∃ lo' hi' : Int, (a < lo' ∨ (lo' ≤ a ∧ hi' < b)) ∧ ∀ w, Calls Try.prog 14 #[.agg #[.int .i64 r, .int .i64 (er - 1), .int .i64 d], .int .i64 r] w (Ret (.tuple #[.agg #[.int .i64 lo', .int .i64 hi'], .int .i64 0]) w) :=
    ⟨fstF r (er - 1) d r, lstF r (er - 1) d r, by rw [(hf (er - 1)).1, (hf (er - 1)).2]; omega, T2⟩
  have T2 := Lib.hid T2
  have hz1 : (er == 0) = false := beq_eq_false_iff_ne.2 hz0
  clear hf hslk hr e3
  rcases l3 with l3 | ⟨l3, l4⟩
  all_goals
    go_enter Try.func8, Try.ntmps8
    go_wp2_with (first | (go_at_call 11; refine (head_c _).mono ?_; rintro e w' ⟨rfl, hb⟩; obtain ⟨hz, hc, hf⟩ := bcl hb (by first | (simp; rfl) | rfl)) | (go_at_call 24; refine (reads_c _ _ _ _ _).mono ?_; rintro e w' ⟨rfl, hb⟩; obtain ⟨hz, hc, hf⟩ := bcl hb (by first | (simp; rfl) | rfl)) | (go_at_call 20; refine (S0.out _).mono ?_; rintro e w' ⟨rfl, hb⟩; obtain ⟨hz, hc, hf⟩ := bcl hb (by first | (simp; rfl) | rfl)) | (go_at_call 12; refine (valid_c _ _ _ _).mono ?_; rintro e w' ⟨rfl, hb⟩; obtain ⟨hz, hc, hf⟩ := bcl hb (by first | (simp; rfl) | rfl)) | (go_at_call 14; ((with_reducible refine (T1.out _).mono ?_); rintro e w' ⟨rfl, hb⟩; obtain ⟨hz, hc, hf⟩ := bcl hb (by first | (simp; rfl) | rfl))) | (go_at_call 14; ((with_reducible refine (T2.out _).mono ?_); rintro e w' ⟨rfl, hb⟩; obtain ⟨hz, hc, hf⟩ := bcl hb (by first | (simp; rfl) | rfl))))
    go_ret
    refine ⟨rfl, ?_⟩
    (repeat (first | (with_reducible exact bl_refl _) | (with_reducible refine bl_drew ?_) | (with_reducible refine bl_alloc ?_ _) | (with_reducible refine bl_set' ?_ ?_; · (first | omega | (simp; done) | (simp; omega))) | (with_reducible refine bl_last (by assumption) ?_) | (with_reducible refine bl_drewN ?_ _)))

set_option maxRecDepth 100000 in
theorem lifted_ClockSet (os : Os) (started : os.Started) (H : Type) (enc : TypeId × Value → H) :
    ReturnsInHanded {} Try.checked os 8 .any (Rows.clockSetSpec.pre6 enc Try.prog Try.f8 Rows.clockSetRow.domain false) (Rows.clockSetSpec.post enc Try.prog Try.f8 false true false false) := by
  refine returnsInHanded_of_change (C := Try.checked) own started (by kernel_rfl) Try.func8
    (ChangeSpec.witness6 (enc := enc) (C := Try.checked) false ⟨#[], #[.int .i64 0, .agg #[.int .i64 0, .int .i64 0], .int .i64 0], []⟩ 8 (by kernel_rfl) (by kernel_rfl) (by kernel_rfl) (by kernel_rfl)) ?_
  intro W base args ds gs before hval0 hW hcnd _
  have hval : ∀ (j : Nat) t v, Try.f8.params[j]? = some t → args[j]? = some v → Value.okWide Try.prog W .any base t v := hval0
  have hW' := hW
  obtain ⟨p, q, hA0, hV, rfl, hfz, hnd⟩ := hW
  have hA : DataW.TrodAll enc Try.prog W 0 (fun _ => true) true Try.f8.params.toList args.toList ds p := hA0
  rw [Try.params8] at hA hval
  obtain ⟨v0, vs0, d0, ds0, p0, q0, hargs, rfl, rfl, h0, r0⟩ := trodAll_cons hA
  obtain ⟨v1, vs1, d1, ds1, p1, q1, rfl, rfl, rfl, h1, r1⟩ := trodAll_cons r0
  obtain ⟨v2, vs2, d2, ds2, p2, q2, rfl, rfl, rfl, h2, r2⟩ := trodAll_cons r1
  obtain ⟨rfl, rfl, rfl⟩ := trodAll_nil r2
  obtain rfl : args = #[v0, v1, v2] := by cases args; simp_all
  obtain ⟨rfl, rfl⟩ := trodVars_none hV
  have k0 := h0
  have lt0 : ∀ x ∈ p0, x.block < W.heap.size := by obtain ⟨m, hm⟩ := k0; exact DataW.trod_lt m _ _ _ hm
  obtain ⟨a0, rfl, _, _, w0⟩ := open_int Try.underlying3 (hval 0 3 v0 rfl rfl) h0
  have k1 := h1
  have lt1 : ∀ x ∈ p1, x.block < W.heap.size := by obtain ⟨m, hm⟩ := k1; exact DataW.trod_lt m _ _ _ hm
  obtain ⟨c1_0, c1_1, y1_0, y1_1, m1, rfl, _, _, hy1_0, hy1_1⟩ := open_agg2 Try.underlying25 (by kernel_rfl) (show Try.prog.cellsOf 25 = 2 by kernel_rfl) (hval 1 25 v1 rfl rfl) h1
  obtain ⟨a1_0, e1_0, _, w1_0⟩ := DataW.trod_int Try.underlying3 hy1_0
  simp at e1_0
  subst e1_0
  obtain ⟨a1_1, e1_1, _, w1_1⟩ := DataW.trod_int Try.underlying3 hy1_1
  simp at e1_1
  subst e1_1
  have k2 := h2
  have lt2 : ∀ x ∈ p2, x.block < W.heap.size := by obtain ⟨m, hm⟩ := k2; exact DataW.trod_lt m _ _ _ hm
  obtain ⟨a2, rfl, _, _, w2⟩ := open_int Try.underlying3 (hval 2 3 v2 rfl rfl) h2
  clear hA0 hval0
  refine (walk_ClockSet a0 a1_0 a1_1 a2 W w0 w1_0 w1_1 w2).mono fun e W' ⟨he, bel⟩ => ?_
  subst he
  exact ⟨_, rfl, _, _, _, [], _, [], hW', trodAll_mk1 (shut_bool Try.underlying4 _), (trodAll_cons_mk (Below.trod laidOut (by kernel_rfl) (of_decide_eq_true (by kernel_rfl)) k0 bel lt0) (trodAll_cons_mk (Below.trod laidOut (by kernel_rfl) (of_decide_eq_true (by kernel_rfl)) k1 bel lt1) (trodAll_cons_mk (Below.trod laidOut (by kernel_rfl) (of_decide_eq_true (by kernel_rfl)) k2 bel lt2) trodAll_mk0))), rfl, bel.frame _, fun h => by cases h⟩

theorem clockSet_holds : Rows.ClockSetSaid :=
  OpenClaim.holds_of_wide 8 Try.f8 rfl rfl rfl rfl rfl rfl rfl ⟨rfl, rfl, rfl, rfl, rfl⟩ rfl rfl rfl rfl rfl (by kernel_rfl) Try.func8 (by kernel_rfl)
    (of_decide_eq_true (by kernel_rfl)) (by unfold Func.isWrapper; first | (rw [if_pos (by decide +kernel)]; kernel_rfl) | (rw [if_neg (by decide +kernel)]; exact ⟨rfl, rfl⟩))
    (fun os started H enc _ => lifted_ClockSet os started H enc)
#print axioms clockSet_holds

end Go.Proofs.Ytjanlgnagooioaa
