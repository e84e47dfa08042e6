/- ClockMatchesReference holds: all functions of package clock return what the reference implementation returns. No condition. -/
import Derived.Test.YtjanlgnagooioaaRows
import Derived.Test.YtjanlgnagooioaaClockP
import Derived.ProofKit
import Derived.OpenShut
import Derived.ChangeOld
import Derived.Lib.SmallJoins
namespace Go.Proofs.Ytjanlgnagooioaa
open Go.ChangeShapes Go.WideShapes Go.ChangeAt Go.RowKit Go.Joins

theorem own : ownKnob Try.prog.godebug = none := by kernel_rfl
theorem laidOut : laidOutB Try.prog = true := by kernel_rfl

/-- What both Trues return, and so on: one value each. -/
theorem both_true (s e d r : Int) : ∃ x y z : Int, (∀ w, Calls Try.prog 14 #[.agg #[.int .i64 s, .int .i64 e, .int .i64 d], .int .i64 r] w (Ret (.tuple #[.agg #[.int .i64 x, .int .i64 y], .int .i64 z]) w)) ∧
    (∀ w, Calls Try.prog 15 #[.agg #[.int .i64 s, .int .i64 e, .int .i64 d], .int .i64 r] w (Ret (.tuple #[.agg #[.int .i64 x, .int .i64 y], .int .i64 z]) w)) := by
  cases h : rdB s e d r
  · exact ⟨_, _, _, fun w => True_no s e d r w h, fun w => RTrue_no s e d r w h⟩
  · exact ⟨_, _, _, fun w => True_ok s e d r w h, fun w => RTrue_ok s e d r w h⟩
theorem both_passed (s e d r t : Int) : ∃ x y : Int, (∀ w, Calls Try.prog 16 #[.agg #[.int .i64 s, .int .i64 e, .int .i64 d], .int .i64 r, .int .i64 t] w (Ret (.tuple #[.int .i64 x, .int .i64 y]) w)) ∧
    (∀ w, Calls Try.prog 17 #[.agg #[.int .i64 s, .int .i64 e, .int .i64 d], .int .i64 r, .int .i64 t] w (Ret (.tuple #[.int .i64 x, .int .i64 y]) w)) := by
  cases h : (rdB s e d r && tickB t)
  · exact ⟨_, _, fun w => Passed_no s e d r t w h, fun w => RPassed_no s e d r t w h⟩
  · simp only [Bool.and_eq_true] at h
    exact ⟨_, _, fun w => Passed_ok s e d r t w h.1 h.2, fun w => RPassed_ok s e d r t w h.1 h.2⟩
theorem both_sure (s e d t : Int) : ∃ x y : Int, (∀ w, Calls Try.prog 18 #[.agg #[.int .i64 s, .int .i64 e, .int .i64 d], .int .i64 t] w (Ret (.tuple #[.int .i64 x, .int .i64 y]) w)) ∧
    (∀ w, Calls Try.prog 19 #[.agg #[.int .i64 s, .int .i64 e, .int .i64 d], .int .i64 t] w (Ret (.tuple #[.int .i64 x, .int .i64 y]) w)) := by
  cases h : (vldB s e d && tickB t)
  · exact ⟨_, _, fun w => Sure_no s e d t w h, fun w => RSure_no s e d t w h⟩
  · simp only [Bool.and_eq_true] at h
    exact ⟨_, _, fun w => Sure_ok s e d t w h.1 h.2, fun w => RSure_ok s e d t w h.1 h.2⟩
theorem both_set (r a b d : Int) : ∃ x y z u : Int, (∀ w, Calls Try.prog 20 #[.int .i64 r, .agg #[.int .i64 a, .int .i64 b], .int .i64 d] w (Ret (.tuple #[.agg #[.int .i64 x, .int .i64 y, .int .i64 z], .int .i64 u]) w)) ∧
    (∀ w, Calls Try.prog 21 #[.int .i64 r, .agg #[.int .i64 a, .int .i64 b], .int .i64 d] w (Ret (.tuple #[.agg #[.int .i64 x, .int .i64 y, .int .i64 z], .int .i64 u]) w)) := by
  cases h : setB r a b d
  · exact ⟨_, _, _, _, fun w => Set_no r a b d w h, fun w => RSet_no r a b d w h⟩
  · by_cases hm : 1000 < errF r a b
    · exact ⟨_, _, _, _, fun w => Set_big r a b d w h hm, fun w => RSet_big r a b d w h hm⟩
    · exact ⟨_, _, _, _, fun w => Set_ok r a b d w h (by omega), fun w => RSet_ok r a b d w h (by omega)⟩
theorem both_correct (s e d r a b : Int) : ∃ x y z u : Int, (∀ w, Calls Try.prog 22 #[.agg #[.int .i64 s, .int .i64 e, .int .i64 d], .int .i64 r, .agg #[.int .i64 a, .int .i64 b]] w (Ret (.tuple #[.agg #[.int .i64 x, .int .i64 y, .int .i64 z], .int .i64 u]) w)) ∧
    (∀ w, Calls Try.prog 23 #[.agg #[.int .i64 s, .int .i64 e, .int .i64 d], .int .i64 r, .agg #[.int .i64 a, .int .i64 b]] w (Ret (.tuple #[.agg #[.int .i64 x, .int .i64 y, .int .i64 z], .int .i64 u]) w)) := by
  cases h : (rdB s e d r && winB a b)
  · exact ⟨_, _, _, _, fun w => Correct_no s e d r a b w h, fun w => RCorrect_no s e d r a b w h⟩
  simp only [Bool.and_eq_true] at h
  obtain ⟨g1, g2⟩ := h
  have hw : 0 ≤ a ∧ a ≤ b ∧ b ≤ 100000 := by simpa [winB] using g2
  obtain ⟨q1, q2, q3, _, _⟩ := fst_le_lst g1
  have F1 := fun w => first_c s e d r w g1
  have L1 := fun w => last_c s e d r w g1
  have T1 := fun w => RTrue_ok s e d r w g1
  generalize fstF s e d r = f at *
  generalize lstF s e d r = l at *
  obtain ⟨A, B, hA, hB, hA', hB'⟩ : ∃ A B : Int, ((a < f ∧ A = f) ∨ (f ≤ a ∧ A = a)) ∧ ((l < b ∧ B = l) ∨ (b ≤ l ∧ B = b)) ∧ ((f < a ∧ A = a) ∨ (a ≤ f ∧ A = f)) ∧ ((b < l ∧ B = b) ∨ (l ≤ b ∧ B = l)) :=
    ⟨max a f, min b l, by omega, by omega, by omega, by omega⟩
  by_cases hlt : B < A
  · exact ⟨_, _, _, _, fun w => Correct_lie s e d r a b f l A B w g1 g2 F1 L1 hA hB hlt, fun w => RCorrect_lie s e d r a b f l A B w g2 T1 hA' hB' hlt⟩
  · obtain ⟨x, y, z, u, s1, s2⟩ := both_set ((A + B) / 2) A B d
    have he : A + (B - A) / 2 = (A + B) / 2 := by omega
    exact ⟨x, y, z, u, fun w => Correct_set s e d r a b f l A B x y z u w g1 g2 F1 L1 hA hB (by omega) (by omega) (by omega) s1,
      fun w => RCorrect_set s e d r a b f l A B x y z u w g2 T1 hA' hB' (by omega) (by omega) (by omega) (by rw [he]; exact s2)⟩

set_option maxRecDepth 100000 in
set_option maxHeartbeats 8000000 in
theorem walk_ClockMatchesReference (s e d r tick drift a b : Int) (w : World) (_ : (Lit.int .i64 s).wf = true) (_ : (Lit.int .i64 e).wf = true) (_ : (Lit.int .i64 d).wf = true) (_ : (Lit.int .i64 r).wf = true) (_ : (Lit.int .i64 tick).wf = true) (_ : (Lit.int .i64 drift).wf = true) (_ : (Lit.int .i64 a).wf = true) (_ : (Lit.int .i64 b).wf = true) :
    Calls Try.prog 3 #[.agg #[.int .i64 s, .int .i64 e, .int .i64 d], .int .i64 r, .int .i64 tick, .int .i64 drift, .agg #[.int .i64 a, .int .i64 b]] w (Ret (.bool true) w) := by
  obtain ⟨_, _, _, t1, t2⟩ := both_true s e d r
  obtain ⟨_, _, p1, p2⟩ := both_passed s e d r tick
  obtain ⟨_, _, u1, u2⟩ := both_sure s e d tick
  obtain ⟨_, _, _, _, s1, s2⟩ := both_set r a b drift
  obtain ⟨_, _, _, _, c1, c2⟩ := both_correct s e d r a b
  have T1 := Lib.hid t1
  have T2 := Lib.hid t2
  have P1 := Lib.hid p1
  have P2 := Lib.hid p2
  have U1 := Lib.hid u1
  have U2 := Lib.hid u2
  have S1 := Lib.hid s1
  have S2 := Lib.hid s2
  have C1 := Lib.hid c1
  have C2 := Lib.hid c2
  clear t1 t2 p1 p2 u1 u2 s1 s2 c1 c2
  go_enter Try.func3, Try.ntmps3
  go_wp2_with (go_at_call 11; refine (head_c _).mono ?_; rintro e w' ⟨rfl, hb⟩; obtain ⟨hz, hc, hf⟩ := bcl hb (by first | (simp; rfl) | rfl))
  (refine wp_region_bl [0,1,2,3,4,5,6,7] [8] (by kernel_rfl) (by kernel_rfl) (by rfl) ?_
   simp only [pickI, pick, List.getElem?_cons_succ, List.getElem?_cons_zero]
   iterate 8 (first
     | (refine head_val (by rfl) (by rfl) ?_
        apply Exists.intro
        refine ⟨fun X hX => ?_, ?_⟩
        · (obtain ⟨qz, qc, qf⟩ := bcl hX.out (by first | (simp; rfl) | rfl)
           go_simp
           first | done | (go_at_call 12; refine (valid_c _ _ _ _).mono ?_; rintro e w2 ⟨rfl, hb2⟩; exact ⟨rfl, hX.trans hb2⟩) | (go_at_call 13; refine (Rvalid_c _ _ _ _).mono ?_; rintro e w2 ⟨rfl, hb2⟩; exact ⟨rfl, hX.trans hb2⟩) | rfl | exact ⟨rfl, rfl⟩)
        simp only [Act.put, List.setIfInBounds_toArray, List.set_cons_zero, List.set_cons_succ])
     | (refine head_pass (by rfl) ?_
        simp only [Act.put, List.setIfInBounds_toArray, List.set_cons_zero, List.set_cons_succ]))
   refine head_nil ?_
   intro w' hw'
   have hb := hw'.out
   clear hw'
   obtain ⟨hz, hc, hf⟩ := bcl hb (by first | (simp; rfl) | rfl))
  go_wp2_with (first | (go_at_call 14; refine (T1.out _).mono ?_; rintro e w' ⟨rfl, hb⟩; obtain ⟨hz, hc, hf⟩ := bcl hb (by first | (simp; rfl) | rfl)) | (go_at_call 15; refine (T2.out _).mono ?_; rintro e w' ⟨rfl, hb⟩; obtain ⟨hz, hc, hf⟩ := bcl hb (by first | (simp; rfl) | rfl)) | (go_at_call 16; refine (P1.out _).mono ?_; rintro e w' ⟨rfl, hb⟩; obtain ⟨hz, hc, hf⟩ := bcl hb (by first | (simp; rfl) | rfl)) | (go_at_call 17; refine (P2.out _).mono ?_; rintro e w' ⟨rfl, hb⟩; obtain ⟨hz, hc, hf⟩ := bcl hb (by first | (simp; rfl) | rfl)) | (go_at_call 18; refine (U1.out _).mono ?_; rintro e w' ⟨rfl, hb⟩; obtain ⟨hz, hc, hf⟩ := bcl hb (by first | (simp; rfl) | rfl)) | (go_at_call 19; refine (U2.out _).mono ?_; rintro e w' ⟨rfl, hb⟩; obtain ⟨hz, hc, hf⟩ := bcl hb (by first | (simp; rfl) | rfl)) | (go_at_call 20; refine (S1.out _).mono ?_; rintro e w' ⟨rfl, hb⟩; obtain ⟨hz, hc, hf⟩ := bcl hb (by first | (simp; rfl) | rfl)) | (go_at_call 21; refine (S2.out _).mono ?_; rintro e w' ⟨rfl, hb⟩; obtain ⟨hz, hc, hf⟩ := bcl hb (by first | (simp; rfl) | rfl)) | (go_at_call 22; refine (C1.out _).mono ?_; rintro e w' ⟨rfl, hb⟩; obtain ⟨hz, hc, hf⟩ := bcl hb (by first | (simp; rfl) | rfl)) | (go_at_call 23; refine (C2.out _).mono ?_; rintro e w' ⟨rfl, hb⟩; obtain ⟨hz, hc, hf⟩ := bcl hb (by first | (simp; rfl) | rfl)))
  go_ret
  refine ⟨rfl, ?_⟩
  (repeat (first | (with_reducible exact bl_refl _) | (with_reducible refine bl_drew ?_) | (with_reducible refine bl_alloc ?_ _) | (with_reducible refine bl_set' ?_ ?_; · (first | omega | (simp; done) | (simp; omega))) | (with_reducible refine bl_last (by assumption) ?_) | (with_reducible refine bl_drewN ?_ _)))

set_option maxRecDepth 100000 in
theorem lifted_ClockMatchesReference (os : Os) (started : os.Started) (H : Type) (enc : TypeId × Value → H) :
    ReturnsInHanded {} Try.checked os 3 .any (Rows.clockMatchesReferenceSpec.pre6 enc Try.prog Try.f3 Rows.clockMatchesReferenceRow.domain false) (Rows.clockMatchesReferenceSpec.post enc Try.prog Try.f3 false true false false) := by
  refine returnsInHanded_of_change (C := Try.checked) own started (by kernel_rfl) Try.func3
    (ChangeSpec.witness6 (enc := enc) (C := Try.checked) false ⟨#[], #[.agg #[.int .i64 0, .int .i64 0, .int .i64 0], .int .i64 0, .int .i64 0, .int .i64 0, .agg #[.int .i64 0, .int .i64 0]], []⟩ 8 (by kernel_rfl) (by kernel_rfl) (by kernel_rfl) (by kernel_rfl)) ?_
  intro W base args ds gs before hval0 hW hcnd _
  have hval : ∀ (j : Nat) t v, Try.f3.params[j]? = some t → args[j]? = some v → Value.okWide Try.prog W .any base t v := hval0
  have hW' := hW
  obtain ⟨p, q, hA0, hV, rfl, hfz, hnd⟩ := hW
  have hA : DataW.TrodAll enc Try.prog W 0 (fun _ => true) true Try.f3.params.toList args.toList ds p := hA0
  rw [Try.params3] at hA hval
  obtain ⟨v0, vs0, d0, ds0, p0, q0, hargs, rfl, rfl, h0, r0⟩ := trodAll_cons hA
  obtain ⟨v1, vs1, d1, ds1, p1, q1, rfl, rfl, rfl, h1, r1⟩ := trodAll_cons r0
  obtain ⟨v2, vs2, d2, ds2, p2, q2, rfl, rfl, rfl, h2, r2⟩ := trodAll_cons r1
  obtain ⟨v3, vs3, d3, ds3, p3, q3, rfl, rfl, rfl, h3, r3⟩ := trodAll_cons r2
  obtain ⟨v4, vs4, d4, ds4, p4, q4, rfl, rfl, rfl, h4, r4⟩ := trodAll_cons r3
  obtain ⟨rfl, rfl, rfl⟩ := trodAll_nil r4
  obtain rfl : args = #[v0, v1, v2, v3, v4] := by cases args; simp_all
  obtain ⟨rfl, rfl⟩ := trodVars_none hV
  have k0 := h0
  have lt0 : ∀ x ∈ p0, x.block < W.heap.size := by obtain ⟨m, hm⟩ := k0; exact DataW.trod_lt m _ _ _ hm
  obtain ⟨c0_0, c0_1, c0_2, y0_0, y0_1, y0_2, m0, rfl, _, _, hy0_0, hy0_1, hy0_2⟩ := open_agg3 Try.underlying23 (by kernel_rfl) (show Try.prog.cellsOf 23 = 3 by kernel_rfl) (hval 0 23 v0 rfl rfl) h0
  obtain ⟨a0_0, e0_0, _, w0_0⟩ := DataW.trod_int Try.underlying3 hy0_0
  simp at e0_0
  subst e0_0
  obtain ⟨a0_1, e0_1, _, w0_1⟩ := DataW.trod_int Try.underlying3 hy0_1
  simp at e0_1
  subst e0_1
  obtain ⟨a0_2, e0_2, _, w0_2⟩ := DataW.trod_int Try.underlying3 hy0_2
  simp at e0_2
  subst e0_2
  have k1 := h1
  have lt1 : ∀ x ∈ p1, x.block < W.heap.size := by obtain ⟨m, hm⟩ := k1; exact DataW.trod_lt m _ _ _ hm
  obtain ⟨a1, rfl, _, _, w1⟩ := open_int Try.underlying3 (hval 1 3 v1 rfl rfl) h1
  have k2 := h2
  have lt2 : ∀ x ∈ p2, x.block < W.heap.size := by obtain ⟨m, hm⟩ := k2; exact DataW.trod_lt m _ _ _ hm
  obtain ⟨a2, rfl, _, _, w2⟩ := open_int Try.underlying3 (hval 2 3 v2 rfl rfl) h2
  have k3 := h3
  have lt3 : ∀ x ∈ p3, x.block < W.heap.size := by obtain ⟨m, hm⟩ := k3; exact DataW.trod_lt m _ _ _ hm
  obtain ⟨a3, rfl, _, _, w3⟩ := open_int Try.underlying3 (hval 3 3 v3 rfl rfl) h3
  have k4 := h4
  have lt4 : ∀ x ∈ p4, x.block < W.heap.size := by obtain ⟨m, hm⟩ := k4; exact DataW.trod_lt m _ _ _ hm
  obtain ⟨c4_0, c4_1, y4_0, y4_1, m4, rfl, _, _, hy4_0, hy4_1⟩ := open_agg2 Try.underlying25 (by kernel_rfl) (show Try.prog.cellsOf 25 = 2 by kernel_rfl) (hval 4 25 v4 rfl rfl) h4
  obtain ⟨a4_0, e4_0, _, w4_0⟩ := DataW.trod_int Try.underlying3 hy4_0
  simp at e4_0
  subst e4_0
  obtain ⟨a4_1, e4_1, _, w4_1⟩ := DataW.trod_int Try.underlying3 hy4_1
  simp at e4_1
  subst e4_1
  clear hA0 hval0
  refine (walk_ClockMatchesReference a0_0 a0_1 a0_2 a1 a2 a3 a4_0 a4_1 W w0_0 w0_1 w0_2 w1 w2 w3 w4_0 w4_1).mono fun e W' ⟨he, bel⟩ => ?_
  subst he
  exact ⟨_, rfl, _, _, _, [], _, [], hW', trodAll_mk1 (shut_bool Try.underlying4 _), (trodAll_cons_mk (Below.trod laidOut (by kernel_rfl) (of_decide_eq_true (by kernel_rfl)) k0 bel lt0) (trodAll_cons_mk (Below.trod laidOut (by kernel_rfl) (of_decide_eq_true (by kernel_rfl)) k1 bel lt1) (trodAll_cons_mk (Below.trod laidOut (by kernel_rfl) (of_decide_eq_true (by kernel_rfl)) k2 bel lt2) (trodAll_cons_mk (Below.trod laidOut (by kernel_rfl) (of_decide_eq_true (by kernel_rfl)) k3 bel lt3) (trodAll_cons_mk (Below.trod laidOut (by kernel_rfl) (of_decide_eq_true (by kernel_rfl)) k4 bel lt4) trodAll_mk0))))), rfl, bel.frame _, fun h => by cases h⟩

theorem clockMatchesReference_holds : Rows.ClockMatchesReferenceSaid :=
  OpenClaim.holds_of_wide 3 Try.f3 rfl rfl rfl rfl rfl rfl rfl ⟨rfl, rfl, rfl, rfl, rfl⟩ rfl rfl rfl rfl rfl (by kernel_rfl) Try.func3 (by kernel_rfl)
    (of_decide_eq_true (by kernel_rfl)) (by unfold Func.isWrapper; first | (rw [if_pos (by decide +kernel)]; kernel_rfl) | (rw [if_neg (by decide +kernel)]; exact ⟨rfl, rfl⟩))
    (fun os started H enc _ => lifted_ClockMatchesReference os started H enc)
#print axioms clockMatchesReference_holds

end Go.Proofs.Ytjanlgnagooioaa
