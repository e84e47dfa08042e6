/- ClockCorrect holds: Correct does not contradict a tick that is possible and in the window. No condition. -/
import Derived.Test.YtjanlgnagooioaaRows
import Derived.Test.YtjanlgnagooioaaClockP
import Derived.ProofKit
import Derived.OpenShut
import Derived.ChangeOld
import Derived.Lib.SmallJoins
namespace Go.Proofs.Ytjanlgnagooioaa
open Go.ChangeShapes Go.WideShapes Go.ChangeAt Go.RowKit Go.Joins

theorem own : ownKnob Try.prog.godebug = none := by kernel_rfl
theorem laidOut : laidOutB Try.prog = true := by kernel_rfl

theorem common_ways (f l a b t : Int) : (t < f) ∨ (f ≤ t ∧ l < t) ∨ (f ≤ t ∧ t ≤ l ∧ t < a) ∨ (f ≤ t ∧ t ≤ l ∧ a ≤ t ∧ b < t ∧ decide (t ≤ b) = false) ∨ (f ≤ t ∧ t ≤ l ∧ a ≤ t ∧ t ≤ b ∧ decide (t ≤ b) = true) := by
  by_cases h : t ≤ b
  · simp [h]
    omega
  · simp [h]
    omega

set_option maxRecDepth 100000 in
set_option maxHeartbeats 8000000 in
theorem walk_ClockCorrect (s e d r a b tick : Int) (w : World) (_ : (Lit.int .i64 s).wf = true) (_ : (Lit.int .i64 e).wf = true) (_ : (Lit.int .i64 d).wf = true) (_ : (Lit.int .i64 r).wf = true) (_ : (Lit.int .i64 a).wf = true) (_ : (Lit.int .i64 b).wf = true) (_ : (Lit.int .i64 tick).wf = true) :
    Calls Try.prog 9 #[.agg #[.int .i64 s, .int .i64 e, .int .i64 d], .int .i64 r, .agg #[.int .i64 a, .int .i64 b], .int .i64 tick] w (Ret (.bool true) w) := by
  by_cases hv : rdB s e d r = false ∨ (rdB s e d r = true ∧ winB a b = false)
  · rcases hv with g1 | ⟨g1, g2⟩
    all_goals
      go_enter Try.func9, Try.ntmps9
      go_wp2_with (first | (go_at_call 11; refine (head_c _).mono ?_; rintro e w' ⟨rfl, hb⟩; obtain ⟨hz, hc, hf⟩ := bcl hb (by first | (simp; rfl) | rfl)) | (go_at_call 24; refine (reads_c _ _ _ _ _).mono ?_; rintro e w' ⟨rfl, hb⟩; obtain ⟨hz, hc, hf⟩ := bcl hb (by first | (simp; rfl) | rfl)) | (go_at_call 25; refine (Rwindow_c _ _ _).mono ?_; rintro e w' ⟨rfl, hb⟩; obtain ⟨hz, hc, hf⟩ := bcl hb (by first | (simp; rfl) | rfl)))
      go_ret
      refine ⟨rfl, ?_⟩
      (repeat (first | (with_reducible exact bl_refl _) | (with_reducible refine bl_drew ?_) | (with_reducible refine bl_alloc ?_ _) | (with_reducible refine bl_set' ?_ ?_; · (first | omega | (simp; done) | (simp; omega))) | (with_reducible refine bl_last (by assumption) ?_) | (with_reducible refine bl_drewN ?_ _)))
  have g1 : rdB s e d r = true := by cases h : rdB s e d r <;> simp_all
  have g2 : winB a b = true := by cases h : winB a b <;> simp_all
  clear hv
  have hw : 0 ≤ a ∧ a ≤ b ∧ b ≤ 100000 := by simpa [winB] using g2
  obtain ⟨w1, w2, w3⟩ := hw
  obtain ⟨q1, q2, q3, _, _⟩ := fst_le_lst g1
  have TA := Lib.hid (fun w => True_ok s e d r w g1)
  have F1 := Lib.hid (fun w => first_c s e d r w g1)
  have L1 := Lib.hid (fun w => last_c s e d r w g1)
  obtain ⟨_, _, _, _, _, h5, h6⟩ := rd_of g1
  generalize fstF s e d r = f at *
  generalize lstF s e d r = l at *
  obtain ⟨A, B, hA, hB⟩ : ∃ A B : Int, ((a < f ∧ A = f) ∨ (f ≤ a ∧ A = a)) ∧ ((l < b ∧ B = l) ∨ (b ≤ l ∧ B = b)) := ⟨max a f, min b l, by omega, by omega⟩
  by_cases hlt : B < A
  · have KA := Lib.hid (fun w => Correct_lie s e d r a b f l A B w g1 g2 F1.out L1.out hA hB hlt)
    have hd : l < a ∨ (a ≤ l ∧ b < f) := by omega
    clear hA hB hlt F1 L1
    rcases hd with hd | ⟨hd, hd'⟩ <;> rcases common_ways f l a b tick with t1 | ⟨t1, t2⟩ | ⟨t1, t2, t3⟩ | ⟨t1, t2, t3, t4, t5⟩ | ⟨t1, t2, t3, t4, t5⟩
    all_goals first | (exfalso; omega) | skip
    all_goals
      go_enter Try.func9, Try.ntmps9
      go_wp2_with (first | (go_at_call 11; refine (head_c _).mono ?_; rintro e w' ⟨rfl, hb⟩; obtain ⟨hz, hc, hf⟩ := bcl hb (by first | (simp; rfl) | rfl)) | (go_at_call 24; refine (reads_c _ _ _ _ _).mono ?_; rintro e w' ⟨rfl, hb⟩; obtain ⟨hz, hc, hf⟩ := bcl hb (by first | (simp; rfl) | rfl)) | (go_at_call 25; refine (Rwindow_c _ _ _).mono ?_; rintro e w' ⟨rfl, hb⟩; obtain ⟨hz, hc, hf⟩ := bcl hb (by first | (simp; rfl) | rfl)) | (go_at_call 14; ((with_reducible refine (TA.out _).mono ?_); rintro e w' ⟨rfl, hb⟩; obtain ⟨hz, hc, hf⟩ := bcl hb (by first | (simp; rfl) | rfl))) | (go_at_call 22; refine (KA.out _).mono ?_; rintro e w' ⟨rfl, hb⟩; obtain ⟨hz, hc, hf⟩ := bcl hb (by first | (simp; rfl) | rfl)))
      go_ret
      refine ⟨rfl, ?_⟩
      (repeat (first | (with_reducible exact bl_refl _) | (with_reducible refine bl_drew ?_) | (with_reducible refine bl_alloc ?_ _) | (with_reducible refine bl_set' ?_ ?_; · (first | omega | (simp; done) | (simp; omega))) | (with_reducible refine bl_last (by assumption) ?_) | (with_reducible refine bl_drewN ?_ _)))
  by_cases hm : 1000 < errF ((A + B) / 2) A B
  · have hs : setB ((A + B) / 2) A B d = true := by simp only [setB, decide_eq_true_eq]; omega
    have KA := Lib.hid (fun w => Correct_set s e d r a b f l A B 0 0 0 3 w g1 g2 F1.out L1.out hA hB (by omega) (by omega) (by omega) (fun w => Set_big _ A B d w hs hm))
    clear hA hB hlt F1 L1 hm hs
    rcases common_ways f l a b tick with t1 | ⟨t1, t2⟩ | ⟨t1, t2, t3⟩ | ⟨t1, t2, t3, t4, t5⟩ | ⟨t1, t2, t3, t4, t5⟩
    all_goals
      go_enter Try.func9, Try.ntmps9
      go_wp2_with (first | (go_at_call 11; refine (head_c _).mono ?_; rintro e w' ⟨rfl, hb⟩; obtain ⟨hz, hc, hf⟩ := bcl hb (by first | (simp; rfl) | rfl)) | (go_at_call 24; refine (reads_c _ _ _ _ _).mono ?_; rintro e w' ⟨rfl, hb⟩; obtain ⟨hz, hc, hf⟩ := bcl hb (by first | (simp; rfl) | rfl)) | (go_at_call 25; refine (Rwindow_c _ _ _).mono ?_; rintro e w' ⟨rfl, hb⟩; obtain ⟨hz, hc, hf⟩ := bcl hb (by first | (simp; rfl) | rfl)) | (go_at_call 14; ((with_reducible refine (TA.out _).mono ?_); rintro e w' ⟨rfl, hb⟩; obtain ⟨hz, hc, hf⟩ := bcl hb (by first | (simp; rfl) | rfl))) | (go_at_call 22; refine (KA.out _).mono ?_; rintro e w' ⟨rfl, hb⟩; obtain ⟨hz, hc, hf⟩ := bcl hb (by first | (simp; rfl) | rfl)))
      go_ret
      refine ⟨rfl, ?_⟩
      (repeat (first | (with_reducible exact bl_refl _) | (with_reducible refine bl_drew ?_) | (with_reducible refine bl_alloc ?_ _) | (with_reducible refine bl_set' ?_ ?_; · (first | omega | (simp; done) | (simp; omega))) | (with_reducible refine bl_last (by assumption) ?_) | (with_reducible refine bl_drewN ?_ _)))
  have hs : setB ((A + B) / 2) A B d = true := by simp only [setB, decide_eq_true_eq]; omega
  have KA := fun w => Correct_set s e d r a b f l A B _ _ _ _ w g1 g2 F1.out L1.out hA hB (by omega) (by omega) (by omega) (fun w => Set_ok _ A B d w hs (by omega))
  have hr : rdB ((A + B) / 2) (errF ((A + B) / 2) A B) d ((A + B) / 2) = true := by
    have : 0 ≤ errF ((A + B) / 2) A B := by unfold errF; omega
    simp only [rdB, decide_eq_true_eq]
    omega
  have T1 := fun w => True_ok _ _ d _ w hr
  obtain ⟨m, er, lo, hi, z1, z2, z3, KA, T1⟩ : ∃ m er lo hi : Int, lo ≤ A ∧ B ≤ hi ∧ (hi - lo ≤ B - A + 1 ∧ 0 ≤ lo ∧ hi ≤ 100000) ∧
      (∀ w, Calls Try.prog 22 #[.agg #[.int .i64 s, .int .i64 e, .int .i64 d], .int .i64 r, .agg #[.int .i64 a, .int .i64 b]] w (Ret (.tuple #[.agg #[.int .i64 m, .int .i64 er, .int .i64 d], .int .i64 0]) w)) ∧
      (∀ w, Calls Try.prog 14 #[.agg #[.int .i64 m, .int .i64 er, .int .i64 d], .int .i64 m] w (Ret (.tuple #[.agg #[.int .i64 lo, .int .i64 hi], .int .i64 0]) w)) := by
    have hslk : ∀ x y : Int, slk x y d x = y := fun x y => by unfold slk; rw [Int.sub_self, Int.zero_mul]; omega
    refine ⟨_, _, _, _, ?_, ?_, ?_, KA, T1⟩
    · unfold fstF; rw [hslk]; unfold errF; omega
    · unfold lstF; rw [hslk]; unfold errF; omega
    · unfold lstF fstF; rw [hslk]; unfold errF; omega
  obtain ⟨z3, z4, z5⟩ := z3
  have KA := Lib.hid KA
  have T1 := Lib.hid T1
  clear hm hs hr F1 L1
  rcases common_ways f l a b tick with t1 | ⟨t1, t2⟩ | ⟨t1, t2, t3⟩ | ⟨t1, t2, t3, t4, t5⟩ | ⟨t1, t2, t3, t4, t5⟩ <;> rcases hA with ⟨ha, rfl⟩ | ⟨ha, rfl⟩ <;> rcases hB with ⟨hb0, rfl⟩ | ⟨hb0, rfl⟩
  all_goals first | (exfalso; omega) | skip
  all_goals
    go_enter Try.func9, Try.ntmps9
    go_wp2_with (first | (go_at_call 11; refine (head_c _).mono ?_; rintro e w' ⟨rfl, hb⟩; obtain ⟨hz, hc, hf⟩ := bcl hb (by first | (simp; rfl) | rfl)) | (go_at_call 24; refine (reads_c _ _ _ _ _).mono ?_; rintro e w' ⟨rfl, hb⟩; obtain ⟨hz, hc, hf⟩ := bcl hb (by first | (simp; rfl) | rfl)) | (go_at_call 25; refine (Rwindow_c _ _ _).mono ?_; rintro e w' ⟨rfl, hb⟩; obtain ⟨hz, hc, hf⟩ := bcl hb (by first | (simp; rfl) | rfl)) | (go_at_call 14; ((with_reducible refine (TA.out _).mono ?_); rintro e w' ⟨rfl, hb⟩; obtain ⟨hz, hc, hf⟩ := bcl hb (by first | (simp; rfl) | rfl))) | (go_at_call 14; ((with_reducible refine (T1.out _).mono ?_); rintro e w' ⟨rfl, hb⟩; obtain ⟨hz, hc, hf⟩ := bcl hb (by first | (simp; rfl) | rfl))) | (go_at_call 22; refine (KA.out _).mono ?_; rintro e w' ⟨rfl, hb⟩; obtain ⟨hz, hc, hf⟩ := bcl hb (by first | (simp; rfl) | rfl)))
    all_goals go_ret
    all_goals first | refine ⟨rfl, ?_⟩ | refine ⟨ret_bool (decide_eq_true (by omega)), ?_⟩
    all_goals (repeat (first | (with_reducible exact bl_refl _) | (with_reducible refine bl_drew ?_) | (with_reducible refine bl_alloc ?_ _) | (with_reducible refine bl_set' ?_ ?_; · (first | omega | (simp; done) | (simp; omega))) | (with_reducible refine bl_last (by assumption) ?_) | (with_reducible refine bl_drewN ?_ _)))

set_option maxRecDepth 100000 in
theorem lifted_ClockCorrect (os : Os) (started : os.Started) (H : Type) (enc : TypeId × Value → H) :
    ReturnsInHanded {} Try.checked os 9 .any (Rows.clockCorrectSpec.pre6 enc Try.prog Try.f9 Rows.clockCorrectRow.domain false) (Rows.clockCorrectSpec.post enc Try.prog Try.f9 false true false false) := by
  refine returnsInHanded_of_change (C := Try.checked) own started (by kernel_rfl) Try.func9
    (ChangeSpec.witness6 (enc := enc) (C := Try.checked) false ⟨#[], #[.agg #[.int .i64 0, .int .i64 0, .int .i64 0], .int .i64 0, .agg #[.int .i64 0, .int .i64 0], .int .i64 0], []⟩ 8 (by kernel_rfl) (by kernel_rfl) (by kernel_rfl) (by kernel_rfl)) ?_
  intro W base args ds gs before hval0 hW hcnd _
  have hval : ∀ (j : Nat) t v, Try.f9.params[j]? = some t → args[j]? = some v → Value.okWide Try.prog W .any base t v := hval0
  have hW' := hW
  obtain ⟨p, q, hA0, hV, rfl, hfz, hnd⟩ := hW
  have hA : DataW.TrodAll enc Try.prog W 0 (fun _ => true) true Try.f9.params.toList args.toList ds p := hA0
  rw [Try.params9] at hA hval
  obtain ⟨v0, vs0, d0, ds0, p0, q0, hargs, rfl, rfl, h0, r0⟩ := trodAll_cons hA
  obtain ⟨v1, vs1, d1, ds1, p1, q1, rfl, rfl, rfl, h1, r1⟩ := trodAll_cons r0
  obtain ⟨v2, vs2, d2, ds2, p2, q2, rfl, rfl, rfl, h2, r2⟩ := trodAll_cons r1
  obtain ⟨v3, vs3, d3, ds3, p3, q3, rfl, rfl, rfl, h3, r3⟩ := trodAll_cons r2
  obtain ⟨rfl, rfl, rfl⟩ := trodAll_nil r3
  obtain rfl : args = #[v0, v1, v2, v3] := by cases args; simp_all
  obtain ⟨rfl, rfl⟩ := trodVars_none hV
  have k0 := h0
  have lt0 : ∀ x ∈ p0, x.block < W.heap.size := by obtain ⟨m, hm⟩ := k0; exact DataW.trod_lt m _ _ _ hm
  obtain ⟨c0_0, c0_1, c0_2, y0_0, y0_1, y0_2, m0, rfl, _, _, hy0_0, hy0_1, hy0_2⟩ := open_agg3 Try.underlying23 (by kernel_rfl) (show Try.prog.cellsOf 23 = 3 by kernel_rfl) (hval 0 23 v0 rfl rfl) h0
  obtain ⟨a0_0, e0_0, _, w0_0⟩ := DataW.trod_int Try.underlying3 hy0_0
  simp at e0_0
  subst e0_0
  obtain ⟨a0_1, e0_1, _, w0_1⟩ := DataW.trod_int Try.underlying3 hy0_1
  simp at e0_1
  subst e0_1
  obtain ⟨a0_2, e0_2, _, w0_2⟩ := DataW.trod_int Try.underlying3 hy0_2
  simp at e0_2
  subst e0_2
  have k1 := h1
  have lt1 : ∀ x ∈ p1, x.block < W.heap.size := by obtain ⟨m, hm⟩ := k1; exact DataW.trod_lt m _ _ _ hm
  obtain ⟨a1, rfl, _, _, w1⟩ := open_int Try.underlying3 (hval 1 3 v1 rfl rfl) h1
  have k2 := h2
  have lt2 : ∀ x ∈ p2, x.block < W.heap.size := by obtain ⟨m, hm⟩ := k2; exact DataW.trod_lt m _ _ _ hm
  obtain ⟨c2_0, c2_1, y2_0, y2_1, m2, rfl, _, _, hy2_0, hy2_1⟩ := open_agg2 Try.underlying25 (by kernel_rfl) (show Try.prog.cellsOf 25 = 2 by kernel_rfl) (hval 2 25 v2 rfl rfl) h2
  obtain ⟨a2_0, e2_0, _, w2_0⟩ := DataW.trod_int Try.underlying3 hy2_0
  simp at e2_0
  subst e2_0
  obtain ⟨a2_1, e2_1, _, w2_1⟩ := DataW.trod_int Try.underlying3 hy2_1
  simp at e2_1
  subst e2_1
  have k3 := h3
  have lt3 : ∀ x ∈ p3, x.block < W.heap.size := by obtain ⟨m, hm⟩ := k3; exact DataW.trod_lt m _ _ _ hm
  obtain ⟨a3, rfl, _, _, w3⟩ := open_int Try.underlying3 (hval 3 3 v3 rfl rfl) h3
  clear hA0 hval0
  refine (walk_ClockCorrect a0_0 a0_1 a0_2 a1 a2_0 a2_1 a3 W w0_0 w0_1 w0_2 w1 w2_0 w2_1 w3).mono fun e W' ⟨he, bel⟩ => ?_
  subst he
  exact ⟨_, rfl, _, _, _, [], _, [], hW', trodAll_mk1 (shut_bool Try.underlying4 _), (trodAll_cons_mk (Below.trod laidOut (by kernel_rfl) (of_decide_eq_true (by kernel_rfl)) k0 bel lt0) (trodAll_cons_mk (Below.trod laidOut (by kernel_rfl) (of_decide_eq_true (by kernel_rfl)) k1 bel lt1) (trodAll_cons_mk (Below.trod laidOut (by kernel_rfl) (of_decide_eq_true (by kernel_rfl)) k2 bel lt2) (trodAll_cons_mk (Below.trod laidOut (by kernel_rfl) (of_decide_eq_true (by kernel_rfl)) k3 bel lt3) trodAll_mk0)))), rfl, bel.frame _, fun h => by cases h⟩

theorem clockCorrect_holds : Rows.ClockCorrectSaid :=
  OpenClaim.holds_of_wide 9 Try.f9 rfl rfl rfl rfl rfl rfl rfl ⟨rfl, rfl, rfl, rfl, rfl⟩ rfl rfl rfl rfl rfl (by kernel_rfl) Try.func9 (by kernel_rfl)
    (of_decide_eq_true (by kernel_rfl)) (by unfold Func.isWrapper; first | (rw [if_pos (by decide +kernel)]; kernel_rfl) | (rw [if_neg (by decide +kernel)]; exact ⟨rfl, rfl⟩))
    (fun os started H enc _ => lifted_ClockCorrect os started H enc)
#print axioms clockCorrect_holds

end Go.Proofs.Ytjanlgnagooioaa
