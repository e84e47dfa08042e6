/- TopCircle holds. No condition; its listed tables are tied to the program's text. -/
import Derived.Test.YtehifkdfbiebfaaDoorK20
import Derived.Test.YtehifkdfbiebfaaDoorK49
import Derived.Test.YtehifkdfbiebfaaDoorK50
import Derived.Test.YtehifkdfbiebfaaDoorCards
import Derived.Test.YtehifkdfbiebfaaDoorTie
import Derived.SevenTiedAt
namespace Go.Proofs.YtehifkdfbiebfaaDoor
open Go Go.ChangeShapes Go.WideShapes Go.ChangeAt Go.RowKit Go.Joins

theorem walk_TopCircle (Af : Option Addr) (xs : List Int) (capf : Nat) (Av : Option Addr) (l : List (Nat → Int)) (capv : Nat) (f1 f2 a b : Int) (v : Nat → Int) (w : World) (hxl : xs.length ≤ 9223372036854775807) (hf : IntsR w w.heap.size Af xs) (hL9 : l.length ≤ 140737488355328) (hv : VecsR w w.heap.size Av l.length (fun k => l.getD k (fun _ => 0))) (hlaid : LG w ∧ PR w) :
    Calls Tryd.prog 3 #[.slice Af xs.length capf, .slice Av l.length capv, .agg #[.int .i64 f1, .int .i64 f2], .int .i64 a, .int .i64 b, .agg #[.int .i64 (v 0), .int .i64 (v 1), .int .i64 (v 2), .int .i64 (v 3), .int .i64 (v 4), .int .i64 (v 5)]] w (Ret (.bool true) w) :=
  circle_walk xs Af capf Av l.length _ capv f1 f2 a b (v 0) (v 1) (v 2) (v 3) (v 4) (v 5) w hxl hf hL9 hv hlaid.1 hlaid.2
set_option maxRecDepth 100000 in
theorem lifted_TopCircle (os : Os) (started : os.Started) (H : Type) (enc : TypeId × Value → H) :
    ReturnsInHanded {} Tryd.checked os 3 .any (fun w args => (Rows.topCircleSpec.pre enc Tryd.prog Tryd.f3 Rows.topCircleRow.domain false w args ∧ laidMetH Tryd.prog Rows.topCircleRow.laid w) ∧ sizedMet enc Tryd.prog Tryd.f3 (OpenSpec.ofChange Rows.topCircleSpec) false w args) (Rows.topCircleSpec.post enc Tryd.prog Tryd.f3 false true false false) := by
  refine returnsInHanded_of_change_and (C := Tryd.checked) (X := fun w _ => laidMetH Tryd.prog Rows.topCircleRow.laid w) (fun _ _ _ hh h => h.of_heap hh) own started (by kernel_rfl) Tryd.func3
    (ChangeSpec.witness_shaped (enc := enc) (C := Tryd.checked) (os := os) (X := fun w _ => laidMetH Tryd.prog Rows.topCircleRow.laid w) false (World.doorLaid Tryd.prog 62 os) #[.slice none 0 0, .slice none 0 0, .agg #[.int .i64 0, .int .i64 0], .int .i64 0, .int .i64 0, .agg #[.int .i64 0, .int .i64 0, .int .i64 0, .int .i64 0, .int .i64 0, .int .i64 0]] 8 rfl (World.shaped_of_RefB (by kernel_rfl) (by kernel_rfl)) (by kernel_rfl) (by kernel_rfl) (by kernel_rfl) (door_topCircle os _)) ?_
  intro W base args ds gs before hval0 hW hcnd hsz0 hL _
  have hval : ∀ (j : Nat) t v, Tryd.f3.params[j]? = some t → args[j]? = some v → Value.okWide Tryd.prog W .any base t v := hval0
  have hW' := hW
  obtain ⟨p, q, hA0, hV, rfl, hfz, hnd⟩ := hW
  have hA : DataW.TrodAll enc Tryd.prog W 0 (fun _ => true) true Tryd.f3.params.toList args.toList ds p := hA0
  have hsz : (DataW.weightsEach Tryd.prog (Tryd.f3.params.toList ++ Rows.topCircleSpec.plain.varTypes Tryd.prog) (ds ++ gs)).all (· ≤ reachBytes) = true := hsz0
  rw [Tryd.params3] at hA hval hsz
  obtain ⟨v0, vs0, d0, ds0, p0, q0, hargs, rfl, rfl, h0, r0⟩ := trodAll_cons hA
  obtain ⟨v1, vs1, d1, ds1, p1, q1, rfl, rfl, rfl, h1, r1⟩ := trodAll_cons r0
  obtain ⟨v2, vs2, d2, ds2, p2, q2, rfl, rfl, rfl, h2, r2⟩ := trodAll_cons r1
  obtain ⟨v3, vs3, d3, ds3, p3, q3, rfl, rfl, rfl, h3, r3⟩ := trodAll_cons r2
  obtain ⟨v4, vs4, d4, ds4, p4, q4, rfl, rfl, rfl, h4, r4⟩ := trodAll_cons r3
  obtain ⟨v5, vs5, d5, ds5, p5, q5, rfl, rfl, rfl, h5, r5⟩ := trodAll_cons r4
  obtain ⟨rfl, rfl, rfl⟩ := trodAll_nil r5
  obtain rfl : args = #[v0, v1, v2, v3, v4, v5] := by cases args; simp_all
  obtain ⟨rfl, rfl⟩ := trodVars_none hV
  have k0 := h0
  have lt0 : ∀ x ∈ p0, x.block < W.heap.size := by obtain ⟨m, hm⟩ := k0; exact DataW.trod_lt m _ _ _ hm
  obtain ⟨A0, l0, cap0, rfl, len0, rw0⟩ := open_ints (hval 0 22 v0 rfl rfl) h0
  have k1 := h1
  have lt1 : ∀ x ∈ p1, x.block < W.heap.size := by obtain ⟨m, hm⟩ := k1; exact DataW.trod_lt m _ _ _ hm
  obtain ⟨A1, l1, cap1, rfl, len1, rw1⟩ := open_vecs Tryd.underlying23 Tryd.underlying27 Tryd.underlying3 (by kernel_rfl) (by kernel_rfl) (hval 1 23 v1 rfl rfl) h1
  have k2 := h2
  have lt2 : ∀ x ∈ p2, x.block < W.heap.size := by obtain ⟨m, hm⟩ := k2; exact DataW.trod_lt m _ _ _ hm
  obtain ⟨c2_0, c2_1, y2_0, y2_1, m2, rfl, _, _, hy2_0, hy2_1⟩ := open_agg2 Tryd.underlying25 (by kernel_rfl) (show Tryd.prog.cellsOf 25 = 2 by kernel_rfl) (hval 2 25 v2 rfl rfl) h2
  obtain ⟨a2_0, e2_0, _, w2_0⟩ := DataW.trod_int Tryd.underlying3 hy2_0
  simp at e2_0
  subst e2_0
  obtain ⟨a2_1, e2_1, _, w2_1⟩ := DataW.trod_int Tryd.underlying3 hy2_1
  simp at e2_1
  subst e2_1
  have k3 := h3
  have lt3 : ∀ x ∈ p3, x.block < W.heap.size := by obtain ⟨m, hm⟩ := k3; exact DataW.trod_lt m _ _ _ hm
  obtain ⟨a3, rfl, _, _, w3⟩ := open_int Tryd.underlying3 (hval 3 3 v3 rfl rfl) h3
  have k4 := h4
  have lt4 : ∀ x ∈ p4, x.block < W.heap.size := by obtain ⟨m, hm⟩ := k4; exact DataW.trod_lt m _ _ _ hm
  obtain ⟨a4, rfl, _, _, w4⟩ := open_int Tryd.underlying3 (hval 4 3 v4 rfl rfl) h4
  have k5 := h5
  have lt5 : ∀ x ∈ p5, x.block < W.heap.size := by obtain ⟨m, hm⟩ := k5; exact DataW.trod_lt m _ _ _ hm
  obtain ⟨x5, rfl⟩ := open_vecf Tryd.underlying27 Tryd.underlying3 (by kernel_rfl) (by kernel_rfl) (hval 5 27 v5 rfl rfl) h5
  clear hA0 hval0
  have z1 : l1.length ≤ 140737488355328 := by
    have h1 := slice_sized (j := 1) Tryd.underlying23 k1 hsz rfl rfl
    have h2 : reachBytes = 140737488351232 := by decide
    have h3 : Tryd.prog.bytesOf 27 = 48 := by kernel_rfl
    rw [h2, h3] at h1
    omega
  refine (walk_TopCircle A0 l0 cap0 A1 l1 cap1 a2_0 a2_1 a3 a4 x5 W len0 rw0 z1 rw1 (topCircle_of_laid hL)).mono fun e W' ⟨he, bel⟩ => ?_
  subst he
  exact ⟨_, rfl, _, _, _, [], _, [], hW', trodAll_mk1 (shut_bool Tryd.underlying4 _), (trodAll_cons_mk (Below.trod laidOut (by kernel_rfl) (of_decide_eq_true (by kernel_rfl)) k0 bel lt0) (trodAll_cons_mk (Below.trod laidOut (by kernel_rfl) (of_decide_eq_true (by kernel_rfl)) k1 bel lt1) (trodAll_cons_mk (Below.trod laidOut (by kernel_rfl) (of_decide_eq_true (by kernel_rfl)) k2 bel lt2) (trodAll_cons_mk (Below.trod laidOut (by kernel_rfl) (of_decide_eq_true (by kernel_rfl)) k3 bel lt3) (trodAll_cons_mk (Below.trod laidOut (by kernel_rfl) (of_decide_eq_true (by kernel_rfl)) k4 bel lt4) (trodAll_cons_mk (Below.trod laidOut (by kernel_rfl) (of_decide_eq_true (by kernel_rfl)) k5 bel lt5) trodAll_mk0)))))), rfl, bel.frame _, fun h => by cases h⟩

theorem topCircle_holds : Rows.TopCircleSaid :=
  OpenClaim.holds_of_wide 3 Tryd.f3 rfl rfl rfl rfl rfl rfl rfl ⟨rfl, rfl, rfl, rfl, rfl⟩ rfl rfl rfl rfl rfl (by kernel_rfl) Tryd.func3 (by kernel_rfl)
    (of_decide_eq_true (by kernel_rfl)) (by unfold Func.isWrapper; first | (rw [if_pos (by decide +kernel)]; kernel_rfl) | (rw [if_neg (by decide +kernel)]; exact ⟨rfl, rfl⟩))
    (fun os started H enc _ => lifted_TopCircle os started H enc)
/-- The card: the row, its listed variables tied to the program's text. -/
theorem topCircle_card : Rows.TopCircleCardSaid :=
  Claim7.holds_tied_plain_at .later [] [.data, .data] true Rows.topCircleCard.stood.harness true
    topCircle_holds (fun _ h => by cases h) (by kernel_rfl) (fun _ h => by cases h) topCircle_row_tie rfl ⟨rfl, rfl⟩ (by kernel_rfl) rfl
    (fun f fn hf hfn => by
      obtain rfl : f = 3 := Option.some.inj ((show Tryd.prog.funcNamed Rows.topCircleRow.func = some 3 by kernel_rfl).symm.trans hf) |>.symm
      obtain rfl : fn = Tryd.f3 := (Option.some.inj (Tryd.func3.symm.trans hfn)).symm
      refine ⟨by kernel_rfl, fun j t ht => ?_⟩
      rw [Tryd.params3] at ht
      have hall : ∀ t ∈ [22, 23, 25, 3, 3, 27], Tryd.prog.wantsStandIn t = false := by
        intro t ht
        simp only [List.mem_cons, List.not_mem_nil, or_false] at ht
        rcases ht with rfl | rfl | rfl | rfl | rfl | rfl <;> kernel_rfl
      exact hall t (List.mem_of_getElem? (by simpa using ht)))
    (by kernel_rfl)
#print axioms topCircle_card

end Go.Proofs.YtehifkdfbiebfaaDoor
