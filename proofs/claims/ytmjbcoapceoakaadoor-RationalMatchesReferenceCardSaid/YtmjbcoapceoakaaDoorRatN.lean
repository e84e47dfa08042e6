/- Rational: Near at the chapter's values. -/
import Derived.Test.YtmjbcoapceoakaaDoorRatS
import Derived.BigQuiet
namespace Go.Proofs.YtmjbcoapceoakaaDoor
open Go.RowKit

theorem near1_panic (r e : Nat) (n : Int) (older : List PanicEntry) (w : World) (a b c : Value) (h1 : w.cell? ⟨r, 0, none⟩ = some a) (h2 : w.cell? ⟨r, 1, none⟩ = some b) (h3 : w.cell? ⟨e, 0, none⟩ = some c)
    (f1 : w.frozen? ⟨r, 0, none⟩ = false) (f2 : w.frozen? ⟨r, 1, none⟩ = false) (f3 : w.frozen? ⟨e, 0, none⟩ = false) (hne : r < e) :
    CallsD Tryd.prog 44 #[.pointer (some ⟨r, 0, none⟩), .pointer (some ⟨e, 0, none⟩)] (.panicking ({ v := .iface 26 (.int .i64 n), recovered := false } :: older)) w fun en u' w' =>
      en = .returned (.tuple #[]) ∧ u' = .panicking ({ v := .iface 26 (.int .i64 n), recovered := true } :: older) ∧ w' = ((w.setCell ⟨r, 0, none⟩ (.int .i64 0)).setCell ⟨r, 1, none⟩ (.int .i64 0)).setCell ⟨e, 0, none⟩ (.int .i64 n) := by
  have C := caught_some r e n w a b c h1 h2 h3 f1 f2 f3 hne
  refine callsD_of_wpS Tryd.func44 rfl fun c₀ cs hu => ?_
  apply wpS_region
  simp [wpOpsS, go_sem, recoverD, hu, Tryd.ntmps44]
  refine C.mono ?_
  rintro en w' ⟨rfl, rfl⟩
  simp [bodyPostS, results, Tryd.results44]

theorem near1_idle (r e : Nat) (w : World) :
    CallsD Tryd.prog 44 #[.pointer (some ⟨r, 0, none⟩), .pointer (some ⟨e, 0, none⟩)] .returning w fun en u' w' => en = .returned (.tuple #[]) ∧ u' = .returning ∧ w' = w := by
  have C := caught_nil r e w
  refine callsD_of_wpS Tryd.func44 rfl fun c₀ cs hu => ?_
  apply wpS_region
  simp [wpOpsS, go_sem, recoverD, hu, Tryd.ntmps44]
  refine C.mono ?_
  rintro en w' ⟨rfl, rfl⟩
  cases c₀
  simp_all [bodyPostS, results, Tryd.results44]


theorem red_7_12 (w : World) : Calls Tryd.prog 41 #[.int .i64 7, .int .i64 12] w (Ret (.agg #[.int .i64 7, .int .i64 12]) w) := by
  have h := reduced_ok 7 12 w (by decide) (by decide) (by decide) (by decide) (by decide) (by decide +kernel) (by decide +kernel)
  have e1 : numF 7 12 = 7 := by decide +kernel
  have e2 : (yF 7 12 : Int) = 12 := by decide +kernel
  rw [e1, e2] at h
  exact h
set_option maxRecDepth 100000 in
set_option maxHeartbeats 2000000 in
theorem near_head (w : World) : Calls Tryd.prog 14 #[.agg #[.int .i64 584963, .int .i64 1000000], .int .i64 12] w (Ret (.tuple #[.agg #[.int .i64 7, .int .i64 12], .int .i64 0]) w) := by
  have hmf := hmkf
  have hV := fun w => Valid_c 584963 1000000 w
  rw [show vR 584963 1000000 = true by decide +kernel] at hV
  have HV := Lib.hid hV
  clear hV
  go_enter_defers Tryd.func14, Tryd.ntmps14
  go_wp2_with (go_at_call 13; ((with_reducible refine (HV.out _).mono ?_); rintro e w' ⟨rfl, hb⟩; obtain ⟨hz, hc, hf⟩ := bcl hb (by first | (simp; rfl) | rfl)))
  go_quiet (fail)
  go_wp2
  go_loop [6, 7, 8, 9, 10, 11] (fun a b c d n m => (a = .int .i64 0 ∧ b = .int .i64 1 ∧ c = .int .i64 1 ∧ d = .int .i64 0 ∧ n = .int .i64 584963 ∧ m = .int .i64 1000000) ∨
    (a = .int .i64 1 ∧ b = .int .i64 0 ∧ c = .int .i64 0 ∧ d = .int .i64 1 ∧ n = .int .i64 1000000 ∧ m = .int .i64 584963) ∨
    (a = .int .i64 0 ∧ b = .int .i64 1 ∧ c = .int .i64 1 ∧ d = .int .i64 1 ∧ n = .int .i64 584963 ∧ m = .int .i64 415037) ∨
    (a = .int .i64 1 ∧ b = .int .i64 1 ∧ c = .int .i64 1 ∧ d = .int .i64 2 ∧ n = .int .i64 415037 ∧ m = .int .i64 169926) ∨
    (a = .int .i64 1 ∧ b = .int .i64 2 ∧ c = .int .i64 3 ∧ d = .int .i64 5 ∧ n = .int .i64 169926 ∧ m = .int .i64 75185) ∨
    (a = .int .i64 3 ∧ b = .int .i64 5 ∧ c = .int .i64 7 ∧ d = .int .i64 12 ∧ n = .int .i64 75185 ∧ m = .int .i64 19556)) (fun _ _ _ _ _ m => (intOf m).toNat)
  case atStart => exact Or.inl ⟨rfl, rfl, rfl, rfl, rfl, rfl⟩
  case round =>
    rcases hrel with ⟨rfl, rfl, rfl, rfl, rfl, rfl⟩ | ⟨rfl, rfl, rfl, rfl, rfl, rfl⟩ | ⟨rfl, rfl, rfl, rfl, rfl, rfl⟩ | ⟨rfl, rfl, rfl, rfl, rfl, rfl⟩ | ⟨rfl, rfl, rfl, rfl, rfl, rfl⟩ | ⟨rfl, rfl, rfl, rfl, rfl, rfl⟩
    · go_wp2_with (go_at_call 46; ((with_reducible refine (floor_c _ _ _ (by decide) (by decide) (by decide) (by decide)).mono ?_); rintro e w' ⟨rfl, rfl⟩))
      go_round
      case rel => simp
      case measure => simp [intOf]
    · go_wp2_with (go_at_call 46; ((with_reducible refine (floor_c _ _ _ (by decide) (by decide) (by decide) (by decide)).mono ?_); rintro e w' ⟨rfl, rfl⟩))
      go_round
      case rel => simp
      case measure => simp [intOf]
    · go_wp2_with (go_at_call 46; ((with_reducible refine (floor_c _ _ _ (by decide) (by decide) (by decide) (by decide)).mono ?_); rintro e w' ⟨rfl, rfl⟩))
      go_round
      case rel => simp
      case measure => simp [intOf]
    · go_wp2_with (go_at_call 46; ((with_reducible refine (floor_c _ _ _ (by decide) (by decide) (by decide) (by decide)).mono ?_); rintro e w' ⟨rfl, rfl⟩))
      go_round
      case rel => simp
      case measure => simp [intOf]
    · go_wp2_with (go_at_call 46; ((with_reducible refine (floor_c _ _ _ (by decide) (by decide) (by decide) (by decide)).mono ?_); rintro e w' ⟨rfl, rfl⟩))
      go_round
      case rel => simp
      case measure => simp [intOf]
    · go_wp2_with (go_at_call 46; ((with_reducible refine (floor_c _ _ _ (by decide) (by decide) (by decide) (by decide)).mono ?_); rintro e w' ⟨rfl, rfl⟩))
      (refine wp_region_bl [0,1,2,3,4,5,6,7,8,9,10,11,12,13,14,15,16,17,18,19,20,21,22,23,24,25,26] [] (by kernel_rfl) (by kernel_rfl) (by rfl) ?_
       simp only [pickI, pick, List.getElem?_cons_succ, List.getElem?_cons_zero]
       iterate 27 (first
         | (refine head_val (by rfl) (by rfl) ?_
            apply Exists.intro
            refine ⟨fun X hX => ?_, ?_⟩
            · (obtain ⟨qz, qc, qf⟩ := bcl hX.out (by first | (simp; rfl) | rfl)
               go_simp
               first | done | (go_at_call 43; ((with_reducible refine (abs_c _ _ (by decide) (by decide)).mono ?_); rintro e w2 ⟨rfl, rfl⟩; exact ⟨rfl, hX⟩)) | rfl | exact ⟨rfl, rfl⟩)
            simp only [Act.put, List.setIfInBounds_toArray, List.set_cons_zero, List.set_cons_succ])
         | (refine head_pass (by rfl) ?_
            simp only [Act.put, List.setIfInBounds_toArray, List.set_cons_zero, List.set_cons_succ]))
       refine head_nil ?_
       intro w' hw'
       have hb := hw'.out
       clear hw'
       obtain ⟨hz, hc, hf⟩ := bcl hb (by first | (simp; rfl) | rfl))
      go_wp2_with (first | (go_at_call 41; refine (red_7_12 _).mono ?_; rintro e w2 ⟨rfl, hb2⟩; obtain ⟨hz2, hc2, hf2⟩ := bcl hb2 (by first | (simp; rfl) | rfl)))
      refine leaves_cons (f := 44) (args := #[.pointer (some ⟨w.heap.size + 1, 0, none⟩), .pointer (some ⟨w.heap.size + 1 + 1, 0, none⟩)]) (by simp) (by simp [go_sem]) ?_
      refine (near1_idle (w.heap.size + 1) (w.heap.size + 1 + 1) _).mono ?_
      rintro e u' w'' ⟨rfl, rfl, rfl⟩
      refine ⟨.tuple #[.agg #[.int .i64 7, .int .i64 12], .int .i64 0], ?_, ?_⟩
      · simp only [results, Tryd.results14]
        go_simp
      · refine ⟨rfl, ?_⟩
        (repeat (first | (with_reducible exact bl_refl _) | (with_reducible refine bl_drew ?_) | (with_reducible refine bl_alloc ?_ _) | (with_reducible refine bl_set' ?_ ?_; · (first | omega | (simp; done) | (simp; omega))) | (with_reducible refine bl_last (by assumption) ?_) | (with_reducible refine bl_drewN ?_ _)))
end Go.Proofs.YtmjbcoapceoakaaDoor
