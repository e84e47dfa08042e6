/- Clock: contracts of Correct and Sure. -/
import Derived.Test.YtjanlgnagooioaaClockB
namespace Go.Proofs.Ytjanlgnagooioaa
open Go.RowKit

set_option maxHeartbeats 400000 in
theorem Correct_no (s e d r a b : Int) (w : World) (h : (rdB s e d r && winB a b) = false) :
    Calls Try.prog 22 #[.agg #[.int .i64 s, .int .i64 e, .int .i64 d], .int .i64 r, .agg #[.int .i64 a, .int .i64 b]] w (Ret (.tuple #[.agg #[.int .i64 0, .int .i64 0, .int .i64 0], .int .i64 1]) w) := by
  have h' : rdB s e d r = false ∨ (rdB s e d r = true ∧ winB a b = false) := by
    cases h1 : rdB s e d r <;> simp_all
  clear h
  rcases h' with h1 | ⟨h1, h2⟩
  all_goals
    go_enter Try.func22, Try.ntmps22
    go_wp2_with (first | (go_at_call 28; refine (vvalid_c _ _ _ _ _).mono ?_; rintro e w' ⟨rfl, hb⟩; obtain ⟨hz, hc, hf⟩ := bcl hb (by first | (simp; rfl) | rfl)) | (go_at_call 33; refine (window_c _ _ _).mono ?_; rintro e w' ⟨rfl, hb⟩; obtain ⟨hz, hc, hf⟩ := bcl hb (by first | (simp; rfl) | rfl)))
    (refine bodyPost_ret (v := .tuple #[.agg #[.int .i64 0, .int .i64 0, .int .i64 0], .int .i64 1]) (by simp only [results, Try.results22]; go_simp) rfl ⟨rfl, ?_⟩)
    (repeat (first | (with_reducible exact bl_refl _) | (with_reducible refine bl_drew ?_) | (with_reducible refine bl_alloc ?_ _) | (with_reducible refine bl_set' ?_ ?_; · (simp <;> omega)) | (with_reducible refine bl_last (by assumption) ?_) | (with_reducible refine bl_drewN ?_ _)))

set_option maxHeartbeats 1000000 in
theorem Correct_lie (s e d r a b f l A B : Int) (w : World) (h1 : rdB s e d r = true) (h2 : winB a b = true)
    (hF : ∀ w, Calls Try.prog 29 #[.agg #[.int .i64 s, .int .i64 e, .int .i64 d, .int .i64 r]] w (Ret (.int .i64 f) w))
    (hL : ∀ w, Calls Try.prog 30 #[.agg #[.int .i64 s, .int .i64 e, .int .i64 d, .int .i64 r]] w (Ret (.int .i64 l) w))
    (hA : (a < f ∧ A = f) ∨ (f ≤ a ∧ A = a)) (hB : (l < b ∧ B = l) ∨ (b ≤ l ∧ B = b)) (hlt : B < A) :
    Calls Try.prog 22 #[.agg #[.int .i64 s, .int .i64 e, .int .i64 d], .int .i64 r, .agg #[.int .i64 a, .int .i64 b]] w (Ret (.tuple #[.agg #[.int .i64 0, .int .i64 0, .int .i64 0], .int .i64 23]) w) := by
  have HF := Lib.hid hF
  have HL := Lib.hid hL
  clear hF hL
  rcases hA with ⟨ha, rfl⟩ | ⟨ha, rfl⟩ <;> rcases hB with ⟨hb0, rfl⟩ | ⟨hb0, rfl⟩
  all_goals
    go_enter Try.func22, Try.ntmps22
    go_wp2_with (first | (go_at_call 28; refine (vvalid_c _ _ _ _ _).mono ?_; rintro e w' ⟨rfl, hb⟩; obtain ⟨hz, hc, hf⟩ := bcl hb (by first | (simp; rfl) | rfl)) | (go_at_call 33; refine (window_c _ _ _).mono ?_; rintro e w' ⟨rfl, hb⟩; obtain ⟨hz, hc, hf⟩ := bcl hb (by first | (simp; rfl) | rfl)))
    (refine wp_region_ble [0,1,2,3,4,5,6,7,8,9,10] [9] [11,12,13] (by kernel_rfl) (by kernel_rfl) (by rfl) (by repeat (first | exact panic_body | refine panic_then ?_)) ?_
     simp only [pickI, pick, List.getElem?_cons_succ, List.getElem?_cons_zero]
     iterate 11 (first
       | (refine head_val (by rfl) (by rfl) ?_
          apply Exists.intro
          refine ⟨fun X hX => ?_, ?_⟩
          · (obtain ⟨qz, qc, qf⟩ := bcl hX.out (by first | (simp; rfl) | rfl)
             go_simp
             first | done | (go_at_call 29; refine (HF.out _).mono ?_; rintro e w2 ⟨rfl, hb2⟩; exact ⟨rfl, hX.trans hb2⟩) | (go_at_call 30; refine (HL.out _).mono ?_; rintro e w2 ⟨rfl, hb2⟩; exact ⟨rfl, hX.trans hb2⟩) | rfl | exact ⟨rfl, rfl⟩)
          simp only [Act.put, List.setIfInBounds_toArray, List.set_cons_zero, List.set_cons_succ])
       | (refine head_pure (by rfl) (by rfl) ?_
          apply Exists.intro
          refine ⟨fun X => ?_, ?_⟩
          · (go_simp
             first | done | rfl)
          simp only [Act.put, List.setIfInBounds_toArray, List.set_cons_zero, List.set_cons_succ])
       | (refine head_pass (by rfl) ?_
          simp only [Act.put, List.setIfInBounds_toArray, List.set_cons_zero, List.set_cons_succ]))
     refine head_nil ?_
     intro w' hw'
     have hb := hw'.out
     clear hw'
     obtain ⟨hz, hc, hf⟩ := bcl hb (by first | (simp; rfl) | rfl))
    go_wp2_with (fail)
    (refine bodyPost_ret (v := .tuple #[.agg #[.int .i64 0, .int .i64 0, .int .i64 0], .int .i64 23]) (by simp only [results, Try.results22]; go_simp) rfl ⟨rfl, ?_⟩)
    (repeat (first | (with_reducible exact bl_refl _) | (with_reducible refine bl_drew ?_) | (with_reducible refine bl_alloc ?_ _) | (with_reducible refine bl_set' ?_ ?_; · (simp <;> omega)) | (with_reducible refine bl_last (by assumption) ?_) | (with_reducible refine bl_drewN ?_ _)))

set_option maxHeartbeats 1000000 in
theorem Correct_set (s e d r a b f l A B x y z er : Int) (w : World) (h1 : rdB s e d r = true) (h2 : winB a b = true)
    (hF : ∀ w, Calls Try.prog 29 #[.agg #[.int .i64 s, .int .i64 e, .int .i64 d, .int .i64 r]] w (Ret (.int .i64 f) w))
    (hL : ∀ w, Calls Try.prog 30 #[.agg #[.int .i64 s, .int .i64 e, .int .i64 d, .int .i64 r]] w (Ret (.int .i64 l) w))
    (hA : (a < f ∧ A = f) ∨ (f ≤ a ∧ A = a)) (hB : (l < b ∧ B = l) ∨ (b ≤ l ∧ B = b)) (hlt : A ≤ B) (hA0 : 0 ≤ A) (hB1 : B ≤ 100000)
    (hS : ∀ w, Calls Try.prog 20 #[.int .i64 ((A + B) / 2), .agg #[.int .i64 A, .int .i64 B], .int .i64 d] w (Ret (.tuple #[.agg #[.int .i64 x, .int .i64 y, .int .i64 z], .int .i64 er]) w)) :
    Calls Try.prog 22 #[.agg #[.int .i64 s, .int .i64 e, .int .i64 d], .int .i64 r, .agg #[.int .i64 a, .int .i64 b]] w (Ret (.tuple #[.agg #[.int .i64 x, .int .i64 y, .int .i64 z], .int .i64 er]) w) := by
  have HF := Lib.hid hF
  have HL := Lib.hid hL
  have HS := Lib.hid hS
  clear hF hL hS
  rcases hA with ⟨ha, rfl⟩ | ⟨ha, rfl⟩ <;> rcases hB with ⟨hb0, rfl⟩ | ⟨hb0, rfl⟩
  all_goals
    go_enter Try.func22, Try.ntmps22
    go_wp2_with (first | (go_at_call 28; refine (vvalid_c _ _ _ _ _).mono ?_; rintro e w' ⟨rfl, hb⟩; obtain ⟨hz, hc, hf⟩ := bcl hb (by first | (simp; rfl) | rfl)) | (go_at_call 33; refine (window_c _ _ _).mono ?_; rintro e w' ⟨rfl, hb⟩; obtain ⟨hz, hc, hf⟩ := bcl hb (by first | (simp; rfl) | rfl)))
    (refine wp_region_ble [0,1,2,3,4,5,6,7,8,9,10] [9] [11,12,13] (by kernel_rfl) (by kernel_rfl) (by rfl) (by repeat (first | exact panic_body | refine panic_then ?_)) ?_
     simp only [pickI, pick, List.getElem?_cons_succ, List.getElem?_cons_zero]
     iterate 11 (first
       | (refine head_val (by rfl) (by rfl) ?_
          apply Exists.intro
          refine ⟨fun X hX => ?_, ?_⟩
          · (obtain ⟨qz, qc, qf⟩ := bcl hX.out (by first | (simp; rfl) | rfl)
             go_simp
             first | done | (go_at_call 29; refine (HF.out _).mono ?_; rintro e w2 ⟨rfl, hb2⟩; exact ⟨rfl, hX.trans hb2⟩) | (go_at_call 30; refine (HL.out _).mono ?_; rintro e w2 ⟨rfl, hb2⟩; exact ⟨rfl, hX.trans hb2⟩) | rfl | exact ⟨rfl, rfl⟩)
          simp only [Act.put, List.setIfInBounds_toArray, List.set_cons_zero, List.set_cons_succ])
       | (refine head_pure (by rfl) (by rfl) ?_
          apply Exists.intro
          refine ⟨fun X => ?_, ?_⟩
          · (go_simp
             first | done | rfl)
          simp only [Act.put, List.setIfInBounds_toArray, List.set_cons_zero, List.set_cons_succ])
       | (refine head_pass (by rfl) ?_
          simp only [Act.put, List.setIfInBounds_toArray, List.set_cons_zero, List.set_cons_succ]))
     refine head_nil ?_
     intro w' hw'
     have hb := hw'.out
     clear hw'
     obtain ⟨hz, hc, hf⟩ := bcl hb (by first | (simp; rfl) | rfl))
    go_wp2_with (go_at_call 20; refine (HS.out _).mono ?_; rintro e w' ⟨rfl, hb⟩; obtain ⟨hz, hc, hf⟩ := bcl hb (by first | (simp; rfl) | rfl))
    (refine bodyPost_ret (v := .tuple #[.agg #[.int .i64 x, .int .i64 y, .int .i64 z], .int .i64 er]) (by simp only [results, Try.results22]; go_simp) rfl ⟨rfl, ?_⟩)
    (repeat (first | (with_reducible exact bl_refl _) | (with_reducible refine bl_drew ?_) | (with_reducible refine bl_alloc ?_ _) | (with_reducible refine bl_set' ?_ ?_; · (simp <;> omega)) | (with_reducible refine bl_last (by assumption) ?_) | (with_reducible refine bl_drewN ?_ _)))
end Go.Proofs.Ytjanlgnagooioaa
