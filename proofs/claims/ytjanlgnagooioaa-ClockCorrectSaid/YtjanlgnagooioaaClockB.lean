/- Clock: contracts of Passed, isWindow, Set, Correct. -/
import Derived.Test.YtjanlgnagooioaaClockA
namespace Go.Proofs.Ytjanlgnagooioaa
open Go.RowKit

def passF (s e d r t : Int) : Int := if t ≤ fstF s e d r then 1 else if lstF s e d r < t then -1 else 0
set_option maxHeartbeats 400000 in
theorem Passed_ok (s e d r t : Int) (w : World) (h : rdB s e d r = true) (ht : tickB t = true) :
    Calls Try.prog 16 #[.agg #[.int .i64 s, .int .i64 e, .int .i64 d], .int .i64 r, .int .i64 t] w (Ret (.tuple #[.int .i64 (passF s e d r t), .int .i64 0]) w) := by
  have HF := Lib.hid (fun w => first_c s e d r w h)
  have HL := Lib.hid (fun w => last_c s e d r w h)
  unfold passF
  generalize fstF s e d r = lo at *
  generalize lstF s e d r = hi at *
  go_enter Try.func16, Try.ntmps16
  go_wp2_with (first | (go_at_call 28; refine (vvalid_c _ _ _ _ _).mono ?_; rintro e w' ⟨rfl, hb⟩; obtain ⟨hz, hc, hf⟩ := bcl hb (by first | (simp; rfl) | rfl)) | (go_at_call 27; refine (tick_c _ _).mono ?_; rintro e w' ⟨rfl, hb⟩; obtain ⟨hz, hc, hf⟩ := bcl hb (by first | (simp; rfl) | rfl)) | (go_at_call 29; refine (HF.out _).mono ?_; rintro e w' ⟨rfl, hb⟩; obtain ⟨hz, hc, hf⟩ := bcl hb (by first | (simp; rfl) | rfl)) | (go_at_call 30; refine (HL.out _).mono ?_; rintro e w' ⟨rfl, hb⟩; obtain ⟨hz, hc, hf⟩ := bcl hb (by first | (simp; rfl) | rfl)))
  all_goals (go_ret2; refine ⟨ret_int2 ?_, ?_⟩)
  any_goals ((repeat (first | (with_reducible exact bl_refl _) | (with_reducible refine bl_drew ?_) | (with_reducible refine bl_alloc ?_ _) | (with_reducible refine bl_set' ?_ ?_; · (simp <;> omega)) | (with_reducible refine bl_last (by assumption) ?_) | (with_reducible refine bl_drewN ?_ _))))
  all_goals (first | rfl | omega | ((repeat' split) <;> omega))

set_option maxHeartbeats 400000 in
theorem Passed_no (s e d r t : Int) (w : World) (h : (rdB s e d r && tickB t) = false) :
    Calls Try.prog 16 #[.agg #[.int .i64 s, .int .i64 e, .int .i64 d], .int .i64 r, .int .i64 t] w (Ret (.tuple #[.int .i64 0, .int .i64 1]) w) := by
  cases h1 : rdB s e d r
  · clear h
    go_enter Try.func16, Try.ntmps16
    go_wp2_with (first | (go_at_call 28; refine (vvalid_c _ _ _ _ _).mono ?_; rintro e w' ⟨rfl, hb⟩; obtain ⟨hz, hc, hf⟩ := bcl hb (by first | (simp; rfl) | rfl)) | (go_at_call 27; refine (tick_c _ _).mono ?_; rintro e w' ⟨rfl, hb⟩; obtain ⟨hz, hc, hf⟩ := bcl hb (by first | (simp; rfl) | rfl)))
    all_goals (go_ret2; refine ⟨rfl, ?_⟩)
    (repeat (first | (with_reducible exact bl_refl _) | (with_reducible refine bl_drew ?_) | (with_reducible refine bl_alloc ?_ _) | (with_reducible refine bl_set' ?_ ?_; · (simp <;> omega)) | (with_reducible refine bl_last (by assumption) ?_) | (with_reducible refine bl_drewN ?_ _)))
  · have h2 : tickB t = false := by simpa [h1] using h
    clear h
    go_enter Try.func16, Try.ntmps16
    go_wp2_with (first | (go_at_call 28; refine (vvalid_c _ _ _ _ _).mono ?_; rintro e w' ⟨rfl, hb⟩; obtain ⟨hz, hc, hf⟩ := bcl hb (by first | (simp; rfl) | rfl)) | (go_at_call 27; refine (tick_c _ _).mono ?_; rintro e w' ⟨rfl, hb⟩; obtain ⟨hz, hc, hf⟩ := bcl hb (by first | (simp; rfl) | rfl)))
    all_goals (go_ret2; refine ⟨rfl, ?_⟩)
    (repeat (first | (with_reducible exact bl_refl _) | (with_reducible refine bl_drew ?_) | (with_reducible refine bl_alloc ?_ _) | (with_reducible refine bl_set' ?_ ?_; · (simp <;> omega)) | (with_reducible refine bl_last (by assumption) ?_) | (with_reducible refine bl_drewN ?_ _)))

def winB (a b : Int) : Bool := decide (0 ≤ a ∧ a ≤ b ∧ b ≤ 100000)
set_option maxHeartbeats 400000 in
theorem window_c (a b : Int) (w : World) : Calls Try.prog 33 #[.agg #[.int .i64 a, .int .i64 b]] w (Ret (.bool (winB a b)) w) := by
  go_enter Try.func33, Try.ntmps33
  go_wp2_with (go_at_call 27; refine (tick_c _ _).mono ?_; rintro e w' ⟨rfl, hb⟩; obtain ⟨hz, hc, hf⟩ := bcl hb (by first | (simp; rfl) | rfl))
  all_goals (go_ret; refine ⟨ret_bool (Bool.eq_iff_iff.2 ?_), ?_⟩)
  any_goals ((repeat (first | (with_reducible exact bl_refl _) | (with_reducible refine bl_drew ?_) | (with_reducible refine bl_alloc ?_ _) | (with_reducible refine bl_set' ?_ ?_; · (simp <;> omega)) | (with_reducible refine bl_last (by assumption) ?_) | (with_reducible refine bl_drewN ?_ _))))
  all_goals (clear hc hf hb hz; simp [tickB, winB] at * <;> omega)

def setB (r a b d : Int) : Bool := decide (0 ≤ r ∧ r ≤ 100000 ∧ 0 ≤ a ∧ a ≤ b ∧ b ≤ 100000 ∧ 0 ≤ d ∧ d ≤ 100)
def errF (r a b : Int) : Int := max (r - a) (b - r)
theorem set_no_ways {r a b d : Int} (h : setB r a b d = false) : (tickB r = false) ∨ (tickB r = true ∧ winB a b = false) ∨ (tickB r = true ∧ winB a b = true ∧ d < 0) ∨ (tickB r = true ∧ winB a b = true ∧ 0 ≤ d ∧ 100 < d) := by
  simp only [setB, tickB, winB, decide_eq_false_iff_not, decide_eq_true_eq] at *
  omega
theorem set_ok_ways {r a b d : Int} (h : setB r a b d = true) : tickB r = true ∧ winB a b = true ∧ 0 ≤ d ∧ d ≤ 100 ∧ 0 ≤ r ∧ r ≤ 100000 ∧ 0 ≤ a ∧ a ≤ b ∧ b ≤ 100000 := by
  simp only [setB, tickB, winB, decide_eq_true_eq] at *
  omega
set_option maxHeartbeats 400000 in
theorem Set_no (r a b d : Int) (w : World) (h : setB r a b d = false) :
    Calls Try.prog 20 #[.int .i64 r, .agg #[.int .i64 a, .int .i64 b], .int .i64 d] w (Ret (.tuple #[.agg #[.int .i64 0, .int .i64 0, .int .i64 0], .int .i64 1]) w) := by
  have h' := set_no_ways h
  clear h
  rcases h' with h1 | ⟨h1, h2⟩ | ⟨h1, h2, h3⟩ | ⟨h1, h2, h3, h4⟩
  all_goals
    go_enter Try.func20, Try.ntmps20
    go_wp2_with (first | (go_at_call 27; refine (tick_c _ _).mono ?_; rintro e w' ⟨rfl, hb⟩; obtain ⟨hz, hc, hf⟩ := bcl hb (by first | (simp; rfl) | rfl)) | (go_at_call 33; refine (window_c _ _ _).mono ?_; rintro e w' ⟨rfl, hb⟩; obtain ⟨hz, hc, hf⟩ := bcl hb (by first | (simp; rfl) | rfl)))
    (refine bodyPost_ret (v := .tuple #[.agg #[.int .i64 0, .int .i64 0, .int .i64 0], .int .i64 1]) (by simp only [results, Try.results20]; go_simp) rfl ⟨rfl, ?_⟩)
    (repeat (first | (with_reducible exact bl_refl _) | (with_reducible refine bl_drew ?_) | (with_reducible refine bl_alloc ?_ _) | (with_reducible refine bl_set' ?_ ?_; · (simp <;> omega)) | (with_reducible refine bl_last (by assumption) ?_) | (with_reducible refine bl_drewN ?_ _)))
set_option maxHeartbeats 400000 in
theorem Set_big (r a b d : Int) (w : World) (h : setB r a b d = true) (hm : 1000 < errF r a b) :
    Calls Try.prog 20 #[.int .i64 r, .agg #[.int .i64 a, .int .i64 b], .int .i64 d] w (Ret (.tuple #[.agg #[.int .i64 0, .int .i64 0, .int .i64 0], .int .i64 3]) w) := by
  obtain ⟨h1, h2, h3, h4, h5, h6, h7, h8, h9⟩ := set_ok_ways h
  clear h
  unfold errF at hm
  by_cases hx : r - a < b - r
  · have hm' : 1000 < b - r := by omega
    clear hm
    go_enter Try.func20, Try.ntmps20
    go_wp2_with (first | (go_at_call 27; refine (tick_c _ _).mono ?_; rintro e w' ⟨rfl, hb⟩; obtain ⟨hz, hc, hf⟩ := bcl hb (by first | (simp; rfl) | rfl)) | (go_at_call 33; refine (window_c _ _ _).mono ?_; rintro e w' ⟨rfl, hb⟩; obtain ⟨hz, hc, hf⟩ := bcl hb (by first | (simp; rfl) | rfl)))
    (refine bodyPost_ret (v := .tuple #[.agg #[.int .i64 0, .int .i64 0, .int .i64 0], .int .i64 3]) (by simp only [results, Try.results20]; go_simp) rfl ⟨rfl, ?_⟩)
    (repeat (first | (with_reducible exact bl_refl _) | (with_reducible refine bl_drew ?_) | (with_reducible refine bl_alloc ?_ _) | (with_reducible refine bl_set' ?_ ?_; · (simp <;> omega)) | (with_reducible refine bl_last (by assumption) ?_) | (with_reducible refine bl_drewN ?_ _)))
  · have hm' : 1000 < r - a := by omega
    clear hm
    go_enter Try.func20, Try.ntmps20
    go_wp2_with (first | (go_at_call 27; refine (tick_c _ _).mono ?_; rintro e w' ⟨rfl, hb⟩; obtain ⟨hz, hc, hf⟩ := bcl hb (by first | (simp; rfl) | rfl)) | (go_at_call 33; refine (window_c _ _ _).mono ?_; rintro e w' ⟨rfl, hb⟩; obtain ⟨hz, hc, hf⟩ := bcl hb (by first | (simp; rfl) | rfl)))
    (refine bodyPost_ret (v := .tuple #[.agg #[.int .i64 0, .int .i64 0, .int .i64 0], .int .i64 3]) (by simp only [results, Try.results20]; go_simp) rfl ⟨rfl, ?_⟩)
    (repeat (first | (with_reducible exact bl_refl _) | (with_reducible refine bl_drew ?_) | (with_reducible refine bl_alloc ?_ _) | (with_reducible refine bl_set' ?_ ?_; · (simp <;> omega)) | (with_reducible refine bl_last (by assumption) ?_) | (with_reducible refine bl_drewN ?_ _)))
set_option maxHeartbeats 400000 in
theorem Set_ok (r a b d : Int) (w : World) (h : setB r a b d = true) (hm : errF r a b ≤ 1000) :
    Calls Try.prog 20 #[.int .i64 r, .agg #[.int .i64 a, .int .i64 b], .int .i64 d] w (Ret (.tuple #[.agg #[.int .i64 r, .int .i64 (errF r a b), .int .i64 d], .int .i64 0]) w) := by
  obtain ⟨h1, h2, h3, h4, h5, h6, h7, h8, h9⟩ := set_ok_ways h
  clear h
  by_cases hx : r - a < b - r
  · have he : errF r a b = b - r := by unfold errF; omega
    rw [he] at hm ⊢
    clear he
    go_enter Try.func20, Try.ntmps20
    go_wp2_with (first | (go_at_call 27; refine (tick_c _ _).mono ?_; rintro e w' ⟨rfl, hb⟩; obtain ⟨hz, hc, hf⟩ := bcl hb (by first | (simp; rfl) | rfl)) | (go_at_call 33; refine (window_c _ _ _).mono ?_; rintro e w' ⟨rfl, hb⟩; obtain ⟨hz, hc, hf⟩ := bcl hb (by first | (simp; rfl) | rfl)))
    (refine bodyPost_ret (v := .tuple #[.agg #[.int .i64 r, .int .i64 (b - r), .int .i64 d], .int .i64 0]) (by simp only [results, Try.results20]; go_simp) rfl ⟨rfl, ?_⟩)
    (repeat (first | (with_reducible exact bl_refl _) | (with_reducible refine bl_drew ?_) | (with_reducible refine bl_alloc ?_ _) | (with_reducible refine bl_set' ?_ ?_; · (simp <;> omega)) | (with_reducible refine bl_last (by assumption) ?_) | (with_reducible refine bl_drewN ?_ _)))
  · have he : errF r a b = r - a := by unfold errF; omega
    rw [he] at hm ⊢
    clear he
    go_enter Try.func20, Try.ntmps20
    go_wp2_with (first | (go_at_call 27; refine (tick_c _ _).mono ?_; rintro e w' ⟨rfl, hb⟩; obtain ⟨hz, hc, hf⟩ := bcl hb (by first | (simp; rfl) | rfl)) | (go_at_call 33; refine (window_c _ _ _).mono ?_; rintro e w' ⟨rfl, hb⟩; obtain ⟨hz, hc, hf⟩ := bcl hb (by first | (simp; rfl) | rfl)))
    (refine bodyPost_ret (v := .tuple #[.agg #[.int .i64 r, .int .i64 (r - a), .int .i64 d], .int .i64 0]) (by simp only [results, Try.results20]; go_simp) rfl ⟨rfl, ?_⟩)
    (repeat (first | (with_reducible exact bl_refl _) | (with_reducible refine bl_drew ?_) | (with_reducible refine bl_alloc ?_ _) | (with_reducible refine bl_set' ?_ ?_; · (simp <;> omega)) | (with_reducible refine bl_last (by assumption) ?_) | (with_reducible refine bl_drewN ?_ _)))
end Go.Proofs.Ytjanlgnagooioaa
