/- Clock: the examples of the chapter (head). -/
import Derived.Test.YtjanlgnagooioaaClockS
namespace Go.Proofs.Ytjanlgnagooioaa
open Go.RowKit

theorem sureK_none {s e d t : Int} (h : vldB s e d = true) (h1 : fstF s e d 100000 < t) : sureK s e d t = sureN s := by
  obtain ⟨a, b, c, d1, e1, f⟩ := vld_of h
  obtain ⟨hk1, hk2, hk3⟩ := leastF_spec (sureP s e d t) (sureN s)
  rcases Nat.lt_or_ge (sureK s e d t) (sureN s) with h2 | h2
  · exfalso
    have h3 := hk3 h2
    unfold sureP at h3
    simp only [decide_eq_true_eq] at h3
    have h4 : s + ((leastF (sureP s e d t) (sureN s) : Nat) : Int) ≤ 100000 := by
      have : leastF (sureP s e d t) (sureN s) < sureN s := h2
      unfold sureN at this ⊢
      omega
    have h5 := fst_mono (s := s) (e := e) e1 f h4
    have h6 : t ≤ fstF s e d (s + ((leastF (sureP s e d t) (sureN s) : Nat) : Int)) := h3
    omega
  · have : leastF (sureP s e d t) (sureN s) ≤ sureN s := hk1
    have : sureK s e d t ≤ sureN s := this
    omega
theorem sureK_eq {s e d t : Int} (k : Nat) (h : vldB s e d = true) (hk : s + k ≤ 100000) (h1 : fstF s e d (s + k - 1) < t) (h2 : t ≤ fstF s e d (s + k)) : sureK s e d t = k := by
  obtain ⟨a, b, c, d1, e1, f⟩ := vld_of h
  obtain ⟨hk1, hk2, hk3⟩ := leastF_spec (sureP s e d t) (sureN s)
  have hkn : k < sureN s := by unfold sureN; omega
  rcases Nat.lt_trichotomy (sureK s e d t) k with h3 | h3 | h3
  · exfalso
    have h4 : sureP s e d t (sureK s e d t) = true := hk3 (Nat.lt_trans h3 hkn)
    unfold sureP at h4
    simp only [decide_eq_true_eq] at h4
    have h5 := fst_mono (s := s) (e := e) (r1 := s + (sureK s e d t : Int)) (r2 := s + k - 1) e1 f (by omega)
    omega
  · exact h3
  · exfalso
    have h4 := hk2 k h3
    unfold sureP at h4
    simp only [decide_eq_false_iff_not] at h4
    exact h4 h2

section
theorem hd_true1 (w : World) : Calls Try.prog 14 #[.agg #[.int .i64 1000, .int .i64 5, .int .i64 10], .int .i64 1000] w (Ret (.tuple #[.agg #[.int .i64 995, .int .i64 1005], .int .i64 0]) w) := by
  have := True_ok 1000 5 10 1000 w (by decide)
  rwa [show fstF 1000 5 10 1000 = 995 by decide, show lstF 1000 5 10 1000 = 1005 by decide] at this
theorem hd_true2 (w : World) : Calls Try.prog 14 #[.agg #[.int .i64 1000, .int .i64 5, .int .i64 10], .int .i64 1150] w (Ret (.tuple #[.agg #[.int .i64 1143, .int .i64 1157], .int .i64 0]) w) := by
  have := True_ok 1000 5 10 1150 w (by decide)
  rwa [show fstF 1000 5 10 1150 = 1143 by decide, show lstF 1000 5 10 1150 = 1157 by decide] at this
theorem hd_passed1 (w : World) : Calls Try.prog 16 #[.agg #[.int .i64 1000, .int .i64 5, .int .i64 10], .int .i64 1150, .int .i64 1143] w (Ret (.tuple #[.int .i64 1, .int .i64 0]) w) := by
  have := Passed_ok 1000 5 10 1150 1143 w (by decide) (by decide)
  rwa [show passF 1000 5 10 1150 1143 = 1 by decide] at this
theorem hd_passed2 (w : World) : Calls Try.prog 16 #[.agg #[.int .i64 1000, .int .i64 5, .int .i64 10], .int .i64 1150, .int .i64 1144] w (Ret (.tuple #[.int .i64 0, .int .i64 0]) w) := by
  have := Passed_ok 1000 5 10 1150 1144 w (by decide) (by decide)
  rwa [show passF 1000 5 10 1150 1144 = 0 by decide] at this
theorem hd_passed3 (w : World) : Calls Try.prog 16 #[.agg #[.int .i64 1000, .int .i64 5, .int .i64 10], .int .i64 1150, .int .i64 1158] w (Ret (.tuple #[.int .i64 (-1), .int .i64 0]) w) := by
  have := Passed_ok 1000 5 10 1150 1158 w (by decide) (by decide)
  rwa [show passF 1000 5 10 1150 1158 = -1 by decide] at this
theorem hd_sure1 (w : World) : Calls Try.prog 18 #[.agg #[.int .i64 1000, .int .i64 5, .int .i64 10], .int .i64 1143] w (Ret (.tuple #[.int .i64 1150, .int .i64 0]) w) := by
  have := Sure_ok 1000 5 10 1143 w (by decide) (by decide)
  rw [sureK_eq (s := 1000) (e := 5) (d := 10) (t := 1143) 150 (by decide) (by decide) (by decide) (by decide), if_pos (by decide), if_pos (by decide)] at this
  exact this
theorem hd_sure2 (w : World) : Calls Try.prog 18 #[.agg #[.int .i64 1000, .int .i64 5, .int .i64 10], .int .i64 100000] w (Ret (.tuple #[.int .i64 0, .int .i64 4]) w) := by
  have := Sure_ok 1000 5 10 100000 w (by decide) (by decide)
  rw [sureK_none (s := 1000) (e := 5) (d := 10) (t := 100000) (by decide) (by decide), if_neg (Nat.lt_irrefl _), if_neg (Nat.lt_irrefl _)] at this
  exact this
theorem hd_set (w : World) : Calls Try.prog 20 #[.int .i64 50, .agg #[.int .i64 45, .int .i64 52], .int .i64 10] w (Ret (.tuple #[.agg #[.int .i64 50, .int .i64 5, .int .i64 10], .int .i64 0]) w) := by
  have := Set_ok 50 45 52 10 w (by decide) (by decide)
  rwa [show errF 50 45 52 = 5 by decide] at this
theorem hd_correct1 (w : World) : Calls Try.prog 22 #[.agg #[.int .i64 1000, .int .i64 5, .int .i64 10], .int .i64 1150, .agg #[.int .i64 1150, .int .i64 1153]] w (Ret (.tuple #[.agg #[.int .i64 1151, .int .i64 2, .int .i64 10], .int .i64 0]) w) :=
  Correct_set 1000 5 10 1150 1150 1153 1143 1157 1150 1153 1151 2 10 0 w (by decide) (by decide) (fun w => first_c 1000 5 10 1150 w (by decide)) (fun w => last_c 1000 5 10 1150 w (by decide)) (by decide) (by decide) (by decide) (by decide) (by decide)
    (fun w => Set_ok 1151 1150 1153 10 w (by decide) (by decide))
theorem hd_correct2 (w : World) : Calls Try.prog 22 #[.agg #[.int .i64 1000, .int .i64 5, .int .i64 10], .int .i64 1150, .agg #[.int .i64 1158, .int .i64 1160]] w (Ret (.tuple #[.agg #[.int .i64 0, .int .i64 0, .int .i64 0], .int .i64 23]) w) :=
  Correct_lie 1000 5 10 1150 1158 1160 1143 1157 1158 1157 w (by decide) (by decide) (fun w => first_c 1000 5 10 1150 w (by decide)) (fun w => last_c 1000 5 10 1150 w (by decide)) (by decide) (by decide) (by decide)
theorem hd_valid1 (w : World) : Calls Try.prog 12 #[.agg #[.int .i64 1000, .int .i64 5, .int .i64 10]] w (Ret (.bool true) w) := valid_c 1000 5 10 w
theorem hd_valid2 (w : World) : Calls Try.prog 12 #[.agg #[.int .i64 0, .int .i64 1001, .int .i64 0]] w (Ret (.bool false) w) := valid_c 0 1001 0 w
end

set_option maxRecDepth 100000 in
set_option maxHeartbeats 4000000 in
theorem head_c (w : World) : Calls Try.prog 11 #[] w (Ret (.bool true) w) := by
  go_enter Try.func11, Try.ntmps11
  go_wp2_with (first | (go_at_call 14; ((with_reducible refine (hd_true1 _).mono ?_); rintro e w' ⟨rfl, hb⟩; obtain ⟨hz, hc, hf⟩ := bcl hb (by first | (simp; rfl) | rfl))) | (go_at_call 14; ((with_reducible refine (hd_true2 _).mono ?_); rintro e w' ⟨rfl, hb⟩; obtain ⟨hz, hc, hf⟩ := bcl hb (by first | (simp; rfl) | rfl))) | (go_at_call 16; ((with_reducible refine (hd_passed1 _).mono ?_); rintro e w' ⟨rfl, hb⟩; obtain ⟨hz, hc, hf⟩ := bcl hb (by first | (simp; rfl) | rfl))) | (go_at_call 16; ((with_reducible refine (hd_passed2 _).mono ?_); rintro e w' ⟨rfl, hb⟩; obtain ⟨hz, hc, hf⟩ := bcl hb (by first | (simp; rfl) | rfl))) | (go_at_call 16; ((with_reducible refine (hd_passed3 _).mono ?_); rintro e w' ⟨rfl, hb⟩; obtain ⟨hz, hc, hf⟩ := bcl hb (by first | (simp; rfl) | rfl))) | (go_at_call 18; ((with_reducible refine (hd_sure1 _).mono ?_); rintro e w' ⟨rfl, hb⟩; obtain ⟨hz, hc, hf⟩ := bcl hb (by first | (simp; rfl) | rfl))) | (go_at_call 18; ((with_reducible refine (hd_sure2 _).mono ?_); rintro e w' ⟨rfl, hb⟩; obtain ⟨hz, hc, hf⟩ := bcl hb (by first | (simp; rfl) | rfl))) | (go_at_call 20; ((with_reducible refine (hd_set _).mono ?_); rintro e w' ⟨rfl, hb⟩; obtain ⟨hz, hc, hf⟩ := bcl hb (by first | (simp; rfl) | rfl))) | (go_at_call 22; ((with_reducible refine (hd_correct1 _).mono ?_); rintro e w' ⟨rfl, hb⟩; obtain ⟨hz, hc, hf⟩ := bcl hb (by first | (simp; rfl) | rfl))) | (go_at_call 22; ((with_reducible refine (hd_correct2 _).mono ?_); rintro e w' ⟨rfl, hb⟩; obtain ⟨hz, hc, hf⟩ := bcl hb (by first | (simp; rfl) | rfl))) | (go_at_call 12; ((with_reducible refine (hd_valid1 _).mono ?_); rintro e w' ⟨rfl, hb⟩; obtain ⟨hz, hc, hf⟩ := bcl hb (by first | (simp; rfl) | rfl))) | (go_at_call 12; ((with_reducible refine (hd_valid2 _).mono ?_); rintro e w' ⟨rfl, hb⟩; obtain ⟨hz, hc, hf⟩ := bcl hb (by first | (simp; rfl) | rfl))))
  go_ret
  refine ⟨rfl, ?_⟩
  (repeat (first | (with_reducible exact bl_refl _) | (with_reducible refine bl_drew ?_) | (with_reducible refine bl_alloc ?_ _) | (with_reducible refine bl_set' ?_ ?_; · (first | omega | (simp; done) | (simp; omega))) | (with_reducible refine bl_last (by assumption) ?_) | (with_reducible refine bl_drewN ?_ _)))
end Go.Proofs.Ytjanlgnagooioaa
