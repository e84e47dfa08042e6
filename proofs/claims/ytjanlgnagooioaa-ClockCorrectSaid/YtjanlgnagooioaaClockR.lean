/- Clock: contracts of the reference's functions. -/
import Derived.Test.YtjanlgnagooioaaClockE
namespace Go.Proofs.Ytjanlgnagooioaa
open Go.RowKit

set_option maxHeartbeats 400000 in
theorem Rtick_c (t : Int) (w : World) : Calls Try.prog 26 #[.int .i64 t] w (Ret (.bool (tickB t)) w) := by
  go_enter Try.func26, Try.ntmps26
  go_wp2
  all_goals (go_ret; refine ⟨ret_bool (Bool.eq_iff_iff.2 ?_), ?_⟩)
  any_goals (repeat (first | (with_reducible exact bl_refl _) | (with_reducible refine bl_drew ?_) | (with_reducible refine bl_alloc ?_ _) | (with_reducible refine bl_set' ?_ ?_; · (first | omega | (simp; done) | (simp; omega))) | (with_reducible refine bl_last (by assumption) ?_) | (with_reducible refine bl_drewN ?_ _)))
  all_goals (simp [tickB] at * <;> omega)

set_option maxHeartbeats 400000 in
theorem Rwindow_c (a b : Int) (w : World) : Calls Try.prog 25 #[.agg #[.int .i64 a, .int .i64 b]] w (Ret (.bool (winB a b)) w) := by
  go_enter Try.func25, Try.ntmps25
  go_wp2
  all_goals (go_ret; refine ⟨ret_bool (Bool.eq_iff_iff.2 ?_), ?_⟩)
  any_goals (repeat (first | (with_reducible exact bl_refl _) | (with_reducible refine bl_drew ?_) | (with_reducible refine bl_alloc ?_ _) | (with_reducible refine bl_set' ?_ ?_; · (first | omega | (simp; done) | (simp; omega))) | (with_reducible refine bl_last (by assumption) ?_) | (with_reducible refine bl_drewN ?_ _)))
  all_goals (simp [winB] at * <;> omega)

set_option maxHeartbeats 400000 in
theorem Rvalid_c (s e d : Int) (w : World) : Calls Try.prog 13 #[.agg #[.int .i64 s, .int .i64 e, .int .i64 d]] w (Ret (.bool (vldB s e d)) w) := by
  go_enter Try.func13, Try.ntmps13
  go_wp2_with (go_at_call 26; refine (Rtick_c _ _).mono ?_; rintro e w' ⟨rfl, hb⟩; obtain ⟨hz, hc, hf⟩ := bcl hb (by first | (simp; rfl) | rfl))
  all_goals clear hc hf
  all_goals (go_ret; refine ⟨ret_bool (Bool.eq_iff_iff.2 ?_), ?_⟩)
  any_goals (repeat (first | (with_reducible exact bl_refl _) | (with_reducible refine bl_drew ?_) | (with_reducible refine bl_alloc ?_ _) | (with_reducible refine bl_set' ?_ ?_; · (first | omega | (simp; done) | (simp; omega))) | (with_reducible refine bl_last (by assumption) ?_) | (with_reducible refine bl_drewN ?_ _)))
  all_goals (clear hb; simp [tickB, vldB] at * <;> omega)

set_option maxHeartbeats 400000 in
theorem reads_c (s e d r : Int) (w : World) : Calls Try.prog 24 #[.agg #[.int .i64 s, .int .i64 e, .int .i64 d], .int .i64 r] w (Ret (.bool (rdB s e d r)) w) := by
  go_enter Try.func24, Try.ntmps24
  go_wp2_with (first | (go_at_call 26; refine (Rtick_c _ _).mono ?_; rintro e w' ⟨rfl, hb⟩; obtain ⟨hz, hc, hf⟩ := bcl hb (by first | (simp; rfl) | rfl)) | (go_at_call 13; refine (Rvalid_c _ _ _ _).mono ?_; rintro e w' ⟨rfl, hb⟩; obtain ⟨hz, hc, hf⟩ := bcl hb (by first | (simp; rfl) | rfl)))
  all_goals (go_ret; refine ⟨ret_bool (Bool.eq_iff_iff.2 ?_), ?_⟩)
  any_goals (repeat (first | (with_reducible exact bl_refl _) | (with_reducible refine bl_drew ?_) | (with_reducible refine bl_alloc ?_ _) | (with_reducible refine bl_set' ?_ ?_; · (first | omega | (simp; done) | (simp; omega))) | (with_reducible refine bl_last (by assumption) ?_) | (with_reducible refine bl_drewN ?_ _)))
  all_goals (clear hc hf hb hz; simp [tickB, vldB, rdB] at * <;> omega)

theorem rd_no_ways {s e d r : Int} (h : rdB s e d r = false) : (vldB s e d = false) ∨ (vldB s e d = true ∧ tickB r = false) ∨ (vldB s e d = true ∧ tickB r = true ∧ r < s) := by
  simp only [rdB, vldB, tickB, decide_eq_false_iff_not, decide_eq_true_eq] at *
  omega
theorem rd_ok_ways {s e d r : Int} (h : rdB s e d r = true) : vldB s e d = true ∧ tickB r = true ∧ s ≤ r := by
  simp only [rdB, vldB, tickB, decide_eq_true_eq] at *
  omega

set_option maxHeartbeats 400000 in
theorem RTrue_no (s e d r : Int) (w : World) (h : rdB s e d r = false) :
    Calls Try.prog 15 #[.agg #[.int .i64 s, .int .i64 e, .int .i64 d], .int .i64 r] w (Ret (.tuple #[.agg #[.int .i64 0, .int .i64 0], .int .i64 1]) w) := by
  have h' := rd_no_ways h
  clear h
  rcases h' with h1 | ⟨h1, h2⟩ | ⟨h1, h2, h3⟩
  all_goals
    go_enter Try.func15, Try.ntmps15
    go_wp2_with (first | (go_at_call 26; refine (Rtick_c _ _).mono ?_; rintro e w' ⟨rfl, hb⟩; obtain ⟨hz, hc, hf⟩ := bcl hb (by first | (simp; rfl) | rfl)) | (go_at_call 13; refine (Rvalid_c _ _ _ _).mono ?_; rintro e w' ⟨rfl, hb⟩; obtain ⟨hz, hc, hf⟩ := bcl hb (by first | (simp; rfl) | rfl)))
    (refine bodyPost_ret (v := .tuple #[.agg #[.int .i64 0, .int .i64 0], .int .i64 1]) (by simp only [results, Try.results15]; go_simp) rfl ⟨rfl, ?_⟩)
    (repeat (first | (with_reducible exact bl_refl _) | (with_reducible refine bl_drew ?_) | (with_reducible refine bl_alloc ?_ _) | (with_reducible refine bl_set' ?_ ?_; · (first | omega | (simp; done) | (simp; omega))) | (with_reducible refine bl_last (by assumption) ?_) | (with_reducible refine bl_drewN ?_ _)))

set_option maxHeartbeats 1000000 in
theorem RTrue_ok (s e d r : Int) (w : World) (h : rdB s e d r = true) :
    Calls Try.prog 15 #[.agg #[.int .i64 s, .int .i64 e, .int .i64 d], .int .i64 r] w (Ret (.tuple #[.agg #[.int .i64 (fstF s e d r), .int .i64 (lstF s e d r)], .int .i64 0]) w) := by
  obtain ⟨h1, h2, h3⟩ := rd_ok_ways h
  obtain ⟨a, b, c, d1, e1, f, g⟩ := rd_of h
  obtain ⟨hp1, hp2⟩ := prod_bd a b c f g
  have hlo : (r - e - ((r - s) * d + 999) / 1000 < 0 ∧ fstF s e d r = 0) ∨ (0 ≤ r - e - ((r - s) * d + 999) / 1000 ∧ fstF s e d r = r - e - ((r - s) * d + 999) / 1000) := by
    unfold fstF slk
    omega
  have hhi : (100000 < r + e + ((r - s) * d + 999) / 1000 ∧ lstF s e d r = 100000) ∨ (r + e + ((r - s) * d + 999) / 1000 ≤ 100000 ∧ lstF s e d r = r + e + ((r - s) * d + 999) / 1000) := by
    unfold lstF slk
    omega
  clear h
  rcases hlo with ⟨l1, l2⟩ | ⟨l1, l2⟩ <;> rcases hhi with ⟨m1, m2⟩ | ⟨m1, m2⟩
  · exfalso; omega
  all_goals
    have L2 := Lib.hid l2
    have M2 := Lib.hid m2
    clear l2 m2
    go_enter Try.func15, Try.ntmps15
    go_wp2_with (first | (go_at_call 26; refine (Rtick_c _ _).mono ?_; rintro e w' ⟨rfl, hb⟩; obtain ⟨hz, hc, hf⟩ := bcl hb (by first | (simp; rfl) | rfl)) | (go_at_call 13; refine (Rvalid_c _ _ _ _).mono ?_; rintro e w' ⟨rfl, hb⟩; obtain ⟨hz, hc, hf⟩ := bcl hb (by first | (simp; rfl) | rfl)))
    have l2 := L2.out
    have m2 := M2.out
    (refine bodyPost_ret (v := .tuple #[.agg #[.int .i64 (fstF s e d r), .int .i64 (lstF s e d r)], .int .i64 0]) (by simp only [results, Try.results15]; go_simp) rfl ⟨rfl, ?_⟩)
    (repeat (first | (with_reducible exact bl_refl _) | (with_reducible refine bl_drew ?_) | (with_reducible refine bl_alloc ?_ _) | (with_reducible refine bl_set' ?_ ?_; · (first | omega | (simp; done) | (simp; omega))) | (with_reducible refine bl_last (by assumption) ?_) | (with_reducible refine bl_drewN ?_ _)))

set_option maxHeartbeats 1000000 in
theorem RPassed_ok (s e d r t : Int) (w : World) (h : rdB s e d r = true) (ht : tickB t = true) :
    Calls Try.prog 17 #[.agg #[.int .i64 s, .int .i64 e, .int .i64 d], .int .i64 r, .int .i64 t] w (Ret (.tuple #[.int .i64 (passF s e d r t), .int .i64 0]) w) := by
  have HT := Lib.hid (fun w => RTrue_ok s e d r w h)
  unfold passF
  generalize fstF s e d r = lo at *
  generalize lstF s e d r = hi at *
  go_enter Try.func17, Try.ntmps17
  go_wp2_with (first | (go_at_call 15; refine (HT.out _).mono ?_; rintro e w' ⟨rfl, hb⟩; obtain ⟨hz, hc, hf⟩ := bcl hb (by first | (simp; rfl) | rfl)) | (go_at_call 26; refine (Rtick_c _ _).mono ?_; rintro e w' ⟨rfl, hb⟩; obtain ⟨hz, hc, hf⟩ := bcl hb (by first | (simp; rfl) | rfl)))
  all_goals (go_ret2; refine ⟨ret_int2 ?_, ?_⟩)
  any_goals (repeat (first | (with_reducible exact bl_refl _) | (with_reducible refine bl_drew ?_) | (with_reducible refine bl_alloc ?_ _) | (with_reducible refine bl_set' ?_ ?_; · (first | omega | (simp; done) | (simp; omega))) | (with_reducible refine bl_last (by assumption) ?_) | (with_reducible refine bl_drewN ?_ _)))
  all_goals (first | rfl | omega | ((repeat' split) <;> omega))

set_option maxHeartbeats 1000000 in
theorem RPassed_no (s e d r t : Int) (w : World) (h : (rdB s e d r && tickB t) = false) :
    Calls Try.prog 17 #[.agg #[.int .i64 s, .int .i64 e, .int .i64 d], .int .i64 r, .int .i64 t] w (Ret (.tuple #[.int .i64 0, .int .i64 1]) w) := by
  cases h1 : rdB s e d r
  · clear h
    have HT := Lib.hid (fun w => RTrue_no s e d r w h1)
    go_enter Try.func17, Try.ntmps17
    go_wp2_with (first | (go_at_call 15; refine (HT.out _).mono ?_; rintro e w' ⟨rfl, hb⟩; obtain ⟨hz, hc, hf⟩ := bcl hb (by first | (simp; rfl) | rfl)) | (go_at_call 26; refine (Rtick_c _ _).mono ?_; rintro e w' ⟨rfl, hb⟩; obtain ⟨hz, hc, hf⟩ := bcl hb (by first | (simp; rfl) | rfl)))
    all_goals (go_ret2; refine ⟨rfl, ?_⟩)
    (repeat (first | (with_reducible exact bl_refl _) | (with_reducible refine bl_drew ?_) | (with_reducible refine bl_alloc ?_ _) | (with_reducible refine bl_set' ?_ ?_; · (first | omega | (simp; done) | (simp; omega))) | (with_reducible refine bl_last (by assumption) ?_) | (with_reducible refine bl_drewN ?_ _)))
  · have h2 : tickB t = false := by simpa [h1] using h
    clear h
    have HT := Lib.hid (fun w => RTrue_ok s e d r w h1)
    go_enter Try.func17, Try.ntmps17
    go_wp2_with (first | (go_at_call 15; refine (HT.out _).mono ?_; rintro e w' ⟨rfl, hb⟩; obtain ⟨hz, hc, hf⟩ := bcl hb (by first | (simp; rfl) | rfl)) | (go_at_call 26; refine (Rtick_c _ _).mono ?_; rintro e w' ⟨rfl, hb⟩; obtain ⟨hz, hc, hf⟩ := bcl hb (by first | (simp; rfl) | rfl)))
    all_goals (go_ret2; refine ⟨rfl, ?_⟩)
    (repeat (first | (with_reducible exact bl_refl _) | (with_reducible refine bl_drew ?_) | (with_reducible refine bl_alloc ?_ _) | (with_reducible refine bl_set' ?_ ?_; · (first | omega | (simp; done) | (simp; omega))) | (with_reducible refine bl_last (by assumption) ?_) | (with_reducible refine bl_drewN ?_ _)))

set_option maxHeartbeats 400000 in
theorem RSet_no (r a b d : Int) (w : World) (h : setB r a b d = false) :
    Calls Try.prog 21 #[.int .i64 r, .agg #[.int .i64 a, .int .i64 b], .int .i64 d] w (Ret (.tuple #[.agg #[.int .i64 0, .int .i64 0, .int .i64 0], .int .i64 1]) w) := by
  have h' := set_no_ways h
  clear h
  rcases h' with h1 | ⟨h1, h2⟩ | ⟨h1, h2, h3⟩ | ⟨h1, h2, h3, h4⟩
  all_goals
    go_enter Try.func21, Try.ntmps21
    go_wp2_with (first | (go_at_call 26; refine (Rtick_c _ _).mono ?_; rintro e w' ⟨rfl, hb⟩; obtain ⟨hz, hc, hf⟩ := bcl hb (by first | (simp; rfl) | rfl)) | (go_at_call 25; refine (Rwindow_c _ _ _).mono ?_; rintro e w' ⟨rfl, hb⟩; obtain ⟨hz, hc, hf⟩ := bcl hb (by first | (simp; rfl) | rfl)))
    (refine bodyPost_ret (v := .tuple #[.agg #[.int .i64 0, .int .i64 0, .int .i64 0], .int .i64 1]) (by simp only [results, Try.results21]; go_simp) rfl ⟨rfl, ?_⟩)
    (repeat (first | (with_reducible exact bl_refl _) | (with_reducible refine bl_drew ?_) | (with_reducible refine bl_alloc ?_ _) | (with_reducible refine bl_set' ?_ ?_; · (first | omega | (simp; done) | (simp; omega))) | (with_reducible refine bl_last (by assumption) ?_) | (with_reducible refine bl_drewN ?_ _)))
theorem err_ways (r a b : Int) : (r - a < b - r ∧ errF r a b = b - r) ∨ (¬ r - a < b - r ∧ errF r a b = r - a) := by unfold errF; omega
set_option maxHeartbeats 1000000 in
theorem RSet_big (r a b d : Int) (w : World) (h : setB r a b d = true) (hm : 1000 < errF r a b) :
    Calls Try.prog 21 #[.int .i64 r, .agg #[.int .i64 a, .int .i64 b], .int .i64 d] w (Ret (.tuple #[.agg #[.int .i64 0, .int .i64 0, .int .i64 0], .int .i64 3]) w) := by
  obtain ⟨h1, h2, h3, h4, h5, h6, h7, h8, h9⟩ := set_ok_ways h
  clear h
  rcases err_ways r a b with ⟨hx, he⟩ | ⟨hx, he⟩
  all_goals
    rw [he] at hm
    clear he
    go_enter Try.func21, Try.ntmps21
    go_wp2_with (first | (go_at_call 26; refine (Rtick_c _ _).mono ?_; rintro e w' ⟨rfl, hb⟩; obtain ⟨hz, hc, hf⟩ := bcl hb (by first | (simp; rfl) | rfl)) | (go_at_call 25; refine (Rwindow_c _ _ _).mono ?_; rintro e w' ⟨rfl, hb⟩; obtain ⟨hz, hc, hf⟩ := bcl hb (by first | (simp; rfl) | rfl)))
    (refine bodyPost_ret (v := .tuple #[.agg #[.int .i64 0, .int .i64 0, .int .i64 0], .int .i64 3]) (by simp only [results, Try.results21]; go_simp) rfl ⟨rfl, ?_⟩)
    (repeat (first | (with_reducible exact bl_refl _) | (with_reducible refine bl_drew ?_) | (with_reducible refine bl_alloc ?_ _) | (with_reducible refine bl_set' ?_ ?_; · (first | omega | (simp; done) | (simp; omega))) | (with_reducible refine bl_last (by assumption) ?_) | (with_reducible refine bl_drewN ?_ _)))
set_option maxHeartbeats 1000000 in
theorem RSet_ok (r a b d : Int) (w : World) (h : setB r a b d = true) (hm : errF r a b ≤ 1000) :
    Calls Try.prog 21 #[.int .i64 r, .agg #[.int .i64 a, .int .i64 b], .int .i64 d] w (Ret (.tuple #[.agg #[.int .i64 r, .int .i64 (errF r a b), .int .i64 d], .int .i64 0]) w) := by
  obtain ⟨h1, h2, h3, h4, h5, h6, h7, h8, h9⟩ := set_ok_ways h
  clear h
  rcases err_ways r a b with ⟨hx, he⟩ | ⟨hx, he⟩
  · rw [he] at hm ⊢
    clear he
    go_enter Try.func21, Try.ntmps21
    go_wp2_with (first | (go_at_call 26; refine (Rtick_c _ _).mono ?_; rintro e w' ⟨rfl, hb⟩; obtain ⟨hz, hc, hf⟩ := bcl hb (by first | (simp; rfl) | rfl)) | (go_at_call 25; refine (Rwindow_c _ _ _).mono ?_; rintro e w' ⟨rfl, hb⟩; obtain ⟨hz, hc, hf⟩ := bcl hb (by first | (simp; rfl) | rfl)))
    (refine bodyPost_ret (v := .tuple #[.agg #[.int .i64 r, .int .i64 (b - r), .int .i64 d], .int .i64 0]) (by simp only [results, Try.results21]; go_simp) rfl ⟨rfl, ?_⟩)
    (repeat (first | (with_reducible exact bl_refl _) | (with_reducible refine bl_drew ?_) | (with_reducible refine bl_alloc ?_ _) | (with_reducible refine bl_set' ?_ ?_; · (first | omega | (simp; done) | (simp; omega))) | (with_reducible refine bl_last (by assumption) ?_) | (with_reducible refine bl_drewN ?_ _)))
  · rw [he] at hm ⊢
    clear he
    go_enter Try.func21, Try.ntmps21
    go_wp2_with (first | (go_at_call 26; refine (Rtick_c _ _).mono ?_; rintro e w' ⟨rfl, hb⟩; obtain ⟨hz, hc, hf⟩ := bcl hb (by first | (simp; rfl) | rfl)) | (go_at_call 25; refine (Rwindow_c _ _ _).mono ?_; rintro e w' ⟨rfl, hb⟩; obtain ⟨hz, hc, hf⟩ := bcl hb (by first | (simp; rfl) | rfl)))
    (refine bodyPost_ret (v := .tuple #[.agg #[.int .i64 r, .int .i64 (r - a), .int .i64 d], .int .i64 0]) (by simp only [results, Try.results21]; go_simp) rfl ⟨rfl, ?_⟩)
    (repeat (first | (with_reducible exact bl_refl _) | (with_reducible refine bl_drew ?_) | (with_reducible refine bl_alloc ?_ _) | (with_reducible refine bl_set' ?_ ?_; · (first | omega | (simp; done) | (simp; omega))) | (with_reducible refine bl_last (by assumption) ?_) | (with_reducible refine bl_drewN ?_ _)))

set_option maxHeartbeats 400000 in
theorem RCorrect_no (s e d r a b : Int) (w : World) (h : (rdB s e d r && winB a b) = false) :
    Calls Try.prog 23 #[.agg #[.int .i64 s, .int .i64 e, .int .i64 d], .int .i64 r, .agg #[.int .i64 a, .int .i64 b]] w (Ret (.tuple #[.agg #[.int .i64 0, .int .i64 0, .int .i64 0], .int .i64 1]) w) := by
  cases h1 : rdB s e d r
  · clear h
    have HT := Lib.hid (fun w => RTrue_no s e d r w h1)
    go_enter Try.func23, Try.ntmps23
    go_wp2_with (first | (go_at_call 15; refine (HT.out _).mono ?_; rintro e w' ⟨rfl, hb⟩; obtain ⟨hz, hc, hf⟩ := bcl hb (by first | (simp; rfl) | rfl)) | (go_at_call 25; refine (Rwindow_c _ _ _).mono ?_; rintro e w' ⟨rfl, hb⟩; obtain ⟨hz, hc, hf⟩ := bcl hb (by first | (simp; rfl) | rfl)))
    (refine bodyPost_ret (v := .tuple #[.agg #[.int .i64 0, .int .i64 0, .int .i64 0], .int .i64 1]) (by simp only [results, Try.results23]; go_simp) rfl ⟨rfl, ?_⟩)
    (repeat (first | (with_reducible exact bl_refl _) | (with_reducible refine bl_drew ?_) | (with_reducible refine bl_alloc ?_ _) | (with_reducible refine bl_set' ?_ ?_; · (first | omega | (simp; done) | (simp; omega))) | (with_reducible refine bl_last (by assumption) ?_) | (with_reducible refine bl_drewN ?_ _)))
  · have h2 : winB a b = false := by simpa [h1] using h
    clear h
    have HT := Lib.hid (fun w => RTrue_ok s e d r w h1)
    go_enter Try.func23, Try.ntmps23
    go_wp2_with (first | (go_at_call 15; refine (HT.out _).mono ?_; rintro e w' ⟨rfl, hb⟩; obtain ⟨hz, hc, hf⟩ := bcl hb (by first | (simp; rfl) | rfl)) | (go_at_call 25; refine (Rwindow_c _ _ _).mono ?_; rintro e w' ⟨rfl, hb⟩; obtain ⟨hz, hc, hf⟩ := bcl hb (by first | (simp; rfl) | rfl)))
    (refine bodyPost_ret (v := .tuple #[.agg #[.int .i64 0, .int .i64 0, .int .i64 0], .int .i64 1]) (by simp only [results, Try.results23]; go_simp) rfl ⟨rfl, ?_⟩)
    (repeat (first | (with_reducible exact bl_refl _) | (with_reducible refine bl_drew ?_) | (with_reducible refine bl_alloc ?_ _) | (with_reducible refine bl_set' ?_ ?_; · (first | omega | (simp; done) | (simp; omega))) | (with_reducible refine bl_last (by assumption) ?_) | (with_reducible refine bl_drewN ?_ _)))

set_option maxHeartbeats 1000000 in
theorem RCorrect_lie (s e d r a b f l A B : Int) (w : World) (h2 : winB a b = true)
    (hT : ∀ w, Calls Try.prog 15 #[.agg #[.int .i64 s, .int .i64 e, .int .i64 d], .int .i64 r] w (Ret (.tuple #[.agg #[.int .i64 f, .int .i64 l], .int .i64 0]) w))
    (hA : (f < a ∧ A = a) ∨ (a ≤ f ∧ A = f)) (hB : (b < l ∧ B = b) ∨ (l ≤ b ∧ B = l)) (hlt : B < A) :
    Calls Try.prog 23 #[.agg #[.int .i64 s, .int .i64 e, .int .i64 d], .int .i64 r, .agg #[.int .i64 a, .int .i64 b]] w (Ret (.tuple #[.agg #[.int .i64 0, .int .i64 0, .int .i64 0], .int .i64 23]) w) := by
  have HT := Lib.hid hT
  clear hT
  rcases hA with ⟨ha, rfl⟩ | ⟨ha, rfl⟩ <;> rcases hB with ⟨hb0, rfl⟩ | ⟨hb0, rfl⟩
  all_goals
    go_enter Try.func23, Try.ntmps23
    go_wp2_with (first | (go_at_call 15; refine (HT.out _).mono ?_; rintro e w' ⟨rfl, hb⟩; obtain ⟨hz, hc, hf⟩ := bcl hb (by first | (simp; rfl) | rfl)) | (go_at_call 25; refine (Rwindow_c _ _ _).mono ?_; rintro e w' ⟨rfl, hb⟩; obtain ⟨hz, hc, hf⟩ := bcl hb (by first | (simp; rfl) | rfl)))
    (refine bodyPost_ret (v := .tuple #[.agg #[.int .i64 0, .int .i64 0, .int .i64 0], .int .i64 23]) (by simp only [results, Try.results23]; go_simp) rfl ⟨rfl, ?_⟩)
    (repeat (first | (with_reducible exact bl_refl _) | (with_reducible refine bl_drew ?_) | (with_reducible refine bl_alloc ?_ _) | (with_reducible refine bl_set' ?_ ?_; · (first | omega | (simp; done) | (simp; omega))) | (with_reducible refine bl_last (by assumption) ?_) | (with_reducible refine bl_drewN ?_ _)))

set_option maxHeartbeats 1000000 in
theorem RCorrect_set (s e d r a b f l A B x y z er : Int) (w : World) (h2 : winB a b = true)
    (hT : ∀ w, Calls Try.prog 15 #[.agg #[.int .i64 s, .int .i64 e, .int .i64 d], .int .i64 r] w (Ret (.tuple #[.agg #[.int .i64 f, .int .i64 l], .int .i64 0]) w))
    (hA : (f < a ∧ A = a) ∨ (a ≤ f ∧ A = f)) (hB : (b < l ∧ B = b) ∨ (l ≤ b ∧ B = l)) (hlt : A ≤ B) (hA0 : 0 ≤ A) (hB1 : B ≤ 100000)
    (hS : ∀ w, Calls Try.prog 21 #[.int .i64 (A + (B - A) / 2), .agg #[.int .i64 A, .int .i64 B], .int .i64 d] w (Ret (.tuple #[.agg #[.int .i64 x, .int .i64 y, .int .i64 z], .int .i64 er]) w)) :
    Calls Try.prog 23 #[.agg #[.int .i64 s, .int .i64 e, .int .i64 d], .int .i64 r, .agg #[.int .i64 a, .int .i64 b]] w (Ret (.tuple #[.agg #[.int .i64 x, .int .i64 y, .int .i64 z], .int .i64 er]) w) := by
  have HT := Lib.hid hT
  have HS := Lib.hid hS
  clear hT hS
  rcases hA with ⟨ha, rfl⟩ | ⟨ha, rfl⟩ <;> rcases hB with ⟨hb0, rfl⟩ | ⟨hb0, rfl⟩
  all_goals
    go_enter Try.func23, Try.ntmps23
    go_wp2_with (first | (go_at_call 15; refine (HT.out _).mono ?_; rintro e w' ⟨rfl, hb⟩; obtain ⟨hz, hc, hf⟩ := bcl hb (by first | (simp; rfl) | rfl)) | (go_at_call 25; refine (Rwindow_c _ _ _).mono ?_; rintro e w' ⟨rfl, hb⟩; obtain ⟨hz, hc, hf⟩ := bcl hb (by first | (simp; rfl) | rfl)) | (go_at_call 21; refine (HS.out _).mono ?_; rintro e w' ⟨rfl, hb⟩; obtain ⟨hz, hc, hf⟩ := bcl hb (by first | (simp; rfl) | rfl)))
    (refine bodyPost_ret (v := .tuple #[.agg #[.int .i64 x, .int .i64 y, .int .i64 z], .int .i64 er]) (by simp only [results, Try.results23]; go_simp) rfl ⟨rfl, ?_⟩)
    (repeat (first | (with_reducible exact bl_refl _) | (with_reducible refine bl_drew ?_) | (with_reducible refine bl_alloc ?_ _) | (with_reducible refine bl_set' ?_ ?_; · (first | omega | (simp; done) | (simp; omega))) | (with_reducible refine bl_last (by assumption) ?_) | (with_reducible refine bl_drewN ?_ _)))
end Go.Proofs.Ytjanlgnagooioaa
