/- Clock: contracts of the functions of package clock, up to True. -/
import Derived.Test.YtjanlgnagooioaaBase
import Derived.Test.YtjanlgnagooioaaRegion
namespace Go.Proofs.Ytjanlgnagooioaa
open Go.RowKit

def tickB (t : Int) : Bool := decide (0 ≤ t ∧ t ≤ 100000)
def vldB (s e d : Int) : Bool := decide (0 ≤ s ∧ s ≤ 100000 ∧ 0 ≤ e ∧ e ≤ 1000 ∧ 0 ≤ d ∧ d ≤ 100)
def rdB (s e d r : Int) : Bool := decide (0 ≤ s ∧ s ≤ r ∧ r ≤ 100000 ∧ 0 ≤ e ∧ e ≤ 1000 ∧ 0 ≤ d ∧ d ≤ 100)

set_option maxHeartbeats 400000 in
theorem tick_c (t : Int) (w : World) : Calls Try.prog 27 #[.int .i64 t] w (Ret (.bool (tickB t)) w) := by
  go_enter Try.func27, Try.ntmps27
  go_wp2
  all_goals (go_ret; refine ⟨ret_bool (Bool.eq_iff_iff.2 ?_), ?_⟩)
  any_goals ((repeat (first | (with_reducible exact bl_refl _) | (with_reducible refine bl_drew ?_) | (with_reducible refine bl_alloc ?_ _) | (with_reducible refine bl_set' ?_ ?_; · (simp <;> omega)) | (with_reducible refine bl_last (by assumption) ?_) | (with_reducible refine bl_drewN ?_ _))))
  all_goals (simp [tickB] at * <;> omega)

set_option maxHeartbeats 400000 in
theorem valid_c (s e d : Int) (w : World) : Calls Try.prog 12 #[.agg #[.int .i64 s, .int .i64 e, .int .i64 d]] w (Ret (.bool (vldB s e d)) w) := by
  go_enter Try.func12, Try.ntmps12
  go_wp2_with (go_at_call 27; refine (tick_c _ _).mono ?_; rintro e w' ⟨rfl, hb⟩; obtain ⟨hz, hc, hf⟩ := bcl hb (by first | (simp; rfl) | rfl))
  all_goals clear hc hf
  all_goals (go_ret; refine ⟨ret_bool (Bool.eq_iff_iff.2 ?_), ?_⟩)
  any_goals ((repeat (first | (with_reducible exact bl_refl _) | (with_reducible refine bl_drew ?_) | (with_reducible refine bl_alloc ?_ _) | (with_reducible refine bl_set' ?_ ?_; · (simp <;> omega)) | (with_reducible refine bl_last (by assumption) ?_) | (with_reducible refine bl_drewN ?_ _))))
  all_goals (clear hb; simp [tickB, vldB] at * <;> omega)

set_option maxHeartbeats 400000 in
theorem vvalid_c (s e d r : Int) (w : World) : Calls Try.prog 28 #[.agg #[.int .i64 s, .int .i64 e, .int .i64 d, .int .i64 r]] w (Ret (.bool (rdB s e d r)) w) := by
  go_enter Try.func28, Try.ntmps28
  go_wp2_with (first | (go_at_call 27; refine (tick_c _ _).mono ?_; rintro e w' ⟨rfl, hb⟩; obtain ⟨hz, hc, hf⟩ := bcl hb (by first | (simp; rfl) | rfl)) | (go_at_call 12; refine (valid_c _ _ _ _).mono ?_; rintro e w' ⟨rfl, hb⟩; obtain ⟨hz, hc, hf⟩ := bcl hb (by first | (simp; rfl) | rfl)))
  all_goals (go_ret; refine ⟨ret_bool (Bool.eq_iff_iff.2 ?_), ?_⟩)
  any_goals ((repeat (first | (with_reducible exact bl_refl _) | (with_reducible refine bl_drew ?_) | (with_reducible refine bl_alloc ?_ _) | (with_reducible refine bl_set' ?_ ?_; · (simp <;> omega)) | (with_reducible refine bl_last (by assumption) ?_) | (with_reducible refine bl_drewN ?_ _))))
  all_goals (clear hc hf hb hz; simp [tickB, vldB, rdB] at * <;> omega)

def slk (s e d r : Int) : Int := e + ((r - s) * d + 999) / 1000
theorem prod_bd {s d r : Int} (h0 : 0 ≤ s) (h1 : s ≤ r) (h2 : r ≤ 100000) (h3 : 0 ≤ d) (h4 : d ≤ 100) : 0 ≤ (r - s) * d ∧ (r - s) * d ≤ 10000000 :=
  ⟨Int.mul_nonneg (by omega) h3, Int.le_trans (Int.mul_le_mul (by omega : r - s ≤ 100000) h4 h3 (by omega)) (by omega)⟩
theorem rd_of {s e d r : Int} (h : rdB s e d r = true) : 0 ≤ s ∧ s ≤ r ∧ r ≤ 100000 ∧ 0 ≤ e ∧ e ≤ 1000 ∧ 0 ≤ d ∧ d ≤ 100 := by simpa [rdB] using h
theorem slk_bd {s e d r : Int} (h : rdB s e d r = true) : 0 ≤ slk s e d r ∧ slk s e d r ≤ 11000 := by
  obtain ⟨a, b, c, d1, e1, f, g⟩ := rd_of h
  have := prod_bd a b c f g
  unfold slk; omega
def fstF (s e d r : Int) : Int := max (r - slk s e d r) 0
def lstF (s e d r : Int) : Int := min (r + slk s e d r) 100000

set_option maxHeartbeats 400000 in
theorem slack_c (s e d r : Int) (w : World) (h : rdB s e d r = true) :
    Calls Try.prog 34 #[.agg #[.int .i64 s, .int .i64 e, .int .i64 d, .int .i64 r]] w (Ret (.int .i64 (slk s e d r)) w) := by
  obtain ⟨a, b, c, d1, e1, f, g⟩ := rd_of h
  have hp := prod_bd a b c f g
  obtain ⟨hp1, hp2⟩ := hp
  clear h
  go_enter Try.func34, Try.ntmps34
  go_wp2
  go_ret
  exact ⟨rfl, bl_alloc (bl_refl _) _⟩

set_option maxHeartbeats 400000 in
theorem first_c (s e d r : Int) (w : World) (h : rdB s e d r = true) :
    Calls Try.prog 29 #[.agg #[.int .i64 s, .int .i64 e, .int .i64 d, .int .i64 r]] w (Ret (.int .i64 (fstF s e d r)) w) := by
  obtain ⟨a, b, c, d1, e1, f, g⟩ := rd_of h
  have HK := Lib.hid (fun w => slack_c s e d r w h)
  have hk := slk_bd h
  unfold fstF
  generalize slk s e d r = k at *
  obtain ⟨hk1, hk2⟩ := hk
  have hwr : IntKind.i64.wrap (r - k) = r - k := by rw [IntKind.wrap_i64]; omega
  clear h
  go_enter Try.func29, Try.ntmps29
  go_wp2
  (refine wp_region_bl [0,1,2,3,4,5] [6] (by kernel_rfl) (by kernel_rfl) (by rfl) ?_
   simp only [pickI, pick, List.getElem?_cons_succ, List.getElem?_cons_zero]
   iterate 6 (first
     | (refine head_val (by rfl) (by rfl) ?_
        apply Exists.intro
        refine ⟨fun X hX => ?_, ?_⟩
        · (obtain ⟨qz, qc, qf⟩ := bcl hX.out (by first | (simp; rfl) | rfl)
           go_simp
           first | done | (go_at_call 34; refine (HK.out _).mono ?_; rintro e w2 ⟨rfl, hb2⟩; exact ⟨rfl, hX.trans hb2⟩) | rfl | exact ⟨rfl, rfl⟩)
        simp only [Act.put, List.setIfInBounds_toArray, List.set_cons_zero, List.set_cons_succ])
     | (refine head_pass (by rfl) ?_
        simp only [Act.put, List.setIfInBounds_toArray, List.set_cons_zero, List.set_cons_succ]))
   refine head_nil ?_
   intro w' hw'
   have hb := hw'.out
   clear hw'
   obtain ⟨hz, hc, hf⟩ := bcl hb (by first | (simp; rfl) | rfl))
  go_wp2
  all_goals (go_ret; refine ⟨ret_int ?_, ?_⟩)
  any_goals ((repeat (first | (with_reducible exact bl_refl _) | (with_reducible refine bl_drew ?_) | (with_reducible refine bl_alloc ?_ _) | (with_reducible refine bl_set' ?_ ?_; · (simp <;> omega)) | (with_reducible refine bl_last (by assumption) ?_) | (with_reducible refine bl_drewN ?_ _))))
  all_goals omega

set_option maxHeartbeats 400000 in
theorem last_c (s e d r : Int) (w : World) (h : rdB s e d r = true) :
    Calls Try.prog 30 #[.agg #[.int .i64 s, .int .i64 e, .int .i64 d, .int .i64 r]] w (Ret (.int .i64 (lstF s e d r)) w) := by
  obtain ⟨a, b, c, d1, e1, f, g⟩ := rd_of h
  have HK := Lib.hid (fun w => slack_c s e d r w h)
  have hk := slk_bd h
  unfold lstF
  generalize slk s e d r = k at *
  obtain ⟨hk1, hk2⟩ := hk
  have hwr : IntKind.i64.wrap (r + k) = r + k := by rw [IntKind.wrap_i64]; omega
  clear h
  go_enter Try.func30, Try.ntmps30
  go_wp2
  (refine wp_region_bl [0,1,2,3,4,5] [6] (by kernel_rfl) (by kernel_rfl) (by rfl) ?_
   simp only [pickI, pick, List.getElem?_cons_succ, List.getElem?_cons_zero]
   iterate 6 (first
     | (refine head_val (by rfl) (by rfl) ?_
        apply Exists.intro
        refine ⟨fun X hX => ?_, ?_⟩
        · (obtain ⟨qz, qc, qf⟩ := bcl hX.out (by first | (simp; rfl) | rfl)
           go_simp
           first | done | (go_at_call 34; refine (HK.out _).mono ?_; rintro e w2 ⟨rfl, hb2⟩; exact ⟨rfl, hX.trans hb2⟩) | rfl | exact ⟨rfl, rfl⟩)
        simp only [Act.put, List.setIfInBounds_toArray, List.set_cons_zero, List.set_cons_succ])
     | (refine head_pass (by rfl) ?_
        simp only [Act.put, List.setIfInBounds_toArray, List.set_cons_zero, List.set_cons_succ]))
   refine head_nil ?_
   intro w' hw'
   have hb := hw'.out
   clear hw'
   obtain ⟨hz, hc, hf⟩ := bcl hb (by first | (simp; rfl) | rfl))
  go_wp2
  all_goals (go_ret; refine ⟨ret_int ?_, ?_⟩)
  any_goals ((repeat (first | (with_reducible exact bl_refl _) | (with_reducible refine bl_drew ?_) | (with_reducible refine bl_alloc ?_ _) | (with_reducible refine bl_set' ?_ ?_; · (simp <;> omega)) | (with_reducible refine bl_last (by assumption) ?_) | (with_reducible refine bl_drewN ?_ _))))
  all_goals omega

set_option maxHeartbeats 400000 in
theorem True_ok (s e d r : Int) (w : World) (h : rdB s e d r = true) :
    Calls Try.prog 14 #[.agg #[.int .i64 s, .int .i64 e, .int .i64 d], .int .i64 r] w (Ret (.tuple #[.agg #[.int .i64 (fstF s e d r), .int .i64 (lstF s e d r)], .int .i64 0]) w) := by
  have HF := Lib.hid (fun w => first_c s e d r w h)
  have HL := Lib.hid (fun w => last_c s e d r w h)
  go_enter Try.func14, Try.ntmps14
  go_wp2_with (go_at_call 28; refine (vvalid_c _ _ _ _ _).mono ?_; rintro e w' ⟨rfl, hb⟩; obtain ⟨hz, hc, hf⟩ := bcl hb (by first | (simp; rfl) | rfl))
  (refine wp_region_bl [0,1,2,3,4] [5,6] (by kernel_rfl) (by kernel_rfl) (by rfl) ?_
   simp only [pickI, pick, List.getElem?_cons_succ, List.getElem?_cons_zero]
   iterate 5 (first
     | (refine head_val (by rfl) (by rfl) ?_
        apply Exists.intro
        refine ⟨fun X hX => ?_, ?_⟩
        · (obtain ⟨qz, qc, qf⟩ := bcl hX.out (by first | (simp; rfl) | rfl)
           go_simp
           first | done | (go_at_call 29; refine (HF.out _).mono ?_; rintro e w2 ⟨rfl, hb2⟩; exact ⟨rfl, hX.trans hb2⟩) | (go_at_call 30; refine (HL.out _).mono ?_; rintro e w2 ⟨rfl, hb2⟩; exact ⟨rfl, hX.trans hb2⟩) | rfl | exact ⟨rfl, rfl⟩)
        simp only [Act.put, List.setIfInBounds_toArray, List.set_cons_zero, List.set_cons_succ])
     | (refine head_pass (by rfl) ?_
        simp only [Act.put, List.setIfInBounds_toArray, List.set_cons_zero, List.set_cons_succ]))
   refine head_nil ?_
   intro w' hw'
   have hb := hw'.out
   clear hw'
   obtain ⟨hz, hc, hf⟩ := bcl hb (by first | (simp; rfl) | rfl))
  go_wp2
  (refine bodyPost_ret (v := .tuple #[.agg #[.int .i64 (fstF s e d r), .int .i64 (lstF s e d r)], .int .i64 0]) (by simp only [results, Try.results14]; go_simp) rfl ⟨rfl, ?_⟩)
  (repeat (first | (with_reducible exact bl_refl _) | (with_reducible refine bl_drew ?_) | (with_reducible refine bl_alloc ?_ _) | (with_reducible refine bl_set' ?_ ?_; · (simp <;> omega)) | (with_reducible refine bl_last (by assumption) ?_) | (with_reducible refine bl_drewN ?_ _)))

set_option maxHeartbeats 400000 in
theorem True_no (s e d r : Int) (w : World) (h : rdB s e d r = false) :
    Calls Try.prog 14 #[.agg #[.int .i64 s, .int .i64 e, .int .i64 d], .int .i64 r] w (Ret (.tuple #[.agg #[.int .i64 0, .int .i64 0], .int .i64 1]) w) := by
  go_enter Try.func14, Try.ntmps14
  go_wp2_with (go_at_call 28; refine (vvalid_c _ _ _ _ _).mono ?_; rintro e w' ⟨rfl, hb⟩; obtain ⟨hz, hc, hf⟩ := bcl hb (by first | (simp; rfl) | rfl))
  (refine bodyPost_ret (v := .tuple #[.agg #[.int .i64 0, .int .i64 0], .int .i64 1]) (by simp only [results, Try.results14]; go_simp) rfl ⟨rfl, ?_⟩)
  (repeat (first | (with_reducible exact bl_refl _) | (with_reducible refine bl_drew ?_) | (with_reducible refine bl_alloc ?_ _) | (with_reducible refine bl_set' ?_ ?_; · (simp <;> omega)) | (with_reducible refine bl_last (by assumption) ?_) | (with_reducible refine bl_drewN ?_ _)))

end Go.Proofs.Ytjanlgnagooioaa
