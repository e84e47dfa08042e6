/- Beat: made; the reference's Rated, Frequency, Partial. -/
import Derived.Test.YthlnfjllkmielaaBeatB
namespace Go.Proofs.Ythlnfjllkmielaa
open Go.RowKit

/-- What made returns: n / d if the test holds for it, else out of range. -/
def maE (t : Int → Int → Bool) (n d : Int) : Bool := decide (mkE n d = 0) && t (mkN n d) (mkD n d)
def maV (t : Int → Int → Bool) (n d : Int) : Value := .tuple #[.agg #[.int .i64 (if maE t n d then mkN n d else 0), .int .i64 (if maE t n d then mkD n d else 0)], .int .i64 (if maE t n d then 0 else 3)]
theorem ma_ok {t : Int → Int → Bool} {n d : Int} (h : maE t n d = true) : maV t n d = .tuple #[.agg #[.int .i64 (mkN n d), .int .i64 (mkD n d)], .int .i64 0] := by simp [maV, h]
theorem ma_no {t : Int → Int → Bool} {n d : Int} (h : maE t n d = false) : maV t n d = .tuple #[.agg #[.int .i64 0, .int .i64 0], .int .i64 3] := by simp [maV, h]
theorem ma_ways (t : Int → Int → Bool) (n d : Int) : ((mkE n d != 0) = true ∧ maV t n d = .tuple #[.agg #[.int .i64 0, .int .i64 0], .int .i64 3]) ∨
    ((mkE n d != 0) = false ∧ t (mkN n d) (mkD n d) = false ∧ maV t n d = .tuple #[.agg #[.int .i64 0, .int .i64 0], .int .i64 3]) ∨
    ((mkE n d != 0) = false ∧ t (mkN n d) (mkD n d) = true ∧ maV t n d = .tuple #[.agg #[.int .i64 (mkN n d), .int .i64 (mkD n d)], .int .i64 0]) := by
  by_cases h : mkE n d = 0
  · cases ht : t (mkN n d) (mkD n d)
    · exact Or.inr (Or.inl ⟨by simp [h], rfl, ma_no (by simp [maE, ht])⟩)
    · exact Or.inr (Or.inr ⟨by simp [h], rfl, ma_ok (by simp [maE, h, ht])⟩)
  · exact Or.inl ⟨by simp [h], ma_no (by simp [maE, h])⟩

set_option maxHeartbeats 1000000 in
theorem made_rt (n d : Int) (w : World) (hn : I64 n) (hd : I64 d) : Calls Try.prog 38 #[.int .i64 n, .int .i64 d, .func (.func 39) #[] #[]] w (Ret (maV rtV n d) w) := by
  have HM := fun w => Make_c n d w hn hd
  have hways := ma_ways rtV n d
  unfold mkV at HM
  generalize maV rtV n d = mv at *
  generalize mkE n d = e at *
  generalize mkN n d = x at *
  generalize mkD n d = y at *
  have HM := Lib.hid HM
  rcases hways with ⟨h1, h3⟩ | ⟨h1, h2, h3⟩ | ⟨h1, h2, h3⟩
  all_goals
    rw [h3]
    clear h3
    go_enter Try.func38, Try.ntmps38
    go_wp2_with (first | (go_at_call 56; refine (HM.out _).mono ?_; rintro e w' ⟨rfl, hb⟩; obtain ⟨hz, hc, hf⟩ := bcl hb (by first | (simp; rfl) | rfl)) | (go_at_call 39; refine (counts_c _ _ _).mono ?_; rintro e w' ⟨rfl, hb⟩; obtain ⟨hz, hc, hf⟩ := bcl hb (by first | (simp; rfl) | rfl)))
    first | (refine bodyPost_ret (v := .tuple #[.agg #[.int .i64 0, .int .i64 0], .int .i64 3]) (by simp only [results, Try.results38]; go_simp) rfl ⟨rfl, ?_⟩) | (refine bodyPost_ret (v := .tuple #[.agg #[.int .i64 x, .int .i64 y], .int .i64 0]) (by simp only [results, Try.results38]; go_simp) rfl ⟨rfl, ?_⟩)
    (repeat (first | (with_reducible exact bl_refl _) | (with_reducible refine bl_drew ?_) | (with_reducible refine bl_alloc ?_ _) | (with_reducible refine bl_set' ?_ ?_; · (first | omega | (simp; done) | (simp; omega))) | (with_reducible refine bl_last (by assumption) ?_) | (with_reducible refine bl_drewN ?_ _)))

set_option maxHeartbeats 1000000 in
theorem made_sd (n d : Int) (w : World) (hn : I64 n) (hd : I64 d) : Calls Try.prog 38 #[.int .i64 n, .int .i64 d, .func (.func 36) #[] #[]] w (Ret (maV sdV n d) w) := by
  have HM := fun w => Make_c n d w hn hd
  have hways := ma_ways sdV n d
  unfold mkV at HM
  generalize maV sdV n d = mv at *
  generalize mkE n d = e at *
  generalize mkN n d = x at *
  generalize mkD n d = y at *
  have HM := Lib.hid HM
  rcases hways with ⟨h1, h3⟩ | ⟨h1, h2, h3⟩ | ⟨h1, h2, h3⟩
  all_goals
    rw [h3]
    clear h3
    go_enter Try.func38, Try.ntmps38
    go_wp2_with (first | (go_at_call 56; refine (HM.out _).mono ?_; rintro e w' ⟨rfl, hb⟩; obtain ⟨hz, hc, hf⟩ := bcl hb (by first | (simp; rfl) | rfl)) | (go_at_call 36; refine (sounds_c _ _ _).mono ?_; rintro e w' ⟨rfl, hb⟩; obtain ⟨hz, hc, hf⟩ := bcl hb (by first | (simp; rfl) | rfl)))
    first | (refine bodyPost_ret (v := .tuple #[.agg #[.int .i64 0, .int .i64 0], .int .i64 3]) (by simp only [results, Try.results38]; go_simp) rfl ⟨rfl, ?_⟩) | (refine bodyPost_ret (v := .tuple #[.agg #[.int .i64 x, .int .i64 y], .int .i64 0]) (by simp only [results, Try.results38]; go_simp) rfl ⟨rfl, ?_⟩)
    (repeat (first | (with_reducible exact bl_refl _) | (with_reducible refine bl_drew ?_) | (with_reducible refine bl_alloc ?_ _) | (with_reducible refine bl_set' ?_ ?_; · (first | omega | (simp; done) | (simp; omega))) | (with_reducible refine bl_last (by assumption) ?_) | (with_reducible refine bl_drewN ?_ _)))

set_option maxHeartbeats 1000000 in
theorem Rated_c (n d : Int) (w : World) : Calls Try.prog 42 #[.agg #[.int .i64 n, .int .i64 d]] w (Ret (.bool (rtV n d)) w) := by
  rcases rt_ways n d with ⟨h1, hv⟩ | ⟨h1, h2, hv⟩ | ⟨h1, h2, h3, hv⟩ | ⟨h1, h2, h3, hv⟩
  all_goals
    rw [hv]
    clear hv
    try (have b2 : decide (0 ≤ n) = true := decide_eq_true h2)
    try (have b2 : decide (0 ≤ n) = false := decide_eq_false (by omega))
    try (have b3 : decide (d ≤ 100000000) = true := decide_eq_true h3)
    try (have b3 : decide (d ≤ 100000000) = false := decide_eq_false (by omega))
    go_enter Try.func42, Try.ntmps42
    go_wp2_with (go_at_call 64; refine (RValid_c _ _ _).mono ?_; rintro e w' ⟨rfl, hb⟩; obtain ⟨hz, hc, hf⟩ := bcl hb (by first | (simp; rfl) | rfl))
    go_ret
    refine ⟨rfl, ?_⟩
    (repeat (first | (with_reducible exact bl_refl _) | (with_reducible refine bl_drew ?_) | (with_reducible refine bl_alloc ?_ _) | (with_reducible refine bl_set' ?_ ?_; · (first | omega | (simp; done) | (simp; omega))) | (with_reducible refine bl_last (by assumption) ?_) | (with_reducible refine bl_drewN ?_ _)))

set_option maxHeartbeats 1000000 in
theorem Freq_c (n d : Int) (w : World) : Calls Try.prog 29 #[.agg #[.int .i64 n, .int .i64 d]] w (Ret (.bool (sdV n d)) w) := by
  rcases sd_ways n d with ⟨h1, hv⟩ | ⟨h1, h2, hv⟩ | ⟨h1, h2, hv⟩
  all_goals
    rw [hv]
    clear hv
    try (have b2 : decide (0 < n) = true := decide_eq_true h2)
    try (have b2 : decide (0 < n) = false := decide_eq_false (by omega))
    go_enter Try.func29, Try.ntmps29
    go_wp2_with (go_at_call 42; refine (Rated_c _ _ _).mono ?_; rintro e w' ⟨rfl, hb⟩; obtain ⟨hz, hc, hf⟩ := bcl hb (by first | (simp; rfl) | rfl))
    go_ret
    refine ⟨rfl, ?_⟩
    (repeat (first | (with_reducible exact bl_refl _) | (with_reducible refine bl_drew ?_) | (with_reducible refine bl_alloc ?_ _) | (with_reducible refine bl_set' ?_ ?_; · (first | omega | (simp; done) | (simp; omega))) | (with_reducible refine bl_last (by assumption) ?_) | (with_reducible refine bl_drewN ?_ _)))

theorem Part_c (p : Int) (w : World) : Calls Try.prog 40 #[.int .i64 p] w (RetS (.bool (ptV p)) w) := by
  rcases pt_ways p with ⟨g1, hv⟩ | ⟨g1, g2, hv⟩ | ⟨g1, g2, hv⟩
  all_goals
    rw [hv]
    clear hv
    try (have b2 : decide (1 ≤ p) = true := decide_eq_true g1)
    try (have b2 : decide (1 ≤ p) = false := decide_eq_false (by omega))
    try (have b3 : decide (p ≤ 64) = true := decide_eq_true g2)
    try (have b3 : decide (p ≤ 64) = false := decide_eq_false (by omega))
    go_enter Try.func40, Try.ntmps40
    go_wp2
    go_ret
    exact ⟨rfl, rfl⟩

set_option maxHeartbeats 1000000 in
theorem Rmade_c (n d : Int) (w : World) (hn : I64 n) (hd : I64 d) : Calls Try.prog 41 #[.int .i64 n, .int .i64 d] w (Ret (maV rtV n d) w) := by
  have HM := fun w => RMake_c n d w hn hd
  have hways := ma_ways rtV n d
  unfold mkV at HM
  generalize maV rtV n d = mv at *
  generalize mkE n d = e at *
  generalize mkN n d = x at *
  generalize mkD n d = y at *
  have HM := Lib.hid HM
  rcases hways with ⟨h1, h3⟩ | ⟨h1, h2, h3⟩ | ⟨h1, h2, h3⟩
  all_goals
    rw [h3]
    clear h3
    go_enter Try.func41, Try.ntmps41
    go_wp2_with (first | (go_at_call 26; refine (HM.out _).mono ?_; rintro e w' ⟨rfl, hb⟩; obtain ⟨hz, hc, hf⟩ := bcl hb (by first | (simp; rfl) | rfl)) | (go_at_call 42; refine (Rated_c _ _ _).mono ?_; rintro e w' ⟨rfl, hb⟩; obtain ⟨hz, hc, hf⟩ := bcl hb (by first | (simp; rfl) | rfl)))
    first | (refine bodyPost_ret (v := .tuple #[.agg #[.int .i64 0, .int .i64 0], .int .i64 3]) (by simp only [results, Try.results41]; go_simp) rfl ⟨rfl, ?_⟩) | (refine bodyPost_ret (v := .tuple #[.agg #[.int .i64 x, .int .i64 y], .int .i64 0]) (by simp only [results, Try.results41]; go_simp) rfl ⟨rfl, ?_⟩)
    (repeat (first | (with_reducible exact bl_refl _) | (with_reducible refine bl_drew ?_) | (with_reducible refine bl_alloc ?_ _) | (with_reducible refine bl_set' ?_ ?_; · (first | omega | (simp; done) | (simp; omega))) | (with_reducible refine bl_last (by assumption) ?_) | (with_reducible refine bl_drewN ?_ _)))
end Go.Proofs.Ythlnfjllkmielaa
