/- Beat: all, made; the reference's Rated, Frequency, Partial, made. Beat: made; the reference's Rated, Frequency, Partial. -/
import Derived.Test.YtehifkdfbiebfaaDoorK13
namespace Go.Proofs.YtehifkdfbiebfaaDoor
open Go.RowKit

set_option maxHeartbeats 1000000 in
theorem all1_sd (n d : Int) (b : Nat) (w : World) (h0 : w.cell? ⟨b, 0, none⟩ = some (.int .i64 n)) (h1 : w.cell? ⟨b, 1, none⟩ = some (.int .i64 d)) :
    Calls Tryd.prog 68 #[.func (.func 69) #[] #[], .slice (some ⟨b, 0, none⟩) 1 1] w (Ret (.bool (sdV n d)) w) := by
  have hbw := World.block_lt_of_cell? _ _ h0
  cases hv : sdV n d
  all_goals
    go_enter Tryd.func68, Tryd.ntmps68
    go_wp2
    refine wp_loop_rounds 2 ?_
    rw [rounds_succ]
    go_wp2_with (go_at_call 69; refine (sounds_c _ _ _).mono ?_; rintro e w' ⟨rfl, hb⟩; obtain ⟨hz, hc, hf⟩ := bcl hb (by first | (simp; rfl) | rfl))
    try (rw [rounds_succ]; go_wp2)
    go_ret
    refine ⟨rfl, ?_⟩
    (repeat (first | (with_reducible exact bl_refl _) | (with_reducible refine bl_drew ?_) | (with_reducible refine bl_alloc ?_ _) | (with_reducible refine bl_set' ?_ ?_; · (first | omega | (simp; done) | (simp; omega))) | (with_reducible refine bl_last (by assumption) ?_) | (with_reducible refine bl_drewN ?_ _)))

set_option maxHeartbeats 1000000 in
theorem all2_sd (n d x y : Int) (b : Nat) (w : World) (h0 : w.cell? ⟨b, 0, none⟩ = some (.int .i64 n)) (h1 : w.cell? ⟨b, 1, none⟩ = some (.int .i64 d)) (h2 : w.cell? ⟨b, 2, none⟩ = some (.int .i64 x)) (h3 : w.cell? ⟨b, 3, none⟩ = some (.int .i64 y)) :
    Calls Tryd.prog 68 #[.func (.func 69) #[] #[], .slice (some ⟨b, 0, none⟩) 2 2] w (Ret (.bool (sdV n d && sdV x y)) w) := by
  have hbw := World.block_lt_of_cell? _ _ h0
  cases hv : sdV n d <;> cases hu : sdV x y
  all_goals
    go_enter Tryd.func68, Tryd.ntmps68
    go_wp2
    refine wp_loop_rounds 3 ?_
    rw [rounds_succ]
    go_wp2_with (go_at_call 69; refine (sounds_c _ _ _).mono ?_; rintro e w' ⟨rfl, hb⟩; obtain ⟨hz, hc, hf⟩ := bcl hb (by first | (simp; rfl) | rfl))
    try (rw [rounds_succ]; go_wp2_with (go_at_call 69; refine (sounds_c _ _ _).mono ?_; rintro e w' ⟨rfl, hb⟩; obtain ⟨hz, hc, hf⟩ := bcl hb (by first | (simp; rfl) | rfl)))
    try (rw [rounds_succ]; go_wp2)
    go_ret
    refine ⟨rfl, ?_⟩
    (repeat (first | (with_reducible exact bl_refl _) | (with_reducible refine bl_drew ?_) | (with_reducible refine bl_alloc ?_ _) | (with_reducible refine bl_set' ?_ ?_; · (first | omega | (simp; done) | (simp; omega))) | (with_reducible refine bl_last (by assumption) ?_) | (with_reducible refine bl_drewN ?_ _)))

set_option maxHeartbeats 1000000 in
theorem all1_rt (n d : Int) (b : Nat) (w : World) (h0 : w.cell? ⟨b, 0, none⟩ = some (.int .i64 n)) (h1 : w.cell? ⟨b, 1, none⟩ = some (.int .i64 d)) :
    Calls Tryd.prog 68 #[.func (.func 72) #[] #[], .slice (some ⟨b, 0, none⟩) 1 1] w (Ret (.bool (rtV n d)) w) := by
  have hbw := World.block_lt_of_cell? _ _ h0
  cases hv : rtV n d
  all_goals
    go_enter Tryd.func68, Tryd.ntmps68
    go_wp2
    refine wp_loop_rounds 2 ?_
    rw [rounds_succ]
    go_wp2_with (go_at_call 72; refine (counts_c _ _ _).mono ?_; rintro e w' ⟨rfl, hb⟩; obtain ⟨hz, hc, hf⟩ := bcl hb (by first | (simp; rfl) | rfl))
    try (rw [rounds_succ]; go_wp2)
    go_ret
    refine ⟨rfl, ?_⟩
    (repeat (first | (with_reducible exact bl_refl _) | (with_reducible refine bl_drew ?_) | (with_reducible refine bl_alloc ?_ _) | (with_reducible refine bl_set' ?_ ?_; · (first | omega | (simp; done) | (simp; omega))) | (with_reducible refine bl_last (by assumption) ?_) | (with_reducible refine bl_drewN ?_ _)))

set_option maxHeartbeats 1000000 in
theorem all2_rt (n d x y : Int) (b : Nat) (w : World) (h0 : w.cell? ⟨b, 0, none⟩ = some (.int .i64 n)) (h1 : w.cell? ⟨b, 1, none⟩ = some (.int .i64 d)) (h2 : w.cell? ⟨b, 2, none⟩ = some (.int .i64 x)) (h3 : w.cell? ⟨b, 3, none⟩ = some (.int .i64 y)) :
    Calls Tryd.prog 68 #[.func (.func 72) #[] #[], .slice (some ⟨b, 0, none⟩) 2 2] w (Ret (.bool (rtV n d && rtV x y)) w) := by
  have hbw := World.block_lt_of_cell? _ _ h0
  cases hv : rtV n d <;> cases hu : rtV x y
  all_goals
    go_enter Tryd.func68, Tryd.ntmps68
    go_wp2
    refine wp_loop_rounds 3 ?_
    rw [rounds_succ]
    go_wp2_with (go_at_call 72; refine (counts_c _ _ _).mono ?_; rintro e w' ⟨rfl, hb⟩; obtain ⟨hz, hc, hf⟩ := bcl hb (by first | (simp; rfl) | rfl))
    try (rw [rounds_succ]; go_wp2_with (go_at_call 72; refine (counts_c _ _ _).mono ?_; rintro e w' ⟨rfl, hb⟩; obtain ⟨hz, hc, hf⟩ := bcl hb (by first | (simp; rfl) | rfl)))
    try (rw [rounds_succ]; go_wp2)
    go_ret
    refine ⟨rfl, ?_⟩
    (repeat (first | (with_reducible exact bl_refl _) | (with_reducible refine bl_drew ?_) | (with_reducible refine bl_alloc ?_ _) | (with_reducible refine bl_set' ?_ ?_; · (first | omega | (simp; done) | (simp; omega))) | (with_reducible refine bl_last (by assumption) ?_) | (with_reducible refine bl_drewN ?_ _)))

end Go.Proofs.YtehifkdfbiebfaaDoor
namespace Go.Proofs.YtehifkdfbiebfaaDoor
open Go.RowKit

/-- What made returns: n / d if the test holds for it, else out of range. -/
def maE (t : Int → Int → Bool) (n d : Int) : Bool := decide (mkE n d = 0) && t (mkN n d) (mkD n d)
def maV (t : Int → Int → Bool) (n d : Int) : Value := .tuple #[.agg #[.int .i64 (if maE t n d then mkN n d else 0), .int .i64 (if maE t n d then mkD n d else 0)], .int .i64 (if maE t n d then 0 else 3)]
theorem ma_ok {t : Int → Int → Bool} {n d : Int} (h : maE t n d = true) : maV t n d = .tuple #[.agg #[.int .i64 (mkN n d), .int .i64 (mkD n d)], .int .i64 0] := by simp [maV, h]
theorem ma_no {t : Int → Int → Bool} {n d : Int} (h : maE t n d = false) : maV t n d = .tuple #[.agg #[.int .i64 0, .int .i64 0], .int .i64 3] := by simp [maV, h]
theorem ma_ways (t : Int → Int → Bool) (n d : Int) : ((mkE n d != 0) = true ∧ maV t n d = .tuple #[.agg #[.int .i64 0, .int .i64 0], .int .i64 3]) ∨
    ((mkE n d != 0) = false ∧ t (mkN n d) (mkD n d) = false ∧ maV t n d = .tuple #[.agg #[.int .i64 0, .int .i64 0], .int .i64 3]) ∨
    ((mkE n d != 0) = false ∧ t (mkN n d) (mkD n d) = true ∧ maV t n d = .tuple #[.agg #[.int .i64 (mkN n d), .int .i64 (mkD n d)], .int .i64 0]) := by
  by_cases h : mkE n d = 0
  · cases ht : t (mkN n d) (mkD n d)
    · exact Or.inr (Or.inl ⟨by simp [h], rfl, ma_no (by simp [maE, ht])⟩)
    · exact Or.inr (Or.inr ⟨by simp [h], rfl, ma_ok (by simp [maE, h, ht])⟩)
  · exact Or.inl ⟨by simp [h], ma_no (by simp [maE, h])⟩

set_option maxHeartbeats 1000000 in
theorem made_rt (n d : Int) (w : World) (hn : I64 n) (hd : I64 d) : Calls Tryd.prog 71 #[.int .i64 n, .int .i64 d, .func (.func 72) #[] #[]] w (Ret (maV rtV n d) w) := by
  have HM := fun w => Make_c n d w hn hd
  have hways := ma_ways rtV n d
  unfold mkV at HM
  generalize maV rtV n d = mv at *
  generalize mkE n d = e at *
  generalize mkN n d = x at *
  generalize mkD n d = y at *
  have HM := Lib.hid HM
  rcases hways with ⟨h1, h3⟩ | ⟨h1, h2, h3⟩ | ⟨h1, h2, h3⟩
  all_goals
    rw [h3]
    clear h3
    go_enter Tryd.func71, Tryd.ntmps71
    go_wp2_with (first | (go_at_call 31; refine (HM.out _).mono ?_; rintro e w' ⟨rfl, hb⟩; obtain ⟨hz, hc, hf⟩ := bcl hb (by first | (simp; rfl) | rfl)) | (go_at_call 72; refine (counts_c _ _ _).mono ?_; rintro e w' ⟨rfl, hb⟩; obtain ⟨hz, hc, hf⟩ := bcl hb (by first | (simp; rfl) | rfl)))
    first | (refine bodyPost_ret (v := .tuple #[.agg #[.int .i64 0, .int .i64 0], .int .i64 3]) (by simp only [results, Tryd.results71]; go_simp) rfl ⟨rfl, ?_⟩) | (refine bodyPost_ret (v := .tuple #[.agg #[.int .i64 x, .int .i64 y], .int .i64 0]) (by simp only [results, Tryd.results71]; go_simp) rfl ⟨rfl, ?_⟩)
    (repeat (first | (with_reducible exact bl_refl _) | (with_reducible refine bl_drew ?_) | (with_reducible refine bl_alloc ?_ _) | (with_reducible refine bl_set' ?_ ?_; · (first | omega | (simp; done) | (simp; omega))) | (with_reducible refine bl_last (by assumption) ?_) | (with_reducible refine bl_drewN ?_ _)))

set_option maxHeartbeats 1000000 in
theorem made_sd (n d : Int) (w : World) (hn : I64 n) (hd : I64 d) : Calls Tryd.prog 71 #[.int .i64 n, .int .i64 d, .func (.func 69) #[] #[]] w (Ret (maV sdV n d) w) := by
  have HM := fun w => Make_c n d w hn hd
  have hways := ma_ways sdV n d
  unfold mkV at HM
  generalize maV sdV n d = mv at *
  generalize mkE n d = e at *
  generalize mkN n d = x at *
  generalize mkD n d = y at *
  have HM := Lib.hid HM
  rcases hways with ⟨h1, h3⟩ | ⟨h1, h2, h3⟩ | ⟨h1, h2, h3⟩
  all_goals
    rw [h3]
    clear h3
    go_enter Tryd.func71, Tryd.ntmps71
    go_wp2_with (first | (go_at_call 31; refine (HM.out _).mono ?_; rintro e w' ⟨rfl, hb⟩; obtain ⟨hz, hc, hf⟩ := bcl hb (by first | (simp; rfl) | rfl)) | (go_at_call 69; refine (sounds_c _ _ _).mono ?_; rintro e w' ⟨rfl, hb⟩; obtain ⟨hz, hc, hf⟩ := bcl hb (by first | (simp; rfl) | rfl)))
    first | (refine bodyPost_ret (v := .tuple #[.agg #[.int .i64 0, .int .i64 0], .int .i64 3]) (by simp only [results, Tryd.results71]; go_simp) rfl ⟨rfl, ?_⟩) | (refine bodyPost_ret (v := .tuple #[.agg #[.int .i64 x, .int .i64 y], .int .i64 0]) (by simp only [results, Tryd.results71]; go_simp) rfl ⟨rfl, ?_⟩)
    (repeat (first | (with_reducible exact bl_refl _) | (with_reducible refine bl_drew ?_) | (with_reducible refine bl_alloc ?_ _) | (with_reducible refine bl_set' ?_ ?_; · (first | omega | (simp; done) | (simp; omega))) | (with_reducible refine bl_last (by assumption) ?_) | (with_reducible refine bl_drewN ?_ _)))







end Go.Proofs.YtehifkdfbiebfaaDoor
