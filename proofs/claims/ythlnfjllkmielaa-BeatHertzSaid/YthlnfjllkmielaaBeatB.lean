/- Beat: all, made; the reference's Rated, Frequency, Partial, made. -/
import Derived.Test.YthlnfjllkmielaaBeatA
namespace Go.Proofs.Ythlnfjllkmielaa
open Go.RowKit

set_option maxHeartbeats 1000000 in
theorem all1_sd (n d : Int) (b : Nat) (w : World) (h0 : w.cell? ⟨b, 0, none⟩ = some (.int .i64 n)) (h1 : w.cell? ⟨b, 1, none⟩ = some (.int .i64 d)) :
    Calls Try.prog 35 #[.func (.func 36) #[] #[], .slice (some ⟨b, 0, none⟩) 1 1] w (Ret (.bool (sdV n d)) w) := by
  have hbw := World.block_lt_of_cell? _ _ h0
  cases hv : sdV n d
  all_goals
    go_enter Try.func35, Try.ntmps35
    go_wp2
    refine wp_loop_rounds 2 ?_
    rw [rounds_succ]
    go_wp2_with (go_at_call 36; refine (sounds_c _ _ _).mono ?_; rintro e w' ⟨rfl, hb⟩; obtain ⟨hz, hc, hf⟩ := bcl hb (by first | (simp; rfl) | rfl))
    try (rw [rounds_succ]; go_wp2)
    go_ret
    refine ⟨rfl, ?_⟩
    (repeat (first | (with_reducible exact bl_refl _) | (with_reducible refine bl_drew ?_) | (with_reducible refine bl_alloc ?_ _) | (with_reducible refine bl_set' ?_ ?_; · (first | omega | (simp; done) | (simp; omega))) | (with_reducible refine bl_last (by assumption) ?_) | (with_reducible refine bl_drewN ?_ _)))

set_option maxHeartbeats 1000000 in
theorem all2_sd (n d x y : Int) (b : Nat) (w : World) (h0 : w.cell? ⟨b, 0, none⟩ = some (.int .i64 n)) (h1 : w.cell? ⟨b, 1, none⟩ = some (.int .i64 d)) (h2 : w.cell? ⟨b, 2, none⟩ = some (.int .i64 x)) (h3 : w.cell? ⟨b, 3, none⟩ = some (.int .i64 y)) :
    Calls Try.prog 35 #[.func (.func 36) #[] #[], .slice (some ⟨b, 0, none⟩) 2 2] w (Ret (.bool (sdV n d && sdV x y)) w) := by
  have hbw := World.block_lt_of_cell? _ _ h0
  cases hv : sdV n d <;> cases hu : sdV x y
  all_goals
    go_enter Try.func35, Try.ntmps35
    go_wp2
    refine wp_loop_rounds 3 ?_
    rw [rounds_succ]
    go_wp2_with (go_at_call 36; refine (sounds_c _ _ _).mono ?_; rintro e w' ⟨rfl, hb⟩; obtain ⟨hz, hc, hf⟩ := bcl hb (by first | (simp; rfl) | rfl))
    try (rw [rounds_succ]; go_wp2_with (go_at_call 36; refine (sounds_c _ _ _).mono ?_; rintro e w' ⟨rfl, hb⟩; obtain ⟨hz, hc, hf⟩ := bcl hb (by first | (simp; rfl) | rfl)))
    try (rw [rounds_succ]; go_wp2)
    go_ret
    refine ⟨rfl, ?_⟩
    (repeat (first | (with_reducible exact bl_refl _) | (with_reducible refine bl_drew ?_) | (with_reducible refine bl_alloc ?_ _) | (with_reducible refine bl_set' ?_ ?_; · (first | omega | (simp; done) | (simp; omega))) | (with_reducible refine bl_last (by assumption) ?_) | (with_reducible refine bl_drewN ?_ _)))

set_option maxHeartbeats 1000000 in
theorem all1_rt (n d : Int) (b : Nat) (w : World) (h0 : w.cell? ⟨b, 0, none⟩ = some (.int .i64 n)) (h1 : w.cell? ⟨b, 1, none⟩ = some (.int .i64 d)) :
    Calls Try.prog 35 #[.func (.func 39) #[] #[], .slice (some ⟨b, 0, none⟩) 1 1] w (Ret (.bool (rtV n d)) w) := by
  have hbw := World.block_lt_of_cell? _ _ h0
  cases hv : rtV n d
  all_goals
    go_enter Try.func35, Try.ntmps35
    go_wp2
    refine wp_loop_rounds 2 ?_
    rw [rounds_succ]
    go_wp2_with (go_at_call 39; refine (counts_c _ _ _).mono ?_; rintro e w' ⟨rfl, hb⟩; obtain ⟨hz, hc, hf⟩ := bcl hb (by first | (simp; rfl) | rfl))
    try (rw [rounds_succ]; go_wp2)
    go_ret
    refine ⟨rfl, ?_⟩
    (repeat (first | (with_reducible exact bl_refl _) | (with_reducible refine bl_drew ?_) | (with_reducible refine bl_alloc ?_ _) | (with_reducible refine bl_set' ?_ ?_; · (first | omega | (simp; done) | (simp; omega))) | (with_reducible refine bl_last (by assumption) ?_) | (with_reducible refine bl_drewN ?_ _)))

set_option maxHeartbeats 1000000 in
theorem all2_rt (n d x y : Int) (b : Nat) (w : World) (h0 : w.cell? ⟨b, 0, none⟩ = some (.int .i64 n)) (h1 : w.cell? ⟨b, 1, none⟩ = some (.int .i64 d)) (h2 : w.cell? ⟨b, 2, none⟩ = some (.int .i64 x)) (h3 : w.cell? ⟨b, 3, none⟩ = some (.int .i64 y)) :
    Calls Try.prog 35 #[.func (.func 39) #[] #[], .slice (some ⟨b, 0, none⟩) 2 2] w (Ret (.bool (rtV n d && rtV x y)) w) := by
  have hbw := World.block_lt_of_cell? _ _ h0
  cases hv : rtV n d <;> cases hu : rtV x y
  all_goals
    go_enter Try.func35, Try.ntmps35
    go_wp2
    refine wp_loop_rounds 3 ?_
    rw [rounds_succ]
    go_wp2_with (go_at_call 39; refine (counts_c _ _ _).mono ?_; rintro e w' ⟨rfl, hb⟩; obtain ⟨hz, hc, hf⟩ := bcl hb (by first | (simp; rfl) | rfl))
    try (rw [rounds_succ]; go_wp2_with (go_at_call 39; refine (counts_c _ _ _).mono ?_; rintro e w' ⟨rfl, hb⟩; obtain ⟨hz, hc, hf⟩ := bcl hb (by first | (simp; rfl) | rfl)))
    try (rw [rounds_succ]; go_wp2)
    go_ret
    refine ⟨rfl, ?_⟩
    (repeat (first | (with_reducible exact bl_refl _) | (with_reducible refine bl_drew ?_) | (with_reducible refine bl_alloc ?_ _) | (with_reducible refine bl_set' ?_ ?_; · (first | omega | (simp; done) | (simp; omega))) | (with_reducible refine bl_last (by assumption) ?_) | (with_reducible refine bl_drewN ?_ _)))

end Go.Proofs.Ythlnfjllkmielaa
