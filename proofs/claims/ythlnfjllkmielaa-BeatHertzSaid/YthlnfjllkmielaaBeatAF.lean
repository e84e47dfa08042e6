/- Beat: the reference's Hertz: what it multiplies; where it returns ErrArg. -/
import Derived.Test.YthlnfjllkmielaaBeatAE
namespace Go.Proofs.Ythlnfjllkmielaa
open Go.RowKit

theorem sgE_one (a b c d e f : Int) : sgE 1 a b c d e f = pex a b c d e f := by
  funext i
  exact Int.one_mul _
theorem sgE_neg (a b c d e f : Int) : sgE (-1) a b c d e f = fun i => -pex a b c d e f i := by
  funext i
  show -1 * pex a b c d e f i = _
  omega
theorem rest_eq (a b c d e f : Int) : prodF prm (sgE (-1) a b c d e f) 6 = restN a b c d e f := by rw [sgE_neg]; rfl
theorem goal_eq (z : Nat) (a b c d e f : Int) : z ^ 12 * prodF prm (sgE 1 a b c d e f) 6 = goalN z a b c d e f := by
  rw [sgE_one]
  have h : pwF z 12 = z ^ 12 := by rw [pwF, if_pos (by omega)]; rfl
  show z ^ 12 * (1 * pwF 2 a * pwF 3 b * pwF 5 c * pwF 7 d * pwF 11 e * pwF 13 f) = 1 * pwF z 12 * pwF 2 a * pwF 3 b * pwF 5 c * pwF 7 d * pwF 11 e * pwF 13 f
  rw [h, Nat.one_mul, Nat.one_mul]
  simp only [Nat.mul_assoc]
set_option maxRecDepth 100000 in
set_option maxHeartbeats 4000000 in
theorem rhertz_bad (N D a b c d e f k : Int) (w : World) (h : hzG N D a b c d e f k = false) :
    Calls Try.prog 25 #[.agg #[.int .i64 N, .int .i64 D], .agg #[.int .i64 a, .int .i64 b, .int .i64 c, .int .i64 d, .int .i64 e, .int .i64 f], .int .i64 k] w (HzP N D a b c d e f k w) := by
  have HG := Lib.hid h
  have hF := fun w => Freq_c N D w
  have hPV := fun w => RPVld_c a b c d e f w
  have hw : (sdV N D = false) ∨ (sdV N D = true ∧ pV a b c d e f 576 = false) ∨ (sdV N D = true ∧ pV a b c d e f 576 = true ∧ k < 1) ∨ (sdV N D = true ∧ pV a b c d e f 576 = true ∧ 1 ≤ k ∧ 1000000 < k) := hz_ways h
  rcases hw with h1 | ⟨h1, h2⟩ | ⟨h1, h2, h3⟩ | ⟨h1, h2, h3, h4⟩
  all_goals
    clear h
    rw [h1] at hF
    try rw [h2] at hPV
    have HF := Lib.hid hF
    have HPV := Lib.hid hPV
    clear hF hPV h1
    try clear h2
    go_enter Try.func25, Try.ntmps25
    go_wp2_with (first | (go_at_call 29; ((with_reducible refine (HF.out _).mono ?_); rintro e w' ⟨rfl, hb⟩; obtain ⟨hz, hc, hf⟩ := bcl hb (by first | (simp; rfl) | rfl))) | (go_at_call 57; ((with_reducible refine (HPV.out _).mono ?_); rintro e w' ⟨rfl, hb⟩; obtain ⟨hz, hc, hf⟩ := bcl hb (by first | (simp; rfl) | rfl))))
    refine bodyPost_ret (v := .tuple #[.agg #[.int .i64 0, .int .i64 0, .int .i64 0, .int .i64 0], .int .i64 1]) (by simp only [results, Try.results25]; go_simp) rfl ⟨?_, Or.inl ⟨HG.out, rfl⟩⟩
    (repeat (first | (with_reducible exact bl_refl _) | (with_reducible refine bl_drew ?_) | (with_reducible refine bl_alloc ?_ _) | (with_reducible refine bl_set' ?_ ?_; · (first | omega | (simp; done) | (simp; omega))) | (with_reducible refine bl_last (by assumption) ?_) | (with_reducible refine bl_drewN ?_ _)))
end Go.Proofs.Ythlnfjllkmielaa
