/- Beat: the reference's Hertz returns what the program's does. -/
import Derived.Test.YthlnfjllkmielaaBeatAG
namespace Go.Proofs.Ythlnfjllkmielaa
open Go.RowKit

theorem RHertz_c (N D a b c d e f k : Int) (w : World) :
    Calls Try.prog 25 #[.agg #[.int .i64 N, .int .i64 D], .agg #[.int .i64 a, .int .i64 b, .int .i64 c, .int .i64 d, .int .i64 e, .int .i64 f], .int .i64 k] w (HzP N D a b c d e f k w) := by
  cases h : hzG N D a b c d e f k
  · exact rhertz_bad N D a b c d e f k w h
  · obtain ⟨g1, g2, g3, g4⟩ := hz_of h
    obtain ⟨g5, g6⟩ := sd_of g1
    obtain ⟨g7, g8, g9, g10⟩ := rt_of g5
    obtain ⟨NN, rfl⟩ : ∃ x : Nat, N = x := ⟨N.toNat, by omega⟩
    obtain ⟨DD, rfl⟩ : ∃ x : Nat, D = x := ⟨D.toNat, by omega⟩
    obtain ⟨kk, rfl⟩ : ∃ x : Nat, k = x := ⟨k.toNat, by omega⟩
    exact rhertz_good NN DD kk a b c d e f w h
theorem HzP.same {N D a b c d e f k : Int} {w w' u u' : World} {en en' : Ending} (h : HzP N D a b c d e f k w en w') (h' : HzP N D a b c d e f k u en' u') : en' = en := by
  obtain ⟨_, h⟩ := h
  obtain ⟨_, h'⟩ := h'
  rcases h with ⟨g, rfl⟩ | ⟨g, lo, hi, hL, hr⟩
  · rcases h' with ⟨_, rfl⟩ | ⟨g', _⟩
    · rfl
    · rw [g] at g'; cases g'
  · rcases h' with ⟨g', _⟩ | ⟨_, lo', hi', hL', hr'⟩
    · rw [g] at g'; cases g'
    · obtain ⟨g1, g2, g3, g4⟩ := hz_of g
      obtain ⟨g5, g6⟩ := sd_of g1
      obtain ⟨g7, g8, g9, g10⟩ := rt_of g5
      obtain ⟨rfl, rfl⟩ := hL.same (rest_pos a b c d e f) (by omega) hL'
      rcases hr with ⟨h1, rfl⟩ | ⟨h1, rfl⟩ <;> rcases hr' with ⟨h2, rfl⟩ | ⟨h2, rfl⟩ <;> first | rfl | (exfalso; omega)
/-- The shape of what Hertz returns. -/
theorem HzP.shape {N D a b c d e f k : Int} {w w' : World} {en : Ending} (h : HzP N D a b c d e f k w en w') : Below w.heap.size w w' ∧ ∃ x1 x2 x3 x4 E : Int, en = .returned (.tuple #[.agg #[.int .i64 x1, .int .i64 x2, .int .i64 x3, .int .i64 x4], .int .i64 E]) := by
  obtain ⟨hb, ⟨_, rfl⟩ | ⟨_, lo, hi, _, ⟨_, rfl⟩ | ⟨_, rfl⟩⟩⟩ := h
  · exact ⟨hb, _, _, _, _, _, rfl⟩
  · exact ⟨hb, _, _, _, _, _, rfl⟩
  · exact ⟨hb, _, _, _, _, _, rfl⟩
end Go.Proofs.Ythlnfjllkmielaa
