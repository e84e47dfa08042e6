/- Pitch: '==' of pitches and intervals. -/
import Derived.Test.YtgbiiaaeabflnaaDoorPitA
import Derived.Laws.StructEq
namespace Go.Proofs.YtgbiiaaeabflnaaDoor
open Go Go.RowKit

theorem eq6_run (t : TypeId) (h : Tryd.prog.underlying t = some (.array 6 3)) (a b c d e f x y z p q r : Int) (w : World) :
    (Op.equalIn 10000 t (.agg #[.int .i64 a, .int .i64 b, .int .i64 c, .int .i64 d, .int .i64 e, .int .i64 f]) (.agg #[.int .i64 x, .int .i64 y, .int .i64 z, .int .i64 p, .int .i64 q, .int .i64 r])).run Tryd.prog w = .ok (a == x && (b == y && (c == z && (d == p && (e == q && f == r))))) w := by
  have hI := Tryd.underlying3
  rw [show (10000 : Nat) = 9999 + 1 from rfl, Op.equalIn]
  simp only [Sem.run_bind, run_underlying h, Result.andThen_ok]
  simp only [Std.Legacy.Range.forIn_eq_forIn_range', Std.Legacy.Range.size, Nat.sub_zero, Nat.add_sub_cancel, Nat.div_one, List.range'_succ, List.range'_zero, List.forIn_cons, List.forIn_nil]
  go_simp
  by_cases h1 : a = x
  · by_cases h2 : b = y
    · by_cases h3 : c = z
      · by_cases h4 : d = p
        · by_cases h5 : e = q
          · by_cases h6 : f = r
            · simp [h1, h2, h3, h4, h5, h6]
            · simp [h1, h2, h3, h4, h5, h6]
          · simp [h1, h2, h3, h4, h5]
        · simp [h1, h2, h3, h4]
      · simp [h1, h2, h3]
    · simp [h1, h2]
  · simp [h1]
@[go_sem] theorem eq6_vec (a b c d e f x y z p q r : Int) (w : World) :
    (Op.equalIn 10000 38 (.agg #[.int .i64 a, .int .i64 b, .int .i64 c, .int .i64 d, .int .i64 e, .int .i64 f]) (.agg #[.int .i64 x, .int .i64 y, .int .i64 z, .int .i64 p, .int .i64 q, .int .i64 r])).run Tryd.prog w = .ok (a == x && (b == y && (c == z && (d == p && (e == q && f == r))))) w :=
  eq6_run _ Tryd.underlying38 a b c d e f x y z p q r w
@[go_sem] theorem eq6_pitch (a b c d e f x y z p q r : Int) (w : World) :
    (Op.equalIn 10000 23 (.agg #[.int .i64 a, .int .i64 b, .int .i64 c, .int .i64 d, .int .i64 e, .int .i64 f]) (.agg #[.int .i64 x, .int .i64 y, .int .i64 z, .int .i64 p, .int .i64 q, .int .i64 r])).run Tryd.prog w = .ok (a == x && (b == y && (c == z && (d == p && (e == q && f == r))))) w :=
  eq6_run _ Tryd.underlying23 a b c d e f x y z p q r w
@[go_sem] theorem eg6_vec (op : BinOp) (x y : Operand) (xs ys : Array Value) (w : World) : (eqGuard op 38 x y (.agg xs) (.agg ys)).run Tryd.prog w = .ok () w := run_eqGuard_agg w op _ x y xs ys (by kernel_rfl)
@[go_sem] theorem eg6_pitch (op : BinOp) (x y : Operand) (xs ys : Array Value) (w : World) : (eqGuard op 23 x y (.agg xs) (.agg ys)).run Tryd.prog w = .ok () w := run_eqGuard_agg w op _ x y xs ys (by kernel_rfl)
end Go.Proofs.YtgbiiaaeabflnaaDoor
