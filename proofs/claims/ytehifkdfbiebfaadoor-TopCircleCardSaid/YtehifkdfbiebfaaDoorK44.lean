/- A drawn region's operation that builds a struct: by a closed fact. -/
import Derived.Test.YtehifkdfbiebfaaDoorK35
import Derived.Laws.Tables
namespace Go.Proofs.YtehifkdfbiebfaaDoor
open Go Go.RowKit

theorem quiet_build {P : Program} {C : World → Prop} {X : World} {e : Operand → Value} {o : Oper} {t : TypeId} {parts : Array (Nat × Operand)} {pv : Array (Nat × Value)} {cells : Array Value}
    (ho : o.op = .build t parts) (hp : parts.map (fun p => (p.1, e p.2)) = pv) (hb : P.built t pv.toList = some cells) : Oper.quietUpon P C X (.agg cells) ((execOp e o).run P X) := by
  have h : (execOp e o).run P X = .ok (.value (.agg cells)) X := by
    unfold execOp
    rw [ho]
    have := run_build (P := P) X t pv cells hb
    rw [← hp] at this
    simp only [Sem.run_bind, this, Result.andThen, Sem.run_pure]
  rw [h]
  exact ⟨rfl, rfl⟩
theorem built_band (a b c d : Int) : Tryd.prog.built 68 [(0, .agg #[.int .i64 a, .int .i64 b]), (1, .agg #[.int .i64 c, .int .i64 d])] = some #[.int .i64 a, .int .i64 b, .int .i64 c, .int .i64 d] := by kernel_rfl
theorem built_rd (a b c d : Int) : Tryd.prog.built 41 [(0, .int .i64 a), (1, .int .i64 b), (2, .int .i64 c), (3, .int .i64 d)] = some #[.int .i64 a, .int .i64 b, .int .i64 c, .int .i64 d] := by kernel_rfl
end Go.Proofs.YtehifkdfbiebfaaDoor
