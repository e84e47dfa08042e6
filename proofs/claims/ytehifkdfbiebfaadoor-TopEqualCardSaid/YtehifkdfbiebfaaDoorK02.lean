/- A struct or an array moved whole: the two operations, by a fact on what they run to. -/
import Derived.Test.YtehifkdfbiebfaaDoorK00
import Derived.Laws.Tables
import Derived.Laws.Rows
import Derived.Laws.CopyOwn
namespace Go.Proofs.YtehifkdfbiebfaaDoor
open Go Go.RowKit

theorem loadAt_whole {P : Program} {w : World} {g : Nat} {t ty : TypeId} {cs : Array Value} {d : TypeDesc} (h : Blk w g t cs) (hu : P.underlying ty = some d) (hd : (match d with | .struct _ | .array _ _ => true | _ => false) = true) (hi : (P.info? ty).map (·.size) = some cs.size) :
    (Instr.loadAt ty (.pointer (some ⟨g, 0, none⟩))).run P w = .ok (.agg cs) w := by
  simp only [Instr.loadAt, Instr.sureAddr, Sem.run_bind, Sem.run_pure, Result.andThen]
  exact run_loadVar_row w g t ty cs (0, 0) d h hu hd hi
theorem storeAt_whole {P : Program} {w : World} {g : Nat} {t ty : TypeId} {old cs : Array Value} (h : Blk w g t old) (hi : (P.info? ty).map (·.size) = some cs.size) (ho : old.size = cs.size) (h1 : cs.all (·.oneCell') = true) :
    (Instr.storeAt ty (.pointer (some ⟨g, 0, none⟩)) (.agg cs)).run P w = .ok () (w.setRow g cs) := by
  simp only [Instr.storeAt, Instr.sureAddr, Sem.run_bind, Sem.run_pure, Result.andThen]
  exact run_storeVar_row w g t ty old cs h hi ho h1
theorem storeCells_whole {P : Program} {w : World} {g : Nat} {t : TypeId} {old cs : Array Value} (h : Blk w g t old) (ho : old.size = cs.size) (h1 : cs.all (·.oneCell') = true) :
    (storeCells ⟨g, 0, none⟩ cs.toList 0).run P w = .ok () (w.setRow g cs) := by
  have := run_storeCells_from (P := P) g t cs.toList 0 old w h (by simp; omega) (fun v hv => (Array.all_eq_true_iff_forall_mem.1 h1) v (by simpa using hv))
  rw [this]
  simp
theorem wp_load_whole {P : Program} {o : Oper} {t : TypeId} {x : Operand} {a : Act} {w : World} {K : Act → World → Prop} {Q : Exit → Act → World → Prop} {p v : Value} (ho : o.op = .load t x) (hx : a.eval x = p) (h : (Instr.loadAt t p).run P w = .ok v w) (k : K (a.put o.dst v) w) : o.wp P a w K Q := by
  have e : (execOp a.eval o).run P w = .ok (.value v) w := by
    unfold execOp
    rw [ho]
    simp only [hx, Sem.run_bind, h, Result.andThen, Sem.run_pure]
  show o.upon P a K Q ((execOp a.eval o).run P w)
  rw [e]
  exact k
theorem wp_store_whole {P : Program} {o : Oper} {t : TypeId} {x y : Operand} {a : Act} {w w' : World} {K : Act → World → Prop} {Q : Exit → Act → World → Prop} {p v : Value} (ho : o.op = .store t x y) (hx : a.eval x = p) (hy : a.eval y = v) (h : (Instr.storeAt t p v).run P w = .ok () w') (k : K (a.put o.dst undef) w') : o.wp P a w K Q := by
  have e : (execOp a.eval o).run P w = .ok .skip w' := by
    unfold execOp
    rw [ho]
    simp only [hx, hy, Sem.run_bind, h, Result.andThen, Sem.run_pure]
  show o.upon P a K Q ((execOp a.eval o).run P w)
  rw [e]
  exact k
theorem setRow_blk {w : World} {g : Nat} {t : TypeId} {old cs : Array Value} (h : Blk w g t old) : Blk (w.setRow g cs) g t cs := setRow_heap w g old cs t (0, 0) h
theorem results_whole {P : Program} {fn : Func} {tmps : Array Value} {w : World} {c : Nat} {ty t : TypeId} {g : Nat} {cs : Array Value} {d : TypeDesc} (hr : fn.results = #[.cell c ty]) (hc : tmps.getD c undef = .pointer (some ⟨g, 0, none⟩)) (h : Blk w g t cs)
    (hu : P.underlying ty = some d) (hd : (match d with | .struct _ | .array _ _ => true | _ => false) = true) (hi : (P.info? ty).map (·.size) = some cs.size) : (results fn tmps).run P w = .ok (.agg cs) w := by
  have hv := run_loadVar_row (P := P) w g t ty cs (0, 0) d h hu hd hi
  unfold results
  rw [hr]
  have hm : ∀ (f : ResultVar → Sem Value), (#[ResultVar.cell c ty].mapM f) = (do let v ← f (.cell c ty); pure #[v]) := fun f => by simp
  rw [hm]
  simp only [hc, asAddr, Sem.run_bind, Sem.run_pure, Result.andThen, hv]
  rfl
end Go.Proofs.YtehifkdfbiebfaaDoor
