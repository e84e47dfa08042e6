/- The laws' arguments that are bands, vectors and pitches: opened. -/
import Derived.Test.YtgbiiaaeabflnaaDoorRatA
import Derived.OpenShut
import Derived.Lib.SmallJoins
namespace Go.Proofs.YtgbiiaaeabflnaaDoor
open Go.RowKit Go.ChangeShapes Go.WideShapes Go.Joins

variable {H : Type} {enc : TypeId × Value → H} {W : World}
theorem array6 {α : Type} {cs : Array α} (h : cs.size = 6) : ∃ c0 c1 c2 c3 c4 c5, cs = #[c0, c1, c2, c3, c4, c5] := by
  obtain ⟨l⟩ := cs
  match l, h with
  | [c0, c1, c2, c3, c4, c5], _ => exact ⟨c0, c1, c2, c3, c4, c5, rfl⟩
theorem okWide_array {P : Program} {w : World} {r : Reach} {base : Nat} {t e : TypeId} {v : Value} {n : Nat} (ht : P.underlying t = some (.array n e)) (h : Value.okWide P w r base t v) : ∃ cs, v = .agg cs ∧ cs.size = P.cellsOf t := by
  simp only [Value.okWide, ht] at h
  obtain ⟨cs, h1, h2, _⟩ := h
  exact ⟨cs, h1, h2⟩
/-- Six integers. -/
theorem open_six {P : Program} {t u : TypeId} {r : Reach} {base : Nat} {v : Value} {d : DataW H} {p : List MemPlace} (ht : P.underlying t = some (.array 6 u)) (hu : P.underlying u = some (.int .i64)) (hc : P.cellsOf t = 6) (hc1 : P.cellsOf u = 1) (hv : Value.okWide P W r base t v) (h : DataW.Trod enc P W 0 (fun _ => true) true t v d p) :
    ∃ a b c e f g : Int, v = .agg #[.int .i64 a, .int .i64 b, .int .i64 c, .int .i64 e, .int .i64 f, .int .i64 g] ∧ (Lit.int .i64 a).wf = true ∧ (Lit.int .i64 b).wf = true ∧ (Lit.int .i64 c).wf = true ∧ (Lit.int .i64 e).wf = true ∧ (Lit.int .i64 f).wf = true ∧ (Lit.int .i64 g).wf = true := by
  obtain ⟨cs, rfl, hsz⟩ := okWide_array ht hv
  obtain ⟨c0, c1, c2, c3, c4, c5, rfl⟩ := array6 (hsz.trans hc)
  obtain ⟨fuel, hf⟩ := h
  obtain ⟨xs, m, _, _, _, hx, hi⟩ := DataW.trod_array ht hf
  match xs, hx with
  | [x0, x1, x2, x3, x4, x5], _ =>
  obtain ⟨a, ea, _, wa⟩ := DataW.trod_int (cs := [c0]) (x := x0) hu (by simpa [hc1, Value.cells] using hi 0 (by omega))
  obtain ⟨b, eb, _, wb⟩ := DataW.trod_int (cs := [c1]) (x := x1) hu (by simpa [hc1, Value.cells] using hi 1 (by omega))
  obtain ⟨c, ec, _, wc⟩ := DataW.trod_int (cs := [c2]) (x := x2) hu (by simpa [hc1, Value.cells] using hi 2 (by omega))
  obtain ⟨e, ee, _, we⟩ := DataW.trod_int (cs := [c3]) (x := x3) hu (by simpa [hc1, Value.cells] using hi 3 (by omega))
  obtain ⟨f, ef, _, wf⟩ := DataW.trod_int (cs := [c4]) (x := x4) hu (by simpa [hc1, Value.cells] using hi 4 (by omega))
  obtain ⟨g, eg, _, wg⟩ := DataW.trod_int (cs := [c5]) (x := x5) hu (by simpa [hc1, Value.cells] using hi 5 (by omega))
  simp only [List.cons.injEq, and_true] at ea eb ec ee ef eg
  subst ea eb ec ee ef eg
  exact ⟨a, b, c, e, f, g, rfl, wa, wb, wc, we, wf, wg⟩
end Go.Proofs.YtgbiiaaeabflnaaDoor
