/- The laws' arguments that are bands, vectors and pitches: opened. -/
import Derived.Test.YthlnfjllkmielaaRatA
import Derived.OpenShut
import Derived.Lib.SmallJoins
namespace Go.Proofs.Ythlnfjllkmielaa
open Go.RowKit Go.ChangeShapes Go.WideShapes Go.Joins

variable {H : Type} {enc : TypeId × Value → H} {W : World}
set_option maxRecDepth 100000 in
theorem open_band {r : Reach} {base : Nat} {v : Value} {d : DataW H} {p : List MemPlace} (hv : Value.okWide Try.prog W r base 27 v) (h : DataW.Trod enc Try.prog W 0 (fun _ => true) true 27 v d p) :
    ∃ a b c e : Int, v = .agg #[.int .i64 a, .int .i64 b, .int .i64 c, .int .i64 e] ∧ (Lit.int .i64 a).wf = true ∧ (Lit.int .i64 b).wf = true ∧ (Lit.int .i64 c).wf = true ∧ (Lit.int .i64 e).wf = true := by
  obtain ⟨cs, rfl, hsz⟩ := okWide_struct Try.underlying27 hv
  obtain ⟨c0, c1, c2, c3, rfl⟩ := array4 (hsz.trans (show Try.prog.cellsOf 27 = 4 by kernel_rfl))
  obtain ⟨fuel, hf⟩ := h
  obtain ⟨y0, y1, n, _, _, h0, h1⟩ := trod_struct2 Try.underlying27 hf
  have e0 : Try.prog.cellsOf 23 = 2 := by kernel_rfl
  have e1 : Try.prog.cellsOf 3 = 1 := by kernel_rfl
  have h0' : DataW.trod enc Try.prog W 0 (fun _ => true) true n 23 [c0, c1] = some y0 := by simpa [Value.cells, e0] using h0
  have h1' : DataW.trod enc Try.prog W 0 (fun _ => true) true n 23 [c2, c3] = some y1 := by simpa [Value.cells, e0] using h1
  obtain ⟨z0, z1, m, _, _, g0, g1⟩ := trod_struct2 Try.underlying23 h0'
  obtain ⟨z2, z3, m', _, _, g2, g3⟩ := trod_struct2 Try.underlying23 h1'
  obtain ⟨a, ea, _, wa⟩ := DataW.trod_int Try.underlying3 (cs := [c0]) (by simpa [e1] using g0)
  obtain ⟨b, eb, _, wb⟩ := DataW.trod_int Try.underlying3 (cs := [c1]) (by simpa [e1] using g1)
  obtain ⟨c, ec, _, wc⟩ := DataW.trod_int Try.underlying3 (cs := [c2]) (by simpa [e1] using g2)
  obtain ⟨e, ee, _, we⟩ := DataW.trod_int Try.underlying3 (cs := [c3]) (by simpa [e1] using g3)
  simp only [List.cons.injEq, and_true] at ea eb ec ee
  subst ea eb ec ee
  exact ⟨a, b, c, e, rfl, wa, wb, wc, we⟩
theorem array6 {α : Type} {cs : Array α} (h : cs.size = 6) : ∃ c0 c1 c2 c3 c4 c5, cs = #[c0, c1, c2, c3, c4, c5] := by
  obtain ⟨l⟩ := cs
  match l, h with
  | [c0, c1, c2, c3, c4, c5], _ => exact ⟨c0, c1, c2, c3, c4, c5, rfl⟩
theorem okWide_array {P : Program} {w : World} {r : Reach} {base : Nat} {t e : TypeId} {v : Value} {n : Nat} (ht : P.underlying t = some (.array n e)) (h : Value.okWide P w r base t v) : ∃ cs, v = .agg cs ∧ cs.size = P.cellsOf t := by
  simp only [Value.okWide, ht] at h
  obtain ⟨cs, h1, h2, _⟩ := h
  exact ⟨cs, h1, h2⟩
/-- Six integers. -/
theorem open_six {P : Program} {t u : TypeId} {r : Reach} {base : Nat} {v : Value} {d : DataW H} {p : List MemPlace} (ht : P.underlying t = some (.array 6 u)) (hu : P.underlying u = some (.int .i64)) (hc : P.cellsOf t = 6) (hc1 : P.cellsOf u = 1) (hv : Value.okWide P W r base t v) (h : DataW.Trod enc P W 0 (fun _ => true) true t v d p) :
    ∃ a b c e f g : Int, v = .agg #[.int .i64 a, .int .i64 b, .int .i64 c, .int .i64 e, .int .i64 f, .int .i64 g] ∧ (Lit.int .i64 a).wf = true ∧ (Lit.int .i64 b).wf = true ∧ (Lit.int .i64 c).wf = true ∧ (Lit.int .i64 e).wf = true ∧ (Lit.int .i64 f).wf = true ∧ (Lit.int .i64 g).wf = true := by
  obtain ⟨cs, rfl, hsz⟩ := okWide_array ht hv
  obtain ⟨c0, c1, c2, c3, c4, c5, rfl⟩ := array6 (hsz.trans hc)
  obtain ⟨fuel, hf⟩ := h
  obtain ⟨xs, m, _, _, _, hx, hi⟩ := DataW.trod_array ht hf
  match xs, hx with
  | [x0, x1, x2, x3, x4, x5], _ =>
  obtain ⟨a, ea, _, wa⟩ := DataW.trod_int (cs := [c0]) (x := x0) hu (by simpa [hc1, Value.cells] using hi 0 (by omega))
  obtain ⟨b, eb, _, wb⟩ := DataW.trod_int (cs := [c1]) (x := x1) hu (by simpa [hc1, Value.cells] using hi 1 (by omega))
  obtain ⟨c, ec, _, wc⟩ := DataW.trod_int (cs := [c2]) (x := x2) hu (by simpa [hc1, Value.cells] using hi 2 (by omega))
  obtain ⟨e, ee, _, we⟩ := DataW.trod_int (cs := [c3]) (x := x3) hu (by simpa [hc1, Value.cells] using hi 3 (by omega))
  obtain ⟨f, ef, _, wf⟩ := DataW.trod_int (cs := [c4]) (x := x4) hu (by simpa [hc1, Value.cells] using hi 4 (by omega))
  obtain ⟨g, eg, _, wg⟩ := DataW.trod_int (cs := [c5]) (x := x5) hu (by simpa [hc1, Value.cells] using hi 5 (by omega))
  simp only [List.cons.injEq, and_true] at ea eb ec ee ef eg
  subst ea eb ec ee ef eg
  exact ⟨a, b, c, e, f, g, rfl, wa, wb, wc, we, wf, wg⟩
end Go.Proofs.Ythlnfjllkmielaa
