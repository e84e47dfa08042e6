/- TopCircle's arguments that hold slices of vectors: opened; the length of a slice is bounded. -/
import Derived.Test.YtehifkdfbiebfaaDoorK33
import Derived.Deep.Slices
import Derived.OpenShut
import Derived.Laws.Rows
import Derived.Lib.SmallJoins
import Derived.SizedLaws
namespace Go.Proofs.YtehifkdfbiebfaaDoor
open Go Go.RowKit Go.ChangeShapes Go.WideShapes Go.Joins

variable {H : Type} {enc : TypeId × Value → H} {P : Program} {W : World}
theorem spot_none' {w : World} {a : Addr} {v : Value} (h : w.cell? a = some v) : a.spot = none := by
  unfold World.cell? at h
  cases hs : a.spot with
  | none => rfl
  | some s =>
    rw [hs] at h
    split at h <;> simp at h
/-- A slice, as one cell, whose elements have the cells 'f x'. -/
theorem open_rowsC {t e : TypeId} {α : Type} [Inhabited α] (f : α → List Value) (ht : P.underlying t = some (.slice e)) (hc : 0 < P.cellsOf e)
    (hel : ∀ n cs y, cs.length = P.cellsOf e → DataW.trod enc P W 0 (fun _ => true) true n e cs = some y → ∃ x : α, cs = f x) {cs : List Value} {fuel : Nat} {y : DataW H × List MemPlace}
    (hf : DataW.trod enc P W 0 (fun _ => true) true fuel t cs = some y) :
    ∃ (A : Option Addr) (l : List α) (cap : Nat), cs = [.slice A l.length cap] ∧ l.length ≤ 9223372036854775807 ∧
      (0 < l.length → ∃ b off, A = some ⟨b, off, none⟩ ∧ b < W.heap.size ∧ ∀ i x, l[i]? = some x → ∀ j, j < P.cellsOf e → W.cell? ⟨b, off + (i * P.cellsOf e + j), none⟩ = (f x)[j]?) := by
  rcases Go.Deep.open_slice ht hf with ⟨h0, _⟩ | ⟨a', len, cap, m, n, D, Pl, h0, _, hl, hm, hmm, _, hx⟩
  · exact ⟨none, [], 0, h0, by simp, fun h => absurd h (by simp)⟩
  · have hml : len ≤ m := by rw [hmm]; simp; omega
    obtain ⟨F, hF⟩ := Go.Deep.choose_lt (n := len) (p := fun i (x : α) => ∀ j, j < P.cellsOf e → W.cell? ((a'.add (i * P.cellsOf e)).add j) = (f x)[j]? ∧ (f x).length = P.cellsOf e) (fun i hi => by
      obtain ⟨cs, h1, h2⟩ := hx i (by omega)
      obtain ⟨_, hlen, hcell⟩ := World.cells?_some h1
      obtain ⟨x, rfl⟩ := hel _ _ _ hlen h2
      exact ⟨x, fun j hj => ⟨hcell j hj, hlen⟩⟩)
    refine ⟨some a', (List.range len).map F, cap, by simpa using h0, ?_, fun h0 => ?_⟩
    · have : maxLen = 9223372036854775807 := by decide +kernel
      simp
      omega
    · have h0' : 0 < len := by simpa using h0
      have hc0 := hF 0 h0' 0 hc
      rw [Go.Deep.add_add] at hc0
      have hget : ∃ u, W.cell? a' = some u := by
        have h1 := hc0.1
        have e0 : a'.add (0 * P.cellsOf e + 0) = a' := by simp [Addr.add]
        rw [e0] at h1
        exact ⟨_, h1.trans (List.getElem?_eq_getElem (by rw [hc0.2]; exact hc))⟩
      obtain ⟨u, hu⟩ := hget
      have hs := spot_none' hu
      have hlt := block_lt_of_cell hu
      obtain ⟨b, off, sp⟩ := a'
      simp only at hs hlt
      subst hs
      refine ⟨b, off, rfl, hlt, fun i x hx j hj => ?_⟩
      have hi : i < len := by
        have := (List.getElem?_eq_some_iff.1 hx).1
        simpa using this
      have ex : F i = x := by
        rw [List.getElem?_map, List.getElem?_range hi] at hx
        simpa using hx
      have := (hF i hi j hj).1
      rw [ex, Go.Deep.add_add] at this
      rw [← this]
      unfold Addr.add
      by_cases hk : i * P.cellsOf e + j = 0
      · rw [if_pos hk, hk, Nat.add_zero]
      · rw [if_neg hk]
theorem list6 {α : Type} {l : List α} (h : l.length = 6) : ∃ a b c d e f, l = [a, b, c, d, e, f] := by
  match l, h with
  | [a, b, c, d, e, f], _ => exact ⟨a, b, c, d, e, f, rfl⟩
def six (x : Nat → Int) : List Value := [.int .i64 (x 0), .int .i64 (x 1), .int .i64 (x 2), .int .i64 (x 3), .int .i64 (x 4), .int .i64 (x 5)]
/-- Six integers. -/
theorem el_six {t u : TypeId} (ht : P.underlying t = some (.array 6 u)) (hu : P.underlying u = some (.int .i64)) (hc1 : P.cellsOf u = 1) (n : Nat) (cs : List Value) (y : DataW H × List MemPlace) (hl : cs.length = 6) (h : DataW.trod enc P W 0 (fun _ => true) true n t cs = some y) :
    ∃ x : Nat → Int, cs = six x := by
  obtain ⟨c0, c1, c2, c3, c4, c5, rfl⟩ := list6 hl
  obtain ⟨xs, m, _, _, _, hx, hi⟩ := DataW.trod_array ht h
  match xs, hx with
  | [x0, x1, x2, x3, x4, x5], _ =>
  obtain ⟨a, ea, _, wa⟩ := DataW.trod_int (cs := [c0]) (x := x0) hu (by simpa [hc1, Value.cells] using hi 0 (by omega))
  obtain ⟨b, eb, _, wb⟩ := DataW.trod_int (cs := [c1]) (x := x1) hu (by simpa [hc1, Value.cells] using hi 1 (by omega))
  obtain ⟨c, ec, _, wc⟩ := DataW.trod_int (cs := [c2]) (x := x2) hu (by simpa [hc1, Value.cells] using hi 2 (by omega))
  obtain ⟨e, ee, _, we⟩ := DataW.trod_int (cs := [c3]) (x := x3) hu (by simpa [hc1, Value.cells] using hi 3 (by omega))
  obtain ⟨f, ef, _, wf⟩ := DataW.trod_int (cs := [c4]) (x := x4) hu (by simpa [hc1, Value.cells] using hi 4 (by omega))
  obtain ⟨g, eg, _, wg⟩ := DataW.trod_int (cs := [c5]) (x := x5) hu (by simpa [hc1, Value.cells] using hi 5 (by omega))
  simp only [List.cons.injEq, and_true] at ea eb ec ee ef eg
  subst ea eb ec ee ef eg
  exact ⟨fun i => [a, b, c, e, f, g].getD i 0, rfl⟩
theorem vecs_of {e : TypeId} {A : Option Addr} {l : List (Nat → Int)} (hc : P.cellsOf e = 6) (h : 0 < l.length → ∃ b off, A = some ⟨b, off, none⟩ ∧ b < W.heap.size ∧ ∀ i x, l[i]? = some x → ∀ j, j < P.cellsOf e → W.cell? ⟨b, off + (i * P.cellsOf e + j), none⟩ = (six x)[j]?) :
    VecsR W W.heap.size A l.length (fun k => l.getD k (fun _ => 0)) := fun h0 => by
  obtain ⟨b, off, hA, hb, hcl⟩ := h h0
  refine ⟨b, off, hA, hb, fun k hk i hi => ?_⟩
  have e1 : l[k]? = some (l.getD k (fun _ => 0)) := by simp [List.getD, hk]
  have := hcl k _ e1 i (by omega)
  rw [hc, ← Nat.add_assoc] at this
  rw [this]
  rcases (show i = 0 ∨ i = 1 ∨ i = 2 ∨ i = 3 ∨ i = 4 ∨ i = 5 by omega) with rfl | rfl | rfl | rfl | rfl | rfl <;> rfl
theorem array6' {α : Type} {cs : Array α} (h : cs.size = 6) : ∃ c0 c1 c2 c3 c4 c5, cs = #[c0, c1, c2, c3, c4, c5] := by
  obtain ⟨l⟩ := cs
  match l, h with
  | [c0, c1, c2, c3, c4, c5], _ => exact ⟨c0, c1, c2, c3, c4, c5, rfl⟩
theorem okWide_array' {P : Program} {w : World} {r : Reach} {base : Nat} {t e : TypeId} {v : Value} {n : Nat} (ht : P.underlying t = some (.array n e)) (h : Value.okWide P w r base t v) : ∃ cs, v = .agg cs ∧ cs.size = P.cellsOf t := by
  simp only [Value.okWide, ht] at h
  obtain ⟨cs, h1, h2, _⟩ := h
  exact ⟨cs, h1, h2⟩
/-- A vector. -/
theorem open_vecf {P : Program} {t u : TypeId} {r : Reach} {base : Nat} {v : Value} {d : DataW H} {p : List MemPlace} (ht : P.underlying t = some (.array 6 u)) (hu : P.underlying u = some (.int .i64)) (hc : P.cellsOf t = 6) (hc1 : P.cellsOf u = 1) (hv : Value.okWide P W r base t v) (h : DataW.Trod enc P W 0 (fun _ => true) true t v d p) :
    ∃ x : Nat → Int, v = .agg #[.int .i64 (x 0), .int .i64 (x 1), .int .i64 (x 2), .int .i64 (x 3), .int .i64 (x 4), .int .i64 (x 5)] := by
  obtain ⟨cs, rfl, hsz⟩ := okWide_array' ht hv
  obtain ⟨c0, c1, c2, c3, c4, c5, rfl⟩ := array6' (hsz.trans hc)
  obtain ⟨fuel, hf⟩ := h
  obtain ⟨x, hx⟩ := el_six ht hu hc1 fuel _ _ rfl hf
  refine ⟨x, ?_⟩
  unfold six at hx
  simp [Value.cells] at hx
  obtain ⟨rfl, rfl, rfl, rfl, rfl, rfl⟩ := hx
  rfl
/-- A slice of vectors. -/
theorem open_vecs {t e u : TypeId} {r : Reach} {base : Nat} {v : Value} {d : DataW H} {p : List MemPlace} (ht : P.underlying t = some (.slice e)) (he : P.underlying e = some (.array 6 u)) (hu : P.underlying u = some (.int .i64)) (hc : P.cellsOf e = 6) (hc1 : P.cellsOf u = 1) (hv : Value.okWide P W r base t v) (h : DataW.Trod enc P W 0 (fun _ => true) true t v d p) :
    ∃ (A : Option Addr) (l : List (Nat → Int)) (cap : Nat), v = .slice A l.length cap ∧ l.length ≤ 9223372036854775807 ∧ VecsR W W.heap.size A l.length (fun k => l.getD k (fun _ => 0)) := by
  obtain ⟨a, len, cap, rfl⟩ := okWide_slice ht hv
  obtain ⟨fuel, hf⟩ := h
  obtain ⟨A, l, cap', h1, hl, hr⟩ := open_rowsC (α := Nat → Int) six ht (by rw [hc]; decide) (fun n cs y hl h => el_six he hu hc1 n cs y (hl.trans hc) h) hf
  simp only [Value.cells, List.cons.injEq, and_true] at h1
  exact ⟨A, l, cap', h1, hl, vecs_of hc hr⟩
theorem slice_sized {t e : TypeId} {a : Option Addr} {len cap : Nat} {d : DataW H} {p : List MemPlace} {ts : List TypeId} {ds : List (DataW H)} (ht : P.underlying t = some (.slice e))
    (h : DataW.Trod enc P W 0 (fun _ => true) true t (.slice a len cap) d p) (hs : (DataW.weightsEach P ts ds).all (· ≤ reachBytes) = true) {j : Nat} (hj : ts[j]? = some t) (hd : ds[j]? = some d) : len * P.bytesOf e ≤ reachBytes := by
  obtain ⟨fuel, hf⟩ := h
  rcases Go.Deep.open_slice ht hf with ⟨h0, _⟩ | ⟨a', len', cap', m, n, D, Pl, h0, _, hl, _, _, hx, _⟩
  · simp [Value.cells] at h0
    obtain ⟨_, rfl, _⟩ := h0
    simp
  · simp [Value.cells] at h0
    obtain ⟨rfl, rfl, rfl⟩ := h0
    have hd' := congrArg Prod.fst hx
    simp only at hd'
    subst hd'
    have := sized_slice hs hj hd ht
    refine Nat.le_trans (Nat.mul_le_mul_right _ ?_) this
    simp
end Go.Proofs.YtehifkdfbiebfaaDoor
