/- The laws' arguments that hold slices of vectors: opened. -/
import Derived.Test.YtehifkdfbiebfaaDoorK25
import Derived.Deep.Slices
import Derived.OpenShut
import Derived.Laws.Rows
import Derived.Lib.SmallJoins
namespace Go.Proofs.YtehifkdfbiebfaaDoor
open Go Go.RowKit Go.ChangeShapes Go.WideShapes Go.Joins

variable {H : Type} {enc : TypeId × Value → H} {P : Program} {W : World}
theorem spot_none' {w : World} {a : Addr} {v : Value} (h : w.cell? a = some v) : a.spot = none := by
  unfold World.cell? at h
  cases hs : a.spot with
  | none => rfl
  | some s =>
    rw [hs] at h
    split at h <;> simp at h
/-- A slice, as one cell, whose elements have the cells 'f x'. -/
theorem open_rowsC {t e : TypeId} {α : Type} [Inhabited α] (f : α → List Value) (ht : P.underlying t = some (.slice e)) (hc : 0 < P.cellsOf e)
    (hel : ∀ n cs y, cs.length = P.cellsOf e → DataW.trod enc P W 0 (fun _ => true) true n e cs = some y → ∃ x : α, cs = f x) {cs : List Value} {fuel : Nat} {y : DataW H × List MemPlace}
    (hf : DataW.trod enc P W 0 (fun _ => true) true fuel t cs = some y) :
    ∃ (A : Option Addr) (l : List α) (cap : Nat), cs = [.slice A l.length cap] ∧ l.length ≤ 9223372036854775807 ∧
      (0 < l.length → ∃ b off, A = some ⟨b, off, none⟩ ∧ b < W.heap.size ∧ ∀ i x, l[i]? = some x → ∀ j, j < P.cellsOf e → W.cell? ⟨b, off + (i * P.cellsOf e + j), none⟩ = (f x)[j]?) := by
  rcases Go.Deep.open_slice ht hf with ⟨h0, _⟩ | ⟨a', len, cap, m, n, D, Pl, h0, _, hl, hm, hmm, _, hx⟩
  · exact ⟨none, [], 0, h0, by simp, fun h => absurd h (by simp)⟩
  · have hml : len ≤ m := by rw [hmm]; simp; omega
    obtain ⟨F, hF⟩ := Go.Deep.choose_lt (n := len) (p := fun i (x : α) => ∀ j, j < P.cellsOf e → W.cell? ((a'.add (i * P.cellsOf e)).add j) = (f x)[j]? ∧ (f x).length = P.cellsOf e) (fun i hi => by
      obtain ⟨cs, h1, h2⟩ := hx i (by omega)
      obtain ⟨_, hlen, hcell⟩ := World.cells?_some h1
      obtain ⟨x, rfl⟩ := hel _ _ _ hlen h2
      exact ⟨x, fun j hj => ⟨hcell j hj, hlen⟩⟩)
    refine ⟨some a', (List.range len).map F, cap, by simpa using h0, ?_, fun h0 => ?_⟩
    · have : maxLen = 9223372036854775807 := by decide +kernel
      simp
      omega
    · have h0' : 0 < len := by simpa using h0
      have hc0 := hF 0 h0' 0 hc
      rw [Go.Deep.add_add] at hc0
      have hget : ∃ u, W.cell? a' = some u := by
        have h1 := hc0.1
        have e0 : a'.add (0 * P.cellsOf e + 0) = a' := by simp [Addr.add]
        rw [e0] at h1
        exact ⟨_, h1.trans (List.getElem?_eq_getElem (by rw [hc0.2]; exact hc))⟩
      obtain ⟨u, hu⟩ := hget
      have hs := spot_none' hu
      have hlt := block_lt_of_cell hu
      obtain ⟨b, off, sp⟩ := a'
      simp only at hs hlt
      subst hs
      refine ⟨b, off, rfl, hlt, fun i x hx j hj => ?_⟩
      have hi : i < len := by
        have := (List.getElem?_eq_some_iff.1 hx).1
        simpa using this
      have ex : F i = x := by
        rw [List.getElem?_map, List.getElem?_range hi] at hx
        simpa using hx
      have := (hF i hi j hj).1
      rw [ex, Go.Deep.add_add] at this
      rw [← this]
      unfold Addr.add
      by_cases hk : i * P.cellsOf e + j = 0
      · rw [if_pos hk, hk, Nat.add_zero]
      · rw [if_neg hk]
theorem list6 {α : Type} {l : List α} (h : l.length = 6) : ∃ a b c d e f, l = [a, b, c, d, e, f] := by
  match l, h with
  | [a, b, c, d, e, f], _ => exact ⟨a, b, c, d, e, f, rfl⟩
def six (x : Nat → Int) : List Value := [.int .i64 (x 0), .int .i64 (x 1), .int .i64 (x 2), .int .i64 (x 3), .int .i64 (x 4), .int .i64 (x 5)]
/-- Six integers. -/
theorem el_six {t u : TypeId} (ht : P.underlying t = some (.array 6 u)) (hu : P.underlying u = some (.int .i64)) (hc1 : P.cellsOf u = 1) (n : Nat) (cs : List Value) (y : DataW H × List MemPlace) (hl : cs.length = 6) (h : DataW.trod enc P W 0 (fun _ => true) true n t cs = some y) :
    ∃ x : Nat → Int, cs = six x := by
  obtain ⟨c0, c1, c2, c3, c4, c5, rfl⟩ := list6 hl
  obtain ⟨xs, m, _, _, _, hx, hi⟩ := DataW.trod_array ht h
  match xs, hx with
  | [x0, x1, x2, x3, x4, x5], _ =>
  obtain ⟨a, ea, _, wa⟩ := DataW.trod_int (cs := [c0]) (x := x0) hu (by simpa [hc1, Value.cells] using hi 0 (by omega))
  obtain ⟨b, eb, _, wb⟩ := DataW.trod_int (cs := [c1]) (x := x1) hu (by simpa [hc1, Value.cells] using hi 1 (by omega))
  obtain ⟨c, ec, _, wc⟩ := DataW.trod_int (cs := [c2]) (x := x2) hu (by simpa [hc1, Value.cells] using hi 2 (by omega))
  obtain ⟨e, ee, _, we⟩ := DataW.trod_int (cs := [c3]) (x := x3) hu (by simpa [hc1, Value.cells] using hi 3 (by omega))
  obtain ⟨f, ef, _, wf⟩ := DataW.trod_int (cs := [c4]) (x := x4) hu (by simpa [hc1, Value.cells] using hi 4 (by omega))
  obtain ⟨g, eg, _, wg⟩ := DataW.trod_int (cs := [c5]) (x := x5) hu (by simpa [hc1, Value.cells] using hi 5 (by omega))
  simp only [List.cons.injEq, and_true] at ea eb ec ee ef eg
  subst ea eb ec ee ef eg
  exact ⟨fun i => [a, b, c, e, f, g].getD i 0, rfl⟩
theorem vecs_of {e : TypeId} {A : Option Addr} {l : List (Nat → Int)} (hc : P.cellsOf e = 6) (h : 0 < l.length → ∃ b off, A = some ⟨b, off, none⟩ ∧ b < W.heap.size ∧ ∀ i x, l[i]? = some x → ∀ j, j < P.cellsOf e → W.cell? ⟨b, off + (i * P.cellsOf e + j), none⟩ = (six x)[j]?) :
    VecsR W W.heap.size A l.length (fun k => l.getD k (fun _ => 0)) := fun h0 => by
  obtain ⟨b, off, hA, hb, hcl⟩ := h h0
  refine ⟨b, off, hA, hb, fun k hk i hi => ?_⟩
  have e1 : l[k]? = some (l.getD k (fun _ => 0)) := by simp [List.getD, hk]
  have := hcl k _ e1 i (by omega)
  rw [hc, ← Nat.add_assoc] at this
  rw [this]
  rcases (show i = 0 ∨ i = 1 ∨ i = 2 ∨ i = 3 ∨ i = 4 ∨ i = 5 by omega) with rfl | rfl | rfl | rfl | rfl | rfl <;> rfl
theorem cells_pitch6 : Tryd.prog.cellsOf 72 = 6 := by kernel_rfl
theorem cells_int1 : Tryd.prog.cellsOf 3 = 1 := by kernel_rfl
theorem cells_sl1 : Tryd.prog.cellsOf 73 = 1 := by kernel_rfl
theorem cells_horn : Tryd.prog.cellsOf 75 = 9 := by kernel_rfl
theorem array9 {α : Type} {cs : Array α} (h : cs.size = 9) : ∃ c0 c1 c2 c3 c4 c5 c6 c7 c8, cs = #[c0, c1, c2, c3, c4, c5, c6, c7, c8] := by
  obtain ⟨l⟩ := cs
  match l, h with
  | [c0, c1, c2, c3, c4, c5, c6, c7, c8], _ => exact ⟨c0, c1, c2, c3, c4, c5, c6, c7, c8, rfl⟩
theorem array6' {α : Type} {cs : Array α} (h : cs.size = 6) : ∃ c0 c1 c2 c3 c4 c5, cs = #[c0, c1, c2, c3, c4, c5] := by
  obtain ⟨l⟩ := cs
  match l, h with
  | [c0, c1, c2, c3, c4, c5], _ => exact ⟨c0, c1, c2, c3, c4, c5, rfl⟩
theorem okWide_array' {P : Program} {w : World} {r : Reach} {base : Nat} {t e : TypeId} {v : Value} {n : Nat} (ht : P.underlying t = some (.array n e)) (h : Value.okWide P w r base t v) : ∃ cs, v = .agg cs ∧ cs.size = P.cellsOf t := by
  simp only [Value.okWide, ht] at h
  obtain ⟨cs, h1, h2, _⟩ := h
  exact ⟨cs, h1, h2⟩
/-- A vector. -/
theorem open_vecf {P : Program} {t u : TypeId} {r : Reach} {base : Nat} {v : Value} {d : DataW H} {p : List MemPlace} (ht : P.underlying t = some (.array 6 u)) (hu : P.underlying u = some (.int .i64)) (hc : P.cellsOf t = 6) (hc1 : P.cellsOf u = 1) (hv : Value.okWide P W r base t v) (h : DataW.Trod enc P W 0 (fun _ => true) true t v d p) :
    ∃ x : Nat → Int, v = .agg #[.int .i64 (x 0), .int .i64 (x 1), .int .i64 (x 2), .int .i64 (x 3), .int .i64 (x 4), .int .i64 (x 5)] := by
  obtain ⟨cs, rfl, hsz⟩ := okWide_array' ht hv
  obtain ⟨c0, c1, c2, c3, c4, c5, rfl⟩ := array6' (hsz.trans hc)
  obtain ⟨fuel, hf⟩ := h
  obtain ⟨x, hx⟩ := el_six ht hu hc1 fuel _ _ rfl hf
  refine ⟨x, ?_⟩
  unfold six at hx
  simp [Value.cells] at hx
  obtain ⟨rfl, rfl, rfl, rfl, rfl, rfl⟩ := hx
  rfl
set_option maxRecDepth 100000 in
/-- A horn. -/
theorem open_horn {r : Reach} {base : Nat} {v : Value} {d : DataW H} {p : List MemPlace} (hv : Value.okWide Tryd.prog W r base 75 v) (h : DataW.Trod enc Tryd.prog W 0 (fun _ => true) true 75 v d p) :
    ∃ (bs : Nat → Int) (A : Option Addr) (n cap : Nat) (g : Nat → Nat → Int) (mo tl : Int), v = .agg #[.int .i64 (bs 0), .int .i64 (bs 1), .int .i64 (bs 2), .int .i64 (bs 3), .int .i64 (bs 4), .int .i64 (bs 5), .slice A n cap, .int .i64 mo, .int .i64 tl] ∧ n ≤ 9223372036854775807 ∧ VecsR W W.heap.size A n g := by
  obtain ⟨cs, rfl, hsz⟩ := okWide_struct Tryd.underlying75 hv
  obtain ⟨c0, c1, c2, c3, c4, c5, c6, c7, c8, rfl⟩ := array9 (hsz.trans cells_horn)
  obtain ⟨fuel, hf⟩ := h
  obtain ⟨xs, n, _, _, _, hx, hf⟩ := DataW.trod_struct Tryd.underlying75 hf
  have hx4 : xs.length = 4 := hx
  have get : ∀ i (hi : i < xs.length), xs[i]? = some xs[i] := fun i hi => List.getElem?_eq_getElem hi
  have g0 : DataW.trod enc Tryd.prog W 0 (fun _ => true) true n 72 (([c0, c1, c2, c3, c4, c5, c6, c7, c8].drop 0).take (Tryd.prog.cellsOf 72)) = some (xs[0]'(by omega)) := (hf 0 _ rfl).trans (get 0 (by omega))
  have g1 : DataW.trod enc Tryd.prog W 0 (fun _ => true) true n 73 (([c0, c1, c2, c3, c4, c5, c6, c7, c8].drop 6).take (Tryd.prog.cellsOf 73)) = some (xs[1]'(by omega)) := (hf 1 _ rfl).trans (get 1 (by omega))
  have g2 : DataW.trod enc Tryd.prog W 0 (fun _ => true) true n 3 (([c0, c1, c2, c3, c4, c5, c6, c7, c8].drop 7).take (Tryd.prog.cellsOf 3)) = some (xs[2]'(by omega)) := (hf 2 _ rfl).trans (get 2 (by omega))
  have g3 : DataW.trod enc Tryd.prog W 0 (fun _ => true) true n 3 (([c0, c1, c2, c3, c4, c5, c6, c7, c8].drop 8).take (Tryd.prog.cellsOf 3)) = some (xs[3]'(by omega)) := (hf 3 _ rfl).trans (get 3 (by omega))
  simp only [cells_int1, cells_pitch6, cells_sl1, List.drop_succ_cons, List.drop_zero, List.take_succ_cons, List.take_zero] at g0 g1 g2 g3
  obtain ⟨x, hx0⟩ := el_six Tryd.underlying72 Tryd.underlying3 cells_int1 n _ _ rfl g0
  obtain ⟨A, l, cap, h1, hl, hr⟩ := open_rowsC (α := Nat → Int) six Tryd.underlying73 (by rw [cells_pitch6]; decide) (fun n cs y hl h => el_six Tryd.underlying72 Tryd.underlying3 cells_int1 n cs y (hl.trans cells_pitch6) h) g1
  obtain ⟨i2, e2, _⟩ := DataW.trod_int Tryd.underlying3 g2
  obtain ⟨i3, e3, _⟩ := DataW.trod_int Tryd.underlying3 g3
  unfold six at hx0
  simp at hx0 h1 e2 e3
  obtain ⟨rfl, rfl, rfl, rfl, rfl, rfl⟩ := hx0
  subst h1 e2 e3
  exact ⟨x, A, l.length, cap, _, i2, i3, rfl, hl, vecs_of cells_pitch6 hr⟩
end Go.Proofs.YtehifkdfbiebfaaDoor
