/- The laws' arguments that are slices: opened. -/
import Derived.Test.YtkgklmmkkhbimaaBenchG
import Derived.Deep.Slices
import Derived.OpenShut
import Derived.Laws.Rows
namespace Go.Proofs.Ytkgklmmkkhbimaa
open Go.RowKit Go.ChangeShapes Go.WideShapes

variable {H : Type} {enc : TypeId × Value → H} {P : Program} {W : World}
theorem spot_none {w : World} {a : Addr} {v : Value} (h : w.cell? a = some v) : a.spot = none := by
  unfold World.cell? at h
  cases hs : a.spot with
  | none => rfl
  | some s =>
    rw [hs] at h
    split at h <;> simp at h
/-- A slice whose elements have the cells 'f x'. -/
theorem open_rows {t e : TypeId} {α : Type} [Inhabited α] (f : α → List Value) (ht : P.underlying t = some (.slice e)) (hc : 0 < P.cellsOf e)
    (hel : ∀ n cs y, cs.length = P.cellsOf e → DataW.trod enc P W 0 (fun _ => true) true n e cs = some y → ∃ x : α, cs = f x) {r : Reach} {base : Nat} {v : Value} {d : DataW H} {p : List MemPlace}
    (hv : Value.okWide P W r base t v) (h : DataW.Trod enc P W 0 (fun _ => true) true t v d p) :
    ∃ (A : Option Addr) (l : List α) (cap : Nat), v = .slice A l.length cap ∧ l.length ≤ 9223372036854775807 ∧
      (0 < l.length → ∃ b off, A = some ⟨b, off, none⟩ ∧ b < W.heap.size ∧ ∀ i x, l[i]? = some x → ∀ j, j < P.cellsOf e → W.cell? ⟨b, off + (i * P.cellsOf e + j), none⟩ = (f x)[j]?) := by
  obtain ⟨a, len, cap, rfl⟩ := okWide_slice ht hv
  obtain ⟨fuel, hf⟩ := h
  rcases Go.Deep.open_slice ht hf with ⟨h0, _⟩ | ⟨a', len', cap', m, n, D, Pl, h0, _, hl, hm, hmm, _, hx⟩
  · simp [Value.cells] at h0
    obtain ⟨rfl, rfl, rfl⟩ := h0
    exact ⟨none, [], 0, rfl, by simp, fun h => absurd h (by simp)⟩
  · simp [Value.cells] at h0
    obtain ⟨rfl, rfl, rfl⟩ := h0
    have hml : len ≤ m := by rw [hmm]; simp; omega
    obtain ⟨F, hF⟩ := Go.Deep.choose_lt (n := len) (p := fun i (x : α) => ∀ j, j < P.cellsOf e → W.cell? ((a'.add (i * P.cellsOf e)).add j) = (f x)[j]? ∧ (f x).length = P.cellsOf e) (fun i hi => by
      obtain ⟨cs, h1, h2⟩ := hx i (by omega)
      obtain ⟨_, hlen, hcell⟩ := World.cells?_some h1
      obtain ⟨x, rfl⟩ := hel _ _ _ hlen h2
      exact ⟨x, fun j hj => ⟨hcell j hj, hlen⟩⟩)
    refine ⟨some a', (List.range len).map F, cap, by simp, ?_, fun h0 => ?_⟩
    · have : maxLen = 9223372036854775807 := by decide +kernel
      simp
      omega
    · have h0' : 0 < len := by simpa using h0
      have hc0 := hF 0 h0' 0 hc
      rw [Go.Deep.add_add] at hc0
      have hget : ∃ u, W.cell? a' = some u := by
        have h1 := hc0.1
        have e0 : a'.add (0 * P.cellsOf e + 0) = a' := by simp [Addr.add]
        rw [e0] at h1
        exact ⟨_, h1.trans (List.getElem?_eq_getElem (by rw [hc0.2]; exact hc))⟩
      obtain ⟨u, hu⟩ := hget
      have hs := spot_none hu
      have hlt := block_lt_of_cell hu
      obtain ⟨b, off, sp⟩ := a'
      simp only at hs hlt
      subst hs
      refine ⟨b, off, rfl, hlt, fun i x hx j hj => ?_⟩
      have hi : i < len := by
        have := (List.getElem?_eq_some_iff.1 hx).1
        simpa using this
      have ex : F i = x := by
        rw [List.getElem?_map, List.getElem?_range hi] at hx
        simpa using hx
      have := (hF i hi j hj).1
      rw [ex, Go.Deep.add_add] at this
      rw [← this]
      unfold Addr.add
      by_cases hk : i * P.cellsOf e + j = 0
      · rw [if_pos hk, hk, Nat.add_zero]
      · rw [if_neg hk]

theorem cells_beat : Try.prog.cellsOf 49 = 7 := by kernel_rfl
theorem cells_rat : Try.prog.cellsOf 24 = 2 := by kernel_rfl
theorem cells_int : Try.prog.cellsOf 3 = 1 := by kernel_rfl
theorem cells_bool : Try.prog.cellsOf 4 = 1 := by kernel_rfl
theorem cells_pair : Try.prog.cellsOf 53 = 2 := by kernel_rfl

theorem list2 {α : Type} {l : List α} (h : l.length = 2) : ∃ a b, l = [a, b] := by
  match l, h with
  | [a, b], _ => exact ⟨a, b, rfl⟩
theorem list7 {α : Type} {l : List α} (h : l.length = 7) : ∃ a b c d e f g, l = [a, b, c, d, e, f, g] := by
  match l, h with
  | [a, b, c, d, e, f, g], _ => exact ⟨a, b, c, d, e, f, g, rfl⟩
theorem list1 {α : Type} {l : List α} (h : l.length = 1) : ∃ a, l = [a] := by
  match l, h with
  | [a], _ => exact ⟨a, rfl⟩

theorem el_rat (n : Nat) (cs : List Value) (y : DataW H × List MemPlace) (hl : cs.length = Try.prog.cellsOf 24) (h : DataW.trod enc Try.prog W 0 (fun _ => true) true n 24 cs = some y) : ∃ x : Int × Int, cs = [.int .i64 x.1, .int .i64 x.2] := by
  obtain ⟨a, b, rfl⟩ := list2 (hl.trans cells_rat)
  obtain ⟨y0, y1, n, _, _, h0, h1⟩ := trod_struct2 Try.underlying24 h
  obtain ⟨i, e0, _⟩ := DataW.trod_int Try.underlying3 h0
  obtain ⟨j, e1, _⟩ := DataW.trod_int Try.underlying3 h1
  rw [cells_int] at e0 e1
  simp at e0 e1
  subst e0 e1
  exact ⟨(i, j), rfl⟩
theorem el_int (n : Nat) (cs : List Value) (y : DataW H × List MemPlace) (_ : cs.length = Try.prog.cellsOf 3) (h : DataW.trod enc Try.prog W 0 (fun _ => true) true n 3 cs = some y) : ∃ x : Int, cs = [.int .i64 x] := by
  obtain ⟨i, e0, _⟩ := DataW.trod_int Try.underlying3 h
  exact ⟨i, e0⟩
theorem el_bool (n : Nat) (cs : List Value) (y : DataW H × List MemPlace) (_ : cs.length = Try.prog.cellsOf 4) (h : DataW.trod enc Try.prog W 0 (fun _ => true) true n 4 cs = some y) : ∃ x : Bool, cs = [.bool x] := by
  obtain ⟨i, e0, _⟩ := DataW.trod_bool Try.underlying4 h
  exact ⟨i, e0⟩
theorem el_beat (n : Nat) (cs : List Value) (y : DataW H × List MemPlace) (hl : cs.length = Try.prog.cellsOf 49) (h : DataW.trod enc Try.prog W 0 (fun _ => true) true n 49 cs = some y) :
    ∃ x : Bt, cs = [.int .i64 x.fr, .int .i64 x.to, .int .i64 x.p, .int .i64 x.q, .int .i64 x.rn, .int .i64 x.rd, .bool x.ab] := by
  obtain ⟨c0, c1, c2, c3, c4, c5, c6, rfl⟩ := list7 (hl.trans cells_beat)
  obtain ⟨xs, n, _, _, _, hx, hf⟩ := DataW.trod_struct Try.underlying49 h
  have get : ∀ i (hi : i < xs.length), xs[i]? = some xs[i] := fun i hi => List.getElem?_eq_getElem hi
  have hx6 : xs.length = 6 := hx
  have g0 : DataW.trod enc Try.prog W 0 (fun _ => true) true n 3 (([c0, c1, c2, c3, c4, c5, c6].drop 0).take (Try.prog.cellsOf 3)) = some (xs[0]'(by omega)) := (hf 0 _ rfl).trans (get 0 (by omega))
  have g1 : DataW.trod enc Try.prog W 0 (fun _ => true) true n 3 (([c0, c1, c2, c3, c4, c5, c6].drop 1).take (Try.prog.cellsOf 3)) = some (xs[1]'(by omega)) := (hf 1 _ rfl).trans (get 1 (by omega))
  have g2 : DataW.trod enc Try.prog W 0 (fun _ => true) true n 3 (([c0, c1, c2, c3, c4, c5, c6].drop 2).take (Try.prog.cellsOf 3)) = some (xs[2]'(by omega)) := (hf 2 _ rfl).trans (get 2 (by omega))
  have g3 : DataW.trod enc Try.prog W 0 (fun _ => true) true n 3 (([c0, c1, c2, c3, c4, c5, c6].drop 3).take (Try.prog.cellsOf 3)) = some (xs[3]'(by omega)) := (hf 3 _ rfl).trans (get 3 (by omega))
  have g4 : DataW.trod enc Try.prog W 0 (fun _ => true) true n 24 (([c0, c1, c2, c3, c4, c5, c6].drop 4).take (Try.prog.cellsOf 24)) = some (xs[4]'(by omega)) := (hf 4 _ rfl).trans (get 4 (by omega))
  have g5 : DataW.trod enc Try.prog W 0 (fun _ => true) true n 4 (([c0, c1, c2, c3, c4, c5, c6].drop 6).take (Try.prog.cellsOf 4)) = some (xs[5]'(by omega)) := (hf 5 _ rfl).trans (get 5 (by omega))
  simp only [cells_int, cells_bool, cells_rat, List.drop_succ_cons, List.drop_zero, List.take_succ_cons, List.take_zero] at g0 g1 g2 g3 g4 g5
  obtain ⟨i0, e0, _⟩ := DataW.trod_int Try.underlying3 g0
  obtain ⟨i1, e1, _⟩ := DataW.trod_int Try.underlying3 g1
  obtain ⟨i2, e2, _⟩ := DataW.trod_int Try.underlying3 g2
  obtain ⟨i3, e3, _⟩ := DataW.trod_int Try.underlying3 g3
  obtain ⟨r, e4⟩ := el_rat _ _ _ (by rw [cells_rat]; rfl) g4
  obtain ⟨b, e5, _⟩ := DataW.trod_bool Try.underlying4 g5
  simp at e0 e1 e2 e3 e4 e5
  obtain ⟨e4, e4'⟩ := e4
  subst e0 e1 e2 e3 e4 e4' e5
  exact ⟨⟨i0, i1, i2, i3, r.1, r.2, b⟩, rfl⟩

variable {r : Reach} {base : Nat} {v : Value} {d : DataW H} {p : List MemPlace}
theorem open_beats (hv : Value.okWide Try.prog W r base 22 v) (h : DataW.Trod enc Try.prog W 0 (fun _ => true) true 22 v d p) :
    ∃ (A : Option Addr) (l : List Bt) (cap : Nat), v = .slice A l.length cap ∧ l.length ≤ 9223372036854775807 ∧ Lst W W.heap.size A l := by
  obtain ⟨A, l, cap, rfl, hl, hr⟩ := open_rows (fun x : Bt => [.int .i64 x.fr, .int .i64 x.to, .int .i64 x.p, .int .i64 x.q, .int .i64 x.rn, .int .i64 x.rd, .bool x.ab]) Try.underlying22 (by rw [cells_beat]; decide) el_beat hv h
  refine ⟨A, l, cap, rfl, hl, fun h0 => ?_⟩
  obtain ⟨b, off, hA, hb, hc⟩ := hr h0
  rw [cells_beat] at hc
  refine ⟨b, off, hA, hb, fun i x hx => ?_⟩
  have := hc i x hx
  exact ⟨this 0 (by decide), by have := this 1 (by decide); rwa [← Nat.add_assoc] at this, by have := this 2 (by decide); rwa [← Nat.add_assoc] at this, by have := this 3 (by decide); rwa [← Nat.add_assoc] at this,
    by have := this 4 (by decide); rwa [← Nat.add_assoc] at this, by have := this 5 (by decide); rwa [← Nat.add_assoc] at this, by have := this 6 (by decide); rwa [← Nat.add_assoc] at this⟩
theorem open_rats (hv : Value.okWide Try.prog W r base 25 v) (h : DataW.Trod enc Try.prog W 0 (fun _ => true) true 25 v d p) :
    ∃ (A : Option Addr) (M : Nat) (g : Nat → Int × Int) (cap : Nat), v = .slice A M cap ∧ M ≤ 9223372036854775807 ∧ RatsR W W.heap.size A M g := by
  obtain ⟨A, l, cap, rfl, hl, hr⟩ := open_rows (fun x : Int × Int => [.int .i64 x.1, .int .i64 x.2]) Try.underlying25 (by rw [cells_rat]; decide) el_rat hv h
  refine ⟨A, l.length, fun i => l.getD i (0, 0), cap, rfl, hl, fun h0 => ?_⟩
  obtain ⟨b, off, hA, hb, hc⟩ := hr h0
  rw [cells_rat] at hc
  refine ⟨b, off, hA, hb, fun i hi => ?_⟩
  have e : l[i]? = some (l.getD i (0, 0)) := by simp [List.getD, hi]
  have := hc i _ e
  exact ⟨this 0 (by decide), by have := this 1 (by decide); rwa [← Nat.add_assoc] at this⟩
theorem open_ints (hv : Value.okWide Try.prog W r base 26 v) (h : DataW.Trod enc Try.prog W 0 (fun _ => true) true 26 v d p) :
    ∃ (A : Option Addr) (l : List Int) (cap : Nat), v = .slice A l.length cap ∧ l.length ≤ 9223372036854775807 ∧ IntsR W W.heap.size A l := by
  obtain ⟨A, l, cap, rfl, hl, hr⟩ := open_rows (fun x : Int => [.int .i64 x]) Try.underlying26 (by rw [cells_int]; decide) el_int hv h
  refine ⟨A, l, cap, rfl, hl, fun h0 => ?_⟩
  obtain ⟨b, off, hA, hb, hc⟩ := hr h0
  rw [cells_int] at hc
  exact ⟨b, off, hA, hb, fun i x hx => by have := hc i x hx 0 (by decide); simpa using this⟩
theorem open_bools (hv : Value.okWide Try.prog W r base 28 v) (h : DataW.Trod enc Try.prog W 0 (fun _ => true) true 28 v d p) :
    ∃ (A : Option Addr) (l : List Bool) (cap : Nat), v = .slice A l.length cap ∧ l.length ≤ 9223372036854775807 ∧ BoolsR W W.heap.size A l := by
  obtain ⟨A, l, cap, rfl, hl, hr⟩ := open_rows (fun x : Bool => [.bool x]) Try.underlying28 (by rw [cells_bool]; decide) el_bool hv h
  refine ⟨A, l, cap, rfl, hl, fun h0 => ?_⟩
  obtain ⟨b, off, hA, hb, hc⟩ := hr h0
  rw [cells_bool] at hc
  exact ⟨b, off, hA, hb, fun i x hx => by have := hc i x hx 0 (by decide); simpa using this⟩
end Go.Proofs.Ytkgklmmkkhbimaa
