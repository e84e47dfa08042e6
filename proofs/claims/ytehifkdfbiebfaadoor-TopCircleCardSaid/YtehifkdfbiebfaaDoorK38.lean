/- The laws' arguments that are slices: opened. Plain laws of what is set: the value, and that it grows with the frequency and with what the step is off. Run and Play as the laws use them: the error as a number; Cmp. -/
import Derived.Test.YtehifkdfbiebfaaDoorK37
import Derived.Deep.Slices
import Derived.OpenShut
import Derived.Laws.Rows
namespace Go.Proofs.YtehifkdfbiebfaaDoor
open Go.RowKit Go.ChangeShapes Go.WideShapes

theorem RatsR.up {w w' : World} {N : Nat} {A : Option Addr} {g : Nat → Int × Int} (hh : RatsR w w.heap.size A N g) (hb : Below w.heap.size w w') : RatsR w' w'.heap.size A N g := (hh.below hb).more hb.size
theorem IntsR.up {w w' : World} {A : Option Addr} {xs : List Int} (hh : IntsR w w.heap.size A xs) (hb : Below w.heap.size w w') : IntsR w' w'.heap.size A xs := (hh.below hb).more hb.size
theorem Lst.up {w w' : World} {A : Option Addr} {l : List Bt} (hh : Lst w w.heap.size A l) (hb : Below w.heap.size w w') : Lst w' w'.heap.size A l := (hh.below hb).more hb.size

variable {H : Type} {enc : TypeId × Value → H} {P : Program} {W : World}
theorem spot_none {w : World} {a : Addr} {v : Value} (h : w.cell? a = some v) : a.spot = none := by
  unfold World.cell? at h
  cases hs : a.spot with
  | none => rfl
  | some s =>
    rw [hs] at h
    split at h <;> simp at h
/-- A slice whose elements have the cells 'f x'. -/
theorem open_rows {t e : TypeId} {α : Type} [Inhabited α] (f : α → List Value) (ht : P.underlying t = some (.slice e)) (hc : 0 < P.cellsOf e)
    (hel : ∀ n cs y, cs.length = P.cellsOf e → DataW.trod enc P W 0 (fun _ => true) true n e cs = some y → ∃ x : α, cs = f x) {r : Reach} {base : Nat} {v : Value} {d : DataW H} {p : List MemPlace}
    (hv : Value.okWide P W r base t v) (h : DataW.Trod enc P W 0 (fun _ => true) true t v d p) :
    ∃ (A : Option Addr) (l : List α) (cap : Nat), v = .slice A l.length cap ∧ l.length ≤ 9223372036854775807 ∧
      (0 < l.length → ∃ b off, A = some ⟨b, off, none⟩ ∧ b < W.heap.size ∧ ∀ i x, l[i]? = some x → ∀ j, j < P.cellsOf e → W.cell? ⟨b, off + (i * P.cellsOf e + j), none⟩ = (f x)[j]?) := by
  obtain ⟨a, len, cap, rfl⟩ := okWide_slice ht hv
  obtain ⟨fuel, hf⟩ := h
  rcases Go.Deep.open_slice ht hf with ⟨h0, _⟩ | ⟨a', len', cap', m, n, D, Pl, h0, _, hl, hm, hmm, _, hx⟩
  · simp [Value.cells] at h0
    obtain ⟨rfl, rfl, rfl⟩ := h0
    exact ⟨none, [], 0, rfl, by simp, fun h => absurd h (by simp)⟩
  · simp [Value.cells] at h0
    obtain ⟨rfl, rfl, rfl⟩ := h0
    have hml : len ≤ m := by rw [hmm]; simp; omega
    obtain ⟨F, hF⟩ := Go.Deep.choose_lt (n := len) (p := fun i (x : α) => ∀ j, j < P.cellsOf e → W.cell? ((a'.add (i * P.cellsOf e)).add j) = (f x)[j]? ∧ (f x).length = P.cellsOf e) (fun i hi => by
      obtain ⟨cs, h1, h2⟩ := hx i (by omega)
      obtain ⟨_, hlen, hcell⟩ := World.cells?_some h1
      obtain ⟨x, rfl⟩ := hel _ _ _ hlen h2
      exact ⟨x, fun j hj => ⟨hcell j hj, hlen⟩⟩)
    refine ⟨some a', (List.range len).map F, cap, by simp, ?_, fun h0 => ?_⟩
    · have : maxLen = 9223372036854775807 := by decide +kernel
      simp
      omega
    · have h0' : 0 < len := by simpa using h0
      have hc0 := hF 0 h0' 0 hc
      rw [Go.Deep.add_add] at hc0
      have hget : ∃ u, W.cell? a' = some u := by
        have h1 := hc0.1
        have e0 : a'.add (0 * P.cellsOf e + 0) = a' := by simp [Addr.add]
        rw [e0] at h1
        exact ⟨_, h1.trans (List.getElem?_eq_getElem (by rw [hc0.2]; exact hc))⟩
      obtain ⟨u, hu⟩ := hget
      have hs := spot_none hu
      have hlt := block_lt_of_cell hu
      obtain ⟨b, off, sp⟩ := a'
      simp only at hs hlt
      subst hs
      refine ⟨b, off, rfl, hlt, fun i x hx j hj => ?_⟩
      have hi : i < len := by
        have := (List.getElem?_eq_some_iff.1 hx).1
        simpa using this
      have ex : F i = x := by
        rw [List.getElem?_map, List.getElem?_range hi] at hx
        simpa using hx
      have := (hF i hi j hj).1
      rw [ex, Go.Deep.add_add] at this
      rw [← this]
      unfold Addr.add
      by_cases hk : i * P.cellsOf e + j = 0
      · rw [if_pos hk, hk, Nat.add_zero]
      · rw [if_neg hk]

theorem cells_beat : Tryd.prog.cellsOf 39 = 7 := by kernel_rfl
theorem cells_rat : Tryd.prog.cellsOf 25 = 2 := by kernel_rfl
theorem cells_int : Tryd.prog.cellsOf 3 = 1 := by kernel_rfl
theorem cells_bool : Tryd.prog.cellsOf 4 = 1 := by kernel_rfl
theorem cells_pair : Tryd.prog.cellsOf 183 = 2 := by kernel_rfl

theorem list2 {α : Type} {l : List α} (h : l.length = 2) : ∃ a b, l = [a, b] := by
  match l, h with
  | [a, b], _ => exact ⟨a, b, rfl⟩
theorem list7 {α : Type} {l : List α} (h : l.length = 7) : ∃ a b c d e f g, l = [a, b, c, d, e, f, g] := by
  match l, h with
  | [a, b, c, d, e, f, g], _ => exact ⟨a, b, c, d, e, f, g, rfl⟩
theorem list1 {α : Type} {l : List α} (h : l.length = 1) : ∃ a, l = [a] := by
  match l, h with
  | [a], _ => exact ⟨a, rfl⟩

theorem el_rat (n : Nat) (cs : List Value) (y : DataW H × List MemPlace) (hl : cs.length = Tryd.prog.cellsOf 25) (h : DataW.trod enc Tryd.prog W 0 (fun _ => true) true n 25 cs = some y) : ∃ x : Int × Int, cs = [.int .i64 x.1, .int .i64 x.2] := by
  obtain ⟨a, b, rfl⟩ := list2 (hl.trans cells_rat)
  obtain ⟨y0, y1, n, _, _, h0, h1⟩ := trod_struct2 Tryd.underlying25 h
  obtain ⟨i, e0, _⟩ := DataW.trod_int Tryd.underlying3 h0
  obtain ⟨j, e1, _⟩ := DataW.trod_int Tryd.underlying3 h1
  rw [cells_int] at e0 e1
  simp at e0 e1
  subst e0 e1
  exact ⟨(i, j), rfl⟩
theorem el_int (n : Nat) (cs : List Value) (y : DataW H × List MemPlace) (_ : cs.length = Tryd.prog.cellsOf 3) (h : DataW.trod enc Tryd.prog W 0 (fun _ => true) true n 3 cs = some y) : ∃ x : Int, cs = [.int .i64 x] := by
  obtain ⟨i, e0, _⟩ := DataW.trod_int Tryd.underlying3 h
  exact ⟨i, e0⟩
theorem el_bool (n : Nat) (cs : List Value) (y : DataW H × List MemPlace) (_ : cs.length = Tryd.prog.cellsOf 4) (h : DataW.trod enc Tryd.prog W 0 (fun _ => true) true n 4 cs = some y) : ∃ x : Bool, cs = [.bool x] := by
  obtain ⟨i, e0, _⟩ := DataW.trod_bool Tryd.underlying4 h
  exact ⟨i, e0⟩
theorem el_beat (n : Nat) (cs : List Value) (y : DataW H × List MemPlace) (hl : cs.length = Tryd.prog.cellsOf 39) (h : DataW.trod enc Tryd.prog W 0 (fun _ => true) true n 39 cs = some y) :
    ∃ x : Bt, cs = [.int .i64 x.fr, .int .i64 x.to, .int .i64 x.p, .int .i64 x.q, .int .i64 x.rn, .int .i64 x.rd, .bool x.ab] := by
  obtain ⟨c0, c1, c2, c3, c4, c5, c6, rfl⟩ := list7 (hl.trans cells_beat)
  obtain ⟨xs, n, _, _, _, hx, hf⟩ := DataW.trod_struct Tryd.underlying39 h
  have get : ∀ i (hi : i < xs.length), xs[i]? = some xs[i] := fun i hi => List.getElem?_eq_getElem hi
  have hx6 : xs.length = 6 := hx
  have g0 : DataW.trod enc Tryd.prog W 0 (fun _ => true) true n 3 (([c0, c1, c2, c3, c4, c5, c6].drop 0).take (Tryd.prog.cellsOf 3)) = some (xs[0]'(by omega)) := (hf 0 _ rfl).trans (get 0 (by omega))
  have g1 : DataW.trod enc Tryd.prog W 0 (fun _ => true) true n 3 (([c0, c1, c2, c3, c4, c5, c6].drop 1).take (Tryd.prog.cellsOf 3)) = some (xs[1]'(by omega)) := (hf 1 _ rfl).trans (get 1 (by omega))
  have g2 : DataW.trod enc Tryd.prog W 0 (fun _ => true) true n 3 (([c0, c1, c2, c3, c4, c5, c6].drop 2).take (Tryd.prog.cellsOf 3)) = some (xs[2]'(by omega)) := (hf 2 _ rfl).trans (get 2 (by omega))
  have g3 : DataW.trod enc Tryd.prog W 0 (fun _ => true) true n 3 (([c0, c1, c2, c3, c4, c5, c6].drop 3).take (Tryd.prog.cellsOf 3)) = some (xs[3]'(by omega)) := (hf 3 _ rfl).trans (get 3 (by omega))
  have g4 : DataW.trod enc Tryd.prog W 0 (fun _ => true) true n 25 (([c0, c1, c2, c3, c4, c5, c6].drop 4).take (Tryd.prog.cellsOf 25)) = some (xs[4]'(by omega)) := (hf 4 _ rfl).trans (get 4 (by omega))
  have g5 : DataW.trod enc Tryd.prog W 0 (fun _ => true) true n 4 (([c0, c1, c2, c3, c4, c5, c6].drop 6).take (Tryd.prog.cellsOf 4)) = some (xs[5]'(by omega)) := (hf 5 _ rfl).trans (get 5 (by omega))
  simp only [cells_int, cells_bool, cells_rat, List.drop_succ_cons, List.drop_zero, List.take_succ_cons, List.take_zero] at g0 g1 g2 g3 g4 g5
  obtain ⟨i0, e0, _⟩ := DataW.trod_int Tryd.underlying3 g0
  obtain ⟨i1, e1, _⟩ := DataW.trod_int Tryd.underlying3 g1
  obtain ⟨i2, e2, _⟩ := DataW.trod_int Tryd.underlying3 g2
  obtain ⟨i3, e3, _⟩ := DataW.trod_int Tryd.underlying3 g3
  obtain ⟨r, e4⟩ := el_rat _ _ _ (by rw [cells_rat]; rfl) g4
  obtain ⟨b, e5, _⟩ := DataW.trod_bool Tryd.underlying4 g5
  simp at e0 e1 e2 e3 e4 e5
  obtain ⟨e4, e4'⟩ := e4
  subst e0 e1 e2 e3 e4 e4' e5
  exact ⟨⟨i0, i1, i2, i3, r.1, r.2, b⟩, rfl⟩

variable {r : Reach} {base : Nat} {v : Value} {d : DataW H} {p : List MemPlace}
set_option maxRecDepth 100000 in
theorem open_beats (hv : Value.okWide Tryd.prog W r base 29 v) (h : DataW.Trod enc Tryd.prog W 0 (fun _ => true) true 29 v d p) :
    ∃ (A : Option Addr) (l : List Bt) (cap : Nat), v = .slice A l.length cap ∧ l.length ≤ 9223372036854775807 ∧ Lst W W.heap.size A l := by
  obtain ⟨A, l, cap, rfl, hl, hr⟩ := open_rows (fun x : Bt => [.int .i64 x.fr, .int .i64 x.to, .int .i64 x.p, .int .i64 x.q, .int .i64 x.rn, .int .i64 x.rd, .bool x.ab]) Tryd.underlying29 (by rw [cells_beat]; decide) el_beat hv h
  refine ⟨A, l, cap, rfl, hl, fun h0 => ?_⟩
  obtain ⟨b, off, hA, hb, hc⟩ := hr h0
  rw [cells_beat] at hc
  refine ⟨b, off, hA, hb, fun i x hx => ?_⟩
  have := hc i x hx
  exact ⟨this 0 (by decide), by have := this 1 (by decide); rwa [← Nat.add_assoc] at this, by have := this 2 (by decide); rwa [← Nat.add_assoc] at this, by have := this 3 (by decide); rwa [← Nat.add_assoc] at this,
    by have := this 4 (by decide); rwa [← Nat.add_assoc] at this, by have := this 5 (by decide); rwa [← Nat.add_assoc] at this, by have := this 6 (by decide); rwa [← Nat.add_assoc] at this⟩
set_option maxRecDepth 100000 in
theorem open_rats (hv : Value.okWide Tryd.prog W r base 32 v) (h : DataW.Trod enc Tryd.prog W 0 (fun _ => true) true 32 v d p) :
    ∃ (A : Option Addr) (M : Nat) (g : Nat → Int × Int) (cap : Nat), v = .slice A M cap ∧ M ≤ 9223372036854775807 ∧ RatsR W W.heap.size A M g := by
  obtain ⟨A, l, cap, rfl, hl, hr⟩ := open_rows (fun x : Int × Int => [.int .i64 x.1, .int .i64 x.2]) Tryd.underlying32 (by rw [cells_rat]; decide) el_rat hv h
  refine ⟨A, l.length, fun i => l.getD i (0, 0), cap, rfl, hl, fun h0 => ?_⟩
  obtain ⟨b, off, hA, hb, hc⟩ := hr h0
  rw [cells_rat] at hc
  refine ⟨b, off, hA, hb, fun i hi => ?_⟩
  have e : l[i]? = some (l.getD i (0, 0)) := by simp [List.getD, hi]
  have := hc i _ e
  exact ⟨this 0 (by decide), by have := this 1 (by decide); rwa [← Nat.add_assoc] at this⟩
set_option maxRecDepth 100000 in
theorem open_ints (hv : Value.okWide Tryd.prog W r base 22 v) (h : DataW.Trod enc Tryd.prog W 0 (fun _ => true) true 22 v d p) :
    ∃ (A : Option Addr) (l : List Int) (cap : Nat), v = .slice A l.length cap ∧ l.length ≤ 9223372036854775807 ∧ IntsR W W.heap.size A l := by
  obtain ⟨A, l, cap, rfl, hl, hr⟩ := open_rows (fun x : Int => [.int .i64 x]) Tryd.underlying22 (by rw [cells_int]; decide) el_int hv h
  refine ⟨A, l, cap, rfl, hl, fun h0 => ?_⟩
  obtain ⟨b, off, hA, hb, hc⟩ := hr h0
  rw [cells_int] at hc
  exact ⟨b, off, hA, hb, fun i x hx => by have := hc i x hx 0 (by decide); simpa using this⟩
end Go.Proofs.YtehifkdfbiebfaaDoor
namespace Go.Proofs.YtehifkdfbiebfaaDoor
open Go.RowKit

/-- What a step sets: it is a frequency, and has the exact value. -/
theorem mo_val {fn fd p q s sd o od : Int} (h : moE fn fd p q s sd o od = 0) :
    sdV fn fd = true ∧ ptV p = true ∧ ptV q = true ∧ vR s sd = true ∧ vR o od = true ∧ sdV (moX fn fd p q s sd o od) (moY fn fd p q s sd o od) = true ∧
      moX fn fd p q s sd o od * (q * fd * sd * od) = (p * fn * sd * od + s * od * fd + o * sd * fd) * moY fn fd p q s sd o od := by
  have h' := h
  unfold moE at h'
  split at h'
  case isFalse => omega
  case isTrue hh =>
    obtain ⟨ha, hs⟩ := hh
    obtain ⟨v1, v2, v3, e1⟩ := ad_spec ha
    have hX : moX fn fd p q s sd o od = seX fn fd p q (adN s sd o od).natAbs (adD s sd o od) (decide (0 ≤ adN s sd o od)) := by unfold moX; rw [if_pos h]
    have hY : moY fn fd p q s sd o od = seY fn fd p q (adN s sd o od).natAbs (adD s sd o od) (decide (0 ≤ adN s sd o od)) := by unfold moY; rw [if_pos h]
    rw [hX, hY]
    have dp := den_pos v3
    have dq := den_pos v1
    have dr := den_pos v2
    generalize adN s sd o od = S at *
    generalize adD s sd o od = D at *
    have hN : seN fn fd p S.natAbs D (decide (0 ≤ S)) = p * fn * D + S * fd := by
      unfold seN
      by_cases h0 : 0 ≤ S
      · have : ((S.natAbs : Nat) : Int) = S := by omega
        simp [h0, this]
      · have : ((S.natAbs : Nat) : Int) = -S := by omega
        simp [h0, this]
        grind
    unfold seE at hs
    split at hs
    case isFalse => omega
    case isTrue hg =>
      split at hs
      case isFalse => omega
      case isTrue hm =>
        have x1 : seX fn fd p q S.natAbs D (decide (0 ≤ S)) = mkN (p * fn * D + S * fd) (q * fd * D) := by unfold seX; rw [if_pos hg, if_pos hm, hN]
        have y1 : seY fn fd p q S.natAbs D (decide (0 ≤ S)) = mkD (p * fn * D + S * fd) (q * fd * D) := by unfold seY; rw [if_pos hg, if_pos hm, hN]
        rw [x1, y1]
        rw [hN] at hm
        unfold maE at hm
        simp only [Bool.and_eq_true, decide_eq_true_eq] at hm
        obtain ⟨m1, m2⟩ := hm
        obtain ⟨_, _, e2⟩ := mk_spec m1
        unfold seG at hg
        simp only [Bool.and_eq_true] at hg
        obtain ⟨g1, g2, g3, g4⟩ := hg
        refine ⟨g1, g3, g4, v1, v2, m2, ?_⟩
        generalize mkN (p * fn * D + S * fd) (q * fd * D) = X at *
        generalize mkD (p * fn * D + S * fd) (q * fd * D) = Y at *
        refine cancel dp ?_
        have : (p * fn * sd * od + s * od * fd + o * sd * fd) * Y * D = p * fn * sd * od * Y * D + ((s * od + o * sd) * D) * fd * Y := by grind
        rw [this, ← e1]
        have : X * (q * fd * sd * od) * D = (X * (q * fd * D)) * (sd * od) := by grind
        rw [this, e2]
        grind
theorem sd_pos {n d : Int} (h : sdV n d = true) : vR n d = true ∧ 0 < n ∧ 0 < d := by
  unfold sdV rtV at h
  simp only [Bool.and_eq_true, decide_eq_true_eq] at h
  exact ⟨h.1.1, h.2, den_pos h.1.1⟩
def Le (a b : Int × Int) : Prop := a.1 * b.2 ≤ b.1 * a.2
theorem mo_mono {fn fd gn gd p q s sd o od u ud : Int} (h : moE fn fd p q s sd o od = 0) (k : moE gn gd p q s sd u ud = 0) (hf : fn * gd ≤ gn * fd) (ho : o * ud ≤ u * od) :
    moX fn fd p q s sd o od * moY gn gd p q s sd u ud ≤ moX gn gd p q s sd u ud * moY fn fd p q s sd o od := by
  obtain ⟨a1, a2, a3, a4, a5, a6, a7⟩ := mo_val h
  obtain ⟨b1, b2, b3, b4, b5, b6, b7⟩ := mo_val k
  obtain ⟨_, _, fp⟩ := sd_pos a1
  obtain ⟨_, _, gp⟩ := sd_pos b1
  obtain ⟨_, _, yp⟩ := sd_pos a6
  obtain ⟨_, _, zp⟩ := sd_pos b6
  have sp := den_pos a4
  have op := den_pos a5
  have up := den_pos b5
  have p0 : 0 ≤ p := by unfold ptV at a2; simp only [Bool.and_eq_true, decide_eq_true_eq] at a2; omega
  have q0 : 0 < q := by unfold ptV at a3; simp only [Bool.and_eq_true, decide_eq_true_eq] at a3; omega
  generalize moX fn fd p q s sd o od = X at *
  generalize moY fn fd p q s sd o od = Y at *
  generalize moX gn gd p q s sd u ud = X' at *
  generalize moY gn gd p q s sd u ud = Y' at *
  have K : 0 < q * fd * sd * od * (gd * ud) := Int.mul_pos (Int.mul_pos (Int.mul_pos (Int.mul_pos q0 fp) sp) op) (Int.mul_pos gp up)
  refine Int.le_of_mul_le_mul_right ?_ K
  have e1 : X * Y' * (q * fd * sd * od * (gd * ud)) = (X * (q * fd * sd * od)) * (Y' * gd * ud) := by grind
  have e2 : X' * Y * (q * fd * sd * od * (gd * ud)) = (X' * (q * gd * sd * ud)) * (Y * fd * od) := by grind
  rw [e1, e2, a7, b7]
  have d1 : 0 ≤ p * sd * od * ud * (gn * fd - fn * gd) := Int.mul_nonneg (Int.mul_nonneg (Int.mul_nonneg (Int.mul_nonneg p0 (by omega)) (by omega)) (by omega)) (by omega)
  have d2 : 0 ≤ sd * fd * gd * (u * od - o * ud) := Int.mul_nonneg (Int.mul_nonneg (Int.mul_nonneg (by omega) (by omega)) (by omega)) (by omega)
  have d3 : 0 ≤ (p * sd * od * ud * (gn * fd - fn * gd) + sd * fd * gd * (u * od - o * ud)) * (Y * Y') := Int.mul_nonneg (by omega) (Int.mul_nonneg (by omega) (by omega))
  have e3 : (p * gn * sd * ud + s * ud * gd + u * sd * gd) * Y' * (Y * fd * od) - (p * fn * sd * od + s * od * fd + o * sd * fd) * Y * (Y' * gd * ud) = (p * sd * od * ud * (gn * fd - fn * gd) + sd * fd * gd * (u * od - o * ud)) * (Y * Y') := by grind
  omega

/-- The frequencies grow with what the steps are off. -/
theorem plO_le {l : List Bt} {f0 : Int × Int} {o o' : Nat → Int × Int} : ∀ {k : Nat} {g g' : Nat → Int × Int}, (∀ j, j < k → Le (o j) (o' j)) → plO l f0 o k = some g → plO l f0 o' k = some g' → ∀ x, Le (g x) (g' x)
  | 0, g, g', _, h1, h2, x => by
    simp only [plO, Option.some.injEq] at h1 h2
    subst h1 h2
    exact Int.le_refl _
  | k + 1, g, g', ho, h1, h2, x => by
    simp only [plO, Option.bind_eq_some_iff] at h1 h2
    obtain ⟨a, ha, h1⟩ := h1
    obtain ⟨a', ha', h2⟩ := h2
    have ih := plO_le (fun j hj => ho j (by omega)) ha ha'
    split at h1
    case isFalse => cases h1
    case isTrue e1 =>
      split at h2
      case isFalse => cases h2
      case isTrue e2 =>
        simp only [Option.some.injEq] at h1 h2
        subst h1 h2
        by_cases hx : x = (l.getD k default).to.toNat
        · simp only [hx, if_true]
          exact mo_mono e1 e2 (ih _) (ho k (by omega))
        · simp only [hx, if_false]
          exact ih x
/-- All that is set is a frequency. -/
theorem plO_set {l : List Bt} {f0 : Int × Int} {o : Nat → Int × Int} (hf : sdV f0.1 f0.2 = true) : ∀ {k : Nat} {g : Nat → Int × Int}, plO l f0 o k = some g → ∀ x, x = 0 ∨ (∃ j, j < k ∧ (l.getD j default).to.toNat = x) → sdV (g x).1 (g x).2 = true
  | 0, g, h1, x, hx => by
    simp only [plO, Option.some.injEq] at h1
    subst h1
    rcases hx with hx | ⟨j, hj, _⟩
    · simp only [hx, if_true]; exact hf
    · omega
  | k + 1, g, h1, x, hx => by
    simp only [plO, Option.bind_eq_some_iff] at h1
    obtain ⟨a, ha, h1⟩ := h1
    split at h1
    case isFalse => cases h1
    case isTrue e1 =>
      simp only [Option.some.injEq] at h1
      subst h1
      by_cases hx' : x = (l.getD k default).to.toNat
      · simp only [hx', if_true]
        exact (mo_val e1).2.2.2.2.2.1
      · simp only [hx', if_false]
        refine plO_set hf ha x ?_
        rcases hx with hx | ⟨j, hj, he⟩
        · exact Or.inl hx
        · refine Or.inr ⟨j, ?_, he⟩
          have : j ≠ k := fun e => hx' (by rw [← he, e])
          omega
theorem play_all {n : Int} {l : List Bt} {f0 : Int × Int} {o : Nat → Int × Int} {g : Nat → Int × Int} (hv : vld n l = true) (hf : sdV f0.1 f0.2 = true) (h : plO l f0 o l.length = some g) {x : Nat} (hx : x < n.toNat) : vR (g x).1 (g x).2 = true := by
  refine (sd_pos (plO_set hf h x ?_)).1
  by_cases h0 : x = 0
  · exact Or.inl h0
  · have hs := all_set hv (x := (x : Int)) (by omega) (by omega)
    obtain ⟨b, hb, ht⟩ := stF_get hs
    have hlt := (List.getElem?_eq_some_iff.1 hb).1
    refine Or.inr ⟨(stF l x).toNat, hlt, ?_⟩
    simp [List.getD, hb, ht]
theorem cmp_le {a b : Int × Int} (ha : vR a.1 a.2 = true) (hb : vR b.1 b.2 = true) (h : Le a b) : ∃ c : Int, c ≤ 0 ∧ cmpV a.1 a.2 b.1 b.2 = .tuple #[.int .i64 c, .int .i64 0] := by
  refine ⟨_, ?_, cmp_good (by rw [ha, hb]; rfl)⟩
  unfold Le at h
  rcases sg_ways (a.1 * b.2 - b.1 * a.2) with ⟨_, e⟩ | ⟨h1, _⟩ | ⟨_, e⟩
  · rw [e]; decide
  · omega
  · rw [e]; decide
theorem cmp_ways (an ad bn bd : Int) : (∃ c : Int, cmpV an ad bn bd = .tuple #[.int .i64 c, .int .i64 1]) ∨ (∃ c : Int, 0 < c ∧ cmpV an ad bn bd = .tuple #[.int .i64 c, .int .i64 0]) ∨
    (∃ c : Int, c ≤ 0 ∧ Le (an, ad) (bn, bd) ∧ cmpV an ad bn bd = .tuple #[.int .i64 c, .int .i64 0]) := by
  cases h : (vR an ad && vR bn bd)
  · exact Or.inl ⟨0, cmp_bad h⟩
  · rcases sg_ways (an * bd - bn * ad) with ⟨h1, e⟩ | ⟨h1, e⟩ | ⟨h1, e⟩
    · exact Or.inr (Or.inr ⟨_, by rw [e]; decide, by unfold Le; simp only; omega, cmp_good h⟩)
    · exact Or.inr (Or.inl ⟨_, by rw [e]; decide, cmp_good h⟩)
    · exact Or.inr (Or.inr ⟨_, by rw [e]; decide, by unfold Le; simp only; omega, cmp_good h⟩)
end Go.Proofs.YtehifkdfbiebfaaDoor
namespace Go.Proofs.YtehifkdfbiebfaaDoor
open Go.RowKit

/-- What Run leaves, in one shape. -/
theorem Run_u (n : Int) (l : List Bt) (f1 f2 e1 e2 : Int) (A : Option Addr) (cap : Nat) (w : World) (hl : Lst w w.heap.size A l) (hlen : l.length ≤ 9223372036854775807) :
    Calls Tryd.prog 18 #[.int .i64 n, .slice A l.length cap, .agg #[.int .i64 f1, .int .i64 f2], .agg #[.int .i64 e1, .int .i64 e2]] w
      (fun e w' => Below w.heap.size w w' ∧ ∃ (B : Option Addr) (N c : Nat) (k : Int), e = .returned (.tuple #[.slice B N c, .int .i64 k]) ∧ N ≤ 40 ∧
        ((k != 0) = true ∨ (k = 0 ∧ ∃ g h, N = n.toNat ∧ runG n l f1 f2 e1 e2 = true ∧ plO l (f1, f2) (fun _ => (-e1, e2)) l.length = some g ∧ plO l (f1, f2) (fun _ => (e1, e2)) l.length = some h ∧ BandsR w' w'.heap.size B N g h))) := by
  refine (Run_c n l f1 f2 e1 e2 A cap w hl hlen).mono ?_
  rintro e w' ⟨hb, ⟨_, rfl⟩ | ⟨_, _, rfl⟩ | ⟨hg, g, h, B, c, p1, p2, rfl, hB⟩⟩
  · exact ⟨hb, none, 0, 0, 1, rfl, by omega, Or.inl rfl⟩
  · exact ⟨hb, none, 0, 0, 3, rfl, by omega, Or.inl rfl⟩
  · have hn : n.toNat ≤ 40 := by
      have hg' := hg
      unfold runG at hg'
      simp only [Bool.and_eq_true] at hg'
      have := vld_len hg'.1
      omega
    exact ⟨hb, B, n.toNat, c, 0, rfl, hn, Or.inr ⟨rfl, g, h, rfl, hg, p1, p2, hB⟩⟩
theorem Play_u (n : Int) (l : List Bt) (f1 f2 : Int) (M : Nat) (off : Nat → Int × Int) (A Ao : Option Addr) (cap capo : Nat) (w : World) (hl : Lst w w.heap.size A l) (ho : RatsR w w.heap.size Ao M off) (hlen : l.length ≤ 9223372036854775807) (hM : M ≤ 9223372036854775807) :
    Calls Tryd.prog 10 #[.int .i64 n, .slice A l.length cap, .agg #[.int .i64 f1, .int .i64 f2], .slice Ao M capo] w
      (fun e w' => Below w.heap.size w w' ∧ ∃ (B : Option Addr) (N c : Nat) (k : Int), e = .returned (.tuple #[.slice B N c, .int .i64 k]) ∧ N ≤ 40 ∧
        ((k != 0) = true ∨ (k = 0 ∧ ∃ g, N = n.toNat ∧ plyG n l f1 f2 M off = true ∧ plO l (f1, f2) off l.length = some g ∧ RatsR w' w'.heap.size B N g))) := by
  refine (Play_c n l f1 f2 M off A Ao cap capo w hl ho hlen hM).mono ?_
  rintro e w' ⟨hb, ⟨_, rfl⟩ | ⟨_, _, rfl⟩ | ⟨hg, g, B, p1, rfl, hB⟩⟩
  · exact ⟨hb, none, 0, 0, 1, rfl, by omega, Or.inl rfl⟩
  · exact ⟨hb, none, 0, 0, 3, rfl, by omega, Or.inl rfl⟩
  · have hn : n.toNat ≤ 40 := by
      have hg' := hg
      unfold plyG at hg'
      simp only [Bool.and_eq_true] at hg'
      have := vld_len hg'.1
      omega
    exact ⟨hb, B, n.toNat, _, 0, rfl, hn, Or.inr ⟨rfl, g, rfl, hg, p1, hB⟩⟩
/-- Cmp of numbers of which one is known not to be above the other. -/
theorem Cmp_le (a1 a2 b1 b2 : Int) (ha : vR a1 a2 = true) (hb : vR b1 b2 = true) (h : Le (a1, a2) (b1, b2)) (w : World) : Calls Tryd.prog 20 #[.agg #[.int .i64 a1, .int .i64 a2], .agg #[.int .i64 b1, .int .i64 b2]] w
    (fun e w' => Below w.heap.size w w' ∧ ∃ c : Int, e = .returned (.tuple #[.int .i64 c, .int .i64 0]) ∧ c ≤ 0) := by
  obtain ⟨c, hc, e⟩ := cmp_le (a := (a1, a2)) (b := (b1, b2)) ha hb h
  refine (Cmp_c a1 a2 b1 b2 w).mono ?_
  simp only at e
  rw [e]
  rintro e w' ⟨rfl, hb⟩
  exact ⟨hb, c, rfl, hc⟩
end Go.Proofs.YtehifkdfbiebfaaDoor
