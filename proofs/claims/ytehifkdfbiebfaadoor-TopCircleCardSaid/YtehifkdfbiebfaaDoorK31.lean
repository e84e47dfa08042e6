/- Bench: marked: the steps for which a closure answers yes; the closures of Item and Suspects. slices.Reverse at integers: the library's contract at this program, and of a row of the call's own. Bench: Item: the steps on which an item rests. -/
import Derived.Test.YtehifkdfbiebfaaDoorK30
import Derived.Maps.AppendAt
import Derived.Shelf.Slices.Cells
import Derived.Laws.IdiomCopy
namespace Go.Proofs.YtehifkdfbiebfaaDoor
open Go.RowKit

/-- The address A of a slice of the integers xs, which lie below block B. -/
def IntsR (w : World) (B : Nat) (A : Option Addr) (xs : List Int) : Prop :=
  0 < xs.length → ∃ b off, A = some ⟨b, off, none⟩ ∧ b < B ∧ ∀ i x, xs[i]? = some x → w.cell? ⟨b, off + i, none⟩ = some (.int .i64 x)
theorem IntsR.below {w w' : World} {B : Nat} {A : Option Addr} {xs : List Int} (h : IntsR w B A xs) (hb : Below B w w') : IntsR w' B A xs := fun h0 => by
  obtain ⟨b, off, hA, hB, hc⟩ := h h0
  exact ⟨b, off, hA, hB, fun i x hx => (hb.cell (p := ⟨b, off + i, none⟩) hB).trans (hc i x hx)⟩
theorem IntsR.more {w : World} {B B' : Nat} {A : Option Addr} {xs : List Int} (h : IntsR w B A xs) (hB : B ≤ B') : IntsR w B' A xs := fun h0 => by
  obtain ⟨b, off, hA, hb, hc⟩ := h h0
  exact ⟨b, off, hA, by omega, hc⟩
theorem grown_of_below {w w' : World} (h : Below w.heap.size w w') : w.grownBy w' none := ⟨h.os, h.tape, h.output, h.size, fun k hk _ => h.block k hk⟩
theorem own_below {w w' : World} {base n : Nat} {e : TypeId} {v : Value} {xs : List Value} {size : Nat} (h : w.ownsRow base e size v n xs) (hb : Below w.heap.size w w') : w'.ownsRow base e size v n xs := by
  refine h.kept (grown_of_below hb) ?_
  cases v.ownBlock with
  | none => exact .inl rfl
  | some b => exact .inr (by simp)
theorem ints_of_own {w : World} {base n : Nat} {e : TypeId} {v : Value} {xs : List Int} (h : w.ownsRow base e 1 v n (xs.map (Value.int .i64))) : ∃ A cap, v = .slice A xs.length cap ∧ IntsR w w.heap.size A xs := by
  have hlen : xs.length = n := by have := h.1; simpa using this
  rcases h.2 with ⟨rfl, h0⟩ | ⟨g, cap, cur, rfl, hb, hh, hc⟩
  · have : xs = [] := by
      cases xs with
      | nil => rfl
      | cons a ys => simp at hlen; omega
    subst this
    exact ⟨none, 0, rfl, fun h1 => absurd h1 (by simp)⟩
  · refine ⟨_, cap, by rw [hlen], fun _ => ⟨g, 0, rfl, ?_, fun i x hx => ?_⟩⟩
    · exact (Array.getElem?_eq_some_iff.1 hh).1
    · have hl : i < xs.length := (List.getElem?_eq_some_iff.1 hx).1
      have := World.ownsRow.cellAt h i (by omega)
      rw [Nat.zero_add, this, List.getElem?_map, hx]
      rfl
/-- The indices below L for which 'is' holds. -/
def selF (is : Nat → Bool) (L : Nat) : List Int := ((List.range L).filter is).map fun (i : Nat) => (i : Int)
theorem sel_yes {is : Nat → Bool} {k : Nat} (h : is k = true) : selF is (k + 1) = selF is k ++ [(k : Int)] := by
  simp [selF, List.range_succ, List.filter_append, h]
theorem sel_no {is : Nat → Bool} {k : Nat} (h : is k = false) : selF is (k + 1) = selF is k := by
  simp [selF, List.range_succ, List.filter_append, h]
theorem sel_len (is : Nat → Bool) (k : Nat) : (selF is k).length ≤ k := by
  have := List.length_filter_le is (List.range k)
  simpa [selF] using this
/-- What marked leaves. -/
def MarkP (L : Nat) (is : Nat → Bool) (w : World) (e : Ending) (w' : World) : Prop :=
  Below w.heap.size w w' ∧ ∃ A cap, e = .returned (.slice A (selF is L).length cap) ∧ IntsR w' w'.heap.size A (selF is L)








end Go.Proofs.YtehifkdfbiebfaaDoor
namespace Go.Proofs.YtehifkdfbiebfaaDoor
open Go Go.RowKit

def lays112_ren : Go.Shelf.Ren := ⟨fun | 112 => 111 | n => n, fun | 28 => 22 | n => n, fun | n => n⟩
theorem lays112 : Go.Proofs.Lays.n112 Tryd.prog lays112_ren := {
  mixed := by kernel_rfl
  f112 := Tryd.func111.trans (congrArg some (by kernel_rfl))
  t0 := Tryd.underlying0
  a0 := Tryd.isAgg0
  z0 := Tryd.sizeOf0
  v0 := Tryd.zeroValue0
  t3 := Tryd.underlying3
  a3 := Tryd.isAgg3
  z3 := Tryd.sizeOf3
  v3 := Tryd.zeroValue3
  t4 := Tryd.underlying4
  a4 := Tryd.isAgg4
  z4 := Tryd.sizeOf4
  v4 := Tryd.zeroValue4
  t28 := Tryd.underlying22
  a28 := Tryd.isAgg22
  z28 := Tryd.sizeOf22
  v28 := Tryd.zeroValue22 }
theorem setCells_block (b : Nat) : ∀ (vs : List Value) (o : Nat) (w : World) (g : Nat), g ≠ b → (w.setCells b o vs).heap[g]? = w.heap[g]?
  | [], _, _, _, _ => rfl
  | v :: r, o, w, g, h => (setCells_block b r (o + 1) _ g h).trans (Below.heap_setCell w ⟨b, o, none⟩ v g h)
theorem setCells_rest (b : Nat) : ∀ (vs : List Value) (o : Nat) (w : World), (w.setCells b o vs).os = w.os ∧ (w.setCells b o vs).tape = w.tape ∧ (w.setCells b o vs).output = w.output ∧ (w.setCells b o vs).heap.size = w.heap.size
  | [], _, _ => ⟨rfl, rfl, rfl, rfl⟩
  | v :: r, o, w => by
    obtain ⟨h1, h2, h3, h4⟩ := setCells_rest b r (o + 1) (w.setCell ⟨b, o, none⟩ v)
    exact ⟨h1, h2, h3, h4.trans (by simp [World.setCell])⟩
theorem Rev_own {w : World} {base : Nat} {v : Value} {xs : List Int} (h : w.ownsRow base 3 1 v xs.length (xs.map (Value.int .i64))) (h0 : 0 < xs.length) (hl : xs.length ≤ 9223372036854775807) :
    Calls Tryd.prog 111 #[v] w fun e w' => e = .returned (.tuple #[]) ∧ Below base w w' ∧ ∃ A cap, v = .slice A xs.length cap ∧ IntsR w' w'.heap.size A xs.reverse := by
  have h' := h
  rcases h.2 with ⟨_, hz⟩ | ⟨g, cap, cur, rfl, hb, hh, _⟩
  · omega
  have hg := (Array.getElem?_eq_some_iff.1 hh).1
  have hc : ∀ j, j < xs.length → w.cell? ⟨g, 0 + j, none⟩ = some (.int .i64 (xs.getD j 0)) := fun j hj => by
    have := World.ownsRow.cellAt h' j (by omega)
    rw [Nat.zero_add, this, List.getElem?_map, List.getElem?_eq_getElem hj, List.getD_eq_getElem?_getD, List.getElem?_eq_getElem hj]
    rfl
  have hf : ∀ j, j < xs.length → w.frozen? ⟨g, 0 + j, none⟩ = false := fun j _ => World.ownsRow.frozenAt h' (0 + j)
  refine (Any.slices_Reverse_int_cells lays112 g 0 xs.length cap xs w (Nat.le_refl _) hl hc hf).mono ?_
  rintro e w' ⟨rfl, q, rfl⟩
  obtain ⟨r1, r2, r3, r4⟩ := setCells_rest g ((xs.take xs.length).reverse.map (Value.int .i64)) 0 (w.drewN q)
  refine ⟨rfl, ⟨r1, r2, r3, Nat.le_of_eq r4.symm, fun i hi => setCells_block g _ 0 _ i (by omega)⟩, _, cap, rfl, fun _ => ⟨g, 0, rfl, by rw [r4]; exact hg, fun i x hx => ?_⟩⟩
  rw [List.take_length]
  have hi : i < xs.reverse.length := (List.getElem?_eq_some_iff.1 hx).1
  have hi' : i < (xs.reverse.map (Value.int .i64)).length := by simpa using hi
  rw [World.cell?_setCells_in g _ 0 _ (fun j hj => by
    have hj' : j < xs.length := by simpa using hj
    have := hc j hj'
    show (w.cell? ⟨g, 0 + j, none⟩).isSome = true
    rw [this]; rfl) i hi']
  have e := (List.getElem?_eq_some_iff.1 hx).2
  rw [List.getElem_map, e]
end Go.Proofs.YtehifkdfbiebfaaDoor
namespace Go.Proofs.YtehifkdfbiebfaaDoor
open Go Go.RowKit Go.Shelf
attribute [local go_sem] Oper.semAt_some

/-- Has step i come among the first k of the way? -/
def onK (l : List Bt) (x : Int) (k : Nat) (i : Nat) : Bool := (List.range k).any fun j => stF l (itL l x j) == (i : Int)
theorem onW_eq (l : List Bt) (x : Int) (i : Nat) : onW l x i = onK l x (wayK l x) i := rfl
theorem onK_succ (l : List Bt) (x : Int) (k i : Nat) : onK l x (k + 1) i = (onK l x k i || stF l (itL l x k) == (i : Int)) := by
  simp [onK, List.range_succ]
def onA (L : Nat) (l : List Bt) (x : Int) (k : Nat) : Array Value := ((List.range L).map fun (i : Nat) => Value.bool (onK l x k i)).toArray
theorem onA_zero (L : Nat) (l : List Bt) (x : Int) : onA L l x 0 = Array.replicate L (.bool false) := by
  apply Array.ext <;> simp [onA, onK]
theorem onA_get (L : Nat) (l : List Bt) (x : Int) (k : Nat) {i : Nat} (h : i < L) : (onA L l x k)[i]? = some (.bool (onK l x k i)) := by
  simp [onA, h]
theorem onA_set (L : Nat) (l : List Bt) (x : Int) (k : Nat) (h0 : 0 ≤ stF l (itL l x k)) : (onA L l x k).setIfInBounds (stF l (itL l x k)).toNat (.bool true) = onA L l x (k + 1) := by
  apply Array.ext
  · simp [onA]
  · intro i h1 h2
    have hi : i < L := by simpa [onA] using h2
    rw [Array.getElem_setIfInBounds (by simpa [onA] using hi)]
    simp only [onA, List.getElem_toArray, List.getElem_map, List.getElem_range, onK_succ]
    split
    · rename_i e
      have e' : stF l (itL l x k) = (i : Int) := by omega
      rw [e']
      simp
    · rename_i e
      have e' : (stF l (itL l x k) == (i : Int)) = false := by
        rw [beq_eq_false_iff_ne]
        omega
      rw [e', Bool.or_false]

theorem Tryd.infoBool : (Tryd.prog.info? 4).map (fun i => (i.zero, i.size, i.bytes)) = some (some (.bool false), 1, 1) := by kernel_rfl
theorem make_bools (N : Nat) (h : N ≤ 1000000) (W : World) : (Instr.makeSlice 124 (.int .i64 (N : Int)) (.int .i64 (N : Int))).run Tryd.prog W = .ok (.slice (some ⟨W.heap.size, 0, none⟩) N N) (W.alloc (.cells (Array.replicate N (.bool false)) 4)) := by
  obtain ⟨i, hi, hz0, hz1, hz2⟩ := info_parts Tryd.infoBool
  have := run_make (P := Tryd.prog) (w := W) 124 4 i (.bool false) Tryd.underlying124 hi hz0 .i64 .i64 (N : Int) (N : Int) (by omega) (by omega) (by rw [hz2]; omega) (by omega)
  rw [this, hz1]
  simp only [Int.toNat_natCast, Nat.mul_one]
  rw [show (Value.bool false).cells = #[.bool false] from rfl, made_one]



theorem grown_set (w : World) (g i : Nat) (u : Value) : w.grownBy (w.setCell ⟨g, i, none⟩ u) (some g) :=
  ⟨rfl, rfl, rfl, by simp [World.setCell], fun k _ hk => Below.heap_setCell _ _ _ _ (fun e => hk (by rw [e]))⟩

theorem ret_of_same {P : Program} {f : FuncId} {args : Array Value} {w : World} {v : Value} (h : Calls P f args w (RetS v w)) : Calls P f args w (Ret v w) := h.mono fun _ _ ⟨he, hw⟩ => ⟨he, by rw [← hw]; exact bl_refl _⟩

/-- Whatever is cells lies as it lay. -/
def CellsKept (w w' : World) : Prop := ∀ (k : Nat) (cs : Array Value) (t : TypeId) (f : Nat × Nat), w.heap[k]? = some (Obj.cells cs t f) → w'.heap[k]? = some (Obj.cells cs t f)
theorem cell_keptC {w w' : World} {a : Addr} {v : Value} (h : w.cell? a = some v) (hc : CellsKept w w') : w'.cell? a = some v := by
  obtain ⟨o, ho, hk⟩ := cells_of_cell h
  cases o with
  | cells cs t f => exact (World.cell?_of_block ((hc _ _ _ _ ho).trans ho.symm)).trans h
  | _ => simp [Obj.isCells] at hk
theorem IntsR.kept {w w' : World} {B : Nat} {A : Option Addr} {xs : List Int} (h : IntsR w B A xs) (hc : CellsKept w w') : IntsR w' B A xs := fun h0 => by
  obtain ⟨b, off, hA, hB, hcell⟩ := h h0
  exact ⟨b, off, hA, hB, fun i x hx => cell_keptC (hcell i x hx) hc⟩

def itB (n : Int) (l : List Bt) (x : Int) : Bool := vld n l && decide (0 ≤ x ∧ x < n)
/-- What Item leaves. -/
def ItemP (n : Int) (l : List Bt) (x : Int) (w : World) (e : Ending) (w' : World) : Prop :=
  Below w.heap.size w w' ∧ ((itB n l x = false ∧ e = .returned (.tuple #[.slice none 0 0, .int .i64 1])) ∨
    (itB n l x = true ∧ ∃ A cap, e = .returned (.tuple #[.slice A (selF (onW l x) l.length).length cap, .int .i64 0]) ∧ IntsR w' w'.heap.size A (selF (onW l x) l.length)))

end Go.Proofs.YtehifkdfbiebfaaDoor
