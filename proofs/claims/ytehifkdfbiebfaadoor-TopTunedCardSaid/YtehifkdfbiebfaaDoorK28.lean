/- slices.Reverse at integers: the library's contract at this program, and of a row of the call's own. -/
import Derived.Test.YtehifkdfbiebfaaDoorK20
import Derived.Shelf.Slices.Cells
import Derived.Laws.IdiomCopy
namespace Go.Proofs.YtehifkdfbiebfaaDoor
open Go Go.RowKit

def lays112_ren : Go.Shelf.Ren := ⟨fun | 112 => 111 | n => n, fun | 28 => 22 | n => n, fun | n => n⟩
theorem lays112 : Go.Proofs.Lays.n112 Tryd.prog lays112_ren := {
  mixed := by kernel_rfl
  f112 := Tryd.func111.trans (congrArg some (by kernel_rfl))
  t0 := Tryd.underlying0
  a0 := Tryd.isAgg0
  z0 := Tryd.sizeOf0
  v0 := Tryd.zeroValue0
  t3 := Tryd.underlying3
  a3 := Tryd.isAgg3
  z3 := Tryd.sizeOf3
  v3 := Tryd.zeroValue3
  t4 := Tryd.underlying4
  a4 := Tryd.isAgg4
  z4 := Tryd.sizeOf4
  v4 := Tryd.zeroValue4
  t28 := Tryd.underlying22
  a28 := Tryd.isAgg22
  z28 := Tryd.sizeOf22
  v28 := Tryd.zeroValue22 }
theorem setCells_block (b : Nat) : ∀ (vs : List Value) (o : Nat) (w : World) (g : Nat), g ≠ b → (w.setCells b o vs).heap[g]? = w.heap[g]?
  | [], _, _, _, _ => rfl
  | v :: r, o, w, g, h => (setCells_block b r (o + 1) _ g h).trans (Below.heap_setCell w ⟨b, o, none⟩ v g h)
theorem setCells_rest (b : Nat) : ∀ (vs : List Value) (o : Nat) (w : World), (w.setCells b o vs).os = w.os ∧ (w.setCells b o vs).tape = w.tape ∧ (w.setCells b o vs).output = w.output ∧ (w.setCells b o vs).heap.size = w.heap.size
  | [], _, _ => ⟨rfl, rfl, rfl, rfl⟩
  | v :: r, o, w => by
    obtain ⟨h1, h2, h3, h4⟩ := setCells_rest b r (o + 1) (w.setCell ⟨b, o, none⟩ v)
    exact ⟨h1, h2, h3, h4.trans (by simp [World.setCell])⟩
theorem Rev_own {w : World} {base : Nat} {v : Value} {xs : List Int} (h : w.ownsRow base 3 1 v xs.length (xs.map (Value.int .i64))) (h0 : 0 < xs.length) (hl : xs.length ≤ 9223372036854775807) :
    Calls Tryd.prog 111 #[v] w fun e w' => e = .returned (.tuple #[]) ∧ Below base w w' ∧ ∃ A cap, v = .slice A xs.length cap ∧ IntsR w' w'.heap.size A xs.reverse := by
  have h' := h
  rcases h.2 with ⟨_, hz⟩ | ⟨g, cap, cur, rfl, hb, hh, _⟩
  · omega
  have hg := (Array.getElem?_eq_some_iff.1 hh).1
  have hc : ∀ j, j < xs.length → w.cell? ⟨g, 0 + j, none⟩ = some (.int .i64 (xs.getD j 0)) := fun j hj => by
    have := World.ownsRow.cellAt h' j (by omega)
    rw [Nat.zero_add, this, List.getElem?_map, List.getElem?_eq_getElem hj, List.getD_eq_getElem?_getD, List.getElem?_eq_getElem hj]
    rfl
  have hf : ∀ j, j < xs.length → w.frozen? ⟨g, 0 + j, none⟩ = false := fun j _ => World.ownsRow.frozenAt h' (0 + j)
  refine (Any.slices_Reverse_int_cells lays112 g 0 xs.length cap xs w (Nat.le_refl _) hl hc hf).mono ?_
  rintro e w' ⟨rfl, q, rfl⟩
  obtain ⟨r1, r2, r3, r4⟩ := setCells_rest g ((xs.take xs.length).reverse.map (Value.int .i64)) 0 (w.drewN q)
  refine ⟨rfl, ⟨r1, r2, r3, Nat.le_of_eq r4.symm, fun i hi => setCells_block g _ 0 _ i (by omega)⟩, _, cap, rfl, fun _ => ⟨g, 0, rfl, by rw [r4]; exact hg, fun i x hx => ?_⟩⟩
  rw [List.take_length]
  have hi : i < xs.reverse.length := (List.getElem?_eq_some_iff.1 hx).1
  have hi' : i < (xs.reverse.map (Value.int .i64)).length := by simpa using hi
  rw [World.cell?_setCells_in g _ 0 _ (fun j hj => by
    have hj' : j < xs.length := by simpa using hj
    have := hc j hj'
    show (w.cell? ⟨g, 0 + j, none⟩).isSome = true
    rw [this]; rfl) i hi']
  have e := (List.getElem?_eq_some_iff.1 hx).2
  rw [List.getElem_map, e]
end Go.Proofs.YtehifkdfbiebfaaDoor
