/- Small words for contracts: 'Ret v w': the call returns v and leaves all blocks that lay in w as they were. -/
import Derived.Test.YtmjbcoapceoakaaDoorProg
import Derived.WalkKit
import Derived.WalkSpells
import Derived.WalkLawsBesides
import Derived.Deep.RegionHeld3
import Derived.Deep.Draws
import Derived.Lib.Hide
namespace Go.Proofs.YtmjbcoapceoakaaDoor
open Go.RowKit

def Ret (v : Value) (w : World) (e : Ending) (w' : World) : Prop := e = .returned v ∧ Below w.heap.size w w'
theorem bl_refl (w : World) : Below w.heap.size w w := Below.refl _ _
theorem bl_trans {a b c : World} (h : Below a.heap.size a b) (k : Below b.heap.size b c) : Below a.heap.size a c := h.trans (k.mono h.size)
theorem bl_alloc {a b : World} (h : Below a.heap.size a b) (o : Obj) : Below a.heap.size a (b.alloc o) := h.alloc h.size _
theorem bl_drew {a b : World} (h : Below a.heap.size a b) : Below a.heap.size a b.drew := h.drew
theorem bl_drewN {a b : World} (h : Below a.heap.size a b) (n : Nat) : Below a.heap.size a (b.drewN n) := ⟨h.os, h.tape, h.output, h.size, h.block⟩
theorem bl_set {a b : World} (h : Below a.heap.size a b) {p : Addr} (hp : a.heap.size ≤ p.block) (u : Value) : Below a.heap.size a (b.setCell p u) := h.setCell hp u
theorem bl_set' {a b : World} {p : Addr} {u : Value} (hp : a.heap.size ≤ p.block) (h : Below a.heap.size a b) : Below a.heap.size a (b.setCell p u) := h.setCell hp u
theorem bl_last {a b c : World} (k : Below b.heap.size b c) (h : Below a.heap.size a b) : Below a.heap.size a c := bl_trans h k
theorem bcell {W w1 : World} (hb : Below W.heap.size W w1) : (∀ b o, b < W.heap.size → w1.cell? ⟨b, o, none⟩ = W.cell? ⟨b, o, none⟩) ∧ (∀ b o, b < W.heap.size → w1.frozen? ⟨b, o, none⟩ = W.frozen? ⟨b, o, none⟩) :=
  ⟨fun b o h => hb.cell (p := ⟨b, o, none⟩) h, fun b o h => hb.frozen (p := ⟨b, o, none⟩) h⟩
theorem ret_bool {a b : Bool} (h : a = b) : Ending.returned (.bool a) = .returned (.bool b) := by rw [h]
theorem ret_int {k : IntKind} {a b : Int} (h : a = b) : Ending.returned (.int k a) = .returned (.int k b) := by rw [h]
theorem ret_int2 {k : IntKind} {a b : Int} {x : Value} (h : a = b) : Ending.returned (.tuple #[.int k a, x]) = .returned (.tuple #[.int k b, x]) := by rw [h]
theorem keep_cell {w w' : World} (hb : Below w.heap.size w w') {a : Addr} {v : Value} (h : w.cell? a = some v) : w'.cell? a = some v := by
  rw [hb.cell (World.block_lt_of_cell? _ _ h)]; exact h
theorem keep_frozen {w w' : World} (hb : Below w.heap.size w w') {a : Addr} {v : Value} (h : w.cell? a = some v) (hf : w.frozen? a = false) : w'.frozen? a = false := by
  rw [hb.frozen (World.block_lt_of_cell? _ _ h)]; exact hf
theorem keep_size {w w' : World} (hb : Below w.heap.size w w') {n : Nat} (h : n < w.heap.size) : n < w'.heap.size := Nat.lt_of_lt_of_le h hb.size
/-- 'b < H' is said as an equation between two addresses: the walk's own procedure decides such an equation by linear arithmetic. -/
theorem lt_of_addr {b H : Nat} (h : (⟨b + 1 - H, 0, none⟩ : Addr) = ⟨0, 0, none⟩) : b < H := by
  have := congrArg Addr.block h
  simp at this
  omega
/-- Of a world of which 'Below' alone is known: the old cells and marks, as rules for the walk. -/
theorem bcl {W w' : World} {H : Nat} (hb : Below W.heap.size W w') (hH : W.heap.size = H) : (H ≤ w'.heap.size) ∧ (∀ b o, (⟨b + 1 - H, 0, none⟩ : Addr) = ⟨0, 0, none⟩ → w'.cell? ⟨b, o, none⟩ = W.cell? ⟨b, o, none⟩) ∧ (∀ b o, (⟨b + 1 - H, 0, none⟩ : Addr) = ⟨0, 0, none⟩ → w'.frozen? ⟨b, o, none⟩ = W.frozen? ⟨b, o, none⟩) := by
  subst hH
  exact ⟨hb.size, fun b o h => hb.cell (p := ⟨b, o, none⟩) (lt_of_addr h), fun b o h => hb.frozen (p := ⟨b, o, none⟩) (lt_of_addr h)⟩
@[go_sem] theorem cell?_alloc_far (w : World) (o : Obj) (b i : Nat) (h : (⟨b + 1 - w.heap.size, 0, none⟩ : Addr) = ⟨0, 0, none⟩) : (w.alloc o).cell? ⟨b, i, none⟩ = w.cell? ⟨b, i, none⟩ :=
  World.cell?_alloc_lt _ _ _ (lt_of_addr h)
@[go_sem] theorem frozen?_alloc_far (w : World) (o : Obj) (b i : Nat) (h : (⟨b + 1 - w.heap.size, 0, none⟩ : Addr) = ⟨0, 0, none⟩) : (w.alloc o).frozen? ⟨b, i, none⟩ = w.frozen? ⟨b, i, none⟩ :=
  World.frozen?_alloc_old _ _ _ (by have := lt_of_addr h; show b ≠ _; omega)
end Go.Proofs.YtmjbcoapceoakaaDoor
