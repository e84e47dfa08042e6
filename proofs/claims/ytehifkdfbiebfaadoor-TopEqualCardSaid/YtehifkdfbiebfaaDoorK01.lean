/- Blocks: what a store into one of them leaves; the world of a place as a letter. Blocks and letters, for the seats that have no text BeatX. -/
import Derived.Test.YtehifkdfbiebfaaDoorK00
namespace Go.Proofs.YtehifkdfbiebfaaDoor
open Go Go.RowKit

theorem blk_far {a : World} {g : Nat} {t : TypeId} {cs : Array Value} {b i : Nat} {u : Value} (hne : g ≠ b) (h : Blk a g t cs) : Blk (a.setCell ⟨b, i, none⟩ u) g t cs := h.far hne u
theorem blk_st2 {a : World} {g : Nat} {t : TypeId} {p q x y : Value} (h : Blk a g t #[p, q]) : Blk ((a.setCell ⟨g, 0, none⟩ x).setCell ⟨g, 1, none⟩ y) g t #[x, y] := (h.set_ 0 x).set_ 1 y
theorem blk_st4 {a : World} {g : Nat} {t : TypeId} {p q r s x y z u : Value} (h : Blk a g t #[p, q, r, s]) : Blk ((((a.setCell ⟨g, 0, none⟩ x).setCell ⟨g, 1, none⟩ y).setCell ⟨g, 2, none⟩ z).setCell ⟨g, 3, none⟩ u) g t #[x, y, z, u] := (((h.set_ 0 x).set_ 1 y).set_ 2 z).set_ 3 u
theorem blk_st6 {a : World} {g : Nat} {t : TypeId} {p q r s u v p' q' r' s' u' v' : Value} (h : Blk a g t #[p, q, r, s, u, v]) : Blk ((((((a.setCell ⟨g, 0, none⟩ p').setCell ⟨g, 1, none⟩ q').setCell ⟨g, 2, none⟩ r').setCell ⟨g, 3, none⟩ s').setCell ⟨g, 4, none⟩ u').setCell ⟨g, 5, none⟩ v') g t #[p', q', r', s', u', v'] := (((((h.set_ 0 p').set_ 1 q').set_ 2 r').set_ 3 s').set_ 4 u').set_ 5 v'
theorem blk_s {a : World} {g : Nat} {t : TypeId} {cs cs' : Array Value} {i : Nat} {u : Value} (h : Blk a g t cs) (e : cs' = cs.setIfInBounds i u) : Blk (a.setCell ⟨g, i, none⟩ u) g t cs' := by
  rw [e]
  exact h.set_ i u
theorem blk_up {a b : World} {g : Nat} {t : TypeId} {cs : Array Value} (h : Blk a g t cs) (hb : Below a.heap.size a b) : Blk b g t cs := h.below hb h.lt
theorem wp_named {P : Program} {c : Code} {Q : Exit → Act → World → Prop} {a : Act} {w : World} (h : ∀ W, W = w → c.wp P Q a W) : c.wp P Q a w := h w rfl
end Go.Proofs.YtehifkdfbiebfaaDoor
namespace Go.Proofs.YtehifkdfbiebfaaDoor
open Go Go.RowKit

theorem blk_last {a b : World} {g : Nat} {t : TypeId} {cs : Array Value} (h : Blk a g t cs) (hb : Below a.heap.size a b) : Blk b g t cs := h.below hb h.lt
theorem blkAt (w : World) (t : TypeId) (cs : Array Value) (g : Nat) (h : g = w.heap.size) : Blk (w.alloc (.cells cs t)) g t cs := by
  subst h
  exact Blk.new _ _ _
theorem wp_letter {P : Program} {c : Code} {Q : Exit → Act → World → Prop} {a : Act} {w : World} (h : ∀ W, W = w → c.wp P Q a W) : c.wp P Q a w := h w rfl
theorem calls_letter {P : Program} {f : FuncId} {args : Array Value} {w : World} {Q : Ending → World → Prop} (h : ∀ W, W = w → Calls P f args W Q) : Calls P f args w Q := h w rfl
end Go.Proofs.YtehifkdfbiebfaaDoor
