/- Blocks and letters, for the seats that have no text BeatX. -/
import Derived.Test.YtmjbcoapceoakaaDoorBlks
namespace Go.Proofs.YtmjbcoapceoakaaDoor
open Go Go.RowKit

theorem blk_last {a b : World} {g : Nat} {t : TypeId} {cs : Array Value} (h : Blk a g t cs) (hb : Below a.heap.size a b) : Blk b g t cs := h.below hb h.lt
theorem blkAt (w : World) (t : TypeId) (cs : Array Value) (g : Nat) (h : g = w.heap.size) : Blk (w.alloc (.cells cs t)) g t cs := by
  subst h
  exact Blk.new _ _ _
theorem wp_letter {P : Program} {c : Code} {Q : Exit → Act → World → Prop} {a : Act} {w : World} (h : ∀ W, W = w → c.wp P Q a W) : c.wp P Q a w := h w rfl
theorem calls_letter {P : Program} {f : FuncId} {args : Array Value} {w : World} {Q : Ending → World → Prop} (h : ∀ W, W = w → Calls P f args W Q) : Calls P f args w Q := h w rfl
end Go.Proofs.YtmjbcoapceoakaaDoor
