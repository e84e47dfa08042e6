/- The reference's natural numbers: Pow of a number above 1. The reference's natural numbers: Pow of 1. -/
import Derived.Test.YtehifkdfbiebfaaDoorK12
import Derived.Test.YtehifkdfbiebfaaDoorK10
namespace Go.Proofs.YtehifkdfbiebfaaDoor
open Go.RowKit

theorem num_len {w : World} {B b n x : Nat} (h : Num w B b n x) (hx : x < Cap) : n ≤ 640 := by
  obtain ⟨f, _, hI⟩ := h
  exact cap_len hI hx
/-- The state of Pow after k rounds. -/
def RPowI (x : Nat) (w wr : World) (k b m : Nat) : Prop := Below w.heap.size w wr ∧ w.heap.size ≤ b ∧ Num wr wr.heap.size b m (x ^ k) ∧ m ≤ 640
theorem RPowI.bel {x : Nat} {w wr : World} {k b m : Nat} (h : RPowI x w wr k b m) : Below w.heap.size w wr := h.1
theorem RPowI.num {x : Nat} {w wr : World} {k b m : Nat} (h : RPowI x w wr k b m) : Num wr wr.heap.size b m (x ^ k) := h.2.2.1
theorem RPowI.len {x : Nat} {w wr : World} {k b m : Nat} (h : RPowI x w wr k b m) : m ≤ 640 := h.2.2.2
end Go.Proofs.YtehifkdfbiebfaaDoor
namespace Go.Proofs.YtehifkdfbiebfaaDoor
open Go.RowKit

theorem num_one {w : World} {B b n : Nat} (h : Num w B b n 1) : n = 1 ∧ b < B ∧ w.cell? ⟨b, 0, none⟩ = some (.int .u32 1) := by
  obtain ⟨f, ⟨h1, h2⟩, hI⟩ := h
  have hn : n ≤ 1 := isN_len (k := 1) hI (by decide)
  have hv := hI.val
  rcases n with _ | n
  · have : (0 : Nat) = 1 := hv
    omega
  · obtain rfl : n = 0 := by omega
    have e : f 0 = 1 := by
      have : 0 + f 0 * 4294967296 ^ 0 = 1 := hv
      simpa using this
    have := h2 0 (by omega)
    rw [e] at this
    exact ⟨rfl, h1, this⟩
end Go.Proofs.YtehifkdfbiebfaaDoor
