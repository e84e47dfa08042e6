/- Slices of vectors (six integers each). -/
import Derived.Test.YtehifkdfbiebfaaDoorK01
namespace Go.Proofs.YtehifkdfbiebfaaDoor
open Go Go.RowKit

/-- A slice of L vectors. -/
def VecsR (w : World) (B : Nat) (A : Option Addr) (L : Nat) (g : Nat → Nat → Int) : Prop :=
  0 < L → ∃ b off, A = some ⟨b, off, none⟩ ∧ b < B ∧ ∀ k, k < L → ∀ i, i < 6 → w.cell? ⟨b, off + k * 6 + i, none⟩ = some (.int .i64 (g k i))
theorem VecsR.below {w w' : World} {B L : Nat} {A : Option Addr} {g : Nat → Nat → Int} (h : VecsR w B A L g) (hb : Below B w w') : VecsR w' B A L g := fun h0 => by
  obtain ⟨b, o, e, hlt, hc⟩ := h h0
  exact ⟨b, o, e, hlt, fun k hk i hi => (hb.cell (p := ⟨b, o + k * 6 + i, none⟩) hlt).trans (hc k hk i hi)⟩
theorem VecsR.more {w : World} {B B' L : Nat} {A : Option Addr} {g : Nat → Nat → Int} (h : VecsR w B A L g) (hB : B ≤ B') : VecsR w B' A L g := fun h0 => by
  obtain ⟨b, o, e, hlt, hc⟩ := h h0
  exact ⟨b, o, e, by omega, hc⟩
theorem VecsR.up {w w' : World} {L : Nat} {A : Option Addr} {g : Nat → Nat → Int} (h : VecsR w w.heap.size A L g) (hb : Below w.heap.size w w') : VecsR w' w'.heap.size A L g := (h.below hb).more hb.size
/-- The cells of the vector k. -/
theorem VecsR.cells {w : World} {B L : Nat} {A : Option Addr} {g : Nat → Nat → Int} (h : VecsR w B A L g) {k : Nat} (hk : k < L) : ∃ b off, A = some ⟨b, off, none⟩ ∧ b < B ∧
    w.cell? ⟨b, off + k * 6, none⟩ = some (.int .i64 (g k 0)) ∧ w.cell? ⟨b, off + k * 6 + 1, none⟩ = some (.int .i64 (g k 1)) ∧ w.cell? ⟨b, off + k * 6 + 2, none⟩ = some (.int .i64 (g k 2)) ∧
    w.cell? ⟨b, off + k * 6 + 3, none⟩ = some (.int .i64 (g k 3)) ∧ w.cell? ⟨b, off + k * 6 + 4, none⟩ = some (.int .i64 (g k 4)) ∧ w.cell? ⟨b, off + k * 6 + 5, none⟩ = some (.int .i64 (g k 5)) := by
  obtain ⟨b, o, e, hlt, hc⟩ := h (by omega)
  exact ⟨b, o, e, hlt, hc k hk 0 (by omega), hc k hk 1 (by omega), hc k hk 2 (by omega), hc k hk 3 (by omega), hc k hk 4 (by omega), hc k hk 5 (by omega)⟩
end Go.Proofs.YtehifkdfbiebfaaDoor
