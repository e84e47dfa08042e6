/- TopEqual: what the determinant's closure looks at, over a store into the list of used columns. -/
import Derived.Test.YtehifkdfbiebfaaDoorK36
namespace Go.Proofs.YtehifkdfbiebfaaDoor
open Go Go.RowKit

/-- As ExpE, the blocks named, all apart from the block u. -/
structure ExpF (u : Nat) (w : World) (m pi pj pr : Nat) (col : Nat → Nat) (r : Nat → Int) : Prop where
  isl : ∃ ib ic, Blk w pi 22 #[.slice (some ⟨ib, 0, none⟩) m ic] ∧ ib < w.heap.size ∧ ib ≠ u ∧ ∀ k, k < m → w.cell? ⟨ib, k, none⟩ = some (.int .i64 0)
  jsl : ∃ jb jc, Blk w pj 22 #[.slice (some ⟨jb, 0, none⟩) m jc] ∧ jb < w.heap.size ∧ jb ≠ u ∧ ∀ k, k < m → w.cell? ⟨jb, k, none⟩ = some (.int .i64 (col k : Int))
  row : ∃ rb ro rc, Blk w pr 23 #[.slice (some ⟨rb, ro, none⟩) 1 rc] ∧ rb < w.heap.size ∧ rb ≠ u ∧ ∀ i, i < 6 → w.cell? ⟨rb, ro + i, none⟩ = some (.int .i64 (r i))
  ni : pi ≠ u
  nj : pj ≠ u
  nr : pr ≠ u
theorem ExpF.toE {u : Nat} {w : World} {m pi pj pr : Nat} {col : Nat → Nat} {r : Nat → Int} (h : ExpF u w m pi pj pr col r) : ExpE w m pi pj pr col r := by
  obtain ⟨⟨ib, ic, h1, h2, _, h3⟩, ⟨jb, jc, h4, h5, _, h6⟩, ⟨rb, ro, rc, h7, h8, _, h9⟩, _, _, _⟩ := h
  exact ⟨⟨ib, ic, h1, h2, h3⟩, ⟨jb, jc, h4, h5, h6⟩, rb, ro, rc, h7, h8, h9⟩
theorem blk_grow {w w' : World} {u q : Nat} {t : TypeId} {cs : Array Value} (h : Blk w q t cs) (hg : w.grownBy w' (some u)) (hne : q ≠ u) : Blk w' q t cs :=
  (hg.block q h.lt (fun e => hne (Option.some.inj e))).trans h
theorem ExpF.grow {u : Nat} {w w' : World} {m pi pj pr : Nat} {col : Nat → Nat} {r : Nat → Int} (h : ExpF u w m pi pj pr col r) (hg : w.grownBy w' (some u)) : ExpF u w' m pi pj pr col r := by
  obtain ⟨⟨ib, ic, h1, h2, ni, h3⟩, ⟨jb, jc, h4, h5, nj, h6⟩, ⟨rb, ro, rc, h7, h8, nr, h9⟩, n1, n2, n3⟩ := h
  have hs := hg.size
  exact ⟨⟨ib, ic, blk_grow h1 hg n1, by omega, ni, fun k hk => (hg.cell_far ⟨ib, k, none⟩ h2 (fun e => ni (Option.some.inj e))).trans (h3 k hk)⟩, ⟨jb, jc, blk_grow h4 hg n2, by omega, nj, fun k hk => (hg.cell_far ⟨jb, k, none⟩ h5 (fun e => nj (Option.some.inj e))).trans (h6 k hk)⟩, ⟨rb, ro, rc, blk_grow h7 hg n3, by omega, nr, fun i hi => (hg.cell_far ⟨rb, ro + i, none⟩ h8 (fun e => nr (Option.some.inj e))).trans (h9 i hi)⟩, n1, n2, n3⟩
theorem ExpF.up {u : Nat} {w w' : World} {m pi pj pr : Nat} {col : Nat → Nat} {r : Nat → Int} (h : ExpF u w m pi pj pr col r) (hb : Below w.heap.size w w') : ExpF u w' m pi pj pr col r :=
  h.grow ⟨hb.os, hb.tape, hb.output, hb.size, fun k hk _ => hb.block k hk⟩
end Go.Proofs.YtehifkdfbiebfaaDoor
