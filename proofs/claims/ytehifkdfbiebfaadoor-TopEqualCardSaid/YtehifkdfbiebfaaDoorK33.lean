/- TopEqual: the determinant's closure at its end. -/
import Derived.Test.YtehifkdfbiebfaaDoorK32
namespace Go.Proofs.YtehifkdfbiebfaaDoor
open Go Go.RowKit

/-- The closure's pointers. -/
abbrev expA (pi pj pu pr pe : Nat) : Array Value := #[.pointer (some ⟨pi, 0, none⟩), .pointer (some ⟨pj, 0, none⟩), .pointer (some ⟨pu, 0, none⟩), .pointer (some ⟨pr, 0, none⟩), .pointer (some ⟨pe, 0, none⟩)]
set_option maxRecDepth 100000 in
theorem exp_end (m c pi pj pu pr pe : Nat) (A : Option Addr) (w : World) (hI : Blk w pi 22 #[.slice A m c]) :
    Calls Tryd.prog 164 #[.int .i64 (m : Int), .pointer (some ⟨pi, 0, none⟩), .pointer (some ⟨pj, 0, none⟩), .pointer (some ⟨pu, 0, none⟩), .pointer (some ⟨pr, 0, none⟩), .pointer (some ⟨pe, 0, none⟩)] w (Ret (.int .i64 1) w) := by
  have p_0 := hI.cell 0
  have zp := hI.lt
  simp only [List.getElem?_toArray, List.getElem?_cons_zero] at p_0
  have q1 : ((m : Int) == (m : Int)) = true := by simp
  clear hI
  go_enter Tryd.func164, Tryd.ntmps164
  go_wp2
  go_ret
  exact ⟨rfl, bl_refl _⟩
/-- What the closure looks at: the lists of rows (all 0) and columns, the row. -/
structure ExpE (w : World) (m pi pj pr : Nat) (col : Nat → Nat) (r : Nat → Int) : Prop where
  isl : ∃ ib ic, Blk w pi 22 #[.slice (some ⟨ib, 0, none⟩) m ic] ∧ ib < w.heap.size ∧ ∀ k, k < m → w.cell? ⟨ib, k, none⟩ = some (.int .i64 0)
  jsl : ∃ jb jc, Blk w pj 22 #[.slice (some ⟨jb, 0, none⟩) m jc] ∧ jb < w.heap.size ∧ ∀ k, k < m → w.cell? ⟨jb, k, none⟩ = some (.int .i64 (col k : Int))
  row : ∃ rb ro rc, Blk w pr 23 #[.slice (some ⟨rb, ro, none⟩) 1 rc] ∧ rb < w.heap.size ∧ ∀ i, i < 6 → w.cell? ⟨rb, ro + i, none⟩ = some (.int .i64 (r i))
theorem ExpE.up {w w' : World} {m pi pj pr : Nat} {col : Nat → Nat} {r : Nat → Int} (h : ExpE w m pi pj pr col r) (hb : Below w.heap.size w w') : ExpE w' m pi pj pr col r := by
  obtain ⟨⟨ib, ic, h1, h2, h3⟩, ⟨jb, jc, h4, h5, h6⟩, rb, ro, rc, h7, h8, h9⟩ := h
  have hs := hb.size
  exact ⟨⟨ib, ic, h1.below hb h1.lt, by omega, fun k hk => (hb.cell (p := ⟨ib, k, none⟩) h2).trans (h3 k hk)⟩, ⟨jb, jc, h4.below hb h4.lt, by omega, fun k hk => (hb.cell (p := ⟨jb, k, none⟩) h5).trans (h6 k hk)⟩, rb, ro, rc, h7.below hb h7.lt, by omega, fun i hi => (hb.cell (p := ⟨rb, ro + i, none⟩) h8).trans (h9 i hi)⟩
end Go.Proofs.YtehifkdfbiebfaaDoor
