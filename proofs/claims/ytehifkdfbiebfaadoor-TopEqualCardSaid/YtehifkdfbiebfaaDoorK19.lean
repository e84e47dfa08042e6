/- What TopEqual's listed tables give; the start at which they lie as the program's text lays them. -/
import Derived.Test.YtehifkdfbiebfaaDoorK04
import Derived.Test.YtehifkdfbiebfaaDoorK18
namespace Go.Proofs.YtehifkdfbiebfaaDoor
open Go.ChangeShapes Go.WideShapes Go.ChangeAt Go.RowKit Go.Joins

theorem pr_of_tab {W : World} (h : Lib.TabIs Tryd.prog W "schisma/pitch.primes" .i64 [2, 3, 5, 7, 11, 13]) : PR W := by
  have hgn : Tryd.prog.globalNamed "schisma/pitch.primes" = some 0 := by kernel_rfl
  refine ⟨?_, fun i hi => ?_⟩
  · unfold Lib.TabIs World.var? at h
    rw [hgn] at h
    simp only [Option.bind_some] at h
    rcases Nat.lt_or_ge 0 W.heap.size with h' | h'
    · exact h'
    · rw [Array.getElem?_eq_none h'] at h; cases h
  · have := h.cell hgn i (by simpa using hi)
    rw [this]
    rcases lt6 hi with rfl | rfl | rfl | rfl | rfl | rfl <;> rfl
theorem door_topEqual (os : Os) (args : Array Value) : laidMetH Tryd.prog Rows.topEqualRow.laid ((World.doorLaid Tryd.prog 62 os).forCall (fun _ _ => 0) ⟨#[], args, []⟩).memory :=
  laidMetH_of_parts3 (fuel := 8) (laidMet_of_run' 8 (by kernel_rfl) (by kernel_rfl)) (by kernel_rfl) (by kernel_rfl)
theorem topEqual_of_laid {W : World} (h : laidMetH Tryd.prog Rows.topEqualRow.laid W) : PR W := by
  rw [MakeChecks.laidMetH_plain _ _ _ (by kernel_rfl)] at h
  exact pr_of_tab (Lib.tabIs_of_head (g := 0) (t := 26) (e := 3) (n := 6) (rest := []) (by kernel_rfl) (by kernel_rfl) Tryd.underlying26 Tryd.underlying3 (by kernel_rfl) (by kernel_rfl) h)
end Go.Proofs.YtehifkdfbiebfaaDoor
