/- What the rows' listed tables give; the start at which they lie as the program's text lays them. -/
import Derived.Test.YtmjbcoapceoakaaDoorRows
import Derived.Test.YtmjbcoapceoakaaDoorRatU
import Derived.ProofKit
import Derived.LaidMore
import Derived.OpenShut
import Derived.ChangeOld
import Derived.Lib.SmallJoins
import Derived.Stop.Joined
import Derived.Stop.LaidErr
namespace Go.Proofs.YtmjbcoapceoakaaDoor
open Go.ChangeShapes Go.WideShapes Go.ChangeAt Go.RowKit Go.Joins

theorem own : ownKnob Tryd.prog.godebug = none := by kernel_rfl
theorem laidOut : laidOutB Tryd.prog = true := by kernel_rfl
theorem door_met (os : Os) (args : Array Value) : laidMetH Tryd.prog Rows.rationalSumsRow.laid ((World.doorLaid Tryd.prog 62 os).forCall (fun _ _ => 0) ⟨#[], args, []⟩).memory :=
  laidMetH_of_parts3 (fuel := 8) (laidMet_of_run' 8 (by kernel_rfl) (by kernel_rfl)) (by kernel_rfl) (by kernel_rfl)
theorem pw_of_laid {W : World} (h : laidMetH Tryd.prog Rows.rationalSumsRow.laid W) : PW W := by
  rw [MakeChecks.laidMetH_plain _ _ _ (by kernel_rfl)] at h
  exact Lib.tabIs_of_head (g := 3) (t := 94) (e := 48) (n := 20) (rest := []) (by kernel_rfl) (by kernel_rfl) Tryd.underlying94 Tryd.underlying48 (by kernel_rfl) (by kernel_rfl) h.tail.tail
end Go.Proofs.YtmjbcoapceoakaaDoor
