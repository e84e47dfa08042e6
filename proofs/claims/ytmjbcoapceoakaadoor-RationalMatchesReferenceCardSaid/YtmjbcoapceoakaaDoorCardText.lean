/- What the listed variables of the laws on texts give; the start at which they lie as the program's text lays them. -/
import Derived.Test.YtmjbcoapceoakaaDoorCardBase
import Derived.Test.YtmjbcoapceoakaaDoorTxtE
import Derived.SizedLaws
import Derived.ChangeMaps5
import Derived.Lib.SmallJoins
namespace Go.Proofs.YtmjbcoapceoakaaDoor
open Go.ChangeShapes Go.WideShapes Go.ChangeAt Go.RowKit Go.Joins

theorem door_met5 (os : Os) (args : Array Value) : laidMetH Tryd.prog Rows.rationalTextRow.laid ((World.doorLaid Tryd.prog 62 os).forCall (fun _ _ => 0) ⟨#[], args, []⟩).memory :=
  laidMetH_of_parts3 (fuel := 8) (laidMet_of_run' 8 (by kernel_rfl) (by kernel_rfl)) (by kernel_rfl) (by kernel_rfl)
theorem gErrR : Tryd.prog.globalNamed "strconv.ErrRange" = some 2 := by kernel_rfl
theorem gErrS : Tryd.prog.globalNamed "strconv.ErrSyntax" = some 1 := by kernel_rfl
theorem star : "*" ++ "errors.errorString" = "*errors.errorString" := by decide
theorem rowErr (u : TypeId) (h : Tryd.prog.typeName? 3 u = some "*errors.errorString") : u = 104 :=
  typeName_ptr_named (nm := "errors.errorString") (by rw [star]; kernel_rfl) (by kernel_rfl) (by decide) u (by rw [star]; exact h)
theorem tw_of_laid {W : World} (h : laidMetH Tryd.prog Rows.rationalTextRow.laid W) : TW W := by
  rw [MakeChecks.laidMetH_plain _ _ _ (by kernel_rfl)] at h
  have hp : PW W := Lib.tabIs_of_head (g := 3) (t := 94) (e := 48) (n := 20) (by kernel_rfl) (by kernel_rfl) Tryd.underlying94 Tryd.underlying48 (by kernel_rfl) (by kernel_rfl) h.tail.tail
  obtain ⟨a0, s0, hv0, -, -, -⟩ := laid_sentinel (ti := 63) (tp := 104) (te := 106) (ts := 9) h.tail.tail.tail gErrR (by kernel_rfl) Tryd.underlying63 rowErr Tryd.underlying104 Tryd.underlying106 rfl rfl Tryd.underlying9 (by kernel_rfl) (by kernel_rfl)
  obtain ⟨a1, s1, hv1, -, -, -⟩ := laid_sentinel (ti := 63) (tp := 104) (te := 106) (ts := 9) h.tail.tail.tail.tail gErrS (by kernel_rfl) Tryd.underlying63 rowErr Tryd.underlying104 Tryd.underlying106 rfl rfl Tryd.underlying9 (by kernel_rfl) (by kernel_rfl)
  exact ⟨hp, ⟨_, (by have h0 := World.var?_cell gErrS hv1 0; simpa using h0), Or.inr ⟨_, _, rfl⟩⟩, ⟨_, (by have h0 := World.var?_cell gErrR hv0 0; simpa using h0), Or.inr ⟨_, _, rfl⟩⟩⟩
end Go.Proofs.YtmjbcoapceoakaaDoor
