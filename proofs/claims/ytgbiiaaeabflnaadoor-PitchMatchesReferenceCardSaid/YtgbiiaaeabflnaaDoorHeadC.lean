/- The closed facts of chapter 3's head. -/
import Derived.Test.YtgbiiaaeabflnaaDoorParC
namespace Go.Proofs.YtgbiiaaeabflnaaDoor
open Go Go.RowKit

theorem ra_81 : raP 81 80 = .tuple #[.agg #[.int .i64 (-4), .int .i64 4, .int .i64 (-1), .int .i64 0, .int .i64 0, .int .i64 0], .int .i64 0] := by kernel_rfl
theorem ra_17 : raP 17 34 = .tuple #[.agg #[.int .i64 (-1), .int .i64 0, .int .i64 0, .int .i64 0, .int .i64 0, .int .i64 0], .int .i64 0] := by kernel_rfl
theorem ra_16 : raP 17 16 = .tuple #[.agg #[.int .i64 0, .int .i64 0, .int .i64 0, .int .i64 0, .int .i64 0, .int .i64 0], .int .i64 9] := by kernel_rfl
theorem up_81 : upN (-4) 4 (-1) 0 0 0 = 81 := by kernel_rfl
theorem dn_80 : dnN (-4) 4 (-1) 0 0 0 = 80 := by kernel_rfl
theorem of_five : ofV 0 0 1 0 0 0 = .tuple #[.agg #[.int .i64 0, .int .i64 0, .int .i64 12, .int .i64 0, .int .i64 0, .int .i64 0], .int .i64 0] := by kernel_rfl
theorem of_fifth : ofV (-1) 1 0 0 0 0 = .tuple #[.agg #[.int .i64 (-12), .int .i64 12, .int .i64 0, .int .i64 0, .int .i64 0, .int .i64 0], .int .i64 0] := by kernel_rfl
theorem pw_root : pwV 0 0 12 0 0 0 1 4 = .tuple #[.agg #[.int .i64 0, .int .i64 0, .int .i64 3, .int .i64 0, .int .i64 0, .int .i64 0], .int .i64 0] := by kernel_rfl
theorem wh_root : whV 0 0 3 0 0 0 = .tuple #[.agg #[.int .i64 0, .int .i64 0, .int .i64 0, .int .i64 0, .int .i64 0, .int .i64 0], .int .i64 9] := by kernel_rfl
theorem pc_one : pcV 0 0 3 0 0 0 (-12) 12 0 0 0 0 = .tuple #[.int .i64 (-1), .int .i64 0] := by kernel_rfl
theorem pc_two : pcV (-144) 144 0 0 0 0 84 0 0 0 0 0 = .tuple #[.int .i64 1, .int .i64 0] := by kernel_rfl
theorem tx_root : textV 0 0 3 0 0 0 = .tuple #[.string ⟨#[53, 94, 49, 47, 52]⟩, .int .i64 0] := by kernel_rfl
theorem tx_fifth : textV (-12) 12 0 0 0 0 = .tuple #[.string ⟨#[50, 94, 45, 49, 42, 51]⟩, .int .i64 0] := by kernel_rfl
theorem pr_1 : parV [51, 42, 50] = .tuple #[.agg #[.int .i64 0, .int .i64 0, .int .i64 0, .int .i64 0, .int .i64 0, .int .i64 0], .int .i64 8] := by kernel_rfl
theorem pr_2 : parV [50, 94, 50, 47, 50] = .tuple #[.agg #[.int .i64 0, .int .i64 0, .int .i64 0, .int .i64 0, .int .i64 0, .int .i64 0], .int .i64 8] := by kernel_rfl
theorem pr_3 : parV [50, 94, 49] = .tuple #[.agg #[.int .i64 0, .int .i64 0, .int .i64 0, .int .i64 0, .int .i64 0, .int .i64 0], .int .i64 8] := by kernel_rfl
theorem pr_4 : parV [50, 94, 45, 49, 42, 51] = .tuple #[.agg #[.int .i64 (-12), .int .i64 12, .int .i64 0, .int .i64 0, .int .i64 0, .int .i64 0], .int .i64 0] := by kernel_rfl
end Go.Proofs.YtgbiiaaeabflnaaDoor
