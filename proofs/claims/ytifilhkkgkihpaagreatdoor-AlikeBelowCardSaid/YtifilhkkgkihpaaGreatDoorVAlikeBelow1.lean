/- AlikeBelow: closed facts of its row. Conditions: none. -/
import Derived.Test.YtifilhkkgkihpaaGreatDoorRows
import Derived.JoinedOf
import Derived.SevenTiedAt
import Derived.KernelRfl
set_option linter.unusedVariables false
namespace Go.Proofs.YtifilhkkgkihpaaGreatDoor.alikeBelow
theorem j1 : (Rows.alikeBelowRow.inPlace == Tryz.pinned.checked.prog.inPlace 17) = true := by kernel_rfl
theorem j2 : (Rows.alikeBelowRow.unfollowed == Tryz.pinned.checked.prog.unfollowed 17) = true := by kernel_rfl
theorem j3 : (Rows.alikeBelowRow.recurses == Tryz.pinned.checked.prog.recurses 17) = true := by kernel_rfl
theorem j4 : (Rows.alikeBelowRow.named == Tryz.pinned.checked.prog.varsNamed 17) = true := by kernel_rfl
end Go.Proofs.YtifilhkkgkihpaaGreatDoor.alikeBelow
