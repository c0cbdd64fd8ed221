/- AlikeSelf: closed facts of its row. Conditions: none. -/
import Derived.Test.YtifilhkkgkihpaaGreatDoorRows
import Derived.JoinedOf
import Derived.SevenTiedAt
import Derived.KernelRfl
set_option linter.unusedVariables false
namespace Go.Proofs.YtifilhkkgkihpaaGreatDoor.alikeSelf
theorem j1 : (Rows.alikeSelfRow.inPlace == Tryz.pinned.checked.prog.inPlace 15) = true := by kernel_rfl
theorem j2 : (Rows.alikeSelfRow.unfollowed == Tryz.pinned.checked.prog.unfollowed 15) = true := by kernel_rfl
theorem j3 : (Rows.alikeSelfRow.recurses == Tryz.pinned.checked.prog.recurses 15) = true := by kernel_rfl
theorem j4 : (Rows.alikeSelfRow.named == Tryz.pinned.checked.prog.varsNamed 15) = true := by kernel_rfl
end Go.Proofs.YtifilhkkgkihpaaGreatDoor.alikeSelf
