/- GraphNormal: closed facts of its row. Conditions: none. -/
import Derived.Test.YtifilhkkgkihpaaGreatDoorRows
import Derived.JoinedOf
import Derived.SevenTiedAt
import Derived.KernelRfl
set_option linter.unusedVariables false
namespace Go.Proofs.YtifilhkkgkihpaaGreatDoor.graphNormal
theorem j1 : (Rows.graphNormalRow.inPlace == Tryz.pinned.checked.prog.inPlace 7) = true := by kernel_rfl
theorem j2 : (Rows.graphNormalRow.unfollowed == Tryz.pinned.checked.prog.unfollowed 7) = true := by kernel_rfl
theorem j3 : (Rows.graphNormalRow.recurses == Tryz.pinned.checked.prog.recurses 7) = true := by kernel_rfl
theorem j4 : (Rows.graphNormalRow.named == Tryz.pinned.checked.prog.varsNamed 7) = true := by kernel_rfl
end Go.Proofs.YtifilhkkgkihpaaGreatDoor.graphNormal
