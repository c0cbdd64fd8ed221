/- GraphTwice: closed facts of its row. Conditions: none. -/
import Derived.Test.YtifilhkkgkihpaaGreatDoorRows
import Derived.JoinedOf
import Derived.SevenTiedAt
import Derived.KernelRfl
set_option linter.unusedVariables false
namespace Go.Proofs.YtifilhkkgkihpaaGreatDoor.graphTwice
theorem j1 : (Rows.graphTwiceRow.inPlace == Tryz.pinned.checked.prog.inPlace 6) = true := by kernel_rfl
theorem j2 : (Rows.graphTwiceRow.unfollowed == Tryz.pinned.checked.prog.unfollowed 6) = true := by kernel_rfl
theorem j3 : (Rows.graphTwiceRow.recurses == Tryz.pinned.checked.prog.recurses 6) = true := by kernel_rfl
theorem j4 : (Rows.graphTwiceRow.named == Tryz.pinned.checked.prog.varsNamed 6) = true := by kernel_rfl
end Go.Proofs.YtifilhkkgkihpaaGreatDoor.graphTwice
