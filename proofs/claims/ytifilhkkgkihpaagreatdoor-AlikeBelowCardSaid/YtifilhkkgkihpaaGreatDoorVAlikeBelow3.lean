/- AlikeBelow: closed facts of its card. Conditions: none. -/
import Derived.Test.YtifilhkkgkihpaaGreatDoorRows
import Derived.JoinedOf
import Derived.SevenTiedAt
import Derived.KernelRfl
set_option linter.unusedVariables false
namespace Go.Proofs.YtifilhkkgkihpaaGreatDoor.alikeBelow
theorem p1 : Rows.alikeBelowRow.wfByText (OpenSpec.ofChange Rows.alikeBelowSpec) = true := by kernel_rfl
theorem p2 : Tryz.pinned.checked.prog.mainIs = some (true, "ee256039582477f60126b604fd1bf2c9aebe063c097a57aeaa24b2b2ddc0481b".toList) := by kernel_rfl
theorem p3 : true = Tryz.pinned.checked.prog.looks [] := by kernel_rfl
theorem p4 : false = Rows.alikeBelowRow.goesBy Tryz.pinned.checked.prog := by kernel_rfl
theorem p6 : ([36, 36].all fun u => !Tryz.pinned.checked.prog.wantsStandIn u) = true := by kernel_rfl
end Go.Proofs.YtifilhkkgkihpaaGreatDoor.alikeBelow
