/- AlikeBelow: closed facts of its row, joined. Conditions: none. -/
import Derived.Test.YtifilhkkgkihpaaGreatDoorRows
import Derived.JoinedOf
import Derived.SevenTiedAt
import Derived.KernelRfl
import Derived.Test.YtifilhkkgkihpaaGreatDoorVAlikeBelow1
set_option linter.unusedVariables false
namespace Go.Proofs.YtifilhkkgkihpaaGreatDoor.alikeBelow
set_option maxRecDepth 100000 in
set_option maxHeartbeats 16000000 in
theorem joined : joinedFacts Tryz.pinned.checked.prog 17 Tryz.f17 Rows.alikeBelowSpec Rows.alikeBelowRow = true := by
  unfold joinedFacts
  simp only [Bool.and_eq_true]
  and_intros
  all_goals first | with_reducible exact j1 | with_reducible exact j2 | with_reducible exact j3 | with_reducible exact j4 | (as_aux_lemma => kernel_rfl)
theorem r1 : Tryz.pinned.checked.prog.funcNamed Rows.alikeBelowRow.func = some 17 := by kernel_rfl
theorem r2 : Tryz.f17.isInstance Tryz.pinned.checked.prog Rows.alikeBelowRow.origin Rows.alikeBelowRow.targs := (of_decide_eq_true (by kernel_rfl))
set_option maxRecDepth 100000 in
theorem r3 : Tryz.f17.isWrapper Tryz.pinned.checked.prog Rows.alikeBelowRow.wrapper Rows.alikeBelowRow.mainSum := (by unfold Func.isWrapper; first | (rw [if_pos (by decide +kernel)]; kernel_rfl) | (rw [if_neg (by decide +kernel)]; exact ⟨rfl, rfl⟩))
end Go.Proofs.YtifilhkkgkihpaaGreatDoor.alikeBelow
