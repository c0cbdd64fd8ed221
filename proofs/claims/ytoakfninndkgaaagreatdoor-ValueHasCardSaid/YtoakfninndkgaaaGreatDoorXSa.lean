/- Walks: Find. -/
import Derived.Test.YtoakfninndkgaaaGreatDoorXRk
import Derived.Laws.ResultCell
set_option linter.unusedVariables false
namespace Go.Proofs.YtoakfninndkgaaaGreatDoor.Val
open Go.RowKit
def iVal (i : Int) : Value := .agg #[.int .i64 0, .int .i64 i, .int .u64 0, .string ⟨#[]⟩, .slice none 0 0, .slice none 0 0, .pointer none, .int .i64 0]
theorem results_28 {fn : Func} {p u : Tmp} (h : fn.results = #[.cell p 70, .tmp u]) (tmps : Array Value) (w : World) (g : Nat) (cs : Array Value) (hp : tmps.getD p undef = .pointer (some ⟨g, 0, none⟩)) (hg : w.heap[g]? = some (.cells cs 70 (0, 0))) (hi : (Tryz.prog.info? 70).map (·.size) = some cs.size) :
    (results fn tmps).run Tryz.prog w = .ok (.tuple #[.agg cs, tmps.getD u undef]) w := by
  rw [results_cell_tmp h, hp]
  simp [asAddr, run_loadVar_row w g 70 70 cs (0, 0) _ hg Tryz.underlying70 rfl hi]
end Go.Proofs.YtoakfninndkgaaaGreatDoor.Val
