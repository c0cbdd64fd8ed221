/-
  No cell of these rows narrows 'for every input' (looked for: loops, veiled, ifaces, maps, wideKeys, modest, calm, conditions, laid).
  DERIVED. THE GIVEN ROWS OF THIS SEAT. 6 by the template 'for every input the law returns true; each argument reads behind the call as it read before'; 0 by the template 'total and deterministic' (their statements: YtebldhppnacdjaaTotals.lean).
  GIVEN WITH THE SEED: the statements are not yours to turn. If you find one false, say at which input.
  Laid BY PROGRAM, IN A SANDBOX (cutbox-rows.mjs): the forced cells as the released guide's own fill.sh prints them over the translation eaddb00e481a2bc8… (all of the seat's roots in one cut). By AI agents, Wed Nov 11 2026. No macro, syntax, notation, axiom, sorry.
-/
import Derived.Test.YtebldhppnacdjaaChecked
import GoSem.Claim
import GoSem.ClaimJoined
import GoSem.ClaimMapViews
import Derived.JoinedTies
import Derived.KernelRfl
namespace Go.Proofs.Ytebldhppnacdjaa
/- THE CELL 'sum', in the pinned program and in every row, IS THE sha256 OF THE DUMP (.gsa) THAT YtebldhppnacdjaaProg.lean LOADS. Nothing in Lean hashes anything: it is a label: what it is worth is what the hold of that sum in a sandbox is worth. -/
noncomputable def Try.pinned : Pinned := { name := "ytebldhppnacdjaa", sum := "eaddb00e481a2bc8aaf0f78ad06ac32549e8bbe825ad9635959c49c9428978ae", checked := Try.checked }
namespace Rows
def none {H : Type} : Left H := { results := [], args := [] }

/-- 'azimuthlaw02.FloatsTexts': WHATEVER THE INPUT: true; the input reads as it did. -/
def floatsTextsSpec : ChangeSpec := { name := "floatsTexts", fn := fun _ => fun
  | [d1, d2] => { results := [.lit (.bool true)], args := [d1, d2] }
  | _ => none }
def floatsTextsRow : OpenClaim := { program := "ytebldhppnacdjaa", sum := "eaddb00e481a2bc8aaf0f78ad06ac32549e8bbe825ad9635959c49c9428978ae", func := "azimuth/azimuthlaw02.FloatsTexts", spec := "floatsTexts", inPlace := ["internal/bytealg.IndexByteString", "math.Float64frombits", "math.Float64bits"], apart := false }
def FloatsTextsSaid : Prop := floatsTextsRow.holds Try.pinned (OpenSpec.ofChange floatsTextsSpec)

/-- ITS FALSE NEIGHBOUR: 'it returns false'. Refute it at one input. -/
def floatsTextsWrong : ChangeSpec := { name := "floatsTexts", fn := fun _ => fun
  | [d1, d2] => { results := [.lit (.bool false)], args := [d1, d2] }
  | _ => none }
def FloatsTextsWrongFalsely : Prop := floatsTextsRow.holds Try.pinned (OpenSpec.ofChange floatsTextsWrong)

/-- 'azimuthlaw02.FloatsSums': WHATEVER THE INPUT: true; the input reads as it did. -/
def floatsSumsSpec : ChangeSpec := { name := "floatsSums", fn := fun _ => fun
  | [d1, d2] => { results := [.lit (.bool true)], args := [d1, d2] }
  | _ => none }
def floatsSumsRow : OpenClaim := { program := "ytebldhppnacdjaa", sum := "eaddb00e481a2bc8aaf0f78ad06ac32549e8bbe825ad9635959c49c9428978ae", func := "azimuth/azimuthlaw02.FloatsSums", spec := "floatsSums", inPlace := ["internal/bytealg.IndexByteString", "math.Float64frombits", "math.Float64bits"], apart := false }
def FloatsSumsSaid : Prop := floatsSumsRow.holds Try.pinned (OpenSpec.ofChange floatsSumsSpec)

/-- ITS FALSE NEIGHBOUR: 'it returns false'. Refute it at one input. -/
def floatsSumsWrong : ChangeSpec := { name := "floatsSums", fn := fun _ => fun
  | [d1, d2] => { results := [.lit (.bool false)], args := [d1, d2] }
  | _ => none }
def FloatsSumsWrongFalsely : Prop := floatsSumsRow.holds Try.pinned (OpenSpec.ofChange floatsSumsWrong)

/-- 'azimuthlaw02.FloatsLess': WHATEVER THE INPUT: true; the input reads as it did. -/
def floatsLessSpec : ChangeSpec := { name := "floatsLess", fn := fun _ => fun
  | [d1, d2, d3] => { results := [.lit (.bool true)], args := [d1, d2, d3] }
  | _ => none }
def floatsLessRow : OpenClaim := { program := "ytebldhppnacdjaa", sum := "eaddb00e481a2bc8aaf0f78ad06ac32549e8bbe825ad9635959c49c9428978ae", func := "azimuth/azimuthlaw02.FloatsLess", spec := "floatsLess", inPlace := ["internal/bytealg.IndexByteString", "math.Float64frombits", "math.Float64bits"], apart := false }
def FloatsLessSaid : Prop := floatsLessRow.holds Try.pinned (OpenSpec.ofChange floatsLessSpec)

/-- ITS FALSE NEIGHBOUR: 'it returns false'. Refute it at one input. -/
def floatsLessWrong : ChangeSpec := { name := "floatsLess", fn := fun _ => fun
  | [d1, d2, d3] => { results := [.lit (.bool false)], args := [d1, d2, d3] }
  | _ => none }
def FloatsLessWrongFalsely : Prop := floatsLessRow.holds Try.pinned (OpenSpec.ofChange floatsLessWrong)

/-- 'azimuthlaw02.FloatsOrder': WHATEVER THE INPUT: true; the input reads as it did. -/
def floatsOrderSpec : ChangeSpec := { name := "floatsOrder", fn := fun _ => fun
  | [d1, d2] => { results := [.lit (.bool true)], args := [d1, d2] }
  | _ => none }
def floatsOrderRow : OpenClaim := { program := "ytebldhppnacdjaa", sum := "eaddb00e481a2bc8aaf0f78ad06ac32549e8bbe825ad9635959c49c9428978ae", func := "azimuth/azimuthlaw02.FloatsOrder", spec := "floatsOrder", inPlace := ["internal/bytealg.IndexByteString", "math.Float64frombits", "math.Float64bits"], apart := false }
def FloatsOrderSaid : Prop := floatsOrderRow.holds Try.pinned (OpenSpec.ofChange floatsOrderSpec)

/-- ITS FALSE NEIGHBOUR: 'it returns false'. Refute it at one input. -/
def floatsOrderWrong : ChangeSpec := { name := "floatsOrder", fn := fun _ => fun
  | [d1, d2] => { results := [.lit (.bool false)], args := [d1, d2] }
  | _ => none }
def FloatsOrderWrongFalsely : Prop := floatsOrderRow.holds Try.pinned (OpenSpec.ofChange floatsOrderWrong)

/-- 'azimuthlaw02.FloatsSwap': WHATEVER THE INPUT: true; the input reads as it did. -/
def floatsSwapSpec : ChangeSpec := { name := "floatsSwap", fn := fun _ => fun
  | [d1, d2] => { results := [.lit (.bool true)], args := [d1, d2] }
  | _ => none }
def floatsSwapRow : OpenClaim := { program := "ytebldhppnacdjaa", sum := "eaddb00e481a2bc8aaf0f78ad06ac32549e8bbe825ad9635959c49c9428978ae", func := "azimuth/azimuthlaw02.FloatsSwap", spec := "floatsSwap", inPlace := ["internal/bytealg.IndexByteString", "math.Float64frombits", "math.Float64bits"], apart := false }
def FloatsSwapSaid : Prop := floatsSwapRow.holds Try.pinned (OpenSpec.ofChange floatsSwapSpec)

/-- ITS FALSE NEIGHBOUR: 'it returns false'. Refute it at one input. -/
def floatsSwapWrong : ChangeSpec := { name := "floatsSwap", fn := fun _ => fun
  | [d1, d2] => { results := [.lit (.bool false)], args := [d1, d2] }
  | _ => none }
def FloatsSwapWrongFalsely : Prop := floatsSwapRow.holds Try.pinned (OpenSpec.ofChange floatsSwapWrong)

/-- 'azimuthlaw02.FloatsWhole': WHATEVER THE INPUT: true; the input reads as it did. -/
def floatsWholeSpec : ChangeSpec := { name := "floatsWhole", fn := fun _ => fun
  | [d1, d2] => { results := [.lit (.bool true)], args := [d1, d2] }
  | _ => none }
def floatsWholeRow : OpenClaim := { program := "ytebldhppnacdjaa", sum := "eaddb00e481a2bc8aaf0f78ad06ac32549e8bbe825ad9635959c49c9428978ae", func := "azimuth/azimuthlaw02.FloatsWhole", spec := "floatsWhole", inPlace := ["internal/bytealg.IndexByteString", "math.Float64frombits", "math.Float64bits", "math.archTrunc"], apart := false }
def FloatsWholeSaid : Prop := floatsWholeRow.holds Try.pinned (OpenSpec.ofChange floatsWholeSpec)

/-- ITS FALSE NEIGHBOUR: 'it returns false'. Refute it at one input. -/
def floatsWholeWrong : ChangeSpec := { name := "floatsWhole", fn := fun _ => fun
  | [d1, d2] => { results := [.lit (.bool false)], args := [d1, d2] }
  | _ => none }
def FloatsWholeWrongFalsely : Prop := floatsWholeRow.holds Try.pinned (OpenSpec.ofChange floatsWholeWrong)

/- THE SECOND FORM. 'bulk': how many values and letters a reading holds, each counted each time it is reached (what is shared counts as often as it is met; a slice's spare places count too). A statement '..UptoSaid' is the law's where the arguments, and the package variables that the reading takes, are together of bulk at most 1048576: NARROWER than '..Said'. Prove '..Said' where nothing that the law and all that it calls make is longer than what came in: it says more and counts as full. Else prove '..UptoSaid'. A law counts once. -/
mutual
def uptoBulk {H : Type} : DataW H → Nat
  | .lit (.string bytes) => bytes.length + 1
  | .lit _ => 1
  | .nil => 1
  | .ptr d => uptoBulk d + 1
  | .slice elems spare => uptoBulkAll elems + uptoBulkAll spare + 1
  | .agg parts => uptoBulkAll parts + 1
  | .iface _ d => uptoBulk d + 1
  | .map entries => uptoBulkEntries entries + 1
  | .held _ => 1
def uptoBulkAll {H : Type} : List (DataW H) → Nat
  | [] => 0
  | d :: r => uptoBulk d + uptoBulkAll r
def uptoBulkEntries {H : Type} : List (Lit × DataW H) → Nat
  | [] => 0
  | x :: r => uptoBulkEntry x + uptoBulkEntries r
def uptoBulkEntry {H : Type} : Lit × DataW H → Nat
  | (.string bytes, d) => bytes.length + uptoBulk d + 1
  | (_, d) => uptoBulk d + 1
 end
def uptoSmall : (H : Type) → List (DataW H) → Bool := fun _ ds => decide (uptoBulkAll ds ≤ 1048576)
def OpenSpec.upto (s : _root_.Go.ChangeSpec) : _root_.Go.OpenSpec := { _root_.Go.OpenSpec.ofChange s with cond := some uptoSmall }

/-- 'azimuthlaw02.FloatsTexts', WHERE WHAT IT READS IS OF BULK AT MOST 1048576: true; the input reads as it did. -/
def floatsTextsUptoRow : OpenClaim := { program := "ytebldhppnacdjaa", sum := "eaddb00e481a2bc8aaf0f78ad06ac32549e8bbe825ad9635959c49c9428978ae", func := "azimuth/azimuthlaw02.FloatsTexts", spec := "floatsTexts", inPlace := ["internal/bytealg.IndexByteString", "math.Float64frombits", "math.Float64bits"], apart := false, narrowed := true }
def FloatsTextsUptoSaid : Prop := floatsTextsUptoRow.holds Try.pinned (OpenSpec.upto floatsTextsSpec)

/-- 'azimuthlaw02.FloatsSums', WHERE WHAT IT READS IS OF BULK AT MOST 1048576: true; the input reads as it did. -/
def floatsSumsUptoRow : OpenClaim := { program := "ytebldhppnacdjaa", sum := "eaddb00e481a2bc8aaf0f78ad06ac32549e8bbe825ad9635959c49c9428978ae", func := "azimuth/azimuthlaw02.FloatsSums", spec := "floatsSums", inPlace := ["internal/bytealg.IndexByteString", "math.Float64frombits", "math.Float64bits"], apart := false, narrowed := true }
def FloatsSumsUptoSaid : Prop := floatsSumsUptoRow.holds Try.pinned (OpenSpec.upto floatsSumsSpec)

/-- 'azimuthlaw02.FloatsLess', WHERE WHAT IT READS IS OF BULK AT MOST 1048576: true; the input reads as it did. -/
def floatsLessUptoRow : OpenClaim := { program := "ytebldhppnacdjaa", sum := "eaddb00e481a2bc8aaf0f78ad06ac32549e8bbe825ad9635959c49c9428978ae", func := "azimuth/azimuthlaw02.FloatsLess", spec := "floatsLess", inPlace := ["internal/bytealg.IndexByteString", "math.Float64frombits", "math.Float64bits"], apart := false, narrowed := true }
def FloatsLessUptoSaid : Prop := floatsLessUptoRow.holds Try.pinned (OpenSpec.upto floatsLessSpec)

/-- 'azimuthlaw02.FloatsOrder', WHERE WHAT IT READS IS OF BULK AT MOST 1048576: true; the input reads as it did. -/
def floatsOrderUptoRow : OpenClaim := { program := "ytebldhppnacdjaa", sum := "eaddb00e481a2bc8aaf0f78ad06ac32549e8bbe825ad9635959c49c9428978ae", func := "azimuth/azimuthlaw02.FloatsOrder", spec := "floatsOrder", inPlace := ["internal/bytealg.IndexByteString", "math.Float64frombits", "math.Float64bits"], apart := false, narrowed := true }
def FloatsOrderUptoSaid : Prop := floatsOrderUptoRow.holds Try.pinned (OpenSpec.upto floatsOrderSpec)

/-- 'azimuthlaw02.FloatsSwap', WHERE WHAT IT READS IS OF BULK AT MOST 1048576: true; the input reads as it did. -/
def floatsSwapUptoRow : OpenClaim := { program := "ytebldhppnacdjaa", sum := "eaddb00e481a2bc8aaf0f78ad06ac32549e8bbe825ad9635959c49c9428978ae", func := "azimuth/azimuthlaw02.FloatsSwap", spec := "floatsSwap", inPlace := ["internal/bytealg.IndexByteString", "math.Float64frombits", "math.Float64bits"], apart := false, narrowed := true }
def FloatsSwapUptoSaid : Prop := floatsSwapUptoRow.holds Try.pinned (OpenSpec.upto floatsSwapSpec)

/-- 'azimuthlaw02.FloatsWhole', WHERE WHAT IT READS IS OF BULK AT MOST 1048576: true; the input reads as it did. -/
def floatsWholeUptoRow : OpenClaim := { program := "ytebldhppnacdjaa", sum := "eaddb00e481a2bc8aaf0f78ad06ac32549e8bbe825ad9635959c49c9428978ae", func := "azimuth/azimuthlaw02.FloatsWhole", spec := "floatsWhole", inPlace := ["internal/bytealg.IndexByteString", "math.Float64frombits", "math.Float64bits", "math.archTrunc"], apart := false, narrowed := true }
def FloatsWholeUptoSaid : Prop := floatsWholeUptoRow.holds Try.pinned (OpenSpec.upto floatsWholeSpec)

end Rows
end Go.Proofs.Ytebldhppnacdjaa
