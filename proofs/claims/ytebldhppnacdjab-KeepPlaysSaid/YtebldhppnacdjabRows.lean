/-
  No cell of these rows narrows 'for every input' (looked for: loops, veiled, ifaces, maps, wideKeys, modest, calm, conditions, laid).
  DERIVED. THE GIVEN ROWS OF THIS SEAT. 4 by the template 'for every input the law returns true; each argument reads behind the call as it read before'; 0 by the template 'total and deterministic' (their statements: YtebldhppnacdjabTotals.lean).
  GIVEN WITH THE SEED: the statements are not yours to turn. If you find one false, say at which input.
  Laid BY PROGRAM, IN A SANDBOX (cutbox-rows.mjs): the forced cells as the released guide's own fill.sh prints them over the translation 791b306948afa022… (all of the seat's roots in one cut). By AI agents, Wed Nov 11 2026. No macro, syntax, notation, axiom, sorry.
-/
import Derived.Test.YtebldhppnacdjabChecked
import GoSem.Claim
import GoSem.ClaimJoined
import GoSem.ClaimMapViews
import Derived.JoinedTies
import Derived.KernelRfl
namespace Go.Proofs.Ytebldhppnacdjab
/- THE CELL 'sum', in the pinned program and in every row, IS THE sha256 OF THE DUMP (.gsa) THAT YtebldhppnacdjabProg.lean LOADS. Nothing in Lean hashes anything: it is a label: what it is worth is what the hold of that sum in a sandbox is worth. -/
noncomputable def Try.pinned : Pinned := { name := "ytebldhppnacdjab", sum := "791b306948afa022da85e451511d795e7ef126eddf3054f40261fb2e0d4c5985", checked := Try.checked }
namespace Rows
def none {H : Type} : Left H := { results := [], args := [] }

/-- 'azimuthlaw26.KeepSame': WHATEVER THE INPUT: true; the input reads as it did. -/
def keepSameSpec : ChangeSpec := { name := "keepSame", fn := fun _ => fun
  | [d1, d2] => { results := [.lit (.bool true)], args := [d1, d2] }
  | _ => none }
def keepSameRow : OpenClaim := { program := "ytebldhppnacdjab", sum := "791b306948afa022da85e451511d795e7ef126eddf3054f40261fb2e0d4c5985", func := "azimuth/azimuthlaw26.KeepSame", spec := "keepSame", unfollowed := true, recurses := true, apart := false }
def KeepSameSaid : Prop := keepSameRow.holds Try.pinned (OpenSpec.ofChange keepSameSpec)

/-- ITS FALSE NEIGHBOUR: 'it returns false'. Refute it at one input. -/
def keepSameWrong : ChangeSpec := { name := "keepSame", fn := fun _ => fun
  | [d1, d2] => { results := [.lit (.bool false)], args := [d1, d2] }
  | _ => none }
def KeepSameWrongFalsely : Prop := keepSameRow.holds Try.pinned (OpenSpec.ofChange keepSameWrong)

/-- 'azimuthlaw26.KeepHashes': WHATEVER THE INPUT: true; the input reads as it did. -/
def keepHashesSpec : ChangeSpec := { name := "keepHashes", fn := fun _ => fun
  | [d] => { results := [.lit (.bool true)], args := [d] }
  | _ => none }
def keepHashesRow : OpenClaim := { program := "ytebldhppnacdjab", sum := "791b306948afa022da85e451511d795e7ef126eddf3054f40261fb2e0d4c5985", func := "azimuth/azimuthlaw26.KeepHashes", spec := "keepHashes", unfollowed := true, recurses := true, apart := false }
def KeepHashesSaid : Prop := keepHashesRow.holds Try.pinned (OpenSpec.ofChange keepHashesSpec)

/-- ITS FALSE NEIGHBOUR: 'it returns false'. Refute it at one input. -/
def keepHashesWrong : ChangeSpec := { name := "keepHashes", fn := fun _ => fun
  | [d] => { results := [.lit (.bool false)], args := [d] }
  | _ => none }
def KeepHashesWrongFalsely : Prop := keepHashesRow.holds Try.pinned (OpenSpec.ofChange keepHashesWrong)

/-- 'azimuthlaw26.KeepPlays': WHATEVER THE INPUT: true; the input reads as it did. -/
def keepPlaysSpec : ChangeSpec := { name := "keepPlays", fn := fun _ => fun
  | [d1, d2, d3] => { results := [.lit (.bool true)], args := [d1, d2, d3] }
  | _ => none }
def keepPlaysRow : OpenClaim := { program := "ytebldhppnacdjab", sum := "791b306948afa022da85e451511d795e7ef126eddf3054f40261fb2e0d4c5985", func := "azimuth/azimuthlaw26.KeepPlays", spec := "keepPlays", unfollowed := true, recurses := true, apart := false }
def KeepPlaysSaid : Prop := keepPlaysRow.holds Try.pinned (OpenSpec.ofChange keepPlaysSpec)

/-- ITS FALSE NEIGHBOUR: 'it returns false'. Refute it at one input. -/
def keepPlaysWrong : ChangeSpec := { name := "keepPlays", fn := fun _ => fun
  | [d1, d2, d3] => { results := [.lit (.bool false)], args := [d1, d2, d3] }
  | _ => none }
def KeepPlaysWrongFalsely : Prop := keepPlaysRow.holds Try.pinned (OpenSpec.ofChange keepPlaysWrong)

/-- 'azimuthlaw26.KeepNone': WHATEVER THE INPUT: true; the input reads as it did. -/
def keepNoneSpec : ChangeSpec := { name := "keepNone", fn := fun _ => fun
  | [d1, d2] => { results := [.lit (.bool true)], args := [d1, d2] }
  | _ => none }
def keepNoneRow : OpenClaim := { program := "ytebldhppnacdjab", sum := "791b306948afa022da85e451511d795e7ef126eddf3054f40261fb2e0d4c5985", func := "azimuth/azimuthlaw26.KeepNone", spec := "keepNone", unfollowed := true, recurses := true, apart := false }
def KeepNoneSaid : Prop := keepNoneRow.holds Try.pinned (OpenSpec.ofChange keepNoneSpec)

/-- ITS FALSE NEIGHBOUR: 'it returns false'. Refute it at one input. -/
def keepNoneWrong : ChangeSpec := { name := "keepNone", fn := fun _ => fun
  | [d1, d2] => { results := [.lit (.bool false)], args := [d1, d2] }
  | _ => none }
def KeepNoneWrongFalsely : Prop := keepNoneRow.holds Try.pinned (OpenSpec.ofChange keepNoneWrong)

/- THE SECOND FORM. 'bulk': how many values and letters a reading holds, each counted each time it is reached (what is shared counts as often as it is met; a slice's spare places count too). A statement '..UptoSaid' is the law's where the arguments, and the package variables that the reading takes, are together of bulk at most 1048576: NARROWER than '..Said'. Prove '..Said' where nothing that the law and all that it calls make is longer than what came in: it says more and counts as full. Else prove '..UptoSaid'. A law counts once. -/
mutual
def uptoBulk {H : Type} : DataW H → Nat
  | .lit (.string bytes) => bytes.length + 1
  | .lit _ => 1
  | .nil => 1
  | .ptr d => uptoBulk d + 1
  | .slice elems spare => uptoBulkAll elems + uptoBulkAll spare + 1
  | .agg parts => uptoBulkAll parts + 1
  | .iface _ d => uptoBulk d + 1
  | .map entries => uptoBulkEntries entries + 1
  | .held _ => 1
def uptoBulkAll {H : Type} : List (DataW H) → Nat
  | [] => 0
  | d :: r => uptoBulk d + uptoBulkAll r
def uptoBulkEntries {H : Type} : List (Lit × DataW H) → Nat
  | [] => 0
  | x :: r => uptoBulkEntry x + uptoBulkEntries r
def uptoBulkEntry {H : Type} : Lit × DataW H → Nat
  | (.string bytes, d) => bytes.length + uptoBulk d + 1
  | (_, d) => uptoBulk d + 1
 end
def uptoSmall : (H : Type) → List (DataW H) → Bool := fun _ ds => decide (uptoBulkAll ds ≤ 1048576)
def OpenSpec.upto (s : _root_.Go.ChangeSpec) : _root_.Go.OpenSpec := { _root_.Go.OpenSpec.ofChange s with cond := some uptoSmall }

/-- 'azimuthlaw26.KeepSame', WHERE WHAT IT READS IS OF BULK AT MOST 1048576: true; the input reads as it did. -/
def keepSameUptoRow : OpenClaim := { program := "ytebldhppnacdjab", sum := "791b306948afa022da85e451511d795e7ef126eddf3054f40261fb2e0d4c5985", func := "azimuth/azimuthlaw26.KeepSame", spec := "keepSame", unfollowed := true, recurses := true, apart := false, narrowed := true }
def KeepSameUptoSaid : Prop := keepSameUptoRow.holds Try.pinned (OpenSpec.upto keepSameSpec)

/-- 'azimuthlaw26.KeepHashes', WHERE WHAT IT READS IS OF BULK AT MOST 1048576: true; the input reads as it did. -/
def keepHashesUptoRow : OpenClaim := { program := "ytebldhppnacdjab", sum := "791b306948afa022da85e451511d795e7ef126eddf3054f40261fb2e0d4c5985", func := "azimuth/azimuthlaw26.KeepHashes", spec := "keepHashes", unfollowed := true, recurses := true, apart := false, narrowed := true }
def KeepHashesUptoSaid : Prop := keepHashesUptoRow.holds Try.pinned (OpenSpec.upto keepHashesSpec)

/-- 'azimuthlaw26.KeepPlays', WHERE WHAT IT READS IS OF BULK AT MOST 1048576: true; the input reads as it did. -/
def keepPlaysUptoRow : OpenClaim := { program := "ytebldhppnacdjab", sum := "791b306948afa022da85e451511d795e7ef126eddf3054f40261fb2e0d4c5985", func := "azimuth/azimuthlaw26.KeepPlays", spec := "keepPlays", unfollowed := true, recurses := true, apart := false, narrowed := true }
def KeepPlaysUptoSaid : Prop := keepPlaysUptoRow.holds Try.pinned (OpenSpec.upto keepPlaysSpec)

/-- 'azimuthlaw26.KeepNone', WHERE WHAT IT READS IS OF BULK AT MOST 1048576: true; the input reads as it did. -/
def keepNoneUptoRow : OpenClaim := { program := "ytebldhppnacdjab", sum := "791b306948afa022da85e451511d795e7ef126eddf3054f40261fb2e0d4c5985", func := "azimuth/azimuthlaw26.KeepNone", spec := "keepNone", unfollowed := true, recurses := true, apart := false, narrowed := true }
def KeepNoneUptoSaid : Prop := keepNoneUptoRow.holds Try.pinned (OpenSpec.upto keepNoneSpec)

end Rows
end Go.Proofs.Ytebldhppnacdjab
