/-
  NARROWER THAN 'FOR EVERY INPUT', by the rows' own cells (each row's printed sentence says how): ArenaPlays: laid · GraphSame: laid · GraphBasic: laid · GraphTwice: laid · GraphNormal: laid · GraphParses: laid · BelowRecords: laid · BelowTurns: laid · BelowTells: laid · BelowEnds: laid · BelowTable: laid · BelowOrders: laid · AlikeSelf: laid · AlikeTells: laid · AlikeBelow: laid.
  DERIVED. THE GIVEN ROWS OF THIS SEAT. 15 by the template 'for every input the law returns true; each argument reads behind the call as it read before'; 0 by the template 'total and deterministic' (their statements: YtifilhkkgkihpaaGreatDoorTotals.lean).
  GIVEN WITH THE SEED: the statements are not yours to turn. If you find one false, say at which input.
  Laid BY PROGRAM, IN A SANDBOX (cutbox-rows.mjs): the forced cells as the released guide's own fill.sh prints them over the translation 23f00d591d2de7fd… (all of the seat's roots in one cut). By AI agents, Wed Nov 11 2026. No macro, syntax, notation, axiom, sorry.
-/
import Derived.Test.YtifilhkkgkihpaaGreatDoorChecked
import GoSem.PinnedTables
import GoSem.Claim
import GoSem.ClaimJoined
import GoSem.ClaimMapViews
import Derived.JoinedTies
import Derived.KernelRfl
namespace Go.Proofs.YtifilhkkgkihpaaGreatDoor
/- THE CELL 'sum', in the pinned program and in every row, IS THE sha256 OF THE DUMP (.gsa) THAT YtifilhkkgkihpaaGreatDoorProg.lean LOADS. Nothing in Lean hashes anything: it is a label: what it is worth is what the hold of that sum in a sandbox is worth. -/
noncomputable def Tryz.pinned : Pinned := { name := "ytifilhkkgkihpaagreatdoor", sum := "23f00d591d2de7fd7f70b8a5d1e6a2d47bd9c1d18e760c36dca0698f437f5f74", checked := Tryz.checked }
namespace Rows
def none {H : Type} : Left H := { results := [], args := [] }

/- WHAT THE LISTED PACKAGE-LEVEL VARIABLES READ AS WHEN THE CALL BEGINS. Each datum BY PROGRAM (the guide's laid-datum.mjs) off the statement by which the dump's own 'gosem.cut.vars' lays the variable. In a bare row this is a premise. The card (YtifilhkkgkihpaaGreatDoorCards.lean) ties it to the program's text. -/
def laid_math_bits_deBruijn32tab {H : Type} : DataW H := .agg [.lit (.int .u8 0), .lit (.int .u8 1), .lit (.int .u8 28), .lit (.int .u8 2), .lit (.int .u8 29), .lit (.int .u8 14), .lit (.int .u8 24), .lit (.int .u8 3), .lit (.int .u8 30), .lit (.int .u8 22), .lit (.int .u8 20), .lit (.int .u8 15), .lit (.int .u8 25), .lit (.int .u8 17), .lit (.int .u8 4), .lit (.int .u8 8), .lit (.int .u8 31), .lit (.int .u8 27), .lit (.int .u8 13), .lit (.int .u8 23), .lit (.int .u8 21), .lit (.int .u8 19), .lit (.int .u8 16), .lit (.int .u8 7), .lit (.int .u8 26), .lit (.int .u8 12), .lit (.int .u8 18), .lit (.int .u8 6), .lit (.int .u8 11), .lit (.int .u8 5), .lit (.int .u8 10), .lit (.int .u8 9)]
def laid_math_bits_deBruijn64tab {H : Type} : DataW H := .agg [.lit (.int .u8 0), .lit (.int .u8 1), .lit (.int .u8 56), .lit (.int .u8 2), .lit (.int .u8 57), .lit (.int .u8 49), .lit (.int .u8 28), .lit (.int .u8 3), .lit (.int .u8 61), .lit (.int .u8 58), .lit (.int .u8 42), .lit (.int .u8 50), .lit (.int .u8 38), .lit (.int .u8 29), .lit (.int .u8 17), .lit (.int .u8 4), .lit (.int .u8 62), .lit (.int .u8 47), .lit (.int .u8 59), .lit (.int .u8 36), .lit (.int .u8 45), .lit (.int .u8 43), .lit (.int .u8 51), .lit (.int .u8 22), .lit (.int .u8 53), .lit (.int .u8 39), .lit (.int .u8 33), .lit (.int .u8 30), .lit (.int .u8 24), .lit (.int .u8 18), .lit (.int .u8 12), .lit (.int .u8 5), .lit (.int .u8 63), .lit (.int .u8 55), .lit (.int .u8 48), .lit (.int .u8 27), .lit (.int .u8 60), .lit (.int .u8 41), .lit (.int .u8 37), .lit (.int .u8 16), .lit (.int .u8 46), .lit (.int .u8 35), .lit (.int .u8 44), .lit (.int .u8 21), .lit (.int .u8 52), .lit (.int .u8 32), .lit (.int .u8 23), .lit (.int .u8 11), .lit (.int .u8 54), .lit (.int .u8 26), .lit (.int .u8 40), .lit (.int .u8 15), .lit (.int .u8 34), .lit (.int .u8 20), .lit (.int .u8 31), .lit (.int .u8 10), .lit (.int .u8 25), .lit (.int .u8 14), .lit (.int .u8 19), .lit (.int .u8 9), .lit (.int .u8 13), .lit (.int .u8 8), .lit (.int .u8 7), .lit (.int .u8 6)]
def laid_internal_strconv_uint64pow10 {H : Type} : DataW H := .agg [.lit (.int .u64 1), .lit (.int .u64 10), .lit (.int .u64 100), .lit (.int .u64 1000), .lit (.int .u64 10000), .lit (.int .u64 100000), .lit (.int .u64 1000000), .lit (.int .u64 10000000), .lit (.int .u64 100000000), .lit (.int .u64 1000000000), .lit (.int .u64 10000000000), .lit (.int .u64 100000000000), .lit (.int .u64 1000000000000), .lit (.int .u64 10000000000000), .lit (.int .u64 100000000000000), .lit (.int .u64 1000000000000000), .lit (.int .u64 10000000000000000), .lit (.int .u64 100000000000000000), .lit (.int .u64 1000000000000000000), .lit (.int .u64 10000000000000000000)]
def laid_unicode_utf8_acceptRanges {H : Type} : DataW H := .agg [.agg [.lit (.int .u8 128), .lit (.int .u8 191)], .agg [.lit (.int .u8 160), .lit (.int .u8 191)], .agg [.lit (.int .u8 128), .lit (.int .u8 159)], .agg [.lit (.int .u8 144), .lit (.int .u8 191)], .agg [.lit (.int .u8 128), .lit (.int .u8 143)], .agg [.lit (.int .u8 0), .lit (.int .u8 0)], .agg [.lit (.int .u8 0), .lit (.int .u8 0)], .agg [.lit (.int .u8 0), .lit (.int .u8 0)], .agg [.lit (.int .u8 0), .lit (.int .u8 0)], .agg [.lit (.int .u8 0), .lit (.int .u8 0)], .agg [.lit (.int .u8 0), .lit (.int .u8 0)], .agg [.lit (.int .u8 0), .lit (.int .u8 0)], .agg [.lit (.int .u8 0), .lit (.int .u8 0)], .agg [.lit (.int .u8 0), .lit (.int .u8 0)], .agg [.lit (.int .u8 0), .lit (.int .u8 0)], .agg [.lit (.int .u8 0), .lit (.int .u8 0)]]
def laid_strconv_ErrRange {H : Type} : DataW H := .iface "*errors.errorString" (.ptr (.agg [.lit (.string [118, 97, 108, 117, 101, 32, 111, 117, 116, 32, 111, 102, 32, 114, 97, 110, 103, 101])]))
def laid_strconv_ErrSyntax {H : Type} : DataW H := .iface "*errors.errorString" (.ptr (.agg [.lit (.string [105, 110, 118, 97, 108, 105, 100, 32, 115, 121, 110, 116, 97, 120])]))
/-- One of Go's own tables, pinned by name: the form's constant. -/
def laid_unicode_utf8_first : DataW Unit := Go.Pinned.utf8First

/-- 'azimuthlaw12.ArenaPlays': WHATEVER THE INPUT: true; the input reads as it did. -/
def arenaPlaysSpec : ChangeSpec := { name := "arenaPlays", fn := fun _ => fun
  | [d1, d2] => { results := [.lit (.bool true)], args := [d1, d2] }
  | _ => none }
def arenaPlaysRow : OpenClaim := { program := "ytifilhkkgkihpaagreatdoor", sum := "23f00d591d2de7fd7f70b8a5d1e6a2d47bd9c1d18e760c36dca0698f437f5f74", func := "azimuth/azimuthlaw12.ArenaPlays", spec := "arenaPlays", inPlace := ["math.Float64frombits", "internal/bytealg.IndexByteString"], unfollowed := true, recurses := true, named := ["internal/strconv.uint64pow10", "math/bits.deBruijn32tab", "math/bits.deBruijn64tab"], plainKeys := false, apart := false, laid := [("math/bits.deBruijn32tab", laid_math_bits_deBruijn32tab), ("math/bits.deBruijn64tab", laid_math_bits_deBruijn64tab), ("internal/strconv.uint64pow10", laid_internal_strconv_uint64pow10)] }
def ArenaPlaysSaid : Prop := arenaPlaysRow.holds Tryz.pinned (OpenSpec.ofChange arenaPlaysSpec)

/-- ITS FALSE NEIGHBOUR: 'it returns false'. Refute it at one input. -/
def arenaPlaysWrong : ChangeSpec := { name := "arenaPlays", fn := fun _ => fun
  | [d1, d2] => { results := [.lit (.bool false)], args := [d1, d2] }
  | _ => none }
def ArenaPlaysWrongFalsely : Prop := arenaPlaysRow.holds Tryz.pinned (OpenSpec.ofChange arenaPlaysWrong)

/-- 'azimuthlaw08.GraphSame': WHATEVER THE INPUT: true; the input reads as it did. -/
def graphSameSpec : ChangeSpec := { name := "graphSame", fn := fun _ => fun
  | [d1, d2] => { results := [.lit (.bool true)], args := [d1, d2] }
  | _ => none }
def graphSameRow : OpenClaim := { program := "ytifilhkkgkihpaagreatdoor", sum := "23f00d591d2de7fd7f70b8a5d1e6a2d47bd9c1d18e760c36dca0698f437f5f74", func := "azimuth/azimuthlaw08.GraphSame", spec := "graphSame", inPlace := ["internal/bytealg.IndexByteString", "math.Float64frombits"], unfollowed := true, recurses := true, named := ["internal/strconv.uint64pow10", "math/bits.deBruijn32tab", "math/bits.deBruijn64tab"], plainKeys := false, apart := false, laid := [("math/bits.deBruijn32tab", laid_math_bits_deBruijn32tab), ("math/bits.deBruijn64tab", laid_math_bits_deBruijn64tab), ("internal/strconv.uint64pow10", laid_internal_strconv_uint64pow10)] }
def GraphSameSaid : Prop := graphSameRow.holds Tryz.pinned (OpenSpec.ofChange graphSameSpec)

/-- ITS FALSE NEIGHBOUR: 'it returns false'. Refute it at one input. -/
def graphSameWrong : ChangeSpec := { name := "graphSame", fn := fun _ => fun
  | [d1, d2] => { results := [.lit (.bool false)], args := [d1, d2] }
  | _ => none }
def GraphSameWrongFalsely : Prop := graphSameRow.holds Tryz.pinned (OpenSpec.ofChange graphSameWrong)

/-- 'azimuthlaw08.GraphBasic': WHATEVER THE INPUT: true; the input reads as it did. -/
def graphBasicSpec : ChangeSpec := { name := "graphBasic", fn := fun _ => fun
  | [d] => { results := [.lit (.bool true)], args := [d] }
  | _ => none }
def graphBasicRow : OpenClaim := { program := "ytifilhkkgkihpaagreatdoor", sum := "23f00d591d2de7fd7f70b8a5d1e6a2d47bd9c1d18e760c36dca0698f437f5f74", func := "azimuth/azimuthlaw08.GraphBasic", spec := "graphBasic", inPlace := ["internal/bytealg.IndexByteString", "math.Float64frombits"], unfollowed := true, recurses := true, named := ["internal/strconv.uint64pow10", "math/bits.deBruijn32tab", "math/bits.deBruijn64tab"], plainKeys := false, apart := false, laid := [("math/bits.deBruijn32tab", laid_math_bits_deBruijn32tab), ("math/bits.deBruijn64tab", laid_math_bits_deBruijn64tab), ("internal/strconv.uint64pow10", laid_internal_strconv_uint64pow10)] }
def GraphBasicSaid : Prop := graphBasicRow.holds Tryz.pinned (OpenSpec.ofChange graphBasicSpec)

/-- ITS FALSE NEIGHBOUR: 'it returns false'. Refute it at one input. -/
def graphBasicWrong : ChangeSpec := { name := "graphBasic", fn := fun _ => fun
  | [d] => { results := [.lit (.bool false)], args := [d] }
  | _ => none }
def GraphBasicWrongFalsely : Prop := graphBasicRow.holds Tryz.pinned (OpenSpec.ofChange graphBasicWrong)

/-- 'azimuthlaw08.GraphTwice': WHATEVER THE INPUT: true; the input reads as it did. -/
def graphTwiceSpec : ChangeSpec := { name := "graphTwice", fn := fun _ => fun
  | [d] => { results := [.lit (.bool true)], args := [d] }
  | _ => none }
def graphTwiceRow : OpenClaim := { program := "ytifilhkkgkihpaagreatdoor", sum := "23f00d591d2de7fd7f70b8a5d1e6a2d47bd9c1d18e760c36dca0698f437f5f74", func := "azimuth/azimuthlaw08.GraphTwice", spec := "graphTwice", inPlace := ["internal/bytealg.IndexByteString", "math.Float64frombits"], unfollowed := true, recurses := true, named := ["internal/strconv.uint64pow10", "math/bits.deBruijn32tab", "math/bits.deBruijn64tab"], plainKeys := false, apart := false, laid := [("math/bits.deBruijn32tab", laid_math_bits_deBruijn32tab), ("math/bits.deBruijn64tab", laid_math_bits_deBruijn64tab), ("internal/strconv.uint64pow10", laid_internal_strconv_uint64pow10)] }
def GraphTwiceSaid : Prop := graphTwiceRow.holds Tryz.pinned (OpenSpec.ofChange graphTwiceSpec)

/-- ITS FALSE NEIGHBOUR: 'it returns false'. Refute it at one input. -/
def graphTwiceWrong : ChangeSpec := { name := "graphTwice", fn := fun _ => fun
  | [d] => { results := [.lit (.bool false)], args := [d] }
  | _ => none }
def GraphTwiceWrongFalsely : Prop := graphTwiceRow.holds Tryz.pinned (OpenSpec.ofChange graphTwiceWrong)

/-- 'azimuthlaw08.GraphNormal': WHATEVER THE INPUT: true; the input reads as it did. -/
def graphNormalSpec : ChangeSpec := { name := "graphNormal", fn := fun _ => fun
  | [d1, d2] => { results := [.lit (.bool true)], args := [d1, d2] }
  | _ => none }
def graphNormalRow : OpenClaim := { program := "ytifilhkkgkihpaagreatdoor", sum := "23f00d591d2de7fd7f70b8a5d1e6a2d47bd9c1d18e760c36dca0698f437f5f74", func := "azimuth/azimuthlaw08.GraphNormal", spec := "graphNormal", inPlace := ["internal/bytealg.IndexByteString", "math.Float64frombits"], unfollowed := true, recurses := true, named := ["internal/strconv.uint64pow10", "math/bits.deBruijn32tab", "math/bits.deBruijn64tab"], plainKeys := false, apart := false, laid := [("math/bits.deBruijn32tab", laid_math_bits_deBruijn32tab), ("math/bits.deBruijn64tab", laid_math_bits_deBruijn64tab), ("internal/strconv.uint64pow10", laid_internal_strconv_uint64pow10)] }
def GraphNormalSaid : Prop := graphNormalRow.holds Tryz.pinned (OpenSpec.ofChange graphNormalSpec)

/-- ITS FALSE NEIGHBOUR: 'it returns false'. Refute it at one input. -/
def graphNormalWrong : ChangeSpec := { name := "graphNormal", fn := fun _ => fun
  | [d1, d2] => { results := [.lit (.bool false)], args := [d1, d2] }
  | _ => none }
def GraphNormalWrongFalsely : Prop := graphNormalRow.holds Tryz.pinned (OpenSpec.ofChange graphNormalWrong)

/-- 'azimuthlaw08.GraphParses': WHATEVER THE INPUT: true; the input reads as it did. -/
def graphParsesSpec : ChangeSpec := { name := "graphParses", fn := fun _ => fun
  | [d1, d2] => { results := [.lit (.bool true)], args := [d1, d2] }
  | _ => none }
def graphParsesRow : OpenClaim := { program := "ytifilhkkgkihpaagreatdoor", sum := "23f00d591d2de7fd7f70b8a5d1e6a2d47bd9c1d18e760c36dca0698f437f5f74", func := "azimuth/azimuthlaw08.GraphParses", spec := "graphParses", inPlace := ["internal/bytealg.IndexByteString", "math.Float64frombits", "internal/bytealg.Count", "internal/bytealg.IndexByte", "internal/bytealg.Index"], unfollowed := true, recurses := true, named := ["internal/strconv.uint64pow10", "math/bits.deBruijn32tab", "math/bits.deBruijn64tab", "unicode/utf8.first", "unicode/utf8.acceptRanges", "internal/bytealg.MaxLen", "strconv.ErrSyntax", "strconv.ErrRange"], plainKeys := false, apart := false, laid := [("math/bits.deBruijn32tab", laid_math_bits_deBruijn32tab), ("math/bits.deBruijn64tab", laid_math_bits_deBruijn64tab), ("internal/strconv.uint64pow10", laid_internal_strconv_uint64pow10), ("unicode/utf8.acceptRanges", laid_unicode_utf8_acceptRanges), ("strconv.ErrRange", laid_strconv_ErrRange), ("strconv.ErrSyntax", laid_strconv_ErrSyntax), ("unicode/utf8.first", laid_unicode_utf8_first)] }
def GraphParsesSaid : Prop := graphParsesRow.holds Tryz.pinned (OpenSpec.ofChange graphParsesSpec)

/-- ITS FALSE NEIGHBOUR: 'it returns false'. Refute it at one input. -/
def graphParsesWrong : ChangeSpec := { name := "graphParses", fn := fun _ => fun
  | [d1, d2] => { results := [.lit (.bool false)], args := [d1, d2] }
  | _ => none }
def GraphParsesWrongFalsely : Prop := graphParsesRow.holds Tryz.pinned (OpenSpec.ofChange graphParsesWrong)

/-- 'azimuthlaw09.BelowRecords': WHATEVER THE INPUT: true; the input reads as it did. -/
def belowRecordsSpec : ChangeSpec := { name := "belowRecords", fn := fun _ => fun
  | [d1, d2] => { results := [.lit (.bool true)], args := [d1, d2] }
  | _ => none }
def belowRecordsRow : OpenClaim := { program := "ytifilhkkgkihpaagreatdoor", sum := "23f00d591d2de7fd7f70b8a5d1e6a2d47bd9c1d18e760c36dca0698f437f5f74", func := "azimuth/azimuthlaw09.BelowRecords", spec := "belowRecords", inPlace := ["internal/bytealg.IndexByteString", "math.Float64frombits"], unfollowed := true, recurses := true, named := ["internal/strconv.uint64pow10", "math/bits.deBruijn32tab", "math/bits.deBruijn64tab"], plainKeys := false, apart := false, laid := [("math/bits.deBruijn32tab", laid_math_bits_deBruijn32tab), ("math/bits.deBruijn64tab", laid_math_bits_deBruijn64tab), ("internal/strconv.uint64pow10", laid_internal_strconv_uint64pow10)] }
def BelowRecordsSaid : Prop := belowRecordsRow.holds Tryz.pinned (OpenSpec.ofChange belowRecordsSpec)

/-- ITS FALSE NEIGHBOUR: 'it returns false'. Refute it at one input. -/
def belowRecordsWrong : ChangeSpec := { name := "belowRecords", fn := fun _ => fun
  | [d1, d2] => { results := [.lit (.bool false)], args := [d1, d2] }
  | _ => none }
def BelowRecordsWrongFalsely : Prop := belowRecordsRow.holds Tryz.pinned (OpenSpec.ofChange belowRecordsWrong)

/-- 'azimuthlaw09.BelowTurns': WHATEVER THE INPUT: true; the input reads as it did. -/
def belowTurnsSpec : ChangeSpec := { name := "belowTurns", fn := fun _ => fun
  | [d1, d2, d3, d4] => { results := [.lit (.bool true)], args := [d1, d2, d3, d4] }
  | _ => none }
def belowTurnsRow : OpenClaim := { program := "ytifilhkkgkihpaagreatdoor", sum := "23f00d591d2de7fd7f70b8a5d1e6a2d47bd9c1d18e760c36dca0698f437f5f74", func := "azimuth/azimuthlaw09.BelowTurns", spec := "belowTurns", inPlace := ["internal/bytealg.IndexByteString", "math.Float64frombits"], unfollowed := true, recurses := true, named := ["internal/strconv.uint64pow10", "math/bits.deBruijn32tab", "math/bits.deBruijn64tab"], plainKeys := false, apart := false, laid := [("math/bits.deBruijn32tab", laid_math_bits_deBruijn32tab), ("math/bits.deBruijn64tab", laid_math_bits_deBruijn64tab), ("internal/strconv.uint64pow10", laid_internal_strconv_uint64pow10)] }
def BelowTurnsSaid : Prop := belowTurnsRow.holds Tryz.pinned (OpenSpec.ofChange belowTurnsSpec)

/-- ITS FALSE NEIGHBOUR: 'it returns false'. Refute it at one input. -/
def belowTurnsWrong : ChangeSpec := { name := "belowTurns", fn := fun _ => fun
  | [d1, d2, d3, d4] => { results := [.lit (.bool false)], args := [d1, d2, d3, d4] }
  | _ => none }
def BelowTurnsWrongFalsely : Prop := belowTurnsRow.holds Tryz.pinned (OpenSpec.ofChange belowTurnsWrong)

/-- 'azimuthlaw09.BelowTells': WHATEVER THE INPUT: true; the input reads as it did. -/
def belowTellsSpec : ChangeSpec := { name := "belowTells", fn := fun _ => fun
  | [d1, d2] => { results := [.lit (.bool true)], args := [d1, d2] }
  | _ => none }
def belowTellsRow : OpenClaim := { program := "ytifilhkkgkihpaagreatdoor", sum := "23f00d591d2de7fd7f70b8a5d1e6a2d47bd9c1d18e760c36dca0698f437f5f74", func := "azimuth/azimuthlaw09.BelowTells", spec := "belowTells", inPlace := ["internal/bytealg.IndexByteString", "math.Float64frombits"], unfollowed := true, recurses := true, named := ["internal/strconv.uint64pow10", "math/bits.deBruijn32tab", "math/bits.deBruijn64tab"], plainKeys := false, apart := false, laid := [("math/bits.deBruijn32tab", laid_math_bits_deBruijn32tab), ("math/bits.deBruijn64tab", laid_math_bits_deBruijn64tab), ("internal/strconv.uint64pow10", laid_internal_strconv_uint64pow10)] }
def BelowTellsSaid : Prop := belowTellsRow.holds Tryz.pinned (OpenSpec.ofChange belowTellsSpec)

/-- ITS FALSE NEIGHBOUR: 'it returns false'. Refute it at one input. -/
def belowTellsWrong : ChangeSpec := { name := "belowTells", fn := fun _ => fun
  | [d1, d2] => { results := [.lit (.bool false)], args := [d1, d2] }
  | _ => none }
def BelowTellsWrongFalsely : Prop := belowTellsRow.holds Tryz.pinned (OpenSpec.ofChange belowTellsWrong)

/-- 'azimuthlaw09.BelowEnds': WHATEVER THE INPUT: true; the input reads as it did. -/
def belowEndsSpec : ChangeSpec := { name := "belowEnds", fn := fun _ => fun
  | [d] => { results := [.lit (.bool true)], args := [d] }
  | _ => none }
def belowEndsRow : OpenClaim := { program := "ytifilhkkgkihpaagreatdoor", sum := "23f00d591d2de7fd7f70b8a5d1e6a2d47bd9c1d18e760c36dca0698f437f5f74", func := "azimuth/azimuthlaw09.BelowEnds", spec := "belowEnds", inPlace := ["internal/bytealg.IndexByteString", "math.Float64frombits"], unfollowed := true, recurses := true, named := ["internal/strconv.uint64pow10", "math/bits.deBruijn32tab", "math/bits.deBruijn64tab"], plainKeys := false, apart := false, laid := [("math/bits.deBruijn32tab", laid_math_bits_deBruijn32tab), ("math/bits.deBruijn64tab", laid_math_bits_deBruijn64tab), ("internal/strconv.uint64pow10", laid_internal_strconv_uint64pow10)] }
def BelowEndsSaid : Prop := belowEndsRow.holds Tryz.pinned (OpenSpec.ofChange belowEndsSpec)

/-- ITS FALSE NEIGHBOUR: 'it returns false'. Refute it at one input. -/
def belowEndsWrong : ChangeSpec := { name := "belowEnds", fn := fun _ => fun
  | [d] => { results := [.lit (.bool false)], args := [d] }
  | _ => none }
def BelowEndsWrongFalsely : Prop := belowEndsRow.holds Tryz.pinned (OpenSpec.ofChange belowEndsWrong)

/-- 'azimuthlaw09.BelowTable': WHATEVER THE INPUT: true; the input reads as it did. -/
def belowTableSpec : ChangeSpec := { name := "belowTable", fn := fun _ => fun
  | [d] => { results := [.lit (.bool true)], args := [d] }
  | _ => none }
def belowTableRow : OpenClaim := { program := "ytifilhkkgkihpaagreatdoor", sum := "23f00d591d2de7fd7f70b8a5d1e6a2d47bd9c1d18e760c36dca0698f437f5f74", func := "azimuth/azimuthlaw09.BelowTable", spec := "belowTable", inPlace := ["internal/bytealg.IndexByteString", "math.Float64frombits"], unfollowed := true, recurses := true, named := ["internal/strconv.uint64pow10", "math/bits.deBruijn32tab", "math/bits.deBruijn64tab"], plainKeys := false, apart := false, laid := [("math/bits.deBruijn32tab", laid_math_bits_deBruijn32tab), ("math/bits.deBruijn64tab", laid_math_bits_deBruijn64tab), ("internal/strconv.uint64pow10", laid_internal_strconv_uint64pow10)] }
def BelowTableSaid : Prop := belowTableRow.holds Tryz.pinned (OpenSpec.ofChange belowTableSpec)

/-- ITS FALSE NEIGHBOUR: 'it returns false'. Refute it at one input. -/
def belowTableWrong : ChangeSpec := { name := "belowTable", fn := fun _ => fun
  | [d] => { results := [.lit (.bool false)], args := [d] }
  | _ => none }
def BelowTableWrongFalsely : Prop := belowTableRow.holds Tryz.pinned (OpenSpec.ofChange belowTableWrong)

/-- 'azimuthlaw09.BelowOrders': WHATEVER THE INPUT: true; the input reads as it did. -/
def belowOrdersSpec : ChangeSpec := { name := "belowOrders", fn := fun _ => fun
  | [d1, d2, d3] => { results := [.lit (.bool true)], args := [d1, d2, d3] }
  | _ => none }
def belowOrdersRow : OpenClaim := { program := "ytifilhkkgkihpaagreatdoor", sum := "23f00d591d2de7fd7f70b8a5d1e6a2d47bd9c1d18e760c36dca0698f437f5f74", func := "azimuth/azimuthlaw09.BelowOrders", spec := "belowOrders", inPlace := ["internal/bytealg.IndexByteString", "math.Float64frombits"], unfollowed := true, recurses := true, named := ["internal/strconv.uint64pow10", "math/bits.deBruijn32tab", "math/bits.deBruijn64tab"], plainKeys := false, apart := false, laid := [("math/bits.deBruijn32tab", laid_math_bits_deBruijn32tab), ("math/bits.deBruijn64tab", laid_math_bits_deBruijn64tab), ("internal/strconv.uint64pow10", laid_internal_strconv_uint64pow10)] }
def BelowOrdersSaid : Prop := belowOrdersRow.holds Tryz.pinned (OpenSpec.ofChange belowOrdersSpec)

/-- ITS FALSE NEIGHBOUR: 'it returns false'. Refute it at one input. -/
def belowOrdersWrong : ChangeSpec := { name := "belowOrders", fn := fun _ => fun
  | [d1, d2, d3] => { results := [.lit (.bool false)], args := [d1, d2, d3] }
  | _ => none }
def BelowOrdersWrongFalsely : Prop := belowOrdersRow.holds Tryz.pinned (OpenSpec.ofChange belowOrdersWrong)

/-- 'azimuthlaw10.AlikeSelf': WHATEVER THE INPUT: true; the input reads as it did. -/
def alikeSelfSpec : ChangeSpec := { name := "alikeSelf", fn := fun _ => fun
  | [d] => { results := [.lit (.bool true)], args := [d] }
  | _ => none }
def alikeSelfRow : OpenClaim := { program := "ytifilhkkgkihpaagreatdoor", sum := "23f00d591d2de7fd7f70b8a5d1e6a2d47bd9c1d18e760c36dca0698f437f5f74", func := "azimuth/azimuthlaw10.AlikeSelf", spec := "alikeSelf", inPlace := ["internal/bytealg.IndexByteString", "math.Float64frombits"], unfollowed := true, recurses := true, named := ["internal/strconv.uint64pow10", "math/bits.deBruijn32tab", "math/bits.deBruijn64tab"], plainKeys := false, apart := false, laid := [("math/bits.deBruijn32tab", laid_math_bits_deBruijn32tab), ("math/bits.deBruijn64tab", laid_math_bits_deBruijn64tab), ("internal/strconv.uint64pow10", laid_internal_strconv_uint64pow10)] }
def AlikeSelfSaid : Prop := alikeSelfRow.holds Tryz.pinned (OpenSpec.ofChange alikeSelfSpec)

/-- ITS FALSE NEIGHBOUR: 'it returns false'. Refute it at one input. -/
def alikeSelfWrong : ChangeSpec := { name := "alikeSelf", fn := fun _ => fun
  | [d] => { results := [.lit (.bool false)], args := [d] }
  | _ => none }
def AlikeSelfWrongFalsely : Prop := alikeSelfRow.holds Tryz.pinned (OpenSpec.ofChange alikeSelfWrong)

/-- 'azimuthlaw10.AlikeTells': WHATEVER THE INPUT: true; the input reads as it did. -/
def alikeTellsSpec : ChangeSpec := { name := "alikeTells", fn := fun _ => fun
  | [d1, d2] => { results := [.lit (.bool true)], args := [d1, d2] }
  | _ => none }
def alikeTellsRow : OpenClaim := { program := "ytifilhkkgkihpaagreatdoor", sum := "23f00d591d2de7fd7f70b8a5d1e6a2d47bd9c1d18e760c36dca0698f437f5f74", func := "azimuth/azimuthlaw10.AlikeTells", spec := "alikeTells", inPlace := ["internal/bytealg.IndexByteString", "math.Float64frombits"], unfollowed := true, recurses := true, named := ["internal/strconv.uint64pow10", "math/bits.deBruijn32tab", "math/bits.deBruijn64tab"], plainKeys := false, apart := false, laid := [("math/bits.deBruijn32tab", laid_math_bits_deBruijn32tab), ("math/bits.deBruijn64tab", laid_math_bits_deBruijn64tab), ("internal/strconv.uint64pow10", laid_internal_strconv_uint64pow10)] }
def AlikeTellsSaid : Prop := alikeTellsRow.holds Tryz.pinned (OpenSpec.ofChange alikeTellsSpec)

/-- ITS FALSE NEIGHBOUR: 'it returns false'. Refute it at one input. -/
def alikeTellsWrong : ChangeSpec := { name := "alikeTells", fn := fun _ => fun
  | [d1, d2] => { results := [.lit (.bool false)], args := [d1, d2] }
  | _ => none }
def AlikeTellsWrongFalsely : Prop := alikeTellsRow.holds Tryz.pinned (OpenSpec.ofChange alikeTellsWrong)

/-- 'azimuthlaw10.AlikeBelow': WHATEVER THE INPUT: true; the input reads as it did. -/
def alikeBelowSpec : ChangeSpec := { name := "alikeBelow", fn := fun _ => fun
  | [d1, d2] => { results := [.lit (.bool true)], args := [d1, d2] }
  | _ => none }
def alikeBelowRow : OpenClaim := { program := "ytifilhkkgkihpaagreatdoor", sum := "23f00d591d2de7fd7f70b8a5d1e6a2d47bd9c1d18e760c36dca0698f437f5f74", func := "azimuth/azimuthlaw10.AlikeBelow", spec := "alikeBelow", inPlace := ["internal/bytealg.IndexByteString", "math.Float64frombits"], unfollowed := true, recurses := true, named := ["internal/strconv.uint64pow10", "math/bits.deBruijn32tab", "math/bits.deBruijn64tab"], plainKeys := false, apart := false, laid := [("math/bits.deBruijn32tab", laid_math_bits_deBruijn32tab), ("math/bits.deBruijn64tab", laid_math_bits_deBruijn64tab), ("internal/strconv.uint64pow10", laid_internal_strconv_uint64pow10)] }
def AlikeBelowSaid : Prop := alikeBelowRow.holds Tryz.pinned (OpenSpec.ofChange alikeBelowSpec)

/-- ITS FALSE NEIGHBOUR: 'it returns false'. Refute it at one input. -/
def alikeBelowWrong : ChangeSpec := { name := "alikeBelow", fn := fun _ => fun
  | [d1, d2] => { results := [.lit (.bool false)], args := [d1, d2] }
  | _ => none }
def AlikeBelowWrongFalsely : Prop := alikeBelowRow.holds Tryz.pinned (OpenSpec.ofChange alikeBelowWrong)

/- THE SECOND FORM. 'bulk': how many values and letters a reading holds, each counted each time it is reached (what is shared counts as often as it is met; a slice's spare places count too). A statement '..UptoSaid' is the law's where the arguments, and the package variables that the reading takes, are together of bulk at most 1048576: NARROWER than '..Said'. Prove '..Said' where nothing that the law and all that it calls make is longer than what came in: it says more and counts as full. Else prove '..UptoSaid'. A law counts once. -/
mutual
def uptoBulk {H : Type} : DataW H → Nat
  | .lit (.string bytes) => bytes.length + 1
  | .lit _ => 1
  | .nil => 1
  | .ptr d => uptoBulk d + 1
  | .slice elems spare => uptoBulkAll elems + uptoBulkAll spare + 1
  | .agg parts => uptoBulkAll parts + 1
  | .iface _ d => uptoBulk d + 1
  | .map entries => uptoBulkEntries entries + 1
  | .held _ => 1
def uptoBulkAll {H : Type} : List (DataW H) → Nat
  | [] => 0
  | d :: r => uptoBulk d + uptoBulkAll r
def uptoBulkEntries {H : Type} : List (Lit × DataW H) → Nat
  | [] => 0
  | x :: r => uptoBulkEntry x + uptoBulkEntries r
def uptoBulkEntry {H : Type} : Lit × DataW H → Nat
  | (.string bytes, d) => bytes.length + uptoBulk d + 1
  | (_, d) => uptoBulk d + 1
 end
def uptoSmall : (H : Type) → List (DataW H) → Bool := fun _ ds => decide (uptoBulkAll ds ≤ 1048576)
def OpenSpec.upto (s : _root_.Go.ChangeSpec) : _root_.Go.OpenSpec := { _root_.Go.OpenSpec.ofChange s with cond := some uptoSmall }

/-- 'azimuthlaw12.ArenaPlays', WHERE WHAT IT READS IS OF BULK AT MOST 1048576: true; the input reads as it did. -/
def arenaPlaysUptoRow : OpenClaim := { program := "ytifilhkkgkihpaagreatdoor", sum := "23f00d591d2de7fd7f70b8a5d1e6a2d47bd9c1d18e760c36dca0698f437f5f74", func := "azimuth/azimuthlaw12.ArenaPlays", spec := "arenaPlays", inPlace := ["math.Float64frombits", "internal/bytealg.IndexByteString"], unfollowed := true, recurses := true, named := ["internal/strconv.uint64pow10", "math/bits.deBruijn32tab", "math/bits.deBruijn64tab"], plainKeys := false, apart := false, laid := [("math/bits.deBruijn32tab", laid_math_bits_deBruijn32tab), ("math/bits.deBruijn64tab", laid_math_bits_deBruijn64tab), ("internal/strconv.uint64pow10", laid_internal_strconv_uint64pow10)], narrowed := true }
def ArenaPlaysUptoSaid : Prop := arenaPlaysUptoRow.holds Tryz.pinned (OpenSpec.upto arenaPlaysSpec)

/-- 'azimuthlaw08.GraphSame', WHERE WHAT IT READS IS OF BULK AT MOST 1048576: true; the input reads as it did. -/
def graphSameUptoRow : OpenClaim := { program := "ytifilhkkgkihpaagreatdoor", sum := "23f00d591d2de7fd7f70b8a5d1e6a2d47bd9c1d18e760c36dca0698f437f5f74", func := "azimuth/azimuthlaw08.GraphSame", spec := "graphSame", inPlace := ["internal/bytealg.IndexByteString", "math.Float64frombits"], unfollowed := true, recurses := true, named := ["internal/strconv.uint64pow10", "math/bits.deBruijn32tab", "math/bits.deBruijn64tab"], plainKeys := false, apart := false, laid := [("math/bits.deBruijn32tab", laid_math_bits_deBruijn32tab), ("math/bits.deBruijn64tab", laid_math_bits_deBruijn64tab), ("internal/strconv.uint64pow10", laid_internal_strconv_uint64pow10)], narrowed := true }
def GraphSameUptoSaid : Prop := graphSameUptoRow.holds Tryz.pinned (OpenSpec.upto graphSameSpec)

/-- 'azimuthlaw08.GraphBasic', WHERE WHAT IT READS IS OF BULK AT MOST 1048576: true; the input reads as it did. -/
def graphBasicUptoRow : OpenClaim := { program := "ytifilhkkgkihpaagreatdoor", sum := "23f00d591d2de7fd7f70b8a5d1e6a2d47bd9c1d18e760c36dca0698f437f5f74", func := "azimuth/azimuthlaw08.GraphBasic", spec := "graphBasic", inPlace := ["internal/bytealg.IndexByteString", "math.Float64frombits"], unfollowed := true, recurses := true, named := ["internal/strconv.uint64pow10", "math/bits.deBruijn32tab", "math/bits.deBruijn64tab"], plainKeys := false, apart := false, laid := [("math/bits.deBruijn32tab", laid_math_bits_deBruijn32tab), ("math/bits.deBruijn64tab", laid_math_bits_deBruijn64tab), ("internal/strconv.uint64pow10", laid_internal_strconv_uint64pow10)], narrowed := true }
def GraphBasicUptoSaid : Prop := graphBasicUptoRow.holds Tryz.pinned (OpenSpec.upto graphBasicSpec)

/-- 'azimuthlaw08.GraphTwice', WHERE WHAT IT READS IS OF BULK AT MOST 1048576: true; the input reads as it did. -/
def graphTwiceUptoRow : OpenClaim := { program := "ytifilhkkgkihpaagreatdoor", sum := "23f00d591d2de7fd7f70b8a5d1e6a2d47bd9c1d18e760c36dca0698f437f5f74", func := "azimuth/azimuthlaw08.GraphTwice", spec := "graphTwice", inPlace := ["internal/bytealg.IndexByteString", "math.Float64frombits"], unfollowed := true, recurses := true, named := ["internal/strconv.uint64pow10", "math/bits.deBruijn32tab", "math/bits.deBruijn64tab"], plainKeys := false, apart := false, laid := [("math/bits.deBruijn32tab", laid_math_bits_deBruijn32tab), ("math/bits.deBruijn64tab", laid_math_bits_deBruijn64tab), ("internal/strconv.uint64pow10", laid_internal_strconv_uint64pow10)], narrowed := true }
def GraphTwiceUptoSaid : Prop := graphTwiceUptoRow.holds Tryz.pinned (OpenSpec.upto graphTwiceSpec)

/-- 'azimuthlaw08.GraphNormal', WHERE WHAT IT READS IS OF BULK AT MOST 1048576: true; the input reads as it did. -/
def graphNormalUptoRow : OpenClaim := { program := "ytifilhkkgkihpaagreatdoor", sum := "23f00d591d2de7fd7f70b8a5d1e6a2d47bd9c1d18e760c36dca0698f437f5f74", func := "azimuth/azimuthlaw08.GraphNormal", spec := "graphNormal", inPlace := ["internal/bytealg.IndexByteString", "math.Float64frombits"], unfollowed := true, recurses := true, named := ["internal/strconv.uint64pow10", "math/bits.deBruijn32tab", "math/bits.deBruijn64tab"], plainKeys := false, apart := false, laid := [("math/bits.deBruijn32tab", laid_math_bits_deBruijn32tab), ("math/bits.deBruijn64tab", laid_math_bits_deBruijn64tab), ("internal/strconv.uint64pow10", laid_internal_strconv_uint64pow10)], narrowed := true }
def GraphNormalUptoSaid : Prop := graphNormalUptoRow.holds Tryz.pinned (OpenSpec.upto graphNormalSpec)

/-- 'azimuthlaw08.GraphParses', WHERE WHAT IT READS IS OF BULK AT MOST 1048576: true; the input reads as it did. -/
def graphParsesUptoRow : OpenClaim := { program := "ytifilhkkgkihpaagreatdoor", sum := "23f00d591d2de7fd7f70b8a5d1e6a2d47bd9c1d18e760c36dca0698f437f5f74", func := "azimuth/azimuthlaw08.GraphParses", spec := "graphParses", inPlace := ["internal/bytealg.IndexByteString", "math.Float64frombits", "internal/bytealg.Count", "internal/bytealg.IndexByte", "internal/bytealg.Index"], unfollowed := true, recurses := true, named := ["internal/strconv.uint64pow10", "math/bits.deBruijn32tab", "math/bits.deBruijn64tab", "unicode/utf8.first", "unicode/utf8.acceptRanges", "internal/bytealg.MaxLen", "strconv.ErrSyntax", "strconv.ErrRange"], plainKeys := false, apart := false, laid := [("math/bits.deBruijn32tab", laid_math_bits_deBruijn32tab), ("math/bits.deBruijn64tab", laid_math_bits_deBruijn64tab), ("internal/strconv.uint64pow10", laid_internal_strconv_uint64pow10), ("unicode/utf8.acceptRanges", laid_unicode_utf8_acceptRanges), ("strconv.ErrRange", laid_strconv_ErrRange), ("strconv.ErrSyntax", laid_strconv_ErrSyntax), ("unicode/utf8.first", laid_unicode_utf8_first)], narrowed := true }
def GraphParsesUptoSaid : Prop := graphParsesUptoRow.holds Tryz.pinned (OpenSpec.upto graphParsesSpec)

/-- 'azimuthlaw09.BelowRecords', WHERE WHAT IT READS IS OF BULK AT MOST 1048576: true; the input reads as it did. -/
def belowRecordsUptoRow : OpenClaim := { program := "ytifilhkkgkihpaagreatdoor", sum := "23f00d591d2de7fd7f70b8a5d1e6a2d47bd9c1d18e760c36dca0698f437f5f74", func := "azimuth/azimuthlaw09.BelowRecords", spec := "belowRecords", inPlace := ["internal/bytealg.IndexByteString", "math.Float64frombits"], unfollowed := true, recurses := true, named := ["internal/strconv.uint64pow10", "math/bits.deBruijn32tab", "math/bits.deBruijn64tab"], plainKeys := false, apart := false, laid := [("math/bits.deBruijn32tab", laid_math_bits_deBruijn32tab), ("math/bits.deBruijn64tab", laid_math_bits_deBruijn64tab), ("internal/strconv.uint64pow10", laid_internal_strconv_uint64pow10)], narrowed := true }
def BelowRecordsUptoSaid : Prop := belowRecordsUptoRow.holds Tryz.pinned (OpenSpec.upto belowRecordsSpec)

/-- 'azimuthlaw09.BelowTurns', WHERE WHAT IT READS IS OF BULK AT MOST 1048576: true; the input reads as it did. -/
def belowTurnsUptoRow : OpenClaim := { program := "ytifilhkkgkihpaagreatdoor", sum := "23f00d591d2de7fd7f70b8a5d1e6a2d47bd9c1d18e760c36dca0698f437f5f74", func := "azimuth/azimuthlaw09.BelowTurns", spec := "belowTurns", inPlace := ["internal/bytealg.IndexByteString", "math.Float64frombits"], unfollowed := true, recurses := true, named := ["internal/strconv.uint64pow10", "math/bits.deBruijn32tab", "math/bits.deBruijn64tab"], plainKeys := false, apart := false, laid := [("math/bits.deBruijn32tab", laid_math_bits_deBruijn32tab), ("math/bits.deBruijn64tab", laid_math_bits_deBruijn64tab), ("internal/strconv.uint64pow10", laid_internal_strconv_uint64pow10)], narrowed := true }
def BelowTurnsUptoSaid : Prop := belowTurnsUptoRow.holds Tryz.pinned (OpenSpec.upto belowTurnsSpec)

/-- 'azimuthlaw09.BelowTells', WHERE WHAT IT READS IS OF BULK AT MOST 1048576: true; the input reads as it did. -/
def belowTellsUptoRow : OpenClaim := { program := "ytifilhkkgkihpaagreatdoor", sum := "23f00d591d2de7fd7f70b8a5d1e6a2d47bd9c1d18e760c36dca0698f437f5f74", func := "azimuth/azimuthlaw09.BelowTells", spec := "belowTells", inPlace := ["internal/bytealg.IndexByteString", "math.Float64frombits"], unfollowed := true, recurses := true, named := ["internal/strconv.uint64pow10", "math/bits.deBruijn32tab", "math/bits.deBruijn64tab"], plainKeys := false, apart := false, laid := [("math/bits.deBruijn32tab", laid_math_bits_deBruijn32tab), ("math/bits.deBruijn64tab", laid_math_bits_deBruijn64tab), ("internal/strconv.uint64pow10", laid_internal_strconv_uint64pow10)], narrowed := true }
def BelowTellsUptoSaid : Prop := belowTellsUptoRow.holds Tryz.pinned (OpenSpec.upto belowTellsSpec)

/-- 'azimuthlaw09.BelowEnds', WHERE WHAT IT READS IS OF BULK AT MOST 1048576: true; the input reads as it did. -/
def belowEndsUptoRow : OpenClaim := { program := "ytifilhkkgkihpaagreatdoor", sum := "23f00d591d2de7fd7f70b8a5d1e6a2d47bd9c1d18e760c36dca0698f437f5f74", func := "azimuth/azimuthlaw09.BelowEnds", spec := "belowEnds", inPlace := ["internal/bytealg.IndexByteString", "math.Float64frombits"], unfollowed := true, recurses := true, named := ["internal/strconv.uint64pow10", "math/bits.deBruijn32tab", "math/bits.deBruijn64tab"], plainKeys := false, apart := false, laid := [("math/bits.deBruijn32tab", laid_math_bits_deBruijn32tab), ("math/bits.deBruijn64tab", laid_math_bits_deBruijn64tab), ("internal/strconv.uint64pow10", laid_internal_strconv_uint64pow10)], narrowed := true }
def BelowEndsUptoSaid : Prop := belowEndsUptoRow.holds Tryz.pinned (OpenSpec.upto belowEndsSpec)

/-- 'azimuthlaw09.BelowTable', WHERE WHAT IT READS IS OF BULK AT MOST 1048576: true; the input reads as it did. -/
def belowTableUptoRow : OpenClaim := { program := "ytifilhkkgkihpaagreatdoor", sum := "23f00d591d2de7fd7f70b8a5d1e6a2d47bd9c1d18e760c36dca0698f437f5f74", func := "azimuth/azimuthlaw09.BelowTable", spec := "belowTable", inPlace := ["internal/bytealg.IndexByteString", "math.Float64frombits"], unfollowed := true, recurses := true, named := ["internal/strconv.uint64pow10", "math/bits.deBruijn32tab", "math/bits.deBruijn64tab"], plainKeys := false, apart := false, laid := [("math/bits.deBruijn32tab", laid_math_bits_deBruijn32tab), ("math/bits.deBruijn64tab", laid_math_bits_deBruijn64tab), ("internal/strconv.uint64pow10", laid_internal_strconv_uint64pow10)], narrowed := true }
def BelowTableUptoSaid : Prop := belowTableUptoRow.holds Tryz.pinned (OpenSpec.upto belowTableSpec)

/-- 'azimuthlaw09.BelowOrders', WHERE WHAT IT READS IS OF BULK AT MOST 1048576: true; the input reads as it did. -/
def belowOrdersUptoRow : OpenClaim := { program := "ytifilhkkgkihpaagreatdoor", sum := "23f00d591d2de7fd7f70b8a5d1e6a2d47bd9c1d18e760c36dca0698f437f5f74", func := "azimuth/azimuthlaw09.BelowOrders", spec := "belowOrders", inPlace := ["internal/bytealg.IndexByteString", "math.Float64frombits"], unfollowed := true, recurses := true, named := ["internal/strconv.uint64pow10", "math/bits.deBruijn32tab", "math/bits.deBruijn64tab"], plainKeys := false, apart := false, laid := [("math/bits.deBruijn32tab", laid_math_bits_deBruijn32tab), ("math/bits.deBruijn64tab", laid_math_bits_deBruijn64tab), ("internal/strconv.uint64pow10", laid_internal_strconv_uint64pow10)], narrowed := true }
def BelowOrdersUptoSaid : Prop := belowOrdersUptoRow.holds Tryz.pinned (OpenSpec.upto belowOrdersSpec)

/-- 'azimuthlaw10.AlikeSelf', WHERE WHAT IT READS IS OF BULK AT MOST 1048576: true; the input reads as it did. -/
def alikeSelfUptoRow : OpenClaim := { program := "ytifilhkkgkihpaagreatdoor", sum := "23f00d591d2de7fd7f70b8a5d1e6a2d47bd9c1d18e760c36dca0698f437f5f74", func := "azimuth/azimuthlaw10.AlikeSelf", spec := "alikeSelf", inPlace := ["internal/bytealg.IndexByteString", "math.Float64frombits"], unfollowed := true, recurses := true, named := ["internal/strconv.uint64pow10", "math/bits.deBruijn32tab", "math/bits.deBruijn64tab"], plainKeys := false, apart := false, laid := [("math/bits.deBruijn32tab", laid_math_bits_deBruijn32tab), ("math/bits.deBruijn64tab", laid_math_bits_deBruijn64tab), ("internal/strconv.uint64pow10", laid_internal_strconv_uint64pow10)], narrowed := true }
def AlikeSelfUptoSaid : Prop := alikeSelfUptoRow.holds Tryz.pinned (OpenSpec.upto alikeSelfSpec)

/-- 'azimuthlaw10.AlikeTells', WHERE WHAT IT READS IS OF BULK AT MOST 1048576: true; the input reads as it did. -/
def alikeTellsUptoRow : OpenClaim := { program := "ytifilhkkgkihpaagreatdoor", sum := "23f00d591d2de7fd7f70b8a5d1e6a2d47bd9c1d18e760c36dca0698f437f5f74", func := "azimuth/azimuthlaw10.AlikeTells", spec := "alikeTells", inPlace := ["internal/bytealg.IndexByteString", "math.Float64frombits"], unfollowed := true, recurses := true, named := ["internal/strconv.uint64pow10", "math/bits.deBruijn32tab", "math/bits.deBruijn64tab"], plainKeys := false, apart := false, laid := [("math/bits.deBruijn32tab", laid_math_bits_deBruijn32tab), ("math/bits.deBruijn64tab", laid_math_bits_deBruijn64tab), ("internal/strconv.uint64pow10", laid_internal_strconv_uint64pow10)], narrowed := true }
def AlikeTellsUptoSaid : Prop := alikeTellsUptoRow.holds Tryz.pinned (OpenSpec.upto alikeTellsSpec)

/-- 'azimuthlaw10.AlikeBelow', WHERE WHAT IT READS IS OF BULK AT MOST 1048576: true; the input reads as it did. -/
def alikeBelowUptoRow : OpenClaim := { program := "ytifilhkkgkihpaagreatdoor", sum := "23f00d591d2de7fd7f70b8a5d1e6a2d47bd9c1d18e760c36dca0698f437f5f74", func := "azimuth/azimuthlaw10.AlikeBelow", spec := "alikeBelow", inPlace := ["internal/bytealg.IndexByteString", "math.Float64frombits"], unfollowed := true, recurses := true, named := ["internal/strconv.uint64pow10", "math/bits.deBruijn32tab", "math/bits.deBruijn64tab"], plainKeys := false, apart := false, laid := [("math/bits.deBruijn32tab", laid_math_bits_deBruijn32tab), ("math/bits.deBruijn64tab", laid_math_bits_deBruijn64tab), ("internal/strconv.uint64pow10", laid_internal_strconv_uint64pow10)], narrowed := true }
def AlikeBelowUptoSaid : Prop := alikeBelowUptoRow.holds Tryz.pinned (OpenSpec.upto alikeBelowSpec)

end Rows
end Go.Proofs.YtifilhkkgkihpaaGreatDoor
