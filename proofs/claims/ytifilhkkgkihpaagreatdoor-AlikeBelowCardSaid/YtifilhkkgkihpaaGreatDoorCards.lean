/-
  DERIVED. GIVEN WITH THE SEED: THE CARDS: each row of YtifilhkkgkihpaaGreatDoorRows.lean that lists a variable, with what it lists TIED to the program's text (the seventh form; the later family's looks); each row that meets fmt, with fmt's text TOLD by the authors' own Lean function (tested against real Go, not proved from fmt's source: count such statements apart). THE CARD IS WHAT COUNTS. Prove the row's statement (the work); the ties are given (YtifilhkkgkihpaaGreatDoorTie.lean); close each card by the builder's one call (the guide's Derived/Test/ToyasCard.lean, 'card_holds'). Laid BY PROGRAM, IN A SANDBOX (cutbox-door.mjs). By AI agents, Wed Nov 11 2026. No macro, syntax, notation, axiom, sorry.
-/
import Derived.Test.YtifilhkkgkihpaaGreatDoorRows
import GoSem.ClaimSeven
namespace Go.Proofs.YtifilhkkgkihpaaGreatDoor
namespace Rows

/-- THE TIED CARD OF 'azimuthlaw12.ArenaPlays'. -/
def arenaPlaysCard : Claim7 := { stood := { row := arenaPlaysRow, standIns := [], harness := (true, "ee256039582477f60126b604fd1bf2c9aebe063c097a57aeaa24b2b2ddc0481b"), looks := true }, kinds := [], alts := [], laidByText := true, laidKinds := [.data, .data, .data], laidTests := true, laidLooks := .later }
def ArenaPlaysCardSaid : Prop := Claim7.holds Tryz.pinned (.plain (OpenSpec.ofChange arenaPlaysSpec)) arenaPlaysCard

/-- THE TIED CARD OF 'azimuthlaw08.GraphSame'. -/
def graphSameCard : Claim7 := { stood := { row := graphSameRow, standIns := [], harness := (true, "ee256039582477f60126b604fd1bf2c9aebe063c097a57aeaa24b2b2ddc0481b"), looks := true }, kinds := [], alts := [], laidByText := true, laidKinds := [.data, .data, .data], laidTests := true, laidLooks := .later }
def GraphSameCardSaid : Prop := Claim7.holds Tryz.pinned (.plain (OpenSpec.ofChange graphSameSpec)) graphSameCard

/-- THE TIED CARD OF 'azimuthlaw08.GraphBasic'. -/
def graphBasicCard : Claim7 := { stood := { row := graphBasicRow, standIns := [], harness := (true, "ee256039582477f60126b604fd1bf2c9aebe063c097a57aeaa24b2b2ddc0481b"), looks := true }, kinds := [], alts := [], laidByText := true, laidKinds := [.data, .data, .data], laidTests := true, laidLooks := .later }
def GraphBasicCardSaid : Prop := Claim7.holds Tryz.pinned (.plain (OpenSpec.ofChange graphBasicSpec)) graphBasicCard

/-- THE TIED CARD OF 'azimuthlaw08.GraphTwice'. -/
def graphTwiceCard : Claim7 := { stood := { row := graphTwiceRow, standIns := [], harness := (true, "ee256039582477f60126b604fd1bf2c9aebe063c097a57aeaa24b2b2ddc0481b"), looks := true }, kinds := [], alts := [], laidByText := true, laidKinds := [.data, .data, .data], laidTests := true, laidLooks := .later }
def GraphTwiceCardSaid : Prop := Claim7.holds Tryz.pinned (.plain (OpenSpec.ofChange graphTwiceSpec)) graphTwiceCard

/-- THE TIED CARD OF 'azimuthlaw08.GraphNormal'. -/
def graphNormalCard : Claim7 := { stood := { row := graphNormalRow, standIns := [], harness := (true, "ee256039582477f60126b604fd1bf2c9aebe063c097a57aeaa24b2b2ddc0481b"), looks := true }, kinds := [], alts := [], laidByText := true, laidKinds := [.data, .data, .data], laidTests := true, laidLooks := .later }
def GraphNormalCardSaid : Prop := Claim7.holds Tryz.pinned (.plain (OpenSpec.ofChange graphNormalSpec)) graphNormalCard

/-- THE TIED CARD OF 'azimuthlaw08.GraphParses'. -/
def graphParsesCard : Claim7 := { stood := { row := graphParsesRow, standIns := [], harness := (true, "ee256039582477f60126b604fd1bf2c9aebe063c097a57aeaa24b2b2ddc0481b"), looks := true }, kinds := [], alts := [], laidByText := true, laidKinds := [.data, .data, .data, .data, .sentinel, .sentinel, .pinned], laidTests := true, laidLooks := .later }
def GraphParsesCardSaid : Prop := Claim7.holds Tryz.pinned (.plain (OpenSpec.ofChange graphParsesSpec)) graphParsesCard

/-- THE TIED CARD OF 'azimuthlaw09.BelowRecords'. -/
def belowRecordsCard : Claim7 := { stood := { row := belowRecordsRow, standIns := [], harness := (true, "ee256039582477f60126b604fd1bf2c9aebe063c097a57aeaa24b2b2ddc0481b"), looks := true }, kinds := [], alts := [], laidByText := true, laidKinds := [.data, .data, .data], laidTests := true, laidLooks := .later }
def BelowRecordsCardSaid : Prop := Claim7.holds Tryz.pinned (.plain (OpenSpec.ofChange belowRecordsSpec)) belowRecordsCard

/-- THE TIED CARD OF 'azimuthlaw09.BelowTurns'. -/
def belowTurnsCard : Claim7 := { stood := { row := belowTurnsRow, standIns := [], harness := (true, "ee256039582477f60126b604fd1bf2c9aebe063c097a57aeaa24b2b2ddc0481b"), looks := true }, kinds := [], alts := [], laidByText := true, laidKinds := [.data, .data, .data], laidTests := true, laidLooks := .later }
def BelowTurnsCardSaid : Prop := Claim7.holds Tryz.pinned (.plain (OpenSpec.ofChange belowTurnsSpec)) belowTurnsCard

/-- THE TIED CARD OF 'azimuthlaw09.BelowTells'. -/
def belowTellsCard : Claim7 := { stood := { row := belowTellsRow, standIns := [], harness := (true, "ee256039582477f60126b604fd1bf2c9aebe063c097a57aeaa24b2b2ddc0481b"), looks := true }, kinds := [], alts := [], laidByText := true, laidKinds := [.data, .data, .data], laidTests := true, laidLooks := .later }
def BelowTellsCardSaid : Prop := Claim7.holds Tryz.pinned (.plain (OpenSpec.ofChange belowTellsSpec)) belowTellsCard

/-- THE TIED CARD OF 'azimuthlaw09.BelowEnds'. -/
def belowEndsCard : Claim7 := { stood := { row := belowEndsRow, standIns := [], harness := (true, "ee256039582477f60126b604fd1bf2c9aebe063c097a57aeaa24b2b2ddc0481b"), looks := true }, kinds := [], alts := [], laidByText := true, laidKinds := [.data, .data, .data], laidTests := true, laidLooks := .later }
def BelowEndsCardSaid : Prop := Claim7.holds Tryz.pinned (.plain (OpenSpec.ofChange belowEndsSpec)) belowEndsCard

/-- THE TIED CARD OF 'azimuthlaw09.BelowTable'. -/
def belowTableCard : Claim7 := { stood := { row := belowTableRow, standIns := [], harness := (true, "ee256039582477f60126b604fd1bf2c9aebe063c097a57aeaa24b2b2ddc0481b"), looks := true }, kinds := [], alts := [], laidByText := true, laidKinds := [.data, .data, .data], laidTests := true, laidLooks := .later }
def BelowTableCardSaid : Prop := Claim7.holds Tryz.pinned (.plain (OpenSpec.ofChange belowTableSpec)) belowTableCard

/-- THE TIED CARD OF 'azimuthlaw09.BelowOrders'. -/
def belowOrdersCard : Claim7 := { stood := { row := belowOrdersRow, standIns := [], harness := (true, "ee256039582477f60126b604fd1bf2c9aebe063c097a57aeaa24b2b2ddc0481b"), looks := true }, kinds := [], alts := [], laidByText := true, laidKinds := [.data, .data, .data], laidTests := true, laidLooks := .later }
def BelowOrdersCardSaid : Prop := Claim7.holds Tryz.pinned (.plain (OpenSpec.ofChange belowOrdersSpec)) belowOrdersCard

/-- THE TIED CARD OF 'azimuthlaw10.AlikeSelf'. -/
def alikeSelfCard : Claim7 := { stood := { row := alikeSelfRow, standIns := [], harness := (true, "ee256039582477f60126b604fd1bf2c9aebe063c097a57aeaa24b2b2ddc0481b"), looks := true }, kinds := [], alts := [], laidByText := true, laidKinds := [.data, .data, .data], laidTests := true, laidLooks := .later }
def AlikeSelfCardSaid : Prop := Claim7.holds Tryz.pinned (.plain (OpenSpec.ofChange alikeSelfSpec)) alikeSelfCard

/-- THE TIED CARD OF 'azimuthlaw10.AlikeTells'. -/
def alikeTellsCard : Claim7 := { stood := { row := alikeTellsRow, standIns := [], harness := (true, "ee256039582477f60126b604fd1bf2c9aebe063c097a57aeaa24b2b2ddc0481b"), looks := true }, kinds := [], alts := [], laidByText := true, laidKinds := [.data, .data, .data], laidTests := true, laidLooks := .later }
def AlikeTellsCardSaid : Prop := Claim7.holds Tryz.pinned (.plain (OpenSpec.ofChange alikeTellsSpec)) alikeTellsCard

/-- THE TIED CARD OF 'azimuthlaw10.AlikeBelow'. -/
def alikeBelowCard : Claim7 := { stood := { row := alikeBelowRow, standIns := [], harness := (true, "ee256039582477f60126b604fd1bf2c9aebe063c097a57aeaa24b2b2ddc0481b"), looks := true }, kinds := [], alts := [], laidByText := true, laidKinds := [.data, .data, .data], laidTests := true, laidLooks := .later }
def AlikeBelowCardSaid : Prop := Claim7.holds Tryz.pinned (.plain (OpenSpec.ofChange alikeBelowSpec)) alikeBelowCard

/-- THE SECOND FORM's CARD OF 'azimuthlaw12.ArenaPlays'. -/
def arenaPlaysUptoCard : Claim7 := { stood := { row := arenaPlaysUptoRow, standIns := [], harness := (true, "ee256039582477f60126b604fd1bf2c9aebe063c097a57aeaa24b2b2ddc0481b"), looks := true }, kinds := [], alts := [], laidByText := true, laidKinds := [.data, .data, .data], laidTests := true, laidLooks := .later }
def ArenaPlaysUptoCardSaid : Prop := Claim7.holds Tryz.pinned (.plain (OpenSpec.upto arenaPlaysSpec)) arenaPlaysUptoCard

/-- THE SECOND FORM's CARD OF 'azimuthlaw08.GraphSame'. -/
def graphSameUptoCard : Claim7 := { stood := { row := graphSameUptoRow, standIns := [], harness := (true, "ee256039582477f60126b604fd1bf2c9aebe063c097a57aeaa24b2b2ddc0481b"), looks := true }, kinds := [], alts := [], laidByText := true, laidKinds := [.data, .data, .data], laidTests := true, laidLooks := .later }
def GraphSameUptoCardSaid : Prop := Claim7.holds Tryz.pinned (.plain (OpenSpec.upto graphSameSpec)) graphSameUptoCard

/-- THE SECOND FORM's CARD OF 'azimuthlaw08.GraphBasic'. -/
def graphBasicUptoCard : Claim7 := { stood := { row := graphBasicUptoRow, standIns := [], harness := (true, "ee256039582477f60126b604fd1bf2c9aebe063c097a57aeaa24b2b2ddc0481b"), looks := true }, kinds := [], alts := [], laidByText := true, laidKinds := [.data, .data, .data], laidTests := true, laidLooks := .later }
def GraphBasicUptoCardSaid : Prop := Claim7.holds Tryz.pinned (.plain (OpenSpec.upto graphBasicSpec)) graphBasicUptoCard

/-- THE SECOND FORM's CARD OF 'azimuthlaw08.GraphTwice'. -/
def graphTwiceUptoCard : Claim7 := { stood := { row := graphTwiceUptoRow, standIns := [], harness := (true, "ee256039582477f60126b604fd1bf2c9aebe063c097a57aeaa24b2b2ddc0481b"), looks := true }, kinds := [], alts := [], laidByText := true, laidKinds := [.data, .data, .data], laidTests := true, laidLooks := .later }
def GraphTwiceUptoCardSaid : Prop := Claim7.holds Tryz.pinned (.plain (OpenSpec.upto graphTwiceSpec)) graphTwiceUptoCard

/-- THE SECOND FORM's CARD OF 'azimuthlaw08.GraphNormal'. -/
def graphNormalUptoCard : Claim7 := { stood := { row := graphNormalUptoRow, standIns := [], harness := (true, "ee256039582477f60126b604fd1bf2c9aebe063c097a57aeaa24b2b2ddc0481b"), looks := true }, kinds := [], alts := [], laidByText := true, laidKinds := [.data, .data, .data], laidTests := true, laidLooks := .later }
def GraphNormalUptoCardSaid : Prop := Claim7.holds Tryz.pinned (.plain (OpenSpec.upto graphNormalSpec)) graphNormalUptoCard

/-- THE SECOND FORM's CARD OF 'azimuthlaw08.GraphParses'. -/
def graphParsesUptoCard : Claim7 := { stood := { row := graphParsesUptoRow, standIns := [], harness := (true, "ee256039582477f60126b604fd1bf2c9aebe063c097a57aeaa24b2b2ddc0481b"), looks := true }, kinds := [], alts := [], laidByText := true, laidKinds := [.data, .data, .data, .data, .sentinel, .sentinel, .pinned], laidTests := true, laidLooks := .later }
def GraphParsesUptoCardSaid : Prop := Claim7.holds Tryz.pinned (.plain (OpenSpec.upto graphParsesSpec)) graphParsesUptoCard

/-- THE SECOND FORM's CARD OF 'azimuthlaw09.BelowRecords'. -/
def belowRecordsUptoCard : Claim7 := { stood := { row := belowRecordsUptoRow, standIns := [], harness := (true, "ee256039582477f60126b604fd1bf2c9aebe063c097a57aeaa24b2b2ddc0481b"), looks := true }, kinds := [], alts := [], laidByText := true, laidKinds := [.data, .data, .data], laidTests := true, laidLooks := .later }
def BelowRecordsUptoCardSaid : Prop := Claim7.holds Tryz.pinned (.plain (OpenSpec.upto belowRecordsSpec)) belowRecordsUptoCard

/-- THE SECOND FORM's CARD OF 'azimuthlaw09.BelowTurns'. -/
def belowTurnsUptoCard : Claim7 := { stood := { row := belowTurnsUptoRow, standIns := [], harness := (true, "ee256039582477f60126b604fd1bf2c9aebe063c097a57aeaa24b2b2ddc0481b"), looks := true }, kinds := [], alts := [], laidByText := true, laidKinds := [.data, .data, .data], laidTests := true, laidLooks := .later }
def BelowTurnsUptoCardSaid : Prop := Claim7.holds Tryz.pinned (.plain (OpenSpec.upto belowTurnsSpec)) belowTurnsUptoCard

/-- THE SECOND FORM's CARD OF 'azimuthlaw09.BelowTells'. -/
def belowTellsUptoCard : Claim7 := { stood := { row := belowTellsUptoRow, standIns := [], harness := (true, "ee256039582477f60126b604fd1bf2c9aebe063c097a57aeaa24b2b2ddc0481b"), looks := true }, kinds := [], alts := [], laidByText := true, laidKinds := [.data, .data, .data], laidTests := true, laidLooks := .later }
def BelowTellsUptoCardSaid : Prop := Claim7.holds Tryz.pinned (.plain (OpenSpec.upto belowTellsSpec)) belowTellsUptoCard

/-- THE SECOND FORM's CARD OF 'azimuthlaw09.BelowEnds'. -/
def belowEndsUptoCard : Claim7 := { stood := { row := belowEndsUptoRow, standIns := [], harness := (true, "ee256039582477f60126b604fd1bf2c9aebe063c097a57aeaa24b2b2ddc0481b"), looks := true }, kinds := [], alts := [], laidByText := true, laidKinds := [.data, .data, .data], laidTests := true, laidLooks := .later }
def BelowEndsUptoCardSaid : Prop := Claim7.holds Tryz.pinned (.plain (OpenSpec.upto belowEndsSpec)) belowEndsUptoCard

/-- THE SECOND FORM's CARD OF 'azimuthlaw09.BelowTable'. -/
def belowTableUptoCard : Claim7 := { stood := { row := belowTableUptoRow, standIns := [], harness := (true, "ee256039582477f60126b604fd1bf2c9aebe063c097a57aeaa24b2b2ddc0481b"), looks := true }, kinds := [], alts := [], laidByText := true, laidKinds := [.data, .data, .data], laidTests := true, laidLooks := .later }
def BelowTableUptoCardSaid : Prop := Claim7.holds Tryz.pinned (.plain (OpenSpec.upto belowTableSpec)) belowTableUptoCard

/-- THE SECOND FORM's CARD OF 'azimuthlaw09.BelowOrders'. -/
def belowOrdersUptoCard : Claim7 := { stood := { row := belowOrdersUptoRow, standIns := [], harness := (true, "ee256039582477f60126b604fd1bf2c9aebe063c097a57aeaa24b2b2ddc0481b"), looks := true }, kinds := [], alts := [], laidByText := true, laidKinds := [.data, .data, .data], laidTests := true, laidLooks := .later }
def BelowOrdersUptoCardSaid : Prop := Claim7.holds Tryz.pinned (.plain (OpenSpec.upto belowOrdersSpec)) belowOrdersUptoCard

/-- THE SECOND FORM's CARD OF 'azimuthlaw10.AlikeSelf'. -/
def alikeSelfUptoCard : Claim7 := { stood := { row := alikeSelfUptoRow, standIns := [], harness := (true, "ee256039582477f60126b604fd1bf2c9aebe063c097a57aeaa24b2b2ddc0481b"), looks := true }, kinds := [], alts := [], laidByText := true, laidKinds := [.data, .data, .data], laidTests := true, laidLooks := .later }
def AlikeSelfUptoCardSaid : Prop := Claim7.holds Tryz.pinned (.plain (OpenSpec.upto alikeSelfSpec)) alikeSelfUptoCard

/-- THE SECOND FORM's CARD OF 'azimuthlaw10.AlikeTells'. -/
def alikeTellsUptoCard : Claim7 := { stood := { row := alikeTellsUptoRow, standIns := [], harness := (true, "ee256039582477f60126b604fd1bf2c9aebe063c097a57aeaa24b2b2ddc0481b"), looks := true }, kinds := [], alts := [], laidByText := true, laidKinds := [.data, .data, .data], laidTests := true, laidLooks := .later }
def AlikeTellsUptoCardSaid : Prop := Claim7.holds Tryz.pinned (.plain (OpenSpec.upto alikeTellsSpec)) alikeTellsUptoCard

/-- THE SECOND FORM's CARD OF 'azimuthlaw10.AlikeBelow'. -/
def alikeBelowUptoCard : Claim7 := { stood := { row := alikeBelowUptoRow, standIns := [], harness := (true, "ee256039582477f60126b604fd1bf2c9aebe063c097a57aeaa24b2b2ddc0481b"), looks := true }, kinds := [], alts := [], laidByText := true, laidKinds := [.data, .data, .data], laidTests := true, laidLooks := .later }
def AlikeBelowUptoCardSaid : Prop := Claim7.holds Tryz.pinned (.plain (OpenSpec.upto alikeBelowSpec)) alikeBelowUptoCard
end Rows
end Go.Proofs.YtifilhkkgkihpaaGreatDoor
