/-
  DERIVED. GIVEN WITH THE SEED: THE CARDS: each row of YtoakfninndkgaaaGreatDoorRows.lean that lists a variable, with what it lists TIED to the program's text (the seventh form; the later family's looks); each row that meets fmt, with fmt's text TOLD by the authors' own Lean function (tested against real Go, not proved from fmt's source: count such statements apart). THE CARD IS WHAT COUNTS. Prove the row's statement (the work); the ties are given (YtoakfninndkgaaaGreatDoorTie.lean); close each card by the builder's one call (the guide's Derived/Test/ToyasCard.lean, 'card_holds'). Laid BY PROGRAM, IN A SANDBOX (cutbox-door.mjs). By AI agents, Wed Nov 11 2026. No macro, syntax, notation, axiom, sorry.
-/
import Derived.Test.YtoakfninndkgaaaGreatDoorRows
import GoSem.ClaimSeven
namespace Go.Proofs.YtoakfninndkgaaaGreatDoor
namespace Rows

/-- THE TIED CARD OF 'azimuthlaw12.ArenaGraphs'. -/
def arenaGraphsCard : Claim7 := { stood := { row := arenaGraphsRow, standIns := [], harness := (true, "2167396f62896131247497bc1a56cc206c600acd5b9ccb8952730bf3a62a76f1"), looks := false }, kinds := [], alts := [], laidByText := true, laidKinds := [.data, .data, .data], laidTests := true, laidLooks := .later }
def ArenaGraphsCardSaid : Prop := Claim7.holds Tryz.pinned (.plain (OpenSpec.ofChange arenaGraphsSpec)) arenaGraphsCard

/-- THE TIED CARD OF 'azimuthlaw12.ArenaPlays'. -/
def arenaPlaysCard : Claim7 := { stood := { row := arenaPlaysRow, standIns := [], harness := (true, "2167396f62896131247497bc1a56cc206c600acd5b9ccb8952730bf3a62a76f1"), looks := false }, kinds := [], alts := [], laidByText := true, laidKinds := [.data, .data, .data], laidTests := true, laidLooks := .later }
def ArenaPlaysCardSaid : Prop := Claim7.holds Tryz.pinned (.plain (OpenSpec.ofChange arenaPlaysSpec)) arenaPlaysCard

/-- THE TIED CARD OF 'azimuthlaw12.ArenaNone'. -/
def arenaNoneCard : Claim7 := { stood := { row := arenaNoneRow, standIns := [], harness := (true, "2167396f62896131247497bc1a56cc206c600acd5b9ccb8952730bf3a62a76f1"), looks := false }, kinds := [], alts := [], laidByText := true, laidKinds := [.data, .data, .data], laidTests := true, laidLooks := .later }
def ArenaNoneCardSaid : Prop := Claim7.holds Tryz.pinned (.plain (OpenSpec.ofChange arenaNoneSpec)) arenaNoneCard

/-- THE TIED CARD OF 'azimuthlaw20.ValueHas'. -/
def valueHasCard : Claim7 := { stood := { row := valueHasRow, standIns := [], harness := (true, "2167396f62896131247497bc1a56cc206c600acd5b9ccb8952730bf3a62a76f1"), looks := false }, kinds := [], alts := [], laidByText := true, laidKinds := [.data, .data, .data], laidTests := true, laidLooks := .later }
def ValueHasCardSaid : Prop := Claim7.holds Tryz.pinned (.plain (OpenSpec.ofChange valueHasSpec)) valueHasCard

/-- THE SECOND FORM's CARD OF 'azimuthlaw12.ArenaGraphs'. -/
def arenaGraphsUptoCard : Claim7 := { stood := { row := arenaGraphsUptoRow, standIns := [], harness := (true, "2167396f62896131247497bc1a56cc206c600acd5b9ccb8952730bf3a62a76f1"), looks := false }, kinds := [], alts := [], laidByText := true, laidKinds := [.data, .data, .data], laidTests := true, laidLooks := .later }
def ArenaGraphsUptoCardSaid : Prop := Claim7.holds Tryz.pinned (.plain (OpenSpec.upto arenaGraphsSpec)) arenaGraphsUptoCard

/-- THE SECOND FORM's CARD OF 'azimuthlaw12.ArenaPlays'. -/
def arenaPlaysUptoCard : Claim7 := { stood := { row := arenaPlaysUptoRow, standIns := [], harness := (true, "2167396f62896131247497bc1a56cc206c600acd5b9ccb8952730bf3a62a76f1"), looks := false }, kinds := [], alts := [], laidByText := true, laidKinds := [.data, .data, .data], laidTests := true, laidLooks := .later }
def ArenaPlaysUptoCardSaid : Prop := Claim7.holds Tryz.pinned (.plain (OpenSpec.upto arenaPlaysSpec)) arenaPlaysUptoCard

/-- THE SECOND FORM's CARD OF 'azimuthlaw12.ArenaNone'. -/
def arenaNoneUptoCard : Claim7 := { stood := { row := arenaNoneUptoRow, standIns := [], harness := (true, "2167396f62896131247497bc1a56cc206c600acd5b9ccb8952730bf3a62a76f1"), looks := false }, kinds := [], alts := [], laidByText := true, laidKinds := [.data, .data, .data], laidTests := true, laidLooks := .later }
def ArenaNoneUptoCardSaid : Prop := Claim7.holds Tryz.pinned (.plain (OpenSpec.upto arenaNoneSpec)) arenaNoneUptoCard

/-- THE SECOND FORM's CARD OF 'azimuthlaw20.ValueHas'. -/
def valueHasUptoCard : Claim7 := { stood := { row := valueHasUptoRow, standIns := [], harness := (true, "2167396f62896131247497bc1a56cc206c600acd5b9ccb8952730bf3a62a76f1"), looks := false }, kinds := [], alts := [], laidByText := true, laidKinds := [.data, .data, .data], laidTests := true, laidLooks := .later }
def ValueHasUptoCardSaid : Prop := Claim7.holds Tryz.pinned (.plain (OpenSpec.upto valueHasSpec)) valueHasUptoCard
end Rows
end Go.Proofs.YtoakfninndkgaaaGreatDoor
