/-
  DERIVED. GIVEN WITH THE SEED: THE CARDS: each row of YtpefajgllapicaaDoorRows.lean that lists a variable, with what it lists TIED to the program's text (the seventh form; the later family's looks); each row that meets fmt, with fmt's text TOLD by the authors' own Lean function (tested against real Go, not proved from fmt's source: count such statements apart). THE CARD IS WHAT COUNTS. Prove the row's statement (the work); the ties are given (YtpefajgllapicaaDoorTie.lean); close each card by the builder's one call (the guide's Derived/Test/ToyasCard.lean, 'card_holds'). Laid BY PROGRAM, IN A SANDBOX (cutbox-door.mjs). By AI agents, Wed Nov 11 2026. No macro, syntax, notation, axiom, sorry.
-/
import Derived.Test.YtpefajgllapicaaDoorRows
import GoSem.ClaimSeven
namespace Go.Proofs.YtpefajgllapicaaDoor
namespace Rows

/-- THE TIED CARD OF 'azimuthlaw20.ValueWeighs'. -/
def valueWeighsCard : Claim7 := { stood := { row := valueWeighsRow, standIns := [], harness := (true, "8a16fffd8bf857e10c32b057e3642f30f58bda0775d8efdf7df40a7fd7c12559"), looks := false }, kinds := [], alts := [], laidByText := true, laidKinds := [.data, .data, .data], laidTests := true, laidLooks := .later }
def ValueWeighsCardSaid : Prop := Claim7.holds Tryd.pinned (.plain (OpenSpec.ofChange valueWeighsSpec)) valueWeighsCard

/-- THE TIED CARD OF 'azimuthlaw20.ValueRecords'. -/
def valueRecordsCard : Claim7 := { stood := { row := valueRecordsRow, standIns := [], harness := (true, "8a16fffd8bf857e10c32b057e3642f30f58bda0775d8efdf7df40a7fd7c12559"), looks := false }, kinds := [], alts := [], laidByText := true, laidKinds := [.data, .data, .data], laidTests := true, laidLooks := .later }
def ValueRecordsCardSaid : Prop := Claim7.holds Tryd.pinned (.plain (OpenSpec.ofChange valueRecordsSpec)) valueRecordsCard

/-- THE TIED CARD OF 'azimuthlaw20.ValueFinds'. -/
def valueFindsCard : Claim7 := { stood := { row := valueFindsRow, standIns := [], harness := (true, "8a16fffd8bf857e10c32b057e3642f30f58bda0775d8efdf7df40a7fd7c12559"), looks := false }, kinds := [], alts := [], laidByText := true, laidKinds := [.data, .data, .data], laidTests := true, laidLooks := .later }
def ValueFindsCardSaid : Prop := Claim7.holds Tryd.pinned (.plain (OpenSpec.ofChange valueFindsSpec)) valueFindsCard

/-- THE SECOND FORM's CARD OF 'azimuthlaw20.ValueWeighs'. -/
def valueWeighsUptoCard : Claim7 := { stood := { row := valueWeighsUptoRow, standIns := [], harness := (true, "8a16fffd8bf857e10c32b057e3642f30f58bda0775d8efdf7df40a7fd7c12559"), looks := false }, kinds := [], alts := [], laidByText := true, laidKinds := [.data, .data, .data], laidTests := true, laidLooks := .later }
def ValueWeighsUptoCardSaid : Prop := Claim7.holds Tryd.pinned (.plain (OpenSpec.upto valueWeighsSpec)) valueWeighsUptoCard

/-- THE SECOND FORM's CARD OF 'azimuthlaw20.ValueRecords'. -/
def valueRecordsUptoCard : Claim7 := { stood := { row := valueRecordsUptoRow, standIns := [], harness := (true, "8a16fffd8bf857e10c32b057e3642f30f58bda0775d8efdf7df40a7fd7c12559"), looks := false }, kinds := [], alts := [], laidByText := true, laidKinds := [.data, .data, .data], laidTests := true, laidLooks := .later }
def ValueRecordsUptoCardSaid : Prop := Claim7.holds Tryd.pinned (.plain (OpenSpec.upto valueRecordsSpec)) valueRecordsUptoCard

/-- THE SECOND FORM's CARD OF 'azimuthlaw20.ValueFinds'. -/
def valueFindsUptoCard : Claim7 := { stood := { row := valueFindsUptoRow, standIns := [], harness := (true, "8a16fffd8bf857e10c32b057e3642f30f58bda0775d8efdf7df40a7fd7c12559"), looks := false }, kinds := [], alts := [], laidByText := true, laidKinds := [.data, .data, .data], laidTests := true, laidLooks := .later }
def ValueFindsUptoCardSaid : Prop := Claim7.holds Tryd.pinned (.plain (OpenSpec.upto valueFindsSpec)) valueFindsUptoCard
end Rows
end Go.Proofs.YtpefajgllapicaaDoor
