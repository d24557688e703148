/-
  DERIVED. GIVEN WITH THE SEED: THE CARDS: each row of YtcfclncbpeahnaaGreatDoorRows.lean that lists a variable, with what it lists TIED to the program's text (the seventh form; the later family's looks); each row that meets fmt, with fmt's text TOLD by the authors' own Lean function (tested against real Go, not proved from fmt's source: count such statements apart). THE CARD IS WHAT COUNTS. Prove the row's statement (the work); the ties are given (YtcfclncbpeahnaaGreatDoorTie.lean); close each card by the builder's one call (the guide's Derived/Test/ToyasCard.lean, 'card_holds'). Laid BY PROGRAM, IN A SANDBOX (cutbox-door.mjs). By AI agents, Wed Nov 11 2026. No macro, syntax, notation, axiom, sorry.
-/
import Derived.Test.YtcfclncbpeahnaaGreatDoorRows
import GoSem.ClaimSeven
namespace Go.Proofs.YtcfclncbpeahnaaGreatDoor
namespace Rows

/-- THE TIED CARD OF 'assessorlaw47.RubrictextParses'. -/
def rubrictextParsesCard : Claim7 := { stood := { row := rubrictextParsesRow, standIns := [], harness := (true, "8b6901f9c049a307a49058746c98b411e55be2f5df84ae42e00e90300fb9ed29"), looks := true }, kinds := [], alts := [], laidByText := true, laidKinds := [.data, .data, .data, .data, .sentinel, .sentinel, .pinned], laidTests := true, laidLooks := .later }
def RubrictextParsesCardSaid : Prop := Claim7.holds Tryz.pinned (.plain (OpenSpec.ofChange rubrictextParsesSpec)) rubrictextParsesCard

/-- THE TIED CARD OF 'assessorlaw47.RubrictextParentheses'. -/
def rubrictextParenthesesCard : Claim7 := { stood := { row := rubrictextParenthesesRow, standIns := [], harness := (true, "8b6901f9c049a307a49058746c98b411e55be2f5df84ae42e00e90300fb9ed29"), looks := true }, kinds := [], alts := [], laidByText := true, laidKinds := [.data, .data, .data, .data, .sentinel, .sentinel, .pinned], laidTests := true, laidLooks := .later }
def RubrictextParenthesesCardSaid : Prop := Claim7.holds Tryz.pinned (.plain (OpenSpec.ofChange rubrictextParenthesesSpec)) rubrictextParenthesesCard

/-- THE TIED CARD OF 'assessorlaw47.RubrictextPrecedence'. -/
def rubrictextPrecedenceCard : Claim7 := { stood := { row := rubrictextPrecedenceRow, standIns := [], harness := (true, "8b6901f9c049a307a49058746c98b411e55be2f5df84ae42e00e90300fb9ed29"), looks := true }, kinds := [], alts := [], laidByText := true, laidKinds := [.data, .data, .data, .data, .sentinel, .sentinel, .pinned], laidTests := true, laidLooks := .later }
def RubrictextPrecedenceCardSaid : Prop := Claim7.holds Tryz.pinned (.plain (OpenSpec.ofChange rubrictextPrecedenceSpec)) rubrictextPrecedenceCard

/-- THE TIED CARD OF 'assessorlaw47.RubrictextStable'. -/
def rubrictextStableCard : Claim7 := { stood := { row := rubrictextStableRow, standIns := [], harness := (true, "8b6901f9c049a307a49058746c98b411e55be2f5df84ae42e00e90300fb9ed29"), looks := true }, kinds := [], alts := [], laidByText := true, laidKinds := [.data, .data, .data, .data, .sentinel, .sentinel, .pinned], laidTests := true, laidLooks := .later }
def RubrictextStableCardSaid : Prop := Claim7.holds Tryz.pinned (.plain (OpenSpec.ofChange rubrictextStableSpec)) rubrictextStableCard

/-- THE TIED CARD OF 'assessorlaw47.RubrictextSpaces'. -/
def rubrictextSpacesCard : Claim7 := { stood := { row := rubrictextSpacesRow, standIns := [], harness := (true, "8b6901f9c049a307a49058746c98b411e55be2f5df84ae42e00e90300fb9ed29"), looks := true }, kinds := [], alts := [], laidByText := true, laidKinds := [.data, .data, .data, .data, .sentinel, .sentinel, .pinned], laidTests := true, laidLooks := .later }
def RubrictextSpacesCardSaid : Prop := Claim7.holds Tryz.pinned (.plain (OpenSpec.ofChange rubrictextSpacesSpec)) rubrictextSpacesCard

/-- THE TIED CARD OF 'assessorlaw47.RubrictextFormats'. -/
def rubrictextFormatsCard : Claim7 := { stood := { row := rubrictextFormatsRow, standIns := [], harness := (true, "8b6901f9c049a307a49058746c98b411e55be2f5df84ae42e00e90300fb9ed29"), looks := true }, kinds := [], alts := [], laidByText := true, laidKinds := [.data, .data, .data, .data, .sentinel, .sentinel, .pinned], laidTests := true, laidLooks := .later }
def RubrictextFormatsCardSaid : Prop := Claim7.holds Tryz.pinned (.plain (OpenSpec.ofChange rubrictextFormatsSpec)) rubrictextFormatsCard

/-- THE TIED CARD OF 'assessorlaw47.RubrictextReturns'. -/
def rubrictextReturnsCard : Claim7 := { stood := { row := rubrictextReturnsRow, standIns := [], harness := (true, "8b6901f9c049a307a49058746c98b411e55be2f5df84ae42e00e90300fb9ed29"), looks := true }, kinds := [], alts := [], laidByText := true, laidKinds := [.data, .data, .data, .data, .sentinel, .sentinel, .pinned], laidTests := true, laidLooks := .later }
def RubrictextReturnsCardSaid : Prop := Claim7.holds Tryz.pinned (.plain (OpenSpec.ofChange rubrictextReturnsSpec)) rubrictextReturnsCard

/-- THE SECOND FORM's CARD OF 'assessorlaw47.RubrictextParses'. -/
def rubrictextParsesUptoCard : Claim7 := { stood := { row := rubrictextParsesUptoRow, standIns := [], harness := (true, "8b6901f9c049a307a49058746c98b411e55be2f5df84ae42e00e90300fb9ed29"), looks := true }, kinds := [], alts := [], laidByText := true, laidKinds := [.data, .data, .data, .data, .sentinel, .sentinel, .pinned], laidTests := true, laidLooks := .later }
def RubrictextParsesUptoCardSaid : Prop := Claim7.holds Tryz.pinned (.plain (OpenSpec.upto rubrictextParsesSpec)) rubrictextParsesUptoCard

/-- THE SECOND FORM's CARD OF 'assessorlaw47.RubrictextParentheses'. -/
def rubrictextParenthesesUptoCard : Claim7 := { stood := { row := rubrictextParenthesesUptoRow, standIns := [], harness := (true, "8b6901f9c049a307a49058746c98b411e55be2f5df84ae42e00e90300fb9ed29"), looks := true }, kinds := [], alts := [], laidByText := true, laidKinds := [.data, .data, .data, .data, .sentinel, .sentinel, .pinned], laidTests := true, laidLooks := .later }
def RubrictextParenthesesUptoCardSaid : Prop := Claim7.holds Tryz.pinned (.plain (OpenSpec.upto rubrictextParenthesesSpec)) rubrictextParenthesesUptoCard

/-- THE SECOND FORM's CARD OF 'assessorlaw47.RubrictextPrecedence'. -/
def rubrictextPrecedenceUptoCard : Claim7 := { stood := { row := rubrictextPrecedenceUptoRow, standIns := [], harness := (true, "8b6901f9c049a307a49058746c98b411e55be2f5df84ae42e00e90300fb9ed29"), looks := true }, kinds := [], alts := [], laidByText := true, laidKinds := [.data, .data, .data, .data, .sentinel, .sentinel, .pinned], laidTests := true, laidLooks := .later }
def RubrictextPrecedenceUptoCardSaid : Prop := Claim7.holds Tryz.pinned (.plain (OpenSpec.upto rubrictextPrecedenceSpec)) rubrictextPrecedenceUptoCard

/-- THE SECOND FORM's CARD OF 'assessorlaw47.RubrictextStable'. -/
def rubrictextStableUptoCard : Claim7 := { stood := { row := rubrictextStableUptoRow, standIns := [], harness := (true, "8b6901f9c049a307a49058746c98b411e55be2f5df84ae42e00e90300fb9ed29"), looks := true }, kinds := [], alts := [], laidByText := true, laidKinds := [.data, .data, .data, .data, .sentinel, .sentinel, .pinned], laidTests := true, laidLooks := .later }
def RubrictextStableUptoCardSaid : Prop := Claim7.holds Tryz.pinned (.plain (OpenSpec.upto rubrictextStableSpec)) rubrictextStableUptoCard

/-- THE SECOND FORM's CARD OF 'assessorlaw47.RubrictextSpaces'. -/
def rubrictextSpacesUptoCard : Claim7 := { stood := { row := rubrictextSpacesUptoRow, standIns := [], harness := (true, "8b6901f9c049a307a49058746c98b411e55be2f5df84ae42e00e90300fb9ed29"), looks := true }, kinds := [], alts := [], laidByText := true, laidKinds := [.data, .data, .data, .data, .sentinel, .sentinel, .pinned], laidTests := true, laidLooks := .later }
def RubrictextSpacesUptoCardSaid : Prop := Claim7.holds Tryz.pinned (.plain (OpenSpec.upto rubrictextSpacesSpec)) rubrictextSpacesUptoCard

/-- THE SECOND FORM's CARD OF 'assessorlaw47.RubrictextFormats'. -/
def rubrictextFormatsUptoCard : Claim7 := { stood := { row := rubrictextFormatsUptoRow, standIns := [], harness := (true, "8b6901f9c049a307a49058746c98b411e55be2f5df84ae42e00e90300fb9ed29"), looks := true }, kinds := [], alts := [], laidByText := true, laidKinds := [.data, .data, .data, .data, .sentinel, .sentinel, .pinned], laidTests := true, laidLooks := .later }
def RubrictextFormatsUptoCardSaid : Prop := Claim7.holds Tryz.pinned (.plain (OpenSpec.upto rubrictextFormatsSpec)) rubrictextFormatsUptoCard

/-- THE SECOND FORM's CARD OF 'assessorlaw47.RubrictextReturns'. -/
def rubrictextReturnsUptoCard : Claim7 := { stood := { row := rubrictextReturnsUptoRow, standIns := [], harness := (true, "8b6901f9c049a307a49058746c98b411e55be2f5df84ae42e00e90300fb9ed29"), looks := true }, kinds := [], alts := [], laidByText := true, laidKinds := [.data, .data, .data, .data, .sentinel, .sentinel, .pinned], laidTests := true, laidLooks := .later }
def RubrictextReturnsUptoCardSaid : Prop := Claim7.holds Tryz.pinned (.plain (OpenSpec.upto rubrictextReturnsSpec)) rubrictextReturnsUptoCard
end Rows
end Go.Proofs.YtcfclncbpeahnaaGreatDoor
