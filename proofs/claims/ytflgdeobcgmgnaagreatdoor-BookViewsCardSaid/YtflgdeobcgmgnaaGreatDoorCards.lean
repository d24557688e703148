/-
  DERIVED. GIVEN WITH THE SEED: THE CARDS: each row of YtflgdeobcgmgnaaGreatDoorRows.lean that lists a variable, with what it lists TIED to the program's text (the seventh form; the later family's looks); each row that meets fmt, with fmt's text TOLD by the authors' own Lean function (tested against real Go, not proved from fmt's source: count such statements apart). THE CARD IS WHAT COUNTS. Prove the row's statement (the work); the ties are given (YtflgdeobcgmgnaaGreatDoorTie.lean); close each card by the builder's one call (the guide's Derived/Test/ToyasCard.lean, 'card_holds'). Laid BY PROGRAM, IN A SANDBOX (cutbox-door.mjs). By AI agents, Wed Nov 11 2026. No macro, syntax, notation, axiom, sorry.
-/
import Derived.Test.YtflgdeobcgmgnaaGreatDoorRows
import GoSem.ClaimSeven
namespace Go.Proofs.YtflgdeobcgmgnaaGreatDoor
namespace Rows

/-- THE TIED CARD OF 'assessorlaw55.BookKeeps'. -/
def bookKeepsCard : Claim7 := { stood := { row := bookKeepsRow, standIns := [], harness := (true, "da49b9daeadc30a33a1c0b500c0d0f177df8980835f03ddf59129a9bda471115"), looks := true }, kinds := [], alts := [], laidByText := true, laidKinds := [.data, .data, .data], laidTests := true, laidLooks := .later }
def BookKeepsCardSaid : Prop := Claim7.holds Tryz.pinned (.plain (OpenSpec.ofChange bookKeepsSpec)) bookKeepsCard

/-- THE TIED CARD OF 'assessorlaw55.BookApplies'. -/
def bookAppliesCard : Claim7 := { stood := { row := bookAppliesRow, standIns := [], harness := (true, "da49b9daeadc30a33a1c0b500c0d0f177df8980835f03ddf59129a9bda471115"), looks := true }, kinds := [], alts := [], laidByText := true, laidKinds := [.data, .data, .data], laidTests := true, laidLooks := .later }
def BookAppliesCardSaid : Prop := Claim7.holds Tryz.pinned (.plain (OpenSpec.ofChange bookAppliesSpec)) bookAppliesCard

/-- THE TIED CARD OF 'assessorlaw55.BookTwice'. -/
def bookTwiceCard : Claim7 := { stood := { row := bookTwiceRow, standIns := [], harness := (true, "da49b9daeadc30a33a1c0b500c0d0f177df8980835f03ddf59129a9bda471115"), looks := true }, kinds := [], alts := [], laidByText := true, laidKinds := [.data, .data, .data], laidTests := true, laidLooks := .later }
def BookTwiceCardSaid : Prop := Claim7.holds Tryz.pinned (.plain (OpenSpec.ofChange bookTwiceSpec)) bookTwiceCard

/-- THE TIED CARD OF 'assessorlaw55.BookPoints'. -/
def bookPointsCard : Claim7 := { stood := { row := bookPointsRow, standIns := [], harness := (true, "da49b9daeadc30a33a1c0b500c0d0f177df8980835f03ddf59129a9bda471115"), looks := true }, kinds := [], alts := [], laidByText := true, laidKinds := [.data, .data, .data], laidTests := true, laidLooks := .later }
def BookPointsCardSaid : Prop := Claim7.holds Tryz.pinned (.plain (OpenSpec.ofChange bookPointsSpec)) bookPointsCard

/-- THE TIED CARD OF 'assessorlaw55.BookStudents'. -/
def bookStudentsCard : Claim7 := { stood := { row := bookStudentsRow, standIns := [], harness := (true, "da49b9daeadc30a33a1c0b500c0d0f177df8980835f03ddf59129a9bda471115"), looks := true }, kinds := [], alts := [], laidByText := true, laidKinds := [.data, .data, .data], laidTests := true, laidLooks := .later }
def BookStudentsCardSaid : Prop := Claim7.holds Tryz.pinned (.plain (OpenSpec.ofChange bookStudentsSpec)) bookStudentsCard

/-- THE TIED CARD OF 'assessorlaw55.BookViews'. -/
def bookViewsCard : Claim7 := { stood := { row := bookViewsRow, standIns := [], harness := (true, "da49b9daeadc30a33a1c0b500c0d0f177df8980835f03ddf59129a9bda471115"), looks := true }, kinds := [], alts := [], laidByText := true, laidKinds := [.data, .data, .data], laidTests := true, laidLooks := .later }
def BookViewsCardSaid : Prop := Claim7.holds Tryz.pinned (.plain (OpenSpec.ofChange bookViewsSpec)) bookViewsCard

/-- THE TIED CARD OF 'assessorlaw55.BookCodes'. -/
def bookCodesCard : Claim7 := { stood := { row := bookCodesRow, standIns := [], harness := (true, "da49b9daeadc30a33a1c0b500c0d0f177df8980835f03ddf59129a9bda471115"), looks := true }, kinds := [], alts := [], laidByText := true, laidKinds := [.data, .data, .data, .sentinel, .sentinel], laidTests := true, laidLooks := .later }
def BookCodesCardSaid : Prop := Claim7.holds Tryz.pinned (.plain (OpenSpec.ofChange bookCodesSpec)) bookCodesCard

/-- THE TIED CARD OF 'assessorlaw55.BookReplays'. -/
def bookReplaysCard : Claim7 := { stood := { row := bookReplaysRow, standIns := [], harness := (true, "da49b9daeadc30a33a1c0b500c0d0f177df8980835f03ddf59129a9bda471115"), looks := true }, kinds := [], alts := [], laidByText := true, laidKinds := [.data, .data, .data, .sentinel, .sentinel], laidTests := true, laidLooks := .later }
def BookReplaysCardSaid : Prop := Claim7.holds Tryz.pinned (.plain (OpenSpec.ofChange bookReplaysSpec)) bookReplaysCard

/-- THE SECOND FORM's CARD OF 'assessorlaw55.BookKeeps'. -/
def bookKeepsUptoCard : Claim7 := { stood := { row := bookKeepsUptoRow, standIns := [], harness := (true, "da49b9daeadc30a33a1c0b500c0d0f177df8980835f03ddf59129a9bda471115"), looks := true }, kinds := [], alts := [], laidByText := true, laidKinds := [.data, .data, .data], laidTests := true, laidLooks := .later }
def BookKeepsUptoCardSaid : Prop := Claim7.holds Tryz.pinned (.plain (OpenSpec.upto bookKeepsSpec)) bookKeepsUptoCard

/-- THE SECOND FORM's CARD OF 'assessorlaw55.BookApplies'. -/
def bookAppliesUptoCard : Claim7 := { stood := { row := bookAppliesUptoRow, standIns := [], harness := (true, "da49b9daeadc30a33a1c0b500c0d0f177df8980835f03ddf59129a9bda471115"), looks := true }, kinds := [], alts := [], laidByText := true, laidKinds := [.data, .data, .data], laidTests := true, laidLooks := .later }
def BookAppliesUptoCardSaid : Prop := Claim7.holds Tryz.pinned (.plain (OpenSpec.upto bookAppliesSpec)) bookAppliesUptoCard

/-- THE SECOND FORM's CARD OF 'assessorlaw55.BookTwice'. -/
def bookTwiceUptoCard : Claim7 := { stood := { row := bookTwiceUptoRow, standIns := [], harness := (true, "da49b9daeadc30a33a1c0b500c0d0f177df8980835f03ddf59129a9bda471115"), looks := true }, kinds := [], alts := [], laidByText := true, laidKinds := [.data, .data, .data], laidTests := true, laidLooks := .later }
def BookTwiceUptoCardSaid : Prop := Claim7.holds Tryz.pinned (.plain (OpenSpec.upto bookTwiceSpec)) bookTwiceUptoCard

/-- THE SECOND FORM's CARD OF 'assessorlaw55.BookPoints'. -/
def bookPointsUptoCard : Claim7 := { stood := { row := bookPointsUptoRow, standIns := [], harness := (true, "da49b9daeadc30a33a1c0b500c0d0f177df8980835f03ddf59129a9bda471115"), looks := true }, kinds := [], alts := [], laidByText := true, laidKinds := [.data, .data, .data], laidTests := true, laidLooks := .later }
def BookPointsUptoCardSaid : Prop := Claim7.holds Tryz.pinned (.plain (OpenSpec.upto bookPointsSpec)) bookPointsUptoCard

/-- THE SECOND FORM's CARD OF 'assessorlaw55.BookStudents'. -/
def bookStudentsUptoCard : Claim7 := { stood := { row := bookStudentsUptoRow, standIns := [], harness := (true, "da49b9daeadc30a33a1c0b500c0d0f177df8980835f03ddf59129a9bda471115"), looks := true }, kinds := [], alts := [], laidByText := true, laidKinds := [.data, .data, .data], laidTests := true, laidLooks := .later }
def BookStudentsUptoCardSaid : Prop := Claim7.holds Tryz.pinned (.plain (OpenSpec.upto bookStudentsSpec)) bookStudentsUptoCard

/-- THE SECOND FORM's CARD OF 'assessorlaw55.BookViews'. -/
def bookViewsUptoCard : Claim7 := { stood := { row := bookViewsUptoRow, standIns := [], harness := (true, "da49b9daeadc30a33a1c0b500c0d0f177df8980835f03ddf59129a9bda471115"), looks := true }, kinds := [], alts := [], laidByText := true, laidKinds := [.data, .data, .data], laidTests := true, laidLooks := .later }
def BookViewsUptoCardSaid : Prop := Claim7.holds Tryz.pinned (.plain (OpenSpec.upto bookViewsSpec)) bookViewsUptoCard

/-- THE SECOND FORM's CARD OF 'assessorlaw55.BookCodes'. -/
def bookCodesUptoCard : Claim7 := { stood := { row := bookCodesUptoRow, standIns := [], harness := (true, "da49b9daeadc30a33a1c0b500c0d0f177df8980835f03ddf59129a9bda471115"), looks := true }, kinds := [], alts := [], laidByText := true, laidKinds := [.data, .data, .data, .sentinel, .sentinel], laidTests := true, laidLooks := .later }
def BookCodesUptoCardSaid : Prop := Claim7.holds Tryz.pinned (.plain (OpenSpec.upto bookCodesSpec)) bookCodesUptoCard

/-- THE SECOND FORM's CARD OF 'assessorlaw55.BookReplays'. -/
def bookReplaysUptoCard : Claim7 := { stood := { row := bookReplaysUptoRow, standIns := [], harness := (true, "da49b9daeadc30a33a1c0b500c0d0f177df8980835f03ddf59129a9bda471115"), looks := true }, kinds := [], alts := [], laidByText := true, laidKinds := [.data, .data, .data, .sentinel, .sentinel], laidTests := true, laidLooks := .later }
def BookReplaysUptoCardSaid : Prop := Claim7.holds Tryz.pinned (.plain (OpenSpec.upto bookReplaysSpec)) bookReplaysUptoCard
end Rows
end Go.Proofs.YtflgdeobcgmgnaaGreatDoor
