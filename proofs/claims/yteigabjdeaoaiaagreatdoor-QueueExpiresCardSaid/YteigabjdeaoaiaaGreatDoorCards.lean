/-
  DERIVED. GIVEN WITH THE SEED: THE CARDS: each row of YteigabjdeaoaiaaGreatDoorRows.lean that lists a variable, with what it lists TIED to the program's text (the seventh form; the later family's looks); each row that meets fmt, with fmt's text TOLD by the authors' own Lean function (tested against real Go, not proved from fmt's source: count such statements apart). THE CARD IS WHAT COUNTS. Prove the row's statement (the work); the ties are given (YteigabjdeaoaiaaGreatDoorTie.lean); close each card by the builder's one call (the guide's Derived/Test/ToyasCard.lean, 'card_holds'). Laid BY PROGRAM, IN A SANDBOX (cutbox-door.mjs). By AI agents, Wed Nov 11 2026. No macro, syntax, notation, axiom, sorry.
-/
import Derived.Test.YteigabjdeaoaiaaGreatDoorRows
import GoSem.ClaimSeven
namespace Go.Proofs.YteigabjdeaoaiaaGreatDoor
namespace Rows

/-- THE TIED CARD OF 'assessorlaw57.QueueFair'. -/
def queueFairCard : Claim7 := { stood := { row := queueFairRow, standIns := [], harness := (true, "22494a34f967fb657e3165861fb2a3470ec36ac5a33aa49a720ca147cac7b149"), looks := false }, kinds := [], alts := [], laidByText := true, laidKinds := [.data, .data, .data], laidTests := true, laidLooks := .later }
def QueueFairCardSaid : Prop := Claim7.holds Tryz.pinned (.plain (OpenSpec.ofChange queueFairSpec)) queueFairCard

/-- THE TIED CARD OF 'assessorlaw57.QueueConserves'. -/
def queueConservesCard : Claim7 := { stood := { row := queueConservesRow, standIns := [], harness := (true, "22494a34f967fb657e3165861fb2a3470ec36ac5a33aa49a720ca147cac7b149"), looks := false }, kinds := [], alts := [], laidByText := true, laidKinds := [.data, .data, .data], laidTests := true, laidLooks := .later }
def QueueConservesCardSaid : Prop := Claim7.holds Tryz.pinned (.plain (OpenSpec.ofChange queueConservesSpec)) queueConservesCard

/-- THE TIED CARD OF 'assessorlaw57.QueueExpires'. -/
def queueExpiresCard : Claim7 := { stood := { row := queueExpiresRow, standIns := [], harness := (true, "22494a34f967fb657e3165861fb2a3470ec36ac5a33aa49a720ca147cac7b149"), looks := false }, kinds := [], alts := [], laidByText := true, laidKinds := [.data, .data, .data], laidTests := true, laidLooks := .later }
def QueueExpiresCardSaid : Prop := Claim7.holds Tryz.pinned (.plain (OpenSpec.ofChange queueExpiresSpec)) queueExpiresCard

/-- THE TIED CARD OF 'assessorlaw57.QueueTicks'. -/
def queueTicksCard : Claim7 := { stood := { row := queueTicksRow, standIns := [], harness := (true, "22494a34f967fb657e3165861fb2a3470ec36ac5a33aa49a720ca147cac7b149"), looks := false }, kinds := [], alts := [], laidByText := true, laidKinds := [.data, .data, .data], laidTests := true, laidLooks := .later }
def QueueTicksCardSaid : Prop := Claim7.holds Tryz.pinned (.plain (OpenSpec.ofChange queueTicksSpec)) queueTicksCard

/-- THE TIED CARD OF 'assessorlaw57.QueueDrains'. -/
def queueDrainsCard : Claim7 := { stood := { row := queueDrainsRow, standIns := [], harness := (true, "22494a34f967fb657e3165861fb2a3470ec36ac5a33aa49a720ca147cac7b149"), looks := false }, kinds := [], alts := [], laidByText := true, laidKinds := [.data, .data, .data], laidTests := true, laidLooks := .later }
def QueueDrainsCardSaid : Prop := Claim7.holds Tryz.pinned (.plain (OpenSpec.ofChange queueDrainsSpec)) queueDrainsCard

/-- THE SECOND FORM's CARD OF 'assessorlaw57.QueueFair'. -/
def queueFairUptoCard : Claim7 := { stood := { row := queueFairUptoRow, standIns := [], harness := (true, "22494a34f967fb657e3165861fb2a3470ec36ac5a33aa49a720ca147cac7b149"), looks := false }, kinds := [], alts := [], laidByText := true, laidKinds := [.data, .data, .data], laidTests := true, laidLooks := .later }
def QueueFairUptoCardSaid : Prop := Claim7.holds Tryz.pinned (.plain (OpenSpec.upto queueFairSpec)) queueFairUptoCard

/-- THE SECOND FORM's CARD OF 'assessorlaw57.QueueConserves'. -/
def queueConservesUptoCard : Claim7 := { stood := { row := queueConservesUptoRow, standIns := [], harness := (true, "22494a34f967fb657e3165861fb2a3470ec36ac5a33aa49a720ca147cac7b149"), looks := false }, kinds := [], alts := [], laidByText := true, laidKinds := [.data, .data, .data], laidTests := true, laidLooks := .later }
def QueueConservesUptoCardSaid : Prop := Claim7.holds Tryz.pinned (.plain (OpenSpec.upto queueConservesSpec)) queueConservesUptoCard

/-- THE SECOND FORM's CARD OF 'assessorlaw57.QueueExpires'. -/
def queueExpiresUptoCard : Claim7 := { stood := { row := queueExpiresUptoRow, standIns := [], harness := (true, "22494a34f967fb657e3165861fb2a3470ec36ac5a33aa49a720ca147cac7b149"), looks := false }, kinds := [], alts := [], laidByText := true, laidKinds := [.data, .data, .data], laidTests := true, laidLooks := .later }
def QueueExpiresUptoCardSaid : Prop := Claim7.holds Tryz.pinned (.plain (OpenSpec.upto queueExpiresSpec)) queueExpiresUptoCard

/-- THE SECOND FORM's CARD OF 'assessorlaw57.QueueTicks'. -/
def queueTicksUptoCard : Claim7 := { stood := { row := queueTicksUptoRow, standIns := [], harness := (true, "22494a34f967fb657e3165861fb2a3470ec36ac5a33aa49a720ca147cac7b149"), looks := false }, kinds := [], alts := [], laidByText := true, laidKinds := [.data, .data, .data], laidTests := true, laidLooks := .later }
def QueueTicksUptoCardSaid : Prop := Claim7.holds Tryz.pinned (.plain (OpenSpec.upto queueTicksSpec)) queueTicksUptoCard

/-- THE SECOND FORM's CARD OF 'assessorlaw57.QueueDrains'. -/
def queueDrainsUptoCard : Claim7 := { stood := { row := queueDrainsUptoRow, standIns := [], harness := (true, "22494a34f967fb657e3165861fb2a3470ec36ac5a33aa49a720ca147cac7b149"), looks := false }, kinds := [], alts := [], laidByText := true, laidKinds := [.data, .data, .data], laidTests := true, laidLooks := .later }
def QueueDrainsUptoCardSaid : Prop := Claim7.holds Tryz.pinned (.plain (OpenSpec.upto queueDrainsSpec)) queueDrainsUptoCard
end Rows
end Go.Proofs.YteigabjdeaoaiaaGreatDoor
