/-
  DERIVED. GIVEN WITH THE SEED: THE CARDS: each row of YtpognhmelecaoaaGreatDoorRows.lean that lists a variable, with what it lists TIED to the program's text (the seventh form; the later family's looks); each row that meets fmt, with fmt's text TOLD by the authors' own Lean function (tested against real Go, not proved from fmt's source: count such statements apart). THE CARD IS WHAT COUNTS. Prove the row's statement (the work); the ties are given (YtpognhmelecaoaaGreatDoorTie.lean); close each card by the builder's one call (the guide's Derived/Test/ToyasCard.lean, 'card_holds'). Laid BY PROGRAM, IN A SANDBOX (cutbox-door.mjs). By AI agents, Wed Nov 11 2026. No macro, syntax, notation, axiom, sorry.
-/
import Derived.Test.YtpognhmelecaoaaGreatDoorRows
import GoSem.ClaimSeven
namespace Go.Proofs.YtpognhmelecaoaaGreatDoor
namespace Rows

/-- THE TIED CARD OF 'assessorlaw48.RubricOpposite'. -/
def rubricOppositeCard : Claim7 := { stood := { row := rubricOppositeRow, standIns := [], harness := (true, "b8edf26b1ee728e1d1628a4cca3b990437d0e5c7cad3c0ff1c58e6b739a78a50"), looks := false }, kinds := [], alts := [], laidByText := true, laidKinds := [.data, .data, .data], laidTests := true, laidLooks := .later }
def RubricOppositeCardSaid : Prop := Claim7.holds Tryz.pinned (.plain (OpenSpec.ofChange rubricOppositeSpec)) rubricOppositeCard

/-- THE TIED CARD OF 'assessorlaw48.RubricNarrower'. -/
def rubricNarrowerCard : Claim7 := { stood := { row := rubricNarrowerRow, standIns := [], harness := (true, "b8edf26b1ee728e1d1628a4cca3b990437d0e5c7cad3c0ff1c58e6b739a78a50"), looks := false }, kinds := [], alts := [], laidByText := true, laidKinds := [.data, .data, .data], laidTests := true, laidLooks := .later }
def RubricNarrowerCardSaid : Prop := Claim7.holds Tryz.pinned (.plain (OpenSpec.ofChange rubricNarrowerSpec)) rubricNarrowerCard

/-- THE TIED CARD OF 'assessorlaw48.RubricFacts'. -/
def rubricFactsCard : Claim7 := { stood := { row := rubricFactsRow, standIns := [], harness := (true, "b8edf26b1ee728e1d1628a4cca3b990437d0e5c7cad3c0ff1c58e6b739a78a50"), looks := false }, kinds := [], alts := [], laidByText := true, laidKinds := [.data, .data, .data], laidTests := true, laidLooks := .later }
def RubricFactsCardSaid : Prop := Claim7.holds Tryz.pinned (.plain (OpenSpec.ofChange rubricFactsSpec)) rubricFactsCard

/-- THE TIED CARD OF 'assessorlaw48.RubricBounds'. -/
def rubricBoundsCard : Claim7 := { stood := { row := rubricBoundsRow, standIns := [], harness := (true, "b8edf26b1ee728e1d1628a4cca3b990437d0e5c7cad3c0ff1c58e6b739a78a50"), looks := false }, kinds := [], alts := [], laidByText := true, laidKinds := [.data, .data, .data], laidTests := true, laidLooks := .later }
def RubricBoundsCardSaid : Prop := Claim7.holds Tryz.pinned (.plain (OpenSpec.ofChange rubricBoundsSpec)) rubricBoundsCard

/-- THE TIED CARD OF 'assessorlaw48.RubricOccurring'. -/
def rubricOccurringCard : Claim7 := { stood := { row := rubricOccurringRow, standIns := [], harness := (true, "b8edf26b1ee728e1d1628a4cca3b990437d0e5c7cad3c0ff1c58e6b739a78a50"), looks := false }, kinds := [], alts := [], laidByText := true, laidKinds := [.data, .data, .data], laidTests := true, laidLooks := .later }
def RubricOccurringCardSaid : Prop := Claim7.holds Tryz.pinned (.plain (OpenSpec.ofChange rubricOccurringSpec)) rubricOccurringCard

/-- THE TIED CARD OF 'assessorlaw48.RubricTypes'. -/
def rubricTypesCard : Claim7 := { stood := { row := rubricTypesRow, standIns := [], harness := (true, "b8edf26b1ee728e1d1628a4cca3b990437d0e5c7cad3c0ff1c58e6b739a78a50"), looks := false }, kinds := [], alts := [], laidByText := true, laidKinds := [.data, .data, .data], laidTests := true, laidLooks := .later }
def RubricTypesCardSaid : Prop := Claim7.holds Tryz.pinned (.plain (OpenSpec.ofChange rubricTypesSpec)) rubricTypesCard

/-- THE TIED CARD OF 'assessorlaw48.RubricOrder'. -/
def rubricOrderCard : Claim7 := { stood := { row := rubricOrderRow, standIns := [], harness := (true, "b8edf26b1ee728e1d1628a4cca3b990437d0e5c7cad3c0ff1c58e6b739a78a50"), looks := false }, kinds := [], alts := [], laidByText := true, laidKinds := [.data, .data, .data], laidTests := true, laidLooks := .later }
def RubricOrderCardSaid : Prop := Claim7.holds Tryz.pinned (.plain (OpenSpec.ofChange rubricOrderSpec)) rubricOrderCard

/-- THE SECOND FORM's CARD OF 'assessorlaw48.RubricOpposite'. -/
def rubricOppositeUptoCard : Claim7 := { stood := { row := rubricOppositeUptoRow, standIns := [], harness := (true, "b8edf26b1ee728e1d1628a4cca3b990437d0e5c7cad3c0ff1c58e6b739a78a50"), looks := false }, kinds := [], alts := [], laidByText := true, laidKinds := [.data, .data, .data], laidTests := true, laidLooks := .later }
def RubricOppositeUptoCardSaid : Prop := Claim7.holds Tryz.pinned (.plain (OpenSpec.upto rubricOppositeSpec)) rubricOppositeUptoCard

/-- THE SECOND FORM's CARD OF 'assessorlaw48.RubricNarrower'. -/
def rubricNarrowerUptoCard : Claim7 := { stood := { row := rubricNarrowerUptoRow, standIns := [], harness := (true, "b8edf26b1ee728e1d1628a4cca3b990437d0e5c7cad3c0ff1c58e6b739a78a50"), looks := false }, kinds := [], alts := [], laidByText := true, laidKinds := [.data, .data, .data], laidTests := true, laidLooks := .later }
def RubricNarrowerUptoCardSaid : Prop := Claim7.holds Tryz.pinned (.plain (OpenSpec.upto rubricNarrowerSpec)) rubricNarrowerUptoCard

/-- THE SECOND FORM's CARD OF 'assessorlaw48.RubricFacts'. -/
def rubricFactsUptoCard : Claim7 := { stood := { row := rubricFactsUptoRow, standIns := [], harness := (true, "b8edf26b1ee728e1d1628a4cca3b990437d0e5c7cad3c0ff1c58e6b739a78a50"), looks := false }, kinds := [], alts := [], laidByText := true, laidKinds := [.data, .data, .data], laidTests := true, laidLooks := .later }
def RubricFactsUptoCardSaid : Prop := Claim7.holds Tryz.pinned (.plain (OpenSpec.upto rubricFactsSpec)) rubricFactsUptoCard

/-- THE SECOND FORM's CARD OF 'assessorlaw48.RubricBounds'. -/
def rubricBoundsUptoCard : Claim7 := { stood := { row := rubricBoundsUptoRow, standIns := [], harness := (true, "b8edf26b1ee728e1d1628a4cca3b990437d0e5c7cad3c0ff1c58e6b739a78a50"), looks := false }, kinds := [], alts := [], laidByText := true, laidKinds := [.data, .data, .data], laidTests := true, laidLooks := .later }
def RubricBoundsUptoCardSaid : Prop := Claim7.holds Tryz.pinned (.plain (OpenSpec.upto rubricBoundsSpec)) rubricBoundsUptoCard

/-- THE SECOND FORM's CARD OF 'assessorlaw48.RubricOccurring'. -/
def rubricOccurringUptoCard : Claim7 := { stood := { row := rubricOccurringUptoRow, standIns := [], harness := (true, "b8edf26b1ee728e1d1628a4cca3b990437d0e5c7cad3c0ff1c58e6b739a78a50"), looks := false }, kinds := [], alts := [], laidByText := true, laidKinds := [.data, .data, .data], laidTests := true, laidLooks := .later }
def RubricOccurringUptoCardSaid : Prop := Claim7.holds Tryz.pinned (.plain (OpenSpec.upto rubricOccurringSpec)) rubricOccurringUptoCard

/-- THE SECOND FORM's CARD OF 'assessorlaw48.RubricTypes'. -/
def rubricTypesUptoCard : Claim7 := { stood := { row := rubricTypesUptoRow, standIns := [], harness := (true, "b8edf26b1ee728e1d1628a4cca3b990437d0e5c7cad3c0ff1c58e6b739a78a50"), looks := false }, kinds := [], alts := [], laidByText := true, laidKinds := [.data, .data, .data], laidTests := true, laidLooks := .later }
def RubricTypesUptoCardSaid : Prop := Claim7.holds Tryz.pinned (.plain (OpenSpec.upto rubricTypesSpec)) rubricTypesUptoCard

/-- THE SECOND FORM's CARD OF 'assessorlaw48.RubricOrder'. -/
def rubricOrderUptoCard : Claim7 := { stood := { row := rubricOrderUptoRow, standIns := [], harness := (true, "b8edf26b1ee728e1d1628a4cca3b990437d0e5c7cad3c0ff1c58e6b739a78a50"), looks := false }, kinds := [], alts := [], laidByText := true, laidKinds := [.data, .data, .data], laidTests := true, laidLooks := .later }
def RubricOrderUptoCardSaid : Prop := Claim7.holds Tryz.pinned (.plain (OpenSpec.upto rubricOrderSpec)) rubricOrderUptoCard
end Rows
end Go.Proofs.YtpognhmelecaoaaGreatDoor
