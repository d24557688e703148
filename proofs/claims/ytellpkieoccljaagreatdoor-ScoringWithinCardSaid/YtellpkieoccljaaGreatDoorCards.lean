/-
  DERIVED. GIVEN WITH THE SEED: THE CARDS: each row of YtellpkieoccljaaGreatDoorRows.lean that lists a variable, with what it lists TIED to the program's text (the seventh form; the later family's looks); each row that meets fmt, with fmt's text TOLD by the authors' own Lean function (tested against real Go, not proved from fmt's source: count such statements apart). THE CARD IS WHAT COUNTS. Prove the row's statement (the work); the ties are given (YtellpkieoccljaaGreatDoorTie.lean); close each card by the builder's one call (the guide's Derived/Test/ToyasCard.lean, 'card_holds'). Laid BY PROGRAM, IN A SANDBOX (cutbox-door.mjs). By AI agents, Wed Nov 11 2026. No macro, syntax, notation, axiom, sorry.
-/
import Derived.Test.YtellpkieoccljaaGreatDoorRows
import GoSem.ClaimSeven
namespace Go.Proofs.YtellpkieoccljaaGreatDoor
namespace Rows

/-- THE TIED CARD OF 'assessorlaw49.ScoringEvaluates'. -/
def scoringEvaluatesCard : Claim7 := { stood := { row := scoringEvaluatesRow, standIns := [], harness := (true, "2e5233be03383ea9eade2d62f505cb2dd011c3eef1067e513501f73da3708047"), looks := true }, kinds := [], alts := [], laidByText := true, laidKinds := [.data, .data, .data], laidTests := true, laidLooks := .later }
def ScoringEvaluatesCardSaid : Prop := Claim7.holds Tryz.pinned (.plain (OpenSpec.ofChange scoringEvaluatesSpec)) scoringEvaluatesCard

/-- THE TIED CARD OF 'assessorlaw49.ScoringReasonsForm'. -/
def scoringReasonsFormCard : Claim7 := { stood := { row := scoringReasonsFormRow, standIns := [], harness := (true, "2e5233be03383ea9eade2d62f505cb2dd011c3eef1067e513501f73da3708047"), looks := true }, kinds := [], alts := [], laidByText := true, laidKinds := [.data, .data, .data], laidTests := true, laidLooks := .later }
def ScoringReasonsFormCardSaid : Prop := Claim7.holds Tryz.pinned (.plain (OpenSpec.ofChange scoringReasonsFormSpec)) scoringReasonsFormCard

/-- THE TIED CARD OF 'assessorlaw49.ScoringDecides'. -/
def scoringDecidesCard : Claim7 := { stood := { row := scoringDecidesRow, standIns := [], harness := (true, "2e5233be03383ea9eade2d62f505cb2dd011c3eef1067e513501f73da3708047"), looks := true }, kinds := [], alts := [], laidByText := true, laidKinds := [.data, .data, .data], laidTests := true, laidLooks := .later }
def ScoringDecidesCardSaid : Prop := Claim7.holds Tryz.pinned (.plain (OpenSpec.ofChange scoringDecidesSpec)) scoringDecidesCard

/-- THE TIED CARD OF 'assessorlaw49.ScoringWithin'. -/
def scoringWithinCard : Claim7 := { stood := { row := scoringWithinRow, standIns := [], harness := (true, "2e5233be03383ea9eade2d62f505cb2dd011c3eef1067e513501f73da3708047"), looks := true }, kinds := [], alts := [], laidByText := true, laidKinds := [.data, .data, .data], laidTests := true, laidLooks := .later }
def ScoringWithinCardSaid : Prop := Claim7.holds Tryz.pinned (.plain (OpenSpec.ofChange scoringWithinSpec)) scoringWithinCard

/-- THE TIED CARD OF 'assessorlaw49.ScoringScores'. -/
def scoringScoresCard : Claim7 := { stood := { row := scoringScoresRow, standIns := [], harness := (true, "2e5233be03383ea9eade2d62f505cb2dd011c3eef1067e513501f73da3708047"), looks := true }, kinds := [], alts := [], laidByText := true, laidKinds := [.data, .data, .data], laidTests := true, laidLooks := .later }
def ScoringScoresCardSaid : Prop := Claim7.holds Tryz.pinned (.plain (OpenSpec.ofChange scoringScoresSpec)) scoringScoresCard

/-- THE TIED CARD OF 'assessorlaw49.ScoringLines'. -/
def scoringLinesCard : Claim7 := { stood := { row := scoringLinesRow, standIns := [], harness := (true, "2e5233be03383ea9eade2d62f505cb2dd011c3eef1067e513501f73da3708047"), looks := true }, kinds := [], alts := [], laidByText := true, laidKinds := [.data, .data, .data], laidTests := true, laidLooks := .later }
def ScoringLinesCardSaid : Prop := Claim7.holds Tryz.pinned (.plain (OpenSpec.ofChange scoringLinesSpec)) scoringLinesCard

/-- THE TIED CARD OF 'assessorlaw49.ScoringTrends'. -/
def scoringTrendsCard : Claim7 := { stood := { row := scoringTrendsRow, standIns := [], harness := (true, "2e5233be03383ea9eade2d62f505cb2dd011c3eef1067e513501f73da3708047"), looks := true }, kinds := [], alts := [], laidByText := true, laidKinds := [.data, .data, .data], laidTests := true, laidLooks := .later }
def ScoringTrendsCardSaid : Prop := Claim7.holds Tryz.pinned (.plain (OpenSpec.ofChange scoringTrendsSpec)) scoringTrendsCard

/-- THE SECOND FORM's CARD OF 'assessorlaw49.ScoringEvaluates'. -/
def scoringEvaluatesUptoCard : Claim7 := { stood := { row := scoringEvaluatesUptoRow, standIns := [], harness := (true, "2e5233be03383ea9eade2d62f505cb2dd011c3eef1067e513501f73da3708047"), looks := true }, kinds := [], alts := [], laidByText := true, laidKinds := [.data, .data, .data], laidTests := true, laidLooks := .later }
def ScoringEvaluatesUptoCardSaid : Prop := Claim7.holds Tryz.pinned (.plain (OpenSpec.upto scoringEvaluatesSpec)) scoringEvaluatesUptoCard

/-- THE SECOND FORM's CARD OF 'assessorlaw49.ScoringReasonsForm'. -/
def scoringReasonsFormUptoCard : Claim7 := { stood := { row := scoringReasonsFormUptoRow, standIns := [], harness := (true, "2e5233be03383ea9eade2d62f505cb2dd011c3eef1067e513501f73da3708047"), looks := true }, kinds := [], alts := [], laidByText := true, laidKinds := [.data, .data, .data], laidTests := true, laidLooks := .later }
def ScoringReasonsFormUptoCardSaid : Prop := Claim7.holds Tryz.pinned (.plain (OpenSpec.upto scoringReasonsFormSpec)) scoringReasonsFormUptoCard

/-- THE SECOND FORM's CARD OF 'assessorlaw49.ScoringDecides'. -/
def scoringDecidesUptoCard : Claim7 := { stood := { row := scoringDecidesUptoRow, standIns := [], harness := (true, "2e5233be03383ea9eade2d62f505cb2dd011c3eef1067e513501f73da3708047"), looks := true }, kinds := [], alts := [], laidByText := true, laidKinds := [.data, .data, .data], laidTests := true, laidLooks := .later }
def ScoringDecidesUptoCardSaid : Prop := Claim7.holds Tryz.pinned (.plain (OpenSpec.upto scoringDecidesSpec)) scoringDecidesUptoCard

/-- THE SECOND FORM's CARD OF 'assessorlaw49.ScoringWithin'. -/
def scoringWithinUptoCard : Claim7 := { stood := { row := scoringWithinUptoRow, standIns := [], harness := (true, "2e5233be03383ea9eade2d62f505cb2dd011c3eef1067e513501f73da3708047"), looks := true }, kinds := [], alts := [], laidByText := true, laidKinds := [.data, .data, .data], laidTests := true, laidLooks := .later }
def ScoringWithinUptoCardSaid : Prop := Claim7.holds Tryz.pinned (.plain (OpenSpec.upto scoringWithinSpec)) scoringWithinUptoCard

/-- THE SECOND FORM's CARD OF 'assessorlaw49.ScoringScores'. -/
def scoringScoresUptoCard : Claim7 := { stood := { row := scoringScoresUptoRow, standIns := [], harness := (true, "2e5233be03383ea9eade2d62f505cb2dd011c3eef1067e513501f73da3708047"), looks := true }, kinds := [], alts := [], laidByText := true, laidKinds := [.data, .data, .data], laidTests := true, laidLooks := .later }
def ScoringScoresUptoCardSaid : Prop := Claim7.holds Tryz.pinned (.plain (OpenSpec.upto scoringScoresSpec)) scoringScoresUptoCard

/-- THE SECOND FORM's CARD OF 'assessorlaw49.ScoringLines'. -/
def scoringLinesUptoCard : Claim7 := { stood := { row := scoringLinesUptoRow, standIns := [], harness := (true, "2e5233be03383ea9eade2d62f505cb2dd011c3eef1067e513501f73da3708047"), looks := true }, kinds := [], alts := [], laidByText := true, laidKinds := [.data, .data, .data], laidTests := true, laidLooks := .later }
def ScoringLinesUptoCardSaid : Prop := Claim7.holds Tryz.pinned (.plain (OpenSpec.upto scoringLinesSpec)) scoringLinesUptoCard

/-- THE SECOND FORM's CARD OF 'assessorlaw49.ScoringTrends'. -/
def scoringTrendsUptoCard : Claim7 := { stood := { row := scoringTrendsUptoRow, standIns := [], harness := (true, "2e5233be03383ea9eade2d62f505cb2dd011c3eef1067e513501f73da3708047"), looks := true }, kinds := [], alts := [], laidByText := true, laidKinds := [.data, .data, .data], laidTests := true, laidLooks := .later }
def ScoringTrendsUptoCardSaid : Prop := Claim7.holds Tryz.pinned (.plain (OpenSpec.upto scoringTrendsSpec)) scoringTrendsUptoCard
end Rows
end Go.Proofs.YtellpkieoccljaaGreatDoor
