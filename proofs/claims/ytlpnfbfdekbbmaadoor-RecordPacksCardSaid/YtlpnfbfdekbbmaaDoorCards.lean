/-
  DERIVED. GIVEN WITH THE SEED: THE CARDS: each row of YtlpnfbfdekbbmaaDoorRows.lean that lists a variable, with what it lists TIED to the program's text (the seventh form; the later family's looks); each row that meets fmt, with fmt's text TOLD by the authors' own Lean function (tested against real Go, not proved from fmt's source: count such statements apart). THE CARD IS WHAT COUNTS. Prove the row's statement (the work); the ties are given (YtlpnfbfdekbbmaaDoorTie.lean); close each card by the builder's one call (the guide's Derived/Test/ToyasCard.lean, 'card_holds'). Laid BY PROGRAM, IN A SANDBOX (cutbox-door.mjs). By AI agents, Wed Nov 11 2026. No macro, syntax, notation, axiom, sorry.
-/
import Derived.Test.YtlpnfbfdekbbmaaDoorRows
import GoSem.ClaimSeven
namespace Go.Proofs.YtlpnfbfdekbbmaaDoor
namespace Rows

/-- THE TIED CARD OF 'assessorlaw54.RecordWalks'. -/
def recordWalksCard : Claim7 := { stood := { row := recordWalksRow, standIns := [], harness := (true, "f0b8fc455fe3d4fab2a070c4aab2005179448341856ddeac579e84907233809e"), looks := true }, kinds := [], alts := [], laidByText := true, laidKinds := [.data, .data, .data], laidTests := true, laidLooks := .later }
def RecordWalksCardSaid : Prop := Claim7.holds Tryd.pinned (.plain (OpenSpec.ofChange recordWalksSpec)) recordWalksCard

/-- THE TIED CARD OF 'assessorlaw54.RecordDamage'. -/
def recordDamageCard : Claim7 := { stood := { row := recordDamageRow, standIns := [], harness := (true, "f0b8fc455fe3d4fab2a070c4aab2005179448341856ddeac579e84907233809e"), looks := true }, kinds := [], alts := [], laidByText := true, laidKinds := [.data, .data, .data], laidTests := true, laidLooks := .later }
def RecordDamageCardSaid : Prop := Claim7.holds Tryd.pinned (.plain (OpenSpec.ofChange recordDamageSpec)) recordDamageCard

/-- THE TIED CARD OF 'assessorlaw54.RecordGenerations'. -/
def recordGenerationsCard : Claim7 := { stood := { row := recordGenerationsRow, standIns := [], harness := (true, "f0b8fc455fe3d4fab2a070c4aab2005179448341856ddeac579e84907233809e"), looks := true }, kinds := [], alts := [], laidByText := true, laidKinds := [.data, .data, .data], laidTests := true, laidLooks := .later }
def RecordGenerationsCardSaid : Prop := Claim7.holds Tryd.pinned (.plain (OpenSpec.ofChange recordGenerationsSpec)) recordGenerationsCard

/-- THE TIED CARD OF 'assessorlaw54.RecordForms'. -/
def recordFormsCard : Claim7 := { stood := { row := recordFormsRow, standIns := [], harness := (true, "f0b8fc455fe3d4fab2a070c4aab2005179448341856ddeac579e84907233809e"), looks := true }, kinds := [], alts := [], laidByText := true, laidKinds := [.data, .data, .data], laidTests := true, laidLooks := .later }
def RecordFormsCardSaid : Prop := Claim7.holds Tryd.pinned (.plain (OpenSpec.ofChange recordFormsSpec)) recordFormsCard

/-- THE TIED CARD OF 'assessorlaw54.RecordReturns'. -/
def recordReturnsCard : Claim7 := { stood := { row := recordReturnsRow, standIns := [], harness := (true, "f0b8fc455fe3d4fab2a070c4aab2005179448341856ddeac579e84907233809e"), looks := true }, kinds := [], alts := [], laidByText := true, laidKinds := [.data, .data, .data], laidTests := true, laidLooks := .later }
def RecordReturnsCardSaid : Prop := Claim7.holds Tryd.pinned (.plain (OpenSpec.ofChange recordReturnsSpec)) recordReturnsCard

/-- THE TIED CARD OF 'assessorlaw54.RecordTorn'. -/
def recordTornCard : Claim7 := { stood := { row := recordTornRow, standIns := [], harness := (true, "f0b8fc455fe3d4fab2a070c4aab2005179448341856ddeac579e84907233809e"), looks := true }, kinds := [], alts := [], laidByText := true, laidKinds := [.data, .data, .data], laidTests := true, laidLooks := .later }
def RecordTornCardSaid : Prop := Claim7.holds Tryd.pinned (.plain (OpenSpec.ofChange recordTornSpec)) recordTornCard

/-- THE TIED CARD OF 'assessorlaw54.RecordPacks'. -/
def recordPacksCard : Claim7 := { stood := { row := recordPacksRow, standIns := [], harness := (true, "f0b8fc455fe3d4fab2a070c4aab2005179448341856ddeac579e84907233809e"), looks := true }, kinds := [], alts := [], laidByText := true, laidKinds := [.data, .data, .data, .sentinel, .sentinel], laidTests := true, laidLooks := .later }
def RecordPacksCardSaid : Prop := Claim7.holds Tryd.pinned (.plain (OpenSpec.ofChange recordPacksSpec)) recordPacksCard

/-- THE SECOND FORM's CARD OF 'assessorlaw54.RecordWalks'. -/
def recordWalksUptoCard : Claim7 := { stood := { row := recordWalksUptoRow, standIns := [], harness := (true, "f0b8fc455fe3d4fab2a070c4aab2005179448341856ddeac579e84907233809e"), looks := true }, kinds := [], alts := [], laidByText := true, laidKinds := [.data, .data, .data], laidTests := true, laidLooks := .later }
def RecordWalksUptoCardSaid : Prop := Claim7.holds Tryd.pinned (.plain (OpenSpec.upto recordWalksSpec)) recordWalksUptoCard

/-- THE SECOND FORM's CARD OF 'assessorlaw54.RecordDamage'. -/
def recordDamageUptoCard : Claim7 := { stood := { row := recordDamageUptoRow, standIns := [], harness := (true, "f0b8fc455fe3d4fab2a070c4aab2005179448341856ddeac579e84907233809e"), looks := true }, kinds := [], alts := [], laidByText := true, laidKinds := [.data, .data, .data], laidTests := true, laidLooks := .later }
def RecordDamageUptoCardSaid : Prop := Claim7.holds Tryd.pinned (.plain (OpenSpec.upto recordDamageSpec)) recordDamageUptoCard

/-- THE SECOND FORM's CARD OF 'assessorlaw54.RecordGenerations'. -/
def recordGenerationsUptoCard : Claim7 := { stood := { row := recordGenerationsUptoRow, standIns := [], harness := (true, "f0b8fc455fe3d4fab2a070c4aab2005179448341856ddeac579e84907233809e"), looks := true }, kinds := [], alts := [], laidByText := true, laidKinds := [.data, .data, .data], laidTests := true, laidLooks := .later }
def RecordGenerationsUptoCardSaid : Prop := Claim7.holds Tryd.pinned (.plain (OpenSpec.upto recordGenerationsSpec)) recordGenerationsUptoCard

/-- THE SECOND FORM's CARD OF 'assessorlaw54.RecordForms'. -/
def recordFormsUptoCard : Claim7 := { stood := { row := recordFormsUptoRow, standIns := [], harness := (true, "f0b8fc455fe3d4fab2a070c4aab2005179448341856ddeac579e84907233809e"), looks := true }, kinds := [], alts := [], laidByText := true, laidKinds := [.data, .data, .data], laidTests := true, laidLooks := .later }
def RecordFormsUptoCardSaid : Prop := Claim7.holds Tryd.pinned (.plain (OpenSpec.upto recordFormsSpec)) recordFormsUptoCard

/-- THE SECOND FORM's CARD OF 'assessorlaw54.RecordReturns'. -/
def recordReturnsUptoCard : Claim7 := { stood := { row := recordReturnsUptoRow, standIns := [], harness := (true, "f0b8fc455fe3d4fab2a070c4aab2005179448341856ddeac579e84907233809e"), looks := true }, kinds := [], alts := [], laidByText := true, laidKinds := [.data, .data, .data], laidTests := true, laidLooks := .later }
def RecordReturnsUptoCardSaid : Prop := Claim7.holds Tryd.pinned (.plain (OpenSpec.upto recordReturnsSpec)) recordReturnsUptoCard

/-- THE SECOND FORM's CARD OF 'assessorlaw54.RecordTorn'. -/
def recordTornUptoCard : Claim7 := { stood := { row := recordTornUptoRow, standIns := [], harness := (true, "f0b8fc455fe3d4fab2a070c4aab2005179448341856ddeac579e84907233809e"), looks := true }, kinds := [], alts := [], laidByText := true, laidKinds := [.data, .data, .data], laidTests := true, laidLooks := .later }
def RecordTornUptoCardSaid : Prop := Claim7.holds Tryd.pinned (.plain (OpenSpec.upto recordTornSpec)) recordTornUptoCard

/-- THE SECOND FORM's CARD OF 'assessorlaw54.RecordPacks'. -/
def recordPacksUptoCard : Claim7 := { stood := { row := recordPacksUptoRow, standIns := [], harness := (true, "f0b8fc455fe3d4fab2a070c4aab2005179448341856ddeac579e84907233809e"), looks := true }, kinds := [], alts := [], laidByText := true, laidKinds := [.data, .data, .data, .sentinel, .sentinel], laidTests := true, laidLooks := .later }
def RecordPacksUptoCardSaid : Prop := Claim7.holds Tryd.pinned (.plain (OpenSpec.upto recordPacksSpec)) recordPacksUptoCard
end Rows
end Go.Proofs.YtlpnfbfdekbbmaaDoor
