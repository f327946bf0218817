/-
  DERIVED. GIVEN WITH THE SEED: THE CARDS: each row of YtphlodmdcmcjnaaGreatDoorRows.lean that lists a variable, with what it lists TIED to the program's text (the seventh form; the later family's looks); each row that meets fmt, with fmt's text TOLD by the authors' own Lean function (tested against real Go, not proved from fmt's source: count such statements apart). THE CARD IS WHAT COUNTS. Prove the row's statement (the work); the ties are given (YtphlodmdcmcjnaaGreatDoorTie.lean); close each card by the builder's one call (the guide's Derived/Test/ToyasCard.lean, 'card_holds'). Laid BY PROGRAM, IN A SANDBOX (cutbox-door.mjs). By AI agents, Wed Nov 11 2026. No macro, syntax, notation, axiom, sorry.
-/
import Derived.Test.YtphlodmdcmcjnaaGreatDoorRows
import GoSem.ClaimSeven
namespace Go.Proofs.YtphlodmdcmcjnaaGreatDoor
namespace Rows

/-- THE TIED CARD OF 'schismalaw48.ScorePrints'. -/
def scorePrintsCard : Claim7 := { stood := { row := scorePrintsRow, standIns := [], harness := (true, "6af0c8f07d18a6d4e24c115c411105cb5259ae54906bf2ec69aa6a287e21b1de"), looks := true }, kinds := [], alts := [], laidByText := true, laidKinds := [.data, .data, .data, .data, .sentinel, .sentinel, .pinned], laidTests := true, laidLooks := .later }
def ScorePrintsCardSaid : Prop := Claim7.holds Tryz.pinned (.plain (OpenSpec.ofChange scorePrintsSpec)) scorePrintsCard

/-- THE TIED CARD OF 'schismalaw48.ScoreTokens'. -/
def scoreTokensCard : Claim7 := { stood := { row := scoreTokensRow, standIns := [], harness := (true, "6af0c8f07d18a6d4e24c115c411105cb5259ae54906bf2ec69aa6a287e21b1de"), looks := true }, kinds := [], alts := [], laidByText := true, laidKinds := [.data, .data, .data, .data, .sentinel, .sentinel, .pinned], laidTests := true, laidLooks := .later }
def ScoreTokensCardSaid : Prop := Claim7.holds Tryz.pinned (.plain (OpenSpec.ofChange scoreTokensSpec)) scoreTokensCard

/-- THE TIED CARD OF 'schismalaw48.ScoreSlices'. -/
def scoreSlicesCard : Claim7 := { stood := { row := scoreSlicesRow, standIns := [], harness := (true, "6af0c8f07d18a6d4e24c115c411105cb5259ae54906bf2ec69aa6a287e21b1de"), looks := true }, kinds := [], alts := [], laidByText := true, laidKinds := [.data, .data, .data, .data, .sentinel, .sentinel, .pinned], laidTests := true, laidLooks := .later }
def ScoreSlicesCardSaid : Prop := Claim7.holds Tryz.pinned (.plain (OpenSpec.ofChange scoreSlicesSpec)) scoreSlicesCard

/-- THE TIED CARD OF 'schismalaw48.ScoreLong'. -/
def scoreLongCard : Claim7 := { stood := { row := scoreLongRow, standIns := [], harness := (true, "6af0c8f07d18a6d4e24c115c411105cb5259ae54906bf2ec69aa6a287e21b1de"), looks := true }, kinds := [], alts := [], laidByText := true, laidKinds := [.data, .data, .data, .data, .sentinel, .sentinel, .pinned], laidTests := true, laidLooks := .later }
def ScoreLongCardSaid : Prop := Claim7.holds Tryz.pinned (.plain (OpenSpec.ofChange scoreLongSpec)) scoreLongCard

/-- THE TIED CARD OF 'schismalaw48.ScoreTimes'. -/
def scoreTimesCard : Claim7 := { stood := { row := scoreTimesRow, standIns := [], harness := (true, "6af0c8f07d18a6d4e24c115c411105cb5259ae54906bf2ec69aa6a287e21b1de"), looks := true }, kinds := [], alts := [], laidByText := true, laidKinds := [.data, .data, .data, .data, .sentinel, .sentinel, .pinned], laidTests := true, laidLooks := .later }
def ScoreTimesCardSaid : Prop := Claim7.holds Tryz.pinned (.plain (OpenSpec.ofChange scoreTimesSpec)) scoreTimesCard

/-- THE TIED CARD OF 'schismalaw48.ScoreSounds'. -/
def scoreSoundsCard : Claim7 := { stood := { row := scoreSoundsRow, standIns := [], harness := (true, "6af0c8f07d18a6d4e24c115c411105cb5259ae54906bf2ec69aa6a287e21b1de"), looks := true }, kinds := [], alts := [], laidByText := true, laidKinds := [.data, .data, .data, .data, .sentinel, .sentinel, .pinned], laidTests := true, laidLooks := .later }
def ScoreSoundsCardSaid : Prop := Claim7.holds Tryz.pinned (.plain (OpenSpec.ofChange scoreSoundsSpec)) scoreSoundsCard

/-- THE TIED CARD OF 'schismalaw48.ScoreCovers'. -/
def scoreCoversCard : Claim7 := { stood := { row := scoreCoversRow, standIns := [], harness := (true, "6af0c8f07d18a6d4e24c115c411105cb5259ae54906bf2ec69aa6a287e21b1de"), looks := true }, kinds := [], alts := [], laidByText := true, laidKinds := [.data, .data, .data, .data, .sentinel, .sentinel, .pinned], laidTests := true, laidLooks := .later }
def ScoreCoversCardSaid : Prop := Claim7.holds Tryz.pinned (.plain (OpenSpec.ofChange scoreCoversSpec)) scoreCoversCard

/-- THE TIED CARD OF 'schismalaw48.ScoreTransposes'. -/
def scoreTransposesCard : Claim7 := { stood := { row := scoreTransposesRow, standIns := [], harness := (true, "6af0c8f07d18a6d4e24c115c411105cb5259ae54906bf2ec69aa6a287e21b1de"), looks := true }, kinds := [], alts := [], laidByText := true, laidKinds := [.data, .data, .data, .data, .sentinel, .sentinel, .pinned], laidTests := true, laidLooks := .later }
def ScoreTransposesCardSaid : Prop := Claim7.holds Tryz.pinned (.plain (OpenSpec.ofChange scoreTransposesSpec)) scoreTransposesCard

/-- THE TIED CARD OF 'schismalaw48.ScoreNotes'. -/
def scoreNotesCard : Claim7 := { stood := { row := scoreNotesRow, standIns := [], harness := (true, "6af0c8f07d18a6d4e24c115c411105cb5259ae54906bf2ec69aa6a287e21b1de"), looks := true }, kinds := [], alts := [], laidByText := true, laidKinds := [.data, .data, .data, .data, .sentinel, .sentinel, .pinned], laidTests := true, laidLooks := .later }
def ScoreNotesCardSaid : Prop := Claim7.holds Tryz.pinned (.plain (OpenSpec.ofChange scoreNotesSpec)) scoreNotesCard

/-- THE TIED CARD OF 'schismalaw48.ScoreChecks'. -/
def scoreChecksCard : Claim7 := { stood := { row := scoreChecksRow, standIns := [], harness := (true, "6af0c8f07d18a6d4e24c115c411105cb5259ae54906bf2ec69aa6a287e21b1de"), looks := true }, kinds := [], alts := [], laidByText := true, laidKinds := [.data, .data, .data, .data, .sentinel, .sentinel, .pinned], laidTests := true, laidLooks := .later }
def ScoreChecksCardSaid : Prop := Claim7.holds Tryz.pinned (.plain (OpenSpec.ofChange scoreChecksSpec)) scoreChecksCard

/-- THE SECOND FORM's CARD OF 'schismalaw48.ScorePrints'. -/
def scorePrintsUptoCard : Claim7 := { stood := { row := scorePrintsUptoRow, standIns := [], harness := (true, "6af0c8f07d18a6d4e24c115c411105cb5259ae54906bf2ec69aa6a287e21b1de"), looks := true }, kinds := [], alts := [], laidByText := true, laidKinds := [.data, .data, .data, .data, .sentinel, .sentinel, .pinned], laidTests := true, laidLooks := .later }
def ScorePrintsUptoCardSaid : Prop := Claim7.holds Tryz.pinned (.plain (OpenSpec.upto scorePrintsSpec)) scorePrintsUptoCard

/-- THE SECOND FORM's CARD OF 'schismalaw48.ScoreTokens'. -/
def scoreTokensUptoCard : Claim7 := { stood := { row := scoreTokensUptoRow, standIns := [], harness := (true, "6af0c8f07d18a6d4e24c115c411105cb5259ae54906bf2ec69aa6a287e21b1de"), looks := true }, kinds := [], alts := [], laidByText := true, laidKinds := [.data, .data, .data, .data, .sentinel, .sentinel, .pinned], laidTests := true, laidLooks := .later }
def ScoreTokensUptoCardSaid : Prop := Claim7.holds Tryz.pinned (.plain (OpenSpec.upto scoreTokensSpec)) scoreTokensUptoCard

/-- THE SECOND FORM's CARD OF 'schismalaw48.ScoreSlices'. -/
def scoreSlicesUptoCard : Claim7 := { stood := { row := scoreSlicesUptoRow, standIns := [], harness := (true, "6af0c8f07d18a6d4e24c115c411105cb5259ae54906bf2ec69aa6a287e21b1de"), looks := true }, kinds := [], alts := [], laidByText := true, laidKinds := [.data, .data, .data, .data, .sentinel, .sentinel, .pinned], laidTests := true, laidLooks := .later }
def ScoreSlicesUptoCardSaid : Prop := Claim7.holds Tryz.pinned (.plain (OpenSpec.upto scoreSlicesSpec)) scoreSlicesUptoCard

/-- THE SECOND FORM's CARD OF 'schismalaw48.ScoreLong'. -/
def scoreLongUptoCard : Claim7 := { stood := { row := scoreLongUptoRow, standIns := [], harness := (true, "6af0c8f07d18a6d4e24c115c411105cb5259ae54906bf2ec69aa6a287e21b1de"), looks := true }, kinds := [], alts := [], laidByText := true, laidKinds := [.data, .data, .data, .data, .sentinel, .sentinel, .pinned], laidTests := true, laidLooks := .later }
def ScoreLongUptoCardSaid : Prop := Claim7.holds Tryz.pinned (.plain (OpenSpec.upto scoreLongSpec)) scoreLongUptoCard

/-- THE SECOND FORM's CARD OF 'schismalaw48.ScoreTimes'. -/
def scoreTimesUptoCard : Claim7 := { stood := { row := scoreTimesUptoRow, standIns := [], harness := (true, "6af0c8f07d18a6d4e24c115c411105cb5259ae54906bf2ec69aa6a287e21b1de"), looks := true }, kinds := [], alts := [], laidByText := true, laidKinds := [.data, .data, .data, .data, .sentinel, .sentinel, .pinned], laidTests := true, laidLooks := .later }
def ScoreTimesUptoCardSaid : Prop := Claim7.holds Tryz.pinned (.plain (OpenSpec.upto scoreTimesSpec)) scoreTimesUptoCard

/-- THE SECOND FORM's CARD OF 'schismalaw48.ScoreSounds'. -/
def scoreSoundsUptoCard : Claim7 := { stood := { row := scoreSoundsUptoRow, standIns := [], harness := (true, "6af0c8f07d18a6d4e24c115c411105cb5259ae54906bf2ec69aa6a287e21b1de"), looks := true }, kinds := [], alts := [], laidByText := true, laidKinds := [.data, .data, .data, .data, .sentinel, .sentinel, .pinned], laidTests := true, laidLooks := .later }
def ScoreSoundsUptoCardSaid : Prop := Claim7.holds Tryz.pinned (.plain (OpenSpec.upto scoreSoundsSpec)) scoreSoundsUptoCard

/-- THE SECOND FORM's CARD OF 'schismalaw48.ScoreCovers'. -/
def scoreCoversUptoCard : Claim7 := { stood := { row := scoreCoversUptoRow, standIns := [], harness := (true, "6af0c8f07d18a6d4e24c115c411105cb5259ae54906bf2ec69aa6a287e21b1de"), looks := true }, kinds := [], alts := [], laidByText := true, laidKinds := [.data, .data, .data, .data, .sentinel, .sentinel, .pinned], laidTests := true, laidLooks := .later }
def ScoreCoversUptoCardSaid : Prop := Claim7.holds Tryz.pinned (.plain (OpenSpec.upto scoreCoversSpec)) scoreCoversUptoCard

/-- THE SECOND FORM's CARD OF 'schismalaw48.ScoreTransposes'. -/
def scoreTransposesUptoCard : Claim7 := { stood := { row := scoreTransposesUptoRow, standIns := [], harness := (true, "6af0c8f07d18a6d4e24c115c411105cb5259ae54906bf2ec69aa6a287e21b1de"), looks := true }, kinds := [], alts := [], laidByText := true, laidKinds := [.data, .data, .data, .data, .sentinel, .sentinel, .pinned], laidTests := true, laidLooks := .later }
def ScoreTransposesUptoCardSaid : Prop := Claim7.holds Tryz.pinned (.plain (OpenSpec.upto scoreTransposesSpec)) scoreTransposesUptoCard

/-- THE SECOND FORM's CARD OF 'schismalaw48.ScoreNotes'. -/
def scoreNotesUptoCard : Claim7 := { stood := { row := scoreNotesUptoRow, standIns := [], harness := (true, "6af0c8f07d18a6d4e24c115c411105cb5259ae54906bf2ec69aa6a287e21b1de"), looks := true }, kinds := [], alts := [], laidByText := true, laidKinds := [.data, .data, .data, .data, .sentinel, .sentinel, .pinned], laidTests := true, laidLooks := .later }
def ScoreNotesUptoCardSaid : Prop := Claim7.holds Tryz.pinned (.plain (OpenSpec.upto scoreNotesSpec)) scoreNotesUptoCard

/-- THE SECOND FORM's CARD OF 'schismalaw48.ScoreChecks'. -/
def scoreChecksUptoCard : Claim7 := { stood := { row := scoreChecksUptoRow, standIns := [], harness := (true, "6af0c8f07d18a6d4e24c115c411105cb5259ae54906bf2ec69aa6a287e21b1de"), looks := true }, kinds := [], alts := [], laidByText := true, laidKinds := [.data, .data, .data, .data, .sentinel, .sentinel, .pinned], laidTests := true, laidLooks := .later }
def ScoreChecksUptoCardSaid : Prop := Claim7.holds Tryz.pinned (.plain (OpenSpec.upto scoreChecksSpec)) scoreChecksUptoCard
end Rows
end Go.Proofs.YtphlodmdcmcjnaaGreatDoor
