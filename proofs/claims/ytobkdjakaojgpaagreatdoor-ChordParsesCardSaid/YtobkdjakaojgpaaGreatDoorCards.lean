/-
  DERIVED. GIVEN WITH THE SEED: THE CARDS: each row of YtobkdjakaojgpaaGreatDoorRows.lean that lists a variable, with what it lists TIED to the program's text (the seventh form; the later family's looks); each row that meets fmt, with fmt's text TOLD by the authors' own Lean function (tested against real Go, not proved from fmt's source: count such statements apart). THE CARD IS WHAT COUNTS. Prove the row's statement (the work); the ties are given (YtobkdjakaojgpaaGreatDoorTie.lean); close each card by the builder's one call (the guide's Derived/Test/ToyasCard.lean, 'card_holds'). Laid BY PROGRAM, IN A SANDBOX (cutbox-door.mjs). By AI agents, Wed Nov 11 2026. No macro, syntax, notation, axiom, sorry.
-/
import Derived.Test.YtobkdjakaojgpaaGreatDoorRows
import GoSem.ClaimSeven
namespace Go.Proofs.YtobkdjakaojgpaaGreatDoor
namespace Rows

/-- THE TIED CARD OF 'schismalaw39.ChordMakes'. -/
def chordMakesCard : Claim7 := { stood := { row := chordMakesRow, standIns := [], harness := (true, "d8ee1f55ed73e9c291d0af4e1ac5251c5038cdc456aa265089674ceda632c001"), looks := true }, kinds := [], alts := [], laidByText := true, laidKinds := [.data, .data, .data, .data, .sentinel, .sentinel, .pinned], laidTests := true, laidLooks := .later }
def ChordMakesCardSaid : Prop := Claim7.holds Tryz.pinned (.plain (OpenSpec.ofChange chordMakesSpec)) chordMakesCard

/-- THE TIED CARD OF 'schismalaw39.ChordDyads'. -/
def chordDyadsCard : Claim7 := { stood := { row := chordDyadsRow, standIns := [], harness := (true, "d8ee1f55ed73e9c291d0af4e1ac5251c5038cdc456aa265089674ceda632c001"), looks := true }, kinds := [], alts := [], laidByText := true, laidKinds := [.data, .data, .data, .data, .sentinel, .sentinel, .pinned], laidTests := true, laidLooks := .later }
def ChordDyadsCardSaid : Prop := Claim7.holds Tryz.pinned (.plain (OpenSpec.ofChange chordDyadsSpec)) chordDyadsCard

/-- THE TIED CARD OF 'schismalaw39.ChordInverts'. -/
def chordInvertsCard : Claim7 := { stood := { row := chordInvertsRow, standIns := [], harness := (true, "d8ee1f55ed73e9c291d0af4e1ac5251c5038cdc456aa265089674ceda632c001"), looks := true }, kinds := [], alts := [], laidByText := true, laidKinds := [.data, .data, .data, .data, .sentinel, .sentinel, .pinned], laidTests := true, laidLooks := .later }
def ChordInvertsCardSaid : Prop := Claim7.holds Tryz.pinned (.plain (OpenSpec.ofChange chordInvertsSpec)) chordInvertsCard

/-- THE TIED CARD OF 'schismalaw39.ChordTurns'. -/
def chordTurnsCard : Claim7 := { stood := { row := chordTurnsRow, standIns := [], harness := (true, "d8ee1f55ed73e9c291d0af4e1ac5251c5038cdc456aa265089674ceda632c001"), looks := true }, kinds := [], alts := [], laidByText := true, laidKinds := [.data, .data, .data, .data, .sentinel, .sentinel, .pinned], laidTests := true, laidLooks := .later }
def ChordTurnsCardSaid : Prop := Claim7.holds Tryz.pinned (.plain (OpenSpec.ofChange chordTurnsSpec)) chordTurnsCard

/-- THE TIED CARD OF 'schismalaw39.ChordParses'. -/
def chordParsesCard : Claim7 := { stood := { row := chordParsesRow, standIns := [], harness := (true, "d8ee1f55ed73e9c291d0af4e1ac5251c5038cdc456aa265089674ceda632c001"), looks := true }, kinds := [], alts := [], laidByText := true, laidKinds := [.data, .data, .data, .data, .sentinel, .sentinel, .pinned], laidTests := true, laidLooks := .later }
def ChordParsesCardSaid : Prop := Claim7.holds Tryz.pinned (.plain (OpenSpec.ofChange chordParsesSpec)) chordParsesCard

/-- THE TIED CARD OF 'schismalaw39.ChordAlike'. -/
def chordAlikeCard : Claim7 := { stood := { row := chordAlikeRow, standIns := [], harness := (true, "d8ee1f55ed73e9c291d0af4e1ac5251c5038cdc456aa265089674ceda632c001"), looks := true }, kinds := [], alts := [], laidByText := true, laidKinds := [.data, .data, .data, .data, .sentinel, .sentinel, .pinned], laidTests := true, laidLooks := .later }
def ChordAlikeCardSaid : Prop := Claim7.holds Tryz.pinned (.plain (OpenSpec.ofChange chordAlikeSpec)) chordAlikeCard

/-- THE TIED CARD OF 'schismalaw39.ChordNumbers'. -/
def chordNumbersCard : Claim7 := { stood := { row := chordNumbersRow, standIns := [], harness := (true, "d8ee1f55ed73e9c291d0af4e1ac5251c5038cdc456aa265089674ceda632c001"), looks := true }, kinds := [], alts := [], laidByText := true, laidKinds := [.data, .data, .data, .data, .sentinel, .sentinel, .pinned], laidTests := true, laidLooks := .later }
def ChordNumbersCardSaid : Prop := Claim7.holds Tryz.pinned (.plain (OpenSpec.ofChange chordNumbersSpec)) chordNumbersCard

/-- THE TIED CARD OF 'schismalaw39.ChordChecks'. -/
def chordChecksCard : Claim7 := { stood := { row := chordChecksRow, standIns := [], harness := (true, "d8ee1f55ed73e9c291d0af4e1ac5251c5038cdc456aa265089674ceda632c001"), looks := true }, kinds := [], alts := [], laidByText := true, laidKinds := [.data, .data, .data, .data, .sentinel, .sentinel, .pinned], laidTests := true, laidLooks := .later }
def ChordChecksCardSaid : Prop := Claim7.holds Tryz.pinned (.plain (OpenSpec.ofChange chordChecksSpec)) chordChecksCard

/-- THE SECOND FORM's CARD OF 'schismalaw39.ChordMakes'. -/
def chordMakesUptoCard : Claim7 := { stood := { row := chordMakesUptoRow, standIns := [], harness := (true, "d8ee1f55ed73e9c291d0af4e1ac5251c5038cdc456aa265089674ceda632c001"), looks := true }, kinds := [], alts := [], laidByText := true, laidKinds := [.data, .data, .data, .data, .sentinel, .sentinel, .pinned], laidTests := true, laidLooks := .later }
def ChordMakesUptoCardSaid : Prop := Claim7.holds Tryz.pinned (.plain (OpenSpec.upto chordMakesSpec)) chordMakesUptoCard

/-- THE SECOND FORM's CARD OF 'schismalaw39.ChordDyads'. -/
def chordDyadsUptoCard : Claim7 := { stood := { row := chordDyadsUptoRow, standIns := [], harness := (true, "d8ee1f55ed73e9c291d0af4e1ac5251c5038cdc456aa265089674ceda632c001"), looks := true }, kinds := [], alts := [], laidByText := true, laidKinds := [.data, .data, .data, .data, .sentinel, .sentinel, .pinned], laidTests := true, laidLooks := .later }
def ChordDyadsUptoCardSaid : Prop := Claim7.holds Tryz.pinned (.plain (OpenSpec.upto chordDyadsSpec)) chordDyadsUptoCard

/-- THE SECOND FORM's CARD OF 'schismalaw39.ChordInverts'. -/
def chordInvertsUptoCard : Claim7 := { stood := { row := chordInvertsUptoRow, standIns := [], harness := (true, "d8ee1f55ed73e9c291d0af4e1ac5251c5038cdc456aa265089674ceda632c001"), looks := true }, kinds := [], alts := [], laidByText := true, laidKinds := [.data, .data, .data, .data, .sentinel, .sentinel, .pinned], laidTests := true, laidLooks := .later }
def ChordInvertsUptoCardSaid : Prop := Claim7.holds Tryz.pinned (.plain (OpenSpec.upto chordInvertsSpec)) chordInvertsUptoCard

/-- THE SECOND FORM's CARD OF 'schismalaw39.ChordTurns'. -/
def chordTurnsUptoCard : Claim7 := { stood := { row := chordTurnsUptoRow, standIns := [], harness := (true, "d8ee1f55ed73e9c291d0af4e1ac5251c5038cdc456aa265089674ceda632c001"), looks := true }, kinds := [], alts := [], laidByText := true, laidKinds := [.data, .data, .data, .data, .sentinel, .sentinel, .pinned], laidTests := true, laidLooks := .later }
def ChordTurnsUptoCardSaid : Prop := Claim7.holds Tryz.pinned (.plain (OpenSpec.upto chordTurnsSpec)) chordTurnsUptoCard

/-- THE SECOND FORM's CARD OF 'schismalaw39.ChordParses'. -/
def chordParsesUptoCard : Claim7 := { stood := { row := chordParsesUptoRow, standIns := [], harness := (true, "d8ee1f55ed73e9c291d0af4e1ac5251c5038cdc456aa265089674ceda632c001"), looks := true }, kinds := [], alts := [], laidByText := true, laidKinds := [.data, .data, .data, .data, .sentinel, .sentinel, .pinned], laidTests := true, laidLooks := .later }
def ChordParsesUptoCardSaid : Prop := Claim7.holds Tryz.pinned (.plain (OpenSpec.upto chordParsesSpec)) chordParsesUptoCard

/-- THE SECOND FORM's CARD OF 'schismalaw39.ChordAlike'. -/
def chordAlikeUptoCard : Claim7 := { stood := { row := chordAlikeUptoRow, standIns := [], harness := (true, "d8ee1f55ed73e9c291d0af4e1ac5251c5038cdc456aa265089674ceda632c001"), looks := true }, kinds := [], alts := [], laidByText := true, laidKinds := [.data, .data, .data, .data, .sentinel, .sentinel, .pinned], laidTests := true, laidLooks := .later }
def ChordAlikeUptoCardSaid : Prop := Claim7.holds Tryz.pinned (.plain (OpenSpec.upto chordAlikeSpec)) chordAlikeUptoCard

/-- THE SECOND FORM's CARD OF 'schismalaw39.ChordNumbers'. -/
def chordNumbersUptoCard : Claim7 := { stood := { row := chordNumbersUptoRow, standIns := [], harness := (true, "d8ee1f55ed73e9c291d0af4e1ac5251c5038cdc456aa265089674ceda632c001"), looks := true }, kinds := [], alts := [], laidByText := true, laidKinds := [.data, .data, .data, .data, .sentinel, .sentinel, .pinned], laidTests := true, laidLooks := .later }
def ChordNumbersUptoCardSaid : Prop := Claim7.holds Tryz.pinned (.plain (OpenSpec.upto chordNumbersSpec)) chordNumbersUptoCard

/-- THE SECOND FORM's CARD OF 'schismalaw39.ChordChecks'. -/
def chordChecksUptoCard : Claim7 := { stood := { row := chordChecksUptoRow, standIns := [], harness := (true, "d8ee1f55ed73e9c291d0af4e1ac5251c5038cdc456aa265089674ceda632c001"), looks := true }, kinds := [], alts := [], laidByText := true, laidKinds := [.data, .data, .data, .data, .sentinel, .sentinel, .pinned], laidTests := true, laidLooks := .later }
def ChordChecksUptoCardSaid : Prop := Claim7.holds Tryz.pinned (.plain (OpenSpec.upto chordChecksSpec)) chordChecksUptoCard
end Rows
end Go.Proofs.YtobkdjakaojgpaaGreatDoor
