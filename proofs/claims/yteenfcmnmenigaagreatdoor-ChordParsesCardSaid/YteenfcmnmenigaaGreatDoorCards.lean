/-
  DERIVED. GIVEN WITH THE SEED: THE CARDS: each row of YteenfcmnmenigaaGreatDoorRows.lean that lists a variable, with what it lists TIED to the program's text (the seventh form; the later family's looks); each row that meets fmt, with fmt's text TOLD by the authors' own Lean function (tested against real Go, not proved from fmt's source: count such statements apart). THE CARD IS WHAT COUNTS. Prove the row's statement (the work); the ties are given (YteenfcmnmenigaaGreatDoorTie.lean); close each card by the builder's one call (the guide's Derived/Test/ToyasCard.lean, 'card_holds'). Laid BY PROGRAM, IN A SANDBOX (cutbox-door.mjs). By AI agents, Wed Nov 11 2026. No macro, syntax, notation, axiom, sorry.
-/
import Derived.Test.YteenfcmnmenigaaGreatDoorRows
import GoSem.ClaimSeven
namespace Go.Proofs.YteenfcmnmenigaaGreatDoor
namespace Rows

/-- THE TIED CARD OF 'schismalaw39.ChordMakes'. -/
def chordMakesCard : Claim7 := { stood := { row := chordMakesRow, standIns := [], harness := (true, "c43e44e5a1fa5c1606c055558ae1cf6991bfe20d0192f5c2c3f1b692b2778c9d"), looks := true }, kinds := [], alts := [], laidByText := true, laidKinds := [.data, .data, .data, .data, .sentinel, .sentinel, .pinned], laidTests := true, laidLooks := .later }
def ChordMakesCardSaid : Prop := Claim7.holds Tryz.pinned (.plain (OpenSpec.ofChange chordMakesSpec)) chordMakesCard

/-- THE TIED CARD OF 'schismalaw39.ChordDyads'. -/
def chordDyadsCard : Claim7 := { stood := { row := chordDyadsRow, standIns := [], harness := (true, "c43e44e5a1fa5c1606c055558ae1cf6991bfe20d0192f5c2c3f1b692b2778c9d"), looks := true }, kinds := [], alts := [], laidByText := true, laidKinds := [.data, .data, .data, .data, .sentinel, .sentinel, .pinned], laidTests := true, laidLooks := .later }
def ChordDyadsCardSaid : Prop := Claim7.holds Tryz.pinned (.plain (OpenSpec.ofChange chordDyadsSpec)) chordDyadsCard

/-- THE TIED CARD OF 'schismalaw39.ChordParses'. -/
def chordParsesCard : Claim7 := { stood := { row := chordParsesRow, standIns := [], harness := (true, "c43e44e5a1fa5c1606c055558ae1cf6991bfe20d0192f5c2c3f1b692b2778c9d"), looks := true }, kinds := [], alts := [], laidByText := true, laidKinds := [.data, .data, .data, .data, .sentinel, .sentinel, .pinned], laidTests := true, laidLooks := .later }
def ChordParsesCardSaid : Prop := Claim7.holds Tryz.pinned (.plain (OpenSpec.ofChange chordParsesSpec)) chordParsesCard

/-- THE TIED CARD OF 'schismalaw39.ChordChecks'. -/
def chordChecksCard : Claim7 := { stood := { row := chordChecksRow, standIns := [], harness := (true, "c43e44e5a1fa5c1606c055558ae1cf6991bfe20d0192f5c2c3f1b692b2778c9d"), looks := true }, kinds := [], alts := [], laidByText := true, laidKinds := [.data, .data, .data, .data, .sentinel, .sentinel, .pinned], laidTests := true, laidLooks := .later }
def ChordChecksCardSaid : Prop := Claim7.holds Tryz.pinned (.plain (OpenSpec.ofChange chordChecksSpec)) chordChecksCard

/-- THE SECOND FORM's CARD OF 'schismalaw39.ChordMakes'. -/
def chordMakesUptoCard : Claim7 := { stood := { row := chordMakesUptoRow, standIns := [], harness := (true, "c43e44e5a1fa5c1606c055558ae1cf6991bfe20d0192f5c2c3f1b692b2778c9d"), looks := true }, kinds := [], alts := [], laidByText := true, laidKinds := [.data, .data, .data, .data, .sentinel, .sentinel, .pinned], laidTests := true, laidLooks := .later }
def ChordMakesUptoCardSaid : Prop := Claim7.holds Tryz.pinned (.plain (OpenSpec.upto chordMakesSpec)) chordMakesUptoCard

/-- THE SECOND FORM's CARD OF 'schismalaw39.ChordDyads'. -/
def chordDyadsUptoCard : Claim7 := { stood := { row := chordDyadsUptoRow, standIns := [], harness := (true, "c43e44e5a1fa5c1606c055558ae1cf6991bfe20d0192f5c2c3f1b692b2778c9d"), looks := true }, kinds := [], alts := [], laidByText := true, laidKinds := [.data, .data, .data, .data, .sentinel, .sentinel, .pinned], laidTests := true, laidLooks := .later }
def ChordDyadsUptoCardSaid : Prop := Claim7.holds Tryz.pinned (.plain (OpenSpec.upto chordDyadsSpec)) chordDyadsUptoCard

/-- THE SECOND FORM's CARD OF 'schismalaw39.ChordParses'. -/
def chordParsesUptoCard : Claim7 := { stood := { row := chordParsesUptoRow, standIns := [], harness := (true, "c43e44e5a1fa5c1606c055558ae1cf6991bfe20d0192f5c2c3f1b692b2778c9d"), looks := true }, kinds := [], alts := [], laidByText := true, laidKinds := [.data, .data, .data, .data, .sentinel, .sentinel, .pinned], laidTests := true, laidLooks := .later }
def ChordParsesUptoCardSaid : Prop := Claim7.holds Tryz.pinned (.plain (OpenSpec.upto chordParsesSpec)) chordParsesUptoCard

/-- THE SECOND FORM's CARD OF 'schismalaw39.ChordChecks'. -/
def chordChecksUptoCard : Claim7 := { stood := { row := chordChecksUptoRow, standIns := [], harness := (true, "c43e44e5a1fa5c1606c055558ae1cf6991bfe20d0192f5c2c3f1b692b2778c9d"), looks := true }, kinds := [], alts := [], laidByText := true, laidKinds := [.data, .data, .data, .data, .sentinel, .sentinel, .pinned], laidTests := true, laidLooks := .later }
def ChordChecksUptoCardSaid : Prop := Claim7.holds Tryz.pinned (.plain (OpenSpec.upto chordChecksSpec)) chordChecksUptoCard
end Rows
end Go.Proofs.YteenfcmnmenigaaGreatDoor
