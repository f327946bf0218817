/-
  DERIVED. GIVEN WITH THE SEED: THE CARDS: each row of YtaiglcbgllnciaaGreatDoorRows.lean that lists a variable, with what it lists TIED to the program's text (the seventh form; the later family's looks); each row that meets fmt, with fmt's text TOLD by the authors' own Lean function (tested against real Go, not proved from fmt's source: count such statements apart). THE CARD IS WHAT COUNTS. Prove the row's statement (the work); the ties are given (YtaiglcbgllnciaaGreatDoorTie.lean); close each card by the builder's one call (the guide's Derived/Test/ToyasCard.lean, 'card_holds'). Laid BY PROGRAM, IN A SANDBOX (cutbox-door.mjs). By AI agents, Wed Nov 11 2026. No macro, syntax, notation, axiom, sorry.
-/
import Derived.Test.YtaiglcbgllnciaaGreatDoorRows
import GoSem.ClaimSeven
namespace Go.Proofs.YtaiglcbgllnciaaGreatDoor
namespace Rows

/-- THE TIED CARD OF 'schismalaw39.ChordInverts'. -/
def chordInvertsCard : Claim7 := { stood := { row := chordInvertsRow, standIns := [], harness := (true, "31bb7e266d34d96374f82171d1bf3eca52abfd72fd969e0354fe3df3cabd5234"), looks := true }, kinds := [], alts := [], laidByText := true, laidKinds := [.data, .data, .data, .data, .sentinel, .sentinel, .pinned], laidTests := true, laidLooks := .later }
def ChordInvertsCardSaid : Prop := Claim7.holds Tryz.pinned (.plain (OpenSpec.ofChange chordInvertsSpec)) chordInvertsCard

/-- THE TIED CARD OF 'schismalaw39.ChordTurns'. -/
def chordTurnsCard : Claim7 := { stood := { row := chordTurnsRow, standIns := [], harness := (true, "31bb7e266d34d96374f82171d1bf3eca52abfd72fd969e0354fe3df3cabd5234"), looks := true }, kinds := [], alts := [], laidByText := true, laidKinds := [.data, .data, .data, .data, .sentinel, .sentinel, .pinned], laidTests := true, laidLooks := .later }
def ChordTurnsCardSaid : Prop := Claim7.holds Tryz.pinned (.plain (OpenSpec.ofChange chordTurnsSpec)) chordTurnsCard

/-- THE TIED CARD OF 'schismalaw39.ChordAlike'. -/
def chordAlikeCard : Claim7 := { stood := { row := chordAlikeRow, standIns := [], harness := (true, "31bb7e266d34d96374f82171d1bf3eca52abfd72fd969e0354fe3df3cabd5234"), looks := true }, kinds := [], alts := [], laidByText := true, laidKinds := [.data, .data, .data, .data, .sentinel, .sentinel, .pinned], laidTests := true, laidLooks := .later }
def ChordAlikeCardSaid : Prop := Claim7.holds Tryz.pinned (.plain (OpenSpec.ofChange chordAlikeSpec)) chordAlikeCard

/-- THE TIED CARD OF 'schismalaw39.ChordNumbers'. -/
def chordNumbersCard : Claim7 := { stood := { row := chordNumbersRow, standIns := [], harness := (true, "31bb7e266d34d96374f82171d1bf3eca52abfd72fd969e0354fe3df3cabd5234"), looks := true }, kinds := [], alts := [], laidByText := true, laidKinds := [.data, .data, .data, .data, .sentinel, .sentinel, .pinned], laidTests := true, laidLooks := .later }
def ChordNumbersCardSaid : Prop := Claim7.holds Tryz.pinned (.plain (OpenSpec.ofChange chordNumbersSpec)) chordNumbersCard

/-- THE SECOND FORM's CARD OF 'schismalaw39.ChordInverts'. -/
def chordInvertsUptoCard : Claim7 := { stood := { row := chordInvertsUptoRow, standIns := [], harness := (true, "31bb7e266d34d96374f82171d1bf3eca52abfd72fd969e0354fe3df3cabd5234"), looks := true }, kinds := [], alts := [], laidByText := true, laidKinds := [.data, .data, .data, .data, .sentinel, .sentinel, .pinned], laidTests := true, laidLooks := .later }
def ChordInvertsUptoCardSaid : Prop := Claim7.holds Tryz.pinned (.plain (OpenSpec.upto chordInvertsSpec)) chordInvertsUptoCard

/-- THE SECOND FORM's CARD OF 'schismalaw39.ChordTurns'. -/
def chordTurnsUptoCard : Claim7 := { stood := { row := chordTurnsUptoRow, standIns := [], harness := (true, "31bb7e266d34d96374f82171d1bf3eca52abfd72fd969e0354fe3df3cabd5234"), looks := true }, kinds := [], alts := [], laidByText := true, laidKinds := [.data, .data, .data, .data, .sentinel, .sentinel, .pinned], laidTests := true, laidLooks := .later }
def ChordTurnsUptoCardSaid : Prop := Claim7.holds Tryz.pinned (.plain (OpenSpec.upto chordTurnsSpec)) chordTurnsUptoCard

/-- THE SECOND FORM's CARD OF 'schismalaw39.ChordAlike'. -/
def chordAlikeUptoCard : Claim7 := { stood := { row := chordAlikeUptoRow, standIns := [], harness := (true, "31bb7e266d34d96374f82171d1bf3eca52abfd72fd969e0354fe3df3cabd5234"), looks := true }, kinds := [], alts := [], laidByText := true, laidKinds := [.data, .data, .data, .data, .sentinel, .sentinel, .pinned], laidTests := true, laidLooks := .later }
def ChordAlikeUptoCardSaid : Prop := Claim7.holds Tryz.pinned (.plain (OpenSpec.upto chordAlikeSpec)) chordAlikeUptoCard

/-- THE SECOND FORM's CARD OF 'schismalaw39.ChordNumbers'. -/
def chordNumbersUptoCard : Claim7 := { stood := { row := chordNumbersUptoRow, standIns := [], harness := (true, "31bb7e266d34d96374f82171d1bf3eca52abfd72fd969e0354fe3df3cabd5234"), looks := true }, kinds := [], alts := [], laidByText := true, laidKinds := [.data, .data, .data, .data, .sentinel, .sentinel, .pinned], laidTests := true, laidLooks := .later }
def ChordNumbersUptoCardSaid : Prop := Claim7.holds Tryz.pinned (.plain (OpenSpec.upto chordNumbersSpec)) chordNumbersUptoCard
end Rows
end Go.Proofs.YtaiglcbgllnciaaGreatDoor
