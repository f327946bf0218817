/-
  DERIVED. GIVEN WITH THE SEED: THE CARDS: each row of YtaaeekahhhookaaGreatDoorRows.lean that lists a variable, with what it lists TIED to the program's text (the seventh form; the later family's looks); each row that meets fmt, with fmt's text TOLD by the authors' own Lean function (tested against real Go, not proved from fmt's source: count such statements apart). THE CARD IS WHAT COUNTS. Prove the row's statement (the work); the ties are given (YtaaeekahhhookaaGreatDoorTie.lean); close each card by the builder's one call (the guide's Derived/Test/ToyasCard.lean, 'card_holds'). Laid BY PROGRAM, IN A SANDBOX (cutbox-door.mjs). By AI agents, Wed Nov 11 2026. No macro, syntax, notation, axiom, sorry.
-/
import Derived.Test.YtaaeekahhhookaaGreatDoorRows
import GoSem.ClaimSeven
namespace Go.Proofs.YtaaeekahhhookaaGreatDoor
namespace Rows

/-- THE TIED CARD OF 'schismalaw48.ScoreTokens'. -/
def scoreTokensCard : Claim7 := { stood := { row := scoreTokensRow, standIns := [], harness := (true, "b6e514cc93c125a99da2475e0e73df026ef2e845ee9eb7b04a3fc94ce657fa19"), looks := true }, kinds := [], alts := [], laidByText := true, laidKinds := [.data, .data, .data, .data, .sentinel, .sentinel, .pinned], laidTests := true, laidLooks := .later }
def ScoreTokensCardSaid : Prop := Claim7.holds Tryz.pinned (.plain (OpenSpec.ofChange scoreTokensSpec)) scoreTokensCard

/-- THE TIED CARD OF 'schismalaw48.ScoreTransposes'. -/
def scoreTransposesCard : Claim7 := { stood := { row := scoreTransposesRow, standIns := [], harness := (true, "b6e514cc93c125a99da2475e0e73df026ef2e845ee9eb7b04a3fc94ce657fa19"), looks := true }, kinds := [], alts := [], laidByText := true, laidKinds := [.data, .data, .data, .data, .sentinel, .sentinel, .pinned], laidTests := true, laidLooks := .later }
def ScoreTransposesCardSaid : Prop := Claim7.holds Tryz.pinned (.plain (OpenSpec.ofChange scoreTransposesSpec)) scoreTransposesCard

/-- THE TIED CARD OF 'schismalaw48.ScoreChecks'. -/
def scoreChecksCard : Claim7 := { stood := { row := scoreChecksRow, standIns := [], harness := (true, "b6e514cc93c125a99da2475e0e73df026ef2e845ee9eb7b04a3fc94ce657fa19"), looks := true }, kinds := [], alts := [], laidByText := true, laidKinds := [.data, .data, .data, .data, .sentinel, .sentinel, .pinned], laidTests := true, laidLooks := .later }
def ScoreChecksCardSaid : Prop := Claim7.holds Tryz.pinned (.plain (OpenSpec.ofChange scoreChecksSpec)) scoreChecksCard

/-- THE SECOND FORM's CARD OF 'schismalaw48.ScoreTokens'. -/
def scoreTokensUptoCard : Claim7 := { stood := { row := scoreTokensUptoRow, standIns := [], harness := (true, "b6e514cc93c125a99da2475e0e73df026ef2e845ee9eb7b04a3fc94ce657fa19"), looks := true }, kinds := [], alts := [], laidByText := true, laidKinds := [.data, .data, .data, .data, .sentinel, .sentinel, .pinned], laidTests := true, laidLooks := .later }
def ScoreTokensUptoCardSaid : Prop := Claim7.holds Tryz.pinned (.plain (OpenSpec.upto scoreTokensSpec)) scoreTokensUptoCard

/-- THE SECOND FORM's CARD OF 'schismalaw48.ScoreTransposes'. -/
def scoreTransposesUptoCard : Claim7 := { stood := { row := scoreTransposesUptoRow, standIns := [], harness := (true, "b6e514cc93c125a99da2475e0e73df026ef2e845ee9eb7b04a3fc94ce657fa19"), looks := true }, kinds := [], alts := [], laidByText := true, laidKinds := [.data, .data, .data, .data, .sentinel, .sentinel, .pinned], laidTests := true, laidLooks := .later }
def ScoreTransposesUptoCardSaid : Prop := Claim7.holds Tryz.pinned (.plain (OpenSpec.upto scoreTransposesSpec)) scoreTransposesUptoCard

/-- THE SECOND FORM's CARD OF 'schismalaw48.ScoreChecks'. -/
def scoreChecksUptoCard : Claim7 := { stood := { row := scoreChecksUptoRow, standIns := [], harness := (true, "b6e514cc93c125a99da2475e0e73df026ef2e845ee9eb7b04a3fc94ce657fa19"), looks := true }, kinds := [], alts := [], laidByText := true, laidKinds := [.data, .data, .data, .data, .sentinel, .sentinel, .pinned], laidTests := true, laidLooks := .later }
def ScoreChecksUptoCardSaid : Prop := Claim7.holds Tryz.pinned (.plain (OpenSpec.upto scoreChecksSpec)) scoreChecksUptoCard
end Rows
end Go.Proofs.YtaaeekahhhookaaGreatDoor
