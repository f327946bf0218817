/-
  DERIVED. GIVEN WITH THE SEED: THE CARDS: each row of YtagfnnongamneaaGreatDoorRows.lean that lists a variable, with what it lists TIED to the program's text (the seventh form; the later family's looks); each row that meets fmt, with fmt's text TOLD by the authors' own Lean function (tested against real Go, not proved from fmt's source: count such statements apart). THE CARD IS WHAT COUNTS. Prove the row's statement (the work); the ties are given (YtagfnnongamneaaGreatDoorTie.lean); close each card by the builder's one call (the guide's Derived/Test/ToyasCard.lean, 'card_holds'). Laid BY PROGRAM, IN A SANDBOX (cutbox-door.mjs). By AI agents, Wed Nov 11 2026. No macro, syntax, notation, axiom, sorry.
-/
import Derived.Test.YtagfnnongamneaaGreatDoorRows
import GoSem.ClaimSeven
namespace Go.Proofs.YtagfnnongamneaaGreatDoor
namespace Rows

/-- THE TIED CARD OF 'schismalaw47.LexerScans'. -/
def lexerScansCard : Claim7 := { stood := { row := lexerScansRow, standIns := [], harness := (true, "ac8f03836909c7169e342ac25e0df88977334defd02bdc69df838b4e35756f7c"), looks := true }, kinds := [], alts := [], laidByText := true, laidKinds := [.data, .data, .data, .data, .sentinel, .sentinel, .pinned], laidTests := true, laidLooks := .later }
def LexerScansCardSaid : Prop := Claim7.holds Tryz.pinned (.plain (OpenSpec.ofChange lexerScansSpec)) lexerScansCard

/-- THE TIED CARD OF 'schismalaw47.LexerLimits'. -/
def lexerLimitsCard : Claim7 := { stood := { row := lexerLimitsRow, standIns := [], harness := (true, "ac8f03836909c7169e342ac25e0df88977334defd02bdc69df838b4e35756f7c"), looks := true }, kinds := [], alts := [], laidByText := true, laidKinds := [.data, .data, .data, .data, .sentinel, .sentinel, .pinned], laidTests := true, laidLooks := .later }
def LexerLimitsCardSaid : Prop := Claim7.holds Tryz.pinned (.plain (OpenSpec.ofChange lexerLimitsSpec)) lexerLimitsCard

/-- THE TIED CARD OF 'schismalaw47.LexerTexts'. -/
def lexerTextsCard : Claim7 := { stood := { row := lexerTextsRow, standIns := [], harness := (true, "ac8f03836909c7169e342ac25e0df88977334defd02bdc69df838b4e35756f7c"), looks := true }, kinds := [], alts := [], laidByText := true, laidKinds := [.data, .data, .data, .data, .sentinel, .sentinel, .pinned], laidTests := true, laidLooks := .later }
def LexerTextsCardSaid : Prop := Claim7.holds Tryz.pinned (.plain (OpenSpec.ofChange lexerTextsSpec)) lexerTextsCard

/-- THE TIED CARD OF 'schismalaw47.LexerEquals'. -/
def lexerEqualsCard : Claim7 := { stood := { row := lexerEqualsRow, standIns := [], harness := (true, "ac8f03836909c7169e342ac25e0df88977334defd02bdc69df838b4e35756f7c"), looks := true }, kinds := [], alts := [], laidByText := true, laidKinds := [.data, .data, .data, .data, .sentinel, .sentinel, .pinned], laidTests := true, laidLooks := .later }
def LexerEqualsCardSaid : Prop := Claim7.holds Tryz.pinned (.plain (OpenSpec.ofChange lexerEqualsSpec)) lexerEqualsCard

/-- THE TIED CARD OF 'schismalaw47.LexerBlanks'. -/
def lexerBlanksCard : Claim7 := { stood := { row := lexerBlanksRow, standIns := [], harness := (true, "ac8f03836909c7169e342ac25e0df88977334defd02bdc69df838b4e35756f7c"), looks := true }, kinds := [], alts := [], laidByText := true, laidKinds := [.data, .data, .data, .data, .sentinel, .sentinel, .pinned], laidTests := true, laidLooks := .later }
def LexerBlanksCardSaid : Prop := Claim7.holds Tryz.pinned (.plain (OpenSpec.ofChange lexerBlanksSpec)) lexerBlanksCard

/-- THE TIED CARD OF 'schismalaw47.LexerNil'. -/
def lexerNilCard : Claim7 := { stood := { row := lexerNilRow, standIns := [], harness := (true, "ac8f03836909c7169e342ac25e0df88977334defd02bdc69df838b4e35756f7c"), looks := true }, kinds := [], alts := [], laidByText := true, laidKinds := [.data, .data, .data, .data, .sentinel, .sentinel, .pinned], laidTests := true, laidLooks := .later }
def LexerNilCardSaid : Prop := Claim7.holds Tryz.pinned (.plain (OpenSpec.ofChange lexerNilSpec)) lexerNilCard

/-- THE TIED CARD OF 'schismalaw47.LexerStreams'. -/
def lexerStreamsCard : Claim7 := { stood := { row := lexerStreamsRow, standIns := [], harness := (true, "ac8f03836909c7169e342ac25e0df88977334defd02bdc69df838b4e35756f7c"), looks := true }, kinds := [], alts := [], laidByText := true, laidKinds := [.data, .data, .data, .data, .sentinel, .sentinel, .pinned], laidTests := true, laidLooks := .later }
def LexerStreamsCardSaid : Prop := Claim7.holds Tryz.pinned (.plain (OpenSpec.ofChange lexerStreamsSpec)) lexerStreamsCard

/-- THE TIED CARD OF 'schismalaw12.MonzoReads'. -/
def monzoReadsCard : Claim7 := { stood := { row := monzoReadsRow, standIns := [], harness := (true, "ac8f03836909c7169e342ac25e0df88977334defd02bdc69df838b4e35756f7c"), looks := true }, kinds := [], alts := [], laidByText := true, laidKinds := [.data, .data, .data, .data, .sentinel, .sentinel, .pinned], laidTests := true, laidLooks := .later }
def MonzoReadsCardSaid : Prop := Claim7.holds Tryz.pinned (.plain (OpenSpec.ofChange monzoReadsSpec)) monzoReadsCard

/-- THE SECOND FORM's CARD OF 'schismalaw47.LexerScans'. -/
def lexerScansUptoCard : Claim7 := { stood := { row := lexerScansUptoRow, standIns := [], harness := (true, "ac8f03836909c7169e342ac25e0df88977334defd02bdc69df838b4e35756f7c"), looks := true }, kinds := [], alts := [], laidByText := true, laidKinds := [.data, .data, .data, .data, .sentinel, .sentinel, .pinned], laidTests := true, laidLooks := .later }
def LexerScansUptoCardSaid : Prop := Claim7.holds Tryz.pinned (.plain (OpenSpec.upto lexerScansSpec)) lexerScansUptoCard

/-- THE SECOND FORM's CARD OF 'schismalaw47.LexerLimits'. -/
def lexerLimitsUptoCard : Claim7 := { stood := { row := lexerLimitsUptoRow, standIns := [], harness := (true, "ac8f03836909c7169e342ac25e0df88977334defd02bdc69df838b4e35756f7c"), looks := true }, kinds := [], alts := [], laidByText := true, laidKinds := [.data, .data, .data, .data, .sentinel, .sentinel, .pinned], laidTests := true, laidLooks := .later }
def LexerLimitsUptoCardSaid : Prop := Claim7.holds Tryz.pinned (.plain (OpenSpec.upto lexerLimitsSpec)) lexerLimitsUptoCard

/-- THE SECOND FORM's CARD OF 'schismalaw47.LexerTexts'. -/
def lexerTextsUptoCard : Claim7 := { stood := { row := lexerTextsUptoRow, standIns := [], harness := (true, "ac8f03836909c7169e342ac25e0df88977334defd02bdc69df838b4e35756f7c"), looks := true }, kinds := [], alts := [], laidByText := true, laidKinds := [.data, .data, .data, .data, .sentinel, .sentinel, .pinned], laidTests := true, laidLooks := .later }
def LexerTextsUptoCardSaid : Prop := Claim7.holds Tryz.pinned (.plain (OpenSpec.upto lexerTextsSpec)) lexerTextsUptoCard

/-- THE SECOND FORM's CARD OF 'schismalaw47.LexerEquals'. -/
def lexerEqualsUptoCard : Claim7 := { stood := { row := lexerEqualsUptoRow, standIns := [], harness := (true, "ac8f03836909c7169e342ac25e0df88977334defd02bdc69df838b4e35756f7c"), looks := true }, kinds := [], alts := [], laidByText := true, laidKinds := [.data, .data, .data, .data, .sentinel, .sentinel, .pinned], laidTests := true, laidLooks := .later }
def LexerEqualsUptoCardSaid : Prop := Claim7.holds Tryz.pinned (.plain (OpenSpec.upto lexerEqualsSpec)) lexerEqualsUptoCard

/-- THE SECOND FORM's CARD OF 'schismalaw47.LexerBlanks'. -/
def lexerBlanksUptoCard : Claim7 := { stood := { row := lexerBlanksUptoRow, standIns := [], harness := (true, "ac8f03836909c7169e342ac25e0df88977334defd02bdc69df838b4e35756f7c"), looks := true }, kinds := [], alts := [], laidByText := true, laidKinds := [.data, .data, .data, .data, .sentinel, .sentinel, .pinned], laidTests := true, laidLooks := .later }
def LexerBlanksUptoCardSaid : Prop := Claim7.holds Tryz.pinned (.plain (OpenSpec.upto lexerBlanksSpec)) lexerBlanksUptoCard

/-- THE SECOND FORM's CARD OF 'schismalaw47.LexerNil'. -/
def lexerNilUptoCard : Claim7 := { stood := { row := lexerNilUptoRow, standIns := [], harness := (true, "ac8f03836909c7169e342ac25e0df88977334defd02bdc69df838b4e35756f7c"), looks := true }, kinds := [], alts := [], laidByText := true, laidKinds := [.data, .data, .data, .data, .sentinel, .sentinel, .pinned], laidTests := true, laidLooks := .later }
def LexerNilUptoCardSaid : Prop := Claim7.holds Tryz.pinned (.plain (OpenSpec.upto lexerNilSpec)) lexerNilUptoCard

/-- THE SECOND FORM's CARD OF 'schismalaw47.LexerStreams'. -/
def lexerStreamsUptoCard : Claim7 := { stood := { row := lexerStreamsUptoRow, standIns := [], harness := (true, "ac8f03836909c7169e342ac25e0df88977334defd02bdc69df838b4e35756f7c"), looks := true }, kinds := [], alts := [], laidByText := true, laidKinds := [.data, .data, .data, .data, .sentinel, .sentinel, .pinned], laidTests := true, laidLooks := .later }
def LexerStreamsUptoCardSaid : Prop := Claim7.holds Tryz.pinned (.plain (OpenSpec.upto lexerStreamsSpec)) lexerStreamsUptoCard

/-- THE SECOND FORM's CARD OF 'schismalaw12.MonzoReads'. -/
def monzoReadsUptoCard : Claim7 := { stood := { row := monzoReadsUptoRow, standIns := [], harness := (true, "ac8f03836909c7169e342ac25e0df88977334defd02bdc69df838b4e35756f7c"), looks := true }, kinds := [], alts := [], laidByText := true, laidKinds := [.data, .data, .data, .data, .sentinel, .sentinel, .pinned], laidTests := true, laidLooks := .later }
def MonzoReadsUptoCardSaid : Prop := Claim7.holds Tryz.pinned (.plain (OpenSpec.upto monzoReadsSpec)) monzoReadsUptoCard
end Rows
end Go.Proofs.YtagfnnongamneaaGreatDoor
