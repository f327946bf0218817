/-
  DERIVED. GIVEN WITH THE SEED: THE CARDS: each row of YtkoemgemnklmdaaGreatDoorRows.lean that lists a variable, with what it lists TIED to the program's text (the seventh form; the later family's looks); each row that meets fmt, with fmt's text TOLD by the authors' own Lean function (tested against real Go, not proved from fmt's source: count such statements apart). THE CARD IS WHAT COUNTS. Prove the row's statement (the work); the ties are given (YtkoemgemnklmdaaGreatDoorTie.lean); close each card by the builder's one call (the guide's Derived/Test/ToyasCard.lean, 'card_holds'). Laid BY PROGRAM, IN A SANDBOX (cutbox-door.mjs). By AI agents, Wed Nov 11 2026. No macro, syntax, notation, axiom, sorry.
-/
import Derived.Test.YtkoemgemnklmdaaGreatDoorRows
import GoSem.ClaimSeven
namespace Go.Proofs.YtkoemgemnklmdaaGreatDoor
namespace Rows

/-- THE TIED CARD OF 'schismalaw12.MonzoChecks'. -/
def monzoChecksCard : Claim7 := { stood := { row := monzoChecksRow, standIns := [], harness := (true, "aee451412f8f4204f81ef83f3c0135644f5f6f7b7f3f057265194a0fc69ae81b"), looks := true }, kinds := [], alts := [], laidByText := true, laidKinds := [.data, .data, .data, .sentinel, .sentinel], laidTests := true, laidLooks := .later }
def MonzoChecksCardSaid : Prop := Claim7.holds Tryz.pinned (.plain (OpenSpec.ofChange monzoChecksSpec)) monzoChecksCard

/-- THE TIED CARD OF 'schismalaw12.MonzoOf'. -/
def monzoOfCard : Claim7 := { stood := { row := monzoOfRow, standIns := [], harness := (true, "aee451412f8f4204f81ef83f3c0135644f5f6f7b7f3f057265194a0fc69ae81b"), looks := true }, kinds := [], alts := [], laidByText := true, laidKinds := [.data, .data, .data, .sentinel, .sentinel], laidTests := true, laidLooks := .later }
def MonzoOfCardSaid : Prop := Claim7.holds Tryz.pinned (.plain (OpenSpec.ofChange monzoOfSpec)) monzoOfCard

/-- THE TIED CARD OF 'schismalaw12.MonzoFractions'. -/
def monzoFractionsCard : Claim7 := { stood := { row := monzoFractionsRow, standIns := [], harness := (true, "aee451412f8f4204f81ef83f3c0135644f5f6f7b7f3f057265194a0fc69ae81b"), looks := true }, kinds := [], alts := [], laidByText := true, laidKinds := [.data, .data, .data, .sentinel, .sentinel], laidTests := true, laidLooks := .later }
def MonzoFractionsCardSaid : Prop := Claim7.holds Tryz.pinned (.plain (OpenSpec.ofChange monzoFractionsSpec)) monzoFractionsCard

/-- THE TIED CARD OF 'schismalaw12.MonzoLong'. -/
def monzoLongCard : Claim7 := { stood := { row := monzoLongRow, standIns := [], harness := (true, "aee451412f8f4204f81ef83f3c0135644f5f6f7b7f3f057265194a0fc69ae81b"), looks := true }, kinds := [], alts := [], laidByText := true, laidKinds := [.data, .data, .data, .sentinel, .sentinel], laidTests := true, laidLooks := .later }
def MonzoLongCardSaid : Prop := Claim7.holds Tryz.pinned (.plain (OpenSpec.ofChange monzoLongSpec)) monzoLongCard

/-- THE TIED CARD OF 'schismalaw12.MonzoAdds'. -/
def monzoAddsCard : Claim7 := { stood := { row := monzoAddsRow, standIns := [], harness := (true, "aee451412f8f4204f81ef83f3c0135644f5f6f7b7f3f057265194a0fc69ae81b"), looks := true }, kinds := [], alts := [], laidByText := true, laidKinds := [.data, .data, .data, .sentinel, .sentinel], laidTests := true, laidLooks := .later }
def MonzoAddsCardSaid : Prop := Claim7.holds Tryz.pinned (.plain (OpenSpec.ofChange monzoAddsSpec)) monzoAddsCard

/-- THE TIED CARD OF 'schismalaw12.MonzoLaws'. -/
def monzoLawsCard : Claim7 := { stood := { row := monzoLawsRow, standIns := [], harness := (true, "aee451412f8f4204f81ef83f3c0135644f5f6f7b7f3f057265194a0fc69ae81b"), looks := true }, kinds := [], alts := [], laidByText := true, laidKinds := [.data, .data, .data, .sentinel, .sentinel], laidTests := true, laidLooks := .later }
def MonzoLawsCardSaid : Prop := Claim7.holds Tryz.pinned (.plain (OpenSpec.ofChange monzoLawsSpec)) monzoLawsCard

/-- THE TIED CARD OF 'schismalaw12.MonzoOrders'. -/
def monzoOrdersCard : Claim7 := { stood := { row := monzoOrdersRow, standIns := [], harness := (true, "aee451412f8f4204f81ef83f3c0135644f5f6f7b7f3f057265194a0fc69ae81b"), looks := true }, kinds := [], alts := [], laidByText := true, laidKinds := [.data, .data, .data, .sentinel, .sentinel], laidTests := true, laidLooks := .later }
def MonzoOrdersCardSaid : Prop := Claim7.holds Tryz.pinned (.plain (OpenSpec.ofChange monzoOrdersSpec)) monzoOrdersCard

/-- THE TIED CARD OF 'schismalaw12.MonzoErrors'. -/
def monzoErrorsCard : Claim7 := { stood := { row := monzoErrorsRow, standIns := [], harness := (true, "aee451412f8f4204f81ef83f3c0135644f5f6f7b7f3f057265194a0fc69ae81b"), looks := true }, kinds := [], alts := [], laidByText := true, laidKinds := [.data, .data, .data, .sentinel, .sentinel], laidTests := true, laidLooks := .later }
def MonzoErrorsCardSaid : Prop := Claim7.holds Tryz.pinned (.plain (OpenSpec.ofChange monzoErrorsSpec)) monzoErrorsCard

/-- THE TIED CARD OF 'schismalaw12.MonzoHeights'. -/
def monzoHeightsCard : Claim7 := { stood := { row := monzoHeightsRow, standIns := [], harness := (true, "aee451412f8f4204f81ef83f3c0135644f5f6f7b7f3f057265194a0fc69ae81b"), looks := true }, kinds := [], alts := [], laidByText := true, laidKinds := [.data, .data, .data, .sentinel, .sentinel], laidTests := true, laidLooks := .later }
def MonzoHeightsCardSaid : Prop := Claim7.holds Tryz.pinned (.plain (OpenSpec.ofChange monzoHeightsSpec)) monzoHeightsCard

/-- THE TIED CARD OF 'schismalaw12.MonzoParses'. -/
def monzoParsesCard : Claim7 := { stood := { row := monzoParsesRow, standIns := [], harness := (true, "aee451412f8f4204f81ef83f3c0135644f5f6f7b7f3f057265194a0fc69ae81b"), looks := true }, kinds := [], alts := [], laidByText := true, laidKinds := [.data, .data, .data, .data, .sentinel, .sentinel, .pinned], laidTests := true, laidLooks := .later }
def MonzoParsesCardSaid : Prop := Claim7.holds Tryz.pinned (.plain (OpenSpec.ofChange monzoParsesSpec)) monzoParsesCard

/-- THE TIED CARD OF 'schismalaw12.MonzoReads'. -/
def monzoReadsCard : Claim7 := { stood := { row := monzoReadsRow, standIns := [], harness := (true, "aee451412f8f4204f81ef83f3c0135644f5f6f7b7f3f057265194a0fc69ae81b"), looks := true }, kinds := [], alts := [], laidByText := true, laidKinds := [.data, .data, .data, .data, .sentinel, .sentinel, .pinned], laidTests := true, laidLooks := .later }
def MonzoReadsCardSaid : Prop := Claim7.holds Tryz.pinned (.plain (OpenSpec.ofChange monzoReadsSpec)) monzoReadsCard

/-- THE SECOND FORM's CARD OF 'schismalaw12.MonzoChecks'. -/
def monzoChecksUptoCard : Claim7 := { stood := { row := monzoChecksUptoRow, standIns := [], harness := (true, "aee451412f8f4204f81ef83f3c0135644f5f6f7b7f3f057265194a0fc69ae81b"), looks := true }, kinds := [], alts := [], laidByText := true, laidKinds := [.data, .data, .data, .sentinel, .sentinel], laidTests := true, laidLooks := .later }
def MonzoChecksUptoCardSaid : Prop := Claim7.holds Tryz.pinned (.plain (OpenSpec.upto monzoChecksSpec)) monzoChecksUptoCard

/-- THE SECOND FORM's CARD OF 'schismalaw12.MonzoOf'. -/
def monzoOfUptoCard : Claim7 := { stood := { row := monzoOfUptoRow, standIns := [], harness := (true, "aee451412f8f4204f81ef83f3c0135644f5f6f7b7f3f057265194a0fc69ae81b"), looks := true }, kinds := [], alts := [], laidByText := true, laidKinds := [.data, .data, .data, .sentinel, .sentinel], laidTests := true, laidLooks := .later }
def MonzoOfUptoCardSaid : Prop := Claim7.holds Tryz.pinned (.plain (OpenSpec.upto monzoOfSpec)) monzoOfUptoCard

/-- THE SECOND FORM's CARD OF 'schismalaw12.MonzoFractions'. -/
def monzoFractionsUptoCard : Claim7 := { stood := { row := monzoFractionsUptoRow, standIns := [], harness := (true, "aee451412f8f4204f81ef83f3c0135644f5f6f7b7f3f057265194a0fc69ae81b"), looks := true }, kinds := [], alts := [], laidByText := true, laidKinds := [.data, .data, .data, .sentinel, .sentinel], laidTests := true, laidLooks := .later }
def MonzoFractionsUptoCardSaid : Prop := Claim7.holds Tryz.pinned (.plain (OpenSpec.upto monzoFractionsSpec)) monzoFractionsUptoCard

/-- THE SECOND FORM's CARD OF 'schismalaw12.MonzoLong'. -/
def monzoLongUptoCard : Claim7 := { stood := { row := monzoLongUptoRow, standIns := [], harness := (true, "aee451412f8f4204f81ef83f3c0135644f5f6f7b7f3f057265194a0fc69ae81b"), looks := true }, kinds := [], alts := [], laidByText := true, laidKinds := [.data, .data, .data, .sentinel, .sentinel], laidTests := true, laidLooks := .later }
def MonzoLongUptoCardSaid : Prop := Claim7.holds Tryz.pinned (.plain (OpenSpec.upto monzoLongSpec)) monzoLongUptoCard

/-- THE SECOND FORM's CARD OF 'schismalaw12.MonzoAdds'. -/
def monzoAddsUptoCard : Claim7 := { stood := { row := monzoAddsUptoRow, standIns := [], harness := (true, "aee451412f8f4204f81ef83f3c0135644f5f6f7b7f3f057265194a0fc69ae81b"), looks := true }, kinds := [], alts := [], laidByText := true, laidKinds := [.data, .data, .data, .sentinel, .sentinel], laidTests := true, laidLooks := .later }
def MonzoAddsUptoCardSaid : Prop := Claim7.holds Tryz.pinned (.plain (OpenSpec.upto monzoAddsSpec)) monzoAddsUptoCard

/-- THE SECOND FORM's CARD OF 'schismalaw12.MonzoLaws'. -/
def monzoLawsUptoCard : Claim7 := { stood := { row := monzoLawsUptoRow, standIns := [], harness := (true, "aee451412f8f4204f81ef83f3c0135644f5f6f7b7f3f057265194a0fc69ae81b"), looks := true }, kinds := [], alts := [], laidByText := true, laidKinds := [.data, .data, .data, .sentinel, .sentinel], laidTests := true, laidLooks := .later }
def MonzoLawsUptoCardSaid : Prop := Claim7.holds Tryz.pinned (.plain (OpenSpec.upto monzoLawsSpec)) monzoLawsUptoCard

/-- THE SECOND FORM's CARD OF 'schismalaw12.MonzoOrders'. -/
def monzoOrdersUptoCard : Claim7 := { stood := { row := monzoOrdersUptoRow, standIns := [], harness := (true, "aee451412f8f4204f81ef83f3c0135644f5f6f7b7f3f057265194a0fc69ae81b"), looks := true }, kinds := [], alts := [], laidByText := true, laidKinds := [.data, .data, .data, .sentinel, .sentinel], laidTests := true, laidLooks := .later }
def MonzoOrdersUptoCardSaid : Prop := Claim7.holds Tryz.pinned (.plain (OpenSpec.upto monzoOrdersSpec)) monzoOrdersUptoCard

/-- THE SECOND FORM's CARD OF 'schismalaw12.MonzoErrors'. -/
def monzoErrorsUptoCard : Claim7 := { stood := { row := monzoErrorsUptoRow, standIns := [], harness := (true, "aee451412f8f4204f81ef83f3c0135644f5f6f7b7f3f057265194a0fc69ae81b"), looks := true }, kinds := [], alts := [], laidByText := true, laidKinds := [.data, .data, .data, .sentinel, .sentinel], laidTests := true, laidLooks := .later }
def MonzoErrorsUptoCardSaid : Prop := Claim7.holds Tryz.pinned (.plain (OpenSpec.upto monzoErrorsSpec)) monzoErrorsUptoCard

/-- THE SECOND FORM's CARD OF 'schismalaw12.MonzoHeights'. -/
def monzoHeightsUptoCard : Claim7 := { stood := { row := monzoHeightsUptoRow, standIns := [], harness := (true, "aee451412f8f4204f81ef83f3c0135644f5f6f7b7f3f057265194a0fc69ae81b"), looks := true }, kinds := [], alts := [], laidByText := true, laidKinds := [.data, .data, .data, .sentinel, .sentinel], laidTests := true, laidLooks := .later }
def MonzoHeightsUptoCardSaid : Prop := Claim7.holds Tryz.pinned (.plain (OpenSpec.upto monzoHeightsSpec)) monzoHeightsUptoCard

/-- THE SECOND FORM's CARD OF 'schismalaw12.MonzoParses'. -/
def monzoParsesUptoCard : Claim7 := { stood := { row := monzoParsesUptoRow, standIns := [], harness := (true, "aee451412f8f4204f81ef83f3c0135644f5f6f7b7f3f057265194a0fc69ae81b"), looks := true }, kinds := [], alts := [], laidByText := true, laidKinds := [.data, .data, .data, .data, .sentinel, .sentinel, .pinned], laidTests := true, laidLooks := .later }
def MonzoParsesUptoCardSaid : Prop := Claim7.holds Tryz.pinned (.plain (OpenSpec.upto monzoParsesSpec)) monzoParsesUptoCard

/-- THE SECOND FORM's CARD OF 'schismalaw12.MonzoReads'. -/
def monzoReadsUptoCard : Claim7 := { stood := { row := monzoReadsUptoRow, standIns := [], harness := (true, "aee451412f8f4204f81ef83f3c0135644f5f6f7b7f3f057265194a0fc69ae81b"), looks := true }, kinds := [], alts := [], laidByText := true, laidKinds := [.data, .data, .data, .data, .sentinel, .sentinel, .pinned], laidTests := true, laidLooks := .later }
def MonzoReadsUptoCardSaid : Prop := Claim7.holds Tryz.pinned (.plain (OpenSpec.upto monzoReadsSpec)) monzoReadsUptoCard
end Rows
end Go.Proofs.YtkoemgemnklmdaaGreatDoor
