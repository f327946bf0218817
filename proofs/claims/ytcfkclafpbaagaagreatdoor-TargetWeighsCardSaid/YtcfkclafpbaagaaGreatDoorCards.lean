/-
  DERIVED. GIVEN WITH THE SEED: THE CARDS: each row of YtcfkclafpbaagaaGreatDoorRows.lean that lists a variable, with what it lists TIED to the program's text (the seventh form; the later family's looks); each row that meets fmt, with fmt's text TOLD by the authors' own Lean function (tested against real Go, not proved from fmt's source: count such statements apart). THE CARD IS WHAT COUNTS. Prove the row's statement (the work); the ties are given (YtcfkclafpbaagaaGreatDoorTie.lean); close each card by the builder's one call (the guide's Derived/Test/ToyasCard.lean, 'card_holds'). Laid BY PROGRAM, IN A SANDBOX (cutbox-door.mjs). By AI agents, Wed Nov 11 2026. No macro, syntax, notation, axiom, sorry.
-/
import Derived.Test.YtcfkclafpbaagaaGreatDoorRows
import GoSem.ClaimSeven
namespace Go.Proofs.YtcfkclafpbaagaaGreatDoor
namespace Rows

/-- THE TIED CARD OF 'schismalaw29.TargetReduces'. -/
def targetReducesCard : Claim7 := { stood := { row := targetReducesRow, standIns := [], harness := (true, "a1f59dfd3d68e8b9b77917c960620c5836d2badb8dc081ba8cf18fac12a0fc4a"), looks := true }, kinds := [], alts := [], laidByText := true, laidKinds := [.data, .data, .data, .sentinel, .sentinel], laidTests := true, laidLooks := .later }
def TargetReducesCardSaid : Prop := Claim7.holds Tryz.pinned (.plain (OpenSpec.ofChange targetReducesSpec)) targetReducesCard

/-- THE TIED CARD OF 'schismalaw29.TargetClosed'. -/
def targetClosedCard : Claim7 := { stood := { row := targetClosedRow, standIns := [], harness := (true, "a1f59dfd3d68e8b9b77917c960620c5836d2badb8dc081ba8cf18fac12a0fc4a"), looks := true }, kinds := [], alts := [], laidByText := true, laidKinds := [.data, .data, .data, .sentinel, .sentinel], laidTests := true, laidLooks := .later }
def TargetClosedCardSaid : Prop := Claim7.holds Tryz.pinned (.plain (OpenSpec.ofChange targetClosedSpec)) targetClosedCard

/-- THE TIED CARD OF 'schismalaw29.TargetKeeps'. -/
def targetKeepsCard : Claim7 := { stood := { row := targetKeepsRow, standIns := [], harness := (true, "a1f59dfd3d68e8b9b77917c960620c5836d2badb8dc081ba8cf18fac12a0fc4a"), looks := true }, kinds := [], alts := [], laidByText := true, laidKinds := [.data, .data, .data, .sentinel, .sentinel], laidTests := true, laidLooks := .later }
def TargetKeepsCardSaid : Prop := Claim7.holds Tryz.pinned (.plain (OpenSpec.ofChange targetKeepsSpec)) targetKeepsCard

/-- THE TIED CARD OF 'schismalaw29.TargetOdd'. -/
def targetOddCard : Claim7 := { stood := { row := targetOddRow, standIns := [], harness := (true, "a1f59dfd3d68e8b9b77917c960620c5836d2badb8dc081ba8cf18fac12a0fc4a"), looks := true }, kinds := [], alts := [], laidByText := true, laidKinds := [.data, .data, .data, .sentinel, .sentinel], laidTests := true, laidLooks := .later }
def TargetOddCardSaid : Prop := Claim7.holds Tryz.pinned (.plain (OpenSpec.ofChange targetOddSpec)) targetOddCard

/-- THE TIED CARD OF 'schismalaw29.TargetDiamonds'. -/
def targetDiamondsCard : Claim7 := { stood := { row := targetDiamondsRow, standIns := [], harness := (true, "a1f59dfd3d68e8b9b77917c960620c5836d2badb8dc081ba8cf18fac12a0fc4a"), looks := true }, kinds := [], alts := [], laidByText := true, laidKinds := [.data, .data, .data, .sentinel, .sentinel], laidTests := true, laidLooks := .later }
def TargetDiamondsCardSaid : Prop := Claim7.holds Tryz.pinned (.plain (OpenSpec.ofChange targetDiamondsSpec)) targetDiamondsCard

/-- THE TIED CARD OF 'schismalaw29.TargetRefuses'. -/
def targetRefusesCard : Claim7 := { stood := { row := targetRefusesRow, standIns := [], harness := (true, "a1f59dfd3d68e8b9b77917c960620c5836d2badb8dc081ba8cf18fac12a0fc4a"), looks := true }, kinds := [], alts := [], laidByText := true, laidKinds := [.data, .data, .data, .sentinel, .sentinel], laidTests := true, laidLooks := .later }
def TargetRefusesCardSaid : Prop := Claim7.holds Tryz.pinned (.plain (OpenSpec.ofChange targetRefusesSpec)) targetRefusesCard

/-- THE TIED CARD OF 'schismalaw29.TargetIntegers'. -/
def targetIntegersCard : Claim7 := { stood := { row := targetIntegersRow, standIns := [], harness := (true, "a1f59dfd3d68e8b9b77917c960620c5836d2badb8dc081ba8cf18fac12a0fc4a"), looks := true }, kinds := [], alts := [], laidByText := true, laidKinds := [.data, .data, .data, .sentinel, .sentinel], laidTests := true, laidLooks := .later }
def TargetIntegersCardSaid : Prop := Claim7.holds Tryz.pinned (.plain (OpenSpec.ofChange targetIntegersSpec)) targetIntegersCard

/-- THE TIED CARD OF 'schismalaw29.TargetWeighs'. -/
def targetWeighsCard : Claim7 := { stood := { row := targetWeighsRow, standIns := [], harness := (true, "a1f59dfd3d68e8b9b77917c960620c5836d2badb8dc081ba8cf18fac12a0fc4a"), looks := true }, kinds := [], alts := [], laidByText := true, laidKinds := [.data, .data, .data, .sentinel, .sentinel], laidTests := true, laidLooks := .later }
def TargetWeighsCardSaid : Prop := Claim7.holds Tryz.pinned (.plain (OpenSpec.ofChange targetWeighsSpec)) targetWeighsCard

/-- THE SECOND FORM's CARD OF 'schismalaw29.TargetReduces'. -/
def targetReducesUptoCard : Claim7 := { stood := { row := targetReducesUptoRow, standIns := [], harness := (true, "a1f59dfd3d68e8b9b77917c960620c5836d2badb8dc081ba8cf18fac12a0fc4a"), looks := true }, kinds := [], alts := [], laidByText := true, laidKinds := [.data, .data, .data, .sentinel, .sentinel], laidTests := true, laidLooks := .later }
def TargetReducesUptoCardSaid : Prop := Claim7.holds Tryz.pinned (.plain (OpenSpec.upto targetReducesSpec)) targetReducesUptoCard

/-- THE SECOND FORM's CARD OF 'schismalaw29.TargetClosed'. -/
def targetClosedUptoCard : Claim7 := { stood := { row := targetClosedUptoRow, standIns := [], harness := (true, "a1f59dfd3d68e8b9b77917c960620c5836d2badb8dc081ba8cf18fac12a0fc4a"), looks := true }, kinds := [], alts := [], laidByText := true, laidKinds := [.data, .data, .data, .sentinel, .sentinel], laidTests := true, laidLooks := .later }
def TargetClosedUptoCardSaid : Prop := Claim7.holds Tryz.pinned (.plain (OpenSpec.upto targetClosedSpec)) targetClosedUptoCard

/-- THE SECOND FORM's CARD OF 'schismalaw29.TargetKeeps'. -/
def targetKeepsUptoCard : Claim7 := { stood := { row := targetKeepsUptoRow, standIns := [], harness := (true, "a1f59dfd3d68e8b9b77917c960620c5836d2badb8dc081ba8cf18fac12a0fc4a"), looks := true }, kinds := [], alts := [], laidByText := true, laidKinds := [.data, .data, .data, .sentinel, .sentinel], laidTests := true, laidLooks := .later }
def TargetKeepsUptoCardSaid : Prop := Claim7.holds Tryz.pinned (.plain (OpenSpec.upto targetKeepsSpec)) targetKeepsUptoCard

/-- THE SECOND FORM's CARD OF 'schismalaw29.TargetOdd'. -/
def targetOddUptoCard : Claim7 := { stood := { row := targetOddUptoRow, standIns := [], harness := (true, "a1f59dfd3d68e8b9b77917c960620c5836d2badb8dc081ba8cf18fac12a0fc4a"), looks := true }, kinds := [], alts := [], laidByText := true, laidKinds := [.data, .data, .data, .sentinel, .sentinel], laidTests := true, laidLooks := .later }
def TargetOddUptoCardSaid : Prop := Claim7.holds Tryz.pinned (.plain (OpenSpec.upto targetOddSpec)) targetOddUptoCard

/-- THE SECOND FORM's CARD OF 'schismalaw29.TargetDiamonds'. -/
def targetDiamondsUptoCard : Claim7 := { stood := { row := targetDiamondsUptoRow, standIns := [], harness := (true, "a1f59dfd3d68e8b9b77917c960620c5836d2badb8dc081ba8cf18fac12a0fc4a"), looks := true }, kinds := [], alts := [], laidByText := true, laidKinds := [.data, .data, .data, .sentinel, .sentinel], laidTests := true, laidLooks := .later }
def TargetDiamondsUptoCardSaid : Prop := Claim7.holds Tryz.pinned (.plain (OpenSpec.upto targetDiamondsSpec)) targetDiamondsUptoCard

/-- THE SECOND FORM's CARD OF 'schismalaw29.TargetRefuses'. -/
def targetRefusesUptoCard : Claim7 := { stood := { row := targetRefusesUptoRow, standIns := [], harness := (true, "a1f59dfd3d68e8b9b77917c960620c5836d2badb8dc081ba8cf18fac12a0fc4a"), looks := true }, kinds := [], alts := [], laidByText := true, laidKinds := [.data, .data, .data, .sentinel, .sentinel], laidTests := true, laidLooks := .later }
def TargetRefusesUptoCardSaid : Prop := Claim7.holds Tryz.pinned (.plain (OpenSpec.upto targetRefusesSpec)) targetRefusesUptoCard

/-- THE SECOND FORM's CARD OF 'schismalaw29.TargetIntegers'. -/
def targetIntegersUptoCard : Claim7 := { stood := { row := targetIntegersUptoRow, standIns := [], harness := (true, "a1f59dfd3d68e8b9b77917c960620c5836d2badb8dc081ba8cf18fac12a0fc4a"), looks := true }, kinds := [], alts := [], laidByText := true, laidKinds := [.data, .data, .data, .sentinel, .sentinel], laidTests := true, laidLooks := .later }
def TargetIntegersUptoCardSaid : Prop := Claim7.holds Tryz.pinned (.plain (OpenSpec.upto targetIntegersSpec)) targetIntegersUptoCard

/-- THE SECOND FORM's CARD OF 'schismalaw29.TargetWeighs'. -/
def targetWeighsUptoCard : Claim7 := { stood := { row := targetWeighsUptoRow, standIns := [], harness := (true, "a1f59dfd3d68e8b9b77917c960620c5836d2badb8dc081ba8cf18fac12a0fc4a"), looks := true }, kinds := [], alts := [], laidByText := true, laidKinds := [.data, .data, .data, .sentinel, .sentinel], laidTests := true, laidLooks := .later }
def TargetWeighsUptoCardSaid : Prop := Claim7.holds Tryz.pinned (.plain (OpenSpec.upto targetWeighsSpec)) targetWeighsUptoCard
end Rows
end Go.Proofs.YtcfkclafpbaagaaGreatDoor
