/-
  NARROWER THAN 'FOR EVERY INPUT', by the rows' own cells (each row's printed sentence says how): TargetReduces: laid · TargetClosed: laid · TargetKeeps: laid · TargetOdd: laid · TargetDiamonds: laid · TargetRefuses: laid · TargetIntegers: laid · TargetWeighs: laid.
  DERIVED. THE GIVEN ROWS OF THIS SEAT. 8 by the template 'for every input the law returns true; each argument reads behind the call as it read before'; 0 by the template 'total and deterministic' (their statements: YtcfkclafpbaagaaGreatDoorTotals.lean).
  GIVEN WITH THE SEED: the statements are not yours to turn. If you find one false, say at which input.
  Laid BY PROGRAM, IN A SANDBOX (cutbox-rows.mjs): the forced cells as the released guide's own fill.sh prints them over the translation 5b23ce03bd50041a… (all of the seat's roots in one cut). By AI agents, Wed Nov 11 2026. No macro, syntax, notation, axiom, sorry.
-/
import Derived.Test.YtcfkclafpbaagaaGreatDoorChecked
import GoSem.Claim
import GoSem.ClaimJoined
import GoSem.ClaimMapViews
import Derived.JoinedTies
import Derived.KernelRfl
namespace Go.Proofs.YtcfkclafpbaagaaGreatDoor
/- THE CELL 'sum', in the pinned program and in every row, IS THE sha256 OF THE DUMP (.gsa) THAT YtcfkclafpbaagaaGreatDoorProg.lean LOADS. Nothing in Lean hashes anything: it is a label: what it is worth is what the hold of that sum in a sandbox is worth. -/
noncomputable def Tryz.pinned : Pinned := { name := "ytcfkclafpbaagaagreatdoor", sum := "5b23ce03bd50041a57166e6af3bea1b19662b12a44be38a9dbc842c3a1587bdc", checked := Tryz.checked }
namespace Rows
def none {H : Type} : Left H := { results := [], args := [] }

/- WHAT THE LISTED PACKAGE-LEVEL VARIABLES READ AS WHEN THE CALL BEGINS. Each datum BY PROGRAM (the guide's laid-datum.mjs) off the statement by which the dump's own 'gosem.cut.vars' lays the variable. In a bare row this is a premise. The card (YtcfkclafpbaagaaGreatDoorCards.lean) ties it to the program's text. -/
def laid_math_bits_deBruijn32tab {H : Type} : DataW H := .agg [.lit (.int .u8 0), .lit (.int .u8 1), .lit (.int .u8 28), .lit (.int .u8 2), .lit (.int .u8 29), .lit (.int .u8 14), .lit (.int .u8 24), .lit (.int .u8 3), .lit (.int .u8 30), .lit (.int .u8 22), .lit (.int .u8 20), .lit (.int .u8 15), .lit (.int .u8 25), .lit (.int .u8 17), .lit (.int .u8 4), .lit (.int .u8 8), .lit (.int .u8 31), .lit (.int .u8 27), .lit (.int .u8 13), .lit (.int .u8 23), .lit (.int .u8 21), .lit (.int .u8 19), .lit (.int .u8 16), .lit (.int .u8 7), .lit (.int .u8 26), .lit (.int .u8 12), .lit (.int .u8 18), .lit (.int .u8 6), .lit (.int .u8 11), .lit (.int .u8 5), .lit (.int .u8 10), .lit (.int .u8 9)]
def laid_math_bits_deBruijn64tab {H : Type} : DataW H := .agg [.lit (.int .u8 0), .lit (.int .u8 1), .lit (.int .u8 56), .lit (.int .u8 2), .lit (.int .u8 57), .lit (.int .u8 49), .lit (.int .u8 28), .lit (.int .u8 3), .lit (.int .u8 61), .lit (.int .u8 58), .lit (.int .u8 42), .lit (.int .u8 50), .lit (.int .u8 38), .lit (.int .u8 29), .lit (.int .u8 17), .lit (.int .u8 4), .lit (.int .u8 62), .lit (.int .u8 47), .lit (.int .u8 59), .lit (.int .u8 36), .lit (.int .u8 45), .lit (.int .u8 43), .lit (.int .u8 51), .lit (.int .u8 22), .lit (.int .u8 53), .lit (.int .u8 39), .lit (.int .u8 33), .lit (.int .u8 30), .lit (.int .u8 24), .lit (.int .u8 18), .lit (.int .u8 12), .lit (.int .u8 5), .lit (.int .u8 63), .lit (.int .u8 55), .lit (.int .u8 48), .lit (.int .u8 27), .lit (.int .u8 60), .lit (.int .u8 41), .lit (.int .u8 37), .lit (.int .u8 16), .lit (.int .u8 46), .lit (.int .u8 35), .lit (.int .u8 44), .lit (.int .u8 21), .lit (.int .u8 52), .lit (.int .u8 32), .lit (.int .u8 23), .lit (.int .u8 11), .lit (.int .u8 54), .lit (.int .u8 26), .lit (.int .u8 40), .lit (.int .u8 15), .lit (.int .u8 34), .lit (.int .u8 20), .lit (.int .u8 31), .lit (.int .u8 10), .lit (.int .u8 25), .lit (.int .u8 14), .lit (.int .u8 19), .lit (.int .u8 9), .lit (.int .u8 13), .lit (.int .u8 8), .lit (.int .u8 7), .lit (.int .u8 6)]
def laid_internal_strconv_uint64pow10 {H : Type} : DataW H := .agg [.lit (.int .u64 1), .lit (.int .u64 10), .lit (.int .u64 100), .lit (.int .u64 1000), .lit (.int .u64 10000), .lit (.int .u64 100000), .lit (.int .u64 1000000), .lit (.int .u64 10000000), .lit (.int .u64 100000000), .lit (.int .u64 1000000000), .lit (.int .u64 10000000000), .lit (.int .u64 100000000000), .lit (.int .u64 1000000000000), .lit (.int .u64 10000000000000), .lit (.int .u64 100000000000000), .lit (.int .u64 1000000000000000), .lit (.int .u64 10000000000000000), .lit (.int .u64 100000000000000000), .lit (.int .u64 1000000000000000000), .lit (.int .u64 10000000000000000000)]
def laid_strconv_ErrRange {H : Type} : DataW H := .iface "*errors.errorString" (.ptr (.agg [.lit (.string [118, 97, 108, 117, 101, 32, 111, 117, 116, 32, 111, 102, 32, 114, 97, 110, 103, 101])]))
def laid_strconv_ErrSyntax {H : Type} : DataW H := .iface "*errors.errorString" (.ptr (.agg [.lit (.string [105, 110, 118, 97, 108, 105, 100, 32, 115, 121, 110, 116, 97, 120])]))

/-- 'schismalaw29.TargetReduces': WHATEVER THE INPUT: true; the input reads as it did. -/
def targetReducesSpec : ChangeSpec := { name := "targetReduces", fn := fun _ => fun
  | [d1, d2] => { results := [.lit (.bool true)], args := [d1, d2] }
  | _ => none }
def targetReducesRow : OpenClaim := { program := "ytcfkclafpbaagaagreatdoor", sum := "5b23ce03bd50041a57166e6af3bea1b19662b12a44be38a9dbc842c3a1587bdc", func := "schisma/schismalaw29.TargetReduces", spec := "targetReduces", inPlace := ["internal/abi.NoEscape", "internal/bytealg.MakeNoZero"], unfollowed := true, recurses := true, named := ["internal/strconv.uint64pow10", "math/bits.deBruijn32tab", "math/bits.deBruijn64tab", "strconv.ErrSyntax", "strconv.ErrRange"], apart := false, laid := [("math/bits.deBruijn32tab", laid_math_bits_deBruijn32tab), ("math/bits.deBruijn64tab", laid_math_bits_deBruijn64tab), ("internal/strconv.uint64pow10", laid_internal_strconv_uint64pow10), ("strconv.ErrRange", laid_strconv_ErrRange), ("strconv.ErrSyntax", laid_strconv_ErrSyntax)] }
def TargetReducesSaid : Prop := targetReducesRow.holds Tryz.pinned (OpenSpec.ofChange targetReducesSpec)

/-- ITS FALSE NEIGHBOUR: 'it returns false'. Refute it at one input. -/
def targetReducesWrong : ChangeSpec := { name := "targetReduces", fn := fun _ => fun
  | [d1, d2] => { results := [.lit (.bool false)], args := [d1, d2] }
  | _ => none }
def TargetReducesWrongFalsely : Prop := targetReducesRow.holds Tryz.pinned (OpenSpec.ofChange targetReducesWrong)

/-- 'schismalaw29.TargetClosed': WHATEVER THE INPUT: true; the input reads as it did. -/
def targetClosedSpec : ChangeSpec := { name := "targetClosed", fn := fun _ => fun
  | [d1, d2, d3] => { results := [.lit (.bool true)], args := [d1, d2, d3] }
  | _ => none }
def targetClosedRow : OpenClaim := { program := "ytcfkclafpbaagaagreatdoor", sum := "5b23ce03bd50041a57166e6af3bea1b19662b12a44be38a9dbc842c3a1587bdc", func := "schisma/schismalaw29.TargetClosed", spec := "targetClosed", inPlace := ["internal/abi.NoEscape", "internal/bytealg.MakeNoZero"], unfollowed := true, recurses := true, named := ["internal/strconv.uint64pow10", "math/bits.deBruijn32tab", "math/bits.deBruijn64tab", "strconv.ErrSyntax", "strconv.ErrRange"], apart := false, laid := [("math/bits.deBruijn32tab", laid_math_bits_deBruijn32tab), ("math/bits.deBruijn64tab", laid_math_bits_deBruijn64tab), ("internal/strconv.uint64pow10", laid_internal_strconv_uint64pow10), ("strconv.ErrRange", laid_strconv_ErrRange), ("strconv.ErrSyntax", laid_strconv_ErrSyntax)] }
def TargetClosedSaid : Prop := targetClosedRow.holds Tryz.pinned (OpenSpec.ofChange targetClosedSpec)

/-- ITS FALSE NEIGHBOUR: 'it returns false'. Refute it at one input. -/
def targetClosedWrong : ChangeSpec := { name := "targetClosed", fn := fun _ => fun
  | [d1, d2, d3] => { results := [.lit (.bool false)], args := [d1, d2, d3] }
  | _ => none }
def TargetClosedWrongFalsely : Prop := targetClosedRow.holds Tryz.pinned (OpenSpec.ofChange targetClosedWrong)

/-- 'schismalaw29.TargetKeeps': WHATEVER THE INPUT: true; the input reads as it did. -/
def targetKeepsSpec : ChangeSpec := { name := "targetKeeps", fn := fun _ => fun
  | [d1, d2] => { results := [.lit (.bool true)], args := [d1, d2] }
  | _ => none }
def targetKeepsRow : OpenClaim := { program := "ytcfkclafpbaagaagreatdoor", sum := "5b23ce03bd50041a57166e6af3bea1b19662b12a44be38a9dbc842c3a1587bdc", func := "schisma/schismalaw29.TargetKeeps", spec := "targetKeeps", inPlace := ["internal/abi.NoEscape", "internal/bytealg.MakeNoZero"], unfollowed := true, recurses := true, named := ["internal/strconv.uint64pow10", "math/bits.deBruijn32tab", "math/bits.deBruijn64tab", "strconv.ErrSyntax", "strconv.ErrRange"], apart := false, laid := [("math/bits.deBruijn32tab", laid_math_bits_deBruijn32tab), ("math/bits.deBruijn64tab", laid_math_bits_deBruijn64tab), ("internal/strconv.uint64pow10", laid_internal_strconv_uint64pow10), ("strconv.ErrRange", laid_strconv_ErrRange), ("strconv.ErrSyntax", laid_strconv_ErrSyntax)] }
def TargetKeepsSaid : Prop := targetKeepsRow.holds Tryz.pinned (OpenSpec.ofChange targetKeepsSpec)

/-- ITS FALSE NEIGHBOUR: 'it returns false'. Refute it at one input. -/
def targetKeepsWrong : ChangeSpec := { name := "targetKeeps", fn := fun _ => fun
  | [d1, d2] => { results := [.lit (.bool false)], args := [d1, d2] }
  | _ => none }
def TargetKeepsWrongFalsely : Prop := targetKeepsRow.holds Tryz.pinned (OpenSpec.ofChange targetKeepsWrong)

/-- 'schismalaw29.TargetOdd': WHATEVER THE INPUT: true; the input reads as it did. -/
def targetOddSpec : ChangeSpec := { name := "targetOdd", fn := fun _ => fun
  | [d1, d2] => { results := [.lit (.bool true)], args := [d1, d2] }
  | _ => none }
def targetOddRow : OpenClaim := { program := "ytcfkclafpbaagaagreatdoor", sum := "5b23ce03bd50041a57166e6af3bea1b19662b12a44be38a9dbc842c3a1587bdc", func := "schisma/schismalaw29.TargetOdd", spec := "targetOdd", inPlace := ["internal/abi.NoEscape", "internal/bytealg.MakeNoZero"], unfollowed := true, recurses := true, named := ["internal/strconv.uint64pow10", "math/bits.deBruijn32tab", "math/bits.deBruijn64tab", "strconv.ErrSyntax", "strconv.ErrRange"], apart := false, laid := [("math/bits.deBruijn32tab", laid_math_bits_deBruijn32tab), ("math/bits.deBruijn64tab", laid_math_bits_deBruijn64tab), ("internal/strconv.uint64pow10", laid_internal_strconv_uint64pow10), ("strconv.ErrRange", laid_strconv_ErrRange), ("strconv.ErrSyntax", laid_strconv_ErrSyntax)] }
def TargetOddSaid : Prop := targetOddRow.holds Tryz.pinned (OpenSpec.ofChange targetOddSpec)

/-- ITS FALSE NEIGHBOUR: 'it returns false'. Refute it at one input. -/
def targetOddWrong : ChangeSpec := { name := "targetOdd", fn := fun _ => fun
  | [d1, d2] => { results := [.lit (.bool false)], args := [d1, d2] }
  | _ => none }
def TargetOddWrongFalsely : Prop := targetOddRow.holds Tryz.pinned (OpenSpec.ofChange targetOddWrong)

/-- 'schismalaw29.TargetDiamonds': WHATEVER THE INPUT: true; the input reads as it did. -/
def targetDiamondsSpec : ChangeSpec := { name := "targetDiamonds", fn := fun _ => fun
  | [d1, d2] => { results := [.lit (.bool true)], args := [d1, d2] }
  | _ => none }
def targetDiamondsRow : OpenClaim := { program := "ytcfkclafpbaagaagreatdoor", sum := "5b23ce03bd50041a57166e6af3bea1b19662b12a44be38a9dbc842c3a1587bdc", func := "schisma/schismalaw29.TargetDiamonds", spec := "targetDiamonds", inPlace := ["internal/abi.NoEscape", "internal/bytealg.MakeNoZero"], unfollowed := true, recurses := true, named := ["internal/strconv.uint64pow10", "math/bits.deBruijn32tab", "math/bits.deBruijn64tab", "strconv.ErrSyntax", "strconv.ErrRange"], apart := false, laid := [("math/bits.deBruijn32tab", laid_math_bits_deBruijn32tab), ("math/bits.deBruijn64tab", laid_math_bits_deBruijn64tab), ("internal/strconv.uint64pow10", laid_internal_strconv_uint64pow10), ("strconv.ErrRange", laid_strconv_ErrRange), ("strconv.ErrSyntax", laid_strconv_ErrSyntax)] }
def TargetDiamondsSaid : Prop := targetDiamondsRow.holds Tryz.pinned (OpenSpec.ofChange targetDiamondsSpec)

/-- ITS FALSE NEIGHBOUR: 'it returns false'. Refute it at one input. -/
def targetDiamondsWrong : ChangeSpec := { name := "targetDiamonds", fn := fun _ => fun
  | [d1, d2] => { results := [.lit (.bool false)], args := [d1, d2] }
  | _ => none }
def TargetDiamondsWrongFalsely : Prop := targetDiamondsRow.holds Tryz.pinned (OpenSpec.ofChange targetDiamondsWrong)

/-- 'schismalaw29.TargetRefuses': WHATEVER THE INPUT: true; the input reads as it did. -/
def targetRefusesSpec : ChangeSpec := { name := "targetRefuses", fn := fun _ => fun
  | [d1, d2] => { results := [.lit (.bool true)], args := [d1, d2] }
  | _ => none }
def targetRefusesRow : OpenClaim := { program := "ytcfkclafpbaagaagreatdoor", sum := "5b23ce03bd50041a57166e6af3bea1b19662b12a44be38a9dbc842c3a1587bdc", func := "schisma/schismalaw29.TargetRefuses", spec := "targetRefuses", inPlace := ["internal/abi.NoEscape", "internal/bytealg.MakeNoZero"], unfollowed := true, recurses := true, named := ["internal/strconv.uint64pow10", "math/bits.deBruijn32tab", "math/bits.deBruijn64tab", "strconv.ErrSyntax", "strconv.ErrRange"], apart := false, laid := [("math/bits.deBruijn32tab", laid_math_bits_deBruijn32tab), ("math/bits.deBruijn64tab", laid_math_bits_deBruijn64tab), ("internal/strconv.uint64pow10", laid_internal_strconv_uint64pow10), ("strconv.ErrRange", laid_strconv_ErrRange), ("strconv.ErrSyntax", laid_strconv_ErrSyntax)] }
def TargetRefusesSaid : Prop := targetRefusesRow.holds Tryz.pinned (OpenSpec.ofChange targetRefusesSpec)

/-- ITS FALSE NEIGHBOUR: 'it returns false'. Refute it at one input. -/
def targetRefusesWrong : ChangeSpec := { name := "targetRefuses", fn := fun _ => fun
  | [d1, d2] => { results := [.lit (.bool false)], args := [d1, d2] }
  | _ => none }
def TargetRefusesWrongFalsely : Prop := targetRefusesRow.holds Tryz.pinned (OpenSpec.ofChange targetRefusesWrong)

/-- 'schismalaw29.TargetIntegers': WHATEVER THE INPUT: true; the input reads as it did. -/
def targetIntegersSpec : ChangeSpec := { name := "targetIntegers", fn := fun _ => fun
  | [d1, d2] => { results := [.lit (.bool true)], args := [d1, d2] }
  | _ => none }
def targetIntegersRow : OpenClaim := { program := "ytcfkclafpbaagaagreatdoor", sum := "5b23ce03bd50041a57166e6af3bea1b19662b12a44be38a9dbc842c3a1587bdc", func := "schisma/schismalaw29.TargetIntegers", spec := "targetIntegers", inPlace := ["internal/abi.NoEscape", "internal/bytealg.MakeNoZero"], unfollowed := true, recurses := true, named := ["internal/strconv.uint64pow10", "math/bits.deBruijn32tab", "math/bits.deBruijn64tab", "strconv.ErrSyntax", "strconv.ErrRange"], apart := false, laid := [("math/bits.deBruijn32tab", laid_math_bits_deBruijn32tab), ("math/bits.deBruijn64tab", laid_math_bits_deBruijn64tab), ("internal/strconv.uint64pow10", laid_internal_strconv_uint64pow10), ("strconv.ErrRange", laid_strconv_ErrRange), ("strconv.ErrSyntax", laid_strconv_ErrSyntax)] }
def TargetIntegersSaid : Prop := targetIntegersRow.holds Tryz.pinned (OpenSpec.ofChange targetIntegersSpec)

/-- ITS FALSE NEIGHBOUR: 'it returns false'. Refute it at one input. -/
def targetIntegersWrong : ChangeSpec := { name := "targetIntegers", fn := fun _ => fun
  | [d1, d2] => { results := [.lit (.bool false)], args := [d1, d2] }
  | _ => none }
def TargetIntegersWrongFalsely : Prop := targetIntegersRow.holds Tryz.pinned (OpenSpec.ofChange targetIntegersWrong)

/-- 'schismalaw29.TargetWeighs': WHATEVER THE INPUT: true; the input reads as it did. -/
def targetWeighsSpec : ChangeSpec := { name := "targetWeighs", fn := fun _ => fun
  | [d1, d2, d3] => { results := [.lit (.bool true)], args := [d1, d2, d3] }
  | _ => none }
def targetWeighsRow : OpenClaim := { program := "ytcfkclafpbaagaagreatdoor", sum := "5b23ce03bd50041a57166e6af3bea1b19662b12a44be38a9dbc842c3a1587bdc", func := "schisma/schismalaw29.TargetWeighs", spec := "targetWeighs", inPlace := ["internal/abi.NoEscape", "internal/bytealg.MakeNoZero"], unfollowed := true, recurses := true, named := ["internal/strconv.uint64pow10", "math/bits.deBruijn32tab", "math/bits.deBruijn64tab", "strconv.ErrSyntax", "strconv.ErrRange"], apart := false, laid := [("math/bits.deBruijn32tab", laid_math_bits_deBruijn32tab), ("math/bits.deBruijn64tab", laid_math_bits_deBruijn64tab), ("internal/strconv.uint64pow10", laid_internal_strconv_uint64pow10), ("strconv.ErrRange", laid_strconv_ErrRange), ("strconv.ErrSyntax", laid_strconv_ErrSyntax)] }
def TargetWeighsSaid : Prop := targetWeighsRow.holds Tryz.pinned (OpenSpec.ofChange targetWeighsSpec)

/-- ITS FALSE NEIGHBOUR: 'it returns false'. Refute it at one input. -/
def targetWeighsWrong : ChangeSpec := { name := "targetWeighs", fn := fun _ => fun
  | [d1, d2, d3] => { results := [.lit (.bool false)], args := [d1, d2, d3] }
  | _ => none }
def TargetWeighsWrongFalsely : Prop := targetWeighsRow.holds Tryz.pinned (OpenSpec.ofChange targetWeighsWrong)

/- THE SECOND FORM. 'bulk': how many values and letters a reading holds, each counted each time it is reached (what is shared counts as often as it is met; a slice's spare places count too). A statement '..UptoSaid' is the law's where the arguments, and the package variables that the reading takes, are together of bulk at most 1048576: NARROWER than '..Said'. Prove '..Said' where nothing that the law and all that it calls make is longer than what came in: it says more and counts as full. Else prove '..UptoSaid'. A law counts once. -/
mutual
def uptoBulk {H : Type} : DataW H → Nat
  | .lit (.string bytes) => bytes.length + 1
  | .lit _ => 1
  | .nil => 1
  | .ptr d => uptoBulk d + 1
  | .slice elems spare => uptoBulkAll elems + uptoBulkAll spare + 1
  | .agg parts => uptoBulkAll parts + 1
  | .iface _ d => uptoBulk d + 1
  | .map entries => uptoBulkEntries entries + 1
  | .held _ => 1
def uptoBulkAll {H : Type} : List (DataW H) → Nat
  | [] => 0
  | d :: r => uptoBulk d + uptoBulkAll r
def uptoBulkEntries {H : Type} : List (Lit × DataW H) → Nat
  | [] => 0
  | x :: r => uptoBulkEntry x + uptoBulkEntries r
def uptoBulkEntry {H : Type} : Lit × DataW H → Nat
  | (.string bytes, d) => bytes.length + uptoBulk d + 1
  | (_, d) => uptoBulk d + 1
 end
def uptoSmall : (H : Type) → List (DataW H) → Bool := fun _ ds => decide (uptoBulkAll ds ≤ 1048576)
def OpenSpec.upto (s : _root_.Go.ChangeSpec) : _root_.Go.OpenSpec := { _root_.Go.OpenSpec.ofChange s with cond := some uptoSmall }

/-- 'schismalaw29.TargetReduces', WHERE WHAT IT READS IS OF BULK AT MOST 1048576: true; the input reads as it did. -/
def targetReducesUptoRow : OpenClaim := { program := "ytcfkclafpbaagaagreatdoor", sum := "5b23ce03bd50041a57166e6af3bea1b19662b12a44be38a9dbc842c3a1587bdc", func := "schisma/schismalaw29.TargetReduces", spec := "targetReduces", inPlace := ["internal/abi.NoEscape", "internal/bytealg.MakeNoZero"], unfollowed := true, recurses := true, named := ["internal/strconv.uint64pow10", "math/bits.deBruijn32tab", "math/bits.deBruijn64tab", "strconv.ErrSyntax", "strconv.ErrRange"], apart := false, laid := [("math/bits.deBruijn32tab", laid_math_bits_deBruijn32tab), ("math/bits.deBruijn64tab", laid_math_bits_deBruijn64tab), ("internal/strconv.uint64pow10", laid_internal_strconv_uint64pow10), ("strconv.ErrRange", laid_strconv_ErrRange), ("strconv.ErrSyntax", laid_strconv_ErrSyntax)], narrowed := true }
def TargetReducesUptoSaid : Prop := targetReducesUptoRow.holds Tryz.pinned (OpenSpec.upto targetReducesSpec)

/-- 'schismalaw29.TargetClosed', WHERE WHAT IT READS IS OF BULK AT MOST 1048576: true; the input reads as it did. -/
def targetClosedUptoRow : OpenClaim := { program := "ytcfkclafpbaagaagreatdoor", sum := "5b23ce03bd50041a57166e6af3bea1b19662b12a44be38a9dbc842c3a1587bdc", func := "schisma/schismalaw29.TargetClosed", spec := "targetClosed", inPlace := ["internal/abi.NoEscape", "internal/bytealg.MakeNoZero"], unfollowed := true, recurses := true, named := ["internal/strconv.uint64pow10", "math/bits.deBruijn32tab", "math/bits.deBruijn64tab", "strconv.ErrSyntax", "strconv.ErrRange"], apart := false, laid := [("math/bits.deBruijn32tab", laid_math_bits_deBruijn32tab), ("math/bits.deBruijn64tab", laid_math_bits_deBruijn64tab), ("internal/strconv.uint64pow10", laid_internal_strconv_uint64pow10), ("strconv.ErrRange", laid_strconv_ErrRange), ("strconv.ErrSyntax", laid_strconv_ErrSyntax)], narrowed := true }
def TargetClosedUptoSaid : Prop := targetClosedUptoRow.holds Tryz.pinned (OpenSpec.upto targetClosedSpec)

/-- 'schismalaw29.TargetKeeps', WHERE WHAT IT READS IS OF BULK AT MOST 1048576: true; the input reads as it did. -/
def targetKeepsUptoRow : OpenClaim := { program := "ytcfkclafpbaagaagreatdoor", sum := "5b23ce03bd50041a57166e6af3bea1b19662b12a44be38a9dbc842c3a1587bdc", func := "schisma/schismalaw29.TargetKeeps", spec := "targetKeeps", inPlace := ["internal/abi.NoEscape", "internal/bytealg.MakeNoZero"], unfollowed := true, recurses := true, named := ["internal/strconv.uint64pow10", "math/bits.deBruijn32tab", "math/bits.deBruijn64tab", "strconv.ErrSyntax", "strconv.ErrRange"], apart := false, laid := [("math/bits.deBruijn32tab", laid_math_bits_deBruijn32tab), ("math/bits.deBruijn64tab", laid_math_bits_deBruijn64tab), ("internal/strconv.uint64pow10", laid_internal_strconv_uint64pow10), ("strconv.ErrRange", laid_strconv_ErrRange), ("strconv.ErrSyntax", laid_strconv_ErrSyntax)], narrowed := true }
def TargetKeepsUptoSaid : Prop := targetKeepsUptoRow.holds Tryz.pinned (OpenSpec.upto targetKeepsSpec)

/-- 'schismalaw29.TargetOdd', WHERE WHAT IT READS IS OF BULK AT MOST 1048576: true; the input reads as it did. -/
def targetOddUptoRow : OpenClaim := { program := "ytcfkclafpbaagaagreatdoor", sum := "5b23ce03bd50041a57166e6af3bea1b19662b12a44be38a9dbc842c3a1587bdc", func := "schisma/schismalaw29.TargetOdd", spec := "targetOdd", inPlace := ["internal/abi.NoEscape", "internal/bytealg.MakeNoZero"], unfollowed := true, recurses := true, named := ["internal/strconv.uint64pow10", "math/bits.deBruijn32tab", "math/bits.deBruijn64tab", "strconv.ErrSyntax", "strconv.ErrRange"], apart := false, laid := [("math/bits.deBruijn32tab", laid_math_bits_deBruijn32tab), ("math/bits.deBruijn64tab", laid_math_bits_deBruijn64tab), ("internal/strconv.uint64pow10", laid_internal_strconv_uint64pow10), ("strconv.ErrRange", laid_strconv_ErrRange), ("strconv.ErrSyntax", laid_strconv_ErrSyntax)], narrowed := true }
def TargetOddUptoSaid : Prop := targetOddUptoRow.holds Tryz.pinned (OpenSpec.upto targetOddSpec)

/-- 'schismalaw29.TargetDiamonds', WHERE WHAT IT READS IS OF BULK AT MOST 1048576: true; the input reads as it did. -/
def targetDiamondsUptoRow : OpenClaim := { program := "ytcfkclafpbaagaagreatdoor", sum := "5b23ce03bd50041a57166e6af3bea1b19662b12a44be38a9dbc842c3a1587bdc", func := "schisma/schismalaw29.TargetDiamonds", spec := "targetDiamonds", inPlace := ["internal/abi.NoEscape", "internal/bytealg.MakeNoZero"], unfollowed := true, recurses := true, named := ["internal/strconv.uint64pow10", "math/bits.deBruijn32tab", "math/bits.deBruijn64tab", "strconv.ErrSyntax", "strconv.ErrRange"], apart := false, laid := [("math/bits.deBruijn32tab", laid_math_bits_deBruijn32tab), ("math/bits.deBruijn64tab", laid_math_bits_deBruijn64tab), ("internal/strconv.uint64pow10", laid_internal_strconv_uint64pow10), ("strconv.ErrRange", laid_strconv_ErrRange), ("strconv.ErrSyntax", laid_strconv_ErrSyntax)], narrowed := true }
def TargetDiamondsUptoSaid : Prop := targetDiamondsUptoRow.holds Tryz.pinned (OpenSpec.upto targetDiamondsSpec)

/-- 'schismalaw29.TargetRefuses', WHERE WHAT IT READS IS OF BULK AT MOST 1048576: true; the input reads as it did. -/
def targetRefusesUptoRow : OpenClaim := { program := "ytcfkclafpbaagaagreatdoor", sum := "5b23ce03bd50041a57166e6af3bea1b19662b12a44be38a9dbc842c3a1587bdc", func := "schisma/schismalaw29.TargetRefuses", spec := "targetRefuses", inPlace := ["internal/abi.NoEscape", "internal/bytealg.MakeNoZero"], unfollowed := true, recurses := true, named := ["internal/strconv.uint64pow10", "math/bits.deBruijn32tab", "math/bits.deBruijn64tab", "strconv.ErrSyntax", "strconv.ErrRange"], apart := false, laid := [("math/bits.deBruijn32tab", laid_math_bits_deBruijn32tab), ("math/bits.deBruijn64tab", laid_math_bits_deBruijn64tab), ("internal/strconv.uint64pow10", laid_internal_strconv_uint64pow10), ("strconv.ErrRange", laid_strconv_ErrRange), ("strconv.ErrSyntax", laid_strconv_ErrSyntax)], narrowed := true }
def TargetRefusesUptoSaid : Prop := targetRefusesUptoRow.holds Tryz.pinned (OpenSpec.upto targetRefusesSpec)

/-- 'schismalaw29.TargetIntegers', WHERE WHAT IT READS IS OF BULK AT MOST 1048576: true; the input reads as it did. -/
def targetIntegersUptoRow : OpenClaim := { program := "ytcfkclafpbaagaagreatdoor", sum := "5b23ce03bd50041a57166e6af3bea1b19662b12a44be38a9dbc842c3a1587bdc", func := "schisma/schismalaw29.TargetIntegers", spec := "targetIntegers", inPlace := ["internal/abi.NoEscape", "internal/bytealg.MakeNoZero"], unfollowed := true, recurses := true, named := ["internal/strconv.uint64pow10", "math/bits.deBruijn32tab", "math/bits.deBruijn64tab", "strconv.ErrSyntax", "strconv.ErrRange"], apart := false, laid := [("math/bits.deBruijn32tab", laid_math_bits_deBruijn32tab), ("math/bits.deBruijn64tab", laid_math_bits_deBruijn64tab), ("internal/strconv.uint64pow10", laid_internal_strconv_uint64pow10), ("strconv.ErrRange", laid_strconv_ErrRange), ("strconv.ErrSyntax", laid_strconv_ErrSyntax)], narrowed := true }
def TargetIntegersUptoSaid : Prop := targetIntegersUptoRow.holds Tryz.pinned (OpenSpec.upto targetIntegersSpec)

/-- 'schismalaw29.TargetWeighs', WHERE WHAT IT READS IS OF BULK AT MOST 1048576: true; the input reads as it did. -/
def targetWeighsUptoRow : OpenClaim := { program := "ytcfkclafpbaagaagreatdoor", sum := "5b23ce03bd50041a57166e6af3bea1b19662b12a44be38a9dbc842c3a1587bdc", func := "schisma/schismalaw29.TargetWeighs", spec := "targetWeighs", inPlace := ["internal/abi.NoEscape", "internal/bytealg.MakeNoZero"], unfollowed := true, recurses := true, named := ["internal/strconv.uint64pow10", "math/bits.deBruijn32tab", "math/bits.deBruijn64tab", "strconv.ErrSyntax", "strconv.ErrRange"], apart := false, laid := [("math/bits.deBruijn32tab", laid_math_bits_deBruijn32tab), ("math/bits.deBruijn64tab", laid_math_bits_deBruijn64tab), ("internal/strconv.uint64pow10", laid_internal_strconv_uint64pow10), ("strconv.ErrRange", laid_strconv_ErrRange), ("strconv.ErrSyntax", laid_strconv_ErrSyntax)], narrowed := true }
def TargetWeighsUptoSaid : Prop := targetWeighsUptoRow.holds Tryz.pinned (OpenSpec.upto targetWeighsSpec)

end Rows
end Go.Proofs.YtcfkclafpbaagaaGreatDoor
