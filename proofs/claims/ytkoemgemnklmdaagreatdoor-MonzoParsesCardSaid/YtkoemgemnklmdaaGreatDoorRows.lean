/-
  NARROWER THAN 'FOR EVERY INPUT', by the rows' own cells (each row's printed sentence says how): MonzoChecks: laid · MonzoOf: laid · MonzoFractions: laid · MonzoLong: laid · MonzoAdds: laid · MonzoLaws: laid · MonzoOrders: laid · MonzoErrors: laid · MonzoHeights: laid · MonzoParses: laid · MonzoReads: laid.
  DERIVED. THE GIVEN ROWS OF THIS SEAT. 11 by the template 'for every input the law returns true; each argument reads behind the call as it read before'; 0 by the template 'total and deterministic' (their statements: YtkoemgemnklmdaaGreatDoorTotals.lean).
  GIVEN WITH THE SEED: the statements are not yours to turn. If you find one false, say at which input.
  Laid BY PROGRAM, IN A SANDBOX (cutbox-rows.mjs): the forced cells as the released guide's own fill.sh prints them over the translation 7e82ec54b888a9cc… (all of the seat's roots in one cut). By AI agents, Wed Nov 11 2026. No macro, syntax, notation, axiom, sorry.
-/
import Derived.Test.YtkoemgemnklmdaaGreatDoorChecked
import GoSem.PinnedTables
import GoSem.Claim
import GoSem.ClaimJoined
import GoSem.ClaimMapViews
import Derived.JoinedTies
import Derived.KernelRfl
namespace Go.Proofs.YtkoemgemnklmdaaGreatDoor
/- THE CELL 'sum', in the pinned program and in every row, IS THE sha256 OF THE DUMP (.gsa) THAT YtkoemgemnklmdaaGreatDoorProg.lean LOADS. Nothing in Lean hashes anything: it is a label: what it is worth is what the hold of that sum in a sandbox is worth. -/
noncomputable def Tryz.pinned : Pinned := { name := "ytkoemgemnklmdaagreatdoor", sum := "7e82ec54b888a9ccc0daa0c70ab41081c2b056e2ed73be440d030c6a87abf2c4", checked := Tryz.checked }
namespace Rows
def none {H : Type} : Left H := { results := [], args := [] }

/- WHAT THE LISTED PACKAGE-LEVEL VARIABLES READ AS WHEN THE CALL BEGINS. Each datum BY PROGRAM (the guide's laid-datum.mjs) off the statement by which the dump's own 'gosem.cut.vars' lays the variable. In a bare row this is a premise. The card (YtkoemgemnklmdaaGreatDoorCards.lean) ties it to the program's text. -/
def laid_math_bits_deBruijn32tab {H : Type} : DataW H := .agg [.lit (.int .u8 0), .lit (.int .u8 1), .lit (.int .u8 28), .lit (.int .u8 2), .lit (.int .u8 29), .lit (.int .u8 14), .lit (.int .u8 24), .lit (.int .u8 3), .lit (.int .u8 30), .lit (.int .u8 22), .lit (.int .u8 20), .lit (.int .u8 15), .lit (.int .u8 25), .lit (.int .u8 17), .lit (.int .u8 4), .lit (.int .u8 8), .lit (.int .u8 31), .lit (.int .u8 27), .lit (.int .u8 13), .lit (.int .u8 23), .lit (.int .u8 21), .lit (.int .u8 19), .lit (.int .u8 16), .lit (.int .u8 7), .lit (.int .u8 26), .lit (.int .u8 12), .lit (.int .u8 18), .lit (.int .u8 6), .lit (.int .u8 11), .lit (.int .u8 5), .lit (.int .u8 10), .lit (.int .u8 9)]
def laid_math_bits_deBruijn64tab {H : Type} : DataW H := .agg [.lit (.int .u8 0), .lit (.int .u8 1), .lit (.int .u8 56), .lit (.int .u8 2), .lit (.int .u8 57), .lit (.int .u8 49), .lit (.int .u8 28), .lit (.int .u8 3), .lit (.int .u8 61), .lit (.int .u8 58), .lit (.int .u8 42), .lit (.int .u8 50), .lit (.int .u8 38), .lit (.int .u8 29), .lit (.int .u8 17), .lit (.int .u8 4), .lit (.int .u8 62), .lit (.int .u8 47), .lit (.int .u8 59), .lit (.int .u8 36), .lit (.int .u8 45), .lit (.int .u8 43), .lit (.int .u8 51), .lit (.int .u8 22), .lit (.int .u8 53), .lit (.int .u8 39), .lit (.int .u8 33), .lit (.int .u8 30), .lit (.int .u8 24), .lit (.int .u8 18), .lit (.int .u8 12), .lit (.int .u8 5), .lit (.int .u8 63), .lit (.int .u8 55), .lit (.int .u8 48), .lit (.int .u8 27), .lit (.int .u8 60), .lit (.int .u8 41), .lit (.int .u8 37), .lit (.int .u8 16), .lit (.int .u8 46), .lit (.int .u8 35), .lit (.int .u8 44), .lit (.int .u8 21), .lit (.int .u8 52), .lit (.int .u8 32), .lit (.int .u8 23), .lit (.int .u8 11), .lit (.int .u8 54), .lit (.int .u8 26), .lit (.int .u8 40), .lit (.int .u8 15), .lit (.int .u8 34), .lit (.int .u8 20), .lit (.int .u8 31), .lit (.int .u8 10), .lit (.int .u8 25), .lit (.int .u8 14), .lit (.int .u8 19), .lit (.int .u8 9), .lit (.int .u8 13), .lit (.int .u8 8), .lit (.int .u8 7), .lit (.int .u8 6)]
def laid_internal_strconv_uint64pow10 {H : Type} : DataW H := .agg [.lit (.int .u64 1), .lit (.int .u64 10), .lit (.int .u64 100), .lit (.int .u64 1000), .lit (.int .u64 10000), .lit (.int .u64 100000), .lit (.int .u64 1000000), .lit (.int .u64 10000000), .lit (.int .u64 100000000), .lit (.int .u64 1000000000), .lit (.int .u64 10000000000), .lit (.int .u64 100000000000), .lit (.int .u64 1000000000000), .lit (.int .u64 10000000000000), .lit (.int .u64 100000000000000), .lit (.int .u64 1000000000000000), .lit (.int .u64 10000000000000000), .lit (.int .u64 100000000000000000), .lit (.int .u64 1000000000000000000), .lit (.int .u64 10000000000000000000)]
def laid_strconv_ErrRange {H : Type} : DataW H := .iface "*errors.errorString" (.ptr (.agg [.lit (.string [118, 97, 108, 117, 101, 32, 111, 117, 116, 32, 111, 102, 32, 114, 97, 110, 103, 101])]))
def laid_strconv_ErrSyntax {H : Type} : DataW H := .iface "*errors.errorString" (.ptr (.agg [.lit (.string [105, 110, 118, 97, 108, 105, 100, 32, 115, 121, 110, 116, 97, 120])]))
def laid_unicode_utf8_acceptRanges {H : Type} : DataW H := .agg [.agg [.lit (.int .u8 128), .lit (.int .u8 191)], .agg [.lit (.int .u8 160), .lit (.int .u8 191)], .agg [.lit (.int .u8 128), .lit (.int .u8 159)], .agg [.lit (.int .u8 144), .lit (.int .u8 191)], .agg [.lit (.int .u8 128), .lit (.int .u8 143)], .agg [.lit (.int .u8 0), .lit (.int .u8 0)], .agg [.lit (.int .u8 0), .lit (.int .u8 0)], .agg [.lit (.int .u8 0), .lit (.int .u8 0)], .agg [.lit (.int .u8 0), .lit (.int .u8 0)], .agg [.lit (.int .u8 0), .lit (.int .u8 0)], .agg [.lit (.int .u8 0), .lit (.int .u8 0)], .agg [.lit (.int .u8 0), .lit (.int .u8 0)], .agg [.lit (.int .u8 0), .lit (.int .u8 0)], .agg [.lit (.int .u8 0), .lit (.int .u8 0)], .agg [.lit (.int .u8 0), .lit (.int .u8 0)], .agg [.lit (.int .u8 0), .lit (.int .u8 0)]]
/-- One of Go's own tables, pinned by name: the form's constant. -/
def laid_unicode_utf8_first : DataW Unit := Go.Pinned.utf8First

/-- 'schismalaw12.MonzoChecks': WHATEVER THE INPUT: true; the input reads as it did. -/
def monzoChecksSpec : ChangeSpec := { name := "monzoChecks", fn := fun _ => fun
  | [d1, d2, d3] => { results := [.lit (.bool true)], args := [d1, d2, d3] }
  | _ => none }
def monzoChecksRow : OpenClaim := { program := "ytkoemgemnklmdaagreatdoor", sum := "7e82ec54b888a9ccc0daa0c70ab41081c2b056e2ed73be440d030c6a87abf2c4", func := "schisma/schismalaw12.MonzoChecks", spec := "monzoChecks", inPlace := ["internal/abi.NoEscape", "internal/bytealg.MakeNoZero"], unfollowed := true, recurses := true, named := ["strconv.ErrSyntax", "strconv.ErrRange", "internal/strconv.uint64pow10", "math/bits.deBruijn32tab", "math/bits.deBruijn64tab"], apart := false, laid := [("math/bits.deBruijn32tab", laid_math_bits_deBruijn32tab), ("math/bits.deBruijn64tab", laid_math_bits_deBruijn64tab), ("internal/strconv.uint64pow10", laid_internal_strconv_uint64pow10), ("strconv.ErrRange", laid_strconv_ErrRange), ("strconv.ErrSyntax", laid_strconv_ErrSyntax)] }
def MonzoChecksSaid : Prop := monzoChecksRow.holds Tryz.pinned (OpenSpec.ofChange monzoChecksSpec)

/-- ITS FALSE NEIGHBOUR: 'it returns false'. Refute it at one input. -/
def monzoChecksWrong : ChangeSpec := { name := "monzoChecks", fn := fun _ => fun
  | [d1, d2, d3] => { results := [.lit (.bool false)], args := [d1, d2, d3] }
  | _ => none }
def MonzoChecksWrongFalsely : Prop := monzoChecksRow.holds Tryz.pinned (OpenSpec.ofChange monzoChecksWrong)

/-- 'schismalaw12.MonzoOf': WHATEVER THE INPUT: true; the input reads as it did. -/
def monzoOfSpec : ChangeSpec := { name := "monzoOf", fn := fun _ => fun
  | [d1, d2] => { results := [.lit (.bool true)], args := [d1, d2] }
  | _ => none }
def monzoOfRow : OpenClaim := { program := "ytkoemgemnklmdaagreatdoor", sum := "7e82ec54b888a9ccc0daa0c70ab41081c2b056e2ed73be440d030c6a87abf2c4", func := "schisma/schismalaw12.MonzoOf", spec := "monzoOf", inPlace := ["internal/abi.NoEscape", "internal/bytealg.MakeNoZero"], unfollowed := true, recurses := true, named := ["strconv.ErrSyntax", "strconv.ErrRange", "internal/strconv.uint64pow10", "math/bits.deBruijn32tab", "math/bits.deBruijn64tab"], apart := false, laid := [("math/bits.deBruijn32tab", laid_math_bits_deBruijn32tab), ("math/bits.deBruijn64tab", laid_math_bits_deBruijn64tab), ("internal/strconv.uint64pow10", laid_internal_strconv_uint64pow10), ("strconv.ErrRange", laid_strconv_ErrRange), ("strconv.ErrSyntax", laid_strconv_ErrSyntax)] }
def MonzoOfSaid : Prop := monzoOfRow.holds Tryz.pinned (OpenSpec.ofChange monzoOfSpec)

/-- ITS FALSE NEIGHBOUR: 'it returns false'. Refute it at one input. -/
def monzoOfWrong : ChangeSpec := { name := "monzoOf", fn := fun _ => fun
  | [d1, d2] => { results := [.lit (.bool false)], args := [d1, d2] }
  | _ => none }
def MonzoOfWrongFalsely : Prop := monzoOfRow.holds Tryz.pinned (OpenSpec.ofChange monzoOfWrong)

/-- 'schismalaw12.MonzoFractions': WHATEVER THE INPUT: true; the input reads as it did. -/
def monzoFractionsSpec : ChangeSpec := { name := "monzoFractions", fn := fun _ => fun
  | [d] => { results := [.lit (.bool true)], args := [d] }
  | _ => none }
def monzoFractionsRow : OpenClaim := { program := "ytkoemgemnklmdaagreatdoor", sum := "7e82ec54b888a9ccc0daa0c70ab41081c2b056e2ed73be440d030c6a87abf2c4", func := "schisma/schismalaw12.MonzoFractions", spec := "monzoFractions", inPlace := ["internal/abi.NoEscape", "internal/bytealg.MakeNoZero"], unfollowed := true, recurses := true, named := ["strconv.ErrSyntax", "strconv.ErrRange", "internal/strconv.uint64pow10", "math/bits.deBruijn32tab", "math/bits.deBruijn64tab"], apart := false, laid := [("math/bits.deBruijn32tab", laid_math_bits_deBruijn32tab), ("math/bits.deBruijn64tab", laid_math_bits_deBruijn64tab), ("internal/strconv.uint64pow10", laid_internal_strconv_uint64pow10), ("strconv.ErrRange", laid_strconv_ErrRange), ("strconv.ErrSyntax", laid_strconv_ErrSyntax)] }
def MonzoFractionsSaid : Prop := monzoFractionsRow.holds Tryz.pinned (OpenSpec.ofChange monzoFractionsSpec)

/-- ITS FALSE NEIGHBOUR: 'it returns false'. Refute it at one input. -/
def monzoFractionsWrong : ChangeSpec := { name := "monzoFractions", fn := fun _ => fun
  | [d] => { results := [.lit (.bool false)], args := [d] }
  | _ => none }
def MonzoFractionsWrongFalsely : Prop := monzoFractionsRow.holds Tryz.pinned (OpenSpec.ofChange monzoFractionsWrong)

/-- 'schismalaw12.MonzoLong': WHATEVER THE INPUT: true; the input reads as it did. -/
def monzoLongSpec : ChangeSpec := { name := "monzoLong", fn := fun _ => fun
  | [d] => { results := [.lit (.bool true)], args := [d] }
  | _ => none }
def monzoLongRow : OpenClaim := { program := "ytkoemgemnklmdaagreatdoor", sum := "7e82ec54b888a9ccc0daa0c70ab41081c2b056e2ed73be440d030c6a87abf2c4", func := "schisma/schismalaw12.MonzoLong", spec := "monzoLong", inPlace := ["internal/abi.NoEscape", "internal/bytealg.MakeNoZero"], unfollowed := true, recurses := true, named := ["strconv.ErrSyntax", "strconv.ErrRange", "internal/strconv.uint64pow10", "math/bits.deBruijn32tab", "math/bits.deBruijn64tab"], apart := false, laid := [("math/bits.deBruijn32tab", laid_math_bits_deBruijn32tab), ("math/bits.deBruijn64tab", laid_math_bits_deBruijn64tab), ("internal/strconv.uint64pow10", laid_internal_strconv_uint64pow10), ("strconv.ErrRange", laid_strconv_ErrRange), ("strconv.ErrSyntax", laid_strconv_ErrSyntax)] }
def MonzoLongSaid : Prop := monzoLongRow.holds Tryz.pinned (OpenSpec.ofChange monzoLongSpec)

/-- ITS FALSE NEIGHBOUR: 'it returns false'. Refute it at one input. -/
def monzoLongWrong : ChangeSpec := { name := "monzoLong", fn := fun _ => fun
  | [d] => { results := [.lit (.bool false)], args := [d] }
  | _ => none }
def MonzoLongWrongFalsely : Prop := monzoLongRow.holds Tryz.pinned (OpenSpec.ofChange monzoLongWrong)

/-- 'schismalaw12.MonzoAdds': WHATEVER THE INPUT: true; the input reads as it did. -/
def monzoAddsSpec : ChangeSpec := { name := "monzoAdds", fn := fun _ => fun
  | [d1, d2, d3] => { results := [.lit (.bool true)], args := [d1, d2, d3] }
  | _ => none }
def monzoAddsRow : OpenClaim := { program := "ytkoemgemnklmdaagreatdoor", sum := "7e82ec54b888a9ccc0daa0c70ab41081c2b056e2ed73be440d030c6a87abf2c4", func := "schisma/schismalaw12.MonzoAdds", spec := "monzoAdds", inPlace := ["internal/abi.NoEscape", "internal/bytealg.MakeNoZero"], unfollowed := true, recurses := true, named := ["strconv.ErrSyntax", "strconv.ErrRange", "internal/strconv.uint64pow10", "math/bits.deBruijn32tab", "math/bits.deBruijn64tab"], apart := false, laid := [("math/bits.deBruijn32tab", laid_math_bits_deBruijn32tab), ("math/bits.deBruijn64tab", laid_math_bits_deBruijn64tab), ("internal/strconv.uint64pow10", laid_internal_strconv_uint64pow10), ("strconv.ErrRange", laid_strconv_ErrRange), ("strconv.ErrSyntax", laid_strconv_ErrSyntax)] }
def MonzoAddsSaid : Prop := monzoAddsRow.holds Tryz.pinned (OpenSpec.ofChange monzoAddsSpec)

/-- ITS FALSE NEIGHBOUR: 'it returns false'. Refute it at one input. -/
def monzoAddsWrong : ChangeSpec := { name := "monzoAdds", fn := fun _ => fun
  | [d1, d2, d3] => { results := [.lit (.bool false)], args := [d1, d2, d3] }
  | _ => none }
def MonzoAddsWrongFalsely : Prop := monzoAddsRow.holds Tryz.pinned (OpenSpec.ofChange monzoAddsWrong)

/-- 'schismalaw12.MonzoLaws': WHATEVER THE INPUT: true; the input reads as it did. -/
def monzoLawsSpec : ChangeSpec := { name := "monzoLaws", fn := fun _ => fun
  | [d1, d2, d3] => { results := [.lit (.bool true)], args := [d1, d2, d3] }
  | _ => none }
def monzoLawsRow : OpenClaim := { program := "ytkoemgemnklmdaagreatdoor", sum := "7e82ec54b888a9ccc0daa0c70ab41081c2b056e2ed73be440d030c6a87abf2c4", func := "schisma/schismalaw12.MonzoLaws", spec := "monzoLaws", inPlace := ["internal/abi.NoEscape", "internal/bytealg.MakeNoZero"], unfollowed := true, recurses := true, named := ["strconv.ErrSyntax", "strconv.ErrRange", "internal/strconv.uint64pow10", "math/bits.deBruijn32tab", "math/bits.deBruijn64tab"], apart := false, laid := [("math/bits.deBruijn32tab", laid_math_bits_deBruijn32tab), ("math/bits.deBruijn64tab", laid_math_bits_deBruijn64tab), ("internal/strconv.uint64pow10", laid_internal_strconv_uint64pow10), ("strconv.ErrRange", laid_strconv_ErrRange), ("strconv.ErrSyntax", laid_strconv_ErrSyntax)] }
def MonzoLawsSaid : Prop := monzoLawsRow.holds Tryz.pinned (OpenSpec.ofChange monzoLawsSpec)

/-- ITS FALSE NEIGHBOUR: 'it returns false'. Refute it at one input. -/
def monzoLawsWrong : ChangeSpec := { name := "monzoLaws", fn := fun _ => fun
  | [d1, d2, d3] => { results := [.lit (.bool false)], args := [d1, d2, d3] }
  | _ => none }
def MonzoLawsWrongFalsely : Prop := monzoLawsRow.holds Tryz.pinned (OpenSpec.ofChange monzoLawsWrong)

/-- 'schismalaw12.MonzoOrders': WHATEVER THE INPUT: true; the input reads as it did. -/
def monzoOrdersSpec : ChangeSpec := { name := "monzoOrders", fn := fun _ => fun
  | [d1, d2, d3] => { results := [.lit (.bool true)], args := [d1, d2, d3] }
  | _ => none }
def monzoOrdersRow : OpenClaim := { program := "ytkoemgemnklmdaagreatdoor", sum := "7e82ec54b888a9ccc0daa0c70ab41081c2b056e2ed73be440d030c6a87abf2c4", func := "schisma/schismalaw12.MonzoOrders", spec := "monzoOrders", inPlace := ["internal/abi.NoEscape", "internal/bytealg.MakeNoZero"], unfollowed := true, recurses := true, named := ["strconv.ErrSyntax", "strconv.ErrRange", "internal/strconv.uint64pow10", "math/bits.deBruijn32tab", "math/bits.deBruijn64tab"], apart := false, laid := [("math/bits.deBruijn32tab", laid_math_bits_deBruijn32tab), ("math/bits.deBruijn64tab", laid_math_bits_deBruijn64tab), ("internal/strconv.uint64pow10", laid_internal_strconv_uint64pow10), ("strconv.ErrRange", laid_strconv_ErrRange), ("strconv.ErrSyntax", laid_strconv_ErrSyntax)] }
def MonzoOrdersSaid : Prop := monzoOrdersRow.holds Tryz.pinned (OpenSpec.ofChange monzoOrdersSpec)

/-- ITS FALSE NEIGHBOUR: 'it returns false'. Refute it at one input. -/
def monzoOrdersWrong : ChangeSpec := { name := "monzoOrders", fn := fun _ => fun
  | [d1, d2, d3] => { results := [.lit (.bool false)], args := [d1, d2, d3] }
  | _ => none }
def MonzoOrdersWrongFalsely : Prop := monzoOrdersRow.holds Tryz.pinned (OpenSpec.ofChange monzoOrdersWrong)

/-- 'schismalaw12.MonzoErrors': WHATEVER THE INPUT: true; the input reads as it did. -/
def monzoErrorsSpec : ChangeSpec := { name := "monzoErrors", fn := fun _ => fun
  | [d1, d2, d3] => { results := [.lit (.bool true)], args := [d1, d2, d3] }
  | _ => none }
def monzoErrorsRow : OpenClaim := { program := "ytkoemgemnklmdaagreatdoor", sum := "7e82ec54b888a9ccc0daa0c70ab41081c2b056e2ed73be440d030c6a87abf2c4", func := "schisma/schismalaw12.MonzoErrors", spec := "monzoErrors", inPlace := ["internal/abi.NoEscape", "internal/bytealg.MakeNoZero"], unfollowed := true, recurses := true, named := ["strconv.ErrSyntax", "strconv.ErrRange", "internal/strconv.uint64pow10", "math/bits.deBruijn32tab", "math/bits.deBruijn64tab"], apart := false, laid := [("math/bits.deBruijn32tab", laid_math_bits_deBruijn32tab), ("math/bits.deBruijn64tab", laid_math_bits_deBruijn64tab), ("internal/strconv.uint64pow10", laid_internal_strconv_uint64pow10), ("strconv.ErrRange", laid_strconv_ErrRange), ("strconv.ErrSyntax", laid_strconv_ErrSyntax)] }
def MonzoErrorsSaid : Prop := monzoErrorsRow.holds Tryz.pinned (OpenSpec.ofChange monzoErrorsSpec)

/-- ITS FALSE NEIGHBOUR: 'it returns false'. Refute it at one input. -/
def monzoErrorsWrong : ChangeSpec := { name := "monzoErrors", fn := fun _ => fun
  | [d1, d2, d3] => { results := [.lit (.bool false)], args := [d1, d2, d3] }
  | _ => none }
def MonzoErrorsWrongFalsely : Prop := monzoErrorsRow.holds Tryz.pinned (OpenSpec.ofChange monzoErrorsWrong)

/-- 'schismalaw12.MonzoHeights': WHATEVER THE INPUT: true; the input reads as it did. -/
def monzoHeightsSpec : ChangeSpec := { name := "monzoHeights", fn := fun _ => fun
  | [d] => { results := [.lit (.bool true)], args := [d] }
  | _ => none }
def monzoHeightsRow : OpenClaim := { program := "ytkoemgemnklmdaagreatdoor", sum := "7e82ec54b888a9ccc0daa0c70ab41081c2b056e2ed73be440d030c6a87abf2c4", func := "schisma/schismalaw12.MonzoHeights", spec := "monzoHeights", inPlace := ["internal/abi.NoEscape", "internal/bytealg.MakeNoZero"], unfollowed := true, recurses := true, named := ["strconv.ErrSyntax", "strconv.ErrRange", "internal/strconv.uint64pow10", "math/bits.deBruijn32tab", "math/bits.deBruijn64tab"], apart := false, laid := [("math/bits.deBruijn32tab", laid_math_bits_deBruijn32tab), ("math/bits.deBruijn64tab", laid_math_bits_deBruijn64tab), ("internal/strconv.uint64pow10", laid_internal_strconv_uint64pow10), ("strconv.ErrRange", laid_strconv_ErrRange), ("strconv.ErrSyntax", laid_strconv_ErrSyntax)] }
def MonzoHeightsSaid : Prop := monzoHeightsRow.holds Tryz.pinned (OpenSpec.ofChange monzoHeightsSpec)

/-- ITS FALSE NEIGHBOUR: 'it returns false'. Refute it at one input. -/
def monzoHeightsWrong : ChangeSpec := { name := "monzoHeights", fn := fun _ => fun
  | [d] => { results := [.lit (.bool false)], args := [d] }
  | _ => none }
def MonzoHeightsWrongFalsely : Prop := monzoHeightsRow.holds Tryz.pinned (OpenSpec.ofChange monzoHeightsWrong)

/-- 'schismalaw12.MonzoParses': WHATEVER THE INPUT: true; the input reads as it did. -/
def monzoParsesSpec : ChangeSpec := { name := "monzoParses", fn := fun _ => fun
  | [d] => { results := [.lit (.bool true)], args := [d] }
  | _ => none }
def monzoParsesRow : OpenClaim := { program := "ytkoemgemnklmdaagreatdoor", sum := "7e82ec54b888a9ccc0daa0c70ab41081c2b056e2ed73be440d030c6a87abf2c4", func := "schisma/schismalaw12.MonzoParses", spec := "monzoParses", inPlace := ["internal/abi.NoEscape", "internal/bytealg.MakeNoZero", "internal/bytealg.IndexByteString", "internal/bytealg.IndexString", "internal/bytealg.CountString"], unfollowed := true, recurses := true, named := ["strconv.ErrSyntax", "strconv.ErrRange", "internal/strconv.uint64pow10", "math/bits.deBruijn32tab", "math/bits.deBruijn64tab", "unicode/utf8.first", "unicode/utf8.acceptRanges", "internal/bytealg.MaxLen"], apart := false, laid := [("math/bits.deBruijn32tab", laid_math_bits_deBruijn32tab), ("math/bits.deBruijn64tab", laid_math_bits_deBruijn64tab), ("internal/strconv.uint64pow10", laid_internal_strconv_uint64pow10), ("unicode/utf8.acceptRanges", laid_unicode_utf8_acceptRanges), ("strconv.ErrRange", laid_strconv_ErrRange), ("strconv.ErrSyntax", laid_strconv_ErrSyntax), ("unicode/utf8.first", laid_unicode_utf8_first)] }
def MonzoParsesSaid : Prop := monzoParsesRow.holds Tryz.pinned (OpenSpec.ofChange monzoParsesSpec)

/-- ITS FALSE NEIGHBOUR: 'it returns false'. Refute it at one input. -/
def monzoParsesWrong : ChangeSpec := { name := "monzoParses", fn := fun _ => fun
  | [d] => { results := [.lit (.bool false)], args := [d] }
  | _ => none }
def MonzoParsesWrongFalsely : Prop := monzoParsesRow.holds Tryz.pinned (OpenSpec.ofChange monzoParsesWrong)

/-- 'schismalaw12.MonzoReads': WHATEVER THE INPUT: true; the input reads as it did. -/
def monzoReadsSpec : ChangeSpec := { name := "monzoReads", fn := fun _ => fun
  | [d1, d2] => { results := [.lit (.bool true)], args := [d1, d2] }
  | _ => none }
def monzoReadsRow : OpenClaim := { program := "ytkoemgemnklmdaagreatdoor", sum := "7e82ec54b888a9ccc0daa0c70ab41081c2b056e2ed73be440d030c6a87abf2c4", func := "schisma/schismalaw12.MonzoReads", spec := "monzoReads", inPlace := ["internal/abi.NoEscape", "internal/bytealg.MakeNoZero", "internal/bytealg.IndexByteString", "internal/bytealg.IndexString", "internal/bytealg.CountString"], unfollowed := true, recurses := true, named := ["strconv.ErrSyntax", "strconv.ErrRange", "internal/strconv.uint64pow10", "math/bits.deBruijn32tab", "math/bits.deBruijn64tab", "unicode/utf8.first", "unicode/utf8.acceptRanges", "internal/bytealg.MaxLen"], apart := false, laid := [("math/bits.deBruijn32tab", laid_math_bits_deBruijn32tab), ("math/bits.deBruijn64tab", laid_math_bits_deBruijn64tab), ("internal/strconv.uint64pow10", laid_internal_strconv_uint64pow10), ("unicode/utf8.acceptRanges", laid_unicode_utf8_acceptRanges), ("strconv.ErrRange", laid_strconv_ErrRange), ("strconv.ErrSyntax", laid_strconv_ErrSyntax), ("unicode/utf8.first", laid_unicode_utf8_first)] }
def MonzoReadsSaid : Prop := monzoReadsRow.holds Tryz.pinned (OpenSpec.ofChange monzoReadsSpec)

/-- ITS FALSE NEIGHBOUR: 'it returns false'. Refute it at one input. -/
def monzoReadsWrong : ChangeSpec := { name := "monzoReads", fn := fun _ => fun
  | [d1, d2] => { results := [.lit (.bool false)], args := [d1, d2] }
  | _ => none }
def MonzoReadsWrongFalsely : Prop := monzoReadsRow.holds Tryz.pinned (OpenSpec.ofChange monzoReadsWrong)

/- THE SECOND FORM. 'bulk': how many values and letters a reading holds, each counted each time it is reached (what is shared counts as often as it is met; a slice's spare places count too). A statement '..UptoSaid' is the law's where the arguments, and the package variables that the reading takes, are together of bulk at most 1048576: NARROWER than '..Said'. Prove '..Said' where nothing that the law and all that it calls make is longer than what came in: it says more and counts as full. Else prove '..UptoSaid'. A law counts once. -/
mutual
def uptoBulk {H : Type} : DataW H → Nat
  | .lit (.string bytes) => bytes.length + 1
  | .lit _ => 1
  | .nil => 1
  | .ptr d => uptoBulk d + 1
  | .slice elems spare => uptoBulkAll elems + uptoBulkAll spare + 1
  | .agg parts => uptoBulkAll parts + 1
  | .iface _ d => uptoBulk d + 1
  | .map entries => uptoBulkEntries entries + 1
  | .held _ => 1
def uptoBulkAll {H : Type} : List (DataW H) → Nat
  | [] => 0
  | d :: r => uptoBulk d + uptoBulkAll r
def uptoBulkEntries {H : Type} : List (Lit × DataW H) → Nat
  | [] => 0
  | x :: r => uptoBulkEntry x + uptoBulkEntries r
def uptoBulkEntry {H : Type} : Lit × DataW H → Nat
  | (.string bytes, d) => bytes.length + uptoBulk d + 1
  | (_, d) => uptoBulk d + 1
 end
def uptoSmall : (H : Type) → List (DataW H) → Bool := fun _ ds => decide (uptoBulkAll ds ≤ 1048576)
def OpenSpec.upto (s : _root_.Go.ChangeSpec) : _root_.Go.OpenSpec := { _root_.Go.OpenSpec.ofChange s with cond := some uptoSmall }

/-- 'schismalaw12.MonzoChecks', WHERE WHAT IT READS IS OF BULK AT MOST 1048576: true; the input reads as it did. -/
def monzoChecksUptoRow : OpenClaim := { program := "ytkoemgemnklmdaagreatdoor", sum := "7e82ec54b888a9ccc0daa0c70ab41081c2b056e2ed73be440d030c6a87abf2c4", func := "schisma/schismalaw12.MonzoChecks", spec := "monzoChecks", inPlace := ["internal/abi.NoEscape", "internal/bytealg.MakeNoZero"], unfollowed := true, recurses := true, named := ["strconv.ErrSyntax", "strconv.ErrRange", "internal/strconv.uint64pow10", "math/bits.deBruijn32tab", "math/bits.deBruijn64tab"], apart := false, laid := [("math/bits.deBruijn32tab", laid_math_bits_deBruijn32tab), ("math/bits.deBruijn64tab", laid_math_bits_deBruijn64tab), ("internal/strconv.uint64pow10", laid_internal_strconv_uint64pow10), ("strconv.ErrRange", laid_strconv_ErrRange), ("strconv.ErrSyntax", laid_strconv_ErrSyntax)], narrowed := true }
def MonzoChecksUptoSaid : Prop := monzoChecksUptoRow.holds Tryz.pinned (OpenSpec.upto monzoChecksSpec)

/-- 'schismalaw12.MonzoOf', WHERE WHAT IT READS IS OF BULK AT MOST 1048576: true; the input reads as it did. -/
def monzoOfUptoRow : OpenClaim := { program := "ytkoemgemnklmdaagreatdoor", sum := "7e82ec54b888a9ccc0daa0c70ab41081c2b056e2ed73be440d030c6a87abf2c4", func := "schisma/schismalaw12.MonzoOf", spec := "monzoOf", inPlace := ["internal/abi.NoEscape", "internal/bytealg.MakeNoZero"], unfollowed := true, recurses := true, named := ["strconv.ErrSyntax", "strconv.ErrRange", "internal/strconv.uint64pow10", "math/bits.deBruijn32tab", "math/bits.deBruijn64tab"], apart := false, laid := [("math/bits.deBruijn32tab", laid_math_bits_deBruijn32tab), ("math/bits.deBruijn64tab", laid_math_bits_deBruijn64tab), ("internal/strconv.uint64pow10", laid_internal_strconv_uint64pow10), ("strconv.ErrRange", laid_strconv_ErrRange), ("strconv.ErrSyntax", laid_strconv_ErrSyntax)], narrowed := true }
def MonzoOfUptoSaid : Prop := monzoOfUptoRow.holds Tryz.pinned (OpenSpec.upto monzoOfSpec)

/-- 'schismalaw12.MonzoFractions', WHERE WHAT IT READS IS OF BULK AT MOST 1048576: true; the input reads as it did. -/
def monzoFractionsUptoRow : OpenClaim := { program := "ytkoemgemnklmdaagreatdoor", sum := "7e82ec54b888a9ccc0daa0c70ab41081c2b056e2ed73be440d030c6a87abf2c4", func := "schisma/schismalaw12.MonzoFractions", spec := "monzoFractions", inPlace := ["internal/abi.NoEscape", "internal/bytealg.MakeNoZero"], unfollowed := true, recurses := true, named := ["strconv.ErrSyntax", "strconv.ErrRange", "internal/strconv.uint64pow10", "math/bits.deBruijn32tab", "math/bits.deBruijn64tab"], apart := false, laid := [("math/bits.deBruijn32tab", laid_math_bits_deBruijn32tab), ("math/bits.deBruijn64tab", laid_math_bits_deBruijn64tab), ("internal/strconv.uint64pow10", laid_internal_strconv_uint64pow10), ("strconv.ErrRange", laid_strconv_ErrRange), ("strconv.ErrSyntax", laid_strconv_ErrSyntax)], narrowed := true }
def MonzoFractionsUptoSaid : Prop := monzoFractionsUptoRow.holds Tryz.pinned (OpenSpec.upto monzoFractionsSpec)

/-- 'schismalaw12.MonzoLong', WHERE WHAT IT READS IS OF BULK AT MOST 1048576: true; the input reads as it did. -/
def monzoLongUptoRow : OpenClaim := { program := "ytkoemgemnklmdaagreatdoor", sum := "7e82ec54b888a9ccc0daa0c70ab41081c2b056e2ed73be440d030c6a87abf2c4", func := "schisma/schismalaw12.MonzoLong", spec := "monzoLong", inPlace := ["internal/abi.NoEscape", "internal/bytealg.MakeNoZero"], unfollowed := true, recurses := true, named := ["strconv.ErrSyntax", "strconv.ErrRange", "internal/strconv.uint64pow10", "math/bits.deBruijn32tab", "math/bits.deBruijn64tab"], apart := false, laid := [("math/bits.deBruijn32tab", laid_math_bits_deBruijn32tab), ("math/bits.deBruijn64tab", laid_math_bits_deBruijn64tab), ("internal/strconv.uint64pow10", laid_internal_strconv_uint64pow10), ("strconv.ErrRange", laid_strconv_ErrRange), ("strconv.ErrSyntax", laid_strconv_ErrSyntax)], narrowed := true }
def MonzoLongUptoSaid : Prop := monzoLongUptoRow.holds Tryz.pinned (OpenSpec.upto monzoLongSpec)

/-- 'schismalaw12.MonzoAdds', WHERE WHAT IT READS IS OF BULK AT MOST 1048576: true; the input reads as it did. -/
def monzoAddsUptoRow : OpenClaim := { program := "ytkoemgemnklmdaagreatdoor", sum := "7e82ec54b888a9ccc0daa0c70ab41081c2b056e2ed73be440d030c6a87abf2c4", func := "schisma/schismalaw12.MonzoAdds", spec := "monzoAdds", inPlace := ["internal/abi.NoEscape", "internal/bytealg.MakeNoZero"], unfollowed := true, recurses := true, named := ["strconv.ErrSyntax", "strconv.ErrRange", "internal/strconv.uint64pow10", "math/bits.deBruijn32tab", "math/bits.deBruijn64tab"], apart := false, laid := [("math/bits.deBruijn32tab", laid_math_bits_deBruijn32tab), ("math/bits.deBruijn64tab", laid_math_bits_deBruijn64tab), ("internal/strconv.uint64pow10", laid_internal_strconv_uint64pow10), ("strconv.ErrRange", laid_strconv_ErrRange), ("strconv.ErrSyntax", laid_strconv_ErrSyntax)], narrowed := true }
def MonzoAddsUptoSaid : Prop := monzoAddsUptoRow.holds Tryz.pinned (OpenSpec.upto monzoAddsSpec)

/-- 'schismalaw12.MonzoLaws', WHERE WHAT IT READS IS OF BULK AT MOST 1048576: true; the input reads as it did. -/
def monzoLawsUptoRow : OpenClaim := { program := "ytkoemgemnklmdaagreatdoor", sum := "7e82ec54b888a9ccc0daa0c70ab41081c2b056e2ed73be440d030c6a87abf2c4", func := "schisma/schismalaw12.MonzoLaws", spec := "monzoLaws", inPlace := ["internal/abi.NoEscape", "internal/bytealg.MakeNoZero"], unfollowed := true, recurses := true, named := ["strconv.ErrSyntax", "strconv.ErrRange", "internal/strconv.uint64pow10", "math/bits.deBruijn32tab", "math/bits.deBruijn64tab"], apart := false, laid := [("math/bits.deBruijn32tab", laid_math_bits_deBruijn32tab), ("math/bits.deBruijn64tab", laid_math_bits_deBruijn64tab), ("internal/strconv.uint64pow10", laid_internal_strconv_uint64pow10), ("strconv.ErrRange", laid_strconv_ErrRange), ("strconv.ErrSyntax", laid_strconv_ErrSyntax)], narrowed := true }
def MonzoLawsUptoSaid : Prop := monzoLawsUptoRow.holds Tryz.pinned (OpenSpec.upto monzoLawsSpec)

/-- 'schismalaw12.MonzoOrders', WHERE WHAT IT READS IS OF BULK AT MOST 1048576: true; the input reads as it did. -/
def monzoOrdersUptoRow : OpenClaim := { program := "ytkoemgemnklmdaagreatdoor", sum := "7e82ec54b888a9ccc0daa0c70ab41081c2b056e2ed73be440d030c6a87abf2c4", func := "schisma/schismalaw12.MonzoOrders", spec := "monzoOrders", inPlace := ["internal/abi.NoEscape", "internal/bytealg.MakeNoZero"], unfollowed := true, recurses := true, named := ["strconv.ErrSyntax", "strconv.ErrRange", "internal/strconv.uint64pow10", "math/bits.deBruijn32tab", "math/bits.deBruijn64tab"], apart := false, laid := [("math/bits.deBruijn32tab", laid_math_bits_deBruijn32tab), ("math/bits.deBruijn64tab", laid_math_bits_deBruijn64tab), ("internal/strconv.uint64pow10", laid_internal_strconv_uint64pow10), ("strconv.ErrRange", laid_strconv_ErrRange), ("strconv.ErrSyntax", laid_strconv_ErrSyntax)], narrowed := true }
def MonzoOrdersUptoSaid : Prop := monzoOrdersUptoRow.holds Tryz.pinned (OpenSpec.upto monzoOrdersSpec)

/-- 'schismalaw12.MonzoErrors', WHERE WHAT IT READS IS OF BULK AT MOST 1048576: true; the input reads as it did. -/
def monzoErrorsUptoRow : OpenClaim := { program := "ytkoemgemnklmdaagreatdoor", sum := "7e82ec54b888a9ccc0daa0c70ab41081c2b056e2ed73be440d030c6a87abf2c4", func := "schisma/schismalaw12.MonzoErrors", spec := "monzoErrors", inPlace := ["internal/abi.NoEscape", "internal/bytealg.MakeNoZero"], unfollowed := true, recurses := true, named := ["strconv.ErrSyntax", "strconv.ErrRange", "internal/strconv.uint64pow10", "math/bits.deBruijn32tab", "math/bits.deBruijn64tab"], apart := false, laid := [("math/bits.deBruijn32tab", laid_math_bits_deBruijn32tab), ("math/bits.deBruijn64tab", laid_math_bits_deBruijn64tab), ("internal/strconv.uint64pow10", laid_internal_strconv_uint64pow10), ("strconv.ErrRange", laid_strconv_ErrRange), ("strconv.ErrSyntax", laid_strconv_ErrSyntax)], narrowed := true }
def MonzoErrorsUptoSaid : Prop := monzoErrorsUptoRow.holds Tryz.pinned (OpenSpec.upto monzoErrorsSpec)

/-- 'schismalaw12.MonzoHeights', WHERE WHAT IT READS IS OF BULK AT MOST 1048576: true; the input reads as it did. -/
def monzoHeightsUptoRow : OpenClaim := { program := "ytkoemgemnklmdaagreatdoor", sum := "7e82ec54b888a9ccc0daa0c70ab41081c2b056e2ed73be440d030c6a87abf2c4", func := "schisma/schismalaw12.MonzoHeights", spec := "monzoHeights", inPlace := ["internal/abi.NoEscape", "internal/bytealg.MakeNoZero"], unfollowed := true, recurses := true, named := ["strconv.ErrSyntax", "strconv.ErrRange", "internal/strconv.uint64pow10", "math/bits.deBruijn32tab", "math/bits.deBruijn64tab"], apart := false, laid := [("math/bits.deBruijn32tab", laid_math_bits_deBruijn32tab), ("math/bits.deBruijn64tab", laid_math_bits_deBruijn64tab), ("internal/strconv.uint64pow10", laid_internal_strconv_uint64pow10), ("strconv.ErrRange", laid_strconv_ErrRange), ("strconv.ErrSyntax", laid_strconv_ErrSyntax)], narrowed := true }
def MonzoHeightsUptoSaid : Prop := monzoHeightsUptoRow.holds Tryz.pinned (OpenSpec.upto monzoHeightsSpec)

/-- 'schismalaw12.MonzoParses', WHERE WHAT IT READS IS OF BULK AT MOST 1048576: true; the input reads as it did. -/
def monzoParsesUptoRow : OpenClaim := { program := "ytkoemgemnklmdaagreatdoor", sum := "7e82ec54b888a9ccc0daa0c70ab41081c2b056e2ed73be440d030c6a87abf2c4", func := "schisma/schismalaw12.MonzoParses", spec := "monzoParses", inPlace := ["internal/abi.NoEscape", "internal/bytealg.MakeNoZero", "internal/bytealg.IndexByteString", "internal/bytealg.IndexString", "internal/bytealg.CountString"], unfollowed := true, recurses := true, named := ["strconv.ErrSyntax", "strconv.ErrRange", "internal/strconv.uint64pow10", "math/bits.deBruijn32tab", "math/bits.deBruijn64tab", "unicode/utf8.first", "unicode/utf8.acceptRanges", "internal/bytealg.MaxLen"], apart := false, laid := [("math/bits.deBruijn32tab", laid_math_bits_deBruijn32tab), ("math/bits.deBruijn64tab", laid_math_bits_deBruijn64tab), ("internal/strconv.uint64pow10", laid_internal_strconv_uint64pow10), ("unicode/utf8.acceptRanges", laid_unicode_utf8_acceptRanges), ("strconv.ErrRange", laid_strconv_ErrRange), ("strconv.ErrSyntax", laid_strconv_ErrSyntax), ("unicode/utf8.first", laid_unicode_utf8_first)], narrowed := true }
def MonzoParsesUptoSaid : Prop := monzoParsesUptoRow.holds Tryz.pinned (OpenSpec.upto monzoParsesSpec)

/-- 'schismalaw12.MonzoReads', WHERE WHAT IT READS IS OF BULK AT MOST 1048576: true; the input reads as it did. -/
def monzoReadsUptoRow : OpenClaim := { program := "ytkoemgemnklmdaagreatdoor", sum := "7e82ec54b888a9ccc0daa0c70ab41081c2b056e2ed73be440d030c6a87abf2c4", func := "schisma/schismalaw12.MonzoReads", spec := "monzoReads", inPlace := ["internal/abi.NoEscape", "internal/bytealg.MakeNoZero", "internal/bytealg.IndexByteString", "internal/bytealg.IndexString", "internal/bytealg.CountString"], unfollowed := true, recurses := true, named := ["strconv.ErrSyntax", "strconv.ErrRange", "internal/strconv.uint64pow10", "math/bits.deBruijn32tab", "math/bits.deBruijn64tab", "unicode/utf8.first", "unicode/utf8.acceptRanges", "internal/bytealg.MaxLen"], apart := false, laid := [("math/bits.deBruijn32tab", laid_math_bits_deBruijn32tab), ("math/bits.deBruijn64tab", laid_math_bits_deBruijn64tab), ("internal/strconv.uint64pow10", laid_internal_strconv_uint64pow10), ("unicode/utf8.acceptRanges", laid_unicode_utf8_acceptRanges), ("strconv.ErrRange", laid_strconv_ErrRange), ("strconv.ErrSyntax", laid_strconv_ErrSyntax), ("unicode/utf8.first", laid_unicode_utf8_first)], narrowed := true }
def MonzoReadsUptoSaid : Prop := monzoReadsUptoRow.holds Tryz.pinned (OpenSpec.upto monzoReadsSpec)

end Rows
end Go.Proofs.YtkoemgemnklmdaaGreatDoor
