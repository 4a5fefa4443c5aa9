/-
  NARROWER THAN 'FOR EVERY INPUT', by the rows' own cells (each row's printed sentence says how): TopSectionsSplit: laid · TopPresentationsAgree: laid · TopWedgesAgree: laid · InvariantTorsions: laid · InvariantAgrees: laid · InvariantSame: laid · InvariantDoubles: laid · InvariantForms: laid · InvariantWedges: laid · InvariantReads: laid · InvariantNames: laid.
  DERIVED. THE GIVEN ROWS OF THIS SEAT. 11 by the template 'for every input the law returns true; each argument reads behind the call as it read before'; 0 by the template 'total and deterministic' (their statements: YtoonaddcfakamaaGreatDoorTotals.lean).
  GIVEN WITH THE SEED: the statements are not yours to turn. If you find one false, say at which input.
  Laid BY PROGRAM, IN A SANDBOX (cutbox-rows.mjs): the forced cells as the released guide's own fill.sh prints them over the translation 18d0c3a56c64b12f… (all of the seat's roots in one cut). By AI agents, Wed Nov 11 2026. No macro, syntax, notation, axiom, sorry.
-/
import Derived.Test.YtoonaddcfakamaaGreatDoorChecked
import GoSem.PinnedTables
import GoSem.Claim
import GoSem.ClaimJoined
import GoSem.ClaimMapViews
import Derived.JoinedTies
import Derived.KernelRfl
namespace Go.Proofs.YtoonaddcfakamaaGreatDoor
/- THE CELL 'sum', in the pinned program and in every row, IS THE sha256 OF THE DUMP (.gsa) THAT YtoonaddcfakamaaGreatDoorProg.lean LOADS. Nothing in Lean hashes anything: it is a label: what it is worth is what the hold of that sum in a sandbox is worth. -/
noncomputable def Tryz.pinned : Pinned := { name := "ytoonaddcfakamaagreatdoor", sum := "18d0c3a56c64b12f8b97796aa3484eed57b4df4353b20c72e787c695545b4a1f", checked := Tryz.checked }
namespace Rows
def none {H : Type} : Left H := { results := [], args := [] }

/- WHAT THE LISTED PACKAGE-LEVEL VARIABLES READ AS WHEN THE CALL BEGINS. Each datum BY PROGRAM (the guide's laid-datum.mjs) off the statement by which the dump's own 'gosem.cut.vars' lays the variable. In a bare row this is a premise. The card (YtoonaddcfakamaaGreatDoorCards.lean) ties it to the program's text. -/
def laid_math_bits_deBruijn32tab {H : Type} : DataW H := .agg [.lit (.int .u8 0), .lit (.int .u8 1), .lit (.int .u8 28), .lit (.int .u8 2), .lit (.int .u8 29), .lit (.int .u8 14), .lit (.int .u8 24), .lit (.int .u8 3), .lit (.int .u8 30), .lit (.int .u8 22), .lit (.int .u8 20), .lit (.int .u8 15), .lit (.int .u8 25), .lit (.int .u8 17), .lit (.int .u8 4), .lit (.int .u8 8), .lit (.int .u8 31), .lit (.int .u8 27), .lit (.int .u8 13), .lit (.int .u8 23), .lit (.int .u8 21), .lit (.int .u8 19), .lit (.int .u8 16), .lit (.int .u8 7), .lit (.int .u8 26), .lit (.int .u8 12), .lit (.int .u8 18), .lit (.int .u8 6), .lit (.int .u8 11), .lit (.int .u8 5), .lit (.int .u8 10), .lit (.int .u8 9)]
def laid_math_bits_deBruijn64tab {H : Type} : DataW H := .agg [.lit (.int .u8 0), .lit (.int .u8 1), .lit (.int .u8 56), .lit (.int .u8 2), .lit (.int .u8 57), .lit (.int .u8 49), .lit (.int .u8 28), .lit (.int .u8 3), .lit (.int .u8 61), .lit (.int .u8 58), .lit (.int .u8 42), .lit (.int .u8 50), .lit (.int .u8 38), .lit (.int .u8 29), .lit (.int .u8 17), .lit (.int .u8 4), .lit (.int .u8 62), .lit (.int .u8 47), .lit (.int .u8 59), .lit (.int .u8 36), .lit (.int .u8 45), .lit (.int .u8 43), .lit (.int .u8 51), .lit (.int .u8 22), .lit (.int .u8 53), .lit (.int .u8 39), .lit (.int .u8 33), .lit (.int .u8 30), .lit (.int .u8 24), .lit (.int .u8 18), .lit (.int .u8 12), .lit (.int .u8 5), .lit (.int .u8 63), .lit (.int .u8 55), .lit (.int .u8 48), .lit (.int .u8 27), .lit (.int .u8 60), .lit (.int .u8 41), .lit (.int .u8 37), .lit (.int .u8 16), .lit (.int .u8 46), .lit (.int .u8 35), .lit (.int .u8 44), .lit (.int .u8 21), .lit (.int .u8 52), .lit (.int .u8 32), .lit (.int .u8 23), .lit (.int .u8 11), .lit (.int .u8 54), .lit (.int .u8 26), .lit (.int .u8 40), .lit (.int .u8 15), .lit (.int .u8 34), .lit (.int .u8 20), .lit (.int .u8 31), .lit (.int .u8 10), .lit (.int .u8 25), .lit (.int .u8 14), .lit (.int .u8 19), .lit (.int .u8 9), .lit (.int .u8 13), .lit (.int .u8 8), .lit (.int .u8 7), .lit (.int .u8 6)]
def laid_internal_strconv_uint64pow10 {H : Type} : DataW H := .agg [.lit (.int .u64 1), .lit (.int .u64 10), .lit (.int .u64 100), .lit (.int .u64 1000), .lit (.int .u64 10000), .lit (.int .u64 100000), .lit (.int .u64 1000000), .lit (.int .u64 10000000), .lit (.int .u64 100000000), .lit (.int .u64 1000000000), .lit (.int .u64 10000000000), .lit (.int .u64 100000000000), .lit (.int .u64 1000000000000), .lit (.int .u64 10000000000000), .lit (.int .u64 100000000000000), .lit (.int .u64 1000000000000000), .lit (.int .u64 10000000000000000), .lit (.int .u64 100000000000000000), .lit (.int .u64 1000000000000000000), .lit (.int .u64 10000000000000000000)]
def laid_strconv_ErrRange {H : Type} : DataW H := .iface "*errors.errorString" (.ptr (.agg [.lit (.string [118, 97, 108, 117, 101, 32, 111, 117, 116, 32, 111, 102, 32, 114, 97, 110, 103, 101])]))
def laid_strconv_ErrSyntax {H : Type} : DataW H := .iface "*errors.errorString" (.ptr (.agg [.lit (.string [105, 110, 118, 97, 108, 105, 100, 32, 115, 121, 110, 116, 97, 120])]))
def laid_unicode_utf8_acceptRanges {H : Type} : DataW H := .agg [.agg [.lit (.int .u8 128), .lit (.int .u8 191)], .agg [.lit (.int .u8 160), .lit (.int .u8 191)], .agg [.lit (.int .u8 128), .lit (.int .u8 159)], .agg [.lit (.int .u8 144), .lit (.int .u8 191)], .agg [.lit (.int .u8 128), .lit (.int .u8 143)], .agg [.lit (.int .u8 0), .lit (.int .u8 0)], .agg [.lit (.int .u8 0), .lit (.int .u8 0)], .agg [.lit (.int .u8 0), .lit (.int .u8 0)], .agg [.lit (.int .u8 0), .lit (.int .u8 0)], .agg [.lit (.int .u8 0), .lit (.int .u8 0)], .agg [.lit (.int .u8 0), .lit (.int .u8 0)], .agg [.lit (.int .u8 0), .lit (.int .u8 0)], .agg [.lit (.int .u8 0), .lit (.int .u8 0)], .agg [.lit (.int .u8 0), .lit (.int .u8 0)], .agg [.lit (.int .u8 0), .lit (.int .u8 0)], .agg [.lit (.int .u8 0), .lit (.int .u8 0)]]
/-- One of Go's own tables, pinned by name: the form's constant. -/
def laid_unicode_utf8_first : DataW Unit := Go.Pinned.utf8First

/-- 'schismatop.TopSectionsSplit': WHATEVER THE INPUT: true; the input reads as it did. -/
def topSectionsSplitSpec : ChangeSpec := { name := "topSectionsSplit", fn := fun _ => fun
  | [d1, d2] => { results := [.lit (.bool true)], args := [d1, d2] }
  | _ => none }
def topSectionsSplitRow : OpenClaim := { program := "ytoonaddcfakamaagreatdoor", sum := "18d0c3a56c64b12f8b97796aa3484eed57b4df4353b20c72e787c695545b4a1f", func := "schisma/schismatop.TopSectionsSplit", spec := "topSectionsSplit", inPlace := ["internal/abi.NoEscape", "internal/bytealg.MakeNoZero"], unfollowed := true, recurses := true, named := ["internal/strconv.uint64pow10", "math/bits.deBruijn32tab", "math/bits.deBruijn64tab", "strconv.ErrSyntax", "strconv.ErrRange"], apart := false, laid := [("math/bits.deBruijn32tab", laid_math_bits_deBruijn32tab), ("math/bits.deBruijn64tab", laid_math_bits_deBruijn64tab), ("internal/strconv.uint64pow10", laid_internal_strconv_uint64pow10), ("strconv.ErrRange", laid_strconv_ErrRange), ("strconv.ErrSyntax", laid_strconv_ErrSyntax)] }
def TopSectionsSplitSaid : Prop := topSectionsSplitRow.holds Tryz.pinned (OpenSpec.ofChange topSectionsSplitSpec)

/-- ITS FALSE NEIGHBOUR: 'it returns false'. Refute it at one input. -/
def topSectionsSplitWrong : ChangeSpec := { name := "topSectionsSplit", fn := fun _ => fun
  | [d1, d2] => { results := [.lit (.bool false)], args := [d1, d2] }
  | _ => none }
def TopSectionsSplitWrongFalsely : Prop := topSectionsSplitRow.holds Tryz.pinned (OpenSpec.ofChange topSectionsSplitWrong)

/-- 'schismatop.TopPresentationsAgree': WHATEVER THE INPUT: true; the input reads as it did. -/
def topPresentationsAgreeSpec : ChangeSpec := { name := "topPresentationsAgree", fn := fun _ => fun
  | [d1, d2] => { results := [.lit (.bool true)], args := [d1, d2] }
  | _ => none }
def topPresentationsAgreeRow : OpenClaim := { program := "ytoonaddcfakamaagreatdoor", sum := "18d0c3a56c64b12f8b97796aa3484eed57b4df4353b20c72e787c695545b4a1f", func := "schisma/schismatop.TopPresentationsAgree", spec := "topPresentationsAgree", inPlace := ["internal/abi.NoEscape", "internal/bytealg.MakeNoZero"], unfollowed := true, recurses := true, named := ["internal/strconv.uint64pow10", "math/bits.deBruijn32tab", "math/bits.deBruijn64tab", "strconv.ErrSyntax", "strconv.ErrRange"], apart := false, laid := [("math/bits.deBruijn32tab", laid_math_bits_deBruijn32tab), ("math/bits.deBruijn64tab", laid_math_bits_deBruijn64tab), ("internal/strconv.uint64pow10", laid_internal_strconv_uint64pow10), ("strconv.ErrRange", laid_strconv_ErrRange), ("strconv.ErrSyntax", laid_strconv_ErrSyntax)] }
def TopPresentationsAgreeSaid : Prop := topPresentationsAgreeRow.holds Tryz.pinned (OpenSpec.ofChange topPresentationsAgreeSpec)

/-- ITS FALSE NEIGHBOUR: 'it returns false'. Refute it at one input. -/
def topPresentationsAgreeWrong : ChangeSpec := { name := "topPresentationsAgree", fn := fun _ => fun
  | [d1, d2] => { results := [.lit (.bool false)], args := [d1, d2] }
  | _ => none }
def TopPresentationsAgreeWrongFalsely : Prop := topPresentationsAgreeRow.holds Tryz.pinned (OpenSpec.ofChange topPresentationsAgreeWrong)

/-- 'schismatop.TopWedgesAgree': WHATEVER THE INPUT: true; the input reads as it did. -/
def topWedgesAgreeSpec : ChangeSpec := { name := "topWedgesAgree", fn := fun _ => fun
  | [d1, d2, d3] => { results := [.lit (.bool true)], args := [d1, d2, d3] }
  | _ => none }
def topWedgesAgreeRow : OpenClaim := { program := "ytoonaddcfakamaagreatdoor", sum := "18d0c3a56c64b12f8b97796aa3484eed57b4df4353b20c72e787c695545b4a1f", func := "schisma/schismatop.TopWedgesAgree", spec := "topWedgesAgree", inPlace := ["internal/abi.NoEscape", "internal/bytealg.MakeNoZero"], unfollowed := true, recurses := true, named := ["internal/strconv.uint64pow10", "math/bits.deBruijn32tab", "math/bits.deBruijn64tab", "strconv.ErrSyntax", "strconv.ErrRange"], apart := false, laid := [("math/bits.deBruijn32tab", laid_math_bits_deBruijn32tab), ("math/bits.deBruijn64tab", laid_math_bits_deBruijn64tab), ("internal/strconv.uint64pow10", laid_internal_strconv_uint64pow10), ("strconv.ErrRange", laid_strconv_ErrRange), ("strconv.ErrSyntax", laid_strconv_ErrSyntax)] }
def TopWedgesAgreeSaid : Prop := topWedgesAgreeRow.holds Tryz.pinned (OpenSpec.ofChange topWedgesAgreeSpec)

/-- ITS FALSE NEIGHBOUR: 'it returns false'. Refute it at one input. -/
def topWedgesAgreeWrong : ChangeSpec := { name := "topWedgesAgree", fn := fun _ => fun
  | [d1, d2, d3] => { results := [.lit (.bool false)], args := [d1, d2, d3] }
  | _ => none }
def TopWedgesAgreeWrongFalsely : Prop := topWedgesAgreeRow.holds Tryz.pinned (OpenSpec.ofChange topWedgesAgreeWrong)

/-- 'schismalaw21.InvariantTorsions': WHATEVER THE INPUT: true; the input reads as it did. -/
def invariantTorsionsSpec : ChangeSpec := { name := "invariantTorsions", fn := fun _ => fun
  | [d1, d2] => { results := [.lit (.bool true)], args := [d1, d2] }
  | _ => none }
def invariantTorsionsRow : OpenClaim := { program := "ytoonaddcfakamaagreatdoor", sum := "18d0c3a56c64b12f8b97796aa3484eed57b4df4353b20c72e787c695545b4a1f", func := "schisma/schismalaw21.InvariantTorsions", spec := "invariantTorsions", inPlace := ["internal/abi.NoEscape", "internal/bytealg.MakeNoZero"], unfollowed := true, recurses := true, named := ["internal/strconv.uint64pow10", "math/bits.deBruijn32tab", "math/bits.deBruijn64tab", "strconv.ErrSyntax", "strconv.ErrRange"], apart := false, laid := [("math/bits.deBruijn32tab", laid_math_bits_deBruijn32tab), ("math/bits.deBruijn64tab", laid_math_bits_deBruijn64tab), ("internal/strconv.uint64pow10", laid_internal_strconv_uint64pow10), ("strconv.ErrRange", laid_strconv_ErrRange), ("strconv.ErrSyntax", laid_strconv_ErrSyntax)] }
def InvariantTorsionsSaid : Prop := invariantTorsionsRow.holds Tryz.pinned (OpenSpec.ofChange invariantTorsionsSpec)

/-- ITS FALSE NEIGHBOUR: 'it returns false'. Refute it at one input. -/
def invariantTorsionsWrong : ChangeSpec := { name := "invariantTorsions", fn := fun _ => fun
  | [d1, d2] => { results := [.lit (.bool false)], args := [d1, d2] }
  | _ => none }
def InvariantTorsionsWrongFalsely : Prop := invariantTorsionsRow.holds Tryz.pinned (OpenSpec.ofChange invariantTorsionsWrong)

/-- 'schismalaw21.InvariantAgrees': WHATEVER THE INPUT: true; the input reads as it did. -/
def invariantAgreesSpec : ChangeSpec := { name := "invariantAgrees", fn := fun _ => fun
  | [d1, d2] => { results := [.lit (.bool true)], args := [d1, d2] }
  | _ => none }
def invariantAgreesRow : OpenClaim := { program := "ytoonaddcfakamaagreatdoor", sum := "18d0c3a56c64b12f8b97796aa3484eed57b4df4353b20c72e787c695545b4a1f", func := "schisma/schismalaw21.InvariantAgrees", spec := "invariantAgrees", inPlace := ["internal/abi.NoEscape", "internal/bytealg.MakeNoZero"], unfollowed := true, recurses := true, named := ["internal/strconv.uint64pow10", "math/bits.deBruijn32tab", "math/bits.deBruijn64tab", "strconv.ErrSyntax", "strconv.ErrRange"], apart := false, laid := [("math/bits.deBruijn32tab", laid_math_bits_deBruijn32tab), ("math/bits.deBruijn64tab", laid_math_bits_deBruijn64tab), ("internal/strconv.uint64pow10", laid_internal_strconv_uint64pow10), ("strconv.ErrRange", laid_strconv_ErrRange), ("strconv.ErrSyntax", laid_strconv_ErrSyntax)] }
def InvariantAgreesSaid : Prop := invariantAgreesRow.holds Tryz.pinned (OpenSpec.ofChange invariantAgreesSpec)

/-- ITS FALSE NEIGHBOUR: 'it returns false'. Refute it at one input. -/
def invariantAgreesWrong : ChangeSpec := { name := "invariantAgrees", fn := fun _ => fun
  | [d1, d2] => { results := [.lit (.bool false)], args := [d1, d2] }
  | _ => none }
def InvariantAgreesWrongFalsely : Prop := invariantAgreesRow.holds Tryz.pinned (OpenSpec.ofChange invariantAgreesWrong)

/-- 'schismalaw21.InvariantSame': WHATEVER THE INPUT: true; the input reads as it did. -/
def invariantSameSpec : ChangeSpec := { name := "invariantSame", fn := fun _ => fun
  | [d1, d2, d3] => { results := [.lit (.bool true)], args := [d1, d2, d3] }
  | _ => none }
def invariantSameRow : OpenClaim := { program := "ytoonaddcfakamaagreatdoor", sum := "18d0c3a56c64b12f8b97796aa3484eed57b4df4353b20c72e787c695545b4a1f", func := "schisma/schismalaw21.InvariantSame", spec := "invariantSame", inPlace := ["internal/abi.NoEscape", "internal/bytealg.MakeNoZero"], unfollowed := true, recurses := true, named := ["internal/strconv.uint64pow10", "math/bits.deBruijn32tab", "math/bits.deBruijn64tab", "strconv.ErrSyntax", "strconv.ErrRange"], apart := false, laid := [("math/bits.deBruijn32tab", laid_math_bits_deBruijn32tab), ("math/bits.deBruijn64tab", laid_math_bits_deBruijn64tab), ("internal/strconv.uint64pow10", laid_internal_strconv_uint64pow10), ("strconv.ErrRange", laid_strconv_ErrRange), ("strconv.ErrSyntax", laid_strconv_ErrSyntax)] }
def InvariantSameSaid : Prop := invariantSameRow.holds Tryz.pinned (OpenSpec.ofChange invariantSameSpec)

/-- ITS FALSE NEIGHBOUR: 'it returns false'. Refute it at one input. -/
def invariantSameWrong : ChangeSpec := { name := "invariantSame", fn := fun _ => fun
  | [d1, d2, d3] => { results := [.lit (.bool false)], args := [d1, d2, d3] }
  | _ => none }
def InvariantSameWrongFalsely : Prop := invariantSameRow.holds Tryz.pinned (OpenSpec.ofChange invariantSameWrong)

/-- 'schismalaw21.InvariantDoubles': WHATEVER THE INPUT: true; the input reads as it did. -/
def invariantDoublesSpec : ChangeSpec := { name := "invariantDoubles", fn := fun _ => fun
  | [d1, d2, d3] => { results := [.lit (.bool true)], args := [d1, d2, d3] }
  | _ => none }
def invariantDoublesRow : OpenClaim := { program := "ytoonaddcfakamaagreatdoor", sum := "18d0c3a56c64b12f8b97796aa3484eed57b4df4353b20c72e787c695545b4a1f", func := "schisma/schismalaw21.InvariantDoubles", spec := "invariantDoubles", inPlace := ["internal/abi.NoEscape", "internal/bytealg.MakeNoZero"], unfollowed := true, recurses := true, named := ["internal/strconv.uint64pow10", "math/bits.deBruijn32tab", "math/bits.deBruijn64tab", "strconv.ErrSyntax", "strconv.ErrRange"], apart := false, laid := [("math/bits.deBruijn32tab", laid_math_bits_deBruijn32tab), ("math/bits.deBruijn64tab", laid_math_bits_deBruijn64tab), ("internal/strconv.uint64pow10", laid_internal_strconv_uint64pow10), ("strconv.ErrRange", laid_strconv_ErrRange), ("strconv.ErrSyntax", laid_strconv_ErrSyntax)] }
def InvariantDoublesSaid : Prop := invariantDoublesRow.holds Tryz.pinned (OpenSpec.ofChange invariantDoublesSpec)

/-- ITS FALSE NEIGHBOUR: 'it returns false'. Refute it at one input. -/
def invariantDoublesWrong : ChangeSpec := { name := "invariantDoubles", fn := fun _ => fun
  | [d1, d2, d3] => { results := [.lit (.bool false)], args := [d1, d2, d3] }
  | _ => none }
def InvariantDoublesWrongFalsely : Prop := invariantDoublesRow.holds Tryz.pinned (OpenSpec.ofChange invariantDoublesWrong)

/-- 'schismalaw21.InvariantForms': WHATEVER THE INPUT: true; the input reads as it did. -/
def invariantFormsSpec : ChangeSpec := { name := "invariantForms", fn := fun _ => fun
  | [d1, d2, d3] => { results := [.lit (.bool true)], args := [d1, d2, d3] }
  | _ => none }
def invariantFormsRow : OpenClaim := { program := "ytoonaddcfakamaagreatdoor", sum := "18d0c3a56c64b12f8b97796aa3484eed57b4df4353b20c72e787c695545b4a1f", func := "schisma/schismalaw21.InvariantForms", spec := "invariantForms", inPlace := ["internal/abi.NoEscape", "internal/bytealg.MakeNoZero"], unfollowed := true, recurses := true, named := ["internal/strconv.uint64pow10", "math/bits.deBruijn32tab", "math/bits.deBruijn64tab", "strconv.ErrSyntax", "strconv.ErrRange"], apart := false, laid := [("math/bits.deBruijn32tab", laid_math_bits_deBruijn32tab), ("math/bits.deBruijn64tab", laid_math_bits_deBruijn64tab), ("internal/strconv.uint64pow10", laid_internal_strconv_uint64pow10), ("strconv.ErrRange", laid_strconv_ErrRange), ("strconv.ErrSyntax", laid_strconv_ErrSyntax)] }
def InvariantFormsSaid : Prop := invariantFormsRow.holds Tryz.pinned (OpenSpec.ofChange invariantFormsSpec)

/-- ITS FALSE NEIGHBOUR: 'it returns false'. Refute it at one input. -/
def invariantFormsWrong : ChangeSpec := { name := "invariantForms", fn := fun _ => fun
  | [d1, d2, d3] => { results := [.lit (.bool false)], args := [d1, d2, d3] }
  | _ => none }
def InvariantFormsWrongFalsely : Prop := invariantFormsRow.holds Tryz.pinned (OpenSpec.ofChange invariantFormsWrong)

/-- 'schismalaw21.InvariantWedges': WHATEVER THE INPUT: true; the input reads as it did. -/
def invariantWedgesSpec : ChangeSpec := { name := "invariantWedges", fn := fun _ => fun
  | [d1, d2] => { results := [.lit (.bool true)], args := [d1, d2] }
  | _ => none }
def invariantWedgesRow : OpenClaim := { program := "ytoonaddcfakamaagreatdoor", sum := "18d0c3a56c64b12f8b97796aa3484eed57b4df4353b20c72e787c695545b4a1f", func := "schisma/schismalaw21.InvariantWedges", spec := "invariantWedges", inPlace := ["internal/abi.NoEscape", "internal/bytealg.MakeNoZero"], unfollowed := true, recurses := true, named := ["internal/strconv.uint64pow10", "math/bits.deBruijn32tab", "math/bits.deBruijn64tab", "strconv.ErrSyntax", "strconv.ErrRange"], apart := false, laid := [("math/bits.deBruijn32tab", laid_math_bits_deBruijn32tab), ("math/bits.deBruijn64tab", laid_math_bits_deBruijn64tab), ("internal/strconv.uint64pow10", laid_internal_strconv_uint64pow10), ("strconv.ErrRange", laid_strconv_ErrRange), ("strconv.ErrSyntax", laid_strconv_ErrSyntax)] }
def InvariantWedgesSaid : Prop := invariantWedgesRow.holds Tryz.pinned (OpenSpec.ofChange invariantWedgesSpec)

/-- ITS FALSE NEIGHBOUR: 'it returns false'. Refute it at one input. -/
def invariantWedgesWrong : ChangeSpec := { name := "invariantWedges", fn := fun _ => fun
  | [d1, d2] => { results := [.lit (.bool false)], args := [d1, d2] }
  | _ => none }
def InvariantWedgesWrongFalsely : Prop := invariantWedgesRow.holds Tryz.pinned (OpenSpec.ofChange invariantWedgesWrong)

/-- 'schismalaw21.InvariantReads': WHATEVER THE INPUT: true; the input reads as it did. -/
def invariantReadsSpec : ChangeSpec := { name := "invariantReads", fn := fun _ => fun
  | [d] => { results := [.lit (.bool true)], args := [d] }
  | _ => none }
def invariantReadsRow : OpenClaim := { program := "ytoonaddcfakamaagreatdoor", sum := "18d0c3a56c64b12f8b97796aa3484eed57b4df4353b20c72e787c695545b4a1f", func := "schisma/schismalaw21.InvariantReads", spec := "invariantReads", inPlace := ["internal/abi.NoEscape", "internal/bytealg.MakeNoZero", "internal/bytealg.IndexByteString", "internal/bytealg.IndexString", "internal/bytealg.CountString"], unfollowed := true, recurses := true, named := ["internal/strconv.uint64pow10", "math/bits.deBruijn32tab", "math/bits.deBruijn64tab", "strconv.ErrSyntax", "strconv.ErrRange", "internal/bytealg.MaxLen", "unicode/utf8.first", "unicode/utf8.acceptRanges"], apart := false, laid := [("math/bits.deBruijn32tab", laid_math_bits_deBruijn32tab), ("math/bits.deBruijn64tab", laid_math_bits_deBruijn64tab), ("internal/strconv.uint64pow10", laid_internal_strconv_uint64pow10), ("unicode/utf8.acceptRanges", laid_unicode_utf8_acceptRanges), ("strconv.ErrRange", laid_strconv_ErrRange), ("strconv.ErrSyntax", laid_strconv_ErrSyntax), ("unicode/utf8.first", laid_unicode_utf8_first)] }
def InvariantReadsSaid : Prop := invariantReadsRow.holds Tryz.pinned (OpenSpec.ofChange invariantReadsSpec)

/-- ITS FALSE NEIGHBOUR: 'it returns false'. Refute it at one input. -/
def invariantReadsWrong : ChangeSpec := { name := "invariantReads", fn := fun _ => fun
  | [d] => { results := [.lit (.bool false)], args := [d] }
  | _ => none }
def InvariantReadsWrongFalsely : Prop := invariantReadsRow.holds Tryz.pinned (OpenSpec.ofChange invariantReadsWrong)

/-- 'schismalaw21.InvariantNames': WHATEVER THE INPUT: true; the input reads as it did. -/
def invariantNamesSpec : ChangeSpec := { name := "invariantNames", fn := fun _ => fun
  | [d1, d2, d3] => { results := [.lit (.bool true)], args := [d1, d2, d3] }
  | _ => none }
def invariantNamesRow : OpenClaim := { program := "ytoonaddcfakamaagreatdoor", sum := "18d0c3a56c64b12f8b97796aa3484eed57b4df4353b20c72e787c695545b4a1f", func := "schisma/schismalaw21.InvariantNames", spec := "invariantNames", inPlace := ["internal/abi.NoEscape", "internal/bytealg.MakeNoZero", "internal/bytealg.IndexByteString", "internal/bytealg.IndexString", "internal/bytealg.CountString"], unfollowed := true, recurses := true, named := ["internal/strconv.uint64pow10", "math/bits.deBruijn32tab", "math/bits.deBruijn64tab", "strconv.ErrSyntax", "strconv.ErrRange", "internal/bytealg.MaxLen", "unicode/utf8.first", "unicode/utf8.acceptRanges"], apart := false, laid := [("math/bits.deBruijn32tab", laid_math_bits_deBruijn32tab), ("math/bits.deBruijn64tab", laid_math_bits_deBruijn64tab), ("internal/strconv.uint64pow10", laid_internal_strconv_uint64pow10), ("unicode/utf8.acceptRanges", laid_unicode_utf8_acceptRanges), ("strconv.ErrRange", laid_strconv_ErrRange), ("strconv.ErrSyntax", laid_strconv_ErrSyntax), ("unicode/utf8.first", laid_unicode_utf8_first)] }
def InvariantNamesSaid : Prop := invariantNamesRow.holds Tryz.pinned (OpenSpec.ofChange invariantNamesSpec)

/-- ITS FALSE NEIGHBOUR: 'it returns false'. Refute it at one input. -/
def invariantNamesWrong : ChangeSpec := { name := "invariantNames", fn := fun _ => fun
  | [d1, d2, d3] => { results := [.lit (.bool false)], args := [d1, d2, d3] }
  | _ => none }
def InvariantNamesWrongFalsely : Prop := invariantNamesRow.holds Tryz.pinned (OpenSpec.ofChange invariantNamesWrong)

/- THE SECOND FORM. 'bulk': how many values and letters a reading holds, each counted each time it is reached (what is shared counts as often as it is met; a slice's spare places count too). A statement '..UptoSaid' is the law's where the arguments, and the package variables that the reading takes, are together of bulk at most 1048576: NARROWER than '..Said'. Prove '..Said' where nothing that the law and all that it calls make is longer than what came in: it says more and counts as full. Else prove '..UptoSaid'. A law counts once. -/
mutual
def uptoBulk {H : Type} : DataW H → Nat
  | .lit (.string bytes) => bytes.length + 1
  | .lit _ => 1
  | .nil => 1
  | .ptr d => uptoBulk d + 1
  | .slice elems spare => uptoBulkAll elems + uptoBulkAll spare + 1
  | .agg parts => uptoBulkAll parts + 1
  | .iface _ d => uptoBulk d + 1
  | .map entries => uptoBulkEntries entries + 1
  | .held _ => 1
def uptoBulkAll {H : Type} : List (DataW H) → Nat
  | [] => 0
  | d :: r => uptoBulk d + uptoBulkAll r
def uptoBulkEntries {H : Type} : List (Lit × DataW H) → Nat
  | [] => 0
  | x :: r => uptoBulkEntry x + uptoBulkEntries r
def uptoBulkEntry {H : Type} : Lit × DataW H → Nat
  | (.string bytes, d) => bytes.length + uptoBulk d + 1
  | (_, d) => uptoBulk d + 1
 end
def uptoSmall : (H : Type) → List (DataW H) → Bool := fun _ ds => decide (uptoBulkAll ds ≤ 1048576)
def OpenSpec.upto (s : _root_.Go.ChangeSpec) : _root_.Go.OpenSpec := { _root_.Go.OpenSpec.ofChange s with cond := some uptoSmall }

/-- 'schismatop.TopSectionsSplit', WHERE WHAT IT READS IS OF BULK AT MOST 1048576: true; the input reads as it did. -/
def topSectionsSplitUptoRow : OpenClaim := { program := "ytoonaddcfakamaagreatdoor", sum := "18d0c3a56c64b12f8b97796aa3484eed57b4df4353b20c72e787c695545b4a1f", func := "schisma/schismatop.TopSectionsSplit", spec := "topSectionsSplit", inPlace := ["internal/abi.NoEscape", "internal/bytealg.MakeNoZero"], unfollowed := true, recurses := true, named := ["internal/strconv.uint64pow10", "math/bits.deBruijn32tab", "math/bits.deBruijn64tab", "strconv.ErrSyntax", "strconv.ErrRange"], apart := false, laid := [("math/bits.deBruijn32tab", laid_math_bits_deBruijn32tab), ("math/bits.deBruijn64tab", laid_math_bits_deBruijn64tab), ("internal/strconv.uint64pow10", laid_internal_strconv_uint64pow10), ("strconv.ErrRange", laid_strconv_ErrRange), ("strconv.ErrSyntax", laid_strconv_ErrSyntax)], narrowed := true }
def TopSectionsSplitUptoSaid : Prop := topSectionsSplitUptoRow.holds Tryz.pinned (OpenSpec.upto topSectionsSplitSpec)

/-- 'schismatop.TopPresentationsAgree', WHERE WHAT IT READS IS OF BULK AT MOST 1048576: true; the input reads as it did. -/
def topPresentationsAgreeUptoRow : OpenClaim := { program := "ytoonaddcfakamaagreatdoor", sum := "18d0c3a56c64b12f8b97796aa3484eed57b4df4353b20c72e787c695545b4a1f", func := "schisma/schismatop.TopPresentationsAgree", spec := "topPresentationsAgree", inPlace := ["internal/abi.NoEscape", "internal/bytealg.MakeNoZero"], unfollowed := true, recurses := true, named := ["internal/strconv.uint64pow10", "math/bits.deBruijn32tab", "math/bits.deBruijn64tab", "strconv.ErrSyntax", "strconv.ErrRange"], apart := false, laid := [("math/bits.deBruijn32tab", laid_math_bits_deBruijn32tab), ("math/bits.deBruijn64tab", laid_math_bits_deBruijn64tab), ("internal/strconv.uint64pow10", laid_internal_strconv_uint64pow10), ("strconv.ErrRange", laid_strconv_ErrRange), ("strconv.ErrSyntax", laid_strconv_ErrSyntax)], narrowed := true }
def TopPresentationsAgreeUptoSaid : Prop := topPresentationsAgreeUptoRow.holds Tryz.pinned (OpenSpec.upto topPresentationsAgreeSpec)

/-- 'schismatop.TopWedgesAgree', WHERE WHAT IT READS IS OF BULK AT MOST 1048576: true; the input reads as it did. -/
def topWedgesAgreeUptoRow : OpenClaim := { program := "ytoonaddcfakamaagreatdoor", sum := "18d0c3a56c64b12f8b97796aa3484eed57b4df4353b20c72e787c695545b4a1f", func := "schisma/schismatop.TopWedgesAgree", spec := "topWedgesAgree", inPlace := ["internal/abi.NoEscape", "internal/bytealg.MakeNoZero"], unfollowed := true, recurses := true, named := ["internal/strconv.uint64pow10", "math/bits.deBruijn32tab", "math/bits.deBruijn64tab", "strconv.ErrSyntax", "strconv.ErrRange"], apart := false, laid := [("math/bits.deBruijn32tab", laid_math_bits_deBruijn32tab), ("math/bits.deBruijn64tab", laid_math_bits_deBruijn64tab), ("internal/strconv.uint64pow10", laid_internal_strconv_uint64pow10), ("strconv.ErrRange", laid_strconv_ErrRange), ("strconv.ErrSyntax", laid_strconv_ErrSyntax)], narrowed := true }
def TopWedgesAgreeUptoSaid : Prop := topWedgesAgreeUptoRow.holds Tryz.pinned (OpenSpec.upto topWedgesAgreeSpec)

/-- 'schismalaw21.InvariantTorsions', WHERE WHAT IT READS IS OF BULK AT MOST 1048576: true; the input reads as it did. -/
def invariantTorsionsUptoRow : OpenClaim := { program := "ytoonaddcfakamaagreatdoor", sum := "18d0c3a56c64b12f8b97796aa3484eed57b4df4353b20c72e787c695545b4a1f", func := "schisma/schismalaw21.InvariantTorsions", spec := "invariantTorsions", inPlace := ["internal/abi.NoEscape", "internal/bytealg.MakeNoZero"], unfollowed := true, recurses := true, named := ["internal/strconv.uint64pow10", "math/bits.deBruijn32tab", "math/bits.deBruijn64tab", "strconv.ErrSyntax", "strconv.ErrRange"], apart := false, laid := [("math/bits.deBruijn32tab", laid_math_bits_deBruijn32tab), ("math/bits.deBruijn64tab", laid_math_bits_deBruijn64tab), ("internal/strconv.uint64pow10", laid_internal_strconv_uint64pow10), ("strconv.ErrRange", laid_strconv_ErrRange), ("strconv.ErrSyntax", laid_strconv_ErrSyntax)], narrowed := true }
def InvariantTorsionsUptoSaid : Prop := invariantTorsionsUptoRow.holds Tryz.pinned (OpenSpec.upto invariantTorsionsSpec)

/-- 'schismalaw21.InvariantAgrees', WHERE WHAT IT READS IS OF BULK AT MOST 1048576: true; the input reads as it did. -/
def invariantAgreesUptoRow : OpenClaim := { program := "ytoonaddcfakamaagreatdoor", sum := "18d0c3a56c64b12f8b97796aa3484eed57b4df4353b20c72e787c695545b4a1f", func := "schisma/schismalaw21.InvariantAgrees", spec := "invariantAgrees", inPlace := ["internal/abi.NoEscape", "internal/bytealg.MakeNoZero"], unfollowed := true, recurses := true, named := ["internal/strconv.uint64pow10", "math/bits.deBruijn32tab", "math/bits.deBruijn64tab", "strconv.ErrSyntax", "strconv.ErrRange"], apart := false, laid := [("math/bits.deBruijn32tab", laid_math_bits_deBruijn32tab), ("math/bits.deBruijn64tab", laid_math_bits_deBruijn64tab), ("internal/strconv.uint64pow10", laid_internal_strconv_uint64pow10), ("strconv.ErrRange", laid_strconv_ErrRange), ("strconv.ErrSyntax", laid_strconv_ErrSyntax)], narrowed := true }
def InvariantAgreesUptoSaid : Prop := invariantAgreesUptoRow.holds Tryz.pinned (OpenSpec.upto invariantAgreesSpec)

/-- 'schismalaw21.InvariantSame', WHERE WHAT IT READS IS OF BULK AT MOST 1048576: true; the input reads as it did. -/
def invariantSameUptoRow : OpenClaim := { program := "ytoonaddcfakamaagreatdoor", sum := "18d0c3a56c64b12f8b97796aa3484eed57b4df4353b20c72e787c695545b4a1f", func := "schisma/schismalaw21.InvariantSame", spec := "invariantSame", inPlace := ["internal/abi.NoEscape", "internal/bytealg.MakeNoZero"], unfollowed := true, recurses := true, named := ["internal/strconv.uint64pow10", "math/bits.deBruijn32tab", "math/bits.deBruijn64tab", "strconv.ErrSyntax", "strconv.ErrRange"], apart := false, laid := [("math/bits.deBruijn32tab", laid_math_bits_deBruijn32tab), ("math/bits.deBruijn64tab", laid_math_bits_deBruijn64tab), ("internal/strconv.uint64pow10", laid_internal_strconv_uint64pow10), ("strconv.ErrRange", laid_strconv_ErrRange), ("strconv.ErrSyntax", laid_strconv_ErrSyntax)], narrowed := true }
def InvariantSameUptoSaid : Prop := invariantSameUptoRow.holds Tryz.pinned (OpenSpec.upto invariantSameSpec)

/-- 'schismalaw21.InvariantDoubles', WHERE WHAT IT READS IS OF BULK AT MOST 1048576: true; the input reads as it did. -/
def invariantDoublesUptoRow : OpenClaim := { program := "ytoonaddcfakamaagreatdoor", sum := "18d0c3a56c64b12f8b97796aa3484eed57b4df4353b20c72e787c695545b4a1f", func := "schisma/schismalaw21.InvariantDoubles", spec := "invariantDoubles", inPlace := ["internal/abi.NoEscape", "internal/bytealg.MakeNoZero"], unfollowed := true, recurses := true, named := ["internal/strconv.uint64pow10", "math/bits.deBruijn32tab", "math/bits.deBruijn64tab", "strconv.ErrSyntax", "strconv.ErrRange"], apart := false, laid := [("math/bits.deBruijn32tab", laid_math_bits_deBruijn32tab), ("math/bits.deBruijn64tab", laid_math_bits_deBruijn64tab), ("internal/strconv.uint64pow10", laid_internal_strconv_uint64pow10), ("strconv.ErrRange", laid_strconv_ErrRange), ("strconv.ErrSyntax", laid_strconv_ErrSyntax)], narrowed := true }
def InvariantDoublesUptoSaid : Prop := invariantDoublesUptoRow.holds Tryz.pinned (OpenSpec.upto invariantDoublesSpec)

/-- 'schismalaw21.InvariantForms', WHERE WHAT IT READS IS OF BULK AT MOST 1048576: true; the input reads as it did. -/
def invariantFormsUptoRow : OpenClaim := { program := "ytoonaddcfakamaagreatdoor", sum := "18d0c3a56c64b12f8b97796aa3484eed57b4df4353b20c72e787c695545b4a1f", func := "schisma/schismalaw21.InvariantForms", spec := "invariantForms", inPlace := ["internal/abi.NoEscape", "internal/bytealg.MakeNoZero"], unfollowed := true, recurses := true, named := ["internal/strconv.uint64pow10", "math/bits.deBruijn32tab", "math/bits.deBruijn64tab", "strconv.ErrSyntax", "strconv.ErrRange"], apart := false, laid := [("math/bits.deBruijn32tab", laid_math_bits_deBruijn32tab), ("math/bits.deBruijn64tab", laid_math_bits_deBruijn64tab), ("internal/strconv.uint64pow10", laid_internal_strconv_uint64pow10), ("strconv.ErrRange", laid_strconv_ErrRange), ("strconv.ErrSyntax", laid_strconv_ErrSyntax)], narrowed := true }
def InvariantFormsUptoSaid : Prop := invariantFormsUptoRow.holds Tryz.pinned (OpenSpec.upto invariantFormsSpec)

/-- 'schismalaw21.InvariantWedges', WHERE WHAT IT READS IS OF BULK AT MOST 1048576: true; the input reads as it did. -/
def invariantWedgesUptoRow : OpenClaim := { program := "ytoonaddcfakamaagreatdoor", sum := "18d0c3a56c64b12f8b97796aa3484eed57b4df4353b20c72e787c695545b4a1f", func := "schisma/schismalaw21.InvariantWedges", spec := "invariantWedges", inPlace := ["internal/abi.NoEscape", "internal/bytealg.MakeNoZero"], unfollowed := true, recurses := true, named := ["internal/strconv.uint64pow10", "math/bits.deBruijn32tab", "math/bits.deBruijn64tab", "strconv.ErrSyntax", "strconv.ErrRange"], apart := false, laid := [("math/bits.deBruijn32tab", laid_math_bits_deBruijn32tab), ("math/bits.deBruijn64tab", laid_math_bits_deBruijn64tab), ("internal/strconv.uint64pow10", laid_internal_strconv_uint64pow10), ("strconv.ErrRange", laid_strconv_ErrRange), ("strconv.ErrSyntax", laid_strconv_ErrSyntax)], narrowed := true }
def InvariantWedgesUptoSaid : Prop := invariantWedgesUptoRow.holds Tryz.pinned (OpenSpec.upto invariantWedgesSpec)

/-- 'schismalaw21.InvariantReads', WHERE WHAT IT READS IS OF BULK AT MOST 1048576: true; the input reads as it did. -/
def invariantReadsUptoRow : OpenClaim := { program := "ytoonaddcfakamaagreatdoor", sum := "18d0c3a56c64b12f8b97796aa3484eed57b4df4353b20c72e787c695545b4a1f", func := "schisma/schismalaw21.InvariantReads", spec := "invariantReads", inPlace := ["internal/abi.NoEscape", "internal/bytealg.MakeNoZero", "internal/bytealg.IndexByteString", "internal/bytealg.IndexString", "internal/bytealg.CountString"], unfollowed := true, recurses := true, named := ["internal/strconv.uint64pow10", "math/bits.deBruijn32tab", "math/bits.deBruijn64tab", "strconv.ErrSyntax", "strconv.ErrRange", "internal/bytealg.MaxLen", "unicode/utf8.first", "unicode/utf8.acceptRanges"], apart := false, laid := [("math/bits.deBruijn32tab", laid_math_bits_deBruijn32tab), ("math/bits.deBruijn64tab", laid_math_bits_deBruijn64tab), ("internal/strconv.uint64pow10", laid_internal_strconv_uint64pow10), ("unicode/utf8.acceptRanges", laid_unicode_utf8_acceptRanges), ("strconv.ErrRange", laid_strconv_ErrRange), ("strconv.ErrSyntax", laid_strconv_ErrSyntax), ("unicode/utf8.first", laid_unicode_utf8_first)], narrowed := true }
def InvariantReadsUptoSaid : Prop := invariantReadsUptoRow.holds Tryz.pinned (OpenSpec.upto invariantReadsSpec)

/-- 'schismalaw21.InvariantNames', WHERE WHAT IT READS IS OF BULK AT MOST 1048576: true; the input reads as it did. -/
def invariantNamesUptoRow : OpenClaim := { program := "ytoonaddcfakamaagreatdoor", sum := "18d0c3a56c64b12f8b97796aa3484eed57b4df4353b20c72e787c695545b4a1f", func := "schisma/schismalaw21.InvariantNames", spec := "invariantNames", inPlace := ["internal/abi.NoEscape", "internal/bytealg.MakeNoZero", "internal/bytealg.IndexByteString", "internal/bytealg.IndexString", "internal/bytealg.CountString"], unfollowed := true, recurses := true, named := ["internal/strconv.uint64pow10", "math/bits.deBruijn32tab", "math/bits.deBruijn64tab", "strconv.ErrSyntax", "strconv.ErrRange", "internal/bytealg.MaxLen", "unicode/utf8.first", "unicode/utf8.acceptRanges"], apart := false, laid := [("math/bits.deBruijn32tab", laid_math_bits_deBruijn32tab), ("math/bits.deBruijn64tab", laid_math_bits_deBruijn64tab), ("internal/strconv.uint64pow10", laid_internal_strconv_uint64pow10), ("unicode/utf8.acceptRanges", laid_unicode_utf8_acceptRanges), ("strconv.ErrRange", laid_strconv_ErrRange), ("strconv.ErrSyntax", laid_strconv_ErrSyntax), ("unicode/utf8.first", laid_unicode_utf8_first)], narrowed := true }
def InvariantNamesUptoSaid : Prop := invariantNamesUptoRow.holds Tryz.pinned (OpenSpec.upto invariantNamesSpec)

end Rows
end Go.Proofs.YtoonaddcfakamaaGreatDoor
