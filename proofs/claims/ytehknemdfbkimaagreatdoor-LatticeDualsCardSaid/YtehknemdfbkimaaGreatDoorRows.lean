/-
  NARROWER THAN 'FOR EVERY INPUT', by the rows' own cells (each row's printed sentence says how): LatticeSaturates: laid · LatticeContains: laid · LatticeBoxes: laid · LatticeDuals: laid · TemperamentTexts: laid · TemperamentIdentifies: laid · TemperamentSpans: laid · TemperamentEnds: laid · TemperamentReturns: laid · TemperamentTempers: laid · TemperamentChecks: laid · TemperamentAdds: laid.
  DERIVED. THE GIVEN ROWS OF THIS SEAT. 12 by the template 'for every input the law returns true; each argument reads behind the call as it read before'; 0 by the template 'total and deterministic' (their statements: YtehknemdfbkimaaGreatDoorTotals.lean).
  GIVEN WITH THE SEED: the statements are not yours to turn. If you find one false, say at which input.
  Laid BY PROGRAM, IN A SANDBOX (cutbox-rows.mjs): the forced cells as the released guide's own fill.sh prints them over the translation aa7fac7c2f673a2b… (all of the seat's roots in one cut). By AI agents, Wed Nov 11 2026. No macro, syntax, notation, axiom, sorry.
-/
import Derived.Test.YtehknemdfbkimaaGreatDoorChecked
import GoSem.Claim
import GoSem.ClaimJoined
import GoSem.ClaimMapViews
import Derived.JoinedTies
import Derived.KernelRfl
namespace Go.Proofs.YtehknemdfbkimaaGreatDoor
/- THE CELL 'sum', in the pinned program and in every row, IS THE sha256 OF THE DUMP (.gsa) THAT YtehknemdfbkimaaGreatDoorProg.lean LOADS. Nothing in Lean hashes anything: it is a label: what it is worth is what the hold of that sum in a sandbox is worth. -/
noncomputable def Tryz.pinned : Pinned := { name := "ytehknemdfbkimaagreatdoor", sum := "aa7fac7c2f673a2b2a673490b91a9109f9f8cf1e32541df119e1172eb93a8a1b", checked := Tryz.checked }
namespace Rows
def none {H : Type} : Left H := { results := [], args := [] }

/- WHAT THE LISTED PACKAGE-LEVEL VARIABLES READ AS WHEN THE CALL BEGINS. Each datum BY PROGRAM (the guide's laid-datum.mjs) off the statement by which the dump's own 'gosem.cut.vars' lays the variable. In a bare row this is a premise. The card (YtehknemdfbkimaaGreatDoorCards.lean) ties it to the program's text. -/
def laid_math_bits_deBruijn32tab {H : Type} : DataW H := .agg [.lit (.int .u8 0), .lit (.int .u8 1), .lit (.int .u8 28), .lit (.int .u8 2), .lit (.int .u8 29), .lit (.int .u8 14), .lit (.int .u8 24), .lit (.int .u8 3), .lit (.int .u8 30), .lit (.int .u8 22), .lit (.int .u8 20), .lit (.int .u8 15), .lit (.int .u8 25), .lit (.int .u8 17), .lit (.int .u8 4), .lit (.int .u8 8), .lit (.int .u8 31), .lit (.int .u8 27), .lit (.int .u8 13), .lit (.int .u8 23), .lit (.int .u8 21), .lit (.int .u8 19), .lit (.int .u8 16), .lit (.int .u8 7), .lit (.int .u8 26), .lit (.int .u8 12), .lit (.int .u8 18), .lit (.int .u8 6), .lit (.int .u8 11), .lit (.int .u8 5), .lit (.int .u8 10), .lit (.int .u8 9)]
def laid_math_bits_deBruijn64tab {H : Type} : DataW H := .agg [.lit (.int .u8 0), .lit (.int .u8 1), .lit (.int .u8 56), .lit (.int .u8 2), .lit (.int .u8 57), .lit (.int .u8 49), .lit (.int .u8 28), .lit (.int .u8 3), .lit (.int .u8 61), .lit (.int .u8 58), .lit (.int .u8 42), .lit (.int .u8 50), .lit (.int .u8 38), .lit (.int .u8 29), .lit (.int .u8 17), .lit (.int .u8 4), .lit (.int .u8 62), .lit (.int .u8 47), .lit (.int .u8 59), .lit (.int .u8 36), .lit (.int .u8 45), .lit (.int .u8 43), .lit (.int .u8 51), .lit (.int .u8 22), .lit (.int .u8 53), .lit (.int .u8 39), .lit (.int .u8 33), .lit (.int .u8 30), .lit (.int .u8 24), .lit (.int .u8 18), .lit (.int .u8 12), .lit (.int .u8 5), .lit (.int .u8 63), .lit (.int .u8 55), .lit (.int .u8 48), .lit (.int .u8 27), .lit (.int .u8 60), .lit (.int .u8 41), .lit (.int .u8 37), .lit (.int .u8 16), .lit (.int .u8 46), .lit (.int .u8 35), .lit (.int .u8 44), .lit (.int .u8 21), .lit (.int .u8 52), .lit (.int .u8 32), .lit (.int .u8 23), .lit (.int .u8 11), .lit (.int .u8 54), .lit (.int .u8 26), .lit (.int .u8 40), .lit (.int .u8 15), .lit (.int .u8 34), .lit (.int .u8 20), .lit (.int .u8 31), .lit (.int .u8 10), .lit (.int .u8 25), .lit (.int .u8 14), .lit (.int .u8 19), .lit (.int .u8 9), .lit (.int .u8 13), .lit (.int .u8 8), .lit (.int .u8 7), .lit (.int .u8 6)]
def laid_internal_strconv_uint64pow10 {H : Type} : DataW H := .agg [.lit (.int .u64 1), .lit (.int .u64 10), .lit (.int .u64 100), .lit (.int .u64 1000), .lit (.int .u64 10000), .lit (.int .u64 100000), .lit (.int .u64 1000000), .lit (.int .u64 10000000), .lit (.int .u64 100000000), .lit (.int .u64 1000000000), .lit (.int .u64 10000000000), .lit (.int .u64 100000000000), .lit (.int .u64 1000000000000), .lit (.int .u64 10000000000000), .lit (.int .u64 100000000000000), .lit (.int .u64 1000000000000000), .lit (.int .u64 10000000000000000), .lit (.int .u64 100000000000000000), .lit (.int .u64 1000000000000000000), .lit (.int .u64 10000000000000000000)]
def laid_strconv_ErrRange {H : Type} : DataW H := .iface "*errors.errorString" (.ptr (.agg [.lit (.string [118, 97, 108, 117, 101, 32, 111, 117, 116, 32, 111, 102, 32, 114, 97, 110, 103, 101])]))
def laid_strconv_ErrSyntax {H : Type} : DataW H := .iface "*errors.errorString" (.ptr (.agg [.lit (.string [105, 110, 118, 97, 108, 105, 100, 32, 115, 121, 110, 116, 97, 120])]))

/-- 'schismalaw09.LatticeSaturates': WHATEVER THE INPUT: true; the input reads as it did. -/
def latticeSaturatesSpec : ChangeSpec := { name := "latticeSaturates", fn := fun _ => fun
  | [d] => { results := [.lit (.bool true)], args := [d] }
  | _ => none }
def latticeSaturatesRow : OpenClaim := { program := "ytehknemdfbkimaagreatdoor", sum := "aa7fac7c2f673a2b2a673490b91a9109f9f8cf1e32541df119e1172eb93a8a1b", func := "schisma/schismalaw09.LatticeSaturates", spec := "latticeSaturates", unfollowed := true, recurses := true, named := ["internal/strconv.uint64pow10", "math/bits.deBruijn32tab", "math/bits.deBruijn64tab", "strconv.ErrSyntax", "strconv.ErrRange"], apart := false, laid := [("math/bits.deBruijn32tab", laid_math_bits_deBruijn32tab), ("math/bits.deBruijn64tab", laid_math_bits_deBruijn64tab), ("internal/strconv.uint64pow10", laid_internal_strconv_uint64pow10), ("strconv.ErrRange", laid_strconv_ErrRange), ("strconv.ErrSyntax", laid_strconv_ErrSyntax)] }
def LatticeSaturatesSaid : Prop := latticeSaturatesRow.holds Tryz.pinned (OpenSpec.ofChange latticeSaturatesSpec)

/-- ITS FALSE NEIGHBOUR: 'it returns false'. Refute it at one input. -/
def latticeSaturatesWrong : ChangeSpec := { name := "latticeSaturates", fn := fun _ => fun
  | [d] => { results := [.lit (.bool false)], args := [d] }
  | _ => none }
def LatticeSaturatesWrongFalsely : Prop := latticeSaturatesRow.holds Tryz.pinned (OpenSpec.ofChange latticeSaturatesWrong)

/-- 'schismalaw09.LatticeContains': WHATEVER THE INPUT: true; the input reads as it did. -/
def latticeContainsSpec : ChangeSpec := { name := "latticeContains", fn := fun _ => fun
  | [d1, d2] => { results := [.lit (.bool true)], args := [d1, d2] }
  | _ => none }
def latticeContainsRow : OpenClaim := { program := "ytehknemdfbkimaagreatdoor", sum := "aa7fac7c2f673a2b2a673490b91a9109f9f8cf1e32541df119e1172eb93a8a1b", func := "schisma/schismalaw09.LatticeContains", spec := "latticeContains", unfollowed := true, recurses := true, named := ["internal/strconv.uint64pow10", "math/bits.deBruijn32tab", "math/bits.deBruijn64tab", "strconv.ErrSyntax", "strconv.ErrRange"], apart := false, laid := [("math/bits.deBruijn32tab", laid_math_bits_deBruijn32tab), ("math/bits.deBruijn64tab", laid_math_bits_deBruijn64tab), ("internal/strconv.uint64pow10", laid_internal_strconv_uint64pow10), ("strconv.ErrRange", laid_strconv_ErrRange), ("strconv.ErrSyntax", laid_strconv_ErrSyntax)] }
def LatticeContainsSaid : Prop := latticeContainsRow.holds Tryz.pinned (OpenSpec.ofChange latticeContainsSpec)

/-- ITS FALSE NEIGHBOUR: 'it returns false'. Refute it at one input. -/
def latticeContainsWrong : ChangeSpec := { name := "latticeContains", fn := fun _ => fun
  | [d1, d2] => { results := [.lit (.bool false)], args := [d1, d2] }
  | _ => none }
def LatticeContainsWrongFalsely : Prop := latticeContainsRow.holds Tryz.pinned (OpenSpec.ofChange latticeContainsWrong)

/-- 'schismalaw09.LatticeBoxes': WHATEVER THE INPUT: true; the input reads as it did. -/
def latticeBoxesSpec : ChangeSpec := { name := "latticeBoxes", fn := fun _ => fun
  | [d1, d2] => { results := [.lit (.bool true)], args := [d1, d2] }
  | _ => none }
def latticeBoxesRow : OpenClaim := { program := "ytehknemdfbkimaagreatdoor", sum := "aa7fac7c2f673a2b2a673490b91a9109f9f8cf1e32541df119e1172eb93a8a1b", func := "schisma/schismalaw09.LatticeBoxes", spec := "latticeBoxes", unfollowed := true, recurses := true, named := ["internal/strconv.uint64pow10", "math/bits.deBruijn32tab", "math/bits.deBruijn64tab", "strconv.ErrSyntax", "strconv.ErrRange"], apart := false, laid := [("math/bits.deBruijn32tab", laid_math_bits_deBruijn32tab), ("math/bits.deBruijn64tab", laid_math_bits_deBruijn64tab), ("internal/strconv.uint64pow10", laid_internal_strconv_uint64pow10), ("strconv.ErrRange", laid_strconv_ErrRange), ("strconv.ErrSyntax", laid_strconv_ErrSyntax)] }
def LatticeBoxesSaid : Prop := latticeBoxesRow.holds Tryz.pinned (OpenSpec.ofChange latticeBoxesSpec)

/-- ITS FALSE NEIGHBOUR: 'it returns false'. Refute it at one input. -/
def latticeBoxesWrong : ChangeSpec := { name := "latticeBoxes", fn := fun _ => fun
  | [d1, d2] => { results := [.lit (.bool false)], args := [d1, d2] }
  | _ => none }
def LatticeBoxesWrongFalsely : Prop := latticeBoxesRow.holds Tryz.pinned (OpenSpec.ofChange latticeBoxesWrong)

/-- 'schismalaw09.LatticeDuals': WHATEVER THE INPUT: true; the input reads as it did. -/
def latticeDualsSpec : ChangeSpec := { name := "latticeDuals", fn := fun _ => fun
  | [d1, d2] => { results := [.lit (.bool true)], args := [d1, d2] }
  | _ => none }
def latticeDualsRow : OpenClaim := { program := "ytehknemdfbkimaagreatdoor", sum := "aa7fac7c2f673a2b2a673490b91a9109f9f8cf1e32541df119e1172eb93a8a1b", func := "schisma/schismalaw09.LatticeDuals", spec := "latticeDuals", unfollowed := true, recurses := true, named := ["internal/strconv.uint64pow10", "math/bits.deBruijn32tab", "math/bits.deBruijn64tab", "strconv.ErrSyntax", "strconv.ErrRange"], apart := false, laid := [("math/bits.deBruijn32tab", laid_math_bits_deBruijn32tab), ("math/bits.deBruijn64tab", laid_math_bits_deBruijn64tab), ("internal/strconv.uint64pow10", laid_internal_strconv_uint64pow10), ("strconv.ErrRange", laid_strconv_ErrRange), ("strconv.ErrSyntax", laid_strconv_ErrSyntax)] }
def LatticeDualsSaid : Prop := latticeDualsRow.holds Tryz.pinned (OpenSpec.ofChange latticeDualsSpec)

/-- ITS FALSE NEIGHBOUR: 'it returns false'. Refute it at one input. -/
def latticeDualsWrong : ChangeSpec := { name := "latticeDuals", fn := fun _ => fun
  | [d1, d2] => { results := [.lit (.bool false)], args := [d1, d2] }
  | _ => none }
def LatticeDualsWrongFalsely : Prop := latticeDualsRow.holds Tryz.pinned (OpenSpec.ofChange latticeDualsWrong)

/-- 'schismalaw18.TemperamentTexts': WHATEVER THE INPUT: true; the input reads as it did. -/
def temperamentTextsSpec : ChangeSpec := { name := "temperamentTexts", fn := fun _ => fun
  | [d] => { results := [.lit (.bool true)], args := [d] }
  | _ => none }
def temperamentTextsRow : OpenClaim := { program := "ytehknemdfbkimaagreatdoor", sum := "aa7fac7c2f673a2b2a673490b91a9109f9f8cf1e32541df119e1172eb93a8a1b", func := "schisma/schismalaw18.TemperamentTexts", spec := "temperamentTexts", inPlace := ["internal/abi.NoEscape", "internal/bytealg.MakeNoZero"], unfollowed := true, recurses := true, named := ["internal/strconv.uint64pow10", "math/bits.deBruijn32tab", "math/bits.deBruijn64tab", "strconv.ErrSyntax", "strconv.ErrRange"], apart := false, laid := [("math/bits.deBruijn32tab", laid_math_bits_deBruijn32tab), ("math/bits.deBruijn64tab", laid_math_bits_deBruijn64tab), ("internal/strconv.uint64pow10", laid_internal_strconv_uint64pow10), ("strconv.ErrRange", laid_strconv_ErrRange), ("strconv.ErrSyntax", laid_strconv_ErrSyntax)] }
def TemperamentTextsSaid : Prop := temperamentTextsRow.holds Tryz.pinned (OpenSpec.ofChange temperamentTextsSpec)

/-- ITS FALSE NEIGHBOUR: 'it returns false'. Refute it at one input. -/
def temperamentTextsWrong : ChangeSpec := { name := "temperamentTexts", fn := fun _ => fun
  | [d] => { results := [.lit (.bool false)], args := [d] }
  | _ => none }
def TemperamentTextsWrongFalsely : Prop := temperamentTextsRow.holds Tryz.pinned (OpenSpec.ofChange temperamentTextsWrong)

/-- 'schismalaw18.TemperamentIdentifies': WHATEVER THE INPUT: true; the input reads as it did. -/
def temperamentIdentifiesSpec : ChangeSpec := { name := "temperamentIdentifies", fn := fun _ => fun
  | [d1, d2, d3] => { results := [.lit (.bool true)], args := [d1, d2, d3] }
  | _ => none }
def temperamentIdentifiesRow : OpenClaim := { program := "ytehknemdfbkimaagreatdoor", sum := "aa7fac7c2f673a2b2a673490b91a9109f9f8cf1e32541df119e1172eb93a8a1b", func := "schisma/schismalaw18.TemperamentIdentifies", spec := "temperamentIdentifies", inPlace := ["internal/abi.NoEscape", "internal/bytealg.MakeNoZero"], unfollowed := true, recurses := true, named := ["internal/strconv.uint64pow10", "math/bits.deBruijn32tab", "math/bits.deBruijn64tab", "strconv.ErrSyntax", "strconv.ErrRange"], apart := false, laid := [("math/bits.deBruijn32tab", laid_math_bits_deBruijn32tab), ("math/bits.deBruijn64tab", laid_math_bits_deBruijn64tab), ("internal/strconv.uint64pow10", laid_internal_strconv_uint64pow10), ("strconv.ErrRange", laid_strconv_ErrRange), ("strconv.ErrSyntax", laid_strconv_ErrSyntax)] }
def TemperamentIdentifiesSaid : Prop := temperamentIdentifiesRow.holds Tryz.pinned (OpenSpec.ofChange temperamentIdentifiesSpec)

/-- ITS FALSE NEIGHBOUR: 'it returns false'. Refute it at one input. -/
def temperamentIdentifiesWrong : ChangeSpec := { name := "temperamentIdentifies", fn := fun _ => fun
  | [d1, d2, d3] => { results := [.lit (.bool false)], args := [d1, d2, d3] }
  | _ => none }
def TemperamentIdentifiesWrongFalsely : Prop := temperamentIdentifiesRow.holds Tryz.pinned (OpenSpec.ofChange temperamentIdentifiesWrong)

/-- 'schismalaw18.TemperamentSpans': WHATEVER THE INPUT: true; the input reads as it did. -/
def temperamentSpansSpec : ChangeSpec := { name := "temperamentSpans", fn := fun _ => fun
  | [d1, d2] => { results := [.lit (.bool true)], args := [d1, d2] }
  | _ => none }
def temperamentSpansRow : OpenClaim := { program := "ytehknemdfbkimaagreatdoor", sum := "aa7fac7c2f673a2b2a673490b91a9109f9f8cf1e32541df119e1172eb93a8a1b", func := "schisma/schismalaw18.TemperamentSpans", spec := "temperamentSpans", inPlace := ["internal/abi.NoEscape", "internal/bytealg.MakeNoZero"], unfollowed := true, recurses := true, named := ["internal/strconv.uint64pow10", "math/bits.deBruijn32tab", "math/bits.deBruijn64tab", "strconv.ErrSyntax", "strconv.ErrRange"], apart := false, laid := [("math/bits.deBruijn32tab", laid_math_bits_deBruijn32tab), ("math/bits.deBruijn64tab", laid_math_bits_deBruijn64tab), ("internal/strconv.uint64pow10", laid_internal_strconv_uint64pow10), ("strconv.ErrRange", laid_strconv_ErrRange), ("strconv.ErrSyntax", laid_strconv_ErrSyntax)] }
def TemperamentSpansSaid : Prop := temperamentSpansRow.holds Tryz.pinned (OpenSpec.ofChange temperamentSpansSpec)

/-- ITS FALSE NEIGHBOUR: 'it returns false'. Refute it at one input. -/
def temperamentSpansWrong : ChangeSpec := { name := "temperamentSpans", fn := fun _ => fun
  | [d1, d2] => { results := [.lit (.bool false)], args := [d1, d2] }
  | _ => none }
def TemperamentSpansWrongFalsely : Prop := temperamentSpansRow.holds Tryz.pinned (OpenSpec.ofChange temperamentSpansWrong)

/-- 'schismalaw18.TemperamentEnds': WHATEVER THE INPUT: true; the input reads as it did. -/
def temperamentEndsSpec : ChangeSpec := { name := "temperamentEnds", fn := fun _ => fun
  | [d] => { results := [.lit (.bool true)], args := [d] }
  | _ => none }
def temperamentEndsRow : OpenClaim := { program := "ytehknemdfbkimaagreatdoor", sum := "aa7fac7c2f673a2b2a673490b91a9109f9f8cf1e32541df119e1172eb93a8a1b", func := "schisma/schismalaw18.TemperamentEnds", spec := "temperamentEnds", inPlace := ["internal/abi.NoEscape", "internal/bytealg.MakeNoZero"], unfollowed := true, recurses := true, named := ["internal/strconv.uint64pow10", "math/bits.deBruijn32tab", "math/bits.deBruijn64tab", "strconv.ErrSyntax", "strconv.ErrRange"], apart := false, laid := [("math/bits.deBruijn32tab", laid_math_bits_deBruijn32tab), ("math/bits.deBruijn64tab", laid_math_bits_deBruijn64tab), ("internal/strconv.uint64pow10", laid_internal_strconv_uint64pow10), ("strconv.ErrRange", laid_strconv_ErrRange), ("strconv.ErrSyntax", laid_strconv_ErrSyntax)] }
def TemperamentEndsSaid : Prop := temperamentEndsRow.holds Tryz.pinned (OpenSpec.ofChange temperamentEndsSpec)

/-- ITS FALSE NEIGHBOUR: 'it returns false'. Refute it at one input. -/
def temperamentEndsWrong : ChangeSpec := { name := "temperamentEnds", fn := fun _ => fun
  | [d] => { results := [.lit (.bool false)], args := [d] }
  | _ => none }
def TemperamentEndsWrongFalsely : Prop := temperamentEndsRow.holds Tryz.pinned (OpenSpec.ofChange temperamentEndsWrong)

/-- 'schismalaw18.TemperamentReturns': WHATEVER THE INPUT: true; the input reads as it did. -/
def temperamentReturnsSpec : ChangeSpec := { name := "temperamentReturns", fn := fun _ => fun
  | [d] => { results := [.lit (.bool true)], args := [d] }
  | _ => none }
def temperamentReturnsRow : OpenClaim := { program := "ytehknemdfbkimaagreatdoor", sum := "aa7fac7c2f673a2b2a673490b91a9109f9f8cf1e32541df119e1172eb93a8a1b", func := "schisma/schismalaw18.TemperamentReturns", spec := "temperamentReturns", inPlace := ["internal/abi.NoEscape", "internal/bytealg.MakeNoZero"], unfollowed := true, recurses := true, named := ["internal/strconv.uint64pow10", "math/bits.deBruijn32tab", "math/bits.deBruijn64tab", "strconv.ErrSyntax", "strconv.ErrRange"], apart := false, laid := [("math/bits.deBruijn32tab", laid_math_bits_deBruijn32tab), ("math/bits.deBruijn64tab", laid_math_bits_deBruijn64tab), ("internal/strconv.uint64pow10", laid_internal_strconv_uint64pow10), ("strconv.ErrRange", laid_strconv_ErrRange), ("strconv.ErrSyntax", laid_strconv_ErrSyntax)] }
def TemperamentReturnsSaid : Prop := temperamentReturnsRow.holds Tryz.pinned (OpenSpec.ofChange temperamentReturnsSpec)

/-- ITS FALSE NEIGHBOUR: 'it returns false'. Refute it at one input. -/
def temperamentReturnsWrong : ChangeSpec := { name := "temperamentReturns", fn := fun _ => fun
  | [d] => { results := [.lit (.bool false)], args := [d] }
  | _ => none }
def TemperamentReturnsWrongFalsely : Prop := temperamentReturnsRow.holds Tryz.pinned (OpenSpec.ofChange temperamentReturnsWrong)

/-- 'schismalaw18.TemperamentTempers': WHATEVER THE INPUT: true; the input reads as it did. -/
def temperamentTempersSpec : ChangeSpec := { name := "temperamentTempers", fn := fun _ => fun
  | [d1, d2] => { results := [.lit (.bool true)], args := [d1, d2] }
  | _ => none }
def temperamentTempersRow : OpenClaim := { program := "ytehknemdfbkimaagreatdoor", sum := "aa7fac7c2f673a2b2a673490b91a9109f9f8cf1e32541df119e1172eb93a8a1b", func := "schisma/schismalaw18.TemperamentTempers", spec := "temperamentTempers", inPlace := ["internal/abi.NoEscape", "internal/bytealg.MakeNoZero"], unfollowed := true, recurses := true, named := ["internal/strconv.uint64pow10", "math/bits.deBruijn32tab", "math/bits.deBruijn64tab", "strconv.ErrSyntax", "strconv.ErrRange"], apart := false, laid := [("math/bits.deBruijn32tab", laid_math_bits_deBruijn32tab), ("math/bits.deBruijn64tab", laid_math_bits_deBruijn64tab), ("internal/strconv.uint64pow10", laid_internal_strconv_uint64pow10), ("strconv.ErrRange", laid_strconv_ErrRange), ("strconv.ErrSyntax", laid_strconv_ErrSyntax)] }
def TemperamentTempersSaid : Prop := temperamentTempersRow.holds Tryz.pinned (OpenSpec.ofChange temperamentTempersSpec)

/-- ITS FALSE NEIGHBOUR: 'it returns false'. Refute it at one input. -/
def temperamentTempersWrong : ChangeSpec := { name := "temperamentTempers", fn := fun _ => fun
  | [d1, d2] => { results := [.lit (.bool false)], args := [d1, d2] }
  | _ => none }
def TemperamentTempersWrongFalsely : Prop := temperamentTempersRow.holds Tryz.pinned (OpenSpec.ofChange temperamentTempersWrong)

/-- 'schismalaw18.TemperamentChecks': WHATEVER THE INPUT: true; the input reads as it did. -/
def temperamentChecksSpec : ChangeSpec := { name := "temperamentChecks", fn := fun _ => fun
  | [d1, d2, d3] => { results := [.lit (.bool true)], args := [d1, d2, d3] }
  | _ => none }
def temperamentChecksRow : OpenClaim := { program := "ytehknemdfbkimaagreatdoor", sum := "aa7fac7c2f673a2b2a673490b91a9109f9f8cf1e32541df119e1172eb93a8a1b", func := "schisma/schismalaw18.TemperamentChecks", spec := "temperamentChecks", inPlace := ["internal/abi.NoEscape", "internal/bytealg.MakeNoZero"], unfollowed := true, recurses := true, named := ["internal/strconv.uint64pow10", "math/bits.deBruijn32tab", "math/bits.deBruijn64tab", "strconv.ErrSyntax", "strconv.ErrRange"], apart := false, laid := [("math/bits.deBruijn32tab", laid_math_bits_deBruijn32tab), ("math/bits.deBruijn64tab", laid_math_bits_deBruijn64tab), ("internal/strconv.uint64pow10", laid_internal_strconv_uint64pow10), ("strconv.ErrRange", laid_strconv_ErrRange), ("strconv.ErrSyntax", laid_strconv_ErrSyntax)] }
def TemperamentChecksSaid : Prop := temperamentChecksRow.holds Tryz.pinned (OpenSpec.ofChange temperamentChecksSpec)

/-- ITS FALSE NEIGHBOUR: 'it returns false'. Refute it at one input. -/
def temperamentChecksWrong : ChangeSpec := { name := "temperamentChecks", fn := fun _ => fun
  | [d1, d2, d3] => { results := [.lit (.bool false)], args := [d1, d2, d3] }
  | _ => none }
def TemperamentChecksWrongFalsely : Prop := temperamentChecksRow.holds Tryz.pinned (OpenSpec.ofChange temperamentChecksWrong)

/-- 'schismalaw18.TemperamentAdds': WHATEVER THE INPUT: true; the input reads as it did. -/
def temperamentAddsSpec : ChangeSpec := { name := "temperamentAdds", fn := fun _ => fun
  | [d1, d2] => { results := [.lit (.bool true)], args := [d1, d2] }
  | _ => none }
def temperamentAddsRow : OpenClaim := { program := "ytehknemdfbkimaagreatdoor", sum := "aa7fac7c2f673a2b2a673490b91a9109f9f8cf1e32541df119e1172eb93a8a1b", func := "schisma/schismalaw18.TemperamentAdds", spec := "temperamentAdds", inPlace := ["internal/abi.NoEscape", "internal/bytealg.MakeNoZero"], unfollowed := true, recurses := true, named := ["internal/strconv.uint64pow10", "math/bits.deBruijn32tab", "math/bits.deBruijn64tab", "strconv.ErrSyntax", "strconv.ErrRange"], apart := false, laid := [("math/bits.deBruijn32tab", laid_math_bits_deBruijn32tab), ("math/bits.deBruijn64tab", laid_math_bits_deBruijn64tab), ("internal/strconv.uint64pow10", laid_internal_strconv_uint64pow10), ("strconv.ErrRange", laid_strconv_ErrRange), ("strconv.ErrSyntax", laid_strconv_ErrSyntax)] }
def TemperamentAddsSaid : Prop := temperamentAddsRow.holds Tryz.pinned (OpenSpec.ofChange temperamentAddsSpec)

/-- ITS FALSE NEIGHBOUR: 'it returns false'. Refute it at one input. -/
def temperamentAddsWrong : ChangeSpec := { name := "temperamentAdds", fn := fun _ => fun
  | [d1, d2] => { results := [.lit (.bool false)], args := [d1, d2] }
  | _ => none }
def TemperamentAddsWrongFalsely : Prop := temperamentAddsRow.holds Tryz.pinned (OpenSpec.ofChange temperamentAddsWrong)

/- THE SECOND FORM. 'bulk': how many values and letters a reading holds, each counted each time it is reached (what is shared counts as often as it is met; a slice's spare places count too). A statement '..UptoSaid' is the law's where the arguments, and the package variables that the reading takes, are together of bulk at most 1048576: NARROWER than '..Said'. Prove '..Said' where nothing that the law and all that it calls make is longer than what came in: it says more and counts as full. Else prove '..UptoSaid'. A law counts once. -/
mutual
def uptoBulk {H : Type} : DataW H → Nat
  | .lit (.string bytes) => bytes.length + 1
  | .lit _ => 1
  | .nil => 1
  | .ptr d => uptoBulk d + 1
  | .slice elems spare => uptoBulkAll elems + uptoBulkAll spare + 1
  | .agg parts => uptoBulkAll parts + 1
  | .iface _ d => uptoBulk d + 1
  | .map entries => uptoBulkEntries entries + 1
  | .held _ => 1
def uptoBulkAll {H : Type} : List (DataW H) → Nat
  | [] => 0
  | d :: r => uptoBulk d + uptoBulkAll r
def uptoBulkEntries {H : Type} : List (Lit × DataW H) → Nat
  | [] => 0
  | x :: r => uptoBulkEntry x + uptoBulkEntries r
def uptoBulkEntry {H : Type} : Lit × DataW H → Nat
  | (.string bytes, d) => bytes.length + uptoBulk d + 1
  | (_, d) => uptoBulk d + 1
 end
def uptoSmall : (H : Type) → List (DataW H) → Bool := fun _ ds => decide (uptoBulkAll ds ≤ 1048576)
def OpenSpec.upto (s : _root_.Go.ChangeSpec) : _root_.Go.OpenSpec := { _root_.Go.OpenSpec.ofChange s with cond := some uptoSmall }

/-- 'schismalaw09.LatticeSaturates', WHERE WHAT IT READS IS OF BULK AT MOST 1048576: true; the input reads as it did. -/
def latticeSaturatesUptoRow : OpenClaim := { program := "ytehknemdfbkimaagreatdoor", sum := "aa7fac7c2f673a2b2a673490b91a9109f9f8cf1e32541df119e1172eb93a8a1b", func := "schisma/schismalaw09.LatticeSaturates", spec := "latticeSaturates", unfollowed := true, recurses := true, named := ["internal/strconv.uint64pow10", "math/bits.deBruijn32tab", "math/bits.deBruijn64tab", "strconv.ErrSyntax", "strconv.ErrRange"], apart := false, laid := [("math/bits.deBruijn32tab", laid_math_bits_deBruijn32tab), ("math/bits.deBruijn64tab", laid_math_bits_deBruijn64tab), ("internal/strconv.uint64pow10", laid_internal_strconv_uint64pow10), ("strconv.ErrRange", laid_strconv_ErrRange), ("strconv.ErrSyntax", laid_strconv_ErrSyntax)], narrowed := true }
def LatticeSaturatesUptoSaid : Prop := latticeSaturatesUptoRow.holds Tryz.pinned (OpenSpec.upto latticeSaturatesSpec)

/-- 'schismalaw09.LatticeContains', WHERE WHAT IT READS IS OF BULK AT MOST 1048576: true; the input reads as it did. -/
def latticeContainsUptoRow : OpenClaim := { program := "ytehknemdfbkimaagreatdoor", sum := "aa7fac7c2f673a2b2a673490b91a9109f9f8cf1e32541df119e1172eb93a8a1b", func := "schisma/schismalaw09.LatticeContains", spec := "latticeContains", unfollowed := true, recurses := true, named := ["internal/strconv.uint64pow10", "math/bits.deBruijn32tab", "math/bits.deBruijn64tab", "strconv.ErrSyntax", "strconv.ErrRange"], apart := false, laid := [("math/bits.deBruijn32tab", laid_math_bits_deBruijn32tab), ("math/bits.deBruijn64tab", laid_math_bits_deBruijn64tab), ("internal/strconv.uint64pow10", laid_internal_strconv_uint64pow10), ("strconv.ErrRange", laid_strconv_ErrRange), ("strconv.ErrSyntax", laid_strconv_ErrSyntax)], narrowed := true }
def LatticeContainsUptoSaid : Prop := latticeContainsUptoRow.holds Tryz.pinned (OpenSpec.upto latticeContainsSpec)

/-- 'schismalaw09.LatticeBoxes', WHERE WHAT IT READS IS OF BULK AT MOST 1048576: true; the input reads as it did. -/
def latticeBoxesUptoRow : OpenClaim := { program := "ytehknemdfbkimaagreatdoor", sum := "aa7fac7c2f673a2b2a673490b91a9109f9f8cf1e32541df119e1172eb93a8a1b", func := "schisma/schismalaw09.LatticeBoxes", spec := "latticeBoxes", unfollowed := true, recurses := true, named := ["internal/strconv.uint64pow10", "math/bits.deBruijn32tab", "math/bits.deBruijn64tab", "strconv.ErrSyntax", "strconv.ErrRange"], apart := false, laid := [("math/bits.deBruijn32tab", laid_math_bits_deBruijn32tab), ("math/bits.deBruijn64tab", laid_math_bits_deBruijn64tab), ("internal/strconv.uint64pow10", laid_internal_strconv_uint64pow10), ("strconv.ErrRange", laid_strconv_ErrRange), ("strconv.ErrSyntax", laid_strconv_ErrSyntax)], narrowed := true }
def LatticeBoxesUptoSaid : Prop := latticeBoxesUptoRow.holds Tryz.pinned (OpenSpec.upto latticeBoxesSpec)

/-- 'schismalaw09.LatticeDuals', WHERE WHAT IT READS IS OF BULK AT MOST 1048576: true; the input reads as it did. -/
def latticeDualsUptoRow : OpenClaim := { program := "ytehknemdfbkimaagreatdoor", sum := "aa7fac7c2f673a2b2a673490b91a9109f9f8cf1e32541df119e1172eb93a8a1b", func := "schisma/schismalaw09.LatticeDuals", spec := "latticeDuals", unfollowed := true, recurses := true, named := ["internal/strconv.uint64pow10", "math/bits.deBruijn32tab", "math/bits.deBruijn64tab", "strconv.ErrSyntax", "strconv.ErrRange"], apart := false, laid := [("math/bits.deBruijn32tab", laid_math_bits_deBruijn32tab), ("math/bits.deBruijn64tab", laid_math_bits_deBruijn64tab), ("internal/strconv.uint64pow10", laid_internal_strconv_uint64pow10), ("strconv.ErrRange", laid_strconv_ErrRange), ("strconv.ErrSyntax", laid_strconv_ErrSyntax)], narrowed := true }
def LatticeDualsUptoSaid : Prop := latticeDualsUptoRow.holds Tryz.pinned (OpenSpec.upto latticeDualsSpec)

/-- 'schismalaw18.TemperamentTexts', WHERE WHAT IT READS IS OF BULK AT MOST 1048576: true; the input reads as it did. -/
def temperamentTextsUptoRow : OpenClaim := { program := "ytehknemdfbkimaagreatdoor", sum := "aa7fac7c2f673a2b2a673490b91a9109f9f8cf1e32541df119e1172eb93a8a1b", func := "schisma/schismalaw18.TemperamentTexts", spec := "temperamentTexts", inPlace := ["internal/abi.NoEscape", "internal/bytealg.MakeNoZero"], unfollowed := true, recurses := true, named := ["internal/strconv.uint64pow10", "math/bits.deBruijn32tab", "math/bits.deBruijn64tab", "strconv.ErrSyntax", "strconv.ErrRange"], apart := false, laid := [("math/bits.deBruijn32tab", laid_math_bits_deBruijn32tab), ("math/bits.deBruijn64tab", laid_math_bits_deBruijn64tab), ("internal/strconv.uint64pow10", laid_internal_strconv_uint64pow10), ("strconv.ErrRange", laid_strconv_ErrRange), ("strconv.ErrSyntax", laid_strconv_ErrSyntax)], narrowed := true }
def TemperamentTextsUptoSaid : Prop := temperamentTextsUptoRow.holds Tryz.pinned (OpenSpec.upto temperamentTextsSpec)

/-- 'schismalaw18.TemperamentIdentifies', WHERE WHAT IT READS IS OF BULK AT MOST 1048576: true; the input reads as it did. -/
def temperamentIdentifiesUptoRow : OpenClaim := { program := "ytehknemdfbkimaagreatdoor", sum := "aa7fac7c2f673a2b2a673490b91a9109f9f8cf1e32541df119e1172eb93a8a1b", func := "schisma/schismalaw18.TemperamentIdentifies", spec := "temperamentIdentifies", inPlace := ["internal/abi.NoEscape", "internal/bytealg.MakeNoZero"], unfollowed := true, recurses := true, named := ["internal/strconv.uint64pow10", "math/bits.deBruijn32tab", "math/bits.deBruijn64tab", "strconv.ErrSyntax", "strconv.ErrRange"], apart := false, laid := [("math/bits.deBruijn32tab", laid_math_bits_deBruijn32tab), ("math/bits.deBruijn64tab", laid_math_bits_deBruijn64tab), ("internal/strconv.uint64pow10", laid_internal_strconv_uint64pow10), ("strconv.ErrRange", laid_strconv_ErrRange), ("strconv.ErrSyntax", laid_strconv_ErrSyntax)], narrowed := true }
def TemperamentIdentifiesUptoSaid : Prop := temperamentIdentifiesUptoRow.holds Tryz.pinned (OpenSpec.upto temperamentIdentifiesSpec)

/-- 'schismalaw18.TemperamentSpans', WHERE WHAT IT READS IS OF BULK AT MOST 1048576: true; the input reads as it did. -/
def temperamentSpansUptoRow : OpenClaim := { program := "ytehknemdfbkimaagreatdoor", sum := "aa7fac7c2f673a2b2a673490b91a9109f9f8cf1e32541df119e1172eb93a8a1b", func := "schisma/schismalaw18.TemperamentSpans", spec := "temperamentSpans", inPlace := ["internal/abi.NoEscape", "internal/bytealg.MakeNoZero"], unfollowed := true, recurses := true, named := ["internal/strconv.uint64pow10", "math/bits.deBruijn32tab", "math/bits.deBruijn64tab", "strconv.ErrSyntax", "strconv.ErrRange"], apart := false, laid := [("math/bits.deBruijn32tab", laid_math_bits_deBruijn32tab), ("math/bits.deBruijn64tab", laid_math_bits_deBruijn64tab), ("internal/strconv.uint64pow10", laid_internal_strconv_uint64pow10), ("strconv.ErrRange", laid_strconv_ErrRange), ("strconv.ErrSyntax", laid_strconv_ErrSyntax)], narrowed := true }
def TemperamentSpansUptoSaid : Prop := temperamentSpansUptoRow.holds Tryz.pinned (OpenSpec.upto temperamentSpansSpec)

/-- 'schismalaw18.TemperamentEnds', WHERE WHAT IT READS IS OF BULK AT MOST 1048576: true; the input reads as it did. -/
def temperamentEndsUptoRow : OpenClaim := { program := "ytehknemdfbkimaagreatdoor", sum := "aa7fac7c2f673a2b2a673490b91a9109f9f8cf1e32541df119e1172eb93a8a1b", func := "schisma/schismalaw18.TemperamentEnds", spec := "temperamentEnds", inPlace := ["internal/abi.NoEscape", "internal/bytealg.MakeNoZero"], unfollowed := true, recurses := true, named := ["internal/strconv.uint64pow10", "math/bits.deBruijn32tab", "math/bits.deBruijn64tab", "strconv.ErrSyntax", "strconv.ErrRange"], apart := false, laid := [("math/bits.deBruijn32tab", laid_math_bits_deBruijn32tab), ("math/bits.deBruijn64tab", laid_math_bits_deBruijn64tab), ("internal/strconv.uint64pow10", laid_internal_strconv_uint64pow10), ("strconv.ErrRange", laid_strconv_ErrRange), ("strconv.ErrSyntax", laid_strconv_ErrSyntax)], narrowed := true }
def TemperamentEndsUptoSaid : Prop := temperamentEndsUptoRow.holds Tryz.pinned (OpenSpec.upto temperamentEndsSpec)

/-- 'schismalaw18.TemperamentReturns', WHERE WHAT IT READS IS OF BULK AT MOST 1048576: true; the input reads as it did. -/
def temperamentReturnsUptoRow : OpenClaim := { program := "ytehknemdfbkimaagreatdoor", sum := "aa7fac7c2f673a2b2a673490b91a9109f9f8cf1e32541df119e1172eb93a8a1b", func := "schisma/schismalaw18.TemperamentReturns", spec := "temperamentReturns", inPlace := ["internal/abi.NoEscape", "internal/bytealg.MakeNoZero"], unfollowed := true, recurses := true, named := ["internal/strconv.uint64pow10", "math/bits.deBruijn32tab", "math/bits.deBruijn64tab", "strconv.ErrSyntax", "strconv.ErrRange"], apart := false, laid := [("math/bits.deBruijn32tab", laid_math_bits_deBruijn32tab), ("math/bits.deBruijn64tab", laid_math_bits_deBruijn64tab), ("internal/strconv.uint64pow10", laid_internal_strconv_uint64pow10), ("strconv.ErrRange", laid_strconv_ErrRange), ("strconv.ErrSyntax", laid_strconv_ErrSyntax)], narrowed := true }
def TemperamentReturnsUptoSaid : Prop := temperamentReturnsUptoRow.holds Tryz.pinned (OpenSpec.upto temperamentReturnsSpec)

/-- 'schismalaw18.TemperamentTempers', WHERE WHAT IT READS IS OF BULK AT MOST 1048576: true; the input reads as it did. -/
def temperamentTempersUptoRow : OpenClaim := { program := "ytehknemdfbkimaagreatdoor", sum := "aa7fac7c2f673a2b2a673490b91a9109f9f8cf1e32541df119e1172eb93a8a1b", func := "schisma/schismalaw18.TemperamentTempers", spec := "temperamentTempers", inPlace := ["internal/abi.NoEscape", "internal/bytealg.MakeNoZero"], unfollowed := true, recurses := true, named := ["internal/strconv.uint64pow10", "math/bits.deBruijn32tab", "math/bits.deBruijn64tab", "strconv.ErrSyntax", "strconv.ErrRange"], apart := false, laid := [("math/bits.deBruijn32tab", laid_math_bits_deBruijn32tab), ("math/bits.deBruijn64tab", laid_math_bits_deBruijn64tab), ("internal/strconv.uint64pow10", laid_internal_strconv_uint64pow10), ("strconv.ErrRange", laid_strconv_ErrRange), ("strconv.ErrSyntax", laid_strconv_ErrSyntax)], narrowed := true }
def TemperamentTempersUptoSaid : Prop := temperamentTempersUptoRow.holds Tryz.pinned (OpenSpec.upto temperamentTempersSpec)

/-- 'schismalaw18.TemperamentChecks', WHERE WHAT IT READS IS OF BULK AT MOST 1048576: true; the input reads as it did. -/
def temperamentChecksUptoRow : OpenClaim := { program := "ytehknemdfbkimaagreatdoor", sum := "aa7fac7c2f673a2b2a673490b91a9109f9f8cf1e32541df119e1172eb93a8a1b", func := "schisma/schismalaw18.TemperamentChecks", spec := "temperamentChecks", inPlace := ["internal/abi.NoEscape", "internal/bytealg.MakeNoZero"], unfollowed := true, recurses := true, named := ["internal/strconv.uint64pow10", "math/bits.deBruijn32tab", "math/bits.deBruijn64tab", "strconv.ErrSyntax", "strconv.ErrRange"], apart := false, laid := [("math/bits.deBruijn32tab", laid_math_bits_deBruijn32tab), ("math/bits.deBruijn64tab", laid_math_bits_deBruijn64tab), ("internal/strconv.uint64pow10", laid_internal_strconv_uint64pow10), ("strconv.ErrRange", laid_strconv_ErrRange), ("strconv.ErrSyntax", laid_strconv_ErrSyntax)], narrowed := true }
def TemperamentChecksUptoSaid : Prop := temperamentChecksUptoRow.holds Tryz.pinned (OpenSpec.upto temperamentChecksSpec)

/-- 'schismalaw18.TemperamentAdds', WHERE WHAT IT READS IS OF BULK AT MOST 1048576: true; the input reads as it did. -/
def temperamentAddsUptoRow : OpenClaim := { program := "ytehknemdfbkimaagreatdoor", sum := "aa7fac7c2f673a2b2a673490b91a9109f9f8cf1e32541df119e1172eb93a8a1b", func := "schisma/schismalaw18.TemperamentAdds", spec := "temperamentAdds", inPlace := ["internal/abi.NoEscape", "internal/bytealg.MakeNoZero"], unfollowed := true, recurses := true, named := ["internal/strconv.uint64pow10", "math/bits.deBruijn32tab", "math/bits.deBruijn64tab", "strconv.ErrSyntax", "strconv.ErrRange"], apart := false, laid := [("math/bits.deBruijn32tab", laid_math_bits_deBruijn32tab), ("math/bits.deBruijn64tab", laid_math_bits_deBruijn64tab), ("internal/strconv.uint64pow10", laid_internal_strconv_uint64pow10), ("strconv.ErrRange", laid_strconv_ErrRange), ("strconv.ErrSyntax", laid_strconv_ErrSyntax)], narrowed := true }
def TemperamentAddsUptoSaid : Prop := temperamentAddsUptoRow.holds Tryz.pinned (OpenSpec.upto temperamentAddsSpec)

end Rows
end Go.Proofs.YtehknemdfbkimaaGreatDoor
