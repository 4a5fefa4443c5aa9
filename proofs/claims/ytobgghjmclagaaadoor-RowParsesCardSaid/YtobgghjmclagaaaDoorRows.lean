/-
  NARROWER THAN 'FOR EVERY INPUT', by the rows' own cells (each row's printed sentence says how): RowChecks: laid · RowContents: laid · RowUnits: laid · RowAdds: laid · RowDots: laid · RowCombines: laid · RowGroups: laid · RowCompares: laid · RowTexts: laid · RowParses: laid.
  DERIVED. THE GIVEN ROWS OF THIS SEAT. 10 by the template 'for every input the law returns true; each argument reads behind the call as it read before'; 0 by the template 'total and deterministic' (their statements: YtobgghjmclagaaaDoorTotals.lean).
  GIVEN WITH THE SEED: the statements are not yours to turn. If you find one false, say at which input.
  Laid BY PROGRAM, IN A SANDBOX (cutbox-rows.mjs): the forced cells as the released guide's own fill.sh prints them over the translation c02e84474fb8db25… (all of the seat's roots in one cut). By AI agents, Wed Nov 11 2026. No macro, syntax, notation, axiom, sorry.
-/
import Derived.Test.YtobgghjmclagaaaDoorChecked
import GoSem.PinnedTables
import GoSem.Claim
import GoSem.ClaimJoined
import GoSem.ClaimMapViews
import Derived.JoinedTies
import Derived.KernelRfl
namespace Go.Proofs.YtobgghjmclagaaaDoor
/- THE CELL 'sum', in the pinned program and in every row, IS THE sha256 OF THE DUMP (.gsa) THAT YtobgghjmclagaaaDoorProg.lean LOADS. Nothing in Lean hashes anything: it is a label: what it is worth is what the hold of that sum in a sandbox is worth. -/
noncomputable def Tryd.pinned : Pinned := { name := "ytobgghjmclagaaadoor", sum := "c02e84474fb8db259e7a116eb24644c07c756fdaa6d49a4710dbe7f37f5976bd", checked := Tryd.checked }
namespace Rows
def none {H : Type} : Left H := { results := [], args := [] }

/- WHAT THE LISTED PACKAGE-LEVEL VARIABLES READ AS WHEN THE CALL BEGINS. Each datum BY PROGRAM (the guide's laid-datum.mjs) off the statement by which the dump's own 'gosem.cut.vars' lays the variable. In a bare row this is a premise. The card (YtobgghjmclagaaaDoorCards.lean) ties it to the program's text. -/
def laid_math_bits_deBruijn32tab {H : Type} : DataW H := .agg [.lit (.int .u8 0), .lit (.int .u8 1), .lit (.int .u8 28), .lit (.int .u8 2), .lit (.int .u8 29), .lit (.int .u8 14), .lit (.int .u8 24), .lit (.int .u8 3), .lit (.int .u8 30), .lit (.int .u8 22), .lit (.int .u8 20), .lit (.int .u8 15), .lit (.int .u8 25), .lit (.int .u8 17), .lit (.int .u8 4), .lit (.int .u8 8), .lit (.int .u8 31), .lit (.int .u8 27), .lit (.int .u8 13), .lit (.int .u8 23), .lit (.int .u8 21), .lit (.int .u8 19), .lit (.int .u8 16), .lit (.int .u8 7), .lit (.int .u8 26), .lit (.int .u8 12), .lit (.int .u8 18), .lit (.int .u8 6), .lit (.int .u8 11), .lit (.int .u8 5), .lit (.int .u8 10), .lit (.int .u8 9)]
def laid_math_bits_deBruijn64tab {H : Type} : DataW H := .agg [.lit (.int .u8 0), .lit (.int .u8 1), .lit (.int .u8 56), .lit (.int .u8 2), .lit (.int .u8 57), .lit (.int .u8 49), .lit (.int .u8 28), .lit (.int .u8 3), .lit (.int .u8 61), .lit (.int .u8 58), .lit (.int .u8 42), .lit (.int .u8 50), .lit (.int .u8 38), .lit (.int .u8 29), .lit (.int .u8 17), .lit (.int .u8 4), .lit (.int .u8 62), .lit (.int .u8 47), .lit (.int .u8 59), .lit (.int .u8 36), .lit (.int .u8 45), .lit (.int .u8 43), .lit (.int .u8 51), .lit (.int .u8 22), .lit (.int .u8 53), .lit (.int .u8 39), .lit (.int .u8 33), .lit (.int .u8 30), .lit (.int .u8 24), .lit (.int .u8 18), .lit (.int .u8 12), .lit (.int .u8 5), .lit (.int .u8 63), .lit (.int .u8 55), .lit (.int .u8 48), .lit (.int .u8 27), .lit (.int .u8 60), .lit (.int .u8 41), .lit (.int .u8 37), .lit (.int .u8 16), .lit (.int .u8 46), .lit (.int .u8 35), .lit (.int .u8 44), .lit (.int .u8 21), .lit (.int .u8 52), .lit (.int .u8 32), .lit (.int .u8 23), .lit (.int .u8 11), .lit (.int .u8 54), .lit (.int .u8 26), .lit (.int .u8 40), .lit (.int .u8 15), .lit (.int .u8 34), .lit (.int .u8 20), .lit (.int .u8 31), .lit (.int .u8 10), .lit (.int .u8 25), .lit (.int .u8 14), .lit (.int .u8 19), .lit (.int .u8 9), .lit (.int .u8 13), .lit (.int .u8 8), .lit (.int .u8 7), .lit (.int .u8 6)]
def laid_internal_strconv_uint64pow10 {H : Type} : DataW H := .agg [.lit (.int .u64 1), .lit (.int .u64 10), .lit (.int .u64 100), .lit (.int .u64 1000), .lit (.int .u64 10000), .lit (.int .u64 100000), .lit (.int .u64 1000000), .lit (.int .u64 10000000), .lit (.int .u64 100000000), .lit (.int .u64 1000000000), .lit (.int .u64 10000000000), .lit (.int .u64 100000000000), .lit (.int .u64 1000000000000), .lit (.int .u64 10000000000000), .lit (.int .u64 100000000000000), .lit (.int .u64 1000000000000000), .lit (.int .u64 10000000000000000), .lit (.int .u64 100000000000000000), .lit (.int .u64 1000000000000000000), .lit (.int .u64 10000000000000000000)]
def laid_unicode_utf8_acceptRanges {H : Type} : DataW H := .agg [.agg [.lit (.int .u8 128), .lit (.int .u8 191)], .agg [.lit (.int .u8 160), .lit (.int .u8 191)], .agg [.lit (.int .u8 128), .lit (.int .u8 159)], .agg [.lit (.int .u8 144), .lit (.int .u8 191)], .agg [.lit (.int .u8 128), .lit (.int .u8 143)], .agg [.lit (.int .u8 0), .lit (.int .u8 0)], .agg [.lit (.int .u8 0), .lit (.int .u8 0)], .agg [.lit (.int .u8 0), .lit (.int .u8 0)], .agg [.lit (.int .u8 0), .lit (.int .u8 0)], .agg [.lit (.int .u8 0), .lit (.int .u8 0)], .agg [.lit (.int .u8 0), .lit (.int .u8 0)], .agg [.lit (.int .u8 0), .lit (.int .u8 0)], .agg [.lit (.int .u8 0), .lit (.int .u8 0)], .agg [.lit (.int .u8 0), .lit (.int .u8 0)], .agg [.lit (.int .u8 0), .lit (.int .u8 0)], .agg [.lit (.int .u8 0), .lit (.int .u8 0)]]
def laid_strconv_ErrRange {H : Type} : DataW H := .iface "*errors.errorString" (.ptr (.agg [.lit (.string [118, 97, 108, 117, 101, 32, 111, 117, 116, 32, 111, 102, 32, 114, 97, 110, 103, 101])]))
def laid_strconv_ErrSyntax {H : Type} : DataW H := .iface "*errors.errorString" (.ptr (.agg [.lit (.string [105, 110, 118, 97, 108, 105, 100, 32, 115, 121, 110, 116, 97, 120])]))
/-- One of Go's own tables, pinned by name: the form's constant. -/
def laid_unicode_utf8_first : DataW Unit := Go.Pinned.utf8First

/-- 'schismalaw05.RowChecks': WHATEVER THE INPUT: true; the input reads as it did. -/
def rowChecksSpec : ChangeSpec := { name := "rowChecks", fn := fun _ => fun
  | [d1, d2] => { results := [.lit (.bool true)], args := [d1, d2] }
  | _ => none }
def rowChecksRow : OpenClaim := { program := "ytobgghjmclagaaadoor", sum := "c02e84474fb8db259e7a116eb24644c07c756fdaa6d49a4710dbe7f37f5976bd", func := "schisma/schismalaw05.RowChecks", spec := "rowChecks", inPlace := ["internal/abi.NoEscape", "internal/bytealg.MakeNoZero"], unfollowed := true, recurses := true, named := ["internal/strconv.uint64pow10", "math/bits.deBruijn32tab", "math/bits.deBruijn64tab"], apart := false, laid := [("math/bits.deBruijn32tab", laid_math_bits_deBruijn32tab), ("math/bits.deBruijn64tab", laid_math_bits_deBruijn64tab), ("internal/strconv.uint64pow10", laid_internal_strconv_uint64pow10)] }
def RowChecksSaid : Prop := rowChecksRow.holds Tryd.pinned (OpenSpec.ofChange rowChecksSpec)

/-- ITS FALSE NEIGHBOUR: 'it returns false'. Refute it at one input. -/
def rowChecksWrong : ChangeSpec := { name := "rowChecks", fn := fun _ => fun
  | [d1, d2] => { results := [.lit (.bool false)], args := [d1, d2] }
  | _ => none }
def RowChecksWrongFalsely : Prop := rowChecksRow.holds Tryd.pinned (OpenSpec.ofChange rowChecksWrong)

/-- 'schismalaw05.RowContents': WHATEVER THE INPUT: true; the input reads as it did. -/
def rowContentsSpec : ChangeSpec := { name := "rowContents", fn := fun _ => fun
  | [d] => { results := [.lit (.bool true)], args := [d] }
  | _ => none }
def rowContentsRow : OpenClaim := { program := "ytobgghjmclagaaadoor", sum := "c02e84474fb8db259e7a116eb24644c07c756fdaa6d49a4710dbe7f37f5976bd", func := "schisma/schismalaw05.RowContents", spec := "rowContents", inPlace := ["internal/abi.NoEscape", "internal/bytealg.MakeNoZero"], unfollowed := true, recurses := true, named := ["internal/strconv.uint64pow10", "math/bits.deBruijn32tab", "math/bits.deBruijn64tab"], apart := false, laid := [("math/bits.deBruijn32tab", laid_math_bits_deBruijn32tab), ("math/bits.deBruijn64tab", laid_math_bits_deBruijn64tab), ("internal/strconv.uint64pow10", laid_internal_strconv_uint64pow10)] }
def RowContentsSaid : Prop := rowContentsRow.holds Tryd.pinned (OpenSpec.ofChange rowContentsSpec)

/-- ITS FALSE NEIGHBOUR: 'it returns false'. Refute it at one input. -/
def rowContentsWrong : ChangeSpec := { name := "rowContents", fn := fun _ => fun
  | [d] => { results := [.lit (.bool false)], args := [d] }
  | _ => none }
def RowContentsWrongFalsely : Prop := rowContentsRow.holds Tryd.pinned (OpenSpec.ofChange rowContentsWrong)

/-- 'schismalaw05.RowUnits': WHATEVER THE INPUT: true; the input reads as it did. -/
def rowUnitsSpec : ChangeSpec := { name := "rowUnits", fn := fun _ => fun
  | [d1, d2] => { results := [.lit (.bool true)], args := [d1, d2] }
  | _ => none }
def rowUnitsRow : OpenClaim := { program := "ytobgghjmclagaaadoor", sum := "c02e84474fb8db259e7a116eb24644c07c756fdaa6d49a4710dbe7f37f5976bd", func := "schisma/schismalaw05.RowUnits", spec := "rowUnits", inPlace := ["internal/abi.NoEscape", "internal/bytealg.MakeNoZero"], unfollowed := true, recurses := true, named := ["internal/strconv.uint64pow10", "math/bits.deBruijn32tab", "math/bits.deBruijn64tab"], apart := false, laid := [("math/bits.deBruijn32tab", laid_math_bits_deBruijn32tab), ("math/bits.deBruijn64tab", laid_math_bits_deBruijn64tab), ("internal/strconv.uint64pow10", laid_internal_strconv_uint64pow10)] }
def RowUnitsSaid : Prop := rowUnitsRow.holds Tryd.pinned (OpenSpec.ofChange rowUnitsSpec)

/-- ITS FALSE NEIGHBOUR: 'it returns false'. Refute it at one input. -/
def rowUnitsWrong : ChangeSpec := { name := "rowUnits", fn := fun _ => fun
  | [d1, d2] => { results := [.lit (.bool false)], args := [d1, d2] }
  | _ => none }
def RowUnitsWrongFalsely : Prop := rowUnitsRow.holds Tryd.pinned (OpenSpec.ofChange rowUnitsWrong)

/-- 'schismalaw05.RowAdds': WHATEVER THE INPUT: true; the input reads as it did. -/
def rowAddsSpec : ChangeSpec := { name := "rowAdds", fn := fun _ => fun
  | [d1, d2, d3] => { results := [.lit (.bool true)], args := [d1, d2, d3] }
  | _ => none }
def rowAddsRow : OpenClaim := { program := "ytobgghjmclagaaadoor", sum := "c02e84474fb8db259e7a116eb24644c07c756fdaa6d49a4710dbe7f37f5976bd", func := "schisma/schismalaw05.RowAdds", spec := "rowAdds", inPlace := ["internal/abi.NoEscape", "internal/bytealg.MakeNoZero"], unfollowed := true, recurses := true, named := ["internal/strconv.uint64pow10", "math/bits.deBruijn32tab", "math/bits.deBruijn64tab"], apart := false, laid := [("math/bits.deBruijn32tab", laid_math_bits_deBruijn32tab), ("math/bits.deBruijn64tab", laid_math_bits_deBruijn64tab), ("internal/strconv.uint64pow10", laid_internal_strconv_uint64pow10)] }
def RowAddsSaid : Prop := rowAddsRow.holds Tryd.pinned (OpenSpec.ofChange rowAddsSpec)

/-- ITS FALSE NEIGHBOUR: 'it returns false'. Refute it at one input. -/
def rowAddsWrong : ChangeSpec := { name := "rowAdds", fn := fun _ => fun
  | [d1, d2, d3] => { results := [.lit (.bool false)], args := [d1, d2, d3] }
  | _ => none }
def RowAddsWrongFalsely : Prop := rowAddsRow.holds Tryd.pinned (OpenSpec.ofChange rowAddsWrong)

/-- 'schismalaw05.RowDots': WHATEVER THE INPUT: true; the input reads as it did. -/
def rowDotsSpec : ChangeSpec := { name := "rowDots", fn := fun _ => fun
  | [d1, d2] => { results := [.lit (.bool true)], args := [d1, d2] }
  | _ => none }
def rowDotsRow : OpenClaim := { program := "ytobgghjmclagaaadoor", sum := "c02e84474fb8db259e7a116eb24644c07c756fdaa6d49a4710dbe7f37f5976bd", func := "schisma/schismalaw05.RowDots", spec := "rowDots", inPlace := ["internal/abi.NoEscape", "internal/bytealg.MakeNoZero"], unfollowed := true, recurses := true, named := ["internal/strconv.uint64pow10", "math/bits.deBruijn32tab", "math/bits.deBruijn64tab"], apart := false, laid := [("math/bits.deBruijn32tab", laid_math_bits_deBruijn32tab), ("math/bits.deBruijn64tab", laid_math_bits_deBruijn64tab), ("internal/strconv.uint64pow10", laid_internal_strconv_uint64pow10)] }
def RowDotsSaid : Prop := rowDotsRow.holds Tryd.pinned (OpenSpec.ofChange rowDotsSpec)

/-- ITS FALSE NEIGHBOUR: 'it returns false'. Refute it at one input. -/
def rowDotsWrong : ChangeSpec := { name := "rowDots", fn := fun _ => fun
  | [d1, d2] => { results := [.lit (.bool false)], args := [d1, d2] }
  | _ => none }
def RowDotsWrongFalsely : Prop := rowDotsRow.holds Tryd.pinned (OpenSpec.ofChange rowDotsWrong)

/-- 'schismalaw05.RowCombines': WHATEVER THE INPUT: true; the input reads as it did. -/
def rowCombinesSpec : ChangeSpec := { name := "rowCombines", fn := fun _ => fun
  | [d1, d2] => { results := [.lit (.bool true)], args := [d1, d2] }
  | _ => none }
def rowCombinesRow : OpenClaim := { program := "ytobgghjmclagaaadoor", sum := "c02e84474fb8db259e7a116eb24644c07c756fdaa6d49a4710dbe7f37f5976bd", func := "schisma/schismalaw05.RowCombines", spec := "rowCombines", inPlace := ["internal/abi.NoEscape", "internal/bytealg.MakeNoZero"], unfollowed := true, recurses := true, named := ["internal/strconv.uint64pow10", "math/bits.deBruijn32tab", "math/bits.deBruijn64tab"], apart := false, laid := [("math/bits.deBruijn32tab", laid_math_bits_deBruijn32tab), ("math/bits.deBruijn64tab", laid_math_bits_deBruijn64tab), ("internal/strconv.uint64pow10", laid_internal_strconv_uint64pow10)] }
def RowCombinesSaid : Prop := rowCombinesRow.holds Tryd.pinned (OpenSpec.ofChange rowCombinesSpec)

/-- ITS FALSE NEIGHBOUR: 'it returns false'. Refute it at one input. -/
def rowCombinesWrong : ChangeSpec := { name := "rowCombines", fn := fun _ => fun
  | [d1, d2] => { results := [.lit (.bool false)], args := [d1, d2] }
  | _ => none }
def RowCombinesWrongFalsely : Prop := rowCombinesRow.holds Tryd.pinned (OpenSpec.ofChange rowCombinesWrong)

/-- 'schismalaw05.RowGroups': WHATEVER THE INPUT: true; the input reads as it did. -/
def rowGroupsSpec : ChangeSpec := { name := "rowGroups", fn := fun _ => fun
  | [d1, d2, d3] => { results := [.lit (.bool true)], args := [d1, d2, d3] }
  | _ => none }
def rowGroupsRow : OpenClaim := { program := "ytobgghjmclagaaadoor", sum := "c02e84474fb8db259e7a116eb24644c07c756fdaa6d49a4710dbe7f37f5976bd", func := "schisma/schismalaw05.RowGroups", spec := "rowGroups", inPlace := ["internal/abi.NoEscape", "internal/bytealg.MakeNoZero"], unfollowed := true, recurses := true, named := ["internal/strconv.uint64pow10", "math/bits.deBruijn32tab", "math/bits.deBruijn64tab"], apart := false, laid := [("math/bits.deBruijn32tab", laid_math_bits_deBruijn32tab), ("math/bits.deBruijn64tab", laid_math_bits_deBruijn64tab), ("internal/strconv.uint64pow10", laid_internal_strconv_uint64pow10)] }
def RowGroupsSaid : Prop := rowGroupsRow.holds Tryd.pinned (OpenSpec.ofChange rowGroupsSpec)

/-- ITS FALSE NEIGHBOUR: 'it returns false'. Refute it at one input. -/
def rowGroupsWrong : ChangeSpec := { name := "rowGroups", fn := fun _ => fun
  | [d1, d2, d3] => { results := [.lit (.bool false)], args := [d1, d2, d3] }
  | _ => none }
def RowGroupsWrongFalsely : Prop := rowGroupsRow.holds Tryd.pinned (OpenSpec.ofChange rowGroupsWrong)

/-- 'schismalaw05.RowCompares': WHATEVER THE INPUT: true; the input reads as it did. -/
def rowComparesSpec : ChangeSpec := { name := "rowCompares", fn := fun _ => fun
  | [d1, d2] => { results := [.lit (.bool true)], args := [d1, d2] }
  | _ => none }
def rowComparesRow : OpenClaim := { program := "ytobgghjmclagaaadoor", sum := "c02e84474fb8db259e7a116eb24644c07c756fdaa6d49a4710dbe7f37f5976bd", func := "schisma/schismalaw05.RowCompares", spec := "rowCompares", inPlace := ["internal/abi.NoEscape", "internal/bytealg.MakeNoZero"], unfollowed := true, recurses := true, named := ["internal/strconv.uint64pow10", "math/bits.deBruijn32tab", "math/bits.deBruijn64tab"], apart := false, laid := [("math/bits.deBruijn32tab", laid_math_bits_deBruijn32tab), ("math/bits.deBruijn64tab", laid_math_bits_deBruijn64tab), ("internal/strconv.uint64pow10", laid_internal_strconv_uint64pow10)] }
def RowComparesSaid : Prop := rowComparesRow.holds Tryd.pinned (OpenSpec.ofChange rowComparesSpec)

/-- ITS FALSE NEIGHBOUR: 'it returns false'. Refute it at one input. -/
def rowComparesWrong : ChangeSpec := { name := "rowCompares", fn := fun _ => fun
  | [d1, d2] => { results := [.lit (.bool false)], args := [d1, d2] }
  | _ => none }
def RowComparesWrongFalsely : Prop := rowComparesRow.holds Tryd.pinned (OpenSpec.ofChange rowComparesWrong)

/-- 'schismalaw05.RowTexts': WHATEVER THE INPUT: true; the input reads as it did. -/
def rowTextsSpec : ChangeSpec := { name := "rowTexts", fn := fun _ => fun
  | [d1, d2] => { results := [.lit (.bool true)], args := [d1, d2] }
  | _ => none }
def rowTextsRow : OpenClaim := { program := "ytobgghjmclagaaadoor", sum := "c02e84474fb8db259e7a116eb24644c07c756fdaa6d49a4710dbe7f37f5976bd", func := "schisma/schismalaw05.RowTexts", spec := "rowTexts", inPlace := ["internal/abi.NoEscape", "internal/bytealg.MakeNoZero", "internal/bytealg.CountString", "internal/bytealg.IndexByteString", "internal/bytealg.IndexString"], unfollowed := true, recurses := true, named := ["internal/strconv.uint64pow10", "math/bits.deBruijn32tab", "math/bits.deBruijn64tab", "unicode/utf8.first", "unicode/utf8.acceptRanges", "internal/bytealg.MaxLen", "strconv.ErrSyntax", "strconv.ErrRange"], apart := false, laid := [("math/bits.deBruijn32tab", laid_math_bits_deBruijn32tab), ("math/bits.deBruijn64tab", laid_math_bits_deBruijn64tab), ("internal/strconv.uint64pow10", laid_internal_strconv_uint64pow10), ("unicode/utf8.acceptRanges", laid_unicode_utf8_acceptRanges), ("strconv.ErrRange", laid_strconv_ErrRange), ("strconv.ErrSyntax", laid_strconv_ErrSyntax), ("unicode/utf8.first", laid_unicode_utf8_first)] }
def RowTextsSaid : Prop := rowTextsRow.holds Tryd.pinned (OpenSpec.ofChange rowTextsSpec)

/-- ITS FALSE NEIGHBOUR: 'it returns false'. Refute it at one input. -/
def rowTextsWrong : ChangeSpec := { name := "rowTexts", fn := fun _ => fun
  | [d1, d2] => { results := [.lit (.bool false)], args := [d1, d2] }
  | _ => none }
def RowTextsWrongFalsely : Prop := rowTextsRow.holds Tryd.pinned (OpenSpec.ofChange rowTextsWrong)

/-- 'schismalaw05.RowParses': WHATEVER THE INPUT: true; the input reads as it did. -/
def rowParsesSpec : ChangeSpec := { name := "rowParses", fn := fun _ => fun
  | [d] => { results := [.lit (.bool true)], args := [d] }
  | _ => none }
def rowParsesRow : OpenClaim := { program := "ytobgghjmclagaaadoor", sum := "c02e84474fb8db259e7a116eb24644c07c756fdaa6d49a4710dbe7f37f5976bd", func := "schisma/schismalaw05.RowParses", spec := "rowParses", inPlace := ["internal/abi.NoEscape", "internal/bytealg.MakeNoZero", "internal/bytealg.CountString", "internal/bytealg.IndexByteString", "internal/bytealg.IndexString"], unfollowed := true, recurses := true, named := ["internal/strconv.uint64pow10", "math/bits.deBruijn32tab", "math/bits.deBruijn64tab", "unicode/utf8.first", "unicode/utf8.acceptRanges", "internal/bytealg.MaxLen", "strconv.ErrSyntax", "strconv.ErrRange"], apart := false, laid := [("math/bits.deBruijn32tab", laid_math_bits_deBruijn32tab), ("math/bits.deBruijn64tab", laid_math_bits_deBruijn64tab), ("internal/strconv.uint64pow10", laid_internal_strconv_uint64pow10), ("unicode/utf8.acceptRanges", laid_unicode_utf8_acceptRanges), ("strconv.ErrRange", laid_strconv_ErrRange), ("strconv.ErrSyntax", laid_strconv_ErrSyntax), ("unicode/utf8.first", laid_unicode_utf8_first)] }
def RowParsesSaid : Prop := rowParsesRow.holds Tryd.pinned (OpenSpec.ofChange rowParsesSpec)

/-- ITS FALSE NEIGHBOUR: 'it returns false'. Refute it at one input. -/
def rowParsesWrong : ChangeSpec := { name := "rowParses", fn := fun _ => fun
  | [d] => { results := [.lit (.bool false)], args := [d] }
  | _ => none }
def RowParsesWrongFalsely : Prop := rowParsesRow.holds Tryd.pinned (OpenSpec.ofChange rowParsesWrong)

/- THE SECOND FORM. 'bulk': how many values and letters a reading holds, each counted each time it is reached (what is shared counts as often as it is met; a slice's spare places count too). A statement '..UptoSaid' is the law's where the arguments, and the package variables that the reading takes, are together of bulk at most 1048576: NARROWER than '..Said'. Prove '..Said' where nothing that the law and all that it calls make is longer than what came in: it says more and counts as full. Else prove '..UptoSaid'. A law counts once. -/
mutual
def uptoBulk {H : Type} : DataW H → Nat
  | .lit (.string bytes) => bytes.length + 1
  | .lit _ => 1
  | .nil => 1
  | .ptr d => uptoBulk d + 1
  | .slice elems spare => uptoBulkAll elems + uptoBulkAll spare + 1
  | .agg parts => uptoBulkAll parts + 1
  | .iface _ d => uptoBulk d + 1
  | .map entries => uptoBulkEntries entries + 1
  | .held _ => 1
def uptoBulkAll {H : Type} : List (DataW H) → Nat
  | [] => 0
  | d :: r => uptoBulk d + uptoBulkAll r
def uptoBulkEntries {H : Type} : List (Lit × DataW H) → Nat
  | [] => 0
  | x :: r => uptoBulkEntry x + uptoBulkEntries r
def uptoBulkEntry {H : Type} : Lit × DataW H → Nat
  | (.string bytes, d) => bytes.length + uptoBulk d + 1
  | (_, d) => uptoBulk d + 1
 end
def uptoSmall : (H : Type) → List (DataW H) → Bool := fun _ ds => decide (uptoBulkAll ds ≤ 1048576)
def OpenSpec.upto (s : _root_.Go.ChangeSpec) : _root_.Go.OpenSpec := { _root_.Go.OpenSpec.ofChange s with cond := some uptoSmall }

/-- 'schismalaw05.RowChecks', WHERE WHAT IT READS IS OF BULK AT MOST 1048576: true; the input reads as it did. -/
def rowChecksUptoRow : OpenClaim := { program := "ytobgghjmclagaaadoor", sum := "c02e84474fb8db259e7a116eb24644c07c756fdaa6d49a4710dbe7f37f5976bd", func := "schisma/schismalaw05.RowChecks", spec := "rowChecks", inPlace := ["internal/abi.NoEscape", "internal/bytealg.MakeNoZero"], unfollowed := true, recurses := true, named := ["internal/strconv.uint64pow10", "math/bits.deBruijn32tab", "math/bits.deBruijn64tab"], apart := false, laid := [("math/bits.deBruijn32tab", laid_math_bits_deBruijn32tab), ("math/bits.deBruijn64tab", laid_math_bits_deBruijn64tab), ("internal/strconv.uint64pow10", laid_internal_strconv_uint64pow10)], narrowed := true }
def RowChecksUptoSaid : Prop := rowChecksUptoRow.holds Tryd.pinned (OpenSpec.upto rowChecksSpec)

/-- 'schismalaw05.RowContents', WHERE WHAT IT READS IS OF BULK AT MOST 1048576: true; the input reads as it did. -/
def rowContentsUptoRow : OpenClaim := { program := "ytobgghjmclagaaadoor", sum := "c02e84474fb8db259e7a116eb24644c07c756fdaa6d49a4710dbe7f37f5976bd", func := "schisma/schismalaw05.RowContents", spec := "rowContents", inPlace := ["internal/abi.NoEscape", "internal/bytealg.MakeNoZero"], unfollowed := true, recurses := true, named := ["internal/strconv.uint64pow10", "math/bits.deBruijn32tab", "math/bits.deBruijn64tab"], apart := false, laid := [("math/bits.deBruijn32tab", laid_math_bits_deBruijn32tab), ("math/bits.deBruijn64tab", laid_math_bits_deBruijn64tab), ("internal/strconv.uint64pow10", laid_internal_strconv_uint64pow10)], narrowed := true }
def RowContentsUptoSaid : Prop := rowContentsUptoRow.holds Tryd.pinned (OpenSpec.upto rowContentsSpec)

/-- 'schismalaw05.RowUnits', WHERE WHAT IT READS IS OF BULK AT MOST 1048576: true; the input reads as it did. -/
def rowUnitsUptoRow : OpenClaim := { program := "ytobgghjmclagaaadoor", sum := "c02e84474fb8db259e7a116eb24644c07c756fdaa6d49a4710dbe7f37f5976bd", func := "schisma/schismalaw05.RowUnits", spec := "rowUnits", inPlace := ["internal/abi.NoEscape", "internal/bytealg.MakeNoZero"], unfollowed := true, recurses := true, named := ["internal/strconv.uint64pow10", "math/bits.deBruijn32tab", "math/bits.deBruijn64tab"], apart := false, laid := [("math/bits.deBruijn32tab", laid_math_bits_deBruijn32tab), ("math/bits.deBruijn64tab", laid_math_bits_deBruijn64tab), ("internal/strconv.uint64pow10", laid_internal_strconv_uint64pow10)], narrowed := true }
def RowUnitsUptoSaid : Prop := rowUnitsUptoRow.holds Tryd.pinned (OpenSpec.upto rowUnitsSpec)

/-- 'schismalaw05.RowAdds', WHERE WHAT IT READS IS OF BULK AT MOST 1048576: true; the input reads as it did. -/
def rowAddsUptoRow : OpenClaim := { program := "ytobgghjmclagaaadoor", sum := "c02e84474fb8db259e7a116eb24644c07c756fdaa6d49a4710dbe7f37f5976bd", func := "schisma/schismalaw05.RowAdds", spec := "rowAdds", inPlace := ["internal/abi.NoEscape", "internal/bytealg.MakeNoZero"], unfollowed := true, recurses := true, named := ["internal/strconv.uint64pow10", "math/bits.deBruijn32tab", "math/bits.deBruijn64tab"], apart := false, laid := [("math/bits.deBruijn32tab", laid_math_bits_deBruijn32tab), ("math/bits.deBruijn64tab", laid_math_bits_deBruijn64tab), ("internal/strconv.uint64pow10", laid_internal_strconv_uint64pow10)], narrowed := true }
def RowAddsUptoSaid : Prop := rowAddsUptoRow.holds Tryd.pinned (OpenSpec.upto rowAddsSpec)

/-- 'schismalaw05.RowDots', WHERE WHAT IT READS IS OF BULK AT MOST 1048576: true; the input reads as it did. -/
def rowDotsUptoRow : OpenClaim := { program := "ytobgghjmclagaaadoor", sum := "c02e84474fb8db259e7a116eb24644c07c756fdaa6d49a4710dbe7f37f5976bd", func := "schisma/schismalaw05.RowDots", spec := "rowDots", inPlace := ["internal/abi.NoEscape", "internal/bytealg.MakeNoZero"], unfollowed := true, recurses := true, named := ["internal/strconv.uint64pow10", "math/bits.deBruijn32tab", "math/bits.deBruijn64tab"], apart := false, laid := [("math/bits.deBruijn32tab", laid_math_bits_deBruijn32tab), ("math/bits.deBruijn64tab", laid_math_bits_deBruijn64tab), ("internal/strconv.uint64pow10", laid_internal_strconv_uint64pow10)], narrowed := true }
def RowDotsUptoSaid : Prop := rowDotsUptoRow.holds Tryd.pinned (OpenSpec.upto rowDotsSpec)

/-- 'schismalaw05.RowCombines', WHERE WHAT IT READS IS OF BULK AT MOST 1048576: true; the input reads as it did. -/
def rowCombinesUptoRow : OpenClaim := { program := "ytobgghjmclagaaadoor", sum := "c02e84474fb8db259e7a116eb24644c07c756fdaa6d49a4710dbe7f37f5976bd", func := "schisma/schismalaw05.RowCombines", spec := "rowCombines", inPlace := ["internal/abi.NoEscape", "internal/bytealg.MakeNoZero"], unfollowed := true, recurses := true, named := ["internal/strconv.uint64pow10", "math/bits.deBruijn32tab", "math/bits.deBruijn64tab"], apart := false, laid := [("math/bits.deBruijn32tab", laid_math_bits_deBruijn32tab), ("math/bits.deBruijn64tab", laid_math_bits_deBruijn64tab), ("internal/strconv.uint64pow10", laid_internal_strconv_uint64pow10)], narrowed := true }
def RowCombinesUptoSaid : Prop := rowCombinesUptoRow.holds Tryd.pinned (OpenSpec.upto rowCombinesSpec)

/-- 'schismalaw05.RowGroups', WHERE WHAT IT READS IS OF BULK AT MOST 1048576: true; the input reads as it did. -/
def rowGroupsUptoRow : OpenClaim := { program := "ytobgghjmclagaaadoor", sum := "c02e84474fb8db259e7a116eb24644c07c756fdaa6d49a4710dbe7f37f5976bd", func := "schisma/schismalaw05.RowGroups", spec := "rowGroups", inPlace := ["internal/abi.NoEscape", "internal/bytealg.MakeNoZero"], unfollowed := true, recurses := true, named := ["internal/strconv.uint64pow10", "math/bits.deBruijn32tab", "math/bits.deBruijn64tab"], apart := false, laid := [("math/bits.deBruijn32tab", laid_math_bits_deBruijn32tab), ("math/bits.deBruijn64tab", laid_math_bits_deBruijn64tab), ("internal/strconv.uint64pow10", laid_internal_strconv_uint64pow10)], narrowed := true }
def RowGroupsUptoSaid : Prop := rowGroupsUptoRow.holds Tryd.pinned (OpenSpec.upto rowGroupsSpec)

/-- 'schismalaw05.RowCompares', WHERE WHAT IT READS IS OF BULK AT MOST 1048576: true; the input reads as it did. -/
def rowComparesUptoRow : OpenClaim := { program := "ytobgghjmclagaaadoor", sum := "c02e84474fb8db259e7a116eb24644c07c756fdaa6d49a4710dbe7f37f5976bd", func := "schisma/schismalaw05.RowCompares", spec := "rowCompares", inPlace := ["internal/abi.NoEscape", "internal/bytealg.MakeNoZero"], unfollowed := true, recurses := true, named := ["internal/strconv.uint64pow10", "math/bits.deBruijn32tab", "math/bits.deBruijn64tab"], apart := false, laid := [("math/bits.deBruijn32tab", laid_math_bits_deBruijn32tab), ("math/bits.deBruijn64tab", laid_math_bits_deBruijn64tab), ("internal/strconv.uint64pow10", laid_internal_strconv_uint64pow10)], narrowed := true }
def RowComparesUptoSaid : Prop := rowComparesUptoRow.holds Tryd.pinned (OpenSpec.upto rowComparesSpec)

/-- 'schismalaw05.RowTexts', WHERE WHAT IT READS IS OF BULK AT MOST 1048576: true; the input reads as it did. -/
def rowTextsUptoRow : OpenClaim := { program := "ytobgghjmclagaaadoor", sum := "c02e84474fb8db259e7a116eb24644c07c756fdaa6d49a4710dbe7f37f5976bd", func := "schisma/schismalaw05.RowTexts", spec := "rowTexts", inPlace := ["internal/abi.NoEscape", "internal/bytealg.MakeNoZero", "internal/bytealg.CountString", "internal/bytealg.IndexByteString", "internal/bytealg.IndexString"], unfollowed := true, recurses := true, named := ["internal/strconv.uint64pow10", "math/bits.deBruijn32tab", "math/bits.deBruijn64tab", "unicode/utf8.first", "unicode/utf8.acceptRanges", "internal/bytealg.MaxLen", "strconv.ErrSyntax", "strconv.ErrRange"], apart := false, laid := [("math/bits.deBruijn32tab", laid_math_bits_deBruijn32tab), ("math/bits.deBruijn64tab", laid_math_bits_deBruijn64tab), ("internal/strconv.uint64pow10", laid_internal_strconv_uint64pow10), ("unicode/utf8.acceptRanges", laid_unicode_utf8_acceptRanges), ("strconv.ErrRange", laid_strconv_ErrRange), ("strconv.ErrSyntax", laid_strconv_ErrSyntax), ("unicode/utf8.first", laid_unicode_utf8_first)], narrowed := true }
def RowTextsUptoSaid : Prop := rowTextsUptoRow.holds Tryd.pinned (OpenSpec.upto rowTextsSpec)

/-- 'schismalaw05.RowParses', WHERE WHAT IT READS IS OF BULK AT MOST 1048576: true; the input reads as it did. -/
def rowParsesUptoRow : OpenClaim := { program := "ytobgghjmclagaaadoor", sum := "c02e84474fb8db259e7a116eb24644c07c756fdaa6d49a4710dbe7f37f5976bd", func := "schisma/schismalaw05.RowParses", spec := "rowParses", inPlace := ["internal/abi.NoEscape", "internal/bytealg.MakeNoZero", "internal/bytealg.CountString", "internal/bytealg.IndexByteString", "internal/bytealg.IndexString"], unfollowed := true, recurses := true, named := ["internal/strconv.uint64pow10", "math/bits.deBruijn32tab", "math/bits.deBruijn64tab", "unicode/utf8.first", "unicode/utf8.acceptRanges", "internal/bytealg.MaxLen", "strconv.ErrSyntax", "strconv.ErrRange"], apart := false, laid := [("math/bits.deBruijn32tab", laid_math_bits_deBruijn32tab), ("math/bits.deBruijn64tab", laid_math_bits_deBruijn64tab), ("internal/strconv.uint64pow10", laid_internal_strconv_uint64pow10), ("unicode/utf8.acceptRanges", laid_unicode_utf8_acceptRanges), ("strconv.ErrRange", laid_strconv_ErrRange), ("strconv.ErrSyntax", laid_strconv_ErrSyntax), ("unicode/utf8.first", laid_unicode_utf8_first)], narrowed := true }
def RowParsesUptoSaid : Prop := rowParsesUptoRow.holds Tryd.pinned (OpenSpec.upto rowParsesSpec)

end Rows
end Go.Proofs.YtobgghjmclagaaaDoor
