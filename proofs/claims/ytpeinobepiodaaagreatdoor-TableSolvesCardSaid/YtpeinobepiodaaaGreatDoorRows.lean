/-
  NARROWER THAN 'FOR EVERY INPUT', by the rows' own cells (each row's printed sentence says how): TableDeterminants: laid · TableMinors: laid · TableMany: laid · TableSolves: laid · TableIdentities: laid · TableRanks: laid · TableApplies: laid · TableProducts: laid · TableChecks: laid · TableSolutions: laid · TableLaws: laid.
  DERIVED. THE GIVEN ROWS OF THIS SEAT. 11 by the template 'for every input the law returns true; each argument reads behind the call as it read before'; 0 by the template 'total and deterministic' (their statements: YtpeinobepiodaaaGreatDoorTotals.lean).
  GIVEN WITH THE SEED: the statements are not yours to turn. If you find one false, say at which input.
  Laid BY PROGRAM, IN A SANDBOX (cutbox-rows.mjs): the forced cells as the released guide's own fill.sh prints them over the translation 44fe8acfbc72a975… (all of the seat's roots in one cut). By AI agents, Wed Nov 11 2026. No macro, syntax, notation, axiom, sorry.
-/
import Derived.Test.YtpeinobepiodaaaGreatDoorChecked
import GoSem.Claim
import GoSem.ClaimJoined
import GoSem.ClaimMapViews
import Derived.JoinedTies
import Derived.KernelRfl
namespace Go.Proofs.YtpeinobepiodaaaGreatDoor
/- THE CELL 'sum', in the pinned program and in every row, IS THE sha256 OF THE DUMP (.gsa) THAT YtpeinobepiodaaaGreatDoorProg.lean LOADS. Nothing in Lean hashes anything: it is a label: what it is worth is what the hold of that sum in a sandbox is worth. -/
noncomputable def Tryz.pinned : Pinned := { name := "ytpeinobepiodaaagreatdoor", sum := "44fe8acfbc72a9753a7d1a0354cebbb9f296f8a37b9088183c16942d04f4956e", checked := Tryz.checked }
namespace Rows
def none {H : Type} : Left H := { results := [], args := [] }

/- WHAT THE LISTED PACKAGE-LEVEL VARIABLES READ AS WHEN THE CALL BEGINS. Each datum BY PROGRAM (the guide's laid-datum.mjs) off the statement by which the dump's own 'gosem.cut.vars' lays the variable. In a bare row this is a premise. The card (YtpeinobepiodaaaGreatDoorCards.lean) ties it to the program's text. -/
def laid_math_bits_deBruijn32tab {H : Type} : DataW H := .agg [.lit (.int .u8 0), .lit (.int .u8 1), .lit (.int .u8 28), .lit (.int .u8 2), .lit (.int .u8 29), .lit (.int .u8 14), .lit (.int .u8 24), .lit (.int .u8 3), .lit (.int .u8 30), .lit (.int .u8 22), .lit (.int .u8 20), .lit (.int .u8 15), .lit (.int .u8 25), .lit (.int .u8 17), .lit (.int .u8 4), .lit (.int .u8 8), .lit (.int .u8 31), .lit (.int .u8 27), .lit (.int .u8 13), .lit (.int .u8 23), .lit (.int .u8 21), .lit (.int .u8 19), .lit (.int .u8 16), .lit (.int .u8 7), .lit (.int .u8 26), .lit (.int .u8 12), .lit (.int .u8 18), .lit (.int .u8 6), .lit (.int .u8 11), .lit (.int .u8 5), .lit (.int .u8 10), .lit (.int .u8 9)]
def laid_math_bits_deBruijn64tab {H : Type} : DataW H := .agg [.lit (.int .u8 0), .lit (.int .u8 1), .lit (.int .u8 56), .lit (.int .u8 2), .lit (.int .u8 57), .lit (.int .u8 49), .lit (.int .u8 28), .lit (.int .u8 3), .lit (.int .u8 61), .lit (.int .u8 58), .lit (.int .u8 42), .lit (.int .u8 50), .lit (.int .u8 38), .lit (.int .u8 29), .lit (.int .u8 17), .lit (.int .u8 4), .lit (.int .u8 62), .lit (.int .u8 47), .lit (.int .u8 59), .lit (.int .u8 36), .lit (.int .u8 45), .lit (.int .u8 43), .lit (.int .u8 51), .lit (.int .u8 22), .lit (.int .u8 53), .lit (.int .u8 39), .lit (.int .u8 33), .lit (.int .u8 30), .lit (.int .u8 24), .lit (.int .u8 18), .lit (.int .u8 12), .lit (.int .u8 5), .lit (.int .u8 63), .lit (.int .u8 55), .lit (.int .u8 48), .lit (.int .u8 27), .lit (.int .u8 60), .lit (.int .u8 41), .lit (.int .u8 37), .lit (.int .u8 16), .lit (.int .u8 46), .lit (.int .u8 35), .lit (.int .u8 44), .lit (.int .u8 21), .lit (.int .u8 52), .lit (.int .u8 32), .lit (.int .u8 23), .lit (.int .u8 11), .lit (.int .u8 54), .lit (.int .u8 26), .lit (.int .u8 40), .lit (.int .u8 15), .lit (.int .u8 34), .lit (.int .u8 20), .lit (.int .u8 31), .lit (.int .u8 10), .lit (.int .u8 25), .lit (.int .u8 14), .lit (.int .u8 19), .lit (.int .u8 9), .lit (.int .u8 13), .lit (.int .u8 8), .lit (.int .u8 7), .lit (.int .u8 6)]
def laid_internal_strconv_uint64pow10 {H : Type} : DataW H := .agg [.lit (.int .u64 1), .lit (.int .u64 10), .lit (.int .u64 100), .lit (.int .u64 1000), .lit (.int .u64 10000), .lit (.int .u64 100000), .lit (.int .u64 1000000), .lit (.int .u64 10000000), .lit (.int .u64 100000000), .lit (.int .u64 1000000000), .lit (.int .u64 10000000000), .lit (.int .u64 100000000000), .lit (.int .u64 1000000000000), .lit (.int .u64 10000000000000), .lit (.int .u64 100000000000000), .lit (.int .u64 1000000000000000), .lit (.int .u64 10000000000000000), .lit (.int .u64 100000000000000000), .lit (.int .u64 1000000000000000000), .lit (.int .u64 10000000000000000000)]
def laid_strconv_ErrRange {H : Type} : DataW H := .iface "*errors.errorString" (.ptr (.agg [.lit (.string [118, 97, 108, 117, 101, 32, 111, 117, 116, 32, 111, 102, 32, 114, 97, 110, 103, 101])]))
def laid_strconv_ErrSyntax {H : Type} : DataW H := .iface "*errors.errorString" (.ptr (.agg [.lit (.string [105, 110, 118, 97, 108, 105, 100, 32, 115, 121, 110, 116, 97, 120])]))

/-- 'schismalaw06.TableDeterminants': WHATEVER THE INPUT: true; the input reads as it did. -/
def tableDeterminantsSpec : ChangeSpec := { name := "tableDeterminants", fn := fun _ => fun
  | [d] => { results := [.lit (.bool true)], args := [d] }
  | _ => none }
def tableDeterminantsRow : OpenClaim := { program := "ytpeinobepiodaaagreatdoor", sum := "44fe8acfbc72a9753a7d1a0354cebbb9f296f8a37b9088183c16942d04f4956e", func := "schisma/schismalaw06.TableDeterminants", spec := "tableDeterminants", unfollowed := true, recurses := true, named := ["internal/strconv.uint64pow10", "math/bits.deBruijn32tab", "math/bits.deBruijn64tab", "strconv.ErrSyntax", "strconv.ErrRange"], apart := false, laid := [("math/bits.deBruijn32tab", laid_math_bits_deBruijn32tab), ("math/bits.deBruijn64tab", laid_math_bits_deBruijn64tab), ("internal/strconv.uint64pow10", laid_internal_strconv_uint64pow10), ("strconv.ErrRange", laid_strconv_ErrRange), ("strconv.ErrSyntax", laid_strconv_ErrSyntax)] }
def TableDeterminantsSaid : Prop := tableDeterminantsRow.holds Tryz.pinned (OpenSpec.ofChange tableDeterminantsSpec)

/-- ITS FALSE NEIGHBOUR: 'it returns false'. Refute it at one input. -/
def tableDeterminantsWrong : ChangeSpec := { name := "tableDeterminants", fn := fun _ => fun
  | [d] => { results := [.lit (.bool false)], args := [d] }
  | _ => none }
def TableDeterminantsWrongFalsely : Prop := tableDeterminantsRow.holds Tryz.pinned (OpenSpec.ofChange tableDeterminantsWrong)

/-- 'schismalaw06.TableMinors': WHATEVER THE INPUT: true; the input reads as it did. -/
def tableMinorsSpec : ChangeSpec := { name := "tableMinors", fn := fun _ => fun
  | [d1, d2] => { results := [.lit (.bool true)], args := [d1, d2] }
  | _ => none }
def tableMinorsRow : OpenClaim := { program := "ytpeinobepiodaaagreatdoor", sum := "44fe8acfbc72a9753a7d1a0354cebbb9f296f8a37b9088183c16942d04f4956e", func := "schisma/schismalaw06.TableMinors", spec := "tableMinors", unfollowed := true, recurses := true, named := ["internal/strconv.uint64pow10", "math/bits.deBruijn32tab", "math/bits.deBruijn64tab", "strconv.ErrSyntax", "strconv.ErrRange"], apart := false, laid := [("math/bits.deBruijn32tab", laid_math_bits_deBruijn32tab), ("math/bits.deBruijn64tab", laid_math_bits_deBruijn64tab), ("internal/strconv.uint64pow10", laid_internal_strconv_uint64pow10), ("strconv.ErrRange", laid_strconv_ErrRange), ("strconv.ErrSyntax", laid_strconv_ErrSyntax)] }
def TableMinorsSaid : Prop := tableMinorsRow.holds Tryz.pinned (OpenSpec.ofChange tableMinorsSpec)

/-- ITS FALSE NEIGHBOUR: 'it returns false'. Refute it at one input. -/
def tableMinorsWrong : ChangeSpec := { name := "tableMinors", fn := fun _ => fun
  | [d1, d2] => { results := [.lit (.bool false)], args := [d1, d2] }
  | _ => none }
def TableMinorsWrongFalsely : Prop := tableMinorsRow.holds Tryz.pinned (OpenSpec.ofChange tableMinorsWrong)

/-- 'schismalaw06.TableMany': WHATEVER THE INPUT: true; the input reads as it did. -/
def tableManySpec : ChangeSpec := { name := "tableMany", fn := fun _ => fun
  | [d1, d2, d3] => { results := [.lit (.bool true)], args := [d1, d2, d3] }
  | _ => none }
def tableManyRow : OpenClaim := { program := "ytpeinobepiodaaagreatdoor", sum := "44fe8acfbc72a9753a7d1a0354cebbb9f296f8a37b9088183c16942d04f4956e", func := "schisma/schismalaw06.TableMany", spec := "tableMany", unfollowed := true, recurses := true, named := ["internal/strconv.uint64pow10", "math/bits.deBruijn32tab", "math/bits.deBruijn64tab", "strconv.ErrSyntax", "strconv.ErrRange"], apart := false, laid := [("math/bits.deBruijn32tab", laid_math_bits_deBruijn32tab), ("math/bits.deBruijn64tab", laid_math_bits_deBruijn64tab), ("internal/strconv.uint64pow10", laid_internal_strconv_uint64pow10), ("strconv.ErrRange", laid_strconv_ErrRange), ("strconv.ErrSyntax", laid_strconv_ErrSyntax)] }
def TableManySaid : Prop := tableManyRow.holds Tryz.pinned (OpenSpec.ofChange tableManySpec)

/-- ITS FALSE NEIGHBOUR: 'it returns false'. Refute it at one input. -/
def tableManyWrong : ChangeSpec := { name := "tableMany", fn := fun _ => fun
  | [d1, d2, d3] => { results := [.lit (.bool false)], args := [d1, d2, d3] }
  | _ => none }
def TableManyWrongFalsely : Prop := tableManyRow.holds Tryz.pinned (OpenSpec.ofChange tableManyWrong)

/-- 'schismalaw06.TableSolves': WHATEVER THE INPUT: true; the input reads as it did. -/
def tableSolvesSpec : ChangeSpec := { name := "tableSolves", fn := fun _ => fun
  | [d1, d2] => { results := [.lit (.bool true)], args := [d1, d2] }
  | _ => none }
def tableSolvesRow : OpenClaim := { program := "ytpeinobepiodaaagreatdoor", sum := "44fe8acfbc72a9753a7d1a0354cebbb9f296f8a37b9088183c16942d04f4956e", func := "schisma/schismalaw06.TableSolves", spec := "tableSolves", unfollowed := true, recurses := true, named := ["internal/strconv.uint64pow10", "math/bits.deBruijn32tab", "math/bits.deBruijn64tab", "strconv.ErrSyntax", "strconv.ErrRange"], apart := false, laid := [("math/bits.deBruijn32tab", laid_math_bits_deBruijn32tab), ("math/bits.deBruijn64tab", laid_math_bits_deBruijn64tab), ("internal/strconv.uint64pow10", laid_internal_strconv_uint64pow10), ("strconv.ErrRange", laid_strconv_ErrRange), ("strconv.ErrSyntax", laid_strconv_ErrSyntax)] }
def TableSolvesSaid : Prop := tableSolvesRow.holds Tryz.pinned (OpenSpec.ofChange tableSolvesSpec)

/-- ITS FALSE NEIGHBOUR: 'it returns false'. Refute it at one input. -/
def tableSolvesWrong : ChangeSpec := { name := "tableSolves", fn := fun _ => fun
  | [d1, d2] => { results := [.lit (.bool false)], args := [d1, d2] }
  | _ => none }
def TableSolvesWrongFalsely : Prop := tableSolvesRow.holds Tryz.pinned (OpenSpec.ofChange tableSolvesWrong)

/-- 'schismalaw06.TableIdentities': WHATEVER THE INPUT: true; the input reads as it did. -/
def tableIdentitiesSpec : ChangeSpec := { name := "tableIdentities", fn := fun _ => fun
  | [d] => { results := [.lit (.bool true)], args := [d] }
  | _ => none }
def tableIdentitiesRow : OpenClaim := { program := "ytpeinobepiodaaagreatdoor", sum := "44fe8acfbc72a9753a7d1a0354cebbb9f296f8a37b9088183c16942d04f4956e", func := "schisma/schismalaw06.TableIdentities", spec := "tableIdentities", unfollowed := true, recurses := true, named := ["internal/strconv.uint64pow10", "math/bits.deBruijn32tab", "math/bits.deBruijn64tab", "strconv.ErrSyntax", "strconv.ErrRange"], apart := false, laid := [("math/bits.deBruijn32tab", laid_math_bits_deBruijn32tab), ("math/bits.deBruijn64tab", laid_math_bits_deBruijn64tab), ("internal/strconv.uint64pow10", laid_internal_strconv_uint64pow10), ("strconv.ErrRange", laid_strconv_ErrRange), ("strconv.ErrSyntax", laid_strconv_ErrSyntax)] }
def TableIdentitiesSaid : Prop := tableIdentitiesRow.holds Tryz.pinned (OpenSpec.ofChange tableIdentitiesSpec)

/-- ITS FALSE NEIGHBOUR: 'it returns false'. Refute it at one input. -/
def tableIdentitiesWrong : ChangeSpec := { name := "tableIdentities", fn := fun _ => fun
  | [d] => { results := [.lit (.bool false)], args := [d] }
  | _ => none }
def TableIdentitiesWrongFalsely : Prop := tableIdentitiesRow.holds Tryz.pinned (OpenSpec.ofChange tableIdentitiesWrong)

/-- 'schismalaw06.TableRanks': WHATEVER THE INPUT: true; the input reads as it did. -/
def tableRanksSpec : ChangeSpec := { name := "tableRanks", fn := fun _ => fun
  | [d] => { results := [.lit (.bool true)], args := [d] }
  | _ => none }
def tableRanksRow : OpenClaim := { program := "ytpeinobepiodaaagreatdoor", sum := "44fe8acfbc72a9753a7d1a0354cebbb9f296f8a37b9088183c16942d04f4956e", func := "schisma/schismalaw06.TableRanks", spec := "tableRanks", unfollowed := true, recurses := true, named := ["internal/strconv.uint64pow10", "math/bits.deBruijn32tab", "math/bits.deBruijn64tab", "strconv.ErrSyntax", "strconv.ErrRange"], apart := false, laid := [("math/bits.deBruijn32tab", laid_math_bits_deBruijn32tab), ("math/bits.deBruijn64tab", laid_math_bits_deBruijn64tab), ("internal/strconv.uint64pow10", laid_internal_strconv_uint64pow10), ("strconv.ErrRange", laid_strconv_ErrRange), ("strconv.ErrSyntax", laid_strconv_ErrSyntax)] }
def TableRanksSaid : Prop := tableRanksRow.holds Tryz.pinned (OpenSpec.ofChange tableRanksSpec)

/-- ITS FALSE NEIGHBOUR: 'it returns false'. Refute it at one input. -/
def tableRanksWrong : ChangeSpec := { name := "tableRanks", fn := fun _ => fun
  | [d] => { results := [.lit (.bool false)], args := [d] }
  | _ => none }
def TableRanksWrongFalsely : Prop := tableRanksRow.holds Tryz.pinned (OpenSpec.ofChange tableRanksWrong)

/-- 'schismalaw06.TableApplies': WHATEVER THE INPUT: true; the input reads as it did. -/
def tableAppliesSpec : ChangeSpec := { name := "tableApplies", fn := fun _ => fun
  | [d1, d2] => { results := [.lit (.bool true)], args := [d1, d2] }
  | _ => none }
def tableAppliesRow : OpenClaim := { program := "ytpeinobepiodaaagreatdoor", sum := "44fe8acfbc72a9753a7d1a0354cebbb9f296f8a37b9088183c16942d04f4956e", func := "schisma/schismalaw06.TableApplies", spec := "tableApplies", unfollowed := true, recurses := true, named := ["internal/strconv.uint64pow10", "math/bits.deBruijn32tab", "math/bits.deBruijn64tab", "strconv.ErrSyntax", "strconv.ErrRange"], apart := false, laid := [("math/bits.deBruijn32tab", laid_math_bits_deBruijn32tab), ("math/bits.deBruijn64tab", laid_math_bits_deBruijn64tab), ("internal/strconv.uint64pow10", laid_internal_strconv_uint64pow10), ("strconv.ErrRange", laid_strconv_ErrRange), ("strconv.ErrSyntax", laid_strconv_ErrSyntax)] }
def TableAppliesSaid : Prop := tableAppliesRow.holds Tryz.pinned (OpenSpec.ofChange tableAppliesSpec)

/-- ITS FALSE NEIGHBOUR: 'it returns false'. Refute it at one input. -/
def tableAppliesWrong : ChangeSpec := { name := "tableApplies", fn := fun _ => fun
  | [d1, d2] => { results := [.lit (.bool false)], args := [d1, d2] }
  | _ => none }
def TableAppliesWrongFalsely : Prop := tableAppliesRow.holds Tryz.pinned (OpenSpec.ofChange tableAppliesWrong)

/-- 'schismalaw06.TableProducts': WHATEVER THE INPUT: true; the input reads as it did. -/
def tableProductsSpec : ChangeSpec := { name := "tableProducts", fn := fun _ => fun
  | [d1, d2] => { results := [.lit (.bool true)], args := [d1, d2] }
  | _ => none }
def tableProductsRow : OpenClaim := { program := "ytpeinobepiodaaagreatdoor", sum := "44fe8acfbc72a9753a7d1a0354cebbb9f296f8a37b9088183c16942d04f4956e", func := "schisma/schismalaw06.TableProducts", spec := "tableProducts", unfollowed := true, recurses := true, named := ["internal/strconv.uint64pow10", "math/bits.deBruijn32tab", "math/bits.deBruijn64tab", "strconv.ErrSyntax", "strconv.ErrRange"], apart := false, laid := [("math/bits.deBruijn32tab", laid_math_bits_deBruijn32tab), ("math/bits.deBruijn64tab", laid_math_bits_deBruijn64tab), ("internal/strconv.uint64pow10", laid_internal_strconv_uint64pow10), ("strconv.ErrRange", laid_strconv_ErrRange), ("strconv.ErrSyntax", laid_strconv_ErrSyntax)] }
def TableProductsSaid : Prop := tableProductsRow.holds Tryz.pinned (OpenSpec.ofChange tableProductsSpec)

/-- ITS FALSE NEIGHBOUR: 'it returns false'. Refute it at one input. -/
def tableProductsWrong : ChangeSpec := { name := "tableProducts", fn := fun _ => fun
  | [d1, d2] => { results := [.lit (.bool false)], args := [d1, d2] }
  | _ => none }
def TableProductsWrongFalsely : Prop := tableProductsRow.holds Tryz.pinned (OpenSpec.ofChange tableProductsWrong)

/-- 'schismalaw06.TableChecks': WHATEVER THE INPUT: true; the input reads as it did. -/
def tableChecksSpec : ChangeSpec := { name := "tableChecks", fn := fun _ => fun
  | [d1, d2] => { results := [.lit (.bool true)], args := [d1, d2] }
  | _ => none }
def tableChecksRow : OpenClaim := { program := "ytpeinobepiodaaagreatdoor", sum := "44fe8acfbc72a9753a7d1a0354cebbb9f296f8a37b9088183c16942d04f4956e", func := "schisma/schismalaw06.TableChecks", spec := "tableChecks", unfollowed := true, recurses := true, named := ["internal/strconv.uint64pow10", "math/bits.deBruijn32tab", "math/bits.deBruijn64tab", "strconv.ErrSyntax", "strconv.ErrRange"], apart := false, laid := [("math/bits.deBruijn32tab", laid_math_bits_deBruijn32tab), ("math/bits.deBruijn64tab", laid_math_bits_deBruijn64tab), ("internal/strconv.uint64pow10", laid_internal_strconv_uint64pow10), ("strconv.ErrRange", laid_strconv_ErrRange), ("strconv.ErrSyntax", laid_strconv_ErrSyntax)] }
def TableChecksSaid : Prop := tableChecksRow.holds Tryz.pinned (OpenSpec.ofChange tableChecksSpec)

/-- ITS FALSE NEIGHBOUR: 'it returns false'. Refute it at one input. -/
def tableChecksWrong : ChangeSpec := { name := "tableChecks", fn := fun _ => fun
  | [d1, d2] => { results := [.lit (.bool false)], args := [d1, d2] }
  | _ => none }
def TableChecksWrongFalsely : Prop := tableChecksRow.holds Tryz.pinned (OpenSpec.ofChange tableChecksWrong)

/-- 'schismalaw06.TableSolutions': WHATEVER THE INPUT: true; the input reads as it did. -/
def tableSolutionsSpec : ChangeSpec := { name := "tableSolutions", fn := fun _ => fun
  | [d1, d2] => { results := [.lit (.bool true)], args := [d1, d2] }
  | _ => none }
def tableSolutionsRow : OpenClaim := { program := "ytpeinobepiodaaagreatdoor", sum := "44fe8acfbc72a9753a7d1a0354cebbb9f296f8a37b9088183c16942d04f4956e", func := "schisma/schismalaw06.TableSolutions", spec := "tableSolutions", unfollowed := true, recurses := true, named := ["internal/strconv.uint64pow10", "math/bits.deBruijn32tab", "math/bits.deBruijn64tab", "strconv.ErrSyntax", "strconv.ErrRange"], apart := false, laid := [("math/bits.deBruijn32tab", laid_math_bits_deBruijn32tab), ("math/bits.deBruijn64tab", laid_math_bits_deBruijn64tab), ("internal/strconv.uint64pow10", laid_internal_strconv_uint64pow10), ("strconv.ErrRange", laid_strconv_ErrRange), ("strconv.ErrSyntax", laid_strconv_ErrSyntax)] }
def TableSolutionsSaid : Prop := tableSolutionsRow.holds Tryz.pinned (OpenSpec.ofChange tableSolutionsSpec)

/-- ITS FALSE NEIGHBOUR: 'it returns false'. Refute it at one input. -/
def tableSolutionsWrong : ChangeSpec := { name := "tableSolutions", fn := fun _ => fun
  | [d1, d2] => { results := [.lit (.bool false)], args := [d1, d2] }
  | _ => none }
def TableSolutionsWrongFalsely : Prop := tableSolutionsRow.holds Tryz.pinned (OpenSpec.ofChange tableSolutionsWrong)

/-- 'schismalaw06.TableLaws': WHATEVER THE INPUT: true; the input reads as it did. -/
def tableLawsSpec : ChangeSpec := { name := "tableLaws", fn := fun _ => fun
  | [d1, d2, d3] => { results := [.lit (.bool true)], args := [d1, d2, d3] }
  | _ => none }
def tableLawsRow : OpenClaim := { program := "ytpeinobepiodaaagreatdoor", sum := "44fe8acfbc72a9753a7d1a0354cebbb9f296f8a37b9088183c16942d04f4956e", func := "schisma/schismalaw06.TableLaws", spec := "tableLaws", unfollowed := true, recurses := true, named := ["internal/strconv.uint64pow10", "math/bits.deBruijn32tab", "math/bits.deBruijn64tab", "strconv.ErrSyntax", "strconv.ErrRange"], apart := false, laid := [("math/bits.deBruijn32tab", laid_math_bits_deBruijn32tab), ("math/bits.deBruijn64tab", laid_math_bits_deBruijn64tab), ("internal/strconv.uint64pow10", laid_internal_strconv_uint64pow10), ("strconv.ErrRange", laid_strconv_ErrRange), ("strconv.ErrSyntax", laid_strconv_ErrSyntax)] }
def TableLawsSaid : Prop := tableLawsRow.holds Tryz.pinned (OpenSpec.ofChange tableLawsSpec)

/-- ITS FALSE NEIGHBOUR: 'it returns false'. Refute it at one input. -/
def tableLawsWrong : ChangeSpec := { name := "tableLaws", fn := fun _ => fun
  | [d1, d2, d3] => { results := [.lit (.bool false)], args := [d1, d2, d3] }
  | _ => none }
def TableLawsWrongFalsely : Prop := tableLawsRow.holds Tryz.pinned (OpenSpec.ofChange tableLawsWrong)

/- THE SECOND FORM. 'bulk': how many values and letters a reading holds, each counted each time it is reached (what is shared counts as often as it is met; a slice's spare places count too). A statement '..UptoSaid' is the law's where the arguments, and the package variables that the reading takes, are together of bulk at most 1048576: NARROWER than '..Said'. Prove '..Said' where nothing that the law and all that it calls make is longer than what came in: it says more and counts as full. Else prove '..UptoSaid'. A law counts once. -/
mutual
def uptoBulk {H : Type} : DataW H → Nat
  | .lit (.string bytes) => bytes.length + 1
  | .lit _ => 1
  | .nil => 1
  | .ptr d => uptoBulk d + 1
  | .slice elems spare => uptoBulkAll elems + uptoBulkAll spare + 1
  | .agg parts => uptoBulkAll parts + 1
  | .iface _ d => uptoBulk d + 1
  | .map entries => uptoBulkEntries entries + 1
  | .held _ => 1
def uptoBulkAll {H : Type} : List (DataW H) → Nat
  | [] => 0
  | d :: r => uptoBulk d + uptoBulkAll r
def uptoBulkEntries {H : Type} : List (Lit × DataW H) → Nat
  | [] => 0
  | x :: r => uptoBulkEntry x + uptoBulkEntries r
def uptoBulkEntry {H : Type} : Lit × DataW H → Nat
  | (.string bytes, d) => bytes.length + uptoBulk d + 1
  | (_, d) => uptoBulk d + 1
 end
def uptoSmall : (H : Type) → List (DataW H) → Bool := fun _ ds => decide (uptoBulkAll ds ≤ 1048576)
def OpenSpec.upto (s : _root_.Go.ChangeSpec) : _root_.Go.OpenSpec := { _root_.Go.OpenSpec.ofChange s with cond := some uptoSmall }

/-- 'schismalaw06.TableDeterminants', WHERE WHAT IT READS IS OF BULK AT MOST 1048576: true; the input reads as it did. -/
def tableDeterminantsUptoRow : OpenClaim := { program := "ytpeinobepiodaaagreatdoor", sum := "44fe8acfbc72a9753a7d1a0354cebbb9f296f8a37b9088183c16942d04f4956e", func := "schisma/schismalaw06.TableDeterminants", spec := "tableDeterminants", unfollowed := true, recurses := true, named := ["internal/strconv.uint64pow10", "math/bits.deBruijn32tab", "math/bits.deBruijn64tab", "strconv.ErrSyntax", "strconv.ErrRange"], apart := false, laid := [("math/bits.deBruijn32tab", laid_math_bits_deBruijn32tab), ("math/bits.deBruijn64tab", laid_math_bits_deBruijn64tab), ("internal/strconv.uint64pow10", laid_internal_strconv_uint64pow10), ("strconv.ErrRange", laid_strconv_ErrRange), ("strconv.ErrSyntax", laid_strconv_ErrSyntax)], narrowed := true }
def TableDeterminantsUptoSaid : Prop := tableDeterminantsUptoRow.holds Tryz.pinned (OpenSpec.upto tableDeterminantsSpec)

/-- 'schismalaw06.TableMinors', WHERE WHAT IT READS IS OF BULK AT MOST 1048576: true; the input reads as it did. -/
def tableMinorsUptoRow : OpenClaim := { program := "ytpeinobepiodaaagreatdoor", sum := "44fe8acfbc72a9753a7d1a0354cebbb9f296f8a37b9088183c16942d04f4956e", func := "schisma/schismalaw06.TableMinors", spec := "tableMinors", unfollowed := true, recurses := true, named := ["internal/strconv.uint64pow10", "math/bits.deBruijn32tab", "math/bits.deBruijn64tab", "strconv.ErrSyntax", "strconv.ErrRange"], apart := false, laid := [("math/bits.deBruijn32tab", laid_math_bits_deBruijn32tab), ("math/bits.deBruijn64tab", laid_math_bits_deBruijn64tab), ("internal/strconv.uint64pow10", laid_internal_strconv_uint64pow10), ("strconv.ErrRange", laid_strconv_ErrRange), ("strconv.ErrSyntax", laid_strconv_ErrSyntax)], narrowed := true }
def TableMinorsUptoSaid : Prop := tableMinorsUptoRow.holds Tryz.pinned (OpenSpec.upto tableMinorsSpec)

/-- 'schismalaw06.TableMany', WHERE WHAT IT READS IS OF BULK AT MOST 1048576: true; the input reads as it did. -/
def tableManyUptoRow : OpenClaim := { program := "ytpeinobepiodaaagreatdoor", sum := "44fe8acfbc72a9753a7d1a0354cebbb9f296f8a37b9088183c16942d04f4956e", func := "schisma/schismalaw06.TableMany", spec := "tableMany", unfollowed := true, recurses := true, named := ["internal/strconv.uint64pow10", "math/bits.deBruijn32tab", "math/bits.deBruijn64tab", "strconv.ErrSyntax", "strconv.ErrRange"], apart := false, laid := [("math/bits.deBruijn32tab", laid_math_bits_deBruijn32tab), ("math/bits.deBruijn64tab", laid_math_bits_deBruijn64tab), ("internal/strconv.uint64pow10", laid_internal_strconv_uint64pow10), ("strconv.ErrRange", laid_strconv_ErrRange), ("strconv.ErrSyntax", laid_strconv_ErrSyntax)], narrowed := true }
def TableManyUptoSaid : Prop := tableManyUptoRow.holds Tryz.pinned (OpenSpec.upto tableManySpec)

/-- 'schismalaw06.TableSolves', WHERE WHAT IT READS IS OF BULK AT MOST 1048576: true; the input reads as it did. -/
def tableSolvesUptoRow : OpenClaim := { program := "ytpeinobepiodaaagreatdoor", sum := "44fe8acfbc72a9753a7d1a0354cebbb9f296f8a37b9088183c16942d04f4956e", func := "schisma/schismalaw06.TableSolves", spec := "tableSolves", unfollowed := true, recurses := true, named := ["internal/strconv.uint64pow10", "math/bits.deBruijn32tab", "math/bits.deBruijn64tab", "strconv.ErrSyntax", "strconv.ErrRange"], apart := false, laid := [("math/bits.deBruijn32tab", laid_math_bits_deBruijn32tab), ("math/bits.deBruijn64tab", laid_math_bits_deBruijn64tab), ("internal/strconv.uint64pow10", laid_internal_strconv_uint64pow10), ("strconv.ErrRange", laid_strconv_ErrRange), ("strconv.ErrSyntax", laid_strconv_ErrSyntax)], narrowed := true }
def TableSolvesUptoSaid : Prop := tableSolvesUptoRow.holds Tryz.pinned (OpenSpec.upto tableSolvesSpec)

/-- 'schismalaw06.TableIdentities', WHERE WHAT IT READS IS OF BULK AT MOST 1048576: true; the input reads as it did. -/
def tableIdentitiesUptoRow : OpenClaim := { program := "ytpeinobepiodaaagreatdoor", sum := "44fe8acfbc72a9753a7d1a0354cebbb9f296f8a37b9088183c16942d04f4956e", func := "schisma/schismalaw06.TableIdentities", spec := "tableIdentities", unfollowed := true, recurses := true, named := ["internal/strconv.uint64pow10", "math/bits.deBruijn32tab", "math/bits.deBruijn64tab", "strconv.ErrSyntax", "strconv.ErrRange"], apart := false, laid := [("math/bits.deBruijn32tab", laid_math_bits_deBruijn32tab), ("math/bits.deBruijn64tab", laid_math_bits_deBruijn64tab), ("internal/strconv.uint64pow10", laid_internal_strconv_uint64pow10), ("strconv.ErrRange", laid_strconv_ErrRange), ("strconv.ErrSyntax", laid_strconv_ErrSyntax)], narrowed := true }
def TableIdentitiesUptoSaid : Prop := tableIdentitiesUptoRow.holds Tryz.pinned (OpenSpec.upto tableIdentitiesSpec)

/-- 'schismalaw06.TableRanks', WHERE WHAT IT READS IS OF BULK AT MOST 1048576: true; the input reads as it did. -/
def tableRanksUptoRow : OpenClaim := { program := "ytpeinobepiodaaagreatdoor", sum := "44fe8acfbc72a9753a7d1a0354cebbb9f296f8a37b9088183c16942d04f4956e", func := "schisma/schismalaw06.TableRanks", spec := "tableRanks", unfollowed := true, recurses := true, named := ["internal/strconv.uint64pow10", "math/bits.deBruijn32tab", "math/bits.deBruijn64tab", "strconv.ErrSyntax", "strconv.ErrRange"], apart := false, laid := [("math/bits.deBruijn32tab", laid_math_bits_deBruijn32tab), ("math/bits.deBruijn64tab", laid_math_bits_deBruijn64tab), ("internal/strconv.uint64pow10", laid_internal_strconv_uint64pow10), ("strconv.ErrRange", laid_strconv_ErrRange), ("strconv.ErrSyntax", laid_strconv_ErrSyntax)], narrowed := true }
def TableRanksUptoSaid : Prop := tableRanksUptoRow.holds Tryz.pinned (OpenSpec.upto tableRanksSpec)

/-- 'schismalaw06.TableApplies', WHERE WHAT IT READS IS OF BULK AT MOST 1048576: true; the input reads as it did. -/
def tableAppliesUptoRow : OpenClaim := { program := "ytpeinobepiodaaagreatdoor", sum := "44fe8acfbc72a9753a7d1a0354cebbb9f296f8a37b9088183c16942d04f4956e", func := "schisma/schismalaw06.TableApplies", spec := "tableApplies", unfollowed := true, recurses := true, named := ["internal/strconv.uint64pow10", "math/bits.deBruijn32tab", "math/bits.deBruijn64tab", "strconv.ErrSyntax", "strconv.ErrRange"], apart := false, laid := [("math/bits.deBruijn32tab", laid_math_bits_deBruijn32tab), ("math/bits.deBruijn64tab", laid_math_bits_deBruijn64tab), ("internal/strconv.uint64pow10", laid_internal_strconv_uint64pow10), ("strconv.ErrRange", laid_strconv_ErrRange), ("strconv.ErrSyntax", laid_strconv_ErrSyntax)], narrowed := true }
def TableAppliesUptoSaid : Prop := tableAppliesUptoRow.holds Tryz.pinned (OpenSpec.upto tableAppliesSpec)

/-- 'schismalaw06.TableProducts', WHERE WHAT IT READS IS OF BULK AT MOST 1048576: true; the input reads as it did. -/
def tableProductsUptoRow : OpenClaim := { program := "ytpeinobepiodaaagreatdoor", sum := "44fe8acfbc72a9753a7d1a0354cebbb9f296f8a37b9088183c16942d04f4956e", func := "schisma/schismalaw06.TableProducts", spec := "tableProducts", unfollowed := true, recurses := true, named := ["internal/strconv.uint64pow10", "math/bits.deBruijn32tab", "math/bits.deBruijn64tab", "strconv.ErrSyntax", "strconv.ErrRange"], apart := false, laid := [("math/bits.deBruijn32tab", laid_math_bits_deBruijn32tab), ("math/bits.deBruijn64tab", laid_math_bits_deBruijn64tab), ("internal/strconv.uint64pow10", laid_internal_strconv_uint64pow10), ("strconv.ErrRange", laid_strconv_ErrRange), ("strconv.ErrSyntax", laid_strconv_ErrSyntax)], narrowed := true }
def TableProductsUptoSaid : Prop := tableProductsUptoRow.holds Tryz.pinned (OpenSpec.upto tableProductsSpec)

/-- 'schismalaw06.TableChecks', WHERE WHAT IT READS IS OF BULK AT MOST 1048576: true; the input reads as it did. -/
def tableChecksUptoRow : OpenClaim := { program := "ytpeinobepiodaaagreatdoor", sum := "44fe8acfbc72a9753a7d1a0354cebbb9f296f8a37b9088183c16942d04f4956e", func := "schisma/schismalaw06.TableChecks", spec := "tableChecks", unfollowed := true, recurses := true, named := ["internal/strconv.uint64pow10", "math/bits.deBruijn32tab", "math/bits.deBruijn64tab", "strconv.ErrSyntax", "strconv.ErrRange"], apart := false, laid := [("math/bits.deBruijn32tab", laid_math_bits_deBruijn32tab), ("math/bits.deBruijn64tab", laid_math_bits_deBruijn64tab), ("internal/strconv.uint64pow10", laid_internal_strconv_uint64pow10), ("strconv.ErrRange", laid_strconv_ErrRange), ("strconv.ErrSyntax", laid_strconv_ErrSyntax)], narrowed := true }
def TableChecksUptoSaid : Prop := tableChecksUptoRow.holds Tryz.pinned (OpenSpec.upto tableChecksSpec)

/-- 'schismalaw06.TableSolutions', WHERE WHAT IT READS IS OF BULK AT MOST 1048576: true; the input reads as it did. -/
def tableSolutionsUptoRow : OpenClaim := { program := "ytpeinobepiodaaagreatdoor", sum := "44fe8acfbc72a9753a7d1a0354cebbb9f296f8a37b9088183c16942d04f4956e", func := "schisma/schismalaw06.TableSolutions", spec := "tableSolutions", unfollowed := true, recurses := true, named := ["internal/strconv.uint64pow10", "math/bits.deBruijn32tab", "math/bits.deBruijn64tab", "strconv.ErrSyntax", "strconv.ErrRange"], apart := false, laid := [("math/bits.deBruijn32tab", laid_math_bits_deBruijn32tab), ("math/bits.deBruijn64tab", laid_math_bits_deBruijn64tab), ("internal/strconv.uint64pow10", laid_internal_strconv_uint64pow10), ("strconv.ErrRange", laid_strconv_ErrRange), ("strconv.ErrSyntax", laid_strconv_ErrSyntax)], narrowed := true }
def TableSolutionsUptoSaid : Prop := tableSolutionsUptoRow.holds Tryz.pinned (OpenSpec.upto tableSolutionsSpec)

/-- 'schismalaw06.TableLaws', WHERE WHAT IT READS IS OF BULK AT MOST 1048576: true; the input reads as it did. -/
def tableLawsUptoRow : OpenClaim := { program := "ytpeinobepiodaaagreatdoor", sum := "44fe8acfbc72a9753a7d1a0354cebbb9f296f8a37b9088183c16942d04f4956e", func := "schisma/schismalaw06.TableLaws", spec := "tableLaws", unfollowed := true, recurses := true, named := ["internal/strconv.uint64pow10", "math/bits.deBruijn32tab", "math/bits.deBruijn64tab", "strconv.ErrSyntax", "strconv.ErrRange"], apart := false, laid := [("math/bits.deBruijn32tab", laid_math_bits_deBruijn32tab), ("math/bits.deBruijn64tab", laid_math_bits_deBruijn64tab), ("internal/strconv.uint64pow10", laid_internal_strconv_uint64pow10), ("strconv.ErrRange", laid_strconv_ErrRange), ("strconv.ErrSyntax", laid_strconv_ErrSyntax)], narrowed := true }
def TableLawsUptoSaid : Prop := tableLawsUptoRow.holds Tryz.pinned (OpenSpec.upto tableLawsSpec)

end Rows
end Go.Proofs.YtpeinobepiodaaaGreatDoor
