/-
  DERIVED. GIVEN WITH THE SEED: THE CARDS: each row of YtpeinobepiodaaaGreatDoorRows.lean that lists a variable, with what it lists TIED to the program's text (the seventh form; the later family's looks); each row that meets fmt, with fmt's text TOLD by the authors' own Lean function (tested against real Go, not proved from fmt's source: count such statements apart). THE CARD IS WHAT COUNTS. Prove the row's statement (the work); the ties are given (YtpeinobepiodaaaGreatDoorTie.lean); close each card by the builder's one call (the guide's Derived/Test/ToyasCard.lean, 'card_holds'). Laid BY PROGRAM, IN A SANDBOX (cutbox-door.mjs). By AI agents, Wed Nov 11 2026. No macro, syntax, notation, axiom, sorry.
-/
import Derived.Test.YtpeinobepiodaaaGreatDoorRows
import GoSem.ClaimSeven
namespace Go.Proofs.YtpeinobepiodaaaGreatDoor
namespace Rows

/-- THE TIED CARD OF 'schismalaw06.TableDeterminants'. -/
def tableDeterminantsCard : Claim7 := { stood := { row := tableDeterminantsRow, standIns := [], harness := (true, "b2699ac3f3112354c5e239e5203a995a3cb5940470f042739c0295272c9cd000"), looks := true }, kinds := [], alts := [], laidByText := true, laidKinds := [.data, .data, .data, .sentinel, .sentinel], laidTests := true, laidLooks := .later }
def TableDeterminantsCardSaid : Prop := Claim7.holds Tryz.pinned (.plain (OpenSpec.ofChange tableDeterminantsSpec)) tableDeterminantsCard

/-- THE TIED CARD OF 'schismalaw06.TableMinors'. -/
def tableMinorsCard : Claim7 := { stood := { row := tableMinorsRow, standIns := [], harness := (true, "b2699ac3f3112354c5e239e5203a995a3cb5940470f042739c0295272c9cd000"), looks := true }, kinds := [], alts := [], laidByText := true, laidKinds := [.data, .data, .data, .sentinel, .sentinel], laidTests := true, laidLooks := .later }
def TableMinorsCardSaid : Prop := Claim7.holds Tryz.pinned (.plain (OpenSpec.ofChange tableMinorsSpec)) tableMinorsCard

/-- THE TIED CARD OF 'schismalaw06.TableMany'. -/
def tableManyCard : Claim7 := { stood := { row := tableManyRow, standIns := [], harness := (true, "b2699ac3f3112354c5e239e5203a995a3cb5940470f042739c0295272c9cd000"), looks := true }, kinds := [], alts := [], laidByText := true, laidKinds := [.data, .data, .data, .sentinel, .sentinel], laidTests := true, laidLooks := .later }
def TableManyCardSaid : Prop := Claim7.holds Tryz.pinned (.plain (OpenSpec.ofChange tableManySpec)) tableManyCard

/-- THE TIED CARD OF 'schismalaw06.TableSolves'. -/
def tableSolvesCard : Claim7 := { stood := { row := tableSolvesRow, standIns := [], harness := (true, "b2699ac3f3112354c5e239e5203a995a3cb5940470f042739c0295272c9cd000"), looks := true }, kinds := [], alts := [], laidByText := true, laidKinds := [.data, .data, .data, .sentinel, .sentinel], laidTests := true, laidLooks := .later }
def TableSolvesCardSaid : Prop := Claim7.holds Tryz.pinned (.plain (OpenSpec.ofChange tableSolvesSpec)) tableSolvesCard

/-- THE TIED CARD OF 'schismalaw06.TableIdentities'. -/
def tableIdentitiesCard : Claim7 := { stood := { row := tableIdentitiesRow, standIns := [], harness := (true, "b2699ac3f3112354c5e239e5203a995a3cb5940470f042739c0295272c9cd000"), looks := true }, kinds := [], alts := [], laidByText := true, laidKinds := [.data, .data, .data, .sentinel, .sentinel], laidTests := true, laidLooks := .later }
def TableIdentitiesCardSaid : Prop := Claim7.holds Tryz.pinned (.plain (OpenSpec.ofChange tableIdentitiesSpec)) tableIdentitiesCard

/-- THE TIED CARD OF 'schismalaw06.TableRanks'. -/
def tableRanksCard : Claim7 := { stood := { row := tableRanksRow, standIns := [], harness := (true, "b2699ac3f3112354c5e239e5203a995a3cb5940470f042739c0295272c9cd000"), looks := true }, kinds := [], alts := [], laidByText := true, laidKinds := [.data, .data, .data, .sentinel, .sentinel], laidTests := true, laidLooks := .later }
def TableRanksCardSaid : Prop := Claim7.holds Tryz.pinned (.plain (OpenSpec.ofChange tableRanksSpec)) tableRanksCard

/-- THE TIED CARD OF 'schismalaw06.TableApplies'. -/
def tableAppliesCard : Claim7 := { stood := { row := tableAppliesRow, standIns := [], harness := (true, "b2699ac3f3112354c5e239e5203a995a3cb5940470f042739c0295272c9cd000"), looks := true }, kinds := [], alts := [], laidByText := true, laidKinds := [.data, .data, .data, .sentinel, .sentinel], laidTests := true, laidLooks := .later }
def TableAppliesCardSaid : Prop := Claim7.holds Tryz.pinned (.plain (OpenSpec.ofChange tableAppliesSpec)) tableAppliesCard

/-- THE TIED CARD OF 'schismalaw06.TableProducts'. -/
def tableProductsCard : Claim7 := { stood := { row := tableProductsRow, standIns := [], harness := (true, "b2699ac3f3112354c5e239e5203a995a3cb5940470f042739c0295272c9cd000"), looks := true }, kinds := [], alts := [], laidByText := true, laidKinds := [.data, .data, .data, .sentinel, .sentinel], laidTests := true, laidLooks := .later }
def TableProductsCardSaid : Prop := Claim7.holds Tryz.pinned (.plain (OpenSpec.ofChange tableProductsSpec)) tableProductsCard

/-- THE TIED CARD OF 'schismalaw06.TableChecks'. -/
def tableChecksCard : Claim7 := { stood := { row := tableChecksRow, standIns := [], harness := (true, "b2699ac3f3112354c5e239e5203a995a3cb5940470f042739c0295272c9cd000"), looks := true }, kinds := [], alts := [], laidByText := true, laidKinds := [.data, .data, .data, .sentinel, .sentinel], laidTests := true, laidLooks := .later }
def TableChecksCardSaid : Prop := Claim7.holds Tryz.pinned (.plain (OpenSpec.ofChange tableChecksSpec)) tableChecksCard

/-- THE TIED CARD OF 'schismalaw06.TableSolutions'. -/
def tableSolutionsCard : Claim7 := { stood := { row := tableSolutionsRow, standIns := [], harness := (true, "b2699ac3f3112354c5e239e5203a995a3cb5940470f042739c0295272c9cd000"), looks := true }, kinds := [], alts := [], laidByText := true, laidKinds := [.data, .data, .data, .sentinel, .sentinel], laidTests := true, laidLooks := .later }
def TableSolutionsCardSaid : Prop := Claim7.holds Tryz.pinned (.plain (OpenSpec.ofChange tableSolutionsSpec)) tableSolutionsCard

/-- THE TIED CARD OF 'schismalaw06.TableLaws'. -/
def tableLawsCard : Claim7 := { stood := { row := tableLawsRow, standIns := [], harness := (true, "b2699ac3f3112354c5e239e5203a995a3cb5940470f042739c0295272c9cd000"), looks := true }, kinds := [], alts := [], laidByText := true, laidKinds := [.data, .data, .data, .sentinel, .sentinel], laidTests := true, laidLooks := .later }
def TableLawsCardSaid : Prop := Claim7.holds Tryz.pinned (.plain (OpenSpec.ofChange tableLawsSpec)) tableLawsCard

/-- THE SECOND FORM's CARD OF 'schismalaw06.TableDeterminants'. -/
def tableDeterminantsUptoCard : Claim7 := { stood := { row := tableDeterminantsUptoRow, standIns := [], harness := (true, "b2699ac3f3112354c5e239e5203a995a3cb5940470f042739c0295272c9cd000"), looks := true }, kinds := [], alts := [], laidByText := true, laidKinds := [.data, .data, .data, .sentinel, .sentinel], laidTests := true, laidLooks := .later }
def TableDeterminantsUptoCardSaid : Prop := Claim7.holds Tryz.pinned (.plain (OpenSpec.upto tableDeterminantsSpec)) tableDeterminantsUptoCard

/-- THE SECOND FORM's CARD OF 'schismalaw06.TableMinors'. -/
def tableMinorsUptoCard : Claim7 := { stood := { row := tableMinorsUptoRow, standIns := [], harness := (true, "b2699ac3f3112354c5e239e5203a995a3cb5940470f042739c0295272c9cd000"), looks := true }, kinds := [], alts := [], laidByText := true, laidKinds := [.data, .data, .data, .sentinel, .sentinel], laidTests := true, laidLooks := .later }
def TableMinorsUptoCardSaid : Prop := Claim7.holds Tryz.pinned (.plain (OpenSpec.upto tableMinorsSpec)) tableMinorsUptoCard

/-- THE SECOND FORM's CARD OF 'schismalaw06.TableMany'. -/
def tableManyUptoCard : Claim7 := { stood := { row := tableManyUptoRow, standIns := [], harness := (true, "b2699ac3f3112354c5e239e5203a995a3cb5940470f042739c0295272c9cd000"), looks := true }, kinds := [], alts := [], laidByText := true, laidKinds := [.data, .data, .data, .sentinel, .sentinel], laidTests := true, laidLooks := .later }
def TableManyUptoCardSaid : Prop := Claim7.holds Tryz.pinned (.plain (OpenSpec.upto tableManySpec)) tableManyUptoCard

/-- THE SECOND FORM's CARD OF 'schismalaw06.TableSolves'. -/
def tableSolvesUptoCard : Claim7 := { stood := { row := tableSolvesUptoRow, standIns := [], harness := (true, "b2699ac3f3112354c5e239e5203a995a3cb5940470f042739c0295272c9cd000"), looks := true }, kinds := [], alts := [], laidByText := true, laidKinds := [.data, .data, .data, .sentinel, .sentinel], laidTests := true, laidLooks := .later }
def TableSolvesUptoCardSaid : Prop := Claim7.holds Tryz.pinned (.plain (OpenSpec.upto tableSolvesSpec)) tableSolvesUptoCard

/-- THE SECOND FORM's CARD OF 'schismalaw06.TableIdentities'. -/
def tableIdentitiesUptoCard : Claim7 := { stood := { row := tableIdentitiesUptoRow, standIns := [], harness := (true, "b2699ac3f3112354c5e239e5203a995a3cb5940470f042739c0295272c9cd000"), looks := true }, kinds := [], alts := [], laidByText := true, laidKinds := [.data, .data, .data, .sentinel, .sentinel], laidTests := true, laidLooks := .later }
def TableIdentitiesUptoCardSaid : Prop := Claim7.holds Tryz.pinned (.plain (OpenSpec.upto tableIdentitiesSpec)) tableIdentitiesUptoCard

/-- THE SECOND FORM's CARD OF 'schismalaw06.TableRanks'. -/
def tableRanksUptoCard : Claim7 := { stood := { row := tableRanksUptoRow, standIns := [], harness := (true, "b2699ac3f3112354c5e239e5203a995a3cb5940470f042739c0295272c9cd000"), looks := true }, kinds := [], alts := [], laidByText := true, laidKinds := [.data, .data, .data, .sentinel, .sentinel], laidTests := true, laidLooks := .later }
def TableRanksUptoCardSaid : Prop := Claim7.holds Tryz.pinned (.plain (OpenSpec.upto tableRanksSpec)) tableRanksUptoCard

/-- THE SECOND FORM's CARD OF 'schismalaw06.TableApplies'. -/
def tableAppliesUptoCard : Claim7 := { stood := { row := tableAppliesUptoRow, standIns := [], harness := (true, "b2699ac3f3112354c5e239e5203a995a3cb5940470f042739c0295272c9cd000"), looks := true }, kinds := [], alts := [], laidByText := true, laidKinds := [.data, .data, .data, .sentinel, .sentinel], laidTests := true, laidLooks := .later }
def TableAppliesUptoCardSaid : Prop := Claim7.holds Tryz.pinned (.plain (OpenSpec.upto tableAppliesSpec)) tableAppliesUptoCard

/-- THE SECOND FORM's CARD OF 'schismalaw06.TableProducts'. -/
def tableProductsUptoCard : Claim7 := { stood := { row := tableProductsUptoRow, standIns := [], harness := (true, "b2699ac3f3112354c5e239e5203a995a3cb5940470f042739c0295272c9cd000"), looks := true }, kinds := [], alts := [], laidByText := true, laidKinds := [.data, .data, .data, .sentinel, .sentinel], laidTests := true, laidLooks := .later }
def TableProductsUptoCardSaid : Prop := Claim7.holds Tryz.pinned (.plain (OpenSpec.upto tableProductsSpec)) tableProductsUptoCard

/-- THE SECOND FORM's CARD OF 'schismalaw06.TableChecks'. -/
def tableChecksUptoCard : Claim7 := { stood := { row := tableChecksUptoRow, standIns := [], harness := (true, "b2699ac3f3112354c5e239e5203a995a3cb5940470f042739c0295272c9cd000"), looks := true }, kinds := [], alts := [], laidByText := true, laidKinds := [.data, .data, .data, .sentinel, .sentinel], laidTests := true, laidLooks := .later }
def TableChecksUptoCardSaid : Prop := Claim7.holds Tryz.pinned (.plain (OpenSpec.upto tableChecksSpec)) tableChecksUptoCard

/-- THE SECOND FORM's CARD OF 'schismalaw06.TableSolutions'. -/
def tableSolutionsUptoCard : Claim7 := { stood := { row := tableSolutionsUptoRow, standIns := [], harness := (true, "b2699ac3f3112354c5e239e5203a995a3cb5940470f042739c0295272c9cd000"), looks := true }, kinds := [], alts := [], laidByText := true, laidKinds := [.data, .data, .data, .sentinel, .sentinel], laidTests := true, laidLooks := .later }
def TableSolutionsUptoCardSaid : Prop := Claim7.holds Tryz.pinned (.plain (OpenSpec.upto tableSolutionsSpec)) tableSolutionsUptoCard

/-- THE SECOND FORM's CARD OF 'schismalaw06.TableLaws'. -/
def tableLawsUptoCard : Claim7 := { stood := { row := tableLawsUptoRow, standIns := [], harness := (true, "b2699ac3f3112354c5e239e5203a995a3cb5940470f042739c0295272c9cd000"), looks := true }, kinds := [], alts := [], laidByText := true, laidKinds := [.data, .data, .data, .sentinel, .sentinel], laidTests := true, laidLooks := .later }
def TableLawsUptoCardSaid : Prop := Claim7.holds Tryz.pinned (.plain (OpenSpec.upto tableLawsSpec)) tableLawsUptoCard
end Rows
end Go.Proofs.YtpeinobepiodaaaGreatDoor
