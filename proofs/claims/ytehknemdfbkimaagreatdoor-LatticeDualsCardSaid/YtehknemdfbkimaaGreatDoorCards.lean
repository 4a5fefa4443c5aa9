/-
  DERIVED. GIVEN WITH THE SEED: THE CARDS: each row of YtehknemdfbkimaaGreatDoorRows.lean that lists a variable, with what it lists TIED to the program's text (the seventh form; the later family's looks); each row that meets fmt, with fmt's text TOLD by the authors' own Lean function (tested against real Go, not proved from fmt's source: count such statements apart). THE CARD IS WHAT COUNTS. Prove the row's statement (the work); the ties are given (YtehknemdfbkimaaGreatDoorTie.lean); close each card by the builder's one call (the guide's Derived/Test/ToyasCard.lean, 'card_holds'). Laid BY PROGRAM, IN A SANDBOX (cutbox-door.mjs). By AI agents, Wed Nov 11 2026. No macro, syntax, notation, axiom, sorry.
-/
import Derived.Test.YtehknemdfbkimaaGreatDoorRows
import GoSem.ClaimSeven
namespace Go.Proofs.YtehknemdfbkimaaGreatDoor
namespace Rows

/-- THE TIED CARD OF 'schismalaw09.LatticeSaturates'. -/
def latticeSaturatesCard : Claim7 := { stood := { row := latticeSaturatesRow, standIns := [], harness := (true, "63d6c6a1239c75afa82f8644d00ee8e8e0a1a0e5eee8baef631797d048299c48"), looks := true }, kinds := [], alts := [], laidByText := true, laidKinds := [.data, .data, .data, .sentinel, .sentinel], laidTests := true, laidLooks := .later }
def LatticeSaturatesCardSaid : Prop := Claim7.holds Tryz.pinned (.plain (OpenSpec.ofChange latticeSaturatesSpec)) latticeSaturatesCard

/-- THE TIED CARD OF 'schismalaw09.LatticeContains'. -/
def latticeContainsCard : Claim7 := { stood := { row := latticeContainsRow, standIns := [], harness := (true, "63d6c6a1239c75afa82f8644d00ee8e8e0a1a0e5eee8baef631797d048299c48"), looks := true }, kinds := [], alts := [], laidByText := true, laidKinds := [.data, .data, .data, .sentinel, .sentinel], laidTests := true, laidLooks := .later }
def LatticeContainsCardSaid : Prop := Claim7.holds Tryz.pinned (.plain (OpenSpec.ofChange latticeContainsSpec)) latticeContainsCard

/-- THE TIED CARD OF 'schismalaw09.LatticeBoxes'. -/
def latticeBoxesCard : Claim7 := { stood := { row := latticeBoxesRow, standIns := [], harness := (true, "63d6c6a1239c75afa82f8644d00ee8e8e0a1a0e5eee8baef631797d048299c48"), looks := true }, kinds := [], alts := [], laidByText := true, laidKinds := [.data, .data, .data, .sentinel, .sentinel], laidTests := true, laidLooks := .later }
def LatticeBoxesCardSaid : Prop := Claim7.holds Tryz.pinned (.plain (OpenSpec.ofChange latticeBoxesSpec)) latticeBoxesCard

/-- THE TIED CARD OF 'schismalaw09.LatticeDuals'. -/
def latticeDualsCard : Claim7 := { stood := { row := latticeDualsRow, standIns := [], harness := (true, "63d6c6a1239c75afa82f8644d00ee8e8e0a1a0e5eee8baef631797d048299c48"), looks := true }, kinds := [], alts := [], laidByText := true, laidKinds := [.data, .data, .data, .sentinel, .sentinel], laidTests := true, laidLooks := .later }
def LatticeDualsCardSaid : Prop := Claim7.holds Tryz.pinned (.plain (OpenSpec.ofChange latticeDualsSpec)) latticeDualsCard

/-- THE TIED CARD OF 'schismalaw18.TemperamentTexts'. -/
def temperamentTextsCard : Claim7 := { stood := { row := temperamentTextsRow, standIns := [], harness := (true, "63d6c6a1239c75afa82f8644d00ee8e8e0a1a0e5eee8baef631797d048299c48"), looks := true }, kinds := [], alts := [], laidByText := true, laidKinds := [.data, .data, .data, .sentinel, .sentinel], laidTests := true, laidLooks := .later }
def TemperamentTextsCardSaid : Prop := Claim7.holds Tryz.pinned (.plain (OpenSpec.ofChange temperamentTextsSpec)) temperamentTextsCard

/-- THE TIED CARD OF 'schismalaw18.TemperamentIdentifies'. -/
def temperamentIdentifiesCard : Claim7 := { stood := { row := temperamentIdentifiesRow, standIns := [], harness := (true, "63d6c6a1239c75afa82f8644d00ee8e8e0a1a0e5eee8baef631797d048299c48"), looks := true }, kinds := [], alts := [], laidByText := true, laidKinds := [.data, .data, .data, .sentinel, .sentinel], laidTests := true, laidLooks := .later }
def TemperamentIdentifiesCardSaid : Prop := Claim7.holds Tryz.pinned (.plain (OpenSpec.ofChange temperamentIdentifiesSpec)) temperamentIdentifiesCard

/-- THE TIED CARD OF 'schismalaw18.TemperamentSpans'. -/
def temperamentSpansCard : Claim7 := { stood := { row := temperamentSpansRow, standIns := [], harness := (true, "63d6c6a1239c75afa82f8644d00ee8e8e0a1a0e5eee8baef631797d048299c48"), looks := true }, kinds := [], alts := [], laidByText := true, laidKinds := [.data, .data, .data, .sentinel, .sentinel], laidTests := true, laidLooks := .later }
def TemperamentSpansCardSaid : Prop := Claim7.holds Tryz.pinned (.plain (OpenSpec.ofChange temperamentSpansSpec)) temperamentSpansCard

/-- THE TIED CARD OF 'schismalaw18.TemperamentEnds'. -/
def temperamentEndsCard : Claim7 := { stood := { row := temperamentEndsRow, standIns := [], harness := (true, "63d6c6a1239c75afa82f8644d00ee8e8e0a1a0e5eee8baef631797d048299c48"), looks := true }, kinds := [], alts := [], laidByText := true, laidKinds := [.data, .data, .data, .sentinel, .sentinel], laidTests := true, laidLooks := .later }
def TemperamentEndsCardSaid : Prop := Claim7.holds Tryz.pinned (.plain (OpenSpec.ofChange temperamentEndsSpec)) temperamentEndsCard

/-- THE TIED CARD OF 'schismalaw18.TemperamentReturns'. -/
def temperamentReturnsCard : Claim7 := { stood := { row := temperamentReturnsRow, standIns := [], harness := (true, "63d6c6a1239c75afa82f8644d00ee8e8e0a1a0e5eee8baef631797d048299c48"), looks := true }, kinds := [], alts := [], laidByText := true, laidKinds := [.data, .data, .data, .sentinel, .sentinel], laidTests := true, laidLooks := .later }
def TemperamentReturnsCardSaid : Prop := Claim7.holds Tryz.pinned (.plain (OpenSpec.ofChange temperamentReturnsSpec)) temperamentReturnsCard

/-- THE TIED CARD OF 'schismalaw18.TemperamentTempers'. -/
def temperamentTempersCard : Claim7 := { stood := { row := temperamentTempersRow, standIns := [], harness := (true, "63d6c6a1239c75afa82f8644d00ee8e8e0a1a0e5eee8baef631797d048299c48"), looks := true }, kinds := [], alts := [], laidByText := true, laidKinds := [.data, .data, .data, .sentinel, .sentinel], laidTests := true, laidLooks := .later }
def TemperamentTempersCardSaid : Prop := Claim7.holds Tryz.pinned (.plain (OpenSpec.ofChange temperamentTempersSpec)) temperamentTempersCard

/-- THE TIED CARD OF 'schismalaw18.TemperamentChecks'. -/
def temperamentChecksCard : Claim7 := { stood := { row := temperamentChecksRow, standIns := [], harness := (true, "63d6c6a1239c75afa82f8644d00ee8e8e0a1a0e5eee8baef631797d048299c48"), looks := true }, kinds := [], alts := [], laidByText := true, laidKinds := [.data, .data, .data, .sentinel, .sentinel], laidTests := true, laidLooks := .later }
def TemperamentChecksCardSaid : Prop := Claim7.holds Tryz.pinned (.plain (OpenSpec.ofChange temperamentChecksSpec)) temperamentChecksCard

/-- THE TIED CARD OF 'schismalaw18.TemperamentAdds'. -/
def temperamentAddsCard : Claim7 := { stood := { row := temperamentAddsRow, standIns := [], harness := (true, "63d6c6a1239c75afa82f8644d00ee8e8e0a1a0e5eee8baef631797d048299c48"), looks := true }, kinds := [], alts := [], laidByText := true, laidKinds := [.data, .data, .data, .sentinel, .sentinel], laidTests := true, laidLooks := .later }
def TemperamentAddsCardSaid : Prop := Claim7.holds Tryz.pinned (.plain (OpenSpec.ofChange temperamentAddsSpec)) temperamentAddsCard

/-- THE SECOND FORM's CARD OF 'schismalaw09.LatticeSaturates'. -/
def latticeSaturatesUptoCard : Claim7 := { stood := { row := latticeSaturatesUptoRow, standIns := [], harness := (true, "63d6c6a1239c75afa82f8644d00ee8e8e0a1a0e5eee8baef631797d048299c48"), looks := true }, kinds := [], alts := [], laidByText := true, laidKinds := [.data, .data, .data, .sentinel, .sentinel], laidTests := true, laidLooks := .later }
def LatticeSaturatesUptoCardSaid : Prop := Claim7.holds Tryz.pinned (.plain (OpenSpec.upto latticeSaturatesSpec)) latticeSaturatesUptoCard

/-- THE SECOND FORM's CARD OF 'schismalaw09.LatticeContains'. -/
def latticeContainsUptoCard : Claim7 := { stood := { row := latticeContainsUptoRow, standIns := [], harness := (true, "63d6c6a1239c75afa82f8644d00ee8e8e0a1a0e5eee8baef631797d048299c48"), looks := true }, kinds := [], alts := [], laidByText := true, laidKinds := [.data, .data, .data, .sentinel, .sentinel], laidTests := true, laidLooks := .later }
def LatticeContainsUptoCardSaid : Prop := Claim7.holds Tryz.pinned (.plain (OpenSpec.upto latticeContainsSpec)) latticeContainsUptoCard

/-- THE SECOND FORM's CARD OF 'schismalaw09.LatticeBoxes'. -/
def latticeBoxesUptoCard : Claim7 := { stood := { row := latticeBoxesUptoRow, standIns := [], harness := (true, "63d6c6a1239c75afa82f8644d00ee8e8e0a1a0e5eee8baef631797d048299c48"), looks := true }, kinds := [], alts := [], laidByText := true, laidKinds := [.data, .data, .data, .sentinel, .sentinel], laidTests := true, laidLooks := .later }
def LatticeBoxesUptoCardSaid : Prop := Claim7.holds Tryz.pinned (.plain (OpenSpec.upto latticeBoxesSpec)) latticeBoxesUptoCard

/-- THE SECOND FORM's CARD OF 'schismalaw09.LatticeDuals'. -/
def latticeDualsUptoCard : Claim7 := { stood := { row := latticeDualsUptoRow, standIns := [], harness := (true, "63d6c6a1239c75afa82f8644d00ee8e8e0a1a0e5eee8baef631797d048299c48"), looks := true }, kinds := [], alts := [], laidByText := true, laidKinds := [.data, .data, .data, .sentinel, .sentinel], laidTests := true, laidLooks := .later }
def LatticeDualsUptoCardSaid : Prop := Claim7.holds Tryz.pinned (.plain (OpenSpec.upto latticeDualsSpec)) latticeDualsUptoCard

/-- THE SECOND FORM's CARD OF 'schismalaw18.TemperamentTexts'. -/
def temperamentTextsUptoCard : Claim7 := { stood := { row := temperamentTextsUptoRow, standIns := [], harness := (true, "63d6c6a1239c75afa82f8644d00ee8e8e0a1a0e5eee8baef631797d048299c48"), looks := true }, kinds := [], alts := [], laidByText := true, laidKinds := [.data, .data, .data, .sentinel, .sentinel], laidTests := true, laidLooks := .later }
def TemperamentTextsUptoCardSaid : Prop := Claim7.holds Tryz.pinned (.plain (OpenSpec.upto temperamentTextsSpec)) temperamentTextsUptoCard

/-- THE SECOND FORM's CARD OF 'schismalaw18.TemperamentIdentifies'. -/
def temperamentIdentifiesUptoCard : Claim7 := { stood := { row := temperamentIdentifiesUptoRow, standIns := [], harness := (true, "63d6c6a1239c75afa82f8644d00ee8e8e0a1a0e5eee8baef631797d048299c48"), looks := true }, kinds := [], alts := [], laidByText := true, laidKinds := [.data, .data, .data, .sentinel, .sentinel], laidTests := true, laidLooks := .later }
def TemperamentIdentifiesUptoCardSaid : Prop := Claim7.holds Tryz.pinned (.plain (OpenSpec.upto temperamentIdentifiesSpec)) temperamentIdentifiesUptoCard

/-- THE SECOND FORM's CARD OF 'schismalaw18.TemperamentSpans'. -/
def temperamentSpansUptoCard : Claim7 := { stood := { row := temperamentSpansUptoRow, standIns := [], harness := (true, "63d6c6a1239c75afa82f8644d00ee8e8e0a1a0e5eee8baef631797d048299c48"), looks := true }, kinds := [], alts := [], laidByText := true, laidKinds := [.data, .data, .data, .sentinel, .sentinel], laidTests := true, laidLooks := .later }
def TemperamentSpansUptoCardSaid : Prop := Claim7.holds Tryz.pinned (.plain (OpenSpec.upto temperamentSpansSpec)) temperamentSpansUptoCard

/-- THE SECOND FORM's CARD OF 'schismalaw18.TemperamentEnds'. -/
def temperamentEndsUptoCard : Claim7 := { stood := { row := temperamentEndsUptoRow, standIns := [], harness := (true, "63d6c6a1239c75afa82f8644d00ee8e8e0a1a0e5eee8baef631797d048299c48"), looks := true }, kinds := [], alts := [], laidByText := true, laidKinds := [.data, .data, .data, .sentinel, .sentinel], laidTests := true, laidLooks := .later }
def TemperamentEndsUptoCardSaid : Prop := Claim7.holds Tryz.pinned (.plain (OpenSpec.upto temperamentEndsSpec)) temperamentEndsUptoCard

/-- THE SECOND FORM's CARD OF 'schismalaw18.TemperamentReturns'. -/
def temperamentReturnsUptoCard : Claim7 := { stood := { row := temperamentReturnsUptoRow, standIns := [], harness := (true, "63d6c6a1239c75afa82f8644d00ee8e8e0a1a0e5eee8baef631797d048299c48"), looks := true }, kinds := [], alts := [], laidByText := true, laidKinds := [.data, .data, .data, .sentinel, .sentinel], laidTests := true, laidLooks := .later }
def TemperamentReturnsUptoCardSaid : Prop := Claim7.holds Tryz.pinned (.plain (OpenSpec.upto temperamentReturnsSpec)) temperamentReturnsUptoCard

/-- THE SECOND FORM's CARD OF 'schismalaw18.TemperamentTempers'. -/
def temperamentTempersUptoCard : Claim7 := { stood := { row := temperamentTempersUptoRow, standIns := [], harness := (true, "63d6c6a1239c75afa82f8644d00ee8e8e0a1a0e5eee8baef631797d048299c48"), looks := true }, kinds := [], alts := [], laidByText := true, laidKinds := [.data, .data, .data, .sentinel, .sentinel], laidTests := true, laidLooks := .later }
def TemperamentTempersUptoCardSaid : Prop := Claim7.holds Tryz.pinned (.plain (OpenSpec.upto temperamentTempersSpec)) temperamentTempersUptoCard

/-- THE SECOND FORM's CARD OF 'schismalaw18.TemperamentChecks'. -/
def temperamentChecksUptoCard : Claim7 := { stood := { row := temperamentChecksUptoRow, standIns := [], harness := (true, "63d6c6a1239c75afa82f8644d00ee8e8e0a1a0e5eee8baef631797d048299c48"), looks := true }, kinds := [], alts := [], laidByText := true, laidKinds := [.data, .data, .data, .sentinel, .sentinel], laidTests := true, laidLooks := .later }
def TemperamentChecksUptoCardSaid : Prop := Claim7.holds Tryz.pinned (.plain (OpenSpec.upto temperamentChecksSpec)) temperamentChecksUptoCard

/-- THE SECOND FORM's CARD OF 'schismalaw18.TemperamentAdds'. -/
def temperamentAddsUptoCard : Claim7 := { stood := { row := temperamentAddsUptoRow, standIns := [], harness := (true, "63d6c6a1239c75afa82f8644d00ee8e8e0a1a0e5eee8baef631797d048299c48"), looks := true }, kinds := [], alts := [], laidByText := true, laidKinds := [.data, .data, .data, .sentinel, .sentinel], laidTests := true, laidLooks := .later }
def TemperamentAddsUptoCardSaid : Prop := Claim7.holds Tryz.pinned (.plain (OpenSpec.upto temperamentAddsSpec)) temperamentAddsUptoCard
end Rows
end Go.Proofs.YtehknemdfbkimaaGreatDoor
