/-
  DERIVED. GIVEN WITH THE SEED: THE CARDS: each row of YtielnneclcekbaaGreatDoorRows.lean that lists a variable, with what it lists TIED to the program's text (the seventh form; the later family's looks); each row that meets fmt, with fmt's text TOLD by the authors' own Lean function (tested against real Go, not proved from fmt's source: count such statements apart). THE CARD IS WHAT COUNTS. Prove the row's statement (the work); the ties are given (YtielnneclcekbaaGreatDoorTie.lean); close each card by the builder's one call (the guide's Derived/Test/ToyasCard.lean, 'card_holds'). Laid BY PROGRAM, IN A SANDBOX (cutbox-door.mjs). By AI agents, Wed Nov 11 2026. No macro, syntax, notation, axiom, sorry.
-/
import Derived.Test.YtielnneclcekbaaGreatDoorRows
import GoSem.ClaimSeven
namespace Go.Proofs.YtielnneclcekbaaGreatDoor
namespace Rows

/-- THE TIED CARD OF 'schismalaw09.LatticeMakes'. -/
def latticeMakesCard : Claim7 := { stood := { row := latticeMakesRow, standIns := [], harness := (true, "aeea7b2295992b9892c070741255815329a611bf4df4c800e40bc1e6ea407905"), looks := true }, kinds := [], alts := [], laidByText := true, laidKinds := [.data, .data, .data, .sentinel, .sentinel], laidTests := true, laidLooks := .later }
def LatticeMakesCardSaid : Prop := Claim7.holds Tryz.pinned (.plain (OpenSpec.ofChange latticeMakesSpec)) latticeMakesCard

/-- THE TIED CARD OF 'schismalaw09.LatticeSaturates'. -/
def latticeSaturatesCard : Claim7 := { stood := { row := latticeSaturatesRow, standIns := [], harness := (true, "aeea7b2295992b9892c070741255815329a611bf4df4c800e40bc1e6ea407905"), looks := true }, kinds := [], alts := [], laidByText := true, laidKinds := [.data, .data, .data, .sentinel, .sentinel], laidTests := true, laidLooks := .later }
def LatticeSaturatesCardSaid : Prop := Claim7.holds Tryz.pinned (.plain (OpenSpec.ofChange latticeSaturatesSpec)) latticeSaturatesCard

/-- THE TIED CARD OF 'schismalaw09.LatticeContains'. -/
def latticeContainsCard : Claim7 := { stood := { row := latticeContainsRow, standIns := [], harness := (true, "aeea7b2295992b9892c070741255815329a611bf4df4c800e40bc1e6ea407905"), looks := true }, kinds := [], alts := [], laidByText := true, laidKinds := [.data, .data, .data, .sentinel, .sentinel], laidTests := true, laidLooks := .later }
def LatticeContainsCardSaid : Prop := Claim7.holds Tryz.pinned (.plain (OpenSpec.ofChange latticeContainsSpec)) latticeContainsCard

/-- THE TIED CARD OF 'schismalaw09.LatticeClasses'. -/
def latticeClassesCard : Claim7 := { stood := { row := latticeClassesRow, standIns := [], harness := (true, "aeea7b2295992b9892c070741255815329a611bf4df4c800e40bc1e6ea407905"), looks := true }, kinds := [], alts := [], laidByText := true, laidKinds := [.data, .data, .data, .sentinel, .sentinel], laidTests := true, laidLooks := .later }
def LatticeClassesCardSaid : Prop := Claim7.holds Tryz.pinned (.plain (OpenSpec.ofChange latticeClassesSpec)) latticeClassesCard

/-- THE TIED CARD OF 'schismalaw09.LatticeBoxes'. -/
def latticeBoxesCard : Claim7 := { stood := { row := latticeBoxesRow, standIns := [], harness := (true, "aeea7b2295992b9892c070741255815329a611bf4df4c800e40bc1e6ea407905"), looks := true }, kinds := [], alts := [], laidByText := true, laidKinds := [.data, .data, .data, .sentinel, .sentinel], laidTests := true, laidLooks := .later }
def LatticeBoxesCardSaid : Prop := Claim7.holds Tryz.pinned (.plain (OpenSpec.ofChange latticeBoxesSpec)) latticeBoxesCard

/-- THE TIED CARD OF 'schismalaw09.LatticeDuals'. -/
def latticeDualsCard : Claim7 := { stood := { row := latticeDualsRow, standIns := [], harness := (true, "aeea7b2295992b9892c070741255815329a611bf4df4c800e40bc1e6ea407905"), looks := true }, kinds := [], alts := [], laidByText := true, laidKinds := [.data, .data, .data, .sentinel, .sentinel], laidTests := true, laidLooks := .later }
def LatticeDualsCardSaid : Prop := Claim7.holds Tryz.pinned (.plain (OpenSpec.ofChange latticeDualsSpec)) latticeDualsCard

/-- THE TIED CARD OF 'schismalaw09.LatticeChecks'. -/
def latticeChecksCard : Claim7 := { stood := { row := latticeChecksRow, standIns := [], harness := (true, "aeea7b2295992b9892c070741255815329a611bf4df4c800e40bc1e6ea407905"), looks := true }, kinds := [], alts := [], laidByText := true, laidKinds := [.data, .data, .data, .sentinel, .sentinel], laidTests := true, laidLooks := .later }
def LatticeChecksCardSaid : Prop := Claim7.holds Tryz.pinned (.plain (OpenSpec.ofChange latticeChecksSpec)) latticeChecksCard

/-- THE SECOND FORM's CARD OF 'schismalaw09.LatticeMakes'. -/
def latticeMakesUptoCard : Claim7 := { stood := { row := latticeMakesUptoRow, standIns := [], harness := (true, "aeea7b2295992b9892c070741255815329a611bf4df4c800e40bc1e6ea407905"), looks := true }, kinds := [], alts := [], laidByText := true, laidKinds := [.data, .data, .data, .sentinel, .sentinel], laidTests := true, laidLooks := .later }
def LatticeMakesUptoCardSaid : Prop := Claim7.holds Tryz.pinned (.plain (OpenSpec.upto latticeMakesSpec)) latticeMakesUptoCard

/-- THE SECOND FORM's CARD OF 'schismalaw09.LatticeSaturates'. -/
def latticeSaturatesUptoCard : Claim7 := { stood := { row := latticeSaturatesUptoRow, standIns := [], harness := (true, "aeea7b2295992b9892c070741255815329a611bf4df4c800e40bc1e6ea407905"), looks := true }, kinds := [], alts := [], laidByText := true, laidKinds := [.data, .data, .data, .sentinel, .sentinel], laidTests := true, laidLooks := .later }
def LatticeSaturatesUptoCardSaid : Prop := Claim7.holds Tryz.pinned (.plain (OpenSpec.upto latticeSaturatesSpec)) latticeSaturatesUptoCard

/-- THE SECOND FORM's CARD OF 'schismalaw09.LatticeContains'. -/
def latticeContainsUptoCard : Claim7 := { stood := { row := latticeContainsUptoRow, standIns := [], harness := (true, "aeea7b2295992b9892c070741255815329a611bf4df4c800e40bc1e6ea407905"), looks := true }, kinds := [], alts := [], laidByText := true, laidKinds := [.data, .data, .data, .sentinel, .sentinel], laidTests := true, laidLooks := .later }
def LatticeContainsUptoCardSaid : Prop := Claim7.holds Tryz.pinned (.plain (OpenSpec.upto latticeContainsSpec)) latticeContainsUptoCard

/-- THE SECOND FORM's CARD OF 'schismalaw09.LatticeClasses'. -/
def latticeClassesUptoCard : Claim7 := { stood := { row := latticeClassesUptoRow, standIns := [], harness := (true, "aeea7b2295992b9892c070741255815329a611bf4df4c800e40bc1e6ea407905"), looks := true }, kinds := [], alts := [], laidByText := true, laidKinds := [.data, .data, .data, .sentinel, .sentinel], laidTests := true, laidLooks := .later }
def LatticeClassesUptoCardSaid : Prop := Claim7.holds Tryz.pinned (.plain (OpenSpec.upto latticeClassesSpec)) latticeClassesUptoCard

/-- THE SECOND FORM's CARD OF 'schismalaw09.LatticeBoxes'. -/
def latticeBoxesUptoCard : Claim7 := { stood := { row := latticeBoxesUptoRow, standIns := [], harness := (true, "aeea7b2295992b9892c070741255815329a611bf4df4c800e40bc1e6ea407905"), looks := true }, kinds := [], alts := [], laidByText := true, laidKinds := [.data, .data, .data, .sentinel, .sentinel], laidTests := true, laidLooks := .later }
def LatticeBoxesUptoCardSaid : Prop := Claim7.holds Tryz.pinned (.plain (OpenSpec.upto latticeBoxesSpec)) latticeBoxesUptoCard

/-- THE SECOND FORM's CARD OF 'schismalaw09.LatticeDuals'. -/
def latticeDualsUptoCard : Claim7 := { stood := { row := latticeDualsUptoRow, standIns := [], harness := (true, "aeea7b2295992b9892c070741255815329a611bf4df4c800e40bc1e6ea407905"), looks := true }, kinds := [], alts := [], laidByText := true, laidKinds := [.data, .data, .data, .sentinel, .sentinel], laidTests := true, laidLooks := .later }
def LatticeDualsUptoCardSaid : Prop := Claim7.holds Tryz.pinned (.plain (OpenSpec.upto latticeDualsSpec)) latticeDualsUptoCard

/-- THE SECOND FORM's CARD OF 'schismalaw09.LatticeChecks'. -/
def latticeChecksUptoCard : Claim7 := { stood := { row := latticeChecksUptoRow, standIns := [], harness := (true, "aeea7b2295992b9892c070741255815329a611bf4df4c800e40bc1e6ea407905"), looks := true }, kinds := [], alts := [], laidByText := true, laidKinds := [.data, .data, .data, .sentinel, .sentinel], laidTests := true, laidLooks := .later }
def LatticeChecksUptoCardSaid : Prop := Claim7.holds Tryz.pinned (.plain (OpenSpec.upto latticeChecksSpec)) latticeChecksUptoCard
end Rows
end Go.Proofs.YtielnneclcekbaaGreatDoor
