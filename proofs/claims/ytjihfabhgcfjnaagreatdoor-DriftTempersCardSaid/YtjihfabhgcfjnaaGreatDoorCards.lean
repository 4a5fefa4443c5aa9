/-
  DERIVED. GIVEN WITH THE SEED: THE CARDS: each row of YtjihfabhgcfjnaaGreatDoorRows.lean that lists a variable, with what it lists TIED to the program's text (the seventh form; the later family's looks); each row that meets fmt, with fmt's text TOLD by the authors' own Lean function (tested against real Go, not proved from fmt's source: count such statements apart). THE CARD IS WHAT COUNTS. Prove the row's statement (the work); the ties are given (YtjihfabhgcfjnaaGreatDoorTie.lean); close each card by the builder's one call (the guide's Derived/Test/ToyasCard.lean, 'card_holds'). Laid BY PROGRAM, IN A SANDBOX (cutbox-door.mjs). By AI agents, Wed Nov 11 2026. No macro, syntax, notation, axiom, sorry.
-/
import Derived.Test.YtjihfabhgcfjnaaGreatDoorRows
import GoSem.ClaimSeven
namespace Go.Proofs.YtjihfabhgcfjnaaGreatDoor
namespace Rows

/-- THE TIED CARD OF 'schismalaw09.LatticeBoxes'. -/
def latticeBoxesCard : Claim7 := { stood := { row := latticeBoxesRow, standIns := [], harness := (true, "e994a3ce9ac5f4bab387cdff35ca97deff0937bdb10af36119d5285114a1bffa"), looks := true }, kinds := [], alts := [], laidByText := true, laidKinds := [.data, .data, .data, .sentinel, .sentinel], laidTests := true, laidLooks := .later }
def LatticeBoxesCardSaid : Prop := Claim7.holds Tryz.pinned (.plain (OpenSpec.ofChange latticeBoxesSpec)) latticeBoxesCard

/-- THE TIED CARD OF 'schismalaw51.DriftEnds'. -/
def driftEndsCard : Claim7 := { stood := { row := driftEndsRow, standIns := [], harness := (true, "e994a3ce9ac5f4bab387cdff35ca97deff0937bdb10af36119d5285114a1bffa"), looks := true }, kinds := [], alts := [], laidByText := true, laidKinds := [.data, .data, .data, .sentinel, .sentinel], laidTests := true, laidLooks := .later }
def DriftEndsCardSaid : Prop := Claim7.holds Tryz.pinned (.plain (OpenSpec.ofChange driftEndsSpec)) driftEndsCard

/-- THE TIED CARD OF 'schismalaw51.DriftTempers'. -/
def driftTempersCard : Claim7 := { stood := { row := driftTempersRow, standIns := [], harness := (true, "e994a3ce9ac5f4bab387cdff35ca97deff0937bdb10af36119d5285114a1bffa"), looks := true }, kinds := [], alts := [], laidByText := true, laidKinds := [.data, .data, .data, .sentinel, .sentinel], laidTests := true, laidLooks := .later }
def DriftTempersCardSaid : Prop := Claim7.holds Tryz.pinned (.plain (OpenSpec.ofChange driftTempersSpec)) driftTempersCard

/-- THE TIED CARD OF 'schismalaw51.DriftChecks'. -/
def driftChecksCard : Claim7 := { stood := { row := driftChecksRow, standIns := [], harness := (true, "e994a3ce9ac5f4bab387cdff35ca97deff0937bdb10af36119d5285114a1bffa"), looks := true }, kinds := [], alts := [], laidByText := true, laidKinds := [.data, .data, .data, .sentinel, .sentinel], laidTests := true, laidLooks := .later }
def DriftChecksCardSaid : Prop := Claim7.holds Tryz.pinned (.plain (OpenSpec.ofChange driftChecksSpec)) driftChecksCard

/-- THE SECOND FORM's CARD OF 'schismalaw09.LatticeBoxes'. -/
def latticeBoxesUptoCard : Claim7 := { stood := { row := latticeBoxesUptoRow, standIns := [], harness := (true, "e994a3ce9ac5f4bab387cdff35ca97deff0937bdb10af36119d5285114a1bffa"), looks := true }, kinds := [], alts := [], laidByText := true, laidKinds := [.data, .data, .data, .sentinel, .sentinel], laidTests := true, laidLooks := .later }
def LatticeBoxesUptoCardSaid : Prop := Claim7.holds Tryz.pinned (.plain (OpenSpec.upto latticeBoxesSpec)) latticeBoxesUptoCard

/-- THE SECOND FORM's CARD OF 'schismalaw51.DriftEnds'. -/
def driftEndsUptoCard : Claim7 := { stood := { row := driftEndsUptoRow, standIns := [], harness := (true, "e994a3ce9ac5f4bab387cdff35ca97deff0937bdb10af36119d5285114a1bffa"), looks := true }, kinds := [], alts := [], laidByText := true, laidKinds := [.data, .data, .data, .sentinel, .sentinel], laidTests := true, laidLooks := .later }
def DriftEndsUptoCardSaid : Prop := Claim7.holds Tryz.pinned (.plain (OpenSpec.upto driftEndsSpec)) driftEndsUptoCard

/-- THE SECOND FORM's CARD OF 'schismalaw51.DriftTempers'. -/
def driftTempersUptoCard : Claim7 := { stood := { row := driftTempersUptoRow, standIns := [], harness := (true, "e994a3ce9ac5f4bab387cdff35ca97deff0937bdb10af36119d5285114a1bffa"), looks := true }, kinds := [], alts := [], laidByText := true, laidKinds := [.data, .data, .data, .sentinel, .sentinel], laidTests := true, laidLooks := .later }
def DriftTempersUptoCardSaid : Prop := Claim7.holds Tryz.pinned (.plain (OpenSpec.upto driftTempersSpec)) driftTempersUptoCard

/-- THE SECOND FORM's CARD OF 'schismalaw51.DriftChecks'. -/
def driftChecksUptoCard : Claim7 := { stood := { row := driftChecksUptoRow, standIns := [], harness := (true, "e994a3ce9ac5f4bab387cdff35ca97deff0937bdb10af36119d5285114a1bffa"), looks := true }, kinds := [], alts := [], laidByText := true, laidKinds := [.data, .data, .data, .sentinel, .sentinel], laidTests := true, laidLooks := .later }
def DriftChecksUptoCardSaid : Prop := Claim7.holds Tryz.pinned (.plain (OpenSpec.upto driftChecksSpec)) driftChecksUptoCard
end Rows
end Go.Proofs.YtjihfabhgcfjnaaGreatDoor
