/-
  DERIVED. GIVEN WITH THE SEED: THE CARDS: each row of YtoonaddcfakamaaGreatDoorRows.lean that lists a variable, with what it lists TIED to the program's text (the seventh form; the later family's looks); each row that meets fmt, with fmt's text TOLD by the authors' own Lean function (tested against real Go, not proved from fmt's source: count such statements apart). THE CARD IS WHAT COUNTS. Prove the row's statement (the work); the ties are given (YtoonaddcfakamaaGreatDoorTie.lean); close each card by the builder's one call (the guide's Derived/Test/ToyasCard.lean, 'card_holds'). Laid BY PROGRAM, IN A SANDBOX (cutbox-door.mjs). By AI agents, Wed Nov 11 2026. No macro, syntax, notation, axiom, sorry.
-/
import Derived.Test.YtoonaddcfakamaaGreatDoorRows
import GoSem.ClaimSeven
namespace Go.Proofs.YtoonaddcfakamaaGreatDoor
namespace Rows

/-- THE TIED CARD OF 'schismatop.TopSectionsSplit'. -/
def topSectionsSplitCard : Claim7 := { stood := { row := topSectionsSplitRow, standIns := [], harness := (true, "3f6503e26167ef06d2e35abda39b403509f1a9cdd8ec3d11b392a8517a44d1aa"), looks := true }, kinds := [], alts := [], laidByText := true, laidKinds := [.data, .data, .data, .sentinel, .sentinel], laidTests := true, laidLooks := .later }
def TopSectionsSplitCardSaid : Prop := Claim7.holds Tryz.pinned (.plain (OpenSpec.ofChange topSectionsSplitSpec)) topSectionsSplitCard

/-- THE TIED CARD OF 'schismatop.TopPresentationsAgree'. -/
def topPresentationsAgreeCard : Claim7 := { stood := { row := topPresentationsAgreeRow, standIns := [], harness := (true, "3f6503e26167ef06d2e35abda39b403509f1a9cdd8ec3d11b392a8517a44d1aa"), looks := true }, kinds := [], alts := [], laidByText := true, laidKinds := [.data, .data, .data, .sentinel, .sentinel], laidTests := true, laidLooks := .later }
def TopPresentationsAgreeCardSaid : Prop := Claim7.holds Tryz.pinned (.plain (OpenSpec.ofChange topPresentationsAgreeSpec)) topPresentationsAgreeCard

/-- THE TIED CARD OF 'schismatop.TopWedgesAgree'. -/
def topWedgesAgreeCard : Claim7 := { stood := { row := topWedgesAgreeRow, standIns := [], harness := (true, "3f6503e26167ef06d2e35abda39b403509f1a9cdd8ec3d11b392a8517a44d1aa"), looks := true }, kinds := [], alts := [], laidByText := true, laidKinds := [.data, .data, .data, .sentinel, .sentinel], laidTests := true, laidLooks := .later }
def TopWedgesAgreeCardSaid : Prop := Claim7.holds Tryz.pinned (.plain (OpenSpec.ofChange topWedgesAgreeSpec)) topWedgesAgreeCard

/-- THE TIED CARD OF 'schismalaw21.InvariantTorsions'. -/
def invariantTorsionsCard : Claim7 := { stood := { row := invariantTorsionsRow, standIns := [], harness := (true, "3f6503e26167ef06d2e35abda39b403509f1a9cdd8ec3d11b392a8517a44d1aa"), looks := true }, kinds := [], alts := [], laidByText := true, laidKinds := [.data, .data, .data, .sentinel, .sentinel], laidTests := true, laidLooks := .later }
def InvariantTorsionsCardSaid : Prop := Claim7.holds Tryz.pinned (.plain (OpenSpec.ofChange invariantTorsionsSpec)) invariantTorsionsCard

/-- THE TIED CARD OF 'schismalaw21.InvariantAgrees'. -/
def invariantAgreesCard : Claim7 := { stood := { row := invariantAgreesRow, standIns := [], harness := (true, "3f6503e26167ef06d2e35abda39b403509f1a9cdd8ec3d11b392a8517a44d1aa"), looks := true }, kinds := [], alts := [], laidByText := true, laidKinds := [.data, .data, .data, .sentinel, .sentinel], laidTests := true, laidLooks := .later }
def InvariantAgreesCardSaid : Prop := Claim7.holds Tryz.pinned (.plain (OpenSpec.ofChange invariantAgreesSpec)) invariantAgreesCard

/-- THE TIED CARD OF 'schismalaw21.InvariantSame'. -/
def invariantSameCard : Claim7 := { stood := { row := invariantSameRow, standIns := [], harness := (true, "3f6503e26167ef06d2e35abda39b403509f1a9cdd8ec3d11b392a8517a44d1aa"), looks := true }, kinds := [], alts := [], laidByText := true, laidKinds := [.data, .data, .data, .sentinel, .sentinel], laidTests := true, laidLooks := .later }
def InvariantSameCardSaid : Prop := Claim7.holds Tryz.pinned (.plain (OpenSpec.ofChange invariantSameSpec)) invariantSameCard

/-- THE TIED CARD OF 'schismalaw21.InvariantDoubles'. -/
def invariantDoublesCard : Claim7 := { stood := { row := invariantDoublesRow, standIns := [], harness := (true, "3f6503e26167ef06d2e35abda39b403509f1a9cdd8ec3d11b392a8517a44d1aa"), looks := true }, kinds := [], alts := [], laidByText := true, laidKinds := [.data, .data, .data, .sentinel, .sentinel], laidTests := true, laidLooks := .later }
def InvariantDoublesCardSaid : Prop := Claim7.holds Tryz.pinned (.plain (OpenSpec.ofChange invariantDoublesSpec)) invariantDoublesCard

/-- THE TIED CARD OF 'schismalaw21.InvariantForms'. -/
def invariantFormsCard : Claim7 := { stood := { row := invariantFormsRow, standIns := [], harness := (true, "3f6503e26167ef06d2e35abda39b403509f1a9cdd8ec3d11b392a8517a44d1aa"), looks := true }, kinds := [], alts := [], laidByText := true, laidKinds := [.data, .data, .data, .sentinel, .sentinel], laidTests := true, laidLooks := .later }
def InvariantFormsCardSaid : Prop := Claim7.holds Tryz.pinned (.plain (OpenSpec.ofChange invariantFormsSpec)) invariantFormsCard

/-- THE TIED CARD OF 'schismalaw21.InvariantWedges'. -/
def invariantWedgesCard : Claim7 := { stood := { row := invariantWedgesRow, standIns := [], harness := (true, "3f6503e26167ef06d2e35abda39b403509f1a9cdd8ec3d11b392a8517a44d1aa"), looks := true }, kinds := [], alts := [], laidByText := true, laidKinds := [.data, .data, .data, .sentinel, .sentinel], laidTests := true, laidLooks := .later }
def InvariantWedgesCardSaid : Prop := Claim7.holds Tryz.pinned (.plain (OpenSpec.ofChange invariantWedgesSpec)) invariantWedgesCard

/-- THE TIED CARD OF 'schismalaw21.InvariantReads'. -/
def invariantReadsCard : Claim7 := { stood := { row := invariantReadsRow, standIns := [], harness := (true, "3f6503e26167ef06d2e35abda39b403509f1a9cdd8ec3d11b392a8517a44d1aa"), looks := true }, kinds := [], alts := [], laidByText := true, laidKinds := [.data, .data, .data, .data, .sentinel, .sentinel, .pinned], laidTests := true, laidLooks := .later }
def InvariantReadsCardSaid : Prop := Claim7.holds Tryz.pinned (.plain (OpenSpec.ofChange invariantReadsSpec)) invariantReadsCard

/-- THE TIED CARD OF 'schismalaw21.InvariantNames'. -/
def invariantNamesCard : Claim7 := { stood := { row := invariantNamesRow, standIns := [], harness := (true, "3f6503e26167ef06d2e35abda39b403509f1a9cdd8ec3d11b392a8517a44d1aa"), looks := true }, kinds := [], alts := [], laidByText := true, laidKinds := [.data, .data, .data, .data, .sentinel, .sentinel, .pinned], laidTests := true, laidLooks := .later }
def InvariantNamesCardSaid : Prop := Claim7.holds Tryz.pinned (.plain (OpenSpec.ofChange invariantNamesSpec)) invariantNamesCard

/-- THE SECOND FORM's CARD OF 'schismatop.TopSectionsSplit'. -/
def topSectionsSplitUptoCard : Claim7 := { stood := { row := topSectionsSplitUptoRow, standIns := [], harness := (true, "3f6503e26167ef06d2e35abda39b403509f1a9cdd8ec3d11b392a8517a44d1aa"), looks := true }, kinds := [], alts := [], laidByText := true, laidKinds := [.data, .data, .data, .sentinel, .sentinel], laidTests := true, laidLooks := .later }
def TopSectionsSplitUptoCardSaid : Prop := Claim7.holds Tryz.pinned (.plain (OpenSpec.upto topSectionsSplitSpec)) topSectionsSplitUptoCard

/-- THE SECOND FORM's CARD OF 'schismatop.TopPresentationsAgree'. -/
def topPresentationsAgreeUptoCard : Claim7 := { stood := { row := topPresentationsAgreeUptoRow, standIns := [], harness := (true, "3f6503e26167ef06d2e35abda39b403509f1a9cdd8ec3d11b392a8517a44d1aa"), looks := true }, kinds := [], alts := [], laidByText := true, laidKinds := [.data, .data, .data, .sentinel, .sentinel], laidTests := true, laidLooks := .later }
def TopPresentationsAgreeUptoCardSaid : Prop := Claim7.holds Tryz.pinned (.plain (OpenSpec.upto topPresentationsAgreeSpec)) topPresentationsAgreeUptoCard

/-- THE SECOND FORM's CARD OF 'schismatop.TopWedgesAgree'. -/
def topWedgesAgreeUptoCard : Claim7 := { stood := { row := topWedgesAgreeUptoRow, standIns := [], harness := (true, "3f6503e26167ef06d2e35abda39b403509f1a9cdd8ec3d11b392a8517a44d1aa"), looks := true }, kinds := [], alts := [], laidByText := true, laidKinds := [.data, .data, .data, .sentinel, .sentinel], laidTests := true, laidLooks := .later }
def TopWedgesAgreeUptoCardSaid : Prop := Claim7.holds Tryz.pinned (.plain (OpenSpec.upto topWedgesAgreeSpec)) topWedgesAgreeUptoCard

/-- THE SECOND FORM's CARD OF 'schismalaw21.InvariantTorsions'. -/
def invariantTorsionsUptoCard : Claim7 := { stood := { row := invariantTorsionsUptoRow, standIns := [], harness := (true, "3f6503e26167ef06d2e35abda39b403509f1a9cdd8ec3d11b392a8517a44d1aa"), looks := true }, kinds := [], alts := [], laidByText := true, laidKinds := [.data, .data, .data, .sentinel, .sentinel], laidTests := true, laidLooks := .later }
def InvariantTorsionsUptoCardSaid : Prop := Claim7.holds Tryz.pinned (.plain (OpenSpec.upto invariantTorsionsSpec)) invariantTorsionsUptoCard

/-- THE SECOND FORM's CARD OF 'schismalaw21.InvariantAgrees'. -/
def invariantAgreesUptoCard : Claim7 := { stood := { row := invariantAgreesUptoRow, standIns := [], harness := (true, "3f6503e26167ef06d2e35abda39b403509f1a9cdd8ec3d11b392a8517a44d1aa"), looks := true }, kinds := [], alts := [], laidByText := true, laidKinds := [.data, .data, .data, .sentinel, .sentinel], laidTests := true, laidLooks := .later }
def InvariantAgreesUptoCardSaid : Prop := Claim7.holds Tryz.pinned (.plain (OpenSpec.upto invariantAgreesSpec)) invariantAgreesUptoCard

/-- THE SECOND FORM's CARD OF 'schismalaw21.InvariantSame'. -/
def invariantSameUptoCard : Claim7 := { stood := { row := invariantSameUptoRow, standIns := [], harness := (true, "3f6503e26167ef06d2e35abda39b403509f1a9cdd8ec3d11b392a8517a44d1aa"), looks := true }, kinds := [], alts := [], laidByText := true, laidKinds := [.data, .data, .data, .sentinel, .sentinel], laidTests := true, laidLooks := .later }
def InvariantSameUptoCardSaid : Prop := Claim7.holds Tryz.pinned (.plain (OpenSpec.upto invariantSameSpec)) invariantSameUptoCard

/-- THE SECOND FORM's CARD OF 'schismalaw21.InvariantDoubles'. -/
def invariantDoublesUptoCard : Claim7 := { stood := { row := invariantDoublesUptoRow, standIns := [], harness := (true, "3f6503e26167ef06d2e35abda39b403509f1a9cdd8ec3d11b392a8517a44d1aa"), looks := true }, kinds := [], alts := [], laidByText := true, laidKinds := [.data, .data, .data, .sentinel, .sentinel], laidTests := true, laidLooks := .later }
def InvariantDoublesUptoCardSaid : Prop := Claim7.holds Tryz.pinned (.plain (OpenSpec.upto invariantDoublesSpec)) invariantDoublesUptoCard

/-- THE SECOND FORM's CARD OF 'schismalaw21.InvariantForms'. -/
def invariantFormsUptoCard : Claim7 := { stood := { row := invariantFormsUptoRow, standIns := [], harness := (true, "3f6503e26167ef06d2e35abda39b403509f1a9cdd8ec3d11b392a8517a44d1aa"), looks := true }, kinds := [], alts := [], laidByText := true, laidKinds := [.data, .data, .data, .sentinel, .sentinel], laidTests := true, laidLooks := .later }
def InvariantFormsUptoCardSaid : Prop := Claim7.holds Tryz.pinned (.plain (OpenSpec.upto invariantFormsSpec)) invariantFormsUptoCard

/-- THE SECOND FORM's CARD OF 'schismalaw21.InvariantWedges'. -/
def invariantWedgesUptoCard : Claim7 := { stood := { row := invariantWedgesUptoRow, standIns := [], harness := (true, "3f6503e26167ef06d2e35abda39b403509f1a9cdd8ec3d11b392a8517a44d1aa"), looks := true }, kinds := [], alts := [], laidByText := true, laidKinds := [.data, .data, .data, .sentinel, .sentinel], laidTests := true, laidLooks := .later }
def InvariantWedgesUptoCardSaid : Prop := Claim7.holds Tryz.pinned (.plain (OpenSpec.upto invariantWedgesSpec)) invariantWedgesUptoCard

/-- THE SECOND FORM's CARD OF 'schismalaw21.InvariantReads'. -/
def invariantReadsUptoCard : Claim7 := { stood := { row := invariantReadsUptoRow, standIns := [], harness := (true, "3f6503e26167ef06d2e35abda39b403509f1a9cdd8ec3d11b392a8517a44d1aa"), looks := true }, kinds := [], alts := [], laidByText := true, laidKinds := [.data, .data, .data, .data, .sentinel, .sentinel, .pinned], laidTests := true, laidLooks := .later }
def InvariantReadsUptoCardSaid : Prop := Claim7.holds Tryz.pinned (.plain (OpenSpec.upto invariantReadsSpec)) invariantReadsUptoCard

/-- THE SECOND FORM's CARD OF 'schismalaw21.InvariantNames'. -/
def invariantNamesUptoCard : Claim7 := { stood := { row := invariantNamesUptoRow, standIns := [], harness := (true, "3f6503e26167ef06d2e35abda39b403509f1a9cdd8ec3d11b392a8517a44d1aa"), looks := true }, kinds := [], alts := [], laidByText := true, laidKinds := [.data, .data, .data, .data, .sentinel, .sentinel, .pinned], laidTests := true, laidLooks := .later }
def InvariantNamesUptoCardSaid : Prop := Claim7.holds Tryz.pinned (.plain (OpenSpec.upto invariantNamesSpec)) invariantNamesUptoCard
end Rows
end Go.Proofs.YtoonaddcfakamaaGreatDoor
