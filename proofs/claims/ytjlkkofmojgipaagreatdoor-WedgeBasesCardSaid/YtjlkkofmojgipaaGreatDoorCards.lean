/-
  DERIVED. GIVEN WITH THE SEED: THE CARDS: each row of YtjlkkofmojgipaaGreatDoorRows.lean that lists a variable, with what it lists TIED to the program's text (the seventh form; the later family's looks); each row that meets fmt, with fmt's text TOLD by the authors' own Lean function (tested against real Go, not proved from fmt's source: count such statements apart). THE CARD IS WHAT COUNTS. Prove the row's statement (the work); the ties are given (YtjlkkofmojgipaaGreatDoorTie.lean); close each card by the builder's one call (the guide's Derived/Test/ToyasCard.lean, 'card_holds'). Laid BY PROGRAM, IN A SANDBOX (cutbox-door.mjs). By AI agents, Wed Nov 11 2026. No macro, syntax, notation, axiom, sorry.
-/
import Derived.Test.YtjlkkofmojgipaaGreatDoorRows
import GoSem.ClaimSeven
namespace Go.Proofs.YtjlkkofmojgipaaGreatDoor
namespace Rows

/-- THE TIED CARD OF 'schismalaw10.WedgeRows'. -/
def wedgeRowsCard : Claim7 := { stood := { row := wedgeRowsRow, standIns := [], harness := (true, "034fcc4f06790b33ededfc7360538d931d939f4ed6fc6953bcd336abe7555c11"), looks := true }, kinds := [], alts := [], laidByText := true, laidKinds := [.data, .data, .data, .sentinel, .sentinel], laidTests := true, laidLooks := .later }
def WedgeRowsCardSaid : Prop := Claim7.holds Tryz.pinned (.plain (OpenSpec.ofChange wedgeRowsSpec)) wedgeRowsCard

/-- THE TIED CARD OF 'schismalaw10.WedgeInteriors'. -/
def wedgeInteriorsCard : Claim7 := { stood := { row := wedgeInteriorsRow, standIns := [], harness := (true, "034fcc4f06790b33ededfc7360538d931d939f4ed6fc6953bcd336abe7555c11"), looks := true }, kinds := [], alts := [], laidByText := true, laidKinds := [.data, .data, .data, .sentinel, .sentinel], laidTests := true, laidLooks := .later }
def WedgeInteriorsCardSaid : Prop := Claim7.holds Tryz.pinned (.plain (OpenSpec.ofChange wedgeInteriorsSpec)) wedgeInteriorsCard

/-- THE TIED CARD OF 'schismalaw10.WedgeDuals'. -/
def wedgeDualsCard : Claim7 := { stood := { row := wedgeDualsRow, standIns := [], harness := (true, "034fcc4f06790b33ededfc7360538d931d939f4ed6fc6953bcd336abe7555c11"), looks := true }, kinds := [], alts := [], laidByText := true, laidKinds := [.data, .data, .data, .sentinel, .sentinel], laidTests := true, laidLooks := .later }
def WedgeDualsCardSaid : Prop := Claim7.holds Tryz.pinned (.plain (OpenSpec.ofChange wedgeDualsSpec)) wedgeDualsCard

/-- THE TIED CARD OF 'schismalaw10.WedgeSets'. -/
def wedgeSetsCard : Claim7 := { stood := { row := wedgeSetsRow, standIns := [], harness := (true, "034fcc4f06790b33ededfc7360538d931d939f4ed6fc6953bcd336abe7555c11"), looks := true }, kinds := [], alts := [], laidByText := true, laidKinds := [.data, .data, .data, .sentinel, .sentinel], laidTests := true, laidLooks := .later }
def WedgeSetsCardSaid : Prop := Claim7.holds Tryz.pinned (.plain (OpenSpec.ofChange wedgeSetsSpec)) wedgeSetsCard

/-- THE TIED CARD OF 'schismalaw10.WedgeLattices'. -/
def wedgeLatticesCard : Claim7 := { stood := { row := wedgeLatticesRow, standIns := [], harness := (true, "034fcc4f06790b33ededfc7360538d931d939f4ed6fc6953bcd336abe7555c11"), looks := true }, kinds := [], alts := [], laidByText := true, laidKinds := [.data, .data, .data, .sentinel, .sentinel], laidTests := true, laidLooks := .later }
def WedgeLatticesCardSaid : Prop := Claim7.holds Tryz.pinned (.plain (OpenSpec.ofChange wedgeLatticesSpec)) wedgeLatticesCard

/-- THE TIED CARD OF 'schismalaw10.WedgeProducts'. -/
def wedgeProductsCard : Claim7 := { stood := { row := wedgeProductsRow, standIns := [], harness := (true, "034fcc4f06790b33ededfc7360538d931d939f4ed6fc6953bcd336abe7555c11"), looks := true }, kinds := [], alts := [], laidByText := true, laidKinds := [.data, .data, .data, .sentinel, .sentinel], laidTests := true, laidLooks := .later }
def WedgeProductsCardSaid : Prop := Claim7.holds Tryz.pinned (.plain (OpenSpec.ofChange wedgeProductsSpec)) wedgeProductsCard

/-- THE TIED CARD OF 'schismalaw10.WedgeForms'. -/
def wedgeFormsCard : Claim7 := { stood := { row := wedgeFormsRow, standIns := [], harness := (true, "034fcc4f06790b33ededfc7360538d931d939f4ed6fc6953bcd336abe7555c11"), looks := true }, kinds := [], alts := [], laidByText := true, laidKinds := [.data, .data, .data, .sentinel, .sentinel], laidTests := true, laidLooks := .later }
def WedgeFormsCardSaid : Prop := Claim7.holds Tryz.pinned (.plain (OpenSpec.ofChange wedgeFormsSpec)) wedgeFormsCard

/-- THE TIED CARD OF 'schismalaw10.WedgeLaws'. -/
def wedgeLawsCard : Claim7 := { stood := { row := wedgeLawsRow, standIns := [], harness := (true, "034fcc4f06790b33ededfc7360538d931d939f4ed6fc6953bcd336abe7555c11"), looks := true }, kinds := [], alts := [], laidByText := true, laidKinds := [.data, .data, .data, .sentinel, .sentinel], laidTests := true, laidLooks := .later }
def WedgeLawsCardSaid : Prop := Claim7.holds Tryz.pinned (.plain (OpenSpec.ofChange wedgeLawsSpec)) wedgeLawsCard

/-- THE TIED CARD OF 'schismalaw10.WedgeChecks'. -/
def wedgeChecksCard : Claim7 := { stood := { row := wedgeChecksRow, standIns := [], harness := (true, "034fcc4f06790b33ededfc7360538d931d939f4ed6fc6953bcd336abe7555c11"), looks := true }, kinds := [], alts := [], laidByText := true, laidKinds := [.data, .data, .data, .sentinel, .sentinel], laidTests := true, laidLooks := .later }
def WedgeChecksCardSaid : Prop := Claim7.holds Tryz.pinned (.plain (OpenSpec.ofChange wedgeChecksSpec)) wedgeChecksCard

/-- THE TIED CARD OF 'schismalaw10.WedgeBases'. -/
def wedgeBasesCard : Claim7 := { stood := { row := wedgeBasesRow, standIns := [], harness := (true, "034fcc4f06790b33ededfc7360538d931d939f4ed6fc6953bcd336abe7555c11"), looks := true }, kinds := [], alts := [], laidByText := true, laidKinds := [.data, .data, .data, .sentinel, .sentinel], laidTests := true, laidLooks := .later }
def WedgeBasesCardSaid : Prop := Claim7.holds Tryz.pinned (.plain (OpenSpec.ofChange wedgeBasesSpec)) wedgeBasesCard

/-- THE SECOND FORM's CARD OF 'schismalaw10.WedgeRows'. -/
def wedgeRowsUptoCard : Claim7 := { stood := { row := wedgeRowsUptoRow, standIns := [], harness := (true, "034fcc4f06790b33ededfc7360538d931d939f4ed6fc6953bcd336abe7555c11"), looks := true }, kinds := [], alts := [], laidByText := true, laidKinds := [.data, .data, .data, .sentinel, .sentinel], laidTests := true, laidLooks := .later }
def WedgeRowsUptoCardSaid : Prop := Claim7.holds Tryz.pinned (.plain (OpenSpec.upto wedgeRowsSpec)) wedgeRowsUptoCard

/-- THE SECOND FORM's CARD OF 'schismalaw10.WedgeInteriors'. -/
def wedgeInteriorsUptoCard : Claim7 := { stood := { row := wedgeInteriorsUptoRow, standIns := [], harness := (true, "034fcc4f06790b33ededfc7360538d931d939f4ed6fc6953bcd336abe7555c11"), looks := true }, kinds := [], alts := [], laidByText := true, laidKinds := [.data, .data, .data, .sentinel, .sentinel], laidTests := true, laidLooks := .later }
def WedgeInteriorsUptoCardSaid : Prop := Claim7.holds Tryz.pinned (.plain (OpenSpec.upto wedgeInteriorsSpec)) wedgeInteriorsUptoCard

/-- THE SECOND FORM's CARD OF 'schismalaw10.WedgeDuals'. -/
def wedgeDualsUptoCard : Claim7 := { stood := { row := wedgeDualsUptoRow, standIns := [], harness := (true, "034fcc4f06790b33ededfc7360538d931d939f4ed6fc6953bcd336abe7555c11"), looks := true }, kinds := [], alts := [], laidByText := true, laidKinds := [.data, .data, .data, .sentinel, .sentinel], laidTests := true, laidLooks := .later }
def WedgeDualsUptoCardSaid : Prop := Claim7.holds Tryz.pinned (.plain (OpenSpec.upto wedgeDualsSpec)) wedgeDualsUptoCard

/-- THE SECOND FORM's CARD OF 'schismalaw10.WedgeSets'. -/
def wedgeSetsUptoCard : Claim7 := { stood := { row := wedgeSetsUptoRow, standIns := [], harness := (true, "034fcc4f06790b33ededfc7360538d931d939f4ed6fc6953bcd336abe7555c11"), looks := true }, kinds := [], alts := [], laidByText := true, laidKinds := [.data, .data, .data, .sentinel, .sentinel], laidTests := true, laidLooks := .later }
def WedgeSetsUptoCardSaid : Prop := Claim7.holds Tryz.pinned (.plain (OpenSpec.upto wedgeSetsSpec)) wedgeSetsUptoCard

/-- THE SECOND FORM's CARD OF 'schismalaw10.WedgeLattices'. -/
def wedgeLatticesUptoCard : Claim7 := { stood := { row := wedgeLatticesUptoRow, standIns := [], harness := (true, "034fcc4f06790b33ededfc7360538d931d939f4ed6fc6953bcd336abe7555c11"), looks := true }, kinds := [], alts := [], laidByText := true, laidKinds := [.data, .data, .data, .sentinel, .sentinel], laidTests := true, laidLooks := .later }
def WedgeLatticesUptoCardSaid : Prop := Claim7.holds Tryz.pinned (.plain (OpenSpec.upto wedgeLatticesSpec)) wedgeLatticesUptoCard

/-- THE SECOND FORM's CARD OF 'schismalaw10.WedgeProducts'. -/
def wedgeProductsUptoCard : Claim7 := { stood := { row := wedgeProductsUptoRow, standIns := [], harness := (true, "034fcc4f06790b33ededfc7360538d931d939f4ed6fc6953bcd336abe7555c11"), looks := true }, kinds := [], alts := [], laidByText := true, laidKinds := [.data, .data, .data, .sentinel, .sentinel], laidTests := true, laidLooks := .later }
def WedgeProductsUptoCardSaid : Prop := Claim7.holds Tryz.pinned (.plain (OpenSpec.upto wedgeProductsSpec)) wedgeProductsUptoCard

/-- THE SECOND FORM's CARD OF 'schismalaw10.WedgeForms'. -/
def wedgeFormsUptoCard : Claim7 := { stood := { row := wedgeFormsUptoRow, standIns := [], harness := (true, "034fcc4f06790b33ededfc7360538d931d939f4ed6fc6953bcd336abe7555c11"), looks := true }, kinds := [], alts := [], laidByText := true, laidKinds := [.data, .data, .data, .sentinel, .sentinel], laidTests := true, laidLooks := .later }
def WedgeFormsUptoCardSaid : Prop := Claim7.holds Tryz.pinned (.plain (OpenSpec.upto wedgeFormsSpec)) wedgeFormsUptoCard

/-- THE SECOND FORM's CARD OF 'schismalaw10.WedgeLaws'. -/
def wedgeLawsUptoCard : Claim7 := { stood := { row := wedgeLawsUptoRow, standIns := [], harness := (true, "034fcc4f06790b33ededfc7360538d931d939f4ed6fc6953bcd336abe7555c11"), looks := true }, kinds := [], alts := [], laidByText := true, laidKinds := [.data, .data, .data, .sentinel, .sentinel], laidTests := true, laidLooks := .later }
def WedgeLawsUptoCardSaid : Prop := Claim7.holds Tryz.pinned (.plain (OpenSpec.upto wedgeLawsSpec)) wedgeLawsUptoCard

/-- THE SECOND FORM's CARD OF 'schismalaw10.WedgeChecks'. -/
def wedgeChecksUptoCard : Claim7 := { stood := { row := wedgeChecksUptoRow, standIns := [], harness := (true, "034fcc4f06790b33ededfc7360538d931d939f4ed6fc6953bcd336abe7555c11"), looks := true }, kinds := [], alts := [], laidByText := true, laidKinds := [.data, .data, .data, .sentinel, .sentinel], laidTests := true, laidLooks := .later }
def WedgeChecksUptoCardSaid : Prop := Claim7.holds Tryz.pinned (.plain (OpenSpec.upto wedgeChecksSpec)) wedgeChecksUptoCard

/-- THE SECOND FORM's CARD OF 'schismalaw10.WedgeBases'. -/
def wedgeBasesUptoCard : Claim7 := { stood := { row := wedgeBasesUptoRow, standIns := [], harness := (true, "034fcc4f06790b33ededfc7360538d931d939f4ed6fc6953bcd336abe7555c11"), looks := true }, kinds := [], alts := [], laidByText := true, laidKinds := [.data, .data, .data, .sentinel, .sentinel], laidTests := true, laidLooks := .later }
def WedgeBasesUptoCardSaid : Prop := Claim7.holds Tryz.pinned (.plain (OpenSpec.upto wedgeBasesSpec)) wedgeBasesUptoCard
end Rows
end Go.Proofs.YtjlkkofmojgipaaGreatDoor
