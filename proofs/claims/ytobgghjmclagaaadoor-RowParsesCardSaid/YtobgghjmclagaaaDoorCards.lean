/-
  DERIVED. GIVEN WITH THE SEED: THE CARDS: each row of YtobgghjmclagaaaDoorRows.lean that lists a variable, with what it lists TIED to the program's text (the seventh form; the later family's looks); each row that meets fmt, with fmt's text TOLD by the authors' own Lean function (tested against real Go, not proved from fmt's source: count such statements apart). THE CARD IS WHAT COUNTS. Prove the row's statement (the work); the ties are given (YtobgghjmclagaaaDoorTie.lean); close each card by the builder's one call (the guide's Derived/Test/ToyasCard.lean, 'card_holds'). Laid BY PROGRAM, IN A SANDBOX (cutbox-door.mjs). By AI agents, Wed Nov 11 2026. No macro, syntax, notation, axiom, sorry.
-/
import Derived.Test.YtobgghjmclagaaaDoorRows
import GoSem.ClaimSeven
namespace Go.Proofs.YtobgghjmclagaaaDoor
namespace Rows

/-- THE TIED CARD OF 'schismalaw05.RowChecks'. -/
def rowChecksCard : Claim7 := { stood := { row := rowChecksRow, standIns := [], harness := (true, "d1d12daea47902a75648658943d0ef050522ad5f7a225af7ced6ed59e1e99c88"), looks := true }, kinds := [], alts := [], laidByText := true, laidKinds := [.data, .data, .data], laidTests := true, laidLooks := .later }
def RowChecksCardSaid : Prop := Claim7.holds Tryd.pinned (.plain (OpenSpec.ofChange rowChecksSpec)) rowChecksCard

/-- THE TIED CARD OF 'schismalaw05.RowContents'. -/
def rowContentsCard : Claim7 := { stood := { row := rowContentsRow, standIns := [], harness := (true, "d1d12daea47902a75648658943d0ef050522ad5f7a225af7ced6ed59e1e99c88"), looks := true }, kinds := [], alts := [], laidByText := true, laidKinds := [.data, .data, .data], laidTests := true, laidLooks := .later }
def RowContentsCardSaid : Prop := Claim7.holds Tryd.pinned (.plain (OpenSpec.ofChange rowContentsSpec)) rowContentsCard

/-- THE TIED CARD OF 'schismalaw05.RowUnits'. -/
def rowUnitsCard : Claim7 := { stood := { row := rowUnitsRow, standIns := [], harness := (true, "d1d12daea47902a75648658943d0ef050522ad5f7a225af7ced6ed59e1e99c88"), looks := true }, kinds := [], alts := [], laidByText := true, laidKinds := [.data, .data, .data], laidTests := true, laidLooks := .later }
def RowUnitsCardSaid : Prop := Claim7.holds Tryd.pinned (.plain (OpenSpec.ofChange rowUnitsSpec)) rowUnitsCard

/-- THE TIED CARD OF 'schismalaw05.RowAdds'. -/
def rowAddsCard : Claim7 := { stood := { row := rowAddsRow, standIns := [], harness := (true, "d1d12daea47902a75648658943d0ef050522ad5f7a225af7ced6ed59e1e99c88"), looks := true }, kinds := [], alts := [], laidByText := true, laidKinds := [.data, .data, .data], laidTests := true, laidLooks := .later }
def RowAddsCardSaid : Prop := Claim7.holds Tryd.pinned (.plain (OpenSpec.ofChange rowAddsSpec)) rowAddsCard

/-- THE TIED CARD OF 'schismalaw05.RowDots'. -/
def rowDotsCard : Claim7 := { stood := { row := rowDotsRow, standIns := [], harness := (true, "d1d12daea47902a75648658943d0ef050522ad5f7a225af7ced6ed59e1e99c88"), looks := true }, kinds := [], alts := [], laidByText := true, laidKinds := [.data, .data, .data], laidTests := true, laidLooks := .later }
def RowDotsCardSaid : Prop := Claim7.holds Tryd.pinned (.plain (OpenSpec.ofChange rowDotsSpec)) rowDotsCard

/-- THE TIED CARD OF 'schismalaw05.RowCombines'. -/
def rowCombinesCard : Claim7 := { stood := { row := rowCombinesRow, standIns := [], harness := (true, "d1d12daea47902a75648658943d0ef050522ad5f7a225af7ced6ed59e1e99c88"), looks := true }, kinds := [], alts := [], laidByText := true, laidKinds := [.data, .data, .data], laidTests := true, laidLooks := .later }
def RowCombinesCardSaid : Prop := Claim7.holds Tryd.pinned (.plain (OpenSpec.ofChange rowCombinesSpec)) rowCombinesCard

/-- THE TIED CARD OF 'schismalaw05.RowGroups'. -/
def rowGroupsCard : Claim7 := { stood := { row := rowGroupsRow, standIns := [], harness := (true, "d1d12daea47902a75648658943d0ef050522ad5f7a225af7ced6ed59e1e99c88"), looks := true }, kinds := [], alts := [], laidByText := true, laidKinds := [.data, .data, .data], laidTests := true, laidLooks := .later }
def RowGroupsCardSaid : Prop := Claim7.holds Tryd.pinned (.plain (OpenSpec.ofChange rowGroupsSpec)) rowGroupsCard

/-- THE TIED CARD OF 'schismalaw05.RowCompares'. -/
def rowComparesCard : Claim7 := { stood := { row := rowComparesRow, standIns := [], harness := (true, "d1d12daea47902a75648658943d0ef050522ad5f7a225af7ced6ed59e1e99c88"), looks := true }, kinds := [], alts := [], laidByText := true, laidKinds := [.data, .data, .data], laidTests := true, laidLooks := .later }
def RowComparesCardSaid : Prop := Claim7.holds Tryd.pinned (.plain (OpenSpec.ofChange rowComparesSpec)) rowComparesCard

/-- THE TIED CARD OF 'schismalaw05.RowTexts'. -/
def rowTextsCard : Claim7 := { stood := { row := rowTextsRow, standIns := [], harness := (true, "d1d12daea47902a75648658943d0ef050522ad5f7a225af7ced6ed59e1e99c88"), looks := true }, kinds := [], alts := [], laidByText := true, laidKinds := [.data, .data, .data, .data, .sentinel, .sentinel, .pinned], laidTests := true, laidLooks := .later }
def RowTextsCardSaid : Prop := Claim7.holds Tryd.pinned (.plain (OpenSpec.ofChange rowTextsSpec)) rowTextsCard

/-- THE TIED CARD OF 'schismalaw05.RowParses'. -/
def rowParsesCard : Claim7 := { stood := { row := rowParsesRow, standIns := [], harness := (true, "d1d12daea47902a75648658943d0ef050522ad5f7a225af7ced6ed59e1e99c88"), looks := true }, kinds := [], alts := [], laidByText := true, laidKinds := [.data, .data, .data, .data, .sentinel, .sentinel, .pinned], laidTests := true, laidLooks := .later }
def RowParsesCardSaid : Prop := Claim7.holds Tryd.pinned (.plain (OpenSpec.ofChange rowParsesSpec)) rowParsesCard

/-- THE SECOND FORM's CARD OF 'schismalaw05.RowChecks'. -/
def rowChecksUptoCard : Claim7 := { stood := { row := rowChecksUptoRow, standIns := [], harness := (true, "d1d12daea47902a75648658943d0ef050522ad5f7a225af7ced6ed59e1e99c88"), looks := true }, kinds := [], alts := [], laidByText := true, laidKinds := [.data, .data, .data], laidTests := true, laidLooks := .later }
def RowChecksUptoCardSaid : Prop := Claim7.holds Tryd.pinned (.plain (OpenSpec.upto rowChecksSpec)) rowChecksUptoCard

/-- THE SECOND FORM's CARD OF 'schismalaw05.RowContents'. -/
def rowContentsUptoCard : Claim7 := { stood := { row := rowContentsUptoRow, standIns := [], harness := (true, "d1d12daea47902a75648658943d0ef050522ad5f7a225af7ced6ed59e1e99c88"), looks := true }, kinds := [], alts := [], laidByText := true, laidKinds := [.data, .data, .data], laidTests := true, laidLooks := .later }
def RowContentsUptoCardSaid : Prop := Claim7.holds Tryd.pinned (.plain (OpenSpec.upto rowContentsSpec)) rowContentsUptoCard

/-- THE SECOND FORM's CARD OF 'schismalaw05.RowUnits'. -/
def rowUnitsUptoCard : Claim7 := { stood := { row := rowUnitsUptoRow, standIns := [], harness := (true, "d1d12daea47902a75648658943d0ef050522ad5f7a225af7ced6ed59e1e99c88"), looks := true }, kinds := [], alts := [], laidByText := true, laidKinds := [.data, .data, .data], laidTests := true, laidLooks := .later }
def RowUnitsUptoCardSaid : Prop := Claim7.holds Tryd.pinned (.plain (OpenSpec.upto rowUnitsSpec)) rowUnitsUptoCard

/-- THE SECOND FORM's CARD OF 'schismalaw05.RowAdds'. -/
def rowAddsUptoCard : Claim7 := { stood := { row := rowAddsUptoRow, standIns := [], harness := (true, "d1d12daea47902a75648658943d0ef050522ad5f7a225af7ced6ed59e1e99c88"), looks := true }, kinds := [], alts := [], laidByText := true, laidKinds := [.data, .data, .data], laidTests := true, laidLooks := .later }
def RowAddsUptoCardSaid : Prop := Claim7.holds Tryd.pinned (.plain (OpenSpec.upto rowAddsSpec)) rowAddsUptoCard

/-- THE SECOND FORM's CARD OF 'schismalaw05.RowDots'. -/
def rowDotsUptoCard : Claim7 := { stood := { row := rowDotsUptoRow, standIns := [], harness := (true, "d1d12daea47902a75648658943d0ef050522ad5f7a225af7ced6ed59e1e99c88"), looks := true }, kinds := [], alts := [], laidByText := true, laidKinds := [.data, .data, .data], laidTests := true, laidLooks := .later }
def RowDotsUptoCardSaid : Prop := Claim7.holds Tryd.pinned (.plain (OpenSpec.upto rowDotsSpec)) rowDotsUptoCard

/-- THE SECOND FORM's CARD OF 'schismalaw05.RowCombines'. -/
def rowCombinesUptoCard : Claim7 := { stood := { row := rowCombinesUptoRow, standIns := [], harness := (true, "d1d12daea47902a75648658943d0ef050522ad5f7a225af7ced6ed59e1e99c88"), looks := true }, kinds := [], alts := [], laidByText := true, laidKinds := [.data, .data, .data], laidTests := true, laidLooks := .later }
def RowCombinesUptoCardSaid : Prop := Claim7.holds Tryd.pinned (.plain (OpenSpec.upto rowCombinesSpec)) rowCombinesUptoCard

/-- THE SECOND FORM's CARD OF 'schismalaw05.RowGroups'. -/
def rowGroupsUptoCard : Claim7 := { stood := { row := rowGroupsUptoRow, standIns := [], harness := (true, "d1d12daea47902a75648658943d0ef050522ad5f7a225af7ced6ed59e1e99c88"), looks := true }, kinds := [], alts := [], laidByText := true, laidKinds := [.data, .data, .data], laidTests := true, laidLooks := .later }
def RowGroupsUptoCardSaid : Prop := Claim7.holds Tryd.pinned (.plain (OpenSpec.upto rowGroupsSpec)) rowGroupsUptoCard

/-- THE SECOND FORM's CARD OF 'schismalaw05.RowCompares'. -/
def rowComparesUptoCard : Claim7 := { stood := { row := rowComparesUptoRow, standIns := [], harness := (true, "d1d12daea47902a75648658943d0ef050522ad5f7a225af7ced6ed59e1e99c88"), looks := true }, kinds := [], alts := [], laidByText := true, laidKinds := [.data, .data, .data], laidTests := true, laidLooks := .later }
def RowComparesUptoCardSaid : Prop := Claim7.holds Tryd.pinned (.plain (OpenSpec.upto rowComparesSpec)) rowComparesUptoCard

/-- THE SECOND FORM's CARD OF 'schismalaw05.RowTexts'. -/
def rowTextsUptoCard : Claim7 := { stood := { row := rowTextsUptoRow, standIns := [], harness := (true, "d1d12daea47902a75648658943d0ef050522ad5f7a225af7ced6ed59e1e99c88"), looks := true }, kinds := [], alts := [], laidByText := true, laidKinds := [.data, .data, .data, .data, .sentinel, .sentinel, .pinned], laidTests := true, laidLooks := .later }
def RowTextsUptoCardSaid : Prop := Claim7.holds Tryd.pinned (.plain (OpenSpec.upto rowTextsSpec)) rowTextsUptoCard

/-- THE SECOND FORM's CARD OF 'schismalaw05.RowParses'. -/
def rowParsesUptoCard : Claim7 := { stood := { row := rowParsesUptoRow, standIns := [], harness := (true, "d1d12daea47902a75648658943d0ef050522ad5f7a225af7ced6ed59e1e99c88"), looks := true }, kinds := [], alts := [], laidByText := true, laidKinds := [.data, .data, .data, .data, .sentinel, .sentinel, .pinned], laidTests := true, laidLooks := .later }
def RowParsesUptoCardSaid : Prop := Claim7.holds Tryd.pinned (.plain (OpenSpec.upto rowParsesSpec)) rowParsesUptoCard
end Rows
end Go.Proofs.YtobgghjmclagaaaDoor
