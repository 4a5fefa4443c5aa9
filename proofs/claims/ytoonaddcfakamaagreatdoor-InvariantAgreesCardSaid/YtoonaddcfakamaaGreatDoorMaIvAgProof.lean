/- InvariantAgrees holds: for any two plans it returns true. Condition: the tables of math/bits and strconv and the variables of strconv that its row lists read as the program lays them (tied by the card). -/
import Derived.Test.YtoonaddcfakamaaGreatDoorYAX
import Derived.SevenTiedAt
set_option linter.unusedVariables false
set_option linter.unusedSimpArgs false
namespace Go.Proofs.YtoonaddcfakamaaGreatDoor
open Go.ChangeShapes Go.WideShapes Go.ChangeAt Go.RowKit Go.Proofs.Tryz
theorem invariantAgrees_holds : Rows.InvariantAgreesCardSaid :=
  Claim7.holds_tied_plain_at .later [] Rows.invariantAgreesCard.laidKinds true Rows.invariantAgreesCard.stood.harness true
    U2_ (fun _ h => by cases h) (by as_aux_lemma => kernel_rfl) (fun _ h => by cases h) invariantAgrees_row_tie rfl ⟨rfl, rfl⟩ (by as_aux_lemma => kernel_rfl) rfl
    (fun f fn hf sH => by
      obtain rfl : f = 7 := oA ((show prog.funcNamed Rows.invariantAgreesRow.func = some 7 by kernel_rfl).symm.trans hf) |>.symm;obtain rfl : fn = f7 := (oA (func7.symm.trans sH)).symm
      exact ⟨by kernel_rfl, fun j t ht => by
        rw [params7] at ht;have h3 : t = 24 := by
          have := nw (l := [24, 24]) (i := j) (a := t) (by simpa using ht);simp at this
          first | omega | exact this | exact this.symm | (rcases this with h | h | h <;> simp [h]) | (rcases this with h | h <;> simp [h])
        subst h3
        exact (show prog.wantsStandIn 24 = false by kernel_rfl)⟩)
    (by as_aux_lemma => kernel_rfl)
end Go.Proofs.YtoonaddcfakamaaGreatDoor
