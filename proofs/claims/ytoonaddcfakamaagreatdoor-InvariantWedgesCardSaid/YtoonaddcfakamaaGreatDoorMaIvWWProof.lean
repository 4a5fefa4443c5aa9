/- InvariantWedges holds: for any plan and any factor it returns true. Condition: the tables of math/bits and strconv and the variables of strconv that its row lists read as the program lays them (tied by the card). -/
import Derived.Test.YtoonaddcfakamaaGreatDoorZAU
import Derived.SevenTiedAt
set_option linter.unusedVariables false
set_option linter.unusedSimpArgs false
namespace Go.Proofs.YtoonaddcfakamaaGreatDoor
open Go.ChangeShapes Go.WideShapes Go.ChangeAt Go.RowKit Go.Proofs.Tryz
theorem invariantWedges_holds : Rows.InvariantWedgesCardSaid :=
  Claim7.holds_tied_plain_at .later [] Rows.invariantWedgesCard.laidKinds true Rows.invariantWedgesCard.stood.harness true
    U1_ (fun _ h => by cases h) (by as_aux_lemma => kernel_rfl) (fun _ h => by cases h) invariantWedges_row_tie rfl ⟨rfl, rfl⟩ (by as_aux_lemma => kernel_rfl) rfl
    (fun f fn hf tz => by
      obtain rfl : f = 11 := o5 ((show prog.funcNamed Rows.invariantWedgesRow.func = some 11 by kernel_rfl).symm.trans hf) |>.symm;obtain rfl : fn = f11 := (o5 (func11.symm.trans tz)).symm
      exact ⟨by kernel_rfl, fun j t ht => by
        rw [params11] at ht;have h3 : t = 25 \/ t = 24 := by
          have := og (l := [24, 25]) (i := j) (a := t) (by simpa using ht);simp at this
          first | omega | exact this | exact this.symm | (rcases this with h | h | h <;> simp [h]) | (rcases this with h | h <;> simp [h])
        rcases h3 with rfl | rfl;· exact (show prog.wantsStandIn 25 = false by kernel_rfl)
        · exact (show prog.wantsStandIn 24 = false by kernel_rfl)⟩)
    (by as_aux_lemma => kernel_rfl)
end Go.Proofs.YtoonaddcfakamaaGreatDoor
