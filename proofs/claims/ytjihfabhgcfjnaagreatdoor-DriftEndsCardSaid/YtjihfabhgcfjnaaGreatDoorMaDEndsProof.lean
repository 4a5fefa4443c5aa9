/- Merged: DEndsProof. -/
import Derived.Test.YtjihfabhgcfjnaaGreatDoorRBAL
import Derived.Test.YtjihfabhgcfjnaaGreatDoorQAZ
import Derived.SevenTiedAt
/- DriftEnds holds: for any plan it returns true. Condition: the tables of math/bits and strconv and the variables of strconv that its row lists read as the program lays them (tied by the card). -/
namespace Go.Proofs.YtjihfabhgcfjnaaGreatDoor
set_option linter.unusedVariables false
open Go.ChangeShapes Go.WideShapes Go.ChangeAt Go.RowKit

set_option maxRecDepth 100000 in
theorem driftEnds_lifted (os : Os) (started : os.Started) (H : Type) (enc : TypeId × Value → H) :
    ReturnsInHanded {} Tryz.checked os 4 .any (fun w args => (Rows.driftEndsSpec.pre enc Tryz.prog Tryz.f4 [] false w args ∧ laidMetH Tryz.prog Rows.driftEndsRow.laid w) ∧ sizedMet enc Tryz.prog Tryz.f4 (OpenSpec.ofChange Rows.driftEndsSpec) false w args)
      (Rows.driftEndsSpec.post enc Tryz.prog Tryz.f4 false true false false) := by
  refine returnsInHanded_shape (C := Tryz.checked) (X := fun w _ => laidMetH Tryz.prog Rows.driftEndsRow.laid w) (fun _ _ _ hh h => h.of_heap hh) lawOwn started (by kernel_rfl) Tryz.func4
    (ChangeSpec.witness_shaped (enc := enc) (C := Tryz.checked) (os := os) (X := fun w _ => laidMetH Tryz.prog Rows.driftEndsRow.laid w) false (World.laidAll Tryz.prog os Rows.driftEndsRow.laid) #[.agg (planKinds.map fun k => Value.int k 0).toArray] 8 (World.laidAll_os _ _ _) (World.shaped_of_ZipB (by kernel_rfl) (by kernel_rfl)) (by kernel_rfl) (by kernel_rfl) (by kernel_rfl) (door_met7 os _)) ?_
  intro W base args ds gs before hval0 hW _ _ hL hSh _
  have hval : ∀ (j : Nat) t v, Tryz.f4.params[j]? = some t → args[j]? = some v → Value.okWide Tryz.prog W .any base t v := hval0
  have hW' := hW
  obtain ⟨p, q, hA0, hV, rfl, hfz, hnd⟩ := hW
  have hA : DataW.TrodAll enc Tryz.prog W 0 (fun _ => true) true Tryz.f4.params.toList args.toList ds p := hA0
  have hAk := hA
  rw [Tryz.params4] at hA hval
  obtain ⟨v0, vs0, d0, ds0, p0, q0, hargs, rfl, rfl, h0, r0⟩ := trodAll_cons hA
  obtain ⟨rfl, rfl, rfl⟩ := trodAll_nil r0
  obtain rfl : args = #[v0] := by cases args; simp_all
  obtain ⟨rfl, rfl⟩ := trodVars_none hV
  obtain ⟨cs0, rfl, hpl0⟩ := open_plan (hval 0 50 v0 rfl rfl) h0
  clear hA0 hval0
  simp only [List.append_nil] at hW' hAk
  refine (dends_walk cs0 hpl0 W (libT_of hL) (pow_lt (libT_of hL).pow)).mono fun e W' ⟨he, hg⟩ => ?_
  subst he
  exact lawPost hW' (by simpa using hAk) rfl (by kernel_rfl) rfl (of_decide_eq_true (by kernel_rfl)) hg

set_option maxHeartbeats 40000000 in
/-- What the row says of the program, fact by fact. -/
theorem driftEnds_facts : joinedFacts Tryz.pinned.checked.prog 4 Tryz.f4 Rows.driftEndsSpec Rows.driftEndsRow = true := by
  unfold joinedFacts
  iterate 31 refine Bool.and_eq_true_iff.mpr ⟨?_, ?_⟩
  all_goals (as_aux_lemma => kernel_rfl)

theorem driftEnds_over : Rows.DriftEndsSaid :=
  OpenClaim.holds_of_wide 4 Tryz.f4 rfl rfl rfl rfl rfl rfl rfl ⟨rfl, rfl, rfl, rfl, rfl⟩ rfl rfl rfl rfl rfl (by kernel_rfl) Tryz.func4 driftEnds_facts
    (of_decide_eq_true (by kernel_rfl)) (by unfold Func.isWrapper; first | (rw [if_pos (by decide +kernel)]; kernel_rfl) | (rw [if_neg (by decide +kernel)]; exact ⟨rfl, rfl⟩))
    (fun os started H enc _ => driftEnds_lifted os started H enc)

theorem driftEnds_holds : Rows.DriftEndsCardSaid :=
  Claim7.holds_tied_plain_at .later [] Rows.driftEndsCard.laidKinds true Rows.driftEndsCard.stood.harness true
    driftEnds_over (fun _ h => by cases h) (by kernel_rfl) (fun _ h => by cases h) driftEnds_row_tie rfl ⟨rfl, rfl⟩ (by kernel_rfl) rfl
    (fun f fn hf hfn => by
      obtain rfl : f = 4 := Option.some.inj ((show Tryz.prog.funcNamed Rows.driftEndsRow.func = some 4 by kernel_rfl).symm.trans hf) |>.symm
      obtain rfl : fn = Tryz.f4 := (Option.some.inj (Tryz.func4.symm.trans hfn)).symm
      exact ⟨by kernel_rfl, fun j t ht => by
        rw [Tryz.params4] at ht
        have h3 : t = 50 := by
          have := List.mem_of_getElem? (l := [50]) (i := j) (a := t) (by simpa using ht)
          simp at this
          first | omega | exact this | exact this.symm | (rcases this with h | h | h <;> simp [h]) | (rcases this with h | h <;> simp [h])
        subst h3
        exact (show Tryz.prog.wantsStandIn 50 = false by kernel_rfl)⟩)
    (by kernel_rfl)
#print axioms driftEnds_holds
end Go.Proofs.YtjihfabhgcfjnaaGreatDoor
