/- Merged: DChkProof. -/
import Derived.Test.YtjihfabhgcfjnaaGreatDoorVAAE
import Derived.Test.YtjihfabhgcfjnaaGreatDoorVAAF
import Derived.Test.YtjihfabhgcfjnaaGreatDoorUBK
import Derived.SevenTiedAt
/- DriftChecks holds: for any walk it returns true. Condition: the tables of math/bits and strconv and the variables of strconv that its row lists read as the program lays them (tied by the card). -/
namespace Go.Proofs.YtjihfabhgcfjnaaGreatDoor
set_option linter.unusedVariables false
open Go.ChangeShapes Go.WideShapes Go.ChangeAt Go.RowKit

set_option maxRecDepth 100000 in
theorem driftChecks_lifted (os : Os) (started : os.Started) (H : Type) (enc : TypeId × Value → H) :
    ReturnsInHanded {} Tryz.checked os 6 .any (fun w args => (Rows.driftChecksSpec.pre enc Tryz.prog Tryz.f6 [] false w args ∧ laidMetH Tryz.prog Rows.driftChecksRow.laid w) ∧ sizedMet enc Tryz.prog Tryz.f6 (OpenSpec.ofChange Rows.driftChecksSpec) false w args)
      (Rows.driftChecksSpec.post enc Tryz.prog Tryz.f6 false true false false) := by
  refine returnsInHanded_shape (C := Tryz.checked) (X := fun w _ => laidMetH Tryz.prog Rows.driftChecksRow.laid w) (fun _ _ _ hh h => h.of_heap hh) lawOwn started (by kernel_rfl) Tryz.func6
    (ChangeSpec.witness_shaped (enc := enc) (C := Tryz.checked) (os := os) (X := fun w _ => laidMetH Tryz.prog Rows.driftChecksRow.laid w) false (World.laidAll Tryz.prog os Rows.driftChecksRow.laid) #[.agg #[.slice none 0 0, .slice none 0 0, .slice none 0 0]] 8 (World.laidAll_os _ _ _) (World.shaped_of_ZipB (by kernel_rfl) (by kernel_rfl)) (by kernel_rfl) (by kernel_rfl) (by kernel_rfl) (door_met7 os _)) ?_
  intro W base args ds gs before hval0 hW _ _ hL hSh _
  have hval : ∀ (j : Nat) t v, Tryz.f6.params[j]? = some t → args[j]? = some v → Value.okWide Tryz.prog W .any base t v := hval0
  have hW' := hW
  obtain ⟨p, q, hA0, hV, rfl, hfz, hnd⟩ := hW
  have hA : DataW.TrodAll enc Tryz.prog W 0 (fun _ => true) true Tryz.f6.params.toList args.toList ds p := hA0
  have hAk := hA
  rw [Tryz.params6] at hA hval
  obtain ⟨v0, vs0, d0, ds0, p0, q0, hargs, rfl, rfl, h0, r0⟩ := trodAll_cons hA
  obtain ⟨rfl, rfl, rfl⟩ := trodAll_nil r0
  obtain rfl : args = #[v0] := by cases args; simp_all
  obtain ⟨rfl, rfl⟩ := trodVars_none hV
  obtain ⟨k0, hk0⟩ := open_walk (fun _ => rfl) (hval 0 55 v0 rfl rfl) h0
  clear hA0 hval0
  simp only [List.append_nil] at hW' hAk
  refine (dchecks_walk k0 v0 W hk0 (libT_of hL) (pow_lt (libT_of hL).pow)).mono fun e W' ⟨he, hg⟩ => ?_
  subst he
  exact lawPost hW' (by simpa using hAk) rfl (by kernel_rfl) rfl (of_decide_eq_true (by kernel_rfl)) hg

set_option maxHeartbeats 40000000 in
/-- What the row says of the program, fact by fact. -/
theorem driftChecks_facts : joinedFacts Tryz.pinned.checked.prog 6 Tryz.f6 Rows.driftChecksSpec Rows.driftChecksRow = true := by
  unfold joinedFacts
  iterate 31 refine Bool.and_eq_true_iff.mpr ⟨?_, ?_⟩
  all_goals (as_aux_lemma => kernel_rfl)

theorem driftChecks_over : Rows.DriftChecksSaid :=
  OpenClaim.holds_of_wide 6 Tryz.f6 rfl rfl rfl rfl rfl rfl rfl ⟨rfl, rfl, rfl, rfl, rfl⟩ rfl rfl rfl rfl rfl (by kernel_rfl) Tryz.func6 driftChecks_facts
    (of_decide_eq_true (by kernel_rfl)) (by unfold Func.isWrapper; first | (rw [if_pos (by decide +kernel)]; kernel_rfl) | (rw [if_neg (by decide +kernel)]; exact ⟨rfl, rfl⟩))
    (fun os started H enc _ => driftChecks_lifted os started H enc)

theorem driftChecks_holds : Rows.DriftChecksCardSaid :=
  Claim7.holds_tied_plain_at .later [] Rows.driftChecksCard.laidKinds true Rows.driftChecksCard.stood.harness true
    driftChecks_over (fun _ h => by cases h) (by kernel_rfl) (fun _ h => by cases h) driftChecks_row_tie rfl ⟨rfl, rfl⟩ (by kernel_rfl) rfl
    (fun f fn hf hfn => by
      obtain rfl : f = 6 := Option.some.inj ((show Tryz.prog.funcNamed Rows.driftChecksRow.func = some 6 by kernel_rfl).symm.trans hf) |>.symm
      obtain rfl : fn = Tryz.f6 := (Option.some.inj (Tryz.func6.symm.trans hfn)).symm
      exact ⟨by kernel_rfl, fun j t ht => by
        rw [Tryz.params6] at ht
        have h3 : t = 55 := by
          have := List.mem_of_getElem? (l := [55]) (i := j) (a := t) (by simpa using ht)
          simp at this
          first | omega | exact this | exact this.symm | (rcases this with h | h | h <;> simp [h]) | (rcases this with h | h <;> simp [h])
        subst h3
        exact (show Tryz.prog.wantsStandIn 55 = false by kernel_rfl)⟩)
    (by kernel_rfl)
#print axioms driftChecks_holds
end Go.Proofs.YtjihfabhgcfjnaaGreatDoor
