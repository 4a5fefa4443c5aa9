/- Merged: TChkProof. -/
import Derived.Test.YtehknemdfbkimaaGreatDoorTBAE
import Derived.Test.YtehknemdfbkimaaGreatDoorSBE
import Derived.SevenTiedAt
/- TemperamentChecks holds: for any list of primes and any two matrices it returns true. Condition: the tables of math/bits and strconv and the variables of strconv that its row lists read as the program lays them (tied by the card). -/
namespace Go.Proofs.YtehknemdfbkimaaGreatDoor
set_option linter.unusedVariables false
open Go.ChangeShapes Go.WideShapes Go.ChangeAt Go.RowKit

set_option maxRecDepth 100000 in
theorem temperamentChecks_lifted (os : Os) (started : os.Started) (H : Type) (enc : TypeId × Value → H) :
    ReturnsInHanded {} Tryz.checked os 13 .any (fun w args => (Rows.temperamentChecksSpec.pre enc Tryz.prog Tryz.f13 [] false w args ∧ laidMetH Tryz.prog Rows.temperamentChecksRow.laid w) ∧ sizedMet enc Tryz.prog Tryz.f13 (OpenSpec.ofChange Rows.temperamentChecksSpec) false w args)
      (Rows.temperamentChecksSpec.post enc Tryz.prog Tryz.f13 false true false false) := by
  refine returnsInHanded_shape (C := Tryz.checked) (X := fun w _ => laidMetH Tryz.prog Rows.temperamentChecksRow.laid w) (fun _ _ _ hh h => h.of_heap hh) lawOwn started (by kernel_rfl) Tryz.func13
    (ChangeSpec.witness_shaped (enc := enc) (C := Tryz.checked) (os := os) (X := fun w _ => laidMetH Tryz.prog Rows.temperamentChecksRow.laid w) false (World.laidAll Tryz.prog os Rows.temperamentChecksRow.laid) #[.slice none 0 0, .slice none 0 0, .slice none 0 0] 8 (World.laidAll_os _ _ _) (World.shaped_of_ZipB (by kernel_rfl) (by kernel_rfl)) (by kernel_rfl) (by kernel_rfl) (by kernel_rfl) (door_met7 os _)) ?_
  intro W base args ds gs before hval0 hW _ _ hL hSh _
  have hval : ∀ (j : Nat) t v, Tryz.f13.params[j]? = some t → args[j]? = some v → Value.okWide Tryz.prog W .any base t v := hval0
  have hW' := hW
  obtain ⟨p, q, hA0, hV, rfl, hfz, hnd⟩ := hW
  have hA : DataW.TrodAll enc Tryz.prog W 0 (fun _ => true) true Tryz.f13.params.toList args.toList ds p := hA0
  have hAk := hA
  rw [Tryz.params13] at hA hval
  obtain ⟨v0, vs0, d0, ds0, p0, q0, hargs, rfl, rfl, h0, r0⟩ := trodAll_cons hA
  obtain ⟨v1, vs1, d1, ds1, p1, q1, rfl, rfl, rfl, h1, r1⟩ := trodAll_cons r0
  obtain ⟨v2, vs2, d2, ds2, p2, q2, rfl, rfl, rfl, h2, r2⟩ := trodAll_cons r1
  obtain ⟨rfl, rfl, rfl⟩ := trodAll_nil r2
  obtain rfl : args = #[v0, v1, v2] := by cases args; simp_all
  obtain ⟨rfl, rfl⟩ := trodVars_none hV
  obtain ⟨xs0, hx0⟩ := ints_in Tryz.underlying63 Tryz.underlying3 cellsInt (fun _ => rfl) (hval 0 63 v0 rfl rfl) h0
  obtain ⟨xs1, hx1⟩ := rows_in Tryz.underlying28 Tryz.underlying39 Tryz.underlying3 cellsRow cellsInt (fun _ => rfl) (hval 1 28 v1 rfl rfl) h1
  obtain ⟨xs2, hx2⟩ := rows_in Tryz.underlying28 Tryz.underlying39 Tryz.underlying3 cellsRow cellsInt (fun _ => rfl) (hval 2 28 v2 rfl rfl) h2
  clear hA0 hval0
  simp only [List.append_nil] at hW' hAk
  refine (tchecks_walk xs0 xs1 xs2 _ _ _ W hx0 hx1 hx2 (libT_of hL) (pow_lt (libT_of hL).pow)).mono fun e W' ⟨he, hg⟩ => ?_
  subst he
  exact lawPost hW' (by simpa using hAk) rfl (by kernel_rfl) rfl (of_decide_eq_true (by kernel_rfl)) hg

set_option maxHeartbeats 40000000 in
/-- What the row says of the program, fact by fact. -/
theorem temperamentChecks_facts : joinedFacts Tryz.pinned.checked.prog 13 Tryz.f13 Rows.temperamentChecksSpec Rows.temperamentChecksRow = true := by
  unfold joinedFacts
  iterate 31 refine Bool.and_eq_true_iff.mpr ⟨?_, ?_⟩
  all_goals (as_aux_lemma => kernel_rfl)

theorem temperamentChecks_over : Rows.TemperamentChecksSaid :=
  OpenClaim.holds_of_wide 13 Tryz.f13 rfl rfl rfl rfl rfl rfl rfl ⟨rfl, rfl, rfl, rfl, rfl⟩ rfl rfl rfl rfl rfl (by kernel_rfl) Tryz.func13 temperamentChecks_facts
    (of_decide_eq_true (by kernel_rfl)) (by unfold Func.isWrapper; first | (rw [if_pos (by decide +kernel)]; kernel_rfl) | (rw [if_neg (by decide +kernel)]; exact ⟨rfl, rfl⟩))
    (fun os started H enc _ => temperamentChecks_lifted os started H enc)

theorem temperamentChecks_holds : Rows.TemperamentChecksCardSaid :=
  Claim7.holds_tied_plain_at .later [] Rows.temperamentChecksCard.laidKinds true Rows.temperamentChecksCard.stood.harness true
    temperamentChecks_over (fun _ h => by cases h) (by kernel_rfl) (fun _ h => by cases h) temperamentChecks_row_tie rfl ⟨rfl, rfl⟩ (by kernel_rfl) rfl
    (fun f fn hf hfn => by
      obtain rfl : f = 13 := Option.some.inj ((show Tryz.prog.funcNamed Rows.temperamentChecksRow.func = some 13 by kernel_rfl).symm.trans hf) |>.symm
      obtain rfl : fn = Tryz.f13 := (Option.some.inj (Tryz.func13.symm.trans hfn)).symm
      exact ⟨by kernel_rfl, fun j t ht => by
        rw [Tryz.params13] at ht
        have h3 : t = 28 ∨ t = 63 := by
          have := List.mem_of_getElem? (l := [63, 28, 28]) (i := j) (a := t) (by simpa using ht)
          simp at this
          first | omega | exact this | exact this.symm | (rcases this with h | h | h <;> simp [h]) | (rcases this with h | h <;> simp [h])
        rcases h3 with rfl | rfl
        · exact (show Tryz.prog.wantsStandIn 28 = false by kernel_rfl)
        · exact (show Tryz.prog.wantsStandIn 63 = false by kernel_rfl)⟩)
    (by kernel_rfl)
#print axioms temperamentChecks_holds
end Go.Proofs.YtehknemdfbkimaaGreatDoor
