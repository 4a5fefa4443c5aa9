/- Merged: TSolvesProof. -/
import Derived.Test.YtpeinobepiodaaaGreatDoorMaTSolvesT
import Derived.Test.YtpeinobepiodaaaGreatDoorGV
import Derived.SevenTiedAt
/- TableSolves holds: for any matrix and any row it returns true. Condition: the tables of math/bits and strconv and the variables of strconv that its row lists read as the program lays them (tied by the card). -/
namespace Go.Proofs.YtpeinobepiodaaaGreatDoor
set_option linter.unusedVariables false
open Go.ChangeShapes Go.WideShapes Go.ChangeAt Go.RowKit

set_option maxRecDepth 100000 in
theorem tableSolves_lifted (os : Os) (started : os.Started) (H : Type) (enc : TypeId × Value → H) :
    ReturnsInHanded {} Tryz.checked os 6 .any (fun w args => (Rows.tableSolvesSpec.pre enc Tryz.prog Tryz.f6 [] false w args ∧ laidMetH Tryz.prog Rows.tableIdentitiesRow.laid w) ∧ sizedMet enc Tryz.prog Tryz.f6 (OpenSpec.ofChange Rows.tableSolvesSpec) false w args)
      (Rows.tableSolvesSpec.post enc Tryz.prog Tryz.f6 false true false false) := by
  refine returnsInHanded_shape (C := Tryz.checked) (X := fun w _ => laidMetH Tryz.prog Rows.tableIdentitiesRow.laid w) (fun _ _ _ hh h => h.of_heap hh) lawOwn started (by kernel_rfl) Tryz.func6
    (ChangeSpec.witness_shaped (enc := enc) (C := Tryz.checked) (os := os) (X := fun w _ => laidMetH Tryz.prog Rows.tableIdentitiesRow.laid w) false (World.laidAll Tryz.prog os Rows.tableIdentitiesRow.laid) #[.slice none 0 0, .slice none 0 0] 8 (World.laidAll_os _ _ _) (World.shaped_of_ZipB (by kernel_rfl) (by kernel_rfl)) (by kernel_rfl) (by kernel_rfl) (by kernel_rfl) (door_met7 os _)) ?_
  intro W base args ds gs before hval0 hW _ _ hL hSh _
  have hval : ∀ (j : Nat) t v, Tryz.f6.params[j]? = some t → args[j]? = some v → Value.okWide Tryz.prog W .any base t v := hval0
  have hW' := hW
  obtain ⟨p, q, hA0, hV, rfl, hfz, hnd⟩ := hW
  have hA : DataW.TrodAll enc Tryz.prog W 0 (fun _ => true) true Tryz.f6.params.toList args.toList ds p := hA0
  have hAk := hA
  rw [Tryz.params6] at hA hval
  obtain ⟨v0, vs0, d0, ds0, p0, q0, hargs, rfl, rfl, h0, r0⟩ := trodAll_cons hA
  obtain ⟨v1, vs1, d1, ds1, p1, q1, rfl, rfl, rfl, h1, r1⟩ := trodAll_cons r0
  obtain ⟨rfl, rfl, rfl⟩ := trodAll_nil r1
  obtain rfl : args = #[v0, v1] := by cases args; simp_all
  obtain ⟨rfl, rfl⟩ := trodVars_none hV
  obtain ⟨xs0, hx0⟩ := rows_in Tryz.underlying23 Tryz.underlying51 Tryz.underlying3 cellsRow cellsInt (fun _ => rfl) (hval 0 23 v0 rfl rfl) h0
  obtain ⟨xs1, hx1⟩ := ints_in Tryz.underlying51 Tryz.underlying3 cellsInt (fun _ => rfl) (hval 1 51 v1 rfl rfl) h1
  clear hA0 hval0
  simp only [List.append_nil] at hW' hAk
  refine (solves_walk xs0 xs1 _ _ W hx0 hx1 (libT_of hL)).mono fun e W' ⟨he, hg⟩ => ?_
  subst he
  exact lawPost hW' (by simpa using hAk) rfl (by kernel_rfl) rfl (of_decide_eq_true (by kernel_rfl)) hg

theorem tableSolves_over : Rows.TableSolvesSaid :=
  OpenClaim.holds_of_wide 6 Tryz.f6 rfl rfl rfl rfl rfl rfl rfl ⟨rfl, rfl, rfl, rfl, rfl⟩ rfl rfl rfl rfl rfl (by kernel_rfl) Tryz.func6 (by kernel_rfl)
    (of_decide_eq_true (by kernel_rfl)) (by unfold Func.isWrapper; first | (rw [if_pos (by decide +kernel)]; kernel_rfl) | (rw [if_neg (by decide +kernel)]; exact ⟨rfl, rfl⟩))
    (fun os started H enc _ => tableSolves_lifted os started H enc)

theorem tableSolves_holds : Rows.TableSolvesCardSaid :=
  Claim7.holds_tied_plain_at .later [] Rows.tableSolvesCard.laidKinds true Rows.tableSolvesCard.stood.harness true
    tableSolves_over (fun _ h => by cases h) (by kernel_rfl) (fun _ h => by cases h) tableSolves_row_tie rfl ⟨rfl, rfl⟩ (by kernel_rfl) rfl
    (fun f fn hf hfn => by
      obtain rfl : f = 6 := Option.some.inj ((show Tryz.prog.funcNamed Rows.tableSolvesRow.func = some 6 by kernel_rfl).symm.trans hf) |>.symm
      obtain rfl : fn = Tryz.f6 := (Option.some.inj (Tryz.func6.symm.trans hfn)).symm
      exact ⟨by kernel_rfl, fun j t ht => by
        rw [Tryz.params6] at ht
        have h3 : t = 23 ∨ t = 51 := by
          have := List.mem_of_getElem? (l := [23, 51]) (i := j) (a := t) (by simpa using ht)
          simp at this
          first | omega | exact this | exact this.symm | (rcases this with h | h | h <;> simp [h]) | (rcases this with h | h <;> simp [h])
        rcases h3 with rfl | rfl
        · exact (show Tryz.prog.wantsStandIn 23 = false by kernel_rfl)
        · exact (show Tryz.prog.wantsStandIn 51 = false by kernel_rfl)⟩)
    (by kernel_rfl)
#print axioms tableSolves_holds
end Go.Proofs.YtpeinobepiodaaaGreatDoor
