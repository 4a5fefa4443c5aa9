/- Merged: RanksProof. -/
import Derived.Test.YtpeinobepiodaaaGreatDoorMaRanksT
import Derived.Test.YtpeinobepiodaaaGreatDoorGP
import Derived.Test.YtpeinobepiodaaaGreatDoorGZ
import Derived.SevenTiedAt
/- TableRanks holds: for any draft it returns true. Condition: the tables of math/bits and strconv and the variables of strconv that its row lists read as the program lays them (tied by the card). -/
namespace Go.Proofs.YtpeinobepiodaaaGreatDoor
set_option linter.unusedVariables false
open Go.ChangeShapes Go.WideShapes Go.ChangeAt Go.RowKit

set_option maxRecDepth 100000 in
theorem tableRanks_lifted (os : Os) (started : os.Started) (H : Type) (enc : TypeId × Value → H) :
    ReturnsInHanded {} Tryz.checked os 8 .any (fun w args => (Rows.tableRanksSpec.pre enc Tryz.prog Tryz.f8 [] false w args ∧ laidMetH Tryz.prog Rows.tableIdentitiesRow.laid w) ∧ sizedMet enc Tryz.prog Tryz.f8 (OpenSpec.ofChange Rows.tableRanksSpec) false w args)
      (Rows.tableRanksSpec.post enc Tryz.prog Tryz.f8 false true false false) := by
  refine returnsInHanded_shape (C := Tryz.checked) (X := fun w _ => laidMetH Tryz.prog Rows.tableIdentitiesRow.laid w) (fun _ _ _ hh h => h.of_heap hh) lawOwn started (by kernel_rfl) Tryz.func8
    (ChangeSpec.witness_shaped (enc := enc) (C := Tryz.checked) (os := os) (X := fun w _ => laidMetH Tryz.prog Rows.tableIdentitiesRow.laid w) false (World.laidAll Tryz.prog os Rows.tableIdentitiesRow.laid) #[.agg #[.int .u8 0, .int .u8 0, .slice none 0 0]] 8 (World.laidAll_os _ _ _) (World.shaped_of_ZipB (by kernel_rfl) (by kernel_rfl)) (by kernel_rfl) (by kernel_rfl) (by kernel_rfl) (door_met7 os _)) ?_
  intro W base args ds gs before hval0 hW _ _ hL hSh _
  have hval : ∀ (j : Nat) t v, Tryz.f8.params[j]? = some t → args[j]? = some v → Value.okWide Tryz.prog W .any base t v := hval0
  have hW' := hW
  obtain ⟨p, q, hA0, hV, rfl, hfz, hnd⟩ := hW
  have hA : DataW.TrodAll enc Tryz.prog W 0 (fun _ => true) true Tryz.f8.params.toList args.toList ds p := hA0
  have hAk := hA
  rw [Tryz.params8] at hA hval
  obtain ⟨v0, vs0, d0, ds0, p0, q0, hargs, rfl, rfl, h0, r0⟩ := trodAll_cons hA
  obtain ⟨rfl, rfl, rfl⟩ := trodAll_nil r0
  obtain rfl : args = #[v0] := by cases args; simp_all
  obtain ⟨rfl, rfl⟩ := trodVars_none hV
  obtain ⟨x0, y0, ve0, es0, rfl, hx0, hy0, hes0⟩ := open_draft (fun _ => rfl) (hval 0 49 v0 rfl rfl) h0
  clear hA0 hval0
  simp only [List.append_nil] at hW' hAk
  refine (ranks_walk x0 y0 ve0 es0 W hx0 hy0 hes0 (pow10_of_laid hL)).mono fun e W' ⟨he, hg⟩ => ?_
  subst he
  exact lawPost hW' (by simpa using hAk) rfl (by kernel_rfl) rfl (of_decide_eq_true (by kernel_rfl)) hg

theorem tableRanks_over : Rows.TableRanksSaid :=
  OpenClaim.holds_of_wide 8 Tryz.f8 rfl rfl rfl rfl rfl rfl rfl ⟨rfl, rfl, rfl, rfl, rfl⟩ rfl rfl rfl rfl rfl (by kernel_rfl) Tryz.func8 (by kernel_rfl)
    (of_decide_eq_true (by kernel_rfl)) (by unfold Func.isWrapper; first | (rw [if_pos (by decide +kernel)]; kernel_rfl) | (rw [if_neg (by decide +kernel)]; exact ⟨rfl, rfl⟩))
    (fun os started H enc _ => tableRanks_lifted os started H enc)

theorem tableRanks_holds : Rows.TableRanksCardSaid :=
  Claim7.holds_tied_plain_at .later [] Rows.tableRanksCard.laidKinds true Rows.tableRanksCard.stood.harness true
    tableRanks_over (fun _ h => by cases h) (by kernel_rfl) (fun _ h => by cases h) tableRanks_row_tie rfl ⟨rfl, rfl⟩ (by kernel_rfl) rfl
    (fun f fn hf hfn => by
      obtain rfl : f = 8 := Option.some.inj ((show Tryz.prog.funcNamed Rows.tableRanksRow.func = some 8 by kernel_rfl).symm.trans hf) |>.symm
      obtain rfl : fn = Tryz.f8 := (Option.some.inj (Tryz.func8.symm.trans hfn)).symm
      exact ⟨by kernel_rfl, fun j t ht => by
        rw [Tryz.params8] at ht
        have h3 : t = 49 := by
          have := List.mem_of_getElem? (l := [49]) (i := j) (a := t) (by simpa using ht)
          simp at this
          first | omega | exact this | exact this.symm | (rcases this with h | h | h <;> simp [h]) | (rcases this with h | h <;> simp [h])
        subst h3
        exact (show Tryz.prog.wantsStandIn 49 = false by kernel_rfl)⟩)
    (by kernel_rfl)
#print axioms tableRanks_holds
end Go.Proofs.YtpeinobepiodaaaGreatDoor
