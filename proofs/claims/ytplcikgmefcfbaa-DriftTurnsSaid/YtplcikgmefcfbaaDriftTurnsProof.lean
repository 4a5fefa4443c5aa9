/- DriftTurns holds: for any plan and any number it returns true, and its arguments read as they did. No condition. -/
import Derived.Test.YtplcikgmefcfbaaDriftTurns
import Derived.Test.YtplcikgmefcfbaaOpenPlan
namespace Go.Proofs.Ytplcikgmefcfbaa
set_option linter.unusedVariables false
open Go.ChangeShapes Go.WideShapes Go.ChangeAt Go.RowKit

set_option maxRecDepth 100000 in
theorem turns_lifted (os : Os) (started : os.Started) (H : Type) (enc : TypeId × Value → H) :
    ReturnsInHanded {} Try.checked os 5 .any (Rows.driftTurnsSpec.pre6 enc Try.prog Try.f5 Rows.driftTurnsRow.domain false) (Rows.driftTurnsSpec.post enc Try.prog Try.f5 false true false false) := by
  refine returnsInHanded_of_change (C := Try.checked) lawOwn started (by kernel_rfl) Try.func5
    (ChangeSpec.witness6 (enc := enc) (C := Try.checked) false ⟨#[], #[.agg (planKinds.map fun k => Value.int k 0).toArray, .int .i64 0], []⟩ 8 (by kernel_rfl) (by kernel_rfl) (by kernel_rfl) (by kernel_rfl)) ?_
  intro W base args ds gs before hval0 hW hcnd _
  have hval : ∀ (j : Nat) t v, Try.f5.params[j]? = some t → args[j]? = some v → Value.okWide Try.prog W .any base t v := hval0
  have hW' := hW
  obtain ⟨p, q, hA0, hV, rfl, hfz, hnd⟩ := hW
  have hA : DataW.TrodAll enc Try.prog W 0 (fun _ => true) true Try.f5.params.toList args.toList ds p := hA0
  have hAk := hA
  rw [Try.params5] at hA hval
  obtain ⟨v0, vs0, d0, ds0, p0, q0, hargs, rfl, rfl, h0, r0⟩ := trodAll_cons hA
  obtain ⟨v1, vs1, d1, ds1, p1, q1, rfl, rfl, rfl, h1, r1⟩ := trodAll_cons r0
  obtain ⟨rfl, rfl, rfl⟩ := trodAll_nil r1
  obtain rfl : args = #[v0, v1] := by cases args; simp_all
  obtain ⟨rfl, rfl⟩ := trodVars_none hV
  obtain ⟨cs, rfl, hpl⟩ := open_plan (hval 0 53 v0 rfl rfl) h0
  obtain ⟨n1, rfl, rfl, rfl, w1⟩ := open_int Try.underlying3 (hval 1 3 v1 rfl rfl) h1
  clear hA0 hval0
  simp only [List.append_nil] at hW' hAk
  refine (turns_walk cs hpl n1 (bounds_i64 w1) W).mono fun e W' ⟨he, hg⟩ => ?_
  subst he
  exact lawPost hW' (by simpa using hAk) rfl (by kernel_rfl) rfl (of_decide_eq_true (by kernel_rfl)) hg

theorem turns_over : Rows.driftTurnsRow.holds Try.pinned (OpenSpec.ofChange Rows.driftTurnsSpec) :=
  OpenClaim.holds_of_wide 5 Try.f5 rfl rfl rfl rfl rfl rfl rfl ⟨rfl, rfl, rfl, rfl, rfl⟩ rfl rfl rfl rfl rfl (by kernel_rfl) Try.func5 (by kernel_rfl)
    (of_decide_eq_true (by kernel_rfl)) (by unfold Func.isWrapper; first | (rw [if_pos (by decide +kernel)]; kernel_rfl) | (rw [if_neg (by decide +kernel)]; exact ⟨rfl, rfl⟩))
    (fun os started H enc _ => turns_lifted os started H enc)

theorem driftTurns_holds : Rows.DriftTurnsSaid := turns_over
#print axioms driftTurns_holds
end Go.Proofs.Ytplcikgmefcfbaa
