/- DriftJoins holds: for any two plans and either value of alike it returns true, and its arguments read as they did. No condition. -/
import Derived.Test.YtplcikgmefcfbaaDriftJoins
import Derived.Test.YtplcikgmefcfbaaOpenPlan
namespace Go.Proofs.Ytplcikgmefcfbaa
set_option linter.unusedVariables false
open Go.ChangeShapes Go.WideShapes Go.ChangeAt Go.RowKit

set_option maxRecDepth 100000 in
theorem joins_lifted (os : Os) (started : os.Started) (H : Type) (enc : TypeId × Value → H) :
    ReturnsInHanded {} Try.checked os 6 .any (Rows.driftJoinsSpec.pre6 enc Try.prog Try.f6 Rows.driftJoinsRow.domain false) (Rows.driftJoinsSpec.post enc Try.prog Try.f6 false true false false) := by
  refine returnsInHanded_of_change (C := Try.checked) lawOwn started (by kernel_rfl) Try.func6
    (ChangeSpec.witness6 (enc := enc) (C := Try.checked) false ⟨#[], #[.agg (planKinds.map fun k => Value.int k 0).toArray, .agg (planKinds.map fun k => Value.int k 0).toArray, .bool false], []⟩ 8 (by kernel_rfl) (by kernel_rfl) (by kernel_rfl) (by kernel_rfl)) ?_
  intro W base args ds gs before hval0 hW hcnd _
  have hval : ∀ (j : Nat) t v, Try.f6.params[j]? = some t → args[j]? = some v → Value.okWide Try.prog W .any base t v := hval0
  have hW' := hW
  obtain ⟨p, q, hA0, hV, rfl, hfz, hnd⟩ := hW
  have hA : DataW.TrodAll enc Try.prog W 0 (fun _ => true) true Try.f6.params.toList args.toList ds p := hA0
  have hAk := hA
  rw [Try.params6] at hA hval
  obtain ⟨v0, vs0, d0, ds0, p0, q0, hargs, rfl, rfl, h0, r0⟩ := trodAll_cons hA
  obtain ⟨v1, vs1, d1, ds1, p1, q1, rfl, rfl, rfl, h1, r1⟩ := trodAll_cons r0
  obtain ⟨v2, vs2, d2, ds2, p2, q2, rfl, rfl, rfl, h2, r2⟩ := trodAll_cons r1
  obtain ⟨rfl, rfl, rfl⟩ := trodAll_nil r2
  obtain rfl : args = #[v0, v1, v2] := by cases args; simp_all
  obtain ⟨rfl, rfl⟩ := trodVars_none hV
  obtain ⟨cs, rfl, hpl⟩ := open_plan (hval 0 53 v0 rfl rfl) h0
  obtain ⟨cs', rfl, hpl'⟩ := open_plan (hval 1 53 v1 rfl rfl) h1
  obtain ⟨b2, rfl, rfl, rfl⟩ := open_bool Try.underlying4 (hval 2 4 v2 rfl rfl) h2
  clear hA0 hval0
  simp only [List.append_nil] at hW' hAk
  refine (joins_walk cs cs' hpl hpl' b2 W).mono fun e W' ⟨he, hg⟩ => ?_
  subst he
  exact lawPost hW' (by simpa using hAk) rfl (by kernel_rfl) rfl (of_decide_eq_true (by kernel_rfl)) hg

theorem joins_over : Rows.driftJoinsRow.holds Try.pinned (OpenSpec.ofChange Rows.driftJoinsSpec) :=
  OpenClaim.holds_of_wide 6 Try.f6 rfl rfl rfl rfl rfl rfl rfl ⟨rfl, rfl, rfl, rfl, rfl⟩ rfl rfl rfl rfl rfl (by kernel_rfl) Try.func6 (by kernel_rfl)
    (of_decide_eq_true (by kernel_rfl)) (by unfold Func.isWrapper; first | (rw [if_pos (by decide +kernel)]; kernel_rfl) | (rw [if_neg (by decide +kernel)]; exact ⟨rfl, rfl⟩))
    (fun os started H enc _ => joins_lifted os started H enc)

theorem driftJoins_holds : Rows.DriftJoinsSaid := joins_over
#print axioms driftJoins_holds
end Go.Proofs.Ytplcikgmefcfbaa
