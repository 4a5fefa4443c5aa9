/- DriftFollows holds: for any plan it returns true, and its argument reads as it did. No condition. -/
import Derived.Test.YtplcikgmefcfbaaDriftFollows
import Derived.Test.YtplcikgmefcfbaaLawPost
namespace Go.Proofs.Ytplcikgmefcfbaa
set_option linter.unusedVariables false
open Go.ChangeShapes Go.WideShapes Go.ChangeAt Go.RowKit

theorem range_kinds {n : Nat} {f : Nat → Option IntKind} {m : List IntKind} (h : (List.range n).map f = m.map some) (j : Nat) (k : IntKind) (hk : m[j]? = some k) : f j = some k := by
  have hl : n = m.length := by have := congrArg List.length h; simpa using this
  have hj : j < n := by rw [hl]; exact (List.getElem?_eq_some_iff.1 hk).1
  have e := congrArg (fun l => l[j]?) h
  simp only [List.getElem?_map, List.getElem?_range hj, hk, Option.map_some, Option.some.injEq] at e
  exact e

set_option maxRecDepth 100000 in
/-- A plan that came in. -/
theorem open_plan {H : Type} {enc : TypeId × Value → H} {W : World} {r : Reach} {b0 base : Nat} {spare : Nat → Bool} {held : Bool} {v : Value} {d : DataW H} {ps : List MemPlace}
    (hval : Value.okWide Try.prog W r b0 53 v) (hd : DataW.Trod enc Try.prog W base spare held 53 v d ps) : ∃ cs, v = .agg cs ∧ PlanAt cs := by
  obtain ⟨cs, rfl, hs⟩ := okWide_struct Try.underlying53 hval
  obtain ⟨fuel, hf⟩ := hd
  refine ⟨cs, rfl, hs.trans planCells, fun j k hk => ?_⟩
  obtain ⟨n, h1, h2⟩ := flat_cells _ _ _ _ _ _ _ (range_kinds planKinds_eq j k hk) hf
  exact ⟨n, (Array.getElem?_toList (xs := cs) (i := j)).symm.trans h1, h2⟩

set_option maxRecDepth 100000 in
theorem follows_lifted (os : Os) (started : os.Started) (H : Type) (enc : TypeId × Value → H) :
    ReturnsInHanded {} Try.checked os 4 .any (Rows.driftFollowsSpec.pre6 enc Try.prog Try.f4 Rows.driftFollowsRow.domain false) (Rows.driftFollowsSpec.post enc Try.prog Try.f4 false true false false) := by
  refine returnsInHanded_of_change (C := Try.checked) lawOwn started (by kernel_rfl) Try.func4
    (ChangeSpec.witness6 (enc := enc) (C := Try.checked) false ⟨#[], #[.agg (planKinds.map fun k => Value.int k 0).toArray], []⟩ 8 (by kernel_rfl) (by kernel_rfl) (by kernel_rfl) (by kernel_rfl)) ?_
  intro W base args ds gs before hval0 hW hcnd _
  have hval : ∀ (j : Nat) t v, Try.f4.params[j]? = some t → args[j]? = some v → Value.okWide Try.prog W .any base t v := hval0
  have hW' := hW
  obtain ⟨p, q, hA0, hV, rfl, hfz, hnd⟩ := hW
  have hA : DataW.TrodAll enc Try.prog W 0 (fun _ => true) true Try.f4.params.toList args.toList ds p := hA0
  have hAk := hA
  rw [Try.params4] at hA hval
  obtain ⟨v0, vs0, d0, ds0, p0, q0, hargs, rfl, rfl, h0, r0⟩ := trodAll_cons hA
  obtain ⟨rfl, rfl, rfl⟩ := trodAll_nil r0
  obtain rfl : args = #[v0] := by cases args; simp_all
  obtain ⟨rfl, rfl⟩ := trodVars_none hV
  obtain ⟨cs, rfl, hpl⟩ := open_plan (hval 0 53 v0 rfl rfl) h0
  clear hA0 hval0
  simp only [List.append_nil] at hW' hAk
  refine (follows_walk cs hpl W).mono fun e W' ⟨he, hg⟩ => ?_
  subst he
  exact lawPost hW' (by simpa using hAk) rfl (by kernel_rfl) rfl (of_decide_eq_true (by kernel_rfl)) hg

theorem follows_over : Rows.driftFollowsRow.holds Try.pinned (OpenSpec.ofChange Rows.driftFollowsSpec) :=
  OpenClaim.holds_of_wide 4 Try.f4 rfl rfl rfl rfl rfl rfl rfl ⟨rfl, rfl, rfl, rfl, rfl⟩ rfl rfl rfl rfl rfl (by kernel_rfl) Try.func4 (by kernel_rfl)
    (of_decide_eq_true (by kernel_rfl)) (by unfold Func.isWrapper; first | (rw [if_pos (by decide +kernel)]; kernel_rfl) | (rw [if_neg (by decide +kernel)]; exact ⟨rfl, rfl⟩))
    (fun os started H enc _ => follows_lifted os started H enc)

theorem driftFollows_holds : Rows.DriftFollowsSaid := follows_over
#print axioms driftFollows_holds
end Go.Proofs.Ytplcikgmefcfbaa
