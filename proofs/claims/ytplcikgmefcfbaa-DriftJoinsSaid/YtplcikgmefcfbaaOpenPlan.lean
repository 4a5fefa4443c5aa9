/- A plan that came in: its cells. -/
import Derived.Test.YtplcikgmefcfbaaMake51
import Derived.Test.YtplcikgmefcfbaaFlat
import Derived.Test.YtplcikgmefcfbaaLawPost
namespace Go.Proofs.Ytplcikgmefcfbaa
set_option linter.unusedVariables false
open Go.ChangeShapes Go.WideShapes Go.ChangeAt Go.RowKit

theorem range_kinds {n : Nat} {f : Nat → Option IntKind} {m : List IntKind} (h : (List.range n).map f = m.map some) (j : Nat) (k : IntKind) (hk : m[j]? = some k) : f j = some k := by
  have hl : n = m.length := by have := congrArg List.length h; simpa using this
  have hj : j < n := by rw [hl]; exact (List.getElem?_eq_some_iff.1 hk).1
  have e := congrArg (fun l => l[j]?) h
  simp only [List.getElem?_map, List.getElem?_range hj, hk, Option.map_some, Option.some.injEq] at e
  exact e

set_option maxRecDepth 100000 in
/-- A plan that came in. -/
theorem open_plan {H : Type} {enc : TypeId × Value → H} {W : World} {r : Reach} {b0 base : Nat} {spare : Nat → Bool} {held : Bool} {v : Value} {d : DataW H} {ps : List MemPlace}
    (hval : Value.okWide Try.prog W r b0 53 v) (hd : DataW.Trod enc Try.prog W base spare held 53 v d ps) : ∃ cs, v = .agg cs ∧ PlanAt cs := by
  obtain ⟨cs, rfl, hs⟩ := okWide_struct Try.underlying53 hval
  obtain ⟨fuel, hf⟩ := hd
  refine ⟨cs, rfl, hs.trans planCells, fun j k hk => ?_⟩
  obtain ⟨n, h1, h2⟩ := flat_cells _ _ _ _ _ _ _ (range_kinds planKinds_eq j k hk) hf
  exact ⟨n, (Array.getElem?_toList (xs := cs) (i := j)).symm.trans h1, h2⟩

end Go.Proofs.Ytplcikgmefcfbaa
