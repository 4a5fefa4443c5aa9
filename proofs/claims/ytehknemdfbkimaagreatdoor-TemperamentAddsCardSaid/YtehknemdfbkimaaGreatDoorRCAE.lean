/- Merged: Flat, Two4In. -/
import Derived.WalkKit
import Derived.ProofKit
import Derived.OpenShut
import Derived.Test.YtehknemdfbkimaaGreatDoorQBK
import Derived.Laws.IdiomArrays
/- A value of a type made of integers alone (structs and arrays of them): each cell is an integer of its kind. No program is named here. -/
namespace Go.Proofs.YtehknemdfbkimaaGreatDoor
set_option linter.unusedVariables false
set_option linter.unusedSimpArgs false
open Go.ChangeShapes Go.WideShapes Go.ChangeAt Go.RowKit

/-- The kind of cell j of a type: an integer kind. -/
def cellKind (P : Program) : Nat → TypeId → Nat → Option IntKind
  | 0, _, _ => none
  | fuel + 1, t, j => match P.underlying t with
    | some (.int k) => if j = 0 then some k else none
    | some (.struct fs) => (fs.toList.find? fun f => decide (f.offset ≤ j) && decide (j < f.offset + P.cellsOf f.type)).bind fun f => cellKind P fuel f.type (j - f.offset)
    | some (.array n e) => if j / P.cellsOf e < n then cellKind P fuel e (j % P.cellsOf e) else none
    | _ => none

theorem flat_cells {H : Type} {enc : TypeId × Value → H} {P : Program} {w : World} {base : Nat} {spare : Nat → Bool} {held : Bool} : ∀ (fuel : Nat) (t : TypeId) (j : Nat) (k : IntKind) (m : Nat) (cs : List Value) (x : DataW H × List MemPlace),
    cellKind P fuel t j = some k → DataW.trod enc P w base spare held m t cs = some x → ∃ n, cs[j]? = some (.int k n) ∧ (Lit.int k n).wf = true
  | 0, _, _, _, _, _, _, h, _ => by simp [cellKind] at h
  | fuel + 1, t, j, k, m, cs, x, h, hx => by
    unfold cellKind at h
    split at h
    · rename_i k' ht
      split at h
      · rename_i hj
        simp at h; subst h; subst hj
        obtain ⟨n, rfl, _, hw⟩ := DataW.trod_int ht hx
        exact ⟨n, rfl, hw⟩
      · simp at h
    · rename_i fs ht
      obtain ⟨f, hf, hk⟩ := Option.bind_eq_some_iff.1 h
      have hp := List.find?_some hf
      simp only [Bool.and_eq_true, decide_eq_true_eq] at hp
      obtain ⟨i, hi⟩ := List.getElem?_of_mem (List.mem_of_find?_eq_some hf)
      obtain ⟨xs, n, rfl, _, _, hl, hall⟩ := DataW.trod_struct ht hx
      have hi' : fs[i]? = some f := by simpa using hi
      have hr := hall i f hi'
      have hlt : i < xs.length := by rw [hl]; exact (Array.getElem?_eq_some_iff.1 hi').1
      rw [List.getElem?_eq_getElem hlt] at hr
      obtain ⟨n', hc, hw⟩ := flat_cells fuel f.type (j - f.offset) k n _ _ hk hr
      refine ⟨n', ?_, hw⟩
      rw [List.getElem?_take, if_pos (by omega), List.getElem?_drop] at hc
      rwa [show f.offset + (j - f.offset) = j by omega] at hc
    · rename_i n e ht
      split at h
      · rename_i hj
        obtain ⟨xs, q, rfl, _, _, hl, hall⟩ := DataW.trod_array ht hx
        have hr := hall (j / P.cellsOf e) hj
        have hlt : j / P.cellsOf e < xs.length := by omega
        rw [List.getElem?_eq_getElem hlt] at hr
        obtain ⟨n', hc, hw⟩ := flat_cells fuel e (j % P.cellsOf e) k q _ _ h hr
        refine ⟨n', ?_, hw⟩
        have hlt2 : j % P.cellsOf e < P.cellsOf e := by
          by_cases h0 : P.cellsOf e = 0
          · rw [h0] at hc
            simp at hc
          · exact Nat.mod_lt _ (by omega)
        rw [List.getElem?_take, if_pos hlt2, List.getElem?_drop] at hc
        rwa [show j / P.cellsOf e * P.cellsOf e + j % P.cellsOf e = j by rw [Nat.mul_comm]; exact Nat.div_add_mod _ _] at hc
      · simp at h
    · simp at h

end Go.Proofs.YtehknemdfbkimaaGreatDoor
/- Two arrays of four int8 that came in. -/
namespace Go.Proofs.YtehknemdfbkimaaGreatDoor
set_option linter.unusedVariables false
set_option linter.unusedSimpArgs false
open Go.ChangeShapes Go.WideShapes Go.ChangeAt Go.RowKit

theorem cellsTwo4 : Tryz.prog.cellsOf 98 = 8 := by kernel_rfl
theorem kindsTwo4_eq : (List.range 8).map (cellKind Tryz.prog 5 98) = (List.replicate 8 IntKind.i8).map some := by kernel_rfl
theorem kindsTwo4 (j : Nat) (hj : j < 8) : cellKind Tryz.prog 5 98 j = some .i8 := by
  have e := congrArg (fun l => l[j]?) kindsTwo4_eq
  simp only [List.getElem?_map, List.getElem?_range hj, List.getElem?_replicate, if_pos hj, Option.map_some, Option.some.injEq] at e
  exact e
set_option maxRecDepth 100000 in
theorem open_two4 {H : Type} {enc : TypeId × Value → H} {W : World} {r : Reach} {b0 base : Nat} {spare : Nat → Bool} {held : Bool} {v : Value} {d : DataW H} {ps : List MemPlace}
    (hval : Value.okWide Tryz.prog W r b0 98 v) (hd : DataW.Trod enc Tryz.prog W base spare held 98 v d ps) :
    ∃ x : List Int, v = .agg (x.map (Value.int .i8)).toArray ∧ x.length = 8 ∧ ∀ a ∈ x, -128 ≤ a ∧ a ≤ 127 := by
  obtain ⟨cs, rfl, hs⟩ : ∃ cs, v = .agg cs ∧ cs.size = Tryz.prog.cellsOf 98 := by
    simp only [Value.okWide, Tryz.underlying98] at hval
    obtain ⟨cs, h1, h2, _⟩ := hval
    exact ⟨cs, h1, h2⟩
  rw [cellsTwo4] at hs
  obtain ⟨fuel, hf⟩ := hd
  have hj : ∀ j, j < 8 → ∃ n, cs.toList[j]? = some (.int .i8 n) ∧ (-128 ≤ n ∧ n ≤ 127) := fun j hj => by
    obtain ⟨n, h1, h2⟩ := flat_cells 5 _ j _ _ _ _ (kindsTwo4 j hj) hf
    exact ⟨n, h1, bounds_i8 h2⟩
  have hl : cs.toList.length = 8 := by simpa using hs
  have key : ∀ k, k ≤ 8 → ∃ x : List Int, cs.toList.take k = x.map (Value.int .i8) ∧ x.length = k ∧ ∀ a ∈ x, -128 ≤ a ∧ a ≤ 127 := by
    intro k
    induction k with
    | zero => intro _; exact ⟨[], by simp, rfl, by simp⟩
    | succ k ih =>
      intro hk
      obtain ⟨x, h1, h2, h3⟩ := ih (by omega)
      obtain ⟨n, h4, h5⟩ := hj k (by omega)
      refine ⟨x ++ [n], by rw [List.take_add_one, h1, h4, List.map_append]; rfl, by rw [List.length_append, h2]; rfl, fun a ha => ?_⟩
      rcases List.mem_append.1 ha with ha | ha
      · exact h3 a ha
      · obtain rfl : a = n := by simpa using ha
        exact h5
  obtain ⟨x, h1, h2, h3⟩ := key 8 (Nat.le_refl _)
  rw [List.take_of_length_le (by omega)] at h1
  exact ⟨x, by rw [← h1], h2, h3⟩
end Go.Proofs.YtehknemdfbkimaaGreatDoor
