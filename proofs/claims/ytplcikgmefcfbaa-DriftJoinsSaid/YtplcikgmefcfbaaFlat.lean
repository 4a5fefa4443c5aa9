/- A value of a type made of integers alone (structs and arrays of them): each cell is an integer of its kind. No program is named here. -/
import Derived.WalkKit
import Derived.ProofKit
import Derived.OpenShut
namespace Go.Proofs.Ytplcikgmefcfbaa
set_option linter.unusedVariables false
set_option linter.unusedSimpArgs false
open Go.ChangeShapes Go.WideShapes Go.ChangeAt Go.RowKit

/-- The kind of cell j of a type: an integer kind. -/
def cellKind (P : Program) : Nat → TypeId → Nat → Option IntKind
  | 0, _, _ => none
  | fuel + 1, t, j => match P.underlying t with
    | some (.int k) => if j = 0 then some k else none
    | some (.struct fs) => (fs.toList.find? fun f => decide (f.offset ≤ j) && decide (j < f.offset + P.cellsOf f.type)).bind fun f => cellKind P fuel f.type (j - f.offset)
    | some (.array n e) => if j / P.cellsOf e < n then cellKind P fuel e (j % P.cellsOf e) else none
    | _ => none

theorem flat_cells {H : Type} {enc : TypeId × Value → H} {P : Program} {w : World} {base : Nat} {spare : Nat → Bool} {held : Bool} : ∀ (fuel : Nat) (t : TypeId) (j : Nat) (k : IntKind) (m : Nat) (cs : List Value) (x : DataW H × List MemPlace),
    cellKind P fuel t j = some k → DataW.trod enc P w base spare held m t cs = some x → ∃ n, cs[j]? = some (.int k n) ∧ (Lit.int k n).wf = true
  | 0, _, _, _, _, _, _, h, _ => by simp [cellKind] at h
  | fuel + 1, t, j, k, m, cs, x, h, hx => by
    unfold cellKind at h
    split at h
    · rename_i k' ht
      split at h
      · rename_i hj
        simp at h; subst h; subst hj
        obtain ⟨n, rfl, _, hw⟩ := DataW.trod_int ht hx
        exact ⟨n, rfl, hw⟩
      · simp at h
    · rename_i fs ht
      obtain ⟨f, hf, hk⟩ := Option.bind_eq_some_iff.1 h
      have hp := List.find?_some hf
      simp only [Bool.and_eq_true, decide_eq_true_eq] at hp
      obtain ⟨i, hi⟩ := List.getElem?_of_mem (List.mem_of_find?_eq_some hf)
      obtain ⟨xs, n, rfl, _, _, hl, hall⟩ := DataW.trod_struct ht hx
      have hi' : fs[i]? = some f := by simpa using hi
      have hr := hall i f hi'
      have hlt : i < xs.length := by rw [hl]; exact (Array.getElem?_eq_some_iff.1 hi').1
      rw [List.getElem?_eq_getElem hlt] at hr
      obtain ⟨n', hc, hw⟩ := flat_cells fuel f.type (j - f.offset) k n _ _ hk hr
      refine ⟨n', ?_, hw⟩
      rw [List.getElem?_take, if_pos (by omega), List.getElem?_drop] at hc
      rwa [show f.offset + (j - f.offset) = j by omega] at hc
    · rename_i n e ht
      split at h
      · rename_i hj
        obtain ⟨xs, q, rfl, _, _, hl, hall⟩ := DataW.trod_array ht hx
        have hr := hall (j / P.cellsOf e) hj
        have hlt : j / P.cellsOf e < xs.length := by omega
        rw [List.getElem?_eq_getElem hlt] at hr
        obtain ⟨n', hc, hw⟩ := flat_cells fuel e (j % P.cellsOf e) k q _ _ h hr
        refine ⟨n', ?_, hw⟩
        have hlt2 : j % P.cellsOf e < P.cellsOf e := by
          by_cases h0 : P.cellsOf e = 0
          · rw [h0] at hc
            simp at hc
          · exact Nat.mod_lt _ (by omega)
        rw [List.getElem?_take, if_pos hlt2, List.getElem?_drop] at hc
        rwa [show j / P.cellsOf e * P.cellsOf e + j % P.cellsOf e = j by rw [Nat.mul_comm]; exact Nat.div_add_mod _ _] at hc
      · simp at h
    · simp at h

end Go.Proofs.Ytplcikgmefcfbaa
