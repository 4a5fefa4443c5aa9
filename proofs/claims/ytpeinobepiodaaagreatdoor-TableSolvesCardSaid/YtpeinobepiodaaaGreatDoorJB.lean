/- Merged: NumsR. -/
import Derived.Test.YtpeinobepiodaaaGreatDoorJA
import Derived.Test.YtpeinobepiodaaaGreatDoorIE
import Derived.Test.YtpeinobepiodaaaGreatDoorGG
/- Matrices of integers of any size that are only read; the elimination's numbers as quotients. -/
namespace Go.Proofs.YtpeinobepiodaaaGreatDoor
set_option linter.unusedVariables false
set_option linter.unusedSimpArgs false
open Go.RowKit

abbrev numsR : World → List Value → List Int → Prop := inCell (ListAt 1 numC)
theorem numsR.mono : Mono numsR := inCell.mono fun _ _ _ _ he h => ListAt.ext numC.mono h he
abbrev Nums2 (w : World) (v : Value) (m : List (List Int)) : Prop := ListAt 1 numsR w v m
theorem Nums2.ext {w w' : World} {v : Value} {m : List (List Int)} (h : Nums2 w v m) (he : Ext w w') : Nums2 w' v m := ListAt.ext numsR.mono h he
theorem RowN.nums {w : World} {g c : Nat} {l : List Int} (h : RowN w g l) (h1 : l.length ≤ c) (h2 : c ≤ 9223372036854775807) : ListAt 1 numC w (.slice (some ⟨g, 0, none⟩) l.length c) l := by
  refine ⟨l.map fun n => [Value.string (intB n)], by simp, by simp, ⟨_, c, rfl, h1, by unfold maxLen; omega, fun e => by simp at e, fun _ => ⟨g, 0, rfl, h.lt, fun j u hu => ?_⟩⟩, fun j u x hu hx => ?_⟩
  · rw [flatten_one (fun n => Value.string (intB n)), List.getElem?_map] at hu
    cases hx : l[j]? with
    | none => rw [hx] at hu; cases hu
    | some x =>
      rw [hx] at hu
      simp only [Option.map_some, Option.some.injEq] at hu
      rw [Nat.zero_add, ← hu]
      exact h.cell j x hx
  · rw [List.getElem?_map, hx] at hu
    exact (Option.some.inj hu).symm
theorem MatN.nums2 {w : World} {g cap : Nat} {tags : List (Nat × Nat)} {m : List (List Int)} (h : MatN w g tags m) (h1 : m.length ≤ cap) (h2 : cap ≤ 9223372036854775807) : Nums2 w (.slice (some ⟨g, 0, none⟩) m.length cap) m := by
  have hl := tagQs_len (m := m) h.len
  have hget : ∀ (j : Nat) x, m[j]? = some x → ∃ t, tags[j]? = some t ∧ (tagQs tags m)[j]? = some (tagQ t x.length) := fun j x hx => by
    have hj : j < tags.length := by rw [h.len]; exact (List.getElem?_eq_some_iff.1 hx).1
    have ht : tags[j]? = some tags[j] := List.getElem?_eq_getElem hj
    exact ⟨_, ht, by unfold tagQs; rw [List.getElem?_zipWith, ht, hx]⟩
  refine ⟨(tagQs tags m).map fun u => [u], by simp [hl], by simp, ⟨_, cap, rfl, h1, by unfold maxLen; omega, fun e => by simp at e, fun _ => ⟨g, 0, rfl, h.lt, fun j u hu => ?_⟩⟩, fun j u x hu hx => ?_⟩
  · rw [flatten_one (fun u : Value => u), List.map_id'] at hu
    have hj : j < m.length := by rw [← hl]; exact (List.getElem?_eq_some_iff.1 hu).1
    obtain ⟨t, ht, e⟩ := hget j m[j] (List.getElem?_eq_getElem hj)
    rw [e] at hu
    cases hu
    rw [Nat.zero_add]
    exact (h.row j t _ ht (List.getElem?_eq_getElem hj)).1
  · obtain ⟨t, ht, e⟩ := hget j x hx
    rw [List.getElem?_map, e] at hu
    simp only [Option.map_some, Option.some.injEq] at hu
    obtain ⟨-, k2, k3, k4⟩ := h.row j t x ht hx
    exact ⟨_, hu.symm, RowN.nums k4 k2 k3⟩

theorem barI_div {C c : Nat} {m : List (List Int)} {E : ElS} {S : RedSt} (h : BarI C c m E S) (i j : Nat) : ((elI E.m i j : Int) : Rat) / (E.last : Rat) = elQ S.m i j := by
  have h2 : (E.last : Rat) ≠ 0 := by
    intro h0
    have : E.last = 0 := by exact_mod_cast h0
    exact h.ne this
  rw [h.el i j, Rat.div_def, Rat.mul_comm (E.last : Rat), Rat.mul_assoc, Rat.mul_inv_cancel _ h2, Rat.mul_one]
end Go.Proofs.YtpeinobepiodaaaGreatDoor
