/- Arguments that came in: slices of integers. -/
import Derived.Test.YtobgghjmclagaaaDoorBase
import Derived.Test.YtobgghjmclagaaaDoorLawPost
import Derived.ChangeSlices
namespace Go.Proofs.YtobgghjmclagaaaDoor
set_option linter.unusedVariables false
set_option linter.unusedSimpArgs false
open Go.ChangeShapes Go.WideShapes Go.ChangeAt Go.RowKit

theorem ints_nil (W : World) : Ints W (.slice none 0 0) [] :=
  ⟨[], rfl, by simp, ⟨none, 0, rfl, Nat.le_refl _, Nat.zero_le _, fun _ => rfl, fun h => absurd rfl h⟩, by simp⟩

/-- A slice of ints that came in. -/
theorem ints_in {H : Type} {enc : TypeId × Value → H} {W : World} {r : Reach} {b0 base : Nat} {spare : Nat → Bool} {held : Bool} {v : Value} {d : DataW H} {ps : List MemPlace} {t e : TypeId} {P : Program}
    (ht : P.underlying t = some (.slice e)) (he : P.underlying e = some (.int .i64)) (hc : P.cellsOf e = 1) (hsp : ∀ b, spare b = true)
    (hval : Value.okWide P W r b0 t v) (hd : DataW.Trod enc P W base spare held t v d ps) : ∃ xs, Ints W v xs := by
  obtain ⟨fuel, hf⟩ := hd
  obtain ⟨a0, len0, cap0, rfl⟩ := okWide_slice ht hval
  rcases open_ints ht he hc hf with ⟨hcs, hx⟩ | ⟨a, len, cap, zs, hcs, _, hl, hm, hz, hx, hcell, hwz⟩
  · simp [Value.cells] at hcs
    obtain ⟨rfl, rfl, rfl⟩ := hcs
    exact ⟨[], ints_nil W⟩
  · simp [Value.cells] at hcs
    obtain ⟨rfl, rfl, rfl⟩ := hcs
    rw [hsp, if_pos rfl] at hz
    have hlen : (zs.take len0).length = len0 := by rw [List.length_take]; omega
    refine ⟨zs.take len0, (zs.take len0).map fun x => [Value.int .i64 x], by simp, (by intro u hu; obtain ⟨x, _, rfl⟩ := List.mem_map.1 hu; rfl), ?_, ?_⟩
    · rw [flatten_one]
      refine ⟨some a, cap0, by rw [hlen], by rw [hlen]; exact hl, hm, (fun h => by cases h), fun hne => ?_⟩
      have hpos : 0 < len0 := by
        rcases Nat.eq_zero_or_pos len0 with h0 | h0
        · subst h0; simp at hne
        · exact h0
      have h0 := hcell 0 (by omega)
      have hs : a.spot = none := by
        cases hsp2 : a.spot with
        | none => rfl
        | some s =>
          have : W.cell? a = some (.int .i64 (zs.getD 0 0)) := by simpa [Addr.add] using h0
          unfold World.cell? at this
          rw [hsp2] at this
          split at this <;> simp at this
      refine ⟨a.block, a.off, by rw [← hs], lt_of_cell (by simpa [Addr.add] using h0), fun j u hu => ?_⟩
      rw [List.getElem?_map] at hu
      cases hj : (zs.take len0)[j]? with
      | none => simp [hj] at hu
      | some x =>
        simp [hj] at hu
        subst hu
        have hjl : j < len0 := by have := (List.getElem?_eq_some_iff.1 hj).1; omega
        have hc2 := hcell j (by omega)
        rw [List.getElem?_take, if_pos hjl] at hj
        rw [List.getD_eq_getElem?_getD, hj] at hc2
        unfold Addr.add at hc2
        by_cases hj0 : j = 0
        · subst hj0
          rw [if_pos rfl] at hc2
          have ha : a = ⟨a.block, a.off + 0, none⟩ := by cases a; simp only at hs; subst hs; rfl
          rw [ha] at hc2; exact hc2
        · rw [if_neg hj0] at hc2; exact hc2
    · intro j u x hu hx
      simp only [List.getElem?_map, hx, Option.map_some, Option.some.injEq] at hu
      refine ⟨hu.symm, ?_⟩
      have := hwz x (List.mem_of_mem_take (List.mem_of_getElem? hx))
      exact bounds_i64 this
end Go.Proofs.YtobgghjmclagaaaDoor
