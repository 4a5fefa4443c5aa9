/- Merged: DraftIn. -/
import Derived.Test.YtpeinobepiodaaaGreatDoorGQ
import Derived.Test.YtpeinobepiodaaaGreatDoorGV
/- A draft of a matrix that came in. -/
namespace Go.Proofs.YtpeinobepiodaaaGreatDoor
set_option linter.unusedVariables false
set_option linter.unusedSimpArgs false
open Go.ChangeShapes Go.WideShapes Go.ChangeAt Go.RowKit

/-- A cell that came in and holds a slice of int8. -/
theorem i8_cell {H : Type} {enc : TypeId × Value → H} {W : World} {base : Nat} {spare : Nat → Bool} {held : Bool} {c : Value} {x : DataW H × List MemPlace} {fuel : Nat} {t e : TypeId} {P : Program}
    (ht : P.underlying t = some (.slice e)) (he : P.underlying e = some (.int .i8)) (hc : P.cellsOf e = 1) (hsp : ∀ b, spare b = true)
    (hf : DataW.trod enc P W base spare held fuel t [c] = some x) : ∃ xs, I8s W c xs := by
  rcases open_ints ht he hc hf with ⟨hcs, hx⟩ | ⟨a, len0, cap0, zs, hcs, _, hl, hm, hz, hx, hcell, hwz⟩
  · obtain rfl : c = .slice none 0 0 := by simpa using hcs
    exact ⟨[], i8s_nil W⟩
  · obtain rfl : c = .slice (some a) len0 cap0 := by simpa using hcs
    rw [hsp, if_pos rfl] at hz
    have hlen : (zs.take len0).length = len0 := by rw [List.length_take]; omega
    refine ⟨zs.take len0, (zs.take len0).map fun x => [Value.int .i8 x], by simp, (by intro u hu; obtain ⟨x, _, rfl⟩ := List.mem_map.1 hu; rfl), ?_, ?_⟩
    · rw [flatten_one]
      refine ⟨some a, cap0, by rw [hlen], by rw [hlen]; exact hl, hm, (fun h => by cases h), fun hne => ?_⟩
      have hpos : 0 < len0 := by
        rcases Nat.eq_zero_or_pos len0 with h0 | h0
        · subst h0; simp at hne
        · exact h0
      have h0 := hcell 0 (by omega)
      have hs : a.spot = none := by
        cases hsp2 : a.spot with
        | none => rfl
        | some s =>
          have : W.cell? a = some (.int .i8 (zs.getD 0 0)) := by simpa [Addr.add] using h0
          unfold World.cell? at this
          rw [hsp2] at this
          split at this <;> simp at this
      refine ⟨a.block, a.off, by rw [← hs], lt_of_cell (by simpa [Addr.add] using h0), fun j u hu => ?_⟩
      rw [List.getElem?_map] at hu
      cases hj : (zs.take len0)[j]? with
      | none => simp [hj] at hu
      | some x =>
        simp [hj] at hu
        subst hu
        have hjl : j < len0 := by have := (List.getElem?_eq_some_iff.1 hj).1; omega
        have hc2 := hcell j (by omega)
        rw [List.getElem?_take, if_pos hjl] at hj
        rw [List.getD_eq_getElem?_getD, hj] at hc2
        unfold Addr.add at hc2
        by_cases hj0 : j = 0
        · subst hj0
          rw [if_pos rfl] at hc2
          have ha : a = ⟨a.block, a.off + 0, none⟩ := by cases a; simp only at hs; subst hs; rfl
          rw [ha] at hc2; exact hc2
        · rw [if_neg hj0] at hc2; exact hc2
    · intro j u x hu hx
      simp only [List.getElem?_map, hx, Option.map_some, Option.some.injEq] at hu
      refine ⟨hu.symm, ?_⟩
      have := hwz x (List.mem_of_mem_take (List.mem_of_getElem? hx))
      exact bounds_i8 this
theorem cellsU8 : Tryz.prog.cellsOf 5 = 1 := by kernel_rfl
theorem cellsI8s : Tryz.prog.cellsOf 47 = 1 := by kernel_rfl
theorem cellsDraft : Tryz.prog.cellsOf 49 = 3 := by kernel_rfl
set_option maxRecDepth 100000 in
/-- A draft that came in. -/
theorem open_draft {H : Type} {enc : TypeId × Value → H} {W : World} {r : Reach} {b0 base : Nat} {spare : Nat → Bool} {held : Bool} {v : Value} {d : DataW H} {ps : List MemPlace} (hsp : ∀ b, spare b = true)
    (hval : Value.okWide Tryz.prog W r b0 49 v) (hd : DataW.Trod enc Tryz.prog W base spare held 49 v d ps) :
    ∃ x0 x1 ve es, v = .agg #[.int .u8 x0, .int .u8 x1, ve] ∧ (0 ≤ x0 ∧ x0 ≤ 255) ∧ (0 ≤ x1 ∧ x1 ≤ 255) ∧ I8s W ve es := by
  obtain ⟨cs, rfl, hs⟩ := okWide_struct Tryz.underlying49 hval
  obtain ⟨fuel, hf⟩ := hd
  rw [cellsDraft] at hs
  obtain ⟨a, b, c, rfl⟩ : ∃ a b c, cs = #[a, b, c] := by
    match cs, hs with
    | ⟨[a, b, c]⟩, _ => exact ⟨a, b, c, rfl⟩
  obtain ⟨xs, n, -, -, hl, hlen, hall⟩ := DataW.trod_struct Tryz.underlying49 hf
  have h0 := hall 0 _ rfl
  have h1 := hall 1 _ rfl
  have h2 := hall 2 _ rfl
  have hx : xs.length = 3 := hlen
  rw [List.getElem?_eq_getElem (by omega)] at h0 h1 h2
  have k0 : DataW.trod enc Tryz.prog W base spare held n 5 [a] = some xs[0] := by
    rw [← h0]
    show _ = DataW.trod enc Tryz.prog W base spare held n 5 (([a, b, c].drop 0).take (Tryz.prog.cellsOf 5))
    rw [cellsU8]; rfl
  have k1 : DataW.trod enc Tryz.prog W base spare held n 5 [b] = some xs[1] := by
    rw [← h1]
    show _ = DataW.trod enc Tryz.prog W base spare held n 5 (([a, b, c].drop 1).take (Tryz.prog.cellsOf 5))
    rw [cellsU8]; rfl
  have k2 : DataW.trod enc Tryz.prog W base spare held n 47 [c] = some xs[2] := by
    rw [← h2]
    show _ = DataW.trod enc Tryz.prog W base spare held n 47 (([a, b, c].drop 2).take (Tryz.prog.cellsOf 47))
    rw [cellsI8s]; rfl
  obtain ⟨y0, e0, -, w0⟩ := DataW.trod_int Tryz.underlying5 k0
  obtain ⟨y1, e1, -, w1⟩ := DataW.trod_int Tryz.underlying5 k1
  obtain ⟨es, hes⟩ := i8_cell Tryz.underlying47 Tryz.underlying78 cellsInt8 hsp k2
  obtain rfl : a = .int .u8 y0 := by simpa using e0
  obtain rfl : b = .int .u8 y1 := by simpa using e1
  exact ⟨y0, y1, c, es, rfl, bounds_u8 w0, bounds_u8 w1, hes⟩
end Go.Proofs.YtpeinobepiodaaaGreatDoor
