/- Merged: TabLib, MatIn. -/
import Derived.Test.YtpeinobepiodaaaGreatDoorGP
import Derived.Test.YtpeinobepiodaaaGreatDoorGU
import Derived.ChangeSlices
import Derived.Deep.Slices
/- What the laid variables give a walk of chapter 06 that reads numbers of any size: LibT. -/
namespace Go.Proofs.YtpeinobepiodaaaGreatDoor
set_option linter.unusedVariables false
set_option linter.unusedSimpArgs false
open Go.ChangeShapes Go.WideShapes Go.ChangeAt Go.RowKit

theorem errRow (u : TypeId) (h : Tryz.prog.typeName? 3 u = some "*errors.errorString") : u = 206 :=
  typeName_ptr_named (nm := "errors.errorString") (by rw [show "*" ++ "errors.errorString" = "*errors.errorString" by decide]; kernel_rfl) (by kernel_rfl) (by decide) u (by rw [show "*" ++ "errors.errorString" = "*errors.errorString" by decide]; exact h)
theorem libT_of {W : World} (h : laidMetH Tryz.prog Rows.tableIdentitiesRow.laid W) : LibT W := by
  have hp := pow10_of_laid h
  rw [MakeChecks.laidMetH_plain _ _ _ (by kernel_rfl)] at h
  have h2 := laidMet.tail (laidMet.tail h)
  refine ⟨hp, ?_⟩
  have h4 := laidMet.tail h2
  obtain ⟨a, s, hv, -⟩ := laid_sentinel (g := 1) (ti := 144) (tp := 206) (te := 208) (ts := 9) (ms := _) (f := _) h4 (by kernel_rfl) (by kernel_rfl) Tryz.underlying144 errRow Tryz.underlying206 Tryz.underlying208 rfl rfl Tryz.underlying9 (by kernel_rfl) (by kernel_rfl)
  have hc := World.var?_cell (show Tryz.prog.globalNamed "strconv.ErrRange" = some 1 by kernel_rfl) hv 0
  exact ⟨_, _, by simpa using hc⟩
end Go.Proofs.YtpeinobepiodaaaGreatDoor
/- A matrix that came in (cuts without package row). -/
namespace Go.Proofs.YtpeinobepiodaaaGreatDoor
set_option linter.unusedVariables false
set_option linter.unusedSimpArgs false
open Go.ChangeShapes Go.WideShapes Go.ChangeAt Go.RowKit

theorem rows_nil (w : World) : Rows2 w (.slice none 0 0) [] := ⟨[], rfl, by simp, ⟨none, 0, rfl, Nat.le_refl _, by unfold maxLen; omega, fun _ => rfl, fun h => absurd rfl h⟩, by simp⟩
theorem cellsRow : Tryz.prog.cellsOf 51 = 1 := by kernel_rfl

/-- A cell that came in and holds a slice of ints. -/
theorem ints_cell {H : Type} {enc : TypeId × Value → H} {W : World} {base : Nat} {spare : Nat → Bool} {held : Bool} {c : Value} {x : DataW H × List MemPlace} {fuel : Nat} {t e : TypeId} {P : Program}
    (ht : P.underlying t = some (.slice e)) (he : P.underlying e = some (.int .i64)) (hc : P.cellsOf e = 1) (hsp : ∀ b, spare b = true)
    (hf : DataW.trod enc P W base spare held fuel t [c] = some x) : ∃ xs, Ints W c xs := by
  rcases open_ints ht he hc hf with ⟨hcs, hx⟩ | ⟨a, len0, cap0, zs, hcs, _, hl, hm, hz, hx, hcell, hwz⟩
  · obtain rfl : c = .slice none 0 0 := by simpa using hcs
    exact ⟨[], ints_nil W⟩
  · obtain rfl : c = .slice (some a) len0 cap0 := by simpa using hcs
    rw [hsp, if_pos rfl] at hz
    have hlen : (zs.take len0).length = len0 := by rw [List.length_take]; omega
    refine ⟨zs.take len0, (zs.take len0).map fun x => [Value.int .i64 x], by simp, (by intro u hu; obtain ⟨x, _, rfl⟩ := List.mem_map.1 hu; rfl), ?_, ?_⟩
    · rw [flatten_one]
      refine ⟨some a, cap0, by rw [hlen], by rw [hlen]; exact hl, hm, (fun h => by cases h), fun hne => ?_⟩
      have hpos : 0 < len0 := by
        rcases Nat.eq_zero_or_pos len0 with h0 | h0
        · subst h0; simp at hne
        · exact h0
      have h0 := hcell 0 (by omega)
      have hs : a.spot = none := by
        cases hsp2 : a.spot with
        | none => rfl
        | some s =>
          have : W.cell? a = some (.int .i64 (zs.getD 0 0)) := by simpa [Addr.add] using h0
          unfold World.cell? at this
          rw [hsp2] at this
          split at this <;> simp at this
      refine ⟨a.block, a.off, by rw [← hs], lt_of_cell (by simpa [Addr.add] using h0), fun j u hu => ?_⟩
      rw [List.getElem?_map] at hu
      cases hj : (zs.take len0)[j]? with
      | none => simp [hj] at hu
      | some x =>
        simp [hj] at hu
        subst hu
        have hjl : j < len0 := by have := (List.getElem?_eq_some_iff.1 hj).1; omega
        have hc2 := hcell j (by omega)
        rw [List.getElem?_take, if_pos hjl] at hj
        rw [List.getD_eq_getElem?_getD, hj] at hc2
        unfold Addr.add at hc2
        by_cases hj0 : j = 0
        · subst hj0
          rw [if_pos rfl] at hc2
          have ha : a = ⟨a.block, a.off + 0, none⟩ := by cases a; simp only at hs; subst hs; rfl
          rw [ha] at hc2; exact hc2
        · rw [if_neg hj0] at hc2; exact hc2
    · intro j u x hu hx
      simp only [List.getElem?_map, hx, Option.map_some, Option.some.injEq] at hu
      refine ⟨hu.symm, ?_⟩
      have := hwz x (List.mem_of_mem_take (List.mem_of_getElem? hx))
      exact bounds_i64 this

/-- A slice of rows that came in. -/
theorem rows_in {H : Type} {enc : TypeId × Value → H} {W : World} {r : Reach} {b0 base : Nat} {spare : Nat → Bool} {held : Bool} {v : Value} {d : DataW H} {ps : List MemPlace} {t e g : TypeId} {P : Program}
    (ht : P.underlying t = some (.slice e)) (he : P.underlying e = some (.slice g)) (hg : P.underlying g = some (.int .i64)) (hce : P.cellsOf e = 1) (hcg : P.cellsOf g = 1) (hsp : ∀ b, spare b = true)
    (hval : Value.okWide P W r b0 t v) (hd : DataW.Trod enc P W base spare held t v d ps) : ∃ xss, Rows2 W v xss := by
  obtain ⟨fuel, hf⟩ := hd
  obtain ⟨a0, len0, cap0, rfl⟩ := okWide_slice ht hval
  rcases Go.Deep.open_slice1 ht hce hf with ⟨hcs, hx⟩ | ⟨a, len, cap, m, n, V, D, Pl, hcs, _, hl, hm, hmm, hx, hV⟩
  · simp [Value.cells] at hcs
    obtain ⟨rfl, rfl, rfl⟩ := hcs
    exact ⟨[], rows_nil W⟩
  · simp [Value.cells] at hcs
    obtain ⟨rfl, rfl, rfl⟩ := hcs
    rw [hsp, if_pos rfl] at hmm
    obtain rfl : cap0 = m := hmm.symm
    have hXe : ∃ X : Nat → List Int, ∀ i, i < cap0 → Ints W (V i) (X i) := by
      refine ⟨fun i => if h : i < cap0 then Classical.choose (ints_cell he hg hcg hsp (hV i h).2) else [], fun i h => ?_⟩
      simp only [h, ↓reduceDIte]
      exact Classical.choose_spec (ints_cell he hg hcg hsp (hV i h).2)
    obtain ⟨X, hX⟩ := hXe
    refine ⟨(List.range len0).map X, (List.range len0).map fun i => [V i], by simp, (by intro u hu; obtain ⟨x, _, rfl⟩ := List.mem_map.1 hu; rfl), ?_, ?_⟩
    · rw [flatten_one]
      refine ⟨some a, cap0, by simp, by simpa using hl, hm, (fun h => by cases h), fun hne => ?_⟩
      have hpos : 0 < len0 := by
        rcases Nat.eq_zero_or_pos len0 with h0 | h0
        · subst h0; simp at hne
        · exact h0
      have h0 := (hV 0 (by omega)).1
      obtain ⟨a2, c2, hv2, -, -, -, -, -⟩ := (hX 0 (by omega)).open
      have hs : a.spot = none := by
        cases hsp2 : a.spot with
        | none => rfl
        | some s =>
          rw [hv2] at h0
          have : W.cell? a = some (.slice a2 (X 0).length c2) := by simpa [Addr.add] using h0
          unfold World.cell? at this
          rw [hsp2] at this
          split at this <;> simp at this
      refine ⟨a.block, a.off, by rw [← hs], lt_of_cell (by simpa [Addr.add] using h0), fun j u hu => ?_⟩
      rw [List.getElem?_map] at hu
      by_cases hj : j < len0
      · rw [List.getElem?_range hj] at hu
        simp at hu
        subst hu
        have hc2 := (hV j (by omega)).1
        unfold Addr.add at hc2
        by_cases hj0 : j = 0
        · subst hj0
          rw [if_pos rfl] at hc2
          have ha : a = ⟨a.block, a.off + 0, none⟩ := by cases a; simp only at hs; subst hs; rfl
          rw [ha] at hc2; exact hc2
        · rw [if_neg hj0] at hc2; exact hc2
      · rw [List.getElem?_eq_none (by simpa using hj)] at hu; cases hu
    · intro j u x hu hx
      rw [List.getElem?_map] at hu hx
      by_cases hj : j < len0
      · rw [List.getElem?_range hj] at hu hx
        simp at hu hx
        subst hu; subst hx
        exact ⟨V j, rfl, hX j (by omega)⟩
      · rw [List.getElem?_eq_none (by simpa using hj)] at hu; cases hu
end Go.Proofs.YtpeinobepiodaaaGreatDoor
