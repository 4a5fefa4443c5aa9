/- Merged: OpenPlan, Plan9In, Plan18In. -/
import Derived.Test.YtjihfabhgcfjnaaGreatDoorVBAD
import Derived.Test.YtjihfabhgcfjnaaGreatDoorUBK
import Derived.Test.YtjihfabhgcfjnaaGreatDoorUBI
import Derived.Laws.IdiomArrays
/- A plan that came in: its cells. -/
namespace Go.Proofs.YtjihfabhgcfjnaaGreatDoor
set_option linter.unusedVariables false
open Go.ChangeShapes Go.WideShapes Go.ChangeAt Go.RowKit

theorem range_kinds {n : Nat} {f : Nat → Option IntKind} {m : List IntKind} (h : (List.range n).map f = m.map some) (j : Nat) (k : IntKind) (hk : m[j]? = some k) : f j = some k := by
  have hl : n = m.length := by have := congrArg List.length h; simpa using this
  have hj : j < n := by rw [hl]; exact (List.getElem?_eq_some_iff.1 hk).1
  have e := congrArg (fun l => l[j]?) h
  simp only [List.getElem?_map, List.getElem?_range hj, hk, Option.map_some, Option.some.injEq] at e
  exact e

set_option maxRecDepth 100000 in
/-- A plan that came in. -/
theorem open_plan {H : Type} {enc : TypeId × Value → H} {W : World} {r : Reach} {b0 base : Nat} {spare : Nat → Bool} {held : Bool} {v : Value} {d : DataW H} {ps : List MemPlace}
    (hval : Value.okWide Tryz.prog W r b0 50 v) (hd : DataW.Trod enc Tryz.prog W base spare held 50 v d ps) : ∃ cs, v = .agg cs ∧ PlanAt cs := by
  obtain ⟨cs, rfl, hs⟩ := okWide_struct Tryz.underlying50 hval
  obtain ⟨fuel, hf⟩ := hd
  refine ⟨cs, rfl, hs.trans planCells, fun j k hk => ?_⟩
  obtain ⟨n, h1, h2⟩ := flat_cells _ _ _ _ _ _ _ (range_kinds planKinds_eq j k hk) hf
  exact ⟨n, (Array.getElem?_toList (xs := cs) (i := j)).symm.trans h1, h2⟩

end Go.Proofs.YtjihfabhgcfjnaaGreatDoor
/- A plan of chapter 09 that came in; an array of four int8 that came in. -/
namespace Go.Proofs.YtjihfabhgcfjnaaGreatDoor
set_option linter.unusedVariables false
set_option linter.unusedSimpArgs false
open Go.ChangeShapes Go.WideShapes Go.ChangeAt Go.RowKit

theorem cellsI8L : Tryz.prog.cellsOf 25 = 1 := by kernel_rfl
theorem cellsU8L : Tryz.prog.cellsOf 5 = 1 := by kernel_rfl
theorem cellsFourL : Tryz.prog.cellsOf 168 = 4 := by kernel_rfl
theorem cellsFoursL : Tryz.prog.cellsOf 22 = 1 := by kernel_rfl
set_option maxRecDepth 100000 in
/-- Four cells that came in. -/
theorem four_cells {H : Type} {enc : TypeId × Value → H} {W : World} {base : Nat} {spare : Nat → Bool} {held : Bool} {fuel : Nat} {cs : List Value} {y : DataW H × List MemPlace} (hl : cs.length = 4)
    (hf : DataW.trod enc Tryz.prog W base spare held fuel 168 cs = some y) : ∃ x : List Int, cs = x.map (Value.int .i8) ∧ x.length = 4 ∧ ∀ a ∈ x, -128 ≤ a ∧ a ≤ 127 := by
  obtain ⟨a, b, c, e, rfl⟩ : ∃ a b c e, cs = [a, b, c, e] := by
    match cs, hl with
    | [a, b, c, e], _ => exact ⟨a, b, c, e, rfl⟩
  obtain ⟨z0, z1, z2, z3, n, -, k0, k1, k2, k3⟩ := trod_array4 Tryz.underlying168 cellsI8L hf
  obtain ⟨y0, e0, -, w0⟩ := DataW.trod_int Tryz.underlying25 k0
  obtain ⟨y1, e1, -, w1⟩ := DataW.trod_int Tryz.underlying25 k1
  obtain ⟨y2, e2, -, w2⟩ := DataW.trod_int Tryz.underlying25 k2
  obtain ⟨y3, e3, -, w3⟩ := DataW.trod_int Tryz.underlying25 k3
  obtain rfl : a = .int .i8 y0 := by simpa using e0
  obtain rfl : b = .int .i8 y1 := by simpa using e1
  obtain rfl : c = .int .i8 y2 := by simpa using e2
  obtain rfl : e = .int .i8 y3 := by simpa using e3
  refine ⟨[y0, y1, y2, y3], rfl, rfl, fun x hx => ?_⟩
  have h0 := bounds_i8 w0; have h1 := bounds_i8 w1; have h2 := bounds_i8 w2; have h3 := bounds_i8 w3
  simp at hx
  rcases hx with rfl | rfl | rfl | rfl <;> assumption
theorem flatten4 {us : List (List Value)} (h : ∀ u ∈ us, u.length = 4) (j : Nat) (k : Nat) (hk : k < 4) : us.flatten[4 * j + k]? = (us[j]?).bind (·[k]?) := by
  induction us generalizing j with
  | nil => simp
  | cons u l ih =>
    have hu := h u (by simp)
    rw [List.flatten_cons]
    cases j with
    | zero => rw [List.getElem?_append_left (by omega)]; simp
    | succ j =>
      rw [List.getElem?_append_right (by omega), show 4 * (j + 1) + k - u.length = 4 * j + k by omega, ih (fun x hx => h x (by simp [hx])) j]
      simp
set_option maxRecDepth 100000 in
/-- A cell that came in and holds a slice of such arrays. -/
theorem fours_cell {H : Type} {enc : TypeId × Value → H} {W : World} {base : Nat} {spare : Nat → Bool} {held : Bool} {c0 : Value} {x : DataW H × List MemPlace} {fuel : Nat}
    (hf : DataW.trod enc Tryz.prog W base spare held fuel 22 [c0] = some x) : ∃ xss, Fours W c0 xss := by
  rcases Go.Deep.open_slice Tryz.underlying22 hf with ⟨hcs, hx⟩ | ⟨a, len, cap, m, n, D, Pl, hcs, _, hl, hm, hmm, hx, hV⟩
  · obtain rfl : c0 = .slice none 0 0 := by simpa using hcs
    exact ⟨[], [], rfl, by simp, ⟨none, 0, rfl, Nat.le_refl _, Nat.zero_le _, fun _ => rfl, fun h => absurd rfl h⟩, by simp⟩
  · obtain rfl : c0 = .slice (some a) len cap := by simpa using hcs
    have hml : len ≤ m := by rw [hmm]; split <;> omega
    rw [cellsFourL] at hV
    have hXe : ∃ X : Nat → List Int, ∀ i, i < m → (∀ k, k < 4 → W.cell? ((a.add (i * 4)).add k) = ((X i).map (Value.int .i8))[k]?) ∧ (X i).length = 4 ∧ ∀ z ∈ X i, -128 ≤ z ∧ z ≤ 127 := by
      have : ∀ i, i < m → ∃ x : List Int, (∀ k, k < 4 → W.cell? ((a.add (i * 4)).add k) = (x.map (Value.int .i8))[k]?) ∧ x.length = 4 ∧ ∀ z ∈ x, -128 ≤ z ∧ z ≤ 127 := by
        intro i hi
        obtain ⟨cs', h1, h2⟩ := hV i hi
        obtain ⟨-, h3, h4⟩ := World.cells?_some h1
        obtain ⟨x, h5, h6, h7⟩ := four_cells h3 h2
        exact ⟨x, fun k hk => by rw [h4 k hk, h5], h6, h7⟩
      refine ⟨fun i => if h : i < m then Classical.choose (this i h) else [], fun i h => ?_⟩
      simp only [h, ↓reduceDIte]
      exact Classical.choose_spec (this i h)
    obtain ⟨X, hX⟩ := hXe
    have hus : ∀ u ∈ (List.range len).map (fun i => (X i).map (Value.int .i8)), u.length = 4 := by
      intro u hu
      obtain ⟨i, hi, rfl⟩ := List.mem_map.1 hu
      rw [List.length_map]; exact (hX i (by have := List.mem_range.1 hi; omega)).2.1
    refine ⟨(List.range len).map X, (List.range len).map fun i => (X i).map (Value.int .i8), by simp, hus, ?_, ?_⟩
    · refine ⟨some a, cap, by simp, by simpa using hl, hm, (fun h => by cases h), fun hne => ?_⟩
      have hpos : 0 < len := by
        rcases Nat.eq_zero_or_pos len with h0 | h0
        · subst h0; simp at hne
        · exact h0
      have h0 := (hX 0 (by omega)).1 0 (by omega)
      have h04 := (hX 0 (by omega)).2.1
      rw [Go.Deep.add_add, List.getElem?_map, List.getElem?_eq_getElem (by omega)] at h0
      have h00 : W.cell? a = some (.int .i8 (X 0)[0]) := by simpa [Addr.add] using h0
      have hs : a.spot = none := by
        cases hsp2 : a.spot with
        | none => rfl
        | some s =>
          unfold World.cell? at h00
          rw [hsp2] at h00
          split at h00 <;> simp at h00
      refine ⟨a.block, a.off, by rw [← hs], lt_of_cell h00, fun j u hu => ?_⟩
      have hj4 : j = 4 * (j / 4) + j % 4 := by omega
      rw [hj4, flatten4 hus (j / 4) (j % 4) (by omega)] at hu
      obtain ⟨u0, h1, h2⟩ := Option.bind_eq_some_iff.1 hu
      rw [List.getElem?_map] at h1
      by_cases hj : j / 4 < len
      · rw [List.getElem?_range hj] at h1
        simp at h1
        subst h1
        have hc2 := (hX (j / 4) (by omega)).1 (j % 4) (by omega)
        rw [h2, Go.Deep.add_add, show j / 4 * 4 + j % 4 = j by omega] at hc2
        unfold Addr.add at hc2
        by_cases hj0 : j = 0
        · subst hj0
          rw [if_pos rfl] at hc2
          have ha : a = ⟨a.block, a.off + 0, none⟩ := by cases a; simp only at hs; subst hs; rfl
          rw [ha] at hc2; exact hc2
        · rw [if_neg hj0] at hc2; exact hc2
      · rw [List.getElem?_eq_none (by simpa using hj)] at h1; cases h1
    · intro j u x hu hx
      rw [List.getElem?_map] at hu hx
      by_cases hj : j < len
      · rw [List.getElem?_range hj] at hu hx
        simp at hu hx
        subst hu; subst hx
        exact ⟨rfl, (hX j (by omega)).2⟩
      · rw [List.getElem?_eq_none (by simpa using hj)] at hu; cases hu
end Go.Proofs.YtjihfabhgcfjnaaGreatDoor
/- A plan of law 18 that came in. -/
namespace Go.Proofs.YtjihfabhgcfjnaaGreatDoor
set_option linter.unusedVariables false
set_option linter.unusedSimpArgs false
open Go.ChangeShapes Go.WideShapes Go.ChangeAt Go.RowKit

theorem cellsPlan18 : Tryz.prog.cellsOf 73 = 3 := by kernel_rfl
theorem cellsBool18 : Tryz.prog.cellsOf 4 = 1 := by kernel_rfl
set_option maxRecDepth 100000 in
/-- A plan that came in. -/
theorem open_plan18 {H : Type} {enc : TypeId × Value → H} {W : World} {r : Reach} {b0 base : Nat} {spare : Nat → Bool} {held : Bool} {v : Value} {d : DataW H} {ps : List MemPlace}
    (hval : Value.okWide Tryz.prog W r b0 73 v) (hd : DataW.Trod enc Tryz.prog W base spare held 73 v d ps) :
    ∃ c u vals xss, v = .agg #[.int .u8 c, u, .bool vals] ∧ (0 ≤ c ∧ c ≤ 255) ∧ Fours W u xss := by
  obtain ⟨cs, rfl, hs⟩ := okWide_struct Tryz.underlying73 hval
  obtain ⟨fuel, hf⟩ := hd
  rw [cellsPlan18] at hs
  obtain ⟨a, b, z, rfl⟩ : ∃ a b z, cs = #[a, b, z] := by
    match cs, hs with
    | ⟨[a, b, z]⟩, _ => exact ⟨a, b, z, rfl⟩
  obtain ⟨xs, n, -, -, hl, hlen, hall⟩ := DataW.trod_struct Tryz.underlying73 hf
  have h0 := hall 0 _ rfl
  have h1 := hall 1 _ rfl
  have h2 := hall 2 _ rfl
  have hx : xs.length = 3 := hlen
  rw [List.getElem?_eq_getElem (by omega)] at h0 h1 h2
  have k0 : DataW.trod enc Tryz.prog W base spare held n 5 [a] = some xs[0] := by
    rw [← h0]
    show _ = DataW.trod enc Tryz.prog W base spare held n 5 (([a, b, z].drop 0).take (Tryz.prog.cellsOf 5))
    rw [cellsU8L]; rfl
  have k1 : DataW.trod enc Tryz.prog W base spare held n 22 [b] = some xs[1] := by
    rw [← h1]
    show _ = DataW.trod enc Tryz.prog W base spare held n 22 (([a, b, z].drop 1).take (Tryz.prog.cellsOf 22))
    rw [cellsFoursL]; rfl
  have k2 : DataW.trod enc Tryz.prog W base spare held n 4 [z] = some xs[2] := by
    rw [← h2]
    show _ = DataW.trod enc Tryz.prog W base spare held n 4 (([a, b, z].drop 2).take (Tryz.prog.cellsOf 4))
    rw [cellsBool18]; rfl
  obtain ⟨y0, e0, -, w0⟩ := DataW.trod_int Tryz.underlying5 k0
  obtain ⟨xss, hxs⟩ := fours_cell k1
  obtain ⟨bb, e2, -⟩ := DataW.trod_bool Tryz.underlying4 k2
  obtain rfl : a = .int .u8 y0 := by simpa using e0
  obtain rfl : z = .bool bb := by simpa using e2
  exact ⟨y0, b, bb, xss, rfl, bounds_u8 w0, hxs⟩
end Go.Proofs.YtjihfabhgcfjnaaGreatDoor
