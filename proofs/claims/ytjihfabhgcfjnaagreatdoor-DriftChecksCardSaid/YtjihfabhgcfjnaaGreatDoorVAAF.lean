/- Merged: WalkIn. -/
import Derived.Test.YtjihfabhgcfjnaaGreatDoorUAH
import Derived.Test.YtjihfabhgcfjnaaGreatDoorUBK
import Derived.Deep.Slices
/- A walk that came in: slices of slices of slices of ints, slices of slices of links. -/
namespace Go.Proofs.YtjihfabhgcfjnaaGreatDoor
set_option linter.unusedVariables false
set_option linter.unusedSimpArgs false
open Go.ChangeShapes Go.WideShapes Go.ChangeAt Go.RowKit

theorem flattenK {k : Nat} {us : List (List Value)} (h : ∀ u ∈ us, u.length = k) (hk : 0 < k) (j : Nat) : us.flatten[j]? = (us[j / k]?).bind (·[j % k]?) := by
  have hj : j = j / k * k + j % k := by rw [Nat.mul_comm]; exact (Nat.div_add_mod j k).symm
  cases hu : us[j / k]? with
  | some u =>
    have := flatten_get us (j / k) (j % k) u h hu (Nat.mod_lt _ hk)
    rw [← hj] at this
    rw [this]; rfl
  | none =>
    have hl : us.length ≤ j / k := List.getElem?_eq_none_iff.1 hu
    have hf : us.flatten.length = us.length * k := by
      have : ∀ l : List (List Value), (∀ u ∈ l, u.length = k) → l.flatten.length = l.length * k := by
        intro l
        induction l with
        | nil => intro _; simp
        | cons x l ih => intro hx; rw [List.flatten_cons, List.length_append, hx x (by simp), ih (fun u hu => hx u (by simp [hu])), List.length_cons, Nat.succ_mul]; omega
      exact this us h
    rw [List.getElem?_eq_none]
    · rfl
    · rw [hf]
      have : us.length * k ≤ j / k * k := Nat.mul_le_mul_right k hl
      omega
theorem spot_none {W : World} {a : Addr} {v : Value} (h : W.cell? a = some v) : a.spot = none := by
  unfold World.cell? at h
  split at h
  · cases hs : a.spot with
    | none => rfl
    | some s => rw [hs] at h; simp at h
  · cases h

/-- A cell that came in and holds a slice of elements of k cells each, of which each is as R says. -/
theorem slice_in {α : Type} (k : Nat) (hk : 0 < k) (R : World → List Value → α → Prop) {H : Type} {enc : TypeId × Value → H} {W : World} {base : Nat} {spare : Nat → Bool} {held : Bool} {t e : TypeId} {P : Program}
    (ht : P.underlying t = some (.slice e)) (hc : P.cellsOf e = k)
    (hel : ∀ cs n x, cs.length = k → DataW.trod enc P W base spare held n e cs = some x → ∃ a, R W cs a) {c : Value} {x : DataW H × List MemPlace} {fuel : Nat}
    (hf : DataW.trod enc P W base spare held fuel t [c] = some x) : ∃ xs, ListAt k R W c xs := by
  rcases Go.Deep.open_slice ht hf with ⟨hcs, hx⟩ | ⟨a, len, cap, m, n, D, Pl, hcs, _, hl, hm, hmm, hx, hV⟩
  · obtain rfl : c = .slice none 0 0 := by simpa using hcs
    exact ⟨[], [], rfl, by simp, ⟨none, 0, rfl, Nat.le_refl _, Nat.zero_le _, fun _ => rfl, fun h => absurd rfl h⟩, by simp⟩
  · obtain rfl : c = .slice (some a) len cap := by simpa using hcs
    have hml : len ≤ m := by rw [hmm]; split <;> omega
    rw [hc] at hV
    have key : ∀ i, i < len → ∃ u : List Value, u.length = k ∧ (∀ j, j < k → W.cell? ((a.add (i * k)).add j) = u[j]?) ∧ ∃ y, R W u y := by
      intro i hi
      obtain ⟨cs', h1, h2⟩ := hV i (by omega)
      obtain ⟨-, h3, h4⟩ := World.cells?_some h1
      obtain ⟨y, hy⟩ := hel cs' n _ h3 h2
      exact ⟨cs', h3, h4, y, hy⟩
    have hU : ∃ U : Nat → List Value, ∀ i, i < len → (U i).length = k ∧ (∀ j, j < k → W.cell? ((a.add (i * k)).add j) = (U i)[j]?) ∧ ∃ y, R W (U i) y := by
      refine ⟨fun i => if h : i < len then Classical.choose (key i h) else [], fun i h => ?_⟩
      simp only [h, ↓reduceDIte]
      exact Classical.choose_spec (key i h)
    obtain ⟨U, hU⟩ := hU
    have hY : ∃ ys : List α, ys.length = len ∧ ∀ (i : Nat) y, ys[i]? = some y → R W (U i) y := by
      rcases Nat.eq_zero_or_pos len with h0 | h0
      · subst h0; exact ⟨[], rfl, by simp⟩
      · obtain ⟨y0, -⟩ := (hU 0 h0).2.2
        have hex : ∀ i, ∃ y, i < len → R W (U i) y := fun i => by
          by_cases h : i < len
          · obtain ⟨y, hy⟩ := (hU i h).2.2; exact ⟨y, fun _ => hy⟩
          · exact ⟨y0, fun h2 => absurd h2 h⟩
        refine ⟨(List.range len).map fun i => Classical.choose (hex i), by simp, fun i y hy => ?_⟩
        have hil : i < len := by have := (List.getElem?_eq_some_iff.1 hy).1; simpa using this
        rw [List.getElem?_map, List.getElem?_range hil] at hy
        obtain rfl := Option.some.inj hy
        exact Classical.choose_spec (hex i) hil
    obtain ⟨ys, hyl, hyR⟩ := hY
    have hus : ∀ u ∈ (List.range len).map U, u.length = k := by
      intro u hu
      obtain ⟨i, hi, rfl⟩ := List.mem_map.1 hu
      exact (hU i (List.mem_range.1 hi)).1
    refine ⟨ys, (List.range len).map U, by simp [hyl], hus, ⟨some a, cap, by rw [hyl], by omega, hm, (fun h => by cases h), fun hne => ?_⟩, fun j u y hu hy => ?_⟩
    · have hpos : 0 < len := by
        rcases Nat.eq_zero_or_pos len with h0 | h0
        · subst h0; simp at hne
        · exact h0
      have h0 := (hU 0 hpos).2.1 0 hk
      have hl0 := (hU 0 hpos).1
      rw [List.getElem?_eq_getElem (by omega), Nat.zero_mul] at h0
      have hs : a.spot = none := by
        have := spot_none h0
        unfold Addr.add at this
        simpa using this
      refine ⟨a.block, a.off, by rw [← hs], ?_, fun j u hu => ?_⟩
      · have := lt_of_cell h0
        unfold Addr.add at this
        simpa using this
      · rw [flattenK hus hk j] at hu
        cases hjk : ((List.range len).map U)[j / k]? with
        | none => rw [hjk] at hu; cases hu
        | some z =>
          rw [hjk] at hu
          have hlt : j / k < len := by have := (List.getElem?_eq_some_iff.1 hjk).1; simpa using this
          rw [List.getElem?_map, List.getElem?_range hlt] at hjk
          obtain rfl := Option.some.inj hjk
          have hm2 := Nat.mod_lt j hk
          have hcl := (hU (j / k) hlt).2.1 (j % k) hm2
          rw [show (U (j / k))[j % k]? = some u from hu, Go.Deep.add_add, show j / k * k + j % k = j by rw [Nat.mul_comm]; exact Nat.div_add_mod j k] at hcl
          unfold Addr.add at hcl
          by_cases hj0 : j = 0
          · subst hj0
            rw [if_pos rfl] at hcl
            have ha : a = ⟨a.block, a.off + 0, none⟩ := by cases a; simp only at hs; subst hs; rfl
            rw [ha] at hcl; exact hcl
          · rw [if_neg hj0] at hcl; exact hcl
    · have hjl : j < len := by have := (List.getElem?_eq_some_iff.1 hu).1; simpa using this
      rw [List.getElem?_map, List.getElem?_range hjl] at hu
      obtain rfl := Option.some.inj hu
      exact hyR j y hy

theorem cellsRows51 : Tryz.prog.cellsOf 28 = 1 := by kernel_rfl
theorem cellsLinks51 : Tryz.prog.cellsOf 112 = 1 := by kernel_rfl
theorem cellsLink51 : Tryz.prog.cellsOf 114 = 2 := by kernel_rfl
theorem cellsWalk51 : Tryz.prog.cellsOf 55 = 3 := by kernel_rfl
theorem cellsPr51 : Tryz.prog.cellsOf 51 = 1 := by kernel_rfl
theorem cellsCh51 : Tryz.prog.cellsOf 52 = 1 := by kernel_rfl
theorem cellsLk51 : Tryz.prog.cellsOf 53 = 1 := by kernel_rfl
set_option maxRecDepth 100000 in
/-- Two cells that came in and hold a link. -/
theorem link_in {H : Type} {enc : TypeId × Value → H} {W : World} {base : Nat} {spare : Nat → Bool} {held : Bool} {fuel : Nat} {cs : List Value} {x : DataW H × List MemPlace} (hl : cs.length = 2)
    (hf : DataW.trod enc Tryz.prog W base spare held fuel 114 cs = some x) : ∃ y, linkR W cs y := by
  obtain ⟨a, b, rfl⟩ : ∃ a b, cs = [a, b] := by
    match cs, hl with
    | [a, b], _ => exact ⟨a, b, rfl⟩
  obtain ⟨xs, n, -, -, hl2, hlen, hall⟩ := DataW.trod_struct Tryz.underlying114 hf
  have h0 := hall 0 _ rfl
  have h1 := hall 1 _ rfl
  have hx : xs.length = 2 := hlen
  rw [List.getElem?_eq_getElem (by omega)] at h0 h1
  have k0 : DataW.trod enc Tryz.prog W base spare held n 3 [a] = some xs[0] := by
    rw [← h0]
    show _ = DataW.trod enc Tryz.prog W base spare held n 3 (([a, b].drop 0).take (Tryz.prog.cellsOf 3))
    rw [cellsInt]; rfl
  have k1 : DataW.trod enc Tryz.prog W base spare held n 3 [b] = some xs[1] := by
    rw [← h1]
    show _ = DataW.trod enc Tryz.prog W base spare held n 3 (([a, b].drop (Tryz.prog.cellsOf 3)).take (Tryz.prog.cellsOf 3))
    rw [cellsInt]; rfl
  obtain ⟨y0, e0, -, w0⟩ := DataW.trod_int Tryz.underlying3 k0
  obtain ⟨y1, e1, -, w1⟩ := DataW.trod_int Tryz.underlying3 k1
  obtain rfl : a = .int .i64 y0 := by simpa using e0
  obtain rfl : b = .int .i64 y1 := by simpa using e1
  exact ⟨(y0, y1), rfl, bounds_i64 w0, bounds_i64 w1⟩
set_option maxRecDepth 100000 in
/-- A walk that came in. -/
theorem open_walk {H : Type} {enc : TypeId × Value → H} {W : World} {r : Reach} {b0 base : Nat} {spare : Nat → Bool} {held : Bool} {v : Value} {d : DataW H} {ps : List MemPlace} (hsp : ∀ b, spare b = true)
    (hval : Value.okWide Tryz.prog W r b0 55 v) (hd : DataW.Trod enc Tryz.prog W base spare held 55 v d ps) : ∃ k, WalkAt W v k := by
  obtain ⟨cs, rfl, hs⟩ := okWide_struct Tryz.underlying55 hval
  obtain ⟨fuel, hf⟩ := hd
  rw [cellsWalk51] at hs
  obtain ⟨a, b, c, rfl⟩ : ∃ a b c, cs = #[a, b, c] := by
    match cs, hs with
    | ⟨[a, b, c]⟩, _ => exact ⟨a, b, c, rfl⟩
  obtain ⟨xs, n, -, -, hl, hlen, hall⟩ := DataW.trod_struct Tryz.underlying55 hf
  have h0 := hall 0 _ rfl
  have h1 := hall 1 _ rfl
  have h2 := hall 2 _ rfl
  have hx : xs.length = 3 := hlen
  rw [List.getElem?_eq_getElem (by omega)] at h0 h1 h2
  have k0 : DataW.trod enc Tryz.prog W base spare held n 51 [a] = some xs[0] := by
    rw [← h0]
    show _ = DataW.trod enc Tryz.prog W base spare held n 51 (([a, b, c].drop 0).take (Tryz.prog.cellsOf 51))
    rw [cellsPr51]; rfl
  have k1 : DataW.trod enc Tryz.prog W base spare held n 52 [b] = some xs[1] := by
    rw [← h1]
    show _ = DataW.trod enc Tryz.prog W base spare held n 52 (([a, b, c].drop (Tryz.prog.cellsOf 51)).take (Tryz.prog.cellsOf 52))
    rw [cellsPr51, cellsCh51]; rfl
  have k2 : DataW.trod enc Tryz.prog W base spare held n 53 [c] = some xs[2] := by
    rw [← h2]
    show _ = DataW.trod enc Tryz.prog W base spare held n 53 (([a, b, c].drop (Tryz.prog.cellsOf 51 + Tryz.prog.cellsOf 52)).take (Tryz.prog.cellsOf 53))
    rw [cellsPr51, cellsCh51, cellsLk51]; rfl
  have one : ∀ (cs : List Value), cs.length = 1 → ∃ z, cs = [z] := fun cs h => List.length_eq_one_iff.1 h
  obtain ⟨ys, hy⟩ := ints_cell Tryz.underlying51 Tryz.underlying3 cellsInt hsp k0
  obtain ⟨zs, hz⟩ := slice_in 1 (by decide) chordR Tryz.underlying52 cellsRows51 (fun cs n x hl hf => by
    obtain ⟨z, rfl⟩ := one cs hl
    obtain ⟨u, hu⟩ := slice_in 1 (by decide) rowR Tryz.underlying28 cellsRow (fun cs n x hl hf => by
      obtain ⟨z, rfl⟩ := one cs hl
      obtain ⟨u, hu⟩ := ints_cell Tryz.underlying37 Tryz.underlying3 cellsInt hsp hf
      exact ⟨u, z, rfl, hu⟩) hf
    exact ⟨u, z, rfl, hu⟩) k1
  obtain ⟨ls, hls⟩ := slice_in 1 (by decide) linksR Tryz.underlying53 cellsLinks51 (fun cs n x hl hf => by
    obtain ⟨z, rfl⟩ := one cs hl
    obtain ⟨u, hu⟩ := slice_in 2 (by decide) linkR Tryz.underlying112 cellsLink51 (fun cs n x hl hf => link_in hl hf) hf
    exact ⟨u, z, rfl, hu⟩) k2
  exact ⟨⟨ys, zs, ls⟩, a, b, c, rfl, hy, hz, hls⟩
end Go.Proofs.YtjihfabhgcfjnaaGreatDoor
