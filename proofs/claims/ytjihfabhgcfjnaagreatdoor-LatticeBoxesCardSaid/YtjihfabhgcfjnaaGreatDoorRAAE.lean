/- Merged: MatG, HermA. -/
import Derived.Test.YtjihfabhgcfjnaaGreatDoorQAQ
import Derived.Test.YtjihfabhgcfjnaaGreatDoorQAZ
import Derived.RegionTactic
import Derived.BigRegion
/- Matrices of Go ints in place: an outer row of slices, each row in a block of its own; and such a matrix in the making. -/
namespace Go.Proofs.YtjihfabhgcfjnaaGreatDoor
set_option linter.unusedVariables false
set_option linter.unusedSimpArgs false
open Go.RowKit

/-- A row of integers at block g from cell o on, that may be written. -/
structure RowG (w : World) (g o : Nat) (xs : List Int) : Prop where
  lt : g < w.heap.size
  cell : ∀ (j : Nat) x, xs[j]? = some x → w.cell? ⟨g, o + j, none⟩ = some (.int .i64 x)
  free : ∀ j, w.frozen? ⟨g, j, none⟩ = false

theorem RowG.same {w w' : World} {g o : Nat} {xs : List Int} (h : RowG w g o xs) (hs : w.heap.size ≤ w'.heap.size) (hg : w'.heap[g]? = w.heap[g]?) : RowG w' g o xs :=
  ⟨Nat.lt_of_lt_of_le h.lt hs, fun j x hx => (cell_of_heap hg _).trans (h.cell j x hx), fun j => (free_of_heap hg j).trans (h.free j)⟩
theorem RowG.ext {w w' : World} {g o : Nat} {xs : List Int} (h : RowG w g o xs) (he : Ext w w') : RowG w' g o xs := h.same he.size (he.block g h.lt)
theorem RowG.grown {w w' : World} {S : Nat → Prop} {g o : Nat} {xs : List Int} (h : RowG w g o xs) (hg : GrownS S w w') (hS : ¬ S g) : RowG w' g o xs := h.same hg.size (hg.block g h.lt hS)
theorem RowG.set {w : World} {g o : Nat} {xs : List Int} (h : RowG w g o xs) (k : Nat) (hk : k < xs.length) (y : Int) : RowG (w.setCell ⟨g, o + k, none⟩ (.int .i64 y)) g o (xs.set k y) := by
  refine ⟨by rw [setCell_size]; exact h.lt, fun j x hx => ?_, fun j => by rw [setCell_free]; exact h.free j⟩
  rw [List.getElem?_set] at hx
  by_cases hj : k = j
  · subst hj
    rw [if_pos rfl, if_pos hk] at hx
    cases hx
    exact World.cell?_setCell_same w _ _ (h.cell k xs[k] (List.getElem?_eq_getElem hk))
  · rw [if_neg hj] at hx
    rw [World.cell?_setCell_other w _ _ _ (by intro e; simp only [Addr.mk.injEq] at e; omega)]
    exact h.cell j x hx
/-- The store leaves what lies in other blocks. -/
theorem RowG.other {w : World} {g o : Nat} {xs : List Int} (h : RowG w g o xs) (b i : Nat) (v : Value) (hb : g ≠ b) : RowG (w.setCell ⟨b, i, none⟩ v) g o xs :=
  h.same (by rw [setCell_size]; exact Nat.le_refl _) (setCell_heap_other w b i g v hb)

/-- The rows of a matrix: an outer row at block g0; tags: each row's block, first cell, capacity. -/
structure MatG (w : World) (g0 : Nat) (tags : List (Nat × Nat × Nat)) (m : List (List Int)) : Prop where
  len : tags.length = m.length
  lt : g0 < w.heap.size
  free : ∀ j, w.frozen? ⟨g0, j, none⟩ = false
  row : ∀ (i : Nat) t r, tags[i]? = some t → m[i]? = some r → w.cell? ⟨g0, i, none⟩ = some (.slice (some ⟨t.1, t.2.1, none⟩) r.length t.2.2) ∧ r.length ≤ t.2.2 ∧ t.2.2 ≤ maxLen ∧ RowG w t.1 t.2.1 r
  nodup : (g0 :: tags.map (·.1)).Nodup
theorem MatG.same {w w' : World} {g0 : Nat} {tags : List (Nat × Nat × Nat)} {m : List (List Int)} (h : MatG w g0 tags m) (hs : w.heap.size ≤ w'.heap.size) (hb : ∀ b, blocksOf g0 tags b → w'.heap[b]? = w.heap[b]?) : MatG w' g0 tags m := by
  have h0 := hb g0 (List.mem_cons_self ..)
  refine ⟨h.len, Nat.lt_of_lt_of_le h.lt hs, fun j => (free_of_heap h0 j).trans (h.free j), fun i t r ht hr => ?_, h.nodup⟩
  obtain ⟨h1, h2, h3, h4⟩ := h.row i t r ht hr
  exact ⟨(cell_of_heap h0 i).trans h1, h2, h3, h4.same hs (hb t.1 (List.mem_cons_of_mem _ (List.mem_map.2 ⟨t, List.mem_of_getElem? ht, rfl⟩)))⟩
theorem MatG.blt {w : World} {g0 : Nat} {tags : List (Nat × Nat × Nat)} {m : List (List Int)} (h : MatG w g0 tags m) {b : Nat} (hb : blocksOf g0 tags b) : b < w.heap.size := by
  rcases List.mem_cons.1 hb with rfl | hb
  · exact h.lt
  · obtain ⟨t, ht, rfl⟩ := List.mem_map.1 hb
    obtain ⟨i, hi⟩ := List.getElem?_of_mem ht
    have hl : i < m.length := by rw [← h.len]; exact (List.getElem?_eq_some_iff.1 hi).1
    exact (h.row i t m[i] hi (List.getElem?_eq_getElem hl)).2.2.2.lt
theorem MatG.ext {w w' : World} {g0 : Nat} {tags : List (Nat × Nat × Nat)} {m : List (List Int)} (h : MatG w g0 tags m) (he : Ext w w') : MatG w' g0 tags m :=
  h.same he.size fun b hb => he.block b (h.blt hb)
theorem MatG.get {w : World} {g0 : Nat} {tags : List (Nat × Nat × Nat)} {m : List (List Int)} (h : MatG w g0 tags m) (i : Nat) (hi : i < m.length) :
    ∃ t, tags[i]? = some t ∧ w.cell? ⟨g0, i, none⟩ = some (.slice (some ⟨t.1, t.2.1, none⟩) (rowE_ m i).length t.2.2) ∧ (rowE_ m i).length ≤ t.2.2 ∧ t.2.2 ≤ maxLen ∧ RowG w t.1 t.2.1 (rowE_ m i) ∧ t.1 ≠ g0 := by
  have hl : i < tags.length := by rw [h.len]; exact hi
  have e : rowE_ m i = m[i] := by unfold rowE_; rw [List.getD_eq_getElem?_getD, List.getElem?_eq_getElem hi]; rfl
  have := h.row i tags[i] m[i] (List.getElem?_eq_getElem hl) (List.getElem?_eq_getElem hi)
  refine ⟨tags[i], List.getElem?_eq_getElem hl, ?_⟩
  rw [e]
  refine ⟨this.1, this.2.1, this.2.2.1, this.2.2.2, ?_⟩
  have hn := (List.nodup_cons.1 h.nodup).1
  intro e2
  exact hn (List.mem_map.2 ⟨tags[i], List.getElem_mem hl, e2⟩)
theorem MatG.apart {w : World} {g0 : Nat} {tags : List (Nat × Nat × Nat)} {m : List (List Int)} (h : MatG w g0 tags m) {i j : Nat} {s t : Nat × Nat × Nat} (hs : tags[i]? = some s) (ht : tags[j]? = some t) (hij : i ≠ j) : s.1 ≠ t.1 := by
  have hn := (List.nodup_cons.1 h.nodup).2
  intro e
  have h1 : (tags.map (·.1))[i]? = some s.1 := by rw [List.getElem?_map, hs]; rfl
  have h2 : (tags.map (·.1))[j]? = some s.1 := by rw [List.getElem?_map, ht, e]; rfl
  obtain ⟨l1, e1⟩ := List.getElem?_eq_some_iff.1 h1
  obtain ⟨l2, e2⟩ := List.getElem?_eq_some_iff.1 h2
  exact hij ((List.getElem_inj hn).1 (e1.trans e2.symm))
/-- One row is written. -/
theorem MatG.setRow {w w' : World} {g0 : Nat} {tags : List (Nat × Nat × Nat)} {m : List (List Int)} (h : MatG w g0 tags m) (i : Nat) (hi : i < m.length) (t : Nat × Nat × Nat) (ht : tags[i]? = some t) (r : List Int) (hr : r.length = (rowE_ m i).length) (hg : GrownS (· = t.1) w w') (hR : RowG w' t.1 t.2.1 r) : MatG w' g0 tags (m.set i r) := by
  obtain ⟨t', ht', -, -, -, -, hne⟩ := h.get i hi
  obtain rfl : t' = t := Option.some.inj (ht'.symm.trans ht)
  have h0 := hg.block g0 h.lt (fun e => hne e.symm)
  refine ⟨by rw [List.length_set]; exact h.len, Nat.lt_of_lt_of_le h.lt hg.size, fun j => (free_of_heap h0 j).trans (h.free j), fun j s q hs hq => ?_, h.nodup⟩
  rw [List.getElem?_set] at hq
  by_cases hj : i = j
  · subst hj
    rw [if_pos rfl, if_pos hi] at hq
    cases hq
    obtain rfl : s = t' := Option.some.inj (hs.symm.trans ht)
    have e : rowE_ m i = m[i] := by unfold rowE_; rw [List.getD_eq_getElem?_getD, List.getElem?_eq_getElem hi]; rfl
    obtain ⟨h1, h2, h3, h4⟩ := h.row i s m[i] hs (List.getElem?_eq_getElem hi)
    rw [← e, ← hr] at h1 h2
    exact ⟨(cell_of_heap h0 i).trans h1, h2, h3, hR⟩
  · rw [if_neg hj] at hq
    obtain ⟨h1, h2, h3, h4⟩ := h.row j s q hs hq
    exact ⟨(cell_of_heap h0 j).trans h1, h2, h3, h4.grown hg (h.apart hs ht (fun e => hj e.symm))⟩
theorem MatG.swap {w : World} {g0 : Nat} {tags : List (Nat × Nat × Nat)} {m : List (List Int)} (h : MatG w g0 tags m) (d a : Nat) (hd : d < m.length) (ha : a < m.length) (td ta : Nat × Nat × Nat) (htd : tags[d]? = some td) (hta : tags[a]? = some ta) :
    MatG ((w.setCell ⟨g0, d, none⟩ (.slice (some ⟨ta.1, ta.2.1, none⟩) (rowE_ m a).length ta.2.2)).setCell ⟨g0, a, none⟩ (.slice (some ⟨td.1, td.2.1, none⟩) (rowE_ m d).length td.2.2)) g0 (swapL tags d a) (swapL m d a) := by
  obtain ⟨td', htd', c1, c2, c3, c4, c5⟩ := h.get d hd
  obtain rfl : td' = td := Option.some.inj (htd'.symm.trans htd)
  obtain ⟨ta', hta', e1, e2, e3, e4, e5⟩ := h.get a ha
  obtain rfl : ta' = ta := Option.some.inj (hta'.symm.trans hta)
  have hmd := rowE_get hd
  have hma := rowE_get ha
  rw [swapL_eq htd hta, swapL_eq hmd hma]
  obtain ⟨w1, hw1⟩ : ∃ w1, w1 = (w.setCell ⟨g0, d, none⟩ (.slice (some ⟨ta'.1, ta'.2.1, none⟩) (rowE_ m a).length ta'.2.2)).setCell ⟨g0, a, none⟩ (.slice (some ⟨td'.1, td'.2.1, none⟩) (rowE_ m d).length td'.2.2) := ⟨_, rfl⟩
  have hsz : w1.heap.size = w.heap.size := by rw [hw1, setCell_size, setCell_size]
  have hoth : ∀ b, b ≠ g0 → w1.heap[b]? = w.heap[b]? := fun b hb => by rw [hw1, setCell_heap_other _ _ _ _ _ hb, setCell_heap_other _ _ _ _ _ hb]
  have hfr : ∀ j, w1.frozen? ⟨g0, j, none⟩ = false := fun j => by rw [hw1, setCell_free, setCell_free]; exact h.free j
  have hca : w1.cell? ⟨g0, a, none⟩ = some (.slice (some ⟨td'.1, td'.2.1, none⟩) (rowE_ m d).length td'.2.2) := by
    rw [hw1]
    by_cases hda : d = a
    · subst hda
      exact World.cell?_setCell_same _ _ _ (World.cell?_setCell_same w _ _ c1)
    · exact World.cell?_setCell_same _ _ _ ((World.cell?_setCell_other w _ _ _ (by intro e; simp only [Addr.mk.injEq] at e; exact hda e.2.1)).trans e1)
  have hcd : d ≠ a → w1.cell? ⟨g0, d, none⟩ = some (.slice (some ⟨ta'.1, ta'.2.1, none⟩) (rowE_ m a).length ta'.2.2) := fun hda => by
    rw [hw1, World.cell?_setCell_other _ _ _ _ (by intro e; simp only [Addr.mk.injEq] at e; exact hda e.2.1.symm)]
    exact World.cell?_setCell_same w _ _ c1
  have hco : ∀ j, j ≠ d → j ≠ a → w1.cell? ⟨g0, j, none⟩ = w.cell? ⟨g0, j, none⟩ := fun j hjd hja => by
    rw [hw1, World.cell?_setCell_other _ _ _ _ (by intro e; simp only [Addr.mk.injEq] at e; exact hja e.2.1.symm), World.cell?_setCell_other _ _ _ _ (by intro e; simp only [Addr.mk.injEq] at e; exact hjd e.2.1.symm)]
  rw [← hw1]
  clear hw1
  have hrow : ∀ (t : Nat × Nat × Nat) r, t.1 ≠ g0 → RowG w t.1 t.2.1 r → RowG w1 t.1 t.2.1 r := fun t r ht hr => hr.same (by omega) (hoth t.1 ht)
  refine ⟨by simp only [List.length_set]; exact h.len, by rw [hsz]; exact h.lt, hfr, fun i t r ht hr => ?_, ?_⟩
  · have hlt : tags.length = m.length := h.len
    by_cases hia : i = a
    · subst hia
      rw [List.getElem?_set_self (by rw [List.length_set]; omega)] at ht
      rw [List.getElem?_set_self (by rw [List.length_set]; omega)] at hr
      obtain rfl := Option.some.inj ht
      obtain rfl := Option.some.inj hr
      exact ⟨hca, c2, c3, hrow _ _ c5 c4⟩
    · rw [List.getElem?_set_ne (fun e => hia e.symm)] at ht hr
      by_cases hid : i = d
      · subst hid
        rw [List.getElem?_set_self (by omega)] at ht
        rw [List.getElem?_set_self (by omega)] at hr
        obtain rfl := Option.some.inj ht
        obtain rfl := Option.some.inj hr
        exact ⟨hcd hia, e2, e3, hrow _ _ e5 e4⟩
      · rw [List.getElem?_set_ne (fun e => hid e.symm)] at ht hr
        obtain ⟨k1, k2, k3, k4⟩ := h.row i t r ht hr
        have hne : t.1 ≠ g0 := by
          intro e
          exact (List.nodup_cons.1 h.nodup).1 (List.mem_map.2 ⟨t, List.mem_of_getElem? ht, e⟩)
        exact ⟨(hco i hid hia).trans k1, k2, k3, hrow _ _ hne k4⟩
  · have hn := List.nodup_cons.1 h.nodup
    rw [List.nodup_cons]
    have hsw : ((tags.set d ta').set a td').map (·.1) = swapL (tags.map (·.1)) d a := by
      rw [← swapL_eq htd hta, swapL_map]
    rw [hsw]
    refine ⟨fun hm => hn.1 (swapL_mem _ _ _ _ hm), ?_⟩
    have hp : (swapL (tags.map (·.1)) d a).Perm (tags.map (·.1)) := swapL_perm _ _ _
    exact hp.nodup_iff.2 hn.2
/-- A matrix in the making: its outer row is the call's own, its rows lie in blocks apart. -/
structure RowsG (w : World) (ob base : Nat) (v : Value) (tags : List (Nat × Nat × Nat)) (m : List (List Int)) : Prop where
  len : tags.length = m.length
  own : w.ownsRow ob 37 1 v m.length (tagVs tags m)
  row : ∀ (i : Nat) t r, tags[i]? = some t → m[i]? = some r → r.length ≤ t.2.2 ∧ t.2.2 ≤ maxLen ∧ RowG w t.1 t.2.1 r ∧ base ≤ t.1 ∧ v.ownBlock ≠ some t.1
  nodup : (tags.map (·.1)).Nodup
theorem RowsG.nil (w : World) (ob base : Nat) : RowsG w ob base (.slice none 0 0) [] [] :=
  ⟨rfl, World.ownsRow_nil _ _ _ _, by intro i t r h; simp at h, by simp⟩
theorem RowsG.ext {w w' : World} {ob base : Nat} {v : Value} {tags : List (Nat × Nat × Nat)} {m : List (List Int)} (h : RowsG w ob base v tags m) (he : Ext w w') : RowsG w' ob base v tags m :=
  ⟨h.len, owns_ext h.own he, fun i t r ht hr => by
    obtain ⟨h1, h2, h3, h4, h5⟩ := h.row i t r ht hr
    exact ⟨h1, h2, h3.ext he, h4, h5⟩, h.nodup⟩
/-- One row more. -/
theorem RowsG.snoc {w w' : World} {ob base : Nat} {v v' : Value} {tags : List (Nat × Nat × Nat)} {m : List (List Int)} (h : RowsG w ob base v tags m) (t : Nat × Nat × Nat) (r : List Int) (hr1 : r.length ≤ t.2.2) (hr2 : t.2.2 ≤ maxLen) (hR : RowG w t.1 t.2.1 r) (hb : base ≤ t.1) (hv : v.ownBlock ≠ some t.1) (hn : t.1 ∉ tags.map (·.1))
    (hown : w'.ownsRow ob 37 1 v' (m.length + 1) (tagVs tags m ++ [tagV t r.length])) (hg : w.grownBy w' v.ownBlock) (hat : v'.ownBlock = v.ownBlock ∨ ∃ b, v'.ownBlock = some b ∧ w.heap.size ≤ b) :
    RowsG w' ob base v' (tags ++ [t]) (m ++ [r]) := by
  have hkeep : ∀ (s : Nat × Nat × Nat) q, RowG w s.1 s.2.1 q → v.ownBlock ≠ some s.1 → RowG w' s.1 s.2.1 q ∧ v'.ownBlock ≠ some s.1 := fun s q hs hvs => by
    refine ⟨hs.same hg.size (hg.block s.1 hs.lt hvs.symm), fun e => ?_⟩
    rcases hat with e2 | ⟨b, e2, e3⟩
    · exact hvs (e2.symm.trans e)
    · rw [e2] at e; cases e; have := hs.lt; omega
  refine ⟨by simp [h.len], ?_, fun i s q hs hq => ?_, ?_⟩
  · have e : tagVs (tags ++ [t]) (m ++ [r]) = tagVs tags m ++ [tagV t r.length] := by
      unfold tagVs; rw [List.zipWith_append h.len]; rfl
    rw [e, List.length_append]; exact hown
  · by_cases hi : i < tags.length
    · rw [List.getElem?_append_left hi] at hs
      rw [List.getElem?_append_left (by rw [← h.len]; exact hi)] at hq
      obtain ⟨h1, h2, h3, h4, h5⟩ := h.row i s q hs hq
      obtain ⟨k1, k2⟩ := hkeep s q h3 h5
      exact ⟨h1, h2, k1, h4, k2⟩
    · rw [List.getElem?_append_right (by omega)] at hs
      rw [List.getElem?_append_right (by rw [← h.len]; omega)] at hq
      have e1 : i - tags.length = 0 := by have := (List.getElem?_eq_some_iff.1 hs).1; simp at this; omega
      have e2 : i - m.length = 0 := by rw [← h.len]; exact e1
      rw [e1] at hs
      rw [e2] at hq
      simp only [List.getElem?_cons_zero, Option.some.injEq] at hs hq
      subst hs; subst hq
      obtain ⟨k1, k2⟩ := hkeep t r hR hv
      exact ⟨hr1, hr2, k1, hb, k2⟩
  · rw [List.map_append, List.nodup_append]
    refine ⟨h.nodup, by simp, ?_⟩
    intro a ha b hb2 e
    simp only [List.map_cons, List.map_nil, List.mem_singleton] at hb2
    subst e; subst hb2
    exact hn ha
/-- The matrix built, as one in place. -/
theorem RowsG.mat {w : World} {ob base : Nat} {g cap : Nat} {tags : List (Nat × Nat × Nat)} {m : List (List Int)} (h : RowsG w ob base (.slice (some ⟨g, 0, none⟩) m.length cap) tags m) (hob : base ≤ ob) :
    MatG w g tags m ∧ m.length ≤ cap ∧ cap ≤ maxLen ∧ ∀ b, blocksOf g tags b → base ≤ b := by
  have hc := h.own.cells (g := g) (by simp [Value.ownBlock])
  have hf := fun j => h.own.frozenAt j
  rcases h.own.2 with ⟨hv, _⟩ | ⟨g', cap', cur, hv, hb, hg, h1, h2, h3, h4⟩
  · simp at hv
  · simp only [Value.slice.injEq, Option.some.injEq, Addr.mk.injEq] at hv
    obtain ⟨⟨rfl, -, -⟩, -, rfl⟩ := hv
    refine ⟨⟨h.len, (Array.getElem?_eq_some_iff.1 hg).1, fun j => hf j, fun i t r ht hr => ?_, ?_⟩, h1, h2, fun b hb2 => ?_⟩
    · obtain ⟨k1, k2, k3, k4, k5⟩ := h.row i t r ht hr
      refine ⟨?_, k1, k2, k3⟩
      have := hc i (tagV t r.length) (by unfold tagVs; rw [List.getElem?_zipWith, ht, hr])
      rw [show (⟨g, 0, none⟩ : Addr).add i = ⟨g, i, none⟩ by unfold Addr.add; split <;> simp_all] at this
      exact this
    · rw [List.nodup_cons]
      refine ⟨fun hm => ?_, h.nodup⟩
      obtain ⟨t, ht, rfl⟩ := List.mem_map.1 hm
      obtain ⟨i, hi⟩ := List.getElem?_of_mem ht
      have hl : i < m.length := by rw [← h.len]; exact (List.getElem?_eq_some_iff.1 hi).1
      exact (h.row i t m[i] hi (List.getElem?_eq_getElem hl)).2.2.2.2 rfl
    · rcases List.mem_cons.1 hb2 with rfl | hb2
      · exact Nat.le_trans hob hb
      · obtain ⟨t, ht, rfl⟩ := List.mem_map.1 hb2
        obtain ⟨i, hi⟩ := List.getElem?_of_mem ht
        have hl : i < m.length := by rw [← h.len]; exact (List.getElem?_eq_some_iff.1 hi).1
        exact (h.row i t m[i] hi (List.getElem?_eq_getElem hl)).2.2.2.1

/-- 'out = append(out, r)': one row more. -/
theorem wpList_append_rowG (w : World) {ops : Array Oper} {rest : List Oper} {o : Oper} {a : Act} {Q : Exit → Act → World → Prop} (hgd : o.guard = none)
    (s x : Operand) (ho : o.op = Op.call { callee := Callee.builtin Builtin.append, args := #[s, x], argTypes := #[29, 29] }) (ob base : Nat)
    (v : Value) (tags : List (Nat × Nat × Nat)) (m : List (List Int)) (t : Nat × Nat × Nat) (r : List Int) (u : Array Value) (T : TypeId) (hs : a.eval s = v) (hB : RowsG w ob base v tags m)
    (hx : a.eval x = .slice (some ⟨w.heap.size, 0, none⟩) 1 1) (hu : u = #[tagV t r.length]) (hr1 : r.length ≤ t.2.2) (hr2 : t.2.2 ≤ maxLen) (hR : RowG w t.1 t.2.1 r) (hb : base ≤ t.1) (hv : v.ownBlock ≠ some t.1) (hn : t.1 ∉ tags.map (·.1))
    (hlen : m.length < 1000000) (hbase : ob ≤ w.heap.size)
    (h : ∀ v' w', RowsG w' ob base v' (tags ++ [t]) (m ++ [r]) → Below ob w w' → Hid (∃ g c, v' = .slice (some ⟨g, 0, none⟩) (m.length + 1) c) → wpList Tryz.prog ops Q rest (a.put o.dst v') w') :
    wpList Tryz.prog ops Q (o :: rest) a (w.alloc (.cells u T)) := by
  refine wpList_plain hgd fun K hK => ?_
  subst hu
  obtain ⟨i0, hi, hz, hsize, hby⟩ := info_parts infoRow
  have hadd : ∀ j, (⟨w.heap.size, 0, none⟩ : Addr).add j = ⟨w.heap.size, j, none⟩ := by intro j; unfold Addr.add; split <;> simp_all
  have hE : Ext w (w.alloc (.cells #[tagV t r.length] T)) := Ext.alloc _ _
  refine wp_append_own_at (w.alloc (.cells #[tagV t r.length] T)) s x 29 ho ob 37 i0 (.slice none 0 0) 1 24 Tryz.underlying29 hi hz hsize hby rfl (by decide) v m.length (tagVs tags m) hs (owns_ext hB.own hE) ⟨w.heap.size, 0, none⟩ 1 1 [tagV t r.length] hx rfl ?_ ?_ ?_ ?_ ?_ ?_
  · intro j q hq
    rw [hadd, World.cell?_alloc_new]
    simpa using hq
  · intro u hu
    rw [List.mem_singleton.1 hu]; rfl
  · unfold maxLen; omega
  · omega
  · simp; omega
  · intro v' w' hown hgrow _ hat
    have hLB := (hB.ext hE).snoc t r hr1 hr2 (hR.ext hE) hb hv hn hown hgrow (by
      rcases hat with h1 | h1
      · exact .inl h1
      · exact .inr ⟨_, h1, Nat.le_refl _⟩)
    refine hK _ _ (h v' w' hLB ?_ ?_)
    · have hgw : w.grownBy w' v.ownBlock := grown_trans (hE.grown _) hgrow
      refine ⟨hgw.os, hgw.tape, hgw.output, hgw.size, fun b hb2 => hgw.block b (by omega) ?_⟩
      intro e
      have := (hB.own.lt b e.symm).1
      omega
    · obtain ⟨g, c, hv', -⟩ := owns_shape hown (by omega)
      exact ⟨g, c, hv'⟩

end Go.Proofs.YtjihfabhgcfjnaaGreatDoor
/- Contracts of reference 09: abs, Floor, less. -/
namespace Go.Proofs.YtjihfabhgcfjnaaGreatDoor
set_option linter.unusedVariables false
set_option linter.unusedSimpArgs false
open Go.RowKit

theorem RowF.rowG {w : World} {g : Nat} {xs : List Int} (h : RowF w g xs) : RowG w g 0 xs := ⟨h.lt, fun j x hx => by rw [Nat.zero_add]; exact h.cell j x hx, h.free⟩

set_option maxRecDepth 100000 in
theorem abs9_any (x : Int) (w : World) (h : -9000000000000000000 ≤ x ∧ x ≤ 9000000000000000000) :
    Calls Tryz.prog 101 #[.int .i64 x] w fun e w' => e = .returned (.int .i64 (x.natAbs : Int)) ∧ w' = w := by
  go_enter Tryz.func101, Tryz.ntmps101
  by_cases hx : x < 0
  · have e1 := decide_eq_true hx
    have e2 : -x = (x.natAbs : Int) := by omega
    go_wp2_with fail
    go_ret
    exact ⟨rfl, rfl⟩
  · have e1 := decide_eq_false hx
    have E2 : Hid (x = (x.natAbs : Int)) := by unfold Hid; omega
    go_wp2_with fail
    go_ret
    exact ⟨congrArg (fun z => Ending.returned (.int .i64 z)) E2.out, rfl⟩

set_option maxRecDepth 100000 in
theorem floor9_any (x y : Int) (w : World) (h : -9000000000000000000 ≤ x ∧ x ≤ 9000000000000000000) (hy : 0 < y) (hy2 : y ≤ 9000000000000000000) :
    Calls Tryz.prog 52 #[.int .i64 x, .int .i64 y] w fun e w' => e = .returned (.int .i64 (fdq x y)) ∧ w' = w := by
  have hq : (x.tdiv y).natAbs ≤ x.natAbs := by
    rw [Int.natAbs_tdiv]; exact Nat.div_le_self _ _
  have hy0 : y ≠ 0 := by omega
  have hf : fdq x y = if x.tmod y < 0 then x.tdiv y - 1 else x.tdiv y := by
    unfold fdq
    have : decide (y < 0) = false := decide_eq_false (by omega)
    rw [this]
    by_cases ht : x.tmod y < 0
    · rw [if_pos ⟨by omega, by simp [ht]⟩, if_pos ht]
    · rw [if_neg (by simp [ht]), if_neg ht]
  have hb1 : -9223372036854775808 ≤ x.tdiv y - 1 ∧ x.tdiv y ≤ 9223372036854775807 := by omega
  have hm : -9223372036854775808 ≤ x.tmod y ∧ x.tmod y ≤ 9223372036854775807 := by
    have h1 := Int.mul_tdiv_add_tmod x y
    have h2 : (x.tmod y).natAbs ≤ x.natAbs := by rw [Int.natAbs_tmod]; exact Nat.mod_le _ _
    omega
  go_enter Tryz.func52, Tryz.ntmps52
  by_cases ht : x.tmod y < 0
  · have e1 := decide_eq_true ht
    rw [if_pos ht] at hf
    go_wp2_with fail
    go_ret
    exact ⟨by first | rfl | (rw [hf]; rfl), rfl⟩
  · have e1 := decide_eq_false ht
    rw [if_neg ht] at hf
    go_wp2_with fail
    go_ret
    exact ⟨by first | rfl | (rw [hf]; rfl), rfl⟩

set_option maxRecDepth 100000 in
set_option maxHeartbeats 2000000 in
/-- A multiple of a row is taken away from another one. -/
theorem less9_any (k : Int) (r s : List Int) (g o c gs os cs : Nat) (w : World) (hr : RowG w g o r) (hs : RowG w gs os s) (hne : gs ≠ g) (hlen : s.length = r.length)
    (hc : r.length ≤ c) (hc2 : c ≤ maxLen) (hcs2 : s.length ≤ cs) (hcs3 : cs ≤ maxLen)
    (hb : ∀ j : Nat, j < r.length → (-9223372036854775808 ≤ k * s.getD j 0 ∧ k * s.getD j 0 ≤ 9223372036854775807) ∧ (-9223372036854775808 ≤ r.getD j 0 - k * s.getD j 0 ∧ r.getD j 0 - k * s.getD j 0 ≤ 9223372036854775807)) :
    Calls Tryz.prog 53 #[.slice (some ⟨g, o, none⟩) r.length c, .slice (some ⟨gs, os, none⟩) s.length cs, .int .i64 k] w fun e w' => e = .returned (.tuple #[]) ∧ GrownS (· = g) w w' ∧ RowG w' g o (lessL k r s) := by
  have HR := Lib.hid hr; have HSS := Lib.hid hs; have HBD := Lib.hid hb
  unfold maxLen at hc2 hcs3
  have hle1 : s.length ≤ r.length := by omega
  have hle2 : r.length ≤ s.length := by omega
  clear hr hs hb hlen
  go_enter Tryz.func53, Tryz.ntmps53
  go_wp2_with fail
  go_loopw [6] (fun t wr => ∃ j : Nat, j ≤ r.length ∧ t = .int .i64 j ∧ Hid (GrownS (· = g) w wr) ∧ Hid (RowG wr g o (lessP k r s j))) (fun t _ => r.length - (intOf t).toNat)
  case atStart => exact ⟨0, by omega, rfl, GrownS.refl _ _, by rw [lessP_zero]; exact HR.out⟩
  case round =>
    obtain ⟨j, hj, rfl, HG, HP⟩ := hrel
    obtain ⟨wo, rfl⟩ : ∃ wo : World, wo = wr := ⟨_, rfl⟩
    by_cases hlt : j < r.length
    · obtain ⟨b, hbj⟩ : ∃ b, s[j]? = some b := ⟨s[j]'(by omega), List.getElem?_eq_getElem _⟩
      obtain ⟨a, haj⟩ : ∃ a, r[j]? = some a := ⟨r[j], List.getElem?_eq_getElem hlt⟩
      have hlts : j < s.length := by omega
      have g0 := (HSS.out.grown HG.out (by exact hne)).cell j b hbj
      have g1 := HP.out.cell j a (lessP_get k r s j a haj)
      have f1 := HP.out.free (o + j)
      have hbd := HBD.out j hlt
      rw [List.getD_eq_getElem?_getD, List.getD_eq_getElem?_getD, haj, hbj] at hbd
      simp only [Option.getD_some] at hbd
      obtain ⟨⟨m1, m2⟩, m3, m4⟩ := hbd
      have HSET : Hid (∀ W, Ext wo W → RowG (W.setCell ⟨g, o + j, none⟩ (.int .i64 (a - k * b))) g o (lessP k r s (j + 1))) := fun W hE => by
        rw [← lessP_set k r s j a b haj hbj]
        exact (HP.out.ext hE).set j (by rw [lessP_len]; exact hlt) _
      clear hbj haj
      go_upto_region 3 with fail
      go_region
      all_goals
        go_wp2_with fail
        go_roundw
        case rel => exact ⟨j + 1, by omega, by go_num, (HG.out.ext (Ext.drew _)).setCell rfl _ _, HSET.out _ (Ext.drew _)⟩
        case measure => simp [intOf]; omega
    · have HF : Hid (RowG wo g o (lessL k r s)) := by
        unfold Hid; rw [← lessP_all k r s j (by omega)]; exact HP.out
      go_wp2_with fail
      refine bodyPost_end (results_none rfl _ _ _) rfl ⟨rfl, HG.out, HF.out⟩

end Go.Proofs.YtjihfabhgcfjnaaGreatDoor
