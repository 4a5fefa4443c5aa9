/- Merged: MatQ, RedS, RegE, UnitQ. -/
import Derived.Test.YtpeinobepiodaaaGreatDoorGF
import Derived.Deep.RegionHeld3
/- Matrices of rationals as package table holds them: an outer row of slices, each row in a block of its own from cell 0 on. -/
namespace Go.Proofs.YtpeinobepiodaaaGreatDoor
set_option linter.unusedVariables false
set_option linter.unusedSimpArgs false
open Go.RowKit

theorem cell_of_heapQ {w w' : World} {g : Nat} (h : w'.heap[g]? = w.heap[g]?) (j : Nat) : w'.cell? ⟨g, j, none⟩ = w.cell? ⟨g, j, none⟩ := by
  simp [World.cell?, h]
theorem free_of_heapQ {w w' : World} {g : Nat} (h : w'.heap[g]? = w.heap[g]?) (j : Nat) : w'.frozen? ⟨g, j, none⟩ = w.frozen? ⟨g, j, none⟩ := by
  simp [World.frozen?, h]
theorem setCell_sizeQ (w : World) (a : Addr) (v : Value) : (w.setCell a v).heap.size = w.heap.size := by simp [World.setCell]
/-- A row of rationals at block g, that may be written. -/
structure RowQ (w : World) (g : Nat) (xs : List Rat) : Prop where
  lt : g < w.heap.size
  num : ∀ (j : Nat) x, xs[j]? = some x → w.cell? ⟨g, j * 2, none⟩ = some (.string (intB x.num))
  den : ∀ (j : Nat) x, xs[j]? = some x → w.cell? ⟨g, j * 2 + 1, none⟩ = some (.string (numB x.den))
  free : ∀ j, w.frozen? ⟨g, j, none⟩ = false
theorem RowQ.same {w w' : World} {g : Nat} {xs : List Rat} (h : RowQ w g xs) (hs : w.heap.size ≤ w'.heap.size) (hg : w'.heap[g]? = w.heap[g]?) : RowQ w' g xs :=
  ⟨Nat.lt_of_lt_of_le h.lt hs, fun j x hx => (cell_of_heapQ hg _).trans (h.num j x hx), fun j x hx => (cell_of_heapQ hg _).trans (h.den j x hx), fun j => (free_of_heapQ hg j).trans (h.free j)⟩
theorem RowQ.ext {w w' : World} {g : Nat} {xs : List Rat} (h : RowQ w g xs) (he : Ext w w') : RowQ w' g xs := h.same he.size (he.block g h.lt)
theorem RowQ.grown {w w' : World} {S : Nat → Prop} {g : Nat} {xs : List Rat} (h : RowQ w g xs) (hg : GrownS S w w') (hS : ¬ S g) : RowQ w' g xs := h.same hg.size (hg.block g h.lt hS)
theorem frozen_set (w : World) (g i j : Nat) (v : Value) : (w.setCell ⟨g, i, none⟩ v).frozen? ⟨g, j, none⟩ = w.frozen? ⟨g, j, none⟩ := by
  exact World.frozen?_setCell ..
theorem RowQ.set {w : World} {g : Nat} {xs : List Rat} (h : RowQ w g xs) (k : Nat) (hk : k < xs.length) (y : Rat) :
    RowQ ((w.setCell ⟨g, k * 2, none⟩ (.string (intB y.num))).setCell ⟨g, k * 2 + 1, none⟩ (.string (numB y.den))) g (xs.set k y) := by
  have hx : xs[k]? = some xs[k] := List.getElem?_eq_getElem hk
  have c0 := h.num k _ hx
  have c1 := h.den k _ hx
  refine ⟨by rw [setCell_sizeQ, setCell_sizeQ]; exact h.lt, fun j x hj => ?_, fun j x hj => ?_, fun j => by rw [frozen_set, frozen_set]; exact h.free j⟩
  all_goals
    rw [List.getElem?_set] at hj
    by_cases e : k = j
    · subst e
      rw [if_pos rfl, if_pos hk] at hj
      cases hj
      first
        | (rw [World.cell?_setCell_other _ _ _ _ (by intro e; simp only [Addr.mk.injEq] at e; omega)]
           exact World.cell?_setCell_same w _ _ c0)
        | (refine World.cell?_setCell_same _ _ (v := .string (numB xs[k].den)) _ ?_
           rw [World.cell?_setCell_other _ _ _ _ (by intro e; simp only [Addr.mk.injEq] at e; omega)]
           exact c1)
        | (exact World.cell?_setCell_same _ _ _ ((World.cell?_setCell_other _ _ _ _ (by intro e; simp only [Addr.mk.injEq] at e; omega)).trans c1))
    · rw [if_neg e] at hj
      rw [World.cell?_setCell_other _ _ _ _ (by intro e; simp only [Addr.mk.injEq] at e; omega), World.cell?_setCell_other _ _ _ _ (by intro e; simp only [Addr.mk.injEq] at e; omega)]
      first | exact h.num j x hj | exact h.den j x hj

/-- The rows of a matrix: an outer row at block g0; tags: each row's block and capacity. -/
structure MatQ (w : World) (g0 : Nat) (tags : List (Nat × Nat)) (m : List (List Rat)) : Prop where
  len : tags.length = m.length
  lt : g0 < w.heap.size
  free : ∀ j, w.frozen? ⟨g0, j, none⟩ = false
  row : ∀ (i : Nat) t r, tags[i]? = some t → m[i]? = some r → w.cell? ⟨g0, i, none⟩ = some (.slice (some ⟨t.1, 0, none⟩) r.length t.2) ∧ r.length ≤ t.2 ∧ t.2 ≤ 9223372036854775807 ∧ RowQ w t.1 r
  nodup : (g0 :: tags.map (·.1)).Nodup
def blocksQ (g0 : Nat) (tags : List (Nat × Nat)) (b : Nat) : Prop := b ∈ g0 :: tags.map (·.1)
theorem MatQ.same {w w' : World} {g0 : Nat} {tags : List (Nat × Nat)} {m : List (List Rat)} (h : MatQ w g0 tags m) (hs : w.heap.size ≤ w'.heap.size) (hb : ∀ b, blocksQ g0 tags b → w'.heap[b]? = w.heap[b]?) : MatQ w' g0 tags m := by
  have h0 := hb g0 (List.mem_cons_self ..)
  refine ⟨h.len, Nat.lt_of_lt_of_le h.lt hs, fun j => (free_of_heapQ h0 j).trans (h.free j), fun i t r ht hr => ?_, h.nodup⟩
  obtain ⟨h1, h2, h3, h4⟩ := h.row i t r ht hr
  exact ⟨(cell_of_heapQ h0 i).trans h1, h2, h3, h4.same hs (hb t.1 (List.mem_cons_of_mem _ (List.mem_map.2 ⟨t, List.mem_of_getElem? ht, rfl⟩)))⟩
theorem MatQ.blt {w : World} {g0 : Nat} {tags : List (Nat × Nat)} {m : List (List Rat)} (h : MatQ w g0 tags m) {b : Nat} (hb : blocksQ g0 tags b) : b < w.heap.size := by
  rcases List.mem_cons.1 hb with rfl | hb
  · exact h.lt
  · obtain ⟨t, ht, rfl⟩ := List.mem_map.1 hb
    obtain ⟨i, hi⟩ := List.getElem?_of_mem ht
    have hl : i < m.length := by rw [← h.len]; exact (List.getElem?_eq_some_iff.1 hi).1
    exact (h.row i t m[i] hi (List.getElem?_eq_getElem hl)).2.2.2.lt
theorem MatQ.ext {w w' : World} {g0 : Nat} {tags : List (Nat × Nat)} {m : List (List Rat)} (h : MatQ w g0 tags m) (he : Ext w w') : MatQ w' g0 tags m :=
  h.same he.size fun b hb => he.block b (h.blt hb)
/-- What is written lies elsewhere. -/
theorem MatQ.grown {w w' : World} {S : Nat → Prop} {g0 : Nat} {tags : List (Nat × Nat)} {m : List (List Rat)} (h : MatQ w g0 tags m) (hg : GrownS S w w') (hS : ∀ b, blocksQ g0 tags b → ¬ S b) : MatQ w' g0 tags m :=
  h.same hg.size fun b hb => hg.block b (h.blt hb) (hS b hb)
theorem MatQ.get {w : World} {g0 : Nat} {tags : List (Nat × Nat)} {m : List (List Rat)} (h : MatQ w g0 tags m) {i : Nat} {r : List Rat} (hr : m[i]? = some r) :
    ∃ t, tags[i]? = some t ∧ w.cell? ⟨g0, i, none⟩ = some (.slice (some ⟨t.1, 0, none⟩) r.length t.2) ∧ r.length ≤ t.2 ∧ t.2 ≤ 9223372036854775807 ∧ RowQ w t.1 r ∧ t.1 ≠ g0 ∧ blocksQ g0 tags t.1 := by
  have hi := (List.getElem?_eq_some_iff.1 hr).1
  have hl : i < tags.length := by rw [h.len]; exact hi
  have := h.row i tags[i] r (List.getElem?_eq_getElem hl) hr
  refine ⟨tags[i], List.getElem?_eq_getElem hl, this.1, this.2.1, this.2.2.1, this.2.2.2, ?_, List.mem_cons_of_mem _ (List.mem_map.2 ⟨tags[i], List.getElem_mem hl, rfl⟩)⟩
  have hn := (List.nodup_cons.1 h.nodup).1
  intro e2
  exact hn (List.mem_map.2 ⟨tags[i], List.getElem_mem hl, e2⟩)
theorem MatQ.apart {w : World} {g0 : Nat} {tags : List (Nat × Nat)} {m : List (List Rat)} (h : MatQ w g0 tags m) {i j : Nat} {s t : Nat × Nat} (hs : tags[i]? = some s) (ht : tags[j]? = some t) (hij : i ≠ j) : s.1 ≠ t.1 := by
  have hn := (List.nodup_cons.1 h.nodup).2
  intro e
  have h1 : (tags.map (·.1))[i]? = some s.1 := by rw [List.getElem?_map, hs]; rfl
  have h2 : (tags.map (·.1))[j]? = some s.1 := by rw [List.getElem?_map, ht, e]; rfl
  obtain ⟨l1, e1⟩ := List.getElem?_eq_some_iff.1 h1
  obtain ⟨l2, e2⟩ := List.getElem?_eq_some_iff.1 h2
  exact hij ((List.getElem_inj hn).1 (e1.trans e2.symm))
/-- One row is written. -/
theorem MatQ.setRow {w w' : World} {g0 : Nat} {tags : List (Nat × Nat)} {m : List (List Rat)} (h : MatQ w g0 tags m) {i : Nat} {t : Nat × Nat} {r r0 : List Rat} (ht : tags[i]? = some t) (hr0 : m[i]? = some r0) (hr : r.length = r0.length) (hg : GrownS (· = t.1) w w') (hR : RowQ w' t.1 r) : MatQ w' g0 tags (m.set i r) := by
  have hi := (List.getElem?_eq_some_iff.1 hr0).1
  obtain ⟨t', ht', -, -, -, -, hne, -⟩ := h.get hr0
  obtain rfl : t' = t := Option.some.inj (ht'.symm.trans ht)
  have h0 := hg.block g0 h.lt (fun e => hne e.symm)
  refine ⟨by rw [List.length_set]; exact h.len, Nat.lt_of_lt_of_le h.lt hg.size, fun j => (free_of_heapQ h0 j).trans (h.free j), fun j s q hs hq => ?_, h.nodup⟩
  rw [List.getElem?_set] at hq
  by_cases hj : i = j
  · subst hj
    rw [if_pos rfl, if_pos hi] at hq
    cases hq
    obtain rfl : s = t' := Option.some.inj (hs.symm.trans ht)
    obtain ⟨h1, h2, h3, h4⟩ := h.row i s r0 hs hr0
    rw [← hr] at h1 h2
    exact ⟨(cell_of_heapQ h0 i).trans h1, h2, h3, hR⟩
  · rw [if_neg hj] at hq
    obtain ⟨h1, h2, h3, h4⟩ := h.row j s q hs hq
    exact ⟨(cell_of_heapQ h0 j).trans h1, h2, h3, h4.grown hg (h.apart hs ht (fun e => hj e.symm))⟩
/-- Two elements exchanged. -/
def swp {α : Type} (l : List α) (i j : Nat) : List α := match l[i]?, l[j]? with
  | some a, some b => (l.set i b).set j a
  | _, _ => l
theorem swp_length {α : Type} (l : List α) (i j : Nat) : (swp l i j).length = l.length := by
  unfold swp; split <;> simp
theorem swp_get {α : Type} {l : List α} {i j : Nat} {a b : α} (hi : l[i]? = some a) (hj : l[j]? = some b) (k : Nat) : (swp l i j)[k]? = if k = j then some a else if k = i then some b else l[k]? := by
  have h1 := (List.getElem?_eq_some_iff.1 hi).1
  have h2 := (List.getElem?_eq_some_iff.1 hj).1
  unfold swp
  rw [hi, hj]
  show ((l.set i b).set j a)[k]? = _
  rw [List.getElem?_set, List.getElem?_set, List.length_set]
  by_cases e1 : j = k
  · subst e1; simp [h2]
  · by_cases e2 : i = k
    · subst e2; simp [e1, h1, Ne.symm e1]
    · simp [e1, e2, Ne.symm e1, Ne.symm e2]
theorem swp_map {α β : Type} (f : α → β) (l : List α) (i j : Nat) : (swp l i j).map f = swp (l.map f) i j := by
  unfold swp
  rw [List.getElem?_map, List.getElem?_map]
  cases l[i]? <;> cases l[j]? <;> simp [List.map_set]
theorem swp_nodup {α : Type} {l : List α} (h : l.Nodup) (i j : Nat) : (swp l i j).Nodup := by
  by_cases hb : i < l.length ∧ j < l.length
  · obtain ⟨h1, h2⟩ := hb
    have hi : l[i]? = some l[i] := List.getElem?_eq_getElem h1
    have hj : l[j]? = some l[j] := List.getElem?_eq_getElem h2
    have inj : ∀ p q, p < l.length → q < l.length → l[p]? = l[q]? → p = q := by
      intro p q hp hq e
      rw [List.getElem?_eq_getElem hp, List.getElem?_eq_getElem hq] at e
      exact (List.getElem_inj h).1 (Option.some.inj e)
    refine List.pairwise_iff_getElem.2 fun p q hp0 hq0 hpq e0 => ?_
    have e : (swp l i j)[p]? = (swp l i j)[q]? := by rw [List.getElem?_eq_getElem hp0, List.getElem?_eq_getElem hq0, e0]
    have hq : q < l.length := by rw [swp_length] at hq0; exact hq0
    rw [swp_get hi hj, swp_get hi hj, ← hi, ← hj] at e
    have hp : p < l.length := by omega
    have hsg : ∀ k, (if k = j then l[i]? else if k = i then l[j]? else l[k]?) = l[if k = j then i else if k = i then j else k]? := by
      intro k
      by_cases a : k = j
      · rw [if_pos a, if_pos a]
      · rw [if_neg a, if_neg a]
        by_cases b : k = i
        · rw [if_pos b, if_pos b]
        · rw [if_neg b, if_neg b]
    have hsl : ∀ k, k < l.length → (if k = j then i else if k = i then j else k) < l.length := by
      intro k hk
      by_cases a : k = j
      · rw [if_pos a]; exact h1
      · rw [if_neg a]
        by_cases b : k = i
        · rw [if_pos b]; exact h2
        · rw [if_neg b]; exact hk
    rw [hsg, hsg] at e
    have e2 := inj _ _ (hsl p hp) (hsl q hq) e
    have key : ∀ k, (if k = j then i else if k = i then j else k) = i ∧ k = j ∨ (if k = j then i else if k = i then j else k) = j ∧ k = i ∨ (if k = j then i else if k = i then j else k) = k ∧ k ≠ j ∧ k ≠ i := by
      intro k
      by_cases a : k = j
      · left; exact ⟨if_pos a, a⟩
      · by_cases b : k = i
        · right; left; exact ⟨by rw [if_neg a, if_pos b], b⟩
        · right; right; exact ⟨by rw [if_neg a, if_neg b], a, b⟩
    have kp := key p
    have kq := key q
    generalize (if p = j then i else if p = i then j else p) = P at *
    generalize (if q = j then i else if q = i then j else q) = Q at *
    omega
  · have : swp l i j = l := by
      unfold swp
      by_cases h1 : i < l.length
      · rw [List.getElem?_eq_getElem h1, List.getElem?_eq_none (show l.length ≤ j by omega)]
      · rw [List.getElem?_eq_none (show l.length ≤ i by omega)]
    rw [this]; exact h
/-- Two rows are exchanged. -/
theorem MatQ.swap {w : World} {g0 : Nat} {tags : List (Nat × Nat)} {m : List (List Rat)} (h : MatQ w g0 tags m) {i j : Nat} {s t : Nat × Nat} {p q : List Rat} (hs : tags[i]? = some s) (ht : tags[j]? = some t) (hp : m[i]? = some p) (hq : m[j]? = some q) :
    MatQ ((w.setCell ⟨g0, i, none⟩ (.slice (some ⟨t.1, 0, none⟩) q.length t.2)).setCell ⟨g0, j, none⟩ (.slice (some ⟨s.1, 0, none⟩) p.length s.2)) g0 (swp tags i j) (swp m i j) := by
  have hgr : GrownS (· = g0) w ((w.setCell ⟨g0, i, none⟩ (.slice (some ⟨t.1, 0, none⟩) q.length t.2)).setCell ⟨g0, j, none⟩ (.slice (some ⟨s.1, 0, none⟩) p.length s.2)) := ((GrownS.refl (· = g0) w).store (S := (· = g0)) rfl _ _).store (S := (· = g0)) rfl _ _
  have ci := (h.row i s p hs hp).1
  have cj := (h.row j t q ht hq).1
  refine ⟨by rw [swp_length, swp_length]; exact h.len, by rw [setCell_sizeQ, setCell_sizeQ]; exact h.lt, fun k => by rw [frozen_set, frozen_set]; exact h.free k, fun k u r hu hr => ?_, ?_⟩
  · rw [swp_get hs ht] at hu
    rw [swp_get hp hq] at hr
    have hrow : ∀ (k : Nat) u r, tags[k]? = some u → m[k]? = some r → RowQ ((w.setCell ⟨g0, i, none⟩ (.slice (some ⟨t.1, 0, none⟩) q.length t.2)).setCell ⟨g0, j, none⟩ (.slice (some ⟨s.1, 0, none⟩) p.length s.2)) u.1 r := by
      intro k u r hu hr
      obtain ⟨u', hu', -, -, -, hR, hne, -⟩ := h.get hr
      obtain rfl : u' = u := Option.some.inj (hu'.symm.trans hu)
      exact hR.grown hgr hne
    by_cases e1 : k = j
    · subst e1
      rw [if_pos rfl] at hu hr
      cases hu; cases hr
      obtain ⟨_, h2, h3, _⟩ := h.row i s p hs hp
      refine ⟨?_, h2, h3, hrow i s p hs hp⟩
      by_cases e2 : i = k
      · subst e2
        exact World.cell?_setCell_same _ _ _ (World.cell?_setCell_same w _ _ ci)
      · exact World.cell?_setCell_same _ _ _ ((World.cell?_setCell_other _ _ _ _ (by intro e; simp only [Addr.mk.injEq] at e; omega)).trans cj)
    · rw [if_neg e1] at hu hr
      by_cases e2 : k = i
      · subst e2
        rw [if_pos rfl] at hu hr
        cases hu; cases hr
        obtain ⟨_, h2, h3, _⟩ := h.row j t q ht hq
        refine ⟨?_, h2, h3, hrow j t q ht hq⟩
        rw [World.cell?_setCell_other _ _ _ _ (by intro e; simp only [Addr.mk.injEq] at e; omega)]
        exact World.cell?_setCell_same w _ _ ci
      · rw [if_neg e2] at hu hr
        obtain ⟨h1, h2, h3, _⟩ := h.row k u r hu hr
        refine ⟨?_, h2, h3, hrow k u r hu hr⟩
        rw [World.cell?_setCell_other _ _ _ _ (by intro e; simp only [Addr.mk.injEq] at e; omega), World.cell?_setCell_other _ _ _ _ (by intro e; simp only [Addr.mk.injEq] at e; omega)]
        exact h1
  · have hn := List.nodup_cons.1 h.nodup
    rw [swp_map]
    refine List.nodup_cons.2 ⟨?_, swp_nodup hn.2 i j⟩
    intro hm
    refine hn.1 ?_
    obtain ⟨k, hk⟩ := List.getElem?_of_mem hm
    have a1 : (tags.map (·.1))[i]? = some s.1 := by rw [List.getElem?_map, hs]; rfl
    have a2 : (tags.map (·.1))[j]? = some t.1 := by rw [List.getElem?_map, ht]; rfl
    rw [swp_get a1 a2] at hk
    by_cases e1 : k = j
    · rw [if_pos e1] at hk; cases hk; exact List.mem_of_getElem? a1
    · rw [if_neg e1] at hk
      by_cases e2 : k = i
      · rw [if_pos e2] at hk; cases hk; exact List.mem_of_getElem? a2
      · rw [if_neg e2] at hk; exact List.mem_of_getElem? hk
theorem swp_blocks {g0 : Nat} {tags : List (Nat × Nat)} {i j b : Nat} {s t : Nat × Nat} (hs : tags[i]? = some s) (ht : tags[j]? = some t) : blocksQ g0 (swp tags i j) b ↔ blocksQ g0 tags b := by
  have key : ∀ x : Nat × Nat, x ∈ swp tags i j ↔ x ∈ tags := by
    intro x
    constructor
    · intro hm
      obtain ⟨k, hk⟩ := List.getElem?_of_mem hm
      rw [swp_get hs ht] at hk
      by_cases e1 : k = j
      · rw [if_pos e1] at hk; cases hk; exact List.mem_of_getElem? hs
      · rw [if_neg e1] at hk
        by_cases e2 : k = i
        · rw [if_pos e2] at hk; cases hk; exact List.mem_of_getElem? ht
        · rw [if_neg e2] at hk; exact List.mem_of_getElem? hk
    · intro hm
      obtain ⟨k, hk⟩ := List.getElem?_of_mem hm
      by_cases e1 : k = i
      · subst e1
        rw [hs] at hk; cases hk
        exact List.mem_of_getElem? (by rw [swp_get hs ht, if_pos rfl] : (swp tags k j)[j]? = some s)
      · by_cases e2 : k = j
        · subst e2
          rw [ht] at hk; cases hk
          exact List.mem_of_getElem? (by rw [swp_get hs ht, if_neg (Ne.symm e1), if_pos rfl] : (swp tags i k)[i]? = some t)
        · exact List.mem_of_getElem? (by rw [swp_get hs ht, if_neg e2, if_neg e1]; exact hk : (swp tags i j)[k]? = some x)
  unfold blocksQ
  simp only [List.mem_cons, List.mem_map, key]
end Go.Proofs.YtpeinobepiodaaaGreatDoor
/- The reduced form of rows of rationals as package table works it out (plain). -/
namespace Go.Proofs.YtpeinobepiodaaaGreatDoor
set_option linter.unusedVariables false
set_option linter.unusedSimpArgs false
open Go.RowKit

def rowQ (m : List (List Rat)) (i : Nat) : List Rat := m.getD i []
def elQ (m : List (List Rat)) (i c : Nat) : Rat := (rowQ m i).getD c 0
theorem rowQ_get {m : List (List Rat)} {i : Nat} {r : List Rat} (h : m[i]? = some r) : rowQ m i = r := by
  unfold rowQ; rw [List.getD_eq_getElem?_getD, h]; rfl
theorem get_rowQ {m : List (List Rat)} {i : Nat} (h : i < m.length) : m[i]? = some (rowQ m i) := by
  rw [rowQ_get (List.getElem?_eq_getElem h)]; exact List.getElem?_eq_getElem h
theorem elQ_get {m : List (List Rat)} {i c : Nat} {x : Rat} (h : (rowQ m i)[c]? = some x) : elQ m i c = x := by
  unfold elQ; rw [List.getD_eq_getElem?_getD, h]; rfl
/-- The first row from one on whose element in a column is not 0. -/
def findP (m : List (List Rat)) (c : Nat) : Nat → Nat → Nat
  | 0, a => a
  | f + 1, a => if elQ m a c = 0 then findP m c f (a + 1) else a
theorem findP_eq (m : List (List Rat)) (c : Nat) : ∀ (f a b : Nat), a ≤ b → b ≤ a + f → (∀ j, a ≤ j → j < b → elQ m j c = 0) → (b < a + f → elQ m b c ≠ 0) → findP m c f a = b
  | 0, a, b, h1, h2, _, _ => by show a = b; omega
  | f + 1, a, b, h1, h2, h3, h4 => by
    unfold findP
    by_cases hab : a = b
    · subst hab
      rw [if_neg (h4 (by omega))]
    · rw [if_pos (h3 a (Nat.le_refl _) (by omega))]
      exact findP_eq m c f (a + 1) b (by omega) (by omega) (fun j hj hb => h3 j (by omega) hb) (fun hb => h4 (by omega))

/-- The first j elements are new. -/
def partN {α : Type} (new old : List α) (j : Nat) : List α := new.take j ++ old.drop j
theorem partN_zero {α : Type} (new old : List α) : partN new old 0 = old := by simp [partN]
theorem partN_len {α : Type} (new old : List α) (j : Nat) (h : new.length = old.length) : (partN new old j).length = old.length := by
  unfold partN; rw [List.length_append, List.length_take, List.length_drop]; omega
theorem partN_all {α : Type} (new old : List α) (j : Nat) (h : new.length = old.length) (hj : old.length ≤ j) : partN new old j = new := by
  unfold partN; rw [List.take_of_length_le (by omega), List.drop_eq_nil_of_le hj, List.append_nil]
theorem partN_get {α : Type} {new old : List α} {j k : Nat} {a : α} (h : new.length = old.length) (hk : j ≤ k) (ho : old[k]? = some a) : (partN new old j)[k]? = some a := by
  have hl := (List.getElem?_eq_some_iff.1 ho).1
  unfold partN
  rw [List.getElem?_append_right (by rw [List.length_take]; omega), List.length_take, List.getElem?_drop, show j + (k - min j new.length) = k by omega]
  exact ho
theorem partN_set {α : Type} {new old : List α} {j : Nat} {a : α} (h : new.length = old.length) (hn : new[j]? = some a) : (partN new old j).set j a = partN new old (j + 1) := by
  have hl := (List.getElem?_eq_some_iff.1 hn).1
  have hj : j < old.length := by omega
  unfold partN
  rw [List.take_add_one, hn, List.set_append_right _ _ (by rw [List.length_take]; omega), List.length_take, show j - min j new.length = 0 by omega]
  have e := List.drop_eq_getElem_cons hj
  rw [e, List.set_cons_zero, List.append_assoc]
  rfl

def divRow (r : List Rat) (q : Rat) : List Rat := r.map (· / q)
def subRow (r s : List Rat) (f : Rat) : List Rat := List.zipWith (fun x y => x - f * y) r s
theorem divRow_get {r : List Rat} {q x : Rat} {j : Nat} (h : r[j]? = some x) : (divRow r q)[j]? = some (x / q) := by
  simp [divRow, h]
theorem subRow_get {r s : List Rat} {f x y : Rat} {j : Nat} (h : r[j]? = some x) (h' : s[j]? = some y) : (subRow r s f)[j]? = some (x - f * y) := by
  simp [subRow, List.getElem?_zipWith, h, h']
theorem divRow_len (r : List Rat) (q : Rat) : (divRow r q).length = r.length := by simp [divRow]
theorem subRow_len (r s : List Rat) (f : Rat) (h : s.length = r.length) : (subRow r s f).length = r.length := by simp [subRow, h]
/-- A row without its element in the pivot's column. -/
def elimR (p : List Rat) (c k i : Nat) (r : List Rat) : List Rat := if i = k ∨ r.getD c 0 = 0 then r else subRow r p (r.getD c 0)
def elimTo (m : List (List Rat)) (p : List Rat) (c k : Nat) : Nat → List (List Rat)
  | 0 => m
  | j + 1 => (elimTo m p c k j).set j (elimR p c k j (rowQ (elimTo m p c k j) j))
theorem elimTo_len (m : List (List Rat)) (p : List Rat) (c k j : Nat) : (elimTo m p c k j).length = m.length := by
  induction j with
  | zero => rfl
  | succ j ih => show ((elimTo m p c k j).set j _).length = _; rw [List.length_set, ih]
theorem elimTo_get (m : List (List Rat)) (p : List Rat) (c k : Nat) : ∀ (j i : Nat), j ≤ i → (elimTo m p c k j)[i]? = m[i]?
  | 0, i, _ => rfl
  | j + 1, i, h => by
    show ((elimTo m p c k j).set j _)[i]? = _
    rw [List.getElem?_set, if_neg (by omega)]
    exact elimTo_get m p c k j i (by omega)
theorem elimR_len {p : List Rat} {c k i : Nat} {r : List Rat} (h : p.length = r.length) : (elimR p c k i r).length = r.length := by
  unfold elimR; split
  · rfl
  · exact subRow_len _ _ _ h
/-- The pivot's row stays. -/
theorem elimTo_pivot (m : List (List Rat)) (p : List Rat) (c k : Nat) : ∀ j, (elimTo m p c k j)[k]? = m[k]?
  | 0 => rfl
  | j + 1 => by
    show ((elimTo m p c k j).set j _)[k]? = _
    by_cases h : j = k
    · subst h
      rw [List.getElem?_set, if_pos rfl]
      have e := elimTo_get m p c j j j (Nat.le_refl _)
      by_cases hl : j < m.length
      · rw [if_pos (by rw [elimTo_len]; exact hl)]
        unfold elimR
        rw [if_pos (.inl rfl)]
        rw [← e]
        exact (get_rowQ (by rw [elimTo_len]; exact hl)).symm
      · rw [if_neg (by rw [elimTo_len]; exact hl), List.getElem?_eq_none (by omega)]
    · rw [List.getElem?_set, if_neg h]
      exact elimTo_pivot m p c k j

structure RedSt where
  m : List (List Rat)
  lead : List Nat
  det : Rat
/-- One column. -/
def stepR (c : Nat) (s : RedSt) : RedSt :=
  let k := s.lead.length
  let a := findP s.m c (s.m.length - k) k
  if a = s.m.length then ⟨s.m, s.lead, 0⟩
  else
    let m1 := if a = k then s.m else swp s.m k a
    let d1 := if a = k then s.det else -s.det
    let f := elQ m1 k c
    let m2 := m1.set k (divRow (rowQ m1 k) f)
    ⟨elimTo m2 (divRow (rowQ m1 k) f) c k m2.length, s.lead ++ [c], d1 * f⟩
def redTo (m : List (List Rat)) : Nat → RedSt
  | 0 => ⟨m, [], 1⟩
  | c + 1 => stepR c (redTo m c)
/-- All rows have C elements. -/
def Rect (C : Nat) (m : List (List Rat)) : Prop := ∀ r ∈ m, r.length = C
theorem Rect.get {C : Nat} {m : List (List Rat)} (h : Rect C m) {i : Nat} {r : List Rat} (hr : m[i]? = some r) : r.length = C := h r (List.mem_of_getElem? hr)
theorem Rect.set {C : Nat} {m : List (List Rat)} (h : Rect C m) (i : Nat) {r : List Rat} (hr : r.length = C) : Rect C (m.set i r) := fun q hq => by
  rcases List.mem_or_eq_of_mem_set hq with hq | rfl
  · exact h q hq
  · exact hr
theorem Rect.swp {C : Nat} {m : List (List Rat)} (h : Rect C m) (i j : Nat) : Rect C (swp m i j) := by
  unfold Proofs.YtpeinobepiodaaaGreatDoor.swp
  split
  · rename_i a b ha hb
    exact (h.set i (h.get hb)).set j (h.get ha)
  · exact h
theorem Rect.elim {C : Nat} {m : List (List Rat)} (h : Rect C m) {p : List Rat} (hp : p.length = C) (c k : Nat) : ∀ j, j ≤ m.length → Rect C (elimTo m p c k j)
  | 0, _ => h
  | j + 1, hj => by
    have ih := Rect.elim h hp c k j (by omega)
    have hr := ih.get (get_rowQ (m := elimTo m p c k j) (i := j) (by rw [elimTo_len]; omega))
    exact ih.set j (by rw [elimR_len (by rw [hp, hr])]; exact hr)
theorem stepR_shape {C c : Nat} {s : RedSt} (h : Rect C s.m) (hk : s.lead.length ≤ s.m.length) : Rect C (stepR c s).m ∧ (stepR c s).m.length = s.m.length ∧ (stepR c s).lead.length ≤ s.m.length := by
  unfold stepR
  simp only
  by_cases ha : findP s.m c (s.m.length - s.lead.length) s.lead.length = s.m.length
  · rw [if_pos ha]; exact ⟨h, rfl, hk⟩
  · rw [if_neg ha]
    have hm1 : ∀ a, Rect C (if a = s.lead.length then s.m else Proofs.YtpeinobepiodaaaGreatDoor.swp s.m s.lead.length a) ∧ (if a = s.lead.length then s.m else Proofs.YtpeinobepiodaaaGreatDoor.swp s.m s.lead.length a).length = s.m.length := by
      intro a; split
      · exact ⟨h, rfl⟩
      · exact ⟨h.swp _ _, swp_length _ _ _⟩
    have hfl : ∀ f a, findP s.m c f a ≤ a + f := by
      intro f
      induction f with
      | zero => intro a; exact Nat.le_refl _
      | succ f ih => intro a; unfold findP; split
                     · have := ih (a + 1); omega
                     · omega
    have hlt : s.lead.length < s.m.length := by
      false_or_by_contra
      rename_i hn
      have e : s.m.length - s.lead.length = 0 := by omega
      rw [e] at ha
      exact ha (by show s.lead.length = _; omega)
    generalize findP s.m c (s.m.length - s.lead.length) s.lead.length = a at *
    obtain ⟨r1, r2⟩ := hm1 a
    generalize (if a = s.lead.length then s.m else Proofs.YtpeinobepiodaaaGreatDoor.swp s.m s.lead.length a) = m1 at *
    have hr := r1.get (get_rowQ (m := m1) (i := s.lead.length) (by omega))
    have hd : (divRow (rowQ m1 s.lead.length) (elQ m1 s.lead.length c)).length = C := by rw [divRow_len, hr]
    refine ⟨(r1.set _ hd).elim hd c _ _ (Nat.le_refl _), by rw [elimTo_len, List.length_set, r2], by rw [List.length_append]; simp; omega⟩
theorem redTo_shape {C : Nat} {m : List (List Rat)} (h : Rect C m) : ∀ c, Rect C (redTo m c).m ∧ (redTo m c).m.length = m.length ∧ (redTo m c).lead.length ≤ m.length
  | 0 => ⟨h, rfl, Nat.zero_le _⟩
  | c + 1 => by
    obtain ⟨h1, h2, h3⟩ := redTo_shape h c
    obtain ⟨k1, k2, k3⟩ := stepR_shape (c := c) h1 (by omega)
    exact ⟨k1, by show (stepR c (redTo m c)).m.length = _; omega, by show (stepR c (redTo m c)).lead.length ≤ _; omega⟩
/-- All elements are of at most K bytes. -/
def AllRS (K : Nat) (m : List (List Rat)) : Prop := ∀ r ∈ m, ∀ x ∈ r, RS K x
theorem AllRS.get {K : Nat} {m : List (List Rat)} (h : AllRS K m) {i j : Nat} {r : List Rat} {x : Rat} (hr : m[i]? = some r) (hx : r[j]? = some x) : RS K x := h r (List.mem_of_getElem? hr) x (List.mem_of_getElem? hx)
theorem AllRS.swp {K : Nat} {m : List (List Rat)} (h : AllRS K m) (i j : Nat) : AllRS K (Proofs.YtpeinobepiodaaaGreatDoor.swp m i j) := by
  unfold Proofs.YtpeinobepiodaaaGreatDoor.swp
  split
  · rename_i a b ha hb
    intro r hr x hx
    rcases List.mem_or_eq_of_mem_set hr with hr | rfl
    · rcases List.mem_or_eq_of_mem_set hr with hr | rfl
      · exact h r hr x hx
      · exact h _ (List.mem_of_getElem? hb) x hx
    · exact h _ (List.mem_of_getElem? ha) x hx
  · exact h
/-- Sizes of results. -/
theorem mkRat_size (n : Int) (d : Nat) (hd : d ≠ 0) : (intB (mkRat n d).num).size ≤ (intB n).size ∧ (numB (mkRat n d).den).size ≤ (numB d).size := by
  obtain ⟨h1, h2⟩ := mkRat_parts n d hd
  rw [h1, h2]
  exact ⟨ediv_size _ _, num_le_mono (Nat.div_le_self _ _)⟩
theorem mul_RS {K L : Nat} {x y : Rat} (hx : RS K x) (hy : RS L y) : RS (K + L + 1) (x * y) := by
  have h := mkRat_size (x.num * y.num) (x.den * y.den) (Nat.mul_ne_zero x.den_nz y.den_nz)
  rw [← Rat.mul_def'] at h
  have h1 := int_mul_size x.num y.num
  have h2 := num_mul_size x.den y.den
  have a1 := hx.1; have a2 := hx.2; have a3 := hy.1; have a4 := hy.2
  exact ⟨by omega, by omega⟩
theorem inv_RS {K : Nat} {y : Rat} (hy : RS K y) (h0 : y ≠ 0) : RS (K + 1) y⁻¹ := by
  rw [Rat.inv_def]
  have hn : y.num ≠ 0 := fun h => h0 (Rat.num_eq_zero.1 h)
  have a3 := hy.1; have a4 := hy.2
  have hs1 := intB_size_le (-(y.den : Int))
  have hs2 := natAbs_le y.num
  rw [Int.natAbs_neg] at hs1
  have e2 : (y.den : Int).natAbs = y.den := rfl
  rw [e2] at hs1
  by_cases h : y.num < 0
  · have e : y.num = -(y.num.natAbs : Int) := by omega
    rw [e, divInt_neg _ _ (by omega)]
    have := mkRat_size (-(y.den : Int)) y.num.natAbs (by omega)
    exact ⟨by omega, by omega⟩
  · have e : y.num = (y.num.natAbs : Int) := by omega
    rw [e, divInt_pos]
    have := mkRat_size (y.den : Int) y.num.natAbs (by omega)
    rw [eb] at this
    exact ⟨by omega, by omega⟩
theorem div_RS {K L : Nat} {x y : Rat} (hx : RS K x) (hy : RS L y) (h0 : y ≠ 0) : RS (K + L + 2) (x / y) := by
  rw [Rat.div_def]
  exact (mul_RS hx (inv_RS hy h0)).mono (by omega)
theorem neg_RS {K : Nat} {y : Rat} (hy : RS K y) : RS (K + 1) (-y) := by
  refine ⟨?_, by show (numB y.den).size ≤ _; have := hy.2; omega⟩
  have h1 := intB_size_le (-y.num)
  have h2 := natAbs_le y.num
  rw [Int.natAbs_neg] at h1
  rw [Rat.neg_num]
  have := hy.1
  omega
end Go.Proofs.YtpeinobepiodaaaGreatDoor
/- A region that draws its order, loads cells and stores into one of them by operation z, which waits for the loads: the loads are taken first; the condition on the world need not hold behind z. -/
namespace Go.Proofs.YtpeinobepiodaaaGreatDoor
set_option linter.unusedVariables false
section
variable {P : Program} {ops : Array Oper} {Q : Exit → Act → World → Prop} {md : Region.Mode} {S : World → Prop} {z : Nat}

/-- Whatever order is picked; S holds till z has come. -/
def anyE (P : Program) (md : Region.Mode) (ops : Array Oper) (Q : Exit → Act → World → Prop) (S : World → Prop) (z : Nat) : Nat → Array Bool → Act → World → Prop
  | 0, l, a, w => Region.ready md ops l = [] ∧ Q .normal a w
  | f + 1, l, a, w => (Region.ready md ops l = [] → Q .normal a w) ∧
    ∀ i ∈ Region.ready md ops l, wpOp P ops Q i (fun b u => ((l.setIfInBounds i true).getD z false = false → S u) ∧ anyE P md ops Q S z f (l.setIfInBounds i true) b u) a w

theorem anyE_any : ∀ (f : Nat) (l : Array Bool) (a : Act) (w : World), anyE P md ops Q S z f l a w → wpAny P md ops Q f l a w
  | 0, _, _, _, h => h
  | f + 1, l, _, _, h => ⟨h.1, fun i hi => wpOp_mono (fun b u hb => anyE_any f (l.setIfInBounds i true) b u hb.2) (h.2 i hi)⟩

/-- What is listed waits for nothing that is not. -/
def Closed (md : Region.Mode) (ops : Array Oper) (l : Array Bool) : Prop := ∀ j o, ops[j]? = some o → l.getD j false = true → ∀ e ∈ o.after, Region.binds md e = true → l.getD e.on false = true
def closedB (md : Region.Mode) (ops : Array Oper) (l : Array Bool) : Bool := (List.range ops.size).all fun j => !(l.getD j false) || match ops[j]? with
  | some o => o.after.all fun e => !(Region.binds md e) || l.getD e.on false
  | none => true
theorem closedB_spec {l : Array Bool} (h : closedB md ops l = true) : Closed md ops l := by
  intro j o ho hl e he hb
  have h1 := List.all_eq_true.1 h j (List.mem_range.2 (Array.getElem?_eq_some_iff.1 ho).1)
  simp only [ho, hl, Bool.not_true, Bool.false_or] at h1
  have h2 := Array.all_eq_true_iff_forall_mem.1 h1 e he
  simpa [hb] using h2
theorem Closed.step {l : Array Bool} (h : Closed md ops l) {j : Nat} (hj : j ∈ Region.ready md ops l) : Closed md ops (l.setIfInBounds j true) := by
  intro k o ho hl e he hb
  by_cases hk : j = k
  · subst hk
    obtain ⟨-, o', ho', hall⟩ := mem_ready.1 hj
    obtain rfl : o' = o := Option.some.inj (ho'.symm.trans ho)
    exact getD_set_true (hall e he hb)
  · rw [getD_set_ne false hk] at hl
    exact getD_set_true (h k o ho hl e he hb)
/-- z waits for i, by way of others. -/
def reachB (md : Region.Mode) (ops : Array Oper) : Nat → Nat → Nat → Bool
  | 0, _, _ => false
  | f + 1, a, i => match ops[a]? with
    | some o => o.after.any fun e => Region.binds md e && (e.on == i || reachB md ops f e.on i)
    | none => false
theorem reach_listed {l : Array Bool} (hc : Closed md ops l) {i : Nat} : ∀ (f a : Nat) (o : Oper), ops[a]? = some o → reachB md ops f a i = true → (∀ e ∈ o.after, Region.binds md e = true → l.getD e.on false = true) → l.getD i false = true
  | 0, _, _, _, h, _ => by cases h
  | f + 1, a, o, ho, h, hall => by
    simp only [reachB, ho] at h
    obtain ⟨e, he, hb⟩ := Array.any_eq_true'.1 h
    simp only [Bool.and_eq_true, Bool.or_eq_true, beq_iff_eq] at hb
    have hl := hall e he hb.1
    rcases hb.2 with h1 | h1
    · rw [← h1]; exact hl
    · cases hq : ops[e.on]? with
      | none => cases f with
        | zero => cases h1
        | succ f => simp only [reachB, hq] at h1; cases h1
      | some p => exact reach_listed hc f e.on p hq h1 fun d hd hbd => hc e.on p hq hl d hd hbd

theorem set_unlisted {l : Array Bool} {i : Nat} (h : (l.setIfInBounds i true).getD z false = false) : l.getD z false = false := by
  cases e : l.getD z false
  · rfl
  · rw [getD_set_true e] at h; cases h
theorem not_listed {l : Array Bool} {i : Nat} (ui : l.getD i true = false) : l.getD i false = false := by
  by_cases hs : i < l.size
  · simp [hs] at ui ⊢; exact ui
  · simp [Array.getElem?_eq_none (Nat.le_of_not_lt hs)]
theorem anyE_first {i n : Nat} {oi : Oper} {v : Value} (hi : ops[i]? = some oi) (hsel : ∀ (j : Nat) (o : Oper) cs b, ops[j]? = some o → o.op ≠ .select cs b)
    (hQ : ∀ c a w, Q (.panic c) (a.put oi.dst v) w → Q (.panic c) a w) (hz : reachB md ops n z i = true) (f : Nat) :
    ∀ (l : Array Bool) (a : Act) (w : World),
      (∀ j oj, ops[j]? = some oj → j ≠ i → l.getD j true = false → (∀ e ∈ oj.after, Region.binds md e = true → e.on ≠ i) → oi.apart ops oj = true) →
      Closed md ops l → i ∈ Region.ready md ops l → YieldsIf P ops S oi v a → S w →
      anyE P md ops Q S z f (l.setIfInBounds i true) (a.put oi.dst v) w → anyE P md ops Q S z (f + 1) l a w := by
  induction f with
  | zero =>
    intro l a w _ _ hr hy hS H
    refine ⟨(fun e => by rw [e] at hr; cases hr), fun j hj => ?_⟩
    by_cases e : j = i
    · rw [e]; exact hy.wpOp hi hS ⟨fun _ => hS, H⟩
    · have := ready_mono hj e
      rw [H.1] at this
      cases this
  | succ f ih =>
    intro l a w hfree hcl hr hy hS H
    refine ⟨(fun e => by rw [e] at hr; cases hr), fun j hj => ?_⟩
    by_cases e : j = i
    · rw [e]; exact hy.wpOp hi hS ⟨fun _ => hS, H⟩
    have hji : i ≠ j := fun x => e x.symm
    have un := (mem_ready.1 hj).1
    obtain ⟨oj, hoj, hall⟩ := (mem_ready.1 hj).2
    have ui := (mem_ready.1 hr).1
    have uf : l.getD i false = true → False := fun hc => by rw [not_listed ui] at hc; cases hc
    have hjz : j ≠ z := fun hz' => by
      subst hz'
      exact uf (reach_listed hcl n j oj hoj hz hall)
    have hiz : i ≠ z := fun hz' => by
      subst hz'
      obtain ⟨o2, ho2, hall2⟩ := (mem_ready.1 hr).2
      exact uf (reach_listed hcl n i o2 ho2 hz hall2)
    have hzl : l.getD z false = false := by
      cases e2 : l.getD z false
      · rfl
      · exfalso
        cases hq : ops[z]? with
        | none => cases n with
          | zero => cases hz
          | succ n => simp only [reachB, hq] at hz; cases hz
        | some o3 => exact uf (reach_listed hcl n z o3 hq hz fun d hd hbd => hcl z o3 hq e2 d hd hbd)
    have hno : ∀ d ∈ oj.after, Region.binds md d = true → d.on ≠ i := fun d hd hb hdi => uf (by have := hall d hd hb; rwa [hdi] at this)
    have step := wpOp_putIf hoj (hfree j oj hoj e un hno) (fun cs b => hsel i oi cs b hi) (fun cs b => hsel j oj cs b hoj) hQ hy (H.2 j (ready_mono hj e))
    refine wpOp_mono (fun b u hb => ?_) step
    obtain ⟨hy2, hS2, hrest⟩ := hb
    have hSu : S u := hS2 (by rw [getD_set_ne false hjz, getD_set_ne false hiz]; exact hzl)
    refine ⟨fun _ => hSu, ih (l.setIfInBounds j true) b u (fun k ok hk hki hun hn => ?_) (hcl.step hj) (ready_mono hr hji) hy2 hSu ?_⟩
    · refine hfree k ok hk hki ?_ hn
      by_cases hjk : j = k
      · rw [← hjk]; exact un
      · rw [getD_set_ne true hjk] at hun; exact hun
    · rw [Array.setIfInBounds_comm _ _ e]; exact hrest
/-- The same for what yields its value in whatever world; z need not wait for it. -/
theorem anyE_firstW {i : Nat} {oi : Oper} {v : Value} (hi : ops[i]? = some oi) (hsel : ∀ (j : Nat) (o : Oper) cs b, ops[j]? = some o → o.op ≠ .select cs b)
    (hQ : ∀ c a w, Q (.panic c) (a.put oi.dst v) w → Q (.panic c) a w) (hiz : i ≠ z) (f : Nat) :
    ∀ (l : Array Bool) (a : Act) (w : World),
      (∀ j oj, ops[j]? = some oj → j ≠ i → l.getD j true = false → (∀ e ∈ oj.after, Region.binds md e = true → e.on ≠ i) → oi.apart ops oj = true) →
      i ∈ Region.ready md ops l → Yields P ops oi v a → (l.getD z false = false → S w) →
      anyE P md ops Q S z f (l.setIfInBounds i true) (a.put oi.dst v) w → anyE P md ops Q S z (f + 1) l a w := by
  induction f with
  | zero =>
    intro l a w _ hr hy hS H
    refine ⟨(fun e => by rw [e] at hr; cases hr), fun j hj => ?_⟩
    by_cases e : j = i
    · rw [e]; exact hy.wpOp hi ⟨fun h => hS (set_unlisted h), H⟩
    · have := ready_mono hj e
      rw [H.1] at this
      cases this
  | succ f ih =>
    intro l a w hfree hr hy hS H
    refine ⟨(fun e => by rw [e] at hr; cases hr), fun j hj => ?_⟩
    by_cases e : j = i
    · rw [e]; exact hy.wpOp hi ⟨fun h => hS (set_unlisted h), H⟩
    have hji : i ≠ j := fun x => e x.symm
    have un := (mem_ready.1 hj).1
    obtain ⟨oj, hoj, hall⟩ := (mem_ready.1 hj).2
    have ui := (mem_ready.1 hr).1
    have uf : l.getD i false = true → False := fun hc => by rw [not_listed ui] at hc; cases hc
    have hno : ∀ d ∈ oj.after, Region.binds md d = true → d.on ≠ i := fun d hd hb hdi => uf (by have := hall d hd hb; rwa [hdi] at this)
    have step := wpOp_put hoj (hfree j oj hoj e un hno) (fun cs b => hsel i oi cs b hi) (fun cs b => hsel j oj cs b hoj) hQ hy (H.2 j (ready_mono hj e))
    refine wpOp_mono (fun b u hb => ?_) step
    obtain ⟨hy2, hS2, hrest⟩ := hb
    have hSu : (l.setIfInBounds j true).getD z false = false → S u := fun h => hS2 (by rw [Array.setIfInBounds_comm _ _ hji, getD_set_ne false hiz]; exact h)
    refine ⟨hSu, ih (l.setIfInBounds j true) b u (fun k ok hk hki hun hn => ?_) (ready_mono hr hji) hy2 hSu ?_⟩
    · refine hfree k ok hk hki ?_ hn
      by_cases hjk : j = k
      · rw [← hjk]; exact un
      · rw [getD_set_ne true hjk] at hun; exact hun
    · rw [Array.setIfInBounds_comm _ _ e]; exact hrest

/-- Take number i first. -/
theorem anyE_take (i : Nat) {oi : Oper} {v : Value} {f : Nat} {l : Array Bool} {a : Act} {w : World} (hi : ops[i]? = some oi)
    (hs : Region.noSelect ops = true) (hc : closedB md ops l = true) (hf : Region.free md ops l i = true) (hr : (Region.ready md ops l).contains i = true) (hz : reachB md ops 40 z i = true)
    (hQ : ∀ c a w, Q (.panic c) (a.put oi.dst v) w → Q (.panic c) a w) (hy : YieldsIf P ops S oi v a) (hS : S w)
    (h : anyE P md ops Q S z f (l.setIfInBounds i true) (a.put oi.dst v) w) : anyE P md ops Q S z (f + 1) l a w :=
  anyE_first hi (Region.noSelect_spec hs) hQ hz f l a w (Region.free_spec hi hf) (closedB_spec hc) (by simpa using hr) hy hS h
theorem anyE_takeW (i : Nat) {oi : Oper} {v : Value} {f : Nat} {l : Array Bool} {a : Act} {w : World} (hi : ops[i]? = some oi)
    (hs : Region.noSelect ops = true) (hf : Region.free md ops l i = true) (hr : (Region.ready md ops l).contains i = true) (hz : i ≠ z)
    (hQ : ∀ c a w, Q (.panic c) (a.put oi.dst v) w → Q (.panic c) a w) (hy : Yields P ops oi v a) (hS : S w)
    (h : anyE P md ops Q S z f (l.setIfInBounds i true) (a.put oi.dst v) w) : anyE P md ops Q S z (f + 1) l a w :=
  anyE_firstW hi (Region.noSelect_spec hs) hQ hz f l a w (Region.free_spec hi hf) (by simpa using hr) hy (fun _ => hS) h
/-- The one that can come up is carried out. -/
theorem anyE_step (i : Nat) {o : Oper} {f : Nat} {l : Array Bool} {a : Act} {w : World} (hr : Region.ready md ops l = [i]) (ho : ops[i]? = some o)
    (h : ∀ K : Act → World → Prop, Shut (∀ b u, S u → (S u → anyE P md ops Q S z f (l.setIfInBounds i true) b u) → K b u) → if Region.wanted o (yielded ops a.tmps) = true then Oper.wp P o a w K Q else K (a.put o.dst undef) w) : anyE P md ops Q S z (f + 1) l a w := by
  refine ⟨(fun e => by rw [hr] at e; cases e), fun j hj => ?_⟩
  obtain rfl : j = i := by rw [hr] at hj; simpa using hj
  exact wpOp_step ho fun K hK => h K fun b u hS hrest => hK b u ⟨fun _ => hS, hrest hS⟩
/-- The one that can come up is z: the condition on the world need not hold behind it. -/
theorem anyE_stepZ (i : Nat) {o : Oper} {f : Nat} {l : Array Bool} {a : Act} {w : World} (hr : Region.ready md ops l = [i]) (hz : (l.setIfInBounds i true).getD z false = true) (ho : ops[i]? = some o)
    (h : ∀ K : Act → World → Prop, Shut (∀ b u, anyE P md ops Q S z f (l.setIfInBounds i true) b u → K b u) → if Region.wanted o (yielded ops a.tmps) = true then Oper.wp P o a w K Q else K (a.put o.dst undef) w) : anyE P md ops Q S z (f + 1) l a w := by
  refine ⟨(fun e => by rw [hr] at e; cases e), fun j hj => ?_⟩
  obtain rfl : j = i := by rw [hr] at hj; simpa using hj
  exact wpOp_step ho fun K hK => h K fun b u hrest => hK b u ⟨(fun e => by rw [hz] at e; cases e), hrest⟩
/-- The last one. -/
theorem anyE_last (i : Nat) {o : Oper} {f : Nat} {l : Array Bool} {a : Act} {w : World} (hr : Region.ready md ops l = [i]) (hr2 : Region.ready md ops (l.setIfInBounds i true) = []) (hz : (l.setIfInBounds i true).getD z false = true) (ho : ops[i]? = some o)
    (h : ∀ K : Act → World → Prop, Shut (∀ b u, Q .normal b u → K b u) → if Region.wanted o (yielded ops a.tmps) = true then Oper.wp P o a w K Q else K (a.put o.dst undef) w) : anyE P md ops Q S z (f + 1) l a w := by
  refine ⟨(fun e => by rw [hr] at e; cases e), fun j hj => ?_⟩
  obtain rfl : j = i := by rw [hr] at hj; simpa using hj
  refine wpOp_step ho fun K hK => h K fun b u hq => hK b u ⟨(fun e => by rw [hz] at e; cases e), ?_⟩
  cases f with
  | zero => exact ⟨hr2, hq⟩
  | succ f => exact ⟨fun _ => hq, by rw [hr2]; simp⟩
/-- The beginning; S at the world behind the draw. -/
theorem region_anyE (S : World → Prop) (z : Nat) {id : Nat} {a : Act} {w : World} (hm : P.follows .mixedOrders = true) (hS : S w.drew)
    (h : S w.drew → anyE P .any ops Q S z ops.size (Array.replicate ops.size false) a w.drew) : (Code.region id ops true).wp P Q a w :=
  wp_region_any hm (anyE_any _ _ _ _ (h hS))
end
end Go.Proofs.YtpeinobepiodaaaGreatDoor
/- The reduced form of matrices of zeros and ones with at most one 1 in each column (plain). -/
namespace Go.Proofs.YtpeinobepiodaaaGreatDoor
set_option linter.unusedVariables false
set_option linter.unusedSimpArgs false

def rowQI (r : List Int) : List Rat := r.map fun x : Int => (x : Rat)
theorem rowQI_len (r : List Int) : (rowQI r).length = r.length := by simp [rowQI]
def matQ (m : List (List Int)) : List (List Rat) := m.map rowQI
theorem matQ_len (m : List (List Int)) : (matQ m).length = m.length := by simp [matQ]
/-- Zeros and ones, at most one 1 in each column. -/
structure UnitQ (m : List (List Rat)) : Prop where
  val : ∀ i j, elQ m i j = 0 ∨ elQ m i j = 1
  one : ∀ i i' j, elQ m i j = 1 → elQ m i' j = 1 → i = i'
theorem elQ_out {m : List (List Rat)} {i c : Nat} (h : m.length ≤ i) : elQ m i c = 0 := by
  unfold elQ rowQ
  rw [List.getD_eq_getElem?_getD (l := m), List.getElem?_eq_none h]
  simp
theorem rat_one_ne : (1 : Rat) ≠ 0 := by decide
theorem elQ_swp {m : List (List Rat)} {a b : Nat} (ha : a < m.length) (hb : b < m.length) (i j : Nat) : elQ (swp m a b) i j = elQ m (if i = b then a else if i = a then b else i) j := by
  unfold elQ rowQ
  rw [List.getD_eq_getElem?_getD (l := swp m a b), List.getD_eq_getElem?_getD (l := m), swp_get (List.getElem?_eq_getElem ha) (List.getElem?_eq_getElem hb)]
  by_cases h1 : i = b
  · rw [if_pos h1, if_pos h1, List.getElem?_eq_getElem ha]
  · rw [if_neg h1, if_neg h1]
    by_cases h2 : i = a
    · rw [if_pos h2, if_pos h2, List.getElem?_eq_getElem hb]
    · rw [if_neg h2, if_neg h2]
theorem UnitQ.swp {m : List (List Rat)} (h : UnitQ m) {a b : Nat} (ha : a < m.length) (hb : b < m.length) : UnitQ (Proofs.YtpeinobepiodaaaGreatDoor.swp m a b) := by
  refine ⟨fun i j => by rw [elQ_swp ha hb]; exact h.val _ _, fun i i' j h1 h2 => ?_⟩
  rw [elQ_swp ha hb] at h1 h2
  have e := h.one _ _ _ h1 h2
  repeat' split at e
  all_goals omega
theorem findP_spec (m : List (List Rat)) (c : Nat) : ∀ (f a : Nat), a ≤ findP m c f a ∧ findP m c f a ≤ a + f ∧ (∀ j, a ≤ j → j < findP m c f a → elQ m j c = 0) ∧ (findP m c f a < a + f → elQ m (findP m c f a) c ≠ 0)
  | 0, a => ⟨Nat.le_refl _, Nat.le_refl _, fun j h1 h2 => by have : j < a := h2; omega, fun h => by have : a < a + 0 := h; omega⟩
  | f + 1, a => by
    unfold findP
    by_cases h : elQ m a c = 0
    · rw [if_pos h]
      obtain ⟨h1, h2, h3, h4⟩ := findP_spec m c f (a + 1)
      refine ⟨by omega, by omega, fun j hj1 hj2 => ?_, fun hh => h4 (by omega)⟩
      by_cases e : j = a
      · rw [e]; exact h
      · exact h3 j (by omega) hj2
    · rw [if_neg h]
      exact ⟨Nat.le_refl _, by omega, fun j h1 h2 => by omega, fun _ => h⟩
theorem rat_div_one (x : Rat) : x / 1 = x := by rw [Rat.div_def, show (1 : Rat)⁻¹ = 1 by decide +kernel, Rat.mul_one]
theorem divRow_one (r : List Rat) : divRow r 1 = r := by
  unfold divRow
  conv => rhs; rw [← List.map_id r]
  apply List.map_congr_left
  intro x _
  exact rat_div_one x
theorem set_rowQ {m : List (List Rat)} {k : Nat} (h : k < m.length) : m.set k (rowQ m k) = m := by
  apply List.ext_getElem?
  intro j
  rw [List.getElem?_set]
  by_cases e : k = j
  · subst e; rw [if_pos rfl, if_pos h, get_rowQ h]
  · rw [if_neg e]
theorem elimTo_id {m : List (List Rat)} {p : List Rat} {c k : Nat} (h : ∀ i, i ≠ k → elQ m i c = 0) : ∀ j, j ≤ m.length → elimTo m p c k j = m
  | 0, _ => rfl
  | j + 1, hj => by
    have ih := elimTo_id (m := m) (p := p) h j (by omega)
    show (elimTo m p c k j).set j (elimR p c k j (rowQ (elimTo m p c k j) j)) = m
    rw [ih]
    unfold elimR
    have : j = k ∨ (rowQ m j).getD c 0 = 0 := by
      by_cases e : j = k
      · exact .inl e
      · exact .inr (h j e)
    rw [if_pos this]
    exact set_rowQ (by omega)
/-- One column. -/
theorem stepR_unit {c : Nat} {s : RedSt} (h : UnitQ s.m) (hk : s.lead.length ≤ s.m.length) :
    (stepR c s = ⟨s.m, s.lead, 0⟩ ∧ ∀ j, s.lead.length ≤ j → elQ s.m j c = 0) ∨
    ∃ a, s.lead.length ≤ a ∧ a < s.m.length ∧ elQ s.m a c = 1 ∧ (∀ j, s.lead.length ≤ j → j < a → elQ s.m j c = 0) ∧
      stepR c s = ⟨if a = s.lead.length then s.m else swp s.m s.lead.length a, s.lead ++ [c], if a = s.lead.length then s.det else -s.det⟩ := by
  obtain ⟨h1, h2, h3, h4⟩ := findP_spec s.m c (s.m.length - s.lead.length) s.lead.length
  unfold stepR
  simp only
  generalize findP s.m c (s.m.length - s.lead.length) s.lead.length = a at *
  by_cases ha : a = s.m.length
  · rw [if_pos ha]
    refine .inl ⟨rfl, fun j hj => ?_⟩
    by_cases e : j < s.m.length
    · exact h3 j hj (by omega)
    · exact elQ_out (by omega)
  · rw [if_neg ha]
    have hlt : a < s.m.length := by omega
    have hk2 : s.lead.length < s.m.length := by omega
    have hv : elQ s.m a c = 1 := (h.val a c).resolve_left (h4 (by omega))
    refine .inr ⟨a, h1, hlt, hv, h3, ?_⟩
    have hu : UnitQ (if a = s.lead.length then s.m else Proofs.YtpeinobepiodaaaGreatDoor.swp s.m s.lead.length a) := by
      split
      · exact h
      · exact h.swp hk2 hlt
    have hp : elQ (if a = s.lead.length then s.m else Proofs.YtpeinobepiodaaaGreatDoor.swp s.m s.lead.length a) s.lead.length c = 1 := by
      by_cases e : a = s.lead.length
      · rw [if_pos e, ← e]; exact hv
      · rw [if_neg e, elQ_swp hk2 hlt, if_neg (Ne.symm e), if_pos rfl]; exact hv
    have hl : (if a = s.lead.length then s.m else Proofs.YtpeinobepiodaaaGreatDoor.swp s.m s.lead.length a).length = s.m.length := by
      split
      · rfl
      · exact swp_length _ _ _
    generalize (if a = s.lead.length then s.m else Proofs.YtpeinobepiodaaaGreatDoor.swp s.m s.lead.length a) = m1 at *
    rw [hp, divRow_one, set_rowQ (by omega), elimTo_id _ _ (Nat.le_refl _), Rat.mul_one]
    intro i hi
    rcases hu.val i c with h0 | h0
    · exact h0
    · exact absurd (hu.one _ _ _ h0 hp) hi
/-- All along the way: zeros and ones; the determinant is 0, 1 or -1. -/
theorem redTo_unit {m : List (List Rat)} {C : Nat} (hC : Rect C m) (h : UnitQ m) : ∀ c, UnitQ (redTo m c).m ∧ ((redTo m c).det = 0 ∨ (redTo m c).det = 1 ∨ (redTo m c).det = -1)
  | 0 => ⟨h, .inr (.inl rfl)⟩
  | c + 1 => by
    obtain ⟨h1, h2⟩ := redTo_unit hC h c
    obtain ⟨r1, r2, r3⟩ := redTo_shape hC c
    rcases stepR_unit (c := c) h1 (by omega) with ⟨e, -⟩ | ⟨a, ha1, ha2, -, -, e⟩
    · show UnitQ (stepR c (redTo m c)).m ∧ _
      refine ⟨by rw [e]; exact h1, .inl ?_⟩
      show (stepR c (redTo m c)).det = 0
      rw [e]
    · show UnitQ (stepR c (redTo m c)).m ∧ ((stepR c (redTo m c)).det = 0 ∨ (stepR c (redTo m c)).det = 1 ∨ (stepR c (redTo m c)).det = -1)
      rw [e]
      refine ⟨?_, ?_⟩
      · show UnitQ (if a = _ then _ else _)
        split
        · exact h1
        · exact h1.swp (by omega) ha2
      · show (if a = _ then _ else _) = (0 : Rat) ∨ (if a = _ then _ else _) = (1 : Rat) ∨ (if a = _ then _ else _) = (-1 : Rat)
        split
        · exact h2
        · rcases h2 with h2 | h2 | h2 <;> rw [h2]
          · left; decide
          · right; right; decide
          · right; left; decide
/-- A column of zeros stays, and makes the determinant 0. -/
theorem redTo_zero {m : List (List Rat)} {C : Nat} (hC : Rect C m) (h : UnitQ m) {z : Nat} (hz : ∀ i, elQ m i z = 0) : ∀ c, (∀ i, elQ (redTo m c).m i z = 0) ∧ (z < c → (redTo m c).det = 0)
  | 0 => ⟨hz, fun hh => by omega⟩
  | c + 1 => by
    obtain ⟨h1, h2⟩ := redTo_zero hC h hz c
    obtain ⟨r1, r2, r3⟩ := redTo_shape hC c
    have hu := (redTo_unit hC h c).1
    rcases stepR_unit (c := c) hu (by omega) with ⟨e, -⟩ | ⟨a, ha1, ha2, hv, -, e⟩
    · show (∀ i, elQ (stepR c (redTo m c)).m i z = 0) ∧ (_ → (stepR c (redTo m c)).det = 0)
      rw [e]
      exact ⟨h1, fun _ => rfl⟩
    · have hne : z ≠ c := fun e2 => by
        have hv0 := h1 a
        rw [e2] at hv0
        rw [hv0] at hv
        exact rat_one_ne hv.symm
      show (∀ i, elQ (stepR c (redTo m c)).m i z = 0) ∧ (_ → (stepR c (redTo m c)).det = 0)
      rw [e]
      refine ⟨fun i => ?_, fun hh => ?_⟩
      · show elQ (if a = _ then _ else _) i z = 0
        split
        · exact h1 i
        · rw [elQ_swp (by omega) ha2]; exact h1 _
      · show (if a = _ then _ else _) = (0 : Rat)
        rw [h2 (by omega)]
        split
        · rfl
        · decide
/-- The unit matrix. -/
theorem redTo_one {m : List (List Rat)} (h : ∀ i j, elQ m i j = if i = j ∧ i < m.length then 1 else 0) (hC : Rect m.length m) : ∀ c, c ≤ m.length → redTo m c = ⟨m, List.range c, 1⟩
  | 0, _ => rfl
  | c + 1, hc => by
    have ih := redTo_one h hC c (by omega)
    have hu : UnitQ m := ⟨fun i j => by rw [h]; split <;> simp, fun i i' j h1 h2 => by
      rw [h] at h1 h2
      by_cases e1 : i = j ∧ i < m.length
      · by_cases e2 : i' = j ∧ i' < m.length
        · omega
        · rw [if_neg e2] at h2; exact absurd h2.symm rat_one_ne
      · rw [if_neg e1] at h1; exact absurd h1.symm rat_one_ne⟩
    show stepR c (redTo m c) = _
    rw [ih]
    rcases stepR_unit (c := c) (s := ⟨m, List.range c, 1⟩) hu (by simp; omega) with ⟨-, e⟩ | ⟨a, ha1, ha2, hv, -, e⟩
    · have := e c (by simp)
      rw [h, if_pos ⟨rfl, by omega⟩] at this
      exact absurd this rat_one_ne
    · have hac : a = c := by
        false_or_by_contra
        rename_i hne
        rw [h, if_neg (by omega)] at hv
        exact rat_one_ne hv.symm
      rw [e, if_pos (by simp [hac]), if_pos (by simp [hac]), List.range_succ]
theorem UnitQ.rs {m : List (List Rat)} (h : UnitQ m) : AllRS 2500 m := by
  intro r hr x hx
  obtain ⟨i, hi⟩ := List.getElem?_of_mem hr
  obtain ⟨j, hj⟩ := List.getElem?_of_mem hx
  have e : elQ m i j = x := elQ_get (by rw [rowQ_get hi]; exact hj)
  have hs : (intB 1).size ≤ 2 ∧ (intB 0).size ≤ 2 ∧ (numB 1).size ≤ 2 := by
    unfold intB numB Lib.itoa
    rw [if_neg (by omega), if_neg (by omega), show (1 : Int).toNat = 1 from rfl, show (0 : Int).toNat = 0 from rfl, Lib.decDigits_one (by omega), Lib.decDigits_one (by omega)]
    exact ⟨by decide, by decide, by decide⟩
  rcases h.val i j with h0 | h0
  · rw [← e, h0]
    exact ⟨Nat.le_trans hs.2.1 (by omega), Nat.le_trans hs.2.2 (by omega)⟩
  · rw [← e, h0]
    exact ⟨Nat.le_trans hs.1 (by omega), Nat.le_trans hs.2.2 (by omega)⟩
end Go.Proofs.YtpeinobepiodaaaGreatDoor
