/- Matrices that a call builds row by row: an outer row of its own, rows from cell 0 on in blocks apart; rows of whatever kind. -/
import Derived.Test.YtpeinobepiodaaaGreatDoorMatQ
import Derived.Test.YtpeinobepiodaaaGreatDoorTypes
namespace Go.Proofs.YtpeinobepiodaaaGreatDoor
set_option linter.unusedVariables false
set_option linter.unusedSimpArgs false
open Go.RowKit

/-- What a row at a block is; it hangs on that block alone. -/
structure RowKind (α : Type) where
  R : World → Nat → List α → Prop
  lt : ∀ {w g r}, R w g r → g < w.heap.size
  same : ∀ {w w' g r}, R w g r → w.heap.size ≤ w'.heap.size → w'.heap[g]? = w.heap[g]? → R w' g r
def ratK : RowKind Rat := ⟨RowQ, fun h => h.lt, fun h hs hg => h.same hs hg⟩
/-- A row of ints at a block. -/
structure RowI (w : World) (g : Nat) (xs : List Int) : Prop where
  lt : g < w.heap.size
  cell : ∀ (j : Nat) x, xs[j]? = some x → w.cell? ⟨g, j, none⟩ = some (.int .i64 x)
  free : ∀ j, w.frozen? ⟨g, j, none⟩ = false
theorem RowI.same {w w' : World} {g : Nat} {xs : List Int} (h : RowI w g xs) (hs : w.heap.size ≤ w'.heap.size) (hg : w'.heap[g]? = w.heap[g]?) : RowI w' g xs :=
  ⟨Nat.lt_of_lt_of_le h.lt hs, fun j x hx => (cell_of_heapQ hg _).trans (h.cell j x hx), fun j => (free_of_heapQ hg j).trans (h.free j)⟩
def intK : RowKind Int := ⟨RowI, fun h => h.lt, fun h hs hg => h.same hs hg⟩

def tagQ (t : Nat × Nat) (n : Nat) : Value := .slice (some ⟨t.1, 0, none⟩) n t.2
def tagQs {α : Type} (tags : List (Nat × Nat)) (m : List (List α)) : List Value := List.zipWith (fun t r => tagQ t r.length) tags m
/-- A matrix in the making. -/
structure RowsO {α : Type} (K : RowKind α) (e : TypeId) (w : World) (ob base : Nat) (v : Value) (tags : List (Nat × Nat)) (m : List (List α)) : Prop where
  len : tags.length = m.length
  own : w.ownsRow ob e 1 v m.length (tagQs tags m)
  row : ∀ (i : Nat) t r, tags[i]? = some t → m[i]? = some r → r.length ≤ t.2 ∧ t.2 ≤ 9223372036854775807 ∧ K.R w t.1 r ∧ base ≤ t.1 ∧ v.ownBlock ≠ some t.1
  nodup : (tags.map (·.1)).Nodup
theorem tagQs_len {α : Type} {tags : List (Nat × Nat)} {m : List (List α)} (h : tags.length = m.length) : (tagQs tags m).length = m.length := by
  unfold tagQs; rw [List.length_zipWith, h]; omega
theorem RowsO.nil {α : Type} (K : RowKind α) (e : TypeId) (w : World) (ob base : Nat) : RowsO K e w ob base (.slice none 0 0) [] [] :=
  ⟨rfl, World.ownsRow_nil _ _ _ _, by intro i t r h; simp at h, by simp⟩
theorem RowsO.ext {α : Type} {K : RowKind α} {e : TypeId} {w w' : World} {ob base : Nat} {v : Value} {tags : List (Nat × Nat)} {m : List (List α)} (h : RowsO K e w ob base v tags m) (he : Ext w w') : RowsO K e w' ob base v tags m :=
  ⟨h.len, owns_ext h.own he, fun i t r ht hr => by
    obtain ⟨h1, h2, h3, h4, h5⟩ := h.row i t r ht hr
    exact ⟨h1, h2, K.same h3 he.size (he.block _ (K.lt h3)), h4, h5⟩, h.nodup⟩
/-- Its blocks. -/
theorem RowsO.fresh {α : Type} {K : RowKind α} {e : TypeId} {w : World} {ob base : Nat} {v : Value} {tags : List (Nat × Nat)} {m : List (List α)} (h : RowsO K e w ob base v tags m) {b : Nat} (hb : b ∈ tags.map (·.1)) : base ≤ b ∧ b < w.heap.size := by
  obtain ⟨t, ht, rfl⟩ := List.mem_map.1 hb
  obtain ⟨i, hi⟩ := List.getElem?_of_mem ht
  have hl : i < m.length := by rw [← h.len]; exact (List.getElem?_eq_some_iff.1 hi).1
  obtain ⟨h1, h2, h3, h4, h5⟩ := h.row i t m[i] hi (List.getElem?_eq_getElem hl)
  exact ⟨h4, K.lt h3⟩
/-- One row more. -/
theorem RowsO.snoc {α : Type} {K : RowKind α} {e : TypeId} {w w' : World} {ob base : Nat} {v v' : Value} {tags : List (Nat × Nat)} {m : List (List α)} (h : RowsO K e w ob base v tags m) (t : Nat × Nat) (r : List α) (hr1 : r.length ≤ t.2) (hr2 : t.2 ≤ 9223372036854775807) (hR : K.R w t.1 r) (hb : base ≤ t.1) (hv : v.ownBlock ≠ some t.1) (hn : t.1 ∉ tags.map (·.1))
    (hown : w'.ownsRow ob e 1 v' (m.length + 1) (tagQs tags m ++ [tagQ t r.length])) (hg : w.grownBy w' v.ownBlock) (hat : v'.ownBlock = v.ownBlock ∨ ∃ b, v'.ownBlock = some b ∧ w.heap.size ≤ b) :
    RowsO K e w' ob base v' (tags ++ [t]) (m ++ [r]) := by
  have hkeep : ∀ (s : Nat × Nat) q, K.R w s.1 q → v.ownBlock ≠ some s.1 → K.R w' s.1 q ∧ v'.ownBlock ≠ some s.1 := fun s q hs hvs => by
    refine ⟨K.same hs hg.size (hg.block s.1 (K.lt hs) hvs.symm), fun e => ?_⟩
    rcases hat with e2 | ⟨b, e2, e3⟩
    · exact hvs (e2.symm.trans e)
    · rw [e2] at e; cases e; have := K.lt hs; omega
  refine ⟨by simp [h.len], ?_, fun i s q hs hq => ?_, ?_⟩
  · have e : tagQs (tags ++ [t]) (m ++ [r]) = tagQs tags m ++ [tagQ t r.length] := by
      unfold tagQs; rw [List.zipWith_append h.len]; rfl
    rw [e, List.length_append]; exact hown
  · by_cases hi : i < tags.length
    · rw [List.getElem?_append_left hi] at hs
      rw [List.getElem?_append_left (by rw [← h.len]; exact hi)] at hq
      obtain ⟨h1, h2, h3, h4, h5⟩ := h.row i s q hs hq
      obtain ⟨k1, k2⟩ := hkeep s q h3 h5
      exact ⟨h1, h2, k1, h4, k2⟩
    · rw [List.getElem?_append_right (by omega)] at hs
      rw [List.getElem?_append_right (by rw [← h.len]; omega)] at hq
      have e1 : i - tags.length = 0 := by have := (List.getElem?_eq_some_iff.1 hs).1; simp at this; omega
      have e2 : i - m.length = 0 := by rw [← h.len]; exact e1
      rw [e1] at hs
      rw [e2] at hq
      simp only [List.getElem?_cons_zero, Option.some.injEq] at hs hq
      subst hs; subst hq
      obtain ⟨k1, k2⟩ := hkeep t r hR hv
      exact ⟨hr1, hr2, k1, hb, k2⟩
  · rw [List.map_append, List.nodup_append]
    refine ⟨h.nodup, by simp, ?_⟩
    intro a ha b hb2 e
    simp only [List.map_cons, List.map_nil, List.mem_singleton] at hb2
    subst e; subst hb2
    exact hn ha
/-- The matrix built, as one in place. -/
theorem RowsO.parts {α : Type} {K : RowKind α} {e : TypeId} {w : World} {ob base : Nat} {g cap : Nat} {tags : List (Nat × Nat)} {m : List (List α)} (h : RowsO K e w ob base (.slice (some ⟨g, 0, none⟩) m.length cap) tags m) :
    ob ≤ g ∧ g < w.heap.size ∧ (∀ j, w.frozen? ⟨g, j, none⟩ = false) ∧ (∀ (i : Nat) t r, tags[i]? = some t → m[i]? = some r → w.cell? ⟨g, i, none⟩ = some (.slice (some ⟨t.1, 0, none⟩) r.length t.2) ∧ r.length ≤ t.2 ∧ t.2 ≤ 9223372036854775807 ∧ K.R w t.1 r) ∧ (g :: tags.map (·.1)).Nodup ∧ m.length ≤ cap ∧ cap ≤ 9223372036854775807 := by
  have hc := h.own.cells (g := g) (by simp [Value.ownBlock])
  have hf := fun j => h.own.frozenAt j
  rcases h.own.2 with ⟨hv, _⟩ | ⟨g', cap', cur, hv, hb, hg, h1, h2, h3, h4⟩
  · simp at hv
  · simp only [Value.slice.injEq, Option.some.injEq, Addr.mk.injEq] at hv
    obtain ⟨⟨rfl, -, -⟩, -, rfl⟩ := hv
    refine ⟨hb, (Array.getElem?_eq_some_iff.1 hg).1, fun j => hf j, fun i t r ht hr => ?_, ?_, h1, h2⟩
    · obtain ⟨k1, k2, k3, k4, k5⟩ := h.row i t r ht hr
      refine ⟨?_, k1, k2, k3⟩
      have := hc i (tagQ t r.length) (by unfold tagQs; rw [List.getElem?_zipWith, ht, hr])
      rw [show (⟨g, 0, none⟩ : Addr).add i = ⟨g, i, none⟩ by unfold Addr.add; split <;> simp_all] at this
      exact this
    · rw [List.nodup_cons]
      refine ⟨fun hm => ?_, h.nodup⟩
      obtain ⟨t, ht, rfl⟩ := List.mem_map.1 hm
      obtain ⟨i, hi⟩ := List.getElem?_of_mem ht
      have hl : i < m.length := by rw [← h.len]; exact (List.getElem?_eq_some_iff.1 hi).1
      exact (h.row i t m[i] hi (List.getElem?_eq_getElem hl)).2.2.2.2 rfl
theorem RowsO.matQ {e : TypeId} {w : World} {ob base : Nat} {g cap : Nat} {tags : List (Nat × Nat)} {m : List (List Rat)} (h : RowsO ratK e w ob base (.slice (some ⟨g, 0, none⟩) m.length cap) tags m) (hob : base ≤ ob) :
    MatQ w g tags m ∧ m.length ≤ cap ∧ cap ≤ 9223372036854775807 ∧ ∀ b, blocksQ g tags b → base ≤ b := by
  obtain ⟨h1, h2, h3, h4, h5, h6, h7⟩ := h.parts
  refine ⟨⟨h.len, h2, h3, h4, h5⟩, h6, h7, fun b hb => ?_⟩
  rcases List.mem_cons.1 hb with rfl | hb
  · exact Nat.le_trans hob h1
  · exact (h.fresh hb).1

/-- 'out = append(out, r)': one row more. -/
theorem wp_append_rowO {α : Type} {K : RowKind α} {e : TypeId} {T2 : TypeId} (ht2 : Tryz.prog.underlying T2 = some (TypeDesc.slice e)) (hinfo : (Tryz.prog.info? e).map (fun i => (i.zero, i.size, i.bytes)) = some (some (.slice none 0 0), 1, 24)) (w : World) {o : Oper} {a : Act} {Q : Exit → Act → World → Prop} {L : Act → World → Prop}
    (s x : Operand) (ho : o.op = Op.call { callee := Callee.builtin Builtin.append, args := #[s, x], argTypes := #[T2, T2] }) (ob base : Nat)
    (v : Value) (tags : List (Nat × Nat)) (m : List (List α)) (t : Nat × Nat) (r : List α) (u : Array Value) (T : TypeId) (hs : a.eval s = v) (hB : RowsO K e w ob base v tags m)
    (hx : a.eval x = .slice (some ⟨w.heap.size, 0, none⟩) 1 1) (hu : u = #[tagQ t r.length]) (hr1 : r.length ≤ t.2) (hr2 : t.2 ≤ 9223372036854775807) (hR : K.R w t.1 r) (hb : base ≤ t.1) (hv : v.ownBlock ≠ some t.1) (hn : t.1 ∉ tags.map (·.1))
    (hlen : m.length < 1000000) (hbase : ob ≤ w.heap.size)
    (h : ∀ v' w', RowsO K e w' ob base v' (tags ++ [t]) (m ++ [r]) → Below ob w w' → Hid (∃ g c, v' = .slice (some ⟨g, 0, none⟩) (m.length + 1) c) → L (a.put o.dst v') w') :
    Oper.wp Tryz.prog o a (w.alloc (.cells u T)) L Q := by
  subst hu
  obtain ⟨i0, hi, hz, hsize, hby⟩ := info_parts hinfo
  have hadd : ∀ j, (⟨w.heap.size, 0, none⟩ : Addr).add j = ⟨w.heap.size, j, none⟩ := by intro j; unfold Addr.add; split <;> simp_all
  have hE : Ext w (w.alloc (.cells #[tagQ t r.length] T)) := Ext.alloc _ _
  refine wp_append_own_at (w.alloc (.cells #[tagQ t r.length] T)) s x T2 ho ob e i0 (.slice none 0 0) 1 24 ht2 hi hz hsize hby rfl (by decide) v m.length (tagQs tags m) hs (owns_ext hB.own hE) ⟨w.heap.size, 0, none⟩ 1 1 [tagQ t r.length] hx rfl ?_ ?_ ?_ ?_ ?_ ?_
  · intro j q hq
    rw [hadd, World.cell?_alloc_new]
    simpa using hq
  · intro u hu
    rw [List.mem_singleton.1 hu]; rfl
  · unfold maxLen; omega
  · omega
  · simp; omega
  · intro v' w' hown hgrow _ hat
    have hLB := (hB.ext hE).snoc t r hr1 hr2 (K.same hR hE.size (hE.block _ (K.lt hR))) hb hv hn hown hgrow (by
      rcases hat with h1 | h1
      · exact .inl h1
      · exact .inr ⟨_, h1, Nat.le_refl _⟩)
    refine h v' w' hLB ?_ ?_
    · have hgw : w.grownBy w' v.ownBlock := grown_trans (hE.grown _) hgrow
      refine ⟨hgw.os, hgw.tape, hgw.output, hgw.size, fun b hb2 => hgw.block b (by omega) ?_⟩
      intro e
      have := (hB.own.lt b e.symm).1
      omega
    · obtain ⟨g, c, hv', -⟩ := owns_shape hown (by omega)
      exact ⟨g, c, hv'⟩
theorem wpList_append_rowO {α : Type} {K : RowKind α} {e : TypeId} {T2 : TypeId} (ht2 : Tryz.prog.underlying T2 = some (TypeDesc.slice e)) (hinfo : (Tryz.prog.info? e).map (fun i => (i.zero, i.size, i.bytes)) = some (some (.slice none 0 0), 1, 24)) (w : World) {ops : Array Oper} {rest : List Oper} {o : Oper} {a : Act} {Q : Exit → Act → World → Prop} (hgd : o.guard = none)
    (s x : Operand) (ho : o.op = Op.call { callee := Callee.builtin Builtin.append, args := #[s, x], argTypes := #[T2, T2] }) (ob base : Nat)
    (v : Value) (tags : List (Nat × Nat)) (m : List (List α)) (t : Nat × Nat) (r : List α) (u : Array Value) (T : TypeId) (hs : a.eval s = v) (hB : RowsO K e w ob base v tags m)
    (hx : a.eval x = .slice (some ⟨w.heap.size, 0, none⟩) 1 1) (hu : u = #[tagQ t r.length]) (hr1 : r.length ≤ t.2) (hr2 : t.2 ≤ 9223372036854775807) (hR : K.R w t.1 r) (hb : base ≤ t.1) (hv : v.ownBlock ≠ some t.1) (hn : t.1 ∉ tags.map (·.1))
    (hlen : m.length < 1000000) (hbase : ob ≤ w.heap.size)
    (h : ∀ v' w', RowsO K e w' ob base v' (tags ++ [t]) (m ++ [r]) → Below ob w w' → Hid (∃ g c, v' = .slice (some ⟨g, 0, none⟩) (m.length + 1) c) → wpList Tryz.prog ops Q rest (a.put o.dst v') w') :
    wpList Tryz.prog ops Q (o :: rest) a (w.alloc (.cells u T)) :=
  wpList_plain hgd fun _ hK => wp_append_rowO ht2 hinfo w s x ho ob base v tags m t r u T hs hB hx hu hr1 hr2 hR hb hv hn hlen hbase fun v' w' a1 a2 a3 => hK _ _ (h v' w' a1 a2 a3)
end Go.Proofs.YtpeinobepiodaaaGreatDoor
