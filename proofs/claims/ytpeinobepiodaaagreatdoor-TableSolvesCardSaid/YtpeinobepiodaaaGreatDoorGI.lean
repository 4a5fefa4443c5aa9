/- Merged: RowsO, SlTab, TabC, Ident, RefEq6, RowsRd. -/
import Derived.Test.YtpeinobepiodaaaGreatDoorGG
import Derived.Test.YtpeinobepiodaaaGreatDoorGA
import Derived.Lib.SliceRun
import Derived.WalkSpells
import Derived.Laws.AppendOwnNone
import Derived.Deep.CutRange
import Derived.Deep.RegionHeld3
/- Matrices that a call builds row by row: an outer row of its own, rows from cell 0 on in blocks apart; rows of whatever kind. -/
namespace Go.Proofs.YtpeinobepiodaaaGreatDoor
set_option linter.unusedVariables false
set_option linter.unusedSimpArgs false
open Go.RowKit

/-- What a row at a block is; it hangs on that block alone. -/
structure RowKind (α : Type) where
  R : World → Nat → List α → Prop
  lt : ∀ {w g r}, R w g r → g < w.heap.size
  same : ∀ {w w' g r}, R w g r → w.heap.size ≤ w'.heap.size → w'.heap[g]? = w.heap[g]? → R w' g r
def ratK : RowKind Rat := ⟨RowQ, fun h => h.lt, fun h hs hg => h.same hs hg⟩
/-- A row of ints at a block. -/
structure RowI (w : World) (g : Nat) (xs : List Int) : Prop where
  lt : g < w.heap.size
  cell : ∀ (j : Nat) x, xs[j]? = some x → w.cell? ⟨g, j, none⟩ = some (.int .i64 x)
  free : ∀ j, w.frozen? ⟨g, j, none⟩ = false
theorem RowI.same {w w' : World} {g : Nat} {xs : List Int} (h : RowI w g xs) (hs : w.heap.size ≤ w'.heap.size) (hg : w'.heap[g]? = w.heap[g]?) : RowI w' g xs :=
  ⟨Nat.lt_of_lt_of_le h.lt hs, fun j x hx => (cell_of_heapQ hg _).trans (h.cell j x hx), fun j => (free_of_heapQ hg j).trans (h.free j)⟩
def intK : RowKind Int := ⟨RowI, fun h => h.lt, fun h hs hg => h.same hs hg⟩

def tagQ (t : Nat × Nat) (n : Nat) : Value := .slice (some ⟨t.1, 0, none⟩) n t.2
def tagQs {α : Type} (tags : List (Nat × Nat)) (m : List (List α)) : List Value := List.zipWith (fun t r => tagQ t r.length) tags m
/-- A matrix in the making. -/
structure RowsO {α : Type} (K : RowKind α) (e : TypeId) (w : World) (ob base : Nat) (v : Value) (tags : List (Nat × Nat)) (m : List (List α)) : Prop where
  len : tags.length = m.length
  own : w.ownsRow ob e 1 v m.length (tagQs tags m)
  row : ∀ (i : Nat) t r, tags[i]? = some t → m[i]? = some r → r.length ≤ t.2 ∧ t.2 ≤ 9223372036854775807 ∧ K.R w t.1 r ∧ base ≤ t.1 ∧ v.ownBlock ≠ some t.1
  nodup : (tags.map (·.1)).Nodup
theorem tagQs_len {α : Type} {tags : List (Nat × Nat)} {m : List (List α)} (h : tags.length = m.length) : (tagQs tags m).length = m.length := by
  unfold tagQs; rw [List.length_zipWith, h]; omega
theorem RowsO.nil {α : Type} (K : RowKind α) (e : TypeId) (w : World) (ob base : Nat) : RowsO K e w ob base (.slice none 0 0) [] [] :=
  ⟨rfl, World.ownsRow_nil _ _ _ _, by intro i t r h; simp at h, by simp⟩
theorem RowsO.ext {α : Type} {K : RowKind α} {e : TypeId} {w w' : World} {ob base : Nat} {v : Value} {tags : List (Nat × Nat)} {m : List (List α)} (h : RowsO K e w ob base v tags m) (he : Ext w w') : RowsO K e w' ob base v tags m :=
  ⟨h.len, owns_ext h.own he, fun i t r ht hr => by
    obtain ⟨h1, h2, h3, h4, h5⟩ := h.row i t r ht hr
    exact ⟨h1, h2, K.same h3 he.size (he.block _ (K.lt h3)), h4, h5⟩, h.nodup⟩
/-- Its blocks. -/
theorem RowsO.fresh {α : Type} {K : RowKind α} {e : TypeId} {w : World} {ob base : Nat} {v : Value} {tags : List (Nat × Nat)} {m : List (List α)} (h : RowsO K e w ob base v tags m) {b : Nat} (hb : b ∈ tags.map (·.1)) : base ≤ b ∧ b < w.heap.size := by
  obtain ⟨t, ht, rfl⟩ := List.mem_map.1 hb
  obtain ⟨i, hi⟩ := List.getElem?_of_mem ht
  have hl : i < m.length := by rw [← h.len]; exact (List.getElem?_eq_some_iff.1 hi).1
  obtain ⟨h1, h2, h3, h4, h5⟩ := h.row i t m[i] hi (List.getElem?_eq_getElem hl)
  exact ⟨h4, K.lt h3⟩
/-- One row more. -/
theorem RowsO.snoc {α : Type} {K : RowKind α} {e : TypeId} {w w' : World} {ob base : Nat} {v v' : Value} {tags : List (Nat × Nat)} {m : List (List α)} (h : RowsO K e w ob base v tags m) (t : Nat × Nat) (r : List α) (hr1 : r.length ≤ t.2) (hr2 : t.2 ≤ 9223372036854775807) (hR : K.R w t.1 r) (hb : base ≤ t.1) (hv : v.ownBlock ≠ some t.1) (hn : t.1 ∉ tags.map (·.1))
    (hown : w'.ownsRow ob e 1 v' (m.length + 1) (tagQs tags m ++ [tagQ t r.length])) (hg : w.grownBy w' v.ownBlock) (hat : v'.ownBlock = v.ownBlock ∨ ∃ b, v'.ownBlock = some b ∧ w.heap.size ≤ b) :
    RowsO K e w' ob base v' (tags ++ [t]) (m ++ [r]) := by
  have hkeep : ∀ (s : Nat × Nat) q, K.R w s.1 q → v.ownBlock ≠ some s.1 → K.R w' s.1 q ∧ v'.ownBlock ≠ some s.1 := fun s q hs hvs => by
    refine ⟨K.same hs hg.size (hg.block s.1 (K.lt hs) hvs.symm), fun e => ?_⟩
    rcases hat with e2 | ⟨b, e2, e3⟩
    · exact hvs (e2.symm.trans e)
    · rw [e2] at e; cases e; have := K.lt hs; omega
  refine ⟨by simp [h.len], ?_, fun i s q hs hq => ?_, ?_⟩
  · have e : tagQs (tags ++ [t]) (m ++ [r]) = tagQs tags m ++ [tagQ t r.length] := by
      unfold tagQs; rw [List.zipWith_append h.len]; rfl
    rw [e, List.length_append]; exact hown
  · by_cases hi : i < tags.length
    · rw [List.getElem?_append_left hi] at hs
      rw [List.getElem?_append_left (by rw [← h.len]; exact hi)] at hq
      obtain ⟨h1, h2, h3, h4, h5⟩ := h.row i s q hs hq
      obtain ⟨k1, k2⟩ := hkeep s q h3 h5
      exact ⟨h1, h2, k1, h4, k2⟩
    · rw [List.getElem?_append_right (by omega)] at hs
      rw [List.getElem?_append_right (by rw [← h.len]; omega)] at hq
      have e1 : i - tags.length = 0 := by have := (List.getElem?_eq_some_iff.1 hs).1; simp at this; omega
      have e2 : i - m.length = 0 := by rw [← h.len]; exact e1
      rw [e1] at hs
      rw [e2] at hq
      simp only [List.getElem?_cons_zero, Option.some.injEq] at hs hq
      subst hs; subst hq
      obtain ⟨k1, k2⟩ := hkeep t r hR hv
      exact ⟨hr1, hr2, k1, hb, k2⟩
  · rw [List.map_append, List.nodup_append]
    refine ⟨h.nodup, by simp, ?_⟩
    intro a ha b hb2 e
    simp only [List.map_cons, List.map_nil, List.mem_singleton] at hb2
    subst e; subst hb2
    exact hn ha
/-- The matrix built, as one in place. -/
theorem RowsO.parts {α : Type} {K : RowKind α} {e : TypeId} {w : World} {ob base : Nat} {g cap : Nat} {tags : List (Nat × Nat)} {m : List (List α)} (h : RowsO K e w ob base (.slice (some ⟨g, 0, none⟩) m.length cap) tags m) :
    ob ≤ g ∧ g < w.heap.size ∧ (∀ j, w.frozen? ⟨g, j, none⟩ = false) ∧ (∀ (i : Nat) t r, tags[i]? = some t → m[i]? = some r → w.cell? ⟨g, i, none⟩ = some (.slice (some ⟨t.1, 0, none⟩) r.length t.2) ∧ r.length ≤ t.2 ∧ t.2 ≤ 9223372036854775807 ∧ K.R w t.1 r) ∧ (g :: tags.map (·.1)).Nodup ∧ m.length ≤ cap ∧ cap ≤ 9223372036854775807 := by
  have hc := h.own.cells (g := g) (by simp [Value.ownBlock])
  have hf := fun j => h.own.frozenAt j
  rcases h.own.2 with ⟨hv, _⟩ | ⟨g', cap', cur, hv, hb, hg, h1, h2, h3, h4⟩
  · simp at hv
  · simp only [Value.slice.injEq, Option.some.injEq, Addr.mk.injEq] at hv
    obtain ⟨⟨rfl, -, -⟩, -, rfl⟩ := hv
    refine ⟨hb, (Array.getElem?_eq_some_iff.1 hg).1, fun j => hf j, fun i t r ht hr => ?_, ?_, h1, h2⟩
    · obtain ⟨k1, k2, k3, k4, k5⟩ := h.row i t r ht hr
      refine ⟨?_, k1, k2, k3⟩
      have := hc i (tagQ t r.length) (by unfold tagQs; rw [List.getElem?_zipWith, ht, hr])
      rw [show (⟨g, 0, none⟩ : Addr).add i = ⟨g, i, none⟩ by unfold Addr.add; split <;> simp_all] at this
      exact this
    · rw [List.nodup_cons]
      refine ⟨fun hm => ?_, h.nodup⟩
      obtain ⟨t, ht, rfl⟩ := List.mem_map.1 hm
      obtain ⟨i, hi⟩ := List.getElem?_of_mem ht
      have hl : i < m.length := by rw [← h.len]; exact (List.getElem?_eq_some_iff.1 hi).1
      exact (h.row i t m[i] hi (List.getElem?_eq_getElem hl)).2.2.2.2 rfl
theorem RowsO.matQ {e : TypeId} {w : World} {ob base : Nat} {g cap : Nat} {tags : List (Nat × Nat)} {m : List (List Rat)} (h : RowsO ratK e w ob base (.slice (some ⟨g, 0, none⟩) m.length cap) tags m) (hob : base ≤ ob) :
    MatQ w g tags m ∧ m.length ≤ cap ∧ cap ≤ 9223372036854775807 ∧ ∀ b, blocksQ g tags b → base ≤ b := by
  obtain ⟨h1, h2, h3, h4, h5, h6, h7⟩ := h.parts
  refine ⟨⟨h.len, h2, h3, h4, h5⟩, h6, h7, fun b hb => ?_⟩
  rcases List.mem_cons.1 hb with rfl | hb
  · exact Nat.le_trans hob h1
  · exact (h.fresh hb).1

/-- 'out = append(out, r)': one row more. -/
theorem wp_append_rowO {α : Type} {K : RowKind α} {e : TypeId} {T2 : TypeId} (ht2 : Tryz.prog.underlying T2 = some (TypeDesc.slice e)) (hinfo : (Tryz.prog.info? e).map (fun i => (i.zero, i.size, i.bytes)) = some (some (.slice none 0 0), 1, 24)) (w : World) {o : Oper} {a : Act} {Q : Exit → Act → World → Prop} {L : Act → World → Prop}
    (s x : Operand) (ho : o.op = Op.call { callee := Callee.builtin Builtin.append, args := #[s, x], argTypes := #[T2, T2] }) (ob base : Nat)
    (v : Value) (tags : List (Nat × Nat)) (m : List (List α)) (t : Nat × Nat) (r : List α) (u : Array Value) (T : TypeId) (hs : a.eval s = v) (hB : RowsO K e w ob base v tags m)
    (hx : a.eval x = .slice (some ⟨w.heap.size, 0, none⟩) 1 1) (hu : u = #[tagQ t r.length]) (hr1 : r.length ≤ t.2) (hr2 : t.2 ≤ 9223372036854775807) (hR : K.R w t.1 r) (hb : base ≤ t.1) (hv : v.ownBlock ≠ some t.1) (hn : t.1 ∉ tags.map (·.1))
    (hlen : m.length < 1000000) (hbase : ob ≤ w.heap.size)
    (h : ∀ v' w', RowsO K e w' ob base v' (tags ++ [t]) (m ++ [r]) → Below ob w w' → Hid (∃ g c, v' = .slice (some ⟨g, 0, none⟩) (m.length + 1) c) → L (a.put o.dst v') w') :
    Oper.wp Tryz.prog o a (w.alloc (.cells u T)) L Q := by
  subst hu
  obtain ⟨i0, hi, hz, hsize, hby⟩ := info_parts hinfo
  have hadd : ∀ j, (⟨w.heap.size, 0, none⟩ : Addr).add j = ⟨w.heap.size, j, none⟩ := by intro j; unfold Addr.add; split <;> simp_all
  have hE : Ext w (w.alloc (.cells #[tagQ t r.length] T)) := Ext.alloc _ _
  refine wp_append_own_at (w.alloc (.cells #[tagQ t r.length] T)) s x T2 ho ob e i0 (.slice none 0 0) 1 24 ht2 hi hz hsize hby rfl (by decide) v m.length (tagQs tags m) hs (owns_ext hB.own hE) ⟨w.heap.size, 0, none⟩ 1 1 [tagQ t r.length] hx rfl ?_ ?_ ?_ ?_ ?_ ?_
  · intro j q hq
    rw [hadd, World.cell?_alloc_new]
    simpa using hq
  · intro u hu
    rw [List.mem_singleton.1 hu]; rfl
  · unfold maxLen; omega
  · omega
  · simp; omega
  · intro v' w' hown hgrow _ hat
    have hLB := (hB.ext hE).snoc t r hr1 hr2 (K.same hR hE.size (hE.block _ (K.lt hR))) hb hv hn hown hgrow (by
      rcases hat with h1 | h1
      · exact .inl h1
      · exact .inr ⟨_, h1, Nat.le_refl _⟩)
    refine h v' w' hLB ?_ ?_
    · have hgw : w.grownBy w' v.ownBlock := grown_trans (hE.grown _) hgrow
      refine ⟨hgw.os, hgw.tape, hgw.output, hgw.size, fun b hb2 => hgw.block b (by omega) ?_⟩
      intro e
      have := (hB.own.lt b e.symm).1
      omega
    · obtain ⟨g, c, hv', -⟩ := owns_shape hown (by omega)
      exact ⟨g, c, hv'⟩
theorem wpList_append_rowO {α : Type} {K : RowKind α} {e : TypeId} {T2 : TypeId} (ht2 : Tryz.prog.underlying T2 = some (TypeDesc.slice e)) (hinfo : (Tryz.prog.info? e).map (fun i => (i.zero, i.size, i.bytes)) = some (some (.slice none 0 0), 1, 24)) (w : World) {ops : Array Oper} {rest : List Oper} {o : Oper} {a : Act} {Q : Exit → Act → World → Prop} (hgd : o.guard = none)
    (s x : Operand) (ho : o.op = Op.call { callee := Callee.builtin Builtin.append, args := #[s, x], argTypes := #[T2, T2] }) (ob base : Nat)
    (v : Value) (tags : List (Nat × Nat)) (m : List (List α)) (t : Nat × Nat) (r : List α) (u : Array Value) (T : TypeId) (hs : a.eval s = v) (hB : RowsO K e w ob base v tags m)
    (hx : a.eval x = .slice (some ⟨w.heap.size, 0, none⟩) 1 1) (hu : u = #[tagQ t r.length]) (hr1 : r.length ≤ t.2) (hr2 : t.2 ≤ 9223372036854775807) (hR : K.R w t.1 r) (hb : base ≤ t.1) (hv : v.ownBlock ≠ some t.1) (hn : t.1 ∉ tags.map (·.1))
    (hlen : m.length < 1000000) (hbase : ob ≤ w.heap.size)
    (h : ∀ v' w', RowsO K e w' ob base v' (tags ++ [t]) (m ++ [r]) → Below ob w w' → Hid (∃ g c, v' = .slice (some ⟨g, 0, none⟩) (m.length + 1) c) → wpList Tryz.prog ops Q rest (a.put o.dst v') w') :
    wpList Tryz.prog ops Q (o :: rest) a (w.alloc (.cells u T)) :=
  wpList_plain hgd fun _ hK => wp_append_rowO ht2 hinfo w s x ho ob base v tags m t r u T hs hB hx hu hr1 hr2 hR hb hv hn hlen hbase fun v' w' a1 a2 a3 => hK _ _ (h v' w' a1 a2 a3)
end Go.Proofs.YtpeinobepiodaaaGreatDoor
/- Contracts of generic functions of package slices at api.Row. -/
namespace Go.Proofs.YtpeinobepiodaaaGreatDoor
set_option linter.unusedVariables false
set_option linter.unusedSimpArgs false
open Go.RowKit


def idxRow (p : Int → Bool) (xs : List Int) : Int := match xs.findIdx? p with | some i => (i : Int) | none => -1
/-- What is asked of a predicate handed over: in every later world it answers p, and adds to memory at most. -/
def PredRow (g : Nat) (lb : Array Value) (p : Int → Bool) (w : World) (xs : List Int) : Prop :=
  ∀ W x, x ∈ xs → Ext w W → Calls Tryz.prog g (#[.int .i64 x] ++ lb) W fun e W' => e = .returned (.bool (p x)) ∧ Ext W W'

set_option maxHeartbeats 400000 in
/-- slices.IndexFunc: the place of the first element at which p holds, or -1. -/
theorem indexFuncRow_any (xs : List Int) (v : Value) (g : Nat) (lb : Array Value) (p : Int → Bool) (w : World) (h : Ints w v xs) (eg : ∀ args w, (callFunc g args).run Tryz.prog w = .ok (.enter g args) w) (hp : PredRow g lb p w xs) :
    Calls Tryz.prog 98 #[v, .func (.func g) #[] lb] w fun e w' => e = .returned (.int .i64 (idxRow p xs)) ∧ Ext w w' := by
  obtain ⟨a, c, rfl, h1, h2, -, hxb, hc⟩ := h.open
  have HC := Lib.hid hc; have HPR := Lib.hid hp
  clear hc h hxb hp
  unfold maxLen at h2
  go_enter Tryz.func98, Tryz.ntmps98
  go_wp2
  go_loopw [8] (fun t wr => ∃ pre rest, t = .int .i64 (pre.length : Nat) ∧ Ext w wr ∧ Hid (xs = pre ++ rest) ∧ Hid (∀ x ∈ pre, p x = false)) (fun t _ => xs.length - (intOf t).toNat)
  case atStart => exact ⟨[], xs, rfl, Ext.refl _, rfl, by intro x hx; simp at hx⟩
  case round =>
    obtain ⟨pre, rest, rfl, hE, HP, HA⟩ := hrel
    have hlen : xs.length = pre.length + rest.length := by rw [HP.out]; simp
    cases rest with
    | nil =>
      have : ¬ (pre.length < xs.length) := by simp at hlen; omega
      clear hlen
      go_wp2
      go_ret
      have : idxRow p xs = -1 := by
        have : xs.findIdx? p = none := by rw [HP.out, List.append_nil, List.findIdx?_eq_none_iff]; exact HA.out
        unfold idxRow; rw [this]
      rw [this]
      exact ⟨rfl, hE⟩
    | cons x rest =>
      have hlt : pre.length < xs.length := by simp at hlen; omega
      clear hlen
      obtain ⟨b, off, rfl, hb, hcell⟩ := HC.out (by rw [HP.out]; simp)
      have g1 := hE.cell (hcell pre.length x (by rw [HP.out]; simp))
      clear hcell
      have hcall := fun W he => HPR.out W x (by rw [HP.out]; simp) he
      cases hq : p x with
      | true =>
        have HR : Hid (idxRow p xs = pre.length) := by
          unfold Hid idxRow
          rw [HP.out, List.findIdx?_append, (List.findIdx?_eq_none_iff (xs := pre)).2 HA.out, List.findIdx?_cons, hq]
          simp
        rw [hq] at hcall
        have HCALL := Lib.hid hcall
        clear hcall hq
        go_wp2_with (go_at_fn g; refine (HCALL.out _ hE).mono ?_; rintro e w' ⟨rfl, hE'⟩)
        go_ret
        rw [HR.out]
        exact ⟨rfl, hE.trans (by assumption)⟩
      | false =>
        have HA' : Hid (∀ y ∈ pre ++ [x], p y = false) := by
          intro y hy
          rcases List.mem_append.1 hy with hy | hy
          · exact HA.out y hy
          · rw [List.mem_singleton.1 hy]; exact hq
        rw [hq] at hcall
        have HCALL := Lib.hid hcall
        clear hcall hq
        go_wp2_with (go_at_fn g; refine (HCALL.out _ hE).mono ?_; rintro e w' ⟨rfl, hE'⟩)
        go_roundw
        case rel => exact ⟨pre ++ [x], rest, by simp, hE.trans (by assumption), by unfold Hid; rw [HP.out]; simp, HA'⟩
        case measure => simp [intOf]; omega


theorem containsRow_any (xs : List Int) (v : Value) (g : Nat) (lb : Array Value) (p : Int → Bool) (w : World) (h : Ints w v xs) (eg : ∀ args w, (callFunc g args).run Tryz.prog w = .ok (.enter g args) w) (hp : PredRow g lb p w xs) :
    Calls Tryz.prog 66 #[v, .func (.func g) #[] lb] w fun e w' => e = .returned (.bool (xs.any p)) ∧ Ext w w' := by
  have hcall := indexFuncRow_any xs v g lb p w h eg hp
  cases hf : xs.findIdx? p with
  | none =>
    have HR : Hid (xs.any p = false) := by
      unfold Hid
      rw [List.findIdx?_eq_none_iff] at hf
      simpa using hf
    unfold idxRow at hcall
    rw [hf] at hcall
    have HCALL := Lib.hid hcall
    clear hcall hf hp h
    go_enter Tryz.func66, Tryz.ntmps66
    go_wp2_with (go_at_call 98; refine HCALL.out.mono ?_; rintro e w' ⟨rfl, hE'⟩)
    go_ret
    rw [HR.out]
    exact ⟨rfl, by assumption⟩
  | some i =>
    have HR : Hid (xs.any p = true) := by
      unfold Hid
      rw [List.any_eq_true]
      obtain ⟨hi, hpi, _⟩ := List.findIdx?_eq_some_iff_getElem.1 hf
      exact ⟨_, List.getElem_mem hi, hpi⟩
    have hi0 : (0 : Int) ≤ (i : Int) := by omega
    unfold idxRow at hcall
    rw [hf] at hcall
    have HCALL := Lib.hid hcall
    clear hcall hf hp h
    go_enter Tryz.func66, Tryz.ntmps66
    go_wp2_with (go_at_call 98; refine HCALL.out.mono ?_; rintro e w' ⟨rfl, hE'⟩)
    go_ret
    rw [HR.out]
    exact ⟨rfl, by assumption⟩

end Go.Proofs.YtpeinobepiodaaaGreatDoor
/- Contract of table.Check (cuts without package row). -/
namespace Go.Proofs.YtpeinobepiodaaaGreatDoor
set_option linter.unusedVariables false
set_option linter.unusedSimpArgs false
open Go.RowKit

theorem drop_cons {α : Type} {xs : List α} {j : Nat} {x : α} (h : xs[j]? = some x) : xs.drop j = x :: xs.drop (j + 1) := by
  obtain ⟨hj, rfl⟩ := List.getElem?_eq_some_iff.1 h
  exact List.drop_eq_getElem_cons hj
def fitB (n : Int) : Bool := decide (-1000000000 ≤ n) && decide (n ≤ 1000000000)
theorem fitB_iff (n : Int) : fitB n = true ↔ -1000000000 ≤ n ∧ n ≤ 1000000000 := by simp [fitB]
theorem great_any (n : Int) (w : World) : Calls Tryz.prog 67 #[.int .i64 n] w fun e w' => e = .returned (.bool (!fitB n)) ∧ w = w' := by
  by_cases h : n ≤ 1000000000
  · by_cases h2 : -1000000000 ≤ n
    · go_enter Tryz.func67, Tryz.ntmps67
      go_wp2
      go_ret
      exact ⟨by simp [fitB, h, h2]; try omega, rfl⟩
    · go_enter Tryz.func67, Tryz.ntmps67
      go_wp2
      go_ret
      exact ⟨by simp [fitB, h, h2]; try omega, rfl⟩
  · go_enter Tryz.func67, Tryz.ntmps67
    go_wp2
    go_ret
    exact ⟨by simp [fitB, h]; try omega, rfl⟩
def tabR (n : Nat) : List (List Int) → Int
  | [] => 0
  | r :: l => if 12 < r.length then 4 else if r.length = n then (if r.any (fun x => !fitB x) then 4 else tabR n l) else 5
/-- The error of a matrix. -/
def tabE (xss : List (List Int)) : Int := if 12 < xss.length then 4 else tabR (xss.headD []).length xss

set_option maxRecDepth 100000 in
set_option maxHeartbeats 2000000 in
theorem tabCheck_any (xss : List (List Int)) (v : Value) (w : World) (h : Rows2 w v xss) :
    Calls Tryz.prog 41 #[v] w fun e w' => e = .returned (.int .i64 (tabE xss)) ∧ Ext w w' := by
  obtain ⟨a, c, rfl, h1, h2, -, hc⟩ := inCell.open h
  have HC := Lib.hid hc
  unfold maxLen at h2
  clear h hc
  by_cases hl : 12 < xss.length
  · have HT : Hid (tabE xss = 4) := by unfold Hid tabE; rw [if_pos hl]
    have hl' : (12 : Int) < (xss.length : Int) := by omega
    go_enter Tryz.func41, Tryz.ntmps41
    go_wp2_with fail
    go_ret
    exact ⟨by rw [HT.out]; rfl, Ext.refl _⟩
  · have HT : Hid (tabE xss = tabR (xss.headD []).length xss) := by unfold Hid tabE; rw [if_neg hl]
    have hl' : ¬ (12 : Int) < (xss.length : Int) := by omega
    obtain ⟨n, hn⟩ : ∃ n, n = (xss.headD []).length := ⟨_, rfl⟩
    rw [← hn] at HT
    have HN := Lib.hid hn
    clear hn
    go_enter Tryz.func41, Tryz.ntmps41
    go_wp2_with fail
    go_loopw [10] (fun t wr => ∃ j : Nat, j ≤ xss.length ∧ t = .int .i64 j ∧ Ext w wr ∧ Hid (tabE xss = tabR n (xss.drop j))) (fun t _ => xss.length - (intOf t).toNat)
    case atStart => exact ⟨0, by omega, rfl, Ext.refl _, HT.out⟩
    case round =>
      obtain ⟨j, hj, rfl, hE, HD⟩ := hrel
      obtain ⟨wo, rfl⟩ : ∃ wo : World, wo = wr := ⟨_, rfl⟩
      have HE := Lib.hid hE
      by_cases hlt : j < xss.length
      · obtain ⟨b, off, rfl, hb, hcell⟩ := HC.out (by intro e; simp [e] at hlt)
        obtain ⟨xs, hx⟩ : ∃ x, xss[j]? = some x := ⟨xss[j], List.getElem?_eq_getElem hlt⟩
        obtain ⟨ys, hy⟩ : ∃ y, xss[0]? = some y := ⟨xss[0]'(by omega), List.getElem?_eq_getElem _⟩
        have hny : ys.length = n := by
          rw [HN.out]
          cases xss with
          | nil => simp at hlt
          | cons z t => simp at hy; rw [hy]; rfl
        obtain ⟨vx, hvx, hcx⟩ := hcell j xs hx
        obtain ⟨vy, hvy, hcy⟩ := hcell 0 ys hy
        rw [Nat.add_zero] at hcy
        obtain ⟨ax, cx, rfl, -, -, -, -, -⟩ := Ints.open hvx
        obtain ⟨ay, cy, rfl, -, -, -, -, -⟩ := Ints.open hvy
        rw [hny] at hcy
        have g1 := hE.cell hcx
        have g2 := hE.cell hcy
        have HX := Lib.hid (Ints.ext hvx hE)
        have HDS : Hid (tabE xss = if 12 < xs.length then 4 else if xs.length = n then (if xs.any (fun x => !fitB x) then 4 else tabR n (xss.drop (j + 1))) else 5) := by
          unfold Hid; rw [HD.out, drop_cons hx]; rfl
        have hpos : 0 < xss.length := by omega
        have HANY := Lib.hid (fun W he => containsRow_any xs _ 67 #[] (fun x => !fitB x) W (HX.out.ext (w' := W) he) (enters_of Tryz.func67 (by kernel_rfl) rfl) (fun W x _ _ => (great_any x W).mono fun _ _ ⟨he, hw⟩ => ⟨he, hw ▸ Ext.refl _⟩))
        clear hcell hx hy hny hvx hvy hcx hcy hE
        by_cases q1 : 12 < xs.length
        · have q2 : (12 : Int) < (xs.length : Int) := by omega
          rw [if_pos q1] at HDS
          go_wp2_with fail
          go_ret
          exact ⟨by rw [HDS.out]; rfl, HE.out⟩
        · have q2 : ¬ (12 : Int) < (xs.length : Int) := by omega
          rw [if_neg q1] at HDS
          by_cases q3 : xs.length = n
          · rw [if_pos q3] at HDS
            have q4 : ((xs.length : Int) != (n : Int)) = false := by simp [q3]
            cases hany : xs.any (fun x => !fitB x) with
            | true =>
              rw [hany, if_pos rfl] at HDS
              rw [hany] at HANY
              clear q3 hany
              go_wp2_with fail
              refine (HANY.out _ (Ext.refl _)).mono ?_
              rintro e w1 ⟨rfl, hE1⟩
              have HE1 := Lib.hid (Ext.trans HE.out hE1)
              clear hE1 HANY
              go_wp2_with fail
              go_ret
              exact ⟨by rw [HDS.out]; rfl, HE1.out⟩
            | false =>
              rw [hany, if_neg Bool.false_ne_true] at HDS
              rw [hany] at HANY
              clear q3 hany
              go_wp2_with fail
              refine (HANY.out _ (Ext.refl _)).mono ?_
              rintro e w1 ⟨rfl, hE1⟩
              have HE1 := Lib.hid (Ext.trans HE.out hE1)
              clear hE1 HANY
              go_wp2_with fail
              go_roundw
              case rel => exact ⟨j + 1, by omega, by go_num, HE1.out, HDS.out⟩
              case measure => simp [intOf]; omega
          · rw [if_neg q3] at HDS
            have q4 : ((xs.length : Int) != (n : Int)) = true := by simp; omega
            clear q3
            go_wp2_with fail
            go_ret
            exact ⟨by rw [HDS.out]; rfl, HE.out⟩
      · obtain rfl : j = xss.length := by omega
        have HF : Hid (tabE xss = 0) := by unfold Hid; rw [HD.out, List.drop_length]; rfl
        clear HD hE
        go_wp2_with fail
        go_ret
        exact ⟨by rw [HF.out]; rfl, HE.out⟩
end Go.Proofs.YtpeinobepiodaaaGreatDoor
/- Contracts of table.Identity and of the reference's Identity. -/
namespace Go.Proofs.YtpeinobepiodaaaGreatDoor
set_option linter.unusedVariables false
set_option linter.unusedSimpArgs false
open Go.RowKit

theorem infoRowT : (Tryz.prog.info? 51).map (fun i => (i.zero, i.size, i.bytes)) = some (some (.slice none 0 0), 1, 24) := by kernel_rfl
/-- The first i rows of the unit matrix of n. -/
def idM (n i : Nat) : List (List Int) := (List.range i).map fun k => (List.replicate n (0 : Int)).set k 1
theorem idM_succ (n i : Nat) : idM n (i + 1) = idM n i ++ [(List.replicate n (0 : Int)).set i 1] := by
  unfold idM; rw [List.range_succ, List.map_append]; rfl
theorem idM_len (n i : Nat) : (idM n i).length = i := by simp [idM]
theorem RowI.ofOwn {w : World} {B g n c : Nat} {xs : List Int} (h : w.ownsRow B 3 1 (.slice (some ⟨g, 0, none⟩) n c) n (xs.map (Value.int .i64 ·))) : RowI w g xs := by
  have hl := h.lt g (by simp [Value.ownBlock])
  have hc := h.cells (g := g) (by simp [Value.ownBlock])
  refine ⟨hl.2, fun j x hx => ?_, fun j => h.frozenAt j⟩
  have := hc j (.int .i64 x) (by rw [List.getElem?_map, hx]; rfl)
  rw [show (⟨g, 0, none⟩ : Addr).add j = ⟨g, j, none⟩ by unfold Addr.add; split <;> simp_all] at this
  exact this
theorem RowI.set {w : World} {g : Nat} {xs : List Int} (h : RowI w g xs) (k : Nat) (hk : k < xs.length) (y : Int) : RowI (w.setCell ⟨g, k, none⟩ (.int .i64 y)) g (xs.set k y) := by
  refine ⟨by rw [setCell_sizeQ]; exact h.lt, fun j x hj => ?_, fun j => by rw [frozen_set]; exact h.free j⟩
  rw [List.getElem?_set] at hj
  by_cases e : k = j
  · subst e
    rw [if_pos rfl, if_pos hk] at hj
    cases hj
    exact World.cell?_setCell_same w _ _ (h.cell k _ (List.getElem?_eq_getElem hk))
  · rw [if_neg e] at hj
    rw [World.cell?_setCell_other _ _ _ _ (by intro e2; simp only [Addr.mk.injEq] at e2; omega)]
    exact h.cell j x hj
theorem RowI.ext {w w' : World} {g : Nat} {xs : List Int} (h : RowI w g xs) (he : Ext w w') : RowI w' g xs := h.same he.size (he.block g h.lt)

set_option maxRecDepth 100000 in
set_option maxHeartbeats 2000000 in
theorem refIdentity_any (n : Nat) (hn : n ≤ 12) (w : World) :
    Calls Tryz.prog 33 #[.int .i64 n] w fun e w' => ∃ v tags, e = .returned v ∧ RowsO intK 51 w' w.heap.size w.heap.size v tags (idM n n) ∧ Ext w w' := by
  obtain ⟨i0, hi, hz0, hz1, hz2⟩ := info_parts infoInt
  have HI := Lib.hid hi; have HZ0 := Lib.hid hz0; have HZ1 := Lib.hid hz1; have HZ2 := Lib.hid hz2
  clear hi hz0 hz1 hz2
  go_enter Tryz.func33, Tryz.ntmps33
  go_wp2_with fail
  go_loopw [4, 3] (fun t v wr => ∃ (i : Nat) (tags : List (Nat × Nat)), i ≤ n ∧ t = .int .i64 i ∧ Ext w wr ∧ Hid (RowsO intK 51 wr w.heap.size w.heap.size v tags (idM n i))) (fun t _ _ => n - (intOf t).toNat)
  case atStart => exact ⟨0, [], by omega, rfl, Ext.refl _, RowsO.nil _ _ _ _ _⟩
  case round =>
    obtain ⟨i, tags, hin, rfl, hE, HR⟩ := hrel
    obtain ⟨wo, rfl⟩ : ∃ wo : World, wo = wr := ⟨_, rfl⟩
    by_cases hlt : i < n
    · go_wp2_with (at_make; refine wpList_make_full _ rfl _ _ 51 rfl wo.heap.size 3 i0 (.int .i64 0) 1 Tryz.underlying51 HI.out HZ0.out HZ1.out _ _ _ _ n rfl rfl rfl rfl ?c1 ?c2 ?c3 ?_)
      any_goals (first | (rw [HZ2.out]; omega) | (unfold maxLen; omega) | exact Nat.le_refl _)
      intro w3 hown hgrow
      rw [made_ints] at hown
      have hRI := RowI.ofOwn hown
      have HE3 := Lib.hid (ext_grown hgrow)
      have hsz3 := hRI.lt
      have HRI := Lib.hid hRI
      have c0 := hRI.cell i 0 (by simp [hlt])
      have f0 := hRI.free i
      have HE4 : Hid (Ext wo (w3.setCell ⟨wo.heap.size, i, none⟩ (.int .i64 1))) := ((HE3.out.grownS (· = wo.heap.size)).store (S := (· = wo.heap.size)) rfl i (.int .i64 1)).belowE (fun k e => by omega) (Nat.le_refl _)
      have HRS := Lib.hid (hRI.set i (by simp [hlt]) 1)
      have hrl : ((List.replicate n (0 : Int)).set i 1).length = n := by simp
      have HRL := Lib.hid hrl
      have HO4 := Lib.hid (HR.out.ext HE4.out)
      have HV : Hid (u3.ownBlock ≠ some wo.heap.size) := fun e => by have := (HR.out.own.lt _ e).2; omega
      have HN : Hid (wo.heap.size ∉ tags.map (·.1)) := fun e => by have := (HR.out.fresh e).2; omega
      have HSZ : Hid (w.heap.size ≤ (w3.setCell ⟨wo.heap.size, i, none⟩ (.int .i64 1)).heap.size ∧ w.heap.size ≤ wo.heap.size) := by
        have h1 := hE.size; have h2 := HE3.out.size
        exact ⟨by rw [setCell_sizeQ]; omega, h1⟩
      have HLN : Hid ((idM n i).length < 1000000) := by unfold Hid; rw [idM_len]; omega
      clear hown hgrow hRI hrl
      go_wp2_with (at_builtin; go_must (refine wpList_append_rowO (K := intK) (e := 51) Tryz.underlying23 infoRowT _ rfl _ _ rfl w.heap.size w.heap.size u3 tags (idM n i) (wo.heap.size, n) ((List.replicate n (0 : Int)).set i 1) #[.slice (some ⟨wo.heap.size, 0, none⟩) n n] 51 rfl HO4.out (by rw [setCell_sizeQ]; rfl) ?d1 ?d2 ?d3 HRS.out HSZ.out.2 HV.out HN.out HLN.out HSZ.out.1 ?_))
      all_goals first | (rw [HRL.out]; exact Nat.le_refl _) | (show n ≤ _; omega) | (rw [HRL.out]; rfl) | skip
      intro v' w5 hO5 hb5 _
      have HO5 := Lib.hid hO5
      rw [← idM_succ] at HO5
      have HX5 := Lib.hid (Below.trans (Ext.trans hE HE4.out) hb5)
      clear hO5 hb5
      go_wp2_with fail
      go_roundw
      case rel => exact ⟨i + 1, _, by omega, by go_num, HX5.out, HO5.out⟩
      case measure => simp [intOf]; omega
    · obtain rfl : i = n := by omega
      go_wp2_with fail
      go_ret
      exact ⟨_, tags, rfl, HR.out, hE⟩

set_option maxRecDepth 100000 in
set_option maxHeartbeats 2000000 in
theorem identity_any (n : Nat) (hn : n ≤ 12) (w : World) :
    Calls Tryz.prog 31 #[.int .i64 n] w fun e w' => ∃ v tags, e = .returned (.tuple #[v, .int .i64 0]) ∧ RowsO intK 51 w' w.heap.size w.heap.size v tags (idM n n) ∧ Ext w w' := by
  obtain ⟨i0, hi, hz0, hz1, hz2⟩ := info_parts infoInt
  have HI := Lib.hid hi; have HZ0 := Lib.hid hz0; have HZ1 := Lib.hid hz1; have HZ2 := Lib.hid hz2
  clear hi hz0 hz1 hz2
  have q1 : ¬ (n : Int) < 0 := by omega
  have q2 : ¬ (12 : Int) < (n : Int) := by omega
  go_enter Tryz.func31, Tryz.ntmps31
  go_wp2_with fail
  go_loopw [14, 4] (fun t v wr => ∃ (i : Nat) (tags : List (Nat × Nat)), i ≤ n ∧ t = .int .i64 i ∧ Ext w wr ∧ Hid (RowsO intK 51 wr w.heap.size w.heap.size v tags (idM n i))) (fun t _ _ => n - (intOf t).toNat)
  case atStart => exact ⟨0, [], by omega, rfl, Ext.refl _, RowsO.nil _ _ _ _ _⟩
  case round =>
    obtain ⟨i, tags, hin, rfl, hE, HR⟩ := hrel
    obtain ⟨wo, rfl⟩ : ∃ wo : World, wo = wr := ⟨_, rfl⟩
    by_cases hlt : i < n
    · go_wp2_with (at_make; refine wpList_make_full _ rfl _ _ 51 rfl wo.heap.size 3 i0 (.int .i64 0) 1 Tryz.underlying51 HI.out HZ0.out HZ1.out _ _ _ _ n rfl rfl rfl rfl ?c1 ?c2 ?c3 ?_)
      any_goals (first | (rw [HZ2.out]; omega) | (unfold maxLen; omega) | exact Nat.le_refl _)
      intro w3 hown hgrow
      rw [made_ints] at hown
      have hRI := RowI.ofOwn hown
      have HE3 := Lib.hid (ext_grown hgrow)
      have hsz3 := hRI.lt
      have HRI := Lib.hid hRI
      have c0 := hRI.cell i 0 (by simp [hlt])
      have f0 := hRI.free i
      have HE4 : Hid (Ext wo (w3.setCell ⟨wo.heap.size, i, none⟩ (.int .i64 1))) := ((HE3.out.grownS (· = wo.heap.size)).store (S := (· = wo.heap.size)) rfl i (.int .i64 1)).belowE (fun k e => by omega) (Nat.le_refl _)
      have HRS := Lib.hid (hRI.set i (by simp [hlt]) 1)
      have hrl : ((List.replicate n (0 : Int)).set i 1).length = n := by simp
      have HRL := Lib.hid hrl
      have HO4 := Lib.hid (HR.out.ext HE4.out)
      have HV : Hid (u4.ownBlock ≠ some wo.heap.size) := fun e => by have := (HR.out.own.lt _ e).2; omega
      have HN : Hid (wo.heap.size ∉ tags.map (·.1)) := fun e => by have := (HR.out.fresh e).2; omega
      have HSZ : Hid (w.heap.size ≤ (w3.setCell ⟨wo.heap.size, i, none⟩ (.int .i64 1)).heap.size ∧ w.heap.size ≤ wo.heap.size) := by
        have h1 := hE.size; have h2 := HE3.out.size
        exact ⟨by rw [setCell_sizeQ]; omega, h1⟩
      have HLN : Hid ((idM n i).length < 1000000) := by unfold Hid; rw [idM_len]; omega
      clear hown hgrow hRI hrl
      go_wp2_with (at_builtin; go_must (refine wpList_append_rowO (K := intK) (e := 51) Tryz.underlying23 infoRowT _ rfl _ _ rfl w.heap.size w.heap.size u4 tags (idM n i) (wo.heap.size, n) ((List.replicate n (0 : Int)).set i 1) #[.slice (some ⟨wo.heap.size, 0, none⟩) n n] 51 rfl HO4.out (by rw [setCell_sizeQ]; rfl) ?d1 ?d2 ?d3 HRS.out HSZ.out.2 HV.out HN.out HLN.out HSZ.out.1 ?_))
      all_goals first | (rw [HRL.out]; exact Nat.le_refl _) | (show n ≤ _; omega) | (rw [HRL.out]; rfl) | skip
      intro v' w5 hO5 hb5 _
      have HO5 := Lib.hid hO5
      rw [← idM_succ] at HO5
      have HX5 := Lib.hid (Below.trans (Ext.trans hE HE4.out) hb5)
      clear hO5 hb5
      go_wp2_with fail
      go_roundw
      case rel => exact ⟨i + 1, _, by omega, by go_num, HX5.out, HO5.out⟩
      case measure => simp [intOf]; omega
    · obtain rfl : i = n := by omega
      go_wp2_with fail
      go_ret2
      exact ⟨_, tags, rfl, HR.out, hE⟩
theorem identity_bad (n : Int) (w : World) (hn : n < 0 ∨ 12 < n) :
    Calls Tryz.prog 31 #[.int .i64 n] w fun e w' => e = .returned (.tuple #[.slice none 0 0, .int .i64 3]) ∧ w = w' := by
  by_cases h1 : n < 0
  · go_enter Tryz.func31, Tryz.ntmps31
    go_wp2_with fail
    go_ret2
    exact ⟨rfl, rfl⟩
  · have h2 : 12 < n := by omega
    go_enter Tryz.func31, Tryz.ntmps31
    go_wp2_with fail
    go_ret2
    exact ⟨rfl, rfl⟩

end Go.Proofs.YtpeinobepiodaaaGreatDoor
/- Contracts of the reference's EqualRows and Equal (chapter 06). -/
namespace Go.Proofs.YtpeinobepiodaaaGreatDoor
set_option linter.unusedVariables false
set_option linter.unusedSimpArgs false
open Go.RowKit

theorem list_eq_of_get {α : Type} {xs ys : List α} (hl : xs.length = ys.length) (h : ∀ i, i < xs.length → xs[i]? = ys[i]?) : xs = ys := by
  apply List.ext_getElem?
  intro i
  by_cases hi : i < xs.length
  · exact h i hi
  · rw [List.getElem?_eq_none (by omega), List.getElem?_eq_none (by omega)]

set_option maxRecDepth 100000 in
set_option maxHeartbeats 1000000 in
theorem refEqRows_any (xs ys : List Int) (u v : Value) (w : World) (h : Ints w u xs) (k : Ints w v ys) :
    Calls Tryz.prog 38 #[u, v] w fun e w' => e = .returned (.bool (xs == ys)) ∧ Ext w w' := by
  obtain ⟨a, c, rfl, hx1, hx2, -, -, hx⟩ := h.open
  obtain ⟨a', c', rfl, hy1, hy2, -, -, hy⟩ := k.open
  clear h k
  unfold maxLen at hx2 hy2
  by_cases hl : xs.length = ys.length
  · have HX := Lib.hid hx; have HY := Lib.hid hy; have HL := Lib.hid hl
    have hb : ((xs.length : Int) != (ys.length : Int)) = false := by rw [hl]; simp
    clear hx hy
    go_enter Tryz.func38, Tryz.ntmps38
    go_wp2
    go_loopw [5] (fun t wr => ∃ j : Nat, j ≤ xs.length ∧ t = .int .i64 j ∧ Hid (∀ i, i < j → xs[i]? = ys[i]?) ∧ Ext w wr) (fun t _ => xs.length - (intOf t).toNat)
    case atStart => exact ⟨0, by omega, rfl, fun i hi => by omega, Ext.refl _⟩
    case round =>
      obtain ⟨j, hj, rfl, HP, hE⟩ := hrel
      by_cases hlt : j < xs.length
      · obtain ⟨b, off, rfl, hb1, hc1⟩ := HX.out (by intro e; rw [e] at hlt; simp at hlt)
        obtain ⟨b', off', rfl, hb2, hc2⟩ := HY.out (by intro e; have h0 := HL.out; rw [e] at h0; simp only [List.length_nil] at h0; omega)
        obtain ⟨x, hx⟩ : ∃ x, xs[j]? = some x := ⟨xs[j], List.getElem?_eq_getElem hlt⟩
        obtain ⟨y, hy⟩ : ∃ y, ys[j]? = some y := ⟨ys[j]'(by omega), List.getElem?_eq_getElem _⟩
        have g1 := hE.cell (hc1 j x hx)
        have g2 := hE.cell (hc2 j y hy)
        have hjy : j < ys.length := by omega
        clear hc1 hc2
        by_cases hxy : x = y
        · have hb3 : (x != y) = false := by rw [hxy]; simp
          have HP2 : Hid (∀ i, i < j + 1 → xs[i]? = ys[i]?) := fun i hi => by
            by_cases e : i = j
            · rw [e, hx, hy, hxy]
            · exact HP.out i (by omega)
          clear hx hy hxy
          go_wp2
          go_quiet (fail)
          go_wp2
          go_roundw
          case rel => exact ⟨j + 1, by omega, by go_num, HP2.out, Ext.draws hE _⟩
          case measure => simp [intOf]; omega
        · have hb3 : (x != y) = true := by simpa using hxy
          have HQ : Hid ((xs == ys) = false) := by
            unfold Hid
            rw [beq_eq_false_iff_ne]
            intro e
            rw [e, hy] at hx
            exact hxy (Option.some.inj hx).symm
          clear hx hy hxy
          go_wp2
          go_quiet (fail)
          go_wp2
          go_ret
          exact ⟨by rw [HQ.out]; rfl, Ext.draws hE _⟩
      · have HQ : Hid ((xs == ys) = true) := by
          unfold Hid
          rw [beq_iff_eq]
          exact list_eq_of_get HL.out fun i hi => HP.out i (by omega)
        go_wp2
        go_ret
        exact ⟨by rw [HQ.out]; rfl, hE⟩
  · have hb : ((xs.length : Int) != (ys.length : Int)) = true := by simp; omega
    have HQ : Hid ((xs == ys) = false) := by
      unfold Hid
      rw [beq_eq_false_iff_ne]
      intro e; exact hl (by rw [e])
    clear hx hy hl
    go_enter Tryz.func38, Tryz.ntmps38
    go_wp2
    go_ret
    exact ⟨by rw [HQ.out]; rfl, Ext.refl _⟩

set_option maxRecDepth 100000 in
set_option maxHeartbeats 1000000 in
theorem refEqual6_any (xs ys : List (List Int)) (u v : Value) (w : World) (h : Rows2 w u xs) (k : Rows2 w v ys) :
    Calls Tryz.prog 32 #[u, v] w fun e w' => e = .returned (.bool (xs == ys)) ∧ Ext w w' := by
  obtain ⟨a, c, rfl, hx1, hx2, -, hx⟩ := inCell.open h
  obtain ⟨a', c', rfl, hy1, hy2, -, hy⟩ := inCell.open k
  clear h k
  unfold maxLen at hx2 hy2
  by_cases hl : xs.length = ys.length
  · have HX := Lib.hid hx; have HY := Lib.hid hy; have HL := Lib.hid hl
    have hb : ((xs.length : Int) != (ys.length : Int)) = false := by rw [hl]; simp
    clear hx hy hl
    go_enter Tryz.func32, Tryz.ntmps32
    go_wp2
    go_loopw [5] (fun t wr => ∃ j : Nat, j ≤ xs.length ∧ t = .int .i64 j ∧ Hid (∀ i, i < j → xs[i]? = ys[i]?) ∧ Ext w wr) (fun t _ => xs.length - (intOf t).toNat)
    case atStart => exact ⟨0, by omega, rfl, fun i hi => by omega, Ext.refl _⟩
    case round =>
      obtain ⟨j, hj, rfl, HP, hE⟩ := hrel
      obtain ⟨wj, rfl⟩ : ∃ wj : World, wj = wr := ⟨_, rfl⟩
      by_cases hlt : j < xs.length
      · obtain ⟨b, off, rfl, hb1, hc1⟩ := HX.out (by intro e; rw [e] at hlt; simp at hlt)
        obtain ⟨b', off', rfl, hb2, hc2⟩ := HY.out (by intro e; have h0 := HL.out; rw [e] at h0; simp only [List.length_nil] at h0; omega)
        obtain ⟨x, hx⟩ : ∃ x, xs[j]? = some x := ⟨xs[j], List.getElem?_eq_getElem hlt⟩
        obtain ⟨y, hy⟩ : ∃ y, ys[j]? = some y := ⟨ys[j]'(by have := HL.out; omega), List.getElem?_eq_getElem _⟩
        obtain ⟨p, hp, k1⟩ := hc1 j x hx
        obtain ⟨q, hq, k2⟩ := hc2 j y hy
        have g1 := hE.cell k1
        have g2 := hE.cell k2
        have HC : Hid (∀ W, Ext wj W → Calls Tryz.prog 38 #[p, q] W fun e w' => e = .returned (.bool (x == y)) ∧ Ext W w') := fun W hW => refEqRows_any x y p q W (hp.ext (hE.trans hW)) (hq.ext (hE.trans hW))
        have hjy : j < ys.length := by have := HL.out; omega
        have HXY : Hid ((x == y) = true → ∀ i, i < j + 1 → xs[i]? = ys[i]?) := fun hxy i hi => by
          by_cases e : i = j
          · rw [e, hx, hy, beq_iff_eq.1 hxy]
          · exact HP.out i (by omega)
        have HNE : Hid ((x == y) = false → (xs == ys) = false) := fun hxy => by
          rw [beq_eq_false_iff_ne] at hxy ⊢
          intro e
          rw [e, hy] at hx
          exact hxy (Option.some.inj hx).symm
        obtain ⟨bb, hbb⟩ : ∃ b, b = (x == y) := ⟨_, rfl⟩
        rw [← hbb] at HC HXY HNE
        clear hc1 hc2 hx hy hp hq k1 k2 hbb
        have HE0 : Hid (Ext wj wj.drew) := Ext.drew wj
        go_upto_region 6 with fail
        go_cut [26] from 17 to 25 (fun s wx => s = .bool (!bb) ∧ Hid (Ext wj wx))
        case first =>
          go_region_held3 (fun w' => w'.cell? ⟨b, off + j, none⟩ = some p ∧ w'.cell? ⟨b', off' + j, none⟩ = some q ∧ Hid (Ext wj w'))
            (first | exact ⟨z1, z2, z3⟩ | exact ⟨g1, g2, HE0⟩ | go_keep)
            (first | (go_at_call 38; refine (HC.out _ (Hid.out (p := Ext wj _) (by assumption))).mono ?_; rintro e w5 ⟨rfl, hE5⟩; have z1 := hE5.cell (a := ⟨b, off + j, none⟩) (v := p) (by assumption); have z2 := hE5.cell (a := ⟨b', off' + j, none⟩) (v := q) (by assumption); have z3 : Hid (Ext wj w5) := Ext.trans (Hid.out (p := Ext wj _) (by assumption)) hE5))
          all_goals (go_wp2_with fail; go_meet; exact ⟨rfl, by assumption⟩)
        case rest =>
          obtain ⟨rfl, HX5⟩ := hcut
          cases bb
          · have HQ := HNE.out rfl
            have HQ2 := Lib.hid HQ
            clear HQ HNE HXY HC
            go_wp2
            go_ret
            exact ⟨by rw [HQ2.out]; rfl, hE.trans HX5.out⟩
          · have HP2 := Lib.hid (HXY.out rfl)
            clear HNE HXY HC
            go_wp2
            go_roundw
            case rel => exact ⟨j + 1, by omega, by go_num, HP2.out, hE.trans HX5.out⟩
            case measure => simp [intOf]; omega
      · have HQ : Hid ((xs == ys) = true) := by
          unfold Hid
          rw [beq_iff_eq]
          exact list_eq_of_get HL.out fun i hi => HP.out i (by omega)
        go_wp2
        go_ret
        exact ⟨by rw [HQ.out]; rfl, hE⟩
  · have hb : ((xs.length : Int) != (ys.length : Int)) = true := by simp; omega
    have HQ : Hid ((xs == ys) = false) := by
      unfold Hid
      rw [beq_eq_false_iff_ne]
      intro e; exact hl (by rw [e])
    clear hx hy hl
    go_enter Tryz.func32, Tryz.ntmps32
    go_wp2
    go_ret
    exact ⟨by rw [HQ.out]; rfl, Ext.refl _⟩
end Go.Proofs.YtpeinobepiodaaaGreatDoor
/- A matrix of ints that was built, as one to read; its unit matrices are equal. -/
namespace Go.Proofs.YtpeinobepiodaaaGreatDoor
set_option linter.unusedVariables false
set_option linter.unusedSimpArgs false
open Go.RowKit

theorem RowI.ints {w : World} {g c : Nat} {xs : List Int} (h : RowI w g xs) (h1 : xs.length ≤ c) (h2 : c ≤ 9223372036854775807) (hb : ∀ x ∈ xs, -9223372036854775808 ≤ x ∧ x ≤ 9223372036854775807) : Ints w (.slice (some ⟨g, 0, none⟩) xs.length c) xs := by
  refine ⟨xs.map fun x => [Value.int .i64 x], by simp, by simp, ?_, ?_⟩
  · rw [flatten_one]
    refine ⟨_, c, rfl, h1, by unfold maxLen; omega, fun e => by simp at e, fun _ => ⟨g, 0, rfl, h.lt, fun j u hu => ?_⟩⟩
    rw [List.getElem?_map] at hu
    obtain ⟨x, hx, rfl⟩ := Option.map_eq_some_iff.1 hu
    rw [Nat.zero_add]
    exact h.cell j x hx
  · intro j u x hu hx
    simp only [List.getElem?_map, hx, Option.map_some, Option.some.injEq] at hu
    exact ⟨hu.symm, hb x (List.mem_of_getElem? hx)⟩
theorem RowsO.rows2 {e : TypeId} {w : World} {ob base : Nat} {v : Value} {tags : List (Nat × Nat)} {m : List (List Int)} (h : RowsO intK e w ob base v tags m) (hb : ∀ r ∈ m, ∀ x ∈ r, -9223372036854775808 ≤ x ∧ x ≤ 9223372036854775807) : Rows2 w v m := by
  have hl := tagQs_len (m := m) h.len
  refine ⟨(tagQs tags m).map fun u => [u], by simp [hl], by simp, ?_, ?_⟩
  · have := SeqAt.of_owns h.own
    rw [flatten_one (fun u : Value => u), List.map_id']
    exact this
  · intro j u x hu hx
    have hj : j < tags.length := by rw [h.len]; exact (List.getElem?_eq_some_iff.1 hx).1
    have ht : tags[j]? = some tags[j] := List.getElem?_eq_getElem hj
    obtain ⟨h1, h2, h3, -, -⟩ := h.row j _ x ht hx
    rw [List.getElem?_map] at hu
    unfold tagQs at hu
    rw [List.getElem?_zipWith, ht, hx] at hu
    simp only [Option.map_some, Option.some.injEq] at hu
    exact ⟨_, hu.symm, RowI.ints h3 h1 h2 (hb x (List.mem_of_getElem? hx))⟩
theorem idM_bd (n i : Nat) : ∀ r ∈ idM n i, ∀ x ∈ r, -9223372036854775808 ≤ x ∧ x ≤ (9223372036854775807 : Int) := by
  intro r hr x hx
  unfold idM at hr
  obtain ⟨k, -, rfl⟩ := List.mem_map.1 hr
  rcases List.mem_or_eq_of_mem_set hx with hx | rfl
  · have := List.eq_of_mem_replicate hx
    omega
  · omega
end Go.Proofs.YtpeinobepiodaaaGreatDoor
