/- Merged: BigV. -/
import Derived.Test.YtpeinobepiodaaaGreatDoorIC
/- Matrices of integers of any size whose rows may be appended to (the reference's Inverse and Solve, 06): each row owned, in a block of its own, or nil. -/
namespace Go.Proofs.YtpeinobepiodaaaGreatDoor
set_option linter.unusedVariables false
set_option linter.unusedSimpArgs false
open Go.RowKit

theorem strV_append (a b : List Int) : strV (a ++ b) = strV a ++ strV b := by simp [strV]
theorem strV_len (a : List Int) : (strV a).length = a.length := by simp [strV]
structure MatV (w : World) (ob base : Nat) (v : Value) (vs : List Value) (m : List (List Int)) : Prop where
  len : vs.length = m.length
  own : w.ownsRow ob 40 1 v m.length vs
  row : ∀ (i : Nat) u r, vs[i]? = some u → m[i]? = some r → w.ownsRow base 26 1 u r.length (strV r)
  out : ∀ (i : Nat) u b, vs[i]? = some u → u.ownBlock = some b → v.ownBlock ≠ some b
  apart : ∀ (i j : Nat) u u' b, vs[i]? = some u → vs[j]? = some u' → i ≠ j → u.ownBlock = some b → u'.ownBlock ≠ some b
theorem MatV.nil (w : World) (ob base : Nat) : MatV w ob base (.slice none 0 0) [] [] :=
  ⟨rfl, World.ownsRow_nil _ _ _ _, by intro i u r h; simp at h, by intro i u b h; simp at h, by intro i j u u' b h; simp at h⟩
theorem MatV.ext {w w' : World} {ob base : Nat} {v : Value} {vs : List Value} {m : List (List Int)} (h : MatV w ob base v vs m) (he : Ext w w') : MatV w' ob base v vs m :=
  ⟨h.len, owns_ext h.own he, fun i u r hu hr => owns_ext (h.row i u r hu hr) he, h.out, h.apart⟩
theorem MatV.lt {w : World} {ob base : Nat} {v : Value} {vs : List Value} {m : List (List Int)} (h : MatV w ob base v vs m) {i : Nat} {u : Value} {b : Nat} (hu : vs[i]? = some u) (hb : u.ownBlock = some b) : base ≤ b ∧ b < w.heap.size := by
  have hi : i < m.length := by rw [← h.len]; exact (List.getElem?_eq_some_iff.1 hu).1
  exact (h.row i u m[i] hu (List.getElem?_eq_getElem hi)).lt b hb
theorem owns_none_or {w : World} {base : Nat} {e : TypeId} {k n : Nat} {u : Value} {xs : List Value} (_h : w.ownsRow base e k u n xs) {o : Option Nat} (h : ∀ b, u.ownBlock = some b → o ≠ some b) : u.ownBlock = none ∨ u.ownBlock ≠ o := by
  cases e1 : u.ownBlock with
  | none => exact .inl rfl
  | some b => exact .inr fun e2 => h b e1 e2.symm
/-- One row more. -/
theorem MatV.snoc {w w' : World} {ob base : Nat} {v v' : Value} {vs : List Value} {m : List (List Int)} (h : MatV w ob base v vs m) (u : Value) (r : List Int) (hu : w.ownsRow base 26 1 u r.length (strV r))
    (hv : ∀ b, u.ownBlock = some b → v.ownBlock ≠ some b) (hn : ∀ (i : Nat) u' b, vs[i]? = some u' → u.ownBlock = some b → u'.ownBlock ≠ some b)
    (hown : w'.ownsRow ob 40 1 v' (m.length + 1) (vs ++ [u])) (hg : w.grownBy w' v.ownBlock) (hat : v'.ownBlock = v.ownBlock ∨ ∃ b, v'.ownBlock = some b ∧ w.heap.size ≤ b) :
    MatV w' ob base v' (vs ++ [u]) (m ++ [r]) := by
  have hkeep : ∀ (u : Value) (r : List Int), w.ownsRow base 26 1 u r.length (strV r) → (∀ b, u.ownBlock = some b → v.ownBlock ≠ some b) → w'.ownsRow base 26 1 u r.length (strV r) ∧ ∀ b, u.ownBlock = some b → v'.ownBlock ≠ some b := fun u r h1 h2 => by
    refine ⟨h1.kept hg (owns_none_or h1 h2), fun b hb e => ?_⟩
    rcases hat with e2 | ⟨b', e2, e3⟩
    · exact h2 b hb (e2.symm.trans e)
    · rw [e2] at e; cases e; have := (h1.lt b hb).2; omega
  refine ⟨by simp [h.len], by rw [List.length_append]; exact hown, fun i s q hs hq => ?_, fun i s b hs hb => ?_, fun i j s s' b hs hs' hij hb => ?_⟩
  · by_cases hi : i < vs.length
    · rw [List.getElem?_append_left hi] at hs
      rw [List.getElem?_append_left (by rw [← h.len]; exact hi)] at hq
      exact (hkeep s q (h.row i s q hs hq) (fun b hb => h.out i s b hs hb)).1
    · rw [List.getElem?_append_right (by omega)] at hs
      rw [List.getElem?_append_right (by rw [← h.len]; omega)] at hq
      have e1 : i - vs.length = 0 := by have := (List.getElem?_eq_some_iff.1 hs).1; simp at this; omega
      have e2 : i - m.length = 0 := by rw [← h.len]; exact e1
      rw [e1] at hs
      rw [e2] at hq
      simp only [List.getElem?_cons_zero, Option.some.injEq] at hs hq
      subst hs; subst hq
      exact (hkeep u r hu hv).1
  · by_cases hi : i < vs.length
    · rw [List.getElem?_append_left hi] at hs
      have hm : i < m.length := by rw [← h.len]; exact hi
      exact (hkeep s m[i] (h.row i s _ hs (List.getElem?_eq_getElem hm)) (fun b hb => h.out i s b hs hb)).2 b hb
    · rw [List.getElem?_append_right (by omega)] at hs
      have e1 : i - vs.length = 0 := by have := (List.getElem?_eq_some_iff.1 hs).1; simp at this; omega
      rw [e1] at hs
      simp only [List.getElem?_cons_zero, Option.some.injEq] at hs
      subst hs
      exact (hkeep u r hu hv).2 b hb
  · by_cases hi : i < vs.length <;> by_cases hj : j < vs.length
    · rw [List.getElem?_append_left hi] at hs
      rw [List.getElem?_append_left hj] at hs'
      exact h.apart i j s s' b hs hs' hij hb
    · rw [List.getElem?_append_left hi] at hs
      rw [List.getElem?_append_right (by omega)] at hs'
      have e1 : j - vs.length = 0 := by have := (List.getElem?_eq_some_iff.1 hs').1; simp at this; omega
      rw [e1] at hs'
      simp only [List.getElem?_cons_zero, Option.some.injEq] at hs'
      subst hs'
      intro e
      exact hn i s b hs e hb
    · rw [List.getElem?_append_right (by omega)] at hs
      rw [List.getElem?_append_left hj] at hs'
      have e1 : i - vs.length = 0 := by have := (List.getElem?_eq_some_iff.1 hs).1; simp at this; omega
      rw [e1] at hs
      simp only [List.getElem?_cons_zero, Option.some.injEq] at hs
      subst hs
      exact hn j s' b hs' hb
    · have l1 := (List.getElem?_eq_some_iff.1 hs).1
      have l2 := (List.getElem?_eq_some_iff.1 hs').1
      simp at l1 l2
      omega
/-- 'rows[i] = x': a row that was appended to is put back. -/
theorem MatV.put {w w1 : World} {ob base g n cap : Nat} {vs : List Value} {m : List (List Int)} (h : MatV w ob base (.slice (some ⟨g, 0, none⟩) n cap) vs m) (hob : base ≤ w.heap.size) {i : Nat} {u u' : Value} {r : List Int} (hu : vs[i]? = some u) (hr : m[i]? = some r) (r' : List Int)
    (hown : w1.ownsRow base 26 1 u' r'.length (strV r')) (hg : w.grownBy w1 u.ownBlock) (hat : u'.ownBlock = u.ownBlock ∨ u'.ownBlock = some w.heap.size) :
    MatV (w1.setCell ⟨g, i, none⟩ u') ob base (.slice (some ⟨g, 0, none⟩) n cap) (vs.set i u') (m.set i r') ∧ w1.cell? ⟨g, i, none⟩ = some u ∧ w1.frozen? ⟨g, i, none⟩ = false := by
  have hgl := (h.own.lt g rfl).2
  have hiv := (List.getElem?_eq_some_iff.1 hu).1
  have hn : n = m.length := by
    rcases h.own.2 with ⟨h', _⟩ | ⟨g', cap', cur, h', _⟩
    · simp at h'
    · simp only [Value.slice.injEq] at h'; exact h'.2.1
  subst hn
  have hown1 : w1.ownsRow ob 40 1 (.slice (some ⟨g, 0, none⟩) m.length cap) m.length vs := h.own.kept hg (.inr fun e => h.out i u g hu e.symm rfl)
  have hst := hown1.stored i u'
  have hu'g : ∀ b, u'.ownBlock = some b → b ≠ g := fun b hb e => by
    subst e
    rcases hat with e2 | e2
    · exact h.out i u b hu (e2.symm.trans hb) rfl
    · rw [e2] at hb; cases hb; omega
  have hother : ∀ (j : Nat) s q, j ≠ i → vs[j]? = some s → m[j]? = some q → (w1.setCell ⟨g, i, none⟩ u').ownsRow base 26 1 s q.length (strV q) := fun j s q hj hs hq => by
    have h1 := (h.row j s q hs hq).kept hg (owns_none_or (h.row j s q hs hq) fun b hb e => h.apart i j u s b hu hs (fun e2 => hj e2.symm) e hb)
    exact h1.kept hst.2 (owns_none_or h1 fun b hb e => by cases e; exact h.out j s g hs hb rfl)
  refine ⟨⟨by rw [List.length_set, List.length_set]; exact h.len, by rw [List.length_set]; exact hst.1, fun j s q hs hq => ?_, fun j s b hs hb => ?_, fun j k s s' b hs hs' hjk hb => ?_⟩, ?_, hown1.frozenAt i⟩
  · rw [List.getElem?_set] at hs hq
    by_cases e : i = j
    · subst e
      rw [if_pos rfl, if_pos hiv] at hs
      rw [if_pos rfl, if_pos (by rw [← h.len]; exact hiv)] at hq
      cases hs; cases hq
      exact hown.kept hst.2 (owns_none_or hown fun b hb e => by cases e; exact hu'g g hb rfl)
    · rw [if_neg e] at hs hq
      exact hother j s q (fun e2 => e e2.symm) hs hq
  · rw [List.getElem?_set] at hs
    by_cases e : i = j
    · subst e
      rw [if_pos rfl, if_pos hiv] at hs
      cases hs
      intro e2
      simp only [Value.ownBlock, Option.some.injEq] at e2
      exact hu'g b hb e2.symm
    · rw [if_neg e] at hs
      exact h.out j s b hs hb
  · rw [List.getElem?_set] at hs hs'
    by_cases e1 : i = j
    · subst e1
      rw [if_pos rfl, if_pos hiv] at hs
      rw [if_neg hjk] at hs'
      cases hs
      intro e2
      rcases hat with e3 | e3
      · exact h.apart i k u s' b hu hs' hjk (e3.symm.trans hb) e2
      · rw [e3] at hb; cases hb
        have := (h.lt hs' e2).2; omega
    · rw [if_neg e1] at hs
      by_cases e2 : i = k
      · subst e2
        rw [if_pos rfl, if_pos hiv] at hs'
        cases hs'
        intro e4
        rcases hat with e3 | e3
        · exact h.apart i j u s b hu hs e1 (e3.symm.trans e4) hb
        · rw [e3] at e4; cases e4
          have := (h.lt hs hb).2; omega
      · rw [if_neg e2] at hs'
        exact h.apart j k s s' b hs hs' hjk hb
  · have := hown1.cellAt i (by rw [Nat.mul_one, ← h.len]; exact hiv)
    rw [this]; exact hu
/-- A cell of the outer row. -/
theorem MatV.cell {w : World} {ob base g n cap : Nat} {vs : List Value} {m : List (List Int)} (h : MatV w ob base (.slice (some ⟨g, 0, none⟩) n cap) vs m) {i : Nat} {u : Value} (hu : vs[i]? = some u) : w.cell? ⟨g, i, none⟩ = some u := by
  have hc := h.own.cells (g := g) (by simp [Value.ownBlock])
  have := hc i u hu
  rw [show (⟨g, 0, none⟩ : Addr).add i = ⟨g, i, none⟩ by unfold Addr.add; split <;> simp_all] at this
  exact this
theorem MatV.form {w : World} {ob base : Nat} {v : Value} {vs : List Value} {m : List (List Int)} (h : MatV w ob base v vs m) : (v = .slice none 0 0 ∧ m.length = 0) ∨ ∃ g cap, v = .slice (some ⟨g, 0, none⟩) m.length cap ∧ ob ≤ g ∧ m.length ≤ cap ∧ cap ≤ 9223372036854775807 := by
  rcases h.own.2 with h1 | ⟨g, cap, cur, hv, hb, hg, h1, h2, _⟩
  · exact .inl h1
  · exact .inr ⟨g, cap, hv, hb, h1, h2⟩
/-- What a row's value is like. -/
theorem MatV.rowForm {w : World} {ob base : Nat} {v : Value} {vs : List Value} {m : List (List Int)} (h : MatV w ob base v vs m) {i : Nat} {r : List Int} (hr : m[i]? = some r) : ∃ u, vs[i]? = some u ∧ w.ownsRow base 26 1 u r.length (strV r) ∧ ∃ a c, u = .slice a r.length c ∧ r.length ≤ c ∧ c ≤ 9223372036854775807 := by
  have hi : i < vs.length := by rw [h.len]; exact (List.getElem?_eq_some_iff.1 hr).1
  have h1 := h.row i vs[i] r (List.getElem?_eq_getElem hi) hr
  refine ⟨vs[i], List.getElem?_eq_getElem hi, h1, ?_⟩
  rcases h1.2 with ⟨h2, h3⟩ | ⟨g, cap, cur, hv, hb, hg, k1, k2, _⟩
  · exact ⟨none, 0, by rw [h2, h3], by omega, by omega⟩
  · exact ⟨_, cap, hv, k1, k2⟩
/-- All rows have elements: a matrix in place. -/
theorem MatV.matN {w : World} {ob base g cap : Nat} {vs : List Value} {m : List (List Int)} (h : MatV w ob base (.slice (some ⟨g, 0, none⟩) m.length cap) vs m) (hob : base ≤ ob) (hne : ∀ r ∈ m, 0 < r.length) :
    ∃ tags, MatN w g tags m ∧ ∀ b, blocksQ g tags b → base ≤ b := by
  have hrow : ∀ (i : Nat) u r, vs[i]? = some u → m[i]? = some r → ∃ b c, u = .slice (some ⟨b, 0, none⟩) r.length c ∧ r.length ≤ c ∧ c ≤ 9223372036854775807 ∧ RowN w b r ∧ base ≤ b := fun i u r hu hr => by
    have h1 := h.row i u r hu hr
    rcases h1.2 with ⟨h2, h3⟩ | ⟨b, cap', cur, hv, hb, hgg, k1, k2, _⟩
    · have := hne r (List.mem_of_getElem? hr); omega
    · subst hv
      refine ⟨b, cap', rfl, k1, k2, ⟨(h1.lt b rfl).2, fun j x hx => ?_, fun j => h1.frozenAt j⟩, hb⟩
      have := h1.cells (g := b) rfl j (.string (intB x)) (by unfold strV; rw [List.getElem?_map, hx]; rfl)
      rw [show (⟨b, 0, none⟩ : Addr).add j = ⟨b, j, none⟩ by unfold Addr.add; split <;> simp_all] at this
      exact this
  have tg : ∀ u : Value, ∃ t : Nat × Nat, ∀ b n c, u = .slice (some ⟨b, 0, none⟩) n c → t = (b, c) := fun u => by
    by_cases hx : ∃ b n c, u = .slice (some ⟨b, 0, none⟩) n c
    · obtain ⟨b, n, c, rfl⟩ := hx
      exact ⟨(b, c), fun b' n' c' e => by simp only [Value.slice.injEq, Option.some.injEq, Addr.mk.injEq] at e; rw [e.1.1, e.2.2]⟩
    · exact ⟨(0, 0), fun b n c e => absurd ⟨b, n, c, e⟩ hx⟩
  obtain ⟨f, hf⟩ : ∃ f : Value → Nat × Nat, ∀ u b n c, u = .slice (some ⟨b, 0, none⟩) n c → f u = (b, c) := ⟨fun u => Classical.choose (tg u), fun u => Classical.choose_spec (tg u)⟩
  have hget : ∀ (i : Nat) t, (vs.map f)[i]? = some t → ∃ u r, vs[i]? = some u ∧ m[i]? = some r ∧ u = .slice (some ⟨t.1, 0, none⟩) r.length t.2 ∧ r.length ≤ t.2 ∧ t.2 ≤ 9223372036854775807 ∧ RowN w t.1 r ∧ base ≤ t.1 := fun i t ht => by
    rw [List.getElem?_map] at ht
    cases hu : vs[i]? with
    | none => rw [hu] at ht; cases ht
    | some u =>
      rw [hu] at ht
      have hi : i < m.length := by rw [← h.len]; exact (List.getElem?_eq_some_iff.1 hu).1
      obtain ⟨b, c, e1, e2, e3, e4, e5⟩ := hrow i u m[i] hu (List.getElem?_eq_getElem hi)
      have e6 := hf u b _ c e1
      simp only [Option.map_some, Option.some.injEq] at ht
      rw [e6] at ht
      subst ht
      exact ⟨u, m[i], rfl, List.getElem?_eq_getElem hi, e1, e2, e3, e4, e5⟩
  have hnd : (vs.map f).map (·.1) |>.Nodup := by
    unfold List.Nodup
    rw [List.pairwise_iff_getElem]
    intro i j hi hj hij e
    rw [List.length_map, List.length_map] at hj
    rw [List.getElem_map, List.getElem_map, List.getElem_map, List.getElem_map] at e
    have hi1 : (vs.map f)[i]? = some (f vs[i]) := by rw [List.getElem?_map, List.getElem?_eq_getElem (by omega)]; rfl
    have hj1 : (vs.map f)[j]? = some (f vs[j]) := by rw [List.getElem?_map, List.getElem?_eq_getElem (by omega)]; rfl
    obtain ⟨u, r, k1, k2, k3, -⟩ := hget i _ hi1
    obtain ⟨u', r', l1, l2, l3, -⟩ := hget j _ hj1
    refine h.apart i j u u' (f vs[i]).1 k1 l1 (by omega) (by rw [k3]; rfl) (by rw [l3, ← e]; rfl)
  refine ⟨vs.map f, ⟨by rw [List.length_map]; exact h.len, (h.own.lt g rfl).2, fun j => h.own.frozenAt j, fun i t r ht hr => ?_, List.nodup_cons.2 ⟨?_, hnd⟩⟩, fun b hb => ?_⟩
  · obtain ⟨u, r', k1, k2, k3, k4, k5, k6, -⟩ := hget i t ht
    rw [hr] at k2; cases k2
    exact ⟨by rw [← k3]; exact h.cell k1, k4, k5, k6⟩
  · intro hm
    obtain ⟨t, ht, e⟩ := List.mem_map.1 hm
    obtain ⟨i, hi⟩ := List.getElem?_of_mem ht
    obtain ⟨u, r', k1, k2, k3, -⟩ := hget i t hi
    exact h.out i u g k1 (by rw [k3, ← e]; rfl) rfl
  · rcases List.mem_cons.1 hb with rfl | hb
    · exact Nat.le_trans hob (h.own.lt _ rfl).1
    · obtain ⟨t, ht, rfl⟩ := List.mem_map.1 hb
      obtain ⟨i, hi⟩ := List.getElem?_of_mem ht
      obtain ⟨u, r', k1, k2, k3, -, -, -, k7⟩ := hget i t hi
      exact k7

/-- 'out = append(out, r)': one row more. -/
theorem wpList_append_rowV (w : World) {ops : Array Oper} {rest : List Oper} {o : Oper} {a : Act} {Q : Exit → Act → World → Prop} (hgd : o.guard = none)
    (s x : Operand) (ho : o.op = Op.call { callee := Callee.builtin Builtin.append, args := #[s, x], argTypes := #[97, 97] }) (ob base : Nat)
    (v : Value) (vs : List Value) (m : List (List Int)) (y : Value) (r : List Int) (u : Array Value) (T : TypeId) (hs : a.eval s = v) (hB : MatV w ob base v vs m)
    (hx : a.eval x = .slice (some ⟨w.heap.size, 0, none⟩) 1 1) (hu : u = #[y]) (hR : w.ownsRow base 26 1 y r.length (strV r)) (hv : ∀ b, y.ownBlock = some b → v.ownBlock ≠ some b) (hn : ∀ (i : Nat) u' b, vs[i]? = some u' → y.ownBlock = some b → u'.ownBlock ≠ some b)
    (hlen : m.length < 1000000) (hbase : ob ≤ w.heap.size)
    (h : ∀ v' w', MatV w' ob base v' (vs ++ [y]) (m ++ [r]) → Below ob w w' → wpList Tryz.prog ops Q rest (a.put o.dst v') w') :
    wpList Tryz.prog ops Q (o :: rest) a (w.alloc (.cells u T)) := by
  refine wpList_plain hgd fun _ hK => ?_
  subst hu
  obtain ⟨i0, hi, hz, hsize, hby⟩ := info_parts infoNums
  have hadd : ∀ j, (⟨w.heap.size, 0, none⟩ : Addr).add j = ⟨w.heap.size, j, none⟩ := by intro j; unfold Addr.add; split <;> simp_all
  have hE : Ext w (w.alloc (.cells #[y] T)) := Ext.alloc _ _
  have hone : y.oneCell' = true := by
    rcases hR.2 with ⟨h2, -⟩ | ⟨b, cap', cur, hv, -⟩
    · rw [h2]; rfl
    · rw [hv]; rfl
  refine wp_append_own_at (w.alloc (.cells #[y] T)) s x 97 ho ob 40 i0 (.slice none 0 0) 1 24 Tryz.underlying97 hi hz hsize hby rfl (by decide) v m.length vs hs (owns_ext hB.own hE) ⟨w.heap.size, 0, none⟩ 1 1 [y] hx rfl ?_ ?_ ?_ ?_ ?_ ?_
  · intro j q hq
    rw [hadd, World.cell?_alloc_new]
    simpa using hq
  · intro u hu
    rw [List.mem_singleton.1 hu]; exact hone
  · unfold maxLen; omega
  · omega
  · simp; omega
  · intro v' w' hown hgrow _ hat
    have hLB := (hB.ext hE).snoc y r (owns_ext hR hE) hv hn hown hgrow (by
      rcases hat with h1 | h1
      · exact .inl h1
      · exact .inr ⟨_, h1, Nat.le_refl _⟩)
    refine hK _ _ (h v' w' hLB ?_)
    have hgw : w.grownBy w' v.ownBlock := grown_trans (hE.grown _) hgrow
    refine ⟨hgw.os, hgw.tape, hgw.output, hgw.size, fun b hb2 => hgw.block b (by omega) ?_⟩
    intro e
    have := (hB.own.lt b e.symm).1
    omega
/-- 'append(rows[i], x)': the row is its own, wherever it lies. -/
theorem wp_append_num (w : World) {o : Oper} {a : Act} {K : Act → World → Prop} {Q : Exit → Act → World → Prop}
    (s x : Operand) (ho : o.op = Op.call { callee := Callee.builtin Builtin.append, args := #[s, x], argTypes := #[40, 40] }) (base : Nat)
    (v : Value) (r : List Int) (y : Int) (u : Array Value) (T : TypeId) (hs : a.eval s = v) (hR : w.ownsRow base 26 1 v r.length (strV r))
    (hx : a.eval x = .slice (some ⟨w.heap.size, 0, none⟩) 1 1) (hu : u = #[.string (intB y)]) (hlen : r.length < 1000000) (hbase : base ≤ w.heap.size)
    (h : ∀ v' w', w'.ownsRow base 26 1 v' (r ++ [y]).length (strV (r ++ [y])) → (w.alloc (.cells u T)).grownBy w' v.ownBlock → (v'.ownBlock = v.ownBlock ∨ v'.ownBlock = some (w.alloc (.cells u T)).heap.size) → (∃ b c, v' = .slice (some ⟨b, 0, none⟩) (r.length + 1) c ∧ r.length + 1 ≤ c ∧ c ≤ 9223372036854775807) → K (a.put o.dst v') w') :
    o.wp Tryz.prog a (w.alloc (.cells u T)) K Q := by
  subst hu
  obtain ⟨i0, hi, hz, hsize, hby⟩ := info_parts infoNum
  have hadd : ∀ j, (⟨w.heap.size, 0, none⟩ : Addr).add j = ⟨w.heap.size, j, none⟩ := by intro j; unfold Addr.add; split <;> simp_all
  have hE : Ext w (w.alloc (.cells #[.string (intB y)] T)) := Ext.alloc _ _
  refine wp_append_own_at (w.alloc (.cells #[.string (intB y)] T)) s x 40 ho base 26 i0 (.string ⟨#[]⟩) 1 16 Tryz.underlying40 hi hz hsize hby rfl (by decide) v r.length (strV r) hs (owns_ext hR hE) ⟨w.heap.size, 0, none⟩ 1 1 [.string (intB y)] hx rfl ?_ ?_ ?_ ?_ ?_ ?_
  · intro j q hq
    rw [hadd, World.cell?_alloc_new]
    simpa using hq
  · intro u hu
    rw [List.mem_singleton.1 hu]; rfl
  · unfold maxLen; omega
  · omega
  · simp; omega
  · intro v' w' hown hgrow _ hat
    refine h v' w' (by rw [strV_append, List.length_append]; exact hown) hgrow hat ?_
    obtain ⟨b, c, e1, -, -, e2, e3⟩ := owns_shape hown (by omega)
    exact ⟨b, c, e1, e2, e3⟩
/-- The same with the store behind it: the matrix holds the longer row. -/
theorem MatV.pushed {w w1 : World} {ob base g n cap : Nat} {vs : List Value} {m : List (List Int)} (h : MatV w ob base (.slice (some ⟨g, 0, none⟩) n cap) vs m) (hob : base ≤ w.heap.size) (hb : base ≤ ob) {i : Nat} {u u' : Value} {r r' : List Int} (hu : vs[i]? = some u) (hr : m[i]? = some r) (C : Array Value) (T : TypeId)
    (hown : w1.ownsRow base 26 1 u' r'.length (strV r')) (hg : (w.alloc (.cells C T)).grownBy w1 u.ownBlock) (hat : u'.ownBlock = u.ownBlock ∨ u'.ownBlock = some (w.alloc (.cells C T)).heap.size) :
    MatV (w1.setCell ⟨g, i, none⟩ u') ob base (.slice (some ⟨g, 0, none⟩) n cap) (vs.set i u') (m.set i r') ∧ w1.cell? ⟨g, i, none⟩ = some u ∧ w1.frozen? ⟨g, i, none⟩ = false ∧ Below base w (w1.setCell ⟨g, i, none⟩ u') := by
  have hE : Ext w (w.alloc (.cells C T)) := Ext.alloc _ _
  obtain ⟨k1, k2, k3⟩ := (h.ext hE).put (by have := hE.size; omega) hu hr r' hown hg hat
  refine ⟨k1, k2, k3, ?_⟩
  have hgw : w.grownBy w1 u.ownBlock := grown_trans (hE.grown _) hg
  have hB : Below base w w1 := ⟨hgw.os, hgw.tape, hgw.output, hgw.size, fun b hb2 => hgw.block b (by omega) fun e => by have := (h.lt hu e.symm).1; omega⟩
  exact Below.setCell hB (Nat.le_trans hb (h.own.lt g rfl).1) u'

set_option maxRecDepth 100000 in
set_option maxHeartbeats 4000000 in
theorem bigV_any (xss : List (List Int)) (C : Nat) (v : Value) (w : World) (h : Rows2 w v xss) (hr : ∀ r ∈ xss, r.length = C) (hl : xss.length ≤ 1000) (hC2 : C ≤ 1000) (hf : ∀ r ∈ xss, Fit9 r) (ht : Pow10 w) :
    Calls Tryz.prog 60 #[v] w fun e w' => ∃ u vs, e = .returned u ∧ MatV w' w.heap.size w.heap.size u vs xss ∧ Ext w w' := by
  have HT := Lib.hid ht
  obtain ⟨a, c, rfl, h1, h2, -, hc⟩ := inCell.open h
  have HC := Lib.hid hc; have HRR := Lib.hid hr; have HFX := Lib.hid hf
  unfold maxLen at h2
  clear h hc hr hf ht
  go_enter Tryz.func60, Tryz.ntmps60
  go_wp2_with fail
  go_loopw [4, 3] (fun t o wr => ∃ (i : Nat) (vs : List Value), i ≤ xss.length ∧ t = .int .i64 i ∧ Hid (Ext w wr) ∧ Hid (MatV wr w.heap.size w.heap.size o vs (xss.take i))) (fun t _ _ => xss.length - (intOf t).toNat)
  case atStart => exact ⟨0, [], by omega, rfl, Ext.refl _, MatV.nil _ _ _⟩
  case round =>
    obtain ⟨i, vs, hi, rfl, HE, HO⟩ := hrel
    obtain ⟨wo, rfl⟩ : ∃ wo : World, wo = wr := ⟨_, rfl⟩
    by_cases hlt : i < xss.length
    · obtain ⟨b, off, rfl, hb, hcell⟩ := HC.out (by intro e; simp [e] at hlt)
      obtain ⟨r, hr⟩ : ∃ x, xss[i]? = some x := ⟨xss[i], List.getElem?_eq_getElem hlt⟩
      obtain ⟨vr, hvr, hcr⟩ := hcell i r hr
      obtain ⟨ar, cr, rfl, r1, r2, -, -, hcc⟩ := hvr.open
      have hrn : r.length = C := HRR.out r (List.mem_of_getElem? hr)
      rw [hrn] at hcr r1
      have HCR := Lib.hid hcr; have HC1 := Lib.hid hcc
      have HRN := Lib.hid hrn
      have HF9 : Hid (Fit9 r) := HFX.out r (List.mem_of_getElem? hr)
      have HTK : Hid (xss.take (i + 1) = xss.take i ++ [r]) := by unfold Hid; rw [List.take_add_one, hr]; rfl
      have hii : (i : Int) < (xss.length : Int) := by omega
      unfold maxLen at r2
      clear hcell hr hvr hcr hcc hrn
      go_wp2_with fail
      go_loopw [6, 5] (fun t o wr => ∃ j : Nat, j ≤ C ∧ t = .int .i64 j ∧ Hid (Ext wo wr) ∧ Hid (Build wr wo.heap.size 26 1 o numC (r.take j))) (fun t _ _ => C - (intOf t).toNat)
      case atStart => exact ⟨0, by omega, rfl, by first | exact Ext.refl _ | exact Ext.drew _, Build.nil _ _ _ _ _⟩
      case round =>
        obtain ⟨j, hj, rfl, HEI, HBI⟩ := hrel
        obtain ⟨wi, rfl⟩ : ∃ wi : World, wi = wr := ⟨_, rfl⟩
        have HWI := Lib.hid (HE.out.trans HEI.out)
        have g1 := HWI.out.cell HCR.out
        by_cases hjl : j < C
        · obtain ⟨br, or_, rfl, -, hc1⟩ := HC1.out (by intro e; have := HRN.out; rw [e] at this; simp at this; omega)
          obtain ⟨p, hp⟩ : ∃ p, r[j]? = some p := ⟨_, List.getElem?_eq_getElem (by rw [HRN.out]; exact hjl)⟩
          have g2 := HWI.out.cell (hc1 j p hp)
          have hbd := HF9.out p (List.mem_of_getElem? hp)
          have HOF : Hid (Calls Tryz.prog 71 #[.int .i64 p] wi fun e w' => e = .returned (.string (intB p)) ∧ Ext wi w') := rOf_any p wi (by omega) (by omega) (HT.out.ext HWI.out)
          have HRT : Hid (r.take (j + 1) = r.take j ++ [p]) := by unfold Hid; rw [List.take_add_one, hp]; rfl
          have HLL : Hid ((r.take j).length < 1000000) := Nat.lt_of_le_of_lt (by rw [List.length_take]; exact Nat.min_le_left _ _) (show j < 1000000 by omega)
          have hjj : (j : Int) < (C : Int) := by omega
          clear hp hbd hc1
          go_wp2_with fail
          refine HOF.out.mono ?_
          rintro e w5 ⟨rfl, hE5⟩
          have HX5 := Lib.hid (HEI.out.trans hE5)
          have HB5 := Lib.hid (HBI.out.ext hE5)
          have hs5 : wo.heap.size ≤ w5.heap.size := HX5.out.size
          clear hE5
          go_wp2_with (at_builtin; go_must (refine wpList_append_build _ rfl _ _ 40 rfl wo.heap.size 26 (.string ⟨#[]⟩) 1 16 Tryz.underlying40 infoNum rfl (by decide) u5 numC (r.take j) p #[.string (intB p)] 26 rfl HB5.out rfl rfl ?_ (fun _ _ => rfl) HLL.out (by decide) hs5 ?_))
          all_goals first | (simp [Value.oneCell']; done) | skip
          intro v' w6 hB6 hg6 hb6 hs6 _
          rw [← HRT.out] at hB6
          have HB6 := Lib.hid hB6
          have HX6 : Hid (Ext wo w6) := Below.trans HX5.out hb6
          clear hB6 hg6 hb6
          go_wp2_with fail
          go_roundw
          case rel => exact ⟨j + 1, by omega, by go_num, HX6.out, HB6.out⟩
          case measure => simp [intOf]; omega
        · obtain rfl : j = C := by omega
          have htk : r.take j = r := by rw [← HRN.out, List.take_length]
          rw [htk] at HBI
          have HRW := Lib.hid (show wi.ownsRow wo.heap.size 26 1 u5 r.length (strV r) from HBI.out.strV)
          obtain ⟨a5, c5, h5, k5, l5, -⟩ := ListAt.open HBI.out.list
          subst h5
          rw [HRN.out] at k5 ⊢
          unfold maxLen at l5
          have HO4 := Lib.hid (HO.out.ext HEI.out)
          have hs5 : w.heap.size ≤ wi.heap.size := HWI.out.size
          have hs6 : w.heap.size ≤ wo.heap.size := HE.out.size
          have HR2 : Hid (wi.ownsRow w.heap.size 26 1 (.slice a5 r.length c5) r.length (strV r)) := by
            refine ⟨HRW.out.1, ?_⟩
            rcases HRW.out.2 with hh | ⟨g, cap, cur, e1, e2, e3⟩
            · exact .inl hh
            · exact .inr ⟨g, cap, cur, e1, by omega, e3⟩
          have HV : Hid (∀ b, (Value.slice a5 r.length c5).ownBlock = some b → u3.ownBlock ≠ some b) := fun b hb e => by have h1 := (HRW.out.lt b hb).1; have h2 := (HO.out.own.lt b e).2; omega
          have HN : Hid (∀ (i : Nat) u' b, vs[i]? = some u' → (Value.slice a5 r.length c5).ownBlock = some b → u'.ownBlock ≠ some b) := fun i u' b hu' hb e => by have h1 := (HRW.out.lt b hb).1; have h2 := (HO.out.lt hu' e).2; omega
          have HLL : Hid ((xss.take i).length < 1000000) := Nat.lt_of_le_of_lt (by rw [List.length_take]; exact Nat.min_le_left _ _) (show i < 1000000 by omega)
          have hjj : ¬ (j : Int) < (j : Int) := by omega
          have HVJ : Hid (Value.slice a5 r.length c5 = .slice a5 j c5) := by unfold Hid; rw [HRN.out]
          rw [HVJ.out] at HR2 HV HN
          clear htk hs6
          go_wp2_with (at_builtin; go_must (refine wpList_append_rowV wi rfl _ _ rfl w.heap.size w.heap.size u3 vs (xss.take i) (.slice a5 j c5) r _ _ rfl HO4.out rfl rfl HR2.out HV.out HN.out HLL.out hs5 ?_))
          intro v' w6 hO6 hb6
          rw [← HTK.out] at hO6
          have HO6 := Lib.hid hO6
          have HX6 : Hid (Ext w w6) := Below.trans HWI.out hb6
          clear hO6 hb6
          go_wp2_with fail
          go_roundw
          case rel => exact ⟨i + 1, _, by omega, by go_num, HX6.out, HO6.out⟩
          case measure => simp [intOf]; omega
    · obtain rfl : i = xss.length := by omega
      rw [List.take_length] at HO
      have hii : ¬ (xss.length : Int) < (xss.length : Int) := by omega
      go_wp2_with fail
      go_ret
      exact ⟨_, rfl, ⟨_, HO.out⟩, HE.out⟩
end Go.Proofs.YtpeinobepiodaaaGreatDoor
