/- append(out, xs...) where both rest on what lay in one world. -/
import Derived.Test.YtplcikgmefcfbaaJoinsN
namespace Go.Proofs.Ytplcikgmefcfbaa
set_option linter.unusedVariables false
set_option linter.unusedSimpArgs false
open Go.RowKit

theorem wp_append_manyC {P : Program} {α : Type} {R : World → List Value → α → Prop} (hone : ∀ {w u x}, R w u x → ∀ z ∈ u, z.oneCell' = true) (w0 w : World) {o : Oper} {a : Act} {K : Act → World → Prop} {Q : Exit → Act → World → Prop}
    (s x : Operand) (t : TypeId) (ho : o.op = Op.call { callee := Callee.builtin Builtin.append, args := #[s, x], argTypes := #[t, t] }) (base : Nat) (e : TypeId) (z : Value) (k bytes : Nat)
    (ht : P.underlying t = some (TypeDesc.slice e)) (hinfo : (P.info? e).map (fun i => (i.zero, i.size, i.bytes)) = some (some z, k, bytes)) (hzs : z.cells.size = k) (hk : 0 < k)
    (v u : Value) (xs ys : List α) (hs : a.eval s = v) (hB : Build w base e k v (constRk w0 R) xs) (hx : a.eval x = u) (hu : ListAt k R w0 u ys) (he : Ext w0 w) (hb0 : w0.heap.size ≤ base)
    (hlen : xs.length + ys.length < 1000000) (hbytes : bytes ≤ 1000) (hbase : base ≤ w.heap.size)
    (h : ∀ v' w', Build w' base e k v' (constRk w0 R) (xs ++ ys) → Below base w w' → w.grownBy w' v.ownBlock → K (a.put o.dst v') w') :
    o.wp P a w K Q := by
  obtain ⟨i, hi, hz, hsize, hby⟩ := info_parts hinfo
  obtain ⟨us, b1, b2, b3, b4⟩ := hB
  obtain ⟨us2, c1, c2, c3, c4⟩ := hu
  obtain ⟨ad, c, rfl, d1, d2, d3, d4⟩ := c3
  cases ad with
  | none =>
    have h0 : ys = [] := by have := d3 rfl; exact List.eq_nil_of_length_eq_zero (by omega)
    subst h0
    obtain rfl : c = 0 := d3 rfl
    have hrun := run_append_owned_none (P := P) (w := w) base t o.type e i k ht hi v xs.length us.flatten b3
    unfold Oper.wp
    simp only [List.length_nil] at hx
    simp [execOp, ho, resolve, invoke, builtin, hs, hx, hrun, Result.andThen]
    refine h _ _ ?_ ⟨rfl, rfl, rfl, Nat.le_refl _, fun _ _ => rfl⟩ (World.grownBy.refl _ _)
    rw [List.append_nil]
    exact ⟨us, b1, b2, b3, b4⟩
  | some ad =>
    refine wp_append_own_at w s x t ho base e i z k bytes ht hi hz hsize hby hzs hk v xs.length us.flatten hs b3 ad ys.length c us2.flatten hx ?_ ?_ ?_ ?_ ?_ ?_ ?_
    · rw [flat_len us2 c2, c1]
    · intro j q hq
      obtain ⟨b, off, hab, hbw, hcell⟩ := d4 (by intro e; rw [e] at hq; simp at hq)
      cases hab
      rw [show (⟨b, off, none⟩ : Addr).add j = ⟨b, off + j, none⟩ by unfold Addr.add; split <;> simp_all]
      exact he.cell (hcell j q hq)
    · intro q hq
      obtain ⟨l, hl, hul⟩ := List.mem_flatten.1 hq
      obtain ⟨j, hj⟩ := List.getElem?_of_mem hl
      have hjl := (List.getElem?_eq_some_iff.1 hj).1
      exact hone (c4 j l (ys[j]'(by omega)) hj (List.getElem?_eq_getElem _)) q hul
    · unfold maxLen; omega
    · have : (xs.length + ys.length) * bytes ≤ 1000000 * 1000 := Nat.mul_le_mul (by omega) hbytes
      omega
    · exact hbase
    · intro v' w' hown hgrow _ hat
      refine h v' w' ⟨us ++ us2, by simp [b1, c1], ?_, ?_, ?_⟩ ?_ hgrow
      · intro q hq
        rcases List.mem_append.1 hq with hq | hq
        · exact b2 q hq
        · exact c2 q hq
      · rw [List.flatten_append, List.length_append]; exact hown
      · intro j q y' hq hy
        by_cases hj : j < us.length
        · rw [List.getElem?_append_left hj] at hq
          rw [List.getElem?_append_left (by omega)] at hy
          exact Safe.append (b4 j q y' hq hy) hgrow hat
        · rw [List.getElem?_append_right (by omega)] at hq
          rw [List.getElem?_append_right (by omega)] at hy
          rw [b1] at hq
          exact fun w2 _ => c4 _ q y' hq hy
      · refine ⟨hgrow.os, hgrow.tape, hgrow.output, hgrow.size, fun b hb => hgrow.block b (by omega) ?_⟩
        intro e
        have := (b3.lt b e.symm).1
        omega
theorem step_append_manyC {P : Program} {α : Type} {R : World → List Value → α → Prop} (hone : ∀ {w u x}, R w u x → ∀ z ∈ u, z.oneCell' = true) (w0 w : World) {ops : Array Oper} {o : Oper} {a : Act} {K : Act → World → Prop} {Q : Exit → Act → World → Prop} {E : Prop} (hgd : o.guard = none)
    (s x : Operand) (t : TypeId) (ho : o.op = Op.call { callee := Callee.builtin Builtin.append, args := #[s, x], argTypes := #[t, t] }) (base : Nat) (e : TypeId) (z : Value) (k bytes : Nat)
    (ht : P.underlying t = some (TypeDesc.slice e)) (hinfo : (P.info? e).map (fun i => (i.zero, i.size, i.bytes)) = some (some z, k, bytes)) (hzs : z.cells.size = k) (hk : 0 < k)
    (v u : Value) (xs ys : List α) (hs : a.eval s = v) (hB : Build w base e k v (constRk w0 R) xs) (hx : a.eval x = u) (hu : ListAt k R w0 u ys) (he : Ext w0 w) (hb0 : w0.heap.size ≤ base)
    (hlen : xs.length + ys.length < 1000000) (hbytes : bytes ≤ 1000) (hbase : base ≤ w.heap.size)
    (h : ∀ v' w', Build w' base e k v' (constRk w0 R) (xs ++ ys) → Below base w w' → w.grownBy w' v.ownBlock → K (a.put o.dst v') w') :
    if Region.wanted o (yielded ops a.tmps) = true then Oper.wp P o a w K Q else E := by
  rw [if_pos (show Region.wanted o (yielded ops a.tmps) = true by simp [Region.wanted, hgd])]
  exact wp_append_manyC hone w0 w s x t ho base e z k bytes ht hinfo hzs hk v u xs ys hs hB hx hu he hb0 hlen hbytes hbase h
theorem joins_want {w7 V : World} {vp vc vl : Value} {k1 k : Wk} {b8 b14 gb : Nat} {v8 v14 x y z : Value} (hw : WalkAt w7 (.agg #[vp, vc, vl]) k1) (he : Ext w7 V) (h8 : Build V b8 31 1 v8 (constRk w7 chordR) (k1.chords ++ k.chords.drop 1)) (h14 : Build V b14 34 1 v14 (constRk w7 linksR) (k1.links ++ k.links))
    (hb : V.heap[gb]? = some (.cells #[x, y, z] 30 (0, 0))) (hg : w7.heap.size ≤ gb) (W : World) (hW : W = ((V.setCell ⟨gb, 0, none⟩ vp).setCell ⟨gb, 1, none⟩ v8).setCell ⟨gb, 2, none⟩ v14) :
    Ext w7 W ∧ W.heap[gb]? = some (.cells #[vp, v8, v14] 30 (0, 0)) ∧ WalkAt W (.agg #[vp, v8, v14]) (joinWk k1 k) := by
  subst hW
  have hE := ext_walk he hg vp v8 v14
  obtain ⟨vp', vc', vl', hv, hp, -, -⟩ := hw
  simp only [Value.agg.injEq, Array.mk.injEq, List.cons.injEq, and_true] at hv
  obtain ⟨rfl, rfl, rfl⟩ := hv
  have a0 := block_set hb 0 vp
  have a1 := block_set a0 1 v8
  have n8 : ∀ {W : World} {C : Array Value} {n : Nat}, Build W n 31 1 v8 (constRk w7 chordR) (k1.chords ++ k.chords.drop 1) → W.heap[gb]? = some (.cells C 30 (0, 0)) → ∀ b, v8.ownBlock = some b → some gb ≠ some b := fun h hb b e e2 => h.neBlock hb (by decide) (by rw [e, ← e2])
  have n14 : ∀ {W : World} {C : Array Value} {n : Nat}, Build W n 34 1 v14 (constRk w7 linksR) (k1.links ++ k.links) → W.heap[gb]? = some (.cells C 30 (0, 0)) → ∀ b, v14.ownBlock = some b → some gb ≠ some b := fun h hb b e e2 => h.neBlock hb (by decide) (by rw [e, ← e2])
  have c1 := h8.const_other (grown_setCell V gb 0 vp) (n8 h8 hb)
  have c2 := c1.const_other (grown_setCell _ gb 1 v8) (n8 c1 a0)
  have c3 := c2.const_other (grown_setCell _ gb 2 v14) (n8 c2 a1)
  have d1 := h14.const_other (grown_setCell V gb 0 vp) (n14 h14 hb)
  have d2 := d1.const_other (grown_setCell _ gb 1 v8) (n14 d1 a0)
  have d3 := d2.const_other (grown_setCell _ gb 2 v14) (n14 d2 a1)
  exact ⟨hE, walk_store hb vp v8 v14, vp, v8, v14, rfl, Ints.ext hp hE, c3.const chordR.mono hE, d3.const linksR.mono hE⟩
end Go.Proofs.Ytplcikgmefcfbaa
