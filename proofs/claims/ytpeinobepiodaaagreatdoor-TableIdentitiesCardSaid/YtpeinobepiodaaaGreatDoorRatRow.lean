/- Rows of rationals that a call builds: appending to them. -/
import Derived.Test.YtpeinobepiodaaaGreatDoorRowsO
import Derived.Test.YtpeinobepiodaaaGreatDoorBuild
import Derived.Laws.AppendOwnNone
namespace Go.Proofs.YtpeinobepiodaaaGreatDoor
set_option linter.unusedVariables false
set_option linter.unusedSimpArgs false
open Go.RowKit

theorem infoRat : (Tryz.prog.info? 81).map (fun i => (i.zero, i.size, i.bytes)) = some (some (.agg #[.string ⟨#[]⟩, .string ⟨#[]⟩]), 2, 32) := by kernel_rfl
theorem infoRats : (Tryz.prog.info? 39).map (fun i => (i.zero, i.size, i.bytes)) = some (some (.slice none 0 0), 1, 24) := by kernel_rfl
def ratR (_ : World) (u : List Value) (q : Rat) : Prop := u = [.string (intB q.num), .string (numB q.den)]
theorem ratR.mono : Mono ratR := fun _ _ _ _ _ h => h
abbrev Rats (w : World) (v : Value) (xs : List Rat) : Prop := ListAt 2 ratR w v xs
abbrev Rats2 (w : World) (v : Value) (xs : List (List Rat)) : Prop := ListAt 1 (inCell Rats) w v xs
theorem Rats.ext {w w' : World} {v : Value} {xs : List Rat} (h : Rats w v xs) (he : Ext w w') : Rats w' v xs := ListAt.ext ratR.mono h he
def cellsQ (l : List Rat) : List Value := (l.map fun q : Rat => [Value.string (intB q.num), Value.string (numB q.den)]).flatten
theorem cellsQ_append (a b : List Rat) : cellsQ (a ++ b) = cellsQ a ++ cellsQ b := by simp [cellsQ]
theorem cellsQ_len : ∀ l : List Rat, (cellsQ l).length = l.length * 2
  | [] => rfl
  | q :: l => by
    have h := cellsQ_len l
    unfold cellsQ at h ⊢
    rw [List.map_cons, List.flatten_cons, List.length_append, h]
    simp; omega
theorem cellsQ_get {l : List Rat} {j : Nat} {q : Rat} (h : l[j]? = some q) : (cellsQ l)[j * 2]? = some (.string (intB q.num)) ∧ (cellsQ l)[j * 2 + 1]? = some (.string (numB q.den)) := by
  have hk : ∀ u ∈ (l.map fun q : Rat => [Value.string (intB q.num), Value.string (numB q.den)]), u.length = 2 := by
    intro u hu
    obtain ⟨x, -, rfl⟩ := List.mem_map.1 hu
    rfl
  have hm : (l.map fun q : Rat => [Value.string (intB q.num), Value.string (numB q.den)])[j]? = some [Value.string (intB q.num), Value.string (numB q.den)] := by rw [List.getElem?_map, h]; rfl
  have h0 := flatten_get _ j 0 _ hk hm (by omega)
  have h1 := flatten_get _ j 1 _ hk hm (by omega)
  exact ⟨h0, h1⟩
/-- A row of rationals that the call owns. -/
def OwnQ (B : Nat) (w : World) (v : Value) (l : List Rat) : Prop := w.ownsRow B 81 2 v l.length (cellsQ l)
theorem OwnQ.nil (B : Nat) (w : World) : OwnQ B w (.slice none 0 0) [] := World.ownsRow_nil w B 81 2
theorem OwnQ.ext {B : Nat} {w w' : World} {v : Value} {l : List Rat} (h : OwnQ B w v l) (he : Ext w w') : OwnQ B w' v l := owns_ext h he
theorem OwnQ.lt {B : Nat} {w : World} {v : Value} {l : List Rat} (h : OwnQ B w v l) : ∀ b, v.ownBlock = some b → B ≤ b ∧ b < w.heap.size := World.ownsRow.lt h
theorem OwnQ.form {B : Nat} {w : World} {v : Value} {l : List Rat} (h : OwnQ B w v l) : ∃ a cap, v = .slice a l.length cap ∧ l.length ≤ cap ∧ cap ≤ 9223372036854775807 := by
  rcases h.2 with ⟨rfl, hn⟩ | ⟨g, cap, cur, rfl, hb, hg, h1, h2, h3, h4⟩
  · exact ⟨none, 0, by rw [hn], by omega, by omega⟩
  · exact ⟨_, cap, rfl, h1, h2⟩
theorem OwnQ.low {B B' : Nat} {w : World} {v : Value} {l : List Rat} (h : OwnQ B w v l) (hb : B' ≤ B) : OwnQ B' w v l := by
  refine ⟨h.1, ?_⟩
  rcases h.2 with h' | ⟨g, cap, cur, rfl, hg, rest⟩
  · exact .inl h'
  · exact .inr ⟨g, cap, cur, rfl, Nat.le_trans hb hg, rest⟩
theorem OwnQ.row {B g n c : Nat} {w : World} {l : List Rat} (h : OwnQ B w (.slice (some ⟨g, 0, none⟩) n c) l) : RowQ w g l := by
  obtain rfl : n = l.length := by
    obtain ⟨a, cap, hv, -⟩ := h.form
    simp only [Value.slice.injEq] at hv
    exact hv.2.1
  have hl := h.lt g (by simp [Value.ownBlock])
  have hc := World.ownsRow.cells h (g := g) (by simp [Value.ownBlock])
  have hadd : ∀ j, (⟨g, 0, none⟩ : Addr).add j = ⟨g, j, none⟩ := fun j => by unfold Addr.add; split <;> simp_all
  refine ⟨hl.2, fun j x hx => ?_, fun j x hx => ?_, fun j => World.ownsRow.frozenAt h j⟩
  · have := hc (j * 2) _ (cellsQ_get hx).1
    rw [hadd] at this; exact this
  · have := hc (j * 2 + 1) _ (cellsQ_get hx).2
    rw [hadd] at this; exact this
theorem OwnQ.rats {B : Nat} {w : World} {v : Value} {l : List Rat} (h : OwnQ B w v l) : Rats w v l := by
  refine ⟨l.map fun q : Rat => [Value.string (intB q.num), Value.string (numB q.den)], by simp, ?_, show SeqAt w v l.length (cellsQ l) from SeqAt.of_owns (show w.ownsRow B 81 2 v l.length (cellsQ l) from h), ?_⟩
  · intro u hu
    obtain ⟨x, -, rfl⟩ := List.mem_map.1 hu
    rfl
  · intro j u x hu hx
    rw [List.getElem?_map, hx] at hu
    exact (Option.some.inj hu).symm
theorem RowQ.rats {w : World} {g c : Nat} {l : List Rat} (h : RowQ w g l) (h1 : l.length ≤ c) (h2 : c ≤ 9223372036854775807) : Rats w (.slice (some ⟨g, 0, none⟩) l.length c) l := by
  refine ⟨l.map fun q : Rat => [Value.string (intB q.num), Value.string (numB q.den)], by simp, ?_, ?_, ?_⟩
  · intro u hu
    obtain ⟨x, -, rfl⟩ := List.mem_map.1 hu
    rfl
  · refine ⟨_, c, rfl, h1, by unfold maxLen; omega, fun e => by simp at e, fun _ => ⟨g, 0, rfl, h.lt, fun j u hu => ?_⟩⟩
    rw [Nat.zero_add]
    have hj : j < (cellsQ l).length := (List.getElem?_eq_some_iff.1 hu).1
    rw [cellsQ_len] at hj
    obtain ⟨q, hq⟩ : ∃ q, l[j / 2]? = some q := ⟨_, List.getElem?_eq_getElem (by omega)⟩
    obtain ⟨e0, e1⟩ := cellsQ_get hq
    by_cases hp : j % 2 = 0
    · rw [show j / 2 * 2 = j by omega] at e0
      have : u = .string (intB q.num) := Option.some.inj (hu.symm.trans e0)
      rw [this, ← h.num _ q hq, show j / 2 * 2 = j by omega]
    · rw [show j / 2 * 2 + 1 = j by omega] at e1
      have : u = .string (numB q.den) := Option.some.inj (hu.symm.trans e1)
      rw [this, ← h.den _ q hq, show j / 2 * 2 + 1 = j by omega]
  · intro j u x hu hx
    rw [List.getElem?_map, hx] at hu
    exact (Option.some.inj hu).symm
/-- A row of one rational, written out. -/
theorem Rats.one (w : World) (q : Rat) (T : TypeId) : Rats (w.alloc (.cells #[.string (intB q.num), .string (numB q.den)] T)) (.slice (some ⟨w.heap.size, 0, none⟩) 1 1) [q] := by
  refine ⟨[[.string (intB q.num), .string (numB q.den)]], rfl, by simp, ?_, ?_⟩
  · exact SeqAt.lit w [.string (intB q.num), .string (numB q.den)] 1 T (by unfold maxLen; omega)
  · intro j u x hu hx
    cases j with
    | zero =>
      simp only [List.getElem?_cons_zero, Option.some.injEq] at hu hx
      subst hu; subst hx; rfl
    | succ j => simp at hu
/-- 'l = append(l, x...)'. -/
theorem wpList_append_rats (W : World) {ops : Array Oper} {rest : List Oper} {o : Oper} {a : Act} {Q : Exit → Act → World → Prop} (hgd : o.guard = none)
    (s x : Operand) (ho : o.op = Op.call { callee := Callee.builtin Builtin.append, args := #[s, x], argTypes := #[39, 39] }) (B : Nat)
    (v u : Value) (xs ys : List Rat) (hs : a.eval s = v) (hB : OwnQ B W v xs) (hx : a.eval x = u) (hu : Rats W u ys) (hlen : xs.length + ys.length < 1000000) (hbase : B ≤ W.heap.size)
    (h : ∀ v' w', OwnQ B w' v' (xs ++ ys) → Below B W w' → W.grownBy w' v.ownBlock → wpList Tryz.prog ops Q rest (a.put o.dst v') w') :
    wpList Tryz.prog ops Q (o :: rest) a W := by
  obtain ⟨i0, hi, hz, hsize, hby⟩ := info_parts infoRat
  obtain ⟨ad, c, rfl, h1, h2, h3, h4⟩ := hu.open
  have hbel : ∀ w', W.grownBy w' v.ownBlock → Below B W w' := fun w' hg => ⟨hg.os, hg.tape, hg.output, hg.size, fun b hb => hg.block b (by omega) fun e => by
    have := (hB.lt b e.symm).1
    omega⟩
  cases ad with
  | none =>
    obtain rfl : c = 0 := h3 rfl
    obtain rfl : ys = [] := List.eq_nil_of_length_eq_zero (by omega)
    rw [List.append_nil] at h
    refine wpList_append_own_none hgd s x _ ho B 81 i0 2 Tryz.underlying39 hi v xs.length (cellsQ xs) hs hB hx ?_
    exact h v W hB (Below.refl _ _) (World.grownBy.refl _ _)
  | some ad =>
    refine wpList_plain hgd fun K hK => ?_
    refine wp_append_own_at W s x _ ho B 81 i0 (.agg #[.string ⟨#[]⟩, .string ⟨#[]⟩]) 2 32 Tryz.underlying39 hi hz hsize hby rfl (by decide) v xs.length (cellsQ xs) hs hB ad ys.length c (cellsQ ys) hx (cellsQ_len ys) ?_ ?_ ?_ ?_ hbase ?_
    · intro j q hq
      have hj : j < (cellsQ ys).length := (List.getElem?_eq_some_iff.1 hq).1
      rw [cellsQ_len] at hj
      obtain ⟨b, off, e, hb, hc⟩ := h4 (by omega) (by intro e; rw [e] at hj; simp at hj)
      cases e
      obtain ⟨r, hr⟩ : ∃ r, ys[j / 2]? = some r := ⟨_, List.getElem?_eq_getElem (by omega)⟩
      obtain ⟨cs, -, rfl, hcs⟩ := hc _ r hr
      have h0 := hcs 0 (by omega); have h1 := hcs 1 (by omega)
      obtain ⟨e0, e1⟩ := cellsQ_get hr
      rw [show (⟨b, off, none⟩ : Addr).add j = ⟨b, off + j, none⟩ by unfold Addr.add; split <;> simp_all]
      by_cases hp : j % 2 = 0
      · rw [show j / 2 * 2 = j by omega] at e0
        rw [show off + (j / 2 * 2 + 0) = off + j by omega] at h0
        rw [h0, ← hq, e0]; rfl
      · rw [show j / 2 * 2 + 1 = j by omega] at e1
        rw [show off + (j / 2 * 2 + 1) = off + j by omega] at h1
        rw [h1, ← hq, e1]; rfl
    · intro z hz
      unfold cellsQ at hz
      obtain ⟨l, hl, hz⟩ := List.mem_flatten.1 hz
      obtain ⟨q, -, rfl⟩ := List.mem_map.1 hl
      simp only [List.mem_cons, List.not_mem_nil, or_false] at hz
      rcases hz with rfl | rfl <;> rfl
    · unfold maxLen; omega
    · omega
    · intro v' w' hown hgrow _ hat
      have hown2 : OwnQ B w' v' (xs ++ ys) := by
        unfold OwnQ
        rw [List.length_append, cellsQ_append]
        exact hown
      exact hK _ _ (h v' w' hown2 (hbel w' hgrow) hgrow)
end Go.Proofs.YtpeinobepiodaaaGreatDoor
