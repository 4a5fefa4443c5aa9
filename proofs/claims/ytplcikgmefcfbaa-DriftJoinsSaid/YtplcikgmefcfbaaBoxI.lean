/- A slice in a box, to which a range over a function appends: what holds between two rounds, and one round of it. No program is named here. -/
import Derived.Test.YtplcikgmefcfbaaFence
namespace Go.Proofs.Ytplcikgmefcfbaa
set_option linter.unusedVariables false
set_option linter.unusedSimpArgs false
open Go.RowKit Go.Shelf

/-- Between two rounds: the block Bx holds the slice that is built (its cells: box of it); the loop began in w7. -/
def BoxI {α : Type} (S0 : Nat → Prop) (lo Bx : Nat) (w7 : World) (e T : TypeId) (k : Nat) (R : World → List Value → α → Prop) (box : Value → Array Value) (Pr : World → Prop) (xs : List α) (W : World) : Prop :=
  ∃ (S : Nat → Prop) (v : Value), BuildS W S w7.heap.size e k v R xs ∧ (∀ b, NonC w7.heap.size W b → S b) ∧ (∀ b, S0 b → S b) ∧ SOk S lo W ∧ W.heap[Bx]? = some (.cells (box v) T (0, 0)) ∧ Below Bx w7 W ∧ SafeS W S Pr

theorem BoxI.start {α : Type} {S0 : Nat → Prop} {lo Bx : Nat} {w7 : World} {e T : TypeId} {k : Nat} {R : World → List Value → α → Prop} {box : Value → Array Value} {Pr : World → Prop} (hb : w7.heap[Bx]? = some (.cells (box (.slice none 0 0)) T (0, 0))) (hok : SOk S0 lo w7) (hp : SafeS w7 S0 Pr) : BoxI S0 lo Bx w7 e T k R box Pr [] w7 :=
  ⟨S0, _, BuildS.nil _ _ _ _ _ _, fun b hb => absurd hb (NonC.none _ _), fun b hb => hb, hok, hb, Below.refl _ _, hp⟩

theorem BoxI.own {α β : Type} {S0 : Nat → Prop} {lo Bx : Nat} {w7 : World} {e T : TypeId} {k : Nat} {R : World → List Value → α → Prop} {box : Value → Array Value} {Pr : World → Prop} (f : List β → List α) (hB : Bx ≤ w7.heap.size) (hlo : lo ≤ w7.heap.size) : OwnFrom w7.heap.size (fun pre W => BoxI S0 lo Bx w7 e T k R box Pr (f pre) W) := by
  rintro pre W W' row ⟨S, vcl, hBs, hS, hS5, hok, hblk, hbel, hp⟩ hg hr
  exact ⟨fun b => S b ∨ NonC w7.heap.size W' b, vcl, hBs.turn hg hr hS, fun b hb => .inr hb, fun b hb => .inl (hS5 b hb), hok.turn hg hlo, block_turn hblk hg hr, ownFrom_below (β := Unit) hB hB () W W' row hbel hg hr, hp.turn hg hr hS⟩

section
variable {α : Type} {Bx lo : Nat} {W w3 : World} {S : Nat → Prop} {base : Nat} {e T : TypeId} {k : Nat} {v : Value} {R : World → List Value → α → Prop} {xs : List α}

/-- Behind whatever makes memory: also what is no cells may turn. -/
theorem BuildS.nonC (h : BuildS W S base e k v R xs) (hS : ∀ b, NonC base W b → S b) (he : Ext W w3) : BuildS w3 (fun b => S b ∨ NonC base w3 b) base e k v R xs :=
  h.turn (row := none) (he.grownS (fun _ => False) |> fun g => ⟨g.os, g.tape, g.output, g.size, fun i hi _ => g.block i hi (fun h => h)⟩) (fun r e => by cases e) hS
theorem SOk.nonC (h : SOk S lo W) (hb : lo ≤ base) (he : Ext W w3) : SOk (fun b => S b ∨ NonC base w3 b) lo w3 := by
  rintro b (hs | ⟨h1, o, ho, _⟩)
  · exact ⟨(h b hs).1, Nat.lt_of_lt_of_le (h b hs).2 he.size⟩
  · exact ⟨by omega, (Array.getElem?_eq_some_iff.1 ho).1⟩
theorem SOk.fresh (h : SOk S lo W) : ∀ b, (S b ∨ NonC base w3 b) → b < W.heap.size ∨ NonC 0 w3 b := by
  rintro b (hs | hs)
  · exact .inl (h b hs).2
  · exact .inr ⟨by omega, hs.2⟩
end

/-- One round: what was built, behind the append and the store. -/
theorem BoxI.step {α : Type} {Bx lo n₀ Bs i : Nat} {w7 W w3 w5 : World} {S0 S S5 : Nat → Prop} {e T : TypeId} {k : Nat} {v v5 : Value} {R : World → List Value → α → Prop} {box : Value → Array Value} {Pr : World → Prop} {xs ys : List α}
    (hB : BuildS W S w7.heap.size e k v R xs) (hS : ∀ b, NonC w7.heap.size W b → S b) (hSB : ∀ b, S0 b → S b) (hok : SOk S lo W) (hblk : W.heap[Bx]? = some (.cells (box v) T (0, 0))) (hbel : Below Bx w7 W)
    (hE : Ext W w3) (hok5 : SOk S5 lo w5) (hS51 : ∀ b, (S b ∨ NonC w7.heap.size w3 b) → S5 b) (hS5n : ∀ b, w3.heap.size ≤ b → b < w5.heap.size → S5 b)
    (hB5 : BuildS w5 S5 w7.heap.size e k v5 R ys) (hg : w3.grownBy w5 v.ownBlock) (hne : e ≠ T) (hbox : (box v).setIfInBounds i v5 = box v5) (h1 : n₀ ≤ Bx) (h2 : Bs ≠ Bx) (h3 : Bs < w7.heap.size) (h4 : Bx < w7.heap.size) (hp5 : SafeS w5 S5 Pr) (hSx : S0 Bx) :
    KeepsOthers W (w5.setCell ⟨Bx, i, none⟩ v5) ∧ KeepB n₀ Bs W (w5.setCell ⟨Bx, i, none⟩ v5) ∧ BoxI S0 lo Bx w7 e T k R box Pr ys (w5.setCell ⟨Bx, i, none⟩ v5) := by
  have hv := hB.lt
  have hvne := hB.neBlock hblk hne
  have hblk5 := block_grown (block_ext hblk hE) hg hvne
  have hs : (w5.setCell ⟨Bx, i, none⟩ v5).heap.size = w5.heap.size := by simp [World.setCell]
  have core : ∀ j, j < W.heap.size → j ≠ Bx → v.ownBlock ≠ some j → (w5.setCell ⟨Bx, i, none⟩ v5).heap[j]? = W.heap[j]? := by
    intro j hj h1 h2
    have hj3 : j < w3.heap.size := Nat.lt_of_lt_of_le hj hE.size
    exact ((grown_setCell w5 Bx i v5).block j (Nat.lt_of_lt_of_le hj3 hg.size) (fun e => h1 (by simpa using e))).trans ((hg.block j hj3 (fun e => h2 e.symm)).trans (hE.block j hj))
  have hWle : w7.heap.size ≤ W.heap.size := hbel.size
  have hbelow : ∀ n, n ≤ Bx → Below n W (w5.setCell ⟨Bx, i, none⟩ v5) := by
    intro n hn
    refine ⟨?_, ?_, ?_, ?_, fun j hj => core j (by omega) (by omega) (fun e => by have := (hv j e).1; omega)⟩
    · exact hg.os.trans hE.os
    · exact hg.tape.trans hE.tape
    · exact hg.output.trans hE.output
    · rw [hs]; exact Nat.le_trans hE.size hg.size
  refine ⟨⟨by rw [hs]; exact Nat.le_trans hE.size hg.size, fun j o ho hc => ?_⟩, ⟨hbelow _ h1, fun u hu => ?_⟩, S5, v5, ?_, ?_, fun b hb => hS51 _ (.inl (hSB b hb)), fun b hb => by rw [hs]; exact hok5 b hb, ?_, Below.trans hbel (hbelow Bx (Nat.le_refl _)), hp5.grow (grownBy_S (grown_setCell w5 Bx i v5) (fun b hb => by cases hb; exact hS51 _ (.inl (hSB _ hSx)))) (fun j hj => .inl hj)⟩
  · rw [core j (Array.getElem?_eq_some_iff.1 ho).1 (fun e => ?_) (fun e => ?_)]
    · exact ho
    · subst e; rw [hblk] at ho; cases ho; simp [Obj.isCells] at hc
    · obtain ⟨_, us, _, _, h3, _⟩ := hB
      exact owns_nonC h3 e ⟨Nat.zero_le _, o, ho, hc⟩
  · exact (World.cell?_of_block (a := ⟨Bs, 0, none⟩) (core Bs (by omega) h2 (fun e => by have := (hv Bs e).1; omega))).trans hu
  · exact hB5.store (hS51 _ (.inl (hSB _ hSx))) (hB5.neBlock hblk5 hne)
  · rintro b ⟨hb1, o, ho, hc⟩
    have hblt : b < w5.heap.size := by have := (Array.getElem?_eq_some_iff.1 ho).1; rw [hs] at this; exact this
    rw [(grown_setCell w5 Bx i v5).block b hblt (fun e => by simp at e; omega)] at ho
    by_cases hlt : b < w3.heap.size
    · by_cases hrow : v.ownBlock = some b
      · exact hS51 _ (.inl (hB.1 b hrow))
      · rw [hg.block b hlt (fun e => hrow e.symm)] at ho
        exact hS51 _ (.inr ⟨hb1, o, ho, hc⟩)
    · exact hS5n b (by omega) hblt
  · rw [block_set hblk5, hbox]

/-- What has been built of elements that know no world. -/
theorem Build.pure {α : Type} {R : World → List Value → α → Prop} {w : World} {base : Nat} {e : TypeId} {k : Nat} {v : Value} {xs : List α} (h : Build w base e k v R xs) (hR : ∀ w w' u x, R w u x → R w' u x) (S : Nat → Prop) (hS : ∀ k, S k → k < base ∨ NonC 0 w k) : SafeS w S fun w' => ListAt k R w' v xs := by
  obtain ⟨us, b1, b2, b3, b4⟩ := h
  refine SafeS.listAt us b1 b2 ((SafeS.owns b3 (fun g hg hs => ?_)).mono fun w' h => SeqAt.of_owns h) (fun j u x hu hx w' _ => hR _ _ _ _ (b4 j u x hu hx).now)
  have := (b3.lt g hg).1
  rcases hS g hs with h | h
  · omega
  · exact owns_nonC b3 hg h

/-- 'append' inside a fence, whose run is known. -/
theorem wpIn_append_run {F : Fence} {n : Nat} {P : Program} {w w' : World} {v' : Value} {o : Oper} {a : Act} {K : Act → World → Prop} {Q : Exit → Act → World → Prop}
    (s x : Operand) (t : TypeId) (ho : o.op = Op.call { callee := Callee.builtin Builtin.append, args := #[s, x], argTypes := #[t, t] })
    {u y : Value} (hs : a.eval s = u) (hx : a.eval x = y) (hr : (Builtin.append_ #[t, t] o.type #[u, y]).run P w = .ok v' w') (h : K (a.put o.dst v') w') : o.wpIn F n P a w K Q := by
  subst hs; subst hx
  unfold Oper.wpIn
  refine ⟨by simp [Oper.about, ho, resolve, Target.leads, Sem.run_pure], ?_⟩
  rw [Oper.semAt_plain F _ _ (by rw [ho]; intro c hc; cases hc)]
  simp only [ho, execOp, resolve, invoke, builtin, Sem.run_bind, Sem.run_pure, Result.andThen_ok, List.map_toArray, List.map_cons, List.map_nil]
  rw [hr]
  exact h
theorem own_block {β : Type} {n D : Nat} {o : Obj} (hD : D < n) : OwnFrom n (fun (_ : List β) W => W.heap[D]? = some o) := by
  intro pre W W' row h hg hr
  exact (hg.block D (block_lt h) (fun e => by have := (hr D e.symm).1; omega)).trans h

/-- One round that appends one element: the append's run, and what it and the store leave. -/
theorem BoxI.round {P : Program} {α : Type} {Bx lo n₀ Bs i : Nat} {w7 W w3 : World} {S0 S : Nat → Prop} {e T : TypeId} {k : Nat} {v : Value} {R : World → List Value → α → Prop} {box : Value → Array Value} {Pr : World → Prop} {xs : List α} (t ty T' : TypeId) (z : Value) (bytes : Nat) (y : α) (u : Array Value) {ys : List α} (hys : ys = xs ++ [y])
    (hB : BuildS W S w7.heap.size e k v R xs) (hS : ∀ b, NonC w7.heap.size W b → S b) (hSB : ∀ b, S0 b → S b) (hok : SOk S lo W) (hblk : W.heap[Bx]? = some (.cells (box v) T (0, 0))) (hbel : Below Bx w7 W)
    (hPr : SafeS W S Pr) (hE : Ext W w3) (ht : P.underlying t = some (TypeDesc.slice e)) (hinfo : (P.info? e).map (fun i => (i.zero, i.size, i.bytes)) = some (some z, k, bytes)) (hzs : z.cells.size = k) (hk : 0 < k)
    (hu : u.size = k) (h1u : ∀ z ∈ u.toList, z.oneCell' = true) (hR : ∀ S' : Nat → Prop, (∀ b, S' b → b < W.heap.size ∨ NonC 0 w3 b) → SafeS w3 S' fun w => R w u.toList y)
    (hlen : xs.length < 1000000) (hbytes : bytes ≤ 1000) (hne : e ≠ T) (hbox : ∀ v5, (box v).setIfInBounds i v5 = box v5) (hget : (box v)[i]? = some v) (h1 : n₀ ≤ Bx) (h2 : Bs ≠ Bx) (h3 : Bs < w7.heap.size) (h4 : Bx < w7.heap.size) (hSx : S0 Bx) (h5 : lo ≤ w7.heap.size) :
    ∃ gv cp w5, (Builtin.append_ #[t, t] ty #[v, .slice (some ⟨w3.heap.size, 0, none⟩) 1 1]).run P (w3.alloc (.cells u T')) = .ok (.slice (some ⟨gv, 0, none⟩) (xs.length + 1) cp) w5 ∧ w5.cell? ⟨Bx, i, none⟩ = some v ∧ w5.frozen? ⟨Bx, i, none⟩ = false ∧
      KeepsOthers W (w5.setCell ⟨Bx, i, none⟩ (.slice (some ⟨gv, 0, none⟩) (xs.length + 1) cp)) ∧ KeepB n₀ Bs W (w5.setCell ⟨Bx, i, none⟩ (.slice (some ⟨gv, 0, none⟩) (xs.length + 1) cp)) ∧ BoxI S0 lo Bx w7 e T k R box Pr ys (w5.setCell ⟨Bx, i, none⟩ (.slice (some ⟨gv, 0, none⟩) (xs.length + 1) cp)) := by
  subst hys
  obtain ⟨v5, w5, S5, hrun, hok5, hS51, hS52, hS5n, hB5, hg5, hb5, hs5x, hsafe5⟩ := run_append_buildS (P := P) w3 t ty (fun b => S b ∨ NonC w7.heap.size w3 b) w7.heap.size e z k bytes ht hinfo hzs hk v R xs y u T' (hB.nonC hS hE) w3.heap.size rfl hu h1u (hR _ (SOk.fresh hok)) hlen hbytes (Nat.le_trans hbel.size hE.size) lo (by omega) (SOk.nonC hok (by omega) hE)
  obtain ⟨gv, cp, rfl, -, -, -, -⟩ := hB5.shape (by simp)
  rw [show (xs ++ [y]).length = xs.length + 1 by simp] at hrun
  have hb5' := block_grown (block_ext hblk hE) hg5 (hB.neBlock hblk hne)
  refine ⟨gv, cp, w5, hrun, (block_cell hb5' i).trans hget, block_free hb5' i, ?_⟩
  rw [show (xs ++ [y]).length = xs.length + 1 by simp] at hB5
  exact BoxI.step hB hS hSB hok hblk hbel hE hok5 hS51 hS5n hB5 hg5 hne (hbox _) h1 h2 h3 h4 (hsafe5 _ (hPr.turn (row := none) ⟨hE.os, hE.tape, hE.output, hE.size, fun i hi _ => hE.block i hi⟩ (fun r e => by cases e) hS)) hSx
/-- 'out = append(out, x)' inside a fence, one builder. -/
theorem wpListIn_append_build {F : Fence} {n : Nat} {P : Program} {α : Type} (w : World) {ops : Array Oper} {rest : List Oper} {o : Oper} {a : Act} {Q : Exit → Act → World → Prop} (hgd : o.guard = none)
    (s x : Operand) (t : TypeId) (ho : o.op = Op.call { callee := Callee.builtin Builtin.append, args := #[s, x], argTypes := #[t, t] }) (base : Nat) (e : TypeId) (z : Value) (k bytes : Nat)
    (ht : P.underlying t = some (TypeDesc.slice e)) (hinfo : (P.info? e).map (fun i => (i.zero, i.size, i.bytes)) = some (some z, k, bytes)) (hzs : z.cells.size = k) (hk : 0 < k)
    (v : Value) (R : World → List Value → α → Prop) (xs : List α) (y : α) (u : Array Value) (T : TypeId) (hs : a.eval s = v) (hB : Build w base e k v R xs)
    (hx : a.eval x = .slice (some ⟨w.heap.size, 0, none⟩) 1 1) (hu : u.size = k) (h1 : ∀ z ∈ u.toList, z.oneCell' = true) (hR : Safe w v.ownBlock fun w => R w u.toList y)
    (hlen : xs.length < 1000000) (hbytes : bytes ≤ 1000) (hbase : base ≤ w.heap.size)
    (h : ∀ v' w', Build w' base e k v' R (xs ++ [y]) → w.grownBy w' v.ownBlock → Below base w w' → w.heap.size < w'.heap.size → (∀ Pr : World → Prop, Safe w v.ownBlock Pr → Safe w' v'.ownBlock Pr) → wpListIn F n P ops Q rest (a.put o.dst v') w') :
    wpListIn F n P ops Q (o :: rest) a (w.alloc (.cells u T)) :=
  wpListIn_plain hgd fun K hK => wpIn_append_buildS _ s x t ho fun K' hK' => wp_append_build w s x t ho base e z k bytes ht hinfo hzs hk v R xs y u T hs hB hx hu h1 hR hlen hbytes hbase fun v' w' a1 a2 a3 a4 a5 => hK' _ _ (hK _ _ (h v' w' a1 a2 a3 a4 a5))
theorem wpListIn_append_run {F : Fence} {n : Nat} {P : Program} {w w' : World} {v' : Value} {ops : Array Oper} {rest : List Oper} {o : Oper} {a : Act} {Q : Exit → Act → World → Prop} (hgd : o.guard = none)
    (s x : Operand) (t : TypeId) (ho : o.op = Op.call { callee := Callee.builtin Builtin.append, args := #[s, x], argTypes := #[t, t] })
    {u y : Value} (hs : a.eval s = u) (hx : a.eval x = y) (hr : (Builtin.append_ #[t, t] o.type #[u, y]).run P w = .ok v' w') (h : wpListIn F n P ops Q rest (a.put o.dst v') w') : wpListIn F n P ops Q (o :: rest) a w :=
  wpListIn_plain hgd fun K hK => wpIn_append_run s x t ho hs hx hr (hK _ _ h)
theorem BuildS.done {α : Type} {w : World} {S : Nat → Prop} {base : Nat} {e : TypeId} {k : Nat} {v : Value} {R : World → List Value → α → Prop} {xs : List α} (h : BuildS w S base e k v R xs) : SafeS w (fun b => S b ∧ v.ownBlock ≠ some b) fun w => ListAt k R w v xs := by
  obtain ⟨h0, us, h1, h2, h3, h4⟩ := h
  exact SafeS.listAt us h1 h2 ((SafeS.owns h3 (fun g hg hs => hs.2 hg)).mono fun w' h => SeqAt.of_owns h) (fun j u x hu hx => (h4 j u x hu hx).weak fun b hb => hb.1)
theorem below_byRow {n : Nat} {a b c : World} {r : Option Nat} (h : Below n a b) (g : b.grownBy c r) (hn : n ≤ b.heap.size) (hr : ∀ k, r = some k → n ≤ k) : Below n a c :=
  ⟨g.os.trans h.os, g.tape.trans h.tape, g.output.trans h.output, Nat.le_trans h.size g.size, fun k hk => (g.block k (by omega) (fun e => by have := hr k e.symm; omega)).trans (h.block k hk)⟩
theorem SafeS.byRow {w w' : World} {S : Nat → Prop} {P : World → Prop} {r : Option Nat} (h : SafeS w S P) (g : w.grownBy w' r) (hr : ∀ k, r = some k → S k) : SafeS w' S P := h.grow (grownBy_S g hr) fun k hk => .inl hk

/-- Two marks among the deferred calls, taken at the return. -/
theorem marks2 {P : Program} {W : World} {D D2 : Nat} (h2 : W.heap[D2]? = some (.deferred (some []))) (h1 : W.heap[D]? = some (.deferred (some []))) (hne : D ≠ D2) :
    ∃ Wb Wc, (Instr.takeDeferred D2).run P W = .ok [] Wb ∧ (Instr.takeDeferred D).run P Wb = .ok [] Wc ∧ W.grownBy Wb (some D2) ∧ Wb.grownBy Wc (some D) := by
  have h1' : (W.putObj D2 (.deferred none)).heap[D]? = some (.deferred (some [])) := (World.putObj_heap_other (by omega)).trans h1
  exact ⟨_, _, run_takeDeferred h2, run_takeDeferred h1', grownBy_putObj' W D2 _, grownBy_putObj' _ D _⟩
end Go.Proofs.Ytplcikgmefcfbaa
