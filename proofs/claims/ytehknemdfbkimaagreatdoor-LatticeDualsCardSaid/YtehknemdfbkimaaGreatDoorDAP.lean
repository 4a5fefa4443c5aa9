/- Merged: KerR, SetLaw, MakesLaw, LatB, WholeSub. -/
import Derived.Test.YtehknemdfbkimaaGreatDoorDAO
import Derived.RangeFuncNested
import Derived.RangeFuncBound
import Derived.RangeFuncCalls
import Derived.RangeFuncLeaves
import Derived.Shelf.Abstract
import Derived.Shelf.RegionOpen
import Derived.WalkKit
import Derived.OwnWalkIn
import Derived.TacticsInMore
import Derived.LoopNIn
import Derived.LoopIn
import Derived.RangeFuncBox
import Derived.Test.YtehknemdfbkimaaGreatDoorDAA
import Derived.Test.YtehknemdfbkimaaGreatDoorDAN
import Derived.Test.YtehknemdfbkimaaGreatDoorDAE
/- More fuel does no harm; annihilators; minors of a saturation. No program is named here. -/
namespace Go.Proofs.YtehknemdfbkimaaGreatDoor
set_option linter.unusedVariables false
set_option linter.unusedSimpArgs false
open Go.RowKit

theorem sweepO_mono {n c d : Nat} : ∀ {F F' : Nat} {m : List (List Int)} {r : List (List Int) × Bool}, F ≤ F' → sweepO n c d F m = some r → sweepO n c d F' m = some r
  | 0, _, m, r, _, h => by rw [sweepO] at h; cases h
  | F + 1, 0, m, r, hl, _ => by omega
  | F + 1, F' + 1, m, r, hl, h => by
    rw [sweepO] at h ⊢
    by_cases ho : okM n m = true
    · rw [if_pos ho] at h ⊢
      cases hb : bestO c d m (m.length - d) with
      | none => rw [hb] at h; exact h
      | some a =>
        rw [hb] at h
        simp only at h ⊢
        cases hdn : downO c d (swapL m d a) (m.length - (d + 1)) with
        | none => rw [hdn] at h; cases h
        | some p =>
          obtain ⟨m2, rest⟩ := p
          rw [hdn] at h
          cases rest with
          | true => exact sweepO_mono (by omega) h
          | false => exact h
    · rw [if_neg ho] at h; cases h
theorem colsO_mono {n F F' : Nat} (hl : F ≤ F') : ∀ {k c d : Nat} {m : List (List Int)} {r : List (List Int) × Nat}, colsO n F k c d m = some r → colsO n F' k c d m = some r
  | 0, c, d, m, r, h => by rw [colsO] at h ⊢; exact h
  | k + 1, c, d, m, r, h => by
    rw [colsO] at h ⊢
    by_cases hd : d < m.length
    · rw [if_pos hd] at h ⊢
      cases hs : sweepO n c d F m with
      | none => rw [hs] at h; cases h
      | some p =>
        rw [hs] at h
        rw [sweepO_mono hl hs]
        exact colsO_mono hl h
    · rw [if_neg hd] at h ⊢; exact h
theorem formO_mono {n F F' cols : Nat} {m R : List (List Int)} (hl : F ≤ F') (h : formO n F cols m = some R) : formO n F' cols m = some R := by
  unfold formO at h ⊢
  cases hc : colsO n F cols 0 0 m with
  | none => rw [hc] at h; cases h
  | some p => rw [hc] at h; rw [colsO_mono hl hc]; exact h
theorem okM_of' {n : Nat} {m : List (List Int)} {b : Nat} (hw : ∀ x ∈ m, x.length = n) (hb : ∀ x ∈ m, RowLe (10 ^ b) x) (hs : b + 1 ≤ 1000000000) : okM n m = true := by
  unfold okM
  rw [List.all_eq_true]
  intro x hx
  rw [Bool.and_eq_true, decide_eq_true_iff]
  refine ⟨hw x hx, ?_⟩
  rw [List.all_eq_true]
  exact fun y hy => smB_of hs (by omega) (Nat.lt_of_le_of_lt (hb x hx y hy) (Nat.pow_lt_pow_right (by decide) (by omega)))
theorem wide_le {n N : Nat} {m : List (List Int)} (h1 : 1 ≤ N) (hb : ∀ x ∈ m, RowLe N x) : ∀ x ∈ wideL n m, RowLe N x := by
  intro x hx y hy
  unfold wideL at hx
  obtain ⟨c, hc, rfl⟩ := List.mem_map.1 hx
  rcases List.mem_append.1 hy with hy | hy
  · obtain ⟨r, hr, rfl⟩ := List.mem_map.1 hy
    exact (hb r hr).getD c
  · rcases List.mem_or_eq_of_mem_set hy with hy | hy
    · rw [(List.mem_replicate.1 hy).2]; simp
    · rw [hy]; simpa using h1
/-- Lattices of the same annihilator. -/
theorem ann_iff {n : Nat} {m B : List (List Int)} (hm : Wid n m) (hB : Wid n B) (hs : SpEq n (RowsFrom 0 m) (RowsFrom 0 B)) (v : List Int) : Ann n m v ↔ Ann n B v := by
  have key : ∀ {m B : List (List Int)}, Wid n m → Wid n B → SpEq n (RowsFrom 0 m) (RowsFrom 0 B) → Ann n m v → Ann n B v := by
    intro m B hm hB hs hv
    refine ⟨hv.1, fun i hi => ?_⟩
    have h := hs.2 _ (rowsFrom_mem (Nat.zero_le i) hi)
    have hl := rowsFrom_len (d := 0) hm
    generalize rowE_ B i = r at h
    induction h with
    | zero => rw [dotZ_comm, dotZ_zero]
    | mem h => obtain ⟨j, -, hj, rfl⟩ := h; exact hv.2 j hj
    | less q a b iha ihb => rw [dotZ_comm, dotZ_less _ _ (by rw [a.len hl, b.len hl]), dotZ_comm, dotZ_comm v, iha, ihb]; simp
  exact ⟨key hm hB hs, key hB hm hs.symm⟩
theorem ann_sp {n : Nat} {m : List (List Int)} (hm : Wid n m) {r v : List Int} (hr : Sp n (RowsFrom 0 m) r) (hv : Ann n m v) : dotZ r v n = 0 := by
  have hl := rowsFrom_len (d := 0) hm
  induction hr with
  | zero => rw [dotZ_comm, dotZ_zero]
  | mem h => obtain ⟨j, -, hj, rfl⟩ := h; exact hv.2 j hj
  | less q a b iha ihb => rw [dotZ_comm, dotZ_less _ _ (by rw [a.len hl, b.len hl]), dotZ_comm, dotZ_comm v, iha, ihb]; simp
/-- Rows with a multiple in the lattice. -/
def Sat (n : Nat) (m : List (List Int)) (v : List Int) : Prop := v.length = n ∧ ∃ D : Int, D ≠ 0 ∧ Sp n (RowsFrom 0 m) (smulL D v)

/-- The minors of a form that holds rows, and of which multiples are among them, are bounded by those of the rows. -/
theorem scaled_minor {n : Nat} {m S : List (List Int)} {ps : Nat → Nat} (hS : HForm n S ps) (hm : Wid n m) (hD : ∀ i, i < S.length → ∃ D : Int, D ≠ 0 ∧ Sp n (RowsFrom 0 m) (smulL D (rowE_ S i))) : ∃ V : Nat → List Int, (∀ a, a < S.length → RowsFrom 0 m (V a)) ∧ phi S.length ps V ≠ 0 := by
  refine Classical.byContradiction fun hno => ?_
  have hall : ∀ V : Nat → List Int, (∀ a, a < S.length → RowsFrom 0 m (V a)) → phi S.length ps V = 0 := fun V hV => Classical.byContradiction fun h => hno ⟨V, hV, h⟩
  have hf : ∃ D : Nat → Int, ∀ i, i < S.length → D i ≠ 0 ∧ Sp n (RowsFrom 0 m) (smulL (D i) (rowE_ S i)) := ⟨fun i => if h : i < S.length then Classical.choose (hD i h) else 0, fun i hi => by
    simp only [dif_pos hi]; exact Classical.choose_spec (hD i hi)⟩
  obtain ⟨D, hDD⟩ := hf
  have h0 : phi S.length ps (fun a => smulL (D a) (rowE_ S a)) = 0 := alt_all (Q := fun x => x = 0) (phi_alt n S.length ps) clo_zero (rowsFrom_len hm) hall S.length (Nat.le_refl _) _ (fun a ha => (hDD a ha).2) fun a h1 h2 => by omega
  have hA := phi_alt n S.length ps
  have key : ∀ j, j ≤ S.length → phi S.length ps (fun a => if a < j then rowE_ S a else smulL (D a) (rowE_ S a)) = 0 := by
    intro j
    induction j with
    | zero => intro _; rw [← h0]; exact hA.ext _ _ fun a _ => if_neg (by omega)
    | succ j ih =>
      intro hj
      have hi := ih (by omega)
      have e := hA.lin (fun a => if a < j then rowE_ S a else smulL (D a) (rowE_ S a)) j (List.replicate n 0) (rowE_ S j) (-(D j)) (by omega) (by rw [hS.1 j (by omega)]; simp)
      rw [hA.zero _ j (by omega)] at e
      have e1 : lessL (-(D j)) (List.replicate n 0) (rowE_ S j) = smulL (D j) (rowE_ S j) := by
        refine ext_getD (by rw [lessL_len, smulL_len, hS.1 j (by omega)]; simp) fun c => ?_
        rw [lessL_getD _ (by rw [hS.1 j (by omega)]; simp), repl_getD, smulL_getD, Int.neg_mul]; omega
      rw [e1] at e
      have e2 : updV (fun a => if a < j then rowE_ S a else smulL (D a) (rowE_ S a)) j (smulL (D j) (rowE_ S j)) = fun a => if a < j then rowE_ S a else smulL (D a) (rowE_ S a) := by
        funext a; unfold updV
        by_cases ha : a = j
        · rw [if_pos ha, if_neg (by omega), ha]
        · rw [if_neg ha]
      rw [e2, hi] at e
      have e3 : updV (fun a => if a < j then rowE_ S a else smulL (D a) (rowE_ S a)) j (rowE_ S j) = fun a => if a < j + 1 then rowE_ S a else smulL (D a) (rowE_ S a) := by
        funext a; unfold updV
        by_cases ha : a = j
        · rw [if_pos ha, if_pos (by omega), ha]
        · rw [if_neg ha]
          show (if a < j then rowE_ S a else smulL (D a) (rowE_ S a)) = _
          by_cases h2 : a < j
          · rw [if_pos h2, if_pos (by omega)]
          · rw [if_neg h2, if_neg (by omega)]
      rw [e3] at e
      have hne : ((D j : Int) : Rat) ≠ 0 := fun hz => (hDD j (by omega)).1 (by exact_mod_cast hz)
      rcases Rat.mul_eq_zero.1 (by rw [Rat.intCast_neg] at e; grind : ((D j : Int) : Rat) * phi S.length ps (fun a => if a < j + 1 then rowE_ S a else smulL (D a) (rowE_ S a)) = 0) with h | h
      · exact absurd h hne
      · exact h
  have h1 := key S.length (Nat.le_refl _)
  rw [hA.ext _ (rowE_ S) fun a ha => if_pos ha, phi_piv hS _ (Nat.le_refl _)] at h1
  have hp := (prodP_pos hS _ (Nat.le_refl S.length)).1
  have : prodP S ps S.length = 0 := by exact_mod_cast h1
  omega
end Go.Proofs.YtehknemdfbkimaaGreatDoor
/- A range over a function whose iterator keeps a row of ints of its own, which it hands to each round and writes between two rounds. -/
namespace Go.Proofs.YtehknemdfbkimaaGreatDoor
set_option linter.unusedVariables false
set_option linter.unusedSimpArgs false
open Go.RowKit Go.Shelf

/-- Blocks of cells of a type lie as they lay. -/
structure KeepT (T : TypeId) (A B : World) : Prop where
  size : A.heap.size ≤ B.heap.size
  same : ∀ (b : Nat) C fr, A.heap[b]? = some (.cells C T fr) → B.heap[b]? = some (.cells C T fr)
theorem KeepT.refl (T : TypeId) (A : World) : KeepT T A A := ⟨Nat.le_refl _, fun _ _ _ h => h⟩
theorem KeepT.trans {T : TypeId} {A B C : World} (h : KeepT T A B) (k : KeepT T B C) : KeepT T A C := ⟨Nat.le_trans h.size k.size, fun b C fr hb => k.same b C fr (h.same b C fr hb)⟩
/-- The iterator's part of it: cells of the type alone. -/
def AbC {β : Type} (B : Nat) (T : TypeId) (J : β → World → Prop) : Prop :=
  ∀ s W W' row, J s W → W.grownBy W' row → (∀ r, row = some r → B ≤ r ∧ ∃ C fr, W.heap[r]? = some (.cells C T fr)) → J s W'
/-- A row of numbers in a block of its own. -/
structure SetAt (T : TypeId) (W : World) (v : Value) (s : List Nat) : Prop where
  at_ : ∃ g C fr, v = .slice (some ⟨g, 0, none⟩) s.length s.length ∧ W.heap[g]? = some (.cells C T fr) ∧ ∀ (j : Nat) x, s[j]? = some x → W.cell? ⟨g, j, none⟩ = some (.int .i64 (x : Int))
theorem SetAt.keep {T : TypeId} {W W' : World} {v : Value} {s : List Nat} (h : SetAt T W v s) (hk : KeepT T W W') : SetAt T W' v s := by
  obtain ⟨g, C, fr, h1, h2, h3⟩ := h.at_
  refine ⟨g, C, fr, h1, hk.same g C fr h2, fun j x hx => ?_⟩
  have hb : W'.heap[g]? = W.heap[g]? := (hk.same g C fr h2).trans h2.symm
  have := h3 j x hx
  unfold World.cell? at this ⊢
  rw [hb]; exact this
/-- An iterator that hands out the lists of L, one by one. -/
def SetsGive (F : Fence) (n : Nat) (P : Program) (g : Nat) (lb : Array Value) (T : TypeId) (L : List (List Nat)) (w : World) : Prop :=
  ∀ (l : Nat) (J : Nat → World → Prop) (W : World), Below w.heap.size w W → AbC W.heap.size T J →
    (∀ i s v W1, L[i]? = some s → J i W1 → SetAt T W1 v s → YieldAt F (n - 1) P l #[v] W1 fun e W' => e = .returned (.bool true) ∧ J (i + 1) W' ∧ KeepT T W1 W') →
    J 0 W → CallsIn F n P g (#[.func (.yield l) #[] #[]] ++ lb) W fun e W' => (∃ v, e = .returned v) ∧ J L.length W'
theorem SetsGive.inRound {F : Fence} {n : Nat} {P : Program} {g : Nat} {lb : Array Value} {T : TypeId} {L : List (List Nat)} {w : World} (l : Nat) (h : SetsGive F n P g lb T L w) : SetsGive (F.inRound l) n P g lb T L w := h

/-- A loop's record. -/
def recL (fn : FuncId) (tmps : Array Value) (ps : Array Tmp) (assign body : Code) (dd : Nat) (st : LoopState) : Loop := { state := st, pending := none, fn := fn, tmps := tmps, params := ps, assign := assign, body := body, defers := dd }
end Go.Proofs.YtehknemdfbkimaaGreatDoor
/- A range over a function whose iterator adds to memory at most. -/
namespace Go.Proofs.YtehknemdfbkimaaGreatDoor
set_option linter.unusedVariables false
set_option linter.unusedSimpArgs false
open Go.RowKit Go.Shelf

/-- What may turn about an invariant: blocks from B on that are no cells. -/
def AbR {β : Type} (B : Nat) (J : β → World → Prop) : Prop :=
  ∀ s W W' row, J s W → W.grownBy W' row → (∀ r, row = some r → B ≤ r ∧ ∃ o : Obj, W.heap[r]? = some o ∧ o.isCells = false) → J s W'
theorem AbR.ext {β : Type} {B : Nat} {J : β → World → Prop} (h : AbR B J) {s : β} {W W' : World} (hj : J s W) (he : Ext W W') : J s W' :=
  h s W W' none hj ⟨he.os, he.tape, he.output, he.size, fun k hk _ => he.block k hk⟩ (fun r e => by cases e)
/-- An iterator that hands out m times what Y says, and adds to memory at most. -/
def MakesGive (F : Fence) (n : Nat) (P : Program) (g : Nat) (lb : Array Value) (m : Nat) (Y : Nat → World → World → Array Value → Prop) (V0 V : World → Prop) : Prop :=
  ∀ (l : Nat) (J : Nat → World → Prop) (W : World), V0 W → (∀ i A A', J i A → Ext A A' → J i A') → (∀ i A, J i A → V A) →
    (∀ i A W1 args, i < m → J i A → Ext A W1 → Y i A W1 args → YieldAt F (n - 1) P l args W1 fun e W' => e = .returned (.bool true) ∧ J (i + 1) W') →
    J 0 W → CallsIn F n P g (#[.func (.yield l) #[] #[]] ++ lb) W fun e W' => (∃ v, e = .returned v) ∧ J m W'

/-- What a round owes. -/
def RoundsM (F : Fence) (n : Nat) (P : Program) (l B m : Nat) (Y : Nat → World → World → Array Value → Prop) (I : Nat → World → Prop) (ps : Array Tmp) (tmps : Array Value) (assign body : Code) : Prop :=
  ∀ i A W args, i < m → I i A → Ext A W → Y i A W args → (∃ r, W.heap[l]? = some (.loop r)) →
    assign.wpIn (F.inRound l) n P (Exit.then (fun a' Wa => KeepsFrom B W Wa ∧
      ∀ Wb, Wa.grownBy Wb (some l) → (∃ r, Wa.heap[l]? = some (.loop r)) → (∃ r, Wb.heap[l]? = some (.loop r)) →
        body.wpIn (F.inRound l) n P (fun e _ W3 => e = .normal ∧ KeepsFrom B Wb W3 ∧ I (i + 1) W3) a' Wb) (fun _ _ _ => False))
      { tmps := (ps.zip args).foldl (fun t (p, u) => t.setIfInBounds p u) tmps, defers := [] } W
theorem rounds_makes {F : Fence} {n : Nat} {P : Program} {gf : Nat} {lb : Array Value} {m : Nat} {Y : Nat → World → World → Array Value → Prop} {V0 V : World → Prop} {W1 : World} {l B dd : Nat} {fn : FuncId} {tmps : Array Value} {ps : Array Tmp} {assign body : Code} {I : Nat → World → Prop}
    (hfn : F.fn fn) (hseq : MakesGive F n P gf lb m Y V0 V) (hb1 : V0 W1) (hY : ∀ i A W args, Y i A W args → args.size = ps.size) (hB : B ≤ l) (hB1 : B ≤ W1.heap.size) (hl : W1.heap[l]? = some (.loop (recL fn tmps ps assign body dd .ready)))
    (eD : Option Nat) (hD : ∀ D, eD = some D → D ≠ l ∧ B ≤ D ∧ W1.heap[D]? = some (.deferred (some []))) (hI : AbR B I) (hIx : ∀ i A, I i A → V A) (h0 : I 0 W1)
    (hround : RoundsM F (n - 1) P l B m Y I ps tmps assign body) :
    CallsIn F n P gf (#[.func (.yield l) #[] #[]] ++ lb) W1 fun e W' => (∃ v, e = .returned v) ∧ I m W' ∧ W'.heap[l]? = some (.loop (recL fn tmps ps assign body dd .ready)) ∧ ∀ D, eD = some D → W'.heap[D]? = some (.deferred (some [])) := by
  refine hseq l (fun i W => I i W ∧ W.heap[l]? = some (.loop (recL fn tmps ps assign body dd .ready)) ∧ ∀ D, eD = some D → W.heap[D]? = some (.deferred (some []))) W1 hb1 ?_ (fun i A h => hIx i A h.1) ?_ ⟨h0, hl, fun D e => (hD D e).2.2⟩
  · rintro i A A' ⟨k1, k2, k3⟩ he
    exact ⟨hI.ext k1 he, (he.block l (Array.getElem?_eq_some_iff.1 k2).1).trans k2, fun D e => (he.block D (Array.getElem?_eq_some_iff.1 (k3 D e)).1).trans (k3 D e)⟩
  · rintro i A W args him ⟨k1, k2, k3⟩ he hv
    have m2' : W.heap[l]? = some (.loop (recL fn tmps ps assign body dd .ready)) := (he.block l (Array.getElem?_eq_some_iff.1 k2).1).trans k2
    have m3' : ∀ D, eD = some D → W.heap[D]? = some (.deferred (some [])) := fun D e => (he.block D (Array.getElem?_eq_some_iff.1 (k3 D e)).1).trans (k3 D e)
    have hy := run_yield (P := P) (args := args) m2' (by simp [recL, hY i A W args hv])
    refine ⟨fn, _, assign, body, hy, roundIn_of_wpIn hfn (wpIn_mono (hround i A W args him k1 he hv ⟨_, m2'⟩) ?_)⟩
    rintro e a' Wa hp
    cases e with
    | normal =>
      obtain ⟨p1, p3⟩ := hp
      have m2 := p1.same _ _ hB m2' rfl
      have m3 : ∀ D, eD = some D → Wa.heap[D]? = some (.deferred (some [])) := fun D e => p1.same _ _ (hD D e).2.1 (m3' D e) rfl
      have hlt : l < Wa.heap.size := (Array.getElem?_eq_some_iff.1 m2).1
      refine ⟨_, run_beginRound m2 rfl, ?_⟩
      have b2 : (Wa.putObj l (.loop { recL fn tmps ps assign body dd .ready with state := .busy })).heap[l]? = some (.loop { recL fn tmps ps assign body dd .ready with state := .busy }) := World.putObj_heap_same hlt
      have b3 : ∀ D, eD = some D → (Wa.putObj l (.loop { recL fn tmps ps assign body dd .ready with state := .busy })).heap[D]? = some (.deferred (some [])) := fun D e => (World.putObj_heap_other (hD D e).1).trans (m3 D e)
      refine wpIn_mono (p3 _ (grownBy_putObj' Wa l _) ⟨_, m2⟩ ⟨_, b2⟩) ?_
      rintro e a3 W3 ⟨rfl, q1, q3⟩
      have c2 := q1.same _ _ hB b2 rfl
      have c3 : ∀ D, eD = some D → W3.heap[D]? = some (.deferred (some [])) := fun D e => q1.same _ _ (hD D e).2.1 (b3 D e) rfl
      have hr := run_endRound (P := P) none c2
      have hlt3 : l < W3.heap.size := (Array.getElem?_eq_some_iff.1 c2).1
      refine ⟨_, _, hr, rfl, ?_, ?_, fun D e => (World.putObj_heap_other (hD D e).1).trans (c3 D e)⟩
      · exact hI _ _ _ _ q3 (grownBy_putObj' W3 l _) (fun r e => by cases e; exact ⟨hB, _, c2, rfl⟩)
      · rw [World.putObj_heap_same hlt3]; rfl
    | _ => exact hp.elim

/-- The loop at the outermost: two blocks of book-keeping. -/
theorem wpIn_rangeMakes {F : Fence} {n : Nat} {P : Program} {g : Operand} {ps : Array Tmp} {assign body : Code} {Q : Exit → Act → World → Prop} {a : Act} {w : World}
    (hro : F.round = none) (h1 : 1 ≤ n) {gf : Nat} {lb : Array Value} (hg : a.eval g = .func (.func gf) #[] lb) (hFg : F.fn gf) (eg : ∀ args w, (callFunc gf args).run P w = .ok (.enter gf args) w)
    {m : Nat} {Y : Nat → World → World → Array Value → Prop} {V0 V : World → Prop} (hseq : MakesGive F (n - 1) P gf lb m Y V0 V) (hb0 : ∀ W, Ext w W → V0 W) (hY : ∀ i A W args, Y i A W args → args.size = ps.size) (I : Nat → World → Prop) (hI : AbR w.heap.size I) (hIx : ∀ i A, I i A → V A) (h0 : I 0 w)
    (hround : RoundsM F (n - 1 - 1) P (w.heap.size + 1) w.heap.size m Y I ps a.tmps assign body)
    (hdone : ∀ W, I m W → W.heap[w.heap.size]? = some (.deferred (some [])) → Q .normal { a with defers := { target := .collected w.heap.size, args := #[] } :: a.defers } W) :
    (Code.rangeFunc g ps assign body).wpIn F n P Q a w := by
  refine wpIn_rangeFunc ?_
  intro fn hfn
  rw [hro]
  obtain ⟨W1, hW1⟩ : ∃ W1, (w.alloc (.deferred (some []))).alloc (.loop (recL fn a.tmps ps assign body w.heap.size .ready)) = W1 := ⟨_, rfl⟩
  have hL1 : W1.heap[w.heap.size + 1]? = some (.loop (recL fn a.tmps ps assign body w.heap.size .ready)) := by
    rw [← hW1]; have := World.alloc_heap_new (w.alloc (.deferred (some []))) (.loop (recL fn a.tmps ps assign body w.heap.size .ready)); rwa [World.size_alloc] at this
  have hK1 : W1.heap[w.heap.size]? = some (.deferred (some [])) := by
    rw [← hW1]; exact (Below.heap_alloc _ _ _ (by simp)).trans (World.alloc_heap_new w _)
  have hx1 : Below w.heap.size w W1 := by
    rw [← hW1]; exact ((Below.refl _ w).alloc (Nat.le_refl _) _).alloc (by simp) _
  have hI1 : I 0 W1 := hI.ext h0 hx1
  refine ⟨w.heap.size + 1, [{ target := .collected w.heap.size, args := #[] }], W1, { target := .fn (.func gf) lb, args := #[.func (.yield (w.heap.size + 1)) #[] #[]] }, W1, gf,
    #[.func (.yield (w.heap.size + 1)) #[] #[]] ++ lb, W1, ?_, ?_, ?_, ?_, fun _ => h1, ?_⟩
  · rw [← hW1]; exact run_enterLoop_outer _ _ _ _ _
  · simp only [resolve, hg]
    simp [go_sem]
  · intro f' hf'; simp [Target.leads] at hf'; subst hf'; exact hFg
  · simp [invoke, go_sem, eg]
  · refine (rounds_makes hfn hseq (hb0 _ hx1) hY (by omega) hx1.size hL1 (some w.heap.size) (fun D e => by cases e; exact ⟨by omega, Nat.le_refl _, hK1⟩) hI hIx hI1 hround).mono ?_
    rintro e W2 ⟨⟨v, rfl⟩, hi, hl, hk⟩
    refine ⟨none, _, by have := run_endLoop (P := P) hl (by simp [recL]); exact this, hdone _ (hI _ _ _ _ hi (grownBy_putObj' W2 _ _) (fun r e => by cases e; exact ⟨by omega, _, hl, rfl⟩)) ((World.putObj_heap_other (by omega)).trans (hk _ rfl))⟩
end Go.Proofs.YtehknemdfbkimaaGreatDoor
/- Contract of lattice.checkBoth. -/
namespace Go.Proofs.YtehknemdfbkimaaGreatDoor
set_option linter.unusedVariables false
set_option linter.unusedSimpArgs false
open Go.RowKit

theorem lat_block {w : World} {B : Nat} {x y : Value} (h : w.heap[B]? = some (.cells #[x, y] 30 (0, 0))) : w.cell? ⟨B, 0, none⟩ = some x ∧ w.cell? ⟨B, 1, none⟩ = some y ∧ ∀ i, w.frozen? ⟨B, i, none⟩ = false := by
  have c0 := block_cell h 0; have c1 := block_cell h 1
  simp only [List.getElem?_toArray, List.getElem?_cons_zero, List.getElem?_cons_succ] at c0 c1
  exact ⟨c0, c1, fun i => block_free h i⟩
theorem lat_store {w : World} {B : Nat} {x y : Value} (h : w.heap[B]? = some (.cells #[x, y] 30 (0, 0))) (a b : Value) : ((w.setCell ⟨B, 0, none⟩ a).setCell ⟨B, 1, none⟩ b).heap[B]? = some (.cells #[a, b] 30 (0, 0)) := by
  have := block_set (block_set h 0 a) 1 b
  simpa using this
theorem lat_new (w : World) (x y : Value) : ∃ W, w.alloc (.cells #[x, y] 30) = W ∧ Ext w W ∧ W.heap.size = w.heap.size + 1 ∧ W.heap[w.heap.size]? = some (.cells #[x, y] 30 (0, 0)) := ⟨_, rfl, Ext.alloc _ _, by simp, block_new _ _ _⟩
theorem ext_lat {w W : World} {B : Nat} (hE : Ext w W) (hB : w.heap.size ≤ B) (a b : Value) : Ext w ((W.setCell ⟨B, 0, none⟩ a).setCell ⟨B, 1, none⟩ b) :=
  Below.setCell (Below.setCell hE hB _) hB _

def bothE (n : Int) (xss : List (List Int)) (k : Int) (yss : List (List Int)) : Int :=
  if chkE n xss = 0 then (if chkE k yss = 0 then (if n = k then 0 else 5) else chkE k yss) else chkE n xss

set_option maxRecDepth 100000 in
set_option maxHeartbeats 4000000 in
theorem checkBoth_any (n k : Int) (xss yss : List (List Int)) (v u : Value) (w : World) (h : LatV w v n xss) (h' : LatV w u k yss) :
    Calls Tryz.prog 89 #[v, u] w fun e w' => e = .returned (.int .i64 (bothE n xss k yss)) ∧ Ext w w' := by
  have HCA := Lib.hid (fun W (hW : Ext w W) => latChk_any n xss v W (h.ext hW))
  have HCB := Lib.hid (fun W (hW : Ext w W) => latChk_any k yss u W (h'.ext hW))
  obtain ⟨v1, rfl, hv⟩ := h
  obtain ⟨u1, rfl, hu⟩ := h'
  obtain ⟨a, c, rfl, h1, h2, -, hc⟩ := inCell.open hv
  obtain ⟨a', c', rfl, k1, k2, -, kc⟩ := inCell.open hu
  clear hv hu hc kc
  obtain ⟨NX, hNX⟩ : ∃ NX, xss.length = NX := ⟨_, rfl⟩
  obtain ⟨NY, hNY⟩ : ∃ NY, yss.length = NY := ⟨_, rfl⟩
  obtain ⟨E, hE⟩ : ∃ E, chkE n xss = E := ⟨_, rfl⟩
  obtain ⟨F, hF⟩ : ∃ F, chkE k yss = F := ⟨_, rfl⟩
  obtain ⟨G, hG⟩ : ∃ G, bothE n xss k yss = G := ⟨_, rfl⟩
  have HV : Hid (G = if E = 0 then (if F = 0 then (if n = k then 0 else 5) else F) else E) := by unfold Hid; rw [← hG, ← hE, ← hF]; rfl
  rw [hE, hNX] at HCA
  rw [hF, hNY] at HCB
  rw [hG, hNX, hNY]
  clear hE hF hG hNX hNY h1 k1
  go_enter Tryz.func89, Tryz.ntmps89
  obtain ⟨W1, hW1, hE1, hs1, hb1'⟩ := lat_new w (.int .i64 n) (.slice a NX c)
  obtain ⟨W2, hW2, hE2, hs2, hb2'⟩ := lat_new W1 (.int .i64 k) (.slice a' NY c')
  obtain ⟨W3, hW3⟩ : ∃ W3, W2.alloc (.cells #[.int .i64 n, .slice a NX c, .int .i64 k, .slice a' NY c'] 30) = W3 := ⟨_, rfl⟩
  have hE3 : Ext W2 W3 := by rw [← hW3]; exact Ext.alloc _ _
  have hb3' : W3.heap[W2.heap.size]? = some (.cells #[.int .i64 n, .slice a NX c, .int .i64 k, .slice a' NY c'] 30 (0, 0)) := by rw [← hW3]; exact block_new _ _ _
  have HB1 := Lib.hid (block_ext (block_ext hb1' hE2) hE3)
  have HB2 := Lib.hid (block_ext hb2' hE3)
  have HB3 := Lib.hid hb3'
  have HE3 := Lib.hid (hE1.trans (hE2.trans hE3))
  obtain ⟨e10, e11, -⟩ := lat_block (block_ext hb1' hE2)
  obtain ⟨e20, e21, -⟩ := lat_block hb2'
  have z2 : W1.heap.size = w.heap.size + 1 := hs1
  have z3 : W2.heap.size = w.heap.size + 1 + 1 := by omega
  rw [z2] at e20 e21 HB2
  rw [z3] at HB3
  clear hE1 hE2 hE3 hb1' hb2' hb3' hs1 hs2
  go_wp2_with fail
  clear hW1 hW2 hW3 e10 e11 e20 e21 z2
  go_loopw [12] (fun t wr => ∃ i : Nat, i ≤ 2 ∧ t = .int .i64 i ∧ Hid (Ext W3 wr) ∧ Hid (0 < i → E = 0) ∧ Hid (1 < i → F = 0)) (fun t _ => 2 - (intOf t).toNat)
  case atStart => exact ⟨0, by omega, rfl, Ext.refl _, fun h => by omega, fun h => by omega⟩
  case round =>
    obtain ⟨i, hi, rfl, HE, HI1, HI2⟩ := hrel
    obtain ⟨wo, rfl⟩ : ∃ wo : World, wo = wr := ⟨_, rfl⟩
    by_cases hlt : i < 2
    · have hB := block_ext HB3.out HE.out
      obtain ⟨Wb, hWb, hEb, hsb, hbb⟩ := lat_new wo (.int .i64 0) (.slice none 0 0)
      obtain ⟨r0, r1, rf⟩ := lat_block hbb
      have f0 := rf 0; have f1 := rf 1
      obtain ⟨D, hD⟩ : ∃ D : Int, D = if i = 0 then E else F := ⟨_, rfl⟩
      have HG : Hid (D ≠ 0 → G = D) := by
        intro h0
        rw [hD] at h0 ⊢
        by_cases hi0 : i = 0
        · rw [if_pos hi0] at h0 ⊢; rw [HV.out, if_neg h0]
        · rw [if_neg hi0] at h0 ⊢
          rw [HV.out, if_pos (HI1.out (by omega)), if_neg h0]
      have HN1 : Hid (D = 0 → 0 < i + 1 → E = 0) := by
        intro h0 _
        rw [hD] at h0
        by_cases hi0 : i = 0
        · rw [if_pos hi0] at h0; exact h0
        · exact HI1.out (by omega)
      have HN2 : Hid (D = 0 → 1 < i + 1 → F = 0) := by
        intro h0 _
        rw [hD, if_neg (by omega)] at h0; exact h0
      clear HI1 HI2
      rcases (by omega : i = 0 ∨ i = 1) with rfl | rfl
      case' inl =>
        have d0 := block_cell hB 0; have d1 := block_cell hB 1
        have HBS := Lib.hid (lat_store hbb (.int .i64 n) (.slice a NX c))
        have HES := Lib.hid (ext_lat hEb (Nat.le_refl _) (.int .i64 n) (.slice a NX c))
        obtain rfl : D = E := hD
        have HCK := Lib.hid HCA.out
      case' inr =>
        have d0 := block_cell hB 2; have d1 := block_cell hB 3
        have HBS := Lib.hid (lat_store hbb (.int .i64 k) (.slice a' NY c'))
        have HES := Lib.hid (ext_lat hEb (Nat.le_refl _) (.int .i64 k) (.slice a' NY c'))
        obtain rfl : D = F := hD
        have HCK := Lib.hid HCB.out
      all_goals
        simp only [List.getElem?_toArray, List.getElem?_cons_zero, List.getElem?_cons_succ] at d0 d1
        clear hB rf hbb hEb hsb
        try clear hD
        by_cases hD0 : D = 0
        · have HN1' := Lib.hid (HN1.out hD0)
          have HN2' := Lib.hid (HN2.out hD0)
          have HD0 := Lib.hid hD0
          clear HN1 HN2 HG
          rw [hD0] at HCK
          clear hD0
          go_wp2_with fail
          refine (HCK.out _ (HE3.out.trans (HE.out.trans HES.out))).mono ?_
          rintro e w7 ⟨rfl, hE7⟩
          have HE7 := Lib.hid (HE.out.trans (HES.out.trans hE7))
          clear hE7
          go_wp2_with fail
          go_roundw
          case rel => first | exact ⟨1, by omega, by first | rfl | go_num, HE7.out, HN1'.out, HN2'.out⟩ | exact ⟨2, by omega, by first | rfl | go_num, HE7.out, HN1'.out, HN2'.out⟩
          case measure => simp [intOf]
        · have HG' := Lib.hid (HG.out hD0)
          clear HN1 HN2 HG
          go_wp2_with fail
          refine (HCK.out _ (HE3.out.trans (HE.out.trans HES.out))).mono ?_
          rintro e w7 ⟨rfl, hE7⟩
          have HE7 := Lib.hid (HE.out.trans (HES.out.trans hE7))
          clear hE7
          go_wp2_with fail
          go_ret
          exact ⟨by rw [HG'.out]; rfl, HE3.out.trans HE7.out⟩
    · obtain rfl : i = 2 := by omega
      have HE0 := Lib.hid (HE3.out.trans HE.out)
      have hG : G = if n = k then 0 else 5 := by rw [HV.out, if_pos (HI1.out (by omega)), if_pos (HI2.out (by omega))]
      have e0 := block_cell (block_ext HB1.out HE.out) 0
      have e1 := block_cell (block_ext HB2.out HE.out) 0
      simp only [List.getElem?_toArray, List.getElem?_cons_zero, List.getElem?_cons_succ] at e0 e1
      by_cases hnk : n = k
      · have HG2 : Hid (G = 0) := by rw [if_pos hnk] at hG; exact hG
        clear hG
        go_wp2_with fail
        go_ret
        exact ⟨by rw [HG2.out]; rfl, HE0.out⟩
      · have HG2 : Hid (G = 5) := by rw [if_neg hnk] at hG; exact hG
        clear hG
        go_wp2_with fail
        go_ret
        exact ⟨by rw [HG2.out]; rfl, HE0.out⟩
end Go.Proofs.YtehknemdfbkimaaGreatDoor
/- Contract of whole.Sub at integers of any size. -/
namespace Go.Proofs.YtehknemdfbkimaaGreatDoor
set_option linter.unusedVariables false
set_option linter.unusedSimpArgs false
open Go.RowKit

set_option maxRecDepth 100000 in
set_option maxHeartbeats 400000 in
theorem subI_any (x y : Int) (w : World) (hx : (intB x).size ≤ 2800000000) (hy : (intB y).size ≤ 2800000000) (ht : Pow10 w) :
    Calls Tryz.prog 191 #[.string (intB x), .string (intB y)] w fun e w' => e = .returned (.string (intB (x - y))) ∧ Ext w w' := by
  have HN := Lib.hid (neg_any y w (by omega))
  have hny : (intB (-y)).size ≤ 2900000000 := by
    have h1 := intB_size_le (-y)
    have h2 := natAbs_le y
    rw [Int.natAbs_neg] at h1
    omega
  have HA : Hid (∀ W, Ext w W → Calls Tryz.prog 157 #[.string (intB x), .string (intB (-y))] W fun e w' => e = .returned (.string (intB (x + -y))) ∧ Ext W w') := fun W hE => addI_any x (-y) W (by omega) hny (ht.ext hE)
  rw [show x + -y = x - y by omega] at HA
  clear ht hx hy hny
  go_enter Tryz.func191, Tryz.ntmps191
  go_wp2_with fail
  refine HN.out.mono ?_
  rintro e w0 ⟨rfl, hE0⟩
  have HE0 := Lib.hid hE0
  clear HN hE0
  go_wp2_with fail
  refine (HA.out _ HE0.out).mono ?_
  rintro e w1 ⟨rfl, hE1⟩
  have HE1 := Lib.hid (Ext.trans HE0.out hE1)
  clear hE1 HA
  go_wp2_with fail
  go_ret
  exact ⟨rfl, HE1.out⟩
end Go.Proofs.YtehknemdfbkimaaGreatDoor
