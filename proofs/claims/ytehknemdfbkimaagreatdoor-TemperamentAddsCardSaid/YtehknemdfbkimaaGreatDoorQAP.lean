/- Merged: KerR, SetLaw, MakesLaw, LatB, WholeSub, WholeZ. -/
import Derived.Test.YtehknemdfbkimaaGreatDoorQAO
import Derived.RangeFuncNested
import Derived.RangeFuncBound
import Derived.RangeFuncCalls
import Derived.RangeFuncLeaves
import Derived.Shelf.Abstract
import Derived.Shelf.RegionOpen
import Derived.WalkKit
import Derived.OwnWalkIn
import Derived.TacticsInMore
import Derived.LoopNIn
import Derived.LoopIn
import Derived.RangeFuncBox
import Derived.Test.YtehknemdfbkimaaGreatDoorQAA
import Derived.Test.YtehknemdfbkimaaGreatDoorQAN
import Derived.Test.YtehknemdfbkimaaGreatDoorQAE
import Derived.Test.YtehknemdfbkimaaGreatDoorQAF
/- More fuel does no harm; annihilators; minors of a saturation. No program is named here. -/
namespace Go.Proofs.YtehknemdfbkimaaGreatDoor
set_option linter.unusedVariables false
set_option linter.unusedSimpArgs false
open Go.RowKit

theorem sweepO_mono {n c d : Nat} : ∀ {F F' : Nat} {m : List (List Int)} {r : List (List Int) × Bool}, F ≤ F' → sweepO n c d F m = some r → sweepO n c d F' m = some r
  | 0, _, m, r, _, h => by rw [sweepO] at h; cases h
  | F + 1, 0, m, r, hl, _ => by omega
  | F + 1, F' + 1, m, r, hl, h => by
    rw [sweepO] at h ⊢
    by_cases ho : okM n m = true
    · rw [if_pos ho] at h ⊢
      cases hb : bestO c d m (m.length - d) with
      | none => rw [hb] at h; exact h
      | some a =>
        rw [hb] at h
        simp only at h ⊢
        cases hdn : downO c d (swapL m d a) (m.length - (d + 1)) with
        | none => rw [hdn] at h; cases h
        | some p =>
          obtain ⟨m2, rest⟩ := p
          rw [hdn] at h
          cases rest with
          | true => exact sweepO_mono (by omega) h
          | false => exact h
    · rw [if_neg ho] at h; cases h
theorem colsO_mono {n F F' : Nat} (hl : F ≤ F') : ∀ {k c d : Nat} {m : List (List Int)} {r : List (List Int) × Nat}, colsO n F k c d m = some r → colsO n F' k c d m = some r
  | 0, c, d, m, r, h => by rw [colsO] at h ⊢; exact h
  | k + 1, c, d, m, r, h => by
    rw [colsO] at h ⊢
    by_cases hd : d < m.length
    · rw [if_pos hd] at h ⊢
      cases hs : sweepO n c d F m with
      | none => rw [hs] at h; cases h
      | some p =>
        rw [hs] at h
        rw [sweepO_mono hl hs]
        exact colsO_mono hl h
    · rw [if_neg hd] at h ⊢; exact h
theorem formO_mono {n F F' cols : Nat} {m R : List (List Int)} (hl : F ≤ F') (h : formO n F cols m = some R) : formO n F' cols m = some R := by
  unfold formO at h ⊢
  cases hc : colsO n F cols 0 0 m with
  | none => rw [hc] at h; cases h
  | some p => rw [hc] at h; rw [colsO_mono hl hc]; exact h
theorem okM_of' {n : Nat} {m : List (List Int)} {b : Nat} (hw : ∀ x ∈ m, x.length = n) (hb : ∀ x ∈ m, RowLe (10 ^ b) x) (hs : b + 1 ≤ 1000000000) : okM n m = true := by
  unfold okM
  rw [List.all_eq_true]
  intro x hx
  rw [Bool.and_eq_true, decide_eq_true_iff]
  refine ⟨hw x hx, ?_⟩
  rw [List.all_eq_true]
  exact fun y hy => smB_of hs (by omega) (Nat.lt_of_le_of_lt (hb x hx y hy) (Nat.pow_lt_pow_right (by decide) (by omega)))
theorem wide_le {n N : Nat} {m : List (List Int)} (h1 : 1 ≤ N) (hb : ∀ x ∈ m, RowLe N x) : ∀ x ∈ wideL n m, RowLe N x := by
  intro x hx y hy
  unfold wideL at hx
  obtain ⟨c, hc, rfl⟩ := List.mem_map.1 hx
  rcases List.mem_append.1 hy with hy | hy
  · obtain ⟨r, hr, rfl⟩ := List.mem_map.1 hy
    exact (hb r hr).getD c
  · rcases List.mem_or_eq_of_mem_set hy with hy | hy
    · rw [(List.mem_replicate.1 hy).2]; simp
    · rw [hy]; simpa using h1
/-- Lattices of the same annihilator. -/
theorem ann_iff {n : Nat} {m B : List (List Int)} (hm : Wid n m) (hB : Wid n B) (hs : SpEq n (RowsFrom 0 m) (RowsFrom 0 B)) (v : List Int) : Ann n m v ↔ Ann n B v := by
  have key : ∀ {m B : List (List Int)}, Wid n m → Wid n B → SpEq n (RowsFrom 0 m) (RowsFrom 0 B) → Ann n m v → Ann n B v := by
    intro m B hm hB hs hv
    refine ⟨hv.1, fun i hi => ?_⟩
    have h := hs.2 _ (rowsFrom_mem (Nat.zero_le i) hi)
    have hl := rowsFrom_len (d := 0) hm
    generalize rowE_ B i = r at h
    induction h with
    | zero => rw [dotZ_comm, dotZ_zero]
    | mem h => obtain ⟨j, -, hj, rfl⟩ := h; exact hv.2 j hj
    | less q a b iha ihb => rw [dotZ_comm, dotZ_less _ _ (by rw [a.len hl, b.len hl]), dotZ_comm, dotZ_comm v, iha, ihb]; simp
  exact ⟨key hm hB hs, key hB hm hs.symm⟩
theorem ann_sp {n : Nat} {m : List (List Int)} (hm : Wid n m) {r v : List Int} (hr : Sp n (RowsFrom 0 m) r) (hv : Ann n m v) : dotZ r v n = 0 := by
  have hl := rowsFrom_len (d := 0) hm
  induction hr with
  | zero => rw [dotZ_comm, dotZ_zero]
  | mem h => obtain ⟨j, -, hj, rfl⟩ := h; exact hv.2 j hj
  | less q a b iha ihb => rw [dotZ_comm, dotZ_less _ _ (by rw [a.len hl, b.len hl]), dotZ_comm, dotZ_comm v, iha, ihb]; simp
/-- Rows with a multiple in the lattice. -/
def Sat (n : Nat) (m : List (List Int)) (v : List Int) : Prop := v.length = n ∧ ∃ D : Int, D ≠ 0 ∧ Sp n (RowsFrom 0 m) (smulL D v)

/-- The minors of a form that holds rows, and of which multiples are among them, are bounded by those of the rows. -/
theorem scaled_minor {n : Nat} {m S : List (List Int)} {ps : Nat → Nat} (hS : HForm n S ps) (hm : Wid n m) (hD : ∀ i, i < S.length → ∃ D : Int, D ≠ 0 ∧ Sp n (RowsFrom 0 m) (smulL D (rowE_ S i))) : ∃ V : Nat → List Int, (∀ a, a < S.length → RowsFrom 0 m (V a)) ∧ phi S.length ps V ≠ 0 := by
  refine Classical.byContradiction fun hno => ?_
  have hall : ∀ V : Nat → List Int, (∀ a, a < S.length → RowsFrom 0 m (V a)) → phi S.length ps V = 0 := fun V hV => Classical.byContradiction fun h => hno ⟨V, hV, h⟩
  have hf : ∃ D : Nat → Int, ∀ i, i < S.length → D i ≠ 0 ∧ Sp n (RowsFrom 0 m) (smulL (D i) (rowE_ S i)) := ⟨fun i => if h : i < S.length then Classical.choose (hD i h) else 0, fun i hi => by
    simp only [dif_pos hi]; exact Classical.choose_spec (hD i hi)⟩
  obtain ⟨D, hDD⟩ := hf
  have h0 : phi S.length ps (fun a => smulL (D a) (rowE_ S a)) = 0 := alt_all (Q := fun x => x = 0) (phi_alt n S.length ps) clo_zero (rowsFrom_len hm) hall S.length (Nat.le_refl _) _ (fun a ha => (hDD a ha).2) fun a h1 h2 => by omega
  have hA := phi_alt n S.length ps
  have key : ∀ j, j ≤ S.length → phi S.length ps (fun a => if a < j then rowE_ S a else smulL (D a) (rowE_ S a)) = 0 := by
    intro j
    induction j with
    | zero => intro _; rw [← h0]; exact hA.ext _ _ fun a _ => if_neg (by omega)
    | succ j ih =>
      intro hj
      have hi := ih (by omega)
      have e := hA.lin (fun a => if a < j then rowE_ S a else smulL (D a) (rowE_ S a)) j (List.replicate n 0) (rowE_ S j) (-(D j)) (by omega) (by rw [hS.1 j (by omega)]; simp)
      rw [hA.zero _ j (by omega)] at e
      have e1 : lessL (-(D j)) (List.replicate n 0) (rowE_ S j) = smulL (D j) (rowE_ S j) := by
        refine ext_getD (by rw [lessL_len, smulL_len, hS.1 j (by omega)]; simp) fun c => ?_
        rw [lessL_getD _ (by rw [hS.1 j (by omega)]; simp), repl_getD, smulL_getD, Int.neg_mul]; omega
      rw [e1] at e
      have e2 : updV (fun a => if a < j then rowE_ S a else smulL (D a) (rowE_ S a)) j (smulL (D j) (rowE_ S j)) = fun a => if a < j then rowE_ S a else smulL (D a) (rowE_ S a) := by
        funext a; unfold updV
        by_cases ha : a = j
        · rw [if_pos ha, if_neg (by omega), ha]
        · rw [if_neg ha]
      rw [e2, hi] at e
      have e3 : updV (fun a => if a < j then rowE_ S a else smulL (D a) (rowE_ S a)) j (rowE_ S j) = fun a => if a < j + 1 then rowE_ S a else smulL (D a) (rowE_ S a) := by
        funext a; unfold updV
        by_cases ha : a = j
        · rw [if_pos ha, if_pos (by omega), ha]
        · rw [if_neg ha]
          show (if a < j then rowE_ S a else smulL (D a) (rowE_ S a)) = _
          by_cases h2 : a < j
          · rw [if_pos h2, if_pos (by omega)]
          · rw [if_neg h2, if_neg (by omega)]
      rw [e3] at e
      have hne : ((D j : Int) : Rat) ≠ 0 := fun hz => (hDD j (by omega)).1 (by exact_mod_cast hz)
      rcases Rat.mul_eq_zero.1 (by rw [Rat.intCast_neg] at e; grind : ((D j : Int) : Rat) * phi S.length ps (fun a => if a < j + 1 then rowE_ S a else smulL (D a) (rowE_ S a)) = 0) with h | h
      · exact absurd h hne
      · exact h
  have h1 := key S.length (Nat.le_refl _)
  rw [hA.ext _ (rowE_ S) fun a ha => if_pos ha, phi_piv hS _ (Nat.le_refl _)] at h1
  have hp := (prodP_pos hS _ (Nat.le_refl S.length)).1
  have : prodP S ps S.length = 0 := by exact_mod_cast h1
  omega
end Go.Proofs.YtehknemdfbkimaaGreatDoor
/- A range over a function whose iterator keeps a row of ints of its own, which it hands to each round and writes between two rounds. -/
namespace Go.Proofs.YtehknemdfbkimaaGreatDoor
set_option linter.unusedVariables false
set_option linter.unusedSimpArgs false
open Go.RowKit Go.Shelf

/-- Blocks of cells of a type lie as they lay. -/
structure KeepT (T : TypeId) (A B : World) : Prop where
  size : A.heap.size ≤ B.heap.size
  same : ∀ (b : Nat) C fr, A.heap[b]? = some (.cells C T fr) → B.heap[b]? = some (.cells C T fr)
theorem KeepT.refl (T : TypeId) (A : World) : KeepT T A A := ⟨Nat.le_refl _, fun _ _ _ h => h⟩
theorem KeepT.trans {T : TypeId} {A B C : World} (h : KeepT T A B) (k : KeepT T B C) : KeepT T A C := ⟨Nat.le_trans h.size k.size, fun b C fr hb => k.same b C fr (h.same b C fr hb)⟩
/-- The iterator's part of it: cells of the type alone. -/
def AbC {β : Type} (B : Nat) (T : TypeId) (J : β → World → Prop) : Prop :=
  ∀ s W W' row, J s W → W.grownBy W' row → (∀ r, row = some r → B ≤ r ∧ ∃ C fr, W.heap[r]? = some (.cells C T fr)) → J s W'
/-- A row of numbers in a block of its own. -/
structure SetAt (T : TypeId) (W : World) (v : Value) (s : List Nat) : Prop where
  at_ : ∃ g C fr, v = .slice (some ⟨g, 0, none⟩) s.length s.length ∧ W.heap[g]? = some (.cells C T fr) ∧ ∀ (j : Nat) x, s[j]? = some x → W.cell? ⟨g, j, none⟩ = some (.int .i64 (x : Int))
theorem SetAt.keep {T : TypeId} {W W' : World} {v : Value} {s : List Nat} (h : SetAt T W v s) (hk : KeepT T W W') : SetAt T W' v s := by
  obtain ⟨g, C, fr, h1, h2, h3⟩ := h.at_
  refine ⟨g, C, fr, h1, hk.same g C fr h2, fun j x hx => ?_⟩
  have hb : W'.heap[g]? = W.heap[g]? := (hk.same g C fr h2).trans h2.symm
  have := h3 j x hx
  unfold World.cell? at this ⊢
  rw [hb]; exact this
/-- An iterator that hands out the lists of L, one by one. -/
def SetsGive (F : Fence) (n : Nat) (P : Program) (g : Nat) (lb : Array Value) (T : TypeId) (L : List (List Nat)) (w : World) : Prop :=
  ∀ (l : Nat) (J : Nat → World → Prop) (W : World), Below w.heap.size w W → AbC W.heap.size T J →
    (∀ i s v W1, L[i]? = some s → J i W1 → SetAt T W1 v s → YieldAt F (n - 1) P l #[v] W1 fun e W' => e = .returned (.bool true) ∧ J (i + 1) W' ∧ KeepT T W1 W') →
    J 0 W → CallsIn F n P g (#[.func (.yield l) #[] #[]] ++ lb) W fun e W' => (∃ v, e = .returned v) ∧ J L.length W'
theorem SetsGive.inRound {F : Fence} {n : Nat} {P : Program} {g : Nat} {lb : Array Value} {T : TypeId} {L : List (List Nat)} {w : World} (l : Nat) (h : SetsGive F n P g lb T L w) : SetsGive (F.inRound l) n P g lb T L w := h

/-- A loop's record. -/
def recL (fn : FuncId) (tmps : Array Value) (ps : Array Tmp) (assign body : Code) (dd : Nat) (st : LoopState) : Loop := { state := st, pending := none, fn := fn, tmps := tmps, params := ps, assign := assign, body := body, defers := dd }
end Go.Proofs.YtehknemdfbkimaaGreatDoor
/- A range over a function whose iterator adds to memory at most. -/
namespace Go.Proofs.YtehknemdfbkimaaGreatDoor
set_option linter.unusedVariables false
set_option linter.unusedSimpArgs false
open Go.RowKit Go.Shelf

/-- What may turn about an invariant: blocks from B on that are no cells. -/
def AbR {β : Type} (B : Nat) (J : β → World → Prop) : Prop :=
  ∀ s W W' row, J s W → W.grownBy W' row → (∀ r, row = some r → B ≤ r ∧ ∃ o : Obj, W.heap[r]? = some o ∧ o.isCells = false) → J s W'
theorem AbR.ext {β : Type} {B : Nat} {J : β → World → Prop} (h : AbR B J) {s : β} {W W' : World} (hj : J s W) (he : Ext W W') : J s W' :=
  h s W W' none hj ⟨he.os, he.tape, he.output, he.size, fun k hk _ => he.block k hk⟩ (fun r e => by cases e)
/-- An iterator that hands out m times what Y says, and adds to memory at most. -/
def MakesGive (F : Fence) (n : Nat) (P : Program) (g : Nat) (lb : Array Value) (m : Nat) (Y : Nat → World → World → Array Value → Prop) (V0 V : World → Prop) : Prop :=
  ∀ (l : Nat) (J : Nat → World → Prop) (W : World), V0 W → (∀ i A A', J i A → Ext A A' → J i A') → (∀ i A, J i A → V A) →
    (∀ i A W1 args, i < m → J i A → Ext A W1 → Y i A W1 args → YieldAt F (n - 1) P l args W1 fun e W' => e = .returned (.bool true) ∧ J (i + 1) W') →
    J 0 W → CallsIn F n P g (#[.func (.yield l) #[] #[]] ++ lb) W fun e W' => (∃ v, e = .returned v) ∧ J m W'

/-- What a round owes. -/
def RoundsM (F : Fence) (n : Nat) (P : Program) (l B m : Nat) (Y : Nat → World → World → Array Value → Prop) (I : Nat → World → Prop) (ps : Array Tmp) (tmps : Array Value) (assign body : Code) : Prop :=
  ∀ i A W args, i < m → I i A → Ext A W → Y i A W args → (∃ r, W.heap[l]? = some (.loop r)) →
    assign.wpIn (F.inRound l) n P (Exit.then (fun a' Wa => KeepsFrom B W Wa ∧
      ∀ Wb, Wa.grownBy Wb (some l) → (∃ r, Wa.heap[l]? = some (.loop r)) → (∃ r, Wb.heap[l]? = some (.loop r)) →
        body.wpIn (F.inRound l) n P (fun e _ W3 => e = .normal ∧ KeepsFrom B Wb W3 ∧ I (i + 1) W3) a' Wb) (fun _ _ _ => False))
      { tmps := (ps.zip args).foldl (fun t (p, u) => t.setIfInBounds p u) tmps, defers := [] } W
theorem rounds_makes {F : Fence} {n : Nat} {P : Program} {gf : Nat} {lb : Array Value} {m : Nat} {Y : Nat → World → World → Array Value → Prop} {V0 V : World → Prop} {W1 : World} {l B dd : Nat} {fn : FuncId} {tmps : Array Value} {ps : Array Tmp} {assign body : Code} {I : Nat → World → Prop}
    (hfn : F.fn fn) (hseq : MakesGive F n P gf lb m Y V0 V) (hb1 : V0 W1) (hY : ∀ i A W args, Y i A W args → args.size = ps.size) (hB : B ≤ l) (hB1 : B ≤ W1.heap.size) (hl : W1.heap[l]? = some (.loop (recL fn tmps ps assign body dd .ready)))
    (eD : Option Nat) (hD : ∀ D, eD = some D → D ≠ l ∧ B ≤ D ∧ W1.heap[D]? = some (.deferred (some []))) (hI : AbR B I) (hIx : ∀ i A, I i A → V A) (h0 : I 0 W1)
    (hround : RoundsM F (n - 1) P l B m Y I ps tmps assign body) :
    CallsIn F n P gf (#[.func (.yield l) #[] #[]] ++ lb) W1 fun e W' => (∃ v, e = .returned v) ∧ I m W' ∧ W'.heap[l]? = some (.loop (recL fn tmps ps assign body dd .ready)) ∧ ∀ D, eD = some D → W'.heap[D]? = some (.deferred (some [])) := by
  refine hseq l (fun i W => I i W ∧ W.heap[l]? = some (.loop (recL fn tmps ps assign body dd .ready)) ∧ ∀ D, eD = some D → W.heap[D]? = some (.deferred (some []))) W1 hb1 ?_ (fun i A h => hIx i A h.1) ?_ ⟨h0, hl, fun D e => (hD D e).2.2⟩
  · rintro i A A' ⟨k1, k2, k3⟩ he
    exact ⟨hI.ext k1 he, (he.block l (Array.getElem?_eq_some_iff.1 k2).1).trans k2, fun D e => (he.block D (Array.getElem?_eq_some_iff.1 (k3 D e)).1).trans (k3 D e)⟩
  · rintro i A W args him ⟨k1, k2, k3⟩ he hv
    have m2' : W.heap[l]? = some (.loop (recL fn tmps ps assign body dd .ready)) := (he.block l (Array.getElem?_eq_some_iff.1 k2).1).trans k2
    have m3' : ∀ D, eD = some D → W.heap[D]? = some (.deferred (some [])) := fun D e => (he.block D (Array.getElem?_eq_some_iff.1 (k3 D e)).1).trans (k3 D e)
    have hy := run_yield (P := P) (args := args) m2' (by simp [recL, hY i A W args hv])
    refine ⟨fn, _, assign, body, hy, roundIn_of_wpIn hfn (wpIn_mono (hround i A W args him k1 he hv ⟨_, m2'⟩) ?_)⟩
    rintro e a' Wa hp
    cases e with
    | normal =>
      obtain ⟨p1, p3⟩ := hp
      have m2 := p1.same _ _ hB m2' rfl
      have m3 : ∀ D, eD = some D → Wa.heap[D]? = some (.deferred (some [])) := fun D e => p1.same _ _ (hD D e).2.1 (m3' D e) rfl
      have hlt : l < Wa.heap.size := (Array.getElem?_eq_some_iff.1 m2).1
      refine ⟨_, run_beginRound m2 rfl, ?_⟩
      have b2 : (Wa.putObj l (.loop { recL fn tmps ps assign body dd .ready with state := .busy })).heap[l]? = some (.loop { recL fn tmps ps assign body dd .ready with state := .busy }) := World.putObj_heap_same hlt
      have b3 : ∀ D, eD = some D → (Wa.putObj l (.loop { recL fn tmps ps assign body dd .ready with state := .busy })).heap[D]? = some (.deferred (some [])) := fun D e => (World.putObj_heap_other (hD D e).1).trans (m3 D e)
      refine wpIn_mono (p3 _ (grownBy_putObj' Wa l _) ⟨_, m2⟩ ⟨_, b2⟩) ?_
      rintro e a3 W3 ⟨rfl, q1, q3⟩
      have c2 := q1.same _ _ hB b2 rfl
      have c3 : ∀ D, eD = some D → W3.heap[D]? = some (.deferred (some [])) := fun D e => q1.same _ _ (hD D e).2.1 (b3 D e) rfl
      have hr := run_endRound (P := P) none c2
      have hlt3 : l < W3.heap.size := (Array.getElem?_eq_some_iff.1 c2).1
      refine ⟨_, _, hr, rfl, ?_, ?_, fun D e => (World.putObj_heap_other (hD D e).1).trans (c3 D e)⟩
      · exact hI _ _ _ _ q3 (grownBy_putObj' W3 l _) (fun r e => by cases e; exact ⟨hB, _, c2, rfl⟩)
      · rw [World.putObj_heap_same hlt3]; rfl
    | _ => exact hp.elim

/-- The loop at the outermost: two blocks of book-keeping. -/
theorem wpIn_rangeMakes {F : Fence} {n : Nat} {P : Program} {g : Operand} {ps : Array Tmp} {assign body : Code} {Q : Exit → Act → World → Prop} {a : Act} {w : World}
    (hro : F.round = none) (h1 : 1 ≤ n) {gf : Nat} {lb : Array Value} (hg : a.eval g = .func (.func gf) #[] lb) (hFg : F.fn gf) (eg : ∀ args w, (callFunc gf args).run P w = .ok (.enter gf args) w)
    {m : Nat} {Y : Nat → World → World → Array Value → Prop} {V0 V : World → Prop} (hseq : MakesGive F (n - 1) P gf lb m Y V0 V) (hb0 : ∀ W, Ext w W → V0 W) (hY : ∀ i A W args, Y i A W args → args.size = ps.size) (I : Nat → World → Prop) (hI : AbR w.heap.size I) (hIx : ∀ i A, I i A → V A) (h0 : I 0 w)
    (hround : RoundsM F (n - 1 - 1) P (w.heap.size + 1) w.heap.size m Y I ps a.tmps assign body)
    (hdone : ∀ W, I m W → W.heap[w.heap.size]? = some (.deferred (some [])) → Q .normal { a with defers := { target := .collected w.heap.size, args := #[] } :: a.defers } W) :
    (Code.rangeFunc g ps assign body).wpIn F n P Q a w := by
  refine wpIn_rangeFunc ?_
  intro fn hfn
  rw [hro]
  obtain ⟨W1, hW1⟩ : ∃ W1, (w.alloc (.deferred (some []))).alloc (.loop (recL fn a.tmps ps assign body w.heap.size .ready)) = W1 := ⟨_, rfl⟩
  have hL1 : W1.heap[w.heap.size + 1]? = some (.loop (recL fn a.tmps ps assign body w.heap.size .ready)) := by
    rw [← hW1]; have := World.alloc_heap_new (w.alloc (.deferred (some []))) (.loop (recL fn a.tmps ps assign body w.heap.size .ready)); rwa [World.size_alloc] at this
  have hK1 : W1.heap[w.heap.size]? = some (.deferred (some [])) := by
    rw [← hW1]; exact (Below.heap_alloc _ _ _ (by simp)).trans (World.alloc_heap_new w _)
  have hx1 : Below w.heap.size w W1 := by
    rw [← hW1]; exact ((Below.refl _ w).alloc (Nat.le_refl _) _).alloc (by simp) _
  have hI1 : I 0 W1 := hI.ext h0 hx1
  refine ⟨w.heap.size + 1, [{ target := .collected w.heap.size, args := #[] }], W1, { target := .fn (.func gf) lb, args := #[.func (.yield (w.heap.size + 1)) #[] #[]] }, W1, gf,
    #[.func (.yield (w.heap.size + 1)) #[] #[]] ++ lb, W1, ?_, ?_, ?_, ?_, fun _ => h1, ?_⟩
  · rw [← hW1]; exact run_enterLoop_outer _ _ _ _ _
  · simp only [resolve, hg]
    simp [go_sem]
  · intro f' hf'; simp [Target.leads] at hf'; subst hf'; exact hFg
  · simp [invoke, go_sem, eg]
  · refine (rounds_makes hfn hseq (hb0 _ hx1) hY (by omega) hx1.size hL1 (some w.heap.size) (fun D e => by cases e; exact ⟨by omega, Nat.le_refl _, hK1⟩) hI hIx hI1 hround).mono ?_
    rintro e W2 ⟨⟨v, rfl⟩, hi, hl, hk⟩
    refine ⟨none, _, by have := run_endLoop (P := P) hl (by simp [recL]); exact this, hdone _ (hI _ _ _ _ hi (grownBy_putObj' W2 _ _) (fun r e => by cases e; exact ⟨by omega, _, hl, rfl⟩)) ((World.putObj_heap_other (by omega)).trans (hk _ rfl))⟩
end Go.Proofs.YtehknemdfbkimaaGreatDoor
/- Contract of lattice.checkBoth. -/
namespace Go.Proofs.YtehknemdfbkimaaGreatDoor
set_option linter.unusedVariables false
set_option linter.unusedSimpArgs false
open Go.RowKit

theorem lat_block {w : World} {B : Nat} {x y : Value} (h : w.heap[B]? = some (.cells #[x, y] 30 (0, 0))) : w.cell? ⟨B, 0, none⟩ = some x ∧ w.cell? ⟨B, 1, none⟩ = some y ∧ ∀ i, w.frozen? ⟨B, i, none⟩ = false := by
  have c0 := block_cell h 0; have c1 := block_cell h 1
  simp only [List.getElem?_toArray, List.getElem?_cons_zero, List.getElem?_cons_succ] at c0 c1
  exact ⟨c0, c1, fun i => block_free h i⟩
theorem lat_store {w : World} {B : Nat} {x y : Value} (h : w.heap[B]? = some (.cells #[x, y] 30 (0, 0))) (a b : Value) : ((w.setCell ⟨B, 0, none⟩ a).setCell ⟨B, 1, none⟩ b).heap[B]? = some (.cells #[a, b] 30 (0, 0)) := by
  have := block_set (block_set h 0 a) 1 b
  simpa using this
theorem lat_new (w : World) (x y : Value) : ∃ W, w.alloc (.cells #[x, y] 30) = W ∧ Ext w W ∧ W.heap.size = w.heap.size + 1 ∧ W.heap[w.heap.size]? = some (.cells #[x, y] 30 (0, 0)) := ⟨_, rfl, Ext.alloc _ _, by simp, block_new _ _ _⟩
theorem ext_lat {w W : World} {B : Nat} (hE : Ext w W) (hB : w.heap.size ≤ B) (a b : Value) : Ext w ((W.setCell ⟨B, 0, none⟩ a).setCell ⟨B, 1, none⟩ b) :=
  Below.setCell (Below.setCell hE hB _) hB _

end Go.Proofs.YtehknemdfbkimaaGreatDoor
/- Contract of whole.Sub at integers of any size. -/
namespace Go.Proofs.YtehknemdfbkimaaGreatDoor
set_option linter.unusedVariables false
set_option linter.unusedSimpArgs false
open Go.RowKit

set_option maxRecDepth 100000 in
set_option maxHeartbeats 400000 in
theorem subI_any (x y : Int) (w : World) (hx : (intB x).size ≤ 2800000000) (hy : (intB y).size ≤ 2800000000) (ht : Pow10 w) :
    Calls Tryz.prog 191 #[.string (intB x), .string (intB y)] w fun e w' => e = .returned (.string (intB (x - y))) ∧ Ext w w' := by
  have HN := Lib.hid (neg_any y w (by omega))
  have hny : (intB (-y)).size ≤ 2900000000 := by
    have h1 := intB_size_le (-y)
    have h2 := natAbs_le y
    rw [Int.natAbs_neg] at h1
    omega
  have HA : Hid (∀ W, Ext w W → Calls Tryz.prog 157 #[.string (intB x), .string (intB (-y))] W fun e w' => e = .returned (.string (intB (x + -y))) ∧ Ext W w') := fun W hE => addI_any x (-y) W (by omega) hny (ht.ext hE)
  rw [show x + -y = x - y by omega] at HA
  clear ht hx hy hny
  go_enter Tryz.func191, Tryz.ntmps191
  go_wp2_with fail
  refine HN.out.mono ?_
  rintro e w0 ⟨rfl, hE0⟩
  have HE0 := Lib.hid hE0
  clear HN hE0
  go_wp2_with fail
  refine (HA.out _ HE0.out).mono ?_
  rintro e w1 ⟨rfl, hE1⟩
  have HE1 := Lib.hid (Ext.trans HE0.out hE1)
  clear hE1 HA
  go_wp2_with fail
  go_ret
  exact ⟨rfl, HE1.out⟩
end Go.Proofs.YtehknemdfbkimaaGreatDoor
/- Package whole at the numbers of the lattice's forms: bounds on their sizes; contracts handed on. -/
namespace Go.Proofs.YtehknemdfbkimaaGreatDoor
set_option linter.unusedVariables false
set_option linter.unusedSimpArgs false
open Go.RowKit

def Sz (n : Int) : Prop := (numB n.natAbs).size ≤ 1000000000
def Sz9 (n : Int) : Prop := (numB n.natAbs).size ≤ 400000000
theorem sm_of {n : Int} (h : smB n = true) : Sz n := (smB_iff n).1 h
theorem sm9_of {n : Int} (h : sm9B n = true) : Sz9 n := (sm9B_iff n).1 h
theorem Sz.size {n : Int} (h : Sz n) : (intB n).size ≤ 1000000001 := by
  unfold Sz at h; have := intB_size_le n; omega
theorem Sz9.size {n : Int} (h : Sz9 n) : (intB n).size ≤ 400000001 := by
  unfold Sz9 at h; have := intB_size_le n; omega
theorem Sz.natAbs {n : Int} (h : Sz n) : Sz (n.natAbs : Int) := by
  unfold Sz at h ⊢; rw [Int.natAbs_natCast]; exact h
theorem Sz.neg {n : Int} (h : Sz n) : Sz (-n) := by
  unfold Sz at h ⊢; rw [Int.natAbs_neg]; exact h
theorem mul_size (x y : Int) : (intB (x * y)).size ≤ (intB x).size + (intB y).size + 1 := by
  have h1 := intB_size_le (x * y)
  have h2 := natAbs_le x
  have h3 := natAbs_le y
  have h4 := num_mul_size x.natAbs y.natAbs
  rw [Int.natAbs_mul] at h1
  omega
theorem mulZ (x y : Int) (w : World) (hx : Sz9 x) (hy : Sz9 y) (ht : Pow10 w) :
    Calls Tryz.prog 78 #[.string (intB x), .string (intB y)] w fun e w' => e = .returned (.string (intB (x * y))) ∧ Ext w w' :=
  mulI_any x y w (by have := hx.size; omega) (by have := hy.size; omega) ht
theorem subZ (x y : Int) (w : World) (hx : Sz x) (hy : (intB y).size ≤ 1000000001) (ht : Pow10 w) :
    Calls Tryz.prog 191 #[.string (intB x), .string (intB y)] w fun e w' => e = .returned (.string (intB (x - y))) ∧ Ext w w' :=
  subI_any x y w (by have := hx.size; omega) (by omega) ht
theorem divModZ (x y : Int) (w : World) (hx : Sz x) (hy : Sz y) (h0 : y ≠ 0) (ht : Pow10 w) :
    Calls Tryz.prog 80 #[.string (intB x), .string (intB y)] w fun e w' => e = .returned (.tuple #[.string (intB (fdq x y)), .string (intB (fdr x y)), .int .i64 0]) ∧ Ext w w' :=
  divModI_any x y w (by have := hx.size; omega) (by have := hy.size; omega) h0 ht
theorem sign_cmp (x y : Int) (h : x.sign ≠ y.sign) : (x.sign < y.sign ↔ x < y) ∧ x ≠ y := by
  rcases Int.lt_trichotomy x 0 with hx | hx | hx <;> rcases Int.lt_trichotomy y 0 with hy | hy | hy
  all_goals first
    | (rw [Int.sign_eq_neg_one_of_neg hx] at h ⊢) | (rw [hx] at h ⊢; rw [show (0 : Int).sign = 0 from rfl] at h ⊢) | (rw [Int.sign_eq_one_of_pos hx] at h ⊢)
  all_goals first
    | (rw [Int.sign_eq_neg_one_of_neg hy] at h ⊢) | (rw [hy] at h ⊢; rw [show (0 : Int).sign = 0 from rfl] at h ⊢) | (rw [Int.sign_eq_one_of_pos hy] at h ⊢)
  all_goals first | (exact absurd rfl h) | omega
def cmpI (x y : Int) : Int := if x < y then -1 else if x = y then 0 else 1
end Go.Proofs.YtehknemdfbkimaaGreatDoor
