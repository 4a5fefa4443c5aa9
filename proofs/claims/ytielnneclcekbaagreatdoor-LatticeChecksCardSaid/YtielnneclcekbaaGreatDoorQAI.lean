/- Merged: MakesLaw. -/
import Derived.RangeFuncNested
import Derived.RangeFuncBound
import Derived.RangeFuncCalls
import Derived.RangeFuncLeaves
import Derived.Shelf.Abstract
import Derived.Shelf.RegionOpen
import Derived.WalkKit
import Derived.OwnWalkIn
import Derived.TacticsInMore
import Derived.LoopNIn
import Derived.LoopIn
import Derived.RangeFuncBox
import Derived.Test.YtielnneclcekbaaGreatDoorQAA
import Derived.Test.YtielnneclcekbaaGreatDoorQAH
/- A range over a function whose iterator adds to memory at most. -/
namespace Go.Proofs.YtielnneclcekbaaGreatDoor
set_option linter.unusedVariables false
set_option linter.unusedSimpArgs false
open Go.RowKit Go.Shelf

/-- What may turn about an invariant: blocks from B on that are no cells. -/
def AbR {β : Type} (B : Nat) (J : β → World → Prop) : Prop :=
  ∀ s W W' row, J s W → W.grownBy W' row → (∀ r, row = some r → B ≤ r ∧ ∃ o : Obj, W.heap[r]? = some o ∧ o.isCells = false) → J s W'
theorem AbR.ext {β : Type} {B : Nat} {J : β → World → Prop} (h : AbR B J) {s : β} {W W' : World} (hj : J s W) (he : Ext W W') : J s W' :=
  h s W W' none hj ⟨he.os, he.tape, he.output, he.size, fun k hk _ => he.block k hk⟩ (fun r e => by cases e)
/-- An iterator that hands out m times what Y says, and adds to memory at most. -/
def MakesGive (F : Fence) (n : Nat) (P : Program) (g : Nat) (lb : Array Value) (m : Nat) (Y : Nat → World → World → Array Value → Prop) (V0 V : World → Prop) : Prop :=
  ∀ (l : Nat) (J : Nat → World → Prop) (W : World), V0 W → (∀ i A A', J i A → Ext A A' → J i A') → (∀ i A, J i A → V A) →
    (∀ i A W1 args, i < m → J i A → Ext A W1 → Y i A W1 args → YieldAt F (n - 1) P l args W1 fun e W' => e = .returned (.bool true) ∧ J (i + 1) W') →
    J 0 W → CallsIn F n P g (#[.func (.yield l) #[] #[]] ++ lb) W fun e W' => (∃ v, e = .returned v) ∧ J m W'

/-- What a round owes. -/
def RoundsM (F : Fence) (n : Nat) (P : Program) (l B m : Nat) (Y : Nat → World → World → Array Value → Prop) (I : Nat → World → Prop) (ps : Array Tmp) (tmps : Array Value) (assign body : Code) : Prop :=
  ∀ i A W args, i < m → I i A → Ext A W → Y i A W args → (∃ r, W.heap[l]? = some (.loop r)) →
    assign.wpIn (F.inRound l) n P (Exit.then (fun a' Wa => KeepsFrom B W Wa ∧
      ∀ Wb, Wa.grownBy Wb (some l) → (∃ r, Wa.heap[l]? = some (.loop r)) → (∃ r, Wb.heap[l]? = some (.loop r)) →
        body.wpIn (F.inRound l) n P (fun e _ W3 => e = .normal ∧ KeepsFrom B Wb W3 ∧ I (i + 1) W3) a' Wb) (fun _ _ _ => False))
      { tmps := (ps.zip args).foldl (fun t (p, u) => t.setIfInBounds p u) tmps, defers := [] } W
theorem rounds_makes {F : Fence} {n : Nat} {P : Program} {gf : Nat} {lb : Array Value} {m : Nat} {Y : Nat → World → World → Array Value → Prop} {V0 V : World → Prop} {W1 : World} {l B dd : Nat} {fn : FuncId} {tmps : Array Value} {ps : Array Tmp} {assign body : Code} {I : Nat → World → Prop}
    (hfn : F.fn fn) (hseq : MakesGive F n P gf lb m Y V0 V) (hb1 : V0 W1) (hY : ∀ i A W args, Y i A W args → args.size = ps.size) (hB : B ≤ l) (hB1 : B ≤ W1.heap.size) (hl : W1.heap[l]? = some (.loop (recL fn tmps ps assign body dd .ready)))
    (eD : Option Nat) (hD : ∀ D, eD = some D → D ≠ l ∧ B ≤ D ∧ W1.heap[D]? = some (.deferred (some []))) (hI : AbR B I) (hIx : ∀ i A, I i A → V A) (h0 : I 0 W1)
    (hround : RoundsM F (n - 1) P l B m Y I ps tmps assign body) :
    CallsIn F n P gf (#[.func (.yield l) #[] #[]] ++ lb) W1 fun e W' => (∃ v, e = .returned v) ∧ I m W' ∧ W'.heap[l]? = some (.loop (recL fn tmps ps assign body dd .ready)) ∧ ∀ D, eD = some D → W'.heap[D]? = some (.deferred (some [])) := by
  refine hseq l (fun i W => I i W ∧ W.heap[l]? = some (.loop (recL fn tmps ps assign body dd .ready)) ∧ ∀ D, eD = some D → W.heap[D]? = some (.deferred (some []))) W1 hb1 ?_ (fun i A h => hIx i A h.1) ?_ ⟨h0, hl, fun D e => (hD D e).2.2⟩
  · rintro i A A' ⟨k1, k2, k3⟩ he
    exact ⟨hI.ext k1 he, (he.block l (Array.getElem?_eq_some_iff.1 k2).1).trans k2, fun D e => (he.block D (Array.getElem?_eq_some_iff.1 (k3 D e)).1).trans (k3 D e)⟩
  · rintro i A W args him ⟨k1, k2, k3⟩ he hv
    have m2' : W.heap[l]? = some (.loop (recL fn tmps ps assign body dd .ready)) := (he.block l (Array.getElem?_eq_some_iff.1 k2).1).trans k2
    have m3' : ∀ D, eD = some D → W.heap[D]? = some (.deferred (some [])) := fun D e => (he.block D (Array.getElem?_eq_some_iff.1 (k3 D e)).1).trans (k3 D e)
    have hy := run_yield (P := P) (args := args) m2' (by simp [recL, hY i A W args hv])
    refine ⟨fn, _, assign, body, hy, roundIn_of_wpIn hfn (wpIn_mono (hround i A W args him k1 he hv ⟨_, m2'⟩) ?_)⟩
    rintro e a' Wa hp
    cases e with
    | normal =>
      obtain ⟨p1, p3⟩ := hp
      have m2 := p1.same _ _ hB m2' rfl
      have m3 : ∀ D, eD = some D → Wa.heap[D]? = some (.deferred (some [])) := fun D e => p1.same _ _ (hD D e).2.1 (m3' D e) rfl
      have hlt : l < Wa.heap.size := (Array.getElem?_eq_some_iff.1 m2).1
      refine ⟨_, run_beginRound m2 rfl, ?_⟩
      have b2 : (Wa.putObj l (.loop { recL fn tmps ps assign body dd .ready with state := .busy })).heap[l]? = some (.loop { recL fn tmps ps assign body dd .ready with state := .busy }) := World.putObj_heap_same hlt
      have b3 : ∀ D, eD = some D → (Wa.putObj l (.loop { recL fn tmps ps assign body dd .ready with state := .busy })).heap[D]? = some (.deferred (some [])) := fun D e => (World.putObj_heap_other (hD D e).1).trans (m3 D e)
      refine wpIn_mono (p3 _ (grownBy_putObj' Wa l _) ⟨_, m2⟩ ⟨_, b2⟩) ?_
      rintro e a3 W3 ⟨rfl, q1, q3⟩
      have c2 := q1.same _ _ hB b2 rfl
      have c3 : ∀ D, eD = some D → W3.heap[D]? = some (.deferred (some [])) := fun D e => q1.same _ _ (hD D e).2.1 (b3 D e) rfl
      have hr := run_endRound (P := P) none c2
      have hlt3 : l < W3.heap.size := (Array.getElem?_eq_some_iff.1 c2).1
      refine ⟨_, _, hr, rfl, ?_, ?_, fun D e => (World.putObj_heap_other (hD D e).1).trans (c3 D e)⟩
      · exact hI _ _ _ _ q3 (grownBy_putObj' W3 l _) (fun r e => by cases e; exact ⟨hB, _, c2, rfl⟩)
      · rw [World.putObj_heap_same hlt3]; rfl
    | _ => exact hp.elim

/-- The loop at the outermost: two blocks of book-keeping. -/
theorem wpIn_rangeMakes {F : Fence} {n : Nat} {P : Program} {g : Operand} {ps : Array Tmp} {assign body : Code} {Q : Exit → Act → World → Prop} {a : Act} {w : World}
    (hro : F.round = none) (h1 : 1 ≤ n) {gf : Nat} {lb : Array Value} (hg : a.eval g = .func (.func gf) #[] lb) (hFg : F.fn gf) (eg : ∀ args w, (callFunc gf args).run P w = .ok (.enter gf args) w)
    {m : Nat} {Y : Nat → World → World → Array Value → Prop} {V0 V : World → Prop} (hseq : MakesGive F (n - 1) P gf lb m Y V0 V) (hb0 : ∀ W, Ext w W → V0 W) (hY : ∀ i A W args, Y i A W args → args.size = ps.size) (I : Nat → World → Prop) (hI : AbR w.heap.size I) (hIx : ∀ i A, I i A → V A) (h0 : I 0 w)
    (hround : RoundsM F (n - 1 - 1) P (w.heap.size + 1) w.heap.size m Y I ps a.tmps assign body)
    (hdone : ∀ W, I m W → W.heap[w.heap.size]? = some (.deferred (some [])) → Q .normal { a with defers := { target := .collected w.heap.size, args := #[] } :: a.defers } W) :
    (Code.rangeFunc g ps assign body).wpIn F n P Q a w := by
  refine wpIn_rangeFunc ?_
  intro fn hfn
  rw [hro]
  obtain ⟨W1, hW1⟩ : ∃ W1, (w.alloc (.deferred (some []))).alloc (.loop (recL fn a.tmps ps assign body w.heap.size .ready)) = W1 := ⟨_, rfl⟩
  have hL1 : W1.heap[w.heap.size + 1]? = some (.loop (recL fn a.tmps ps assign body w.heap.size .ready)) := by
    rw [← hW1]; have := World.alloc_heap_new (w.alloc (.deferred (some []))) (.loop (recL fn a.tmps ps assign body w.heap.size .ready)); rwa [World.size_alloc] at this
  have hK1 : W1.heap[w.heap.size]? = some (.deferred (some [])) := by
    rw [← hW1]; exact (Below.heap_alloc _ _ _ (by simp)).trans (World.alloc_heap_new w _)
  have hx1 : Below w.heap.size w W1 := by
    rw [← hW1]; exact ((Below.refl _ w).alloc (Nat.le_refl _) _).alloc (by simp) _
  have hI1 : I 0 W1 := hI.ext h0 hx1
  refine ⟨w.heap.size + 1, [{ target := .collected w.heap.size, args := #[] }], W1, { target := .fn (.func gf) lb, args := #[.func (.yield (w.heap.size + 1)) #[] #[]] }, W1, gf,
    #[.func (.yield (w.heap.size + 1)) #[] #[]] ++ lb, W1, ?_, ?_, ?_, ?_, fun _ => h1, ?_⟩
  · rw [← hW1]; exact run_enterLoop_outer _ _ _ _ _
  · simp only [resolve, hg]
    simp [go_sem]
  · intro f' hf'; simp [Target.leads] at hf'; subst hf'; exact hFg
  · simp [invoke, go_sem, eg]
  · refine (rounds_makes hfn hseq (hb0 _ hx1) hY (by omega) hx1.size hL1 (some w.heap.size) (fun D e => by cases e; exact ⟨by omega, Nat.le_refl _, hK1⟩) hI hIx hI1 hround).mono ?_
    rintro e W2 ⟨⟨v, rfl⟩, hi, hl, hk⟩
    refine ⟨none, _, by have := run_endLoop (P := P) hl (by simp [recL]); exact this, hdone _ (hI _ _ _ _ hi (grownBy_putObj' W2 _ _) (fun r e => by cases e; exact ⟨by omega, _, hl, rfl⟩)) ((World.putObj_heap_other (by omega)).trans (hk _ rfl))⟩
end Go.Proofs.YtielnneclcekbaaGreatDoor
