/- Merged: MakesLaw, Piv. -/
import Derived.RangeFuncNested
import Derived.RangeFuncBound
import Derived.RangeFuncCalls
import Derived.RangeFuncLeaves
import Derived.Shelf.Abstract
import Derived.Shelf.RegionOpen
import Derived.WalkKit
import Derived.OwnWalkIn
import Derived.TacticsInMore
import Derived.LoopNIn
import Derived.LoopIn
import Derived.RangeFuncBox
import Derived.Test.YtielnneclcekbaaGreatDoorQAA
import Derived.Test.YtielnneclcekbaaGreatDoorQBH
import Derived.Test.YtielnneclcekbaaGreatDoorQBG
import Derived.Sort.QuietIn
/- A range over a function whose iterator adds to memory at most. -/
namespace Go.Proofs.YtielnneclcekbaaGreatDoor
set_option linter.unusedVariables false
set_option linter.unusedSimpArgs false
open Go.RowKit Go.Shelf

/-- What may turn about an invariant: blocks from B on that are no cells. -/
def AbR {β : Type} (B : Nat) (J : β → World → Prop) : Prop :=
  ∀ s W W' row, J s W → W.grownBy W' row → (∀ r, row = some r → B ≤ r ∧ ∃ o : Obj, W.heap[r]? = some o ∧ o.isCells = false) → J s W'
theorem AbR.ext {β : Type} {B : Nat} {J : β → World → Prop} (h : AbR B J) {s : β} {W W' : World} (hj : J s W) (he : Ext W W') : J s W' :=
  h s W W' none hj ⟨he.os, he.tape, he.output, he.size, fun k hk _ => he.block k hk⟩ (fun r e => by cases e)
/-- An iterator that hands out m times what Y says, and adds to memory at most. -/
def MakesGive (F : Fence) (n : Nat) (P : Program) (g : Nat) (lb : Array Value) (m : Nat) (Y : Nat → World → World → Array Value → Prop) (V0 V : World → Prop) : Prop :=
  ∀ (l : Nat) (J : Nat → World → Prop) (W : World), V0 W → (∀ i A A', J i A → Ext A A' → J i A') → (∀ i A, J i A → V A) →
    (∀ i A W1 args, i < m → J i A → Ext A W1 → Y i A W1 args → YieldAt F (n - 1) P l args W1 fun e W' => e = .returned (.bool true) ∧ J (i + 1) W') →
    J 0 W → CallsIn F n P g (#[.func (.yield l) #[] #[]] ++ lb) W fun e W' => (∃ v, e = .returned v) ∧ J m W'

/-- What a round owes. -/
def RoundsM (F : Fence) (n : Nat) (P : Program) (l B m : Nat) (Y : Nat → World → World → Array Value → Prop) (I : Nat → World → Prop) (ps : Array Tmp) (tmps : Array Value) (assign body : Code) : Prop :=
  ∀ i A W args, i < m → I i A → Ext A W → Y i A W args → (∃ r, W.heap[l]? = some (.loop r)) →
    assign.wpIn (F.inRound l) n P (Exit.then (fun a' Wa => KeepsFrom B W Wa ∧
      ∀ Wb, Wa.grownBy Wb (some l) → (∃ r, Wa.heap[l]? = some (.loop r)) → (∃ r, Wb.heap[l]? = some (.loop r)) →
        body.wpIn (F.inRound l) n P (fun e _ W3 => e = .normal ∧ KeepsFrom B Wb W3 ∧ I (i + 1) W3) a' Wb) (fun _ _ _ => False))
      { tmps := (ps.zip args).foldl (fun t (p, u) => t.setIfInBounds p u) tmps, defers := [] } W
theorem rounds_makes {F : Fence} {n : Nat} {P : Program} {gf : Nat} {lb : Array Value} {m : Nat} {Y : Nat → World → World → Array Value → Prop} {V0 V : World → Prop} {W1 : World} {l B dd : Nat} {fn : FuncId} {tmps : Array Value} {ps : Array Tmp} {assign body : Code} {I : Nat → World → Prop}
    (hfn : F.fn fn) (hseq : MakesGive F n P gf lb m Y V0 V) (hb1 : V0 W1) (hY : ∀ i A W args, Y i A W args → args.size = ps.size) (hB : B ≤ l) (hB1 : B ≤ W1.heap.size) (hl : W1.heap[l]? = some (.loop (recL fn tmps ps assign body dd .ready)))
    (eD : Option Nat) (hD : ∀ D, eD = some D → D ≠ l ∧ B ≤ D ∧ W1.heap[D]? = some (.deferred (some []))) (hI : AbR B I) (hIx : ∀ i A, I i A → V A) (h0 : I 0 W1)
    (hround : RoundsM F (n - 1) P l B m Y I ps tmps assign body) :
    CallsIn F n P gf (#[.func (.yield l) #[] #[]] ++ lb) W1 fun e W' => (∃ v, e = .returned v) ∧ I m W' ∧ W'.heap[l]? = some (.loop (recL fn tmps ps assign body dd .ready)) ∧ ∀ D, eD = some D → W'.heap[D]? = some (.deferred (some [])) := by
  refine hseq l (fun i W => I i W ∧ W.heap[l]? = some (.loop (recL fn tmps ps assign body dd .ready)) ∧ ∀ D, eD = some D → W.heap[D]? = some (.deferred (some []))) W1 hb1 ?_ (fun i A h => hIx i A h.1) ?_ ⟨h0, hl, fun D e => (hD D e).2.2⟩
  · rintro i A A' ⟨k1, k2, k3⟩ he
    exact ⟨hI.ext k1 he, (he.block l (Array.getElem?_eq_some_iff.1 k2).1).trans k2, fun D e => (he.block D (Array.getElem?_eq_some_iff.1 (k3 D e)).1).trans (k3 D e)⟩
  · rintro i A W args him ⟨k1, k2, k3⟩ he hv
    have m2' : W.heap[l]? = some (.loop (recL fn tmps ps assign body dd .ready)) := (he.block l (Array.getElem?_eq_some_iff.1 k2).1).trans k2
    have m3' : ∀ D, eD = some D → W.heap[D]? = some (.deferred (some [])) := fun D e => (he.block D (Array.getElem?_eq_some_iff.1 (k3 D e)).1).trans (k3 D e)
    have hy := run_yield (P := P) (args := args) m2' (by simp [recL, hY i A W args hv])
    refine ⟨fn, _, assign, body, hy, roundIn_of_wpIn hfn (wpIn_mono (hround i A W args him k1 he hv ⟨_, m2'⟩) ?_)⟩
    rintro e a' Wa hp
    cases e with
    | normal =>
      obtain ⟨p1, p3⟩ := hp
      have m2 := p1.same _ _ hB m2' rfl
      have m3 : ∀ D, eD = some D → Wa.heap[D]? = some (.deferred (some [])) := fun D e => p1.same _ _ (hD D e).2.1 (m3' D e) rfl
      have hlt : l < Wa.heap.size := (Array.getElem?_eq_some_iff.1 m2).1
      refine ⟨_, run_beginRound m2 rfl, ?_⟩
      have b2 : (Wa.putObj l (.loop { recL fn tmps ps assign body dd .ready with state := .busy })).heap[l]? = some (.loop { recL fn tmps ps assign body dd .ready with state := .busy }) := World.putObj_heap_same hlt
      have b3 : ∀ D, eD = some D → (Wa.putObj l (.loop { recL fn tmps ps assign body dd .ready with state := .busy })).heap[D]? = some (.deferred (some [])) := fun D e => (World.putObj_heap_other (hD D e).1).trans (m3 D e)
      refine wpIn_mono (p3 _ (grownBy_putObj' Wa l _) ⟨_, m2⟩ ⟨_, b2⟩) ?_
      rintro e a3 W3 ⟨rfl, q1, q3⟩
      have c2 := q1.same _ _ hB b2 rfl
      have c3 : ∀ D, eD = some D → W3.heap[D]? = some (.deferred (some [])) := fun D e => q1.same _ _ (hD D e).2.1 (b3 D e) rfl
      have hr := run_endRound (P := P) none c2
      have hlt3 : l < W3.heap.size := (Array.getElem?_eq_some_iff.1 c2).1
      refine ⟨_, _, hr, rfl, ?_, ?_, fun D e => (World.putObj_heap_other (hD D e).1).trans (c3 D e)⟩
      · exact hI _ _ _ _ q3 (grownBy_putObj' W3 l _) (fun r e => by cases e; exact ⟨hB, _, c2, rfl⟩)
      · rw [World.putObj_heap_same hlt3]; rfl
    | _ => exact hp.elim

/-- The loop at the outermost: two blocks of book-keeping. -/
theorem wpIn_rangeMakes {F : Fence} {n : Nat} {P : Program} {g : Operand} {ps : Array Tmp} {assign body : Code} {Q : Exit → Act → World → Prop} {a : Act} {w : World}
    (hro : F.round = none) (h1 : 1 ≤ n) {gf : Nat} {lb : Array Value} (hg : a.eval g = .func (.func gf) #[] lb) (hFg : F.fn gf) (eg : ∀ args w, (callFunc gf args).run P w = .ok (.enter gf args) w)
    {m : Nat} {Y : Nat → World → World → Array Value → Prop} {V0 V : World → Prop} (hseq : MakesGive F (n - 1) P gf lb m Y V0 V) (hb0 : ∀ W, Ext w W → V0 W) (hY : ∀ i A W args, Y i A W args → args.size = ps.size) (I : Nat → World → Prop) (hI : AbR w.heap.size I) (hIx : ∀ i A, I i A → V A) (h0 : I 0 w)
    (hround : RoundsM F (n - 1 - 1) P (w.heap.size + 1) w.heap.size m Y I ps a.tmps assign body)
    (hdone : ∀ W, I m W → W.heap[w.heap.size]? = some (.deferred (some [])) → Q .normal { a with defers := { target := .collected w.heap.size, args := #[] } :: a.defers } W) :
    (Code.rangeFunc g ps assign body).wpIn F n P Q a w := by
  refine wpIn_rangeFunc ?_
  intro fn hfn
  rw [hro]
  obtain ⟨W1, hW1⟩ : ∃ W1, (w.alloc (.deferred (some []))).alloc (.loop (recL fn a.tmps ps assign body w.heap.size .ready)) = W1 := ⟨_, rfl⟩
  have hL1 : W1.heap[w.heap.size + 1]? = some (.loop (recL fn a.tmps ps assign body w.heap.size .ready)) := by
    rw [← hW1]; have := World.alloc_heap_new (w.alloc (.deferred (some []))) (.loop (recL fn a.tmps ps assign body w.heap.size .ready)); rwa [World.size_alloc] at this
  have hK1 : W1.heap[w.heap.size]? = some (.deferred (some [])) := by
    rw [← hW1]; exact (Below.heap_alloc _ _ _ (by simp)).trans (World.alloc_heap_new w _)
  have hx1 : Below w.heap.size w W1 := by
    rw [← hW1]; exact ((Below.refl _ w).alloc (Nat.le_refl _) _).alloc (by simp) _
  have hI1 : I 0 W1 := hI.ext h0 hx1
  refine ⟨w.heap.size + 1, [{ target := .collected w.heap.size, args := #[] }], W1, { target := .fn (.func gf) lb, args := #[.func (.yield (w.heap.size + 1)) #[] #[]] }, W1, gf,
    #[.func (.yield (w.heap.size + 1)) #[] #[]] ++ lb, W1, ?_, ?_, ?_, ?_, fun _ => h1, ?_⟩
  · rw [← hW1]; exact run_enterLoop_outer _ _ _ _ _
  · simp only [resolve, hg]
    simp [go_sem]
  · intro f' hf'; simp [Target.leads] at hf'; subst hf'; exact hFg
  · simp [invoke, go_sem, eg]
  · refine (rounds_makes hfn hseq (hb0 _ hx1) hY (by omega) hx1.size hL1 (some w.heap.size) (fun D e => by cases e; exact ⟨by omega, Nat.le_refl _, hK1⟩) hI hIx hI1 hround).mono ?_
    rintro e W2 ⟨⟨v, rfl⟩, hi, hl, hk⟩
    refine ⟨none, _, by have := run_endLoop (P := P) hl (by simp [recL]); exact this, hdone _ (hI _ _ _ _ hi (grownBy_putObj' W2 _ _) (fun r e => by cases e; exact ⟨by omega, _, hl, rfl⟩)) ((World.putObj_heap_other (by omega)).trans (hk _ rfl))⟩
end Go.Proofs.YtielnneclcekbaaGreatDoor
/- lattice's iterator over the rows of a basis and their pivots, as a contract. -/
namespace Go.Proofs.YtielnneclcekbaaGreatDoor
set_option linter.unusedVariables false
set_option linter.unusedSimpArgs false
open Go.RowKit Go.Shelf
attribute [local go_sem] Oper.semAt_some

/-- What is handed out: the place of the pivot, and the row, new. -/
def PivY (xss : List (List Int)) (i : Nat) (A W : World) (args : Array Value) : Prop :=
  ∃ x gx cx, xss[i]? = some x ∧ args = #[.int .i64 (leadL x), .slice (some ⟨gx, 0, none⟩) x.length cx] ∧ RowB W gx 0 x ∧ A.heap.size ≤ gx ∧ x.length ≤ cx ∧ cx ≤ maxLen

set_option maxRecDepth 100000 in
set_option maxHeartbeats 4000000 in
theorem pivots1_in (k : Nat) (hk : 1 ≤ k) (n : Int) (xss : List (List Int)) (v : Value) (bL : Nat) (w w6 : World) (hL : w6.heap[bL]? = some (.cells #[.int .i64 n, v] 27 (0, 0))) (hR : Rows2 w v xss) (hlen : ∀ x ∈ xss, x.length ≤ 1000) (ht : Pow10 w) :
    MakesGive Fence.wide k Tryz.prog 83 #[.pointer (some ⟨bL, 0, none⟩)] xss.length (PivY xss) (fun W => Ext w6 W) (fun W => Ext w W) := by
  intro l J W hW hJ hJx hY h0
  have HJ := Lib.hid hJ; have HJX := Lib.hid hJx; have HY := Lib.hid hY; have H0 := Lib.hid h0; have HLEN := Lib.hid hlen; have HT := Lib.hid ht
  obtain ⟨a, c, rfl, h1, h2, -, hc⟩ := inCell.open hR
  have HC := Lib.hid hc
  obtain ⟨e0, e1, -⟩ := lat_block (block_ext hL hW)
  unfold maxLen at h2
  clear hL hR hJ hJx hY h0 hlen ht hc
  refine callsIn_of_wp Tryz.func83 rfl trivial ?_ rfl
  simp only [Tryz.ntmps83, List.size_toArray, List.length_cons, List.length_nil, Nat.reduceAdd, Nat.reduceSub, Array.replicate_succ, Array.replicate_zero, List.push_toArray, List.append_toArray, List.nil_append, List.cons_append]
  gi_wp2_with fail
  gi_loopw [9] (fun t wr => ∃ i : Nat, i ≤ xss.length ∧ t = .int .i64 i ∧ Hid (J i wr)) (fun t _ => xss.length - (intOf t).toNat)
  case atStart => exact ⟨0, by omega, rfl, H0.out⟩
  case round =>
    obtain ⟨i, hi, rfl, HJi⟩ := hrel
    obtain ⟨wo, rfl⟩ : ∃ wo : World, wo = wr := ⟨_, rfl⟩
    clear e0 e1
    by_cases hlt : i < xss.length
    · obtain ⟨x, hx⟩ : ∃ x, xss[i]? = some x := ⟨_, List.getElem?_eq_getElem hlt⟩
      obtain ⟨b, off, rfl, hb, hcell⟩ := HC.out (by intro e; simp [e] at hlt)
      obtain ⟨vx, hvx, hcx⟩ := hcell i x hx
      have HEX := Lib.hid (HJX.out i wo HJi.out)
      have g1 := HEX.out.cell hcx
      have HXL := Lib.hid (HLEN.out x (List.mem_of_getElem? hx))
      have HLO := Lib.hid (longOf_any x vx wo (hvx.ext HEX.out) HXL.out (HT.out.ext HEX.out))
      obtain ⟨ax, cx, rfl, x1, x2, -, -, -⟩ := hvx.open
      have HX := Lib.hid hx
      unfold maxLen at x2
      clear hx hcell hvx hcx
      gi_wp2_with fail
      refine ⟨trivial, (callsIn_wide.2 HLO.out).mono ?_⟩
      rintro e w1 ⟨gx, cg, rfl, hR1, hgx, hcg, hcg2, hE1⟩
      have HE1 := Lib.hid hE1; have HR1 := Lib.hid hR1
      have HLD := Lib.hid (lead_any x gx 0 cg w1 hR1 hcg hcg2)
      have HGX := Lib.hid hgx; have HCG := Lib.hid (And.intro hcg hcg2)
      unfold maxLen at hcg2
      clear hE1 hR1 HLO hgx
      gi_wp2_with fail
      refine ⟨trivial, (callsIn_wide.2 HLD.out).mono ?_⟩
      rintro e w2 ⟨rfl, hE2⟩
      have HE2 := Lib.hid (Ext.trans HE1.out hE2)
      obtain ⟨fn, tmps, assign, body, hyy, hR⟩ := HY.out i wo w2 _ hlt HJi.out HE2.out ⟨x, gx, cg, HX.out, rfl, HR1.out.ext hE2, HGX.out, HCG.out.1, HCG.out.2⟩
      clear hE2 HLD
      gi_wp2_with fail
      refine hR.mono ?_
      rintro e W3 ⟨rfl, hJ3⟩
      have HJ3 := Lib.hid hJ3
      clear hR hyy hJ3
      gi_wp2_with fail
      go_roundw
      case rel => exact ⟨i + 1, by omega, by go_num, HJ3.out⟩
      case measure => simp [intOf]; omega
    · obtain rfl : i = xss.length := by omega
      gi_wp2_with fail
      refine bodyPost_end (results_none rfl _ _ _) rfl ⟨⟨_, rfl⟩, HJi.out⟩
end Go.Proofs.YtielnneclcekbaaGreatDoor
