/- Merged: MakesLaw, LatB, WholeSub, WholeZ, Whole3, Long. -/
import Derived.RangeFuncNested
import Derived.RangeFuncBound
import Derived.RangeFuncCalls
import Derived.RangeFuncLeaves
import Derived.Shelf.Abstract
import Derived.Shelf.RegionOpen
import Derived.WalkKit
import Derived.OwnWalkIn
import Derived.TacticsInMore
import Derived.LoopNIn
import Derived.LoopIn
import Derived.RangeFuncBox
import Derived.Test.YtjihfabhgcfjnaaGreatDoorQAA
import Derived.Test.YtjihfabhgcfjnaaGreatDoorQAN
import Derived.Test.YtjihfabhgcfjnaaGreatDoorQAE
import Derived.Test.YtjihfabhgcfjnaaGreatDoorQAF
import Derived.Deep.CutRange
import Derived.Deep.RegionWith
/- A range over a function whose iterator adds to memory at most. -/
namespace Go.Proofs.YtjihfabhgcfjnaaGreatDoor
set_option linter.unusedVariables false
set_option linter.unusedSimpArgs false
open Go.RowKit Go.Shelf

/-- What may turn about an invariant: blocks from B on that are no cells. -/
def AbR {β : Type} (B : Nat) (J : β → World → Prop) : Prop :=
  ∀ s W W' row, J s W → W.grownBy W' row → (∀ r, row = some r → B ≤ r ∧ ∃ o : Obj, W.heap[r]? = some o ∧ o.isCells = false) → J s W'
theorem AbR.ext {β : Type} {B : Nat} {J : β → World → Prop} (h : AbR B J) {s : β} {W W' : World} (hj : J s W) (he : Ext W W') : J s W' :=
  h s W W' none hj ⟨he.os, he.tape, he.output, he.size, fun k hk _ => he.block k hk⟩ (fun r e => by cases e)
/-- An iterator that hands out m times what Y says, and adds to memory at most. -/
def MakesGive (F : Fence) (n : Nat) (P : Program) (g : Nat) (lb : Array Value) (m : Nat) (Y : Nat → World → World → Array Value → Prop) (V0 V : World → Prop) : Prop :=
  ∀ (l : Nat) (J : Nat → World → Prop) (W : World), V0 W → (∀ i A A', J i A → Ext A A' → J i A') → (∀ i A, J i A → V A) →
    (∀ i A W1 args, i < m → J i A → Ext A W1 → Y i A W1 args → YieldAt F (n - 1) P l args W1 fun e W' => e = .returned (.bool true) ∧ J (i + 1) W') →
    J 0 W → CallsIn F n P g (#[.func (.yield l) #[] #[]] ++ lb) W fun e W' => (∃ v, e = .returned v) ∧ J m W'

/-- What a round owes. -/
def RoundsM (F : Fence) (n : Nat) (P : Program) (l B m : Nat) (Y : Nat → World → World → Array Value → Prop) (I : Nat → World → Prop) (ps : Array Tmp) (tmps : Array Value) (assign body : Code) : Prop :=
  ∀ i A W args, i < m → I i A → Ext A W → Y i A W args → (∃ r, W.heap[l]? = some (.loop r)) →
    assign.wpIn (F.inRound l) n P (Exit.then (fun a' Wa => KeepsFrom B W Wa ∧
      ∀ Wb, Wa.grownBy Wb (some l) → (∃ r, Wa.heap[l]? = some (.loop r)) → (∃ r, Wb.heap[l]? = some (.loop r)) →
        body.wpIn (F.inRound l) n P (fun e _ W3 => e = .normal ∧ KeepsFrom B Wb W3 ∧ I (i + 1) W3) a' Wb) (fun _ _ _ => False))
      { tmps := (ps.zip args).foldl (fun t (p, u) => t.setIfInBounds p u) tmps, defers := [] } W
theorem rounds_makes {F : Fence} {n : Nat} {P : Program} {gf : Nat} {lb : Array Value} {m : Nat} {Y : Nat → World → World → Array Value → Prop} {V0 V : World → Prop} {W1 : World} {l B dd : Nat} {fn : FuncId} {tmps : Array Value} {ps : Array Tmp} {assign body : Code} {I : Nat → World → Prop}
    (hfn : F.fn fn) (hseq : MakesGive F n P gf lb m Y V0 V) (hb1 : V0 W1) (hY : ∀ i A W args, Y i A W args → args.size = ps.size) (hB : B ≤ l) (hB1 : B ≤ W1.heap.size) (hl : W1.heap[l]? = some (.loop (recL fn tmps ps assign body dd .ready)))
    (eD : Option Nat) (hD : ∀ D, eD = some D → D ≠ l ∧ B ≤ D ∧ W1.heap[D]? = some (.deferred (some []))) (hI : AbR B I) (hIx : ∀ i A, I i A → V A) (h0 : I 0 W1)
    (hround : RoundsM F (n - 1) P l B m Y I ps tmps assign body) :
    CallsIn F n P gf (#[.func (.yield l) #[] #[]] ++ lb) W1 fun e W' => (∃ v, e = .returned v) ∧ I m W' ∧ W'.heap[l]? = some (.loop (recL fn tmps ps assign body dd .ready)) ∧ ∀ D, eD = some D → W'.heap[D]? = some (.deferred (some [])) := by
  refine hseq l (fun i W => I i W ∧ W.heap[l]? = some (.loop (recL fn tmps ps assign body dd .ready)) ∧ ∀ D, eD = some D → W.heap[D]? = some (.deferred (some []))) W1 hb1 ?_ (fun i A h => hIx i A h.1) ?_ ⟨h0, hl, fun D e => (hD D e).2.2⟩
  · rintro i A A' ⟨k1, k2, k3⟩ he
    exact ⟨hI.ext k1 he, (he.block l (Array.getElem?_eq_some_iff.1 k2).1).trans k2, fun D e => (he.block D (Array.getElem?_eq_some_iff.1 (k3 D e)).1).trans (k3 D e)⟩
  · rintro i A W args him ⟨k1, k2, k3⟩ he hv
    have m2' : W.heap[l]? = some (.loop (recL fn tmps ps assign body dd .ready)) := (he.block l (Array.getElem?_eq_some_iff.1 k2).1).trans k2
    have m3' : ∀ D, eD = some D → W.heap[D]? = some (.deferred (some [])) := fun D e => (he.block D (Array.getElem?_eq_some_iff.1 (k3 D e)).1).trans (k3 D e)
    have hy := run_yield (P := P) (args := args) m2' (by simp [recL, hY i A W args hv])
    refine ⟨fn, _, assign, body, hy, roundIn_of_wpIn hfn (wpIn_mono (hround i A W args him k1 he hv ⟨_, m2'⟩) ?_)⟩
    rintro e a' Wa hp
    cases e with
    | normal =>
      obtain ⟨p1, p3⟩ := hp
      have m2 := p1.same _ _ hB m2' rfl
      have m3 : ∀ D, eD = some D → Wa.heap[D]? = some (.deferred (some [])) := fun D e => p1.same _ _ (hD D e).2.1 (m3' D e) rfl
      have hlt : l < Wa.heap.size := (Array.getElem?_eq_some_iff.1 m2).1
      refine ⟨_, run_beginRound m2 rfl, ?_⟩
      have b2 : (Wa.putObj l (.loop { recL fn tmps ps assign body dd .ready with state := .busy })).heap[l]? = some (.loop { recL fn tmps ps assign body dd .ready with state := .busy }) := World.putObj_heap_same hlt
      have b3 : ∀ D, eD = some D → (Wa.putObj l (.loop { recL fn tmps ps assign body dd .ready with state := .busy })).heap[D]? = some (.deferred (some [])) := fun D e => (World.putObj_heap_other (hD D e).1).trans (m3 D e)
      refine wpIn_mono (p3 _ (grownBy_putObj' Wa l _) ⟨_, m2⟩ ⟨_, b2⟩) ?_
      rintro e a3 W3 ⟨rfl, q1, q3⟩
      have c2 := q1.same _ _ hB b2 rfl
      have c3 : ∀ D, eD = some D → W3.heap[D]? = some (.deferred (some [])) := fun D e => q1.same _ _ (hD D e).2.1 (b3 D e) rfl
      have hr := run_endRound (P := P) none c2
      have hlt3 : l < W3.heap.size := (Array.getElem?_eq_some_iff.1 c2).1
      refine ⟨_, _, hr, rfl, ?_, ?_, fun D e => (World.putObj_heap_other (hD D e).1).trans (c3 D e)⟩
      · exact hI _ _ _ _ q3 (grownBy_putObj' W3 l _) (fun r e => by cases e; exact ⟨hB, _, c2, rfl⟩)
      · rw [World.putObj_heap_same hlt3]; rfl
    | _ => exact hp.elim

/-- The loop at the outermost: two blocks of book-keeping. -/
theorem wpIn_rangeMakes {F : Fence} {n : Nat} {P : Program} {g : Operand} {ps : Array Tmp} {assign body : Code} {Q : Exit → Act → World → Prop} {a : Act} {w : World}
    (hro : F.round = none) (h1 : 1 ≤ n) {gf : Nat} {lb : Array Value} (hg : a.eval g = .func (.func gf) #[] lb) (hFg : F.fn gf) (eg : ∀ args w, (callFunc gf args).run P w = .ok (.enter gf args) w)
    {m : Nat} {Y : Nat → World → World → Array Value → Prop} {V0 V : World → Prop} (hseq : MakesGive F (n - 1) P gf lb m Y V0 V) (hb0 : ∀ W, Ext w W → V0 W) (hY : ∀ i A W args, Y i A W args → args.size = ps.size) (I : Nat → World → Prop) (hI : AbR w.heap.size I) (hIx : ∀ i A, I i A → V A) (h0 : I 0 w)
    (hround : RoundsM F (n - 1 - 1) P (w.heap.size + 1) w.heap.size m Y I ps a.tmps assign body)
    (hdone : ∀ W, I m W → W.heap[w.heap.size]? = some (.deferred (some [])) → Q .normal { a with defers := { target := .collected w.heap.size, args := #[] } :: a.defers } W) :
    (Code.rangeFunc g ps assign body).wpIn F n P Q a w := by
  refine wpIn_rangeFunc ?_
  intro fn hfn
  rw [hro]
  obtain ⟨W1, hW1⟩ : ∃ W1, (w.alloc (.deferred (some []))).alloc (.loop (recL fn a.tmps ps assign body w.heap.size .ready)) = W1 := ⟨_, rfl⟩
  have hL1 : W1.heap[w.heap.size + 1]? = some (.loop (recL fn a.tmps ps assign body w.heap.size .ready)) := by
    rw [← hW1]; have := World.alloc_heap_new (w.alloc (.deferred (some []))) (.loop (recL fn a.tmps ps assign body w.heap.size .ready)); rwa [World.size_alloc] at this
  have hK1 : W1.heap[w.heap.size]? = some (.deferred (some [])) := by
    rw [← hW1]; exact (Below.heap_alloc _ _ _ (by simp)).trans (World.alloc_heap_new w _)
  have hx1 : Below w.heap.size w W1 := by
    rw [← hW1]; exact ((Below.refl _ w).alloc (Nat.le_refl _) _).alloc (by simp) _
  have hI1 : I 0 W1 := hI.ext h0 hx1
  refine ⟨w.heap.size + 1, [{ target := .collected w.heap.size, args := #[] }], W1, { target := .fn (.func gf) lb, args := #[.func (.yield (w.heap.size + 1)) #[] #[]] }, W1, gf,
    #[.func (.yield (w.heap.size + 1)) #[] #[]] ++ lb, W1, ?_, ?_, ?_, ?_, fun _ => h1, ?_⟩
  · rw [← hW1]; exact run_enterLoop_outer _ _ _ _ _
  · simp only [resolve, hg]
    simp [go_sem]
  · intro f' hf'; simp [Target.leads] at hf'; subst hf'; exact hFg
  · simp [invoke, go_sem, eg]
  · refine (rounds_makes hfn hseq (hb0 _ hx1) hY (by omega) hx1.size hL1 (some w.heap.size) (fun D e => by cases e; exact ⟨by omega, Nat.le_refl _, hK1⟩) hI hIx hI1 hround).mono ?_
    rintro e W2 ⟨⟨v, rfl⟩, hi, hl, hk⟩
    refine ⟨none, _, by have := run_endLoop (P := P) hl (by simp [recL]); exact this, hdone _ (hI _ _ _ _ hi (grownBy_putObj' W2 _ _) (fun r e => by cases e; exact ⟨by omega, _, hl, rfl⟩)) ((World.putObj_heap_other (by omega)).trans (hk _ rfl))⟩
end Go.Proofs.YtjihfabhgcfjnaaGreatDoor
/- Contract of lattice.checkBoth. -/
namespace Go.Proofs.YtjihfabhgcfjnaaGreatDoor
set_option linter.unusedVariables false
set_option linter.unusedSimpArgs false
open Go.RowKit

theorem lat_block {w : World} {B : Nat} {x y : Value} (h : w.heap[B]? = some (.cells #[x, y] 31 (0, 0))) : w.cell? ⟨B, 0, none⟩ = some x ∧ w.cell? ⟨B, 1, none⟩ = some y ∧ ∀ i, w.frozen? ⟨B, i, none⟩ = false := by
  have c0 := block_cell h 0; have c1 := block_cell h 1
  simp only [List.getElem?_toArray, List.getElem?_cons_zero, List.getElem?_cons_succ] at c0 c1
  exact ⟨c0, c1, fun i => block_free h i⟩
theorem lat_store {w : World} {B : Nat} {x y : Value} (h : w.heap[B]? = some (.cells #[x, y] 31 (0, 0))) (a b : Value) : ((w.setCell ⟨B, 0, none⟩ a).setCell ⟨B, 1, none⟩ b).heap[B]? = some (.cells #[a, b] 31 (0, 0)) := by
  have := block_set (block_set h 0 a) 1 b
  simpa using this
theorem lat_new (w : World) (x y : Value) : ∃ W, w.alloc (.cells #[x, y] 31) = W ∧ Ext w W ∧ W.heap.size = w.heap.size + 1 ∧ W.heap[w.heap.size]? = some (.cells #[x, y] 31 (0, 0)) := ⟨_, rfl, Ext.alloc _ _, by simp, block_new _ _ _⟩
theorem ext_lat {w W : World} {B : Nat} (hE : Ext w W) (hB : w.heap.size ≤ B) (a b : Value) : Ext w ((W.setCell ⟨B, 0, none⟩ a).setCell ⟨B, 1, none⟩ b) :=
  Below.setCell (Below.setCell hE hB _) hB _

end Go.Proofs.YtjihfabhgcfjnaaGreatDoor
/- Contract of whole.Sub at integers of any size. -/
namespace Go.Proofs.YtjihfabhgcfjnaaGreatDoor
set_option linter.unusedVariables false
set_option linter.unusedSimpArgs false
open Go.RowKit

set_option maxRecDepth 100000 in
set_option maxHeartbeats 400000 in
theorem subI_any (x y : Int) (w : World) (hx : (intB x).size ≤ 2800000000) (hy : (intB y).size ≤ 2800000000) (ht : Pow10 w) :
    Calls Tryz.prog 158 #[.string (intB x), .string (intB y)] w fun e w' => e = .returned (.string (intB (x - y))) ∧ Ext w w' := by
  have HN := Lib.hid (neg_any y w (by omega))
  have hny : (intB (-y)).size ≤ 2900000000 := by
    have h1 := intB_size_le (-y)
    have h2 := natAbs_le y
    rw [Int.natAbs_neg] at h1
    omega
  have HA : Hid (∀ W, Ext w W → Calls Tryz.prog 118 #[.string (intB x), .string (intB (-y))] W fun e w' => e = .returned (.string (intB (x + -y))) ∧ Ext W w') := fun W hE => addI_any x (-y) W (by omega) hny (ht.ext hE)
  rw [show x + -y = x - y by omega] at HA
  clear ht hx hy hny
  go_enter Tryz.func158, Tryz.ntmps158
  go_wp2_with fail
  refine HN.out.mono ?_
  rintro e w0 ⟨rfl, hE0⟩
  have HE0 := Lib.hid hE0
  clear HN hE0
  go_wp2_with fail
  refine (HA.out _ HE0.out).mono ?_
  rintro e w1 ⟨rfl, hE1⟩
  have HE1 := Lib.hid (Ext.trans HE0.out hE1)
  clear hE1 HA
  go_wp2_with fail
  go_ret
  exact ⟨rfl, HE1.out⟩
end Go.Proofs.YtjihfabhgcfjnaaGreatDoor
/- Package whole at the numbers of the lattice's forms: bounds on their sizes; contracts handed on. -/
namespace Go.Proofs.YtjihfabhgcfjnaaGreatDoor
set_option linter.unusedVariables false
set_option linter.unusedSimpArgs false
open Go.RowKit

def Sz (n : Int) : Prop := (numB n.natAbs).size ≤ 1000000000
def Sz9 (n : Int) : Prop := (numB n.natAbs).size ≤ 400000000
theorem sm_of {n : Int} (h : smB n = true) : Sz n := (smB_iff n).1 h
theorem sm9_of {n : Int} (h : sm9B n = true) : Sz9 n := (sm9B_iff n).1 h
theorem Sz.size {n : Int} (h : Sz n) : (intB n).size ≤ 1000000001 := by
  unfold Sz at h; have := intB_size_le n; omega
theorem Sz9.size {n : Int} (h : Sz9 n) : (intB n).size ≤ 400000001 := by
  unfold Sz9 at h; have := intB_size_le n; omega
theorem Sz.natAbs {n : Int} (h : Sz n) : Sz (n.natAbs : Int) := by
  unfold Sz at h ⊢; rw [Int.natAbs_natCast]; exact h
theorem Sz.neg {n : Int} (h : Sz n) : Sz (-n) := by
  unfold Sz at h ⊢; rw [Int.natAbs_neg]; exact h
theorem mul_size (x y : Int) : (intB (x * y)).size ≤ (intB x).size + (intB y).size + 1 := by
  have h1 := intB_size_le (x * y)
  have h2 := natAbs_le x
  have h3 := natAbs_le y
  have h4 := num_mul_size x.natAbs y.natAbs
  rw [Int.natAbs_mul] at h1
  omega
theorem mulZ (x y : Int) (w : World) (hx : Sz9 x) (hy : Sz9 y) (ht : Pow10 w) :
    Calls Tryz.prog 94 #[.string (intB x), .string (intB y)] w fun e w' => e = .returned (.string (intB (x * y))) ∧ Ext w w' :=
  mulI_any x y w (by have := hx.size; omega) (by have := hy.size; omega) ht
theorem subZ (x y : Int) (w : World) (hx : Sz x) (hy : (intB y).size ≤ 1000000001) (ht : Pow10 w) :
    Calls Tryz.prog 158 #[.string (intB x), .string (intB y)] w fun e w' => e = .returned (.string (intB (x - y))) ∧ Ext w w' :=
  subI_any x y w (by have := hx.size; omega) (by omega) ht
theorem divModZ (x y : Int) (w : World) (hx : Sz x) (hy : Sz y) (h0 : y ≠ 0) (ht : Pow10 w) :
    Calls Tryz.prog 96 #[.string (intB x), .string (intB y)] w fun e w' => e = .returned (.tuple #[.string (intB (fdq x y)), .string (intB (fdr x y)), .int .i64 0]) ∧ Ext w w' :=
  divModI_any x y w (by have := hx.size; omega) (by have := hy.size; omega) h0 ht
theorem sign_cmp (x y : Int) (h : x.sign ≠ y.sign) : (x.sign < y.sign ↔ x < y) ∧ x ≠ y := by
  rcases Int.lt_trichotomy x 0 with hx | hx | hx <;> rcases Int.lt_trichotomy y 0 with hy | hy | hy
  all_goals first
    | (rw [Int.sign_eq_neg_one_of_neg hx] at h ⊢) | (rw [hx] at h ⊢; rw [show (0 : Int).sign = 0 from rfl] at h ⊢) | (rw [Int.sign_eq_one_of_pos hx] at h ⊢)
  all_goals first
    | (rw [Int.sign_eq_neg_one_of_neg hy] at h ⊢) | (rw [hy] at h ⊢; rw [show (0 : Int).sign = 0 from rfl] at h ⊢) | (rw [Int.sign_eq_one_of_pos hy] at h ⊢)
  all_goals first | (exact absurd rfl h) | omega
def cmpI (x y : Int) : Int := if x < y then -1 else if x = y then 0 else 1
end Go.Proofs.YtjihfabhgcfjnaaGreatDoor
/- Contracts of package whole: Compare. -/
namespace Go.Proofs.YtjihfabhgcfjnaaGreatDoor
set_option linter.unusedVariables false
set_option linter.unusedSimpArgs false
open Go.RowKit

theorem natAbs_size (n : Int) (hs : (intB n).size ≤ 10000000000) : (numB n.natAbs).size ≤ 10000000000 := by
  by_cases h : n < 0
  · have := intB_size_neg n h; omega
  · rw [intB_pos n (by omega)] at hs; rw [show n.natAbs = n.toNat by omega]; exact hs

set_option maxRecDepth 100000 in
set_option maxHeartbeats 800000 in
theorem compare_q (x y : Int) (w : World) (hx : (intB x).size ≤ 10000000000) (hy : (intB y).size ≤ 10000000000) :
    Calls Tryz.prog 131 #[.string (intB x), .string (intB y)] w fun e w' => e = .returned (.int .i64 (cmpI x y)) ∧ ∃ k, w' = w.drewN k := by
  have H1 := Lib.hid (fun W => sign_any x W)
  have H2 := Lib.hid (fun W => sign_any y W)
  have H3 := Lib.hid (fun W => split_q x W)
  have H4 := Lib.hid (fun W => split_q y W)
  have H5 := Lib.hid (fun W => decCompare_any x.natAbs y.natAbs W (natAbs_size x hx) (natAbs_size y hy))
  have H6 := Lib.hid (fun W => decCompare_any y.natAbs x.natAbs W (natAbs_size y hy) (natAbs_size x hx))
  by_cases hs : x.sign = y.sign
  · obtain ⟨s, hsx⟩ : ∃ s, x.sign = s := ⟨_, rfl⟩
    rw [hsx] at H1
    rw [← hs, hsx] at H2
    by_cases hn : x < 0
    · have hyn : y < 0 := by
        rw [Int.sign_eq_neg_one_of_neg hn] at hs
        exact Int.sign_eq_neg_one_iff_neg.1 hs.symm
      have HC : Hid (cmpN y.natAbs x.natAbs = cmpI x y) := by
        unfold Hid cmpN cmpI
        rcases Int.lt_trichotomy x y with h | h | h
        · rw [if_pos (by omega), if_pos h]
        · rw [if_neg (by omega), if_pos (by omega), if_neg (by omega), if_pos h]
        · rw [if_neg (by omega), if_neg (by omega), if_neg (by omega), if_neg (by omega)]
      rw [HC.out] at H6
      have hb : decide (x < 0) = true := decide_eq_true hn
      have hb2 : decide (y < 0) = true := decide_eq_true hyn
      rw [hb] at H3
      rw [hb2] at H4
      have hss : (s != s) = false := by simp
      clear hs hsx hn hyn hb hb2 HC H5
      go_enter Tryz.func131, Tryz.ntmps131
      go_wp2_with fail
      refine (H1.out _).mono ?_
      rintro e w' ⟨rfl, rfl⟩
      clear H1
      go_wp2_with fail
      refine (H2.out _).mono ?_
      rintro e w' ⟨rfl, rfl⟩
      clear H2
      go_wp2_with fail
      refine (H3.out _).mono ?_
      rintro e w1 ⟨rfl, k1, rfl⟩
      clear H3
      go_wp2_with fail
      refine (H4.out _).mono ?_
      rintro e w2 ⟨rfl, k2, rfl⟩
      clear H4
      go_wp2_with fail
      refine (H6.out _).mono ?_
      rintro e w' ⟨rfl, rfl⟩
      clear H6
      go_wp2_with fail
      go_ret
      exact ⟨rfl, _, rfl⟩
    · have hyn : ¬ y < 0 := by
        intro h
        rw [Int.sign_eq_neg_one_of_neg h] at hs
        exact hn (Int.sign_eq_neg_one_iff_neg.1 hs)
      have HC : Hid (cmpN x.natAbs y.natAbs = cmpI x y) := by
        unfold Hid cmpN cmpI
        rcases Int.lt_trichotomy x y with h | h | h
        · rw [if_pos (by omega), if_pos h]
        · rw [if_neg (by omega), if_pos (by omega), if_neg (by omega), if_pos h]
        · rw [if_neg (by omega), if_neg (by omega), if_neg (by omega), if_neg (by omega)]
      rw [HC.out] at H5
      have hb : decide (x < 0) = false := decide_eq_false hn
      have hb2 : decide (y < 0) = false := decide_eq_false hyn
      rw [hb] at H3
      rw [hb2] at H4
      have hss : (s != s) = false := by simp
      clear hs hsx hn hyn hb hb2 HC H6
      go_enter Tryz.func131, Tryz.ntmps131
      go_wp2_with fail
      refine (H1.out _).mono ?_
      rintro e w' ⟨rfl, rfl⟩
      clear H1
      go_wp2_with fail
      refine (H2.out _).mono ?_
      rintro e w' ⟨rfl, rfl⟩
      clear H2
      go_wp2_with fail
      refine (H3.out _).mono ?_
      rintro e w1 ⟨rfl, k1, rfl⟩
      clear H3
      go_wp2_with fail
      refine (H4.out _).mono ?_
      rintro e w2 ⟨rfl, k2, rfl⟩
      clear H4
      go_wp2_with fail
      refine (H5.out _).mono ?_
      rintro e w' ⟨rfl, rfl⟩
      clear H5
      go_wp2_with fail
      go_ret
      exact ⟨rfl, _, rfl⟩
  · obtain ⟨hc1, hc2⟩ := sign_cmp x y hs
    obtain ⟨s, hsx⟩ : ∃ s, x.sign = s := ⟨_, rfl⟩
    obtain ⟨t, hty⟩ : ∃ t, y.sign = t := ⟨_, rfl⟩
    rw [hsx] at H1 hs hc1
    rw [hty] at H2 hs hc1
    have hst : (s != t) = true := by simpa using hs
    clear H3 H4 H5 H6 hsx hty hs
    by_cases hlt : s < t
    · have HC : Hid (cmpI x y = -1) := by unfold Hid cmpI; rw [if_pos (hc1.1 hlt)]
      rw [HC.out]
      clear HC hc1 hc2
      go_enter Tryz.func131, Tryz.ntmps131
      go_wp2_with fail
      refine (H1.out _).mono ?_
      rintro e w' ⟨rfl, rfl⟩
      clear H1
      go_wp2_with fail
      refine (H2.out _).mono ?_
      rintro e w' ⟨rfl, rfl⟩
      clear H2
      go_wp2_with fail
      go_ret
      exact ⟨rfl, 0, rfl⟩
    · have HC : Hid (cmpI x y = 1) := by unfold Hid cmpI; rw [if_neg (fun h => hlt (hc1.2 h)), if_neg hc2]
      rw [HC.out]
      clear HC hc1 hc2
      go_enter Tryz.func131, Tryz.ntmps131
      go_wp2_with fail
      refine (H1.out _).mono ?_
      rintro e w' ⟨rfl, rfl⟩
      clear H1
      go_wp2_with fail
      refine (H2.out _).mono ?_
      rintro e w' ⟨rfl, rfl⟩
      clear H2
      go_wp2_with fail
      go_ret
      exact ⟨rfl, 0, rfl⟩

end Go.Proofs.YtjihfabhgcfjnaaGreatDoor
/- Contracts of package lattice on one row: less, negate, lead. -/
namespace Go.Proofs.YtjihfabhgcfjnaaGreatDoor
set_option linter.unusedVariables false
set_option linter.unusedSimpArgs false
open Go.RowKit

theorem Pow10.below {w w' : World} {base : Nat} (h : Pow10 w) (he : Below base w w') (hb : 2 < base) : Pow10 w' := by
  unfold Pow10 Lib.TabIs at h ⊢
  exact var?_below he (show Tryz.prog.globalNamed "internal/strconv.uint64pow10" = some 2 by kernel_rfl) hb h
theorem GrownS.below {S : Nat → Prop} {w w' : World} {base : Nat} (h : GrownS S w w') (hb : base ≤ w.heap.size) (hS : ∀ k, S k → base ≤ k) : Below base w w' :=
  ⟨h.os, h.tape, h.output, h.size, fun k hk => h.block k (Nat.lt_of_lt_of_le hk hb) (fun hs => absurd (hS k hs) (by omega))⟩
theorem GrownS.setCell {S : Nat → Prop} {w w' : World} (h : GrownS S w w') {g : Nat} (hg : S g) (i : Nat) (v : Value) : GrownS S w (w'.setCell ⟨g, i, none⟩ v) :=
  h.trans (grownBy_S (grown_setCell w' g i v) (fun k hk => by cases hk; exact hg))
theorem GrownS.ext {S : Nat → Prop} {a b c : World} (h : GrownS S a b) (he : Ext b c) : GrownS S a c := h.trans (he.grownS S)
theorem GrownS.ofExt {S : Nat → Prop} {a b : World} (he : Ext a b) : GrownS S a b := he.grownS S

/-- The first j elements less a multiple, the others as they were. -/
def lessP (k : Int) (r s : List Int) (j : Nat) : List Int := (lessL k r s).take j ++ r.drop j
theorem lessP_len (k : Int) (r s : List Int) (j : Nat) : (lessP k r s j).length = r.length := by
  unfold lessP; rw [List.length_append, List.length_take, List.length_drop, lessL_len]; omega
theorem lessP_get (k : Int) (r s : List Int) (j : Nat) (a : Int) (h : r[j]? = some a) : (lessP k r s j)[j]? = some a := by
  unfold lessP
  have hj := (List.getElem?_eq_some_iff.1 h).1
  rw [List.getElem?_append_right (by rw [List.length_take]; omega), List.length_take, lessL_len, List.getElem?_drop]
  rw [show j + (j - min j r.length) = j by omega]; exact h
theorem lessP_set (k : Int) (r s : List Int) (j : Nat) (a b : Int) (h : r[j]? = some a) (h' : s[j]? = some b) : (lessP k r s j).set j (a - k * b) = lessP k r s (j + 1) := by
  have hj := (List.getElem?_eq_some_iff.1 h).1
  have hl := lessL_get k r s j a b h h'
  unfold lessP
  rw [List.take_add_one, hl]
  have hd : r.drop j = a :: r.drop (j + 1) := by
    rw [List.drop_eq_getElem_cons hj]
    congr 1
    exact (List.getElem?_eq_some_iff.1 h).2
  rw [hd, List.set_append_right _ _ (by rw [List.length_take]; omega), List.length_take, lessL_len, show j - min j r.length = 0 by omega]
  simp
theorem lessP_zero (k : Int) (r s : List Int) : lessP k r s 0 = r := by unfold lessP; simp
theorem lessP_all (k : Int) (r s : List Int) (j : Nat) (h : r.length ≤ j) : lessP k r s j = lessL k r s := by
  unfold lessP; rw [List.take_of_length_le (by rw [lessL_len]; exact h), List.drop_eq_nil_of_le h, List.append_nil]

set_option maxRecDepth 100000 in
set_option maxHeartbeats 2000000 in
/-- A row less a multiple of another one, in place. -/
theorem less_any (k : Int) (r s r' : List Int) (g o c gs os cs base : Nat) (w : World) (hr : RowB w g o r) (hs : RowB w gs os s) (hne : gs ≠ g) (hk : lessO k r s = some r')
    (hc : r.length ≤ c) (hc2 : c ≤ maxLen) (hcs : s.length ≤ cs) (hcs2 : cs ≤ maxLen) (ht : Pow10 w) (hb : 2 < base) (hg : base ≤ g) (hbw : base ≤ w.heap.size) :
    Calls Tryz.prog 133 #[.slice (some ⟨g, o, none⟩) r.length c, .string (intB k), .slice (some ⟨gs, os, none⟩) s.length cs] w fun e w' => e = .returned (.tuple #[]) ∧ GrownS (· = g) w w' ∧ RowB w' g o r' := by
  have hz := int_zero k
  unfold lessO at hk
  by_cases h0 : k = 0
  · rw [if_pos h0] at hk
    obtain rfl : r = r' := Option.some.inj hk
    rw [decide_eq_true h0] at hz
    have HR := Lib.hid hr
    clear hk h0 hs hr ht
    go_enter Tryz.func133, Tryz.ntmps133
    go_wp2_with fail
    refine bodyPost_ret (results_none rfl _ _ _) rfl ⟨rfl, GrownS.refl _ _, HR.out⟩
  · rw [if_neg h0] at hk
    rw [decide_eq_false h0] at hz
    by_cases hcond : s.length = r.length ∧ (sm9B k && s.all sm9B && r.all smB) = true
    · rw [if_pos hcond] at hk
      obtain rfl : lessL k r s = r' := Option.some.inj hk
      obtain ⟨hlen, hsm⟩ := hcond
      rw [Bool.and_eq_true, Bool.and_eq_true] at hsm
      have HK9 := Lib.hid (sm9_of hsm.1.1)
      have HS9 := Lib.hid (fun x hx => sm9_of (List.all_eq_true.1 hsm.1.2 x hx))
      have HRS := Lib.hid (fun x hx => sm_of (List.all_eq_true.1 hsm.2 x hx))
      have HR := Lib.hid hr; have HSS := Lib.hid hs; have HT := Lib.hid ht; have HB := Lib.hid hb
      unfold maxLen at hc2 hcs2
      clear hk h0 hsm hr hs ht hb
      have hle1 : s.length ≤ r.length := by omega
      have hle2 : r.length ≤ s.length := by omega
      clear hlen
      go_enter Tryz.func133, Tryz.ntmps133
      go_wp2_with fail
      go_loopw [12] (fun t wr => ∃ j : Nat, j ≤ s.length ∧ t = .int .i64 j ∧ GrownS (· = g) w wr ∧ Hid (RowB wr g o (lessP k r s j))) (fun t _ => s.length - (intOf t).toNat)
      case atStart => exact ⟨0, by omega, rfl, GrownS.refl _ _, by rw [lessP_zero]; exact HR.out⟩
      case round =>
        obtain ⟨j, hj, rfl, hG, HP⟩ := hrel
        obtain ⟨wo, rfl⟩ : ∃ wo : World, wo = wr := ⟨_, rfl⟩
        by_cases hlt : j < s.length
        · obtain ⟨b, hbj⟩ : ∃ b, s[j]? = some b := ⟨s[j], List.getElem?_eq_getElem hlt⟩
          obtain ⟨a, haj⟩ : ∃ a, r[j]? = some a := ⟨r[j]'(by omega), List.getElem?_eq_getElem _⟩
          have hltr : j < r.length := by omega
          have g0 := (HSS.out.grown hG (by exact hne)).cell j b hbj
          have g1 := HP.out.cell j a (lessP_get k r s j a haj)
          have f1 := HP.out.free (o + j)
          have HM : Hid (∀ W, Pow10 W → Calls Tryz.prog 94 #[.string (intB k), .string (intB b)] W fun e w' => e = .returned (.string (intB (k * b))) ∧ Ext W w') := fun W hW => mulZ k b W HK9.out (HS9.out b (List.mem_of_getElem? hbj)) hW
          have HU : Hid (∀ W, Pow10 W → Calls Tryz.prog 158 #[.string (intB a), .string (intB (k * b))] W fun e w' => e = .returned (.string (intB (a - k * b))) ∧ Ext W w') := fun W hW => by
            have h1 := HK9.out.size; have h2 := (HS9.out b (List.mem_of_getElem? hbj)).size; have h3 := mul_size k b
            exact subZ a (k * b) W (HRS.out a (List.mem_of_getElem? haj)) (by omega) hW
          have HTW : Hid (∀ W, Ext wo W → Pow10 W) := fun W hE => (HT.out.below (hG.below hbw (fun q hq => by cases hq; exact hg)) HB.out).ext hE
          have HSET : Hid (∀ W, Ext wo W → RowB (W.setCell ⟨g, o + j, none⟩ (.string (intB (a - k * b)))) g o (lessP k r s (j + 1))) := fun W hE => by
            rw [← lessP_set k r s j a b haj hbj]
            exact (HP.out.ext hE).set j (by rw [lessP_len]; exact hltr) _
          have HPX : Hid (∀ W, Ext wo W → RowB W g o (lessP k r s j)) := fun W hE => HP.out.ext hE
          have HG := Lib.hid hG
          clear hbj haj hG
          go_upto_region 4 with fail
          go_region_with (first
            | (go_at_call 94; refine (HM.out _ (HTW.out _ (Ext.drew _))).mono ?_; rintro e w5 ⟨rfl, hE5⟩; have HE5 := Lib.hid (Ext.trans (Ext.drew wo) hE5); have g5 := hE5.cell (a := ⟨g, o + j, none⟩) g1; clear hE5)
            | (go_at_call 158; refine (HU.out _ (HTW.out _ HE5.out)).mono ?_; rintro e w6 ⟨rfl, hE6⟩; have HE6 := Lib.hid (Ext.trans HE5.out hE6); have g6 := hE6.cell (a := ⟨g, o + j, none⟩) g5; have f6 := (HPX.out _ HE6.out).free (o + j); clear hE6))
          all_goals
            go_wp2_with fail
            go_roundw
            case rel => exact ⟨j + 1, by omega, by go_num, (HG.out.ext HE6.out).setCell rfl _ _, HSET.out _ HE6.out⟩
            case measure => simp [intOf]; omega
        · have HF : Hid (RowB wo g o (lessL k r s)) := by
            unfold Hid; rw [← lessP_all k r s j (by omega)]; exact HP.out
          have HG := Lib.hid hG
          clear hG
          go_wp2_with fail
          refine bodyPost_end (results_none rfl _ _ _) rfl ⟨rfl, HG.out, HF.out⟩
    · rw [if_neg hcond] at hk; cases hk
end Go.Proofs.YtjihfabhgcfjnaaGreatDoor
