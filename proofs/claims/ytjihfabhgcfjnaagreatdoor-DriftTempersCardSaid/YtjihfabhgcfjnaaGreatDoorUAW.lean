/- Merged: KerR, SetLaw, MakesLaw, LatB, WholeSub, WholeZ, Whole3. -/
import Derived.Test.YtjihfabhgcfjnaaGreatDoorUAV
import Derived.RangeFuncNested
import Derived.RangeFuncBound
import Derived.RangeFuncCalls
import Derived.RangeFuncLeaves
import Derived.Shelf.Abstract
import Derived.Shelf.RegionOpen
import Derived.WalkKit
import Derived.OwnWalkIn
import Derived.TacticsInMore
import Derived.LoopNIn
import Derived.LoopIn
import Derived.RangeFuncBox
import Derived.Test.YtjihfabhgcfjnaaGreatDoorUAA
import Derived.Test.YtjihfabhgcfjnaaGreatDoorUAU
import Derived.Test.YtjihfabhgcfjnaaGreatDoorUAE
import Derived.Test.YtjihfabhgcfjnaaGreatDoorUAM
/- More fuel does no harm; annihilators; minors of a saturation. No program is named here. -/
namespace Go.Proofs.YtjihfabhgcfjnaaGreatDoor
set_option linter.unusedVariables false
set_option linter.unusedSimpArgs false
open Go.RowKit

theorem sweepO_mono {n c d : Nat} : ∀ {F F' : Nat} {m : List (List Int)} {r : List (List Int) × Bool}, F ≤ F' → sweepO n c d F m = some r → sweepO n c d F' m = some r
  | 0, _, m, r, _, h => by rw [sweepO] at h; cases h
  | F + 1, 0, m, r, hl, _ => by omega
  | F + 1, F' + 1, m, r, hl, h => by
    rw [sweepO] at h ⊢
    by_cases ho : okM n m = true
    · rw [if_pos ho] at h ⊢
      cases hb : bestO c d m (m.length - d) with
      | none => rw [hb] at h; exact h
      | some a =>
        rw [hb] at h
        simp only at h ⊢
        cases hdn : downO c d (swapL m d a) (m.length - (d + 1)) with
        | none => rw [hdn] at h; cases h
        | some p =>
          obtain ⟨m2, rest⟩ := p
          rw [hdn] at h
          cases rest with
          | true => exact sweepO_mono (by omega) h
          | false => exact h
    · rw [if_neg ho] at h; cases h
theorem colsO_mono {n F F' : Nat} (hl : F ≤ F') : ∀ {k c d : Nat} {m : List (List Int)} {r : List (List Int) × Nat}, colsO n F k c d m = some r → colsO n F' k c d m = some r
  | 0, c, d, m, r, h => by rw [colsO] at h ⊢; exact h
  | k + 1, c, d, m, r, h => by
    rw [colsO] at h ⊢
    by_cases hd : d < m.length
    · rw [if_pos hd] at h ⊢
      cases hs : sweepO n c d F m with
      | none => rw [hs] at h; cases h
      | some p =>
        rw [hs] at h
        rw [sweepO_mono hl hs]
        exact colsO_mono hl h
    · rw [if_neg hd] at h ⊢; exact h
theorem formO_mono {n F F' cols : Nat} {m R : List (List Int)} (hl : F ≤ F') (h : formO n F cols m = some R) : formO n F' cols m = some R := by
  unfold formO at h ⊢
  cases hc : colsO n F cols 0 0 m with
  | none => rw [hc] at h; cases h
  | some p => rw [hc] at h; rw [colsO_mono hl hc]; exact h
theorem okM_of' {n : Nat} {m : List (List Int)} {b : Nat} (hw : ∀ x ∈ m, x.length = n) (hb : ∀ x ∈ m, RowLe (10 ^ b) x) (hs : b + 1 ≤ 1000000000) : okM n m = true := by
  unfold okM
  rw [List.all_eq_true]
  intro x hx
  rw [Bool.and_eq_true, decide_eq_true_iff]
  refine ⟨hw x hx, ?_⟩
  rw [List.all_eq_true]
  exact fun y hy => smB_of hs (by omega) (Nat.lt_of_le_of_lt (hb x hx y hy) (Nat.pow_lt_pow_right (by decide) (by omega)))
theorem wide_le {n N : Nat} {m : List (List Int)} (h1 : 1 ≤ N) (hb : ∀ x ∈ m, RowLe N x) : ∀ x ∈ wideL n m, RowLe N x := by
  intro x hx y hy
  unfold wideL at hx
  obtain ⟨c, hc, rfl⟩ := List.mem_map.1 hx
  rcases List.mem_append.1 hy with hy | hy
  · obtain ⟨r, hr, rfl⟩ := List.mem_map.1 hy
    exact (hb r hr).getD c
  · rcases List.mem_or_eq_of_mem_set hy with hy | hy
    · rw [(List.mem_replicate.1 hy).2]; simp
    · rw [hy]; simpa using h1
/-- Lattices of the same annihilator. -/
theorem ann_iff {n : Nat} {m B : List (List Int)} (hm : Wid n m) (hB : Wid n B) (hs : SpEq n (RowsFrom 0 m) (RowsFrom 0 B)) (v : List Int) : Ann n m v ↔ Ann n B v := by
  have key : ∀ {m B : List (List Int)}, Wid n m → Wid n B → SpEq n (RowsFrom 0 m) (RowsFrom 0 B) → Ann n m v → Ann n B v := by
    intro m B hm hB hs hv
    refine ⟨hv.1, fun i hi => ?_⟩
    have h := hs.2 _ (rowsFrom_mem (Nat.zero_le i) hi)
    have hl := rowsFrom_len (d := 0) hm
    generalize rowE_ B i = r at h
    induction h with
    | zero => rw [dotZ_comm, dotZ_zero]
    | mem h => obtain ⟨j, -, hj, rfl⟩ := h; exact hv.2 j hj
    | less q a b iha ihb => rw [dotZ_comm, dotZ_less _ _ (by rw [a.len hl, b.len hl]), dotZ_comm, dotZ_comm v, iha, ihb]; simp
  exact ⟨key hm hB hs, key hB hm hs.symm⟩
theorem ann_sp {n : Nat} {m : List (List Int)} (hm : Wid n m) {r v : List Int} (hr : Sp n (RowsFrom 0 m) r) (hv : Ann n m v) : dotZ r v n = 0 := by
  have hl := rowsFrom_len (d := 0) hm
  induction hr with
  | zero => rw [dotZ_comm, dotZ_zero]
  | mem h => obtain ⟨j, -, hj, rfl⟩ := h; exact hv.2 j hj
  | less q a b iha ihb => rw [dotZ_comm, dotZ_less _ _ (by rw [a.len hl, b.len hl]), dotZ_comm, dotZ_comm v, iha, ihb]; simp
/-- Rows with a multiple in the lattice. -/
def Sat (n : Nat) (m : List (List Int)) (v : List Int) : Prop := v.length = n ∧ ∃ D : Int, D ≠ 0 ∧ Sp n (RowsFrom 0 m) (smulL D v)

/-- The minors of a form that holds rows, and of which multiples are among them, are bounded by those of the rows. -/
theorem scaled_minor {n : Nat} {m S : List (List Int)} {ps : Nat → Nat} (hS : HForm n S ps) (hm : Wid n m) (hD : ∀ i, i < S.length → ∃ D : Int, D ≠ 0 ∧ Sp n (RowsFrom 0 m) (smulL D (rowE_ S i))) : ∃ V : Nat → List Int, (∀ a, a < S.length → RowsFrom 0 m (V a)) ∧ phi S.length ps V ≠ 0 := by
  refine Classical.byContradiction fun hno => ?_
  have hall : ∀ V : Nat → List Int, (∀ a, a < S.length → RowsFrom 0 m (V a)) → phi S.length ps V = 0 := fun V hV => Classical.byContradiction fun h => hno ⟨V, hV, h⟩
  have hf : ∃ D : Nat → Int, ∀ i, i < S.length → D i ≠ 0 ∧ Sp n (RowsFrom 0 m) (smulL (D i) (rowE_ S i)) := ⟨fun i => if h : i < S.length then Classical.choose (hD i h) else 0, fun i hi => by
    simp only [dif_pos hi]; exact Classical.choose_spec (hD i hi)⟩
  obtain ⟨D, hDD⟩ := hf
  have h0 : phi S.length ps (fun a => smulL (D a) (rowE_ S a)) = 0 := alt_all (Q := fun x => x = 0) (phi_alt n S.length ps) clo_zero (rowsFrom_len hm) hall S.length (Nat.le_refl _) _ (fun a ha => (hDD a ha).2) fun a h1 h2 => by omega
  have hA := phi_alt n S.length ps
  have key : ∀ j, j ≤ S.length → phi S.length ps (fun a => if a < j then rowE_ S a else smulL (D a) (rowE_ S a)) = 0 := by
    intro j
    induction j with
    | zero => intro _; rw [← h0]; exact hA.ext _ _ fun a _ => if_neg (by omega)
    | succ j ih =>
      intro hj
      have hi := ih (by omega)
      have e := hA.lin (fun a => if a < j then rowE_ S a else smulL (D a) (rowE_ S a)) j (List.replicate n 0) (rowE_ S j) (-(D j)) (by omega) (by rw [hS.1 j (by omega)]; simp)
      rw [hA.zero _ j (by omega)] at e
      have e1 : lessL (-(D j)) (List.replicate n 0) (rowE_ S j) = smulL (D j) (rowE_ S j) := by
        refine ext_getD (by rw [lessL_len, smulL_len, hS.1 j (by omega)]; simp) fun c => ?_
        rw [lessL_getD _ (by rw [hS.1 j (by omega)]; simp), repl_getD, smulL_getD, Int.neg_mul]; omega
      rw [e1] at e
      have e2 : updV (fun a => if a < j then rowE_ S a else smulL (D a) (rowE_ S a)) j (smulL (D j) (rowE_ S j)) = fun a => if a < j then rowE_ S a else smulL (D a) (rowE_ S a) := by
        funext a; unfold updV
        by_cases ha : a = j
        · rw [if_pos ha, if_neg (by omega), ha]
        · rw [if_neg ha]
      rw [e2, hi] at e
      have e3 : updV (fun a => if a < j then rowE_ S a else smulL (D a) (rowE_ S a)) j (rowE_ S j) = fun a => if a < j + 1 then rowE_ S a else smulL (D a) (rowE_ S a) := by
        funext a; unfold updV
        by_cases ha : a = j
        · rw [if_pos ha, if_pos (by omega), ha]
        · rw [if_neg ha]
          show (if a < j then rowE_ S a else smulL (D a) (rowE_ S a)) = _
          by_cases h2 : a < j
          · rw [if_pos h2, if_pos (by omega)]
          · rw [if_neg h2, if_neg (by omega)]
      rw [e3] at e
      have hne : ((D j : Int) : Rat) ≠ 0 := fun hz => (hDD j (by omega)).1 (by exact_mod_cast hz)
      rcases Rat.mul_eq_zero.1 (by rw [Rat.intCast_neg] at e; grind : ((D j : Int) : Rat) * phi S.length ps (fun a => if a < j + 1 then rowE_ S a else smulL (D a) (rowE_ S a)) = 0) with h | h
      · exact absurd h hne
      · exact h
  have h1 := key S.length (Nat.le_refl _)
  rw [hA.ext _ (rowE_ S) fun a ha => if_pos ha, phi_piv hS _ (Nat.le_refl _)] at h1
  have hp := (prodP_pos hS _ (Nat.le_refl S.length)).1
  have : prodP S ps S.length = 0 := by exact_mod_cast h1
  omega
end Go.Proofs.YtjihfabhgcfjnaaGreatDoor
/- A range over a function whose iterator keeps a row of ints of its own, which it hands to each round and writes between two rounds. -/
namespace Go.Proofs.YtjihfabhgcfjnaaGreatDoor
set_option linter.unusedVariables false
set_option linter.unusedSimpArgs false
open Go.RowKit Go.Shelf

/-- Blocks of cells of a type lie as they lay. -/
structure KeepT (T : TypeId) (A B : World) : Prop where
  size : A.heap.size ≤ B.heap.size
  same : ∀ (b : Nat) C fr, A.heap[b]? = some (.cells C T fr) → B.heap[b]? = some (.cells C T fr)
theorem KeepT.refl (T : TypeId) (A : World) : KeepT T A A := ⟨Nat.le_refl _, fun _ _ _ h => h⟩
theorem KeepT.trans {T : TypeId} {A B C : World} (h : KeepT T A B) (k : KeepT T B C) : KeepT T A C := ⟨Nat.le_trans h.size k.size, fun b C fr hb => k.same b C fr (h.same b C fr hb)⟩
/-- A row of numbers in a block of its own. -/
structure SetAt (T : TypeId) (W : World) (v : Value) (s : List Nat) : Prop where
  at_ : ∃ g C fr, v = .slice (some ⟨g, 0, none⟩) s.length s.length ∧ W.heap[g]? = some (.cells C T fr) ∧ ∀ (j : Nat) x, s[j]? = some x → W.cell? ⟨g, j, none⟩ = some (.int .i64 (x : Int))
theorem SetAt.keep {T : TypeId} {W W' : World} {v : Value} {s : List Nat} (h : SetAt T W v s) (hk : KeepT T W W') : SetAt T W' v s := by
  obtain ⟨g, C, fr, h1, h2, h3⟩ := h.at_
  refine ⟨g, C, fr, h1, hk.same g C fr h2, fun j x hx => ?_⟩
  have hb : W'.heap[g]? = W.heap[g]? := (hk.same g C fr h2).trans h2.symm
  have := h3 j x hx
  unfold World.cell? at this ⊢
  rw [hb]; exact this
end Go.Proofs.YtjihfabhgcfjnaaGreatDoor
/- A range over a function whose iterator adds to memory at most. -/
namespace Go.Proofs.YtjihfabhgcfjnaaGreatDoor
set_option linter.unusedVariables false
set_option linter.unusedSimpArgs false
open Go.RowKit Go.Shelf

/-- What may turn about an invariant: blocks from B on that are no cells. -/
def AbR {β : Type} (B : Nat) (J : β → World → Prop) : Prop :=
  ∀ s W W' row, J s W → W.grownBy W' row → (∀ r, row = some r → B ≤ r ∧ ∃ o : Obj, W.heap[r]? = some o ∧ o.isCells = false) → J s W'
theorem AbR.ext {β : Type} {B : Nat} {J : β → World → Prop} (h : AbR B J) {s : β} {W W' : World} (hj : J s W) (he : Ext W W') : J s W' :=
  h s W W' none hj ⟨he.os, he.tape, he.output, he.size, fun k hk _ => he.block k hk⟩ (fun r e => by cases e)
end Go.Proofs.YtjihfabhgcfjnaaGreatDoor
/- Contract of lattice.checkBoth. -/
namespace Go.Proofs.YtjihfabhgcfjnaaGreatDoor
set_option linter.unusedVariables false
set_option linter.unusedSimpArgs false
open Go.RowKit

theorem lat_block {w : World} {B : Nat} {x y : Value} (h : w.heap[B]? = some (.cells #[x, y] 31 (0, 0))) : w.cell? ⟨B, 0, none⟩ = some x ∧ w.cell? ⟨B, 1, none⟩ = some y ∧ ∀ i, w.frozen? ⟨B, i, none⟩ = false := by
  have c0 := block_cell h 0; have c1 := block_cell h 1
  simp only [List.getElem?_toArray, List.getElem?_cons_zero, List.getElem?_cons_succ] at c0 c1
  exact ⟨c0, c1, fun i => block_free h i⟩
theorem lat_store {w : World} {B : Nat} {x y : Value} (h : w.heap[B]? = some (.cells #[x, y] 31 (0, 0))) (a b : Value) : ((w.setCell ⟨B, 0, none⟩ a).setCell ⟨B, 1, none⟩ b).heap[B]? = some (.cells #[a, b] 31 (0, 0)) := by
  have := block_set (block_set h 0 a) 1 b
  simpa using this
theorem lat_new (w : World) (x y : Value) : ∃ W, w.alloc (.cells #[x, y] 31) = W ∧ Ext w W ∧ W.heap.size = w.heap.size + 1 ∧ W.heap[w.heap.size]? = some (.cells #[x, y] 31 (0, 0)) := ⟨_, rfl, Ext.alloc _ _, by simp, block_new _ _ _⟩
theorem ext_lat {w W : World} {B : Nat} (hE : Ext w W) (hB : w.heap.size ≤ B) (a b : Value) : Ext w ((W.setCell ⟨B, 0, none⟩ a).setCell ⟨B, 1, none⟩ b) :=
  Below.setCell (Below.setCell hE hB _) hB _

end Go.Proofs.YtjihfabhgcfjnaaGreatDoor
/- Contract of whole.Sub at integers of any size. -/
namespace Go.Proofs.YtjihfabhgcfjnaaGreatDoor
set_option linter.unusedVariables false
set_option linter.unusedSimpArgs false
open Go.RowKit

set_option maxRecDepth 100000 in
set_option maxHeartbeats 400000 in
theorem subI_any (x y : Int) (w : World) (hx : (intB x).size ≤ 2800000000) (hy : (intB y).size ≤ 2800000000) (ht : Pow10 w) :
    Calls Tryz.prog 158 #[.string (intB x), .string (intB y)] w fun e w' => e = .returned (.string (intB (x - y))) ∧ Ext w w' := by
  have HN := Lib.hid (neg_any y w (by omega))
  have hny : (intB (-y)).size ≤ 2900000000 := by
    have h1 := intB_size_le (-y)
    have h2 := natAbs_le y
    rw [Int.natAbs_neg] at h1
    omega
  have HA : Hid (∀ W, Ext w W → Calls Tryz.prog 118 #[.string (intB x), .string (intB (-y))] W fun e w' => e = .returned (.string (intB (x + -y))) ∧ Ext W w') := fun W hE => addI_any x (-y) W (by omega) hny (ht.ext hE)
  rw [show x + -y = x - y by omega] at HA
  clear ht hx hy hny
  go_enter Tryz.func158, Tryz.ntmps158
  go_wp2_with fail
  refine HN.out.mono ?_
  rintro e w0 ⟨rfl, hE0⟩
  have HE0 := Lib.hid hE0
  clear HN hE0
  go_wp2_with fail
  refine (HA.out _ HE0.out).mono ?_
  rintro e w1 ⟨rfl, hE1⟩
  have HE1 := Lib.hid (Ext.trans HE0.out hE1)
  clear hE1 HA
  go_wp2_with fail
  go_ret
  exact ⟨rfl, HE1.out⟩
end Go.Proofs.YtjihfabhgcfjnaaGreatDoor
/- Package whole at the numbers of the lattice's forms: bounds on their sizes; contracts handed on. -/
namespace Go.Proofs.YtjihfabhgcfjnaaGreatDoor
set_option linter.unusedVariables false
set_option linter.unusedSimpArgs false
open Go.RowKit

def Sz (n : Int) : Prop := (numB n.natAbs).size ≤ 1000000000
def Sz9 (n : Int) : Prop := (numB n.natAbs).size ≤ 400000000
theorem sm_of {n : Int} (h : smB n = true) : Sz n := (smB_iff n).1 h
theorem sm9_of {n : Int} (h : sm9B n = true) : Sz9 n := (sm9B_iff n).1 h
theorem Sz.size {n : Int} (h : Sz n) : (intB n).size ≤ 1000000001 := by
  unfold Sz at h; have := intB_size_le n; omega
theorem Sz9.size {n : Int} (h : Sz9 n) : (intB n).size ≤ 400000001 := by
  unfold Sz9 at h; have := intB_size_le n; omega
theorem Sz.natAbs {n : Int} (h : Sz n) : Sz (n.natAbs : Int) := by
  unfold Sz at h ⊢; rw [Int.natAbs_natCast]; exact h
theorem Sz.neg {n : Int} (h : Sz n) : Sz (-n) := by
  unfold Sz at h ⊢; rw [Int.natAbs_neg]; exact h
theorem mul_size (x y : Int) : (intB (x * y)).size ≤ (intB x).size + (intB y).size + 1 := by
  have h1 := intB_size_le (x * y)
  have h2 := natAbs_le x
  have h3 := natAbs_le y
  have h4 := num_mul_size x.natAbs y.natAbs
  rw [Int.natAbs_mul] at h1
  omega
theorem mulZ (x y : Int) (w : World) (hx : Sz9 x) (hy : Sz9 y) (ht : Pow10 w) :
    Calls Tryz.prog 94 #[.string (intB x), .string (intB y)] w fun e w' => e = .returned (.string (intB (x * y))) ∧ Ext w w' :=
  mulI_any x y w (by have := hx.size; omega) (by have := hy.size; omega) ht
theorem subZ (x y : Int) (w : World) (hx : Sz x) (hy : (intB y).size ≤ 1000000001) (ht : Pow10 w) :
    Calls Tryz.prog 158 #[.string (intB x), .string (intB y)] w fun e w' => e = .returned (.string (intB (x - y))) ∧ Ext w w' :=
  subI_any x y w (by have := hx.size; omega) (by omega) ht
theorem divModZ (x y : Int) (w : World) (hx : Sz x) (hy : Sz y) (h0 : y ≠ 0) (ht : Pow10 w) :
    Calls Tryz.prog 96 #[.string (intB x), .string (intB y)] w fun e w' => e = .returned (.tuple #[.string (intB (fdq x y)), .string (intB (fdr x y)), .int .i64 0]) ∧ Ext w w' :=
  divModI_any x y w (by have := hx.size; omega) (by have := hy.size; omega) h0 ht
theorem sign_cmp (x y : Int) (h : x.sign ≠ y.sign) : (x.sign < y.sign ↔ x < y) ∧ x ≠ y := by
  rcases Int.lt_trichotomy x 0 with hx | hx | hx <;> rcases Int.lt_trichotomy y 0 with hy | hy | hy
  all_goals first
    | (rw [Int.sign_eq_neg_one_of_neg hx] at h ⊢) | (rw [hx] at h ⊢; rw [show (0 : Int).sign = 0 from rfl] at h ⊢) | (rw [Int.sign_eq_one_of_pos hx] at h ⊢)
  all_goals first
    | (rw [Int.sign_eq_neg_one_of_neg hy] at h ⊢) | (rw [hy] at h ⊢; rw [show (0 : Int).sign = 0 from rfl] at h ⊢) | (rw [Int.sign_eq_one_of_pos hy] at h ⊢)
  all_goals first | (exact absurd rfl h) | omega
def cmpI (x y : Int) : Int := if x < y then -1 else if x = y then 0 else 1
end Go.Proofs.YtjihfabhgcfjnaaGreatDoor
/- Contracts of package whole: Compare. -/
namespace Go.Proofs.YtjihfabhgcfjnaaGreatDoor
set_option linter.unusedVariables false
set_option linter.unusedSimpArgs false
open Go.RowKit

theorem natAbs_size (n : Int) (hs : (intB n).size ≤ 10000000000) : (numB n.natAbs).size ≤ 10000000000 := by
  by_cases h : n < 0
  · have := intB_size_neg n h; omega
  · rw [intB_pos n (by omega)] at hs; rw [show n.natAbs = n.toNat by omega]; exact hs

set_option maxRecDepth 100000 in
set_option maxHeartbeats 800000 in
theorem compare_q (x y : Int) (w : World) (hx : (intB x).size ≤ 10000000000) (hy : (intB y).size ≤ 10000000000) :
    Calls Tryz.prog 131 #[.string (intB x), .string (intB y)] w fun e w' => e = .returned (.int .i64 (cmpI x y)) ∧ ∃ k, w' = w.drewN k := by
  have H1 := Lib.hid (fun W => sign_any x W)
  have H2 := Lib.hid (fun W => sign_any y W)
  have H3 := Lib.hid (fun W => split_q x W)
  have H4 := Lib.hid (fun W => split_q y W)
  have H5 := Lib.hid (fun W => decCompare_any x.natAbs y.natAbs W (natAbs_size x hx) (natAbs_size y hy))
  have H6 := Lib.hid (fun W => decCompare_any y.natAbs x.natAbs W (natAbs_size y hy) (natAbs_size x hx))
  by_cases hs : x.sign = y.sign
  · obtain ⟨s, hsx⟩ : ∃ s, x.sign = s := ⟨_, rfl⟩
    rw [hsx] at H1
    rw [← hs, hsx] at H2
    by_cases hn : x < 0
    · have hyn : y < 0 := by
        rw [Int.sign_eq_neg_one_of_neg hn] at hs
        exact Int.sign_eq_neg_one_iff_neg.1 hs.symm
      have HC : Hid (cmpN y.natAbs x.natAbs = cmpI x y) := by
        unfold Hid cmpN cmpI
        rcases Int.lt_trichotomy x y with h | h | h
        · rw [if_pos (by omega), if_pos h]
        · rw [if_neg (by omega), if_pos (by omega), if_neg (by omega), if_pos h]
        · rw [if_neg (by omega), if_neg (by omega), if_neg (by omega), if_neg (by omega)]
      rw [HC.out] at H6
      have hb : decide (x < 0) = true := decide_eq_true hn
      have hb2 : decide (y < 0) = true := decide_eq_true hyn
      rw [hb] at H3
      rw [hb2] at H4
      have hss : (s != s) = false := by simp
      clear hs hsx hn hyn hb hb2 HC H5
      go_enter Tryz.func131, Tryz.ntmps131
      go_wp2_with fail
      refine (H1.out _).mono ?_
      rintro e w' ⟨rfl, rfl⟩
      clear H1
      go_wp2_with fail
      refine (H2.out _).mono ?_
      rintro e w' ⟨rfl, rfl⟩
      clear H2
      go_wp2_with fail
      refine (H3.out _).mono ?_
      rintro e w1 ⟨rfl, k1, rfl⟩
      clear H3
      go_wp2_with fail
      refine (H4.out _).mono ?_
      rintro e w2 ⟨rfl, k2, rfl⟩
      clear H4
      go_wp2_with fail
      refine (H6.out _).mono ?_
      rintro e w' ⟨rfl, rfl⟩
      clear H6
      go_wp2_with fail
      go_ret
      exact ⟨rfl, _, rfl⟩
    · have hyn : ¬ y < 0 := by
        intro h
        rw [Int.sign_eq_neg_one_of_neg h] at hs
        exact hn (Int.sign_eq_neg_one_iff_neg.1 hs)
      have HC : Hid (cmpN x.natAbs y.natAbs = cmpI x y) := by
        unfold Hid cmpN cmpI
        rcases Int.lt_trichotomy x y with h | h | h
        · rw [if_pos (by omega), if_pos h]
        · rw [if_neg (by omega), if_pos (by omega), if_neg (by omega), if_pos h]
        · rw [if_neg (by omega), if_neg (by omega), if_neg (by omega), if_neg (by omega)]
      rw [HC.out] at H5
      have hb : decide (x < 0) = false := decide_eq_false hn
      have hb2 : decide (y < 0) = false := decide_eq_false hyn
      rw [hb] at H3
      rw [hb2] at H4
      have hss : (s != s) = false := by simp
      clear hs hsx hn hyn hb hb2 HC H6
      go_enter Tryz.func131, Tryz.ntmps131
      go_wp2_with fail
      refine (H1.out _).mono ?_
      rintro e w' ⟨rfl, rfl⟩
      clear H1
      go_wp2_with fail
      refine (H2.out _).mono ?_
      rintro e w' ⟨rfl, rfl⟩
      clear H2
      go_wp2_with fail
      refine (H3.out _).mono ?_
      rintro e w1 ⟨rfl, k1, rfl⟩
      clear H3
      go_wp2_with fail
      refine (H4.out _).mono ?_
      rintro e w2 ⟨rfl, k2, rfl⟩
      clear H4
      go_wp2_with fail
      refine (H5.out _).mono ?_
      rintro e w' ⟨rfl, rfl⟩
      clear H5
      go_wp2_with fail
      go_ret
      exact ⟨rfl, _, rfl⟩
  · obtain ⟨hc1, hc2⟩ := sign_cmp x y hs
    obtain ⟨s, hsx⟩ : ∃ s, x.sign = s := ⟨_, rfl⟩
    obtain ⟨t, hty⟩ : ∃ t, y.sign = t := ⟨_, rfl⟩
    rw [hsx] at H1 hs hc1
    rw [hty] at H2 hs hc1
    have hst : (s != t) = true := by simpa using hs
    clear H3 H4 H5 H6 hsx hty hs
    by_cases hlt : s < t
    · have HC : Hid (cmpI x y = -1) := by unfold Hid cmpI; rw [if_pos (hc1.1 hlt)]
      rw [HC.out]
      clear HC hc1 hc2
      go_enter Tryz.func131, Tryz.ntmps131
      go_wp2_with fail
      refine (H1.out _).mono ?_
      rintro e w' ⟨rfl, rfl⟩
      clear H1
      go_wp2_with fail
      refine (H2.out _).mono ?_
      rintro e w' ⟨rfl, rfl⟩
      clear H2
      go_wp2_with fail
      go_ret
      exact ⟨rfl, 0, rfl⟩
    · have HC : Hid (cmpI x y = 1) := by unfold Hid cmpI; rw [if_neg (fun h => hlt (hc1.2 h)), if_neg hc2]
      rw [HC.out]
      clear HC hc1 hc2
      go_enter Tryz.func131, Tryz.ntmps131
      go_wp2_with fail
      refine (H1.out _).mono ?_
      rintro e w' ⟨rfl, rfl⟩
      clear H1
      go_wp2_with fail
      refine (H2.out _).mono ?_
      rintro e w' ⟨rfl, rfl⟩
      clear H2
      go_wp2_with fail
      go_ret
      exact ⟨rfl, 0, rfl⟩

end Go.Proofs.YtjihfabhgcfjnaaGreatDoor
