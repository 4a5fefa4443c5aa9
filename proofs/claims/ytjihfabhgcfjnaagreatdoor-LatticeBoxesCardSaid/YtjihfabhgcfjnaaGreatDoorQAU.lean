/- Merged: Round, RedW. -/
import Derived.Test.YtjihfabhgcfjnaaGreatDoorQAN
import Derived.Test.YtjihfabhgcfjnaaGreatDoorQAT
import Derived.Test.YtjihfabhgcfjnaaGreatDoorQAK
/- In a round of a loop over a function every operation but a defer goes as outside (at the wide fence): laws of the open walk serve there. -/
namespace Go.Proofs.YtjihfabhgcfjnaaGreatDoor
set_option linter.unusedVariables false
set_option linter.unusedSimpArgs false
open Go.RowKit Go.Shelf

theorem Oper.wpIn_of_wp {P : Program} {l n : Nat} {o : Oper} {a : Act} {w : World} {K : Act → World → Prop} {Q : Exit → Act → World → Prop} (h1 : ∀ c, o.op ≠ .defer c) (h : o.wp P a w K Q) : o.wpIn (Fence.wide.inRound l) n P a w K Q := by
  unfold Oper.wp at h
  unfold Oper.wpIn
  refine ⟨fun _ _ => trivial, ?_⟩
  rw [show (Fence.wide.inRound l).round = some l from rfl, Oper.semAt_eq _ _ _ h1]
  generalize (execOp a.eval o).run P w = r at *
  have hd : (Fence.wide.inRound l).depth.isSome = true → 1 ≤ n := fun e => by simp [Fence.wide] at e
  cases r with
  | ok x w' =>
    cases x with
    | enter f args => exact ⟨hd, CallsIn.inRound l (callsIn_wide.2 h)⟩
    | row r args =>
      refine ⟨hd, fun c cs _ => ?_⟩
      obtain ⟨v, w2, hr, hs⟩ := h c cs
      exact ⟨v, w2, hr, stepsIn_wide.2 hs⟩
    | _ => first | exact h | exact False.elim h
  | halt x w' => cases x <;> first | exact h | exact False.elim h
/-- No operation is a defer. -/
def noDefer (ops : Array Oper) : Bool := ops.all fun o => match o.op with | .defer _ => false | _ => true
theorem noDefer_spec {ops : Array Oper} (h : noDefer ops = true) {i : Nat} {o : Oper} (hi : ops[i]? = some o) : ∀ c, o.op ≠ .defer c := by
  intro c hc
  have := Array.all_eq_true_iff_forall_mem.1 h o (Array.mem_of_getElem? hi)
  rw [hc] at this
  cases this
theorem wpOpIn_of_wpOp {P : Program} {l n : Nat} {ops : Array Oper} {Q : Exit → Act → World → Prop} (hn : noDefer ops = true) (hq : ¬ LetsOut Q) {i : Nat} {K : Act → World → Prop} {a : Act} {w : World} (h : wpOp P ops Q i K a w) : wpOpIn (Fence.wide.inRound l) n P ops Q i K a w := by
  unfold wpOp at h
  unfold wpOpIn
  cases hi : ops[i]? with
  | none => simpa [hi] using h
  | some o =>
    simp only [hi] at h ⊢
    split
    · rename_i hw
      simp only [hw, if_true] at h
      rcases h with h | ⟨-, h⟩
      · exact Oper.wpIn_of_wp (noDefer_spec hn hi) h
      · exact absurd h hq
    · rename_i hw
      simp only [hw] at h
      exact ⟨fun _ _ => trivial, h⟩
theorem wpAnyIn_of_wpAny {P : Program} {l n : Nat} {md : Region.Mode} {ops : Array Oper} {Q : Exit → Act → World → Prop} (hn : noDefer ops = true) (hq : ¬ LetsOut Q) : ∀ (f : Nat) (ls : Array Bool) (a : Act) (w : World), wpAny P md ops Q f ls a w → wpAnyIn (Fence.wide.inRound l) n P md ops Q f ls a w
  | 0, ls, a, w, h => h
  | f + 1, ls, a, w, h => ⟨h.1, fun i hi => wpOpIn_of_wpOp hn hq (wpOp_mono (fun a w k => wpAnyIn_of_wpAny hn hq f _ a w k) (h.2 i hi))⟩
/-- A drawn region in a round, by the open walk's law. -/
theorem regionIn_anyE {P : Program} {l n : Nat} {ops : Array Oper} {Q : Exit → Act → World → Prop} (S : World → Prop) (z : Nat) {id : Nat} {a : Act} {w : World} (hm : P.follows .mixedOrders = true) (hn : noDefer ops = true) (hq : ¬ LetsOut Q) (hS : S w.drew)
    (h : S w.drew → anyE P .any ops Q S z ops.size (Array.replicate ops.size false) a w.drew) : (Code.region id ops true).wpIn (Fence.wide.inRound l) n P Q a w :=
  wpIn_region_any hm (wpAnyIn_of_wpAny hn hq _ _ _ _ (anyE_any _ _ _ _ (h hS)))
/-- An operation in a round, by the open walk's law. -/
theorem wpListIn_of_wp {P : Program} {l n : Nat} {ops : Array Oper} {rest : List Oper} {o : Oper} {a : Act} {w : World} {Q : Exit → Act → World → Prop} (hg : o.guard = none) (hd : ∀ c, o.op ≠ .defer c)
    (h : ∀ K : Act → World → Prop, (∀ a w, wpListIn (Fence.wide.inRound l) n P ops Q rest a w → K a w) → o.wp P a w K Q) : wpListIn (Fence.wide.inRound l) n P ops Q (o :: rest) a w :=
  wpListIn_plain hg fun K hK => Oper.wpIn_of_wp hd (h K hK)
end Go.Proofs.YtjihfabhgcfjnaaGreatDoor
/- lattice's reduce in memory: what holds between two rounds. -/
namespace Go.Proofs.YtjihfabhgcfjnaaGreatDoor
set_option linter.unusedVariables false
set_option linter.unusedSimpArgs false
open Go.RowKit Go.Shelf

theorem owns_cells {w : World} {base : Nat} {e : TypeId} {k : Nat} {v : Value} {n : Nat} {xs : List Value} (h : w.ownsRow base e k v n xs) {g : Nat} (hg : v.ownBlock = some g) {o : Obj} (ho : w.heap[g]? = some o) (hc : o.isCells = false) : False := by
  rcases h.2 with ⟨rfl, _⟩ | ⟨g', cap, cur, rfl, _, hgb, _⟩
  · simp [Value.ownBlock] at hg
  · simp [Value.ownBlock] at hg
    subst hg
    rw [hgb] at ho
    cases ho
    simp [Obj.isCells] at hc
def bigV (m : List Int) : List Value := m.map fun x => Value.string (intB x)
structure RedI (w W : World) (B b4 b5 gr cr : Nat) (s m : List Int) : Prop where
  old : Ext w W
  h4 : W.heap[b4]? = some (.cells #[.slice (some ⟨gr, 0, none⟩) s.length cr] 159 (0, 0))
  row : RowB W gr 0 s
  out : ∃ vo, W.heap[b5]? = some (.cells #[vo] 159 (0, 0)) ∧ W.ownsRow w.heap.size 125 1 vo m.length (bigV m) ∧ vo.ownBlock ≠ some gr
  ne : b4 ≠ gr ∧ b5 ≠ gr ∧ b4 ≠ b5
  low : w.heap.size ≤ b4 ∧ w.heap.size ≤ b5 ∧ w.heap.size ≤ gr
  lt : b4 < B ∧ b5 < B ∧ gr < B
theorem ext_of_grown {w W W' : World} {row : Option Nat} (h : Ext w W) (hg : W.grownBy W' row) (hr : ∀ r, row = some r → w.heap.size ≤ r) : Ext w W' :=
  Below.trans h ⟨hg.os, hg.tape, hg.output, hg.size, fun k hk => hg.block k (Nat.lt_of_lt_of_le hk h.size) (fun e => by have := hr k e.symm; omega)⟩
theorem owns_lt {W : World} {base : Nat} {e : TypeId} {n : Nat} {v : Value} {xs : List Value} (h : W.ownsRow base e 1 v n xs) : ∀ b, v.ownBlock = some b → base ≤ b ∧ b < W.heap.size := h.lt
/-- What adds to memory, and turns what is no cells. -/
theorem RedI.grown {w W W' : World} {B b4 b5 gr cr : Nat} {s m : List Int} (h : RedI w W B b4 b5 gr cr s m) (hB : w.heap.size ≤ B) {row : Option Nat} (hg : W.grownBy W' row) (hr : ∀ r, row = some r → B ≤ r ∧ ∃ o : Obj, W.heap[r]? = some o ∧ o.isCells = false) : RedI w W' B b4 b5 gr cr s m := by
  obtain ⟨vo, o1, o2, o3⟩ := h.out
  have l := h.lt
  have hne : ∀ b, b < B → row ≠ some b := fun b hb e => by have := (hr b e).1; omega
  refine ⟨ext_of_grown h.old hg (fun r e => Nat.le_trans hB (hr r e).1), block_grown h.h4 hg (hne _ l.1), h.row.same hg.size (hg.block gr h.row.lt (fun e => hne _ l.2.2 e.symm)), ⟨vo, block_grown o1 hg (hne _ l.2.1), o2.kept hg ?_, o3⟩, h.ne, h.low, l⟩
  cases hv : vo.ownBlock with
  | none => exact .inl rfl
  | some b =>
    refine .inr fun e => ?_
    obtain ⟨-, o, ho, hc⟩ := hr b e.symm
    exact owns_cells o2 hv ho hc
theorem RedI.ab {w : World} {B b4 b5 gr cr : Nat} (hB : w.heap.size ≤ B) (xss : List (List Int)) (r : List Int) : AbR B (fun i W => ∃ s m, redO xss r i = some (s, m) ∧ RedI w W B b4 b5 gr cr s m) := by
  rintro i W W' row ⟨s, m, h1, h2⟩ hg hr
  exact ⟨s, m, h1, h2.grown hB hg hr⟩
theorem RedI.ext {w W W' : World} {B b4 b5 gr cr : Nat} {s m : List Int} (h : RedI w W B b4 b5 gr cr s m) (hB : w.heap.size ≤ B) (he : Ext W W') : RedI w W' B b4 b5 gr cr s m :=
  h.grown hB (row := none) ⟨he.os, he.tape, he.output, he.size, fun k hk _ => he.block k hk⟩ (fun r e => by cases e)
/-- The row left is reduced. -/
theorem RedI.less {w W W' : World} {B b4 b5 gr cr : Nat} {s m s' : List Int} (h : RedI w W B b4 b5 gr cr s m) (hg : GrownS (· = gr) W W') (hR : RowB W' gr 0 s') (hl : s'.length = s.length) : RedI w W' B b4 b5 gr cr s' m ∧ KeepsFrom B W W' := by
  obtain ⟨vo, o1, o2, o3⟩ := h.out
  have hg' : W.grownBy W' (some gr) := ⟨hg.os, hg.tape, hg.output, hg.size, fun k hk e => hg.block k hk (fun hh => e (by rw [hh]))⟩
  refine ⟨⟨ext_of_grown h.old hg' (fun r e => by cases e; exact h.low.2.2), by rw [hl]; exact block_grown h.h4 hg' (fun e => h.ne.1 (Option.some.inj e).symm), hR, ⟨vo, block_grown o1 hg' (fun e => h.ne.2.1 (Option.some.inj e).symm), o2.kept hg' ?_, o3⟩, h.ne, h.low, h.lt⟩, ⟨hg.size, fun k o hk ho _ => ?_⟩⟩
  · cases hv : vo.ownBlock with
    | none => exact .inl rfl
    | some b => exact .inr fun e => o3 (hv.trans e)
  · have := h.lt.2.2
    exact (hg.block k (block_lt ho) (fun e => by omega)).trans ho
/-- A multiple is appended. -/
theorem RedI.push {w W0 W w' : World} {B b4 b5 gr cr : Nat} {s m : List Int} (h : RedI w W0 B b4 b5 gr cr s m) (he : Ext W0 W) {vo v' : Value} {q : Int} (hb : W.heap[b5]? = some (.cells #[vo] 159 (0, 0))) (hown : W.ownsRow w.heap.size 125 1 vo m.length (bigV m)) (hne : vo.ownBlock ≠ some gr)
    (hB : w.heap.size ≤ B) (hgr : gr < W.heap.size) (ho' : w'.ownsRow w.heap.size 125 1 v' (m.length + 1) (bigV m ++ [.string (intB q)])) (hg : W.grownBy w' vo.ownBlock) (hat : v'.ownBlock = vo.ownBlock ∨ v'.ownBlock = some W.heap.size) :
    RedI w (w'.setCell ⟨b5, 0, none⟩ v') B b4 b5 gr cr s (m ++ [q]) ∧ KeepsFrom B W (w'.setCell ⟨b5, 0, none⟩ v') := by
  have h' := h.ext hB he
  have l := h.lt
  have e4 := owns_ne_block hown h'.h4 (by decide)
  have e5 := owns_ne_block hown hb (by decide)
  have g1 := grown_setCell w' b5 0 v'
  have k4 := block_grown h'.h4 hg e4
  have k5 := block_grown hb hg e5
  have hrow := h'.row.same hg.size (hg.block gr h'.row.lt (fun e => hne e.symm))
  have e5' := owns_ne_block ho' k5 (by decide)
  have hv' : v'.ownBlock ≠ some gr := by
    rcases hat with e | e
    · rw [e]; exact hne
    · rw [e]; intro hh; have := Option.some.inj hh; omega
  refine ⟨⟨?_, block_grown k4 g1 (fun e => h.ne.2.2 (Option.some.inj e).symm), hrow.other b5 0 v' (fun e => h.ne.2.1 e.symm), ⟨v', ?_, ?_, hv'⟩, h.ne, h.low, l⟩, ?_⟩
  · refine ext_of_grown (ext_of_grown h'.old hg (fun r e => (owns_lt hown r e).1)) g1 (fun r e => by cases e; exact h.low.2.1)
  · have := block_set k5 0 v'; simpa using this
  · have : (bigV (m ++ [q])) = bigV m ++ [.string (intB q)] := by simp [bigV]
    rw [this, List.length_append]
    refine ho'.kept g1 ?_
    cases hv : v'.ownBlock with
    | none => exact .inl rfl
    | some b => exact .inr fun e => e5' (hv.trans e)
  · refine ⟨Nat.le_trans hg.size g1.size, fun k o hk ho hc => ?_⟩
    have hk5 : k ≠ b5 := fun e => by omega
    refine (g1.block k (Nat.lt_of_lt_of_le (block_lt ho) hg.size) (fun e => hk5 (Option.some.inj e))).trans ((hg.block k (block_lt ho) (fun e => ?_)).trans ho)
    exact owns_cells hown e.symm ho hc
end Go.Proofs.YtjihfabhgcfjnaaGreatDoor
