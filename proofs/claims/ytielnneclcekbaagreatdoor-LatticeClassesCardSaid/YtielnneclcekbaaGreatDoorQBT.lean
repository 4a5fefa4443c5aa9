/- Merged: RegU, RegV. -/
import Derived.Test.YtielnneclcekbaaGreatDoorQBJ
import Derived.Test.YtielnneclcekbaaGreatDoorQAA
/- Long regions that draw their order and only read: the operations in the text's order, their array a variable; the condition on the world holds throughout. -/
namespace Go.Proofs.YtielnneclcekbaaGreatDoor
set_option linter.unusedVariables false
open Go.RowKit
section
variable {P : Program} {ops : Array Oper} {Q : Exit → Act → World → Prop} {md : Region.Mode} {S : World → Prop} {z : Nat}
/-- As anyE_first; z is none of the operations. -/
theorem anyE_firstN {i : Nat} {oi : Oper} {v : Value} (hi : ops[i]? = some oi) (hsel : ∀ (j : Nat) (o : Oper) cs b, ops[j]? = some o → o.op ≠ .select cs b)
    (hQ : ∀ c a w, Q (.panic c) (a.put oi.dst v) w → Q (.panic c) a w) (f : Nat) :
    ∀ (l : Array Bool) (a : Act) (w : World), l.size ≤ z →
      (∀ j oj, ops[j]? = some oj → j ≠ i → l.getD j true = false → (∀ e ∈ oj.after, Region.binds md e = true → e.on ≠ i) → oi.apart ops oj = true) →
      i ∈ Region.ready md ops l → YieldsIf P ops S oi v a → S w →
      anyE P md ops Q S z f (l.setIfInBounds i true) (a.put oi.dst v) w → anyE P md ops Q S z (f + 1) l a w := by
  induction f with
  | zero =>
    intro l a w _ _ hr hy hS H
    refine ⟨(fun e => by rw [e] at hr; cases hr), fun j hj => ?_⟩
    by_cases e : j = i
    · rw [e]; exact hy.wpOp hi hS ⟨fun _ => hS, H⟩
    · have := ready_mono hj e
      rw [H.1] at this
      cases this
  | succ f ih =>
    intro l a w hlz hfree hr hy hS H
    refine ⟨(fun e => by rw [e] at hr; cases hr), fun j hj => ?_⟩
    by_cases e : j = i
    · rw [e]; exact hy.wpOp hi hS ⟨fun _ => hS, H⟩
    have hji : i ≠ j := fun x => e x.symm
    have un := (mem_ready.1 hj).1
    obtain ⟨oj, hoj, hall⟩ := (mem_ready.1 hj).2
    have ui := (mem_ready.1 hr).1
    have uf : l.getD i false = true → False := fun hc => by rw [not_listed ui] at hc; cases hc
    have hout : ∀ l' : Array Bool, l'.size ≤ z → l'.getD z false = false := fun l' h => by simp [Array.getElem?_eq_none h]
    have hno : ∀ d ∈ oj.after, Region.binds md d = true → d.on ≠ i := fun d hd hb hdi => uf (by have := hall d hd hb; rwa [hdi] at this)
    have step := wpOp_putIf hoj (hfree j oj hoj e un hno) (fun cs b => hsel i oi cs b hi) (fun cs b => hsel j oj cs b hoj) hQ hy (H.2 j (ready_mono hj e))
    refine wpOp_mono (fun b u hb => ?_) step
    obtain ⟨hy2, hS2, hrest⟩ := hb
    have hSu : S u := hS2 (hout _ (by simpa using hlz))
    refine ⟨fun _ => hSu, ih (l.setIfInBounds j true) b u (by simpa using hlz) (fun k ok hk hki hun hn => ?_) (ready_mono hr hji) hy2 hSu ?_⟩
    · refine hfree k ok hk hki ?_ hn
      by_cases hjk : j = k
      · rw [← hjk]; exact un
      · rw [getD_set_ne true hjk] at hun; exact hun
    · rw [Array.setIfInBounds_comm _ _ e]; exact hrest
theorem anyE_takeN (i : Nat) {oi : Oper} {v : Value} {f : Nat} {l : Array Bool} {a : Act} {w : World} (hi : ops[i]? = some oi)
    (hs : Region.noSelect ops = true) (hf : Region.free md ops l i = true) (hr : (Region.ready md ops l).contains i = true) (hz : l.size ≤ z)
    (hQ : ∀ c a w, Q (.panic c) (a.put oi.dst v) w → Q (.panic c) a w) (hy : YieldsIf P ops S oi v a) (hS : S w)
    (h : anyE P md ops Q S z f (l.setIfInBounds i true) (a.put oi.dst v) w) : anyE P md ops Q S z (f + 1) l a w :=
  anyE_firstN hi (Region.noSelect_spec hs) hQ f l a w hz (Region.free_spec hi hf) (by simpa using hr) hy hS h
/-- The last one; S holds behind it too. -/
theorem anyE_lastN (i : Nat) {o : Oper} {f : Nat} {l : Array Bool} {a : Act} {w : World} (hr : Region.ready md ops l = [i]) (hr2 : Region.ready md ops (l.setIfInBounds i true) = []) (ho : ops[i]? = some o)
    (h : ∀ K : Act → World → Prop, Shut (∀ b u, S u → Q .normal b u → K b u) → if Region.wanted o (yielded ops a.tmps) = true then Oper.wp P o a w K Q else K (a.put o.dst undef) w) : anyE P md ops Q S z (f + 1) l a w := by
  refine ⟨(fun e => by rw [hr] at e; cases e), fun j hj => ?_⟩
  obtain rfl : j = i := by rw [hr] at hj; simpa using hj
  refine wpOp_step ho fun K hK => h K fun b u hS hq => hK b u ⟨fun _ => hS, ?_⟩
  cases f with
  | zero => exact ⟨hr2, hq⟩
  | succ f => exact ⟨fun _ => hq, by rw [hr2]; simp⟩
end
/-- The first i of n have come. -/
def upN (n i : Nat) : Array Bool := (List.replicate i true ++ List.replicate (n - i) false).toArray
theorem upN_step {n i : Nat} (h : decide (i < n) = true) : (upN n i).setIfInBounds i true = upN n (i + 1) := by
  have h := of_decide_eq_true h
  unfold upN
  rw [List.setIfInBounds_toArray, show n - i = (n - (i + 1)) + 1 by omega, List.replicate_succ]
  congr 1
  apply List.ext_getElem?
  intro j
  rw [List.getElem?_set]
  by_cases hj : i = j
  · subst hj
    simp only [if_true, List.length_append, List.length_replicate, List.length_cons]
    rw [if_pos (by omega), List.getElem?_append_left (by simp), List.getElem?_replicate, if_pos (by omega)]
  · rw [if_neg hj]
    simp only [List.getElem?_append, List.length_replicate, List.getElem?_replicate, List.getElem?_cons]
    by_cases h1 : j < i
    · simp [h1, show j < i + 1 by omega]
    · have : ¬ j < i + 1 := by omega
      have h3 : j - i ≠ 0 := by omega
      simp [h1, this, h3, show j - i - 1 = j - (i + 1) by omega]
section
variable {P : Program} {ops O : Array Oper} {Q : Exit → Act → World → Prop} {md : Region.Mode} {S : World → Prop} {z n : Nat}
theorem getopN (hO : Hid (ops = O)) (i : Nat) (h : i < O.size) : ops[i]? = some O[i] := by
  have hO : ops = O := hO
  subst hO
  exact Array.getElem?_eq_getElem h
theorem region_anyEUN (S : World → Prop) (z : Nat) (n : Nat) {id : Nat} {a : Act} {w : World} (hm : P.follows .mixedOrders = true) (hn : O.size = n) (hS : S w.drew)
    (h : ∀ ops, Hid (ops = O) → S w.drew → anyE P .any ops Q S z n (upN n 0) a w.drew) : (Code.region id O true).wp P Q a w :=
  region_anyE S z hm hS (fun hh => by have := h O rfl hh; rw [hn]; have e : Array.replicate n false = upN n 0 := by unfold upN; simp
                                      rw [e]; exact this)
theorem anyE_takeWUN (hO : Hid (ops = O)) (i : Nat) {oi : Oper} {v : Value} {f : Nat} {a : Act} {w : World} (hi : ops[i]? = some oi) (hin : decide (i < n) = true)
    (hs : Region.noSelect O = true) (hf : Region.free md O (upN n i) i = true) (hr : (Region.ready md O (upN n i)).contains i = true) (hz : i ≠ z)
    (hQ : ∀ c a w, Q (.panic c) (a.put oi.dst v) w → Q (.panic c) a w) (hy : Yields P O oi v a) (hS : S w)
    (h : anyE P md ops Q S z f (upN n (i + 1)) (a.put oi.dst v) w) : anyE P md ops Q S z (f + 1) (upN n i) a w := by
  have hO : ops = O := hO
  subst hO
  exact anyE_takeW i hi hs hf hr hz hQ hy hS (by rw [upN_step hin]; exact h)
theorem anyE_stepUN (hO : Hid (ops = O)) (i : Nat) {o : Oper} {f : Nat} {a : Act} {w : World} (hr : Region.ready md O (upN n i) = [i]) (ho : ops[i]? = some o) (hin : decide (i < n) = true)
    (h : ∀ K : Act → World → Prop, Shut (∀ b u, S u → (S u → anyE P md ops Q S z f (upN n (i + 1)) b u) → K b u) → if Region.wanted o (yielded O a.tmps) = true then Oper.wp P o a w K Q else K (a.put o.dst undef) w) : anyE P md ops Q S z (f + 1) (upN n i) a w := by
  have hO : ops = O := hO
  subst hO
  exact anyE_step i hr ho (by rw [upN_step hin]; exact h)
theorem upN_size (n i : Nat) (h : decide (i ≤ n) = true) : (upN n i).size = n := by
  have h := of_decide_eq_true h
  unfold upN
  simp; omega
theorem anyE_takeUN (hO : Hid (ops = O)) (i : Nat) {oi : Oper} {v : Value} {f : Nat} {a : Act} {w : World} (hi : ops[i]? = some oi) (hin : decide (i < n) = true)
    (hs : Region.noSelect O = true) (hf : Region.free md O (upN n i) i = true) (hr : (Region.ready md O (upN n i)).contains i = true) (hz : decide (n ≤ z) = true)
    (hQ : ∀ c a w, Q (.panic c) (a.put oi.dst v) w → Q (.panic c) a w) (hy : YieldsIf P O S oi v a) (hS : S w)
    (h : anyE P md ops Q S z f (upN n (i + 1)) (a.put oi.dst v) w) : anyE P md ops Q S z (f + 1) (upN n i) a w := by
  have hO : ops = O := hO
  subst hO
  have h1 := of_decide_eq_true hin
  have h2 := of_decide_eq_true hz
  exact anyE_takeN i hi hs hf hr (by rw [upN_size n i (decide_eq_true (by omega))]; exact h2) hQ hy hS (by rw [upN_step hin]; exact h)
theorem anyE_lastUN (hO : Hid (ops = O)) (i : Nat) {o : Oper} {f : Nat} {a : Act} {w : World} (hr : Region.ready md O (upN n i) = [i]) (hin : decide (i < n) = true) (hr2 : Region.ready md O (upN n (i + 1)) = []) (ho : ops[i]? = some o)
    (h : ∀ K : Act → World → Prop, Shut (∀ b u, S u → Q .normal b u → K b u) → if Region.wanted o (yielded O a.tmps) = true then Oper.wp P o a w K Q else K (a.put o.dst undef) w) : anyE P md ops Q S z (f + 1) (upN n i) a w := by
  have hO : ops = O := hO
  subst hO
  exact anyE_lastN i hr (by rw [upN_step hin]; exact hr2) ho h
end
end Go.Proofs.YtielnneclcekbaaGreatDoor
/- Long regions that draw their order and only read, in an order of one's choice; the operations' array is a variable. -/
namespace Go.Proofs.YtielnneclcekbaaGreatDoor
set_option linter.unusedVariables false
open Go.RowKit
section
variable {P : Program} {ops O : Array Oper} {Q : Exit → Act → World → Prop} {md : Region.Mode} {S : World → Prop} {z n : Nat}
theorem region_anyEV (S : World → Prop) (z : Nat) (n : Nat) {id : Nat} {a : Act} {w : World} (hm : P.follows .mixedOrders = true) (hn : O.size = n) (hS : S w.drew)
    (h : ∀ ops, Hid (ops = O) → S w.drew → anyE P .any ops Q S z n (Array.replicate n false) a w.drew) : (Code.region id O true).wp P Q a w :=
  region_anyE S z hm hS (fun hh => by have := h O rfl hh; rw [hn]; exact this)
theorem anyE_takeWV (hO : Hid (ops = O)) (i : Nat) {oi : Oper} {v : Value} {f : Nat} {l : Array Bool} {a : Act} {w : World} (hi : ops[i]? = some oi)
    (hs : Region.noSelect O = true) (hf : Region.free md O l i = true) (hr : (Region.ready md O l).contains i = true) (hz : decide (i ≠ z) = true)
    (hQ : ∀ c a w, Q (.panic c) (a.put oi.dst v) w → Q (.panic c) a w) (hy : Yields P O oi v a) (hS : S w)
    (h : anyE P md ops Q S z f (l.setIfInBounds i true) (a.put oi.dst v) w) : anyE P md ops Q S z (f + 1) l a w := by
  have hO : ops = O := hO
  subst hO
  exact anyE_takeW i hi hs hf hr (of_decide_eq_true hz) hQ hy hS h
theorem anyE_takeV (hO : Hid (ops = O)) (i : Nat) {oi : Oper} {v : Value} {f : Nat} {l : Array Bool} {a : Act} {w : World} (hi : ops[i]? = some oi)
    (hs : Region.noSelect O = true) (hf : Region.free md O l i = true) (hr : (Region.ready md O l).contains i = true) (hz : decide (l.size ≤ z) = true)
    (hQ : ∀ c a w, Q (.panic c) (a.put oi.dst v) w → Q (.panic c) a w) (hy : YieldsIf P O S oi v a) (hS : S w)
    (h : anyE P md ops Q S z f (l.setIfInBounds i true) (a.put oi.dst v) w) : anyE P md ops Q S z (f + 1) l a w := by
  have hO : ops = O := hO
  subst hO
  exact anyE_takeN i hi hs hf hr (of_decide_eq_true hz) hQ hy hS h
theorem anyE_stepV (hO : Hid (ops = O)) (i : Nat) {o : Oper} {f : Nat} {l : Array Bool} {a : Act} {w : World} (hr : Region.ready md O l = [i]) (ho : ops[i]? = some o)
    (h : ∀ K : Act → World → Prop, Shut (∀ b u, S u → (S u → anyE P md ops Q S z f (l.setIfInBounds i true) b u) → K b u) → if Region.wanted o (yielded O a.tmps) = true then Oper.wp P o a w K Q else K (a.put o.dst undef) w) : anyE P md ops Q S z (f + 1) l a w := by
  have hO : ops = O := hO
  subst hO
  exact anyE_step i hr ho h
theorem anyE_lastV (hO : Hid (ops = O)) (i : Nat) {o : Oper} {f : Nat} {l : Array Bool} {a : Act} {w : World} (hr : Region.ready md O l = [i]) (hr2 : Region.ready md O (l.setIfInBounds i true) = []) (ho : ops[i]? = some o)
    (h : ∀ K : Act → World → Prop, Shut (∀ b u, S u → Q .normal b u → K b u) → if Region.wanted o (yielded O a.tmps) = true then Oper.wp P o a w K Q else K (a.put o.dst undef) w) : anyE P md ops Q S z (f + 1) l a w := by
  have hO : ops = O := hO
  subst hO
  exact anyE_lastN i hr hr2 ho h
end
end Go.Proofs.YtielnneclcekbaaGreatDoor
