/- Merged: RegU, RegV, TmpF. -/
import Derived.Test.YtehknemdfbkimaaGreatDoorQAV
import Derived.Test.YtehknemdfbkimaaGreatDoorQAA
import Derived.Test.YtehknemdfbkimaaGreatDoorQBA
/- Long regions that draw their order and only read: the operations in the text's order, their array a variable; the condition on the world holds throughout. -/
namespace Go.Proofs.YtehknemdfbkimaaGreatDoor
set_option linter.unusedVariables false
open Go.RowKit
section
variable {P : Program} {ops : Array Oper} {Q : Exit → Act → World → Prop} {md : Region.Mode} {S : World → Prop} {z : Nat}
/-- As anyE_first; z is none of the operations. -/
theorem anyE_firstN {i : Nat} {oi : Oper} {v : Value} (hi : ops[i]? = some oi) (hsel : ∀ (j : Nat) (o : Oper) cs b, ops[j]? = some o → o.op ≠ .select cs b)
    (hQ : ∀ c a w, Q (.panic c) (a.put oi.dst v) w → Q (.panic c) a w) (f : Nat) :
    ∀ (l : Array Bool) (a : Act) (w : World), l.size ≤ z →
      (∀ j oj, ops[j]? = some oj → j ≠ i → l.getD j true = false → (∀ e ∈ oj.after, Region.binds md e = true → e.on ≠ i) → oi.apart ops oj = true) →
      i ∈ Region.ready md ops l → YieldsIf P ops S oi v a → S w →
      anyE P md ops Q S z f (l.setIfInBounds i true) (a.put oi.dst v) w → anyE P md ops Q S z (f + 1) l a w := by
  induction f with
  | zero =>
    intro l a w _ _ hr hy hS H
    refine ⟨(fun e => by rw [e] at hr; cases hr), fun j hj => ?_⟩
    by_cases e : j = i
    · rw [e]; exact hy.wpOp hi hS ⟨fun _ => hS, H⟩
    · have := ready_mono hj e
      rw [H.1] at this
      cases this
  | succ f ih =>
    intro l a w hlz hfree hr hy hS H
    refine ⟨(fun e => by rw [e] at hr; cases hr), fun j hj => ?_⟩
    by_cases e : j = i
    · rw [e]; exact hy.wpOp hi hS ⟨fun _ => hS, H⟩
    have hji : i ≠ j := fun x => e x.symm
    have un := (mem_ready.1 hj).1
    obtain ⟨oj, hoj, hall⟩ := (mem_ready.1 hj).2
    have ui := (mem_ready.1 hr).1
    have uf : l.getD i false = true → False := fun hc => by rw [not_listed ui] at hc; cases hc
    have hout : ∀ l' : Array Bool, l'.size ≤ z → l'.getD z false = false := fun l' h => by simp [Array.getElem?_eq_none h]
    have hno : ∀ d ∈ oj.after, Region.binds md d = true → d.on ≠ i := fun d hd hb hdi => uf (by have := hall d hd hb; rwa [hdi] at this)
    have step := wpOp_putIf hoj (hfree j oj hoj e un hno) (fun cs b => hsel i oi cs b hi) (fun cs b => hsel j oj cs b hoj) hQ hy (H.2 j (ready_mono hj e))
    refine wpOp_mono (fun b u hb => ?_) step
    obtain ⟨hy2, hS2, hrest⟩ := hb
    have hSu : S u := hS2 (hout _ (by simpa using hlz))
    refine ⟨fun _ => hSu, ih (l.setIfInBounds j true) b u (by simpa using hlz) (fun k ok hk hki hun hn => ?_) (ready_mono hr hji) hy2 hSu ?_⟩
    · refine hfree k ok hk hki ?_ hn
      by_cases hjk : j = k
      · rw [← hjk]; exact un
      · rw [getD_set_ne true hjk] at hun; exact hun
    · rw [Array.setIfInBounds_comm _ _ e]; exact hrest
theorem anyE_takeN (i : Nat) {oi : Oper} {v : Value} {f : Nat} {l : Array Bool} {a : Act} {w : World} (hi : ops[i]? = some oi)
    (hs : Region.noSelect ops = true) (hf : Region.free md ops l i = true) (hr : (Region.ready md ops l).contains i = true) (hz : l.size ≤ z)
    (hQ : ∀ c a w, Q (.panic c) (a.put oi.dst v) w → Q (.panic c) a w) (hy : YieldsIf P ops S oi v a) (hS : S w)
    (h : anyE P md ops Q S z f (l.setIfInBounds i true) (a.put oi.dst v) w) : anyE P md ops Q S z (f + 1) l a w :=
  anyE_firstN hi (Region.noSelect_spec hs) hQ f l a w hz (Region.free_spec hi hf) (by simpa using hr) hy hS h
/-- The last one; S holds behind it too. -/
theorem anyE_lastN (i : Nat) {o : Oper} {f : Nat} {l : Array Bool} {a : Act} {w : World} (hr : Region.ready md ops l = [i]) (hr2 : Region.ready md ops (l.setIfInBounds i true) = []) (ho : ops[i]? = some o)
    (h : ∀ K : Act → World → Prop, Shut (∀ b u, S u → Q .normal b u → K b u) → if Region.wanted o (yielded ops a.tmps) = true then Oper.wp P o a w K Q else K (a.put o.dst undef) w) : anyE P md ops Q S z (f + 1) l a w := by
  refine ⟨(fun e => by rw [hr] at e; cases e), fun j hj => ?_⟩
  obtain rfl : j = i := by rw [hr] at hj; simpa using hj
  refine wpOp_step ho fun K hK => h K fun b u hS hq => hK b u ⟨fun _ => hS, ?_⟩
  cases f with
  | zero => exact ⟨hr2, hq⟩
  | succ f => exact ⟨fun _ => hq, by rw [hr2]; simp⟩
end
/-- The first i of n have come. -/
def upN (n i : Nat) : Array Bool := (List.replicate i true ++ List.replicate (n - i) false).toArray
theorem upN_step {n i : Nat} (h : decide (i < n) = true) : (upN n i).setIfInBounds i true = upN n (i + 1) := by
  have h := of_decide_eq_true h
  unfold upN
  rw [List.setIfInBounds_toArray, show n - i = (n - (i + 1)) + 1 by omega, List.replicate_succ]
  congr 1
  apply List.ext_getElem?
  intro j
  rw [List.getElem?_set]
  by_cases hj : i = j
  · subst hj
    simp only [if_true, List.length_append, List.length_replicate, List.length_cons]
    rw [if_pos (by omega), List.getElem?_append_left (by simp), List.getElem?_replicate, if_pos (by omega)]
  · rw [if_neg hj]
    simp only [List.getElem?_append, List.length_replicate, List.getElem?_replicate, List.getElem?_cons]
    by_cases h1 : j < i
    · simp [h1, show j < i + 1 by omega]
    · have : ¬ j < i + 1 := by omega
      have h3 : j - i ≠ 0 := by omega
      simp [h1, this, h3, show j - i - 1 = j - (i + 1) by omega]
section
variable {P : Program} {ops O : Array Oper} {Q : Exit → Act → World → Prop} {md : Region.Mode} {S : World → Prop} {z n : Nat}
theorem getopN (hO : Hid (ops = O)) (i : Nat) (h : i < O.size) : ops[i]? = some O[i] := by
  have hO : ops = O := hO
  subst hO
  exact Array.getElem?_eq_getElem h
theorem region_anyEUN (S : World → Prop) (z : Nat) (n : Nat) {id : Nat} {a : Act} {w : World} (hm : P.follows .mixedOrders = true) (hn : O.size = n) (hS : S w.drew)
    (h : ∀ ops, Hid (ops = O) → S w.drew → anyE P .any ops Q S z n (upN n 0) a w.drew) : (Code.region id O true).wp P Q a w :=
  region_anyE S z hm hS (fun hh => by have := h O rfl hh; rw [hn]; have e : Array.replicate n false = upN n 0 := by unfold upN; simp
                                      rw [e]; exact this)
theorem anyE_takeWUN (hO : Hid (ops = O)) (i : Nat) {oi : Oper} {v : Value} {f : Nat} {a : Act} {w : World} (hi : ops[i]? = some oi) (hin : decide (i < n) = true)
    (hs : Region.noSelect O = true) (hf : Region.free md O (upN n i) i = true) (hr : (Region.ready md O (upN n i)).contains i = true) (hz : i ≠ z)
    (hQ : ∀ c a w, Q (.panic c) (a.put oi.dst v) w → Q (.panic c) a w) (hy : Yields P O oi v a) (hS : S w)
    (h : anyE P md ops Q S z f (upN n (i + 1)) (a.put oi.dst v) w) : anyE P md ops Q S z (f + 1) (upN n i) a w := by
  have hO : ops = O := hO
  subst hO
  exact anyE_takeW i hi hs hf hr hz hQ hy hS (by rw [upN_step hin]; exact h)
theorem anyE_stepUN (hO : Hid (ops = O)) (i : Nat) {o : Oper} {f : Nat} {a : Act} {w : World} (hr : Region.ready md O (upN n i) = [i]) (ho : ops[i]? = some o) (hin : decide (i < n) = true)
    (h : ∀ K : Act → World → Prop, Shut (∀ b u, S u → (S u → anyE P md ops Q S z f (upN n (i + 1)) b u) → K b u) → if Region.wanted o (yielded O a.tmps) = true then Oper.wp P o a w K Q else K (a.put o.dst undef) w) : anyE P md ops Q S z (f + 1) (upN n i) a w := by
  have hO : ops = O := hO
  subst hO
  exact anyE_step i hr ho (by rw [upN_step hin]; exact h)
theorem upN_size (n i : Nat) (h : decide (i ≤ n) = true) : (upN n i).size = n := by
  have h := of_decide_eq_true h
  unfold upN
  simp; omega
theorem anyE_takeUN (hO : Hid (ops = O)) (i : Nat) {oi : Oper} {v : Value} {f : Nat} {a : Act} {w : World} (hi : ops[i]? = some oi) (hin : decide (i < n) = true)
    (hs : Region.noSelect O = true) (hf : Region.free md O (upN n i) i = true) (hr : (Region.ready md O (upN n i)).contains i = true) (hz : decide (n ≤ z) = true)
    (hQ : ∀ c a w, Q (.panic c) (a.put oi.dst v) w → Q (.panic c) a w) (hy : YieldsIf P O S oi v a) (hS : S w)
    (h : anyE P md ops Q S z f (upN n (i + 1)) (a.put oi.dst v) w) : anyE P md ops Q S z (f + 1) (upN n i) a w := by
  have hO : ops = O := hO
  subst hO
  have h1 := of_decide_eq_true hin
  have h2 := of_decide_eq_true hz
  exact anyE_takeN i hi hs hf hr (by rw [upN_size n i (decide_eq_true (by omega))]; exact h2) hQ hy hS (by rw [upN_step hin]; exact h)
theorem anyE_lastUN (hO : Hid (ops = O)) (i : Nat) {o : Oper} {f : Nat} {a : Act} {w : World} (hr : Region.ready md O (upN n i) = [i]) (hin : decide (i < n) = true) (hr2 : Region.ready md O (upN n (i + 1)) = []) (ho : ops[i]? = some o)
    (h : ∀ K : Act → World → Prop, Shut (∀ b u, S u → Q .normal b u → K b u) → if Region.wanted o (yielded O a.tmps) = true then Oper.wp P o a w K Q else K (a.put o.dst undef) w) : anyE P md ops Q S z (f + 1) (upN n i) a w := by
  have hO : ops = O := hO
  subst hO
  exact anyE_lastN i hr (by rw [upN_step hin]; exact hr2) ho h
end
end Go.Proofs.YtehknemdfbkimaaGreatDoor
/- Long regions that draw their order and only read, in an order of one's choice; the operations' array is a variable. -/
namespace Go.Proofs.YtehknemdfbkimaaGreatDoor
set_option linter.unusedVariables false
open Go.RowKit
section
variable {P : Program} {ops O : Array Oper} {Q : Exit → Act → World → Prop} {md : Region.Mode} {S : World → Prop} {z n : Nat}
theorem region_anyEV (S : World → Prop) (z : Nat) (n : Nat) {id : Nat} {a : Act} {w : World} (hm : P.follows .mixedOrders = true) (hn : O.size = n) (hS : S w.drew)
    (h : ∀ ops, Hid (ops = O) → S w.drew → anyE P .any ops Q S z n (Array.replicate n false) a w.drew) : (Code.region id O true).wp P Q a w :=
  region_anyE S z hm hS (fun hh => by have := h O rfl hh; rw [hn]; exact this)
theorem anyE_takeWV (hO : Hid (ops = O)) (i : Nat) {oi : Oper} {v : Value} {f : Nat} {l : Array Bool} {a : Act} {w : World} (hi : ops[i]? = some oi)
    (hs : Region.noSelect O = true) (hf : Region.free md O l i = true) (hr : (Region.ready md O l).contains i = true) (hz : decide (i ≠ z) = true)
    (hQ : ∀ c a w, Q (.panic c) (a.put oi.dst v) w → Q (.panic c) a w) (hy : Yields P O oi v a) (hS : S w)
    (h : anyE P md ops Q S z f (l.setIfInBounds i true) (a.put oi.dst v) w) : anyE P md ops Q S z (f + 1) l a w := by
  have hO : ops = O := hO
  subst hO
  exact anyE_takeW i hi hs hf hr (of_decide_eq_true hz) hQ hy hS h
theorem anyE_takeV (hO : Hid (ops = O)) (i : Nat) {oi : Oper} {v : Value} {f : Nat} {l : Array Bool} {a : Act} {w : World} (hi : ops[i]? = some oi)
    (hs : Region.noSelect O = true) (hf : Region.free md O l i = true) (hr : (Region.ready md O l).contains i = true) (hz : decide (l.size ≤ z) = true)
    (hQ : ∀ c a w, Q (.panic c) (a.put oi.dst v) w → Q (.panic c) a w) (hy : YieldsIf P O S oi v a) (hS : S w)
    (h : anyE P md ops Q S z f (l.setIfInBounds i true) (a.put oi.dst v) w) : anyE P md ops Q S z (f + 1) l a w := by
  have hO : ops = O := hO
  subst hO
  exact anyE_takeN i hi hs hf hr (of_decide_eq_true hz) hQ hy hS h
theorem anyE_stepV (hO : Hid (ops = O)) (i : Nat) {o : Oper} {f : Nat} {l : Array Bool} {a : Act} {w : World} (hr : Region.ready md O l = [i]) (ho : ops[i]? = some o)
    (h : ∀ K : Act → World → Prop, Shut (∀ b u, S u → (S u → anyE P md ops Q S z f (l.setIfInBounds i true) b u) → K b u) → if Region.wanted o (yielded O a.tmps) = true then Oper.wp P o a w K Q else K (a.put o.dst undef) w) : anyE P md ops Q S z (f + 1) l a w := by
  have hO : ops = O := hO
  subst hO
  exact anyE_step i hr ho h
theorem anyE_lastV (hO : Hid (ops = O)) (i : Nat) {o : Oper} {f : Nat} {l : Array Bool} {a : Act} {w : World} (hr : Region.ready md O l = [i]) (hr2 : Region.ready md O (l.setIfInBounds i true) = []) (ho : ops[i]? = some o)
    (h : ∀ K : Act → World → Prop, Shut (∀ b u, S u → Q .normal b u → K b u) → if Region.wanted o (yielded O a.tmps) = true then Oper.wp P o a w K Q else K (a.put o.dst undef) w) : anyE P md ops Q S z (f + 1) l a w := by
  have hO : ops = O := hO
  subst hO
  exact anyE_lastN i hr hr2 ho h
end
end Go.Proofs.YtehknemdfbkimaaGreatDoor
/- Contract of package temperament: temper. Its region is printed by gen/tmpf.py. -/
namespace Go.Proofs.YtehknemdfbkimaaGreatDoor
set_option linter.unusedVariables false
set_option linter.unusedSimpArgs false
open Go.RowKit

/-- The tempered interval. -/
def temL (M : List (List Int)) (x : List Int) (n : Nat) : List Int := M.map fun r => dotZ x r n
theorem dotZ_bound {N : Nat} {x r : List Int} (hx : RowLe N x) (hr : RowLe N r) : ∀ k, (dotZ x r k).natAbs ≤ k * (N * N)
  | 0 => by unfold dotZ; simp
  | k + 1 => by
    unfold dotZ
    have h1 := dotZ_bound hx hr k
    have h2 : (x.getD k 0 * r.getD k 0).natAbs ≤ N * N := by rw [Int.natAbs_mul]; exact Nat.mul_le_mul (hx.getD k) (hr.getD k)
    rw [Nat.add_mul]; omega
theorem intB_nought : intB 0 = ⟨#[48]⟩ := by unfold intB Lib.itoa; rw [if_neg (by omega), show (0 : Int).toNat = 0 from rfl, Lib.decDigits_one (by omega)]; rfl
theorem intB_small {n : Int} {k : Nat} (h : n.natAbs < 10 ^ k) (hk : 1 ≤ k) (hk2 : k ≤ 1000) : (intB n).size ≤ 2000 := by
  have h1 := intB_size_le n
  have h2 := numB_size_le n.natAbs k h hk
  omega

set_option maxRecDepth 100000 in
set_option maxHeartbeats 8000000 in
theorem temper_any (n : Nat) (P : List Int) (C M : List (List Int)) (x : List Int) (v vx : Value) (w : World) (hV : TempV w v P C M) (hx : Ints w vx x) (hxl : x.length = n) (hMl : ∀ r ∈ M, r.length = n) (hn : n ≤ 100) (hMn : M.length ≤ 1000)
    (hxb : RowLe 1000000000 x) (hMb : ∀ r ∈ M, RowLe 1000000000 r) (ht : Pow10 w) :
    Calls Tryz.prog 107 #[v, vx] w fun e w' => ∃ a c, e = .returned (.slice a M.length c) ∧ w'.ownsRow w.heap.size 73 1 (.slice a M.length c) M.length (bigV (temL M x n)) ∧ Ext w w' := by
  obtain ⟨vp, vc, vm, rfl, hvp, hvc, hvm⟩ := hV
  obtain ⟨ap, cp, rfl, -⟩ := hvp.open
  obtain ⟨ac, cc, rfl, -⟩ := inCell.open hvc
  obtain ⟨am, cm, rfl, m1, m2, -, mc⟩ := inCell.open hvm
  have HMC := Lib.hid mc; have HML := Lib.hid hMl; have HMB := Lib.hid hMb; have HXB := Lib.hid hxb; have HT := Lib.hid ht; have HXI := Lib.hid hx
  obtain ⟨ax, cx, rfl, x1, x2, -, -, xc⟩ := hx.open
  have HXC := Lib.hid xc
  have HXL := Lib.hid hxl
  rw [hxl]
  unfold maxLen at m2 x2
  clear hvp hvc hvm mc hx xc hMl hMb hxb ht hxl x1
  go_enter Tryz.func107, Tryz.ntmps107
  obtain ⟨W1, hW1, hE1, hs1, hb1⟩ := tp_new w (.slice ap P.length cp) (.slice ac C.length cc) (.slice am M.length cm)
  have HB1 := Lib.hid hb1; have HE1 := Lib.hid hE1
  obtain ⟨b0, b1, b2, -⟩ := tp_block hb1
  clear hE1 hs1 hb1
  go_wp2_with fail
  clear b0 b1 b2
  go_loopw [5, 14] (fun so t wr => ∃ j : Nat, j ≤ M.length ∧ t = .int .i64 j ∧ Hid (Ext w wr) ∧ Hid (∃ a c, so = .slice a j c) ∧ Hid (Build wr w.heap.size 73 1 so bigC ((temL M x n).take j))) (fun _ t _ => M.length - (intOf t).toNat)
  case atStart => exact ⟨0, by omega, rfl, HE1.out, ⟨none, 0, rfl⟩, Build.nil _ _ _ _ _⟩
  case round =>
    obtain ⟨j, hj, rfl, HE, HSL, HBu⟩ := hrel
    obtain ⟨wo, rfl⟩ : ∃ wo : World, wo = wr := ⟨_, rfl⟩
    by_cases hlt : j < M.length
    · obtain ⟨bm, om, rfl, hbm, hcell⟩ := HMC.out (by intro e; simp [e] at hlt)
      obtain ⟨r, hr⟩ : ∃ r, M[j]? = some r := ⟨M[j], List.getElem?_eq_getElem hlt⟩
      obtain ⟨vr, hvr, hcr⟩ := hcell j r hr
      have g1 := HE.out.cell hcr
      have hrl := HML.out r (List.mem_of_getElem? hr)
      have HRB := Lib.hid (HMB.out r (List.mem_of_getElem? hr))
      obtain ⟨ar, cr, rfl, r1, r2, -, -, rc⟩ := (hvr.ext HE.out).open
      have HRC := Lib.hid rc
      have HRL := Lib.hid hrl
      have HN : Hid ((temL M x n).take (j + 1) = (temL M x n).take j ++ [dotZ x r n]) := by unfold Hid temL; rw [List.take_add_one, List.getElem?_map, hr]; rfl
      have HJ : Hid (((temL M x n).take j).length < 1000000) := by unfold Hid; rw [List.length_take]; omega
      have HJL : Hid (((temL M x n).take j).length = j) := by unfold Hid temL; rw [List.length_take, List.length_map]; omega
      have HDB : Hid (∀ k, k ≤ n → (intB (dotZ x r k)).size ≤ 2000) := fun k hk => intB_small (k := 30) (Nat.lt_of_le_of_lt (dotZ_bound HXB.out HRB.out k) (by
        have : k * (1000000000 * 1000000000) ≤ 100 * (1000000000 * 1000000000) := Nat.mul_le_mul_right _ (by omega)
        exact Nat.lt_of_le_of_lt this (by decide))) (by decide) (by decide)
      rw [hrl] at g1
      unfold maxLen at r2
      clear hcell hvr hcr hr rc hrl r1
      go_wp2_with fail
      go_loopw [8, 20] (fun ss t wr => ∃ k : Nat, k ≤ n ∧ t = .int .i64 k ∧ ss = .string (intB (dotZ x r k)) ∧ Hid (Ext wo wr)) (fun _ t _ => n - (intOf t).toNat)
      case atStart => exact ⟨0, by omega, rfl, by show _ = Value.string (intB 0); rw [intB_nought], Ext.refl _⟩
      case round =>
        obtain ⟨k, hk, rfl, rfl, HK⟩ := hrel
        obtain ⟨w3, rfl⟩ : ∃ w3 : World, w3 = wr := ⟨_, rfl⟩
        by_cases hkn : k < n
        · obtain ⟨bx, ox, rfl, hbx, xcell⟩ := HXC.out (by intro e; have := HXL.out; rw [e] at this; simp at this; omega)
          obtain ⟨br, orr, rfl, hbr, rcell⟩ := HRC.out (by intro e; have := HRL.out; rw [e] at this; simp at this; omega)
          obtain ⟨y, hy⟩ : ∃ y, x[k]? = some y := ⟨x[k]'(by rw [HXL.out]; exact hkn), List.getElem?_eq_getElem _⟩
          obtain ⟨z, hz⟩ : ∃ z, r[k]? = some z := ⟨r[k]'(by rw [HRL.out]; exact hkn), List.getElem?_eq_getElem _⟩
          have gx := (HE.out.trans HK.out).cell (xcell k y hy)
          have gr := HK.out.cell (rcell k z hz)
          have hyb := HXB.out y (List.mem_of_getElem? hy); have hzb := HRB.out z (List.mem_of_getElem? hz)
          have HD : Hid (dotZ x r (k + 1) = dotZ x r k + y * z) := by
            show dotZ x r k + x.getD k 0 * r.getD k 0 = _
            rw [List.getD_eq_getElem?_getD, List.getD_eq_getElem?_getD, hy, hz]; rfl
          have HOY := Lib.hid (fun W (hW : Ext w3 W) => of_any y W (by omega) (by omega) (HT.out.ext (HE.out.trans (HK.out.trans hW))))
          have HOZ := Lib.hid (fun W (hW : Ext w3 W) => of_any z W (by omega) (by omega) (HT.out.ext (HE.out.trans (HK.out.trans hW))))
          have hyz : (y * z).natAbs ≤ 1000000000 * 1000000000 := by rw [Int.natAbs_mul]; exact Nat.mul_le_mul hyb hzb
          have HMU := Lib.hid (fun W (hW : Ext w3 W) => mulI_any y z W (Nat.le_trans (intB_small (k := 10) (Nat.lt_of_le_of_lt hyb (by decide)) (by decide) (by decide)) (by decide)) (Nat.le_trans (intB_small (k := 10) (Nat.lt_of_le_of_lt hzb (by decide)) (by decide) (by decide)) (by decide)) (HT.out.ext (HE.out.trans (HK.out.trans hW))))
          have HAD := Lib.hid (fun W (hW : Ext w3 W) => addI_any (dotZ x r k) (y * z) W (Nat.le_trans (HDB.out k hk) (by decide)) (Nat.le_trans (intB_small (k := 19) (Nat.lt_of_le_of_lt hyz (by decide)) (by decide) (by decide)) (by decide)) (HT.out.ext (HE.out.trans (HK.out.trans hW))))
          rw [← HD.out] at HAD
          clear xcell rcell hy hz hyb hzb hyz
          go_upto_region 9 with fail
          --<R9
          refine region_anyEV (fun w' => w'.cell? ⟨br, orr + k, none⟩ = some (.int .i64 z) ∧ Hid (Ext w3 w')) 11 11 (by kernel_rfl) (by kernel_rfl) ⟨(Ext.drew w3).cell gr, Ext.drew w3⟩ (fun ops hO hHeld => ?_)
          generalize w3.drew = wd at hHeld ⊢
          have hi := getopN hO 0 (by decide)
          conv at hi => rhs; arg 1; whnf
          refine anyE_takeWV hO (v := ?_) 0 hi (by kernel_rfl) (by kernel_rfl) (by kernel_rfl) (by kernel_rfl) (fun _ _ _ h => h) (Or.inl ⟨by rfl, ?_⟩) (by assumption) ?_
          rotate_left
          · ((intro w'); (try go_simp); (try with_reducible rfl))
          clear hi
          (try simp only [Act.put, List.setIfInBounds_toArray, List.set_cons_zero, List.set_cons_succ])
          have hi := getopN hO 1 (by decide)
          conv at hi => rhs; arg 1; whnf
          refine anyE_takeWV hO (v := ?_) 1 hi (by kernel_rfl) (by kernel_rfl) (by kernel_rfl) (by kernel_rfl) (fun _ _ _ h => h) (Or.inl ⟨by rfl, ?_⟩) (by assumption) ?_
          rotate_left
          · ((intro w'); (try go_simp); (try with_reducible rfl))
          clear hi
          (try simp only [Act.put, List.setIfInBounds_toArray, List.set_cons_zero, List.set_cons_succ])
          have hi := getopN hO 3 (by decide)
          conv at hi => rhs; arg 1; whnf
          refine anyE_takeWV hO (v := ?_) 3 hi (by kernel_rfl) (by kernel_rfl) (by kernel_rfl) (by kernel_rfl) (fun _ _ _ h => h) (Or.inl ⟨by rfl, ?_⟩) (by assumption) ?_
          rotate_left
          · ((intro w'); (try go_simp); (try with_reducible rfl))
          clear hi
          (try simp only [Act.put, List.setIfInBounds_toArray, List.set_cons_zero, List.set_cons_succ])
          have hi := getopN hO 4 (by decide)
          conv at hi => rhs; arg 1; whnf
          refine anyE_takeWV hO (v := ?_) 4 hi (by kernel_rfl) (by kernel_rfl) (by kernel_rfl) (by kernel_rfl) (fun _ _ _ h => h) (Or.inl ⟨by rfl, ?_⟩) (by assumption) ?_
          rotate_left
          · ((intro w'); (try go_simp); (try with_reducible rfl))
          clear hi
          (try simp only [Act.put, List.setIfInBounds_toArray, List.set_cons_zero, List.set_cons_succ])
          have hi := getopN hO 5 (by decide)
          conv at hi => rhs; arg 1; whnf
          refine anyE_takeWV hO (v := ?_) 5 hi (by kernel_rfl) (by kernel_rfl) (by kernel_rfl) (by kernel_rfl) (fun _ _ _ h => h) (Or.inl ⟨by rfl, ?_⟩) (by assumption) ?_
          rotate_left
          · ((intro w'); (try go_simp); (try with_reducible rfl))
          clear hi
          (try simp only [Act.put, List.setIfInBounds_toArray, List.set_cons_zero, List.set_cons_succ])
          have hi := getopN hO 6 (by decide)
          conv at hi => rhs; arg 1; whnf
          refine anyE_takeV hO (v := ?_) 6 hi (by kernel_rfl) (by kernel_rfl) (by kernel_rfl) (by kernel_rfl) (fun _ _ _ h => h) (Or.inl ⟨by rfl, ?_⟩) (by assumption) ?_
          rotate_left
          · ((intro w' hSw); (try dsimp only at hSw); (try go_simp); (try with_reducible rfl))
          clear hi
          (try simp only [Act.put, List.setIfInBounds_toArray, List.set_cons_zero, List.set_cons_succ])
          have hi := getopN hO 2 (by decide)
          conv at hi => rhs; arg 1; whnf
          refine anyE_stepV hO 2 (by kernel_rfl) hi (fun K hK => ?_)
          go_simp
          (go_at_call 134; refine (HOY.out _ hHeld.2.out).mono ?_)
          rintro e w4 ⟨rfl, hEz⟩
          go_wp2_with fail
          refine hK.out _ _ ⟨(hEz).cell hHeld.1, Ext.trans hHeld.2.out (hEz)⟩ (fun hHeld => ?_)
          clear hK K hi
          (try simp only [Act.put, List.setIfInBounds_toArray, List.set_cons_zero, List.set_cons_succ])
          have hi := getopN hO 7 (by decide)
          conv at hi => rhs; arg 1; whnf
          refine anyE_stepV hO 7 (by kernel_rfl) hi (fun K hK => ?_)
          go_simp
          (go_at_call 134; refine (HOZ.out _ hHeld.2.out).mono ?_)
          rintro e w5 ⟨rfl, hEz⟩
          go_wp2_with fail
          refine hK.out _ _ ⟨(hEz).cell hHeld.1, Ext.trans hHeld.2.out (hEz)⟩ (fun hHeld => ?_)
          clear hK K hi
          (try simp only [Act.put, List.setIfInBounds_toArray, List.set_cons_zero, List.set_cons_succ])
          have hi := getopN hO 8 (by decide)
          conv at hi => rhs; arg 1; whnf
          refine anyE_stepV hO 8 (by kernel_rfl) hi (fun K hK => ?_)
          go_simp
          (go_at_call 78; refine (HMU.out _ hHeld.2.out).mono ?_)
          rintro e w6 ⟨rfl, hEz⟩
          go_wp2_with fail
          refine hK.out _ _ ⟨(hEz).cell hHeld.1, Ext.trans hHeld.2.out (hEz)⟩ (fun hHeld => ?_)
          clear hK K hi
          (try simp only [Act.put, List.setIfInBounds_toArray, List.set_cons_zero, List.set_cons_succ])
          have hi := getopN hO 9 (by decide)
          conv at hi => rhs; arg 1; whnf
          refine anyE_stepV hO 9 (by kernel_rfl) hi (fun K hK => ?_)
          go_simp
          (go_at_call 157; refine (HAD.out _ hHeld.2.out).mono ?_)
          rintro e w7 ⟨rfl, hEz⟩
          go_wp2_with fail
          refine hK.out _ _ ⟨(hEz).cell hHeld.1, Ext.trans hHeld.2.out (hEz)⟩ (fun hHeld => ?_)
          clear hK K hi
          (try simp only [Act.put, List.setIfInBounds_toArray, List.set_cons_zero, List.set_cons_succ])
          have hi := getopN hO 10 (by decide)
          conv at hi => rhs; arg 1; whnf
          refine anyE_lastV hO 10 (by kernel_rfl) (by kernel_rfl) hi (fun K hK => ?_)
          go_simp
          refine hK.out _ _ (by assumption) ?_
          clear hK K hi hO
          (try simp only [Act.put, List.setIfInBounds_toArray, List.set_cons_zero, List.set_cons_succ])
          -->R9
          go_wp2_with fail
          go_roundw
          case rel => exact ⟨k + 1, by omega, by go_num, rfl, HK.out.trans hHeld.2.out⟩
          case measure => simp [intOf]; omega
        · obtain rfl : k = n := by omega
          have HE4 := Lib.hid (HE.out.trans HK.out)
          have HB4 := Lib.hid (HBu.out.ext HK.out)
          have hszr := HE4.out.size
          have HSV : Hid (∃ a c, u5 = .slice a j c) := HSL.out
          go_wp2_with (at_builtin; go_must (refine wpList_append_build _ rfl _ _ 113 rfl w.heap.size 73 (.string ⟨#[]⟩) 1 16 Tryz.underlying113 infoBig rfl (by decide) u5 bigC ((temL M x k).take j) (dotZ x r k) #[.string (intB (dotZ x r k))] 73 rfl HB4.out rfl rfl ?e1 (fun _ _ => rfl) HJ.out (by decide) hszr ?_))
          case e1 => simp [Value.oneCell']
          intro v' w5 hB5 hg5 hb5 hs5 _
          have HV : Hid (∃ g cc, v' = .slice g (j + 1) cc) := by
            obtain ⟨us, b1, b2, b3, b4⟩ := id hB5
            obtain ⟨g, cc, hv, -⟩ := owns_shape b3 (by rw [List.length_append]; simp)
            refine ⟨some ⟨g, 0, none⟩, cc, ?_⟩
            rw [hv, List.length_append, HJL.out]; rfl
          rw [← HN.out] at hB5
          have HB5 := Lib.hid hB5
          have HX5 := Lib.hid (Below.trans HE4.out hb5)
          clear hB5 hg5 hb5
          go_wp2_with fail
          go_roundw
          case rel => exact ⟨j + 1, by omega, by go_num, HX5.out, HV, HB5.out⟩
          case measure => simp [intOf]; omega
    · obtain rfl : j = M.length := by omega
      obtain ⟨a, c, rfl⟩ := HSL.out
      have hB := HBu.out
      rw [List.take_of_length_le (by unfold temL; simp)] at hB
      have hO := Build.bigs hB
      have HO : Hid (wo.ownsRow w.heap.size 73 1 (.slice a M.length c) M.length (bigV (temL M x n))) := by
        unfold Hid bigV
        have hl : (temL M x n).length = M.length := by unfold temL; simp
        rw [hl] at hO; exact hO
      clear hB HBu HSL hO
      go_wp2_with fail
      go_ret
      exact ⟨a, c, rfl, HO.out, HE.out⟩
end Go.Proofs.YtehknemdfbkimaaGreatDoor
