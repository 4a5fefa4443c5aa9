/- Merged: ManyQ, MinLim, MatS, ManyT. -/
import Derived.Test.YtpeinobepiodaaaGreatDoorGM
import Derived.Test.YtpeinobepiodaaaGreatDoorGQ
import Derived.Test.YtpeinobepiodaaaGreatDoorGI
import Derived.Test.YtpeinobepiodaaaGreatDoorGA
import Derived.Test.YtpeinobepiodaaaGreatDoorGO
/- What TableMany counts (plain): the unit matrix is a right one; its minors, and how many of them are 1. -/
namespace Go.Proofs.YtpeinobepiodaaaGreatDoor
set_option linter.unusedVariables false
set_option linter.unusedSimpArgs false

theorem unit_tab : ∀ r, r < 8 → ∀ c, c < 8 → tabE (unitM r c) = 0 ∧ colsN (unitM r c) = if r = 0 then 0 else c := by decide +kernel
/-- Ones laid as far as j. -/
def unitTo (r c j : Nat) : List (List Int) := (List.range r).map fun i => (List.range c).map fun q => if i = q ∧ i < j then 1 else 0
theorem unitTo_zero : ∀ r, r < 8 → ∀ c, c < 8 → unitTo r c 0 = makeM [] c r := by decide +kernel
def endB (r c j : Nat) : Bool := !(decide (j = r) || decide (j = c)) || !(decide (j ≤ r) && decide (j ≤ c)) || decide (unitTo r c j = unitM r c)
def stepB (r c j : Nat) : Bool := !(decide (j < r) && decide (j < c)) || decide (unitTo r c (j + 1) = (unitTo r c j).set j (((unitTo r c j).getD j []).set j 1))
theorem unitTo_endB : ∀ r, r < 8 → ∀ c, c < 8 → ∀ j, j < 8 → endB r c j = true := by decide +kernel
theorem unitTo_stepB : ∀ r, r < 8 → ∀ c, c < 8 → ∀ j, j < 8 → stepB r c j = true := by decide +kernel
theorem unitTo_end {r c j : Nat} (hr : r < 8) (hc : c < 8) (h : j = r ∨ j = c) (h1 : j ≤ r) (h2 : j ≤ c) : unitTo r c j = unitM r c := by
  have := unitTo_endB r hr c hc j (by omega)
  unfold endB at this
  rcases h with rfl | rfl <;> simpa [h1, h2] using this
theorem unitTo_step {r c j : Nat} (hr : r < 8) (hc : c < 8) (h1 : j < r) (h2 : j < c) : unitTo r c (j + 1) = (unitTo r c j).set j (((unitTo r c j).getD j []).set j 1) := by
  have := unitTo_stepB r hr c hc j (by omega)
  unfold stepB at this
  rw [show decide (j < r) = true by simpa using h1, show decide (j < c) = true by simpa using h2] at this
  exact of_decide_eq_true (by simpa only [Bool.and_self, Bool.not_true, Bool.false_or] using this)
theorem unitTo_len (r c j : Nat) : (unitTo r c j).length = r := by simp [unitTo]
theorem unitTo_row {r c j i : Nat} (h : i < r) : ∃ q, (unitTo r c j)[i]? = some q ∧ q.length = c ∧ (unitTo r c j).getD i [] = q := by
  refine ⟨(List.range c).map fun q => if i = q ∧ i < j then 1 else 0, ?_, by simp, ?_⟩
  · unfold unitTo; rw [List.getElem?_map, List.getElem?_range h]; rfl
  · rw [List.getD_eq_getElem?_getD]; unfold unitTo; rw [List.getElem?_map, List.getElem?_range h]; rfl
def ones (l : List Int) : Nat := (l.filter fun x => decide (x = 1)).length
theorem ones_take {l : List Int} {i : Nat} {x : Int} (h : l[i]? = some x) : ones (l.take (i + 1)) = ones (l.take i) + if x = 1 then 1 else 0 := by
  unfold ones
  rw [List.take_add_one, h, List.filter_append, List.length_append]
  by_cases e : x = 1 <;> simp [e]
theorem ones_flat {α : Type} (f : α → List Int) : ∀ l : List α, ones (l.flatMap f) = (l.map fun x => ones (f x)).sum
  | [] => rfl
  | a :: l => by
    have := ones_flat f l
    unfold ones at *
    rw [List.flatMap_cons, List.filter_append, List.length_append, this, List.map_cons, List.sum_cons]
theorem ones_map {α : Type} [DecidableEq α] (R : α) (f : α → Int) : ∀ l : List α, (∀ C ∈ l, f C = if R = C then 1 else 0) → ones (l.map f) = (l.filter fun C => decide (R = C)).length
  | [], _ => rfl
  | C :: l, h => by
    have ih := ones_map R f l fun C hC => h C (by simp [hC])
    have h0 := h C (by simp)
    unfold ones at *
    rw [List.map_cons, List.filter_cons, List.filter_cons, h0]
    by_cases e : R = C
    · subst e; simp only [if_true, decide_true, List.length_cons]; rw [ih]
    · simp [e, ih]
theorem many_law {r c k : Nat} (hr : r < 8) (hc : c < 8) (hkr : k ≤ r) (hkc : k ≤ if r = 0 then 0 else c) :
    (minorsS (unitM r c) k).length = (setsL r k).length * (setsL (if r = 0 then 0 else c) k).length ∧ ones (minorsS (unitM r c) k) = (setsL (min r (if r = 0 then 0 else c)) k).length := by
  have hcols := (unit_tab r hr c hc).2
  have hlen : (unitM r c).length = r := by simp [unitM]
  have hkc2 : k ≤ c := by
    by_cases e : r = 0
    · rw [if_pos e] at hkc; omega
    · rw [if_neg e] at hkc; exact hkc
  unfold minorsS
  rw [hlen, hcols]
  refine ⟨length_flatMap_const _ _ (fun R => by simp) _, ?_⟩
  by_cases e : r = 0
  · subst e
    obtain rfl : k = 0 := by omega
    rfl
  · rw [if_neg e]
    have hm := many_all r hr c hc k (by omega) hkr hkc2
    simp only [manyOk, Bool.and_eq_true, decide_eq_true_eq] at hm
    rw [← hm.2, ones_flat]
    congr 1
    apply List.map_congr_left
    intro R hR
    refine ones_map R _ _ fun C hC => ?_
    have := (unit_minor hr hc hkr hkc2 hR hC).1
    unfold minorOf
    rw [this]
    by_cases e2 : R = C
    · rw [if_pos e2, if_pos e2]; rfl
    · rw [if_neg e2, if_neg e2]; rfl
end Go.Proofs.YtpeinobepiodaaaGreatDoor
/- table.Minors beyond its limit. -/
namespace Go.Proofs.YtpeinobepiodaaaGreatDoor
set_option linter.unusedVariables false
set_option linter.unusedSimpArgs false
open Go.RowKit

set_option maxRecDepth 100000 in
set_option maxHeartbeats 2000000 in
theorem minors_limit (xss : List (List Int)) (k : Nat) (v : Value) (w : World) (h : Rows2 w v xss) (hE : tabE xss = 0) (hk1 : k ≤ xss.length) (hk2 : k ≤ colsN xss) (hch : 1000 < chooseS xss.length k * chooseS (colsN xss) k) :
    Calls Tryz.prog 23 #[v, .int .i64 (k : Int)] w fun e w' => e = .returned (.tuple #[.slice none 0 0, .int .i64 4]) ∧ Ext w w' := by
  obtain ⟨hl, hrr⟩ := tabE_zero hE
  have hcl : colsN xss ≤ 12 := by
    unfold colsN
    cases xss with
    | nil => simp
    | cons r l => exact (hrr r (by simp)).2.1
  have hch2 : chooseS xss.length k * chooseS (colsN xss) k ≤ 1000000 := by
    obtain ⟨-, a1, a2⟩ := sets_ok hl hk1
    obtain ⟨-, b1, b2⟩ := sets_ok hcl hk2
    have := Nat.mul_le_mul (show chooseS xss.length k ≤ 1000 by omega) (show chooseS (colsN xss) k ≤ 1000 by omega)
    omega
  have HCH : Hid (∀ W, Ext w W → Calls Tryz.prog 41 #[v] W fun e w' => e = .returned (.int .i64 0) ∧ Ext W w') := fun W hW => by
    have := tabCheck_any xss v W (h.ext hW)
    rw [hE] at this; exact this
  have HCO : Hid (∀ W, Ext w W → Calls Tryz.prog 43 #[v] W fun e w' => e = .returned (.int .i64 (colsN xss : Int)) ∧ w' = W) := fun W hW => (columns_any xss v W (h.ext hW)).mono fun _ _ ⟨a, b⟩ => ⟨a, b.symm⟩
  have HC1 : Hid (∀ W, Calls Tryz.prog 63 #[.int .i64 (xss.length : Int), .int .i64 (k : Int)] W fun e w' => e = .returned (.int .i64 (chooseS xss.length k : Int)) ∧ w' = W) := fun W => (choose_any _ _ W hl hk1).mono fun _ _ ⟨a, b⟩ => ⟨a, b.symm⟩
  have HC2 : Hid (∀ W, Calls Tryz.prog 63 #[.int .i64 (colsN xss : Int), .int .i64 (k : Int)] W fun e w' => e = .returned (.int .i64 (chooseS (colsN xss) k : Int)) ∧ w' = W) := fun W => (choose_any _ _ W hcl hk2).mono fun _ _ ⟨a, b⟩ => ⟨a, b.symm⟩
  have HROWS := Lib.hid h; have HRR := Lib.hid hrr
  obtain ⟨a, c, rfl, h1, h2, -, hcc⟩ := inCell.open h
  have HCELL := Lib.hid hcc
  obtain ⟨n, hn⟩ : ∃ n, n = xss.length := ⟨_, rfl⟩
  obtain ⟨m, hm⟩ : ∃ m, m = colsN xss := ⟨_, rfl⟩
  rw [← hn] at HC1 HCO HCH h1 hk1 hch hch2 hl HROWS ⊢
  rw [← hm] at HC2 HCO hk2 hch hch2 hcl
  obtain ⟨c1, hc1⟩ : ∃ c, c = chooseS n k := ⟨_, rfl⟩
  obtain ⟨c2, hc2⟩ : ∃ c, c = chooseS m k := ⟨_, rfl⟩
  rw [← hc1] at HC1 hch hch2
  rw [← hc2] at HC2 hch hch2
  have HCC := Lib.hid (And.intro hc1 hc2)
  have HNM := Lib.hid (And.intro hn hm)
  unfold maxLen at h2
  have q0 : ¬ (k : Int) < 0 := by omega
  have q1 : ¬ (n : Int) < (k : Int) := by omega
  have q2 : ¬ (m : Int) < (k : Int) := by omega
  have hub : c1 * c2 ≤ 1000000 := hch2
  have hcm : ((c1 * c2 : Nat) : Int) = (c1 : Int) * (c2 : Int) := Int.natCast_mul _ _
  have q3 : IntKind.i64.wrap ((c1 : Int) * (c2 : Int)) = (c1 : Int) * (c2 : Int) := by rw [← hcm, IntKind.wrap_i64]; have := hub; omega
  have q4 : (1000 : Int) < (c1 : Int) * (c2 : Int) := by rw [← hcm]; omega
  have z0 := decide_eq_false q0
  have z1 := decide_eq_false q1
  have z2 := decide_eq_false q2
  have z4 := decide_eq_true q4
  have z5 : decide (n < k) = false := by rw [decide_eq_false_iff_not]; omega
  have z6 : decide (m < k) = false := by rw [decide_eq_false_iff_not]; omega
  clear h hE hrr hcc hn hm hc1 hc2 hcm
  refine (callsIn_wide (n := 9)).1 ?_
  refine callsIn_of_wp_marks Tryz.func23 rfl trivial ?_ rfl
  simp only [Tryz.ntmps23, List.size_toArray, List.length_cons, List.length_nil, Nat.reduceAdd, Nat.reduceSub, Array.replicate_succ, Array.replicate_zero, List.push_toArray, List.append_toArray, List.nil_append, List.cons_append]
  obtain ⟨W2, hW2⟩ : ∃ W2, (w.alloc (.cells #[.slice a n c] 23)).alloc (.cells #[.int .i64 (k : Int)] 3) = W2 := ⟨_, rfl⟩
  have hX2 : Ext w W2 := by rw [← hW2]; exact (Ext.alloc _ _).trans (Ext.alloc _ _)
  have hs2 : W2.heap.size = w.heap.size + 2 := by rw [← hW2]; simp
  have hb1 : Boxed W2 w.heap.size 23 (.slice a n c) := by
    rw [← hW2]; exact Boxed.alloc (Boxed.new w _ _) _
  have hb2 : Boxed W2 (w.heap.size + 1) 3 (.int .i64 (k : Int)) := by
    rw [← hW2]
    have := Boxed.new (w.alloc (.cells #[.slice a n c] 23)) 3 (.int .i64 (k : Int))
    simpa using this
  have HX2 := Lib.hid hX2; have HB1 := Lib.hid hb1; have HB2 := Lib.hid hb2; have HS2 := Lib.hid hs2
  have d1 := hb1.cell; have d2 := hb2.cell
  clear hX2 hs2 hb1 hb2
  refine wpIn_wide.2 ?_
  go_wp2_with fail
  refine (HCH.out _ HX2.out).mono ?_
  rintro e w1 ⟨rfl, hE1⟩
  have HX1 := Lib.hid (Ext.trans HX2.out hE1)
  have e1 := hE1.cell d1; have e2 := hE1.cell d2
  have HBX1 : Hid (Boxed w1 w.heap.size 23 (.slice a n c) ∧ Boxed w1 (w.heap.size + 1) 3 (.int .i64 (k : Int)) ∧ w.heap.size + 2 ≤ w1.heap.size) := ⟨block_ext HB1.out hE1, block_ext HB2.out hE1, by have := hE1.size; have := HS2.out; omega⟩
  clear hE1 d1 d2 hW2 HCH
  go_wp2_with fail
  go_quiet ((go_at_call 43; exact Calls.quiet_of_same (HCO.out _ (Ext.draws HX1.out _))))
  go_wp2_with fail
  obtain ⟨wq, hwq⟩ : ∃ wq, wq = w1.drewN nq := ⟨_, rfl⟩
  rw [← hwq]
  have hEQ : Ext w1 wq := by rw [hwq]; exact Ext.drewN _ _
  have HXQ := Lib.hid (Ext.trans HX1.out hEQ)
  have b1 := hEQ.cell e1; have b2 := hEQ.cell e2
  have HBXQ : Hid (Boxed wq w.heap.size 23 (.slice a n c) ∧ Boxed wq (w.heap.size + 1) 3 (.int .i64 (k : Int)) ∧ w.heap.size + 2 ≤ wq.heap.size) := ⟨block_ext HBX1.out.1 hEQ, block_ext HBX1.out.2.1 hEQ, by have := hEQ.size; have := HBX1.out.2.2; omega⟩
  clear hwq hEQ e1 e2 HBX1 HX1 HX2 HB1 HB2 HS2
  go_quiet ((first | (go_at_call 43; exact Calls.quiet_of_same (HCO.out _ (Ext.draws HXQ.out _))) | (go_at_call 63; with_reducible exact Calls.quiet_of_same (HC1.out _)) | (go_at_call 63; with_reducible exact Calls.quiet_of_same (HC2.out _))))
  have HXZ := Lib.hid (Ext.draws HXQ.out nq)
  go_wp2_with fail

  refine ⟨_, results_tmp2 rfl _ _ _, rfl, ?_⟩
  exact HXZ.out
end Go.Proofs.YtpeinobepiodaaaGreatDoor
/- A store into a matrix of ints that was built. -/
namespace Go.Proofs.YtpeinobepiodaaaGreatDoor
set_option linter.unusedVariables false
set_option linter.unusedSimpArgs false
open Go.RowKit

theorem tagQs_set {α : Type} {tags : List (Nat × Nat)} {m : List (List α)} {i : Nat} {r q : List α} (hr : m[i]? = some r) (hl : q.length = r.length) : tagQs tags (m.set i q) = tagQs tags m := by
  unfold tagQs
  apply List.ext_getElem?
  intro j
  rw [List.getElem?_zipWith, List.getElem?_zipWith, List.getElem?_set]
  by_cases e : i = j
  · subst e
    have hi := (List.getElem?_eq_some_iff.1 hr).1
    rw [if_pos rfl, if_pos hi, hr]
    cases tags[i]? with
    | none => rfl
    | some t => simp [hl]
  · rw [if_neg e]
theorem RowsO.setI {e : TypeId} {w : World} {ob base : Nat} {v : Value} {tags : List (Nat × Nat)} {m : List (List Int)} (h : RowsO intK e w ob base v tags m) {i j : Nat} {t : Nat × Nat} {r : List Int} (ht : tags[i]? = some t) (hr : m[i]? = some r) (hj : j < r.length) (x : Int) :
    RowsO intK e (w.setCell ⟨t.1, j, none⟩ (.int .i64 x)) ob base v tags (m.set i (r.set j x)) := by
  obtain ⟨h1, h2, h3, h4, h5⟩ := h.row i t r ht hr
  have hg := grown_setCell w t.1 j (.int .i64 x)
  refine ⟨by rw [List.length_set]; exact h.len, ?_, fun i' s q hs hq => ?_, h.nodup⟩
  · rw [List.length_set, tagQs_set hr (by simp)]
    exact h.own.kept hg (.inr h5)
  · rw [List.getElem?_set] at hq
    by_cases e' : i = i'
    · subst e'
      rw [if_pos rfl, if_pos (List.getElem?_eq_some_iff.1 hr).1] at hq
      cases hq
      rw [ht] at hs
      cases hs
      exact ⟨by rw [List.length_set]; exact h1, h2, RowI.set h3 j hj x, h4, h5⟩
    · rw [if_neg e'] at hq
      obtain ⟨k1, k2, k3, k4, k5⟩ := h.row i' s q hs hq
      refine ⟨k1, k2, intK.same k3 hg.size (hg.block s.1 (intK.lt k3) fun e2 => ?_), k4, k5⟩
      have e3 : s.1 = t.1 := Option.some.inj e2
      have l1 := (List.getElem?_eq_some_iff.1 ht).1
      have l2 := (List.getElem?_eq_some_iff.1 hs).1
      have hn := h.nodup
      have e4 : (tags.map (·.1))[i]'(by simpa using l1) = (tags.map (·.1))[i']'(by simpa using l2) := by
        have a1 := (List.getElem?_eq_some_iff.1 ht).2
        have a2 := (List.getElem?_eq_some_iff.1 hs).2
        simp only [List.getElem_map]
        rw [a1, a2, e3]
      have hp := List.pairwise_iff_getElem.1 hn
      rcases Nat.lt_or_gt_of_ne e' with h8 | h8
      · exact hp i i' (by simpa using l1) (by simpa using l2) h8 e4
      · exact hp i' i (by simpa using l2) (by simpa using l1) h8 e4.symm
end Go.Proofs.YtpeinobepiodaaaGreatDoor
/- The walk of TableMany. -/
namespace Go.Proofs.YtpeinobepiodaaaGreatDoor
set_option linter.unusedVariables false
set_option linter.unusedSimpArgs false
open Go.RowKit

set_option maxRecDepth 100000 in
set_option maxHeartbeats 2000000 in
theorem many_walk (x y z : Int) (w : World) (hx : 0 ≤ x ∧ x ≤ 255) (hy : 0 ≤ y ∧ y ≤ 255) (hz : 0 ≤ z ∧ z ≤ 255) (ht : Pow10 w) :
    Calls Tryz.prog 5 #[.int .u8 x, .int .u8 y, .int .u8 z] w fun e w' => e = .returned (.bool true) ∧ Ext w w' := by
  have HT := Lib.hid ht
  obtain ⟨r, hr⟩ : ∃ r : Nat, (r : Int) = x.tmod 8 := ⟨(x.tmod 8).toNat, by rw [Int.toNat_of_nonneg (Int.tmod_nonneg _ hx.1)]⟩
  obtain ⟨c, hc⟩ : ∃ c : Nat, (c : Int) = y.tmod 8 := ⟨(y.tmod 8).toNat, by rw [Int.toNat_of_nonneg (Int.tmod_nonneg _ hy.1)]⟩
  obtain ⟨k, hk⟩ : ∃ k : Nat, (k : Int) = z.tmod 8 := ⟨(z.tmod 8).toNat, by rw [Int.toNat_of_nonneg (Int.tmod_nonneg _ hz.1)]⟩
  have hr8 : r < 8 := by have := (tmod_bd x 8 (by omega)).2; omega
  have hc8 : c < 8 := by have := (tmod_bd y 8 (by omega)).2; omega
  have hk8 : k < 8 := by have := (tmod_bd z 8 (by omega)).2; omega
  have w1 : IntKind.u8.wrap (x.tmod 8) = (r : Int) := by rw [← hr, IntKind.wrap_u8]; omega
  have w2 : IntKind.u8.wrap (y.tmod 8) = (c : Int) := by rw [← hc, IntKind.wrap_u8]; omega
  have w3 : IntKind.u8.wrap (z.tmod 8) = (k : Int) := by rw [← hk, IntKind.wrap_u8]; omega
  have v1 := hr.symm; have v2 := hc.symm; have v3 := hk.symm
  clear hr hc hk ht
  go_enter Tryz.func5, Tryz.ntmps5
  go_wp2_with fail
  refine (known_any _ HT.out).mono ?_
  rintro e w1 ⟨rfl, hE1⟩
  have HE1 := Lib.hid hE1
  clear hE1
  go_wp2_with fail
  refine (make6_any 0 0 _ [] r c (by omega) (by omega) w1 (i8s_nil _)).mono ?_
  rintro e w2 ⟨v, tags, rfl, hO, hE2⟩
  rw [← unitTo_zero r hr8 c hc8] at hO
  have HO := Lib.hid hO
  have HE2 := Lib.hid hE2
  clear hO hE2
  go_wp2_with fail
  go_loopw [11] (fun t wr => ∃ j : Nat, j ≤ r ∧ j ≤ c ∧ t = .int .i64 j ∧ Hid (Ext w1 wr) ∧ Hid (RowsO intK 51 wr (w1.heap.size + 1) (w1.heap.size + 1) v tags (unitTo r c j))) (fun t _ => r - (intOf t).toNat)
  case atStart => exact ⟨0, by omega, by omega, rfl, HE2.out, HO.out⟩
  case round =>
    obtain ⟨j, hj1, hj2, rfl, HE, HJ⟩ := hrel
    obtain ⟨wo, rfl⟩ : ∃ wo : World, wo = wr := ⟨_, rfl⟩
    by_cases hlt : j < r ∧ j < c
    · obtain ⟨l1, l2⟩ := hlt
      obtain ⟨q, hq, hql, hqd⟩ := unitTo_row (c := c) (j := j) l1
      obtain ⟨t, ht⟩ : ∃ t, tags[j]? = some t := ⟨tags[j]'(by rw [HJ.out.len, unitTo_len]; exact l1), List.getElem?_eq_getElem _⟩
      obtain ⟨g, cap, rfl, -⟩ := owns_shape HJ.out.own (by rw [unitTo_len]; omega)
      obtain ⟨-, -, -, hpp, -⟩ := HJ.out.parts
      obtain ⟨g1, k1, k2, hRI⟩ := hpp j t q ht hq
      rw [hql] at g1
      have hc0 : q[j]? = some (q[j]'(by omega)) := List.getElem?_eq_getElem _
      have c0 := hRI.cell j _ hc0
      have f0 := hRI.free j
      have HJ2 := Lib.hid (HJ.out.setI ht hq (j := j) (by omega) 1)
      rw [← hqd, ← unitTo_step hr8 hc8 l1 l2] at HJ2
      have HT1 : Hid (w1.heap.size + 1 ≤ t.1) := (HJ.out.fresh (List.mem_map.2 ⟨t, List.mem_of_getElem? ht, rfl⟩)).1
      have HE3 : Hid (Ext w1 (wo.setCell ⟨t.1, j, none⟩ (.int .i64 1))) := Below.setCell HE.out (by have := HT1.out; show w1.heap.size ≤ t.1; omega) (.int .i64 1)
      clear hpp hRI hq ht hqd hc0
      rw [unitTo_len]
      have y1 : decide (j < r) = true := decide_eq_true l1
      have y2 : decide (j < c) = true := decide_eq_true l2
      go_wp2_with fail
      go_roundw
      case rel => exact ⟨j + 1, by omega, by omega, by go_num, HE3.out, by rw [unitTo_len] at HJ2; exact HJ2.out⟩
      case measure => simp [intOf]; omega
    · have HEND := Lib.hid (unitTo_end hr8 hc8 (j := j) (by omega) hj1 hj2)
      rw [HEND.out] at HJ
      go_upto_region 7 with fail
      go_cut [39] from 32 to 38 (fun s wx => s = .bool false ∧ wx = wo)
      case first =>
        by_cases l1 : j < r
        · have y1 : decide (j < r) = true := decide_eq_true l1
          have l2 : ¬ j < c := fun e => hlt ⟨l1, e⟩
          have y2 : decide (j < c) = false := decide_eq_false l2
          go_wp2_with fail
          go_meet
          exact ⟨rfl, rfl⟩
        · have y1 : decide (j < r) = false := decide_eq_false l1
          go_wp2_with fail
          go_meet
          exact ⟨rfl, rfl⟩
      case rest =>
        obtain ⟨rfl, rfl⟩ := hcut
        obtain ⟨wo, rfl⟩ : ∃ wo : World, wo = wc := ⟨_, rfl⟩
        clear hlt
        go_upto_if 49 with fail
        go_cut [8] from 50 to 50 (fun s wx => s = .int .i64 ((if r = 0 then 0 else c : Nat) : Int) ∧ wx = wo)
        case first =>
          by_cases h0 : r = 0
          · subst h0
            go_wp2_with fail
            go_meet
            exact ⟨rfl, rfl⟩
          · go_wp2_with fail
            go_meet
            exact ⟨by rw [if_neg h0], rfl⟩
        case rest =>
          obtain ⟨rfl, rfl⟩ := hcut
          obtain ⟨wo, rfl⟩ : ∃ wo : World, wo = wc := ⟨_, rfl⟩
          obtain ⟨c', hc'⟩ : ∃ d, d = (if r = 0 then 0 else c) := ⟨_, rfl⟩
          rw [← hc']
          have HXO : Hid (Ext w wo) := Ext.trans HE1.out HE.out
          have HC' := Lib.hid hc'
          have hcc : c' ≤ c := by rw [hc']; split <;> omega
          clear hc'
          by_cases b1 : r < k
          · have y1 : decide (r < k) = true := decide_eq_true b1
            go_wp2_with fail
            go_ret
            exact ⟨rfl, HXO.out⟩
          · have y1 : decide (r < k) = false := decide_eq_false b1
            by_cases b2 : c' < k
            · have y2 : decide (c' < k) = true := decide_eq_true b2
              go_wp2_with fail
              go_ret
              exact ⟨rfl, HXO.out⟩
            · have y2 : decide (c' < k) = false := decide_eq_false b2
              have hk1 : k ≤ r := by omega
              have hk2 : k ≤ c' := by omega
              obtain ⟨-, hs1, hs2⟩ := sets_ok (n := r) (by omega) hk1
              obtain ⟨-, hs3, hs4⟩ := sets_ok (n := c') (by omega) hk2
              go_upto_region 14 with fail
              go_wp2_with fail
              refine (refSets_any r k (by omega) hk1 wo).mono ?_
              rintro e w3 ⟨u, rfl, hU, hE3⟩
              have HX3 := Lib.hid (Ext.trans HXO.out hE3)
              have HJ3 := Lib.hid (HJ.out.ext hE3)
              obtain ⟨ua, uc, rfl, hu1, hu2, -, -⟩ := inCell.open hU
              have hul : (castS (setsL r k)).length = (setsL r k).length := by simp [castS]
              rw [hul] at hu1 ⊢
              obtain ⟨N1, hN1⟩ : ∃ n, n = (setsL r k).length := ⟨_, rfl⟩
              rw [← hN1] at hu1 hs1 hs2 ⊢
              have HN1 := Lib.hid hN1
              clear hul hN1 hU hE3
              go_wp2_with fail
              refine (refSets_any c' k (by omega) hk2 w3).mono ?_
              rintro e w4 ⟨u', rfl, hU, hE4⟩
              have HX4 := Lib.hid (Ext.trans HX3.out hE4)
              have HJ4 := Lib.hid (HJ3.out.ext hE4)
              obtain ⟨ub, ud, rfl, hu3, hu4, -, -⟩ := inCell.open hU
              have hul : (castS (setsL c' k)).length = (setsL c' k).length := by simp [castS]
              rw [hul] at hu3 ⊢
              obtain ⟨N2, hN2⟩ : ∃ n, n = (setsL c' k).length := ⟨_, rfl⟩
              rw [← hN2] at hu3 hs3 hs4 ⊢
              have HN2 := Lib.hid hN2
              clear hul hN2 hU hE4
              have hub : N1 * N2 ≤ 1000000 := by
                have := Nat.mul_le_mul hs2 hs4
                omega
              have hcm : ((N1 * N2 : Nat) : Int) = (N1 : Int) * (N2 : Int) := Int.natCast_mul _ _
              have q3 : IntKind.i64.wrap ((N1 : Int) * (N2 : Int)) = (N1 : Int) * (N2 : Int) := by rw [← hcm, IntKind.wrap_i64]; omega
              have HCM := Lib.hid hcm
              clear hcm
              obtain ⟨hE0, hcols⟩ := unit_tab r hr8 c hc8
              rw [← HC'.out] at hcols
              have hul : (unitM r c).length = r := by simp [unitM]
              have HRW := Lib.hid (HJ4.out.rows2 (fun q hq x hx => by
                have := (tabE_zero hE0).2 q hq
                have := this.2.2 x hx
                omega))
              have HLW := Lib.hid (many_law (r := r) (c := c) (k := k) hr8 hc8 hk1 (by rw [← HC'.out]; exact hk2))
              rw [← HC'.out, ← HN1.out, ← HN2.out] at HLW
              by_cases hbig : 1000 < N1 * N2
              · have HMN := Lib.hid (minors_limit (unitM r c) k _ w4 HRW.out hE0 (by rw [hul]; exact hk1) (by rw [hcols]; exact hk2) (by rw [hul, hcols, hs1, hs3]; exact hbig))
                have z1 : (1000 : Int) < (N1 : Int) * (N2 : Int) := by rw [← HCM.out]; omega
                clear hE0 hcols hul hs1 hs3 hu1 hu2 hu3 hu4
                go_wp2_with fail
                refine HMN.out.mono ?_
                rintro e w5 ⟨rfl, hE5⟩
                have HX5 := Lib.hid (Ext.trans HX4.out hE5)
                clear hE5
                go_wp2_with fail
                go_ret
                exact ⟨rfl, HX5.out⟩
              · have hmin : ∀ R ∈ setsL (unitM r c).length k, ∀ C ∈ setsL (colsN (unitM r c)) k, ∀ j, j < k → AllRS 2500 (redTo (matQ (partI (unitM r c) R C)) j).m ∧ RS 9000 (redTo (matQ (partI (unitM r c) R C)) j).det := by
                  intro R hR C hC j hj
                  have hr0 : r ≠ 0 := by omega
                  have hcc2 : c' = c := by rw [HC'.out, if_neg hr0]
                  rw [hul] at hR
                  rw [hcols, hcc2] at hC
                  exact (unit_minor hr8 hc8 hk1 (by omega) hR hC).2 j
                have HMN := Lib.hid (minors_any (unitM r c) k _ w4 HRW.out hE0 (by rw [hul]; exact hk1) (by rw [hcols]; exact hk2) (by rw [hul, hcols, hs1, hs3]; omega) hmin (HT.out.ext HX4.out))
                have z1 : ¬ (1000 : Int) < (N1 : Int) * (N2 : Int) := by rw [← HCM.out]; omega
                clear hE0 hcols hul hs1 hs3 hu1 hu2 hu3 hu4 hmin
                go_wp2_with fail
                refine HMN.out.mono ?_
                rintro e w5 ⟨l, rfl, hL, hE5⟩
                have HX5 := Lib.hid (Ext.trans HX4.out hE5)
                obtain ⟨L, hLL⟩ : ∃ L, L = minorsS (unitM r c) k := ⟨_, rfl⟩
                rw [← hLL] at hL HLW
                obtain ⟨la, lc, rfl, hl1, hl2, -, hl3⟩ := ListAt.open hL
                have HL3 := Lib.hid hl3
                clear hE5 hL hl3 hLL
                go_wp2_with fail
                have HBD : Hid (L.length ≤ 1000) := by have := HLW.out.1; unfold Hid; omega
                have hbd := HBD.out
                go_loopw [16, 15] (fun t o wr => ∃ i n : Nat, i ≤ L.length ∧ n ≤ i ∧ t = .int .i64 i ∧ o = .int .i64 n ∧ Hid (n = ones (L.take i)) ∧ Hid (Ext w5 wr)) (fun t _ _ => L.length - (intOf t).toNat)
                case atStart => exact ⟨0, 0, by omega, by omega, rfl, rfl, rfl, Ext.refl _⟩
                case round =>
                  obtain ⟨i, n, hi, hni, rfl, rfl, HNO, HEW⟩ := hrel
                  obtain ⟨wl, rfl⟩ : ∃ wl : World, wl = wr := ⟨_, rfl⟩
                  by_cases hil : i < L.length
                  · obtain ⟨x1, hx1⟩ : ∃ x, L[i]? = some x := ⟨L[i], List.getElem?_eq_getElem hil⟩
                    obtain ⟨lb, lo, rfl, hlb, hlc⟩ := HL3.out (by omega) (by intro e; rw [e] at hil; simp at hil)
                    obtain ⟨us, _, hus, hcell⟩ := hlc i x1 hx1
                    have g0 := hcell 0 (by omega)
                    rw [show us = [.string (intB x1)] from hus] at g0
                    have g1 := HEW.out.cell g0
                    simp only [Nat.mul_one, Nat.add_zero, List.getElem?_cons_zero] at g1
                    have HNS := Lib.hid (ones_take hx1)
                    clear hcell hlc hus g0 hx1
                    by_cases e1 : x1 = 1
                    · rw [e1, show intB 1 = ⟨#[49]⟩ from int_digit 1 (by omega)] at g1
                      rw [if_pos e1, ← HNO.out] at HNS
                      clear e1
                      go_wp2_with fail
                      go_roundw
                      case rel => exact ⟨i + 1, n + 1, by omega, by omega, by go_num, by go_num, HNS.out.symm, HEW.out⟩
                      case measure => simp [intOf]; omega
                    · have h3 : ((intB x1).toList == [49]) = false := by
                        rw [beq_eq_false_iff_ne]
                        intro e
                        apply e1
                        have h2 : (intB x1).toList = (intB 1).toList := e.trans (by rw [show intB 1 = ⟨#[49]⟩ from int_digit 1 (by omega)]; decide +kernel)
                        rw [intB_list, intB_list] at h2
                        exact itoa_inj h2
                      rw [if_neg e1, ← HNO.out, Nat.add_zero] at HNS
                      obtain ⟨s, hs⟩ : ∃ s, s = intB x1 := ⟨_, rfl⟩
                      rw [← hs] at g1 h3
                      clear hs e1
                      go_wp2_with fail
                      go_roundw
                      case rel => exact ⟨i + 1, n, by omega, by omega, by go_num, rfl, HNS.out.symm, HEW.out⟩
                      case measure => simp [intOf]; omega
                  · obtain rfl : i = L.length := by omega
                    rw [List.take_length, HLW.out.2] at HNO
                    have HXL := Lib.hid (Ext.trans HX5.out HEW.out)
                    have hnb : n ≤ 1000 := by omega
                    have hcnt : (L.length : Int) = (N1 : Int) * (N2 : Int) := by rw [← HCM.out, HLW.out.1]
                    have HCNT := Lib.hid hcnt
                    have hcb : ((L.length : Int) == (N1 : Int) * (N2 : Int)) = true := by rw [hcnt]; exact beq_self_eq_true _
                    clear hcnt
                    go_wp2_with fail
                    rw [show min (r : Int) (c' : Int) = ((min r c' : Nat) : Int) by omega]
                    refine (refSets_any (min r c') k (by omega) (by omega) wl).mono ?_
                    rintro e w6 ⟨u6, rfl, hU, hE6⟩
                    have HX6 := Lib.hid (Ext.trans HXL.out hE6)
                    obtain ⟨uc6, ud6, rfl, -, -, -, -⟩ := inCell.open hU
                    have hul : (castS (setsL (min r c') k)).length = n := by rw [HNO.out]; simp [castS]
                    rw [hul]
                    clear hul hU hE6
                    go_wp2_with fail
                    go_ret
                    exact ⟨rfl, HX6.out⟩
end Go.Proofs.YtpeinobepiodaaaGreatDoor
