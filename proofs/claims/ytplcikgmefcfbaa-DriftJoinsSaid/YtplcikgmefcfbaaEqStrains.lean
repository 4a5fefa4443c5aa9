/- Contracts of slices.EqualFunc at strains and of DriftFollows's function. -/
import Derived.Test.YtplcikgmefcfbaaEqRows
import Derived.Test.YtplcikgmefcfbaaDriftF
namespace Go.Proofs.Ytplcikgmefcfbaa
set_option linter.unusedVariables false
set_option linter.unusedSimpArgs false
open Go.RowKit

set_option maxRecDepth 100000 in
set_option maxHeartbeats 1000000 in
theorem follows1_any (x y : Nat × Nat × List Int) (va vb : Value) (w : World) (h : Ints w va x.2.2) (k : Ints w vb y.2.2) :
    Calls Try.prog 19 #[.agg #[.int .i64 x.1, .int .i64 x.2.1, va], .agg #[.int .i64 y.1, .int .i64 y.2.1, vb]] w fun e w' => e = .returned (.bool (x == y)) ∧ Ext w w' := by
  obtain ⟨i, j, xs⟩ := x
  obtain ⟨i', j', ys⟩ := y
  obtain ⟨w1, hW1, hE1, hsz1, b0, b1, b2⟩ := box_walk w (.int .i64 (i : Int)) (.int .i64 (j : Int)) va 62
  obtain ⟨w2, hW2, hE2, hsz2, c0, c1, c2⟩ := box_walk w1 (.int .i64 (i' : Int)) (.int .i64 (j' : Int)) vb 62
  have hs1 : w1.heap.size = w.heap.size + 1 := by rw [← hW1]; simp
  rw [hs1] at c0 c1 c2
  have d0 := hE2.cell b0; have d1 := hE2.cell b1; have d2 := hE2.cell b2
  have HEQ := Lib.hid (fun W' (he : Ext w2 W') => equalRow_any xs ys va vb W' (Ints.ext h ((hE1.trans hE2).trans he)) (Ints.ext k ((hE1.trans hE2).trans he)))
  have HE := Lib.hid (hE1.trans hE2)
  clear h k hE1 hE2 b0 b1 b2
  by_cases h1 : i = i'
  · have e1 : ((i : Int) == (i' : Int)) = true := by simp [h1]
    by_cases h2 : j = j'
    · have e2 : ((j : Int) == (j' : Int)) = true := by simp [h2]
      have HR : Hid (((i, j, xs) == (i', j', ys)) = (xs == ys)) := by
        subst h1; subst h2
        show ((i == i) && ((j == j) && (xs == ys))) = (xs == ys)
        simp
      clear h1 h2
      go_enter Try.func19, Try.ntmps19
      go_wp2_with fail
      refine (HEQ.out _ (Ext.refl _)).mono ?_
      rintro e w3 ⟨rfl, hE3⟩
      go_wp2_with fail
      go_ret
      rw [HR.out]
      exact ⟨rfl, HE.out.trans hE3⟩
    · have e2 : ((j : Int) == (j' : Int)) = false := by simp; omega
      have HR : Hid (((i, j, xs) == (i', j', ys)) = false) := by
        show ((i == i') && ((j == j') && (xs == ys))) = false
        simp [h2]
      clear h1 h2
      go_enter Try.func19, Try.ntmps19
      go_wp2_with fail
      go_ret
      rw [HR.out]
      exact ⟨rfl, HE.out⟩
  · have e1 : ((i : Int) == (i' : Int)) = false := by simp; omega
    have HR : Hid (((i, j, xs) == (i', j', ys)) = false) := by
      show ((i == i') && ((j == j') && (xs == ys))) = false
      simp [h1]
    clear h1
    go_enter Try.func19, Try.ntmps19
    go_wp2_with fail
    go_ret
    rw [HR.out]
    exact ⟨rfl, HE.out⟩

theorem Strs.open {w : World} {v : Value} {xs : List (Nat × Nat × List Int)} (h : Strs w v xs) :
    ∃ (a : Option Addr) (cap : Nat), v = .slice a xs.length cap ∧ xs.length ≤ cap ∧ cap ≤ maxLen ∧ (a = none → cap = 0) ∧
      (xs ≠ [] → ∃ b off, a = some ⟨b, off, none⟩ ∧ b < w.heap.size ∧ ∀ (j : Nat) x, xs[j]? = some x → ∃ u, Ints w u x.2.2 ∧ w.cell? ⟨b, off + j * 3, none⟩ = some (.int .i64 x.1) ∧ w.cell? ⟨b, off + j * 3 + 1, none⟩ = some (.int .i64 x.2.1) ∧ w.cell? ⟨b, off + j * 3 + 2, none⟩ = some u) := by
  obtain ⟨a, cap, hv, h1, h2, h3, h4⟩ := ListAt.open h
  refine ⟨a, cap, hv, h1, h2, h3, fun hx => ?_⟩
  obtain ⟨b, off, ha, hb, hc⟩ := h4 (by omega) hx
  refine ⟨b, off, ha, hb, fun j x hj => ?_⟩
  obtain ⟨u, _, ⟨v', rfl, hv'⟩, hcell⟩ := hc j x hj
  have e0 := hcell 0 (by omega)
  have e1 := hcell 1 (by omega)
  have e2 := hcell 2 (by omega)
  exact ⟨v', hv', by simpa using e0, by rw [Nat.add_assoc]; simpa using e1, by rw [Nat.add_assoc]; simpa using e2⟩

set_option maxRecDepth 100000 in
set_option maxHeartbeats 1000000 in
/-- slices.EqualFunc: the lengths are equal and p holds of each pair. -/
theorem equalFuncStrains_any (xs ys : List (Nat × Nat × List Int)) (u v : Value) (g : Nat) (lb : Array Value) (p : Nat × Nat × List Int → Nat × Nat × List Int → Bool) (w : World) (h : Strs w u xs) (k : Strs w v ys)
    (eg : ∀ args w, (callFunc g args).run Try.prog w = .ok (.enter g args) w) (hp : ∀ W (x y : Nat × Nat × List Int) a b, x ∈ xs → y ∈ ys → Ext w W → Ints W a x.2.2 → Ints W b y.2.2 → Calls Try.prog g (#[.agg #[.int .i64 x.1, .int .i64 x.2.1, a], .agg #[.int .i64 y.1, .int .i64 y.2.1, b]] ++ lb) W fun e W' => e = .returned (.bool (p x y)) ∧ Ext W W') :
    Calls Try.prog 17 #[u, v, .func (.func g) #[] lb] w fun e w' => e = .returned (.bool (eqBy p xs ys)) ∧ Ext w w' := by
  obtain ⟨a, c, rfl, h1, h2, -, hc⟩ := Strs.open h
  obtain ⟨a', c', rfl, k1, k2, -, kc⟩ := Strs.open k
  have HC := Lib.hid hc; have KC := Lib.hid kc; have HP := Lib.hid hp
  clear hc kc h k hp
  unfold maxLen at h2 k2
  by_cases hl : xs.length = ys.length
  · have hn : ((xs.length : Int) != (ys.length : Int)) = false := by simp [hl]
    have hle1 : xs.length ≤ ys.length := by omega
    have hle2 : ys.length ≤ xs.length := by omega
    have HL := Lib.hid hl
    clear hl
    go_enter Try.func17, Try.ntmps17
    go_wp2
    go_loopw [17] (fun t wr => ∃ j : Nat, j ≤ xs.length ∧ t = .int .i64 j ∧ Ext w wr ∧ Hid (eqBy p (xs.drop j) (ys.drop j) = eqBy p xs ys)) (fun t _ => xs.length - (intOf t).toNat)
    case atStart => exact ⟨0, by omega, rfl, Ext.refl _, rfl⟩
    case round =>
      obtain ⟨j, hj, rfl, hE, HT⟩ := hrel
      obtain ⟨wo, rfl⟩ : ∃ wo : World, wo = wr := ⟨_, rfl⟩
      by_cases hlt : j < xs.length
      · obtain ⟨b, off, rfl, hb, hcell⟩ := HC.out (by intro e; simp [e] at hlt)
        obtain ⟨b', off', rfl, hb', hcell'⟩ := KC.out (by intro e; simp [e] at hle1; simp [hle1] at hlt)
        obtain ⟨x, hx⟩ : ∃ x, xs[j]? = some x := ⟨xs[j], List.getElem?_eq_getElem hlt⟩
        obtain ⟨y, hy⟩ : ∃ y, ys[j]? = some y := ⟨ys[j]'(by omega), List.getElem?_eq_getElem _⟩
        obtain ⟨vx, hvx, hcx0, hcx1, hcx2⟩ := hcell j x hx
        obtain ⟨vy, hvy, hcy0, hcy1, hcy2⟩ := hcell' j y hy
        obtain ⟨ax, cx, rfl, -, -, -, -, -⟩ := Ints.open hvx
        obtain ⟨ay, cy, rfl, -, -, -, -, -⟩ := Ints.open hvy
        have g0 := hE.cell hcx0; have g1 := hE.cell hcx1; have g2 := hE.cell hcx2
        have g3 := hE.cell hcy0; have g4 := hE.cell hcy1; have g5 := hE.cell hcy2
        have n1 := lt_of_cell g0; have n2 := lt_of_cell g3
        have q1 : (j : Int) < (xs.length : Int) := by omega
        have q2 : (j : Int) < (ys.length : Int) := by omega
        have hcall := fun W' (he : Ext wo W') => HP.out W' x y _ _ (List.mem_of_getElem? hx) (List.mem_of_getElem? hy) (hE.trans he) (Ints.ext hvx (hE.trans he)) (Ints.ext hvy (hE.trans he))
        have hd : eqBy p (xs.drop j) (ys.drop j) = (p x y && eqBy p (xs.drop (j + 1)) (ys.drop (j + 1))) := by
          obtain ⟨hj1, rfl⟩ := List.getElem?_eq_some_iff.1 hx
          obtain ⟨hj2, rfl⟩ := List.getElem?_eq_some_iff.1 hy
          rw [List.drop_eq_getElem_cons hj1, List.drop_eq_getElem_cons hj2, eqBy_cons]
        cases hq : p x y with
        | true =>
          rw [hq] at hcall hd
          rw [Bool.true_and] at hd
          have HT' : Hid (eqBy p (xs.drop (j + 1)) (ys.drop (j + 1)) = eqBy p xs ys) := hd.symm.trans HT.out
          have HCALL := Lib.hid hcall
          clear hcall hq hd hvx hvy hx hy hcell hcell' hcx0 hcx1 hcx2 hcy0 hcy1 hcy2
          go_wp2_with (go_at_fn g; refine (HCALL.out _ ((Ext.alloc _ _).trans (Ext.alloc _ _))).mono ?_; rintro e w' ⟨rfl, hE'⟩)
          go_roundw
          case rel => exact ⟨j + 1, by omega, by go_num, hE.trans (((Ext.alloc _ _).trans (Ext.alloc _ _)).trans (by assumption)), HT'⟩
          case measure => simp [intOf]; omega
        | false =>
          rw [hq] at hcall hd
          rw [Bool.false_and] at hd
          have HF : Hid (eqBy p xs ys = false) := HT.out.symm.trans hd
          have HCALL := Lib.hid hcall
          clear hcall hq hd hvx hvy hx hy hcell hcell' hcx0 hcx1 hcx2 hcy0 hcy1 hcy2
          go_wp2_with (go_at_fn g; refine (HCALL.out _ ((Ext.alloc _ _).trans (Ext.alloc _ _))).mono ?_; rintro e w' ⟨rfl, hE'⟩)
          go_ret
          rw [HF.out]
          exact ⟨rfl, hE.trans (((Ext.alloc _ _).trans (Ext.alloc _ _)).trans (by assumption))⟩
      · have hge : xs.length ≤ j := by omega
        have HTr : Hid (eqBy p xs ys = true) := by
          unfold Hid
          rw [← HT.out, List.drop_of_length_le (by omega), List.drop_of_length_le (by omega)]
          rfl
        go_wp2
        go_ret
        rw [HTr.out]
        exact ⟨rfl, hE⟩
  · have hn : ((xs.length : Int) != (ys.length : Int)) = true := by simp; omega
    have HF : Hid (eqBy p xs ys = false) := by
      unfold Hid eqBy
      simp [hl]
    clear hl
    go_enter Try.func17, Try.ntmps17
    go_wp2
    go_ret
    rw [HF.out]
    exact ⟨rfl, Ext.refl _⟩


end Go.Proofs.Ytplcikgmefcfbaa
