/- Contracts of slices.Equal at links, slices.EqualFunc at chords and lists of links. -/
import Derived.Test.YtplcikgmefcfbaaEqRows
import Derived.Test.YtplcikgmefcfbaaDriftB
import Derived.Test.YtplcikgmefcfbaaSlPrimes
namespace Go.Proofs.Ytplcikgmefcfbaa
set_option linter.unusedVariables false
set_option linter.unusedSimpArgs false
open Go.RowKit

set_option maxRecDepth 100000 in
set_option maxHeartbeats 1000000 in
theorem equalLinks_any (xs ys : List (Int × Int)) (u v : Value) (w : World) (h : Links w u xs) (k : Links w v ys) :
    Calls Try.prog 49 #[u, v] w fun e w' => e = .returned (.bool (xs == ys)) ∧ Ext w w' := by
  obtain ⟨a, c, rfl, h1, h2, -, -⟩ := ListAt.open h
  obtain ⟨a', c', rfl, k1, k2, -, -⟩ := ListAt.open k
  obtain ⟨-, -, -, hxb, hc⟩ := Links.cells h
  obtain ⟨-, -, -, hyb, kc⟩ := Links.cells k
  have HC := Lib.hid hc; have KC := Lib.hid kc
  clear hc kc h k hxb hyb
  unfold maxLen at h2 k2
  by_cases hl : xs.length = ys.length
  · have hn : ((xs.length : Int) != (ys.length : Int)) = false := by simp [hl]
    have hle1 : xs.length ≤ ys.length := by omega
    have hle2 : ys.length ≤ xs.length := by omega
    have HL := Lib.hid hl
    clear hl
    go_enter Try.func49, Try.ntmps49
    go_wp2
    go_loopw [13] (fun t wr => ∃ j : Nat, j ≤ xs.length ∧ t = .int .i64 j ∧ Ext w wr ∧ Hid (xs.take j = ys.take j)) (fun t _ => xs.length - (intOf t).toNat)
    case atStart => exact ⟨0, by omega, rfl, Ext.refl _, rfl⟩
    case round =>
      obtain ⟨j, hj, rfl, hE, HT⟩ := hrel
      by_cases hlt : j < xs.length
      · obtain ⟨b, off, rfl, hb, hcell⟩ := HC.out (by intro e; simp [e] at hlt)
        obtain ⟨b', off', rfl, hb', hcell'⟩ := KC.out (by intro e; simp [e] at hle1; simp [hle1] at hlt)
        obtain ⟨x, hx⟩ : ∃ x, xs[j]? = some x := ⟨xs[j], List.getElem?_eq_getElem hlt⟩
        obtain ⟨y, hy⟩ : ∃ y, ys[j]? = some y := ⟨ys[j]'(by omega), List.getElem?_eq_getElem _⟩
        obtain ⟨c1, c2⟩ := hcell j x hx
        obtain ⟨c3, c4⟩ := hcell' j y hy
        have g1 := hE.cell c1; have g2 := hE.cell c2; have g3 := hE.cell c3; have g4 := hE.cell c4
        have q1 : (j : Int) < (xs.length : Int) := by omega
        have q2 : (j : Int) < (ys.length : Int) := by omega
        have HX := Lib.hid hx; have HY := Lib.hid hy
        clear hcell hcell' hx hy c1 c2 c3 c4
        obtain ⟨x1, x2⟩ := x
        obtain ⟨y1, y2⟩ := y
        dsimp only at g1 g2 g3 g4
        by_cases hxy : x1 = y1 ∧ x2 = y2
        · have hb : (x1 == y1) = true := by simp [hxy.1]
          have hb2 : (x2 == y2) = true := by simp [hxy.2]
          have HT' : Hid (xs.take (j + 1) = ys.take (j + 1)) := by
            unfold Hid; rw [List.take_add_one, List.take_add_one, HX.out, HY.out, HT.out, hxy.1, hxy.2]
          clear hxy
          go_wp2
          go_quiet (fail)
          go_wp2
          go_roundw
          case rel => exact ⟨j + 1, by omega, by go_num, Ext.draws hE _, HT'⟩
          case measure => simp [intOf]; omega
        · have HF : Hid ((xs == ys) = false) := by
            unfold Hid
            rw [beq_eq_false_iff_ne]
            intro e
            have e1 := HX.out; have e2 := HY.out
            rw [e, e2] at e1
            simp only [Option.some.injEq, Prod.mk.injEq] at e1
            exact hxy ⟨e1.1.symm, e1.2.symm⟩
          by_cases h1 : x1 = y1
          · have hb : (x1 == y1) = true := by simp [h1]
            have hb2 : (x2 == y2) = false := by
              have : ¬ x2 = y2 := fun h2 => hxy ⟨h1, h2⟩
              simp [this]
            clear hxy h1
            go_wp2
            go_quiet (fail)
            go_wp2
            go_ret
            rw [HF.out]
            exact ⟨rfl, Ext.draws hE _⟩
          · have hb : (x1 == y1) = false := by simp [h1]
            clear hxy h1
            go_wp2
            go_quiet (fail)
            go_wp2
            go_ret
            rw [HF.out]
            exact ⟨rfl, Ext.draws hE _⟩
      · have hge : xs.length ≤ j := by omega
        have HTr : Hid ((xs == ys) = true) := by
          unfold Hid
          have e := HT.out
          rw [List.take_of_length_le (by omega), List.take_of_length_le (by omega)] at e
          simp [e]
        go_wp2
        go_ret
        rw [HTr.out]
        exact ⟨rfl, hE⟩
  · have hn : ((xs.length : Int) != (ys.length : Int)) = true := by simp; omega
    have HF : Hid ((xs == ys) = false) := by
      unfold Hid
      rw [beq_eq_false_iff_ne]
      intro e
      exact hl (by rw [e])
    clear hl
    go_enter Try.func49, Try.ntmps49
    go_wp2
    go_ret
    rw [HF.out]
    exact ⟨rfl, Ext.refl _⟩

set_option maxRecDepth 100000 in
set_option maxHeartbeats 1000000 in
/-- slices.EqualFunc: the lengths are equal and p holds of each pair. -/
theorem equalFuncChords_any {α : Type} {R : World → Value → α → Prop} (hR : ∀ w w' v x, Ext w w' → R w v x → R w' v x) (xs ys : List α) (u v : Value) (g : Nat) (lb : Array Value) (p : α → α → Bool) (w : World) (h : ListAt 1 (inCell R) w u xs) (k : ListAt 1 (inCell R) w v ys)
    (eg : ∀ args w, (callFunc g args).run Try.prog w = .ok (.enter g args) w) (hp : ∀ W x y a b, x ∈ xs → y ∈ ys → Ext w W → R W a x → R W b y → Calls Try.prog g (#[a, b] ++ lb) W fun e W' => e = .returned (.bool (p x y)) ∧ Ext W W') :
    Calls Try.prog 46 #[u, v, .func (.func g) #[] lb] w fun e w' => e = .returned (.bool (eqBy p xs ys)) ∧ Ext w w' := by
  obtain ⟨a, c, rfl, h1, h2, -, hc⟩ := inCell.open h
  obtain ⟨a', c', rfl, k1, k2, -, kc⟩ := inCell.open k
  have HC := Lib.hid hc; have KC := Lib.hid kc; have HP := Lib.hid hp; have HR := Lib.hid hR
  clear hc kc h k hp hR
  unfold maxLen at h2 k2
  by_cases hl : xs.length = ys.length
  · have hn : ((xs.length : Int) != (ys.length : Int)) = false := by simp [hl]
    have hle1 : xs.length ≤ ys.length := by omega
    have hle2 : ys.length ≤ xs.length := by omega
    have HL := Lib.hid hl
    clear hl
    go_enter Try.func46, Try.ntmps46
    go_wp2
    go_loopw [17] (fun t wr => ∃ j : Nat, j ≤ xs.length ∧ t = .int .i64 j ∧ Ext w wr ∧ Hid (eqBy p (xs.drop j) (ys.drop j) = eqBy p xs ys)) (fun t _ => xs.length - (intOf t).toNat)
    case atStart => exact ⟨0, by omega, rfl, Ext.refl _, rfl⟩
    case round =>
      obtain ⟨j, hj, rfl, hE, HT⟩ := hrel
      obtain ⟨wo, rfl⟩ : ∃ wo : World, wo = wr := ⟨_, rfl⟩
      by_cases hlt : j < xs.length
      · obtain ⟨b, off, rfl, hb, hcell⟩ := HC.out (by intro e; simp [e] at hlt)
        obtain ⟨b', off', rfl, hb', hcell'⟩ := KC.out (by intro e; simp [e] at hle1; simp [hle1] at hlt)
        obtain ⟨x, hx⟩ : ∃ x, xs[j]? = some x := ⟨xs[j], List.getElem?_eq_getElem hlt⟩
        obtain ⟨y, hy⟩ : ∃ y, ys[j]? = some y := ⟨ys[j]'(by omega), List.getElem?_eq_getElem _⟩
        obtain ⟨vx, hvx, hcx⟩ := hcell j x hx
        obtain ⟨vy, hvy, hcy⟩ := hcell' j y hy
        have g1 := hE.cell hcx
        have g2 := hE.cell hcy
        have q1 : (j : Int) < (xs.length : Int) := by omega
        have q2 : (j : Int) < (ys.length : Int) := by omega
        have hcall := HP.out wo x y vx vy (List.mem_of_getElem? hx) (List.mem_of_getElem? hy) hE (HR.out _ _ _ _ hE hvx) (HR.out _ _ _ _ hE hvy)
        have hd : eqBy p (xs.drop j) (ys.drop j) = (p x y && eqBy p (xs.drop (j + 1)) (ys.drop (j + 1))) := by
          obtain ⟨hj1, rfl⟩ := List.getElem?_eq_some_iff.1 hx
          obtain ⟨hj2, rfl⟩ := List.getElem?_eq_some_iff.1 hy
          rw [List.drop_eq_getElem_cons hj1, List.drop_eq_getElem_cons hj2, eqBy_cons]
        cases hq : p x y with
        | true =>
          rw [hq] at hcall hd
          rw [Bool.true_and] at hd
          have HT' : Hid (eqBy p (xs.drop (j + 1)) (ys.drop (j + 1)) = eqBy p xs ys) := hd.symm.trans HT.out
          have HCALL := Lib.hid hcall
          clear hcall hq hd hvx hvy hx hy hcell hcell' hcx hcy
          go_wp2_with (go_at_fn g; refine HCALL.out.mono ?_; rintro e w' ⟨rfl, hE'⟩)
          go_roundw
          case rel => exact ⟨j + 1, by omega, by go_num, hE.trans (by assumption), HT'⟩
          case measure => simp [intOf]; omega
        | false =>
          rw [hq] at hcall hd
          rw [Bool.false_and] at hd
          have HF : Hid (eqBy p xs ys = false) := HT.out.symm.trans hd
          have HCALL := Lib.hid hcall
          clear hcall hq hd hvx hvy hx hy hcell hcell' hcx hcy
          go_wp2_with (go_at_fn g; refine HCALL.out.mono ?_; rintro e w' ⟨rfl, hE'⟩)
          go_ret
          rw [HF.out]
          exact ⟨rfl, hE.trans (by assumption)⟩
      · have hge : xs.length ≤ j := by omega
        have HTr : Hid (eqBy p xs ys = true) := by
          unfold Hid
          rw [← HT.out, List.drop_of_length_le (by omega), List.drop_of_length_le (by omega)]
          rfl
        go_wp2
        go_ret
        rw [HTr.out]
        exact ⟨rfl, hE⟩
  · have hn : ((xs.length : Int) != (ys.length : Int)) = true := by simp; omega
    have HF : Hid (eqBy p xs ys = false) := by
      unfold Hid eqBy
      simp [hl]
    clear hl
    go_enter Try.func46, Try.ntmps46
    go_wp2
    go_ret
    rw [HF.out]
    exact ⟨rfl, Ext.refl _⟩


set_option maxRecDepth 100000 in
set_option maxHeartbeats 1000000 in
/-- slices.EqualFunc: the lengths are equal and p holds of each pair. -/
theorem equalFuncLinks2_any {α : Type} {R : World → Value → α → Prop} (hR : ∀ w w' v x, Ext w w' → R w v x → R w' v x) (xs ys : List α) (u v : Value) (g : Nat) (lb : Array Value) (p : α → α → Bool) (w : World) (h : ListAt 1 (inCell R) w u xs) (k : ListAt 1 (inCell R) w v ys)
    (eg : ∀ args w, (callFunc g args).run Try.prog w = .ok (.enter g args) w) (hp : ∀ W x y a b, x ∈ xs → y ∈ ys → Ext w W → R W a x → R W b y → Calls Try.prog g (#[a, b] ++ lb) W fun e W' => e = .returned (.bool (p x y)) ∧ Ext W W') :
    Calls Try.prog 47 #[u, v, .func (.func g) #[] lb] w fun e w' => e = .returned (.bool (eqBy p xs ys)) ∧ Ext w w' := by
  obtain ⟨a, c, rfl, h1, h2, -, hc⟩ := inCell.open h
  obtain ⟨a', c', rfl, k1, k2, -, kc⟩ := inCell.open k
  have HC := Lib.hid hc; have KC := Lib.hid kc; have HP := Lib.hid hp; have HR := Lib.hid hR
  clear hc kc h k hp hR
  unfold maxLen at h2 k2
  by_cases hl : xs.length = ys.length
  · have hn : ((xs.length : Int) != (ys.length : Int)) = false := by simp [hl]
    have hle1 : xs.length ≤ ys.length := by omega
    have hle2 : ys.length ≤ xs.length := by omega
    have HL := Lib.hid hl
    clear hl
    go_enter Try.func47, Try.ntmps47
    go_wp2
    go_loopw [17] (fun t wr => ∃ j : Nat, j ≤ xs.length ∧ t = .int .i64 j ∧ Ext w wr ∧ Hid (eqBy p (xs.drop j) (ys.drop j) = eqBy p xs ys)) (fun t _ => xs.length - (intOf t).toNat)
    case atStart => exact ⟨0, by omega, rfl, Ext.refl _, rfl⟩
    case round =>
      obtain ⟨j, hj, rfl, hE, HT⟩ := hrel
      obtain ⟨wo, rfl⟩ : ∃ wo : World, wo = wr := ⟨_, rfl⟩
      by_cases hlt : j < xs.length
      · obtain ⟨b, off, rfl, hb, hcell⟩ := HC.out (by intro e; simp [e] at hlt)
        obtain ⟨b', off', rfl, hb', hcell'⟩ := KC.out (by intro e; simp [e] at hle1; simp [hle1] at hlt)
        obtain ⟨x, hx⟩ : ∃ x, xs[j]? = some x := ⟨xs[j], List.getElem?_eq_getElem hlt⟩
        obtain ⟨y, hy⟩ : ∃ y, ys[j]? = some y := ⟨ys[j]'(by omega), List.getElem?_eq_getElem _⟩
        obtain ⟨vx, hvx, hcx⟩ := hcell j x hx
        obtain ⟨vy, hvy, hcy⟩ := hcell' j y hy
        have g1 := hE.cell hcx
        have g2 := hE.cell hcy
        have q1 : (j : Int) < (xs.length : Int) := by omega
        have q2 : (j : Int) < (ys.length : Int) := by omega
        have hcall := HP.out wo x y vx vy (List.mem_of_getElem? hx) (List.mem_of_getElem? hy) hE (HR.out _ _ _ _ hE hvx) (HR.out _ _ _ _ hE hvy)
        have hd : eqBy p (xs.drop j) (ys.drop j) = (p x y && eqBy p (xs.drop (j + 1)) (ys.drop (j + 1))) := by
          obtain ⟨hj1, rfl⟩ := List.getElem?_eq_some_iff.1 hx
          obtain ⟨hj2, rfl⟩ := List.getElem?_eq_some_iff.1 hy
          rw [List.drop_eq_getElem_cons hj1, List.drop_eq_getElem_cons hj2, eqBy_cons]
        cases hq : p x y with
        | true =>
          rw [hq] at hcall hd
          rw [Bool.true_and] at hd
          have HT' : Hid (eqBy p (xs.drop (j + 1)) (ys.drop (j + 1)) = eqBy p xs ys) := hd.symm.trans HT.out
          have HCALL := Lib.hid hcall
          clear hcall hq hd hvx hvy hx hy hcell hcell' hcx hcy
          go_wp2_with (go_at_fn g; refine HCALL.out.mono ?_; rintro e w' ⟨rfl, hE'⟩)
          go_roundw
          case rel => exact ⟨j + 1, by omega, by go_num, hE.trans (by assumption), HT'⟩
          case measure => simp [intOf]; omega
        | false =>
          rw [hq] at hcall hd
          rw [Bool.false_and] at hd
          have HF : Hid (eqBy p xs ys = false) := HT.out.symm.trans hd
          have HCALL := Lib.hid hcall
          clear hcall hq hd hvx hvy hx hy hcell hcell' hcx hcy
          go_wp2_with (go_at_fn g; refine HCALL.out.mono ?_; rintro e w' ⟨rfl, hE'⟩)
          go_ret
          rw [HF.out]
          exact ⟨rfl, hE.trans (by assumption)⟩
      · have hge : xs.length ≤ j := by omega
        have HTr : Hid (eqBy p xs ys = true) := by
          unfold Hid
          rw [← HT.out, List.drop_of_length_le (by omega), List.drop_of_length_le (by omega)]
          rfl
        go_wp2
        go_ret
        rw [HTr.out]
        exact ⟨rfl, hE⟩
  · have hn : ((xs.length : Int) != (ys.length : Int)) = true := by simp; omega
    have HF : Hid (eqBy p xs ys = false) := by
      unfold Hid eqBy
      simp [hl]
    clear hl
    go_enter Try.func47, Try.ntmps47
    go_wp2
    go_ret
    rw [HF.out]
    exact ⟨rfl, Ext.refl _⟩


end Go.Proofs.Ytplcikgmefcfbaa
