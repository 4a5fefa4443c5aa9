/- Merged: EqMatL. -/
import Derived.Test.YtielnneclcekbaaGreatDoorQAJ
/- slices.EqualFunc at api.Matrix; row.Equal. -/
namespace Go.Proofs.YtielnneclcekbaaGreatDoor
set_option linter.unusedVariables false
set_option linter.unusedSimpArgs false
open Go.RowKit

/-- The lengths are equal and p holds of each pair. -/
def eqBy {α : Type} (p : α → α → Bool) (xs ys : List α) : Bool := decide (xs.length = ys.length) && (xs.zip ys).all fun z => p z.1 z.2
theorem eqBy_cons {α : Type} (p : α → α → Bool) (x y : α) (xs ys : List α) : eqBy p (x :: xs) (y :: ys) = (p x y && eqBy p xs ys) := by
  simp only [eqBy, List.length_cons, List.zip_cons_cons, List.all_cons, Nat.add_right_cancel_iff]
  cases p x y <;> simp
theorem eqBy_beq {α : Type} [BEq α] [LawfulBEq α] : ∀ xs ys : List α, eqBy (· == ·) xs ys = (xs == ys)
  | [], [] => rfl
  | [], y :: ys => by simp [eqBy]
  | x :: xs, [] => by simp [eqBy]
  | x :: xs, y :: ys => by rw [eqBy_cons, eqBy_beq xs ys]; rfl


set_option maxRecDepth 100000 in
set_option maxHeartbeats 1000000 in
/-- slices.EqualFunc: the lengths are equal and p holds of each pair. -/
theorem equalFuncMat_any {α : Type} {R : World → Value → α → Prop} (hR : ∀ w w' v x, Ext w w' → R w v x → R w' v x) (xs ys : List α) (u v : Value) (g : Nat) (lb : Array Value) (p : α → α → Bool) (w : World) (h : ListAt 1 (inCell R) w u xs) (k : ListAt 1 (inCell R) w v ys)
    (eg : ∀ args w, (callFunc g args).run Tryz.prog w = .ok (.enter g args) w) (hp : ∀ W x y a b, x ∈ xs → y ∈ ys → Ext w W → R W a x → R W b y → Calls Tryz.prog g (#[a, b] ++ lb) W fun e W' => e = .returned (.bool (p x y)) ∧ Ext W W') :
    Calls Tryz.prog 63 #[u, v, .func (.func g) #[] lb] w fun e w' => e = .returned (.bool (eqBy p xs ys)) ∧ Ext w w' := by
  obtain ⟨a, c, rfl, h1, h2, -, hc⟩ := inCell.open h
  obtain ⟨a', c', rfl, k1, k2, -, kc⟩ := inCell.open k
  have HC := Lib.hid hc; have KC := Lib.hid kc; have HP := Lib.hid hp; have HR := Lib.hid hR
  clear hc kc h k hp hR
  unfold maxLen at h2 k2
  by_cases hl : xs.length = ys.length
  · have hn : ((xs.length : Int) != (ys.length : Int)) = false := by simp [hl]
    have hle1 : xs.length ≤ ys.length := by omega
    have hle2 : ys.length ≤ xs.length := by omega
    have HL := Lib.hid hl
    clear hl
    go_enter Tryz.func63, Tryz.ntmps63
    go_wp2
    go_loopw [17] (fun t wr => ∃ j : Nat, j ≤ xs.length ∧ t = .int .i64 j ∧ Ext w wr ∧ Hid (eqBy p (xs.drop j) (ys.drop j) = eqBy p xs ys)) (fun t _ => xs.length - (intOf t).toNat)
    case atStart => exact ⟨0, by omega, rfl, Ext.refl _, rfl⟩
    case round =>
      obtain ⟨j, hj, rfl, hE, HT⟩ := hrel
      obtain ⟨wo, rfl⟩ : ∃ wo : World, wo = wr := ⟨_, rfl⟩
      by_cases hlt : j < xs.length
      · obtain ⟨b, off, rfl, hb, hcell⟩ := HC.out (by intro e; simp [e] at hlt)
        obtain ⟨b', off', rfl, hb', hcell'⟩ := KC.out (by intro e; simp [e] at hle1; simp [hle1] at hlt)
        obtain ⟨x, hx⟩ : ∃ x, xs[j]? = some x := ⟨xs[j], List.getElem?_eq_getElem hlt⟩
        obtain ⟨y, hy⟩ : ∃ y, ys[j]? = some y := ⟨ys[j]'(by omega), List.getElem?_eq_getElem _⟩
        obtain ⟨vx, hvx, hcx⟩ := hcell j x hx
        obtain ⟨vy, hvy, hcy⟩ := hcell' j y hy
        have g1 := hE.cell hcx
        have g2 := hE.cell hcy
        have q1 : (j : Int) < (xs.length : Int) := by omega
        have q2 : (j : Int) < (ys.length : Int) := by omega
        have hcall := HP.out wo x y vx vy (List.mem_of_getElem? hx) (List.mem_of_getElem? hy) hE (HR.out _ _ _ _ hE hvx) (HR.out _ _ _ _ hE hvy)
        have hd : eqBy p (xs.drop j) (ys.drop j) = (p x y && eqBy p (xs.drop (j + 1)) (ys.drop (j + 1))) := by
          obtain ⟨hj1, rfl⟩ := List.getElem?_eq_some_iff.1 hx
          obtain ⟨hj2, rfl⟩ := List.getElem?_eq_some_iff.1 hy
          rw [List.drop_eq_getElem_cons hj1, List.drop_eq_getElem_cons hj2, eqBy_cons]
        cases hq : p x y with
        | true =>
          rw [hq] at hcall hd
          rw [Bool.true_and] at hd
          have HT' : Hid (eqBy p (xs.drop (j + 1)) (ys.drop (j + 1)) = eqBy p xs ys) := hd.symm.trans HT.out
          have HCALL := Lib.hid hcall
          clear hcall hq hd hvx hvy hx hy hcell hcell' hcx hcy
          go_wp2_with (go_at_fn g; refine HCALL.out.mono ?_; rintro e w' ⟨rfl, hE'⟩)
          go_roundw
          case rel => exact ⟨j + 1, by omega, by go_num, hE.trans (by assumption), HT'⟩
          case measure => simp [intOf]; omega
        | false =>
          rw [hq] at hcall hd
          rw [Bool.false_and] at hd
          have HF : Hid (eqBy p xs ys = false) := HT.out.symm.trans hd
          have HCALL := Lib.hid hcall
          clear hcall hq hd hvx hvy hx hy hcell hcell' hcx hcy
          go_wp2_with (go_at_fn g; refine HCALL.out.mono ?_; rintro e w' ⟨rfl, hE'⟩)
          go_ret
          rw [HF.out]
          exact ⟨rfl, hE.trans (by assumption)⟩
      · have hge : xs.length ≤ j := by omega
        have HTr : Hid (eqBy p xs ys = true) := by
          unfold Hid
          rw [← HT.out, List.drop_of_length_le (by omega), List.drop_of_length_le (by omega)]
          rfl
        go_wp2
        go_ret
        rw [HTr.out]
        exact ⟨rfl, hE⟩
  · have hn : ((xs.length : Int) != (ys.length : Int)) = true := by simp; omega
    have HF : Hid (eqBy p xs ys = false) := by
      unfold Hid eqBy
      simp [hl]
    clear hl
    go_enter Tryz.func63, Tryz.ntmps63
    go_wp2
    go_ret
    rw [HF.out]
    exact ⟨rfl, Ext.refl _⟩



set_option maxRecDepth 100000 in
theorem rowEqual_any (xs ys : List Int) (u v : Value) (w : World) (h : Ints w u xs) (k : Ints w v ys) :
    Calls Tryz.prog 32 #[u, v] w fun e w' => e = .returned (.bool (xs == ys)) ∧ Ext w w' := by
  have HE := Lib.hid (equalRow_any xs ys u v w h k)
  clear h k
  go_enter Tryz.func32, Tryz.ntmps32
  go_wp2_with fail
  refine HE.out.mono ?_
  rintro e w1 ⟨rfl, hE1⟩
  have HE1 := Lib.hid hE1
  clear hE1
  go_wp2_with fail
  go_ret
  exact ⟨rfl, HE1.out⟩
end Go.Proofs.YtielnneclcekbaaGreatDoor
