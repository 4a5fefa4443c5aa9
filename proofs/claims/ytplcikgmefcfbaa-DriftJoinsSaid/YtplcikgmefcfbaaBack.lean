/- slices.Backward at chords and lists of links: the iterator's contract. -/
import Derived.RangeFuncNested
import Derived.RangeFuncBound
import Derived.RangeFuncCalls
import Derived.RangeFuncLeaves
import Derived.Shelf.Abstract
import Derived.Shelf.RegionOpen
import Derived.WalkKit
import Derived.OwnWalkIn
import Derived.TacticsInMore
import Derived.LoopNIn
import Derived.LoopIn
import Derived.Test.YtplcikgmefcfbaaBase
import Derived.Test.YtplcikgmefcfbaaTypes
namespace Go.Proofs.Ytplcikgmefcfbaa
set_option linter.unusedVariables false
set_option linter.unusedSimpArgs false
open Go.RowKit Go.Shelf
attribute [local go_sem] Oper.semAt_some

/-- What lay below n₀ lies as it lay, and so does the box. -/
def KeepB (n₀ Bs : Nat) (W W' : World) : Prop := Below n₀ W W' ∧ ∀ v, W.cell? ⟨Bs, 0, none⟩ = some v → W'.cell? ⟨Bs, 0, none⟩ = some v
theorem KeepB.refl (n₀ Bs : Nat) (W : World) : KeepB n₀ Bs W W := ⟨Below.refl _ _, fun _ h => h⟩
theorem KeepB.trans {n₀ Bs : Nat} {A B C : World} (h : KeepB n₀ Bs A B) (k : KeepB n₀ Bs B C) : KeepB n₀ Bs A C := ⟨Below.trans h.1 k.1, fun v hv => k.2 v (h.2 v hv)⟩
/-- What a round is handed: the index and the element. -/
def backEnc {len : Nat} (us : List Value) (x : Fin len) : Array Value := #[.int .i64 (x.val : Int), us[x.val]?.getD undef]
/-- The first k indices, from behind. -/
def backs (len k : Nat) : List (Fin len) := (List.finRange len).reverse.take k
theorem backs_length (len r : Nat) : (backs len (len - r)).length = len - r := by simp [backs]
theorem backs_succ (len m : Nat) (h : m + 1 ≤ len) : backs len (len - (m + 1)) ++ [⟨m, by omega⟩] = backs len (len - m) := by
  unfold backs
  rw [show len - m = len - (m + 1) + 1 by omega, List.take_add_one]
  congr 1
  have hlt : len - (m + 1) < (List.finRange len).reverse.length := by simp; omega
  rw [List.getElem?_eq_getElem hlt, List.getElem_reverse]
  simp only [Option.toList_some, List.cons.injEq, and_true, List.getElem_finRange, Fin.ext_iff, Fin.val_cast, List.length_finRange]
  omega

set_option maxRecDepth 100000 in
set_option maxHeartbeats 2000000 in
/-- slices.Backward's closure, for every loop body that keeps what lay below n₀ and the box. -/
theorem backChords1_in (F : Fence) (n : Nat) (hF : F.fn 63) (hro : F.round = none) (hn : 1 ≤ n) (l Bs n₀ len cap : Nat) (a : Option Addr) (us : List Value) (hus : us.length = len) (hlen : len ≤ 1000000) (hcap : len ≤ cap) (hcap2 : cap ≤ maxLen) (J Jx : List (Fin len) → World → Prop)
    (hY : ∀ pre x W, J pre W → pre.length < len → YieldAt F (n - 1) Try.prog l (backEnc us x) W fun e W' =>
      (e = .returned (.bool true) ∧ J (pre ++ [x]) W' ∧ KeepB n₀ Bs W W') ∨ (e = .returned (.bool false) ∧ Jx (pre ++ [x]) W'))
    (W : World) (hBs : W.cell? ⟨Bs, 0, none⟩ = some (.slice a len cap)) (hc : 0 < len → ∃ b off, a = some ⟨b, off, none⟩ ∧ b < n₀ ∧ ∀ (j : Nat) u, us[j]? = some u → W.cell? ⟨b, off + j, none⟩ = some u) (h0 : J [] W) :
    CallsIn F n Try.prog 63 #[.func (.yield l) #[] #[], .pointer (some ⟨Bs, 0, none⟩)] W fun e W' => (∃ v, e = .returned v) ∧
      ((∃ ys, ys = backs len len ∧ J ys W') ∨ (∃ pre, (∃ k, pre = backs len k) ∧ Jx pre W')) := by
  unfold maxLen at hcap2
  refine callsIn_of_wp Try.func63 rfl hF ?_ hro
  simp only [Try.ntmps63, List.size_toArray, List.length_cons, List.length_nil, Nat.reduceAdd, Nat.reduceSub, Array.replicate_succ, Array.replicate_zero, List.push_toArray, List.append_toArray, List.nil_append, List.cons_append]
  have p1 : IntKind.i64.wrap ((len : Int) - 1) = (len : Int) - 1 := by rw [IntKind.wrap_i64]; omega
  have HC := Lib.hid hc
  clear hc
  gi_wp2
  clear p1
  gi_loopw [3] (fun i wr => ∃ r : Nat, r ≤ len ∧ i = .int .i64 ((r : Int) - 1) ∧ J (backs len (len - r)) wr ∧ KeepB n₀ Bs W wr) (fun i _ => (intOf i + 1).toNat)
  case atStart => exact ⟨len, Nat.le_refl _, rfl, by rw [Nat.sub_self]; exact h0, KeepB.refl _ _ _⟩
  case round =>
    obtain ⟨r, hr, rfl, hJ, hK⟩ := hrel
    match r, hr with
    | 0, _ =>
      rw [show ((0 : Nat) : Int) - 1 = -1 by omega]
      gi_wp2
      go_end0
      exact ⟨⟨_, rfl⟩, .inl ⟨_, rfl, by rw [Nat.sub_zero] at hJ; exact hJ⟩⟩
    | m + 1, hr =>
      rw [show ((m + 1 : Nat) : Int) - 1 = (m : Int) by omega]
      obtain ⟨b, off, rfl, hb, hcell⟩ := HC.out (by omega)
      obtain ⟨u, hu⟩ : ∃ u, us[m]? = some u := ⟨us[m]'(by omega), List.getElem?_eq_getElem _⟩
      obtain ⟨fn, tmps, assign, body, hy, hR⟩ := hY _ ⟨m, by omega⟩ wr hJ (by rw [backs_length]; omega)
      have e0 := hK.2 _ hBs
      have e1 := (hK.1.cell (p := ⟨b, off + m, none⟩) hb).trans (hcell m u hu)
      have p2 : (0 : Int) ≤ (m : Int) := by omega
      have p3 : (m : Int) < (len : Int) := by omega
      simp only [backEnc, hu, Option.getD_some] at hy
      have hbs : backs len (len - (m + 1)) ++ [⟨m, by omega⟩] = backs len (len - m) := backs_succ len m hr
      rw [hbs] at hR
      have HC2 := HC
      clear hcell hu hbs
      gi_wp2
      refine hR.mono ?_
      rintro e W3 (⟨rfl, hJ3, hk3⟩ | ⟨rfl, hJx3⟩)
      · have p4 : IntKind.i64.wrap ((m : Int) - 1) = (m : Int) - 1 := by rw [IntKind.wrap_i64]; omega
        gi_wp2
        go_roundw
        case rel => exact ⟨m, by omega, by first | rfl | go_num, hJ3, hK.trans hk3⟩
        case measure => simp [intOf] <;> omega
      · gi_wp2
        refine bodyPost_ret (results_none rfl _ _ _) rfl ?_
        exact ⟨⟨_, rfl⟩, .inr ⟨_, ⟨len - m, rfl⟩, hJx3⟩⟩


set_option maxRecDepth 100000 in
set_option maxHeartbeats 2000000 in
/-- slices.Backward's closure, for every loop body that keeps what lay below n₀ and the box. -/
theorem backLinks1_in (F : Fence) (n : Nat) (hF : F.fn 64) (hro : F.round = none) (hn : 1 ≤ n) (l Bs n₀ len cap : Nat) (a : Option Addr) (us : List Value) (hus : us.length = len) (hlen : len ≤ 1000000) (hcap : len ≤ cap) (hcap2 : cap ≤ maxLen) (J Jx : List (Fin len) → World → Prop)
    (hY : ∀ pre x W, J pre W → pre.length < len → YieldAt F (n - 1) Try.prog l (backEnc us x) W fun e W' =>
      (e = .returned (.bool true) ∧ J (pre ++ [x]) W' ∧ KeepB n₀ Bs W W') ∨ (e = .returned (.bool false) ∧ Jx (pre ++ [x]) W'))
    (W : World) (hBs : W.cell? ⟨Bs, 0, none⟩ = some (.slice a len cap)) (hc : 0 < len → ∃ b off, a = some ⟨b, off, none⟩ ∧ b < n₀ ∧ ∀ (j : Nat) u, us[j]? = some u → W.cell? ⟨b, off + j, none⟩ = some u) (h0 : J [] W) :
    CallsIn F n Try.prog 64 #[.func (.yield l) #[] #[], .pointer (some ⟨Bs, 0, none⟩)] W fun e W' => (∃ v, e = .returned v) ∧
      ((∃ ys, ys = backs len len ∧ J ys W') ∨ (∃ pre, (∃ k, pre = backs len k) ∧ Jx pre W')) := by
  unfold maxLen at hcap2
  refine callsIn_of_wp Try.func64 rfl hF ?_ hro
  simp only [Try.ntmps64, List.size_toArray, List.length_cons, List.length_nil, Nat.reduceAdd, Nat.reduceSub, Array.replicate_succ, Array.replicate_zero, List.push_toArray, List.append_toArray, List.nil_append, List.cons_append]
  have p1 : IntKind.i64.wrap ((len : Int) - 1) = (len : Int) - 1 := by rw [IntKind.wrap_i64]; omega
  have HC := Lib.hid hc
  clear hc
  gi_wp2
  clear p1
  gi_loopw [3] (fun i wr => ∃ r : Nat, r ≤ len ∧ i = .int .i64 ((r : Int) - 1) ∧ J (backs len (len - r)) wr ∧ KeepB n₀ Bs W wr) (fun i _ => (intOf i + 1).toNat)
  case atStart => exact ⟨len, Nat.le_refl _, rfl, by rw [Nat.sub_self]; exact h0, KeepB.refl _ _ _⟩
  case round =>
    obtain ⟨r, hr, rfl, hJ, hK⟩ := hrel
    match r, hr with
    | 0, _ =>
      rw [show ((0 : Nat) : Int) - 1 = -1 by omega]
      gi_wp2
      go_end0
      exact ⟨⟨_, rfl⟩, .inl ⟨_, rfl, by rw [Nat.sub_zero] at hJ; exact hJ⟩⟩
    | m + 1, hr =>
      rw [show ((m + 1 : Nat) : Int) - 1 = (m : Int) by omega]
      obtain ⟨b, off, rfl, hb, hcell⟩ := HC.out (by omega)
      obtain ⟨u, hu⟩ : ∃ u, us[m]? = some u := ⟨us[m]'(by omega), List.getElem?_eq_getElem _⟩
      obtain ⟨fn, tmps, assign, body, hy, hR⟩ := hY _ ⟨m, by omega⟩ wr hJ (by rw [backs_length]; omega)
      have e0 := hK.2 _ hBs
      have e1 := (hK.1.cell (p := ⟨b, off + m, none⟩) hb).trans (hcell m u hu)
      have p2 : (0 : Int) ≤ (m : Int) := by omega
      have p3 : (m : Int) < (len : Int) := by omega
      simp only [backEnc, hu, Option.getD_some] at hy
      have hbs : backs len (len - (m + 1)) ++ [⟨m, by omega⟩] = backs len (len - m) := backs_succ len m hr
      rw [hbs] at hR
      have HC2 := HC
      clear hcell hu hbs
      gi_wp2
      refine hR.mono ?_
      rintro e W3 (⟨rfl, hJ3, hk3⟩ | ⟨rfl, hJx3⟩)
      · have p4 : IntKind.i64.wrap ((m : Int) - 1) = (m : Int) - 1 := by rw [IntKind.wrap_i64]; omega
        gi_wp2
        go_roundw
        case rel => exact ⟨m, by omega, by first | rfl | go_num, hJ3, hK.trans hk3⟩
        case measure => simp [intOf] <;> omega
      · gi_wp2
        refine bodyPost_ret (results_none rfl _ _ _) rfl ?_
        exact ⟨⟨_, rfl⟩, .inr ⟨_, ⟨len - m, rfl⟩, hJx3⟩⟩


end Go.Proofs.Ytplcikgmefcfbaa
