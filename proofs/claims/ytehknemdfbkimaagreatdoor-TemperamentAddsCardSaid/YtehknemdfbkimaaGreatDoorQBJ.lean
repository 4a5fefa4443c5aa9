/- Merged: TmpP, Ref2S, Ref2Q, TDot, TIntv. -/
import Derived.Test.YtehknemdfbkimaaGreatDoorQBI
import Derived.Test.YtehknemdfbkimaaGreatDoorQAE
import Derived.Test.YtehknemdfbkimaaGreatDoorQBB
/- Law 18, plain: the temperament of a plan; what its functions answer. -/
namespace Go.Proofs.YtehknemdfbkimaaGreatDoor
set_option linter.unusedVariables false
set_option linter.unusedSimpArgs false
open Go.RowKit

theorem primes12_bd (c : Nat) : ∀ x ∈ primes12 c, -1000000000 ≤ x ∧ x ≤ 1000000000 := by
  unfold primes12
  split <;> decide
theorem plan18 {n : Nat} {m : List (List Int)} (hn1 : 1 ≤ n) (hn : n ≤ 4) (hm : m.length ≤ 4) (hw : ∀ x ∈ m, x.length = n) (h9 : ∀ x ∈ m, RowLe 9 x) (P : List Int) (hP : primesE P = 0) (hPl : P.length = n) (vals : Bool) :
    ∃ F R A S C M, FromD n F m R A S ∧ (if vals then A else S) = C ∧ (if vals then S else A) = M ∧ FromD n F C C M C ∧ FromD n F M M C M ∧ TempF n F P m C M vals := by
  obtain ⟨F, R, A, S, h1, h2, h3, h4, h5⟩ := plan_temp hn1 hn hm hw h9 P hP hPl
  cases vals
  · exact ⟨F, R, A, S, S, A, h1, rfl, rfl, h2, h3, h4⟩
  · exact ⟨F, R, A, S, A, S, h1, rfl, rfl, h3, h2, h5⟩
theorem orth_of {n : Nat} {m : List (List Int)} (hm : Wid n m) {u v : List Int} (hv : Sat n m v) (hu : Ann n m u) : dotZ u v n = 0 := by
  obtain ⟨hl, D, hD, hs⟩ := hv
  have h := ann_sp hm hs hu
  rw [dotZ_comm, dotZ_smul] at h
  rcases Int.mul_eq_zero.1 h with h | h
  · exact absurd h hD
  · exact h
theorem sp_row {n : Nat} {C : List (List Int)} {x : List Int} (hx : x ∈ C) : Sp n (RowsFrom 0 C) x := by
  obtain ⟨i, hi, rfl⟩ := mem_rowE hx
  exact .mem ⟨i, Nat.zero_le _, hi, rfl⟩
/-- A plan's box. -/
theorem p18_block {w : World} {B : Nat} {x y z : Value} (h : w.heap[B]? = some (.cells #[x, y, z] 61 (0, 0))) : w.cell? ⟨B, 0, none⟩ = some x ∧ w.cell? ⟨B, 1, none⟩ = some y ∧ w.cell? ⟨B, 2, none⟩ = some z := by
  have h0 := block_cell h 0; have h1 := block_cell h 1; have h2 := block_cell h 2
  simp only [List.getElem?_toArray, List.getElem?_cons_zero, List.getElem?_cons_succ] at h0 h1 h2
  exact ⟨h0, h1, h2⟩
end Go.Proofs.YtehknemdfbkimaaGreatDoor
/- Contracts of the reference of chapter 02 at small integers: Sign, digits, Abs, Small, quick, Of. -/
namespace Go.Proofs.YtehknemdfbkimaaGreatDoor
set_option linter.unusedVariables false
set_option linter.unusedSimpArgs false
open Go.RowKit

set_option maxRecDepth 100000 in
theorem rOf_any (n : Int) (w : World) (h1 : -9223372036854775808 ≤ n) (h2 : n ≤ 9223372036854775807) (ht : Pow10 w) :
    Calls Tryz.prog 111 #[.int .i64 n] w fun e w' => e = .returned (.string (intB n)) ∧ Ext w w' := by
  have HA := Lib.hid (itoa_int n w h1 h2 ht)
  clear ht
  go_enter Tryz.func111, Tryz.ntmps111
  go_wp2_with fail
  refine HA.out.mono ?_
  rintro e w1 ⟨rfl, hE1⟩
  have HE1 := Lib.hid hE1
  clear hE1 HA
  go_wp2_with fail
  go_ret
  exact ⟨rfl, HE1.out⟩


set_option maxRecDepth 100000 in
set_option maxHeartbeats 400000 in
theorem rDigits_any (n : Int) (w : World) :
    Calls Tryz.prog 162 #[.string (intB n)] w fun e w' => e = .returned (.string (numB n.natAbs)) ∧ w = w' := by
  have hp0 : 0 < (intB n).size := intB_size_pos n
  have hp' : (0 : Int) < ((intB n).size : Int) := by omega
  by_cases h : n < 0
  · have q := neg_head n h hp0
    have HT := Lib.hid (neg_tail n h)
    have hp1 : (1 : Int) ≤ ((intB n).size : Int) := by omega
    have hp2 : 1 ≤ (intB n).size := hp0
    clear h
    go_enter Tryz.func162, Tryz.ntmps162
    go_wp2_with fail
    go_ret
    exact ⟨by rw [← HT.out]; rfl, rfl⟩
  · have q := dig_head (intB n) n.toNat (intB_pos n (by omega)) hp0
    have HR : Hid (intB n = numB n.natAbs) := by unfold Hid; rw [intB_pos n (by omega)]; congr 1; omega
    clear h
    go_enter Tryz.func162, Tryz.ntmps162
    go_wp2_with fail
    go_ret
    exact ⟨by rw [← HR.out]; rfl, rfl⟩
/-- The text's digits from a place on. -/
structure TextAt (s : ByteArray) (i0 u : Nat) : Prop where
  size : i0 ≤ s.size
  digs : (s.data.toList.drop i0).all isDig = true
  val : decV 0 (s.data.toList.drop i0) = u
def preV (s : ByteArray) (i0 i : Nat) : Nat := decV 0 ((s.data.toList.drop i0).take (i - i0))
theorem preV_succ {s : ByteArray} {i0 i : Nat} (h0 : i0 ≤ i) (hi : i < s.size) : preV s i0 (i + 1) = preV s i0 i * 10 + (s[i].toNat - 48) := by
  unfold preV
  have h1 : (s.data.toList.drop i0)[i - i0]? = some s[i] := by
    rw [List.getElem?_drop, show i0 + (i - i0) = i by omega]
    exact bytes_get s i hi
  rw [show i + 1 - i0 = (i - i0) + 1 by omega, List.take_add_one, h1, decV_append]
  rfl
theorem TextAt.dig {s : ByteArray} {i0 u : Nat} (h : TextAt s i0 u) {i : Nat} (h0 : i0 ≤ i) (hi : i < s.size) : 48 ≤ s[i].toNat ∧ s[i].toNat ≤ 57 := by
  have h1 : (s.data.toList.drop i0)[i - i0]? = some s[i] := by
    rw [List.getElem?_drop, show i0 + (i - i0) = i by omega]
    exact bytes_get s i hi
  exact of_decide_eq_true (List.all_eq_true.1 h.digs _ (List.mem_of_getElem? h1))
theorem TextAt.le {s : ByteArray} {i0 u : Nat} (h : TextAt s i0 u) (i : Nat) : preV s i0 i ≤ u := by
  have hs : s.data.toList.drop i0 = (s.data.toList.drop i0).take (i - i0) ++ (s.data.toList.drop i0).drop (i - i0) := (List.take_append_drop _ _).symm
  rw [← h.val, hs, decV_append]
  unfold preV
  exact decV_self _ _
theorem TextAt.all {s : ByteArray} {i0 u : Nat} (h : TextAt s i0 u) : preV s i0 s.size = u := by
  unfold preV
  rw [List.take_of_length_le (by rw [List.length_drop, ← Lib.size_eq]; omega)]
  exact h.val
theorem dig_ne (u : Nat) : Lib.decDigits u ≠ [] := by
  have h := (itoa_canon (u : Int)).2.2.2
  have e : Lib.itoa (u : Int) = Lib.decDigits u := by unfold Lib.itoa; rw [if_neg (by omega)]; rfl
  rwa [e] at h
theorem decV_digits (u : Nat) : decV 0 (Lib.decDigits u) = u := by
  have h := (itoa_canon (u : Int)).2.1
  have e : Lib.itoa (u : Int) = Lib.decDigits u := by unfold Lib.itoa; rw [if_neg (by omega)]; rfl
  rw [e] at h
  have hd := digits_all u
  cases hl : Lib.decDigits u with
  | nil => have := dig_ne u; rw [hl] at this; exact absurd rfl this
  | cons c r =>
    rw [hl] at h hd
    have hc : isDig c = true := by simp only [List.all_cons, Bool.and_eq_true] at hd; exact hd.1
    have hne : c ≠ 45 := by intro e; rw [e] at hc; revert hc; decide
    rw [numS_other hne] at h
    exact Int.ofNat.inj h
theorem text_int (n : Int) : TextAt (intB n) (if n < 0 then 1 else 0) n.natAbs := by
  by_cases h : n < 0
  · rw [if_pos h]
    have hl : (intB n).data.toList.drop 1 = Lib.decDigits n.natAbs := by rw [intB_neg n h, numB_data]; rfl
    exact ⟨by have := intB_size_pos n; omega, by rw [hl]; exact digits_all _, by rw [hl]; exact decV_digits _⟩
  · rw [if_neg h]
    have hl : (intB n).data.toList.drop 0 = Lib.decDigits n.natAbs := by rw [intB_pos n (by omega), numB_data, List.drop_zero]; congr 1; omega
    exact ⟨Nat.zero_le _, by rw [hl]; exact digits_all _, by rw [hl]; exact decV_digits _⟩

set_option maxRecDepth 100000 in
set_option maxHeartbeats 2000000 in
theorem rSmall_any (n : Int) (w : World) (hn : -1000000000000000000 < n ∧ n < 1000000000000000000) :
    Calls Tryz.prog 172 #[.string (intB n)] w fun e w' => e = .returned (.tuple #[.int .i64 n, .bool true]) ∧ Ext w w' := by
  have HT := Lib.hid (text_int n)
  have hp0 : 0 < (intB n).size := intB_size_pos n
  have hp' : (0 : Int) < ((intB n).size : Int) := by omega
  obtain ⟨u, hu⟩ : ∃ u, u = n.natAbs := ⟨_, rfl⟩
  rw [← hu] at HT
  have hub : u < 1000000000000000000 := by omega
  have hsz : (intB n).size ≤ 19 := by
    have h1 := intB_size_le n
    have h2 := numB_size_le n.natAbs 18 (by rw [show (10 : Nat) ^ 18 = 1000000000000000000 by decide]; omega) (by omega)
    omega
  by_cases h : n < 0
  case' pos =>
    rw [if_pos h] at HT
    have q := neg_head n h hp0
    have hs2 : 2 ≤ (intB n).size := by
      rw [intB_size_neg n h]
      have : 0 < (numB n.natAbs).size := by rw [Lib.size_eq, numB_data]; exact List.length_pos_iff.2 (dig_ne _)
      omega
    have q2 : ((1 : Int) == ((intB n).size : Int)) = false := by rw [beq_eq_false_iff_ne]; omega
    have hnu : n = -(u : Int) := by omega
    obtain ⟨i0, hi0⟩ : ∃ i0 : Nat, i0 = 1 := ⟨1, rfl⟩
  case' neg =>
    rw [if_neg h] at HT
    have q := dig_head (intB n) n.toNat (intB_pos n (by omega)) hp0
    have q2 : ((0 : Int) == ((intB n).size : Int)) = false := by rw [beq_eq_false_iff_ne]; omega
    have hnu : n = (u : Int) := by omega
    obtain ⟨i0, hi0⟩ : ∃ i0 : Nat, i0 = 0 := ⟨0, rfl⟩
  all_goals
    have HI := Lib.hid hi0
    have HNU := Lib.hid hnu
    rw [← hi0] at HT
    clear h hu hi0 hnu
    generalize intB n = s at *
    go_enter Tryz.func172, Tryz.ntmps172
    go_wp2_with fail
    clear q q2
    go_loopw [5, 7] (fun t v wr => ∃ i : Nat, i0 ≤ i ∧ i ≤ s.size ∧ t = .int .i64 (i : Int) ∧ v = .int .i64 (-(preV s i0 i : Int)) ∧ Ext w wr) (fun t _ _ => s.size - (intOf t).toNat)
    case atStart => exact ⟨i0, Nat.le_refl _, HT.out.size, by rw [HI.out]; rfl, by unfold preV; rw [Nat.sub_self]; rfl, by first | exact Ext.refl _ | exact Ext.drew _⟩
    case round =>
      obtain ⟨i, hi1, hi2, rfl, rfl, hE⟩ := hrel
      by_cases hlt : i < s.size
      · obtain ⟨dg1, dg2⟩ := HT.out.dig hi1 hlt
        have hsu := preV_succ hi1 hlt
        have hle := HT.out.le (i + 1)
        obtain ⟨z, hz⟩ : ∃ z : Nat, s[i].toNat = z + 48 := ⟨s[i].toNat - 48, by omega⟩
        obtain ⟨p, hp⟩ : ∃ p, p = preV s i0 i := ⟨_, rfl⟩
        rw [hz, ← hp, show z + 48 - 48 = z by omega] at hsu
        have HSU := Lib.hid hsu
        rw [hsu] at hle
        rw [← hp]
        have e1 : (s[i].toNat : Int) = (z : Int) + 48 := by rw [hz]; rfl
        have e2 : IntKind.i64.wrap ((z : Int) + 48 - 48) = (z : Int) := by rw [IntKind.wrap_i64]; omega
        have e3 : ¬ (9 : Int) < (z : Int) := by omega
        have e4 : IntKind.i64.wrap (-9223372036854775808 + (z : Int)) = -9223372036854775808 + (z : Int) := by rw [IntKind.wrap_i64]; omega
        obtain ⟨dq, hdq⟩ : ∃ dq, (-9223372036854775808 + (z : Int)).tdiv 10 = dq := ⟨_, rfl⟩
        have hdb : dq ≤ -900000000000000000 ∧ -1000000000000000000 ≤ dq := by
          have hneg : -9223372036854775808 + (z : Int) = -(9223372036854775808 - (z : Int)) := by omega
          rw [hneg, Int.neg_tdiv, Int.tdiv_eq_ediv_of_nonneg (by omega)] at hdq
          omega
        have e5 : IntKind.i64.wrap dq = dq := by rw [IntKind.wrap_i64]; omega
        have e6 : ¬ (-(p : Int)) < dq := by omega
        have e7 : IntKind.i64.wrap (-(p : Int) * 10) = -(p : Int) * 10 := by rw [IntKind.wrap_i64]; omega
        have e8 : IntKind.i64.wrap (-(p : Int) * 10 - (z : Int)) = -(p : Int) * 10 - (z : Int) := by rw [IntKind.wrap_i64]; omega
        have z1 := decide_eq_false e3
        have z2 := decide_eq_false e6
        clear hz hp hsu dg1 dg2
        have e9 : IntKind.i64.wrap ((i : Int) + 1) = (i : Int) + 1 := by rw [IntKind.wrap_i64]; omega
        go_wp2_with fail
        go_roundw
        case rel => exact ⟨i + 1, by omega, by omega, by go_num, by rw [HSU.out]; congr 1; omega, by first | exact hE | trivial⟩
        case measure => simp [intOf]; omega
      · obtain rfl : i = s.size := by omega
        rw [HT.out.all]
        have e1 : ((-(u : Int)) == -9223372036854775808) = false := by rw [beq_eq_false_iff_ne]; omega
        have e2 : IntKind.i64.wrap (0 - -(u : Int)) = (u : Int) := by rw [IntKind.wrap_i64]; omega
        go_wp2_with fail
        go_ret2
        exact ⟨by rw [HNU.out]; first | rfl | simp, by first | exact hE | trivial⟩
set_option maxRecDepth 100000 in
theorem rQuick_any (n : Int) (w : World) (hn : -1000000000000000000 < n ∧ n < 1000000000000000000) :
    Calls Tryz.prog 160 #[.string (intB n)] w fun e w' => e = .returned (.tuple #[.int .i64 n, .bool true]) ∧ Ext w w' := by
  have HD := Lib.hid (rDigits_any n w)
  have HS := Lib.hid (fun W => rSmall_any n W hn)
  have hsz := numB_size_le n.natAbs 18 (by rw [show (10 : Nat) ^ 18 = 1000000000000000000 by decide]; omega) (by omega)
  have hz : ¬ (18 : Int) < ((numB n.natAbs).size : Int) := by omega
  clear hn
  go_enter Tryz.func160, Tryz.ntmps160
  go_wp2_with fail
  refine HD.out.mono ?_
  rintro e w1 ⟨rfl, rfl⟩
  go_wp2_with fail
  refine (HS.out _).mono ?_
  rintro e w2 ⟨rfl, hE⟩
  have HE := Lib.hid hE
  clear hE HS HD
  go_wp2_with fail
  go_ret2
  exact ⟨rfl, HE.out⟩
end Go.Proofs.YtehknemdfbkimaaGreatDoor
/- Contracts of the reference of chapter 02 at small integers: Add, Mul. -/
namespace Go.Proofs.YtehknemdfbkimaaGreatDoor
set_option linter.unusedVariables false
set_option linter.unusedSimpArgs false
open Go.RowKit

set_option maxRecDepth 100000 in
set_option maxHeartbeats 1000000 in
theorem rAddQ_any (x y : Int) (w : World) (hx : -100000000000000000 < x ∧ x < 100000000000000000) (hy : -100000000000000000 < y ∧ y < 100000000000000000) (ht : Pow10 w) :
    Calls Tryz.prog 109 #[.string (intB x), .string (intB y)] w fun e w' => e = .returned (.string (intB (x + y))) ∧ Ext w w' := by
  have HQX := Lib.hid (fun W => rQuick_any x W (by omega))
  have HQY := Lib.hid (fun W => rQuick_any y W (by omega))
  have HOF := Lib.hid (fun W (hW : Ext w W) => rOf_any (x + y) W (by omega) (by omega) (ht.ext hW))
  have e1 : IntKind.i64.wrap (x + y) = x + y := by rw [IntKind.wrap_i64]; omega
  clear hx hy ht
  go_enter Tryz.func109, Tryz.ntmps109
  go_wp2_with fail
  refine (HQX.out _).mono ?_
  rintro e w1 ⟨rfl, hE1⟩
  have HE1 := Lib.hid hE1
  clear hE1 HQX
  go_wp2_with fail
  refine (HQY.out _).mono ?_
  rintro e w2 ⟨rfl, hE2⟩
  have HE2 := Lib.hid (HE1.out.trans hE2)
  clear hE2 HQY
  go_wp2_with fail
  refine (HOF.out _ HE2.out).mono ?_
  rintro e w3 ⟨rfl, hE3⟩
  have HE3 := Lib.hid (HE2.out.trans hE3)
  clear hE3 HOF
  go_wp2_with fail
  go_ret
  exact ⟨rfl, HE3.out⟩
set_option maxRecDepth 100000 in
set_option maxHeartbeats 1000000 in
theorem rMulQ_any (x y : Int) (w : World) (hx : x.natAbs < 100000000) (hy : y.natAbs < 10000000000) (ht : Pow10 w) :
    Calls Tryz.prog 110 #[.string (intB x), .string (intB y)] w fun e w' => e = .returned (.string (intB (x * y))) ∧ Ext w w' := by
  have hxy : (x * y).natAbs ≤ 99999999 * 9999999999 := by rw [Int.natAbs_mul]; exact Nat.mul_le_mul (by omega) (by omega)
  have HDX := Lib.hid (fun W => rDigits_any x W)
  have HDY := Lib.hid (fun W => rDigits_any y W)
  have HQX := Lib.hid (fun W => rQuick_any x W (by omega))
  have HQY := Lib.hid (fun W => rQuick_any y W (by omega))
  have HOF := Lib.hid (fun W (hW : Ext w W) => rOf_any (x * y) W (by omega) (by omega) (ht.ext hW))
  have e1 : IntKind.i64.wrap (x * y) = x * y := by rw [IntKind.wrap_i64]; omega
  have s1 := numB_size_le x.natAbs 8 (by rw [show (10 : Nat) ^ 8 = 100000000 by decide]; exact hx) (by omega)
  have s2 := numB_size_le y.natAbs 10 (by rw [show (10 : Nat) ^ 10 = 10000000000 by decide]; exact hy) (by omega)
  have e2 : ((numB x.natAbs).size : Int) + ((numB y.natAbs).size : Int) ≤ 18 := by omega
  have e3 : IntKind.i64.wrap (((numB x.natAbs).size : Int) + ((numB y.natAbs).size : Int)) = ((numB x.natAbs).size : Int) + ((numB y.natAbs).size : Int) := by rw [IntKind.wrap_i64]; omega
  clear hx hy ht hxy s1 s2
  go_enter Tryz.func110, Tryz.ntmps110
  go_wp2_with fail
  refine (HDX.out _).mono ?_
  rintro e w1 ⟨rfl, rfl⟩
  go_wp2_with fail
  refine (HDY.out _).mono ?_
  rintro e w1 ⟨rfl, rfl⟩
  go_wp2_with fail
  clear e2 e3 HDX HDY
  refine (HQX.out _).mono ?_
  rintro e w1 ⟨rfl, hE1⟩
  have HE1 := Lib.hid hE1
  clear hE1 HQX
  go_wp2_with fail
  refine (HQY.out _).mono ?_
  rintro e w2 ⟨rfl, hE2⟩
  have HE2 := Lib.hid (HE1.out.trans hE2)
  clear hE2 HQY
  go_wp2_with fail
  refine (HOF.out _ HE2.out).mono ?_
  rintro e w3 ⟨rfl, hE3⟩
  have HE3 := Lib.hid (HE2.out.trans hE3)
  clear hE3 HOF
  go_wp2_with fail
  go_ret
  exact ⟨rfl, HE3.out⟩
end Go.Proofs.YtehknemdfbkimaaGreatDoor
/- Law 18: dot, at small numbers. Printed by gen/tdot.py. -/
namespace Go.Proofs.YtehknemdfbkimaaGreatDoor
set_option linter.unusedVariables false
set_option linter.unusedSimpArgs false
open Go.RowKit

theorem dotZ_bound2 {A B : Nat} {x r : List Int} (hx : RowLe A x) (hr : RowLe B r) : ∀ k, (dotZ x r k).natAbs ≤ k * (A * B)
  | 0 => by unfold dotZ; simp
  | k + 1 => by
    unfold dotZ
    have h1 := dotZ_bound2 hx hr k
    have h2 : (x.getD k 0 * r.getD k 0).natAbs ≤ A * B := by rw [Int.natAbs_mul]; exact Nat.mul_le_mul (hx.getD k) (hr.getD k)
    rw [Nat.add_mul]; omega
set_option maxRecDepth 100000 in
set_option maxHeartbeats 4000000 in
theorem dot18_any (n : Nat) (r x : List Int) (vr vx : Value) (w : World) (hr : Ints w vr r) (hx : Ints w vx x) (hrl : r.length = n) (hxl : x.length = n) (hn : n ≤ 10) (hrb : RowLe 1000000 r) (hxb : RowLe 1000000000 x) (ht : Pow10 w) :
    Calls Tryz.prog 45 #[vr, vx] w fun e w' => e = .returned (.string (intB (dotZ r x n))) ∧ Ext w w' := by
  have HRB := Lib.hid hrb; have HXB := Lib.hid hxb; have HT := Lib.hid ht
  have HDB : Hid (∀ k, k ≤ n → -100000000000000000 < dotZ r x k ∧ dotZ r x k < 100000000000000000) := fun k hk => by
    have h1 := dotZ_bound2 hrb hxb k
    have h2 : k * (1000000 * 1000000000) ≤ 10 * (1000000 * 1000000000) := Nat.mul_le_mul_right _ (by omega)
    have h3 : (dotZ r x k).natAbs ≤ 10 * (1000000 * 1000000000) := Nat.le_trans h1 h2
    omega
  obtain ⟨ar, cr, rfl, r1, r2, -, -, rc⟩ := hr.open
  obtain ⟨ax, cx, rfl, x1, x2, -, -, xc⟩ := hx.open
  have HRC := Lib.hid rc; have HXC := Lib.hid xc; have HRL := Lib.hid hrl; have HXL := Lib.hid hxl
  rw [hrl, hxl]
  rw [hrl] at r1; rw [hxl] at x1
  unfold maxLen at r2 x2
  clear hr hx rc xc hrl hxl hrb hxb ht
  go_enter Tryz.func45, Tryz.ntmps45
  go_wp2_with fail
  go_loopw [5, 6] (fun s t wr => ∃ j : Nat, j ≤ n ∧ t = .int .i64 j ∧ s = .string (intB (dotZ r x j)) ∧ Hid (Ext w wr)) (fun _ t _ => n - (intOf t).toNat)
  case atStart => exact ⟨0, by omega, rfl, by show _ = Value.string (intB 0); rw [intB_nought], Ext.refl _⟩
  case round =>
    obtain ⟨k, hk, rfl, rfl, HK⟩ := hrel
    obtain ⟨w3, rfl⟩ : ∃ w3 : World, w3 = wr := ⟨_, rfl⟩
    by_cases hkn : k < n
    · obtain ⟨br, orr, rfl, hbr, rcell⟩ := HRC.out (by intro e; have := HRL.out; rw [e] at this; simp at this; omega)
      obtain ⟨bx, ox, rfl, hbx, xcell⟩ := HXC.out (by intro e; have := HXL.out; rw [e] at this; simp at this; omega)
      obtain ⟨y, hy⟩ : ∃ y, r[k]? = some y := ⟨r[k]'(by rw [HRL.out]; exact hkn), List.getElem?_eq_getElem _⟩
      obtain ⟨z, hz⟩ : ∃ z, x[k]? = some z := ⟨x[k]'(by rw [HXL.out]; exact hkn), List.getElem?_eq_getElem _⟩
      have gr := HK.out.cell (rcell k y hy)
      have gx := HK.out.cell (xcell k z hz)
      have hyb := HRB.out y (List.mem_of_getElem? hy); have hzb := HXB.out z (List.mem_of_getElem? hz)
      have HD : Hid (dotZ r x (k + 1) = dotZ r x k + y * z) := by
        show dotZ r x k + r.getD k 0 * x.getD k 0 = _
        rw [List.getD_eq_getElem?_getD, List.getD_eq_getElem?_getD, hy, hz]; rfl
      have HOY := Lib.hid (fun W (hW : Ext w3 W) => rOf_any y W (by omega) (by omega) (HT.out.ext (HK.out.trans hW)))
      have HOZ := Lib.hid (fun W (hW : Ext w3 W) => rOf_any z W (by omega) (by omega) (HT.out.ext (HK.out.trans hW)))
      have hyz : (y * z).natAbs ≤ 1000000 * 1000000000 := by rw [Int.natAbs_mul]; exact Nat.mul_le_mul hyb hzb
      have HMU := Lib.hid (fun W (hW : Ext w3 W) => rMulQ_any y z W (by omega) (by omega) (HT.out.ext (HK.out.trans hW)))
      have HAD := Lib.hid (fun W (hW : Ext w3 W) => rAddQ_any (dotZ r x k) (y * z) W (HDB.out k hk) (by omega) (HT.out.ext (HK.out.trans hW)))
      rw [← HD.out] at HAD
      clear xcell rcell hy hz hyb hzb hyz
      go_upto_region 5 with fail
      refine region_anyEV (fun w' => w'.cell? ⟨br, orr + k, none⟩ = some (.int .i64 y) ∧ w'.cell? ⟨bx, ox + k, none⟩ = some (.int .i64 z) ∧ Hid (Ext w3 w')) 14 14 (by kernel_rfl) (by kernel_rfl) ⟨(Ext.drew w3).cell gr, (Ext.drew w3).cell gx, Ext.drew w3⟩ (fun ops hO hHeld => ?_)
      generalize w3.drew = wd at hHeld ⊢
      have hi := getopN hO 0 (by decide)
      conv at hi => rhs; arg 1; whnf
      refine anyE_takeWV hO (v := ?_) 0 hi (by kernel_rfl) (by kernel_rfl) (by kernel_rfl) (by kernel_rfl) (fun _ _ _ h => h) (Or.inl ⟨by rfl, ?_⟩) (by assumption) ?_
      rotate_left
      · ((intro w'); (try go_simp); (try with_reducible rfl))
      clear hi
      (try simp only [Act.put, List.setIfInBounds_toArray, List.set_cons_zero, List.set_cons_succ])
      have hi := getopN hO 1 (by decide)
      conv at hi => rhs; arg 1; whnf
      refine anyE_takeWV hO (v := ?_) 1 hi (by kernel_rfl) (by kernel_rfl) (by kernel_rfl) (by kernel_rfl) (fun _ _ _ h => h) (Or.inl ⟨by rfl, ?_⟩) (by assumption) ?_
      rotate_left
      · ((intro w'); (try go_simp); (try with_reducible rfl))
      clear hi
      (try simp only [Act.put, List.setIfInBounds_toArray, List.set_cons_zero, List.set_cons_succ])
      have hi := getopN hO 2 (by decide)
      conv at hi => rhs; arg 1; whnf
      refine anyE_takeWV hO (v := ?_) 2 hi (by kernel_rfl) (by kernel_rfl) (by kernel_rfl) (by kernel_rfl) (fun _ _ _ h => h) (Or.inl ⟨by rfl, ?_⟩) (by assumption) ?_
      rotate_left
      · ((intro w'); (try go_simp); (try with_reducible rfl))
      clear hi
      (try simp only [Act.put, List.setIfInBounds_toArray, List.set_cons_zero, List.set_cons_succ])
      have hi := getopN hO 3 (by decide)
      conv at hi => rhs; arg 1; whnf
      refine anyE_takeWV hO (v := ?_) 3 hi (by kernel_rfl) (by kernel_rfl) (by kernel_rfl) (by kernel_rfl) (fun _ _ _ h => h) (Or.inl ⟨by rfl, ?_⟩) (by assumption) ?_
      rotate_left
      · ((intro w'); (try go_simp); (try with_reducible rfl))
      clear hi
      (try simp only [Act.put, List.setIfInBounds_toArray, List.set_cons_zero, List.set_cons_succ])
      have hi := getopN hO 4 (by decide)
      conv at hi => rhs; arg 1; whnf
      refine anyE_takeV hO (v := ?_) 4 hi (by kernel_rfl) (by kernel_rfl) (by kernel_rfl) (by kernel_rfl) (fun _ _ _ h => h) (Or.inl ⟨by rfl, ?_⟩) (by assumption) ?_
      rotate_left
      · ((intro w' hSw); (try dsimp only at hSw); (try go_simp); (try with_reducible rfl))
      clear hi
      (try simp only [Act.put, List.setIfInBounds_toArray, List.set_cons_zero, List.set_cons_succ])
      have hi := getopN hO 6 (by decide)
      conv at hi => rhs; arg 1; whnf
      refine anyE_takeWV hO (v := ?_) 6 hi (by kernel_rfl) (by kernel_rfl) (by kernel_rfl) (by kernel_rfl) (fun _ _ _ h => h) (Or.inl ⟨by rfl, ?_⟩) (by assumption) ?_
      rotate_left
      · ((intro w'); (try go_simp); (try with_reducible rfl))
      clear hi
      (try simp only [Act.put, List.setIfInBounds_toArray, List.set_cons_zero, List.set_cons_succ])
      have hi := getopN hO 7 (by decide)
      conv at hi => rhs; arg 1; whnf
      refine anyE_takeWV hO (v := ?_) 7 hi (by kernel_rfl) (by kernel_rfl) (by kernel_rfl) (by kernel_rfl) (fun _ _ _ h => h) (Or.inl ⟨by rfl, ?_⟩) (by assumption) ?_
      rotate_left
      · ((intro w'); (try go_simp); (try with_reducible rfl))
      clear hi
      (try simp only [Act.put, List.setIfInBounds_toArray, List.set_cons_zero, List.set_cons_succ])
      have hi := getopN hO 8 (by decide)
      conv at hi => rhs; arg 1; whnf
      refine anyE_takeWV hO (v := ?_) 8 hi (by kernel_rfl) (by kernel_rfl) (by kernel_rfl) (by kernel_rfl) (fun _ _ _ h => h) (Or.inl ⟨by rfl, ?_⟩) (by assumption) ?_
      rotate_left
      · ((intro w'); (try go_simp); (try with_reducible rfl))
      clear hi
      (try simp only [Act.put, List.setIfInBounds_toArray, List.set_cons_zero, List.set_cons_succ])
      have hi := getopN hO 9 (by decide)
      conv at hi => rhs; arg 1; whnf
      refine anyE_takeV hO (v := ?_) 9 hi (by kernel_rfl) (by kernel_rfl) (by kernel_rfl) (by kernel_rfl) (fun _ _ _ h => h) (Or.inl ⟨by rfl, ?_⟩) (by assumption) ?_
      rotate_left
      · ((intro w' hSw); (try dsimp only at hSw); (try go_simp); (try with_reducible rfl))
      clear hi
      (try simp only [Act.put, List.setIfInBounds_toArray, List.set_cons_zero, List.set_cons_succ])
      have hi := getopN hO 5 (by decide)
      conv at hi => rhs; arg 1; whnf
      refine anyE_stepV hO 5 (by kernel_rfl) hi (fun K hK => ?_)
      go_simp
      (go_at_call 111; refine (HOY.out _ (hHeld.2.2.out)).mono ?_)
      rintro e w4 ⟨rfl, hEz⟩
      go_wp2_with fail
      refine hK.out _ _ ⟨(hEz).cell hHeld.1, (hEz).cell hHeld.2.1, Ext.trans hHeld.2.2.out (hEz)⟩ (fun hHeld => ?_)
      clear hK K hi
      (try simp only [Act.put, List.setIfInBounds_toArray, List.set_cons_zero, List.set_cons_succ])
      have hi := getopN hO 10 (by decide)
      conv at hi => rhs; arg 1; whnf
      refine anyE_stepV hO 10 (by kernel_rfl) hi (fun K hK => ?_)
      go_simp
      (go_at_call 111; refine (HOZ.out _ (hHeld.2.2.out)).mono ?_)
      rintro e w5 ⟨rfl, hEz⟩
      go_wp2_with fail
      refine hK.out _ _ ⟨(hEz).cell hHeld.1, (hEz).cell hHeld.2.1, Ext.trans hHeld.2.2.out (hEz)⟩ (fun hHeld => ?_)
      clear hK K hi
      (try simp only [Act.put, List.setIfInBounds_toArray, List.set_cons_zero, List.set_cons_succ])
      have hi := getopN hO 11 (by decide)
      conv at hi => rhs; arg 1; whnf
      refine anyE_stepV hO 11 (by kernel_rfl) hi (fun K hK => ?_)
      go_simp
      (go_at_call 110; refine (HMU.out _ (hHeld.2.2.out)).mono ?_)
      rintro e w6 ⟨rfl, hEz⟩
      go_wp2_with fail
      refine hK.out _ _ ⟨(hEz).cell hHeld.1, (hEz).cell hHeld.2.1, Ext.trans hHeld.2.2.out (hEz)⟩ (fun hHeld => ?_)
      clear hK K hi
      (try simp only [Act.put, List.setIfInBounds_toArray, List.set_cons_zero, List.set_cons_succ])
      have hi := getopN hO 12 (by decide)
      conv at hi => rhs; arg 1; whnf
      refine anyE_stepV hO 12 (by kernel_rfl) hi (fun K hK => ?_)
      go_simp
      (go_at_call 109; refine (HAD.out _ (hHeld.2.2.out)).mono ?_)
      rintro e w7 ⟨rfl, hEz⟩
      go_wp2_with fail
      refine hK.out _ _ ⟨(hEz).cell hHeld.1, (hEz).cell hHeld.2.1, Ext.trans hHeld.2.2.out (hEz)⟩ (fun hHeld => ?_)
      clear hK K hi
      (try simp only [Act.put, List.setIfInBounds_toArray, List.set_cons_zero, List.set_cons_succ])
      have HZ := Lib.hid (hHeld.2.2.out)
      have hi := getopN hO 13 (by decide)
      conv at hi => rhs; arg 1; whnf
      refine anyE_lastV hO 13 (by kernel_rfl) (by kernel_rfl) hi (fun K hK => ?_)
      go_simp
      refine hK.out _ _ (by assumption) ?_
      clear hK K hi hO
      (try simp only [Act.put, List.setIfInBounds_toArray, List.set_cons_zero, List.set_cons_succ])
      have HK7 := Lib.hid (HK.out.trans HZ.out)
      go_wp2_with fail
      go_roundw
      case rel => exact ⟨k + 1, by omega, by go_num, rfl, HK7.out⟩
      case measure => simp [intOf]; omega
    · obtain rfl : k = n := by omega
      go_wp2_with fail
      go_ret
      exact ⟨rfl, HK.out⟩
end Go.Proofs.YtehknemdfbkimaaGreatDoor
/- Law 18: interval. -/
namespace Go.Proofs.YtehknemdfbkimaaGreatDoor
set_option linter.unusedVariables false
set_option linter.unusedSimpArgs false
open Go.RowKit

set_option maxRecDepth 100000 in
set_option maxHeartbeats 2000000 in
theorem interval18_any (P : List Int) (C M : List (List Int)) (x : List Int) (v vx : Value) (w : World) (hV : TempV w v P C M) (hx : Ints w vx x) :
    Calls Tryz.prog 44 #[v, vx] w fun e w' => e = .returned (.int .i64 (allE P.length [x])) ∧ Ext w w' := by
  have HCK := Lib.hid (fun W (hW : Ext w W) => rowCheck_any x vx W (hx.ext hW))
  obtain ⟨vp, vc, vm, rfl, hvp, hvc, hvm⟩ := hV
  obtain ⟨ap, cp, rfl, -, p2, -⟩ := hvp.open
  obtain ⟨ac, cc, rfl, -⟩ := inCell.open hvc
  obtain ⟨am, cm, rfl, -⟩ := inCell.open hvm
  obtain ⟨ax, cx, rfl, -, x2, -⟩ := hx.open
  have HA : Hid (allE P.length [x] = if rowE x = 0 then (if (x.length : Int) = P.length then 0 else 5) else rowE x) := allE_cons _ _ _
  rw [HA.out]
  clear hvp hvc hvm hx HA
  unfold maxLen at p2 x2
  by_cases he : rowE x = 0
  · rw [he] at HCK
    rw [if_pos he]
    clear he
    by_cases hl : (x.length : Int) = P.length
    case' pos =>
      rw [if_pos hl]
      have hz : ((x.length : Int) != (P.length : Int)) = false := by simp [hl]
    case' neg =>
      rw [if_neg hl]
      have hz : ((x.length : Int) != (P.length : Int)) = true := by simpa using hl
    all_goals
      clear hl
      go_enter Tryz.func44, Tryz.ntmps44
      obtain ⟨W1, hW1, hE1, hs1, hb1⟩ := tp_new w (.slice ap P.length cp) (.slice ac C.length cc) (.slice am M.length cm)
      have HB1 := Lib.hid hb1; have HE1 := Lib.hid hE1
      clear hE1 hs1 hb1
      go_wp2_with fail
      refine (HCK.out _ HE1.out).mono ?_
      rintro e w2 ⟨rfl, hE2⟩
      have HE2 := Lib.hid (HE1.out.trans hE2)
      obtain ⟨b0, b1, b2, -⟩ := tp_block (block_ext HB1.out hE2)
      clear hE2 HCK HB1 HE1 hW1
      go_wp2_with fail
      go_ret
      exact ⟨rfl, HE2.out⟩
  · obtain ⟨E, hE⟩ : ∃ E, rowE x = E := ⟨_, rfl⟩
    rw [if_neg he]
    rw [hE] at HCK he ⊢
    have hz : (E != 0) = true := by simp [he]
    clear he hE
    go_enter Tryz.func44, Tryz.ntmps44
    obtain ⟨W1, hW1, hE1, hs1, hb1⟩ := tp_new w (.slice ap P.length cp) (.slice ac C.length cc) (.slice am M.length cm)
    have HE1 := Lib.hid hE1
    clear hE1 hs1 hb1
    go_wp2_with fail
    refine (HCK.out _ HE1.out).mono ?_
    rintro e w2 ⟨rfl, hE2⟩
    have HE2 := Lib.hid (HE1.out.trans hE2)
    clear hE2 HCK HE1 hW1
    go_wp2_with fail
    go_ret
    exact ⟨rfl, HE2.out⟩
end Go.Proofs.YtehknemdfbkimaaGreatDoor
