/- Merged: Ref2A, Num6, Same6. -/
import Derived.Test.YtpeinobepiodaaaGreatDoorGE
import Derived.Test.YtpeinobepiodaaaGreatDoorGF
import Derived.Test.YtpeinobepiodaaaGreatDoorGK
import Derived.Test.YtpeinobepiodaaaGreatDoorGH
import Derived.Test.YtpeinobepiodaaaGreatDoorGI
import Derived.Laws.StructEq
/- Contracts of the reference of chapter 02 at small integers: Sign, digits, Abs, Small, quick, Of, DivMod, Gcd. -/
namespace Go.Proofs.YtpeinobepiodaaaGreatDoor
set_option linter.unusedVariables false
set_option linter.unusedSimpArgs false
open Go.RowKit

set_option maxRecDepth 100000 in
set_option maxHeartbeats 400000 in
theorem rSign_any (n : Int) (w : World) :
    Calls Tryz.prog 94 #[.string (intB n)] w fun e w' => e = .returned (.int .i64 n.sign) ∧ w = w' := by
  have hp0 : 0 < (intB n).size := intB_size_pos n
  have hz := int_zero n
  by_cases h0 : n = 0
  · rw [decide_eq_true h0] at hz
    have HR : Hid (n.sign = 0) := by unfold Hid; rw [h0]; rfl
    rw [HR.out]
    clear h0 HR
    go_enter Tryz.func94, Tryz.ntmps94
    go_wp2_with fail
    go_ret
    exact ⟨rfl, rfl⟩
  · rw [decide_eq_false h0] at hz
    by_cases h : n < 0
    · have q := neg_head n h hp0
      have HR : Hid (n.sign = -1) := Int.sign_eq_neg_one_of_neg h
      rw [HR.out]
      clear h0 h HR
      go_enter Tryz.func94, Tryz.ntmps94
      go_wp2_with fail
      go_ret
      exact ⟨rfl, rfl⟩
    · have q := dig_head (intB n) n.toNat (intB_pos n (by omega)) hp0
      have HR : Hid (n.sign = 1) := Int.sign_eq_one_of_pos (by omega)
      rw [HR.out]
      clear h0 h HR
      go_enter Tryz.func94, Tryz.ntmps94
      go_wp2_with fail
      go_ret
      exact ⟨rfl, rfl⟩

set_option maxRecDepth 100000 in
theorem rOf_any (n : Int) (w : World) (h1 : -9223372036854775808 ≤ n) (h2 : n ≤ 9223372036854775807) (ht : Pow10 w) :
    Calls Tryz.prog 71 #[.int .i64 n] w fun e w' => e = .returned (.string (intB n)) ∧ Ext w w' := by
  have HA := Lib.hid (itoa_int n w h1 h2 ht)
  clear ht
  go_enter Tryz.func71, Tryz.ntmps71
  go_wp2_with fail
  refine HA.out.mono ?_
  rintro e w1 ⟨rfl, hE1⟩
  have HE1 := Lib.hid hE1
  clear hE1 HA
  go_wp2_with fail
  go_ret
  exact ⟨rfl, HE1.out⟩


set_option maxRecDepth 100000 in
set_option maxHeartbeats 400000 in
theorem rDigits_any (n : Int) (w : World) :
    Calls Tryz.prog 104 #[.string (intB n)] w fun e w' => e = .returned (.string (numB n.natAbs)) ∧ w = w' := by
  have hp0 : 0 < (intB n).size := intB_size_pos n
  have hp' : (0 : Int) < ((intB n).size : Int) := by omega
  by_cases h : n < 0
  · have q := neg_head n h hp0
    have HT := Lib.hid (neg_tail n h)
    have hp1 : (1 : Int) ≤ ((intB n).size : Int) := by omega
    have hp2 : 1 ≤ (intB n).size := hp0
    clear h
    go_enter Tryz.func104, Tryz.ntmps104
    go_wp2_with fail
    go_ret
    exact ⟨by rw [← HT.out]; rfl, rfl⟩
  · have q := dig_head (intB n) n.toNat (intB_pos n (by omega)) hp0
    have HR : Hid (intB n = numB n.natAbs) := by unfold Hid; rw [intB_pos n (by omega)]; congr 1; omega
    clear h
    go_enter Tryz.func104, Tryz.ntmps104
    go_wp2_with fail
    go_ret
    exact ⟨by rw [← HR.out]; rfl, rfl⟩
set_option maxRecDepth 100000 in
theorem rAbs_any (n : Int) (w : World) :
    Calls Tryz.prog 126 #[.string (intB n)] w fun e w' => e = .returned (.string (numB n.natAbs)) ∧ Ext w w' := by
  have HD := Lib.hid (rDigits_any n w)
  go_enter Tryz.func126, Tryz.ntmps126
  go_wp2_with fail
  refine HD.out.mono ?_
  rintro e w1 ⟨rfl, rfl⟩
  go_wp2_with fail
  go_ret
  exact ⟨rfl, Ext.refl _⟩

/-- The text's digits from a place on. -/
structure TextAt (s : ByteArray) (i0 u : Nat) : Prop where
  size : i0 ≤ s.size
  digs : (s.data.toList.drop i0).all isDig = true
  val : decV 0 (s.data.toList.drop i0) = u
def preV (s : ByteArray) (i0 i : Nat) : Nat := decV 0 ((s.data.toList.drop i0).take (i - i0))
theorem preV_succ {s : ByteArray} {i0 i : Nat} (h0 : i0 ≤ i) (hi : i < s.size) : preV s i0 (i + 1) = preV s i0 i * 10 + (s[i].toNat - 48) := by
  unfold preV
  have h1 : (s.data.toList.drop i0)[i - i0]? = some s[i] := by
    rw [List.getElem?_drop, show i0 + (i - i0) = i by omega]
    exact bytes_get s i hi
  rw [show i + 1 - i0 = (i - i0) + 1 by omega, List.take_add_one, h1, decV_append]
  rfl
theorem TextAt.dig {s : ByteArray} {i0 u : Nat} (h : TextAt s i0 u) {i : Nat} (h0 : i0 ≤ i) (hi : i < s.size) : 48 ≤ s[i].toNat ∧ s[i].toNat ≤ 57 := by
  have h1 : (s.data.toList.drop i0)[i - i0]? = some s[i] := by
    rw [List.getElem?_drop, show i0 + (i - i0) = i by omega]
    exact bytes_get s i hi
  exact of_decide_eq_true (List.all_eq_true.1 h.digs _ (List.mem_of_getElem? h1))
theorem TextAt.le {s : ByteArray} {i0 u : Nat} (h : TextAt s i0 u) (i : Nat) : preV s i0 i ≤ u := by
  have hs : s.data.toList.drop i0 = (s.data.toList.drop i0).take (i - i0) ++ (s.data.toList.drop i0).drop (i - i0) := (List.take_append_drop _ _).symm
  rw [← h.val, hs, decV_append]
  unfold preV
  exact decV_self _ _
theorem TextAt.all {s : ByteArray} {i0 u : Nat} (h : TextAt s i0 u) : preV s i0 s.size = u := by
  unfold preV
  rw [List.take_of_length_le (by rw [List.length_drop, ← Lib.size_eq]; omega)]
  exact h.val
theorem dig_ne (u : Nat) : Lib.decDigits u ≠ [] := by
  have h := (itoa_canon (u : Int)).2.2.2
  have e : Lib.itoa (u : Int) = Lib.decDigits u := by unfold Lib.itoa; rw [if_neg (by omega)]; rfl
  rwa [e] at h
theorem decV_digits (u : Nat) : decV 0 (Lib.decDigits u) = u := by
  have h := (itoa_canon (u : Int)).2.1
  have e : Lib.itoa (u : Int) = Lib.decDigits u := by unfold Lib.itoa; rw [if_neg (by omega)]; rfl
  rw [e] at h
  have hd := digits_all u
  cases hl : Lib.decDigits u with
  | nil => have := dig_ne u; rw [hl] at this; exact absurd rfl this
  | cons c r =>
    rw [hl] at h hd
    have hc : isDig c = true := by simp only [List.all_cons, Bool.and_eq_true] at hd; exact hd.1
    have hne : c ≠ 45 := by intro e; rw [e] at hc; revert hc; decide
    rw [numS_other hne] at h
    exact Int.ofNat.inj h
theorem text_int (n : Int) : TextAt (intB n) (if n < 0 then 1 else 0) n.natAbs := by
  by_cases h : n < 0
  · rw [if_pos h]
    have hl : (intB n).data.toList.drop 1 = Lib.decDigits n.natAbs := by rw [intB_neg n h, numB_data]; rfl
    exact ⟨by have := intB_size_pos n; omega, by rw [hl]; exact digits_all _, by rw [hl]; exact decV_digits _⟩
  · rw [if_neg h]
    have hl : (intB n).data.toList.drop 0 = Lib.decDigits n.natAbs := by rw [intB_pos n (by omega), numB_data, List.drop_zero]; congr 1; omega
    exact ⟨Nat.zero_le _, by rw [hl]; exact digits_all _, by rw [hl]; exact decV_digits _⟩

set_option maxRecDepth 100000 in
set_option maxHeartbeats 2000000 in
theorem rSmall_any (n : Int) (w : World) (hn : -1000000000000000000 < n ∧ n < 1000000000000000000) :
    Calls Tryz.prog 76 #[.string (intB n)] w fun e w' => e = .returned (.tuple #[.int .i64 n, .bool true]) ∧ Ext w w' := by
  have HT := Lib.hid (text_int n)
  have hp0 : 0 < (intB n).size := intB_size_pos n
  have hp' : (0 : Int) < ((intB n).size : Int) := by omega
  obtain ⟨u, hu⟩ : ∃ u, u = n.natAbs := ⟨_, rfl⟩
  rw [← hu] at HT
  have hub : u < 1000000000000000000 := by omega
  have hsz : (intB n).size ≤ 19 := by
    have h1 := intB_size_le n
    have h2 := numB_size_le n.natAbs 18 (by rw [show (10 : Nat) ^ 18 = 1000000000000000000 by decide]; omega) (by omega)
    omega
  by_cases h : n < 0
  case' pos =>
    rw [if_pos h] at HT
    have q := neg_head n h hp0
    have hs2 : 2 ≤ (intB n).size := by
      rw [intB_size_neg n h]
      have : 0 < (numB n.natAbs).size := by rw [Lib.size_eq, numB_data]; exact List.length_pos_iff.2 (dig_ne _)
      omega
    have q2 : ((1 : Int) == ((intB n).size : Int)) = false := by rw [beq_eq_false_iff_ne]; omega
    have hnu : n = -(u : Int) := by omega
    obtain ⟨i0, hi0⟩ : ∃ i0 : Nat, i0 = 1 := ⟨1, rfl⟩
  case' neg =>
    rw [if_neg h] at HT
    have q := dig_head (intB n) n.toNat (intB_pos n (by omega)) hp0
    have q2 : ((0 : Int) == ((intB n).size : Int)) = false := by rw [beq_eq_false_iff_ne]; omega
    have hnu : n = (u : Int) := by omega
    obtain ⟨i0, hi0⟩ : ∃ i0 : Nat, i0 = 0 := ⟨0, rfl⟩
  all_goals
    have HI := Lib.hid hi0
    have HNU := Lib.hid hnu
    rw [← hi0] at HT
    clear h hu hi0 hnu
    generalize intB n = s at *
    go_enter Tryz.func76, Tryz.ntmps76
    go_wp2_with fail
    clear q q2
    go_loopw [5, 7] (fun t v wr => ∃ i : Nat, i0 ≤ i ∧ i ≤ s.size ∧ t = .int .i64 (i : Int) ∧ v = .int .i64 (-(preV s i0 i : Int)) ∧ Ext w wr) (fun t _ _ => s.size - (intOf t).toNat)
    case atStart => exact ⟨i0, Nat.le_refl _, HT.out.size, by rw [HI.out]; rfl, by unfold preV; rw [Nat.sub_self]; rfl, by first | exact Ext.refl _ | exact Ext.drew _⟩
    case round =>
      obtain ⟨i, hi1, hi2, rfl, rfl, hE⟩ := hrel
      by_cases hlt : i < s.size
      · obtain ⟨dg1, dg2⟩ := HT.out.dig hi1 hlt
        have hsu := preV_succ hi1 hlt
        have hle := HT.out.le (i + 1)
        obtain ⟨z, hz⟩ : ∃ z : Nat, s[i].toNat = z + 48 := ⟨s[i].toNat - 48, by omega⟩
        obtain ⟨p, hp⟩ : ∃ p, p = preV s i0 i := ⟨_, rfl⟩
        rw [hz, ← hp, show z + 48 - 48 = z by omega] at hsu
        have HSU := Lib.hid hsu
        rw [hsu] at hle
        rw [← hp]
        have e1 : (s[i].toNat : Int) = (z : Int) + 48 := by rw [hz]; rfl
        have e2 : IntKind.i64.wrap ((z : Int) + 48 - 48) = (z : Int) := by rw [IntKind.wrap_i64]; omega
        have e3 : ¬ (9 : Int) < (z : Int) := by omega
        have e4 : IntKind.i64.wrap (-9223372036854775808 + (z : Int)) = -9223372036854775808 + (z : Int) := by rw [IntKind.wrap_i64]; omega
        obtain ⟨dq, hdq⟩ : ∃ dq, (-9223372036854775808 + (z : Int)).tdiv 10 = dq := ⟨_, rfl⟩
        have hdb : dq ≤ -900000000000000000 ∧ -1000000000000000000 ≤ dq := by
          have hneg : -9223372036854775808 + (z : Int) = -(9223372036854775808 - (z : Int)) := by omega
          rw [hneg, Int.neg_tdiv, Int.tdiv_eq_ediv_of_nonneg (by omega)] at hdq
          omega
        have e5 : IntKind.i64.wrap dq = dq := by rw [IntKind.wrap_i64]; omega
        have e6 : ¬ (-(p : Int)) < dq := by omega
        have e7 : IntKind.i64.wrap (-(p : Int) * 10) = -(p : Int) * 10 := by rw [IntKind.wrap_i64]; omega
        have e8 : IntKind.i64.wrap (-(p : Int) * 10 - (z : Int)) = -(p : Int) * 10 - (z : Int) := by rw [IntKind.wrap_i64]; omega
        have z1 := decide_eq_false e3
        have z2 := decide_eq_false e6
        clear hz hp hsu dg1 dg2
        have e9 : IntKind.i64.wrap ((i : Int) + 1) = (i : Int) + 1 := by rw [IntKind.wrap_i64]; omega
        go_wp2_with fail
        go_roundw
        case rel => exact ⟨i + 1, by omega, by omega, by go_num, by rw [HSU.out]; congr 1; omega, by first | exact hE | trivial⟩
        case measure => simp [intOf]; omega
      · obtain rfl : i = s.size := by omega
        rw [HT.out.all]
        have e1 : ((-(u : Int)) == -9223372036854775808) = false := by rw [beq_eq_false_iff_ne]; omega
        have e2 : IntKind.i64.wrap (0 - -(u : Int)) = (u : Int) := by rw [IntKind.wrap_i64]; omega
        go_wp2_with fail
        go_ret2
        exact ⟨by rw [HNU.out]; first | rfl | simp, by first | exact hE | trivial⟩
set_option maxRecDepth 100000 in
theorem rQuick_any (n : Int) (w : World) (hn : -1000000000000000000 < n ∧ n < 1000000000000000000) :
    Calls Tryz.prog 102 #[.string (intB n)] w fun e w' => e = .returned (.tuple #[.int .i64 n, .bool true]) ∧ Ext w w' := by
  have HD := Lib.hid (rDigits_any n w)
  have HS := Lib.hid (fun W => rSmall_any n W hn)
  have hsz := numB_size_le n.natAbs 18 (by rw [show (10 : Nat) ^ 18 = 1000000000000000000 by decide]; omega) (by omega)
  have hz : ¬ (18 : Int) < ((numB n.natAbs).size : Int) := by omega
  clear hn
  go_enter Tryz.func102, Tryz.ntmps102
  go_wp2_with fail
  refine HD.out.mono ?_
  rintro e w1 ⟨rfl, rfl⟩
  go_wp2_with fail
  refine (HS.out _).mono ?_
  rintro e w2 ⟨rfl, hE⟩
  have HE := Lib.hid hE
  clear hE HS HD
  go_wp2_with fail
  go_ret2
  exact ⟨rfl, HE.out⟩
set_option maxRecDepth 100000 in
set_option maxHeartbeats 800000 in
/-- DivMod at integers below 10^18. -/
theorem rDivMod18 (x y : Int) (w : World) (hx : -1000000000000000000 < x ∧ x < 1000000000000000000) (hy : -1000000000000000000 < y ∧ y < 1000000000000000000) (h0 : y ≠ 0) (ht : Pow10 w) :
    Calls Tryz.prog 96 #[.string (intB x), .string (intB y)] w fun e w' => e = .returned (.tuple #[.string (intB (fdq x y)), .string (intB (fdr x y))]) ∧ Ext w w' := by
  have HT := Lib.hid ht
  have hz := int_zero y
  rw [decide_eq_false h0] at hz
  obtain ⟨hx1, hx2⟩ := id hx
  obtain ⟨hy1, hy2⟩ := id hy
  have H1 := Lib.hid (rQuick_any x w hx)
  have H2 : Hid (∀ W, Calls Tryz.prog 102 #[.string (intB y)] W fun e w' => e = .returned (.tuple #[.int .i64 y, .bool true]) ∧ Ext W w') := fun W => rQuick_any y W hy
  have hrl := tmod_lt x y h0
  have hql := tdiv_le x y
  have hq1 : (fdq x y).natAbs ≤ 1000000000000000001 := by have := fdq_bd x y; omega
  have hr1 : (fdr x y).natAbs ≤ 1000000000000000001 := by
    rcases Int.lt_trichotomy y 0 with h | h | h
    · have := fdr_neg x y h; omega
    · exact absurd h h0
    · have := fdr_pos x y h; omega
  have H3 : Hid (∀ W, Ext w W → Calls Tryz.prog 71 #[.int .i64 (fdq x y)] W fun e w' => e = .returned (.string (intB (fdq x y))) ∧ Ext W w') := fun W hE => rOf_any _ W (by omega) (by omega) (HT.out.ext hE)
  have H4 : Hid (∀ W, Ext w W → Calls Tryz.prog 71 #[.int .i64 (fdr x y)] W fun e w' => e = .returned (.string (intB (fdr x y))) ∧ Ext W w') := fun W hE => rOf_any _ W (by omega) (by omega) (HT.out.ext hE)
  have hyb : (y == 0) = false := beq_eq_false_iff_ne.2 h0
  have HFQ : Hid (fdq x y = if x.tmod y ≠ 0 ∧ decide (x.tmod y < 0) ≠ decide (y < 0) then x.tdiv y - 1 else x.tdiv y) := rfl
  have HFR : Hid (fdr x y = if x.tmod y ≠ 0 ∧ decide (x.tmod y < 0) ≠ decide (y < 0) then x.tmod y + y else x.tmod y) := rfl
  obtain ⟨fq, hfq⟩ : ∃ q, q = fdq x y := ⟨_, rfl⟩
  obtain ⟨fr, hfr⟩ : ∃ r, r = fdr x y := ⟨_, rfl⟩
  rw [← hfq] at H3 HFQ hq1 ⊢
  rw [← hfr] at H4 HFR hr1 ⊢
  obtain ⟨q, hq⟩ : ∃ q, x.tdiv y = q := ⟨_, rfl⟩
  obtain ⟨r, hr⟩ : ∃ r, x.tmod y = r := ⟨_, rfl⟩
  rw [hq] at HFQ hql
  rw [hr] at HFR HFQ hrl
  have e1 : IntKind.i64.wrap q = q := IntWalk.i64_in _ (by omega)
  have hy0 : ¬ y = 0 := h0
  clear ht hfq hfr h0
  by_cases c0 : r = 0
  · have k0 : (r != 0) = false := by simp [c0]
    rw [if_neg (by simp [c0])] at HFQ HFR
    rw [HFQ.out] at H3 ⊢
    rw [HFR.out] at H4 ⊢
    clear HFQ HFR c0
    go_enter Tryz.func96, Tryz.ntmps96
    go_wp2_with fail
    refine H1.out.mono ?_
    rintro e w1 ⟨rfl, hE1⟩
    have HE1 := Lib.hid hE1
    clear hE1 H1
    go_wp2_with fail
    refine (H2.out _).mono ?_
    rintro e w2 ⟨rfl, hE2⟩
    have HE2 := Lib.hid (Ext.trans HE1.out hE2)
    clear hE2 H2
    go_wp2_with fail
    go_quiet (fail)
    go_wp2_with fail
    refine (H3.out _ (Ext.draws HE2.out _)).mono ?_
    rintro e w3 ⟨rfl, hE3⟩
    have HE3 := Lib.hid (Ext.trans (Ext.draws HE2.out _) hE3)
    clear hE3 H3
    go_wp2_with fail
    refine (H4.out _ HE3.out).mono ?_
    rintro e w4 ⟨rfl, hE4⟩
    have HE4 := Lib.hid (Ext.trans HE3.out hE4)
    clear hE4 H4
    go_wp2_with fail
    go_ret2
    exact ⟨rfl, HE4.out⟩
  · have k0 : (r != 0) = true := by simpa using c0
    by_cases c1 : r < 0
    · by_cases c2 : y < 0
      · have k5 : decide (r < 0) = true := decide_eq_true c1
        have k6 : decide (y < 0) = true := decide_eq_true c2
        have k7 : (!decide (r < 0)) = false := by rw [k5]; rfl
        have k8 : (!decide (y < 0)) = false := by rw [k6]; rfl
        rw [if_neg (by rw [decide_eq_true c1, decide_eq_true c2]; simp)] at HFQ HFR
        rw [HFQ.out] at H3 ⊢
        rw [HFR.out] at H4 ⊢
        clear HFQ HFR c0
        go_enter Tryz.func96, Tryz.ntmps96
        go_wp2_with fail
        refine H1.out.mono ?_
        rintro e w1 ⟨rfl, hE1⟩
        have HE1 := Lib.hid hE1
        clear hE1 H1
        go_wp2_with fail
        refine (H2.out _).mono ?_
        rintro e w2 ⟨rfl, hE2⟩
        have HE2 := Lib.hid (Ext.trans HE1.out hE2)
        clear hE2 H2
        go_wp2_with fail
        go_quiet (fail)
        go_wp2_with fail
        refine (H3.out _ (Ext.draws HE2.out _)).mono ?_
        rintro e w3 ⟨rfl, hE3⟩
        have HE3 := Lib.hid (Ext.trans (Ext.draws HE2.out _) hE3)
        clear hE3 H3
        go_wp2_with fail
        refine (H4.out _ HE3.out).mono ?_
        rintro e w4 ⟨rfl, hE4⟩
        have HE4 := Lib.hid (Ext.trans HE3.out hE4)
        clear hE4 H4
        go_wp2_with fail
        go_ret2
        exact ⟨rfl, HE4.out⟩
      · have k5 : decide (r < 0) = true := decide_eq_true c1
        have k6 : decide (y < 0) = false := decide_eq_false c2
        have k7 : (!decide (r < 0)) = false := by rw [k5]; rfl
        have k8 : (!decide (y < 0)) = true := by rw [k6]; rfl
        rw [if_pos ⟨c0, by rw [decide_eq_true c1, decide_eq_false c2]; simp⟩] at HFQ HFR
        rw [HFQ.out] at H3 ⊢ hq1
        rw [HFR.out] at H4 ⊢ hr1
        clear HFQ HFR c0
        go_enter Tryz.func96, Tryz.ntmps96
        go_wp2_with fail
        refine H1.out.mono ?_
        rintro e w1 ⟨rfl, hE1⟩
        have HE1 := Lib.hid hE1
        clear hE1 H1
        go_wp2_with fail
        refine (H2.out _).mono ?_
        rintro e w2 ⟨rfl, hE2⟩
        have HE2 := Lib.hid (Ext.trans HE1.out hE2)
        clear hE2 H2
        go_wp2_with fail
        go_quiet (fail)
        go_wp2_with fail
        refine (H3.out _ (Ext.draws HE2.out _)).mono ?_
        rintro e w3 ⟨rfl, hE3⟩
        have HE3 := Lib.hid (Ext.trans (Ext.draws HE2.out _) hE3)
        clear hE3 H3
        go_wp2_with fail
        refine (H4.out _ HE3.out).mono ?_
        rintro e w4 ⟨rfl, hE4⟩
        have HE4 := Lib.hid (Ext.trans HE3.out hE4)
        clear hE4 H4
        go_wp2_with fail
        go_ret2
        exact ⟨rfl, HE4.out⟩
    · by_cases c2 : y < 0
      · have k5 : decide (r < 0) = false := decide_eq_false c1
        have k6 : decide (y < 0) = true := decide_eq_true c2
        have k7 : (!decide (r < 0)) = true := by rw [k5]; rfl
        have k8 : (!decide (y < 0)) = false := by rw [k6]; rfl
        rw [if_pos ⟨c0, by rw [decide_eq_false c1, decide_eq_true c2]; simp⟩] at HFQ HFR
        rw [HFQ.out] at H3 ⊢ hq1
        rw [HFR.out] at H4 ⊢ hr1
        clear HFQ HFR c0
        go_enter Tryz.func96, Tryz.ntmps96
        go_wp2_with fail
        refine H1.out.mono ?_
        rintro e w1 ⟨rfl, hE1⟩
        have HE1 := Lib.hid hE1
        clear hE1 H1
        go_wp2_with fail
        refine (H2.out _).mono ?_
        rintro e w2 ⟨rfl, hE2⟩
        have HE2 := Lib.hid (Ext.trans HE1.out hE2)
        clear hE2 H2
        go_wp2_with fail
        go_quiet (fail)
        go_wp2_with fail
        refine (H3.out _ (Ext.draws HE2.out _)).mono ?_
        rintro e w3 ⟨rfl, hE3⟩
        have HE3 := Lib.hid (Ext.trans (Ext.draws HE2.out _) hE3)
        clear hE3 H3
        go_wp2_with fail
        refine (H4.out _ HE3.out).mono ?_
        rintro e w4 ⟨rfl, hE4⟩
        have HE4 := Lib.hid (Ext.trans HE3.out hE4)
        clear hE4 H4
        go_wp2_with fail
        go_ret2
        exact ⟨rfl, HE4.out⟩
      · have k5 : decide (r < 0) = false := decide_eq_false c1
        have k6 : decide (y < 0) = false := decide_eq_false c2
        have k7 : (!decide (r < 0)) = true := by rw [k5]; rfl
        have k8 : (!decide (y < 0)) = true := by rw [k6]; rfl
        rw [if_neg (by rw [decide_eq_false c1, decide_eq_false c2]; simp)] at HFQ HFR
        rw [HFQ.out] at H3 ⊢
        rw [HFR.out] at H4 ⊢
        clear HFQ HFR c0
        go_enter Tryz.func96, Tryz.ntmps96
        go_wp2_with fail
        refine H1.out.mono ?_
        rintro e w1 ⟨rfl, hE1⟩
        have HE1 := Lib.hid hE1
        clear hE1 H1
        go_wp2_with fail
        refine (H2.out _).mono ?_
        rintro e w2 ⟨rfl, hE2⟩
        have HE2 := Lib.hid (Ext.trans HE1.out hE2)
        clear hE2 H2
        go_wp2_with fail
        go_quiet (fail)
        go_wp2_with fail
        refine (H3.out _ (Ext.draws HE2.out _)).mono ?_
        rintro e w3 ⟨rfl, hE3⟩
        have HE3 := Lib.hid (Ext.trans (Ext.draws HE2.out _) hE3)
        clear hE3 H3
        go_wp2_with fail
        refine (H4.out _ HE3.out).mono ?_
        rintro e w4 ⟨rfl, hE4⟩
        have HE4 := Lib.hid (Ext.trans HE3.out hE4)
        clear hE4 H4
        go_wp2_with fail
        go_ret2
        exact ⟨rfl, HE4.out⟩



end Go.Proofs.YtpeinobepiodaaaGreatDoor
/- Contracts of the reference's Gcd (02), Fraction (06) and of law 06's number, at small integers. -/
namespace Go.Proofs.YtpeinobepiodaaaGreatDoor
set_option linter.unusedVariables false
set_option linter.unusedSimpArgs false
open Go.RowKit

def valS : Value → Nat
  | .string s => decV 0 s.data.toList
  | _ => 0
theorem valS_num (y : Nat) : valS (.string (numB y)) = y := by
  show decV 0 (numB y).data.toList = y
  rw [numB_data]; exact decV_digits y
theorem nat_zero (y : Nat) : ((numB y).toList == [48]) = decide (y = 0) := by
  have := int_zero (y : Int)
  rw [eb] at this
  rw [this]
  by_cases h : y = 0
  · simp [h]
  · rw [decide_eq_false h, decide_eq_false (by omega)]
set_option maxRecDepth 100000 in
set_option maxHeartbeats 1000000 in
theorem rGcd_any (a b : Int) (w : World) (ha : -1000000000000000000 < a ∧ a < 1000000000000000000) (hb : -1000000000000000000 < b ∧ b < 1000000000000000000) (ht : Pow10 w) :
    Calls Tryz.prog 95 #[.string (intB a), .string (intB b)] w fun e w' => e = .returned (.string (numB (Nat.gcd a.natAbs b.natAbs))) ∧ Ext w w' := by
  have HA := Lib.hid (rAbs_any a w)
  have HB := Lib.hid (fun W => rAbs_any b W)
  have HT := Lib.hid ht
  obtain ⟨u, hu⟩ : ∃ u, u = a.natAbs := ⟨_, rfl⟩
  obtain ⟨v, hv⟩ : ∃ v, v = b.natAbs := ⟨_, rfl⟩
  rw [← hu] at HA ⊢
  rw [← hv] at HB ⊢
  have hub : u < 1000000000000000000 := by omega
  have hvb : v < 1000000000000000000 := by omega
  clear ht hu hv ha hb
  go_enter Tryz.func95, Tryz.ntmps95
  go_wp2_with fail
  refine HA.out.mono ?_
  rintro e w1 ⟨rfl, hE1⟩
  have HE1 := Lib.hid hE1
  clear hE1 HA
  go_wp2_with fail
  refine (HB.out _).mono ?_
  rintro e w2 ⟨rfl, hE2⟩
  have HE2 := Lib.hid (Ext.trans HE1.out hE2)
  clear hE2 HB
  go_wp2_with fail
  go_loopw [0, 1] (fun s t wr => ∃ x y : Nat, s = .string (numB x) ∧ t = .string (numB y) ∧ x < 1000000000000000000 ∧ y < 1000000000000000000 ∧ Hid (Nat.gcd x y = Nat.gcd u v) ∧ Hid (Ext w wr)) (fun _ t _ => valS t)
  case atStart => exact ⟨u, v, rfl, rfl, hub, hvb, rfl, HE2.out⟩
  case round =>
    obtain ⟨x, y, rfl, rfl, hx, hy, HG, HE⟩ := hrel
    obtain ⟨wo, rfl⟩ : ∃ wo : World, wo = wr := ⟨_, rfl⟩
    have hz := nat_zero y
    by_cases hy0 : y = 0
    · have HF : Hid (x = Nat.gcd u v) := by unfold Hid; rw [← HG.out, hy0, Nat.gcd_zero_right]
      rw [decide_eq_true hy0] at hz
      have hz2 : ((numB y).toList != [48]) = false := by simp only [bne, hz]; rfl
      clear hy0
      go_wp2_with fail
      go_ret
      exact ⟨by rw [← HF.out]; rfl, HE.out⟩
    · rw [decide_eq_false hy0] at hz
      have hz2 : ((numB y).toList != [48]) = true := by simp only [bne, hz]; rfl
      have HG2 : Hid (Nat.gcd y (x % y) = Nat.gcd u v) := by
        unfold Hid; rw [← HG.out, Nat.gcd_comm y (x % y), ← Nat.gcd_rec, Nat.gcd_comm]
      have hdm := rDivMod18 (x : Int) (y : Int) wo (by omega) (by omega) (by omega) (HT.out.ext HE.out)
      rw [eb, eb] at hdm
      have hfr : fdr (x : Int) (y : Int) = ((x % y : Nat) : Int) := by
        unfold fdr
        rw [tmod_cast, if_neg]
        rintro ⟨-, h⟩
        exact h (by rw [decide_eq_false (by omega), decide_eq_false (by omega)])
      rw [hfr, eb] at hdm
      have HDM := Lib.hid hdm
      obtain ⟨r, hr⟩ : ∃ r, r = x % y := ⟨_, rfl⟩
      rw [← hr] at HG2 HDM
      have hry : r < y := by rw [hr]; exact Nat.mod_lt _ (by omega)
      have HVR := Lib.hid (And.intro (valS_num r) (valS_num y))
      clear hr hdm hfr hy0
      go_wp2_with fail
      refine HDM.out.mono ?_
      rintro e w3 ⟨rfl, hE3⟩
      have HE3 := Lib.hid (Ext.trans HE.out hE3)
      clear hE3 HDM
      go_wp2_with fail
      go_roundw
      case rel => exact ⟨y, r, rfl, rfl, hy, by omega, HG2.out, HE3.out⟩
      case measure =>
        have h1 := HVR.out.1; have h2 := HVR.out.2
        first | (rw [h1, h2]; exact hry) | (simp only [h1, h2]; exact hry)

set_option maxRecDepth 100000 in
set_option maxHeartbeats 1000000 in
theorem refFraction_any (n : Int) (d : Nat) (w : World) (hn : -1000000000000000000 < n ∧ n < 1000000000000000000) (hd0 : 0 < d) (hd : d < 1000000000000000000) (ht : Pow10 w) :
    Calls Tryz.prog 62 #[.string (intB n), .string (numB d)] w fun e w' => e = .returned (ratV (mkRat n d)) ∧ Ext w w' := by
  have hsg := fun W => rSign_any (d : Int) W
  have hgc := fun W (hW : Ext w W) => rGcd_any n (d : Int) W hn (by omega) (ht.ext hW)
  have hg0 : 0 < Nat.gcd n.natAbs d := Nat.gcd_pos_of_pos_right _ hd0
  have hgd : Nat.gcd n.natAbs d ≤ d := Nat.le_of_dvd hd0 (Nat.gcd_dvd_right _ _)
  have hm := mkRat_parts n d (by omega)
  rw [show ((d : Int)).natAbs = d from rfl] at hgc
  obtain ⟨g, hg⟩ : ∃ g, g = Nat.gcd n.natAbs d := ⟨_, rfl⟩
  rw [← hg] at hg0 hgd hm
  simp only [← hg] at hgc
  have h1 := fun W (hW : Ext w W) => rDivMod18 n (g : Int) W hn (by omega) (by omega) (ht.ext hW)
  have h2 := fun W (hW : Ext w W) => rDivMod18 (d : Int) (g : Int) W (by omega) (by omega) (by omega) (ht.ext hW)
  have e1 : fdq n (g : Int) = (mkRat n d).num := by rw [hm.1, fdq_pos _ _ (by omega)]
  have e2 : fdq (d : Int) (g : Int) = ((mkRat n d).den : Int) := by rw [hm.2, fdq_pos _ _ (by omega)]; rfl
  simp only [e1, eb] at h1
  simp only [e2, eb] at h2
  rw [show Int.sign (d : Int) = 1 from Int.sign_eq_one_of_pos (by omega)] at hsg
  simp only [eb] at hsg hgc
  have HSG : Hid (∀ W, Calls Tryz.prog 94 #[.string (numB d)] W fun e w' => e = .returned (.int .i64 1) ∧ W = w') := hsg
  have HGC := Lib.hid hgc; have H1 := Lib.hid h1; have H2 := Lib.hid h2
  obtain ⟨q, hq⟩ : ∃ q, q = mkRat n d := ⟨_, rfl⟩
  rw [← hq] at H1 H2 ⊢
  obtain ⟨W1, hW1, hE1, hs1, hb1⟩ := box2 w (.string ⟨#[]⟩) (.string ⟨#[]⟩) 81
  have HE1 := Lib.hid hE1
  have HB1 : Hid (∀ W, Ext W1 W → BlkR w.heap.size W) := fun W hW => BlkR.ext ⟨_, _, hb1⟩ hW
  clear hsg hgc h1 h2 e1 e2 hm hq hg ht hE1 hs1 hb1 hn hd
  go_enter Tryz.func62, Tryz.ntmps62
  go_wp2_with fail
  refine (HSG.out _).mono ?_
  rintro e w2 ⟨rfl, rfl⟩
  go_wp2_with fail
  refine (HGC.out _ HE1.out).mono ?_
  rintro e w3 ⟨rfl, hE3⟩
  have HE3 := Lib.hid (Ext.trans HE1.out hE3)
  have HR3 := Lib.hid hE3
  clear hE3 HGC HSG
  go_wp2_with fail
  refine (H1.out _ HE3.out).mono ?_
  rintro e w4 ⟨rfl, hE4⟩
  have HE4 := Lib.hid (Ext.trans HE3.out hE4)
  have HR4 := Lib.hid (Ext.trans HR3.out hE4)
  clear hE4 H1
  go_wp2_with fail
  refine (H2.out _ HE4.out).mono ?_
  rintro e w5 ⟨rfl, hE5⟩
  have HE5 := Lib.hid (Ext.trans HE4.out hE5)
  have HBR := Lib.hid (HB1.out _ (Ext.trans HR4.out hE5))
  obtain ⟨x0, x1, s0, s1, f0, f1⟩ := HBR.out.open
  have HFB : Hid (BoxQ ((w5.setCell ⟨w.heap.size, 0, none⟩ (.string (intB q.num))).setCell ⟨w.heap.size, 1, none⟩ (.string (numB q.den))) w.heap.size q) := HBR.out.res
  have HFX : Hid (Ext w ((w5.setCell ⟨w.heap.size, 0, none⟩ (.string (intB q.num))).setCell ⟨w.heap.size, 1, none⟩ (.string (numB q.den)))) := ext_set2 HE5.out (Nat.le_refl _)
  clear hE5 H2
  go_wp2_with fail
  refine bodyPost_ret (results_cell_row (by rfl) _ _ w.heap.size 81 #[.string (intB q.num), .string (numB q.den)] (0, 0) _ (by rfl) HFB.out Tryz.underlying81 (by rfl) (by kernel_rfl)) (by rfl) ⟨rfl, HFX.out⟩

set_option maxRecDepth 100000 in
set_option maxHeartbeats 1000000 in
theorem number_any (n : Int) (d : Nat) (w : World) (hn : -1000000000000000000 < n ∧ n < 1000000000000000000) (hd0 : 0 < d) (hd : d < 1000000000000000000) (ht : Pow10 w) :
    Calls Tryz.prog 46 #[.int .i64 n, .int .i64 (d : Int)] w fun e w' => e = .returned (ratV (mkRat n d)) ∧ Ext w w' := by
  have H1 := Lib.hid (fun W (hW : Ext w W) => rOf_any n W (by omega) (by omega) (ht.ext hW))
  have h2 := fun W (hW : Ext w W) => rOf_any (d : Int) W (by omega) (by omega) (ht.ext hW)
  simp only [eb] at h2
  have H2 := Lib.hid h2
  have H3 := Lib.hid (fun W (hW : Ext w W) => refFraction_any n d W hn hd0 hd (ht.ext hW))
  obtain ⟨q, hq⟩ : ∃ q, q = mkRat n d := ⟨_, rfl⟩
  rw [← hq] at H3 ⊢
  obtain ⟨W1, hW1, hE1, hs1, hb1⟩ := box2 w (.string ⟨#[]⟩) (.string ⟨#[]⟩) 81
  have HE1 := Lib.hid hE1
  have HB1 : Hid (∀ W, Ext W1 W → BlkR w.heap.size W) := fun W hW => BlkR.ext ⟨_, _, hb1⟩ hW
  clear h2 hq ht hE1 hs1 hb1 hn hd hd0
  go_enter Tryz.func46, Tryz.ntmps46
  go_wp2_with fail
  refine (H1.out _ HE1.out).mono ?_
  rintro e w2 ⟨rfl, hE2⟩
  have HE2 := Lib.hid (Ext.trans HE1.out hE2)
  have HR2 := Lib.hid hE2
  clear hE2 H1
  go_wp2_with fail
  refine (H2.out _ HE2.out).mono ?_
  rintro e w3 ⟨rfl, hE3⟩
  have HE3 := Lib.hid (Ext.trans HE2.out hE3)
  have HR3 := Lib.hid (Ext.trans HR2.out hE3)
  clear hE3 H2
  go_wp2_with fail
  refine (H3.out _ HE3.out).mono ?_
  rintro e w5 ⟨rfl, hE5⟩
  rw [show ratV q = .agg #[.string (intB q.num), .string (numB q.den)] from rfl]
  have HE5 := Lib.hid (Ext.trans HE3.out hE5)
  have HBR := Lib.hid (HB1.out _ (Ext.trans HR3.out hE5))
  obtain ⟨x0, x1, s0, s1, f0, f1⟩ := HBR.out.open
  have HFB : Hid (BoxQ ((w5.setCell ⟨w.heap.size, 0, none⟩ (.string (intB q.num))).setCell ⟨w.heap.size, 1, none⟩ (.string (numB q.den))) w.heap.size q) := HBR.out.res
  have HFX : Hid (Ext w ((w5.setCell ⟨w.heap.size, 0, none⟩ (.string (intB q.num))).setCell ⟨w.heap.size, 1, none⟩ (.string (numB q.den)))) := ext_set2 HE5.out (Nat.le_refl _)
  clear hE5 H3
  go_wp2_with fail
  refine bodyPost_ret (results_cell_row (by rfl) _ _ w.heap.size 81 #[.string (intB q.num), .string (numB q.den)] (0, 0) _ (by rfl) HFB.out Tryz.underlying81 (by rfl) (by kernel_rfl)) (by rfl) ⟨rfl, HFX.out⟩
end Go.Proofs.YtpeinobepiodaaaGreatDoor
/- Contract of law 06's same. -/
namespace Go.Proofs.YtpeinobepiodaaaGreatDoor
set_option linter.unusedVariables false
set_option linter.unusedSimpArgs false
open Go.RowKit

theorem eqRat (a b c d : ByteArray) (w : World) : (Op.equalIn 10000 81 (.agg #[.string a, .string b]) (.agg #[.string c, .string d])).run Tryz.prog w = .ok (decide (a.toList = c.toList) && decide (b.toList = d.toList)) w := by
  have hS : Tryz.prog.underlying 81 = some (.struct (Tryz.prog.fieldsOf 81)) := by kernel_rfl
  rw [show (10000 : Nat) = 9999 + 1 from rfl, run_equalIn_agg w 9999 81 _ _ hS (by kernel_rfl)]
  simp only [Program.fieldsOf, Tryz.underlying81]
  go_simp
  by_cases h1 : a.toList = c.toList <;> by_cases h2 : b.toList = d.toList <;> simp [h1, h2]
theorem guardRat (op : BinOp) (x y : Operand) (xs ys : Array Value) (w : World) : (eqGuard op 81 x y (.agg xs) (.agg ys)).run Tryz.prog w = .ok () w := run_eqGuard_agg w op 81 x y xs ys (by kernel_rfl)
attribute [local go_sem] eqRat guardRat
theorem rat_text_ne {x y : Rat} (h : x ≠ y) (hn : (intB x.num).toList = (intB y.num).toList) : ¬ (numB x.den).toList = (numB y.den).toList := by
  intro hd
  rw [intB_list, intB_list] at hn
  rw [numB_list, numB_list] at hd
  exact h (Rat.ext (itoa_inj hn) (digits_inj hd))
set_option maxRecDepth 100000 in
set_option maxHeartbeats 1000000 in
theorem same_any (xs ys : List Rat) (u v : Value) (w : World) (h : ListAt 2 ratR w u xs) (k : ListAt 2 ratR w v ys) :
    Calls Tryz.prog 22 #[u, v] w fun e w' => e = .returned (.bool (xs == ys)) ∧ Ext w w' := by
  obtain ⟨a, c, rfl, hx1, hx2, -, hx⟩ := h.open
  obtain ⟨a', c', rfl, hy1, hy2, -, hy⟩ := k.open
  clear h k
  unfold maxLen at hx2 hy2
  by_cases hl : xs.length = ys.length
  · have HX := Lib.hid hx; have HY := Lib.hid hy; have HL := Lib.hid hl
    have hb : ((xs.length : Int) != (ys.length : Int)) = false := by rw [hl]; simp
    clear hx hy
    go_enter Tryz.func22, Tryz.ntmps22
    go_wp2
    go_loopw [5] (fun t wr => ∃ j : Nat, j ≤ xs.length ∧ t = .int .i64 j ∧ Hid (∀ i, i < j → xs[i]? = ys[i]?) ∧ Ext w wr) (fun t _ => xs.length - (intOf t).toNat)
    case atStart => exact ⟨0, by omega, rfl, fun i hi => by omega, Ext.refl _⟩
    case round =>
      obtain ⟨j, hj, rfl, HP, hE⟩ := hrel
      by_cases hlt : j < xs.length
      · obtain ⟨b, off, rfl, hb1, hc1⟩ := HX.out (by omega) (by intro e; rw [e] at hlt; simp at hlt)
        obtain ⟨b', off', rfl, hb2, hc2⟩ := HY.out (by omega) (by intro e; have h0 := HL.out; rw [e] at h0; simp only [List.length_nil] at h0; omega)
        obtain ⟨x, hx⟩ : ∃ x, xs[j]? = some x := ⟨xs[j], List.getElem?_eq_getElem hlt⟩
        obtain ⟨y, hy⟩ : ∃ y, ys[j]? = some y := ⟨ys[j]'(by omega), List.getElem?_eq_getElem _⟩
        obtain ⟨u1, -, rfl, d1⟩ := hc1 j x hx
        obtain ⟨u2, -, rfl, d2⟩ := hc2 j y hy
        have g1 : wr.cell? ⟨b, off + j * 2, none⟩ = some (.string (intB x.num)) := hE.cell (d1 0 (by omega))
        have g2 : wr.cell? ⟨b, off + j * 2 + 1, none⟩ = some (.string (numB x.den)) := hE.cell (d1 1 (by omega))
        have g3 : wr.cell? ⟨b', off' + j * 2, none⟩ = some (.string (intB y.num)) := hE.cell (d2 0 (by omega))
        have g4 : wr.cell? ⟨b', off' + j * 2 + 1, none⟩ = some (.string (numB y.den)) := hE.cell (d2 1 (by omega))
        clear d1 d2
        have hjy : j < ys.length := by omega
        clear hc1 hc2
        by_cases hxy : x = y
        · obtain rfl := hxy
          have HP2 : Hid (∀ i, i < j + 1 → xs[i]? = ys[i]?) := fun i hi => by
            by_cases e : i = j
            · rw [e, hx, hy]
            · exact HP.out i (by omega)
          clear hx hy
          go_wp2
          go_quiet (fail)
          go_wp2
          go_roundw
          case rel => exact ⟨j + 1, by omega, by go_num, HP2.out, Ext.draws hE _⟩
          case measure => simp [intOf]; omega
        · have HQ : Hid ((xs == ys) = false) := by
            unfold Hid
            rw [beq_eq_false_iff_ne]
            intro e
            rw [e, hy] at hx
            exact hxy (Option.some.inj hx).symm
          have hd := rat_text_ne hxy
          clear hx hy hxy
          by_cases hn : (intB x.num).toList = (intB y.num).toList
          case' pos => have hd2 := hd hn
          all_goals
            clear hd
            go_wp2
            go_quiet (fail)
            go_wp2
            go_ret
            exact ⟨by rw [HQ.out]; rfl, Ext.draws hE _⟩
      · have HQ : Hid ((xs == ys) = true) := by
          unfold Hid
          rw [beq_iff_eq]
          exact list_eq_of_get HL.out fun i hi => HP.out i (by omega)
        go_wp2
        go_ret
        exact ⟨by rw [HQ.out]; rfl, hE⟩
  · have hb : ((xs.length : Int) != (ys.length : Int)) = true := by simp; omega
    have HQ : Hid ((xs == ys) = false) := by
      unfold Hid
      rw [beq_eq_false_iff_ne]
      intro e; exact hl (by rw [e])
    clear hx hy hl
    go_enter Tryz.func22, Tryz.ntmps22
    go_wp2
    go_ret
    exact ⟨by rw [HQ.out]; rfl, Ext.refl _⟩

end Go.Proofs.YtpeinobepiodaaaGreatDoor
