/- Contracts of package whole at integers of any size: DivMod, Gcd. -/
import Derived.Test.YtpeinobepiodaaaGreatDoorWholeB
namespace Go.Proofs.YtpeinobepiodaaaGreatDoor
set_option linter.unusedVariables false
set_option linter.unusedSimpArgs false
open Go.RowKit

set_option maxRecDepth 100000 in
set_option maxHeartbeats 800000 in
/-- whole.DivMod, at integers of at most 18 bytes. -/
theorem divMod18 (x y : Int) (w : World) (hx : (intB x).size ≤ 18) (hy : (intB y).size ≤ 18) (h0 : y ≠ 0) (ht : Pow10 w) :
    Calls Tryz.prog 116 #[.string (intB x), .string (intB y)] w fun e w' => e = .returned (.tuple #[.string (intB (fdq x y)), .string (intB (fdr x y)), .int .i64 0]) ∧ Ext w w' := by
  have HT := Lib.hid ht
  have hz := int_zero y
  rw [decide_eq_false h0] at hz
  obtain ⟨hx1, hx2⟩ := int_small hx
  obtain ⟨hy1, hy2⟩ := int_small hy
  have H1 := Lib.hid (little_yes x 18 w (by omega) (by omega) hx (by omega))
  have H2 : Hid (∀ W, Calls Tryz.prog 85 #[.string (intB y), .int .i64 18] W fun e w' => e = .returned (.tuple #[.int .i64 y, .bool true]) ∧ Ext W w') := fun W => little_yes y 18 W (by omega) (by omega) hy (by omega)
  have hrl := tmod_lt x y h0
  have hql := tdiv_le x y
  have hq1 : (fdq x y).natAbs ≤ 1000000000000000001 := by have := fdq_bd x y; omega
  have hr1 : (fdr x y).natAbs ≤ 1000000000000000001 := by
    rcases Int.lt_trichotomy y 0 with h | h | h
    · have := fdr_neg x y h; omega
    · exact absurd h h0
    · have := fdr_pos x y h; omega
  have H3 : Hid (∀ W, Ext w W → Calls Tryz.prog 69 #[.int .i64 (fdq x y)] W fun e w' => e = .returned (.string (intB (fdq x y))) ∧ Ext W w') := fun W hE => of_any _ W (by omega) (by omega) (HT.out.ext hE)
  have H4 : Hid (∀ W, Ext w W → Calls Tryz.prog 69 #[.int .i64 (fdr x y)] W fun e w' => e = .returned (.string (intB (fdr x y))) ∧ Ext W w') := fun W hE => of_any _ W (by omega) (by omega) (HT.out.ext hE)
  have hyb : (y == 0) = false := beq_eq_false_iff_ne.2 h0
  have HFQ : Hid (fdq x y = if x.tmod y ≠ 0 ∧ decide (x.tmod y < 0) ≠ decide (y < 0) then x.tdiv y - 1 else x.tdiv y) := rfl
  have HFR : Hid (fdr x y = if x.tmod y ≠ 0 ∧ decide (x.tmod y < 0) ≠ decide (y < 0) then x.tmod y + y else x.tmod y) := rfl
  obtain ⟨fq, hfq⟩ : ∃ q, q = fdq x y := ⟨_, rfl⟩
  obtain ⟨fr, hfr⟩ : ∃ r, r = fdr x y := ⟨_, rfl⟩
  rw [← hfq] at H3 HFQ hq1 ⊢
  rw [← hfr] at H4 HFR hr1 ⊢
  obtain ⟨q, hq⟩ : ∃ q, x.tdiv y = q := ⟨_, rfl⟩
  obtain ⟨r, hr⟩ : ∃ r, x.tmod y = r := ⟨_, rfl⟩
  rw [hq] at HFQ hql
  rw [hr] at HFR HFQ hrl
  have e1 : IntKind.i64.wrap q = q := IntWalk.i64_in _ (by omega)
  have hy0 : ¬ y = 0 := h0
  clear ht hfq hfr h0
  by_cases c0 : r = 0
  · have k0 : (r != 0) = false := by simp [c0]
    rw [if_neg (by simp [c0])] at HFQ HFR
    rw [HFQ.out] at H3 ⊢
    rw [HFR.out] at H4 ⊢
    clear HFQ HFR c0
    go_enter Tryz.func116, Tryz.ntmps116
    go_wp2_with fail
    refine H1.out.mono ?_
    rintro e w1 ⟨rfl, hE1⟩
    have HE1 := Lib.hid hE1
    clear hE1 H1
    go_wp2_with fail
    refine (H2.out _).mono ?_
    rintro e w2 ⟨rfl, hE2⟩
    have HE2 := Lib.hid (Ext.trans HE1.out hE2)
    clear hE2 H2
    go_wp2_with fail
    go_quiet (fail)
    go_wp2_with fail
    refine (H3.out _ (Ext.draws HE2.out _)).mono ?_
    rintro e w3 ⟨rfl, hE3⟩
    have HE3 := Lib.hid (Ext.trans (Ext.draws HE2.out _) hE3)
    clear hE3 H3
    go_wp2_with fail
    refine (H4.out _ HE3.out).mono ?_
    rintro e w4 ⟨rfl, hE4⟩
    have HE4 := Lib.hid (Ext.trans HE3.out hE4)
    clear hE4 H4
    go_wp2_with fail
    go_ret3
    exact ⟨rfl, HE4.out⟩
  · have k0 : (r != 0) = true := by simpa using c0
    by_cases c1 : r < 0
    · by_cases c2 : y < 0
      · have k5 : decide (r < 0) = true := decide_eq_true c1
        have k6 : decide (y < 0) = true := decide_eq_true c2
        have k7 : (!decide (r < 0)) = false := by rw [k5]; rfl
        have k8 : (!decide (y < 0)) = false := by rw [k6]; rfl
        rw [if_neg (by rw [decide_eq_true c1, decide_eq_true c2]; simp)] at HFQ HFR
        rw [HFQ.out] at H3 ⊢
        rw [HFR.out] at H4 ⊢
        clear HFQ HFR c0
        go_enter Tryz.func116, Tryz.ntmps116
        go_wp2_with fail
        refine H1.out.mono ?_
        rintro e w1 ⟨rfl, hE1⟩
        have HE1 := Lib.hid hE1
        clear hE1 H1
        go_wp2_with fail
        refine (H2.out _).mono ?_
        rintro e w2 ⟨rfl, hE2⟩
        have HE2 := Lib.hid (Ext.trans HE1.out hE2)
        clear hE2 H2
        go_wp2_with fail
        go_quiet (fail)
        go_wp2_with fail
        refine (H3.out _ (Ext.draws HE2.out _)).mono ?_
        rintro e w3 ⟨rfl, hE3⟩
        have HE3 := Lib.hid (Ext.trans (Ext.draws HE2.out _) hE3)
        clear hE3 H3
        go_wp2_with fail
        refine (H4.out _ HE3.out).mono ?_
        rintro e w4 ⟨rfl, hE4⟩
        have HE4 := Lib.hid (Ext.trans HE3.out hE4)
        clear hE4 H4
        go_wp2_with fail
        go_ret3
        exact ⟨rfl, HE4.out⟩
      · have k5 : decide (r < 0) = true := decide_eq_true c1
        have k6 : decide (y < 0) = false := decide_eq_false c2
        have k7 : (!decide (r < 0)) = false := by rw [k5]; rfl
        have k8 : (!decide (y < 0)) = true := by rw [k6]; rfl
        rw [if_pos ⟨c0, by rw [decide_eq_true c1, decide_eq_false c2]; simp⟩] at HFQ HFR
        rw [HFQ.out] at H3 ⊢ hq1
        rw [HFR.out] at H4 ⊢ hr1
        clear HFQ HFR c0
        go_enter Tryz.func116, Tryz.ntmps116
        go_wp2_with fail
        refine H1.out.mono ?_
        rintro e w1 ⟨rfl, hE1⟩
        have HE1 := Lib.hid hE1
        clear hE1 H1
        go_wp2_with fail
        refine (H2.out _).mono ?_
        rintro e w2 ⟨rfl, hE2⟩
        have HE2 := Lib.hid (Ext.trans HE1.out hE2)
        clear hE2 H2
        go_wp2_with fail
        go_quiet (fail)
        go_wp2_with fail
        refine (H3.out _ (Ext.draws HE2.out _)).mono ?_
        rintro e w3 ⟨rfl, hE3⟩
        have HE3 := Lib.hid (Ext.trans (Ext.draws HE2.out _) hE3)
        clear hE3 H3
        go_wp2_with fail
        refine (H4.out _ HE3.out).mono ?_
        rintro e w4 ⟨rfl, hE4⟩
        have HE4 := Lib.hid (Ext.trans HE3.out hE4)
        clear hE4 H4
        go_wp2_with fail
        go_ret3
        exact ⟨rfl, HE4.out⟩
    · by_cases c2 : y < 0
      · have k5 : decide (r < 0) = false := decide_eq_false c1
        have k6 : decide (y < 0) = true := decide_eq_true c2
        have k7 : (!decide (r < 0)) = true := by rw [k5]; rfl
        have k8 : (!decide (y < 0)) = false := by rw [k6]; rfl
        rw [if_pos ⟨c0, by rw [decide_eq_false c1, decide_eq_true c2]; simp⟩] at HFQ HFR
        rw [HFQ.out] at H3 ⊢ hq1
        rw [HFR.out] at H4 ⊢ hr1
        clear HFQ HFR c0
        go_enter Tryz.func116, Tryz.ntmps116
        go_wp2_with fail
        refine H1.out.mono ?_
        rintro e w1 ⟨rfl, hE1⟩
        have HE1 := Lib.hid hE1
        clear hE1 H1
        go_wp2_with fail
        refine (H2.out _).mono ?_
        rintro e w2 ⟨rfl, hE2⟩
        have HE2 := Lib.hid (Ext.trans HE1.out hE2)
        clear hE2 H2
        go_wp2_with fail
        go_quiet (fail)
        go_wp2_with fail
        refine (H3.out _ (Ext.draws HE2.out _)).mono ?_
        rintro e w3 ⟨rfl, hE3⟩
        have HE3 := Lib.hid (Ext.trans (Ext.draws HE2.out _) hE3)
        clear hE3 H3
        go_wp2_with fail
        refine (H4.out _ HE3.out).mono ?_
        rintro e w4 ⟨rfl, hE4⟩
        have HE4 := Lib.hid (Ext.trans HE3.out hE4)
        clear hE4 H4
        go_wp2_with fail
        go_ret3
        exact ⟨rfl, HE4.out⟩
      · have k5 : decide (r < 0) = false := decide_eq_false c1
        have k6 : decide (y < 0) = false := decide_eq_false c2
        have k7 : (!decide (r < 0)) = true := by rw [k5]; rfl
        have k8 : (!decide (y < 0)) = true := by rw [k6]; rfl
        rw [if_neg (by rw [decide_eq_false c1, decide_eq_false c2]; simp)] at HFQ HFR
        rw [HFQ.out] at H3 ⊢
        rw [HFR.out] at H4 ⊢
        clear HFQ HFR c0
        go_enter Tryz.func116, Tryz.ntmps116
        go_wp2_with fail
        refine H1.out.mono ?_
        rintro e w1 ⟨rfl, hE1⟩
        have HE1 := Lib.hid hE1
        clear hE1 H1
        go_wp2_with fail
        refine (H2.out _).mono ?_
        rintro e w2 ⟨rfl, hE2⟩
        have HE2 := Lib.hid (Ext.trans HE1.out hE2)
        clear hE2 H2
        go_wp2_with fail
        go_quiet (fail)
        go_wp2_with fail
        refine (H3.out _ (Ext.draws HE2.out _)).mono ?_
        rintro e w3 ⟨rfl, hE3⟩
        have HE3 := Lib.hid (Ext.trans (Ext.draws HE2.out _) hE3)
        clear hE3 H3
        go_wp2_with fail
        refine (H4.out _ HE3.out).mono ?_
        rintro e w4 ⟨rfl, hE4⟩
        have HE4 := Lib.hid (Ext.trans HE3.out hE4)
        clear hE4 H4
        go_wp2_with fail
        go_ret3
        exact ⟨rfl, HE4.out⟩


set_option maxRecDepth 100000 in
set_option maxHeartbeats 4000000 in
theorem divModI_any (x y : Int) (w : World) (hx : (intB x).size ≤ 28000) (hy : (intB y).size ≤ 28000) (h0 : y ≠ 0) (ht : Pow10 w) :
    Calls Tryz.prog 116 #[.string (intB x), .string (intB y)] w fun e w' => e = .returned (.tuple #[.string (intB (fdq x y)), .string (intB (fdr x y)), .int .i64 0]) ∧ Ext w w' := by
  by_cases hs : (intB x).size ≤ 18 ∧ (intB y).size ≤ 18
  · exact divMod18 x y w hs.1 hs.2 h0 ht
  have HT := Lib.hid ht
  clear ht
  have hz := int_zero y
  rw [decide_eq_false h0] at hz
  have hax := natAbs_le x
  have hay := natAbs_le y
  have HS1 : Hid (∀ W, Calls Tryz.prog 86 #[.string (intB x)] W fun e w' => e = .returned (.tuple #[.bool (decide (x < 0)), .string (numB x.natAbs)]) ∧ Ext W w') := fun W => split_any x W
  have HS2 : Hid (∀ W, Calls Tryz.prog 86 #[.string (intB y)] W fun e w' => e = .returned (.tuple #[.bool (decide (y < 0)), .string (numB y.natAbs)]) ∧ Ext W w') := fun W => split_any y W
  obtain ⟨p, hp⟩ : ∃ p, p = decide (x < 0) := ⟨_, rfl⟩
  obtain ⟨q, hq⟩ : ∃ q, q = decide (y < 0) := ⟨_, rfl⟩
  have hfd := fd_abs x y h0 hp hq
  rw [← hp] at HS1
  rw [← hq] at HS2
  have hv0 : y.natAbs ≠ 0 := by omega
  obtain ⟨u, hu⟩ : ∃ u, u = x.natAbs := ⟨_, rfl⟩
  obtain ⟨v, hv⟩ : ∃ v, v = y.natAbs := ⟨_, rfl⟩
  rw [← hu] at HS1 hax hfd
  rw [← hv] at HS2 hay hfd hv0
  have HDV : Hid (∀ W, Ext w W → Calls Tryz.prog 138 #[.string (numB u), .string (numB v)] W fun e w' => e = .returned (.tuple #[.string (numB (u / v)), .string (numB (u % v)), .int .i64 0]) ∧ Ext W w') := fun W hE => decDivMod_any u v W (by omega) (by omega) hv0 (HT.out.ext hE)
  have hqs : (numB (u / v)).size ≤ 28000 := Nat.le_trans (num_le_mono (Nat.div_le_self _ _)) (by omega)
  have hrv : u % v < v := Nat.mod_lt _ (by omega)
  have hrs : (numB (u % v)).size ≤ 28000 := Nat.le_trans (num_le_mono (Nat.le_of_lt hrv)) (by omega)
  have hn1 : (numB 1).size ≤ 28000 := by
    have := Lib.nDigits_small (show 1 < 10 by omega)
    rw [numB_size, this]; omega
  have hN1 : numB 1 = ⟨#[49]⟩ := by unfold numB; rw [Lib.decDigits_one (by omega)]; rfl
  have hq1s := num_add_size (u / v) 1
  have hADD : ∀ W, Ext w W → Calls Tryz.prog 111 #[.string (numB (u / v)), .string (numB 1)] W fun e w' => e = .returned (.string (numB (u / v + 1))) ∧ Ext W w' := fun W hE => decAdd_any (u / v) 1 W (by omega) (by omega) (HT.out.ext hE)
  rw [hN1] at hADD
  have HADD := Lib.hid hADD
  have HSUB : Hid (∀ W, Ext w W → Calls Tryz.prog 113 #[.string (numB v), .string (numB (u % v))] W fun e w' => e = .returned (.tuple #[.string (numB (v - u % v)), .int .i64 0]) ∧ Ext W w') := fun W hE => decSub_any v (u % v) W (by omega) (by omega) (Nat.le_of_lt hrv) (HT.out.ext hE)
  have hvr : (numB (v - u % v)).size ≤ 28000 := Nat.le_trans (num_le_mono (Nat.sub_le _ _)) (by omega)
  have HJ : Hid (∀ (b : Bool) (n : Nat), (numB n).size ≤ 1000000000 → ∀ W, Calls Tryz.prog 87 #[.bool b, .string (numB n)] W fun e w' => e = .returned (.string (intB (sgn b n))) ∧ W = w') := fun b n hn W => join_any b n W hn
  have hrz := num_zero (u % v)
  obtain ⟨Q, hQ⟩ : ∃ Q, Q = u / v := ⟨_, rfl⟩
  obtain ⟨R, hR⟩ : ∃ R, R = u % v := ⟨_, rfl⟩
  rw [← hQ] at hfd HDV hqs hq1s HADD
  rw [← hR] at hfd HDV hrs HSUB hvr hrz
  have hcase : ((intB x).size ≤ 18 ∧ 18 < (intB y).size) ∨ 18 < (intB x).size := by omega
  have HX : Hid ((intB x).size ≤ 18 → -1000000000000000000 < x ∧ x < 1000000000000000000) := fun h => int_small h
  obtain ⟨F1, hF1⟩ : ∃ F, F = fdq x y := ⟨_, rfl⟩
  obtain ⟨F2, hF2⟩ : ∃ F, F = fdr x y := ⟨_, rfl⟩
  rw [← hF1, ← hF2] at hfd ⊢
  have HFD := Lib.hid hfd
  have HSZ : Hid ((numB Q).size ≤ 1000000000 ∧ (numB (Q + 1)).size ≤ 1000000000 ∧ (numB R).size ≤ 1000000000 ∧ (numB (v - R)).size ≤ 1000000000) := ⟨by omega, by omega, by omega, by omega⟩
  clear hu hv hs hax hay hp hq hfd hv0 hqs hrv hrs hn1 hN1 hq1s hADD hvr hQ hR hF1 hF2
  rcases p with _ | _ <;> rcases q with _ | _
  · have hf := HFD.out
    rw [if_neg (by simp), if_neg (by simp)] at hf
    have HJ1 := Lib.hid (HJ.out false Q HSZ.out.1)
    have HJ2 := Lib.hid (HJ.out false R HSZ.out.2.2.1)
    rw [show sgn false Q = F1 from hf.1.symm] at HJ1
    rw [show sgn false R = F2 from hf.2.symm] at HJ2
    clear hf HFD hrz
    rcases hcase with ⟨hs1, hs2⟩ | hs1
    · have H1 := Lib.hid (little_yes x 18 w (by have := HX.out hs1; omega) (by have := HX.out hs1; omega) hs1 (by omega))
      have H2 : Hid (∀ W, Calls Tryz.prog 85 #[.string (intB y), .int .i64 18] W fun e w' => e = .returned (.tuple #[.int .i64 0, .bool false]) ∧ W = w') := fun W => little_no y 18 W hs2
      clear hs1 hs2
      go_enter Tryz.func116, Tryz.ntmps116
      go_wp2_with fail
      refine H1.out.mono ?_
      rintro e w1 ⟨rfl, hE1⟩
      have HE1 := Lib.hid hE1
      clear hE1 H1
      go_wp2_with fail
      refine (H2.out _).mono ?_
      rintro e w' ⟨rfl, rfl⟩
      clear H2
      go_wp2_with fail
      refine (HS1.out _).mono ?_
      rintro e w2 ⟨rfl, hE2⟩
      have HE2 := Lib.hid (Ext.trans HE1.out hE2)
      clear hE2 HS1
      go_wp2_with fail
      refine (HS2.out _).mono ?_
      rintro e w3 ⟨rfl, hE3⟩
      have HE3 := Lib.hid (Ext.trans HE2.out hE3)
      clear hE3 HS2
      go_wp2_with fail
      refine (HDV.out _ HE3.out).mono ?_
      rintro e w4 ⟨rfl, hE4⟩
      have HE4 := Lib.hid (Ext.trans HE3.out hE4)
      clear hE4 HDV
      go_wp2_with fail
      refine (HJ1.out _).mono ?_
      rintro e w' ⟨rfl, rfl⟩
      clear HJ1
      go_wp2_with fail
      refine (HJ2.out _).mono ?_
      rintro e w' ⟨rfl, rfl⟩
      clear HJ2
      go_wp2_with fail
      go_ret3
      exact ⟨rfl, HE4.out⟩
    · have H1 : Hid (∀ W, Calls Tryz.prog 85 #[.string (intB x), .int .i64 18] W fun e w' => e = .returned (.tuple #[.int .i64 0, .bool false]) ∧ W = w') := fun W => little_no x 18 W hs1
      clear hs1
      go_enter Tryz.func116, Tryz.ntmps116
      go_wp2_with fail
      refine (H1.out _).mono ?_
      rintro e w' ⟨rfl, rfl⟩
      have HE1 := Lib.hid (Ext.refl w)
      clear H1
      go_wp2_with fail
      refine (HS1.out _).mono ?_
      rintro e w2 ⟨rfl, hE2⟩
      have HE2 := Lib.hid (Ext.trans HE1.out hE2)
      clear hE2 HS1
      go_wp2_with fail
      refine (HS2.out _).mono ?_
      rintro e w3 ⟨rfl, hE3⟩
      have HE3 := Lib.hid (Ext.trans HE2.out hE3)
      clear hE3 HS2
      go_wp2_with fail
      refine (HDV.out _ HE3.out).mono ?_
      rintro e w4 ⟨rfl, hE4⟩
      have HE4 := Lib.hid (Ext.trans HE3.out hE4)
      clear hE4 HDV
      go_wp2_with fail
      refine (HJ1.out _).mono ?_
      rintro e w' ⟨rfl, rfl⟩
      clear HJ1
      go_wp2_with fail
      refine (HJ2.out _).mono ?_
      rintro e w' ⟨rfl, rfl⟩
      clear HJ2
      go_wp2_with fail
      go_ret3
      exact ⟨rfl, HE4.out⟩
  · by_cases hR0 : R = 0
    · have hf := HFD.out
      rw [if_neg (by simp [hR0]), if_neg (by simp [hR0])] at hf
      have HJ1 := Lib.hid (HJ.out true Q HSZ.out.1)
      have HJ2 := Lib.hid (HJ.out true R HSZ.out.2.2.1)
      rw [show sgn true Q = F1 from hf.1.symm] at HJ1
      rw [show sgn true R = F2 from hf.2.symm] at HJ2
      rw [decide_eq_true hR0] at hrz
      clear hf HFD hR0
      rcases hcase with ⟨hs1, hs2⟩ | hs1
      · have H1 := Lib.hid (little_yes x 18 w (by have := HX.out hs1; omega) (by have := HX.out hs1; omega) hs1 (by omega))
        have H2 : Hid (∀ W, Calls Tryz.prog 85 #[.string (intB y), .int .i64 18] W fun e w' => e = .returned (.tuple #[.int .i64 0, .bool false]) ∧ W = w') := fun W => little_no y 18 W hs2
        clear hs1 hs2
        go_enter Tryz.func116, Tryz.ntmps116
        go_wp2_with fail
        refine H1.out.mono ?_
        rintro e w1 ⟨rfl, hE1⟩
        have HE1 := Lib.hid hE1
        clear hE1 H1
        go_wp2_with fail
        refine (H2.out _).mono ?_
        rintro e w' ⟨rfl, rfl⟩
        clear H2
        go_wp2_with fail
        refine (HS1.out _).mono ?_
        rintro e w2 ⟨rfl, hE2⟩
        have HE2 := Lib.hid (Ext.trans HE1.out hE2)
        clear hE2 HS1
        go_wp2_with fail
        refine (HS2.out _).mono ?_
        rintro e w3 ⟨rfl, hE3⟩
        have HE3 := Lib.hid (Ext.trans HE2.out hE3)
        clear hE3 HS2
        go_wp2_with fail
        refine (HDV.out _ HE3.out).mono ?_
        rintro e w4 ⟨rfl, hE4⟩
        have HE4 := Lib.hid (Ext.trans HE3.out hE4)
        clear hE4 HDV
        go_wp2_with fail
        refine (HJ1.out _).mono ?_
        rintro e w' ⟨rfl, rfl⟩
        clear HJ1
        go_wp2_with fail
        refine (HJ2.out _).mono ?_
        rintro e w' ⟨rfl, rfl⟩
        clear HJ2
        go_wp2_with fail
        go_ret3
        exact ⟨rfl, HE4.out⟩
      · have H1 : Hid (∀ W, Calls Tryz.prog 85 #[.string (intB x), .int .i64 18] W fun e w' => e = .returned (.tuple #[.int .i64 0, .bool false]) ∧ W = w') := fun W => little_no x 18 W hs1
        clear hs1
        go_enter Tryz.func116, Tryz.ntmps116
        go_wp2_with fail
        refine (H1.out _).mono ?_
        rintro e w' ⟨rfl, rfl⟩
        have HE1 := Lib.hid (Ext.refl w)
        clear H1
        go_wp2_with fail
        refine (HS1.out _).mono ?_
        rintro e w2 ⟨rfl, hE2⟩
        have HE2 := Lib.hid (Ext.trans HE1.out hE2)
        clear hE2 HS1
        go_wp2_with fail
        refine (HS2.out _).mono ?_
        rintro e w3 ⟨rfl, hE3⟩
        have HE3 := Lib.hid (Ext.trans HE2.out hE3)
        clear hE3 HS2
        go_wp2_with fail
        refine (HDV.out _ HE3.out).mono ?_
        rintro e w4 ⟨rfl, hE4⟩
        have HE4 := Lib.hid (Ext.trans HE3.out hE4)
        clear hE4 HDV
        go_wp2_with fail
        refine (HJ1.out _).mono ?_
        rintro e w' ⟨rfl, rfl⟩
        clear HJ1
        go_wp2_with fail
        refine (HJ2.out _).mono ?_
        rintro e w' ⟨rfl, rfl⟩
        clear HJ2
        go_wp2_with fail
        go_ret3
        exact ⟨rfl, HE4.out⟩
    · have hf := HFD.out
      rw [if_pos ⟨rfl, hR0⟩, if_pos ⟨rfl, hR0⟩] at hf
      have HJ1 := Lib.hid (HJ.out true (Q + 1) HSZ.out.2.1)
      have HJ2 := Lib.hid (HJ.out true (v - R) HSZ.out.2.2.2)
      rw [show sgn true (Q + 1) = F1 from hf.1.symm] at HJ1
      rw [show sgn true (v - R) = F2 from hf.2.symm] at HJ2
      rw [decide_eq_false hR0] at hrz
      clear hf HFD hR0
      rcases hcase with ⟨hs1, hs2⟩ | hs1
      · have H1 := Lib.hid (little_yes x 18 w (by have := HX.out hs1; omega) (by have := HX.out hs1; omega) hs1 (by omega))
        have H2 : Hid (∀ W, Calls Tryz.prog 85 #[.string (intB y), .int .i64 18] W fun e w' => e = .returned (.tuple #[.int .i64 0, .bool false]) ∧ W = w') := fun W => little_no y 18 W hs2
        clear hs1 hs2
        go_enter Tryz.func116, Tryz.ntmps116
        go_wp2_with fail
        refine H1.out.mono ?_
        rintro e w1 ⟨rfl, hE1⟩
        have HE1 := Lib.hid hE1
        clear hE1 H1
        go_wp2_with fail
        refine (H2.out _).mono ?_
        rintro e w' ⟨rfl, rfl⟩
        clear H2
        go_wp2_with fail
        refine (HS1.out _).mono ?_
        rintro e w2 ⟨rfl, hE2⟩
        have HE2 := Lib.hid (Ext.trans HE1.out hE2)
        clear hE2 HS1
        go_wp2_with fail
        refine (HS2.out _).mono ?_
        rintro e w3 ⟨rfl, hE3⟩
        have HE3 := Lib.hid (Ext.trans HE2.out hE3)
        clear hE3 HS2
        go_wp2_with fail
        refine (HDV.out _ HE3.out).mono ?_
        rintro e w4 ⟨rfl, hE4⟩
        have HE4 := Lib.hid (Ext.trans HE3.out hE4)
        clear hE4 HDV
        go_wp2_with fail
        refine (HADD.out _ HE4.out).mono ?_
        rintro e w5 ⟨rfl, hE5⟩
        have HE5 := Lib.hid (Ext.trans HE4.out hE5)
        clear hE5 HADD
        go_wp2_with fail
        refine (HSUB.out _ HE5.out).mono ?_
        rintro e w6 ⟨rfl, hE6⟩
        have HE6 := Lib.hid (Ext.trans HE5.out hE6)
        clear hE6 HSUB
        go_wp2_with fail
        refine (HJ1.out _).mono ?_
        rintro e w' ⟨rfl, rfl⟩
        clear HJ1
        go_wp2_with fail
        refine (HJ2.out _).mono ?_
        rintro e w' ⟨rfl, rfl⟩
        clear HJ2
        go_wp2_with fail
        go_ret3
        exact ⟨rfl, HE6.out⟩
      · have H1 : Hid (∀ W, Calls Tryz.prog 85 #[.string (intB x), .int .i64 18] W fun e w' => e = .returned (.tuple #[.int .i64 0, .bool false]) ∧ W = w') := fun W => little_no x 18 W hs1
        clear hs1
        go_enter Tryz.func116, Tryz.ntmps116
        go_wp2_with fail
        refine (H1.out _).mono ?_
        rintro e w' ⟨rfl, rfl⟩
        have HE1 := Lib.hid (Ext.refl w)
        clear H1
        go_wp2_with fail
        refine (HS1.out _).mono ?_
        rintro e w2 ⟨rfl, hE2⟩
        have HE2 := Lib.hid (Ext.trans HE1.out hE2)
        clear hE2 HS1
        go_wp2_with fail
        refine (HS2.out _).mono ?_
        rintro e w3 ⟨rfl, hE3⟩
        have HE3 := Lib.hid (Ext.trans HE2.out hE3)
        clear hE3 HS2
        go_wp2_with fail
        refine (HDV.out _ HE3.out).mono ?_
        rintro e w4 ⟨rfl, hE4⟩
        have HE4 := Lib.hid (Ext.trans HE3.out hE4)
        clear hE4 HDV
        go_wp2_with fail
        refine (HADD.out _ HE4.out).mono ?_
        rintro e w5 ⟨rfl, hE5⟩
        have HE5 := Lib.hid (Ext.trans HE4.out hE5)
        clear hE5 HADD
        go_wp2_with fail
        refine (HSUB.out _ HE5.out).mono ?_
        rintro e w6 ⟨rfl, hE6⟩
        have HE6 := Lib.hid (Ext.trans HE5.out hE6)
        clear hE6 HSUB
        go_wp2_with fail
        refine (HJ1.out _).mono ?_
        rintro e w' ⟨rfl, rfl⟩
        clear HJ1
        go_wp2_with fail
        refine (HJ2.out _).mono ?_
        rintro e w' ⟨rfl, rfl⟩
        clear HJ2
        go_wp2_with fail
        go_ret3
        exact ⟨rfl, HE6.out⟩
  · by_cases hR0 : R = 0
    · have hf := HFD.out
      rw [if_neg (by simp [hR0]), if_neg (by simp [hR0])] at hf
      have HJ1 := Lib.hid (HJ.out true Q HSZ.out.1)
      have HJ2 := Lib.hid (HJ.out false R HSZ.out.2.2.1)
      rw [show sgn true Q = F1 from hf.1.symm] at HJ1
      rw [show sgn false R = F2 from hf.2.symm] at HJ2
      rw [decide_eq_true hR0] at hrz
      clear hf HFD hR0
      rcases hcase with ⟨hs1, hs2⟩ | hs1
      · have H1 := Lib.hid (little_yes x 18 w (by have := HX.out hs1; omega) (by have := HX.out hs1; omega) hs1 (by omega))
        have H2 : Hid (∀ W, Calls Tryz.prog 85 #[.string (intB y), .int .i64 18] W fun e w' => e = .returned (.tuple #[.int .i64 0, .bool false]) ∧ W = w') := fun W => little_no y 18 W hs2
        clear hs1 hs2
        go_enter Tryz.func116, Tryz.ntmps116
        go_wp2_with fail
        refine H1.out.mono ?_
        rintro e w1 ⟨rfl, hE1⟩
        have HE1 := Lib.hid hE1
        clear hE1 H1
        go_wp2_with fail
        refine (H2.out _).mono ?_
        rintro e w' ⟨rfl, rfl⟩
        clear H2
        go_wp2_with fail
        refine (HS1.out _).mono ?_
        rintro e w2 ⟨rfl, hE2⟩
        have HE2 := Lib.hid (Ext.trans HE1.out hE2)
        clear hE2 HS1
        go_wp2_with fail
        refine (HS2.out _).mono ?_
        rintro e w3 ⟨rfl, hE3⟩
        have HE3 := Lib.hid (Ext.trans HE2.out hE3)
        clear hE3 HS2
        go_wp2_with fail
        refine (HDV.out _ HE3.out).mono ?_
        rintro e w4 ⟨rfl, hE4⟩
        have HE4 := Lib.hid (Ext.trans HE3.out hE4)
        clear hE4 HDV
        go_wp2_with fail
        refine (HJ1.out _).mono ?_
        rintro e w' ⟨rfl, rfl⟩
        clear HJ1
        go_wp2_with fail
        refine (HJ2.out _).mono ?_
        rintro e w' ⟨rfl, rfl⟩
        clear HJ2
        go_wp2_with fail
        go_ret3
        exact ⟨rfl, HE4.out⟩
      · have H1 : Hid (∀ W, Calls Tryz.prog 85 #[.string (intB x), .int .i64 18] W fun e w' => e = .returned (.tuple #[.int .i64 0, .bool false]) ∧ W = w') := fun W => little_no x 18 W hs1
        clear hs1
        go_enter Tryz.func116, Tryz.ntmps116
        go_wp2_with fail
        refine (H1.out _).mono ?_
        rintro e w' ⟨rfl, rfl⟩
        have HE1 := Lib.hid (Ext.refl w)
        clear H1
        go_wp2_with fail
        refine (HS1.out _).mono ?_
        rintro e w2 ⟨rfl, hE2⟩
        have HE2 := Lib.hid (Ext.trans HE1.out hE2)
        clear hE2 HS1
        go_wp2_with fail
        refine (HS2.out _).mono ?_
        rintro e w3 ⟨rfl, hE3⟩
        have HE3 := Lib.hid (Ext.trans HE2.out hE3)
        clear hE3 HS2
        go_wp2_with fail
        refine (HDV.out _ HE3.out).mono ?_
        rintro e w4 ⟨rfl, hE4⟩
        have HE4 := Lib.hid (Ext.trans HE3.out hE4)
        clear hE4 HDV
        go_wp2_with fail
        refine (HJ1.out _).mono ?_
        rintro e w' ⟨rfl, rfl⟩
        clear HJ1
        go_wp2_with fail
        refine (HJ2.out _).mono ?_
        rintro e w' ⟨rfl, rfl⟩
        clear HJ2
        go_wp2_with fail
        go_ret3
        exact ⟨rfl, HE4.out⟩
    · have hf := HFD.out
      rw [if_pos ⟨rfl, hR0⟩, if_pos ⟨rfl, hR0⟩] at hf
      have HJ1 := Lib.hid (HJ.out true (Q + 1) HSZ.out.2.1)
      have HJ2 := Lib.hid (HJ.out false (v - R) HSZ.out.2.2.2)
      rw [show sgn true (Q + 1) = F1 from hf.1.symm] at HJ1
      rw [show sgn false (v - R) = F2 from hf.2.symm] at HJ2
      rw [decide_eq_false hR0] at hrz
      clear hf HFD hR0
      rcases hcase with ⟨hs1, hs2⟩ | hs1
      · have H1 := Lib.hid (little_yes x 18 w (by have := HX.out hs1; omega) (by have := HX.out hs1; omega) hs1 (by omega))
        have H2 : Hid (∀ W, Calls Tryz.prog 85 #[.string (intB y), .int .i64 18] W fun e w' => e = .returned (.tuple #[.int .i64 0, .bool false]) ∧ W = w') := fun W => little_no y 18 W hs2
        clear hs1 hs2
        go_enter Tryz.func116, Tryz.ntmps116
        go_wp2_with fail
        refine H1.out.mono ?_
        rintro e w1 ⟨rfl, hE1⟩
        have HE1 := Lib.hid hE1
        clear hE1 H1
        go_wp2_with fail
        refine (H2.out _).mono ?_
        rintro e w' ⟨rfl, rfl⟩
        clear H2
        go_wp2_with fail
        refine (HS1.out _).mono ?_
        rintro e w2 ⟨rfl, hE2⟩
        have HE2 := Lib.hid (Ext.trans HE1.out hE2)
        clear hE2 HS1
        go_wp2_with fail
        refine (HS2.out _).mono ?_
        rintro e w3 ⟨rfl, hE3⟩
        have HE3 := Lib.hid (Ext.trans HE2.out hE3)
        clear hE3 HS2
        go_wp2_with fail
        refine (HDV.out _ HE3.out).mono ?_
        rintro e w4 ⟨rfl, hE4⟩
        have HE4 := Lib.hid (Ext.trans HE3.out hE4)
        clear hE4 HDV
        go_wp2_with fail
        refine (HADD.out _ HE4.out).mono ?_
        rintro e w5 ⟨rfl, hE5⟩
        have HE5 := Lib.hid (Ext.trans HE4.out hE5)
        clear hE5 HADD
        go_wp2_with fail
        refine (HSUB.out _ HE5.out).mono ?_
        rintro e w6 ⟨rfl, hE6⟩
        have HE6 := Lib.hid (Ext.trans HE5.out hE6)
        clear hE6 HSUB
        go_wp2_with fail
        refine (HJ1.out _).mono ?_
        rintro e w' ⟨rfl, rfl⟩
        clear HJ1
        go_wp2_with fail
        refine (HJ2.out _).mono ?_
        rintro e w' ⟨rfl, rfl⟩
        clear HJ2
        go_wp2_with fail
        go_ret3
        exact ⟨rfl, HE6.out⟩
      · have H1 : Hid (∀ W, Calls Tryz.prog 85 #[.string (intB x), .int .i64 18] W fun e w' => e = .returned (.tuple #[.int .i64 0, .bool false]) ∧ W = w') := fun W => little_no x 18 W hs1
        clear hs1
        go_enter Tryz.func116, Tryz.ntmps116
        go_wp2_with fail
        refine (H1.out _).mono ?_
        rintro e w' ⟨rfl, rfl⟩
        have HE1 := Lib.hid (Ext.refl w)
        clear H1
        go_wp2_with fail
        refine (HS1.out _).mono ?_
        rintro e w2 ⟨rfl, hE2⟩
        have HE2 := Lib.hid (Ext.trans HE1.out hE2)
        clear hE2 HS1
        go_wp2_with fail
        refine (HS2.out _).mono ?_
        rintro e w3 ⟨rfl, hE3⟩
        have HE3 := Lib.hid (Ext.trans HE2.out hE3)
        clear hE3 HS2
        go_wp2_with fail
        refine (HDV.out _ HE3.out).mono ?_
        rintro e w4 ⟨rfl, hE4⟩
        have HE4 := Lib.hid (Ext.trans HE3.out hE4)
        clear hE4 HDV
        go_wp2_with fail
        refine (HADD.out _ HE4.out).mono ?_
        rintro e w5 ⟨rfl, hE5⟩
        have HE5 := Lib.hid (Ext.trans HE4.out hE5)
        clear hE5 HADD
        go_wp2_with fail
        refine (HSUB.out _ HE5.out).mono ?_
        rintro e w6 ⟨rfl, hE6⟩
        have HE6 := Lib.hid (Ext.trans HE5.out hE6)
        clear hE6 HSUB
        go_wp2_with fail
        refine (HJ1.out _).mono ?_
        rintro e w' ⟨rfl, rfl⟩
        clear HJ1
        go_wp2_with fail
        refine (HJ2.out _).mono ?_
        rintro e w' ⟨rfl, rfl⟩
        clear HJ2
        go_wp2_with fail
        go_ret3
        exact ⟨rfl, HE6.out⟩
  · have hf := HFD.out
    rw [if_neg (by simp), if_neg (by simp)] at hf
    have HJ1 := Lib.hid (HJ.out false Q HSZ.out.1)
    have HJ2 := Lib.hid (HJ.out true R HSZ.out.2.2.1)
    rw [show sgn false Q = F1 from hf.1.symm] at HJ1
    rw [show sgn true R = F2 from hf.2.symm] at HJ2
    clear hf HFD hrz
    rcases hcase with ⟨hs1, hs2⟩ | hs1
    · have H1 := Lib.hid (little_yes x 18 w (by have := HX.out hs1; omega) (by have := HX.out hs1; omega) hs1 (by omega))
      have H2 : Hid (∀ W, Calls Tryz.prog 85 #[.string (intB y), .int .i64 18] W fun e w' => e = .returned (.tuple #[.int .i64 0, .bool false]) ∧ W = w') := fun W => little_no y 18 W hs2
      clear hs1 hs2
      go_enter Tryz.func116, Tryz.ntmps116
      go_wp2_with fail
      refine H1.out.mono ?_
      rintro e w1 ⟨rfl, hE1⟩
      have HE1 := Lib.hid hE1
      clear hE1 H1
      go_wp2_with fail
      refine (H2.out _).mono ?_
      rintro e w' ⟨rfl, rfl⟩
      clear H2
      go_wp2_with fail
      refine (HS1.out _).mono ?_
      rintro e w2 ⟨rfl, hE2⟩
      have HE2 := Lib.hid (Ext.trans HE1.out hE2)
      clear hE2 HS1
      go_wp2_with fail
      refine (HS2.out _).mono ?_
      rintro e w3 ⟨rfl, hE3⟩
      have HE3 := Lib.hid (Ext.trans HE2.out hE3)
      clear hE3 HS2
      go_wp2_with fail
      refine (HDV.out _ HE3.out).mono ?_
      rintro e w4 ⟨rfl, hE4⟩
      have HE4 := Lib.hid (Ext.trans HE3.out hE4)
      clear hE4 HDV
      go_wp2_with fail
      refine (HJ1.out _).mono ?_
      rintro e w' ⟨rfl, rfl⟩
      clear HJ1
      go_wp2_with fail
      refine (HJ2.out _).mono ?_
      rintro e w' ⟨rfl, rfl⟩
      clear HJ2
      go_wp2_with fail
      go_ret3
      exact ⟨rfl, HE4.out⟩
    · have H1 : Hid (∀ W, Calls Tryz.prog 85 #[.string (intB x), .int .i64 18] W fun e w' => e = .returned (.tuple #[.int .i64 0, .bool false]) ∧ W = w') := fun W => little_no x 18 W hs1
      clear hs1
      go_enter Tryz.func116, Tryz.ntmps116
      go_wp2_with fail
      refine (H1.out _).mono ?_
      rintro e w' ⟨rfl, rfl⟩
      have HE1 := Lib.hid (Ext.refl w)
      clear H1
      go_wp2_with fail
      refine (HS1.out _).mono ?_
      rintro e w2 ⟨rfl, hE2⟩
      have HE2 := Lib.hid (Ext.trans HE1.out hE2)
      clear hE2 HS1
      go_wp2_with fail
      refine (HS2.out _).mono ?_
      rintro e w3 ⟨rfl, hE3⟩
      have HE3 := Lib.hid (Ext.trans HE2.out hE3)
      clear hE3 HS2
      go_wp2_with fail
      refine (HDV.out _ HE3.out).mono ?_
      rintro e w4 ⟨rfl, hE4⟩
      have HE4 := Lib.hid (Ext.trans HE3.out hE4)
      clear hE4 HDV
      go_wp2_with fail
      refine (HJ1.out _).mono ?_
      rintro e w' ⟨rfl, rfl⟩
      clear HJ1
      go_wp2_with fail
      refine (HJ2.out _).mono ?_
      rintro e w' ⟨rfl, rfl⟩
      clear HJ2
      go_wp2_with fail
      go_ret3
      exact ⟨rfl, HE4.out⟩

set_option maxRecDepth 100000 in
set_option maxHeartbeats 1000000 in
theorem gcd_any (u v : Nat) (w : World) (hu : u < 1000000000000000000) (hv : v < 1000000000000000000) :
    Calls Tryz.prog 136 #[.int .i64 u, .int .i64 v] w fun e w' => e = .returned (.int .i64 (Nat.gcd u v : Nat)) ∧ Ext w w' := by
  go_enter Tryz.func136, Tryz.ntmps136
  go_wp2_with fail
  go_loopw [0, 1] (fun a b wr => ∃ x y : Nat, a = .int .i64 x ∧ b = .int .i64 y ∧ x < 1000000000000000000 ∧ y < 1000000000000000000 ∧ Hid (Nat.gcd x y = Nat.gcd u v) ∧ Hid (Ext w wr)) (fun _ b _ => (intOf b).toNat)
  case atStart => exact ⟨u, v, rfl, rfl, hu, hv, rfl, Ext.refl _⟩
  case round =>
    obtain ⟨x, y, rfl, rfl, hx, hy, HG, HE⟩ := hrel
    obtain ⟨wo, rfl⟩ : ∃ wo : World, wo = wr := ⟨_, rfl⟩
    by_cases hy0 : y = 0
    · have HF : Hid (x = Nat.gcd u v) := by unfold Hid; rw [← HG.out, hy0, Nat.gcd_zero_right]
      subst hy0
      go_wp2_with fail
      go_ret
      exact ⟨by rw [← HF.out]; rfl, HE.out⟩
    · have HG2 : Hid (Nat.gcd y (x % y) = Nat.gcd u v) := by
        unfold Hid; rw [← HG.out, Nat.gcd_comm y (x % y), ← Nat.gcd_rec, Nat.gcd_comm]
      obtain ⟨r, hr⟩ : ∃ r, r = x % y := ⟨_, rfl⟩
      rw [← hr] at HG2
      have hry : r < y := by rw [hr]; exact Nat.mod_lt _ (by omega)
      have hmi : (x : Int) % (y : Int) = (r : Int) := by rw [hr]; exact (Int.natCast_emod _ _).symm
      have hmi2 : (x : Int).tmod (y : Int) = (r : Int) := by rw [Int.tmod_eq_emod_of_nonneg (by omega), hmi]
      have hyz : ((y : Int) == 0) = false := by rw [beq_eq_false_iff_ne]; omega
      have hyz1 : ((y : Int) != 0) = true := by simp; omega
      have hyz2 : ¬ (y : Int) = 0 := by omega
      clear hr
      go_wp2_with fail
      go_quiet (fail)
      go_wp2_with fail
      go_roundw
      case rel => exact ⟨y, r, rfl, rfl, hy, by omega, HG2.out, Ext.draws HE.out _⟩
      case measure => simp [intOf]; omega

set_option maxRecDepth 100000 in
set_option maxHeartbeats 1000000 in
theorem gcdI_any (x y : Int) (w : World) (hx : (intB x).size ≤ 28000) (hy : (intB y).size ≤ 28000) (ht : Pow10 w) :
    Calls Tryz.prog 115 #[.string (intB x), .string (intB y)] w fun e w' => e = .returned (.string (numB (Nat.gcd x.natAbs y.natAbs))) ∧ Ext w w' := by
  have HT := Lib.hid ht
  clear ht
  have hax := natAbs_le x
  have hay := natAbs_le y
  have eb : ∀ n : Nat, intB (n : Int) = numB n := fun n => by rw [intB_pos _ (by omega)]; rfl
  have hA1 := abs_any x w
  have hA2 := fun W => abs_any y W
  rw [eb] at hA1
  simp only [eb] at hA2
  have HA1 := Lib.hid hA1
  have HA2 : Hid (∀ W, Calls Tryz.prog 135 #[.string (intB y)] W fun e w' => e = .returned (.string (numB y.natAbs)) ∧ Ext W w') := hA2
  obtain ⟨u, hu⟩ : ∃ u, u = x.natAbs := ⟨_, rfl⟩
  obtain ⟨v, hv⟩ : ∃ v, v = y.natAbs := ⟨_, rfl⟩
  rw [← hu] at HA1 hax ⊢
  rw [← hv] at HA2 hay ⊢
  clear hA1 hA2 hu hv
  by_cases hs : (numB u).size ≤ 18 ∧ (numB v).size ≤ 18
  · have hu1 := num_small hs.1
    have hv1 := num_small hs.2
    have h1 : ∀ W, Calls Tryz.prog 85 #[.string (intB (u : Int)), .int .i64 18] W fun e w' => e = .returned (.tuple #[.int .i64 (u : Int), .bool true]) ∧ Ext W w' := fun W => little_yes (u : Int) 18 W (by omega) (by omega) (by rw [eb]; exact hs.1) (by omega)
    have h2 : ∀ W, Calls Tryz.prog 85 #[.string (intB (v : Int)), .int .i64 18] W fun e w' => e = .returned (.tuple #[.int .i64 (v : Int), .bool true]) ∧ Ext W w' := fun W => little_yes (v : Int) 18 W (by omega) (by omega) (by rw [eb]; exact hs.2) (by omega)
    rw [eb] at h1 h2
    have H1 := Lib.hid h1
    have H2 := Lib.hid h2
    have HG := Lib.hid (fun W => gcd_any u v W hu1 hv1)
    have hg : Nat.gcd u v ≤ u + v := by
      by_cases h0 : u = 0
      · rw [h0, Nat.gcd_zero_left]; omega
      · have := Nat.gcd_le_left v (Nat.pos_of_ne_zero h0); omega
    obtain ⟨gg, hgg⟩ : ∃ gg, gg = Nat.gcd u v := ⟨_, rfl⟩
    rw [← hgg] at HG hg ⊢
    have hO : ∀ W, Ext w W → Calls Tryz.prog 69 #[.int .i64 (gg : Int)] W fun e w' => e = .returned (.string (intB (gg : Int))) ∧ Ext W w' := fun W hE => of_any (gg : Int) W (by omega) (by omega) (HT.out.ext hE)
    rw [eb] at hO
    have HO := Lib.hid hO
    clear h1 h2 hO hs hgg eb
    go_enter Tryz.func115, Tryz.ntmps115
    go_wp2_with fail
    refine HA1.out.mono ?_
    rintro e w1 ⟨rfl, hE1⟩
    have HE1 := Lib.hid hE1
    clear hE1 HA1
    go_wp2_with fail
    refine (HA2.out _).mono ?_
    rintro e w2 ⟨rfl, hE2⟩
    have HE2 := Lib.hid (Ext.trans HE1.out hE2)
    clear hE2 HA2
    go_wp2_with fail
    refine (H1.out _).mono ?_
    rintro e w3 ⟨rfl, hE3⟩
    have HE3 := Lib.hid (Ext.trans HE2.out hE3)
    clear hE3 H1
    go_wp2_with fail
    refine (H2.out _).mono ?_
    rintro e w4 ⟨rfl, hE4⟩
    have HE4 := Lib.hid (Ext.trans HE3.out hE4)
    clear hE4 H2
    go_wp2_with fail
    refine (HG.out _).mono ?_
    rintro e w5 ⟨rfl, hE5⟩
    have HE5 := Lib.hid (Ext.trans HE4.out hE5)
    clear hE5 HG
    go_wp2_with fail
    refine (HO.out _ HE5.out).mono ?_
    rintro e w6 ⟨rfl, hE6⟩
    have HE6 := Lib.hid (Ext.trans HE5.out hE6)
    clear hE6 HO
    go_wp2_with fail
    go_ret
    exact ⟨rfl, HE6.out⟩
  · have HG : Hid (∀ W, Ext w W → Calls Tryz.prog 137 #[.string (numB u), .string (numB v)] W fun e w' => e = .returned (.string (numB (Nat.gcd u v))) ∧ Ext W w') := fun W hE => decGcd_any u v W (by omega) (by omega) (HT.out.ext hE)
    have hcase : ((numB u).size ≤ 18 ∧ 18 < (numB v).size) ∨ 18 < (numB u).size := by omega
    have HY : Hid ((numB u).size ≤ 18 → ∀ W, Calls Tryz.prog 85 #[.string (numB u), .int .i64 18] W fun e w' => e = .returned (.tuple #[.int .i64 (u : Int), .bool true]) ∧ Ext W w') := by
      intro h W
      have hb := num_small h
      have := little_yes (u : Int) 18 W (by omega) (by omega) (by rw [eb]; exact h) (by omega)
      rw [eb] at this
      exact this
    have HNO : Hid (∀ n : Nat, 18 < (numB n).size → ∀ W, Calls Tryz.prog 85 #[.string (numB n), .int .i64 18] W fun e w' => e = .returned (.tuple #[.int .i64 0, .bool false]) ∧ W = w') := by
      intro n h W
      have := little_no (n : Int) 18 W (by rw [eb]; exact h)
      rw [eb] at this
      exact this
    clear hs eb
    rcases hcase with ⟨hs1, hs2⟩ | hs1
    case' inl =>
      have H1 := Lib.hid (HY.out hs1)
      have H2 := Lib.hid (HNO.out v hs2)
      clear hs1 hs2
      go_enter Tryz.func115, Tryz.ntmps115
      go_wp2_with fail
      refine HA1.out.mono ?_
      rintro e w1 ⟨rfl, hE1⟩
      have HE1 := Lib.hid hE1
      clear hE1 HA1
      go_wp2_with fail
      refine (HA2.out _).mono ?_
      rintro e w2 ⟨rfl, hE2⟩
      have HE2 := Lib.hid (Ext.trans HE1.out hE2)
      clear hE2 HA2
      go_wp2_with fail
      refine (H1.out _).mono ?_
      rintro e w3 ⟨rfl, hE3⟩
      have HE3 := Lib.hid (Ext.trans HE2.out hE3)
      clear hE3 H1
      go_wp2_with fail
      refine (H2.out _).mono ?_
      rintro e w' ⟨rfl, rfl⟩
      clear H2
    case' inr =>
      have H1 := Lib.hid (HNO.out u hs1)
      clear hs1
      go_enter Tryz.func115, Tryz.ntmps115
      go_wp2_with fail
      refine HA1.out.mono ?_
      rintro e w1 ⟨rfl, hE1⟩
      have HE1 := Lib.hid hE1
      clear hE1 HA1
      go_wp2_with fail
      refine (HA2.out _).mono ?_
      rintro e w2 ⟨rfl, hE2⟩
      have HE3 := Lib.hid (Ext.trans HE1.out hE2)
      clear hE2 HA2
      go_wp2_with fail
      refine (H1.out _).mono ?_
      rintro e w' ⟨rfl, rfl⟩
      clear H1
    all_goals
      go_wp2_with fail
      refine (HG.out _ HE3.out).mono ?_
      rintro e w5 ⟨rfl, hE5⟩
      have HE5 := Lib.hid (Ext.trans HE3.out hE5)
      clear hE5 HG
      go_wp2_with fail
      go_ret
      exact ⟨rfl, HE5.out⟩
end Go.Proofs.YtpeinobepiodaaaGreatDoor
