/- Contracts of package whole at integers of any size: Add, Sub, Mul, DivMod, Gcd. -/
import Derived.Test.YtpeinobepiodaaaGreatDoorWholeL
import Derived.Test.YtpeinobepiodaaaGreatDoorDecMain3
namespace Go.Proofs.YtpeinobepiodaaaGreatDoor
set_option linter.unusedVariables false
set_option linter.unusedSimpArgs false
open Go.RowKit

theorem natAbs_le (n : Int) : (numB n.natAbs).size ≤ (intB n).size := by
  by_cases h : n < 0
  · have := intB_size_neg n h; omega
  · rw [intB_pos n (by omega), show n.natAbs = n.toNat by omega]; exact Nat.le_refl _
theorem intB_size_le (n : Int) : (intB n).size ≤ (numB n.natAbs).size + 1 := by
  by_cases h : n < 0
  · rw [intB_size_neg n h]; exact Nat.le_refl _
  · rw [intB_pos n (by omega), show n.natAbs = n.toNat by omega]; omega
theorem int_small {n : Int} (h : (intB n).size ≤ 18) : -1000000000000000000 < n ∧ n < 1000000000000000000 := by
  have := num_small (u := n.natAbs) (by have := natAbs_le n; omega)
  omega
set_option maxRecDepth 100000 in
set_option maxHeartbeats 4000000 in
theorem addI_any (x y : Int) (w : World) (hx : (intB x).size ≤ 29000) (hy : (intB y).size ≤ 29000) (ht : Pow10 w) :
    Calls Tryz.prog 81 #[.string (intB x), .string (intB y)] w fun e w' => e = .returned (.string (intB (x + y))) ∧ Ext w w' := by
  have HT := Lib.hid ht
  clear ht
  by_cases hs : (intB x).size ≤ 18 ∧ (intB y).size ≤ 18
  · obtain ⟨hx1, hx2⟩ := int_small hs.1
    obtain ⟨hy1, hy2⟩ := int_small hs.2
    have H1 := Lib.hid (little_yes x 18 w (by omega) (by omega) hs.1 (by omega))
    have H2 : Hid (∀ W, Calls Tryz.prog 85 #[.string (intB y), .int .i64 18] W fun e w' => e = .returned (.tuple #[.int .i64 y, .bool true]) ∧ Ext W w') := fun W => little_yes y 18 W (by omega) (by omega) hs.2 (by omega)
    have H3 : Hid (∀ W, Ext w W → Calls Tryz.prog 69 #[.int .i64 (x + y)] W fun e w' => e = .returned (.string (intB (x + y))) ∧ Ext W w') := fun W hE => of_any (x + y) W (by omega) (by omega) (HT.out.ext hE)
    clear hs
    go_enter Tryz.func81, Tryz.ntmps81
    go_wp2_with fail
    refine H1.out.mono ?_
    rintro e w1 ⟨rfl, hE1⟩
    have HE1 := Lib.hid hE1
    clear hE1 H1
    go_wp2_with fail
    refine (H2.out _).mono ?_
    rintro e w2 ⟨rfl, hE2⟩
    have HE2 := Lib.hid (Ext.trans HE1.out hE2)
    clear hE2 H2
    go_wp2_with fail
    refine (H3.out _ HE2.out).mono ?_
    rintro e w3 ⟨rfl, hE3⟩
    have HE3 := Lib.hid (Ext.trans HE2.out hE3)
    clear hE3 H3
    go_wp2_with fail
    go_ret
    exact ⟨rfl, HE3.out⟩
  · have hax := natAbs_le x
    have hay := natAbs_le y
    have HS1 : Hid (∀ W, Calls Tryz.prog 86 #[.string (intB x)] W fun e w' => e = .returned (.tuple #[.bool (decide (x < 0)), .string (numB x.natAbs)]) ∧ Ext W w') := fun W => split_any x W
    have HS2 : Hid (∀ W, Calls Tryz.prog 86 #[.string (intB y)] W fun e w' => e = .returned (.tuple #[.bool (decide (y < 0)), .string (numB y.natAbs)]) ∧ Ext W w') := fun W => split_any y W
    obtain ⟨u, hu⟩ : ∃ u, u = x.natAbs := ⟨_, rfl⟩
    obtain ⟨v, hv⟩ : ∃ v, v = y.natAbs := ⟨_, rfl⟩
    rw [← hu] at HS1 hax
    rw [← hv] at HS2 hay
    have HADD : Hid (∀ W, Ext w W → Calls Tryz.prog 111 #[.string (numB u), .string (numB v)] W fun e w' => e = .returned (.string (numB (u + v))) ∧ Ext W w') := fun W hE => decAdd_any u v W (by omega) (by omega) (HT.out.ext hE)
    have HCMP : Hid (∀ W, Calls Tryz.prog 112 #[.string (numB u), .string (numB v)] W fun e w' => e = .returned (.int .i64 (cmpN u v)) ∧ W = w') := fun W => decCompare_any u v W (by omega) (by omega)
    have HSUB1 : Hid (v ≤ u → ∀ W, Ext w W → Calls Tryz.prog 113 #[.string (numB u), .string (numB v)] W fun e w' => e = .returned (.tuple #[.string (numB (u - v)), .int .i64 0]) ∧ Ext W w') := fun hle W hE => decSub_any u v W (by omega) (by omega) hle (HT.out.ext hE)
    have HSUB2 : Hid (u ≤ v → ∀ W, Ext w W → Calls Tryz.prog 113 #[.string (numB v), .string (numB u)] W fun e w' => e = .returned (.tuple #[.string (numB (v - u)), .int .i64 0]) ∧ Ext W w') := fun hle W hE => decSub_any v u W (by omega) (by omega) hle (HT.out.ext hE)
    have hsum := num_add_size u v
    have HJ : Hid (∀ (b : Bool) (n : Nat), n ≤ u + v → ∀ W, Calls Tryz.prog 87 #[.bool b, .string (numB n)] W fun e w' => e = .returned (.string (intB (sgn b n))) ∧ W = w') := fun b n hn W => join_any b n W (by have := num_le_mono hn; omega)
    have HUV : Hid (u = x.natAbs ∧ v = y.natAbs) := ⟨hu, hv⟩
    have hcase : ((intB x).size ≤ 18 ∧ 18 < (intB y).size) ∨ 18 < (intB x).size := by omega
    have HX : Hid ((intB x).size ≤ 18 → -1000000000000000000 < x ∧ x < 1000000000000000000) := fun h => int_small h
    obtain ⟨p, hp⟩ : ∃ p, p = decide (x < 0) := ⟨_, rfl⟩
    obtain ⟨q, hq⟩ : ∃ q, q = decide (y < 0) := ⟨_, rfl⟩
    rw [← hp] at HS1
    rw [← hq] at HS2
    have HPQ : Hid (x = sgn p u ∧ y = sgn q v) := by
      unfold Hid; rw [hp, hq, hu, hv, sgn_self, sgn_self]; exact ⟨rfl, rfl⟩
    clear hu hv hs hax hay hsum hp hq
    rcases hcase with ⟨hs1, hs2⟩ | hs1
    case' inl =>
      have H1 := Lib.hid (little_yes x 18 w (by have := HX.out hs1; omega) (by have := HX.out hs1; omega) hs1 (by omega))
      have H2 : Hid (∀ W, Calls Tryz.prog 85 #[.string (intB y), .int .i64 18] W fun e w' => e = .returned (.tuple #[.int .i64 0, .bool false]) ∧ W = w') := fun W => little_no y 18 W hs2
      clear hs1 hs2
      go_enter Tryz.func81, Tryz.ntmps81
      go_wp2_with fail
      refine H1.out.mono ?_
      rintro e w1 ⟨rfl, hE1⟩
      have HE1 := Lib.hid hE1
      clear hE1 H1
      go_wp2_with fail
      refine (H2.out _).mono ?_
      rintro e w' ⟨rfl, rfl⟩
      clear H2
    case' inr =>
      have H1 : Hid (∀ W, Calls Tryz.prog 85 #[.string (intB x), .int .i64 18] W fun e w' => e = .returned (.tuple #[.int .i64 0, .bool false]) ∧ W = w') := fun W => little_no x 18 W hs1
      clear hs1
      go_enter Tryz.func81, Tryz.ntmps81
      go_wp2_with fail
      refine (H1.out _).mono ?_
      rintro e w' ⟨rfl, rfl⟩
      have HE1 := Lib.hid (Ext.refl w)
      clear H1
    all_goals
      go_wp2_with fail
      refine (HS1.out _).mono ?_
      rintro e w2 ⟨rfl, hE2⟩
      have HE2 := Lib.hid (Ext.trans HE1.out hE2)
      clear hE2 HS1
      go_wp2_with fail
      refine (HS2.out _).mono ?_
      rintro e w3 ⟨rfl, hE3⟩
      have HE3 := Lib.hid (Ext.trans HE2.out hE3)
      clear hE3 HS2
      by_cases hpq : p = q
      · have hb : (p == q) = true := by simp [hpq]
        have HR : Hid (sgn p (u + v) = x + y) := by
          unfold Hid; rw [HPQ.out.1, HPQ.out.2, hpq]
          cases q <;> simp only [sgn_false, sgn_true] <;> omega
        have HJ1 := Lib.hid (HJ.out p (u + v) (Nat.le_refl _))
        rw [HR.out] at HJ1
        clear hpq
        go_wp2_with fail
        refine (HADD.out _ HE3.out).mono ?_
        rintro e w4 ⟨rfl, hE4⟩
        have HE4 := Lib.hid (Ext.trans HE3.out hE4)
        clear hE4
        go_wp2_with fail
        refine (HJ1.out _).mono ?_
        rintro e w' ⟨rfl, rfl⟩
        clear HJ1
        go_wp2_with fail
        go_ret
        exact ⟨rfl, HE4.out⟩
      · have hb : (p == q) = false := by simpa using hpq
        obtain ⟨cm, hcm⟩ : ∃ cm, cm = cmpN u v := ⟨_, rfl⟩
        rw [← hcm] at HCMP
        by_cases huv : u < v
        · have hcl : cm < 0 := by rw [hcm, cmpN_lt huv]; omega
          have HR : Hid (sgn q (v - u) = x + y) := by
            unfold Hid; rw [HPQ.out.1, HPQ.out.2]
            revert hpq
            cases p <;> cases q <;> simp only [sgn_false, sgn_true] <;> intro h <;> first | omega | exact absurd trivial h
          have HJ1 := Lib.hid (HJ.out q (v - u) (by omega))
          rw [HR.out] at HJ1
          have HSB := Lib.hid (HSUB2.out (by omega))
          clear hpq hcm huv HSUB1 HSUB2
          go_wp2_with fail
          refine (HCMP.out _).mono ?_
          rintro e w' ⟨rfl, rfl⟩
          clear HCMP
          go_wp2_with fail
          refine (HSB.out _ HE3.out).mono ?_
          rintro e w4 ⟨rfl, hE4⟩
          have HE4 := Lib.hid (Ext.trans HE3.out hE4)
          clear hE4 HSB
          go_wp2_with fail
          refine (HJ1.out _).mono ?_
          rintro e w' ⟨rfl, rfl⟩
          clear HJ1
          go_wp2_with fail
          go_ret
          exact ⟨rfl, HE4.out⟩
        · have hcl : ¬ cm < 0 := by rw [hcm]; unfold cmpN; rw [if_neg huv]; split <;> omega
          have HR : Hid (sgn p (u - v) = x + y) := by
            unfold Hid; rw [HPQ.out.1, HPQ.out.2]
            revert hpq
            cases p <;> cases q <;> simp only [sgn_false, sgn_true] <;> intro h <;> first | omega | exact absurd trivial h
          have HJ1 := Lib.hid (HJ.out p (u - v) (by omega))
          rw [HR.out] at HJ1
          have HSB := Lib.hid (HSUB1.out (by omega))
          clear hpq hcm huv HSUB1 HSUB2
          go_wp2_with fail
          refine (HCMP.out _).mono ?_
          rintro e w' ⟨rfl, rfl⟩
          clear HCMP
          go_wp2_with fail
          refine (HSB.out _ HE3.out).mono ?_
          rintro e w4 ⟨rfl, hE4⟩
          have HE4 := Lib.hid (Ext.trans HE3.out hE4)
          clear hE4 HSB
          go_wp2_with fail
          refine (HJ1.out _).mono ?_
          rintro e w' ⟨rfl, rfl⟩
          clear HJ1
          go_wp2_with fail
          go_ret
          exact ⟨rfl, HE4.out⟩

set_option maxRecDepth 100000 in
set_option maxHeartbeats 4000000 in
theorem mulI_any (x y : Int) (w : World) (hx : (intB x).size ≤ 29000) (hy : (intB y).size ≤ 29000) (ht : Pow10 w) :
    Calls Tryz.prog 49 #[.string (intB x), .string (intB y)] w fun e w' => e = .returned (.string (intB (x * y))) ∧ Ext w w' := by
  have HT := Lib.hid ht
  clear ht
  by_cases hs : (intB x).size ≤ 9 ∧ (intB y).size ≤ 9
  · have hb : ∀ {n : Int}, (intB n).size ≤ 9 → -1000000000 < n ∧ n < 1000000000 := by
      intro n h
      have h1 := natAbs_le n
      have h2 : n.natAbs < 1000000000 := by
        have h3 := Lib.lt_pow_nDigits n.natAbs
        rw [numB_size] at h1
        have h4 : 10 ^ Lib.nDigits n.natAbs ≤ 10 ^ 9 := Nat.pow_le_pow_right (by omega) (by omega)
        rw [show (10 : Nat) ^ 9 = 1000000000 by decide] at h4
        omega
      omega
    obtain ⟨hx1, hx2⟩ := hb hs.1
    obtain ⟨hy1, hy2⟩ := hb hs.2
    have hm := mul_bd hx1 hx2 hy1 hy2 (by omega) (by omega)
    obtain ⟨m, hmm⟩ : ∃ m, m = x * y := ⟨_, rfl⟩
    rw [← hmm] at hm ⊢
    have hmi : x * y = m := hmm.symm
    have H1 := Lib.hid (little_yes x 9 w (by omega) (by omega) hs.1 (by omega))
    have H2 : Hid (∀ W, Calls Tryz.prog 85 #[.string (intB y), .int .i64 9] W fun e w' => e = .returned (.tuple #[.int .i64 y, .bool true]) ∧ Ext W w') := fun W => little_yes y 9 W (by omega) (by omega) hs.2 (by omega)
    have hm1 : -1000000000000000000 ≤ m := by omega
    have hm2 : m ≤ 1000000000000000000 := by omega
    have H3 : Hid (∀ W, Ext w W → Calls Tryz.prog 69 #[.int .i64 m] W fun e w' => e = .returned (.string (intB m)) ∧ Ext W w') := fun W hE => of_any m W (by omega) (by omega) (HT.out.ext hE)
    clear hs hb hm hmm
    go_enter Tryz.func49, Tryz.ntmps49
    go_wp2_with fail
    refine H1.out.mono ?_
    rintro e w1 ⟨rfl, hE1⟩
    have HE1 := Lib.hid hE1
    clear hE1 H1
    go_wp2_with fail
    refine (H2.out _).mono ?_
    rintro e w2 ⟨rfl, hE2⟩
    have HE2 := Lib.hid (Ext.trans HE1.out hE2)
    clear hE2 H2
    go_wp2_with fail
    refine (H3.out _ HE2.out).mono ?_
    rintro e w3 ⟨rfl, hE3⟩
    have HE3 := Lib.hid (Ext.trans HE2.out hE3)
    clear hE3 H3
    go_wp2_with fail
    go_ret
    exact ⟨rfl, HE3.out⟩
  · have hax := natAbs_le x
    have hay := natAbs_le y
    have HS1 : Hid (∀ W, Calls Tryz.prog 86 #[.string (intB x)] W fun e w' => e = .returned (.tuple #[.bool (decide (x < 0)), .string (numB x.natAbs)]) ∧ Ext W w') := fun W => split_any x W
    have HS2 : Hid (∀ W, Calls Tryz.prog 86 #[.string (intB y)] W fun e w' => e = .returned (.tuple #[.bool (decide (y < 0)), .string (numB y.natAbs)]) ∧ Ext W w') := fun W => split_any y W
    obtain ⟨u, hu⟩ : ∃ u, u = x.natAbs := ⟨_, rfl⟩
    obtain ⟨v, hv⟩ : ∃ v, v = y.natAbs := ⟨_, rfl⟩
    rw [← hu] at HS1 hax
    rw [← hv] at HS2 hay
    have HMUL : Hid (∀ W, Ext w W → Calls Tryz.prog 88 #[.string (numB u), .string (numB v)] W fun e w' => e = .returned (.string (numB (u * v))) ∧ Ext W w') := fun W hE => decMul_any u v W (by omega) (by omega) (HT.out.ext hE)
    have hprod := num_mul_size u v
    obtain ⟨p, hp⟩ : ∃ p, p = decide (x < 0) := ⟨_, rfl⟩
    obtain ⟨q, hq⟩ : ∃ q, q = decide (y < 0) := ⟨_, rfl⟩
    rw [← hp] at HS1
    rw [← hq] at HS2
    have hR : sgn (p != q) (u * v) = x * y := by
      have e1 : x = sgn p u := by rw [hp, hu, sgn_self]
      have e2 : y = sgn q v := by rw [hq, hv, sgn_self]
      rw [e1, e2]
      cases p <;> cases q <;> simp [sgn_false, sgn_true, Int.neg_mul, Int.mul_neg]
    have HJ : Hid (∀ W, Calls Tryz.prog 87 #[.bool (p != q), .string (numB (u * v))] W fun e w' => e = .returned (.string (intB (x * y))) ∧ W = w') := fun W => by
      rw [← hR]; exact join_any (p != q) (u * v) W (by omega)
    have hcase : ((intB x).size ≤ 9 ∧ 9 < (intB y).size) ∨ 9 < (intB x).size := by omega
    have HX : Hid ((intB x).size ≤ 9 → -1000000000000000000 < x ∧ x < 1000000000000000000) := fun h => int_small (by omega)
    clear hu hv hs hax hay hprod hp hq hR
    rcases hcase with ⟨hs1, hs2⟩ | hs1
    case' inl =>
      have H1 := Lib.hid (little_yes x 9 w (by have := HX.out hs1; omega) (by have := HX.out hs1; omega) hs1 (by omega))
      have H2 : Hid (∀ W, Calls Tryz.prog 85 #[.string (intB y), .int .i64 9] W fun e w' => e = .returned (.tuple #[.int .i64 0, .bool false]) ∧ W = w') := fun W => little_no y 9 W hs2
      clear hs1 hs2
      go_enter Tryz.func49, Tryz.ntmps49
      go_wp2_with fail
      refine H1.out.mono ?_
      rintro e w1 ⟨rfl, hE1⟩
      have HE1 := Lib.hid hE1
      clear hE1 H1
      go_wp2_with fail
      refine (H2.out _).mono ?_
      rintro e w' ⟨rfl, rfl⟩
      clear H2
    case' inr =>
      have H1 : Hid (∀ W, Calls Tryz.prog 85 #[.string (intB x), .int .i64 9] W fun e w' => e = .returned (.tuple #[.int .i64 0, .bool false]) ∧ W = w') := fun W => little_no x 9 W hs1
      clear hs1
      go_enter Tryz.func49, Tryz.ntmps49
      go_wp2_with fail
      refine (H1.out _).mono ?_
      rintro e w' ⟨rfl, rfl⟩
      have HE1 := Lib.hid (Ext.refl w)
      clear H1
    all_goals
      go_wp2_with fail
      refine (HS1.out _).mono ?_
      rintro e w2 ⟨rfl, hE2⟩
      have HE2 := Lib.hid (Ext.trans HE1.out hE2)
      clear hE2 HS1
      go_wp2_with fail
      refine (HS2.out _).mono ?_
      rintro e w3 ⟨rfl, hE3⟩
      have HE3 := Lib.hid (Ext.trans HE2.out hE3)
      clear hE3 HS2
      go_wp2_with fail
      refine (HMUL.out _ HE3.out).mono ?_
      rintro e w4 ⟨rfl, hE4⟩
      have HE4 := Lib.hid (Ext.trans HE3.out hE4)
      clear hE4
      go_wp2_with fail
      refine (HJ.out _).mono ?_
      rintro e w' ⟨rfl, rfl⟩
      clear HJ
      go_wp2_with fail
      go_ret
      exact ⟨rfl, HE4.out⟩

end Go.Proofs.YtpeinobepiodaaaGreatDoor
