/- Merged: DivG, FracG. -/
import Derived.Test.YtpeinobepiodaaaGreatDoorGT
import Derived.Test.YtpeinobepiodaaaGreatDoorGN
/- The reference of chapter 02 at integers of any size: DivMod, Gcd; chapter 06's Fraction. -/
namespace Go.Proofs.YtpeinobepiodaaaGreatDoor
set_option linter.unusedVariables false
set_option linter.unusedSimpArgs false
open Go.RowKit

theorem sdJ_nat (u : Nat) : sdJ (u : Int) = 1 := if_neg (by omega)
theorem sdJ_neg {u : Nat} (h : u ≠ 0) : sdJ (-(u : Int)) = -1 := if_pos (by omega)
theorem tdiv_sg (x y : Int) : sgJ (sdJ x != sdJ y) (x.natAbs / y.natAbs) = x.tdiv y := by
  obtain ⟨u, rfl | rfl⟩ := x.eq_nat_or_neg <;> obtain ⟨v, rfl | rfl⟩ := y.eq_nat_or_neg
  · rw [sdJ_nat, sdJ_nat, Int.natAbs_natCast, Int.natAbs_natCast, ← Int.ofNat_tdiv]; rfl
  · rw [Int.natAbs_neg, Int.natAbs_natCast, Int.natAbs_natCast, Int.tdiv_neg, ← Int.ofNat_tdiv]
    by_cases hv : v = 0
    · subst hv; simp [sgJ]
    · rw [sdJ_nat, sdJ_neg hv]; rfl
  · rw [Int.natAbs_neg, Int.natAbs_natCast, Int.natAbs_natCast, Int.neg_tdiv, ← Int.ofNat_tdiv]
    by_cases hu : u = 0
    · subst hu; simp [sgJ]
    · rw [sdJ_nat, sdJ_neg hu]; rfl
  · rw [Int.natAbs_neg, Int.natAbs_neg, Int.natAbs_natCast, Int.natAbs_natCast, Int.neg_tdiv_neg, ← Int.ofNat_tdiv]
    by_cases hu : u = 0
    · subst hu; simp [sgJ]
    · by_cases hv : v = 0
      · subst hv; simp [sgJ]
      · rw [sdJ_neg hu, sdJ_neg hv]; rfl
theorem tmod_sg (x y : Int) : sgJ (decide (sdJ x < 0)) (x.natAbs % y.natAbs) = x.tmod y := by
  have hy : x.tmod y = x.tmod (y.natAbs : Int) := by
    rcases Int.natAbs_eq y with h | h
    · rw [← h]
    · rw [h, Int.tmod_neg, Int.natAbs_neg, Int.natAbs_natCast]
  rw [hy]
  generalize y.natAbs = v
  obtain ⟨u, rfl | rfl⟩ := x.eq_nat_or_neg <;> unfold sgJ sdJ
  · rw [if_neg (show ¬ (u : Int) < 0 by omega), if_neg (by decide), Int.natAbs_natCast, ← Int.ofNat_tmod]
  · rw [Int.natAbs_neg, Int.natAbs_natCast, Int.neg_tmod, ← Int.ofNat_tmod]
    by_cases hu : u = 0
    · subst hu; simp
    · rw [if_pos (show -(u : Int) < 0 by omega), if_pos (by decide)]
/-- Rounding down: by signs. -/
theorem fd_sg (x y : Int) (h0 : y ≠ 0) : (x.tmod y ≠ 0 ∧ sdJ x ≠ sdJ y → fdq x y = x.tdiv y - 1 ∧ fdr x y = x.tmod y + y) ∧ (¬ (x.tmod y ≠ 0 ∧ sdJ x ≠ sdJ y) → fdq x y = x.tdiv y ∧ fdr x y = x.tmod y) := by
  have key : x.tmod y ≠ 0 → ((decide (x.tmod y < 0) ≠ decide (y < 0)) ↔ sdJ x ≠ sdJ y) := by
    intro hr
    have hs := tmod_sg x y
    unfold sgJ sdJ at hs
    unfold sdJ
    by_cases h1 : x < 0
    · rw [if_pos h1, if_pos (by decide)] at hs
      have h3 : x.tmod y < 0 := by omega
      by_cases h2 : y < 0 <;> simp [h1, h2, h3]
    · rw [if_neg h1, if_neg (by decide)] at hs
      have h3 : ¬ x.tmod y < 0 := by omega
      by_cases h2 : y < 0 <;> simp [h1, h2, h3]
  unfold fdq fdr
  constructor
  · rintro ⟨h1, h2⟩
    have := (key h1).2 h2
    rw [if_pos ⟨h1, this⟩, if_pos ⟨h1, this⟩]
    exact ⟨rfl, rfl⟩
  · intro h
    have : ¬ (x.tmod y ≠ 0 ∧ decide (x.tmod y < 0) ≠ decide (y < 0)) := fun ⟨h1, h2⟩ => h ⟨h1, (key h1).1 h2⟩
    rw [if_neg this, if_neg this]
    exact ⟨rfl, rfl⟩
theorem int_size_mono {x y : Int} (h : x.natAbs ≤ y.natAbs) : (intB x).size ≤ (intB y).size + 1 := by
  have h1 := intB_size_le x
  have h2 := num_le_mono h
  have h3 := nat_size_le y
  omega
set_option maxRecDepth 100000 in
set_option maxHeartbeats 4000000 in
theorem rDivModG_any (x y : Int) (w : World) (hx : (intB x).size ≤ 13000) (hy : (intB y).size ≤ 13000) (h0 : y ≠ 0) (ht : Pow10 w) :
    Calls Tryz.prog 96 #[.string (intB x), .string (intB y)] w fun e w' => e = .returned (.tuple #[.string (intB (fdq x y)), .string (intB (fdr x y))]) ∧ Ext w w' := by
  by_cases hsm : x.natAbs < 1000000000000000000 ∧ y.natAbs < 1000000000000000000
  · exact rDivMod18 x y w (by omega) (by omega) h0 ht
  have HT := Lib.hid ht
  have hux := nat_size_le x
  have huy := nat_size_le y
  have H1 := Lib.hid (rQuickG_any x w (by omega))
  have H2 : Hid (∀ W, Calls Tryz.prog 102 #[.string (intB y)] W fun e w' => e = .returned (.tuple #[.int .i64 (qkV y), .bool (qkB y)]) ∧ Ext W w') := fun W => rQuickG_any y W (by omega)
  have hbb : qkB x = false ∨ (qkB x = true ∧ qkB y = false) := by
    unfold qkB
    by_cases h1 : x.natAbs < 1000000000000000000
    · exact .inr ⟨decide_eq_true h1, decide_eq_false (fun h2 => hsm ⟨h1, h2⟩)⟩
    · exact .inl (decide_eq_false h1)
  obtain ⟨vx, hvx⟩ : ∃ v, v = qkV x := ⟨_, rfl⟩
  obtain ⟨vy, hvy⟩ : ∃ v, v = qkV y := ⟨_, rfl⟩
  rw [← hvx] at H1
  rw [← hvy] at H2
  have HDX : Hid (∀ W, Calls Tryz.prog 104 #[.string (intB x)] W fun e w' => e = .returned (.string (numB x.natAbs)) ∧ W = w') := fun W => rDigits_any x W
  have HDY : Hid (∀ W, Calls Tryz.prog 104 #[.string (intB y)] W fun e w' => e = .returned (.string (numB y.natAbs)) ∧ W = w') := fun W => rDigits_any y W
  obtain ⟨s1, hs1⟩ : ∃ s, s = sdJ x := ⟨_, rfl⟩
  obtain ⟨s2, hs2⟩ : ∃ s, s = sdJ y := ⟨_, rfl⟩
  have HSX : Hid (∀ W, Calls Tryz.prog 105 #[.string (intB x)] W fun e w' => e = .returned (.int .i64 s1) ∧ W = w') := fun W => by rw [hs1]; exact rSide_any x W
  have HSY : Hid (∀ W, Calls Tryz.prog 105 #[.string (intB y)] W fun e w' => e = .returned (.int .i64 s2) ∧ W = w') := fun W => by rw [hs2]; exact rSide_any y W
  have HQ : Hid (sgJ (s1 != s2) (x.natAbs / y.natAbs) = x.tdiv y) := by unfold Hid; rw [hs1, hs2]; exact tdiv_sg x y
  have HR : Hid (sgJ (decide (s1 < 0)) (x.natAbs % y.natAbs) = x.tmod y) := by unfold Hid; rw [hs1]; exact tmod_sg x y
  obtain ⟨hf1, hf2⟩ := fd_sg x y h0
  rw [← hs1, ← hs2] at hf1 hf2
  have hqs : (intB (x.tdiv y)).size ≤ 13001 := by
    have := int_size_mono (tdiv_le x y)
    omega
  have hrs : (intB (x.tmod y)).size ≤ 13001 := by
    have h1 := tmod_lt x y h0
    have := int_size_mono (show (x.tmod y).natAbs ≤ y.natAbs by omega)
    omega
  have HZ := Lib.hid (int_zero (x.tmod y))
  obtain ⟨tq, htq⟩ : ∃ t, t = x.tdiv y := ⟨_, rfl⟩
  obtain ⟨tr, htr⟩ : ∃ t, t = x.tmod y := ⟨_, rfl⟩
  rw [← htq] at HQ hf1 hf2 hqs
  rw [← htr] at HR hf1 hf2 hrs HZ
  have HF1 := Lib.hid hf1; have HF2 := Lib.hid hf2
  have HSUB : Hid (∀ W, Ext w W → Calls Tryz.prog 125 #[.string (intB tq), .string ⟨#[49]⟩] W fun e w' => e = .returned (.string (intB (tq - 1))) ∧ Ext W w') := fun W hW => by
    have := rSub_any tq 1 W (by omega) (by decide +kernel) (HT.out.ext hW)
    rw [show intB 1 = ⟨#[49]⟩ by decide +kernel] at this
    exact this
  have HADD : Hid (∀ W, Ext w W → Calls Tryz.prog 74 #[.string (intB tr), .string (intB y)] W fun e w' => e = .returned (.string (intB (tr + y))) ∧ Ext W w') := fun W hW => rAdd_any tr y W (by omega) (by omega) (HT.out.ext hW)
  have hy0 : 0 < y.natAbs := by omega
  clear hsm ht hvx hvy hs1 hs2 htq htr hf1 hf2 h0
  rcases hbb with hb | ⟨hb, hb2⟩
  case' inl =>
    rw [hb] at H1
    obtain ⟨by', hby⟩ : ∃ b, b = qkB y := ⟨_, rfl⟩
    rw [← hby] at H2
    clear hb hby
  case' inr =>
    rw [hb] at H1
    rw [hb2] at H2
    clear hb hb2
  all_goals
    go_enter Tryz.func96, Tryz.ntmps96
    go_wp2_with fail
    refine H1.out.mono ?_
    rintro e w1 ⟨rfl, hE1⟩
    have HE1 := Lib.hid hE1
    clear hE1 H1
    go_wp2_with fail
    refine (H2.out _).mono ?_
    rintro e w2 ⟨rfl, hE2⟩
    have HE2 := Lib.hid (Ext.trans HE1.out hE2)
    clear hE2 H2
    go_wp2_with fail
    refine (HDX.out _).mono ?_
    rintro e w3 ⟨rfl, rfl⟩
    go_wp2_with fail
    refine (rSplitI_any _ _ (by omega)).mono ?_
    rintro e w3 ⟨r3, l3, rfl, hr3, hE3⟩
    have HR3 := Lib.hid hr3
    have HE3 := Lib.hid (Ext.trans HE2.out hE3)
    clear hr3 hE3
    go_wp2_with fail
    refine (HDY.out _).mono ?_
    rintro e w4 ⟨rfl, rfl⟩
    go_wp2_with fail
    refine (rSplitI_any _ _ (by omega)).mono ?_
    rintro e w4 ⟨r4, l4, rfl, hr4, hE4⟩
    have HR4 := Lib.hid hr4
    have HE4 := Lib.hid (Ext.trans HE3.out hE4)
    have HA3 := Lib.hid ((HR3.out.out.1.at).ext hE4)
    have hl3 : l3.length ≤ 15000 := by have := HR3.out.out.2.2.2; omega
    have hl4 : l4.length ≤ 15000 := by have := HR4.out.out.2.2.2; omega
    clear hr4 hE4
    go_wp2_with fail
    refine (rDivide_any l3 l4 _ _ _ HA3.out HR4.out.out.1.at HR3.out.out.2.1.1 HR4.out.out.2.1 (by rw [HR4.out.out.2.2.1]; exact hy0) (by omega) (by omega)).mono ?_
    rintro e w5 ⟨r5, r6, l5, l6, rfl, hr5, hE5⟩
    have HR5 := Lib.hid hr5.out
    have HE5 := Lib.hid (Ext.trans HE4.out hE5)
    clear hr5 hE5
    go_wp2_with fail
    refine (HSX.out _).mono ?_
    rintro e w6 ⟨rfl, rfl⟩
    go_wp2_with fail
    refine (HSY.out _).mono ?_
    rintro e w6 ⟨rfl, rfl⟩
    obtain ⟨q1, q2, q3, q4, q5, q6, q7, q8⟩ := HR5.out
    have HSG := Lib.hid (rSigned_any _ (s1 != s2) l5 r5 w5 q1 q2.1 (by omega) (HT.out.ext HE5.out))
    rw [q3, HR3.out.out.2.2.1, HR4.out.out.2.2.1, HQ.out] at HSG
    have HSG2 : Hid (∀ W, Ext w5 W → Calls Tryz.prog 106 #[.bool (decide (s1 < 0)), r6] W fun e w' => e = .returned (.string (intB tr)) ∧ Ext W w') := fun W hW => by
      have := rSigned_any w4.heap.size (decide (s1 < 0)) l6 r6 W (owns_ext q5 hW) q6.1 (by omega) (HT.out.ext (HE5.out.trans hW))
      rw [q7, HR3.out.out.2.2.1, HR4.out.out.2.2.1, HR.out] at this
      exact this
    clear q1 q2 q3 q4 q5 q6 q7 q8
    go_wp2_with fail
    refine HSG.out.mono ?_
    rintro e w6 ⟨rfl, hE6⟩
    have HE6 := Lib.hid hE6
    clear hE6
    go_wp2_with fail
    refine (HSX.out _).mono ?_
    rintro e w7 ⟨rfl, rfl⟩
    go_wp2_with fail
    refine (HSG2.out _ HE6.out).mono ?_
    rintro e w7 ⟨rfl, hE7⟩
    have HE7 := Lib.hid (Ext.trans HE5.out (Ext.trans HE6.out hE7))
    have hz := HZ.out
    clear hE7
    by_cases hc : tr ≠ 0 ∧ s1 ≠ s2
    · have hz2 : ¬ (intB tr).toList = [48] := fun e => by rw [e] at hz; exact hc.1 (of_decide_eq_true hz.symm)
      have hz4 : ((intB tr).toList == [48]) = false := by rw [hz]; exact decide_eq_false hc.1
      have hs : ¬ s1 = s2 := hc.2
      have hs2 : (s1 != s2) = true := by rw [bne_iff_ne]; exact hc.2
      obtain ⟨g1, g2⟩ := HF1.out hc
      have HG := Lib.hid (And.intro g1 g2)
      clear hc g1 g2 HF1 HF2 hz
      go_wp2_with fail
      refine (HSX.out _).mono ?_
      rintro e w8 ⟨rfl, rfl⟩
      go_wp2_with fail
      refine (HSY.out _).mono ?_
      rintro e w8 ⟨rfl, rfl⟩
      go_wp2_with fail
      refine (HSUB.out _ HE7.out).mono ?_
      rintro e w8 ⟨rfl, hE8⟩
      have HE8 := Lib.hid (Ext.trans HE7.out hE8)
      clear hE8
      go_wp2_with fail
      refine (HADD.out _ HE8.out).mono ?_
      rintro e w9 ⟨rfl, hE9⟩
      have HE9 := Lib.hid (Ext.trans HE8.out hE9)
      clear hE9
      go_wp2_with fail
      go_ret2
      exact ⟨by rw [HG.out.1, HG.out.2]; rfl, HE9.out⟩
    · obtain ⟨g1, g2⟩ := HF2.out hc
      have HG := Lib.hid (And.intro g1 g2)
      by_cases h0 : tr = 0
      · have hz2 : (intB tr).toList = [48] := by rw [decide_eq_true h0] at hz; exact beq_iff_eq.1 hz
        clear hc g1 g2 HF1 HF2 hz h0
        go_wp2_with fail
        go_ret2
        exact ⟨by rw [HG.out.1, HG.out.2]; rfl, HE7.out⟩
      · have hz2 : ¬ (intB tr).toList = [48] := fun e => by rw [e] at hz; exact h0 (of_decide_eq_true hz.symm)
        have hs : (s1 != s2) = false := by
          have : s1 = s2 := by
            false_or_by_contra
            rename_i h
            exact hc ⟨h0, h⟩
          rw [this]; simp
        clear hc g1 g2 HF1 HF2 hz h0
        go_wp2_with fail
        refine (HSX.out _).mono ?_
        rintro e w8 ⟨rfl, rfl⟩
        go_wp2_with fail
        refine (HSY.out _).mono ?_
        rintro e w8 ⟨rfl, rfl⟩
        go_wp2_with fail
        go_ret2
        exact ⟨by rw [HG.out.1, HG.out.2]; rfl, HE7.out⟩
end Go.Proofs.YtpeinobepiodaaaGreatDoor
/- The reference's Gcd (02), Fraction and combine (06) at integers of any size. -/
namespace Go.Proofs.YtpeinobepiodaaaGreatDoor
set_option linter.unusedVariables false
set_option linter.unusedSimpArgs false
open Go.RowKit

theorem fdq_exact {d : Int} (z : Int) (hd : d ≠ 0) : fdq (d * z) d = z := by
  unfold fdq
  rw [Int.mul_tmod_right, if_neg (by simp)]
  exact Int.mul_tdiv_cancel_left z hd
set_option maxRecDepth 100000 in
set_option maxHeartbeats 1000000 in
theorem rGcdG_any (a b : Int) (w : World) (ha : (intB a).size ≤ 13000) (hb : (intB b).size ≤ 13000) (ht : Pow10 w) :
    Calls Tryz.prog 95 #[.string (intB a), .string (intB b)] w fun e w' => e = .returned (.string (numB (Nat.gcd a.natAbs b.natAbs))) ∧ Ext w w' := by
  have HA := Lib.hid (rAbs_any a w)
  have HB := Lib.hid (fun W => rAbs_any b W)
  have HT := Lib.hid ht
  obtain ⟨u, hu⟩ : ∃ u, u = a.natAbs := ⟨_, rfl⟩
  obtain ⟨v, hv⟩ : ∃ v, v = b.natAbs := ⟨_, rfl⟩
  rw [← hu] at HA ⊢
  rw [← hv] at HB ⊢
  have hub : (numB u).size ≤ 13000 := by rw [hu]; have := nat_size_le a; omega
  have hvb : (numB v).size ≤ 13000 := by rw [hv]; have := nat_size_le b; omega
  clear ht hu hv ha hb
  go_enter Tryz.func95, Tryz.ntmps95
  go_wp2_with fail
  refine HA.out.mono ?_
  rintro e w1 ⟨rfl, hE1⟩
  have HE1 := Lib.hid hE1
  clear hE1 HA
  go_wp2_with fail
  refine (HB.out _).mono ?_
  rintro e w2 ⟨rfl, hE2⟩
  have HE2 := Lib.hid (Ext.trans HE1.out hE2)
  clear hE2 HB
  go_wp2_with fail
  go_loopw [0, 1] (fun s t wr => ∃ x y : Nat, s = .string (numB x) ∧ t = .string (numB y) ∧ (numB x).size ≤ 13000 ∧ (numB y).size ≤ 13000 ∧ Hid (Nat.gcd x y = Nat.gcd u v) ∧ Hid (Ext w wr)) (fun _ t _ => valS t)
  case atStart => exact ⟨u, v, rfl, rfl, hub, hvb, rfl, HE2.out⟩
  case round =>
    obtain ⟨x, y, rfl, rfl, hx, hy, HG, HE⟩ := hrel
    obtain ⟨wo, rfl⟩ : ∃ wo : World, wo = wr := ⟨_, rfl⟩
    have hz := nat_zero y
    by_cases hy0 : y = 0
    · have HF : Hid (x = Nat.gcd u v) := by unfold Hid; rw [← HG.out, hy0, Nat.gcd_zero_right]
      rw [decide_eq_true hy0] at hz
      have hz2 : ((numB y).toList != [48]) = false := by simp only [bne, hz]; rfl
      clear hy0
      go_wp2_with fail
      go_ret
      exact ⟨by rw [← HF.out]; rfl, HE.out⟩
    · rw [decide_eq_false hy0] at hz
      have hz2 : ((numB y).toList != [48]) = true := by simp only [bne, hz]; rfl
      have HG2 : Hid (Nat.gcd y (x % y) = Nat.gcd u v) := by
        unfold Hid; rw [← HG.out, Nat.gcd_comm y (x % y), ← Nat.gcd_rec, Nat.gcd_comm]
      have hdm := rDivModG_any (x : Int) (y : Int) wo (by rw [eb]; exact hx) (by rw [eb]; exact hy) (by omega) (HT.out.ext HE.out)
      rw [eb, eb] at hdm
      have hfr : fdr (x : Int) (y : Int) = ((x % y : Nat) : Int) := by
        unfold fdr
        rw [tmod_cast, if_neg]
        rintro ⟨-, h⟩
        exact h (by rw [decide_eq_false (by omega), decide_eq_false (by omega)])
      rw [hfr, eb] at hdm
      have HDM := Lib.hid hdm
      obtain ⟨r, hr⟩ : ∃ r, r = x % y := ⟨_, rfl⟩
      rw [← hr] at HG2 HDM
      have hry : r < y := by rw [hr]; exact Nat.mod_lt _ (by omega)
      have hrs : (numB r).size ≤ 13000 := Nat.le_trans (num_le_mono (Nat.le_of_lt hry)) hy
      have HVR := Lib.hid (And.intro (valS_num r) (valS_num y))
      clear hr hdm hfr hy0
      go_wp2_with fail
      refine HDM.out.mono ?_
      rintro e w3 ⟨rfl, hE3⟩
      have HE3 := Lib.hid (Ext.trans HE.out hE3)
      clear hE3 HDM
      go_wp2_with fail
      go_roundw
      case rel => exact ⟨y, r, rfl, rfl, hy, hrs, HG2.out, HE3.out⟩
      case measure =>
        have h1 := HVR.out.1; have h2 := HVR.out.2
        first | (rw [h1, h2]; exact hry) | (simp only [h1, h2]; exact hry)

set_option maxRecDepth 100000 in
set_option maxHeartbeats 1000000 in
theorem combine_any (a x b y d z : Int) (w : World) (ha : (intB a).size ≤ 6000) (hx : (intB x).size ≤ 6000) (hb : (intB b).size ≤ 6000) (hy : (intB y).size ≤ 6000) (hd : (intB d).size ≤ 6000) (h0 : d ≠ 0) (hz : a * x - b * y = d * z) (hzs : (intB z).size ≤ 6000) (ht : Pow10 w) :
    Calls Tryz.prog 93 #[.string (intB a), .string (intB x), .string (intB b), .string (intB y), .string (intB d)] w fun e w' => e = .returned (.string (intB z)) ∧ Ext w w' := by
  have HT := Lib.hid ht
  have s1 := int_mul_size a x
  have s2 := int_mul_size b y
  have s3 := int_mul_size d z
  have H1 := Lib.hid (rMul_any a x w (by omega) (by omega) ht)
  have H2 : Hid (∀ W, Ext w W → Calls Tryz.prog 75 #[.string (intB b), .string (intB y)] W fun e w' => e = .returned (.string (intB (b * y))) ∧ Ext W w') := fun W hW => rMul_any b y W (by omega) (by omega) (HT.out.ext hW)
  have H3 : Hid (∀ W, Ext w W → Calls Tryz.prog 125 #[.string (intB (a * x)), .string (intB (b * y))] W fun e w' => e = .returned (.string (intB (d * z))) ∧ Ext W w') := fun W hW => by
    have := rSub_any (a * x) (b * y) W (by omega) (by omega) (HT.out.ext hW)
    rw [hz] at this
    exact this
  have H4 : Hid (∀ W, Ext w W → Calls Tryz.prog 96 #[.string (intB (d * z)), .string (intB d)] W fun e w' => ∃ r, e = .returned (.tuple #[.string (intB z), .string r]) ∧ Ext W w') := fun W hW => by
    have := rDivModG_any (d * z) d W (by omega) (by omega) h0 (HT.out.ext hW)
    rw [fdq_exact z h0] at this
    exact this.mono fun _ _ ⟨g1, g2⟩ => ⟨_, g1, g2⟩
  obtain ⟨p, hp⟩ : ∃ p, p = intB (a * x) := ⟨_, rfl⟩
  obtain ⟨q, hq⟩ : ∃ q, q = intB (b * y) := ⟨_, rfl⟩
  obtain ⟨m, hm⟩ : ∃ m, m = intB (d * z) := ⟨_, rfl⟩
  rw [← hp] at H1 H3
  rw [← hq] at H2 H3
  rw [← hm] at H3 H4
  clear s1 s2 s3 hp hq hm hz ht ha hx hb hy hd hzs h0
  go_enter Tryz.func93, Tryz.ntmps93
  go_wp2_with fail
  refine H1.out.mono ?_
  rintro e w1 ⟨rfl, hE1⟩
  have HE1 := Lib.hid hE1
  clear hE1
  go_wp2_with fail
  refine (H2.out _ HE1.out).mono ?_
  rintro e w2 ⟨rfl, hE2⟩
  have HE2 := Lib.hid (HE1.out.trans hE2)
  clear hE2
  go_wp2_with fail
  refine (H3.out _ HE2.out).mono ?_
  rintro e w3 ⟨rfl, hE3⟩
  have HE3 := Lib.hid (HE2.out.trans hE3)
  clear hE3
  go_wp2_with fail
  refine (H4.out _ HE3.out).mono ?_
  rintro e w4 ⟨r, rfl, hE4⟩
  have HE4 := Lib.hid (HE3.out.trans hE4)
  clear hE4
  go_wp2_with fail
  go_ret
  exact ⟨rfl, HE4.out⟩
set_option maxRecDepth 100000 in
set_option maxHeartbeats 1000000 in
theorem refFractionG_any (n0 d0 : Int) (w : World) (hn0 : (intB n0).size ≤ 12000) (hz : d0 ≠ 0) (hdz : (intB d0).size ≤ 12000) (ht : Pow10 w) :
    Calls Tryz.prog 62 #[.string (intB n0), .string (intB d0)] w fun e w' => e = .returned (ratV ((n0 : Rat) / (d0 : Rat))) ∧ Ext w w' := by
  obtain ⟨n, hn'⟩ : ∃ n, n = if d0 < 0 then -n0 else n0 := ⟨_, rfl⟩
  obtain ⟨d, hd'⟩ : ∃ d, d = d0.natAbs := ⟨_, rfl⟩
  have hd0 : 0 < d := by omega
  have hn : (intB n).size ≤ 13000 := by
    have := int_size_mono (show n.natAbs ≤ n0.natAbs by rw [hn']; split <;> omega)
    omega
  have hd : (numB d).size ≤ 13000 := by rw [hd']; have := nat_size_le d0; omega
  have hq0 : (n0 : Rat) / (d0 : Rat) = mkRat n d := by
    by_cases h : d0 < 0
    · have e1 : d0 = -(d : Int) := by omega
      have hX : ((d : Int) : Rat) ≠ 0 := by
        intro h2
        have : (d : Int) = 0 := by exact_mod_cast h2
        omega
      rw [hn', if_pos h, e1, Rat.mkRat_eq_div, Rat.intCast_neg, Rat.intCast_neg]
      show (n0 : Rat) / -((d : Int) : Rat) = -(n0 : Rat) / ((d : Int) : Rat)
      grind
    · have e1 : d0 = (d : Int) := by omega
      rw [hn', if_neg h, e1, Rat.mkRat_eq_div]
      rfl
  rw [hq0]
  have hcs : (0 < d0 ∧ intB n0 = intB n ∧ intB d0 = numB d) ∨ (d0 < 0 ∧ (∀ W, Calls Tryz.prog 61 #[.string (intB n0)] W fun e w' => e = .returned (.string (intB n)) ∧ W = w') ∧ (∀ W, Calls Tryz.prog 61 #[.string (intB d0)] W fun e w' => e = .returned (.string (numB d)) ∧ W = w')) := by
    by_cases h : d0 < 0
    · refine .inr ⟨h, fun W => ?_, fun W => ?_⟩
      · have := rNeg_any n0 W (by omega)
        rw [hn', if_pos h]; exact this
      · have := rNeg_any d0 W (by omega)
        rw [show -d0 = (d : Int) by omega, eb] at this; exact this
    · refine .inl ⟨by omega, by rw [hn', if_neg h], ?_⟩
      rw [show d0 = (d : Int) by omega, eb]
  have HSG0 : Hid (∀ W, Calls Tryz.prog 94 #[.string (intB d0)] W fun e w' => e = .returned (.int .i64 (Int.sign d0)) ∧ W = w') := fun W => rSign_any d0 W
  have hgc := fun W (hW : Ext w W) => rGcdG_any n (d : Int) W hn (by rw [eb]; exact hd) (ht.ext hW)
  have hg0 : 0 < Nat.gcd n.natAbs d := Nat.gcd_pos_of_pos_right _ hd0
  have hgd : Nat.gcd n.natAbs d ≤ d := Nat.le_of_dvd hd0 (Nat.gcd_dvd_right _ _)
  have hm := mkRat_parts n d (by omega)
  rw [show ((d : Int)).natAbs = d from rfl] at hgc
  obtain ⟨g, hg⟩ : ∃ g, g = Nat.gcd n.natAbs d := ⟨_, rfl⟩
  rw [← hg] at hg0 hgd hm
  simp only [← hg] at hgc
  have h1 := fun W (hW : Ext w W) => rDivModG_any n (g : Int) W hn (by rw [eb]; exact Nat.le_trans (num_le_mono hgd) hd) (by omega) (ht.ext hW)
  have h2 := fun W (hW : Ext w W) => rDivModG_any (d : Int) (g : Int) W (by rw [eb]; exact hd) (by rw [eb]; exact Nat.le_trans (num_le_mono hgd) hd) (by omega) (ht.ext hW)
  have e1 : fdq n (g : Int) = (mkRat n d).num := by rw [hm.1, fdq_pos _ _ (by omega)]
  have e2 : fdq (d : Int) (g : Int) = ((mkRat n d).den : Int) := by rw [hm.2, fdq_pos _ _ (by omega)]; rfl
  simp only [e1, eb] at h1
  simp only [e2, eb] at h2
  simp only [eb] at hgc
  have HGC := Lib.hid hgc; have H1 := Lib.hid h1; have H2 := Lib.hid h2
  obtain ⟨q, hq⟩ : ∃ q, q = mkRat n d := ⟨_, rfl⟩
  rw [← hq] at H1 H2 ⊢
  obtain ⟨W1, hW1, hE1, hs1, hb1⟩ := box2 w (.string ⟨#[]⟩) (.string ⟨#[]⟩) 81
  have HE1 := Lib.hid hE1
  have HB1 : Hid (∀ W, Ext W1 W → BlkR w.heap.size W) := fun W hW => BlkR.ext ⟨_, _, hb1⟩ hW
  clear hgc h1 h2 e1 e2 hm hq hg ht hE1 hs1 hb1 hn hd hn' hd' hq0 hn0 hdz
  rcases hcs with ⟨hp, i1, i2⟩ | ⟨hp, i1, i2⟩
  case' inl =>
    rw [Int.sign_eq_one_of_pos hp, i2] at HSG0
    rw [i1, i2]
    clear hp i1 i2 hz hd0 hg0 hgd
    go_enter Tryz.func62, Tryz.ntmps62
    go_wp2_with fail
    refine (HSG0.out _).mono ?_
    rintro e w2 ⟨rfl, rfl⟩
    go_wp2_with fail
  case' inr =>
    rw [Int.sign_eq_neg_one_of_neg hp] at HSG0
    have HI1 := Lib.hid i1; have HI2 := Lib.hid i2
    clear hp i1 i2 hz hd0 hg0 hgd
    go_enter Tryz.func62, Tryz.ntmps62
    go_wp2_with fail
    refine (HSG0.out _).mono ?_
    rintro e w2 ⟨rfl, rfl⟩
    go_wp2_with fail
    refine (HI1.out _).mono ?_
    rintro e w2 ⟨rfl, rfl⟩
    go_wp2_with fail
    refine (HI2.out _).mono ?_
    rintro e w2 ⟨rfl, rfl⟩
    go_wp2_with fail
  all_goals
    refine (HGC.out _ HE1.out).mono ?_
    rintro e w3 ⟨rfl, hE3⟩
    have HE3 := Lib.hid (Ext.trans HE1.out hE3)
    have HR3 := Lib.hid hE3
    clear hE3 HGC
    go_wp2_with fail
    refine (H1.out _ HE3.out).mono ?_
    rintro e w4 ⟨rfl, hE4⟩
    have HE4 := Lib.hid (Ext.trans HE3.out hE4)
    have HR4 := Lib.hid (Ext.trans HR3.out hE4)
    clear hE4 H1
    go_wp2_with fail
    refine (H2.out _ HE4.out).mono ?_
    rintro e w5 ⟨rfl, hE5⟩
    have HE5 := Lib.hid (Ext.trans HE4.out hE5)
    have HBR := Lib.hid (HB1.out _ (Ext.trans HR4.out hE5))
    obtain ⟨x0, x1, s0, s1, f0, f1⟩ := HBR.out.open
    have HFB : Hid (BoxQ ((w5.setCell ⟨w.heap.size, 0, none⟩ (.string (intB q.num))).setCell ⟨w.heap.size, 1, none⟩ (.string (numB q.den))) w.heap.size q) := HBR.out.res
    have HFX : Hid (Ext w ((w5.setCell ⟨w.heap.size, 0, none⟩ (.string (intB q.num))).setCell ⟨w.heap.size, 1, none⟩ (.string (numB q.den)))) := ext_set2 HE5.out (Nat.le_refl _)
    clear hE5 H2
    go_wp2_with fail
    refine bodyPost_ret (results_cell_row (by rfl) _ _ w.heap.size 81 #[.string (intB q.num), .string (numB q.den)] (0, 0) _ (by rfl) HFB.out Tryz.underlying81 (by rfl) (by kernel_rfl)) (by rfl) ⟨rfl, HFX.out⟩

end Go.Proofs.YtpeinobepiodaaaGreatDoor
