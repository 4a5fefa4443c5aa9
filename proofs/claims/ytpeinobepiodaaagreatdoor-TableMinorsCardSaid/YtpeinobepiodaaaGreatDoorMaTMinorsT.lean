/- Merged: TMinorsT. -/
import Derived.Test.YtpeinobepiodaaaGreatDoorJA
import Derived.Test.YtpeinobepiodaaaGreatDoorGU
import Derived.Test.YtpeinobepiodaaaGreatDoorGO
/- The walk of TableMinors. -/
namespace Go.Proofs.YtpeinobepiodaaaGreatDoor
set_option linter.unusedVariables false
set_option linter.unusedSimpArgs false
open Go.RowKit

def fewB (n m k : Nat) : Bool := !(decide (k ≤ n) && decide (k ≤ m) && ((decide (n ≤ 4) && decide (m ≤ 5)) || (decide (12 ≤ n) && decide (m ≤ 2)) || decide (n ≤ 2))) || decide (chooseS n k * chooseS m k ≤ 1000)
theorem choose_fewB : ∀ n, n < 15 → ∀ m, m < 15 → ∀ k, k < 15 → fewB n m k = true := by decide +kernel
theorem choose_few (n : Nat) (hn : n < 15) (m : Nat) (hm : m < 15) (k : Nat) (hk : k < 15) (h1 : k ≤ n) (h2 : k ≤ m) (h : (n ≤ 4 ∧ m ≤ 5) ∨ (12 ≤ n ∧ m ≤ 2) ∨ n ≤ 2) : chooseS n k * chooseS m k ≤ 1000 := by
  have := choose_fewB n hn m hm k hk
  unfold fewB at this
  simp only [Bool.or_eq_true, Bool.not_eq_true', Bool.and_eq_false_iff, Bool.or_eq_false_iff, decide_eq_true_eq, decide_eq_false_iff_not] at this
  omega

theorem few_choose {xss : List (List Int)} (hf : fewP xss) (hE : tabE xss = 0) {k : Nat} (h1 : k ≤ xss.length) (h2 : k ≤ colsN xss) : chooseS xss.length k * chooseS (colsN xss) k ≤ 1000 := by
  obtain ⟨hl, hrr⟩ := tabE_zero hE
  have hc12 : colsN xss ≤ 12 := by
    cases xss with
    | nil => show 0 ≤ 12; omega
    | cons r l => exact (hrr r (by simp)).2.1
  refine choose_few _ (by omega) _ (by omega) _ (by omega) h1 h2 ?_
  have hm : colsN xss ≤ mostL xss := by
    cases xss with
    | nil => exact Nat.zero_le _
    | cons r l =>
      have key : ∀ (l : List (List Int)) (a : Nat), a ≤ l.foldl (fun m r => max m r.length) a := by
        intro l
        induction l with
        | nil => intro a; exact Nat.le_refl _
        | cons q l ih => intro a; exact Nat.le_trans (Nat.le_max_left _ _) (ih (max a q.length))
      exact Nat.le_trans (Nat.le_max_right 0 r.length) (key l _)
  unfold fewP at hf
  omega

set_option maxRecDepth 100000 in
set_option maxHeartbeats 4000000 in
theorem minors_walk (xss : List (List Int)) (kk : Int) (v : Value) (w : World) (h : Rows2 w v xss) (hkk : -9223372036854775808 ≤ kk ∧ kk ≤ 9223372036854775807) (ht : LibT w) :
    Calls Tryz.prog 4 #[v, .int .i64 kk] w fun e w' => e = .returned (.bool true) ∧ Ext w w' := by
  have HT := Lib.hid ht
  have HK : Hid (∀ W, Ext w W → Calls Tryz.prog 14 #[] W fun e w' => e = .returned (.bool true) ∧ Ext W w') := fun W hW => known_any W (HT.out.pow.ext hW)
  have HFA : Hid (∀ W, Ext w W → Calls Tryz.prog 15 #[v] W fun e w' => e = .returned (.bool (decide (fewP xss))) ∧ Ext W w') := fun W hW => few_any xss v W (h.ext hW)
  have HRC : Hid (∀ W, Ext w W → Calls Tryz.prog 18 #[v] W fun e w' => e = .returned (.int .i64 (tabE xss)) ∧ Ext W w') := fun W hW => refCheck_any xss v W (h.ext hW)
  have HCR : Hid (∀ W, Ext w W → Calls Tryz.prog 19 #[v] W fun e w' => e = .returned (.int .i64 (colsN xss : Int)) ∧ W = w') := fun W hW => refCols_any xss v W (h.ext hW)
  have HBAD : Hid (tabE xss ≠ 0 → ∀ W, Ext w W → Calls Tryz.prog 23 #[v, .int .i64 kk] W fun e w' => e = .returned (.tuple #[.slice none 0 0, .int .i64 (tabE xss)]) ∧ Ext W w') := fun hE W hW => minors_bad xss kk v W (h.ext hW) hE
  have HRNG : Hid (tabE xss = 0 → (kk < 0 ∨ (xss.length : Int) < kk ∨ (colsN xss : Int) < kk) → ∀ W, Ext w W → Calls Tryz.prog 23 #[v, .int .i64 kk] W fun e w' => e = .returned (.tuple #[.slice none 0 0, .int .i64 3]) ∧ Ext W w') := fun hE hk W hW => minors_range xss kk v W (h.ext hW) hE hk
  have HMI : Hid (fewP xss → tabE xss = 0 → ∀ k : Nat, kk = (k : Int) → k ≤ xss.length → k ≤ colsN xss → ∀ W, Ext w W → Calls Tryz.prog 23 #[v, .int .i64 kk] W fun e w' => ∃ r, e = .returned (.tuple #[r, .int .i64 0]) ∧ ListAt 1 numC w' r (minorsS xss k) ∧ Ext W w') := fun hf hE k hk k1 k2 W hW => by
    subst hk
    exact minors_any xss k v W (h.ext hW) hE k1 k2 (few_choose hf hE k1 k2) (minors_small hE k1 k2) (HT.out.pow.ext hW)
  have HRM : Hid (tabE xss = 0 → ∀ k : Nat, kk = (k : Int) → k ≤ xss.length → k ≤ colsN xss → ∀ W, Ext w W → Calls Tryz.prog 25 #[v, .int .i64 kk] W fun e w' => ∃ u, e = .returned u ∧ ListAt 1 numC w' u (minorsS xss k) ∧ Ext W w') := fun hE k hk k1 k2 W hW => by
    subst hk
    exact refMinors_any xss k v W (h.ext hW) hE k1 k2 (HT.out.pow.ext hW)
  have HSI : Hid (∀ (l : List Int) u u' W, ListAt 1 numC W u l → ListAt 1 numC W u' l → Calls Tryz.prog 24 #[u, u'] W fun e w' => e = .returned (.bool true) ∧ Ext W w') := fun l u u' W h1 h2 => sameInts_any l u u' W h1 h2
  obtain ⟨a, c, rfl, p1, p2, -, -⟩ := inCell.open h
  unfold maxLen at p2
  by_cases hf : fewP xss
  case' pos => have HMI2 := Lib.hid (HMI.out hf)
  case' pos => rw [decide_eq_true hf] at HFA
  case' neg => rw [decide_eq_false hf] at HFA
  all_goals
    clear HMI hf
    obtain ⟨EX, hEX⟩ : ∃ p, p = tabE xss := ⟨_, rfl⟩
    rw [← hEX] at HRC HBAD HRNG HRM
    try rw [← hEX] at HMI2
    obtain ⟨n, hn⟩ : ∃ n, n = xss.length := ⟨_, rfl⟩
    rw [← hn] at HFA HRC HCR HBAD HRNG HRM p1 ⊢
    try rw [← hn] at HMI2
    obtain ⟨m, hm⟩ : ∃ n, n = colsN xss := ⟨_, rfl⟩
    rw [← hm] at HCR HRNG HRM
    try rw [← hm] at HMI2
    clear h ht hEX hn hm
  case neg =>
    go_enter Tryz.func4, Tryz.ntmps4
    go_wp2_with fail
    refine (HK.out _ (Ext.refl _)).mono ?_
    rintro e w1 ⟨rfl, hE1⟩
    have HE1 := Lib.hid (hE1)
    clear hE1
    go_wp2_with fail
    refine (HFA.out _ HE1.out).mono ?_
    rintro e w2 ⟨rfl, hE2⟩
    have HE2 := Lib.hid (HE1.out.trans hE2)
    clear hE2
    go_wp2_with fail
    refine (HK.out _ HE2.out).mono ?_
    rintro e w3 ⟨rfl, hE3⟩
    have HE3 := Lib.hid (HE2.out.trans hE3)
    clear hE3
    go_wp2_with fail
    go_ret
    exact ⟨rfl, HE3.out⟩
  case pos =>
    have x4 : (EX == EX) = true := by simp
    by_cases hE : EX = 0
    · have HRNG2 := Lib.hid (HRNG.out hE); have HRM2 := Lib.hid (HRM.out hE); have HMI3 := Lib.hid (HMI2.out hE)
      clear HBAD HRNG HRM HMI2
      subst hE
      by_cases hk : kk < 0 ∨ (n : Int) < kk ∨ (m : Int) < kk
      · have HR := Lib.hid (HRNG2.out hk)
        clear HRNG2 HRM2 HMI3
        by_cases q0 : kk < 0
        · have z0 := decide_eq_true q0
          clear hk
          go_enter Tryz.func4, Tryz.ntmps4
          go_wp2_with fail
          refine (HK.out _ (Ext.refl _)).mono ?_
          rintro e w1 ⟨rfl, hE1⟩
          have HE1 := Lib.hid (hE1)
          clear hE1
          go_wp2_with fail
          refine (HFA.out _ HE1.out).mono ?_
          rintro e w2 ⟨rfl, hE2⟩
          have HE2 := Lib.hid (HE1.out.trans hE2)
          clear hE2
          go_wp2_with fail
          refine (HR.out _ HE2.out).mono ?_
          rintro e w3 ⟨rfl, hE3⟩
          have HE3 := Lib.hid (HE2.out.trans hE3)
          clear hE3
          go_wp2_with fail
          refine (HRC.out _ HE3.out).mono ?_
          rintro e w4 ⟨rfl, hE4⟩
          have HE4 := Lib.hid (HE3.out.trans hE4)
          clear hE4
          go_wp2_with fail
          go_ret
          exact ⟨rfl, HE4.out⟩
        · have z0 := decide_eq_false q0
          by_cases q1 : (n : Int) < kk
          · have z1 := decide_eq_true q1
            clear hk
            go_enter Tryz.func4, Tryz.ntmps4
            go_wp2_with fail
            refine (HK.out _ (Ext.refl _)).mono ?_
            rintro e w1 ⟨rfl, hE1⟩
            have HE1 := Lib.hid (hE1)
            clear hE1
            go_wp2_with fail
            refine (HFA.out _ HE1.out).mono ?_
            rintro e w2 ⟨rfl, hE2⟩
            have HE2 := Lib.hid (HE1.out.trans hE2)
            clear hE2
            go_wp2_with fail
            refine (HR.out _ HE2.out).mono ?_
            rintro e w3 ⟨rfl, hE3⟩
            have HE3 := Lib.hid (HE2.out.trans hE3)
            clear hE3
            go_wp2_with fail
            refine (HRC.out _ HE3.out).mono ?_
            rintro e w4 ⟨rfl, hE4⟩
            have HE4 := Lib.hid (HE3.out.trans hE4)
            clear hE4
            go_wp2_with fail
            go_ret
            exact ⟨rfl, HE4.out⟩
          · have z1 := decide_eq_false q1
            have q2 : (m : Int) < kk := by omega
            have z2 := decide_eq_true q2
            clear hk
            go_enter Tryz.func4, Tryz.ntmps4
            go_wp2_with fail
            refine (HK.out _ (Ext.refl _)).mono ?_
            rintro e w1 ⟨rfl, hE1⟩
            have HE1 := Lib.hid (hE1)
            clear hE1
            go_wp2_with fail
            refine (HFA.out _ HE1.out).mono ?_
            rintro e w2 ⟨rfl, hE2⟩
            have HE2 := Lib.hid (HE1.out.trans hE2)
            clear hE2
            go_wp2_with fail
            refine (HR.out _ HE2.out).mono ?_
            rintro e w3 ⟨rfl, hE3⟩
            have HE3 := Lib.hid (HE2.out.trans hE3)
            clear hE3
            go_wp2_with fail
            refine (HRC.out _ HE3.out).mono ?_
            rintro e w4 ⟨rfl, hE4⟩
            have HE4 := Lib.hid (HE3.out.trans hE4)
            clear hE4
            go_wp2_with fail
            refine (HCR.out _ HE4.out).mono ?_
            rintro e w5 ⟨rfl, rfl⟩
            have HE5 := HE4
            go_wp2_with fail
            go_ret
            exact ⟨rfl, HE5.out⟩
      · obtain ⟨k, rfl⟩ : ∃ k : Nat, kk = (k : Int) := ⟨kk.toNat, by omega⟩
        have HMI4 := Lib.hid (HMI3.out k rfl (by omega) (by omega)); have HRM4 := Lib.hid (HRM2.out k rfl (by omega) (by omega))
        have q0 : ¬ (k : Int) < 0 := by omega
        have q1 : ¬ (n : Int) < (k : Int) := by omega
        have q2 : ¬ (m : Int) < (k : Int) := by omega
        have z0 := decide_eq_false q0; have z1 := decide_eq_false q1; have z2 := decide_eq_false q2
        have z5 : decide (n < k) = false := by rw [decide_eq_false_iff_not]; omega
        have z6 : decide (m < k) = false := by rw [decide_eq_false_iff_not]; omega
        clear hk HRNG2 HRM2 HMI3 hkk
        obtain ⟨L, hL⟩ : ∃ L, L = minorsS xss k := ⟨_, rfl⟩
        rw [← hL] at HMI4 HRM4
        clear hL
        go_enter Tryz.func4, Tryz.ntmps4
        go_wp2_with fail
        refine (HK.out _ (Ext.refl _)).mono ?_
        rintro e w1 ⟨rfl, hE1⟩
        have HE1 := Lib.hid (hE1)
        clear hE1
        go_wp2_with fail
        refine (HFA.out _ HE1.out).mono ?_
        rintro e w2 ⟨rfl, hE2⟩
        have HE2 := Lib.hid (HE1.out.trans hE2)
        clear hE2
        go_wp2_with fail
        refine (HMI4.out _ HE2.out).mono ?_
        rintro e w3 ⟨u, rfl, hu, hE3⟩
        have HU := Lib.hid hu
        have HE3 := Lib.hid (HE2.out.trans hE3)
        obtain ⟨au, cu, rfl, -⟩ := ListAt.open hu
        clear hE3 hu
        go_wp2_with fail
        refine (HRC.out _ HE3.out).mono ?_
        rintro e w4 ⟨rfl, hE4⟩
        have HE4 := Lib.hid (HE3.out.trans hE4)
        have HE34 := Lib.hid hE4
        clear hE4
        go_wp2_with fail
        refine (HCR.out _ HE4.out).mono ?_
        rintro e w5 ⟨rfl, rfl⟩
        have HE5 := HE4
        go_wp2_with fail
        refine (HRM4.out _ HE5.out).mono ?_
        rintro e w6 ⟨u', rfl, hu', hE6⟩
        have HU2 := Lib.hid hu'
        have HU6 := Lib.hid (ListAt.ext numC.mono HU.out (Ext.trans HE34.out hE6))
        have HE6 := Lib.hid (HE5.out.trans hE6)
        clear hE6 hu'
        go_wp2_with fail
        refine (HSI.out _ _ _ _ HU6.out HU2.out).mono ?_
        rintro e w7 ⟨rfl, hE7⟩
        have HE7 := Lib.hid (HE6.out.trans hE7)
        clear hE7
        go_wp2_with fail
        go_ret
        exact ⟨rfl, HE7.out⟩
    · have HB1 := Lib.hid (HBAD.out hE)
      clear HBAD HRNG HRM HMI2
      have x6 : (EX != 0) = true := by rw [bne_iff_ne]; exact hE
      have x7 : (EX == 0) = false := by rw [beq_eq_false_iff_ne]; exact hE
      clear hE
      go_enter Tryz.func4, Tryz.ntmps4
      go_wp2_with fail
      refine (HK.out _ (Ext.refl _)).mono ?_
      rintro e w1 ⟨rfl, hE1⟩
      have HE1 := Lib.hid (hE1)
      clear hE1
      go_wp2_with fail
      refine (HFA.out _ HE1.out).mono ?_
      rintro e w2 ⟨rfl, hE2⟩
      have HE2 := Lib.hid (HE1.out.trans hE2)
      clear hE2
      go_wp2_with fail
      refine (HB1.out _ HE2.out).mono ?_
      rintro e w3 ⟨rfl, hE3⟩
      have HE3 := Lib.hid (HE2.out.trans hE3)
      clear hE3
      go_wp2_with fail
      refine (HRC.out _ HE3.out).mono ?_
      rintro e w4 ⟨rfl, hE4⟩
      have HE4 := Lib.hid (HE3.out.trans hE4)
      clear hE4
      go_wp2_with fail
      go_ret
      exact ⟨rfl, HE4.out⟩
end Go.Proofs.YtpeinobepiodaaaGreatDoor
