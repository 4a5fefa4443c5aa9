/- The walk of RowUnits. -/
import Derived.Test.YtobgghjmclagaaaDoorRowF
import Derived.Test.YtobgghjmclagaaaDoorKnownR
import Derived.Test.YtobgghjmclagaaaDoorRefA
namespace Go.Proofs.YtobgghjmclagaaaDoor
set_option linter.unusedVariables false
set_option linter.unusedSimpArgs false
open Go.RowKit

set_option maxRecDepth 100000 in
set_option maxHeartbeats 2000000 in
theorem units_walk (n i : Int) (w : World) (hn : -9223372036854775808 ≤ n ∧ n ≤ 9223372036854775807) (hi : -9223372036854775808 ≤ i ∧ i ≤ 9223372036854775807) (ht : Pow10 w) :
    Calls Tryd.prog 5 #[.int .i64 n, .int .i64 i] w fun e w' => e = .returned (.bool true) ∧ Ext w w' := by
  have HT := Lib.hid ht
  clear ht
  by_cases hbad : n < 0 ∨ 64 < n
  · have HB := Lib.hid hbad
    by_cases h1 : n < 0
    · clear hbad
      go_enter Tryd.func5, Tryd.ntmps5
      go_wp2_with fail
      refine (known_any _ HT.out).mono ?_
      rintro e w1 ⟨rfl, hE1⟩
      have HE1 := Lib.hid hE1
      clear hE1
      go_wp2_with fail
      refine (zero_bad n w1 HB.out).mono ?_
      rintro e w' ⟨rfl, rfl⟩
      go_wp2_with fail
      refine (unit_bad n i w1 HB.out).mono ?_
      rintro e w' ⟨rfl, rfl⟩
      go_wp2_with fail
      go_ret
      exact ⟨rfl, HE1.out⟩
    · have h2 : 64 < n := by omega
      clear hbad
      go_enter Tryd.func5, Tryd.ntmps5
      go_wp2_with fail
      refine (known_any _ HT.out).mono ?_
      rintro e w1 ⟨rfl, hE1⟩
      have HE1 := Lib.hid hE1
      clear hE1
      go_wp2_with fail
      refine (zero_bad n w1 HB.out).mono ?_
      rintro e w' ⟨rfl, rfl⟩
      go_wp2_with fail
      refine (unit_bad n i w1 HB.out).mono ?_
      rintro e w' ⟨rfl, rfl⟩
      go_wp2_with fail
      go_ret
      exact ⟨rfl, HE1.out⟩
  · obtain ⟨m, rfl⟩ : ∃ m : Nat, n = m := ⟨n.toNat, by omega⟩
    have hm : m ≤ 64 := by omega
    have q1 : ¬ (m : Int) < 0 := by omega
    have q2 : ¬ (64 : Int) < (m : Int) := by omega
    have q3 : ((m : Int) != (m : Int)) = false := by simp
    have HR : Hid ((List.replicate m (0 : Int)).any (· != 0) = false) := by unfold Hid; simp
    have HM := Lib.hid hm
    have HBD : Hid (∀ x ∈ List.replicate m (0 : Int), -9223372036854775808 ≤ x ∧ x ≤ 9223372036854775807) := by intro x hx; rw [List.eq_of_mem_replicate hx]; omega
    clear hbad hn
    by_cases hib : i < 0 ∨ (m : Int) ≤ i
    · have HB := Lib.hid hib
      have hcase : i < 0 ∨ (¬ i < 0 ∧ (m : Int) ≤ i) := by omega
      clear hib
      rcases hcase with h1 | ⟨h1, h2⟩
      all_goals
        go_enter Tryd.func5, Tryd.ntmps5
        go_wp2_with fail
        refine (known_any _ HT.out).mono ?_
        rintro e w1 ⟨rfl, hE1⟩
        have HE1 := Lib.hid hE1
        clear hE1
        go_wp2_with fail
        refine (zero_any m w1 HM.out).mono ?_
        rintro e w2 ⟨rfl, hE2, hO⟩
        have HO := Lib.hid hO
        have HE2 := Lib.hid (Ext.trans HE1.out hE2)
        clear hE2 hO
        go_wp2_with fail
        refine (unit_none m i w2 HM.out HB.out).mono ?_
        rintro e w3 ⟨rfl, hE3⟩
        have HE3 := Lib.hid (Ext.trans HE2.out hE3)
        have HZ := Lib.hid (refIsZero_any _ _ w3 (OwnAt.ints (owns_ext HO.out hE3) (by simp) HBD.out))
        rw [HR.out] at HZ
        clear hE3
        go_wp2_with fail
        refine HZ.out.mono ?_
        rintro e w' ⟨rfl, rfl⟩
        clear HZ
        go_wp2_with fail
        go_ret
        exact ⟨rfl, HE3.out⟩
    · obtain ⟨k, rfl⟩ : ∃ k : Nat, i = k := ⟨i.toNat, by omega⟩
      have hk : k < m := by omega
      have q4 : ¬ (k : Int) < 0 := by omega
      have q5 : ¬ (m : Int) ≤ (k : Int) := by omega
      have HG : Hid (((List.replicate m (0 : Int)).set k 1)[k]? = some 1) := by unfold Hid; simp [hk]
      have HL : Hid (((List.replicate m (0 : Int)).set k 1).set k 0 = List.replicate m 0) := by unfold Hid; rw [List.set_set]; simp
      have HK := Lib.hid hk
      clear hib hi
      go_enter Tryd.func5, Tryd.ntmps5
      go_wp2_with fail
      refine (known_any _ HT.out).mono ?_
      rintro e w1 ⟨rfl, hE1⟩
      have HE1 := Lib.hid hE1
      clear hE1
      go_wp2_with fail
      refine (zero_any m w1 HM.out).mono ?_
      rintro e w2 ⟨rfl, hE2, hO⟩
      have HO := Lib.hid hO
      have HE2 := Lib.hid (Ext.trans HE1.out hE2)
      clear hE2 hO
      go_wp2_with fail
      refine (unit_any m k w2 HM.out HK.out).mono ?_
      rintro e w3 ⟨rfl, hE3, hU⟩
      have HZ := Lib.hid (refIsZero_any _ _ w3 (OwnAt.ints (owns_ext HO.out hE3) (by simp) HBD.out))
      rw [HR.out] at HZ
      obtain ⟨hc, hf⟩ := owns_cell hU HG.out
      have HS0 := owns_set hU k 0
      rw [HL.out] at HS0
      have HZ2 := Lib.hid (refIsZero_any _ _ _ (OwnAt.ints HS0 (by simp) HBD.out))
      rw [HR.out] at HZ2
      have HE3 := Lib.hid (Ext.trans HE2.out hE3)
      have HE4 := Lib.hid (Below.setCell HE3.out (p := ⟨w2.heap.size, k, none⟩) HE2.out.size (.int .i64 0))
      clear hE3 hU HS0
      go_wp2_with fail
      refine HZ.out.mono ?_
      rintro e w' ⟨rfl, rfl⟩
      clear HZ
      go_wp2_with fail
      refine HZ2.out.mono ?_
      rintro e w' ⟨rfl, rfl⟩
      clear HZ2
      go_wp2_with fail
      go_ret
      exact ⟨rfl, HE4.out⟩
end Go.Proofs.YtobgghjmclagaaaDoor
