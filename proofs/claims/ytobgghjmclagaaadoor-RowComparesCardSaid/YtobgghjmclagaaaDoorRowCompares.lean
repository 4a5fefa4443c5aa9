/- The walk of RowCompares. -/
import Derived.Test.YtobgghjmclagaaaDoorRowE
import Derived.Test.YtobgghjmclagaaaDoorKnownR
namespace Go.Proofs.YtobgghjmclagaaaDoor
set_option linter.unusedVariables false
set_option linter.unusedSimpArgs false
open Go.RowKit

set_option maxRecDepth 100000 in
set_option maxHeartbeats 2000000 in
theorem compares_walk (xs ys : List Int) (u v : Value) (w : World) (h : Ints w u xs) (k : Ints w v ys) (ht : Pow10 w) :
    Calls Tryd.prog 10 #[u, v] w fun e w' => e = .returned (.bool true) ∧ Ext w w' := by
  have HX := Lib.hid h; have HY := Lib.hid k; have HT := Lib.hid ht
  obtain ⟨a, c, rfl, -, -, -, -, -⟩ := h.open
  obtain ⟨a', c', rfl, -, -, -, -, -⟩ := k.open
  clear h k ht
  by_cases hl : 80 < xs.length ∨ 80 < ys.length
  · by_cases h1 : 80 < xs.length
    · have q1 : (80 : Int) < (xs.length : Int) := by omega
      clear hl
      go_enter Tryd.func10, Tryd.ntmps10
      go_wp2_with fail
      refine (known_any _ HT.out).mono ?_
      rintro e w1 ⟨rfl, hE1⟩
      have HE1 := Lib.hid hE1
      have HT1 := Lib.hid (HT.out.ext hE1)
      clear hE1
      go_wp2_with fail
      refine (known_any _ HT1.out).mono ?_
      rintro e w2 ⟨rfl, hE2⟩
      have HE2 := Lib.hid (Ext.trans HE1.out hE2)
      clear hE2
      go_wp2_with fail
      go_ret
      exact ⟨rfl, HE2.out⟩
    · have q1 : ¬ (80 : Int) < (xs.length : Int) := by omega
      have q2 : (80 : Int) < (ys.length : Int) := by omega
      clear hl
      go_enter Tryd.func10, Tryd.ntmps10
      go_wp2_with fail
      refine (known_any _ HT.out).mono ?_
      rintro e w1 ⟨rfl, hE1⟩
      have HE1 := Lib.hid hE1
      have HT1 := Lib.hid (HT.out.ext hE1)
      clear hE1
      go_wp2_with fail
      refine (known_any _ HT1.out).mono ?_
      rintro e w2 ⟨rfl, hE2⟩
      have HE2 := Lib.hid (Ext.trans HE1.out hE2)
      clear hE2
      go_wp2_with fail
      go_ret
      exact ⟨rfl, HE2.out⟩
  · have q1 : ¬ (80 : Int) < (xs.length : Int) := by omega
    have q2 : ¬ (80 : Int) < (ys.length : Int) := by omega
    clear hl
    go_enter Tryd.func10, Tryd.ntmps10
    go_wp2_with fail
    refine (known_any _ HT.out).mono ?_
    rintro e w1 ⟨rfl, hE1⟩
    have HE1 := Lib.hid hE1
    have A1 := Lib.hid (rowEqual_any xs ys _ _ w1 (HX.out.ext hE1) (HY.out.ext hE1))
    clear hE1
    go_wp2_with fail
    refine A1.out.mono ?_
    rintro e w2 ⟨rfl, hE2⟩
    have HE2 := Lib.hid (Ext.trans HE1.out hE2)
    have A2 := Lib.hid (refEqual_any xs ys _ _ w2 (HX.out.ext HE2.out) (HY.out.ext HE2.out))
    clear hE2 A1
    go_wp2_with fail
    refine A2.out.mono ?_
    rintro e w3 ⟨rfl, hE3⟩
    have HE3 := Lib.hid (Ext.trans HE2.out hE3)
    have A3 := Lib.hid (rowCompare_any xs ys _ _ w3 (HX.out.ext HE3.out) (HY.out.ext HE3.out))
    have A4 := Lib.hid (refCompare_any xs ys _ _ w3 (HX.out.ext HE3.out) (HY.out.ext HE3.out))
    clear hE3 A2
    go_wp2_with fail
    refine A3.out.mono ?_
    rintro e w' ⟨rfl, rfl⟩
    clear A3
    go_wp2_with fail
    refine A4.out.mono ?_
    rintro e w4 ⟨rfl, hE4⟩
    have HE4 := Lib.hid (Ext.trans HE3.out hE4)
    have A3 := Lib.hid (rowCompare_any ys xs _ _ w4 (HY.out.ext HE4.out) (HX.out.ext HE4.out))
    have A5 := Lib.hid (refCompare_any ys xs _ _ w4 (HY.out.ext HE4.out) (HX.out.ext HE4.out))
    clear hE4 A4
    go_wp2_with fail
    refine A3.out.mono ?_
    rintro e w' ⟨rfl, rfl⟩
    clear A3
    go_wp2_with fail
    refine A5.out.mono ?_
    rintro e w5 ⟨rfl, hE5⟩
    have HE5 := Lib.hid (Ext.trans HE4.out hE5)
    have A6 := Lib.hid (isZero_any xs _ w5 (HX.out.ext HE5.out))
    clear hE5 A5
    go_wp2_with fail
    refine A6.out.mono ?_
    rintro e w6 ⟨rfl, hE6⟩
    have HE6 := Lib.hid (Ext.trans HE5.out hE6)
    have A7 := Lib.hid (refIsZero_any xs _ w6 (HX.out.ext HE6.out))
    clear hE6 A6
    go_wp2_with fail
    refine A7.out.mono ?_
    rintro e w' ⟨rfl, rfl⟩
    clear A7
    go_wp2_with fail
    go_ret
    exact ⟨rfl, HE6.out⟩
end Go.Proofs.YtobgghjmclagaaaDoor
