/- Merged: TChecksT. -/
import Derived.Test.YtpeinobepiodaaaGreatDoorIG
import Derived.Test.YtpeinobepiodaaaGreatDoorIF
import Derived.Test.YtpeinobepiodaaaGreatDoorGW
import Derived.Test.YtpeinobepiodaaaGreatDoorGO
/- The walk of TableChecks. -/
namespace Go.Proofs.YtpeinobepiodaaaGreatDoor
set_option linter.unusedVariables false
set_option linter.unusedSimpArgs false
open Go.RowKit

set_option maxRecDepth 100000 in
set_option maxHeartbeats 4000000 in
theorem checks_walk (xss yss : List (List Int)) (v vy : Value) (w : World) (h : Rows2 w v xss) (hy : Rows2 w vy yss) (ht : LibT w) :
    Calls Tryz.prog 11 #[v, vy] w fun e w' => e = .returned (.bool true) ∧ Ext w w' := by
  have HT := Lib.hid ht
  have HV := Lib.hid h
  have HK : Hid (∀ W, Ext w W → Calls Tryz.prog 14 #[] W fun e w' => e = .returned (.bool true) ∧ Ext W w') := fun W hW => known_any W (HT.out.pow.ext hW)
  have HFA : Hid (∀ W, Ext w W → Calls Tryz.prog 15 #[v] W fun e w' => e = .returned (.bool (decide (fewP xss))) ∧ Ext W w') := fun W hW => few_any xss v W (h.ext hW)
  have HFB : Hid (∀ W, Ext w W → Calls Tryz.prog 15 #[vy] W fun e w' => e = .returned (.bool (decide (fewP yss))) ∧ Ext W w') := fun W hW => few_any yss vy W (hy.ext hW)
  have HRC : Hid (∀ W, Ext w W → Calls Tryz.prog 18 #[v] W fun e w' => e = .returned (.int .i64 (tabE xss)) ∧ Ext W w') := fun W hW => refCheck_any xss v W (h.ext hW)
  have HTC : Hid (∀ W, Ext w W → Calls Tryz.prog 41 #[v] W fun e w' => e = .returned (.int .i64 (tabE xss)) ∧ Ext W w') := fun W hW => tabCheck_any xss v W (h.ext hW)
  have HQ1 : Hid (∀ W, Ext w W → Calls Tryz.prog 42 #[v, vy] W fun e w' => e = .returned (.bool (xss == yss)) ∧ Ext W w') := fun W hW => tabEqual_any xss yss v vy W (h.ext hW) (hy.ext hW)
  have HQ2 : Hid (∀ W, Ext w W → Calls Tryz.prog 32 #[v, vy] W fun e w' => e = .returned (.bool (xss == yss)) ∧ Ext W w') := fun W hW => refEqual6_any xss yss v vy W (h.ext hW) (hy.ext hW)
  have HQ3 : Hid (∀ W, Ext w W → Calls Tryz.prog 42 #[v, v] W fun e w' => e = .returned (.bool true) ∧ Ext W w') := fun W hW => by have := tabEqual_any xss xss v v W (h.ext hW) (h.ext hW); rw [beq_self_eq_true] at this; exact this
  have HCT : Hid (∀ W, Ext w W → Calls Tryz.prog 43 #[v] W fun e w' => e = .returned (.int .i64 (colsN xss : Int)) ∧ W = w') := fun W hW => columns_any xss v W (h.ext hW)
  have HCR : Hid (∀ W, Ext w W → Calls Tryz.prog 19 #[v] W fun e w' => e = .returned (.int .i64 (colsN xss : Int)) ∧ W = w') := fun W hW => refCols_any xss v W (h.ext hW)
  have HBAD : Hid (tabE xss ≠ 0 → ∀ W, Ext w W → Calls Tryz.prog 34 #[v] W fun e w' => e = .returned (.tuple #[.slice none 0 0, .int .i64 (tabE xss)]) ∧ Ext W w') := fun hE W hW => tTrans_bad xss v W (h.ext hW) hE
  have HBAR : Hid (tabE xss ≠ 0 → ∀ W, Ext w W → Calls Tryz.prog 35 #[v] W fun e w' => e = .returned (.tuple #[.int .i64 0, .int .i64 (tabE xss)]) ∧ Ext W w') := fun hE W hW => rank_bad xss v W (h.ext hW) hE
  have HTT : Hid (tabE xss = 0 → ∀ W, Ext w W → Calls Tryz.prog 34 #[v] W fun e w' => ∃ u, e = .returned (.tuple #[u, .int .i64 0]) ∧ Rows2 w' u (transL xss) ∧ Ext W w') := fun hE W hW => (tTrans_any xss v W (h.ext hW) hE).mono fun _ _ ⟨u, g1, g2, g3⟩ => ⟨u, g1, g2.list, g3⟩
  have HRT : Hid (tabE xss = 0 → ∀ W, Ext w W → Calls Tryz.prog 44 #[v] W fun e w' => ∃ u, e = .returned u ∧ Rows2 w' u (transL xss) ∧ Ext W w') := fun hE W hW => by
    obtain ⟨hl, hrr⟩ := tabE_zero hE
    have hc : colsN xss ≤ 12 := by
      cases hx : xss with
      | nil => show 0 ≤ 12; omega
      | cons r l => exact (hrr r (by rw [hx]; simp)).2.1
    exact (refTrans_any xss v W (h.ext hW) (fun r hr => (hrr r hr).1) (fun r hr => (hrr r hr).2.2) (by omega) (by omega)).mono fun _ _ ⟨u, g1, g2, g3⟩ => ⟨u, g1, g2.list, g3⟩
  have HTR : Hid (tabE xss = 0 → ∀ W, Ext w W → Calls Tryz.prog 35 #[v] W fun e w' => e = .returned (.tuple #[.int .i64 (rankI xss : Int), .int .i64 0]) ∧ Ext W w') := fun hE W hW => rankA_any xss v W (h.ext hW) hE (HT.out.pow.ext hW)
  have HRR : Hid (tabE xss = 0 → ∀ W, Ext w W → Calls Tryz.prog 45 #[v] W fun e w' => e = .returned (.int .i64 (rankI xss : Int)) ∧ Ext W w') := fun hE W hW => refRank_any xss v W (h.ext hW) hE (HT.out.pow.ext hW)
  have HEQ : Hid (∀ u u' W, Rows2 W u (transL xss) → Rows2 W u' (transL xss) → Calls Tryz.prog 32 #[u, u'] W fun e w' => e = .returned (.bool true) ∧ Ext W w') := fun u u' W h1 h2 => by have := refEqual6_any _ _ u u' W h1 h2; rw [beq_self_eq_true] at this; exact this
  obtain ⟨fa, hfa⟩ : ∃ b, b = decide (fewP xss) := ⟨_, rfl⟩
  obtain ⟨fb, hfb⟩ : ∃ b, b = decide (fewP yss) := ⟨_, rfl⟩
  rw [← hfa] at HFA
  rw [← hfb] at HFB
  obtain ⟨EX, hEX⟩ : ∃ p, p = tabE xss := ⟨_, rfl⟩
  rw [← hEX] at HRC HTC HBAD HBAR HTT HRT HTR HRR
  obtain ⟨q, hq⟩ : ∃ q, q = (xss == yss) := ⟨_, rfl⟩
  rw [← hq] at HQ1 HQ2
  obtain ⟨n, hn⟩ : ∃ n, n = colsN xss := ⟨_, rfl⟩
  rw [← hn] at HCT HCR
  obtain ⟨rk, hrk⟩ : ∃ n, n = rankI xss := ⟨_, rfl⟩
  rw [← hrk] at HTR HRR
  clear h hy ht hfa hfb hEX hq hn hrk
  cases fa with
  | false =>
    go_enter Tryz.func11, Tryz.ntmps11
    go_wp2_with fail
    refine (HK.out _ (Ext.refl _)).mono ?_
    rintro e w1 ⟨rfl, hE1⟩
    have HE1 := Lib.hid (hE1)
    clear hE1
    go_wp2_with fail
    refine (HFA.out _ HE1.out).mono ?_
    rintro e w2 ⟨rfl, hE2⟩
    have HE2 := Lib.hid (HE1.out.trans hE2)
    clear hE2
    go_wp2_with fail
    refine (HK.out _ HE2.out).mono ?_
    rintro e w3 ⟨rfl, hE3⟩
    have HE3 := Lib.hid (HE2.out.trans hE3)
    clear hE3
    go_wp2_with fail
    go_ret
    exact ⟨rfl, HE3.out⟩
  | true =>
    cases fb with
    | false =>
      go_enter Tryz.func11, Tryz.ntmps11
      go_wp2_with fail
      refine (HK.out _ (Ext.refl _)).mono ?_
      rintro e w1 ⟨rfl, hE1⟩
      have HE1 := Lib.hid (hE1)
      clear hE1
      go_wp2_with fail
      refine (HFA.out _ HE1.out).mono ?_
      rintro e w2 ⟨rfl, hE2⟩
      have HE2 := Lib.hid (HE1.out.trans hE2)
      clear hE2
      go_wp2_with fail
      refine (HFB.out _ HE2.out).mono ?_
      rintro e w3 ⟨rfl, hE3⟩
      have HE3 := Lib.hid (HE2.out.trans hE3)
      clear hE3
      go_wp2_with fail
      refine (HK.out _ HE3.out).mono ?_
      rintro e w4 ⟨rfl, hE4⟩
      have HE4 := Lib.hid (HE3.out.trans hE4)
      clear hE4
      go_wp2_with fail
      go_ret
      exact ⟨rfl, HE4.out⟩
    | true =>
      have x1 : (EX != EX) = false := by simp
      have x2 : (q != q) = false := by simp
      have x3 : ((n : Int) != (n : Int)) = false := by simp
      have x4 : (EX == EX) = true := by simp
      have x5 : ((rk : Int) == (rk : Int)) = true := by simp
      by_cases hE : EX = 0
      · have HTT2 := Lib.hid (HTT.out hE); have HRT2 := Lib.hid (HRT.out hE); have HTR2 := Lib.hid (HTR.out hE); have HRR2 := Lib.hid (HRR.out hE)
        clear HTT HRT HTR HRR HBAD HBAR
        subst hE
        go_enter Tryz.func11, Tryz.ntmps11
        go_wp2_with fail
        refine (HK.out _ (Ext.refl _)).mono ?_
        rintro e w1 ⟨rfl, hE1⟩
        have HE1 := Lib.hid (hE1)
        clear hE1
        go_wp2_with fail
        refine (HFA.out _ HE1.out).mono ?_
        rintro e w2 ⟨rfl, hE2⟩
        have HE2 := Lib.hid (HE1.out.trans hE2)
        clear hE2
        go_wp2_with fail
        refine (HFB.out _ HE2.out).mono ?_
        rintro e w3 ⟨rfl, hE3⟩
        have HE3 := Lib.hid (HE2.out.trans hE3)
        clear hE3
        go_wp2_with fail
        refine (HRC.out _ HE3.out).mono ?_
        rintro e w4 ⟨rfl, hE4⟩
        have HE4 := Lib.hid (HE3.out.trans hE4)
        clear hE4
        go_wp2_with fail
        refine (HTC.out _ HE4.out).mono ?_
        rintro e w5 ⟨rfl, hE5⟩
        have HE5 := Lib.hid (HE4.out.trans hE5)
        clear hE5
        go_wp2_with fail
        refine (HQ1.out _ HE5.out).mono ?_
        rintro e w6 ⟨rfl, hE6⟩
        have HE6 := Lib.hid (HE5.out.trans hE6)
        clear hE6
        go_wp2_with fail
        refine (HQ2.out _ HE6.out).mono ?_
        rintro e w7 ⟨rfl, hE7⟩
        have HE7 := Lib.hid (HE6.out.trans hE7)
        clear hE7
        go_wp2_with fail
        refine (HQ3.out _ HE7.out).mono ?_
        rintro e w8 ⟨rfl, hE8⟩
        have HE8 := Lib.hid (HE7.out.trans hE8)
        clear hE8
        go_wp2_with fail
        refine (HCT.out _ HE8.out).mono ?_
        rintro e w9 ⟨rfl, rfl⟩
        have HE9 := HE8
        go_wp2_with fail
        refine (HCR.out _ HE9.out).mono ?_
        rintro e w10 ⟨rfl, rfl⟩
        have HE10 := HE9
        go_wp2_with fail
        refine (HTT2.out _ HE10.out).mono ?_
        rintro e w11 ⟨u, rfl, hu, hE11⟩
        have HU := Lib.hid hu
        have HE11 := Lib.hid (HE10.out.trans hE11)
        obtain ⟨au, cu, rfl, -⟩ := inCell.open hu
        clear hE11 hu
        go_wp2_with fail
        refine (HTR2.out _ HE11.out).mono ?_
        rintro e w12 ⟨rfl, hE12⟩
        have HE12 := Lib.hid (HE11.out.trans hE12)
        have HU12 := Lib.hid (Rows2.ext HU.out hE12)
        clear hE12
        go_wp2_with fail
        refine (HRT2.out _ HE12.out).mono ?_
        rintro e w13 ⟨u', rfl, hu', hE13⟩
        have HU13 := Lib.hid (Rows2.ext HU12.out hE13)
        have HU2 := Lib.hid hu'
        have HE13 := Lib.hid (HE12.out.trans hE13)
        clear hE13 hu'
        go_wp2_with fail
        refine (HEQ.out _ _ _ HU13.out HU2.out).mono ?_
        rintro e w14 ⟨rfl, hE14⟩
        have HE14 := Lib.hid (HE13.out.trans hE14)
        clear hE14
        go_wp2_with fail
        refine (HRR2.out _ HE14.out).mono ?_
        rintro e w15 ⟨rfl, hE15⟩
        have HE15 := Lib.hid (HE14.out.trans hE15)
        clear hE15
        go_wp2_with fail
        go_ret
        exact ⟨rfl, HE15.out⟩
      · have HB1 := Lib.hid (HBAD.out hE); have HB2 := Lib.hid (HBAR.out hE)
        clear HTT HRT HTR HRR HBAD HBAR
        have x6 : (EX != 0) = true := by rw [bne_iff_ne]; exact hE
        clear hE
        go_enter Tryz.func11, Tryz.ntmps11
        go_wp2_with fail
        refine (HK.out _ (Ext.refl _)).mono ?_
        rintro e w1 ⟨rfl, hE1⟩
        have HE1 := Lib.hid (hE1)
        clear hE1
        go_wp2_with fail
        refine (HFA.out _ HE1.out).mono ?_
        rintro e w2 ⟨rfl, hE2⟩
        have HE2 := Lib.hid (HE1.out.trans hE2)
        clear hE2
        go_wp2_with fail
        refine (HFB.out _ HE2.out).mono ?_
        rintro e w3 ⟨rfl, hE3⟩
        have HE3 := Lib.hid (HE2.out.trans hE3)
        clear hE3
        go_wp2_with fail
        refine (HRC.out _ HE3.out).mono ?_
        rintro e w4 ⟨rfl, hE4⟩
        have HE4 := Lib.hid (HE3.out.trans hE4)
        clear hE4
        go_wp2_with fail
        refine (HTC.out _ HE4.out).mono ?_
        rintro e w5 ⟨rfl, hE5⟩
        have HE5 := Lib.hid (HE4.out.trans hE5)
        clear hE5
        go_wp2_with fail
        refine (HQ1.out _ HE5.out).mono ?_
        rintro e w6 ⟨rfl, hE6⟩
        have HE6 := Lib.hid (HE5.out.trans hE6)
        clear hE6
        go_wp2_with fail
        refine (HQ2.out _ HE6.out).mono ?_
        rintro e w7 ⟨rfl, hE7⟩
        have HE7 := Lib.hid (HE6.out.trans hE7)
        clear hE7
        go_wp2_with fail
        refine (HQ3.out _ HE7.out).mono ?_
        rintro e w8 ⟨rfl, hE8⟩
        have HE8 := Lib.hid (HE7.out.trans hE8)
        clear hE8
        go_wp2_with fail
        refine (HCT.out _ HE8.out).mono ?_
        rintro e w9 ⟨rfl, rfl⟩
        have HE9 := HE8
        go_wp2_with fail
        refine (HCR.out _ HE9.out).mono ?_
        rintro e w10 ⟨rfl, rfl⟩
        have HE10 := HE9
        go_wp2_with fail
        refine (HB1.out _ HE10.out).mono ?_
        rintro e w11 ⟨rfl, hE11⟩
        have HE11 := Lib.hid (HE10.out.trans hE11)
        clear hE11
        go_wp2_with fail
        refine (HB2.out _ HE11.out).mono ?_
        rintro e w12 ⟨rfl, hE12⟩
        have HE12 := Lib.hid (HE11.out.trans hE12)
        clear hE12
        go_wp2_with fail
        go_ret
        exact ⟨rfl, HE12.out⟩
end Go.Proofs.YtpeinobepiodaaaGreatDoor
