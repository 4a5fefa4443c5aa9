/- Merged: TEndW. -/
import Derived.Test.YtehknemdfbkimaaGreatDoorTAAA
/- The walk of TemperamentEnds. Printed by gen/tend.py. -/
namespace Go.Proofs.YtehknemdfbkimaaGreatDoor
set_option linter.unusedVariables false
set_option linter.unusedSimpArgs false
open Go.RowKit

set_option maxRecDepth 100000 in
set_option maxHeartbeats 4000000 in
theorem ends_walk (P : List Int) (vp : Value) (w : World) (hP : Ints w vp P) (hlib : LibT w) (hp : 0 < w.heap.size) :
    Calls Tryz.prog 10 #[vp] w fun e w' => e = .returned (.bool true) ∧ Ext w w' := by
  have HKN := Lib.hid (fun W (hW : Ext w W) => known18_any W (hlib.ext hW) (Nat.lt_of_lt_of_le hp hW.size))
  have HPC := Lib.hid (fun W (hW : Ext w W) => primesChk_any P vp W (hP.ext hW))
  have hPo := hP
  obtain ⟨ap, cp, rfl, p1, p2, -⟩ := hPo.open
  unfold maxLen at p2
  by_cases h8 : 8 < P.length
  · have h8i : (8 : Int) < (P.length : Int) := by omega
    clear hP hlib hp HPC hPo
    go_enter Tryz.func10, Tryz.ntmps10
    go_wp2_with fail
    refine (HKN.out _ (Ext.refl _)).mono ?_
    rintro e w1 ⟨rfl, hE1⟩
    have HE1 := Lib.hid hE1
    clear hE1
    go_wp2_with fail
    refine (HKN.out _ HE1.out).mono ?_
    rintro e w2 ⟨rfl, hE2⟩
    have HE2 := Lib.hid (HE1.out.trans hE2)
    clear hE2
    go_wp2_with fail
    go_ret
    exact ⟨rfl, HE2.out⟩
  have h8i : ¬ (8 : Int) < (P.length : Int) := by omega
  by_cases hE : primesE P = 0
  · have hn1 : 1 ≤ P.length := by
      unfold primesE at hE
      by_cases h0 : P.length = 0
      · rw [if_pos h0] at hE; cases hE
      · omega
    have hn6 : P.length ≤ 6 := by
      unfold primesE at hE
      by_cases h0 : P.length = 0
      · omega
      · rw [if_neg h0] at hE
        by_cases h6 : 6 < P.length
        · rw [if_pos h6] at hE; cases hE
        · omega
    obtain ⟨F, hD, hR⟩ := ends_right hn1 hn6
    obtain ⟨hR1, hR2⟩ := hR P hE rfl
    have HL : Hid (∀ W, Ext w W → LibT W ∧ 0 < W.heap.size) := fun W hW => ⟨hlib.ext hW, Nat.lt_of_lt_of_le hp hW.size⟩
    have HJU := Lib.hid (fun W (hW : Ext w W) => just_any P.length F P _ W (hP.ext hW) hE rfl hD (HL.out W hW).1 (HL.out W hW).2)
    have HTR := Lib.hid (fun W (hW : Ext w W) => trivial18_any P.length F P _ W (hP.ext hW) hE rfl hD (HL.out W hW).1 (HL.out W hW).2)
    have HRK : Hid (∀ W v, Ext w W → TempV W v P [] (idM P.length P.length) → Calls Tryz.prog 55 #[v] W fun e w' => e = .returned (.tuple #[.int .i64 P.length, .int .i64 0]) ∧ Ext W w') := fun W v hW hv => by
      have := trank_any P.length F P _ _ v W hv hR1 (HL.out W hW).1 (HL.out W hW).2
      rw [idM_len] at this
      exact this
    have HCR : Hid (∀ W v, Ext w W → TempV W v P (idM P.length P.length) [] → Calls Tryz.prog 56 #[v] W fun e w' => e = .returned (.tuple #[.int .i64 P.length, .int .i64 0]) ∧ Ext W w') := fun W v hW hv => by
      have := tcorank_any P.length F P _ _ v W hv hR2 (HL.out W hW).1 (HL.out W hW).2
      rw [idM_len] at this
      exact this
    have HID := Lib.hid (fun W => refIdent_any P.length (by omega) W)
    have HSA : Hid (∀ W u v (C M : List (List Int)), TempV W u P C M → TempV W v P C M → Calls Tryz.prog 58 #[u, v] W fun e w' => e = .returned (.bool true) ∧ Ext W w') := fun W u v C M h k => by
      have := same18_any P P C C M M u v W h k
      simpa using this
    rw [hE] at HPC
    have HPI := Lib.hid hP
    have HIL := Lib.hid (idM_len P.length P.length)
    obtain ⟨I, hI⟩ : ∃ I, idM P.length P.length = I := ⟨_, rfl⟩
    rw [hI] at HJU HTR HRK HCR HID HIL
    clear hP hPo hlib hp hE hn1 hD hR hR1 hR2 hI HL h8
    go_enter Tryz.func10, Tryz.ntmps10
    go_wp2_with fail
    refine (HKN.out _ (Ext.refl _)).mono ?_
    rintro e w1 ⟨rfl, hE1⟩
    have HE1 := Lib.hid hE1
    clear hE1 HKN
    go_wp2_with fail
    refine (HJU.out _ HE1.out).mono ?_
    rintro e w2 ⟨u, rfl, hu, hE2⟩
    have HEA := Lib.hid (HE1.out.trans hE2)
    obtain ⟨p, c, m, rfl, hvp, hvc, hvm⟩ := hu
    have HTA : Hid (TempV w2 (.agg #[p, c, m]) P [] I) := ⟨_, _, _, rfl, hvp, hvc, hvm⟩
    obtain ⟨a1, c1, rfl, -⟩ := hvp.open
    obtain ⟨a2, c2, rfl, -⟩ := inCell.open hvc
    obtain ⟨a3, c3, rfl, -⟩ := inCell.open hvm
    have hil := HIL.out
    clear hE2 hvp hvc hvm HJU HE1
    obtain ⟨V2, hV2, hXV, hsV, hbV⟩ := tp_new w2 (.slice none 0 0) (.slice none 0 0) (.slice none 0 0)
    obtain ⟨r0, r1, r2, rf⟩ := tp_block hbV
    have f0 := rf 0; have f1 := rf 1; have f2 := rf 2
    have HB2 := Lib.hid (tp_store hbV (.slice a1 P.length c1) (.slice a2 0 c2) (.slice a3 I.length c3))
    have HXU2 := Lib.hid (ext_tp hXV (Nat.le_refl _) (.slice a1 P.length c1) (.slice a2 0 c2) (.slice a3 I.length c3))
    clear hXV hsV hbV rf
    obtain ⟨U2, hU2⟩ : ∃ U, ((V2.setCell ⟨w2.heap.size, 0, none⟩ (.slice a1 P.length c1)).setCell ⟨w2.heap.size, 1, none⟩ (.slice a2 0 c2)).setCell ⟨w2.heap.size, 2, none⟩ (.slice a3 I.length c3) = U := ⟨_, rfl⟩
    rw [hU2] at HB2 HXU2
    have HE2 := Lib.hid (HEA.out.trans HXU2.out)
    have HTA := Lib.hid (HTA.out.ext HXU2.out)
    clear HXU2 HEA hil
    simp only [List.length_nil] at HTA ⊢
    go_wp2_with fail
    clear hU2 hV2 r0 r1 r2 f0 f1 f2
    refine (HTR.out _ HE2.out).mono ?_
    rintro e w3 ⟨u, rfl, hu, hE3⟩
    have HEB := Lib.hid (HE2.out.trans hE3)
    have HB2 := Lib.hid (block_ext HB2.out hE3); have HTA := Lib.hid (HTA.out.ext hE3)
    obtain ⟨p, c, m, rfl, hvp, hvc, hvm⟩ := hu
    have HTB : Hid (TempV w3 (.agg #[p, c, m]) P I []) := ⟨_, _, _, rfl, hvp, hvc, hvm⟩
    obtain ⟨d1, e1, rfl, -⟩ := hvp.open
    obtain ⟨d2, e2, rfl, -⟩ := inCell.open hvc
    obtain ⟨d3, e3, rfl, -⟩ := inCell.open hvm
    clear hE3 hvp hvc hvm HTR HE2
    obtain ⟨V3, hV3, hXV, hsV, hbV⟩ := tp_new w3 (.slice none 0 0) (.slice none 0 0) (.slice none 0 0)
    obtain ⟨r0, r1, r2, rf⟩ := tp_block hbV
    have f0 := rf 0; have f1 := rf 1; have f2 := rf 2
    have HB3 := Lib.hid (tp_store hbV (.slice d1 P.length e1) (.slice d2 I.length e2) (.slice d3 0 e3))
    have HXU3 := Lib.hid (ext_tp hXV (Nat.le_refl _) (.slice d1 P.length e1) (.slice d2 I.length e2) (.slice d3 0 e3))
    clear hXV hsV hbV rf
    obtain ⟨U3, hU3⟩ : ∃ U, ((V3.setCell ⟨w3.heap.size, 0, none⟩ (.slice d1 P.length e1)).setCell ⟨w3.heap.size, 1, none⟩ (.slice d2 I.length e2)).setCell ⟨w3.heap.size, 2, none⟩ (.slice d3 0 e3) = U := ⟨_, rfl⟩
    rw [hU3] at HB3 HXU3
    have HE3 := Lib.hid (HEB.out.trans HXU3.out)
    have HB2 := Lib.hid (block_ext HB2.out HXU3.out); have HTA := Lib.hid (HTA.out.ext HXU3.out); have HTB := Lib.hid (HTB.out.ext HXU3.out)
    clear HXU3 HEB
    simp only [List.length_nil] at HTB ⊢
    obtain ⟨s0, s1, s2, -⟩ := tp_block HB2.out
    obtain ⟨t0, t1, t2, -⟩ := tp_block HB3.out
    go_wp2_with fail
    clear hU3 hV3 r0 r1 r2 f0 f1 f2
    refine (HPC.out _ HE3.out).mono ?_
    rintro e w4 ⟨rfl, rfl⟩
    clear HPC
    go_wp2_with fail
    clear s0 s1 s2 t0 t1 t2
    refine (HRK.out _ _ HE3.out HTA.out).mono ?_
    rintro e w5 ⟨rfl, hE5⟩
    have HE5 := Lib.hid (HE3.out.trans hE5)
    have HB2 := Lib.hid (block_ext HB2.out hE5); have HTA := Lib.hid (HTA.out.ext hE5); have HB3 := Lib.hid (block_ext HB3.out hE5); have HTB := Lib.hid (HTB.out.ext hE5)
    clear hE5 HRK HE3
    obtain ⟨t0, t1, t2, -⟩ := tp_block HB3.out
    go_wp2_with fail
    clear t0 t1 t2
    refine (HCR.out _ _ HE5.out HTB.out).mono ?_
    rintro e w6 ⟨rfl, hE6⟩
    have HE6 := Lib.hid (HE5.out.trans hE6)
    have HB2 := Lib.hid (block_ext HB2.out hE6); have HTA := Lib.hid (HTA.out.ext hE6); have HB3 := Lib.hid (block_ext HB3.out hE6); have HTB := Lib.hid (HTB.out.ext hE6)
    clear hE6 HCR HE5
    go_wp2_with fail
    refine (HID.out _).mono ?_
    rintro e w7 ⟨ai, ci, rfl, hi, hE7⟩
    have HE7 := Lib.hid (HE6.out.trans hE7)
    have HII := Lib.hid hi
    have HB2 := Lib.hid (block_ext HB2.out hE7); have HTA := Lib.hid (HTA.out.ext hE7); have HB3 := Lib.hid (block_ext HB3.out hE7); have HTB := Lib.hid (HTB.out.ext hE7)
    clear hE7 hi HID HE6
    obtain ⟨s0, s1, s2, -⟩ := tp_block HB2.out
    go_wp2_with fail
    clear s0 s1 s2
    refine (HSA.out _ _ _ _ _ HTA.out ⟨_, _, _, rfl, HPI.out.ext HE7.out, rows_nil _, HII.out⟩).mono ?_
    rintro e w8 ⟨rfl, hE8⟩
    have HE8 := Lib.hid (HE7.out.trans hE8)
    have HII := Lib.hid (HII.out.ext hE8)
    have HB3 := Lib.hid (block_ext HB3.out hE8); have HTB := Lib.hid (HTB.out.ext hE8)
    clear hE8 HE7 HB2 HTA
    obtain ⟨t0, t1, t2, -⟩ := tp_block HB3.out
    go_wp2_with fail
    clear t0 t1 t2
    refine (HSA.out _ _ _ _ _ HTB.out ⟨_, _, _, rfl, HPI.out.ext HE8.out, HII.out, rows_nil _⟩).mono ?_
    rintro e w9 ⟨rfl, hE9⟩
    have HE9 := Lib.hid (HE8.out.trans hE9)
    clear hE9 HE8 HB3 HTB HII
    go_wp2_with fail
    go_ret
    exact ⟨rfl, HE9.out⟩
  · have HJU := Lib.hid (fun W (hW : Ext w W) => just_bad P _ W (hP.ext hW) hE)
    have HTR := Lib.hid (fun W (hW : Ext w W) => trivial18_bad P _ W (hP.ext hW) hE)
    have HNO := Lib.hid (fun W => none18_zero W)
    obtain ⟨E, hEE⟩ : ∃ E, primesE P = E := ⟨_, rfl⟩
    rw [hEE] at HJU HTR HPC hE
    have hz : (E != 0) = true := by simp [hE]
    have hz2 : (E == E) = true := by simp
    clear hP hPo hlib hp hE hEE h8
    go_enter Tryz.func10, Tryz.ntmps10
    go_wp2_with fail
    refine (HKN.out _ (Ext.refl _)).mono ?_
    rintro e w1 ⟨rfl, hE1⟩
    have HE1 := Lib.hid hE1
    clear hE1 HKN
    go_wp2_with fail
    refine (HJU.out _ HE1.out).mono ?_
    rintro e w2 ⟨rfl, hE2⟩
    have HEA := Lib.hid (HE1.out.trans hE2)
    clear hE2 HJU HE1
    obtain ⟨V2, hV2, hXV, hsV, hbV⟩ := tp_new w2 (.slice none 0 0) (.slice none 0 0) (.slice none 0 0)
    obtain ⟨r0, r1, r2, rf⟩ := tp_block hbV
    have f0 := rf 0; have f1 := rf 1; have f2 := rf 2
    have HB2 := Lib.hid (tp_store hbV (.slice none 0 0) (.slice none 0 0) (.slice none 0 0))
    have HXU2 := Lib.hid (ext_tp hXV (Nat.le_refl _) (.slice none 0 0) (.slice none 0 0) (.slice none 0 0))
    clear hXV hsV hbV rf
    obtain ⟨U2, hU2⟩ : ∃ U, ((V2.setCell ⟨w2.heap.size, 0, none⟩ (.slice none 0 0)).setCell ⟨w2.heap.size, 1, none⟩ (.slice none 0 0)).setCell ⟨w2.heap.size, 2, none⟩ (.slice none 0 0) = U := ⟨_, rfl⟩
    rw [hU2] at HB2 HXU2
    have HE2 := Lib.hid (HEA.out.trans HXU2.out)
    clear HXU2 HEA
    go_wp2_with fail
    clear hU2 hV2 r0 r1 r2 f0 f1 f2
    refine (HTR.out _ HE2.out).mono ?_
    rintro e w3 ⟨rfl, hE3⟩
    have HEB := Lib.hid (HE2.out.trans hE3)
    have HB2 := Lib.hid (block_ext HB2.out hE3)
    clear hE3 HTR HE2
    obtain ⟨V3, hV3, hXV, hsV, hbV⟩ := tp_new w3 (.slice none 0 0) (.slice none 0 0) (.slice none 0 0)
    obtain ⟨r0, r1, r2, rf⟩ := tp_block hbV
    have f0 := rf 0; have f1 := rf 1; have f2 := rf 2
    have HB3 := Lib.hid (tp_store hbV (.slice none 0 0) (.slice none 0 0) (.slice none 0 0))
    have HXU3 := Lib.hid (ext_tp hXV (Nat.le_refl _) (.slice none 0 0) (.slice none 0 0) (.slice none 0 0))
    clear hXV hsV hbV rf
    obtain ⟨U3, hU3⟩ : ∃ U, ((V3.setCell ⟨w3.heap.size, 0, none⟩ (.slice none 0 0)).setCell ⟨w3.heap.size, 1, none⟩ (.slice none 0 0)).setCell ⟨w3.heap.size, 2, none⟩ (.slice none 0 0) = U := ⟨_, rfl⟩
    rw [hU3] at HB3 HXU3
    have HE3 := Lib.hid (HEB.out.trans HXU3.out)
    have HB2 := Lib.hid (block_ext HB2.out HXU3.out)
    clear HXU3 HEB
    go_wp2_with fail
    clear hU3 hV3 r0 r1 r2 f0 f1 f2
    refine (HPC.out _ HE3.out).mono ?_
    rintro e w4 ⟨rfl, rfl⟩
    clear HPC
    obtain ⟨s0, s1, s2, -⟩ := tp_block HB2.out
    go_wp2_with fail
    clear s0 s1 s2
    refine (HNO.out _).mono ?_
    rintro e w5 ⟨rfl, hE5⟩
    have HE5 := Lib.hid (HE3.out.trans hE5)
    have HB3 := Lib.hid (block_ext HB3.out hE5)
    clear hE5 HE3 HB2
    obtain ⟨t0, t1, t2, -⟩ := tp_block HB3.out
    go_wp2_with fail
    clear t0 t1 t2
    refine (HNO.out _).mono ?_
    rintro e w6 ⟨rfl, hE6⟩
    have HE6 := Lib.hid (HE5.out.trans hE6)
    clear hE6 HE5 HB3
    go_wp2_with fail
    go_ret
    exact ⟨rfl, HE6.out⟩
end Go.Proofs.YtehknemdfbkimaaGreatDoor
