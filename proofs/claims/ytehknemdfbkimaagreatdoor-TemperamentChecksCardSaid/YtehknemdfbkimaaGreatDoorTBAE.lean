/- Merged: TChkL. -/
import Derived.Test.YtehknemdfbkimaaGreatDoorTBAD
import Derived.Test.YtehknemdfbkimaaGreatDoorSAX
/- The walk of TemperamentChecks. Printed by gen/tchk2.py. -/
namespace Go.Proofs.YtehknemdfbkimaaGreatDoor
set_option linter.unusedVariables false
set_option linter.unusedSimpArgs false
open Go.RowKit

theorem prime_le {x : Int} (h : primeB x = true) : -1000000000 ≤ x ∧ x ≤ 1000000000 := by
  unfold primeB at h
  simp only [Bool.and_eq_true, decide_eq_true_eq] at h
  omega
theorem scan_le : ∀ (l : List Int) (o : Option Int), scanP o l = 0 → ∀ x ∈ l, -1000000000 ≤ x ∧ x ≤ 1000000000
  | [], _, _, x, hx => by cases hx
  | y :: l, none, h, x, hx => by
    rw [scanP_none] at h
    by_cases hp : primeB y = true
    · rw [if_pos hp] at h
      rcases List.mem_cons.1 hx with rfl | hx
      · exact prime_le hp
      · exact scan_le l _ h x hx
    · rw [if_neg hp] at h; cases h
  | y :: l, some z, h, x, hx => by
    rw [scanP_some] at h
    by_cases hp : primeB y = true
    · rw [if_pos hp] at h
      by_cases hz : y ≤ z
      · rw [if_pos hz] at h; cases h
      · rw [if_neg hz] at h
        rcases List.mem_cons.1 hx with rfl | hx
        · exact prime_le hp
        · exact scan_le l _ h x hx
    · rw [if_neg hp] at h; cases h
theorem primesE_len {P : List Int} (hE : primesE P = 0) : 1 ≤ P.length ∧ P.length ≤ 6 ∧ ∀ x ∈ P, -1000000000 ≤ x ∧ x ≤ 1000000000 := by
  unfold primesE at hE
  by_cases h0 : P.length = 0
  · rw [if_pos h0] at hE; cases hE
  · rw [if_neg h0] at hE
    by_cases h6 : 6 < P.length
    · rw [if_pos h6] at hE; cases hE
    · rw [if_neg h6] at hE
      exact ⟨by omega, by omega, scan_le P none hE⟩
theorem chkT_right {F : Nat} {P : List Int} {C M A S : List (List Int)} (hS : primesE P = 0 → chkE P.length C = 0 → SatF P.length F C A S) (h : chkT P C M A S = 0) : RightT P.length F P C M := by
  unfold chkT at h
  by_cases h1 : primesE P = 0
  · rw [if_pos h1] at h
    by_cases h2 : chkE P.length C = 0
    · rw [if_pos h2] at h
      by_cases h3 : (S.all fun r => r.all fit9B) = true ∧ S = C
      · rw [if_pos h3] at h
        by_cases h4 : (A.all fun r => r.all fit9B) = true ∧ A = M
        · exact right_of h1 h2 (hS h1 h2) h3.1 h3.2 h4.1 h4.2
        · rw [if_neg h4] at h; cases h
      · rw [if_neg h3] at h; cases h
    · rw [if_neg h2] at h; exact absurd h h2
  · rw [if_neg h1] at h; exact absurd h h1
theorem sat_any18 (P : List Int) (C : List (List Int)) : ∃ F A S, (primesE P = 0 → chkE P.length C = 0 → SatF P.length F C A S) := by
  by_cases h1 : primesE P = 0
  · by_cases h2 : chkE P.length C = 0
    · obtain ⟨a, b, -⟩ := primesE_len h1
      obtain ⟨F, A, S, h⟩ := sat_there a b h2
      exact ⟨F, A, S, fun _ _ => h⟩
    · exact ⟨0, [], [], fun _ h => absurd h h2⟩
  · exact ⟨0, [], [], fun h => absurd h h1⟩
theorem allE_none {n : Nat} (hn : 1 ≤ n) : allE n [[]] = 5 ∧ allE n [[], []] = 5 := by
  have h1 : allE n [[]] = 5 := by
    rw [allE_cons, if_pos (by decide), if_neg (by simp; omega)]
  exact ⟨h1, by rw [allE_cons, if_pos (by decide), if_neg (by simp; omega)]⟩

set_option maxRecDepth 100000 in
set_option maxHeartbeats 8000000 in
theorem tchecks_walk (P : List Int) (C M : List (List Int)) (vp vc vm : Value) (w : World) (hP : Ints w vp P) (hC : Rows2 w vc C) (hM : Rows2 w vm M) (hlib : LibT w) (hp : 0 < w.heap.size) :
    Calls Tryz.prog 13 #[vp, vc, vm] w fun e w' => e = .returned (.bool true) ∧ Ext w w' := by
  have HKN := Lib.hid (fun W (hW : Ext w W) => known18_any W (hlib.ext hW) (Nat.lt_of_lt_of_le hp hW.size))
  have HFC := Lib.hid (fun W (hW : Ext w W) => few18_any C vc W (hC.ext hW))
  have HFM := Lib.hid (fun W (hW : Ext w W) => few18_any M vm W (hM.ext hW))
  have HV : Hid (TempV w (.agg #[vp, vc, vm]) P C M) := ⟨_, _, _, rfl, hP, hC, hM⟩
  have HL : Hid (∀ W, Ext w W → LibT W ∧ 0 < W.heap.size) := fun W hW => ⟨hlib.ext hW, Nat.lt_of_lt_of_le hp hW.size⟩
  obtain ⟨ap, cp, rfl, p1, p2, -⟩ := hP.open
  obtain ⟨ac, cc, rfl, -⟩ := inCell.open hC
  obtain ⟨am, cm, rfl, -⟩ := inCell.open hM
  unfold maxLen at p2
  clear hP hC hM hlib hp
  obtain ⟨FC, hFC⟩ : ∃ b, fewB C = b := ⟨_, rfl⟩
  obtain ⟨FM, hFM⟩ : ∃ b, fewB M = b := ⟨_, rfl⟩
  rw [hFC] at HFC
  rw [hFM] at HFM
  clear hFC hFM
  by_cases h8 : 8 < P.length
  · have h8i : (8 : Int) < (P.length : Int) := by omega
    clear h8
    go_enter Tryz.func13, Tryz.ntmps13
    go_wp2_with fail
    refine (HKN.out _ (Ext.refl _)).mono ?_
    rintro e w1 ⟨rfl, hE1⟩
    have HE1 := Lib.hid hE1
    clear hE1
    go_wp2_with fail
    refine (HKN.out _ HE1.out).mono ?_
    rintro e w9 ⟨rfl, hE9⟩
    have HE9 := Lib.hid (HE1.out.trans hE9)
    clear hE9
    go_wp2_with fail
    go_ret
    exact ⟨rfl, HE9.out⟩
  have h8i : ¬ (8 : Int) < (P.length : Int) := by omega
  clear h8
  cases FC with
  | false =>
    go_enter Tryz.func13, Tryz.ntmps13
    go_wp2_with fail
    refine (HKN.out _ (Ext.refl _)).mono ?_
    rintro e w1 ⟨rfl, hE1⟩
    have HE1 := Lib.hid hE1
    clear hE1
    go_wp2_with fail
    refine (HFC.out _ HE1.out).mono ?_
    rintro e w2 ⟨rfl, hE2⟩
    have HE2 := Lib.hid (HE1.out.trans hE2)
    clear hE2
    go_wp2_with fail
    refine (HKN.out _ HE2.out).mono ?_
    rintro e w9 ⟨rfl, hE9⟩
    have HE9 := Lib.hid (HE2.out.trans hE9)
    clear hE9
    go_wp2_with fail
    go_ret
    exact ⟨rfl, HE9.out⟩
  | true =>
  cases FM with
  | false =>
    go_enter Tryz.func13, Tryz.ntmps13
    go_wp2_with fail
    refine (HKN.out _ (Ext.refl _)).mono ?_
    rintro e w1 ⟨rfl, hE1⟩
    have HE1 := Lib.hid hE1
    clear hE1
    go_wp2_with fail
    refine (HFC.out _ HE1.out).mono ?_
    rintro e w2 ⟨rfl, hE2⟩
    have HE2 := Lib.hid (HE1.out.trans hE2)
    clear hE2
    go_wp2_with fail
    refine (HFM.out _ HE2.out).mono ?_
    rintro e w3 ⟨rfl, hE3⟩
    have HE3 := Lib.hid (HE2.out.trans hE3)
    clear hE3
    go_wp2_with fail
    refine (HKN.out _ HE3.out).mono ?_
    rintro e w9 ⟨rfl, hE9⟩
    have HE9 := Lib.hid (HE3.out.trans hE9)
    clear hE9
    go_wp2_with fail
    go_ret
    exact ⟨rfl, HE9.out⟩
  | true =>
  obtain ⟨F, A, S, hS⟩ := sat_any18 P C
  have HCK : Hid (∀ W, Ext w W → Calls Tryz.prog 59 #[.agg #[.slice ap P.length cp, .slice ac C.length cc, .slice am M.length cm]] W fun e w' => e = .returned (.int .i64 (chkT P C M A S)) ∧ Ext W w') := fun W hW => tchkG_any F P C M A S _ W (HV.out.ext hW) hS (HL.out W hW).1 (HL.out W hW).2
  have HLC : Hid (∀ W, Ext w W → Calls Tryz.prog 66 #[.agg #[.slice ap P.length cp, .slice ac C.length cc, .slice am M.length cm]] W fun e w' => e = .returned (.int .i64 (chkT P C M A S)) ∧ Ext W w') := fun W hW => lchkG_any F P C M A S _ W (HV.out.ext hW) hS (HL.out W hW).1 (HL.out W hW).2
  have HRG : Hid (chkT P C M A S = 0 → RightT P.length F P C M) := chkT_right hS
  have HEQ1 : Hid (∀ W, Ext w W → Calls Tryz.prog 67 #[.agg #[.slice ap P.length cp, .slice ac C.length cc, .slice am M.length cm], .agg #[.slice ap P.length cp, .slice ac C.length cc, .slice am M.length cm]] W fun e w' => e = .returned (.bool true) ∧ Ext W w') := fun W hW => by
    have := tequal_any P P C C M M _ _ W (HV.out.ext hW) (HV.out.ext hW)
    simpa using this
  have HMT := Lib.hid (fun W => meantone_any W)
  have HEQ2 := Lib.hid (fun W u (hW : Ext w W) (hu : TempV W u mP mC mM) => tequal_any P mP C mC M mM _ u W (HV.out.ext hW) hu)
  have HSM2 := Lib.hid (fun W u (hW : Ext w W) (hu : TempV W u mP mC mM) => same18_any P mP C mC M mM _ u W (HV.out.ext hW) hu)
  obtain ⟨BM, hBM⟩ : ∃ b, (P == mP && (C == mC && M == mM)) = b := ⟨_, rfl⟩
  rw [hBM] at HEQ2 HSM2
  obtain ⟨E, hE⟩ : ∃ E, chkT P C M A S = E := ⟨_, rfl⟩
  rw [hE] at HCK HLC HRG
  have hzE : (E != E) = false := by simp
  have hzE2 : (E == E) = true := by simp
  have hzB : (BM != BM) = false := by cases BM <;> rfl
  clear hS hBM hE
  go_enter Tryz.func13, Tryz.ntmps13
  go_wp2_with fail
  refine (HKN.out _ (Ext.refl _)).mono ?_
  rintro e w1 ⟨rfl, hE1⟩
  have HE1 := Lib.hid hE1
  clear hE1
  go_wp2_with fail
  refine (HFC.out _ HE1.out).mono ?_
  rintro e w2 ⟨rfl, hE2⟩
  have HE2 := Lib.hid (HE1.out.trans hE2)
  clear hE2
  go_wp2_with fail
  refine (HFM.out _ HE2.out).mono ?_
  rintro e w3 ⟨rfl, hE3⟩
  have HE3 := Lib.hid (HE2.out.trans hE3)
  clear hE3
  clear HFC HFM HKN
  obtain ⟨V3, hV3, hXV, hsV, hbV⟩ := tp_new w3 (.slice none 0 0) (.slice none 0 0) (.slice none 0 0)
  obtain ⟨r0, r1, r2, rf⟩ := tp_block hbV
  have f0 := rf 0; have f1 := rf 1; have f2 := rf 2
  have HB3 := Lib.hid (tp_store hbV (.slice ap P.length cp) (.slice ac C.length cc) (.slice am M.length cm))
  have HXU3 := Lib.hid (ext_tp hXV (Nat.le_refl _) (.slice ap P.length cp) (.slice ac C.length cc) (.slice am M.length cm))
  clear hXV hsV hbV rf
  obtain ⟨U3, hU3⟩ : ∃ U, ((V3.setCell ⟨w3.heap.size, 0, none⟩ (.slice ap P.length cp)).setCell ⟨w3.heap.size, 1, none⟩ (.slice ac C.length cc)).setCell ⟨w3.heap.size, 2, none⟩ (.slice am M.length cm) = U := ⟨_, rfl⟩
  rw [hU3] at HB3 HXU3
  have HEU := Lib.hid (HE3.out.trans HXU3.out)
  clear HXU3
  obtain ⟨s0, s1, s2, -⟩ := tp_block HB3.out
  go_wp2_with fail
  clear hU3 hV3 r0 r1 r2 f0 f1 f2 s0 s1 s2
  refine (HLC.out _ HEU.out).mono ?_
  rintro e w4 ⟨rfl, hE4⟩
  have HE4 := Lib.hid (HEU.out.trans hE4)
  have HB4 := Lib.hid (block_ext HB3.out hE4)
  clear hE4 HEU HB3 HLC
  obtain ⟨s0, s1, s2, -⟩ := tp_block HB4.out
  go_upto_region 5 with fail
  refine region_anyEV (fun w' => w'.cell? ⟨w3.heap.size, 0, none⟩ = some (.slice ap P.length cp) ∧ w'.cell? ⟨w3.heap.size, 1, none⟩ = some (.slice ac C.length cc) ∧ w'.cell? ⟨w3.heap.size, 2, none⟩ = some (.slice am M.length cm) ∧ Hid (Ext w4 w')) 19 19 (by kernel_rfl) (by kernel_rfl) ⟨(Ext.drew w4).cell s0, (Ext.drew w4).cell s1, (Ext.drew w4).cell s2, Ext.drew w4⟩ (fun ops hO hHeld => ?_)
  generalize w4.drew = wd at hHeld ⊢
  have hi := getopN hO 0 (by decide)
  conv at hi => rhs; arg 1; whnf
  refine anyE_takeV hO (v := ?_) 0 hi (by kernel_rfl) (by kernel_rfl) (by kernel_rfl) (by kernel_rfl) (fun _ _ _ h => h) (Or.inl ⟨by rfl, ?_⟩) (by assumption) ?_
  rotate_left
  · ((intro w' hSw); (try dsimp only at hSw); (try go_simp); (try with_reducible rfl))
  clear hi
  (try simp only [Act.put, List.setIfInBounds_toArray, List.set_cons_zero, List.set_cons_succ])
  have hi := getopN hO 2 (by decide)
  conv at hi => rhs; arg 1; whnf
  refine anyE_takeWV hO (v := ?_) 2 hi (by kernel_rfl) (by kernel_rfl) (by kernel_rfl) (by kernel_rfl) (fun _ _ _ h => h) (Or.inl ⟨by rfl, ?_⟩) (by assumption) ?_
  rotate_left
  · ((intro w'); (try go_simp); (try with_reducible rfl))
  clear hi
  (try simp only [Act.put, List.setIfInBounds_toArray, List.set_cons_zero, List.set_cons_succ])
  have hi := getopN hO 1 (by decide)
  conv at hi => rhs; arg 1; whnf
  refine anyE_stepV hO 1 (by kernel_rfl) hi (fun K hK => ?_)
  go_simp
  (go_at_call 59; refine (HCK.out _ (Ext.trans HE4.out (hHeld.2.2.2.out))).mono ?_)
  rintro e x1 ⟨rfl, hEz⟩
  go_wp2_with fail
  refine hK.out _ _ ⟨(hEz).cell hHeld.1, (hEz).cell hHeld.2.1, (hEz).cell hHeld.2.2.1, Ext.trans hHeld.2.2.2.out (hEz)⟩ (fun hHeld => ?_)
  clear hK K hi
  (try simp only [Act.put, List.setIfInBounds_toArray, List.set_cons_zero, List.set_cons_succ])
  have hi := getopN hO 3 (by decide)
  conv at hi => rhs; arg 1; whnf
  refine anyE_takeWV hO (v := ?_) 3 hi (by kernel_rfl) (by kernel_rfl) (by kernel_rfl) (by kernel_rfl) (fun _ _ _ h => h) (Or.inl ⟨by rfl, ?_⟩) (by assumption) ?_
  rotate_left
  · ((intro w'); (try go_simp); (try with_reducible rfl))
  clear hi
  (try simp only [Act.put, List.setIfInBounds_toArray, List.set_cons_zero, List.set_cons_succ])
  have hi := getopN hO 4 (by decide)
  conv at hi => rhs; arg 1; whnf
  refine anyE_takeWV hO (v := ?_) 4 hi (by kernel_rfl) (by kernel_rfl) (by kernel_rfl) (by kernel_rfl) (fun _ _ _ h => h) (Or.inl ⟨by rfl, ?_⟩) (by assumption) ?_
  rotate_left
  · ((intro w'); (try go_simp); (try with_reducible rfl))
  clear hi
  (try simp only [Act.put, List.setIfInBounds_toArray, List.set_cons_zero, List.set_cons_succ])
  have hi := getopN hO 5 (by decide)
  conv at hi => rhs; arg 1; whnf
  refine anyE_takeV hO (v := ?_) 5 hi (by kernel_rfl) (by kernel_rfl) (by kernel_rfl) (by kernel_rfl) (fun _ _ _ h => h) (Or.inl ⟨by rfl, ?_⟩) (by assumption) ?_
  rotate_left
  · ((intro w' hSw); (try dsimp only at hSw); (try go_simp); (try with_reducible rfl))
  clear hi
  (try simp only [Act.put, List.setIfInBounds_toArray, List.set_cons_zero, List.set_cons_succ])
  have hi := getopN hO 6 (by decide)
  conv at hi => rhs; arg 1; whnf
  refine anyE_takeV hO (v := ?_) 6 hi (by kernel_rfl) (by kernel_rfl) (by kernel_rfl) (by kernel_rfl) (fun _ _ _ h => h) (Or.inl ⟨by rfl, ?_⟩) (by assumption) ?_
  rotate_left
  · ((intro w' hSw); (try dsimp only at hSw); (try go_simp); (try with_reducible rfl))
  clear hi
  (try simp only [Act.put, List.setIfInBounds_toArray, List.set_cons_zero, List.set_cons_succ])
  have hi := getopN hO 7 (by decide)
  conv at hi => rhs; arg 1; whnf
  refine anyE_stepV hO 7 (by kernel_rfl) hi (fun K hK => ?_)
  go_simp
  (go_at_call 67; refine (HEQ1.out _ (Ext.trans HE4.out (hHeld.2.2.2.out))).mono ?_)
  rintro e x2 ⟨rfl, hEz⟩
  go_wp2_with fail
  refine hK.out _ _ ⟨(hEz).cell hHeld.1, (hEz).cell hHeld.2.1, (hEz).cell hHeld.2.2.1, Ext.trans hHeld.2.2.2.out (hEz)⟩ (fun hHeld => ?_)
  clear hK K hi
  (try simp only [Act.put, List.setIfInBounds_toArray, List.set_cons_zero, List.set_cons_succ])
  have hi := getopN hO 8 (by decide)
  conv at hi => rhs; arg 1; whnf
  refine anyE_takeWV hO (v := ?_) 8 hi (by kernel_rfl) (by kernel_rfl) (by kernel_rfl) (by kernel_rfl) (fun _ _ _ h => h) (Or.inl ⟨by rfl, ?_⟩) (by assumption) ?_
  rotate_left
  · ((intro w'); (try go_simp); (try with_reducible rfl))
  clear hi
  (try simp only [Act.put, List.setIfInBounds_toArray, List.set_cons_zero, List.set_cons_succ])
  have hi := getopN hO 9 (by decide)
  conv at hi => rhs; arg 1; whnf
  refine anyE_takeWV hO (v := ?_) 9 hi (by kernel_rfl) (by kernel_rfl) (by kernel_rfl) (by kernel_rfl) (fun _ _ _ h => h) (Or.inl ⟨by rfl, ?_⟩) (by assumption) ?_
  rotate_left
  · ((intro w'); (try go_simp); (try with_reducible rfl))
  clear hi
  (try simp only [Act.put, List.setIfInBounds_toArray, List.set_cons_zero, List.set_cons_succ])
  have hi := getopN hO 10 (by decide)
  conv at hi => rhs; arg 1; whnf
  refine anyE_takeWV hO (v := ?_) 10 hi (by kernel_rfl) (by kernel_rfl) (by kernel_rfl) (by kernel_rfl) (fun _ _ _ h => h) (Or.inl ⟨by rfl, ?_⟩) (by assumption) ?_
  rotate_left
  · ((intro w'); (try go_simp); (try with_reducible rfl))
  clear hi
  (try simp only [Act.put, List.setIfInBounds_toArray, List.set_cons_zero, List.set_cons_succ])
  have hi := getopN hO 11 (by decide)
  conv at hi => rhs; arg 1; whnf
  refine anyE_takeV hO (v := ?_) 11 hi (by kernel_rfl) (by kernel_rfl) (by kernel_rfl) (by kernel_rfl) (fun _ _ _ h => h) (Or.inl ⟨by rfl, ?_⟩) (by assumption) ?_
  rotate_left
  · ((intro w' hSw); (try dsimp only at hSw); (try go_simp); (try with_reducible rfl))
  clear hi
  (try simp only [Act.put, List.setIfInBounds_toArray, List.set_cons_zero, List.set_cons_succ])
  have hi := getopN hO 14 (by decide)
  conv at hi => rhs; arg 1; whnf
  refine anyE_takeV hO (v := ?_) 14 hi (by kernel_rfl) (by kernel_rfl) (by kernel_rfl) (by kernel_rfl) (fun _ _ _ h => h) (Or.inl ⟨by rfl, ?_⟩) (by assumption) ?_
  rotate_left
  · ((intro w' hSw); (try dsimp only at hSw); (try go_simp); (try with_reducible rfl))
  clear hi
  (try simp only [Act.put, List.setIfInBounds_toArray, List.set_cons_zero, List.set_cons_succ])
  have hi := getopN hO 12 (by decide)
  conv at hi => rhs; arg 1; whnf
  refine anyE_stepV hO 12 (by kernel_rfl) hi (fun K hK => ?_)
  go_simp
  (go_at_call 68; refine (HMT.out _).mono ?_)
  rintro e x3 ⟨u1, rfl, hu1, hEz⟩
  have HU1 := Lib.hid hu1
  clear hu1
  go_wp2_with fail
  refine hK.out _ _ ⟨(hEz).cell hHeld.1, (hEz).cell hHeld.2.1, (hEz).cell hHeld.2.2.1, Ext.trans hHeld.2.2.2.out (hEz)⟩ (fun hHeld => ?_)
  clear hK K hi
  (try simp only [Act.put, List.setIfInBounds_toArray, List.set_cons_zero, List.set_cons_succ])
  have hi := getopN hO 13 (by decide)
  conv at hi => rhs; arg 1; whnf
  refine anyE_stepV hO 13 (by kernel_rfl) hi (fun K hK => ?_)
  go_simp
  (go_at_call 67; refine (HEQ2.out _ _ (Ext.trans HE4.out (hHeld.2.2.2.out)) HU1.out).mono ?_)
  rintro e x4 ⟨rfl, hEz⟩
  go_wp2_with fail
  refine hK.out _ _ ⟨(hEz).cell hHeld.1, (hEz).cell hHeld.2.1, (hEz).cell hHeld.2.2.1, Ext.trans hHeld.2.2.2.out (hEz)⟩ (fun hHeld => ?_)
  clear hK K hi
  (try simp only [Act.put, List.setIfInBounds_toArray, List.set_cons_zero, List.set_cons_succ])
  have hi := getopN hO 15 (by decide)
  conv at hi => rhs; arg 1; whnf
  refine anyE_stepV hO 15 (by kernel_rfl) hi (fun K hK => ?_)
  go_simp
  (go_at_call 68; refine (HMT.out _).mono ?_)
  rintro e x5 ⟨u2, rfl, hu2, hEz⟩
  have HU2 := Lib.hid hu2
  clear hu2
  go_wp2_with fail
  refine hK.out _ _ ⟨(hEz).cell hHeld.1, (hEz).cell hHeld.2.1, (hEz).cell hHeld.2.2.1, Ext.trans hHeld.2.2.2.out (hEz)⟩ (fun hHeld => ?_)
  clear hK K hi
  (try simp only [Act.put, List.setIfInBounds_toArray, List.set_cons_zero, List.set_cons_succ])
  have hi := getopN hO 16 (by decide)
  conv at hi => rhs; arg 1; whnf
  refine anyE_stepV hO 16 (by kernel_rfl) hi (fun K hK => ?_)
  go_simp
  (go_at_call 58; refine (HSM2.out _ _ (Ext.trans HE4.out (hHeld.2.2.2.out)) HU2.out).mono ?_)
  rintro e x6 ⟨rfl, hEz⟩
  go_wp2_with fail
  refine hK.out _ _ ⟨(hEz).cell hHeld.1, (hEz).cell hHeld.2.1, (hEz).cell hHeld.2.2.1, Ext.trans hHeld.2.2.2.out (hEz)⟩ (fun hHeld => ?_)
  clear hK K hi
  (try simp only [Act.put, List.setIfInBounds_toArray, List.set_cons_zero, List.set_cons_succ])
  have HZE := Lib.hid (hHeld.2.2.2.out)
  have hi := getopN hO 17 (by decide)
  conv at hi => rhs; arg 1; whnf
  refine anyE_takeWV hO (v := ?_) 17 hi (by kernel_rfl) (by kernel_rfl) (by kernel_rfl) (by kernel_rfl) (fun _ _ _ h => h) (Or.inl ⟨by rfl, ?_⟩) (by assumption) ?_
  rotate_left
  · ((intro w'); (try go_simp); (try with_reducible rfl))
  clear hi
  (try simp only [Act.put, List.setIfInBounds_toArray, List.set_cons_zero, List.set_cons_succ])
  have hi := getopN hO 18 (by decide)
  conv at hi => rhs; arg 1; whnf
  refine anyE_lastV hO 18 (by kernel_rfl) (by kernel_rfl) hi (fun K hK => ?_)
  go_simp
  refine hK.out _ _ (by assumption) ?_
  clear hK K hi hO
  (try simp only [Act.put, List.setIfInBounds_toArray, List.set_cons_zero, List.set_cons_succ])
  have HE5 := Lib.hid (HE4.out.trans HZE.out)
  have HB5 := Lib.hid (block_ext HB4.out HZE.out)
  clear s0 s1 s2 HZE HE4 HB4 HEQ1 HEQ2 HSM2 HMT HU1 HU2
  obtain ⟨b3, hb3⟩ : ∃ b, w3.heap.size = b := ⟨_, rfl⟩
  rw [hb3] at HB5
  simp only [hb3]
  clear hb3
  by_cases hE0 : E = 0
  · subst hE0
    have hR := HRG.out rfl
    obtain ⟨a1, a2⟩ := allE_none hR.n1
    have hpb := (primesE_len hR.pr).2.2
    have H1 := Lib.hid (fun W (hW : Ext w W) => trank_any P.length F P C M _ W (HV.out.ext hW) hR (HL.out W hW).1 (HL.out W hW).2)
    have H2 := Lib.hid (fun W (hW : Ext w W) => tcorank_any P.length F P C M _ W (HV.out.ext hW) hR (HL.out W hW).1 (HL.out W hW).2)
    have H3 := Lib.hid (fun W (hW : Ext w W) => temper_bad P.length F P C M [] _ _ W (HV.out.ext hW) (ints_zero W) hR (by rw [a1]; decide) (HL.out W hW).1 (HL.out W hW).2)
    have H4 := Lib.hid (fun W (hW : Ext w W) => tempersOut_bad P.length F P C M [] _ _ W (HV.out.ext hW) (ints_zero W) hR (by rw [a1]; decide) (HL.out W hW).1 (HL.out W hW).2)
    have H5 := Lib.hid (fun W (hW : Ext w W) => identified_bad P.length F P C M [] [] _ _ _ W (HV.out.ext hW) (ints_zero W) (ints_zero W) hR (by rw [a2]; decide) (HL.out W hW).1 (HL.out W hW).2)
    have H6 := Lib.hid (fun W (hW : Ext w W) => trepr_bad P.length F P C M [] _ _ W (HV.out.ext hW) (ints_zero W) hR (by rw [a1]; decide) (HL.out W hW).1 (HL.out W hW).2)
    have H7 := Lib.hid (fun W (hW : Ext w W) => ttext_any P.length F P C M _ W (HV.out.ext hW) hR hpb (HL.out W hW).1 (HL.out W hW).2)
    rw [a1] at H3 H4 H6
    rw [a2] at H5
    obtain ⟨ST, hST⟩ : ∃ s, (⟨(tempS P C M).toArray⟩ : ByteArray) = s := ⟨_, rfl⟩
    rw [hST] at H7
    clear hR a1 a2 hpb hST HRG hzE2
    obtain ⟨s0, s1, s2, -⟩ := tp_block HB5.out
    go_wp2_with fail
    clear s0 s1 s2
    refine (H1.out _ HE5.out).mono ?_
    rintro e w6 ⟨rfl, hE6⟩
    have HE6 := Lib.hid (HE5.out.trans hE6); have HB6 := Lib.hid (block_ext HB5.out hE6)
    clear hE6 HE5 HB5 H1
    obtain ⟨s0, s1, s2, -⟩ := tp_block HB6.out
    go_wp2_with fail
    clear s0 s1 s2
    refine (H2.out _ HE6.out).mono ?_
    rintro e w7 ⟨rfl, hE7⟩
    have HE7 := Lib.hid (HE6.out.trans hE7); have HB7 := Lib.hid (block_ext HB6.out hE7)
    clear hE7 HE6 HB6 H2
    obtain ⟨s0, s1, s2, -⟩ := tp_block HB7.out
    go_wp2_with fail
    clear s0 s1 s2
    refine (H3.out _ HE7.out).mono ?_
    rintro e w8 ⟨rfl, hE8⟩
    have HE8 := Lib.hid (HE7.out.trans hE8); have HB8 := Lib.hid (block_ext HB7.out hE8)
    clear hE8 HE7 HB7 H3
    obtain ⟨s0, s1, s2, -⟩ := tp_block HB8.out
    go_wp2_with fail
    clear s0 s1 s2
    refine (H4.out _ HE8.out).mono ?_
    rintro e w9 ⟨rfl, hE9⟩
    have HE9 := Lib.hid (HE8.out.trans hE9); have HB9 := Lib.hid (block_ext HB8.out hE9)
    clear hE9 HE8 HB8 H4
    obtain ⟨s0, s1, s2, -⟩ := tp_block HB9.out
    go_wp2_with fail
    clear s0 s1 s2
    refine (H5.out _ HE9.out).mono ?_
    rintro e w10 ⟨rfl, hE10⟩
    have HE10 := Lib.hid (HE9.out.trans hE10); have HB10 := Lib.hid (block_ext HB9.out hE10)
    clear hE10 HE9 HB9 H5
    obtain ⟨s0, s1, s2, -⟩ := tp_block HB10.out
    go_wp2_with fail
    clear s0 s1 s2
    refine (H6.out _ HE10.out).mono ?_
    rintro e w11 ⟨rfl, hE11⟩
    have HE11 := Lib.hid (HE10.out.trans hE11); have HB11 := Lib.hid (block_ext HB10.out hE11)
    clear hE11 HE10 HB10 H6
    obtain ⟨s0, s1, s2, -⟩ := tp_block HB11.out
    go_wp2_with fail
    clear s0 s1 s2
    refine (H7.out _ HE11.out).mono ?_
    rintro e w12 ⟨rfl, hE12⟩
    have HE12 := Lib.hid (HE11.out.trans hE12); have HB12 := Lib.hid (block_ext HB11.out hE12)
    clear hE12 HE11 HB11 H7
    go_wp2_with fail
    go_ret
    exact ⟨rfl, HE12.out⟩
  · have hz1 : (E == 0) = false := by simp [hE0]
    have H1 := Lib.hid (fun W (hW : Ext w W) => trank_err P C M _ W (HV.out.ext hW) E hE0 (fun W' hW' => HCK.out W' (hW.trans hW')))
    have H2 := Lib.hid (fun W (hW : Ext w W) => tcorank_err P C M _ W (HV.out.ext hW) E hE0 (fun W' hW' => HCK.out W' (hW.trans hW')))
    have H3 := Lib.hid (fun W (hW : Ext w W) => temper_err P C M _ W (HV.out.ext hW) E hE0 (fun W' hW' => HCK.out W' (hW.trans hW')))
    have H4 := Lib.hid (fun W (hW : Ext w W) => tempersOut_err P C M _ W (HV.out.ext hW) E hE0 (fun W' hW' => HCK.out W' (hW.trans hW')))
    have H5 := Lib.hid (fun W (hW : Ext w W) => identified_err P C M _ W (HV.out.ext hW) E hE0 (fun W' hW' => HCK.out W' (hW.trans hW')))
    have H6 := Lib.hid (fun W (hW : Ext w W) => trepr_err P C M _ W (HV.out.ext hW) E hE0 (fun W' hW' => HCK.out W' (hW.trans hW')))
    have H7 := Lib.hid (fun W (hW : Ext w W) => ttext_err P C M _ W (HV.out.ext hW) E hE0 (fun W' hW' => HCK.out W' (hW.trans hW')))
    clear hE0 HRG
    obtain ⟨s0, s1, s2, -⟩ := tp_block HB5.out
    go_wp2_with fail
    clear s0 s1 s2
    refine (H1.out _ HE5.out).mono ?_
    rintro e w6 ⟨rfl, hE6⟩
    have HE6 := Lib.hid (HE5.out.trans hE6); have HB6 := Lib.hid (block_ext HB5.out hE6)
    clear hE6 HE5 HB5 H1
    obtain ⟨s0, s1, s2, -⟩ := tp_block HB6.out
    go_wp2_with fail
    clear s0 s1 s2
    refine (H2.out _ HE6.out).mono ?_
    rintro e w7 ⟨rfl, hE7⟩
    have HE7 := Lib.hid (HE6.out.trans hE7); have HB7 := Lib.hid (block_ext HB6.out hE7)
    clear hE7 HE6 HB6 H2
    obtain ⟨s0, s1, s2, -⟩ := tp_block HB7.out
    go_wp2_with fail
    clear s0 s1 s2
    refine (H3.out _ HE7.out).mono ?_
    rintro e w8 ⟨rfl, hE8⟩
    have HE8 := Lib.hid (HE7.out.trans hE8); have HB8 := Lib.hid (block_ext HB7.out hE8)
    clear hE8 HE7 HB7 H3
    obtain ⟨s0, s1, s2, -⟩ := tp_block HB8.out
    go_wp2_with fail
    clear s0 s1 s2
    refine (H4.out _ HE8.out).mono ?_
    rintro e w9 ⟨rfl, hE9⟩
    have HE9 := Lib.hid (HE8.out.trans hE9); have HB9 := Lib.hid (block_ext HB8.out hE9)
    clear hE9 HE8 HB8 H4
    obtain ⟨s0, s1, s2, -⟩ := tp_block HB9.out
    go_wp2_with fail
    clear s0 s1 s2
    refine (H5.out _ HE9.out).mono ?_
    rintro e w10 ⟨rfl, hE10⟩
    have HE10 := Lib.hid (HE9.out.trans hE10); have HB10 := Lib.hid (block_ext HB9.out hE10)
    clear hE10 HE9 HB9 H5
    obtain ⟨s0, s1, s2, -⟩ := tp_block HB10.out
    go_wp2_with fail
    clear s0 s1 s2
    refine (H6.out _ HE10.out).mono ?_
    rintro e w11 ⟨rfl, hE11⟩
    have HE11 := Lib.hid (HE10.out.trans hE11); have HB11 := Lib.hid (block_ext HB10.out hE11)
    clear hE11 HE10 HB10 H6
    obtain ⟨s0, s1, s2, -⟩ := tp_block HB11.out
    go_wp2_with fail
    clear s0 s1 s2
    refine (H7.out _ HE11.out).mono ?_
    rintro e w12 ⟨rfl, hE12⟩
    have HE12 := Lib.hid (HE11.out.trans hE12); have HB12 := Lib.hid (block_ext HB11.out hE12)
    clear hE12 HE11 HB11 H7
    go_wp2_with fail
    go_ret
    exact ⟨rfl, HE12.out⟩
end Go.Proofs.YtehknemdfbkimaaGreatDoor
