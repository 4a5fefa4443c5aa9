/- Merged: LChecks. -/
import Derived.Test.YtielnneclcekbaaGreatDoorQBK
import Derived.Test.YtielnneclcekbaaGreatDoorQBL
/- The walk of LatticeChecks. Printed by gen/lchecks.py. -/
namespace Go.Proofs.YtielnneclcekbaaGreatDoor
set_option linter.unusedVariables false
set_option linter.unusedSimpArgs false
open Go.RowKit

theorem rowLE_bad {n : Int} {xss : List (List Int)} {x : List Int} (h : chkE n xss ≠ 0) : rowLE n xss x = chkE n xss := by unfold rowLE; rw [if_neg h]
theorem bothE_bad {n k : Int} {xss yss : List (List Int)} (h : chkE n xss ≠ 0) : bothE n xss k yss = chkE n xss := by unfold bothE; rw [if_neg h]
theorem ints_nil (w : World) : Ints w (.slice none 0 0) [] := ⟨[], rfl, by simp, ⟨none, 0, rfl, Nat.le_refl _, by unfold maxLen; omega, fun _ => rfl, fun h => absurd rfl h⟩, by simp⟩

set_option maxRecDepth 100000 in
set_option maxHeartbeats 8000000 in
theorem latChecks_walk (n k : Int) (xss yss : List (List Int)) (v u : Value) (w : World) (h : LatV w v n xss) (h' : LatV w u k yss) (hlib : LibT w) (hb : 2 < w.heap.size) :
    Calls Tryz.prog 9 #[v, u] w fun e w' => e = .returned (.bool true) ∧ Ext w w' := by
  have HKN := Lib.hid (fun W (hW : Ext w W) => known9_any W (hlib.ext hW) (Nat.lt_of_lt_of_le hb hW.size))
  have HV := Lib.hid (fun W (hW : Ext w W) => h.ext hW)
  have HV' := Lib.hid (fun W (hW : Ext w W) => h'.ext hW)
  obtain ⟨v1, rfl, hv⟩ := h
  obtain ⟨u1, rfl, hu⟩ := h'
  have HR := Lib.hid (fun W (hW : Ext w W) => hv.ext hW); have HR' := Lib.hid (fun W (hW : Ext w W) => hu.ext hW)
  obtain ⟨a, c, rfl, h1, h2, -, hc⟩ := inCell.open hv
  obtain ⟨a', c', rfl, k1, k2, -, kc⟩ := inCell.open hu
  clear hv hu hc kc hlib hb
  obtain ⟨W1, hW1, hE1, hs1, hb1⟩ := lat_new w (.int .i64 n) (.slice a xss.length c)
  obtain ⟨W2, hW2, hE2, hs2, hb2⟩ := lat_new W1 (.int .i64 k) (.slice a' yss.length c')
  have z1 : W1.heap.size = w.heap.size + 1 := hs1
  rw [z1] at hb2
  have HB1 := Lib.hid (block_ext hb1 hE2); have HB2 := Lib.hid hb2
  have HE2 := Lib.hid (hE1.trans hE2)
  obtain ⟨p0, p1, -⟩ := lat_block HB1.out
  obtain ⟨q0, q1, -⟩ := lat_block HB2.out
  have HS1 := Lib.hid (fun W (hW : Ext w W) => short9_any xss _ W (HR.out W hW))
  have HS2 := Lib.hid (fun W (hW : Ext w W) => short9_any yss _ W (HR'.out W hW))
  obtain ⟨SX, hSX⟩ : ∃ b, shortB xss = b := ⟨_, rfl⟩
  obtain ⟨SY, hSY⟩ : ∃ b, shortB yss = b := ⟨_, rfl⟩
  rw [hSX] at HS1
  rw [hSY] at HS2
  clear hE1 hE2 hs1 hs2 hb1 hb2 hSX hSY
  go_enter Tryz.func9, Tryz.ntmps9
  go_wp2_with fail
  refine (HKN.out _ HE2.out).mono ?_
  rintro e w1 ⟨rfl, hE3⟩
  have HE3 := Lib.hid (HE2.out.trans hE3); have HX3 := Lib.hid hE3
  have r0 := hE3.cell p0; have r1 := hE3.cell p1; have s0 := hE3.cell q0; have s1 := hE3.cell q1
  clear hE3 hW1 hW2 z1 p0 p1 q0 q1
  cases SX with
  | false =>
    go_wp2_with fail
    refine (HS1.out _ HE3.out).mono ?_
    rintro e w2 ⟨rfl, hE4⟩
    have HE4 := Lib.hid (HE3.out.trans hE4)
    clear hE4 HS1 HS2
    go_wp2_with fail
    refine (HKN.out _ HE4.out).mono ?_
    rintro e w3 ⟨rfl, hE5⟩
    have HE5 := Lib.hid (HE4.out.trans hE5)
    clear hE5 HKN
    go_wp2_with fail
    go_ret
    exact ⟨rfl, HE5.out⟩
  | true =>
  go_wp2_with fail
  refine (HS1.out _ HE3.out).mono ?_
  rintro e w2 ⟨rfl, hE4⟩
  have HE4 := Lib.hid (HE3.out.trans hE4); have HX4 := Lib.hid (HX3.out.trans hE4)
  have p0 := hE4.cell r0; have p1 := hE4.cell r1; have q0 := hE4.cell s0; have q1 := hE4.cell s1
  clear hE4 HS1 r0 r1 s0 s1
  cases SY with
  | false =>
    go_wp2_with fail
    refine (HS2.out _ HE4.out).mono ?_
    rintro e w3 ⟨rfl, hE5⟩
    have HE5 := Lib.hid (HE4.out.trans hE5)
    clear hE5 HS2
    go_wp2_with fail
    refine (HKN.out _ HE5.out).mono ?_
    rintro e w4 ⟨rfl, hE6⟩
    have HE6 := Lib.hid (HE5.out.trans hE6)
    clear hE6 HKN
    go_wp2_with fail
    go_ret
    exact ⟨rfl, HE6.out⟩
  | true =>
  go_wp2_with fail
  refine (HS2.out _ HE4.out).mono ?_
  rintro e w3 ⟨rfl, hE5⟩
  have HE5 := Lib.hid (HE4.out.trans hE5); have HX5 := Lib.hid (HX4.out.trans hE5)
  have r0 := hE5.cell p0; have r1 := hE5.cell p1; have s0 := hE5.cell q0; have s1 := hE5.cell q1
  clear hE5 HS2 HKN p0 p1 q0 q1
  have HCK := Lib.hid (fun W (hW : Ext w W) => check9_any n xss _ W (HV.out W hW))
  have HLC := Lib.hid (fun W (hW : Ext w W) => latChk_any n xss _ W (HV.out W hW))
  have HEQ1 := Lib.hid (fun W (hW : Ext w W) => latEqual_any n k xss yss _ _ W (HV.out W hW) (HV'.out W hW))
  have HEQ2 := Lib.hid (fun W (hW : Ext w W) => equal9_any n k xss yss _ _ W (HV.out W hW) (HV'.out W hW))
  have HEQ3 := Lib.hid (fun W (hW : Ext w W) => latEqual_any n n xss xss _ _ W (HV.out W hW) (HV.out W hW))
  have hself : (decide (n = n) && xss == xss) = true := by simp
  rw [hself] at HEQ3
  obtain ⟨EB, hEB⟩ : ∃ b, (decide (n = k) && xss == yss) = b := ⟨_, rfl⟩
  rw [hEB] at HEQ1 HEQ2
  obtain ⟨E, hE⟩ : ∃ E, chkE n xss = E := ⟨_, rfl⟩
  rw [hE] at HCK HLC
  have HEE := Lib.hid hE
  clear hE hself hEB
  have hEBx : (EB != EB) = false := by simp
  go_wp2_with fail
  refine (HCK.out _ HE5.out).mono ?_
  rintro e w4 ⟨rfl, hE6⟩
  have HE6 := Lib.hid (HE5.out.trans hE6); have HX6 := Lib.hid (HX5.out.trans hE6)
  have p0 := hE6.cell r0; have p1 := hE6.cell r1; have q0 := hE6.cell s0; have q1 := hE6.cell s1
  clear hE6 HCK r0 r1 s0 s1
  have hEx : (E != E) = false := by simp
  go_wp2_with fail
  --<R4
  refine region_anyEV (fun w' => w'.cell? ⟨w.heap.size, 0, none⟩ = some (.int .i64 n) ∧ w'.cell? ⟨w.heap.size, 1, none⟩ = some (.slice a xss.length c) ∧ w'.cell? ⟨w.heap.size + 1, 0, none⟩ = some (.int .i64 k) ∧ w'.cell? ⟨w.heap.size + 1, 1, none⟩ = some (.slice a' yss.length c') ∧ Hid (Ext w4 w')) 19 19 (by kernel_rfl) (by kernel_rfl) ⟨(Ext.drew w4).cell p0, (Ext.drew w4).cell p1, (Ext.drew w4).cell q0, (Ext.drew w4).cell q1, Ext.drew w4⟩ (fun ops hO hHeld => ?_)
  have hi := getopN hO 0 (by decide)
  conv at hi => rhs; arg 1; whnf
  refine anyE_takeV hO (v := ?_) 0 hi (by kernel_rfl) (by kernel_rfl) (by kernel_rfl) (by kernel_rfl) (fun _ _ _ h => h) (Or.inl ⟨by rfl, ?_⟩) (by assumption) ?_
  rotate_left
  · ((intro w' hSw); (try dsimp only at hSw); (try go_simp); (try with_reducible rfl))
  clear hi
  (try simp only [Act.put, List.setIfInBounds_toArray, List.set_cons_zero, List.set_cons_succ])
  have hi := getopN hO 2 (by decide)
  conv at hi => rhs; arg 1; whnf
  refine anyE_takeWV hO (v := ?_) 2 hi (by kernel_rfl) (by kernel_rfl) (by kernel_rfl) (by kernel_rfl) (fun _ _ _ h => h) (Or.inl ⟨by rfl, ?_⟩) (by assumption) ?_
  rotate_left
  · ((intro w'); (try go_simp); (try with_reducible rfl))
  clear hi
  (try simp only [Act.put, List.setIfInBounds_toArray, List.set_cons_zero, List.set_cons_succ])
  have hi := getopN hO 1 (by decide)
  conv at hi => rhs; arg 1; whnf
  refine anyE_stepV hO 1 (by kernel_rfl) hi (fun K hK => ?_)
  go_simp
  (go_at_call 16; refine (HLC.out _ (HE6.out.trans hHeld.2.2.2.2.out)).mono ?_)
  rintro e x1 ⟨rfl, hEz⟩
  go_wp2_with fail
  refine hK.out _ _ ⟨(hEz).cell hHeld.1, (hEz).cell hHeld.2.1, (hEz).cell hHeld.2.2.1, (hEz).cell hHeld.2.2.2.1, Ext.trans hHeld.2.2.2.2.out (hEz)⟩ (fun hHeld => ?_)
  clear hK K hi
  (try simp only [Act.put, List.setIfInBounds_toArray, List.set_cons_zero, List.set_cons_succ])
  have hi := getopN hO 3 (by decide)
  conv at hi => rhs; arg 1; whnf
  refine anyE_takeWV hO (v := ?_) 3 hi (by kernel_rfl) (by kernel_rfl) (by kernel_rfl) (by kernel_rfl) (fun _ _ _ h => h) (Or.inl ⟨by rfl, ?_⟩) (by assumption) ?_
  rotate_left
  · ((intro w'); (try go_simp); (try with_reducible rfl))
  clear hi
  (try simp only [Act.put, List.setIfInBounds_toArray, List.set_cons_zero, List.set_cons_succ])
  have hi := getopN hO 4 (by decide)
  conv at hi => rhs; arg 1; whnf
  refine anyE_takeWV hO (v := ?_) 4 hi (by kernel_rfl) (by kernel_rfl) (by kernel_rfl) (by kernel_rfl) (fun _ _ _ h => h) (Or.inl ⟨by rfl, ?_⟩) (by assumption) ?_
  rotate_left
  · ((intro w'); (try go_simp); (try with_reducible rfl))
  clear hi
  (try simp only [Act.put, List.setIfInBounds_toArray, List.set_cons_zero, List.set_cons_succ])
  have hi := getopN hO 5 (by decide)
  conv at hi => rhs; arg 1; whnf
  refine anyE_takeV hO (v := ?_) 5 hi (by kernel_rfl) (by kernel_rfl) (by kernel_rfl) (by kernel_rfl) (fun _ _ _ h => h) (Or.inl ⟨by rfl, ?_⟩) (by assumption) ?_
  rotate_left
  · ((intro w' hSw); (try dsimp only at hSw); (try go_simp); (try with_reducible rfl))
  clear hi
  (try simp only [Act.put, List.setIfInBounds_toArray, List.set_cons_zero, List.set_cons_succ])
  have hi := getopN hO 6 (by decide)
  conv at hi => rhs; arg 1; whnf
  refine anyE_takeV hO (v := ?_) 6 hi (by kernel_rfl) (by kernel_rfl) (by kernel_rfl) (by kernel_rfl) (fun _ _ _ h => h) (Or.inl ⟨by rfl, ?_⟩) (by assumption) ?_
  rotate_left
  · ((intro w' hSw); (try dsimp only at hSw); (try go_simp); (try with_reducible rfl))
  clear hi
  (try simp only [Act.put, List.setIfInBounds_toArray, List.set_cons_zero, List.set_cons_succ])
  have hi := getopN hO 8 (by decide)
  conv at hi => rhs; arg 1; whnf
  refine anyE_takeV hO (v := ?_) 8 hi (by kernel_rfl) (by kernel_rfl) (by kernel_rfl) (by kernel_rfl) (fun _ _ _ h => h) (Or.inl ⟨by rfl, ?_⟩) (by assumption) ?_
  rotate_left
  · ((intro w' hSw); (try dsimp only at hSw); (try go_simp); (try with_reducible rfl))
  clear hi
  (try simp only [Act.put, List.setIfInBounds_toArray, List.set_cons_zero, List.set_cons_succ])
  have hi := getopN hO 9 (by decide)
  conv at hi => rhs; arg 1; whnf
  refine anyE_takeV hO (v := ?_) 9 hi (by kernel_rfl) (by kernel_rfl) (by kernel_rfl) (by kernel_rfl) (fun _ _ _ h => h) (Or.inl ⟨by rfl, ?_⟩) (by assumption) ?_
  rotate_left
  · ((intro w' hSw); (try dsimp only at hSw); (try go_simp); (try with_reducible rfl))
  clear hi
  (try simp only [Act.put, List.setIfInBounds_toArray, List.set_cons_zero, List.set_cons_succ])
  have hi := getopN hO 7 (by decide)
  conv at hi => rhs; arg 1; whnf
  refine anyE_stepV hO 7 (by kernel_rfl) hi (fun K hK => ?_)
  go_simp
  (go_at_call 35; refine (HEQ1.out _ (HE6.out.trans hHeld.2.2.2.2.out)).mono ?_)
  rintro e x2 ⟨rfl, hEz⟩
  go_wp2_with fail
  refine hK.out _ _ ⟨(hEz).cell hHeld.1, (hEz).cell hHeld.2.1, (hEz).cell hHeld.2.2.1, (hEz).cell hHeld.2.2.2.1, Ext.trans hHeld.2.2.2.2.out (hEz)⟩ (fun hHeld => ?_)
  clear hK K hi
  (try simp only [Act.put, List.setIfInBounds_toArray, List.set_cons_zero, List.set_cons_succ])
  have hi := getopN hO 10 (by decide)
  conv at hi => rhs; arg 1; whnf
  refine anyE_stepV hO 10 (by kernel_rfl) hi (fun K hK => ?_)
  go_simp
  (go_at_call 42; refine (HEQ2.out _ (HE6.out.trans hHeld.2.2.2.2.out)).mono ?_)
  rintro e x3 ⟨rfl, hEz⟩
  go_wp2_with fail
  refine hK.out _ _ ⟨(hEz).cell hHeld.1, (hEz).cell hHeld.2.1, (hEz).cell hHeld.2.2.1, (hEz).cell hHeld.2.2.2.1, Ext.trans hHeld.2.2.2.2.out (hEz)⟩ (fun hHeld => ?_)
  clear hK K hi
  (try simp only [Act.put, List.setIfInBounds_toArray, List.set_cons_zero, List.set_cons_succ])
  have hi := getopN hO 11 (by decide)
  conv at hi => rhs; arg 1; whnf
  refine anyE_takeWV hO (v := ?_) 11 hi (by kernel_rfl) (by kernel_rfl) (by kernel_rfl) (by kernel_rfl) (fun _ _ _ h => h) (Or.inl ⟨by rfl, ?_⟩) (by assumption) ?_
  rotate_left
  · ((intro w'); (try go_simp); (try with_reducible rfl))
  clear hi
  (try simp only [Act.put, List.setIfInBounds_toArray, List.set_cons_zero, List.set_cons_succ])
  have hi := getopN hO 12 (by decide)
  conv at hi => rhs; arg 1; whnf
  refine anyE_takeWV hO (v := ?_) 12 hi (by kernel_rfl) (by kernel_rfl) (by kernel_rfl) (by kernel_rfl) (fun _ _ _ h => h) (Or.inl ⟨by rfl, ?_⟩) (by assumption) ?_
  rotate_left
  · ((intro w'); (try go_simp); (try with_reducible rfl))
  clear hi
  (try simp only [Act.put, List.setIfInBounds_toArray, List.set_cons_zero, List.set_cons_succ])
  have hi := getopN hO 13 (by decide)
  conv at hi => rhs; arg 1; whnf
  refine anyE_takeWV hO (v := ?_) 13 hi (by kernel_rfl) (by kernel_rfl) (by kernel_rfl) (by kernel_rfl) (fun _ _ _ h => h) (Or.inl ⟨by rfl, ?_⟩) (by assumption) ?_
  rotate_left
  · ((intro w'); (try go_simp); (try with_reducible rfl))
  clear hi
  (try simp only [Act.put, List.setIfInBounds_toArray, List.set_cons_zero, List.set_cons_succ])
  have hi := getopN hO 14 (by decide)
  conv at hi => rhs; arg 1; whnf
  refine anyE_takeV hO (v := ?_) 14 hi (by kernel_rfl) (by kernel_rfl) (by kernel_rfl) (by kernel_rfl) (fun _ _ _ h => h) (Or.inl ⟨by rfl, ?_⟩) (by assumption) ?_
  rotate_left
  · ((intro w' hSw); (try dsimp only at hSw); (try go_simp); (try with_reducible rfl))
  clear hi
  (try simp only [Act.put, List.setIfInBounds_toArray, List.set_cons_zero, List.set_cons_succ])
  have hi := getopN hO 15 (by decide)
  conv at hi => rhs; arg 1; whnf
  refine anyE_takeV hO (v := ?_) 15 hi (by kernel_rfl) (by kernel_rfl) (by kernel_rfl) (by kernel_rfl) (fun _ _ _ h => h) (Or.inl ⟨by rfl, ?_⟩) (by assumption) ?_
  rotate_left
  · ((intro w' hSw); (try dsimp only at hSw); (try go_simp); (try with_reducible rfl))
  clear hi
  (try simp only [Act.put, List.setIfInBounds_toArray, List.set_cons_zero, List.set_cons_succ])
  have hi := getopN hO 16 (by decide)
  conv at hi => rhs; arg 1; whnf
  refine anyE_stepV hO 16 (by kernel_rfl) hi (fun K hK => ?_)
  go_simp
  (go_at_call 35; refine (HEQ3.out _ (HE6.out.trans hHeld.2.2.2.2.out)).mono ?_)
  rintro e x4 ⟨rfl, hEz⟩
  go_wp2_with fail
  refine hK.out _ _ ⟨(hEz).cell hHeld.1, (hEz).cell hHeld.2.1, (hEz).cell hHeld.2.2.1, (hEz).cell hHeld.2.2.2.1, Ext.trans hHeld.2.2.2.2.out (hEz)⟩ (fun hHeld => ?_)
  clear hK K hi
  (try simp only [Act.put, List.setIfInBounds_toArray, List.set_cons_zero, List.set_cons_succ])
  have hi := getopN hO 17 (by decide)
  conv at hi => rhs; arg 1; whnf
  refine anyE_takeWV hO (v := ?_) 17 hi (by kernel_rfl) (by kernel_rfl) (by kernel_rfl) (by kernel_rfl) (fun _ _ _ h => h) (Or.inl ⟨by rfl, ?_⟩) (by assumption) ?_
  rotate_left
  · ((intro w'); (try go_simp); (try with_reducible rfl))
  clear hi
  (try simp only [Act.put, List.setIfInBounds_toArray, List.set_cons_zero, List.set_cons_succ])
  have hi := getopN hO 18 (by decide)
  conv at hi => rhs; arg 1; whnf
  refine anyE_lastV hO 18 (by kernel_rfl) (by kernel_rfl) hi (fun K hK => ?_)
  go_simp
  refine hK.out _ _ (by assumption) ?_
  clear hK K hi hO
  (try simp only [Act.put, List.setIfInBounds_toArray, List.set_cons_zero, List.set_cons_succ])
  -->R4
  have HX7 : Hid (Ext w4 x4) := hHeld.2.2.2.2.out
  have HE7 := Lib.hid (HE6.out.trans HX7.out)
  have r0 := HX7.out.cell p0; have r1 := HX7.out.cell p1; have s0 := HX7.out.cell q0; have s1 := HX7.out.cell q1
  clear hHeld p0 p1 q0 q1
  by_cases hE0 : E = 0
  · go_wp2_with fail
    go_ret
    exact ⟨rfl, HE7.out⟩
  have hne : chkE n xss ≠ 0 := by rw [HEE.out]; exact hE0
  have HNN : Hid (∀ W, Ext w W → Calls Tryz.prog 14 #[.agg #[.int .i64 0, .slice none 0 0]] W fun e w' => e = .returned (.bool true) ∧ Ext W w') := fun W _ => none9_any 0 [] _ W (latV_zero W)
  have HC1 := Lib.hid (fun W (hW : Ext w W) => contains_bad n xss [] _ _ W (HV.out W hW) (ints_nil W) (by rw [rowLE_bad hne]; exact hne))
  rw [rowLE_bad hne, HEE.out] at HC1
  have HC2 := Lib.hid (fun W (hW : Ext w W) => within_bad n xss k yss _ _ W (HV.out W hW) (HV'.out W hW) (by rw [bothE_bad hne]; exact hne))
  rw [bothE_bad hne, HEE.out] at HC2
  have HC3 := Lib.hid (fun W (hW : Ext w W) => coords_bad n xss [] _ _ W (HV.out W hW) (ints_nil W) (by rw [rowLE_bad hne]; exact hne))
  rw [rowLE_bad hne, HEE.out] at HC3
  have HC4 := Lib.hid (fun W (hW : Ext w W) => sum_bad n xss k yss _ _ W (HV.out W hW) (HV'.out W hW) (by rw [bothE_bad hne]; exact hne))
  rw [bothE_bad hne, HEE.out] at HC4
  have HC5 := Lib.hid (fun W (hW : Ext w W) => intersect_bad n xss k yss _ _ W (HV.out W hW) (HV'.out W hW) (by rw [bothE_bad hne]; exact hne))
  rw [bothE_bad hne, HEE.out] at HC5
  have HC6 := Lib.hid (fun W (hW : Ext w W) => sat_bad n xss _ W (HV.out W hW) hne)
  rw [HEE.out] at HC6
  have HC7 := Lib.hid (fun W (hW : Ext w W) => ann_bad n xss _ W (HV.out W hW) hne)
  rw [HEE.out] at HC7
  have HC8 := Lib.hid (fun W (hW : Ext w W) => index_bad n xss _ W (HV.out W hW) hne)
  rw [HEE.out] at HC8
  have HC9 := Lib.hid (fun W (hW : Ext w W) => repr_bad n xss [] _ _ W (HV.out W hW) (ints_nil W) (by rw [rowLE_bad hne]; exact hne))
  rw [rowLE_bad hne, HEE.out] at HC9
  have HC10 := Lib.hid (fun W (hW : Ext w W) => box_bad n xss (-1) _ W (HV.out W hW) hne)
  rw [HEE.out] at HC10
  have hE1 : (E == 0) = false := by simpa using hE0
  have hEE : (E == E) = true := by simp
  clear hne HR HR' HLC HEQ1 HEQ2 HEQ3 HV HV' HEE
  go_wp2_with fail
  refine (HC1.out _ HE7.out).mono ?_
  rintro e y8 ⟨rfl, hEx⟩
  have HE8 := Lib.hid (HE7.out.trans hEx)
  have r0 := hEx.cell r0
  have r1 := hEx.cell r1
  have s0 := hEx.cell s0
  have s1 := hEx.cell s1
  clear hEx HC1
  go_wp2_with fail
  refine (HC2.out _ HE8.out).mono ?_
  rintro e y9 ⟨rfl, hEx⟩
  have HE9 := Lib.hid (HE8.out.trans hEx)
  have r0 := hEx.cell r0
  have r1 := hEx.cell r1
  have s0 := hEx.cell s0
  have s1 := hEx.cell s1
  clear hEx HC2
  go_wp2_with fail
  refine (HC3.out _ HE9.out).mono ?_
  rintro e y10 ⟨rfl, hEx⟩
  have HE10 := Lib.hid (HE9.out.trans hEx)
  have r0 := hEx.cell r0
  have r1 := hEx.cell r1
  have s0 := hEx.cell s0
  have s1 := hEx.cell s1
  clear hEx HC3
  go_wp2_with fail
  refine (HC4.out _ HE10.out).mono ?_
  rintro e y11 ⟨rfl, hEx⟩
  have HE11 := Lib.hid (HE10.out.trans hEx)
  have r0 := hEx.cell r0
  have r1 := hEx.cell r1
  have s0 := hEx.cell s0
  have s1 := hEx.cell s1
  clear hEx HC4
  obtain ⟨V11, hV11, hX, hs, hb⟩ := lat_new y11 (.int .i64 0) (.slice none 0 0)
  obtain ⟨b0, b1, rf⟩ := lat_block hb
  have f0 := rf 0; have f1 := rf 1
  have HB11 := Lib.hid (lat_store hb (.int .i64 0) (.slice none 0 0))
  have hY := ext_lat hX (Nat.le_refl _) (.int .i64 0) (.slice none 0 0)
  clear hX hs hb rf
  obtain ⟨U11, hU11⟩ : ∃ U, (V11.setCell ⟨y11.heap.size, 0, none⟩ (.int .i64 0)).setCell ⟨y11.heap.size, 1, none⟩ (.slice none 0 0) = U := ⟨_, rfl⟩
  rw [hU11] at HB11 hY
  have HE11b := Lib.hid (HE11.out.trans hY)
  have r0 := hY.cell r0
  have r1 := hY.cell r1
  have s0 := hY.cell s0
  have s1 := hY.cell s1
  clear hY
  go_wp2_with fail
  clear hU11 hV11 b0 b1 f0 f1
  refine (HC5.out _ HE11b.out).mono ?_
  rintro e y12 ⟨rfl, hEx⟩
  have HE12 := Lib.hid (HE11b.out.trans hEx)
  have r0 := hEx.cell r0
  have r1 := hEx.cell r1
  have s0 := hEx.cell s0
  have s1 := hEx.cell s1
  have HB11 := Lib.hid (block_ext HB11.out hEx)
  clear hEx HC5
  obtain ⟨V12, hV12, hX, hs, hb⟩ := lat_new y12 (.int .i64 0) (.slice none 0 0)
  obtain ⟨b0, b1, rf⟩ := lat_block hb
  have f0 := rf 0; have f1 := rf 1
  have HB12 := Lib.hid (lat_store hb (.int .i64 0) (.slice none 0 0))
  have hY := ext_lat hX (Nat.le_refl _) (.int .i64 0) (.slice none 0 0)
  clear hX hs hb rf
  obtain ⟨U12, hU12⟩ : ∃ U, (V12.setCell ⟨y12.heap.size, 0, none⟩ (.int .i64 0)).setCell ⟨y12.heap.size, 1, none⟩ (.slice none 0 0) = U := ⟨_, rfl⟩
  rw [hU12] at HB12 hY
  have HE12b := Lib.hid (HE12.out.trans hY)
  have r0 := hY.cell r0
  have r1 := hY.cell r1
  have s0 := hY.cell s0
  have s1 := hY.cell s1
  have HB11 := Lib.hid (block_ext HB11.out hY)
  clear hY
  obtain ⟨d0, d1, -⟩ := lat_block HB11.out
  go_wp2_with fail
  clear hU12 hV12 b0 b1 f0 f1
  refine (HNN.out _ HE12b.out).mono ?_
  rintro e y13 ⟨rfl, hEx⟩
  have HE13 := Lib.hid (HE12b.out.trans hEx)
  have r0 := hEx.cell r0
  have r1 := hEx.cell r1
  have s0 := hEx.cell s0
  have s1 := hEx.cell s1
  have HB11 := Lib.hid (block_ext HB11.out hEx)
  have HB12 := Lib.hid (block_ext HB12.out hEx)
  clear hEx d0 d1
  obtain ⟨d0, d1, -⟩ := lat_block HB12.out
  go_wp2_with fail
  refine (HNN.out _ HE13.out).mono ?_
  rintro e y14 ⟨rfl, hEx⟩
  have HE14 := Lib.hid (HE13.out.trans hEx)
  have r0 := hEx.cell r0
  have r1 := hEx.cell r1
  have s0 := hEx.cell s0
  have s1 := hEx.cell s1
  have HB11 := Lib.hid (block_ext HB11.out hEx)
  have HB12 := Lib.hid (block_ext HB12.out hEx)
  clear hEx d0 d1
  go_wp2_with fail
  refine (HC6.out _ HE14.out).mono ?_
  rintro e y15 ⟨rfl, hEx⟩
  have HE15 := Lib.hid (HE14.out.trans hEx)
  have r0 := hEx.cell r0
  have r1 := hEx.cell r1
  have s0 := hEx.cell s0
  have s1 := hEx.cell s1
  have HB11 := Lib.hid (block_ext HB11.out hEx)
  have HB12 := Lib.hid (block_ext HB12.out hEx)
  clear hEx HC6
  obtain ⟨V15, hV15, hX, hs, hb⟩ := lat_new y15 (.int .i64 0) (.slice none 0 0)
  obtain ⟨b0, b1, rf⟩ := lat_block hb
  have f0 := rf 0; have f1 := rf 1
  have HB15 := Lib.hid (lat_store hb (.int .i64 0) (.slice none 0 0))
  have hY := ext_lat hX (Nat.le_refl _) (.int .i64 0) (.slice none 0 0)
  clear hX hs hb rf
  obtain ⟨U15, hU15⟩ : ∃ U, (V15.setCell ⟨y15.heap.size, 0, none⟩ (.int .i64 0)).setCell ⟨y15.heap.size, 1, none⟩ (.slice none 0 0) = U := ⟨_, rfl⟩
  rw [hU15] at HB15 hY
  have HE15b := Lib.hid (HE15.out.trans hY)
  have r0 := hY.cell r0
  have r1 := hY.cell r1
  have s0 := hY.cell s0
  have s1 := hY.cell s1
  have HB11 := Lib.hid (block_ext HB11.out hY)
  have HB12 := Lib.hid (block_ext HB12.out hY)
  clear hY
  go_wp2_with fail
  clear hU15 hV15 b0 b1 f0 f1
  refine (HC7.out _ HE15b.out).mono ?_
  rintro e y16 ⟨rfl, hEx⟩
  have HE16 := Lib.hid (HE15b.out.trans hEx)
  have r0 := hEx.cell r0
  have r1 := hEx.cell r1
  have s0 := hEx.cell s0
  have s1 := hEx.cell s1
  have HB11 := Lib.hid (block_ext HB11.out hEx)
  have HB12 := Lib.hid (block_ext HB12.out hEx)
  have HB15 := Lib.hid (block_ext HB15.out hEx)
  clear hEx HC7
  obtain ⟨V16, hV16, hX, hs, hb⟩ := lat_new y16 (.int .i64 0) (.slice none 0 0)
  obtain ⟨b0, b1, rf⟩ := lat_block hb
  have f0 := rf 0; have f1 := rf 1
  have HB16 := Lib.hid (lat_store hb (.int .i64 0) (.slice none 0 0))
  have hY := ext_lat hX (Nat.le_refl _) (.int .i64 0) (.slice none 0 0)
  clear hX hs hb rf
  obtain ⟨U16, hU16⟩ : ∃ U, (V16.setCell ⟨y16.heap.size, 0, none⟩ (.int .i64 0)).setCell ⟨y16.heap.size, 1, none⟩ (.slice none 0 0) = U := ⟨_, rfl⟩
  rw [hU16] at HB16 hY
  have HE16b := Lib.hid (HE16.out.trans hY)
  have r0 := hY.cell r0
  have r1 := hY.cell r1
  have s0 := hY.cell s0
  have s1 := hY.cell s1
  have HB11 := Lib.hid (block_ext HB11.out hY)
  have HB12 := Lib.hid (block_ext HB12.out hY)
  have HB15 := Lib.hid (block_ext HB15.out hY)
  clear hY
  go_wp2_with fail
  clear hU16 hV16 b0 b1 f0 f1
  refine (HC8.out _ HE16b.out).mono ?_
  rintro e y17 ⟨rfl, hEx⟩
  have HE17 := Lib.hid (HE16b.out.trans hEx)
  have r0 := hEx.cell r0
  have r1 := hEx.cell r1
  have s0 := hEx.cell s0
  have s1 := hEx.cell s1
  have HB11 := Lib.hid (block_ext HB11.out hEx)
  have HB12 := Lib.hid (block_ext HB12.out hEx)
  have HB15 := Lib.hid (block_ext HB15.out hEx)
  have HB16 := Lib.hid (block_ext HB16.out hEx)
  clear hEx HC8
  go_wp2_with fail
  refine (HC9.out _ HE17.out).mono ?_
  rintro e y18 ⟨rfl, hEx⟩
  have HE18 := Lib.hid (HE17.out.trans hEx)
  have r0 := hEx.cell r0
  have r1 := hEx.cell r1
  have s0 := hEx.cell s0
  have s1 := hEx.cell s1
  have HB11 := Lib.hid (block_ext HB11.out hEx)
  have HB12 := Lib.hid (block_ext HB12.out hEx)
  have HB15 := Lib.hid (block_ext HB15.out hEx)
  have HB16 := Lib.hid (block_ext HB16.out hEx)
  clear hEx HC9
  go_wp2_with fail
  refine (HC10.out _ HE18.out).mono ?_
  rintro e y19 ⟨rfl, hEx⟩
  have HE19 := Lib.hid (HE18.out.trans hEx)
  have r0 := hEx.cell r0
  have r1 := hEx.cell r1
  have s0 := hEx.cell s0
  have s1 := hEx.cell s1
  have HB11 := Lib.hid (block_ext HB11.out hEx)
  have HB12 := Lib.hid (block_ext HB12.out hEx)
  have HB15 := Lib.hid (block_ext HB15.out hEx)
  have HB16 := Lib.hid (block_ext HB16.out hEx)
  clear hEx HC10
  obtain ⟨d0, d1, -⟩ := lat_block HB15.out
  go_wp2_with fail
  refine (HNN.out _ HE19.out).mono ?_
  rintro e y20 ⟨rfl, hEx⟩
  have HE20 := Lib.hid (HE19.out.trans hEx)
  have r0 := hEx.cell r0
  have r1 := hEx.cell r1
  have s0 := hEx.cell s0
  have s1 := hEx.cell s1
  have HB11 := Lib.hid (block_ext HB11.out hEx)
  have HB12 := Lib.hid (block_ext HB12.out hEx)
  have HB15 := Lib.hid (block_ext HB15.out hEx)
  have HB16 := Lib.hid (block_ext HB16.out hEx)
  clear hEx d0 d1
  obtain ⟨d0, d1, -⟩ := lat_block HB16.out
  go_wp2_with fail
  refine (HNN.out _ HE20.out).mono ?_
  rintro e y21 ⟨rfl, hEx⟩
  have HE21 := Lib.hid (HE20.out.trans hEx)
  have r0 := hEx.cell r0
  have r1 := hEx.cell r1
  have s0 := hEx.cell s0
  have s1 := hEx.cell s1
  have HB11 := Lib.hid (block_ext HB11.out hEx)
  have HB12 := Lib.hid (block_ext HB12.out hEx)
  have HB15 := Lib.hid (block_ext HB15.out hEx)
  have HB16 := Lib.hid (block_ext HB16.out hEx)
  clear hEx d0 d1
  go_wp2_with fail
  go_ret
  exact ⟨rfl, HE21.out⟩
end Go.Proofs.YtielnneclcekbaaGreatDoor
