/- Merged: TDetsT. -/
import Derived.Test.YtpeinobepiodaaaGreatDoorJC
import Derived.Test.YtpeinobepiodaaaGreatDoorGU
import Derived.Test.YtpeinobepiodaaaGreatDoorGO
/- The walk of TableDeterminants. -/
namespace Go.Proofs.YtpeinobepiodaaaGreatDoor
set_option linter.unusedVariables false
set_option linter.unusedSimpArgs false
open Go.RowKit

/-- What stands in the rows with units behind them is small. -/
theorem inv_small {xss : List (List Int)} (hE : tabE xss = 0) (hsq : colsN xss = xss.length) (c : Nat) : AllRS 2500 (redTo (invM xss) c).m ∧ RS 9000 (redTo (invM xss) c).det := by
  obtain ⟨hl, hrr⟩ := tabE_zero hE
  rw [← augU_mat]
  refine red_small (C := xss.length + xss.length) (matQ_rectI (augU_rect fun r hr => by rw [← hsq]; exact (hrr r hr).1)) (by rw [matQ_len, augU_len]; exact hl) (augU_le fun r hr => (hrr r hr).2.2) c
theorem dets_small {xss : List (List Int)} (hE : tabE xss = 0) (hsq : colsN xss = xss.length) (c : Nat) : AllRS 2500 (redTo (matQ xss) c).m ∧ RS 9000 (redTo (matQ xss) c).det := by
  obtain ⟨hl, hrr⟩ := tabE_zero hE
  exact red_small (C := xss.length) (matQ_rectI fun r hr => by rw [← hsq]; exact (hrr r hr).1) (by rw [matQ_len]; exact hl) (matQ_el fun r hr => (hrr r hr).2.2) c
theorem det_ref {xss : List (List Int)} (hE : tabE xss = 0) (hsq : colsN xss = xss.length) : (detS xss).num = refDetI xss := by
  obtain ⟨hl, hrr⟩ := tabE_zero hE
  have h := refDet_eq (m := xss) (fun r hr => by rw [← hsq]; exact (hrr r hr).1) (matQ_el fun r hr => (hrr r hr).2.2)
  unfold detS
  rw [← h]; rfl

set_option maxRecDepth 100000 in
set_option maxHeartbeats 6000000 in
theorem dets_walk (xss : List (List Int)) (v : Value) (w : World) (h : Rows2 w v xss) (ht : LibT w) :
    Calls Tryz.prog 3 #[v] w fun e w' => e = .returned (.bool true) ∧ Ext w w' := by
  have HT := Lib.hid ht
  have HK : Hid (∀ W, Ext w W → Calls Tryz.prog 14 #[] W fun e w' => e = .returned (.bool true) ∧ Ext W w') := fun W hW => known_any W (HT.out.pow.ext hW)
  have HFA : Hid (∀ W, Ext w W → Calls Tryz.prog 15 #[v] W fun e w' => e = .returned (.bool (decide (fewP xss))) ∧ Ext W w') := fun W hW => few_any xss v W (h.ext hW)
  have HRC : Hid (∀ W, Ext w W → Calls Tryz.prog 18 #[v] W fun e w' => e = .returned (.int .i64 (tabE xss)) ∧ Ext W w') := fun W hW => refCheck_any xss v W (h.ext hW)
  have HCR : Hid (∀ W, Ext w W → Calls Tryz.prog 19 #[v] W fun e w' => e = .returned (.int .i64 (colsN xss : Int)) ∧ W = w') := fun W hW => refCols_any xss v W (h.ext hW)
  have HD1 : Hid (tabE xss ≠ 0 → ∀ W, Ext w W → Calls Tryz.prog 16 #[v] W fun e w' => e = .returned (.tuple #[.string ⟨#[]⟩, .int .i64 (tabE xss)]) ∧ Ext W w') := fun hE W hW => det_bad xss v W (h.ext hW) hE
  have HD2 : Hid (tabE xss = 0 → 0 < xss.length → colsN xss ≠ xss.length → ∀ W, Ext w W → Calls Tryz.prog 16 #[v] W fun e w' => e = .returned (.tuple #[.string ⟨#[]⟩, .int .i64 5]) ∧ Ext W w') := fun hE hp hs W hW => det_size_bad xss v W (h.ext hW) hE hp hs
  have HD3 : Hid (tabE xss = 0 → colsN xss = xss.length → ∀ W, Ext w W → Calls Tryz.prog 16 #[v] W fun e w' => e = .returned (.tuple #[.string (intB (refDetI xss)), .int .i64 0]) ∧ Ext W w') := fun hE hs W hW => by
    have := det_any xss v W (h.ext hW) hE (fun _ => hs) (fun c _ => dets_small hE hs c) (HT.out.pow.ext hW)
    rw [det_ref hE hs] at this; exact this
  have HI1 : Hid (tabE xss ≠ 0 → ∀ W, Ext w W → Calls Tryz.prog 17 #[v] W fun e w' => e = .returned (.tuple #[.slice none 0 0, .int .i64 (tabE xss)]) ∧ Ext W w') := fun hE W hW => inv_bad xss v W (h.ext hW) hE
  have HI2 : Hid (tabE xss = 0 → 0 < xss.length → colsN xss ≠ xss.length → ∀ W, Ext w W → Calls Tryz.prog 17 #[v] W fun e w' => e = .returned (.tuple #[.slice none 0 0, .int .i64 5]) ∧ Ext W w') := fun hE hp hs W hW => inv_size xss v W (h.ext hW) hE hp hs
  have HI3 : Hid (tabE xss = 0 → colsN xss = xss.length → invOk xss = false → ∀ W, Ext w W → Calls Tryz.prog 17 #[v] W fun e w' => e = .returned (.tuple #[.slice none 0 0, .int .i64 18]) ∧ Ext W w') := fun hE hs hi W hW => by
    unfold invOk at hi
    have hi2 : (invR xss).lead.length < xss.length := by
      rw [decide_eq_false_iff_not] at hi
      omega
    exact inv_dep xss v W (h.ext hW) hE (by omega) hs (fun c _ => inv_small hE hs c) hi2 (HT.out.pow.ext hW)
  have HI4 : Hid (tabE xss = 0 → colsN xss = xss.length → invOk xss = true → ∀ W, Ext w W → Calls Tryz.prog 17 #[v] W fun e w' => ∃ x, e = .returned (.tuple #[x, .int .i64 0]) ∧ Rats2 w' x (invTo xss xss.length) ∧ Ext W w') := fun hE hs hi W hW => by
    unfold invOk at hi
    rw [decide_eq_true_iff] at hi
    by_cases hp : 0 < xss.length
    · exact (inverse_any xss v W (h.ext hW) hE hp hs (fun c _ => inv_small hE hs c) hi (HT.out.pow.ext hW)).mono fun e w' ⟨r, g1, g2, g3⟩ => ⟨r, g1, g2, g3⟩
    · have hx : xss = [] := List.length_eq_zero_iff.1 (by omega)
      refine (inv_nil xss v W (h.ext hW) hx (HT.out.pow.ext hW)).mono ?_
      rintro e w' ⟨g1, g3⟩
      refine ⟨_, g1, ?_, g3⟩
      subst hx
      exact ⟨[], rfl, by simp, ⟨none, 0, rfl, Nat.le_refl _, Nat.zero_le _, fun _ => rfl, fun hh => absurd rfl hh⟩, by simp⟩
  have HRD : Hid (tabE xss = 0 → colsN xss = xss.length → ∀ W, Ext w W → Calls Tryz.prog 20 #[v] W fun e w' => e = .returned (.string (intB (refDetI xss))) ∧ Ext W w') := fun hE hs W hW => refDet_any xss v W (h.ext hW) hE hs (HT.out.pow.ext hW)
  have HRI : Hid (tabE xss = 0 → colsN xss = xss.length → ∀ W, Ext w W → Calls Tryz.prog 21 #[v] W fun e w' => ∃ x, e = .returned (.tuple #[x, .bool (invOk xss)]) ∧ (invOk xss = true → Rats2 w' x (invTo xss xss.length)) ∧ Ext W w') := fun hE hs W hW => refInverse_any xss v W (h.ext hW) hE hs (HT.out.pow.ext hW)
  have HSA : Hid (∀ l u u' W, Rats W u l → Rats W u' l → Calls Tryz.prog 22 #[u, u'] W fun e w' => e = .returned (.bool true) ∧ Ext W w') := fun l u u' W h1 h2 => by have := same_any _ _ u u' W h1 h2; rw [beq_self_eq_true] at this; exact this
  have HIT : Hid (colsN xss = xss.length → tabE xss = 0 → invOk xss = true → (invTo xss xss.length).length = xss.length) := fun hs hE hi => by
    obtain ⟨hl, hrr⟩ := tabE_zero hE
    unfold invTo
    rw [List.length_map, List.length_take]
    have : (invR xss).m.length = xss.length := by
      obtain ⟨k1, k2, -⟩ := redTo_shape (invM_rect (xss := xss) fun r hr => by rw [← hs]; exact (hrr r hr).1) xss.length
      show (redTo (invM xss) xss.length).m.length = _; rw [k2]; exact rowsTo_len _ _ _
    omega
  obtain ⟨a, c, rfl, p1, p2, -, -⟩ := inCell.open h
  unfold maxLen at p2
  obtain ⟨fa, hfa⟩ : ∃ b, b = decide (fewP xss) := ⟨_, rfl⟩
  rw [← hfa] at HFA
  obtain ⟨EX, hEX⟩ : ∃ p, p = tabE xss := ⟨_, rfl⟩
  rw [← hEX] at HRC HD1 HD2 HD3 HI1 HI2 HI3 HI4 HRD HRI HIT
  obtain ⟨IT, hIT⟩ : ∃ z, z = invTo xss xss.length := ⟨_, rfl⟩
  rw [← hIT] at HI4 HRI HIT
  have hmz : xss.length = 0 → colsN xss = 0 := fun e => by rw [List.length_eq_zero_iff.1 e]; rfl
  obtain ⟨L, hL⟩ : ∃ n, n = xss.length := ⟨_, rfl⟩
  obtain ⟨m, hm⟩ : ∃ n, n = colsN xss := ⟨_, rfl⟩
  rw [← hL] at HFA HRC HCR HD1 HD2 HD3 HI1 HI2 HI3 HI4 HRD HRI HIT hmz p1 ⊢
  rw [← hm] at HCR HD2 HD3 HI2 HI3 HI4 HRD HRI HIT hmz
  obtain ⟨rd, hrd⟩ : ∃ z, z = intB (refDetI xss) := ⟨_, rfl⟩
  rw [← hrd] at HD3 HRD
  obtain ⟨ok, hok⟩ : ∃ z, z = invOk xss := ⟨_, rfl⟩
  rw [← hok] at HI3 HI4 HRI HIT
  clear h ht hfa hEX hL hm hIT hrd hok
  cases fa with
  | false =>
    go_enter Tryz.func3, Tryz.ntmps3
    go_wp2_with fail
    refine (HK.out _ (Ext.refl _)).mono ?_
    rintro e w1 ⟨rfl, hE1⟩
    have HE1 := Lib.hid (hE1)
    clear hE1
    go_wp2_with fail
    refine (HFA.out _ HE1.out).mono ?_
    rintro e w2 ⟨rfl, hE2⟩
    have HE2 := Lib.hid (HE1.out.trans hE2)
    clear hE2
    go_wp2_with fail
    refine (HK.out _ HE2.out).mono ?_
    rintro e w3 ⟨rfl, hE3⟩
    have HE3 := Lib.hid (HE2.out.trans hE3)
    clear hE3
    go_wp2_with fail
    go_ret
    exact ⟨rfl, HE3.out⟩
  | true =>
    have x4 : (EX == EX) = true := by simp
    by_cases hE : EX = 0
    · subst hE
      by_cases hs : m = L
      · have HD := Lib.hid (HD3.out rfl hs); have HR := Lib.hid (HRD.out rfl hs); have HV := Lib.hid (HRI.out rfl hs)
        have HIL := Lib.hid (HIT.out hs rfl)
        have HJ3 := Lib.hid (HI3.out rfl hs); have HJ4 := Lib.hid (HI4.out rfl hs)
        have z3 : ((L : Int) != (m : Int)) = false := by rw [hs]; simp
        clear HD1 HD2 HD3 HI1 HI2 HI3 HI4 HRD HRI HIT hmz
        cases ok with
        | false =>
          have HI := Lib.hid (HJ3.out rfl)
          clear HJ3 HJ4 hs
          go_enter Tryz.func3, Tryz.ntmps3
          go_wp2_with fail
          refine (HK.out _ (Ext.refl _)).mono ?_
          rintro e w1 ⟨rfl, hE1⟩
          have HE1 := Lib.hid (hE1)
          clear hE1
          go_wp2_with fail
          refine (HFA.out _ HE1.out).mono ?_
          rintro e w2 ⟨rfl, hE2⟩
          have HE2 := Lib.hid (HE1.out.trans hE2)
          clear hE2
          go_wp2_with fail
          refine (HD.out _ HE2.out).mono ?_
          rintro e w3 ⟨rfl, hE3⟩
          have HE3 := Lib.hid (HE2.out.trans hE3)
          clear hE3
          go_wp2_with fail
          refine (HI.out _ HE3.out).mono ?_
          rintro e w4 ⟨rfl, hE4⟩
          have HE4 := Lib.hid (HE3.out.trans hE4)
          clear hE4
          go_wp2_with fail
          refine (HRC.out _ HE4.out).mono ?_
          rintro e w5 ⟨rfl, hE5⟩
          have HE5 := Lib.hid (HE4.out.trans hE5)
          clear hE5
          go_wp2_with fail
          refine (HCR.out _ HE5.out).mono ?_
          rintro e w6 ⟨rfl, rfl⟩
          have HE6 := HE5
          go_wp2_with fail
          refine (HR.out _ HE6.out).mono ?_
          rintro e w7 ⟨rfl, hE7⟩
          have HE7 := Lib.hid (HE6.out.trans hE7)
          clear hE7
          go_wp2_with fail
          refine (HV.out _ HE7.out).mono ?_
          rintro e w8 ⟨u, rfl, -, hE8⟩
          have HE8 := Lib.hid (HE7.out.trans hE8)
          clear hE8
          go_wp2_with fail
          go_ret
          exact ⟨rfl, HE8.out⟩
        | true =>
          have HI := Lib.hid (HJ4.out rfl)
          have HIL2 := Lib.hid (HIL.out rfl)
          clear HJ3 HJ4 hs HIL
          go_enter Tryz.func3, Tryz.ntmps3
          go_wp2_with fail
          refine (HK.out _ (Ext.refl _)).mono ?_
          rintro e w1 ⟨rfl, hE1⟩
          have HE1 := Lib.hid (hE1)
          clear hE1
          go_wp2_with fail
          refine (HFA.out _ HE1.out).mono ?_
          rintro e w2 ⟨rfl, hE2⟩
          have HE2 := Lib.hid (HE1.out.trans hE2)
          clear hE2
          go_wp2_with fail
          refine (HD.out _ HE2.out).mono ?_
          rintro e w3 ⟨rfl, hE3⟩
          have HE3 := Lib.hid (HE2.out.trans hE3)
          clear hE3
          go_wp2_with fail
          refine (HI.out _ HE3.out).mono ?_
          rintro e w4 ⟨u, rfl, hu, hE4⟩
          have HU4 := Lib.hid hu
          have HE4 := Lib.hid (HE3.out.trans hE4)
          obtain ⟨au, cu, rfl, b1, b2, -, -⟩ := inCell.open hu
          rw [HIL2.out] at b1 ⊢
          have e1 : Value.slice au IT.length cu = .slice au L cu := by rw [HIL2.out]
          rw [e1] at HU4
          unfold maxLen at b2
          clear hE4 hu e1
          go_wp2_with fail
          refine (HRC.out _ HE4.out).mono ?_
          rintro e w5 ⟨rfl, hE5⟩
          have HE45 := Lib.hid hE5
          have HE5 := Lib.hid (HE4.out.trans hE5)
          clear hE5
          go_wp2_with fail
          refine (HCR.out _ HE5.out).mono ?_
          rintro e w6 ⟨rfl, rfl⟩
          have HE6 := HE5
          go_wp2_with fail
          refine (HR.out _ HE6.out).mono ?_
          rintro e w7 ⟨rfl, hE7⟩
          have HE48 := Lib.hid (HE45.out.trans hE7)
          have HE7 := Lib.hid (HE6.out.trans hE7)
          clear hE7
          go_wp2_with fail
          refine (HV.out _ HE7.out).mono ?_
          rintro e w8 ⟨u', rfl, hu', hE8⟩
          have HU8 := Lib.hid (hu' trivial)
          have HE8 := Lib.hid (HE7.out.trans hE8)
          obtain ⟨av, cv, hv, d1, d2, -, hcv⟩ := inCell.open HU8.out
          subst hv
          have HCV := Lib.hid hcv
          have HU2 : Hid (Rats2 w8 (.slice au L cu) IT) := ListAt.ext (R := inCell Rats) (inCell.mono (R := Rats) fun _ _ _ _ he h => Rats.ext h he) HU4.out (HE48.out.trans hE8)
          obtain ⟨au', cu', hv2, -, -, -, hcu⟩ := inCell.open HU2.out
          simp only [Value.slice.injEq] at hv2
          obtain ⟨rfl, -, rfl⟩ := hv2
          have HCU := Lib.hid hcu
          rw [HIL2.out] at d1 ⊢
          unfold maxLen at d2
          have z8 : ((L : Int) != (L : Int)) = false := by simp
          clear hE8 hu' hcv hcu HU8 HU2 HU4
          go_wp2_with fail
          go_loopw [10] (fun t wr => ∃ i : Nat, i ≤ L ∧ t = .int .i64 i ∧ Hid (Ext w8 wr)) (fun t _ => L - (intOf t).toNat)
          case atStart => exact ⟨0, by omega, rfl, by first | exact Ext.refl _ | exact Ext.drew _⟩
          case round =>
            obtain ⟨i, hi, rfl, HEL⟩ := hrel
            obtain ⟨wi, rfl⟩ : ∃ wi : World, wi = wr := ⟨_, rfl⟩
            by_cases hlt : i < L
            · have hii : (i : Int) < (L : Int) := by omega
              obtain ⟨x, hx⟩ : ∃ x, IT[i]? = some x := ⟨_, List.getElem?_eq_getElem (by rw [HIL2.out]; exact hlt)⟩
              obtain ⟨bu, ou, rfl, -, hc1⟩ := HCU.out (by intro e; have := HIL2.out; rw [e] at this; simp at this; omega)
              obtain ⟨bv, ov, rfl, -, hc2⟩ := HCV.out (by intro e; have := HIL2.out; rw [e] at this; simp at this; omega)
              obtain ⟨v1, hv1, k1⟩ := hc1 i x hx
              obtain ⟨v2, hv2, k2⟩ := hc2 i x hx
              have g1 := HEL.out.cell k1
              have g2 := HEL.out.cell k2
              have HS : Hid (∀ W, Ext wi W → Calls Tryz.prog 22 #[v1, v2] W fun e w' => e = .returned (.bool true) ∧ Ext W w') := fun W hW => HSA.out x v1 v2 W (Rats.ext hv1 (HEL.out.trans hW)) (Rats.ext hv2 (HEL.out.trans hW))
              obtain ⟨a1, c1', rfl, -⟩ := ListAt.open hv1
              obtain ⟨a2, c2', rfl, -⟩ := ListAt.open hv2
              obtain ⟨n1, hn1⟩ : ∃ n, n = x.length := ⟨_, rfl⟩
              rw [← hn1] at g1 g2 HS
              clear hx hc1 hc2 hv1 hv2 k1 k2 hn1
              go_upto_region 20 with fail
              --<R20
              refine region_anyE (fun w' => w'.cell? ⟨bu, ou + i, none⟩ = some (.slice a1 n1 c1') ∧ w'.cell? ⟨bv, ov + i, none⟩ = some (.slice a2 n1 c2') ∧ Hid (Ext wi w')) 9 (by kernel_rfl) ⟨(Ext.drew wi).cell g1, (Ext.drew wi).cell g2, Ext.drew wi⟩ (fun hHeld => ?_)
              refine anyE_takeW (v := ?_) 0 rfl (by kernel_rfl) (by kernel_rfl) (by kernel_rfl) (by decide) (fun _ _ _ h => h) (Or.inl ⟨by rfl, ?_⟩) (by assumption) ?_
              rotate_left
              · ((intro w'); (try go_simp); (try with_reducible rfl))
              (try simp only [Act.put, List.setIfInBounds_toArray, List.set_cons_zero, List.set_cons_succ])
              refine anyE_takeW (v := ?_) 1 rfl (by kernel_rfl) (by kernel_rfl) (by kernel_rfl) (by decide) (fun _ _ _ h => h) (Or.inl ⟨by rfl, ?_⟩) (by assumption) ?_
              rotate_left
              · ((intro w'); (try go_simp); (try with_reducible rfl))
              (try simp only [Act.put, List.setIfInBounds_toArray, List.set_cons_zero, List.set_cons_succ])
              refine anyE_takeW (v := ?_) 2 rfl (by kernel_rfl) (by kernel_rfl) (by kernel_rfl) (by decide) (fun _ _ _ h => h) (Or.inl ⟨by rfl, ?_⟩) (by assumption) ?_
              rotate_left
              · ((intro w'); (try go_simp); (try with_reducible rfl))
              (try simp only [Act.put, List.setIfInBounds_toArray, List.set_cons_zero, List.set_cons_succ])
              refine anyE_take (v := ?_) 3 rfl (by kernel_rfl) (by kernel_rfl) (by kernel_rfl) (by kernel_rfl) (by kernel_rfl) (fun _ _ _ h => h) (Or.inl ⟨by rfl, ?_⟩) (by assumption) ?_
              rotate_left
              · ((intro w' hSw); (try dsimp only at hSw); (try go_simp); (try with_reducible rfl))
              (try simp only [Act.put, List.setIfInBounds_toArray, List.set_cons_zero, List.set_cons_succ])
              refine anyE_takeW (v := ?_) 4 rfl (by kernel_rfl) (by kernel_rfl) (by kernel_rfl) (by decide) (fun _ _ _ h => h) (Or.inl ⟨by rfl, ?_⟩) (by assumption) ?_
              rotate_left
              · ((intro w'); (try go_simp); (try with_reducible rfl))
              (try simp only [Act.put, List.setIfInBounds_toArray, List.set_cons_zero, List.set_cons_succ])
              refine anyE_takeW (v := ?_) 5 rfl (by kernel_rfl) (by kernel_rfl) (by kernel_rfl) (by decide) (fun _ _ _ h => h) (Or.inl ⟨by rfl, ?_⟩) (by assumption) ?_
              rotate_left
              · ((intro w'); (try go_simp); (try with_reducible rfl))
              (try simp only [Act.put, List.setIfInBounds_toArray, List.set_cons_zero, List.set_cons_succ])
              refine anyE_takeW (v := ?_) 6 rfl (by kernel_rfl) (by kernel_rfl) (by kernel_rfl) (by decide) (fun _ _ _ h => h) (Or.inl ⟨by rfl, ?_⟩) (by assumption) ?_
              rotate_left
              · ((intro w'); (try go_simp); (try with_reducible rfl))
              (try simp only [Act.put, List.setIfInBounds_toArray, List.set_cons_zero, List.set_cons_succ])
              refine anyE_take (v := ?_) 7 rfl (by kernel_rfl) (by kernel_rfl) (by kernel_rfl) (by kernel_rfl) (by kernel_rfl) (fun _ _ _ h => h) (Or.inl ⟨by rfl, ?_⟩) (by assumption) ?_
              rotate_left
              · ((intro w' hSw); (try dsimp only at hSw); (try go_simp); (try with_reducible rfl))
              (try simp only [Act.put, List.setIfInBounds_toArray, List.set_cons_zero, List.set_cons_succ])
              refine anyE_step 8 (by kernel_rfl) rfl (fun K hK => ?_)
              go_simp
              (go_at_call 22; refine (HS.out _ hHeld.2.2.out).mono ?_)
              rintro e wz ⟨rfl, hEz⟩
              go_wp2_with fail
              refine hK.out _ _ ⟨(hEz).cell hHeld.1, (hEz).cell hHeld.2.1, Ext.trans hHeld.2.2.out (hEz)⟩ (fun hHeld => ?_)
              clear hK K
              (try simp only [Act.put, List.setIfInBounds_toArray, List.set_cons_zero, List.set_cons_succ])
              have HWZ : Hid (Ext wi wz) := hHeld.2.2
              refine anyE_last 9 (by kernel_rfl) (by kernel_rfl) (by kernel_rfl) rfl (fun K hK => ?_)
              go_simp
              refine hK.out _ _ ?_
              clear hK K
              (try simp only [Act.put, List.setIfInBounds_toArray, List.set_cons_zero, List.set_cons_succ])
              -->R20
              have HXL := Lib.hid (HEL.out.trans HWZ.out)
              go_wp2_with fail
              go_roundw
              case rel => exact ⟨i + 1, by omega, by go_num, HXL.out⟩
              case measure => simp [intOf]; omega
            · obtain rfl : L = i := by omega
              have hii : ¬ (L : Int) < (L : Int) := by omega
              go_wp2_with fail
              go_ret
              exact ⟨rfl, HE8.out.trans HEL.out⟩
      · have hp : 0 < L := by
          false_or_by_contra
          have := hmz (by omega); omega
        have HD := Lib.hid (HD2.out rfl hp hs); have HI := Lib.hid (HI2.out rfl hp hs)
        have z3 : ((L : Int) != (m : Int)) = true := by rw [bne_iff_ne]; omega
        clear HD1 HD2 HD3 HI1 HI2 HI3 HI4 HRD HRI HIT hmz hs hp
        go_enter Tryz.func3, Tryz.ntmps3
        go_wp2_with fail
        refine (HK.out _ (Ext.refl _)).mono ?_
        rintro e w1 ⟨rfl, hE1⟩
        have HE1 := Lib.hid (hE1)
        clear hE1
        go_wp2_with fail
        refine (HFA.out _ HE1.out).mono ?_
        rintro e w2 ⟨rfl, hE2⟩
        have HE2 := Lib.hid (HE1.out.trans hE2)
        clear hE2
        go_wp2_with fail
        refine (HD.out _ HE2.out).mono ?_
        rintro e w3 ⟨rfl, hE3⟩
        have HE3 := Lib.hid (HE2.out.trans hE3)
        clear hE3
        go_wp2_with fail
        refine (HI.out _ HE3.out).mono ?_
        rintro e w4 ⟨rfl, hE4⟩
        have HE4 := Lib.hid (HE3.out.trans hE4)
        clear hE4
        go_wp2_with fail
        refine (HRC.out _ HE4.out).mono ?_
        rintro e w5 ⟨rfl, hE5⟩
        have HE5 := Lib.hid (HE4.out.trans hE5)
        clear hE5
        go_wp2_with fail
        refine (HCR.out _ HE5.out).mono ?_
        rintro e w6 ⟨rfl, rfl⟩
        have HE6 := HE5
        go_wp2_with fail
        go_ret
        exact ⟨rfl, HE6.out⟩
    · have HD := Lib.hid (HD1.out hE); have HI := Lib.hid (HI1.out hE)
      have x6 : (EX != 0) = true := by rw [bne_iff_ne]; exact hE
      have x7 : (EX == 0) = false := by rw [beq_eq_false_iff_ne]; exact hE
      clear HD1 HD2 HD3 HI1 HI2 HI3 HI4 HRD HRI HIT hmz hE
      go_enter Tryz.func3, Tryz.ntmps3
      go_wp2_with fail
      refine (HK.out _ (Ext.refl _)).mono ?_
      rintro e w1 ⟨rfl, hE1⟩
      have HE1 := Lib.hid (hE1)
      clear hE1
      go_wp2_with fail
      refine (HFA.out _ HE1.out).mono ?_
      rintro e w2 ⟨rfl, hE2⟩
      have HE2 := Lib.hid (HE1.out.trans hE2)
      clear hE2
      go_wp2_with fail
      refine (HD.out _ HE2.out).mono ?_
      rintro e w3 ⟨rfl, hE3⟩
      have HE3 := Lib.hid (HE2.out.trans hE3)
      clear hE3
      go_wp2_with fail
      refine (HI.out _ HE3.out).mono ?_
      rintro e w4 ⟨rfl, hE4⟩
      have HE4 := Lib.hid (HE3.out.trans hE4)
      clear hE4
      go_wp2_with fail
      refine (HRC.out _ HE4.out).mono ?_
      rintro e w5 ⟨rfl, hE5⟩
      have HE5 := Lib.hid (HE4.out.trans hE5)
      clear hE5
      go_wp2_with fail
      go_ret
      exact ⟨rfl, HE5.out⟩
end Go.Proofs.YtpeinobepiodaaaGreatDoor
