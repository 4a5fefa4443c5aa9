/- Merged: TSolvesT. -/
import Derived.Test.YtpeinobepiodaaaGreatDoorJD
import Derived.Test.YtpeinobepiodaaaGreatDoorGU
import Derived.Test.YtpeinobepiodaaaGreatDoorGO
/- The walk of TableSolves. -/
namespace Go.Proofs.YtpeinobepiodaaaGreatDoor
set_option linter.unusedVariables false
set_option linter.unusedSimpArgs false
open Go.RowKit

def misF (y : List Int) : Bool := y.any fun x => !fitB x
theorem misF_take {y : List Int} {i : Nat} {x : Int} (h : y[i]? = some x) : misF (y.take (i + 1)) = (misF (y.take i) || !fitB x) := by
  unfold misF
  rw [List.take_add_one, h, List.any_append]
  simp

set_option maxRecDepth 100000 in
set_option maxHeartbeats 6000000 in
theorem solves_walk (xss : List (List Int)) (right : List Int) (v vr : Value) (w : World) (h : Rows2 w v xss) (hr : Ints w vr right) (ht : LibT w) :
    Calls Tryz.prog 6 #[v, vr] w fun e w' => e = .returned (.bool true) ∧ Ext w w' := by
  have HT := Lib.hid ht
  have HK : Hid (∀ W, Ext w W → Calls Tryz.prog 14 #[] W fun e w' => e = .returned (.bool true) ∧ Ext W w') := fun W hW => known_any W (HT.out.pow.ext hW)
  have HFA : Hid (∀ W, Ext w W → Calls Tryz.prog 15 #[v] W fun e w' => e = .returned (.bool (decide (fewP xss))) ∧ Ext W w') := fun W hW => few_any xss v W (h.ext hW)
  have HRC : Hid (∀ W, Ext w W → Calls Tryz.prog 18 #[v] W fun e w' => e = .returned (.int .i64 (tabE xss)) ∧ Ext W w') := fun W hW => refCheck_any xss v W (h.ext hW)
  have HB1 : Hid (tabE xss ≠ 0 → ∀ W, Ext w W → Calls Tryz.prog 28 #[v, vr] W fun e w' => e = .returned (.tuple #[.slice none 0 0, .int .i64 0, .int .i64 (tabE xss)]) ∧ Ext W w') := fun hE W hW => solve_bad1 xss right v vr W (h.ext hW) (hr.ext hW) hE
  have HB2 : Hid (tabE xss = 0 → right.length ≠ xss.length → ∀ W, Ext w W → Calls Tryz.prog 28 #[v, vr] W fun e w' => e = .returned (.tuple #[.slice none 0 0, .int .i64 0, .int .i64 5]) ∧ Ext W w') := fun hE hl W hW => solve_bad2 xss right v vr W (h.ext hW) (hr.ext hW) hE hl
  have HB3 : Hid (tabE xss = 0 → right.length = xss.length → misF right = true → ∀ W, Ext w W → Calls Tryz.prog 28 #[v, vr] W fun e w' => e = .returned (.tuple #[.slice none 0 0, .int .i64 0, .int .i64 4]) ∧ Ext W w') := fun hE hl hm W hW => solve_bad3 xss right v vr W (h.ext hW) (hr.ext hW) hE hl hm
  have HSO : Hid (tabE xss = 0 → right.length = xss.length → misF right = false → ∀ W, Ext w W → Calls Tryz.prog 28 #[v, vr] W fun e w' => ∃ x, e = .returned (.tuple #[x, .int .i64 (solKI xss right), .int .i64 0]) ∧ Rats w' x (solL xss right) ∧ Ext W w') := fun hE hl hm W hW => solveA_any xss right v vr W (h.ext hW) (hr.ext hW) hE hl (fit9_any hm) (HT.out.pow.ext hW)
  have HRS : Hid (tabE xss = 0 → right.length = xss.length → misF right = false → ∀ W, Ext w W → Calls Tryz.prog 30 #[v, vr] W fun e w' => ∃ x, e = .returned (.tuple #[x, .int .i64 (solKI xss right)]) ∧ Rats w' x (solL xss right) ∧ Ext W w') := fun hE hl hm W hW => (refSolve_any xss right v vr W (h.ext hW) (hr.ext hW) hE hl (fit9_any hm) (HT.out.pow.ext hW)).mono fun _ _ ⟨x, g1, g2, g3⟩ => ⟨x, g1, g2, g3⟩
  have HSA : Hid (∀ u u' W, Rats W u (solL xss right) → Rats W u' (solL xss right) → Calls Tryz.prog 22 #[u, u'] W fun e w' => e = .returned (.bool true) ∧ Ext W w') := fun u u' W h1 h2 => by have := same_any _ _ u u' W h1 h2; rw [beq_self_eq_true] at this; exact this
  have HFI : Hid (∀ z W, Calls Tryz.prog 29 #[.int .i64 z] W fun e w' => e = .returned (.bool (fitB z)) ∧ W = w') := fun z W => fits_any z W
  obtain ⟨a, c, rfl, p1, p2, -, -⟩ := inCell.open h
  obtain ⟨ar, cr, rfl, r1, r2, -, -, hrc⟩ := hr.open
  have HRCE := Lib.hid hrc
  unfold maxLen at p2 r2
  obtain ⟨fa, hfa⟩ : ∃ b, b = decide (fewP xss) := ⟨_, rfl⟩
  rw [← hfa] at HFA
  obtain ⟨EX, hEX⟩ : ∃ p, p = tabE xss := ⟨_, rfl⟩
  rw [← hEX] at HRC HB1 HB2 HB3 HSO HRS
  obtain ⟨L, hL⟩ : ∃ n, n = xss.length := ⟨_, rfl⟩
  obtain ⟨M, hM⟩ : ∃ n, n = right.length := ⟨_, rfl⟩
  have HM := Lib.hid hM
  rw [← hL] at HFA HRC HB1 HB2 HB3 HSO HRS p1 ⊢
  rw [← hM] at HB1 HB2 HB3 HSO HRS r1 ⊢
  obtain ⟨KI, hKI⟩ : ∃ z, z = solKI xss right := ⟨_, rfl⟩
  rw [← hKI] at HSO HRS
  obtain ⟨SL, hSL⟩ : ∃ z, z = solL xss right := ⟨_, rfl⟩
  rw [← hSL] at HSO HRS HSA
  obtain ⟨mf, hmf⟩ : ∃ b, b = misF right := ⟨_, rfl⟩
  rw [← hmf] at HB3 HSO HRS
  have HMF := Lib.hid hmf
  clear h hr ht hfa hEX hL hM hKI hSL hrc hmf
  cases fa with
  | false =>
    go_enter Tryz.func6, Tryz.ntmps6
    go_wp2_with fail
    refine (HK.out _ (Ext.refl _)).mono ?_
    rintro e w1 ⟨rfl, hE1⟩
    have HE1 := Lib.hid (hE1)
    clear hE1
    go_wp2_with fail
    refine (HFA.out _ HE1.out).mono ?_
    rintro e w2 ⟨rfl, hE2⟩
    have HE2 := Lib.hid (HE1.out.trans hE2)
    clear hE2
    go_wp2_with fail
    refine (HK.out _ HE2.out).mono ?_
    rintro e w3 ⟨rfl, hE3⟩
    have HE3 := Lib.hid (HE2.out.trans hE3)
    clear hE3
    go_wp2_with fail
    go_ret
    exact ⟨rfl, HE3.out⟩
  | true =>
    by_cases hM14 : 14 < M
    · have q1 : (14 : Int) < (M : Int) := by omega
      have z1 := decide_eq_true q1
      have z2 : decide (14 < M) = true := decide_eq_true hM14
      clear hM14
      go_enter Tryz.func6, Tryz.ntmps6
      go_wp2_with fail
      refine (HK.out _ (Ext.refl _)).mono ?_
      rintro e w1 ⟨rfl, hE1⟩
      have HE1 := Lib.hid (hE1)
      clear hE1
      go_wp2_with fail
      refine (HFA.out _ HE1.out).mono ?_
      rintro e w2 ⟨rfl, hE2⟩
      have HE2 := Lib.hid (HE1.out.trans hE2)
      clear hE2
      go_wp2_with fail
      refine (HK.out _ HE2.out).mono ?_
      rintro e w3 ⟨rfl, hE3⟩
      have HE3 := Lib.hid (HE2.out.trans hE3)
      clear hE3
      go_wp2_with fail
      go_ret
      exact ⟨rfl, HE3.out⟩
    · have q1 : ¬ (14 : Int) < (M : Int) := by omega
      have z1 := decide_eq_false q1
      have z2 : decide (14 < M) = false := decide_eq_false hM14
      have HM14 := Lib.hid hM14
      clear hM14
      by_cases hE : EX = 0
      · subst hE
        by_cases hl : M = L
        · subst hl
          have z3 : ((M : Int) != (M : Int)) = false := by simp
          cases mf with
          | true =>
            have HR := Lib.hid (HB3.out rfl rfl rfl)
            clear HB1 HB2 HB3 HSO HRS
            go_enter Tryz.func6, Tryz.ntmps6
            go_wp2_with fail
            refine (HK.out _ (Ext.refl _)).mono ?_
            rintro e w1 ⟨rfl, hE1⟩
            have HE1 := Lib.hid (hE1)
            clear hE1
            go_wp2_with fail
            refine (HFA.out _ HE1.out).mono ?_
            rintro e w2 ⟨rfl, hE2⟩
            have HE2 := Lib.hid (HE1.out.trans hE2)
            clear hE2
            go_wp2_with fail
            refine (HR.out _ HE2.out).mono ?_
            rintro e w3 ⟨rfl, hE3⟩
            have HE3 := Lib.hid (HE2.out.trans hE3)
            clear hE3
            go_wp2_with fail
            refine (HRC.out _ HE3.out).mono ?_
            rintro e w4 ⟨rfl, hE4⟩
            have HE4 := Lib.hid (HE3.out.trans hE4)
            clear hE4
            go_wp2_with fail
            go_loopw [9, 8] (fun t o wr => ∃ (i : Nat) (b : Bool), i ≤ M ∧ t = .int .i64 i ∧ Hid (b = misF (right.take i)) ∧ o = .int .i64 (if b then 4 else 0) ∧ Hid (Ext w4 wr)) (fun t _ _ => M - (intOf t).toNat)
            case atStart => exact ⟨0, false, by omega, rfl, rfl, rfl, by first | exact Ext.refl _ | exact Ext.drew _⟩
            case round =>
              obtain ⟨i, b, hi, rfl, HBB, rfl, HEL⟩ := hrel
              obtain ⟨wo, rfl⟩ : ∃ wo : World, wo = wr := ⟨_, rfl⟩
              by_cases hlt : i < M
              · have hii : (i : Int) < (M : Int) := by omega
                obtain ⟨x, hx⟩ : ∃ x, right[i]? = some x := ⟨right[i]'(by rw [← HM.out]; exact hlt), List.getElem?_eq_getElem _⟩
                have HTK := Lib.hid (misF_take hx)
                cases b with
                | true =>
                  have HB2 : Hid (true = misF (right.take (i + 1))) := by unfold Hid; rw [HTK.out, ← HBB.out]; rfl
                  simp only [if_true]
                  clear hx
                  go_wp2_with fail
                  go_roundw
                  case rel => exact ⟨i + 1, true, by omega, by go_num, HB2.out, rfl, HEL.out⟩
                  case measure => simp [intOf]; omega
                | false =>
                  obtain ⟨br, or_, rfl, -, hcc⟩ := HRCE.out (by intro e; have := HM.out; rw [e] at this; simp at this; omega)
                  have g1 := (HE4.out.trans HEL.out).cell (hcc i x hx)
                  have HFX : Hid (Calls Tryz.prog 29 #[.int .i64 x] wo fun e w' => e = .returned (.bool (fitB x)) ∧ wo = w') := HFI.out x wo
                  obtain ⟨fx, hfx⟩ : ∃ b, b = fitB x := ⟨_, rfl⟩
                  rw [← hfx] at HFX HTK
                  have HB2 : Hid ((!fx) = misF (right.take (i + 1))) := by unfold Hid; rw [HTK.out, ← HBB.out]; rfl
                  simp only [Bool.false_eq_true, if_false]
                  clear hx hcc hfx
                  cases fx with
                  | true =>
                    go_wp2_with fail
                    refine HFX.out.mono ?_
                    rintro e w6 ⟨rfl, rfl⟩
                    go_wp2_with fail
                    go_roundw
                    case rel => exact ⟨i + 1, false, by omega, by go_num, HB2.out, rfl, HEL.out⟩
                    case measure => simp [intOf]; omega
                  | false =>
                    go_wp2_with fail
                    refine HFX.out.mono ?_
                    rintro e w6 ⟨rfl, rfl⟩
                    go_wp2_with fail
                    go_roundw
                    case rel => exact ⟨i + 1, true, by omega, by go_num, HB2.out, rfl, HEL.out⟩
                    case measure => simp [intOf]; omega
              · obtain rfl : M = i := by omega
                have hii : ¬ (M : Int) < (M : Int) := by omega
                have e0 : misF (right.take M) = misF right := by rw [HM.out, List.take_length]
                rw [e0, ← HMF.out] at HBB
                have e1 := HBB.out
                subst e1
                clear e0 HBB
                simp only [if_true]
                go_wp2_with fail
                go_ret
                exact ⟨rfl, HE4.out.trans HEL.out⟩
          | false =>
            have HR := Lib.hid (HSO.out rfl rfl rfl); have HR2 := Lib.hid (HRS.out rfl rfl rfl)
            have x5 : (KI == KI) = true := by simp
            clear HB1 HB2 HB3 HSO HRS
            go_enter Tryz.func6, Tryz.ntmps6
            go_wp2_with fail
            refine (HK.out _ (Ext.refl _)).mono ?_
            rintro e w1 ⟨rfl, hE1⟩
            have HE1 := Lib.hid (hE1)
            clear hE1
            go_wp2_with fail
            refine (HFA.out _ HE1.out).mono ?_
            rintro e w2 ⟨rfl, hE2⟩
            have HE2 := Lib.hid (HE1.out.trans hE2)
            clear hE2
            go_wp2_with fail
            refine (HR.out _ HE2.out).mono ?_
            rintro e w3 ⟨u, rfl, hu, hE3⟩
            have HU := Lib.hid hu
            have HE3 := Lib.hid (HE2.out.trans hE3)
            obtain ⟨au, cu, rfl, -⟩ := ListAt.open hu
            clear hE3 hu
            go_wp2_with fail
            refine (HRC.out _ HE3.out).mono ?_
            rintro e w4 ⟨rfl, hE4⟩
            have HE4 := Lib.hid (HE3.out.trans hE4)
            have HU4 := Lib.hid (Rats.ext HU.out hE4)
            clear hE4
            go_wp2_with fail
            go_loopw [9, 8] (fun t o wr => ∃ (i : Nat) (b : Bool), i ≤ M ∧ t = .int .i64 i ∧ Hid (b = misF (right.take i)) ∧ o = .int .i64 (if b then 4 else 0) ∧ Hid (Ext w4 wr)) (fun t _ _ => M - (intOf t).toNat)
            case atStart => exact ⟨0, false, by omega, rfl, rfl, rfl, by first | exact Ext.refl _ | exact Ext.drew _⟩
            case round =>
              obtain ⟨i, b, hi, rfl, HBB, rfl, HEL⟩ := hrel
              obtain ⟨wo, rfl⟩ : ∃ wo : World, wo = wr := ⟨_, rfl⟩
              by_cases hlt : i < M
              · have hii : (i : Int) < (M : Int) := by omega
                obtain ⟨x, hx⟩ : ∃ x, right[i]? = some x := ⟨right[i]'(by rw [← HM.out]; exact hlt), List.getElem?_eq_getElem _⟩
                have HTK := Lib.hid (misF_take hx)
                cases b with
                | true =>
                  have HB2 : Hid (true = misF (right.take (i + 1))) := by unfold Hid; rw [HTK.out, ← HBB.out]; rfl
                  simp only [if_true]
                  clear hx
                  go_wp2_with fail
                  go_roundw
                  case rel => exact ⟨i + 1, true, by omega, by go_num, HB2.out, rfl, HEL.out⟩
                  case measure => simp [intOf]; omega
                | false =>
                  obtain ⟨br, or_, rfl, -, hcc⟩ := HRCE.out (by intro e; have := HM.out; rw [e] at this; simp at this; omega)
                  have g1 := (HE4.out.trans HEL.out).cell (hcc i x hx)
                  have HFX : Hid (Calls Tryz.prog 29 #[.int .i64 x] wo fun e w' => e = .returned (.bool (fitB x)) ∧ wo = w') := HFI.out x wo
                  obtain ⟨fx, hfx⟩ : ∃ b, b = fitB x := ⟨_, rfl⟩
                  rw [← hfx] at HFX HTK
                  have HB2 : Hid ((!fx) = misF (right.take (i + 1))) := by unfold Hid; rw [HTK.out, ← HBB.out]; rfl
                  simp only [Bool.false_eq_true, if_false]
                  clear hx hcc hfx
                  cases fx with
                  | true =>
                    go_wp2_with fail
                    refine HFX.out.mono ?_
                    rintro e w6 ⟨rfl, rfl⟩
                    go_wp2_with fail
                    go_roundw
                    case rel => exact ⟨i + 1, false, by omega, by go_num, HB2.out, rfl, HEL.out⟩
                    case measure => simp [intOf]; omega
                  | false =>
                    go_wp2_with fail
                    refine HFX.out.mono ?_
                    rintro e w6 ⟨rfl, rfl⟩
                    go_wp2_with fail
                    go_roundw
                    case rel => exact ⟨i + 1, true, by omega, by go_num, HB2.out, rfl, HEL.out⟩
                    case measure => simp [intOf]; omega
              · obtain rfl : M = i := by omega
                have hii : ¬ (M : Int) < (M : Int) := by omega
                have e0 : misF (right.take M) = misF right := by rw [HM.out, List.take_length]
                rw [e0, ← HMF.out] at HBB
                have e1 := HBB.out
                subst e1
                clear e0 HBB
                simp only [Bool.false_eq_true, if_false]
                have HX4 := Lib.hid (HE4.out.trans HEL.out)
                go_wp2_with fail
                refine (HR2.out _ HX4.out).mono ?_
                rintro e w5 ⟨u', rfl, hu', hE5⟩
                have HU2 := Lib.hid hu'
                have HU5 := Lib.hid (Rats.ext HU4.out (HEL.out.trans hE5))
                have HE5 := Lib.hid (HX4.out.trans hE5)
                clear hE5 hu'
                go_wp2_with fail
                refine (HSA.out _ _ _ HU5.out HU2.out).mono ?_
                rintro e w6 ⟨rfl, hE6⟩
                have HE6 := Lib.hid (HE5.out.trans hE6)
                clear hE6
                go_wp2_with fail
                go_ret
                exact ⟨rfl, HE6.out⟩
        · have HR := Lib.hid (HB2.out rfl hl)
          have z3 : ((M : Int) != (L : Int)) = true := by rw [bne_iff_ne]; omega
          clear HB1 HB2 HB3 HSO HRS hl
          go_enter Tryz.func6, Tryz.ntmps6
          go_wp2_with fail
          refine (HK.out _ (Ext.refl _)).mono ?_
          rintro e w1 ⟨rfl, hE1⟩
          have HE1 := Lib.hid (hE1)
          clear hE1
          go_wp2_with fail
          refine (HFA.out _ HE1.out).mono ?_
          rintro e w2 ⟨rfl, hE2⟩
          have HE2 := Lib.hid (HE1.out.trans hE2)
          clear hE2
          go_wp2_with fail
          refine (HR.out _ HE2.out).mono ?_
          rintro e w3 ⟨rfl, hE3⟩
          have HE3 := Lib.hid (HE2.out.trans hE3)
          clear hE3
          go_wp2_with fail
          refine (HRC.out _ HE3.out).mono ?_
          rintro e w4 ⟨rfl, hE4⟩
          have HE4 := Lib.hid (HE3.out.trans hE4)
          clear hE4
          go_wp2_with fail
          go_loopw [9, 8] (fun t o wr => ∃ i : Nat, i ≤ M ∧ t = .int .i64 i ∧ o = .int .i64 5 ∧ Hid (Ext w wr)) (fun t _ _ => M - (intOf t).toNat)
          case atStart => exact ⟨0, by omega, rfl, rfl, HE4.out⟩
          case round =>
            obtain ⟨i, hi, rfl, rfl, HEL⟩ := hrel
            obtain ⟨wo, rfl⟩ : ∃ wo : World, wo = wr := ⟨_, rfl⟩
            by_cases hlt : i < M
            · have hii : (i : Int) < (M : Int) := by omega
              go_wp2_with fail
              go_roundw
              case rel => exact ⟨i + 1, by omega, by go_num, rfl, HEL.out⟩
              case measure => simp [intOf]; omega
            · obtain rfl : M = i := by omega
              have hii : ¬ (M : Int) < (M : Int) := by omega
              go_wp2_with fail
              go_ret
              exact ⟨rfl, HEL.out⟩
      · have HR := Lib.hid (HB1.out hE)
        have x4 : (EX == EX) = true := by simp
        have x6 : (EX != 0) = true := by rw [bne_iff_ne]; exact hE
        have x7 : (EX == 0) = false := by rw [beq_eq_false_iff_ne]; exact hE
        clear HB1 HB2 HB3 HSO HRS hE
        go_enter Tryz.func6, Tryz.ntmps6
        go_wp2_with fail
        refine (HK.out _ (Ext.refl _)).mono ?_
        rintro e w1 ⟨rfl, hE1⟩
        have HE1 := Lib.hid (hE1)
        clear hE1
        go_wp2_with fail
        refine (HFA.out _ HE1.out).mono ?_
        rintro e w2 ⟨rfl, hE2⟩
        have HE2 := Lib.hid (HE1.out.trans hE2)
        clear hE2
        go_wp2_with fail
        refine (HR.out _ HE2.out).mono ?_
        rintro e w3 ⟨rfl, hE3⟩
        have HE3 := Lib.hid (HE2.out.trans hE3)
        clear hE3
        go_wp2_with fail
        refine (HRC.out _ HE3.out).mono ?_
        rintro e w4 ⟨rfl, hE4⟩
        have HE4 := Lib.hid (HE3.out.trans hE4)
        clear hE4
        go_wp2_with fail
        go_loopw [9, 8] (fun t o wr => ∃ i : Nat, i ≤ M ∧ t = .int .i64 i ∧ o = .int .i64 EX ∧ Hid (Ext w wr)) (fun t _ _ => M - (intOf t).toNat)
        case atStart => exact ⟨0, by omega, rfl, rfl, HE4.out⟩
        case round =>
          obtain ⟨i, hi, rfl, rfl, HEL⟩ := hrel
          obtain ⟨wo, rfl⟩ : ∃ wo : World, wo = wr := ⟨_, rfl⟩
          by_cases hlt : i < M
          · have hii : (i : Int) < (M : Int) := by omega
            go_wp2_with fail
            go_roundw
            case rel => exact ⟨i + 1, by omega, by go_num, rfl, HEL.out⟩
            case measure => simp [intOf]; omega
          · obtain rfl : M = i := by omega
            have hii : ¬ (M : Int) < (M : Int) := by omega
            go_wp2_with fail
            go_ret
            exact ⟨rfl, HEL.out⟩
end Go.Proofs.YtpeinobepiodaaaGreatDoor
