/- Merged: AppliesT. -/
import Derived.Test.YtpeinobepiodaaaGreatDoorGU
import Derived.Test.YtpeinobepiodaaaGreatDoorGO
/- The walk of TableApplies. -/
namespace Go.Proofs.YtpeinobepiodaaaGreatDoor
set_option linter.unusedVariables false
set_option linter.unusedSimpArgs false
open Go.RowKit

theorem refCols_any (xss : List (List Int)) (v : Value) (w : World) (h : Rows2 w v xss) :
    Calls Tryz.prog 19 #[v] w fun e w' => e = .returned (.int .i64 (colsN xss : Int)) ∧ w = w' := by
  obtain ⟨a, c, rfl, h1, h2, -, hc⟩ := inCell.open h
  clear h
  cases xss with
  | nil =>
    go_enter Tryz.func19, Tryz.ntmps19
    go_wp2_with fail
    go_ret
    exact ⟨rfl, rfl⟩
  | cons r l =>
    obtain ⟨b, off, rfl, hb, hcell⟩ := hc (by simp)
    obtain ⟨vx, hvx, hcx⟩ := hcell 0 r rfl
    rw [Nat.add_zero] at hcx
    obtain ⟨ax, cx, rfl, -, -, -, -, -⟩ := Ints.open hvx
    have hz : (((r :: l).length : Int) == 0) = false := by rw [beq_eq_false_iff_ne, List.length_cons]; omega
    have hp : (0 : Int) < ((r :: l).length : Int) := by rw [List.length_cons]; omega
    have HCN : Hid (colsN (r :: l) = r.length) := rfl
    obtain ⟨n, hn⟩ : ∃ n, n = (r :: l).length := ⟨_, rfl⟩
    rw [← hn] at hz hp ⊢
    rw [HCN.out]
    clear hc hcell hvx h1 hn
    go_enter Tryz.func19, Tryz.ntmps19
    go_wp2_with fail
    go_ret
    exact ⟨rfl, rfl⟩
def nfB (a : Int) : Bool := !fitB a
/-- The error ahead of the loop over the row, and behind i elements of it. -/
def ap0 (xss : List (List Int)) (x : List Int) : Int := if tabE xss = 0 then (if x.length = colsN xss then 0 else 5) else tabE xss
def apI (xss : List (List Int)) (x : List Int) (i : Nat) : Int := if ap0 xss x = 0 ∧ (x.take i).any nfB = true then 4 else ap0 xss x
theorem apI_zero (xss : List (List Int)) (x : List Int) : apI xss x 0 = ap0 xss x := by unfold apI; rw [if_neg (by simp)]
theorem apI_bad {xss : List (List Int)} {x : List Int} {i : Nat} (h : apI xss x i ≠ 0) : apI xss x (i + 1) = apI xss x i := by
  unfold apI at h ⊢
  by_cases h0 : ap0 xss x = 0
  · by_cases h1 : (x.take i).any nfB = true
    · have h2 : (x.take (i + 1)).any nfB = true := by
        rw [List.any_eq_true] at h1 ⊢
        obtain ⟨a, ha, hb⟩ := h1
        exact ⟨a, List.mem_of_mem_take (i := i) (by rw [List.take_take, Nat.min_eq_left (by omega)]; exact ha), hb⟩
      rw [if_pos ⟨h0, h2⟩, if_pos ⟨h0, h1⟩]
    · rw [if_neg (by rintro ⟨-, h⟩; exact h1 h)] at h; exact absurd h0 h
  · rw [if_neg (by rintro ⟨h, -⟩; exact h0 h), if_neg (by rintro ⟨h, -⟩; exact h0 h)]
theorem apI_good {xss : List (List Int)} {x : List Int} {i : Nat} {a : Int} (h : apI xss x i = 0) (ha : x[i]? = some a) : apI xss x (i + 1) = if fitB a then 0 else 4 := by
  unfold apI at h ⊢
  have h0 : ap0 xss x = 0 := by
    by_cases h1 : ap0 xss x = 0 ∧ (x.take i).any nfB = true
    · rw [if_pos h1] at h; omega
    · rw [if_neg h1] at h; exact h
  have h1 : (x.take i).any nfB = false := by
    by_cases h1 : (x.take i).any nfB = true
    · rw [if_pos ⟨h0, h1⟩] at h; omega
    · simpa using h1
  rw [List.take_add_one, ha, List.any_append, h1, Bool.false_or, h0]
  unfold nfB
  cases hf : fitB a <;> simp [hf]
theorem apI_end (xss : List (List Int)) (x : List Int) : (apI xss x x.length ≠ 0 ∧ appE xss x = apI xss x x.length) ∨
    (apI xss x x.length = 0 ∧ tabE xss = 0 ∧ x.length = colsN xss ∧ Fit9 x ∧ appE xss x = if (apL xss x).all fitB then 0 else 4) := by
  unfold apI appE ap0
  rw [List.take_length]
  by_cases h0 : tabE xss = 0
  · simp only [h0, if_true]
    by_cases h1 : x.length = colsN xss
    · simp only [h1, if_true]
      cases h2 : x.any nfB with
      | true =>
        have h2' : x.any (fun a => !fitB a) = true := h2
        left
        simp [h2']
      | false =>
        have h2' : x.any (fun a => !fitB a) = false := h2
        right
        refine ⟨by simp, trivial, trivial, fit9_any h2', by rw [h2', if_neg Bool.false_ne_true]⟩
    · left; simp [h1]
  · left; simp [h0]

set_option maxRecDepth 100000 in
set_option maxHeartbeats 4000000 in
theorem applies_walk (xss : List (List Int)) (x : List Int) (v vx : Value) (w : World) (h : Rows2 w v xss) (hx : Ints w vx x) (ht : LibT w) :
    Calls Tryz.prog 9 #[v, vx] w fun e w' => e = .returned (.bool true) ∧ Ext w w' := by
  have HH := Lib.hid h; have HX := Lib.hid hx; have HT := Lib.hid ht
  have HK : Hid (∀ W, Ext w W → Calls Tryz.prog 14 #[] W fun e w' => e = .returned (.bool true) ∧ Ext W w') := fun W hW => known_any W (HT.out.pow.ext hW)
  have HF : Hid (∀ W, Ext w W → Calls Tryz.prog 15 #[v] W fun e w' => e = .returned (.bool (decide (fewP xss))) ∧ Ext W w') := fun W hW => few_any xss v W (h.ext hW)
  have HA : Hid (∀ W, Ext w W → Calls Tryz.prog 36 #[v, vx] W fun e w' => ∃ u, e = .returned (.tuple #[u, .int .i64 (appE xss x)]) ∧ (appE xss x = 0 → Ints w' u (apL xss x)) ∧ (appE xss x ≠ 0 → u = .slice none 0 0) ∧ Ext W w') := fun W hW => tApply_any xss x v vx W (h.ext hW) (hx.ext hW) (HT.out.ext hW)
  have HC : Hid (∀ W, Ext w W → Calls Tryz.prog 18 #[v] W fun e w' => e = .returned (.int .i64 (tabE xss)) ∧ Ext W w') := fun W hW => refCheck_any xss v W (h.ext hW)
  have HCO : Hid (∀ W, Ext w W → Calls Tryz.prog 19 #[v] W fun e w' => e = .returned (.int .i64 (colsN xss : Int)) ∧ W = w') := fun W hW => refCols_any xss v W (h.ext hW)
  obtain ⟨ax, cx, rfl, k1, k2, -, -, hcx⟩ := hx.open
  have HCX := Lib.hid hcx
  unfold maxLen at k2
  obtain ⟨fb, hfb⟩ : ∃ b, b = decide (fewP xss) := ⟨_, rfl⟩
  rw [← hfb] at HF
  have HFB := Lib.hid hfb
  clear h hx ht hcx hfb
  cases fb with
  | false =>
    go_enter Tryz.func9, Tryz.ntmps9
    go_wp2_with fail
    refine (HK.out _ (Ext.refl _)).mono ?_
    rintro e w1 ⟨rfl, hE1⟩
    have HE1 := Lib.hid hE1
    clear hE1
    go_wp2_with fail
    refine (HF.out _ HE1.out).mono ?_
    rintro e w2 ⟨rfl, hE2⟩
    have HE2 := Lib.hid (HE1.out.trans hE2)
    clear hE2
    go_wp2_with fail
    refine (HK.out _ HE2.out).mono ?_
    rintro e w3 ⟨rfl, hE3⟩
    have HE3 := Lib.hid (HE2.out.trans hE3)
    clear hE3
    go_wp2_with fail
    go_ret
    exact ⟨rfl, HE3.out⟩
  | true =>
    by_cases hl14 : x.length ≤ 14
    · have q0 : ¬ (14 : Int) < (x.length : Int) := by omega
      have HEND := Lib.hid (apI_end xss x)
      have HZ := Lib.hid (apI_zero xss x)
      have HBAD := Lib.hid (fun i (h : apI xss x i ≠ 0) => apI_bad h)
      have HGOOD := Lib.hid (fun i a (h : apI xss x i = 0) (ha : x[i]? = some a) => apI_good h ha)
      obtain ⟨E, hE⟩ : ∃ E, E = tabE xss := ⟨_, rfl⟩
      obtain ⟨n, hn⟩ : ∃ n, n = colsN xss := ⟨_, rfl⟩
      have hcs : (E ≠ 0 ∧ apI xss x 0 = E) ∨ (E = 0 ∧ x.length ≠ n ∧ apI xss x 0 = 5) ∨ (E = 0 ∧ x.length = n ∧ apI xss x 0 = 0) := by
        rw [HZ.out, hE, hn]
        unfold ap0
        by_cases h0 : tabE xss = 0
        · rw [if_pos h0]
          by_cases h1 : x.length = colsN xss
          · rw [if_pos h1]; exact .inr (.inr ⟨h0, h1, rfl⟩)
          · rw [if_neg h1]; exact .inr (.inl ⟨h0, h1, rfl⟩)
        · rw [if_neg h0]; exact .inl ⟨h0, rfl⟩
      rw [← hE] at HC HEND
      rw [← hn] at HCO HEND
      have HEE := Lib.hid hE
      have HNN := Lib.hid hn
      obtain ⟨WI, hWI⟩ : ∃ WI : Nat → Int, WI = apI xss x := ⟨_, rfl⟩
      rw [← hWI] at hcs HEND HBAD HGOOD
      obtain ⟨AE, hAE⟩ : ∃ A, A = appE xss x := ⟨_, rfl⟩
      rw [← hAE] at HA HEND
      clear hE hn hWI hAE HZ HFB
      rcases hcs with ⟨e1, e2⟩ | ⟨e1, e2, e3⟩ | ⟨e1, e2, e3⟩
      case' inl =>
        have q1 : (E == 0) = false := by simpa using e1
        have HW0 := Lib.hid e2
        clear e1 e2
      case' inr.inl =>
        have q1 : (E == 0) = true := by simp [e1]
        have q2 : ((x.length : Int) != (n : Int)) = true := by simp; omega
        have HW0 := Lib.hid e3
        clear e1 e2 e3
      case' inr.inr =>
        have q1 : (E == 0) = true := by simp [e1]
        have q2 : ((x.length : Int) != (n : Int)) = false := by simp [e2]
        have HW0 := Lib.hid (e3.trans e1.symm)
        clear e1 e2 e3
      all_goals
        go_enter Tryz.func9, Tryz.ntmps9
        go_wp2_with fail
        refine (HK.out _ (Ext.refl _)).mono ?_
        rintro e w1 ⟨rfl, hE1⟩
        have HE1 := Lib.hid hE1
        clear hE1
        go_wp2_with fail
        refine (HF.out _ HE1.out).mono ?_
        rintro e w2 ⟨rfl, hE2⟩
        have HE2 := Lib.hid (HE1.out.trans hE2)
        clear hE2
        go_wp2_with fail
        refine (HA.out _ HE2.out).mono ?_
        rintro e w3 ⟨u, rfl, hu0, hu1, hE3⟩
        have HU0 := Lib.hid hu0; have HU1 := Lib.hid hu1
        have HE3 := Lib.hid (HE2.out.trans hE3)
        clear hE3 hu0 hu1
        go_wp2_with fail
        refine (HC.out _ HE3.out).mono ?_
        rintro e w4 ⟨rfl, hE4⟩
        have HE34 := Lib.hid hE4
        have HE4 := Lib.hid (HE3.out.trans hE4)
        clear hE4
        go_wp2_with fail
        try
          refine (HCO.out _ HE4.out).mono ?_
          rintro e w5 ⟨rfl, rfl⟩
          go_wp2_with fail
        go_loopw [8, 7] (fun t s wr => ∃ (i : Nat) (wv : Int), i ≤ x.length ∧ t = .int .i64 i ∧ s = .int .i64 wv ∧ Hid (wv = WI i) ∧ Hid (Ext w4 wr)) (fun t _ _ => x.length - (intOf t).toNat)
        case atStart => exact ⟨0, _, by omega, rfl, rfl, HW0.out.symm, by first | exact Ext.refl _ | exact Ext.drew _⟩
        case round =>
          obtain ⟨i, wv, hi, rfl, rfl, HWV, HEI⟩ := hrel
          obtain ⟨wo, rfl⟩ : ∃ wo : World, wo = wr := ⟨_, rfl⟩
          have HXO := Lib.hid (HE4.out.trans HEI.out)
          by_cases hlt : i < x.length
          · by_cases hz : wv = 0
            · obtain ⟨b, off, rfl, -, hcell⟩ := HCX.out (by intro e; rw [e] at hlt; simp at hlt)
              obtain ⟨p, hp⟩ : ∃ p, x[i]? = some p := ⟨x[i], List.getElem?_eq_getElem hlt⟩
              have g1 := HXO.out.cell (hcell i p hp)
              have HGD := Lib.hid (HGOOD.out i p (by rw [← HWV.out]; exact hz) hp)
              have HFI : Hid (∀ W, Calls Tryz.prog 29 #[.int .i64 p] W fun e w' => e = .returned (.bool (fitB p)) ∧ W = w') := fun W => fits_any p W
              subst hz
              clear hcell hp
              cases hf : fitB p with
              | true =>
                rw [hf] at HGD HFI
                go_wp2_with fail
                refine (HFI.out _).mono ?_
                rintro e w6 ⟨rfl, rfl⟩
                go_wp2_with fail
                go_roundw
                case rel => exact ⟨i + 1, 0, by omega, by go_num, rfl, by unfold Hid; rw [HGD.out]; rfl, HEI.out⟩
                case measure => simp [intOf]; omega
              | false =>
                rw [hf] at HGD HFI
                go_wp2_with fail
                refine (HFI.out _).mono ?_
                rintro e w6 ⟨rfl, rfl⟩
                go_wp2_with fail
                go_roundw
                case rel => exact ⟨i + 1, 4, by omega, by go_num, rfl, by unfold Hid; rw [HGD.out]; rfl, HEI.out⟩
                case measure => simp [intOf]; omega
            · have hz' : (wv == 0) = false := by simpa using hz
              have HBD := Lib.hid (HBAD.out i (by rw [← HWV.out]; exact hz))
              go_wp2_with fail
              go_roundw
              case rel => exact ⟨i + 1, wv, by omega, by go_num, rfl, by unfold Hid; rw [HBD.out]; exact HWV.out, HEI.out⟩
              case measure => simp [intOf]; omega
          · obtain rfl : i = x.length := by omega
            have hend := HEND.out
            rw [← HWV.out] at hend
            clear hlt
            rcases hend with ⟨hz, hA⟩ | ⟨hz, hE0, hsz, hfx, hA⟩
            · obtain rfl := HU1.out (by rw [hA]; exact hz)
              have hz' : (wv == 0) = false := by simpa using hz
              have hz2 : (wv != 0) = true := by simpa using hz
              have hz3 : (AE == wv) = true := by rw [hA]; simp
              clear hz hA
              go_wp2_with fail
              go_ret
              exact ⟨rfl, HXO.out⟩
            · subst hz
              have hE0' : tabE xss = 0 := by rw [← HEE.out]; exact hE0
              obtain ⟨hl12, hrr⟩ := tabE_zero hE0'
              have HRA := Lib.hid (refApply_any xss x v _ wo (HH.out.ext HXO.out) (HX.out.ext HXO.out) (fun r hr => ⟨(hrr r hr).2.2, by rw [(hrr r hr).1, ← HNN.out]; exact hsz.symm⟩) hfx hl14 (by omega) (HT.out.pow.ext HXO.out))
              have hl12' : xss.length ≤ 12 := hl12
              clear hrr hE0 hE0' hl12 hsz hfx
              cases hall : (apL xss x).all fitB with
              | false =>
                rw [hall] at hA HRA
                obtain rfl := HU1.out (by rw [hA]; decide)
                obtain rfl : AE = 4 := hA
                clear hall
                go_wp2_with fail
                refine HRA.out.mono ?_
                rintro e w6 ⟨u6, rfl, -, hE6⟩
                have HE6 := Lib.hid (HXO.out.trans hE6)
                clear hE6
                go_wp2_with fail
                go_ret
                exact ⟨rfl, HE6.out⟩
              | true =>
                rw [hall] at hA HRA
                obtain rfl : AE = 0 := hA
                have hU := HU0.out rfl
                have HU := Lib.hid hU
                have HSM : Hid ((apL xss x).map smV = apL xss x) := by
                  unfold Hid
                  conv => rhs; rw [← List.map_id (apL xss x)]
                  exact List.map_congr_left fun a ha => smV_fit (List.all_eq_true.1 hall a ha)
                rw [HSM.out] at HRA
                clear hall
                go_wp2_with fail
                refine HRA.out.mono ?_
                rintro e w6 ⟨u6, rfl, hu6, hE6⟩
                have HE6 := Lib.hid (HXO.out.trans hE6)
                have HEQ := Lib.hid (refEqRows_any (apL xss x) (apL xss x) u u6 w6 (HU.out.ext (HE34.out.trans (HEI.out.trans hE6))) hu6)
                rw [show ((apL xss x) == (apL xss x)) = true from beq_self_eq_true _] at HEQ
                clear hE6 hu6 hU
                go_wp2_with fail
                refine HEQ.out.mono ?_
                rintro e w7 ⟨rfl, hE7⟩
                have HE7 := Lib.hid (HE6.out.trans hE7)
                clear hE7
                go_wp2_with fail
                go_ret
                exact ⟨rfl, HE7.out⟩
    · have q0 : (14 : Int) < (x.length : Int) := by omega
      go_enter Tryz.func9, Tryz.ntmps9
      go_wp2_with fail
      refine (HK.out _ (Ext.refl _)).mono ?_
      rintro e w1 ⟨rfl, hE1⟩
      have HE1 := Lib.hid hE1
      clear hE1
      go_wp2_with fail
      refine (HF.out _ HE1.out).mono ?_
      rintro e w2 ⟨rfl, hE2⟩
      have HE2 := Lib.hid (HE1.out.trans hE2)
      clear hE2
      go_wp2_with fail
      refine (HK.out _ HE2.out).mono ?_
      rintro e w3 ⟨rfl, hE3⟩
      have HE3 := Lib.hid (HE2.out.trans hE3)
      clear hE3
      go_wp2_with fail
      go_ret
      exact ⟨rfl, HE3.out⟩
end Go.Proofs.YtpeinobepiodaaaGreatDoor
