/- Merged: RefH, Law9A. -/
import Derived.Test.YtielnneclcekbaaGreatDoorQAJ
/- Contract of the reference's IsHermite (09). -/
namespace Go.Proofs.YtielnneclcekbaaGreatDoor
set_option linter.unusedVariables false
set_option linter.unusedSimpArgs false
open Go.RowKit

theorem idxZ_lead (r : List Int) : (leadN r < r.length → idxZ r = leadN r) ∧ (r.length ≤ leadN r → idxZ r = -1) := by
  unfold idxZ idxRow leadN
  constructor
  · intro h
    have : r.findIdx? (· != 0) = some (r.findIdx (· != 0)) := by rw [List.findIdx?_eq_some_of_exists]; exact List.findIdx_lt_length.1 h
    rw [this]
  · intro h
    have : r.findIdx? (· != 0) = none := by
      rw [List.findIdx?_eq_none_iff]
      intro x hx
      have h0 : r.findIdx (· != 0) = r.length := Nat.le_antisymm List.findIdx_le_length h
      exact List.findIdx_eq_length.1 h0 x hx
    rw [this]
theorem any_take_succ {α : Type} (f : α → Bool) {xs : List α} {k : Nat} {x : α} (h : xs[k]? = some x) : (xs.take (k + 1)).any f = ((xs.take k).any f || f x) := by
  rw [List.take_add_one, h, List.any_append]; simp

set_option maxRecDepth 100000 in
set_option maxHeartbeats 4000000 in
theorem isHerm_any (xss : List (List Int)) (v : Value) (n : Nat) (w : World) (h : Rows2 w v xss) (hn : ∀ r ∈ xss, r.length = n) :
    Calls Tryz.prog 74 #[v, .int .i64 (n : Int)] w fun e w' => e = .returned (.bool (hermB xss)) ∧ Ext w w' := by
  have HN := Lib.hid hn
  obtain ⟨a, c, rfl, h1, h2, -, hc⟩ := inCell.open h
  have HC := Lib.hid hc
  unfold maxLen at h2
  clear h hc hn
  go_enter Tryz.func74, Tryz.ntmps74
  go_wp2_with fail
  go_loopw [6, 5] (fun t b wr => ∃ j : Nat, j ≤ xss.length ∧ t = .int .i64 j ∧ b = .int .i64 (beforeI xss j) ∧ Ext w wr ∧ Hid ((List.range j).all (okAt xss) = true)) (fun t _ _ => xss.length - (intOf t).toNat)
  case atStart => exact ⟨0, by omega, rfl, rfl, Ext.refl _, rfl⟩
  case round =>
    obtain ⟨j, hj, rfl, rfl, hE, HA⟩ := hrel
    obtain ⟨wo, rfl⟩ : ∃ wo : World, wo = wr := ⟨_, rfl⟩
    have HE := Lib.hid hE
    by_cases hlt : j < xss.length
    · obtain ⟨r, hr⟩ : ∃ r, xss[j]? = some r := ⟨_, List.getElem?_eq_getElem hlt⟩
      obtain ⟨b, off, rfl, hb, hcell⟩ := HC.out (by intro e; simp [e] at hlt)
      obtain ⟨vr, hvr, hcr⟩ := hcell j r hr
      have g1 := hE.cell hcr
      have HR := Lib.hid (Ints.ext hvr hE)
      have hrn := HN.out r (List.mem_of_getElem? hr)
      have HP := Lib.hid (rLead_any r vr wo HR.out)
      have HG : Hid (xss.getD j [] = r) := by unfold Hid; rw [List.getD_eq_getElem?_getD, hr]; rfl
      obtain ⟨ar, cr, rfl, r1, r2, -, -, rc⟩ := HR.out.open
      have RC := Lib.hid rc
      unfold maxLen at r2
      obtain ⟨p, hp⟩ : ∃ p : Nat, leadN r = p := ⟨_, rfl⟩
      obtain ⟨q, hq⟩ : ∃ q : Int, beforeI xss j = q := ⟨_, rfl⟩
      have hidx := idxZ_lead r
      rw [hp] at HP hidx
      have hq1 : -1 ≤ q := by rw [← hq]; exact beforeI_ge _ _
      have HHB := Lib.hid (hermB_no (xs := xss) hlt)
      have HOKF : Hid ((p : Int) ≤ q → okAt xss j = false) := by
        intro hpq
        unfold okAt
        rw [HG.out, hq, decide_eq_false (show ¬ q < idxZ r by
          by_cases hpl : p < r.length
          · rw [hidx.1 hpl]; omega
          · rw [hidx.2 (by omega)]; omega)]
        rfl
      have HOKG : Hid (n ≤ p → okAt xss j = false) := by
        intro hpn
        unfold okAt
        rw [HG.out, hq, decide_eq_false (show ¬ q < idxZ r by rw [hidx.2 (by omega)]; omega)]
        rfl
      have HOK : Hid (p < n → okAt xss j = (decide (q < (p : Int)) && decide (0 ≤ r.getD p 0) && !(xss.take j).any (badAt p r))) := by
        intro hpn
        unfold okAt
        rw [HG.out, hq, hidx.1 (by omega), Int.toNat_natCast]
      have HQ2 : Hid (p < n → beforeI xss (j + 1) = p) := by
        intro hpn
        unfold beforeI
        rw [if_neg (by omega), Nat.add_sub_cancel, HG.out, hidx.1 (by omega)]
      have HSU : Hid (okAt xss j = true → (List.range (j + 1)).all (okAt xss) = true) := fun h => by rw [range_all_succ, HA.out, h]; rfl
      have HRn := Lib.hid hrn
      rw [hq]
      clear hr hcell hvr hcr hp hq hidx hE rc hrn
      by_cases hpq : (p : Int) ≤ q
      · have HF : Hid (hermB xss = false) := HHB.out (HOKF.out hpq)
        go_wp2_with fail
        refine HP.out.mono ?_
        rintro e w5 ⟨rfl, rfl⟩
        clear HP
        go_wp2_with fail
        go_ret
        rw [HF.out]
        exact ⟨rfl, HE.out⟩
      · by_cases hpn : (n : Int) ≤ (p : Int)
        · have HF : Hid (hermB xss = false) := HHB.out (HOKG.out (by omega))
          go_wp2_with fail
          refine HP.out.mono ?_
          rintro e w5 ⟨rfl, rfl⟩
          clear HP
          go_wp2_with fail
          go_ret
          rw [HF.out]
          exact ⟨rfl, HE.out⟩
        · have hpl : p < r.length := by have := HRn.out; omega
          have hpnn : p < n := by omega
          obtain ⟨y, hy⟩ : ∃ y, r[p]? = some y := ⟨_, List.getElem?_eq_getElem hpl⟩
          obtain ⟨br, obr, rfl, -, rcell⟩ := RC.out (by intro e; simp [e] at hpl)
          have g3 := rcell p y hy
          have hgd : r.getD p 0 = y := by rw [List.getD_eq_getElem?_getD, hy]; rfl
          have HY := Lib.hid hy
          have HOK1 := Lib.hid (HOK.out hpnn)
          rw [hgd, decide_eq_true (show q < (p : Int) by omega), Bool.true_and] at HOK1
          have HQ3 := Lib.hid (HQ2.out hpnn)
          clear rcell hy hgd HOK HOKF HOKG HQ2
          by_cases hy0 : y < 0
          · have HF : Hid (hermB xss = false) := HHB.out (by rw [HOK1.out, decide_eq_false (show ¬ 0 ≤ y by omega)]; rfl)
            go_wp2_with fail
            refine HP.out.mono ?_
            rintro e w5 ⟨rfl, rfl⟩
            clear HP
            go_wp2_with fail
            go_ret
            rw [HF.out]
            exact ⟨rfl, HE.out⟩
          · have HOK2 : Hid (okAt xss j = !(xss.take j).any (badAt p r)) := by
              unfold Hid; rw [HOK1.out, decide_eq_true (show 0 ≤ y by omega)]; rfl
            clear HOK1
            have v1 : decide (n ≤ p) = false := decide_eq_false (by omega)
            have v2 : decide ((p : Int) ≤ q) = false := decide_eq_false hpq
            have v3 : decide (y < 0) = false := decide_eq_false hy0
            go_wp2_with fail
            refine HP.out.mono ?_
            rintro e w5 ⟨rfl, rfl⟩
            clear HP
            go_wp2_with fail
            go_loopw [8] (fun t wr => ∃ k : Nat, k ≤ j ∧ t = .int .i64 k ∧ Ext wo wr ∧ Hid ((xss.take k).any (badAt p r) = false)) (fun t _ => j - (intOf t).toNat)
            case atStart => exact ⟨0, by omega, rfl, Ext.refl _, rfl⟩
            case round =>
              obtain ⟨k, hk, rfl, hEk, HB⟩ := hrel
              obtain ⟨wk, rfl⟩ : ∃ wk : World, wk = wr := ⟨_, rfl⟩
              have HEk := Lib.hid hEk
              by_cases hkj : k < j
              · obtain ⟨x, hx⟩ : ∃ x, xss[k]? = some x := ⟨xss[k]'(by omega), List.getElem?_eq_getElem _⟩
                obtain ⟨b', off', hbo, hb', hcell⟩ := HC.out (by intro e; simp [e] at hlt)
                simp only [Option.some.injEq, Addr.mk.injEq, and_true] at hbo
                obtain ⟨rfl, rfl⟩ := hbo
                obtain ⟨vx, hvx, hcx⟩ := hcell k x hx
                have g4 := (HE.out.trans hEk).cell hcx
                have hxn := HN.out x (List.mem_of_getElem? hx)
                obtain ⟨ax, cx, rfl, x1, x2, -, -, xc⟩ := (Ints.ext hvx (HE.out.trans hEk)).open
                have hpx : p < x.length := by omega
                obtain ⟨bx, ox, rfl, -, xcell⟩ := xc (by intro e; simp [e] at hpx)
                obtain ⟨z, hz⟩ : ∃ z, x[p]? = some z := ⟨_, List.getElem?_eq_getElem hpx⟩
                have g5 := xcell p z hz
                have g6 := hEk.cell g1
                have g7 := hEk.cell g3
                unfold maxLen at x2
                have HBA : Hid ((xss.take (k + 1)).any (badAt p r) = (decide (z < 0) || decide (y ≤ z))) := by
                  unfold Hid
                  rw [any_take_succ _ hx, HB.out, Bool.false_or]
                  unfold badAt
                  rw [List.getD_eq_getElem?_getD, List.getD_eq_getElem?_getD, hz, HY.out]; rfl
                have HBAD : Hid ((xss.take (k + 1)).any (badAt p r) = true → hermB xss = false) := fun hb => HHB.out (by
                  rw [HOK2.out]
                  have : (xss.take j).any (badAt p r) = true := by
                    rw [List.any_eq_true] at hb ⊢
                    obtain ⟨u, hu, hbu⟩ := hb
                    refine ⟨u, ?_, hbu⟩
                    rw [show xss.take (k + 1) = (xss.take j).take (k + 1) by rw [List.take_take, Nat.min_eq_left (by omega)]] at hu
                    exact List.mem_of_mem_take hu
                  rw [this]; rfl)
                have q1 : (k : Int) < (xss.length : Int) := by omega
                have q2 : (j : Int) < (xss.length : Int) := by omega
                have q3 : (p : Int) < (x.length : Int) := by omega
                have q4 : (p : Int) < (r.length : Int) := by omega
                have q5 : (k : Int) < (j : Int) := by omega
                clear hx hcell hvx hcx xc xcell hz hEk hxn
                by_cases hz0 : z < 0
                · have d1 : decide (z < 0) = true := decide_eq_true hz0
                  have HF := Lib.hid (HBAD.out (by rw [HBA.out, d1]; rfl))
                  clear HBAD HBA
                  go_wp2_with fail
                  go_quiet (fail)
                  go_wp2_with fail
                  go_ret
                  rw [HF.out]
                  exact ⟨rfl, HE.out.trans (HEk.out.trans (Ext.drewN _ _))⟩
                · have d1 : decide (z < 0) = false := decide_eq_false hz0
                  by_cases hyz : y ≤ z
                  · have d2 : decide (y ≤ z) = true := decide_eq_true hyz
                    have HF := Lib.hid (HBAD.out (by rw [HBA.out, d1, d2]; rfl))
                    clear HBAD HBA
                    go_wp2_with fail
                    go_quiet (fail)
                    go_wp2_with fail
                    go_ret
                    rw [HF.out]
                    exact ⟨rfl, HE.out.trans (HEk.out.trans (Ext.drewN _ _))⟩
                  · have d2 : decide (y ≤ z) = false := decide_eq_false hyz
                    have HB2 : Hid ((xss.take (k + 1)).any (badAt p r) = false) := by unfold Hid; rw [HBA.out, d1, d2]; rfl
                    clear HBAD HBA
                    go_wp2_with fail
                    go_quiet (fail)
                    go_wp2_with fail
                    go_roundw
                    case rel => exact ⟨k + 1, by omega, by go_num, HEk.out.trans (Ext.drewN _ _), HB2.out⟩
                    case measure => simp [intOf]; omega
              · obtain rfl : k = j := by omega
                have HNX := Lib.hid (HSU.out (by rw [HOK2.out, HB.out]; rfl))
                clear hEk
                go_wp2_with fail
                go_roundw
                case rel => exact ⟨k + 1, by omega, by go_num, by rw [HQ3.out], HE.out.trans HEk.out, HNX.out⟩
                case measure => simp [intOf]; omega
    · have HT : Hid (hermB xss = true) := by
        have : j = xss.length := by omega
        rw [this] at HA; exact HA.out
      clear hE
      go_wp2_with fail
      go_ret
      rw [HT.out]
      exact ⟨rfl, HE.out⟩
end Go.Proofs.YtielnneclcekbaaGreatDoor
/- Contracts of law 09's small functions: short, checkRows, check, equal, none. -/
namespace Go.Proofs.YtielnneclcekbaaGreatDoor
set_option linter.unusedVariables false
set_option linter.unusedSimpArgs false
open Go.RowKit

def shortB (xss : List (List Int)) : Bool := xss.all (fun r => decide (r.length ≤ 14)) && decide (xss.length ≤ 14)
set_option maxRecDepth 100000 in
set_option maxHeartbeats 1000000 in
theorem short9_any (xss : List (List Int)) (v : Value) (w : World) (h : Rows2 w v xss) :
    Calls Tryz.prog 11 #[v] w fun e w' => e = .returned (.bool (shortB xss)) ∧ Ext w w' := by
  obtain ⟨a, c, rfl, h1, h2, -, hc⟩ := inCell.open h
  have HC := Lib.hid hc
  unfold maxLen at h2
  clear h hc
  go_enter Tryz.func11, Tryz.ntmps11
  go_wp2_with fail
  go_loopw [3] (fun t wr => ∃ j : Nat, j ≤ xss.length ∧ t = .int .i64 j ∧ w = wr ∧ Hid ((xss.take j).all (fun r => decide (r.length ≤ 14)) = true)) (fun t _ => xss.length - (intOf t).toNat)
  case atStart => exact ⟨0, by omega, rfl, rfl, rfl⟩
  case round =>
    obtain ⟨j, hj, rfl, rfl, HA⟩ := hrel
    by_cases hlt : j < xss.length
    · obtain ⟨b, off, rfl, hb, hcell⟩ := HC.out (by intro e; simp [e] at hlt)
      obtain ⟨x, hx⟩ : ∃ x, xss[j]? = some x := ⟨xss[j], List.getElem?_eq_getElem hlt⟩
      obtain ⟨vx, hvx, hcx⟩ := hcell j x hx
      obtain ⟨ax, cx, rfl, x1, x2, -, -, -⟩ := hvx.open
      have HN : Hid ((xss.take (j + 1)).all (fun r => decide (r.length ≤ 14)) = decide (x.length ≤ 14)) := by
        unfold Hid
        rw [List.take_add_one, hx, List.all_append, HA.out]; simp
      have HSB : Hid (¬ x.length ≤ 14 → shortB xss = false) := fun hn => by
        unfold shortB
        have : xss.all (fun r => decide (r.length ≤ 14)) = false := by
          rw [List.all_eq_false]
          exact ⟨x, List.mem_of_getElem? hx, by simpa using hn⟩
        rw [this]; rfl
      clear hvx hx hcell
      by_cases hl : x.length ≤ 14
      · have hl2 : ¬ (14 : Int) < (x.length : Int) := by omega
        have HN2 : Hid ((xss.take (j + 1)).all (fun r => decide (r.length ≤ 14)) = true) := by unfold Hid; rw [HN.out]; simpa using hl
        clear HSB HN
        go_wp2_with fail
        go_roundw
        case rel => exact ⟨j + 1, by omega, by go_num, by first | rfl | trivial, HN2.out⟩
        case measure => simp [intOf]; omega
      · have hl2 : (14 : Int) < (x.length : Int) := by omega
        have HF := Lib.hid (HSB.out hl)
        clear HSB HN
        go_wp2_with fail
        go_ret
        rw [HF.out]
        exact ⟨rfl, Ext.refl _⟩
    · obtain rfl : j = xss.length := by omega
      have HS : Hid (shortB xss = decide ((xss.length : Int) ≤ 14)) := by
        unfold Hid shortB
        have := HA.out
        rw [List.take_length] at this
        rw [this, Bool.true_and]
        exact decide_eq_decide.2 (by omega)
      go_wp2_with fail
      go_ret
      rw [HS.out]
      exact ⟨by first | rfl | (simp; done), Ext.refl _⟩

theorem allE_drop {n : Int} {xss : List (List Int)} {j : Nat} {x : List Int} (h : xss[j]? = some x) : allE n (xss.drop j) = if rowE x = 0 then (if (x.length : Int) = n then allE n (xss.drop (j + 1)) else 5) else rowE x := by
  rw [drop_cons h]; rfl
set_option maxRecDepth 100000 in
set_option maxHeartbeats 2000000 in
theorem checkRows9_any (xss : List (List Int)) (n : Int) (v : Value) (w : World) (h : Rows2 w v xss) :
    Calls Tryz.prog 13 #[.int .i64 n, v] w fun e w' => e = .returned (.int .i64 (latE n xss)) ∧ Ext w w' := by
  obtain ⟨a, c, rfl, h1, h2, -, hc⟩ := inCell.open h
  have HC := Lib.hid hc
  unfold maxLen at h2
  clear h hc
  by_cases q1 : n < 0
  · have HL : Hid (latE n xss = 3) := by unfold Hid latE; rw [if_pos (.inl q1)]
    go_enter Tryz.func13, Tryz.ntmps13
    go_wp2_with fail
    go_ret
    exact ⟨by rw [HL.out]; rfl, Ext.refl _⟩
  · by_cases q2 : 12 < n
    · have HL : Hid (latE n xss = 3) := by unfold Hid latE; rw [if_pos (.inr q2)]
      go_enter Tryz.func13, Tryz.ntmps13
      go_wp2_with fail
      go_ret
      exact ⟨by rw [HL.out]; rfl, Ext.refl _⟩
    · by_cases q3 : 12 < xss.length
      · have HL : Hid (latE n xss = 4) := by unfold Hid latE; rw [if_neg (by omega), if_pos q3]
        have q4 : (12 : Int) < (xss.length : Int) := by omega
        go_enter Tryz.func13, Tryz.ntmps13
        go_wp2_with fail
        go_ret
        exact ⟨by rw [HL.out]; rfl, Ext.refl _⟩
      · have HL : Hid (latE n xss = allE n xss) := by unfold Hid latE; rw [if_neg (by omega), if_neg q3]
        have q4 : ¬ (12 : Int) < (xss.length : Int) := by omega
        have v1 : decide (n < 0) = false := decide_eq_false q1
        have v2 : decide (12 < n) = false := decide_eq_false q2
        have v3 : decide (12 < xss.length) = false := decide_eq_false q3
        go_enter Tryz.func13, Tryz.ntmps13
        go_wp2_with fail
        go_loopw [5] (fun t wr => ∃ j : Nat, j ≤ xss.length ∧ t = .int .i64 j ∧ w = wr ∧ Hid (allE n (xss.drop j) = allE n xss)) (fun t _ => xss.length - (intOf t).toNat)
        case atStart => exact ⟨0, by omega, rfl, rfl, by unfold Hid; rw [List.drop_zero]⟩
        case round =>
          obtain ⟨j, hj, rfl, rfl, HA⟩ := hrel
          by_cases hlt : j < xss.length
          · obtain ⟨b, off, rfl, hb, hcell⟩ := HC.out (by intro e; simp [e] at hlt)
            obtain ⟨x, hx⟩ : ∃ x, xss[j]? = some x := ⟨xss[j], List.getElem?_eq_getElem hlt⟩
            obtain ⟨vx, hvx, hcx⟩ := hcell j x hx
            have HCK := Lib.hid (refCheck_any x vx w hvx)
            obtain ⟨ax, cx, rfl, x1, x2, -, -, -⟩ := hvx.open
            have HD := Lib.hid (allE_drop (n := n) hx)
            obtain ⟨E, hE⟩ : ∃ E, rowE x = E := ⟨_, rfl⟩
            rw [hE] at HCK HD
            obtain ⟨A, hA⟩ : ∃ A, allE n xss = A := ⟨_, rfl⟩
            rw [hA] at HA
            clear hvx hx hcell hE
            by_cases hE0 : E = 0
            · have HCK0 : Hid (Calls Tryz.prog 30 #[.slice ax x.length cx] w fun e w' => e = .returned (.int .i64 0) ∧ w = w') := by rw [hE0] at HCK; exact HCK.out
              have HD0 : Hid (allE n (xss.drop j) = if (x.length : Int) = n then allE n (xss.drop (j + 1)) else 5) := HD.out.trans (if_pos hE0)
              clear HCK HD hE0
              by_cases hn : (x.length : Int) = n
              · have HN : Hid (allE n (xss.drop (j + 1)) = A) := by
                  have := HD0.out
                  rw [if_pos hn, HA.out] at this
                  exact this.symm
                rw [hA] at HL
                go_wp2_with fail
                refine HCK0.out.mono ?_
                rintro e w5 ⟨rfl, rfl⟩
                go_wp2_with fail
                go_roundw
                case rel => exact ⟨j + 1, by omega, by go_num, by first | rfl | trivial, by rw [hA]; exact HN.out⟩
                case measure => simp [intOf]; omega
              · have HF : Hid (latE n xss = 5) := by
                  have := HD0.out
                  rw [if_neg hn, HA.out] at this
                  rw [hA, this] at HL; exact HL.out
                go_wp2_with fail
                refine HCK0.out.mono ?_
                rintro e w5 ⟨rfl, rfl⟩
                go_wp2_with fail
                go_ret
                rw [HF.out]
                exact ⟨rfl, Ext.refl _⟩
            · have HF : Hid (latE n xss = E) := by
                have := HD.out
                rw [if_neg hE0, HA.out] at this
                rw [hA, this] at HL; exact HL.out
              clear HD
              go_wp2_with fail
              refine HCK.out.mono ?_
              rintro e w5 ⟨rfl, rfl⟩
              go_wp2_with fail
              go_ret
              rw [HF.out]
              exact ⟨rfl, Ext.refl _⟩
          · obtain rfl : j = xss.length := by omega
            have HF : Hid (latE n xss = 0) := by
              rw [HL.out, ← HA.out, List.drop_length]; rfl
            go_wp2_with fail
            go_ret
            rw [HF.out]
            exact ⟨rfl, Ext.refl _⟩
end Go.Proofs.YtielnneclcekbaaGreatDoor
