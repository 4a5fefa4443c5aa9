/- Merged: Law9A, Law9B. -/
import Derived.Test.YtielnneclcekbaaGreatDoorQBI
/- Contracts of law 09's small functions: short, checkRows, check, equal, none. -/
namespace Go.Proofs.YtielnneclcekbaaGreatDoor
set_option linter.unusedVariables false
set_option linter.unusedSimpArgs false
open Go.RowKit

def shortB (xss : List (List Int)) : Bool := xss.all (fun r => decide (r.length ≤ 14)) && decide (xss.length ≤ 14)
set_option maxRecDepth 100000 in
set_option maxHeartbeats 1000000 in
theorem short9_any (xss : List (List Int)) (v : Value) (w : World) (h : Rows2 w v xss) :
    Calls Tryz.prog 11 #[v] w fun e w' => e = .returned (.bool (shortB xss)) ∧ Ext w w' := by
  obtain ⟨a, c, rfl, h1, h2, -, hc⟩ := inCell.open h
  have HC := Lib.hid hc
  unfold maxLen at h2
  clear h hc
  go_enter Tryz.func11, Tryz.ntmps11
  go_wp2_with fail
  go_loopw [3] (fun t wr => ∃ j : Nat, j ≤ xss.length ∧ t = .int .i64 j ∧ w = wr ∧ Hid ((xss.take j).all (fun r => decide (r.length ≤ 14)) = true)) (fun t _ => xss.length - (intOf t).toNat)
  case atStart => exact ⟨0, by omega, rfl, rfl, rfl⟩
  case round =>
    obtain ⟨j, hj, rfl, rfl, HA⟩ := hrel
    by_cases hlt : j < xss.length
    · obtain ⟨b, off, rfl, hb, hcell⟩ := HC.out (by intro e; simp [e] at hlt)
      obtain ⟨x, hx⟩ : ∃ x, xss[j]? = some x := ⟨xss[j], List.getElem?_eq_getElem hlt⟩
      obtain ⟨vx, hvx, hcx⟩ := hcell j x hx
      obtain ⟨ax, cx, rfl, x1, x2, -, -, -⟩ := hvx.open
      have HN : Hid ((xss.take (j + 1)).all (fun r => decide (r.length ≤ 14)) = decide (x.length ≤ 14)) := by
        unfold Hid
        rw [List.take_add_one, hx, List.all_append, HA.out]; simp
      have HSB : Hid (¬ x.length ≤ 14 → shortB xss = false) := fun hn => by
        unfold shortB
        have : xss.all (fun r => decide (r.length ≤ 14)) = false := by
          rw [List.all_eq_false]
          exact ⟨x, List.mem_of_getElem? hx, by simpa using hn⟩
        rw [this]; rfl
      clear hvx hx hcell
      by_cases hl : x.length ≤ 14
      · have hl2 : ¬ (14 : Int) < (x.length : Int) := by omega
        have HN2 : Hid ((xss.take (j + 1)).all (fun r => decide (r.length ≤ 14)) = true) := by unfold Hid; rw [HN.out]; simpa using hl
        clear HSB HN
        go_wp2_with fail
        go_roundw
        case rel => exact ⟨j + 1, by omega, by go_num, by first | rfl | trivial, HN2.out⟩
        case measure => simp [intOf]; omega
      · have hl2 : (14 : Int) < (x.length : Int) := by omega
        have HF := Lib.hid (HSB.out hl)
        clear HSB HN
        go_wp2_with fail
        go_ret
        rw [HF.out]
        exact ⟨rfl, Ext.refl _⟩
    · obtain rfl : j = xss.length := by omega
      have HS : Hid (shortB xss = decide ((xss.length : Int) ≤ 14)) := by
        unfold Hid shortB
        have := HA.out
        rw [List.take_length] at this
        rw [this, Bool.true_and]
        exact decide_eq_decide.2 (by omega)
      go_wp2_with fail
      go_ret
      rw [HS.out]
      exact ⟨by first | rfl | (simp; done), Ext.refl _⟩

theorem allE_drop {n : Int} {xss : List (List Int)} {j : Nat} {x : List Int} (h : xss[j]? = some x) : allE n (xss.drop j) = if rowE x = 0 then (if (x.length : Int) = n then allE n (xss.drop (j + 1)) else 5) else rowE x := by
  rw [drop_cons h]; rfl
set_option maxRecDepth 100000 in
set_option maxHeartbeats 2000000 in
theorem checkRows9_any (xss : List (List Int)) (n : Int) (v : Value) (w : World) (h : Rows2 w v xss) :
    Calls Tryz.prog 13 #[.int .i64 n, v] w fun e w' => e = .returned (.int .i64 (latE n xss)) ∧ Ext w w' := by
  obtain ⟨a, c, rfl, h1, h2, -, hc⟩ := inCell.open h
  have HC := Lib.hid hc
  unfold maxLen at h2
  clear h hc
  by_cases q1 : n < 0
  · have HL : Hid (latE n xss = 3) := by unfold Hid latE; rw [if_pos (.inl q1)]
    go_enter Tryz.func13, Tryz.ntmps13
    go_wp2_with fail
    go_ret
    exact ⟨by rw [HL.out]; rfl, Ext.refl _⟩
  · by_cases q2 : 12 < n
    · have HL : Hid (latE n xss = 3) := by unfold Hid latE; rw [if_pos (.inr q2)]
      go_enter Tryz.func13, Tryz.ntmps13
      go_wp2_with fail
      go_ret
      exact ⟨by rw [HL.out]; rfl, Ext.refl _⟩
    · by_cases q3 : 12 < xss.length
      · have HL : Hid (latE n xss = 4) := by unfold Hid latE; rw [if_neg (by omega), if_pos q3]
        have q4 : (12 : Int) < (xss.length : Int) := by omega
        go_enter Tryz.func13, Tryz.ntmps13
        go_wp2_with fail
        go_ret
        exact ⟨by rw [HL.out]; rfl, Ext.refl _⟩
      · have HL : Hid (latE n xss = allE n xss) := by unfold Hid latE; rw [if_neg (by omega), if_neg q3]
        have q4 : ¬ (12 : Int) < (xss.length : Int) := by omega
        have v1 : decide (n < 0) = false := decide_eq_false q1
        have v2 : decide (12 < n) = false := decide_eq_false q2
        have v3 : decide (12 < xss.length) = false := decide_eq_false q3
        go_enter Tryz.func13, Tryz.ntmps13
        go_wp2_with fail
        go_loopw [5] (fun t wr => ∃ j : Nat, j ≤ xss.length ∧ t = .int .i64 j ∧ w = wr ∧ Hid (allE n (xss.drop j) = allE n xss)) (fun t _ => xss.length - (intOf t).toNat)
        case atStart => exact ⟨0, by omega, rfl, rfl, by unfold Hid; rw [List.drop_zero]⟩
        case round =>
          obtain ⟨j, hj, rfl, rfl, HA⟩ := hrel
          by_cases hlt : j < xss.length
          · obtain ⟨b, off, rfl, hb, hcell⟩ := HC.out (by intro e; simp [e] at hlt)
            obtain ⟨x, hx⟩ : ∃ x, xss[j]? = some x := ⟨xss[j], List.getElem?_eq_getElem hlt⟩
            obtain ⟨vx, hvx, hcx⟩ := hcell j x hx
            have HCK := Lib.hid (refCheck_any x vx w hvx)
            obtain ⟨ax, cx, rfl, x1, x2, -, -, -⟩ := hvx.open
            have HD := Lib.hid (allE_drop (n := n) hx)
            obtain ⟨E, hE⟩ : ∃ E, rowE x = E := ⟨_, rfl⟩
            rw [hE] at HCK HD
            obtain ⟨A, hA⟩ : ∃ A, allE n xss = A := ⟨_, rfl⟩
            rw [hA] at HA
            clear hvx hx hcell hE
            by_cases hE0 : E = 0
            · have HCK0 : Hid (Calls Tryz.prog 30 #[.slice ax x.length cx] w fun e w' => e = .returned (.int .i64 0) ∧ w = w') := by rw [hE0] at HCK; exact HCK.out
              have HD0 : Hid (allE n (xss.drop j) = if (x.length : Int) = n then allE n (xss.drop (j + 1)) else 5) := HD.out.trans (if_pos hE0)
              clear HCK HD hE0
              by_cases hn : (x.length : Int) = n
              · have HN : Hid (allE n (xss.drop (j + 1)) = A) := by
                  have := HD0.out
                  rw [if_pos hn, HA.out] at this
                  exact this.symm
                rw [hA] at HL
                go_wp2_with fail
                refine HCK0.out.mono ?_
                rintro e w5 ⟨rfl, rfl⟩
                go_wp2_with fail
                go_roundw
                case rel => exact ⟨j + 1, by omega, by go_num, by first | rfl | trivial, by rw [hA]; exact HN.out⟩
                case measure => simp [intOf]; omega
              · have HF : Hid (latE n xss = 5) := by
                  have := HD0.out
                  rw [if_neg hn, HA.out] at this
                  rw [hA, this] at HL; exact HL.out
                go_wp2_with fail
                refine HCK0.out.mono ?_
                rintro e w5 ⟨rfl, rfl⟩
                go_wp2_with fail
                go_ret
                rw [HF.out]
                exact ⟨rfl, Ext.refl _⟩
            · have HF : Hid (latE n xss = E) := by
                have := HD.out
                rw [if_neg hE0, HA.out] at this
                rw [hA, this] at HL; exact HL.out
              clear HD
              go_wp2_with fail
              refine HCK.out.mono ?_
              rintro e w5 ⟨rfl, rfl⟩
              go_wp2_with fail
              go_ret
              rw [HF.out]
              exact ⟨rfl, Ext.refl _⟩
          · obtain rfl : j = xss.length := by omega
            have HF : Hid (latE n xss = 0) := by
              rw [HL.out, ← HA.out, List.drop_length]; rfl
            go_wp2_with fail
            go_ret
            rw [HF.out]
            exact ⟨rfl, Ext.refl _⟩
end Go.Proofs.YtielnneclcekbaaGreatDoor
/- Contracts of law 09's check, equal and none. -/
namespace Go.Proofs.YtielnneclcekbaaGreatDoor
set_option linter.unusedVariables false
set_option linter.unusedSimpArgs false
open Go.RowKit

set_option maxRecDepth 100000 in
set_option maxHeartbeats 2000000 in
theorem check9_any (n : Int) (xss : List (List Int)) (v : Value) (w : World) (h : LatV w v n xss) :
    Calls Tryz.prog 41 #[v] w fun e w' => e = .returned (.int .i64 (chkE n xss)) ∧ Ext w w' := by
  obtain ⟨u, rfl, hu⟩ := h
  have HC := Lib.hid (fun W (hW : Ext w W) => checkRows9_any xss n u W (hu.ext hW))
  have HU := Lib.hid hu
  obtain ⟨a, c, rfl, h1, h2, -, hc⟩ := inCell.open hu
  clear hu hc
  obtain ⟨W1, hW1, hE1, hs1, hb1⟩ := lat_new w (.int .i64 n) (.slice a xss.length c)
  obtain ⟨e10, e11, -⟩ := lat_block hb1
  have HE1 := Lib.hid hE1
  clear hE1 hs1 hb1
  by_cases hl : latE n xss = 0
  · have HFo := Lib.hid (fun W (hW : Ext w W) => isHerm_any xss _ n.toNat W (HU.out.ext hW) (fun r hr => by have h1 := ((latE_rows hl).2.2.2 r hr).2; have h2 := (latE_rows hl).1; omega))
    have hnn : ((n.toNat : Nat) : Int) = n := by have := (latE_rows hl).1; omega
    rw [hnn] at HFo
    have HV : Hid (chkE n xss = if hermB xss = true then 0 else 7) := by unfold Hid chkE; rw [if_pos hl]
    rw [hl] at HC
    obtain ⟨E, hE⟩ : ∃ E, chkE n xss = E := ⟨_, rfl⟩
    rw [hE] at HV ⊢
    clear hl HU hE hnn
    go_enter Tryz.func41, Tryz.ntmps41
    go_wp2_with fail
    refine (HC.out _ HE1.out).mono ?_
    rintro e w1 ⟨rfl, hE1⟩
    have g0 := hE1.cell e10; have g1 := hE1.cell e11
    have HE2 := Lib.hid (Ext.trans HE1.out hE1)
    clear hE1 HC e10 e11
    cases hb : hermB xss with
    | true =>
      have HV2 : Hid (E = 0) := by rw [hb] at HV; exact HV.out
      rw [hb] at HFo
      go_wp2_with fail
      refine (HFo.out _ HE2.out).mono ?_
      rintro e w2 ⟨rfl, hE2⟩
      have HE3 := Lib.hid (Ext.trans HE2.out hE2)
      clear hE2 HFo hb
      go_wp2_with fail
      go_ret
      exact ⟨by rw [HV2.out]; rfl, HE3.out⟩
    | false =>
      have HV2 : Hid (E = 7) := by rw [hb] at HV; exact HV.out
      rw [hb] at HFo
      go_wp2_with fail
      refine (HFo.out _ HE2.out).mono ?_
      rintro e w2 ⟨rfl, hE2⟩
      have HE3 := Lib.hid (Ext.trans HE2.out hE2)
      clear hE2 HFo hb
      go_wp2_with fail
      go_ret
      exact ⟨by rw [HV2.out]; rfl, HE3.out⟩
  · have HV : Hid (chkE n xss = latE n xss) := by unfold Hid chkE; rw [if_neg hl]
    rw [HV.out]
    clear HV HU
    obtain ⟨E, hE⟩ : ∃ E, latE n xss = E := ⟨_, rfl⟩
    rw [hE] at HC hl ⊢
    clear hE
    go_enter Tryz.func41, Tryz.ntmps41
    go_wp2_with fail
    refine (HC.out _ HE1.out).mono ?_
    rintro e w1 ⟨rfl, hE1⟩
    have HE2 := Lib.hid (Ext.trans HE1.out hE1)
    clear hE1 HC e10 e11
    go_wp2_with fail
    go_ret
    exact ⟨rfl, HE2.out⟩

set_option maxRecDepth 100000 in
set_option maxHeartbeats 2000000 in
theorem equal9_any (n k : Int) (xss yss : List (List Int)) (v u : Value) (w : World) (h : LatV w v n xss) (h' : LatV w u k yss) :
    Calls Tryz.prog 42 #[v, u] w fun e w' => e = .returned (.bool (decide (n = k) && xss == yss)) ∧ Ext w w' := by
  obtain ⟨v1, rfl, hv⟩ := h
  obtain ⟨u1, rfl, hu⟩ := h'
  have HEQ := Lib.hid (fun W (hW : Ext w W) => rEq9_any xss yss v1 u1 W (hv.ext hW) (hu.ext hW))
  obtain ⟨a, c, rfl, h1, h2, -, hc⟩ := inCell.open hv
  obtain ⟨a', c', rfl, k1, k2, -, kc⟩ := inCell.open hu
  clear hv hu hc kc
  by_cases hnk : n = k
  · subst hnk
    obtain ⟨B, hB⟩ : ∃ B : Bool, (xss == yss) = B := ⟨_, rfl⟩
    rw [hB] at HEQ ⊢
    clear hB
    have hd : (decide (n = n)) = true := decide_eq_true rfl
    rw [hd, Bool.true_and]
    clear hd
    go_enter Tryz.func42, Tryz.ntmps42
    go_wp2_with fail
    refine (HEQ.out _ ((Ext.alloc _ _).trans (Ext.alloc _ _))).mono ?_
    rintro e w1 ⟨rfl, hE1⟩
    have HE1 := Lib.hid (Ext.trans ((Ext.alloc _ _).trans (Ext.alloc _ _)) hE1)
    clear hE1 HEQ
    go_wp2_with fail
    go_ret
    exact ⟨rfl, HE1.out⟩
  · have HF : Hid ((decide (n = k) && xss == yss) = false) := by unfold Hid; rw [decide_eq_false hnk]; rfl
    rw [HF.out]
    clear HEQ HF
    go_enter Tryz.func42, Tryz.ntmps42
    go_wp2_with fail
    go_ret
    exact ⟨rfl, (Ext.alloc _ _).trans (Ext.alloc _ _)⟩


theorem latV_zero (w : World) : LatV w (.agg #[.int .i64 0, .slice none 0 0]) 0 [] := ⟨_, rfl, rows_nil w⟩
/-- The zero value. -/
def noneB (n : Int) (xss : List (List Int)) : Bool := decide (n = 0) && xss == []
set_option maxRecDepth 100000 in
set_option maxHeartbeats 1000000 in
theorem none9_any (n : Int) (xss : List (List Int)) (v : Value) (w : World) (h : LatV w v n xss) :
    Calls Tryz.prog 14 #[v] w fun e w' => e = .returned (.bool (noneB n xss)) ∧ Ext w w' := by
  have HQ := Lib.hid (fun W (hW : Ext w W) => equal9_any n 0 xss [] v _ W (h.ext hW) (latV_zero W))
  obtain ⟨u, rfl, hu⟩ := h
  obtain ⟨a, c, rfl, h1, h2, -, hc⟩ := inCell.open hu
  clear hu hc
  obtain ⟨W1, hW1, hE1, hs1, hb1⟩ := lat_new w (.int .i64 n) (.slice a xss.length c)
  obtain ⟨e10, e11, -⟩ := lat_block hb1
  have HE1 := Lib.hid hE1
  obtain ⟨B, hB⟩ : ∃ B, noneB n xss = B := ⟨_, rfl⟩
  have hB2 : (decide (n = 0) && xss == []) = B := hB
  rw [hB2] at HQ
  rw [hB]
  clear hE1 hs1 hb1 hB hB2
  go_enter Tryz.func14, Tryz.ntmps14
  go_wp2_with fail
  refine (HQ.out _ HE1.out).mono ?_
  rintro e w2 ⟨rfl, hE2⟩
  have HE2 := Lib.hid (Ext.trans HE1.out hE2)
  clear hE2 HQ
  go_wp2_with fail
  go_ret
  exact ⟨rfl, HE2.out⟩
end Go.Proofs.YtielnneclcekbaaGreatDoor
