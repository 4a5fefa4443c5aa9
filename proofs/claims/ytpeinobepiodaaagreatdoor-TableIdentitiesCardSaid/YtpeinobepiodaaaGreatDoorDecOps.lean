/- decimal: compare, times, scaled, small on pieces. -/
import Derived.Test.YtpeinobepiodaaaGreatDoorDecText
namespace Go.Proofs.YtpeinobepiodaaaGreatDoor
set_option linter.unusedVariables false
set_option linter.unusedSimpArgs false
open Go.RowKit

set_option maxRecDepth 100000 in
set_option maxHeartbeats 1000000 in
theorem pcompare_any (p q : List Nat) (u v : Value) (w : World) (hu : PcsAt w u p) (hv : PcsAt w v q) (hp : Can p) (hq : Can q) (hlp : p.length ≤ 100000) (hlq : q.length ≤ 100000) :
    Calls Tryz.prog 146 #[u, v] w fun e w' => e = .returned (.int .i64 (cmpN (lv p) (lv q))) ∧ Ext w w' := by
  obtain ⟨a, ca, rfl, hla, hca, hcu⟩ := hu.open
  obtain ⟨b, cb, rfl, hlb, hcb, hcv⟩ := hv.open
  have HP := Lib.hid hp; have HQ := Lib.hid hq
  have HU := Lib.hid hcu; have HV := Lib.hid hcv
  clear hu hv hcu hcv hp hq
  by_cases hl : p.length = q.length
  · have hl' : ((p.length : Int) != (q.length : Int)) = false := by simp [hl]
    have HL := Lib.hid hl
    have hpq1 : p.length ≤ q.length := by omega
    have hpq2 : q.length ≤ p.length := by omega
    clear hl
    go_enter Tryz.func146, Tryz.ntmps146
    go_wp2_with fail
    go_loopw [5] (fun i wr => ∃ y : Int, i = .int .i64 y ∧ y < p.length ∧ -2 < y ∧ Hid (∃ k : Nat, y + 1 = k ∧ k ≤ p.length ∧ p.drop k = q.drop k) ∧ Ext w wr) (fun i _ => (intOf i + 1).toNat)
    case atStart => exact ⟨_, rfl, by omega, by omega, ⟨p.length, by omega, Nat.le_refl _, by rw [List.drop_length, HL.out, List.drop_length]⟩, Ext.refl _⟩
    case round =>
      obtain ⟨y, rfl, hy1, hy2, HK, hE⟩ := hrel
      obtain ⟨wo, rfl⟩ : ∃ wo : World, wo = wr := ⟨_, rfl⟩
      by_cases h0 : 0 ≤ y
      · obtain ⟨k, rfl⟩ : ∃ k : Nat, y = k := ⟨y.toNat, by omega⟩
        have hkp : k < p.length := by omega
        have hkq : k < q.length := by omega
        obtain ⟨x, hx⟩ : ∃ x, p[k]? = some x := ⟨_, List.getElem?_eq_getElem hkp⟩
        obtain ⟨z, hz⟩ : ∃ z, q[k]? = some z := ⟨_, List.getElem?_eq_getElem hkq⟩
        obtain ⟨ba, oa, rfl, -, hca'⟩ := HU.out (by rintro rfl; simp at hkp)
        obtain ⟨bb, ob, rfl, -, hcb'⟩ := HV.out (by rintro rfl; simp at hkq)
        have g1 := hE.cell (hca' k x hx)
        have g2 := hE.cell (hcb' k z hz)
        have HD : Hid (p.drop (k + 1) = q.drop (k + 1)) := by
          obtain ⟨k', e, -, h⟩ := HK.out
          have : k' = k + 1 := by omega
          rw [this] at h; exact h
        have HX := Lib.hid hx; have HZ := Lib.hid hz
        clear hx hz hca' hcb'
        rcases Nat.lt_trichotomy x z with hxz | hxz | hxz
        · have hb : decide (x < z) = true := decide_eq_true (by omega)
          have HR := Lib.hid (cmpN_lt (lv_cmp HP.out.1 HQ.out.1 HX.out HZ.out HD.out hxz))
          clear hxz
          go_wp2_with fail
          go_quiet (fail)
          go_wp2_with fail
          go_ret
          rw [HR.out]
          exact ⟨rfl, Ext.draws hE _⟩
        · subst hxz
          have hb : decide (x < x) = false := decide_eq_false (by omega)
          have HK2 : Hid (∃ k' : Nat, ((k : Int) - 1) + 1 = k' ∧ k' ≤ p.length ∧ p.drop k' = q.drop k') := by
            refine ⟨k, by omega, by omega, ?_⟩
            show p.drop k = q.drop k
            rw [List.drop_eq_getElem_cons hkp, List.drop_eq_getElem_cons hkq, HD.out]
            congr 1
            have h1 := (List.getElem?_eq_some_iff.1 HX.out).2
            have h2 := (List.getElem?_eq_some_iff.1 HZ.out).2
            rw [h1, h2]
          go_wp2_with fail
          go_quiet (fail)
          go_wp2_with fail
          go_quiet (fail)
          go_wp2_with fail
          go_roundw
          case rel => exact ⟨_, rfl, by omega, by omega, HK2.out, by first | exact Ext.draws (Ext.draws hE _) _ | exact Ext.draws hE _⟩
          case measure => simp [intOf]
        · have hb : decide (x < z) = false := decide_eq_false (by omega)
          have hb2 : decide (z < x) = true := decide_eq_true (by omega)
          have HR := Lib.hid (cmpN_gt (lv_cmp HQ.out.1 HP.out.1 HZ.out HX.out HD.out.symm hxz))
          clear hxz
          go_wp2_with fail
          go_quiet (fail)
          go_wp2_with fail
          go_quiet (fail)
          go_wp2_with fail
          go_ret
          rw [HR.out]
          exact ⟨rfl, by first | exact Ext.draws (Ext.draws hE _) _ | exact Ext.draws hE _⟩
      · have HR : Hid (cmpN (lv p) (lv q) = 0) := by
          obtain ⟨k, e, -, h⟩ := HK.out
          have : k = 0 := by omega
          subst this
          rw [List.drop_zero, List.drop_zero] at h
          exact cmpN_eq (by rw [h])
        go_wp2_with fail
        go_ret
        rw [HR.out]
        exact ⟨rfl, hE⟩
  · have hl' : ((p.length : Int) != (q.length : Int)) = true := by simp; omega
    rcases Nat.lt_or_gt_of_ne hl with h | h
    · have HR := Lib.hid (cmpN_lt (Can.lt_of_length HP.out.1 HQ.out h))
      have HM : Hid (min 1 (max (-1) ((p.length : Int) - (q.length : Int))) = -1) := by unfold Hid; omega
      rw [HR.out]
      clear HR hl
      go_enter Tryz.func146, Tryz.ntmps146
      go_wp2_with fail
      go_ret
      exact ⟨rfl, Ext.refl _⟩
    · have HR := Lib.hid (cmpN_gt (Can.lt_of_length HQ.out.1 HP.out h))
      have HM : Hid (min 1 (max (-1) ((p.length : Int) - (q.length : Int))) = 1) := by unfold Hid; omega
      rw [HR.out]
      clear HR hl
      go_enter Tryz.func146, Tryz.ntmps146
      go_wp2_with fail
      go_ret
      exact ⟨rfl, Ext.refl _⟩
end Go.Proofs.YtpeinobepiodaaaGreatDoor
