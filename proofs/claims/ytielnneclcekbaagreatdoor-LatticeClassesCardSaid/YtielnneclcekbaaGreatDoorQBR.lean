/- Merged: Law9B. -/
import Derived.Test.YtielnneclcekbaaGreatDoorQBQ
/- Contracts of law 09's check, equal and none. -/
namespace Go.Proofs.YtielnneclcekbaaGreatDoor
set_option linter.unusedVariables false
set_option linter.unusedSimpArgs false
open Go.RowKit

set_option maxRecDepth 100000 in
set_option maxHeartbeats 2000000 in
theorem check9_any (n : Int) (xss : List (List Int)) (v : Value) (w : World) (h : LatV w v n xss) :
    Calls Tryz.prog 41 #[v] w fun e w' => e = .returned (.int .i64 (chkE n xss)) ∧ Ext w w' := by
  obtain ⟨u, rfl, hu⟩ := h
  have HC := Lib.hid (fun W (hW : Ext w W) => checkRows9_any xss n u W (hu.ext hW))
  have HU := Lib.hid hu
  obtain ⟨a, c, rfl, h1, h2, -, hc⟩ := inCell.open hu
  clear hu hc
  obtain ⟨W1, hW1, hE1, hs1, hb1⟩ := lat_new w (.int .i64 n) (.slice a xss.length c)
  obtain ⟨e10, e11, -⟩ := lat_block hb1
  have HE1 := Lib.hid hE1
  clear hE1 hs1 hb1
  by_cases hl : latE n xss = 0
  · have HFo := Lib.hid (fun W (hW : Ext w W) => isHerm_any xss _ n.toNat W (HU.out.ext hW) (fun r hr => by have h1 := ((latE_rows hl).2.2.2 r hr).2; have h2 := (latE_rows hl).1; omega))
    have hnn : ((n.toNat : Nat) : Int) = n := by have := (latE_rows hl).1; omega
    rw [hnn] at HFo
    have HV : Hid (chkE n xss = if hermB xss = true then 0 else 7) := by unfold Hid chkE; rw [if_pos hl]
    rw [hl] at HC
    obtain ⟨E, hE⟩ : ∃ E, chkE n xss = E := ⟨_, rfl⟩
    rw [hE] at HV ⊢
    clear hl HU hE hnn
    go_enter Tryz.func41, Tryz.ntmps41
    go_wp2_with fail
    refine (HC.out _ HE1.out).mono ?_
    rintro e w1 ⟨rfl, hE1⟩
    have g0 := hE1.cell e10; have g1 := hE1.cell e11
    have HE2 := Lib.hid (Ext.trans HE1.out hE1)
    clear hE1 HC e10 e11
    cases hb : hermB xss with
    | true =>
      have HV2 : Hid (E = 0) := by rw [hb] at HV; exact HV.out
      rw [hb] at HFo
      go_wp2_with fail
      refine (HFo.out _ HE2.out).mono ?_
      rintro e w2 ⟨rfl, hE2⟩
      have HE3 := Lib.hid (Ext.trans HE2.out hE2)
      clear hE2 HFo hb
      go_wp2_with fail
      go_ret
      exact ⟨by rw [HV2.out]; rfl, HE3.out⟩
    | false =>
      have HV2 : Hid (E = 7) := by rw [hb] at HV; exact HV.out
      rw [hb] at HFo
      go_wp2_with fail
      refine (HFo.out _ HE2.out).mono ?_
      rintro e w2 ⟨rfl, hE2⟩
      have HE3 := Lib.hid (Ext.trans HE2.out hE2)
      clear hE2 HFo hb
      go_wp2_with fail
      go_ret
      exact ⟨by rw [HV2.out]; rfl, HE3.out⟩
  · have HV : Hid (chkE n xss = latE n xss) := by unfold Hid chkE; rw [if_neg hl]
    rw [HV.out]
    clear HV HU
    obtain ⟨E, hE⟩ : ∃ E, latE n xss = E := ⟨_, rfl⟩
    rw [hE] at HC hl ⊢
    clear hE
    go_enter Tryz.func41, Tryz.ntmps41
    go_wp2_with fail
    refine (HC.out _ HE1.out).mono ?_
    rintro e w1 ⟨rfl, hE1⟩
    have HE2 := Lib.hid (Ext.trans HE1.out hE1)
    clear hE1 HC e10 e11
    go_wp2_with fail
    go_ret
    exact ⟨rfl, HE2.out⟩

set_option maxRecDepth 100000 in
set_option maxHeartbeats 2000000 in
theorem equal9_any (n k : Int) (xss yss : List (List Int)) (v u : Value) (w : World) (h : LatV w v n xss) (h' : LatV w u k yss) :
    Calls Tryz.prog 42 #[v, u] w fun e w' => e = .returned (.bool (decide (n = k) && xss == yss)) ∧ Ext w w' := by
  obtain ⟨v1, rfl, hv⟩ := h
  obtain ⟨u1, rfl, hu⟩ := h'
  have HEQ := Lib.hid (fun W (hW : Ext w W) => rEq9_any xss yss v1 u1 W (hv.ext hW) (hu.ext hW))
  obtain ⟨a, c, rfl, h1, h2, -, hc⟩ := inCell.open hv
  obtain ⟨a', c', rfl, k1, k2, -, kc⟩ := inCell.open hu
  clear hv hu hc kc
  by_cases hnk : n = k
  · subst hnk
    obtain ⟨B, hB⟩ : ∃ B : Bool, (xss == yss) = B := ⟨_, rfl⟩
    rw [hB] at HEQ ⊢
    clear hB
    have hd : (decide (n = n)) = true := decide_eq_true rfl
    rw [hd, Bool.true_and]
    clear hd
    go_enter Tryz.func42, Tryz.ntmps42
    go_wp2_with fail
    refine (HEQ.out _ ((Ext.alloc _ _).trans (Ext.alloc _ _))).mono ?_
    rintro e w1 ⟨rfl, hE1⟩
    have HE1 := Lib.hid (Ext.trans ((Ext.alloc _ _).trans (Ext.alloc _ _)) hE1)
    clear hE1 HEQ
    go_wp2_with fail
    go_ret
    exact ⟨rfl, HE1.out⟩
  · have HF : Hid ((decide (n = k) && xss == yss) = false) := by unfold Hid; rw [decide_eq_false hnk]; rfl
    rw [HF.out]
    clear HEQ HF
    go_enter Tryz.func42, Tryz.ntmps42
    go_wp2_with fail
    go_ret
    exact ⟨rfl, (Ext.alloc _ _).trans (Ext.alloc _ _)⟩


theorem latV_zero (w : World) : LatV w (.agg #[.int .i64 0, .slice none 0 0]) 0 [] := ⟨_, rfl, rows_nil w⟩
/-- The zero value. -/
def noneB (n : Int) (xss : List (List Int)) : Bool := decide (n = 0) && xss == []
set_option maxRecDepth 100000 in
set_option maxHeartbeats 1000000 in
theorem none9_any (n : Int) (xss : List (List Int)) (v : Value) (w : World) (h : LatV w v n xss) :
    Calls Tryz.prog 14 #[v] w fun e w' => e = .returned (.bool (noneB n xss)) ∧ Ext w w' := by
  have HQ := Lib.hid (fun W (hW : Ext w W) => equal9_any n 0 xss [] v _ W (h.ext hW) (latV_zero W))
  obtain ⟨u, rfl, hu⟩ := h
  obtain ⟨a, c, rfl, h1, h2, -, hc⟩ := inCell.open hu
  clear hu hc
  obtain ⟨W1, hW1, hE1, hs1, hb1⟩ := lat_new w (.int .i64 n) (.slice a xss.length c)
  obtain ⟨e10, e11, -⟩ := lat_block hb1
  have HE1 := Lib.hid hE1
  obtain ⟨B, hB⟩ : ∃ B, noneB n xss = B := ⟨_, rfl⟩
  have hB2 : (decide (n = 0) && xss == []) = B := hB
  rw [hB2] at HQ
  rw [hB]
  clear hE1 hs1 hb1 hB hB2
  go_enter Tryz.func14, Tryz.ntmps14
  go_wp2_with fail
  refine (HQ.out _ HE1.out).mono ?_
  rintro e w2 ⟨rfl, hE2⟩
  have HE2 := Lib.hid (Ext.trans HE1.out hE2)
  clear hE2 HQ
  go_wp2_with fail
  go_ret
  exact ⟨rfl, HE2.out⟩
end Go.Proofs.YtielnneclcekbaaGreatDoor
