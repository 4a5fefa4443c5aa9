/- Merged: LatAnn, KerS. -/
import Derived.Test.YtjihfabhgcfjnaaGreatDoorUBC
import Derived.Test.YtjihfabhgcfjnaaGreatDoorUAW
/- Contracts of package lattice: Annihilator, Saturate. Printed by gen/latann.py. -/
namespace Go.Proofs.YtjihfabhgcfjnaaGreatDoor
set_option linter.unusedVariables false
set_option linter.unusedSimpArgs false
open Go.RowKit

/-- The rows whose dot products with all rows are 0, as package lattice works them out. -/
def kerS (F cols : Nat) (m : List (List Int)) : Option (List (List Int)) :=
  if okM cols m = true then
    match formO (m.length + cols) F (m.length + cols) (wideL cols m) with
    | none => none
    | some h => if okM (m.length + cols) h = true then formO cols F cols (behindL m.length h) else none
  else none
theorem kernelS_any (F cols : Nat) (m : List (List Int)) (v : Value) (base : Nat) (w : World) (R : List (List Int)) (hM : ResM w base v m) (hk : kerS F cols m = some R)
    (hm : m.length + cols ≤ 1000) (hc1 : 1 ≤ cols) (ht : Pow10 w) (hb : 2 < w.heap.size) :
    Calls Tryz.prog 92 #[v, .int .i64 cols] w fun e w' => ∃ a c, e = .returned (.slice a R.length c) ∧ ResM w' w.heap.size (.slice a R.length c) R ∧ Ext w w' := by
  unfold kerS at hk
  by_cases h1 : okM cols m = true
  · rw [if_pos h1] at hk
    cases h2 : formO (m.length + cols) F (m.length + cols) (wideL cols m) with
    | none => rw [h2] at hk; cases hk
    | some h =>
      rw [h2] at hk
      simp only at hk
      by_cases h3 : okM (m.length + cols) h = true
      · rw [if_pos h3] at hk
        refine (kernelR_any F cols m v base w R hM h1 h h2 h3 hk hm hc1 ht hb).mono fun e w' hh => ?_
        obtain ⟨v', he, hR, hE⟩ := hh
        obtain ⟨a, c, rfl, -, -, -⟩ := hR.open
        exact ⟨a, c, he, hR, hE⟩
      · rw [if_neg h3] at hk; cases hk
  · rw [if_neg h1] at hk; cases hk
theorem longsS_any (xss : List (List Int)) (v : Value) (w : World) (h : Rows2 w v xss) (hlen : xss.length ≤ 1000) (hrow : ∀ xs ∈ xss, xs.length ≤ 1000) (ht : Pow10 w) :
    Calls Tryz.prog 89 #[v] w fun e w' => ∃ a c, e = .returned (.slice a xss.length c) ∧ ResM w' w.heap.size (.slice a xss.length c) xss ∧ Ext w w' := by
  refine (longsR_any xss v w h hlen hrow ht).mono fun e w' hh => ?_
  obtain ⟨v', he, hR, hE⟩ := hh
  obtain ⟨a, c, rfl, -, -, -⟩ := hR.open
  exact ⟨a, c, he, hR, hE⟩
/-- What short ends in, in one shape. -/
def LsF (cols : Nat) (m : List (List Int)) (w w' : World) (A E : Int) (a : Option Addr) (k c : Nat) : Prop :=
  (((m.all fun r => r.all fit9B) = true) → A = cols ∧ E = 0 ∧ SafeS w' (· < w.heap.size) (fun W => Rows2 W (.slice a k c) m)) ∧ (¬ ((m.all fun r => r.all fit9B) = true) → A = 0 ∧ E = 4 ∧ a = none ∧ k = 0 ∧ c = 0)
theorem LsR.open {cols : Nat} {m : List (List Int)} {w w' : World} {e : Ending} (h : LsR cols m w e w') : ∃ A E a k c, e = .returned (.tuple #[.agg #[.int .i64 A, .slice a k c], .int .i64 E]) ∧ LsF cols m w w' A E a k c ∧ Ext w w' := by
  obtain ⟨h1, h2⟩ := h
  by_cases hf : (m.all fun r => r.all fit9B) = true
  · rw [if_pos hf] at h1
    obtain ⟨v, rfl, hs⟩ := h1
    obtain ⟨a, c, rfl, -, -, -, -⟩ := inCell.open hs.now
    exact ⟨_, _, a, _, c, rfl, ⟨fun _ => ⟨rfl, rfl, hs⟩, fun hn => absurd hf hn⟩, h2⟩
  · rw [if_neg hf] at h1
    exact ⟨0, 4, none, 0, 0, h1, ⟨fun hn => absurd hn hf, fun _ => ⟨rfl, rfl, rfl, rfl, rfl⟩⟩, h2⟩
/-- Back to short's end, the result having been laid into a cell below. -/
theorem LsF.close {cols : Nat} {m : List (List Int)} {w w1 w' W : World} {A E : Int} {a : Option Addr} {k c : Nat} (h : LsF cols m w1 w' A E a k c) (hE : Ext w W) (hw : w.heap.size ≤ w1.heap.size) (hg : ∀ S : Nat → Prop, (∀ b, b < w1.heap.size → S b) → GrownS S w' W) : LsR cols m w (.returned (.tuple #[.agg #[.int .i64 A, .slice a k c], .int .i64 E])) W := by
  unfold LsR
  by_cases hf : (m.all fun r => r.all fit9B) = true
  · rw [if_pos hf]
    obtain ⟨rfl, rfl, hs⟩ := h.1 hf
    exact ⟨⟨_, rfl, hs.grow (hg _ fun b hb => hb) fun b hb => .inl (Nat.lt_of_lt_of_le hb hw)⟩, hE⟩
  · rw [if_neg hf]
    obtain ⟨rfl, rfl, rfl, rfl, rfl⟩ := h.2 hf
    exact ⟨rfl, hE⟩


set_option maxRecDepth 100000 in
set_option maxHeartbeats 4000000 in
theorem ann_any (n F : Nat) (xss : List (List Int)) (R : List (List Int)) (hk : kerS F n xss = some R) (v : Value) (w : World) (h : LatV w v n xss) (hE : chkE n xss = 0) (hn : 1 ≤ n) (hsm : ∀ r ∈ R, r.all smB = true) (hl : ∀ r ∈ R, r.length ≤ 1000) (hm : R.length ≤ 1000) (hlib : LibT w) (hb : 2 < w.heap.size) :
    Calls Tryz.prog 44 #[v] w (LsR n R w) := by
  obtain ⟨l1, l2, l3, l4⟩ := latE_rows (chkE_zero hE).1
  have HC := Lib.hid (fun W (hW : Ext w W) => latChk_any n xss v W (h.ext hW))
  rw [hE] at HC
  obtain ⟨u, rfl, hu⟩ := h
  have HLO := Lib.hid (fun W (hW : Ext w W) => longsS_any xss u W (hu.ext hW) (by omega) (fun xs hx => by have := (l4 xs hx).2; omega) (hlib.pow.ext hW))
  have HK1 := Lib.hid (fun W V base (hM : ResM W base V xss) (hW : Ext w W) => kernelS_any F n xss V base W R hM hk (by omega) hn (hlib.pow.ext hW) (Nat.lt_of_lt_of_le hb hW.size))
  have HS := Lib.hid (fun W V base (hM : ResM W base V R) (hW : Ext w W) => lshortR_any n R V base W hM hsm hl hm (by omega) (hlib.ext hW))
  obtain ⟨a, c, rfl, h1, h2, -, hc⟩ := inCell.open hu
  clear hu hc hE hk hsm hl hm hlib l1 l2 l3 l4 hb 
  go_enter Tryz.func44, Tryz.ntmps44
  obtain ⟨W1, hW1, hE1, hs1, hb1⟩ := lat_new w (.int .i64 n) (.slice a xss.length c)
  obtain ⟨W2, hW2, hE2, hs2, hb2⟩ := lat_new W1 (.int .i64 0) (.slice none 0 0)
  have HB1 := Lib.hid (block_ext hb1 hE2)
  have HE2 := Lib.hid (hE1.trans hE2)
  have z1 : W1.heap.size = w.heap.size + 1 := hs1
  rw [z1] at hb2
  have HB2 := Lib.hid hb2
  clear hE1 hE2 hs1 hs2 hb1 hb2
  obtain ⟨e10, e11, -⟩ := lat_block HB1.out
  go_wp2_with fail
  refine (HC.out _ HE2.out).mono ?_
  rintro e w1 ⟨rfl, hE3⟩
  have HE3 := Lib.hid (HE2.out.trans hE3)
  have g0 := hE3.cell e10; have g1 := hE3.cell e11
  have HB3 := Lib.hid (block_ext HB2.out hE3)
  have HS3 : Hid (w.heap.size + 1 < w1.heap.size) := block_lt HB3.out
  clear hE3 HC e10 e11 HB1 HB2 hW1 hW2 z1
  go_upto_region 4 with fail
  refine region_anyE (fun w' => w'.cell? ⟨w.heap.size, 0, none⟩ = some (.int .i64 n) ∧ w'.cell? ⟨w.heap.size, 1, none⟩ = some (.slice a xss.length c) ∧ Hid (Ext w1 w')) 11 (by kernel_rfl) ⟨(Ext.drew w1).cell g0, (Ext.drew w1).cell g1, Ext.drew w1⟩ (fun hHeld => ?_)
  refine anyE_takeW (v := ?_) 0 rfl (by kernel_rfl) (by kernel_rfl) (by kernel_rfl) (by decide) (fun _ _ _ h => h) (Or.inl ⟨by rfl, ?_⟩) (by assumption) ?_
  rotate_left
  · ((intro w'); (try go_simp); (try with_reducible rfl))
  (try simp only [Act.put, List.setIfInBounds_toArray, List.set_cons_zero, List.set_cons_succ])
  refine anyE_take (v := ?_) 1 rfl (by kernel_rfl) (by kernel_rfl) (by kernel_rfl) (by kernel_rfl) (by kernel_rfl) (fun _ _ _ h => h) (Or.inl ⟨by rfl, ?_⟩) (by assumption) ?_
  rotate_left
  · ((intro w' hSw); (try dsimp only at hSw); (try go_simp); (try with_reducible rfl))
  (try simp only [Act.put, List.setIfInBounds_toArray, List.set_cons_zero, List.set_cons_succ])
  refine anyE_takeW (v := ?_) 3 rfl (by kernel_rfl) (by kernel_rfl) (by kernel_rfl) (by decide) (fun _ _ _ h => h) (Or.inl ⟨by rfl, ?_⟩) (by assumption) ?_
  rotate_left
  · ((intro w'); (try go_simp); (try with_reducible rfl))
  (try simp only [Act.put, List.setIfInBounds_toArray, List.set_cons_zero, List.set_cons_succ])
  refine anyE_take (v := ?_) 4 rfl (by kernel_rfl) (by kernel_rfl) (by kernel_rfl) (by kernel_rfl) (by kernel_rfl) (fun _ _ _ h => h) (Or.inl ⟨by rfl, ?_⟩) (by assumption) ?_
  rotate_left
  · ((intro w' hSw); (try dsimp only at hSw); (try go_simp); (try with_reducible rfl))
  (try simp only [Act.put, List.setIfInBounds_toArray, List.set_cons_zero, List.set_cons_succ])
  refine anyE_takeW (v := ?_) 6 rfl (by kernel_rfl) (by kernel_rfl) (by kernel_rfl) (by decide) (fun _ _ _ h => h) (Or.inl ⟨by rfl, ?_⟩) (by assumption) ?_
  rotate_left
  · ((intro w'); (try go_simp); (try with_reducible rfl))
  (try simp only [Act.put, List.setIfInBounds_toArray, List.set_cons_zero, List.set_cons_succ])
  refine anyE_take (v := ?_) 7 rfl (by kernel_rfl) (by kernel_rfl) (by kernel_rfl) (by kernel_rfl) (by kernel_rfl) (fun _ _ _ h => h) (Or.inl ⟨by rfl, ?_⟩) (by assumption) ?_
  rotate_left
  · ((intro w' hSw); (try dsimp only at hSw); (try go_simp); (try with_reducible rfl))
  (try simp only [Act.put, List.setIfInBounds_toArray, List.set_cons_zero, List.set_cons_succ])
  refine anyE_step 2 (by kernel_rfl) rfl (fun K hK => ?_)
  go_simp
  (go_at_call 89; refine (HLO.out _ (HE3.out.trans hHeld.2.2.out)).mono ?_)
  rintro e wx ⟨a2, c2, rfl, hM2, hEz⟩
  have HM2 := Lib.hid hM2
  go_wp2_with fail
  refine hK.out _ _ ⟨(hEz).cell hHeld.1, (hEz).cell hHeld.2.1, Ext.trans hHeld.2.2.out (hEz)⟩ (fun hHeld => ?_)
  clear hK K
  (try simp only [Act.put, List.setIfInBounds_toArray, List.set_cons_zero, List.set_cons_succ])
  refine anyE_step 5 (by kernel_rfl) rfl (fun K hK => ?_)
  go_simp
  (go_at_call 92; refine (HK1.out _ _ _ HM2.out (HE3.out.trans hHeld.2.2.out)).mono ?_)
  rintro e wy ⟨a3, c3, rfl, hM3, hEz⟩
  have HM3 := Lib.hid hM3
  go_wp2_with fail
  refine hK.out _ _ ⟨(hEz).cell hHeld.1, (hEz).cell hHeld.2.1, Ext.trans hHeld.2.2.out (hEz)⟩ (fun hHeld => ?_)
  clear hK K
  (try simp only [Act.put, List.setIfInBounds_toArray, List.set_cons_zero, List.set_cons_succ])
  refine anyE_step 8 (by kernel_rfl) rfl (fun K hK => ?_)
  go_simp
  (go_at_call 91; refine (HS.out _ _ _ HM3.out (HE3.out.trans hHeld.2.2.out)).mono ?_)
  rintro e wz hsr
  obtain ⟨AA, EE, ar, kr, cr, rfl, hLF, hEz⟩ := hsr.open
  have HXY : Hid (Ext w1 wy) := hHeld.2.2.out
  have HLF := Lib.hid hLF; have HXZ := Lib.hid (HXY.out.trans hEz); have HZZ := Lib.hid hEz
  have hr := block_ext HB3.out HXZ.out
  obtain ⟨r0, r1, rf⟩ := lat_block hr
  have f0 := rf 0; have f1 := rf 1
  have HKA := Lib.hid (lat_store hr (.int .i64 AA) (.slice ar kr cr))
  clear rf hr hLF
  go_wp2_with fail
  refine hK.out _ _ ⟨(hEz).cell hHeld.1, (hEz).cell hHeld.2.1, Ext.trans hHeld.2.2.out (hEz)⟩ (fun hHeld => ?_)
  clear hK K
  (try simp only [Act.put, List.setIfInBounds_toArray, List.set_cons_zero, List.set_cons_succ])
  refine anyE_takeW (v := ?_) 9 rfl (by kernel_rfl) (by kernel_rfl) (by kernel_rfl) (by decide) (fun _ _ _ h => h) (Or.inl ⟨by rfl, ?_⟩) (by assumption) ?_
  rotate_left
  · ((intro w'); (try go_simp); (try with_reducible rfl))
  (try simp only [Act.put, List.setIfInBounds_toArray, List.set_cons_zero, List.set_cons_succ])
  refine anyE_takeW (v := ?_) 10 rfl (by kernel_rfl) (by kernel_rfl) (by kernel_rfl) (by decide) (fun _ _ _ h => h) (Or.inl ⟨by rfl, ?_⟩) (by assumption) ?_
  rotate_left
  · ((intro w'); (try go_simp); (try with_reducible rfl))
  (try simp only [Act.put, List.setIfInBounds_toArray, List.set_cons_zero, List.set_cons_succ])
  refine anyE_stepZ 11 (by kernel_rfl) (by kernel_rfl) rfl (fun K hK => ?_)
  go_simp
  refine hK.out _ _ ?_
  clear hK K
  (try simp only [Act.put, List.setIfInBounds_toArray, List.set_cons_zero, List.set_cons_succ])
  refine anyE_last 12 (by kernel_rfl) (by kernel_rfl) (by kernel_rfl) rfl (fun K hK => ?_)
  go_simp
  refine hK.out _ _ ?_
  clear hK K
  (try simp only [Act.put, List.setIfInBounds_toArray, List.set_cons_zero, List.set_cons_succ])
  go_wp2_with fail
  refine bodyPost_ret (results_rowtmp (by rfl) _ _ (w.heap.size + 1) 31 #[.int .i64 AA, .slice ar kr cr] (0, 0) _ (by rfl) HKA.out Tryz.underlying31 (by rfl) (by kernel_rfl)) (by rfl) ?_
  have HWW : Hid (w.heap.size + 1 < wy.heap.size) := Nat.lt_of_lt_of_le HS3.out HXY.out.size
  refine HLF.out.close (ext_lat (HE3.out.trans HXZ.out) (by omega) _ _) (Nat.le_trans (by omega) (Nat.le_of_lt HWW.out)) (fun S hS => GrownS.setCell (GrownS.setCell (GrownS.refl _ _) (hS _ HWW.out) 0 _) (hS _ HWW.out) 1 _)


set_option maxRecDepth 100000 in
set_option maxHeartbeats 4000000 in
theorem sat_any (n F : Nat) (xss : List (List Int)) (K R : List (List Int)) (hk0 : kerS F n xss = some K) (hk : kerS F n K = some R) (hKl : K.length ≤ 900) (v : Value) (w : World) (h : LatV w v n xss) (hE : chkE n xss = 0) (hn : 1 ≤ n) (hsm : ∀ r ∈ R, r.all smB = true) (hl : ∀ r ∈ R, r.length ≤ 1000) (hm : R.length ≤ 1000) (hlib : LibT w) (hb : 2 < w.heap.size) :
    Calls Tryz.prog 151 #[v] w (LsR n R w) := by
  obtain ⟨l1, l2, l3, l4⟩ := latE_rows (chkE_zero hE).1
  have HC := Lib.hid (fun W (hW : Ext w W) => latChk_any n xss v W (h.ext hW))
  rw [hE] at HC
  obtain ⟨u, rfl, hu⟩ := h
  have HLO := Lib.hid (fun W (hW : Ext w W) => longsS_any xss u W (hu.ext hW) (by omega) (fun xs hx => by have := (l4 xs hx).2; omega) (hlib.pow.ext hW))
  have HK1 := Lib.hid (fun W V base (hM : ResM W base V xss) (hW : Ext w W) => kernelS_any F n xss V base W K hM hk0 (by omega) hn (hlib.pow.ext hW) (Nat.lt_of_lt_of_le hb hW.size))
  have HK2 := Lib.hid (fun W V base (hM : ResM W base V K) (hW : Ext w W) => kernelS_any F n K V base W R hM hk (by omega) hn (hlib.pow.ext hW) (Nat.lt_of_lt_of_le hb hW.size))
  have HS := Lib.hid (fun W V base (hM : ResM W base V R) (hW : Ext w W) => lshortR_any n R V base W hM hsm hl hm (by omega) (hlib.ext hW))
  obtain ⟨a, c, rfl, h1, h2, -, hc⟩ := inCell.open hu
  clear hu hc hE hk hsm hl hm hlib l1 l2 l3 l4 hb hk0 hKl
  go_enter Tryz.func151, Tryz.ntmps151
  obtain ⟨W1, hW1, hE1, hs1, hb1⟩ := lat_new w (.int .i64 n) (.slice a xss.length c)
  obtain ⟨W2, hW2, hE2, hs2, hb2⟩ := lat_new W1 (.int .i64 0) (.slice none 0 0)
  have HB1 := Lib.hid (block_ext hb1 hE2)
  have HE2 := Lib.hid (hE1.trans hE2)
  have z1 : W1.heap.size = w.heap.size + 1 := hs1
  rw [z1] at hb2
  have HB2 := Lib.hid hb2
  clear hE1 hE2 hs1 hs2 hb1 hb2
  obtain ⟨e10, e11, -⟩ := lat_block HB1.out
  go_wp2_with fail
  refine (HC.out _ HE2.out).mono ?_
  rintro e w1 ⟨rfl, hE3⟩
  have HE3 := Lib.hid (HE2.out.trans hE3)
  have g0 := hE3.cell e10; have g1 := hE3.cell e11
  have HB3 := Lib.hid (block_ext HB2.out hE3)
  have HS3 : Hid (w.heap.size + 1 < w1.heap.size) := block_lt HB3.out
  clear hE3 HC e10 e11 HB1 HB2 hW1 hW2 z1
  go_upto_region 4 with fail
  refine region_anyE (fun w' => w'.cell? ⟨w.heap.size, 0, none⟩ = some (.int .i64 n) ∧ w'.cell? ⟨w.heap.size, 1, none⟩ = some (.slice a xss.length c) ∧ Hid (Ext w1 w')) 14 (by kernel_rfl) ⟨(Ext.drew w1).cell g0, (Ext.drew w1).cell g1, Ext.drew w1⟩ (fun hHeld => ?_)
  refine anyE_takeW (v := ?_) 0 rfl (by kernel_rfl) (by kernel_rfl) (by kernel_rfl) (by decide) (fun _ _ _ h => h) (Or.inl ⟨by rfl, ?_⟩) (by assumption) ?_
  rotate_left
  · ((intro w'); (try go_simp); (try with_reducible rfl))
  (try simp only [Act.put, List.setIfInBounds_toArray, List.set_cons_zero, List.set_cons_succ])
  refine anyE_take (v := ?_) 1 rfl (by kernel_rfl) (by kernel_rfl) (by kernel_rfl) (by kernel_rfl) (by kernel_rfl) (fun _ _ _ h => h) (Or.inl ⟨by rfl, ?_⟩) (by assumption) ?_
  rotate_left
  · ((intro w' hSw); (try dsimp only at hSw); (try go_simp); (try with_reducible rfl))
  (try simp only [Act.put, List.setIfInBounds_toArray, List.set_cons_zero, List.set_cons_succ])
  refine anyE_takeW (v := ?_) 3 rfl (by kernel_rfl) (by kernel_rfl) (by kernel_rfl) (by decide) (fun _ _ _ h => h) (Or.inl ⟨by rfl, ?_⟩) (by assumption) ?_
  rotate_left
  · ((intro w'); (try go_simp); (try with_reducible rfl))
  (try simp only [Act.put, List.setIfInBounds_toArray, List.set_cons_zero, List.set_cons_succ])
  refine anyE_take (v := ?_) 4 rfl (by kernel_rfl) (by kernel_rfl) (by kernel_rfl) (by kernel_rfl) (by kernel_rfl) (fun _ _ _ h => h) (Or.inl ⟨by rfl, ?_⟩) (by assumption) ?_
  rotate_left
  · ((intro w' hSw); (try dsimp only at hSw); (try go_simp); (try with_reducible rfl))
  (try simp only [Act.put, List.setIfInBounds_toArray, List.set_cons_zero, List.set_cons_succ])
  refine anyE_takeW (v := ?_) 6 rfl (by kernel_rfl) (by kernel_rfl) (by kernel_rfl) (by decide) (fun _ _ _ h => h) (Or.inl ⟨by rfl, ?_⟩) (by assumption) ?_
  rotate_left
  · ((intro w'); (try go_simp); (try with_reducible rfl))
  (try simp only [Act.put, List.setIfInBounds_toArray, List.set_cons_zero, List.set_cons_succ])
  refine anyE_take (v := ?_) 7 rfl (by kernel_rfl) (by kernel_rfl) (by kernel_rfl) (by kernel_rfl) (by kernel_rfl) (fun _ _ _ h => h) (Or.inl ⟨by rfl, ?_⟩) (by assumption) ?_
  rotate_left
  · ((intro w' hSw); (try dsimp only at hSw); (try go_simp); (try with_reducible rfl))
  (try simp only [Act.put, List.setIfInBounds_toArray, List.set_cons_zero, List.set_cons_succ])
  refine anyE_takeW (v := ?_) 9 rfl (by kernel_rfl) (by kernel_rfl) (by kernel_rfl) (by decide) (fun _ _ _ h => h) (Or.inl ⟨by rfl, ?_⟩) (by assumption) ?_
  rotate_left
  · ((intro w'); (try go_simp); (try with_reducible rfl))
  (try simp only [Act.put, List.setIfInBounds_toArray, List.set_cons_zero, List.set_cons_succ])
  refine anyE_take (v := ?_) 10 rfl (by kernel_rfl) (by kernel_rfl) (by kernel_rfl) (by kernel_rfl) (by kernel_rfl) (fun _ _ _ h => h) (Or.inl ⟨by rfl, ?_⟩) (by assumption) ?_
  rotate_left
  · ((intro w' hSw); (try dsimp only at hSw); (try go_simp); (try with_reducible rfl))
  (try simp only [Act.put, List.setIfInBounds_toArray, List.set_cons_zero, List.set_cons_succ])
  refine anyE_step 2 (by kernel_rfl) rfl (fun K hK => ?_)
  go_simp
  (go_at_call 89; refine (HLO.out _ (HE3.out.trans hHeld.2.2.out)).mono ?_)
  rintro e wx ⟨a2, c2, rfl, hM2, hEz⟩
  have HM2 := Lib.hid hM2
  go_wp2_with fail
  refine hK.out _ _ ⟨(hEz).cell hHeld.1, (hEz).cell hHeld.2.1, Ext.trans hHeld.2.2.out (hEz)⟩ (fun hHeld => ?_)
  clear hK K
  (try simp only [Act.put, List.setIfInBounds_toArray, List.set_cons_zero, List.set_cons_succ])
  refine anyE_step 5 (by kernel_rfl) rfl (fun K hK => ?_)
  go_simp
  (go_at_call 92; refine (HK1.out _ _ _ HM2.out (HE3.out.trans hHeld.2.2.out)).mono ?_)
  rintro e wy ⟨a3, c3, rfl, hM3, hEz⟩
  have HM3 := Lib.hid hM3
  go_wp2_with fail
  refine hK.out _ _ ⟨(hEz).cell hHeld.1, (hEz).cell hHeld.2.1, Ext.trans hHeld.2.2.out (hEz)⟩ (fun hHeld => ?_)
  clear hK K
  (try simp only [Act.put, List.setIfInBounds_toArray, List.set_cons_zero, List.set_cons_succ])
  refine anyE_step 8 (by kernel_rfl) rfl (fun K hK => ?_)
  go_simp
  (go_at_call 92; refine (HK2.out _ _ _ HM3.out (HE3.out.trans hHeld.2.2.out)).mono ?_)
  rintro e wv ⟨a4, c4, rfl, hM4, hEz⟩
  have HM4 := Lib.hid hM4
  go_wp2_with fail
  refine hK.out _ _ ⟨(hEz).cell hHeld.1, (hEz).cell hHeld.2.1, Ext.trans hHeld.2.2.out (hEz)⟩ (fun hHeld => ?_)
  clear hK K
  (try simp only [Act.put, List.setIfInBounds_toArray, List.set_cons_zero, List.set_cons_succ])
  refine anyE_step 11 (by kernel_rfl) rfl (fun K hK => ?_)
  go_simp
  (go_at_call 91; refine (HS.out _ _ _ HM4.out (HE3.out.trans hHeld.2.2.out)).mono ?_)
  rintro e wz hsr
  obtain ⟨AA, EE, ar, kr, cr, rfl, hLF, hEz⟩ := hsr.open
  have HXY : Hid (Ext w1 wv) := hHeld.2.2.out
  have HLF := Lib.hid hLF; have HXZ := Lib.hid (HXY.out.trans hEz); have HZZ := Lib.hid hEz
  have hr := block_ext HB3.out HXZ.out
  obtain ⟨r0, r1, rf⟩ := lat_block hr
  have f0 := rf 0; have f1 := rf 1
  have HKA := Lib.hid (lat_store hr (.int .i64 AA) (.slice ar kr cr))
  clear rf hr hLF
  go_wp2_with fail
  refine hK.out _ _ ⟨(hEz).cell hHeld.1, (hEz).cell hHeld.2.1, Ext.trans hHeld.2.2.out (hEz)⟩ (fun hHeld => ?_)
  clear hK K
  (try simp only [Act.put, List.setIfInBounds_toArray, List.set_cons_zero, List.set_cons_succ])
  refine anyE_takeW (v := ?_) 12 rfl (by kernel_rfl) (by kernel_rfl) (by kernel_rfl) (by decide) (fun _ _ _ h => h) (Or.inl ⟨by rfl, ?_⟩) (by assumption) ?_
  rotate_left
  · ((intro w'); (try go_simp); (try with_reducible rfl))
  (try simp only [Act.put, List.setIfInBounds_toArray, List.set_cons_zero, List.set_cons_succ])
  refine anyE_takeW (v := ?_) 13 rfl (by kernel_rfl) (by kernel_rfl) (by kernel_rfl) (by decide) (fun _ _ _ h => h) (Or.inl ⟨by rfl, ?_⟩) (by assumption) ?_
  rotate_left
  · ((intro w'); (try go_simp); (try with_reducible rfl))
  (try simp only [Act.put, List.setIfInBounds_toArray, List.set_cons_zero, List.set_cons_succ])
  refine anyE_stepZ 14 (by kernel_rfl) (by kernel_rfl) rfl (fun K hK => ?_)
  go_simp
  refine hK.out _ _ ?_
  clear hK K
  (try simp only [Act.put, List.setIfInBounds_toArray, List.set_cons_zero, List.set_cons_succ])
  refine anyE_last 15 (by kernel_rfl) (by kernel_rfl) (by kernel_rfl) rfl (fun K hK => ?_)
  go_simp
  refine hK.out _ _ ?_
  clear hK K
  (try simp only [Act.put, List.setIfInBounds_toArray, List.set_cons_zero, List.set_cons_succ])
  go_wp2_with fail
  refine bodyPost_ret (results_rowtmp (by rfl) _ _ (w.heap.size + 1) 31 #[.int .i64 AA, .slice ar kr cr] (0, 0) _ (by rfl) HKA.out Tryz.underlying31 (by rfl) (by kernel_rfl)) (by rfl) ?_
  have HWW : Hid (w.heap.size + 1 < wv.heap.size) := Nat.lt_of_lt_of_le HS3.out HXY.out.size
  refine HLF.out.close (ext_lat (HE3.out.trans HXZ.out) (by omega) _ _) (Nat.le_trans (by omega) (Nat.le_of_lt HWW.out)) (fun S hS => GrownS.setCell (GrownS.setCell (GrownS.refl _ _) (hS _ HWW.out) 0 _) (hS _ HWW.out) 1 _)

end Go.Proofs.YtjihfabhgcfjnaaGreatDoor
/- The kernel, as package lattice works it out, is there, with bounds; the saturation. No program is named here. -/
namespace Go.Proofs.YtjihfabhgcfjnaaGreatDoor
set_option linter.unusedVariables false
set_option linter.unusedSimpArgs false
open Go.RowKit

theorem kerS_mono {F F' cols : Nat} {m R : List (List Int)} (hl : F ≤ F') (h : kerS F cols m = some R) : kerS F' cols m = some R := by
  unfold kerS at h ⊢
  by_cases h1 : okM cols m = true
  · rw [if_pos h1] at h ⊢
    cases h2 : formO (m.length + cols) F (m.length + cols) (wideL cols m) with
    | none => rw [h2] at h; cases h
    | some x =>
      rw [h2] at h
      rw [formO_mono hl h2]
      simp only at h ⊢
      by_cases h3 : okM (m.length + cols) x = true
      · rw [if_pos h3] at h ⊢; exact formO_mono hl h
      · rw [if_neg h3] at h; cases h
  · rw [if_neg h1] at h; cases h
/-- The kernel of a matrix: there is a fuel for it; it is in Hermite form, and generates the annihilator. -/
theorem ker_spec (n N b1 b2 : Nat) (m : List (List Int)) (hw : ∀ x ∈ m, x.length = n) (hN : ∀ x ∈ m, RowLe N x) (h1 : 1 ≤ N) (hb1 : N ≤ 10 ^ b1) (hb2 : n * facN N n ≤ 10 ^ b2) (s1 : (gN n b1 0).1 + 1 ≤ 400000000) (s2 : (gN n b1 0).2 + 1 ≤ 400000000) (s3 : (gN n b2 0).1 + 1 ≤ 400000000) (s4 : (gN n b2 0).2 + 1 ≤ 400000000) :
    ∃ F T qs, kerS F n m = some T ∧ HForm n T qs ∧ (∀ v, Sp n (RowsFrom 0 T) v ↔ Ann n m v) ∧ (∀ x ∈ T, RowLe (n * facN N n) x ∧ x.length = n) ∧ T.length ≤ n ∧
      (∀ ms, HForm n m ms → T.length + m.length = n) ∧ (∀ v, v.length = n → (∀ u, Ann n m u → dotZ u v n = 0) → ∃ D : Int, D ≠ 0 ∧ Sp n (RowsFrom 0 m) (smulL D v)) := by
  have hWm : Wid n m := fun i hi => hw _ (rowE_mem hi)
  have hb1' : ∀ x ∈ m, RowLe (10 ^ b1) x := fun x hx => (hN x hx).mono hb1
  obtain ⟨F1, h, ps, f1, f2, f3, -, f5⟩ := form_all (m.length + n) n b1 (wideL n m) (fun x hx => by
      obtain ⟨i, hi, rfl⟩ := mem_rowE hx; exact wide_wid n m i hi) (wide_le (Nat.pos_of_ne_zero (by simp)) hb1') (.inl (by rw [wide_len]; exact Nat.le_refl _)) s1 s2
  rw [wide_len] at f2
  have hn := wide_rows f3 f5
  have hhl : h.length = n := by omega
  have hbd := form_bound (N := N) f3 (wide_wid n m) (fun i hi => wide_le h1 hN _ (rowE_mem hi)) f5
  rw [hhl] at hbd
  obtain ⟨d, d1, d2, d3⟩ := piv_split f3 m.length
  have hT := behind_form f3 d1 d2 d3
  have hTl : ((h.drop d).map (·.drop m.length)).length = n - d := by simp [hhl]
  have hTb : ∀ x ∈ (h.drop d).map (·.drop m.length), RowLe (n * facN N n) x ∧ x.length = n := by
    intro x hx
    obtain ⟨i, hi, rfl⟩ := mem_rowE hx
    refine ⟨?_, hT.1 i hi⟩
    rw [hTl] at hi
    rw [rowE_behind (by omega)]
    exact fun y hy => hbd (d + i) (by omega) y (List.mem_of_mem_drop hy)
  obtain ⟨F2, T', qs', g1, g2, g3, -, g5⟩ := form_all n n b2 ((h.drop d).map (·.drop m.length)) (fun x hx => (hTb x hx).2) (fun x hx => (hTb x hx).1.mono hb2) (.inr (Nat.le_refl _)) s3 s4
  have hTT : T' = (h.drop d).map (·.drop m.length) := hform_unique g3 hT g5.symm
  refine ⟨F1 + F2, _, _, ?_, hT, ker_sp f3 f5 d1 d2 d3, hTb, by rw [hTl]; omega, fun ms hms => ?_, fun v hv hz => ann_ann hWm f3 f5 d1 d2 d3 hv hz⟩
  · unfold kerS
    have hgl := gN_le n b1 0
    rw [if_pos (okM_of' hw hb1' (by omega)), formO_mono (Nat.le_add_right F1 F2) f1]
    simp only
    have hgl2 := gN_le n b2 0
    rw [if_pos (okM_of' (b := b2) (fun x hx => by obtain ⟨i, hi, rfl⟩ := mem_rowE hx; exact f3.1 i hi) (fun x hx => by
      obtain ⟨i, hi, rfl⟩ := mem_rowE hx; exact (hbd i (by omega)).mono hb2) (by omega)), behind_drop f3 d2 d3, formO_mono (Nat.le_add_left F2 F1) g1, hTT]
  · have := ker_rank hms f3 f5 d1 d2 d3
    rw [hTl]; omega

end Go.Proofs.YtjihfabhgcfjnaaGreatDoor
