/- Merged: TChkX. -/
import Derived.Test.YtehknemdfbkimaaGreatDoorTBAB
import Derived.Test.YtehknemdfbkimaaGreatDoorSBE
/- Law 18: check, at any temperament. Printed by gen/tchk.py. -/
namespace Go.Proofs.YtehknemdfbkimaaGreatDoor
set_option linter.unusedVariables false
set_option linter.unusedSimpArgs false
open Go.RowKit


set_option maxRecDepth 100000 in
set_option maxHeartbeats 4000000 in
theorem lchk_1 (F : Nat) (P : List Int) (C M A S : List (List Int)) (v : Value) (w : World) (hV : TempV w v P C M) (h1 : primesE P ≠ 0) (hlib : LibT w) (hp : 0 < w.heap.size) :
    Calls Tryz.prog 66 #[v] w fun e w' => e = .returned (.int .i64 (primesE P)) ∧ Ext w w' := by
  obtain ⟨vp, vc, vm, rfl, hvp, hvc, hvm⟩ := hV
  obtain ⟨n, hPl⟩ : ∃ n, P.length = n := ⟨_, rfl⟩
  have HPC := Lib.hid (fun W (hW : Ext w W) => primesChk_any P vp W (hvp.ext hW))
  obtain ⟨E, hEE⟩ : ∃ E, primesE P = E := ⟨_, rfl⟩
  rw [hEE] at HPC h1 ⊢
  have hz : (E != 0) = true := by simp [h1]
  clear hEE h1
  have HVC := Lib.hid hvc; have HVM := Lib.hid hvm
  obtain ⟨ap, cp, rfl, -⟩ := hvp.open
  obtain ⟨ac, cc, rfl, -⟩ := inCell.open hvc
  obtain ⟨am, cm, rfl, -⟩ := inCell.open hvm
  rw [hPl] at HPC ⊢
  clear hvp hvc hvm hlib hp hPl
  go_enter Tryz.func66, Tryz.ntmps66
  obtain ⟨W1, hW1, hE1, hs1, hb1⟩ := tp_new w (.slice ap n cp) (.slice ac C.length cc) (.slice am M.length cm)
  have HB1 := Lib.hid hb1; have HE1 := Lib.hid hE1
  obtain ⟨b0, b1, b2, -⟩ := tp_block hb1
  clear hE1 hs1 hb1
  go_wp2_with fail
  refine (HPC.out _ HE1.out).mono ?_
  rintro e w2 ⟨rfl, rfl⟩
  clear HPC
  go_wp2_with fail
  go_ret
  exact ⟨rfl, HE1.out⟩

set_option maxRecDepth 100000 in
set_option maxHeartbeats 4000000 in
theorem lchk_2 (F : Nat) (P : List Int) (C M A S : List (List Int)) (v : Value) (w : World) (hV : TempV w v P C M) (h1 : primesE P = 0) (h2 : chkE P.length C ≠ 0) (hlib : LibT w) (hp : 0 < w.heap.size) :
    Calls Tryz.prog 66 #[v] w fun e w' => e = .returned (.int .i64 (chkE P.length C)) ∧ Ext w w' := by
  obtain ⟨vp, vc, vm, rfl, hvp, hvc, hvm⟩ := hV
  obtain ⟨n, hPl⟩ : ∃ n, P.length = n := ⟨_, rfl⟩
  have HPC := Lib.hid (fun W (hW : Ext w W) => primesChk_any P vp W (hvp.ext hW))
  rw [h1] at HPC
  have HCH := Lib.hid (fun W (hW : Ext w W) u (hu : LatV W u n C) => latChk_any n C u W hu)
  rw [hPl] at h2 ⊢
  obtain ⟨E, hEE⟩ : ∃ E, chkE n C = E := ⟨_, rfl⟩
  rw [hEE] at HCH h2 ⊢
  have hz : (E != 0) = true := by simp [h2]
  clear hEE h2
  have HVC := Lib.hid hvc; have HVM := Lib.hid hvm
  obtain ⟨ap, cp, rfl, -⟩ := hvp.open
  obtain ⟨ac, cc, rfl, -⟩ := inCell.open hvc
  obtain ⟨am, cm, rfl, -⟩ := inCell.open hvm
  rw [hPl] at HPC ⊢
  clear hvp hvc hvm hlib hp hPl h1
  go_enter Tryz.func66, Tryz.ntmps66
  obtain ⟨W1, hW1, hE1, hs1, hb1⟩ := tp_new w (.slice ap n cp) (.slice ac C.length cc) (.slice am M.length cm)
  have HB1 := Lib.hid hb1; have HE1 := Lib.hid hE1
  obtain ⟨b0, b1, b2, -⟩ := tp_block hb1
  clear hE1 hs1 hb1
  go_wp2_with fail
  refine (HPC.out _ HE1.out).mono ?_
  rintro e w2 ⟨rfl, rfl⟩
  clear HPC
  obtain ⟨V1, hV1, hX1, hs1, hb1⟩ := lat_new W1 (.int .i64 0) (.slice none 0 0)
  obtain ⟨r0, r1, rf⟩ := lat_block hb1
  have f0 := rf 0; have f1 := rf 1
  have HB2 := Lib.hid (lat_store hb1 (.int .i64 n) (.slice ac C.length cc))
  have HXU := Lib.hid (ext_lat hX1 (Nat.le_refl _) (.int .i64 n) (.slice ac C.length cc))
  clear hX1 hs1 hb1 rf
  obtain ⟨U1, hU1⟩ : ∃ U1, (V1.setCell ⟨W1.heap.size, 0, none⟩ (.int .i64 n)).setCell ⟨W1.heap.size, 1, none⟩ (.slice ac C.length cc) = U1 := ⟨_, rfl⟩
  rw [hU1] at HB2 HXU
  obtain ⟨s0, s1, -⟩ := lat_block HB2.out
  have HB12 := Lib.hid (block_ext HB1.out HXU.out)
  have HEU := Lib.hid (HE1.out.trans HXU.out)
  have HCU := Lib.hid (HVC.out.ext HEU.out)
  go_wp2_with fail
  clear hU1 hV1 r0 r1 f0 f1 HXU HB1
  refine (HCH.out _ HEU.out _ ⟨_, rfl, HCU.out⟩).mono ?_
  rintro e w3 ⟨rfl, hE3⟩
  have HE3 := Lib.hid (HEU.out.trans hE3)
  have HB23 := Lib.hid (block_ext HB2.out hE3); have HB13 := Lib.hid (block_ext HB12.out hE3)
  have HC3 := Lib.hid (HCU.out.ext hE3)
  clear hE3 HCH HEU HB2 HB12 HCU s0 s1
  go_wp2_with fail
  go_ret
  exact ⟨rfl, HE3.out⟩

set_option maxRecDepth 100000 in
set_option maxHeartbeats 4000000 in
theorem lchk_3 (F : Nat) (P : List Int) (C M A S : List (List Int)) (v : Value) (w : World) (hV : TempV w v P C M) (h1 : primesE P = 0) (h2 : chkE P.length C = 0) (hS : SatF P.length F C A S) (h3 : ¬ (S.all fun r => r.all fit9B) = true) (hlib : LibT w) (hp : 0 < w.heap.size) :
    Calls Tryz.prog 66 #[v] w fun e w' => e = .returned (.int .i64 7) ∧ Ext w w' := by
  obtain ⟨vp, vc, vm, rfl, hvp, hvc, hvm⟩ := hV
  obtain ⟨n, hPl⟩ : ∃ n, P.length = n := ⟨_, rfl⟩
  have HPC := Lib.hid (fun W (hW : Ext w W) => primesChk_any P vp W (hvp.ext hW))
  rw [h1] at HPC
  have HCH := Lib.hid (fun W (hW : Ext w W) u (hu : LatV W u n C) => latChk_any n C u W hu)
  rw [hPl] at h2 hS
  rw [h2] at HCH
  have HSA := Lib.hid (fun W (hW : Ext w W) u (hu : LatV W u n C) => sat_any n F C A S hS.kC hS.kA (by have := hS.lA; omega) u W hu h2 hS.n1 hS.sS (fun r hr => by have := hS.wS r hr; have := hS.n6; omega) (by have := hS.lS; omega) (hlib.ext hW) (Nat.lt_of_lt_of_le hp hW.size))
  have HF := Lib.hid h3
  have HVC := Lib.hid hvc; have HVM := Lib.hid hvm
  obtain ⟨ap, cp, rfl, -⟩ := hvp.open
  obtain ⟨ac, cc, rfl, -⟩ := inCell.open hvc
  obtain ⟨am, cm, rfl, -⟩ := inCell.open hvm
  rw [hPl] at HPC ⊢
  clear hvp hvc hvm hlib hp hPl h1 h2 hS h3
  go_enter Tryz.func66, Tryz.ntmps66
  obtain ⟨W1, hW1, hE1, hs1, hb1⟩ := tp_new w (.slice ap n cp) (.slice ac C.length cc) (.slice am M.length cm)
  have HB1 := Lib.hid hb1; have HE1 := Lib.hid hE1
  obtain ⟨b0, b1, b2, -⟩ := tp_block hb1
  clear hE1 hs1 hb1
  go_wp2_with fail
  refine (HPC.out _ HE1.out).mono ?_
  rintro e w2 ⟨rfl, rfl⟩
  clear HPC
  obtain ⟨V1, hV1, hX1, hs1, hb1⟩ := lat_new W1 (.int .i64 0) (.slice none 0 0)
  obtain ⟨r0, r1, rf⟩ := lat_block hb1
  have f0 := rf 0; have f1 := rf 1
  have HB2 := Lib.hid (lat_store hb1 (.int .i64 n) (.slice ac C.length cc))
  have HXU := Lib.hid (ext_lat hX1 (Nat.le_refl _) (.int .i64 n) (.slice ac C.length cc))
  clear hX1 hs1 hb1 rf
  obtain ⟨U1, hU1⟩ : ∃ U1, (V1.setCell ⟨W1.heap.size, 0, none⟩ (.int .i64 n)).setCell ⟨W1.heap.size, 1, none⟩ (.slice ac C.length cc) = U1 := ⟨_, rfl⟩
  rw [hU1] at HB2 HXU
  obtain ⟨s0, s1, -⟩ := lat_block HB2.out
  have HB12 := Lib.hid (block_ext HB1.out HXU.out)
  have HEU := Lib.hid (HE1.out.trans HXU.out)
  have HCU := Lib.hid (HVC.out.ext HEU.out)
  go_wp2_with fail
  clear hU1 hV1 r0 r1 f0 f1 HXU HB1
  refine (HCH.out _ HEU.out _ ⟨_, rfl, HCU.out⟩).mono ?_
  rintro e w3 ⟨rfl, hE3⟩
  have HE3 := Lib.hid (HEU.out.trans hE3)
  have HB23 := Lib.hid (block_ext HB2.out hE3); have HB13 := Lib.hid (block_ext HB12.out hE3)
  have HC3 := Lib.hid (HCU.out.ext hE3)
  clear hE3 HCH HEU HB2 HB12 HCU s0 s1
  obtain ⟨s0, s1, -⟩ := lat_block HB23.out
  go_wp2_with fail
  refine (HSA.out _ HE3.out _ ⟨_, rfl, HC3.out⟩).mono ?_
  rintro e w4 h4
  obtain ⟨rfl, hE4⟩ := ls_big h4 HF.out
  have HE4 := Lib.hid (HE3.out.trans hE4)
  clear h4 hE4 HE3 s0 s1 HB23 HB13 HC3 HSA
  obtain ⟨V2, hV2, hX2, hs2, hb2⟩ := lat_new w4 (.int .i64 0) (.slice none 0 0)
  obtain ⟨r0, r1, rf⟩ := lat_block hb2
  have f0 := rf 0; have f1 := rf 1
  have HXU := Lib.hid (ext_lat hX2 (Nat.le_refl _) (.int .i64 0) (.slice none 0 0))
  clear hX2 hs2 hb2 rf
  have HEU := Lib.hid (HE4.out.trans HXU.out)
  go_wp2_with fail
  go_ret
  exact ⟨rfl, HEU.out⟩

set_option maxRecDepth 100000 in
set_option maxHeartbeats 4000000 in
theorem lchk_4 (F : Nat) (P : List Int) (C M A S : List (List Int)) (v : Value) (w : World) (hV : TempV w v P C M) (h1 : primesE P = 0) (h2 : chkE P.length C = 0) (hS : SatF P.length F C A S) (h3 : (S.all fun r => r.all fit9B) = true) (h4 : ¬ S = C) (hlib : LibT w) (hp : 0 < w.heap.size) :
    Calls Tryz.prog 66 #[v] w fun e w' => e = .returned (.int .i64 7) ∧ Ext w w' := by
  obtain ⟨vp, vc, vm, rfl, hvp, hvc, hvm⟩ := hV
  obtain ⟨n, hPl⟩ : ∃ n, P.length = n := ⟨_, rfl⟩
  have HPC := Lib.hid (fun W (hW : Ext w W) => primesChk_any P vp W (hvp.ext hW))
  rw [h1] at HPC
  have HCH := Lib.hid (fun W (hW : Ext w W) u (hu : LatV W u n C) => latChk_any n C u W hu)
  rw [hPl] at h2 hS
  rw [h2] at HCH
  have HSA := Lib.hid (fun W (hW : Ext w W) u (hu : LatV W u n C) => sat_any n F C A S hS.kC hS.kA (by have := hS.lA; omega) u W hu h2 hS.n1 hS.sS (fun r hr => by have := hS.wS r hr; have := hS.n6; omega) (by have := hS.lS; omega) (hlib.ext hW) (Nat.lt_of_lt_of_le hp hW.size))
  have HF := Lib.hid h3
  have HEQ : Hid (∀ W u u', Rows2 W u S → Rows2 W u' C → Calls Tryz.prog 117 #[u, u'] W fun e w' => e = .returned (.bool (decide (S = C))) ∧ Ext W w') := fun W u u' h h' => by
    have := refEqual6_any S C u u' W h h'
    rw [beqM_dec S C] at this
    exact this
  rw [decide_eq_false h4] at HEQ
  have HVC := Lib.hid hvc; have HVM := Lib.hid hvm
  obtain ⟨ap, cp, rfl, -⟩ := hvp.open
  obtain ⟨ac, cc, rfl, -⟩ := inCell.open hvc
  obtain ⟨am, cm, rfl, -⟩ := inCell.open hvm
  rw [hPl] at HPC ⊢
  clear hvp hvc hvm hlib hp hPl h1 h2 hS h3 h4
  go_enter Tryz.func66, Tryz.ntmps66
  obtain ⟨W1, hW1, hE1, hs1, hb1⟩ := tp_new w (.slice ap n cp) (.slice ac C.length cc) (.slice am M.length cm)
  have HB1 := Lib.hid hb1; have HE1 := Lib.hid hE1
  obtain ⟨b0, b1, b2, -⟩ := tp_block hb1
  clear hE1 hs1 hb1
  go_wp2_with fail
  refine (HPC.out _ HE1.out).mono ?_
  rintro e w2 ⟨rfl, rfl⟩
  clear HPC
  obtain ⟨V1, hV1, hX1, hs1, hb1⟩ := lat_new W1 (.int .i64 0) (.slice none 0 0)
  obtain ⟨r0, r1, rf⟩ := lat_block hb1
  have f0 := rf 0; have f1 := rf 1
  have HB2 := Lib.hid (lat_store hb1 (.int .i64 n) (.slice ac C.length cc))
  have HXU := Lib.hid (ext_lat hX1 (Nat.le_refl _) (.int .i64 n) (.slice ac C.length cc))
  clear hX1 hs1 hb1 rf
  obtain ⟨U1, hU1⟩ : ∃ U1, (V1.setCell ⟨W1.heap.size, 0, none⟩ (.int .i64 n)).setCell ⟨W1.heap.size, 1, none⟩ (.slice ac C.length cc) = U1 := ⟨_, rfl⟩
  rw [hU1] at HB2 HXU
  obtain ⟨s0, s1, -⟩ := lat_block HB2.out
  have HB12 := Lib.hid (block_ext HB1.out HXU.out)
  have HEU := Lib.hid (HE1.out.trans HXU.out)
  have HCU := Lib.hid (HVC.out.ext HEU.out)
  go_wp2_with fail
  clear hU1 hV1 r0 r1 f0 f1 HXU HB1
  refine (HCH.out _ HEU.out _ ⟨_, rfl, HCU.out⟩).mono ?_
  rintro e w3 ⟨rfl, hE3⟩
  have HE3 := Lib.hid (HEU.out.trans hE3)
  have HB23 := Lib.hid (block_ext HB2.out hE3); have HB13 := Lib.hid (block_ext HB12.out hE3)
  have HC3 := Lib.hid (HCU.out.ext hE3)
  clear hE3 HCH HEU HB2 HB12 HCU s0 s1
  obtain ⟨s0, s1, -⟩ := lat_block HB23.out
  go_wp2_with fail
  refine (HSA.out _ HE3.out _ ⟨_, rfl, HC3.out⟩).mono ?_
  rintro e w4 h4
  obtain ⟨⟨u4, rfl, hu4⟩, hE4⟩ := ls_fit h4 HF.out
  obtain ⟨a4, c4, rfl, -⟩ := ListAt.open hu4.now
  have HE4 := Lib.hid (HE3.out.trans hE4); have HU4 := Lib.hid hu4.now
  have HB24 := Lib.hid (block_ext HB23.out hE4); have HB14 := Lib.hid (block_ext HB13.out hE4)
  have HC4 := Lib.hid (HC3.out.ext hE4)
  clear h4 hE4 hu4 HSA HE3 HB23 HB13 HC3 s0 s1
  obtain ⟨V2, hV2, hX2, hs2, hb2⟩ := lat_new w4 (.int .i64 0) (.slice none 0 0)
  obtain ⟨r0, r1, rf⟩ := lat_block hb2
  have f0 := rf 0; have f1 := rf 1
  have HB5 := Lib.hid (lat_store hb2 (.int .i64 n) (.slice a4 S.length c4))
  have HXU := Lib.hid (ext_lat hX2 (Nat.le_refl _) (.int .i64 n) (.slice a4 S.length c4))
  clear hX2 hs2 hb2 rf
  obtain ⟨U2, hU2⟩ : ∃ U2, (V2.setCell ⟨w4.heap.size, 0, none⟩ (.int .i64 n)).setCell ⟨w4.heap.size, 1, none⟩ (.slice a4 S.length c4) = U2 := ⟨_, rfl⟩
  rw [hU2] at HB5 HXU
  have HB25 := Lib.hid (block_ext HB24.out HXU.out); have HB15 := Lib.hid (block_ext HB14.out HXU.out)
  obtain ⟨b0, b1, b2, -⟩ := tp_block HB15.out
  obtain ⟨q0, q1, -⟩ := lat_block HB5.out
  have HEU := Lib.hid (HE4.out.trans HXU.out)
  have HCU := Lib.hid (HC4.out.ext HXU.out)
  have HSU := Lib.hid (HU4.out.ext HXU.out)
  have HVCU := Lib.hid (HVC.out.ext HEU.out)
  go_wp2_with fail
  clear hU2 hV2 r0 r1 f0 f1 HE4 HU4 HXU HB24 HB14 HC4
  refine (HEQ.out _ _ _ HSU.out HVCU.out).mono ?_
  rintro e w6 ⟨rfl, hE6⟩
  have HE6 := Lib.hid (HEU.out.trans hE6)
  have HB26 := Lib.hid (block_ext HB25.out hE6); have HB16 := Lib.hid (block_ext HB15.out hE6)
  have HC6 := Lib.hid (HCU.out.ext hE6)
  clear hE6 HEQ HEU HB25 HB15 HCU HSU HVCU HB5 b0 b1 b2 q0 q1
  go_wp2_with fail
  go_ret
  exact ⟨rfl, HE6.out⟩

set_option maxRecDepth 100000 in
set_option maxHeartbeats 4000000 in
theorem lchk_5 (F : Nat) (P : List Int) (C M A S : List (List Int)) (v : Value) (w : World) (hV : TempV w v P C M) (h1 : primesE P = 0) (h2 : chkE P.length C = 0) (hS : SatF P.length F C A S) (h3 : (S.all fun r => r.all fit9B) = true) (h4 : S = C) (h5 : ¬ (A.all fun r => r.all fit9B) = true) (hlib : LibT w) (hp : 0 < w.heap.size) :
    Calls Tryz.prog 66 #[v] w fun e w' => e = .returned (.int .i64 14) ∧ Ext w w' := by
  obtain ⟨vp, vc, vm, rfl, hvp, hvc, hvm⟩ := hV
  obtain ⟨n, hPl⟩ : ∃ n, P.length = n := ⟨_, rfl⟩
  have HPC := Lib.hid (fun W (hW : Ext w W) => primesChk_any P vp W (hvp.ext hW))
  rw [h1] at HPC
  have HCH := Lib.hid (fun W (hW : Ext w W) u (hu : LatV W u n C) => latChk_any n C u W hu)
  rw [hPl] at h2 hS
  rw [h2] at HCH
  have HSA := Lib.hid (fun W (hW : Ext w W) u (hu : LatV W u n C) => sat_any n F C A S hS.kC hS.kA (by have := hS.lA; omega) u W hu h2 hS.n1 hS.sS (fun r hr => by have := hS.wS r hr; have := hS.n6; omega) (by have := hS.lS; omega) (hlib.ext hW) (Nat.lt_of_lt_of_le hp hW.size))
  have HF := Lib.hid h3
  have HEQ : Hid (∀ W u u', Rows2 W u S → Rows2 W u' C → Calls Tryz.prog 117 #[u, u'] W fun e w' => e = .returned (.bool (decide (S = C))) ∧ Ext W w') := fun W u u' h h' => by
    have := refEqual6_any S C u u' W h h'
    rw [beqM_dec S C] at this
    exact this
  rw [decide_eq_true h4] at HEQ
  have HAN := Lib.hid (fun W (hW : Ext w W) u (hu : LatV W u n C) => ann_any n F C A hS.kC u W hu h2 hS.n1 hS.sA (fun r hr => by have := hS.wA r hr; have := hS.n6; omega) (by have := hS.lA; omega) (hlib.ext hW) (Nat.lt_of_lt_of_le hp hW.size))
  have HFA := Lib.hid h5
  have HVC := Lib.hid hvc; have HVM := Lib.hid hvm
  obtain ⟨ap, cp, rfl, -⟩ := hvp.open
  obtain ⟨ac, cc, rfl, -⟩ := inCell.open hvc
  obtain ⟨am, cm, rfl, -⟩ := inCell.open hvm
  rw [hPl] at HPC ⊢
  clear hvp hvc hvm hlib hp hPl h1 h2 hS h3 h4 h5
  go_enter Tryz.func66, Tryz.ntmps66
  obtain ⟨W1, hW1, hE1, hs1, hb1⟩ := tp_new w (.slice ap n cp) (.slice ac C.length cc) (.slice am M.length cm)
  have HB1 := Lib.hid hb1; have HE1 := Lib.hid hE1
  obtain ⟨b0, b1, b2, -⟩ := tp_block hb1
  clear hE1 hs1 hb1
  go_wp2_with fail
  refine (HPC.out _ HE1.out).mono ?_
  rintro e w2 ⟨rfl, rfl⟩
  clear HPC
  obtain ⟨V1, hV1, hX1, hs1, hb1⟩ := lat_new W1 (.int .i64 0) (.slice none 0 0)
  obtain ⟨r0, r1, rf⟩ := lat_block hb1
  have f0 := rf 0; have f1 := rf 1
  have HB2 := Lib.hid (lat_store hb1 (.int .i64 n) (.slice ac C.length cc))
  have HXU := Lib.hid (ext_lat hX1 (Nat.le_refl _) (.int .i64 n) (.slice ac C.length cc))
  clear hX1 hs1 hb1 rf
  obtain ⟨U1, hU1⟩ : ∃ U1, (V1.setCell ⟨W1.heap.size, 0, none⟩ (.int .i64 n)).setCell ⟨W1.heap.size, 1, none⟩ (.slice ac C.length cc) = U1 := ⟨_, rfl⟩
  rw [hU1] at HB2 HXU
  obtain ⟨s0, s1, -⟩ := lat_block HB2.out
  have HB12 := Lib.hid (block_ext HB1.out HXU.out)
  have HEU := Lib.hid (HE1.out.trans HXU.out)
  have HCU := Lib.hid (HVC.out.ext HEU.out)
  go_wp2_with fail
  clear hU1 hV1 r0 r1 f0 f1 HXU HB1
  refine (HCH.out _ HEU.out _ ⟨_, rfl, HCU.out⟩).mono ?_
  rintro e w3 ⟨rfl, hE3⟩
  have HE3 := Lib.hid (HEU.out.trans hE3)
  have HB23 := Lib.hid (block_ext HB2.out hE3); have HB13 := Lib.hid (block_ext HB12.out hE3)
  have HC3 := Lib.hid (HCU.out.ext hE3)
  clear hE3 HCH HEU HB2 HB12 HCU s0 s1
  obtain ⟨s0, s1, -⟩ := lat_block HB23.out
  go_wp2_with fail
  refine (HSA.out _ HE3.out _ ⟨_, rfl, HC3.out⟩).mono ?_
  rintro e w4 h4
  obtain ⟨⟨u4, rfl, hu4⟩, hE4⟩ := ls_fit h4 HF.out
  obtain ⟨a4, c4, rfl, -⟩ := ListAt.open hu4.now
  have HE4 := Lib.hid (HE3.out.trans hE4); have HU4 := Lib.hid hu4.now
  have HB24 := Lib.hid (block_ext HB23.out hE4); have HB14 := Lib.hid (block_ext HB13.out hE4)
  have HC4 := Lib.hid (HC3.out.ext hE4)
  clear h4 hE4 hu4 HSA HE3 HB23 HB13 HC3 s0 s1
  obtain ⟨V2, hV2, hX2, hs2, hb2⟩ := lat_new w4 (.int .i64 0) (.slice none 0 0)
  obtain ⟨r0, r1, rf⟩ := lat_block hb2
  have f0 := rf 0; have f1 := rf 1
  have HB5 := Lib.hid (lat_store hb2 (.int .i64 n) (.slice a4 S.length c4))
  have HXU := Lib.hid (ext_lat hX2 (Nat.le_refl _) (.int .i64 n) (.slice a4 S.length c4))
  clear hX2 hs2 hb2 rf
  obtain ⟨U2, hU2⟩ : ∃ U2, (V2.setCell ⟨w4.heap.size, 0, none⟩ (.int .i64 n)).setCell ⟨w4.heap.size, 1, none⟩ (.slice a4 S.length c4) = U2 := ⟨_, rfl⟩
  rw [hU2] at HB5 HXU
  have HB25 := Lib.hid (block_ext HB24.out HXU.out); have HB15 := Lib.hid (block_ext HB14.out HXU.out)
  obtain ⟨b0, b1, b2, -⟩ := tp_block HB15.out
  obtain ⟨q0, q1, -⟩ := lat_block HB5.out
  have HEU := Lib.hid (HE4.out.trans HXU.out)
  have HCU := Lib.hid (HC4.out.ext HXU.out)
  have HSU := Lib.hid (HU4.out.ext HXU.out)
  have HVCU := Lib.hid (HVC.out.ext HEU.out)
  go_wp2_with fail
  clear hU2 hV2 r0 r1 f0 f1 HE4 HU4 HXU HB24 HB14 HC4
  refine (HEQ.out _ _ _ HSU.out HVCU.out).mono ?_
  rintro e w6 ⟨rfl, hE6⟩
  have HE6 := Lib.hid (HEU.out.trans hE6)
  have HB26 := Lib.hid (block_ext HB25.out hE6); have HB16 := Lib.hid (block_ext HB15.out hE6)
  have HC6 := Lib.hid (HCU.out.ext hE6)
  clear hE6 HEQ HEU HB25 HB15 HCU HSU HVCU HB5 b0 b1 b2 q0 q1
  obtain ⟨s0, s1, -⟩ := lat_block HB26.out
  go_wp2_with fail
  refine (HAN.out _ HE6.out _ ⟨_, rfl, HC6.out⟩).mono ?_
  rintro e w7 h7
  obtain ⟨rfl, hE7⟩ := ls_big h7 HFA.out
  have HE7 := Lib.hid (HE6.out.trans hE7)
  clear h7 hE7 HE6 s0 s1 HB26 HB16 HC6 HAN
  obtain ⟨V3, hV3, hX3, hs3, hb3⟩ := lat_new w7 (.int .i64 0) (.slice none 0 0)
  obtain ⟨r0, r1, rf⟩ := lat_block hb3
  have f0 := rf 0; have f1 := rf 1
  have HXU := Lib.hid (ext_lat hX3 (Nat.le_refl _) (.int .i64 0) (.slice none 0 0))
  clear hX3 hs3 hb3 rf
  have HEU := Lib.hid (HE7.out.trans HXU.out)
  go_wp2_with fail
  go_ret
  exact ⟨rfl, HEU.out⟩

set_option maxRecDepth 100000 in
set_option maxHeartbeats 4000000 in
theorem lchk_6 (F : Nat) (P : List Int) (C M A S : List (List Int)) (v : Value) (w : World) (hV : TempV w v P C M) (h1 : primesE P = 0) (h2 : chkE P.length C = 0) (hS : SatF P.length F C A S) (h3 : (S.all fun r => r.all fit9B) = true) (h4 : S = C) (h5 : (A.all fun r => r.all fit9B) = true) (h6 : ¬ A = M) (hlib : LibT w) (hp : 0 < w.heap.size) :
    Calls Tryz.prog 66 #[v] w fun e w' => e = .returned (.int .i64 14) ∧ Ext w w' := by
  obtain ⟨vp, vc, vm, rfl, hvp, hvc, hvm⟩ := hV
  obtain ⟨n, hPl⟩ : ∃ n, P.length = n := ⟨_, rfl⟩
  have HPC := Lib.hid (fun W (hW : Ext w W) => primesChk_any P vp W (hvp.ext hW))
  rw [h1] at HPC
  have HCH := Lib.hid (fun W (hW : Ext w W) u (hu : LatV W u n C) => latChk_any n C u W hu)
  rw [hPl] at h2 hS
  rw [h2] at HCH
  have HSA := Lib.hid (fun W (hW : Ext w W) u (hu : LatV W u n C) => sat_any n F C A S hS.kC hS.kA (by have := hS.lA; omega) u W hu h2 hS.n1 hS.sS (fun r hr => by have := hS.wS r hr; have := hS.n6; omega) (by have := hS.lS; omega) (hlib.ext hW) (Nat.lt_of_lt_of_le hp hW.size))
  have HF := Lib.hid h3
  have HEQ : Hid (∀ W u u', Rows2 W u S → Rows2 W u' C → Calls Tryz.prog 117 #[u, u'] W fun e w' => e = .returned (.bool (decide (S = C))) ∧ Ext W w') := fun W u u' h h' => by
    have := refEqual6_any S C u u' W h h'
    rw [beqM_dec S C] at this
    exact this
  rw [decide_eq_true h4] at HEQ
  have HAN := Lib.hid (fun W (hW : Ext w W) u (hu : LatV W u n C) => ann_any n F C A hS.kC u W hu h2 hS.n1 hS.sA (fun r hr => by have := hS.wA r hr; have := hS.n6; omega) (by have := hS.lA; omega) (hlib.ext hW) (Nat.lt_of_lt_of_le hp hW.size))
  have HFA := Lib.hid h5
  have HSM : Hid (∀ W u u', Rows2 W u A → Rows2 W u' M → Calls Tryz.prog 117 #[u, u'] W fun e w' => e = .returned (.bool false) ∧ Ext W w') := fun W u u' h h' => by
    have := refEqual6_any A M u u' W h h'
    rw [beqM_dec A M, decide_eq_false h6] at this
    exact this
  have HVC := Lib.hid hvc; have HVM := Lib.hid hvm
  obtain ⟨ap, cp, rfl, -⟩ := hvp.open
  obtain ⟨ac, cc, rfl, -⟩ := inCell.open hvc
  obtain ⟨am, cm, rfl, -⟩ := inCell.open hvm
  rw [hPl] at HPC ⊢
  clear hvp hvc hvm hlib hp hPl h1 h2 hS h3 h4 h5 h6
  go_enter Tryz.func66, Tryz.ntmps66
  obtain ⟨W1, hW1, hE1, hs1, hb1⟩ := tp_new w (.slice ap n cp) (.slice ac C.length cc) (.slice am M.length cm)
  have HB1 := Lib.hid hb1; have HE1 := Lib.hid hE1
  obtain ⟨b0, b1, b2, -⟩ := tp_block hb1
  clear hE1 hs1 hb1
  go_wp2_with fail
  refine (HPC.out _ HE1.out).mono ?_
  rintro e w2 ⟨rfl, rfl⟩
  clear HPC
  obtain ⟨V1, hV1, hX1, hs1, hb1⟩ := lat_new W1 (.int .i64 0) (.slice none 0 0)
  obtain ⟨r0, r1, rf⟩ := lat_block hb1
  have f0 := rf 0; have f1 := rf 1
  have HB2 := Lib.hid (lat_store hb1 (.int .i64 n) (.slice ac C.length cc))
  have HXU := Lib.hid (ext_lat hX1 (Nat.le_refl _) (.int .i64 n) (.slice ac C.length cc))
  clear hX1 hs1 hb1 rf
  obtain ⟨U1, hU1⟩ : ∃ U1, (V1.setCell ⟨W1.heap.size, 0, none⟩ (.int .i64 n)).setCell ⟨W1.heap.size, 1, none⟩ (.slice ac C.length cc) = U1 := ⟨_, rfl⟩
  rw [hU1] at HB2 HXU
  obtain ⟨s0, s1, -⟩ := lat_block HB2.out
  have HB12 := Lib.hid (block_ext HB1.out HXU.out)
  have HEU := Lib.hid (HE1.out.trans HXU.out)
  have HCU := Lib.hid (HVC.out.ext HEU.out)
  go_wp2_with fail
  clear hU1 hV1 r0 r1 f0 f1 HXU HB1
  refine (HCH.out _ HEU.out _ ⟨_, rfl, HCU.out⟩).mono ?_
  rintro e w3 ⟨rfl, hE3⟩
  have HE3 := Lib.hid (HEU.out.trans hE3)
  have HB23 := Lib.hid (block_ext HB2.out hE3); have HB13 := Lib.hid (block_ext HB12.out hE3)
  have HC3 := Lib.hid (HCU.out.ext hE3)
  clear hE3 HCH HEU HB2 HB12 HCU s0 s1
  obtain ⟨s0, s1, -⟩ := lat_block HB23.out
  go_wp2_with fail
  refine (HSA.out _ HE3.out _ ⟨_, rfl, HC3.out⟩).mono ?_
  rintro e w4 h4
  obtain ⟨⟨u4, rfl, hu4⟩, hE4⟩ := ls_fit h4 HF.out
  obtain ⟨a4, c4, rfl, -⟩ := ListAt.open hu4.now
  have HE4 := Lib.hid (HE3.out.trans hE4); have HU4 := Lib.hid hu4.now
  have HB24 := Lib.hid (block_ext HB23.out hE4); have HB14 := Lib.hid (block_ext HB13.out hE4)
  have HC4 := Lib.hid (HC3.out.ext hE4)
  clear h4 hE4 hu4 HSA HE3 HB23 HB13 HC3 s0 s1
  obtain ⟨V2, hV2, hX2, hs2, hb2⟩ := lat_new w4 (.int .i64 0) (.slice none 0 0)
  obtain ⟨r0, r1, rf⟩ := lat_block hb2
  have f0 := rf 0; have f1 := rf 1
  have HB5 := Lib.hid (lat_store hb2 (.int .i64 n) (.slice a4 S.length c4))
  have HXU := Lib.hid (ext_lat hX2 (Nat.le_refl _) (.int .i64 n) (.slice a4 S.length c4))
  clear hX2 hs2 hb2 rf
  obtain ⟨U2, hU2⟩ : ∃ U2, (V2.setCell ⟨w4.heap.size, 0, none⟩ (.int .i64 n)).setCell ⟨w4.heap.size, 1, none⟩ (.slice a4 S.length c4) = U2 := ⟨_, rfl⟩
  rw [hU2] at HB5 HXU
  have HB25 := Lib.hid (block_ext HB24.out HXU.out); have HB15 := Lib.hid (block_ext HB14.out HXU.out)
  obtain ⟨b0, b1, b2, -⟩ := tp_block HB15.out
  obtain ⟨q0, q1, -⟩ := lat_block HB5.out
  have HEU := Lib.hid (HE4.out.trans HXU.out)
  have HCU := Lib.hid (HC4.out.ext HXU.out)
  have HSU := Lib.hid (HU4.out.ext HXU.out)
  have HVCU := Lib.hid (HVC.out.ext HEU.out)
  go_wp2_with fail
  clear hU2 hV2 r0 r1 f0 f1 HE4 HU4 HXU HB24 HB14 HC4
  refine (HEQ.out _ _ _ HSU.out HVCU.out).mono ?_
  rintro e w6 ⟨rfl, hE6⟩
  have HE6 := Lib.hid (HEU.out.trans hE6)
  have HB26 := Lib.hid (block_ext HB25.out hE6); have HB16 := Lib.hid (block_ext HB15.out hE6)
  have HC6 := Lib.hid (HCU.out.ext hE6)
  clear hE6 HEQ HEU HB25 HB15 HCU HSU HVCU HB5 b0 b1 b2 q0 q1
  obtain ⟨s0, s1, -⟩ := lat_block HB26.out
  go_wp2_with fail
  refine (HAN.out _ HE6.out _ ⟨_, rfl, HC6.out⟩).mono ?_
  rintro e w7 h7
  obtain ⟨⟨u7, rfl, hu7⟩, hE7⟩ := ls_fit h7 HFA.out
  obtain ⟨a7, c7, rfl, -⟩ := ListAt.open hu7.now
  have HE7 := Lib.hid (HE6.out.trans hE7); have HU7 := Lib.hid hu7.now
  have HB17 := Lib.hid (block_ext HB16.out hE7)
  clear h7 hE7 hu7 HAN HE6 HB26 HB16 HC6 s0 s1
  obtain ⟨V3, hV3, hX3, hs3, hb3⟩ := lat_new w7 (.int .i64 0) (.slice none 0 0)
  obtain ⟨r0, r1, rf⟩ := lat_block hb3
  have f0 := rf 0; have f1 := rf 1
  have HB8 := Lib.hid (lat_store hb3 (.int .i64 n) (.slice a7 A.length c7))
  have HXU := Lib.hid (ext_lat hX3 (Nat.le_refl _) (.int .i64 n) (.slice a7 A.length c7))
  clear hX3 hs3 hb3 rf
  obtain ⟨U3, hU3⟩ : ∃ U3, (V3.setCell ⟨w7.heap.size, 0, none⟩ (.int .i64 n)).setCell ⟨w7.heap.size, 1, none⟩ (.slice a7 A.length c7) = U3 := ⟨_, rfl⟩
  rw [hU3] at HB8 HXU
  obtain ⟨t0, t1, t2, -⟩ := tp_block (block_ext HB17.out HXU.out)
  obtain ⟨q0, q1, -⟩ := lat_block HB8.out
  have HEU := Lib.hid (HE7.out.trans HXU.out)
  have HMU := Lib.hid (HU7.out.ext HXU.out)
  have HVMU := Lib.hid (HVM.out.ext HEU.out)
  go_wp2_with fail
  clear hU3 hV3 r0 r1 f0 f1 HE7 HU7 HXU HB17
  refine (HSM.out _ _ _ HMU.out HVMU.out).mono ?_
  rintro e w9 ⟨rfl, hE9⟩
  have HE9 := Lib.hid (HEU.out.trans hE9)
  clear hE9 HSM
  go_wp2_with fail
  go_ret
  exact ⟨rfl, HE9.out⟩

set_option maxRecDepth 100000 in
set_option maxHeartbeats 4000000 in
theorem lchk_7 (F : Nat) (P : List Int) (C M A S : List (List Int)) (v : Value) (w : World) (hV : TempV w v P C M) (h1 : primesE P = 0) (h2 : chkE P.length C = 0) (hS : SatF P.length F C A S) (h3 : (S.all fun r => r.all fit9B) = true) (h4 : S = C) (h5 : (A.all fun r => r.all fit9B) = true) (h6 : A = M) (hlib : LibT w) (hp : 0 < w.heap.size) :
    Calls Tryz.prog 66 #[v] w fun e w' => e = .returned (.int .i64 0) ∧ Ext w w' := by
  obtain ⟨vp, vc, vm, rfl, hvp, hvc, hvm⟩ := hV
  obtain ⟨n, hPl⟩ : ∃ n, P.length = n := ⟨_, rfl⟩
  have HPC := Lib.hid (fun W (hW : Ext w W) => primesChk_any P vp W (hvp.ext hW))
  rw [h1] at HPC
  have HCH := Lib.hid (fun W (hW : Ext w W) u (hu : LatV W u n C) => latChk_any n C u W hu)
  rw [hPl] at h2 hS
  rw [h2] at HCH
  have HSA := Lib.hid (fun W (hW : Ext w W) u (hu : LatV W u n C) => sat_any n F C A S hS.kC hS.kA (by have := hS.lA; omega) u W hu h2 hS.n1 hS.sS (fun r hr => by have := hS.wS r hr; have := hS.n6; omega) (by have := hS.lS; omega) (hlib.ext hW) (Nat.lt_of_lt_of_le hp hW.size))
  have HF := Lib.hid h3
  have HEQ : Hid (∀ W u u', Rows2 W u S → Rows2 W u' C → Calls Tryz.prog 117 #[u, u'] W fun e w' => e = .returned (.bool (decide (S = C))) ∧ Ext W w') := fun W u u' h h' => by
    have := refEqual6_any S C u u' W h h'
    rw [beqM_dec S C] at this
    exact this
  rw [decide_eq_true h4] at HEQ
  have HAN := Lib.hid (fun W (hW : Ext w W) u (hu : LatV W u n C) => ann_any n F C A hS.kC u W hu h2 hS.n1 hS.sA (fun r hr => by have := hS.wA r hr; have := hS.n6; omega) (by have := hS.lA; omega) (hlib.ext hW) (Nat.lt_of_lt_of_le hp hW.size))
  have HFA := Lib.hid h5
  have HSM : Hid (∀ W u u', Rows2 W u A → Rows2 W u' M → Calls Tryz.prog 117 #[u, u'] W fun e w' => e = .returned (.bool true) ∧ Ext W w') := fun W u u' h h' => by
    have := refEqual6_any A M u u' W h h'
    rw [beqM_dec A M, decide_eq_true h6] at this
    exact this
  have HVC := Lib.hid hvc; have HVM := Lib.hid hvm
  obtain ⟨ap, cp, rfl, -⟩ := hvp.open
  obtain ⟨ac, cc, rfl, -⟩ := inCell.open hvc
  obtain ⟨am, cm, rfl, -⟩ := inCell.open hvm
  rw [hPl] at HPC ⊢
  clear hvp hvc hvm hlib hp hPl h1 h2 hS h3 h4 h5 h6
  go_enter Tryz.func66, Tryz.ntmps66
  obtain ⟨W1, hW1, hE1, hs1, hb1⟩ := tp_new w (.slice ap n cp) (.slice ac C.length cc) (.slice am M.length cm)
  have HB1 := Lib.hid hb1; have HE1 := Lib.hid hE1
  obtain ⟨b0, b1, b2, -⟩ := tp_block hb1
  clear hE1 hs1 hb1
  go_wp2_with fail
  refine (HPC.out _ HE1.out).mono ?_
  rintro e w2 ⟨rfl, rfl⟩
  clear HPC
  obtain ⟨V1, hV1, hX1, hs1, hb1⟩ := lat_new W1 (.int .i64 0) (.slice none 0 0)
  obtain ⟨r0, r1, rf⟩ := lat_block hb1
  have f0 := rf 0; have f1 := rf 1
  have HB2 := Lib.hid (lat_store hb1 (.int .i64 n) (.slice ac C.length cc))
  have HXU := Lib.hid (ext_lat hX1 (Nat.le_refl _) (.int .i64 n) (.slice ac C.length cc))
  clear hX1 hs1 hb1 rf
  obtain ⟨U1, hU1⟩ : ∃ U1, (V1.setCell ⟨W1.heap.size, 0, none⟩ (.int .i64 n)).setCell ⟨W1.heap.size, 1, none⟩ (.slice ac C.length cc) = U1 := ⟨_, rfl⟩
  rw [hU1] at HB2 HXU
  obtain ⟨s0, s1, -⟩ := lat_block HB2.out
  have HB12 := Lib.hid (block_ext HB1.out HXU.out)
  have HEU := Lib.hid (HE1.out.trans HXU.out)
  have HCU := Lib.hid (HVC.out.ext HEU.out)
  go_wp2_with fail
  clear hU1 hV1 r0 r1 f0 f1 HXU HB1
  refine (HCH.out _ HEU.out _ ⟨_, rfl, HCU.out⟩).mono ?_
  rintro e w3 ⟨rfl, hE3⟩
  have HE3 := Lib.hid (HEU.out.trans hE3)
  have HB23 := Lib.hid (block_ext HB2.out hE3); have HB13 := Lib.hid (block_ext HB12.out hE3)
  have HC3 := Lib.hid (HCU.out.ext hE3)
  clear hE3 HCH HEU HB2 HB12 HCU s0 s1
  obtain ⟨s0, s1, -⟩ := lat_block HB23.out
  go_wp2_with fail
  refine (HSA.out _ HE3.out _ ⟨_, rfl, HC3.out⟩).mono ?_
  rintro e w4 h4
  obtain ⟨⟨u4, rfl, hu4⟩, hE4⟩ := ls_fit h4 HF.out
  obtain ⟨a4, c4, rfl, -⟩ := ListAt.open hu4.now
  have HE4 := Lib.hid (HE3.out.trans hE4); have HU4 := Lib.hid hu4.now
  have HB24 := Lib.hid (block_ext HB23.out hE4); have HB14 := Lib.hid (block_ext HB13.out hE4)
  have HC4 := Lib.hid (HC3.out.ext hE4)
  clear h4 hE4 hu4 HSA HE3 HB23 HB13 HC3 s0 s1
  obtain ⟨V2, hV2, hX2, hs2, hb2⟩ := lat_new w4 (.int .i64 0) (.slice none 0 0)
  obtain ⟨r0, r1, rf⟩ := lat_block hb2
  have f0 := rf 0; have f1 := rf 1
  have HB5 := Lib.hid (lat_store hb2 (.int .i64 n) (.slice a4 S.length c4))
  have HXU := Lib.hid (ext_lat hX2 (Nat.le_refl _) (.int .i64 n) (.slice a4 S.length c4))
  clear hX2 hs2 hb2 rf
  obtain ⟨U2, hU2⟩ : ∃ U2, (V2.setCell ⟨w4.heap.size, 0, none⟩ (.int .i64 n)).setCell ⟨w4.heap.size, 1, none⟩ (.slice a4 S.length c4) = U2 := ⟨_, rfl⟩
  rw [hU2] at HB5 HXU
  have HB25 := Lib.hid (block_ext HB24.out HXU.out); have HB15 := Lib.hid (block_ext HB14.out HXU.out)
  obtain ⟨b0, b1, b2, -⟩ := tp_block HB15.out
  obtain ⟨q0, q1, -⟩ := lat_block HB5.out
  have HEU := Lib.hid (HE4.out.trans HXU.out)
  have HCU := Lib.hid (HC4.out.ext HXU.out)
  have HSU := Lib.hid (HU4.out.ext HXU.out)
  have HVCU := Lib.hid (HVC.out.ext HEU.out)
  go_wp2_with fail
  clear hU2 hV2 r0 r1 f0 f1 HE4 HU4 HXU HB24 HB14 HC4
  refine (HEQ.out _ _ _ HSU.out HVCU.out).mono ?_
  rintro e w6 ⟨rfl, hE6⟩
  have HE6 := Lib.hid (HEU.out.trans hE6)
  have HB26 := Lib.hid (block_ext HB25.out hE6); have HB16 := Lib.hid (block_ext HB15.out hE6)
  have HC6 := Lib.hid (HCU.out.ext hE6)
  clear hE6 HEQ HEU HB25 HB15 HCU HSU HVCU HB5 b0 b1 b2 q0 q1
  obtain ⟨s0, s1, -⟩ := lat_block HB26.out
  go_wp2_with fail
  refine (HAN.out _ HE6.out _ ⟨_, rfl, HC6.out⟩).mono ?_
  rintro e w7 h7
  obtain ⟨⟨u7, rfl, hu7⟩, hE7⟩ := ls_fit h7 HFA.out
  obtain ⟨a7, c7, rfl, -⟩ := ListAt.open hu7.now
  have HE7 := Lib.hid (HE6.out.trans hE7); have HU7 := Lib.hid hu7.now
  have HB17 := Lib.hid (block_ext HB16.out hE7)
  clear h7 hE7 hu7 HAN HE6 HB26 HB16 HC6 s0 s1
  obtain ⟨V3, hV3, hX3, hs3, hb3⟩ := lat_new w7 (.int .i64 0) (.slice none 0 0)
  obtain ⟨r0, r1, rf⟩ := lat_block hb3
  have f0 := rf 0; have f1 := rf 1
  have HB8 := Lib.hid (lat_store hb3 (.int .i64 n) (.slice a7 A.length c7))
  have HXU := Lib.hid (ext_lat hX3 (Nat.le_refl _) (.int .i64 n) (.slice a7 A.length c7))
  clear hX3 hs3 hb3 rf
  obtain ⟨U3, hU3⟩ : ∃ U3, (V3.setCell ⟨w7.heap.size, 0, none⟩ (.int .i64 n)).setCell ⟨w7.heap.size, 1, none⟩ (.slice a7 A.length c7) = U3 := ⟨_, rfl⟩
  rw [hU3] at HB8 HXU
  obtain ⟨t0, t1, t2, -⟩ := tp_block (block_ext HB17.out HXU.out)
  obtain ⟨q0, q1, -⟩ := lat_block HB8.out
  have HEU := Lib.hid (HE7.out.trans HXU.out)
  have HMU := Lib.hid (HU7.out.ext HXU.out)
  have HVMU := Lib.hid (HVM.out.ext HEU.out)
  go_wp2_with fail
  clear hU3 hV3 r0 r1 f0 f1 HE7 HU7 HXU HB17
  refine (HSM.out _ _ _ HMU.out HVMU.out).mono ?_
  rintro e w9 ⟨rfl, hE9⟩
  have HE9 := Lib.hid (HEU.out.trans hE9)
  clear hE9 HSM
  go_wp2_with fail
  go_ret
  exact ⟨rfl, HE9.out⟩

theorem lchkG_any (F : Nat) (P : List Int) (C M A S : List (List Int)) (v : Value) (w : World) (hV : TempV w v P C M) (hS : primesE P = 0 → chkE P.length C = 0 → SatF P.length F C A S) (hlib : LibT w) (hp : 0 < w.heap.size) :
    Calls Tryz.prog 66 #[v] w fun e w' => e = .returned (.int .i64 (chkT P C M A S)) ∧ Ext w w' := by
  unfold chkT
  by_cases h1 : primesE P = 0
  · rw [if_pos h1]
    by_cases h2 : chkE P.length C = 0
    · rw [if_pos h2]
      have hs := hS h1 h2
      by_cases h3 : (S.all fun r => r.all fit9B) = true
      · by_cases h4 : S = C
        · rw [if_pos ⟨h3, h4⟩]
          by_cases h5 : (A.all fun r => r.all fit9B) = true
          · by_cases h6 : A = M
            · rw [if_pos ⟨h5, h6⟩]
              exact lchk_7 F P C M A S v w hV h1 h2 hs h3 h4 h5 h6 hlib hp
            · rw [if_neg (fun h => h6 h.2)]
              exact lchk_6 F P C M A S v w hV h1 h2 hs h3 h4 h5 h6 hlib hp
          · rw [if_neg (fun h => h5 h.1)]
            exact lchk_5 F P C M A S v w hV h1 h2 hs h3 h4 h5 hlib hp
        · rw [if_neg (fun h => h4 h.2)]
          exact lchk_4 F P C M A S v w hV h1 h2 hs h3 h4 hlib hp
      · rw [if_neg (fun h => h3 h.1)]
        exact lchk_3 F P C M A S v w hV h1 h2 hs h3 hlib hp
    · rw [if_neg h2]
      exact lchk_2 F P C M A S v w hV h1 h2 hlib hp
  · rw [if_neg h1]
    exact lchk_1 F P C M A S v w hV h1 hlib hp
end Go.Proofs.YtehknemdfbkimaaGreatDoor
