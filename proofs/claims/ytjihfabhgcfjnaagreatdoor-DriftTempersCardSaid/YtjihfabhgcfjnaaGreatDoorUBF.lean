/- Merged: TmpC, TmpD, TmpE, RegU. -/
import Derived.Test.YtjihfabhgcfjnaaGreatDoorUBE
import Derived.RegionTactic
import Derived.Test.YtjihfabhgcfjnaaGreatDoorUBC
import Derived.Test.YtjihfabhgcfjnaaGreatDoorUAA
/- Contracts of package lattice at the lattice of small rows; of package temperament: from, FromCommas, FromMapping. -/
namespace Go.Proofs.YtjihfabhgcfjnaaGreatDoor
set_option linter.unusedVariables false
set_option linter.unusedSimpArgs false
open Go.RowKit

theorem le_smB {R : List (List Int)} {n : Nat} (h : ∀ x ∈ R, RowLe 1000000000 x ∧ x.length = n) : (∀ r ∈ R, r.all smB = true) ∧ (R.all fun r => r.all fit9B) = true := by
  refine ⟨fun r hr => all_smB ((h r hr).1.mono (by decide)), ?_⟩
  rw [List.all_eq_true]; intro r hr; rw [List.all_eq_true]; intro x hx
  have := (h r hr).1 x hx
  unfold fit9B; simp; omega
theorem annD_any (n F : Nat) (R A S : List (List Int)) (v : Value) (w : World) (h : LatV w v n R) (hE : chkE n R = 0) (hn : 1 ≤ n) (hn4 : n ≤ 6) (hk : kerS F n R = some A) (hA : A.length ≤ 6) (hb : ∀ x ∈ A, RowLe 1000000000 x ∧ x.length = n) (hlib : LibT w) (hp : 2 < w.heap.size) :
    Calls Tryz.prog 44 #[v] w fun e w' => ∃ u, e = .returned (.tuple #[.agg #[.int .i64 n, u], .int .i64 0]) ∧ SafeS w' (· < w.heap.size) (fun W => Rows2 W u A) ∧ Ext w w' := by
  have hs := le_smB hb
  refine (ann_any n F R A hk v w h hE hn hs.1 (fun r hr => by have := (hb r hr).2; omega) (by omega) hlib hp).mono fun e w' he => ?_
  unfold LsR at he
  rw [if_pos hs.2] at he
  obtain ⟨⟨u, h1, h2⟩, h3⟩ := he
  exact ⟨u, h1, h2, h3⟩
theorem satD_any (n F : Nat) (R A S : List (List Int)) (v : Value) (w : World) (h : LatV w v n R) (hE : chkE n R = 0) (hn : 1 ≤ n) (hn4 : n ≤ 6) (hk : kerS F n R = some A) (hk2 : kerS F n A = some S) (hA : A.length ≤ 6) (hS : S.length ≤ 6) (hb : ∀ x ∈ S, RowLe 1000000000 x ∧ x.length = n) (hlib : LibT w) (hp : 2 < w.heap.size) :
    Calls Tryz.prog 151 #[v] w fun e w' => ∃ u, e = .returned (.tuple #[.agg #[.int .i64 n, u], .int .i64 0]) ∧ SafeS w' (· < w.heap.size) (fun W => Rows2 W u S) ∧ Ext w w' := by
  have hs := le_smB hb
  refine (sat_any n F R A S hk hk2 (by omega) v w h hE hn hs.1 (fun r hr => by have := (hb r hr).2; omega) (by omega) hlib hp).mono fun e w' he => ?_
  unfold LsR at he
  rw [if_pos hs.2] at he
  obtain ⟨⟨u, h1, h2⟩, h3⟩ := he
  exact ⟨u, h1, h2, h3⟩

theorem SafeS.low {w : World} {S S' : Nat → Prop} {P : World → Prop} (h : SafeS w S P) (hS : ∀ k, S' k → S k) : SafeS w S' P := h.grow (GrownS.refl _ _) fun k hk => .inl (hS k hk)
/-- Rows over n primes, the form of their lattice, its annihilator and its saturation. -/
structure FromD (n F : Nat) (m R A S : List (List Int)) : Prop where
  n1 : 1 ≤ n
  n4 : n ≤ 6
  lat : latE n m = 0
  form : formO n F n m = some R
  rows : R.length ≤ 6 ∧ ∀ x ∈ R, RowLe 1000000000 x ∧ x.length = n
  chk : chkE n R = 0
  kR : kerS F n R = some A
  kA : kerS F n A = some S
  lA : A.length ≤ 6
  lS : S.length ≤ 6
  bA : ∀ x ∈ A, RowLe 1000000000 x ∧ x.length = n
  bS : ∀ x ∈ S, RowLe 1000000000 x ∧ x.length = n
theorem ofD_any (n F : Nat) (m R A S : List (List Int)) (v : Value) (w : World) (h : Rows2 w v m) (hD : FromD n F m R A S) (hlib : LibT w) (hp : 2 < w.heap.size) :
    Calls Tryz.prog 42 #[.int .i64 n, v] w fun e w' => ∃ u, e = .returned (.tuple #[.agg #[.int .i64 n, u], .int .i64 0]) ∧ SafeS w' (· < w.heap.size) (fun W => Rows2 W u R) ∧ Ext w w' := by
  have hs := le_smB hD.rows.2
  have hn4 := hD.n4; have hRl := hD.rows.1
  refine (of_any' n F m R v w h hD.lat hD.form hs.1 (fun r hr => by have := (hD.rows.2 r hr).2; omega) (by omega) hlib hp).mono fun e w' he => ?_
  unfold LsR at he
  rw [if_pos hs.2] at he
  obtain ⟨⟨u, h1, h2⟩, h3⟩ := he
  exact ⟨u, h1, h2, h3⟩

set_option maxRecDepth 100000 in
set_option maxHeartbeats 4000000 in
theorem from_any (n F : Nat) (P : List Int) (m R A S : List (List Int)) (vp v : Value) (w : World) (hP : Ints w vp P) (h : Rows2 w v m) (hE : primesE P = 0) (hPl : P.length = n) (hD : FromD n F m R A S) (hlib : LibT w) (hp : 2 < w.heap.size) :
    Calls Tryz.prog 108 #[vp, v] w fun e w' => ∃ us ua, e = .returned (.tuple #[us, ua, .int .i64 0]) ∧ SafeS w' (· < w.heap.size) (fun W => Rows2 W us S) ∧ SafeS w' (· < w.heap.size) (fun W => Rows2 W ua A) ∧ Ext w w' := by
  have HPC := Lib.hid (primesChk_any P vp w hP)
  rw [hE] at HPC
  have HOF := Lib.hid (ofD_any n F m R A S v w h hD hlib hp)
  have HSA := Lib.hid (fun W (hW : Ext w W) u (hu : LatV W u n R) => satD_any n F R A S u W hu hD.chk hD.n1 hD.n4 hD.kR hD.kA hD.lA hD.lS hD.bS (hlib.ext hW) (Nat.lt_of_lt_of_le hp hW.size))
  have HAN := Lib.hid (fun W (hW : Ext w W) u (hu : LatV W u n R) => annD_any n F R A S u W hu hD.chk hD.n1 hD.n4 hD.kR hD.lA hD.bA (hlib.ext hW) (Nat.lt_of_lt_of_le hp hW.size))
  obtain ⟨ap, cp, rfl, p1, p2, -, -, -⟩ := hP.open
  rw [hPl] at HPC ⊢
  obtain ⟨a, c, rfl, -⟩ := inCell.open h
  clear hP h hE hPl hD hlib hp p1 p2
  go_enter Tryz.func108, Tryz.ntmps108
  go_wp2_with fail
  refine HPC.out.mono ?_
  rintro e w1 ⟨rfl, rfl⟩
  clear HPC
  go_wp2_with fail
  refine HOF.out.mono ?_
  rintro e w1 ⟨u1, rfl, hu1, hE1⟩
  obtain ⟨a1, c1, rfl, -⟩ := ListAt.open hu1.now
  have HE1 := Lib.hid hE1; have HU1 := Lib.hid hu1.now
  clear hE1 hu1 HOF
  obtain ⟨V1, hV1, hX1, hs1, hb1⟩ := lat_new w1 (.int .i64 0) (.slice none 0 0)
  obtain ⟨r0, r1, rf⟩ := lat_block hb1
  have f0 := rf 0; have f1 := rf 1
  have HB1 := Lib.hid (lat_store hb1 (.int .i64 n) (.slice a1 R.length c1))
  have HXU := Lib.hid (ext_lat hX1 (Nat.le_refl _) (.int .i64 n) (.slice a1 R.length c1))
  clear hX1 hs1 hb1 rf
  obtain ⟨U1, hU1⟩ : ∃ U1, (V1.setCell ⟨w1.heap.size, 0, none⟩ (.int .i64 n)).setCell ⟨w1.heap.size, 1, none⟩ (.slice a1 R.length c1) = U1 := ⟨_, rfl⟩
  rw [hU1] at HB1 HXU
  obtain ⟨s0, s1, -⟩ := lat_block HB1.out
  have HEU := Lib.hid (HE1.out.trans HXU.out)
  have HRU := Lib.hid (HU1.out.ext HXU.out)
  go_wp2_with fail
  clear hU1 hV1 r0 r1 f0 f1 HE1 HU1 HXU
  refine (HSA.out _ HEU.out _ ⟨_, rfl, HRU.out⟩).mono ?_
  rintro e w2 ⟨u2, rfl, hu2, hE2⟩
  obtain ⟨a2, c2, rfl, -⟩ := ListAt.open hu2.now
  have HE2 := Lib.hid (HEU.out.trans hE2); have HU2 := Lib.hid (hu2.low (S' := (· < w.heap.size)) fun k hk => Nat.lt_of_lt_of_le hk HEU.out.size)
  have HB2 := Lib.hid (block_ext HB1.out hE2)
  have HR2 := Lib.hid (HRU.out.ext hE2)
  clear hE2 hu2 HSA HB1 HRU HEU s0 s1
  obtain ⟨V2, hV2, hX2, hs2, hb2⟩ := lat_new w2 (.int .i64 0) (.slice none 0 0)
  obtain ⟨r0, r1, rf⟩ := lat_block hb2
  have f0 := rf 0; have f1 := rf 1
  have HB3 := Lib.hid (lat_store hb2 (.int .i64 n) (.slice a2 S.length c2))
  have HXU := Lib.hid (ext_lat hX2 (Nat.le_refl _) (.int .i64 n) (.slice a2 S.length c2))
  clear hX2 hs2 hb2 rf
  obtain ⟨U2, hU2⟩ : ∃ U2, (V2.setCell ⟨w2.heap.size, 0, none⟩ (.int .i64 n)).setCell ⟨w2.heap.size, 1, none⟩ (.slice a2 S.length c2) = U2 := ⟨_, rfl⟩
  rw [hU2] at HB3 HXU
  have HB22 := Lib.hid (block_ext HB2.out HXU.out)
  obtain ⟨s0, s1, -⟩ := lat_block HB22.out
  have HEU := Lib.hid (HE2.out.trans HXU.out)
  have HRU := Lib.hid (HR2.out.ext HXU.out)
  have HSU := Lib.hid (HU2.out.ext HXU.out)
  go_wp2_with fail
  clear hU2 hV2 r0 r1 f0 f1 HE2 HU2 HXU HB2 HR2
  refine (HAN.out _ HEU.out _ ⟨_, rfl, HRU.out⟩).mono ?_
  rintro e w3 ⟨u3, rfl, hu3, hE3⟩
  obtain ⟨a3, c3, rfl, -⟩ := ListAt.open hu3.now
  have HE3 := Lib.hid (HEU.out.trans hE3); have HU3 := Lib.hid (hu3.low (S' := (· < w.heap.size)) fun k hk => Nat.lt_of_lt_of_le hk HEU.out.size)
  have HB4 := Lib.hid (block_ext HB3.out hE3)
  have HS4 := Lib.hid (HSU.out.ext hE3)
  clear hE3 hu3 HAN HB3 HRU HEU HSU HB22 s0 s1
  obtain ⟨V3, hV3, hX3, hs3, hb3⟩ := lat_new w3 (.int .i64 0) (.slice none 0 0)
  obtain ⟨r0, r1, rf⟩ := lat_block hb3
  have f0 := rf 0; have f1 := rf 1
  have HB5 := Lib.hid (lat_store hb3 (.int .i64 n) (.slice a3 A.length c3))
  have HXU := Lib.hid (ext_lat hX3 (Nat.le_refl _) (.int .i64 n) (.slice a3 A.length c3))
  clear hX3 hs3 hb3 rf
  obtain ⟨U3, hU3⟩ : ∃ U3, (V3.setCell ⟨w3.heap.size, 0, none⟩ (.int .i64 n)).setCell ⟨w3.heap.size, 1, none⟩ (.slice a3 A.length c3) = U3 := ⟨_, rfl⟩
  rw [hU3] at HB5 HXU
  obtain ⟨q0, q1, -⟩ := lat_block HB5.out
  obtain ⟨s0, s1, -⟩ := lat_block (block_ext HB4.out HXU.out)
  have HEU := Lib.hid (HE3.out.trans HXU.out)
  have HSU := Lib.hid (HS4.out.ext HXU.out)
  have HAU := Lib.hid (HU3.out.ext HXU.out)
  go_upto_region 11 with fail
  go_region
  all_goals
    go_wp2_with fail
    go_ret3
    exact ⟨_, _, rfl, HSU.out.ext (Ext.drew _), HAU.out.ext (Ext.drew _), HEU.out.trans (Ext.drew _)⟩

set_option maxRecDepth 100000 in
set_option maxHeartbeats 4000000 in
theorem fromCommas_any (n F : Nat) (P : List Int) (m R A S : List (List Int)) (vp v : Value) (w : World) (hP : Ints w vp P) (h : Rows2 w v m) (hE : primesE P = 0) (hPl : P.length = n) (hD : FromD n F m R A S) (hlib : LibT w) (hp : 2 < w.heap.size) :
    Calls Tryz.prog 56 #[vp, v] w fun e w' => ∃ u, e = .returned (.tuple #[u, .int .i64 0]) ∧ SafeS w' (· < w.heap.size) (fun W => TempV W u P S A) ∧ Ext w w' := by
  have HFR := Lib.hid (fun W (hW : Ext w W) => from_any n F P m R A S vp v W (hP.ext hW) (h.ext hW) hE hPl hD (hlib.ext hW) (Nat.lt_of_lt_of_le hp hW.size))
  have hP9 : P.length ≤ 1000000 := by have := hD.n4; omega
  have hPB : ∀ x ∈ P, -9223372036854775808 ≤ x ∧ x ≤ 9223372036854775807 := by
    obtain ⟨_, _, _, _, _, _, hb, _⟩ := hP.open; exact hb
  have HCL : Hid (∀ W, Ext w W → Calls Tryz.prog 80 #[vp] W fun e w' => ∃ a c, e = .returned (.slice a P.length c) ∧ Ext W w' ∧ SafeS w' (· < W.heap.size) (fun W => Ints W (.slice a P.length c) P)) := fun W hW =>
    (clonePrimes_any P vp W (hP.ext hW) hP9).mono fun e w' ⟨r, h1, h2, h3⟩ => by
      have h4 := Ints.of_owns h3 hPB
      obtain ⟨a, c, rfl, -⟩ := h4.open
      exact ⟨a, c, h1, h2, (SafeS.owns h3 (fun k hk hs => by have := (h3.lt k hk).1; omega)).mono fun W hw => Ints.of_owns hw hPB⟩
  have hP2 := hP
  obtain ⟨ap, cp, rfl, -⟩ := hP2.open
  obtain ⟨a, c, rfl, -⟩ := inCell.open h
  rw [hPl] at HFR HCL ⊢
  clear hP hP2 h hE hPl hD hlib hp hP9 hPB
  go_enter Tryz.func56, Tryz.ntmps56
  obtain ⟨W1, hW1, hE1, hs1, hb1⟩ := tp_new w (.slice none 0 0) (.slice none 0 0) (.slice none 0 0)
  have HB1 := Lib.hid hb1; have HE1 := Lib.hid hE1; have HS1 := Lib.hid hs1
  clear hE1 hs1 hb1
  go_wp2_with fail
  refine (HFR.out _ HE1.out).mono ?_
  rintro e w2 ⟨us, ua, rfl, hus, hua, hE2⟩
  obtain ⟨a1, c1, rfl, -⟩ := ListAt.open hus.now
  obtain ⟨a2, c2, rfl, -⟩ := ListAt.open hua.now
  have HB2 := Lib.hid (block_ext HB1.out hE2)
  have HE2 := Lib.hid (HE1.out.trans hE2); have HUS := Lib.hid hus; have HUA := Lib.hid hua
  have HZ2 := Lib.hid hE2.size
  clear hE2 hus hua HFR HB1 HE1 hW1
  go_wp2_with fail
  refine (HCL.out _ HE2.out).mono ?_
  rintro e w3 ⟨a3, c3, rfl, hE3, hown⟩
  have HOW := Lib.hid (hown.low (S' := (· < W1.heap.size)) fun k hk => Nat.lt_of_lt_of_le hk HZ2.out)
  have HB3 := Lib.hid (block_ext HB2.out hE3)
  have HE3 := Lib.hid (HE2.out.trans hE3)
  have HUS3 := Lib.hid (HUS.out.ext hE3); have HUA3 := Lib.hid (HUA.out.ext hE3)
  clear hE3 hown HCL HB2
  obtain ⟨b0, b1, b2, bf⟩ := tp_block HB3.out
  have f0 := bf 0; have f1 := bf 1; have f2 := bf 2
  clear bf
  go_wp2_with fail
  have hkA := tp_store HB3.out (.slice a3 n c3) (.slice a1 S.length c1) (.slice a2 A.length c2)
  refine bodyPost_ret (results_rowtmp (by rfl) _ _ w.heap.size 58 #[.slice a3 n c3, (.slice a1 S.length c1), (.slice a2 A.length c2)] (0, 0) _ (by rfl) hkA Tryz.underlying58 (by rfl) (by kernel_rfl)) (by rfl) ?_
  have hG : ∀ (x y z : Value), GrownS (· < W1.heap.size) w3 (((w3.setCell ⟨w.heap.size, 0, none⟩ x).setCell ⟨w.heap.size, 1, none⟩ y).setCell ⟨w.heap.size, 2, none⟩ z) := fun x y z => by
    have hlt : w.heap.size < W1.heap.size := by have := HS1.out; omega
    exact (((GrownS.refl _ w3).setCell (g := w.heap.size) hlt 0 x).setCell (g := w.heap.size) hlt 1 y).setCell (g := w.heap.size) hlt 2 z
  have hlow : ∀ k, k < w.heap.size → k < W1.heap.size ∨ w3.heap.size ≤ k := fun k hk => .inl (by have := HS1.out; omega)
  refine ⟨_, rfl, fun W hW => ⟨_, _, _, rfl, ?_, ?_, ?_⟩, ext_tp HE3.out (Nat.le_refl _) _ _ _⟩
  · exact HOW.out.grow (hG _ _ _) hlow W hW
  · exact HUS3.out.grow (hG _ _ _) hlow W hW
  · exact HUA3.out.grow (hG _ _ _) hlow W hW

end Go.Proofs.YtjihfabhgcfjnaaGreatDoor
/- Contracts of package temperament at a right temperament: Check, Rank, Corank. -/
namespace Go.Proofs.YtjihfabhgcfjnaaGreatDoor
set_option linter.unusedVariables false
set_option linter.unusedSimpArgs false
open Go.RowKit

/-- A right temperament of few primes. -/
structure RightT (n F : Nat) (P : List Int) (C M : List (List Int)) : Prop where
  n1 : 1 ≤ n
  n4 : n ≤ 6
  pr : primesE P = 0
  pl : P.length = n
  chk : chkE n C = 0
  kC : kerS F n C = some M
  kM : kerS F n M = some C
  lC : C.length ≤ 6
  lM : M.length ≤ 6
  bC : ∀ x ∈ C, RowLe 1000000000 x ∧ x.length = n
  bM : ∀ x ∈ M, RowLe 1000000000 x ∧ x.length = n

set_option maxRecDepth 100000 in
set_option maxHeartbeats 4000000 in
theorem tcheck_any (n F : Nat) (P : List Int) (C M : List (List Int)) (v : Value) (w : World) (hV : TempV w v P C M) (hR : RightT n F P C M) (hlib : LibT w) (hp : 2 < w.heap.size) :
    Calls Tryz.prog 109 #[v] w fun e w' => e = .returned (.int .i64 0) ∧ Ext w w' := by
  obtain ⟨vp, vc, vm, rfl, hvp, hvc, hvm⟩ := hV
  have HPC := Lib.hid (fun W (hW : Ext w W) => primesChk_any P vp W (hvp.ext hW))
  rw [hR.pr] at HPC
  have HCH := Lib.hid (fun W (hW : Ext w W) u (hu : LatV W u n C) => latChk_any n C u W hu)
  rw [hR.chk] at HCH
  have HSA := Lib.hid (fun W (hW : Ext w W) u (hu : LatV W u n C) => satD_any n F C M C u W hu hR.chk hR.n1 hR.n4 hR.kC hR.kM hR.lM hR.lC hR.bC (hlib.ext hW) (Nat.lt_of_lt_of_le hp hW.size))
  have HAN := Lib.hid (fun W (hW : Ext w W) u (hu : LatV W u n C) => annD_any n F C M C u W hu hR.chk hR.n1 hR.n4 hR.kC hR.lM hR.bM (hlib.ext hW) (Nat.lt_of_lt_of_le hp hW.size))
  have HEQ : Hid (∀ W u u', LatV W u n C → LatV W u' n C → Calls Tryz.prog 152 #[u, u'] W fun e w' => e = .returned (.bool true) ∧ Ext W w') := fun W u u' h h' => by
    have := latEqual_any n n C C u u' W h h'
    simpa using this
  have HSM : Hid (∀ W u u', Rows2 W u M → Rows2 W u' M → Calls Tryz.prog 153 #[u, u'] W fun e w' => e = .returned (.bool true) ∧ Ext W w') := fun W u u' h h' => by
    have := tsame_any M M u u' W h h'
    simpa using this
  have HVC := Lib.hid hvc; have HVM := Lib.hid hvm
  have hPl := hR.pl
  obtain ⟨ap, cp, rfl, -⟩ := hvp.open
  obtain ⟨ac, cc, rfl, -⟩ := inCell.open hvc
  obtain ⟨am, cm, rfl, -⟩ := inCell.open hvm
  rw [hPl] at HPC ⊢
  clear hvp hvc hvm hR hlib hp hPl
  go_enter Tryz.func109, Tryz.ntmps109
  obtain ⟨W1, hW1, hE1, hs1, hb1⟩ := tp_new w (.slice ap n cp) (.slice ac C.length cc) (.slice am M.length cm)
  have HB1 := Lib.hid hb1; have HE1 := Lib.hid hE1
  obtain ⟨b0, b1, b2, -⟩ := tp_block hb1
  clear hE1 hs1 hb1
  go_wp2_with fail
  refine (HPC.out _ HE1.out).mono ?_
  rintro e w2 ⟨rfl, rfl⟩
  clear HPC
  obtain ⟨V1, hV1, hX1, hs1, hb1⟩ := lat_new W1 (.int .i64 0) (.slice none 0 0)
  obtain ⟨r0, r1, rf⟩ := lat_block hb1
  have f0 := rf 0; have f1 := rf 1
  have HB2 := Lib.hid (lat_store hb1 (.int .i64 n) (.slice ac C.length cc))
  have HXU := Lib.hid (ext_lat hX1 (Nat.le_refl _) (.int .i64 n) (.slice ac C.length cc))
  clear hX1 hs1 hb1 rf
  obtain ⟨U1, hU1⟩ : ∃ U1, (V1.setCell ⟨W1.heap.size, 0, none⟩ (.int .i64 n)).setCell ⟨W1.heap.size, 1, none⟩ (.slice ac C.length cc) = U1 := ⟨_, rfl⟩
  rw [hU1] at HB2 HXU
  obtain ⟨s0, s1, -⟩ := lat_block HB2.out
  have HB12 := Lib.hid (block_ext HB1.out HXU.out)
  have HEU := Lib.hid (HE1.out.trans HXU.out)
  have HCU := Lib.hid (HVC.out.ext HEU.out)
  go_wp2_with fail
  clear hU1 hV1 r0 r1 f0 f1 HXU HB1
  refine (HCH.out _ HEU.out _ ⟨_, rfl, HCU.out⟩).mono ?_
  rintro e w3 ⟨rfl, hE3⟩
  have HE3 := Lib.hid (HEU.out.trans hE3)
  have HB23 := Lib.hid (block_ext HB2.out hE3); have HB13 := Lib.hid (block_ext HB12.out hE3)
  have HC3 := Lib.hid (HCU.out.ext hE3)
  clear hE3 HCH HEU HB2 HB12 HCU s0 s1
  obtain ⟨s0, s1, -⟩ := lat_block HB23.out
  go_wp2_with fail
  refine (HSA.out _ HE3.out _ ⟨_, rfl, HC3.out⟩).mono ?_
  rintro e w4 ⟨u4, rfl, hu4, hE4⟩
  obtain ⟨a4, c4, rfl, -⟩ := ListAt.open hu4.now
  have HE4 := Lib.hid (HE3.out.trans hE4); have HU4 := Lib.hid hu4.now
  have HB24 := Lib.hid (block_ext HB23.out hE4); have HB14 := Lib.hid (block_ext HB13.out hE4)
  have HC4 := Lib.hid (HC3.out.ext hE4)
  clear hE4 hu4 HSA HE3 HB23 HB13 HC3 s0 s1
  obtain ⟨V2, hV2, hX2, hs2, hb2⟩ := lat_new w4 (.int .i64 0) (.slice none 0 0)
  obtain ⟨r0, r1, rf⟩ := lat_block hb2
  have f0 := rf 0; have f1 := rf 1
  have HB5 := Lib.hid (lat_store hb2 (.int .i64 n) (.slice a4 C.length c4))
  have HXU := Lib.hid (ext_lat hX2 (Nat.le_refl _) (.int .i64 n) (.slice a4 C.length c4))
  clear hX2 hs2 hb2 rf
  obtain ⟨U2, hU2⟩ : ∃ U2, (V2.setCell ⟨w4.heap.size, 0, none⟩ (.int .i64 n)).setCell ⟨w4.heap.size, 1, none⟩ (.slice a4 C.length c4) = U2 := ⟨_, rfl⟩
  rw [hU2] at HB5 HXU
  have HB25 := Lib.hid (block_ext HB24.out HXU.out); have HB15 := Lib.hid (block_ext HB14.out HXU.out)
  obtain ⟨s0, s1, -⟩ := lat_block HB25.out
  obtain ⟨q0, q1, -⟩ := lat_block HB5.out
  have HEU := Lib.hid (HE4.out.trans HXU.out)
  have HCU := Lib.hid (HC4.out.ext HXU.out)
  have HSU := Lib.hid (HU4.out.ext HXU.out)
  go_wp2_with fail
  clear hU2 hV2 r0 r1 f0 f1 HE4 HU4 HXU HB24 HB14 HC4
  refine (HEQ.out _ _ _ ⟨_, rfl, HSU.out⟩ ⟨_, rfl, HCU.out⟩).mono ?_
  rintro e w6 ⟨rfl, hE6⟩
  have HE6 := Lib.hid (HEU.out.trans hE6)
  have HB26 := Lib.hid (block_ext HB25.out hE6); have HB16 := Lib.hid (block_ext HB15.out hE6)
  have HC6 := Lib.hid (HCU.out.ext hE6)
  clear hE6 HEQ HEU HB25 HB15 HCU HSU HB5 s0 s1 q0 q1
  obtain ⟨s0, s1, -⟩ := lat_block HB26.out
  go_wp2_with fail
  refine (HAN.out _ HE6.out _ ⟨_, rfl, HC6.out⟩).mono ?_
  rintro e w7 ⟨u7, rfl, hu7, hE7⟩
  obtain ⟨a7, c7, rfl, -⟩ := ListAt.open hu7.now
  have HE7 := Lib.hid (HE6.out.trans hE7); have HU7 := Lib.hid hu7.now
  have HB17 := Lib.hid (block_ext HB16.out hE7)
  clear hE7 hu7 HAN HE6 HB26 HB16 HC6 s0 s1
  obtain ⟨V3, hV3, hX3, hs3, hb3⟩ := lat_new w7 (.int .i64 0) (.slice none 0 0)
  obtain ⟨r0, r1, rf⟩ := lat_block hb3
  have f0 := rf 0; have f1 := rf 1
  have HB8 := Lib.hid (lat_store hb3 (.int .i64 n) (.slice a7 M.length c7))
  have HXU := Lib.hid (ext_lat hX3 (Nat.le_refl _) (.int .i64 n) (.slice a7 M.length c7))
  clear hX3 hs3 hb3 rf
  obtain ⟨U3, hU3⟩ : ∃ U3, (V3.setCell ⟨w7.heap.size, 0, none⟩ (.int .i64 n)).setCell ⟨w7.heap.size, 1, none⟩ (.slice a7 M.length c7) = U3 := ⟨_, rfl⟩
  rw [hU3] at HB8 HXU
  obtain ⟨t0, t1, t2, -⟩ := tp_block (block_ext HB17.out HXU.out)
  obtain ⟨q0, q1, -⟩ := lat_block HB8.out
  have HEU := Lib.hid (HE7.out.trans HXU.out)
  have HMU := Lib.hid (HU7.out.ext HXU.out)
  have HVMU := Lib.hid (HVM.out.ext HEU.out)
  go_wp2_with fail
  clear hU3 hV3 r0 r1 f0 f1 HE7 HU7 HXU HB17
  refine (HSM.out _ _ _ HMU.out HVMU.out).mono ?_
  rintro e w9 ⟨rfl, hE9⟩
  have HE9 := Lib.hid (HEU.out.trans hE9)
  clear hE9 HSM
  go_wp2_with fail
  go_ret
  exact ⟨rfl, HE9.out⟩
end Go.Proofs.YtjihfabhgcfjnaaGreatDoor
/- Contracts of package temperament at a right temperament: Rank, Corank, begin. -/
namespace Go.Proofs.YtjihfabhgcfjnaaGreatDoor
set_option linter.unusedVariables false
set_option linter.unusedSimpArgs false
open Go.RowKit

theorem allE_cons (n : Int) (x : List Int) (l : List (List Int)) : allE n (x :: l) = if rowE x = 0 then (if (x.length : Int) = n then allE n l else 5) else rowE x := rfl
set_option maxRecDepth 100000 in
set_option maxHeartbeats 4000000 in
/-- begin at a right temperament: the first error of the intervals. -/
theorem begin_any (n F : Nat) (P : List Int) (C M : List (List Int)) (v vl : Value) (rows : List (List Int)) (w : World) (hV : TempV w v P C M) (hl : Rows2 w vl rows) (hR : RightT n F P C M) (hlib : LibT w) (hp : 2 < w.heap.size) :
    Calls Tryz.prog 65 #[v, vl] w fun e w' => e = .returned (.int .i64 (allE n rows)) ∧ Ext w w' := by
  have HCK := Lib.hid (fun W (hW : Ext w W) => tcheck_any n F P C M v W (hV.ext hW) hR (hlib.ext hW) (Nat.lt_of_lt_of_le hp hW.size))
  obtain ⟨vp, vc, vm, rfl, hvp, hvc, hvm⟩ := hV
  have hPl := hR.pl
  obtain ⟨ap, cp, rfl, -⟩ := hvp.open
  obtain ⟨ac, cc, rfl, -⟩ := inCell.open hvc
  obtain ⟨am, cm, rfl, -⟩ := inCell.open hvm
  obtain ⟨al, cl, rfl, l1, l2, -, lc⟩ := inCell.open hl
  have HLC := Lib.hid lc
  unfold maxLen at l2
  rw [hPl] at HCK ⊢
  have hn4 := hR.n4
  clear hvp hvc hvm hR hlib hp hl lc hPl
  obtain ⟨E, hE⟩ : ∃ E, allE n rows = E := ⟨_, rfl⟩
  have HE0 := Lib.hid hE
  rw [hE]
  clear hE
  go_enter Tryz.func65, Tryz.ntmps65
  obtain ⟨W1, hW1, hE1, hs1, hb1⟩ := tp_new w (.slice ap n cp) (.slice ac C.length cc) (.slice am M.length cm)
  have HB1 := Lib.hid hb1; have HE1 := Lib.hid hE1
  obtain ⟨b0, b1, b2, -⟩ := tp_block hb1
  clear hE1 hs1 hb1
  go_wp2_with fail
  refine (HCK.out _ HE1.out).mono ?_
  rintro e w2 ⟨rfl, hE2⟩
  have HE2 := Lib.hid (HE1.out.trans hE2)
  have HB2 := Lib.hid (block_ext HB1.out hE2)
  clear hE2 HCK HB1 HE1 b0 b1 b2 hW1
  go_wp2_with fail
  go_loopw [16] (fun t wr => ∃ j : Nat, j ≤ rows.length ∧ t = .int .i64 j ∧ Hid (Ext w2 wr) ∧ Hid (allE n (rows.drop j) = E)) (fun t _ => rows.length - (intOf t).toNat)
  case atStart => exact ⟨0, by omega, rfl, Ext.refl _, by unfold Hid; rw [List.drop_zero]; exact HE0.out⟩
  case round =>
    obtain ⟨j, hj, rfl, HE, HD⟩ := hrel
    obtain ⟨wo, rfl⟩ : ∃ wo : World, wo = wr := ⟨_, rfl⟩
    by_cases hlt : j < rows.length
    · obtain ⟨bl, ol, rfl, hbl, hcell⟩ := HLC.out (by intro e; simp [e] at hlt)
      obtain ⟨x, hx⟩ : ∃ x, rows[j]? = some x := ⟨rows[j], List.getElem?_eq_getElem hlt⟩
      obtain ⟨vr, hvr, hcr⟩ := hcell j x hx
      have HEw := Lib.hid (HE2.out.trans HE.out)
      have g1 := HEw.out.cell hcr
      have hvr' := hvr.ext HEw.out
      have HRC := Lib.hid (rowCheck_any x vr wo hvr')
      obtain ⟨ax, cx, rfl, -⟩ := hvr'.open
      have hD := HD.out
      rw [drop_cons hx, allE_cons] at hD
      clear hvr hvr' hcell hcr hx
      by_cases hr : rowE x = 0
      · rw [if_pos hr] at hD
        rw [hr] at HRC
        by_cases hxn : (x.length : Int) = n
        · rw [if_pos hxn] at hD
          have HD2 := Lib.hid hD
          have hne : ((x.length : Int) != (n : Int)) = false := by simp; omega
          clear hD HD hxn hr
          go_wp2_with fail
          refine HRC.out.mono ?_
          rintro e w4 ⟨rfl, hE4⟩
          have HE4 := Lib.hid (HE.out.trans hE4)
          obtain ⟨c0, c1, c2, -⟩ := tp_block (block_ext HB2.out HE4.out)
          clear hE4 HRC
          go_wp2_with fail
          go_roundw
          case rel => exact ⟨j + 1, by omega, by go_num, HE4.out, HD2.out⟩
          case measure => simp [intOf]; omega
        · rw [if_neg hxn] at hD
          have HD2 := Lib.hid hD
          have hne : ((x.length : Int) != (n : Int)) = true := by simp; omega
          clear hD HD hxn hr
          go_wp2_with fail
          refine HRC.out.mono ?_
          rintro e w4 ⟨rfl, hE4⟩
          have HE4 := Lib.hid (HE.out.trans hE4)
          obtain ⟨c0, c1, c2, -⟩ := tp_block (block_ext HB2.out HE4.out)
          clear hE4 HRC
          go_wp2_with fail
          go_ret
          exact ⟨by rw [← HD2.out]; rfl, HE2.out.trans HE4.out⟩
      · rw [if_neg hr] at hD
        rw [hD] at HRC hr
        have hz : (E == 0) = false := by simpa using hr
        have hz2 : (E != 0) = true := by simpa using hr
        clear hD HD hr
        go_wp2_with fail
        refine HRC.out.mono ?_
        rintro e w4 ⟨rfl, hE4⟩
        have HE4 := Lib.hid (HE.out.trans hE4)
        clear hE4 HRC
        go_wp2_with fail
        go_ret
        exact ⟨rfl, HE2.out.trans HE4.out⟩
    · obtain rfl : j = rows.length := by omega
      have hD := HD.out
      rw [List.drop_length] at hD
      have HD2 : Hid ((0 : Int) = E) := hD
      clear hD HD
      go_wp2_with fail
      go_ret
      exact ⟨by rw [← HD2.out]; rfl, HE2.out.trans HE.out⟩
end Go.Proofs.YtjihfabhgcfjnaaGreatDoor
/- Long regions that draw their order and only read: the operations in the text's order, their array a variable; the condition on the world holds throughout. -/
namespace Go.Proofs.YtjihfabhgcfjnaaGreatDoor
set_option linter.unusedVariables false
open Go.RowKit
section
variable {P : Program} {ops : Array Oper} {Q : Exit → Act → World → Prop} {md : Region.Mode} {S : World → Prop} {z : Nat}
/-- As anyE_first; z is none of the operations. -/
theorem anyE_firstN {i : Nat} {oi : Oper} {v : Value} (hi : ops[i]? = some oi) (hsel : ∀ (j : Nat) (o : Oper) cs b, ops[j]? = some o → o.op ≠ .select cs b)
    (hQ : ∀ c a w, Q (.panic c) (a.put oi.dst v) w → Q (.panic c) a w) (f : Nat) :
    ∀ (l : Array Bool) (a : Act) (w : World), l.size ≤ z →
      (∀ j oj, ops[j]? = some oj → j ≠ i → l.getD j true = false → (∀ e ∈ oj.after, Region.binds md e = true → e.on ≠ i) → oi.apart ops oj = true) →
      i ∈ Region.ready md ops l → YieldsIf P ops S oi v a → S w →
      anyE P md ops Q S z f (l.setIfInBounds i true) (a.put oi.dst v) w → anyE P md ops Q S z (f + 1) l a w := by
  induction f with
  | zero =>
    intro l a w _ _ hr hy hS H
    refine ⟨(fun e => by rw [e] at hr; cases hr), fun j hj => ?_⟩
    by_cases e : j = i
    · rw [e]; exact hy.wpOp hi hS ⟨fun _ => hS, H⟩
    · have := ready_mono hj e
      rw [H.1] at this
      cases this
  | succ f ih =>
    intro l a w hlz hfree hr hy hS H
    refine ⟨(fun e => by rw [e] at hr; cases hr), fun j hj => ?_⟩
    by_cases e : j = i
    · rw [e]; exact hy.wpOp hi hS ⟨fun _ => hS, H⟩
    have hji : i ≠ j := fun x => e x.symm
    have un := (mem_ready.1 hj).1
    obtain ⟨oj, hoj, hall⟩ := (mem_ready.1 hj).2
    have ui := (mem_ready.1 hr).1
    have uf : l.getD i false = true → False := fun hc => by rw [not_listed ui] at hc; cases hc
    have hout : ∀ l' : Array Bool, l'.size ≤ z → l'.getD z false = false := fun l' h => by simp [Array.getElem?_eq_none h]
    have hno : ∀ d ∈ oj.after, Region.binds md d = true → d.on ≠ i := fun d hd hb hdi => uf (by have := hall d hd hb; rwa [hdi] at this)
    have step := wpOp_putIf hoj (hfree j oj hoj e un hno) (fun cs b => hsel i oi cs b hi) (fun cs b => hsel j oj cs b hoj) hQ hy (H.2 j (ready_mono hj e))
    refine wpOp_mono (fun b u hb => ?_) step
    obtain ⟨hy2, hS2, hrest⟩ := hb
    have hSu : S u := hS2 (hout _ (by simpa using hlz))
    refine ⟨fun _ => hSu, ih (l.setIfInBounds j true) b u (by simpa using hlz) (fun k ok hk hki hun hn => ?_) (ready_mono hr hji) hy2 hSu ?_⟩
    · refine hfree k ok hk hki ?_ hn
      by_cases hjk : j = k
      · rw [← hjk]; exact un
      · rw [getD_set_ne true hjk] at hun; exact hun
    · rw [Array.setIfInBounds_comm _ _ e]; exact hrest
theorem anyE_takeN (i : Nat) {oi : Oper} {v : Value} {f : Nat} {l : Array Bool} {a : Act} {w : World} (hi : ops[i]? = some oi)
    (hs : Region.noSelect ops = true) (hf : Region.free md ops l i = true) (hr : (Region.ready md ops l).contains i = true) (hz : l.size ≤ z)
    (hQ : ∀ c a w, Q (.panic c) (a.put oi.dst v) w → Q (.panic c) a w) (hy : YieldsIf P ops S oi v a) (hS : S w)
    (h : anyE P md ops Q S z f (l.setIfInBounds i true) (a.put oi.dst v) w) : anyE P md ops Q S z (f + 1) l a w :=
  anyE_firstN hi (Region.noSelect_spec hs) hQ f l a w hz (Region.free_spec hi hf) (by simpa using hr) hy hS h
/-- The last one; S holds behind it too. -/
theorem anyE_lastN (i : Nat) {o : Oper} {f : Nat} {l : Array Bool} {a : Act} {w : World} (hr : Region.ready md ops l = [i]) (hr2 : Region.ready md ops (l.setIfInBounds i true) = []) (ho : ops[i]? = some o)
    (h : ∀ K : Act → World → Prop, Shut (∀ b u, S u → Q .normal b u → K b u) → if Region.wanted o (yielded ops a.tmps) = true then Oper.wp P o a w K Q else K (a.put o.dst undef) w) : anyE P md ops Q S z (f + 1) l a w := by
  refine ⟨(fun e => by rw [hr] at e; cases e), fun j hj => ?_⟩
  obtain rfl : j = i := by rw [hr] at hj; simpa using hj
  refine wpOp_step ho fun K hK => h K fun b u hS hq => hK b u ⟨fun _ => hS, ?_⟩
  cases f with
  | zero => exact ⟨hr2, hq⟩
  | succ f => exact ⟨fun _ => hq, by rw [hr2]; simp⟩
end
section
variable {P : Program} {ops O : Array Oper} {Q : Exit → Act → World → Prop} {md : Region.Mode} {S : World → Prop} {z n : Nat}
theorem getopN (hO : Hid (ops = O)) (i : Nat) (h : i < O.size) : ops[i]? = some O[i] := by
  have hO : ops = O := hO
  subst hO
  exact Array.getElem?_eq_getElem h
end
end Go.Proofs.YtjihfabhgcfjnaaGreatDoor
