/- Merged: TmpL, RegF, TmpM, TmpT, Txt, TmpV, Eq6, TmpN, TmpO, TmpP. -/
import Derived.Test.YtjihfabhgcfjnaaGreatDoorUBI
import Derived.Test.YtjihfabhgcfjnaaGreatDoorUBC
import Derived.Laws.Rows
import Derived.Test.YtjihfabhgcfjnaaGreatDoorShelfB
import Derived.Lib.Builder
import Derived.Lib.AppendStr
import Derived.Test.YtjihfabhgcfjnaaGreatDoorUAQ
import Derived.Test.YtjihfabhgcfjnaaGreatDoorUBE
import Derived.Test.YtjihfabhgcfjnaaGreatDoorShelfA
import Derived.Test.YtjihfabhgcfjnaaGreatDoorUAD
import Derived.WalkSmall
import Derived.Lib.AppendIntMem
import Derived.Lib.Join
import Derived.Test.YtjihfabhgcfjnaaGreatDoorUAU
import Derived.Deep.CutRange
import Derived.Deep.RegionHeld3
import Derived.Test.YtjihfabhgcfjnaaGreatDoorUBF
/- Contracts of laws 12 and 18: Interval, build. -/
namespace Go.Proofs.YtjihfabhgcfjnaaGreatDoor
set_option linter.unusedVariables false
set_option linter.unusedSimpArgs false
open Go.RowKit

theorem row9_bd {n : Nat} {x : List Int} : ∀ y ∈ row9 n x, -9 ≤ y ∧ y ≤ 9 := by
  intro y hy
  obtain ⟨z, -, rfl⟩ := List.mem_map.1 hy
  have := tmod_bd z 10 (by decide)
  omega
set_option maxRecDepth 100000 in
set_option maxHeartbeats 4000000 in
theorem interval12_any (n : Nat) (P x : List Int) (vp : Value) (w : World) (hP : Ints w vp P) (hPl : P.length = n) (hn : n ≤ 4) (hx : x.length = 4) (hxb : ∀ a ∈ x, -128 ≤ a ∧ a ≤ 127) :
    Calls Tryz.prog 114 #[vp, .agg (x.map (Value.int .i8)).toArray] w fun e w' => ∃ a c, e = .returned (.slice a n c) ∧ w'.ownsRow w.heap.size 3 1 (.slice a n c) n ((row9 n x).map (Value.int .i64)) ∧ Ext w w' := by
  obtain ⟨ap, cp, rfl, -⟩ := hP.open
  rw [hPl]
  clear hP hPl
  obtain ⟨x0, x1, x2, x3, rfl⟩ : ∃ a b c d, x = [a, b, c, d] := by
    match x, hx with
    | [a, b, c, d], _ => exact ⟨a, b, c, d, rfl⟩
  go_enter Tryz.func114, Tryz.ntmps114
  go_wp2_with fail
  obtain ⟨W1, hW1⟩ : ∃ W1, w.alloc (.cells #[.int .i8 x0, .int .i8 x1, .int .i8 x2, .int .i8 x3] 168) = W1 := ⟨_, rfl⟩
  have HE1 : Hid (Ext w W1) := by rw [← hW1]; exact Ext.alloc _ _
  have HBX : Hid (W1.heap[w.heap.size]? = some (.cells #[.int .i8 x0, .int .i8 x1, .int .i8 x2, .int .i8 x3] 168 (0, 0))) := by rw [← hW1]; exact block_new _ _ _
  rw [hW1]
  clear hW1
  obtain ⟨x, hX⟩ : ∃ x, x = [x0, x1, x2, x3] := ⟨_, rfl⟩
  have HCX : Hid (∀ W, Ext W1 W → ∀ i, i < 4 → W.cell? ⟨w.heap.size, i, none⟩ = some (.int .i8 (x.getD i 0))) := fun W hW i hi => by
    have h := block_cell (block_ext HBX.out hW) i
    rw [h, hX]
    have hc : i = 0 ∨ i = 1 ∨ i = 2 ∨ i = 3 := by omega
    rcases hc with rfl | rfl | rfl | rfl <;> rfl
  have HXB : Hid (∀ i, -128 ≤ x.getD i 0 ∧ x.getD i 0 ≤ 127) := fun i => by
    rw [List.getD_eq_getElem?_getD]
    cases hq : x[i]? with
    | none => decide
    | some y => exact hxb y (by rw [← hX]; exact List.mem_of_getElem? hq)
  have HXL : Hid (x.length = 4) := by rw [hX]; rfl
  have HXE := Lib.hid hX
  rw [← hX]
  clear hX hx hxb HBX
  go_loopw [5, 6] (fun so t wr => ∃ i : Nat, i ≤ n ∧ t = .int .i64 i ∧ Hid (Ext W1 wr) ∧ Hid (∃ a c, so = .slice a i c) ∧ Hid (Build wr W1.heap.size 3 1 so intC (row9 i x))) (fun _ t _ => n - (intOf t).toNat)
  case atStart => exact ⟨0, by omega, rfl, Ext.refl _, ⟨none, 0, rfl⟩, by unfold Hid row9; exact Build.nil _ _ _ _ _⟩
  case round =>
    obtain ⟨i, hi, rfl, HE, HSL, HBu⟩ := hrel
    obtain ⟨wo, rfl⟩ : ∃ wo : World, wo = wr := ⟨_, rfl⟩
    by_cases hlt : i < n
    · have g1 := HCX.out wo HE.out i (by omega)
      obtain ⟨y, hy⟩ : ∃ y, x.getD i 0 = y := ⟨_, rfl⟩
      have hyb := HXB.out i
      rw [hy] at g1 hyb
      have hxi : x[i]? = some y := by
        have := HXL.out
        rw [List.getD_eq_getElem?_getD, List.getElem?_eq_getElem (by omega)] at hy
        rw [List.getElem?_eq_getElem (by omega), ← hy]; rfl
      have HN := Lib.hid (row9_succ hxi)
      have HJL : Hid ((row9 i x).length = i) := by unfold Hid; rw [row9_len (by have := HXL.out; omega)]
      have HJ : Hid ((row9 i x).length < 1000000) := by unfold Hid; rw [HJL.out]; omega
      have hyr := tmod_bd y 10 (by decide)
      have hszr := HE.out.size
      have i4 : (i : Int) < 4 := by omega
      clear hy hxi
      obtain ⟨z, hz⟩ : ∃ z, y.tmod 10 = z := ⟨_, rfl⟩
      rw [hz] at hyr HN
      go_wp2_with (at_builtin; go_must (refine wpList_append_build _ rfl _ _ 37 rfl W1.heap.size 3 (.int .i64 0) 1 8 Tryz.underlying37 infoInt rfl (by decide) u5 intC (row9 i x) z #[.int .i64 z] 3 rfl HBu.out rfl rfl ?e1 (fun _ _ => rfl) HJ.out (by decide) hszr ?_))
      case e1 => simp [Value.oneCell']
      intro v' w6 hB6 hg6 hb6 hs6 _
      have HV : Hid (∃ g cc, v' = .slice g (i + 1) cc) := by
        obtain ⟨us, b1, b2, b3, b4⟩ := id hB6
        obtain ⟨g, cc, hv, -⟩ := owns_shape b3 (by rw [List.length_append]; simp)
        refine ⟨some ⟨g, 0, none⟩, cc, ?_⟩
        rw [hv, List.length_append, HJL.out]; rfl
      rw [← HN.out] at hB6
      have HB6 := Lib.hid hB6
      have HX6 := Lib.hid (Below.trans HE.out hb6)
      clear hB6 hg6 hb6
      go_wp2_with fail
      go_roundw
      case rel => exact ⟨i + 1, by omega, by go_num, HX6.out, HV, HB6.out⟩
      case measure => simp [intOf]; omega
    · obtain rfl : i = n := by omega
      obtain ⟨a, c, rfl⟩ := HSL.out
      have hO := HBu.out.ints
      rw [row9_len (by have := HXL.out; omega)] at hO
      have HO := Lib.hid hO
      clear hO HBu HSL
      go_wp2_with fail
      go_ret
      rw [← HXE.out]
      refine ⟨a, c, rfl, ⟨HO.out.1, ?_⟩, HE1.out.trans HE.out⟩
      rcases HO.out.2 with h | ⟨g, cap, cur, hv, hg, rest⟩
      · exact .inl h
      · exact .inr ⟨g, cap, cur, hv, Nat.le_trans HE1.out.size hg, rest⟩

/-- The three fields are stored into the result's cells. -/
theorem build_end (U : World) (B N : Nat) (T : Nat → Prop) {P : List Int} {C M : List (List Int)} {vp vc vm : Value} (hP : SafeS U (fun k => T k ∨ k = B) fun W => Ints W vp P) (hC : SafeS U (· < N) fun W => Rows2 W vc C) (hM : SafeS U (· < N) fun W => Rows2 W vm M) (hBN : B < N) (hT : ∀ k, T k → k < B) :
    SafeS (((U.setCell ⟨B, 0, none⟩ vp).setCell ⟨B, 1, none⟩ vc).setCell ⟨B, 2, none⟩ vm) T fun W => TempV W (.agg #[vp, vc, vm]) P C M := by
  have hG : ∀ S : Nat → Prop, S B → GrownS S U (((U.setCell ⟨B, 0, none⟩ vp).setCell ⟨B, 1, none⟩ vc).setCell ⟨B, 2, none⟩ vm) := fun S hS =>
    (((GrownS.refl _ U).setCell (g := B) hS 0 _).setCell (g := B) hS 1 _).setCell (g := B) hS 2 _
  intro W hW
  exact ⟨_, _, _, rfl, hP.grow (hG _ (.inr rfl)) (S' := T) (fun k hk => .inl (.inl hk)) W hW, hC.grow (hG _ hBN) (S' := T) (fun k hk => .inl (by have := hT k hk; omega)) W hW, hM.grow (hG _ hBN) (S' := T) (fun k hk => .inl (by have := hT k hk; omega)) W hW⟩

set_option maxRecDepth 100000 in
set_option maxHeartbeats 8000000 in
/-- build: the temperament of commas, or of vals. -/
theorem build_any (n F : Nat) (P : List Int) (m R A S : List (List Int)) (vals : Bool) (T : Nat → Prop) (vp v : Value) (w : World) (hT : ∀ k, T k → k < w.heap.size) (hP : SafeS w T fun W => Ints W vp P) (h : Rows2 w v m) (hE : primesE P = 0) (hPl : P.length = n) (hD : FromD n F m R A S) (hlib : LibT w) (hp : 2 < w.heap.size) :
    Calls Tryz.prog 115 #[vp, v, .bool vals] w fun e w' => ∃ u, e = .returned (.tuple #[u, .int .i64 0]) ∧ SafeS w' T (fun W => TempV W u P (if vals then A else S) (if vals then S else A)) ∧ Ext w w' := by
  have HPC := Lib.hid (fun W (hW : Ext w W) => primesChk_any P vp W (hP.now.ext hW))
  rw [hE] at HPC
  have HOF := Lib.hid (fun W (hW : Ext w W) => ofD_any n F m R A S v W (h.ext hW) hD (hlib.ext hW) (Nat.lt_of_lt_of_le hp hW.size))
  have HSA := Lib.hid (fun W (hW : Ext w W) u (hu : LatV W u n R) => satD_any n F R A S u W hu hD.chk hD.n1 hD.n4 hD.kR hD.kA hD.lA hD.lS hD.bS (hlib.ext hW) (Nat.lt_of_lt_of_le hp hW.size))
  have HAN := Lib.hid (fun W (hW : Ext w W) u (hu : LatV W u n R) => annD_any n F R A S u W hu hD.chk hD.n1 hD.n4 hD.kR hD.lA hD.bA (hlib.ext hW) (Nat.lt_of_lt_of_le hp hW.size))
  have hP2 := hP.now
  obtain ⟨ap, cp, rfl, p1, p2, -, -, -⟩ := hP2.open
  obtain ⟨a, c, rfl, -⟩ := inCell.open h
  rw [hPl] at HPC hP ⊢
  have HP := Lib.hid hP; have HTS := Lib.hid hT
  clear hP hP2 h hE hPl hD hlib hp p1 p2 hT
  go_enter Tryz.func115, Tryz.ntmps115
  obtain ⟨W1, hW1, hE1, hs1, hb1⟩ := tp_new w (.slice none 0 0) (.slice none 0 0) (.slice none 0 0)
  have HB1 := Lib.hid hb1; have HE1 := Lib.hid hE1; have HS1 := Lib.hid hs1
  have HP1 := Lib.hid (HP.out.grow (hE1.grownS T) (S' := fun k => T k ∨ w.heap.size ≤ k) (fun k hk => hk))
  clear hE1 hs1 hb1
  go_wp2_with fail
  refine (HPC.out _ HE1.out).mono ?_
  rintro e w1 ⟨rfl, rfl⟩
  clear HPC
  go_wp2_with fail
  refine (HOF.out _ HE1.out).mono ?_
  rintro e w1 ⟨u1, rfl, hu1, hE1'⟩
  obtain ⟨a1, c1, rfl, -⟩ := ListAt.open hu1.now
  have HE2 := Lib.hid (HE1.out.trans hE1'); have HU1 := Lib.hid hu1.now
  have HB2 := Lib.hid (block_ext HB1.out hE1'); have HP2 := Lib.hid (HP1.out.ext hE1')
  have HZ1 := Lib.hid hE1'.size
  clear hE1' hu1 HOF HB1 HE1 HP1 hW1
  obtain ⟨V1, hV1, hX1, hs1, hb1⟩ := lat_new w1 (.int .i64 0) (.slice none 0 0)
  obtain ⟨r0, r1, rf⟩ := lat_block hb1
  have f0 := rf 0; have f1 := rf 1
  have HL1 := Lib.hid (lat_store hb1 (.int .i64 n) (.slice a1 R.length c1))
  have HXU := Lib.hid (ext_lat hX1 (Nat.le_refl _) (.int .i64 n) (.slice a1 R.length c1))
  clear hX1 hs1 hb1 rf
  obtain ⟨U1, hU1⟩ : ∃ U1, (V1.setCell ⟨w1.heap.size, 0, none⟩ (.int .i64 n)).setCell ⟨w1.heap.size, 1, none⟩ (.slice a1 R.length c1) = U1 := ⟨_, rfl⟩
  rw [hU1] at HL1 HXU
  obtain ⟨s0, s1, -⟩ := lat_block HL1.out
  have HEU := Lib.hid (HE2.out.trans HXU.out)
  have HRU := Lib.hid (HU1.out.ext HXU.out)
  have HB3 := Lib.hid (block_ext HB2.out HXU.out); have HP3 := Lib.hid (HP2.out.ext HXU.out)
  have HZ2 := Lib.hid (Nat.le_trans HZ1.out HXU.out.size)
  go_wp2_with fail
  clear hU1 hV1 r0 r1 f0 f1 HE2 HU1 HXU HB2 HP2
  refine (HSA.out _ HEU.out _ ⟨_, rfl, HRU.out⟩).mono ?_
  rintro e w2 ⟨u2, rfl, hu2, hE2⟩
  obtain ⟨a2, c2, rfl, -⟩ := ListAt.open hu2.now
  have HE4 := Lib.hid (HEU.out.trans hE2); have HU2 := Lib.hid (hu2.grow (GrownS.refl _ _) (S' := fun k => k < W1.heap.size ∨ w2.heap.size ≤ k) fun k hk => hk.elim (fun h => .inl (Nat.lt_of_lt_of_le h HZ2.out)) .inr)
  have HL2 := Lib.hid (block_ext HL1.out hE2); have HB4 := Lib.hid (block_ext HB3.out hE2); have HP4 := Lib.hid (HP3.out.ext hE2)
  have HR2 := Lib.hid (HRU.out.ext hE2)
  have HZ3 := Lib.hid (Nat.le_trans HZ2.out hE2.size)
  clear hE2 hu2 HSA HL1 HRU HEU HB3 HP3 s0 s1
  obtain ⟨V2, hV2, hX2, hs2, hb2⟩ := lat_new w2 (.int .i64 0) (.slice none 0 0)
  obtain ⟨r0, r1, rf⟩ := lat_block hb2
  have f0 := rf 0; have f1 := rf 1
  have HM1 := Lib.hid (lat_store hb2 (.int .i64 n) (.slice a2 S.length c2))
  have HXU := Lib.hid (ext_lat hX2 (Nat.le_refl _) (.int .i64 n) (.slice a2 S.length c2))
  clear hX2 hs2 hb2 rf
  obtain ⟨U2, hU2⟩ : ∃ U2, (V2.setCell ⟨w2.heap.size, 0, none⟩ (.int .i64 n)).setCell ⟨w2.heap.size, 1, none⟩ (.slice a2 S.length c2) = U2 := ⟨_, rfl⟩
  rw [hU2] at HM1 HXU
  have HL3 := Lib.hid (block_ext HL2.out HXU.out); have HB5 := Lib.hid (block_ext HB4.out HXU.out); have HP5 := Lib.hid (HP4.out.ext HXU.out)
  obtain ⟨s0, s1, -⟩ := lat_block HL3.out
  have HEU := Lib.hid (HE4.out.trans HXU.out)
  have HRU := Lib.hid (HR2.out.ext HXU.out)
  have HSU := Lib.hid (HU2.out.ext HXU.out)
  have HZ4 := Lib.hid (Nat.le_trans HZ3.out HXU.out.size)
  go_wp2_with fail
  clear hU2 hV2 r0 r1 f0 f1 HE4 HU2 HXU HL2 HR2 HB4 HP4
  refine (HAN.out _ HEU.out _ ⟨_, rfl, HRU.out⟩).mono ?_
  rintro e w3 ⟨u3, rfl, hu3, hE3⟩
  obtain ⟨a3, c3, rfl, -⟩ := ListAt.open hu3.now
  have HE6 := Lib.hid (HEU.out.trans hE3); have HU3 := Lib.hid (hu3.grow (GrownS.refl _ _) (S' := fun k => k < W1.heap.size ∨ k = w2.heap.size ∨ k = w3.heap.size) fun k hk => by
    rcases hk with h | rfl | rfl
    · exact .inl (Nat.lt_of_lt_of_le h HZ4.out)
    · exact .inl (block_lt HM1.out)
    · exact .inr (Nat.le_refl _))
  have HM2 := Lib.hid (block_ext HM1.out hE3); have HB6 := Lib.hid (block_ext HB5.out hE3); have HP6 := Lib.hid (HP5.out.ext hE3)
  have HS4 := Lib.hid (HSU.out.ext hE3)
  have HZ5 := Lib.hid (Nat.le_trans HZ4.out hE3.size)
  have HLT2 : Hid (w2.heap.size < w3.heap.size) := Nat.lt_of_lt_of_le (block_lt HM1.out) hE3.size
  clear hE3 hu3 HAN HM1 HRU HEU HSU HL3 HB5 HP5 s0 s1
  obtain ⟨V3, hV3, hX3, hs3, hb3⟩ := lat_new w3 (.int .i64 0) (.slice none 0 0)
  obtain ⟨r0, r1, rf⟩ := lat_block hb3
  have f0 := rf 0; have f1 := rf 1
  have HN1 := Lib.hid (lat_store hb3 (.int .i64 n) (.slice a3 A.length c3))
  have HXU := Lib.hid (ext_lat hX3 (Nat.le_refl _) (.int .i64 n) (.slice a3 A.length c3))
  clear hX3 hs3 hb3 rf
  obtain ⟨U3, hU3⟩ : ∃ U3, (V3.setCell ⟨w3.heap.size, 0, none⟩ (.int .i64 n)).setCell ⟨w3.heap.size, 1, none⟩ (.slice a3 A.length c3) = U3 := ⟨_, rfl⟩
  rw [hU3] at HN1 HXU
  have HM3 := Lib.hid (block_ext HM2.out HXU.out); have HB7 := Lib.hid (block_ext HB6.out HXU.out); have HP7 := Lib.hid (HP6.out.ext HXU.out)
  obtain ⟨q0, q1, qf⟩ := lat_block HN1.out
  obtain ⟨s0, s1, sf⟩ := lat_block HM3.out
  obtain ⟨b0, b1, b2, bf⟩ := tp_block HB7.out
  have k0 := qf 0; have k1 := qf 1; have l0 := sf 0; have l1 := sf 1; have m0 := bf 0; have m1 := bf 1; have m2 := bf 2
  have HEU := Lib.hid (HE6.out.trans HXU.out)
  have HSU := Lib.hid ((HS4.out.ext HXU.out).low (S' := fun k => k < W1.heap.size ∨ k = w2.heap.size ∨ k = w3.heap.size) fun k hk => by
    have := HLT2.out
    rcases hk with h | rfl | rfl
    · exact .inl h
    · exact .inr (Nat.le_refl _)
    · exact .inr (by omega))
  have HAU := Lib.hid (HU3.out.ext HXU.out)
  have HPT : Hid (∀ k, T k ∨ k = w.heap.size → T k ∨ w.heap.size ≤ k) := fun k hk => hk.elim .inl fun e => .inr (by omega)
  clear qf sf bf HM2 HB6 HP6 HS4 HU3
  cases vals with
  | false =>
    go_wp2_with fail
    clear hU3 hV3 r0 r1 f0 f1
    have hkA := tp_store HB7.out (.slice ap n cp) (.slice a2 S.length c2) (.slice a3 A.length c3)
    refine bodyPost_ret (results_rowtmp (by rfl) _ _ w.heap.size 58 #[.slice ap n cp, .slice a2 S.length c2, .slice a3 A.length c3] (0, 0) _ (by rfl) hkA Tryz.underlying58 (by rfl) (by kernel_rfl)) (by rfl) ?_
    exact ⟨_, rfl, build_end U3 w.heap.size W1.heap.size T (HP7.out.low HPT.out) (HSU.out.low fun k hk => .inl hk) (HAU.out.low fun k hk => .inl hk) (by have := HS1.out; omega) HTS.out, ext_tp HEU.out (Nat.le_refl _) _ _ _⟩
  | true =>
    have n1 : w2.heap.size ≠ w3.heap.size := by have := HLT2.out; omega
    have n2 : w3.heap.size ≠ w2.heap.size := by have := HLT2.out; omega
    have n3 : w.heap.size ≠ w2.heap.size := by have := HZ3.out; have := HS1.out; omega
    have n4 : w.heap.size ≠ w3.heap.size := by have := HZ5.out; have := HS1.out; omega
    have n5 : w2.heap.size ≠ w.heap.size := fun e => n3 e.symm
    have n6 : w3.heap.size ≠ w.heap.size := fun e => n4 e.symm
    go_wp2_with fail
    clear hU3 hV3 r0 r1 f0 f1
    obtain ⟨U4, hU4⟩ : ∃ U4, (((U3.setCell ⟨w2.heap.size, 0, none⟩ (.int .i64 n)).setCell ⟨w2.heap.size, 1, none⟩ (.slice a3 A.length c3)).setCell ⟨w3.heap.size, 0, none⟩ (.int .i64 n)).setCell ⟨w3.heap.size, 1, none⟩ (.slice a2 S.length c2) = U4 := ⟨_, rfl⟩
    have hB4 : U4.heap[w.heap.size]? = some (.cells #[.slice none 0 0, .slice none 0 0, .slice none 0 0] 58 (0, 0)) := by
      rw [← hU4, setCell_heap_other _ _ _ _ _ n4, setCell_heap_other _ _ _ _ _ n4, setCell_heap_other _ _ _ _ _ n3, setCell_heap_other _ _ _ _ _ n3]; exact HB7.out
    have hG : ∀ Q : Nat → Prop, Q w2.heap.size → Q w3.heap.size → GrownS Q U3 U4 := fun Q q2 q3 => by
      rw [← hU4]
      exact ((((GrownS.refl _ U3).setCell (g := w2.heap.size) q2 0 _).setCell (g := w2.heap.size) q2 1 _).setCell (g := w3.heap.size) q3 0 _).setCell (g := w3.heap.size) q3 1 _
    have hX4 : Ext w U4 := by
      rw [← hU4]
      exact ext_lat (ext_lat HEU.out (by have := HZ3.out; have := HS1.out; omega) _ _) (by have := HZ5.out; have := HS1.out; omega) _ _
    have hz3 := HZ3.out; have hz5 := HZ5.out; have hs1 := HS1.out
    have hP4 := (HP7.out.grow (hG _ (.inr (by omega)) (.inr (by omega))) (S' := fun k => T k ∨ w.heap.size ≤ k) (fun k hk => .inl hk)).low HPT.out
    have hS4 := (HSU.out.grow (hG _ (.inr (.inl rfl)) (.inr (.inr rfl))) (S' := (· < W1.heap.size)) (fun k hk => .inl (.inl hk)))
    have hA4 := (HAU.out.grow (hG _ (.inr (.inl rfl)) (.inr (.inr rfl))) (S' := (· < W1.heap.size)) (fun k hk => .inl (.inl hk)))
    have hkA := tp_store hB4 (.slice ap n cp) (.slice a3 A.length c3) (.slice a2 S.length c2)
    rw [hU4]
    refine bodyPost_ret (results_rowtmp (by rfl) _ _ w.heap.size 58 #[.slice ap n cp, .slice a3 A.length c3, .slice a2 S.length c2] (0, 0) _ (by rfl) hkA Tryz.underlying58 (by rfl) (by kernel_rfl)) (by rfl) ?_
    exact ⟨_, rfl, build_end U4 w.heap.size W1.heap.size T hP4 hA4 hS4 (by omega) HTS.out, ext_tp hX4 (Nat.le_refl _) _ _ _⟩
end Go.Proofs.YtjihfabhgcfjnaaGreatDoor
/- A region that draws its order: more than one operation can come up, each is followed; a whole block loaded. -/
namespace Go.Proofs.YtjihfabhgcfjnaaGreatDoor
set_option linter.unusedVariables false
section
variable {P : Program} {ops : Array Oper} {Q : Exit → Act → World → Prop} {md : Region.Mode} {S : World → Prop} {z : Nat}
theorem anyE_fork2 (i j : Nat) {oi oj : Oper} {f : Nat} {l : Array Bool} {a : Act} {w : World} (hr : Region.ready md ops l = [i, j]) (hi : ops[i]? = some oi) (hj : ops[j]? = some oj)
    (h1 : ∀ K : Act → World → Prop, Shut (∀ b u, S u → (S u → anyE P md ops Q S z f (l.setIfInBounds i true) b u) → K b u) → if Region.wanted oi (yielded ops a.tmps) = true then Oper.wp P oi a w K Q else K (a.put oi.dst undef) w)
    (h2 : ∀ K : Act → World → Prop, Shut (∀ b u, S u → (S u → anyE P md ops Q S z f (l.setIfInBounds j true) b u) → K b u) → if Region.wanted oj (yielded ops a.tmps) = true then Oper.wp P oj a w K Q else K (a.put oj.dst undef) w) : anyE P md ops Q S z (f + 1) l a w := by
  refine ⟨(fun e => by rw [hr] at e; cases e), fun m hm => ?_⟩
  rw [hr] at hm
  simp only [List.mem_cons, List.not_mem_nil, or_false] at hm
  rcases hm with rfl | rfl
  · exact wpOp_step hi fun K hK => h1 K fun b u hS hrest => hK b u ⟨fun _ => hS, hrest hS⟩
  · exact wpOp_step hj fun K hK => h2 K fun b u hS hrest => hK b u ⟨fun _ => hS, hrest hS⟩
theorem anyE_fork3 (i j k : Nat) {oi oj ok : Oper} {f : Nat} {l : Array Bool} {a : Act} {w : World} (hr : Region.ready md ops l = [i, j, k]) (hi : ops[i]? = some oi) (hj : ops[j]? = some oj) (hk : ops[k]? = some ok)
    (h1 : ∀ K : Act → World → Prop, Shut (∀ b u, S u → (S u → anyE P md ops Q S z f (l.setIfInBounds i true) b u) → K b u) → if Region.wanted oi (yielded ops a.tmps) = true then Oper.wp P oi a w K Q else K (a.put oi.dst undef) w)
    (h2 : ∀ K : Act → World → Prop, Shut (∀ b u, S u → (S u → anyE P md ops Q S z f (l.setIfInBounds j true) b u) → K b u) → if Region.wanted oj (yielded ops a.tmps) = true then Oper.wp P oj a w K Q else K (a.put oj.dst undef) w)
    (h3 : ∀ K : Act → World → Prop, Shut (∀ b u, S u → (S u → anyE P md ops Q S z f (l.setIfInBounds k true) b u) → K b u) → if Region.wanted ok (yielded ops a.tmps) = true then Oper.wp P ok a w K Q else K (a.put ok.dst undef) w) : anyE P md ops Q S z (f + 1) l a w := by
  refine ⟨(fun e => by rw [hr] at e; cases e), fun m hm => ?_⟩
  rw [hr] at hm
  simp only [List.mem_cons, List.not_mem_nil, or_false] at hm
  rcases hm with rfl | rfl | rfl
  · exact wpOp_step hi fun K hK => h1 K fun b u hS hrest => hK b u ⟨fun _ => hS, hrest hS⟩
  · exact wpOp_step hj fun K hK => h2 K fun b u hS hrest => hK b u ⟨fun _ => hS, hrest hS⟩
  · exact wpOp_step hk fun K hK => h3 K fun b u hS hrest => hK b u ⟨fun _ => hS, hrest hS⟩
/-- A whole block loaded. -/
theorem yields_load_row {oi : Oper} {a : Act} (ty : TypeId) (x : Operand) (ho : oi.op = .load ty x) (hgd : oi.guard = none) (g : Nat) (hx : a.eval x = .pointer (some ⟨g, 0, none⟩)) (t : TypeId) (cs : Array Value) (fr : Nat × Nat) (d : TypeDesc) (hg : ∀ w, S w → w.heap[g]? = some (.cells cs t fr))
    (hu : P.underlying ty = some d) (hd : (match d with | .struct _ | .array _ _ => true | _ => false) = true) (hi : (P.info? ty).map (·.size) = some cs.size) : YieldsIf P ops S oi (.agg cs) a :=
  Or.inl ⟨by simp [Region.wanted, hgd], fun w hS => by
    unfold execOp
    simp only [ho, hx, Instr.loadAt, Instr.sureAddr, Sem.run_bind, Sem.run_pure, Result.andThen_ok, run_loadVar_row w g t ty cs fr d (hg w hS) hu hd hi]⟩
end
end Go.Proofs.YtjihfabhgcfjnaaGreatDoor
/- Contract of law 18: Make: the temperament of a plan. -/
namespace Go.Proofs.YtjihfabhgcfjnaaGreatDoor
set_option linter.unusedVariables false
set_option linter.unusedSimpArgs false
open Go.RowKit

/-- The rows of a plan over n primes. -/
def rows18 (n i : Nat) (xss : List (List Int)) : List (List Int) := (xss.take i).map (row9 n)
theorem rows18_ok {n : Nat} {xss : List (List Int)} (hn : n ≤ 4) (h : ∀ x ∈ xss, x.length = 4) (i : Nat) : (rows18 n i xss).length ≤ i ∧ ∀ r ∈ rows18 n i xss, r.length = n ∧ RowLe 9 r := by
  refine ⟨by unfold rows18; rw [List.length_map, List.length_take]; omega, fun r hr => ?_⟩
  obtain ⟨x, hx, rfl⟩ := List.mem_map.1 hr
  refine ⟨row9_len (by rw [h x (List.mem_of_mem_take hx)]; exact hn), fun y hy => ?_⟩
  have := row9_bd y hy
  omega
/-- The temperament of few small rows: the forms of its commas and of its mapping. -/
structure TempF (n F : Nat) (P : List Int) (m C M : List (List Int)) (vals : Bool) : Prop where
  right : RightT n F P C M
  left : RightT n F P M C
  hC : ∃ ps, HForm n C ps
  hM : ∃ ps, HForm n M ps
  spC : ∀ v, Sp n (RowsFrom 0 C) v ↔ if vals then Ann n m v else Sat n m v
  spM : ∀ v, Sp n (RowsFrom 0 M) v ↔ if vals then Sat n m v else Ann n m v
  rank : M.length + C.length = n
  lC : C.length ≤ 4
  lM : M.length ≤ 4
  bC : ∀ x ∈ C, RowLe 629856 x ∧ x.length = n
  bM : ∀ x ∈ M, RowLe 629856 x ∧ x.length = n
theorem sat_iff {n : Nat} {m B : List (List Int)} (hs : SpEq n (RowsFrom 0 m) (RowsFrom 0 B)) (v : List Int) : Sat n m v ↔ Sat n B v :=
  ⟨fun ⟨h, D, h1, h2⟩ => ⟨h, D, h1, (hs.iff _).1 h2⟩, fun ⟨h, D, h1, h2⟩ => ⟨h, D, h1, (hs.iff _).2 h2⟩⟩
theorem chk_of {n : Nat} {C : List (List Int)} {ps : Nat → Nat} (hn : n ≤ 4) (h : HForm n C ps) (hl : C.length ≤ 4) (hb : ∀ x ∈ C, RowLe 629856 x ∧ x.length = n) : latE n C = 0 ∧ chkE n C = 0 := by
  have hl0 : latE n C = 0 := by
    unfold latE
    rw [if_neg (by omega), if_neg (by omega)]
    exact allE_of fun r hr => ⟨okRow_of (by have := (hb r hr).2; omega) ((hb r hr).1.mono (by decide)), (hb r hr).2⟩
  exact ⟨hl0, by unfold chkE; rw [if_pos hl0, if_pos (hform_herm h)]⟩
theorem form_self {n : Nat} {C : List (List Int)} {ps : Nat → Nat} (hn : n ≤ 4) (h : HForm n C ps) (hl : C.length ≤ 4) (hb : ∀ x ∈ C, RowLe 629856 x ∧ x.length = n) : ∃ F, formO n F n C = some C := by
  obtain ⟨F', R', ps', g1, g2, g3, -, g5⟩ := form_all n 4 6 C (fun x hx => (hb x hx).2) (fun x hx => (hb x hx).1.mono (by decide)) (.inl hl) (by decide) (by decide)
  exact ⟨F', by rw [g1, hform_unique g3 h g5.symm]⟩
/-- The rows of a plan: their form, its annihilator, its saturation, as FromCommas and FromMapping need them; and those of the results again. -/
theorem plan_temp {n : Nat} {m : List (List Int)} (hn1 : 1 ≤ n) (hn : n ≤ 4) (hm : m.length ≤ 4) (hw : ∀ x ∈ m, x.length = n) (h9 : ∀ x ∈ m, RowLe 9 x) (P : List Int) (hP : primesE P = 0) (hPl : P.length = n) :
    ∃ F R A S, FromD n F m R A S ∧ FromD n F S S A S ∧ FromD n F A A S A ∧ TempF n F P m S A false ∧ TempF n F P m A S true := by
  obtain ⟨F1, R, ps, f1, f2, f3, f4, f5, f6, -⟩ := plan_form n m (by omega) hm hw h9
  obtain ⟨F2, A, S, d⟩ := plan_dual hn hw h9 f2 f5
  obtain ⟨qa, hA⟩ := d.fA
  obtain ⟨qs, hS⟩ := d.fS
  have lA := hform_len hA; have lS := hform_len hS
  have cA := chk_of hn hA (by omega) d.bA
  have cS := chk_of hn hS (by omega) d.bS
  obtain ⟨F3, hFS⟩ := form_self hn hS (by omega) d.bS
  obtain ⟨F4, hFA⟩ := form_self hn hA (by omega) d.bA
  have hWm : Wid n m := fun i hi => hw _ (rowE_mem hi)
  have hlat : latE n m = 0 := by
    unfold latE
    rw [if_neg (by omega), if_neg (by omega)]
    exact allE_of fun r hr => ⟨okRow_of (by have := hw r hr; omega) ((h9 r hr).mono (by decide)), hw r hr⟩
  have kR := kerS_mono (F' := F1 + F2 + F3 + F4) (by omega) d.kR
  have kA := kerS_mono (F' := F1 + F2 + F3 + F4) (by omega) d.kA
  have kS := kerS_mono (F' := F1 + F2 + F3 + F4) (by omega) d.kS
  have gA : ∀ x ∈ A, RowLe 1000000000 x ∧ x.length = n := fun x hx => ⟨(d.bA x hx).1.mono (by decide), (d.bA x hx).2⟩
  have gS : ∀ x ∈ S, RowLe 1000000000 x ∧ x.length = n := fun x hx => ⟨(d.bS x hx).1.mono (by decide), (d.bS x hx).2⟩
  have gR : ∀ x ∈ R, RowLe 1000000000 x ∧ x.length = n := fun x hx => ⟨(f4 x hx).1.mono (by decide), (f4 x hx).2⟩
  have hn6 : n ≤ 6 := by omega
  have rS : RightT n (F1 + F2 + F3 + F4) P S A := ⟨hn1, hn6, hP, hPl, cS.2, kS, kA, by omega, by omega, gS, gA⟩
  have rA : RightT n (F1 + F2 + F3 + F4) P A S := ⟨hn1, hn6, hP, hPl, cA.2, kA, kS, by omega, by omega, gA, gS⟩
  have sS : ∀ v, Sp n (RowsFrom 0 S) v ↔ Sat n m v := fun v => (d.spS v).trans (sat_iff f5 v).symm
  have sA : ∀ v, Sp n (RowsFrom 0 A) v ↔ Ann n m v := fun v => (d.spA v).trans (ann_iff hWm f2.1 f5 v).symm
  refine ⟨F1 + F2 + F3 + F4, R, A, S, ⟨hn1, hn6, hlat, formO_mono (by omega) f1, ⟨by omega, gR⟩, f6, kR, kA, by omega, by omega, gA, gS⟩,
    ⟨hn1, hn6, cS.1, formO_mono (by omega) hFS, ⟨by omega, gS⟩, cS.2, kS, kA, by omega, by omega, gA, gS⟩,
    ⟨hn1, hn6, cA.1, formO_mono (by omega) hFA, ⟨by omega, gA⟩, cA.2, kA, kS, by omega, by omega, gS, gA⟩,
    ⟨rS, rA, ⟨qs, hS⟩, ⟨qa, hA⟩, sS, sA, d.rS, by omega, by omega, d.bS, d.bA⟩, ⟨rA, rS, ⟨qa, hA⟩, ⟨qs, hS⟩, sA, sS, by have := d.rS; omega, by omega, by omega, d.bA, d.bS⟩⟩

end Go.Proofs.YtjihfabhgcfjnaaGreatDoor
/- The text builder of package strings, as this program holds it: WriteString, WriteByte, String. -/
namespace Go.Proofs.YtjihfabhgcfjnaaGreatDoor
set_option linter.unusedVariables false
set_option linter.unusedSimpArgs false
open Go.RowKit

end Go.Proofs.YtjihfabhgcfjnaaGreatDoor
/- row.Text and prime.Text, as contracts. -/
namespace Go.Proofs.YtjihfabhgcfjnaaGreatDoor
set_option linter.unusedVariables false
set_option linter.unusedSimpArgs false
open Go.RowKit

def strR (_ : World) (u : List Value) (s : ByteArray) : Prop := u = [.string s]
theorem strR.mono : Mono strR := fun _ _ _ _ _ h => h
end Go.Proofs.YtjihfabhgcfjnaaGreatDoor
/- Contract of package temperament at a right temperament: Text. Printed by gen/tmpv.py. -/
namespace Go.Proofs.YtjihfabhgcfjnaaGreatDoor
set_option linter.unusedVariables false
set_option linter.unusedSimpArgs false
open Go.RowKit

end Go.Proofs.YtjihfabhgcfjnaaGreatDoor
/- Contracts of the reference's EqualRows and Equal (chapter 06). -/
namespace Go.Proofs.YtjihfabhgcfjnaaGreatDoor
set_option linter.unusedVariables false
set_option linter.unusedSimpArgs false
open Go.RowKit

end Go.Proofs.YtjihfabhgcfjnaaGreatDoor
/- Law 18: same, meantone, Fits, known. Printed by gen/tmpn.py. -/
namespace Go.Proofs.YtjihfabhgcfjnaaGreatDoor
set_option linter.unusedVariables false
set_option linter.unusedSimpArgs false
open Go.RowKit

set_option maxRecDepth 100000 in
theorem fits18_any (c : Int) (vals : Bool) (xss : List (List Int)) (v : Value) (w : World) (h : Fours w v xss) :
    Calls Tryz.prog 22 #[.agg #[.int .u8 c, v, .bool vals]] w fun e w' => e = .returned (.bool (decide (xss.length ≤ 3))) ∧ Ext w w' := by
  obtain ⟨a, cp, rfl, hx1, hx2, -⟩ := ListAt.open h
  clear h
  obtain ⟨n, hn⟩ : ∃ n, xss.length = n := ⟨_, rfl⟩
  rw [hn] at hx1 ⊢
  unfold maxLen at hx2
  clear hn
  go_enter Tryz.func22, Tryz.ntmps22
  obtain ⟨W1, hW1⟩ : ∃ W1, w.alloc (.cells #[.int .u8 c, .slice a n cp, .bool vals] 73) = W1 := ⟨_, rfl⟩
  have hb0 : W1.heap[w.heap.size]? = some (.cells #[.int .u8 c, .slice a n cp, .bool vals] 73 (0, 0)) := by rw [← hW1]; exact block_new _ _ _
  have HE1 : Hid (Ext w W1) := by unfold Hid; rw [← hW1]; exact Ext.alloc _ _
  have p1 := block_cell hb0 1
  simp only [List.getElem?_toArray, List.getElem?_cons_zero, List.getElem?_cons_succ] at p1
  clear hb0
  by_cases h3 : n ≤ 3
  · have h3i : (n : Int) ≤ 3 := by omega
    go_wp2_with fail
    go_ret
    exact ⟨by simp [h3], HE1.out⟩
  · have h3i : ¬ (n : Int) ≤ 3 := by omega
    go_wp2_with fail
    go_ret
    exact ⟨by simp [h3], HE1.out⟩
end Go.Proofs.YtjihfabhgcfjnaaGreatDoor
/- Law 18: known. Printed by gen/tmpo.py. -/
namespace Go.Proofs.YtjihfabhgcfjnaaGreatDoor
set_option linter.unusedVariables false
set_option linter.unusedSimpArgs false
open Go.RowKit

end Go.Proofs.YtjihfabhgcfjnaaGreatDoor
/- Law 18, plain: the temperament of a plan; what its functions answer. -/
namespace Go.Proofs.YtjihfabhgcfjnaaGreatDoor
set_option linter.unusedVariables false
set_option linter.unusedSimpArgs false
open Go.RowKit

theorem sp_row {n : Nat} {C : List (List Int)} {x : List Int} (hx : x ∈ C) : Sp n (RowsFrom 0 C) x := by
  obtain ⟨i, hi, rfl⟩ := mem_rowE hx
  exact .mem ⟨i, Nat.zero_le _, hi, rfl⟩
/-- A plan's box. -/
theorem p18_block {w : World} {B : Nat} {x y z : Value} (h : w.heap[B]? = some (.cells #[x, y, z] 73 (0, 0))) : w.cell? ⟨B, 0, none⟩ = some x ∧ w.cell? ⟨B, 1, none⟩ = some y ∧ w.cell? ⟨B, 2, none⟩ = some z := by
  have h0 := block_cell h 0; have h1 := block_cell h 1; have h2 := block_cell h 2
  simp only [List.getElem?_toArray, List.getElem?_cons_zero, List.getElem?_cons_succ] at h0 h1 h2
  exact ⟨h0, h1, h2⟩
end Go.Proofs.YtjihfabhgcfjnaaGreatDoor
