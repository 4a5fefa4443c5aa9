/- Merged: TmpO. -/
import Derived.Test.YtehknemdfbkimaaGreatDoorSBC
/- Law 18: known. Printed by gen/tmpo.py. -/
namespace Go.Proofs.YtehknemdfbkimaaGreatDoor
set_option linter.unusedVariables false
set_option linter.unusedSimpArgs false
open Go.RowKit

set_option maxRecDepth 100000 in
set_option maxHeartbeats 16000000 in
theorem known18_any (w : World) (hlib : LibT w) (hp : 0 < w.heap.size) :
    Calls Tryz.prog 37 #[] w fun e w' => e = .returned (.bool true) ∧ Ext w w' := by
  have HF1 := Lib.hid (fun W (hW : Ext w W) vp v (hv : Ints W vp mP) (h : Rows2 W v [[-4, 4, -1]]) => fromCommas_any 3 20 mP [[-4, 4, -1]] mC mM mC vp v W hv h mPr rfl mD1 (hlib.ext hW) (Nat.lt_of_lt_of_le hp hW.size))
  have HF2 := Lib.hid (fun W (hW : Ext w W) vp v (hv : Ints W vp mP) (h : Rows2 W v [[12, 19, 28], [19, 30, 44]]) => fromMapping_any 3 20 mP [[12, 19, 28], [19, 30, 44]] mM mC mM vp v W hv h mPr rfl mD2 (hlib.ext hW) (Nat.lt_of_lt_of_le hp hW.size))
  have HF3 := Lib.hid (fun W (hW : Ext w W) vp v (hv : Ints W vp mP) (h : Rows2 W v [[-8, 8, -2]]) => fromCommas_any 3 20 mP [[-8, 8, -2]] [[8, -8, 2]] mM mC vp v W hv h mPr rfl mD3 (hlib.ext hW) (Nat.lt_of_lt_of_le hp hW.size))
  have HTE : Hid (∀ W (hW : Ext w W) v vx (hv : TempV W v mP mC mM) (hx : Ints W vx [-2, 0, 1]), Calls Tryz.prog 60 #[v, vx] W fun e w' => ∃ a c, e = .returned (.tuple #[.slice a 2 c, .int .i64 0]) ∧ Ints w' (.slice a 2 c) [-6, 4] ∧ Ext W w') := fun W hW v vx hv hx => by
    refine (temperR_any 3 20 mP mC mM [-2, 0, 1] v vx W hv hx mR mTem.2.2 (hlib.ext hW) (Nat.lt_of_lt_of_le hp hW.size)).mono fun e w' h => ?_
    rw [mTem.1] at h
    obtain ⟨h1, h2⟩ := h
    rw [if_pos mTem.2.1] at h1
    obtain ⟨u, rfl, hu⟩ := h1
    obtain ⟨a, c, rfl, -⟩ := hu.open
    exact ⟨a, c, rfl, hu, h2⟩
  have HTX : Hid (∀ W (hW : Ext w W) v (hv : TempV W v mP mC mM), Calls Tryz.prog 40 #[v] W fun e w' => e = .returned (.tuple #[.string ⟨#[50, 46, 51, 46, 53, 44, 32, 99, 111, 109, 109, 97, 115, 32, 91, 52, 32, 45, 52, 32, 49, 62, 44, 32, 109, 97, 112, 112, 105, 110, 103, 32, 60, 49, 32, 48, 32, 45, 52, 93, 32, 60, 48, 32, 49, 32, 52, 93]⟩, .int .i64 0]) ∧ Ext W w') := fun W hW v hv => by
    have := ttext_any 3 20 mP mC mM v W hv mR (by decide) (hlib.ext hW) (Nat.lt_of_lt_of_le hp hW.size)
    rw [mText] at this
    exact this
  have HSM : Hid (∀ W v u, TempV W v mP mC mM → TempV W u mP mC mM → Calls Tryz.prog 58 #[v, u] W fun e w' => e = .returned (.bool true) ∧ Ext W w') := fun W v u h k => by
    have := same18_any mP mP mC mC mM mM v u W h k
    simpa using this
  have HER : Hid (∀ W v u, Ints W v [-6, 4] → Ints W u [-6, 4] → Calls Tryz.prog 63 #[v, u] W fun e w' => e = .returned (.bool true) ∧ Ext W w') := fun W v u h k => by
    have := refEqRows_any [-6, 4] [-6, 4] v u W h k
    simpa using this
  clear hlib hp
  go_enter Tryz.func37, Tryz.ntmps37
  obtain ⟨A1, hA1, hX1, -, hI1⟩ := ints_new w (· < w.heap.size) (fun b h => h) [2, 3, 5] (by decide) (by decide) #[.int .i64 2, .int .i64 3, .int .i64 5] rfl 3 rfl
  have HI1 := Lib.hid hI1.now; have HE1 := Lib.hid hX1
  clear hI1 hX1
  obtain ⟨R21, hR21, hX21, -, hI21⟩ := ints_new A1 (· < A1.heap.size) (fun b h => Nat.lt_of_lt_of_le h (Ext.refl A1).size) [-4, 4, -1] (by decide) (by decide) #[.int .i64 (-4), .int .i64 4, .int .i64 (-1)] rfl 3 rfl
  obtain ⟨R29, hR29, hX29, -, hI29⟩ := rows1_new R21 (· < A1.heap.size) (fun b h => Nat.lt_of_lt_of_le h hX21.size) (.slice (some ⟨A1.heap.size, 0, none⟩) 3 3) [-4, 4, -1] hI21
  have HXR2 := Lib.hid (hX21.trans hX29)
  have HMR2 := Lib.hid hI29.now
  clear hI21 hX21 hI29 hX29
  have HER2 := Lib.hid (HE1.out.trans HXR2.out)
  have HPR2 := Lib.hid (HI1.out.ext HXR2.out)
  go_wp2_with fail
  refine (HF1.out _ HER2.out _ _ HPR2.out HMR2.out).mono ?_
  rintro e w2 ⟨u, rfl, hS, hE⟩
  obtain ⟨p2, c2, m2, rfl, hvp, hvc, hvm⟩ := hS.now
  have HXC2 := Lib.hid (HXR2.out.trans hE)
  have HEC2 := Lib.hid (HER2.out.trans hE)
  have HTV2 : Hid (TempV w2 (.agg #[p2, c2, m2]) mP mC mM) := ⟨_, _, _, rfl, hvp, hvc, hvm⟩
  obtain ⟨ap2, kp2, rfl, -⟩ := hvp.open
  obtain ⟨ac2, kc2, rfl, -⟩ := inCell.open hvc
  obtain ⟨am2, km2, rfl, -⟩ := inCell.open hvm
  clear hS hE hvp hvc hvm HER2 HPR2 HMR2 HXR2 hR21 hR29
  obtain ⟨V2, hV2, hXV, hsV, hbV⟩ := tp_new w2 (.slice none 0 0) (.slice none 0 0) (.slice none 0 0)
  obtain ⟨r0, r1, r2, rf⟩ := tp_block hbV
  have f0 := rf 0; have f1 := rf 1; have f2 := rf 2
  have HB2 := Lib.hid (tp_store hbV (.slice ap2 3 kp2) (.slice ac2 1 kc2) (.slice am2 2 km2))
  have HXU := Lib.hid (ext_tp hXV (Nat.le_refl _) (.slice ap2 3 kp2) (.slice ac2 1 kc2) (.slice am2 2 km2))
  clear hXV hsV hbV rf
  obtain ⟨U2, hU2⟩ : ∃ U, ((V2.setCell ⟨w2.heap.size, 0, none⟩ (.slice ap2 3 kp2)).setCell ⟨w2.heap.size, 1, none⟩ (.slice ac2 1 kc2)).setCell ⟨w2.heap.size, 2, none⟩ (.slice am2 2 km2) = U := ⟨_, rfl⟩
  rw [hU2] at HB2 HXU
  have HXC2 := Lib.hid (HXC2.out.trans HXU.out)
  have HE12 := Lib.hid (HEC2.out.trans HXU.out)
  have HTV2 := Lib.hid (HTV2.out.ext HXU.out)
  clear HXU HEC2
  have HI1 := Lib.hid (HI1.out.ext HXC2.out)
  obtain ⟨R41, hR41, hX41, -, hI41⟩ := ints_new U2 (· < U2.heap.size) (fun b h => Nat.lt_of_lt_of_le h (Ext.refl U2).size) [12, 19, 28] (by decide) (by decide) #[.int .i64 12, .int .i64 19, .int .i64 28] rfl 3 rfl
  obtain ⟨R42, hR42, hX42, -, hI42⟩ := ints_new R41 (· < U2.heap.size) (fun b h => Nat.lt_of_lt_of_le h (hX41).size) [19, 30, 44] (by decide) (by decide) #[.int .i64 19, .int .i64 30, .int .i64 44] rfl 3 rfl
  obtain ⟨R49, hR49, hX49, -, hI49⟩ := rows2_new R42 (· < U2.heap.size) (fun b h => Nat.lt_of_lt_of_le h (hX41.trans hX42).size) (.slice (some ⟨U2.heap.size, 0, none⟩) 3 3) (.slice (some ⟨R41.heap.size, 0, none⟩) 3 3) [12, 19, 28] [19, 30, 44] (hI41.ext hX42) hI42
  have HXR4 := Lib.hid ((hX41.trans hX42).trans hX49)
  have HMR4 := Lib.hid hI49.now
  clear hI41 hX41 hI42 hX42 hI49 hX49
  have HER4 := Lib.hid (HE12.out.trans HXR4.out)
  have HPR4 := Lib.hid (HI1.out.ext HXR4.out)
  go_wp2_with fail
  clear hU2 hV2
  refine (HF2.out _ HER4.out _ _ HPR4.out HMR4.out).mono ?_
  rintro e w4 ⟨u, rfl, hS, hE⟩
  obtain ⟨p4, c4, m4, rfl, hvp, hvc, hvm⟩ := hS.now
  have HXC4 := Lib.hid (HXR4.out.trans hE)
  have HEC4 := Lib.hid (HER4.out.trans hE)
  have HTV4 : Hid (TempV w4 (.agg #[p4, c4, m4]) mP mC mM) := ⟨_, _, _, rfl, hvp, hvc, hvm⟩
  obtain ⟨ap4, kp4, rfl, -⟩ := hvp.open
  obtain ⟨ac4, kc4, rfl, -⟩ := inCell.open hvc
  obtain ⟨am4, km4, rfl, -⟩ := inCell.open hvm
  clear hS hE hvp hvc hvm HER4 HPR4 HMR4 HXR4 hR41 hR42 hR49
  clear r0 r1 r2 f0 f1 f2
  obtain ⟨V4, hV4, hXV, hsV, hbV⟩ := tp_new w4 (.slice none 0 0) (.slice none 0 0) (.slice none 0 0)
  obtain ⟨r0, r1, r2, rf⟩ := tp_block hbV
  have f0 := rf 0; have f1 := rf 1; have f2 := rf 2
  have HB4 := Lib.hid (tp_store hbV (.slice ap4 3 kp4) (.slice ac4 1 kc4) (.slice am4 2 km4))
  have HXU := Lib.hid (ext_tp hXV (Nat.le_refl _) (.slice ap4 3 kp4) (.slice ac4 1 kc4) (.slice am4 2 km4))
  clear hXV hsV hbV rf
  obtain ⟨U4, hU4⟩ : ∃ U, ((V4.setCell ⟨w4.heap.size, 0, none⟩ (.slice ap4 3 kp4)).setCell ⟨w4.heap.size, 1, none⟩ (.slice ac4 1 kc4)).setCell ⟨w4.heap.size, 2, none⟩ (.slice am4 2 km4) = U := ⟨_, rfl⟩
  rw [hU4] at HB4 HXU
  have HXC4 := Lib.hid (HXC4.out.trans HXU.out)
  have HE14 := Lib.hid (HEC4.out.trans HXU.out)
  have HTV4 := Lib.hid (HTV4.out.ext HXU.out)
  clear HXU HEC4
  have HB2 := Lib.hid (block_ext HB2.out HXC4.out); have HTV2 := Lib.hid (HTV2.out.ext HXC4.out)
  have HI1 := Lib.hid (HI1.out.ext HXC4.out)
  obtain ⟨R61, hR61, hX61, -, hI61⟩ := ints_new U4 (· < U4.heap.size) (fun b h => Nat.lt_of_lt_of_le h (Ext.refl U4).size) [-8, 8, -2] (by decide) (by decide) #[.int .i64 (-8), .int .i64 8, .int .i64 (-2)] rfl 3 rfl
  obtain ⟨R69, hR69, hX69, -, hI69⟩ := rows1_new R61 (· < U4.heap.size) (fun b h => Nat.lt_of_lt_of_le h hX61.size) (.slice (some ⟨U4.heap.size, 0, none⟩) 3 3) [-8, 8, -2] hI61
  have HXR6 := Lib.hid (hX61.trans hX69)
  have HMR6 := Lib.hid hI69.now
  clear hI61 hX61 hI69 hX69
  have HER6 := Lib.hid (HE14.out.trans HXR6.out)
  have HPR6 := Lib.hid (HI1.out.ext HXR6.out)
  go_wp2_with fail
  clear hU4 hV4
  refine (HF3.out _ HER6.out _ _ HPR6.out HMR6.out).mono ?_
  rintro e w6 ⟨u, rfl, hS, hE⟩
  obtain ⟨p6, c6, m6, rfl, hvp, hvc, hvm⟩ := hS.now
  have HXC6 := Lib.hid (HXR6.out.trans hE)
  have HEC6 := Lib.hid (HER6.out.trans hE)
  have HTV6 : Hid (TempV w6 (.agg #[p6, c6, m6]) mP mC mM) := ⟨_, _, _, rfl, hvp, hvc, hvm⟩
  obtain ⟨ap6, kp6, rfl, -⟩ := hvp.open
  obtain ⟨ac6, kc6, rfl, -⟩ := inCell.open hvc
  obtain ⟨am6, km6, rfl, -⟩ := inCell.open hvm
  clear hS hE hvp hvc hvm HER6 HPR6 HMR6 HXR6 hR61 hR69
  clear r0 r1 r2 f0 f1 f2
  obtain ⟨V6, hV6, hXV, hsV, hbV⟩ := tp_new w6 (.slice none 0 0) (.slice none 0 0) (.slice none 0 0)
  obtain ⟨r0, r1, r2, rf⟩ := tp_block hbV
  have f0 := rf 0; have f1 := rf 1; have f2 := rf 2
  have HB6 := Lib.hid (tp_store hbV (.slice ap6 3 kp6) (.slice ac6 1 kc6) (.slice am6 2 km6))
  have HXU := Lib.hid (ext_tp hXV (Nat.le_refl _) (.slice ap6 3 kp6) (.slice ac6 1 kc6) (.slice am6 2 km6))
  clear hXV hsV hbV rf
  obtain ⟨U6, hU6⟩ : ∃ U, ((V6.setCell ⟨w6.heap.size, 0, none⟩ (.slice ap6 3 kp6)).setCell ⟨w6.heap.size, 1, none⟩ (.slice ac6 1 kc6)).setCell ⟨w6.heap.size, 2, none⟩ (.slice am6 2 km6) = U := ⟨_, rfl⟩
  rw [hU6] at HB6 HXU
  have HXC6 := Lib.hid (HXC6.out.trans HXU.out)
  have HE16 := Lib.hid (HEC6.out.trans HXU.out)
  have HTV6 := Lib.hid (HTV6.out.ext HXU.out)
  clear HXU HEC6
  have HB2 := Lib.hid (block_ext HB2.out HXC6.out); have HTV2 := Lib.hid (HTV2.out.ext HXC6.out)
  have HB4 := Lib.hid (block_ext HB4.out HXC6.out); have HTV4 := Lib.hid (HTV4.out.ext HXC6.out)
  have HI1 := Lib.hid (HI1.out.ext HXC6.out)
  obtain ⟨s0, s1, s2, -⟩ := tp_block HB2.out
  obtain ⟨X7, hX7, hXX, -, hI7⟩ := ints_new U6 (· < U6.heap.size) (fun b h => h) [-2, 0, 1] (by decide) (by decide) #[.int .i64 (-2), .int .i64 0, .int .i64 1] rfl 3 rfl
  have HX7 := Lib.hid hXX; have HI7 := Lib.hid hI7.now; have HE7 := Lib.hid (HE16.out.trans hXX)
  clear hXX hI7
  go_wp2_with fail
  clear hU6 hV6 r0 r1 r2 f0 f1 f2 s0 s1 s2
  refine (HTE.out _ HE7.out _ _ (HTV2.out.ext HX7.out) HI7.out).mono ?_
  rintro e w7 ⟨a7, c7, rfl, hi7, hE⟩
  have HI7 := Lib.hid hi7
  have HX7 := Lib.hid (HX7.out.trans hE)
  have HE7 := Lib.hid (HE7.out.trans hE)
  have HB2 := Lib.hid (block_ext HB2.out HX7.out); have HTV2 := Lib.hid (HTV2.out.ext HX7.out)
  have HB4 := Lib.hid (block_ext HB4.out HX7.out); have HTV4 := Lib.hid (HTV4.out.ext HX7.out)
  have HB6 := Lib.hid (block_ext HB6.out HX7.out); have HTV6 := Lib.hid (HTV6.out.ext HX7.out)
  clear hi7 hE HX7 hX7
  obtain ⟨s0, s1, s2, -⟩ := tp_block HB2.out
  go_wp2_with fail
  clear s0 s1 s2
  refine (HTX.out _ HE7.out _ HTV2.out).mono ?_
  rintro e w8 ⟨rfl, hE⟩
  have HI7 := Lib.hid (HI7.out.ext hE)
  have HE8 := Lib.hid (HE7.out.trans hE)
  have HB2 := Lib.hid (block_ext HB2.out hE); have HTV2 := Lib.hid (HTV2.out.ext hE)
  have HB4 := Lib.hid (block_ext HB4.out hE); have HTV4 := Lib.hid (HTV4.out.ext hE)
  have HB6 := Lib.hid (block_ext HB6.out hE); have HTV6 := Lib.hid (HTV6.out.ext hE)
  clear hE
  obtain ⟨s2p, s2c, s2m, -⟩ := tp_block HB2.out
  obtain ⟨s4p, s4c, s4m, -⟩ := tp_block HB4.out
  obtain ⟨s6p, s6c, s6m, -⟩ := tp_block HB6.out
  go_upto_region 7 with fail
  obtain ⟨b2, hb2⟩ : ∃ b, w2.heap.size = b := ⟨_, rfl⟩
  obtain ⟨b4, hb4⟩ : ∃ b, w4.heap.size = b := ⟨_, rfl⟩
  obtain ⟨b6, hb6⟩ : ∃ b, w6.heap.size = b := ⟨_, rfl⟩
  rw [hb2] at s2p s2c s2m
  rw [hb4] at s4p s4c s4m
  rw [hb6] at s6p s6c s6m
  rw [hb2, hb4, hb6]
  clear hb2 hb4 hb6 HB2 HB4 HB6
  refine region_anyEUN (fun w' => w'.cell? ⟨b2, 0, none⟩ = some (.slice ap2 3 kp2) ∧ w'.cell? ⟨b2, 1, none⟩ = some (.slice ac2 1 kc2) ∧ w'.cell? ⟨b2, 2, none⟩ = some (.slice am2 2 km2) ∧ w'.cell? ⟨b4, 0, none⟩ = some (.slice ap4 3 kp4) ∧ w'.cell? ⟨b4, 1, none⟩ = some (.slice ac4 1 kc4) ∧ w'.cell? ⟨b4, 2, none⟩ = some (.slice am4 2 km4) ∧ w'.cell? ⟨b6, 0, none⟩ = some (.slice ap6 3 kp6) ∧ w'.cell? ⟨b6, 1, none⟩ = some (.slice ac6 1 kc6) ∧ w'.cell? ⟨b6, 2, none⟩ = some (.slice am6 2 km6) ∧ Hid (Ext w8 w')) 43 43 (by kernel_rfl) (by kernel_rfl) ⟨(Ext.drew w8).cell s2p, (Ext.drew w8).cell s2c, (Ext.drew w8).cell s2m, (Ext.drew w8).cell s4p, (Ext.drew w8).cell s4c, (Ext.drew w8).cell s4m, (Ext.drew w8).cell s6p, (Ext.drew w8).cell s6c, (Ext.drew w8).cell s6m, Ext.drew w8⟩ (fun ops hO hHeld => ?_)
  generalize w8.drew = wd at hHeld ⊢
  have hi := getopN hO 0 (by decide)
  conv at hi => rhs; arg 1; whnf
  refine anyE_takeWUN hO (v := ?_) 0 hi rfl (by kernel_rfl) (by kernel_rfl) (by kernel_rfl) (by decide) (fun _ _ _ h => h) (Or.inl ⟨by rfl, ?_⟩) (by assumption) ?_
  rotate_left
  · ((intro w'); (try go_simp); (try with_reducible rfl))
  clear hi
  (try simp only [Act.put, List.setIfInBounds_toArray, List.set_cons_zero, List.set_cons_succ])
  have hi := getopN hO 1 (by decide)
  conv at hi => rhs; arg 1; whnf
  refine anyE_takeWUN hO (v := ?_) 1 hi rfl (by kernel_rfl) (by kernel_rfl) (by kernel_rfl) (by decide) (fun _ _ _ h => h) (Or.inl ⟨by rfl, ?_⟩) (by assumption) ?_
  rotate_left
  · ((intro w'); (try go_simp); (try with_reducible rfl))
  clear hi
  (try simp only [Act.put, List.setIfInBounds_toArray, List.set_cons_zero, List.set_cons_succ])
  have hi := getopN hO 2 (by decide)
  conv at hi => rhs; arg 1; whnf
  refine anyE_takeWUN hO (v := ?_) 2 hi rfl (by kernel_rfl) (by kernel_rfl) (by kernel_rfl) (by decide) (fun _ _ _ h => h) (Or.inl ⟨by rfl, ?_⟩) (by assumption) ?_
  rotate_left
  · ((intro w'); (try go_simp); (try with_reducible rfl))
  clear hi
  (try simp only [Act.put, List.setIfInBounds_toArray, List.set_cons_zero, List.set_cons_succ])
  have hi := getopN hO 3 (by decide)
  conv at hi => rhs; arg 1; whnf
  refine anyE_takeUN hO (v := ?_) 3 hi rfl (by kernel_rfl) (by kernel_rfl) (by kernel_rfl) (by kernel_rfl) (fun _ _ _ h => h) (Or.inl ⟨by rfl, ?_⟩) (by assumption) ?_
  rotate_left
  · ((intro w' hSw); (try dsimp only at hSw); (try go_simp); (try with_reducible rfl))
  clear hi
  (try simp only [Act.put, List.setIfInBounds_toArray, List.set_cons_zero, List.set_cons_succ])
  have hi := getopN hO 4 (by decide)
  conv at hi => rhs; arg 1; whnf
  refine anyE_stepUN hO 4 (by kernel_rfl) hi rfl (fun K hK => ?_)
  go_simp
  (go_at_call 68; refine (meantone_any _).mono ?_)
  rintro e wm ⟨um, rfl, hTM, hEz⟩
  obtain ⟨pm, cm, mm, rfl, hvp, hvc, hvm⟩ := hTM
  have HTM : Hid (TempV wm (.agg #[pm, cm, mm]) mP mC mM) := ⟨_, _, _, rfl, hvp, hvc, hvm⟩
  clear hvp hvc hvm
  go_wp2_with fail
  refine hK.out _ _ ⟨(hEz).cell hHeld.1, (hEz).cell hHeld.2.1, (hEz).cell hHeld.2.2.1, (hEz).cell hHeld.2.2.2.1, (hEz).cell hHeld.2.2.2.2.1, (hEz).cell hHeld.2.2.2.2.2.1, (hEz).cell hHeld.2.2.2.2.2.2.1, (hEz).cell hHeld.2.2.2.2.2.2.2.1, (hEz).cell hHeld.2.2.2.2.2.2.2.2.1, Ext.trans hHeld.2.2.2.2.2.2.2.2.2.out (hEz)⟩ (fun hHeld => ?_)
  clear hK K hi
  (try simp only [Act.put, List.setIfInBounds_toArray, List.set_cons_zero, List.set_cons_succ])
  have hi := getopN hO 5 (by decide)
  conv at hi => rhs; arg 1; whnf
  refine anyE_stepUN hO 5 (by kernel_rfl) hi rfl (fun K hK => ?_)
  go_simp
  (go_at_call 58; refine (HSM.out _ _ _ (HTV2.out.ext (hHeld.2.2.2.2.2.2.2.2.2.out)) HTM.out).mono ?_)
  rintro e w51 ⟨rfl, hEz⟩
  go_wp2_with fail
  refine hK.out _ _ ⟨(hEz).cell hHeld.1, (hEz).cell hHeld.2.1, (hEz).cell hHeld.2.2.1, (hEz).cell hHeld.2.2.2.1, (hEz).cell hHeld.2.2.2.2.1, (hEz).cell hHeld.2.2.2.2.2.1, (hEz).cell hHeld.2.2.2.2.2.2.1, (hEz).cell hHeld.2.2.2.2.2.2.2.1, (hEz).cell hHeld.2.2.2.2.2.2.2.2.1, Ext.trans hHeld.2.2.2.2.2.2.2.2.2.out (hEz)⟩ (fun hHeld => ?_)
  clear hK K hi
  (try simp only [Act.put, List.setIfInBounds_toArray, List.set_cons_zero, List.set_cons_succ])
  have hi := getopN hO 6 (by decide)
  conv at hi => rhs; arg 1; whnf
  refine anyE_takeWUN hO (v := ?_) 6 hi rfl (by kernel_rfl) (by kernel_rfl) (by kernel_rfl) (by decide) (fun _ _ _ h => h) (Or.inl ⟨by rfl, ?_⟩) (by assumption) ?_
  rotate_left
  · ((intro w'); (try go_simp); (try with_reducible rfl))
  clear hi
  (try simp only [Act.put, List.setIfInBounds_toArray, List.set_cons_zero, List.set_cons_succ])
  have hi := getopN hO 7 (by decide)
  conv at hi => rhs; arg 1; whnf
  refine anyE_takeWUN hO (v := ?_) 7 hi rfl (by kernel_rfl) (by kernel_rfl) (by kernel_rfl) (by decide) (fun _ _ _ h => h) (Or.inl ⟨by rfl, ?_⟩) (by assumption) ?_
  rotate_left
  · ((intro w'); (try go_simp); (try with_reducible rfl))
  clear hi
  (try simp only [Act.put, List.setIfInBounds_toArray, List.set_cons_zero, List.set_cons_succ])
  have hi := getopN hO 8 (by decide)
  conv at hi => rhs; arg 1; whnf
  refine anyE_takeWUN hO (v := ?_) 8 hi rfl (by kernel_rfl) (by kernel_rfl) (by kernel_rfl) (by decide) (fun _ _ _ h => h) (Or.inl ⟨by rfl, ?_⟩) (by assumption) ?_
  rotate_left
  · ((intro w'); (try go_simp); (try with_reducible rfl))
  clear hi
  (try simp only [Act.put, List.setIfInBounds_toArray, List.set_cons_zero, List.set_cons_succ])
  have hi := getopN hO 9 (by decide)
  conv at hi => rhs; arg 1; whnf
  refine anyE_takeWUN hO (v := ?_) 9 hi rfl (by kernel_rfl) (by kernel_rfl) (by kernel_rfl) (by decide) (fun _ _ _ h => h) (Or.inl ⟨by rfl, ?_⟩) (by assumption) ?_
  rotate_left
  · ((intro w'); (try go_simp); (try with_reducible rfl))
  clear hi
  (try simp only [Act.put, List.setIfInBounds_toArray, List.set_cons_zero, List.set_cons_succ])
  have hi := getopN hO 10 (by decide)
  conv at hi => rhs; arg 1; whnf
  refine anyE_takeWUN hO (v := ?_) 10 hi rfl (by kernel_rfl) (by kernel_rfl) (by kernel_rfl) (by decide) (fun _ _ _ h => h) (Or.inl ⟨by rfl, ?_⟩) (by assumption) ?_
  rotate_left
  · ((intro w'); (try go_simp); (try with_reducible rfl))
  clear hi
  (try simp only [Act.put, List.setIfInBounds_toArray, List.set_cons_zero, List.set_cons_succ])
  have hi := getopN hO 11 (by decide)
  conv at hi => rhs; arg 1; whnf
  refine anyE_takeWUN hO (v := ?_) 11 hi rfl (by kernel_rfl) (by kernel_rfl) (by kernel_rfl) (by decide) (fun _ _ _ h => h) (Or.inl ⟨by rfl, ?_⟩) (by assumption) ?_
  rotate_left
  · ((intro w'); (try go_simp); (try with_reducible rfl))
  clear hi
  (try simp only [Act.put, List.setIfInBounds_toArray, List.set_cons_zero, List.set_cons_succ])
  have hi := getopN hO 12 (by decide)
  conv at hi => rhs; arg 1; whnf
  refine anyE_takeUN hO (v := ?_) 12 hi rfl (by kernel_rfl) (by kernel_rfl) (by kernel_rfl) (by kernel_rfl) (fun _ _ _ h => h) (Or.inl ⟨by rfl, ?_⟩) (by assumption) ?_
  rotate_left
  · ((intro w' hSw); (try dsimp only at hSw); (try go_simp); (try with_reducible rfl))
  clear hi
  (try simp only [Act.put, List.setIfInBounds_toArray, List.set_cons_zero, List.set_cons_succ])
  have hi := getopN hO 13 (by decide)
  conv at hi => rhs; arg 1; whnf
  refine anyE_takeUN hO (v := ?_) 13 hi rfl (by kernel_rfl) (by kernel_rfl) (by kernel_rfl) (by kernel_rfl) (fun _ _ _ h => h) (Or.inl ⟨by rfl, ?_⟩) (by assumption) ?_
  rotate_left
  · ((intro w' hSw); (try dsimp only at hSw); (try go_simp); (try with_reducible rfl))
  clear hi
  (try simp only [Act.put, List.setIfInBounds_toArray, List.set_cons_zero, List.set_cons_succ])
  have hi := getopN hO 14 (by decide)
  conv at hi => rhs; arg 1; whnf
  refine anyE_stepUN hO 14 (by kernel_rfl) hi rfl (fun K hK => ?_)
  go_simp
  (go_at_call 58; refine (HSM.out _ _ _ (HTV4.out.ext (hHeld.2.2.2.2.2.2.2.2.2.out)) (HTV2.out.ext (hHeld.2.2.2.2.2.2.2.2.2.out))).mono ?_)
  rintro e w60 ⟨rfl, hEz⟩
  go_wp2_with fail
  refine hK.out _ _ ⟨(hEz).cell hHeld.1, (hEz).cell hHeld.2.1, (hEz).cell hHeld.2.2.1, (hEz).cell hHeld.2.2.2.1, (hEz).cell hHeld.2.2.2.2.1, (hEz).cell hHeld.2.2.2.2.2.1, (hEz).cell hHeld.2.2.2.2.2.2.1, (hEz).cell hHeld.2.2.2.2.2.2.2.1, (hEz).cell hHeld.2.2.2.2.2.2.2.2.1, Ext.trans hHeld.2.2.2.2.2.2.2.2.2.out (hEz)⟩ (fun hHeld => ?_)
  clear hK K hi
  (try simp only [Act.put, List.setIfInBounds_toArray, List.set_cons_zero, List.set_cons_succ])
  have hi := getopN hO 15 (by decide)
  conv at hi => rhs; arg 1; whnf
  refine anyE_takeWUN hO (v := ?_) 15 hi rfl (by kernel_rfl) (by kernel_rfl) (by kernel_rfl) (by decide) (fun _ _ _ h => h) (Or.inl ⟨by rfl, ?_⟩) (by assumption) ?_
  rotate_left
  · ((intro w'); (try go_simp); (try with_reducible rfl))
  clear hi
  (try simp only [Act.put, List.setIfInBounds_toArray, List.set_cons_zero, List.set_cons_succ])
  have hi := getopN hO 16 (by decide)
  conv at hi => rhs; arg 1; whnf
  refine anyE_takeWUN hO (v := ?_) 16 hi rfl (by kernel_rfl) (by kernel_rfl) (by kernel_rfl) (by decide) (fun _ _ _ h => h) (Or.inl ⟨by rfl, ?_⟩) (by assumption) ?_
  rotate_left
  · ((intro w'); (try go_simp); (try with_reducible rfl))
  clear hi
  (try simp only [Act.put, List.setIfInBounds_toArray, List.set_cons_zero, List.set_cons_succ])
  have hi := getopN hO 17 (by decide)
  conv at hi => rhs; arg 1; whnf
  refine anyE_takeWUN hO (v := ?_) 17 hi rfl (by kernel_rfl) (by kernel_rfl) (by kernel_rfl) (by decide) (fun _ _ _ h => h) (Or.inl ⟨by rfl, ?_⟩) (by assumption) ?_
  rotate_left
  · ((intro w'); (try go_simp); (try with_reducible rfl))
  clear hi
  (try simp only [Act.put, List.setIfInBounds_toArray, List.set_cons_zero, List.set_cons_succ])
  have hi := getopN hO 18 (by decide)
  conv at hi => rhs; arg 1; whnf
  refine anyE_takeWUN hO (v := ?_) 18 hi rfl (by kernel_rfl) (by kernel_rfl) (by kernel_rfl) (by decide) (fun _ _ _ h => h) (Or.inl ⟨by rfl, ?_⟩) (by assumption) ?_
  rotate_left
  · ((intro w'); (try go_simp); (try with_reducible rfl))
  clear hi
  (try simp only [Act.put, List.setIfInBounds_toArray, List.set_cons_zero, List.set_cons_succ])
  have hi := getopN hO 19 (by decide)
  conv at hi => rhs; arg 1; whnf
  refine anyE_takeWUN hO (v := ?_) 19 hi rfl (by kernel_rfl) (by kernel_rfl) (by kernel_rfl) (by decide) (fun _ _ _ h => h) (Or.inl ⟨by rfl, ?_⟩) (by assumption) ?_
  rotate_left
  · ((intro w'); (try go_simp); (try with_reducible rfl))
  clear hi
  (try simp only [Act.put, List.setIfInBounds_toArray, List.set_cons_zero, List.set_cons_succ])
  have hi := getopN hO 20 (by decide)
  conv at hi => rhs; arg 1; whnf
  refine anyE_takeWUN hO (v := ?_) 20 hi rfl (by kernel_rfl) (by kernel_rfl) (by kernel_rfl) (by decide) (fun _ _ _ h => h) (Or.inl ⟨by rfl, ?_⟩) (by assumption) ?_
  rotate_left
  · ((intro w'); (try go_simp); (try with_reducible rfl))
  clear hi
  (try simp only [Act.put, List.setIfInBounds_toArray, List.set_cons_zero, List.set_cons_succ])
  have hi := getopN hO 21 (by decide)
  conv at hi => rhs; arg 1; whnf
  refine anyE_takeUN hO (v := ?_) 21 hi rfl (by kernel_rfl) (by kernel_rfl) (by kernel_rfl) (by kernel_rfl) (fun _ _ _ h => h) (Or.inl ⟨by rfl, ?_⟩) (by assumption) ?_
  rotate_left
  · ((intro w' hSw); (try dsimp only at hSw); (try go_simp); (try with_reducible rfl))
  clear hi
  (try simp only [Act.put, List.setIfInBounds_toArray, List.set_cons_zero, List.set_cons_succ])
  have hi := getopN hO 22 (by decide)
  conv at hi => rhs; arg 1; whnf
  refine anyE_takeUN hO (v := ?_) 22 hi rfl (by kernel_rfl) (by kernel_rfl) (by kernel_rfl) (by kernel_rfl) (fun _ _ _ h => h) (Or.inl ⟨by rfl, ?_⟩) (by assumption) ?_
  rotate_left
  · ((intro w' hSw); (try dsimp only at hSw); (try go_simp); (try with_reducible rfl))
  clear hi
  (try simp only [Act.put, List.setIfInBounds_toArray, List.set_cons_zero, List.set_cons_succ])
  have hi := getopN hO 23 (by decide)
  conv at hi => rhs; arg 1; whnf
  refine anyE_stepUN hO 23 (by kernel_rfl) hi rfl (fun K hK => ?_)
  go_simp
  (go_at_call 58; refine (HSM.out _ _ _ (HTV6.out.ext (hHeld.2.2.2.2.2.2.2.2.2.out)) (HTV2.out.ext (hHeld.2.2.2.2.2.2.2.2.2.out))).mono ?_)
  rintro e w69 ⟨rfl, hEz⟩
  go_wp2_with fail
  refine hK.out _ _ ⟨(hEz).cell hHeld.1, (hEz).cell hHeld.2.1, (hEz).cell hHeld.2.2.1, (hEz).cell hHeld.2.2.2.1, (hEz).cell hHeld.2.2.2.2.1, (hEz).cell hHeld.2.2.2.2.2.1, (hEz).cell hHeld.2.2.2.2.2.2.1, (hEz).cell hHeld.2.2.2.2.2.2.2.1, (hEz).cell hHeld.2.2.2.2.2.2.2.2.1, Ext.trans hHeld.2.2.2.2.2.2.2.2.2.out (hEz)⟩ (fun hHeld => ?_)
  clear hK K hi
  (try simp only [Act.put, List.setIfInBounds_toArray, List.set_cons_zero, List.set_cons_succ])
  have hi := getopN hO 24 (by decide)
  conv at hi => rhs; arg 1; whnf
  refine anyE_takeWUN hO (v := ?_) 24 hi rfl (by kernel_rfl) (by kernel_rfl) (by kernel_rfl) (by decide) (fun _ _ _ h => h) (Or.inl ⟨by rfl, ?_⟩) (by assumption) ?_
  rotate_left
  · ((intro w'); (try go_simp); (try with_reducible rfl))
  clear hi
  (try simp only [Act.put, List.setIfInBounds_toArray, List.set_cons_zero, List.set_cons_succ])
  have hi := getopN hO 25 (by decide)
  conv at hi => rhs; arg 1; whnf
  refine anyE_takeWUN hO (v := ?_) 25 hi rfl (by kernel_rfl) (by kernel_rfl) (by kernel_rfl) (by decide) (fun _ _ _ h => h) (Or.inl ⟨by rfl, ?_⟩) (by assumption) ?_
  rotate_left
  · ((intro w'); (try go_simp); (try with_reducible rfl))
  clear hi
  (try simp only [Act.put, List.setIfInBounds_toArray, List.set_cons_zero, List.set_cons_succ])
  have hi := getopN hO 26 (by decide)
  conv at hi => rhs; arg 1; whnf
  refine anyE_takeWUN hO (v := ?_) 26 hi rfl (by kernel_rfl) (by kernel_rfl) (by kernel_rfl) (by decide) (fun _ _ _ h => h) (Or.inl ⟨by rfl, ?_⟩) (by assumption) ?_
  rotate_left
  · ((intro w'); (try go_simp); (try with_reducible rfl))
  clear hi
  (try simp only [Act.put, List.setIfInBounds_toArray, List.set_cons_zero, List.set_cons_succ])
  have hi := getopN hO 27 (by decide)
  conv at hi => rhs; arg 1; whnf
  refine anyE_takeWUN hO (v := ?_) 27 hi rfl (by kernel_rfl) (by kernel_rfl) (by kernel_rfl) (by decide) (fun _ _ _ h => h) (Or.inl ⟨by rfl, ?_⟩) (by assumption) ?_
  rotate_left
  · ((intro w'); (try go_simp); (try with_reducible rfl))
  clear hi
  (try simp only [Act.put, List.setIfInBounds_toArray, List.set_cons_zero, List.set_cons_succ])
  have hi := getopN hO 28 (by decide)
  conv at hi => rhs; arg 1; whnf
  refine anyE_takeWUN hO (v := ?_) 28 hi rfl (by kernel_rfl) (by kernel_rfl) (by kernel_rfl) (by decide) (fun _ _ _ h => h) (Or.inl ⟨by rfl, ?_⟩) (by assumption) ?_
  rotate_left
  · ((intro w'); (try go_simp); (try with_reducible rfl))
  clear hi
  (try simp only [Act.put, List.setIfInBounds_toArray, List.set_cons_zero, List.set_cons_succ])
  have hi := getopN hO 29 (by decide)
  conv at hi => rhs; arg 1; whnf
  refine anyE_takeWUN hO (v := ?_) 29 hi rfl (by kernel_rfl) (by kernel_rfl) (by kernel_rfl) (by decide) (fun _ _ _ h => h) (Or.inl ⟨by rfl, ?_⟩) (by assumption) ?_
  rotate_left
  · ((intro w'); (try go_simp); (try with_reducible rfl))
  clear hi
  (try simp only [Act.put, List.setIfInBounds_toArray, List.set_cons_zero, List.set_cons_succ])
  have hi := getopN hO 30 (by decide)
  conv at hi => rhs; arg 1; whnf
  refine anyE_takeWUN hO (v := ?_) 30 hi rfl (by kernel_rfl) (by kernel_rfl) (by kernel_rfl) (by decide) (fun _ _ _ h => h) (Or.inl ⟨by rfl, ?_⟩) (by assumption) ?_
  rotate_left
  · ((intro w'); (try go_simp); (try with_reducible rfl))
  clear hi
  (try simp only [Act.put, List.setIfInBounds_toArray, List.set_cons_zero, List.set_cons_succ])
  have hi := getopN hO 31 (by decide)
  conv at hi => rhs; arg 1; whnf
  refine anyE_stepUN hO 31 (by kernel_rfl) hi rfl (fun K hK => ?_)
  go_simp
  refine hK.out _ _ ⟨(Ext.alloc _ _).cell hHeld.1, (Ext.alloc _ _).cell hHeld.2.1, (Ext.alloc _ _).cell hHeld.2.2.1, (Ext.alloc _ _).cell hHeld.2.2.2.1, (Ext.alloc _ _).cell hHeld.2.2.2.2.1, (Ext.alloc _ _).cell hHeld.2.2.2.2.2.1, (Ext.alloc _ _).cell hHeld.2.2.2.2.2.2.1, (Ext.alloc _ _).cell hHeld.2.2.2.2.2.2.2.1, (Ext.alloc _ _).cell hHeld.2.2.2.2.2.2.2.2.1, Ext.trans hHeld.2.2.2.2.2.2.2.2.2.out (Ext.alloc _ _)⟩ (fun hHeld => ?_)
  clear hK K hi
  (try simp only [Act.put, List.setIfInBounds_toArray, List.set_cons_zero, List.set_cons_succ])
  have HL := Lib.hid (Ints.lit w69 [-6, 4] 3 (by unfold maxLen; decide) (by decide))
  have hi := getopN hO 32 (by decide)
  conv at hi => rhs; arg 1; whnf
  refine anyE_stepUN hO 32 (by kernel_rfl) hi rfl (fun K hK => ?_)
  go_simp
  (go_at_call 63; refine (HER.out _ _ _ (HI7.out.ext (hHeld.2.2.2.2.2.2.2.2.2.out)) HL.out).mono ?_)
  rintro e w78 ⟨rfl, hEz⟩
  go_wp2_with fail
  refine hK.out _ _ ⟨(hEz).cell hHeld.1, (hEz).cell hHeld.2.1, (hEz).cell hHeld.2.2.1, (hEz).cell hHeld.2.2.2.1, (hEz).cell hHeld.2.2.2.2.1, (hEz).cell hHeld.2.2.2.2.2.1, (hEz).cell hHeld.2.2.2.2.2.2.1, (hEz).cell hHeld.2.2.2.2.2.2.2.1, (hEz).cell hHeld.2.2.2.2.2.2.2.2.1, Ext.trans hHeld.2.2.2.2.2.2.2.2.2.out (hEz)⟩ (fun hHeld => ?_)
  clear hK K hi
  (try simp only [Act.put, List.setIfInBounds_toArray, List.set_cons_zero, List.set_cons_succ])
  have hi := getopN hO 33 (by decide)
  conv at hi => rhs; arg 1; whnf
  refine anyE_takeWUN hO (v := ?_) 33 hi rfl (by kernel_rfl) (by kernel_rfl) (by kernel_rfl) (by decide) (fun _ _ _ h => h) (Or.inl ⟨by rfl, ?_⟩) (by assumption) ?_
  rotate_left
  · ((intro w'); (try go_simp); (try with_reducible rfl))
  clear hi
  (try simp only [Act.put, List.setIfInBounds_toArray, List.set_cons_zero, List.set_cons_succ])
  have hi := getopN hO 34 (by decide)
  conv at hi => rhs; arg 1; whnf
  refine anyE_takeWUN hO (v := ?_) 34 hi rfl (by kernel_rfl) (by kernel_rfl) (by kernel_rfl) (by decide) (fun _ _ _ h => h) (Or.inl ⟨by rfl, ?_⟩) (by assumption) ?_
  rotate_left
  · ((intro w'); (try go_simp); (try with_reducible rfl))
  clear hi
  (try simp only [Act.put, List.setIfInBounds_toArray, List.set_cons_zero, List.set_cons_succ])
  have hi := getopN hO 35 (by decide)
  conv at hi => rhs; arg 1; whnf
  refine anyE_takeWUN hO (v := ?_) 35 hi rfl (by kernel_rfl) (by kernel_rfl) (by kernel_rfl) (by decide) (fun _ _ _ h => h) (Or.inl ⟨by rfl, ?_⟩) (by assumption) ?_
  rotate_left
  · ((intro w'); (try go_simp); (try with_reducible rfl))
  clear hi
  (try simp only [Act.put, List.setIfInBounds_toArray, List.set_cons_zero, List.set_cons_succ])
  have hi := getopN hO 36 (by decide)
  conv at hi => rhs; arg 1; whnf
  refine anyE_takeWUN hO (v := ?_) 36 hi rfl (by kernel_rfl) (by kernel_rfl) (by kernel_rfl) (by decide) (fun _ _ _ h => h) (Or.inl ⟨by rfl, ?_⟩) (by assumption) ?_
  rotate_left
  · ((intro w'); (try go_simp); (try with_reducible rfl))
  clear hi
  (try simp only [Act.put, List.setIfInBounds_toArray, List.set_cons_zero, List.set_cons_succ])
  have hi := getopN hO 37 (by decide)
  conv at hi => rhs; arg 1; whnf
  refine anyE_takeWUN hO (v := ?_) 37 hi rfl (by kernel_rfl) (by kernel_rfl) (by kernel_rfl) (by decide) (fun _ _ _ h => h) (Or.inl ⟨by rfl, ?_⟩) (by assumption) ?_
  rotate_left
  · ((intro w'); (try go_simp); (try with_reducible rfl))
  clear hi
  (try simp only [Act.put, List.setIfInBounds_toArray, List.set_cons_zero, List.set_cons_succ])
  have hi := getopN hO 38 (by decide)
  conv at hi => rhs; arg 1; whnf
  refine anyE_takeWUN hO (v := ?_) 38 hi rfl (by kernel_rfl) (by kernel_rfl) (by kernel_rfl) (by decide) (fun _ _ _ h => h) (Or.inl ⟨by rfl, ?_⟩) (by assumption) ?_
  rotate_left
  · ((intro w'); (try go_simp); (try with_reducible rfl))
  clear hi
  (try simp only [Act.put, List.setIfInBounds_toArray, List.set_cons_zero, List.set_cons_succ])
  have hi := getopN hO 39 (by decide)
  conv at hi => rhs; arg 1; whnf
  refine anyE_takeWUN hO (v := ?_) 39 hi rfl (by kernel_rfl) (by kernel_rfl) (by kernel_rfl) (by decide) (fun _ _ _ h => h) (Or.inl ⟨by rfl, ?_⟩) (by assumption) ?_
  rotate_left
  · ((intro w'); (try go_simp); (try with_reducible rfl))
  clear hi
  (try simp only [Act.put, List.setIfInBounds_toArray, List.set_cons_zero, List.set_cons_succ])
  have hi := getopN hO 40 (by decide)
  conv at hi => rhs; arg 1; whnf
  refine anyE_takeWUN hO (v := ?_) 40 hi rfl (by kernel_rfl) (by kernel_rfl) (by kernel_rfl) (by decide) (fun _ _ _ h => h) (Or.inl ⟨by rfl, ?_⟩) (by assumption) ?_
  rotate_left
  · ((intro w'); (try go_simp); (try with_reducible rfl))
  clear hi
  (try simp only [Act.put, List.setIfInBounds_toArray, List.set_cons_zero, List.set_cons_succ])
  have hi := getopN hO 41 (by decide)
  conv at hi => rhs; arg 1; whnf
  refine anyE_takeWUN hO (v := ?_) 41 hi rfl (by kernel_rfl) (by kernel_rfl) (by kernel_rfl) (by decide) (fun _ _ _ h => h) (Or.inl ⟨by rfl, ?_⟩) (by assumption) ?_
  rotate_left
  · ((intro w'); (try go_simp); (try with_reducible rfl))
  clear hi
  (try simp only [Act.put, List.setIfInBounds_toArray, List.set_cons_zero, List.set_cons_succ])
  have HZ := Lib.hid (hHeld.2.2.2.2.2.2.2.2.2.out)
  have hi := getopN hO 42 (by decide)
  conv at hi => rhs; arg 1; whnf
  refine anyE_lastUN hO 42 (by kernel_rfl) rfl (by kernel_rfl) hi (fun K hK => ?_)
  go_simp
  refine hK.out _ _ (by assumption) ?_
  clear hK K hi hO
  (try simp only [Act.put, List.setIfInBounds_toArray, List.set_cons_zero, List.set_cons_succ])
  go_wp2_with fail
  go_ret
  exact ⟨rfl, HE8.out.trans HZ.out⟩
end Go.Proofs.YtehknemdfbkimaaGreatDoor
