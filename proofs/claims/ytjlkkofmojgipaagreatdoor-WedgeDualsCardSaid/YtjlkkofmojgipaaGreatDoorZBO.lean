/- Merged: WDualsW, LawPost, Args. -/
import Derived.Test.YtjlkkofmojgipaaGreatDoorZBN
import Derived.Test.YtjlkkofmojgipaaGreatDoorRows
import Derived.WalkKit
import Derived.ProofKit
import Derived.OpenShut
import Derived.Test.YtjlkkofmojgipaaGreatDoorZAA
import Derived.ChangeSlices
/- The walk of WedgeDuals; printed by gen/wduals.py. -/
namespace Go.Proofs.YtjlkkofmojgipaaGreatDoor
set_option linter.unusedVariables false
set_option linter.unusedSimpArgs false
open Go.RowKit

theorem small_dig {X : List Int} {M : Nat} (h : ∀ x ∈ X, x.natAbs ≤ M) (hM : M ≤ 1000000000000000) : Digits400 X := fun x hx => Nat.lt_of_le_of_lt (Nat.le_trans (h x hx) hM) (by decide +kernel)
theorem intL_small {n k : Nat} {X r : List Int} (hn : n < 5) (hX : ∀ x ∈ X, x.natAbs ≤ 128) (hr : ∀ x ∈ r, x.natAbs ≤ 1000000000) : ∀ y ∈ intL n k X r, y.natAbs ≤ 512000000000 := by
  intro y hy
  unfold intL at hy
  obtain ⟨s, -, rfl⟩ := List.mem_map.1 hy
  have h1 := intTo_le (n := n) (k := k) hX hr s n
  have h2 := Nat.mul_le_mul_right (1000000000 * 128) (show n ≤ 4 by omega)
  omega
theorem right_of {n k : Nat} {X : List Int} (hn : n < 5) (hk : k ≤ n) (hl : X.length = (allW n k).length) {M : Nat} (h : ∀ x ∈ X, x.natAbs ≤ M) (hM : M ≤ 1000000000000000) : RightM n k X := ⟨by omega, hk, hl, small_dig h hM⟩
theorem dualL_small {n k : Nat} {X : List Int} {M : Nat} (hX : ∀ x ∈ X, x.natAbs ≤ M) : ∀ y ∈ dualL n k X, y.natAbs ≤ M := by
  intro y hy
  unfold dualL at hy
  obtain ⟨s, -, rfl⟩ := List.mem_map.1 hy
  rw [sgnI_abs]
  exact AbsLe.getD (N := M) hX _
theorem kd_parity : ∀ k, k < 5 → ∀ d, d < 5 → (((k * d : Nat) : Int).tmod 2 == 1) = decide (k * d % 2 = 1) := by decide +kernel

set_option maxRecDepth 100000 in
set_option maxHeartbeats 8000000 in
theorem wduals_walk (x y z0 z1 z2 z3 z4 z5 q0 q1 q2 q3 : Int) (w : World) (hx : 0 ≤ x ∧ x ≤ 255) (hy : 0 ≤ y ∧ y ≤ 255) (hz : ∀ a ∈ [z0, z1, z2, z3, z4, z5], -128 ≤ a ∧ a ≤ 127) (hq : ∀ a ∈ [q0, q1, q2, q3], -128 ≤ a ∧ a ≤ 127) (hlib : LibT w) (hb : 4 < w.heap.size) :
    Calls Tryz.prog 5 #[.agg #[.int .u8 x, .int .u8 y, .int .i8 z0, .int .i8 z1, .int .i8 z2, .int .i8 z3, .int .i8 z4, .int .i8 z5], .agg #[.int .i8 q0, .int .i8 q1, .int .i8 q2, .int .i8 q3]] w fun e w' => e = .returned (.bool true) ∧ Ext w w' := by
  obtain ⟨n, hn⟩ : ∃ n : Nat, (n : Int) = x.tmod 5 := ⟨(x.tmod 5).toNat, by rw [Int.toNat_of_nonneg (Int.tmod_nonneg _ hx.1)]⟩
  have hn5 : n < 5 := by have := Int.tmod_lt_of_pos x (show (0 : Int) < 5 by decide); omega
  obtain ⟨k, hk⟩ : ∃ k : Nat, (k : Int) = y.tmod ((n : Int) + 1) := ⟨(y.tmod ((n : Int) + 1)).toNat, by rw [Int.toNat_of_nonneg (Int.tmod_nonneg _ hy.1)]⟩
  have hkn : k ≤ n := by
    have h1 := Int.tmod_lt_of_pos y (show 0 < (n : Int) + 1 by omega)
    omega
  obtain ⟨N, hN⟩ : ∃ N, (allW n k).length = N := ⟨_, rfl⟩
  have h6 := allW_six n hn5 k (by omega)
  rw [hN] at h6
  obtain ⟨X, hX⟩ : ∃ X, [z0, z1, z2, z3, z4, z5].take N = X := ⟨_, rfl⟩
  have hXl : X.length = N := by rw [← hX, List.length_take]; simp; omega
  have hXb : ∀ a ∈ X, a.natAbs ≤ 128 := fun a ha => by
    rw [← hX] at ha
    have := hz a (List.mem_of_mem_take ha); omega
  have hRX : RightM n k X := right_of hn5 hkn (by rw [hXl, hN]) hXb (by decide)
  obtain ⟨d, hd⟩ : ∃ d, n - k = d := ⟨_, rfl⟩
  obtain ⟨N2, hN2⟩ : ∃ N2, (allW n d).length = N2 := ⟨_, rfl⟩
  have hYl : (dualL n k X).length = N2 := by rw [dualL_len, hd, hN2]
  have hRY : RightM n d (dualL n k X) := right_of hn5 (by omega) (by rw [hYl, hN2]) (dualL_small hXb) (by decide)
  obtain ⟨o, ho⟩ : ∃ o, decide (k * d % 2 = 1) = o := ⟨_, rfl⟩
  have hZ : dualL n d (dualL n k X) = X.map fun x => sgnI x o := by
    have h9 := dual_dual (n := n) (k := k) (by omega) hkn X (by rw [hXl, hN])
    rw [hd, ho] at h9; exact h9
  have hnd : n - d = k := by omega
  have HMK : Hid (∀ W, Ext w W → Calls Tryz.prog 27 #[.agg #[.int .u8 x, .int .u8 y, .int .i8 z0, .int .i8 z1, .int .i8 z2, .int .i8 z3, .int .i8 z4, .int .i8 z5], .int .i64 (-1)] W fun e w' => ∃ a c, e = .returned (.agg #[.int .i64 n, .int .i64 k, .slice a N c]) ∧ ListAt 1 numC w' (.slice a N c) X ∧ Ext W w') := fun W hW => by
    have h9 := make10_any x y (-1) z0 z1 z2 z3 z4 z5 n k hx hy hz hn5 (.inr ⟨rfl, hn.symm⟩) hk W (hlib.pow.ext hW)
    rw [hN, hX] at h9; exact h9
  have HD1 : Hid (∀ W a c, Ext w W → ListAt 1 numC W (.slice a N c) X → Calls Tryz.prog 28 #[.agg #[.int .i64 n, .int .i64 k, .slice a N c]] W fun e w' => ∃ a c, e = .returned (.tuple #[.agg #[.int .i64 n, .int .i64 d, .slice a N2 c], .int .i64 0]) ∧ ListAt 1 numC w' (.slice a N2 c) (dualL n k X) ∧ Ext W w') := fun W a c hW hv => by
    refine (dualM_any (by omega) hRX _ W ⟨_, rfl, hv⟩).mono fun e w' ⟨u, h1, h2, h3⟩ => ?_
    obtain ⟨a, c, rfl, h4⟩ := multi_open h3
    rw [hYl] at h1 h4
    rw [hd] at h1
    exact ⟨a, c, h1, h4, h2⟩
  have HD2 : Hid (∀ W a c, Ext w W → ListAt 1 numC W (.slice a N2 c) (dualL n k X) → Calls Tryz.prog 28 #[.agg #[.int .i64 n, .int .i64 d, .slice a N2 c]] W fun e w' => ∃ a c, e = .returned (.tuple #[.agg #[.int .i64 n, .int .i64 k, .slice a N c], .int .i64 0]) ∧ ListAt 1 numC w' (.slice a N c) (X.map fun x => sgnI x o) ∧ Ext W w') := fun W a c hW hv => by
    refine (dualM_any (by omega) hRY _ W ⟨_, rfl, hv⟩).mono fun e w' ⟨u, h1, h2, h3⟩ => ?_
    rw [hZ, hnd] at h3
    obtain ⟨a, c, rfl, h4⟩ := multi_open h3
    rw [List.length_map, hXl] at h1 h4
    exact ⟨a, c, h1, h4, h2⟩
  have HKN : Hid (∀ W, Ext w W → Calls Tryz.prog 13 #[] W fun e w' => e = .returned (.bool true) ∧ Ext W w') := fun W hW => known10_any W (hlib.ext hW) (Nat.lt_of_lt_of_le hb hW.size)
  have HNG : Hid (∀ a ∈ X, ∀ W, Calls Tryz.prog 29 #[.string (intB a)] W fun e w' => e = .returned (.string (intB (-a))) ∧ Ext W w') := fun a ha W => neg_any a W (by
    have h1 := hXb a ha
    have h9 := size_abs9 (x := a) (by omega); omega)
  obtain ⟨q, hqq⟩ : ∃ q, [q0, q1, q2, q3] = q := ⟨_, rfl⟩
  have HQ4 : Hid (q.length = 4) := by unfold Hid; rw [← hqq]; rfl
  have HQB : Hid (∀ a ∈ q, -128 ≤ a ∧ a ≤ 127) := by rw [← hqq]; exact hq
  have hRl : (q.take n).length = n := by rw [List.length_take, HQ4.out]; omega
  have hRb : ∀ a ∈ q.take n, a.natAbs ≤ 1000000000 := fun a ha => by have := HQB.out a (List.mem_of_mem_take ha); omega
  have hRf : (q.take n).any (fun x => !fitB x) = false := by
    rw [List.any_eq_false]
    intro a ha
    have h9 := HQB.out a (List.mem_of_mem_take ha)
    rw [(fitB_iff a).2 ⟨by omega, by omega⟩]; decide
  obtain ⟨N3, hN3⟩ : ∃ N3, (allW n (k - 1)).length = N3 := ⟨_, rfl⟩
  obtain ⟨N4, hN4⟩ : ∃ N4, (allW n (k - 2)).length = N4 := ⟨_, rfl⟩
  have hIl : (intL n k X (q.take n)).length = N3 := by rw [intL_len, hN3]
  have hIs := intL_small (k := k) hn5 hXb hRb
  have HI1 : Hid (2 ≤ k → ∀ W a c v, Ext w W → ListAt 1 numC W (.slice a N c) X → Ints W v (q.take n) → Calls Tryz.prog 25 #[.agg #[.int .i64 n, .int .i64 k, .slice a N c], v] W fun e w' => ∃ a c, e = .returned (.tuple #[.agg #[.int .i64 n, .int .i64 ((k - 1 : Nat) : Int), .slice a N3 c], .int .i64 0]) ∧ ListAt 1 numC w' (.slice a N3 c) (intL n k X (q.take n)) ∧ Ext W w') := fun h2 W a c v hW hv hi => by
    refine (intM_any (by omega) hRX (by omega) hRl hRf _ v W ⟨_, rfl, hv⟩ hi (hlib.pow.ext hW)).mono fun e w' ⟨u, h1, h2, h3⟩ => ?_
    obtain ⟨a, c, rfl, h4⟩ := multi_open h3
    rw [hIl] at h1 h4
    exact ⟨a, c, h1, h4, h2⟩
  have HI2 : Hid (2 ≤ k → ∀ W a c v, Ext w W → ListAt 1 numC W (.slice a N3 c) (intL n k X (q.take n)) → Ints W v (q.take n) → Calls Tryz.prog 25 #[.agg #[.int .i64 n, .int .i64 ((k - 1 : Nat) : Int), .slice a N3 c], v] W fun e w' => ∃ a c, e = .returned (.tuple #[.agg #[.int .i64 n, .int .i64 ((k - 2 : Nat) : Int), .slice a N4 c], .int .i64 0]) ∧ ListAt 1 numC w' (.slice a N4 c) (List.replicate N4 0) ∧ Ext W w') := fun h2 W a c v hW hv hi => by
    have hR2 : RightM n (k - 1) (intL n k X (q.take n)) := right_of hn5 (by omega) (by rw [hIl, hN3]) hIs (by decide)
    refine (intM_any (by omega) hR2 (by omega) hRl hRf _ v W ⟨_, rfl, hv⟩ hi (hlib.pow.ext hW)).mono fun e w' ⟨u, h1, h2', h3⟩ => ?_
    rw [int_twice hn5 hkn h2, hN4] at h3
    obtain ⟨a, c, rfl, h4⟩ := multi_open h3
    rw [List.length_replicate] at h1 h4
    rw [show k - 1 - 1 = k - 2 by omega] at h1
    exact ⟨a, c, h1, h4, h2'⟩
  have HCO : Hid (2 ≤ k → ∀ W a c, Ext w W → ListAt 1 numC W (.slice a N4 c) (List.replicate N4 0) → Calls Tryz.prog 30 #[.agg #[.int .i64 n, .int .i64 ((k - 2 : Nat) : Int), .slice a N4 c]] W fun e w' => e = .returned (.tuple #[.string ⟨#[48]⟩, .int .i64 0]) ∧ Ext W w') := fun h2 W a c hW hv => by
    have hR3 : RightM n (k - 2) (List.replicate N4 0) := right_of hn5 (by omega) (by rw [List.length_replicate, hN4]) (M := 0) (fun a ha => by rw [(List.mem_replicate.1 ha).2]; decide) (by decide)
    have h9 := contentM_any hR3 _ W ⟨_, rfl, hv⟩ (hlib.pow.ext hW)
    rw [contL_zeros, show intB ((0 : Nat) : Int) = ⟨#[48]⟩ by decide +kernel] at h9
    exact h9
  have hpar := kd_parity k (by omega) d (by omega)
  rw [ho] at hpar
  have e1 : IntKind.i64.wrap ((n : Int) - (k : Int)) = (d : Int) := by rw [IntKind.wrap_i64]; omega
  obtain ⟨kd, hkd⟩ : ∃ kd, k * d = kd := ⟨_, rfl⟩
  have hkd16 : kd ≤ 16 := by rw [← hkd]; exact Nat.mul_le_mul (show k ≤ 4 by omega) (show d ≤ 4 by omega)
  have e2 : (k : Int) * (d : Int) = (kd : Int) := by rw [← hkd, Int.natCast_mul]
  have e2' : IntKind.i64.wrap ((k : Int) * (d : Int)) = (kd : Int) := by rw [e2, IntKind.wrap_i64]; omega
  rw [hkd] at hpar
  obtain ⟨tm, htm⟩ : ∃ tm, (kd : Int).tmod 2 = tm := ⟨_, rfl⟩
  rw [htm] at hpar
  obtain ⟨w1, hw1, hE1, hs1, hb1⟩ := boxD w #[.int .u8 x, .int .u8 y, .int .i8 z0, .int .i8 z1, .int .i8 z2, .int .i8 z3, .int .i8 z4, .int .i8 z5] 49
  obtain ⟨w2, hw2, hE2, hs2, hb2⟩ := boxD w1 #[.int .i8 q0, .int .i8 q1, .int .i8 q2, .int .i8 q3] 50
  have HE2 := Lib.hid (hE1.trans hE2)
  have HBA := Lib.hid (block_ext hb1 hE2); have HBB := Lib.hid hb2
  rw [hs1] at HBB
  have HXL := Lib.hid hXl
  have HCQ : Hid (∀ W, Ext w2 W → ∀ i a, q[i]? = some a → W.cell? ⟨w.heap.size + 1, i, none⟩ = some (.int .i8 a)) := fun W hW i a hi => by
    rw [block_cell (block_ext HBB.out hW), ← Option.map_some (f := Value.int .i8), ← hi, ← hqq]
    match i with
    | 0 => rfl
    | 1 => rfl
    | 2 => rfl
    | 3 => rfl
    | i + 4 => simp; try omega
  clear hb1 hb2 hE1 hE2 hs2 hx hy hz hq hn hk hN hX hXl hXb hRX hN2 hYl hRY ho hZ hnd hqq hRl hRb hRf hN3 hN4 hIl hIs hkd hkd16 e2 hlib hb hd
  go_enter Tryz.func5, Tryz.ntmps5
  go_wp2_with fail
  refine (HKN.out w2 HE2.out).mono ?_
  rintro e w3 ⟨rfl, hE3⟩
  have HX23 : Hid (Ext w2 w3) := hE3
  have HE3 : Hid (Ext w w3) := HE2.out.trans hE3
  have s0 := block_cell (block_ext HBA.out hE3)
  clear hE3 HKN hw1 hw2
  go_wp2_with fail
  refine (HMK.out w3 HE3.out).mono ?_
  rintro e w4 ⟨a1, c1, rfl, hR1, hE4⟩
  have HX24 : Hid (Ext w2 w4) := HX23.out.trans hE4
  have HE4 : Hid (Ext w w4) := HE3.out.trans hE4
  have HR1 := Lib.hid hR1
  clear hE4 hR1 HMK s0
  obtain ⟨V1, hV1, hX1, hs1, hb1⟩ := boxM w4 (.int .i64 0) (.int .i64 0) (.slice none 0 0)
  have r0 := block_cell hb1
  have f0 := block_free hb1
  have HB1 := Lib.hid (multi_store hb1 (.int .i64 n) (.int .i64 k) (.slice a1 N c1))
  have HX1 := Lib.hid (multi_ext (B := w4.heap.size) hX1 (Nat.le_refl _) (.int .i64 n) (.int .i64 k) (.slice a1 N c1))
  obtain ⟨U1, hU1⟩ : ∃ U, ((V1.setCell ⟨w4.heap.size, 0, none⟩ (.int .i64 n)).setCell ⟨w4.heap.size, 1, none⟩ (.int .i64 k)).setCell ⟨w4.heap.size, 2, none⟩ (.slice a1 N c1) = U := ⟨_, rfl⟩
  rw [hU1] at HB1 HX1
  clear hX1 hs1 hb1
  have HXU1 : Hid (Ext w2 U1) := HX24.out.trans HX1.out
  have HEU1 : Hid (Ext w U1) := HE4.out.trans HX1.out
  have HRU1 := Lib.hid (ListAt.ext numC.mono' HR1.out HX1.out)
  have s1 := block_cell HB1.out
  go_wp2_with fail
  clear hU1 hV1 r0 f0
  refine (HD1.out _ _ _ HEU1.out HRU1.out).mono ?_
  rintro e w5 ⟨a2, c2, rfl, hR2, hE5⟩
  have HX15 : Hid (Ext U1 w5) := hE5
  have HE5 : Hid (Ext w w5) := HEU1.out.trans hE5
  have HR2 := Lib.hid hR2
  clear hE5 hR2 HD1 s1
  obtain ⟨V2, hV2, hX2, hs2, hb2⟩ := boxM w5 (.int .i64 0) (.int .i64 0) (.slice none 0 0)
  have r0 := block_cell hb2
  have f0 := block_free hb2
  have HB2 := Lib.hid (multi_store hb2 (.int .i64 n) (.int .i64 d) (.slice a2 N2 c2))
  have HX2 := Lib.hid (multi_ext (B := w5.heap.size) hX2 (Nat.le_refl _) (.int .i64 n) (.int .i64 d) (.slice a2 N2 c2))
  obtain ⟨U2, hU2⟩ : ∃ U, ((V2.setCell ⟨w5.heap.size, 0, none⟩ (.int .i64 n)).setCell ⟨w5.heap.size, 1, none⟩ (.int .i64 d)).setCell ⟨w5.heap.size, 2, none⟩ (.slice a2 N2 c2) = U := ⟨_, rfl⟩
  rw [hU2] at HB2 HX2
  clear hX2 hs2 hb2
  have HX12 : Hid (Ext U1 U2) := HX15.out.trans HX2.out
  have HEU2 : Hid (Ext w U2) := HE5.out.trans HX2.out
  have HRU2 := Lib.hid (ListAt.ext numC.mono' HR2.out HX2.out)
  have s2 := block_cell HB2.out
  go_wp2_with fail
  clear hU2 hV2 r0 f0
  refine (HD2.out _ _ _ HEU2.out HRU2.out).mono ?_
  rintro e w6 ⟨a3, c3, rfl, hR3, hE6⟩
  have HX16 : Hid (Ext U1 w6) := HX12.out.trans hE6
  have HE6 : Hid (Ext w w6) := HEU2.out.trans hE6
  have HR3 := Lib.hid hR3
  clear hE6 hR3 HD2 s2
  obtain ⟨V3, hV3, hX3, hs3, hb3⟩ := boxM w6 (.int .i64 0) (.int .i64 0) (.slice none 0 0)
  have r0 := block_cell hb3
  have f0 := block_free hb3
  have HB3 := Lib.hid (multi_store hb3 (.int .i64 n) (.int .i64 k) (.slice a3 N c3))
  have HX3 := Lib.hid (multi_ext (B := w6.heap.size) hX3 (Nat.le_refl _) (.int .i64 n) (.int .i64 k) (.slice a3 N c3))
  obtain ⟨U3, hU3⟩ : ∃ U, ((V3.setCell ⟨w6.heap.size, 0, none⟩ (.int .i64 n)).setCell ⟨w6.heap.size, 1, none⟩ (.int .i64 k)).setCell ⟨w6.heap.size, 2, none⟩ (.slice a3 N c3) = U := ⟨_, rfl⟩
  rw [hU3] at HB3 HX3
  clear hX3 hs3 hb3
  have HX13 : Hid (Ext U1 U3) := HX16.out.trans HX3.out
  have HXU3 : Hid (Ext w2 U3) := HXU1.out.trans HX13.out
  have HEU3 : Hid (Ext w U3) := HE6.out.trans HX3.out
  have HRU3 := Lib.hid (ListAt.ext numC.mono' HR3.out HX3.out)
  have HR13 := Lib.hid (ListAt.ext numC.mono' HRU1.out HX13.out)
  have HB13 := Lib.hid (block_ext HB1.out HX13.out)
  have s1 := block_cell HB13.out 2; have s3 := block_cell HB3.out 2
  simp only [List.getElem?_toArray, List.getElem?_cons_succ, List.getElem?_cons_zero] at s1 s3
  obtain ⟨ax, cx, hvx, hx1, hx2, -, hcx⟩ := inCell.open (BigL.of_nums HR13.out)
  obtain ⟨az, cz, hvz, hz1, hz2, -, hcz⟩ := inCell.open (BigL.of_nums HRU3.out)
  rw [HXL.out] at hvx hx1
  rw [List.length_map, HXL.out] at hvz hz1
  simp only [Value.slice.injEq] at hvx hvz
  obtain ⟨rfl, -, rfl⟩ := hvx
  obtain ⟨rfl, -, rfl⟩ := hvz
  unfold maxLen at hx2 hz2
  have HCX := Lib.hid hcx; have HCZ := Lib.hid hcz
  clear hcx hcz
  go_wp2_with fail
  clear hU3 hV3 r0 f0 s1 s3
  go_loopw [10] (fun t wr => ∃ i : Nat, i ≤ N ∧ t = .int .i64 (i : Int) ∧ Hid (Ext U3 wr)) (fun t _ => N + 1 - (intOf t).toNat)
  case atStart => exact ⟨0, by omega, by simp, Ext.refl _⟩
  case round =>
    obtain ⟨i, hi, rfl, HY⟩ := hrel
    obtain ⟨wo, rfl⟩ : ∃ wo : World, wo = wr := ⟨_, rfl⟩
    have HB1o := Lib.hid (block_ext HB13.out HY.out)
    have HB3o := Lib.hid (block_ext HB3.out HY.out)
    have t0 := block_cell HB1o.out 0; have t1 := block_cell HB1o.out 1; have t2 := block_cell HB1o.out 2; have t3 := block_cell HB3o.out 2
    simp only [List.getElem?_toArray, List.getElem?_cons_succ, List.getElem?_cons_zero] at t0 t1 t2 t3
    by_cases hlt : i < N
    · obtain ⟨a, ha⟩ : ∃ a, X[i]? = some a := ⟨X[i]'(by rw [HXL.out]; exact hlt), List.getElem?_eq_getElem _⟩
      obtain ⟨bx, ox, rfl, -, hcell⟩ := HCX.out (by intro e; rw [e] at ha; simp at ha)
      obtain ⟨bz, oz, rfl, -, hcell3⟩ := HCZ.out (by intro e; have := List.map_eq_nil_iff.1 e; rw [this] at ha; simp at ha)
      obtain ⟨u1, hu1, g1⟩ := hcell i a ha
      obtain rfl : u1 = .string (intB a) := hu1
      obtain ⟨u3, hu3, g3⟩ := hcell3 i (sgnI a o) (by rw [List.getElem?_map, ha]; rfl)
      obtain rfl : u3 = .string (intB (sgnI a o)) := hu3
      have g1 := HY.out.cell g1
      have g3 := HY.out.cell g3
      have HNA := Lib.hid (HNG.out a (List.mem_of_getElem? ha))
      clear hcell hcell3 ha
      have hin : (i : Int) < (N : Int) := by omega
      cases o with
      | true =>
        have hs : sgnI a true = -a := rfl
        rw [hs] at g3
        clear hs
        go_wp2_with fail
        refine (HNA.out _).mono ?_
        rintro e w7 ⟨rfl, hE7⟩
        have HY7 : Hid (Ext U3 w7) := HY.out.trans hE7
        have g3' := hE7.cell g3
        have t3' := hE7.cell t3
        clear hE7 HNA g1 g3 t0 t1 t2 t3
        go_wp2_with fail
        go_roundw
        case rel => exact ⟨i + 1, by omega, by go_num, HY7.out⟩
        case measure => simp [intOf]; omega
      | false =>
        have hs : sgnI a false = a := rfl
        rw [hs] at g3
        clear hs HNA
        go_wp2_with fail
        go_roundw
        case rel => exact ⟨i + 1, by omega, by go_num, HY.out⟩
        case measure => simp [intOf]; omega
    · obtain rfl : i = N := by omega
      clear HCX HCZ HNG
      by_cases hk2 : 2 ≤ k
      · have hk2' : ¬ (k : Int) < 2 := by omega
        have HKK := Lib.hid hk2
        go_wp2_with fail
        go_loopw [12, 13] (fun s t wr => ∃ (j : Nat) (v0 : Value), j ≤ n ∧ s = v0 ∧ t = .int .i64 (j : Int) ∧ Hid (Ext wo wr) ∧ Hid (OwnR wo.heap.size wr v0 (q.take j))) (fun _ t _ => n + 1 - (intOf t).toNat)
        case atStart => exact ⟨0, _, by omega, rfl, by simp, Ext.refl _, World.ownsRow_nil _ _ _ _⟩
        case round =>
          obtain ⟨j, v9, hj, hv9, rfl, HZ, HO9⟩ := hrel
          obtain rfl := hv9.symm
          obtain ⟨wp, rfl⟩ : ∃ wp : World, wp = wr := ⟨_, rfl⟩
          have HB1p := Lib.hid (block_ext HB1o.out HZ.out)
          have p0 := block_cell HB1p.out 0; have p1 := block_cell HB1p.out 1; have p2 := block_cell HB1p.out 2
          simp only [List.getElem?_toArray, List.getElem?_cons_succ, List.getElem?_cons_zero] at p0 p1 p2
          clear t0 t1 t2 t3
          by_cases hjl : j < n
          · obtain ⟨b, hbq⟩ : ∃ b, q[j]? = some b := ⟨q[j]'(by rw [HQ4.out]; omega), List.getElem?_eq_getElem _⟩
            have hbb := HQB.out b (List.mem_of_getElem? hbq)
            have hcq := HCQ.out wp (HXU3.out.trans (HY.out.trans HZ.out)) j b hbq
            have HNX : Hid (q.take (j + 1) = q.take j ++ [b]) := by unfold Hid; rw [List.take_add_one, hbq]; rfl
            have HLJ : Hid ((q.take j).length < 1000000) := by unfold Hid; rw [List.length_take, HQ4.out]; omega
            have e6 : IntKind.i64.wrap b = b := by rw [IntKind.wrap_i64]; omega
            have HS6 : Hid (wo.heap.size ≤ wp.heap.size) := HZ.out.size
            have hj4 : j < 4 := by omega
            have hj44 : (j : Int) < 4 := by omega
            clear hbq hbb
            go_wp2_with (at_builtin; go_must (refine wpList_append_one rfl wp _ _ _ Tryz.underlying27 rfl wo.heap.size v9 (q.take j) b _ _ rfl HO9.out rfl rfl ?c2 HS6.out ?_))
            case c2 => have := HLJ.out; omega
            intro v2 w7 hO7 hB7
            rw [← HNX.out] at hO7
            have HO7 := Lib.hid hO7
            have HZ7 : Hid (Ext wo w7) := Below.trans HZ.out hB7
            clear hO7 hB7
            go_wp2_with fail
            go_roundw
            case rel => exact ⟨j + 1, v2, by omega, rfl, by go_num, HZ7.out, HO7.out⟩
            case measure => simp [intOf]; omega
          · obtain rfl : j = n := by omega
            have hI9 : Ints wp v9 (q.take j) := Ints.of_owns HO9.out (fun a ha => by have := HQB.out a (List.mem_of_mem_take ha); omega)
            have HI9 := Lib.hid hI9
            obtain ⟨a9, c9, hv9', -⟩ := ListAt.open hI9
            have hl9 : (q.take j).length = j := by rw [List.length_take, HQ4.out]; omega
            rw [hl9] at hv9'
            subst hv9'
            have HEP : Hid (Ext w wp) := HEU3.out.trans (HY.out.trans HZ.out)
            have HRP := Lib.hid (ListAt.ext numC.mono' HR13.out (HY.out.trans HZ.out))
            clear hI9 HO9 hl9
            go_wp2_with fail
            refine (HI1.out HKK.out _ _ _ _ HEP.out HRP.out HI9.out).mono ?_
            rintro e w8 ⟨a4, c4, rfl, hR4, hE8⟩
            have HE8 : Hid (Ext w w8) := HEP.out.trans hE8
            have HI8 := Lib.hid (HI9.out.ext hE8)
            have HR4 := Lib.hid hR4
            clear hE8 hR4 HI1 p0 p1 p2
            obtain ⟨k1, hk1⟩ : ∃ k1, k - 1 = k1 := ⟨_, rfl⟩
            rw [hk1] at HI2 ⊢
            obtain ⟨V4, hV4, hX4, hs4, hb4⟩ := boxM w8 (.int .i64 0) (.int .i64 0) (.slice none 0 0)
            have r0 := block_cell hb4
            have f0 := block_free hb4
            have HB4 := Lib.hid (multi_store hb4 (.int .i64 j) (.int .i64 k1) (.slice a4 N3 c4))
            have HX4 := Lib.hid (multi_ext (B := w8.heap.size) hX4 (Nat.le_refl _) (.int .i64 j) (.int .i64 k1) (.slice a4 N3 c4))
            obtain ⟨U4, hU4⟩ : ∃ U, ((V4.setCell ⟨w8.heap.size, 0, none⟩ (.int .i64 j)).setCell ⟨w8.heap.size, 1, none⟩ (.int .i64 k1)).setCell ⟨w8.heap.size, 2, none⟩ (.slice a4 N3 c4) = U := ⟨_, rfl⟩
            rw [hU4] at HB4 HX4
            clear hX4 hs4 hb4
            have HEU4 : Hid (Ext w U4) := HE8.out.trans HX4.out
            have HRU4 := Lib.hid (ListAt.ext numC.mono' HR4.out HX4.out)
            have HIU4 := Lib.hid (HI8.out.ext HX4.out)
            have s4 := block_cell HB4.out
            go_wp2_with fail
            clear hU4 hV4 r0 f0
            refine (HI2.out HKK.out _ _ _ _ HEU4.out HRU4.out HIU4.out).mono ?_
            rintro e w9 ⟨a5, c5, rfl, hR5, hE9⟩
            have HE9 : Hid (Ext w w9) := HEU4.out.trans hE9
            have HR5 := Lib.hid hR5
            clear hE9 hR5 HI2 s4
            obtain ⟨k2, hk2e⟩ : ∃ k2, k - 2 = k2 := ⟨_, rfl⟩
            rw [hk2e] at HCO ⊢
            obtain ⟨V5, hV5, hX5, hs5, hb5⟩ := boxM w9 (.int .i64 0) (.int .i64 0) (.slice none 0 0)
            have r0 := block_cell hb5
            have f0 := block_free hb5
            have HB5 := Lib.hid (multi_store hb5 (.int .i64 j) (.int .i64 k2) (.slice a5 N4 c5))
            have HX5 := Lib.hid (multi_ext (B := w9.heap.size) hX5 (Nat.le_refl _) (.int .i64 j) (.int .i64 k2) (.slice a5 N4 c5))
            obtain ⟨U5, hU5⟩ : ∃ U, ((V5.setCell ⟨w9.heap.size, 0, none⟩ (.int .i64 j)).setCell ⟨w9.heap.size, 1, none⟩ (.int .i64 k2)).setCell ⟨w9.heap.size, 2, none⟩ (.slice a5 N4 c5) = U := ⟨_, rfl⟩
            rw [hU5] at HB5 HX5
            clear hX5 hs5 hb5
            have HEU5 : Hid (Ext w U5) := HE9.out.trans HX5.out
            have HRU5 := Lib.hid (ListAt.ext numC.mono' HR5.out HX5.out)
            have s5 := block_cell HB5.out
            go_wp2_with fail
            clear hU5 hV5 r0 f0
            refine (HCO.out HKK.out _ _ _ HEU5.out HRU5.out).mono ?_
            rintro e w10 ⟨rfl, hE10⟩
            have HE10 : Hid (Ext w w10) := HEU5.out.trans hE10
            clear hE10 HCO s5
            go_wp2_with fail
            go_ret
            exact ⟨rfl, HE10.out⟩
      · have hk2' : (k : Int) < 2 := by omega
        have HE9 : Hid (Ext w wo) := HEU3.out.trans HY.out
        go_wp2_with fail
        go_ret
        exact ⟨rfl, HE9.out⟩
end Go.Proofs.YtjlkkofmojgipaaGreatDoor
/- What a statement's row asks of the end of a call, out of: it returned true, and all that lay in memory lies unturned. -/
namespace Go.Proofs.YtjlkkofmojgipaaGreatDoor
set_option linter.unusedVariables false
set_option linter.unusedSimpArgs false
open Go.ChangeShapes Go.WideShapes Go.ChangeAt Go.RowKit

theorem lawOwn : ownKnob Tryz.prog.godebug = none := by kernel_rfl
theorem lawLaid : laidOutB Tryz.prog = true := by kernel_rfl

theorem trodAll_below {H : Type} {enc : TypeId × Value → H} {P : Program} (hl : laidOutB P = true) {W W' : World} (hb : Below W.heap.size W W') :
    ∀ (ts : List TypeId) (vs : List Value) (ds : List (DataW H)) (ps : List MemPlace), (∀ t ∈ ts, P.readableRec t = true ∧ t < P.types.size) →
      DataW.TrodAll enc P W 0 (fun _ => true) true ts vs ds ps → (∀ x ∈ ps, x.block < W.heap.size) → DataW.TrodAll enc P W' 0 (fun b => decide (b < W.heap.size)) true ts vs ds ps
  | [], [], [], ps, _, h, _ => h
  | t :: ts, v :: vs, d :: ds, ps, hr, h, hlt => by
    obtain ⟨p, p', h1, h2, rfl⟩ := h
    exact ⟨p, p', Below.trod hl (hr t (by simp)).1 (hr t (by simp)).2 h1 hb (fun x hx => hlt x (by simp [hx])), trodAll_below hl hb ts vs ds p' (fun t ht => hr t (by simp [ht])) h2 (fun x hx => hlt x (by simp [hx])), rfl⟩
  | [], v :: vs, _, _, _, h, _ => absurd h (by simp [DataW.TrodAll])
  | [], [], d :: ds, _, _, h, _ => absurd h (by simp [DataW.TrodAll])
  | t :: ts, [], _, _, _, h, _ => absurd h (by simp [DataW.TrodAll])
  | t :: ts, v :: vs, [], _, _, h, _ => absurd h (by simp [DataW.TrodAll])

/-- The row's end for a statement that answers true and leaves what it was given alone. -/
theorem lawPost {H : Type} {enc : TypeId × Value → H} {f : Func} {s : ChangeSpec} {W W' : World} {args : Array Value} {ds : List (DataW H)} {before : List MemPlace}
    (hW : DataW.Whole enc Tryz.prog f.params.toList s.vars false W args.toList ds [] before) (hA : DataW.TrodAll enc Tryz.prog W 0 (fun _ => true) true f.params.toList args.toList ds before)
    (hv : s.vars = []) (hres : f.resultTypes = #[4]) (hfn : s.fn H (ds ++ []) = { results := [.lit (.bool true)], args := ds }) (hr : ∀ t ∈ f.params.toList, Tryz.prog.readableRec t = true ∧ t < Tryz.prog.types.size) (hb : Below W.heap.size W W') :
    ∃ v, Ending.returned (.bool true) = Ending.returned v ∧ ChangeSpec.post enc Tryz.prog f s false true false false W args v W' := by
  refine ⟨_, rfl, ds, [], before, [], before, [], hW, ?_, ?_, ?_, ?_, fun h => by cases h⟩
  · rw [hfn, hres]
    exact trodAll_cons_mk (shut_bool Tryz.underlying4 _) trodAll_mk0
  · rw [hfn]
    exact trodAll_below lawLaid hb _ _ _ _ hr hA (fun x hx => by simpa using hW.lt x hx)
  · rw [hfn, hv]; rfl
  · exact hb.frame _
end Go.Proofs.YtjlkkofmojgipaaGreatDoor
/- Arguments that came in: slices of integers. -/
namespace Go.Proofs.YtjlkkofmojgipaaGreatDoor
set_option linter.unusedVariables false
set_option linter.unusedSimpArgs false
open Go.ChangeShapes Go.WideShapes Go.ChangeAt Go.RowKit

end Go.Proofs.YtjlkkofmojgipaaGreatDoor
