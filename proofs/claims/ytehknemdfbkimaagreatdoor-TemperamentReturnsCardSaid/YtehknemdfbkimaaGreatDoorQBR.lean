/- Merged: TmpP, TRetW, LawPost, Args. -/
import Derived.Test.YtehknemdfbkimaaGreatDoorQBQ
import Derived.Test.YtehknemdfbkimaaGreatDoorRows
import Derived.WalkKit
import Derived.ProofKit
import Derived.OpenShut
import Derived.Test.YtehknemdfbkimaaGreatDoorQAA
import Derived.ChangeSlices
/- Law 18, plain: the temperament of a plan; what its functions answer. -/
namespace Go.Proofs.YtehknemdfbkimaaGreatDoor
set_option linter.unusedVariables false
set_option linter.unusedSimpArgs false
open Go.RowKit

theorem plan18 {n : Nat} {m : List (List Int)} (hn1 : 1 ≤ n) (hn : n ≤ 4) (hm : m.length ≤ 4) (hw : ∀ x ∈ m, x.length = n) (h9 : ∀ x ∈ m, RowLe 9 x) (P : List Int) (hP : primesE P = 0) (hPl : P.length = n) (vals : Bool) :
    ∃ F R A S C M, FromD n F m R A S ∧ (if vals then A else S) = C ∧ (if vals then S else A) = M ∧ FromD n F C C M C ∧ FromD n F M M C M ∧ TempF n F P m C M vals := by
  obtain ⟨F, R, A, S, h1, h2, h3, h4, h5⟩ := plan_temp hn1 hn hm hw h9 P hP hPl
  cases vals
  · exact ⟨F, R, A, S, S, A, h1, rfl, rfl, h2, h3, h4⟩
  · exact ⟨F, R, A, S, A, S, h1, rfl, rfl, h3, h2, h5⟩
theorem orth_of {n : Nat} {m : List (List Int)} (hm : Wid n m) {u v : List Int} (hv : Sat n m v) (hu : Ann n m u) : dotZ u v n = 0 := by
  obtain ⟨hl, D, hD, hs⟩ := hv
  have h := ann_sp hm hs hu
  rw [dotZ_comm, dotZ_smul] at h
  rcases Int.mul_eq_zero.1 h with h | h
  · exact absurd h hD
  · exact h
theorem sp_row {n : Nat} {C : List (List Int)} {x : List Int} (hx : x ∈ C) : Sp n (RowsFrom 0 C) x := by
  obtain ⟨i, hi, rfl⟩ := mem_rowE hx
  exact .mem ⟨i, Nat.zero_le _, hi, rfl⟩
/-- The commas are tempered out. -/
theorem comma_out {n F : Nat} {P : List Int} {m C M : List (List Int)} {vals : Bool} (hm : Wid n m) (hT : TempF n F P m C M vals) {x : List Int} (hx : x ∈ C) : (temL M x n).any (· != 0) = false := by
  rw [List.any_eq_false]
  intro y hy
  obtain ⟨r, hr, rfl⟩ := List.mem_map.1 hy
  have h1 := (hT.spC x).1 (sp_row hx)
  have h2 := (hT.spM r).1 (sp_row hr)
  have : dotZ x r n = 0 := by
    cases vals
    · simp only [Bool.false_eq_true, if_false] at h1 h2
      rw [dotZ_comm]
      exact orth_of hm h1 h2
    · simp only [if_true] at h1 h2
      exact orth_of hm h2 h1
  simp [this]
theorem row18_all {n : Nat} {B : List (List Int)} (hn : n ≤ 4) (hB : ∀ x ∈ B, RowLe 629856 x ∧ x.length = n) {x : List Int} (hx : x ∈ B) : allE n [x] = 0 :=
  allE_of fun r hr => by
    obtain rfl : r = x := by simpa using hr
    exact ⟨okRow_of (by have := (hB r hx).2; omega) ((hB r hx).1.mono (by decide)), (hB r hx).2⟩
/-- A plan's box. -/
theorem p18_block {w : World} {B : Nat} {x y z : Value} (h : w.heap[B]? = some (.cells #[x, y, z] 61 (0, 0))) : w.cell? ⟨B, 0, none⟩ = some x ∧ w.cell? ⟨B, 1, none⟩ = some y ∧ w.cell? ⟨B, 2, none⟩ = some z := by
  have h0 := block_cell h 0; have h1 := block_cell h 1; have h2 := block_cell h 2
  simp only [List.getElem?_toArray, List.getElem?_cons_zero, List.getElem?_cons_succ] at h0 h1 h2
  exact ⟨h0, h1, h2⟩
end Go.Proofs.YtehknemdfbkimaaGreatDoor
/- The walk of TemperamentReturns. Printed by gen/tmpp.py. -/
namespace Go.Proofs.YtehknemdfbkimaaGreatDoor
set_option linter.unusedVariables false
set_option linter.unusedSimpArgs false
open Go.RowKit

set_option maxRecDepth 100000 in
set_option maxHeartbeats 3000000 in
theorem returns_walk (c : Int) (hc0 : 0 ≤ c) (hc1 : c ≤ 255) (vals : Bool) (xss : List (List Int)) (v : Value) (w : World) (h : Fours w v xss) (hlib : LibT w) (hp : 0 < w.heap.size) :
    Calls Tryz.prog 11 #[.agg #[.int .u8 c, v, .bool vals]] w fun e w' => e = .returned (.bool true) ∧ Ext w w' := by
  obtain ⟨P, hP⟩ : ∃ P, P = primes12 (c % 10).toNat := ⟨_, rfl⟩
  obtain ⟨n, hn⟩ : ∃ n, P.length = n := ⟨_, rfl⟩
  obtain ⟨hpr, hn1, hn4⟩ := primes12_ok (c % 10).toNat
  rw [← hP] at hpr hn1 hn4
  rw [hn] at hn1 hn4
  have HKN := Lib.hid (fun W (hW : Ext w W) => known18_any W (hlib.ext hW) (Nat.lt_of_lt_of_le hp hW.size))
  have HFI := Lib.hid (fun W (hW : Ext w W) => fits18_any c vals xss v W (h.ext hW))
  have hx4 : ∀ x ∈ xss, x.length = 4 := fun x hx => by
    obtain ⟨a, cp, rfl, k1, k2, kl, k4⟩ := ListAt.open h
    obtain ⟨j, hj⟩ := List.getElem?_of_mem hx
    obtain ⟨b, off, rfl, hb, hcell⟩ := k4 (by decide) (by intro e; rw [e] at hj; simp at hj)
    obtain ⟨u, hu, ⟨rfl, hx4, hxb⟩, hc⟩ := hcell j x hj
    exact hx4
  obtain ⟨hm1, hm2⟩ := rows18_ok hn4 hx4 xss.length
  have hsh := h
  obtain ⟨a, cp, rfl, hxx1, hxx2, -⟩ := ListAt.open hsh
  unfold maxLen at hxx2
  obtain ⟨FT, hFT⟩ : ∃ b, decide (xss.length ≤ 3) = b := ⟨_, rfl⟩
  rw [hFT] at HFI
  cases FT with
  | false =>
    clear hm1 hm2 hx4 hsh h hlib hp hFT hpr hn1 hn4 hP
    go_enter Tryz.func11, Tryz.ntmps11
    obtain ⟨W0, hW0⟩ : ∃ W0, w.alloc (.cells #[.int .u8 c, .slice a xss.length cp, .bool vals] 61) = W0 := ⟨_, rfl⟩
    have HE0 : Hid (Ext w W0) := by rw [← hW0]; exact Ext.alloc _ _
    have HP0 : Hid (W0.heap[w.heap.size]? = some (.cells #[.int .u8 c, .slice a xss.length cp, .bool vals] 61 (0, 0))) := by rw [← hW0]; exact block_new _ _ _
    go_wp2_with fail
    clear hW0
    refine (HKN.out _ HE0.out).mono ?_
    rintro e w1 ⟨rfl, hE1⟩
    have HE1 := Lib.hid (HE0.out.trans hE1)
    have HP1 := Lib.hid (block_ext HP0.out hE1)
    obtain ⟨p0, p1, p2⟩ := p18_block HP1.out
    clear hE1 HE0 HP0
    go_wp2_with fail
    refine (HFI.out _ HE1.out).mono ?_
    rintro e w2 ⟨rfl, hE2⟩
    have HE2 := Lib.hid (HE1.out.trans hE2)
    clear hE2 HE1 HFI
    go_wp2_with fail
    refine (HKN.out _ HE2.out).mono ?_
    rintro e w3 ⟨rfl, hE3⟩
    have HE3 := Lib.hid (HE2.out.trans hE3)
    clear hE3 HKN
    go_wp2_with fail
    go_ret
    exact ⟨rfl, HE3.out⟩
  | true =>
  have hx3 : xss.length ≤ 3 := of_decide_eq_true hFT
  obtain ⟨F, R, A, S, C, M, hD, hC, hM, hDC, hDM, hT⟩ := plan18 hn1 hn4 (by omega) (fun x hx => (hm2 x hx).1) (fun x hx => (hm2 x hx).2) P hpr hn vals
  have HWm : Wid n (rows18 n xss.length xss) := fun i hi => (hm2 _ (rowE_mem hi)).1
  have HMK := Lib.hid (fun W (hW : Ext w W) => make18_any c hc0 hc1 n F P hP hn xss hx3 vals _ W (h.ext hW) R A S hD (hlib.ext hW) (Nat.lt_of_lt_of_le hp hW.size))
  rw [hC, hM] at HMK
  have hRT := hT.right
  have HFC := Lib.hid (fun W (hW : Ext w W) vp vc (hv : Ints W vp P) (hc : Rows2 W vc C) => fromCommas_any n F P C C M C vp vc W hv hc hpr hn hDC (hlib.ext hW) (Nat.lt_of_lt_of_le hp hW.size))
  have HFM := Lib.hid (fun W (hW : Ext w W) vp vc (hv : Ints W vp P) (hc : Rows2 W vc M) => fromMapping_any n F P M M C M vp vc W hv hc hpr hn hDM (hlib.ext hW) (Nat.lt_of_lt_of_le hp hW.size))
  have HRK := Lib.hid (fun W (hW : Ext w W) v (hv : TempV W v P C M) => trank_any n F P C M v W hv hRT (hlib.ext hW) (Nat.lt_of_lt_of_le hp hW.size))
  have HCO := Lib.hid (fun W (hW : Ext w W) v (hv : TempV W v P C M) => tcorank_any n F P C M v W hv hRT (hlib.ext hW) (Nat.lt_of_lt_of_le hp hW.size))
  have HCK := Lib.hid (fun W (hW : Ext w W) v (hv : TempV W v P C M) => tcheck_any n F P C M v W hv hRT (hlib.ext hW) (Nat.lt_of_lt_of_le hp hW.size))
  have HSM : Hid (∀ W v u, TempV W v P C M → TempV W u P C M → Calls Tryz.prog 58 #[v, u] W fun e w' => e = .returned (.bool true) ∧ Ext W w') := fun W v u h k => by
    have := same18_any P P C C M M v u W h k
    simpa using this
  have HTO : Hid (∀ W v vx x, Ext w W → TempV W v P C M → Ints W vx x → x ∈ C → Calls Tryz.prog 50 #[v, vx] W fun e w' => e = .returned (.tuple #[.bool true, .int .i64 0]) ∧ Ext W w') := fun W v vx x hW hv hx hm => by
    have := tempersOut_any n F P C M x v vx W hv hx hRT (row18_all hn4 hRT.bC hm) (hlib.ext hW) (Nat.lt_of_lt_of_le hp hW.size)
    rw [comma_out HWm hT hm] at this
    exact this
  have hrk := hT.rank
  have hz1 : IntKind.wrap .i64 ((M.length : Int) + (C.length : Int)) = (n : Int) := by rw [IntKind.wrap_i64]; omega
  have hcl : C.length ≤ 4 := hRT.lC
  have HZ1 := Lib.hid hz1
  clear hm1 hm2 hx4 hsh h hlib hp hFT hpr hP hD hDC hDM hT HWm hRT hC hM hrk hz1 hn1
  subst hn
  go_enter Tryz.func11, Tryz.ntmps11
  obtain ⟨W0, hW0⟩ : ∃ W0, w.alloc (.cells #[.int .u8 c, .slice a xss.length cp, .bool vals] 61) = W0 := ⟨_, rfl⟩
  have HE0 : Hid (Ext w W0) := by rw [← hW0]; exact Ext.alloc _ _
  have HP0 : Hid (W0.heap[w.heap.size]? = some (.cells #[.int .u8 c, .slice a xss.length cp, .bool vals] 61 (0, 0))) := by rw [← hW0]; exact block_new _ _ _
  go_wp2_with fail
  clear hW0
  refine (HKN.out _ HE0.out).mono ?_
  rintro e w1 ⟨rfl, hE1⟩
  have HE1 := Lib.hid (HE0.out.trans hE1)
  have HP1 := Lib.hid (block_ext HP0.out hE1)
  obtain ⟨p0, p1, p2⟩ := p18_block HP1.out
  clear hE1 HE0 HP0
  go_wp2_with fail
  refine (HFI.out _ HE1.out).mono ?_
  rintro e w2 ⟨rfl, hE2⟩
  have HE2 := Lib.hid (HE1.out.trans hE2)
  have HP2 := Lib.hid (block_ext HP1.out hE2)
  clear hE2 HE1 HFI HP1 p0 p1 p2
  obtain ⟨p0, p1, p2⟩ := p18_block HP2.out
  go_wp2_with fail
  refine (HMK.out _ HE2.out).mono ?_
  rintro e w3 ⟨u, rfl, hS, hE⟩
  have HEC3 := Lib.hid (HE2.out.trans hE)
  clear hE HE2 HP2 HMK p0 p1 p2
  obtain ⟨p3, c3, m3, rfl, hvp, hvc, hvm⟩ := hS
  have HTV3 : Hid (TempV w3 (.agg #[p3, c3, m3]) P C M) := ⟨_, _, _, rfl, hvp, hvc, hvm⟩
  obtain ⟨ap3, kp3, rfl, -⟩ := hvp.open
  obtain ⟨ac3, kc3, rfl, -⟩ := inCell.open hvc
  obtain ⟨am3, km3, rfl, -⟩ := inCell.open hvm
  clear hvp hvc hvm
  obtain ⟨V3, hV3, hXV, hsV, hbV⟩ := tp_new w3 (.slice none 0 0) (.slice none 0 0) (.slice none 0 0)
  obtain ⟨r0, r1, r2, rf⟩ := tp_block hbV
  have f0 := rf 0; have f1 := rf 1; have f2 := rf 2
  have HB3 := Lib.hid (tp_store hbV (.slice ap3 P.length kp3) (.slice ac3 C.length kc3) (.slice am3 M.length km3))
  have HXU3 := Lib.hid (ext_tp hXV (Nat.le_refl _) (.slice ap3 P.length kp3) (.slice ac3 C.length kc3) (.slice am3 M.length km3))
  clear hXV hsV hbV rf
  obtain ⟨U3, hU3⟩ : ∃ U, ((V3.setCell ⟨w3.heap.size, 0, none⟩ (.slice ap3 P.length kp3)).setCell ⟨w3.heap.size, 1, none⟩ (.slice ac3 C.length kc3)).setCell ⟨w3.heap.size, 2, none⟩ (.slice am3 M.length km3) = U := ⟨_, rfl⟩
  rw [hU3] at HB3 HXU3
  have HE3 := Lib.hid (HEC3.out.trans HXU3.out)
  have HTV3 := Lib.hid (HTV3.out.ext HXU3.out)
  clear HXU3 HEC3
  obtain ⟨s0, s1, s2, -⟩ := tp_block HB3.out
  go_wp2_with fail
  clear hU3 hV3 r0 r1 r2 f0 f1 f2 s0 s1 s2
  obtain ⟨q0, q1, q2, hqe, hq0, hq1, hq2⟩ := HTV3.out
  simp only [Value.agg.injEq, Array.mk.injEq, List.cons.injEq, and_true] at hqe
  obtain ⟨rfl, rfl, rfl⟩ := hqe
  refine (HFC.out _ HE3.out _ _ hq0 hq1).mono ?_
  clear hq0 hq1 hq2
  rintro e w4 ⟨u, rfl, hS, hE⟩
  have hS := hS.now
  have HEC4 := Lib.hid (HE3.out.trans hE)
  have HB3 := Lib.hid (block_ext HB3.out hE); have HTV3 := Lib.hid (HTV3.out.ext hE)
  clear hE
  obtain ⟨p4, c4, m4, rfl, hvp, hvc, hvm⟩ := hS
  have HTV4 : Hid (TempV w4 (.agg #[p4, c4, m4]) P C M) := ⟨_, _, _, rfl, hvp, hvc, hvm⟩
  obtain ⟨ap4, kp4, rfl, -⟩ := hvp.open
  obtain ⟨ac4, kc4, rfl, -⟩ := inCell.open hvc
  obtain ⟨am4, km4, rfl, -⟩ := inCell.open hvm
  clear hvp hvc hvm
  obtain ⟨V4, hV4, hXV, hsV, hbV⟩ := tp_new w4 (.slice none 0 0) (.slice none 0 0) (.slice none 0 0)
  obtain ⟨r0, r1, r2, rf⟩ := tp_block hbV
  have f0 := rf 0; have f1 := rf 1; have f2 := rf 2
  have HB4 := Lib.hid (tp_store hbV (.slice ap4 P.length kp4) (.slice ac4 C.length kc4) (.slice am4 M.length km4))
  have HXU4 := Lib.hid (ext_tp hXV (Nat.le_refl _) (.slice ap4 P.length kp4) (.slice ac4 C.length kc4) (.slice am4 M.length km4))
  clear hXV hsV hbV rf
  obtain ⟨U4, hU4⟩ : ∃ U, ((V4.setCell ⟨w4.heap.size, 0, none⟩ (.slice ap4 P.length kp4)).setCell ⟨w4.heap.size, 1, none⟩ (.slice ac4 C.length kc4)).setCell ⟨w4.heap.size, 2, none⟩ (.slice am4 M.length km4) = U := ⟨_, rfl⟩
  rw [hU4] at HB4 HXU4
  have HE4 := Lib.hid (HEC4.out.trans HXU4.out)
  have HTV4 := Lib.hid (HTV4.out.ext HXU4.out)
  have HB3 := Lib.hid (block_ext HB3.out HXU4.out); have HTV3 := Lib.hid (HTV3.out.ext HXU4.out)
  clear HXU4 HEC4
  obtain ⟨s0, s1, s2, -⟩ := tp_block HB3.out
  go_wp2_with fail
  clear hU4 hV4 r0 r1 r2 f0 f1 f2 s0 s1 s2
  obtain ⟨q0, q1, q2, hqe, hq0, hq1, hq2⟩ := HTV3.out
  simp only [Value.agg.injEq, Array.mk.injEq, List.cons.injEq, and_true] at hqe
  obtain ⟨rfl, rfl, rfl⟩ := hqe
  refine (HFM.out _ HE4.out _ _ hq0 hq2).mono ?_
  clear hq0 hq1 hq2
  rintro e w6 ⟨u, rfl, hS, hE⟩
  have hS := hS.now
  have HEC6 := Lib.hid (HE4.out.trans hE)
  have HB3 := Lib.hid (block_ext HB3.out hE); have HTV3 := Lib.hid (HTV3.out.ext hE)
  have HB4 := Lib.hid (block_ext HB4.out hE); have HTV4 := Lib.hid (HTV4.out.ext hE)
  clear hE
  obtain ⟨p6, c6, m6, rfl, hvp, hvc, hvm⟩ := hS
  have HTV6 : Hid (TempV w6 (.agg #[p6, c6, m6]) P C M) := ⟨_, _, _, rfl, hvp, hvc, hvm⟩
  obtain ⟨ap6, kp6, rfl, -⟩ := hvp.open
  obtain ⟨ac6, kc6, rfl, -⟩ := inCell.open hvc
  obtain ⟨am6, km6, rfl, -⟩ := inCell.open hvm
  clear hvp hvc hvm
  obtain ⟨V6, hV6, hXV, hsV, hbV⟩ := tp_new w6 (.slice none 0 0) (.slice none 0 0) (.slice none 0 0)
  obtain ⟨r0, r1, r2, rf⟩ := tp_block hbV
  have f0 := rf 0; have f1 := rf 1; have f2 := rf 2
  have HB6 := Lib.hid (tp_store hbV (.slice ap6 P.length kp6) (.slice ac6 C.length kc6) (.slice am6 M.length km6))
  have HXU6 := Lib.hid (ext_tp hXV (Nat.le_refl _) (.slice ap6 P.length kp6) (.slice ac6 C.length kc6) (.slice am6 M.length km6))
  clear hXV hsV hbV rf
  obtain ⟨U6, hU6⟩ : ∃ U, ((V6.setCell ⟨w6.heap.size, 0, none⟩ (.slice ap6 P.length kp6)).setCell ⟨w6.heap.size, 1, none⟩ (.slice ac6 C.length kc6)).setCell ⟨w6.heap.size, 2, none⟩ (.slice am6 M.length km6) = U := ⟨_, rfl⟩
  rw [hU6] at HB6 HXU6
  have HE6 := Lib.hid (HEC6.out.trans HXU6.out)
  have HTV6 := Lib.hid (HTV6.out.ext HXU6.out)
  have HB3 := Lib.hid (block_ext HB3.out HXU6.out); have HTV3 := Lib.hid (HTV3.out.ext HXU6.out)
  have HB4 := Lib.hid (block_ext HB4.out HXU6.out); have HTV4 := Lib.hid (HTV4.out.ext HXU6.out)
  clear HXU6 HEC6
  obtain ⟨s0, s1, s2, -⟩ := tp_block HB3.out
  go_wp2_with fail
  clear hU6 hV6 r0 r1 r2 f0 f1 f2
  clear s0 s1 s2
  refine (HRK.out _ HE6.out _ HTV3.out).mono ?_
  rintro e w7 ⟨rfl, hE⟩
  have HE7 := Lib.hid (HE6.out.trans hE)
  have HB3 := Lib.hid (block_ext HB3.out hE); have HTV3 := Lib.hid (HTV3.out.ext hE)
  have HB4 := Lib.hid (block_ext HB4.out hE); have HTV4 := Lib.hid (HTV4.out.ext hE)
  have HB6 := Lib.hid (block_ext HB6.out hE); have HTV6 := Lib.hid (HTV6.out.ext hE)
  clear hE
  obtain ⟨s0, s1, s2, -⟩ := tp_block HB3.out
  go_wp2_with fail
  clear s0 s1 s2
  refine (HCO.out _ HE7.out _ HTV3.out).mono ?_
  rintro e w8 ⟨rfl, hE⟩
  have HE8 := Lib.hid (HE7.out.trans hE)
  have HB3 := Lib.hid (block_ext HB3.out hE); have HTV3 := Lib.hid (HTV3.out.ext hE)
  have HB4 := Lib.hid (block_ext HB4.out hE); have HTV4 := Lib.hid (HTV4.out.ext hE)
  have HB6 := Lib.hid (block_ext HB6.out hE); have HTV6 := Lib.hid (HTV6.out.ext hE)
  clear hE
  obtain ⟨s0, s1, s2, -⟩ := tp_block HB3.out
  go_wp2_with fail
  clear s0 s1 s2
  refine (HCK.out _ HE8.out _ HTV3.out).mono ?_
  rintro e w9 ⟨rfl, hE⟩
  have HE9 := Lib.hid (HE8.out.trans hE)
  have HB3 := Lib.hid (block_ext HB3.out hE); have HTV3 := Lib.hid (HTV3.out.ext hE)
  have HB4 := Lib.hid (block_ext HB4.out hE); have HTV4 := Lib.hid (HTV4.out.ext hE)
  have HB6 := Lib.hid (block_ext HB6.out hE); have HTV6 := Lib.hid (HTV6.out.ext hE)
  clear hE
  obtain ⟨t0, t1, t2, -⟩ := tp_block HB4.out
  obtain ⟨s0, s1, s2, -⟩ := tp_block HB3.out
  go_wp2_with fail
  clear t0 t1 t2
  clear s0 s1 s2
  refine (HSM.out _ _ _ HTV4.out HTV3.out).mono ?_
  rintro e w10 ⟨rfl, hE⟩
  have HE10 := Lib.hid (HE9.out.trans hE)
  have HB3 := Lib.hid (block_ext HB3.out hE); have HTV3 := Lib.hid (HTV3.out.ext hE)
  have HB6 := Lib.hid (block_ext HB6.out hE); have HTV6 := Lib.hid (HTV6.out.ext hE)
  clear hE
  obtain ⟨t0, t1, t2, -⟩ := tp_block HB6.out
  obtain ⟨s0, s1, s2, -⟩ := tp_block HB3.out
  go_wp2_with fail
  clear t0 t1 t2
  clear s0 s1 s2
  refine (HSM.out _ _ _ HTV6.out HTV3.out).mono ?_
  rintro e w11 ⟨rfl, hE⟩
  have HE11 := Lib.hid (HE10.out.trans hE)
  have HB3 := Lib.hid (block_ext HB3.out hE); have HTV3 := Lib.hid (HTV3.out.ext hE)
  clear hE
  have hz1 := HZ1.out
  obtain ⟨s0, s1, s2, -⟩ := tp_block HB3.out
  go_wp2_with fail
  clear s0 s1 s2
  obtain ⟨b3, hb3⟩ : ∃ b, w3.heap.size = b := ⟨_, rfl⟩
  rw [hb3] at HB3 ⊢
  clear hb3 hz1
  go_loopw [12] (fun t wr => ∃ i : Nat, i ≤ C.length ∧ t = .int .i64 i ∧ Hid (Ext w11 wr)) (fun t _ => C.length - (intOf t).toNat)
  case atStart => exact ⟨0, by omega, rfl, Ext.refl _⟩
  case round =>
    obtain ⟨i, hi, rfl, HE⟩ := hrel
    obtain ⟨wo, rfl⟩ : ∃ wo : World, wo = wr := ⟨_, rfl⟩
    have HB3o := Lib.hid (block_ext HB3.out HE.out)
    obtain ⟨s0, s1, s2, -⟩ := tp_block HB3o.out
    have HTVo := Lib.hid (HTV3.out.ext HE.out)
    have HEo := Lib.hid (HE11.out.trans HE.out)
    by_cases hlt : i < C.length
    · obtain ⟨q0, q1, q2, hqe, hq0, hq1, hq2⟩ := HTVo.out
      simp only [Value.agg.injEq, Array.mk.injEq, List.cons.injEq, and_true] at hqe
      obtain ⟨rfl, rfl, rfl⟩ := hqe
      obtain ⟨a0, k0, hsl, y1, y2, -, yc⟩ := inCell.open hq1
      simp only [Value.slice.injEq] at hsl
      obtain ⟨rfl, -, rfl⟩ := hsl
      obtain ⟨bc, oc, rfl, hbc, hcell⟩ := yc (by intro e; simp [e] at hlt)
      obtain ⟨x, hx⟩ : ∃ x, C[i]? = some x := ⟨C[i], List.getElem?_eq_getElem hlt⟩
      obtain ⟨vx, hvx, hcx⟩ := hcell i x hx
      have HXM := Lib.hid (List.mem_of_getElem? hx)
      have HXI := Lib.hid hvx
      obtain ⟨ax, cx, rfl, -⟩ := hvx.open
      have hy : C.length ≤ kc3 := y1
      clear hq0 hq1 hq2 y1 y2 yc hcell hx hvx
      go_upto_region 13 with fail
      refine region_anyEUN (fun w' => w'.cell? ⟨b3, 0, none⟩ = some (.slice ap3 P.length kp3) ∧ w'.cell? ⟨b3, 1, none⟩ = some (.slice (some ⟨bc, oc, none⟩) C.length kc3) ∧ w'.cell? ⟨b3, 2, none⟩ = some (.slice am3 M.length km3) ∧ w'.cell? ⟨bc, oc + i, none⟩ = some (.slice ax x.length cx) ∧ Hid (Ext wo w')) 12 12 (by kernel_rfl) (by kernel_rfl) ⟨(Ext.drew wo).cell s0, (Ext.drew wo).cell s1, (Ext.drew wo).cell s2, (Ext.drew wo).cell hcx, Ext.drew wo⟩ (fun ops hO hHeld => ?_)
      generalize wo.drew = wd at hHeld ⊢
      have hi := getopN hO 0 (by decide)
      conv at hi => rhs; arg 1; whnf
      refine anyE_takeUN hO (v := ?_) 0 hi rfl (by kernel_rfl) (by kernel_rfl) (by kernel_rfl) (by kernel_rfl) (fun _ _ _ h => h) (Or.inl ⟨by rfl, ?_⟩) (by assumption) ?_
      rotate_left
      · ((intro w' hSw); (try dsimp only at hSw); (try go_simp); (try with_reducible rfl))
      clear hi
      (try simp only [Act.put, List.setIfInBounds_toArray, List.set_cons_zero, List.set_cons_succ])
      have hi := getopN hO 1 (by decide)
      conv at hi => rhs; arg 1; whnf
      refine anyE_takeWUN hO (v := ?_) 1 hi rfl (by kernel_rfl) (by kernel_rfl) (by kernel_rfl) (by decide) (fun _ _ _ h => h) (Or.inl ⟨by rfl, ?_⟩) (by assumption) ?_
      rotate_left
      · ((intro w'); (try go_simp); (try with_reducible rfl))
      clear hi
      (try simp only [Act.put, List.setIfInBounds_toArray, List.set_cons_zero, List.set_cons_succ])
      have hi := getopN hO 2 (by decide)
      conv at hi => rhs; arg 1; whnf
      refine anyE_takeUN hO (v := ?_) 2 hi rfl (by kernel_rfl) (by kernel_rfl) (by kernel_rfl) (by kernel_rfl) (fun _ _ _ h => h) (Or.inl ⟨by rfl, ?_⟩) (by assumption) ?_
      rotate_left
      · ((intro w' hSw); (try dsimp only at hSw); (try go_simp); (try with_reducible rfl))
      clear hi
      (try simp only [Act.put, List.setIfInBounds_toArray, List.set_cons_zero, List.set_cons_succ])
      have hi := getopN hO 3 (by decide)
      conv at hi => rhs; arg 1; whnf
      refine anyE_takeWUN hO (v := ?_) 3 hi rfl (by kernel_rfl) (by kernel_rfl) (by kernel_rfl) (by decide) (fun _ _ _ h => h) (Or.inl ⟨by rfl, ?_⟩) (by assumption) ?_
      rotate_left
      · ((intro w'); (try go_simp); (try with_reducible rfl))
      clear hi
      (try simp only [Act.put, List.setIfInBounds_toArray, List.set_cons_zero, List.set_cons_succ])
      have hi := getopN hO 4 (by decide)
      conv at hi => rhs; arg 1; whnf
      refine anyE_takeWUN hO (v := ?_) 4 hi rfl (by kernel_rfl) (by kernel_rfl) (by kernel_rfl) (by decide) (fun _ _ _ h => h) (Or.inl ⟨by rfl, ?_⟩) (by assumption) ?_
      rotate_left
      · ((intro w'); (try go_simp); (try with_reducible rfl))
      clear hi
      (try simp only [Act.put, List.setIfInBounds_toArray, List.set_cons_zero, List.set_cons_succ])
      have hi := getopN hO 5 (by decide)
      conv at hi => rhs; arg 1; whnf
      refine anyE_takeUN hO (v := ?_) 5 hi rfl (by kernel_rfl) (by kernel_rfl) (by kernel_rfl) (by kernel_rfl) (fun _ _ _ h => h) (Or.inl ⟨by rfl, ?_⟩) (by assumption) ?_
      rotate_left
      · ((intro w' hSw); (try dsimp only at hSw); (try go_simp); (try with_reducible rfl))
      clear hi
      (try simp only [Act.put, List.setIfInBounds_toArray, List.set_cons_zero, List.set_cons_succ])
      have hi := getopN hO 6 (by decide)
      conv at hi => rhs; arg 1; whnf
      refine anyE_stepUN hO 6 (by kernel_rfl) hi rfl (fun K hK => ?_)
      go_simp
      (go_at_call 50; refine (HTO.out _ _ _ _ (Ext.trans HEo.out (hHeld.2.2.2.2.out)) (HTVo.out.ext (hHeld.2.2.2.2.out)) (HXI.out.ext (hHeld.2.2.2.2.out)) HXM.out).mono ?_)
      rintro e w20 ⟨rfl, hEz⟩
      go_wp2_with fail
      refine hK.out _ _ ⟨(hEz).cell hHeld.1, (hEz).cell hHeld.2.1, (hEz).cell hHeld.2.2.1, (hEz).cell hHeld.2.2.2.1, Ext.trans hHeld.2.2.2.2.out (hEz)⟩ (fun hHeld => ?_)
      clear hK K hi
      (try simp only [Act.put, List.setIfInBounds_toArray, List.set_cons_zero, List.set_cons_succ])
      have hi := getopN hO 7 (by decide)
      conv at hi => rhs; arg 1; whnf
      refine anyE_takeWUN hO (v := ?_) 7 hi rfl (by kernel_rfl) (by kernel_rfl) (by kernel_rfl) (by decide) (fun _ _ _ h => h) (Or.inl ⟨by rfl, ?_⟩) (by assumption) ?_
      rotate_left
      · ((intro w'); (try go_simp); (try with_reducible rfl))
      clear hi
      (try simp only [Act.put, List.setIfInBounds_toArray, List.set_cons_zero, List.set_cons_succ])
      have hi := getopN hO 8 (by decide)
      conv at hi => rhs; arg 1; whnf
      refine anyE_takeWUN hO (v := ?_) 8 hi rfl (by kernel_rfl) (by kernel_rfl) (by kernel_rfl) (by decide) (fun _ _ _ h => h) (Or.inl ⟨by rfl, ?_⟩) (by assumption) ?_
      rotate_left
      · ((intro w'); (try go_simp); (try with_reducible rfl))
      clear hi
      (try simp only [Act.put, List.setIfInBounds_toArray, List.set_cons_zero, List.set_cons_succ])
      have hi := getopN hO 9 (by decide)
      conv at hi => rhs; arg 1; whnf
      refine anyE_takeWUN hO (v := ?_) 9 hi rfl (by kernel_rfl) (by kernel_rfl) (by kernel_rfl) (by decide) (fun _ _ _ h => h) (Or.inl ⟨by rfl, ?_⟩) (by assumption) ?_
      rotate_left
      · ((intro w'); (try go_simp); (try with_reducible rfl))
      clear hi
      (try simp only [Act.put, List.setIfInBounds_toArray, List.set_cons_zero, List.set_cons_succ])
      have hi := getopN hO 10 (by decide)
      conv at hi => rhs; arg 1; whnf
      refine anyE_takeWUN hO (v := ?_) 10 hi rfl (by kernel_rfl) (by kernel_rfl) (by kernel_rfl) (by decide) (fun _ _ _ h => h) (Or.inl ⟨by rfl, ?_⟩) (by assumption) ?_
      rotate_left
      · ((intro w'); (try go_simp); (try with_reducible rfl))
      clear hi
      (try simp only [Act.put, List.setIfInBounds_toArray, List.set_cons_zero, List.set_cons_succ])
      have HZ := Lib.hid (hHeld.2.2.2.2.out)
      have hi := getopN hO 11 (by decide)
      conv at hi => rhs; arg 1; whnf
      refine anyE_lastUN hO 11 (by kernel_rfl) rfl (by kernel_rfl) hi (fun K hK => ?_)
      go_simp
      refine hK.out _ _ (by assumption) ?_
      clear hK K hi hO
      (try simp only [Act.put, List.setIfInBounds_toArray, List.set_cons_zero, List.set_cons_succ])
      have HE20 := Lib.hid (HE.out.trans HZ.out)
      have HB20 := Lib.hid (block_ext HB3o.out HZ.out)
      clear hcx s0 s1 s2
      go_wp2_with fail
      go_roundw
      case rel => exact ⟨i + 1, by omega, by go_num, HE20.out⟩
      case measure => simp [intOf]; omega
    · obtain rfl : i = C.length := by omega
      go_wp2_with fail
      go_ret
      exact ⟨rfl, HEo.out⟩
end Go.Proofs.YtehknemdfbkimaaGreatDoor
/- What a statement's row asks of the end of a call, out of: it returned true, and all that lay in memory lies unturned. -/
namespace Go.Proofs.YtehknemdfbkimaaGreatDoor
set_option linter.unusedVariables false
set_option linter.unusedSimpArgs false
open Go.ChangeShapes Go.WideShapes Go.ChangeAt Go.RowKit

theorem lawOwn : ownKnob Tryz.prog.godebug = none := by kernel_rfl
theorem lawLaid : laidOutB Tryz.prog = true := by kernel_rfl

theorem trodAll_below {H : Type} {enc : TypeId × Value → H} {P : Program} (hl : laidOutB P = true) {W W' : World} (hb : Below W.heap.size W W') :
    ∀ (ts : List TypeId) (vs : List Value) (ds : List (DataW H)) (ps : List MemPlace), (∀ t ∈ ts, P.readableRec t = true ∧ t < P.types.size) →
      DataW.TrodAll enc P W 0 (fun _ => true) true ts vs ds ps → (∀ x ∈ ps, x.block < W.heap.size) → DataW.TrodAll enc P W' 0 (fun b => decide (b < W.heap.size)) true ts vs ds ps
  | [], [], [], ps, _, h, _ => h
  | t :: ts, v :: vs, d :: ds, ps, hr, h, hlt => by
    obtain ⟨p, p', h1, h2, rfl⟩ := h
    exact ⟨p, p', Below.trod hl (hr t (by simp)).1 (hr t (by simp)).2 h1 hb (fun x hx => hlt x (by simp [hx])), trodAll_below hl hb ts vs ds p' (fun t ht => hr t (by simp [ht])) h2 (fun x hx => hlt x (by simp [hx])), rfl⟩
  | [], v :: vs, _, _, _, h, _ => absurd h (by simp [DataW.TrodAll])
  | [], [], d :: ds, _, _, h, _ => absurd h (by simp [DataW.TrodAll])
  | t :: ts, [], _, _, _, h, _ => absurd h (by simp [DataW.TrodAll])
  | t :: ts, v :: vs, [], _, _, h, _ => absurd h (by simp [DataW.TrodAll])

/-- The row's end for a statement that answers true and leaves what it was given alone. -/
theorem lawPost {H : Type} {enc : TypeId × Value → H} {f : Func} {s : ChangeSpec} {W W' : World} {args : Array Value} {ds : List (DataW H)} {before : List MemPlace}
    (hW : DataW.Whole enc Tryz.prog f.params.toList s.vars false W args.toList ds [] before) (hA : DataW.TrodAll enc Tryz.prog W 0 (fun _ => true) true f.params.toList args.toList ds before)
    (hv : s.vars = []) (hres : f.resultTypes = #[4]) (hfn : s.fn H (ds ++ []) = { results := [.lit (.bool true)], args := ds }) (hr : ∀ t ∈ f.params.toList, Tryz.prog.readableRec t = true ∧ t < Tryz.prog.types.size) (hb : Below W.heap.size W W') :
    ∃ v, Ending.returned (.bool true) = Ending.returned v ∧ ChangeSpec.post enc Tryz.prog f s false true false false W args v W' := by
  refine ⟨_, rfl, ds, [], before, [], before, [], hW, ?_, ?_, ?_, ?_, fun h => by cases h⟩
  · rw [hfn, hres]
    exact trodAll_cons_mk (shut_bool Tryz.underlying4 _) trodAll_mk0
  · rw [hfn]
    exact trodAll_below lawLaid hb _ _ _ _ hr hA (fun x hx => by simpa using hW.lt x hx)
  · rw [hfn, hv]; rfl
  · exact hb.frame _
end Go.Proofs.YtehknemdfbkimaaGreatDoor
/- Arguments that came in: slices of integers. -/
namespace Go.Proofs.YtehknemdfbkimaaGreatDoor
set_option linter.unusedVariables false
set_option linter.unusedSimpArgs false
open Go.ChangeShapes Go.WideShapes Go.ChangeAt Go.RowKit

theorem ints_nil (W : World) : Ints W (.slice none 0 0) [] :=
  ⟨[], rfl, by simp, ⟨none, 0, rfl, Nat.le_refl _, Nat.zero_le _, fun _ => rfl, fun h => absurd rfl h⟩, by simp⟩

/-- A slice of ints that came in. -/
theorem ints_in {H : Type} {enc : TypeId × Value → H} {W : World} {r : Reach} {b0 base : Nat} {spare : Nat → Bool} {held : Bool} {v : Value} {d : DataW H} {ps : List MemPlace} {t e : TypeId} {P : Program}
    (ht : P.underlying t = some (.slice e)) (he : P.underlying e = some (.int .i64)) (hc : P.cellsOf e = 1) (hsp : ∀ b, spare b = true)
    (hval : Value.okWide P W r b0 t v) (hd : DataW.Trod enc P W base spare held t v d ps) : ∃ xs, Ints W v xs := by
  obtain ⟨fuel, hf⟩ := hd
  obtain ⟨a0, len0, cap0, rfl⟩ := okWide_slice ht hval
  rcases open_ints ht he hc hf with ⟨hcs, hx⟩ | ⟨a, len, cap, zs, hcs, _, hl, hm, hz, hx, hcell, hwz⟩
  · simp [Value.cells] at hcs
    obtain ⟨rfl, rfl, rfl⟩ := hcs
    exact ⟨[], ints_nil W⟩
  · simp [Value.cells] at hcs
    obtain ⟨rfl, rfl, rfl⟩ := hcs
    rw [hsp, if_pos rfl] at hz
    have hlen : (zs.take len0).length = len0 := by rw [List.length_take]; omega
    refine ⟨zs.take len0, (zs.take len0).map fun x => [Value.int .i64 x], by simp, (by intro u hu; obtain ⟨x, _, rfl⟩ := List.mem_map.1 hu; rfl), ?_, ?_⟩
    · rw [flatten_one]
      refine ⟨some a, cap0, by rw [hlen], by rw [hlen]; exact hl, hm, (fun h => by cases h), fun hne => ?_⟩
      have hpos : 0 < len0 := by
        rcases Nat.eq_zero_or_pos len0 with h0 | h0
        · subst h0; simp at hne
        · exact h0
      have h0 := hcell 0 (by omega)
      have hs : a.spot = none := by
        cases hsp2 : a.spot with
        | none => rfl
        | some s =>
          have : W.cell? a = some (.int .i64 (zs.getD 0 0)) := by simpa [Addr.add] using h0
          unfold World.cell? at this
          rw [hsp2] at this
          split at this <;> simp at this
      refine ⟨a.block, a.off, by rw [← hs], lt_of_cell (by simpa [Addr.add] using h0), fun j u hu => ?_⟩
      rw [List.getElem?_map] at hu
      cases hj : (zs.take len0)[j]? with
      | none => simp [hj] at hu
      | some x =>
        simp [hj] at hu
        subst hu
        have hjl : j < len0 := by have := (List.getElem?_eq_some_iff.1 hj).1; omega
        have hc2 := hcell j (by omega)
        rw [List.getElem?_take, if_pos hjl] at hj
        rw [List.getD_eq_getElem?_getD, hj] at hc2
        unfold Addr.add at hc2
        by_cases hj0 : j = 0
        · subst hj0
          rw [if_pos rfl] at hc2
          have ha : a = ⟨a.block, a.off + 0, none⟩ := by cases a; simp only at hs; subst hs; rfl
          rw [ha] at hc2; exact hc2
        · rw [if_neg hj0] at hc2; exact hc2
    · intro j u x hu hx
      simp only [List.getElem?_map, hx, Option.map_some, Option.some.injEq] at hu
      refine ⟨hu.symm, ?_⟩
      have := hwz x (List.mem_of_mem_take (List.mem_of_getElem? hx))
      exact bounds_i64 this
end Go.Proofs.YtehknemdfbkimaaGreatDoor
