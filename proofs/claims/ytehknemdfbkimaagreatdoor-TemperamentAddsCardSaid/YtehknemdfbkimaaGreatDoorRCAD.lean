/- Merged: TAddW. -/
import Derived.Test.YtehknemdfbkimaaGreatDoorQBJ
import Derived.Test.YtehknemdfbkimaaGreatDoorRCAC
import Derived.Test.YtehknemdfbkimaaGreatDoorQBB
/- The walk of TemperamentAdds. Printed by gen/tadd.py. -/
namespace Go.Proofs.YtehknemdfbkimaaGreatDoor
set_option linter.unusedVariables false
set_option linter.unusedSimpArgs false
open Go.RowKit

set_option maxRecDepth 100000 in
set_option maxHeartbeats 4000000 in
theorem adds_walk (c : Int) (hc0 : 0 ≤ c) (hc1 : c ≤ 255) (vals : Bool) (xss : List (List Int)) (v : Value) (x : List Int) (hx : x.length = 8) (hxb : ∀ a ∈ x, -128 ≤ a ∧ a ≤ 127) (w : World) (h : Fours w v xss) (hlib : LibT w) (hp : 0 < w.heap.size) :
    Calls Tryz.prog 14 #[.agg #[.int .u8 c, v, .bool vals], .agg (x.map (Value.int .i8)).toArray] w fun e w' => e = .returned (.bool true) ∧ Ext w w' := by
  obtain ⟨P, hP⟩ : ∃ P, P = primes12 (c % 10).toNat := ⟨_, rfl⟩
  obtain ⟨n, hn⟩ : ∃ n, P.length = n := ⟨_, rfl⟩
  obtain ⟨hpr, hn1, hn4⟩ := primes12_ok (c % 10).toNat
  have hpb := primes12_bd (c % 10).toNat
  rw [← hP] at hpr hn1 hn4 hpb
  rw [hn] at hn1 hn4
  have HKN := Lib.hid (fun W (hW : Ext w W) => known18_any W (hlib.ext hW) (Nat.lt_of_lt_of_le hp hW.size))
  have HFI := Lib.hid (fun W (hW : Ext w W) => fits18_any c vals xss v W (h.ext hW))
  have hx4 : ∀ x ∈ xss, x.length = 4 := fun x hx => by
    obtain ⟨a, cp, rfl, k1, k2, kl, k4⟩ := ListAt.open h
    obtain ⟨j, hj⟩ := List.getElem?_of_mem hx
    obtain ⟨b, off, rfl, hb, hcell⟩ := k4 (by decide) (by intro e; rw [e] at hj; simp at hj)
    obtain ⟨u, hu, ⟨rfl, hx4, hxb⟩, hc⟩ := hcell j x hj
    exact hx4
  obtain ⟨x0, x1, x2, x3, x4, x5, x6, x7, rfl⟩ : ∃ y0 y1 y2 y3 y4 y5 y6 y7, x = [y0, y1, y2, y3, y4, y5, y6, y7] := by
    match x, hx with
    | [a, b, c, d, e, f, g, h], _ => exact ⟨a, b, c, d, e, f, g, h, rfl⟩
  obtain ⟨hm1, hm2⟩ := rows18_ok hn4 hx4 xss.length
  have hsh := h
  obtain ⟨a, cp, rfl, hxx1, hxx2, -⟩ := ListAt.open hsh
  unfold maxLen at hxx2
  obtain ⟨FT, hFT⟩ : ∃ b, decide (xss.length ≤ 3) = b := ⟨_, rfl⟩
  rw [hFT] at HFI
  cases FT with
  | false =>
    clear hm1 hm2 hx4 hsh h hlib hp hFT hpr hn1 hn4 hP hpb
    subst hn
    go_enter Tryz.func14, Tryz.ntmps14
    obtain ⟨W0, hW0⟩ : ∃ W0, w.alloc (.cells #[.int .u8 c, .slice a xss.length cp, .bool vals] 61) = W0 := ⟨_, rfl⟩
    have hE0 : Ext w W0 := by rw [← hW0]; exact Ext.alloc _ _
    have hP0 : W0.heap[w.heap.size]? = some (.cells #[.int .u8 c, .slice a xss.length cp, .bool vals] 61 (0, 0)) := by rw [← hW0]; exact block_new _ _ _
    obtain ⟨W9, hW9⟩ : ∃ W9, W0.alloc (.cells #[.int .i8 x0, .int .i8 x1, .int .i8 x2, .int .i8 x3, .int .i8 x4, .int .i8 x5, .int .i8 x6, .int .i8 x7] 98) = W9 := ⟨_, rfl⟩
    have hE9 : Ext W0 W9 := by rw [← hW9]; exact Ext.alloc _ _
    have HXB : Hid (W9.heap[W0.heap.size]? = some (.cells #[.int .i8 x0, .int .i8 x1, .int .i8 x2, .int .i8 x3, .int .i8 x4, .int .i8 x5, .int .i8 x6, .int .i8 x7] 98 (0, 0))) := by rw [← hW9]; exact block_new _ _ _
    have HE0 := Lib.hid (hE0.trans hE9); have HP0 := Lib.hid (block_ext hP0 hE9)
    clear hE0 hP0 hE9
    go_wp2_with fail
    clear hW0 hW9
    refine (HKN.out _ HE0.out).mono ?_
    rintro e w1 ⟨rfl, hE1⟩
    have HE1 := Lib.hid (HE0.out.trans hE1)
    have HP1 := Lib.hid (block_ext HP0.out hE1); have HXB := Lib.hid (block_ext HXB.out hE1)
    obtain ⟨p0, p1, p2⟩ := p18_block HP1.out
    clear hE1 HE0 HP0
    go_wp2_with fail
    refine (HFI.out _ HE1.out).mono ?_
    rintro e w2 ⟨rfl, hE2⟩
    have HE2 := Lib.hid (HE1.out.trans hE2)
    clear hE2 HE1 HFI
    go_wp2_with fail
    refine (HKN.out _ HE2.out).mono ?_
    rintro e w3 ⟨rfl, hE3⟩
    have HE3 := Lib.hid (HE2.out.trans hE3)
    clear hE3 HKN
    go_wp2_with fail
    go_ret
    exact ⟨rfl, HE3.out⟩
  | true =>
  have hx3 : xss.length ≤ 3 := of_decide_eq_true hFT
  obtain ⟨F, R, A, S, C, M, hD, hC, hM, hDC, hDM, hT⟩ := plan18 hn1 hn4 (by omega) (fun x hx => (hm2 x hx).1) (fun x hx => (hm2 x hx).2) P hpr hn vals
  have HWm : Wid n (rows18 n xss.length xss) := fun i hi => (hm2 _ (rowE_mem hi)).1
  have HMK := Lib.hid (fun W (hW : Ext w W) => make18_any c hc0 hc1 n F P hP hn xss hx3 vals _ W (h.ext hW) R A S hD (hlib.ext hW) (Nat.lt_of_lt_of_le hp hW.size))
  rw [hC, hM] at HMK
  have hRT := hT.right
  have hlC : C.length ≤ 4 := hT.lC
  have hlM : M.length ≤ 4 := hT.lM
  have HBM := Lib.hid hT.bM; have HBC := Lib.hid hT.bC
  have hoC : ∀ r ∈ C, okRow r := fun r hr => okRow_of (by have := (hRT.bC r hr).2; omega) ((hRT.bC r hr).1.mono (by decide))
  have hoM : ∀ r ∈ M, okRow r := fun r hr => okRow_of (by have := (hRT.bM r hr).2; omega) ((hRT.bM r hr).1.mono (by decide))
  have hmw : ∀ x ∈ rows18 n xss.length xss, x.length = n := fun x hx => (hm2 x hx).1
  have hm9 : ∀ x ∈ rows18 n xss.length xss, RowLe 9 x := fun x hx => (hm2 x hx).2
  have HIN := Lib.hid (fun W vp (hvp : Ints W vp P) (x : List Int) (h4 : x.length = 4) (hb : ∀ a ∈ x, -128 ≤ a ∧ a ≤ 127) => interval12_any n P x vp W hvp hn hn4 h4 hb)
  have HSM : Hid (∀ W, Ext w W → LibT W ∧ 0 < W.heap.size) := fun W hW => ⟨hlib.ext hW, Nat.lt_of_lt_of_le hp hW.size⟩
  have HXA : Hid (∀ a ∈ [x0, x1, x2, x3], -128 ≤ a ∧ a ≤ 127) := fun a ha => hxb a (by simp at ha ⊢; omega)
  have HXC : Hid (∀ a ∈ [x4, x5, x6, x7], -128 ≤ a ∧ a ≤ 127) := fun a ha => hxb a (by simp at ha ⊢; omega)
  have hXl : (row9 n [x0, x1, x2, x3]).length = n := row9_len (by simpa using hn4)
  have hYl : (row9 n [x4, x5, x6, x7]).length = n := row9_len (by simpa using hn4)
  have hX9 : RowLe 9 (row9 n [x0, x1, x2, x3]) := fun y hy => by have := row9_bd y hy; omega
  have hY9 : RowLe 9 (row9 n [x4, x5, x6, x7]) := fun y hy => by have := row9_bd y hy; omega
  obtain ⟨X, hX⟩ : ∃ X, row9 n [x0, x1, x2, x3] = X := ⟨_, rfl⟩
  obtain ⟨Y, hY⟩ : ∃ Y, row9 n [x4, x5, x6, x7] = Y := ⟨_, rfl⟩
  rw [hX] at hXl hX9
  rw [hY] at hYl hY9
  have HIX : Hid (∀ W vp, Ints W vp P → Calls Tryz.prog 47 #[vp, .agg #[.int .i8 x0, .int .i8 x1, .int .i8 x2, .int .i8 x3]] W fun e w' => ∃ a c, e = .returned (.slice a n c) ∧ Ints w' (.slice a n c) X ∧ Ext W w') := fun W vp hvp => (HIN.out W vp hvp [x0, x1, x2, x3] rfl HXA.out).mono fun e w' ⟨a, c, h1, h2, h3⟩ => by
    rw [hX] at h2
    exact ⟨a, c, h1, Ints.of_owns (by rw [hXl]; exact h2) (fun y hy => by have := hX9 y hy; omega), h3⟩
  have HIY : Hid (∀ W vp, Ints W vp P → Calls Tryz.prog 47 #[vp, .agg #[.int .i8 x4, .int .i8 x5, .int .i8 x6, .int .i8 x7]] W fun e w' => ∃ a c, e = .returned (.slice a n c) ∧ Ints w' (.slice a n c) Y ∧ Ext W w') := fun W vp hvp => (HIN.out W vp hvp [x4, x5, x6, x7] rfl HXC.out).mono fun e w' ⟨a, c, h1, h2, h3⟩ => by
    rw [hY] at h2
    exact ⟨a, c, h1, Ints.of_owns (by rw [hYl]; exact h2) (fun y hy => by have := hY9 y hy; omega), h3⟩
  obtain ⟨ps, hCf⟩ := hT.hC
  obtain ⟨s, ms, a1, a2, a3, a4, a5⟩ := plan_red hCf hT.lC hT.bC hXl (hX9.mono (by decide))
  obtain ⟨t, mt, b1, b2, b3, b4, b5⟩ := plan_red hCf hT.lC hT.bC hYl (hY9.mono (by decide))
  have hsb := repr_bound hn4 hmw hm9 hT hCf hXl hX9 ⟨a2, a4, a5⟩
  have htb := repr_bound hn4 hmw hm9 hT hCf hYl hY9 ⟨b2, b4, b5⟩
  obtain ⟨hsame, hown⟩ := same_repr hn4 hmw hm9 hT hCf hXl hYl ⟨a2, a4, a5⟩ ⟨b2, b4, b5⟩
  have hMb : ∀ r ∈ M, RowLe 629856 r := fun r hr => (hT.bM r hr).1
  have HTE : Hid (∀ W v vx z, Ext w W → TempV W v P C M → Ints W vx z → z.length = n → RowLe 18 z → Calls Tryz.prog 60 #[v, vx] W fun e w' => ∃ a c, e = .returned (.tuple #[.slice a M.length c, .int .i64 0]) ∧ Ints w' (.slice a M.length c) (temL M z n) ∧ Ext W w') := fun W v vx z hW hv hi hz hb =>
    (temperR_any n F P C M z v vx W hv hi hRT (allE_single hz (by omega) (hb.mono (by decide))) (HSM.out W hW).1 (HSM.out W hW).2).mono fun e w' h => h.fit ((tem_bound hn4 hb hMb).mono (by decide)) (by unfold temL; simp)
  have HRX : Hid (∀ W v vx, Ext w W → TempV W v P C M → Ints W vx X → Calls Tryz.prog 61 #[v, vx] W fun e w' => ∃ a c, e = .returned (.tuple #[.slice a n c, .int .i64 0]) ∧ Ints w' (.slice a n c) s ∧ Ext W w') := fun W v vx hW hv hi =>
    (trepr_any n F P C M X s ms v vx W hv hi hRT (allE_single hXl (by omega) (hX9.mono (by decide))) a1 a3 (HSM.out W hW).1 (HSM.out W hW).2).mono fun e w' h => h.fit hsb a2
  have HRY : Hid (∀ W v vx, Ext w W → TempV W v P C M → Ints W vx Y → Calls Tryz.prog 61 #[v, vx] W fun e w' => ∃ a c, e = .returned (.tuple #[.slice a n c, .int .i64 0]) ∧ Ints w' (.slice a n c) t ∧ Ext W w') := fun W v vx hW hv hi =>
    (trepr_any n F P C M Y t mt v vx W hv hi hRT (allE_single hYl (by omega) (hY9.mono (by decide))) b1 b3 (HSM.out W hW).1 (HSM.out W hW).2).mono fun e w' h => h.fit htb b2
  have HI1 : Hid (∀ W v vx vy, Ext w W → TempV W v P C M → Ints W vx X → Ints W vy Y → Calls Tryz.prog 43 #[v, vx, vy] W fun e w' => e = .returned (.tuple #[.bool (s == t), .int .i64 0]) ∧ Ext W w') := fun W v vx vy hW hv hi hj => by
    have := identified_any n F P C M X Y v vx vy W hv hi hj hRT (allE_both hXl hYl (by omega) (hX9.mono (by decide)) (hY9.mono (by decide))) (HSM.out W hW).1 (HSM.out W hW).2
    rw [hsame] at this
    exact this
  have HI2 : Hid (∀ W v vx vy, Ext w W → TempV W v P C M → Ints W vx X → Ints W vy s → Calls Tryz.prog 43 #[v, vx, vy] W fun e w' => e = .returned (.tuple #[.bool true, .int .i64 0]) ∧ Ext W w') := fun W v vx vy hW hv hi hj => by
    have := identified_any n F P C M X s v vx vy W hv hi hj hRT (allE_both hXl a2 (by omega) (hX9.mono (by decide)) hsb) (HSM.out W hW).1 (HSM.out W hW).2
    rw [show (temL M X n == temL M s n) = true by rw [hown]; simp] at this
    exact this
  have hTX : RowLe 400000000 (temL M X n) := (tem_bound hn4 hX9 hMb).mono (by decide)
  have hTY : RowLe 400000000 (temL M Y n) := (tem_bound hn4 hY9 hMb).mono (by decide)
  have HAX : Hid (∀ W u v, Ints W u X → Ints W v Y → Calls Tryz.prog 69 #[u, v] W fun e w' => ∃ a c, e = .returned (.tuple #[.slice a n c, .int .i64 0]) ∧ Ints w' (.slice a n c) (addL X Y) ∧ Ext W w') := fun W u v hi hj =>
    rowAdd_ok hXl hYl (by omega) (hX9.mono (by decide)) (hY9.mono (by decide)) u v W hi hj
  have HAT : Hid (∀ W u v, Ints W u (temL M X n) → Ints W v (temL M Y n) → Calls Tryz.prog 69 #[u, v] W fun e w' => ∃ a c, e = .returned (.tuple #[.slice a M.length c, .int .i64 0]) ∧ Ints w' (.slice a M.length c) (temL M (addL X Y) n) ∧ Ext W w') := fun W u v hi hj => by
    rw [temL_add (by omega)]
    exact rowAdd_ok (by unfold temL; simp) (by unfold temL; simp) (by omega) hTX hTY u v W hi hj
  have HXL : Hid (X.length = n) := hXl
  have HYL : Hid (Y.length = n) := hYl
  have HX18 : Hid (RowLe 18 X) := hX9.mono (by decide)
  have HY18 : Hid (RowLe 18 Y) := hY9.mono (by decide)
  have HZL : Hid ((addL X Y).length = n) := addL_len hXl hYl
  have HZ18 : Hid (RowLe 18 (addL X Y)) := addL_le hX9 hY9
  have HEQ : Hid (∀ W u v (xs ys : List Int), Ints W u xs → Ints W v ys → Calls Tryz.prog 30 #[u, v] W fun e w' => e = .returned (.bool (xs == ys)) ∧ Ext W w') := fun W u v xs ys h k => rowEqual_any xs ys u v W h k
  obtain ⟨Z, hZ⟩ : ∃ Z, addL X Y = Z := ⟨_, rfl⟩
  rw [hZ] at HAX HAT HZL HZ18
  obtain ⟨ST, hST⟩ : ∃ b, (s == t) = b := ⟨_, rfl⟩
  rw [hST] at HI1
  have HST := Lib.hid hST
  clear hmw hm9 hXl hYl hX9 hY9 hX hY hCf a1 a2 a3 a4 a5 b1 b2 b3 b4 b5 hsb htb hsame hown hMb hTX hTY hZ hST HIN
  clear hm1 hm2 hx4 hsh h hlib hp hFT hpr hP hD hDC hDM hT HWm hRT hC hM hn1 hpb hoC hoM
  subst hn
  go_enter Tryz.func14, Tryz.ntmps14
  obtain ⟨W0, hW0⟩ : ∃ W0, w.alloc (.cells #[.int .u8 c, .slice a xss.length cp, .bool vals] 61) = W0 := ⟨_, rfl⟩
  have hE0 : Ext w W0 := by rw [← hW0]; exact Ext.alloc _ _
  have hP0 : W0.heap[w.heap.size]? = some (.cells #[.int .u8 c, .slice a xss.length cp, .bool vals] 61 (0, 0)) := by rw [← hW0]; exact block_new _ _ _
  obtain ⟨W9, hW9⟩ : ∃ W9, W0.alloc (.cells #[.int .i8 x0, .int .i8 x1, .int .i8 x2, .int .i8 x3, .int .i8 x4, .int .i8 x5, .int .i8 x6, .int .i8 x7] 98) = W9 := ⟨_, rfl⟩
  have hE9 : Ext W0 W9 := by rw [← hW9]; exact Ext.alloc _ _
  have HXB : Hid (W9.heap[W0.heap.size]? = some (.cells #[.int .i8 x0, .int .i8 x1, .int .i8 x2, .int .i8 x3, .int .i8 x4, .int .i8 x5, .int .i8 x6, .int .i8 x7] 98 (0, 0))) := by rw [← hW9]; exact block_new _ _ _
  have HE0 := Lib.hid (hE0.trans hE9); have HP0 := Lib.hid (block_ext hP0 hE9)
  clear hE0 hP0 hE9
  go_wp2_with fail
  clear hW0 hW9
  refine (HKN.out _ HE0.out).mono ?_
  rintro e w1 ⟨rfl, hE1⟩
  have HE1 := Lib.hid (HE0.out.trans hE1)
  have HP1 := Lib.hid (block_ext HP0.out hE1); have HXB := Lib.hid (block_ext HXB.out hE1)
  obtain ⟨p0, p1, p2⟩ := p18_block HP1.out
  clear hE1 HE0 HP0
  go_wp2_with fail
  refine (HFI.out _ HE1.out).mono ?_
  rintro e w2 ⟨rfl, hE2⟩
  have HE2 := Lib.hid (HE1.out.trans hE2)
  have HP2 := Lib.hid (block_ext HP1.out hE2); have HXB := Lib.hid (block_ext HXB.out hE2)
  clear hE2 HE1 HFI HP1 p0 p1 p2
  obtain ⟨p0, p1, p2⟩ := p18_block HP2.out
  go_wp2_with fail
  refine (HMK.out _ HE2.out).mono ?_
  rintro e w3 ⟨u, rfl, hS, hE⟩
  have HEC3 := Lib.hid (HE2.out.trans hE); have HXB := Lib.hid (block_ext HXB.out hE)
  clear hE HE2 HP2 HMK p0 p1 p2
  obtain ⟨p3, c3, m3, rfl, hvp, hvc, hvm⟩ := hS
  have HTV3 : Hid (TempV w3 (.agg #[p3, c3, m3]) P C M) := ⟨_, _, _, rfl, hvp, hvc, hvm⟩
  obtain ⟨ap3, kp3, rfl, -⟩ := hvp.open
  obtain ⟨ac3, kc3, rfl, -⟩ := inCell.open hvc
  obtain ⟨am3, km3, rfl, -⟩ := inCell.open hvm
  clear hvp hvc hvm
  obtain ⟨V3, hV3, hXV, hsV, hbV⟩ := tp_new w3 (.slice none 0 0) (.slice none 0 0) (.slice none 0 0)
  obtain ⟨r0, r1, r2, rf⟩ := tp_block hbV
  have f0 := rf 0; have f1 := rf 1; have f2 := rf 2
  have HB3 := Lib.hid (tp_store hbV (.slice ap3 P.length kp3) (.slice ac3 C.length kc3) (.slice am3 M.length km3))
  have HXU3 := Lib.hid (ext_tp hXV (Nat.le_refl _) (.slice ap3 P.length kp3) (.slice ac3 C.length kc3) (.slice am3 M.length km3))
  clear hXV hsV hbV rf
  obtain ⟨U3, hU3⟩ : ∃ U, ((V3.setCell ⟨w3.heap.size, 0, none⟩ (.slice ap3 P.length kp3)).setCell ⟨w3.heap.size, 1, none⟩ (.slice ac3 C.length kc3)).setCell ⟨w3.heap.size, 2, none⟩ (.slice am3 M.length km3) = U := ⟨_, rfl⟩
  rw [hU3] at HB3 HXU3
  have HE3 := Lib.hid (HEC3.out.trans HXU3.out)
  have HTV3 := Lib.hid (HTV3.out.ext HXU3.out)
  have HXB := Lib.hid (block_ext HXB.out HXU3.out)
  clear HXU3 HEC3
  obtain ⟨s0, s1, s2, -⟩ := tp_block HB3.out
  have e0 := block_cell HXB.out 0
  have e1 := block_cell HXB.out 1
  have e2 := block_cell HXB.out 2
  have e3 := block_cell HXB.out 3
  have e4 := block_cell HXB.out 4
  have e5 := block_cell HXB.out 5
  have e6 := block_cell HXB.out 6
  have e7 := block_cell HXB.out 7
  simp only [List.getElem?_toArray, List.getElem?_cons_zero, List.getElem?_cons_succ] at e0 e1 e2 e3 e4 e5 e6 e7
  obtain ⟨t0, t1, t2, hq, hq0, -⟩ := HTV3.out
  simp only [Value.agg.injEq, Array.mk.injEq, List.cons.injEq, and_true] at hq
  obtain ⟨rfl, rfl, rfl⟩ := hq
  have HPI := Lib.hid hq0
  clear hq0
  go_upto_region 4 with fail
  clear hU3 hV3 r0 r1 r2 f0 f1 f2
  refine region_anyEV (fun w' => w'.cell? ⟨w3.heap.size, 0, none⟩ = some (.slice ap3 P.length kp3) ∧ w'.cell? ⟨W0.heap.size, 0, none⟩ = some (.int .i8 x0) ∧ w'.cell? ⟨W0.heap.size, 1, none⟩ = some (.int .i8 x1) ∧ w'.cell? ⟨W0.heap.size, 2, none⟩ = some (.int .i8 x2) ∧ w'.cell? ⟨W0.heap.size, 3, none⟩ = some (.int .i8 x3) ∧ w'.cell? ⟨W0.heap.size, 4, none⟩ = some (.int .i8 x4) ∧ w'.cell? ⟨W0.heap.size, 5, none⟩ = some (.int .i8 x5) ∧ w'.cell? ⟨W0.heap.size, 6, none⟩ = some (.int .i8 x6) ∧ w'.cell? ⟨W0.heap.size, 7, none⟩ = some (.int .i8 x7) ∧ Hid (Ext U3 w')) 12 12 (by kernel_rfl) (by kernel_rfl) ⟨(Ext.drew U3).cell s0, (Ext.drew U3).cell e0, (Ext.drew U3).cell e1, (Ext.drew U3).cell e2, (Ext.drew U3).cell e3, (Ext.drew U3).cell e4, (Ext.drew U3).cell e5, (Ext.drew U3).cell e6, (Ext.drew U3).cell e7, Ext.drew U3⟩ (fun ops hO hHeld => ?_)
  generalize U3.drew = wd at hHeld ⊢
  have hi := getopN hO 0 (by decide)
  conv at hi => rhs; arg 1; whnf
  refine anyE_takeWV hO (v := ?_) 0 hi (by kernel_rfl) (by kernel_rfl) (by kernel_rfl) (by kernel_rfl) (fun _ _ _ h => h) (Or.inl ⟨by rfl, ?_⟩) (by assumption) ?_
  rotate_left
  · ((intro w'); (try go_simp); (try with_reducible rfl))
  clear hi
  (try simp only [Act.put, List.setIfInBounds_toArray, List.set_cons_zero, List.set_cons_succ])
  have hi := getopN hO 1 (by decide)
  conv at hi => rhs; arg 1; whnf
  refine anyE_takeV hO (v := ?_) 1 hi (by kernel_rfl) (by kernel_rfl) (by kernel_rfl) (by kernel_rfl) (fun _ _ _ h => h) (Or.inl ⟨by rfl, ?_⟩) (by assumption) ?_
  rotate_left
  · ((intro w' hSw); (try dsimp only at hSw); (try go_simp); (try with_reducible rfl))
  clear hi
  (try simp only [Act.put, List.setIfInBounds_toArray, List.set_cons_zero, List.set_cons_succ])
  have hi := getopN hO 2 (by decide)
  conv at hi => rhs; arg 1; whnf
  refine anyE_takeWV hO (v := ?_) 2 hi (by kernel_rfl) (by kernel_rfl) (by kernel_rfl) (by kernel_rfl) (fun _ _ _ h => h) (Or.inl ⟨by rfl, ?_⟩) (by assumption) ?_
  rotate_left
  · ((intro w'); (try go_simp); (try with_reducible rfl))
  clear hi
  (try simp only [Act.put, List.setIfInBounds_toArray, List.set_cons_zero, List.set_cons_succ])
  have hi := getopN hO 3 (by decide)
  conv at hi => rhs; arg 1; whnf
  refine anyE_takeV hO (v := ?_) 3 hi (by kernel_rfl) (by kernel_rfl) (by kernel_rfl) (by kernel_rfl) (fun _ _ _ h => h) (Or.inl ⟨by rfl, ?_⟩) (by assumption) ?_
  rotate_left
  · ((intro w' hSw); (try dsimp only at hSw); (try go_simp); (try with_reducible rfl))
  clear hi
  (try simp only [Act.put, List.setIfInBounds_toArray, List.set_cons_zero, List.set_cons_succ])
  have hi := getopN hO 5 (by decide)
  conv at hi => rhs; arg 1; whnf
  refine anyE_takeWV hO (v := ?_) 5 hi (by kernel_rfl) (by kernel_rfl) (by kernel_rfl) (by kernel_rfl) (fun _ _ _ h => h) (Or.inl ⟨by rfl, ?_⟩) (by assumption) ?_
  rotate_left
  · ((intro w'); (try go_simp); (try with_reducible rfl))
  clear hi
  (try simp only [Act.put, List.setIfInBounds_toArray, List.set_cons_zero, List.set_cons_succ])
  have hi := getopN hO 6 (by decide)
  conv at hi => rhs; arg 1; whnf
  refine anyE_takeV hO (v := ?_) 6 hi (by kernel_rfl) (by kernel_rfl) (by kernel_rfl) (by kernel_rfl) (fun _ _ _ h => h) (Or.inl ⟨by rfl, ?_⟩) (by assumption) ?_
  rotate_left
  · ((intro w' hSw); (try dsimp only at hSw); (try go_simp); (try with_reducible rfl))
  clear hi
  (try simp only [Act.put, List.setIfInBounds_toArray, List.set_cons_zero, List.set_cons_succ])
  have hi := getopN hO 7 (by decide)
  conv at hi => rhs; arg 1; whnf
  refine anyE_takeWV hO (v := ?_) 7 hi (by kernel_rfl) (by kernel_rfl) (by kernel_rfl) (by kernel_rfl) (fun _ _ _ h => h) (Or.inl ⟨by rfl, ?_⟩) (by assumption) ?_
  rotate_left
  · ((intro w'); (try go_simp); (try with_reducible rfl))
  clear hi
  (try simp only [Act.put, List.setIfInBounds_toArray, List.set_cons_zero, List.set_cons_succ])
  have hi := getopN hO 8 (by decide)
  conv at hi => rhs; arg 1; whnf
  refine anyE_takeV hO (v := ?_) 8 hi (by kernel_rfl) (by kernel_rfl) (by kernel_rfl) (by kernel_rfl) (fun _ _ _ h => h) (Or.inl ⟨by rfl, ?_⟩) (by assumption) ?_
  rotate_left
  · ((intro w' hSw); (try dsimp only at hSw); (try go_simp); (try with_reducible rfl))
  clear hi
  (try simp only [Act.put, List.setIfInBounds_toArray, List.set_cons_zero, List.set_cons_succ])
  have hi := getopN hO 4 (by decide)
  conv at hi => rhs; arg 1; whnf
  refine anyE_stepV hO 4 (by kernel_rfl) hi (fun K hK => ?_)
  go_simp
  (go_at_call 47; refine (HIX.out _ _ (HPI.out.ext (hHeld.2.2.2.2.2.2.2.2.2.out))).mono ?_)
  rintro e w4 ⟨ax, cx, rfl, hix, hEz⟩
  have HXI := Lib.hid hix
  clear hix
  go_wp2_with fail
  refine hK.out _ _ ⟨(hEz).cell hHeld.1, (hEz).cell hHeld.2.1, (hEz).cell hHeld.2.2.1, (hEz).cell hHeld.2.2.2.1, (hEz).cell hHeld.2.2.2.2.1, (hEz).cell hHeld.2.2.2.2.2.1, (hEz).cell hHeld.2.2.2.2.2.2.1, (hEz).cell hHeld.2.2.2.2.2.2.2.1, (hEz).cell hHeld.2.2.2.2.2.2.2.2.1, Ext.trans hHeld.2.2.2.2.2.2.2.2.2.out (hEz)⟩ (fun hHeld => ?_)
  clear hK K hi
  (try simp only [Act.put, List.setIfInBounds_toArray, List.set_cons_zero, List.set_cons_succ])
  have hi := getopN hO 9 (by decide)
  conv at hi => rhs; arg 1; whnf
  refine anyE_stepV hO 9 (by kernel_rfl) hi (fun K hK => ?_)
  go_simp
  (go_at_call 47; refine (HIY.out _ _ (HPI.out.ext (hHeld.2.2.2.2.2.2.2.2.2.out))).mono ?_)
  rintro e w5 ⟨ay, cy, rfl, hiy, hEz⟩
  have HXI := Lib.hid (HXI.out.ext hEz)
  have HYI := Lib.hid hiy
  clear hiy
  go_wp2_with fail
  refine hK.out _ _ ⟨(hEz).cell hHeld.1, (hEz).cell hHeld.2.1, (hEz).cell hHeld.2.2.1, (hEz).cell hHeld.2.2.2.1, (hEz).cell hHeld.2.2.2.2.1, (hEz).cell hHeld.2.2.2.2.2.1, (hEz).cell hHeld.2.2.2.2.2.2.1, (hEz).cell hHeld.2.2.2.2.2.2.2.1, (hEz).cell hHeld.2.2.2.2.2.2.2.2.1, Ext.trans hHeld.2.2.2.2.2.2.2.2.2.out (hEz)⟩ (fun hHeld => ?_)
  clear hK K hi
  (try simp only [Act.put, List.setIfInBounds_toArray, List.set_cons_zero, List.set_cons_succ])
  have HZE := Lib.hid (hHeld.2.2.2.2.2.2.2.2.2.out)
  have hi := getopN hO 10 (by decide)
  conv at hi => rhs; arg 1; whnf
  refine anyE_takeWV hO (v := ?_) 10 hi (by kernel_rfl) (by kernel_rfl) (by kernel_rfl) (by kernel_rfl) (fun _ _ _ h => h) (Or.inl ⟨by rfl, ?_⟩) (by assumption) ?_
  rotate_left
  · ((intro w'); (try go_simp); (try with_reducible rfl))
  clear hi
  (try simp only [Act.put, List.setIfInBounds_toArray, List.set_cons_zero, List.set_cons_succ])
  have hi := getopN hO 11 (by decide)
  conv at hi => rhs; arg 1; whnf
  refine anyE_lastV hO 11 (by kernel_rfl) (by kernel_rfl) hi (fun K hK => ?_)
  go_simp
  refine hK.out _ _ (by assumption) ?_
  clear hK K hi hO
  (try simp only [Act.put, List.setIfInBounds_toArray, List.set_cons_zero, List.set_cons_succ])
  have HE5 := Lib.hid (HE3.out.trans HZE.out); have HB5 := Lib.hid (block_ext HB3.out HZE.out); have HTV5 := Lib.hid (HTV3.out.ext HZE.out)
  clear s0 s1 s2 e0 e1 e2 e3 e4 e5 e6 e7 HZE HE3 HB3 HTV3 HXB HPI HIX HIY
  obtain ⟨s0, s1, s2, -⟩ := tp_block HB5.out
  go_wp2_with fail
  refine (HAX.out _ _ _ HXI.out HYI.out).mono ?_
  rintro e w6 ⟨az, cz, rfl, hiz, hE6⟩
  have HZI := Lib.hid hiz
  clear s0 s1 s2
  have HE6 := Lib.hid (HE5.out.trans hE6); have HB6 := Lib.hid (block_ext HB5.out hE6); have HTV6 := Lib.hid (HTV5.out.ext hE6)
  have HXI := Lib.hid (HXI.out.ext hE6)
  have HYI := Lib.hid (HYI.out.ext hE6)
  obtain ⟨s0, s1, s2, -⟩ := tp_block HB6.out
  clear hiz hE6 HE5 HB5 HTV5 HAX
  go_wp2_with fail
  refine (HTE.out _ _ _ _ HE6.out HTV6.out HXI.out HXL.out HX18.out).mono ?_
  rintro e w7 ⟨aa, ca, rfl, hia, hE7⟩
  have HAI := Lib.hid hia
  clear s0 s1 s2
  have HE7 := Lib.hid (HE6.out.trans hE7); have HB7 := Lib.hid (block_ext HB6.out hE7); have HTV7 := Lib.hid (HTV6.out.ext hE7)
  have HXI := Lib.hid (HXI.out.ext hE7)
  have HYI := Lib.hid (HYI.out.ext hE7)
  have HZI := Lib.hid (HZI.out.ext hE7)
  obtain ⟨s0, s1, s2, -⟩ := tp_block HB7.out
  clear hia hE7 HE6 HB6 HTV6
  go_wp2_with fail
  refine (HTE.out _ _ _ _ HE7.out HTV7.out HYI.out HYL.out HY18.out).mono ?_
  rintro e w8 ⟨ab, cb, rfl, hib, hE8⟩
  have HBI := Lib.hid hib
  clear s0 s1 s2
  have HE8 := Lib.hid (HE7.out.trans hE8); have HB8 := Lib.hid (block_ext HB7.out hE8); have HTV8 := Lib.hid (HTV7.out.ext hE8)
  have HXI := Lib.hid (HXI.out.ext hE8)
  have HYI := Lib.hid (HYI.out.ext hE8)
  have HZI := Lib.hid (HZI.out.ext hE8)
  have HAI := Lib.hid (HAI.out.ext hE8)
  obtain ⟨s0, s1, s2, -⟩ := tp_block HB8.out
  clear hib hE8 HE7 HB7 HTV7
  go_wp2_with fail
  refine (HTE.out _ _ _ _ HE8.out HTV8.out HZI.out HZL.out HZ18.out).mono ?_
  rintro e w9 ⟨ac, cc, rfl, hic, hE9⟩
  have HCI := Lib.hid hic
  clear s0 s1 s2
  have HE9 := Lib.hid (HE8.out.trans hE9); have HB9 := Lib.hid (block_ext HB8.out hE9); have HTV9 := Lib.hid (HTV8.out.ext hE9)
  have HXI := Lib.hid (HXI.out.ext hE9)
  have HYI := Lib.hid (HYI.out.ext hE9)
  have HAI := Lib.hid (HAI.out.ext hE9)
  have HBI := Lib.hid (HBI.out.ext hE9)
  obtain ⟨s0, s1, s2, -⟩ := tp_block HB9.out
  clear hic hE9 HE8 HB8 HTV8 HZI
  go_wp2_with fail
  refine (HAT.out _ _ _ HAI.out HBI.out).mono ?_
  rintro e w10 ⟨ad, cd, rfl, hid, hE10⟩
  have HDI := Lib.hid hid
  clear s0 s1 s2
  have HE10 := Lib.hid (HE9.out.trans hE10); have HB10 := Lib.hid (block_ext HB9.out hE10); have HTV10 := Lib.hid (HTV9.out.ext hE10)
  have HXI := Lib.hid (HXI.out.ext hE10)
  have HYI := Lib.hid (HYI.out.ext hE10)
  have HCI := Lib.hid (HCI.out.ext hE10)
  obtain ⟨s0, s1, s2, -⟩ := tp_block HB10.out
  clear hid hE10 HE9 HB9 HTV9 HAI HBI HAT
  have hEQ := HEQ.out _ _ _ _ _ HCI.out HDI.out
  rw [show (temL M Z P.length == temL M Z P.length) = true by simp] at hEQ
  have HE1Q := Lib.hid hEQ
  clear hEQ
  go_wp2_with fail
  refine HE1Q.out.mono ?_
  rintro e w11 ⟨rfl, hE11⟩
  clear s0 s1 s2
  have HE11 := Lib.hid (HE10.out.trans hE11); have HB11 := Lib.hid (block_ext HB10.out hE11); have HTV11 := Lib.hid (HTV10.out.ext hE11)
  have HXI := Lib.hid (HXI.out.ext hE11)
  have HYI := Lib.hid (HYI.out.ext hE11)
  obtain ⟨s0, s1, s2, -⟩ := tp_block HB11.out
  clear hE11 HE10 HB10 HTV10 HCI HDI HE1Q
  go_wp2_with fail
  refine (HRX.out _ _ _ HE11.out HTV11.out HXI.out).mono ?_
  rintro e w12 ⟨au, cu, rfl, hiu, hE12⟩
  have HUI := Lib.hid hiu
  clear s0 s1 s2
  have HE12 := Lib.hid (HE11.out.trans hE12); have HB12 := Lib.hid (block_ext HB11.out hE12); have HTV12 := Lib.hid (HTV11.out.ext hE12)
  have HXI := Lib.hid (HXI.out.ext hE12)
  have HYI := Lib.hid (HYI.out.ext hE12)
  obtain ⟨s0, s1, s2, -⟩ := tp_block HB12.out
  clear hiu hE12 HE11 HB11 HTV11 HRX
  go_wp2_with fail
  refine (HRY.out _ _ _ HE12.out HTV12.out HYI.out).mono ?_
  rintro e w13 ⟨av, cv, rfl, hiv, hE13⟩
  have HVI := Lib.hid hiv
  clear s0 s1 s2
  have HE13 := Lib.hid (HE12.out.trans hE13); have HB13 := Lib.hid (block_ext HB12.out hE13); have HTV13 := Lib.hid (HTV12.out.ext hE13)
  have HXI := Lib.hid (HXI.out.ext hE13)
  have HYI := Lib.hid (HYI.out.ext hE13)
  have HUI := Lib.hid (HUI.out.ext hE13)
  obtain ⟨s0, s1, s2, -⟩ := tp_block HB13.out
  clear hiv hE13 HE12 HB12 HTV12 HRY
  go_wp2_with fail
  refine (HI1.out _ _ _ _ HE13.out HTV13.out HXI.out HYI.out).mono ?_
  rintro e w14 ⟨rfl, hE14⟩
  clear s0 s1 s2
  have HE14 := Lib.hid (HE13.out.trans hE14); have HB14 := Lib.hid (block_ext HB13.out hE14); have HTV14 := Lib.hid (HTV13.out.ext hE14)
  have HXI := Lib.hid (HXI.out.ext hE14)
  have HUI := Lib.hid (HUI.out.ext hE14)
  have HVI := Lib.hid (HVI.out.ext hE14)
  obtain ⟨s0, s1, s2, -⟩ := tp_block HB14.out
  clear hE14 HE13 HB13 HTV13 HI1 HYI
  go_wp2_with fail
  refine (HI2.out _ _ _ _ HE14.out HTV14.out HXI.out HUI.out).mono ?_
  rintro e w15 ⟨rfl, hE15⟩
  clear s0 s1 s2
  have HE15 := Lib.hid (HE14.out.trans hE15); have HB15 := Lib.hid (block_ext HB14.out hE15); have HTV15 := Lib.hid (HTV14.out.ext hE15)
  have HUI := Lib.hid (HUI.out.ext hE15)
  have HVI := Lib.hid (HVI.out.ext hE15)
  obtain ⟨s0, s1, s2, -⟩ := tp_block HB15.out
  clear hE15 HE14 HB14 HTV14 HI2 HXI s0 s1 s2
  have hEQ := HEQ.out _ _ _ _ _ HUI.out HVI.out
  rw [HST.out] at hEQ
  have HE1Q := Lib.hid hEQ
  have hz : (ST == ST) = true := by cases ST <;> rfl
  clear hEQ
  go_wp2_with fail
  refine HE1Q.out.mono ?_
  rintro e w16 ⟨rfl, hE16⟩
  have HE16 := Lib.hid (HE15.out.trans hE16)
  clear hE16 HE15 HE1Q HUI HVI
  go_wp2_with fail
  go_ret
  exact ⟨rfl, HE16.out⟩
end Go.Proofs.YtehknemdfbkimaaGreatDoor
