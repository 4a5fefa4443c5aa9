/- Merged: TTemW. -/
import Derived.Test.YtehknemdfbkimaaGreatDoorQBJ
import Derived.Test.YtehknemdfbkimaaGreatDoorRBAA
import Derived.Test.YtehknemdfbkimaaGreatDoorRBAB
import Derived.Test.YtehknemdfbkimaaGreatDoorQBH
import Derived.Test.YtehknemdfbkimaaGreatDoorQBB
/- The walk of TemperamentTempers. Printed by gen/ttem.py. -/
namespace Go.Proofs.YtehknemdfbkimaaGreatDoor
set_option linter.unusedVariables false
set_option linter.unusedSimpArgs false
open Go.RowKit

set_option maxRecDepth 100000 in
set_option maxHeartbeats 4000000 in
theorem tempers_walk (c : Int) (hc0 : 0 ≤ c) (hc1 : c ≤ 255) (vals : Bool) (xss : List (List Int)) (v : Value) (x : List Int) (vx : Value) (w : World) (h : Fours w v xss) (hx : Ints w vx x) (hlib : LibT w) (hp : 0 < w.heap.size) :
    Calls Tryz.prog 12 #[.agg #[.int .u8 c, v, .bool vals], vx] w fun e w' => e = .returned (.bool true) ∧ Ext w w' := by
  obtain ⟨P, hP⟩ : ∃ P, P = primes12 (c % 10).toNat := ⟨_, rfl⟩
  obtain ⟨n, hn⟩ : ∃ n, P.length = n := ⟨_, rfl⟩
  obtain ⟨hpr, hn1, hn4⟩ := primes12_ok (c % 10).toNat
  have hpb := primes12_bd (c % 10).toNat
  rw [← hP] at hpr hn1 hn4 hpb
  rw [hn] at hn1 hn4
  have HKN := Lib.hid (fun W (hW : Ext w W) => known18_any W (hlib.ext hW) (Nat.lt_of_lt_of_le hp hW.size))
  have HFI := Lib.hid (fun W (hW : Ext w W) => fits18_any c vals xss v W (h.ext hW))
  have hx4 : ∀ x ∈ xss, x.length = 4 := fun x hx => by
    obtain ⟨a, cp, rfl, k1, k2, kl, k4⟩ := ListAt.open h
    obtain ⟨j, hj⟩ := List.getElem?_of_mem hx
    obtain ⟨b, off, rfl, hb, hcell⟩ := k4 (by decide) (by intro e; rw [e] at hj; simp at hj)
    obtain ⟨u, hu, ⟨rfl, hx4, hxb⟩, hc⟩ := hcell j x hj
    exact hx4
  obtain ⟨hm1, hm2⟩ := rows18_ok hn4 hx4 xss.length
  have hsh := h
  obtain ⟨a, cp, rfl, hxx1, hxx2, -⟩ := ListAt.open hsh
  unfold maxLen at hxx2
  obtain ⟨FT, hFT⟩ : ∃ b, decide (xss.length ≤ 3) = b := ⟨_, rfl⟩
  rw [hFT] at HFI
  obtain ⟨ax0, cx0, hvx0, xx1, xx2, -⟩ := hx.open
  unfold maxLen at xx2
  cases FT with
  | false =>
    subst hvx0
    clear hx hm1 hm2 hx4 hsh h hlib hp hFT hpr hn1 hn4 hP hpb
    subst hn
    go_enter Tryz.func12, Tryz.ntmps12
    obtain ⟨W0, hW0⟩ : ∃ W0, w.alloc (.cells #[.int .u8 c, .slice a xss.length cp, .bool vals] 61) = W0 := ⟨_, rfl⟩
    have HE0 : Hid (Ext w W0) := by rw [← hW0]; exact Ext.alloc _ _
    have HP0 : Hid (W0.heap[w.heap.size]? = some (.cells #[.int .u8 c, .slice a xss.length cp, .bool vals] 61 (0, 0))) := by rw [← hW0]; exact block_new _ _ _
    go_wp2_with fail
    clear hW0
    refine (HKN.out _ HE0.out).mono ?_
    rintro e w1 ⟨rfl, hE1⟩
    have HE1 := Lib.hid (HE0.out.trans hE1)
    have HP1 := Lib.hid (block_ext HP0.out hE1)
    obtain ⟨p0, p1, p2⟩ := p18_block HP1.out
    clear hE1 HE0 HP0
    go_wp2_with fail
    refine (HFI.out _ HE1.out).mono ?_
    rintro e w2 ⟨rfl, hE2⟩
    have HE2 := Lib.hid (HE1.out.trans hE2)
    clear hE2 HE1 HFI
    go_wp2_with fail
    refine (HKN.out _ HE2.out).mono ?_
    rintro e w3 ⟨rfl, hE3⟩
    have HE3 := Lib.hid (HE2.out.trans hE3)
    clear hE3 HKN
    go_wp2_with fail
    go_ret
    exact ⟨rfl, HE3.out⟩
  | true =>
  by_cases h7x : 7 < x.length
  · have h7i : (7 : Int) < (x.length : Int) := by omega
    subst hvx0
    clear hx hm1 hm2 hx4 hsh h hlib hp hFT hpr hn1 hn4 hP hpb
    subst hn
    go_enter Tryz.func12, Tryz.ntmps12
    obtain ⟨W0, hW0⟩ : ∃ W0, w.alloc (.cells #[.int .u8 c, .slice a xss.length cp, .bool vals] 61) = W0 := ⟨_, rfl⟩
    have HE0 : Hid (Ext w W0) := by rw [← hW0]; exact Ext.alloc _ _
    have HP0 : Hid (W0.heap[w.heap.size]? = some (.cells #[.int .u8 c, .slice a xss.length cp, .bool vals] 61 (0, 0))) := by rw [← hW0]; exact block_new _ _ _
    go_wp2_with fail
    clear hW0
    refine (HKN.out _ HE0.out).mono ?_
    rintro e w1 ⟨rfl, hE1⟩
    have HE1 := Lib.hid (HE0.out.trans hE1)
    have HP1 := Lib.hid (block_ext HP0.out hE1)
    obtain ⟨p0, p1, p2⟩ := p18_block HP1.out
    clear hE1 HE0 HP0
    go_wp2_with fail
    refine (HFI.out _ HE1.out).mono ?_
    rintro e w2 ⟨rfl, hE2⟩
    have HE2 := Lib.hid (HE1.out.trans hE2)
    clear hE2 HE1 HFI
    go_wp2_with fail
    refine (HKN.out _ HE2.out).mono ?_
    rintro e w3 ⟨rfl, hE3⟩
    have HE3 := Lib.hid (HE2.out.trans hE3)
    clear hE3 HKN
    go_wp2_with fail
    go_ret
    exact ⟨rfl, HE3.out⟩
  have h7k : ¬ (7 : Int) < (x.length : Int) := by omega
  clear hvx0 xx1 xx2
  have hx3 : xss.length ≤ 3 := of_decide_eq_true hFT
  obtain ⟨F, R, A, S, C, M, hD, hC, hM, hDC, hDM, hT⟩ := plan18 hn1 hn4 (by omega) (fun x hx => (hm2 x hx).1) (fun x hx => (hm2 x hx).2) P hpr hn vals
  have HWm : Wid n (rows18 n xss.length xss) := fun i hi => (hm2 _ (rowE_mem hi)).1
  have HMK := Lib.hid (fun W (hW : Ext w W) => make18_any c hc0 hc1 n F P hP hn xss hx3 vals _ W (h.ext hW) R A S hD (hlib.ext hW) (Nat.lt_of_lt_of_le hp hW.size))
  rw [hC, hM] at HMK
  have hRT := hT.right
  have hlC : C.length ≤ 4 := hT.lC
  have hlM : M.length ≤ 4 := hT.lM
  have HBM := Lib.hid hT.bM; have HBC := Lib.hid hT.bC
  have hoC : ∀ r ∈ C, okRow r := fun r hr => okRow_of (by have := (hRT.bC r hr).2; omega) ((hRT.bC r hr).1.mono (by decide))
  have hoM : ∀ r ∈ M, okRow r := fun r hr => okRow_of (by have := (hRT.bM r hr).2; omega) ((hRT.bM r hr).1.mono (by decide))
  have HXI := Lib.hid hx
  have HIV := Lib.hid (fun W v vx z (hv : TempV W v P C M) (hx : Ints W vx z) => interval18_any P C M z v vx W hv hx)
  rw [hn] at HIV
  have HSM : Hid (∀ W, Ext w W → LibT W ∧ 0 < W.heap.size) := fun W hW => ⟨hlib.ext hW, Nat.lt_of_lt_of_le hp hW.size⟩
  obtain ⟨ps, hCf⟩ := hT.hC
  have HRED : Hid (∀ z : List Int, z.length = n → RowLe 1000000000 z → ∃ s ms, redO C z C.length = some (s, ms) ∧ s.all smB = true ∧ (!(temL M z n).any (· != 0)) = decide (leadL s < 0)) := fun z hz hb => by
    obtain ⟨s, ms, e1, e2, e3, e4, e5⟩ := plan_red hCf hT.lC hT.bC hz hb
    exact ⟨s, ms, e1, e3, out_in hn4 (fun x hx => (hm2 x hx).1) (fun x hx => (hm2 x hx).2) hT hCf hz ⟨e2, e4, e5⟩⟩
  obtain ⟨ax, cx, rfl, x1, x2, -⟩ := hx.open
  unfold maxLen at x2
  have HRT := Lib.hid hRT
  clear hx hCf
  clear hm1 hm2 hx4 hsh h hlib hp hFT hpr hP hD hDC hDM hT HWm hRT hC hM hn1 hpb hoC hoM
  subst hn
  go_enter Tryz.func12, Tryz.ntmps12
  obtain ⟨W0, hW0⟩ : ∃ W0, w.alloc (.cells #[.int .u8 c, .slice a xss.length cp, .bool vals] 61) = W0 := ⟨_, rfl⟩
  have HE0 : Hid (Ext w W0) := by rw [← hW0]; exact Ext.alloc _ _
  have HP0 : Hid (W0.heap[w.heap.size]? = some (.cells #[.int .u8 c, .slice a xss.length cp, .bool vals] 61 (0, 0))) := by rw [← hW0]; exact block_new _ _ _
  go_wp2_with fail
  clear hW0
  refine (HKN.out _ HE0.out).mono ?_
  rintro e w1 ⟨rfl, hE1⟩
  have HE1 := Lib.hid (HE0.out.trans hE1)
  have HP1 := Lib.hid (block_ext HP0.out hE1)
  obtain ⟨p0, p1, p2⟩ := p18_block HP1.out
  clear hE1 HE0 HP0
  go_wp2_with fail
  refine (HFI.out _ HE1.out).mono ?_
  rintro e w2 ⟨rfl, hE2⟩
  have HE2 := Lib.hid (HE1.out.trans hE2)
  have HP2 := Lib.hid (block_ext HP1.out hE2)
  clear hE2 HE1 HFI HP1 p0 p1 p2
  obtain ⟨p0, p1, p2⟩ := p18_block HP2.out
  go_wp2_with fail
  refine (HMK.out _ HE2.out).mono ?_
  rintro e w3 ⟨u, rfl, hS, hE⟩
  have HEC3 := Lib.hid (HE2.out.trans hE)
  clear hE HE2 HP2 HMK p0 p1 p2
  obtain ⟨p3, c3, m3, rfl, hvp, hvc, hvm⟩ := hS
  have HTV3 : Hid (TempV w3 (.agg #[p3, c3, m3]) P C M) := ⟨_, _, _, rfl, hvp, hvc, hvm⟩
  obtain ⟨ap3, kp3, rfl, -⟩ := hvp.open
  obtain ⟨ac3, kc3, rfl, -⟩ := inCell.open hvc
  obtain ⟨am3, km3, rfl, -⟩ := inCell.open hvm
  clear hvp hvc hvm
  obtain ⟨V3, hV3, hXV, hsV, hbV⟩ := tp_new w3 (.slice none 0 0) (.slice none 0 0) (.slice none 0 0)
  obtain ⟨r0, r1, r2, rf⟩ := tp_block hbV
  have f0 := rf 0; have f1 := rf 1; have f2 := rf 2
  have HB3 := Lib.hid (tp_store hbV (.slice ap3 P.length kp3) (.slice ac3 C.length kc3) (.slice am3 M.length km3))
  have HXU3 := Lib.hid (ext_tp hXV (Nat.le_refl _) (.slice ap3 P.length kp3) (.slice ac3 C.length kc3) (.slice am3 M.length km3))
  clear hXV hsV hbV rf
  obtain ⟨U3, hU3⟩ : ∃ U, ((V3.setCell ⟨w3.heap.size, 0, none⟩ (.slice ap3 P.length kp3)).setCell ⟨w3.heap.size, 1, none⟩ (.slice ac3 C.length kc3)).setCell ⟨w3.heap.size, 2, none⟩ (.slice am3 M.length km3) = U := ⟨_, rfl⟩
  rw [hU3] at HB3 HXU3
  have HE3 := Lib.hid (HEC3.out.trans HXU3.out)
  have HTV3 := Lib.hid (HTV3.out.ext HXU3.out)
  clear HXU3 HEC3
  obtain ⟨s0, s1, s2, -⟩ := tp_block HB3.out
  go_wp2_with fail
  clear hU3 hV3 r0 r1 r2 f0 f1 f2 s0 s1 s2
  have hlp := HSM.out _ HE3.out
  obtain ⟨b3, hb3⟩ : ∃ b, w3.heap.size = b := ⟨_, rfl⟩
  rw [hb3] at HB3
  simp only [hb3]
  clear hb3
  by_cases hE : allE P.length [x] = 0
  · have hox := (allE_one hE).1
    have hlx : x.length = P.length := by have := (allE_one hE).2; omega
    have HLX := Lib.hid hlx
    have HXB : Hid (RowLe 1000000000 x) := fun z hz => by have := hox.2 z hz; omega
    obtain ⟨s, ms, q1, q2, q3⟩ := HRED.out x hlx HXB.out
    have HRLE : Hid (rowLE P.length C x = 0) := by
      unfold Hid rowLE
      rw [if_pos HRT.out.chk, if_pos ((rowE_zero x).2 hox), if_pos (by omega)]
    obtain ⟨IS, hIS⟩ : ∃ b, (!(temL M x P.length).any (· != 0)) = b := ⟨_, rfl⟩
    have HT4 := Lib.hid (fun W v vx (hW : Ext w W) (hv : TempV W v P C M) (hi : Ints W vx x) => temperR_any P.length F P C M x v vx W hv hi HRT.out hE (HSM.out W hW).1 (HSM.out W hW).2)
    have HT5 := Lib.hid (fun W v vx (hW : Ext w W) (hv : TempV W v P C M) (hi : Ints W vx x) => tempersOut_any P.length F P C M x v vx W hv hi HRT.out hE (HSM.out W hW).1 (HSM.out W hW).2)
    have HT6 := Lib.hid (fun W v vx (hW : Ext w W) (hv : TempV W v P C M) (hi : Ints W vx x) => trepr_any P.length F P C M x s ms v vx W hv hi HRT.out hE q1 q2 (HSM.out W hW).1 (HSM.out W hW).2)
    have HT7 := Lib.hid (fun W v vx (hv : TempV W v P C M) (hi : Ints W vx x) => HIV.out W v vx x hv hi)
    have HT8 := Lib.hid (fun W v vx (hW : Ext w W) (hv : TempV W v P C M) (hi : Ints W vx x) => tempered18_any P.length P C M x v vx W hv hi (fun r hr => ⟨(HBM.out r hr).1.mono (by decide), (HBM.out r hr).2⟩) hlx (by omega) HXB.out (by omega) (HSM.out W hW).1.pow)
    have HT9 := Lib.hid (fun W v vx (hW : Ext w W) (hv : LatV W v P.length C) (hi : Ints W vx x) => contains_any P.length C x s ms v vx W hv hi HRLE.out q1 (HSM.out W hW).1.pow (HSM.out W hW).2)
    have HTA := Lib.hid (fun W v vx (hW : Ext w W) (hv : LatV W v P.length C) (hi : Ints W vx x) => repr_any P.length C x s ms v vx W hv hi HRLE.out q1 q2 (HSM.out W hW).1 (HSM.out W hW).2)
    have HZR : Hid (∀ W v, Ints W v (temL M x P.length) → Calls Tryz.prog 64 #[v] W fun e w' => e = .returned (.bool IS) ∧ Ext W w') := fun W v hi => by
      have := isZero_any (temL M x P.length) v W hi
      rw [hIS] at this
      exact this
    rw [hE] at HT7
    rw [← q3] at HT9
    rw [hIS] at HT5 HT9
    have HFY : Hid (((temL M x P.length).all fit9B = true ∧ repL (temL M x P.length) = temL M x P.length ∧ repE (temL M x P.length) = 0) ∨ ((temL M x P.length).all fit9B = false ∧ repL (temL M x P.length) = [] ∧ repE (temL M x P.length) = 4)) := by
      unfold Hid repL repE
      by_cases h : (temL M x P.length).all fit9B = true
      · exact .inl ⟨h, if_pos h, if_pos h⟩
      · exact .inr ⟨by simpa using h, if_neg h, if_neg h⟩
    have HTL := Lib.hid (temL_len M x P.length)
    obtain ⟨Y, hY⟩ : ∃ Y, temL M x P.length = Y := ⟨_, rfl⟩
    obtain ⟨EZ, hEZ⟩ : ∃ E, repE s = E := ⟨_, rfl⟩
    obtain ⟨LZ, hLZ⟩ : ∃ L, repL s = L := ⟨_, rfl⟩
    obtain ⟨EY, hEY⟩ : ∃ E, repE Y = E := ⟨_, rfl⟩
    obtain ⟨LY, hLY⟩ : ∃ L, repL Y = L := ⟨_, rfl⟩
    obtain ⟨FY, hFY⟩ : ∃ b, Y.all fit9B = b := ⟨_, rfl⟩
    rw [hY] at HT4 HT8 HZR HFY HTL
    rw [hFY] at HT8 HFY
    rw [hEY, hLY] at HFY
    have HR4 : Hid (∀ W v vx, Ext w W → TempV W v P C M → Ints W vx x → Calls Tryz.prog 60 #[v, vx] W fun e w' => ∃ a k c, e = .returned (.tuple #[.slice a k c, .int .i64 EY]) ∧ k = LY.length ∧ Ints w' (.slice a k c) LY ∧ Ext W w') := fun W v vx hW hv hi => (HT4.out W v vx hW hv hi).mono fun e w' h => by
      obtain ⟨a, c, h1, h2, h3⟩ := h.both
      rw [hLY, hEY] at h1
      rw [hLY] at h2
      exact ⟨a, _, c, h1, rfl, h2, h3⟩
    have HR6 : Hid (∀ W v vx, Ext w W → TempV W v P C M → Ints W vx x → Calls Tryz.prog 61 #[v, vx] W fun e w' => ∃ a k c, e = .returned (.tuple #[.slice a k c, .int .i64 EZ]) ∧ Ints w' (.slice a k c) LZ ∧ Ext W w') := fun W v vx hW hv hi => (HT6.out W v vx hW hv hi).mono fun e w' h => by
      obtain ⟨a, c, h1, h2, h3⟩ := h.both
      rw [hLZ, hEZ] at h1
      rw [hLZ] at h2
      exact ⟨a, _, c, h1, h2, h3⟩
    have HRA : Hid (∀ W v vx, Ext w W → LatV W v P.length C → Ints W vx x → Calls Tryz.prog 27 #[v, vx] W fun e w' => ∃ a k c, e = .returned (.tuple #[.slice a k c, .int .i64 EZ]) ∧ Ints w' (.slice a k c) LZ ∧ Ext W w') := fun W v vx hW hv hi => (HTA.out W v vx hW hv hi).mono fun e w' h => by
      obtain ⟨a, c, h1, h2, h3⟩ := h.both
      rw [hLZ, hEZ] at h1
      rw [hLZ] at h2
      exact ⟨a, _, c, h1, h2, h3⟩
    have HEQ : Hid (∀ W u v (L : List Int), Ints W u L → Ints W v L → Calls Tryz.prog 63 #[u, v] W fun e w' => e = .returned (.bool true) ∧ Ext W w') := fun W u v L h k => by
      have := refEqRows_any L L u v W h k
      simpa using this
    clear hox hlx q1 q2 q3 hIS HT4 HT6 HTA hE hlp hY hEZ hLZ hEY hLY hFY HRED
    refine (HR4.out _ _ _ HE3.out HTV3.out (HXI.out.ext HE3.out)).mono ?_
    rintro e w4 ⟨ay, ky, cy, rfl, hky, hiy, hE4⟩
    have HKY := Lib.hid hky
    have HIY := Lib.hid hiy
    have HE4 := Lib.hid (HE3.out.trans hE4); have HB4 := Lib.hid (block_ext HB3.out hE4); have HTV4 := Lib.hid (HTV3.out.ext hE4)
    obtain ⟨s0, s1, s2, -⟩ := tp_block HB4.out
    clear hE4 hky hiy HR4 HE3 HB3 HTV3
    go_wp2_with fail
    clear s0 s1 s2
    refine (HT5.out _ _ _ HE4.out HTV4.out (HXI.out.ext HE4.out)).mono ?_
    rintro e w5 ⟨rfl, hE5⟩
    have HIY := Lib.hid (HIY.out.ext hE5)
    have HE5 := Lib.hid (HE4.out.trans hE5); have HB5 := Lib.hid (block_ext HB4.out hE5); have HTV5 := Lib.hid (HTV4.out.ext hE5)
    obtain ⟨s0, s1, s2, -⟩ := tp_block HB5.out
    clear hE5 HT5 HE4 HB4 HTV4
    go_wp2_with fail
    clear s0 s1 s2
    refine (HR6.out _ _ _ HE5.out HTV5.out (HXI.out.ext HE5.out)).mono ?_
    rintro e w6 ⟨az, kz, cz, rfl, hiz, hE6⟩
    have HIY := Lib.hid (HIY.out.ext hE6)
    have HIZ := Lib.hid hiz
    have HE6 := Lib.hid (HE5.out.trans hE6); have HB6 := Lib.hid (block_ext HB5.out hE6); have HTV6 := Lib.hid (HTV5.out.ext hE6)
    obtain ⟨s0, s1, s2, -⟩ := tp_block HB6.out
    clear hE6 hiz HR6 HE5 HB5 HTV5
    go_wp2_with fail
    clear s0 s1 s2
    refine (HT7.out _ _ _ HTV6.out (HXI.out.ext HE6.out)).mono ?_
    rintro e w7 ⟨rfl, hE7⟩
    have HIY := Lib.hid (HIY.out.ext hE7)
    have HIZ := Lib.hid (HIZ.out.ext hE7)
    have HE7 := Lib.hid (HE6.out.trans hE7); have HB7 := Lib.hid (block_ext HB6.out hE7); have HTV7 := Lib.hid (HTV6.out.ext hE7)
    obtain ⟨s0, s1, s2, -⟩ := tp_block HB7.out
    clear hE7 HT7 HE6 HB6 HTV6
    go_wp2_with fail
    clear s0 s1 s2
    refine (HT8.out _ _ _ HE7.out HTV7.out (HXI.out.ext HE7.out)).mono ?_
    rintro e w8 ⟨ad, cd, rfl, hid, hE8⟩
    have HIY := Lib.hid (HIY.out.ext hE8)
    have HIZ := Lib.hid (HIZ.out.ext hE8)
    have HID := Lib.hid hid
    have HE8 := Lib.hid (HE7.out.trans hE8); have HB8 := Lib.hid (block_ext HB7.out hE8); have HTV8 := Lib.hid (HTV7.out.ext hE8)
    obtain ⟨s0, s1, s2, -⟩ := tp_block HB8.out
    have HCL := HTV8.out
    obtain ⟨t0, t1, t2, hq, hq0, hq1, hq2⟩ := HCL
    simp only [Value.agg.injEq, Array.mk.injEq, List.cons.injEq, and_true] at hq
    obtain ⟨rfl, rfl, rfl⟩ := hq
    have HC8 := Lib.hid hq1
    clear hE8 hid HT8 HE7 HB7 HTV7 hq0 hq1 hq2
    obtain ⟨V9, hV9, hX9, hs9, hb9⟩ := lat_new w8 (.int .i64 0) (.slice none 0 0)
    obtain ⟨r0, r1, rf⟩ := lat_block hb9
    have f0 := rf 0; have f1 := rf 1
    have HB9 := Lib.hid (lat_store hb9 (.int .i64 P.length) (.slice ac3 C.length kc3))
    have HXU := Lib.hid (ext_lat hX9 (Nat.le_refl _) (.int .i64 P.length) (.slice ac3 C.length kc3))
    clear hX9 hs9 hb9 rf
    obtain ⟨U9, hU9⟩ : ∃ U, (V9.setCell ⟨w8.heap.size, 0, none⟩ (.int .i64 P.length)).setCell ⟨w8.heap.size, 1, none⟩ (.slice ac3 C.length kc3) = U := ⟨_, rfl⟩
    rw [hU9] at HB9 HXU
    have HE9 := Lib.hid (HE8.out.trans HXU.out)
    have HIY := Lib.hid (HIY.out.ext HXU.out)
    have HIZ := Lib.hid (HIZ.out.ext HXU.out)
    have HID := Lib.hid (HID.out.ext HXU.out)
    have HC9 := Lib.hid (HC8.out.ext HXU.out)
    obtain ⟨q0, q1, -⟩ := lat_block HB9.out
    go_wp2_with fail
    clear hU9 hV9 r0 r1 f0 f1 s0 s1 s2 q0 q1 HXU HE8 HB8 HTV8 HC8
    refine (HT9.out _ _ _ HE9.out ⟨_, rfl, HC9.out⟩ (HXI.out.ext HE9.out)).mono ?_
    rintro e w10 ⟨rfl, hE10⟩
    have HE10 := Lib.hid (HE9.out.trans hE10)
    have HIY := Lib.hid (HIY.out.ext hE10)
    have HIZ := Lib.hid (HIZ.out.ext hE10)
    have HID := Lib.hid (HID.out.ext hE10)
    have HC10 := Lib.hid (HC9.out.ext hE10)
    obtain ⟨q0, q1, -⟩ := lat_block (block_ext HB9.out hE10)
    clear hE10 HT9 HE9 HC9
    go_wp2_with fail
    clear q0 q1
    refine (HRA.out _ _ _ HE10.out ⟨_, rfl, HC10.out⟩ (HXI.out.ext HE10.out)).mono ?_
    rintro e w11 ⟨ar, kr, cr, rfl, hir, hE11⟩
    have HE11 := Lib.hid (HE10.out.trans hE11)
    have HIY := Lib.hid (HIY.out.ext hE11)
    have HIZ := Lib.hid (HIZ.out.ext hE11)
    have HID := Lib.hid (HID.out.ext hE11)
    have HIR := Lib.hid hir
    clear hE11 hir HRA HE10 HC10
    have hz1 : (IS != IS) = false := by cases IS <;> rfl
    have hz2 : (EZ != EZ) = false := by simp
    go_wp2_with fail
    refine (HEQ.out _ _ _ _ HIZ.out HIR.out).mono ?_
    rintro e w12 ⟨rfl, hE12⟩
    have HE12 := Lib.hid (HE11.out.trans hE12)
    have HIY := Lib.hid (HIY.out.ext hE12)
    have HID := Lib.hid (HID.out.ext hE12)
    clear hE12 HE11 HIZ HIR
    rcases HFY.out with ⟨e1, e2, e3⟩ | ⟨e1, e2, e3⟩
    · rw [e2] at HIY
      clear HFY HKY e2
      subst e1
      subst e3
      have hz3 : (IS == IS) = true := by cases IS <;> rfl
      go_wp2_with fail
      refine (HEQ.out _ _ _ _ HIY.out HID.out).mono ?_
      rintro e w13 ⟨rfl, hE13⟩
      have HE13 := Lib.hid (HE12.out.trans hE13)
      have HZ13 := Lib.hid (HZR.out _ _ (HID.out.ext hE13))
      clear hE13 HE12 HIY
      go_wp2_with fail
      refine HZ13.out.mono ?_
      rintro e w14 ⟨rfl, hE14⟩
      have HE14 := Lib.hid (HE13.out.trans hE14)
      clear hE14 HE13
      go_wp2_with fail
      go_ret
      exact ⟨rfl, HE14.out⟩
    · have hk0 : ky = 0 := by rw [HKY.out, e2]; rfl
      clear HFY HKY HIY e2
      subst e1
      subst e3
      subst hk0
      go_wp2_with fail
      go_ret
      exact ⟨rfl, HE12.out⟩
  · obtain ⟨E, hEE⟩ : ∃ E, allE P.length [x] = E := ⟨_, rfl⟩
    have HT4 := Lib.hid (fun W v vx (hW : Ext w W) (hv : TempV W v P C M) (hi : Ints W vx x) => temper_bad P.length F P C M x v vx W hv hi HRT.out hE (HSM.out W hW).1 (HSM.out W hW).2)
    have HT5 := Lib.hid (fun W v vx (hW : Ext w W) (hv : TempV W v P C M) (hi : Ints W vx x) => tempersOut_bad P.length F P C M x v vx W hv hi HRT.out hE (HSM.out W hW).1 (HSM.out W hW).2)
    have HT6 := Lib.hid (fun W v vx (hW : Ext w W) (hv : TempV W v P C M) (hi : Ints W vx x) => trepr_bad P.length F P C M x v vx W hv hi HRT.out hE (HSM.out W hW).1 (HSM.out W hW).2)
    have HT7 := Lib.hid (fun W v vx (hv : TempV W v P C M) (hi : Ints W vx x) => HIV.out W v vx x hv hi)
    rw [hEE] at HT4 HT5 HT6 HT7 hE
    have hz : (E != 0) = true := by simp [hE]
    clear hEE hE hlp HRED
    refine (HT4.out _ _ _ HE3.out HTV3.out (HXI.out.ext HE3.out)).mono ?_
    rintro e w4 ⟨rfl, hE4⟩
    have HE4 := Lib.hid (HE3.out.trans hE4); have HB4 := Lib.hid (block_ext HB3.out hE4); have HTV4 := Lib.hid (HTV3.out.ext hE4)
    obtain ⟨s0, s1, s2, -⟩ := tp_block HB4.out
    clear hE4 HT4 HE3 HB3 HTV3
    go_wp2_with fail
    clear s0 s1 s2
    refine (HT5.out _ _ _ HE4.out HTV4.out (HXI.out.ext HE4.out)).mono ?_
    rintro e w5 ⟨rfl, hE5⟩
    have HE5 := Lib.hid (HE4.out.trans hE5); have HB5 := Lib.hid (block_ext HB4.out hE5); have HTV5 := Lib.hid (HTV4.out.ext hE5)
    obtain ⟨s0, s1, s2, -⟩ := tp_block HB5.out
    clear hE5 HT5 HE4 HB4 HTV4
    go_wp2_with fail
    clear s0 s1 s2
    refine (HT6.out _ _ _ HE5.out HTV5.out (HXI.out.ext HE5.out)).mono ?_
    rintro e w6 ⟨rfl, hE6⟩
    have HE6 := Lib.hid (HE5.out.trans hE6); have HB6 := Lib.hid (block_ext HB5.out hE6); have HTV6 := Lib.hid (HTV5.out.ext hE6)
    obtain ⟨s0, s1, s2, -⟩ := tp_block HB6.out
    clear hE6 HT6 HE5 HB5 HTV5
    go_wp2_with fail
    clear s0 s1 s2
    refine (HT7.out _ _ _ HTV6.out (HXI.out.ext HE6.out)).mono ?_
    rintro e w7 ⟨rfl, hE7⟩
    have HE7 := Lib.hid (HE6.out.trans hE7)
    clear hE7 HT7 HE6 HB6 HTV6
    go_wp2_with fail
    go_ret
    exact ⟨rfl, HE7.out⟩
end Go.Proofs.YtehknemdfbkimaaGreatDoor
