/- Merged: TSpanW. -/
import Derived.Test.YtehknemdfbkimaaGreatDoorQYR
import Derived.Test.YtehknemdfbkimaaGreatDoorQYS
import Derived.Test.YtehknemdfbkimaaGreatDoorQBF
/- The walk of TemperamentSpans. Printed by gen/tspan.py. -/
namespace Go.Proofs.YtehknemdfbkimaaGreatDoor
set_option linter.unusedVariables false
set_option linter.unusedSimpArgs false
open Go.RowKit

set_option maxRecDepth 100000 in
set_option maxHeartbeats 4000000 in
theorem spans_walk (c : Int) (hc0 : 0 ≤ c) (hc1 : c ≤ 255) (vals : Bool) (xss : List (List Int)) (v : Value) (x : List Int) (hx : x.length = 4) (hxb : ∀ a ∈ x, -128 ≤ a ∧ a ≤ 127) (w : World) (h : Fours w v xss) (hlib : LibT w) (hp : 0 < w.heap.size) :
    Calls Tryz.prog 9 #[.agg #[.int .u8 c, v, .bool vals], .agg (x.map (Value.int .i8)).toArray] w fun e w' => e = .returned (.bool true) ∧ Ext w w' := by
  obtain ⟨P, hP⟩ : ∃ P, P = primes12 (c % 10).toNat := ⟨_, rfl⟩
  obtain ⟨n, hn⟩ : ∃ n, P.length = n := ⟨_, rfl⟩
  obtain ⟨hpr, hn1, hn4⟩ := primes12_ok (c % 10).toNat
  rw [← hP] at hpr hn1 hn4
  rw [hn] at hn1 hn4
  have HPR : Hid (∀ W, Calls Tryz.prog 46 #[.int .u8 c] W fun e w' => ∃ a cp, e = .returned (.slice a P.length cp) ∧ Ints w' (.slice a P.length cp) P ∧ Ext W w') := fun W => by
    have := primes12_any c hc0 hc1 W
    rw [← hP] at this
    exact this.mono fun e w' ⟨a, cp, h1, h2, h3⟩ => ⟨a, cp, h1, h2.now, h3⟩
  have HKN := Lib.hid (fun W (hW : Ext w W) => known18_any W (hlib.ext hW) (Nat.lt_of_lt_of_le hp hW.size))
  have HFI := Lib.hid (fun W (hW : Ext w W) => fits18_any c vals xss v W (h.ext hW))
  have hx4 : ∀ x ∈ xss, x.length = 4 := fun x hx => by
    obtain ⟨a, cp, rfl, k1, k2, kl, k4⟩ := ListAt.open h
    obtain ⟨j, hj⟩ := List.getElem?_of_mem hx
    obtain ⟨b, off, rfl, hb, hcell⟩ := k4 (by decide) (by intro e; rw [e] at hj; simp at hj)
    obtain ⟨u, hu, ⟨rfl, hx4, hxb⟩, hc⟩ := hcell j x hj
    exact hx4
  obtain ⟨hm1, hm2⟩ := rows18_ok hn4 hx4 xss.length
  have hsh := h
  obtain ⟨a, cp, rfl, hxx1, hxx2, hxxl, hxx4⟩ := ListAt.open hsh
  have HX := Lib.hid hxx4
  unfold maxLen at hxx2
  obtain ⟨FT, hFT⟩ : ∃ b, decide (xss.length ≤ 3) = b := ⟨_, rfl⟩
  rw [hFT] at HFI
  have HIN := Lib.hid (fun W vp (hvp : Ints W vp P) (x : List Int) (h4 : x.length = 4) (hb : ∀ a ∈ x, -128 ≤ a ∧ a ≤ 127) => interval12_any n P x vp W hvp hn hn4 h4 hb)
  obtain ⟨x0, x1, x2, x3, rfl⟩ : ∃ a b c d, x = [a, b, c, d] := by
    match x, hx with
    | [a, b, c, d], _ => exact ⟨a, b, c, d, rfl⟩
  have HX4 : Hid (∀ a ∈ [x0, x1, x2, x3], -128 ≤ a ∧ a ≤ 127) := hxb
  cases FT with
  | false =>
    clear hm1 hm2 hx4 hsh h hlib hp hFT hpr hn1 hn4 hP hxx4 HX HPR HIN
    subst hn
    go_enter Tryz.func9, Tryz.ntmps9
    obtain ⟨W0, hW0⟩ : ∃ W0, w.alloc (.cells #[.int .u8 c, .slice a xss.length cp, .bool vals] 61) = W0 := ⟨_, rfl⟩
    have hE0 : Ext w W0 := by rw [← hW0]; exact Ext.alloc _ _
    have hP0 : W0.heap[w.heap.size]? = some (.cells #[.int .u8 c, .slice a xss.length cp, .bool vals] 61 (0, 0)) := by rw [← hW0]; exact block_new _ _ _
    obtain ⟨W9, hW9⟩ : ∃ W9, W0.alloc (.cells #[.int .i8 x0, .int .i8 x1, .int .i8 x2, .int .i8 x3] 76) = W9 := ⟨_, rfl⟩
    have hE9 : Ext W0 W9 := by rw [← hW9]; exact Ext.alloc _ _
    have HXB : Hid (W9.heap[W0.heap.size]? = some (.cells #[.int .i8 x0, .int .i8 x1, .int .i8 x2, .int .i8 x3] 76 (0, 0))) := by rw [← hW9]; exact block_new _ _ _
    have HE0 := Lib.hid (hE0.trans hE9); have HP0 := Lib.hid (block_ext hP0 hE9)
    clear hE0 hP0 hE9
    go_wp2_with fail
    clear hW0 hW9
    refine (HKN.out _ HE0.out).mono ?_
    rintro e w1 ⟨rfl, hE1⟩
    have HE1 := Lib.hid (HE0.out.trans hE1)
    have HP1 := Lib.hid (block_ext HP0.out hE1); have HXB := Lib.hid (block_ext HXB.out hE1)
    obtain ⟨p0, p1, p2⟩ := p18_block HP1.out
    clear hE1 HE0 HP0
    go_wp2_with fail
    refine (HFI.out _ HE1.out).mono ?_
    rintro e w2 ⟨rfl, hE2⟩
    have HE2 := Lib.hid (HE1.out.trans hE2)
    clear hE2 HE1 HFI
    go_wp2_with fail
    refine (HKN.out _ HE2.out).mono ?_
    rintro e w3 ⟨rfl, hE3⟩
    have HE3 := Lib.hid (HE2.out.trans hE3)
    clear hE3 HKN
    go_wp2_with fail
    go_ret
    exact ⟨rfl, HE3.out⟩
  | true =>
  have hx3 : xss.length ≤ 3 := of_decide_eq_true hFT
  obtain ⟨F, R, A, S, hD, hDS, hDA, hTf, hTt⟩ := plan_temp hn1 hn4 (by omega) (fun x hx => (hm2 x hx).1) (fun x hx => (hm2 x hx).2) P hpr hn
  have HML : Hid ((rows18 n xss.length xss).length = xss.length) := by unfold Hid rows18; rw [List.length_map, List.length_take]; omega
  have HFC := Lib.hid (fun W (hW : Ext w W) vp vm (hv : Ints W vp P) (hc : Rows2 W vm (rows18 n xss.length xss)) => fromCommas_any n F P (rows18 n xss.length xss) R A S vp vm W hv hc hpr hn hD (hlib.ext hW) (Nat.lt_of_lt_of_le hp hW.size))
  have HFM := Lib.hid (fun W (hW : Ext w W) vp vm (hv : Ints W vp P) (hc : Rows2 W vm (rows18 n xss.length xss)) => fromMapping_any n F P (rows18 n xss.length xss) R A S vp vm W hv hc hpr hn hD (hlib.ext hW) (Nat.lt_of_lt_of_le hp hW.size))
  have hal : ∀ r : List Int, r.length = n → RowLe 9 r → allE n [r] = 0 := fun r hr hb => allE_of fun q hq => by
    obtain rfl : q = r := by simpa using hq
    exact ⟨okRow_of (by omega) (hb.mono (by decide)), hr⟩
  have HTA : Hid (∀ W v vx x, Ext w W → TempV W v P S A → Ints W vx x → x ∈ rows18 n xss.length xss → Calls Tryz.prog 50 #[v, vx] W fun e w' => e = .returned (.tuple #[.bool true, .int .i64 0]) ∧ Ext W w') := fun W v vx x hW hv hx hm => by
    have := tempersOut_any n F P S A x v vx W hv hx hTf.right (hal x (hm2 x hm).1 (hm2 x hm).2) (hlib.ext hW) (Nat.lt_of_lt_of_le hp hW.size)
    rw [span_out (fun x hx => (hm2 x hx).1) hTf hm] at this
    exact this
  have hyl : (row9 n [x0, x1, x2, x3]).length = n := row9_len (by simpa using hn4)
  have hyb : RowLe 9 (row9 n [x0, x1, x2, x3]) := fun y hy => by have := row9_bd y hy; omega
  have HTB : Hid (∀ W v vx, Ext w W → TempV W v P A S → Ints W vx (row9 n [x0, x1, x2, x3]) → Calls Tryz.prog 50 #[v, vx] W fun e w' => e = .returned (.tuple #[.bool ((rows18 n xss.length xss).all fun r => dotZ r (row9 n [x0, x1, x2, x3]) n == 0), .int .i64 0]) ∧ Ext W w') := fun W v vx hW hv hx => by
    have := tempersOut_any n F P A S _ v vx W hv hx hTt.right (hal _ hyl hyb) (hlib.ext hW) (Nat.lt_of_lt_of_le hp hW.size)
    rw [span_in (fun x hx => (hm2 x hx).1) hTt hyl] at this
    exact this
  have HDT : Hid (∀ W vr vx r, Ext w W → Ints W vr r → Ints W vx (row9 n [x0, x1, x2, x3]) → r ∈ rows18 n xss.length xss → Calls Tryz.prog 45 #[vr, vx] W fun e w' => e = .returned (.string (intB (dotZ r (row9 n [x0, x1, x2, x3]) n))) ∧ Ext W w') := fun W vr vx r hW hr hx hm =>
    dot18_any n r _ vr vx W hr hx (hm2 r hm).1 hyl (by omega) ((hm2 r hm).2.mono (by decide)) (hyb.mono (by decide)) (hlib.pow.ext hW)
  obtain ⟨y, hy⟩ : ∃ y, row9 n [x0, x1, x2, x3] = y := ⟨_, rfl⟩
  have HYR : Hid (∀ y', y' ∈ row9 n [x0, x1, x2, x3] → -9 ≤ y' ∧ y' ≤ 9) := fun y' h => row9_bd y' h
  rw [hy] at HTB HDT HYR hyl hyb
  have HYL := Lib.hid hyl; have HY := Lib.hid hy
  clear hm1 hm2 hx4 hsh h hlib hp hFT hpr hP hD hDS hDA hTf hTt hn1 hxx4 hal hyl hyb hy
  subst hn
  go_enter Tryz.func9, Tryz.ntmps9
  obtain ⟨W0, hW0⟩ : ∃ W0, w.alloc (.cells #[.int .u8 c, .slice a xss.length cp, .bool vals] 61) = W0 := ⟨_, rfl⟩
  have hE0 : Ext w W0 := by rw [← hW0]; exact Ext.alloc _ _
  have hP0 : W0.heap[w.heap.size]? = some (.cells #[.int .u8 c, .slice a xss.length cp, .bool vals] 61 (0, 0)) := by rw [← hW0]; exact block_new _ _ _
  obtain ⟨W9, hW9⟩ : ∃ W9, W0.alloc (.cells #[.int .i8 x0, .int .i8 x1, .int .i8 x2, .int .i8 x3] 76) = W9 := ⟨_, rfl⟩
  have hE9 : Ext W0 W9 := by rw [← hW9]; exact Ext.alloc _ _
  have HXB : Hid (W9.heap[W0.heap.size]? = some (.cells #[.int .i8 x0, .int .i8 x1, .int .i8 x2, .int .i8 x3] 76 (0, 0))) := by rw [← hW9]; exact block_new _ _ _
  have HE0 := Lib.hid (hE0.trans hE9); have HP0 := Lib.hid (block_ext hP0 hE9)
  clear hE0 hP0 hE9
  go_wp2_with fail
  clear hW0 hW9
  refine (HKN.out _ HE0.out).mono ?_
  rintro e w1 ⟨rfl, hE1⟩
  have HE1 := Lib.hid (HE0.out.trans hE1)
  have HP1 := Lib.hid (block_ext HP0.out hE1); have HXB := Lib.hid (block_ext HXB.out hE1)
  obtain ⟨p0, p1, p2⟩ := p18_block HP1.out
  clear hE1 HE0 HP0
  go_wp2_with fail
  refine (HFI.out _ HE1.out).mono ?_
  rintro e w2 ⟨rfl, hE2⟩
  have HE2 := Lib.hid (HE1.out.trans hE2)
  have HP2 := Lib.hid (block_ext HP1.out hE2); have HXB := Lib.hid (block_ext HXB.out hE2)
  clear hE2 HE1 HFI HP1 p0 p1 p2
  obtain ⟨p0, p1, p2⟩ := p18_block HP2.out
  go_wp2_with fail
  refine (HPR.out _).mono ?_
  rintro e w3 ⟨ap, cpp, rfl, hpi, hE3⟩
  have HE3 := Lib.hid (HE2.out.trans hE3); have HP3 := Lib.hid (block_ext HP2.out hE3); have HXB := Lib.hid (block_ext HXB.out hE3)
  have HPI := Lib.hid hpi
  clear hE3 hpi HPR p0 p1 p2 HE2 HP2
  go_wp2_with fail
  go_loopw [6, 7] (fun so t wr => ∃ (i : Nat) (Q : Nat → Prop), i ≤ xss.length ∧ t = .int .i64 i ∧ Hid (Ext w3 wr) ∧ Hid (SOk Q w3.heap.size wr) ∧ Hid (∃ a c, so = .slice a i c) ∧ Hid (BuildS wr Q w3.heap.size 39 1 so rowC (rows18 P.length i xss))) (fun _ t _ => xss.length - (intOf t).toNat)
  case atStart => exact ⟨0, fun _ => False, by omega, rfl, Ext.refl _, fun b hb => hb.elim, ⟨none, 0, rfl⟩, BuildS.nil _ _ _ _ _ _⟩
  case round =>
    obtain ⟨i, Q, hi, rfl, HE, HOK, HSL, HBu⟩ := hrel
    obtain ⟨wo, rfl⟩ : ∃ wo : World, wo = wr := ⟨_, rfl⟩
    have HP3o := Lib.hid (block_ext HP3.out HE.out)
    obtain ⟨p0, p1, p2⟩ := p18_block HP3o.out
    by_cases hlt : i < xss.length
    · obtain ⟨b, off, rfl, hb, hcell⟩ := HX.out (by omega) (by intro e; rw [e] at hlt; simp at hlt)
      obtain ⟨z, hz⟩ : ∃ z, xss[i]? = some z := ⟨xss[i], List.getElem?_eq_getElem hlt⟩
      obtain ⟨u, hu, ⟨rfl, hz4, hzb⟩, hc⟩ := hcell i z hz
      obtain ⟨z0, z1, z2, z3, rfl⟩ : ∃ a b c d, z = [a, b, c, d] := by
        match z, hz4 with
        | [a, b, c, d], _ => exact ⟨a, b, c, d, rfl⟩
      have g0 := (HE3.out.trans HE.out).cell (hc 0 (by omega)); have g1 := (HE3.out.trans HE.out).cell (hc 1 (by omega))
      have g2 := (HE3.out.trans HE.out).cell (hc 2 (by omega)); have g3 := (HE3.out.trans HE.out).cell (hc 3 (by omega))
      rw [← Nat.add_assoc] at g0 g1 g2 g3
      rw [Nat.add_zero] at g0
      have HIV := Lib.hid (HIN.out wo _ (HPI.out.ext HE.out) [z0, z1, z2, z3] rfl hzb)
      have HN : Hid (rows18 P.length (i + 1) xss = rows18 P.length i xss ++ [row9 P.length [z0, z1, z2, z3]]) := by unfold Hid rows18; rw [List.take_add_one, hz, List.map_append]; rfl
      have HJL : Hid ((rows18 P.length i xss).length = i) := by unfold Hid rows18; rw [List.length_map, List.length_take]; omega
      have HJ : Hid ((rows18 P.length i xss).length < 1000000) := by unfold Hid; rw [HJL.out]; omega
      have HRL : Hid ((row9 P.length [z0, z1, z2, z3]).length = P.length) := row9_len (by simpa using hn4)
      clear hcell hc hz hu hzb
      go_wp2_with fail
      refine HIV.out.mono ?_
      rintro e w5 ⟨ar, cr, rfl, hO, hE5⟩
      have HSF : Hid (SafeS w5 Q fun W => rowC W [.slice ar P.length cr] (row9 P.length [z0, z1, z2, z3])) := (SafeS.owns hO (fun k hk hs => by have := (hO.lt k hk).1; have := (HOK.out k hs).2; omega)).mono (fun W h => ⟨_, rfl, Ints.of_owns (by rw [HRL.out]; exact h) (fun y hy => by have := row9_bd y hy; omega)⟩)
      have HB5 := Lib.hid (HBu.out.ext hE5)
      have HOK5 := Lib.hid (HOK.out.grow hE5.size)
      have HE5 := Lib.hid (HE.out.trans hE5)
      have hs5 := HE5.out.size
      clear hO hE5 HIV HBu HOK p0 p1 p2 g0 g1 g2 g3
      go_wp2_with (at_builtin; go_must (refine wpList_append_buildS _ rfl _ _ 28 rfl Q w3.heap.size 39 (.slice none 0 0) 1 24 Tryz.underlying28 infoRow rfl (by decide) u6 rowC (rows18 P.length i xss) (row9 P.length [z0, z1, z2, z3]) #[.slice ar P.length cr] 39 rfl HB5.out _ rfl rfl rfl ?a1 HSF.out HJ.out (by decide) hs5 w3.heap.size (Nat.le_refl _) HOK5.out ?_))
      case a1 => simp [Value.oneCell']
      intro v' w6 Q6 hok6 hS61 hS62 hB6 hg6 hb6 hs6 hsafe6
      have HV : Hid (∃ a c, v' = .slice a (i + 1) c) := by
        obtain ⟨gv, cv, hv, -⟩ := hB6.shape (by simp)
        refine ⟨some ⟨gv, 0, none⟩, cv, ?_⟩
        rw [hv, List.length_append, HJL.out]; rfl
      rw [← HN.out] at hB6
      have HB6 := Lib.hid hB6
      have HOK6 := Lib.hid hok6
      have HX6 := Lib.hid (Below.trans HE5.out hb6)
      clear hok6 hS61 hS62 hB6 hg6 hb6 hs6 hsafe6
      go_wp2_with fail
      go_roundw
      case rel => exact ⟨i + 1, Q6, by omega, by go_num, HX6.out, HOK6.out, HV, HB6.out⟩
      case measure => simp [intOf]; omega
    · obtain rfl : i = xss.length := by omega
      obtain ⟨sa, cs, rfl⟩ := HSL.out
      have HRS : Hid (Rows2 wo (.slice sa xss.length cs) (rows18 P.length xss.length xss)) := HBu.out.list
      have HE4 := Lib.hid (HE3.out.trans HE.out)
      have HPI := Lib.hid (HPI.out.ext HE.out); have HXB := Lib.hid (block_ext HXB.out HE.out)
      clear HBu HOK HSL HX
      go_wp2_with fail
      clear p0 p1 p2
      refine (HFC.out _ HE4.out _ _ HPI.out HRS.out).mono ?_
      rintro e w4 ⟨u, rfl, hS, hE⟩
      have HEC4 := Lib.hid (HE4.out.trans hE)
      have HPI := Lib.hid (HPI.out.ext (hE))
      have HRS := Lib.hid (HRS.out.ext (hE))
      have HXB := Lib.hid (block_ext HXB.out (hE))
      clear hE HE4
      obtain ⟨p4, c4, m4, rfl, hvp, hvc, hvm⟩ := hS.now
      have HTV4 : Hid (TempV w4 (.agg #[p4, c4, m4]) P S A) := ⟨_, _, _, rfl, hvp, hvc, hvm⟩
      obtain ⟨ap4, kp4, rfl, -⟩ := hvp.open
      obtain ⟨ac4, kc4, rfl, -⟩ := inCell.open hvc
      obtain ⟨am4, km4, rfl, -⟩ := inCell.open hvm
      clear hvp hvc hvm hS
      obtain ⟨V4, hV4, hXV, hsV, hbV⟩ := tp_new w4 (.slice none 0 0) (.slice none 0 0) (.slice none 0 0)
      obtain ⟨r0, r1, r2, rf⟩ := tp_block hbV
      have f0 := rf 0; have f1 := rf 1; have f2 := rf 2
      have HB4 := Lib.hid (tp_store hbV (.slice ap4 P.length kp4) (.slice ac4 S.length kc4) (.slice am4 A.length km4))
      have HXU4 := Lib.hid (ext_tp hXV (Nat.le_refl _) (.slice ap4 P.length kp4) (.slice ac4 S.length kc4) (.slice am4 A.length km4))
      clear hXV hsV hbV rf
      obtain ⟨U4, hU4⟩ : ∃ U, ((V4.setCell ⟨w4.heap.size, 0, none⟩ (.slice ap4 P.length kp4)).setCell ⟨w4.heap.size, 1, none⟩ (.slice ac4 S.length kc4)).setCell ⟨w4.heap.size, 2, none⟩ (.slice am4 A.length km4) = U := ⟨_, rfl⟩
      rw [hU4] at HB4 HXU4
      have HE4 := Lib.hid (HEC4.out.trans HXU4.out)
      have HTV4 := Lib.hid (HTV4.out.ext HXU4.out)
      have HPI := Lib.hid (HPI.out.ext (HXU4.out))
      have HRS := Lib.hid (HRS.out.ext (HXU4.out))
      have HXB := Lib.hid (block_ext HXB.out (HXU4.out))
      clear HXU4 HEC4
      go_wp2_with fail
      clear hU4 hV4 r0 r1 r2 f0 f1 f2
      refine (HFM.out _ HE4.out _ _ HPI.out HRS.out).mono ?_
      rintro e w6 ⟨u, rfl, hS, hE⟩
      have HEC6 := Lib.hid (HE4.out.trans hE)
      have HPI := Lib.hid (HPI.out.ext (hE))
      have HRS := Lib.hid (HRS.out.ext (hE))
      have HXB := Lib.hid (block_ext HXB.out (hE))
      have HB4 := Lib.hid (block_ext HB4.out (hE))
      have HTV4 := Lib.hid (HTV4.out.ext (hE))
      clear hE
      obtain ⟨p6, c6, m6, rfl, hvp, hvc, hvm⟩ := hS.now
      have HTV6 : Hid (TempV w6 (.agg #[p6, c6, m6]) P A S) := ⟨_, _, _, rfl, hvp, hvc, hvm⟩
      obtain ⟨ap6, kp6, rfl, -⟩ := hvp.open
      obtain ⟨ac6, kc6, rfl, -⟩ := inCell.open hvc
      obtain ⟨am6, km6, rfl, -⟩ := inCell.open hvm
      clear hvp hvc hvm hS
      obtain ⟨V6, hV6, hXV, hsV, hbV⟩ := tp_new w6 (.slice none 0 0) (.slice none 0 0) (.slice none 0 0)
      obtain ⟨r0, r1, r2, rf⟩ := tp_block hbV
      have f0 := rf 0; have f1 := rf 1; have f2 := rf 2
      have HB6 := Lib.hid (tp_store hbV (.slice ap6 P.length kp6) (.slice ac6 A.length kc6) (.slice am6 S.length km6))
      have HXU6 := Lib.hid (ext_tp hXV (Nat.le_refl _) (.slice ap6 P.length kp6) (.slice ac6 A.length kc6) (.slice am6 S.length km6))
      clear hXV hsV hbV rf
      obtain ⟨U6, hU6⟩ : ∃ U, ((V6.setCell ⟨w6.heap.size, 0, none⟩ (.slice ap6 P.length kp6)).setCell ⟨w6.heap.size, 1, none⟩ (.slice ac6 A.length kc6)).setCell ⟨w6.heap.size, 2, none⟩ (.slice am6 S.length km6) = U := ⟨_, rfl⟩
      rw [hU6] at HB6 HXU6
      have HE6 := Lib.hid (HEC6.out.trans HXU6.out)
      have HTV6 := Lib.hid (HTV6.out.ext HXU6.out)
      have HPI := Lib.hid (HPI.out.ext (HXU6.out))
      have HRS := Lib.hid (HRS.out.ext (HXU6.out))
      have HXB := Lib.hid (block_ext HXB.out (HXU6.out))
      have HB4 := Lib.hid (block_ext HB4.out (HXU6.out))
      have HTV4 := Lib.hid (HTV4.out.ext (HXU6.out))
      clear HXU6 HEC6
      have e0 := block_cell HXB.out 0; have e1 := block_cell HXB.out 1; have e2 := block_cell HXB.out 2; have e3 := block_cell HXB.out 3
      simp only [List.getElem?_toArray, List.getElem?_cons_zero, List.getElem?_cons_succ] at e0 e1 e2 e3
      go_wp2_with fail
      clear hU6 hV6 r0 r1 r2 f0 f1 f2 e0 e1 e2 e3
      refine (HIN.out _ _ HPI.out [x0, x1, x2, x3] rfl HX4.out).mono ?_
      rintro e w7 ⟨ay, cy, rfl, hO, hE⟩
      rw [HY.out] at hO
      have HYI : Hid (Ints w7 (.slice ay P.length cy) y) := Ints.of_owns (by rw [HYL.out]; exact hO) (fun y' hy' => by have := HYR.out y' hy'; omega)
      have HE7 := Lib.hid (HE6.out.trans hE)
      have HPI := Lib.hid (HPI.out.ext (hE))
      have HRS := Lib.hid (HRS.out.ext (hE))
      have HXB := Lib.hid (block_ext HXB.out (hE))
      have HB4 := Lib.hid (block_ext HB4.out (hE))
      have HTV4 := Lib.hid (HTV4.out.ext (hE))
      have HB6 := Lib.hid (block_ext HB6.out (hE))
      have HTV6 := Lib.hid (HTV6.out.ext (hE))
      clear hE hO
      obtain ⟨s0, s1, s2, -⟩ := tp_block HB6.out
      go_wp2_with fail
      clear s0 s1 s2
      refine (HTB.out _ _ _ HE7.out HTV6.out HYI.out).mono ?_
      rintro e w8 ⟨rfl, hE⟩
      have HE8 := Lib.hid (HE7.out.trans hE)
      have HYI := Lib.hid (HYI.out.ext hE); have HRS := Lib.hid (HRS.out.ext hE); have HB4 := Lib.hid (block_ext HB4.out hE); have HTV4 := Lib.hid (HTV4.out.ext hE)
      clear hE HTB HFC HFM HIN HPI HXB HB6 HTV6
      go_wp2_with fail
      obtain ⟨b4, hb4⟩ : ∃ b, w4.heap.size = b := ⟨_, rfl⟩
      rw [hb4] at HB4 ⊢
      clear hb4
      obtain ⟨m, hm⟩ : ∃ m, rows18 P.length xss.length xss = m := ⟨_, rfl⟩
      rw [hm] at HRS HTA HDT HML ⊢
      clear hm
      go_loopw [15, 16] (fun al t wr => ∃ i : Nat, i ≤ xss.length ∧ t = .int .i64 i ∧ al = .bool ((m.take i).all fun r => dotZ r y P.length == 0) ∧ Hid (Ext w8 wr)) (fun _ t _ => xss.length - (intOf t).toNat)
      case atStart => exact ⟨0, by omega, rfl, rfl, Ext.refl _⟩
      case round =>
        obtain ⟨i, hi2, rfl, rfl, HE2⟩ := hrel
        obtain ⟨w9, rfl⟩ : ∃ w9 : World, w9 = wr := ⟨_, rfl⟩
        have HE9 := Lib.hid (HE8.out.trans HE2.out)
        have HB4o := Lib.hid (block_ext HB4.out HE2.out); have HTVo := Lib.hid (HTV4.out.ext HE2.out); have HYo := Lib.hid (HYI.out.ext HE2.out)
        obtain ⟨s0, s1, s2, -⟩ := tp_block HB4o.out
        obtain ⟨BB, hBB⟩ : ∃ B, ((m.take i).all fun r => dotZ r y P.length == 0) = B := ⟨_, rfl⟩
        rw [hBB]
        by_cases hlt : i < xss.length
        · obtain ⟨a0, k0, hsl, -, y2, -, yc⟩ := inCell.open HRS.out
          simp only [Value.slice.injEq] at hsl
          obtain ⟨rfl, -, rfl⟩ := hsl
          obtain ⟨bc, oc, rfl, hbc, hcell⟩ := yc (by intro e; have := HML.out; rw [e] at this; simp at this; omega)
          obtain ⟨r, hr⟩ : ∃ r, m[i]? = some r := ⟨m[i]'(by rw [HML.out]; exact hlt), List.getElem?_eq_getElem _⟩
          obtain ⟨vx, hvx, hcx⟩ := hcell i r hr
          have gx := HE2.out.cell hcx
          have HXM := Lib.hid (List.mem_of_getElem? hr)
          have HXI := Lib.hid (hvx.ext HE2.out)
          have HN : Hid (((m.take (i + 1)).all fun r => dotZ r y P.length == 0) = (BB && dotZ r y P.length == 0)) := by
            unfold Hid
            rw [List.take_add_one, hr, List.all_append, hBB]
            simp
          obtain ⟨ax, cx, rfl, -⟩ := hvx.open
          clear y2 yc hcell hr hvx hcx hBB
          go_upto_region 19 with fail
          refine region_anyEUN (fun w' => w'.cell? ⟨b4, 0, none⟩ = some (.slice ap4 P.length kp4) ∧ w'.cell? ⟨b4, 1, none⟩ = some (.slice ac4 S.length kc4) ∧ w'.cell? ⟨b4, 2, none⟩ = some (.slice am4 A.length km4) ∧ w'.cell? ⟨bc, oc + i, none⟩ = some (.slice ax r.length cx) ∧ Hid (Ext w9 w')) 11 11 (by kernel_rfl) (by kernel_rfl) ⟨(Ext.drew w9).cell s0, (Ext.drew w9).cell s1, (Ext.drew w9).cell s2, (Ext.drew w9).cell gx, Ext.drew w9⟩ (fun ops hO hHeld => ?_)
          generalize w9.drew = wd at hHeld ⊢
          have hi := getopN hO 0 (by decide)
          conv at hi => rhs; arg 1; whnf
          refine anyE_takeUN hO (v := ?_) 0 hi rfl (by kernel_rfl) (by kernel_rfl) (by kernel_rfl) (by kernel_rfl) (fun _ _ _ h => h) (Or.inl ⟨by rfl, ?_⟩) (by assumption) ?_
          rotate_left
          · ((intro w' hSw); (try dsimp only at hSw); (try go_simp); (try with_reducible rfl))
          clear hi
          (try simp only [Act.put, List.setIfInBounds_toArray, List.set_cons_zero, List.set_cons_succ])
          have hi := getopN hO 1 (by decide)
          conv at hi => rhs; arg 1; whnf
          refine anyE_takeWUN hO (v := ?_) 1 hi rfl (by kernel_rfl) (by kernel_rfl) (by kernel_rfl) (by decide) (fun _ _ _ h => h) (Or.inl ⟨by rfl, ?_⟩) (by assumption) ?_
          rotate_left
          · ((intro w'); (try go_simp); (try with_reducible rfl))
          clear hi
          (try simp only [Act.put, List.setIfInBounds_toArray, List.set_cons_zero, List.set_cons_succ])
          have hi := getopN hO 2 (by decide)
          conv at hi => rhs; arg 1; whnf
          refine anyE_takeWUN hO (v := ?_) 2 hi rfl (by kernel_rfl) (by kernel_rfl) (by kernel_rfl) (by decide) (fun _ _ _ h => h) (Or.inl ⟨by rfl, ?_⟩) (by assumption) ?_
          rotate_left
          · ((intro w'); (try go_simp); (try with_reducible rfl))
          clear hi
          (try simp only [Act.put, List.setIfInBounds_toArray, List.set_cons_zero, List.set_cons_succ])
          have hi := getopN hO 3 (by decide)
          conv at hi => rhs; arg 1; whnf
          refine anyE_takeWUN hO (v := ?_) 3 hi rfl (by kernel_rfl) (by kernel_rfl) (by kernel_rfl) (by decide) (fun _ _ _ h => h) (Or.inl ⟨by rfl, ?_⟩) (by assumption) ?_
          rotate_left
          · ((intro w'); (try go_simp); (try with_reducible rfl))
          clear hi
          (try simp only [Act.put, List.setIfInBounds_toArray, List.set_cons_zero, List.set_cons_succ])
          have hi := getopN hO 4 (by decide)
          conv at hi => rhs; arg 1; whnf
          refine anyE_takeUN hO (v := ?_) 4 hi rfl (by kernel_rfl) (by kernel_rfl) (by kernel_rfl) (by kernel_rfl) (fun _ _ _ h => h) (Or.inl ⟨by rfl, ?_⟩) (by assumption) ?_
          rotate_left
          · ((intro w' hSw); (try dsimp only at hSw); (try go_simp); (try with_reducible rfl))
          clear hi
          (try simp only [Act.put, List.setIfInBounds_toArray, List.set_cons_zero, List.set_cons_succ])
          have hi := getopN hO 5 (by decide)
          conv at hi => rhs; arg 1; whnf
          refine anyE_stepUN hO 5 (by kernel_rfl) hi rfl (fun K hK => ?_)
          go_simp
          (go_at_call 50; refine (HTA.out _ _ _ _ (Ext.trans HE9.out (hHeld.2.2.2.2.out)) (HTVo.out.ext (hHeld.2.2.2.2.out)) (HXI.out.ext (hHeld.2.2.2.2.out)) HXM.out).mono ?_)
          rintro e w20 ⟨rfl, hEz⟩
          go_wp2_with fail
          refine hK.out _ _ ⟨(hEz).cell hHeld.1, (hEz).cell hHeld.2.1, (hEz).cell hHeld.2.2.1, (hEz).cell hHeld.2.2.2.1, Ext.trans hHeld.2.2.2.2.out (hEz)⟩ (fun hHeld => ?_)
          clear hK K hi
          (try simp only [Act.put, List.setIfInBounds_toArray, List.set_cons_zero, List.set_cons_succ])
          have hi := getopN hO 6 (by decide)
          conv at hi => rhs; arg 1; whnf
          refine anyE_takeWUN hO (v := ?_) 6 hi rfl (by kernel_rfl) (by kernel_rfl) (by kernel_rfl) (by decide) (fun _ _ _ h => h) (Or.inl ⟨by rfl, ?_⟩) (by assumption) ?_
          rotate_left
          · ((intro w'); (try go_simp); (try with_reducible rfl))
          clear hi
          (try simp only [Act.put, List.setIfInBounds_toArray, List.set_cons_zero, List.set_cons_succ])
          have hi := getopN hO 7 (by decide)
          conv at hi => rhs; arg 1; whnf
          refine anyE_takeWUN hO (v := ?_) 7 hi rfl (by kernel_rfl) (by kernel_rfl) (by kernel_rfl) (by decide) (fun _ _ _ h => h) (Or.inl ⟨by rfl, ?_⟩) (by assumption) ?_
          rotate_left
          · ((intro w'); (try go_simp); (try with_reducible rfl))
          clear hi
          (try simp only [Act.put, List.setIfInBounds_toArray, List.set_cons_zero, List.set_cons_succ])
          have hi := getopN hO 8 (by decide)
          conv at hi => rhs; arg 1; whnf
          refine anyE_takeWUN hO (v := ?_) 8 hi rfl (by kernel_rfl) (by kernel_rfl) (by kernel_rfl) (by decide) (fun _ _ _ h => h) (Or.inl ⟨by rfl, ?_⟩) (by assumption) ?_
          rotate_left
          · ((intro w'); (try go_simp); (try with_reducible rfl))
          clear hi
          (try simp only [Act.put, List.setIfInBounds_toArray, List.set_cons_zero, List.set_cons_succ])
          have hi := getopN hO 9 (by decide)
          conv at hi => rhs; arg 1; whnf
          refine anyE_takeWUN hO (v := ?_) 9 hi rfl (by kernel_rfl) (by kernel_rfl) (by kernel_rfl) (by decide) (fun _ _ _ h => h) (Or.inl ⟨by rfl, ?_⟩) (by assumption) ?_
          rotate_left
          · ((intro w'); (try go_simp); (try with_reducible rfl))
          clear hi
          (try simp only [Act.put, List.setIfInBounds_toArray, List.set_cons_zero, List.set_cons_succ])
          have HG := Lib.hid (hHeld.2.2.2.1)
          have HZ := Lib.hid (hHeld.2.2.2.2.out)
          have hi := getopN hO 10 (by decide)
          conv at hi => rhs; arg 1; whnf
          refine anyE_lastUN hO 10 (by kernel_rfl) rfl (by kernel_rfl) hi (fun K hK => ?_)
          go_simp
          refine hK.out _ _ (by assumption) ?_
          clear hK K hi hO
          (try simp only [Act.put, List.setIfInBounds_toArray, List.set_cons_zero, List.set_cons_succ])
          have gy := HG.out
          have HE20 := Lib.hid (HE2.out.trans HZ.out)
          have HD1 := Lib.hid (HDT.out _ _ _ _ (HE9.out.trans HZ.out) (HXI.out.ext HZ.out) (HYo.out.ext HZ.out) HXM.out)
          obtain ⟨d, hd⟩ : ∃ d, dotZ r y P.length = d := ⟨_, rfl⟩
          rw [hd] at HD1 HN
          clear gx s0 s1 s2 HG hd
          cases BB
          · go_wp2_with fail
            go_roundw
            case rel => exact ⟨i + 1, by omega, by go_num, by rw [HN.out]; rfl, HE20.out⟩
            case measure => simp [intOf]; omega
          · go_wp2_with fail
            refine HD1.out.mono ?_
            rintro e w21 ⟨rfl, hE⟩
            have HE21 := Lib.hid (HE20.out.trans hE)
            have hz := int_zero d
            have hdd : (d == 0) = decide (d = 0) := by by_cases h : d = 0 <;> simp [h]
            obtain ⟨DD, hDD⟩ : ∃ b, decide (d = 0) = b := ⟨_, rfl⟩
            rw [hDD] at hz hdd
            clear hE gy HD1
            cases DD
            · go_wp2_with fail
              go_roundw
              case rel => exact ⟨i + 1, by omega, by go_num, by rw [HN.out, hdd]; rfl, HE21.out⟩
              case measure => simp [intOf]; omega
            · go_wp2_with fail
              go_roundw
              case rel => exact ⟨i + 1, by omega, by go_num, by rw [HN.out, hdd]; rfl, HE21.out⟩
              case measure => simp [intOf]; omega
        · obtain rfl : i = xss.length := by omega
          rw [← HML.out, List.take_length] at hBB
          rw [hBB]
          clear hBB s0 s1 s2
          cases BB
          · go_wp2_with fail
            go_ret
            exact ⟨rfl, HE9.out⟩
          · go_wp2_with fail
            go_ret
            exact ⟨rfl, HE9.out⟩
end Go.Proofs.YtehknemdfbkimaaGreatDoor
