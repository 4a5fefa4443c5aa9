/- Merged: DTemM. -/
import Derived.Test.YtjihfabhgcfjnaaGreatDoorUBK
/- Law 18's Make and temperament.Just: their results lie in new memory. Printed by gen/dtemm.py. -/
namespace Go.Proofs.YtjihfabhgcfjnaaGreatDoor
set_option linter.unusedVariables false
set_option linter.unusedSimpArgs false
open Go.RowKit

set_option maxRecDepth 100000 in
set_option maxHeartbeats 8000000 in
theorem make18S_any (c : Int) (hc0 : 0 ≤ c) (hc1 : c ≤ 255) (n F : Nat) (P : List Int) (hP : P = primes12 (c % 10).toNat) (hn : P.length = n) (xss : List (List Int)) (hx3 : xss.length ≤ 3) (vals : Bool) (v : Value) (w : World) (h : Fours w v xss)
    (R A S : List (List Int)) (hD : FromD n F (rows18 n xss.length xss) R A S) (hlib : LibT w) (hp : 2 < w.heap.size) :
    Calls Tryz.prog 64 #[.agg #[.int .u8 c, v, .bool vals]] w fun e w' => ∃ u, e = .returned u ∧ SafeS w' (· < w.heap.size) (fun W => TempV W u P (if vals then A else S) (if vals then S else A)) ∧ Ext w w' := by
  have HPR := Lib.hid (fun W => primes12_any c hc0 hc1 W)
  rw [← hP, hn] at HPR
  have hpe := (primes12_ok (c % 10).toNat).1
  rw [← hP] at hpe
  have hn4 : n ≤ 4 := by have := (primes12_ok (c % 10).toNat).2.2; rw [← hP, hn] at this; exact this
  have HIN := Lib.hid (fun W vp (hvp : Ints W vp P) (x : List Int) (h4 : x.length = 4) (hb : ∀ a ∈ x, -128 ≤ a ∧ a ≤ 127) => interval12_any n P x vp W hvp hn hn4 h4 hb)
  have HBD := Lib.hid (fun W (hW : Ext w W) T vp v (hT : ∀ k, T k → k < W.heap.size) (hP : SafeS W T fun W => Ints W vp P) (h : Rows2 W v (rows18 n xss.length xss)) => build_any n F P (rows18 n xss.length xss) R A S vals T vp v W hT hP h hpe hn hD (hlib.ext hW) (Nat.lt_of_lt_of_le hp hW.size))
  obtain ⟨a, cp, rfl, hx1, hx2, hxl, hx4⟩ := ListAt.open h
  have HX := Lib.hid hx4
  unfold maxLen at hx2
  obtain ⟨C, hC⟩ : ∃ C, (if vals = true then A else S) = C := ⟨_, rfl⟩
  obtain ⟨M, hM⟩ : ∃ M, (if vals = true then S else A) = M := ⟨_, rfl⟩
  rw [hC, hM] at HBD ⊢
  clear hx4 h hlib hp hD hpe hP hC hM
  go_enter Tryz.func64, Tryz.ntmps64
  go_wp2_with fail
  obtain ⟨W1, hW1⟩ : ∃ W1, w.alloc (.cells #[.int .u8 c, .slice a xss.length cp, .bool vals] 73) = W1 := ⟨_, rfl⟩
  have hb0 : W1.heap[w.heap.size]? = some (.cells #[.int .u8 c, .slice a xss.length cp, .bool vals] 73 (0, 0)) := by rw [← hW1]; exact block_new _ _ _
  have hE1 : Ext w W1 := by rw [← hW1]; exact Ext.alloc _ _
  have hs1 : W1.heap.size = w.heap.size + 1 := by rw [← hW1]; simp
  rw [hW1]
  obtain ⟨W2, hW2, hE2, hs2, hb2⟩ := tp_new W1 (.slice none 0 0) (.slice none 0 0) (.slice none 0 0)
  rw [hW2]
  rw [hs1] at hb2
  have HB0 := Lib.hid (block_ext hb0 hE2); have HB2 := Lib.hid hb2; have HE2 := Lib.hid (hE1.trans hE2)
  have HS2 : Hid (W2.heap.size = w.heap.size + 2) := by unfold Hid; omega
  clear hW1 hW2 hb0 hE1 hs1 hE2 hs2 hb2
  have p0 := block_cell HB0.out 0; have p1 := block_cell HB0.out 1; have p2 := block_cell HB0.out 2
  simp only [List.getElem?_toArray, List.getElem?_cons_zero, List.getElem?_cons_succ] at p0 p1 p2
  go_wp2_with fail
  refine (HPR.out _).mono ?_
  rintro e w3 ⟨ap, cpp, rfl, hpr, hE3⟩
  have HE3 := Lib.hid (HE2.out.trans hE3); have HB03 := Lib.hid (block_ext HB0.out hE3); have HB23 := Lib.hid (block_ext HB2.out hE3)
  have HPS := Lib.hid (hpr.low (S' := (· < w.heap.size + 2)) fun k hk => by have := HS2.out; omega)
  have HZ3 : Hid (w.heap.size + 2 ≤ w3.heap.size) := by unfold Hid; have := hE3.size; have := HS2.out; omega
  clear hE3 hpr HPR p0 p1 p2
  go_wp2_with fail
  go_loopw [4, 5] (fun so t wr => ∃ (i : Nat) (Q : Nat → Prop), i ≤ xss.length ∧ t = .int .i64 i ∧ Hid (Ext w3 wr) ∧ Hid (SOk Q w3.heap.size wr) ∧ Hid (∃ a c, so = .slice a i c) ∧ Hid (BuildS wr Q w3.heap.size 37 1 so rowC (rows18 n i xss))) (fun _ t _ => xss.length - (intOf t).toNat)
  case atStart => exact ⟨0, fun _ => False, by omega, rfl, Ext.refl _, fun b hb => hb.elim, ⟨none, 0, rfl⟩, BuildS.nil _ _ _ _ _ _⟩
  case round =>
    obtain ⟨i, Q, hi, rfl, HE, HOK, HSL, HBu⟩ := hrel
    obtain ⟨wo, rfl⟩ : ∃ wo : World, wo = wr := ⟨_, rfl⟩
    have HB0o := Lib.hid (block_ext HB03.out HE.out)
    have p0 := block_cell HB0o.out 0; have p1 := block_cell HB0o.out 1; have p2 := block_cell HB0o.out 2
    simp only [List.getElem?_toArray, List.getElem?_cons_zero, List.getElem?_cons_succ] at p0 p1 p2
    by_cases hlt : i < xss.length
    · have hi3 : i < 3 := by omega
      obtain ⟨b, off, rfl, hb, hcell⟩ := HX.out (by omega) (by intro e; rw [e] at hlt; simp at hlt)
      obtain ⟨x, hx⟩ : ∃ x, xss[i]? = some x := ⟨xss[i], List.getElem?_eq_getElem hlt⟩
      obtain ⟨u, hu, ⟨rfl, hx4, hxb⟩, hc⟩ := hcell i x hx
      obtain ⟨x0, x1, x2, x3, rfl⟩ : ∃ a b c d, x = [a, b, c, d] := by
        match x, hx4 with
        | [a, b, c, d], _ => exact ⟨a, b, c, d, rfl⟩
      have g0 := (HE3.out.trans HE.out).cell (hc 0 (by omega)); have g1 := (HE3.out.trans HE.out).cell (hc 1 (by omega))
      have g2 := (HE3.out.trans HE.out).cell (hc 2 (by omega)); have g3 := (HE3.out.trans HE.out).cell (hc 3 (by omega))
      rw [← Nat.add_assoc] at g0 g1 g2 g3
      rw [Nat.add_zero] at g0
      have HIV := Lib.hid (HIN.out wo _ (HPS.out.now.ext HE.out) [x0, x1, x2, x3] rfl hxb)
      have HN : Hid (rows18 n (i + 1) xss = rows18 n i xss ++ [row9 n [x0, x1, x2, x3]]) := by unfold Hid rows18; rw [List.take_add_one, hx, List.map_append]; rfl
      have HJL : Hid ((rows18 n i xss).length = i) := by unfold Hid rows18; rw [List.length_map, List.length_take]; omega
      have HJ : Hid ((rows18 n i xss).length < 1000000) := by unfold Hid; rw [HJL.out]; omega
      have HRL : Hid ((row9 n [x0, x1, x2, x3]).length = n) := row9_len (by simpa using hn4)
      clear hcell hc hx hu hxb
      go_wp2_with fail
      refine HIV.out.mono ?_
      rintro e w5 ⟨ar, cr, rfl, hO, hE5⟩
      have HSF : Hid (SafeS w5 Q fun W => rowC W [.slice ar n cr] (row9 n [x0, x1, x2, x3])) := (SafeS.owns hO (fun k hk hs => by have := (hO.lt k hk).1; have := (HOK.out k hs).2; omega)).mono (fun W h => ⟨_, rfl, Ints.of_owns (by rw [HRL.out]; exact h) (fun y hy => by have := row9_bd y hy; omega)⟩)
      have HB5 := Lib.hid (HBu.out.ext hE5)
      have HOK5 := Lib.hid (HOK.out.grow hE5.size)
      have HE5 := Lib.hid (HE.out.trans hE5)
      have hs5 := HE5.out.size
      clear hO hE5 HIV HBu HOK p0 p1 p2 g0 g1 g2 g3
      go_wp2_with (at_builtin; go_must (refine wpList_append_buildS _ rfl _ _ 29 rfl Q w3.heap.size 37 (.slice none 0 0) 1 24 Tryz.underlying29 infoRow rfl (by decide) u4 rowC (rows18 n i xss) (row9 n [x0, x1, x2, x3]) #[.slice ar n cr] 37 rfl HB5.out _ rfl rfl rfl ?a1 HSF.out HJ.out (by decide) hs5 w3.heap.size (Nat.le_refl _) HOK5.out ?_))
      case a1 => simp [Value.oneCell']
      intro v' w6 Q6 hok6 hS61 hS62 hB6 hg6 hb6 hs6 hsafe6
      have HV : Hid (∃ a c, v' = .slice a (i + 1) c) := by
        obtain ⟨gv, cv, hv, -⟩ := hB6.shape (by simp)
        refine ⟨some ⟨gv, 0, none⟩, cv, ?_⟩
        rw [hv, List.length_append, HJL.out]; rfl
      rw [← HN.out] at hB6
      have HB6 := Lib.hid hB6
      have HOK6 := Lib.hid hok6
      have HX6 := Lib.hid (Below.trans HE5.out hb6)
      clear hok6 hS61 hS62 hB6 hg6 hb6 hs6 hsafe6
      go_wp2_with fail
      go_roundw
      case rel => exact ⟨i + 1, Q6, by omega, by go_num, HX6.out, HOK6.out, HV, HB6.out⟩
      case measure => simp [intOf]; omega
    · obtain rfl : i = xss.length := by omega
      obtain ⟨sa, cs, rfl⟩ := HSL.out
      have HRS : Hid (Rows2 wo (.slice sa xss.length cs) (rows18 n xss.length xss)) := HBu.out.list
      have HE4 := Lib.hid (HE3.out.trans HE.out)
      have HB2o := Lib.hid (block_ext HB23.out HE.out)
      have HBI := Lib.hid (HBD.out wo HE4.out (· < w.heap.size + 2) _ _ (fun k hk => by have := HZ3.out; have := HE.out.size; omega) (HPS.out.ext HE.out) HRS.out)
      clear HIN HBu HOK HBD HSL
      go_wp2_with fail
      refine HBI.out.mono ?_
      rintro e w6 ⟨u6, rfl, hu6, hE6⟩
      obtain ⟨vp6, vc6, vm6, rfl, o1, o2, o3⟩ := hu6.now
      obtain ⟨ap6, lp6, cp6, rfl⟩ : ∃ a l c, vp6 = .slice a l c := by obtain ⟨a, c, h, -⟩ := o1.open; exact ⟨a, _, c, h⟩
      obtain ⟨ac6, lc6, cc6, rfl⟩ : ∃ a l c, vc6 = .slice a l c := by obtain ⟨a, c, h, -⟩ := inCell.open o2; exact ⟨a, _, c, h⟩
      obtain ⟨am6, lm6, cm6, rfl⟩ : ∃ a l c, vm6 = .slice a l c := by obtain ⟨a, c, h, -⟩ := inCell.open o3; exact ⟨a, _, c, h⟩
      have HE6 := Lib.hid (HE4.out.trans hE6); have HB6 := Lib.hid (block_ext HB2o.out hE6); have HU6 := Lib.hid hu6
      clear hE6 hu6 HBI HB2o p0 p1 p2 o1 o2 o3
      obtain ⟨V1, hV1, hX1, hs1, hb1⟩ := tp_new w6 (.slice none 0 0) (.slice none 0 0) (.slice none 0 0)
      obtain ⟨r0, r1, r2, rf⟩ := tp_block hb1
      have f0 := rf 0; have f1 := rf 1; have f2 := rf 2
      have HB7 := Lib.hid (tp_store hb1 (.slice ap6 lp6 cp6) (.slice ac6 lc6 cc6) (.slice am6 lm6 cm6))
      have HXU := Lib.hid (ext_tp hX1 (Nat.le_refl _) (.slice ap6 lp6 cp6) (.slice ac6 lc6 cc6) (.slice am6 lm6 cm6))
      clear hX1 hs1 hb1 rf
      obtain ⟨U1, hU1⟩ : ∃ U1, ((V1.setCell ⟨w6.heap.size, 0, none⟩ (.slice ap6 lp6 cp6)).setCell ⟨w6.heap.size, 1, none⟩ (.slice ac6 lc6 cc6)).setCell ⟨w6.heap.size, 2, none⟩ (.slice am6 lm6 cm6) = U1 := ⟨_, rfl⟩
      rw [hU1] at HB7 HXU
      obtain ⟨s0, s1, s2, -⟩ := tp_block HB7.out
      have HB8 := Lib.hid (block_ext HB6.out HXU.out)
      obtain ⟨t0, t1, t2, tf⟩ := tp_block HB8.out
      have g0 := tf 0; have g1 := tf 1; have g2 := tf 2
      have HU7 := Lib.hid (HU6.out.ext HXU.out)
      have HE7 := Lib.hid (HE6.out.trans HXU.out)
      clear tf
      go_wp2_with fail
      clear hU1 hV1 r0 r1 r2 f0 f1 f2
      have hkA := tp_store HB8.out (.slice ap6 lp6 cp6) (.slice ac6 lc6 cc6) (.slice am6 lm6 cm6)
      refine bodyPost_ret (results_cell_row (by rfl) _ _ (w.heap.size + 1) 58 #[.slice ap6 lp6 cp6, .slice ac6 lc6 cc6, .slice am6 lm6 cm6] (0, 0) _ (by rfl) hkA Tryz.underlying58 (by rfl) (by kernel_rfl)) (by rfl) ?_
      have hG : ∀ (x y z : Value), GrownS (· < w.heap.size + 2) U1 (((U1.setCell ⟨w.heap.size + 1, 0, none⟩ x).setCell ⟨w.heap.size + 1, 1, none⟩ y).setCell ⟨w.heap.size + 1, 2, none⟩ z) := fun x y z => by
        have hlt : w.heap.size + 1 < w.heap.size + 2 := by omega
        exact (((GrownS.refl _ U1).setCell (g := w.heap.size + 1) hlt 0 x).setCell (g := w.heap.size + 1) hlt 1 y).setCell (g := w.heap.size + 1) hlt 2 z
      exact ⟨_, rfl, HU7.out.grow (hG _ _ _) (S' := (· < w.heap.size)) (fun k hk => .inl (show k < w.heap.size + 2 by have hk : k < w.heap.size := hk; omega)), ext_tp HE7.out (Nat.le_succ _) _ _ _⟩

set_option maxRecDepth 100000 in
set_option maxHeartbeats 4000000 in
theorem justS_any (n F : Nat) (P : List Int) (vp : Value) (w : World) (hP : Ints w vp P) (hE : primesE P = 0) (hPl : P.length = n) (hD : FromD n F [] [] (idM n n) []) (hlib : LibT w) (hp : 2 < w.heap.size) :
    Calls Tryz.prog 16 #[vp] w fun e w' => ∃ u, e = .returned (.tuple #[u, .int .i64 0]) ∧ SafeS w' (· < w.heap.size) (fun W => TempV W u P [] (idM n n)) ∧ Ext w w' := by
  have HFR := Lib.hid (fun W (hW : Ext w W) => fromCommas_any n F P [] [] (idM n n) [] vp (.slice none 0 0) W (hP.ext hW) (rows_nil W) hE hPl hD (hlib.ext hW) (Nat.lt_of_lt_of_le hp hW.size))
  obtain ⟨ap, cp, rfl, -⟩ := hP.open
  rw [hPl] at HFR ⊢
  clear hP hE hD hlib hp hPl
  go_enter Tryz.func16, Tryz.ntmps16
  obtain ⟨W1, hW1, hE1, hs1, hb1⟩ := tp_new w (.slice none 0 0) (.slice none 0 0) (.slice none 0 0)
  have HB1 := Lib.hid hb1; have HE1 := Lib.hid hE1; have HS1 := Lib.hid hs1
  clear hE1 hs1 hb1
  go_wp2_with fail
  refine (HFR.out _ HE1.out).mono ?_
  rintro e w2 ⟨u, rfl, hu, hE2⟩
  have HB2 := Lib.hid (block_ext HB1.out hE2)
  have HE2 := Lib.hid (HE1.out.trans hE2)
  have HU := Lib.hid hu
  obtain ⟨p, c, m, rfl, hvp, hvc, hvm⟩ := hu.now
  obtain ⟨a1, c1, rfl, -⟩ := hvp.open
  obtain ⟨a2, c2, rfl, -⟩ := inCell.open hvc
  obtain ⟨a3, c3, rfl, -⟩ := inCell.open hvm
  clear hE2 hu HFR HB1 HE1 hW1 hvp hvc hvm
  obtain ⟨b0, b1, b2, bf⟩ := tp_block HB2.out
  have f0 := bf 0; have f1 := bf 1; have f2 := bf 2
  clear bf
  generalize hk1 : P.length = k1 at HU ⊢
  generalize hk2 : ([] : List (List Int)).length = k2 at HU ⊢
  generalize hk3 : ((idM n n) : List (List Int)).length = k3 at HU ⊢
  clear hk1 hk2 hk3
  go_wp2_with fail
  have hkA := tp_store HB2.out (.slice a1 k1 c1) (.slice a2 k2 c2) (.slice a3 k3 c3)
  refine bodyPost_ret (results_rowtmp (by rfl) _ _ w.heap.size 58 #[.slice a1 k1 c1, .slice a2 k2 c2, .slice a3 k3 c3] (0, 0) _ (by rfl) hkA Tryz.underlying58 (by rfl) (by kernel_rfl)) (by rfl) ?_
  have hG : ∀ (x y z : Value), GrownS (· < W1.heap.size) w2 (((w2.setCell ⟨w.heap.size, 0, none⟩ x).setCell ⟨w.heap.size, 1, none⟩ y).setCell ⟨w.heap.size, 2, none⟩ z) := fun x y z => by
    have hlt : w.heap.size < W1.heap.size := by have := HS1.out; omega
    exact (((GrownS.refl _ w2).setCell (g := w.heap.size) hlt 0 x).setCell (g := w.heap.size) hlt 1 y).setCell (g := w.heap.size) hlt 2 z
  exact ⟨_, rfl, HU.out.grow (hG _ _ _) (S' := (· < w.heap.size)) (fun k hk => .inl (show k < W1.heap.size by have hk : k < w.heap.size := hk; have := HS1.out; omega)), ext_tp HE2.out (Nat.le_refl _) _ _ _⟩
end Go.Proofs.YtjihfabhgcfjnaaGreatDoor
