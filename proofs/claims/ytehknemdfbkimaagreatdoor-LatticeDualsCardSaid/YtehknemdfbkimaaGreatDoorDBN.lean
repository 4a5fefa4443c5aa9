/- Merged: DualW. -/
import Derived.Test.YtehknemdfbkimaaGreatDoorDBM
import Derived.Test.YtehknemdfbkimaaGreatDoorDBE
import Derived.Test.YtehknemdfbkimaaGreatDoorDBF
/- The walk of LatticeDuals. Printed by gen/duals.py. -/
namespace Go.Proofs.YtehknemdfbkimaaGreatDoor
set_option linter.unusedVariables false
set_option linter.unusedSimpArgs false
open Go.RowKit

set_option maxRecDepth 100000 in
set_option maxHeartbeats 40000000 in
theorem duals_walk (c d : Int) (hc0 : 0 ≤ c) (hc1 : c ≤ 255) (xss yss : List (List Int)) (v v' : Value) (w : World) (h : Fours w v xss) (h' : Fours w v' yss) (hlib : LibT w) (hb : 0 < w.heap.size) :
    Calls Tryz.prog 6 #[.agg #[.int .u8 c, v], .agg #[.int .u8 d, v']] w fun e w' => e = .returned (.bool true) ∧ Ext w w' := by
  obtain ⟨n, hn, hn1, hn2⟩ : ∃ n : Nat, 1 + c % 4 = (n : Int) ∧ 1 ≤ n ∧ n ≤ 4 := ⟨(1 + c % 4).toNat, by omega, by omega, by omega⟩
  obtain ⟨R, ps, P1⟩ := planF_of hn1 hn2 h
  obtain ⟨T, qs, P2⟩ := planF_of hn1 hn2 h'
  obtain ⟨F, U, A, B, O, S, H, D⟩ := duals_of hn1 hn2 P1 P2
  have HKN := Lib.hid (fun W (hW : Ext w W) => known9_any W (hlib.ext hW) (Nat.lt_of_lt_of_le hb hW.size))
  have HMA := Lib.hid (fun W (hW : Ext w W) => make9_as hc0 hc1 hn hn2 P1 v W (h.ext hW))
  have HMB := Lib.hid (fun W (hW : Ext w W) => make9_as hc0 hc1 hn hn2 P2 v' W (h'.ext hW))
  have HSU := Lib.hid (fun W (hW : Ext w W) => dual_sum hn1 hn2 P1 P2 D W (hlib.ext hW) (Nat.lt_of_lt_of_le hb hW.size))
  have HAR := Lib.hid (fun W (hW : Ext w W) => dual_annR hn1 hn2 P1 P2 D W (hlib.ext hW) (Nat.lt_of_lt_of_le hb hW.size))
  have HAT := Lib.hid (fun W (hW : Ext w W) => dual_annT hn1 hn2 P1 P2 D W (hlib.ext hW) (Nat.lt_of_lt_of_le hb hW.size))
  have HAU := Lib.hid (fun W (hW : Ext w W) => dual_annU hn1 hn2 P1 P2 D W (hlib.ext hW) (Nat.lt_of_lt_of_le hb hW.size))
  have HAA := Lib.hid (fun W (hW : Ext w W) => dual_annA hn1 hn2 P1 P2 D W (hlib.ext hW) (Nat.lt_of_lt_of_le hb hW.size))
  have HSR := Lib.hid (fun W (hW : Ext w W) => dual_sat hn1 hn2 P1 P2 D W (hlib.ext hW) (Nat.lt_of_lt_of_le hb hW.size))
  have HIN := Lib.hid (fun W (hW : Ext w W) => dual_int hn1 hn2 P1 P2 D W (hlib.ext hW) (Nat.lt_of_lt_of_le hb hW.size))
  have HW1 := Lib.hid (fun W (hW : Ext w W) => dual_with1 hn1 hn2 P1 P2 D W (hlib.ext hW) (Nat.lt_of_lt_of_le hb hW.size))
  have HW2 := Lib.hid (fun W (hW : Ext w W) => dual_with2 hn1 hn2 P1 P2 D W (hlib.ext hW) (Nat.lt_of_lt_of_le hb hW.size))
  have HIX := Lib.hid (fun W (hW : Ext w W) => dual_index hn1 hn2 P1 P2 D W (hlib.ext hW) (Nat.lt_of_lt_of_le hb hW.size))
  obtain ⟨EB, hEB⟩ : ∃ b, decide (R = S) = b := ⟨_, rfl⟩
  have HEB := Lib.hid hEB
  have HEO := Lib.hid (fun W u u' => dual_eq n O O u u' W)
  have HES := Lib.hid (fun W u u' => dual_eq n S S u u' W)
  have HER := Lib.hid (fun W u u' => dual_eq n R S u u' W)
  simp only [decide_true] at HEO HES
  rw [hEB] at HER
  have hsum : (A.length : Int) + (R.length : Int) = (n : Int) := by have := D.dA.rR; omega
  have hsz : (A.length : Int) ≤ 4 ∧ (R.length : Int) ≤ 4 ∧ (n : Int) ≤ 4 := by omega
  have HSUM := Lib.hid hsum; have HSZ := Lib.hid hsz
  obtain ⟨a, cp, rfl, hx1, hx2, -, -⟩ := ListAt.open h
  obtain ⟨a', cp', rfl, hy1, hy2, -, -⟩ := ListAt.open h'
  have HFT := Lib.hid (fun W (hW : Ext w W) => (fits9_any (.int .u8 c) (.int .u8 d) a a' xss.length yss.length cp cp' W))
  unfold maxLen at hx2 hy2
  obtain ⟨FT, hFT⟩ : ∃ b, (decide (xss.length ≤ 4) && decide (yss.length ≤ 4)) = b := ⟨_, rfl⟩
  rw [hFT] at HFT
  clear h h' hb hlib hFT P1 P2 D hEB hsum hsz
  go_enter Tryz.func6, Tryz.ntmps6
  go_wp2_with fail
  obtain ⟨W0, hW0⟩ : ∃ W0, (w.alloc (.cells #[.int .u8 c, .slice a xss.length cp] 24)).alloc (.cells #[.int .u8 d, .slice a' yss.length cp'] 24) = W0 := ⟨_, rfl⟩
  have HE0 : Hid (Ext w W0) := by rw [← hW0]; exact (Ext.alloc _ _).trans (Ext.alloc _ _)
  have HP0 : Hid (W0.heap[w.heap.size]? = some (.cells #[.int .u8 c, .slice a xss.length cp] 24 (0, 0))) := by rw [← hW0]; exact block_ext (block_new _ _ _) (Ext.alloc _ _)
  have HQ0 : Hid (W0.heap[w.heap.size + 1]? = some (.cells #[.int .u8 d, .slice a' yss.length cp'] 24 (0, 0))) := by rw [← hW0]; have := block_new (w.alloc (.cells #[.int .u8 c, .slice a xss.length cp] 24)) #[.int .u8 d, .slice a' yss.length cp'] 24; unfold Hid; simpa using this
  rw [hW0]
  clear hW0
  refine (HKN.out _ HE0.out).mono ?_
  rintro e w1 ⟨rfl, hE1⟩
  have HE1 := Lib.hid (HE0.out.trans hE1)
  have HP1 := Lib.hid (block_ext HP0.out hE1); have HQ1 := Lib.hid (block_ext HQ0.out hE1)
  have p0 := block_cell HP1.out 0; have p1 := block_cell HP1.out 1
  have q0 := block_cell HQ1.out 0; have q1 := block_cell HQ1.out 1
  simp only [List.getElem?_toArray, List.getElem?_cons_zero, List.getElem?_cons_succ] at p0 p1 q0 q1
  clear hE1 HE0 HP0 HQ0
  cases FT with
  | false =>
    go_wp2_with fail
    refine (HFT.out _ HE1.out).mono ?_
    rintro e w2 ⟨rfl, hE2⟩
    have HE2 := Lib.hid (HE1.out.trans hE2)
    clear hE2 HE1 HFT
    go_wp2_with fail
    refine (HKN.out _ HE2.out).mono ?_
    rintro e w3 ⟨rfl, hE3⟩
    have HE3 := Lib.hid (HE2.out.trans hE3)
    clear hE3 HKN
    go_wp2_with fail
    go_ret
    exact ⟨rfl, HE3.out⟩
  | true =>
  go_wp2_with fail
  refine (HFT.out _ HE1.out).mono ?_
  rintro e w2 ⟨rfl, hE2⟩
  have HE2 := Lib.hid (HE1.out.trans hE2)
  have HP2 := Lib.hid (block_ext HP1.out hE2); have HQ2 := Lib.hid (block_ext HQ1.out hE2)
  clear hE2 HE1 HP1 HQ1 HFT p0 p1 q0 q1 HKN
  have p0 := block_cell HP2.out 0
  simp only [List.getElem?_toArray, List.getElem?_cons_zero] at p0
  have q0 := block_cell HQ2.out 0; have qf := block_free HQ2.out 0
  simp only [List.getElem?_toArray, List.getElem?_cons_zero] at q0
  obtain ⟨W3, hW3⟩ : ∃ W3, w2.setCell ⟨w.heap.size + 1, 0, none⟩ (.int .u8 c) = W3 := ⟨_, rfl⟩
  have HE3 : Hid (Ext w W3) := by rw [← hW3]; exact Below.setCell HE2.out (Nat.le_succ _) _
  have HP3 : Hid (W3.heap[w.heap.size]? = some (.cells #[.int .u8 c, .slice a xss.length cp] 24 (0, 0))) := by rw [← hW3]; unfold Hid; rw [Below.heap_setCell _ _ _ _ (Nat.ne_of_lt (Nat.lt_succ_self _))]; exact HP2.out
  have HQ3 : Hid (W3.heap[w.heap.size + 1]? = some (.cells #[.int .u8 c, .slice a' yss.length cp'] 24 (0, 0))) := by rw [← hW3]; have := block_set HQ2.out 0 (.int .u8 c); unfold Hid; simpa using this
  go_upto_region 4 with fail
  (try rw [hW3])
  clear hW3 p0 q0 qf HE2 HP2 HQ2
  have HM1 : Hid (∀ W, Ext W3 W → _) := fun W (hW : Ext W3 W) => HMA.out W (HE3.out.trans hW)
  have HM2 : Hid (∀ W, Ext W3 W → _) := fun W (hW : Ext W3 W) => HMB.out W (HE3.out.trans hW)
  clear HMA HMB
  go_cut [5, 6] from 36 to 39 (fun t5 t6 wx => ∃ (g5 g6 : Nat) (a5 : Option Addr) (k5 : Nat) (a6 : Option Addr) (k6 : Nat), t5 = .pointer (some ⟨g5, 0, none⟩) ∧ t6 = .pointer (some ⟨g6, 0, none⟩) ∧ Hid (Ext W3 wx) ∧
      Hid (wx.heap[g5]? = some (.cells #[.int .i64 n, .slice a5 R.length k5] 30 (0, 0))) ∧ Hid (wx.heap[g6]? = some (.cells #[.int .i64 n, .slice a6 T.length k6] 30 (0, 0))) ∧ Hid (Rows2 wx (.slice a5 R.length k5) R) ∧ Hid (Rows2 wx (.slice a6 T.length k6) T))
  case first =>
    refine region_anyE (fun w' => w'.heap[w.heap.size]? = some (.cells #[.int .u8 c, .slice a xss.length cp] 24 (0, 0)) ∧ w'.heap[w.heap.size + 1]? = some (.cells #[.int .u8 c, .slice a' yss.length cp'] 24 (0, 0)) ∧ Hid (Ext W3 w')) 6 (by kernel_rfl) ⟨block_ext HP3.out (Ext.drew W3), block_ext HQ3.out (Ext.drew W3), Ext.drew W3⟩ (fun hHeld => ?_)
    have HZd : Hid (W3.heap.size ≤ W3.drew.heap.size) := (Ext.drew W3).size
    generalize W3.drew = wd at hHeld HZd ⊢
    refine anyE_take 0 rfl (by kernel_rfl) (by kernel_rfl) (by kernel_rfl) (by kernel_rfl) (by kernel_rfl) (fun _ _ _ h => h) (yields_load_row 24 _ rfl rfl (w.heap.size) rfl _ #[.int .u8 c, .slice a xss.length cp] (0, 0) _ (fun w' h => h.1) Tryz.underlying24 rfl (by kernel_rfl)) (by assumption) ?_
    (try simp only [Act.put, List.setIfInBounds_toArray, List.set_cons_zero, List.set_cons_succ])
    refine anyE_take 2 rfl (by kernel_rfl) (by kernel_rfl) (by kernel_rfl) (by kernel_rfl) (by kernel_rfl) (fun _ _ _ h => h) (yields_load_row 24 _ rfl rfl (w.heap.size + 1) rfl _ #[.int .u8 c, .slice a' yss.length cp'] (0, 0) _ (fun w' h => h.2.1) Tryz.underlying24 rfl (by kernel_rfl)) (by assumption) ?_
    (try simp only [Act.put, List.setIfInBounds_toArray, List.set_cons_zero, List.set_cons_succ])
    refine anyE_fork3 1 4 5 (by kernel_rfl) rfl rfl rfl (fun K hK => ?_) (fun K hK => ?_) (fun K hK => ?_)
    · go_simp
      (go_at_call 17; refine (HM1.out _ hHeld.2.2.out).mono ?_)
      rintro e v0 ⟨ap1, k1, rfl, hO, hEz⟩
      have HO1 := Lib.hid hO; have X1 : Hid (Ext v0 v0) := Ext.refl _
      have HZ0 : Hid (wd.heap.size ≤ v0.heap.size) := hEz.size
      have hH2 := And.intro (block_ext hHeld.1 hEz) (And.intro (block_ext hHeld.2.1 hEz) (Lib.hid (Ext.trans hHeld.2.2.out hEz)))
      go_wp2_with fail
      refine hK.out _ _ hH2 (fun hHeld => ?_)
      clear hEz hO
      clear hK K hH2
      (try simp only [Act.put, List.setIfInBounds_toArray, List.set_cons_zero, List.set_cons_succ])
      refine anyE_fork3 3 4 5 (by kernel_rfl) rfl rfl rfl (fun K hK => ?_) (fun K hK => ?_) (fun K hK => ?_)
      · go_simp
        (go_at_call 17; refine (HM2.out _ hHeld.2.2.out).mono ?_)
        rintro e v1 ⟨ap2, k2, rfl, hO, hEz⟩
        have HO2 := Lib.hid hO; have X2 : Hid (Ext v1 v1) := Ext.refl _
        have HZ1 : Hid (v0.heap.size ≤ v1.heap.size) := hEz.size
        have hH2 := And.intro (block_ext hHeld.1 hEz) (And.intro (block_ext hHeld.2.1 hEz) (Lib.hid (Ext.trans hHeld.2.2.out hEz)))
        have X1 := Lib.hid (X1.out.trans hEz)
        go_wp2_with fail
        refine hK.out _ _ hH2 (fun hHeld => ?_)
        clear hEz hO
        clear hK K hH2
        (try simp only [Act.put, List.setIfInBounds_toArray, List.set_cons_zero, List.set_cons_succ])
        refine anyE_fork2 4 5 (by kernel_rfl) rfl rfl (fun K hK => ?_) (fun K hK => ?_)
        · go_simp
          obtain ⟨v2, hW, hEz, hs, hb⟩ := lat_new v1 (.int .i64 0) (.slice none 0 0)
          rw [hW]
          have HG5 := Lib.hid hb
          have HZ2 : Hid (v2.heap.size = v1.heap.size + 1) := hs
          have hH2 := And.intro (block_ext hHeld.1 hEz) (And.intro (block_ext hHeld.2.1 hEz) (Lib.hid (Ext.trans hHeld.2.2.out hEz)))
          have X1 := Lib.hid (X1.out.trans hEz)
          have X2 := Lib.hid (X2.out.trans hEz)
          refine hK.out _ _ hH2 (fun hHeld => ?_)
          clear hW hEz hs hb
          clear hK K hH2
          (try simp only [Act.put, List.setIfInBounds_toArray, List.set_cons_zero, List.set_cons_succ])
          refine anyE_step 5 (by kernel_rfl) rfl (fun K hK => ?_)
          go_simp
          obtain ⟨v3, hW, hEz, hs, hb⟩ := lat_new v2 (.int .i64 0) (.slice none 0 0)
          rw [hW]
          have HG6 := Lib.hid hb
          have HZ3 : Hid (v3.heap.size = v2.heap.size + 1) := hs
          have hH2 := And.intro (block_ext hHeld.1 hEz) (And.intro (block_ext hHeld.2.1 hEz) (Lib.hid (Ext.trans hHeld.2.2.out hEz)))
          have X1 := Lib.hid (X1.out.trans hEz)
          have X2 := Lib.hid (X2.out.trans hEz)
          have HG5 := Lib.hid (block_ext HG5.out hEz)
          refine hK.out _ _ hH2 (fun hHeld => ?_)
          clear hW hEz hs hb
          clear hK K hH2
          (try simp only [Act.put, List.setIfInBounds_toArray, List.set_cons_zero, List.set_cons_succ])
          have hz := HZd.out; have hz0 := HZ0.out; have hz1 := HZ1.out; have hz2 := HZ2.out; have hz3 := HZ3.out
          have hne : v1.heap.size ≠ v2.heap.size := by omega
          obtain ⟨te, tb5, tb6, to1, to2⟩ := two_lat HO1.out X1.out HO2.out X2.out hHeld.2.2.out HG5.out HG6.out hne (by omega) (by omega) (by omega) (by omega) (by omega) (by omega) (.int .i64 n) (.slice ap1 R.length k1) (.int .i64 n) (.slice ap2 T.length k2) _ rfl
          have hTE := Lib.hid te; have hT5 := Lib.hid tb5; have hT6 := Lib.hid tb6; have hO1 := Lib.hid to1; have hO2 := Lib.hid to2
          have kc50 := block_cell HG5.out 0; have kf50 := block_free HG5.out 0; have kc60 := block_cell HG6.out 0; have kf60 := block_free HG6.out 0
          have kc51 := block_cell HG5.out 1; have kf51 := block_free HG5.out 1; have kc61 := block_cell HG6.out 1; have kf61 := block_free HG6.out 1
          simp only [List.getElem?_toArray, List.getElem?_cons_zero, List.getElem?_cons_succ] at kc50 kc51 kc60 kc61
          clear hz hz0 hz1 hz2 hz3 te tb5 tb6 to1 to2
          refine anyE_stepZ 6 (by kernel_rfl) (by kernel_rfl) rfl (fun K hK => ?_)
          go_simp
          refine hK.out _ _ ?_
          clear hK K
          (try simp only [Act.put, List.setIfInBounds_toArray, List.set_cons_zero, List.set_cons_succ])
          refine anyE_last 7 (by kernel_rfl) (by kernel_rfl) (by kernel_rfl) rfl (fun K hK => ?_)
          go_simp
          refine hK.out _ _ ?_
          clear hK K
          (try simp only [Act.put, List.setIfInBounds_toArray, List.set_cons_zero, List.set_cons_succ])
          go_wp2_with fail
          go_meet
          exact ⟨_, _, ap1, k1, ap2, k2, rfl, rfl, hTE, hT5, hT6, hO1, hO2⟩
        · go_simp
          obtain ⟨v2, hW, hEz, hs, hb⟩ := lat_new v1 (.int .i64 0) (.slice none 0 0)
          rw [hW]
          have HG6 := Lib.hid hb
          have HZ2 : Hid (v2.heap.size = v1.heap.size + 1) := hs
          have hH2 := And.intro (block_ext hHeld.1 hEz) (And.intro (block_ext hHeld.2.1 hEz) (Lib.hid (Ext.trans hHeld.2.2.out hEz)))
          have X1 := Lib.hid (X1.out.trans hEz)
          have X2 := Lib.hid (X2.out.trans hEz)
          refine hK.out _ _ hH2 (fun hHeld => ?_)
          clear hW hEz hs hb
          clear hK K hH2
          (try simp only [Act.put, List.setIfInBounds_toArray, List.set_cons_zero, List.set_cons_succ])
          refine anyE_step 4 (by kernel_rfl) rfl (fun K hK => ?_)
          go_simp
          obtain ⟨v3, hW, hEz, hs, hb⟩ := lat_new v2 (.int .i64 0) (.slice none 0 0)
          rw [hW]
          have HG5 := Lib.hid hb
          have HZ3 : Hid (v3.heap.size = v2.heap.size + 1) := hs
          have hH2 := And.intro (block_ext hHeld.1 hEz) (And.intro (block_ext hHeld.2.1 hEz) (Lib.hid (Ext.trans hHeld.2.2.out hEz)))
          have X1 := Lib.hid (X1.out.trans hEz)
          have X2 := Lib.hid (X2.out.trans hEz)
          have HG6 := Lib.hid (block_ext HG6.out hEz)
          refine hK.out _ _ hH2 (fun hHeld => ?_)
          clear hW hEz hs hb
          clear hK K hH2
          (try simp only [Act.put, List.setIfInBounds_toArray, List.set_cons_zero, List.set_cons_succ])
          have hz := HZd.out; have hz0 := HZ0.out; have hz1 := HZ1.out; have hz2 := HZ2.out; have hz3 := HZ3.out
          have hne : v2.heap.size ≠ v1.heap.size := by omega
          obtain ⟨te, tb5, tb6, to1, to2⟩ := two_lat HO1.out X1.out HO2.out X2.out hHeld.2.2.out HG5.out HG6.out hne (by omega) (by omega) (by omega) (by omega) (by omega) (by omega) (.int .i64 n) (.slice ap1 R.length k1) (.int .i64 n) (.slice ap2 T.length k2) _ rfl
          have hTE := Lib.hid te; have hT5 := Lib.hid tb5; have hT6 := Lib.hid tb6; have hO1 := Lib.hid to1; have hO2 := Lib.hid to2
          have kc50 := block_cell HG5.out 0; have kf50 := block_free HG5.out 0; have kc60 := block_cell HG6.out 0; have kf60 := block_free HG6.out 0
          have kc51 := block_cell HG5.out 1; have kf51 := block_free HG5.out 1; have kc61 := block_cell HG6.out 1; have kf61 := block_free HG6.out 1
          simp only [List.getElem?_toArray, List.getElem?_cons_zero, List.getElem?_cons_succ] at kc50 kc51 kc60 kc61
          clear hz hz0 hz1 hz2 hz3 te tb5 tb6 to1 to2
          refine anyE_stepZ 6 (by kernel_rfl) (by kernel_rfl) rfl (fun K hK => ?_)
          go_simp
          refine hK.out _ _ ?_
          clear hK K
          (try simp only [Act.put, List.setIfInBounds_toArray, List.set_cons_zero, List.set_cons_succ])
          refine anyE_last 7 (by kernel_rfl) (by kernel_rfl) (by kernel_rfl) rfl (fun K hK => ?_)
          go_simp
          refine hK.out _ _ ?_
          clear hK K
          (try simp only [Act.put, List.setIfInBounds_toArray, List.set_cons_zero, List.set_cons_succ])
          go_wp2_with fail
          go_meet
          exact ⟨_, _, ap1, k1, ap2, k2, rfl, rfl, hTE, hT5, hT6, hO1, hO2⟩
      · go_simp
        obtain ⟨v1, hW, hEz, hs, hb⟩ := lat_new v0 (.int .i64 0) (.slice none 0 0)
        rw [hW]
        have HG5 := Lib.hid hb
        have HZ1 : Hid (v1.heap.size = v0.heap.size + 1) := hs
        have hH2 := And.intro (block_ext hHeld.1 hEz) (And.intro (block_ext hHeld.2.1 hEz) (Lib.hid (Ext.trans hHeld.2.2.out hEz)))
        have X1 := Lib.hid (X1.out.trans hEz)
        refine hK.out _ _ hH2 (fun hHeld => ?_)
        clear hW hEz hs hb
        clear hK K hH2
        (try simp only [Act.put, List.setIfInBounds_toArray, List.set_cons_zero, List.set_cons_succ])
        refine anyE_fork2 3 5 (by kernel_rfl) rfl rfl (fun K hK => ?_) (fun K hK => ?_)
        · go_simp
          (go_at_call 17; refine (HM2.out _ hHeld.2.2.out).mono ?_)
          rintro e v2 ⟨ap2, k2, rfl, hO, hEz⟩
          have HO2 := Lib.hid hO; have X2 : Hid (Ext v2 v2) := Ext.refl _
          have HZ2 : Hid (v1.heap.size ≤ v2.heap.size) := hEz.size
          have hH2 := And.intro (block_ext hHeld.1 hEz) (And.intro (block_ext hHeld.2.1 hEz) (Lib.hid (Ext.trans hHeld.2.2.out hEz)))
          have X1 := Lib.hid (X1.out.trans hEz)
          have HG5 := Lib.hid (block_ext HG5.out hEz)
          go_wp2_with fail
          refine hK.out _ _ hH2 (fun hHeld => ?_)
          clear hEz hO
          clear hK K hH2
          (try simp only [Act.put, List.setIfInBounds_toArray, List.set_cons_zero, List.set_cons_succ])
          refine anyE_step 5 (by kernel_rfl) rfl (fun K hK => ?_)
          go_simp
          obtain ⟨v3, hW, hEz, hs, hb⟩ := lat_new v2 (.int .i64 0) (.slice none 0 0)
          rw [hW]
          have HG6 := Lib.hid hb
          have HZ3 : Hid (v3.heap.size = v2.heap.size + 1) := hs
          have hH2 := And.intro (block_ext hHeld.1 hEz) (And.intro (block_ext hHeld.2.1 hEz) (Lib.hid (Ext.trans hHeld.2.2.out hEz)))
          have X1 := Lib.hid (X1.out.trans hEz)
          have HG5 := Lib.hid (block_ext HG5.out hEz)
          have X2 := Lib.hid (X2.out.trans hEz)
          refine hK.out _ _ hH2 (fun hHeld => ?_)
          clear hW hEz hs hb
          clear hK K hH2
          (try simp only [Act.put, List.setIfInBounds_toArray, List.set_cons_zero, List.set_cons_succ])
          have hz := HZd.out; have hz0 := HZ0.out; have hz1 := HZ1.out; have hz2 := HZ2.out; have hz3 := HZ3.out
          have hne : v0.heap.size ≠ v2.heap.size := by omega
          obtain ⟨te, tb5, tb6, to1, to2⟩ := two_lat HO1.out X1.out HO2.out X2.out hHeld.2.2.out HG5.out HG6.out hne (by omega) (by omega) (by omega) (by omega) (by omega) (by omega) (.int .i64 n) (.slice ap1 R.length k1) (.int .i64 n) (.slice ap2 T.length k2) _ rfl
          have hTE := Lib.hid te; have hT5 := Lib.hid tb5; have hT6 := Lib.hid tb6; have hO1 := Lib.hid to1; have hO2 := Lib.hid to2
          have kc50 := block_cell HG5.out 0; have kf50 := block_free HG5.out 0; have kc60 := block_cell HG6.out 0; have kf60 := block_free HG6.out 0
          have kc51 := block_cell HG5.out 1; have kf51 := block_free HG5.out 1; have kc61 := block_cell HG6.out 1; have kf61 := block_free HG6.out 1
          simp only [List.getElem?_toArray, List.getElem?_cons_zero, List.getElem?_cons_succ] at kc50 kc51 kc60 kc61
          clear hz hz0 hz1 hz2 hz3 te tb5 tb6 to1 to2
          refine anyE_stepZ 6 (by kernel_rfl) (by kernel_rfl) rfl (fun K hK => ?_)
          go_simp
          refine hK.out _ _ ?_
          clear hK K
          (try simp only [Act.put, List.setIfInBounds_toArray, List.set_cons_zero, List.set_cons_succ])
          refine anyE_last 7 (by kernel_rfl) (by kernel_rfl) (by kernel_rfl) rfl (fun K hK => ?_)
          go_simp
          refine hK.out _ _ ?_
          clear hK K
          (try simp only [Act.put, List.setIfInBounds_toArray, List.set_cons_zero, List.set_cons_succ])
          go_wp2_with fail
          go_meet
          exact ⟨_, _, ap1, k1, ap2, k2, rfl, rfl, hTE, hT5, hT6, hO1, hO2⟩
        · go_simp
          obtain ⟨v2, hW, hEz, hs, hb⟩ := lat_new v1 (.int .i64 0) (.slice none 0 0)
          rw [hW]
          have HG6 := Lib.hid hb
          have HZ2 : Hid (v2.heap.size = v1.heap.size + 1) := hs
          have hH2 := And.intro (block_ext hHeld.1 hEz) (And.intro (block_ext hHeld.2.1 hEz) (Lib.hid (Ext.trans hHeld.2.2.out hEz)))
          have X1 := Lib.hid (X1.out.trans hEz)
          have HG5 := Lib.hid (block_ext HG5.out hEz)
          refine hK.out _ _ hH2 (fun hHeld => ?_)
          clear hW hEz hs hb
          clear hK K hH2
          (try simp only [Act.put, List.setIfInBounds_toArray, List.set_cons_zero, List.set_cons_succ])
          refine anyE_step 3 (by kernel_rfl) rfl (fun K hK => ?_)
          go_simp
          (go_at_call 17; refine (HM2.out _ hHeld.2.2.out).mono ?_)
          rintro e v3 ⟨ap2, k2, rfl, hO, hEz⟩
          have HO2 := Lib.hid hO; have X2 : Hid (Ext v3 v3) := Ext.refl _
          have HZ3 : Hid (v2.heap.size ≤ v3.heap.size) := hEz.size
          have hH2 := And.intro (block_ext hHeld.1 hEz) (And.intro (block_ext hHeld.2.1 hEz) (Lib.hid (Ext.trans hHeld.2.2.out hEz)))
          have X1 := Lib.hid (X1.out.trans hEz)
          have HG5 := Lib.hid (block_ext HG5.out hEz)
          have HG6 := Lib.hid (block_ext HG6.out hEz)
          go_wp2_with fail
          refine hK.out _ _ hH2 (fun hHeld => ?_)
          clear hEz hO
          clear hK K hH2
          (try simp only [Act.put, List.setIfInBounds_toArray, List.set_cons_zero, List.set_cons_succ])
          have hz := HZd.out; have hz0 := HZ0.out; have hz1 := HZ1.out; have hz2 := HZ2.out; have hz3 := HZ3.out
          have hne : v0.heap.size ≠ v1.heap.size := by omega
          obtain ⟨te, tb5, tb6, to1, to2⟩ := two_lat HO1.out X1.out HO2.out X2.out hHeld.2.2.out HG5.out HG6.out hne (by omega) (by omega) (by omega) (by omega) (by omega) (by omega) (.int .i64 n) (.slice ap1 R.length k1) (.int .i64 n) (.slice ap2 T.length k2) _ rfl
          have hTE := Lib.hid te; have hT5 := Lib.hid tb5; have hT6 := Lib.hid tb6; have hO1 := Lib.hid to1; have hO2 := Lib.hid to2
          have kc50 := block_cell HG5.out 0; have kf50 := block_free HG5.out 0; have kc60 := block_cell HG6.out 0; have kf60 := block_free HG6.out 0
          have kc51 := block_cell HG5.out 1; have kf51 := block_free HG5.out 1; have kc61 := block_cell HG6.out 1; have kf61 := block_free HG6.out 1
          simp only [List.getElem?_toArray, List.getElem?_cons_zero, List.getElem?_cons_succ] at kc50 kc51 kc60 kc61
          clear hz hz0 hz1 hz2 hz3 te tb5 tb6 to1 to2
          refine anyE_stepZ 6 (by kernel_rfl) (by kernel_rfl) rfl (fun K hK => ?_)
          go_simp
          refine hK.out _ _ ?_
          clear hK K
          (try simp only [Act.put, List.setIfInBounds_toArray, List.set_cons_zero, List.set_cons_succ])
          refine anyE_last 7 (by kernel_rfl) (by kernel_rfl) (by kernel_rfl) rfl (fun K hK => ?_)
          go_simp
          refine hK.out _ _ ?_
          clear hK K
          (try simp only [Act.put, List.setIfInBounds_toArray, List.set_cons_zero, List.set_cons_succ])
          go_wp2_with fail
          go_meet
          exact ⟨_, _, ap1, k1, ap2, k2, rfl, rfl, hTE, hT5, hT6, hO1, hO2⟩
      · go_simp
        obtain ⟨v1, hW, hEz, hs, hb⟩ := lat_new v0 (.int .i64 0) (.slice none 0 0)
        rw [hW]
        have HG6 := Lib.hid hb
        have HZ1 : Hid (v1.heap.size = v0.heap.size + 1) := hs
        have hH2 := And.intro (block_ext hHeld.1 hEz) (And.intro (block_ext hHeld.2.1 hEz) (Lib.hid (Ext.trans hHeld.2.2.out hEz)))
        have X1 := Lib.hid (X1.out.trans hEz)
        refine hK.out _ _ hH2 (fun hHeld => ?_)
        clear hW hEz hs hb
        clear hK K hH2
        (try simp only [Act.put, List.setIfInBounds_toArray, List.set_cons_zero, List.set_cons_succ])
        refine anyE_fork2 3 4 (by kernel_rfl) rfl rfl (fun K hK => ?_) (fun K hK => ?_)
        · go_simp
          (go_at_call 17; refine (HM2.out _ hHeld.2.2.out).mono ?_)
          rintro e v2 ⟨ap2, k2, rfl, hO, hEz⟩
          have HO2 := Lib.hid hO; have X2 : Hid (Ext v2 v2) := Ext.refl _
          have HZ2 : Hid (v1.heap.size ≤ v2.heap.size) := hEz.size
          have hH2 := And.intro (block_ext hHeld.1 hEz) (And.intro (block_ext hHeld.2.1 hEz) (Lib.hid (Ext.trans hHeld.2.2.out hEz)))
          have X1 := Lib.hid (X1.out.trans hEz)
          have HG6 := Lib.hid (block_ext HG6.out hEz)
          go_wp2_with fail
          refine hK.out _ _ hH2 (fun hHeld => ?_)
          clear hEz hO
          clear hK K hH2
          (try simp only [Act.put, List.setIfInBounds_toArray, List.set_cons_zero, List.set_cons_succ])
          refine anyE_step 4 (by kernel_rfl) rfl (fun K hK => ?_)
          go_simp
          obtain ⟨v3, hW, hEz, hs, hb⟩ := lat_new v2 (.int .i64 0) (.slice none 0 0)
          rw [hW]
          have HG5 := Lib.hid hb
          have HZ3 : Hid (v3.heap.size = v2.heap.size + 1) := hs
          have hH2 := And.intro (block_ext hHeld.1 hEz) (And.intro (block_ext hHeld.2.1 hEz) (Lib.hid (Ext.trans hHeld.2.2.out hEz)))
          have X1 := Lib.hid (X1.out.trans hEz)
          have HG6 := Lib.hid (block_ext HG6.out hEz)
          have X2 := Lib.hid (X2.out.trans hEz)
          refine hK.out _ _ hH2 (fun hHeld => ?_)
          clear hW hEz hs hb
          clear hK K hH2
          (try simp only [Act.put, List.setIfInBounds_toArray, List.set_cons_zero, List.set_cons_succ])
          have hz := HZd.out; have hz0 := HZ0.out; have hz1 := HZ1.out; have hz2 := HZ2.out; have hz3 := HZ3.out
          have hne : v2.heap.size ≠ v0.heap.size := by omega
          obtain ⟨te, tb5, tb6, to1, to2⟩ := two_lat HO1.out X1.out HO2.out X2.out hHeld.2.2.out HG5.out HG6.out hne (by omega) (by omega) (by omega) (by omega) (by omega) (by omega) (.int .i64 n) (.slice ap1 R.length k1) (.int .i64 n) (.slice ap2 T.length k2) _ rfl
          have hTE := Lib.hid te; have hT5 := Lib.hid tb5; have hT6 := Lib.hid tb6; have hO1 := Lib.hid to1; have hO2 := Lib.hid to2
          have kc50 := block_cell HG5.out 0; have kf50 := block_free HG5.out 0; have kc60 := block_cell HG6.out 0; have kf60 := block_free HG6.out 0
          have kc51 := block_cell HG5.out 1; have kf51 := block_free HG5.out 1; have kc61 := block_cell HG6.out 1; have kf61 := block_free HG6.out 1
          simp only [List.getElem?_toArray, List.getElem?_cons_zero, List.getElem?_cons_succ] at kc50 kc51 kc60 kc61
          clear hz hz0 hz1 hz2 hz3 te tb5 tb6 to1 to2
          refine anyE_stepZ 6 (by kernel_rfl) (by kernel_rfl) rfl (fun K hK => ?_)
          go_simp
          refine hK.out _ _ ?_
          clear hK K
          (try simp only [Act.put, List.setIfInBounds_toArray, List.set_cons_zero, List.set_cons_succ])
          refine anyE_last 7 (by kernel_rfl) (by kernel_rfl) (by kernel_rfl) rfl (fun K hK => ?_)
          go_simp
          refine hK.out _ _ ?_
          clear hK K
          (try simp only [Act.put, List.setIfInBounds_toArray, List.set_cons_zero, List.set_cons_succ])
          go_wp2_with fail
          go_meet
          exact ⟨_, _, ap1, k1, ap2, k2, rfl, rfl, hTE, hT5, hT6, hO1, hO2⟩
        · go_simp
          obtain ⟨v2, hW, hEz, hs, hb⟩ := lat_new v1 (.int .i64 0) (.slice none 0 0)
          rw [hW]
          have HG5 := Lib.hid hb
          have HZ2 : Hid (v2.heap.size = v1.heap.size + 1) := hs
          have hH2 := And.intro (block_ext hHeld.1 hEz) (And.intro (block_ext hHeld.2.1 hEz) (Lib.hid (Ext.trans hHeld.2.2.out hEz)))
          have X1 := Lib.hid (X1.out.trans hEz)
          have HG6 := Lib.hid (block_ext HG6.out hEz)
          refine hK.out _ _ hH2 (fun hHeld => ?_)
          clear hW hEz hs hb
          clear hK K hH2
          (try simp only [Act.put, List.setIfInBounds_toArray, List.set_cons_zero, List.set_cons_succ])
          refine anyE_step 3 (by kernel_rfl) rfl (fun K hK => ?_)
          go_simp
          (go_at_call 17; refine (HM2.out _ hHeld.2.2.out).mono ?_)
          rintro e v3 ⟨ap2, k2, rfl, hO, hEz⟩
          have HO2 := Lib.hid hO; have X2 : Hid (Ext v3 v3) := Ext.refl _
          have HZ3 : Hid (v2.heap.size ≤ v3.heap.size) := hEz.size
          have hH2 := And.intro (block_ext hHeld.1 hEz) (And.intro (block_ext hHeld.2.1 hEz) (Lib.hid (Ext.trans hHeld.2.2.out hEz)))
          have X1 := Lib.hid (X1.out.trans hEz)
          have HG6 := Lib.hid (block_ext HG6.out hEz)
          have HG5 := Lib.hid (block_ext HG5.out hEz)
          go_wp2_with fail
          refine hK.out _ _ hH2 (fun hHeld => ?_)
          clear hEz hO
          clear hK K hH2
          (try simp only [Act.put, List.setIfInBounds_toArray, List.set_cons_zero, List.set_cons_succ])
          have hz := HZd.out; have hz0 := HZ0.out; have hz1 := HZ1.out; have hz2 := HZ2.out; have hz3 := HZ3.out
          have hne : v1.heap.size ≠ v0.heap.size := by omega
          obtain ⟨te, tb5, tb6, to1, to2⟩ := two_lat HO1.out X1.out HO2.out X2.out hHeld.2.2.out HG5.out HG6.out hne (by omega) (by omega) (by omega) (by omega) (by omega) (by omega) (.int .i64 n) (.slice ap1 R.length k1) (.int .i64 n) (.slice ap2 T.length k2) _ rfl
          have hTE := Lib.hid te; have hT5 := Lib.hid tb5; have hT6 := Lib.hid tb6; have hO1 := Lib.hid to1; have hO2 := Lib.hid to2
          have kc50 := block_cell HG5.out 0; have kf50 := block_free HG5.out 0; have kc60 := block_cell HG6.out 0; have kf60 := block_free HG6.out 0
          have kc51 := block_cell HG5.out 1; have kf51 := block_free HG5.out 1; have kc61 := block_cell HG6.out 1; have kf61 := block_free HG6.out 1
          simp only [List.getElem?_toArray, List.getElem?_cons_zero, List.getElem?_cons_succ] at kc50 kc51 kc60 kc61
          clear hz hz0 hz1 hz2 hz3 te tb5 tb6 to1 to2
          refine anyE_stepZ 6 (by kernel_rfl) (by kernel_rfl) rfl (fun K hK => ?_)
          go_simp
          refine hK.out _ _ ?_
          clear hK K
          (try simp only [Act.put, List.setIfInBounds_toArray, List.set_cons_zero, List.set_cons_succ])
          refine anyE_last 7 (by kernel_rfl) (by kernel_rfl) (by kernel_rfl) rfl (fun K hK => ?_)
          go_simp
          refine hK.out _ _ ?_
          clear hK K
          (try simp only [Act.put, List.setIfInBounds_toArray, List.set_cons_zero, List.set_cons_succ])
          go_wp2_with fail
          go_meet
          exact ⟨_, _, ap1, k1, ap2, k2, rfl, rfl, hTE, hT5, hT6, hO1, hO2⟩
    · go_simp
      obtain ⟨v0, hW, hEz, hs, hb⟩ := lat_new wd (.int .i64 0) (.slice none 0 0)
      rw [hW]
      have HG5 := Lib.hid hb
      have HZ0 : Hid (v0.heap.size = wd.heap.size + 1) := hs
      have hH2 := And.intro (block_ext hHeld.1 hEz) (And.intro (block_ext hHeld.2.1 hEz) (Lib.hid (Ext.trans hHeld.2.2.out hEz)))
      refine hK.out _ _ hH2 (fun hHeld => ?_)
      clear hW hEz hs hb
      clear hK K hH2
      (try simp only [Act.put, List.setIfInBounds_toArray, List.set_cons_zero, List.set_cons_succ])
      refine anyE_fork2 1 5 (by kernel_rfl) rfl rfl (fun K hK => ?_) (fun K hK => ?_)
      · go_simp
        (go_at_call 17; refine (HM1.out _ hHeld.2.2.out).mono ?_)
        rintro e v1 ⟨ap1, k1, rfl, hO, hEz⟩
        have HO1 := Lib.hid hO; have X1 : Hid (Ext v1 v1) := Ext.refl _
        have HZ1 : Hid (v0.heap.size ≤ v1.heap.size) := hEz.size
        have hH2 := And.intro (block_ext hHeld.1 hEz) (And.intro (block_ext hHeld.2.1 hEz) (Lib.hid (Ext.trans hHeld.2.2.out hEz)))
        have HG5 := Lib.hid (block_ext HG5.out hEz)
        go_wp2_with fail
        refine hK.out _ _ hH2 (fun hHeld => ?_)
        clear hEz hO
        clear hK K hH2
        (try simp only [Act.put, List.setIfInBounds_toArray, List.set_cons_zero, List.set_cons_succ])
        refine anyE_fork2 3 5 (by kernel_rfl) rfl rfl (fun K hK => ?_) (fun K hK => ?_)
        · go_simp
          (go_at_call 17; refine (HM2.out _ hHeld.2.2.out).mono ?_)
          rintro e v2 ⟨ap2, k2, rfl, hO, hEz⟩
          have HO2 := Lib.hid hO; have X2 : Hid (Ext v2 v2) := Ext.refl _
          have HZ2 : Hid (v1.heap.size ≤ v2.heap.size) := hEz.size
          have hH2 := And.intro (block_ext hHeld.1 hEz) (And.intro (block_ext hHeld.2.1 hEz) (Lib.hid (Ext.trans hHeld.2.2.out hEz)))
          have HG5 := Lib.hid (block_ext HG5.out hEz)
          have X1 := Lib.hid (X1.out.trans hEz)
          go_wp2_with fail
          refine hK.out _ _ hH2 (fun hHeld => ?_)
          clear hEz hO
          clear hK K hH2
          (try simp only [Act.put, List.setIfInBounds_toArray, List.set_cons_zero, List.set_cons_succ])
          refine anyE_step 5 (by kernel_rfl) rfl (fun K hK => ?_)
          go_simp
          obtain ⟨v3, hW, hEz, hs, hb⟩ := lat_new v2 (.int .i64 0) (.slice none 0 0)
          rw [hW]
          have HG6 := Lib.hid hb
          have HZ3 : Hid (v3.heap.size = v2.heap.size + 1) := hs
          have hH2 := And.intro (block_ext hHeld.1 hEz) (And.intro (block_ext hHeld.2.1 hEz) (Lib.hid (Ext.trans hHeld.2.2.out hEz)))
          have HG5 := Lib.hid (block_ext HG5.out hEz)
          have X1 := Lib.hid (X1.out.trans hEz)
          have X2 := Lib.hid (X2.out.trans hEz)
          refine hK.out _ _ hH2 (fun hHeld => ?_)
          clear hW hEz hs hb
          clear hK K hH2
          (try simp only [Act.put, List.setIfInBounds_toArray, List.set_cons_zero, List.set_cons_succ])
          have hz := HZd.out; have hz0 := HZ0.out; have hz1 := HZ1.out; have hz2 := HZ2.out; have hz3 := HZ3.out
          have hne : wd.heap.size ≠ v2.heap.size := by omega
          obtain ⟨te, tb5, tb6, to1, to2⟩ := two_lat HO1.out X1.out HO2.out X2.out hHeld.2.2.out HG5.out HG6.out hne (by omega) (by omega) (by omega) (by omega) (by omega) (by omega) (.int .i64 n) (.slice ap1 R.length k1) (.int .i64 n) (.slice ap2 T.length k2) _ rfl
          have hTE := Lib.hid te; have hT5 := Lib.hid tb5; have hT6 := Lib.hid tb6; have hO1 := Lib.hid to1; have hO2 := Lib.hid to2
          have kc50 := block_cell HG5.out 0; have kf50 := block_free HG5.out 0; have kc60 := block_cell HG6.out 0; have kf60 := block_free HG6.out 0
          have kc51 := block_cell HG5.out 1; have kf51 := block_free HG5.out 1; have kc61 := block_cell HG6.out 1; have kf61 := block_free HG6.out 1
          simp only [List.getElem?_toArray, List.getElem?_cons_zero, List.getElem?_cons_succ] at kc50 kc51 kc60 kc61
          clear hz hz0 hz1 hz2 hz3 te tb5 tb6 to1 to2
          refine anyE_stepZ 6 (by kernel_rfl) (by kernel_rfl) rfl (fun K hK => ?_)
          go_simp
          refine hK.out _ _ ?_
          clear hK K
          (try simp only [Act.put, List.setIfInBounds_toArray, List.set_cons_zero, List.set_cons_succ])
          refine anyE_last 7 (by kernel_rfl) (by kernel_rfl) (by kernel_rfl) rfl (fun K hK => ?_)
          go_simp
          refine hK.out _ _ ?_
          clear hK K
          (try simp only [Act.put, List.setIfInBounds_toArray, List.set_cons_zero, List.set_cons_succ])
          go_wp2_with fail
          go_meet
          exact ⟨_, _, ap1, k1, ap2, k2, rfl, rfl, hTE, hT5, hT6, hO1, hO2⟩
        · go_simp
          obtain ⟨v2, hW, hEz, hs, hb⟩ := lat_new v1 (.int .i64 0) (.slice none 0 0)
          rw [hW]
          have HG6 := Lib.hid hb
          have HZ2 : Hid (v2.heap.size = v1.heap.size + 1) := hs
          have hH2 := And.intro (block_ext hHeld.1 hEz) (And.intro (block_ext hHeld.2.1 hEz) (Lib.hid (Ext.trans hHeld.2.2.out hEz)))
          have HG5 := Lib.hid (block_ext HG5.out hEz)
          have X1 := Lib.hid (X1.out.trans hEz)
          refine hK.out _ _ hH2 (fun hHeld => ?_)
          clear hW hEz hs hb
          clear hK K hH2
          (try simp only [Act.put, List.setIfInBounds_toArray, List.set_cons_zero, List.set_cons_succ])
          refine anyE_step 3 (by kernel_rfl) rfl (fun K hK => ?_)
          go_simp
          (go_at_call 17; refine (HM2.out _ hHeld.2.2.out).mono ?_)
          rintro e v3 ⟨ap2, k2, rfl, hO, hEz⟩
          have HO2 := Lib.hid hO; have X2 : Hid (Ext v3 v3) := Ext.refl _
          have HZ3 : Hid (v2.heap.size ≤ v3.heap.size) := hEz.size
          have hH2 := And.intro (block_ext hHeld.1 hEz) (And.intro (block_ext hHeld.2.1 hEz) (Lib.hid (Ext.trans hHeld.2.2.out hEz)))
          have HG5 := Lib.hid (block_ext HG5.out hEz)
          have X1 := Lib.hid (X1.out.trans hEz)
          have HG6 := Lib.hid (block_ext HG6.out hEz)
          go_wp2_with fail
          refine hK.out _ _ hH2 (fun hHeld => ?_)
          clear hEz hO
          clear hK K hH2
          (try simp only [Act.put, List.setIfInBounds_toArray, List.set_cons_zero, List.set_cons_succ])
          have hz := HZd.out; have hz0 := HZ0.out; have hz1 := HZ1.out; have hz2 := HZ2.out; have hz3 := HZ3.out
          have hne : wd.heap.size ≠ v1.heap.size := by omega
          obtain ⟨te, tb5, tb6, to1, to2⟩ := two_lat HO1.out X1.out HO2.out X2.out hHeld.2.2.out HG5.out HG6.out hne (by omega) (by omega) (by omega) (by omega) (by omega) (by omega) (.int .i64 n) (.slice ap1 R.length k1) (.int .i64 n) (.slice ap2 T.length k2) _ rfl
          have hTE := Lib.hid te; have hT5 := Lib.hid tb5; have hT6 := Lib.hid tb6; have hO1 := Lib.hid to1; have hO2 := Lib.hid to2
          have kc50 := block_cell HG5.out 0; have kf50 := block_free HG5.out 0; have kc60 := block_cell HG6.out 0; have kf60 := block_free HG6.out 0
          have kc51 := block_cell HG5.out 1; have kf51 := block_free HG5.out 1; have kc61 := block_cell HG6.out 1; have kf61 := block_free HG6.out 1
          simp only [List.getElem?_toArray, List.getElem?_cons_zero, List.getElem?_cons_succ] at kc50 kc51 kc60 kc61
          clear hz hz0 hz1 hz2 hz3 te tb5 tb6 to1 to2
          refine anyE_stepZ 6 (by kernel_rfl) (by kernel_rfl) rfl (fun K hK => ?_)
          go_simp
          refine hK.out _ _ ?_
          clear hK K
          (try simp only [Act.put, List.setIfInBounds_toArray, List.set_cons_zero, List.set_cons_succ])
          refine anyE_last 7 (by kernel_rfl) (by kernel_rfl) (by kernel_rfl) rfl (fun K hK => ?_)
          go_simp
          refine hK.out _ _ ?_
          clear hK K
          (try simp only [Act.put, List.setIfInBounds_toArray, List.set_cons_zero, List.set_cons_succ])
          go_wp2_with fail
          go_meet
          exact ⟨_, _, ap1, k1, ap2, k2, rfl, rfl, hTE, hT5, hT6, hO1, hO2⟩
      · go_simp
        obtain ⟨v1, hW, hEz, hs, hb⟩ := lat_new v0 (.int .i64 0) (.slice none 0 0)
        rw [hW]
        have HG6 := Lib.hid hb
        have HZ1 : Hid (v1.heap.size = v0.heap.size + 1) := hs
        have hH2 := And.intro (block_ext hHeld.1 hEz) (And.intro (block_ext hHeld.2.1 hEz) (Lib.hid (Ext.trans hHeld.2.2.out hEz)))
        have HG5 := Lib.hid (block_ext HG5.out hEz)
        refine hK.out _ _ hH2 (fun hHeld => ?_)
        clear hW hEz hs hb
        clear hK K hH2
        (try simp only [Act.put, List.setIfInBounds_toArray, List.set_cons_zero, List.set_cons_succ])
        refine anyE_step 1 (by kernel_rfl) rfl (fun K hK => ?_)
        go_simp
        (go_at_call 17; refine (HM1.out _ hHeld.2.2.out).mono ?_)
        rintro e v2 ⟨ap1, k1, rfl, hO, hEz⟩
        have HO1 := Lib.hid hO; have X1 : Hid (Ext v2 v2) := Ext.refl _
        have HZ2 : Hid (v1.heap.size ≤ v2.heap.size) := hEz.size
        have hH2 := And.intro (block_ext hHeld.1 hEz) (And.intro (block_ext hHeld.2.1 hEz) (Lib.hid (Ext.trans hHeld.2.2.out hEz)))
        have HG5 := Lib.hid (block_ext HG5.out hEz)
        have HG6 := Lib.hid (block_ext HG6.out hEz)
        go_wp2_with fail
        refine hK.out _ _ hH2 (fun hHeld => ?_)
        clear hEz hO
        clear hK K hH2
        (try simp only [Act.put, List.setIfInBounds_toArray, List.set_cons_zero, List.set_cons_succ])
        refine anyE_step 3 (by kernel_rfl) rfl (fun K hK => ?_)
        go_simp
        (go_at_call 17; refine (HM2.out _ hHeld.2.2.out).mono ?_)
        rintro e v3 ⟨ap2, k2, rfl, hO, hEz⟩
        have HO2 := Lib.hid hO; have X2 : Hid (Ext v3 v3) := Ext.refl _
        have HZ3 : Hid (v2.heap.size ≤ v3.heap.size) := hEz.size
        have hH2 := And.intro (block_ext hHeld.1 hEz) (And.intro (block_ext hHeld.2.1 hEz) (Lib.hid (Ext.trans hHeld.2.2.out hEz)))
        have HG5 := Lib.hid (block_ext HG5.out hEz)
        have HG6 := Lib.hid (block_ext HG6.out hEz)
        have X1 := Lib.hid (X1.out.trans hEz)
        go_wp2_with fail
        refine hK.out _ _ hH2 (fun hHeld => ?_)
        clear hEz hO
        clear hK K hH2
        (try simp only [Act.put, List.setIfInBounds_toArray, List.set_cons_zero, List.set_cons_succ])
        have hz := HZd.out; have hz0 := HZ0.out; have hz1 := HZ1.out; have hz2 := HZ2.out; have hz3 := HZ3.out
        have hne : wd.heap.size ≠ v0.heap.size := by omega
        obtain ⟨te, tb5, tb6, to1, to2⟩ := two_lat HO1.out X1.out HO2.out X2.out hHeld.2.2.out HG5.out HG6.out hne (by omega) (by omega) (by omega) (by omega) (by omega) (by omega) (.int .i64 n) (.slice ap1 R.length k1) (.int .i64 n) (.slice ap2 T.length k2) _ rfl
        have hTE := Lib.hid te; have hT5 := Lib.hid tb5; have hT6 := Lib.hid tb6; have hO1 := Lib.hid to1; have hO2 := Lib.hid to2
        have kc50 := block_cell HG5.out 0; have kf50 := block_free HG5.out 0; have kc60 := block_cell HG6.out 0; have kf60 := block_free HG6.out 0
        have kc51 := block_cell HG5.out 1; have kf51 := block_free HG5.out 1; have kc61 := block_cell HG6.out 1; have kf61 := block_free HG6.out 1
        simp only [List.getElem?_toArray, List.getElem?_cons_zero, List.getElem?_cons_succ] at kc50 kc51 kc60 kc61
        clear hz hz0 hz1 hz2 hz3 te tb5 tb6 to1 to2
        refine anyE_stepZ 6 (by kernel_rfl) (by kernel_rfl) rfl (fun K hK => ?_)
        go_simp
        refine hK.out _ _ ?_
        clear hK K
        (try simp only [Act.put, List.setIfInBounds_toArray, List.set_cons_zero, List.set_cons_succ])
        refine anyE_last 7 (by kernel_rfl) (by kernel_rfl) (by kernel_rfl) rfl (fun K hK => ?_)
        go_simp
        refine hK.out _ _ ?_
        clear hK K
        (try simp only [Act.put, List.setIfInBounds_toArray, List.set_cons_zero, List.set_cons_succ])
        go_wp2_with fail
        go_meet
        exact ⟨_, _, ap1, k1, ap2, k2, rfl, rfl, hTE, hT5, hT6, hO1, hO2⟩
    · go_simp
      obtain ⟨v0, hW, hEz, hs, hb⟩ := lat_new wd (.int .i64 0) (.slice none 0 0)
      rw [hW]
      have HG6 := Lib.hid hb
      have HZ0 : Hid (v0.heap.size = wd.heap.size + 1) := hs
      have hH2 := And.intro (block_ext hHeld.1 hEz) (And.intro (block_ext hHeld.2.1 hEz) (Lib.hid (Ext.trans hHeld.2.2.out hEz)))
      refine hK.out _ _ hH2 (fun hHeld => ?_)
      clear hW hEz hs hb
      clear hK K hH2
      (try simp only [Act.put, List.setIfInBounds_toArray, List.set_cons_zero, List.set_cons_succ])
      refine anyE_fork2 1 4 (by kernel_rfl) rfl rfl (fun K hK => ?_) (fun K hK => ?_)
      · go_simp
        (go_at_call 17; refine (HM1.out _ hHeld.2.2.out).mono ?_)
        rintro e v1 ⟨ap1, k1, rfl, hO, hEz⟩
        have HO1 := Lib.hid hO; have X1 : Hid (Ext v1 v1) := Ext.refl _
        have HZ1 : Hid (v0.heap.size ≤ v1.heap.size) := hEz.size
        have hH2 := And.intro (block_ext hHeld.1 hEz) (And.intro (block_ext hHeld.2.1 hEz) (Lib.hid (Ext.trans hHeld.2.2.out hEz)))
        have HG6 := Lib.hid (block_ext HG6.out hEz)
        go_wp2_with fail
        refine hK.out _ _ hH2 (fun hHeld => ?_)
        clear hEz hO
        clear hK K hH2
        (try simp only [Act.put, List.setIfInBounds_toArray, List.set_cons_zero, List.set_cons_succ])
        refine anyE_fork2 3 4 (by kernel_rfl) rfl rfl (fun K hK => ?_) (fun K hK => ?_)
        · go_simp
          (go_at_call 17; refine (HM2.out _ hHeld.2.2.out).mono ?_)
          rintro e v2 ⟨ap2, k2, rfl, hO, hEz⟩
          have HO2 := Lib.hid hO; have X2 : Hid (Ext v2 v2) := Ext.refl _
          have HZ2 : Hid (v1.heap.size ≤ v2.heap.size) := hEz.size
          have hH2 := And.intro (block_ext hHeld.1 hEz) (And.intro (block_ext hHeld.2.1 hEz) (Lib.hid (Ext.trans hHeld.2.2.out hEz)))
          have HG6 := Lib.hid (block_ext HG6.out hEz)
          have X1 := Lib.hid (X1.out.trans hEz)
          go_wp2_with fail
          refine hK.out _ _ hH2 (fun hHeld => ?_)
          clear hEz hO
          clear hK K hH2
          (try simp only [Act.put, List.setIfInBounds_toArray, List.set_cons_zero, List.set_cons_succ])
          refine anyE_step 4 (by kernel_rfl) rfl (fun K hK => ?_)
          go_simp
          obtain ⟨v3, hW, hEz, hs, hb⟩ := lat_new v2 (.int .i64 0) (.slice none 0 0)
          rw [hW]
          have HG5 := Lib.hid hb
          have HZ3 : Hid (v3.heap.size = v2.heap.size + 1) := hs
          have hH2 := And.intro (block_ext hHeld.1 hEz) (And.intro (block_ext hHeld.2.1 hEz) (Lib.hid (Ext.trans hHeld.2.2.out hEz)))
          have HG6 := Lib.hid (block_ext HG6.out hEz)
          have X1 := Lib.hid (X1.out.trans hEz)
          have X2 := Lib.hid (X2.out.trans hEz)
          refine hK.out _ _ hH2 (fun hHeld => ?_)
          clear hW hEz hs hb
          clear hK K hH2
          (try simp only [Act.put, List.setIfInBounds_toArray, List.set_cons_zero, List.set_cons_succ])
          have hz := HZd.out; have hz0 := HZ0.out; have hz1 := HZ1.out; have hz2 := HZ2.out; have hz3 := HZ3.out
          have hne : v2.heap.size ≠ wd.heap.size := by omega
          obtain ⟨te, tb5, tb6, to1, to2⟩ := two_lat HO1.out X1.out HO2.out X2.out hHeld.2.2.out HG5.out HG6.out hne (by omega) (by omega) (by omega) (by omega) (by omega) (by omega) (.int .i64 n) (.slice ap1 R.length k1) (.int .i64 n) (.slice ap2 T.length k2) _ rfl
          have hTE := Lib.hid te; have hT5 := Lib.hid tb5; have hT6 := Lib.hid tb6; have hO1 := Lib.hid to1; have hO2 := Lib.hid to2
          have kc50 := block_cell HG5.out 0; have kf50 := block_free HG5.out 0; have kc60 := block_cell HG6.out 0; have kf60 := block_free HG6.out 0
          have kc51 := block_cell HG5.out 1; have kf51 := block_free HG5.out 1; have kc61 := block_cell HG6.out 1; have kf61 := block_free HG6.out 1
          simp only [List.getElem?_toArray, List.getElem?_cons_zero, List.getElem?_cons_succ] at kc50 kc51 kc60 kc61
          clear hz hz0 hz1 hz2 hz3 te tb5 tb6 to1 to2
          refine anyE_stepZ 6 (by kernel_rfl) (by kernel_rfl) rfl (fun K hK => ?_)
          go_simp
          refine hK.out _ _ ?_
          clear hK K
          (try simp only [Act.put, List.setIfInBounds_toArray, List.set_cons_zero, List.set_cons_succ])
          refine anyE_last 7 (by kernel_rfl) (by kernel_rfl) (by kernel_rfl) rfl (fun K hK => ?_)
          go_simp
          refine hK.out _ _ ?_
          clear hK K
          (try simp only [Act.put, List.setIfInBounds_toArray, List.set_cons_zero, List.set_cons_succ])
          go_wp2_with fail
          go_meet
          exact ⟨_, _, ap1, k1, ap2, k2, rfl, rfl, hTE, hT5, hT6, hO1, hO2⟩
        · go_simp
          obtain ⟨v2, hW, hEz, hs, hb⟩ := lat_new v1 (.int .i64 0) (.slice none 0 0)
          rw [hW]
          have HG5 := Lib.hid hb
          have HZ2 : Hid (v2.heap.size = v1.heap.size + 1) := hs
          have hH2 := And.intro (block_ext hHeld.1 hEz) (And.intro (block_ext hHeld.2.1 hEz) (Lib.hid (Ext.trans hHeld.2.2.out hEz)))
          have HG6 := Lib.hid (block_ext HG6.out hEz)
          have X1 := Lib.hid (X1.out.trans hEz)
          refine hK.out _ _ hH2 (fun hHeld => ?_)
          clear hW hEz hs hb
          clear hK K hH2
          (try simp only [Act.put, List.setIfInBounds_toArray, List.set_cons_zero, List.set_cons_succ])
          refine anyE_step 3 (by kernel_rfl) rfl (fun K hK => ?_)
          go_simp
          (go_at_call 17; refine (HM2.out _ hHeld.2.2.out).mono ?_)
          rintro e v3 ⟨ap2, k2, rfl, hO, hEz⟩
          have HO2 := Lib.hid hO; have X2 : Hid (Ext v3 v3) := Ext.refl _
          have HZ3 : Hid (v2.heap.size ≤ v3.heap.size) := hEz.size
          have hH2 := And.intro (block_ext hHeld.1 hEz) (And.intro (block_ext hHeld.2.1 hEz) (Lib.hid (Ext.trans hHeld.2.2.out hEz)))
          have HG6 := Lib.hid (block_ext HG6.out hEz)
          have X1 := Lib.hid (X1.out.trans hEz)
          have HG5 := Lib.hid (block_ext HG5.out hEz)
          go_wp2_with fail
          refine hK.out _ _ hH2 (fun hHeld => ?_)
          clear hEz hO
          clear hK K hH2
          (try simp only [Act.put, List.setIfInBounds_toArray, List.set_cons_zero, List.set_cons_succ])
          have hz := HZd.out; have hz0 := HZ0.out; have hz1 := HZ1.out; have hz2 := HZ2.out; have hz3 := HZ3.out
          have hne : v1.heap.size ≠ wd.heap.size := by omega
          obtain ⟨te, tb5, tb6, to1, to2⟩ := two_lat HO1.out X1.out HO2.out X2.out hHeld.2.2.out HG5.out HG6.out hne (by omega) (by omega) (by omega) (by omega) (by omega) (by omega) (.int .i64 n) (.slice ap1 R.length k1) (.int .i64 n) (.slice ap2 T.length k2) _ rfl
          have hTE := Lib.hid te; have hT5 := Lib.hid tb5; have hT6 := Lib.hid tb6; have hO1 := Lib.hid to1; have hO2 := Lib.hid to2
          have kc50 := block_cell HG5.out 0; have kf50 := block_free HG5.out 0; have kc60 := block_cell HG6.out 0; have kf60 := block_free HG6.out 0
          have kc51 := block_cell HG5.out 1; have kf51 := block_free HG5.out 1; have kc61 := block_cell HG6.out 1; have kf61 := block_free HG6.out 1
          simp only [List.getElem?_toArray, List.getElem?_cons_zero, List.getElem?_cons_succ] at kc50 kc51 kc60 kc61
          clear hz hz0 hz1 hz2 hz3 te tb5 tb6 to1 to2
          refine anyE_stepZ 6 (by kernel_rfl) (by kernel_rfl) rfl (fun K hK => ?_)
          go_simp
          refine hK.out _ _ ?_
          clear hK K
          (try simp only [Act.put, List.setIfInBounds_toArray, List.set_cons_zero, List.set_cons_succ])
          refine anyE_last 7 (by kernel_rfl) (by kernel_rfl) (by kernel_rfl) rfl (fun K hK => ?_)
          go_simp
          refine hK.out _ _ ?_
          clear hK K
          (try simp only [Act.put, List.setIfInBounds_toArray, List.set_cons_zero, List.set_cons_succ])
          go_wp2_with fail
          go_meet
          exact ⟨_, _, ap1, k1, ap2, k2, rfl, rfl, hTE, hT5, hT6, hO1, hO2⟩
      · go_simp
        obtain ⟨v1, hW, hEz, hs, hb⟩ := lat_new v0 (.int .i64 0) (.slice none 0 0)
        rw [hW]
        have HG5 := Lib.hid hb
        have HZ1 : Hid (v1.heap.size = v0.heap.size + 1) := hs
        have hH2 := And.intro (block_ext hHeld.1 hEz) (And.intro (block_ext hHeld.2.1 hEz) (Lib.hid (Ext.trans hHeld.2.2.out hEz)))
        have HG6 := Lib.hid (block_ext HG6.out hEz)
        refine hK.out _ _ hH2 (fun hHeld => ?_)
        clear hW hEz hs hb
        clear hK K hH2
        (try simp only [Act.put, List.setIfInBounds_toArray, List.set_cons_zero, List.set_cons_succ])
        refine anyE_step 1 (by kernel_rfl) rfl (fun K hK => ?_)
        go_simp
        (go_at_call 17; refine (HM1.out _ hHeld.2.2.out).mono ?_)
        rintro e v2 ⟨ap1, k1, rfl, hO, hEz⟩
        have HO1 := Lib.hid hO; have X1 : Hid (Ext v2 v2) := Ext.refl _
        have HZ2 : Hid (v1.heap.size ≤ v2.heap.size) := hEz.size
        have hH2 := And.intro (block_ext hHeld.1 hEz) (And.intro (block_ext hHeld.2.1 hEz) (Lib.hid (Ext.trans hHeld.2.2.out hEz)))
        have HG6 := Lib.hid (block_ext HG6.out hEz)
        have HG5 := Lib.hid (block_ext HG5.out hEz)
        go_wp2_with fail
        refine hK.out _ _ hH2 (fun hHeld => ?_)
        clear hEz hO
        clear hK K hH2
        (try simp only [Act.put, List.setIfInBounds_toArray, List.set_cons_zero, List.set_cons_succ])
        refine anyE_step 3 (by kernel_rfl) rfl (fun K hK => ?_)
        go_simp
        (go_at_call 17; refine (HM2.out _ hHeld.2.2.out).mono ?_)
        rintro e v3 ⟨ap2, k2, rfl, hO, hEz⟩
        have HO2 := Lib.hid hO; have X2 : Hid (Ext v3 v3) := Ext.refl _
        have HZ3 : Hid (v2.heap.size ≤ v3.heap.size) := hEz.size
        have hH2 := And.intro (block_ext hHeld.1 hEz) (And.intro (block_ext hHeld.2.1 hEz) (Lib.hid (Ext.trans hHeld.2.2.out hEz)))
        have HG6 := Lib.hid (block_ext HG6.out hEz)
        have HG5 := Lib.hid (block_ext HG5.out hEz)
        have X1 := Lib.hid (X1.out.trans hEz)
        go_wp2_with fail
        refine hK.out _ _ hH2 (fun hHeld => ?_)
        clear hEz hO
        clear hK K hH2
        (try simp only [Act.put, List.setIfInBounds_toArray, List.set_cons_zero, List.set_cons_succ])
        have hz := HZd.out; have hz0 := HZ0.out; have hz1 := HZ1.out; have hz2 := HZ2.out; have hz3 := HZ3.out
        have hne : v0.heap.size ≠ wd.heap.size := by omega
        obtain ⟨te, tb5, tb6, to1, to2⟩ := two_lat HO1.out X1.out HO2.out X2.out hHeld.2.2.out HG5.out HG6.out hne (by omega) (by omega) (by omega) (by omega) (by omega) (by omega) (.int .i64 n) (.slice ap1 R.length k1) (.int .i64 n) (.slice ap2 T.length k2) _ rfl
        have hTE := Lib.hid te; have hT5 := Lib.hid tb5; have hT6 := Lib.hid tb6; have hO1 := Lib.hid to1; have hO2 := Lib.hid to2
        have kc50 := block_cell HG5.out 0; have kf50 := block_free HG5.out 0; have kc60 := block_cell HG6.out 0; have kf60 := block_free HG6.out 0
        have kc51 := block_cell HG5.out 1; have kf51 := block_free HG5.out 1; have kc61 := block_cell HG6.out 1; have kf61 := block_free HG6.out 1
        simp only [List.getElem?_toArray, List.getElem?_cons_zero, List.getElem?_cons_succ] at kc50 kc51 kc60 kc61
        clear hz hz0 hz1 hz2 hz3 te tb5 tb6 to1 to2
        refine anyE_stepZ 6 (by kernel_rfl) (by kernel_rfl) rfl (fun K hK => ?_)
        go_simp
        refine hK.out _ _ ?_
        clear hK K
        (try simp only [Act.put, List.setIfInBounds_toArray, List.set_cons_zero, List.set_cons_succ])
        refine anyE_last 7 (by kernel_rfl) (by kernel_rfl) (by kernel_rfl) rfl (fun K hK => ?_)
        go_simp
        refine hK.out _ _ ?_
        clear hK K
        (try simp only [Act.put, List.setIfInBounds_toArray, List.set_cons_zero, List.set_cons_succ])
        go_wp2_with fail
        go_meet
        exact ⟨_, _, ap1, k1, ap2, k2, rfl, rfl, hTE, hT5, hT6, hO1, hO2⟩
  case rest =>
    obtain ⟨g5, g6, a5, k5, a6, k6, rfl, rfl, HEW, HB5, HB6, HR5, HR6⟩ := hcut
    obtain ⟨w4, rfl⟩ : ∃ w4 : World, w4 = wc := ⟨_, rfl⟩
    have HE4 := Lib.hid (HE3.out.trans HEW.out)
    clear HE3 HP3 HQ3 HM1 HM2 HEW
    obtain ⟨s50, s51, -⟩ := lat_block HB5.out
    obtain ⟨s60, s61, -⟩ := lat_block HB6.out
    go_wp2_with fail
    clear s50 s51 s60 s61
    refine (HSU.out _ HE4.out _ _ ⟨_, rfl, HR5.out⟩ ⟨_, rfl, HR6.out⟩).mono ?_
    rintro e w5 ⟨a7x, c7x, rfl, hR, hE⟩
    have HB5 := Lib.hid (block_ext HB5.out hE); have HR5 := Lib.hid (HR5.out.ext hE)
    have HB6 := Lib.hid (block_ext HB6.out hE); have HR6 := Lib.hid (HR6.out.ext hE)
    have HE5 := Lib.hid (HE4.out.trans hE)
    have HR7 := Lib.hid hR
    clear hE hR HE4 HSU
    obtain ⟨V1, hV1, hX1, hs1, hb1⟩ := lat_new w5 (.int .i64 0) (.slice none 0 0)
    obtain ⟨r0, r1, rf⟩ := lat_block hb1
    have f0 := rf 0; have f1 := rf 1
    have HB7 := Lib.hid (lat_store hb1 (.int .i64 n) (.slice a7x U.length c7x))
    have HXU := Lib.hid (ext_lat hX1 (Nat.le_refl _) (.int .i64 n) (.slice a7x U.length c7x))
    clear hX1 hs1 hb1 rf
    obtain ⟨U6, hU⟩ : ∃ U1, (V1.setCell ⟨w5.heap.size, 0, none⟩ (.int .i64 n)).setCell ⟨w5.heap.size, 1, none⟩ (.slice a7x U.length c7x) = U1 := ⟨_, rfl⟩
    rw [hU] at HB7 HXU
    have HB5 := Lib.hid (block_ext HB5.out HXU.out); have HR5 := Lib.hid (HR5.out.ext HXU.out)
    have HB6 := Lib.hid (block_ext HB6.out HXU.out); have HR6 := Lib.hid (HR6.out.ext HXU.out)
    have HR7 := Lib.hid (HR7.out.ext HXU.out)
    have HE6 := Lib.hid (HE5.out.trans HXU.out)
    clear HE5 HXU
    obtain ⟨s50, s51, -⟩ := lat_block HB5.out
    go_wp2_with fail
    clear hU hV1 r0 r1 f0 f1
    clear s50 s51
    refine (HAR.out _ HE6.out _ ⟨_, rfl, HR5.out⟩).mono ?_
    rintro e w7 ⟨a9x, c9x, rfl, hR, hE⟩
    have HB5 := Lib.hid (block_ext HB5.out hE); have HR5 := Lib.hid (HR5.out.ext hE)
    have HB6 := Lib.hid (block_ext HB6.out hE); have HR6 := Lib.hid (HR6.out.ext hE)
    have HB7 := Lib.hid (block_ext HB7.out hE); have HR7 := Lib.hid (HR7.out.ext hE)
    have HE7 := Lib.hid (HE6.out.trans hE)
    have HR9 := Lib.hid hR
    clear hE hR HE6 HAR
    obtain ⟨V1, hV1, hX1, hs1, hb1⟩ := lat_new w7 (.int .i64 0) (.slice none 0 0)
    obtain ⟨r0, r1, rf⟩ := lat_block hb1
    have f0 := rf 0; have f1 := rf 1
    have HB9 := Lib.hid (lat_store hb1 (.int .i64 n) (.slice a9x A.length c9x))
    have HXU := Lib.hid (ext_lat hX1 (Nat.le_refl _) (.int .i64 n) (.slice a9x A.length c9x))
    clear hX1 hs1 hb1 rf
    obtain ⟨U8, hU⟩ : ∃ U1, (V1.setCell ⟨w7.heap.size, 0, none⟩ (.int .i64 n)).setCell ⟨w7.heap.size, 1, none⟩ (.slice a9x A.length c9x) = U1 := ⟨_, rfl⟩
    rw [hU] at HB9 HXU
    have HB5 := Lib.hid (block_ext HB5.out HXU.out); have HR5 := Lib.hid (HR5.out.ext HXU.out)
    have HB6 := Lib.hid (block_ext HB6.out HXU.out); have HR6 := Lib.hid (HR6.out.ext HXU.out)
    have HB7 := Lib.hid (block_ext HB7.out HXU.out); have HR7 := Lib.hid (HR7.out.ext HXU.out)
    have HR9 := Lib.hid (HR9.out.ext HXU.out)
    have HE8 := Lib.hid (HE7.out.trans HXU.out)
    clear HE7 HXU
    obtain ⟨s60, s61, -⟩ := lat_block HB6.out
    go_wp2_with fail
    clear hU hV1 r0 r1 f0 f1
    clear s60 s61
    refine (HAT.out _ HE8.out _ ⟨_, rfl, HR6.out⟩).mono ?_
    rintro e w9 ⟨a11x, c11x, rfl, hR, hE⟩
    clear HB6 HR6
    have HB5 := Lib.hid (block_ext HB5.out hE); have HR5 := Lib.hid (HR5.out.ext hE)
    have HB7 := Lib.hid (block_ext HB7.out hE); have HR7 := Lib.hid (HR7.out.ext hE)
    have HB9 := Lib.hid (block_ext HB9.out hE); have HR9 := Lib.hid (HR9.out.ext hE)
    have HE9 := Lib.hid (HE8.out.trans hE)
    have HR11 := Lib.hid hR
    clear hE hR HE8 HAT
    obtain ⟨V1, hV1, hX1, hs1, hb1⟩ := lat_new w9 (.int .i64 0) (.slice none 0 0)
    obtain ⟨r0, r1, rf⟩ := lat_block hb1
    have f0 := rf 0; have f1 := rf 1
    have HB11 := Lib.hid (lat_store hb1 (.int .i64 n) (.slice a11x B.length c11x))
    have HXU := Lib.hid (ext_lat hX1 (Nat.le_refl _) (.int .i64 n) (.slice a11x B.length c11x))
    clear hX1 hs1 hb1 rf
    obtain ⟨U10, hU⟩ : ∃ U1, (V1.setCell ⟨w9.heap.size, 0, none⟩ (.int .i64 n)).setCell ⟨w9.heap.size, 1, none⟩ (.slice a11x B.length c11x) = U1 := ⟨_, rfl⟩
    rw [hU] at HB11 HXU
    have HB5 := Lib.hid (block_ext HB5.out HXU.out); have HR5 := Lib.hid (HR5.out.ext HXU.out)
    have HB7 := Lib.hid (block_ext HB7.out HXU.out); have HR7 := Lib.hid (HR7.out.ext HXU.out)
    have HB9 := Lib.hid (block_ext HB9.out HXU.out); have HR9 := Lib.hid (HR9.out.ext HXU.out)
    have HR11 := Lib.hid (HR11.out.ext HXU.out)
    have HE10 := Lib.hid (HE9.out.trans HXU.out)
    clear HE9 HXU
    obtain ⟨s70, s71, -⟩ := lat_block HB7.out
    go_wp2_with fail
    clear hU hV1 r0 r1 f0 f1
    clear s70 s71
    refine (HAU.out _ HE10.out _ ⟨_, rfl, HR7.out⟩).mono ?_
    rintro e w11 ⟨a13x, c13x, rfl, hR, hE⟩
    clear HB7 HR7
    have HB5 := Lib.hid (block_ext HB5.out hE); have HR5 := Lib.hid (HR5.out.ext hE)
    have HB9 := Lib.hid (block_ext HB9.out hE); have HR9 := Lib.hid (HR9.out.ext hE)
    have HB11 := Lib.hid (block_ext HB11.out hE); have HR11 := Lib.hid (HR11.out.ext hE)
    have HE11 := Lib.hid (HE10.out.trans hE)
    have HR13 := Lib.hid hR
    clear hE hR HE10 HAU
    obtain ⟨V1, hV1, hX1, hs1, hb1⟩ := lat_new w11 (.int .i64 0) (.slice none 0 0)
    obtain ⟨r0, r1, rf⟩ := lat_block hb1
    have f0 := rf 0; have f1 := rf 1
    have HB13 := Lib.hid (lat_store hb1 (.int .i64 n) (.slice a13x O.length c13x))
    have HXU := Lib.hid (ext_lat hX1 (Nat.le_refl _) (.int .i64 n) (.slice a13x O.length c13x))
    clear hX1 hs1 hb1 rf
    obtain ⟨U12, hU⟩ : ∃ U1, (V1.setCell ⟨w11.heap.size, 0, none⟩ (.int .i64 n)).setCell ⟨w11.heap.size, 1, none⟩ (.slice a13x O.length c13x) = U1 := ⟨_, rfl⟩
    rw [hU] at HB13 HXU
    have HB5 := Lib.hid (block_ext HB5.out HXU.out); have HR5 := Lib.hid (HR5.out.ext HXU.out)
    have HB9 := Lib.hid (block_ext HB9.out HXU.out); have HR9 := Lib.hid (HR9.out.ext HXU.out)
    have HB11 := Lib.hid (block_ext HB11.out HXU.out); have HR11 := Lib.hid (HR11.out.ext HXU.out)
    have HR13 := Lib.hid (HR13.out.ext HXU.out)
    have HE12 := Lib.hid (HE11.out.trans HXU.out)
    clear HE11 HXU
    obtain ⟨s90, s91, -⟩ := lat_block HB9.out
    obtain ⟨s110, s111, -⟩ := lat_block HB11.out
    go_wp2_with fail
    clear hU hV1 r0 r1 f0 f1
    clear s90 s91 s110 s111
    refine (HIN.out _ HE12.out _ _ ⟨_, rfl, HR9.out⟩ ⟨_, rfl, HR11.out⟩).mono ?_
    rintro e w13 ⟨a15x, c15x, rfl, hR, hE⟩
    clear HB11 HR11
    have HB5 := Lib.hid (block_ext HB5.out hE); have HR5 := Lib.hid (HR5.out.ext hE)
    have HB9 := Lib.hid (block_ext HB9.out hE); have HR9 := Lib.hid (HR9.out.ext hE)
    have HB13 := Lib.hid (block_ext HB13.out hE); have HR13 := Lib.hid (HR13.out.ext hE)
    have HE13 := Lib.hid (HE12.out.trans hE)
    have HR15 := Lib.hid hR
    clear hE hR HE12 HIN
    obtain ⟨V1, hV1, hX1, hs1, hb1⟩ := lat_new w13 (.int .i64 0) (.slice none 0 0)
    obtain ⟨r0, r1, rf⟩ := lat_block hb1
    have f0 := rf 0; have f1 := rf 1
    have HB15 := Lib.hid (lat_store hb1 (.int .i64 n) (.slice a15x O.length c15x))
    have HXU := Lib.hid (ext_lat hX1 (Nat.le_refl _) (.int .i64 n) (.slice a15x O.length c15x))
    clear hX1 hs1 hb1 rf
    obtain ⟨U14, hU⟩ : ∃ U1, (V1.setCell ⟨w13.heap.size, 0, none⟩ (.int .i64 n)).setCell ⟨w13.heap.size, 1, none⟩ (.slice a15x O.length c15x) = U1 := ⟨_, rfl⟩
    rw [hU] at HB15 HXU
    have HB5 := Lib.hid (block_ext HB5.out HXU.out); have HR5 := Lib.hid (HR5.out.ext HXU.out)
    have HB9 := Lib.hid (block_ext HB9.out HXU.out); have HR9 := Lib.hid (HR9.out.ext HXU.out)
    have HB13 := Lib.hid (block_ext HB13.out HXU.out); have HR13 := Lib.hid (HR13.out.ext HXU.out)
    have HR15 := Lib.hid (HR15.out.ext HXU.out)
    have HE14 := Lib.hid (HE13.out.trans HXU.out)
    clear HE13 HXU
    obtain ⟨s90, s91, -⟩ := lat_block HB9.out
    go_wp2_with fail
    clear hU hV1 r0 r1 f0 f1
    clear s90 s91
    refine (HAA.out _ HE14.out _ ⟨_, rfl, HR9.out⟩).mono ?_
    rintro e w15 ⟨a17x, c17x, rfl, hR, hE⟩
    have HB5 := Lib.hid (block_ext HB5.out hE); have HR5 := Lib.hid (HR5.out.ext hE)
    have HB9 := Lib.hid (block_ext HB9.out hE); have HR9 := Lib.hid (HR9.out.ext hE)
    have HB13 := Lib.hid (block_ext HB13.out hE); have HR13 := Lib.hid (HR13.out.ext hE)
    have HB15 := Lib.hid (block_ext HB15.out hE); have HR15 := Lib.hid (HR15.out.ext hE)
    have HE15 := Lib.hid (HE14.out.trans hE)
    have HR17 := Lib.hid hR
    clear hE hR HE14 HAA
    obtain ⟨V1, hV1, hX1, hs1, hb1⟩ := lat_new w15 (.int .i64 0) (.slice none 0 0)
    obtain ⟨r0, r1, rf⟩ := lat_block hb1
    have f0 := rf 0; have f1 := rf 1
    have HB17 := Lib.hid (lat_store hb1 (.int .i64 n) (.slice a17x S.length c17x))
    have HXU := Lib.hid (ext_lat hX1 (Nat.le_refl _) (.int .i64 n) (.slice a17x S.length c17x))
    clear hX1 hs1 hb1 rf
    obtain ⟨U16, hU⟩ : ∃ U1, (V1.setCell ⟨w15.heap.size, 0, none⟩ (.int .i64 n)).setCell ⟨w15.heap.size, 1, none⟩ (.slice a17x S.length c17x) = U1 := ⟨_, rfl⟩
    rw [hU] at HB17 HXU
    have HB5 := Lib.hid (block_ext HB5.out HXU.out); have HR5 := Lib.hid (HR5.out.ext HXU.out)
    have HB9 := Lib.hid (block_ext HB9.out HXU.out); have HR9 := Lib.hid (HR9.out.ext HXU.out)
    have HB13 := Lib.hid (block_ext HB13.out HXU.out); have HR13 := Lib.hid (HR13.out.ext HXU.out)
    have HB15 := Lib.hid (block_ext HB15.out HXU.out); have HR15 := Lib.hid (HR15.out.ext HXU.out)
    have HR17 := Lib.hid (HR17.out.ext HXU.out)
    have HE16 := Lib.hid (HE15.out.trans HXU.out)
    clear HE15 HXU
    obtain ⟨s50, s51, -⟩ := lat_block HB5.out
    go_wp2_with fail
    clear hU hV1 r0 r1 f0 f1
    clear s50 s51
    refine (HSR.out _ HE16.out _ ⟨_, rfl, HR5.out⟩).mono ?_
    rintro e w17 ⟨a19x, c19x, rfl, hR, hE⟩
    have HB5 := Lib.hid (block_ext HB5.out hE); have HR5 := Lib.hid (HR5.out.ext hE)
    have HB9 := Lib.hid (block_ext HB9.out hE); have HR9 := Lib.hid (HR9.out.ext hE)
    have HB13 := Lib.hid (block_ext HB13.out hE); have HR13 := Lib.hid (HR13.out.ext hE)
    have HB15 := Lib.hid (block_ext HB15.out hE); have HR15 := Lib.hid (HR15.out.ext hE)
    have HB17 := Lib.hid (block_ext HB17.out hE); have HR17 := Lib.hid (HR17.out.ext hE)
    have HE17 := Lib.hid (HE16.out.trans hE)
    have HR19 := Lib.hid hR
    clear hE hR HE16 HSR
    obtain ⟨V1, hV1, hX1, hs1, hb1⟩ := lat_new w17 (.int .i64 0) (.slice none 0 0)
    obtain ⟨r0, r1, rf⟩ := lat_block hb1
    have f0 := rf 0; have f1 := rf 1
    have HB19 := Lib.hid (lat_store hb1 (.int .i64 n) (.slice a19x S.length c19x))
    have HXU := Lib.hid (ext_lat hX1 (Nat.le_refl _) (.int .i64 n) (.slice a19x S.length c19x))
    clear hX1 hs1 hb1 rf
    obtain ⟨U18, hU⟩ : ∃ U1, (V1.setCell ⟨w17.heap.size, 0, none⟩ (.int .i64 n)).setCell ⟨w17.heap.size, 1, none⟩ (.slice a19x S.length c19x) = U1 := ⟨_, rfl⟩
    rw [hU] at HB19 HXU
    have HB5 := Lib.hid (block_ext HB5.out HXU.out); have HR5 := Lib.hid (HR5.out.ext HXU.out)
    have HB9 := Lib.hid (block_ext HB9.out HXU.out); have HR9 := Lib.hid (HR9.out.ext HXU.out)
    have HB13 := Lib.hid (block_ext HB13.out HXU.out); have HR13 := Lib.hid (HR13.out.ext HXU.out)
    have HB15 := Lib.hid (block_ext HB15.out HXU.out); have HR15 := Lib.hid (HR15.out.ext HXU.out)
    have HB17 := Lib.hid (block_ext HB17.out HXU.out); have HR17 := Lib.hid (HR17.out.ext HXU.out)
    have HR19 := Lib.hid (HR19.out.ext HXU.out)
    have HE18 := Lib.hid (HE17.out.trans HXU.out)
    clear HE17 HXU
    obtain ⟨s130, s131, -⟩ := lat_block HB13.out
    obtain ⟨s90, s91, -⟩ := lat_block HB9.out
    go_wp2_with fail
    clear hU hV1 r0 r1 f0 f1
    clear s130 s131 s90 s91
    refine (HW1.out _ HE18.out _ _ ⟨_, rfl, HR13.out⟩ ⟨_, rfl, HR9.out⟩).mono ?_
    rintro e w19 ⟨rfl, hE⟩
    have HB5 := Lib.hid (block_ext HB5.out hE); have HR5 := Lib.hid (HR5.out.ext hE)
    have HB9 := Lib.hid (block_ext HB9.out hE); have HR9 := Lib.hid (HR9.out.ext hE)
    have HB13 := Lib.hid (block_ext HB13.out hE); have HR13 := Lib.hid (HR13.out.ext hE)
    have HB15 := Lib.hid (block_ext HB15.out hE); have HR15 := Lib.hid (HR15.out.ext hE)
    have HB17 := Lib.hid (block_ext HB17.out hE); have HR17 := Lib.hid (HR17.out.ext hE)
    have HB19 := Lib.hid (block_ext HB19.out hE); have HR19 := Lib.hid (HR19.out.ext hE)
    have HE19 := Lib.hid (HE18.out.trans hE)
    clear hE HE18 HW1
    obtain ⟨s50, s51, -⟩ := lat_block HB5.out
    obtain ⟨s190, s191, -⟩ := lat_block HB19.out
    go_wp2_with fail
    clear s50 s51 s190 s191
    refine (HW2.out _ HE19.out _ _ ⟨_, rfl, HR5.out⟩ ⟨_, rfl, HR19.out⟩).mono ?_
    rintro e w20 ⟨rfl, hE⟩
    have HB5 := Lib.hid (block_ext HB5.out hE); have HR5 := Lib.hid (HR5.out.ext hE)
    have HB9 := Lib.hid (block_ext HB9.out hE); have HR9 := Lib.hid (HR9.out.ext hE)
    have HB13 := Lib.hid (block_ext HB13.out hE); have HR13 := Lib.hid (HR13.out.ext hE)
    have HB15 := Lib.hid (block_ext HB15.out hE); have HR15 := Lib.hid (HR15.out.ext hE)
    have HB17 := Lib.hid (block_ext HB17.out hE); have HR17 := Lib.hid (HR17.out.ext hE)
    have HB19 := Lib.hid (block_ext HB19.out hE); have HR19 := Lib.hid (HR19.out.ext hE)
    have HE20 := Lib.hid (HE19.out.trans hE)
    clear hE HE19 HW2
    obtain ⟨q, hq, hIX⟩ := HIX.out _ HE20.out
    have hqb : (q == 1) = EB := by
      have := HEB.out
      by_cases h : R = S
      · rw [← this, decide_eq_true h, hq.2 h]; rfl
      · rw [← this, decide_eq_false h]; exact beq_eq_false_iff_ne.2 fun e => h (hq.1 e)
    have HQB := Lib.hid hqb; have HIY := Lib.hid hIX
    clear hq hIX hqb HIX
    obtain ⟨s50, s51, -⟩ := lat_block HB5.out
    go_wp2_with fail
    clear s50 s51
    refine (HIY.out _ ⟨_, rfl, HR5.out⟩).mono ?_
    rintro e w21 ⟨rfl, hE⟩
    have HB5 := Lib.hid (block_ext HB5.out hE); have HR5 := Lib.hid (HR5.out.ext hE)
    have HB9 := Lib.hid (block_ext HB9.out hE); have HR9 := Lib.hid (HR9.out.ext hE)
    have HB13 := Lib.hid (block_ext HB13.out hE); have HR13 := Lib.hid (HR13.out.ext hE)
    have HB15 := Lib.hid (block_ext HB15.out hE); have HR15 := Lib.hid (HR15.out.ext hE)
    have HB17 := Lib.hid (block_ext HB17.out hE); have HR17 := Lib.hid (HR17.out.ext hE)
    have HB19 := Lib.hid (block_ext HB19.out hE); have HR19 := Lib.hid (HR19.out.ext hE)
    have HE21 := Lib.hid (HE20.out.trans hE)
    clear hE HE20 HIY
    obtain ⟨s130, s131, -⟩ := lat_block HB13.out
    obtain ⟨s150, s151, -⟩ := lat_block HB15.out
    go_wp2_with fail
    clear s130 s131 s150 s151
    refine (HEO.out _ _ _ ⟨_, rfl, HR13.out⟩ ⟨_, rfl, HR15.out⟩).mono ?_
    rintro e w22 ⟨rfl, hE⟩
    clear HB13 HR13
    clear HB15 HR15
    have HB5 := Lib.hid (block_ext HB5.out hE); have HR5 := Lib.hid (HR5.out.ext hE)
    have HB9 := Lib.hid (block_ext HB9.out hE); have HR9 := Lib.hid (HR9.out.ext hE)
    have HB17 := Lib.hid (block_ext HB17.out hE); have HR17 := Lib.hid (HR17.out.ext hE)
    have HB19 := Lib.hid (block_ext HB19.out hE); have HR19 := Lib.hid (HR19.out.ext hE)
    have HE22 := Lib.hid (HE21.out.trans hE)
    clear hE HE21 HEO
    obtain ⟨s170, s171, -⟩ := lat_block HB17.out
    obtain ⟨s190, s191, -⟩ := lat_block HB19.out
    go_wp2_with fail
    clear s170 s171 s190 s191
    refine (HES.out _ _ _ ⟨_, rfl, HR17.out⟩ ⟨_, rfl, HR19.out⟩).mono ?_
    rintro e w23 ⟨rfl, hE⟩
    clear HB17 HR17
    have HB5 := Lib.hid (block_ext HB5.out hE); have HR5 := Lib.hid (HR5.out.ext hE)
    have HB9 := Lib.hid (block_ext HB9.out hE); have HR9 := Lib.hid (HR9.out.ext hE)
    have HB19 := Lib.hid (block_ext HB19.out hE); have HR19 := Lib.hid (HR19.out.ext hE)
    have HE23 := Lib.hid (HE22.out.trans hE)
    clear hE HE22 HES
    have hsum := HSUM.out
    obtain ⟨hs1, hs2, hs3⟩ := HSZ.out
    have hqb := HQB.out
    clear HSUM HSZ HQB HEB
    obtain ⟨s90, s91, -⟩ := lat_block HB9.out
    obtain ⟨s50, s51, -⟩ := lat_block HB5.out
    obtain ⟨s190, s191, -⟩ := lat_block HB19.out
    go_wp2_with fail
    clear s50 s51 s190 s191
    clear s90 s91
    refine (HER.out _ _ _ ⟨_, rfl, HR5.out⟩ ⟨_, rfl, HR19.out⟩).mono ?_
    rintro e w24 ⟨rfl, hE⟩
    clear HB5 HR5
    clear HB19 HR19
    clear HB9 HR9
    have HE24 := Lib.hid (HE23.out.trans hE)
    clear hE HE23 HER
    cases EB <;> (go_wp2_with fail; go_ret; exact ⟨rfl, HE24.out⟩)
end Go.Proofs.YtehknemdfbkimaaGreatDoor
