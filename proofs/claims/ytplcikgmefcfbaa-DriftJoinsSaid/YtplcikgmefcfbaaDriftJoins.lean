/- The walk of DriftJoins. (under way) -/
import Derived.Test.YtplcikgmefcfbaaJoin51
import Derived.Test.YtplcikgmefcfbaaJoinsR
import Derived.Test.YtplcikgmefcfbaaRegF
import Derived.Test.YtplcikgmefcfbaaFollowB
import Derived.Test.YtplcikgmefcfbaaLawC
namespace Go.Proofs.Ytplcikgmefcfbaa
set_option linter.unusedVariables false
set_option linter.unusedSimpArgs false
open Go.RowKit

set_option maxRecDepth 100000 in
set_option maxHeartbeats 8000000 in
theorem joins_walk (cs ds : Array Value) (hpl : PlanAt cs) (hpq : PlanAt ds) (alike : Bool) (w : World) :
    Calls Try.prog 6 #[.agg cs, .agg ds, .bool alike] w fun e w' => e = .returned (.bool true) ∧ Ext w w' := by
  have HPL := Lib.hid hpl; have HPQ := Lib.hid hpq
  have HK0 := Lib.hid (block_ext (block_new w cs 53) (Ext.alloc (w.alloc (.cells cs 53)) (.cells ds 53)))
  have HQ0 := Lib.hid (block_new (w.alloc (.cells cs 53)) ds 53)
  have HE0 := Lib.hid ((Ext.alloc w (.cells cs 53)).trans (Ext.alloc (w.alloc (.cells cs 53)) (.cells ds 53)))
  clear hpl hpq
  go_enter Try.func6, Try.ntmps6
  go_wp2_with fail
  refine (known_any _).mono ?_
  rintro e w1 ⟨rfl, hE1⟩
  have HK1 := Lib.hid (block_ext HK0.out hE1)
  have HQ1 : Hid (w1.heap[w.heap.size + 1]? = some (.cells ds 53 (0, 0))) := by have := block_ext HQ0.out hE1; unfold Hid; simpa using this
  have HE1 := Lib.hid (Ext.trans HE0.out hE1)
  clear hE1 HK0 HQ0 HE0
  go_upto_region 3 with fail
  have HM1 : Hid (∀ W, Ext w1 W → _) := fun W (hW : Ext w1 W) => make_ownS cs HPL.out W
  have HM2 : Hid (∀ W, Ext w1 W → _) := fun W (hW : Ext w1 W) => make_ownS ds HPQ.out W
  go_cut [7, 8] from 23 to 26 (fun t7 t8 wx => ∃ (g7 g8 B1 B2 : Nat) (ap1 : Option Addr) (cp1 : Nat) (ac1 : Option Addr) (nc1 cc1 : Nat) (al1 : Option Addr) (nl1 cl1 : Nat) (ap2 : Option Addr) (cp2 : Nat) (ac2 : Option Addr) (nc2 cc2 : Nat) (al2 : Option Addr) (nl2 cl2 : Nat) (k1 k2 : Wk) (S1 S2 : Nat → Prop) (u1 u2 : Value), t7 = .pointer (some ⟨g7, 0, none⟩) ∧ t8 = .pointer (some ⟨g8, 0, none⟩) ∧ Hid (Ext w1 wx) ∧
      Hid (wx.heap[g7]? = some (.cells #[.slice ap1 3 cp1, .slice ac1 nc1 cc1, .slice al1 nl1 cl1] 30 (0, 0))) ∧ Hid (wx.heap[g8]? = some (.cells #[.slice ap2 3 cp2, .slice ac2 nc2 cc2, .slice al2 nl2 cl2] 30 (0, 0))) ∧
      Hid (OwnWk wx B1 S1 (.slice ap1 3 cp1) (.slice ac1 nc1 cc1) (.slice al1 nl1 cl1) u1 k1) ∧ Hid (OwnWk wx B2 S2 (.slice ap2 3 cp2) (.slice ac2 nc2 cc2) (.slice al2 nl2 cl2) u2 k2) ∧ Hid (PlanWk k1) ∧ Hid (PlanWk k2) ∧ Hid (nc1 = k1.chords.length ∧ nl1 = k1.links.length ∧ nc2 = k2.chords.length ∧ nl2 = k2.links.length) ∧ Hid (w1.heap.size ≤ B2) ∧ Hid (∀ b, B2 ≤ b → b < wx.heap.size → S1 b) ∧
      Hid (∀ b, ((Value.slice ac1 nc1 cc1).ownBlock = some b ∨ (Value.slice al1 nl1 cl1).ownBlock = some b ∨ (k1.links ≠ [] ∧ u1.ownBlock = some b)) → b < B2))
  case first =>
    --<R3
    refine region_anyE (fun w' => w'.heap[w.heap.size]? = some (.cells cs 53 (0, 0)) ∧ w'.heap[w.heap.size + 1]? = some (.cells ds 53 (0, 0)) ∧ Hid (Ext w1 w')) 6 (by kernel_rfl) ⟨block_ext HK1.out (Ext.drew w1), block_ext HQ1.out (Ext.drew w1), Ext.drew w1⟩ (fun hHeld => ?_)
    have HZd : Hid (w1.heap.size ≤ w1.drew.heap.size) := (Ext.drew w1).size
    generalize w1.drew = wd at hHeld HZd ⊢
    refine anyE_take 0 rfl (by kernel_rfl) (by kernel_rfl) (by kernel_rfl) (by kernel_rfl) (by kernel_rfl) (fun _ _ _ h => h) (yields_load_row 53 _ rfl rfl w.heap.size rfl _ cs (0, 0) _ (fun w' h => h.1) Try.underlying53 rfl (by rw [HPL.out.1]; kernel_rfl)) (by assumption) ?_
    (try simp only [Act.put, List.setIfInBounds_toArray, List.set_cons_zero, List.set_cons_succ])
    refine anyE_take 2 rfl (by kernel_rfl) (by kernel_rfl) (by kernel_rfl) (by kernel_rfl) (by kernel_rfl) (fun _ _ _ h => h) (yields_load_row 53 _ rfl rfl (w.heap.size + 1) rfl _ ds (0, 0) _ (fun w' h => h.2.1) Try.underlying53 rfl (by rw [HPQ.out.1]; kernel_rfl)) (by assumption) ?_
    (try simp only [Act.put, List.setIfInBounds_toArray, List.set_cons_zero, List.set_cons_succ])
    refine anyE_fork3 1 4 5 (by kernel_rfl) rfl rfl rfl (fun K hK => ?_) (fun K hK => ?_) (fun K hK => ?_)
    · go_simp
      (go_at_call 13; refine (HM1.out _ hHeld.2.2.out).mono ?_)
      rintro e v0 ⟨ap1, cp1, ac1, nc1, cc1, al1, nl1, cl1, k1, S1, u1, rfl, hEz, hO, hk, hn, hm⟩
      have HO1 := Lib.hid hO; have HK1 := Lib.hid hk; have HN1 := Lib.hid hn; have HM1l := Lib.hid hm; clear hn hm; have X1 : Hid (Ext v0 v0) := Ext.refl _
      have HZ0 : Hid (wd.heap.size ≤ v0.heap.size) := hEz.size
      have hH2 := And.intro (block_ext hHeld.1 hEz) (And.intro (block_ext hHeld.2.1 hEz) (Lib.hid (Ext.trans hHeld.2.2.out hEz)))
      go_wp2_with fail
      refine hK.out _ _ hH2 (fun hHeld => ?_)
      clear hEz hO hk
      clear hK K hH2
      (try simp only [Act.put, List.setIfInBounds_toArray, List.set_cons_zero, List.set_cons_succ])
      refine anyE_fork3 3 4 5 (by kernel_rfl) rfl rfl rfl (fun K hK => ?_) (fun K hK => ?_) (fun K hK => ?_)
      · go_simp
        (go_at_call 13; refine (HM2.out _ hHeld.2.2.out).mono ?_)
        rintro e v1 ⟨ap2, cp2, ac2, nc2, cc2, al2, nl2, cl2, k2, S2, u2, rfl, hEz, hO, hk, hn, hm⟩
        have HO2 := Lib.hid hO; have HK2 := Lib.hid hk; have HN2 := Lib.hid hn; have HM2l := Lib.hid hm; clear hn hm; have X2 : Hid (Ext v1 v1) := Ext.refl _
        have HZ1 : Hid (v0.heap.size ≤ v1.heap.size) := hEz.size
        have hH2 := And.intro (block_ext hHeld.1 hEz) (And.intro (block_ext hHeld.2.1 hEz) (Lib.hid (Ext.trans hHeld.2.2.out hEz)))
        have X1 := Lib.hid (X1.out.trans hEz)
        go_wp2_with fail
        refine hK.out _ _ hH2 (fun hHeld => ?_)
        clear hEz hO hk
        clear hK K hH2
        (try simp only [Act.put, List.setIfInBounds_toArray, List.set_cons_zero, List.set_cons_succ])
        refine anyE_fork2 4 5 (by kernel_rfl) rfl rfl (fun K hK => ?_) (fun K hK => ?_)
        · go_simp
          obtain ⟨v2, hW, hEz, hs, hb⟩ := walk_new v1 (.slice none 0 0) (.slice none 0 0) (.slice none 0 0)
          rw [hW]
          have HG7 := Lib.hid hb
          have HZ2 : Hid (v2.heap.size = v1.heap.size + 1) := hs
          have hH2 := And.intro (block_ext hHeld.1 hEz) (And.intro (block_ext hHeld.2.1 hEz) (Lib.hid (Ext.trans hHeld.2.2.out hEz)))
          have X1 := Lib.hid (X1.out.trans hEz)
          have X2 := Lib.hid (X2.out.trans hEz)
          refine hK.out _ _ hH2 (fun hHeld => ?_)
          clear hW hEz hs hb
          clear hK K hH2
          (try simp only [Act.put, List.setIfInBounds_toArray, List.set_cons_zero, List.set_cons_succ])
          refine anyE_step 5 (by kernel_rfl) rfl (fun K hK => ?_)
          go_simp
          obtain ⟨v3, hW, hEz, hs, hb⟩ := walk_new v2 (.slice none 0 0) (.slice none 0 0) (.slice none 0 0)
          rw [hW]
          have HG8 := Lib.hid hb
          have HZ3 : Hid (v3.heap.size = v2.heap.size + 1) := hs
          have hH2 := And.intro (block_ext hHeld.1 hEz) (And.intro (block_ext hHeld.2.1 hEz) (Lib.hid (Ext.trans hHeld.2.2.out hEz)))
          have X1 := Lib.hid (X1.out.trans hEz)
          have X2 := Lib.hid (X2.out.trans hEz)
          have HG7 := Lib.hid (block_ext HG7.out hEz)
          refine hK.out _ _ hH2 (fun hHeld => ?_)
          clear hW hEz hs hb
          clear hK K hH2
          (try simp only [Act.put, List.setIfInBounds_toArray, List.set_cons_zero, List.set_cons_succ])
          have hz := HZd.out; have hz0 := HZ0.out; have hz1 := HZ1.out; have hz2 := HZ2.out; have hz3 := HZ3.out
          have hne : v1.heap.size ≠ v2.heap.size := by omega
          obtain ⟨T1, T2, te, tb7, tb8, to1, to2, tq1, tq2⟩ := two_boxes HO1.out X1.out HO2.out X2.out hHeld.2.2.out HG7.out HG8.out hne (by omega) (by omega) (by omega) (by omega) (by omega) (by omega) (by omega) _ rfl
          have hTE := Lib.hid te; have hT7 := Lib.hid tb7; have hT8 := Lib.hid tb8; have hO1 := Lib.hid to1; have hO2 := Lib.hid to2; have hQ1 := Lib.hid tq1; have hQ2 := Lib.hid tq2
          have hB2 : Hid (w1.heap.size ≤ v0.heap.size) := (by unfold Hid; omega)
          have kc70 := block_cell HG7.out 0; have kf70 := block_free HG7.out 0; have kc80 := block_cell HG8.out 0; have kf80 := block_free HG8.out 0
          have kc71 := block_cell HG7.out 1; have kf71 := block_free HG7.out 1; have kc81 := block_cell HG8.out 1; have kf81 := block_free HG8.out 1
          have kc72 := block_cell HG7.out 2; have kf72 := block_free HG7.out 2; have kc82 := block_cell HG8.out 2; have kf82 := block_free HG8.out 2
          simp only [List.getElem?_toArray, List.getElem?_cons_zero, List.getElem?_cons_succ] at kc70 kc71 kc72 kc80 kc81 kc82
          clear hz hz0 hz1 hz2 hz3 te tb7 tb8 to1 to2 tq1 tq2
          refine anyE_stepZ 6 (by kernel_rfl) (by kernel_rfl) rfl (fun K hK => ?_)
          go_simp
          refine hK.out _ _ ?_
          clear hK K
          (try simp only [Act.put, List.setIfInBounds_toArray, List.set_cons_zero, List.set_cons_succ])
          refine anyE_last 7 (by kernel_rfl) (by kernel_rfl) (by kernel_rfl) rfl (fun K hK => ?_)
          go_simp
          refine hK.out _ _ ?_
          clear hK K
          (try simp only [Act.put, List.setIfInBounds_toArray, List.set_cons_zero, List.set_cons_succ])
          go_wp2_with fail
          go_meet
          exact ⟨_, _, _, _, ap1, cp1, ac1, nc1, cc1, al1, nl1, cl1, ap2, cp2, ac2, nc2, cc2, al2, nl2, cl2, k1, k2, T1, T2, u1, u2, rfl, rfl, hTE, hT7, hT8, hO1, hO2, HK1, HK2, ⟨HN1.out, HM1l.out, HN2.out, HM2l.out⟩, hB2, hQ1, hQ2⟩
        · go_simp
          obtain ⟨v2, hW, hEz, hs, hb⟩ := walk_new v1 (.slice none 0 0) (.slice none 0 0) (.slice none 0 0)
          rw [hW]
          have HG8 := Lib.hid hb
          have HZ2 : Hid (v2.heap.size = v1.heap.size + 1) := hs
          have hH2 := And.intro (block_ext hHeld.1 hEz) (And.intro (block_ext hHeld.2.1 hEz) (Lib.hid (Ext.trans hHeld.2.2.out hEz)))
          have X1 := Lib.hid (X1.out.trans hEz)
          have X2 := Lib.hid (X2.out.trans hEz)
          refine hK.out _ _ hH2 (fun hHeld => ?_)
          clear hW hEz hs hb
          clear hK K hH2
          (try simp only [Act.put, List.setIfInBounds_toArray, List.set_cons_zero, List.set_cons_succ])
          refine anyE_step 4 (by kernel_rfl) rfl (fun K hK => ?_)
          go_simp
          obtain ⟨v3, hW, hEz, hs, hb⟩ := walk_new v2 (.slice none 0 0) (.slice none 0 0) (.slice none 0 0)
          rw [hW]
          have HG7 := Lib.hid hb
          have HZ3 : Hid (v3.heap.size = v2.heap.size + 1) := hs
          have hH2 := And.intro (block_ext hHeld.1 hEz) (And.intro (block_ext hHeld.2.1 hEz) (Lib.hid (Ext.trans hHeld.2.2.out hEz)))
          have X1 := Lib.hid (X1.out.trans hEz)
          have X2 := Lib.hid (X2.out.trans hEz)
          have HG8 := Lib.hid (block_ext HG8.out hEz)
          refine hK.out _ _ hH2 (fun hHeld => ?_)
          clear hW hEz hs hb
          clear hK K hH2
          (try simp only [Act.put, List.setIfInBounds_toArray, List.set_cons_zero, List.set_cons_succ])
          have hz := HZd.out; have hz0 := HZ0.out; have hz1 := HZ1.out; have hz2 := HZ2.out; have hz3 := HZ3.out
          have hne : v2.heap.size ≠ v1.heap.size := by omega
          obtain ⟨T1, T2, te, tb7, tb8, to1, to2, tq1, tq2⟩ := two_boxes HO1.out X1.out HO2.out X2.out hHeld.2.2.out HG7.out HG8.out hne (by omega) (by omega) (by omega) (by omega) (by omega) (by omega) (by omega) _ rfl
          have hTE := Lib.hid te; have hT7 := Lib.hid tb7; have hT8 := Lib.hid tb8; have hO1 := Lib.hid to1; have hO2 := Lib.hid to2; have hQ1 := Lib.hid tq1; have hQ2 := Lib.hid tq2
          have hB2 : Hid (w1.heap.size ≤ v0.heap.size) := (by unfold Hid; omega)
          have kc70 := block_cell HG7.out 0; have kf70 := block_free HG7.out 0; have kc80 := block_cell HG8.out 0; have kf80 := block_free HG8.out 0
          have kc71 := block_cell HG7.out 1; have kf71 := block_free HG7.out 1; have kc81 := block_cell HG8.out 1; have kf81 := block_free HG8.out 1
          have kc72 := block_cell HG7.out 2; have kf72 := block_free HG7.out 2; have kc82 := block_cell HG8.out 2; have kf82 := block_free HG8.out 2
          simp only [List.getElem?_toArray, List.getElem?_cons_zero, List.getElem?_cons_succ] at kc70 kc71 kc72 kc80 kc81 kc82
          clear hz hz0 hz1 hz2 hz3 te tb7 tb8 to1 to2 tq1 tq2
          refine anyE_stepZ 6 (by kernel_rfl) (by kernel_rfl) rfl (fun K hK => ?_)
          go_simp
          refine hK.out _ _ ?_
          clear hK K
          (try simp only [Act.put, List.setIfInBounds_toArray, List.set_cons_zero, List.set_cons_succ])
          refine anyE_last 7 (by kernel_rfl) (by kernel_rfl) (by kernel_rfl) rfl (fun K hK => ?_)
          go_simp
          refine hK.out _ _ ?_
          clear hK K
          (try simp only [Act.put, List.setIfInBounds_toArray, List.set_cons_zero, List.set_cons_succ])
          go_wp2_with fail
          go_meet
          exact ⟨_, _, _, _, ap1, cp1, ac1, nc1, cc1, al1, nl1, cl1, ap2, cp2, ac2, nc2, cc2, al2, nl2, cl2, k1, k2, T1, T2, u1, u2, rfl, rfl, hTE, hT7, hT8, hO1, hO2, HK1, HK2, ⟨HN1.out, HM1l.out, HN2.out, HM2l.out⟩, hB2, hQ1, hQ2⟩
      · go_simp
        obtain ⟨v1, hW, hEz, hs, hb⟩ := walk_new v0 (.slice none 0 0) (.slice none 0 0) (.slice none 0 0)
        rw [hW]
        have HG7 := Lib.hid hb
        have HZ1 : Hid (v1.heap.size = v0.heap.size + 1) := hs
        have hH2 := And.intro (block_ext hHeld.1 hEz) (And.intro (block_ext hHeld.2.1 hEz) (Lib.hid (Ext.trans hHeld.2.2.out hEz)))
        have X1 := Lib.hid (X1.out.trans hEz)
        refine hK.out _ _ hH2 (fun hHeld => ?_)
        clear hW hEz hs hb
        clear hK K hH2
        (try simp only [Act.put, List.setIfInBounds_toArray, List.set_cons_zero, List.set_cons_succ])
        refine anyE_fork2 3 5 (by kernel_rfl) rfl rfl (fun K hK => ?_) (fun K hK => ?_)
        · go_simp
          (go_at_call 13; refine (HM2.out _ hHeld.2.2.out).mono ?_)
          rintro e v2 ⟨ap2, cp2, ac2, nc2, cc2, al2, nl2, cl2, k2, S2, u2, rfl, hEz, hO, hk, hn, hm⟩
          have HO2 := Lib.hid hO; have HK2 := Lib.hid hk; have HN2 := Lib.hid hn; have HM2l := Lib.hid hm; clear hn hm; have X2 : Hid (Ext v2 v2) := Ext.refl _
          have HZ2 : Hid (v1.heap.size ≤ v2.heap.size) := hEz.size
          have hH2 := And.intro (block_ext hHeld.1 hEz) (And.intro (block_ext hHeld.2.1 hEz) (Lib.hid (Ext.trans hHeld.2.2.out hEz)))
          have X1 := Lib.hid (X1.out.trans hEz)
          have HG7 := Lib.hid (block_ext HG7.out hEz)
          go_wp2_with fail
          refine hK.out _ _ hH2 (fun hHeld => ?_)
          clear hEz hO hk
          clear hK K hH2
          (try simp only [Act.put, List.setIfInBounds_toArray, List.set_cons_zero, List.set_cons_succ])
          refine anyE_step 5 (by kernel_rfl) rfl (fun K hK => ?_)
          go_simp
          obtain ⟨v3, hW, hEz, hs, hb⟩ := walk_new v2 (.slice none 0 0) (.slice none 0 0) (.slice none 0 0)
          rw [hW]
          have HG8 := Lib.hid hb
          have HZ3 : Hid (v3.heap.size = v2.heap.size + 1) := hs
          have hH2 := And.intro (block_ext hHeld.1 hEz) (And.intro (block_ext hHeld.2.1 hEz) (Lib.hid (Ext.trans hHeld.2.2.out hEz)))
          have X1 := Lib.hid (X1.out.trans hEz)
          have HG7 := Lib.hid (block_ext HG7.out hEz)
          have X2 := Lib.hid (X2.out.trans hEz)
          refine hK.out _ _ hH2 (fun hHeld => ?_)
          clear hW hEz hs hb
          clear hK K hH2
          (try simp only [Act.put, List.setIfInBounds_toArray, List.set_cons_zero, List.set_cons_succ])
          have hz := HZd.out; have hz0 := HZ0.out; have hz1 := HZ1.out; have hz2 := HZ2.out; have hz3 := HZ3.out
          have hne : v0.heap.size ≠ v2.heap.size := by omega
          obtain ⟨T1, T2, te, tb7, tb8, to1, to2, tq1, tq2⟩ := two_boxes HO1.out X1.out HO2.out X2.out hHeld.2.2.out HG7.out HG8.out hne (by omega) (by omega) (by omega) (by omega) (by omega) (by omega) (by omega) _ rfl
          have hTE := Lib.hid te; have hT7 := Lib.hid tb7; have hT8 := Lib.hid tb8; have hO1 := Lib.hid to1; have hO2 := Lib.hid to2; have hQ1 := Lib.hid tq1; have hQ2 := Lib.hid tq2
          have hB2 : Hid (w1.heap.size ≤ v1.heap.size) := (by unfold Hid; omega)
          have kc70 := block_cell HG7.out 0; have kf70 := block_free HG7.out 0; have kc80 := block_cell HG8.out 0; have kf80 := block_free HG8.out 0
          have kc71 := block_cell HG7.out 1; have kf71 := block_free HG7.out 1; have kc81 := block_cell HG8.out 1; have kf81 := block_free HG8.out 1
          have kc72 := block_cell HG7.out 2; have kf72 := block_free HG7.out 2; have kc82 := block_cell HG8.out 2; have kf82 := block_free HG8.out 2
          simp only [List.getElem?_toArray, List.getElem?_cons_zero, List.getElem?_cons_succ] at kc70 kc71 kc72 kc80 kc81 kc82
          clear hz hz0 hz1 hz2 hz3 te tb7 tb8 to1 to2 tq1 tq2
          refine anyE_stepZ 6 (by kernel_rfl) (by kernel_rfl) rfl (fun K hK => ?_)
          go_simp
          refine hK.out _ _ ?_
          clear hK K
          (try simp only [Act.put, List.setIfInBounds_toArray, List.set_cons_zero, List.set_cons_succ])
          refine anyE_last 7 (by kernel_rfl) (by kernel_rfl) (by kernel_rfl) rfl (fun K hK => ?_)
          go_simp
          refine hK.out _ _ ?_
          clear hK K
          (try simp only [Act.put, List.setIfInBounds_toArray, List.set_cons_zero, List.set_cons_succ])
          go_wp2_with fail
          go_meet
          exact ⟨_, _, _, _, ap1, cp1, ac1, nc1, cc1, al1, nl1, cl1, ap2, cp2, ac2, nc2, cc2, al2, nl2, cl2, k1, k2, T1, T2, u1, u2, rfl, rfl, hTE, hT7, hT8, hO1, hO2, HK1, HK2, ⟨HN1.out, HM1l.out, HN2.out, HM2l.out⟩, hB2, hQ1, hQ2⟩
        · go_simp
          obtain ⟨v2, hW, hEz, hs, hb⟩ := walk_new v1 (.slice none 0 0) (.slice none 0 0) (.slice none 0 0)
          rw [hW]
          have HG8 := Lib.hid hb
          have HZ2 : Hid (v2.heap.size = v1.heap.size + 1) := hs
          have hH2 := And.intro (block_ext hHeld.1 hEz) (And.intro (block_ext hHeld.2.1 hEz) (Lib.hid (Ext.trans hHeld.2.2.out hEz)))
          have X1 := Lib.hid (X1.out.trans hEz)
          have HG7 := Lib.hid (block_ext HG7.out hEz)
          refine hK.out _ _ hH2 (fun hHeld => ?_)
          clear hW hEz hs hb
          clear hK K hH2
          (try simp only [Act.put, List.setIfInBounds_toArray, List.set_cons_zero, List.set_cons_succ])
          refine anyE_step 3 (by kernel_rfl) rfl (fun K hK => ?_)
          go_simp
          (go_at_call 13; refine (HM2.out _ hHeld.2.2.out).mono ?_)
          rintro e v3 ⟨ap2, cp2, ac2, nc2, cc2, al2, nl2, cl2, k2, S2, u2, rfl, hEz, hO, hk, hn, hm⟩
          have HO2 := Lib.hid hO; have HK2 := Lib.hid hk; have HN2 := Lib.hid hn; have HM2l := Lib.hid hm; clear hn hm; have X2 : Hid (Ext v3 v3) := Ext.refl _
          have HZ3 : Hid (v2.heap.size ≤ v3.heap.size) := hEz.size
          have hH2 := And.intro (block_ext hHeld.1 hEz) (And.intro (block_ext hHeld.2.1 hEz) (Lib.hid (Ext.trans hHeld.2.2.out hEz)))
          have X1 := Lib.hid (X1.out.trans hEz)
          have HG7 := Lib.hid (block_ext HG7.out hEz)
          have HG8 := Lib.hid (block_ext HG8.out hEz)
          go_wp2_with fail
          refine hK.out _ _ hH2 (fun hHeld => ?_)
          clear hEz hO hk
          clear hK K hH2
          (try simp only [Act.put, List.setIfInBounds_toArray, List.set_cons_zero, List.set_cons_succ])
          have hz := HZd.out; have hz0 := HZ0.out; have hz1 := HZ1.out; have hz2 := HZ2.out; have hz3 := HZ3.out
          have hne : v0.heap.size ≠ v1.heap.size := by omega
          obtain ⟨T1, T2, te, tb7, tb8, to1, to2, tq1, tq2⟩ := two_boxes HO1.out X1.out HO2.out X2.out hHeld.2.2.out HG7.out HG8.out hne (by omega) (by omega) (by omega) (by omega) (by omega) (by omega) (by omega) _ rfl
          have hTE := Lib.hid te; have hT7 := Lib.hid tb7; have hT8 := Lib.hid tb8; have hO1 := Lib.hid to1; have hO2 := Lib.hid to2; have hQ1 := Lib.hid tq1; have hQ2 := Lib.hid tq2
          have hB2 : Hid (w1.heap.size ≤ v2.heap.size) := (by unfold Hid; omega)
          have kc70 := block_cell HG7.out 0; have kf70 := block_free HG7.out 0; have kc80 := block_cell HG8.out 0; have kf80 := block_free HG8.out 0
          have kc71 := block_cell HG7.out 1; have kf71 := block_free HG7.out 1; have kc81 := block_cell HG8.out 1; have kf81 := block_free HG8.out 1
          have kc72 := block_cell HG7.out 2; have kf72 := block_free HG7.out 2; have kc82 := block_cell HG8.out 2; have kf82 := block_free HG8.out 2
          simp only [List.getElem?_toArray, List.getElem?_cons_zero, List.getElem?_cons_succ] at kc70 kc71 kc72 kc80 kc81 kc82
          clear hz hz0 hz1 hz2 hz3 te tb7 tb8 to1 to2 tq1 tq2
          refine anyE_stepZ 6 (by kernel_rfl) (by kernel_rfl) rfl (fun K hK => ?_)
          go_simp
          refine hK.out _ _ ?_
          clear hK K
          (try simp only [Act.put, List.setIfInBounds_toArray, List.set_cons_zero, List.set_cons_succ])
          refine anyE_last 7 (by kernel_rfl) (by kernel_rfl) (by kernel_rfl) rfl (fun K hK => ?_)
          go_simp
          refine hK.out _ _ ?_
          clear hK K
          (try simp only [Act.put, List.setIfInBounds_toArray, List.set_cons_zero, List.set_cons_succ])
          go_wp2_with fail
          go_meet
          exact ⟨_, _, _, _, ap1, cp1, ac1, nc1, cc1, al1, nl1, cl1, ap2, cp2, ac2, nc2, cc2, al2, nl2, cl2, k1, k2, T1, T2, u1, u2, rfl, rfl, hTE, hT7, hT8, hO1, hO2, HK1, HK2, ⟨HN1.out, HM1l.out, HN2.out, HM2l.out⟩, hB2, hQ1, hQ2⟩
      · go_simp
        obtain ⟨v1, hW, hEz, hs, hb⟩ := walk_new v0 (.slice none 0 0) (.slice none 0 0) (.slice none 0 0)
        rw [hW]
        have HG8 := Lib.hid hb
        have HZ1 : Hid (v1.heap.size = v0.heap.size + 1) := hs
        have hH2 := And.intro (block_ext hHeld.1 hEz) (And.intro (block_ext hHeld.2.1 hEz) (Lib.hid (Ext.trans hHeld.2.2.out hEz)))
        have X1 := Lib.hid (X1.out.trans hEz)
        refine hK.out _ _ hH2 (fun hHeld => ?_)
        clear hW hEz hs hb
        clear hK K hH2
        (try simp only [Act.put, List.setIfInBounds_toArray, List.set_cons_zero, List.set_cons_succ])
        refine anyE_fork2 3 4 (by kernel_rfl) rfl rfl (fun K hK => ?_) (fun K hK => ?_)
        · go_simp
          (go_at_call 13; refine (HM2.out _ hHeld.2.2.out).mono ?_)
          rintro e v2 ⟨ap2, cp2, ac2, nc2, cc2, al2, nl2, cl2, k2, S2, u2, rfl, hEz, hO, hk, hn, hm⟩
          have HO2 := Lib.hid hO; have HK2 := Lib.hid hk; have HN2 := Lib.hid hn; have HM2l := Lib.hid hm; clear hn hm; have X2 : Hid (Ext v2 v2) := Ext.refl _
          have HZ2 : Hid (v1.heap.size ≤ v2.heap.size) := hEz.size
          have hH2 := And.intro (block_ext hHeld.1 hEz) (And.intro (block_ext hHeld.2.1 hEz) (Lib.hid (Ext.trans hHeld.2.2.out hEz)))
          have X1 := Lib.hid (X1.out.trans hEz)
          have HG8 := Lib.hid (block_ext HG8.out hEz)
          go_wp2_with fail
          refine hK.out _ _ hH2 (fun hHeld => ?_)
          clear hEz hO hk
          clear hK K hH2
          (try simp only [Act.put, List.setIfInBounds_toArray, List.set_cons_zero, List.set_cons_succ])
          refine anyE_step 4 (by kernel_rfl) rfl (fun K hK => ?_)
          go_simp
          obtain ⟨v3, hW, hEz, hs, hb⟩ := walk_new v2 (.slice none 0 0) (.slice none 0 0) (.slice none 0 0)
          rw [hW]
          have HG7 := Lib.hid hb
          have HZ3 : Hid (v3.heap.size = v2.heap.size + 1) := hs
          have hH2 := And.intro (block_ext hHeld.1 hEz) (And.intro (block_ext hHeld.2.1 hEz) (Lib.hid (Ext.trans hHeld.2.2.out hEz)))
          have X1 := Lib.hid (X1.out.trans hEz)
          have HG8 := Lib.hid (block_ext HG8.out hEz)
          have X2 := Lib.hid (X2.out.trans hEz)
          refine hK.out _ _ hH2 (fun hHeld => ?_)
          clear hW hEz hs hb
          clear hK K hH2
          (try simp only [Act.put, List.setIfInBounds_toArray, List.set_cons_zero, List.set_cons_succ])
          have hz := HZd.out; have hz0 := HZ0.out; have hz1 := HZ1.out; have hz2 := HZ2.out; have hz3 := HZ3.out
          have hne : v2.heap.size ≠ v0.heap.size := by omega
          obtain ⟨T1, T2, te, tb7, tb8, to1, to2, tq1, tq2⟩ := two_boxes HO1.out X1.out HO2.out X2.out hHeld.2.2.out HG7.out HG8.out hne (by omega) (by omega) (by omega) (by omega) (by omega) (by omega) (by omega) _ rfl
          have hTE := Lib.hid te; have hT7 := Lib.hid tb7; have hT8 := Lib.hid tb8; have hO1 := Lib.hid to1; have hO2 := Lib.hid to2; have hQ1 := Lib.hid tq1; have hQ2 := Lib.hid tq2
          have hB2 : Hid (w1.heap.size ≤ v1.heap.size) := (by unfold Hid; omega)
          have kc70 := block_cell HG7.out 0; have kf70 := block_free HG7.out 0; have kc80 := block_cell HG8.out 0; have kf80 := block_free HG8.out 0
          have kc71 := block_cell HG7.out 1; have kf71 := block_free HG7.out 1; have kc81 := block_cell HG8.out 1; have kf81 := block_free HG8.out 1
          have kc72 := block_cell HG7.out 2; have kf72 := block_free HG7.out 2; have kc82 := block_cell HG8.out 2; have kf82 := block_free HG8.out 2
          simp only [List.getElem?_toArray, List.getElem?_cons_zero, List.getElem?_cons_succ] at kc70 kc71 kc72 kc80 kc81 kc82
          clear hz hz0 hz1 hz2 hz3 te tb7 tb8 to1 to2 tq1 tq2
          refine anyE_stepZ 6 (by kernel_rfl) (by kernel_rfl) rfl (fun K hK => ?_)
          go_simp
          refine hK.out _ _ ?_
          clear hK K
          (try simp only [Act.put, List.setIfInBounds_toArray, List.set_cons_zero, List.set_cons_succ])
          refine anyE_last 7 (by kernel_rfl) (by kernel_rfl) (by kernel_rfl) rfl (fun K hK => ?_)
          go_simp
          refine hK.out _ _ ?_
          clear hK K
          (try simp only [Act.put, List.setIfInBounds_toArray, List.set_cons_zero, List.set_cons_succ])
          go_wp2_with fail
          go_meet
          exact ⟨_, _, _, _, ap1, cp1, ac1, nc1, cc1, al1, nl1, cl1, ap2, cp2, ac2, nc2, cc2, al2, nl2, cl2, k1, k2, T1, T2, u1, u2, rfl, rfl, hTE, hT7, hT8, hO1, hO2, HK1, HK2, ⟨HN1.out, HM1l.out, HN2.out, HM2l.out⟩, hB2, hQ1, hQ2⟩
        · go_simp
          obtain ⟨v2, hW, hEz, hs, hb⟩ := walk_new v1 (.slice none 0 0) (.slice none 0 0) (.slice none 0 0)
          rw [hW]
          have HG7 := Lib.hid hb
          have HZ2 : Hid (v2.heap.size = v1.heap.size + 1) := hs
          have hH2 := And.intro (block_ext hHeld.1 hEz) (And.intro (block_ext hHeld.2.1 hEz) (Lib.hid (Ext.trans hHeld.2.2.out hEz)))
          have X1 := Lib.hid (X1.out.trans hEz)
          have HG8 := Lib.hid (block_ext HG8.out hEz)
          refine hK.out _ _ hH2 (fun hHeld => ?_)
          clear hW hEz hs hb
          clear hK K hH2
          (try simp only [Act.put, List.setIfInBounds_toArray, List.set_cons_zero, List.set_cons_succ])
          refine anyE_step 3 (by kernel_rfl) rfl (fun K hK => ?_)
          go_simp
          (go_at_call 13; refine (HM2.out _ hHeld.2.2.out).mono ?_)
          rintro e v3 ⟨ap2, cp2, ac2, nc2, cc2, al2, nl2, cl2, k2, S2, u2, rfl, hEz, hO, hk, hn, hm⟩
          have HO2 := Lib.hid hO; have HK2 := Lib.hid hk; have HN2 := Lib.hid hn; have HM2l := Lib.hid hm; clear hn hm; have X2 : Hid (Ext v3 v3) := Ext.refl _
          have HZ3 : Hid (v2.heap.size ≤ v3.heap.size) := hEz.size
          have hH2 := And.intro (block_ext hHeld.1 hEz) (And.intro (block_ext hHeld.2.1 hEz) (Lib.hid (Ext.trans hHeld.2.2.out hEz)))
          have X1 := Lib.hid (X1.out.trans hEz)
          have HG8 := Lib.hid (block_ext HG8.out hEz)
          have HG7 := Lib.hid (block_ext HG7.out hEz)
          go_wp2_with fail
          refine hK.out _ _ hH2 (fun hHeld => ?_)
          clear hEz hO hk
          clear hK K hH2
          (try simp only [Act.put, List.setIfInBounds_toArray, List.set_cons_zero, List.set_cons_succ])
          have hz := HZd.out; have hz0 := HZ0.out; have hz1 := HZ1.out; have hz2 := HZ2.out; have hz3 := HZ3.out
          have hne : v1.heap.size ≠ v0.heap.size := by omega
          obtain ⟨T1, T2, te, tb7, tb8, to1, to2, tq1, tq2⟩ := two_boxes HO1.out X1.out HO2.out X2.out hHeld.2.2.out HG7.out HG8.out hne (by omega) (by omega) (by omega) (by omega) (by omega) (by omega) (by omega) _ rfl
          have hTE := Lib.hid te; have hT7 := Lib.hid tb7; have hT8 := Lib.hid tb8; have hO1 := Lib.hid to1; have hO2 := Lib.hid to2; have hQ1 := Lib.hid tq1; have hQ2 := Lib.hid tq2
          have hB2 : Hid (w1.heap.size ≤ v2.heap.size) := (by unfold Hid; omega)
          have kc70 := block_cell HG7.out 0; have kf70 := block_free HG7.out 0; have kc80 := block_cell HG8.out 0; have kf80 := block_free HG8.out 0
          have kc71 := block_cell HG7.out 1; have kf71 := block_free HG7.out 1; have kc81 := block_cell HG8.out 1; have kf81 := block_free HG8.out 1
          have kc72 := block_cell HG7.out 2; have kf72 := block_free HG7.out 2; have kc82 := block_cell HG8.out 2; have kf82 := block_free HG8.out 2
          simp only [List.getElem?_toArray, List.getElem?_cons_zero, List.getElem?_cons_succ] at kc70 kc71 kc72 kc80 kc81 kc82
          clear hz hz0 hz1 hz2 hz3 te tb7 tb8 to1 to2 tq1 tq2
          refine anyE_stepZ 6 (by kernel_rfl) (by kernel_rfl) rfl (fun K hK => ?_)
          go_simp
          refine hK.out _ _ ?_
          clear hK K
          (try simp only [Act.put, List.setIfInBounds_toArray, List.set_cons_zero, List.set_cons_succ])
          refine anyE_last 7 (by kernel_rfl) (by kernel_rfl) (by kernel_rfl) rfl (fun K hK => ?_)
          go_simp
          refine hK.out _ _ ?_
          clear hK K
          (try simp only [Act.put, List.setIfInBounds_toArray, List.set_cons_zero, List.set_cons_succ])
          go_wp2_with fail
          go_meet
          exact ⟨_, _, _, _, ap1, cp1, ac1, nc1, cc1, al1, nl1, cl1, ap2, cp2, ac2, nc2, cc2, al2, nl2, cl2, k1, k2, T1, T2, u1, u2, rfl, rfl, hTE, hT7, hT8, hO1, hO2, HK1, HK2, ⟨HN1.out, HM1l.out, HN2.out, HM2l.out⟩, hB2, hQ1, hQ2⟩
    · go_simp
      obtain ⟨v0, hW, hEz, hs, hb⟩ := walk_new wd (.slice none 0 0) (.slice none 0 0) (.slice none 0 0)
      rw [hW]
      have HG7 := Lib.hid hb
      have HZ0 : Hid (v0.heap.size = wd.heap.size + 1) := hs
      have hH2 := And.intro (block_ext hHeld.1 hEz) (And.intro (block_ext hHeld.2.1 hEz) (Lib.hid (Ext.trans hHeld.2.2.out hEz)))
      refine hK.out _ _ hH2 (fun hHeld => ?_)
      clear hW hEz hs hb
      clear hK K hH2
      (try simp only [Act.put, List.setIfInBounds_toArray, List.set_cons_zero, List.set_cons_succ])
      refine anyE_fork2 1 5 (by kernel_rfl) rfl rfl (fun K hK => ?_) (fun K hK => ?_)
      · go_simp
        (go_at_call 13; refine (HM1.out _ hHeld.2.2.out).mono ?_)
        rintro e v1 ⟨ap1, cp1, ac1, nc1, cc1, al1, nl1, cl1, k1, S1, u1, rfl, hEz, hO, hk, hn, hm⟩
        have HO1 := Lib.hid hO; have HK1 := Lib.hid hk; have HN1 := Lib.hid hn; have HM1l := Lib.hid hm; clear hn hm; have X1 : Hid (Ext v1 v1) := Ext.refl _
        have HZ1 : Hid (v0.heap.size ≤ v1.heap.size) := hEz.size
        have hH2 := And.intro (block_ext hHeld.1 hEz) (And.intro (block_ext hHeld.2.1 hEz) (Lib.hid (Ext.trans hHeld.2.2.out hEz)))
        have HG7 := Lib.hid (block_ext HG7.out hEz)
        go_wp2_with fail
        refine hK.out _ _ hH2 (fun hHeld => ?_)
        clear hEz hO hk
        clear hK K hH2
        (try simp only [Act.put, List.setIfInBounds_toArray, List.set_cons_zero, List.set_cons_succ])
        refine anyE_fork2 3 5 (by kernel_rfl) rfl rfl (fun K hK => ?_) (fun K hK => ?_)
        · go_simp
          (go_at_call 13; refine (HM2.out _ hHeld.2.2.out).mono ?_)
          rintro e v2 ⟨ap2, cp2, ac2, nc2, cc2, al2, nl2, cl2, k2, S2, u2, rfl, hEz, hO, hk, hn, hm⟩
          have HO2 := Lib.hid hO; have HK2 := Lib.hid hk; have HN2 := Lib.hid hn; have HM2l := Lib.hid hm; clear hn hm; have X2 : Hid (Ext v2 v2) := Ext.refl _
          have HZ2 : Hid (v1.heap.size ≤ v2.heap.size) := hEz.size
          have hH2 := And.intro (block_ext hHeld.1 hEz) (And.intro (block_ext hHeld.2.1 hEz) (Lib.hid (Ext.trans hHeld.2.2.out hEz)))
          have HG7 := Lib.hid (block_ext HG7.out hEz)
          have X1 := Lib.hid (X1.out.trans hEz)
          go_wp2_with fail
          refine hK.out _ _ hH2 (fun hHeld => ?_)
          clear hEz hO hk
          clear hK K hH2
          (try simp only [Act.put, List.setIfInBounds_toArray, List.set_cons_zero, List.set_cons_succ])
          refine anyE_step 5 (by kernel_rfl) rfl (fun K hK => ?_)
          go_simp
          obtain ⟨v3, hW, hEz, hs, hb⟩ := walk_new v2 (.slice none 0 0) (.slice none 0 0) (.slice none 0 0)
          rw [hW]
          have HG8 := Lib.hid hb
          have HZ3 : Hid (v3.heap.size = v2.heap.size + 1) := hs
          have hH2 := And.intro (block_ext hHeld.1 hEz) (And.intro (block_ext hHeld.2.1 hEz) (Lib.hid (Ext.trans hHeld.2.2.out hEz)))
          have HG7 := Lib.hid (block_ext HG7.out hEz)
          have X1 := Lib.hid (X1.out.trans hEz)
          have X2 := Lib.hid (X2.out.trans hEz)
          refine hK.out _ _ hH2 (fun hHeld => ?_)
          clear hW hEz hs hb
          clear hK K hH2
          (try simp only [Act.put, List.setIfInBounds_toArray, List.set_cons_zero, List.set_cons_succ])
          have hz := HZd.out; have hz0 := HZ0.out; have hz1 := HZ1.out; have hz2 := HZ2.out; have hz3 := HZ3.out
          have hne : wd.heap.size ≠ v2.heap.size := by omega
          obtain ⟨T1, T2, te, tb7, tb8, to1, to2, tq1, tq2⟩ := two_boxes HO1.out X1.out HO2.out X2.out hHeld.2.2.out HG7.out HG8.out hne (by omega) (by omega) (by omega) (by omega) (by omega) (by omega) (by omega) _ rfl
          have hTE := Lib.hid te; have hT7 := Lib.hid tb7; have hT8 := Lib.hid tb8; have hO1 := Lib.hid to1; have hO2 := Lib.hid to2; have hQ1 := Lib.hid tq1; have hQ2 := Lib.hid tq2
          have hB2 : Hid (w1.heap.size ≤ v1.heap.size) := (by unfold Hid; omega)
          have kc70 := block_cell HG7.out 0; have kf70 := block_free HG7.out 0; have kc80 := block_cell HG8.out 0; have kf80 := block_free HG8.out 0
          have kc71 := block_cell HG7.out 1; have kf71 := block_free HG7.out 1; have kc81 := block_cell HG8.out 1; have kf81 := block_free HG8.out 1
          have kc72 := block_cell HG7.out 2; have kf72 := block_free HG7.out 2; have kc82 := block_cell HG8.out 2; have kf82 := block_free HG8.out 2
          simp only [List.getElem?_toArray, List.getElem?_cons_zero, List.getElem?_cons_succ] at kc70 kc71 kc72 kc80 kc81 kc82
          clear hz hz0 hz1 hz2 hz3 te tb7 tb8 to1 to2 tq1 tq2
          refine anyE_stepZ 6 (by kernel_rfl) (by kernel_rfl) rfl (fun K hK => ?_)
          go_simp
          refine hK.out _ _ ?_
          clear hK K
          (try simp only [Act.put, List.setIfInBounds_toArray, List.set_cons_zero, List.set_cons_succ])
          refine anyE_last 7 (by kernel_rfl) (by kernel_rfl) (by kernel_rfl) rfl (fun K hK => ?_)
          go_simp
          refine hK.out _ _ ?_
          clear hK K
          (try simp only [Act.put, List.setIfInBounds_toArray, List.set_cons_zero, List.set_cons_succ])
          go_wp2_with fail
          go_meet
          exact ⟨_, _, _, _, ap1, cp1, ac1, nc1, cc1, al1, nl1, cl1, ap2, cp2, ac2, nc2, cc2, al2, nl2, cl2, k1, k2, T1, T2, u1, u2, rfl, rfl, hTE, hT7, hT8, hO1, hO2, HK1, HK2, ⟨HN1.out, HM1l.out, HN2.out, HM2l.out⟩, hB2, hQ1, hQ2⟩
        · go_simp
          obtain ⟨v2, hW, hEz, hs, hb⟩ := walk_new v1 (.slice none 0 0) (.slice none 0 0) (.slice none 0 0)
          rw [hW]
          have HG8 := Lib.hid hb
          have HZ2 : Hid (v2.heap.size = v1.heap.size + 1) := hs
          have hH2 := And.intro (block_ext hHeld.1 hEz) (And.intro (block_ext hHeld.2.1 hEz) (Lib.hid (Ext.trans hHeld.2.2.out hEz)))
          have HG7 := Lib.hid (block_ext HG7.out hEz)
          have X1 := Lib.hid (X1.out.trans hEz)
          refine hK.out _ _ hH2 (fun hHeld => ?_)
          clear hW hEz hs hb
          clear hK K hH2
          (try simp only [Act.put, List.setIfInBounds_toArray, List.set_cons_zero, List.set_cons_succ])
          refine anyE_step 3 (by kernel_rfl) rfl (fun K hK => ?_)
          go_simp
          (go_at_call 13; refine (HM2.out _ hHeld.2.2.out).mono ?_)
          rintro e v3 ⟨ap2, cp2, ac2, nc2, cc2, al2, nl2, cl2, k2, S2, u2, rfl, hEz, hO, hk, hn, hm⟩
          have HO2 := Lib.hid hO; have HK2 := Lib.hid hk; have HN2 := Lib.hid hn; have HM2l := Lib.hid hm; clear hn hm; have X2 : Hid (Ext v3 v3) := Ext.refl _
          have HZ3 : Hid (v2.heap.size ≤ v3.heap.size) := hEz.size
          have hH2 := And.intro (block_ext hHeld.1 hEz) (And.intro (block_ext hHeld.2.1 hEz) (Lib.hid (Ext.trans hHeld.2.2.out hEz)))
          have HG7 := Lib.hid (block_ext HG7.out hEz)
          have X1 := Lib.hid (X1.out.trans hEz)
          have HG8 := Lib.hid (block_ext HG8.out hEz)
          go_wp2_with fail
          refine hK.out _ _ hH2 (fun hHeld => ?_)
          clear hEz hO hk
          clear hK K hH2
          (try simp only [Act.put, List.setIfInBounds_toArray, List.set_cons_zero, List.set_cons_succ])
          have hz := HZd.out; have hz0 := HZ0.out; have hz1 := HZ1.out; have hz2 := HZ2.out; have hz3 := HZ3.out
          have hne : wd.heap.size ≠ v1.heap.size := by omega
          obtain ⟨T1, T2, te, tb7, tb8, to1, to2, tq1, tq2⟩ := two_boxes HO1.out X1.out HO2.out X2.out hHeld.2.2.out HG7.out HG8.out hne (by omega) (by omega) (by omega) (by omega) (by omega) (by omega) (by omega) _ rfl
          have hTE := Lib.hid te; have hT7 := Lib.hid tb7; have hT8 := Lib.hid tb8; have hO1 := Lib.hid to1; have hO2 := Lib.hid to2; have hQ1 := Lib.hid tq1; have hQ2 := Lib.hid tq2
          have hB2 : Hid (w1.heap.size ≤ v2.heap.size) := (by unfold Hid; omega)
          have kc70 := block_cell HG7.out 0; have kf70 := block_free HG7.out 0; have kc80 := block_cell HG8.out 0; have kf80 := block_free HG8.out 0
          have kc71 := block_cell HG7.out 1; have kf71 := block_free HG7.out 1; have kc81 := block_cell HG8.out 1; have kf81 := block_free HG8.out 1
          have kc72 := block_cell HG7.out 2; have kf72 := block_free HG7.out 2; have kc82 := block_cell HG8.out 2; have kf82 := block_free HG8.out 2
          simp only [List.getElem?_toArray, List.getElem?_cons_zero, List.getElem?_cons_succ] at kc70 kc71 kc72 kc80 kc81 kc82
          clear hz hz0 hz1 hz2 hz3 te tb7 tb8 to1 to2 tq1 tq2
          refine anyE_stepZ 6 (by kernel_rfl) (by kernel_rfl) rfl (fun K hK => ?_)
          go_simp
          refine hK.out _ _ ?_
          clear hK K
          (try simp only [Act.put, List.setIfInBounds_toArray, List.set_cons_zero, List.set_cons_succ])
          refine anyE_last 7 (by kernel_rfl) (by kernel_rfl) (by kernel_rfl) rfl (fun K hK => ?_)
          go_simp
          refine hK.out _ _ ?_
          clear hK K
          (try simp only [Act.put, List.setIfInBounds_toArray, List.set_cons_zero, List.set_cons_succ])
          go_wp2_with fail
          go_meet
          exact ⟨_, _, _, _, ap1, cp1, ac1, nc1, cc1, al1, nl1, cl1, ap2, cp2, ac2, nc2, cc2, al2, nl2, cl2, k1, k2, T1, T2, u1, u2, rfl, rfl, hTE, hT7, hT8, hO1, hO2, HK1, HK2, ⟨HN1.out, HM1l.out, HN2.out, HM2l.out⟩, hB2, hQ1, hQ2⟩
      · go_simp
        obtain ⟨v1, hW, hEz, hs, hb⟩ := walk_new v0 (.slice none 0 0) (.slice none 0 0) (.slice none 0 0)
        rw [hW]
        have HG8 := Lib.hid hb
        have HZ1 : Hid (v1.heap.size = v0.heap.size + 1) := hs
        have hH2 := And.intro (block_ext hHeld.1 hEz) (And.intro (block_ext hHeld.2.1 hEz) (Lib.hid (Ext.trans hHeld.2.2.out hEz)))
        have HG7 := Lib.hid (block_ext HG7.out hEz)
        refine hK.out _ _ hH2 (fun hHeld => ?_)
        clear hW hEz hs hb
        clear hK K hH2
        (try simp only [Act.put, List.setIfInBounds_toArray, List.set_cons_zero, List.set_cons_succ])
        refine anyE_step 1 (by kernel_rfl) rfl (fun K hK => ?_)
        go_simp
        (go_at_call 13; refine (HM1.out _ hHeld.2.2.out).mono ?_)
        rintro e v2 ⟨ap1, cp1, ac1, nc1, cc1, al1, nl1, cl1, k1, S1, u1, rfl, hEz, hO, hk, hn, hm⟩
        have HO1 := Lib.hid hO; have HK1 := Lib.hid hk; have HN1 := Lib.hid hn; have HM1l := Lib.hid hm; clear hn hm; have X1 : Hid (Ext v2 v2) := Ext.refl _
        have HZ2 : Hid (v1.heap.size ≤ v2.heap.size) := hEz.size
        have hH2 := And.intro (block_ext hHeld.1 hEz) (And.intro (block_ext hHeld.2.1 hEz) (Lib.hid (Ext.trans hHeld.2.2.out hEz)))
        have HG7 := Lib.hid (block_ext HG7.out hEz)
        have HG8 := Lib.hid (block_ext HG8.out hEz)
        go_wp2_with fail
        refine hK.out _ _ hH2 (fun hHeld => ?_)
        clear hEz hO hk
        clear hK K hH2
        (try simp only [Act.put, List.setIfInBounds_toArray, List.set_cons_zero, List.set_cons_succ])
        refine anyE_step 3 (by kernel_rfl) rfl (fun K hK => ?_)
        go_simp
        (go_at_call 13; refine (HM2.out _ hHeld.2.2.out).mono ?_)
        rintro e v3 ⟨ap2, cp2, ac2, nc2, cc2, al2, nl2, cl2, k2, S2, u2, rfl, hEz, hO, hk, hn, hm⟩
        have HO2 := Lib.hid hO; have HK2 := Lib.hid hk; have HN2 := Lib.hid hn; have HM2l := Lib.hid hm; clear hn hm; have X2 : Hid (Ext v3 v3) := Ext.refl _
        have HZ3 : Hid (v2.heap.size ≤ v3.heap.size) := hEz.size
        have hH2 := And.intro (block_ext hHeld.1 hEz) (And.intro (block_ext hHeld.2.1 hEz) (Lib.hid (Ext.trans hHeld.2.2.out hEz)))
        have HG7 := Lib.hid (block_ext HG7.out hEz)
        have HG8 := Lib.hid (block_ext HG8.out hEz)
        have X1 := Lib.hid (X1.out.trans hEz)
        go_wp2_with fail
        refine hK.out _ _ hH2 (fun hHeld => ?_)
        clear hEz hO hk
        clear hK K hH2
        (try simp only [Act.put, List.setIfInBounds_toArray, List.set_cons_zero, List.set_cons_succ])
        have hz := HZd.out; have hz0 := HZ0.out; have hz1 := HZ1.out; have hz2 := HZ2.out; have hz3 := HZ3.out
        have hne : wd.heap.size ≠ v0.heap.size := by omega
        obtain ⟨T1, T2, te, tb7, tb8, to1, to2, tq1, tq2⟩ := two_boxes HO1.out X1.out HO2.out X2.out hHeld.2.2.out HG7.out HG8.out hne (by omega) (by omega) (by omega) (by omega) (by omega) (by omega) (by omega) _ rfl
        have hTE := Lib.hid te; have hT7 := Lib.hid tb7; have hT8 := Lib.hid tb8; have hO1 := Lib.hid to1; have hO2 := Lib.hid to2; have hQ1 := Lib.hid tq1; have hQ2 := Lib.hid tq2
        have hB2 : Hid (w1.heap.size ≤ v2.heap.size) := (by unfold Hid; omega)
        have kc70 := block_cell HG7.out 0; have kf70 := block_free HG7.out 0; have kc80 := block_cell HG8.out 0; have kf80 := block_free HG8.out 0
        have kc71 := block_cell HG7.out 1; have kf71 := block_free HG7.out 1; have kc81 := block_cell HG8.out 1; have kf81 := block_free HG8.out 1
        have kc72 := block_cell HG7.out 2; have kf72 := block_free HG7.out 2; have kc82 := block_cell HG8.out 2; have kf82 := block_free HG8.out 2
        simp only [List.getElem?_toArray, List.getElem?_cons_zero, List.getElem?_cons_succ] at kc70 kc71 kc72 kc80 kc81 kc82
        clear hz hz0 hz1 hz2 hz3 te tb7 tb8 to1 to2 tq1 tq2
        refine anyE_stepZ 6 (by kernel_rfl) (by kernel_rfl) rfl (fun K hK => ?_)
        go_simp
        refine hK.out _ _ ?_
        clear hK K
        (try simp only [Act.put, List.setIfInBounds_toArray, List.set_cons_zero, List.set_cons_succ])
        refine anyE_last 7 (by kernel_rfl) (by kernel_rfl) (by kernel_rfl) rfl (fun K hK => ?_)
        go_simp
        refine hK.out _ _ ?_
        clear hK K
        (try simp only [Act.put, List.setIfInBounds_toArray, List.set_cons_zero, List.set_cons_succ])
        go_wp2_with fail
        go_meet
        exact ⟨_, _, _, _, ap1, cp1, ac1, nc1, cc1, al1, nl1, cl1, ap2, cp2, ac2, nc2, cc2, al2, nl2, cl2, k1, k2, T1, T2, u1, u2, rfl, rfl, hTE, hT7, hT8, hO1, hO2, HK1, HK2, ⟨HN1.out, HM1l.out, HN2.out, HM2l.out⟩, hB2, hQ1, hQ2⟩
    · go_simp
      obtain ⟨v0, hW, hEz, hs, hb⟩ := walk_new wd (.slice none 0 0) (.slice none 0 0) (.slice none 0 0)
      rw [hW]
      have HG8 := Lib.hid hb
      have HZ0 : Hid (v0.heap.size = wd.heap.size + 1) := hs
      have hH2 := And.intro (block_ext hHeld.1 hEz) (And.intro (block_ext hHeld.2.1 hEz) (Lib.hid (Ext.trans hHeld.2.2.out hEz)))
      refine hK.out _ _ hH2 (fun hHeld => ?_)
      clear hW hEz hs hb
      clear hK K hH2
      (try simp only [Act.put, List.setIfInBounds_toArray, List.set_cons_zero, List.set_cons_succ])
      refine anyE_fork2 1 4 (by kernel_rfl) rfl rfl (fun K hK => ?_) (fun K hK => ?_)
      · go_simp
        (go_at_call 13; refine (HM1.out _ hHeld.2.2.out).mono ?_)
        rintro e v1 ⟨ap1, cp1, ac1, nc1, cc1, al1, nl1, cl1, k1, S1, u1, rfl, hEz, hO, hk, hn, hm⟩
        have HO1 := Lib.hid hO; have HK1 := Lib.hid hk; have HN1 := Lib.hid hn; have HM1l := Lib.hid hm; clear hn hm; have X1 : Hid (Ext v1 v1) := Ext.refl _
        have HZ1 : Hid (v0.heap.size ≤ v1.heap.size) := hEz.size
        have hH2 := And.intro (block_ext hHeld.1 hEz) (And.intro (block_ext hHeld.2.1 hEz) (Lib.hid (Ext.trans hHeld.2.2.out hEz)))
        have HG8 := Lib.hid (block_ext HG8.out hEz)
        go_wp2_with fail
        refine hK.out _ _ hH2 (fun hHeld => ?_)
        clear hEz hO hk
        clear hK K hH2
        (try simp only [Act.put, List.setIfInBounds_toArray, List.set_cons_zero, List.set_cons_succ])
        refine anyE_fork2 3 4 (by kernel_rfl) rfl rfl (fun K hK => ?_) (fun K hK => ?_)
        · go_simp
          (go_at_call 13; refine (HM2.out _ hHeld.2.2.out).mono ?_)
          rintro e v2 ⟨ap2, cp2, ac2, nc2, cc2, al2, nl2, cl2, k2, S2, u2, rfl, hEz, hO, hk, hn, hm⟩
          have HO2 := Lib.hid hO; have HK2 := Lib.hid hk; have HN2 := Lib.hid hn; have HM2l := Lib.hid hm; clear hn hm; have X2 : Hid (Ext v2 v2) := Ext.refl _
          have HZ2 : Hid (v1.heap.size ≤ v2.heap.size) := hEz.size
          have hH2 := And.intro (block_ext hHeld.1 hEz) (And.intro (block_ext hHeld.2.1 hEz) (Lib.hid (Ext.trans hHeld.2.2.out hEz)))
          have HG8 := Lib.hid (block_ext HG8.out hEz)
          have X1 := Lib.hid (X1.out.trans hEz)
          go_wp2_with fail
          refine hK.out _ _ hH2 (fun hHeld => ?_)
          clear hEz hO hk
          clear hK K hH2
          (try simp only [Act.put, List.setIfInBounds_toArray, List.set_cons_zero, List.set_cons_succ])
          refine anyE_step 4 (by kernel_rfl) rfl (fun K hK => ?_)
          go_simp
          obtain ⟨v3, hW, hEz, hs, hb⟩ := walk_new v2 (.slice none 0 0) (.slice none 0 0) (.slice none 0 0)
          rw [hW]
          have HG7 := Lib.hid hb
          have HZ3 : Hid (v3.heap.size = v2.heap.size + 1) := hs
          have hH2 := And.intro (block_ext hHeld.1 hEz) (And.intro (block_ext hHeld.2.1 hEz) (Lib.hid (Ext.trans hHeld.2.2.out hEz)))
          have HG8 := Lib.hid (block_ext HG8.out hEz)
          have X1 := Lib.hid (X1.out.trans hEz)
          have X2 := Lib.hid (X2.out.trans hEz)
          refine hK.out _ _ hH2 (fun hHeld => ?_)
          clear hW hEz hs hb
          clear hK K hH2
          (try simp only [Act.put, List.setIfInBounds_toArray, List.set_cons_zero, List.set_cons_succ])
          have hz := HZd.out; have hz0 := HZ0.out; have hz1 := HZ1.out; have hz2 := HZ2.out; have hz3 := HZ3.out
          have hne : v2.heap.size ≠ wd.heap.size := by omega
          obtain ⟨T1, T2, te, tb7, tb8, to1, to2, tq1, tq2⟩ := two_boxes HO1.out X1.out HO2.out X2.out hHeld.2.2.out HG7.out HG8.out hne (by omega) (by omega) (by omega) (by omega) (by omega) (by omega) (by omega) _ rfl
          have hTE := Lib.hid te; have hT7 := Lib.hid tb7; have hT8 := Lib.hid tb8; have hO1 := Lib.hid to1; have hO2 := Lib.hid to2; have hQ1 := Lib.hid tq1; have hQ2 := Lib.hid tq2
          have hB2 : Hid (w1.heap.size ≤ v1.heap.size) := (by unfold Hid; omega)
          have kc70 := block_cell HG7.out 0; have kf70 := block_free HG7.out 0; have kc80 := block_cell HG8.out 0; have kf80 := block_free HG8.out 0
          have kc71 := block_cell HG7.out 1; have kf71 := block_free HG7.out 1; have kc81 := block_cell HG8.out 1; have kf81 := block_free HG8.out 1
          have kc72 := block_cell HG7.out 2; have kf72 := block_free HG7.out 2; have kc82 := block_cell HG8.out 2; have kf82 := block_free HG8.out 2
          simp only [List.getElem?_toArray, List.getElem?_cons_zero, List.getElem?_cons_succ] at kc70 kc71 kc72 kc80 kc81 kc82
          clear hz hz0 hz1 hz2 hz3 te tb7 tb8 to1 to2 tq1 tq2
          refine anyE_stepZ 6 (by kernel_rfl) (by kernel_rfl) rfl (fun K hK => ?_)
          go_simp
          refine hK.out _ _ ?_
          clear hK K
          (try simp only [Act.put, List.setIfInBounds_toArray, List.set_cons_zero, List.set_cons_succ])
          refine anyE_last 7 (by kernel_rfl) (by kernel_rfl) (by kernel_rfl) rfl (fun K hK => ?_)
          go_simp
          refine hK.out _ _ ?_
          clear hK K
          (try simp only [Act.put, List.setIfInBounds_toArray, List.set_cons_zero, List.set_cons_succ])
          go_wp2_with fail
          go_meet
          exact ⟨_, _, _, _, ap1, cp1, ac1, nc1, cc1, al1, nl1, cl1, ap2, cp2, ac2, nc2, cc2, al2, nl2, cl2, k1, k2, T1, T2, u1, u2, rfl, rfl, hTE, hT7, hT8, hO1, hO2, HK1, HK2, ⟨HN1.out, HM1l.out, HN2.out, HM2l.out⟩, hB2, hQ1, hQ2⟩
        · go_simp
          obtain ⟨v2, hW, hEz, hs, hb⟩ := walk_new v1 (.slice none 0 0) (.slice none 0 0) (.slice none 0 0)
          rw [hW]
          have HG7 := Lib.hid hb
          have HZ2 : Hid (v2.heap.size = v1.heap.size + 1) := hs
          have hH2 := And.intro (block_ext hHeld.1 hEz) (And.intro (block_ext hHeld.2.1 hEz) (Lib.hid (Ext.trans hHeld.2.2.out hEz)))
          have HG8 := Lib.hid (block_ext HG8.out hEz)
          have X1 := Lib.hid (X1.out.trans hEz)
          refine hK.out _ _ hH2 (fun hHeld => ?_)
          clear hW hEz hs hb
          clear hK K hH2
          (try simp only [Act.put, List.setIfInBounds_toArray, List.set_cons_zero, List.set_cons_succ])
          refine anyE_step 3 (by kernel_rfl) rfl (fun K hK => ?_)
          go_simp
          (go_at_call 13; refine (HM2.out _ hHeld.2.2.out).mono ?_)
          rintro e v3 ⟨ap2, cp2, ac2, nc2, cc2, al2, nl2, cl2, k2, S2, u2, rfl, hEz, hO, hk, hn, hm⟩
          have HO2 := Lib.hid hO; have HK2 := Lib.hid hk; have HN2 := Lib.hid hn; have HM2l := Lib.hid hm; clear hn hm; have X2 : Hid (Ext v3 v3) := Ext.refl _
          have HZ3 : Hid (v2.heap.size ≤ v3.heap.size) := hEz.size
          have hH2 := And.intro (block_ext hHeld.1 hEz) (And.intro (block_ext hHeld.2.1 hEz) (Lib.hid (Ext.trans hHeld.2.2.out hEz)))
          have HG8 := Lib.hid (block_ext HG8.out hEz)
          have X1 := Lib.hid (X1.out.trans hEz)
          have HG7 := Lib.hid (block_ext HG7.out hEz)
          go_wp2_with fail
          refine hK.out _ _ hH2 (fun hHeld => ?_)
          clear hEz hO hk
          clear hK K hH2
          (try simp only [Act.put, List.setIfInBounds_toArray, List.set_cons_zero, List.set_cons_succ])
          have hz := HZd.out; have hz0 := HZ0.out; have hz1 := HZ1.out; have hz2 := HZ2.out; have hz3 := HZ3.out
          have hne : v1.heap.size ≠ wd.heap.size := by omega
          obtain ⟨T1, T2, te, tb7, tb8, to1, to2, tq1, tq2⟩ := two_boxes HO1.out X1.out HO2.out X2.out hHeld.2.2.out HG7.out HG8.out hne (by omega) (by omega) (by omega) (by omega) (by omega) (by omega) (by omega) _ rfl
          have hTE := Lib.hid te; have hT7 := Lib.hid tb7; have hT8 := Lib.hid tb8; have hO1 := Lib.hid to1; have hO2 := Lib.hid to2; have hQ1 := Lib.hid tq1; have hQ2 := Lib.hid tq2
          have hB2 : Hid (w1.heap.size ≤ v2.heap.size) := (by unfold Hid; omega)
          have kc70 := block_cell HG7.out 0; have kf70 := block_free HG7.out 0; have kc80 := block_cell HG8.out 0; have kf80 := block_free HG8.out 0
          have kc71 := block_cell HG7.out 1; have kf71 := block_free HG7.out 1; have kc81 := block_cell HG8.out 1; have kf81 := block_free HG8.out 1
          have kc72 := block_cell HG7.out 2; have kf72 := block_free HG7.out 2; have kc82 := block_cell HG8.out 2; have kf82 := block_free HG8.out 2
          simp only [List.getElem?_toArray, List.getElem?_cons_zero, List.getElem?_cons_succ] at kc70 kc71 kc72 kc80 kc81 kc82
          clear hz hz0 hz1 hz2 hz3 te tb7 tb8 to1 to2 tq1 tq2
          refine anyE_stepZ 6 (by kernel_rfl) (by kernel_rfl) rfl (fun K hK => ?_)
          go_simp
          refine hK.out _ _ ?_
          clear hK K
          (try simp only [Act.put, List.setIfInBounds_toArray, List.set_cons_zero, List.set_cons_succ])
          refine anyE_last 7 (by kernel_rfl) (by kernel_rfl) (by kernel_rfl) rfl (fun K hK => ?_)
          go_simp
          refine hK.out _ _ ?_
          clear hK K
          (try simp only [Act.put, List.setIfInBounds_toArray, List.set_cons_zero, List.set_cons_succ])
          go_wp2_with fail
          go_meet
          exact ⟨_, _, _, _, ap1, cp1, ac1, nc1, cc1, al1, nl1, cl1, ap2, cp2, ac2, nc2, cc2, al2, nl2, cl2, k1, k2, T1, T2, u1, u2, rfl, rfl, hTE, hT7, hT8, hO1, hO2, HK1, HK2, ⟨HN1.out, HM1l.out, HN2.out, HM2l.out⟩, hB2, hQ1, hQ2⟩
      · go_simp
        obtain ⟨v1, hW, hEz, hs, hb⟩ := walk_new v0 (.slice none 0 0) (.slice none 0 0) (.slice none 0 0)
        rw [hW]
        have HG7 := Lib.hid hb
        have HZ1 : Hid (v1.heap.size = v0.heap.size + 1) := hs
        have hH2 := And.intro (block_ext hHeld.1 hEz) (And.intro (block_ext hHeld.2.1 hEz) (Lib.hid (Ext.trans hHeld.2.2.out hEz)))
        have HG8 := Lib.hid (block_ext HG8.out hEz)
        refine hK.out _ _ hH2 (fun hHeld => ?_)
        clear hW hEz hs hb
        clear hK K hH2
        (try simp only [Act.put, List.setIfInBounds_toArray, List.set_cons_zero, List.set_cons_succ])
        refine anyE_step 1 (by kernel_rfl) rfl (fun K hK => ?_)
        go_simp
        (go_at_call 13; refine (HM1.out _ hHeld.2.2.out).mono ?_)
        rintro e v2 ⟨ap1, cp1, ac1, nc1, cc1, al1, nl1, cl1, k1, S1, u1, rfl, hEz, hO, hk, hn, hm⟩
        have HO1 := Lib.hid hO; have HK1 := Lib.hid hk; have HN1 := Lib.hid hn; have HM1l := Lib.hid hm; clear hn hm; have X1 : Hid (Ext v2 v2) := Ext.refl _
        have HZ2 : Hid (v1.heap.size ≤ v2.heap.size) := hEz.size
        have hH2 := And.intro (block_ext hHeld.1 hEz) (And.intro (block_ext hHeld.2.1 hEz) (Lib.hid (Ext.trans hHeld.2.2.out hEz)))
        have HG8 := Lib.hid (block_ext HG8.out hEz)
        have HG7 := Lib.hid (block_ext HG7.out hEz)
        go_wp2_with fail
        refine hK.out _ _ hH2 (fun hHeld => ?_)
        clear hEz hO hk
        clear hK K hH2
        (try simp only [Act.put, List.setIfInBounds_toArray, List.set_cons_zero, List.set_cons_succ])
        refine anyE_step 3 (by kernel_rfl) rfl (fun K hK => ?_)
        go_simp
        (go_at_call 13; refine (HM2.out _ hHeld.2.2.out).mono ?_)
        rintro e v3 ⟨ap2, cp2, ac2, nc2, cc2, al2, nl2, cl2, k2, S2, u2, rfl, hEz, hO, hk, hn, hm⟩
        have HO2 := Lib.hid hO; have HK2 := Lib.hid hk; have HN2 := Lib.hid hn; have HM2l := Lib.hid hm; clear hn hm; have X2 : Hid (Ext v3 v3) := Ext.refl _
        have HZ3 : Hid (v2.heap.size ≤ v3.heap.size) := hEz.size
        have hH2 := And.intro (block_ext hHeld.1 hEz) (And.intro (block_ext hHeld.2.1 hEz) (Lib.hid (Ext.trans hHeld.2.2.out hEz)))
        have HG8 := Lib.hid (block_ext HG8.out hEz)
        have HG7 := Lib.hid (block_ext HG7.out hEz)
        have X1 := Lib.hid (X1.out.trans hEz)
        go_wp2_with fail
        refine hK.out _ _ hH2 (fun hHeld => ?_)
        clear hEz hO hk
        clear hK K hH2
        (try simp only [Act.put, List.setIfInBounds_toArray, List.set_cons_zero, List.set_cons_succ])
        have hz := HZd.out; have hz0 := HZ0.out; have hz1 := HZ1.out; have hz2 := HZ2.out; have hz3 := HZ3.out
        have hne : v0.heap.size ≠ wd.heap.size := by omega
        obtain ⟨T1, T2, te, tb7, tb8, to1, to2, tq1, tq2⟩ := two_boxes HO1.out X1.out HO2.out X2.out hHeld.2.2.out HG7.out HG8.out hne (by omega) (by omega) (by omega) (by omega) (by omega) (by omega) (by omega) _ rfl
        have hTE := Lib.hid te; have hT7 := Lib.hid tb7; have hT8 := Lib.hid tb8; have hO1 := Lib.hid to1; have hO2 := Lib.hid to2; have hQ1 := Lib.hid tq1; have hQ2 := Lib.hid tq2
        have hB2 : Hid (w1.heap.size ≤ v2.heap.size) := (by unfold Hid; omega)
        have kc70 := block_cell HG7.out 0; have kf70 := block_free HG7.out 0; have kc80 := block_cell HG8.out 0; have kf80 := block_free HG8.out 0
        have kc71 := block_cell HG7.out 1; have kf71 := block_free HG7.out 1; have kc81 := block_cell HG8.out 1; have kf81 := block_free HG8.out 1
        have kc72 := block_cell HG7.out 2; have kf72 := block_free HG7.out 2; have kc82 := block_cell HG8.out 2; have kf82 := block_free HG8.out 2
        simp only [List.getElem?_toArray, List.getElem?_cons_zero, List.getElem?_cons_succ] at kc70 kc71 kc72 kc80 kc81 kc82
        clear hz hz0 hz1 hz2 hz3 te tb7 tb8 to1 to2 tq1 tq2
        refine anyE_stepZ 6 (by kernel_rfl) (by kernel_rfl) rfl (fun K hK => ?_)
        go_simp
        refine hK.out _ _ ?_
        clear hK K
        (try simp only [Act.put, List.setIfInBounds_toArray, List.set_cons_zero, List.set_cons_succ])
        refine anyE_last 7 (by kernel_rfl) (by kernel_rfl) (by kernel_rfl) rfl (fun K hK => ?_)
        go_simp
        refine hK.out _ _ ?_
        clear hK K
        (try simp only [Act.put, List.setIfInBounds_toArray, List.set_cons_zero, List.set_cons_succ])
        go_wp2_with fail
        go_meet
        exact ⟨_, _, _, _, ap1, cp1, ac1, nc1, cc1, al1, nl1, cl1, ap2, cp2, ac2, nc2, cc2, al2, nl2, cl2, k1, k2, T1, T2, u1, u2, rfl, rfl, hTE, hT7, hT8, hO1, hO2, HK1, HK2, ⟨HN1.out, HM1l.out, HN2.out, HM2l.out⟩, hB2, hQ1, hQ2⟩
    -->R3
  case rest =>
    obtain ⟨g7, g8, B1, B2, ap1, cp1, ac1, nc1, cc1, al1, nl1, cl1, ap2, cp2, ac2, nc2, cc2, al2, nl2, cl2, k1, k2, S1, S2, u1, u2, rfl, rfl, HE2, HG7, HG8, O1, O2, P1, P2, HN, HB2, HQ1, HQ2⟩ := hcut
    obtain ⟨w2, rfl⟩ : ∃ w2 : World, w2 = wc := ⟨_, rfl⟩
    obtain ⟨n, hn⟩ : ∃ n, k1.chords.length = n + 1 := ⟨k1.chords.length - 1, by have := P1.out.some; omega⟩
    obtain ⟨c, hc⟩ : ∃ c, k1.chords[n]? = some c := ⟨_, List.getElem?_eq_getElem (by omega)⟩
    have HPAIR := Lib.hid (Pair.of O1.out O2.out HQ1.out HQ2.out)
    obtain ⟨g1, cap1, hv, -, -, hm1, hm2⟩ := O1.out.chords.shape (by omega)
    simp only [Value.slice.injEq] at hv
    obtain ⟨rfl, rfl, rfl⟩ := hv
    obtain ⟨u, hul, hcell, hsafe⟩ := O1.out.chords.elem hc
    obtain ⟨z, rfl⟩ := List.length_eq_one_iff.1 hul
    have hz := (hcell 0 (by omega)).1
    rw [Nat.mul_one, Nat.add_zero, List.getElem?_cons_zero] at hz
    obtain ⟨_, hz1, hr⟩ := hsafe.now
    rw [List.cons.injEq] at hz1
    obtain ⟨rfl, -⟩ := hz1
    obtain ⟨au, cu, rfl, hu1, hu2, -, -⟩ := inCell.open hr
    have HZS := Lib.hid (hsafe.weak (S' := fun b => B2 ≤ b ∧ S2 b) (fun b hb => HQ1.out b hb.1 (O2.out.lt b hb.2)))
    have HC := Lib.hid hc
    obtain ⟨-, -, h3, h4⟩ := HN.out
    rw [hn] at HG7 HPAIR hm1
    clear hul hcell hsafe hr hc O1
    have c70 := block_cell HG7.out 0; have c71 := block_cell HG7.out 1; have c72 := block_cell HG7.out 2
    have c80 := block_cell HG8.out 0; have c81 := block_cell HG8.out 1; have c82 := block_cell HG8.out 2
    simp only [List.getElem?_toArray, List.getElem?_cons_zero, List.getElem?_cons_succ] at c70 c71 c72 c80 c81 c82
    have hn4 : n ≤ 4 := by have := P1.out.few; omega
    go_upto_if 35 with fail
    go_cut [] from 35 to 75 (fun wx => ∃ (k : Wk), Hid (Ext w1 wx) ∧ Hid (wx.heap[g7]? = some (.cells #[.slice ap1 3 cp1, .slice (some ⟨g1, 0, none⟩) (n + 1) cc1, .slice al1 nl1 cl1] 30 (0, 0))) ∧ Hid (wx.heap[g8]? = some (.cells #[.slice ap2 3 cp2, .slice ac2 nc2 cc2, .slice al2 nl2 cl2] 30 (0, 0))) ∧
        Hid (WalkAt wx (.agg #[.slice ap1 3 cp1, .slice (some ⟨g1, 0, none⟩) (n + 1) cc1, .slice al1 nl1 cl1]) k1) ∧ Hid (WalkAt wx (.agg #[.slice ap2 3 cp2, .slice ac2 nc2 cc2, .slice al2 nl2 cl2]) k) ∧ Hid (FewWk k) ∧ Hid (k.chords.length ≤ 5) ∧ Hid (Rows2 wx (.slice au c.length cu) c))
    case first =>
      cases alike with
      | false =>
        go_wp2_with fail
        go_meet
        exact ⟨k2, HE2, HG7, HG8, HPAIR.out.one.now, HPAIR.out.now, P2.out.fewWk, P2.out.few, chordR.rows HZS.out.now⟩
      | true =>
        have hk2 := P2.out.few
        have hk21 := P2.out.some
        obtain ⟨g2, cap2, hv, hgB, -, hq1, hq2⟩ := HPAIR.out.chords.shape (by omega)
        simp only [Value.slice.injEq] at hv
        obtain ⟨rfl, rfl, rfl⟩ := hv
        obtain ⟨u, hul, hcell, -⟩ := HPAIR.out.chords.elem (i := 0) (x := k2.chords[0]) (List.getElem?_eq_getElem (by omega))
        obtain ⟨z, rfl⟩ := List.length_eq_one_iff.1 hul
        obtain ⟨hz2, hz3⟩ := hcell 0 (by omega)
        rw [Nat.zero_mul, Nat.add_zero] at hz2 hz3
        rw [List.getElem?_cons_zero] at hz2
        have HP1 := Lib.hid (HPAIR.out.chord (by omega) (.slice au c.length cu) c HZS.out)
        have HG71 := Lib.hid (HPAIR.out.chordBox (.slice au c.length cu) HG7.out)
        have HG81 := Lib.hid (HPAIR.out.chordBox (.slice au c.length cu) HG8.out)
        have HE3 : Hid (Ext w1 (w2.setCell ⟨g2, 0, none⟩ (.slice au c.length cu))) := Below.setCell HE2.out (Nat.le_trans HB2.out hgB) _
        have HR3 : Hid (Rows2 (w2.setCell ⟨g2, 0, none⟩ (.slice au c.length cu)) (.slice au c.length cu) c) := chordR.rows (HZS.out _ (grownBy_S (grown_setCell _ _ _ _) (fun b hb => by cases hb; exact HPAIR.out.chords.1 g2 rfl)))
        have HZ3 : Hid (SafeS (w2.setCell ⟨g2, 0, none⟩ (.slice au c.length cu)) (fun b => B2 ≤ b ∧ S2 b) fun w' => chordR w' [.slice au c.length cu] c) := HZS.out.grow (grownBy_S (grown_setCell _ _ _ _) (fun b hb => by cases hb; exact HPAIR.out.chords.1 g2 rfl)) (fun k hk => .inl hk)
        have hkc : 0 < k2.chords.length := hk21
        have HCL := Lib.hid hk2
        clear hcell hul
        have HN2 := Lib.hid h4
        clear h3 h4
        go_upto_region 7 with fail
        generalize hW3 : w2.setCell ⟨g2, 0, none⟩ (.slice au c.length cu) = w3 at *
        clear hz2 hz3 c70 c71 c72 c80 c81 c82
        have c82 := block_cell HG81.out 2
        simp only [List.getElem?_toArray, List.getElem?_cons_zero, List.getElem?_cons_succ] at c82
        cases hL : k2.links with
        | nil =>
          have hn2 := HN2.out
          rw [hL] at hn2
          simp only [List.length_nil] at hn2
          subst hn2
          go_wp2_with fail
          go_loopw [48] (fun t wr => t = .int .i64 0 ∧ w3 = wr) (fun _ _ => 0)
          case atStart => exact ⟨rfl, rfl⟩
          case round =>
            obtain ⟨rfl, rfl⟩ := hrel
            go_wp2_with fail
            go_meet
            have e : alikeWk c k2 = ({ k2 with chords := k2.chords.set 0 c } : Wk) := by unfold alikeWk; rw [hL]
            exact ⟨alikeWk c k2, HE3, HG71, HG81, HP1.out.one.now, by rw [e]; exact HP1.out.now, few_alike P2.out.fewWk (P1.out.chords c (List.mem_of_getElem? HC.out)), by show (k2.chords.set 0 c).length ≤ 5; rw [List.length_set]; exact HCL.out, HR3.out⟩
        | cons l r =>
          have hn2 := HN2.out
          rw [hL] at hn2
          simp only [List.length_cons] at hn2
          subst hn2
          have hol : (opts k2.links).length = r.length + 1 := by rw [opts_len, hL]; rfl
          obtain ⟨g3, cap3, hv, -, -, hq3, hq4⟩ := HP1.out.links.shape (by show 0 < (opts k2.links).length; omega)
          rw [show (opts ({ k2 with chords := k2.chords.set 0 c } : Wk).links).length = r.length + 1 from hol] at hv hq3
          simp only [Value.slice.injEq] at hv
          obtain ⟨rfl, -, rfl⟩ := hv
          have hlen := P2.out.len
          rw [hL, List.length_cons] at hlen
          go_cut [47, 48] from 40 to 48 (fun s47 s48 wx => s47 = .int .i64 1 ∧ s48 = .int .i64 0 ∧ w3 = wx)
          case first =>
            go_wp2_with fail
            all_goals go_meet
            all_goals exact ⟨by simp; try omega, rfl, rfl⟩
          case rest =>
            obtain ⟨rfl, rfl, rfl⟩ := hcut
            go_wp2_with fail
            have hk0 : ({ k2 with chords := k2.chords.set 0 c } : Wk) = { primes := k2.primes, chords := k2.chords.set 0 c, links := l :: r } := by rw [← hL]
            rw [hk0] at HP1
            have HST : Hid (St w1 w3 w3 (fun b => B2 ≤ b ∧ S2 b) B2 g7 g8 #[.slice ap1 3 cp1, .slice (some ⟨g1, 0, none⟩) (n + 1) cc1, .slice al1 nl1 cl1] (.slice ap2 3 cp2) (.slice (some ⟨g2, 0, none⟩) k2.chords.length cc2) (.slice (some ⟨g3, 0, none⟩) (r.length + 1) cl2) u2 k1 { primes := k2.primes, chords := k2.chords.set 0 c, links := l :: r }) := ⟨HE3.out, GrownS.refl _ _, HG71.out, HG81.out, HP1.out⟩
            go_loopw [48] (fun t wr => (t = .int .i64 0 ∧ w3 = wr) ∨ (t = .int .i64 1 ∧ Hid (St w1 w3 wr (fun b => B2 ≤ b ∧ S2 b) B2 g7 g8 #[.slice ap1 3 cp1, .slice (some ⟨g1, 0, none⟩) (n + 1) cc1, .slice al1 nl1 cl1] (.slice ap2 3 cp2) (.slice (some ⟨g2, 0, none⟩) k2.chords.length cc2) (.slice (some ⟨g3, 0, none⟩) (r.length + 1) cl2) u2 k1 (alikeWk c k2)))) (fun t _ => 1 - (intOf t).toNat)
            case atStart => exact .inl ⟨rfl, rfl⟩
            case round =>
              rcases hrel with ⟨rfl, rfl⟩ | ⟨rfl, HF⟩
              · obtain ⟨hl1, hl2, cc, dd, hcc, hdd, hle⟩ := P2.out.links 0 l (by rw [hL]; rfl)
                obtain ⟨g4, cl4, rfl, -, -, hv1, hv2⟩ := BuildS.shape (show BuildS w3 _ B2 33 2 u2 linkR l from HP1.out.first) (by omega)
                obtain ⟨u, hul, hcell, hsafe⟩ := HP1.out.links.elem (i := 0) (x := none) rfl
                have hx := (hcell 0 (by omega)).1
                rw [show u = [.slice (some ⟨g4, 0, none⟩) l.length cl4] from hsafe.now, List.getElem?_cons_zero, Nat.zero_mul, Nat.add_zero] at hx
                clear hcell hsafe hul
                have hc3 := (P1.out.chords c (List.mem_of_getElem? HC.out))
                obtain ⟨hc31, hc32, -⟩ := hc3
                have HLE := Lib.hid hle
                have HCC : Hid (cc.length ≤ 3) := by have := (P2.out.chords cc (List.mem_of_getElem? hcc)).2.1; exact this
                clear hcc hdd hle
                go_wp2_with fail
                go_loopw [57] (fun t wr => ∃ j : Nat, j ≤ l.length ∧ t = .int .i64 j ∧ Hid (St w1 w3 wr (fun b => B2 ≤ b ∧ S2 b) B2 g7 g8 #[.slice ap1 3 cp1, .slice (some ⟨g1, 0, none⟩) (n + 1) cc1, .slice al1 nl1 cl1] (.slice ap2 3 cp2) (.slice (some ⟨g2, 0, none⟩) k2.chords.length cc2) (.slice (some ⟨g3, 0, none⟩) (r.length + 1) cl2) (.slice (some ⟨g4, 0, none⟩) l.length cl4) k1 { primes := k2.primes, chords := k2.chords.set 0 c, links := modTo c.length l j :: r })) (fun t _ => l.length - (intOf t).toNat)
                case atStart => exact ⟨0, by omega, rfl, HST.out⟩
                case round =>
                  obtain ⟨j, hj, rfl, HSJ⟩ := hrel
                  obtain ⟨wo, rfl⟩ : ∃ wo : World, wo = wr := ⟨_, rfl⟩
                  by_cases hlt : j < l.length
                  · obtain ⟨y, hy⟩ : ∃ y, l[j]? = some y := ⟨_, List.getElem?_eq_getElem hlt⟩
                    have d82 := block_cell HSJ.out.box8 2
                    simp only [List.getElem?_toArray, List.getElem?_cons_zero, List.getElem?_cons_succ] at d82
                    obtain ⟨u, hul, hcell, hsafe⟩ := HSJ.out.pair.links.elem (i := 0) (x := none) rfl
                    have hx := (hcell 0 (by omega)).1
                    rw [show u = [.slice (some ⟨g4, 0, none⟩) l.length cl4] from hsafe.now, List.getElem?_cons_zero, Nat.zero_mul, Nat.add_zero] at hx
                    obtain ⟨u', hul', hcell', hsafe'⟩ := BuildS.elem (show BuildS wo _ B2 33 2 (.slice (some ⟨g4, 0, none⟩) l.length cl4) linkR (modTo c.length l j) from HSJ.out.pair.first) (modTo_get _ hy)
                    have hx2 := (hcell' 0 (by omega)).1
                    have hx3 := (hcell' 0 (by omega)).2
                    obtain ⟨rfl, hy1, -⟩ := hsafe'.now
                    rw [List.getElem?_cons_zero, Nat.add_zero] at hx2
                    rw [Nat.add_zero] at hx3
                    obtain ⟨hle1, hle2, -, -⟩ := HLE.out y (List.mem_of_getElem? hy)
                    obtain ⟨y0, hy0⟩ : ∃ a, y.1 = a := ⟨_, rfl⟩
                    have hcc3 := HCC.out
                    rw [hy0] at hle1 hle2 hx2
                    obtain ⟨q, hq, hq0, hq1⟩ : ∃ q, y0.tmod (c.length : Int) = q ∧ 0 ≤ q ∧ q < 3 := ⟨_, Int.tmod_eq_emod_of_nonneg hle1, Int.emod_nonneg _ (by omega), by have := Int.emod_lt_of_pos y0 (show (0 : Int) < c.length by omega); omega⟩
                    have HSN : Hid (St w1 w3 (wo.setCell ⟨g4, j * 2, none⟩ (.int .i64 q)) (fun b => B2 ≤ b ∧ S2 b) B2 g7 g8 #[.slice ap1 3 cp1, .slice (some ⟨g1, 0, none⟩) (n + 1) cc1, .slice al1 nl1 cl1] (.slice ap2 3 cp2) (.slice (some ⟨g2, 0, none⟩) k2.chords.length cc2) (.slice (some ⟨g3, 0, none⟩) (r.length + 1) cl2) (.slice (some ⟨g4, 0, none⟩) l.length cl4) k1 { primes := k2.primes, chords := k2.chords.set 0 c, links := modTo c.length l (j + 1) :: r }) := by
                      have h9 := HSJ.out.link HB2.out rfl j y (modTo_get _ hy) q (by omega)
                      rw [← modTo_set _ hy, hy0, hq]
                      exact h9
                    clear hcell hsafe hul hcell' hsafe' hul' hy hy0 hy1
                    go_wp2_with fail
                    go_roundw
                    case rel => exact ⟨j + 1, by omega, by go_num, HSN.out⟩
                    case measure => simp [intOf]; omega
                  · obtain rfl : j = l.length := by omega
                    have HSA : Hid (St w1 w3 wo (fun b => B2 ≤ b ∧ S2 b) B2 g7 g8 #[.slice ap1 3 cp1, .slice (some ⟨g1, 0, none⟩) (n + 1) cc1, .slice al1 nl1 cl1] (.slice ap2 3 cp2) (.slice (some ⟨g2, 0, none⟩) k2.chords.length cc2) (.slice (some ⟨g3, 0, none⟩) (r.length + 1) cl2) (.slice (some ⟨g4, 0, none⟩) l.length cl4) k1 (alikeWk c k2)) := by
                      have h9 := HSJ.out
                      rw [modTo_all] at h9
                      have e : alikeWk c k2 = { primes := k2.primes, chords := k2.chords.set 0 c, links := modL c.length l :: r } := by unfold alikeWk; rw [hL]
                      rw [e]
                      exact h9
                    go_wp2_with fail
                    go_roundw
                    case rel => exact .inr ⟨rfl, HSA.out⟩
                    case measure => simp [intOf]
              · go_wp2_with fail
                go_meet
                exact ⟨alikeWk c k2, HF.out.ext, HF.out.box7, HF.out.box8, HF.out.pair.one.now, HF.out.pair.now, few_alike P2.out.fewWk (P1.out.chords c (List.mem_of_getElem? HC.out)), by show (k2.chords.set 0 c).length ≤ 5; rw [List.length_set]; exact HCL.out, chordR.rows (HZ3.out _ HF.out.grown)⟩
    case rest =>
      obtain ⟨k, HE4, HG74, HG84, HWA, HWB, HFB, HKC, HRC⟩ := hcut
      clear h3 h4
      obtain ⟨w4, rfl⟩ : ∃ w4 : World, w4 = wc := ⟨_, rfl⟩
      have hkl := HKC.out
      have hk1 := P1.out.few
      obtain ⟨d, hd⟩ : ∃ d, k.chords[0]? = some d := ⟨_, List.getElem?_eq_getElem (by have := HFB.out.some; omega)⟩
      have HJ := Lib.hid (Join_any k1 k _ _ w4 HWA.out HWB.out P1.out.fewWk HFB.out (by omega) c d (by rw [hn]; exact HC.out) hd)
      obtain ⟨vp, vc, vl, hv, hp, hch, hlk⟩ := HWB.out
      simp only [Value.agg.injEq, Array.mk.injEq, List.cons.injEq, and_true] at hv
      obtain ⟨rfl, rfl, rfl⟩ := hv
      obtain ⟨avc, cvc, hv, hv1, hv2, hch0, hchs⟩ := inCell.open hch
      simp only [Value.slice.injEq] at hv
      obtain ⟨rfl, rfl, rfl⟩ := hv
      obtain ⟨bc, oc, rfl, hbc, hcell⟩ := hchs (by intro e; have := HFB.out.some; rw [e] at this; simp at this)
      obtain ⟨ud, hud, hcd0⟩ := hcell 0 d hd
      obtain ⟨aud, cud, rfl, hud1, hud2, -, -⟩ := inCell.open hud
      have HUD := Lib.hid hud
      have HH := Lib.hid hch; have HP := Lib.hid hp; have HLK := Lib.hid hlk
      rw [Nat.add_zero] at hcd0
      have hkm : 1 ≤ k.chords.length := HFB.out.some
      have HD := Lib.hid hd
      clear hcell hchs hud hch hp hlk hch0 hd
      have c70 := block_cell HG74.out 0; have c71 := block_cell HG74.out 1; have c72 := block_cell HG74.out 2
      have c80 := block_cell HG84.out 0; have c81 := block_cell HG84.out 1; have c82 := block_cell HG84.out 2
      simp only [List.getElem?_toArray, List.getElem?_cons_zero, List.getElem?_cons_succ] at c70 c71 c72 c80 c81 c82
      go_wp2_with fail
      refine HJ.out.mono ?_
      rintro e w5 ⟨u, rfl, hE5, hu1, hu2⟩
      have HE5 := Lib.hid (Ext.trans HE4.out hE5)
      have e81 := hE5.cell c81
      have e0 := hE5.cell hcd0
      by_cases hcd : (c == d) = true
      · rw [if_pos hcd]
        have HU := Lib.hid (hu1 hcd)
        obtain ⟨vp, vc, vl, rfl, hp, hch, hlk⟩ := hu1 hcd
        have HR := Lib.hid (fun W (hW : Ext w5 W) => rowsEqual_any c d _ _ W (Rows2.ext HRC.out (Ext.trans hE5 hW)) (Rows2.ext HUD.out (Ext.trans hE5 hW)))
        rw [hcd] at HR
        have HCD := Lib.hid hcd
        obtain ⟨avp, cvp, rfl, -⟩ := Ints.open hp
        obtain ⟨avc, cvc2, rfl, -⟩ := ListAt.open hch
        obtain ⟨avl, cvl, rfl, -⟩ := ListAt.open hlk
        obtain ⟨w6, hW6, hE6, hs6, hb6⟩ := walk_new w5 (.slice none 0 0) (.slice none 0 0) (.slice none 0 0)
        have g81 := hE6.cell e81
        have g0 := hE6.cell e0
        have lt8 : g8 < w5.heap.size := lt_of_cell e81
        have ltb : bc < w5.heap.size := lt_of_cell e0
        have q0 := block_cell hb6 0; have q1 := block_cell hb6 1; have q2 := block_cell hb6 2; have q3 := block_free hb6 0; have q4 := block_free hb6 1; have q5 := block_free hb6 2
        simp only [List.getElem?_toArray, List.getElem?_cons_zero, List.getElem?_cons_succ] at q0 q1 q2
        have HB6 := Lib.hid (walk_store hb6 (.slice avp (joinWk k1 k).primes.length cvp) (.slice avc (joinWk k1 k).chords.length cvc2) (.slice avl (joinWk k1 k).links.length cvl))
        have HE6 := Lib.hid (ext_walk hE6 (Nat.le_refl _) (.slice avp (joinWk k1 k).primes.length cvp) (.slice avc (joinWk k1 k).chords.length cvc2) (.slice avl (joinWk k1 k).links.length cvl))
        clear hu1 hu2 hp hch hlk hcd hs6 hb6 hE6
        go_wp2_with fail
        clear hW6
        refine (HR.out _ HE6.out).mono ?_
        rintro e w7 ⟨rfl, hE7⟩
        have HB7 := Lib.hid (block_ext HB6.out hE7)
        have HE47 := Lib.hid (Ext.trans hE5 (Ext.trans HE6.out hE7))
        have HE57 := Lib.hid (Ext.trans HE6.out hE7)
        have HWA7 := Lib.hid (HWA.out.ext HE47.out)
        have HC4 : Hid (∀ W, Ext w7 W → Calls Try.prog 27 #[.slice (some ⟨g1, 0, none⟩) (n + 1) cc1] W fun e w' => ∃ r, e = .returned r ∧ Ext W w' ∧ Build w' W.heap.size 31 1 r (constRk w7 chordR) k1.chords) := by
          obtain ⟨vp', vc', vl', hv, hp, hc, hl⟩ := HWA7.out
          simp only [Value.agg.injEq, Array.mk.injEq, List.cons.injEq, and_true] at hv
          obtain ⟨rfl, rfl, rfl⟩ := hv
          exact fun W hW => cloneChords0_any k1.chords _ w7 W hW hc (by omega)
        have HC11 : Hid (∀ W, Ext w7 W → Calls Try.prog 28 #[.slice al1 nl1 cl1] W fun e w' => ∃ r, e = .returned r ∧ Ext W w' ∧ Build w' W.heap.size 34 1 r (constRk w7 linksR) k1.links) := by
          obtain ⟨vp', vc', vl', hv, hp, hc, hl⟩ := HWA7.out
          simp only [Value.agg.injEq, Array.mk.injEq, List.cons.injEq, and_true] at hv
          obtain ⟨rfl, rfl, rfl⟩ := hv
          exact fun W hW => cloneLinks20_any k1.links _ w7 W hW hl (by have := P1.out.len; omega)
        have HLEN8 : Hid (k1.chords.length + (k.chords.drop 1).length < 1000000) := by unfold Hid; rw [List.length_drop]; omega
        have HLEN14 : Hid (k1.links.length + k.links.length < 1000000) := by unfold Hid; have := P1.out.len; have := HFB.out.len; omega
        have HD2 : Hid (ListAt 1 linksR w7 (.slice al2 nl2 cl2) k.links) := ListAt.ext linksR.mono HLK.out HE47.out
        obtain ⟨oq, hoff, hoq⟩ : ∃ oq, (if cc2 = 1 then (some ⟨bc, oc, none⟩ : Option Addr) else some ⟨bc, oc + 1, none⟩) = some ⟨bc, oq, none⟩ ∧ (2 ≤ k.chords.length → oq = oc + 1) := by
          by_cases h1 : cc2 = 1
          · exact ⟨oc, by rw [if_pos h1], by omega⟩
          · exact ⟨oc + 1, by rw [if_neg h1], fun _ => rfl⟩
        have HD1 : Hid (ListAt 1 chordR w7 (.slice (some ⟨bc, oq, none⟩) (k.chords.length - 1) (cc2 - 1)) (k.chords.drop 1)) := ListAt.drop1 (ListAt.ext chordR.mono HH.out HE47.out) hoq hkm
        have hkz : (1 : Int) ≤ (k.chords.length : Int) := by omega
        have f70 := HE47.out.cell c70; have f71 := HE47.out.cell c71; have f72 := HE47.out.cell c72; have f81 := HE47.out.cell c81; have f82 := HE47.out.cell c82
        clear hE7 hE5 hoq g81 g0 lt8 ltb q0 q1 q2 q3 q4 q5 e81 e0 c70 c71 c72 c80 c81 c82 hcd0
        go_upto_region 19 with fail
        go_cut [14] from 95 to 110 (fun s14 wx => ∃ (gb : Nat) (ac : Option Addr) (nc cc : Nat) (al : Option Addr) (nl cl : Nat), s14 = .pointer (some ⟨gb, 0, none⟩) ∧ Hid (Ext w7 wx) ∧ Hid (wx.heap[gb]? = some (.cells #[.slice ap1 3 cp1, .slice ac nc cc, .slice al nl cl] 30 (0, 0))) ∧ Hid (WalkAt wx (.agg #[.slice ap1 3 cp1, .slice ac nc cc, .slice al nl cl]) (joinWk k1 k)))
        case first =>
          --<R19
          refine region_anyE (fun w' => w'.cell? ⟨g7, 0, none⟩ = some (.slice ap1 3 cp1) ∧ w'.cell? ⟨g7, 1, none⟩ = some (.slice (some ⟨g1, 0, none⟩) (n + 1) cc1) ∧ w'.cell? ⟨g7, 2, none⟩ = some (.slice al1 nl1 cl1) ∧ w'.cell? ⟨g8, 1, none⟩ = some (.slice (some ⟨bc, oc, none⟩) k.chords.length cc2) ∧ w'.cell? ⟨g8, 2, none⟩ = some (.slice al2 nl2 cl2) ∧ Hid (Ext w7 w')) 17 (by kernel_rfl) ⟨(Ext.drew w7).cell f70, (Ext.drew w7).cell f71, (Ext.drew w7).cell f72, (Ext.drew w7).cell f81, (Ext.drew w7).cell f82, Ext.drew w7⟩ (fun hHeld => ?_)
          have HQD : Hid (w7.heap.size ≤ w7.drew.heap.size) := (Ext.drew w7).size
          generalize w7.drew = wd at hHeld HQD ⊢
          refine anyE_takeW (v := ?_) 0 rfl (by kernel_rfl) (by kernel_rfl) (by kernel_rfl) (by decide) (fun _ _ _ h => h) (Or.inl ⟨by rfl, ?_⟩) (by assumption) ?_
          rotate_left
          · ((intro w'); (try go_simp); (try with_reducible rfl))
          (try simp only [Act.put, List.setIfInBounds_toArray, List.set_cons_zero, List.set_cons_succ])
          refine anyE_takeW (v := ?_) 2 rfl (by kernel_rfl) (by kernel_rfl) (by kernel_rfl) (by decide) (fun _ _ _ h => h) (Or.inl ⟨by rfl, ?_⟩) (by assumption) ?_
          rotate_left
          · ((intro w'); (try go_simp); (try with_reducible rfl))
          (try simp only [Act.put, List.setIfInBounds_toArray, List.set_cons_zero, List.set_cons_succ])
          refine anyE_takeW (v := ?_) 5 rfl (by kernel_rfl) (by kernel_rfl) (by kernel_rfl) (by decide) (fun _ _ _ h => h) (Or.inl ⟨by rfl, ?_⟩) (by assumption) ?_
          rotate_left
          · ((intro w'); (try go_simp); (try with_reducible rfl))
          (try simp only [Act.put, List.setIfInBounds_toArray, List.set_cons_zero, List.set_cons_succ])
          refine anyE_takeW (v := ?_) 9 rfl (by kernel_rfl) (by kernel_rfl) (by kernel_rfl) (by decide) (fun _ _ _ h => h) (Or.inl ⟨by rfl, ?_⟩) (by assumption) ?_
          rotate_left
          · ((intro w'); (try go_simp); (try with_reducible rfl))
          (try simp only [Act.put, List.setIfInBounds_toArray, List.set_cons_zero, List.set_cons_succ])
          refine anyE_takeW (v := ?_) 12 rfl (by kernel_rfl) (by kernel_rfl) (by kernel_rfl) (by decide) (fun _ _ _ h => h) (Or.inl ⟨by rfl, ?_⟩) (by assumption) ?_
          rotate_left
          · ((intro w'); (try go_simp); (try with_reducible rfl))
          (try simp only [Act.put, List.setIfInBounds_toArray, List.set_cons_zero, List.set_cons_succ])
          refine anyE_take (v := ?_) 1 rfl (by kernel_rfl) (by kernel_rfl) (by kernel_rfl) (by kernel_rfl) (by kernel_rfl) (fun _ _ _ h => h) (Or.inl ⟨by rfl, ?_⟩) (by assumption) ?_
          rotate_left
          · ((intro w' hSw); (try dsimp only at hSw); (try go_simp); (try with_reducible rfl))
          (try simp only [Act.put, List.setIfInBounds_toArray, List.set_cons_zero, List.set_cons_succ])
          refine anyE_take (v := ?_) 3 rfl (by kernel_rfl) (by kernel_rfl) (by kernel_rfl) (by kernel_rfl) (by kernel_rfl) (fun _ _ _ h => h) (Or.inl ⟨by rfl, ?_⟩) (by assumption) ?_
          rotate_left
          · ((intro w' hSw); (try dsimp only at hSw); (try go_simp); (try with_reducible rfl))
          (try simp only [Act.put, List.setIfInBounds_toArray, List.set_cons_zero, List.set_cons_succ])
          refine anyE_take (v := ?_) 6 rfl (by kernel_rfl) (by kernel_rfl) (by kernel_rfl) (by kernel_rfl) (by kernel_rfl) (fun _ _ _ h => h) (Or.inl ⟨by rfl, ?_⟩) (by assumption) ?_
          rotate_left
          · ((intro w' hSw); (try dsimp only at hSw); (try go_simp); (try with_reducible rfl))
          (try simp only [Act.put, List.setIfInBounds_toArray, List.set_cons_zero, List.set_cons_succ])
          refine anyE_take (v := ?_) 10 rfl (by kernel_rfl) (by kernel_rfl) (by kernel_rfl) (by kernel_rfl) (by kernel_rfl) (fun _ _ _ h => h) (Or.inl ⟨by rfl, ?_⟩) (by assumption) ?_
          rotate_left
          · ((intro w' hSw); (try dsimp only at hSw); (try go_simp); (try with_reducible rfl))
          (try simp only [Act.put, List.setIfInBounds_toArray, List.set_cons_zero, List.set_cons_succ])
          refine anyE_take (v := ?_) 13 rfl (by kernel_rfl) (by kernel_rfl) (by kernel_rfl) (by kernel_rfl) (by kernel_rfl) (fun _ _ _ h => h) (Or.inl ⟨by rfl, ?_⟩) (by assumption) ?_
          rotate_left
          · ((intro w' hSw); (try dsimp only at hSw); (try go_simp); (try with_reducible rfl))
          (try simp only [Act.put, List.setIfInBounds_toArray, List.set_cons_zero, List.set_cons_succ])
          refine anyE_takeW (v := ?_) 7 rfl (by kernel_rfl) (by kernel_rfl) (by kernel_rfl) (by decide) (fun _ _ _ h => h) (Or.inl ⟨by rfl, ?_⟩) (by assumption) ?_
          rotate_left
          · ((intro w'); (try go_simp); (try with_reducible rfl))
          (try simp only [Act.put, List.setIfInBounds_toArray, List.set_cons_zero, List.set_cons_succ])
          refine anyE_fork2 4 16 (by kernel_rfl) rfl rfl (fun K hK => ?_) (fun K hK => ?_)
          · go_simp
            (go_at_call 27; refine (HC4.out _ hHeld.2.2.2.2.2.out).mono ?_)
            rintro e v0 ⟨r4, rfl, hEz, hr⟩
            have HR4 := Lib.hid hr
            have P4 : Hid (Ext wd v0) := Lib.hid hEz
            have Q4 : Hid (w7.heap.size ≤ wd.heap.size) := (hHeld.2.2.2.2.2.out).size
            have hH2 := And.intro (hEz.cell hHeld.1) (And.intro (hEz.cell hHeld.2.1) (And.intro (hEz.cell hHeld.2.2.1) (And.intro (hEz.cell hHeld.2.2.2.1) (And.intro (hEz.cell hHeld.2.2.2.2.1) (Lib.hid (Ext.trans hHeld.2.2.2.2.2.out hEz))))))
            go_wp2_with fail
            refine hK.out _ _ hH2 (fun hHeld => ?_)
            clear hr hEz
            clear hK K hH2
            (try simp only [Act.put, List.setIfInBounds_toArray, List.set_cons_zero, List.set_cons_succ])
            refine anyE_fork2 8 16 (by kernel_rfl) rfl rfl (fun K hK => ?_) (fun K hK => ?_)
            · refine step_append_manyC (fun h => inCell_one ListAt.oneSlice h) w7 v0 (by rfl) _ _ 27 (by rfl) wd.heap.size 31 (.slice none 0 0) 1 24 Try.underlying27 infoRows (by rfl) (by decide) r4 (.slice (some ⟨bc, oq, none⟩) (k.chords.length - 1) (cc2 - 1)) k1.chords (k.chords.drop 1) (by rfl) HR4.out (by rfl) HD1.out hHeld.2.2.2.2.2.out Q4.out HLEN8.out (by decide) P4.out.size ?_
              intro r8 v1 hr hb hg
              have HR8 := Lib.hid hr
              have hEz : Ext w7 v1 := Below.trans hHeld.2.2.2.2.2.out (Below.mono hb Q4.out)
              have hH2 : v1.cell? ⟨g7, 0, none⟩ = some (.slice ap1 3 cp1) ∧ v1.cell? ⟨g7, 1, none⟩ = some (.slice (some ⟨g1, 0, none⟩) (n + 1) cc1) ∧ v1.cell? ⟨g7, 2, none⟩ = some (.slice al1 nl1 cl1) ∧ v1.cell? ⟨g8, 1, none⟩ = some (.slice (some ⟨bc, oc, none⟩) k.chords.length cc2) ∧ v1.cell? ⟨g8, 2, none⟩ = some (.slice al2 nl2 cl2) ∧ Hid (Ext w7 v1) := ⟨hEz.cell f70, hEz.cell f71, hEz.cell f72, hEz.cell f81, hEz.cell f82, hEz⟩
              refine hK.out _ _ hH2 (fun hHeld => ?_)
              clear hr hb hg hEz
              clear hK K hH2
              (try simp only [Act.put, List.setIfInBounds_toArray, List.set_cons_zero, List.set_cons_succ])
              refine anyE_fork2 11 16 (by kernel_rfl) rfl rfl (fun K hK => ?_) (fun K hK => ?_)
              · go_simp
                (go_at_call 28; refine (HC11.out _ hHeld.2.2.2.2.2.out).mono ?_)
                rintro e v2 ⟨r11, rfl, hEz, hr⟩
                have HR11 := Lib.hid hr
                have P11 : Hid (Ext v1 v2) := Lib.hid hEz
                have Q11 : Hid (w7.heap.size ≤ v1.heap.size) := (hHeld.2.2.2.2.2.out).size
                have hH2 := And.intro (hEz.cell hHeld.1) (And.intro (hEz.cell hHeld.2.1) (And.intro (hEz.cell hHeld.2.2.1) (And.intro (hEz.cell hHeld.2.2.2.1) (And.intro (hEz.cell hHeld.2.2.2.2.1) (Lib.hid (Ext.trans hHeld.2.2.2.2.2.out hEz))))))
                go_wp2_with fail
                refine hK.out _ _ hH2 (fun hHeld => ?_)
                clear hr hEz
                clear hK K hH2
                (try simp only [Act.put, List.setIfInBounds_toArray, List.set_cons_zero, List.set_cons_succ])
                refine anyE_fork2 14 16 (by kernel_rfl) rfl rfl (fun K hK => ?_) (fun K hK => ?_)
                · refine step_append_manyC (fun h => inCell_one ListAt.oneSlice h) w7 v2 (by rfl) _ _ 28 (by rfl) v1.heap.size 34 (.slice none 0 0) 1 24 Try.underlying28 infoLinks (by rfl) (by decide) r11 (.slice al2 nl2 cl2) k1.links k.links (by rfl) HR11.out (by rfl) HD2.out hHeld.2.2.2.2.2.out Q11.out HLEN14.out (by decide) P11.out.size ?_
                  intro r14 v3 hr hb hg
                  have HR14 := Lib.hid hr
                  have hEz : Ext w7 v3 := Below.trans hHeld.2.2.2.2.2.out (Below.mono hb Q11.out)
                  have hH2 : v3.cell? ⟨g7, 0, none⟩ = some (.slice ap1 3 cp1) ∧ v3.cell? ⟨g7, 1, none⟩ = some (.slice (some ⟨g1, 0, none⟩) (n + 1) cc1) ∧ v3.cell? ⟨g7, 2, none⟩ = some (.slice al1 nl1 cl1) ∧ v3.cell? ⟨g8, 1, none⟩ = some (.slice (some ⟨bc, oc, none⟩) k.chords.length cc2) ∧ v3.cell? ⟨g8, 2, none⟩ = some (.slice al2 nl2 cl2) ∧ Hid (Ext w7 v3) := ⟨hEz.cell f70, hEz.cell f71, hEz.cell f72, hEz.cell f81, hEz.cell f82, hEz⟩
                  have HR8 := Lib.hid (HR8.out.ext (Below.trans P11.out hb))
                  refine hK.out _ _ hH2 (fun hHeld => ?_)
                  clear hr hb hg hEz
                  clear hK K hH2
                  (try simp only [Act.put, List.setIfInBounds_toArray, List.set_cons_zero, List.set_cons_succ])
                  obtain ⟨ac8, n8, c8, rfl⟩ : ∃ a n c, r8 = .slice a n c := by
                    obtain ⟨a, c, h, -⟩ := ListAt.open HR8.out.list
                    exact ⟨_, _, _, h⟩
                  obtain ⟨ac14, n14, c14, rfl⟩ : ∃ a n c, r14 = .slice a n c := by
                    obtain ⟨a, c, h, -⟩ := ListAt.open HR14.out.list
                    exact ⟨_, _, _, h⟩
                  refine anyE_takeW (v := ?_) 15 rfl (by kernel_rfl) (by kernel_rfl) (by kernel_rfl) (by decide) (fun _ _ _ h => h) (Or.inl ⟨by rfl, ?_⟩) (by assumption) ?_
                  rotate_left
                  · ((intro w'); (try go_simp); (try with_reducible rfl))
                  (try simp only [Act.put, List.setIfInBounds_toArray, List.set_cons_zero, List.set_cons_succ])
                  refine anyE_step 16 (by kernel_rfl) rfl (fun K hK => ?_)
                  go_simp
                  obtain ⟨v4, hW, hEz, hs, hb⟩ := walk_new v3 (.slice none 0 0) (.slice none 0 0) (.slice none 0 0)
                  rw [hW]
                  have HG := Lib.hid hb
                  have HQG : Hid (w7.heap.size ≤ v3.heap.size) := (hHeld.2.2.2.2.2.out).size
                  have hH2 := And.intro (hEz.cell hHeld.1) (And.intro (hEz.cell hHeld.2.1) (And.intro (hEz.cell hHeld.2.2.1) (And.intro (hEz.cell hHeld.2.2.2.1) (And.intro (hEz.cell hHeld.2.2.2.2.1) (Lib.hid (Ext.trans hHeld.2.2.2.2.2.out hEz))))))
                  have HR8 := Lib.hid (HR8.out.ext hEz)
                  have HR14 := Lib.hid (HR14.out.ext hEz)
                  refine hK.out _ _ hH2 (fun hHeld => ?_)
                  clear hW hEz hs hb
                  clear hK K hH2
                  (try simp only [Act.put, List.setIfInBounds_toArray, List.set_cons_zero, List.set_cons_succ])
                  have kc0 := block_cell HG.out 0; have kc1 := block_cell HG.out 1; have kc2 := block_cell HG.out 2; have kf0 := block_free HG.out 0; have kf1 := block_free HG.out 1; have kf2 := block_free HG.out 2
                  simp only [List.getElem?_toArray, List.getElem?_cons_zero, List.getElem?_cons_succ] at kc0 kc1 kc2
                  have HFIN := Lib.hid (joins_want HWA7.out hHeld.2.2.2.2.2.out HR8.out HR14.out HG.out HQG.out _ rfl)
                  refine anyE_last 17 (by kernel_rfl) (by kernel_rfl) (by kernel_rfl) rfl (fun K hK => ?_)
                  go_simp
                  refine hK.out _ _ ?_
                  clear hK K
                  (try simp only [Act.put, List.setIfInBounds_toArray, List.set_cons_zero, List.set_cons_succ])
                  go_wp2_with fail
                  go_meet
                  exact ⟨v3.heap.size, _, _, _, _, _, _, rfl, HFIN.out.1, HFIN.out.2.1, HFIN.out.2.2⟩
                · go_simp
                  obtain ⟨v3, hW, hEz, hs, hb⟩ := walk_new v2 (.slice none 0 0) (.slice none 0 0) (.slice none 0 0)
                  rw [hW]
                  have HG := Lib.hid hb
                  have HQG : Hid (w7.heap.size ≤ v2.heap.size) := (hHeld.2.2.2.2.2.out).size
                  have hH2 := And.intro (hEz.cell hHeld.1) (And.intro (hEz.cell hHeld.2.1) (And.intro (hEz.cell hHeld.2.2.1) (And.intro (hEz.cell hHeld.2.2.2.1) (And.intro (hEz.cell hHeld.2.2.2.2.1) (Lib.hid (Ext.trans hHeld.2.2.2.2.2.out hEz))))))
                  have HR11 := Lib.hid (HR11.out.ext hEz)
                  have P11 := Lib.hid (P11.out.trans hEz)
                  refine hK.out _ _ hH2 (fun hHeld => ?_)
                  clear hW hEz hs hb
                  clear hK K hH2
                  (try simp only [Act.put, List.setIfInBounds_toArray, List.set_cons_zero, List.set_cons_succ])
                  refine anyE_step 14 (by kernel_rfl) rfl (fun K hK => ?_)
                  refine step_append_manyC (fun h => inCell_one ListAt.oneSlice h) w7 v3 (by rfl) _ _ 28 (by rfl) v1.heap.size 34 (.slice none 0 0) 1 24 Try.underlying28 infoLinks (by rfl) (by decide) r11 (.slice al2 nl2 cl2) k1.links k.links (by rfl) HR11.out (by rfl) HD2.out hHeld.2.2.2.2.2.out Q11.out HLEN14.out (by decide) P11.out.size ?_
                  intro r14 v4 hr hb hg
                  have HR14 := Lib.hid hr
                  have hEz : Ext w7 v4 := Below.trans hHeld.2.2.2.2.2.out (Below.mono hb Q11.out)
                  have hH2 : v4.cell? ⟨g7, 0, none⟩ = some (.slice ap1 3 cp1) ∧ v4.cell? ⟨g7, 1, none⟩ = some (.slice (some ⟨g1, 0, none⟩) (n + 1) cc1) ∧ v4.cell? ⟨g7, 2, none⟩ = some (.slice al1 nl1 cl1) ∧ v4.cell? ⟨g8, 1, none⟩ = some (.slice (some ⟨bc, oc, none⟩) k.chords.length cc2) ∧ v4.cell? ⟨g8, 2, none⟩ = some (.slice al2 nl2 cl2) ∧ Hid (Ext w7 v4) := ⟨hEz.cell f70, hEz.cell f71, hEz.cell f72, hEz.cell f81, hEz.cell f82, hEz⟩
                  have HG := Lib.hid (block_grown HG.out hg (HR11.out.neBlock HG.out (by decide)))
                  have HR8 := Lib.hid (HR8.out.ext (Below.trans P11.out hb))
                  refine hK.out _ _ hH2 (fun hHeld => ?_)
                  clear hr hb hg hEz
                  clear hK K hH2
                  (try simp only [Act.put, List.setIfInBounds_toArray, List.set_cons_zero, List.set_cons_succ])
                  obtain ⟨ac8, n8, c8, rfl⟩ : ∃ a n c, r8 = .slice a n c := by
                    obtain ⟨a, c, h, -⟩ := ListAt.open HR8.out.list
                    exact ⟨_, _, _, h⟩
                  obtain ⟨ac14, n14, c14, rfl⟩ : ∃ a n c, r14 = .slice a n c := by
                    obtain ⟨a, c, h, -⟩ := ListAt.open HR14.out.list
                    exact ⟨_, _, _, h⟩
                  refine anyE_takeW (v := ?_) 15 rfl (by kernel_rfl) (by kernel_rfl) (by kernel_rfl) (by decide) (fun _ _ _ h => h) (Or.inl ⟨by rfl, ?_⟩) (by assumption) ?_
                  rotate_left
                  · ((intro w'); (try go_simp); (try with_reducible rfl))
                  (try simp only [Act.put, List.setIfInBounds_toArray, List.set_cons_zero, List.set_cons_succ])
                  have kc0 := block_cell HG.out 0; have kc1 := block_cell HG.out 1; have kc2 := block_cell HG.out 2; have kf0 := block_free HG.out 0; have kf1 := block_free HG.out 1; have kf2 := block_free HG.out 2
                  simp only [List.getElem?_toArray, List.getElem?_cons_zero, List.getElem?_cons_succ] at kc0 kc1 kc2
                  have HFIN := Lib.hid (joins_want HWA7.out hHeld.2.2.2.2.2.out HR8.out HR14.out HG.out HQG.out _ rfl)
                  refine anyE_last 17 (by kernel_rfl) (by kernel_rfl) (by kernel_rfl) rfl (fun K hK => ?_)
                  go_simp
                  refine hK.out _ _ ?_
                  clear hK K
                  (try simp only [Act.put, List.setIfInBounds_toArray, List.set_cons_zero, List.set_cons_succ])
                  go_wp2_with fail
                  go_meet
                  exact ⟨v2.heap.size, _, _, _, _, _, _, rfl, HFIN.out.1, HFIN.out.2.1, HFIN.out.2.2⟩
              · go_simp
                obtain ⟨v2, hW, hEz, hs, hb⟩ := walk_new v1 (.slice none 0 0) (.slice none 0 0) (.slice none 0 0)
                rw [hW]
                have HG := Lib.hid hb
                have HQG : Hid (w7.heap.size ≤ v1.heap.size) := (hHeld.2.2.2.2.2.out).size
                have hH2 := And.intro (hEz.cell hHeld.1) (And.intro (hEz.cell hHeld.2.1) (And.intro (hEz.cell hHeld.2.2.1) (And.intro (hEz.cell hHeld.2.2.2.1) (And.intro (hEz.cell hHeld.2.2.2.2.1) (Lib.hid (Ext.trans hHeld.2.2.2.2.2.out hEz))))))
                have HR8 := Lib.hid (HR8.out.ext hEz)
                refine hK.out _ _ hH2 (fun hHeld => ?_)
                clear hW hEz hs hb
                clear hK K hH2
                (try simp only [Act.put, List.setIfInBounds_toArray, List.set_cons_zero, List.set_cons_succ])
                refine anyE_step 11 (by kernel_rfl) rfl (fun K hK => ?_)
                go_simp
                (go_at_call 28; refine (HC11.out _ hHeld.2.2.2.2.2.out).mono ?_)
                rintro e v3 ⟨r11, rfl, hEz, hr⟩
                have HR11 := Lib.hid hr
                have P11 : Hid (Ext v2 v3) := Lib.hid hEz
                have Q11 : Hid (w7.heap.size ≤ v2.heap.size) := (hHeld.2.2.2.2.2.out).size
                have hH2 := And.intro (hEz.cell hHeld.1) (And.intro (hEz.cell hHeld.2.1) (And.intro (hEz.cell hHeld.2.2.1) (And.intro (hEz.cell hHeld.2.2.2.1) (And.intro (hEz.cell hHeld.2.2.2.2.1) (Lib.hid (Ext.trans hHeld.2.2.2.2.2.out hEz))))))
                have HG := Lib.hid (block_ext HG.out hEz)
                go_wp2_with fail
                refine hK.out _ _ hH2 (fun hHeld => ?_)
                clear hr hEz
                clear hK K hH2
                (try simp only [Act.put, List.setIfInBounds_toArray, List.set_cons_zero, List.set_cons_succ])
                refine anyE_step 14 (by kernel_rfl) rfl (fun K hK => ?_)
                refine step_append_manyC (fun h => inCell_one ListAt.oneSlice h) w7 v3 (by rfl) _ _ 28 (by rfl) v2.heap.size 34 (.slice none 0 0) 1 24 Try.underlying28 infoLinks (by rfl) (by decide) r11 (.slice al2 nl2 cl2) k1.links k.links (by rfl) HR11.out (by rfl) HD2.out hHeld.2.2.2.2.2.out Q11.out HLEN14.out (by decide) P11.out.size ?_
                intro r14 v4 hr hb hg
                have HR14 := Lib.hid hr
                have hEz : Ext w7 v4 := Below.trans hHeld.2.2.2.2.2.out (Below.mono hb Q11.out)
                have hH2 : v4.cell? ⟨g7, 0, none⟩ = some (.slice ap1 3 cp1) ∧ v4.cell? ⟨g7, 1, none⟩ = some (.slice (some ⟨g1, 0, none⟩) (n + 1) cc1) ∧ v4.cell? ⟨g7, 2, none⟩ = some (.slice al1 nl1 cl1) ∧ v4.cell? ⟨g8, 1, none⟩ = some (.slice (some ⟨bc, oc, none⟩) k.chords.length cc2) ∧ v4.cell? ⟨g8, 2, none⟩ = some (.slice al2 nl2 cl2) ∧ Hid (Ext w7 v4) := ⟨hEz.cell f70, hEz.cell f71, hEz.cell f72, hEz.cell f81, hEz.cell f82, hEz⟩
                have HG := Lib.hid (block_grown HG.out hg (HR11.out.neBlock HG.out (by decide)))
                have HR8 := Lib.hid (HR8.out.ext (Below.trans P11.out hb))
                refine hK.out _ _ hH2 (fun hHeld => ?_)
                clear hr hb hg hEz
                clear hK K hH2
                (try simp only [Act.put, List.setIfInBounds_toArray, List.set_cons_zero, List.set_cons_succ])
                obtain ⟨ac8, n8, c8, rfl⟩ : ∃ a n c, r8 = .slice a n c := by
                  obtain ⟨a, c, h, -⟩ := ListAt.open HR8.out.list
                  exact ⟨_, _, _, h⟩
                obtain ⟨ac14, n14, c14, rfl⟩ : ∃ a n c, r14 = .slice a n c := by
                  obtain ⟨a, c, h, -⟩ := ListAt.open HR14.out.list
                  exact ⟨_, _, _, h⟩
                refine anyE_takeW (v := ?_) 15 rfl (by kernel_rfl) (by kernel_rfl) (by kernel_rfl) (by decide) (fun _ _ _ h => h) (Or.inl ⟨by rfl, ?_⟩) (by assumption) ?_
                rotate_left
                · ((intro w'); (try go_simp); (try with_reducible rfl))
                (try simp only [Act.put, List.setIfInBounds_toArray, List.set_cons_zero, List.set_cons_succ])
                have kc0 := block_cell HG.out 0; have kc1 := block_cell HG.out 1; have kc2 := block_cell HG.out 2; have kf0 := block_free HG.out 0; have kf1 := block_free HG.out 1; have kf2 := block_free HG.out 2
                simp only [List.getElem?_toArray, List.getElem?_cons_zero, List.getElem?_cons_succ] at kc0 kc1 kc2
                have HFIN := Lib.hid (joins_want HWA7.out hHeld.2.2.2.2.2.out HR8.out HR14.out HG.out HQG.out _ rfl)
                refine anyE_last 17 (by kernel_rfl) (by kernel_rfl) (by kernel_rfl) rfl (fun K hK => ?_)
                go_simp
                refine hK.out _ _ ?_
                clear hK K
                (try simp only [Act.put, List.setIfInBounds_toArray, List.set_cons_zero, List.set_cons_succ])
                go_wp2_with fail
                go_meet
                exact ⟨v1.heap.size, _, _, _, _, _, _, rfl, HFIN.out.1, HFIN.out.2.1, HFIN.out.2.2⟩
            · go_simp
              obtain ⟨v1, hW, hEz, hs, hb⟩ := walk_new v0 (.slice none 0 0) (.slice none 0 0) (.slice none 0 0)
              rw [hW]
              have HG := Lib.hid hb
              have HQG : Hid (w7.heap.size ≤ v0.heap.size) := (hHeld.2.2.2.2.2.out).size
              have hH2 := And.intro (hEz.cell hHeld.1) (And.intro (hEz.cell hHeld.2.1) (And.intro (hEz.cell hHeld.2.2.1) (And.intro (hEz.cell hHeld.2.2.2.1) (And.intro (hEz.cell hHeld.2.2.2.2.1) (Lib.hid (Ext.trans hHeld.2.2.2.2.2.out hEz))))))
              have HR4 := Lib.hid (HR4.out.ext hEz)
              have P4 := Lib.hid (P4.out.trans hEz)
              refine hK.out _ _ hH2 (fun hHeld => ?_)
              clear hW hEz hs hb
              clear hK K hH2
              (try simp only [Act.put, List.setIfInBounds_toArray, List.set_cons_zero, List.set_cons_succ])
              refine anyE_step 8 (by kernel_rfl) rfl (fun K hK => ?_)
              refine step_append_manyC (fun h => inCell_one ListAt.oneSlice h) w7 v1 (by rfl) _ _ 27 (by rfl) wd.heap.size 31 (.slice none 0 0) 1 24 Try.underlying27 infoRows (by rfl) (by decide) r4 (.slice (some ⟨bc, oq, none⟩) (k.chords.length - 1) (cc2 - 1)) k1.chords (k.chords.drop 1) (by rfl) HR4.out (by rfl) HD1.out hHeld.2.2.2.2.2.out Q4.out HLEN8.out (by decide) P4.out.size ?_
              intro r8 v2 hr hb hg
              have HR8 := Lib.hid hr
              have hEz : Ext w7 v2 := Below.trans hHeld.2.2.2.2.2.out (Below.mono hb Q4.out)
              have hH2 : v2.cell? ⟨g7, 0, none⟩ = some (.slice ap1 3 cp1) ∧ v2.cell? ⟨g7, 1, none⟩ = some (.slice (some ⟨g1, 0, none⟩) (n + 1) cc1) ∧ v2.cell? ⟨g7, 2, none⟩ = some (.slice al1 nl1 cl1) ∧ v2.cell? ⟨g8, 1, none⟩ = some (.slice (some ⟨bc, oc, none⟩) k.chords.length cc2) ∧ v2.cell? ⟨g8, 2, none⟩ = some (.slice al2 nl2 cl2) ∧ Hid (Ext w7 v2) := ⟨hEz.cell f70, hEz.cell f71, hEz.cell f72, hEz.cell f81, hEz.cell f82, hEz⟩
              have HG := Lib.hid (block_grown HG.out hg (HR4.out.neBlock HG.out (by decide)))
              refine hK.out _ _ hH2 (fun hHeld => ?_)
              clear hr hb hg hEz
              clear hK K hH2
              (try simp only [Act.put, List.setIfInBounds_toArray, List.set_cons_zero, List.set_cons_succ])
              refine anyE_step 11 (by kernel_rfl) rfl (fun K hK => ?_)
              go_simp
              (go_at_call 28; refine (HC11.out _ hHeld.2.2.2.2.2.out).mono ?_)
              rintro e v3 ⟨r11, rfl, hEz, hr⟩
              have HR11 := Lib.hid hr
              have P11 : Hid (Ext v2 v3) := Lib.hid hEz
              have Q11 : Hid (w7.heap.size ≤ v2.heap.size) := (hHeld.2.2.2.2.2.out).size
              have hH2 := And.intro (hEz.cell hHeld.1) (And.intro (hEz.cell hHeld.2.1) (And.intro (hEz.cell hHeld.2.2.1) (And.intro (hEz.cell hHeld.2.2.2.1) (And.intro (hEz.cell hHeld.2.2.2.2.1) (Lib.hid (Ext.trans hHeld.2.2.2.2.2.out hEz))))))
              have HG := Lib.hid (block_ext HG.out hEz)
              go_wp2_with fail
              refine hK.out _ _ hH2 (fun hHeld => ?_)
              clear hr hEz
              clear hK K hH2
              (try simp only [Act.put, List.setIfInBounds_toArray, List.set_cons_zero, List.set_cons_succ])
              refine anyE_step 14 (by kernel_rfl) rfl (fun K hK => ?_)
              refine step_append_manyC (fun h => inCell_one ListAt.oneSlice h) w7 v3 (by rfl) _ _ 28 (by rfl) v2.heap.size 34 (.slice none 0 0) 1 24 Try.underlying28 infoLinks (by rfl) (by decide) r11 (.slice al2 nl2 cl2) k1.links k.links (by rfl) HR11.out (by rfl) HD2.out hHeld.2.2.2.2.2.out Q11.out HLEN14.out (by decide) P11.out.size ?_
              intro r14 v4 hr hb hg
              have HR14 := Lib.hid hr
              have hEz : Ext w7 v4 := Below.trans hHeld.2.2.2.2.2.out (Below.mono hb Q11.out)
              have hH2 : v4.cell? ⟨g7, 0, none⟩ = some (.slice ap1 3 cp1) ∧ v4.cell? ⟨g7, 1, none⟩ = some (.slice (some ⟨g1, 0, none⟩) (n + 1) cc1) ∧ v4.cell? ⟨g7, 2, none⟩ = some (.slice al1 nl1 cl1) ∧ v4.cell? ⟨g8, 1, none⟩ = some (.slice (some ⟨bc, oc, none⟩) k.chords.length cc2) ∧ v4.cell? ⟨g8, 2, none⟩ = some (.slice al2 nl2 cl2) ∧ Hid (Ext w7 v4) := ⟨hEz.cell f70, hEz.cell f71, hEz.cell f72, hEz.cell f81, hEz.cell f82, hEz⟩
              have HG := Lib.hid (block_grown HG.out hg (HR11.out.neBlock HG.out (by decide)))
              have HR8 := Lib.hid (HR8.out.ext (Below.trans P11.out hb))
              refine hK.out _ _ hH2 (fun hHeld => ?_)
              clear hr hb hg hEz
              clear hK K hH2
              (try simp only [Act.put, List.setIfInBounds_toArray, List.set_cons_zero, List.set_cons_succ])
              obtain ⟨ac8, n8, c8, rfl⟩ : ∃ a n c, r8 = .slice a n c := by
                obtain ⟨a, c, h, -⟩ := ListAt.open HR8.out.list
                exact ⟨_, _, _, h⟩
              obtain ⟨ac14, n14, c14, rfl⟩ : ∃ a n c, r14 = .slice a n c := by
                obtain ⟨a, c, h, -⟩ := ListAt.open HR14.out.list
                exact ⟨_, _, _, h⟩
              refine anyE_takeW (v := ?_) 15 rfl (by kernel_rfl) (by kernel_rfl) (by kernel_rfl) (by decide) (fun _ _ _ h => h) (Or.inl ⟨by rfl, ?_⟩) (by assumption) ?_
              rotate_left
              · ((intro w'); (try go_simp); (try with_reducible rfl))
              (try simp only [Act.put, List.setIfInBounds_toArray, List.set_cons_zero, List.set_cons_succ])
              have kc0 := block_cell HG.out 0; have kc1 := block_cell HG.out 1; have kc2 := block_cell HG.out 2; have kf0 := block_free HG.out 0; have kf1 := block_free HG.out 1; have kf2 := block_free HG.out 2
              simp only [List.getElem?_toArray, List.getElem?_cons_zero, List.getElem?_cons_succ] at kc0 kc1 kc2
              have HFIN := Lib.hid (joins_want HWA7.out hHeld.2.2.2.2.2.out HR8.out HR14.out HG.out HQG.out _ rfl)
              refine anyE_last 17 (by kernel_rfl) (by kernel_rfl) (by kernel_rfl) rfl (fun K hK => ?_)
              go_simp
              refine hK.out _ _ ?_
              clear hK K
              (try simp only [Act.put, List.setIfInBounds_toArray, List.set_cons_zero, List.set_cons_succ])
              go_wp2_with fail
              go_meet
              exact ⟨v0.heap.size, _, _, _, _, _, _, rfl, HFIN.out.1, HFIN.out.2.1, HFIN.out.2.2⟩
          · go_simp
            obtain ⟨v0, hW, hEz, hs, hb⟩ := walk_new wd (.slice none 0 0) (.slice none 0 0) (.slice none 0 0)
            rw [hW]
            have HG := Lib.hid hb
            have HQG : Hid (w7.heap.size ≤ wd.heap.size) := (hHeld.2.2.2.2.2.out).size
            have hH2 := And.intro (hEz.cell hHeld.1) (And.intro (hEz.cell hHeld.2.1) (And.intro (hEz.cell hHeld.2.2.1) (And.intro (hEz.cell hHeld.2.2.2.1) (And.intro (hEz.cell hHeld.2.2.2.2.1) (Lib.hid (Ext.trans hHeld.2.2.2.2.2.out hEz))))))
            refine hK.out _ _ hH2 (fun hHeld => ?_)
            clear hW hEz hs hb
            clear hK K hH2
            (try simp only [Act.put, List.setIfInBounds_toArray, List.set_cons_zero, List.set_cons_succ])
            refine anyE_step 4 (by kernel_rfl) rfl (fun K hK => ?_)
            go_simp
            (go_at_call 27; refine (HC4.out _ hHeld.2.2.2.2.2.out).mono ?_)
            rintro e v1 ⟨r4, rfl, hEz, hr⟩
            have HR4 := Lib.hid hr
            have P4 : Hid (Ext v0 v1) := Lib.hid hEz
            have Q4 : Hid (w7.heap.size ≤ v0.heap.size) := (hHeld.2.2.2.2.2.out).size
            have hH2 := And.intro (hEz.cell hHeld.1) (And.intro (hEz.cell hHeld.2.1) (And.intro (hEz.cell hHeld.2.2.1) (And.intro (hEz.cell hHeld.2.2.2.1) (And.intro (hEz.cell hHeld.2.2.2.2.1) (Lib.hid (Ext.trans hHeld.2.2.2.2.2.out hEz))))))
            have HG := Lib.hid (block_ext HG.out hEz)
            go_wp2_with fail
            refine hK.out _ _ hH2 (fun hHeld => ?_)
            clear hr hEz
            clear hK K hH2
            (try simp only [Act.put, List.setIfInBounds_toArray, List.set_cons_zero, List.set_cons_succ])
            refine anyE_step 8 (by kernel_rfl) rfl (fun K hK => ?_)
            refine step_append_manyC (fun h => inCell_one ListAt.oneSlice h) w7 v1 (by rfl) _ _ 27 (by rfl) v0.heap.size 31 (.slice none 0 0) 1 24 Try.underlying27 infoRows (by rfl) (by decide) r4 (.slice (some ⟨bc, oq, none⟩) (k.chords.length - 1) (cc2 - 1)) k1.chords (k.chords.drop 1) (by rfl) HR4.out (by rfl) HD1.out hHeld.2.2.2.2.2.out Q4.out HLEN8.out (by decide) P4.out.size ?_
            intro r8 v2 hr hb hg
            have HR8 := Lib.hid hr
            have hEz : Ext w7 v2 := Below.trans hHeld.2.2.2.2.2.out (Below.mono hb Q4.out)
            have hH2 : v2.cell? ⟨g7, 0, none⟩ = some (.slice ap1 3 cp1) ∧ v2.cell? ⟨g7, 1, none⟩ = some (.slice (some ⟨g1, 0, none⟩) (n + 1) cc1) ∧ v2.cell? ⟨g7, 2, none⟩ = some (.slice al1 nl1 cl1) ∧ v2.cell? ⟨g8, 1, none⟩ = some (.slice (some ⟨bc, oc, none⟩) k.chords.length cc2) ∧ v2.cell? ⟨g8, 2, none⟩ = some (.slice al2 nl2 cl2) ∧ Hid (Ext w7 v2) := ⟨hEz.cell f70, hEz.cell f71, hEz.cell f72, hEz.cell f81, hEz.cell f82, hEz⟩
            have HG := Lib.hid (block_grown HG.out hg (HR4.out.neBlock HG.out (by decide)))
            refine hK.out _ _ hH2 (fun hHeld => ?_)
            clear hr hb hg hEz
            clear hK K hH2
            (try simp only [Act.put, List.setIfInBounds_toArray, List.set_cons_zero, List.set_cons_succ])
            refine anyE_step 11 (by kernel_rfl) rfl (fun K hK => ?_)
            go_simp
            (go_at_call 28; refine (HC11.out _ hHeld.2.2.2.2.2.out).mono ?_)
            rintro e v3 ⟨r11, rfl, hEz, hr⟩
            have HR11 := Lib.hid hr
            have P11 : Hid (Ext v2 v3) := Lib.hid hEz
            have Q11 : Hid (w7.heap.size ≤ v2.heap.size) := (hHeld.2.2.2.2.2.out).size
            have hH2 := And.intro (hEz.cell hHeld.1) (And.intro (hEz.cell hHeld.2.1) (And.intro (hEz.cell hHeld.2.2.1) (And.intro (hEz.cell hHeld.2.2.2.1) (And.intro (hEz.cell hHeld.2.2.2.2.1) (Lib.hid (Ext.trans hHeld.2.2.2.2.2.out hEz))))))
            have HG := Lib.hid (block_ext HG.out hEz)
            go_wp2_with fail
            refine hK.out _ _ hH2 (fun hHeld => ?_)
            clear hr hEz
            clear hK K hH2
            (try simp only [Act.put, List.setIfInBounds_toArray, List.set_cons_zero, List.set_cons_succ])
            refine anyE_step 14 (by kernel_rfl) rfl (fun K hK => ?_)
            refine step_append_manyC (fun h => inCell_one ListAt.oneSlice h) w7 v3 (by rfl) _ _ 28 (by rfl) v2.heap.size 34 (.slice none 0 0) 1 24 Try.underlying28 infoLinks (by rfl) (by decide) r11 (.slice al2 nl2 cl2) k1.links k.links (by rfl) HR11.out (by rfl) HD2.out hHeld.2.2.2.2.2.out Q11.out HLEN14.out (by decide) P11.out.size ?_
            intro r14 v4 hr hb hg
            have HR14 := Lib.hid hr
            have hEz : Ext w7 v4 := Below.trans hHeld.2.2.2.2.2.out (Below.mono hb Q11.out)
            have hH2 : v4.cell? ⟨g7, 0, none⟩ = some (.slice ap1 3 cp1) ∧ v4.cell? ⟨g7, 1, none⟩ = some (.slice (some ⟨g1, 0, none⟩) (n + 1) cc1) ∧ v4.cell? ⟨g7, 2, none⟩ = some (.slice al1 nl1 cl1) ∧ v4.cell? ⟨g8, 1, none⟩ = some (.slice (some ⟨bc, oc, none⟩) k.chords.length cc2) ∧ v4.cell? ⟨g8, 2, none⟩ = some (.slice al2 nl2 cl2) ∧ Hid (Ext w7 v4) := ⟨hEz.cell f70, hEz.cell f71, hEz.cell f72, hEz.cell f81, hEz.cell f82, hEz⟩
            have HG := Lib.hid (block_grown HG.out hg (HR11.out.neBlock HG.out (by decide)))
            have HR8 := Lib.hid (HR8.out.ext (Below.trans P11.out hb))
            refine hK.out _ _ hH2 (fun hHeld => ?_)
            clear hr hb hg hEz
            clear hK K hH2
            (try simp only [Act.put, List.setIfInBounds_toArray, List.set_cons_zero, List.set_cons_succ])
            obtain ⟨ac8, n8, c8, rfl⟩ : ∃ a n c, r8 = .slice a n c := by
              obtain ⟨a, c, h, -⟩ := ListAt.open HR8.out.list
              exact ⟨_, _, _, h⟩
            obtain ⟨ac14, n14, c14, rfl⟩ : ∃ a n c, r14 = .slice a n c := by
              obtain ⟨a, c, h, -⟩ := ListAt.open HR14.out.list
              exact ⟨_, _, _, h⟩
            refine anyE_takeW (v := ?_) 15 rfl (by kernel_rfl) (by kernel_rfl) (by kernel_rfl) (by decide) (fun _ _ _ h => h) (Or.inl ⟨by rfl, ?_⟩) (by assumption) ?_
            rotate_left
            · ((intro w'); (try go_simp); (try with_reducible rfl))
            (try simp only [Act.put, List.setIfInBounds_toArray, List.set_cons_zero, List.set_cons_succ])
            have kc0 := block_cell HG.out 0; have kc1 := block_cell HG.out 1; have kc2 := block_cell HG.out 2; have kf0 := block_free HG.out 0; have kf1 := block_free HG.out 1; have kf2 := block_free HG.out 2
            simp only [List.getElem?_toArray, List.getElem?_cons_zero, List.getElem?_cons_succ] at kc0 kc1 kc2
            have HFIN := Lib.hid (joins_want HWA7.out hHeld.2.2.2.2.2.out HR8.out HR14.out HG.out HQG.out _ rfl)
            refine anyE_last 17 (by kernel_rfl) (by kernel_rfl) (by kernel_rfl) rfl (fun K hK => ?_)
            go_simp
            refine hK.out _ _ ?_
            clear hK K
            (try simp only [Act.put, List.setIfInBounds_toArray, List.set_cons_zero, List.set_cons_succ])
            go_wp2_with fail
            go_meet
            exact ⟨wd.heap.size, _, _, _, _, _, _, rfl, HFIN.out.1, HFIN.out.2.1, HFIN.out.2.2⟩
          -->R19
        case rest =>
          obtain ⟨gb, ac, nc, cc, al, nl, cl, rfl, HE9, HGB, HWN⟩ := hcut
          obtain ⟨w9, rfl⟩ : ∃ w9 : World, w9 = wc := ⟨_, rfl⟩
          have HU9 := Lib.hid (HU.out.ext (Ext.trans HE57.out HE9.out))
          have HW1 := Lib.hid (HWA7.out.ext HE9.out)
          have HW2 := Lib.hid (HWB.out.ext (Ext.trans HE47.out HE9.out))
          have HB9 := Lib.hid (block_ext HB7.out HE9.out)
          have HG79 := Lib.hid (block_ext HG74.out (Ext.trans HE47.out HE9.out))
          have HG89 := Lib.hid (block_ext HG84.out (Ext.trans HE47.out HE9.out))
          have HMT : Hid (meets k1 k) := by
            unfold Hid meets
            rw [hn, Nat.add_sub_cancel, HC.out, HD.out, show c = d by simpa using HCD.out]
          have HFJ : Hid (FewWk (joinWk k1 k)) := few_join P1.out.fewWk HFB.out HMT.out (by omega)
          have HJD := Lib.hid (join_drift P1.out.fewWk HFB.out HMT.out (by omega))
          have HSM := Lib.hid (same_any (joinWk k1 k) _ _ w9 HU9.out HWN.out)
          have HD1 : Hid (∀ W, Ext w9 W → Calls Try.prog 9 #[.agg #[.slice ap1 3 cp1, .slice (some ⟨g1, 0, none⟩) (n + 1) cc1, .slice al1 nl1 cl1]] W fun e w' => ∃ r, e = .returned (.tuple #[r, .int .i64 0]) ∧ Ext W w' ∧ Ints w' r (driftOf k1)) := fun W hW => by
            have h9 := Drift_any k1 _ W (HW1.out.ext hW)
            rw [few_driftE P1.out.fewWk] at h9
            exact h9.mono fun e w' ⟨r, h1, h2, h3, _⟩ => ⟨r, h1, h2, h3 rfl⟩
          have HD2 : Hid (∀ W, Ext w9 W → Calls Try.prog 9 #[.agg #[.slice ap2 3 cp2, .slice (some ⟨bc, oc, none⟩) k.chords.length cc2, .slice al2 nl2 cl2]] W fun e w' => ∃ r, e = .returned (.tuple #[r, .int .i64 0]) ∧ Ext W w' ∧ Ints w' r (driftOf k)) := fun W hW => by
            have h9 := Drift_any k _ W (HW2.out.ext hW)
            rw [few_driftE HFB.out] at h9
            exact h9.mono fun e w' ⟨r, h1, h2, h3, _⟩ => ⟨r, h1, h2, h3 rfl⟩
          have HD3 : Hid (∀ W, Ext w9 W → Calls Try.prog 9 #[.agg #[.slice avp (joinWk k1 k).primes.length cvp, .slice avc (joinWk k1 k).chords.length cvc2, .slice avl (joinWk k1 k).links.length cvl]] W fun e w' => ∃ r, e = .returned (.tuple #[r, .int .i64 0]) ∧ Ext W w' ∧ Ints w' r (driftOf (joinWk k1 k))) := fun W hW => by
            have h9 := Drift_any (joinWk k1 k) _ W (HU9.out.ext hW)
            rw [few_driftE HFJ.out] at h9
            exact h9.mono fun e w' ⟨r, h1, h2, h3, _⟩ => ⟨r, h1, h2, h3 rfl⟩
          have HR1 : Hid ((driftOf k1).length = 3 ∧ ∀ a ∈ driftOf k1, -1600 ≤ a ∧ a ≤ 1600) := by
            have h1 := few_root P1.out.fewWk k1.links.length (by have := P1.out.len; omega)
            have := P1.out.len
            exact ⟨h1.1, fun a ha => by have := h1.2 a ha; omega⟩
          have HR2 : Hid ((driftOf k).length = 3 ∧ ∀ a ∈ driftOf k, -1600 ≤ a ∧ a ≤ 1600) := by
            have h1 := few_root HFB.out k.links.length (by have := HFB.out.len; omega)
            have := HFB.out.len
            exact ⟨h1.1, fun a ha => by have := h1.2 a ha; omega⟩
          have x0 := block_cell HB9.out 0; have x1 := block_cell HB9.out 1; have x2 := block_cell HB9.out 2
          have y0 := block_cell HGB.out 0; have y1 := block_cell HGB.out 1; have y2 := block_cell HGB.out 2
          simp only [List.getElem?_toArray, List.getElem?_cons_zero, List.getElem?_cons_succ] at x0 x1 x2 y0 y1 y2
          clear hn hkl hk1 hkm hkz hoff
          go_wp2_with fail
          refine HSM.out.mono ?_
          rintro e w10 ⟨rfl, hE10⟩
          have HE10 := Lib.hid hE10
          have HG710 := Lib.hid (block_ext HG79.out hE10)
          have z0 := block_cell HG710.out 0; have z1 := block_cell HG710.out 1; have z2 := block_cell HG710.out 2
          simp only [List.getElem?_toArray, List.getElem?_cons_zero, List.getElem?_cons_succ] at z0 z1 z2
          clear hE10 x0 x1 x2 y0 y1 y2
          go_wp2_with fail
          refine (HD1.out _ HE10.out).mono ?_
          rintro e w11 ⟨ra, rfl, hE11, hra⟩
          have HRA := Lib.hid hra
          have HE11 := Lib.hid (Ext.trans HE10.out hE11)
          have HG811 := Lib.hid (block_ext HG89.out HE11.out)
          have z80 := block_cell HG811.out 0; have z81 := block_cell HG811.out 1; have z82 := block_cell HG811.out 2
          simp only [List.getElem?_toArray, List.getElem?_cons_zero, List.getElem?_cons_succ] at z80 z81 z82
          clear hE11 hra z0 z1 z2
          go_wp2_with fail
          refine (HD2.out _ HE11.out).mono ?_
          rintro e w12 ⟨rb, rfl, hE12, hrb⟩
          have HRB := Lib.hid hrb
          have HRA2 := Lib.hid (Ints.ext HRA.out hE12)
          have HE12 := Lib.hid (Ext.trans HE11.out hE12)
          have HB12 := Lib.hid (block_ext HB9.out HE12.out)
          have z90 := block_cell HB12.out 0; have z91 := block_cell HB12.out 1; have z92 := block_cell HB12.out 2
          simp only [List.getElem?_toArray, List.getElem?_cons_zero, List.getElem?_cons_succ] at z90 z91 z92
          clear hE12 hrb z80 z81 z82
          go_wp2_with fail
          refine (HD3.out _ HE12.out).mono ?_
          rintro e w13 ⟨rc, rfl, hE13, hrc⟩
          have HRC3 := Lib.hid hrc
          have HADD := Lib.hid (add_any (driftOf k1) (driftOf k) _ _ w13 (Ints.ext HRA2.out hE13) (Ints.ext HRB.out hE13) (by rw [HR1.out.1, HR2.out.1]) (by rw [HR1.out.1]; omega) (fun x hx => by have := HR1.out.2 x hx; omega) (fun x hx => by have := HR2.out.2 x hx; omega))
          have HE13 := Lib.hid (Ext.trans HE12.out hE13)
          clear hE13 hrc z90 z91 z92
          go_wp2_with fail
          refine HADD.out.mono ?_
          rintro e w14 ⟨rd, rfl, hE14, hrd⟩
          have HRD : Hid (Ints w14 rd (driftOf (joinWk k1 k))) := by
            unfold Hid
            rw [HJD.out]
            have hl : (List.zipWith (· + ·) (driftOf k1) (driftOf k)).length = (driftOf k1).length := by rw [List.length_zipWith, HR1.out.1, HR2.out.1]; rfl
            refine Ints.of_owns (by rw [hl]; exact hrd) fun x hx => ?_
            obtain ⟨j, hj⟩ := List.getElem?_of_mem hx
            rw [List.getElem?_zipWith] at hj
            cases h1 : (driftOf k1)[j]? with
            | none => simp [h1] at hj
            | some p =>
              cases h2 : (driftOf k)[j]? with
              | none => simp [h1, h2] at hj
              | some q =>
                simp [h1, h2] at hj
                have h3 := HR1.out.2 p (List.mem_of_getElem? h1)
                have h4 := HR2.out.2 q (List.mem_of_getElem? h2)
                omega
          have HEQ := Lib.hid (equalRow_any (driftOf (joinWk k1 k)) (driftOf (joinWk k1 k)) _ _ w14 (Ints.ext HRC3.out hE14) HRD.out)
          rw [show (driftOf (joinWk k1 k) == driftOf (joinWk k1 k)) = true from beq_self_eq_true _] at HEQ
          have HE14 := Lib.hid (Ext.trans HE13.out hE14)
          clear hE14 hrd
          go_wp2_with fail
          refine HEQ.out.mono ?_
          rintro e w15 ⟨rfl, hE15⟩
          have HE15 := Lib.hid (Ext.trans HE14.out hE15)
          clear hE15
          go_wp2_with fail
          go_ret
          exact ⟨rfl, Ext.trans HE1.out (Ext.trans HE4.out (Ext.trans HE47.out (Ext.trans HE9.out HE15.out)))⟩
      · rw [if_neg hcd]
        obtain rfl := hu2 (by simpa using hcd)
        have HR := Lib.hid (fun W (hW : Ext w5 W) => rowsEqual_any c d _ _ W (Rows2.ext HRC.out (Ext.trans hE5 hW)) (Rows2.ext HUD.out (Ext.trans hE5 hW)))
        rw [show (c == d) = false by simpa using hcd] at HR
        have HEM := Lib.hid empty_nil
        obtain ⟨w6, hW6, hE6, hs6, hb6⟩ := walk_new w5 (.slice none 0 0) (.slice none 0 0) (.slice none 0 0)
        have g81 := hE6.cell e81
        have g0 := hE6.cell e0
        have lt8 : g8 < w5.heap.size := lt_of_cell e81
        have ltb : bc < w5.heap.size := lt_of_cell e0
        have q0 := block_cell hb6 0; have q1 := block_cell hb6 1; have q2 := block_cell hb6 2; have q3 := block_free hb6 0; have q4 := block_free hb6 1; have q5 := block_free hb6 2
        simp only [List.getElem?_toArray, List.getElem?_cons_zero, List.getElem?_cons_succ] at q0 q1 q2
        have HB6 := Lib.hid (walk_store hb6 (.slice none 0 0) (.slice none 0 0) (.slice none 0 0))
        have HE6 := Lib.hid (ext_walk hE6 (Nat.le_refl _) (.slice none 0 0) (.slice none 0 0) (.slice none 0 0))
        clear hu1 hu2 hcd hs6 hb6 hE6
        go_wp2_with fail
        clear hW6
        refine (HR.out _ HE6.out).mono ?_
        rintro e w7 ⟨rfl, hE7⟩
        have HB7 := Lib.hid (block_ext HB6.out hE7)
        have f0 := block_cell HB7.out 0; have f1 := block_cell HB7.out 1; have f2 := block_cell HB7.out 2
        simp only [List.getElem?_toArray, List.getElem?_cons_zero, List.getElem?_cons_succ] at f0 f1 f2
        have HE7 := Lib.hid (Ext.trans HE5.out (Ext.trans HE6.out hE7))
        clear hE7
        go_wp2_with fail
        refine (HEM.out _).mono ?_
        rintro e w8 ⟨rfl, hE8⟩
        have HE8 := Lib.hid (Ext.trans HE7.out hE8)
        clear hE8
        go_wp2_with fail
        go_ret
        exact ⟨rfl, Ext.trans HE1.out HE8.out⟩
end Go.Proofs.Ytplcikgmefcfbaa
