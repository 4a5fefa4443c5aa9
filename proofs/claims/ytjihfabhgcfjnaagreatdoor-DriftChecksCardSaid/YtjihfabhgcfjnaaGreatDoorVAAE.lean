/- Merged: DChkW. -/
import Derived.Test.YtjihfabhgcfjnaaGreatDoorUBH
import Derived.Test.YtjihfabhgcfjnaaGreatDoorVAAA
import Derived.Test.YtjihfabhgcfjnaaGreatDoorVAAB
import Derived.Test.YtjihfabhgcfjnaaGreatDoorVAAD
import Derived.Test.YtjihfabhgcfjnaaGreatDoorUBI
import Derived.Test.YtjihfabhgcfjnaaGreatDoorUBK
import Derived.Test.YtjihfabhgcfjnaaGreatDoorUBC
import Derived.Test.YtjihfabhgcfjnaaGreatDoorUBJ
/- The walk of DriftChecks. Printed by gen/dchk.py. -/
namespace Go.Proofs.YtjihfabhgcfjnaaGreatDoor
set_option linter.unusedVariables false
set_option linter.unusedSimpArgs false
open Go.RowKit

theorem exWk_right : walkE exWk = 0 := by decide +kernel
theorem rootsE_bad {k : Wk} (h : walkE k ≠ 0) : rootsE k = walkE k := by unfold rootsE; rw [if_neg h]
theorem driftE_bad {k : Wk} (h : walkE k ≠ 0) : driftE k = walkE k := by unfold driftE; rw [if_neg h]
theorem strainsE_bad {k : Wk} (h : walkE k ≠ 0) : strainsE k = walkE k := by unfold strainsE; rw [if_neg h]
theorem repE_bad {k : Wk} (h : walkE k ≠ 0) (n : Int) : repE5 k n = walkE k := by unfold repE5; rw [if_neg h]
theorem openE_bad {k : Wk} (P : List Int) (h : walkE k ≠ 0) : openE P k = walkE k := by unfold openE; rw [if_neg h]

set_option maxRecDepth 100000 in
set_option maxHeartbeats 8000000 in
theorem dchecks_walk (k : Wk) (v : Value) (w : World) (h : WalkAt w v k) (hlib : LibT w) (hp : 2 < w.heap.size) :
    Calls Tryz.prog 6 #[v] w fun e w' => e = .returned (.bool true) ∧ Ext w w' := by
  obtain ⟨F, hD, hRR⟩ := ends_right (n := 3) (by decide) (by decide)
  obtain ⟨hRJ, -⟩ := hRR [2, 3, 5] (by decide +kernel) rfl
  have HJU := Lib.hid (fun W (hW : Ext w W) vp (hv : Ints W vp [2, 3, 5]) => just_any 3 F [2, 3, 5] vp W hv (by decide +kernel) rfl hD (hlib.ext hW) (Nat.lt_of_lt_of_le hp hW.size))
  have HFW := Lib.hid (fun W (hE : Ext w W) => few51_any k v W (h.ext hE))
  have HC5 := Lib.hid (fun W (hE : Ext w W) => check51_any k v W (h.ext hE))
  have HCK := Lib.hid (fun W (hE : Ext w W) => check_any k v W (h.ext hE))
  have HWK := Lib.hid h
  have HBAD : Hid (walkE k ≠ 0 → ∀ W (hE : Ext w W),
      (Calls Tryz.prog 36 #[v] W fun e w' => e = .returned (.tuple #[.slice none 0 0, .int .i64 (walkE k)]) ∧ Ext W w') ∧
      (Calls Tryz.prog 20 #[v] W fun e w' => e = .returned (.tuple #[.slice none 0 0, .int .i64 (walkE k)]) ∧ Ext W w') ∧
      (Calls Tryz.prog 19 #[v] W fun e w' => e = .returned (.tuple #[.slice none 0 0, .int .i64 (walkE k)]) ∧ Ext W w') ∧
      (Calls Tryz.prog 40 #[v, .int .i64 1] W fun e w' => e = .returned (.tuple #[.slice none 0 0, .int .i64 (walkE k)]) ∧ Ext W w') ∧
      (Calls Tryz.prog 37 #[v] W fun e w' => e = .returned (.tuple #[.agg #[.slice none 0 0, .slice none 0 0, .slice none 0 0], .int .i64 (walkE k)]) ∧ Ext W w') ∧
      (∀ va, WalkAt W va exWk → Calls Tryz.prog 38 #[va, v] W fun e w' => e = .returned (.tuple #[.agg #[.slice none 0 0, .slice none 0 0, .slice none 0 0], .int .i64 (walkE k)]) ∧ Ext W w') ∧
      (∀ t, TempV W t [2, 3, 5] [] (idM 3 3) → (Calls Tryz.prog 17 #[t, v] W fun e w' => e = .returned (.tuple #[.int .i64 0, .bool false, .int .i64 (walkE k)]) ∧ Ext W w') ∧
        (Calls Tryz.prog 18 #[t, v] W fun e w' => e = .returned (.tuple #[.bool false, .int .i64 (walkE k)]) ∧ Ext W w') ∧
        (Calls Tryz.prog 24 #[t, v] W fun e w' => e = .returned (.tuple #[.slice none 0 0, .int .i64 (walkE k)]) ∧ Ext W w'))) := fun hz W hE => by
    have hl := hlib.ext hE
    have hq := Nat.lt_of_lt_of_le hp hE.size
    have hwk := h.ext hE
    refine ⟨?_, ?_, ?_, ?_, Reverse_bad k v W hwk hz, fun va hva => Join_bad exWk k va v W hva hwk exWk_right hz, fun t ht => ⟨?_, ?_, ?_⟩⟩
    · refine (Roots_any k v W hwk).mono ?_
      rintro e w' ⟨r, rfl, hX, -, hb⟩
      have hrE := rootsE_bad hz
      rw [hb (by rw [hrE]; exact hz), hrE]
      exact ⟨rfl, hX⟩
    · refine (Drift_any k v W hwk).mono ?_
      rintro e w' ⟨r, rfl, hX, -, hb⟩
      have hrE := driftE_bad hz
      rw [hb (by rw [hrE]; exact hz), hrE]
      exact ⟨rfl, hX⟩
    · refine (Strains_any k v W hwk).mono ?_
      rintro e w' ⟨r, rfl, hX, -, hb⟩
      have hrE := strainsE_bad hz
      rw [hb (by rw [hrE]; exact hz), hrE]
      exact ⟨rfl, hX⟩
    · refine (Repeat_any k v 1 W hwk (by decide)).mono ?_
      rintro e w' ⟨r, rfl, hX, -, hb⟩
      have hrE := repE_bad hz 1
      rw [hb (by rw [hrE]; exact hz), hrE]
      exact ⟨rfl, hX⟩
    · have := Fits_bad 3 F [2, 3, 5] [] (idM 3 3) k t v W ht hRJ hwk (by rw [openE_bad _ hz]; exact hz) hl hq
      rw [openE_bad _ hz] at this; exact this
    · have := Pump_bad 3 F [2, 3, 5] [] (idM 3 3) k t v W ht hRJ hwk (by rw [openE_bad _ hz]; exact hz) hl hq
      rw [openE_bad _ hz] at this; exact this
    · have := Returns_bad 3 F [2, 3, 5] [] (idM 3 3) k t v W ht hRJ hwk (by rw [openE_bad _ hz]; exact hz) hl hq
      rw [openE_bad _ hz] at this; exact this
  obtain ⟨vp, vc, vl, rfl, h1, h2, h3⟩ := h
  obtain ⟨ap, cp, rfl, -⟩ := h1.open
  obtain ⟨ac, cc, rfl, -⟩ := inCell.open h2
  obtain ⟨al, cl, rfl, -⟩ := inCell.open h3
  obtain ⟨E, hEE⟩ : ∃ E, walkE k = E := ⟨_, rfl⟩
  rw [hEE] at HC5 HCK HBAD
  generalize k.primes.length = np at *
  generalize k.chords.length = nc at *
  generalize k.links.length = nl at *
  obtain ⟨W, hW, hE, hsz, hbk⟩ := wkb_new w (.slice ap np cp) (.slice ac nc cc) (.slice al nl cl)
  have HE0 := Lib.hid hE
  have HB := Lib.hid hbk
  clear h1 h2 h3 hD hRR hRJ hlib hp hE hsz hbk hEE HWK
  go_enter Tryz.func6, Tryz.ntmps6
  go_wp2_with fail
  clear hW
  refine (known_any _).mono ?_
  rintro e w1 ⟨rfl, hE1⟩
  have HE1 := Lib.hid (HE0.out.trans hE1)
  have HB1 := Lib.hid (block_ext HB.out hE1)
  clear hE1 HE0 HB
  obtain ⟨b0, b1, b2⟩ := wkb_cells HB1.out
  go_wp2_with fail
  refine (HFW.out _ HE1.out).mono ?_
  rintro e w2 ⟨⟨b, rfl⟩, hE2⟩
  have HE2 := Lib.hid (HE1.out.trans hE2)
  have HB2 := Lib.hid (block_ext HB1.out hE2)
  clear hE2 HE1 HB1 HFW b0 b1 b2
  cases b with
  | false =>
    go_wp2_with fail
    refine (known_any _).mono ?_
    rintro e w3 ⟨rfl, hE3⟩
    have HE3 := Lib.hid (HE2.out.trans hE3)
    clear hE3
    go_wp2_with fail
    go_ret
    exact ⟨rfl, HE3.out⟩
  | true =>
  obtain ⟨b0, b1, b2⟩ := wkb_cells HB2.out
  go_wp2_with fail
  refine (HC5.out _ HE2.out).mono ?_
  rintro e w3 ⟨rfl, hE3⟩
  have HE3 := Lib.hid (HE2.out.trans hE3)
  have HB3 := Lib.hid (block_ext HB2.out hE3)
  clear hE3 HE2 HB2 HC5 b0 b1 b2
  obtain ⟨b0, b1, b2⟩ := wkb_cells HB3.out
  go_wp2_with fail
  refine (HCK.out _ HE3.out).mono ?_
  rintro e w4 ⟨rfl, hE4⟩
  have HE4 := Lib.hid (HE3.out.trans hE4)
  have HB4 := Lib.hid (block_ext HB3.out hE4)
  clear hE4 HE3 HB3 HCK b0 b1 b2
  have hee : (E != E) = false := by simp
  by_cases hz : E = 0
  · subst hz
    go_wp2_with fail
    go_ret
    exact ⟨rfl, HE4.out⟩
  have HBD := Lib.hid (HBAD.out hz)
  have hz0 : (E == 0) = false := by simp [hz]
  have hz1 : (E == E) = true := by simp
  clear HBAD hz
  go_wp2_with fail
  have HL := Lib.hid (Ints.lit w4 [2, 3, 5] 3 (by unfold maxLen; decide) (by decide))
  have HEL := Lib.hid (HE4.out.trans (Ext.alloc w4 (.cells (([2, 3, 5] : List Int).map (Value.int .i64)).toArray 3)))
  have HBL := Lib.hid (block_ext HB4.out (Ext.alloc w4 (.cells (([2, 3, 5] : List Int).map (Value.int .i64)).toArray 3)))
  refine (HJU.out _ HEL.out _ HL.out).mono ?_
  rintro e w5 ⟨u, rfl, hu, hE5⟩
  have HE5 := Lib.hid (HEL.out.trans hE5)
  have HB5 := Lib.hid (block_ext HBL.out hE5)
  obtain ⟨p, c, m, rfl, hvp, hvc, hvm⟩ := hu
  have HTA : Hid (TempV w5 (.agg #[p, c, m]) [2, 3, 5] [] (idM 3 3)) := ⟨_, _, _, rfl, hvp, hvc, hvm⟩
  obtain ⟨d4, e4, rfl, -⟩ := hvp.open
  obtain ⟨d5, e5, rfl, -⟩ := inCell.open hvc
  obtain ⟨d6, e6, rfl, -⟩ := inCell.open hvm
  have hl3 : ([2, 3, 5] : List Int).length = 3 := rfl
  have hi3 : (idM 3 3).length = 3 := rfl
  rw [hl3, hi3, List.length_nil] at HTA ⊢
  clear hE5 hvp hvc hvm HJU HE4 HB4 HEL HBL HL hl3 hi3
  obtain ⟨V4, hV4, hXV, hsV, hbV⟩ := tp_new w5 (.slice none 0 0) (.slice none 0 0) (.slice none 0 0)
  obtain ⟨r0, r1, r2, rf⟩ := tp_block hbV
  have f0 := rf 0; have f1 := rf 1; have f2 := rf 2
  have HBS := Lib.hid (tp_store hbV (.slice d4 3 e4) (.slice d5 0 e5) (.slice d6 3 e6))
  have HXU4 := Lib.hid (ext_tp hXV (Nat.le_refl _) (.slice d4 3 e4) (.slice d5 0 e5) (.slice d6 3 e6))
  clear hXV hsV hbV rf
  obtain ⟨U4, hU4⟩ : ∃ U, ((V4.setCell ⟨w5.heap.size, 0, none⟩ (.slice d4 3 e4)).setCell ⟨w5.heap.size, 1, none⟩ (.slice d5 0 e5)).setCell ⟨w5.heap.size, 2, none⟩ (.slice d6 3 e6) = U := ⟨_, rfl⟩
  rw [hU4] at HBS HXU4
  have HE5 := Lib.hid (HE5.out.trans HXU4.out)
  have HB5 := Lib.hid (block_ext HB5.out HXU4.out); have HTA := Lib.hid (HTA.out.ext HXU4.out)
  clear HXU4
  obtain ⟨b0, b1, b2⟩ := wkb_cells HB5.out
  go_wp2_with fail
  clear hU4 hV4 r0 r1 r2 f0 f1 f2
  refine ((HBD.out _ HE5.out).1).mono ?_
  rintro e w6 ⟨rfl, hE6⟩
  have HE6 := Lib.hid (HE5.out.trans hE6)
  have HB6 := Lib.hid (block_ext HB5.out hE6); have HBS := Lib.hid (block_ext HBS.out hE6); have HTA := Lib.hid (HTA.out.ext hE6)
  clear hE6 b0 b1 b2 HB5 HE5
  obtain ⟨b0, b1, b2⟩ := wkb_cells HB6.out
  go_wp2_with fail
  refine ((HBD.out _ HE6.out).2.1).mono ?_
  rintro e w7 ⟨rfl, hE7⟩
  have HE7 := Lib.hid (HE6.out.trans hE7)
  have HB7 := Lib.hid (block_ext HB6.out hE7); have HBS := Lib.hid (block_ext HBS.out hE7); have HTA := Lib.hid (HTA.out.ext hE7)
  clear hE7 b0 b1 b2 HB6 HE6
  obtain ⟨b0, b1, b2⟩ := wkb_cells HB7.out
  go_wp2_with fail
  refine ((HBD.out _ HE7.out).2.2.1).mono ?_
  rintro e w8 ⟨rfl, hE8⟩
  have HE8 := Lib.hid (HE7.out.trans hE8)
  have HB8 := Lib.hid (block_ext HB7.out hE8); have HBS := Lib.hid (block_ext HBS.out hE8); have HTA := Lib.hid (HTA.out.ext hE8)
  clear hE8 b0 b1 b2 HB7 HE7
  obtain ⟨b0, b1, b2⟩ := wkb_cells HB8.out
  obtain ⟨t0, t1, t2, -⟩ := tp_block HBS.out
  go_wp2_with fail
  refine (((HBD.out _ HE8.out).2.2.2.2.2.2 _ HTA.out).1).mono ?_
  rintro e w9 ⟨rfl, hE9⟩
  have HE9 := Lib.hid (HE8.out.trans hE9)
  have HB9 := Lib.hid (block_ext HB8.out hE9); have HBS := Lib.hid (block_ext HBS.out hE9); have HTA := Lib.hid (HTA.out.ext hE9)
  clear hE9 b0 b1 b2 HB8 HE8 t0 t1 t2
  obtain ⟨b0, b1, b2⟩ := wkb_cells HB9.out
  obtain ⟨t0, t1, t2, -⟩ := tp_block HBS.out
  go_wp2_with fail
  refine (((HBD.out _ HE9.out).2.2.2.2.2.2 _ HTA.out).2.1).mono ?_
  rintro e w10 ⟨rfl, hE10⟩
  have HE10 := Lib.hid (HE9.out.trans hE10)
  have HB10 := Lib.hid (block_ext HB9.out hE10); have HBS := Lib.hid (block_ext HBS.out hE10); have HTA := Lib.hid (HTA.out.ext hE10)
  clear hE10 b0 b1 b2 HB9 HE9 t0 t1 t2
  obtain ⟨b0, b1, b2⟩ := wkb_cells HB10.out
  obtain ⟨t0, t1, t2, -⟩ := tp_block HBS.out
  go_wp2_with fail
  refine (((HBD.out _ HE10.out).2.2.2.2.2.2 _ HTA.out).2.2).mono ?_
  rintro e w11 ⟨rfl, hE11⟩
  have HE11 := Lib.hid (HE10.out.trans hE11)
  have HB11 := Lib.hid (block_ext HB10.out hE11); have HBS := Lib.hid (block_ext HBS.out hE11); have HTA := Lib.hid (HTA.out.ext hE11)
  clear hE11 b0 b1 b2 HB10 HE10 t0 t1 t2
  clear HBS HTA
  obtain ⟨b0, b1, b2⟩ := wkb_cells HB11.out
  go_wp2_with fail
  refine ((HBD.out _ HE11.out).2.2.2.2.1).mono ?_
  rintro e w12 ⟨rfl, hE12⟩
  have HE12 := Lib.hid (HE11.out.trans hE12)
  have HB12 := Lib.hid (block_ext HB11.out hE12)
  clear hE12 b0 b1 b2 HB11 HE11
  obtain ⟨V5, hV5, hXV, hsV, hbV⟩ := wkb_new w12 (.slice none 0 0) (.slice none 0 0) (.slice none 0 0)
  obtain ⟨r0, r1, r2⟩ := wkb_cells hbV
  have f0 := wkb_free hbV 0; have f1 := wkb_free hbV 1; have f2 := wkb_free hbV 2
  have HBR := Lib.hid (wkb_store hbV (.slice none 0 0) (.slice none 0 0) (.slice none 0 0))
  have HXU5 := Lib.hid (ext_wkb hXV (Nat.le_refl _) (.slice none 0 0) (.slice none 0 0) (.slice none 0 0))
  clear hXV hsV hbV
  obtain ⟨w13, hU5⟩ : ∃ U, ((V5.setCell ⟨w12.heap.size, 0, none⟩ (.slice none 0 0)).setCell ⟨w12.heap.size, 1, none⟩ (.slice none 0 0)).setCell ⟨w12.heap.size, 2, none⟩ (.slice none 0 0) = U := ⟨_, rfl⟩
  rw [hU5] at HBR HXU5
  have HE13 := Lib.hid (HE12.out.trans HXU5.out)
  have HB13 := Lib.hid (block_ext HB12.out HXU5.out)
  clear HXU5 HE12 HB12
  obtain ⟨b0, b1, b2⟩ := wkb_cells HB13.out
  go_upto_region 16 with fail
  clear hU5 hV5 r0 r1 r2 f0 f1 f2
  go_cut [21, 22] from 85 to 90 (fun t21 t22 wx => ∃ g : Nat, t21 = .pointer (some ⟨g, 0, none⟩) ∧ t22 = .int .i64 E ∧ Hid (Ext w13 wx) ∧ Hid (wx.heap[g]? = some (.cells #[.slice none 0 0, .slice none 0 0, .slice none 0 0] 55 (0, 0))))
  case first =>
    refine region_anyE (fun w' => w'.cell? ⟨w.heap.size, 0, none⟩ = some (.slice ap np cp) ∧ w'.cell? ⟨w.heap.size, 1, none⟩ = some (.slice ac nc cc) ∧ w'.cell? ⟨w.heap.size, 2, none⟩ = some (.slice al nl cl) ∧ Hid (Ext w13 w')) 7 (by kernel_rfl) ⟨(Ext.drew w13).cell b0, (Ext.drew w13).cell b1, (Ext.drew w13).cell b2, Ext.drew w13⟩ (fun hHeld => ?_)
    generalize w13.drew = wd at hHeld ⊢
    refine anyE_take (v := ?_) 1 rfl (by kernel_rfl) (by kernel_rfl) (by kernel_rfl) (by kernel_rfl) (by kernel_rfl) (fun _ _ _ h => h) (Or.inl ⟨by rfl, ?_⟩) (by assumption) ?_
    rotate_left
    · ((intro w' hSw); (try dsimp only at hSw); (try go_simp); (try with_reducible rfl))
    (try simp only [Act.put, List.setIfInBounds_toArray, List.set_cons_zero, List.set_cons_succ])
    refine anyE_fork2 0 6 (by kernel_rfl) rfl rfl (fun K hK => ?_) (fun K hK => ?_)
    · go_simp
      (go_at_call 39; refine (example_any _).mono ?_)
      rintro e x1 ⟨ve, rfl, hEz, hve⟩
      have HVE := Lib.hid hve
      have hH2 := And.intro (hEz.cell hHeld.1) (And.intro (hEz.cell hHeld.2.1) (And.intro (hEz.cell hHeld.2.2.1) (Lib.hid (Ext.trans hHeld.2.2.2.out hEz))))
      go_wp2_with fail
      refine hK.out _ _ hH2 (fun hHeld => ?_)
      clear hEz hve
      clear hK K hH2
      (try simp only [Act.put, List.setIfInBounds_toArray, List.set_cons_zero, List.set_cons_succ])
      refine anyE_fork2 2 6 (by kernel_rfl) rfl rfl (fun K hK => ?_) (fun K hK => ?_)
      · go_simp
        (go_at_call 38; refine ((HBD.out _ (HE13.out.trans hHeld.2.2.2.out)).2.2.2.2.2.1 _ HVE.out).mono ?_)
        rintro e x2 ⟨rfl, hEz⟩
        have hH2 := And.intro (hEz.cell hHeld.1) (And.intro (hEz.cell hHeld.2.1) (And.intro (hEz.cell hHeld.2.2.1) (Lib.hid (Ext.trans hHeld.2.2.2.out hEz))))
        have HVE := Lib.hid (HVE.out.ext hEz)
        go_wp2_with fail
        refine hK.out _ _ hH2 (fun hHeld => ?_)
        clear hEz
        clear hK K hH2
        (try simp only [Act.put, List.setIfInBounds_toArray, List.set_cons_zero, List.set_cons_succ])
        refine anyE_takeW (v := ?_) 3 rfl (by kernel_rfl) (by kernel_rfl) (by kernel_rfl) (by decide) (fun _ _ _ h => h) (Or.inl ⟨by rfl, ?_⟩) (by assumption) ?_
        rotate_left
        · ((intro w'); (try go_simp); (try with_reducible rfl))
        (try simp only [Act.put, List.setIfInBounds_toArray, List.set_cons_zero, List.set_cons_succ])
        refine anyE_takeW (v := ?_) 4 rfl (by kernel_rfl) (by kernel_rfl) (by kernel_rfl) (by decide) (fun _ _ _ h => h) (Or.inl ⟨by rfl, ?_⟩) (by assumption) ?_
        rotate_left
        · ((intro w'); (try go_simp); (try with_reducible rfl))
        (try simp only [Act.put, List.setIfInBounds_toArray, List.set_cons_zero, List.set_cons_succ])
        refine anyE_takeW (v := ?_) 5 rfl (by kernel_rfl) (by kernel_rfl) (by kernel_rfl) (by decide) (fun _ _ _ h => h) (Or.inl ⟨by rfl, ?_⟩) (by assumption) ?_
        rotate_left
        · ((intro w'); (try go_simp); (try with_reducible rfl))
        (try simp only [Act.put, List.setIfInBounds_toArray, List.set_cons_zero, List.set_cons_succ])
        refine anyE_step 6 (by kernel_rfl) rfl (fun K hK => ?_)
        have HGE : Hid (w13.heap.size ≤ x2.heap.size) := hHeld.2.2.2.out.size
        go_simp
        obtain ⟨x3, hWn, hEz, hs, hb⟩ := wkb_new x2 (.slice none 0 0) (.slice none 0 0) (.slice none 0 0)
        rw [hWn]
        have HG := Lib.hid hb
        have hH2 := And.intro (hEz.cell hHeld.1) (And.intro (hEz.cell hHeld.2.1) (And.intro (hEz.cell hHeld.2.2.1) (Lib.hid (Ext.trans hHeld.2.2.2.out hEz))))
        have HVE := Lib.hid (HVE.out.ext hEz)
        refine hK.out _ _ hH2 (fun hHeld => ?_)
        clear hWn hEz hs hb
        clear hK K hH2
        (try simp only [Act.put, List.setIfInBounds_toArray, List.set_cons_zero, List.set_cons_succ])
        have kc0 := block_cell HG.out 0; have kc1 := block_cell HG.out 1; have kc2 := block_cell HG.out 2; have kf0 := block_free HG.out 0; have kf1 := block_free HG.out 1; have kf2 := block_free HG.out 2
        simp only [List.getElem?_toArray, List.getElem?_cons_zero, List.getElem?_cons_succ] at kc0 kc1 kc2
        have HST := Lib.hid (wkb_store HG.out (.slice none 0 0) (.slice none 0 0) (.slice none 0 0))
        have HSE : Hid (∀ g, w13.heap.size ≤ g → ∀ a b c, Ext w13 _) := fun g hg a b c => ext_wkb hHeld.2.2.2.out hg a b c
        refine anyE_stepZ 7 (by kernel_rfl) (by kernel_rfl) rfl (fun K hK => ?_)
        go_simp
        refine hK.out _ _ ?_
        clear hK K
        (try simp only [Act.put, List.setIfInBounds_toArray, List.set_cons_zero, List.set_cons_succ])
        refine anyE_last 8 (by kernel_rfl) (by kernel_rfl) (by kernel_rfl) rfl (fun K hK => ?_)
        go_simp
        refine hK.out _ _ ?_
        clear hK K
        (try simp only [Act.put, List.setIfInBounds_toArray, List.set_cons_zero, List.set_cons_succ])
        go_wp2_with fail
        go_meet
        exact ⟨_, rfl, rfl, HSE.out _ HGE.out _ _ _, HST.out⟩
      · have HGE : Hid (w13.heap.size ≤ x1.heap.size) := hHeld.2.2.2.out.size
        go_simp
        obtain ⟨x4, hWn, hEz, hs, hb⟩ := wkb_new x1 (.slice none 0 0) (.slice none 0 0) (.slice none 0 0)
        rw [hWn]
        have HG := Lib.hid hb
        have hH2 := And.intro (hEz.cell hHeld.1) (And.intro (hEz.cell hHeld.2.1) (And.intro (hEz.cell hHeld.2.2.1) (Lib.hid (Ext.trans hHeld.2.2.2.out hEz))))
        have HVE := Lib.hid (HVE.out.ext hEz)
        refine hK.out _ _ hH2 (fun hHeld => ?_)
        clear hWn hEz hs hb
        clear hK K hH2
        (try simp only [Act.put, List.setIfInBounds_toArray, List.set_cons_zero, List.set_cons_succ])
        refine anyE_step 2 (by kernel_rfl) rfl (fun K hK => ?_)
        go_simp
        (go_at_call 38; refine ((HBD.out _ (HE13.out.trans hHeld.2.2.2.out)).2.2.2.2.2.1 _ HVE.out).mono ?_)
        rintro e x5 ⟨rfl, hEz⟩
        have hH2 := And.intro (hEz.cell hHeld.1) (And.intro (hEz.cell hHeld.2.1) (And.intro (hEz.cell hHeld.2.2.1) (Lib.hid (Ext.trans hHeld.2.2.2.out hEz))))
        have HVE := Lib.hid (HVE.out.ext hEz)
        have HG := Lib.hid (block_ext HG.out hEz)
        go_wp2_with fail
        refine hK.out _ _ hH2 (fun hHeld => ?_)
        clear hEz
        clear hK K hH2
        (try simp only [Act.put, List.setIfInBounds_toArray, List.set_cons_zero, List.set_cons_succ])
        refine anyE_takeW (v := ?_) 3 rfl (by kernel_rfl) (by kernel_rfl) (by kernel_rfl) (by decide) (fun _ _ _ h => h) (Or.inl ⟨by rfl, ?_⟩) (by assumption) ?_
        rotate_left
        · ((intro w'); (try go_simp); (try with_reducible rfl))
        (try simp only [Act.put, List.setIfInBounds_toArray, List.set_cons_zero, List.set_cons_succ])
        refine anyE_takeW (v := ?_) 4 rfl (by kernel_rfl) (by kernel_rfl) (by kernel_rfl) (by decide) (fun _ _ _ h => h) (Or.inl ⟨by rfl, ?_⟩) (by assumption) ?_
        rotate_left
        · ((intro w'); (try go_simp); (try with_reducible rfl))
        (try simp only [Act.put, List.setIfInBounds_toArray, List.set_cons_zero, List.set_cons_succ])
        refine anyE_takeW (v := ?_) 5 rfl (by kernel_rfl) (by kernel_rfl) (by kernel_rfl) (by decide) (fun _ _ _ h => h) (Or.inl ⟨by rfl, ?_⟩) (by assumption) ?_
        rotate_left
        · ((intro w'); (try go_simp); (try with_reducible rfl))
        (try simp only [Act.put, List.setIfInBounds_toArray, List.set_cons_zero, List.set_cons_succ])
        have kc0 := block_cell HG.out 0; have kc1 := block_cell HG.out 1; have kc2 := block_cell HG.out 2; have kf0 := block_free HG.out 0; have kf1 := block_free HG.out 1; have kf2 := block_free HG.out 2
        simp only [List.getElem?_toArray, List.getElem?_cons_zero, List.getElem?_cons_succ] at kc0 kc1 kc2
        have HST := Lib.hid (wkb_store HG.out (.slice none 0 0) (.slice none 0 0) (.slice none 0 0))
        have HSE : Hid (∀ g, w13.heap.size ≤ g → ∀ a b c, Ext w13 _) := fun g hg a b c => ext_wkb hHeld.2.2.2.out hg a b c
        refine anyE_stepZ 7 (by kernel_rfl) (by kernel_rfl) rfl (fun K hK => ?_)
        go_simp
        refine hK.out _ _ ?_
        clear hK K
        (try simp only [Act.put, List.setIfInBounds_toArray, List.set_cons_zero, List.set_cons_succ])
        refine anyE_last 8 (by kernel_rfl) (by kernel_rfl) (by kernel_rfl) rfl (fun K hK => ?_)
        go_simp
        refine hK.out _ _ ?_
        clear hK K
        (try simp only [Act.put, List.setIfInBounds_toArray, List.set_cons_zero, List.set_cons_succ])
        go_wp2_with fail
        go_meet
        exact ⟨_, rfl, rfl, HSE.out _ HGE.out _ _ _, HST.out⟩
    · have HGE : Hid (w13.heap.size ≤ wd.heap.size) := hHeld.2.2.2.out.size
      go_simp
      obtain ⟨x6, hWn, hEz, hs, hb⟩ := wkb_new wd (.slice none 0 0) (.slice none 0 0) (.slice none 0 0)
      rw [hWn]
      have HG := Lib.hid hb
      have hH2 := And.intro (hEz.cell hHeld.1) (And.intro (hEz.cell hHeld.2.1) (And.intro (hEz.cell hHeld.2.2.1) (Lib.hid (Ext.trans hHeld.2.2.2.out hEz))))
      refine hK.out _ _ hH2 (fun hHeld => ?_)
      clear hWn hEz hs hb
      clear hK K hH2
      (try simp only [Act.put, List.setIfInBounds_toArray, List.set_cons_zero, List.set_cons_succ])
      refine anyE_step 0 (by kernel_rfl) rfl (fun K hK => ?_)
      go_simp
      (go_at_call 39; refine (example_any _).mono ?_)
      rintro e x7 ⟨ve, rfl, hEz, hve⟩
      have HVE := Lib.hid hve
      have hH2 := And.intro (hEz.cell hHeld.1) (And.intro (hEz.cell hHeld.2.1) (And.intro (hEz.cell hHeld.2.2.1) (Lib.hid (Ext.trans hHeld.2.2.2.out hEz))))
      have HG := Lib.hid (block_ext HG.out hEz)
      go_wp2_with fail
      refine hK.out _ _ hH2 (fun hHeld => ?_)
      clear hEz hve
      clear hK K hH2
      (try simp only [Act.put, List.setIfInBounds_toArray, List.set_cons_zero, List.set_cons_succ])
      refine anyE_step 2 (by kernel_rfl) rfl (fun K hK => ?_)
      go_simp
      (go_at_call 38; refine ((HBD.out _ (HE13.out.trans hHeld.2.2.2.out)).2.2.2.2.2.1 _ HVE.out).mono ?_)
      rintro e x8 ⟨rfl, hEz⟩
      have hH2 := And.intro (hEz.cell hHeld.1) (And.intro (hEz.cell hHeld.2.1) (And.intro (hEz.cell hHeld.2.2.1) (Lib.hid (Ext.trans hHeld.2.2.2.out hEz))))
      have HVE := Lib.hid (HVE.out.ext hEz)
      have HG := Lib.hid (block_ext HG.out hEz)
      go_wp2_with fail
      refine hK.out _ _ hH2 (fun hHeld => ?_)
      clear hEz
      clear hK K hH2
      (try simp only [Act.put, List.setIfInBounds_toArray, List.set_cons_zero, List.set_cons_succ])
      refine anyE_takeW (v := ?_) 3 rfl (by kernel_rfl) (by kernel_rfl) (by kernel_rfl) (by decide) (fun _ _ _ h => h) (Or.inl ⟨by rfl, ?_⟩) (by assumption) ?_
      rotate_left
      · ((intro w'); (try go_simp); (try with_reducible rfl))
      (try simp only [Act.put, List.setIfInBounds_toArray, List.set_cons_zero, List.set_cons_succ])
      refine anyE_takeW (v := ?_) 4 rfl (by kernel_rfl) (by kernel_rfl) (by kernel_rfl) (by decide) (fun _ _ _ h => h) (Or.inl ⟨by rfl, ?_⟩) (by assumption) ?_
      rotate_left
      · ((intro w'); (try go_simp); (try with_reducible rfl))
      (try simp only [Act.put, List.setIfInBounds_toArray, List.set_cons_zero, List.set_cons_succ])
      refine anyE_takeW (v := ?_) 5 rfl (by kernel_rfl) (by kernel_rfl) (by kernel_rfl) (by decide) (fun _ _ _ h => h) (Or.inl ⟨by rfl, ?_⟩) (by assumption) ?_
      rotate_left
      · ((intro w'); (try go_simp); (try with_reducible rfl))
      (try simp only [Act.put, List.setIfInBounds_toArray, List.set_cons_zero, List.set_cons_succ])
      have kc0 := block_cell HG.out 0; have kc1 := block_cell HG.out 1; have kc2 := block_cell HG.out 2; have kf0 := block_free HG.out 0; have kf1 := block_free HG.out 1; have kf2 := block_free HG.out 2
      simp only [List.getElem?_toArray, List.getElem?_cons_zero, List.getElem?_cons_succ] at kc0 kc1 kc2
      have HST := Lib.hid (wkb_store HG.out (.slice none 0 0) (.slice none 0 0) (.slice none 0 0))
      have HSE : Hid (∀ g, w13.heap.size ≤ g → ∀ a b c, Ext w13 _) := fun g hg a b c => ext_wkb hHeld.2.2.2.out hg a b c
      refine anyE_stepZ 7 (by kernel_rfl) (by kernel_rfl) rfl (fun K hK => ?_)
      go_simp
      refine hK.out _ _ ?_
      clear hK K
      (try simp only [Act.put, List.setIfInBounds_toArray, List.set_cons_zero, List.set_cons_succ])
      refine anyE_last 8 (by kernel_rfl) (by kernel_rfl) (by kernel_rfl) rfl (fun K hK => ?_)
      go_simp
      refine hK.out _ _ ?_
      clear hK K
      (try simp only [Act.put, List.setIfInBounds_toArray, List.set_cons_zero, List.set_cons_succ])
      go_wp2_with fail
      go_meet
      exact ⟨_, rfl, rfl, HSE.out _ HGE.out _ _ _, HST.out⟩
  case rest =>
    obtain ⟨g, rfl, rfl, HX, HG⟩ := hcut
    rename_i wx
    have HEX := Lib.hid (HE13.out.trans HX.out)
    have HBX := Lib.hid (block_ext HB13.out HX.out); have HRX := Lib.hid (block_ext HBR.out HX.out)
    clear b0 b1 b2 HE13 HB13 HBR HX
    obtain ⟨b0, b1, b2⟩ := wkb_cells HBX.out
    go_wp2_with fail
    refine ((HBD.out _ HEX.out).2.2.2.1).mono ?_
    rintro e w14 ⟨rfl, hE14⟩
    have HE14 := Lib.hid (HEX.out.trans hE14)
    have HR14 := Lib.hid (block_ext HRX.out hE14); have HG14 := Lib.hid (block_ext HG.out hE14)
    clear hE14 b0 b1 b2 HBX HRX HG HEX HBD
    obtain ⟨b0, b1, b2⟩ := wkb_cells HR14.out
    go_wp2_with fail
    refine (empty51_nil _).mono ?_
    rintro e w15 ⟨rfl, hE15⟩
    have HE15 := Lib.hid (HE14.out.trans hE15)
    have HG15 := Lib.hid (block_ext HG14.out hE15)
    clear hE15 b0 b1 b2 HR14 HG14 HE14
    obtain ⟨b0, b1, b2⟩ := wkb_cells HG15.out
    go_wp2_with fail
    refine (empty51_nil _).mono ?_
    rintro e w16 ⟨rfl, hE16⟩
    have HE16 := Lib.hid (HE15.out.trans hE16)
    clear hE16 b0 b1 b2
    go_wp2_with fail
    go_ret
    exact ⟨rfl, HE16.out⟩
end Go.Proofs.YtjihfabhgcfjnaaGreatDoor
