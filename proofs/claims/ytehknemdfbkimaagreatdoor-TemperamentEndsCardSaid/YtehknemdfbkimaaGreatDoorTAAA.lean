/- Merged: TEndP. -/
import Derived.Test.YtehknemdfbkimaaGreatDoorSBE
import Derived.Test.YtehknemdfbkimaaGreatDoorSAZ
/- The reference's Identity; the temperaments of no rows; temperament.Just and Trivial. Printed by gen/tend.py. -/
namespace Go.Proofs.YtehknemdfbkimaaGreatDoor
set_option linter.unusedVariables false
set_option linter.unusedSimpArgs false
open Go.RowKit

def idM (n i : Nat) : List (List Int) := (List.range i).map fun k => (List.replicate n (0 : Int)).set k 1
theorem idM_succ (n i : Nat) : idM n (i + 1) = idM n i ++ [(List.replicate n (0 : Int)).set i 1] := by
  unfold idM; rw [List.range_succ, List.map_append]; rfl
theorem idM_len (n i : Nat) : (idM n i).length = i := by simp [idM]
theorem unit_bd (n i : Nat) : ∀ x ∈ (List.replicate n (0 : Int)).set i 1, -9223372036854775808 ≤ x ∧ x ≤ 9223372036854775807 := by
  intro x hx
  rcases List.mem_or_eq_of_mem_set hx with h | h
  · rw [(List.mem_replicate.1 h).2]; omega
  · rw [h]; omega
set_option maxRecDepth 100000 in
set_option maxHeartbeats 4000000 in
theorem refIdent_any (n : Nat) (hn : n ≤ 12) (w : World) :
    Calls Tryz.prog 57 #[.int .i64 n] w fun e w' => ∃ a c, e = .returned (.slice a n c) ∧ Rows2 w' (.slice a n c) (idM n n) ∧ Ext w w' := by
  obtain ⟨i0, hi, hz0, hz1, hz2⟩ := info_parts infoInt
  have HI := Lib.hid hi; have HZ0 := Lib.hid hz0; have HZ1 := Lib.hid hz1; have HZ2 := Lib.hid hz2
  clear hi hz0 hz1 hz2
  go_enter Tryz.func57, Tryz.ntmps57
  go_wp2_with fail
  go_loopw [4, 3] (fun t so wr => ∃ (i : Nat) (Q : Nat → Prop), i ≤ n ∧ t = .int .i64 i ∧ Hid (Ext w wr) ∧ Hid (SOk Q w.heap.size wr) ∧ Hid (∃ a c, so = .slice a i c) ∧ Hid (BuildS wr Q w.heap.size 39 1 so rowC (idM n i))) (fun t _ _ => n - (intOf t).toNat)
  case atStart => exact ⟨0, fun _ => False, by omega, rfl, Ext.refl _, fun b hb => hb.elim, ⟨none, 0, rfl⟩, BuildS.nil _ _ _ _ _ _⟩
  case round =>
    obtain ⟨i, Q, hin, rfl, HE, HOK, HSL, HBu⟩ := hrel
    obtain ⟨wo, rfl⟩ : ∃ wo : World, wo = wr := ⟨_, rfl⟩
    by_cases hlt : i < n
    · go_wp2_with (at_make; refine wpList_make_full _ rfl _ _ 39 rfl wo.heap.size 3 i0 (.int .i64 0) 1 Tryz.underlying39 HI.out HZ0.out HZ1.out _ _ _ _ n rfl rfl rfl rfl ?c1 ?c2 ?c3 ?_)
      any_goals (first | (rw [HZ2.out]; omega) | (unfold maxLen; omega) | exact Nat.le_refl _)
      intro w3 hown hgrow
      rw [made_ints] at hown
      have hrf := RowF.ofOwn hown
      have c0 := hrf.cell i 0 (by simp [hlt])
      have f0 := hrf.free i
      have HE3 := Lib.hid (ext_grown hgrow)
      have hO := (hown.stored i (.int .i64 1)).1
      rw [← List.map_set] at hO
      have hrl : ((List.replicate n (0 : Int)).set i 1).length = n := by simp
      have HRL := Lib.hid hrl
      have HSF : Hid (SafeS (w3.setCell ⟨wo.heap.size, i, none⟩ (.int .i64 1)) Q fun W => rowC W [.slice (some ⟨wo.heap.size, 0, none⟩) n n] ((List.replicate n (0 : Int)).set i 1)) := (SafeS.owns hO (fun k hk hs => by have h1 := (hO.lt k hk).1; have h2 := (HOK.out k hs).2; omega)).mono (fun W h => ⟨_, rfl, Ints.of_owns (by rw [hrl]; exact h) (unit_bd n i)⟩)
      have HE4 : Hid (Ext wo (w3.setCell ⟨wo.heap.size, i, none⟩ (.int .i64 1))) := ((HE3.out.grownS (· = wo.heap.size)).store (S := (· = wo.heap.size)) rfl i (.int .i64 1)).belowE (fun k e => by omega) (Nat.le_refl _)
      have HB5 := Lib.hid (HBu.out.ext HE4.out)
      have HOK5 := Lib.hid (HOK.out.grow HE4.out.size)
      have HE5 := Lib.hid (HE.out.trans HE4.out)
      have hs5 := HE5.out.size
      have HN : Hid (idM n (i + 1) = idM n i ++ [(List.replicate n (0 : Int)).set i 1]) := idM_succ n i
      have HJL : Hid ((idM n i).length = i) := idM_len n i
      have HJ : Hid ((idM n i).length < 1000000) := by unfold Hid; rw [HJL.out]; omega
      obtain ⟨so, cs, rfl⟩ := HSL.out
      clear hown hgrow hrf hrl hO HBu HOK
      go_wp2_with (at_builtin; go_must (refine wpList_append_buildS _ rfl _ _ 28 rfl Q w.heap.size 39 (.slice none 0 0) 1 24 Tryz.underlying28 infoRow rfl (by decide) (.slice so i cs) rowC (idM n i) ((List.replicate n (0 : Int)).set i 1) #[.slice (some ⟨wo.heap.size, 0, none⟩) n n] 39 rfl HB5.out w3.heap.size rfl (by simp [World.setCell]) rfl ?a1 HSF.out HJ.out (by decide) hs5 w.heap.size (Nat.le_refl _) HOK5.out ?_))
      case a1 => simp [Value.oneCell']
      intro v' w6 Q6 hok6 hS61 hS62 hB6 hg6 hb6 hs6 hsafe6
      have HV : Hid (∃ a c, v' = .slice a (i + 1) c) := by
        obtain ⟨gv, cv, hv, -⟩ := hB6.shape (by simp)
        refine ⟨some ⟨gv, 0, none⟩, cv, ?_⟩
        rw [hv, List.length_append, HJL.out]; rfl
      rw [← HN.out] at hB6
      have HB6 := Lib.hid hB6
      have HOK6 := Lib.hid hok6
      have HX6 := Lib.hid (Below.trans HE5.out hb6)
      clear hok6 hS61 hS62 hB6 hg6 hb6 hs6 hsafe6
      go_wp2_with fail
      go_roundw
      case rel => exact ⟨i + 1, Q6, by omega, by go_num, HX6.out, HOK6.out, HV, HB6.out⟩
      case measure => simp [intOf]; omega
    · obtain rfl : i = n := by omega
      obtain ⟨so, cs, rfl⟩ := HSL.out
      have HL := Lib.hid HBu.out.list
      clear HBu HOK HSL
      go_wp2_with fail
      go_ret
      exact ⟨so, cs, rfl, HL.out, HE.out⟩

/-- The temperaments of no rows. -/
theorem ends_right {n : Nat} (h1 : 1 ≤ n) (h6 : n ≤ 6) : ∃ F, FromD n F [] [] (idM n n) [] ∧ ∀ P : List Int, primesE P = 0 → P.length = n → RightT n F P [] (idM n n) ∧ RightT n F P (idM n n) [] := by
  have key : ∀ k : Nat, 1 ≤ k → k ≤ 6 → (latE k [] = 0 ∧ formO k 30 k [] = some [] ∧ chkE k [] = 0 ∧ chkE k (idM k k) = 0 ∧ kerS 30 k [] = some (idM k k) ∧ kerS 30 k (idM k k) = some []) := by
    intro k a b
    have hc : k = 1 ∨ k = 2 ∨ k = 3 ∨ k = 4 ∨ k = 5 ∨ k = 6 := by omega
    rcases hc with h | h | h | h | h | h <;> (subst h; decide +kernel)
  obtain ⟨k1, k2, k3, k4, k5, k6⟩ := key n h1 h6
  have hb : ∀ x ∈ idM n n, RowLe 1000000000 x ∧ x.length = n := fun x hx => by
    unfold idM at hx
    obtain ⟨i, -, rfl⟩ := List.mem_map.1 hx
    refine ⟨fun y hy => ?_, by simp⟩
    rcases List.mem_or_eq_of_mem_set hy with h | h
    · rw [(List.mem_replicate.1 h).2]; decide
    · rw [h]; decide
  have h0 : ∀ x ∈ ([] : List (List Int)), RowLe 1000000000 x ∧ x.length = n := fun x hx => by cases hx
  have hl := idM_len n n
  exact ⟨30, ⟨h1, h6, k1, k2, ⟨by simp, h0⟩, k3, k5, k6, by omega, by simp, hb, h0⟩, fun P hP hPl => ⟨⟨h1, h6, hP, hPl, k3, k5, k6, by simp, by omega, h0, hb⟩, ⟨h1, h6, hP, hPl, k4, k6, k5, by omega, by simp, hb, h0⟩⟩⟩

set_option maxRecDepth 100000 in
set_option maxHeartbeats 2000000 in
theorem from_bad (P : List Int) (vp v : Value) (w : World) (hP : Ints w vp P) (hE : primesE P ≠ 0) :
    Calls Tryz.prog 112 #[vp, v] w fun e w' => e = .returned (.tuple #[.slice none 0 0, .slice none 0 0, .int .i64 (primesE P)]) ∧ Ext w w' := by
  have HPC := Lib.hid (primesChk_any P vp w hP)
  obtain ⟨E, hEE⟩ : ∃ E, primesE P = E := ⟨_, rfl⟩
  rw [hEE] at HPC hE ⊢
  have hz : (E != 0) = true := by simp [hE]
  obtain ⟨ap, cp, rfl, -⟩ := hP.open
  clear hP hE hEE
  go_enter Tryz.func112, Tryz.ntmps112
  go_wp2_with fail
  refine HPC.out.mono ?_
  rintro e w1 ⟨rfl, rfl⟩
  clear HPC
  go_wp2_with fail
  go_ret3
  exact ⟨rfl, Ext.refl _⟩

set_option maxRecDepth 100000 in
set_option maxHeartbeats 4000000 in
theorem fromCommas_bad (P : List Int) (vp : Value) (w : World) (hP : Ints w vp P) (hE : primesE P ≠ 0) :
    Calls Tryz.prog 48 #[vp, .slice none 0 0] w fun e w' => e = .returned (.tuple #[.agg #[.slice none 0 0, .slice none 0 0, .slice none 0 0], .int .i64 (primesE P)]) ∧ Ext w w' := by
  have HFR := Lib.hid (fun W (hW : Ext w W) => from_bad P vp (.slice none 0 0) W (hP.ext hW) hE)
  obtain ⟨E, hEE⟩ : ∃ E, primesE P = E := ⟨_, rfl⟩
  rw [hEE] at HFR hE ⊢
  have hz : (E != 0) = true := by simp [hE]
  obtain ⟨ap, cp, rfl, -⟩ := hP.open
  clear hP hE hEE
  go_enter Tryz.func48, Tryz.ntmps48
  obtain ⟨W1, hW1, hE1, hs1, hb1⟩ := tp_new w (.slice none 0 0) (.slice none 0 0) (.slice none 0 0)
  have HB1 := Lib.hid hb1; have HE1 := Lib.hid hE1
  clear hE1 hs1 hb1
  go_wp2_with fail
  refine (HFR.out _ HE1.out).mono ?_
  rintro e w2 ⟨rfl, hE2⟩
  have HB2 := Lib.hid (block_ext HB1.out hE2)
  have HE2 := Lib.hid (HE1.out.trans hE2)
  clear hE2 HFR HB1 HE1 hW1
  obtain ⟨b0, b1, b2, bf⟩ := tp_block HB2.out
  have f0 := bf 0; have f1 := bf 1; have f2 := bf 2
  clear bf
  go_wp2_with fail
  have hkA := tp_store HB2.out (.slice none 0 0) (.slice none 0 0) (.slice none 0 0)
  refine bodyPost_ret (results_rowtmp (by rfl) _ _ w.heap.size 65 #[.slice none 0 0, .slice none 0 0, .slice none 0 0] (0, 0) _ (by rfl) hkA Tryz.underlying65 (by rfl) (by kernel_rfl)) (by rfl) ?_
  exact ⟨rfl, ext_tp HE2.out (Nat.le_refl _) _ _ _⟩

set_option maxRecDepth 100000 in
set_option maxHeartbeats 4000000 in
theorem fromMapping_bad (P : List Int) (vp : Value) (w : World) (hP : Ints w vp P) (hE : primesE P ≠ 0) :
    Calls Tryz.prog 49 #[vp, .slice none 0 0] w fun e w' => e = .returned (.tuple #[.agg #[.slice none 0 0, .slice none 0 0, .slice none 0 0], .int .i64 (primesE P)]) ∧ Ext w w' := by
  have HFR := Lib.hid (fun W (hW : Ext w W) => from_bad P vp (.slice none 0 0) W (hP.ext hW) hE)
  obtain ⟨E, hEE⟩ : ∃ E, primesE P = E := ⟨_, rfl⟩
  rw [hEE] at HFR hE ⊢
  have hz : (E != 0) = true := by simp [hE]
  obtain ⟨ap, cp, rfl, -⟩ := hP.open
  clear hP hE hEE
  go_enter Tryz.func49, Tryz.ntmps49
  obtain ⟨W1, hW1, hE1, hs1, hb1⟩ := tp_new w (.slice none 0 0) (.slice none 0 0) (.slice none 0 0)
  have HB1 := Lib.hid hb1; have HE1 := Lib.hid hE1
  clear hE1 hs1 hb1
  go_wp2_with fail
  refine (HFR.out _ HE1.out).mono ?_
  rintro e w2 ⟨rfl, hE2⟩
  have HB2 := Lib.hid (block_ext HB1.out hE2)
  have HE2 := Lib.hid (HE1.out.trans hE2)
  clear hE2 HFR HB1 HE1 hW1
  obtain ⟨b0, b1, b2, bf⟩ := tp_block HB2.out
  have f0 := bf 0; have f1 := bf 1; have f2 := bf 2
  clear bf
  go_wp2_with fail
  have hkA := tp_store HB2.out (.slice none 0 0) (.slice none 0 0) (.slice none 0 0)
  refine bodyPost_ret (results_rowtmp (by rfl) _ _ w.heap.size 65 #[.slice none 0 0, .slice none 0 0, .slice none 0 0] (0, 0) _ (by rfl) hkA Tryz.underlying65 (by rfl) (by kernel_rfl)) (by rfl) ?_
  exact ⟨rfl, ext_tp HE2.out (Nat.le_refl _) _ _ _⟩

set_option maxRecDepth 100000 in
set_option maxHeartbeats 4000000 in
theorem just_any (n F : Nat) (P : List Int) (vp : Value) (w : World) (hP : Ints w vp P) (hE : primesE P = 0) (hPl : P.length = n) (hD : FromD n F [] [] (idM n n) []) (hlib : LibT w) (hp : 0 < w.heap.size) :
    Calls Tryz.prog 51 #[vp] w fun e w' => ∃ u, e = .returned (.tuple #[u, .int .i64 0]) ∧ TempV w' u P [] (idM n n) ∧ Ext w w' := by
  have HFR := Lib.hid (fun W (hW : Ext w W) => fromCommas_any n F P [] [] (idM n n) [] vp (.slice none 0 0) W (hP.ext hW) (rows_nil W) hE hPl hD (hlib.ext hW) (Nat.lt_of_lt_of_le hp hW.size))
  obtain ⟨ap, cp, rfl, -⟩ := hP.open
  rw [hPl] at HFR ⊢
  clear hP hE hD hlib hp hPl
  go_enter Tryz.func51, Tryz.ntmps51
  obtain ⟨W1, hW1, hE1, hs1, hb1⟩ := tp_new w (.slice none 0 0) (.slice none 0 0) (.slice none 0 0)
  have HB1 := Lib.hid hb1; have HE1 := Lib.hid hE1; have HS1 := Lib.hid hs1
  clear hE1 hs1 hb1
  go_wp2_with fail
  refine (HFR.out _ HE1.out).mono ?_
  rintro e w2 ⟨u, rfl, hu, hE2⟩
  have HB2 := Lib.hid (block_ext HB1.out hE2)
  have HE2 := Lib.hid (HE1.out.trans hE2)
  have HU := Lib.hid hu
  obtain ⟨p, c, m, rfl, hvp, hvc, hvm⟩ := hu.now
  obtain ⟨a1, c1, rfl, -⟩ := hvp.open
  obtain ⟨a2, c2, rfl, -⟩ := inCell.open hvc
  obtain ⟨a3, c3, rfl, -⟩ := inCell.open hvm
  clear hE2 hu HFR HB1 HE1 hW1 hvp hvc hvm
  obtain ⟨b0, b1, b2, bf⟩ := tp_block HB2.out
  have f0 := bf 0; have f1 := bf 1; have f2 := bf 2
  clear bf
  generalize hk1 : P.length = k1 at HU ⊢
  generalize hk2 : ([] : List (List Int)).length = k2 at HU ⊢
  generalize hk3 : ((idM n n) : List (List Int)).length = k3 at HU ⊢
  clear hk1 hk2 hk3
  go_wp2_with fail
  have hkA := tp_store HB2.out (.slice a1 k1 c1) (.slice a2 k2 c2) (.slice a3 k3 c3)
  refine bodyPost_ret (results_rowtmp (by rfl) _ _ w.heap.size 65 #[.slice a1 k1 c1, .slice a2 k2 c2, .slice a3 k3 c3] (0, 0) _ (by rfl) hkA Tryz.underlying65 (by rfl) (by kernel_rfl)) (by rfl) ?_
  have hG : ∀ (x y z : Value), GrownS (· < W1.heap.size) w2 (((w2.setCell ⟨w.heap.size, 0, none⟩ x).setCell ⟨w.heap.size, 1, none⟩ y).setCell ⟨w.heap.size, 2, none⟩ z) := fun x y z => by
    have hlt : w.heap.size < W1.heap.size := by have := HS1.out; omega
    exact (((GrownS.refl _ w2).setCell (g := w.heap.size) hlt 0 x).setCell (g := w.heap.size) hlt 1 y).setCell (g := w.heap.size) hlt 2 z
  exact ⟨_, rfl, HU.out _ (hG _ _ _), ext_tp HE2.out (Nat.le_refl _) _ _ _⟩

set_option maxRecDepth 100000 in
set_option maxHeartbeats 4000000 in
theorem just_bad (P : List Int) (vp : Value) (w : World) (hP : Ints w vp P) (hE : primesE P ≠ 0) :
    Calls Tryz.prog 51 #[vp] w fun e w' => e = .returned (.tuple #[.agg #[.slice none 0 0, .slice none 0 0, .slice none 0 0], .int .i64 (primesE P)]) ∧ Ext w w' := by
  have HFR := Lib.hid (fun W (hW : Ext w W) => fromCommas_bad P vp W (hP.ext hW) hE)
  obtain ⟨E, hEE⟩ : ∃ E, primesE P = E := ⟨_, rfl⟩
  rw [hEE] at HFR ⊢
  obtain ⟨ap, cp, rfl, -⟩ := hP.open
  clear hP hE hEE
  go_enter Tryz.func51, Tryz.ntmps51
  obtain ⟨W1, hW1, hE1, hs1, hb1⟩ := tp_new w (.slice none 0 0) (.slice none 0 0) (.slice none 0 0)
  have HB1 := Lib.hid hb1; have HE1 := Lib.hid hE1
  clear hE1 hs1 hb1
  go_wp2_with fail
  refine (HFR.out _ HE1.out).mono ?_
  rintro e w2 ⟨rfl, hE2⟩
  have HB2 := Lib.hid (block_ext HB1.out hE2)
  have HE2 := Lib.hid (HE1.out.trans hE2)
  clear hE2 HFR HB1 HE1 hW1
  obtain ⟨b0, b1, b2, bf⟩ := tp_block HB2.out
  have f0 := bf 0; have f1 := bf 1; have f2 := bf 2
  clear bf
  go_wp2_with fail
  have hkA := tp_store HB2.out (.slice none 0 0) (.slice none 0 0) (.slice none 0 0)
  refine bodyPost_ret (results_rowtmp (by rfl) _ _ w.heap.size 65 #[.slice none 0 0, .slice none 0 0, .slice none 0 0] (0, 0) _ (by rfl) hkA Tryz.underlying65 (by rfl) (by kernel_rfl)) (by rfl) ?_
  exact ⟨rfl, ext_tp HE2.out (Nat.le_refl _) _ _ _⟩

set_option maxRecDepth 100000 in
set_option maxHeartbeats 4000000 in
theorem trivial18_any (n F : Nat) (P : List Int) (vp : Value) (w : World) (hP : Ints w vp P) (hE : primesE P = 0) (hPl : P.length = n) (hD : FromD n F [] [] (idM n n) []) (hlib : LibT w) (hp : 0 < w.heap.size) :
    Calls Tryz.prog 52 #[vp] w fun e w' => ∃ u, e = .returned (.tuple #[u, .int .i64 0]) ∧ TempV w' u P (idM n n) [] ∧ Ext w w' := by
  have HFR := Lib.hid (fun W (hW : Ext w W) => fromMapping_any n F P [] [] (idM n n) [] vp (.slice none 0 0) W (hP.ext hW) (rows_nil W) hE hPl hD (hlib.ext hW) (Nat.lt_of_lt_of_le hp hW.size))
  obtain ⟨ap, cp, rfl, -⟩ := hP.open
  rw [hPl] at HFR ⊢
  clear hP hE hD hlib hp hPl
  go_enter Tryz.func52, Tryz.ntmps52
  obtain ⟨W1, hW1, hE1, hs1, hb1⟩ := tp_new w (.slice none 0 0) (.slice none 0 0) (.slice none 0 0)
  have HB1 := Lib.hid hb1; have HE1 := Lib.hid hE1; have HS1 := Lib.hid hs1
  clear hE1 hs1 hb1
  go_wp2_with fail
  refine (HFR.out _ HE1.out).mono ?_
  rintro e w2 ⟨u, rfl, hu, hE2⟩
  have HB2 := Lib.hid (block_ext HB1.out hE2)
  have HE2 := Lib.hid (HE1.out.trans hE2)
  have HU := Lib.hid hu
  obtain ⟨p, c, m, rfl, hvp, hvc, hvm⟩ := hu.now
  obtain ⟨a1, c1, rfl, -⟩ := hvp.open
  obtain ⟨a2, c2, rfl, -⟩ := inCell.open hvc
  obtain ⟨a3, c3, rfl, -⟩ := inCell.open hvm
  clear hE2 hu HFR HB1 HE1 hW1 hvp hvc hvm
  obtain ⟨b0, b1, b2, bf⟩ := tp_block HB2.out
  have f0 := bf 0; have f1 := bf 1; have f2 := bf 2
  clear bf
  generalize hk1 : P.length = k1 at HU ⊢
  generalize hk2 : ((idM n n) : List (List Int)).length = k2 at HU ⊢
  generalize hk3 : ([] : List (List Int)).length = k3 at HU ⊢
  clear hk1 hk2 hk3
  go_wp2_with fail
  have hkA := tp_store HB2.out (.slice a1 k1 c1) (.slice a2 k2 c2) (.slice a3 k3 c3)
  refine bodyPost_ret (results_rowtmp (by rfl) _ _ w.heap.size 65 #[.slice a1 k1 c1, .slice a2 k2 c2, .slice a3 k3 c3] (0, 0) _ (by rfl) hkA Tryz.underlying65 (by rfl) (by kernel_rfl)) (by rfl) ?_
  have hG : ∀ (x y z : Value), GrownS (· < W1.heap.size) w2 (((w2.setCell ⟨w.heap.size, 0, none⟩ x).setCell ⟨w.heap.size, 1, none⟩ y).setCell ⟨w.heap.size, 2, none⟩ z) := fun x y z => by
    have hlt : w.heap.size < W1.heap.size := by have := HS1.out; omega
    exact (((GrownS.refl _ w2).setCell (g := w.heap.size) hlt 0 x).setCell (g := w.heap.size) hlt 1 y).setCell (g := w.heap.size) hlt 2 z
  exact ⟨_, rfl, HU.out _ (hG _ _ _), ext_tp HE2.out (Nat.le_refl _) _ _ _⟩

set_option maxRecDepth 100000 in
set_option maxHeartbeats 4000000 in
theorem trivial18_bad (P : List Int) (vp : Value) (w : World) (hP : Ints w vp P) (hE : primesE P ≠ 0) :
    Calls Tryz.prog 52 #[vp] w fun e w' => e = .returned (.tuple #[.agg #[.slice none 0 0, .slice none 0 0, .slice none 0 0], .int .i64 (primesE P)]) ∧ Ext w w' := by
  have HFR := Lib.hid (fun W (hW : Ext w W) => fromMapping_bad P vp W (hP.ext hW) hE)
  obtain ⟨E, hEE⟩ : ∃ E, primesE P = E := ⟨_, rfl⟩
  rw [hEE] at HFR ⊢
  obtain ⟨ap, cp, rfl, -⟩ := hP.open
  clear hP hE hEE
  go_enter Tryz.func52, Tryz.ntmps52
  obtain ⟨W1, hW1, hE1, hs1, hb1⟩ := tp_new w (.slice none 0 0) (.slice none 0 0) (.slice none 0 0)
  have HB1 := Lib.hid hb1; have HE1 := Lib.hid hE1
  clear hE1 hs1 hb1
  go_wp2_with fail
  refine (HFR.out _ HE1.out).mono ?_
  rintro e w2 ⟨rfl, hE2⟩
  have HB2 := Lib.hid (block_ext HB1.out hE2)
  have HE2 := Lib.hid (HE1.out.trans hE2)
  clear hE2 HFR HB1 HE1 hW1
  obtain ⟨b0, b1, b2, bf⟩ := tp_block HB2.out
  have f0 := bf 0; have f1 := bf 1; have f2 := bf 2
  clear bf
  go_wp2_with fail
  have hkA := tp_store HB2.out (.slice none 0 0) (.slice none 0 0) (.slice none 0 0)
  refine bodyPost_ret (results_rowtmp (by rfl) _ _ w.heap.size 65 #[.slice none 0 0, .slice none 0 0, .slice none 0 0] (0, 0) _ (by rfl) hkA Tryz.underlying65 (by rfl) (by kernel_rfl)) (by rfl) ?_
  exact ⟨rfl, ext_tp HE2.out (Nat.le_refl _) _ _ _⟩
theorem tempV_zero (w : World) : TempV w (.agg #[.slice none 0 0, .slice none 0 0, .slice none 0 0]) [] [] [] := ⟨_, _, _, rfl, ⟨[], rfl, by simp, ⟨none, 0, rfl, Nat.le_refl _, by unfold maxLen; omega, fun _ => rfl, fun h => absurd rfl h⟩, by simp⟩, rows_nil w, rows_nil w⟩
set_option maxRecDepth 100000 in
set_option maxHeartbeats 2000000 in
theorem none18_zero (w : World) :
    Calls Tryz.prog 54 #[.agg #[.slice none 0 0, .slice none 0 0, .slice none 0 0]] w fun e w' => e = .returned (.bool true) ∧ Ext w w' := by
  have HSA : Hid (∀ W, Calls Tryz.prog 58 #[.agg #[.slice none 0 0, .slice none 0 0, .slice none 0 0], .agg #[.slice none 0 0, .slice none 0 0, .slice none 0 0]] W fun e w' => e = .returned (.bool true) ∧ Ext W w') := fun W => by
    have := same18_any [] [] [] [] [] [] _ _ W (tempV_zero W) (tempV_zero W)
    simpa using this
  go_enter Tryz.func54, Tryz.ntmps54
  obtain ⟨W1, hW1, hE1, hs1, hb1⟩ := tp_new w (.slice none 0 0) (.slice none 0 0) (.slice none 0 0)
  have HE1 := Lib.hid hE1
  obtain ⟨b0, b1, b2, -⟩ := tp_block hb1
  clear hE1 hs1 hb1
  go_wp2_with fail
  refine (HSA.out _).mono ?_
  rintro e w2 ⟨rfl, hE2⟩
  have HE2 := Lib.hid (HE1.out.trans hE2)
  clear hE2 HE1 b0 b1 b2
  go_wp2_with fail
  go_ret
  exact ⟨rfl, HE2.out⟩
end Go.Proofs.YtehknemdfbkimaaGreatDoor
