/- Merged: TEndP, DEnds, OpenPlan. -/
import Derived.Test.YtjihfabhgcfjnaaGreatDoorRBAK
import Derived.Test.YtjihfabhgcfjnaaGreatDoorQAZ
import Derived.Test.YtjihfabhgcfjnaaGreatDoorRBAI
import Derived.Laws.Rows
import Derived.Test.YtjihfabhgcfjnaaGreatDoorRBAJ
/- The reference's Identity; the temperaments of no rows; temperament.Just and Trivial. Printed by gen/tend.py. -/
namespace Go.Proofs.YtjihfabhgcfjnaaGreatDoor
set_option linter.unusedVariables false
set_option linter.unusedSimpArgs false
open Go.RowKit

def idM (n i : Nat) : List (List Int) := (List.range i).map fun k => (List.replicate n (0 : Int)).set k 1
theorem idM_len (n i : Nat) : (idM n i).length = i := by simp [idM]
/-- The temperaments of no rows. -/
theorem ends_right {n : Nat} (h1 : 1 ≤ n) (h6 : n ≤ 6) : ∃ F, FromD n F [] [] (idM n n) [] ∧ ∀ P : List Int, primesE P = 0 → P.length = n → RightT n F P [] (idM n n) ∧ RightT n F P (idM n n) [] := by
  have key : ∀ k : Nat, 1 ≤ k → k ≤ 6 → (latE k [] = 0 ∧ formO k 30 k [] = some [] ∧ chkE k [] = 0 ∧ chkE k (idM k k) = 0 ∧ kerS 30 k [] = some (idM k k) ∧ kerS 30 k (idM k k) = some []) := by
    intro k a b
    have hc : k = 1 ∨ k = 2 ∨ k = 3 ∨ k = 4 ∨ k = 5 ∨ k = 6 := by omega
    rcases hc with h | h | h | h | h | h <;> (subst h; decide +kernel)
  obtain ⟨k1, k2, k3, k4, k5, k6⟩ := key n h1 h6
  have hb : ∀ x ∈ idM n n, RowLe 1000000000 x ∧ x.length = n := fun x hx => by
    unfold idM at hx
    obtain ⟨i, -, rfl⟩ := List.mem_map.1 hx
    refine ⟨fun y hy => ?_, by simp⟩
    rcases List.mem_or_eq_of_mem_set hy with h | h
    · rw [(List.mem_replicate.1 h).2]; decide
    · rw [h]; decide
  have h0 : ∀ x ∈ ([] : List (List Int)), RowLe 1000000000 x ∧ x.length = n := fun x hx => by cases hx
  have hl := idM_len n n
  exact ⟨30, ⟨h1, h6, k1, k2, ⟨by simp, h0⟩, k3, k5, k6, by omega, by simp, hb, h0⟩, fun P hP hPl => ⟨⟨h1, h6, hP, hPl, k3, k5, k6, by simp, by omega, h0, hb⟩, ⟨h1, h6, hP, hPl, k4, k6, k5, by omega, by simp, hb, h0⟩⟩⟩

set_option maxRecDepth 100000 in
set_option maxHeartbeats 4000000 in
theorem just_any (n F : Nat) (P : List Int) (vp : Value) (w : World) (hP : Ints w vp P) (hE : primesE P = 0) (hPl : P.length = n) (hD : FromD n F [] [] (idM n n) []) (hlib : LibT w) (hp : 2 < w.heap.size) :
    Calls Tryz.prog 16 #[vp] w fun e w' => ∃ u, e = .returned (.tuple #[u, .int .i64 0]) ∧ TempV w' u P [] (idM n n) ∧ Ext w w' := by
  have HFR := Lib.hid (fun W (hW : Ext w W) => fromCommas_any n F P [] [] (idM n n) [] vp (.slice none 0 0) W (hP.ext hW) (rows_nil W) hE hPl hD (hlib.ext hW) (Nat.lt_of_lt_of_le hp hW.size))
  obtain ⟨ap, cp, rfl, -⟩ := hP.open
  rw [hPl] at HFR ⊢
  clear hP hE hD hlib hp hPl
  go_enter Tryz.func16, Tryz.ntmps16
  obtain ⟨W1, hW1, hE1, hs1, hb1⟩ := tp_new w (.slice none 0 0) (.slice none 0 0) (.slice none 0 0)
  have HB1 := Lib.hid hb1; have HE1 := Lib.hid hE1; have HS1 := Lib.hid hs1
  clear hE1 hs1 hb1
  go_wp2_with fail
  refine (HFR.out _ HE1.out).mono ?_
  rintro e w2 ⟨u, rfl, hu, hE2⟩
  have HB2 := Lib.hid (block_ext HB1.out hE2)
  have HE2 := Lib.hid (HE1.out.trans hE2)
  have HU := Lib.hid hu
  obtain ⟨p, c, m, rfl, hvp, hvc, hvm⟩ := hu.now
  obtain ⟨a1, c1, rfl, -⟩ := hvp.open
  obtain ⟨a2, c2, rfl, -⟩ := inCell.open hvc
  obtain ⟨a3, c3, rfl, -⟩ := inCell.open hvm
  clear hE2 hu HFR HB1 HE1 hW1 hvp hvc hvm
  obtain ⟨b0, b1, b2, bf⟩ := tp_block HB2.out
  have f0 := bf 0; have f1 := bf 1; have f2 := bf 2
  clear bf
  generalize hk1 : P.length = k1 at HU ⊢
  generalize hk2 : ([] : List (List Int)).length = k2 at HU ⊢
  generalize hk3 : ((idM n n) : List (List Int)).length = k3 at HU ⊢
  clear hk1 hk2 hk3
  go_wp2_with fail
  have hkA := tp_store HB2.out (.slice a1 k1 c1) (.slice a2 k2 c2) (.slice a3 k3 c3)
  refine bodyPost_ret (results_rowtmp (by rfl) _ _ w.heap.size 58 #[.slice a1 k1 c1, .slice a2 k2 c2, .slice a3 k3 c3] (0, 0) _ (by rfl) hkA Tryz.underlying58 (by rfl) (by kernel_rfl)) (by rfl) ?_
  have hG : ∀ (x y z : Value), GrownS (· < W1.heap.size) w2 (((w2.setCell ⟨w.heap.size, 0, none⟩ x).setCell ⟨w.heap.size, 1, none⟩ y).setCell ⟨w.heap.size, 2, none⟩ z) := fun x y z => by
    have hlt : w.heap.size < W1.heap.size := by have := HS1.out; omega
    exact (((GrownS.refl _ w2).setCell (g := w.heap.size) hlt 0 x).setCell (g := w.heap.size) hlt 1 y).setCell (g := w.heap.size) hlt 2 z
  exact ⟨_, rfl, HU.out _ (hG _ _ _), ext_tp HE2.out (Nat.le_refl _) _ _ _⟩

set_option maxRecDepth 100000 in
set_option maxHeartbeats 4000000 in
theorem trivial18_any (n F : Nat) (P : List Int) (vp : Value) (w : World) (hP : Ints w vp P) (hE : primesE P = 0) (hPl : P.length = n) (hD : FromD n F [] [] (idM n n) []) (hlib : LibT w) (hp : 2 < w.heap.size) :
    Calls Tryz.prog 15 #[vp] w fun e w' => ∃ u, e = .returned (.tuple #[u, .int .i64 0]) ∧ TempV w' u P (idM n n) [] ∧ Ext w w' := by
  have HFR := Lib.hid (fun W (hW : Ext w W) => fromMapping_any n F P [] [] (idM n n) [] vp (.slice none 0 0) W (hP.ext hW) (rows_nil W) hE hPl hD (hlib.ext hW) (Nat.lt_of_lt_of_le hp hW.size))
  obtain ⟨ap, cp, rfl, -⟩ := hP.open
  rw [hPl] at HFR ⊢
  clear hP hE hD hlib hp hPl
  go_enter Tryz.func15, Tryz.ntmps15
  obtain ⟨W1, hW1, hE1, hs1, hb1⟩ := tp_new w (.slice none 0 0) (.slice none 0 0) (.slice none 0 0)
  have HB1 := Lib.hid hb1; have HE1 := Lib.hid hE1; have HS1 := Lib.hid hs1
  clear hE1 hs1 hb1
  go_wp2_with fail
  refine (HFR.out _ HE1.out).mono ?_
  rintro e w2 ⟨u, rfl, hu, hE2⟩
  have HB2 := Lib.hid (block_ext HB1.out hE2)
  have HE2 := Lib.hid (HE1.out.trans hE2)
  have HU := Lib.hid hu
  obtain ⟨p, c, m, rfl, hvp, hvc, hvm⟩ := hu.now
  obtain ⟨a1, c1, rfl, -⟩ := hvp.open
  obtain ⟨a2, c2, rfl, -⟩ := inCell.open hvc
  obtain ⟨a3, c3, rfl, -⟩ := inCell.open hvm
  clear hE2 hu HFR HB1 HE1 hW1 hvp hvc hvm
  obtain ⟨b0, b1, b2, bf⟩ := tp_block HB2.out
  have f0 := bf 0; have f1 := bf 1; have f2 := bf 2
  clear bf
  generalize hk1 : P.length = k1 at HU ⊢
  generalize hk2 : ((idM n n) : List (List Int)).length = k2 at HU ⊢
  generalize hk3 : ([] : List (List Int)).length = k3 at HU ⊢
  clear hk1 hk2 hk3
  go_wp2_with fail
  have hkA := tp_store HB2.out (.slice a1 k1 c1) (.slice a2 k2 c2) (.slice a3 k3 c3)
  refine bodyPost_ret (results_rowtmp (by rfl) _ _ w.heap.size 58 #[.slice a1 k1 c1, .slice a2 k2 c2, .slice a3 k3 c3] (0, 0) _ (by rfl) hkA Tryz.underlying58 (by rfl) (by kernel_rfl)) (by rfl) ?_
  have hG : ∀ (x y z : Value), GrownS (· < W1.heap.size) w2 (((w2.setCell ⟨w.heap.size, 0, none⟩ x).setCell ⟨w.heap.size, 1, none⟩ y).setCell ⟨w.heap.size, 2, none⟩ z) := fun x y z => by
    have hlt : w.heap.size < W1.heap.size := by have := HS1.out; omega
    exact (((GrownS.refl _ w2).setCell (g := w.heap.size) hlt 0 x).setCell (g := w.heap.size) hlt 1 y).setCell (g := w.heap.size) hlt 2 z
  exact ⟨_, rfl, HU.out _ (hG _ _ _), ext_tp HE2.out (Nat.le_refl _) _ _ _⟩

end Go.Proofs.YtjihfabhgcfjnaaGreatDoor
/- The walk of DriftEnds. Printed by gen/dends.py. -/
namespace Go.Proofs.YtjihfabhgcfjnaaGreatDoor
set_option linter.unusedVariables false
set_option linter.unusedSimpArgs false
open Go.RowKit

theorem linkStrains_far (k : Wk) (i n : Nat) : ∀ x ∈ linkStrains k i n, x.2.2.any (· != 0) = true := by
  intro x hx
  unfold linkStrains at hx
  obtain ⟨j, -, hj⟩ := List.mem_filterMap.1 hx
  by_cases h : ((strainAt k i j).any (· != 0)) = true
  · rw [if_pos h] at hj
    obtain rfl := Option.some.inj hj
    exact h
  · rw [if_neg h] at hj; cases hj
theorem strainsTo_far (k : Wk) (n : Nat) : ∀ x ∈ strainsTo k n, x.2.2.any (· != 0) = true := by
  intro x hx
  unfold strainsTo at hx
  obtain ⟨i, -, hi⟩ := List.mem_flatMap.1 hx
  exact linkStrains_far k i _ x hi
theorem out_id3 {x : List Int} (h : x.length = 3) : outB (idM 3 3) 3 x = !(x.any (· != 0)) := by
  match x, h with
  | [a, b, c], _ =>
    unfold outB
    congr 1
    have e : temL (idM 3 3) [a, b, c] 3 = [a, b, c] := by
      unfold temL idM
      simp [List.range_succ, dotZ]
    rw [e]
theorem out_none (n : Nat) (x : List Int) : outB [] n x = true := rfl
theorem fits_none (n : Nat) (l : List (Nat × Nat × List Int)) : fitsR [] n l = (0, true) := by
  have : l.findIdx? (fun x => !outB [] n x.2.2) = none := by
    rw [List.findIdx?_eq_none_iff]
    intro x _
    rw [out_none]; rfl
  unfold fitsR; rw [this]
theorem fits_id3 {l : List (Nat × Nat × List Int)} (hl : ∀ x ∈ l, x.2.2.length = 3) (hf : ∀ x ∈ l, x.2.2.any (· != 0) = true) : fitsR (idM 3 3) 3 l = (0, decide (l.length = 0)) := by
  cases l with
  | nil => rfl
  | cons x l =>
    have h : (!outB (idM 3 3) 3 x.2.2) = true := by
      rw [out_id3 (hl x (by simp)), hf x (by simp)]; rfl
    unfold fitsR
    rw [List.findIdx?_cons, if_pos h]
    rfl

set_option maxRecDepth 100000 in
set_option maxHeartbeats 4000000 in
theorem dends_walk (cs : Array Value) (hpl : PlanAt cs) (w : World) (hlib : LibT w) (hp : 2 < w.heap.size) :
    Calls Tryz.prog 4 #[.agg cs] w fun e w' => e = .returned (.bool true) ∧ Ext w w' := by
  have HPL := Lib.hid hpl
  have HK0 := Lib.hid (block_new w cs 50)
  have HE0 := Lib.hid (Ext.alloc w (.cells cs 50))
  obtain ⟨F, hD, hRR⟩ := ends_right (n := 3) (by decide) (by decide)
  obtain ⟨hRJ, hRT⟩ := hRR [2, 3, 5] (by decide +kernel) rfl
  have HJU := Lib.hid (fun W (hW : Ext w W) vp (hv : Ints W vp [2, 3, 5]) => just_any 3 F [2, 3, 5] vp W hv (by decide +kernel) rfl hD (hlib.ext hW) (Nat.lt_of_lt_of_le hp hW.size))
  have HTR := Lib.hid (fun W (hW : Ext w W) vp (hv : Ints W vp [2, 3, 5]) => trivial18_any 3 F [2, 3, 5] vp W hv (by decide +kernel) rfl hD (hlib.ext hW) (Nat.lt_of_lt_of_le hp hW.size))
  have HFI := Lib.hid (fun W (hW : Ext w W) C M (hR : RightT 3 F [2, 3, 5] C M) v u k (hV : TempV W v [2, 3, 5] C M) (hWk : WalkAt W u k) (hz : openE [2, 3, 5] k = 0) (hs : strainsE k = 0) => Fits_ok 3 F [2, 3, 5] C M k v u W hV hR hWk hz hs (hlib.ext hW) (Nat.lt_of_lt_of_le hp hW.size))
  have HPU := Lib.hid (fun W (hW : Ext w W) C M (hR : RightT 3 F [2, 3, 5] C M) v u k (hV : TempV W v [2, 3, 5] C M) (hWk : WalkAt W u k) (hz : openE [2, 3, 5] k = 0) (hs : rootsE k = 0) => Pump_ok 3 F [2, 3, 5] C M k v u W hV hR hWk hz hs (hlib.ext hW) (Nat.lt_of_lt_of_le hp hW.size))
  have HRJ := Lib.hid hRJ; have HRT := Lib.hid hRT
  clear hpl hD hRR hRJ hRT hlib hp
  go_enter Tryz.func4, Tryz.ntmps4
  go_wp2_with fail
  refine (known_any _).mono ?_
  rintro e w1 ⟨rfl, hE1⟩
  have HK1 := Lib.hid (block_ext HK0.out hE1)
  have HE1 := Lib.hid (Ext.trans HE0.out hE1)
  clear hE1 HK0 HE0
  go_wp2_with (refine wpList_load_row rfl 50 _ rfl w.heap.size rfl _ cs (0, 0) _ HK1.out Tryz.underlying50 rfl (by rw [HPL.out.1]; kernel_rfl) ?_)
  refine (make_any cs HPL.out w1).mono ?_
  rintro e w2 ⟨v, rfl, hE2, k, hv, hk⟩
  have HF := Lib.hid hk.fewWk
  have HP := Lib.hid hk.fewWk.primes
  have HV := Lib.hid hv
  obtain ⟨vp, vc, vl, rfl, p1, p2, p3⟩ := hv
  rw [HP.out] at p1
  obtain ⟨ap, cp, rfl, -, -, -, -, -⟩ := p1.open
  obtain ⟨ac, cc, rfl, -, -, -, -⟩ := inCell.open p2
  obtain ⟨al, cl, rfl, -, -, -, -⟩ := inCell.open p3
  have hl3 : ([2, 3, 5] : List Int).length = 3 := rfl
  rw [hl3] at HV p1 ⊢
  obtain ⟨W, hW, hE, hsz, hbk⟩ := wkb_new w2 (.slice ap 3 cp) (.slice ac k.chords.length cc) (.slice al k.links.length cl)
  have HEW := Lib.hid (HE1.out.trans (hE2.trans hE))
  have HB := Lib.hid hbk
  obtain ⟨b0, b1, b2⟩ := wkb_cells hbk
  have HV1 := Lib.hid (HV.out.ext hE)
  have HPI := Lib.hid (p1.ext hE)
  have HOE : Hid (openE [2, 3, 5] k = 0) := by unfold Hid openE; rw [if_pos (few_walk HF.out), if_pos HP.out.symm]
  clear p1 p2 p3 hk hE hbk hE2 hsz hl3 HV HE1
  go_wp2_with fail
  clear hW
  refine (HTR.out _ HEW.out _ HPI.out).mono ?_
  rintro e w3 ⟨u, rfl, hu, hE3⟩
  have HEB := Lib.hid (HEW.out.trans hE3)
  have HB3 := Lib.hid (block_ext HB.out hE3); have HV3 := Lib.hid (HV1.out.ext hE3); have HP3 := Lib.hid (HPI.out.ext hE3)
  obtain ⟨p, c, m, rfl, hvp, hvc, hvm⟩ := hu
  have HTB : Hid (TempV w3 (.agg #[p, c, m]) [2, 3, 5] (idM 3 3) []) := ⟨_, _, _, rfl, hvp, hvc, hvm⟩
  obtain ⟨d1, e1, rfl, -⟩ := hvp.open
  obtain ⟨d2, e2, rfl, -⟩ := inCell.open hvc
  obtain ⟨d3, e3, rfl, -⟩ := inCell.open hvm
  have hl3 : ([2, 3, 5] : List Int).length = 3 := rfl
  have hi3 : (idM 3 3).length = 3 := rfl
  rw [hl3, hi3, List.length_nil] at HTB ⊢
  clear hE3 hvp hvc hvm HTR HEW hl3 hi3 b0 b1 b2
  obtain ⟨V3, hV3, hXV, hsV, hbV⟩ := tp_new w3 (.slice none 0 0) (.slice none 0 0) (.slice none 0 0)
  obtain ⟨r0, r1, r2, rf⟩ := tp_block hbV
  have f0 := rf 0; have f1 := rf 1; have f2 := rf 2
  have HBT := Lib.hid (tp_store hbV (.slice d1 3 e1) (.slice d2 3 e2) (.slice d3 0 e3))
  have HXU3 := Lib.hid (ext_tp hXV (Nat.le_refl _) (.slice d1 3 e1) (.slice d2 3 e2) (.slice d3 0 e3))
  clear hXV hsV hbV rf
  obtain ⟨U3, hU3⟩ : ∃ U, ((V3.setCell ⟨w3.heap.size, 0, none⟩ (.slice d1 3 e1)).setCell ⟨w3.heap.size, 1, none⟩ (.slice d2 3 e2)).setCell ⟨w3.heap.size, 2, none⟩ (.slice d3 0 e3) = U := ⟨_, rfl⟩
  rw [hU3] at HBT HXU3
  have HE3 := Lib.hid (HEB.out.trans HXU3.out)
  have HB3 := Lib.hid (block_ext HB3.out HXU3.out); have HV3 := Lib.hid (HV3.out.ext HXU3.out); have HTB := Lib.hid (HTB.out.ext HXU3.out); have HP3 := Lib.hid (HP3.out.ext HXU3.out)
  clear HXU3 HEB
  obtain ⟨b0, b1, b2⟩ := wkb_cells HB3.out
  go_wp2_with fail
  clear hU3 hV3 r0 r1 r2 f0 f1 f2
  refine (HJU.out _ HE3.out _ HP3.out).mono ?_
  rintro e w4 ⟨u, rfl, hu, hE4⟩
  have HEA := Lib.hid (HE3.out.trans hE4)
  have HB4 := Lib.hid (block_ext HB3.out hE4); have HBT4 := Lib.hid (block_ext HBT.out hE4); have HV4 := Lib.hid (HV3.out.ext hE4); have HTB := Lib.hid (HTB.out.ext hE4)
  obtain ⟨p, c, m, rfl, hvp, hvc, hvm⟩ := hu
  have HTA : Hid (TempV w4 (.agg #[p, c, m]) [2, 3, 5] [] (idM 3 3)) := ⟨_, _, _, rfl, hvp, hvc, hvm⟩
  obtain ⟨d4, e4, rfl, -⟩ := hvp.open
  obtain ⟨d5, e5, rfl, -⟩ := inCell.open hvc
  obtain ⟨d6, e6, rfl, -⟩ := inCell.open hvm
  have hl3 : ([2, 3, 5] : List Int).length = 3 := rfl
  have hi3 : (idM 3 3).length = 3 := rfl
  rw [hl3, hi3, List.length_nil] at HTA ⊢
  clear hE4 hvp hvc hvm HJU HE3 hl3 hi3 b0 b1 b2 HB3 HBT HV3 HP3
  obtain ⟨V4, hV4, hXV, hsV, hbV⟩ := tp_new w4 (.slice none 0 0) (.slice none 0 0) (.slice none 0 0)
  obtain ⟨r0, r1, r2, rf⟩ := tp_block hbV
  have f0 := rf 0; have f1 := rf 1; have f2 := rf 2
  have HBS := Lib.hid (tp_store hbV (.slice d4 3 e4) (.slice d5 0 e5) (.slice d6 3 e6))
  have HXU4 := Lib.hid (ext_tp hXV (Nat.le_refl _) (.slice d4 3 e4) (.slice d5 0 e5) (.slice d6 3 e6))
  clear hXV hsV hbV rf
  obtain ⟨U4, hU4⟩ : ∃ U, ((V4.setCell ⟨w4.heap.size, 0, none⟩ (.slice d4 3 e4)).setCell ⟨w4.heap.size, 1, none⟩ (.slice d5 0 e5)).setCell ⟨w4.heap.size, 2, none⟩ (.slice d6 3 e6) = U := ⟨_, rfl⟩
  rw [hU4] at HBS HXU4
  have HE4 := Lib.hid (HEA.out.trans HXU4.out)
  have HB4 := Lib.hid (block_ext HB4.out HXU4.out); have HBT4 := Lib.hid (block_ext HBT4.out HXU4.out); have HV4 := Lib.hid (HV4.out.ext HXU4.out); have HTB := Lib.hid (HTB.out.ext HXU4.out); have HTA := Lib.hid (HTA.out.ext HXU4.out)
  clear HXU4 HEA
  obtain ⟨b0, b1, b2⟩ := wkb_cells HB4.out
  obtain ⟨s0, s1, s2, -⟩ := tp_block HBT4.out
  obtain ⟨t0, t1, t2, -⟩ := tp_block HBS.out
  go_wp2_with fail
  clear hU4 hV4 r0 r1 r2 f0 f1 f2
  refine (HFI.out _ HE4.out _ _ HRT.out _ _ _ HTB.out HV4.out HOE.out (few_strainsE HF.out)).mono ?_
  rintro e w5 ⟨rfl, hE5⟩
  have HE5 := Lib.hid (HE4.out.trans hE5)
  have HB4 := Lib.hid (block_ext HB4.out hE5); have HBT4 := Lib.hid (block_ext HBT4.out hE5); have HBS := Lib.hid (block_ext HBS.out hE5); have HV4 := Lib.hid (HV4.out.ext hE5); have HTB := Lib.hid (HTB.out.ext hE5); have HTA := Lib.hid (HTA.out.ext hE5)
  rw [fits_none]
  clear hE5 b0 b1 b2 s0 s1 s2 t0 t1 t2
  obtain ⟨b0, b1, b2⟩ := wkb_cells HB4.out
  obtain ⟨s0, s1, s2, -⟩ := tp_block HBT4.out
  obtain ⟨t0, t1, t2, -⟩ := tp_block HBS.out
  go_wp2_with fail
  refine (HPU.out _ HE5.out _ _ HRT.out _ _ _ HTB.out HV4.out HOE.out (few_rootsE HF.out)).mono ?_
  rintro e w6 ⟨rfl, hE6⟩
  have HE6 := Lib.hid (HE5.out.trans hE6)
  have HB4 := Lib.hid (block_ext HB4.out hE6); have HBT4 := Lib.hid (block_ext HBT4.out hE6); have HBS := Lib.hid (block_ext HBS.out hE6); have HV4 := Lib.hid (HV4.out.ext hE6); have HTB := Lib.hid (HTB.out.ext hE6); have HTA := Lib.hid (HTA.out.ext hE6)
  rw [out_none, Bool.and_true]
  clear hE6 b0 b1 b2 s0 s1 s2 t0 t1 t2
  obtain ⟨b0, b1, b2⟩ := wkb_cells HB4.out
  obtain ⟨s0, s1, s2, -⟩ := tp_block HBT4.out
  obtain ⟨t0, t1, t2, -⟩ := tp_block HBS.out
  go_wp2_with fail
  refine (HFI.out _ HE6.out _ _ HRJ.out _ _ _ HTA.out HV4.out HOE.out (few_strainsE HF.out)).mono ?_
  rintro e w7 ⟨rfl, hE7⟩
  have HE7 := Lib.hid (HE6.out.trans hE7)
  have HB4 := Lib.hid (block_ext HB4.out hE7); have HBT4 := Lib.hid (block_ext HBT4.out hE7); have HBS := Lib.hid (block_ext HBS.out hE7); have HV4 := Lib.hid (HV4.out.ext hE7); have HTB := Lib.hid (HTB.out.ext hE7); have HTA := Lib.hid (HTA.out.ext hE7)
  have hS3 : ∀ x ∈ strainsTo k k.links.length, x.2.2.length = 3 := fun x hx => by
    have h := few_strainsE HF.out
    unfold strainsE at h
    rw [if_pos (few_walk HF.out)] at h
    have := allE_rows (strE_each h x hx) x.2.2 (by simp)
    rw [HP.out] at this
    have := this.2
    simp at this; omega
  rw [fits_id3 hS3 (strainsTo_far k _)]
  obtain ⟨L, hL⟩ : ∃ L, (strainsTo k k.links.length).length = L := ⟨_, rfl⟩
  rw [hL]
  have HL := Lib.hid hL
  clear hS3 hL
  clear hE7 b0 b1 b2 s0 s1 s2 t0 t1 t2
  obtain ⟨b0, b1, b2⟩ := wkb_cells HB4.out
  obtain ⟨s0, s1, s2, -⟩ := tp_block HBT4.out
  obtain ⟨t0, t1, t2, -⟩ := tp_block HBS.out
  go_wp2_with fail
  refine (HPU.out _ HE7.out _ _ HRJ.out _ _ _ HTA.out HV4.out HOE.out (few_rootsE HF.out)).mono ?_
  rintro e w8 ⟨rfl, hE8⟩
  have HE8 := Lib.hid (HE7.out.trans hE8)
  have HB4 := Lib.hid (block_ext HB4.out hE8); have HBT4 := Lib.hid (block_ext HBT4.out hE8); have HBS := Lib.hid (block_ext HBS.out hE8); have HV4 := Lib.hid (HV4.out.ext hE8); have HTB := Lib.hid (HTB.out.ext hE8); have HTA := Lib.hid (HTA.out.ext hE8)
  have hD3 : (driftOf k).length = 3 := (few_root HF.out k.links.length (Nat.le_refl _)).1
  rw [out_id3 hD3, Bool.and_not_self]
  clear hD3
  clear hE8 b0 b1 b2 s0 s1 s2 t0 t1 t2
  obtain ⟨b0, b1, b2⟩ := wkb_cells HB4.out
  obtain ⟨s0, s1, s2, -⟩ := tp_block HBT4.out
  obtain ⟨t0, t1, t2, -⟩ := tp_block HBS.out
  go_wp2_with fail
  refine (Strains_any k _ w8 HV4.out).mono ?_
  rintro e w9 ⟨r, rfl, hE9, hs, -⟩
  have HE9 := Lib.hid (HE8.out.trans hE9)
  have HB4 := Lib.hid (block_ext HB4.out hE9); have HBT4 := Lib.hid (block_ext HBT4.out hE9); have HBS := Lib.hid (block_ext HBS.out hE9); have HV4 := Lib.hid (HV4.out.ext hE9); have HTB := Lib.hid (HTB.out.ext hE9); have HTA := Lib.hid (HTA.out.ext hE9)
  have hs := hs (few_strainsE HF.out)
  rw [few_strainsE HF.out]
  obtain ⟨as9, cs9, rfl, -, -, -, -⟩ := ListAt.open hs
  rw [HL.out]
  clear hs
  clear hE9 b0 b1 b2 s0 s1 s2 t0 t1 t2
  obtain ⟨b0, b1, b2⟩ := wkb_cells HB4.out
  obtain ⟨s0, s1, s2, -⟩ := tp_block HBT4.out
  obtain ⟨t0, t1, t2, -⟩ := tp_block HBS.out
  go_wp2_with fail
  refine (Drift_any k _ w9 HV4.out).mono ?_
  rintro e w10 ⟨r, rfl, hE10, hd, -⟩
  have HE10 := Lib.hid (HE9.out.trans hE10)
  have HB4 := Lib.hid (block_ext HB4.out hE10); have HBT4 := Lib.hid (block_ext HBT4.out hE10); have HBS := Lib.hid (block_ext HBS.out hE10); have HV4 := Lib.hid (HV4.out.ext hE10); have HTB := Lib.hid (HTB.out.ext hE10); have HTA := Lib.hid (HTA.out.ext hE10)
  have hd := hd (few_driftE HF.out)
  rw [few_driftE HF.out]
  have HD := Lib.hid hd
  obtain ⟨ad, cd, rfl, -⟩ := hd.open
  have HZ := Lib.hid (zero_any (driftOf k) _ _ HD.out)
  obtain ⟨z, hz⟩ : ∃ z, (driftOf k).any (· != 0) = z := ⟨_, rfl⟩
  rw [hz] at HZ ⊢
  clear hd hz HD
  clear hE10 b0 b1 b2 s0 s1 s2 t0 t1 t2
  by_cases hl0 : L = 0
  · subst hl0
    cases z with
    | true =>
      go_wp2_with fail
      refine HZ.out.mono ?_
      rintro e w11 ⟨rfl, hE11⟩
      have HE11 := Lib.hid (HE10.out.trans hE11)
      clear hE11 HZ
      go_wp2_with fail
      go_ret
      exact ⟨rfl, HE11.out⟩
    | false =>
      go_wp2_with fail
      refine HZ.out.mono ?_
      rintro e w11 ⟨rfl, hE11⟩
      have HE11 := Lib.hid (HE10.out.trans hE11)
      clear hE11 HZ
      go_wp2_with fail
      go_ret
      exact ⟨rfl, HE11.out⟩
  · have hlb : decide (L = 0) = false := decide_eq_false hl0
    have hlc : ((L : Int) == 0) = false := by simp; omega
    cases z with
    | true =>
      go_wp2_with fail
      refine HZ.out.mono ?_
      rintro e w11 ⟨rfl, hE11⟩
      have HE11 := Lib.hid (HE10.out.trans hE11)
      clear hE11 HZ
      go_wp2_with fail
      go_ret
      exact ⟨rfl, HE11.out⟩
    | false =>
      go_wp2_with fail
      refine HZ.out.mono ?_
      rintro e w11 ⟨rfl, hE11⟩
      have HE11 := Lib.hid (HE10.out.trans hE11)
      clear hE11 HZ
      go_wp2_with fail
      go_ret
      exact ⟨rfl, HE11.out⟩
end Go.Proofs.YtjihfabhgcfjnaaGreatDoor
/- A plan that came in: its cells. -/
namespace Go.Proofs.YtjihfabhgcfjnaaGreatDoor
set_option linter.unusedVariables false
open Go.ChangeShapes Go.WideShapes Go.ChangeAt Go.RowKit

theorem range_kinds {n : Nat} {f : Nat → Option IntKind} {m : List IntKind} (h : (List.range n).map f = m.map some) (j : Nat) (k : IntKind) (hk : m[j]? = some k) : f j = some k := by
  have hl : n = m.length := by have := congrArg List.length h; simpa using this
  have hj : j < n := by rw [hl]; exact (List.getElem?_eq_some_iff.1 hk).1
  have e := congrArg (fun l => l[j]?) h
  simp only [List.getElem?_map, List.getElem?_range hj, hk, Option.map_some, Option.some.injEq] at e
  exact e

set_option maxRecDepth 100000 in
/-- A plan that came in. -/
theorem open_plan {H : Type} {enc : TypeId × Value → H} {W : World} {r : Reach} {b0 base : Nat} {spare : Nat → Bool} {held : Bool} {v : Value} {d : DataW H} {ps : List MemPlace}
    (hval : Value.okWide Tryz.prog W r b0 50 v) (hd : DataW.Trod enc Tryz.prog W base spare held 50 v d ps) : ∃ cs, v = .agg cs ∧ PlanAt cs := by
  obtain ⟨cs, rfl, hs⟩ := okWide_struct Tryz.underlying50 hval
  obtain ⟨fuel, hf⟩ := hd
  refine ⟨cs, rfl, hs.trans planCells, fun j k hk => ?_⟩
  obtain ⟨n, h1, h2⟩ := flat_cells _ _ _ _ _ _ _ (range_kinds planKinds_eq j k hk) hf
  exact ⟨n, (Array.getElem?_toList (xs := cs) (i := j)).symm.trans h1, h2⟩

end Go.Proofs.YtjihfabhgcfjnaaGreatDoor
