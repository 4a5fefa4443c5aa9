/- Merged: DriftH. -/
import Derived.Test.YtjihfabhgcfjnaaGreatDoorUAL
import Derived.Test.YtjihfabhgcfjnaaGreatDoorUAM
import Derived.Test.YtjihfabhgcfjnaaGreatDoorUBG
/- Contracts of drift.open, Fits, Pump, Returns at a right temperament and any walk. Printed by gen/drifth.py. -/
namespace Go.Proofs.YtjihfabhgcfjnaaGreatDoor
set_option linter.unusedVariables false
set_option linter.unusedSimpArgs false
open Go.RowKit

theorem wkb_cells {w : World} {B : Nat} {x y z : Value} (h : w.heap[B]? = some (.cells #[x, y, z] 55 (0, 0))) : w.cell? ⟨B, 0, none⟩ = some x ∧ w.cell? ⟨B, 1, none⟩ = some y ∧ w.cell? ⟨B, 2, none⟩ = some z := by
  have c0 := block_cell h 0; have c1 := block_cell h 1; have c2 := block_cell h 2
  simp only [List.getElem?_toArray, List.getElem?_cons_zero, List.getElem?_cons_succ] at c0 c1 c2
  exact ⟨c0, c1, c2⟩
theorem wkb_new (w : World) (x y z : Value) : ∃ W, w.alloc (.cells #[x, y, z] 55) = W ∧ Ext w W ∧ W.heap.size = w.heap.size + 1 ∧ W.heap[w.heap.size]? = some (.cells #[x, y, z] 55 (0, 0)) := ⟨_, rfl, Ext.alloc _ _, by simp, block_new _ _ _⟩
def openE (P : List Int) (k : Wk) : Int := if walkE k = 0 then (if P = k.primes then 0 else 14) else walkE k
theorem openE_zero {P : List Int} {k : Wk} (h : openE P k = 0) : walkE k = 0 ∧ P = k.primes := by
  unfold openE at h
  by_cases h0 : walkE k = 0
  · rw [if_pos h0] at h
    by_cases h1 : P = k.primes
    · exact ⟨h0, h1⟩
    · rw [if_neg h1] at h; cases h
  · rw [if_neg h0] at h; exact absurd h h0
theorem allE_chk {p : List Int} {x : List Int} (h : checkAllE p [x] = 0) : allE p.length [x] = 0 := by
  obtain ⟨hp, hr⟩ := checkAllE_zero h
  have h6 := (ordLoop_zero_pos hp).2
  obtain ⟨h1, h2⟩ := rowsE_zero hr x (by simp)
  rw [allE_cons, if_pos ((rowE_zero x).2 ⟨by omega, fun a ha => by have := h2 a ha; omega⟩), if_pos (by rw [h1])]
  rfl
theorem checkAll_each {p : List Int} {l : List (List Int)} (h : checkAllE p l = 0) : ∀ x ∈ l, allE p.length [x] = 0 := fun x hx => by
  obtain ⟨hp, hr⟩ := checkAllE_zero h
  have h6 := (ordLoop_zero_pos hp).2
  obtain ⟨h1, h2⟩ := rowsE_zero hr x hx
  rw [allE_cons, if_pos ((rowE_zero x).2 ⟨by omega, fun a ha => by have := h2 a ha; omega⟩), if_pos (by rw [h1])]
  rfl
theorem strE_each {p : List Int} : ∀ {l : List (Nat × Nat × List Int)}, strE p l = 0 → ∀ x ∈ l, allE p.length [x.2.2] = 0
  | [], _, x, hx => by cases hx
  | y :: l, h, x, hx => by
    rw [strE] at h
    by_cases hc : checkAllE p [y.2.2] = 0
    · rw [if_pos hc] at h
      rcases List.mem_cons.1 hx with rfl | hx
      · exact allE_chk hc
      · exact strE_each h x hx
    · rw [if_neg hc] at h; exact absurd h hc
/-- Tempered out. -/
def outB (M : List (List Int)) (n : Nat) (x : List Int) : Bool := !((temL M x n).any (· != 0))
def fitsR (M : List (List Int)) (n : Nat) (l : List (Nat × Nat × List Int)) : Int × Bool := match l.findIdx? (fun x => !outB M n x.2.2) with | some i => ((i : Int), false) | none => (0, true)
def returnsTo (M : List (List Int)) (n : Nat) (l : List (List Int)) (j : Nat) : List Int := ((List.range j).filter fun i => decide (0 < i) && outB M n (l.getD i [])).map (fun i : Nat => (i : Int))

theorem returnsTo_succ (M : List (List Int)) (n : Nat) (l : List (List Int)) (j : Nat) : returnsTo M n l (j + 1) = returnsTo M n l j ++ (if (decide (0 < j) && outB M n (l.getD j [])) = true then [(j : Int)] else []) := by
  unfold returnsTo
  rw [List.range_succ, List.filter_append, List.map_append]
  congr 1
  by_cases h : (decide (0 < j) && outB M n (l.getD j [])) = true
  · rw [List.filter_cons, if_pos h, if_pos h]; rfl
  · rw [List.filter_cons, if_neg h, if_neg h]; rfl
theorem returnsTo_len (M : List (List Int)) (n : Nat) (l : List (List Int)) (j : Nat) : (returnsTo M n l j).length ≤ j := by
  unfold returnsTo
  rw [List.length_map]
  exact Nat.le_trans (List.length_filter_le _ _) (by simp)

set_option maxRecDepth 100000 in
set_option maxHeartbeats 4000000 in
theorem dopen_any (n F : Nat) (P : List Int) (C M : List (List Int)) (k : Wk) (v u : Value) (w : World) (hV : TempV w v P C M) (hR : RightT n F P C M) (hW : WalkAt w u k) (hlib : LibT w) (hp : 2 < w.heap.size) :
    Calls Tryz.prog 57 #[v, u] w fun e w' => e = .returned (.int .i64 (openE P k)) ∧ Ext w w' := by
  have HTC := Lib.hid (fun W (hE : Ext w W) => tcheck_any n F P C M v W (hV.ext hE) hR (hlib.ext hE) (Nat.lt_of_lt_of_le hp hE.size))
  have HDC := Lib.hid (fun W (hE : Ext w W) => check_any k u W (hW.ext hE))
  obtain ⟨vp, vc, vm, rfl, hvp, hvc, hvm⟩ := hV
  obtain ⟨up, uc, ul, rfl, g1, g2, g3⟩ := hW
  have HEP := Lib.hid (fun W (hE : Ext w W) => equalPrimes_any P k.primes vp up W (hvp.ext hE) (g1.ext hE))
  obtain ⟨ap, cp, rfl, -⟩ := hvp.open
  obtain ⟨ac, cc, rfl, -⟩ := inCell.open hvc
  obtain ⟨am, cm, rfl, -⟩ := inCell.open hvm
  obtain ⟨aup, cup, rfl, -⟩ := g1.open
  obtain ⟨auc, cuc, rfl, -⟩ := inCell.open g2
  obtain ⟨aul, cul, rfl, -⟩ := inCell.open g3
  clear hvp hvc hvm g1 g2 g3 hR hlib hp
  obtain ⟨W1, hW1, hE1, hs1, hb1⟩ := tp_new w (.slice ap P.length cp) (.slice ac C.length cc) (.slice am M.length cm)
  obtain ⟨W2, hW2, hE2, hs2, hb2⟩ := wkb_new W1 (.slice aup k.primes.length cup) (.slice auc k.chords.length cuc) (.slice aul k.links.length cul)
  have HB1 := Lib.hid (block_ext hb1 hE2); have HB2 := Lib.hid hb2
  have HE2 := Lib.hid (hE1.trans hE2)
  rw [hs1] at HB2
  obtain ⟨b0, b1, b2, -⟩ := tp_block HB1.out
  obtain ⟨c0, c1, c2⟩ := wkb_cells HB2.out
  clear hb1 hb2 hE1 hE2 hs2
  obtain ⟨E, hEE⟩ : ∃ E, walkE k = E := ⟨_, rfl⟩
  rw [hEE] at HDC
  by_cases hz : E = 0
  · subst hz
    obtain ⟨q, hq⟩ : ∃ q, (P == k.primes) = q := ⟨_, rfl⟩
    rw [hq] at HEP
    have HQ : Hid (openE P k = if q = true then 0 else 14) := by
      unfold Hid openE; rw [if_pos hEE, ← hq]; simp
    clear hEE hq
    go_enter Tryz.func57, Tryz.ntmps57
    go_wp2_with fail
    clear hW1 hW2
    refine (HTC.out _ HE2.out).mono ?_
    rintro e w3 ⟨rfl, hE3⟩
    have HE3 := Lib.hid (HE2.out.trans hE3); have HB13 := Lib.hid (block_ext HB1.out hE3); have HB23 := Lib.hid (block_ext HB2.out hE3)
    clear hE3 b0 b1 b2 c0 c1 c2 HTC
    obtain ⟨c0, c1, c2⟩ := wkb_cells HB23.out
    go_wp2_with fail
    refine (HDC.out _ HE3.out).mono ?_
    rintro e w4 ⟨rfl, hE4⟩
    have HE4 := Lib.hid (HE3.out.trans hE4); have HB14 := Lib.hid (block_ext HB13.out hE4); have HB24 := Lib.hid (block_ext HB23.out hE4)
    clear hE4 c0 c1 c2 HDC
    obtain ⟨c0, c1, c2⟩ := wkb_cells HB24.out
    obtain ⟨b0, b1, b2, -⟩ := tp_block HB14.out
    cases q with
    | true =>
      go_wp2_with fail
      refine (HEP.out _ HE4.out).mono ?_
      rintro e w5 ⟨rfl, hE5⟩
      have HE5 := Lib.hid (HE4.out.trans hE5)
      clear hE5
      go_wp2_with fail
      go_ret
      rw [HQ.out]
      exact ⟨rfl, HE5.out⟩
    | false =>
      go_wp2_with fail
      refine (HEP.out _ HE4.out).mono ?_
      rintro e w5 ⟨rfl, hE5⟩
      have HE5 := Lib.hid (HE4.out.trans hE5)
      clear hE5
      go_wp2_with fail
      go_ret
      rw [HQ.out]
      exact ⟨rfl, HE5.out⟩
  · have hcb : (E != 0) = true := by simp [hz]
    have HQ : Hid (openE P k = E) := by unfold Hid openE; rw [hEE, if_neg hz]
    clear hEE hz
    go_enter Tryz.func57, Tryz.ntmps57
    go_wp2_with fail
    clear hW1 hW2
    refine (HTC.out _ HE2.out).mono ?_
    rintro e w3 ⟨rfl, hE3⟩
    have HE3 := Lib.hid (HE2.out.trans hE3); have HB13 := Lib.hid (block_ext HB1.out hE3); have HB23 := Lib.hid (block_ext HB2.out hE3)
    clear hE3 b0 b1 b2 c0 c1 c2 HTC
    obtain ⟨c0, c1, c2⟩ := wkb_cells HB23.out
    go_wp2_with fail
    refine (HDC.out _ HE3.out).mono ?_
    rintro e w4 ⟨rfl, hE4⟩
    have HE4 := Lib.hid (HE3.out.trans hE4)
    clear hE4 c0 c1 c2 HDC
    go_wp2_with fail
    go_ret
    rw [HQ.out]
    exact ⟨rfl, HE4.out⟩

set_option maxRecDepth 100000 in
set_option maxHeartbeats 4000000 in
theorem Fits_bad (n F : Nat) (P : List Int) (C M : List (List Int)) (k : Wk) (v u : Value) (w : World) (hV : TempV w v P C M) (hR : RightT n F P C M) (hW : WalkAt w u k) (hz : openE P k ≠ 0) (hlib : LibT w) (hp : 2 < w.heap.size) :
    Calls Tryz.prog 17 #[v, u] w fun e w' => e = .returned (.tuple #[.int .i64 0, .bool false, .int .i64 (openE P k)]) ∧ Ext w w' := by
  have HOP := Lib.hid (fun W (hE : Ext w W) => dopen_any n F P C M k v u W (hV.ext hE) hR (hW.ext hE) (hlib.ext hE) (Nat.lt_of_lt_of_le hp hE.size))
  obtain ⟨E, hEE⟩ : ∃ E, openE P k = E := ⟨_, rfl⟩
  rw [hEE] at HOP hz ⊢
  have hcb : (E != 0) = true := by simp [hz]
  obtain ⟨vp, vc, vm, rfl, hvp, hvc, hvm⟩ := hV
  obtain ⟨up, uc, ul, rfl, g1, g2, g3⟩ := hW
  obtain ⟨ap, cp, rfl, -⟩ := hvp.open
  obtain ⟨ac, cc, rfl, -⟩ := inCell.open hvc
  obtain ⟨am, cm, rfl, -⟩ := inCell.open hvm
  obtain ⟨aup, cup, rfl, -⟩ := g1.open
  obtain ⟨auc, cuc, rfl, -⟩ := inCell.open g2
  obtain ⟨aul, cul, rfl, -⟩ := inCell.open g3
  clear hvp hvc hvm g1 g2 g3 hR hlib hp hEE hz
  obtain ⟨W1, hW1, hE1, hs1, hb1⟩ := tp_new w (.slice ap P.length cp) (.slice ac C.length cc) (.slice am M.length cm)
  obtain ⟨W2, hW2, hE2, hs2, hb2⟩ := wkb_new W1 (.slice aup k.primes.length cup) (.slice auc k.chords.length cuc) (.slice aul k.links.length cul)
  have HB1 := Lib.hid (block_ext hb1 hE2); have HB2 := Lib.hid hb2
  have HE2 := Lib.hid (hE1.trans hE2)
  rw [hs1] at HB2
  obtain ⟨b0, b1, b2, -⟩ := tp_block HB1.out
  obtain ⟨c0, c1, c2⟩ := wkb_cells HB2.out
  clear hb1 hb2 hE1 hE2 hs2
  go_enter Tryz.func17, Tryz.ntmps17
  go_wp2_with fail
  clear hW1 hW2
  refine (HOP.out _ HE2.out).mono ?_
  rintro e w3 ⟨rfl, hE3⟩
  have HE3 := Lib.hid (HE2.out.trans hE3); have HB13 := Lib.hid (block_ext HB1.out hE3); have HB23 := Lib.hid (block_ext HB2.out hE3)
  clear hE3 b0 b1 b2 c0 c1 c2 HOP
  go_wp2_with fail
  go_ret3
  exact ⟨rfl, HE3.out⟩

set_option maxRecDepth 100000 in
set_option maxHeartbeats 4000000 in
theorem Pump_bad (n F : Nat) (P : List Int) (C M : List (List Int)) (k : Wk) (v u : Value) (w : World) (hV : TempV w v P C M) (hR : RightT n F P C M) (hW : WalkAt w u k) (hz : openE P k ≠ 0) (hlib : LibT w) (hp : 2 < w.heap.size) :
    Calls Tryz.prog 18 #[v, u] w fun e w' => e = .returned (.tuple #[.bool false, .int .i64 (openE P k)]) ∧ Ext w w' := by
  have HOP := Lib.hid (fun W (hE : Ext w W) => dopen_any n F P C M k v u W (hV.ext hE) hR (hW.ext hE) (hlib.ext hE) (Nat.lt_of_lt_of_le hp hE.size))
  obtain ⟨E, hEE⟩ : ∃ E, openE P k = E := ⟨_, rfl⟩
  rw [hEE] at HOP hz ⊢
  have hcb : (E != 0) = true := by simp [hz]
  obtain ⟨vp, vc, vm, rfl, hvp, hvc, hvm⟩ := hV
  obtain ⟨up, uc, ul, rfl, g1, g2, g3⟩ := hW
  obtain ⟨ap, cp, rfl, -⟩ := hvp.open
  obtain ⟨ac, cc, rfl, -⟩ := inCell.open hvc
  obtain ⟨am, cm, rfl, -⟩ := inCell.open hvm
  obtain ⟨aup, cup, rfl, -⟩ := g1.open
  obtain ⟨auc, cuc, rfl, -⟩ := inCell.open g2
  obtain ⟨aul, cul, rfl, -⟩ := inCell.open g3
  clear hvp hvc hvm g1 g2 g3 hR hlib hp hEE hz
  obtain ⟨W1, hW1, hE1, hs1, hb1⟩ := tp_new w (.slice ap P.length cp) (.slice ac C.length cc) (.slice am M.length cm)
  obtain ⟨W2, hW2, hE2, hs2, hb2⟩ := wkb_new W1 (.slice aup k.primes.length cup) (.slice auc k.chords.length cuc) (.slice aul k.links.length cul)
  have HB1 := Lib.hid (block_ext hb1 hE2); have HB2 := Lib.hid hb2
  have HE2 := Lib.hid (hE1.trans hE2)
  rw [hs1] at HB2
  obtain ⟨b0, b1, b2, -⟩ := tp_block HB1.out
  obtain ⟨c0, c1, c2⟩ := wkb_cells HB2.out
  clear hb1 hb2 hE1 hE2 hs2
  go_enter Tryz.func18, Tryz.ntmps18
  go_wp2_with fail
  clear hW1 hW2
  refine (HOP.out _ HE2.out).mono ?_
  rintro e w3 ⟨rfl, hE3⟩
  have HE3 := Lib.hid (HE2.out.trans hE3); have HB13 := Lib.hid (block_ext HB1.out hE3); have HB23 := Lib.hid (block_ext HB2.out hE3)
  clear hE3 b0 b1 b2 c0 c1 c2 HOP
  go_wp2_with fail
  go_ret2
  exact ⟨rfl, HE3.out⟩

set_option maxRecDepth 100000 in
set_option maxHeartbeats 4000000 in
theorem Returns_bad (n F : Nat) (P : List Int) (C M : List (List Int)) (k : Wk) (v u : Value) (w : World) (hV : TempV w v P C M) (hR : RightT n F P C M) (hW : WalkAt w u k) (hz : openE P k ≠ 0) (hlib : LibT w) (hp : 2 < w.heap.size) :
    Calls Tryz.prog 24 #[v, u] w fun e w' => e = .returned (.tuple #[.slice none 0 0, .int .i64 (openE P k)]) ∧ Ext w w' := by
  have HOP := Lib.hid (fun W (hE : Ext w W) => dopen_any n F P C M k v u W (hV.ext hE) hR (hW.ext hE) (hlib.ext hE) (Nat.lt_of_lt_of_le hp hE.size))
  obtain ⟨E, hEE⟩ : ∃ E, openE P k = E := ⟨_, rfl⟩
  rw [hEE] at HOP hz ⊢
  have hcb : (E != 0) = true := by simp [hz]
  obtain ⟨vp, vc, vm, rfl, hvp, hvc, hvm⟩ := hV
  obtain ⟨up, uc, ul, rfl, g1, g2, g3⟩ := hW
  obtain ⟨ap, cp, rfl, -⟩ := hvp.open
  obtain ⟨ac, cc, rfl, -⟩ := inCell.open hvc
  obtain ⟨am, cm, rfl, -⟩ := inCell.open hvm
  obtain ⟨aup, cup, rfl, -⟩ := g1.open
  obtain ⟨auc, cuc, rfl, -⟩ := inCell.open g2
  obtain ⟨aul, cul, rfl, -⟩ := inCell.open g3
  clear hvp hvc hvm g1 g2 g3 hR hlib hp hEE hz
  obtain ⟨W1, hW1, hE1, hs1, hb1⟩ := tp_new w (.slice ap P.length cp) (.slice ac C.length cc) (.slice am M.length cm)
  obtain ⟨W2, hW2, hE2, hs2, hb2⟩ := wkb_new W1 (.slice aup k.primes.length cup) (.slice auc k.chords.length cuc) (.slice aul k.links.length cul)
  have HB1 := Lib.hid (block_ext hb1 hE2); have HB2 := Lib.hid hb2
  have HE2 := Lib.hid (hE1.trans hE2)
  rw [hs1] at HB2
  obtain ⟨b0, b1, b2, -⟩ := tp_block HB1.out
  obtain ⟨c0, c1, c2⟩ := wkb_cells HB2.out
  clear hb1 hb2 hE1 hE2 hs2
  go_enter Tryz.func24, Tryz.ntmps24
  go_wp2_with fail
  clear hW1 hW2
  refine (HOP.out _ HE2.out).mono ?_
  rintro e w3 ⟨rfl, hE3⟩
  have HE3 := Lib.hid (HE2.out.trans hE3); have HB13 := Lib.hid (block_ext HB1.out hE3); have HB23 := Lib.hid (block_ext HB2.out hE3)
  clear hE3 b0 b1 b2 c0 c1 c2 HOP
  go_wp2_with fail
  go_ret2
  exact ⟨rfl, HE3.out⟩

set_option maxRecDepth 100000 in
set_option maxHeartbeats 4000000 in
theorem Fits_ok (n F : Nat) (P : List Int) (C M : List (List Int)) (k : Wk) (v u : Value) (w : World) (hV : TempV w v P C M) (hR : RightT n F P C M) (hW : WalkAt w u k) (hz : openE P k = 0) (hs : strainsE k = 0) (hlib : LibT w) (hp : 2 < w.heap.size) :
    Calls Tryz.prog 17 #[v, u] w fun e w' => e = .returned (.tuple #[.int .i64 (fitsR M n (strainsTo k k.links.length)).1, .bool (fitsR M n (strainsTo k k.links.length)).2, .int .i64 0]) ∧ Ext w w' := by
  have HOP := Lib.hid (fun W (hE : Ext w W) => dopen_any n F P C M k v u W (hV.ext hE) hR (hW.ext hE) (hlib.ext hE) (Nat.lt_of_lt_of_le hp hE.size))
  have HTO := Lib.hid (fun W (hE : Ext w W) x vx (hx : Ints W vx x) (hA : allE n [x] = 0) => tempersOut_any n F P C M x v vx W (hV.ext hE) hx hR hA (hlib.ext hE) (Nat.lt_of_lt_of_le hp hE.size))
  have HSN := Lib.hid (fun W (hE : Ext w W) => Strains_any k u W (hW.ext hE))
  rw [hs] at HSN
  obtain ⟨hz0, hPk⟩ := openE_zero hz
  have HEA : Hid (∀ x ∈ strainsTo k k.links.length, allE n [x.2.2] = 0) := fun x hx => by
    have h := hs
    unfold strainsE at h
    rw [if_pos hz0] at h
    have := strE_each h x hx
    rwa [← hPk, hR.pl] at this
  obtain ⟨L, hL⟩ : ∃ L, strainsTo k k.links.length = L := ⟨_, rfl⟩
  have hLl : L.length ≤ 12 * k.links.length := by rw [← hL]; exact strainsTo_len k (walkE_right hz0) _
  have hL63 : k.links.length ≤ 63 := by have := (walkE_right hz0).len; have := (walkE_right hz0).most; omega
  have hL9 : L.length ≤ 1000 := by omega
  rw [hL] at HSN HEA ⊢
  clear hs hz0 hPk hL hLl hL63
  rw [hz] at HOP
  have HTV := Lib.hid hV; have HWK := Lib.hid hW
  obtain ⟨vp, vc, vm, rfl, hvp, hvc, hvm⟩ := hV
  obtain ⟨up, uc, ul, rfl, g1, g2, g3⟩ := hW
  obtain ⟨ap, cp, rfl, -⟩ := hvp.open
  obtain ⟨ac, cc, rfl, -⟩ := inCell.open hvc
  obtain ⟨am, cm, rfl, -⟩ := inCell.open hvm
  obtain ⟨aup, cup, rfl, -⟩ := g1.open
  obtain ⟨auc, cuc, rfl, -⟩ := inCell.open g2
  obtain ⟨aul, cul, rfl, -⟩ := inCell.open g3
  clear hvp hvc hvm g1 g2 g3 hR hlib hp hz
  obtain ⟨W1, hW1, hE1, hs1, hb1⟩ := tp_new w (.slice ap P.length cp) (.slice ac C.length cc) (.slice am M.length cm)
  obtain ⟨W2, hW2, hE2, hs2, hb2⟩ := wkb_new W1 (.slice aup k.primes.length cup) (.slice auc k.chords.length cuc) (.slice aul k.links.length cul)
  have HB1 := Lib.hid (block_ext hb1 hE2); have HB2 := Lib.hid hb2
  have HE2 := Lib.hid (hE1.trans hE2)
  rw [hs1] at HB2
  obtain ⟨b0, b1, b2, -⟩ := tp_block HB1.out
  obtain ⟨c0, c1, c2⟩ := wkb_cells HB2.out
  clear hb1 hb2 hE1 hE2 hs2
  go_enter Tryz.func17, Tryz.ntmps17
  go_wp2_with fail
  clear hW1 hW2
  refine (HOP.out _ HE2.out).mono ?_
  rintro e w3 ⟨rfl, hE3⟩
  have HE3 := Lib.hid (HE2.out.trans hE3); have HB13 := Lib.hid (block_ext HB1.out hE3); have HB23 := Lib.hid (block_ext HB2.out hE3)
  clear hE3 b0 b1 b2 c0 c1 c2 HOP
  obtain ⟨c0, c1, c2⟩ := wkb_cells HB23.out
  go_wp2_with fail
  refine (HSN.out _ HE3.out).mono ?_
  rintro e w4 ⟨r, rfl, hE4, hr4, -⟩
  have hr4 := hr4 (by first | rfl | trivial)
  have HE4 := Lib.hid (HE3.out.trans hE4); have HB14 := Lib.hid (block_ext HB13.out hE4)
  obtain ⟨a4, c4, rfl, hlc4, hmc4, -, -⟩ := ListAt.open hr4
  have HR4 := Lib.hid hr4
  unfold maxLen at hmc4
  clear hE4 hr4 c0 c1 c2 HSN HB23 HB13 HE3
  go_wp2_with fail
  go_loopw [29] (fun t wr => ∃ j : Nat, j ≤ L.length ∧ t = .int .i64 j ∧ Hid (Ext w4 wr) ∧ Hid (∀ x ∈ L.take j, outB M n x.2.2 = true)) (fun t _ => L.length - (intOf t).toNat)
  case atStart => exact ⟨0, by omega, rfl, Ext.refl _, fun x hx => by simp at hx⟩
  case round =>
    obtain ⟨j, hj, rfl, HEr, HJ⟩ := hrel
    by_cases hlt : j < L.length
    · obtain ⟨-, -, -, hcells⟩ := Strs.cells HR4.out
      obtain ⟨b, off, rfl, hb, hcell⟩ := hcells (by intro e; simp [e] at hlt)
      obtain ⟨x, hx⟩ : ∃ x, L[j]? = some x := ⟨L[j], List.getElem?_eq_getElem hlt⟩
      obtain ⟨vx, hv, k0, k1, k2⟩ := hcell j x hx
      obtain ⟨av, cv, rfl, -, -, -, -, -⟩ := hv.open
      have k0 := HEr.out.cell k0; have k1 := HEr.out.cell k1; have k2 := HEr.out.cell k2
      obtain ⟨W3, hW3, hE3, hsz3, q0, q1, q2⟩ := box_three wr (.int .i64 x.1) (.int .i64 x.2.1) (.slice av x.2.2.length cv) 82
      have HE5 := Lib.hid (HE4.out.trans (HEr.out.trans hE3)); have HE45 := Lib.hid (HEr.out.trans hE3)
      have HIX := Lib.hid (hv.ext (HE45.out))
      have HAX := Lib.hid (HEA.out x (List.mem_of_getElem? hx))
      have HX := Lib.hid hx
      obtain ⟨b0, b1, b2, -⟩ := tp_block (block_ext HB14.out HE45.out)
      have hji : (j : Int) < (L.length : Int) := by omega
      obtain ⟨q, hq⟩ : ∃ q, outB M n x.2.2 = q := ⟨_, rfl⟩
      have HTX := Lib.hid (HTO.out _ HE5.out _ _ HIX.out HAX.out)
      rw [show (!((temL M x.2.2 n).any (· != 0))) = q from hq] at HTX
      have HQ := Lib.hid hq
      clear hcells hcell hv hE3 hx hq HAX HIX
      cases q with
      | true =>
        go_wp2_with fail
        refine HTX.out.mono ?_
        rintro e w6 ⟨rfl, hE6⟩
        have HE6 := Lib.hid (HE45.out.trans hE6)
        clear hE6 HTX HE45 b0 b1 b2 k0 k1 k2 q0 q1 q2
        go_wp2_with fail
        go_roundw
        case rel => exact ⟨j + 1, by omega, by go_num, HE6.out, fun y hy => by
          rw [List.take_add_one, HX.out] at hy
          rcases List.mem_append.1 hy with hy | hy
          · exact HJ.out y hy
          · simp at hy; subst hy; exact HQ.out⟩
        case measure => simp [intOf]; omega
      | false =>
        go_wp2_with fail
        refine HTX.out.mono ?_
        rintro e w6 ⟨rfl, hE6⟩
        have HE6 := Lib.hid (HE4.out.trans (HE45.out.trans hE6))
        have HF : Hid (fitsR M n L = ((j : Int), false)) := by
          have : L.findIdx? (fun x => !outB M n x.2.2) = some j := by
            rw [List.findIdx?_eq_some_iff_getElem]
            obtain ⟨h1, h2⟩ := List.getElem?_eq_some_iff.1 HX.out
            refine ⟨h1, by rw [h2, HQ.out]; rfl, fun i hi => ?_⟩
            rw [HJ.out L[i] (List.mem_iff_getElem?.2 ⟨i, by rw [List.getElem?_take, if_pos hi]; exact List.getElem?_eq_getElem _⟩)]
            decide
          unfold Hid fitsR; rw [this]
        clear hE6 HTX HE45 b0 b1 b2 k0 k1 k2 q0 q1 q2
        go_wp2_with fail
        go_ret3
        rw [HF.out]
        exact ⟨rfl, HE6.out⟩
    · obtain rfl : j = L.length := by omega
      have HF : Hid (fitsR M n L = (0, true)) := by
        have : L.findIdx? (fun x => !outB M n x.2.2) = none := by
          rw [List.findIdx?_eq_none_iff]
          intro x hx
          rw [HJ.out x (by rw [List.take_length]; exact hx)]; rfl
        unfold Hid fitsR; rw [this]
      have HE6 := Lib.hid (HE4.out.trans HEr.out)
      go_wp2_with fail
      go_ret3
      rw [HF.out]
      exact ⟨rfl, HE6.out⟩

set_option maxRecDepth 100000 in
set_option maxHeartbeats 4000000 in
theorem Pump_ok (n F : Nat) (P : List Int) (C M : List (List Int)) (k : Wk) (v u : Value) (w : World) (hV : TempV w v P C M) (hR : RightT n F P C M) (hW : WalkAt w u k) (hz : openE P k = 0) (hs : rootsE k = 0) (hlib : LibT w) (hp : 2 < w.heap.size) :
    Calls Tryz.prog 18 #[v, u] w fun e w' => e = .returned (.tuple #[.bool ((driftOf k).any (· != 0) && outB M n (driftOf k)), .int .i64 0]) ∧ Ext w w' := by
  have HOP := Lib.hid (fun W (hE : Ext w W) => dopen_any n F P C M k v u W (hV.ext hE) hR (hW.ext hE) (hlib.ext hE) (Nat.lt_of_lt_of_le hp hE.size))
  have HTO := Lib.hid (fun W (hE : Ext w W) x vx (hx : Ints W vx x) (hA : allE n [x] = 0) => tempersOut_any n F P C M x v vx W (hV.ext hE) hx hR hA (hlib.ext hE) (Nat.lt_of_lt_of_le hp hE.size))
  have HRT := Lib.hid (fun W (hE : Ext w W) => Roots_any k u W (hW.ext hE))
  rw [hs] at HRT
  obtain ⟨hz0, hPk⟩ := openE_zero hz
  have HEA : Hid (∀ x ∈ rootsOf k k.links.length, allE n [x] = 0) := fun x hx => by
    have h := hs
    unfold rootsE at h
    rw [if_pos hz0] at h
    have := checkAll_each h x hx
    rwa [← hPk, hR.pl] at this
  have hrl : (rootsOf k k.links.length).length = k.links.length + 1 := by simp [rootsOf]
  have HLA : Hid ((rootsOf k k.links.length)[k.links.length]? = some (driftOf k)) := by simp [Hid, rootsOf, driftOf]
  have hl63 : k.links.length ≤ 63 := by have := (walkE_right hz0).len; have := (walkE_right hz0).most; omega
  obtain ⟨L, hL⟩ : ∃ L, rootsOf k k.links.length = L := ⟨_, rfl⟩
  obtain ⟨m, hm⟩ : ∃ m, k.links.length = m := ⟨_, rfl⟩
  rw [hL] at HRT HEA HLA hrl
  rw [hm] at HLA hrl hl63
  have HRL := Lib.hid hrl; have HM := Lib.hid hm; have HLL := Lib.hid hL
  clear hrl hm
  have HZR := Lib.hid (fun W v (h : Ints W v (driftOf k)) => isZero5_any (driftOf k) v W h)
  obtain ⟨D, hD⟩ : ∃ D, driftOf k = D := ⟨_, rfl⟩
  rw [hD] at HLA HZR ⊢
  obtain ⟨z, hzz⟩ : ∃ z, D.any (· != 0) = z := ⟨_, rfl⟩
  obtain ⟨q, hq⟩ : ∃ q, outB M n D = q := ⟨_, rfl⟩
  rw [hzz] at HZR ⊢
  rw [hq]
  have HQ := Lib.hid hq
  clear hs hz0 hPk hL hD hzz hq
  rw [hz] at HOP
  have HTV := Lib.hid hV; have HWK := Lib.hid hW
  obtain ⟨vp, vc, vm, rfl, hvp, hvc, hvm⟩ := hV
  obtain ⟨up, uc, ul, rfl, g1, g2, g3⟩ := hW
  obtain ⟨ap, cp, rfl, -⟩ := hvp.open
  obtain ⟨ac, cc, rfl, -⟩ := inCell.open hvc
  obtain ⟨am, cm, rfl, -⟩ := inCell.open hvm
  obtain ⟨aup, cup, rfl, -⟩ := g1.open
  obtain ⟨auc, cuc, rfl, -⟩ := inCell.open g2
  obtain ⟨aul, cul, rfl, -⟩ := inCell.open g3
  clear hvp hvc hvm g1 g2 g3 hR hlib hp hz
  obtain ⟨W1, hW1, hE1, hs1, hb1⟩ := tp_new w (.slice ap P.length cp) (.slice ac C.length cc) (.slice am M.length cm)
  obtain ⟨W2, hW2, hE2, hs2, hb2⟩ := wkb_new W1 (.slice aup k.primes.length cup) (.slice auc k.chords.length cuc) (.slice aul k.links.length cul)
  have HB1 := Lib.hid (block_ext hb1 hE2); have HB2 := Lib.hid hb2
  have HE2 := Lib.hid (hE1.trans hE2)
  rw [hs1] at HB2
  obtain ⟨b0, b1, b2, -⟩ := tp_block HB1.out
  obtain ⟨c0, c1, c2⟩ := wkb_cells HB2.out
  clear hb1 hb2 hE1 hE2 hs2
  go_enter Tryz.func18, Tryz.ntmps18
  go_wp2_with fail
  clear hW1 hW2
  refine (HOP.out _ HE2.out).mono ?_
  rintro e w3 ⟨rfl, hE3⟩
  have HE3 := Lib.hid (HE2.out.trans hE3); have HB13 := Lib.hid (block_ext HB1.out hE3); have HB23 := Lib.hid (block_ext HB2.out hE3)
  clear hE3 b0 b1 b2 c0 c1 c2 HOP
  obtain ⟨c0, c1, c2⟩ := wkb_cells HB23.out
  go_wp2_with fail
  refine (HRT.out _ HE3.out).mono ?_
  rintro e w4 ⟨r, rfl, hE4, hr4, -⟩
  have hr4 := hr4 (by first | rfl | trivial)
  have HE4 := Lib.hid (HE3.out.trans hE4); have HB14 := Lib.hid (block_ext HB13.out hE4)
  obtain ⟨a4, c4, rfl, hlc4, hmc4, -, hcl4⟩ := inCell.open hr4
  have HC4 := Lib.hid hcl4
  rw [HRL.out] at hlc4 ⊢
  unfold maxLen at hmc4
  clear hE4 hr4 hcl4 c0 c1 c2 HRT HB23 HB13 HE3
  obtain ⟨b4, o4, rfl, hb4, hcell⟩ := HC4.out (by intro e; have := HRL.out; simp [e] at this)
  obtain ⟨vd, hvd, cd⟩ := hcell m D HLA.out
  have HVD := Lib.hid hvd
  obtain ⟨ad, cdd, rfl, -⟩ := hvd.open
  have HAD := Lib.hid (HEA.out D (List.mem_of_getElem? HLA.out))
  have HZD := Lib.hid (HZR.out _ _ HVD.out)
  obtain ⟨b0, b1, b2, -⟩ := tp_block HB14.out
  clear hcell hvd HC4 HZR
  cases z with
  | false =>
    go_wp2_with fail
    refine HZD.out.mono ?_
    rintro e w5 ⟨rfl, hE5⟩
    have HE5 := Lib.hid (HE4.out.trans hE5)
    clear hE5 HZD b0 b1 b2 cd
    go_wp2_with fail
    go_ret2
    exact ⟨rfl, HE5.out⟩
  | true =>
    go_wp2_with fail
    refine HZD.out.mono ?_
    rintro e w5 ⟨rfl, hE5⟩
    have HE5 := Lib.hid (HE4.out.trans hE5)
    have HTX := Lib.hid (HTO.out _ HE5.out _ _ (HVD.out.ext hE5) HAD.out)
    rw [show (!((temL M D n).any (· != 0))) = q from HQ.out] at HTX
    obtain ⟨b0, b1, b2, -⟩ := tp_block (block_ext HB14.out hE5)
    clear hE5 HZD cd
    go_wp2_with fail
    refine HTX.out.mono ?_
    rintro e w6 ⟨rfl, hE6⟩
    have HE6 := Lib.hid (HE5.out.trans hE6)
    clear hE6 HTX b0 b1 b2
    go_wp2_with fail
    go_ret2
    exact ⟨by simp, HE6.out⟩

set_option maxRecDepth 100000 in
set_option maxHeartbeats 4000000 in
theorem Returns_ok (n F : Nat) (P : List Int) (C M : List (List Int)) (k : Wk) (v u : Value) (w : World) (hV : TempV w v P C M) (hR : RightT n F P C M) (hW : WalkAt w u k) (hz : openE P k = 0) (hs : rootsE k = 0) (hlib : LibT w) (hp : 2 < w.heap.size) :
    Calls Tryz.prog 24 #[v, u] w fun e w' => ∃ r, e = .returned (.tuple #[r, .int .i64 0]) ∧ Ints w' r (returnsTo M n (rootsOf k k.links.length) (k.links.length + 1)) ∧ Ext w w' := by
  have HOP := Lib.hid (fun W (hE : Ext w W) => dopen_any n F P C M k v u W (hV.ext hE) hR (hW.ext hE) (hlib.ext hE) (Nat.lt_of_lt_of_le hp hE.size))
  have HTO := Lib.hid (fun W (hE : Ext w W) x vx (hx : Ints W vx x) (hA : allE n [x] = 0) => tempersOut_any n F P C M x v vx W (hV.ext hE) hx hR hA (hlib.ext hE) (Nat.lt_of_lt_of_le hp hE.size))
  have HRT := Lib.hid (fun W (hE : Ext w W) => Roots_any k u W (hW.ext hE))
  rw [hs] at HRT
  obtain ⟨hz0, hPk⟩ := openE_zero hz
  have HEA : Hid (∀ x ∈ rootsOf k k.links.length, allE n [x] = 0) := fun x hx => by
    have h := hs
    unfold rootsE at h
    rw [if_pos hz0] at h
    have := checkAll_each h x hx
    rwa [← hPk, hR.pl] at this
  have hrl : (rootsOf k k.links.length).length = k.links.length + 1 := by simp [rootsOf]
  have HLA : Hid ((rootsOf k k.links.length)[k.links.length]? = some (driftOf k)) := by simp [Hid, rootsOf, driftOf]
  have hl63 : k.links.length ≤ 63 := by have := (walkE_right hz0).len; have := (walkE_right hz0).most; omega
  obtain ⟨L, hL⟩ : ∃ L, rootsOf k k.links.length = L := ⟨_, rfl⟩
  obtain ⟨m, hm⟩ : ∃ m, k.links.length = m := ⟨_, rfl⟩
  rw [hL] at HRT HEA HLA hrl
  rw [hm] at HLA hrl hl63
  have HRL := Lib.hid hrl; have HM := Lib.hid hm; have HLL := Lib.hid hL
  clear hrl hm
  rw [hL, HM.out]
  clear hs hz0 hPk hL
  rw [hz] at HOP
  have HTV := Lib.hid hV; have HWK := Lib.hid hW
  obtain ⟨vp, vc, vm, rfl, hvp, hvc, hvm⟩ := hV
  obtain ⟨up, uc, ul, rfl, g1, g2, g3⟩ := hW
  obtain ⟨ap, cp, rfl, -⟩ := hvp.open
  obtain ⟨ac, cc, rfl, -⟩ := inCell.open hvc
  obtain ⟨am, cm, rfl, -⟩ := inCell.open hvm
  obtain ⟨aup, cup, rfl, -⟩ := g1.open
  obtain ⟨auc, cuc, rfl, -⟩ := inCell.open g2
  obtain ⟨aul, cul, rfl, -⟩ := inCell.open g3
  clear hvp hvc hvm g1 g2 g3 hR hlib hp hz
  obtain ⟨W1, hW1, hE1, hs1, hb1⟩ := tp_new w (.slice ap P.length cp) (.slice ac C.length cc) (.slice am M.length cm)
  obtain ⟨W2, hW2, hE2, hs2, hb2⟩ := wkb_new W1 (.slice aup k.primes.length cup) (.slice auc k.chords.length cuc) (.slice aul k.links.length cul)
  have HB1 := Lib.hid (block_ext hb1 hE2); have HB2 := Lib.hid hb2
  have HE2 := Lib.hid (hE1.trans hE2)
  rw [hs1] at HB2
  obtain ⟨b0, b1, b2, -⟩ := tp_block HB1.out
  obtain ⟨c0, c1, c2⟩ := wkb_cells HB2.out
  clear hb1 hb2 hE1 hE2 hs2
  go_enter Tryz.func24, Tryz.ntmps24
  go_wp2_with fail
  clear hW1 hW2
  refine (HOP.out _ HE2.out).mono ?_
  rintro e w3 ⟨rfl, hE3⟩
  have HE3 := Lib.hid (HE2.out.trans hE3); have HB13 := Lib.hid (block_ext HB1.out hE3); have HB23 := Lib.hid (block_ext HB2.out hE3)
  clear hE3 b0 b1 b2 c0 c1 c2 HOP
  obtain ⟨c0, c1, c2⟩ := wkb_cells HB23.out
  go_wp2_with fail
  refine (HRT.out _ HE3.out).mono ?_
  rintro e w4 ⟨r, rfl, hE4, hr4, -⟩
  have hr4 := hr4 (by first | rfl | trivial)
  have HE4 := Lib.hid (HE3.out.trans hE4); have HB14 := Lib.hid (block_ext HB13.out hE4)
  obtain ⟨a4, c4, rfl, hlc4, hmc4, -, hcl4⟩ := inCell.open hr4
  have HC4 := Lib.hid hcl4
  rw [HRL.out] at hlc4 ⊢
  unfold maxLen at hmc4
  clear hE4 hr4 hcl4 c0 c1 c2 HRT HB23 HB13 HE3
  have hws : w.heap.size ≤ w4.heap.size := HE4.out.size
  go_wp2_with fail
  go_loopw [30, 9] (fun t so wr => ∃ j : Nat, j ≤ m + 1 ∧ t = .int .i64 j ∧ Hid (Ext w4 wr) ∧ Hid (Build wr w4.heap.size 3 1 so intC5 (returnsTo M n L j))) (fun t _ _ => m + 1 - (intOf t).toNat)
  case atStart => exact ⟨0, by omega, rfl, Ext.refl _, by unfold Hid; exact Build.nil _ _ _ _ _⟩
  case round =>
    obtain ⟨j, hj, rfl, HEr, HBu⟩ := hrel
    obtain ⟨wo, rfl⟩ : ∃ wo : World, wo = wr := ⟨_, rfl⟩
    by_cases hlt : j < m + 1
    · obtain ⟨b4, o4, rfl, hb4, hcell⟩ := HC4.out (by intro e; have := HRL.out; simp [e] at this)
      obtain ⟨x, hx⟩ : ∃ x, L[j]? = some x := ⟨L[j]'(by have := HRL.out; omega), List.getElem?_eq_getElem _⟩
      obtain ⟨vx, hv, k0⟩ := hcell j x hx
      have k0 := HEr.out.cell k0
      have HIX := Lib.hid (hv.ext HEr.out)
      obtain ⟨av, cv, rfl, -, -, -, -, -⟩ := hv.open
      have HAX := Lib.hid (HEA.out x (List.mem_of_getElem? hx))
      have HE5 := Lib.hid (HE4.out.trans HEr.out)
      have HG : Hid (L.getD j [] = x) := by unfold Hid; rw [List.getD_eq_getElem?_getD, hx]; rfl
      obtain ⟨b0, b1, b2, -⟩ := tp_block (block_ext HB14.out HEr.out)
      obtain ⟨q, hq⟩ : ∃ q, outB M n x = q := ⟨_, rfl⟩
      have HTX := Lib.hid (HTO.out _ HE5.out _ _ HIX.out HAX.out)
      rw [show (!((temL M x n).any (· != 0))) = q from hq] at HTX
      have HQ := Lib.hid hq
      have HS := Lib.hid (returnsTo_succ M n L j)
      have hji : (j : Int) < ((m + 1 : Nat) : Int) := by omega
      clear hcell hv hx hq HAX HIX
      cases q with
      | true =>
        by_cases hj0 : 0 < j
        · have hjp : (0 : Int) < (j : Int) := by omega
          go_wp2_with fail
          refine HTX.out.mono ?_
          rintro e w6 ⟨rfl, hE6⟩
          have HE6 := Lib.hid (HEr.out.trans hE6)
          have HB6 := Lib.hid (HBu.out.ext hE6)
          have hs6 := (HEr.out.trans hE6).size
          have HN : Hid (returnsTo M n L (j + 1) = returnsTo M n L j ++ [(j : Int)]) := by
            unfold Hid; rw [HS.out, HG.out, HQ.out, decide_eq_true hj0]; rfl
          have HJ : Hid ((returnsTo M n L j).length < 1000000) := by
            have := returnsTo_len M n L j
            unfold Hid; omega
          clear hE6 HTX b0 b1 b2 k0 HBu
          go_wp2_with (at_builtin; go_must (refine wpList_append_build _ rfl _ _ 36 rfl w4.heap.size 3 (.int .i64 0) 1 8 Tryz.underlying36 infoInt rfl (by decide) u9 intC5 (returnsTo M n L j) (j : Int) #[.int .i64 (j : Int)] 3 rfl HB6.out rfl rfl ?e1 (fun _ _ => rfl) HJ.out ?e3 hs6 ?_))
          case e1 => simp [Value.oneCell']
          case e3 => omega
          intro v' w7 hB7 hg7 hb7 hs7 _
          rw [← HN.out] at hB7
          have HB7 := Lib.hid hB7
          have HE7 := Lib.hid (Below.trans HE6.out hb7)
          clear hB7 hg7 hb7
          go_wp2_with fail
          go_roundw
          case rel => exact ⟨j + 1, by omega, by go_num, HE7.out, HB7.out⟩
          case measure => simp [intOf]; omega
        · have hjp : ¬ (0 : Int) < (j : Int) := by omega
          go_wp2_with fail
          refine HTX.out.mono ?_
          rintro e w6 ⟨rfl, hE6⟩
          have HE6 := Lib.hid (HEr.out.trans hE6)
          have HB6 := Lib.hid (HBu.out.ext hE6)
          have HN : Hid (returnsTo M n L (j + 1) = returnsTo M n L j) := by
            unfold Hid; rw [HS.out, decide_eq_false hj0]; simp
          clear hE6 HTX b0 b1 b2 k0 HBu
          go_wp2_with fail
          go_roundw
          case rel => exact ⟨j + 1, by omega, by go_num, HE6.out, by rw [HN.out]; exact HB6.out⟩
          case measure => simp [intOf]; omega
      | false =>
        go_wp2_with fail
        refine HTX.out.mono ?_
        rintro e w6 ⟨rfl, hE6⟩
        have HE6 := Lib.hid (HEr.out.trans hE6)
        have HB6 := Lib.hid (HBu.out.ext hE6)
        have HN : Hid (returnsTo M n L (j + 1) = returnsTo M n L j) := by
          unfold Hid; rw [HS.out, HG.out, HQ.out]; simp
        clear hE6 HTX b0 b1 b2 k0 HBu
        by_cases hj0 : 0 < j
        · have hjp : (0 : Int) < (j : Int) := by omega
          go_wp2_with fail
          go_roundw
          case rel => exact ⟨j + 1, by omega, by go_num, HE6.out, by rw [HN.out]; exact HB6.out⟩
          case measure => simp [intOf]; omega
        · have hjp : ¬ (0 : Int) < (j : Int) := by omega
          go_wp2_with fail
          go_roundw
          case rel => exact ⟨j + 1, by omega, by go_num, HE6.out, by rw [HN.out]; exact HB6.out⟩
          case measure => simp [intOf]; omega
    · obtain rfl : j = m + 1 := by omega
      have HL := Lib.hid HBu.out.ints5
      have hl : (returnsTo M n L (m + 1)).length ≤ m + 1 := returnsTo_len M n L (m + 1)
      have HI : Hid (Ints wo u9 (returnsTo M n L (m + 1))) := Ints.of_owns HL.out (fun x hx => by
        unfold returnsTo at hx
        obtain ⟨i, hi, rfl⟩ := List.mem_map.1 hx
        have := List.mem_range.1 (List.mem_filter.1 hi).1
        omega)
      have HE6 := Lib.hid (HE4.out.trans HEr.out)
      clear HBu hl HL
      go_wp2_with fail
      go_ret2
      exact ⟨_, rfl, HI.out, HE6.out⟩

end Go.Proofs.YtjihfabhgcfjnaaGreatDoor
