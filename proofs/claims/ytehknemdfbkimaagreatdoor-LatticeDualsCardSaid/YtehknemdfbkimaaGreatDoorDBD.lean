/- Merged: LatInt, Ref9. -/
import Derived.Test.YtehknemdfbkimaaGreatDoorDBB
import Derived.Test.YtehknemdfbkimaaGreatDoorDBC
import Derived.Test.YtehknemdfbkimaaGreatDoorDAU
import Derived.Test.YtehknemdfbkimaaGreatDoorDAP
/- Contract of package lattice: Intersect. -/
namespace Go.Proofs.YtehknemdfbkimaaGreatDoor
set_option linter.unusedVariables false
set_option linter.unusedSimpArgs false
open Go.RowKit

set_option maxRecDepth 100000 in
set_option maxHeartbeats 1000000 in
theorem behindR_any (F cols k : Nat) (m : List (List Int)) (v : Value) (base : Nat) (w : World) (R : List (List Int)) (hM : ResM w base v m) (hrow : okM (k + cols) m = true) (hR : formO cols F cols (behindL k m) = some R)
    (hm : m.length ≤ 1000) (hc1 : 1 ≤ cols) (hkc : k + cols ≤ 1000) (ht : Pow10 w) (hb : 0 < base) (hbw : base ≤ w.heap.size) :
    Calls Tryz.prog 94 #[v, .int .i64 k, .int .i64 cols] w fun e w' => ∃ v, e = .returned v ∧ ResM w' base v R ∧ Below base w w' := by
  obtain ⟨a, c, rfl, h2, h3, h4⟩ := hM
  rcases h4 with rfl | ⟨g, tags, rfl, h6, h7⟩
  · have h0 : R = [] := by
      rw [show behindL k [] = [] from rfl, formO_nil] at hR
      exact (Option.some.inj hR).symm
    subst h0
    have HF := Lib.hid (fun W => form_none cols none 0 W)
    clear hrow hR ht hb h2 h3 hm hc1 hkc hbw
    change Calls Tryz.prog 94 #[.slice a 0 c, .int .i64 k, .int .i64 cols] w _
    go_enter Tryz.func94, Tryz.ntmps94
    go_wp2_with fail
    go_loop [12, 7] (fun t o => t = .int .i64 0 ∧ o = .slice none 0 0) (fun _ _ => 0)
    case atStart => exact ⟨rfl, rfl⟩
    case round =>
      obtain ⟨rfl, rfl⟩ := hrel
      go_wp2_with fail
      with_reducible refine (HF.out w).mono ?_
      rintro e w2 ⟨rfl, hw2⟩
      have HW2 := Lib.hid hw2
      clear hw2
      go_wp2_with fail
      go_ret
      exact ⟨_, rfl, ⟨none, 0, rfl, Nat.le_refl _, by unfold maxLen; omega, .inl rfl⟩, by rw [← HW2.out]; exact Below.refl _ _⟩
  · exact behind_any F cols k m tags g c base w R h6 hrow hR h2 h3 hm hc1 hkc ht hb h7 hbw

def wideI (n : Nat) (xss yss : List (List Int)) : List (List Int) := xss.map (fun r => r ++ r) ++ yss.map (fun r => r ++ List.replicate n 0)
/-- The rows so far. -/
def dblT (xss : List (List Int)) (j : Nat) : List (List Int) := (xss.take j).map fun r => r ++ r
def intT (n : Nat) (xss yss : List (List Int)) (j : Nat) : List (List Int) := xss.map (fun r => r ++ r) ++ (yss.take j).map fun r => r ++ List.replicate n 0
theorem dblT_succ {xss : List (List Int)} {j : Nat} {x : List Int} (h : xss[j]? = some x) : dblT xss (j + 1) = dblT xss j ++ [x ++ x] := by
  unfold dblT; rw [List.take_add_one, h, List.map_append]; rfl
theorem dblT_len {xss : List (List Int)} {j : Nat} (h : j ≤ xss.length) : (dblT xss j).length = j := by
  unfold dblT; rw [List.length_map, List.length_take]; omega
theorem intT_succ {n : Nat} {xss yss : List (List Int)} {j : Nat} {x : List Int} (h : yss[j]? = some x) : intT n xss yss (j + 1) = intT n xss yss j ++ [x ++ List.replicate n 0] := by
  unfold intT; rw [List.take_add_one, h, List.map_append, List.append_assoc]; rfl
theorem intT_len {n : Nat} {xss yss : List (List Int)} {j : Nat} (h : j ≤ yss.length) : (intT n xss yss j).length = xss.length + j := by
  unfold intT; rw [List.length_append, List.length_map, List.length_map, List.length_take]; omega
theorem intT_zero (n : Nat) (xss yss : List (List Int)) : intT n xss yss 0 = dblT xss xss.length := by
  unfold intT dblT; rw [List.take_zero, List.map_nil, List.append_nil, List.take_length]
theorem intT_all (n : Nat) (xss yss : List (List Int)) : intT n xss yss yss.length = wideI n xss yss := by
  unfold intT wideI; rw [List.take_length]
theorem two_new (w : World) (x y : Value) (T : TypeId) : ∃ W, w.alloc (.cells #[x, y] T) = W ∧ Ext w W ∧ W.cell? ⟨w.heap.size, 0, none⟩ = some x ∧ W.cell? ⟨w.heap.size, 1, none⟩ = some y := by
  refine ⟨_, rfl, Ext.alloc _ _, ?_, ?_⟩
  · rw [World.cell?_alloc_new]; rfl
  · rw [World.cell?_alloc_new]; rfl

set_option maxRecDepth 100000 in
set_option maxHeartbeats 8000000 in
theorem intersect_any (n F : Nat) (xss yss H V : List (List Int)) (v v' : Value) (w : World) (h : LatV w v n xss) (h' : LatV w v' n yss) (hE : chkE n xss = 0) (hE' : chkE n yss = 0) (hn : 1 ≤ n) (hH : formO (2 * n) F (2 * n) (wideI n xss yss) = some H) (hokH : okM (n + n) H = true) (hHl : H.length ≤ 1000) (hV : formO n F n (behindL n H) = some V) (hsm : ∀ r ∈ V, r.all smB = true) (hl : ∀ r ∈ V, r.length ≤ 1000) (hm : V.length ≤ 1000) (hlib : LibT w) (hb : 0 < w.heap.size) :
    Calls Tryz.prog 34 #[v, v'] w (LsR n V w) := by
  obtain ⟨l1, l2, l3, l4⟩ := latE_rows (chkE_zero hE).1
  obtain ⟨m1, m2, m3, m4⟩ := latE_rows (chkE_zero hE').1
  have HC := Lib.hid (fun W (hW : Ext w W) => checkBoth_any n n xss yss v v' W (h.ext hW) (h'.ext hW))
  rw [bothE_zeroL hE hE'] at HC
  obtain ⟨u, rfl, hu⟩ := h
  obtain ⟨u', rfl, hu'⟩ := h'
  have HLX := Lib.hid (fun x (hx : x ∈ xss) => show x.length = n by have := (l4 x hx).2; omega)
  have HLY := Lib.hid (fun x (hx : x ∈ yss) => show x.length = n by have := (m4 x hx).2; omega)
  have HN12 : Hid (n ≤ 12) := by unfold Hid; omega
  have HXL : Hid (xss.length ≤ 12) := l3
  have HYL : Hid (yss.length ≤ 12) := m3
  have HLO := Lib.hid (fun (x : List Int) (hx : x.length = n) vx W (hW : Ext w W) (hi : Ints W vx x) => longOf_any x vx W hi (by omega) (hlib.pow.ext hW))
  have HZ := Lib.hid (fun W (hW : Ext w W) => zeros_any n W (by omega) (hlib.pow.ext hW))
  have HFO : Hid (∀ W v base, ResM W base v (wideI n xss yss) → Ext w W → 0 < base → base ≤ W.heap.size → Calls Tryz.prog 90 #[v, .int .i64 (2 * (n : Int))] W fun e w' => ∃ v', e = .returned v' ∧ ResM w' base v' H ∧ Below base W w') := fun W v base hM hW hbb hbw => by
    have := formR_any (2 * n) F (2 * n) (wideI n xss yss) v base W H hM hH (Nat.le_refl _) (by omega) (hlib.pow.ext hW) hbb hbw
    rw [show ((2 * n : Nat) : Int) = 2 * (n : Int) by omega] at this
    exact this
  have HBH := Lib.hid (fun W v base (hM : ResM W base v H) (hW : Ext w W) (hbb : 0 < base) (hbw : base ≤ W.heap.size) => behindR_any F n n H v base W V hM hokH hV hHl hn (by omega) (hlib.pow.ext hW) hbb hbw)
  have HS := Lib.hid (fun W U base (hM : ResM W base U V) (hW : Ext w W) => lshortR_any n V U base W hM hsm hl hm (by omega) (hlib.ext hW))
  have HPB := Lib.hid hb
  have HUX := Lib.hid hu; have HUY := Lib.hid hu'
  obtain ⟨a, c, rfl, h1, h2, -, hc⟩ := inCell.open hu
  obtain ⟨a', c', rfl, k1, k2, -, kc⟩ := inCell.open hu'
  have HXC := Lib.hid hc; have HYC := Lib.hid kc
  unfold maxLen at h2 k2
  clear hu hu' hc kc hE hE' hH hokH hHl hV hsm hl hm hlib l1 l2 l3 l4 m1 m2 m3 m4 hb
  go_enter Tryz.func34, Tryz.ntmps34
  obtain ⟨W1, hW1, hE1, hs1, hb1⟩ := lat_new w (.int .i64 n) (.slice a xss.length c)
  obtain ⟨W2, hW2, hE2, hs2, hb2⟩ := lat_new W1 (.int .i64 n) (.slice a' yss.length c')
  obtain ⟨W3, hW3, hE3, hs3, hb3⟩ := lat_new W2 (.int .i64 0) (.slice none 0 0)
  have HB1 := Lib.hid (block_ext (block_ext hb1 hE2) hE3)
  have HB2 := Lib.hid (block_ext hb2 hE3)
  have HB3 := Lib.hid hb3
  have HE2 := Lib.hid (hE1.trans (hE2.trans hE3))
  have z1 : W1.heap.size = w.heap.size + 1 := by omega
  have z2 : W2.heap.size = w.heap.size + 1 + 1 := by omega
  have z3 : W3.heap.size = w.heap.size + 1 + 1 + 1 := by omega
  rw [z1] at HB2
  rw [z2] at HB3
  clear hE1 hs1 hb1 hE2 hs2 hb2 hE3 hs3 hb3
  obtain ⟨e10, e11, -⟩ := lat_block HB1.out
  obtain ⟨e20, e21, -⟩ := lat_block HB2.out
  go_wp2_with fail
  refine (HC.out _ HE2.out).mono ?_
  rintro e w1 ⟨rfl, hE3⟩
  have HE3 := Lib.hid (HE2.out.trans hE3)
  have g0 := hE3.cell e10; have g1 := hE3.cell e11
  have HB2 := Lib.hid (block_ext HB2.out hE3)
  have HBR := Lib.hid (block_ext HB3.out hE3)
  have HSR : Hid (w.heap.size + 1 + 1 < w1.heap.size) := block_lt HBR.out
  clear hE3 HC e10 e11 e20 e21 HB1 HB3 hW1 hW2 hW3 z1 z2 z3
  have hn12 := HN12.out
  go_wp2_with fail
  clear g0 g1
  go_loopw [25, 8] (fun t so wr => ∃ (j : Nat) (tags : List (Nat × Nat × Nat)), j ≤ xss.length ∧ t = .int .i64 j ∧ Hid (Ext w1 wr) ∧ Hid (LongsB wr w1.heap.size w1.heap.size so tags (dblT xss j)) ∧ Hid (so = .slice none 0 0 ∧ j = 0 ∨ ∃ g c, so = .slice (some ⟨g, 0, none⟩) j c)) (fun t _ _ => xss.length - (intOf t).toNat)
  case atStart => exact ⟨0, [], by omega, rfl, Ext.refl _, LongsB.nil _ _ _, .inl ⟨rfl, rfl⟩⟩
  case round =>
    obtain ⟨j, tags, hj, rfl, HE, HL, HSV⟩ := hrel
    obtain ⟨wo, rfl⟩ : ∃ wo : World, wo = wr := ⟨_, rfl⟩
    by_cases hlt : j < xss.length
    · obtain ⟨b, off, rfl, hbb, hcell⟩ := HXC.out (by intro e; simp [e] at hlt)
      obtain ⟨x, hx⟩ : ∃ x, xss[j]? = some x := ⟨xss[j], List.getElem?_eq_getElem hlt⟩
      obtain ⟨vr, hvr, hcr⟩ := hcell j x hx
      have HWO := Lib.hid (HE3.out.trans HE.out)
      have gx := HWO.out.cell hcr
      have HXI := Lib.hid (hvr.ext HWO.out)
      have HXN := Lib.hid (HLX.out x (List.mem_of_getElem? hx))
      have HNX0 := dblT_succ hx
      have HJL : Hid ((dblT xss j).length = j) := dblT_len hj
      obtain ⟨ar, cr, rfl, -⟩ := hvr.open
      obtain ⟨k, hk⟩ : ∃ k, x.length = k := ⟨_, rfl⟩
      rw [hk] at gx HXI HXN
      have HK := Lib.hid hk
      have HKN : Hid (1 ≤ k ∧ k ≤ 12) := by have := HXN.out; have := HN12.out; exact ⟨by omega, by omega⟩
      clear hcell hx hvr hcr hk
      have HO1 := Lib.hid (HLO.out x (HK.out.trans HXN.out) _ wo HWO.out HXI.out)
      rw [HK.out] at HO1
      go_wp2_with fail
      refine HO1.out.mono ?_
      rintro e w2 ⟨r1, rc1, rfl, hR1, hr1, hr2, hr3, hE2⟩
      have HR1 := Lib.hid hR1
      have HW2 := Lib.hid (HWO.out.trans hE2)
      have HX2 := Lib.hid (HE.out.trans hE2)
      have HL2 := Lib.hid (HL.out.ext hE2)
      have HO2 := Lib.hid (HLO.out x (HK.out.trans HXN.out) _ w2 HW2.out (HXI.out.ext hE2))
      rw [HK.out] at HO2
      clear hE2 hR1 hr1 hr2 hr3 HO1 HL HXI
      go_wp2_with fail
      refine HO2.out.mono ?_
      rintro e w3 ⟨r2, rc2, rfl, hR2, hr1, hr2, hr3, hE3⟩
      have HR2 := Lib.hid hR2
      have HR1 := Lib.hid (HR1.out.ext hE3)
      have HW3 := Lib.hid (HW2.out.trans hE3)
      have HX3 := Lib.hid (HX2.out.trans hE3)
      have HL3 := Lib.hid (HL2.out.ext hE3)
      clear hE3 hR2 hr1 hr2 hr3 HO2 HL2 HX2 HW2
      obtain ⟨W4, hW4, hE4, c0, c1⟩ := two_new w3 (.slice (some ⟨r1, 0, none⟩) k rc1) (.slice (some ⟨r2, 0, none⟩) k rc2) 114
      have HW4 := Lib.hid (HW3.out.trans hE4)
      have HX4 := Lib.hid (HX3.out.trans hE4)
      have HL4 := Lib.hid (HL3.out.ext hE4)
      have hcc := concatLong_any x x w3.heap.size r1 rc1 r2 rc2 W4 (HR1.out.ext hE4) (HR2.out.ext hE4) (by rw [HK.out]; exact c0) (by rw [HK.out]; exact c1) (by rw [HK.out]; exact HKN.out.1) (by rw [HK.out]; have := HKN.out.2; omega) (by rw [HK.out]; exact HKN.out.1) (by rw [HK.out]; have := HKN.out.2; omega)
      rw [HK.out] at hcc
      have HCC := Lib.hid hcc
      clear hcc hE4 c0 c1 HL3 HX3 HW3 HR1 HR2
      go_wp2_with fail
      clear hW4
      refine HCC.out.mono ?_
      rintro e w5 ⟨gr, cr2, rfl, hR5, hg5, hc5, hd5, hE5⟩
      have HR5 := Lib.hid hR5
      have HW5 := Lib.hid (HW4.out.trans hE5)
      have HX5 := Lib.hid (HX4.out.trans hE5)
      have HL5 := Lib.hid (HL4.out.ext hE5)
      obtain ⟨X, hX⟩ : ∃ X, x ++ x = X := ⟨_, rfl⟩
      have HRL : Hid (X.length = k + k) := by unfold Hid; rw [← hX, List.length_append, HK.out]
      rw [hX] at HR5 HNX0
      have HNX := Lib.hid HNX0
      have HB5 : Hid (w1.heap.size ≤ gr ∧ w1.heap.size ≤ w5.heap.size) := by have := HX4.out.size; have := HX5.out.size; exact ⟨by omega, by omega⟩
      have HV1 : Hid (u8.ownBlock ≠ some gr) := fun e => by have h1 := (HL4.out.own.lt gr e).2; omega
      have HN1 : Hid (gr ∉ tags.map (·.1)) := fun hm => by
        obtain ⟨t, ht, e⟩ := List.mem_map.1 hm
        obtain ⟨i, hi⟩ := List.getElem?_of_mem ht
        have hl : i < (dblT xss j).length := by rw [← HL4.out.len]; exact (List.getElem?_eq_some_iff.1 hi).1
        have := (HL4.out.row i t _ hi (List.getElem?_eq_getElem hl)).2.2.1.lt
        omega
      have HCD := Lib.hid (And.intro hc5 hd5)
      clear hR5 hg5 hc5 hd5 hE5 HCC HL4 HX4 HW4 hX HNX0
      go_wp2_with (at_builtin; go_must (refine wpList_append_long _ rfl _ _ rfl w1.heap.size w1.heap.size u8 tags (dblT xss j) (gr, 0, cr2) X #[.slice (some ⟨gr, 0, none⟩) (k + k) cr2] 114 rfl HL5.out rfl ?e0 ?e3 HCD.out.2 HR5.out HB5.out.1 HV1.out HN1.out ?e2 HB5.out.2 ?_))
      case e0 => rw [HRL.out]; rfl
      case e3 => rw [HRL.out]; exact HCD.out.1
      case e2 => rw [HJL.out]; have := HXL.out; omega
      intro v6 w6 hL6 hb6 hv6
      rw [← HNX.out] at hL6
      rw [HJL.out] at hv6
      have HL6 := Lib.hid hL6
      have HX6 := Lib.hid (Below.trans HX5.out hb6)
      have HV6 := hv6
      clear hL6 hb6 hv6
      go_wp2_with fail
      go_roundw
      case rel => exact ⟨j + 1, _, by omega, by go_num, HX6.out, HL6.out, .inr HV6.out⟩
      case measure => simp [intOf]; omega
    · obtain rfl : j = xss.length := by omega
      have HEX := Lib.hid HE.out
      have HEW := Lib.hid (HE3.out.trans HE.out)
      obtain ⟨e20, e21, -⟩ := lat_block (block_ext HB2.out HE.out)
      clear HSV
      have hn12 := HN12.out
      go_wp2_with fail
      clear e20 e21
      go_loopw [42, 8] (fun t so wr => ∃ (j : Nat) (tags : List (Nat × Nat × Nat)), j ≤ yss.length ∧ t = .int .i64 j ∧ Hid (Ext w1 wr) ∧ Hid (LongsB wr w1.heap.size w1.heap.size so tags (intT n xss yss j))) (fun t _ _ => yss.length - (intOf t).toNat)
      case atStart => exact ⟨0, tags, by omega, rfl, HEX.out, by unfold Hid; rw [intT_zero]; exact HL.out⟩
      case round =>
        obtain ⟨j, tags, hj, rfl, HE, HL⟩ := hrel
        obtain ⟨wo, rfl⟩ : ∃ wo : World, wo = wr := ⟨_, rfl⟩
        by_cases hlt : j < yss.length
        · obtain ⟨b, off, rfl, hbb, hcell⟩ := HYC.out (by intro e; simp [e] at hlt)
          obtain ⟨x, hx⟩ : ∃ x, yss[j]? = some x := ⟨yss[j], List.getElem?_eq_getElem hlt⟩
          obtain ⟨vr, hvr, hcr⟩ := hcell j x hx
          have HWO := Lib.hid (HE3.out.trans HE.out)
          have gx := HWO.out.cell hcr
          have HXI := Lib.hid (hvr.ext HWO.out)
          have HXN := Lib.hid (HLY.out x (List.mem_of_getElem? hx))
          have HNX0 := intT_succ (n := n) (xss := xss) hx
          have HJL : Hid ((intT n xss yss j).length = xss.length + j) := intT_len hj
          obtain ⟨ar, cr, rfl, -⟩ := hvr.open
          rw [HXN.out] at gx HXI
          have HZL : Hid ((List.replicate n (0 : Int)).length = n) := by unfold Hid; simp
          clear hcell hx hvr hcr
          have HO1 := Lib.hid (HLO.out x HXN.out _ wo HWO.out HXI.out)
          rw [HXN.out] at HO1
          go_wp2_with fail
          refine HO1.out.mono ?_
          rintro e w2 ⟨r1, rc1, rfl, hR1, hr1, hr2, hr3, hE2⟩
          have HR1 := Lib.hid hR1
          have HW2 := Lib.hid (HWO.out.trans hE2)
          have HX2 := Lib.hid (HE.out.trans hE2)
          have HL2 := Lib.hid (HL.out.ext hE2)
          have HO2 := Lib.hid (HZ.out w2 HW2.out)
          clear hE2 hR1 hr1 hr2 hr3 HO1 HL HXI
          go_wp2_with fail
          refine HO2.out.mono ?_
          rintro e w3 ⟨r2, rc2, rfl, hR2, hr1, hr2, hr3, hE3⟩
          have HR2 := Lib.hid hR2
          have HR1 := Lib.hid (HR1.out.ext hE3)
          have HW3 := Lib.hid (HW2.out.trans hE3)
          have HX3 := Lib.hid (HX2.out.trans hE3)
          have HL3 := Lib.hid (HL2.out.ext hE3)
          clear hE3 hR2 hr1 hr2 hr3 HO2 HL2 HX2 HW2
          obtain ⟨W4, hW4, hE4, c0, c1⟩ := two_new w3 (.slice (some ⟨r1, 0, none⟩) n rc1) (.slice (some ⟨r2, 0, none⟩) n rc2) 114
          have HW4 := Lib.hid (HW3.out.trans hE4)
          have HX4 := Lib.hid (HX3.out.trans hE4)
          have HL4 := Lib.hid (HL3.out.ext hE4)
          have hcc := concatLong_any x (List.replicate n 0) w3.heap.size r1 rc1 r2 rc2 W4 (HR1.out.ext hE4) (HR2.out.ext hE4) (by rw [HXN.out]; exact c0) (by rw [HZL.out]; exact c1) (by rw [HXN.out]; exact hn) (by rw [HXN.out]; omega) (by rw [HZL.out]; exact hn) (by rw [HZL.out]; omega)
          rw [HXN.out, HZL.out] at hcc
          have HCC := Lib.hid hcc
          clear hcc hE4 c0 c1 HL3 HX3 HW3 HR1 HR2
          go_wp2_with fail
          clear hW4
          refine HCC.out.mono ?_
          rintro e w5 ⟨gr, cr2, rfl, hR5, hg5, hc5, hd5, hE5⟩
          have HR5 := Lib.hid hR5
          have HW5 := Lib.hid (HW4.out.trans hE5)
          have HX5 := Lib.hid (HX4.out.trans hE5)
          have HL5 := Lib.hid (HL4.out.ext hE5)
          obtain ⟨X, hX⟩ : ∃ X, x ++ List.replicate n 0 = X := ⟨_, rfl⟩
          have HRL : Hid (X.length = n + n) := by unfold Hid; rw [← hX, List.length_append, HXN.out, HZL.out]
          rw [hX] at HR5 HNX0
          have HNX := Lib.hid HNX0
          have HB5 : Hid (w1.heap.size ≤ gr ∧ w1.heap.size ≤ w5.heap.size) := by have := HX4.out.size; have := HX5.out.size; exact ⟨by omega, by omega⟩
          have HV1 : Hid (u8.ownBlock ≠ some gr) := fun e => by have h1 := (HL4.out.own.lt gr e).2; omega
          have HN1 : Hid (gr ∉ tags.map (·.1)) := fun hm => by
            obtain ⟨t, ht, e⟩ := List.mem_map.1 hm
            obtain ⟨i, hi⟩ := List.getElem?_of_mem ht
            have hl : i < (intT n xss yss j).length := by rw [← HL4.out.len]; exact (List.getElem?_eq_some_iff.1 hi).1
            have := (HL4.out.row i t _ hi (List.getElem?_eq_getElem hl)).2.2.1.lt
            omega
          have HCD := Lib.hid (And.intro hc5 hd5)
          clear hR5 hg5 hc5 hd5 hE5 HCC HL4 HX4 HW4 hX HNX0
          go_wp2_with (at_builtin; go_must (refine wpList_append_long _ rfl _ _ rfl w1.heap.size w1.heap.size u8 tags (intT n xss yss j) (gr, 0, cr2) X #[.slice (some ⟨gr, 0, none⟩) (n + n) cr2] 114 rfl HL5.out rfl ?f0 ?f3 HCD.out.2 HR5.out HB5.out.1 HV1.out HN1.out ?f2 HB5.out.2 ?_))
          case f0 => rw [HRL.out]; rfl
          case f3 => rw [HRL.out]; exact HCD.out.1
          case f2 => rw [HJL.out]; have := HXL.out; have := HYL.out; omega
          intro v6 w6 hL6 hb6 hv6
          rw [← HNX.out] at hL6
          have HL6 := Lib.hid hL6
          have HX6 := Lib.hid (Below.trans HX5.out hb6)
          clear hL6 hb6 hv6
          go_wp2_with fail
          go_roundw
          case rel => exact ⟨j + 1, _, by omega, by go_num, HX6.out, HL6.out⟩
          case measure => simp [intOf]; omega
        · obtain rfl : j = yss.length := by omega
          have hL := HL.out
          rw [intT_all] at hL
          have HM : Hid (ResM wo w1.heap.size u8 (wideI n xss yss)) := hL.res (Nat.le_refl _)
          have HWO := Lib.hid (HE3.out.trans HE.out)
          have HP1 : Hid (0 < w1.heap.size) := Nat.lt_of_lt_of_le HPB.out HE3.out.size
          have HXW := Lib.hid HE.out
          clear hL HL
          go_wp2_with fail
          refine (HFO.out _ _ w1.heap.size HM.out HWO.out HP1.out HXW.out.size).mono ?_
          rintro e w2 ⟨v2, rfl, hM2, hb2⟩
          have HM2 := Lib.hid hM2
          have HX2 : Hid (Ext w1 w2) := Below.trans HXW.out hb2
          clear hM2 hb2 HM HFO
          go_wp2_with fail
          refine (HBH.out _ _ w1.heap.size HM2.out (HE3.out.trans HX2.out) HP1.out HX2.out.size).mono ?_
          rintro e w3 ⟨v3, rfl, hM3, hb3⟩
          have HM3 := Lib.hid hM3
          have HX3 : Hid (Ext w1 w3) := Below.trans HX2.out hb3
          clear hM3 hb3 HM2 HBH
          go_wp2_with fail
          refine (HS.out _ _ _ HM3.out (HE3.out.trans HX3.out)).mono ?_
          rintro e wz hsr
          obtain ⟨AA, EE, ar, kr, cr, rfl, hLF, hEz⟩ := hsr.open
          have HLF := Lib.hid hLF; have HXZ := Lib.hid (HX3.out.trans hEz)
          have hr := block_ext HBR.out HXZ.out
          obtain ⟨r0, r1, rf⟩ := lat_block hr
          have f0 := rf 0; have f1 := rf 1
          have HKA := Lib.hid (lat_store hr (.int .i64 AA) (.slice ar kr cr))
          clear rf hr hLF hEz HS
          go_wp2_with fail
          refine bodyPost_ret (results_rowtmp (by rfl) _ _ (w.heap.size + 1 + 1) 30 #[.int .i64 AA, .slice ar kr cr] (0, 0) _ (by rfl) HKA.out Tryz.underlying30 (by rfl) (by kernel_rfl)) (by rfl) ?_
          have HWW : Hid (w.heap.size + 1 + 1 < w3.heap.size) := Nat.lt_of_lt_of_le HSR.out HX3.out.size
          exact HLF.out.close (ext_lat (HE3.out.trans HXZ.out) (by omega) _ _) (Nat.le_trans (by omega) (Nat.le_of_lt HWW.out)) (fun S hS => GrownS.setCell (GrownS.setCell (GrownS.refl _ _) (hS _ HWW.out) 0 _) (hS _ HWW.out) 1 _)
end Go.Proofs.YtehknemdfbkimaaGreatDoor
/- Contracts of the references of chapters 05 and 09 and of law 09's small functions: Check, Lead, Equal, checkRows, check, equal, none, short. -/
namespace Go.Proofs.YtehknemdfbkimaaGreatDoor
set_option linter.unusedVariables false
set_option linter.unusedSimpArgs false
open Go.RowKit

set_option maxRecDepth 100000 in
set_option maxHeartbeats 2000000 in
theorem rEq9_any (xs ys : List (List Int)) (u v : Value) (w : World) (h : Rows2 w u xs) (k : Rows2 w v ys) :
    Calls Tryz.prog 23 #[u, v] w fun e w' => e = .returned (.bool (xs == ys)) ∧ Ext w w' := by
  have HXS := Lib.hid h; have HYS := Lib.hid k
  obtain ⟨a, c, rfl, h1, h2, -, hc⟩ := inCell.open h
  obtain ⟨a', c', rfl, k1, k2, -, kc⟩ := inCell.open k
  have HC := Lib.hid hc; have KC := Lib.hid kc
  unfold maxLen at h2 k2
  clear h k hc kc
  by_cases hl : xs.length = ys.length
  · have hn : ((xs.length : Int) != (ys.length : Int)) = false := by simp [hl]
    have hle1 : xs.length ≤ ys.length := by omega
    have HL := Lib.hid hl
    have hle2 : ys.length ≤ xs.length := by omega
    clear hl
    go_enter Tryz.func23, Tryz.ntmps23
    go_wp2_with fail
    go_loopw [5] (fun t wr => ∃ j : Nat, j ≤ xs.length ∧ t = .int .i64 j ∧ Ext w wr ∧ Hid (xs.take j = ys.take j)) (fun t _ => xs.length - (intOf t).toNat)
    case atStart => exact ⟨0, by omega, rfl, Ext.refl _, rfl⟩
    case round =>
      obtain ⟨j, hj, rfl, hE, HT⟩ := hrel
      obtain ⟨wo, rfl⟩ : ∃ wo : World, wo = wr := ⟨_, rfl⟩
      have HE := Lib.hid hE
      by_cases hlt : j < xs.length
      · obtain ⟨b, off, rfl, hb, hcell⟩ := HC.out (by intro e; simp [e] at hlt)
        obtain ⟨b', off', rfl, hb', hcell'⟩ := KC.out (by intro e; simp [e] at hle1; simp [hle1] at hlt)
        obtain ⟨x, hx⟩ : ∃ x, xs[j]? = some x := ⟨xs[j], List.getElem?_eq_getElem hlt⟩
        obtain ⟨y, hy⟩ : ∃ y, ys[j]? = some y := ⟨ys[j]'(by omega), List.getElem?_eq_getElem _⟩
        obtain ⟨vx, hvx, hcx⟩ := hcell j x hx
        obtain ⟨vy, hvy, hcy⟩ := hcell' j y hy
        have g1 := hE.cell hcx
        have g2 := hE.cell hcy
        have q1 : (j : Int) < (xs.length : Int) := by omega
        have q2 : (j : Int) < (ys.length : Int) := by omega
        have hvx2 := hvx.ext hE; have hvy2 := hvy.ext hE
        obtain ⟨ax, cx, rfl, x1, x2, -, -, xc⟩ := hvx2.open
        obtain ⟨ay, cy, rfl, y1, y2, -, -, yc⟩ := hvy2.open
        have XC := Lib.hid xc; have YC := Lib.hid yc
        unfold maxLen at x2 y2
        have HX := Lib.hid hx; have HY := Lib.hid hy
        have HNE : Hid (x ≠ y → (xs == ys) = false) := fun hne => by
          rw [beq_eq_false_iff_ne]
          intro e
          rw [e, hy] at hx
          exact hne (Option.some.inj hx).symm
        have HNX : Hid (x = y → xs.take (j + 1) = ys.take (j + 1)) := fun e => by
          rw [List.take_add_one, List.take_add_one, HT.out, hx, hy, e]
        clear hcell hcell' hcx hcy hvx hvy hvx2 hvy2 xc yc hx hy hE
        by_cases hll : x.length = y.length
        · have hn2 : ((x.length : Int) != (y.length : Int)) = false := by simp [hll]
          have hn3 : decide ((x.length : Int) ≠ (y.length : Int)) = false := by simp [hll]
          have hy3 : x.length ≤ y.length := by omega
          have HLL := Lib.hid hll
          clear hll
          go_wp2_with fail
          go_quiet (fail)
          go_wp2_with fail
          go_loopw [6] (fun t wr => ∃ i : Nat, i ≤ x.length ∧ t = .int .i64 i ∧ Ext wo wr ∧ Hid (x.take i = y.take i)) (fun t _ => x.length - (intOf t).toNat)
          case atStart => exact ⟨0, by omega, rfl, Ext.drewN _ _, rfl⟩
          case round =>
            obtain ⟨i, hi, rfl, hEi, HTi⟩ := hrel
            obtain ⟨wi, rfl⟩ : ∃ wi : World, wi = wr := ⟨_, rfl⟩
            have HEi := Lib.hid hEi
            have g3 := hEi.cell g1; have g4 := hEi.cell g2
            by_cases hil : i < x.length
            · obtain ⟨bx, ox, rfl, -, xcell⟩ := XC.out (by intro e; simp [e] at hil)
              obtain ⟨by', oy, rfl, -, ycell⟩ := YC.out (by intro e; have h0 : y.length = 0 := (by rw [e]; rfl); omega)
              obtain ⟨p, hp⟩ : ∃ p, x[i]? = some p := ⟨x[i], List.getElem?_eq_getElem hil⟩
              obtain ⟨q, hq⟩ : ∃ q, y[i]? = some q := ⟨y[i]'(by omega), List.getElem?_eq_getElem _⟩
              have g5 := hEi.cell (xcell i p hp); have g6 := hEi.cell (ycell i q hq)
              have q3 : (i : Int) < (x.length : Int) := by omega
              have q4 : (i : Int) < (y.length : Int) := by omega
              have HNE2 : Hid (p ≠ q → x ≠ y) := fun hne e => by
                rw [e, hq] at hp
                exact hne (Option.some.inj hp).symm
              have HNX2 : Hid (p = q → x.take (i + 1) = y.take (i + 1)) := fun e => by
                rw [List.take_add_one, List.take_add_one, HTi.out, hp, hq, e]
              clear xcell ycell hp hq hEi g1 g2
              by_cases hpq : p = q
              · have HT2 := Lib.hid (HNX2.out hpq)
                subst hpq
                clear HNE2 HNX2
                go_wp2_with fail
                go_quiet (fail)
                go_wp2_with fail
                go_roundw
                case rel => exact ⟨i + 1, by omega, by go_num, HEi.out.trans (Ext.drewN _ _), HT2.out⟩
                case measure => simp [intOf]; omega
              · have HF := Lib.hid (HNE.out (HNE2.out hpq))
                clear HNE2 HNX2 HNE HNX
                go_wp2_with fail
                go_quiet (fail)
                go_wp2_with fail
                go_ret
                rw [HF.out]
                exact ⟨rfl, HE.out.trans (HEi.out.trans (Ext.drewN _ _))⟩
            · obtain rfl : i = x.length := by omega
              have HT2 : Hid (xs.take (j + 1) = ys.take (j + 1)) := HNX.out (by
                have := HTi.out
                rw [List.take_length, HLL.out, List.take_length] at this
                exact this)
              clear hEi
              go_wp2_with fail
              go_roundw
              case rel => exact ⟨j + 1, by omega, by go_num, HE.out.trans HEi.out, HT2.out⟩
              case measure => simp [intOf]; omega
        · have hn2 : ((x.length : Int) != (y.length : Int)) = true := by simp; omega
          have HF := Lib.hid (HNE.out (fun e => hll (by rw [e])))
          clear HNE HNX hll
          go_wp2_with fail
          go_quiet (fail)
          go_wp2_with fail
          go_ret
          rw [HF.out]
          exact ⟨rfl, HE.out.trans (Ext.drewN _ _)⟩
      · obtain rfl : j = xs.length := by omega
        have HT2 : Hid ((xs == ys) = true) := by
          unfold Hid
          rw [beq_iff_eq]
          have := HT.out
          rw [List.take_length, HL.out, List.take_length] at this
          exact this
        clear hE
        go_wp2_with fail
        go_ret
        rw [HT2.out]
        exact ⟨rfl, HE.out⟩
  · have hn : ((xs.length : Int) != (ys.length : Int)) = true := by simp; omega
    have HF : Hid ((xs == ys) = false) := by
      unfold Hid
      rw [beq_eq_false_iff_ne]
      intro e
      exact hl (by rw [e])
    clear hl
    go_enter Tryz.func23, Tryz.ntmps23
    go_wp2
    go_ret
    rw [HF.out]
    exact ⟨rfl, Ext.refl _⟩
end Go.Proofs.YtehknemdfbkimaaGreatDoor
