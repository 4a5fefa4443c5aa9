/- Merged: BoxW, MatInL. -/
import Derived.Test.YtjihfabhgcfjnaaGreatDoorRAAD
import Derived.Test.YtjihfabhgcfjnaaGreatDoorRAAK
import Derived.Test.YtjihfabhgcfjnaaGreatDoorRAAL
import Derived.Test.YtjihfabhgcfjnaaGreatDoorQAZ
import Derived.Test.YtjihfabhgcfjnaaGreatDoorQAY
import Derived.Test.YtjihfabhgcfjnaaGreatDoorQAM
import Derived.Test.YtjihfabhgcfjnaaGreatDoorQAJ
import Derived.ChangeSlices
import Derived.Deep.Slices
/- The walk of LatticeBoxes. Printed by gen/box3.py. -/
namespace Go.Proofs.YtjihfabhgcfjnaaGreatDoor
set_option linter.unusedVariables false
set_option linter.unusedSimpArgs false
open Go.RowKit

set_option maxRecDepth 100000 in
set_option maxHeartbeats 2000000 in
theorem box_neg (n : Nat) (R : List (List Int)) (M : Int) (hM : M < 0) (u : Value) (w : World) (h : LatV w u n R) (hc : chkE n R = 0) :
    Calls Tryz.prog 10 #[u, .int .i64 M] w fun e w' => e = .returned (.tuple #[.slice none 0 0, .int .i64 3]) ∧ Ext w w' := by
  have HCK := Lib.hid (fun W (hW : Ext w W) => latChk_any (n : Int) R u W (h.ext hW))
  rw [hc] at HCK
  obtain ⟨v, rfl, hv⟩ := h
  obtain ⟨a, cb, rfl, h1, h2, -, -⟩ := inCell.open hv
  obtain ⟨W1, hW1, hX1, hsz, hb1⟩ := lat_new w (.int .i64 n) (.slice a R.length cb)
  obtain ⟨r0, r1, -⟩ := lat_block hb1
  have HX1 := Lib.hid hX1
  clear hv hX1 hsz hb1
  go_enter Tryz.func10, Tryz.ntmps10
  go_wp2_with fail
  refine (HCK.out _ HX1.out).mono ?_
  rintro e w2 ⟨rfl, hE2⟩
  have HX2 := Lib.hid (HX1.out.trans hE2)
  clear hE2 r0 r1 hW1
  go_wp2_with fail
  go_ret2
  exact ⟨rfl, HX2.out⟩
theorem coog_flag {rest ms : List Int} {w w' : World} {e : Ending} (h : CooG rest ms w e w') : ∃ v, e = .returned (.tuple #[v, .bool (decide (leadL rest < 0))]) ∧ Ext w w' := by
  obtain ⟨h1, h2⟩ := h
  by_cases hl : leadL rest < 0
  · rw [if_pos hl] at h1
    obtain ⟨v, rfl, -⟩ := h1
    exact ⟨v, by rw [decide_eq_true hl], h2⟩
  · rw [if_neg hl] at h1
    exact ⟨_, by rw [decide_eq_false hl]; exact h1, h2⟩
/-- The numbers that a block holds. -/
def heapInts (w : World) (g n : Nat) : List Int := (List.range n).map fun j => match w.cell? ⟨g, j, none⟩ with | some v => intOf v | none => 0
theorem heapInts_row {w : World} {g n : Nat} {r : List Int} (h : RowF w g r) (hr : r.length = n) : heapInts w g n = r := by
  unfold heapInts
  refine List.ext_getElem (by simp [hr]) fun j h1 h2 => ?_
  simp only [List.getElem_map, List.getElem_range]
  rw [h.cell j r[j] (List.getElem?_eq_getElem h2)]
  rfl
def restL (M : Int) (r : List Int) : List (List Int) := match nextL M r with | none => [] | some s => fromL M s
theorem from_restL {M : Int} (hM : 0 ≤ M) {r : List Int} (h : ∀ x ∈ r, x ≤ M) : fromL M r = r :: restL M r := from_next hM h
theorem drop_hit {X : List (List Int)} {k : Nat} {r : List Int} {Y : List (List Int)} (h : X.drop k = r :: Y) : k < X.length ∧ X[k]? = some r ∧ X.drop (k + 1) = Y := by
  refine ⟨?_, ?_, ?_⟩
  · have := congrArg List.length h
    simp at this
    omega
  · have := congrArg (·[0]?) h
    simpa using this
  · have := congrArg (List.drop 1) h
    rw [List.drop_drop] at this
    simpa using this
theorem row_split {r : List Int} {n i m : Nat} {y M : Int} (hr : r.length = n) (hi : i + m + 1 = n) (hy : r[i]? = some y) (hd : r.drop (n - m) = List.replicate m M) : r = r.take i ++ y :: List.replicate m M := by
  have hlt : i < r.length := by omega
  rw [List.getElem?_eq_getElem hlt] at hy
  conv => lhs; rw [← List.take_append_drop i r, List.drop_eq_getElem_cons hlt, Option.some.inj hy, show i + 1 = n - m by omega, hd]
theorem odo_get {r : List Int} {n i m : Nat} {y N : Int} (hr : r.length = n) (hi : i + m + 1 = n) (hy : r[i]? = some y) : (r.take (n - m) ++ List.replicate m N)[i]? = some y := by
  rw [List.getElem?_append_left (by rw [List.length_take]; omega), List.getElem?_take, if_pos (by omega)]; exact hy
theorem odo_set {r : List Int} {n i m : Nat} {N z : Int} (hr : r.length = n) (hi : i + m + 1 = n) : (r.take (n - m) ++ List.replicate m N).set i z = r.take i ++ z :: List.replicate m N := by
  rw [show n - m = i + 1 by omega, List.set_append_left _ _ (by rw [List.length_take]; omega), List.take_add_one]
  have hlt : i < r.length := by omega
  rw [List.getElem?_eq_getElem hlt, List.set_append_right _ _ (by rw [List.length_take]; omega), List.length_take, Nat.min_eq_left (by omega), Nat.sub_self]
  simp
theorem fill_set {n x : Nat} {m : Int} (hx : x < n) : (List.replicate x m ++ List.replicate (n - x) 0).set x m = List.replicate (x + 1) m ++ List.replicate (n - (x + 1)) 0 := by
  rw [List.set_append_right _ _ (by simp)]
  simp only [List.length_replicate, Nat.sub_self]
  rw [show n - x = (n - (x + 1)) + 1 by omega, List.replicate_succ, List.set_cons_zero, List.replicate_succ', List.append_assoc]
  rfl

set_option maxRecDepth 100000 in
set_option maxHeartbeats 8000000 in
theorem boxes_walk (c : Int) (hc0 : 0 ≤ c) (hc1 : c ≤ 255) (M : Int) (hM1 : -128 ≤ M) (hM2 : M ≤ 127) (xss : List (List Int)) (v : Value) (w : World) (h : Fours w v xss) (hlib : LibT w) (hb : 2 < w.heap.size) :
    Calls Tryz.prog 3 #[.agg #[.int .u8 c, v], .int .i8 M] w fun e w' => e = .returned (.bool true) ∧ Ext w w' := by
  obtain ⟨n, hn, hn1, hn2⟩ : ∃ n : Nat, 1 + c % 4 = (n : Int) ∧ 1 ≤ n ∧ n ≤ 4 := ⟨(1 + c % 4).toNat, by omega, by omega, by omega⟩
  obtain ⟨R, ps, P⟩ := planF_of hn1 hn2 h
  have HKN := Lib.hid (fun W (hW : Ext w W) => known9_any W (hlib.ext hW) (Nat.lt_of_lt_of_le hb hW.size))
  have HMK := Lib.hid (fun W (hW : Ext w W) => make9_as hc0 hc1 hn hn2 P v W (h.ext hW))
  have HNG := Lib.hid (fun (hM : M < 0) W u (hu : LatV W u n R) => box_neg n R M hM u W hu P.chk)
  have HBX := Lib.hid (fun (hM0 : 0 ≤ M) (hM8 : M ≤ 8) W u (hu : LatV W u n R) => box_any P hn1 hn2 M hM0 hM8 u W hu)
  have HP := Lib.hid P
  have hR4 : (R.length : Int) ≤ 4 := by have := P.four; omega
  obtain ⟨a, cp, rfl, hx1, hx2, -, -⟩ := ListAt.open h
  have HFT := Lib.hid (fun W (hW : Ext w W) => (fits9_any (.int .u8 c) (.int .u8 c) a a xss.length xss.length cp cp W))
  unfold maxLen at hx2
  obtain ⟨FT, hFT⟩ : ∃ b, (decide (xss.length ≤ 4) && decide (xss.length ≤ 4)) = b := ⟨_, rfl⟩
  rw [hFT] at HFT
  clear h hb hlib hFT P
  go_enter Tryz.func3, Tryz.ntmps3
  go_wp2_with fail
  obtain ⟨W0, hW0⟩ : ∃ W0, w.alloc (.cells #[.int .u8 c, .slice a xss.length cp] 24) = W0 := ⟨_, rfl⟩
  have HE0 : Hid (Ext w W0) := by rw [← hW0]; exact Ext.alloc _ _
  have HP0 : Hid (W0.heap[w.heap.size]? = some (.cells #[.int .u8 c, .slice a xss.length cp] 24 (0, 0))) := by rw [← hW0]; exact block_new _ _ _
  rw [hW0]
  clear hW0
  refine (HKN.out _ HE0.out).mono ?_
  rintro e w1 ⟨rfl, hE1⟩
  have HE1 := Lib.hid (HE0.out.trans hE1)
  have HP1 := Lib.hid (block_ext HP0.out hE1)
  have p0 := block_cell HP1.out 0; have p1 := block_cell HP1.out 1
  simp only [List.getElem?_toArray, List.getElem?_cons_zero, List.getElem?_cons_succ] at p0 p1
  clear hE1 HE0 HP0
  cases FT with
  | false =>
    go_wp2_with fail
    refine (HFT.out _ HE1.out).mono ?_
    rintro e w2 ⟨rfl, hE2⟩
    have HE2 := Lib.hid (HE1.out.trans hE2)
    clear hE2 HE1 HFT
    go_wp2_with fail
    refine (HKN.out _ HE2.out).mono ?_
    rintro e w3 ⟨rfl, hE3⟩
    have HE3 := Lib.hid (HE2.out.trans hE3)
    clear hE3 HKN
    go_wp2_with fail
    go_ret
    exact ⟨rfl, HE3.out⟩
  | true =>
  go_wp2_with fail
  refine (HFT.out _ HE1.out).mono ?_
  rintro e w2 ⟨rfl, hE2⟩
  have HE2 := Lib.hid (HE1.out.trans hE2)
  have HP2 := Lib.hid (block_ext HP1.out hE2)
  clear hE2 HE1 HP1 HFT p0 p1
  have p0 := block_cell HP2.out 0; have p1 := block_cell HP2.out 1
  simp only [List.getElem?_toArray, List.getElem?_cons_zero, List.getElem?_cons_succ] at p0 p1
  by_cases h8 : 8 < M
  · go_wp2_with fail
    refine (HKN.out _ HE2.out).mono ?_
    rintro e w3 ⟨rfl, hE3⟩
    have HE3 := Lib.hid (HE2.out.trans hE3)
    clear hE3 HKN
    go_wp2_with fail
    go_ret
    exact ⟨rfl, HE3.out⟩
  go_wp2_with fail
  refine (HMK.out _ HE2.out).mono ?_
  rintro e w3 ⟨a3, c3, rfl, hu, hE3⟩
  have HE3 := Lib.hid (HE2.out.trans hE3); have HU3 := Lib.hid hu.now
  clear hE3 hu HMK HKN HE2 HP2 p0 p1
  obtain ⟨V1, hV1, hX1, hs1, hb1⟩ := lat_new w3 (.int .i64 0) (.slice none 0 0)
  obtain ⟨r0, r1, rf⟩ := lat_block hb1
  have f0 := rf 0; have f1 := rf 1
  have HB1 := Lib.hid (lat_store hb1 (.int .i64 n) (.slice a3 R.length c3))
  have HXU := Lib.hid (ext_lat hX1 (Nat.le_refl _) (.int .i64 n) (.slice a3 R.length c3))
  clear hX1 hs1 hb1 rf
  obtain ⟨U1, hU1⟩ : ∃ U1, (V1.setCell ⟨w3.heap.size, 0, none⟩ (.int .i64 n)).setCell ⟨w3.heap.size, 1, none⟩ (.slice a3 R.length c3) = U1 := ⟨_, rfl⟩
  rw [hU1] at HB1 HXU
  obtain ⟨s0, s1, -⟩ := lat_block HB1.out
  have HEU := Lib.hid (HE3.out.trans HXU.out)
  have HRU := Lib.hid (HU3.out.ext HXU.out)
  clear HE3 HU3 HXU
  by_cases hM : M < 0
  · go_wp2_with fail
    clear hU1 hV1 r0 r1 f0 f1
    refine (HNG.out hM _ _ ⟨_, rfl, HRU.out⟩).mono ?_
    rintro e w4 ⟨rfl, hE4⟩
    have HE4 := Lib.hid (HEU.out.trans hE4)
    clear hE4 HNG HBX HEU
    go_wp2_with fail
    go_ret
    exact ⟨rfl, HE4.out⟩
  have hM0 : 0 ≤ M := by omega
  have hM8 : M ≤ 8 := by omega
  go_wp2_with fail
  clear hU1 hV1 r0 r1 f0 f1
  refine (HBX.out hM0 hM8 _ _ ⟨_, rfl, HRU.out⟩).mono ?_
  rintro e w4 ⟨vx, rfl, hvx, hE4⟩
  have HE4 := Lib.hid (HEU.out.trans hE4); have HB4 := Lib.hid (block_ext HB1.out hE4); have HR4 := Lib.hid (HRU.out.ext hE4)
  rw [box_rows HP.out hM0 hM8] at hvx
  obtain ⟨X, hX⟩ : ∃ X, (cubeL M n).filter (fun v => decide (leadL (repS R v R.length).1 < 0)) = X := ⟨_, rfl⟩
  rw [hX] at hvx
  have HX := Lib.hid hX
  have HVX := Lib.hid hvx
  obtain ⟨ax, cx, rfl, y1, y2, -, yc⟩ := inCell.open hvx
  have HXC := Lib.hid yc
  unfold maxLen at y2
  clear hE4 HNG HBX HEU HB1 HRU s0 s1 hvx hX yc
  obtain ⟨s0, s1, -⟩ := lat_block HB4.out
  have hMn : ¬ M < 0 := by omega
  obtain ⟨i0, hi, hz0, hz1, hz2⟩ := info_parts infoInt
  have HI := Lib.hid hi; have HZ0 := Lib.hid hz0; have HZ1 := Lib.hid hz1; have HZ2 := Lib.hid hz2
  clear hi hz0 hz1 hz2
  go_wp2_with fail
  go_loopw [9, 8] (fun t tq wr => ∃ (x : Nat) (q : Int), x ≤ R.length ∧ t = .int .i64 x ∧ tq = .int .i64 q ∧ w4 = wr ∧ Hid (1 ≤ q ∧ q ≤ ((17 ^ x : Nat) : Int))) (fun t _ _ => R.length - (intOf t).toNat)
  case atStart => exact ⟨0, 1, by omega, rfl, rfl, rfl, by unfold Hid; simp⟩
  case round =>
    obtain ⟨x, q, hx, rfl, rfl, rfl, HQ⟩ := hrel
    by_cases hlt : x < R.length
    · have hz := pow_step hM0 hM8 HQ.out.1 HQ.out.2
      have h17 : (17 ^ (x + 1) : Nat) ≤ 17 ^ 4 := Nat.pow_le_pow_right (by decide) (by omega)
      have e17 : (17 ^ 4 : Nat) = 83521 := by decide
      obtain ⟨z, hzz⟩ : ∃ z, q * (2 * M + 1) = z := ⟨_, rfl⟩
      rw [hzz] at hz
      have HZ := Lib.hid hz
      obtain ⟨z1, z2⟩ : 1 ≤ z ∧ z ≤ 83521 := by omega
      have z4 : -9223372036854775808 ≤ z := by omega
      have z5 : z ≤ 9223372036854775807 := by omega
      clear hz h17 e17
      go_wp2_with fail
      go_roundw
      case rel => exact ⟨x + 1, z, by omega, by go_num, by first | rfl | trivial, by first | trivial | rfl, HZ.out⟩
      case measure => simp [intOf]; omega
    · have hq : ¬ 100000 < q := by
        have h17 : (17 ^ x : Nat) ≤ 17 ^ 4 := Nat.pow_le_pow_right (by decide) (by omega)
        have e17 : (17 ^ 4 : Nat) = 83521 := by decide
        have := HQ.out.2
        omega
      go_wp2_with (at_make; refine wpList_make_full _ rfl _ _ 37 rfl w4.heap.size 3 i0 (.int .i64 0) 1 Tryz.underlying37 HI.out HZ0.out HZ1.out _ _ _ _ n rfl rfl rfl rfl ?c1 ?c2 ?c3 ?_)
      any_goals (first | (rw [HZ2.out]; omega) | (unfold maxLen; omega) | exact Nat.le_refl _)
      intro w5 hown hgrow
      rw [made_ints] at hown
      have HRF := Lib.hid (RowF.ofOwn hown); have HE5 := Lib.hid (ext_grown hgrow)
      clear hown hgrow s0 s1
      go_wp2_with fail
      go_loopw [12] (fun t wr => ∃ x : Nat, x ≤ n ∧ t = .int .i64 x ∧ Hid (Ext w4 wr) ∧ Hid (RowF wr w4.heap.size (List.replicate x (-M) ++ List.replicate (n - x) 0))) (fun t _ => n - (intOf t).toNat)
      case atStart => exact ⟨0, by omega, rfl, HE5.out, by simp; exact HRF.out⟩
      case round =>
        obtain ⟨x, hx, rfl, HEX, HRX⟩ := hrel
        obtain ⟨wo, rfl⟩ : ∃ wo : World, wo = wr := ⟨_, rfl⟩
        by_cases hltx : x < n
        · have g0 := HRX.out.cell x 0 (by rw [List.getElem?_append_right (by simp), List.length_replicate, Nat.sub_self, List.getElem?_replicate, if_pos (by omega)])
          have f0 := HRX.out.free x
          have HS := Lib.hid (HRX.out.set x (by simp; omega) (-M))
          rw [fill_set hltx] at HS
          have HE6 := Lib.hid (HEX.out.setCell (p := ⟨w4.heap.size, x, none⟩) (Nat.le_refl _) (.int .i64 (-M)))
          go_wp2_with fail
          go_roundw
          case rel => exact ⟨x + 1, by omega, by go_num, HE6.out, HS.out⟩
          case measure => simp [intOf]; omega
        · obtain rfl : n = x := by omega
          have hR0 := HRX.out
          rw [Nat.sub_self, List.replicate_zero, List.append_nil] at hR0
          have HR0 := Lib.hid hR0
          clear hR0 HRX
          go_wp2_with fail
          go_loopw [10] (fun tk wr => ∃ (k : Nat) (r : List Int), tk = .int .i64 k ∧ Hid (Ext w4 wr) ∧ Hid (RowF wr w4.heap.size r) ∧ Hid (r.length = n) ∧ Hid (∀ y ∈ r, -M ≤ y ∧ y ≤ M) ∧ Hid (k ≤ X.length ∧ X.drop k = (fromL M r).filter fun v => decide (leadL (repS R v R.length).1 < 0))) (fun _ wr => (fromL M (heapInts wr w4.heap.size n)).length)
          case atStart => exact ⟨0, List.replicate n (-M), rfl, HEX.out, HR0.out, by simp [Hid], fun y hy => by rw [(List.mem_replicate.1 hy).2]; omega, ⟨Nat.zero_le _, by rw [List.drop_zero, from_start hM0]; exact HX.out.symm⟩⟩
          case round =>
            obtain ⟨k, r, rfl, HEK, HRK, HLK, HBK, HKX⟩ := hrel
            obtain ⟨wy, rfl⟩ : ∃ wy : World, wy = wr := ⟨_, rfl⟩
            have HIR : Hid (Ints wy (.slice (some ⟨w4.heap.size, 0, none⟩) n n) r) := by
              have := HRK.out.ints (m := n) (by have := HLK.out; omega) (by unfold maxLen; omega) (fun y hy => by have := HBK.out y hy; omega)
              rw [HLK.out] at this; exact this
            have HCO := Lib.hid (coordinates9_any n 8 629856 R ps r _ _ wy HP.out.form (fun i hi => (HP.out.els _ (rowE_mem hi)).1) (HR4.out.ext HEK.out) HIR.out HLK.out hn1 (by omega) (by have := HP.out.four; omega) (fun y hy => by have := HBK.out y hy; omega) (by
              have h4 := HP.out.four
              have h1 := tB_mono (A := 8) h4
              have h3 : tB 8 4 = 135 := by decide
              have h2 : tB 8 R.length * (629856 + 1) ≤ 135 * (629856 + 1) := Nat.mul_le_mul_right _ (by omega)
              omega))
            obtain ⟨s0, s1, -⟩ := lat_block (block_ext HB4.out HEK.out)
            go_wp2_with fail
            refine HCO.out.mono ?_
            rintro e w6 he
            obtain ⟨vq, rfl, hE6⟩ := coog_flag he
            have HE6 := Lib.hid (HEK.out.trans hE6); have HR6 := Lib.hid (HRK.out.ext hE6)
            obtain ⟨pf, hpf⟩ : ∃ pf, decide (leadL (repS R r R.length).1 < 0) = pf := ⟨_, rfl⟩
            rw [hpf]
            have hnx := from_restL hM0 (r := r) (fun y hy => (HBK.out y hy).2)
            obtain ⟨NX, hNX⟩ : ∃ NX, restL M r = NX := ⟨_, rfl⟩
            rw [hNX] at hnx
            have hk := HKX.out.2
            rw [hnx, List.filter_cons, hpf] at hk
            have HNX := Lib.hid hNX; have HFN := Lib.hid hnx; have HEY := Lib.hid hE6
            have hkl := HKX.out.1
            clear HCO he hE6 hnx hNX hpf s0 s1 HKX HEK
            cases pf with
            | true =>
              rw [if_pos rfl] at hk
              obtain ⟨hk1, hk2, hk3⟩ := drop_hit hk
              have HK3 := Lib.hid hk3
              obtain ⟨bX, oX, rfl, hbX, hcX⟩ := HXC.out (by intro e; simp [e] at hk1)
              obtain ⟨vv, hvv, hcc⟩ := hcX k r hk2
              have gx := HE6.out.cell hcc
              have HEQ := Lib.hid (fun W (hW : Ext w6 W) => rowEqual_any r r vv _ W (hvv.ext (HE6.out.trans hW)) (HIR.out.ext (Ext.trans HEY.out hW)))
              rw [show (r == r) = true by simp] at HEQ
              have hki : (k : Int) < (X.length : Int) := by omega
              clear hk hk2 hk3 hcX hvv hcc
              go_wp2_with fail
              refine (HEQ.out _ (Ext.refl _)).mono ?_
              rintro e w7 ⟨rfl, hE7⟩
              have HE7 := Lib.hid (HE6.out.trans hE7); have HR7 := Lib.hid (HR6.out.ext hE7)
              clear hE7 HEQ gx
              go_wp2_with fail
              have e0 : (0 : Int) ≤ (n : Int) - 1 := by omega
              go_loopw [15] (fun t wr => ∃ m : Nat, m ≤ n ∧ t = .int .i64 ((n : Int) - 1 - (m : Int)) ∧ Hid (Ext w4 wr) ∧ Hid (RowF wr w4.heap.size (r.take (n - m) ++ List.replicate m (-M))) ∧ Hid (r.drop (n - m) = List.replicate m M)) (fun t _ => (intOf t + 1).toNat)
              case atStart => exact ⟨0, Nat.zero_le _, (by simp), HE7.out, by rw [Nat.sub_zero, List.take_of_length_le (by rw [HLK.out]; exact Nat.le_refl _)]; simp; exact HR7.out, by unfold Hid; rw [Nat.sub_zero, List.drop_eq_nil_iff.2 (by rw [HLK.out]; exact Nat.le_refl _)]; rfl⟩
              case round =>
                obtain ⟨m, hm, rfl, HEm, HRm, HDm⟩ := hrel
                obtain ⟨wz, rfl⟩ : ∃ wz : World, wz = wr := ⟨_, rfl⟩
                by_cases hlm : m < n
                · obtain ⟨i, hi⟩ : ∃ i : Nat, i + m + 1 = n := ⟨n - 1 - m, by omega⟩
                  have hii : (n : Int) - 1 - (m : Int) = (i : Int) := by omega
                  rw [hii]
                  obtain ⟨y, hy⟩ : ∃ y, r[i]? = some y := ⟨r[i]'(by have := HLK.out; omega), List.getElem?_eq_getElem _⟩
                  have g0 := HRm.out.cell i y (odo_get HLK.out hi hy)
                  have f0 := HRm.out.free i
                  obtain ⟨hyb1, hyb2⟩ := HBK.out y (List.mem_of_getElem? hy)
                  have hin : (i : Int) < (n : Int) := by omega
                  have HSET := Lib.hid (fun z => HRm.out.set i (by rw [List.length_append, List.length_take, List.length_replicate, HLK.out]; omega) z)
                  have HSPL := Lib.hid (row_split HLK.out hi hy HDm.out)
                  have HII := Lib.hid hi
                  have HXZ : Hid (∀ z, Ext w4 (wz.setCell ⟨w4.heap.size, i, none⟩ z)) := fun z => HEm.out.setCell (p := ⟨w4.heap.size, i, none⟩) (Nat.le_refl _) z
                  have HD2 : Hid (r.drop i = y :: List.replicate m M) := by
                    unfold Hid
                    conv => lhs; rw [HSPL.out]
                    rw [List.drop_left' (by rw [List.length_take, HLK.out]; omega)]
                  by_cases hyM : y = M
                  · subst hyM
                    clear hy hi
                    go_wp2_with fail
                    go_roundw
                    case rel => exact ⟨m + 1, by omega, (by simp; omega), HXZ.out _, by have := HSET.out (-y); rw [odo_set HLK.out HII.out] at this; rw [show n - (m + 1) = i by have := HII.out; omega, List.replicate_succ]; exact this, by have h := HD2.out; unfold Hid; rw [show n - (m + 1) = i by have := HII.out; omega, List.replicate_succ]; exact h⟩
                    case measure => first | (simp [intOf]; done) | (simp [intOf]; omega)
                  · have HNXT : Hid (NX = fromL M (r.take i ++ (y + 1) :: List.replicate m (-M))) := by
                      have h := next_at hyM m (r.take i)
                      rw [← HSPL.out] at h
                      unfold Hid; rw [← HNX.out]; unfold restL; rw [h]
                    have HNR : Hid (RowF (wz.setCell ⟨w4.heap.size, i, none⟩ (.int .i64 (y + 1))) w4.heap.size (r.take i ++ (y + 1) :: List.replicate m (-M))) := by
                      have := HSET.out (y + 1); rw [odo_set HLK.out HII.out] at this; exact this
                    have HNL : Hid ((r.take i ++ (y + 1) :: List.replicate m (-M)).length = n) := by
                      unfold Hid; rw [List.length_append, List.length_cons, List.length_take, List.length_replicate, HLK.out]; have := HII.out; omega
                    have HNB : Hid (∀ z ∈ r.take i ++ (y + 1) :: List.replicate m (-M), -M ≤ z ∧ z ≤ M) := fun z hz => by
                      rcases List.mem_append.1 hz with hz | hz
                      · exact HBK.out z (List.mem_of_mem_take hz)
                      · rcases List.mem_cons.1 hz with hz | hz
                        · omega
                        · rw [(List.mem_replicate.1 hz).2]; omega
                    clear hy hi
                    go_wp2_with fail
                    go_roundw
                    case rel => exact ⟨k + 1, _, by go_num, HXZ.out _, HNR.out, HNL.out, HNB.out, ⟨by omega, by have := HK3.out; rw [HNXT.out] at this; exact this⟩⟩
                    case measure =>
                      rw [heapInts_row HNR.out HNL.out, heapInts_row HRK.out HLK.out, HFN.out, HNXT.out]
                      simp
                · obtain rfl : n = m := by omega
                  have hfl : r = List.replicate n M := by have := HDm.out; rwa [Nat.sub_self, List.drop_zero] at this
                  have hnx0 : NX = [] := by rw [← HNX.out, hfl]; unfold restL; rw [next_full]
                  have hk9 := HK3.out
                  rw [hnx0, List.filter_nil, List.drop_eq_nil_iff] at hk9
                  have hkx : (k : Int) + 1 = (X.length : Int) := by omega
                  rw [show (n : Int) - 1 - (n : Int) = -1 by omega]
                  clear hfl hnx0 hk9
                  go_wp2_with fail
                  go_ret
                  exact ⟨rfl, HE4.out.trans HEm.out⟩
            | false =>
              rw [if_neg (by simp)] at hk
              have HK3 := Lib.hid hk
              clear hk
              go_wp2_with fail
              have e0 : (0 : Int) ≤ (n : Int) - 1 := by omega
              go_loopw [15] (fun t wr => ∃ m : Nat, m ≤ n ∧ t = .int .i64 ((n : Int) - 1 - (m : Int)) ∧ Hid (Ext w4 wr) ∧ Hid (RowF wr w4.heap.size (r.take (n - m) ++ List.replicate m (-M))) ∧ Hid (r.drop (n - m) = List.replicate m M)) (fun t _ => (intOf t + 1).toNat)
              case atStart => exact ⟨0, Nat.zero_le _, (by simp), HE6.out, by rw [Nat.sub_zero, List.take_of_length_le (by rw [HLK.out]; exact Nat.le_refl _)]; simp; exact HR6.out, by unfold Hid; rw [Nat.sub_zero, List.drop_eq_nil_iff.2 (by rw [HLK.out]; exact Nat.le_refl _)]; rfl⟩
              case round =>
                obtain ⟨m, hm, rfl, HEm, HRm, HDm⟩ := hrel
                obtain ⟨wz, rfl⟩ : ∃ wz : World, wz = wr := ⟨_, rfl⟩
                by_cases hlm : m < n
                · obtain ⟨i, hi⟩ : ∃ i : Nat, i + m + 1 = n := ⟨n - 1 - m, by omega⟩
                  have hii : (n : Int) - 1 - (m : Int) = (i : Int) := by omega
                  rw [hii]
                  obtain ⟨y, hy⟩ : ∃ y, r[i]? = some y := ⟨r[i]'(by have := HLK.out; omega), List.getElem?_eq_getElem _⟩
                  have g0 := HRm.out.cell i y (odo_get HLK.out hi hy)
                  have f0 := HRm.out.free i
                  obtain ⟨hyb1, hyb2⟩ := HBK.out y (List.mem_of_getElem? hy)
                  have hin : (i : Int) < (n : Int) := by omega
                  have HSET := Lib.hid (fun z => HRm.out.set i (by rw [List.length_append, List.length_take, List.length_replicate, HLK.out]; omega) z)
                  have HSPL := Lib.hid (row_split HLK.out hi hy HDm.out)
                  have HII := Lib.hid hi
                  have HXZ : Hid (∀ z, Ext w4 (wz.setCell ⟨w4.heap.size, i, none⟩ z)) := fun z => HEm.out.setCell (p := ⟨w4.heap.size, i, none⟩) (Nat.le_refl _) z
                  have HD2 : Hid (r.drop i = y :: List.replicate m M) := by
                    unfold Hid
                    conv => lhs; rw [HSPL.out]
                    rw [List.drop_left' (by rw [List.length_take, HLK.out]; omega)]
                  by_cases hyM : y = M
                  · subst hyM
                    clear hy hi
                    go_wp2_with fail
                    go_roundw
                    case rel => exact ⟨m + 1, by omega, (by simp; omega), HXZ.out _, by have := HSET.out (-y); rw [odo_set HLK.out HII.out] at this; rw [show n - (m + 1) = i by have := HII.out; omega, List.replicate_succ]; exact this, by have h := HD2.out; unfold Hid; rw [show n - (m + 1) = i by have := HII.out; omega, List.replicate_succ]; exact h⟩
                    case measure => first | (simp [intOf]; done) | (simp [intOf]; omega)
                  · have HNXT : Hid (NX = fromL M (r.take i ++ (y + 1) :: List.replicate m (-M))) := by
                      have h := next_at hyM m (r.take i)
                      rw [← HSPL.out] at h
                      unfold Hid; rw [← HNX.out]; unfold restL; rw [h]
                    have HNR : Hid (RowF (wz.setCell ⟨w4.heap.size, i, none⟩ (.int .i64 (y + 1))) w4.heap.size (r.take i ++ (y + 1) :: List.replicate m (-M))) := by
                      have := HSET.out (y + 1); rw [odo_set HLK.out HII.out] at this; exact this
                    have HNL : Hid ((r.take i ++ (y + 1) :: List.replicate m (-M)).length = n) := by
                      unfold Hid; rw [List.length_append, List.length_cons, List.length_take, List.length_replicate, HLK.out]; have := HII.out; omega
                    have HNB : Hid (∀ z ∈ r.take i ++ (y + 1) :: List.replicate m (-M), -M ≤ z ∧ z ≤ M) := fun z hz => by
                      rcases List.mem_append.1 hz with hz | hz
                      · exact HBK.out z (List.mem_of_mem_take hz)
                      · rcases List.mem_cons.1 hz with hz | hz
                        · omega
                        · rw [(List.mem_replicate.1 hz).2]; omega
                    clear hy hi
                    go_wp2_with fail
                    go_roundw
                    case rel => exact ⟨k, _, by go_num, HXZ.out _, HNR.out, HNL.out, HNB.out, ⟨by omega, by have := HK3.out; rw [HNXT.out] at this; exact this⟩⟩
                    case measure =>
                      rw [heapInts_row HNR.out HNL.out, heapInts_row HRK.out HLK.out, HFN.out, HNXT.out]
                      simp
                · obtain rfl : n = m := by omega
                  have hfl : r = List.replicate n M := by have := HDm.out; rwa [Nat.sub_self, List.drop_zero] at this
                  have hnx0 : NX = [] := by rw [← HNX.out, hfl]; unfold restL; rw [next_full]
                  have hk9 := HK3.out
                  rw [hnx0, List.filter_nil, List.drop_eq_nil_iff] at hk9
                  have hkx : (k : Int) = (X.length : Int) := by omega
                  rw [show (n : Int) - 1 - (n : Int) = -1 by omega]
                  clear hfl hnx0 hk9
                  go_wp2_with fail
                  go_ret
                  exact ⟨rfl, HE4.out.trans HEm.out⟩
end Go.Proofs.YtjihfabhgcfjnaaGreatDoor
/- A matrix that came in (cuts that hold package row). -/
namespace Go.Proofs.YtjihfabhgcfjnaaGreatDoor
set_option linter.unusedVariables false
set_option linter.unusedSimpArgs false
open Go.ChangeShapes Go.WideShapes Go.ChangeAt Go.RowKit

end Go.Proofs.YtjihfabhgcfjnaaGreatDoor
