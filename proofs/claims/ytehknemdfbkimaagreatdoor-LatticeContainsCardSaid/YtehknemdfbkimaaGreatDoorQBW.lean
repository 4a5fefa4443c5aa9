/- Merged: ContW, LawPost. -/
import Derived.Test.YtehknemdfbkimaaGreatDoorQBT
import Derived.Test.YtehknemdfbkimaaGreatDoorQBU
import Derived.Test.YtehknemdfbkimaaGreatDoorQBV
import Derived.Test.YtehknemdfbkimaaGreatDoorQBK
import Derived.Test.YtehknemdfbkimaaGreatDoorQBJ
import Derived.Test.YtehknemdfbkimaaGreatDoorRows
import Derived.WalkKit
import Derived.ProofKit
import Derived.OpenShut
/- The walk of LatticeContains. -/
namespace Go.Proofs.YtehknemdfbkimaaGreatDoor
set_option linter.unusedVariables false
set_option linter.unusedSimpArgs false
open Go.RowKit

theorem RepR.open {R : List Int} {w w' : World} {e : Ending} (h : RepR R w e w') : ∃ a l c E, e = .returned (.tuple #[.slice a l c, .int .i64 E]) ∧ (R.all fit9B = true → E = 0 ∧ Ints w' (.slice a l c) R) ∧ Ext w w' := by
  obtain ⟨h1, h2⟩ := h
  by_cases hf : R.all fit9B = true
  · rw [if_pos hf] at h1
    obtain ⟨v, rfl, hv⟩ := h1
    have hv2 := hv
    obtain ⟨a, c, rfl, -⟩ := hv2.open
    exact ⟨a, _, c, 0, rfl, fun _ => ⟨rfl, hv⟩, h2⟩
  · rw [if_neg hf] at h1
    exact ⟨none, 0, 0, 4, h1, fun h => absurd h hf, h2⟩
theorem CooR.open {R M : List Int} {w w' : World} {e : Ending} (h : CooR R M w e w') : ∃ a l c E, e = .returned (.tuple #[.slice a l c, .int .i64 E]) ∧ (leadL R < 0 → M.all fit9B = true → E = 0 ∧ Ints w' (.slice a l c) M) ∧ (¬ leadL R < 0 → l = 0 ∧ E = 19) ∧ Ext w w' := by
  obtain ⟨h1, h2⟩ := h
  by_cases hl : leadL R < 0
  · rw [if_pos hl] at h1
    by_cases hf : M.all fit9B = true
    · rw [if_pos hf] at h1
      obtain ⟨v, rfl, hv⟩ := h1
      have hv2 := hv
      obtain ⟨a, c, rfl, -⟩ := hv2.open
      exact ⟨a, _, c, 0, rfl, fun _ _ => ⟨rfl, hv⟩, fun h => absurd hl h, h2⟩
    · rw [if_neg hf] at h1
      exact ⟨none, 0, 0, 4, h1, fun _ h => absurd h hf, fun h => absurd hl h, h2⟩
  · rw [if_neg hl] at h1
    exact ⟨none, 0, 0, 19, h1, fun h => absurd h hl, fun _ => ⟨rfl, rfl⟩, h2⟩
theorem CooG.open {R M : List Int} {w w' : World} {e : Ending} (h : CooG R M w e w') : ∃ a l c, e = .returned (.tuple #[.slice a l c, .bool (decide (leadL R < 0))]) ∧ (leadL R < 0 → Ints w' (.slice a l c) M) ∧ Ext w w' := by
  obtain ⟨h1, h2⟩ := h
  by_cases hl : leadL R < 0
  · rw [if_pos hl] at h1
    obtain ⟨v, rfl, hv⟩ := h1
    have hv2 := hv
    obtain ⟨a, c, rfl, -⟩ := hv2.open
    exact ⟨a, _, c, by rw [decide_eq_true hl], fun _ => hv, h2⟩
  · rw [if_neg hl] at h1
    exact ⟨none, 0, 0, by rw [decide_eq_false hl]; exact h1, fun h => absurd h hl, h2⟩

/-- What the walk asks of the plan's lattice and a right row. -/
theorem cont_red {n : Nat} {m R : List (List Int)} {ps : Nat → Nat} (h : PlanF n m R ps) {x : List Int} (hx : x.length = n) (hb : RowLe 1000000000 x) :
    ∃ s ms, redO R x R.length = some (s, ms) ∧ s.all smB = true ∧ ms.all smB = true ∧ (s, ms) = repS R x R.length ∧ s.length = n ∧ Sp n (RowsFrom 0 R) (lessL 1 x s) ∧ RedP R ps R.length s := by
  obtain ⟨s, ms, e1, e2, e3, e4, e5⟩ := plan_red h.form h.four h.els hx hb
  have hrs := redO_repS e1
  refine ⟨s, ms, e1, e3, ?_, hrs, e2, e4, e5⟩
  have hr := rep_bound (A := 1000000000) (M := 629856) h.form (fun i hi => (h.els _ (rowE_mem hi)).1) hx hb R.length (Nat.le_refl _)
  rw [← hrs] at hr
  rw [List.all_eq_true]
  intro y hy
  have h1 := hr.2.2.2.2.1 y hy
  have h2 := tB_mono (A := 1000000000) h.four
  have h3 : tB 1000000000 4 = 15000000015 := by decide
  exact smB_of (K := 11) (by decide) (by decide) (by
    have : (10 : Nat) ^ 11 = 100000000000 := by decide
    omega)
theorem cont_small {n : Nat} {m R : List (List Int)} {ps : Nat → Nat} (h : PlanF n m R ps) (hn : n ≤ 4) {x s ms : List Int} (hx : x.length = n) (hb : RowLe 10000 x) (hrs : (s, ms) = repS R x R.length) (hs : s.length = n) (h4 : Sp n (RowsFrom 0 R) (lessL 1 x s)) (h5 : RedP R ps R.length s) :
    s.all fit9B = true ∧ ms.all fit9B = true := by
  have hsb := plan_bound4 h.form hn h.four (fun x hx => (h.els x hx).1) h.rows h.nine h.span hx hb hs h4 h5
  constructor
  · rw [List.all_eq_true]; intro y hy
    have := hsb y hy
    unfold fit9B; simp; omega
  · have hr := rep_bound (A := 10000) (M := 629856) h.form (fun i hi => (h.els _ (rowE_mem hi)).1) hx hb R.length (Nat.le_refl _)
    rw [← hrs] at hr
    rw [List.all_eq_true]; intro y hy
    have h1 := hr.2.2.2.2.1 y hy
    have h2 := tB_mono (A := 10000) h.four
    have h3 : tB 10000 4 = 150015 := by decide
    unfold fit9B; simp; omega
theorem cont_sizes {R : List (List Int)} (h4 : R.length ≤ 4) : 10000 + tB 10000 R.length * (629856 + 1) ≤ 4000000000000000000 := by
  have hc : R.length = 0 ∨ R.length = 1 ∨ R.length = 2 ∨ R.length = 3 ∨ R.length = 4 := by omega
  rcases hc with h | h | h | h | h <;> rw [h] <;> decide

set_option maxRecDepth 100000 in
set_option maxHeartbeats 40000000 in
theorem contains_walk (c : Int) (hc0 : 0 ≤ c) (hc1 : c ≤ 255) (xss : List (List Int)) (v : Value) (x : List Int) (vx : Value) (w : World) (h : Fours w v xss) (hx : Ints w vx x) (hlib : LibT w) (hb : 0 < w.heap.size) :
    Calls Tryz.prog 4 #[.agg #[.int .u8 c, v], vx] w fun e w' => e = .returned (.bool true) ∧ Ext w w' := by
  obtain ⟨n, hn, hn1, hn2⟩ : ∃ n : Nat, 1 + c % 4 = (n : Int) ∧ 1 ≤ n ∧ n ≤ 4 := ⟨(1 + c % 4).toNat, by omega, by omega, by omega⟩
  have HKN := Lib.hid (fun W (hW : Ext w W) => known9_any W (hlib.ext hW) (Nat.lt_of_lt_of_le hb hW.size))
  have HMK := Lib.hid (fun W (hW : Ext w W) => make9_any c hc0 hc1 n hn hn2 xss v W (h.ext hW))
  have HRC := Lib.hid (fun W (hW : Ext w W) => refCheck_any x vx W (hx.ext hW))
  have HX := Lib.hid hx
  obtain ⟨a, cp, rfl, hx1, hx2, -, -⟩ := ListAt.open h
  have HFT := Lib.hid (fun W (hW : Ext w W) => (fits9_any (.int .u8 c) (.int .u8 c) a a xss.length xss.length cp cp W))
  unfold maxLen at hx2
  obtain ⟨FT, hFT⟩ : ∃ b, (decide (xss.length ≤ 4) && decide (xss.length ≤ 4)) = b := ⟨_, rfl⟩
  rw [hFT] at HFT
  have HLIB : Hid (∀ W, Ext w W → LibT W ∧ 0 < W.heap.size) := fun W hW => ⟨hlib.ext hW, Nat.lt_of_lt_of_le hb hW.size⟩
  obtain ⟨ax, cx, rfl, x1, x2, -, -, xc⟩ := hx.open
  have HXC := Lib.hid xc
  unfold maxLen at x2
  clear h hb hlib hx xc hFT
  go_enter Tryz.func4, Tryz.ntmps4
  go_wp2_with fail
  obtain ⟨W0, hW0⟩ : ∃ W0, w.alloc (.cells #[.int .u8 c, .slice a xss.length cp] 24) = W0 := ⟨_, rfl⟩
  have HE0 : Hid (Ext w W0) := by rw [← hW0]; exact Ext.alloc _ _
  have HP0 : Hid (W0.heap[w.heap.size]? = some (.cells #[.int .u8 c, .slice a xss.length cp] 24 (0, 0))) := by rw [← hW0]; exact block_new _ _ _
  rw [hW0]
  clear hW0
  refine (HKN.out _ HE0.out).mono ?_
  rintro e w1 ⟨rfl, hE1⟩
  have HE1 := Lib.hid (HE0.out.trans hE1)
  have HP1 := Lib.hid (block_ext HP0.out hE1)
  have p0 := block_cell HP1.out 0; have p1 := block_cell HP1.out 1
  simp only [List.getElem?_toArray, List.getElem?_cons_zero, List.getElem?_cons_succ] at p0 p1
  clear hE1 HE0 HP0
  cases FT with
  | false =>
    go_wp2_with fail
    refine (HFT.out _ HE1.out).mono ?_
    rintro e w2 ⟨rfl, hE2⟩
    have HE2 := Lib.hid (HE1.out.trans hE2)
    clear hE2 HE1 HFT
    go_wp2_with fail
    refine (HKN.out _ HE2.out).mono ?_
    rintro e w3 ⟨rfl, hE3⟩
    have HE3 := Lib.hid (HE2.out.trans hE3)
    clear hE3 HKN
    go_wp2_with fail
    go_ret
    exact ⟨rfl, HE3.out⟩
  | true =>
  go_wp2_with fail
  refine (HFT.out _ HE1.out).mono ?_
  rintro e w2 ⟨rfl, hE2⟩
  have HE2 := Lib.hid (HE1.out.trans hE2)
  have HP2 := Lib.hid (block_ext HP1.out hE2)
  clear hE2 HE1 HP1 HFT p0 p1
  have p0 := block_cell HP2.out 0; have p1 := block_cell HP2.out 1
  simp only [List.getElem?_toArray, List.getElem?_cons_zero, List.getElem?_cons_succ] at p0 p1
  by_cases hl14 : 14 < x.length
  · have h14 : (14 : Int) < (x.length : Int) := by omega
    go_wp2_with fail
    refine (HKN.out _ HE2.out).mono ?_
    rintro e w3 ⟨rfl, hE3⟩
    have HE3 := Lib.hid (HE2.out.trans hE3)
    clear hE3 HKN
    go_wp2_with fail
    go_ret
    exact ⟨rfl, HE3.out⟩
  have h14 : ¬ (14 : Int) < (x.length : Int) := by omega
  go_wp2_with fail
  refine (HMK.out _ HE2.out).mono ?_
  rintro e w3 ⟨u, R, ps, rfl, hpf, hu, hE3⟩
  --<REST
  obtain ⟨a3, c3, rfl, -⟩ := ListAt.open hu.now
  have HE3 := Lib.hid (HE2.out.trans hE3); have HU3 := Lib.hid hu.now; have HPF := Lib.hid hpf
  clear hE3 hu hpf HMK HKN HE2 HP2 p0 p1
  obtain ⟨V1, hV1, hX1, hs1, hb1⟩ := lat_new w3 (.int .i64 0) (.slice none 0 0)
  obtain ⟨r0, r1, rf⟩ := lat_block hb1
  have f0 := rf 0; have f1 := rf 1
  have HB1 := Lib.hid (lat_store hb1 (.int .i64 n) (.slice a3 R.length c3))
  have HXU := Lib.hid (ext_lat hX1 (Nat.le_refl _) (.int .i64 n) (.slice a3 R.length c3))
  clear hX1 hs1 hb1 rf
  obtain ⟨U1, hU1⟩ : ∃ U1, (V1.setCell ⟨w3.heap.size, 0, none⟩ (.int .i64 n)).setCell ⟨w3.heap.size, 1, none⟩ (.slice a3 R.length c3) = U1 := ⟨_, rfl⟩
  rw [hU1] at HB1 HXU
  obtain ⟨s0, s1, -⟩ := lat_block HB1.out
  have HEU := Lib.hid (HE3.out.trans HXU.out)
  have HRU := Lib.hid (HU3.out.ext HXU.out)
  clear HE3 HU3 HXU
  by_cases hE : rowLE n R x = 0
  · have hrl := rowLE_zero hE
    obtain ⟨h1, h2, h3⟩ := hrl
    have hxl : x.length = n := by omega
    have hxb : RowLe 1000000000 x := fun y hy => by have := ((rowE_zero x).1 h2).2 y hy; omega
    obtain ⟨s, ms, q1, q2, q3, q4, q5, q6, q7⟩ := cont_red HPF.out hxl hxb
    have HSM := Lib.hid (fun hb => cont_small HPF.out hn2 hxl hb q4 q5 q6 q7)
    have HCON := Lib.hid (fun W (hW : Ext w W) u (hu : LatV W u n R) => contains_any n R x s ms u _ W hu (HX.out.ext hW) hE q1 (HLIB.out W hW).1.pow (HLIB.out W hW).2)
    have HCOO := Lib.hid (fun W (hW : Ext w W) u (hu : LatV W u n R) => coords_any n R x s ms u _ W hu (HX.out.ext hW) hE q1 q3 (HLIB.out W hW).1 (HLIB.out W hW).2)
    have HREP := Lib.hid (fun W (hW : Ext w W) u (hu : LatV W u n R) => repr_any n R x s ms u _ W hu (HX.out.ext hW) hE q1 q2 (HLIB.out W hW).1 (HLIB.out W hW).2)
    have HRC9 := Lib.hid (fun W u (hu : Rows2 W u R) (hb : RowLe 10000 x) (hW : Ext w W) => coordinates9_any n 10000 629856 R ps x u _ W HPF.out.form (fun i hi => (HPF.out.els _ (rowE_mem hi)).1) hu (HX.out.ext hW) hxl hn1 (by omega) (by have := HPF.out.four; omega) hb (cont_sizes HPF.out.four))
    have HRR9 := Lib.hid (fun W u (hu : Rows2 W u R) (hb : RowLe 10000 x) (hW : Ext w W) => represent9_any n 10000 629856 R ps x u _ W HPF.out.form (fun i hi => (HPF.out.els _ (rowE_mem hi)).1) hu (HX.out.ext hW) hxl hn1 (by omega) (by have := HPF.out.four; omega) hb (cont_sizes HPF.out.four))
    rw [← q4] at HRC9 HRR9
    rw [h2] at HRC
    have HQ5 := Lib.hid q5
    have hne : ((x.length : Int) != (n : Int)) = false := by simp; omega
    have hne2 : ((x.length : Int) == (n : Int)) = true := by simp; omega
    clear hE h1 h2 h3 hxb q1 q2 q3 q4 q5 q6 q7
    have HXL := Lib.hid hxl
    clear hxl
    go_wp2_with fail
    clear hU1 hV1 r0 r1 f0 f1
    refine (HCON.out _ HEU.out _ ⟨_, rfl, HRU.out⟩).mono ?_
    rintro e w4 ⟨rfl, hE4⟩
    have HE4 := Lib.hid (HEU.out.trans hE4); have HB4 := Lib.hid (block_ext HB1.out hE4); have HR4 := Lib.hid (HRU.out.ext hE4)
    clear hE4 HCON HEU HB1 HRU s0 s1
    obtain ⟨s0, s1, -⟩ := lat_block HB4.out
    go_wp2_with fail
    refine (HCOO.out _ HE4.out _ ⟨_, rfl, HR4.out⟩).mono ?_
    rintro e w5 he
    obtain ⟨a5, l5, c5, E5, rfl, k5, j5, hE5⟩ := he.open
    have HK5 := Lib.hid k5; have HJ5 := Lib.hid j5
    clear k5 j5 he
    have HE5 := Lib.hid (HE4.out.trans hE5); have HB5 := Lib.hid (block_ext HB4.out hE5); have HR5 := Lib.hid (HR4.out.ext hE5)
    clear hE5 HCOO HE4 HB4 HR4 s0 s1
    obtain ⟨s0, s1, -⟩ := lat_block HB5.out
    go_wp2_with fail
    refine (HREP.out _ HE5.out _ ⟨_, rfl, HR5.out⟩).mono ?_
    rintro e w6 he
    obtain ⟨a6, l6, c6, E6, rfl, k6, hE6⟩ := he.open
    have HK6 := Lib.hid k6; have HI5 := Lib.hid (fun h1 h2 => ((HK5.out h1 h2).2).ext hE6)
    clear k6 he
    have HE6 := Lib.hid (HE5.out.trans hE6); have HB6 := Lib.hid (block_ext HB5.out hE6); have HR6 := Lib.hid (HR5.out.ext hE6)
    clear hE6 HREP HE5 HB5 HR5 s0 s1
    obtain ⟨s0, s1, -⟩ := lat_block HB6.out
    go_wp2_with fail
    refine (HRC.out _ HE6.out).mono ?_
    rintro e w7 ⟨rfl, rfl⟩
    clear HRC
    go_wp2_with fail
    go_loopw [13] (fun t wr => ∃ j : Nat, j ≤ x.length ∧ t = .int .i64 j ∧ w6 = wr ∧ Hid (∀ i y, i < j → x[i]? = some y → y.natAbs ≤ 10000)) (fun t _ => x.length - (intOf t).toNat)
    case atStart => exact ⟨0, by omega, rfl, rfl, fun i y hi => by omega⟩
    case round =>
      obtain ⟨j, hj, rfl, rfl, HA⟩ := hrel
      by_cases hlt : j < x.length
      · obtain ⟨bx, ox, rfl, hbx, hcell⟩ := HXC.out (by intro e; simp [e] at hlt)
        obtain ⟨y, hy⟩ : ∃ y, x[j]? = some y := ⟨x[j], List.getElem?_eq_getElem hlt⟩
        have g1 := HE6.out.cell (hcell j y hy)
        by_cases hy1 : 10000 < y
        · clear hy hcell
          go_wp2_with fail
          go_ret
          exact ⟨rfl, HE6.out⟩
        · by_cases hy2 : y < -10000
          · clear hy hcell
            go_wp2_with fail
            go_ret
            exact ⟨rfl, HE6.out⟩
          · have HA2 : Hid (∀ i z, i < j + 1 → x[i]? = some z → z.natAbs ≤ 10000) := fun i z hi hz => by
              by_cases hij : i = j
              · rw [hij, hy] at hz; cases hz; omega
              · exact HA.out i z (by omega) hz
            clear hy hcell
            go_wp2_with fail
            go_roundw
            case rel => exact ⟨j + 1, by omega, by go_num, by first | rfl | trivial, HA2.out⟩
            case measure => simp [intOf]; omega
      · have hxb : RowLe 10000 x := fun y hy => by
          obtain ⟨i, hi⟩ := List.getElem?_of_mem hy
          exact HA.out i y (by have := (List.getElem?_eq_some_iff.1 hi).1; omega) hi
        obtain ⟨f1, f2⟩ := HSM.out hxb
        obtain ⟨rfl, hi6⟩ := HK6.out f1
        have HI6 := Lib.hid hi6
        have HC9 := Lib.hid (HRC9.out w6 _ HR6.out hxb HE6.out)
        have HR9 := Lib.hid (fun W u (hu : Rows2 W u R) (hW : Ext w W) => HRR9.out W u hu hxb hW)
        clear HRC9 HRR9 HSM HA HK6 hi6 hxb
        go_wp2_with fail
        refine HC9.out.mono ?_
        rintro e w8 he
        obtain ⟨a8, l8, c8, rfl, k8, hE8⟩ := he.open
        have HK8 := Lib.hid k8
        have HE8 := Lib.hid (HE6.out.trans hE8); have HB8 := Lib.hid (block_ext HB6.out hE8); have HR8 := Lib.hid (HR6.out.ext hE8); have HI8 := Lib.hid (HI6.out.ext hE8)
        have HI58 := Lib.hid (fun h1 h2 => (HI5.out h1 h2).ext hE8)
        clear hE8 k8 he HC9 HE6 HB6 HR6 HI6 s0 s1
        obtain ⟨s0, s1, -⟩ := lat_block HB8.out
        have HCALL : Hid (Calls Tryz.prog 31 #[.slice a3 R.length c3, .slice ax x.length cx] w8 fun e w' => ∃ g c, e = .returned (.slice (some ⟨g, 0, none⟩) n c) ∧ Ints w' (.slice (some ⟨g, 0, none⟩) n c) s ∧ Ext w8 w') :=
          (HR9.out w8 _ HR8.out HE8.out).mono fun e w' ⟨g, c, h1, h2, h3, h4⟩ => ⟨g, c, h1, by
            have hb : ∀ y ∈ s, -9223372036854775808 ≤ y ∧ y ≤ 9223372036854775807 := by
              obtain ⟨_, _, _, _, _, _, hb, _⟩ := HI8.out.open; exact hb
            have := RowG.ints (c := c) h2 (by rw [HQ5.out]; exact h3.1) h3.2 hb
            rw [HQ5.out] at this; exact this, h4⟩
        clear HR9
        by_cases hl : leadL s < 0
        · obtain ⟨rfl, -⟩ := HK5.out hl f2
          have HI5' := Lib.hid (HI58.out hl f2); have HI8' := Lib.hid (HK8.out hl)
          have hd := decide_eq_true hl
          rw [hd]
          clear HK5 HJ5 HK8 HI5 HI58 hl hd
          go_wp2_with fail
          refine HCALL.out.mono ?_
          rintro e w9 ⟨g9, c9, rfl, hi9, hE9⟩
          have HRE := Lib.hid (rowEqual_any s s _ _ w9 (HI8.out.ext hE9) hi9)
          have HSS : Hid ((s == s) = true) := by unfold Hid; simp
          rw [HSS.out] at HRE
          have HE9 := Lib.hid (HE8.out.trans hE9)
          have HI59 := Lib.hid (HI5'.out.ext hE9); have HI89 := Lib.hid (HI8'.out.ext hE9)
          clear hi9 hE9 HCALL HSS HI5' HI8'
          go_wp2_with fail
          refine HRE.out.mono ?_
          rintro e w10 ⟨rfl, hE10⟩
          have HRF := Lib.hid (rowEqual_any ms ms _ _ w10 (HI59.out.ext hE10) (HI89.out.ext hE10))
          have HSS : Hid ((ms == ms) = true) := by unfold Hid; simp
          rw [HSS.out] at HRF
          have HE10 := Lib.hid (HE9.out.trans hE10)
          clear hE10 HRE HSS HI59 HI89
          go_wp2_with fail
          refine HRF.out.mono ?_
          rintro e w11 ⟨rfl, hE11⟩
          have HE11 := Lib.hid (HE10.out.trans hE11)
          clear hE11 HRF
          go_wp2_with fail
          go_ret
          exact ⟨rfl, HE11.out⟩
        · obtain ⟨rfl, rfl⟩ := HJ5.out (by omega)
          have hd := decide_eq_false hl
          rw [hd]
          clear HK5 HJ5 HK8 HI5 HI58 hl hd
          go_wp2_with fail
          refine HCALL.out.mono ?_
          rintro e w9 ⟨g9, c9, rfl, hi9, hE9⟩
          have HRE := Lib.hid (rowEqual_any s s _ _ w9 (HI8.out.ext hE9) hi9)
          have HSS : Hid ((s == s) = true) := by unfold Hid; simp
          rw [HSS.out] at HRE
          have HE9 := Lib.hid (HE8.out.trans hE9)
          clear hi9 hE9 HCALL HSS
          go_wp2_with fail
          refine HRE.out.mono ?_
          rintro e w10 ⟨rfl, hE10⟩
          have HE10 := Lib.hid (HE9.out.trans hE10)
          clear hE10 HRE
          go_wp2_with fail
          go_ret
          exact ⟨rfl, HE10.out⟩
  · have HCON := Lib.hid (fun W (hW : Ext w W) u (hu : LatV W u n R) => contains_bad n R x u _ W hu (HX.out.ext hW) hE)
    have HCOO := Lib.hid (fun W (hW : Ext w W) u (hu : LatV W u n R) => coords_bad n R x u _ W hu (HX.out.ext hW) hE)
    have HREP := Lib.hid (fun W (hW : Ext w W) u (hu : LatV W u n R) => repr_bad n R x u _ W hu (HX.out.ext hW) hE)
    have hcase : (rowE x ≠ 0 ∧ rowLE n R x = rowE x) ∨ (rowE x = 0 ∧ rowLE n R x = 5 ∧ x.length ≠ n) := by
      unfold rowLE at hE ⊢
      rw [if_pos HPF.out.chk] at hE ⊢
      by_cases h1 : rowE x = 0
      · rw [if_pos h1] at hE ⊢
        by_cases h2 : (x.length : Int) = n
        · rw [if_pos h2] at hE; exact absurd rfl hE
        · rw [if_neg h2]; exact .inr ⟨h1, rfl, by omega⟩
      · rw [if_neg h1]; exact .inl ⟨h1, rfl⟩
    obtain ⟨E, hEE⟩ : ∃ E, rowLE n R x = E := ⟨_, rfl⟩
    obtain ⟨F, hF⟩ : ∃ F, rowE x = F := ⟨_, rfl⟩
    rw [hEE] at HCON HCOO HREP hcase hE
    rw [hF] at HRC hcase
    clear hEE hF
    go_wp2_with fail
    clear hU1 hV1 r0 r1 f0 f1
    refine (HCON.out _ HEU.out _ ⟨_, rfl, HRU.out⟩).mono ?_
    rintro e w4 ⟨rfl, hE4⟩
    have HE4 := Lib.hid (HEU.out.trans hE4); have HB4 := Lib.hid (block_ext HB1.out hE4); have HR4 := Lib.hid (HRU.out.ext hE4)
    clear hE4 HCON HEU HB1 HRU s0 s1
    obtain ⟨s0, s1, -⟩ := lat_block HB4.out
    go_wp2_with fail
    refine (HCOO.out _ HE4.out _ ⟨_, rfl, HR4.out⟩).mono ?_
    rintro e w5 ⟨rfl, hE5⟩
    have HE5 := Lib.hid (HE4.out.trans hE5); have HB5 := Lib.hid (block_ext HB4.out hE5); have HR5 := Lib.hid (HR4.out.ext hE5)
    clear hE5 HCOO HE4 HB4 HR4 s0 s1
    obtain ⟨s0, s1, -⟩ := lat_block HB5.out
    go_wp2_with fail
    refine (HREP.out _ HE5.out _ ⟨_, rfl, HR5.out⟩).mono ?_
    rintro e w6 ⟨rfl, hE6⟩
    have HE6 := Lib.hid (HE5.out.trans hE6); have HB6 := Lib.hid (block_ext HB5.out hE6); have HR6 := Lib.hid (HR5.out.ext hE6)
    clear hE6 HREP HE5 HB5 HR5 s0 s1
    obtain ⟨s0, s1, -⟩ := lat_block HB6.out
    go_wp2_with fail
    refine (HRC.out _ HE6.out).mono ?_
    rintro e w7 ⟨rfl, rfl⟩
    clear HRC
    rcases hcase with ⟨k1, rfl⟩ | ⟨rfl, rfl, k3⟩
    · have hz : (E == 0) = false := by simpa using k1
      have hz2 : (E != 0) = true := by simpa using k1
      clear k1 hE
      go_wp2_with fail
      go_ret
      exact ⟨by simp, HE6.out⟩
    · have hne : ((x.length : Int) != (n : Int)) = true := by simp; omega
      have hne2 : ((x.length : Int) == (n : Int)) = false := by simp; omega
      clear k3 hE
      go_wp2_with fail
      go_ret
      exact ⟨rfl, HE6.out⟩
  -->REST
end Go.Proofs.YtehknemdfbkimaaGreatDoor
/- What a statement's row asks of the end of a call, out of: it returned true, and all that lay in memory lies unturned. -/
namespace Go.Proofs.YtehknemdfbkimaaGreatDoor
set_option linter.unusedVariables false
set_option linter.unusedSimpArgs false
open Go.ChangeShapes Go.WideShapes Go.ChangeAt Go.RowKit

theorem lawOwn : ownKnob Tryz.prog.godebug = none := by kernel_rfl
theorem lawLaid : laidOutB Tryz.prog = true := by kernel_rfl

theorem trodAll_below {H : Type} {enc : TypeId × Value → H} {P : Program} (hl : laidOutB P = true) {W W' : World} (hb : Below W.heap.size W W') :
    ∀ (ts : List TypeId) (vs : List Value) (ds : List (DataW H)) (ps : List MemPlace), (∀ t ∈ ts, P.readableRec t = true ∧ t < P.types.size) →
      DataW.TrodAll enc P W 0 (fun _ => true) true ts vs ds ps → (∀ x ∈ ps, x.block < W.heap.size) → DataW.TrodAll enc P W' 0 (fun b => decide (b < W.heap.size)) true ts vs ds ps
  | [], [], [], ps, _, h, _ => h
  | t :: ts, v :: vs, d :: ds, ps, hr, h, hlt => by
    obtain ⟨p, p', h1, h2, rfl⟩ := h
    exact ⟨p, p', Below.trod hl (hr t (by simp)).1 (hr t (by simp)).2 h1 hb (fun x hx => hlt x (by simp [hx])), trodAll_below hl hb ts vs ds p' (fun t ht => hr t (by simp [ht])) h2 (fun x hx => hlt x (by simp [hx])), rfl⟩
  | [], v :: vs, _, _, _, h, _ => absurd h (by simp [DataW.TrodAll])
  | [], [], d :: ds, _, _, h, _ => absurd h (by simp [DataW.TrodAll])
  | t :: ts, [], _, _, _, h, _ => absurd h (by simp [DataW.TrodAll])
  | t :: ts, v :: vs, [], _, _, h, _ => absurd h (by simp [DataW.TrodAll])

/-- The row's end for a statement that answers true and leaves what it was given alone. -/
theorem lawPost {H : Type} {enc : TypeId × Value → H} {f : Func} {s : ChangeSpec} {W W' : World} {args : Array Value} {ds : List (DataW H)} {before : List MemPlace}
    (hW : DataW.Whole enc Tryz.prog f.params.toList s.vars false W args.toList ds [] before) (hA : DataW.TrodAll enc Tryz.prog W 0 (fun _ => true) true f.params.toList args.toList ds before)
    (hv : s.vars = []) (hres : f.resultTypes = #[4]) (hfn : s.fn H (ds ++ []) = { results := [.lit (.bool true)], args := ds }) (hr : ∀ t ∈ f.params.toList, Tryz.prog.readableRec t = true ∧ t < Tryz.prog.types.size) (hb : Below W.heap.size W W') :
    ∃ v, Ending.returned (.bool true) = Ending.returned v ∧ ChangeSpec.post enc Tryz.prog f s false true false false W args v W' := by
  refine ⟨_, rfl, ds, [], before, [], before, [], hW, ?_, ?_, ?_, ?_, fun h => by cases h⟩
  · rw [hfn, hres]
    exact trodAll_cons_mk (shut_bool Tryz.underlying4 _) trodAll_mk0
  · rw [hfn]
    exact trodAll_below lawLaid hb _ _ _ _ hr hA (fun x hx => by simpa using hW.lt x hx)
  · rw [hfn, hv]; rfl
  · exact hb.frame _
end Go.Proofs.YtehknemdfbkimaaGreatDoor
