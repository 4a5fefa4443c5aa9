/- Merged: HermB. -/
import Derived.Test.YtjihfabhgcfjnaaGreatDoorRAAE
import Derived.Test.YtjihfabhgcfjnaaGreatDoorRAAF
import Derived.Test.YtjihfabhgcfjnaaGreatDoorQAT
import Derived.Deep.DeepCutAuto
/- Contract of reference 09: pivot. -/
namespace Go.Proofs.YtjihfabhgcfjnaaGreatDoor
set_option linter.unusedVariables false
set_option linter.unusedSimpArgs false
open Go.RowKit

/-- What pivot leaves. -/
structure PivR (c d : Nat) (m m' : List (List Int)) : Prop where
  len : m'.length = m.length
  row : rowE_ m' d = if getE m d c < 0 then negL (rowE_ m d) else rowE_ m d
  above : ∀ i, i < d → rowE_ m' i = lessL (fdq (getE m i c) (getE m' d c)) (rowE_ m i) (rowE_ m' d)
  below : ∀ i, d < i → rowE_ m' i = rowE_ m i
/-- So far. -/
def PivP (c d : Nat) (m : List (List Int)) (i : Nat) (mj : List (List Int)) : Prop :=
  mj.length = m.length ∧ (∀ k, k < i → rowE_ mj k = lessL (fdq (getE m k c) (getE m d c)) (rowE_ m k) (rowE_ m d)) ∧ ∀ k, i ≤ k → rowE_ mj k = rowE_ m k
theorem PivP.step {c d i : Nat} {m mj : List (List Int)} (h : PivP c d m i mj) (hi : i < d) (hd : d < m.length) : PivP c d m (i + 1) (mj.set i (lessL (fdq (getE mj i c) (getE mj d c)) (rowE_ mj i) (rowE_ mj d))) := by
  obtain ⟨h1, h2, h3⟩ := h
  have e1 := h3 i (Nat.le_refl _)
  have e2 := h3 d (by omega)
  have e3 : getE mj i c = getE m i c := by unfold getE; rw [e1]
  have e4 : getE mj d c = getE m d c := by unfold getE; rw [e2]
  refine ⟨by rw [List.length_set]; exact h1, fun k hk => ?_, fun k hk => ?_⟩
  · rw [rowE_set (by omega)]
    by_cases he : k = i
    · rw [if_pos he, e1, e2, e3, e4, he]
    · rw [if_neg he]; exact h2 k (by omega)
  · rw [rowE_set (by omega), if_neg (by omega)]; exact h3 k (by omega)
/-- The pivot's row, made positive. -/
def posM (c d : Nat) (m : List (List Int)) : List (List Int) := if getE m d c < 0 then m.set d (negL (rowE_ m d)) else m
theorem negL_getD (r : List Int) (c : Nat) : (negL r).getD c 0 = -(r.getD c 0) := by
  unfold negL
  simp only [List.getD_eq_getElem?_getD, List.getElem?_map]
  cases r[c]? <;> simp
theorem posM_len (c d : Nat) (m : List (List Int)) : (posM c d m).length = m.length := by unfold posM; split <;> simp
theorem posM_row {c d : Nat} {m : List (List Int)} (hd : d < m.length) : rowE_ (posM c d m) d = if getE m d c < 0 then negL (rowE_ m d) else rowE_ m d := by
  unfold posM; split
  · rw [rowE_set hd, if_pos rfl]
  · rfl
theorem posM_other {c d i : Nat} {m : List (List Int)} (hd : d < m.length) (hi : i ≠ d) : rowE_ (posM c d m) i = rowE_ m i := by
  unfold posM; split
  · rw [rowE_set hd, if_neg hi]
  · rfl
theorem posM_pos {c d : Nat} {m : List (List Int)} (hd : d < m.length) (hp : getE m d c ≠ 0) : 0 < getE (posM c d m) d c := by
  show 0 < (rowE_ (posM c d m) d).getD c 0
  rw [posM_row hd]
  by_cases h : getE m d c < 0
  · rw [if_pos h, negL_getD]; have : (rowE_ m d).getD c 0 < 0 := h; omega
  · rw [if_neg h]; have : ¬ (rowE_ m d).getD c 0 < 0 := h; have : (rowE_ m d).getD c 0 ≠ 0 := hp; omega
theorem PivP.done {c d : Nat} {m m' : List (List Int)} (hd : d < m.length) (h : PivP c d (posM c d m) d m') : PivR c d m m' := by
  obtain ⟨h1, h2, h3⟩ := h
  have e2 := h3 d (Nat.le_refl _)
  have e4 : getE m' d c = getE (posM c d m) d c := by unfold getE; rw [e2]
  refine ⟨by rw [h1, posM_len], by rw [e2, posM_row hd], fun i hi => ?_, fun i hi => by rw [h3 i (by omega), posM_other hd (by omega)]⟩
  rw [h2 i hi, e4, e2]
  have e5 := posM_other (c := c) hd (show i ≠ d by omega)
  have e6 : getE (posM c d m) i c = getE m i c := by unfold getE; rw [e5]
  rw [e5, e6]
theorem negL_le {Y : Nat} {r : List Int} (h : RowLe Y r) : RowLe Y (negL r) := by unfold negL; exact h.neg
theorem getE_cell {w : World} {g o c : Nat} {r : List Int} (h : RowG w g o r) (hc : c < r.length) : w.cell? ⟨g, o + c, none⟩ = some (.int .i64 (r.getD c 0)) :=
  h.cell c _ (by rw [List.getD_eq_getElem?_getD, List.getElem?_eq_getElem hc]; rfl)
def In64 (x : Int) : Prop := -9223372036854775808 ≤ x ∧ x ≤ 9223372036854775807

set_option maxRecDepth 100000 in
set_option maxHeartbeats 20000000 in
theorem pivot9_any (c d n U Y : Nat) (m : List (List Int)) (tags : List (Nat × Nat × Nat)) (g0 cap : Nat) (w : World) (hM : MatG w g0 tags m) (hd : d < m.length) (hw : Wid n m) (hc : c < n) (hn : n ≤ 1000000) (hp : getE m d c ≠ 0)
    (hU : ∀ i, i < d → RowLe U (rowE_ m i)) (hY : RowLe Y (rowE_ m d)) (hU2 : U ≤ 9000000000000000000) (hY2 : Y ≤ 9000000000000000000)
    (hB : ∀ i, i < d → ∀ j, In64 (fdq (getE m i c) (getE (posM c d m) d c) * getE (posM c d m) d j) ∧ In64 (getE m i j - fdq (getE m i c) (getE (posM c d m) d c) * getE (posM c d m) d j)) (hcap : m.length ≤ cap) (hcap2 : cap ≤ maxLen) :
    Calls Tryz.prog 102 #[.slice (some ⟨g0, 0, none⟩) m.length cap, .int .i64 d, .int .i64 c] w fun e w' => ∃ m', e = .returned (.tuple #[]) ∧ PivR c d m m' ∧ MatG w' g0 tags m' ∧ GrownS (blocksOf g0 tags) w w' := by
  obtain ⟨td, htd, p1, p2, p3, p4, p5⟩ := hM.get d hd
  have hbd : blocksOf g0 tags td.1 := List.mem_cons_of_mem _ (List.mem_map.2 ⟨td, List.mem_of_getElem? htd, rfl⟩)
  have hyl : (rowE_ m d).length = n := hw d hd
  have p6 := getE_cell p4 (c := c) (by omega)
  have HM := Lib.hid hM; have HW := Lib.hid hw; have HU := Lib.hid hU; have HY := Lib.hid hY; have HTD := Lib.hid htd; have HP4 := Lib.hid p4; have HBD := Lib.hid hbd
  have HBB := Lib.hid hB; have HP := Lib.hid hp; have HD := Lib.hid hd
  have HYB := Lib.hid (fun j => hY.getD j)
  unfold maxLen at p3 hcap2
  obtain ⟨L, hL⟩ : ∃ L, m.length = L := ⟨_, rfl⟩
  obtain ⟨yr, hyr⟩ : ∃ yr, rowE_ m d = yr := ⟨_, rfl⟩
  have HYR := Lib.hid hyr
  obtain ⟨ye, hye⟩ : ∃ ye, getE m d c = ye := ⟨_, rfl⟩
  have hye' : yr.getD c 0 = ye := by rw [← hyr]; exact hye
  rw [hyr] at p1 p2 p6 hyl HP4 HYB
  rw [hye'] at p6
  have HYE := Lib.hid hye
  rw [hL] at hcap hd ⊢
  have HL := Lib.hid hL
  have hyb := HYB.out c
  rw [hye'] at hyb
  have hcl : c < yr.length := by omega
  clear hM hw hU hY htd p4 hbd hB hp hyr hye hye' hL
  go_enter Tryz.func102, Tryz.ntmps102
  go_upto_if 15 with fail
  go_cut [] from 6 to 38 (fun wx => Hid (MatG wx g0 tags (posM c d m)) ∧ Hid (GrownS (blocksOf g0 tags) w wx))
  case first =>
    by_cases hneg : ye < 0
    · rw [decide_eq_true hneg]
      have HPM : Hid (posM c d m = m.set d (negL yr)) := by unfold Hid posM; rw [if_pos (by rw [HYE.out]; exact hneg), HYR.out]
      clear hneg
      go_wp2_with fail
      go_loopw [6] (fun t wr => ∃ j : Nat, j ≤ yr.length ∧ t = .int .i64 j ∧ Hid (GrownS (· = td.1) w wr) ∧ Hid (RowG wr td.1 td.2.1 (negP yr j))) (fun t _ => yr.length - (intOf t).toNat)
      case atStart => exact ⟨0, by omega, rfl, GrownS.refl _ _, by rw [negP_zero]; exact HP4.out⟩
      case round =>
        obtain ⟨j, hj, rfl, HG, HPJ⟩ := hrel
        obtain ⟨wo, rfl⟩ : ∃ wo : World, wo = wr := ⟨_, rfl⟩
        have q1 := (HG.out.block g0 HM.out.lt (fun e => p5 e.symm))
        have p1' := (cell_of_heap q1 d).trans p1
        by_cases hlt : j < yr.length
        · obtain ⟨a, haj⟩ : ∃ a, yr[j]? = some a := ⟨yr[j], List.getElem?_eq_getElem hlt⟩
          have g1 := HPJ.out.cell j a (negP_get yr j a haj)
          have f1 := HPJ.out.free (td.2.1 + j)
          have ha := HYB.out j
          rw [List.getD_eq_getElem?_getD, haj] at ha
          simp only [Option.getD_some] at ha
          have hab : -9223372036854775808 ≤ -a ∧ -a ≤ 9223372036854775807 := by omega
          have HSET : Hid (∀ W, Ext wo W → RowG (W.setCell ⟨td.1, td.2.1 + j, none⟩ (.int .i64 (-a))) td.1 td.2.1 (negP yr (j + 1))) := fun W hE => by
            rw [← negP_set yr j a haj]
            exact (HPJ.out.ext hE).set j (by rw [negP_len]; exact hlt) _
          clear haj q1 p1 p6
          go_upto_region 4 with fail
          go_region
          all_goals
            go_wp2_with fail
            go_roundw
            case rel => exact ⟨j + 1, by omega, by go_num, (HG.out.ext (Ext.drew _)).setCell rfl _ _, HSET.out _ (Ext.drew _)⟩
            case measure => simp [intOf]; omega
        · have HF : Hid (RowG wo td.1 td.2.1 (negL yr)) := by
            unfold Hid; rw [← negP_all yr j (by omega)]; exact HPJ.out
          clear q1 p1 p6
          go_wp2_with fail
          go_meet
          refine ⟨?_, HG.out.weak (fun k _ hk => by rw [hk]; exact HBD.out)⟩
          rw [HPM.out]
          exact HM.out.setRow d HD.out td HTD.out (negL yr) (by rw [HYR.out]; unfold negL; rw [List.length_map]) HG.out HF.out
    · rw [decide_eq_false hneg]
      have HPM : Hid (posM c d m = m) := by unfold Hid posM; rw [if_neg (by rw [HYE.out]; exact hneg)]
      clear hneg
      go_wp2_with fail
      go_meet
      exact ⟨by rw [HPM.out]; exact HM.out, GrownS.refl _ _⟩
  case rest =>
  obtain ⟨HM1, HG1⟩ := hcut
  have HPOS := Lib.hid (posM_pos HD.out HP.out)
  have HL1 : Hid ((posM c d m).length = L) := by unfold Hid; rw [posM_len]; exact HL.out
  have HW1 : Hid (∀ i, i < L → (rowE_ (posM c d m) i).length = n) := fun i hi => by
    by_cases he : i = d
    · rw [he, posM_row HD.out]; split
      · unfold negL; rw [List.length_map]; exact HW.out d HD.out
      · exact HW.out d HD.out
    · rw [posM_other HD.out he]; exact HW.out i (by rw [HL.out]; exact hi)
  have HYM : Hid (RowLe Y (rowE_ (posM c d m) d)) := by
    unfold Hid; rw [posM_row HD.out]; split
    · exact negL_le HY.out
    · exact HY.out
  have HUM : Hid (∀ i, i < d → RowLe U (rowE_ (posM c d m) i)) := fun i hi => by rw [posM_other HD.out (by omega)]; exact HU.out i hi
  have HBM : Hid (∀ i, i < d → ∀ j, In64 (fdq (getE (posM c d m) i c) (getE (posM c d m) d c) * getE (posM c d m) d j) ∧ In64 (getE (posM c d m) i j - fdq (getE (posM c d m) i c) (getE (posM c d m) d c) * getE (posM c d m) d j)) := fun i hi j => by
    have e5 := posM_other (c := c) HD.out (show i ≠ d by omega)
    have e6 : ∀ k, getE (posM c d m) i k = getE m i k := fun k => by unfold getE; rw [e5]
    rw [e6, e6]; exact HBB.out i hi j
  clear HBB
  have HDN : Hid (∀ m', PivP c d (posM c d m) d m' → PivR c d m m') := fun m' h => h.done HD.out
  clear HM HW HU HY HTD HP4 HBD HYB HYR HYE p1 p2 p3 p5 p6 hyl hyb hcl HP
  obtain ⟨mp, hmp⟩ : ∃ mp, posM c d m = mp := ⟨_, rfl⟩
  rw [hmp] at HM1 HPOS HL1 HW1 HYM HUM HDN HBM
  clear hmp HD HL
  go_wp2_with fail
  go_loopw [7] (fun t wr => ∃ (i : Nat) (mj : List (List Int)), i ≤ d ∧ t = .int .i64 i ∧ Hid (PivP c d mp i mj) ∧ Hid (MatG wr g0 tags mj) ∧ Hid (GrownS (blocksOf g0 tags) w wr)) (fun t _ => d - (intOf t).toNat)
  case atStart => exact ⟨0, mp, by omega, rfl, ⟨rfl, fun k hk => by omega, fun k _ => rfl⟩, HM1.out, HG1.out⟩
  case round =>
    clear HM1 HG1
    obtain ⟨i, mj, hi, rfl, HPJ, HMJ, HGJ⟩ := hrel
    obtain ⟨wo, rfl⟩ : ∃ wo : World, wo = wr := ⟨_, rfl⟩
    by_cases hlt : i < d
    · have hmjl : mj.length = L := by rw [HPJ.out.1]; exact HL1.out
      have HST := Lib.hid (HPJ.out.step hlt (by rw [HL1.out]; exact hd))
      obtain ⟨t4, ht4, b1, b2, b3, b4, b5⟩ := HMJ.out.get i (by omega)
      obtain ⟨tp, htp, p1, p2, p3, p4, p5⟩ := HMJ.out.get d (by omega)
      have hap := HMJ.out.apart ht4 htp (by omega)
      have hb4 : blocksOf g0 tags t4.1 := List.mem_cons_of_mem _ (List.mem_map.2 ⟨t4, List.mem_of_getElem? ht4, rfl⟩)
      have e1 := HPJ.out.2.2 i (Nat.le_refl _)
      have e2 := HPJ.out.2.2 d (by omega)
      have hxl : (rowE_ mj i).length = n := by rw [e1]; exact HW1.out i (by omega)
      have hyl : (rowE_ mj d).length = n := by rw [e2]; exact HW1.out d hd
      have hxU : RowLe U (rowE_ mj i) := by rw [e1]; exact HUM.out i hlt
      have hyY : RowLe Y (rowE_ mj d) := by rw [e2]; exact HYM.out
      have hpos : 0 < getE mj d c := by unfold getE; rw [e2]; exact HPOS.out
      unfold maxLen at b3 p3
      have b6 := getE_cell b4 (c := c) (by omega)
      have p6 := getE_cell p4 (c := c) (by omega)
      obtain ⟨xr, hxr⟩ : ∃ xr, rowE_ mj i = xr := ⟨_, rfl⟩
      obtain ⟨yr, hyr⟩ : ∃ yr, rowE_ mj d = yr := ⟨_, rfl⟩
      have hxe : getE mj i c = xr.getD c 0 := by unfold getE; rw [hxr]
      have hye : getE mj d c = yr.getD c 0 := by unfold getE; rw [hyr]
      rw [hxe, hye, hxr, hyr] at HST
      rw [hye] at hpos
      rw [hxr] at b1 b2 b4 b6 hxl hxU; rw [hyr] at p1 p2 p4 p6 hyl hyY
      have hq0 := fdq_bd (xr.getD c 0) (yr.getD c 0)
      have hx0 := hxU.getD c; have hy0 := hyY.getD c
      obtain ⟨xe, hxe2⟩ : ∃ xe, xr.getD c 0 = xe := ⟨_, rfl⟩
      obtain ⟨ye, hye2⟩ : ∃ ye, yr.getD c 0 = ye := ⟨_, rfl⟩
      rw [hxe2] at b6 hx0 hq0 HST; rw [hye2] at p6 hy0 hpos hq0 HST
      have hbj : ∀ j, In64 (fdq xe ye * yr.getD j 0) ∧ In64 (xr.getD j 0 - fdq xe ye * yr.getD j 0) := fun j => by
        have h := HBM.out i hlt j
        have f1 : ∀ k, getE mp i k = xr.getD k 0 := fun k => by unfold getE; rw [← e1, hxr]
        have f2 : ∀ k, getE mp d k = yr.getD k 0 := fun k => by unfold getE; rw [← e2, hyr]
        rw [f1, f1, f2, f2, hxe2, hye2] at h
        exact h
      have HFL : Hid (∀ W, Calls Tryz.prog 52 #[.int .i64 xe, .int .i64 ye] W fun e w' => e = .returned (.int .i64 (fdq xe ye)) ∧ Ext W w') := fun W => (floor9_any xe ye W (by omega) hpos (by omega)).mono fun e w' ⟨h1, h2⟩ => ⟨h1, by rw [h2]; exact Ext.refl _⟩
      have HLS : Hid (∀ W, Ext wo W → _) := fun W (hW : Ext wo W) => less9_any (fdq xe ye) xr yr t4.1 t4.2.1 t4.2.2 tp.1 tp.2.1 tp.2.2 W (b4.ext hW) (p4.ext hW) (fun e => hap e.symm) (by omega) b2 (by unfold maxLen; exact b3) p2 (by unfold maxLen; exact p3) (fun j _ => hbj j)
      have HSR : Hid (∀ (W W' : World), Ext wo W → GrownS (· = t4.1) W W' → RowG W' t4.1 t4.2.1 (lessL (fdq xe ye) xr yr) → MatG W' g0 tags (mj.set i (lessL (fdq xe ye) xr yr))) := fun W W' hW hG hR => (HMJ.out.ext hW).setRow i (by omega) t4 ht4 _ (by rw [lessL_len, hxr]) hG hR
      have HGR : Hid (∀ (W W' : World), Ext wo W → GrownS (· = t4.1) W W' → GrownS (blocksOf g0 tags) w W') := fun W W' hW hG => (HGJ.out.ext hW).trans (hG.weak (fun k _ hk => by rw [hk]; exact hb4))
      have hcx : c < xr.length := by omega
      have hcy : c < yr.length := by omega
      have hiL : i < L := by omega
      clear ht4 htp hap hb4 e1 e2 hxl hyl hxU hyY hxr hyr hxe hye hx0 hy0 hxe2 hye2 hq0 b4 p4 b5 p5 hmjl hbj
      go_upto_region 8 with fail
      --<R8
      refine region_anyE (fun w' => w'.cell? ⟨g0, i, none⟩ = some (.slice (some ⟨t4.1, t4.2.1, none⟩) xr.length t4.2.2) ∧ w'.cell? ⟨g0, d, none⟩ = some (.slice (some ⟨tp.1, tp.2.1, none⟩) yr.length tp.2.2) ∧ w'.cell? ⟨t4.1, t4.2.1 + c, none⟩ = some (.int .i64 xe) ∧ w'.cell? ⟨tp.1, tp.2.1 + c, none⟩ = some (.int .i64 ye) ∧ Hid (Ext wo w')) 23 (by kernel_rfl) ⟨(Ext.drew wo).cell b1, (Ext.drew wo).cell p1, (Ext.drew wo).cell b6, (Ext.drew wo).cell p6, Ext.drew wo⟩ (fun hHeld => ?_)
      generalize wo.drew = wd at hHeld ⊢
      refine anyE_takeW (v := ?_) 0 rfl (by kernel_rfl) (by kernel_rfl) (by kernel_rfl) (by decide) (fun _ _ _ h => h) (Or.inl ⟨by rfl, ?_⟩) (by assumption) ?_
      rotate_left
      · ((intro w'); (try go_simp); (try with_reducible rfl))
      (try simp only [Act.put, List.setIfInBounds_toArray, List.set_cons_zero, List.set_cons_succ])
      refine anyE_takeW (v := ?_) 1 rfl (by kernel_rfl) (by kernel_rfl) (by kernel_rfl) (by decide) (fun _ _ _ h => h) (Or.inl ⟨by rfl, ?_⟩) (by assumption) ?_
      rotate_left
      · ((intro w'); (try go_simp); (try with_reducible rfl))
      (try simp only [Act.put, List.setIfInBounds_toArray, List.set_cons_zero, List.set_cons_succ])
      refine anyE_takeW (v := ?_) 2 rfl (by kernel_rfl) (by kernel_rfl) (by kernel_rfl) (by decide) (fun _ _ _ h => h) (Or.inl ⟨by rfl, ?_⟩) (by assumption) ?_
      rotate_left
      · ((intro w'); (try go_simp); (try with_reducible rfl))
      (try simp only [Act.put, List.setIfInBounds_toArray, List.set_cons_zero, List.set_cons_succ])
      refine anyE_take (v := ?_) 3 rfl (by kernel_rfl) (by kernel_rfl) (by kernel_rfl) (by kernel_rfl) (by kernel_rfl) (fun _ _ _ h => h) (Or.inl ⟨by rfl, ?_⟩) (by assumption) ?_
      rotate_left
      · ((intro w' hSw); (try dsimp only at hSw); (try go_simp); (try with_reducible rfl))
      (try simp only [Act.put, List.setIfInBounds_toArray, List.set_cons_zero, List.set_cons_succ])
      refine anyE_takeW (v := ?_) 4 rfl (by kernel_rfl) (by kernel_rfl) (by kernel_rfl) (by decide) (fun _ _ _ h => h) (Or.inl ⟨by rfl, ?_⟩) (by assumption) ?_
      rotate_left
      · ((intro w'); (try go_simp); (try with_reducible rfl))
      (try simp only [Act.put, List.setIfInBounds_toArray, List.set_cons_zero, List.set_cons_succ])
      refine anyE_takeW (v := ?_) 5 rfl (by kernel_rfl) (by kernel_rfl) (by kernel_rfl) (by decide) (fun _ _ _ h => h) (Or.inl ⟨by rfl, ?_⟩) (by assumption) ?_
      rotate_left
      · ((intro w'); (try go_simp); (try with_reducible rfl))
      (try simp only [Act.put, List.setIfInBounds_toArray, List.set_cons_zero, List.set_cons_succ])
      refine anyE_takeW (v := ?_) 6 rfl (by kernel_rfl) (by kernel_rfl) (by kernel_rfl) (by decide) (fun _ _ _ h => h) (Or.inl ⟨by rfl, ?_⟩) (by assumption) ?_
      rotate_left
      · ((intro w'); (try go_simp); (try with_reducible rfl))
      (try simp only [Act.put, List.setIfInBounds_toArray, List.set_cons_zero, List.set_cons_succ])
      refine anyE_take (v := ?_) 7 rfl (by kernel_rfl) (by kernel_rfl) (by kernel_rfl) (by kernel_rfl) (by kernel_rfl) (fun _ _ _ h => h) (Or.inl ⟨by rfl, ?_⟩) (by assumption) ?_
      rotate_left
      · ((intro w' hSw); (try dsimp only at hSw); (try go_simp); (try with_reducible rfl))
      (try simp only [Act.put, List.setIfInBounds_toArray, List.set_cons_zero, List.set_cons_succ])
      refine anyE_takeW (v := ?_) 8 rfl (by kernel_rfl) (by kernel_rfl) (by kernel_rfl) (by decide) (fun _ _ _ h => h) (Or.inl ⟨by rfl, ?_⟩) (by assumption) ?_
      rotate_left
      · ((intro w'); (try go_simp); (try with_reducible rfl))
      (try simp only [Act.put, List.setIfInBounds_toArray, List.set_cons_zero, List.set_cons_succ])
      refine anyE_takeW (v := ?_) 9 rfl (by kernel_rfl) (by kernel_rfl) (by kernel_rfl) (by decide) (fun _ _ _ h => h) (Or.inl ⟨by rfl, ?_⟩) (by assumption) ?_
      rotate_left
      · ((intro w'); (try go_simp); (try with_reducible rfl))
      (try simp only [Act.put, List.setIfInBounds_toArray, List.set_cons_zero, List.set_cons_succ])
      refine anyE_takeW (v := ?_) 10 rfl (by kernel_rfl) (by kernel_rfl) (by kernel_rfl) (by decide) (fun _ _ _ h => h) (Or.inl ⟨by rfl, ?_⟩) (by assumption) ?_
      rotate_left
      · ((intro w'); (try go_simp); (try with_reducible rfl))
      (try simp only [Act.put, List.setIfInBounds_toArray, List.set_cons_zero, List.set_cons_succ])
      refine anyE_take (v := ?_) 11 rfl (by kernel_rfl) (by kernel_rfl) (by kernel_rfl) (by kernel_rfl) (by kernel_rfl) (fun _ _ _ h => h) (Or.inl ⟨by rfl, ?_⟩) (by assumption) ?_
      rotate_left
      · ((intro w' hSw); (try dsimp only at hSw); (try go_simp); (try with_reducible rfl))
      (try simp only [Act.put, List.setIfInBounds_toArray, List.set_cons_zero, List.set_cons_succ])
      refine anyE_takeW (v := ?_) 12 rfl (by kernel_rfl) (by kernel_rfl) (by kernel_rfl) (by decide) (fun _ _ _ h => h) (Or.inl ⟨by rfl, ?_⟩) (by assumption) ?_
      rotate_left
      · ((intro w'); (try go_simp); (try with_reducible rfl))
      (try simp only [Act.put, List.setIfInBounds_toArray, List.set_cons_zero, List.set_cons_succ])
      refine anyE_takeW (v := ?_) 13 rfl (by kernel_rfl) (by kernel_rfl) (by kernel_rfl) (by decide) (fun _ _ _ h => h) (Or.inl ⟨by rfl, ?_⟩) (by assumption) ?_
      rotate_left
      · ((intro w'); (try go_simp); (try with_reducible rfl))
      (try simp only [Act.put, List.setIfInBounds_toArray, List.set_cons_zero, List.set_cons_succ])
      refine anyE_take (v := ?_) 14 rfl (by kernel_rfl) (by kernel_rfl) (by kernel_rfl) (by kernel_rfl) (by kernel_rfl) (fun _ _ _ h => h) (Or.inl ⟨by rfl, ?_⟩) (by assumption) ?_
      rotate_left
      · ((intro w' hSw); (try dsimp only at hSw); (try go_simp); (try with_reducible rfl))
      (try simp only [Act.put, List.setIfInBounds_toArray, List.set_cons_zero, List.set_cons_succ])
      refine anyE_takeW (v := ?_) 15 rfl (by kernel_rfl) (by kernel_rfl) (by kernel_rfl) (by decide) (fun _ _ _ h => h) (Or.inl ⟨by rfl, ?_⟩) (by assumption) ?_
      rotate_left
      · ((intro w'); (try go_simp); (try with_reducible rfl))
      (try simp only [Act.put, List.setIfInBounds_toArray, List.set_cons_zero, List.set_cons_succ])
      refine anyE_takeW (v := ?_) 16 rfl (by kernel_rfl) (by kernel_rfl) (by kernel_rfl) (by decide) (fun _ _ _ h => h) (Or.inl ⟨by rfl, ?_⟩) (by assumption) ?_
      rotate_left
      · ((intro w'); (try go_simp); (try with_reducible rfl))
      (try simp only [Act.put, List.setIfInBounds_toArray, List.set_cons_zero, List.set_cons_succ])
      refine anyE_takeW (v := ?_) 17 rfl (by kernel_rfl) (by kernel_rfl) (by kernel_rfl) (by decide) (fun _ _ _ h => h) (Or.inl ⟨by rfl, ?_⟩) (by assumption) ?_
      rotate_left
      · ((intro w'); (try go_simp); (try with_reducible rfl))
      (try simp only [Act.put, List.setIfInBounds_toArray, List.set_cons_zero, List.set_cons_succ])
      refine anyE_take (v := ?_) 18 rfl (by kernel_rfl) (by kernel_rfl) (by kernel_rfl) (by kernel_rfl) (by kernel_rfl) (fun _ _ _ h => h) (Or.inl ⟨by rfl, ?_⟩) (by assumption) ?_
      rotate_left
      · ((intro w' hSw); (try dsimp only at hSw); (try go_simp); (try with_reducible rfl))
      (try simp only [Act.put, List.setIfInBounds_toArray, List.set_cons_zero, List.set_cons_succ])
      refine anyE_takeW (v := ?_) 19 rfl (by kernel_rfl) (by kernel_rfl) (by kernel_rfl) (by decide) (fun _ _ _ h => h) (Or.inl ⟨by rfl, ?_⟩) (by assumption) ?_
      rotate_left
      · ((intro w'); (try go_simp); (try with_reducible rfl))
      (try simp only [Act.put, List.setIfInBounds_toArray, List.set_cons_zero, List.set_cons_succ])
      refine anyE_takeW (v := ?_) 20 rfl (by kernel_rfl) (by kernel_rfl) (by kernel_rfl) (by decide) (fun _ _ _ h => h) (Or.inl ⟨by rfl, ?_⟩) (by assumption) ?_
      rotate_left
      · ((intro w'); (try go_simp); (try with_reducible rfl))
      (try simp only [Act.put, List.setIfInBounds_toArray, List.set_cons_zero, List.set_cons_succ])
      refine anyE_take (v := ?_) 21 rfl (by kernel_rfl) (by kernel_rfl) (by kernel_rfl) (by kernel_rfl) (by kernel_rfl) (fun _ _ _ h => h) (Or.inl ⟨by rfl, ?_⟩) (by assumption) ?_
      rotate_left
      · ((intro w' hSw); (try dsimp only at hSw); (try go_simp); (try with_reducible rfl))
      (try simp only [Act.put, List.setIfInBounds_toArray, List.set_cons_zero, List.set_cons_succ])
      refine anyE_step 22 (by kernel_rfl) rfl (fun K hK => ?_)
      go_simp
      (go_at_call 52; refine (HFL.out _).mono ?_)
      rintro e wz ⟨rfl, hEz⟩
      go_wp2_with fail
      refine hK.out _ _ ⟨(hEz).cell hHeld.1, (hEz).cell hHeld.2.1, (hEz).cell hHeld.2.2.1, (hEz).cell hHeld.2.2.2.1, Ext.trans hHeld.2.2.2.2.out (hEz)⟩ (fun hHeld => ?_)
      clear hK K
      (try simp only [Act.put, List.setIfInBounds_toArray, List.set_cons_zero, List.set_cons_succ])
      refine anyE_last 23 (by kernel_rfl) (by kernel_rfl) (by kernel_rfl) rfl (fun K hK => ?_)
      go_simp
      (go_at_call 53; refine (HLS.out _ hHeld.2.2.2.2.out).mono ?_)
      rintro e w7 ⟨rfl, hG7, hR7⟩
      have HE6 := hHeld.2.2.2.2
      go_wp2_with fail
      refine hK.out _ _ ?_
      clear hK K
      (try simp only [Act.put, List.setIfInBounds_toArray, List.set_cons_zero, List.set_cons_succ])
      -->R8
      go_wp2_with fail
      go_roundw
      case rel => exact ⟨i + 1, _, by omega, by go_num, HST.out, HSR.out _ _ HE6.out hG7 hR7, HGR.out _ _ HE6.out hG7⟩
      case measure => simp [intOf]; omega
    · obtain rfl : i = d := by omega
      have HF := Lib.hid (HDN.out _ HPJ.out)
      go_wp2_with fail
      refine bodyPost_end (results_none rfl _ _ _) rfl ⟨mj, rfl, HF.out, HMJ.out, HGJ.out⟩
end Go.Proofs.YtjihfabhgcfjnaaGreatDoor
