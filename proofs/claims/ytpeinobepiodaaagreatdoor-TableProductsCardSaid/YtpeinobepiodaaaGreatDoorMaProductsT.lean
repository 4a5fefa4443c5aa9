/- Merged: ProductsT. -/
import Derived.Test.YtpeinobepiodaaaGreatDoorGW
import Derived.Test.YtpeinobepiodaaaGreatDoorGO
/- Contract of the reference's Mul (chapter 06); the walk of TableProducts. -/
namespace Go.Proofs.YtpeinobepiodaaaGreatDoor
set_option linter.unusedVariables false
set_option linter.unusedSimpArgs false
open Go.RowKit

theorem dotN_symm (r x : List Int) : ∀ n, dotN (pairL r x) n = dotN (pairL x r) n
  | 0 => rfl
  | n + 1 => by
    show dotN (pairL r x) n + r.getD n 0 * x.getD n 0 = dotN (pairL x r) n + x.getD n 0 * r.getD n 0
    rw [dotN_symm r x n, Int.mul_comm]
theorem apL_trans (r : List Int) (yss : List (List Int)) : apL (transL yss) r = mulRow r yss := by
  unfold apL transL mulRow
  rw [List.map_map]
  apply List.map_congr_left
  intro c hc
  show dotN (pairL (colL yss c) r) r.length = _
  rw [dotN_symm]

set_option maxRecDepth 100000 in
set_option maxHeartbeats 4000000 in
theorem refMul_any (xss yss : List (List Int)) (v vy : Value) (w : World) (h : Rows2 w v xss) (hy : Rows2 w vy yss) (hx0 : tabE xss = 0) (hy0 : tabE yss = 0) (hsz : colsN xss = yss.length) (ht : Pow10 w) :
    Calls Tryz.prog 40 #[v, vy] w fun e w' => ∃ u, e = .returned (.tuple #[u, .bool ((mulL xss yss).all fun r => r.all fitB)]) ∧ (((mulL xss yss).all fun r => r.all fitB) = true → Rows2 w' u (mulL xss yss)) ∧ Ext w w' := by
  obtain ⟨hlx, hrx⟩ := tabE_zero hx0
  obtain ⟨hly, hry⟩ := tabE_zero hy0
  have hny12 : colsN yss ≤ 12 := by
    cases yss with
    | nil => show 0 ≤ 12; omega
    | cons r l => exact (hry r (by simp)).2.1
  have HT := Lib.hid ht
  have HTR := Lib.hid (refTrans_any yss vy w hy (fun r hr => (hry r hr).1) (fun r hr => (hry r hr).2.2) (by omega) (by omega))
  have HRX := Lib.hid hrx
  have HCOL : Hid (∀ q ∈ transL yss, Fit9 q ∧ q.length = yss.length) := fun q hq => by
    obtain ⟨c, hc, rfl⟩ := transL_mem hq
    exact ⟨colL_bd (fun r hr => (hry r hr).2.2), colL_len _ _⟩
  have HSZ := Lib.hid hsz
  have HTL : Hid ((transL yss).length ≤ 12) := by unfold Hid; rw [transL_len]; exact hny12
  obtain ⟨a, c, rfl, h1, h2, -, hc⟩ := inCell.open h
  have HC := Lib.hid hc
  unfold maxLen at h2
  clear h hy hc ht hrx hry hx0 hy0 hny12 hsz
  go_enter Tryz.func40, Tryz.ntmps40
  go_wp2_with fail
  refine HTR.out.mono ?_
  rintro e w1 ⟨ut, rfl, hut, hE1⟩
  have HE1 := Lib.hid hE1
  have HUT : Hid (Rows2 w1 ut (transL yss)) := hut.list
  clear hut hE1 HTR
  go_wp2_with fail
  go_loopw [8, 6] (fun t o wr => ∃ i : Nat, i ≤ xss.length ∧ t = .int .i64 i ∧ Hid (Ext w1 wr) ∧ Hid (Build wr w1.heap.size 51 1 o rowR ((mulL xss yss).take i)) ∧ Hid (((mulL xss yss).take i).all (fun r => r.all fitB) = true)) (fun t _ _ => xss.length - (intOf t).toNat)
  case atStart => exact ⟨0, by omega, rfl, by first | exact Ext.refl _ | exact Ext.drew _, Build.nil _ _ _ _ _, rfl⟩
  case round =>
    obtain ⟨i, hi, rfl, HEI, HBI, HAL⟩ := hrel
    obtain ⟨wi, rfl⟩ : ∃ wi : World, wi = wr := ⟨_, rfl⟩
    have HXI := Lib.hid (HE1.out.trans HEI.out)
    by_cases hlt : i < xss.length
    · obtain ⟨b, off, rfl, hb, hcell⟩ := HC.out (by intro e; simp [e] at hlt)
      obtain ⟨r, hr⟩ : ∃ x, xss[i]? = some x := ⟨xss[i], List.getElem?_eq_getElem hlt⟩
      obtain ⟨vr, hvr, hcr⟩ := hcell i r hr
      have g1 := HXI.out.cell hcr
      obtain ⟨hrl, hr12, hrf⟩ := HRX.out r (List.mem_of_getElem? hr)
      have HAP : Hid (Calls Tryz.prog 37 #[ut, vr] wi fun e w' => ∃ u, e = .returned (.tuple #[u, .bool ((mulRow r yss).all fitB)]) ∧ Build w' wi.heap.size 3 1 u intR ((mulRow r yss).map smV) ∧ Ext wi w') := by
        have := refApplyB_any (transL yss) r ut vr wi (HUT.out.ext HEI.out) (hvr.ext HXI.out) (fun q hq => ⟨(HCOL.out q hq).1, by rw [(HCOL.out q hq).2, hrl, HSZ.out]⟩) hrf (by omega) (by have := HTL.out; omega) (HT.out.ext HXI.out)
        rw [apL_trans] at this
        exact this
      have HMT := Lib.hid (mulL_take (yss := yss) hr)
      obtain ⟨m, hm⟩ : ∃ m, m = mulRow r yss := ⟨_, rfl⟩
      rw [← hm] at HAP HMT
      obtain ⟨ar, cr, rfl, -⟩ := hvr.open
      obtain ⟨lr, hlr⟩ : ∃ l, l = r.length := ⟨_, rfl⟩
      rw [← hlr] at g1 HAP
      have hir : (i : Int) < (xss.length : Int) := by omega
      clear hcell hr hvr hcr hrl hr12 hrf hm hlr
      cases hall : m.all fitB with
      | false =>
        rw [hall] at HAP
        have HF : Hid (((mulL xss yss).all fun r => r.all fitB) = false) := by
          unfold Hid
          rw [List.all_eq_false]
          exact ⟨m, List.mem_of_mem_take (i := i + 1) (by rw [HMT.out]; simp), by rw [hall]; decide⟩
        clear hall
        go_wp2_with fail
        refine HAP.out.mono ?_
        rintro e w2 ⟨u2, rfl, -, hE2⟩
        have HE2 := Lib.hid (HXI.out.trans hE2)
        clear hE2 HAP
        go_wp2_with fail
        go_ret2
        exact ⟨_, by rw [HF.out]; rfl, fun h => (by rw [HF.out] at h; cases h), HE2.out⟩
      | true =>
        rw [hall] at HAP
        have HSM : Hid (m.map smV = m) := by
          unfold Hid
          conv => rhs; rw [← List.map_id m]
          exact List.map_congr_left fun a ha => smV_fit (List.all_eq_true.1 hall a ha)
        rw [HSM.out] at HAP
        have HAL2 : Hid (((mulL xss yss).take (i + 1)).all (fun r => r.all fitB) = true) := by
          unfold Hid; rw [HMT.out, List.all_append, HAL.out, List.all_cons, hall]; rfl
        clear hall
        go_wp2_with fail
        refine HAP.out.mono ?_
        rintro e w2 ⟨u2, rfl, hB2, hE2⟩
        have HQ2 := Lib.hid (HEI.out.trans hE2)
        have HBO := Lib.hid (HBI.out.ext hE2)
        have HSF := Lib.hid (hB2.safe_ints (o := u6.ownBlock) (fun k hk => (HBI.out.lt k hk).2))
        obtain ⟨a5, c5, hu5, -⟩ := Ints.open hB2.list
        obtain ⟨lm, hlm⟩ : ∃ l, l = m.length := ⟨_, rfl⟩
        rw [← hlm] at hu5
        subst hu5
        have HLL : Hid (((mulL xss yss).take i).length < 1000000) := Nat.lt_of_le_of_lt (by rw [List.length_take]; exact Nat.min_le_left _ _) (show i < 1000000 by have := hlx; omega)
        have hs5 : w1.heap.size ≤ w2.heap.size := HQ2.out.size
        clear hB2 hE2 HAP hlm
        go_wp2_with (at_builtin; go_must (refine wpList_append_build _ rfl _ _ 23 rfl w1.heap.size 51 (.slice none 0 0) 1 24 Tryz.underlying23 infoRowT rfl (by decide) u6 rowR ((mulL xss yss).take i) m #[.slice a5 lm c5] 51 rfl HBO.out rfl rfl ?_ (HSF.out.mono fun w' hw => ⟨_, rfl, hw⟩) HLL.out (by decide) hs5 ?_))
        case refine_1 => simp [Value.oneCell']
        intro v' w9 hB9 hg9 hb9 hs9 _
        rw [← HMT.out] at hB9
        have HB9 := Lib.hid hB9
        have HX9 : Hid (Ext w1 w9) := Below.trans HQ2.out hb9
        clear hB9 hg9 hb9
        go_wp2_with fail
        go_roundw
        case rel => exact ⟨i + 1, by omega, by go_num, HX9.out, HB9.out, HAL2.out⟩
        case measure => simp [intOf]; omega
    · obtain rfl : i = xss.length := by omega
      have htk : (mulL xss yss).take xss.length = mulL xss yss := List.take_of_length_le (by rw [mulL_len]; exact Nat.le_refl _)
      rw [htk] at HBI HAL
      have HL : Hid (Rows2 wi u6 (mulL xss yss)) := HBI.out.list
      clear htk
      go_wp2_with fail
      go_ret2
      exact ⟨u6, by rw [HAL.out]; rfl, fun _ => HL.out, HXI.out⟩

set_option maxRecDepth 100000 in
set_option maxHeartbeats 4000000 in
theorem products_walk (xss yss : List (List Int)) (v vy : Value) (w : World) (h : Rows2 w v xss) (hy : Rows2 w vy yss) (ht : LibT w) :
    Calls Tryz.prog 10 #[v, vy] w fun e w' => e = .returned (.bool true) ∧ Ext w w' := by
  have HT := Lib.hid ht
  have HK : Hid (∀ W, Ext w W → Calls Tryz.prog 14 #[] W fun e w' => e = .returned (.bool true) ∧ Ext W w') := fun W hW => known_any W (HT.out.pow.ext hW)
  have HFA : Hid (∀ W, Ext w W → Calls Tryz.prog 15 #[v] W fun e w' => e = .returned (.bool (decide (fewP xss))) ∧ Ext W w') := fun W hW => few_any xss v W (h.ext hW)
  have HFB : Hid (∀ W, Ext w W → Calls Tryz.prog 15 #[vy] W fun e w' => e = .returned (.bool (decide (fewP yss))) ∧ Ext W w') := fun W hW => few_any yss vy W (hy.ext hW)
  have HA : Hid (∀ W, Ext w W → Calls Tryz.prog 39 #[v, vy] W fun e w' => ∃ u, e = .returned (.tuple #[u, .int .i64 (prodE xss yss)]) ∧ (prodE xss yss = 0 → Rows2 w' u (mulL xss yss)) ∧ (prodE xss yss ≠ 0 → u = .slice none 0 0) ∧ Ext W w') := fun W hW => tMul_any xss yss v vy W (h.ext hW) (hy.ext hW) (HT.out.ext hW)
  have HCA : Hid (∀ W, Ext w W → Calls Tryz.prog 18 #[v] W fun e w' => e = .returned (.int .i64 (tabE xss)) ∧ Ext W w') := fun W hW => refCheck_any xss v W (h.ext hW)
  have HCB : Hid (∀ W, Ext w W → Calls Tryz.prog 18 #[vy] W fun e w' => e = .returned (.int .i64 (tabE yss)) ∧ Ext W w') := fun W hW => refCheck_any yss vy W (hy.ext hW)
  have HCO : Hid (∀ W, Ext w W → Calls Tryz.prog 19 #[v] W fun e w' => e = .returned (.int .i64 (colsN xss : Int)) ∧ W = w') := fun W hW => refCols_any xss v W (h.ext hW)
  have HM : Hid (tabE xss = 0 → tabE yss = 0 → colsN xss = yss.length → ∀ W, Ext w W → Calls Tryz.prog 40 #[v, vy] W fun e w' => ∃ u, e = .returned (.tuple #[u, .bool ((mulL xss yss).all fun r => r.all fitB)]) ∧ (((mulL xss yss).all fun r => r.all fitB) = true → Rows2 w' u (mulL xss yss)) ∧ Ext W w') := fun a b c W hW => refMul_any xss yss v vy W (h.ext hW) (hy.ext hW) a b c (HT.out.pow.ext hW)
  have HPE : Hid (prodE xss yss = if tabE xss = 0 then (if tabE yss = 0 then (if colsN xss = yss.length then (if (mulL xss yss).all (fun r => r.all fitB) then 0 else 4) else 5) else tabE yss) else tabE xss) := rfl
  obtain ⟨a, c, rfl, -⟩ := inCell.open h
  obtain ⟨ay, cy, rfl, k1, k2, -⟩ := inCell.open hy
  unfold maxLen at k2
  obtain ⟨fa, hfa⟩ : ∃ b, b = decide (fewP xss) := ⟨_, rfl⟩
  obtain ⟨fb, hfb⟩ : ∃ b, b = decide (fewP yss) := ⟨_, rfl⟩
  rw [← hfa] at HFA
  rw [← hfb] at HFB
  obtain ⟨PE, hPE⟩ : ∃ p, p = prodE xss yss := ⟨_, rfl⟩
  rw [← hPE] at HA HPE
  obtain ⟨EX, hEX⟩ : ∃ p, p = tabE xss := ⟨_, rfl⟩
  rw [← hEX] at HCA HPE HM
  obtain ⟨EY, hEY⟩ : ∃ p, p = tabE yss := ⟨_, rfl⟩
  rw [← hEY] at HCB HPE HM
  obtain ⟨n, hn⟩ : ∃ p, p = colsN xss := ⟨_, rfl⟩
  rw [← hn] at HCO HPE HM
  obtain ⟨F, hF⟩ : ∃ p, p = (mulL xss yss).all (fun r => r.all fitB) := ⟨_, rfl⟩
  rw [← hF] at HPE HM
  clear h hy ht hfa hfb hPE hEX hEY hn hF
  cases fa with
  | false =>
    go_enter Tryz.func10, Tryz.ntmps10
    go_wp2_with fail
    refine (HK.out _ (Ext.refl _)).mono ?_
    rintro e w1 ⟨rfl, hE1⟩
    have HE1 := Lib.hid hE1
    clear hE1
    go_wp2_with fail
    refine (HFA.out _ HE1.out).mono ?_
    rintro e w2 ⟨rfl, hE2⟩
    have HE2 := Lib.hid (HE1.out.trans hE2)
    clear hE2
    go_wp2_with fail
    refine (HK.out _ HE2.out).mono ?_
    rintro e w3 ⟨rfl, hE3⟩
    have HE3 := Lib.hid (HE2.out.trans hE3)
    clear hE3
    go_wp2_with fail
    go_ret
    exact ⟨rfl, HE3.out⟩
  | true =>
    cases fb with
    | false =>
      go_enter Tryz.func10, Tryz.ntmps10
      go_wp2_with fail
      refine (HK.out _ (Ext.refl _)).mono ?_
      rintro e w1 ⟨rfl, hE1⟩
      have HE1 := Lib.hid hE1
      clear hE1
      go_wp2_with fail
      refine (HFA.out _ HE1.out).mono ?_
      rintro e w2 ⟨rfl, hE2⟩
      have HE2 := Lib.hid (HE1.out.trans hE2)
      clear hE2
      go_wp2_with fail
      refine (HFB.out _ HE2.out).mono ?_
      rintro e w3 ⟨rfl, hE3⟩
      have HE3 := Lib.hid (HE2.out.trans hE3)
      clear hE3
      go_wp2_with fail
      refine (HK.out _ HE3.out).mono ?_
      rintro e w4 ⟨rfl, hE4⟩
      have HE4 := Lib.hid (HE3.out.trans hE4)
      clear hE4
      go_wp2_with fail
      go_ret
      exact ⟨rfl, HE4.out⟩
    | true =>
      have hcs : (EX ≠ 0 ∧ PE = EX) ∨ (EX = 0 ∧ EY ≠ 0 ∧ PE = EY) ∨ (EX = 0 ∧ EY = 0 ∧ n ≠ yss.length ∧ PE = 5) ∨ (EX = 0 ∧ EY = 0 ∧ n = yss.length ∧ PE = if F then 0 else 4) := by
        rw [HPE.out]
        by_cases h0 : EX = 0
        · rw [if_pos h0]
          by_cases h1 : EY = 0
          · rw [if_pos h1]
            by_cases h2 : n = yss.length
            · rw [if_pos h2]; exact .inr (.inr (.inr ⟨h0, h1, h2, rfl⟩))
            · rw [if_neg h2]; exact .inr (.inr (.inl ⟨h0, h1, h2, rfl⟩))
          · rw [if_neg h1]; exact .inr (.inl ⟨h0, h1, rfl⟩)
        · rw [if_neg h0]; exact .inl ⟨h0, rfl⟩
      clear HPE
      go_enter Tryz.func10, Tryz.ntmps10
      go_wp2_with fail
      refine (HK.out _ (Ext.refl _)).mono ?_
      rintro e w1 ⟨rfl, hE1⟩
      have HE1 := Lib.hid hE1
      clear hE1
      go_wp2_with fail
      refine (HFA.out _ HE1.out).mono ?_
      rintro e w2 ⟨rfl, hE2⟩
      have HE2 := Lib.hid (HE1.out.trans hE2)
      clear hE2
      go_wp2_with fail
      refine (HFB.out _ HE2.out).mono ?_
      rintro e w3 ⟨rfl, hE3⟩
      have HE3 := Lib.hid (HE2.out.trans hE3)
      clear hE3
      go_wp2_with fail
      refine (HA.out _ HE3.out).mono ?_
      rintro e w4 ⟨u, rfl, hu0, hu1, hE4⟩
      have HU0 := Lib.hid hu0; have HU1 := Lib.hid hu1
      have HE4 := Lib.hid (HE3.out.trans hE4)
      clear hE4 hu0 hu1
      go_wp2_with fail
      refine (HCA.out _ HE4.out).mono ?_
      rintro e w5 ⟨rfl, hE5⟩
      have HE45 := Lib.hid hE5
      have HE5 := Lib.hid (HE4.out.trans hE5)
      clear hE5
      rcases hcs with ⟨h0, hp⟩ | ⟨h0, h1, hp⟩ | ⟨h0, h1, h2, hp⟩ | ⟨h0, h1, h2, hp⟩
      · have q1 : (EX == 0) = false := by simpa using h0
        have q2 : (EX != 0) = true := by simpa using h0
        obtain rfl := HU1.out (by rw [hp]; exact h0)
        subst hp
        clear h0
        go_wp2_with fail
        go_ret
        exact ⟨rfl, HE5.out⟩
      · subst h0
        have q1 : (EY == 0) = false := by simpa using h1
        have q2 : (EY != 0) = true := by simpa using h1
        obtain rfl := HU1.out (by rw [hp]; exact h1)
        subst hp
        clear h1
        go_wp2_with fail
        refine (HCB.out _ HE5.out).mono ?_
        rintro e w6 ⟨rfl, hE6⟩
        have HE6 := Lib.hid (HE5.out.trans hE6)
        clear hE6
        go_wp2_with fail
        go_ret
        exact ⟨rfl, HE6.out⟩
      · subst h0 h1
        have q1 : ((n : Int) != (yss.length : Int)) = true := by simp; omega
        obtain rfl := HU1.out (by rw [hp]; decide)
        subst hp
        clear h2
        go_wp2_with fail
        refine (HCB.out _ HE5.out).mono ?_
        rintro e w6 ⟨rfl, hE6⟩
        have HE6 := Lib.hid (HE5.out.trans hE6)
        clear hE6
        go_wp2_with fail
        refine (HCO.out _ HE6.out).mono ?_
        rintro e w7 ⟨rfl, rfl⟩
        go_wp2_with fail
        go_ret
        exact ⟨rfl, HE6.out⟩
      · subst h0 h1
        have q1 : ((n : Int) != (yss.length : Int)) = false := by simp [h2]
        have HMM := Lib.hid (HM.out rfl rfl h2)
        have HP := Lib.hid hp
        clear h2 HM hp
        go_wp2_with fail
        refine (HCB.out _ HE5.out).mono ?_
        rintro e w6 ⟨rfl, hE6⟩
        have HE46 := Lib.hid (HE45.out.trans hE6)
        have HE6 := Lib.hid (HE5.out.trans hE6)
        clear hE6
        go_wp2_with fail
        refine (HCO.out _ HE6.out).mono ?_
        rintro e w7 ⟨rfl, rfl⟩
        cases F with
        | false =>
          obtain rfl : PE = 4 := HP.out
          obtain rfl := HU1.out (by decide)
          go_wp2_with fail
          refine (HMM.out _ HE6.out).mono ?_
          rintro e w8 ⟨u8, rfl, -, hE8⟩
          have HE8 := Lib.hid (HE6.out.trans hE8)
          clear hE8
          go_wp2_with fail
          go_ret
          exact ⟨rfl, HE8.out⟩
        | true =>
          obtain rfl : PE = 0 := HP.out
          have HU := Lib.hid (HU0.out rfl)
          go_wp2_with fail
          refine (HMM.out _ HE6.out).mono ?_
          rintro e w8 ⟨u8, rfl, hu8, hE8⟩
          have HE8 := Lib.hid (HE6.out.trans hE8)
          have HEQ := Lib.hid (refEqual6_any (mulL xss yss) (mulL xss yss) u u8 w8 (HU.out.ext (HE46.out.trans hE8)) (hu8 (by first | rfl | trivial)))
          rw [show ((mulL xss yss) == (mulL xss yss)) = true from beq_self_eq_true _] at HEQ
          clear hE8 hu8
          go_wp2_with fail
          refine HEQ.out.mono ?_
          rintro e w9 ⟨rfl, hE9⟩
          have HE9 := Lib.hid (HE8.out.trans hE9)
          clear hE9
          go_wp2_with fail
          go_ret
          exact ⟨rfl, HE9.out⟩
end Go.Proofs.YtpeinobepiodaaaGreatDoor
