/- Merged: RanksT. -/
import Derived.Test.YtpeinobepiodaaaGreatDoorGY
import Derived.Test.YtpeinobepiodaaaGreatDoorGO
import Derived.Test.YtpeinobepiodaaaGreatDoorGQ
import Derived.Deep.Cut
/- The walk of TableRanks. -/
namespace Go.Proofs.YtpeinobepiodaaaGreatDoor
set_option linter.unusedVariables false
set_option linter.unusedSimpArgs false
open Go.RowKit

theorem makeM_rows {es : List Int} {c r : Nat} (hes : ∀ x ∈ es, -128 ≤ x ∧ x ≤ 127) : ∀ q ∈ makeM es c r, q.length = c ∧ ∀ a ∈ q, -128 ≤ a ∧ a ≤ 127 := by
  intro q hq
  unfold makeM at hq
  obtain ⟨t, -, rfl⟩ := List.mem_map.1 hq
  refine ⟨mkRow_len _ _ _ _, fun a ha => ?_⟩
  unfold mkRow at ha
  obtain ⟨j, -, rfl⟩ := List.mem_map.1 ha
  split
  · rw [List.getD_eq_getElem?_getD]
    cases h : es[t * c + j]? with
    | none => simp
    | some x => exact hes x (List.mem_of_getElem? h)
  · omega
theorem makeM_tab {es : List Int} {c r : Nat} (hes : ∀ x ∈ es, -128 ≤ x ∧ x ≤ 127) (hc : c ≤ 12) (hr : r ≤ 12) : tabE (makeM es c r) = 0 :=
  tabE_of (n := c) (by rw [makeM_len]; exact hr) fun q hq => ⟨(makeM_rows hes q hq).1, hc, fun a ha => by have := (makeM_rows hes q hq).2 a ha; omega⟩
theorem make_rows2 {e : TypeId} {w : World} {ob base : Nat} {v : Value} {tags : List (Nat × Nat)} {es : List Int} {c r : Nat} (hes : ∀ x ∈ es, -128 ≤ x ∧ x ≤ 127) (h : RowsO intK e w ob base v tags (makeM es c r)) : Rows2 w v (makeM es c r) :=
  h.rows2 fun q hq a ha => by have := (makeM_rows hes q hq).2 a ha; omega

set_option maxRecDepth 100000 in
set_option maxHeartbeats 4000000 in
theorem ranks_walk (x0 x1 : Int) (ve : Value) (es : List Int) (w : World) (hx0 : 0 ≤ x0 ∧ x0 ≤ 255) (hx1 : 0 ≤ x1 ∧ x1 ≤ 255) (h : I8s w ve es) (ht : Pow10 w) :
    Calls Tryz.prog 8 #[.agg #[.int .u8 x0, .int .u8 x1, ve]] w fun e w' => e = .returned (.bool true) ∧ Ext w w' := by
  have HT := Lib.hid ht
  have HH := Lib.hid h
  obtain ⟨av, cv, hve, e1, e2, e3, hes, -⟩ := I8s.open h
  have HES := Lib.hid hes
  obtain ⟨r, hr⟩ : ∃ r : Nat, (r : Int) = x0.tmod 5 := ⟨(x0.tmod 5).toNat, by rw [Int.toNat_of_nonneg (Int.tmod_nonneg _ hx0.1)]⟩
  obtain ⟨c, hc⟩ : ∃ c : Nat, (c : Int) = x1.tmod 5 := ⟨(x1.tmod 5).toNat, by rw [Int.toNat_of_nonneg (Int.tmod_nonneg _ hx1.1)]⟩
  have hr5 : r < 5 := by have := (tmod_bd x0 5 (by omega)).2; omega
  have hc5 : c < 5 := by have := (tmod_bd x1 5 (by omega)).2; omega
  have w1 : IntKind.u8.wrap (x0.tmod 5) = (r : Int) := by rw [← hr, IntKind.wrap_u8]; omega
  have w2 : IntKind.u8.wrap (x1.tmod 5) = (c : Int) := by rw [← hc, IntKind.wrap_u8]; omega
  have v1 := hr.symm; have v2 := hc.symm
  have HK : Hid (∀ W, Ext w W → Calls Tryz.prog 14 #[] W fun e w' => e = .returned (.bool true) ∧ Ext W w') := fun W hW => known_any W (HT.out.ext hW)
  have HMK : Hid (∀ W, Ext w W → Calls Tryz.prog 26 #[.agg #[.int .u8 x0, .int .u8 x1, ve], .int .i64 (r : Int), .int .i64 (c : Int)] W fun e w' => ∃ v, e = .returned v ∧ Rows2 w' v (makeM es c r) ∧ Ext W w') := fun W hW =>
    (make6_any x0 x1 ve es r c (by omega) (by omega) W (h.ext hW)).mono fun _ _ ⟨v, tags, g1, g2, g3⟩ => ⟨v, g1, make_rows2 hes g2, g3⟩
  obtain ⟨W1, hW1⟩ : ∃ W1, W1 = w.alloc (.cells #[.int .u8 x0, .int .u8 x1, ve] 49) := ⟨_, rfl⟩
  have HW1 : Hid (Ext w W1) := by unfold Hid; rw [hW1]; exact Ext.alloc _ _
  have HB1 : Hid (W1.heap[w.heap.size]? = some (.cells #[.int .u8 x0, .int .u8 x1, ve] 49 (0, 0))) := by unfold Hid; rw [hW1]; exact block_new _ _ _
  have hW1' := hW1.symm
  clear hr hc ht h hes hve e1 e2 e3 hW1
  go_enter Tryz.func8, Tryz.ntmps8
  go_wp2_with fail
  refine (HK.out _ HW1.out).mono ?_
  rintro e wk ⟨rfl, hEk⟩
  have HEk := Lib.hid (HW1.out.trans hEk)
  have HBk : Hid (wk.heap[w.heap.size]? = some (.cells #[.int .u8 x0, .int .u8 x1, ve] 49 (0, 0))) := (hEk.block _ ((Array.getElem?_eq_some_iff.1 HB1.out).1)).trans HB1.out
  have c0 := block_cell HBk.out 0
  have c1 := block_cell HBk.out 1
  simp only [List.getElem?_toArray, List.getElem?_cons_zero, List.getElem?_cons_succ] at c0 c1
  clear hEk hW1'
  go_wp2_with (refine wpList_load_row rfl 49 _ rfl w.heap.size rfl _ #[.int .u8 x0, .int .u8 x1, ve] (0, 0) _ HBk.out Tryz.underlying49 rfl (by kernel_rfl) ?_)
  go_wp2_with fail
  refine (HMK.out _ HEk.out).mono ?_
  rintro e w2 ⟨v, rfl, hM, hE2⟩
  have HE2 := Lib.hid (HEk.out.trans hE2)
  obtain ⟨ma, mc, rfl, hm1, hm2, -, hmc⟩ := inCell.open hM
  have HMC := Lib.hid hmc
  have HM0 := Lib.hid hM
  rw [makeM_len] at hm1 HM0 ⊢
  have HTAB : Hid (tabE (makeM es c r) = 0) := makeM_tab HES.out (by omega) (by omega)
  unfold maxLen at hm2
  clear hE2 hmc hM c0 c1
  obtain ⟨bb, hbb⟩ : ∃ b, b = decide (0 < r ∧ c = 0) := ⟨_, rfl⟩
  have HBB := Lib.hid hbb
  clear hbb
  go_upto_region 4 with fail
  go_cut [36] from 27 to 35 (fun s wx => s = .bool bb ∧ wx = w2)
  case first =>
    by_cases hr0 : r = 0
    · have q1 : ¬ (0 : Int) < (r : Int) := by omega
      have HB0 : Hid (bb = false) := by unfold Hid; rw [HBB.out, decide_eq_false (by omega)]
      clear hr0
      go_wp2_with fail
      go_meet
      exact ⟨by rw [HB0.out], rfl⟩
    · have q1 : (0 : Int) < (r : Int) := by omega
      have q2 : 0 < r := by omega
      obtain ⟨b, off, rfl, hb, hcell⟩ := HMC.out (by intro e; have := makeM_len es c r; rw [e] at this; simp at this; omega)
      obtain ⟨q, hq⟩ : ∃ q, (makeM es c r)[0]? = some q := ⟨_, List.getElem?_eq_getElem (by rw [makeM_len]; exact q2)⟩
      obtain ⟨vq, hvq, hcq⟩ := hcell 0 q hq
      obtain ⟨aq, cq, rfl, -⟩ := hvq.open
      have hql := (makeM_rows HES.out q (List.mem_of_getElem? hq)).1
      rw [hql, Nat.add_zero] at hcq
      clear hcell hq hvq hql
      by_cases hc0 : c = 0
      · have HB0 : Hid (bb = true) := by unfold Hid; rw [HBB.out, decide_eq_true ⟨q2, hc0⟩]
        subst hc0
        go_wp2_with fail
        go_meet
        exact ⟨by rw [HB0.out], rfl⟩
      · have q3 : ((c : Int) == 0) = false := by rw [beq_eq_false_iff_ne]; omega
        have HB0 : Hid (bb = false) := by unfold Hid; rw [HBB.out, decide_eq_false (by omega)]
        go_wp2_with fail
        go_meet
        exact ⟨by rw [HB0.out], rfl⟩
  case rest =>
    obtain ⟨rfl, rfl⟩ := hcut
    obtain ⟨w2, rfl⟩ : ∃ w2 : World, w2 = wc := ⟨_, rfl⟩
    go_upto_if 36 with fail
    go_cut [3] from 37 to 37 (fun s wx => ∃ (MM : List (List Int)) (a : Option Addr) (lm cp : Nat), s = .slice a lm cp ∧ wx = w2 ∧ lm ≤ cp ∧ cp ≤ 2 ^ 63 - 1 ∧ lm < 5 ∧ Hid (Rows2 w2 (.slice a lm cp) MM) ∧ Hid (MM.length = lm) ∧ Hid (tabE MM = 0) ∧ Hid (∀ q ∈ MM, 0 < q.length) ∧ Hid (colsN MM < 5))
    case first =>
      cases bb with
      | true =>
        go_wp2_with fail
        go_meet
        exact ⟨[], none, 0, 0, rfl, rfl, by omega, by omega, by omega, ⟨[], rfl, by simp, ⟨none, 0, rfl, Nat.le_refl _, by unfold maxLen; omega, fun _ => rfl, fun h => absurd rfl h⟩, by simp⟩, rfl, rfl, fun q hq => by simp at hq, by show 0 < 5; omega⟩
      | false =>
        have hb := HBB.out
        have hrc : r = 0 ∨ 0 < c := by have := of_decide_eq_false hb.symm; omega
        have HF : Hid ((∀ q ∈ makeM es c r, 0 < q.length) ∧ colsN (makeM es c r) < 5) := by
          refine ⟨fun q hq => ?_, ?_⟩
          · have h1 := List.length_pos_of_mem hq
            rw [makeM_len] at h1
            rw [(makeM_rows HES.out q hq).1]; omega
          · by_cases h0 : makeM es c r = []
            · rw [h0]; show 0 < 5; omega
            · rw [colsN_of (fun q hq => (makeM_rows HES.out q hq).1) h0]; exact hc5
        clear hb hrc
        go_wp2_with fail
        go_meet
        exact ⟨makeM es c r, _, r, mc, rfl, rfl, hm1, hm2, hr5, HM0.out, makeM_len es c r, HTAB.out, HF.out.1, HF.out.2⟩
    case rest =>
      obtain ⟨MM, a0, lm, cp, rfl, rfl, hp1, hp2, hlm5, HVM, HLEN, HE0, HPOS, HCOL⟩ := hcut
      obtain ⟨w2, rfl⟩ : ∃ w2 : World, w2 = wc := ⟨_, rfl⟩
      have HRT : Hid (rankI (transL MM) = rankI MM ∧ tabE (transL MM) = 0 ∧ (∀ q ∈ transL MM, 0 < q.length)) := by
        by_cases h0 : 0 < colsN MM
        · refine ⟨rank_trans HE0.out h0, trans_tab HE0.out, fun q hq => ?_⟩
          obtain ⟨cc, hcc, rfl⟩ := transL_mem hq
          rw [colL_len]
          cases MM with
          | nil => exact absurd h0 (by show ¬ 0 < 0; omega)
          | cons r l => simp
        · have e : transL MM = [] := List.length_eq_zero_iff.1 (by rw [transL_len]; omega)
          have e2 : rankI MM = 0 := rankI_cols (by omega)
          rw [e, e2]
          exact ⟨rfl, rfl, fun q hq => by simp at hq⟩
      have HTR : Hid (∀ W, Ext w2 W → Calls Tryz.prog 34 #[.slice a0 lm cp] W fun e w' => ∃ u, e = .returned (.tuple #[u, .int .i64 0]) ∧ Rows2 w' u (transL MM) ∧ Ext W w') := fun W hW => (tTrans_any MM _ W (HVM.out.ext hW) HE0.out).mono fun _ _ ⟨u, g1, g2, g3⟩ => ⟨u, g1, g2.list, g3⟩
      have HR1 : Hid (∀ W, Ext w2 W → Calls Tryz.prog 35 #[.slice a0 lm cp] W fun e w' => e = .returned (.tuple #[.int .i64 (rankI MM : Int), .int .i64 0]) ∧ Ext W w') := fun W hW => rank_any MM _ W (HVM.out.ext hW) HE0.out HPOS.out (HT.out.ext (HE2.out.trans hW))
      have HMR : Hid (∀ k, k ≤ lm → k ≤ colsN MM → (minorsS MM k).any (fun z => decide (z ≠ 0)) = decide (k ≤ rankI MM)) := fun k h1 h2 => minors_any_rank HE0.out (by rw [HLEN.out]; exact h1) h2
      have HMS : Hid (∀ k W, k ≤ lm → k ≤ colsN MM → Ext w2 W → Calls Tryz.prog 23 #[.slice a0 lm cp, .int .i64 (k : Int)] W fun e w' => ∃ r, e = .returned (.tuple #[r, .int .i64 0]) ∧ ListAt 1 numC w' r (minorsS MM k) ∧ Ext W w') := fun k W h1 h2 hW => minors_any MM k _ W (HVM.out.ext hW) HE0.out (by rw [HLEN.out]; exact h1) h2 (choose_small _ (by rw [HLEN.out]; exact hlm5) _ HCOL.out k (by have := HLEN.out; omega) (by rw [HLEN.out]; exact h1) h2) (minors_small HE0.out (by rw [HLEN.out]; exact h1) h2) (HT.out.ext (HE2.out.trans hW))
      obtain ⟨cm, hcm⟩ : ∃ n, n = colsN MM := ⟨_, rfl⟩
      obtain ⟨rk, hrk⟩ : ∃ n, n = rankI MM := ⟨_, rfl⟩
      have HRK := Lib.hid hrk
      have HCM := Lib.hid hcm
      rw [← hcm] at HMR HMS HCOL
      rw [← hrk] at HMR HR1
      have hcm5 : cm < 5 := HCOL.out
      clear hcm hrk
      go_wp2_with fail
      refine (HTR.out _ (Ext.refl _)).mono ?_
      rintro e w3 ⟨ut, rfl, hut, hE3⟩
      have HUT := Lib.hid hut
      have HE3 := Lib.hid hE3
      obtain ⟨at', ct', hut', ht1, ht2, -, -⟩ := inCell.open hut
      rw [transL_len, ← HCM.out] at hut' ht1
      subst hut'
      unfold maxLen at ht2
      clear hut hE3
      go_wp2_with fail
      refine (HR1.out _ HE3.out).mono ?_
      rintro e w4 ⟨rfl, hE4⟩
      have HE34 := Lib.hid hE4
      have HE4 := Lib.hid (HE3.out.trans hE4)
      clear hE4
      have HR2 : Hid (Calls Tryz.prog 35 #[.slice at' cm ct'] w4 fun e w' => e = .returned (.tuple #[.int .i64 (rk : Int), .int .i64 0]) ∧ Ext w4 w') := by
        have := rank_any (transL MM) _ w4 (HUT.out.ext HE34.out) HRT.out.2.1 HRT.out.2.2 (HT.out.ext (HE2.out.trans HE4.out))
        rw [HRT.out.1, ← HRK.out] at this
        exact this
      go_wp2_with fail
      refine HR2.out.mono ?_
      rintro e w5 ⟨rfl, hE5⟩
      have HE5 := Lib.hid (HE4.out.trans hE5)
      have qq : ((rk : Int) != (rk : Int)) = false := by simp
      clear hE5
      go_wp2_with fail
      go_loopw [10] (fun t wr => ∃ k : Nat, k ≤ 5 ∧ t = .int .i64 k ∧ Hid (Ext w5 wr)) (fun t _ => 5 - (intOf t).toNat)
      case atStart => exact ⟨0, by omega, rfl, by first | exact Ext.refl _ | exact Ext.drew _⟩
      case round =>
        obtain ⟨k, hk5, rfl, HEK⟩ := hrel
        obtain ⟨wo, rfl⟩ : ∃ wo : World, wo = wr := ⟨_, rfl⟩
        have HXO := Lib.hid (HE5.out.trans HEK.out)
        by_cases hkm : k ≤ lm ∧ k ≤ cm
        · obtain ⟨hk1, hk2⟩ := hkm
          have z1 : (k : Int) ≤ min (lm : Int) (cm : Int) := by omega
          have HMN := Lib.hid (HMS.out k wo hk1 hk2 HXO.out)
          have HAN := Lib.hid (HMR.out k hk1 hk2)
          obtain ⟨L, hL⟩ : ∃ L, L = minorsS MM k := ⟨_, rfl⟩
          rw [← hL] at HMN HAN
          clear hL
          go_wp2_with fail
          refine HMN.out.mono ?_
          rintro e w6 ⟨l, rfl, hl, hE6⟩
          have HE6 := Lib.hid (HEK.out.trans hE6)
          obtain ⟨la, lc, rfl, hl1, hl2, -, hl3⟩ := ListAt.open hl
          have HL3 := Lib.hid hl3
          unfold maxLen at hl2
          clear hl hl3 hE6 HMN
          go_wp2_with fail
          go_loopw [14, 13] (fun t s wr => ∃ (i : Nat) (sb : Bool), i ≤ L.length ∧ t = .int .i64 i ∧ s = .bool sb ∧ Hid (sb = (L.take i).any (fun z => decide (z ≠ 0))) ∧ Hid (Ext w6 wr)) (fun t _ _ => L.length - (intOf t).toNat)
          case atStart => exact ⟨0, false, by omega, rfl, rfl, rfl, by first | exact Ext.refl _ | exact Ext.drew _⟩
          case round =>
            obtain ⟨i, sb, hi, rfl, rfl, HSB, HEI⟩ := hrel
            obtain ⟨wi, rfl⟩ : ∃ wi : World, wi = wr := ⟨_, rfl⟩
            by_cases hlt : i < L.length
            · obtain ⟨x, hx⟩ : ∃ x, L[i]? = some x := ⟨L[i], List.getElem?_eq_getElem hlt⟩
              obtain ⟨lb, lo, rfl, hlb, hlc⟩ := HL3.out (by omega) (by intro e; rw [e] at hlt; simp at hlt)
              obtain ⟨us, _, hus, hcell⟩ := hlc i x hx
              have g0 := hcell 0 (by omega)
              rw [show us = [.string (intB x)] from hus] at g0
              have g1 := HEI.out.cell g0
              simp only [Nat.mul_one, Nat.add_zero, List.getElem?_cons_zero] at g1
              have HSN : Hid ((L.take (i + 1)).any (fun z => decide (z ≠ 0)) = (sb || decide (x ≠ 0))) := by
                unfold Hid; rw [List.take_add_one, hx, List.any_append, ← HSB.out]; simp
              have h3 := int_zero x
              obtain ⟨s, hs⟩ : ∃ s, s = intB x := ⟨_, rfl⟩
              rw [← hs] at g1 h3
              clear hcell hlc hus g0 hx hs
              cases sb with
              | true =>
                go_wp2_with fail
                go_roundw
                case rel => exact ⟨i + 1, true, by omega, by go_num, rfl, by unfold Hid; rw [HSN.out]; rfl, HEI.out⟩
                case measure => simp [intOf]; omega
              | false =>
                by_cases hx0 : x = 0
                · rw [decide_eq_true hx0] at h3
                  have h4 : (s.toList != [48]) = false := by simp only [bne, h3]; rfl
                  rw [Bool.false_or, decide_eq_false (by simp [hx0])] at HSN
                  clear hx0
                  go_wp2_with fail
                  go_roundw
                  case rel => exact ⟨i + 1, false, by omega, by go_num, rfl, by unfold Hid; rw [HSN.out], HEI.out⟩
                  case measure => simp [intOf]; omega
                · rw [decide_eq_false hx0] at h3
                  have h4 : (s.toList != [48]) = true := by simp only [bne, h3]; rfl
                  rw [Bool.false_or, decide_eq_true hx0] at HSN
                  clear hx0
                  go_wp2_with fail
                  go_roundw
                  case rel => exact ⟨i + 1, true, by omega, by go_num, rfl, by unfold Hid; rw [HSN.out], HEI.out⟩
                  case measure => simp [intOf]; omega
            · obtain rfl : i = L.length := by omega
              rw [List.take_length] at HSB
              have hsb := HSB.out.trans HAN.out
              have HX := Lib.hid (HE6.out.trans HEI.out)
              clear hlt
              by_cases hkr : k ≤ rk
              · rw [decide_eq_true hkr] at hsb
                subst hsb
                have z2 : (k : Int) ≤ (rk : Int) := by omega
                clear hkr
                go_wp2_with fail
                go_roundw
                case rel => exact ⟨k + 1, by omega, by go_num, HX.out⟩
                case measure => simp [intOf]; omega
              · rw [decide_eq_false hkr] at hsb
                subst hsb
                have z2 : ¬ (k : Int) ≤ (rk : Int) := by omega
                clear hkr
                go_wp2_with fail
                go_roundw
                case rel => exact ⟨k + 1, by omega, by go_num, HX.out⟩
                case measure => simp [intOf]; omega
        · have z1 : ¬ (k : Int) ≤ min (lm : Int) (cm : Int) := by omega
          go_wp2_with fail
          go_ret
          exact ⟨rfl, HE2.out.trans HXO.out⟩
end Go.Proofs.YtpeinobepiodaaaGreatDoor
