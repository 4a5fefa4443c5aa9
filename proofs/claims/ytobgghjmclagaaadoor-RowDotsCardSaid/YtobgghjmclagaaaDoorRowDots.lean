/- The walk of RowDots. Printed by wip/gen/dots.py. -/
import Derived.Test.YtobgghjmclagaaaDoorRowG
import Derived.Test.YtobgghjmclagaaaDoorRefDot
import Derived.Test.YtobgghjmclagaaaDoorKnownR
namespace Go.Proofs.YtobgghjmclagaaaDoor
set_option linter.unusedVariables false
set_option linter.unusedSimpArgs false
open Go.RowKit

set_option maxRecDepth 100000 in
set_option maxHeartbeats 8000000 in
theorem dots_walk (xs ys : List Int) (u v : Value) (w : World) (h : Ints w u xs) (k : Ints w v ys) (ht : Pow10 w) :
    Calls Tryd.prog 7 #[u, v] w fun e w' => e = .returned (.bool true) ∧ Ext w w' := by
  have HX := Lib.hid h; have HY := Lib.hid k; have HT := Lib.hid ht
  obtain ⟨a, c, rfl, -, hc2, -, -, hxc⟩ := h.open
  obtain ⟨a', c', rfl, -, -, -, -, -⟩ := k.open
  have HC := Lib.hid hxc
  clear h k ht hxc
  by_cases hl : 80 < xs.length ∨ 80 < ys.length
  · have hcase : (80 : Int) < (xs.length : Int) ∨ (¬ (80 : Int) < (xs.length : Int) ∧ (80 : Int) < (ys.length : Int)) := by omega
    clear hl
    rcases hcase with q1 | ⟨q1, q2⟩
    all_goals
      go_enter Tryd.func7, Tryd.ntmps7
      go_wp2_with fail
      refine (known_any _ HT.out).mono ?_
      rintro e w1 ⟨rfl, hE1⟩
      have HE1 := Lib.hid hE1
      have HT1 := Lib.hid (HT.out.ext hE1)
      clear hE1
      go_wp2_with fail
      refine (known_any _ HT1.out).mono ?_
      rintro e w2 ⟨rfl, hE2⟩
      have HE2 := Lib.hid (Ext.trans HE1.out hE2)
      clear hE2
      go_wp2_with fail
      go_ret
      exact ⟨rfl, HE2.out⟩
  · have q1 : ¬ (80 : Int) < (xs.length : Int) := by omega
    have q2 : ¬ (80 : Int) < (ys.length : Int) := by omega
    clear hl
    obtain ⟨dv, hdv⟩ : ∃ dv, dotV xs ys = dv := ⟨_, rfl⟩
    obtain ⟨de, hde⟩ : ∃ de, dotE xs ys = de := ⟨_, rfl⟩
    obtain ⟨sv, hsv⟩ : ∃ sv, sumV xs = sv := ⟨_, rfl⟩
    obtain ⟨se, hse⟩ : ∃ se, sumE xs = se := ⟨_, rfl⟩
    obtain ⟨mv, hmv⟩ : ∃ mv, maxV xs = mv := ⟨_, rfl⟩
    have HDV := Lib.hid hdv; have HDE := Lib.hid hde; have HSV := Lib.hid hsv; have HSE := Lib.hid hse; have HMV := Lib.hid hmv
    have A1 := Lib.hid (fun W' he => dot_any xs ys _ _ W' (HX.out.ext (w' := W') he) (HY.out.ext he))
    have A2 := Lib.hid (fun W' he => sum_any xs _ W' (HX.out.ext (w' := W') he))
    have A3 := Lib.hid (fun W' he => max_any xs _ W' (HX.out.ext (w' := W') he))
    have A4 := Lib.hid (fun W' he => refCheck_any xs _ W' (HX.out.ext (w' := W') he))
    have A5 := Lib.hid (fun W' he => refCheck_any ys _ W' (HY.out.ext (w' := W') he))
    rw [hdv, hde] at A1
    rw [hsv, hse] at A2
    rw [hmv] at A3
    clear hdv hde hsv hse hmv
    by_cases he : rowE xs = 0
    · have HOK := Lib.hid ((rowE_zero xs).1 he)
      have h64 := HOK.out.1
      have HRX := Lib.hid he
      rw [he] at A3 A4
      have HMA : Hid (maxA xs = mv) := by
        have := HMV.out
        unfold maxV at this; rw [if_pos HRX.out] at this; exact this
      clear he HMV
      go_enter Tryd.func7, Tryd.ntmps7
      go_wp2_with fail
      refine (known_any _ HT.out).mono ?_
      rintro e w1 ⟨rfl, hE1⟩
      have HE1 := Lib.hid hE1
      have B1 := Lib.hid (A1.out w1 hE1)
      clear hE1
      go_wp2_with fail
      refine B1.out.mono ?_
      rintro e w2 ⟨rfl, hE2⟩
      have HE2 := Lib.hid (Ext.trans HE1.out hE2)
      have B2 := Lib.hid (A2.out w2 HE2.out)
      clear hE2 B1
      go_wp2_with fail
      refine B2.out.mono ?_
      rintro e w3 ⟨rfl, hE3⟩
      have HE3 := Lib.hid (Ext.trans HE2.out hE3)
      have B3 := Lib.hid (A3.out w3 HE3.out)
      clear hE3 B2
      go_wp2_with fail
      refine B3.out.mono ?_
      rintro e w4 ⟨rfl, hE4⟩
      have HE4 := Lib.hid (Ext.trans HE3.out hE4)
      have B4 := Lib.hid (A4.out w4 HE4.out)
      clear hE4 B3
      go_wp2_with fail
      refine B4.out.mono ?_
      rintro e w' ⟨rfl, rfl⟩
      clear B4
      go_wp2_with fail
      go_loopw [12, 13, 14] (fun s m t wr => ∃ j : Nat, j ≤ xs.length ∧ t = .int .i64 j ∧ s = .int .i64 (sumA (xs.take j)) ∧ m = .int .i64 (maxA (xs.take j)) ∧ Ext w wr) (fun _ _ t _ => xs.length - (intOf t).toNat)
      case atStart => exact ⟨0, by omega, rfl, rfl, rfl, HE4.out⟩
      case round =>
        obtain ⟨j, hj, rfl, rfl, rfl, hE⟩ := hrel
        by_cases hlt : j < xs.length
        · obtain ⟨b, off, rfl, hb, hcell⟩ := HC.out (by intro e; simp [e] at hlt)
          obtain ⟨x, hx⟩ : ∃ x, xs[j]? = some x := ⟨xs[j], List.getElem?_eq_getElem hlt⟩
          have g1 := hE.cell (hcell j x hx)
          obtain ⟨hx1, hx2⟩ := HOK.out.2 x (List.mem_of_getElem? hx)
          have hbd := sumA_bd 1000000000 (by omega) (xs.take j) (fun y hy => HOK.out.2 y (List.mem_of_mem_take hy))
          rw [List.length_take] at hbd
          have HN : Hid (sumA (xs.take (j + 1)) = sumA (xs.take j) + (x.natAbs : Int)) := by unfold Hid; rw [take_snoc hx]; exact sumA_snoc _ _
          have HM : Hid (maxA (xs.take (j + 1)) = max (maxA (xs.take j)) (x.natAbs : Int)) := by unfold Hid; rw [take_snoc hx]; exact maxA_snoc _ _
          obtain ⟨g0, hg0⟩ : ∃ g0, sumA (xs.take j) = g0 := ⟨_, rfl⟩
          obtain ⟨m0, hm0⟩ : ∃ m0, maxA (xs.take j) = m0 := ⟨_, rfl⟩
          rw [hg0] at hbd HN ⊢
          rw [hm0] at HM ⊢
          obtain ⟨x0, hx0, hxl1, hxl2⟩ : ∃ x0 : Int, (x.natAbs : Int) = x0 ∧ 0 ≤ x0 ∧ x0 ≤ 1000000000 := ⟨_, rfl, by omega, by omega⟩
          rw [hx0] at HN HM
          have HA := Lib.hid (fun W => refAbs_any x W (by omega) (by omega))
          rw [hx0] at HA
          have q3 : IntKind.i64.wrap (g0 + x0) = g0 + x0 := by rw [IntKind.wrap_i64]; omega
          clear hcell hx hg0 hx0 hbd hm0 A1 A2 A3 A4 A5
          go_wp2_with (go_at_call 39; refine (HA.out _).mono ?_; rintro e w' ⟨rfl, rfl⟩)
          all_goals
            go_roundw
            case rel => exact ⟨j + 1, by omega, by go_num, by rw [HN.out], by first | (rw [HM.out]; done) | (rw [HM.out]; congr 1; omega), hE⟩
            case measure => simp [intOf]; omega
        · obtain rfl : j = xs.length := by omega
          have HTK : Hid (xs.take xs.length = xs) := List.take_of_length_le (Nat.le_refl _)
          rw [HTK.out, HMA.out]
          obtain ⟨tot, htot⟩ : ∃ tot, sumA xs = tot := ⟨_, rfl⟩
          have hnn := (sumA_bd 1000000000 (by omega) xs HOK.out.2).1
          rw [htot] at hnn ⊢
          have HSV2 : Hid (sv = if fitB tot then tot else 0) := by
            have := HSV.out
            unfold sumV at this; rw [if_pos HRX.out, htot] at this; exact this.symm
          have HSE2 : Hid (se = if fitB tot then 0 else 4) := by
            have := HSE.out
            unfold sumE at this; rw [if_pos HRX.out, htot] at this; exact this.symm
          have hw : (rowE ys = 4 ∧ bothE xs ys = 4) ∨ (rowE ys = 0 ∧ ((xs.length : Int) != (ys.length : Int)) = true ∧ bothE xs ys = 5) ∨ (rowE ys = 0 ∧ ((xs.length : Int) != (ys.length : Int)) = false ∧ bothE xs ys = 0) := by
            have hx0 := HRX.out
            rcases rowE_four ys with h0 | h4
            · by_cases hln : xs.length = ys.length
              · exact .inr (.inr ⟨h0, by simp [hln], by simp [bothE, hx0, h0, hln]⟩)
              · exact .inr (.inl ⟨h0, by simp; omega, by simp [bothE, hx0, h0, hln]⟩)
            · exact .inl ⟨h4, by simp [bothE, hx0, h4]⟩
          have B5 := Lib.hid (A5.out wr hE)
          clear htot HSV HSE A1 A2 A3 A4 A5
          cases hf : fitB tot with
          | true =>
            rcases hw with ⟨hy0, hb⟩ | ⟨hy0, hln, hb⟩ | ⟨hy0, hln, hb⟩
            · obtain rfl : sv = tot := by rw [HSV2.out, hf]; rfl
              obtain rfl : se = 0 := by rw [HSE2.out, hf]; rfl
              have t1 : ¬ (1000000000 : Int) < sv := by have := (fitB_iff sv).1 hf; omega
              clear hf HSV2 HSE2 hnn
              have HB0 := Lib.hid hb
              obtain rfl : dv = 0 := by have := HDV.out; unfold dotV at this; rw [if_neg (by rw [HB0.out]; decide)] at this; exact this.symm
              obtain rfl : de = 4 := by have := HDE.out; unfold dotE at this; rw [if_neg (by rw [HB0.out]; decide), HB0.out] at this; exact this.symm
              rw [hy0] at B5
              clear hy0 hb HDV HDE
              go_wp2_with fail
              refine B5.out.mono ?_
              rintro e w' ⟨rfl, rfl⟩
              clear B5
              go_wp2_with fail
              go_ret
              exact ⟨rfl, hE⟩
            · obtain rfl : sv = tot := by rw [HSV2.out, hf]; rfl
              obtain rfl : se = 0 := by rw [HSE2.out, hf]; rfl
              have t1 : ¬ (1000000000 : Int) < sv := by have := (fitB_iff sv).1 hf; omega
              clear hf HSV2 HSE2 hnn
              have HB0 := Lib.hid hb
              obtain rfl : dv = 0 := by have := HDV.out; unfold dotV at this; rw [if_neg (by rw [HB0.out]; decide)] at this; exact this.symm
              obtain rfl : de = 5 := by have := HDE.out; unfold dotE at this; rw [if_neg (by rw [HB0.out]; decide), HB0.out] at this; exact this.symm
              rw [hy0] at B5
              clear hy0 hb HDV HDE
              go_wp2_with fail
              refine B5.out.mono ?_
              rintro e w' ⟨rfl, rfl⟩
              clear B5
              go_wp2_with fail
              go_ret
              exact ⟨rfl, hE⟩
            · obtain rfl : sv = tot := by rw [HSV2.out, hf]; rfl
              obtain rfl : se = 0 := by rw [HSE2.out, hf]; rfl
              have t1 : ¬ (1000000000 : Int) < sv := by have := (fitB_iff sv).1 hf; omega
              clear hf HSV2 HSE2 hnn
              have HB0 := Lib.hid hb
              obtain ⟨bx, byy, bl⟩ := bothE_zero hb
              have B6 := Lib.hid (refDot_any xs ys _ _ wr (HX.out.ext hE) (HY.out.ext hE) bx byy bl)
              have HDV2 : Hid (dv = if fitB (dotS xs ys) then dotS xs ys else 0) := by have := HDV.out; unfold dotV at this; rw [if_pos HB0.out] at this; exact this.symm
              have HDE2 : Hid (de = if fitB (dotS xs ys) then 0 else 4) := by have := HDE.out; unfold dotE at this; rw [if_pos HB0.out] at this; exact this.symm
              rw [hy0] at B5
              obtain ⟨ds, hds⟩ : ∃ ds, dotS xs ys = ds := ⟨_, rfl⟩
              rw [hds] at B6 HDV2 HDE2
              clear hy0 hb HDV HDE bx byy bl hds
              cases hfd : fitB ds with
              | true =>
                obtain rfl : dv = ds := by rw [HDV2.out, hfd]; rfl
                obtain rfl : de = 0 := by rw [HDE2.out, hfd]; rfl
                rw [hfd] at B6
                clear hfd HDV2 HDE2
                go_wp2_with fail
                refine B5.out.mono ?_
                rintro e w' ⟨rfl, rfl⟩
                clear B5
                go_wp2_with fail
                refine B6.out.mono ?_
                rintro e w9 ⟨x, rfl, hx, hE9⟩
                have HE9 := Lib.hid (Ext.trans hE hE9)
                obtain rfl := hx (by first | exact True.intro | rfl)
                clear B6 hE9
                go_wp2_with fail
                go_ret
                exact ⟨rfl, HE9.out⟩
              | false =>
                obtain rfl : dv = 0 := by rw [HDV2.out, hfd]; rfl
                obtain rfl : de = 4 := by rw [HDE2.out, hfd]; rfl
                rw [hfd] at B6
                clear hfd HDV2 HDE2
                go_wp2_with fail
                refine B5.out.mono ?_
                rintro e w' ⟨rfl, rfl⟩
                clear B5
                go_wp2_with fail
                refine B6.out.mono ?_
                rintro e w9 ⟨x, rfl, hx, hE9⟩
                have HE9 := Lib.hid (Ext.trans hE hE9)
                clear hx
                clear B6 hE9
                go_wp2_with fail
                go_ret
                exact ⟨rfl, HE9.out⟩
          | false =>
            rcases hw with ⟨hy0, hb⟩ | ⟨hy0, hln, hb⟩ | ⟨hy0, hln, hb⟩
            · obtain rfl : sv = 0 := by rw [HSV2.out, hf]; rfl
              obtain rfl : se = 4 := by rw [HSE2.out, hf]; rfl
              have t1 : (1000000000 : Int) < tot := by
                rcases Int.lt_or_le 1000000000 tot with g | g
                · exact g
                · have := (fitB_iff tot).2 ⟨by omega, g⟩; rw [hf] at this; cases this
              clear hf HSV2 HSE2 hnn
              have HB0 := Lib.hid hb
              obtain rfl : dv = 0 := by have := HDV.out; unfold dotV at this; rw [if_neg (by rw [HB0.out]; decide)] at this; exact this.symm
              obtain rfl : de = 4 := by have := HDE.out; unfold dotE at this; rw [if_neg (by rw [HB0.out]; decide), HB0.out] at this; exact this.symm
              rw [hy0] at B5
              clear hy0 hb HDV HDE
              go_wp2_with fail
              refine B5.out.mono ?_
              rintro e w' ⟨rfl, rfl⟩
              clear B5
              go_wp2_with fail
              go_ret
              exact ⟨rfl, hE⟩
            · obtain rfl : sv = 0 := by rw [HSV2.out, hf]; rfl
              obtain rfl : se = 4 := by rw [HSE2.out, hf]; rfl
              have t1 : (1000000000 : Int) < tot := by
                rcases Int.lt_or_le 1000000000 tot with g | g
                · exact g
                · have := (fitB_iff tot).2 ⟨by omega, g⟩; rw [hf] at this; cases this
              clear hf HSV2 HSE2 hnn
              have HB0 := Lib.hid hb
              obtain rfl : dv = 0 := by have := HDV.out; unfold dotV at this; rw [if_neg (by rw [HB0.out]; decide)] at this; exact this.symm
              obtain rfl : de = 5 := by have := HDE.out; unfold dotE at this; rw [if_neg (by rw [HB0.out]; decide), HB0.out] at this; exact this.symm
              rw [hy0] at B5
              clear hy0 hb HDV HDE
              go_wp2_with fail
              refine B5.out.mono ?_
              rintro e w' ⟨rfl, rfl⟩
              clear B5
              go_wp2_with fail
              go_ret
              exact ⟨rfl, hE⟩
            · obtain rfl : sv = 0 := by rw [HSV2.out, hf]; rfl
              obtain rfl : se = 4 := by rw [HSE2.out, hf]; rfl
              have t1 : (1000000000 : Int) < tot := by
                rcases Int.lt_or_le 1000000000 tot with g | g
                · exact g
                · have := (fitB_iff tot).2 ⟨by omega, g⟩; rw [hf] at this; cases this
              clear hf HSV2 HSE2 hnn
              have HB0 := Lib.hid hb
              obtain ⟨bx, byy, bl⟩ := bothE_zero hb
              have B6 := Lib.hid (refDot_any xs ys _ _ wr (HX.out.ext hE) (HY.out.ext hE) bx byy bl)
              have HDV2 : Hid (dv = if fitB (dotS xs ys) then dotS xs ys else 0) := by have := HDV.out; unfold dotV at this; rw [if_pos HB0.out] at this; exact this.symm
              have HDE2 : Hid (de = if fitB (dotS xs ys) then 0 else 4) := by have := HDE.out; unfold dotE at this; rw [if_pos HB0.out] at this; exact this.symm
              rw [hy0] at B5
              obtain ⟨ds, hds⟩ : ∃ ds, dotS xs ys = ds := ⟨_, rfl⟩
              rw [hds] at B6 HDV2 HDE2
              clear hy0 hb HDV HDE bx byy bl hds
              cases hfd : fitB ds with
              | true =>
                obtain rfl : dv = ds := by rw [HDV2.out, hfd]; rfl
                obtain rfl : de = 0 := by rw [HDE2.out, hfd]; rfl
                rw [hfd] at B6
                clear hfd HDV2 HDE2
                go_wp2_with fail
                refine B5.out.mono ?_
                rintro e w' ⟨rfl, rfl⟩
                clear B5
                go_wp2_with fail
                refine B6.out.mono ?_
                rintro e w9 ⟨x, rfl, hx, hE9⟩
                have HE9 := Lib.hid (Ext.trans hE hE9)
                obtain rfl := hx (by first | exact True.intro | rfl)
                clear B6 hE9
                go_wp2_with fail
                go_ret
                exact ⟨rfl, HE9.out⟩
              | false =>
                obtain rfl : dv = 0 := by rw [HDV2.out, hfd]; rfl
                obtain rfl : de = 4 := by rw [HDE2.out, hfd]; rfl
                rw [hfd] at B6
                clear hfd HDV2 HDE2
                go_wp2_with fail
                refine B5.out.mono ?_
                rintro e w' ⟨rfl, rfl⟩
                clear B5
                go_wp2_with fail
                refine B6.out.mono ?_
                rintro e w9 ⟨x, rfl, hx, hE9⟩
                have HE9 := Lib.hid (Ext.trans hE hE9)
                clear hx
                clear B6 hE9
                go_wp2_with fail
                go_ret
                exact ⟨rfl, HE9.out⟩
    · have h4 : rowE xs = 4 := (rowE_four xs).resolve_left he
      have HN := Lib.hid he
      obtain rfl : mv = 0 := by have := HMV.out; unfold maxV at this; rw [if_neg HN.out] at this; exact this.symm
      obtain rfl : sv = 0 := by have := HSV.out; unfold sumV at this; rw [if_neg HN.out] at this; exact this.symm
      obtain rfl : se = 4 := by have := HSE.out; unfold sumE at this; rw [if_neg HN.out, h4] at this; exact this.symm
      have HB0 : Hid (bothE xs ys = 4) := by unfold Hid bothE; rw [if_neg HN.out, h4]
      obtain rfl : dv = 0 := by have := HDV.out; unfold dotV at this; rw [if_neg (by rw [HB0.out]; decide)] at this; exact this.symm
      obtain rfl : de = 4 := by have := HDE.out; unfold dotE at this; rw [if_neg (by rw [HB0.out]; decide), HB0.out] at this; exact this.symm
      rw [h4] at A3 A4
      clear h4 he HMV HSV HSE HDV HDE
      go_enter Tryd.func7, Tryd.ntmps7
      go_wp2_with fail
      refine (known_any _ HT.out).mono ?_
      rintro e w1 ⟨rfl, hE1⟩
      have HE1 := Lib.hid hE1
      have B1 := Lib.hid (A1.out w1 hE1)
      clear hE1
      go_wp2_with fail
      refine B1.out.mono ?_
      rintro e w2 ⟨rfl, hE2⟩
      have HE2 := Lib.hid (Ext.trans HE1.out hE2)
      have B2 := Lib.hid (A2.out w2 HE2.out)
      clear hE2 B1
      go_wp2_with fail
      refine B2.out.mono ?_
      rintro e w3 ⟨rfl, hE3⟩
      have HE3 := Lib.hid (Ext.trans HE2.out hE3)
      have B3 := Lib.hid (A3.out w3 HE3.out)
      clear hE3 B2
      go_wp2_with fail
      refine B3.out.mono ?_
      rintro e w4 ⟨rfl, hE4⟩
      have HE4 := Lib.hid (Ext.trans HE3.out hE4)
      have B4 := Lib.hid (A4.out w4 HE4.out)
      clear hE4 B3
      go_wp2_with fail
      refine B4.out.mono ?_
      rintro e w' ⟨rfl, rfl⟩
      clear B4
      go_wp2_with fail
      go_ret
      exact ⟨rfl, HE4.out⟩
end Go.Proofs.YtobgghjmclagaaaDoor
