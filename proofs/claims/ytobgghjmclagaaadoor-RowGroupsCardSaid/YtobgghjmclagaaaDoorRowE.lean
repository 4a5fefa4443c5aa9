/- Contracts of package row: Equal, Compare. -/
import Derived.Test.YtobgghjmclagaaaDoorRefA
import Derived.Test.YtobgghjmclagaaaDoorShelfA
namespace Go.Proofs.YtobgghjmclagaaaDoor
set_option linter.unusedVariables false
set_option linter.unusedSimpArgs false
open Go.RowKit

set_option maxHeartbeats 1600000 in
theorem compareSl_any (xs ys : List Int) (u v : Value) (w : World) (h : Ints w u xs) (k : Ints w v ys) :
    Calls Tryd.prog 68 #[u, v] w fun e w' => e = .returned (.int .i64 (cmpS xs ys)) ∧ w = w' := by
  obtain ⟨a, c, rfl, h1, h2, -, -, hc⟩ := h.open
  obtain ⟨a', c', rfl, k1, k2, -, -, kc⟩ := k.open
  have HC := Lib.hid hc; have KC := Lib.hid kc
  unfold maxLen at h2 k2
  clear h hc k kc
  go_enter Tryd.func68, Tryd.ntmps68
  go_wp2
  go_loop [11] (fun t => ∃ j : Nat, j ≤ xs.length ∧ j ≤ ys.length ∧ t = .int .i64 j ∧ Hid (cmpS (xs.drop j) (ys.drop j) = cmpS xs ys)) (fun t => xs.length - (intOf t).toNat)
  case atStart => exact ⟨0, by omega, by omega, rfl, by unfold Hid; rw [List.drop_zero, List.drop_zero]⟩
  case round =>
    obtain ⟨j, hj, hj2, rfl, HR⟩ := hrel
    by_cases hlt : j < xs.length
    · obtain ⟨b, off, rfl, hb, hcell⟩ := HC.out (by intro e; simp [e] at hlt)
      obtain ⟨x, hx⟩ : ∃ x, xs[j]? = some x := ⟨xs[j], List.getElem?_eq_getElem hlt⟩
      have g1 := hcell j x hx
      by_cases hlt2 : j < ys.length
      · obtain ⟨b', off', rfl, hb', hcell'⟩ := KC.out (by intro e; simp [e] at hlt2)
        obtain ⟨y, hy⟩ : ∃ y, ys[j]? = some y := ⟨ys[j], List.getElem?_eq_getElem hlt2⟩
        have g2 := hcell' j y hy
        have hr := HR.out
        rw [drop_cons hx, drop_cons hy, cmpS] at hr
        have HCMP := Lib.hid (Tryd.cmp_Compare_int x y w)
        have q1 : ¬ (ys.length : Int) ≤ (j : Int) := by omega
        clear hcell hcell' hx hy HR
        by_cases hxy : x < y
        · rw [if_pos hxy] at hr
          have HQ := Lib.hid hr.symm
          rw [show Lib.compareInt x y = -1 by unfold Lib.compareInt; rw [if_pos hxy]] at HCMP
          clear hr hxy
          go_wp2_with fail
          refine HCMP.out.mono ?_
          rintro e w' ⟨rfl, rfl⟩
          clear HCMP
          go_wp2_with fail
          go_ret
          exact ⟨by rw [HQ.out]; rfl, rfl⟩
        · rw [if_neg hxy] at hr
          by_cases hyx : y < x
          · rw [if_pos hyx] at hr
            have HQ := Lib.hid hr.symm
            rw [show Lib.compareInt x y = 1 by unfold Lib.compareInt; rw [if_neg hxy, if_pos hyx]] at HCMP
            clear hr hxy hyx
            go_wp2_with fail
            refine HCMP.out.mono ?_
            rintro e w' ⟨rfl, rfl⟩
            clear HCMP
            go_wp2_with fail
            go_ret
            exact ⟨by rw [HQ.out]; rfl, rfl⟩
          · rw [if_neg hyx] at hr
            have HR2 := Lib.hid hr
            rw [show Lib.compareInt x y = 0 by unfold Lib.compareInt; rw [if_neg hxy, if_neg hyx]] at HCMP
            clear hr hxy hyx
            go_wp2_with fail
            refine HCMP.out.mono ?_
            rintro e w' ⟨rfl, rfl⟩
            clear HCMP
            go_wp2_with fail
            go_round
            case rel => exact ⟨j + 1, by omega, by omega, by go_num, HR2.out⟩
            case measure => simp [intOf]; omega
      · obtain rfl : j = ys.length := by omega
        have HQ : Hid (cmpS xs ys = 1) := by
          have hr := HR.out
          rw [List.drop_length, cmpS_len _ _ (.inr rfl)] at hr
          rw [if_neg (by simp), if_pos (by simp; omega)] at hr
          exact hr.symm
        clear HR hcell hx
        go_wp2_with fail
        go_ret
        exact ⟨by rw [HQ.out]; rfl, rfl⟩
    · obtain rfl : j = xs.length := by omega
      by_cases hl : xs.length < ys.length
      · have HQ : Hid (cmpS xs ys = -1) := by
          have hr := HR.out
          rw [List.drop_length, cmpS_len _ _ (.inl rfl)] at hr
          rw [if_pos (by simp; omega)] at hr
          exact hr.symm
        have q2 : (xs.length : Int) < (ys.length : Int) := by omega
        clear HR
        go_wp2_with fail
        go_ret
        exact ⟨by rw [HQ.out]; rfl, rfl⟩
      · have HQ : Hid (cmpS xs ys = 0) := by
          have hr := HR.out
          rw [List.drop_length, cmpS_len _ _ (.inl rfl)] at hr
          rw [if_neg (by simp; omega), if_neg (by simp)] at hr
          exact hr.symm
        have q1 : ¬ (xs.length : Int) < (ys.length : Int) := by omega
        clear HR
        go_wp2_with fail
        go_ret
        exact ⟨by rw [HQ.out]; rfl, rfl⟩

theorem rowCompare_any (xs ys : List Int) (u v : Value) (w : World) (h : Ints w u xs) (k : Ints w v ys) :
    Calls Tryd.prog 46 #[u, v] w fun e w' => e = .returned (.int .i64 (cmpS xs ys)) ∧ w = w' := by
  have HC := Lib.hid (compareSl_any xs ys u v w h k)
  obtain ⟨a, c, rfl, -, -, -, -, -⟩ := h.open
  obtain ⟨a', c', rfl, -, -, -, -, -⟩ := k.open
  clear h k
  go_enter Tryd.func46, Tryd.ntmps46
  go_wp2_with fail
  refine HC.out.mono ?_
  rintro e w1 ⟨rfl, rfl⟩
  clear HC
  go_wp2_with fail
  go_ret
  exact ⟨rfl, rfl⟩
theorem rowEqual_any (xs ys : List Int) (u v : Value) (w : World) (h : Ints w u xs) (k : Ints w v ys) :
    Calls Tryd.prog 45 #[u, v] w fun e w' => e = .returned (.bool (xs == ys)) ∧ Ext w w' := by
  have HC := Lib.hid (equalRow_any xs ys u v w h k)
  obtain ⟨a, c, rfl, -, -, -, -, -⟩ := h.open
  obtain ⟨a', c', rfl, -, -, -, -, -⟩ := k.open
  clear h k
  go_enter Tryd.func45, Tryd.ntmps45
  go_wp2_with fail
  refine HC.out.mono ?_
  rintro e w1 ⟨rfl, hE⟩
  have HE := Lib.hid hE
  clear HC hE
  go_wp2_with fail
  go_ret
  exact ⟨rfl, HE.out⟩
end Go.Proofs.YtobgghjmclagaaaDoor
