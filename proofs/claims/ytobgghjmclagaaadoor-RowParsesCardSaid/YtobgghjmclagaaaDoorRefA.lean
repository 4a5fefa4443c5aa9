/- Contracts of the reference of chapter 05: IsZero, Check, Compare, Equal, Abs. -/
import Derived.Test.YtobgghjmclagaaaDoorRowC
namespace Go.Proofs.YtobgghjmclagaaaDoor
set_option linter.unusedVariables false
set_option linter.unusedSimpArgs false
open Go.RowKit

theorem drop_cons {α : Type} {xs : List α} {j : Nat} {x : α} (h : xs[j]? = some x) : xs.drop j = x :: xs.drop (j + 1) := by
  obtain ⟨hj, rfl⟩ := List.getElem?_eq_some_iff.1 h
  exact List.drop_eq_getElem_cons hj

set_option maxHeartbeats 400000 in
theorem refIsZero_any (xs : List Int) (v : Value) (w : World) (h : Ints w v xs) :
    Calls Tryd.prog 23 #[v] w fun e w' => e = .returned (.bool (!xs.any (· != 0))) ∧ w = w' := by
  obtain ⟨a, c, rfl, h1, h2, -, -, hc⟩ := h.open
  have HC := Lib.hid hc
  unfold maxLen at h2
  clear h hc
  go_enter Tryd.func23, Tryd.ntmps23
  go_wp2
  go_loop [3] (fun t => ∃ j : Nat, j ≤ xs.length ∧ t = .int .i64 j ∧ Hid ((xs.drop j).any (· != 0) = xs.any (· != 0))) (fun t => xs.length - (intOf t).toNat)
  case atStart => exact ⟨0, by omega, rfl, by unfold Hid; rw [List.drop_zero]⟩
  case round =>
    obtain ⟨j, hj, rfl, HR⟩ := hrel
    by_cases hlt : j < xs.length
    · obtain ⟨b, off, rfl, hb, hcell⟩ := HC.out (by intro e; simp [e] at hlt)
      obtain ⟨x, hx⟩ : ∃ x, xs[j]? = some x := ⟨xs[j], List.getElem?_eq_getElem hlt⟩
      have g1 := hcell j x hx
      have hd := drop_cons hx
      have hr := HR.out
      rw [hd, List.any_cons] at hr
      clear hcell hx hd HR
      by_cases hx0 : x = 0
      · subst hx0
        have HR2 : Hid ((xs.drop (j + 1)).any (· != 0) = xs.any (· != 0)) := by unfold Hid; simpa using hr
        clear hr
        go_wp2
        go_round
        case rel => exact ⟨j + 1, by omega, by go_num, HR2.out⟩
        case measure => simp [intOf]; omega
      · have hb : (x != 0) = true := by simpa using hx0
        rw [hb, Bool.true_or] at hr
        have HQ := Lib.hid hr.symm
        clear hr
        go_wp2
        go_ret
        exact ⟨by rw [HQ.out]; rfl, rfl⟩
    · obtain rfl : j = xs.length := by omega
      have HQ : Hid (xs.any (· != 0) = false) := by
        have := HR.out
        rw [List.drop_length] at this
        exact this.symm
      clear HR
      go_wp2
      go_ret
      exact ⟨by rw [HQ.out]; rfl, rfl⟩

set_option maxHeartbeats 800000 in
theorem refCheck_any (xs : List Int) (v : Value) (w : World) (h : Ints w v xs) :
    Calls Tryd.prog 14 #[v] w fun e w' => e = .returned (.int .i64 (rowE xs)) ∧ w = w' := by
  obtain ⟨a, c, rfl, h1, h2, -, -, hc⟩ := h.open
  have HC := Lib.hid hc
  unfold maxLen at h2
  clear h hc
  by_cases hl : 64 < xs.length
  · have HQ : Hid (rowE xs = 4) := by unfold Hid rowE; rw [if_pos hl]
    have hl' : (64 : Int) < (xs.length : Int) := by omega
    go_enter Tryd.func14, Tryd.ntmps14
    go_wp2
    go_ret
    exact ⟨by rw [HQ.out]; rfl, rfl⟩
  · have HL := Lib.hid hl
    have h64 : xs.length ≤ 64 := by omega
    clear hl
    go_enter Tryd.func14, Tryd.ntmps14
    go_wp2
    go_loop [3] (fun t => ∃ j : Nat, j ≤ xs.length ∧ t = .int .i64 j ∧ Hid ((xs.drop j).any (fun n => !fitB n) = xs.any (fun n => !fitB n))) (fun t => xs.length - (intOf t).toNat)
    case atStart => exact ⟨0, by omega, rfl, by unfold Hid; rw [List.drop_zero]⟩
    case round =>
      obtain ⟨j, hj, rfl, HR⟩ := hrel
      by_cases hlt : j < xs.length
      · obtain ⟨b, off, rfl, hb, hcell⟩ := HC.out (by intro e; simp [e] at hlt)
        obtain ⟨x, hx⟩ : ∃ x, xs[j]? = some x := ⟨xs[j], List.getElem?_eq_getElem hlt⟩
        have g1 := hcell j x hx
        have hd := drop_cons hx
        have hr := HR.out
        rw [hd, List.any_cons] at hr
        clear hcell hx hd HR
        by_cases hx1 : 1000000000 < x
        · have hf : fitB x = false := by rw [Bool.eq_false_iff, ne_eq, fitB_iff]; omega
          rw [hf, Bool.not_false, Bool.true_or] at hr
          have HQ : Hid (rowE xs = 4) := by unfold Hid rowE; rw [if_neg HL.out, if_pos hr.symm]
          clear hr hf
          go_wp2
          go_ret
          exact ⟨by rw [HQ.out]; rfl, rfl⟩
        · by_cases hx2 : x < -1000000000
          · have hf : fitB x = false := by rw [Bool.eq_false_iff, ne_eq, fitB_iff]; omega
            rw [hf, Bool.not_false, Bool.true_or] at hr
            have HQ : Hid (rowE xs = 4) := by unfold Hid rowE; rw [if_neg HL.out, if_pos hr.symm]
            clear hr hf
            go_wp2
            go_ret
            exact ⟨by rw [HQ.out]; rfl, rfl⟩
          · have hf : fitB x = true := by rw [fitB_iff]; omega
            rw [hf, Bool.not_true, Bool.false_or] at hr
            have HR2 := Lib.hid hr
            clear hr hf
            go_wp2
            go_round
            case rel => exact ⟨j + 1, by omega, by go_num, HR2.out⟩
            case measure => simp [intOf]; omega
      · obtain rfl : j = xs.length := by omega
        have HQ : Hid (rowE xs = 0) := by
          have := HR.out
          rw [List.drop_length] at this
          unfold Hid rowE
          rw [if_neg HL.out, if_neg (by rw [← this]; simp)]
        clear HR
        go_wp2
        go_ret
        exact ⟨by rw [HQ.out]; rfl, rfl⟩

/-- Rows in lexicographic order. -/
def cmpS : List Int → List Int → Int
  | [], [] => 0
  | [], _ :: _ => -1
  | _ :: _, [] => 1
  | x :: xs, y :: ys => if x < y then -1 else if y < x then 1 else cmpS xs ys
theorem cmpS_zero : ∀ xs ys, cmpS xs ys = 0 ↔ xs = ys
  | [], [] => by simp [cmpS]
  | [], _ :: _ => by simp [cmpS]
  | _ :: _, [] => by simp [cmpS]
  | x :: xs, y :: ys => by
    rw [cmpS]
    by_cases h1 : x < y
    · rw [if_pos h1]; constructor
      · intro h; simp at h
      · intro h; simp at h; omega
    · rw [if_neg h1]
      by_cases h2 : y < x
      · rw [if_pos h2]; constructor
        · intro h; simp at h
        · intro h; simp at h; omega
      · rw [if_neg h2, cmpS_zero xs ys]
        have : x = y := by omega
        simp [this]
theorem cmpS_len : ∀ xs ys : List Int, (xs = [] ∨ ys = []) → cmpS xs ys = if xs.length < ys.length then -1 else if ys.length < xs.length then 1 else 0
  | [], [], _ => rfl
  | [], _ :: _, _ => by simp [cmpS]
  | _ :: _, [], _ => by simp [cmpS]
  | _ :: _, _ :: _, h => by simp at h

set_option maxHeartbeats 1600000 in
theorem refCompare_any (xs ys : List Int) (u v : Value) (w : World) (h : Ints w u xs) (k : Ints w v ys) :
    Calls Tryd.prog 47 #[u, v] w fun e w' => e = .returned (.int .i64 (cmpS xs ys)) ∧ Ext w w' := by
  obtain ⟨a, c, rfl, h1, h2, -, -, hc⟩ := h.open
  obtain ⟨a', c', rfl, k1, k2, -, -, kc⟩ := k.open
  have HC := Lib.hid hc; have KC := Lib.hid kc
  unfold maxLen at h2 k2
  clear h hc k kc
  go_enter Tryd.func47, Tryd.ntmps47
  go_wp2
  go_loopw [5] (fun t wr => ∃ j : Nat, j ≤ xs.length ∧ j ≤ ys.length ∧ t = .int .i64 j ∧ Hid (cmpS (xs.drop j) (ys.drop j) = cmpS xs ys) ∧ Ext w wr) (fun t _ => xs.length - (intOf t).toNat)
  case atStart => exact ⟨0, by omega, by omega, rfl, by unfold Hid; rw [List.drop_zero, List.drop_zero], Ext.refl _⟩
  case round =>
    obtain ⟨j, hj, hj2, rfl, HR, hE⟩ := hrel
    obtain ⟨wo, rfl⟩ : ∃ wo : World, wo = wr := ⟨_, rfl⟩
    by_cases hlt : j < xs.length
    · by_cases hlt2 : j < ys.length
      · obtain ⟨b, off, rfl, hb, hcell⟩ := HC.out (by intro e; simp [e] at hlt)
        obtain ⟨b', off', rfl, hb', hcell'⟩ := KC.out (by intro e; simp [e] at hlt2)
        obtain ⟨x, hx⟩ : ∃ x, xs[j]? = some x := ⟨xs[j], List.getElem?_eq_getElem hlt⟩
        obtain ⟨y, hy⟩ : ∃ y, ys[j]? = some y := ⟨ys[j], List.getElem?_eq_getElem hlt2⟩
        have g1 := hE.cell (hcell j x hx)
        have g2 := hE.cell (hcell' j y hy)
        have hr := HR.out
        rw [drop_cons hx, drop_cons hy, cmpS] at hr
        have q1 : (j : Int) < (xs.length : Int) := by omega
        have q2 : (j : Int) < (ys.length : Int) := by omega
        clear hcell hcell' hx hy HR
        by_cases hxy : x < y
        · rw [if_pos hxy] at hr
          have HQ := Lib.hid hr.symm
          have d1 : decide (x < y) = true := by simpa using hxy
          clear hr
          go_wp2
          go_quiet (fail)
          go_wp2
          go_ret
          exact ⟨by rw [HQ.out]; rfl, Ext.draws hE _⟩
        · rw [if_neg hxy] at hr
          have d1 : decide (x < y) = false := by simpa using hxy
          by_cases hyx : y < x
          · rw [if_pos hyx] at hr
            have HQ := Lib.hid hr.symm
            have d2 : decide (y < x) = true := by simpa using hyx
            clear hr
            go_wp2
            go_quiet (fail)
            go_wp2
            go_quiet (fail)
            go_wp2
            go_ret
            exact ⟨by rw [HQ.out]; rfl, Ext.draws (Ext.draws hE _) _⟩
          · rw [if_neg hyx] at hr
            have HR2 := Lib.hid hr
            have d2 : decide (y < x) = false := by simpa using hyx
            clear hr
            go_wp2
            go_quiet (fail)
            go_wp2
            go_quiet (fail)
            go_wp2
            go_roundw
            case rel => exact ⟨j + 1, by omega, by omega, by go_num, HR2.out, Ext.draws hE _⟩
            case measure => simp [intOf]; omega
      · obtain rfl : j = ys.length := by omega
        have HQ : Hid (cmpS xs ys = 1) := by
          have hr := HR.out
          rw [List.drop_length, cmpS_len _ _ (.inr rfl)] at hr
          rw [if_neg (by simp), if_pos (by simp; omega)] at hr
          exact hr.symm
        clear HR
        have q1 : ¬ (xs.length : Int) < (ys.length : Int) := by omega
        have q2 : (ys.length : Int) < (xs.length : Int) := by omega
        go_wp2
        go_ret
        exact ⟨by rw [HQ.out]; rfl, hE⟩
    · obtain rfl : j = xs.length := by omega
      by_cases hl : xs.length < ys.length
      · have HQ : Hid (cmpS xs ys = -1) := by
          have hr := HR.out
          rw [List.drop_length, cmpS_len _ _ (.inl rfl)] at hr
          rw [if_pos (by simp; omega)] at hr
          exact hr.symm
        have q2 : (xs.length : Int) < (ys.length : Int) := by omega
        clear HR
        go_wp2
        go_ret
        exact ⟨by rw [HQ.out]; rfl, hE⟩
      · have HQ : Hid (cmpS xs ys = 0) := by
          have hr := HR.out
          rw [List.drop_length, cmpS_len _ _ (.inl rfl)] at hr
          rw [if_neg (by simp; omega), if_neg (by simp)] at hr
          exact hr.symm
        have q1 : ¬ (xs.length : Int) < (ys.length : Int) := by omega
        have q2 : ¬ (ys.length : Int) < (xs.length : Int) := by omega
        clear HR
        go_wp2
        go_ret
        exact ⟨by rw [HQ.out]; rfl, hE⟩

theorem refEqual_any (xs ys : List Int) (u v : Value) (w : World) (h : Ints w u xs) (k : Ints w v ys) :
    Calls Tryd.prog 21 #[u, v] w fun e w' => e = .returned (.bool (xs == ys)) ∧ Ext w w' := by
  have HC := Lib.hid (refCompare_any xs ys u v w h k)
  have HQ : Hid ((cmpS xs ys == 0) = (xs == ys)) := by
    unfold Hid
    rw [Bool.eq_iff_iff, beq_iff_eq, beq_iff_eq]
    exact cmpS_zero xs ys
  obtain ⟨a, c, rfl, -, -, -, -, -⟩ := h.open
  obtain ⟨a', c', rfl, -, -, -, -, -⟩ := k.open
  clear h k
  go_enter Tryd.func21, Tryd.ntmps21
  go_wp2_with fail
  refine HC.out.mono ?_
  rintro e w1 ⟨rfl, hE⟩
  have HE := Lib.hid hE
  clear hE HC
  go_wp2_with fail
  go_ret
  exact ⟨by rw [← HQ.out]; rfl, HE.out⟩

theorem refAbs_any (n : Int) (w : World) (h1 : -9223372036854775807 ≤ n) (h2 : n ≤ 9223372036854775807) : Calls Tryd.prog 39 #[.int .i64 n] w fun e w' => e = .returned (.int .i64 (n.natAbs : Int)) ∧ w = w' := by
  have q : IntKind.i64.wrap (-n) = -n := by rw [IntKind.wrap_i64]; omega
  by_cases hn : n < 0
  · go_enter Tryd.func39, Tryd.ntmps39
    go_wp2
    go_ret
    exact ⟨ret_int (by omega), rfl⟩
  · go_enter Tryd.func39, Tryd.ntmps39
    go_wp2
    go_ret
    exact ⟨ret_int (by omega), rfl⟩
end Go.Proofs.YtobgghjmclagaaaDoor
