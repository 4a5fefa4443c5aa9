/- row.sum: a sum of products in two parts: add and value. -/
import Derived.Test.YtobgghjmclagaaaDoorRowA
import Derived.Test.YtobgghjmclagaaaDoorBuildS
import Derived.RegionTactic
import Derived.ChangeAlike
namespace Go.Proofs.YtobgghjmclagaaaDoor
set_option linter.unusedVariables false
set_option linter.unusedSimpArgs false
open Go.RowKit

/-- What add leaves: the two cells, and nothing else turned. -/
def SumPost (B : Nat) (h l : Int) (w W' : World) : Prop := W'.heap[B]? = some (.cells #[.int .i64 h, .int .i64 l] 79 (0, 0)) ∧ w.grownBy W' (some B)

theorem grown_drew {a b : World} {o : Option Nat} (h : a.grownBy b o) : a.grownBy b.drew o := ⟨h.os, h.tape, h.output, h.size, h.block⟩

theorem tdiv_tmod_bd (m H : Int) (hH : 0 < H) : m.tdiv H * H + m.tmod H = m ∧ -H < m.tmod H ∧ m.tmod H < H := by
  refine ⟨?_, tmod_bd m H hH⟩
  have := Int.mul_tdiv_add_tmod m H
  rw [Int.mul_comm] at this
  exact this
theorem tdiv_bd1 (m : Int) (h1 : -2000000000000000000 < m) (h2 : m < 2000000000000000000) : -1 ≤ m.tdiv 1000000000000000000 ∧ m.tdiv 1000000000000000000 ≤ 1 := by
  rcases Int.le_total 0 m with h | h
  · rw [Int.tdiv_eq_ediv_of_nonneg h]; omega
  · obtain ⟨k, rfl⟩ : ∃ k, m = -k := ⟨-m, by omega⟩
    rw [Int.neg_tdiv, Int.tdiv_eq_ediv_of_nonneg (show 0 ≤ k by omega)]; omega
theorem mul_bd (a b A : Int) (h1 : -A ≤ a) (h2 : a ≤ A) (h3 : -A ≤ b) (h4 : b ≤ A) : -(A * A) ≤ a * b ∧ a * b ≤ A * A := by
  have hA : 0 ≤ A := by omega
  rcases Int.le_total 0 a with h | h
  · have e1 := Int.mul_le_mul_of_nonneg_left h4 h
    have e2 := Int.mul_le_mul_of_nonneg_left h3 h
    have e3 := Int.mul_le_mul_of_nonneg_right h2 hA
    rw [Int.mul_neg] at e2
    omega
  · have e1 := Int.mul_le_mul_of_nonpos_left h h4
    have e2 := Int.mul_le_mul_of_nonpos_left h h3
    have e3 := Int.mul_le_mul_of_nonneg_right h1 hA
    rw [Int.neg_mul] at e3
    rw [Int.mul_neg] at e2
    omega

set_option maxRecDepth 100000 in
set_option maxHeartbeats 1000000 in
theorem sumAdd_any (B : Nat) (h l a b : Int) (w : World) (hb : w.heap[B]? = some (.cells #[.int .i64 h, .int .i64 l] 79 (0, 0))) (ha1 : -1000000000 ≤ a) (ha2 : a ≤ 1000000000) (hb1 : -1000000000 ≤ b) (hb2 : b ≤ 1000000000)
    (hl1 : -1000000000000000000 < l) (hl2 : l < 1000000000000000000) (hh1 : -1000000 ≤ h) (hh2 : h ≤ 1000000) :
    Calls Tryd.prog 63 #[.pointer (some ⟨B, 0, none⟩), .int .i64 a, .int .i64 b] w fun e w' => e = .returned (.tuple #[]) ∧ ∃ h' l', SumPost B h' l' w w' ∧ h' * 1000000000000000000 + l' = h * 1000000000000000000 + l + a * b ∧ -1000000000000000000 < l' ∧ l' < 1000000000000000000 ∧ h - 1 ≤ h' ∧ h' ≤ h + 1 := by
  obtain ⟨p, hp, hp1, hp2⟩ : ∃ p, a * b = p ∧ -1000000000000000000 ≤ p ∧ p ≤ 1000000000000000000 := by
    have := mul_bd a b 1000000000 (by omega) ha2 (by omega) hb2
    exact ⟨_, rfl, by omega, by omega⟩
  obtain ⟨q, hq, hq1, hq2⟩ : ∃ q, (l + p).tdiv 1000000000000000000 = q ∧ -1 ≤ q ∧ q ≤ 1 := by
    have := tdiv_bd1 (l + p) (by omega) (by omega)
    exact ⟨_, rfl, this.1, this.2⟩
  obtain ⟨m, hm, hm1, hm2⟩ : ∃ m, (l + p).tmod 1000000000000000000 = m ∧ -1000000000000000000 < m ∧ m < 1000000000000000000 := by
    obtain ⟨e1, e2, e3⟩ := tdiv_tmod_bd (l + p) 1000000000000000000 (by decide)
    exact ⟨_, rfl, by omega, by omega⟩
  have HQM : Hid (q * 1000000000000000000 + m = l + p) := by
    obtain ⟨e1, e2, e3⟩ := tdiv_tmod_bd (l + p) 1000000000000000000 (by decide)
    rw [hq, hm] at e1
    exact e1
  have HP := Lib.hid hp
  have HB := Lib.hid hb
  have c0 := block_cell hb 0; have c1 := block_cell hb 1
  have f0 := block_free hb 0; have f1 := block_free hb 1
  simp only [List.getElem?_toArray, List.getElem?_cons_zero, List.getElem?_cons_succ] at c0 c1
  have i1 : IntKind.i64.wrap p = p := by rw [IntKind.wrap_i64]; omega
  have i2 : IntKind.i64.wrap (l + p) = l + p := by rw [IntKind.wrap_i64]; omega
  have i3 : IntKind.i64.wrap q = q := by rw [IntKind.wrap_i64]; omega
  have i4 : IntKind.i64.wrap (h + q) = h + q := by rw [IntKind.wrap_i64]; omega
  have i5 : IntKind.i64.wrap m = m := by rw [IntKind.wrap_i64]; omega
  clear hb
  go_enter Tryd.func63, Tryd.ntmps63
  go_wp2
  go_region
  go_wp2
  refine bodyPost_end (results_none rfl _ _ _) rfl ?_
  refine ⟨rfl, h + q, m, ⟨?_, ?_⟩, ?_, hm1, hm2, by omega, by omega⟩
  · exact block_set (block_set (block_set HB.out 1 _) 0 _) 1 _
  · exact grown_drew (grown_trans (grown_trans (grown_setCell _ _ _ _) (grown_setCell _ _ _ _)) (grown_setCell _ _ _ _))
  · have e1 := HQM.out; have e2 := HP.out
    rw [Int.add_mul]
    omega

/-- What value answers: the sum, and whether it fits. -/
def valS (h l : Int) : Int × Bool := if h = 1 ∧ l < 0 ∨ h = -1 ∧ 0 < l then (l + h * 1000000000000000000, fitB (l + h * 1000000000000000000)) else (l, decide (h = 0) && fitB l)
theorem valS_ok (h l : Int) (h1 : -1000000000000000000 < l) (h2 : l < 1000000000000000000) : (valS h l).2 = fitB (h * 1000000000000000000 + l) ∧ (fitB (h * 1000000000000000000 + l) = true → (valS h l).1 = h * 1000000000000000000 + l) := by
  unfold valS
  by_cases hc : h = 1 ∧ l < 0 ∨ h = -1 ∧ 0 < l
  · rw [if_pos hc]
    rw [show l + h * 1000000000000000000 = h * 1000000000000000000 + l by omega]
    exact ⟨rfl, fun _ => rfl⟩
  · rw [if_neg hc]
    by_cases h0 : h = 0
    · subst h0; simp
    · have hf : fitB (h * 1000000000000000000 + l) = false := by
        rw [Bool.eq_false_iff, ne_eq, fitB_iff]
        omega
      rw [hf]
      simp [h0]

set_option maxRecDepth 100000 in
set_option maxHeartbeats 1000000 in
theorem sumValue_any (h l : Int) (w : World) (h1 : -1000000000000000000 < l) (h2 : l < 1000000000000000000) :
    Calls Tryd.prog 64 #[.agg #[.int .i64 h, .int .i64 l]] w fun e w' => e = .returned (.tuple #[.int .i64 (valS h l).1, .bool (valS h l).2]) ∧ Ext w w' := by
  have HF := Lib.hid (fun (n : Int) (W : World) => (fits_any n W).mono (R' := fun e w' => e = .returned (.bool (fitB n)) ∧ w' = W) (fun _ _ ⟨a, b⟩ => ⟨a, b.symm⟩))
  by_cases ha : h = 1 ∧ l < 0
  · obtain ⟨rfl, hl⟩ := ha
    have HQ : Hid (valS 1 l = (l + 1000000000000000000, fitB (l + 1000000000000000000))) := by unfold Hid valS; rw [if_pos (.inl ⟨rfl, hl⟩)]; simp
    have i2 : IntKind.i64.wrap (l + 1000000000000000000) = l + 1000000000000000000 := by rw [IntKind.wrap_i64]; omega
    go_enter Tryd.func64, Tryd.ntmps64
    go_wp2
    go_quiet ((go_at_call 55; exact Calls.quiet_of_same (HF.out _ _)))
    go_wp2
    go_ret2
    exact ⟨by rw [HQ.out]; rfl, Ext.drewN _ _ |> Ext.trans (Ext.alloc _ _)⟩
  · by_cases hb : h = -1 ∧ 0 < l
    · obtain ⟨rfl, hl⟩ := hb
      have HQ : Hid (valS (-1) l = (l + -1000000000000000000, fitB (l + -1000000000000000000))) := by unfold Hid valS; rw [if_pos (.inr ⟨rfl, hl⟩)]; simp
      have i2 : IntKind.i64.wrap (l + -1000000000000000000) = l + -1000000000000000000 := by rw [IntKind.wrap_i64]; omega
      clear ha
      go_enter Tryd.func64, Tryd.ntmps64
      go_wp2
      go_quiet ((go_at_call 55; exact Calls.quiet_of_same (HF.out _ _)))
      go_wp2
      go_ret2
      exact ⟨by rw [HQ.out]; rfl, Ext.drewN _ _ |> Ext.trans (Ext.alloc _ _)⟩
    · have HV : Hid (valS h l = (l, decide (h = 0) && fitB l)) := by unfold Hid valS; rw [if_neg (by rintro (h | h); exact ha h; exact hb h)]
      by_cases h0 : h = 0
      · subst h0
        have HQ : Hid (valS 0 l = (l, fitB l)) := by unfold Hid; rw [HV.out]; simp
        clear ha hb HV
        go_enter Tryd.func64, Tryd.ntmps64
        go_wp2
        go_quiet ((go_at_call 55; exact Calls.quiet_of_same (HF.out _ _)))
        go_wp2
        go_ret2
        exact ⟨by rw [HQ.out]; rfl, Ext.drewN _ _ |> Ext.trans (Ext.alloc _ _)⟩
      · have HQ : Hid (valS h l = (l, false)) := by unfold Hid; rw [HV.out]; simp [h0]
        have d0 : (h == 0) = false := by simpa using h0
        have d1 : decide (h = 0) = false := by simpa using h0
        by_cases h1' : h = 1
        · subst h1'
          have hl0 : ¬ l < 0 := fun h => ha ⟨rfl, h⟩
          have hl1 : decide (l < 0) = false := by simpa using hl0
          clear ha hb HV d0 d1
          go_enter Tryd.func64, Tryd.ntmps64
          go_wp2
          go_quiet ((go_at_call 55; exact Calls.quiet_of_same (HF.out _ _)))
          go_wp2
          go_ret2
          exact ⟨by rw [HQ.out]; rfl, Ext.drewN _ _ |> Ext.trans (Ext.alloc _ _)⟩
        · have e1 : (h == 1) = false := by simpa using h1'
          by_cases h2' : h = -1
          · subst h2'
            have hl0 : ¬ 0 < l := fun h => hb ⟨rfl, h⟩
            have hl1 : decide (0 < l) = false := by simpa using hl0
            clear ha hb HV d0 d1 e1
            go_enter Tryd.func64, Tryd.ntmps64
            go_wp2
            go_quiet ((go_at_call 55; exact Calls.quiet_of_same (HF.out _ _)))
            go_wp2
            go_ret2
            exact ⟨by rw [HQ.out]; rfl, Ext.drewN _ _ |> Ext.trans (Ext.alloc _ _)⟩
          · have e2 : (h == -1) = false := by simpa using h2'
            clear ha hb HV
            go_enter Tryd.func64, Tryd.ntmps64
            go_wp2
            go_quiet ((go_at_call 55; exact Calls.quiet_of_same (HF.out _ _)))
            go_wp2
            go_ret2
            exact ⟨by rw [HQ.out]; rfl, Ext.drewN _ _ |> Ext.trans (Ext.alloc _ _)⟩
end Go.Proofs.YtobgghjmclagaaaDoor
