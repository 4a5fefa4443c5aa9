/- Contracts of the reference of chapter 05: sum.plus, sum.value, Gcd, Content. -/
import Derived.Test.YtobgghjmclagaaaDoorRefA
import Derived.Deep.RegionWith
namespace Go.Proofs.YtobgghjmclagaaaDoor
set_option linter.unusedVariables false
set_option linter.unusedSimpArgs false
open Go.RowKit

set_option maxRecDepth 100000 in
set_option maxHeartbeats 1000000 in
theorem refPlus_any (h l a b : Int) (w : World) (ha1 : -1000000000 ≤ a) (ha2 : a ≤ 1000000000) (hb1 : -1000000000 ≤ b) (hb2 : b ≤ 1000000000)
    (hh1 : -1000000000000000 ≤ h) (hh2 : h ≤ 1000000000000000) (hl1 : -1000000000000000 ≤ l) (hl2 : l ≤ 1000000000000000) :
    Calls Tryd.prog 65 #[.agg #[.int .i64 h, .int .i64 l], .int .i64 a, .int .i64 b] w fun e w' => e = .returned (.agg #[.int .i64 (h + (a * b).tdiv 1000000000), .int .i64 (l + (a * b).tmod 1000000000)]) ∧ Ext w w' := by
  obtain ⟨p, hp, hp1, hp2⟩ : ∃ p, a * b = p ∧ -1000000000000000000 ≤ p ∧ p ≤ 1000000000000000000 := by
    have := mul_bd a b 1000000000 (by omega) ha2 (by omega) hb2
    exact ⟨_, rfl, by omega, by omega⟩
  obtain ⟨e1, e2, e3⟩ := tdiv_tmod_bd p 1000000000 (by decide)
  rw [hp]
  obtain ⟨q, hq⟩ : ∃ q, p.tdiv 1000000000 = q := ⟨_, rfl⟩
  obtain ⟨m, hm⟩ : ∃ m, p.tmod 1000000000 = m := ⟨_, rfl⟩
  rw [hq, hm] at e1
  rw [hm] at e2 e3
  have i1 : IntKind.i64.wrap p = p := by rw [IntKind.wrap_i64]; omega
  have i2 : IntKind.i64.wrap (h + q) = h + q := by rw [IntKind.wrap_i64]; omega
  have i3 : IntKind.i64.wrap q = q := by rw [IntKind.wrap_i64]; omega
  have i4 : IntKind.i64.wrap (l + m) = l + m := by rw [IntKind.wrap_i64]; omega
  have i5 : IntKind.i64.wrap m = m := by rw [IntKind.wrap_i64]; omega
  rw [hq, hm]
  clear e1
  go_enter Tryd.func65, Tryd.ntmps65
  go_wp2
  refine bodyPost_ret (results_cell_row (by rfl) _ _ (w.heap.size + 1) 83 #[.int .i64 (h + q), .int .i64 (l + m)] (0, 0) _ (by rfl) (heap_alloc2_new _ _ _) Tryd.underlying83 (by rfl) (by kernel_rfl)) (by rfl) ?_
  exact ⟨rfl, Ext.trans (Ext.alloc _ _) (Ext.alloc _ _)⟩

set_option maxRecDepth 100000 in
set_option maxHeartbeats 1000000 in
theorem refValue_any (h l : Int) (w : World) (hh1 : -1000000000000000 ≤ h) (hh2 : h ≤ 1000000000000000) (hl1 : -1000000000000000 ≤ l) (hl2 : l ≤ 1000000000000000) :
    Calls Tryd.prog 66 #[.agg #[.int .i64 h, .int .i64 l]] w fun e w' => ∃ x : Int, e = .returned (.tuple #[.int .i64 x, .bool (fitB (h * 1000000000 + l))]) ∧ (fitB (h * 1000000000 + l) = true → x = h * 1000000000 + l) ∧ Ext w w' := by
  obtain ⟨e1, e2, e3⟩ := tdiv_tmod_bd l 1000000000 (by decide)
  obtain ⟨q, hq⟩ : ∃ q, l.tdiv 1000000000 = q := ⟨_, rfl⟩
  obtain ⟨m, hm⟩ : ∃ m, l.tmod 1000000000 = m := ⟨_, rfl⟩
  rw [hq, hm] at e1
  rw [hm] at e2 e3
  have i2 : IntKind.i64.wrap (h + q) = h + q := by rw [IntKind.wrap_i64]; omega
  have i3 : IntKind.i64.wrap q = q := by rw [IntKind.wrap_i64]; omega
  have i5 : IntKind.i64.wrap m = m := by rw [IntKind.wrap_i64]; omega
  by_cases hb : 2 < h + q ∨ h + q < -2
  · have HQ : Hid (fitB (h * 1000000000 + l) = false) := by unfold Hid; rw [Bool.eq_false_iff, ne_eq, fitB_iff]; omega
    rw [HQ.out]
    have hcase : 2 < h + q ∨ (¬ 2 < h + q ∧ h + q < -2) := by omega
    clear hb e1
    rcases hcase with h1 | ⟨h1, h2⟩
    all_goals
      go_enter Tryd.func66, Tryd.ntmps66
      go_wp2
      go_ret2
      first | exact ⟨_, rfl, (by simp), Ext.alloc _ _⟩ | exact ⟨⟨_, rfl⟩, Ext.alloc _ _⟩
  · have h1 : ¬ 2 < h + q := by omega
    have h2 : ¬ h + q < -2 := by omega
    have HE : Hid (h * 1000000000 + l = (h + q) * 1000000000 + m) := by unfold Hid; omega
    rw [HE.out]
    have i6 : IntKind.i64.wrap ((h + q) * 1000000000) = (h + q) * 1000000000 := by rw [IntKind.wrap_i64]; omega
    have i7 : IntKind.i64.wrap ((h + q) * 1000000000 + m) = (h + q) * 1000000000 + m := by rw [IntKind.wrap_i64]; omega
    clear hb e1 HE
    by_cases k1 : (h + q) * 1000000000 + m ≤ 1000000000
    · by_cases k2 : -1000000000 ≤ (h + q) * 1000000000 + m
      · have HQ : Hid (fitB ((h + q) * 1000000000 + m) = true) := (fitB_iff _).2 ⟨by omega, k1⟩
        go_enter Tryd.func66, Tryd.ntmps66
        go_wp2
        go_ret2
        refine ⟨_, by rw [HQ.out]; rfl, fun _ => rfl, Ext.alloc _ _⟩
      · have HQ : Hid (fitB ((h + q) * 1000000000 + m) = false) := by unfold Hid; rw [Bool.eq_false_iff, ne_eq, fitB_iff]; omega
        go_enter Tryd.func66, Tryd.ntmps66
        go_wp2
        go_ret2
        refine ⟨_, by rw [HQ.out]; rfl, fun _ => rfl, Ext.alloc _ _⟩
    · have HQ : Hid (fitB ((h + q) * 1000000000 + m) = false) := by unfold Hid; rw [Bool.eq_false_iff, ne_eq, fitB_iff]; omega
      go_enter Tryd.func66, Tryd.ntmps66
      go_wp2
      go_ret2
      refine ⟨_, by rw [HQ.out]; rfl, fun _ => rfl, Ext.alloc _ _⟩
end Go.Proofs.YtobgghjmclagaaaDoor
