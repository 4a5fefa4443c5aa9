/- Contracts of package fraction: little, both, of. -/
import Derived.Test.YtpeinobepiodaaaGreatDoorFracL
namespace Go.Proofs.YtpeinobepiodaaaGreatDoor
set_option linter.unusedVariables false
set_option linter.unusedSimpArgs false
open Go.RowKit

theorem int9 {n : Int} (h : (intB n).size ≤ 9) : -1000000000 < n ∧ n < 1000000000 := by
  have h1 := natAbs_le n
  have h3 := Lib.lt_pow_nDigits n.natAbs
  rw [numB_size] at h1
  have h4 : 10 ^ Lib.nDigits n.natAbs ≤ 10 ^ 9 := Nat.pow_le_pow_right (by omega) (by omega)
  rw [show (10 : Nat) ^ 9 = 1000000000 by decide] at h4
  omega
set_option maxRecDepth 100000 in
set_option maxHeartbeats 400000 in
theorem flittle_yes (n : Int) (w : World) (hs : (intB n).size ≤ 9) :
    Calls Tryz.prog 114 #[.string (intB n)] w fun e w' => e = .returned (.tuple #[.int .i64 n, .bool true]) ∧ Ext w w' := by
  have hb := int9 hs
  have hs' : ¬ (9 : Int) < ((intB n).size : Int) := by omega
  have HA := Lib.hid (atoi_int n w (by omega) (by omega) (by omega))
  go_enter Tryz.func114, Tryz.ntmps114
  go_wp2_with fail
  refine HA.out.mono ?_
  rintro e w1 ⟨rfl, hE1⟩
  have HE1 := Lib.hid hE1
  clear hE1 HA
  go_wp2_with fail
  go_quiet (fail)
  go_wp2_with fail
  go_ret2
  exact ⟨rfl, Ext.draws HE1.out _⟩
set_option maxRecDepth 100000 in
theorem flittle_no (n : Int) (w : World) (hs : 9 < (intB n).size) :
    Calls Tryz.prog 114 #[.string (intB n)] w fun e w' => e = .returned (.tuple #[.int .i64 0, .bool false]) ∧ Ext w w' := by
  have hs' : (9 : Int) < ((intB n).size : Int) := by omega
  go_enter Tryz.func114, Tryz.ntmps114
  go_wp2_with fail
  go_ret2
  exact ⟨rfl, Ext.refl _⟩

set_option maxRecDepth 100000 in
set_option maxHeartbeats 1000000 in
theorem fboth_any (q : Rat) (w : World) :
    Calls Tryz.prog 82 #[ratV q] w fun e w' => ∃ a b, e = .returned (.tuple #[.int .i64 a, .int .i64 b, .bool (decide ((intB q.num).size ≤ 9) && decide ((numB q.den).size ≤ 9))]) ∧ Hid ((intB q.num).size ≤ 9 ∧ (numB q.den).size ≤ 9 → a = q.num ∧ b = q.den) ∧ Ext w w' := by
  have hL1 : ∀ W, ∃ a, Calls Tryz.prog 114 #[.string (intB q.num)] W fun e w' => e = .returned (.tuple #[.int .i64 a, .bool (decide ((intB q.num).size ≤ 9))]) ∧ (Ext W w' ∧ ((intB q.num).size ≤ 9 → a = q.num)) := by
    intro W
    by_cases h : (intB q.num).size ≤ 9
    · refine ⟨q.num, (flittle_yes q.num W h).mono fun e w' ⟨h1, h2⟩ => ⟨?_, h2, fun _ => rfl⟩⟩
      rw [h1, decide_eq_true h]
    · refine ⟨0, (flittle_no q.num W (by omega)).mono fun e w' ⟨h1, h2⟩ => ⟨?_, h2, fun h' => absurd h' h⟩⟩
      rw [h1, decide_eq_false h]
  have hL2 : ∀ W, ∃ a, Calls Tryz.prog 114 #[.string (numB q.den)] W fun e w' => e = .returned (.tuple #[.int .i64 a, .bool (decide ((numB q.den).size ≤ 9))]) ∧ (Ext W w' ∧ ((numB q.den).size ≤ 9 → a = q.den)) := by
    intro W
    rw [← eb]
    by_cases h : (intB (q.den : Int)).size ≤ 9
    · refine ⟨q.den, (flittle_yes q.den W h).mono fun e w' ⟨h1, h2⟩ => ⟨?_, h2, fun _ => rfl⟩⟩
      rw [h1, decide_eq_true h]
    · refine ⟨0, (flittle_no q.den W (by omega)).mono fun e w' ⟨h1, h2⟩ => ⟨?_, h2, fun h' => absurd h' h⟩⟩
      rw [h1, decide_eq_false h]
  unfold ratV
  obtain ⟨n, hn⟩ : ∃ n, n = intB q.num := ⟨_, rfl⟩
  obtain ⟨d, hdd⟩ : ∃ d, d = numB q.den := ⟨_, rfl⟩
  rw [← hn] at hL1
  rw [← hdd] at hL2
  rw [← hn, ← hdd]
  obtain ⟨b1, hb1⟩ : ∃ b, b = decide (n.size ≤ 9) := ⟨_, rfl⟩
  obtain ⟨b2, hb2⟩ : ∃ b, b = decide (d.size ≤ 9) := ⟨_, rfl⟩
  rw [← hb1] at hL1 ⊢
  rw [← hb2] at hL2 ⊢
  have HL1 := Lib.hid hL1; have HL2 := Lib.hid hL2
  clear hn hdd hL1 hL2 hb1 hb2
  obtain ⟨W1, hW1, hE1, hs1, hbb⟩ := box2 w (.string n) (.string d) 81
  obtain ⟨c0, c1, -⟩ := block2_cell hbb
  have HE1 := Lib.hid hE1
  have HC : Hid (∀ W, Ext W1 W → W.cell? ⟨w.heap.size, 0, none⟩ = some (.string n) ∧ W.cell? ⟨w.heap.size, 1, none⟩ = some (.string d)) := fun W hW => ⟨hW.cell c0, hW.cell c1⟩
  clear hE1 hs1 hbb
  go_enter Tryz.func82, Tryz.ntmps82
  go_wp2_with fail
  obtain ⟨a, hA⟩ := HL1.out W1
  refine hA.mono ?_
  rintro e w2 ⟨rfl, hx⟩
  have HX2 := Lib.hid hx
  obtain ⟨d0, d1⟩ := HC.out _ hx.1
  clear hA hx c0 c1
  go_wp2_with fail
  obtain ⟨b, hB⟩ := HL2.out w2
  refine hB.mono ?_
  rintro e w3 ⟨rfl, hx⟩
  have HX3 := Lib.hid hx
  clear hB hx d0 d1
  cases b1 <;> cases b2
  all_goals
    go_wp2_with fail
    go_ret3
    exact ⟨a, b, rfl, fun h => ⟨HX2.out.2 h.1, HX3.out.2 h.2⟩, (HE1.out.trans HX2.out.1).trans HX3.out.1⟩
end Go.Proofs.YtpeinobepiodaaaGreatDoor
