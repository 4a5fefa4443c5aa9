/- Contracts of package whole: little, Of. -/
import Derived.Test.YtpeinobepiodaaaGreatDoorWhole1
import Derived.Lib.AppendIntMem
namespace Go.Proofs.YtpeinobepiodaaaGreatDoor
set_option linter.unusedVariables false
set_option linter.unusedSimpArgs false
open Go.RowKit

theorem intB_canon (n : Int) : canonS (intB n).data.toList = true ∧ numS (intB n).data.toList = n := by
  rw [intB_data]; exact ⟨(itoa_canon n).1, (itoa_canon n).2.1⟩
theorem atoi_int (n : Int) (w : World) (h1 : -9223372036854775808 ≤ n) (h2 : n ≤ 9223372036854775807) (hs : (intB n).size ≤ 1000000000) :
    Calls Tryz.prog 117 #[.string (intB n)] w fun e w' => e = .returned (.tuple #[.int .i64 n, .nilIface]) ∧ Ext w w' :=
  (Tryz.strconv_Atoi_ok (intB n) (by omega) n (by
    have := atoi_canon_ok (intB_canon n).1 (by rw [(intB_canon n).2]; exact ⟨h1, h2⟩)
    rw [(intB_canon n).2] at this
    exact this) w).mono fun e w' ⟨h1, h2⟩ => ⟨h1, by
    rcases h2 with rfl | ⟨t, rfl⟩
    · exact Ext.refl _
    · exact ⟨rfl, rfl, rfl, by rw [Lib.bytesWorld_size]; omega, fun j hj => Lib.bytesWorld_at_old w _ t j hj⟩⟩
theorem itoa_int (n : Int) (w : World) (h1 : -9223372036854775808 ≤ n) (h2 : n ≤ 9223372036854775807) (ht : Pow10 w) :
    Calls Tryz.prog 99 #[.int .i64 n] w fun e w' => e = .returned (.string (intB n)) ∧ Ext w w' :=
  (Tryz.strconv_Itoa n h1 h2 w ht).mono fun e w' ⟨h, kk, os, hw⟩ => ⟨h, by rw [hw]; exact Lib.below_grow _ w (Nat.le_refl _) kk os⟩

set_option maxRecDepth 100000 in
set_option maxHeartbeats 400000 in
theorem little_yes (n : Int) (k : Nat) (w : World) (h1 : -9223372036854775808 ≤ n) (h2 : n ≤ 9223372036854775807) (hs : (intB n).size ≤ k) (hk : k ≤ 1000) :
    Calls Tryz.prog 85 #[.string (intB n), .int .i64 k] w fun e w' => e = .returned (.tuple #[.int .i64 n, .bool true]) ∧ Ext w w' := by
  have hs' : ¬ (k : Int) < ((intB n).size : Int) := by omega
  have HA := Lib.hid (atoi_int n w h1 h2 (by omega))
  go_enter Tryz.func85, Tryz.ntmps85
  go_wp2_with fail
  refine HA.out.mono ?_
  rintro e w1 ⟨rfl, hE1⟩
  have HE1 := Lib.hid hE1
  clear hE1 HA
  go_wp2_with fail
  go_quiet (fail)
  go_wp2_with fail
  go_ret2
  exact ⟨rfl, Ext.draws HE1.out _⟩
set_option maxRecDepth 100000 in
theorem little_no (n : Int) (k : Nat) (w : World) (hs : k < (intB n).size) :
    Calls Tryz.prog 85 #[.string (intB n), .int .i64 k] w fun e w' => e = .returned (.tuple #[.int .i64 0, .bool false]) ∧ w = w' := by
  have hs' : (k : Int) < ((intB n).size : Int) := by omega
  go_enter Tryz.func85, Tryz.ntmps85
  go_wp2_with fail
  go_ret2
  exact ⟨rfl, rfl⟩
set_option maxRecDepth 100000 in
theorem of_any (n : Int) (w : World) (h1 : -9223372036854775808 ≤ n) (h2 : n ≤ 9223372036854775807) (ht : Pow10 w) :
    Calls Tryz.prog 69 #[.int .i64 n] w fun e w' => e = .returned (.string (intB n)) ∧ Ext w w' := by
  have HA := Lib.hid (itoa_int n w h1 h2 ht)
  clear ht
  go_enter Tryz.func69, Tryz.ntmps69
  go_wp2_with fail
  refine HA.out.mono ?_
  rintro e w1 ⟨rfl, hE1⟩
  have HE1 := Lib.hid hE1
  clear hE1 HA
  go_wp2_with fail
  go_ret
  exact ⟨rfl, HE1.out⟩

theorem mul_bd {a b A B : Int} (h1 : -A < a) (h2 : a < A) (h3 : -B < b) (h4 : b < B) (hA : 0 ≤ A) (hB : 0 ≤ B) : -(A * B) ≤ a * b ∧ a * b ≤ A * B := by
  have k1 : a.natAbs ≤ A.natAbs := by omega
  have k2 : b.natAbs ≤ B.natAbs := by omega
  have k3 : (a * b).natAbs ≤ A.natAbs * B.natAbs := by rw [Int.natAbs_mul]; exact Nat.mul_le_mul k1 k2
  have k4 : A.natAbs * B.natAbs = (A * B).natAbs := (Int.natAbs_mul A B).symm
  have k5 : 0 ≤ A * B := Int.mul_nonneg hA hB
  omega
end Go.Proofs.YtpeinobepiodaaaGreatDoor
