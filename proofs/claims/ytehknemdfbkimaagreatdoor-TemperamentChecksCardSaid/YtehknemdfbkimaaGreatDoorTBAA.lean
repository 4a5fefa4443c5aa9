/- Merged: TChkP. -/
import Derived.Test.YtehknemdfbkimaaGreatDoorSAU
import Derived.Test.YtehknemdfbkimaaGreatDoorSAW
/- The annihilator and the saturation of a right lattice of at most six columns are there. No program is named here. -/
namespace Go.Proofs.YtehknemdfbkimaaGreatDoor
set_option linter.unusedVariables false
set_option linter.unusedSimpArgs false
open Go.RowKit

/-- A lattice's annihilator and saturation, of any size. -/
structure SatF (n F : Nat) (C A S : List (List Int)) : Prop where
  n1 : 1 ≤ n
  n6 : n ≤ 6
  kC : kerS F n C = some A
  kA : kerS F n A = some S
  lA : A.length ≤ 6
  lS : S.length ≤ 6
  sA : ∀ r ∈ A, r.all smB = true
  sS : ∀ r ∈ S, r.all smB = true
  wA : ∀ r ∈ A, r.length = n
  wS : ∀ r ∈ S, r.length = n
theorem sz6 {n : Nat} (hn : n ≤ 6) : n * facN 1000000000 n ≤ 10 ^ 58 ∧ n * facN (10 ^ 58) n ≤ 10 ^ 352 ∧ (gN n 9 0).1 + 1 ≤ 400000000 ∧ (gN n 9 0).2 + 1 ≤ 400000000 ∧ (gN n 58 0).1 + 1 ≤ 400000000 ∧ (gN n 58 0).2 + 1 ≤ 400000000 ∧ (gN n 352 0).1 + 1 ≤ 400000000 ∧ (gN n 352 0).2 + 1 ≤ 400000000 := by
  have hc : n = 0 ∨ n = 1 ∨ n = 2 ∨ n = 3 ∨ n = 4 ∨ n = 5 ∨ n = 6 := by omega
  rcases hc with h | h | h | h | h | h | h <;> rw [h] <;> decide +kernel
theorem all_smB' {r : List Int} {k : Nat} (hk : k + 1 ≤ 1000000000) (h : RowLe (10 ^ k) r) : r.all smB = true := by
  rw [List.all_eq_true]
  exact fun x hx => smB_of hk (by omega) (Nat.lt_of_le_of_lt (h x hx) (Nat.pow_lt_pow_right (by decide) (by omega)))
theorem sat_there {n : Nat} {C : List (List Int)} (h1 : 1 ≤ n) (hn : n ≤ 6) (hE : chkE n C = 0) : ∃ F A S, SatF n F C A S := by
  obtain ⟨-, -, -, l4⟩ := latE_rows (chkE_zero hE).1
  obtain ⟨z1, z2, z3, z4, z5, z6, z7, z8⟩ := sz6 hn
  obtain ⟨F1, A, qa, a1, a2, -, a4, a5, -, -⟩ := ker_spec n 1000000000 9 58 C (fun r hr => by have := (l4 r hr).2; omega) (fun r hr x hx => by have := (l4 r hr).1.2 x hx; omega) (by decide) (by decide) z1 z3 z4 z5 z6
  obtain ⟨F2, S, qs, b1, b2, -, b4, b5, -, -⟩ := ker_spec n (10 ^ 58) 58 352 A (fun r hr => (a4 r hr).2) (fun r hr => (a4 r hr).1.mono z1) (Nat.pos_of_ne_zero (by simp)) (Nat.le_refl _) z2 z5 z6 z7 z8
  exact ⟨F1 + F2, A, S, ⟨h1, hn, kerS_mono (by omega) a1, kerS_mono (by omega) b1, by omega, by omega, fun r hr => all_smB' (k := 58) (by decide) ((a4 r hr).1.mono z1), fun r hr => all_smB' (k := 352) (by decide) ((b4 r hr).1.mono z2), fun r hr => (a4 r hr).2, fun r hr => (b4 r hr).2⟩⟩
theorem fit_le {m : List (List Int)} (h : (m.all fun r => r.all fit9B) = true) {r : List Int} (hr : r ∈ m) : RowLe 1000000000 r := fun x hx => by
  have h2 := List.all_eq_true.1 (List.all_eq_true.1 h r hr) x hx
  have := (fit9B_iff x).1 h2
  omega
/-- A temperament without an error. -/
theorem right_of {F : Nat} {P : List Int} {C M A S : List (List Int)} (h1 : primesE P = 0) (h2 : chkE P.length C = 0) (hS : SatF P.length F C A S) (h3 : (S.all fun r => r.all fit9B) = true) (h4 : S = C) (h5 : (A.all fun r => r.all fit9B) = true) (h6 : A = M) : RightT P.length F P C M := by
  subst h4
  subst h6
  exact ⟨hS.n1, hS.n6, h1, rfl, h2, hS.kC, hS.kA, hS.lS, hS.lA, fun x hx => ⟨fit_le h3 hx, hS.wS x hx⟩, fun x hx => ⟨fit_le h5 hx, hS.wA x hx⟩⟩
end Go.Proofs.YtehknemdfbkimaaGreatDoor
