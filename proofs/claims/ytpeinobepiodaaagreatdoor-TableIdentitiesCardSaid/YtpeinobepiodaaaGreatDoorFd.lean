/- Division downward. No program is named here. -/
namespace Go.Proofs.YtpeinobepiodaaaGreatDoor
set_option linter.unusedVariables false
set_option linter.unusedSimpArgs false

/-- Division downward. -/
def fdq (x y : Int) : Int := if x.tmod y ≠ 0 ∧ decide (x.tmod y < 0) ≠ decide (y < 0) then x.tdiv y - 1 else x.tdiv y
def fdr (x y : Int) : Int := if x.tmod y ≠ 0 ∧ decide (x.tmod y < 0) ≠ decide (y < 0) then x.tmod y + y else x.tmod y
theorem fd_eq (x y : Int) : x = y * fdq x y + fdr x y := by
  have h : y * x.tdiv y + x.tmod y = x := by first | exact Int.mul_tdiv_add_tmod x y | (rw [Int.add_comm]; exact Int.tmod_add_mul_tdiv x y)
  unfold fdq fdr
  split
  · rw [Int.mul_sub, Int.mul_one]; omega
  · omega
theorem tmod_lt (x y : Int) (hy : y ≠ 0) : (x.tmod y).natAbs < y.natAbs := by
  rw [Int.natAbs_tmod]
  exact Nat.mod_lt _ (by omega)
theorem tdiv_le (x y : Int) : (x.tdiv y).natAbs ≤ x.natAbs := by
  rw [Int.natAbs_tdiv]; exact Nat.div_le_self _ _
theorem fdr_pos (x y : Int) (hy : 0 < y) : 0 ≤ fdr x y ∧ fdr x y < y := by
  have h := tmod_lt x y (by omega)
  unfold fdr
  by_cases h0 : x.tmod y = 0
  · rw [if_neg (by simp [h0])]; omega
  · by_cases h1 : x.tmod y < 0
    · rw [if_pos ⟨h0, by rw [decide_eq_true h1, decide_eq_false (show ¬ y < 0 by omega)]; simp⟩]; omega
    · rw [if_neg (by rw [decide_eq_false h1, decide_eq_false (show ¬ y < 0 by omega)]; simp)]; omega
theorem fdr_neg (x y : Int) (hy : y < 0) : y < fdr x y ∧ fdr x y ≤ 0 := by
  have h := tmod_lt x y (by omega)
  unfold fdr
  by_cases h0 : x.tmod y = 0
  · rw [if_neg (by simp [h0])]; omega
  · by_cases h1 : x.tmod y < 0
    · rw [if_neg (by rw [decide_eq_true h1, decide_eq_true hy]; simp)]; omega
    · rw [if_pos ⟨h0, by rw [decide_eq_false h1, decide_eq_true hy]; simp⟩]; omega
theorem fdq_bd (x y : Int) : (fdq x y).natAbs ≤ x.natAbs + 1 := by
  have := tdiv_le x y
  unfold fdq; split <;> omega


theorem tdiv_cast (u v : Nat) : (u : Int).tdiv (v : Int) = ((u / v : Nat) : Int) := by
  rw [Int.tdiv_eq_ediv_of_nonneg (by omega)]; exact (Int.natCast_ediv _ _).symm
theorem tmod_cast (u v : Nat) : (u : Int).tmod (v : Int) = ((u % v : Nat) : Int) := by
  rw [Int.tmod_eq_emod_of_nonneg (by omega)]; exact (Int.natCast_emod _ _).symm
/-- By signs and magnitudes. -/
def sgn (b : Bool) (u : Nat) : Int := if b then -(u : Int) else u
theorem sgn_self (n : Int) : sgn (decide (n < 0)) n.natAbs = n := by
  unfold sgn
  by_cases h : n < 0
  · rw [decide_eq_true h, if_pos rfl]; omega
  · rw [decide_eq_false h, if_neg Bool.false_ne_true]; omega
theorem sgn_false (u : Nat) : sgn false u = u := rfl
theorem sgn_true (u : Nat) : sgn true u = -(u : Int) := rfl
theorem sgn_eq {p : Bool} {x : Int} (h : p = decide (x < 0)) : x = sgn p x.natAbs := by rw [h, sgn_self]
theorem fd_abs (x y : Int) (hy : y ≠ 0) {p q : Bool} (hp : p = decide (x < 0)) (hq : q = decide (y < 0)) :
    fdq x y = sgn (p != q) (if (p != q) = true ∧ x.natAbs % y.natAbs ≠ 0 then x.natAbs / y.natAbs + 1 else x.natAbs / y.natAbs) ∧
    fdr x y = sgn q (if (p != q) = true ∧ x.natAbs % y.natAbs ≠ 0 then y.natAbs - x.natAbs % y.natAbs else x.natAbs % y.natAbs) := by
  have ex := sgn_eq hp
  have ey := sgn_eq hq
  have hv : 0 < y.natAbs := by omega
  have hyn : y < 0 ↔ q = true := by rw [hq]; simp
  generalize x.natAbs = u at *
  generalize y.natAbs = v at *
  have hr := Nat.mod_lt u hv
  unfold fdq fdr
  have hyd : decide (y < 0) = q := hq.symm
  rw [hyd]
  cases p <;> cases q
  all_goals
    simp only [sgn_false, sgn_true] at ex ey
    subst ex
    subst ey
  · rw [tdiv_cast, tmod_cast]
    generalize u % v = R at *
    generalize u / v = Q at *
    have h1 : decide ((R : Int) < 0) = false := decide_eq_false (by omega)
    simp [h1, sgn]
  · rw [Int.tdiv_neg, Int.tmod_neg, tdiv_cast, tmod_cast]
    generalize u % v = R at *
    generalize u / v = Q at *
    have h1 : decide ((R : Int) < 0) = false := decide_eq_false (by omega)
    rw [h1]
    by_cases h0 : R = 0
    · simp [h0, sgn]
    · simp [h0, sgn]; omega
  · rw [Int.neg_tdiv, Int.neg_tmod, tdiv_cast, tmod_cast]
    generalize u % v = R at *
    generalize u / v = Q at *
    by_cases h0 : R = 0
    · simp [h0, sgn]
    · have h1 : decide (-(R : Int) < 0) = true := decide_eq_true (by omega)
      rw [h1]
      simp [h0, sgn]; omega
  · rw [Int.neg_tdiv, Int.neg_tmod, Int.tdiv_neg, Int.tmod_neg, tdiv_cast, tmod_cast]
    generalize u % v = R at *
    generalize u / v = Q at *
    by_cases h0 : R = 0
    · simp [h0, sgn]
    · have h1 : decide (-(R : Int) < 0) = true := decide_eq_true (by omega)
      rw [h1]
      simp [h0, sgn]
end Go.Proofs.YtpeinobepiodaaaGreatDoor
