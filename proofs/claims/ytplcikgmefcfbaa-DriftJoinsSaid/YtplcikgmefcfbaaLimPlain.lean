/- Plain facts on the walk of DriftLimits: it goes on by the same interval at each step. -/
import Derived.Test.YtplcikgmefcfbaaDriftF
namespace Go.Proofs.Ytplcikgmefcfbaa
set_option linter.unusedVariables false
set_option linter.unusedSimpArgs false
open Go.RowKit

def limWk (p q : Int) (n : Nat) : Wk := { primes := [2, 3], chords := List.replicate n [[0, 0], [p, q]], links := List.replicate (n - 1) [(1, 0)] }

theorem getD_rep {α : Type} {n i : Nat} (x d : α) (h : i < n) : (List.replicate n x).getD i d = x := by
  rw [List.getD_eq_getElem?_getD, List.getElem?_replicate, if_pos h]; rfl

theorem lim_lead (p q : Int) (n i : Nat) (h : i + 1 < n) : leadRow (limWk p q n) i 0 = [p, q] := by
  have h1 : (List.replicate (n - 1) [((1 : Int), (0 : Int))]).getD i [] = [(1, 0)] := getD_rep _ _ (by omega)
  have h2 : (List.replicate n [[(0 : Int), 0], [p, q]]).getD i [] = [[0, 0], [p, q]] := getD_rep _ _ (by omega)
  have h3 : (List.replicate n [[(0 : Int), 0], [p, q]]).getD (i + 1) [] = [[0, 0], [p, q]] := getD_rep _ _ (by omega)
  unfold leadRow
  simp only [limWk]
  rw [h1]
  simp only [List.getD_cons_zero]
  rw [h2, h3]
  simp [sumRows]

theorem lim_root (p q : Int) (n : Nat) : ∀ i, i < n → rootAt (limWk p q n) i = [i * p, i * q]
  | 0, _ => by simp [rootAt, limWk]
  | i + 1, h => by
    rw [rootAt, lim_root p q n i (by omega), lim_lead p q n i h]
    simp [accRow, Int.add_mul]

theorem primes23 : primesE [2, 3] = 0 := by decide

theorem lim_chords (p q : Int) (hp : -1000 ≤ p ∧ p ≤ 1000) (hq : -1000 ≤ q ∧ q ≤ 1000) : ∀ m, chordsE [2, 3] (List.replicate m [[0, 0], [p, q]]) = 0
  | 0 => rfl
  | m + 1 => by
    have hr : rowsE 2 [[0, 0], [p, q]] = 0 := by
      simp [rowsE, farB]
      omega
    rw [List.replicate_succ, chordsE, if_pos (show countE _ 12 = 0 from rfl), if_pos (by rw [checkAllE, if_pos primes23]; exact hr), lim_chords p q hp hq m]

theorem lim_links (p q : Int) (n : Nat) : ∀ m i, i + m + 1 ≤ n → linksE (List.replicate n [[0, 0], [p, q]]) i (List.replicate m [(1, 0)]) = 0
  | 0, _, _ => rfl
  | m + 1, i, h => by
    have h2 : (List.replicate n [[(0 : Int), 0], [p, q]]).getD i [] = [[0, 0], [p, q]] := getD_rep _ _ (by omega)
    have h3 : (List.replicate n [[(0 : Int), 0], [p, q]]).getD (i + 1) [] = [[0, 0], [p, q]] := getD_rep _ _ (by omega)
    rw [List.replicate_succ, linksE, if_pos (by decide), h2, h3, if_neg (by simp [badLink]), lim_links p q n m (i + 1) (by omega)]

theorem lim_walk (p q : Int) (n : Nat) (hn : 1 ≤ n ∧ n ≤ 5) (hp : -1000 ≤ p ∧ p ≤ 1000) (hq : -1000 ≤ q ∧ q ≤ 1000) : walkE (limWk p q n) = 0 := by
  unfold walkE
  simp only [limWk, List.length_replicate]
  rw [if_pos primes23, if_pos (by unfold countE; rw [if_neg (by omega), if_neg (by omega)]), if_pos (lim_chords p q hp hq n), if_pos (by omega), lim_links p q n (n - 1) 0 (by omega)]

def limFar (p q : Int) (n : Nat) : List Int := [((n : Int) - 1) * p, ((n : Int) - 1) * q]

theorem lim_drift (p q : Int) (n : Nat) (hn : 1 ≤ n ∧ n ≤ 5) : driftOf (limWk p q n) = limFar p q n := by
  unfold driftOf limFar
  simp only [limWk, List.length_replicate]
  have := lim_root p q n (n - 1) (by omega)
  simp only [limWk] at this
  rw [this]
  rw [show ((n - 1 : Nat) : Int) = (n : Int) - 1 by omega]

theorem lim_driftE (p q : Int) (n : Nat) (hn : 1 ≤ n ∧ n ≤ 5) (hp : -1000 ≤ p ∧ p ≤ 1000) (hq : -1000 ≤ q ∧ q ≤ 1000) : driftE (limWk p q n) = if (limFar p q n).any farB then 4 else 0 := by
  unfold driftE
  rw [if_pos (lim_walk p q n hn hp hq), lim_drift p q n hn]
  show checkAllE [2, 3] [limFar p q n] = _
  rw [checkAllE, if_pos primes23]
  simp only [rowsE, limFar, List.length_cons, List.length_nil, if_true]

theorem rows_any {n : Nat} : ∀ {l : List (List Int)}, (∀ x ∈ l, x.length = n) → rowsE n l = if l.any (fun x => x.any farB) then 4 else 0
  | [], _ => rfl
  | x :: l, h => by
    rw [rowsE, if_pos (h x (by simp)), rows_any (fun y hy => h y (by simp [hy]))]
    by_cases hx : x.any farB = true
    · simp [hx]
    · simp [hx]

theorem lim_rootsE (p q : Int) (n : Nat) (hn : 1 ≤ n ∧ n ≤ 5) (hp : -1000 ≤ p ∧ p ≤ 1000) (hq : -1000 ≤ q ∧ q ≤ 1000) : rootsE (limWk p q n) = if (limFar p q n).any farB then 4 else 0 := by
  unfold rootsE
  rw [if_pos (lim_walk p q n hn hp hq)]
  have hl : (limWk p q n).links.length = n - 1 := by simp [limWk]
  rw [hl]
  have hr : rootsOf (limWk p q n) (n - 1) = (List.range n).map fun (i : Nat) => [(i : Int) * p, (i : Int) * q] := by
    unfold rootsOf
    rw [show n - 1 + 1 = n by omega]
    apply List.map_congr_left
    intro i hi
    exact lim_root p q n i (List.mem_range.1 hi)
  rw [hr]
  show checkAllE [2, 3] _ = _
  rw [checkAllE, if_pos primes23, rows_any (by intro x hx; obtain ⟨i, _, rfl⟩ := List.mem_map.1 hx; rfl)]
  congr 1
  rw [eq_iff_iff, List.any_eq_true]
  obtain ⟨h1, h5⟩ := hn
  have hmul : ∀ (i : Nat) (z : Int), i < n → farB ((i : Int) * z) = true → farB (((n : Int) - 1) * z) = true := by
    intro i z hi h
    simp only [farB, Bool.or_eq_true, decide_eq_true_eq] at h ⊢
    have hk : (i : Int) ≤ (n : Int) - 1 := by omega
    have hk0 : (0 : Int) ≤ i := by omega
    rcases Int.le_total 0 z with hz | hz
    · have a := Int.mul_le_mul_of_nonneg_right hk hz
      have b := Int.mul_nonneg hk0 hz
      omega
    · have a := Int.mul_le_mul_of_nonpos_right hk hz
      have b := Int.mul_nonpos_of_nonneg_of_nonpos hk0 hz
      omega
  constructor
  · rintro ⟨x, hx, hf⟩
    obtain ⟨i, hi, rfl⟩ := List.mem_map.1 hx
    have hi := List.mem_range.1 hi
    simp only [List.any_cons, List.any_nil, Bool.or_false, Bool.or_eq_true] at hf
    simp only [limFar, List.any_cons, List.any_nil, Bool.or_false, Bool.or_eq_true]
    rcases hf with hf | hf
    · exact .inl (hmul i p hi hf)
    · exact .inr (hmul i q hi hf)
  · intro hf
    refine ⟨limFar p q n, List.mem_map.2 ⟨n - 1, List.mem_range.2 (by omega), ?_⟩, hf⟩
    rw [show ((n - 1 : Nat) : Int) = (n : Int) - 1 by omega]
    rfl
end Go.Proofs.Ytplcikgmefcfbaa
