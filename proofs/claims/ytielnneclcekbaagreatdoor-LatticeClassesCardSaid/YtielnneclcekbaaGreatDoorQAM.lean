/- Merged: GrowG. -/
import Derived.Test.YtielnneclcekbaaGreatDoorQAL
/- The Hermite form of a lattice is one alone. No program is named here. -/
namespace Go.Proofs.YtielnneclcekbaaGreatDoor
set_option linter.unusedVariables false
set_option linter.unusedSimpArgs false
open Go.RowKit

theorem lessL_self : ∀ (r : List Int), lessL 1 r r = List.replicate r.length 0
  | [] => rfl
  | a :: r => by
    have e : lessL 1 (a :: r) (a :: r) = (a - 1 * a) :: lessL 1 r r := rfl
    rw [e, lessL_self r, List.length_cons, List.replicate_succ]
    congr 1; omega
theorem lessL_swap (k t u : Int) : ∀ (r s x : List Int), r.length = x.length → s.length = x.length → lessL (t - k * u) (lessL k r s) x = lessL k (lessL t r x) (lessL u s x)
  | [], [], [], _, _ => rfl
  | [], _ :: _, [], _, h2 => by simp at h2
  | _ :: _, _, [], h1, _ => by simp at h1
  | [], _, _ :: _, h1, _ => by simp at h1
  | _ :: _, [], _ :: _, _, h2 => by simp at h2
  | a :: r, b :: s, c :: x, h1, h2 => by
    have e : lessL (t - k * u) (lessL k (a :: r) (b :: s)) (c :: x) = (a - k * b - (t - k * u) * c) :: lessL (t - k * u) (lessL k r s) x := rfl
    have e2 : lessL k (lessL t (a :: r) (c :: x)) (lessL u (b :: s) (c :: x)) = (a - t * c - k * (b - u * c)) :: lessL k (lessL t r x) (lessL u s x) := rfl
    rw [e, e2, lessL_swap k t u r s x (by simpa using h1) (by simpa using h2), Int.sub_mul, Int.mul_sub, Int.mul_assoc]
    congr 1; omega
/-- The first row is taken away. -/
theorem Sp.peel {n d : Nat} {R : List (List Int)} (hW : Wid n R) (hd : d < R.length) {v : List Int} (h : Sp n (RowsFrom d R) v) : ∃ t, Sp n (RowsFrom (d + 1) R) (lessL t v (rowE_ R d)) := by
  induction h with
  | zero => exact ⟨0, by rw [lessL_zero]; exact .zero⟩
  | mem h =>
    obtain ⟨i, h1, h2, rfl⟩ := h
    by_cases hi : i = d
    · exact ⟨1, by rw [hi, lessL_self, hW d hd]; exact .zero⟩
    · exact ⟨0, by rw [lessL_zero]; exact .mem (rowsFrom_mem (by omega) h2)⟩
  | less k h h' ih ih' =>
    obtain ⟨t, ht⟩ := ih
    obtain ⟨u, hu⟩ := ih'
    refine ⟨t - k * u, ?_⟩
    rw [lessL_swap k t u _ _ _ (by rw [h.len (rowsFrom_len hW), hW d hd]) (by rw [h'.len (rowsFrom_len hW), hW d hd])]
    exact .less k ht hu
/-- The elements of a row of the lattice at the first pivot are multiples of it. -/
theorem Sp.first {n d : Nat} {R : List (List Int)} {ps : Nat → Nat} (hR : HForm n R ps) (hd : d < R.length) {v : List Int} (h : Sp n (RowsFrom d R) v) : ∃ t, v.getD (ps d) 0 = t * getE R d (ps d) ∧ Sp n (RowsFrom (d + 1) R) (lessL t v (rowE_ R d)) := by
  obtain ⟨t, ht⟩ := h.peel hR.1 hd
  refine ⟨t, ?_, ht⟩
  have h0 : (lessL t v (rowE_ R d)).getD (ps d) 0 = 0 := ht.zeroCol (rowsFrom_len hR.1) (by
    rintro r ⟨i, h1, h2, rfl⟩
    exact hR.2.zero i h2 (ps d) (hR.2.mono d i (by omega) h2))
  rw [lessL_getD t (by rw [h.len (rowsFrom_len hR.1), hR.1 d hd])] at h0
  unfold getE
  omega
theorem Sp.none {n d : Nat} {R : List (List Int)} (hW : Wid n R) (hd : R.length ≤ d) {v : List Int} (h : Sp n (RowsFrom d R) v) : v = List.replicate n 0 :=
  row_zero (h.len (rowsFrom_len hW)) fun c _ => h.zeroCol (rowsFrom_len hW) (by rintro r ⟨i, h1, h2, rfl⟩; omega)
theorem small_mul {t p : Int} (hp : 0 < p) (h1 : -p < t * p) (h2 : t * p < p) : t = 0 := by
  rcases Int.lt_trichotomy t 0 with h | h | h
  · have : t * p ≤ (-1) * p := Int.mul_le_mul_of_nonneg_right (by omega) (by omega)
    omega
  · exact h
  · have : 1 * p ≤ t * p := Int.mul_le_mul_of_nonneg_right (by omega) (by omega)
    omega
/-- A row of the lattice that is small at all pivots is 0. -/
theorem Sp.small {n : Nat} {R : List (List Int)} {ps : Nat → Nat} (hR : HForm n R ps) {v : List Int} : ∀ (k d : Nat), R.length - d = k → Sp n (RowsFrom d R) v → (∀ i, d ≤ i → i < R.length → -getE R i (ps i) < v.getD (ps i) 0 ∧ v.getD (ps i) 0 < getE R i (ps i)) → v = List.replicate n 0
  | 0, d, hk, h, hs => h.none hR.1 (by omega)
  | k + 1, d, hk, h, hs => by
    obtain ⟨t, e, ht⟩ := h.first hR (by omega)
    have hsd := hs d (Nat.le_refl _) (by omega)
    rw [e] at hsd
    have h0 : t = 0 := small_mul (hR.2.pos d (by omega)) hsd.1 hsd.2
    rw [h0, lessL_zero] at ht
    exact Sp.small hR k (d + 1) (by omega) ht fun i h1 h2 => hs i (by omega) h2
/-- The first element of a row of the lattice that is not 0 stands at a pivot, and is a multiple of it. -/
theorem Sp.lead {n c : Nat} {R : List (List Int)} {ps : Nat → Nat} (hR : HForm n R ps) {v : List Int} (hc : v.getD c 0 ≠ 0) (hz : ∀ c', c' < c → v.getD c' 0 = 0) : ∀ (k d : Nat), R.length - d = k → Sp n (RowsFrom d R) v → ∃ i t, d ≤ i ∧ i < R.length ∧ ps i = c ∧ v.getD c 0 = t * getE R i c
  | 0, d, hk, h => absurd (h.zeroCol (rowsFrom_len hR.1) (by rintro r ⟨i, h1, h2, rfl⟩; omega)) hc
  | k + 1, d, hk, h => by
    obtain ⟨t, e, ht⟩ := h.first hR (by omega)
    rcases Nat.lt_trichotomy (ps d) c with hl | hl | hl
    · rw [hz _ hl] at e
      have hp := hR.2.pos d (by omega)
      have h0 : t = 0 := small_mul hp (by omega) (by omega)
      rw [h0, lessL_zero] at ht
      obtain ⟨i, t', h1, h2, h3⟩ := Sp.lead hR hc hz k (d + 1) (by omega) ht
      exact ⟨i, t', by omega, h2, h3⟩
    · exact ⟨d, t, Nat.le_refl _, by omega, hl, by rw [← hl]; exact e⟩
    · refine absurd (h.zeroCol (rowsFrom_len hR.1) ?_) hc
      rintro r ⟨i, h1, h2, rfl⟩
      refine hR.2.zero i h2 c ?_
      by_cases hi : i = d
      · rw [hi]; exact hl
      · have := hR.2.mono d i (by omega) h2; omega

/-- The pivots of one form are pivots of the other one. -/
theorem hform_piv {n : Nat} {R T : List (List Int)} {ps qs : Nat → Nat} (hR : HForm n R ps) (hT : HForm n T qs) (hs : SpEq n (RowsFrom 0 R) (RowsFrom 0 T)) (j : Nat) (hj : j < T.length) : ∃ i t, i < R.length ∧ ps i = qs j ∧ getE T j (qs j) = t * getE R i (qs j) := by
  have h := hs.2 _ (rowsFrom_mem (Nat.zero_le j) hj)
  have hp := hT.2.pos j hj
  obtain ⟨i, t, -, h2, h3, h4⟩ := Sp.lead (c := qs j) hR (show getE T j (qs j) ≠ 0 by omega) (fun c' hc => hT.2.zero j hj c' hc) _ 0 rfl h
  exact ⟨i, t, h2, h3, h4⟩
theorem SpEq.symm {n : Nat} {S T : List Int → Prop} (h : SpEq n S T) : SpEq n T S := ⟨h.2, h.1⟩
theorem hform_ps {n : Nat} {R T : List (List Int)} {ps qs : Nat → Nat} (hR : HForm n R ps) (hT : HForm n T qs) (hs : SpEq n (RowsFrom 0 R) (RowsFrom 0 T)) : ∀ (k i : Nat), i ≤ k → i < R.length → i < T.length ∧ ps i = qs i := by
  intro k
  induction k with
  | zero =>
    intro i hi hl
    obtain rfl : i = 0 := by omega
    obtain ⟨j, t, h1, h2, -⟩ := hform_piv hT hR hs.symm 0 hl
    obtain ⟨j', t', h1', h2', -⟩ := hform_piv hR hT hs 0 (by omega)
    refine ⟨by omega, ?_⟩
    by_cases hj : j = 0
    · rw [hj] at h2; exact h2.symm
    · have a1 := hT.2.mono 0 j (by omega) h1
      by_cases hj' : j' = 0
      · rw [hj'] at h2'; exact h2'
      · have a2 := hR.2.mono 0 j' (by omega) h1'; omega
  | succ k ih =>
    intro i hi hl
    by_cases hik : i ≤ k
    · exact ih i hik hl
    · obtain ⟨j, t, h1, h2, -⟩ := hform_piv hT hR hs.symm i hl
      have hji : i ≤ j := by
        rcases Nat.lt_or_ge j i with h | h
        · have a1 := ih j (by omega) (by omega)
          have a2 := hR.2.mono j i h hl
          omega
        · exact h
      obtain ⟨j', t', h1', h2', -⟩ := hform_piv hR hT hs i (by omega)
      have hji' : i ≤ j' := by
        rcases Nat.lt_or_ge j' i with h | h
        · have a1 := ih j' (by omega) h1'
          have a2 := hT.2.mono j' i h (by omega)
          omega
        · exact h
      refine ⟨by omega, ?_⟩
      have a1 : qs i ≤ qs j := by
        by_cases he : i = j
        · rw [he]; exact Nat.le_refl _
        · exact Nat.le_of_lt (hT.2.mono i j (by omega) h1)
      have a2 : ps i ≤ ps j' := by
        by_cases he : i = j'
        · rw [he]; exact Nat.le_refl _
        · exact Nat.le_of_lt (hR.2.mono i j' (by omega) h1')
      omega
theorem dvd_pos {a b t u : Int} (ha : 0 < a) (hb : 0 < b) (h : a = t * b) (h' : b = u * a) : a = b := by
  have ht : 1 ≤ t := by
    rcases Int.lt_or_le t 1 with h1 | h1
    · have : t * b ≤ 0 * b := Int.mul_le_mul_of_nonneg_right (by omega) (by omega)
      omega
    · exact h1
  have hu : 1 ≤ u := by
    rcases Int.lt_or_le u 1 with h1 | h1
    · have : u * a ≤ 0 * a := Int.mul_le_mul_of_nonneg_right (by omega) (by omega)
      omega
    · exact h1
  have h1 : 1 * b ≤ t * b := Int.mul_le_mul_of_nonneg_right ht (by omega)
  have h2 : 1 * a ≤ u * a := Int.mul_le_mul_of_nonneg_right hu (by omega)
  omega
theorem lessL_one_zero {r s : List Int} (hl : r.length = s.length) (h : lessL 1 r s = List.replicate r.length 0) : r = s := by
  apply List.ext_getElem hl
  intro i h1 h2
  have e := lessL_getD 1 hl.symm i
  rw [h] at e
  simp only [List.getD_eq_getElem?_getD, List.getElem?_eq_getElem h1, List.getElem?_eq_getElem h2] at e
  rw [List.getElem?_eq_getElem (by simpa using h1)] at e
  simp at e
  omega

/-- Two Hermite forms that generate the same are the same. -/
theorem hform_unique {n : Nat} {R T : List (List Int)} {ps qs : Nat → Nat} (hR : HForm n R ps) (hT : HForm n T qs) (hs : SpEq n (RowsFrom 0 R) (RowsFrom 0 T)) : R = T := by
  have hp := fun i (hi : i < R.length) => hform_ps hR hT hs i i (Nat.le_refl _) hi
  have hq := fun i (hi : i < T.length) => hform_ps hT hR hs.symm i i (Nat.le_refl _) hi
  have hl : R.length = T.length := by
    rcases Nat.lt_trichotomy R.length T.length with h | h | h
    · have := (hq _ h).1; omega
    · exact h
    · have := (hp _ h).1; omega
  -- the pivots
  have hpv : ∀ i, i < R.length → getE R i (ps i) = getE T i (ps i) := by
    intro i hi
    obtain ⟨j, t, h1, h2, h3⟩ := hform_piv hT hR hs.symm i hi
    obtain ⟨j', t', h1', h2', h3'⟩ := hform_piv hR hT hs i (by omega)
    have hji : j = i := by
      rcases Nat.lt_trichotomy j i with h | h | h
      · have := hT.2.mono j i h (by omega); have := (hp i hi).2; omega
      · exact h
      · have := hT.2.mono i j h h1; have := (hp i hi).2; omega
    have hji' : j' = i := by
      rcases Nat.lt_trichotomy j' i with h | h | h
      · have := hR.2.mono j' i h hi; have := (hp i hi).2; omega
      · exact h
      · have := hR.2.mono i j' h h1'; have := (hp i hi).2; omega
    rw [hji] at h3
    rw [hji', ← (hp i hi).2] at h3'
    have hpos := hT.2.pos i (by omega)
    rw [← (hp i hi).2] at hpos
    exact dvd_pos (hR.2.pos i hi) hpos h3 h3'
  apply List.ext_getElem hl
  intro i h1 h2
  have e1 : rowE_ R i = R[i] := rowE_of (List.getElem?_eq_getElem h1)
  have e2 : rowE_ T i = T[i] := rowE_of (List.getElem?_eq_getElem h2)
  rw [← e1, ← e2]
  have hlen : (rowE_ R i).length = (rowE_ T i).length := by rw [hR.1 i h1, hT.1 i h2]
  refine lessL_one_zero hlen ?_
  rw [hR.1 i h1]
  refine Sp.small hR _ 0 rfl (.less 1 (.mem (rowsFrom_mem (Nat.zero_le _) h1)) (hs.2 _ (rowsFrom_mem (Nat.zero_le _) h2))) fun j _ hj => ?_
  rw [lessL_getD 1 hlen.symm]
  show -getE R j (ps j) < getE R i (ps j) - 1 * getE T i (ps j) ∧ getE R i (ps j) - 1 * getE T i (ps j) < getE R j (ps j)
  have hpj := hR.2.pos j hj
  rcases Nat.lt_trichotomy i j with h | h | h
  · have a1 := hR.2.red i j h hj
    have a2 := hT.2.red i j h (by omega)
    rw [← (hp j hj).2, ← hpv j hj] at a2
    omega
  · subst h
    rw [hpv i h1] at hpj ⊢
    omega
  · rw [hR.2.zero i h1 (ps j) (hR.2.mono j i h h1)]
    have hx := hT.2.zero i h2 (qs j) (hT.2.mono j i h h2)
    rw [← (hp j hj).2] at hx
    rw [hx]; omega
end Go.Proofs.YtielnneclcekbaaGreatDoor
