/- Merged: GrowB. -/
import Derived.Test.YtielnneclcekbaaGreatDoorQAH
/- How numbers grow in one column of the Hermite form. No program is named here. -/
namespace Go.Proofs.YtielnneclcekbaaGreatDoor
set_option linter.unusedVariables false
set_option linter.unusedSimpArgs false
open Go.RowKit

theorem rowE_swap {m : List (List Int)} {d a : Nat} (hd : d < m.length) (ha : a < m.length) (i : Nat) : rowE_ (swapL m d a) i = if i = a then rowE_ m d else if i = d then rowE_ m a else rowE_ m i := by
  rw [swapL_eq (rowE_get hd) (rowE_get ha), rowE_set (by rw [List.length_set]; exact ha)]
  by_cases h1 : i = a
  · rw [if_pos h1, if_pos h1]
  · rw [if_neg h1, if_neg h1, rowE_set hd]
/-- The elements of a column from d on. -/
def ColM (d c M : Nat) (m : List (List Int)) : Prop := ∀ i, d ≤ i → i < m.length → (getE m i c).natAbs ≤ M
/-- They are not negative (or not positive). -/
def ColS (d c : Nat) (pos : Bool) (m : List (List Int)) : Prop := ∀ i, d ≤ i → i < m.length → if pos then 0 ≤ getE m i c else getE m i c ≤ 0

/-- One round: the least element comes first, the others are reduced by it. -/
theorem round_ok {n c d K M B U a Q : Nat} {m : List (List Int)} (hK : K ≤ 400000000) (h1 : 1 ≤ K) (hd : d < m.length) (hw : Wid n m) (hB : Low d B m) (hU : Upp d U m) (hM : ColM d c M m) (ha : bestO c d m (m.length - d) = some a) (hBK : B + 2 < 10 ^ K)
    (hQ : ∀ i, d ≤ i → i < m.length → (fdq (getE m i c) (getE m a c)).natAbs ≤ Q) :
    ∃ m2 rest, downO c d (swapL m d a) (m.length - (d + 1)) = some (m2, rest) ∧ m2.length = m.length ∧ Wid n m2 ∧ Low d (B + Q * B) m2 ∧ Upp d U m2 ∧ getE m2 d c = getE m a c ∧ RowLe B (rowE_ m2 d) ∧
      (∀ i, d < i → i < m.length → ∃ k, d ≤ k ∧ k < m.length ∧ getE m2 i c = fdr (getE m k c) (getE m a c)) ∧ (rest = false → ∀ i, d < i → i < m.length → getE m2 i c = 0) ∧ (rest = true → ∃ i, d < i ∧ i < m.length ∧ getE m2 i c ≠ 0) := by
  obtain ⟨b1, b2, b3, b4⟩ := best_some ha
  have hal : a < m.length := by omega
  have hsl : (swapL m d a).length = m.length := swapL_len m d a
  have hrow := rowE_swap hd hal
  -- where a row of the swapped matrix comes from
  have hfrom : ∀ i, d ≤ i → i < m.length → ∃ k, d ≤ k ∧ k < m.length ∧ rowE_ (swapL m d a) i = rowE_ m k := by
    intro i h2 h3
    rw [hrow]
    by_cases e1 : i = a
    · rw [if_pos e1]; exact ⟨d, Nat.le_refl _, hd, rfl⟩
    · rw [if_neg e1]
      by_cases e2 : i = d
      · rw [if_pos e2]; exact ⟨a, b1, hal, rfl⟩
      · rw [if_neg e2]; exact ⟨i, h2, h3, rfl⟩
  have hws : Wid n (swapL m d a) := by
    intro i hi
    rw [hsl] at hi
    rw [hrow]
    by_cases e1 : i = a
    · rw [if_pos e1]; exact hw d hd
    · rw [if_neg e1]
      by_cases e2 : i = d
      · rw [if_pos e2]; exact hw a hal
      · rw [if_neg e2]; exact hw i hi
  have hBs : Low d B (swapL m d a) := by
    intro i h2 h3
    rw [hsl] at h3
    obtain ⟨k, k1, k2, k3⟩ := hfrom i h2 h3
    rw [k3]; exact hB k k1 k2
  have hdrow : rowE_ (swapL m d a) d = rowE_ m a := by
    rw [hrow]
    by_cases e1 : d = a
    · rw [if_pos e1, e1]
    · rw [if_neg e1, if_pos rfl]
  have hpd : getE (swapL m d a) d c = getE m a c := by unfold getE; rw [hdrow]
  obtain ⟨m2, rest, e1, e2, e3, e4, e5, e6⟩ := down_ok (K := K) (B := B) hK h1 (by rw [hsl]; exact hd) hws (by rw [hpd]; exact b3) hBs hBK (m.length - (d + 1)) (by rw [hsl]; omega)
  rw [hsl] at e2 
  have hdm : d + 1 + (m.length - (d + 1)) = m.length := by omega
  rw [hdm] at e3 e4 e5 e6
  rw [hpd] at e4 e5 e6
  have hr2 : rowE_ m2 d = rowE_ m a := (e3 d (.inl (Nat.le_refl _))).trans hdrow
  have hcol : ∀ i, d < i → i < m.length → ∃ k, d ≤ k ∧ k < m.length ∧ rowE_ (swapL m d a) i = rowE_ m k ∧ getE (swapL m d a) i c = getE m k c ∧ getE m2 i c = fdr (getE m k c) (getE m a c) := by
    intro i h2 h3
    obtain ⟨k, k1, k2, k3⟩ := hfrom i (by omega) h3
    have hg : getE (swapL m d a) i c = getE m k c := by unfold getE; rw [k3]
    refine ⟨k, k1, k2, k3, hg, ?_⟩
    show (rowE_ m2 i).getD c 0 = _
    rw [e4 i h2 h3, lessL_getD _ (by rw [hws d (by rw [hsl]; exact hd), hws i (by rw [hsl]; exact h3)]), hdrow]
    have h5 := fd_eq (getE m k c) (getE m a c)
    show getE (swapL m d a) i c - fdq (getE (swapL m d a) i c) (getE m a c) * getE m a c = _
    rw [hg, Int.mul_comm]
    omega
  refine ⟨m2, rest, e1, e2, fun i hi => ?_, fun i h2 h3 => ?_, fun i h2 h3 => ?_, ?_, ?_, fun i h2 h3 => ?_, fun hr i h2 h3 => ?_, fun hr => ?_⟩
  · rw [e2] at hi
    by_cases hid : d < i
    · rw [e4 i hid hi, lessL_len]; exact hws i (by rw [hsl]; exact hi)
    · rw [e3 i (.inl (by omega))]; exact hws i (by rw [hsl]; exact hi)
  · rw [e2] at h3
    by_cases hid : d < i
    · obtain ⟨k, k1, k2, k3, k4, -⟩ := hcol i hid h3
      rw [e4 i hid h3, hdrow, k3, k4]
      exact (lessL_le _ _ _ (hB k k1 k2) (hB a b1 hal)).mono (Nat.add_le_add_left (Nat.mul_le_mul_right _ (hQ k k1 k2)) _)
    · obtain rfl : i = d := by omega
      rw [hr2]; exact (hB a b1 hal).mono (Nat.le_add_right _ _)
  · rw [e2] at h3
    have hne : i ≠ a := by omega
    rw [e3 i (.inl (by omega)), hrow, if_neg hne, if_neg (by omega)]
    exact hU i h2 h3
  · show (rowE_ m2 d).getD c 0 = _; rw [hr2]; rfl
  · rw [hr2]; exact hB a b1 hal
  · obtain ⟨k, k1, k2, -, -, k5⟩ := hcol i h2 h3; exact ⟨k, k1, k2, k5⟩
  · obtain ⟨k, k1, k2, -, k4, k5⟩ := hcol i h2 h3
    rw [k5, ← k4]; exact e5 hr i h2 h3
  · obtain ⟨i, h2, h3, h4⟩ := e6 hr
    obtain ⟨k, k1, k2, -, k4, k5⟩ := hcol i h2 h3
    exact ⟨i, h2, h3, by rw [k5, ← k4]; exact h4⟩

/-- The rows ahead, reduced by row d. -/
theorem up_ok {c d n K C U : Nat} {m : List (List Int)} (hK : K ≤ 400000000) (h1 : 1 ≤ K) (hd : d < m.length) (hw : Wid n m) (hp : getE m d c ≠ 0) (hC : RowLe C (rowE_ m d)) (hU : Upp d U m) (hCK : C < 10 ^ K) (hUK : U + 2 < 10 ^ K) :
    ∀ k, k ≤ d → ∃ m', upO c d m k = some m' ∧ m'.length = m.length ∧ (∀ i, k ≤ i → rowE_ m' i = rowE_ m i) ∧ (∀ i, i < k → rowE_ m' i = lessL (fdq (getE m i c) (getE m d c)) (rowE_ m i) (rowE_ m d))
  | 0, _ => ⟨m, rfl, rfl, fun _ _ => rfl, fun i h => by omega⟩
  | k + 1, hk => by
    obtain ⟨m1, e1, l1, a1, b1⟩ := up_ok hK h1 hd hw hp hC hU hCK hUK k (by omega)
    have hrd : rowE_ m1 d = rowE_ m d := a1 d (by omega)
    have hri : rowE_ m1 k = rowE_ m k := a1 k (Nat.le_refl _)
    have hpe : getE m1 d c = getE m d c := by unfold getE; rw [hrd]
    have hie : getE m1 k c = getE m k c := by unfold getE; rw [hri]
    have hq : (fdq (getE m k c) (getE m d c)).natAbs < 10 ^ K := by
      have h3 : (getE m k c).natAbs ≤ U := (hU k (by omega) (by omega)).getD c
      have h5 := fdq_bd (getE m k c) (getE m d c)
      omega
    have hlo := lessO_ok (k := fdq (getE m k c) (getE m d c)) hK h1 (show (rowE_ m d).length = (rowE_ m k).length by rw [hw d hd, hw k (by omega)]) (hU k (by omega) (by omega)) hC (by omega) hCK hq
    refine ⟨m1.set k (lessL (fdq (getE m k c) (getE m d c)) (rowE_ m k) (rowE_ m d)), ?_, by rw [List.length_set]; exact l1, fun i hi => ?_, fun i hi => ?_⟩
    · rw [upO_succ, e1]
      simp only
      rw [hpe, hie, hrd, hri, if_neg hp, hlo]
    · rw [rowE_set (by omega), if_neg (by omega)]; exact a1 i (by omega)
    · rw [rowE_set (by omega)]
      by_cases he : i = k
      · rw [if_pos he, he]
      · rw [if_neg he]; exact b1 i (by omega)

/-- What a column leaves. -/
structure SwR (n d c C U : Nat) (m m' : List (List Int)) : Prop where
  len : m'.length = m.length
  wid : Wid n m'
  low : Low d C m'
  upp : Upp d (U + (U + 1) * C) m'
  pos : 0 < getE m' d c
  zero : ∀ i, d < i → i < m.length → getE m' i c = 0
  red : ∀ i, i < d → 0 ≤ getE m' i c ∧ getE m' i c < getE m' d c

/-- The end of a column: its first element is made positive, and the rows ahead are reduced. -/
theorem finish_ok {n c d K C U : Nat} {m2 : List (List Int)} (hK : K ≤ 400000000) (h1 : 1 ≤ K) (hd : d < m2.length) (hw : Wid n m2) (hC : Low d C m2) (hU : Upp d U m2) (hp : getE m2 d c ≠ 0) (hz : ∀ i, d < i → i < m2.length → getE m2 i c = 0) (hCK : C < 10 ^ K) (hUK : U + 2 < 10 ^ K) :
    ∃ m4, upO c d (if getE m2 d c < 0 then m2.set d ((rowE_ m2 d).map (- ·)) else m2) d = some m4 ∧ SwR n d c C U m2 m4 := by
  obtain ⟨m3, hm3⟩ : ∃ m3, m3 = (if getE m2 d c < 0 then m2.set d ((rowE_ m2 d).map (- ·)) else m2) := ⟨_, rfl⟩
  rw [← hm3]
  have hneg : ∀ (r : List Int), (r.map (- ·)).getD c 0 = -(r.getD c 0) := by
    intro r
    simp only [List.getD_eq_getElem?_getD, List.getElem?_map]
    cases r[c]? <;> simp
  have l3 : m3.length = m2.length := by rw [hm3]; split <;> simp
  have r3 : ∀ i, i ≠ d → rowE_ m3 i = rowE_ m2 i := by
    intro i hi
    rw [hm3]; split
    · rw [rowE_set hd, if_neg hi]
    · rfl
  have d3 : rowE_ m3 d = rowE_ m2 d ∧ 0 < getE m2 d c ∨ rowE_ m3 d = (rowE_ m2 d).map (- ·) ∧ getE m2 d c < 0 := by
    rw [hm3]
    by_cases hn : getE m2 d c < 0
    · rw [if_pos hn, rowE_set hd, if_pos rfl]; exact .inr ⟨rfl, hn⟩
    · rw [if_neg hn]; exact .inl ⟨rfl, by omega⟩
  have hp3 : 0 < getE m3 d c := by
    rcases d3 with ⟨h, h'⟩ | ⟨h, h'⟩
    · show 0 < (rowE_ m3 d).getD c 0; rw [h]; exact h'
    · show 0 < (rowE_ m3 d).getD c 0; rw [h, hneg]; have : (rowE_ m2 d).getD c 0 < 0 := h'; omega
  have hw3 : Wid n m3 := by
    intro i hi
    by_cases he : i = d
    · rw [he]
      rcases d3 with ⟨h, -⟩ | ⟨h, -⟩
      · rw [h]; exact hw d hd
      · rw [h, List.length_map]; exact hw d hd
    · rw [r3 i he]; exact hw i (by omega)
  have hC3 : RowLe C (rowE_ m3 d) := by
    rcases d3 with ⟨h, -⟩ | ⟨h, -⟩
    · rw [h]; exact hC d (Nat.le_refl _) hd
    · rw [h]; exact (hC d (Nat.le_refl _) hd).neg
  have hU3 : Upp d U m3 := fun i h2 h3 => by rw [r3 i (by omega)]; exact hU i h2 (by omega)
  obtain ⟨m4, e1, e2, e3, e4⟩ := up_ok hK h1 (by omega) hw3 (Int.ne_of_gt hp3) hC3 hU3 hCK hUK d (Nat.le_refl _)
  have hd4 : getE m4 d c = getE m3 d c := by unfold getE; rw [e3 d (Nat.le_refl _)]
  refine ⟨m4, e1, by omega, fun i hi => ?_, fun i h2 h3 => ?_, fun i h2 h3 => ?_, by rw [hd4]; exact hp3, fun i h2 h3 => ?_, fun i h2 => ?_⟩
  · by_cases he : i < d
    · rw [e4 i he, lessL_len]; exact hw3 i (by omega)
    · rw [e3 i (by omega)]; exact hw3 i (by omega)
  · rw [e3 i h2]
    by_cases he : i = d
    · rw [he]; exact hC3
    · rw [r3 i he]; exact hC i h2 (by omega)
  · rw [e4 i h2]
    have hx : (getE m3 i c).natAbs ≤ U := (hU3 i h2 (by omega)).getD c
    exact (lessL_le _ _ _ (hU3 i h2 (by omega)) hC3).mono (Nat.add_le_add_left (Nat.mul_le_mul_right _ (Nat.le_trans (fdq_bd _ _) (by omega))) _)
  · show (rowE_ m4 i).getD c 0 = 0
    rw [e3 i (by omega), r3 i (by omega)]
    exact hz i h2 h3
  · have hg : getE m4 i c = fdr (getE m3 i c) (getE m3 d c) := by
      show (rowE_ m4 i).getD c 0 = _
      rw [e4 i h2, lessL_getD _ (by rw [hw3 d (by omega), hw3 i (by omega)])]
      have h5 := fd_eq (getE m3 i c) (getE m3 d c)
      show getE m3 i c - fdq (getE m3 i c) (getE m3 d c) * getE m3 d c = _
      rw [Int.mul_comm]; omega
    rw [hg, hd4]
    exact fdr_pos _ _ hp3
end Go.Proofs.YtielnneclcekbaaGreatDoor
