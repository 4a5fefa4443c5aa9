/- Merged: GrowA. -/
import Derived.Test.YtielnneclcekbaaGreatDoorQAG
import Derived.Test.YtielnneclcekbaaGreatDoorQAD
/- How numbers grow in the steps of the Hermite form. No program is named here. -/
namespace Go.Proofs.YtielnneclcekbaaGreatDoor
set_option linter.unusedVariables false
set_option linter.unusedSimpArgs false
open Go.RowKit

theorem fdq_mul_le (x y : Int) (hy : y ≠ 0) : (fdq x y).natAbs * y.natAbs ≤ x.natAbs + y.natAbs ∧ (fdr x y).natAbs < y.natAbs := by
  have e := fd_eq x y
  have h2 : (fdr x y).natAbs < y.natAbs := by
    rcases Int.lt_or_gt_of_ne hy with h | h
    · have := fdr_neg x y h; omega
    · have := fdr_pos x y h; omega
  refine ⟨?_, h2⟩
  have h3 : y * fdq x y = x - fdr x y := by omega
  have h4 : (y * fdq x y).natAbs = y.natAbs * (fdq x y).natAbs := Int.natAbs_mul _ _
  rw [Nat.mul_comm, ← h4, h3]
  omega
/-- The numbers have the same sign, or one is 0. -/
def SameS (x y : Int) : Prop := (0 ≤ x ∧ 0 < y) ∨ (x ≤ 0 ∧ y < 0)
theorem fdq_same (x y : Int) (h : SameS x y) : (fdq x y).natAbs * y.natAbs ≤ x.natAbs ∧ (fdr x y).natAbs ≤ x.natAbs ∧ SameS (fdr x y) y ∧ (y.natAbs ≤ x.natAbs → 2 * (fdr x y).natAbs ≤ x.natAbs) := by
  have e := fd_eq x y
  have h4 : (y * fdq x y).natAbs = y.natAbs * (fdq x y).natAbs := Int.natAbs_mul _ _
  have h3 : y * fdq x y = x - fdr x y := by omega
  rcases h with ⟨hx, hy⟩ | ⟨hx, hy⟩
  · have hr := fdr_pos x y hy
    -- the quotient is not negative
    have hq : 0 ≤ fdq x y := by
      rcases Int.lt_or_le (fdq x y) 0 with hn | hn
      · have : y * fdq x y ≤ y * (-1) := Int.mul_le_mul_of_nonneg_left (by omega) (by omega)
        omega
      · exact hn
    have hp : 0 ≤ y * fdq x y := Int.mul_nonneg (by omega) hq
    refine ⟨by rw [Nat.mul_comm, ← h4, h3]; omega, by omega, .inl ⟨hr.1, hy⟩, fun hle => ?_⟩
    have hq1 : 1 ≤ fdq x y := by
      rcases Int.lt_or_le (fdq x y) 1 with hn | hn
      · have h0 : fdq x y = 0 := by omega
        rw [h0, Int.mul_zero] at h3; omega
      · exact hn
    have : y * 1 ≤ y * fdq x y := Int.mul_le_mul_of_nonneg_left hq1 (by omega)
    omega
  · have hr := fdr_neg x y hy
    have hq : 0 ≤ fdq x y := by
      rcases Int.lt_or_le (fdq x y) 0 with hn | hn
      · have : (-y) * fdq x y ≤ (-y) * (-1) := Int.mul_le_mul_of_nonneg_left (by omega) (by omega)
        have e2 : (-y) * fdq x y = -(y * fdq x y) := Int.neg_mul _ _
        omega
      · exact hn
    have hp : 0 ≤ (-y) * fdq x y := Int.mul_nonneg (by omega) hq
    have e2 : (-y) * fdq x y = -(y * fdq x y) := Int.neg_mul _ _
    refine ⟨by rw [Nat.mul_comm, ← h4, h3]; omega, by omega, .inr ⟨hr.2, hy⟩, fun hle => ?_⟩
    have hq1 : 1 ≤ fdq x y := by
      rcases Int.lt_or_le (fdq x y) 1 with hn | hn
      · have h0 : fdq x y = 0 := by omega
        rw [h0, Int.mul_zero] at h3; omega
      · exact hn
    have : (-y) * 1 ≤ (-y) * fdq x y := Int.mul_le_mul_of_nonneg_left hq1 (by omega)
    omega

/-- All elements are at most B. -/
def RowLe (B : Nat) (r : List Int) : Prop := ∀ x ∈ r, x.natAbs ≤ B
theorem RowLe.mono {B B' : Nat} {r : List Int} (h : RowLe B r) (hb : B ≤ B') : RowLe B' r := fun x hx => Nat.le_trans (h x hx) hb
theorem RowLe.getD {B : Nat} {r : List Int} (h : RowLe B r) (c : Nat) : (r.getD c 0).natAbs ≤ B := by
  rw [List.getD_eq_getElem?_getD]
  cases hc : r[c]? with
  | none => simp
  | some x => exact h x (List.mem_of_getElem? hc)
theorem RowLe.neg {B : Nat} {r : List Int} (h : RowLe B r) : RowLe B (r.map (- ·)) := by
  intro x hx
  obtain ⟨y, hy, rfl⟩ := List.mem_map.1 hx
  rw [Int.natAbs_neg]; exact h y hy
theorem lessL_le {B C : Nat} (k : Int) : ∀ (r s : List Int), RowLe B r → RowLe C s → RowLe (B + k.natAbs * C) (lessL k r s)
  | r, [], h, _ => by
    have : lessL k r [] = r := by cases r <;> rfl
    rw [this]; exact h.mono (Nat.le_add_right _ _)
  | [], _ :: _, _, _ => fun x hx => by simp [lessL] at hx
  | a :: r, b :: s, h, h' => by
    intro x hx
    unfold lessL at hx
    rcases List.mem_cons.1 hx with rfl | hx
    · have h1 := h a (by simp)
      have h2 := h' b (by simp)
      have h3 : (k * b).natAbs ≤ k.natAbs * C := by rw [Int.natAbs_mul]; exact Nat.mul_le_mul_left _ h2
      omega
    · exact lessL_le k r s (fun y hy => h y (by simp [hy])) (fun y hy => h' y (by simp [hy])) x hx
theorem lessL_zero : ∀ (r s : List Int), lessL 0 r s = r
  | r, [] => by cases r <;> rfl
  | [], _ :: _ => rfl
  | a :: r, b :: s => by unfold lessL; rw [lessL_zero r s]; simp
theorem lessL_getD (k : Int) {r s : List Int} (hl : s.length = r.length) (c : Nat) : (lessL k r s).getD c 0 = r.getD c 0 - k * s.getD c 0 := by
  simp only [List.getD_eq_getElem?_getD]
  by_cases hc : c < r.length
  · rw [lessL_get k r s c r[c] (s[c]'(by omega)) (List.getElem?_eq_getElem hc) (List.getElem?_eq_getElem _), List.getElem?_eq_getElem hc, List.getElem?_eq_getElem (by omega)]; rfl
  · rw [List.getElem?_eq_none (by rw [lessL_len]; omega), List.getElem?_eq_none (by omega), List.getElem?_eq_none (by omega)]; simp
theorem smB_of {x : Int} {K : Nat} (hK : K ≤ 1000000000) (h1 : 1 ≤ K) (h : x.natAbs < 10 ^ K) : smB x = true := (smB_iff x).2 (Nat.le_trans (numB_size_le _ K h h1) hK)
theorem sm9B_of {x : Int} {K : Nat} (hK : K ≤ 400000000) (h1 : 1 ≤ K) (h : x.natAbs < 10 ^ K) : sm9B x = true := (sm9B_iff x).2 (Nat.le_trans (numB_size_le _ K h h1) hK)
/-- A row less a multiple of another one, where numbers stay small. -/
theorem lessO_ok {K B C : Nat} {k : Int} {r s : List Int} (hK : K ≤ 400000000) (h1 : 1 ≤ K) (hl : s.length = r.length) (hr : RowLe B r) (hs : RowLe C s) (hB : B < 10 ^ K) (hC : C < 10 ^ K) (hk : k.natAbs < 10 ^ K) : lessO k r s = some (lessL k r s) := by
  unfold lessO
  by_cases h0 : k = 0
  · rw [if_pos h0, h0, lessL_zero]
  · have hc : (sm9B k && s.all sm9B && r.all smB) = true := by
      rw [Bool.and_eq_true, Bool.and_eq_true, List.all_eq_true, List.all_eq_true]
      exact ⟨⟨sm9B_of hK h1 hk, fun x hx => sm9B_of hK h1 (Nat.lt_of_le_of_lt (hs x hx) hC)⟩, fun x hx => smB_of (by omega) h1 (Nat.lt_of_le_of_lt (hr x hx) hB)⟩
    rw [if_neg h0, if_pos ⟨hl, hc⟩]

/-- The rows from d on. -/
def Low (d B : Nat) (m : List (List Int)) : Prop := ∀ i, d ≤ i → i < m.length → RowLe B (rowE_ m i)
def Upp (d U : Nat) (m : List (List Int)) : Prop := ∀ i, i < d → i < m.length → RowLe U (rowE_ m i)
def Wid (n : Nat) (m : List (List Int)) : Prop := ∀ i, i < m.length → (rowE_ m i).length = n
theorem okM_of {n K B U d : Nat} {m : List (List Int)} (hK : K ≤ 400000000) (h1 : 1 ≤ K) (hw : Wid n m) (hl : Low d B m) (hu : Upp d U m) (hB : B < 10 ^ K) (hU : U < 10 ^ K) : okM n m = true := by
  unfold okM
  rw [List.all_eq_true]
  intro r hr
  obtain ⟨i, hi⟩ := List.getElem?_of_mem hr
  have him := (List.getElem?_eq_some_iff.1 hi).1
  have hre := rowE_of hi
  rw [Bool.and_eq_true, decide_eq_true_iff, List.all_eq_true]
  refine ⟨by rw [← hre]; exact hw i him, fun x hx => ?_⟩
  by_cases hd : d ≤ i
  · exact smB_of (by omega) h1 (Nat.lt_of_le_of_lt (hl i hd him x (by rw [hre]; exact hx)) hB)
  · exact smB_of (by omega) h1 (Nat.lt_of_le_of_lt (hu i (by omega) him x (by rw [hre]; exact hx)) hU)

theorem best_none {c d : Nat} {m : List (List Int)} : ∀ {k : Nat}, bestO c d m k = none → ∀ i, d ≤ i → i < d + k → getE m i c = 0
  | 0, _, i, h1, h2 => by omega
  | k + 1, h, i, h1, h2 => by
    unfold bestO at h
    cases hb : bestO c d m k with
    | none =>
      rw [hb] at h
      simp only at h
      by_cases h0 : getE m (d + k) c = 0
      · by_cases hi : i = d + k
        · rw [hi]; exact h0
        · exact best_none hb i h1 (by omega)
      · rw [if_neg h0] at h; cases h
    | some a =>
      rw [hb] at h
      simp only at h
      split at h <;> cases h
theorem best_some {c d : Nat} {m : List (List Int)} : ∀ {k a : Nat}, bestO c d m k = some a → d ≤ a ∧ a < d + k ∧ getE m a c ≠ 0 ∧ ∀ i, d ≤ i → i < d + k → getE m i c ≠ 0 → (getE m a c).natAbs ≤ (getE m i c).natAbs
  | 0, a, h => by simp [bestO] at h
  | k + 1, a, h => by
    unfold bestO at h
    cases hb : bestO c d m k with
    | none =>
      rw [hb] at h
      simp only at h
      by_cases h0 : getE m (d + k) c = 0
      · rw [if_pos h0] at h; cases h
      · rw [if_neg h0] at h
        obtain rfl := Option.some.inj h
        refine ⟨by omega, by omega, h0, fun i h1 h2 h3 => ?_⟩
        by_cases hi : i = d + k
        · rw [hi]; exact Nat.le_refl _
        · exact absurd (best_none hb i h1 (by omega)) h3
    | some b =>
      obtain ⟨b1, b2, b3, b4⟩ := best_some hb
      rw [hb] at h
      simp only at h
      by_cases hc : getE m (d + k) c ≠ 0 ∧ (getE m (d + k) c).natAbs < (getE m b c).natAbs
      · rw [if_pos hc] at h
        obtain rfl := Option.some.inj h
        refine ⟨by omega, by omega, hc.1, fun i h1 h2 h3 => ?_⟩
        by_cases hi : i = d + k
        · rw [hi]; exact Nat.le_refl _
        · have := b4 i h1 (by omega) h3; omega
      · rw [if_neg hc] at h
        obtain rfl := Option.some.inj h
        refine ⟨b1, by omega, b3, fun i h1 h2 h3 => ?_⟩
        by_cases hi : i = d + k
        · subst hi
          have : ¬ (getE m (d + k) c).natAbs < (getE m b c).natAbs := fun hlt => hc ⟨h3, hlt⟩
          omega
        · exact b4 i h1 (by omega) h3

/-- The rows behind d, reduced by row d: all of them at once. -/
theorem down_ok {c d n K B : Nat} {m : List (List Int)} (hK : K ≤ 400000000) (h1 : 1 ≤ K) (hd : d < m.length) (hw : Wid n m) (hp : getE m d c ≠ 0) (hB : Low d B m) (hBK : B + 2 < 10 ^ K) :
    ∀ k, d + 1 + k ≤ m.length → ∃ m' rest, downO c d m k = some (m', rest) ∧ m'.length = m.length ∧ (∀ i, i ≤ d ∨ d + 1 + k ≤ i → rowE_ m' i = rowE_ m i) ∧
      (∀ i, d < i → i < d + 1 + k → rowE_ m' i = lessL (fdq (getE m i c) (getE m d c)) (rowE_ m i) (rowE_ m d)) ∧ (rest = false → ∀ i, d < i → i < d + 1 + k → fdr (getE m i c) (getE m d c) = 0) ∧ (rest = true → ∃ i, d < i ∧ i < d + 1 + k ∧ fdr (getE m i c) (getE m d c) ≠ 0)
  | 0, _ => ⟨m, false, rfl, rfl, fun _ _ => rfl, fun i h2 h3 => by omega, fun _ i h2 h3 => by omega, fun h => by cases h⟩
  | k + 1, hk => by
    obtain ⟨m1, r1, e1, l1, a1, b1, f1, t1⟩ := down_ok hK h1 hd hw hp hB hBK k (by omega)
    have hrd : rowE_ m1 d = rowE_ m d := a1 d (.inl (Nat.le_refl _))
    have hri : rowE_ m1 (d + 1 + k) = rowE_ m (d + 1 + k) := a1 _ (.inr (Nat.le_refl _))
    have hpe : getE m1 d c = getE m d c := by unfold getE; rw [hrd]
    have hie : getE m1 (d + 1 + k) c = getE m (d + 1 + k) c := by unfold getE; rw [hri]
    have hil : d + 1 + k < m.length := by omega
    have hq : (fdq (getE m (d + 1 + k) c) (getE m d c)).natAbs < 10 ^ K := by
      have h2 := (fdq_mul_le (getE m (d + 1 + k) c) (getE m d c) hp).1
      have h3 : (getE m (d + 1 + k) c).natAbs ≤ B := (hB _ (by omega) hil).getD c
      have h4 : 1 ≤ (getE m d c).natAbs := by omega
      have h5 : (fdq (getE m (d + 1 + k) c) (getE m d c)).natAbs ≤ (getE m (d + 1 + k) c).natAbs + 1 := fdq_bd _ _
      omega
    have hlo := lessO_ok (k := fdq (getE m (d + 1 + k) c) (getE m d c)) hK h1 (show (rowE_ m d).length = (rowE_ m (d + 1 + k)).length by rw [hw d hd, hw _ hil]) (hB _ (by omega) hil) (hB d (Nat.le_refl _) hd) (by omega) (by omega) hq
    refine ⟨m1.set (d + 1 + k) (lessL (fdq (getE m (d + 1 + k) c) (getE m d c)) (rowE_ m (d + 1 + k)) (rowE_ m d)), r1 || decide (fdr (getE m (d + 1 + k) c) (getE m d c) ≠ 0), ?_, by rw [List.length_set]; exact l1, fun i hi => ?_, fun i h2 h3 => ?_, fun hr i h2 h3 => ?_, fun hr => ?_⟩
    · rw [downO_succ, e1]
      simp only
      rw [hpe, hie, hrd, hri, if_neg hp, hlo]
    · rw [rowE_set (by omega), if_neg (by omega)]; exact a1 i (by omega)
    · rw [rowE_set (by omega)]
      by_cases hi : i = d + 1 + k
      · rw [if_pos hi, hi]
      · rw [if_neg hi]; exact b1 i h2 (by omega)
    · rw [Bool.or_eq_false_iff] at hr
      by_cases hi : i = d + 1 + k
      · rw [hi]; simpa using hr.2
      · exact f1 hr.1 i h2 (by omega)
    · rw [Bool.or_eq_true] at hr
      rcases hr with hr | hr
      · obtain ⟨i, h2, h3, h4⟩ := t1 hr; exact ⟨i, h2, by omega, h4⟩
      · exact ⟨d + 1 + k, by omega, by omega, by simpa using hr⟩
end Go.Proofs.YtielnneclcekbaaGreatDoor
