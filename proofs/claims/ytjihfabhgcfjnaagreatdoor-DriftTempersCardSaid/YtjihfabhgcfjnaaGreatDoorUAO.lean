/- Merged: GrowA, GrowB. -/
import Derived.Test.YtjihfabhgcfjnaaGreatDoorUAN
import Derived.Test.YtjihfabhgcfjnaaGreatDoorUAD
/- How numbers grow in the steps of the Hermite form. No program is named here. -/
namespace Go.Proofs.YtjihfabhgcfjnaaGreatDoor
set_option linter.unusedVariables false
set_option linter.unusedSimpArgs false
open Go.RowKit

theorem fdq_mul_le (x y : Int) (hy : y ≠ 0) : (fdq x y).natAbs * y.natAbs ≤ x.natAbs + y.natAbs ∧ (fdr x y).natAbs < y.natAbs := by
  have e := fd_eq x y
  have h2 : (fdr x y).natAbs < y.natAbs := by
    rcases Int.lt_or_gt_of_ne hy with h | h
    · have := fdr_neg x y h; omega
    · have := fdr_pos x y h; omega
  refine ⟨?_, h2⟩
  have h3 : y * fdq x y = x - fdr x y := by omega
  have h4 : (y * fdq x y).natAbs = y.natAbs * (fdq x y).natAbs := Int.natAbs_mul _ _
  rw [Nat.mul_comm, ← h4, h3]
  omega
/-- The numbers have the same sign, or one is 0. -/
def SameS (x y : Int) : Prop := (0 ≤ x ∧ 0 < y) ∨ (x ≤ 0 ∧ y < 0)
theorem fdq_same (x y : Int) (h : SameS x y) : (fdq x y).natAbs * y.natAbs ≤ x.natAbs ∧ (fdr x y).natAbs ≤ x.natAbs ∧ SameS (fdr x y) y ∧ (y.natAbs ≤ x.natAbs → 2 * (fdr x y).natAbs ≤ x.natAbs) := by
  have e := fd_eq x y
  have h4 : (y * fdq x y).natAbs = y.natAbs * (fdq x y).natAbs := Int.natAbs_mul _ _
  have h3 : y * fdq x y = x - fdr x y := by omega
  rcases h with ⟨hx, hy⟩ | ⟨hx, hy⟩
  · have hr := fdr_pos x y hy
    -- the quotient is not negative
    have hq : 0 ≤ fdq x y := by
      rcases Int.lt_or_le (fdq x y) 0 with hn | hn
      · have : y * fdq x y ≤ y * (-1) := Int.mul_le_mul_of_nonneg_left (by omega) (by omega)
        omega
      · exact hn
    have hp : 0 ≤ y * fdq x y := Int.mul_nonneg (by omega) hq
    refine ⟨by rw [Nat.mul_comm, ← h4, h3]; omega, by omega, .inl ⟨hr.1, hy⟩, fun hle => ?_⟩
    have hq1 : 1 ≤ fdq x y := by
      rcases Int.lt_or_le (fdq x y) 1 with hn | hn
      · have h0 : fdq x y = 0 := by omega
        rw [h0, Int.mul_zero] at h3; omega
      · exact hn
    have : y * 1 ≤ y * fdq x y := Int.mul_le_mul_of_nonneg_left hq1 (by omega)
    omega
  · have hr := fdr_neg x y hy
    have hq : 0 ≤ fdq x y := by
      rcases Int.lt_or_le (fdq x y) 0 with hn | hn
      · have : (-y) * fdq x y ≤ (-y) * (-1) := Int.mul_le_mul_of_nonneg_left (by omega) (by omega)
        have e2 : (-y) * fdq x y = -(y * fdq x y) := Int.neg_mul _ _
        omega
      · exact hn
    have hp : 0 ≤ (-y) * fdq x y := Int.mul_nonneg (by omega) hq
    have e2 : (-y) * fdq x y = -(y * fdq x y) := Int.neg_mul _ _
    refine ⟨by rw [Nat.mul_comm, ← h4, h3]; omega, by omega, .inr ⟨hr.2, hy⟩, fun hle => ?_⟩
    have hq1 : 1 ≤ fdq x y := by
      rcases Int.lt_or_le (fdq x y) 1 with hn | hn
      · have h0 : fdq x y = 0 := by omega
        rw [h0, Int.mul_zero] at h3; omega
      · exact hn
    have : (-y) * 1 ≤ (-y) * fdq x y := Int.mul_le_mul_of_nonneg_left hq1 (by omega)
    omega

/-- All elements are at most B. -/
def RowLe (B : Nat) (r : List Int) : Prop := ∀ x ∈ r, x.natAbs ≤ B
theorem RowLe.mono {B B' : Nat} {r : List Int} (h : RowLe B r) (hb : B ≤ B') : RowLe B' r := fun x hx => Nat.le_trans (h x hx) hb
theorem RowLe.getD {B : Nat} {r : List Int} (h : RowLe B r) (c : Nat) : (r.getD c 0).natAbs ≤ B := by
  rw [List.getD_eq_getElem?_getD]
  cases hc : r[c]? with
  | none => simp
  | some x => exact h x (List.mem_of_getElem? hc)
theorem RowLe.neg {B : Nat} {r : List Int} (h : RowLe B r) : RowLe B (r.map (- ·)) := by
  intro x hx
  obtain ⟨y, hy, rfl⟩ := List.mem_map.1 hx
  rw [Int.natAbs_neg]; exact h y hy
theorem lessL_le {B C : Nat} (k : Int) : ∀ (r s : List Int), RowLe B r → RowLe C s → RowLe (B + k.natAbs * C) (lessL k r s)
  | r, [], h, _ => by
    have : lessL k r [] = r := by cases r <;> rfl
    rw [this]; exact h.mono (Nat.le_add_right _ _)
  | [], _ :: _, _, _ => fun x hx => by simp [lessL] at hx
  | a :: r, b :: s, h, h' => by
    intro x hx
    unfold lessL at hx
    rcases List.mem_cons.1 hx with rfl | hx
    · have h1 := h a (by simp)
      have h2 := h' b (by simp)
      have h3 : (k * b).natAbs ≤ k.natAbs * C := by rw [Int.natAbs_mul]; exact Nat.mul_le_mul_left _ h2
      omega
    · exact lessL_le k r s (fun y hy => h y (by simp [hy])) (fun y hy => h' y (by simp [hy])) x hx
theorem lessL_zero : ∀ (r s : List Int), lessL 0 r s = r
  | r, [] => by cases r <;> rfl
  | [], _ :: _ => rfl
  | a :: r, b :: s => by unfold lessL; rw [lessL_zero r s]; simp
theorem lessL_getD (k : Int) {r s : List Int} (hl : s.length = r.length) (c : Nat) : (lessL k r s).getD c 0 = r.getD c 0 - k * s.getD c 0 := by
  simp only [List.getD_eq_getElem?_getD]
  by_cases hc : c < r.length
  · rw [lessL_get k r s c r[c] (s[c]'(by omega)) (List.getElem?_eq_getElem hc) (List.getElem?_eq_getElem _), List.getElem?_eq_getElem hc, List.getElem?_eq_getElem (by omega)]; rfl
  · rw [List.getElem?_eq_none (by rw [lessL_len]; omega), List.getElem?_eq_none (by omega), List.getElem?_eq_none (by omega)]; simp
theorem smB_of {x : Int} {K : Nat} (hK : K ≤ 1000000000) (h1 : 1 ≤ K) (h : x.natAbs < 10 ^ K) : smB x = true := (smB_iff x).2 (Nat.le_trans (numB_size_le _ K h h1) hK)
theorem sm9B_of {x : Int} {K : Nat} (hK : K ≤ 400000000) (h1 : 1 ≤ K) (h : x.natAbs < 10 ^ K) : sm9B x = true := (sm9B_iff x).2 (Nat.le_trans (numB_size_le _ K h h1) hK)
/-- A row less a multiple of another one, where numbers stay small. -/
theorem lessO_ok {K B C : Nat} {k : Int} {r s : List Int} (hK : K ≤ 400000000) (h1 : 1 ≤ K) (hl : s.length = r.length) (hr : RowLe B r) (hs : RowLe C s) (hB : B < 10 ^ K) (hC : C < 10 ^ K) (hk : k.natAbs < 10 ^ K) : lessO k r s = some (lessL k r s) := by
  unfold lessO
  by_cases h0 : k = 0
  · rw [if_pos h0, h0, lessL_zero]
  · have hc : (sm9B k && s.all sm9B && r.all smB) = true := by
      rw [Bool.and_eq_true, Bool.and_eq_true, List.all_eq_true, List.all_eq_true]
      exact ⟨⟨sm9B_of hK h1 hk, fun x hx => sm9B_of hK h1 (Nat.lt_of_le_of_lt (hs x hx) hC)⟩, fun x hx => smB_of (by omega) h1 (Nat.lt_of_le_of_lt (hr x hx) hB)⟩
    rw [if_neg h0, if_pos ⟨hl, hc⟩]

/-- The rows from d on. -/
def Low (d B : Nat) (m : List (List Int)) : Prop := ∀ i, d ≤ i → i < m.length → RowLe B (rowE_ m i)
def Upp (d U : Nat) (m : List (List Int)) : Prop := ∀ i, i < d → i < m.length → RowLe U (rowE_ m i)
def Wid (n : Nat) (m : List (List Int)) : Prop := ∀ i, i < m.length → (rowE_ m i).length = n
theorem okM_of {n K B U d : Nat} {m : List (List Int)} (hK : K ≤ 400000000) (h1 : 1 ≤ K) (hw : Wid n m) (hl : Low d B m) (hu : Upp d U m) (hB : B < 10 ^ K) (hU : U < 10 ^ K) : okM n m = true := by
  unfold okM
  rw [List.all_eq_true]
  intro r hr
  obtain ⟨i, hi⟩ := List.getElem?_of_mem hr
  have him := (List.getElem?_eq_some_iff.1 hi).1
  have hre := rowE_of hi
  rw [Bool.and_eq_true, decide_eq_true_iff, List.all_eq_true]
  refine ⟨by rw [← hre]; exact hw i him, fun x hx => ?_⟩
  by_cases hd : d ≤ i
  · exact smB_of (by omega) h1 (Nat.lt_of_le_of_lt (hl i hd him x (by rw [hre]; exact hx)) hB)
  · exact smB_of (by omega) h1 (Nat.lt_of_le_of_lt (hu i (by omega) him x (by rw [hre]; exact hx)) hU)

theorem best_none {c d : Nat} {m : List (List Int)} : ∀ {k : Nat}, bestO c d m k = none → ∀ i, d ≤ i → i < d + k → getE m i c = 0
  | 0, _, i, h1, h2 => by omega
  | k + 1, h, i, h1, h2 => by
    unfold bestO at h
    cases hb : bestO c d m k with
    | none =>
      rw [hb] at h
      simp only at h
      by_cases h0 : getE m (d + k) c = 0
      · by_cases hi : i = d + k
        · rw [hi]; exact h0
        · exact best_none hb i h1 (by omega)
      · rw [if_neg h0] at h; cases h
    | some a =>
      rw [hb] at h
      simp only at h
      split at h <;> cases h
theorem best_some {c d : Nat} {m : List (List Int)} : ∀ {k a : Nat}, bestO c d m k = some a → d ≤ a ∧ a < d + k ∧ getE m a c ≠ 0 ∧ ∀ i, d ≤ i → i < d + k → getE m i c ≠ 0 → (getE m a c).natAbs ≤ (getE m i c).natAbs
  | 0, a, h => by simp [bestO] at h
  | k + 1, a, h => by
    unfold bestO at h
    cases hb : bestO c d m k with
    | none =>
      rw [hb] at h
      simp only at h
      by_cases h0 : getE m (d + k) c = 0
      · rw [if_pos h0] at h; cases h
      · rw [if_neg h0] at h
        obtain rfl := Option.some.inj h
        refine ⟨by omega, by omega, h0, fun i h1 h2 h3 => ?_⟩
        by_cases hi : i = d + k
        · rw [hi]; exact Nat.le_refl _
        · exact absurd (best_none hb i h1 (by omega)) h3
    | some b =>
      obtain ⟨b1, b2, b3, b4⟩ := best_some hb
      rw [hb] at h
      simp only at h
      by_cases hc : getE m (d + k) c ≠ 0 ∧ (getE m (d + k) c).natAbs < (getE m b c).natAbs
      · rw [if_pos hc] at h
        obtain rfl := Option.some.inj h
        refine ⟨by omega, by omega, hc.1, fun i h1 h2 h3 => ?_⟩
        by_cases hi : i = d + k
        · rw [hi]; exact Nat.le_refl _
        · have := b4 i h1 (by omega) h3; omega
      · rw [if_neg hc] at h
        obtain rfl := Option.some.inj h
        refine ⟨b1, by omega, b3, fun i h1 h2 h3 => ?_⟩
        by_cases hi : i = d + k
        · subst hi
          have : ¬ (getE m (d + k) c).natAbs < (getE m b c).natAbs := fun hlt => hc ⟨h3, hlt⟩
          omega
        · exact b4 i h1 (by omega) h3

/-- The rows behind d, reduced by row d: all of them at once. -/
theorem down_ok {c d n K B : Nat} {m : List (List Int)} (hK : K ≤ 400000000) (h1 : 1 ≤ K) (hd : d < m.length) (hw : Wid n m) (hp : getE m d c ≠ 0) (hB : Low d B m) (hBK : B + 2 < 10 ^ K) :
    ∀ k, d + 1 + k ≤ m.length → ∃ m' rest, downO c d m k = some (m', rest) ∧ m'.length = m.length ∧ (∀ i, i ≤ d ∨ d + 1 + k ≤ i → rowE_ m' i = rowE_ m i) ∧
      (∀ i, d < i → i < d + 1 + k → rowE_ m' i = lessL (fdq (getE m i c) (getE m d c)) (rowE_ m i) (rowE_ m d)) ∧ (rest = false → ∀ i, d < i → i < d + 1 + k → fdr (getE m i c) (getE m d c) = 0) ∧ (rest = true → ∃ i, d < i ∧ i < d + 1 + k ∧ fdr (getE m i c) (getE m d c) ≠ 0)
  | 0, _ => ⟨m, false, rfl, rfl, fun _ _ => rfl, fun i h2 h3 => by omega, fun _ i h2 h3 => by omega, fun h => by cases h⟩
  | k + 1, hk => by
    obtain ⟨m1, r1, e1, l1, a1, b1, f1, t1⟩ := down_ok hK h1 hd hw hp hB hBK k (by omega)
    have hrd : rowE_ m1 d = rowE_ m d := a1 d (.inl (Nat.le_refl _))
    have hri : rowE_ m1 (d + 1 + k) = rowE_ m (d + 1 + k) := a1 _ (.inr (Nat.le_refl _))
    have hpe : getE m1 d c = getE m d c := by unfold getE; rw [hrd]
    have hie : getE m1 (d + 1 + k) c = getE m (d + 1 + k) c := by unfold getE; rw [hri]
    have hil : d + 1 + k < m.length := by omega
    have hq : (fdq (getE m (d + 1 + k) c) (getE m d c)).natAbs < 10 ^ K := by
      have h2 := (fdq_mul_le (getE m (d + 1 + k) c) (getE m d c) hp).1
      have h3 : (getE m (d + 1 + k) c).natAbs ≤ B := (hB _ (by omega) hil).getD c
      have h4 : 1 ≤ (getE m d c).natAbs := by omega
      have h5 : (fdq (getE m (d + 1 + k) c) (getE m d c)).natAbs ≤ (getE m (d + 1 + k) c).natAbs + 1 := fdq_bd _ _
      omega
    have hlo := lessO_ok (k := fdq (getE m (d + 1 + k) c) (getE m d c)) hK h1 (show (rowE_ m d).length = (rowE_ m (d + 1 + k)).length by rw [hw d hd, hw _ hil]) (hB _ (by omega) hil) (hB d (Nat.le_refl _) hd) (by omega) (by omega) hq
    refine ⟨m1.set (d + 1 + k) (lessL (fdq (getE m (d + 1 + k) c) (getE m d c)) (rowE_ m (d + 1 + k)) (rowE_ m d)), r1 || decide (fdr (getE m (d + 1 + k) c) (getE m d c) ≠ 0), ?_, by rw [List.length_set]; exact l1, fun i hi => ?_, fun i h2 h3 => ?_, fun hr i h2 h3 => ?_, fun hr => ?_⟩
    · rw [downO_succ, e1]
      simp only
      rw [hpe, hie, hrd, hri, if_neg hp, hlo]
    · rw [rowE_set (by omega), if_neg (by omega)]; exact a1 i (by omega)
    · rw [rowE_set (by omega)]
      by_cases hi : i = d + 1 + k
      · rw [if_pos hi, hi]
      · rw [if_neg hi]; exact b1 i h2 (by omega)
    · rw [Bool.or_eq_false_iff] at hr
      by_cases hi : i = d + 1 + k
      · rw [hi]; simpa using hr.2
      · exact f1 hr.1 i h2 (by omega)
    · rw [Bool.or_eq_true] at hr
      rcases hr with hr | hr
      · obtain ⟨i, h2, h3, h4⟩ := t1 hr; exact ⟨i, h2, by omega, h4⟩
      · exact ⟨d + 1 + k, by omega, by omega, by simpa using hr⟩
end Go.Proofs.YtjihfabhgcfjnaaGreatDoor
/- How numbers grow in one column of the Hermite form. No program is named here. -/
namespace Go.Proofs.YtjihfabhgcfjnaaGreatDoor
set_option linter.unusedVariables false
set_option linter.unusedSimpArgs false
open Go.RowKit

theorem rowE_swap {m : List (List Int)} {d a : Nat} (hd : d < m.length) (ha : a < m.length) (i : Nat) : rowE_ (swapL m d a) i = if i = a then rowE_ m d else if i = d then rowE_ m a else rowE_ m i := by
  rw [swapL_eq (rowE_get hd) (rowE_get ha), rowE_set (by rw [List.length_set]; exact ha)]
  by_cases h1 : i = a
  · rw [if_pos h1, if_pos h1]
  · rw [if_neg h1, if_neg h1, rowE_set hd]
/-- The elements of a column from d on. -/
def ColM (d c M : Nat) (m : List (List Int)) : Prop := ∀ i, d ≤ i → i < m.length → (getE m i c).natAbs ≤ M
/-- They are not negative (or not positive). -/
def ColS (d c : Nat) (pos : Bool) (m : List (List Int)) : Prop := ∀ i, d ≤ i → i < m.length → if pos then 0 ≤ getE m i c else getE m i c ≤ 0

/-- One round: the least element comes first, the others are reduced by it. -/
theorem round_ok {n c d K M B U a Q : Nat} {m : List (List Int)} (hK : K ≤ 400000000) (h1 : 1 ≤ K) (hd : d < m.length) (hw : Wid n m) (hB : Low d B m) (hU : Upp d U m) (hM : ColM d c M m) (ha : bestO c d m (m.length - d) = some a) (hBK : B + 2 < 10 ^ K)
    (hQ : ∀ i, d ≤ i → i < m.length → (fdq (getE m i c) (getE m a c)).natAbs ≤ Q) :
    ∃ m2 rest, downO c d (swapL m d a) (m.length - (d + 1)) = some (m2, rest) ∧ m2.length = m.length ∧ Wid n m2 ∧ Low d (B + Q * B) m2 ∧ Upp d U m2 ∧ getE m2 d c = getE m a c ∧ RowLe B (rowE_ m2 d) ∧
      (∀ i, d < i → i < m.length → ∃ k, d ≤ k ∧ k < m.length ∧ getE m2 i c = fdr (getE m k c) (getE m a c)) ∧ (rest = false → ∀ i, d < i → i < m.length → getE m2 i c = 0) ∧ (rest = true → ∃ i, d < i ∧ i < m.length ∧ getE m2 i c ≠ 0) := by
  obtain ⟨b1, b2, b3, b4⟩ := best_some ha
  have hal : a < m.length := by omega
  have hsl : (swapL m d a).length = m.length := swapL_len m d a
  have hrow := rowE_swap hd hal
  -- where a row of the swapped matrix comes from
  have hfrom : ∀ i, d ≤ i → i < m.length → ∃ k, d ≤ k ∧ k < m.length ∧ rowE_ (swapL m d a) i = rowE_ m k := by
    intro i h2 h3
    rw [hrow]
    by_cases e1 : i = a
    · rw [if_pos e1]; exact ⟨d, Nat.le_refl _, hd, rfl⟩
    · rw [if_neg e1]
      by_cases e2 : i = d
      · rw [if_pos e2]; exact ⟨a, b1, hal, rfl⟩
      · rw [if_neg e2]; exact ⟨i, h2, h3, rfl⟩
  have hws : Wid n (swapL m d a) := by
    intro i hi
    rw [hsl] at hi
    rw [hrow]
    by_cases e1 : i = a
    · rw [if_pos e1]; exact hw d hd
    · rw [if_neg e1]
      by_cases e2 : i = d
      · rw [if_pos e2]; exact hw a hal
      · rw [if_neg e2]; exact hw i hi
  have hBs : Low d B (swapL m d a) := by
    intro i h2 h3
    rw [hsl] at h3
    obtain ⟨k, k1, k2, k3⟩ := hfrom i h2 h3
    rw [k3]; exact hB k k1 k2
  have hdrow : rowE_ (swapL m d a) d = rowE_ m a := by
    rw [hrow]
    by_cases e1 : d = a
    · rw [if_pos e1, e1]
    · rw [if_neg e1, if_pos rfl]
  have hpd : getE (swapL m d a) d c = getE m a c := by unfold getE; rw [hdrow]
  obtain ⟨m2, rest, e1, e2, e3, e4, e5, e6⟩ := down_ok (K := K) (B := B) hK h1 (by rw [hsl]; exact hd) hws (by rw [hpd]; exact b3) hBs hBK (m.length - (d + 1)) (by rw [hsl]; omega)
  rw [hsl] at e2 
  have hdm : d + 1 + (m.length - (d + 1)) = m.length := by omega
  rw [hdm] at e3 e4 e5 e6
  rw [hpd] at e4 e5 e6
  have hr2 : rowE_ m2 d = rowE_ m a := (e3 d (.inl (Nat.le_refl _))).trans hdrow
  have hcol : ∀ i, d < i → i < m.length → ∃ k, d ≤ k ∧ k < m.length ∧ rowE_ (swapL m d a) i = rowE_ m k ∧ getE (swapL m d a) i c = getE m k c ∧ getE m2 i c = fdr (getE m k c) (getE m a c) := by
    intro i h2 h3
    obtain ⟨k, k1, k2, k3⟩ := hfrom i (by omega) h3
    have hg : getE (swapL m d a) i c = getE m k c := by unfold getE; rw [k3]
    refine ⟨k, k1, k2, k3, hg, ?_⟩
    show (rowE_ m2 i).getD c 0 = _
    rw [e4 i h2 h3, lessL_getD _ (by rw [hws d (by rw [hsl]; exact hd), hws i (by rw [hsl]; exact h3)]), hdrow]
    have h5 := fd_eq (getE m k c) (getE m a c)
    show getE (swapL m d a) i c - fdq (getE (swapL m d a) i c) (getE m a c) * getE m a c = _
    rw [hg, Int.mul_comm]
    omega
  refine ⟨m2, rest, e1, e2, fun i hi => ?_, fun i h2 h3 => ?_, fun i h2 h3 => ?_, ?_, ?_, fun i h2 h3 => ?_, fun hr i h2 h3 => ?_, fun hr => ?_⟩
  · rw [e2] at hi
    by_cases hid : d < i
    · rw [e4 i hid hi, lessL_len]; exact hws i (by rw [hsl]; exact hi)
    · rw [e3 i (.inl (by omega))]; exact hws i (by rw [hsl]; exact hi)
  · rw [e2] at h3
    by_cases hid : d < i
    · obtain ⟨k, k1, k2, k3, k4, -⟩ := hcol i hid h3
      rw [e4 i hid h3, hdrow, k3, k4]
      exact (lessL_le _ _ _ (hB k k1 k2) (hB a b1 hal)).mono (Nat.add_le_add_left (Nat.mul_le_mul_right _ (hQ k k1 k2)) _)
    · obtain rfl : i = d := by omega
      rw [hr2]; exact (hB a b1 hal).mono (Nat.le_add_right _ _)
  · rw [e2] at h3
    have hne : i ≠ a := by omega
    rw [e3 i (.inl (by omega)), hrow, if_neg hne, if_neg (by omega)]
    exact hU i h2 h3
  · show (rowE_ m2 d).getD c 0 = _; rw [hr2]; rfl
  · rw [hr2]; exact hB a b1 hal
  · obtain ⟨k, k1, k2, -, -, k5⟩ := hcol i h2 h3; exact ⟨k, k1, k2, k5⟩
  · obtain ⟨k, k1, k2, -, k4, k5⟩ := hcol i h2 h3
    rw [k5, ← k4]; exact e5 hr i h2 h3
  · obtain ⟨i, h2, h3, h4⟩ := e6 hr
    obtain ⟨k, k1, k2, -, k4, k5⟩ := hcol i h2 h3
    exact ⟨i, h2, h3, by rw [k5, ← k4]; exact h4⟩

/-- The rows ahead, reduced by row d. -/
theorem up_ok {c d n K C U : Nat} {m : List (List Int)} (hK : K ≤ 400000000) (h1 : 1 ≤ K) (hd : d < m.length) (hw : Wid n m) (hp : getE m d c ≠ 0) (hC : RowLe C (rowE_ m d)) (hU : Upp d U m) (hCK : C < 10 ^ K) (hUK : U + 2 < 10 ^ K) :
    ∀ k, k ≤ d → ∃ m', upO c d m k = some m' ∧ m'.length = m.length ∧ (∀ i, k ≤ i → rowE_ m' i = rowE_ m i) ∧ (∀ i, i < k → rowE_ m' i = lessL (fdq (getE m i c) (getE m d c)) (rowE_ m i) (rowE_ m d))
  | 0, _ => ⟨m, rfl, rfl, fun _ _ => rfl, fun i h => by omega⟩
  | k + 1, hk => by
    obtain ⟨m1, e1, l1, a1, b1⟩ := up_ok hK h1 hd hw hp hC hU hCK hUK k (by omega)
    have hrd : rowE_ m1 d = rowE_ m d := a1 d (by omega)
    have hri : rowE_ m1 k = rowE_ m k := a1 k (Nat.le_refl _)
    have hpe : getE m1 d c = getE m d c := by unfold getE; rw [hrd]
    have hie : getE m1 k c = getE m k c := by unfold getE; rw [hri]
    have hq : (fdq (getE m k c) (getE m d c)).natAbs < 10 ^ K := by
      have h3 : (getE m k c).natAbs ≤ U := (hU k (by omega) (by omega)).getD c
      have h5 := fdq_bd (getE m k c) (getE m d c)
      omega
    have hlo := lessO_ok (k := fdq (getE m k c) (getE m d c)) hK h1 (show (rowE_ m d).length = (rowE_ m k).length by rw [hw d hd, hw k (by omega)]) (hU k (by omega) (by omega)) hC (by omega) hCK hq
    refine ⟨m1.set k (lessL (fdq (getE m k c) (getE m d c)) (rowE_ m k) (rowE_ m d)), ?_, by rw [List.length_set]; exact l1, fun i hi => ?_, fun i hi => ?_⟩
    · rw [upO_succ, e1]
      simp only
      rw [hpe, hie, hrd, hri, if_neg hp, hlo]
    · rw [rowE_set (by omega), if_neg (by omega)]; exact a1 i (by omega)
    · rw [rowE_set (by omega)]
      by_cases he : i = k
      · rw [if_pos he, he]
      · rw [if_neg he]; exact b1 i (by omega)

/-- What a column leaves. -/
structure SwR (n d c C U : Nat) (m m' : List (List Int)) : Prop where
  len : m'.length = m.length
  wid : Wid n m'
  low : Low d C m'
  upp : Upp d (U + (U + 1) * C) m'
  pos : 0 < getE m' d c
  zero : ∀ i, d < i → i < m.length → getE m' i c = 0
  red : ∀ i, i < d → 0 ≤ getE m' i c ∧ getE m' i c < getE m' d c

/-- The end of a column: its first element is made positive, and the rows ahead are reduced. -/
theorem finish_ok {n c d K C U : Nat} {m2 : List (List Int)} (hK : K ≤ 400000000) (h1 : 1 ≤ K) (hd : d < m2.length) (hw : Wid n m2) (hC : Low d C m2) (hU : Upp d U m2) (hp : getE m2 d c ≠ 0) (hz : ∀ i, d < i → i < m2.length → getE m2 i c = 0) (hCK : C < 10 ^ K) (hUK : U + 2 < 10 ^ K) :
    ∃ m4, upO c d (if getE m2 d c < 0 then m2.set d ((rowE_ m2 d).map (- ·)) else m2) d = some m4 ∧ SwR n d c C U m2 m4 := by
  obtain ⟨m3, hm3⟩ : ∃ m3, m3 = (if getE m2 d c < 0 then m2.set d ((rowE_ m2 d).map (- ·)) else m2) := ⟨_, rfl⟩
  rw [← hm3]
  have hneg : ∀ (r : List Int), (r.map (- ·)).getD c 0 = -(r.getD c 0) := by
    intro r
    simp only [List.getD_eq_getElem?_getD, List.getElem?_map]
    cases r[c]? <;> simp
  have l3 : m3.length = m2.length := by rw [hm3]; split <;> simp
  have r3 : ∀ i, i ≠ d → rowE_ m3 i = rowE_ m2 i := by
    intro i hi
    rw [hm3]; split
    · rw [rowE_set hd, if_neg hi]
    · rfl
  have d3 : rowE_ m3 d = rowE_ m2 d ∧ 0 < getE m2 d c ∨ rowE_ m3 d = (rowE_ m2 d).map (- ·) ∧ getE m2 d c < 0 := by
    rw [hm3]
    by_cases hn : getE m2 d c < 0
    · rw [if_pos hn, rowE_set hd, if_pos rfl]; exact .inr ⟨rfl, hn⟩
    · rw [if_neg hn]; exact .inl ⟨rfl, by omega⟩
  have hp3 : 0 < getE m3 d c := by
    rcases d3 with ⟨h, h'⟩ | ⟨h, h'⟩
    · show 0 < (rowE_ m3 d).getD c 0; rw [h]; exact h'
    · show 0 < (rowE_ m3 d).getD c 0; rw [h, hneg]; have : (rowE_ m2 d).getD c 0 < 0 := h'; omega
  have hw3 : Wid n m3 := by
    intro i hi
    by_cases he : i = d
    · rw [he]
      rcases d3 with ⟨h, -⟩ | ⟨h, -⟩
      · rw [h]; exact hw d hd
      · rw [h, List.length_map]; exact hw d hd
    · rw [r3 i he]; exact hw i (by omega)
  have hC3 : RowLe C (rowE_ m3 d) := by
    rcases d3 with ⟨h, -⟩ | ⟨h, -⟩
    · rw [h]; exact hC d (Nat.le_refl _) hd
    · rw [h]; exact (hC d (Nat.le_refl _) hd).neg
  have hU3 : Upp d U m3 := fun i h2 h3 => by rw [r3 i (by omega)]; exact hU i h2 (by omega)
  obtain ⟨m4, e1, e2, e3, e4⟩ := up_ok hK h1 (by omega) hw3 (Int.ne_of_gt hp3) hC3 hU3 hCK hUK d (Nat.le_refl _)
  have hd4 : getE m4 d c = getE m3 d c := by unfold getE; rw [e3 d (Nat.le_refl _)]
  refine ⟨m4, e1, by omega, fun i hi => ?_, fun i h2 h3 => ?_, fun i h2 h3 => ?_, by rw [hd4]; exact hp3, fun i h2 h3 => ?_, fun i h2 => ?_⟩
  · by_cases he : i < d
    · rw [e4 i he, lessL_len]; exact hw3 i (by omega)
    · rw [e3 i (by omega)]; exact hw3 i (by omega)
  · rw [e3 i h2]
    by_cases he : i = d
    · rw [he]; exact hC3
    · rw [r3 i he]; exact hC i h2 (by omega)
  · rw [e4 i h2]
    have hx : (getE m3 i c).natAbs ≤ U := (hU3 i h2 (by omega)).getD c
    exact (lessL_le _ _ _ (hU3 i h2 (by omega)) hC3).mono (Nat.add_le_add_left (Nat.mul_le_mul_right _ (Nat.le_trans (fdq_bd _ _) (by omega))) _)
  · show (rowE_ m4 i).getD c 0 = 0
    rw [e3 i (by omega), r3 i (by omega)]
    exact hz i h2 h3
  · have hg : getE m4 i c = fdr (getE m3 i c) (getE m3 d c) := by
      show (rowE_ m4 i).getD c 0 = _
      rw [e4 i h2, lessL_getD _ (by rw [hw3 d (by omega), hw3 i (by omega)])]
      have h5 := fd_eq (getE m3 i c) (getE m3 d c)
      show getE m3 i c - fdq (getE m3 i c) (getE m3 d c) * getE m3 d c = _
      rw [Int.mul_comm]; omega
    rw [hg, hd4]
    exact fdr_pos _ _ hp3
end Go.Proofs.YtjihfabhgcfjnaaGreatDoor
