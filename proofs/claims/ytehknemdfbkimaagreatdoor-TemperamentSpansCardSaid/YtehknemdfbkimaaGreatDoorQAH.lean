/- Merged: GrowC, GrowD. -/
import Derived.Test.YtehknemdfbkimaaGreatDoorQAG
/- How numbers grow over the rounds of one column of the Hermite form. No program is named here. -/
namespace Go.Proofs.YtehknemdfbkimaaGreatDoor
set_option linter.unusedVariables false
set_option linter.unusedSimpArgs false
open Go.RowKit

theorem sweep_true {n c d a f : Nat} {m m2 : List (List Int)} (hok : okM n m = true) (ha : bestO c d m (m.length - d) = some a) (hdn : downO c d (swapL m d a) (m.length - (d + 1)) = some (m2, true)) : sweepO n c d (f + 1) m = sweepO n c d f m2 := by
  rw [sweepO, if_pos hok, ha]; simp only; rw [hdn]
theorem sweep_false {n c d a f K C U : Nat} {m m2 : List (List Int)} (hK : K ≤ 400000000) (h1 : 1 ≤ K) (hd : d < m.length) (hok : okM n m = true) (ha : bestO c d m (m.length - d) = some a) (hdn : downO c d (swapL m d a) (m.length - (d + 1)) = some (m2, false))
    (l2 : m2.length = m.length) (hw : Wid n m2) (hC : Low d C m2) (hU : Upp d U m2) (hp : getE m2 d c ≠ 0) (hz : ∀ i, d < i → i < m.length → getE m2 i c = 0) (hCK : C < 10 ^ K) (hUK : U + 2 < 10 ^ K) :
    ∃ m', sweepO n c d (f + 1) m = some (m', true) ∧ SwR n d c C U m m' := by
  obtain ⟨m4, e4, s4⟩ := finish_ok hK h1 (by rw [l2]; exact hd) hw hC hU hp (by rw [l2]; exact hz) hCK hUK
  have hok2 : okM n m2 = true := okM_of hK h1 hw hC hU hCK (by omega)
  refine ⟨m4, ?_, ⟨s4.len.trans l2, s4.wid, s4.low, s4.upp, s4.pos, by rw [← l2]; exact s4.zero, s4.red⟩⟩
  rw [sweepO, if_pos hok, ha]; simp only; rw [hdn]; simp only; rw [if_pos hok2, e4]

/-- The rounds in which all elements have one sign. -/
theorem sweep_same {n c d K U Y : Nat} (hK : K ≤ 400000000) (h1 : 1 ≤ K) (hYK : 2 * Y + 2 < 10 ^ K) (hUK : U + 2 < 10 ^ K) (pos : Bool) :
    ∀ (F : Nat) (m : List (List Int)) (B M a : Nat), d < m.length → Wid n m → Low d B m → Upp d U m → ColM d c M m → ColS d c pos m → bestO c d m (m.length - d) = some a → B * (M * M * (getE m a c).natAbs) ≤ Y → (getE m a c).natAbs < F →
      ∃ m', sweepO n c d F m = some (m', true) ∧ SwR n d c (2 * Y) U m m'
  | 0, m, B, M, a, _, _, _, _, _, _, _, _, hF => by omega
  | f + 1, m, B, M, a, hd, hw, hB, hU, hM, hS, ha, hY, hF => by
    obtain ⟨b1, b2, b3, b4⟩ := best_some ha
    have hal : a < m.length := by omega
    obtain ⟨p, hp⟩ : ∃ p, p = (getE m a c).natAbs := ⟨_, rfl⟩
    rw [← hp] at hY hF
    have hp1 : 1 ≤ p := by omega
    have hpM : p ≤ M := by rw [hp]; exact hM a b1 hal
    have hMB : M * B ≤ Y := by
      refine Nat.le_trans ?_ hY
      rw [Nat.mul_comm M B]
      refine Nat.mul_le_mul_left _ ?_
      calc M = M * 1 * 1 := by omega
        _ ≤ M * M * p := Nat.mul_le_mul (Nat.mul_le_mul_left _ (by omega)) hp1
    have hBY : B ≤ Y := Nat.le_trans (Nat.le_mul_of_pos_left B (by omega)) hMB
    have hss : ∀ i, d ≤ i → i < m.length → SameS (getE m i c) (getE m a c) := by
      intro i h2 h3
      have s1 := hS i h2 h3
      have s2 := hS a b1 hal
      cases pos
      · exact .inr ⟨by simpa using s1, by have : getE m a c ≤ 0 := by simpa using s2
                                          omega⟩
      · exact .inl ⟨by simpa using s1, by have : 0 ≤ getE m a c := by simpa using s2
                                          omega⟩
    have hQ : ∀ i, d ≤ i → i < m.length → (fdq (getE m i c) (getE m a c)).natAbs ≤ M / p := by
      intro i h2 h3
      rw [Nat.le_div_iff_mul_le (by omega), hp]
      exact Nat.le_trans (fdq_same _ _ (hss i h2 h3)).1 (hM i h2 h3)
    obtain ⟨m2, rest, e1, l2, w2, lo2, up2, p2, r2, c2, z2, t2⟩ := round_ok hK h1 hd hw hB hU hM ha (by omega) hQ
    have hB' : (B + M / p * B) * p ≤ 2 * (M * B) := by
      rw [Nat.add_mul]
      have h5 : B * p ≤ M * B := by rw [Nat.mul_comm M B]; exact Nat.mul_le_mul_left _ hpM
      have h6 : M / p * B * p ≤ M * B := by
        rw [Nat.mul_right_comm]
        exact Nat.mul_le_mul_right _ (Nat.div_mul_le_self M p)
      omega
    have hok : okM n m = true := okM_of hK h1 hw hB hU (by omega) (by omega)
    cases rest with
    | false =>
      have hBC : B + M / p * B ≤ 2 * Y := by
        have : B + M / p * B ≤ (B + M / p * B) * p := Nat.le_mul_of_pos_right _ (by omega)
        omega
      exact sweep_false hK h1 hd hok ha e1 l2 w2 (fun i h2 h3 => (lo2 i h2 h3).mono hBC) up2 (by rw [p2]; exact b3) (z2 rfl) (by omega) hUK
    | true =>
      obtain ⟨i, i1, i2, i3⟩ := t2 rfl
      obtain ⟨k, k1, k2, k3⟩ := c2 i i1 i2
      obtain ⟨a', ha'⟩ : ∃ a', bestO c d m2 (m2.length - d) = some a' := by
        cases hb : bestO c d m2 (m2.length - d) with
        | none => exact absurd (best_none hb i (by omega) (by omega)) i3
        | some a' => exact ⟨a', rfl⟩
      obtain ⟨q1, q2, q3, q4⟩ := best_some ha'
      obtain ⟨p', hp'⟩ : ∃ p', p' = (getE m2 a' c).natAbs := ⟨_, rfl⟩
      have hpi : p' ≤ (getE m2 i c).natAbs := by rw [hp']; exact q4 i (by omega) (by omega) i3
      have hfs := fdq_same _ _ (hss k k1 k2)
      have hlt : (getE m2 i c).natAbs < p := by rw [k3, hp]; exact (fdq_mul_le _ _ b3).2
      have hhalf : 2 * p' ≤ M := by
        have hk0 : getE m k c ≠ 0 := by
          intro h0
          have h9 := hfs.2.1
          rw [← k3, h0] at h9
          simp only [Int.natAbs_zero] at h9
          omega
        have h7 := hfs.2.2.2 (b4 k k1 (by omega) hk0)
        have h8 := hM k k1 k2
        rw [← k3] at h7
        omega
      have hM2 : ColM d c p m2 := by
        intro j j1 j2
        by_cases hj : j = d
        · rw [hj, p2, hp]; exact Nat.le_refl _
        · obtain ⟨k', k1', k2', k3'⟩ := c2 j (by omega) (by omega)
          rw [k3', hp]; exact Nat.le_of_lt (fdq_mul_le _ _ b3).2
      have hS2 : ColS d c pos m2 := by
        intro j j1 j2
        by_cases hj : j = d
        · rw [hj, p2]; exact hS a b1 hal
        · obtain ⟨k', k1', k2', k3'⟩ := c2 j (by omega) (by omega)
          rw [k3']
          have s2 := hS a b1 hal
          have h9 := (fdq_same _ _ (hss k' k1' k2')).2.2.1
          cases pos
          · have : getE m a c ≤ 0 := by simpa using s2
            have : fdr (getE m k' c) (getE m a c) ≤ 0 := by rcases h9 with ⟨g1, g2⟩ | ⟨g1, g2⟩ <;> omega
            simpa using this
          · have : 0 ≤ getE m a c := by simpa using s2
            have : 0 ≤ fdr (getE m k' c) (getE m a c) := by rcases h9 with ⟨g1, g2⟩ | ⟨g1, g2⟩ <;> omega
            simpa using this
      have hY2 : (B + M / p * B) * (p * p * (getE m2 a' c).natAbs) ≤ Y := by
        rw [← hp']
        calc (B + M / p * B) * (p * p * p') = (B + M / p * B) * p * (p * p') := by simp only [Nat.mul_assoc]
          _ ≤ 2 * (M * B) * (p * p') := Nat.mul_le_mul_right _ hB'
          _ = M * B * p * (2 * p') := by simp only [Nat.mul_assoc, Nat.mul_left_comm, Nat.mul_comm]
          _ ≤ M * B * p * M := Nat.mul_le_mul_left _ hhalf
          _ = B * (M * M * p) := by simp only [Nat.mul_assoc, Nat.mul_left_comm, Nat.mul_comm]
          _ ≤ Y := hY
      obtain ⟨m', e', s'⟩ := sweep_same hK h1 hYK hUK pos f m2 (B + M / p * B) p a' (by omega) w2 lo2 up2 hM2 hS2 ha' hY2 (by omega)
      exact ⟨m', (sweep_true hok ha e1).trans e', ⟨s'.len.trans l2, s'.wid, s'.low, s'.upp, s'.pos, by rw [← l2]; exact s'.zero, s'.red⟩⟩

/-- One column. -/
theorem sweep_ok {n c d K U B F : Nat} {m : List (List Int)} (hK : K ≤ 400000000) (h1 : 1 ≤ K) (hYK : 2 * (3 * (B * B * (B * B))) + 2 < 10 ^ K) (hBK : B + 2 < 10 ^ K) (hUK : U + 2 < 10 ^ K) (hF : B < F) (hd : d < m.length) (hw : Wid n m) (hB : Low d B m) (hU : Upp d U m) :
    (sweepO n c d F m = some (m, false) ∧ ∀ i, d ≤ i → i < m.length → getE m i c = 0) ∨ ∃ m', sweepO n c d F m = some (m', true) ∧ SwR n d c (2 * (3 * (B * B * (B * B)))) U m m' := by
  obtain ⟨f, rfl⟩ : ∃ f, F = f + 1 := ⟨F - 1, by omega⟩
  have hok : okM n m = true := okM_of hK h1 hw hB hU (by omega) (by omega)
  cases ha : bestO c d m (m.length - d) with
  | none => exact .inl ⟨by rw [sweepO, if_pos hok, ha], fun i h2 h3 => best_none ha i h2 (by omega)⟩
  | some a =>
    right
    obtain ⟨b1, b2, b3, b4⟩ := best_some ha
    have hal : a < m.length := by omega
    obtain ⟨p, hp⟩ : ∃ p, p = (getE m a c).natAbs := ⟨_, rfl⟩
    have hM : ColM d c B m := fun i h2 h3 => (hB i h2 h3).getD c
    have hp1 : 1 ≤ p := by omega
    have hpB : p ≤ B := by rw [hp]; exact hM a b1 hal
    have hQ : ∀ i, d ≤ i → i < m.length → (fdq (getE m i c) (getE m a c)).natAbs ≤ (2 * B) / p := by
      intro i h2 h3
      rw [Nat.le_div_iff_mul_le (by omega), hp]
      have h5 := (fdq_mul_le (getE m i c) (getE m a c) b3).1
      have h6 := hM i h2 h3
      omega
    obtain ⟨m2, rest, e1, l2, w2, lo2, up2, p2, r2, c2, z2, t2⟩ := round_ok hK h1 hd hw hB hU hM ha hBK hQ
    have hB' : (B + (2 * B) / p * B) * p ≤ 3 * (B * B) := by
      rw [Nat.add_mul]
      have h5 : B * p ≤ B * B := Nat.mul_le_mul_left _ hpB
      have h6 : (2 * B) / p * B * p ≤ 2 * B * B := by
        rw [Nat.mul_right_comm]
        exact Nat.mul_le_mul_right _ (Nat.div_mul_le_self _ p)
      have h7 : 2 * B * B = 2 * (B * B) := Nat.mul_assoc _ _ _
      omega
    have hBB : B * B ≤ B * B * (B * B) := Nat.le_mul_of_pos_right _ (Nat.mul_pos (by omega) (by omega))
    cases rest with
    | false =>
      have hBC : B + (2 * B) / p * B ≤ 2 * (3 * (B * B * (B * B))) := by
        have : B + (2 * B) / p * B ≤ (B + (2 * B) / p * B) * p := Nat.le_mul_of_pos_right _ (by omega)
        omega
      exact sweep_false hK h1 hd hok ha e1 l2 w2 (fun i h2 h3 => (lo2 i h2 h3).mono hBC) up2 (by rw [p2]; exact b3) (z2 rfl) (by omega) hUK
    | true =>
      obtain ⟨i, i1, i2, i3⟩ := t2 rfl
      obtain ⟨k, k1, k2, k3⟩ := c2 i i1 i2
      obtain ⟨a', ha'⟩ : ∃ a', bestO c d m2 (m2.length - d) = some a' := by
        cases hb : bestO c d m2 (m2.length - d) with
        | none => exact absurd (best_none hb i (by omega) (by omega)) i3
        | some a' => exact ⟨a', rfl⟩
      obtain ⟨q1, q2, q3, q4⟩ := best_some ha'
      obtain ⟨p', hp'⟩ : ∃ p', p' = (getE m2 a' c).natAbs := ⟨_, rfl⟩
      have hpi : p' ≤ (getE m2 i c).natAbs := by rw [hp']; exact q4 i (by omega) (by omega) i3
      have hlt : (getE m2 i c).natAbs < p := by rw [k3, hp]; exact (fdq_mul_le _ _ b3).2
      have hM2 : ColM d c p m2 := by
        intro j j1 j2
        by_cases hj : j = d
        · rw [hj, p2, hp]; exact Nat.le_refl _
        · obtain ⟨k', k1', k2', k3'⟩ := c2 j (by omega) (by omega)
          rw [k3', hp]; exact Nat.le_of_lt (fdq_mul_le _ _ b3).2
      have hS2 : ColS d c (decide (0 < getE m a c)) m2 := by
        intro j j1 j2
        have hj2 : 0 < getE m a c → 0 ≤ getE m2 j c := by
          intro hpos
          by_cases hj : j = d
          · rw [hj, p2]; omega
          · obtain ⟨k', k1', k2', k3'⟩ := c2 j (by omega) (by omega)
            rw [k3']; exact (fdr_pos _ _ hpos).1
        have hj3 : getE m a c < 0 → getE m2 j c ≤ 0 := by
          intro hneg
          by_cases hj : j = d
          · rw [hj, p2]; omega
          · obtain ⟨k', k1', k2', k3'⟩ := c2 j (by omega) (by omega)
            rw [k3']; exact (fdr_neg _ _ hneg).2
        by_cases hpos : 0 < getE m a c
        · simp only [hpos, decide_true, if_true]; exact hj2 hpos
        · simp only [hpos, decide_false]; exact hj3 (by omega)
      have hY2 : (B + (2 * B) / p * B) * (p * p * (getE m2 a' c).natAbs) ≤ 3 * (B * B * (B * B)) := by
        rw [← hp']
        calc (B + (2 * B) / p * B) * (p * p * p') = (B + (2 * B) / p * B) * p * (p * p') := by simp only [Nat.mul_assoc]
          _ ≤ 3 * (B * B) * (p * p') := Nat.mul_le_mul_right _ hB'
          _ ≤ 3 * (B * B) * (B * B) := Nat.mul_le_mul_left _ (Nat.mul_le_mul hpB (by omega))
          _ = 3 * (B * B * (B * B)) := Nat.mul_assoc _ _ _
      obtain ⟨m', e', s'⟩ := sweep_same hK h1 hYK hUK (decide (0 < getE m a c)) f m2 (B + (2 * B) / p * B) p a' (by omega) w2 lo2 up2 hM2 hS2 ha' hY2 (by omega)
      exact ⟨m', (sweep_true hok ha e1).trans e', ⟨s'.len.trans l2, s'.wid, s'.low, s'.upp, s'.pos, by rw [← l2]; exact s'.zero, s'.red⟩⟩
end Go.Proofs.YtehknemdfbkimaaGreatDoor
/- The Hermite form is there for every matrix of few rows: its numbers stay small. No program is named here. -/
namespace Go.Proofs.YtehknemdfbkimaaGreatDoor
set_option linter.unusedVariables false
set_option linter.unusedSimpArgs false
open Go.RowKit

/-- How many digits the rows left, and the rows done, have after r pivots more. -/
def gN : Nat → Nat → Nat → Nat × Nat
  | 0, b, u => (b, u)
  | r + 1, b, u => gN r (4 * b + 1) (u + 4 * b + 2)
theorem gN_le : ∀ r b u, b ≤ (gN r b u).1 ∧ u ≤ (gN r b u).2
  | 0, b, u => ⟨Nat.le_refl _, Nat.le_refl _⟩
  | r + 1, b, u => by
    have := gN_le r (4 * b + 1) (u + 4 * b + 2)
    unfold gN
    omega
theorem pow4 (b : Nat) : 10 ^ b * 10 ^ b * (10 ^ b * 10 ^ b) = 10 ^ (4 * b) := by
  rw [← Nat.pow_add, ← Nat.pow_add]; congr 1; omega
theorem pow_mono {a b : Nat} (h : a ≤ b) : 10 ^ a ≤ 10 ^ b := Nat.pow_le_pow_right (by decide) h
theorem pow_one_up (b : Nat) : 10 ^ (b + 1) = 10 * 10 ^ b := by rw [Nat.pow_succ, Nat.mul_comm]
theorem pow_pos10 (b : Nat) : 1 ≤ 10 ^ b := Nat.pos_of_ne_zero (by simp)
theorem rowLe_split {d : Nat} {A B C : Nat} {m : List (List Int)} (hl : Low d A m) (hu : Upp d B m) (hA : A ≤ C) (hB : B ≤ C) (e : Nat) : Upp e C m := by
  intro i h1 h2
  by_cases h : i < d
  · exact (hu i h h2).mono hB
  · exact (hl i (by omega) h2).mono hA

theorem cols_ok {n K F : Nat} (hK : K ≤ 400000000) :
    ∀ (k c d r b u : Nat) (m : List (List Int)), d ≤ m.length → Wid n m → Low d (10 ^ b) m → Upp d (10 ^ u) m → (m.length - d ≤ r ∨ k ≤ r) → (gN r b u).1 + 1 ≤ K → (gN r b u).2 + 1 ≤ K → 10 ^ (gN r b u).1 < F →
      ∃ m' d', colsO n F k c d m = some (m', d') ∧ m'.length = m.length ∧ d' ≤ m'.length ∧ Wid n m' ∧ Upp d' (10 ^ (gN r b u).2) m'
  | 0, c, d, r, b, u, m, hd, hw, hl, hu, hr, h1, h2, hF => ⟨m, d, rfl, rfl, hd, hw, fun i a1 a2 => (hu i a1 a2).mono (pow_mono (gN_le r b u).2)⟩
  | k + 1, c, d, r, b, u, m, hd, hw, hl, hu, hr, h1, h2, hF => by
    have hg := gN_le r b u
    by_cases hlt : d < m.length
    · obtain ⟨r, rfl⟩ : ∃ r', r = r' + 1 := ⟨r - 1, by omega⟩
      have hg1 := gN_le r (4 * b + 1) (u + 4 * b + 2)
      have e1 : gN (r + 1) b u = gN r (4 * b + 1) (u + 4 * b + 2) := rfl
      rw [e1] at hg h1 h2 hF
      have p4 := pow_pos10 (4 * b)
      have pb := pow_pos10 b
      have pu := pow_pos10 u
      have hY : 2 * (3 * (10 ^ b * 10 ^ b * (10 ^ b * 10 ^ b))) + 2 < 10 ^ K := by
        rw [pow4]
        have e2 := pow_one_up (4 * b)
        have e3 : 10 ^ (4 * b + 1) ≤ 10 ^ K := pow_mono (by omega)
        omega
      have hBK : 10 ^ b + 2 < 10 ^ K := by
        have e2 := pow_one_up b
        have e3 : 10 ^ (b + 1) ≤ 10 ^ K := pow_mono (by omega)
        omega
      have hUK : 10 ^ u + 2 < 10 ^ K := by
        have e2 := pow_one_up u
        have e3 : 10 ^ (u + 1) ≤ 10 ^ K := pow_mono (by omega)
        omega
      have hFb : 10 ^ b < F := Nat.lt_of_le_of_lt (pow_mono hg.1) hF
      have hC : 2 * (3 * (10 ^ b * 10 ^ b * (10 ^ b * 10 ^ b))) ≤ 10 ^ (4 * b + 1) := by
        rw [pow4, pow_one_up]; omega
      have hC2 : 10 ^ (4 * b + 1) ≤ 10 ^ (u + 4 * b + 2) := pow_mono (by omega)
      have hU2 : 10 ^ u + (10 ^ u + 1) * (2 * (3 * (10 ^ b * 10 ^ b * (10 ^ b * 10 ^ b)))) ≤ 10 ^ (u + 4 * b + 2) := by
        rw [pow4]
        have e2 : 10 ^ (u + 4 * b + 2) = 100 * (10 ^ u * 10 ^ (4 * b)) := by rw [Nat.pow_succ, Nat.pow_succ, Nat.pow_add]; omega
        have e3 : 10 ^ u ≤ 10 ^ u * 10 ^ (4 * b) := Nat.le_mul_of_pos_right _ (by omega)
        have e4 : 10 ^ (4 * b) ≤ 10 ^ u * 10 ^ (4 * b) := Nat.le_mul_of_pos_left _ (by omega)
        have e5 : (10 ^ u + 1) * (2 * (3 * 10 ^ (4 * b))) = 6 * (10 ^ u * 10 ^ (4 * b)) + 6 * 10 ^ (4 * b) := by
          rw [Nat.add_mul, Nat.one_mul, Nat.mul_left_comm, Nat.mul_left_comm _ 3]; omega
        rw [e2, e5]; omega
      rcases sweep_ok (n := n) (c := c) (F := F) hK (by omega) hY hBK hUK hFb hlt hw hl hu with ⟨hs, hz⟩ | ⟨m', hs, s⟩
      · have hr' : m.length - d ≤ r + 1 ∨ k ≤ r + 1 := by omega
        obtain ⟨m', d', q1, q2, q3, q4, q5⟩ := cols_ok hK k (c + 1) d (r + 1) b u m hd hw hl hu hr' (by rw [e1]; exact h1) (by rw [e1]; exact h2) (by rw [e1]; exact hF)
        refine ⟨m', d', ?_, q2, q3, q4, q5⟩
        rw [colsO, if_pos hlt, hs]; exact q1
      · have hlow : Low (d + 1) (10 ^ (4 * b + 1)) m' := fun i a1 a2 => (s.low i (by omega) a2).mono hC
        have hupp : Upp (d + 1) (10 ^ (u + 4 * b + 2)) m' := rowLe_split s.low s.upp (Nat.le_trans hC hC2) hU2 (d + 1)
        have hr' : m'.length - (d + 1) ≤ r ∨ k ≤ r := by have := s.len; omega
        obtain ⟨m2, d', q1, q2, q3, q4, q5⟩ := cols_ok hK k (c + 1) (d + 1) r (4 * b + 1) (u + 4 * b + 2) m' (by rw [s.len]; omega) s.wid hlow hupp hr' h1 h2 hF
        refine ⟨m2, d', ?_, q2.trans s.len, q3, q4, q5⟩
        rw [colsO, if_pos hlt, hs]; exact q1
    · refine ⟨m, d, ?_, rfl, hd, hw, fun i a1 a2 => (hu i a1 a2).mono (pow_mono hg.2)⟩
      rw [colsO, if_neg hlt]

/-- The Hermite form of a matrix whose rows are few, or whose columns are few: there is a fuel for it, and its elements are bounded. -/
theorem form_ok (n k r b : Nat) (m : List (List Int)) (hw : ∀ x ∈ m, x.length = n) (hb : ∀ x ∈ m, RowLe (10 ^ b) x) (hr : m.length ≤ r ∨ k ≤ r) (h1 : (gN r b 0).1 + 1 ≤ 400000000) (h2 : (gN r b 0).2 + 1 ≤ 400000000) :
    ∃ F R, formO n F k m = some R ∧ R.length ≤ m.length ∧ (∀ x ∈ R, x.length = n) ∧ ∀ x ∈ R, RowLe (10 ^ (gN r b 0).2) x := by
  have hmem : ∀ (m' : List (List Int)) i, i < m'.length → rowE_ m' i ∈ m' := fun m' i hi => List.mem_of_getElem? (rowE_get hi)
  obtain ⟨m', d', q1, q2, q3, q4, q5⟩ := cols_ok (n := n) (F := 10 ^ (gN r b 0).1 + 1) (Nat.le_refl 400000000) k 0 0 r b 0 m (by omega) (fun i hi => hw _ (hmem m i hi)) (fun i _ hi => hb _ (hmem m i hi)) (fun i hi _ => by omega) (by omega) h1 h2 (Nat.lt_succ_self _)
  have hrow : ∀ x ∈ m'.take d', ∃ i, i < d' ∧ i < m'.length ∧ rowE_ m' i = x := by
    intro x hx
    obtain ⟨i, hi⟩ := List.getElem?_of_mem hx
    have hil := (List.getElem?_eq_some_iff.1 hi).1
    rw [List.length_take] at hil
    refine ⟨i, by omega, by omega, ?_⟩
    rw [List.getElem?_take] at hi
    split at hi
    · exact rowE_of hi
    · cases hi
  refine ⟨10 ^ (gN r b 0).1 + 1, m'.take d', ?_, by rw [List.length_take, ← q2]; omega, fun x hx => ?_, fun x hx => ?_⟩
  · unfold formO; rw [q1]
  · obtain ⟨i, i1, i2, i3⟩ := hrow x hx; rw [← i3]; exact q4 i i2
  · obtain ⟨i, i1, i2, i3⟩ := hrow x hx; rw [← i3]; exact q5 i i1 i2
end Go.Proofs.YtehknemdfbkimaaGreatDoor
