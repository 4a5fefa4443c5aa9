/- Merged: GrowC, GrowD, GrowE. -/
import Derived.Test.YtjihfabhgcfjnaaGreatDoorUAO
/- How numbers grow over the rounds of one column of the Hermite form. No program is named here. -/
namespace Go.Proofs.YtjihfabhgcfjnaaGreatDoor
set_option linter.unusedVariables false
set_option linter.unusedSimpArgs false
open Go.RowKit

theorem sweep_true {n c d a f : Nat} {m m2 : List (List Int)} (hok : okM n m = true) (ha : bestO c d m (m.length - d) = some a) (hdn : downO c d (swapL m d a) (m.length - (d + 1)) = some (m2, true)) : sweepO n c d (f + 1) m = sweepO n c d f m2 := by
  rw [sweepO, if_pos hok, ha]; simp only; rw [hdn]
theorem sweep_false {n c d a f K C U : Nat} {m m2 : List (List Int)} (hK : K ≤ 400000000) (h1 : 1 ≤ K) (hd : d < m.length) (hok : okM n m = true) (ha : bestO c d m (m.length - d) = some a) (hdn : downO c d (swapL m d a) (m.length - (d + 1)) = some (m2, false))
    (l2 : m2.length = m.length) (hw : Wid n m2) (hC : Low d C m2) (hU : Upp d U m2) (hp : getE m2 d c ≠ 0) (hz : ∀ i, d < i → i < m.length → getE m2 i c = 0) (hCK : C < 10 ^ K) (hUK : U + 2 < 10 ^ K) :
    ∃ m', sweepO n c d (f + 1) m = some (m', true) ∧ SwR n d c C U m m' := by
  obtain ⟨m4, e4, s4⟩ := finish_ok hK h1 (by rw [l2]; exact hd) hw hC hU hp (by rw [l2]; exact hz) hCK hUK
  have hok2 : okM n m2 = true := okM_of hK h1 hw hC hU hCK (by omega)
  refine ⟨m4, ?_, ⟨s4.len.trans l2, s4.wid, s4.low, s4.upp, s4.pos, by rw [← l2]; exact s4.zero, s4.red⟩⟩
  rw [sweepO, if_pos hok, ha]; simp only; rw [hdn]; simp only; rw [if_pos hok2, e4]

/-- The rounds in which all elements have one sign. -/
theorem sweep_same {n c d K U Y : Nat} (hK : K ≤ 400000000) (h1 : 1 ≤ K) (hYK : 2 * Y + 2 < 10 ^ K) (hUK : U + 2 < 10 ^ K) (pos : Bool) :
    ∀ (F : Nat) (m : List (List Int)) (B M a : Nat), d < m.length → Wid n m → Low d B m → Upp d U m → ColM d c M m → ColS d c pos m → bestO c d m (m.length - d) = some a → B * (M * M * (getE m a c).natAbs) ≤ Y → (getE m a c).natAbs < F →
      ∃ m', sweepO n c d F m = some (m', true) ∧ SwR n d c (2 * Y) U m m'
  | 0, m, B, M, a, _, _, _, _, _, _, _, _, hF => by omega
  | f + 1, m, B, M, a, hd, hw, hB, hU, hM, hS, ha, hY, hF => by
    obtain ⟨b1, b2, b3, b4⟩ := best_some ha
    have hal : a < m.length := by omega
    obtain ⟨p, hp⟩ : ∃ p, p = (getE m a c).natAbs := ⟨_, rfl⟩
    rw [← hp] at hY hF
    have hp1 : 1 ≤ p := by omega
    have hpM : p ≤ M := by rw [hp]; exact hM a b1 hal
    have hMB : M * B ≤ Y := by
      refine Nat.le_trans ?_ hY
      rw [Nat.mul_comm M B]
      refine Nat.mul_le_mul_left _ ?_
      calc M = M * 1 * 1 := by omega
        _ ≤ M * M * p := Nat.mul_le_mul (Nat.mul_le_mul_left _ (by omega)) hp1
    have hBY : B ≤ Y := Nat.le_trans (Nat.le_mul_of_pos_left B (by omega)) hMB
    have hss : ∀ i, d ≤ i → i < m.length → SameS (getE m i c) (getE m a c) := by
      intro i h2 h3
      have s1 := hS i h2 h3
      have s2 := hS a b1 hal
      cases pos
      · exact .inr ⟨by simpa using s1, by have : getE m a c ≤ 0 := by simpa using s2
                                          omega⟩
      · exact .inl ⟨by simpa using s1, by have : 0 ≤ getE m a c := by simpa using s2
                                          omega⟩
    have hQ : ∀ i, d ≤ i → i < m.length → (fdq (getE m i c) (getE m a c)).natAbs ≤ M / p := by
      intro i h2 h3
      rw [Nat.le_div_iff_mul_le (by omega), hp]
      exact Nat.le_trans (fdq_same _ _ (hss i h2 h3)).1 (hM i h2 h3)
    obtain ⟨m2, rest, e1, l2, w2, lo2, up2, p2, r2, c2, z2, t2⟩ := round_ok hK h1 hd hw hB hU hM ha (by omega) hQ
    have hB' : (B + M / p * B) * p ≤ 2 * (M * B) := by
      rw [Nat.add_mul]
      have h5 : B * p ≤ M * B := by rw [Nat.mul_comm M B]; exact Nat.mul_le_mul_left _ hpM
      have h6 : M / p * B * p ≤ M * B := by
        rw [Nat.mul_right_comm]
        exact Nat.mul_le_mul_right _ (Nat.div_mul_le_self M p)
      omega
    have hok : okM n m = true := okM_of hK h1 hw hB hU (by omega) (by omega)
    cases rest with
    | false =>
      have hBC : B + M / p * B ≤ 2 * Y := by
        have : B + M / p * B ≤ (B + M / p * B) * p := Nat.le_mul_of_pos_right _ (by omega)
        omega
      exact sweep_false hK h1 hd hok ha e1 l2 w2 (fun i h2 h3 => (lo2 i h2 h3).mono hBC) up2 (by rw [p2]; exact b3) (z2 rfl) (by omega) hUK
    | true =>
      obtain ⟨i, i1, i2, i3⟩ := t2 rfl
      obtain ⟨k, k1, k2, k3⟩ := c2 i i1 i2
      obtain ⟨a', ha'⟩ : ∃ a', bestO c d m2 (m2.length - d) = some a' := by
        cases hb : bestO c d m2 (m2.length - d) with
        | none => exact absurd (best_none hb i (by omega) (by omega)) i3
        | some a' => exact ⟨a', rfl⟩
      obtain ⟨q1, q2, q3, q4⟩ := best_some ha'
      obtain ⟨p', hp'⟩ : ∃ p', p' = (getE m2 a' c).natAbs := ⟨_, rfl⟩
      have hpi : p' ≤ (getE m2 i c).natAbs := by rw [hp']; exact q4 i (by omega) (by omega) i3
      have hfs := fdq_same _ _ (hss k k1 k2)
      have hlt : (getE m2 i c).natAbs < p := by rw [k3, hp]; exact (fdq_mul_le _ _ b3).2
      have hhalf : 2 * p' ≤ M := by
        have hk0 : getE m k c ≠ 0 := by
          intro h0
          have h9 := hfs.2.1
          rw [← k3, h0] at h9
          simp only [Int.natAbs_zero] at h9
          omega
        have h7 := hfs.2.2.2 (b4 k k1 (by omega) hk0)
        have h8 := hM k k1 k2
        rw [← k3] at h7
        omega
      have hM2 : ColM d c p m2 := by
        intro j j1 j2
        by_cases hj : j = d
        · rw [hj, p2, hp]; exact Nat.le_refl _
        · obtain ⟨k', k1', k2', k3'⟩ := c2 j (by omega) (by omega)
          rw [k3', hp]; exact Nat.le_of_lt (fdq_mul_le _ _ b3).2
      have hS2 : ColS d c pos m2 := by
        intro j j1 j2
        by_cases hj : j = d
        · rw [hj, p2]; exact hS a b1 hal
        · obtain ⟨k', k1', k2', k3'⟩ := c2 j (by omega) (by omega)
          rw [k3']
          have s2 := hS a b1 hal
          have h9 := (fdq_same _ _ (hss k' k1' k2')).2.2.1
          cases pos
          · have : getE m a c ≤ 0 := by simpa using s2
            have : fdr (getE m k' c) (getE m a c) ≤ 0 := by rcases h9 with ⟨g1, g2⟩ | ⟨g1, g2⟩ <;> omega
            simpa using this
          · have : 0 ≤ getE m a c := by simpa using s2
            have : 0 ≤ fdr (getE m k' c) (getE m a c) := by rcases h9 with ⟨g1, g2⟩ | ⟨g1, g2⟩ <;> omega
            simpa using this
      have hY2 : (B + M / p * B) * (p * p * (getE m2 a' c).natAbs) ≤ Y := by
        rw [← hp']
        calc (B + M / p * B) * (p * p * p') = (B + M / p * B) * p * (p * p') := by simp only [Nat.mul_assoc]
          _ ≤ 2 * (M * B) * (p * p') := Nat.mul_le_mul_right _ hB'
          _ = M * B * p * (2 * p') := by simp only [Nat.mul_assoc, Nat.mul_left_comm, Nat.mul_comm]
          _ ≤ M * B * p * M := Nat.mul_le_mul_left _ hhalf
          _ = B * (M * M * p) := by simp only [Nat.mul_assoc, Nat.mul_left_comm, Nat.mul_comm]
          _ ≤ Y := hY
      obtain ⟨m', e', s'⟩ := sweep_same hK h1 hYK hUK pos f m2 (B + M / p * B) p a' (by omega) w2 lo2 up2 hM2 hS2 ha' hY2 (by omega)
      exact ⟨m', (sweep_true hok ha e1).trans e', ⟨s'.len.trans l2, s'.wid, s'.low, s'.upp, s'.pos, by rw [← l2]; exact s'.zero, s'.red⟩⟩

/-- One column. -/
theorem sweep_ok {n c d K U B F : Nat} {m : List (List Int)} (hK : K ≤ 400000000) (h1 : 1 ≤ K) (hYK : 2 * (3 * (B * B * (B * B))) + 2 < 10 ^ K) (hBK : B + 2 < 10 ^ K) (hUK : U + 2 < 10 ^ K) (hF : B < F) (hd : d < m.length) (hw : Wid n m) (hB : Low d B m) (hU : Upp d U m) :
    (sweepO n c d F m = some (m, false) ∧ ∀ i, d ≤ i → i < m.length → getE m i c = 0) ∨ ∃ m', sweepO n c d F m = some (m', true) ∧ SwR n d c (2 * (3 * (B * B * (B * B)))) U m m' := by
  obtain ⟨f, rfl⟩ : ∃ f, F = f + 1 := ⟨F - 1, by omega⟩
  have hok : okM n m = true := okM_of hK h1 hw hB hU (by omega) (by omega)
  cases ha : bestO c d m (m.length - d) with
  | none => exact .inl ⟨by rw [sweepO, if_pos hok, ha], fun i h2 h3 => best_none ha i h2 (by omega)⟩
  | some a =>
    right
    obtain ⟨b1, b2, b3, b4⟩ := best_some ha
    have hal : a < m.length := by omega
    obtain ⟨p, hp⟩ : ∃ p, p = (getE m a c).natAbs := ⟨_, rfl⟩
    have hM : ColM d c B m := fun i h2 h3 => (hB i h2 h3).getD c
    have hp1 : 1 ≤ p := by omega
    have hpB : p ≤ B := by rw [hp]; exact hM a b1 hal
    have hQ : ∀ i, d ≤ i → i < m.length → (fdq (getE m i c) (getE m a c)).natAbs ≤ (2 * B) / p := by
      intro i h2 h3
      rw [Nat.le_div_iff_mul_le (by omega), hp]
      have h5 := (fdq_mul_le (getE m i c) (getE m a c) b3).1
      have h6 := hM i h2 h3
      omega
    obtain ⟨m2, rest, e1, l2, w2, lo2, up2, p2, r2, c2, z2, t2⟩ := round_ok hK h1 hd hw hB hU hM ha hBK hQ
    have hB' : (B + (2 * B) / p * B) * p ≤ 3 * (B * B) := by
      rw [Nat.add_mul]
      have h5 : B * p ≤ B * B := Nat.mul_le_mul_left _ hpB
      have h6 : (2 * B) / p * B * p ≤ 2 * B * B := by
        rw [Nat.mul_right_comm]
        exact Nat.mul_le_mul_right _ (Nat.div_mul_le_self _ p)
      have h7 : 2 * B * B = 2 * (B * B) := Nat.mul_assoc _ _ _
      omega
    have hBB : B * B ≤ B * B * (B * B) := Nat.le_mul_of_pos_right _ (Nat.mul_pos (by omega) (by omega))
    cases rest with
    | false =>
      have hBC : B + (2 * B) / p * B ≤ 2 * (3 * (B * B * (B * B))) := by
        have : B + (2 * B) / p * B ≤ (B + (2 * B) / p * B) * p := Nat.le_mul_of_pos_right _ (by omega)
        omega
      exact sweep_false hK h1 hd hok ha e1 l2 w2 (fun i h2 h3 => (lo2 i h2 h3).mono hBC) up2 (by rw [p2]; exact b3) (z2 rfl) (by omega) hUK
    | true =>
      obtain ⟨i, i1, i2, i3⟩ := t2 rfl
      obtain ⟨k, k1, k2, k3⟩ := c2 i i1 i2
      obtain ⟨a', ha'⟩ : ∃ a', bestO c d m2 (m2.length - d) = some a' := by
        cases hb : bestO c d m2 (m2.length - d) with
        | none => exact absurd (best_none hb i (by omega) (by omega)) i3
        | some a' => exact ⟨a', rfl⟩
      obtain ⟨q1, q2, q3, q4⟩ := best_some ha'
      obtain ⟨p', hp'⟩ : ∃ p', p' = (getE m2 a' c).natAbs := ⟨_, rfl⟩
      have hpi : p' ≤ (getE m2 i c).natAbs := by rw [hp']; exact q4 i (by omega) (by omega) i3
      have hlt : (getE m2 i c).natAbs < p := by rw [k3, hp]; exact (fdq_mul_le _ _ b3).2
      have hM2 : ColM d c p m2 := by
        intro j j1 j2
        by_cases hj : j = d
        · rw [hj, p2, hp]; exact Nat.le_refl _
        · obtain ⟨k', k1', k2', k3'⟩ := c2 j (by omega) (by omega)
          rw [k3', hp]; exact Nat.le_of_lt (fdq_mul_le _ _ b3).2
      have hS2 : ColS d c (decide (0 < getE m a c)) m2 := by
        intro j j1 j2
        have hj2 : 0 < getE m a c → 0 ≤ getE m2 j c := by
          intro hpos
          by_cases hj : j = d
          · rw [hj, p2]; omega
          · obtain ⟨k', k1', k2', k3'⟩ := c2 j (by omega) (by omega)
            rw [k3']; exact (fdr_pos _ _ hpos).1
        have hj3 : getE m a c < 0 → getE m2 j c ≤ 0 := by
          intro hneg
          by_cases hj : j = d
          · rw [hj, p2]; omega
          · obtain ⟨k', k1', k2', k3'⟩ := c2 j (by omega) (by omega)
            rw [k3']; exact (fdr_neg _ _ hneg).2
        by_cases hpos : 0 < getE m a c
        · simp only [hpos, decide_true, if_true]; exact hj2 hpos
        · simp only [hpos, decide_false]; exact hj3 (by omega)
      have hY2 : (B + (2 * B) / p * B) * (p * p * (getE m2 a' c).natAbs) ≤ 3 * (B * B * (B * B)) := by
        rw [← hp']
        calc (B + (2 * B) / p * B) * (p * p * p') = (B + (2 * B) / p * B) * p * (p * p') := by simp only [Nat.mul_assoc]
          _ ≤ 3 * (B * B) * (p * p') := Nat.mul_le_mul_right _ hB'
          _ ≤ 3 * (B * B) * (B * B) := Nat.mul_le_mul_left _ (Nat.mul_le_mul hpB (by omega))
          _ = 3 * (B * B * (B * B)) := Nat.mul_assoc _ _ _
      obtain ⟨m', e', s'⟩ := sweep_same hK h1 hYK hUK (decide (0 < getE m a c)) f m2 (B + (2 * B) / p * B) p a' (by omega) w2 lo2 up2 hM2 hS2 ha' hY2 (by omega)
      exact ⟨m', (sweep_true hok ha e1).trans e', ⟨s'.len.trans l2, s'.wid, s'.low, s'.upp, s'.pos, by rw [← l2]; exact s'.zero, s'.red⟩⟩
end Go.Proofs.YtjihfabhgcfjnaaGreatDoor
/- The Hermite form is there for every matrix of few rows: its numbers stay small. No program is named here. -/
namespace Go.Proofs.YtjihfabhgcfjnaaGreatDoor
set_option linter.unusedVariables false
set_option linter.unusedSimpArgs false
open Go.RowKit

/-- How many digits the rows left, and the rows done, have after r pivots more. -/
def gN : Nat → Nat → Nat → Nat × Nat
  | 0, b, u => (b, u)
  | r + 1, b, u => gN r (4 * b + 1) (u + 4 * b + 2)
theorem gN_le : ∀ r b u, b ≤ (gN r b u).1 ∧ u ≤ (gN r b u).2
  | 0, b, u => ⟨Nat.le_refl _, Nat.le_refl _⟩
  | r + 1, b, u => by
    have := gN_le r (4 * b + 1) (u + 4 * b + 2)
    unfold gN
    omega
theorem pow4 (b : Nat) : 10 ^ b * 10 ^ b * (10 ^ b * 10 ^ b) = 10 ^ (4 * b) := by
  rw [← Nat.pow_add, ← Nat.pow_add]; congr 1; omega
theorem pow_mono {a b : Nat} (h : a ≤ b) : 10 ^ a ≤ 10 ^ b := Nat.pow_le_pow_right (by decide) h
theorem pow_one_up (b : Nat) : 10 ^ (b + 1) = 10 * 10 ^ b := by rw [Nat.pow_succ, Nat.mul_comm]
theorem pow_pos10 (b : Nat) : 1 ≤ 10 ^ b := Nat.pos_of_ne_zero (by simp)
theorem rowLe_split {d : Nat} {A B C : Nat} {m : List (List Int)} (hl : Low d A m) (hu : Upp d B m) (hA : A ≤ C) (hB : B ≤ C) (e : Nat) : Upp e C m := by
  intro i h1 h2
  by_cases h : i < d
  · exact (hu i h h2).mono hB
  · exact (hl i (by omega) h2).mono hA

end Go.Proofs.YtjihfabhgcfjnaaGreatDoor
/- The steps of the Hermite form keep what the rows generate. No program is named here. -/
namespace Go.Proofs.YtjihfabhgcfjnaaGreatDoor
set_option linter.unusedVariables false
set_option linter.unusedSimpArgs false
open Go.RowKit

/-- What rows generate. -/
inductive Sp (n : Nat) (S : List Int → Prop) : List Int → Prop
  | zero : Sp n S (List.replicate n 0)
  | mem {r} (h : S r) : Sp n S r
  | less {r s} (k : Int) (h : Sp n S r) (h' : Sp n S s) : Sp n S (lessL k r s)
def AllLen (n : Nat) (S : List Int → Prop) : Prop := ∀ r, S r → r.length = n
theorem Sp.len {n : Nat} {S : List Int → Prop} (hS : AllLen n S) {r : List Int} (h : Sp n S r) : r.length = n := by
  induction h with
  | zero => simp
  | mem h => exact hS _ h
  | less k h h' ih ih' => rw [lessL_len]; exact ih
theorem Sp.mono {n : Nat} {S T : List Int → Prop} (hS : ∀ r, S r → Sp n T r) {r : List Int} (h : Sp n S r) : Sp n T r := by
  induction h with
  | zero => exact .zero
  | mem h => exact hS _ h
  | less k h h' ih ih' => exact .less k ih ih'
theorem Sp.zeroCol {n c : Nat} {S : List Int → Prop} (hS : AllLen n S) (hz : ∀ r, S r → r.getD c 0 = 0) {r : List Int} (h : Sp n S r) : r.getD c 0 = 0 := by
  induction h with
  | zero =>
    rw [List.getD_eq_getElem?_getD]
    by_cases hc : c < n
    · rw [List.getElem?_eq_getElem (by simpa using hc)]; simp
    · rw [List.getElem?_eq_none (by simp; omega)]; rfl
  | mem h => exact hz _ h
  | less k h h' ih ih' =>
    rw [lessL_getD k (by rw [h.len hS, h'.len hS]), ih, ih']; simp
theorem lessL_back (k : Int) : ∀ (r s : List Int), lessL (-k) (lessL k r s) s = r
  | r, [] => by
    have h1 : lessL k r [] = r := by cases r <;> rfl
    rw [h1]; cases r <;> rfl
  | [], _ :: _ => rfl
  | a :: r, b :: s => by
    have e : lessL (-k) (lessL k (a :: r) (b :: s)) (b :: s) = (a - k * b - -k * b) :: lessL (-k) (lessL k r s) s := rfl
    rw [e, lessL_back k r s, Int.neg_mul]
    congr 1; omega
theorem lessL_neg : ∀ (r : List Int), lessL 1 (List.replicate r.length 0) r = r.map (- ·)
  | [] => rfl
  | a :: r => by
    have e : lessL 1 (List.replicate (a :: r).length 0) (a :: r) = (0 - 1 * a) :: lessL 1 (List.replicate r.length 0) r := rfl
    rw [e, lessL_neg r, List.map_cons]
    congr 1; omega
theorem Sp.neg {n : Nat} {S : List Int → Prop} {r : List Int} (h : Sp n S r) (hl : r.length = n) : Sp n S (r.map (- ·)) := by
  rw [← lessL_neg, hl]; exact .less 1 .zero h
theorem lessO_some {k : Int} {r s r' : List Int} (h : lessO k r s = some r') : r' = lessL k r s := by
  unfold lessO at h
  split at h
  · rename_i h0; rw [h0, lessL_zero]; exact (Option.some.inj h).symm
  · split at h
    · exact (Option.some.inj h).symm
    · cases h

/-- The rows of a matrix from d on. -/
def RowsFrom (d : Nat) (m : List (List Int)) : List Int → Prop := fun r => ∃ i, d ≤ i ∧ i < m.length ∧ rowE_ m i = r
def SpEq (n : Nat) (S T : List Int → Prop) : Prop := (∀ r, S r → Sp n T r) ∧ (∀ r, T r → Sp n S r)
theorem SpEq.refl (n : Nat) (S : List Int → Prop) : SpEq n S S := ⟨fun _ h => .mem h, fun _ h => .mem h⟩
theorem SpEq.trans {n : Nat} {S T V : List Int → Prop} (h : SpEq n S T) (k : SpEq n T V) : SpEq n S V := ⟨fun r hr => (h.1 r hr).mono k.1, fun r hr => (k.2 r hr).mono h.2⟩
theorem SpEq.iff {n : Nat} {S T : List Int → Prop} (h : SpEq n S T) (r : List Int) : Sp n S r ↔ Sp n T r := ⟨fun hr => hr.mono h.1, fun hr => hr.mono h.2⟩
theorem rowsFrom_len {n d : Nat} {m : List (List Int)} (hw : Wid n m) : AllLen n (RowsFrom d m) := by rintro r ⟨i, -, hi, rfl⟩; exact hw i hi
theorem rowsFrom_mem {d i : Nat} {m : List (List Int)} (h1 : d ≤ i) (h2 : i < m.length) : RowsFrom d m (rowE_ m i) := ⟨i, h1, h2, rfl⟩

theorem swap_sp {n d a : Nat} {m : List (List Int)} (hd : d < m.length) (ha : a < m.length) (hda : d ≤ a) : SpEq n (RowsFrom d m) (RowsFrom d (swapL m d a)) := by
  have hr := rowE_swap hd ha
  have hl := swapL_len m d a
  constructor
  · rintro r ⟨i, h1, h2, rfl⟩
    refine .mem ?_
    by_cases e1 : i = a
    · refine ⟨d, Nat.le_refl _, by omega, ?_⟩
      rw [hr, e1]
      by_cases e2 : d = a
      · rw [if_pos e2, e2]
      · rw [if_neg e2, if_pos rfl]
    · by_cases e2 : i = d
      · exact ⟨a, hda, by omega, by rw [hr, if_pos rfl, e2]⟩
      · exact ⟨i, h1, by omega, by rw [hr, if_neg e1, if_neg e2]⟩
  · rintro r ⟨i, h1, h2, rfl⟩
    refine .mem ?_
    rw [hr]
    by_cases e1 : i = a
    · rw [if_pos e1]; exact rowsFrom_mem (Nat.le_refl _) hd
    · rw [if_neg e1]
      by_cases e2 : i = d
      · rw [if_pos e2]; exact rowsFrom_mem hda ha
      · rw [if_neg e2]; exact rowsFrom_mem h1 (by omega)

theorem down_rel {c d : Nat} {m : List (List Int)} : ∀ {k m' rest}, downO c d m k = some (m', rest) → d + 1 + k ≤ m.length → ∀ i, d < i → i < d + 1 + k → ∃ q, rowE_ m' i = lessL q (rowE_ m i) (rowE_ m d)
  | 0, m', rest, h, hk, i, h1, h2 => by omega
  | k + 1, m', rest, h, hk, i, h1, h2 => by
    obtain ⟨m1, r1, r, e1, e2, e3, e4⟩ := downO_step h
    obtain ⟨l1, l2, l3⟩ := downO_keep e1 (by omega)
    simp only [Prod.mk.injEq] at e4
    obtain ⟨rfl, -⟩ := e4
    rw [rowE_set (by omega)]
    by_cases he : i = d + 1 + k
    · rw [if_pos he, lessO_some e3, l2 d (.inl (Nat.le_refl _)), l2 (d + 1 + k) (.inr (Nat.le_refl _)), he]; exact ⟨_, rfl⟩
    · rw [if_neg he]; exact down_rel e1 (by omega) i h1 (by omega)
theorem up_rel {c d : Nat} {m : List (List Int)} : ∀ {k m'}, upO c d m k = some m' → k ≤ d → d < m.length → ∀ i, i < k → ∃ q, rowE_ m' i = lessL q (rowE_ m i) (rowE_ m d)
  | 0, m', h, hk, hd, i, h1 => by omega
  | k + 1, m', h, hk, hd, i, h1 => by
    obtain ⟨m1, r, e1, e2, e3, rfl⟩ := upO_step h
    obtain ⟨l1, l2, l3⟩ := upO_keep e1 (by omega) hd
    rw [rowE_set (by omega)]
    by_cases he : i = k
    · rw [if_pos he, lessO_some e3, l2 d (by omega), l2 k (Nat.le_refl _), he]; exact ⟨_, rfl⟩
    · rw [if_neg he]; exact up_rel e1 (by omega) hd i (by omega)
theorem down_sp {n c d k : Nat} {m m' : List (List Int)} {rest : Bool} (h : downO c d m k = some (m', rest)) (hk : d + 1 + k ≤ m.length) : SpEq n (RowsFrom d m) (RowsFrom d m') := by
  obtain ⟨l1, l2, l3⟩ := downO_keep h hk
  have hd : rowE_ m' d = rowE_ m d := l2 d (.inl (Nat.le_refl _))
  constructor
  · rintro r ⟨i, h1, h2, rfl⟩
    by_cases he : d < i ∧ i < d + 1 + k
    · obtain ⟨q, hq⟩ := down_rel h hk i he.1 he.2
      rw [← lessL_back q (rowE_ m i) (rowE_ m d), ← hq, ← hd]
      exact .less _ (.mem (rowsFrom_mem h1 (by omega))) (.mem (rowsFrom_mem (Nat.le_refl _) (by omega)))
    · rw [← l2 i (by omega)]; exact .mem (rowsFrom_mem h1 (by omega))
  · rintro r ⟨i, h1, h2, rfl⟩
    by_cases he : d < i ∧ i < d + 1 + k
    · obtain ⟨q, hq⟩ := down_rel h hk i he.1 he.2
      rw [hq]
      exact .less _ (.mem (rowsFrom_mem h1 (by omega))) (.mem (rowsFrom_mem (Nat.le_refl _) (by omega)))
    · rw [l2 i (by omega)]; exact .mem (rowsFrom_mem h1 (by omega))

/-- What a column keeps. -/
structure SwK (n d : Nat) (m m' : List (List Int)) : Prop where
  len : m'.length = m.length
  wid : Wid n m'
  sp : SpEq n (RowsFrom d m) (RowsFrom d m')
  ahead : ∀ i, i < d → ∃ q, rowE_ m' i = lessL q (rowE_ m i) (rowE_ m' d)

theorem sweep_rel {n c d : Nat} : ∀ {F : Nat} {m m' : List (List Int)} {b : Bool}, sweepO n c d F m = some (m', b) → d < m.length → Wid n m → SwK n d m m'
  | 0, m, m', b, h, hd, hw => by cases h
  | f + 1, m, m', b, h, hd, hw => by
    rw [sweepO] at h
    by_cases hok : okM n m = true
    · rw [if_pos hok] at h
      cases ha : bestO c d m (m.length - d) with
      | none =>
        rw [ha] at h
        simp only [Option.some.injEq, Prod.mk.injEq] at h
        obtain ⟨rfl, -⟩ := h
        exact ⟨rfl, hw, SpEq.refl _ _, fun i _ => ⟨0, (lessL_zero _ _).symm⟩⟩
      | some a =>
        rw [ha] at h
        simp only at h
        obtain ⟨b1, b2, b3, b4⟩ := best_some ha
        have hal : a < m.length := by omega
        have hsl := swapL_len m d a
        have hws : Wid n (swapL m d a) := by
          intro i hi
          rw [rowE_swap hd hal]
          split
          · exact hw d hd
          · split
            · exact hw a hal
            · exact hw i (by omega)
        cases hdn : downO c d (swapL m d a) (m.length - (d + 1)) with
        | none => rw [hdn] at h; cases h
        | some y =>
          obtain ⟨m2, rest⟩ := y
          rw [hdn] at h
          obtain ⟨l1, l2, l3⟩ := downO_keep hdn (by omega)
          have hw2 : Wid n m2 := fun i hi => by rw [l3 i]; exact hws i (by omega)
          have hsp : SpEq n (RowsFrom d m) (RowsFrom d m2) := (swap_sp hd hal b1).trans (down_sp hdn (by omega))
          have hah : ∀ i, i < d → rowE_ m2 i = rowE_ m i := fun i hi => by
            rw [l2 i (.inl (by omega)), rowE_swap hd hal, if_neg (by omega), if_neg (by omega)]
          cases rest with
          | true =>
            simp only at h
            have s := sweep_rel h (by omega) hw2
            refine ⟨by rw [s.len, l1, hsl], s.wid, hsp.trans s.sp, fun i hi => ?_⟩
            obtain ⟨q, hq⟩ := s.ahead i hi
            rw [hah i hi] at hq; exact ⟨q, hq⟩
          | false =>
            simp only at h
            by_cases hok2 : okM n m2 = true
            · rw [if_pos hok2] at h
              obtain ⟨m3, hm3⟩ : ∃ m3, m3 = (if getE m2 d c < 0 then m2.set d ((rowE_ m2 d).map (- ·)) else m2) := ⟨_, rfl⟩
              rw [← hm3] at h
              have hd2 : d < m2.length := by omega
              have l3' : m3.length = m2.length := by rw [hm3]; split <;> simp
              have r3 : ∀ i, i ≠ d → rowE_ m3 i = rowE_ m2 i := by
                intro i hi
                rw [hm3]; split
                · rw [rowE_set hd2, if_neg hi]
                · rfl
              have d3 : rowE_ m3 d = rowE_ m2 d ∨ rowE_ m3 d = (rowE_ m2 d).map (- ·) := by
                rw [hm3]; split
                · rw [rowE_set hd2, if_pos rfl]; exact .inr rfl
                · exact .inl rfl
              have hnn : ∀ r : List Int, (r.map (- ·)).map (- ·) = r := fun r => by
                rw [List.map_map]
                have : ((fun x : Int => -x) ∘ fun x : Int => -x) = id := by funext x; simp
                rw [this, List.map_id]
              have sp3 : SpEq n (RowsFrom d m2) (RowsFrom d m3) := by
                constructor
                · rintro r ⟨i, h1, h2, rfl⟩
                  by_cases he : i = d
                  · rw [he]
                    rcases d3 with e | e
                    · rw [← e]; exact .mem (rowsFrom_mem (Nat.le_refl _) (by omega))
                    · rw [← hnn (rowE_ m2 d), ← e]
                      refine (Sp.mem (rowsFrom_mem (Nat.le_refl _) (by omega))).neg ?_
                      rw [e, List.length_map]; exact hw2 d hd2
                  · rw [← r3 i he]; exact .mem (rowsFrom_mem h1 (by omega))
                · rintro r ⟨i, h1, h2, rfl⟩
                  by_cases he : i = d
                  · rw [he]
                    rcases d3 with e | e
                    · rw [e]; exact .mem (rowsFrom_mem (Nat.le_refl _) hd2)
                    · rw [e]; exact (Sp.mem (rowsFrom_mem (Nat.le_refl _) hd2)).neg (hw2 d hd2)
                  · rw [r3 i he]; exact .mem (rowsFrom_mem h1 (by omega))
              have hw3 : Wid n m3 := by
                intro i hi
                by_cases he : i = d
                · rw [he]; rcases d3 with e | e
                  · rw [e]; exact hw2 d hd2
                  · rw [e, List.length_map]; exact hw2 d hd2
                · rw [r3 i he]; exact hw2 i (by omega)
              cases hu : upO c d m3 d with
              | none => rw [hu] at h; cases h
              | some m4 =>
                rw [hu] at h
                simp only [Option.some.injEq, Prod.mk.injEq] at h
                obtain ⟨rfl, -⟩ := h
                obtain ⟨u1, u2, u3⟩ := upO_keep hu (Nat.le_refl _) (by omega)
                refine ⟨by omega, fun i hi => by rw [u3 i]; exact hw3 i (by omega), (hsp.trans sp3).trans ?_, fun i hi => ?_⟩
                · constructor
                  · rintro r ⟨i, h1, h2, rfl⟩
                    rw [← u2 i h1]; exact .mem (rowsFrom_mem h1 (by omega))
                  · rintro r ⟨i, h1, h2, rfl⟩
                    rw [u2 i h1]; exact .mem (rowsFrom_mem h1 (by omega))
                · obtain ⟨q, hq⟩ := up_rel hu (Nat.le_refl _) (by omega) i hi
                  refine ⟨q, ?_⟩
                  rw [hq, u2 d (Nat.le_refl _), r3 i (by omega), hah i hi]
            · rw [if_neg hok2] at h; cases h
    · rw [if_neg hok] at h; cases h
end Go.Proofs.YtjihfabhgcfjnaaGreatDoor
