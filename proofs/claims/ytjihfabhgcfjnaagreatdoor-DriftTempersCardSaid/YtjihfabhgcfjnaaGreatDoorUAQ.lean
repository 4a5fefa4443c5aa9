/- Merged: GrowF, GrowG, RowA1. -/
import Derived.Test.YtjihfabhgcfjnaaGreatDoorUAP
import Derived.Test.YtjihfabhgcfjnaaGreatDoorUAI
/- The Hermite form is there for every matrix of few rows, is one, and generates the same. No program is named here. -/
namespace Go.Proofs.YtjihfabhgcfjnaaGreatDoor
set_option linter.unusedVariables false
set_option linter.unusedSimpArgs false
open Go.RowKit

/-- The first d rows are in Hermite form, with their pivots ahead of column c, and the rows behind them are 0 there. -/
structure HP (m : List (List Int)) (d c : Nat) (ps : Nat → Nat) : Prop where
  lt : ∀ i, i < d → ps i < c
  mono : ∀ i j, i < j → j < d → ps i < ps j
  zero : ∀ i, i < d → ∀ c', c' < ps i → getE m i c' = 0
  pos : ∀ i, i < d → 0 < getE m i (ps i)
  red : ∀ i j, i < j → j < d → 0 ≤ getE m i (ps j) ∧ getE m i (ps j) < getE m j (ps j)
  rest : ∀ i, d ≤ i → i < m.length → ∀ c', c' < c → getE m i c' = 0

theorem HP.step {n c d C U : Nat} {m m' : List (List Int)} {ps : Nat → Nat} (h : HP m d c ps) (hd : d < m.length) (hw : Wid n m) (s : SwR n d c C U m m') (k : SwK n d m m') : HP m' (d + 1) (c + 1) (fun i => if i < d then ps i else c) := by
  have hz : ∀ i, d ≤ i → i < m'.length → ∀ c', c' < c → getE m' i c' = 0 := by
    intro i h1 h2 c' hc
    have hi : Sp n (RowsFrom d m) (rowE_ m' i) := k.sp.2 _ (rowsFrom_mem h1 h2)
    exact hi.zeroCol (rowsFrom_len hw) (by rintro r ⟨j, j1, j2, rfl⟩; exact h.rest j j1 j2 c' hc)
  have hkeep : ∀ i, i < d → ∀ c', c' < c → getE m' i c' = getE m i c' := by
    intro i hi c' hc
    obtain ⟨q, hq⟩ := k.ahead i hi
    have h0 := hz d (Nat.le_refl _) (by rw [s.len]; exact hd) c' hc
    show (rowE_ m' i).getD c' 0 = _
    rw [hq, lessL_getD q (by rw [s.wid d (by rw [s.len]; exact hd), hw i (by omega)])]
    have h1 : (rowE_ m' d).getD c' 0 = 0 := h0
    rw [h1]; simp; rfl
  refine ⟨fun i hi => ?_, fun i j hij hj => ?_, fun i hi c' hc => ?_, fun i hi => ?_, fun i j hij hj => ?_, fun i h1 h2 c' hc => ?_⟩
  · split
    · rename_i hd'; have := h.lt i hd'; omega
    · omega
  · rw [if_pos (show i < d by omega)]
    split
    · rename_i hd'; exact h.mono i j hij hd'
    · exact h.lt i (by omega)
  · split at hc
    · rename_i hd'
      rw [hkeep i hd' c' (by have := h.lt i hd'; omega)]; exact h.zero i hd' c' hc
    · obtain rfl : i = d := by omega
      exact hz i (Nat.le_refl _) (by rw [s.len]; exact hd) c' hc
  · split
    · rename_i hd'
      rw [hkeep i hd' _ (h.lt i hd')]; exact h.pos i hd'
    · obtain rfl : i = d := by omega
      exact s.pos
  · split
    · rename_i hd'
      rw [hkeep i (by omega) _ (h.lt j hd'), hkeep j hd' _ (h.lt j hd')]
      exact h.red i j hij hd'
    · obtain rfl : j = d := by omega
      exact s.red i hij
  · by_cases hcc : c' = c
    · rw [hcc]; exact s.zero i (by omega) (by rw [← s.len]; exact h2)
    · exact hz i (by omega) h2 c' (by omega)

theorem sp_all {n d : Nat} {m m' : List (List Int)} (k : SwK n d m m') (hd : d < m.length) : SpEq n (RowsFrom 0 m) (RowsFrom 0 m') := by
  have hdm : ∀ {x : List (List Int)} {r}, RowsFrom d x r → RowsFrom 0 x r := fun ⟨i, h1, h2, h3⟩ => ⟨i, by omega, h2, h3⟩
  constructor
  · rintro r ⟨i, -, h2, rfl⟩
    by_cases hi : i < d
    · obtain ⟨q, hq⟩ := k.ahead i hi
      rw [← lessL_back q (rowE_ m i) (rowE_ m' d), ← hq]
      exact .less _ (.mem (rowsFrom_mem (by omega) (by rw [k.len]; exact h2))) (.mem (rowsFrom_mem (by omega) (by rw [k.len]; exact hd)))
    · exact (k.sp.1 _ (rowsFrom_mem (by omega) h2)).mono fun r hr => .mem (hdm hr)
  · rintro r ⟨i, -, h2, rfl⟩
    by_cases hi : i < d
    · obtain ⟨q, hq⟩ := k.ahead i hi
      rw [hq]
      refine .less _ (.mem (rowsFrom_mem (by omega) (by omega))) ?_
      exact (k.sp.2 _ (rowsFrom_mem (Nat.le_refl _) (by rw [k.len]; exact hd))).mono fun r hr => .mem (hdm hr)
    · exact (k.sp.2 _ (rowsFrom_mem (by omega) h2)).mono fun r hr => .mem (hdm hr)

theorem cols_all {n K F : Nat} (hK : K ≤ 400000000) :
    ∀ (k c d r b u : Nat) (m : List (List Int)) (ps : Nat → Nat), d ≤ m.length → Wid n m → Low d (10 ^ b) m → Upp d (10 ^ u) m → HP m d c ps → (m.length - d ≤ r ∨ k ≤ r) → (gN r b u).1 + 1 ≤ K → (gN r b u).2 + 1 ≤ K → 10 ^ (gN r b u).1 < F →
      ∃ m' d' ps', colsO n F k c d m = some (m', d') ∧ m'.length = m.length ∧ d' ≤ m'.length ∧ Wid n m' ∧ Upp d' (10 ^ (gN r b u).2) m' ∧ HP m' d' (c + k) ps' ∧ SpEq n (RowsFrom 0 m) (RowsFrom 0 m')
  | 0, c, d, r, b, u, m, ps, hd, hw, hl, hu, hp, hr, h1, h2, hF => ⟨m, d, ps, rfl, rfl, hd, hw, fun i a1 a2 => (hu i a1 a2).mono (pow_mono (gN_le r b u).2), hp, SpEq.refl _ _⟩
  | k + 1, c, d, r, b, u, m, ps, hd, hw, hl, hu, hp, hr, h1, h2, hF => by
    have hg := gN_le r b u
    by_cases hlt : d < m.length
    · obtain ⟨r, rfl⟩ : ∃ r', r = r' + 1 := ⟨r - 1, by omega⟩
      have hg1 := gN_le r (4 * b + 1) (u + 4 * b + 2)
      have e1 : gN (r + 1) b u = gN r (4 * b + 1) (u + 4 * b + 2) := rfl
      rw [e1] at hg h1 h2 hF
      have p4 := pow_pos10 (4 * b)
      have pb := pow_pos10 b
      have pu := pow_pos10 u
      have hY : 2 * (3 * (10 ^ b * 10 ^ b * (10 ^ b * 10 ^ b))) + 2 < 10 ^ K := by
        rw [pow4]
        have e2 := pow_one_up (4 * b)
        have e3 : 10 ^ (4 * b + 1) ≤ 10 ^ K := pow_mono (by omega)
        omega
      have hBK : 10 ^ b + 2 < 10 ^ K := by
        have e2 := pow_one_up b
        have e3 : 10 ^ (b + 1) ≤ 10 ^ K := pow_mono (by omega)
        omega
      have hUK : 10 ^ u + 2 < 10 ^ K := by
        have e2 := pow_one_up u
        have e3 : 10 ^ (u + 1) ≤ 10 ^ K := pow_mono (by omega)
        omega
      have hFb : 10 ^ b < F := Nat.lt_of_le_of_lt (pow_mono hg.1) hF
      have hC : 2 * (3 * (10 ^ b * 10 ^ b * (10 ^ b * 10 ^ b))) ≤ 10 ^ (4 * b + 1) := by
        rw [pow4, pow_one_up]; omega
      have hC2 : 10 ^ (4 * b + 1) ≤ 10 ^ (u + 4 * b + 2) := pow_mono (by omega)
      have hU2 : 10 ^ u + (10 ^ u + 1) * (2 * (3 * (10 ^ b * 10 ^ b * (10 ^ b * 10 ^ b)))) ≤ 10 ^ (u + 4 * b + 2) := by
        rw [pow4]
        have e2 : 10 ^ (u + 4 * b + 2) = 100 * (10 ^ u * 10 ^ (4 * b)) := by rw [Nat.pow_succ, Nat.pow_succ, Nat.pow_add]; omega
        have e3 : 10 ^ u ≤ 10 ^ u * 10 ^ (4 * b) := Nat.le_mul_of_pos_right _ (by omega)
        have e4 : 10 ^ (4 * b) ≤ 10 ^ u * 10 ^ (4 * b) := Nat.le_mul_of_pos_left _ (by omega)
        have e5 : (10 ^ u + 1) * (2 * (3 * 10 ^ (4 * b))) = 6 * (10 ^ u * 10 ^ (4 * b)) + 6 * 10 ^ (4 * b) := by
          rw [Nat.add_mul, Nat.one_mul, Nat.mul_left_comm, Nat.mul_left_comm _ 3]; omega
        rw [e2, e5]; omega
      rcases sweep_ok (n := n) (c := c) (F := F) hK (by omega) hY hBK hUK hFb hlt hw hl hu with ⟨hs, hz⟩ | ⟨m', hs, s⟩
      · have hr' : m.length - d ≤ r + 1 ∨ k ≤ r + 1 := by omega
        have hp' : HP m d (c + 1) ps := ⟨fun i hi => by have := hp.lt i hi; omega, hp.mono, hp.zero, hp.pos, hp.red, fun i a1 a2 c' hc => by
          by_cases hcc : c' = c
          · rw [hcc]; exact hz i a1 a2
          · exact hp.rest i a1 a2 c' (by omega)⟩
        obtain ⟨m', d', ps', q1, q2, q3, q4, q5, q6, q7⟩ := cols_all hK k (c + 1) d (r + 1) b u m ps hd hw hl hu hp' hr' (by rw [e1]; exact h1) (by rw [e1]; exact h2) (by rw [e1]; exact hF)
        refine ⟨m', d', ps', ?_, q2, q3, q4, q5, by rw [Nat.add_right_comm] at q6; exact q6, q7⟩
        rw [colsO, if_pos hlt, hs]; exact q1
      · have hk := sweep_rel hs hlt hw
        have hlow : Low (d + 1) (10 ^ (4 * b + 1)) m' := fun i a1 a2 => (s.low i (by omega) a2).mono hC
        have hupp : Upp (d + 1) (10 ^ (u + 4 * b + 2)) m' := rowLe_split s.low s.upp (Nat.le_trans hC hC2) hU2 (d + 1)
        have hr' : m'.length - (d + 1) ≤ r ∨ k ≤ r := by have := s.len; omega
        obtain ⟨m2, d', ps', q1, q2, q3, q4, q5, q6, q7⟩ := cols_all hK k (c + 1) (d + 1) r (4 * b + 1) (u + 4 * b + 2) m' _ (by rw [s.len]; omega) s.wid hlow hupp (hp.step hlt hw s hk) hr' h1 h2 hF
        refine ⟨m2, d', ps', ?_, q2.trans s.len, q3, q4, q5, by rw [Nat.add_right_comm] at q6; exact q6, (sp_all hk hlt).trans q7⟩
        rw [colsO, if_pos hlt, hs]; exact q1
    · refine ⟨m, d, ps, ?_, rfl, hd, hw, fun i a1 a2 => (hu i a1 a2).mono (pow_mono hg.2), ⟨fun i hi => by have := hp.lt i hi; omega, hp.mono, hp.zero, hp.pos, hp.red, fun i a1 a2 => by omega⟩, SpEq.refl _ _⟩
      rw [colsO, if_neg hlt]

/-- Rows in Hermite form. -/
def HForm (n : Nat) (R : List (List Int)) (ps : Nat → Nat) : Prop := Wid n R ∧ HP R R.length n ps
theorem rowE_take {m : List (List Int)} {d i : Nat} (h : i < d) : rowE_ (m.take d) i = rowE_ m i := by
  unfold rowE_; rw [List.getD_eq_getElem?_getD, List.getD_eq_getElem?_getD, List.getElem?_take, if_pos h]
theorem getE_take {m : List (List Int)} {d i c : Nat} (h : i < d) : getE (m.take d) i c = getE m i c := by unfold getE; rw [rowE_take h]
/-- A row of zeros. -/
theorem row_zero {n : Nat} {r : List Int} (hl : r.length = n) (hz : ∀ c, c < n → r.getD c 0 = 0) : r = List.replicate n 0 := by
  apply List.ext_getElem (by simpa using hl)
  intro i h1 h2
  have := hz i (by omega)
  rw [List.getD_eq_getElem?_getD, List.getElem?_eq_getElem h1] at this
  simpa using this

/-- The Hermite form of a matrix whose rows (or columns) are few: there is a fuel for it; it is in Hermite form, and generates the same. -/
theorem form_all (n r b : Nat) (m : List (List Int)) (hw : ∀ x ∈ m, x.length = n) (hb : ∀ x ∈ m, RowLe (10 ^ b) x) (hr : m.length ≤ r ∨ n ≤ r) (h1 : (gN r b 0).1 + 1 ≤ 400000000) (h2 : (gN r b 0).2 + 1 ≤ 400000000) :
    ∃ F R ps, formO n F n m = some R ∧ R.length ≤ m.length ∧ HForm n R ps ∧ (∀ x ∈ R, RowLe (10 ^ (gN r b 0).2) x) ∧ SpEq n (RowsFrom 0 m) (RowsFrom 0 R) := by
  have hmem : ∀ (m' : List (List Int)) i, i < m'.length → rowE_ m' i ∈ m' := fun m' i hi => List.mem_of_getElem? (rowE_get hi)
  have hwm : Wid n m := fun i hi => hw _ (hmem m i hi)
  obtain ⟨m', d', ps, q1, q2, q3, q4, q5, q6, q7⟩ := cols_all (n := n) (F := 10 ^ (gN r b 0).1 + 1) (Nat.le_refl 400000000) n 0 0 r b 0 m (fun _ => 0) (by omega) hwm (fun i _ hi => hb _ (hmem m i hi)) (fun i hi _ => by omega)
    ⟨fun i hi => by omega, fun i j _ hj => by omega, fun i hi => by omega, fun i hi => by omega, fun i j _ hj => by omega, fun i _ _ c' hc => by omega⟩ (by omega) h1 h2 (Nat.lt_succ_self _)
  rw [Nat.zero_add] at q6
  have hlen : (m'.take d').length = d' := by rw [List.length_take]; omega
  have hW : Wid n (m'.take d') := fun i hi => by rw [hlen] at hi; rw [rowE_take hi]; exact q4 i (by omega)
  refine ⟨10 ^ (gN r b 0).1 + 1, m'.take d', ps, by unfold formO; rw [q1], by rw [hlen, ← q2]; exact q3, ⟨hW, ?_⟩, fun x hx => ?_, q7.trans ?_⟩
  · rw [hlen]
    exact ⟨q6.lt, q6.mono, fun i hi c' hc => by rw [getE_take hi]; exact q6.zero i hi c' hc, fun i hi => by rw [getE_take hi]; exact q6.pos i hi, fun i j hij hj => by
      rw [getE_take (show i < d' by omega), getE_take hj]; exact q6.red i j hij hj, fun i a1 a2 => by rw [hlen] at a2; omega⟩
  · obtain ⟨i, hi⟩ := List.getElem?_of_mem hx
    have hil := (List.getElem?_eq_some_iff.1 hi).1
    rw [hlen] at hil
    rw [← rowE_of hi, rowE_take hil]; exact q5 i hil (by omega)
  · constructor
    · rintro x ⟨i, -, h2, rfl⟩
      by_cases hi : i < d'
      · rw [← rowE_take (m := m') hi]; exact .mem (rowsFrom_mem (by omega) (by omega))
      · rw [row_zero (q4 i h2) (fun c hc => q6.rest i (by omega) h2 c hc)]; exact .zero
    · rintro x ⟨i, -, h2, rfl⟩
      rw [hlen] at h2
      rw [rowE_take h2]; exact .mem (rowsFrom_mem (by omega) (by omega))
end Go.Proofs.YtjihfabhgcfjnaaGreatDoor
/- The Hermite form of a lattice is one alone. No program is named here. -/
namespace Go.Proofs.YtjihfabhgcfjnaaGreatDoor
set_option linter.unusedVariables false
set_option linter.unusedSimpArgs false
open Go.RowKit

theorem lessL_self : ∀ (r : List Int), lessL 1 r r = List.replicate r.length 0
  | [] => rfl
  | a :: r => by
    have e : lessL 1 (a :: r) (a :: r) = (a - 1 * a) :: lessL 1 r r := rfl
    rw [e, lessL_self r, List.length_cons, List.replicate_succ]
    congr 1; omega
theorem lessL_swap (k t u : Int) : ∀ (r s x : List Int), r.length = x.length → s.length = x.length → lessL (t - k * u) (lessL k r s) x = lessL k (lessL t r x) (lessL u s x)
  | [], [], [], _, _ => rfl
  | [], _ :: _, [], _, h2 => by simp at h2
  | _ :: _, _, [], h1, _ => by simp at h1
  | [], _, _ :: _, h1, _ => by simp at h1
  | _ :: _, [], _ :: _, _, h2 => by simp at h2
  | a :: r, b :: s, c :: x, h1, h2 => by
    have e : lessL (t - k * u) (lessL k (a :: r) (b :: s)) (c :: x) = (a - k * b - (t - k * u) * c) :: lessL (t - k * u) (lessL k r s) x := rfl
    have e2 : lessL k (lessL t (a :: r) (c :: x)) (lessL u (b :: s) (c :: x)) = (a - t * c - k * (b - u * c)) :: lessL k (lessL t r x) (lessL u s x) := rfl
    rw [e, e2, lessL_swap k t u r s x (by simpa using h1) (by simpa using h2), Int.sub_mul, Int.mul_sub, Int.mul_assoc]
    congr 1; omega
/-- The first row is taken away. -/
theorem Sp.peel {n d : Nat} {R : List (List Int)} (hW : Wid n R) (hd : d < R.length) {v : List Int} (h : Sp n (RowsFrom d R) v) : ∃ t, Sp n (RowsFrom (d + 1) R) (lessL t v (rowE_ R d)) := by
  induction h with
  | zero => exact ⟨0, by rw [lessL_zero]; exact .zero⟩
  | mem h =>
    obtain ⟨i, h1, h2, rfl⟩ := h
    by_cases hi : i = d
    · exact ⟨1, by rw [hi, lessL_self, hW d hd]; exact .zero⟩
    · exact ⟨0, by rw [lessL_zero]; exact .mem (rowsFrom_mem (by omega) h2)⟩
  | less k h h' ih ih' =>
    obtain ⟨t, ht⟩ := ih
    obtain ⟨u, hu⟩ := ih'
    refine ⟨t - k * u, ?_⟩
    rw [lessL_swap k t u _ _ _ (by rw [h.len (rowsFrom_len hW), hW d hd]) (by rw [h'.len (rowsFrom_len hW), hW d hd])]
    exact .less k ht hu
/-- The elements of a row of the lattice at the first pivot are multiples of it. -/
theorem Sp.first {n d : Nat} {R : List (List Int)} {ps : Nat → Nat} (hR : HForm n R ps) (hd : d < R.length) {v : List Int} (h : Sp n (RowsFrom d R) v) : ∃ t, v.getD (ps d) 0 = t * getE R d (ps d) ∧ Sp n (RowsFrom (d + 1) R) (lessL t v (rowE_ R d)) := by
  obtain ⟨t, ht⟩ := h.peel hR.1 hd
  refine ⟨t, ?_, ht⟩
  have h0 : (lessL t v (rowE_ R d)).getD (ps d) 0 = 0 := ht.zeroCol (rowsFrom_len hR.1) (by
    rintro r ⟨i, h1, h2, rfl⟩
    exact hR.2.zero i h2 (ps d) (hR.2.mono d i (by omega) h2))
  rw [lessL_getD t (by rw [h.len (rowsFrom_len hR.1), hR.1 d hd])] at h0
  unfold getE
  omega
theorem Sp.none {n d : Nat} {R : List (List Int)} (hW : Wid n R) (hd : R.length ≤ d) {v : List Int} (h : Sp n (RowsFrom d R) v) : v = List.replicate n 0 :=
  row_zero (h.len (rowsFrom_len hW)) fun c _ => h.zeroCol (rowsFrom_len hW) (by rintro r ⟨i, h1, h2, rfl⟩; omega)
theorem small_mul {t p : Int} (hp : 0 < p) (h1 : -p < t * p) (h2 : t * p < p) : t = 0 := by
  rcases Int.lt_trichotomy t 0 with h | h | h
  · have : t * p ≤ (-1) * p := Int.mul_le_mul_of_nonneg_right (by omega) (by omega)
    omega
  · exact h
  · have : 1 * p ≤ t * p := Int.mul_le_mul_of_nonneg_right (by omega) (by omega)
    omega
/-- A row of the lattice that is small at all pivots is 0. -/
theorem Sp.small {n : Nat} {R : List (List Int)} {ps : Nat → Nat} (hR : HForm n R ps) {v : List Int} : ∀ (k d : Nat), R.length - d = k → Sp n (RowsFrom d R) v → (∀ i, d ≤ i → i < R.length → -getE R i (ps i) < v.getD (ps i) 0 ∧ v.getD (ps i) 0 < getE R i (ps i)) → v = List.replicate n 0
  | 0, d, hk, h, hs => h.none hR.1 (by omega)
  | k + 1, d, hk, h, hs => by
    obtain ⟨t, e, ht⟩ := h.first hR (by omega)
    have hsd := hs d (Nat.le_refl _) (by omega)
    rw [e] at hsd
    have h0 : t = 0 := small_mul (hR.2.pos d (by omega)) hsd.1 hsd.2
    rw [h0, lessL_zero] at ht
    exact Sp.small hR k (d + 1) (by omega) ht fun i h1 h2 => hs i (by omega) h2
/-- The first element of a row of the lattice that is not 0 stands at a pivot, and is a multiple of it. -/
theorem Sp.lead {n c : Nat} {R : List (List Int)} {ps : Nat → Nat} (hR : HForm n R ps) {v : List Int} (hc : v.getD c 0 ≠ 0) (hz : ∀ c', c' < c → v.getD c' 0 = 0) : ∀ (k d : Nat), R.length - d = k → Sp n (RowsFrom d R) v → ∃ i t, d ≤ i ∧ i < R.length ∧ ps i = c ∧ v.getD c 0 = t * getE R i c
  | 0, d, hk, h => absurd (h.zeroCol (rowsFrom_len hR.1) (by rintro r ⟨i, h1, h2, rfl⟩; omega)) hc
  | k + 1, d, hk, h => by
    obtain ⟨t, e, ht⟩ := h.first hR (by omega)
    rcases Nat.lt_trichotomy (ps d) c with hl | hl | hl
    · rw [hz _ hl] at e
      have hp := hR.2.pos d (by omega)
      have h0 : t = 0 := small_mul hp (by omega) (by omega)
      rw [h0, lessL_zero] at ht
      obtain ⟨i, t', h1, h2, h3⟩ := Sp.lead hR hc hz k (d + 1) (by omega) ht
      exact ⟨i, t', by omega, h2, h3⟩
    · exact ⟨d, t, Nat.le_refl _, by omega, hl, by rw [← hl]; exact e⟩
    · refine absurd (h.zeroCol (rowsFrom_len hR.1) ?_) hc
      rintro r ⟨i, h1, h2, rfl⟩
      refine hR.2.zero i h2 c ?_
      by_cases hi : i = d
      · rw [hi]; exact hl
      · have := hR.2.mono d i (by omega) h2; omega

/-- The pivots of one form are pivots of the other one. -/
theorem hform_piv {n : Nat} {R T : List (List Int)} {ps qs : Nat → Nat} (hR : HForm n R ps) (hT : HForm n T qs) (hs : SpEq n (RowsFrom 0 R) (RowsFrom 0 T)) (j : Nat) (hj : j < T.length) : ∃ i t, i < R.length ∧ ps i = qs j ∧ getE T j (qs j) = t * getE R i (qs j) := by
  have h := hs.2 _ (rowsFrom_mem (Nat.zero_le j) hj)
  have hp := hT.2.pos j hj
  obtain ⟨i, t, -, h2, h3, h4⟩ := Sp.lead (c := qs j) hR (show getE T j (qs j) ≠ 0 by omega) (fun c' hc => hT.2.zero j hj c' hc) _ 0 rfl h
  exact ⟨i, t, h2, h3, h4⟩
theorem SpEq.symm {n : Nat} {S T : List Int → Prop} (h : SpEq n S T) : SpEq n T S := ⟨h.2, h.1⟩
theorem hform_ps {n : Nat} {R T : List (List Int)} {ps qs : Nat → Nat} (hR : HForm n R ps) (hT : HForm n T qs) (hs : SpEq n (RowsFrom 0 R) (RowsFrom 0 T)) : ∀ (k i : Nat), i ≤ k → i < R.length → i < T.length ∧ ps i = qs i := by
  intro k
  induction k with
  | zero =>
    intro i hi hl
    obtain rfl : i = 0 := by omega
    obtain ⟨j, t, h1, h2, -⟩ := hform_piv hT hR hs.symm 0 hl
    obtain ⟨j', t', h1', h2', -⟩ := hform_piv hR hT hs 0 (by omega)
    refine ⟨by omega, ?_⟩
    by_cases hj : j = 0
    · rw [hj] at h2; exact h2.symm
    · have a1 := hT.2.mono 0 j (by omega) h1
      by_cases hj' : j' = 0
      · rw [hj'] at h2'; exact h2'
      · have a2 := hR.2.mono 0 j' (by omega) h1'; omega
  | succ k ih =>
    intro i hi hl
    by_cases hik : i ≤ k
    · exact ih i hik hl
    · obtain ⟨j, t, h1, h2, -⟩ := hform_piv hT hR hs.symm i hl
      have hji : i ≤ j := by
        rcases Nat.lt_or_ge j i with h | h
        · have a1 := ih j (by omega) (by omega)
          have a2 := hR.2.mono j i h hl
          omega
        · exact h
      obtain ⟨j', t', h1', h2', -⟩ := hform_piv hR hT hs i (by omega)
      have hji' : i ≤ j' := by
        rcases Nat.lt_or_ge j' i with h | h
        · have a1 := ih j' (by omega) h1'
          have a2 := hT.2.mono j' i h (by omega)
          omega
        · exact h
      refine ⟨by omega, ?_⟩
      have a1 : qs i ≤ qs j := by
        by_cases he : i = j
        · rw [he]; exact Nat.le_refl _
        · exact Nat.le_of_lt (hT.2.mono i j (by omega) h1)
      have a2 : ps i ≤ ps j' := by
        by_cases he : i = j'
        · rw [he]; exact Nat.le_refl _
        · exact Nat.le_of_lt (hR.2.mono i j' (by omega) h1')
      omega
theorem dvd_pos {a b t u : Int} (ha : 0 < a) (hb : 0 < b) (h : a = t * b) (h' : b = u * a) : a = b := by
  have ht : 1 ≤ t := by
    rcases Int.lt_or_le t 1 with h1 | h1
    · have : t * b ≤ 0 * b := Int.mul_le_mul_of_nonneg_right (by omega) (by omega)
      omega
    · exact h1
  have hu : 1 ≤ u := by
    rcases Int.lt_or_le u 1 with h1 | h1
    · have : u * a ≤ 0 * a := Int.mul_le_mul_of_nonneg_right (by omega) (by omega)
      omega
    · exact h1
  have h1 : 1 * b ≤ t * b := Int.mul_le_mul_of_nonneg_right ht (by omega)
  have h2 : 1 * a ≤ u * a := Int.mul_le_mul_of_nonneg_right hu (by omega)
  omega
theorem lessL_one_zero {r s : List Int} (hl : r.length = s.length) (h : lessL 1 r s = List.replicate r.length 0) : r = s := by
  apply List.ext_getElem hl
  intro i h1 h2
  have e := lessL_getD 1 hl.symm i
  rw [h] at e
  simp only [List.getD_eq_getElem?_getD, List.getElem?_eq_getElem h1, List.getElem?_eq_getElem h2] at e
  rw [List.getElem?_eq_getElem (by simpa using h1)] at e
  simp at e
  omega

/-- Two Hermite forms that generate the same are the same. -/
theorem hform_unique {n : Nat} {R T : List (List Int)} {ps qs : Nat → Nat} (hR : HForm n R ps) (hT : HForm n T qs) (hs : SpEq n (RowsFrom 0 R) (RowsFrom 0 T)) : R = T := by
  have hp := fun i (hi : i < R.length) => hform_ps hR hT hs i i (Nat.le_refl _) hi
  have hq := fun i (hi : i < T.length) => hform_ps hT hR hs.symm i i (Nat.le_refl _) hi
  have hl : R.length = T.length := by
    rcases Nat.lt_trichotomy R.length T.length with h | h | h
    · have := (hq _ h).1; omega
    · exact h
    · have := (hp _ h).1; omega
  -- the pivots
  have hpv : ∀ i, i < R.length → getE R i (ps i) = getE T i (ps i) := by
    intro i hi
    obtain ⟨j, t, h1, h2, h3⟩ := hform_piv hT hR hs.symm i hi
    obtain ⟨j', t', h1', h2', h3'⟩ := hform_piv hR hT hs i (by omega)
    have hji : j = i := by
      rcases Nat.lt_trichotomy j i with h | h | h
      · have := hT.2.mono j i h (by omega); have := (hp i hi).2; omega
      · exact h
      · have := hT.2.mono i j h h1; have := (hp i hi).2; omega
    have hji' : j' = i := by
      rcases Nat.lt_trichotomy j' i with h | h | h
      · have := hR.2.mono j' i h hi; have := (hp i hi).2; omega
      · exact h
      · have := hR.2.mono i j' h h1'; have := (hp i hi).2; omega
    rw [hji] at h3
    rw [hji', ← (hp i hi).2] at h3'
    have hpos := hT.2.pos i (by omega)
    rw [← (hp i hi).2] at hpos
    exact dvd_pos (hR.2.pos i hi) hpos h3 h3'
  apply List.ext_getElem hl
  intro i h1 h2
  have e1 : rowE_ R i = R[i] := rowE_of (List.getElem?_eq_getElem h1)
  have e2 : rowE_ T i = T[i] := rowE_of (List.getElem?_eq_getElem h2)
  rw [← e1, ← e2]
  have hlen : (rowE_ R i).length = (rowE_ T i).length := by rw [hR.1 i h1, hT.1 i h2]
  refine lessL_one_zero hlen ?_
  rw [hR.1 i h1]
  refine Sp.small hR _ 0 rfl (.less 1 (.mem (rowsFrom_mem (Nat.zero_le _) h1)) (hs.2 _ (rowsFrom_mem (Nat.zero_le _) h2))) fun j _ hj => ?_
  rw [lessL_getD 1 hlen.symm]
  show -getE R j (ps j) < getE R i (ps j) - 1 * getE T i (ps j) ∧ getE R i (ps j) - 1 * getE T i (ps j) < getE R j (ps j)
  have hpj := hR.2.pos j hj
  rcases Nat.lt_trichotomy i j with h | h | h
  · have a1 := hR.2.red i j h hj
    have a2 := hT.2.red i j h (by omega)
    rw [← (hp j hj).2, ← hpv j hj] at a2
    omega
  · subst h
    rw [hpv i h1] at hpj ⊢
    omega
  · rw [hR.2.zero i h1 (ps j) (hR.2.mono j i h h1)]
    have hx := hT.2.zero i h2 (qs j) (hT.2.mono j i h h2)
    rw [← (hp j hj).2] at hx
    rw [hx]; omega
end Go.Proofs.YtjihfabhgcfjnaaGreatDoor
/- Contracts of package row: Check, IsZero (those alone: for cuts without the others). -/
namespace Go.Proofs.YtjihfabhgcfjnaaGreatDoor
set_option linter.unusedVariables false
set_option linter.unusedSimpArgs false
open Go.RowKit

def fitB (n : Int) : Bool := decide (-1000000000 ≤ n) && decide (n ≤ 1000000000)
theorem fitB_iff (n : Int) : fitB n = true ↔ -1000000000 ≤ n ∧ n ≤ 1000000000 := by simp [fitB]
theorem fits_any (n : Int) (w : World) : Calls Tryz.prog 155 #[.int .i64 n] w fun e w' => e = .returned (.bool (fitB n)) ∧ w = w' := by
  by_cases h : -1000000000 ≤ n
  · by_cases h2 : n ≤ 1000000000
    · go_enter Tryz.func155, Tryz.ntmps155
      go_wp2
      go_ret
      exact ⟨by simp [fitB, h, h2], rfl⟩
    · go_enter Tryz.func155, Tryz.ntmps155
      go_wp2
      go_ret
      exact ⟨by simp [fitB, h, h2], rfl⟩
  · go_enter Tryz.func155, Tryz.ntmps155
    go_wp2
    go_ret
    exact ⟨by simp [fitB]; omega, rfl⟩
theorem check1_any (n : Int) (w : World) : Calls Tryz.prog 154 #[.int .i64 n] w fun e w' => e = .returned (.bool (!fitB n)) ∧ w = w' := by
  go_enter Tryz.func154, Tryz.ntmps154
  go_wp2_with (go_at_call 155; refine (fits_any _ _).mono ?_; rintro e w' ⟨rfl, rfl⟩)
  go_ret
  exact ⟨rfl, rfl⟩

/-- A row is right. -/
def okRow (r : List Int) : Prop := r.length ≤ 64 ∧ ∀ x ∈ r, -1000000000 ≤ x ∧ x ≤ 1000000000
def rowE (r : List Int) : Int := if 64 < r.length then 4 else if r.any (fun n => !fitB n) then 4 else 0
theorem rowE_zero (r : List Int) : rowE r = 0 ↔ okRow r := by
  unfold rowE okRow
  by_cases h : 64 < r.length
  · simp [h]; omega
  · rw [if_neg h]
    by_cases h2 : r.any (fun n => !fitB n) = true
    · rw [if_pos h2]
      obtain ⟨x, hx, hf⟩ := List.any_eq_true.1 h2
      simp only [Bool.not_eq_true', Bool.eq_false_iff, ne_eq, fitB_iff] at hf
      constructor
      · intro e; simp at e
      · intro ⟨_, h⟩; exact absurd (h x hx) hf
    · rw [if_neg h2]
      simp only [true_iff]
      refine ⟨by omega, fun x hx => ?_⟩
      have := List.any_eq_false.1 (by simpa using h2 : r.any (fun n => !fitB n) = false) x hx
      simpa [fitB_iff] using this
theorem rowE_four (r : List Int) : rowE r = 0 ∨ rowE r = 4 := by
  unfold rowE; split
  · exact .inr rfl
  · split
    · exact .inr rfl
    · exact .inl rfl

theorem rowCheck_any (xs : List Int) (v : Value) (w : World) (h : Ints w v xs) :
    Calls Tryz.prog 116 #[v] w fun e w' => e = .returned (.int .i64 (rowE xs)) ∧ Ext w w' := by
  have HC := Lib.hid (containsRow_any xs v 154 #[] (fun n => !fitB n) w h (enters_of Tryz.func154 (by kernel_rfl) rfl) (fun W x _ _ => (check1_any x W).mono fun _ _ ⟨he, hw⟩ => ⟨he, hw ▸ Ext.refl _⟩))
  obtain ⟨a, c, rfl, -, -, -, -, -⟩ := h.open
  by_cases hl : 64 < xs.length
  · have HQ : Hid (rowE xs = 4) := by unfold Hid rowE; rw [if_pos hl]
    have hl' : (64 : Int) < (xs.length : Int) := by omega
    clear h
    go_enter Tryz.func116, Tryz.ntmps116
    go_wp2_with (go_at_call 62; refine HC.out.mono ?_; rintro e w' ⟨rfl, hE'⟩)
    go_ret
    exact ⟨by rw [HQ.out]; rfl, Ext.refl _⟩
  · have hl' : ¬ (64 : Int) < (xs.length : Int) := by omega
    cases ha : xs.any (fun n => !fitB n) with
    | true =>
      have HQ : Hid (rowE xs = 4) := by unfold Hid rowE; rw [if_neg hl, if_pos ha]
      rw [ha] at HC
      clear h ha
      go_enter Tryz.func116, Tryz.ntmps116
      go_wp2_with (go_at_call 62; refine HC.out.mono ?_; rintro e w' ⟨rfl, hE'⟩)
      go_ret
      exact ⟨by rw [HQ.out]; rfl, by assumption⟩
    | false =>
      have HQ : Hid (rowE xs = 0) := by unfold Hid rowE; rw [if_neg hl, if_neg (by simp [ha])]
      rw [ha] at HC
      clear h ha
      go_enter Tryz.func116, Tryz.ntmps116
      go_wp2_with (go_at_call 62; refine HC.out.mono ?_; rintro e w' ⟨rfl, hE'⟩)
      go_ret
      exact ⟨by rw [HQ.out]; rfl, by assumption⟩

end Go.Proofs.YtjihfabhgcfjnaaGreatDoor
