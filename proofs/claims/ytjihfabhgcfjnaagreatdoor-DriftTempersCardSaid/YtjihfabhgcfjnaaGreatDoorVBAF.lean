/- Merged: LimPlain, PlanPlain. -/
import Derived.Test.YtjihfabhgcfjnaaGreatDoorUAK
import Derived.Test.YtjihfabhgcfjnaaGreatDoorVBAD
/- Plain facts on the walk of DriftLimits: it goes on by the same interval at each step. -/
namespace Go.Proofs.YtjihfabhgcfjnaaGreatDoor
set_option linter.unusedVariables false
set_option linter.unusedSimpArgs false
open Go.RowKit

theorem rows_any {n : Nat} : ∀ {l : List (List Int)}, (∀ x ∈ l, x.length = n) → rowsE n l = if l.any (fun x => x.any farB) then 4 else 0
  | [], _ => rfl
  | x :: l, h => by
    rw [rowsE, if_pos (h x (by simp)), rows_any (fun y hy => h y (by simp [hy]))]
    by_cases hx : x.any farB = true
    · simp [hx]
    · simp [hx]

end Go.Proofs.YtjihfabhgcfjnaaGreatDoor
/- Plain facts: a walk of few small chords passes Check; its roots, drift and strains are in range. -/
namespace Go.Proofs.YtjihfabhgcfjnaaGreatDoor
set_option linter.unusedVariables false
set_option linter.unusedSimpArgs false
open Go.RowKit

/-- A walk of at most 50 chords of at most three notes of three small exponents. -/
structure FewWk (k : Wk) : Prop where
  primes : k.primes = [2, 3, 5]
  chords : ∀ c ∈ k.chords, okChord c
  some : 1 ≤ k.chords.length
  few : k.chords.length ≤ 50
  len : k.links.length + 1 = k.chords.length
  links : okLinks k.chords k.links
theorem PlanWk.fewWk {k : Wk} (h : PlanWk k) : FewWk k := ⟨h.primes, h.chords, h.some, by have := h.few; omega, h.len, h.links⟩

theorem primes235 : primesE5 [2, 3, 5] = 0 := by decide

theorem few_rows : ∀ (c : List (List Int)) (b : Int), b ≤ 1000 → (∀ x ∈ c, x.length = 3 ∧ ∀ a ∈ x, -b ≤ a ∧ a ≤ b) → checkAllE [2, 3, 5] c = 0 := by
  intro c b hb h
  rw [checkAllE, if_pos primes235, show ([2, 3, 5] : List Int).length = 3 from rfl, rows_any (fun x hx => (h x hx).1), if_neg]
  intro hx
  obtain ⟨x, hx, hf⟩ := List.any_eq_true.1 hx
  obtain ⟨a, ha, hf⟩ := List.any_eq_true.1 hf
  have := (h x hx).2 a ha
  simp only [farB, Bool.or_eq_true, decide_eq_true_eq] at hf
  omega

theorem few_chords : ∀ (cs : List (List (List Int))), (∀ c ∈ cs, okChord c) → chordsE [2, 3, 5] cs = 0
  | [], _ => rfl
  | c :: cs, h => by
    obtain ⟨h1, h2, h3⟩ := h c (by simp)
    rw [chordsE, if_pos (by unfold countE; rw [if_neg (by omega), if_neg (by omega)]), if_pos (few_rows c 8 (by omega) h3), few_chords cs (fun c hc => h c (by simp [hc]))]

theorem few_links (cs : List (List (List Int))) : ∀ (ls : List (List (Int × Int))) (i : Nat), (∀ (j : Nat) l, ls[j]? = some l → 1 ≤ l.length ∧ l.length ≤ 2 ∧ ∃ c d, cs[i + j]? = some c ∧ cs[i + j + 1]? = some d ∧ ∀ x ∈ l, 0 ≤ x.1 ∧ x.1 < c.length ∧ 0 ≤ x.2 ∧ x.2 < d.length) → linksE cs i ls = 0
  | [], _, _ => rfl
  | l :: ls, i, h => by
    obtain ⟨h1, h2, c, d, h3, h4, h5⟩ := h 0 l rfl
    rw [linksE, if_pos (by unfold countE; rw [if_neg (by omega), if_neg (by omega)]), if_neg, few_links cs ls (i + 1) (fun j l hl => by
      have := h (j + 1) l (by simpa using hl)
      rwa [show i + 1 + j = i + (j + 1) by omega])]
    intro hx
    obtain ⟨x, hx, hf⟩ := List.any_eq_true.1 hx
    simp only [Nat.add_zero] at h3 h4
    have := h5 x hx
    simp only [badLink, List.getD, h3, h4, Option.getD_some, Bool.or_eq_true, decide_eq_true_eq] at hf
    omega

theorem few_walk {k : Wk} (h : FewWk k) : walkE k = 0 := by
  have h1 := h.some; have h2 := h.few; have h3 := h.len
  unfold walkE
  rw [h.primes, if_pos primes235, if_pos (by unfold countE; rw [if_neg (by omega), if_neg (by omega)]), if_pos (few_chords _ h.chords), if_pos (by omega)]
  exact few_links _ _ 0 (fun j l hl => by
    obtain ⟨a, b, c, d, e, f, g⟩ := h.links j l hl
    exact ⟨a, b, c, d, by rw [Nat.zero_add]; exact e, by rw [Nat.zero_add]; exact f, g⟩)

theorem few_lead {k : Wk} (h : FewWk k) (i j : Nat) (l : List (Int × Int)) (hl : k.links[i]? = some l) (hj : j < l.length) : (leadRow k i j).length = 3 ∧ ∀ a ∈ leadRow k i j, -16 ≤ a ∧ a ≤ 16 := by
  obtain ⟨-, -, c, d, hc, hd, hall⟩ := h.links i l hl
  obtain ⟨lk, hlk⟩ : ∃ x, l[j]? = some x := ⟨l[j], List.getElem?_eq_getElem hj⟩
  obtain ⟨hf0, hf1, ht0, ht1⟩ := hall lk (List.mem_of_getElem? hlk)
  obtain ⟨f, t⟩ := lk
  obtain ⟨f, rfl⟩ := Int.eq_ofNat_of_zero_le hf0
  obtain ⟨t, rfl⟩ := Int.eq_ofNat_of_zero_le ht0
  simp only [Int.ofNat_lt] at hf1 ht1
  obtain ⟨x, hx⟩ : ∃ x, c[f]? = some x := ⟨c[f], List.getElem?_eq_getElem hf1⟩
  obtain ⟨y, hy⟩ : ∃ y, d[t]? = some y := ⟨d[t], List.getElem?_eq_getElem ht1⟩
  have htx := (h.chords c (List.mem_of_getElem? hc)).2.2 x (List.mem_of_getElem? hx)
  have hty := (h.chords d (List.mem_of_getElem? hd)).2.2 y (List.mem_of_getElem? hy)
  have e : leadRow k i j = sumRows x y := by
    unfold leadRow
    simp [List.getD, hl, hlk, hc, hd, hx, hy]
  rw [e]
  refine ⟨by simp [sumRows, htx.1, hty.1], fun a ha => ?_⟩
  have := sumRows_bd2 x y 8 8 htx.2 hty.2 a ha
  omega

theorem few_root {k : Wk} (h : FewWk k) : ∀ i, i ≤ k.links.length → (rootAt k i).length = 3 ∧ ∀ a ∈ rootAt k i, -(16 * (i : Int)) ≤ a ∧ a ≤ 16 * (i : Int)
  | 0, _ => by
    refine ⟨by simp [rootAt, h.primes], fun a ha => ?_⟩
    have := (List.mem_replicate.1 ha).2
    omega
  | i + 1, hi => by
    obtain ⟨h1, h2⟩ := few_root h i (by omega)
    obtain ⟨l, hll⟩ : ∃ l, k.links[i]? = some l := ⟨k.links[i]'(by omega), List.getElem?_eq_getElem _⟩
    have hne := (h.links i l hll).1
    obtain ⟨h3, h4⟩ := few_lead h i 0 l hll (by omega)
    refine ⟨by simp [rootAt, accRow, h1, h3], fun a ha => ?_⟩
    obtain ⟨j, hj, rfl⟩ := List.getElem_of_mem ha
    simp only [rootAt, accRow, List.length_zipWith] at hj
    simp only [rootAt, accRow, List.getElem_zipWith, Bool.false_eq_true, if_false]
    have e1 := h2 ((rootAt k i)[j]'(by omega)) (List.getElem_mem _)
    have e2 := h4 ((leadRow k i 0)[j]'(by omega)) (List.getElem_mem _)
    omega

theorem few_rootsE {k : Wk} (h : FewWk k) : rootsE k = 0 := by
  have h1 := h.few; have h2 := h.len
  unfold rootsE
  rw [if_pos (few_walk h), h.primes]
  refine few_rows _ 800 (by omega) fun x hx => ?_
  obtain ⟨i, hi, rfl⟩ := List.mem_map.1 hx
  have hi := List.mem_range.1 hi
  obtain ⟨h3, h4⟩ := few_root h i (by omega)
  exact ⟨h3, fun a ha => by have := h4 a ha; omega⟩

theorem few_str : ∀ (l : List (Nat × Nat × List Int)), (∀ x ∈ l, x.2.2.length = 3 ∧ ∀ a ∈ x.2.2, -32 ≤ a ∧ a ≤ 32) → strE [2, 3, 5] l = 0
  | [], _ => rfl
  | x :: l, h => by
    rw [strE, if_pos (few_rows _ 32 (by omega) (fun y hy => by rw [List.mem_singleton.1 hy]; exact h x (by simp))), few_str l (fun y hy => h y (by simp [hy]))]

theorem few_strainsE {k : Wk} (h : FewWk k) : strainsE k = 0 := by
  unfold strainsE
  rw [if_pos (few_walk h), h.primes]
  refine few_str _ fun x hx => ?_
  obtain ⟨i, hi, hx⟩ := List.mem_flatMap.1 hx
  have hi := List.mem_range.1 hi
  obtain ⟨l, hll⟩ : ∃ l, k.links[i]? = some l := ⟨k.links[i]'(by omega), List.getElem?_eq_getElem _⟩
  obtain ⟨j, hj, hx⟩ := List.mem_filterMap.1 hx
  have hj := List.mem_range.1 hj
  have e : k.links.getD i [] = l := by simp [List.getD, hll]
  rw [e] at hj
  split at hx
  · simp only [Option.some.injEq] at hx
    subst hx
    obtain ⟨h1, h2⟩ := few_lead h i j l hll hj
    obtain ⟨h3, h4⟩ := few_lead h i 0 l hll (by omega)
    refine ⟨by simp [strainAt, sumRows, h1, h3], fun a ha => ?_⟩
    have := sumRows_bd2 _ _ 16 16 h2 h4 a ha
    omega
  · simp at hx
end Go.Proofs.YtjihfabhgcfjnaaGreatDoor
