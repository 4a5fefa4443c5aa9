/- Plain facts on a walk backwards: it is a walk of few chords again; backwards again it is the walk; its drift is the negative. -/
import Derived.Test.YtplcikgmefcfbaaPlanPlain
import Derived.Test.YtplcikgmefcfbaaDriftG
namespace Go.Proofs.Ytplcikgmefcfbaa
set_option linter.unusedVariables false
set_option linter.unusedSimpArgs false
open Go.RowKit

def swapL (l : List (Int × Int)) : List (Int × Int) := l.map fun x => (x.2, x.1)
def revWk (k : Wk) : Wk := { primes := k.primes, chords := k.chords.reverse, links := k.links.reverse.map fun l => l.map fun x => (x.2, x.1) }

theorem rev_rev (k : Wk) : revWk (revWk k) = k := by
  unfold revWk
  cases k with
  | mk p c l =>
    simp only [List.reverse_reverse, Wk.mk.injEq, true_and]
    rw [← List.map_reverse, List.reverse_reverse, List.map_map]
    conv => rhs; rw [← List.map_id l]
    apply List.map_congr_left
    intro x _
    simp only [Function.comp_apply, List.map_map, id_eq]
    conv => rhs; rw [← List.map_id x]
    apply List.map_congr_left
    intro y _
    rfl

theorem rev_link {k : Wk} {j : Nat} (hj : j < k.links.length) : (revWk k).links[j]? = (k.links[k.links.length - 1 - j]?).map fun l => l.map fun x => (x.2, x.1) := by
  unfold revWk
  simp only
  rw [List.getElem?_map, List.getElem?_reverse hj]
theorem rev_chord {k : Wk} {j : Nat} (hj : j < k.chords.length) : (revWk k).chords[j]? = k.chords[k.chords.length - 1 - j]? := by
  unfold revWk
  simp only
  rw [List.getElem?_reverse hj]

theorem few_rev {k : Wk} (h : FewWk k) : FewWk (revWk k) := by
  refine ⟨h.primes, fun c hc => h.chords c (by unfold revWk at hc; simpa using hc), by simpa [revWk] using h.some, by simpa [revWk] using h.few, by simpa [revWk] using h.len, ?_⟩
  intro j l hl
  have hj : j < k.links.length := by
    have := (List.getElem?_eq_some_iff.1 hl).1
    simpa [revWk] using this
  rw [rev_link hj] at hl
  obtain ⟨l', hl', rfl⟩ := Option.map_eq_some_iff.1 hl
  obtain ⟨h1, h2, c, d, hc, hd, hall⟩ := h.links _ l' hl'
  have hlen := h.len
  refine ⟨by simpa using h1, by simpa using h2, d, c, ?_, ?_, ?_⟩
  · rw [rev_chord (by omega), show k.chords.length - 1 - j = k.links.length - 1 - j + 1 by omega]; exact hd
  · rw [rev_chord (by omega), show k.chords.length - 1 - (j + 1) = k.links.length - 1 - j by omega]; exact hc
  · intro x hx
    obtain ⟨y, hy, rfl⟩ := List.mem_map.1 hx
    obtain ⟨a, b, c, d⟩ := hall y hy
    exact ⟨c, d, a, b⟩

/-- By how much a link leads, backwards. -/
theorem rev_lead {k : Wk} (h : FewWk k) (j c : Nat) (hj : j < k.links.length) : (leadRow (revWk k) j 0).getD c 0 = -(leadRow k (k.links.length - 1 - j) 0).getD c 0 := by
  have hlen := h.len
  obtain ⟨l, hl⟩ : ∃ l, k.links[k.links.length - 1 - j]? = some l := ⟨_, List.getElem?_eq_getElem (by omega)⟩
  obtain ⟨h1, h2, ca, da, hc, hd, hall⟩ := h.links _ l hl
  obtain ⟨x, hx⟩ : ∃ x, l[0]? = some x := ⟨l[0], List.getElem?_eq_getElem h1⟩
  obtain ⟨x0, x1, x2, x3⟩ := hall x (List.mem_of_getElem? hx)
  have r1 : (revWk k).links[j]? = some (l.map fun x => (x.2, x.1)) := by rw [rev_link hj, hl]; rfl
  have r2 : (revWk k).chords[j]? = some da := by rw [rev_chord (by omega), show k.chords.length - 1 - j = k.links.length - 1 - j + 1 by omega]; exact hd
  have r3 : (revWk k).chords[j + 1]? = some ca := by rw [rev_chord (by omega), show k.chords.length - 1 - (j + 1) = k.links.length - 1 - j by omega]; exact hc
  obtain ⟨p, hp⟩ : ∃ p, ca[x.1.toNat]? = some p := ⟨_, List.getElem?_eq_getElem (by omega)⟩
  obtain ⟨q, hq⟩ : ∃ q, da[x.2.toNat]? = some q := ⟨_, List.getElem?_eq_getElem (by omega)⟩
  have e1 : leadRow (revWk k) j 0 = sumRows q p := by
    unfold leadRow
    simp [List.getD, r1, r2, r3, hx, hp, hq]
  have e2 : leadRow k (k.links.length - 1 - j) 0 = sumRows p q := by
    unfold leadRow
    simp [List.getD, hl, hc, hd, hx, hp, hq]
  rw [e1, e2]
  have lp := ((h.chords ca (List.mem_of_getElem? hc)).2.2 p (List.mem_of_getElem? hp)).1
  have lq := ((h.chords da (List.mem_of_getElem? hd)).2.2 q (List.mem_of_getElem? hq)).1
  unfold sumRows
  simp only [List.getD_eq_getElem?_getD, List.getElem?_zipWith]
  by_cases hcl : c < 3
  · rw [List.getElem?_eq_getElem (show c < p.length by omega), List.getElem?_eq_getElem (show c < q.length by omega)]
    simp
    omega
  · rw [List.getElem?_eq_none (show p.length ≤ c by omega), List.getElem?_eq_none (show q.length ≤ c by omega)]
    simp

theorem root_step {k : Wk} (h : FewWk k) (i c : Nat) (hi : i < k.links.length) : (rootAt k (i + 1)).getD c 0 = (rootAt k i).getD c 0 + (leadRow k i 0).getD c 0 := by
  obtain ⟨r1, -⟩ := few_root h i (by omega)
  obtain ⟨l, hl⟩ : ∃ l, k.links[i]? = some l := ⟨_, List.getElem?_eq_getElem hi⟩
  obtain ⟨h1, -⟩ := h.links _ l hl
  obtain ⟨r2, -⟩ := few_lead h i 0 l hl h1
  rw [rootAt, accRow]
  simp only [List.getD_eq_getElem?_getD, List.getElem?_zipWith]
  by_cases hcl : c < 3
  · rw [List.getElem?_eq_getElem (show c < (rootAt k i).length by omega), List.getElem?_eq_getElem (show c < (leadRow k i 0).length by omega)]
    simp
  · rw [List.getElem?_eq_none (show (rootAt k i).length ≤ c by omega), List.getElem?_eq_none (show (leadRow k i 0).length ≤ c by omega)]
    simp

theorem rev_root {k : Wk} (h : FewWk k) (c : Nat) : ∀ j, j ≤ k.links.length → (rootAt (revWk k) j).getD c 0 = (rootAt k (k.links.length - j)).getD c 0 - (rootAt k k.links.length).getD c 0
  | 0, _ => by
    have hz : (rootAt (revWk k) 0).getD c 0 = 0 := by
      rw [rootAt, List.getD_eq_getElem?_getD, List.getElem?_replicate]
      split <;> rfl
    rw [hz, Nat.sub_zero]; omega
  | j + 1, hj => by
    have hl : (revWk k).links.length = k.links.length := by simp [revWk]
    rw [root_step (few_rev h) j c (by omega), rev_root h c j (by omega), rev_lead h j c (by omega)]
    have := root_step h (k.links.length - 1 - j) c (by omega)
    rw [show k.links.length - 1 - j + 1 = k.links.length - j by omega] at this
    rw [show k.links.length - (j + 1) = k.links.length - 1 - j by omega]
    omega

theorem rev_drift {k : Wk} (h : FewWk k) : (List.zipWith (· + ·) (driftOf k) (driftOf (revWk k))).any (· != 0) = false := by
  have hl : (revWk k).links.length = k.links.length := by simp [revWk]
  have l1 := (few_root h k.links.length (by omega)).1
  have l2 := (few_root (few_rev h) (revWk k).links.length (by omega)).1
  rw [List.any_eq_false]
  intro x hx
  obtain ⟨c, hc⟩ := List.getElem?_of_mem hx
  unfold driftOf at hc
  rw [List.getElem?_zipWith] at hc
  have hc3 : c < 3 := by
    by_cases h3 : c < 3
    · exact h3
    · rw [List.getElem?_eq_none (show (rootAt k k.links.length).length ≤ c by omega)] at hc
      simp at hc
  have hr := rev_root h c k.links.length (Nat.le_refl _)
  rw [Nat.sub_self] at hr
  have hz : (rootAt k 0).getD c 0 = 0 := by
    rw [rootAt, List.getD_eq_getElem?_getD, List.getElem?_replicate]
    split <;> rfl
  obtain ⟨x1, h1⟩ : ∃ x, (rootAt k k.links.length)[c]? = some x := ⟨_, List.getElem?_eq_getElem (by omega)⟩
  obtain ⟨x2, h2⟩ : ∃ x, (rootAt (revWk k) (revWk k).links.length)[c]? = some x := ⟨_, List.getElem?_eq_getElem (by omega)⟩
  rw [h1, h2] at hc
  rw [hl] at h2
  rw [hz, List.getD_eq_getElem?_getD, List.getD_eq_getElem?_getD, h1, h2] at hr
  simp only [Option.getD_some] at hr
  simp only [Option.some.injEq] at hc
  simp
  omega

/-- Repeat's error at a walk of few chords. -/
theorem few_repE {k : Wk} (h : FewWk k) (n : Int) : repE k n = if n < 0 ∨ 1000 < n then 3 else if (timesRow (driftOf k) n).any farB then 4 else 0 := by
  unfold repE
  rw [if_pos (few_walk h), h.primes]
  congr 1
  have l1 := (few_root h k.links.length (by omega)).1
  rw [checkAllE, if_pos primes235, show ([2, 3, 5] : List Int).length = 3 from rfl, rows_any (by intro x hx; rw [List.mem_singleton.1 hx]; simp [timesRow, driftOf, l1])]
  simp
theorem times_comm (x : List Int) (n : Int) : x.map (n * ·) = timesRow x n := by
  unfold timesRow
  apply List.map_congr_left
  intro a _
  exact Int.mul_comm _ _
end Go.Proofs.Ytplcikgmefcfbaa
