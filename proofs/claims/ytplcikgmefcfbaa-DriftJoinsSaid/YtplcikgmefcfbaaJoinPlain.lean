/- Two walks joined: right, and its drift is the sum of both (plain). -/
import Derived.Test.YtplcikgmefcfbaaRevPlain
namespace Go.Proofs.Ytplcikgmefcfbaa
set_option linter.unusedVariables false
set_option linter.unusedSimpArgs false

def joinWk (a b : Wk) : Wk := { primes := a.primes, chords := a.chords ++ b.chords.drop 1, links := a.links ++ b.links }
/-- The last chord of the first one is the first chord of the second one. -/
def meets (a b : Wk) : Prop := a.chords[a.chords.length - 1]? = b.chords[0]?
theorem join_chord1 {a b : Wk} {j : Nat} (h : j < a.chords.length) : (joinWk a b).chords[j]? = a.chords[j]? := by
  show (a.chords ++ b.chords.drop 1)[j]? = _
  rw [List.getElem?_append_left h]
theorem join_chord2 {a b : Wk} (ha : FewWk a) (hm : meets a b) (j : Nat) : (joinWk a b).chords[a.links.length + j]? = b.chords[j]? := by
  have hl := ha.len
  show (a.chords ++ b.chords.drop 1)[a.links.length + j]? = _
  cases j with
  | zero =>
    rw [Nat.add_zero, List.getElem?_append_left (by omega), show a.links.length = a.chords.length - 1 by omega]; exact hm
  | succ j =>
    rw [List.getElem?_append_right (by omega), List.getElem?_drop]
    congr 1; omega
theorem join_link1 {a b : Wk} {j : Nat} (h : j < a.links.length) : (joinWk a b).links[j]? = a.links[j]? := by
  show (a.links ++ b.links)[j]? = _
  rw [List.getElem?_append_left h]
theorem join_link2 {a b : Wk} (j : Nat) : (joinWk a b).links[a.links.length + j]? = b.links[j]? := by
  show (a.links ++ b.links)[a.links.length + j]? = _
  rw [List.getElem?_append_right (by omega)]
  congr 1; omega
theorem few_join {a b : Wk} (ha : FewWk a) (hb : FewWk b) (hm : meets a b) (hl : a.chords.length + b.chords.length ≤ 51) : FewWk (joinWk a b) := by
  have h1 := ha.len
  have h2 := hb.len
  have h3 := ha.some
  have h4 := hb.some
  refine ⟨ha.primes, fun c hc => ?_, ?_, ?_, ?_, fun j l hj => ?_⟩
  · rcases List.mem_append.1 hc with hc | hc
    · exact ha.chords c hc
    · exact hb.chords c (List.mem_of_mem_drop hc)
  · show 1 ≤ (a.chords ++ b.chords.drop 1).length
    rw [List.length_append]; omega
  · show (a.chords ++ b.chords.drop 1).length ≤ 50
    rw [List.length_append, List.length_drop]; omega
  · show (a.links ++ b.links).length + 1 = (a.chords ++ b.chords.drop 1).length
    rw [List.length_append, List.length_append, List.length_drop]; omega
  · by_cases hja : j < a.links.length
    · rw [join_link1 hja] at hj
      obtain ⟨g1, g2, c, d, g3, g4, g5⟩ := ha.links j l hj
      exact ⟨g1, g2, c, d, by rw [join_chord1 (by omega)]; exact g3, by rw [join_chord1 (by omega)]; exact g4, g5⟩
    · obtain ⟨i, rfl⟩ : ∃ i, j = a.links.length + i := ⟨j - a.links.length, by omega⟩
      rw [join_link2] at hj
      obtain ⟨g1, g2, c, d, g3, g4, g5⟩ := hb.links i l hj
      exact ⟨g1, g2, c, d, by rw [join_chord2 ha hm]; exact g3, by rw [show a.links.length + i + 1 = a.links.length + (i + 1) by omega, join_chord2 ha hm]; exact g4, g5⟩
theorem join_lead1 {a b : Wk} (ha : FewWk a) {j : Nat} (h : j < a.links.length) : leadRow (joinWk a b) j 0 = leadRow a j 0 := by
  have hl := ha.len
  unfold leadRow
  simp only [List.getD_eq_getElem?_getD]
  rw [join_link1 h, join_chord1 (by omega), join_chord1 (by omega)]
theorem join_lead2 {a b : Wk} (ha : FewWk a) (hm : meets a b) (j : Nat) : leadRow (joinWk a b) (a.links.length + j) 0 = leadRow b j 0 := by
  unfold leadRow
  simp only [List.getD_eq_getElem?_getD]
  rw [join_link2, join_chord2 ha hm, show a.links.length + j + 1 = a.links.length + (j + 1) by omega, join_chord2 ha hm]
theorem join_root1 {a b : Wk} (ha : FewWk a) : ∀ j, j ≤ a.links.length → rootAt (joinWk a b) j = rootAt a j
  | 0, _ => rfl
  | j + 1, h => by rw [rootAt, rootAt, join_root1 ha j (by omega), join_lead1 ha (by omega)]
theorem join_root2 {a b : Wk} (ha : FewWk a) (hb : FewWk b) (hm : meets a b) (hl : a.chords.length + b.chords.length ≤ 51) (c : Nat) : ∀ j, j ≤ b.links.length → (rootAt (joinWk a b) (a.links.length + j)).getD c 0 = (rootAt a a.links.length).getD c 0 + (rootAt b j).getD c 0
  | 0, _ => by
    rw [Nat.add_zero, join_root1 ha _ (Nat.le_refl _)]
    have hz : (rootAt b 0).getD c 0 = 0 := by
      rw [rootAt, List.getD_eq_getElem?_getD, List.getElem?_replicate]
      split <;> rfl
    rw [hz]; omega
  | j + 1, h => by
    have hjl : (joinWk a b).links.length = a.links.length + b.links.length := by simp [joinWk]
    have ih := join_root2 ha hb hm hl c j (by omega)
    have s1 := root_step (few_join ha hb hm hl) (a.links.length + j) c (by omega)
    have s2 := root_step hb j c (by omega)
    rw [show a.links.length + (j + 1) = a.links.length + j + 1 by omega, s1, ih, join_lead2 ha hm, s2]
    omega
/-- The drift of the joined walk. -/
theorem join_drift {a b : Wk} (ha : FewWk a) (hb : FewWk b) (hm : meets a b) (hl : a.chords.length + b.chords.length ≤ 51) : driftOf (joinWk a b) = List.zipWith (· + ·) (driftOf a) (driftOf b) := by
  have hjl : (joinWk a b).links.length = a.links.length + b.links.length := by simp [joinWk]
  have l1 := (few_root ha a.links.length (by omega)).1
  have l2 := (few_root hb b.links.length (by omega)).1
  have l3 := (few_root (few_join ha hb hm hl) (joinWk a b).links.length (by omega)).1
  have key := fun c => join_root2 ha hb hm hl c b.links.length (Nat.le_refl _)
  rw [← hjl] at key
  apply List.ext_getElem?
  intro c
  have hk := key c
  unfold driftOf
  rw [List.getElem?_zipWith]
  by_cases hc : c < 3
  · obtain ⟨x1, h1⟩ : ∃ x, (rootAt a a.links.length)[c]? = some x := ⟨_, List.getElem?_eq_getElem (by omega)⟩
    obtain ⟨x2, h2⟩ : ∃ x, (rootAt b b.links.length)[c]? = some x := ⟨_, List.getElem?_eq_getElem (by omega)⟩
    obtain ⟨x3, h3⟩ : ∃ x, (rootAt (joinWk a b) (joinWk a b).links.length)[c]? = some x := ⟨_, List.getElem?_eq_getElem (by omega)⟩
    rw [h1, h2, h3]
    rw [List.getD_eq_getElem?_getD, List.getD_eq_getElem?_getD, List.getD_eq_getElem?_getD, h1, h2, h3] at hk
    simp only [Option.getD_some] at hk
    rw [hk]
  · rw [List.getElem?_eq_none (by omega), List.getElem?_eq_none (by omega), List.getElem?_eq_none (by omega)]

/-! ## The second walk made to begin with the last chord of the first one -/
def modL (n : Int) (l : List (Int × Int)) : List (Int × Int) := l.map fun x => (x.1.tmod n, x.2)
def alikeWk (last : List (List Int)) (b : Wk) : Wk := { primes := b.primes, chords := b.chords.set 0 last, links := match b.links with
  | [] => []
  | l :: r => modL last.length l :: r }
theorem alike_meets {a b : Wk} {last : List (List Int)} (hl : a.chords[a.chords.length - 1]? = some last) (hb : FewWk b) : meets a (alikeWk last b) := by
  have := hb.some
  unfold meets
  rw [hl]
  show _ = (b.chords.set 0 last)[0]?
  rw [List.getElem?_set, if_pos rfl, if_pos (by omega)]
theorem few_alike {b : Wk} {last : List (List Int)} (hb : FewWk b) (hc : okChord last) : FewWk (alikeWk last b) := by
  have h2 := hb.len
  have h4 := hb.some
  refine ⟨hb.primes, fun c hc' => ?_, ?_, ?_, ?_, fun j l hj => ?_⟩
  · rcases List.mem_or_eq_of_mem_set hc' with h | h
    · exact hb.chords c h
    · rw [h]; exact hc
  · show 1 ≤ (b.chords.set 0 last).length
    rw [List.length_set]; exact h4
  · show (b.chords.set 0 last).length ≤ 50
    rw [List.length_set]; exact hb.few
  · show (alikeWk last b).links.length + 1 = (b.chords.set 0 last).length
    rw [List.length_set, ← h2]
    unfold alikeWk
    cases b.links <;> rfl
  · have hset : ∀ i, i ≠ 0 → (b.chords.set 0 last)[i]? = b.chords[i]? := fun i hi => by rw [List.getElem?_set, if_neg (by omega)]
    cases hbl : b.links with
    | nil =>
      have : (alikeWk last b).links = [] := by unfold alikeWk; rw [hbl]
      rw [this] at hj; simp at hj
    | cons l0 r =>
      have e : (alikeWk last b).links = modL last.length l0 :: r := by unfold alikeWk; rw [hbl]
      rw [e] at hj
      cases j with
      | zero =>
        simp only [List.getElem?_cons_zero, Option.some.injEq] at hj
        subst hj
        obtain ⟨g1, g2, c, d, g3, g4, g5⟩ := hb.links 0 l0 (by rw [hbl]; rfl)
        have hlast : (0 : Int) < (last.length : Int) := by have := hc.1; omega
        refine ⟨by unfold modL; rw [List.length_map]; exact g1, by unfold modL; rw [List.length_map]; exact g2, last, d, ?_, ?_, fun x hx => ?_⟩
        · show (b.chords.set 0 last)[0]? = some last
          rw [List.getElem?_set, if_pos rfl, if_pos (by omega)]
        · show (b.chords.set 0 last)[0 + 1]? = some d
          rw [hset _ (by omega)]; exact g4
        · unfold modL at hx
          obtain ⟨y, hy, rfl⟩ := List.mem_map.1 hx
          obtain ⟨k1, k2, k3, k4⟩ := g5 y hy
          have e1 : y.1.tmod (last.length : Int) = y.1 % (last.length : Int) := Int.tmod_eq_emod_of_nonneg k1
          refine ⟨?_, ?_, k3, k4⟩
          · show 0 ≤ y.1.tmod (last.length : Int)
            rw [e1]; exact Int.emod_nonneg _ (by omega)
          · show y.1.tmod (last.length : Int) < _
            rw [e1]; exact Int.emod_lt_of_pos _ hlast
      | succ j =>
        rw [List.getElem?_cons_succ] at hj
        obtain ⟨g1, g2, c, d, g3, g4, g5⟩ := hb.links (j + 1) l (by rw [hbl, List.getElem?_cons_succ]; exact hj)
        exact ⟨g1, g2, c, d, by show (b.chords.set 0 last)[j + 1]? = _; rw [hset _ (by omega)]; exact g3, by show (b.chords.set 0 last)[j + 1 + 1]? = _; rw [hset _ (by omega)]; exact g4, g5⟩
end Go.Proofs.Ytplcikgmefcfbaa
