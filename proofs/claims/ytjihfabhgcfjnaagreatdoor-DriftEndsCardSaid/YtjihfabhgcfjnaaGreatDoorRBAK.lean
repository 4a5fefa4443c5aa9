/- Merged: LimPlain, PlanPlain, LawB, LawC, TmpK, TmpL, TmpM, TmpT, Txt, TmpV, Eq6, TmpN, TmpO, TmpP. -/
import Derived.Test.YtjihfabhgcfjnaaGreatDoorRBAE
import Derived.Test.YtjihfabhgcfjnaaGreatDoorRBAJ
import Derived.Test.YtjihfabhgcfjnaaGreatDoorRBAH
import Derived.Test.YtjihfabhgcfjnaaGreatDoorQAZ
import Derived.Test.YtjihfabhgcfjnaaGreatDoorShelfB
import Derived.Lib.Builder
import Derived.Lib.AppendStr
import Derived.Test.YtjihfabhgcfjnaaGreatDoorQAJ
import Derived.Test.YtjihfabhgcfjnaaGreatDoorRBAF
import Derived.Test.YtjihfabhgcfjnaaGreatDoorShelfA
import Derived.Test.YtjihfabhgcfjnaaGreatDoorQAD
import Derived.WalkSmall
import Derived.Lib.AppendIntMem
import Derived.Lib.Join
import Derived.Test.YtjihfabhgcfjnaaGreatDoorQAM
import Derived.Deep.CutRange
import Derived.Deep.RegionHeld3
import Derived.Test.YtjihfabhgcfjnaaGreatDoorQAY
/- Plain facts on the walk of DriftLimits: it goes on by the same interval at each step. -/
namespace Go.Proofs.YtjihfabhgcfjnaaGreatDoor
set_option linter.unusedVariables false
set_option linter.unusedSimpArgs false
open Go.RowKit

theorem rows_any {n : Nat} : ∀ {l : List (List Int)}, (∀ x ∈ l, x.length = n) → rowsE n l = if l.any (fun x => x.any farB) then 4 else 0
  | [], _ => rfl
  | x :: l, h => by
    rw [rowsE, if_pos (h x (by simp)), rows_any (fun y hy => h y (by simp [hy]))]
    by_cases hx : x.any farB = true
    · simp [hx]
    · simp [hx]

end Go.Proofs.YtjihfabhgcfjnaaGreatDoor
/- Plain facts: a walk of few small chords passes Check; its roots, drift and strains are in range. -/
namespace Go.Proofs.YtjihfabhgcfjnaaGreatDoor
set_option linter.unusedVariables false
set_option linter.unusedSimpArgs false
open Go.RowKit

/-- A walk of at most 50 chords of at most three notes of three small exponents. -/
structure FewWk (k : Wk) : Prop where
  primes : k.primes = [2, 3, 5]
  chords : ∀ c ∈ k.chords, okChord c
  some : 1 ≤ k.chords.length
  few : k.chords.length ≤ 50
  len : k.links.length + 1 = k.chords.length
  links : okLinks k.chords k.links
theorem PlanWk.fewWk {k : Wk} (h : PlanWk k) : FewWk k := ⟨h.primes, h.chords, h.some, by have := h.few; omega, h.len, h.links⟩

theorem primes235 : primesE5 [2, 3, 5] = 0 := by decide

theorem few_rows : ∀ (c : List (List Int)) (b : Int), b ≤ 1000 → (∀ x ∈ c, x.length = 3 ∧ ∀ a ∈ x, -b ≤ a ∧ a ≤ b) → checkAllE [2, 3, 5] c = 0 := by
  intro c b hb h
  rw [checkAllE, if_pos primes235, show ([2, 3, 5] : List Int).length = 3 from rfl, rows_any (fun x hx => (h x hx).1), if_neg]
  intro hx
  obtain ⟨x, hx, hf⟩ := List.any_eq_true.1 hx
  obtain ⟨a, ha, hf⟩ := List.any_eq_true.1 hf
  have := (h x hx).2 a ha
  simp only [farB, Bool.or_eq_true, decide_eq_true_eq] at hf
  omega

theorem few_chords : ∀ (cs : List (List (List Int))), (∀ c ∈ cs, okChord c) → chordsE [2, 3, 5] cs = 0
  | [], _ => rfl
  | c :: cs, h => by
    obtain ⟨h1, h2, h3⟩ := h c (by simp)
    rw [chordsE, if_pos (by unfold countE; rw [if_neg (by omega), if_neg (by omega)]), if_pos (few_rows c 8 (by omega) h3), few_chords cs (fun c hc => h c (by simp [hc]))]

theorem few_links (cs : List (List (List Int))) : ∀ (ls : List (List (Int × Int))) (i : Nat), (∀ (j : Nat) l, ls[j]? = some l → 1 ≤ l.length ∧ l.length ≤ 2 ∧ ∃ c d, cs[i + j]? = some c ∧ cs[i + j + 1]? = some d ∧ ∀ x ∈ l, 0 ≤ x.1 ∧ x.1 < c.length ∧ 0 ≤ x.2 ∧ x.2 < d.length) → linksE cs i ls = 0
  | [], _, _ => rfl
  | l :: ls, i, h => by
    obtain ⟨h1, h2, c, d, h3, h4, h5⟩ := h 0 l rfl
    rw [linksE, if_pos (by unfold countE; rw [if_neg (by omega), if_neg (by omega)]), if_neg, few_links cs ls (i + 1) (fun j l hl => by
      have := h (j + 1) l (by simpa using hl)
      rwa [show i + 1 + j = i + (j + 1) by omega])]
    intro hx
    obtain ⟨x, hx, hf⟩ := List.any_eq_true.1 hx
    simp only [Nat.add_zero] at h3 h4
    have := h5 x hx
    simp only [badLink, List.getD, h3, h4, Option.getD_some, Bool.or_eq_true, decide_eq_true_eq] at hf
    omega

theorem few_walk {k : Wk} (h : FewWk k) : walkE k = 0 := by
  have h1 := h.some; have h2 := h.few; have h3 := h.len
  unfold walkE
  rw [h.primes, if_pos primes235, if_pos (by unfold countE; rw [if_neg (by omega), if_neg (by omega)]), if_pos (few_chords _ h.chords), if_pos (by omega)]
  exact few_links _ _ 0 (fun j l hl => by
    obtain ⟨a, b, c, d, e, f, g⟩ := h.links j l hl
    exact ⟨a, b, c, d, by rw [Nat.zero_add]; exact e, by rw [Nat.zero_add]; exact f, g⟩)

theorem few_lead {k : Wk} (h : FewWk k) (i j : Nat) (l : List (Int × Int)) (hl : k.links[i]? = some l) (hj : j < l.length) : (leadRow k i j).length = 3 ∧ ∀ a ∈ leadRow k i j, -16 ≤ a ∧ a ≤ 16 := by
  obtain ⟨-, -, c, d, hc, hd, hall⟩ := h.links i l hl
  obtain ⟨lk, hlk⟩ : ∃ x, l[j]? = some x := ⟨l[j], List.getElem?_eq_getElem hj⟩
  obtain ⟨hf0, hf1, ht0, ht1⟩ := hall lk (List.mem_of_getElem? hlk)
  obtain ⟨f, t⟩ := lk
  obtain ⟨f, rfl⟩ := Int.eq_ofNat_of_zero_le hf0
  obtain ⟨t, rfl⟩ := Int.eq_ofNat_of_zero_le ht0
  simp only [Int.ofNat_lt] at hf1 ht1
  obtain ⟨x, hx⟩ : ∃ x, c[f]? = some x := ⟨c[f], List.getElem?_eq_getElem hf1⟩
  obtain ⟨y, hy⟩ : ∃ y, d[t]? = some y := ⟨d[t], List.getElem?_eq_getElem ht1⟩
  have htx := (h.chords c (List.mem_of_getElem? hc)).2.2 x (List.mem_of_getElem? hx)
  have hty := (h.chords d (List.mem_of_getElem? hd)).2.2 y (List.mem_of_getElem? hy)
  have e : leadRow k i j = sumRows x y := by
    unfold leadRow
    simp [List.getD, hl, hlk, hc, hd, hx, hy]
  rw [e]
  refine ⟨by simp [sumRows, htx.1, hty.1], fun a ha => ?_⟩
  have := sumRows_bd2 x y 8 8 htx.2 hty.2 a ha
  omega

theorem few_root {k : Wk} (h : FewWk k) : ∀ i, i ≤ k.links.length → (rootAt k i).length = 3 ∧ ∀ a ∈ rootAt k i, -(16 * (i : Int)) ≤ a ∧ a ≤ 16 * (i : Int)
  | 0, _ => by
    refine ⟨by simp [rootAt, h.primes], fun a ha => ?_⟩
    have := (List.mem_replicate.1 ha).2
    omega
  | i + 1, hi => by
    obtain ⟨h1, h2⟩ := few_root h i (by omega)
    obtain ⟨l, hll⟩ : ∃ l, k.links[i]? = some l := ⟨k.links[i]'(by omega), List.getElem?_eq_getElem _⟩
    have hne := (h.links i l hll).1
    obtain ⟨h3, h4⟩ := few_lead h i 0 l hll (by omega)
    refine ⟨by simp [rootAt, accRow, h1, h3], fun a ha => ?_⟩
    obtain ⟨j, hj, rfl⟩ := List.getElem_of_mem ha
    simp only [rootAt, accRow, List.length_zipWith] at hj
    simp only [rootAt, accRow, List.getElem_zipWith, Bool.false_eq_true, if_false]
    have e1 := h2 ((rootAt k i)[j]'(by omega)) (List.getElem_mem _)
    have e2 := h4 ((leadRow k i 0)[j]'(by omega)) (List.getElem_mem _)
    omega

theorem few_rootsE {k : Wk} (h : FewWk k) : rootsE k = 0 := by
  have h1 := h.few; have h2 := h.len
  unfold rootsE
  rw [if_pos (few_walk h), h.primes]
  refine few_rows _ 800 (by omega) fun x hx => ?_
  obtain ⟨i, hi, rfl⟩ := List.mem_map.1 hx
  have hi := List.mem_range.1 hi
  obtain ⟨h3, h4⟩ := few_root h i (by omega)
  exact ⟨h3, fun a ha => by have := h4 a ha; omega⟩

theorem few_driftE {k : Wk} (h : FewWk k) : driftE k = 0 := by
  have h1 := h.few; have h2 := h.len
  unfold driftE
  rw [if_pos (few_walk h), h.primes]
  refine few_rows _ 800 (by omega) fun x hx => ?_
  rw [List.mem_singleton.1 hx]
  obtain ⟨h3, h4⟩ := few_root h k.links.length (by omega)
  exact ⟨h3, fun a ha => by have := h4 a ha; omega⟩

theorem few_str : ∀ (l : List (Nat × Nat × List Int)), (∀ x ∈ l, x.2.2.length = 3 ∧ ∀ a ∈ x.2.2, -32 ≤ a ∧ a ≤ 32) → strE [2, 3, 5] l = 0
  | [], _ => rfl
  | x :: l, h => by
    rw [strE, if_pos (few_rows _ 32 (by omega) (fun y hy => by rw [List.mem_singleton.1 hy]; exact h x (by simp))), few_str l (fun y hy => h y (by simp [hy]))]

theorem few_strainsE {k : Wk} (h : FewWk k) : strainsE k = 0 := by
  unfold strainsE
  rw [if_pos (few_walk h), h.primes]
  refine few_str _ fun x hx => ?_
  obtain ⟨i, hi, hx⟩ := List.mem_flatMap.1 hx
  have hi := List.mem_range.1 hi
  obtain ⟨l, hll⟩ : ∃ l, k.links[i]? = some l := ⟨k.links[i]'(by omega), List.getElem?_eq_getElem _⟩
  obtain ⟨j, hj, hx⟩ := List.mem_filterMap.1 hx
  have hj := List.mem_range.1 hj
  have e : k.links.getD i [] = l := by simp [List.getD, hll]
  rw [e] at hj
  split at hx
  · simp only [Option.some.injEq] at hx
    subst hx
    obtain ⟨h1, h2⟩ := few_lead h i j l hll hj
    obtain ⟨h3, h4⟩ := few_lead h i 0 l hll (by omega)
    refine ⟨by simp [strainAt, sumRows, h1, h3], fun a ha => ?_⟩
    have := sumRows_bd2 _ _ 16 16 h2 h4 a ha
    omega
  · simp at hx
end Go.Proofs.YtjihfabhgcfjnaaGreatDoor
/- Contracts of example and known. -/
namespace Go.Proofs.YtjihfabhgcfjnaaGreatDoor
set_option linter.unusedVariables false
set_option linter.unusedSimpArgs false
open Go.RowKit

def exWk : Wk := { primes := [2, 3, 5], chords := [[[0, 0, 0], [-1, 1, 0]], [[0, 0, 0], [-1, 1, 0]], [[0, 0, 0], [-1, 1, 0]]], links := [[(1, 0), (0, 0)], [(1, 0)]] }

set_option maxRecDepth 100000 in
set_option maxHeartbeats 1000000 in
theorem example_any (w : World) : Calls Tryz.prog 39 #[] w fun e w' => ∃ v, e = .returned v ∧ Ext w w' ∧ WalkAt w' v exWk := by
  go_enter Tryz.func39, Tryz.ntmps39
  go_wp2
  have f1 : Ints _ (.slice (some ⟨w.heap.size + 1, 0, none⟩) 3 3) [0, 0, 0] := Ints.litAt (w := w.alloc (.cells #[.slice (some ⟨w.heap.size + 1 + 1 + 1 + 1, 0, none⟩) 3 3, .slice (some ⟨w.heap.size + 1 + 1 + 1 + 1 + 1, 0, none⟩) 3 3, .slice (some ⟨w.heap.size + 1 + 1 + 1 + 1 + 1 + 1 + 1 + 1, 0, none⟩) 2 2] 55)) (by simp) [0, 0, 0] 3 3 rfl (by simp [maxLen]) (by simp) #[.int .i64 0, .int .i64 0, .int .i64 0] rfl
  generalize hW1 : w.alloc (.cells #[.slice (some ⟨w.heap.size + 1 + 1 + 1 + 1, 0, none⟩) 3 3, .slice (some ⟨w.heap.size + 1 + 1 + 1 + 1 + 1, 0, none⟩) 3 3, .slice (some ⟨w.heap.size + 1 + 1 + 1 + 1 + 1 + 1 + 1 + 1, 0, none⟩) 2 2] 55) = W1 at *
  have s1 : W1.heap.size = w.heap.size + 1 := by rw [← hW1]; simp
  have x1 : Ext w W1 := by rw [← hW1]; exact Ext.alloc _ _
  have c0 : W1.cell? ⟨w.heap.size, 0, none⟩ = some (.slice (some ⟨w.heap.size + 1 + 1 + 1 + 1, 0, none⟩) 3 3) := by rw [← hW1]; simp
  have c1 : W1.cell? ⟨w.heap.size, 1, none⟩ = some (.slice (some ⟨w.heap.size + 1 + 1 + 1 + 1 + 1, 0, none⟩) 3 3) := by rw [← hW1]; simp
  have c2 : W1.cell? ⟨w.heap.size, 2, none⟩ = some (.slice (some ⟨w.heap.size + 1 + 1 + 1 + 1 + 1 + 1 + 1 + 1, 0, none⟩) 2 2) := by rw [← hW1]; simp
  clear hW1
  generalize hW2 : W1.alloc (.cells #[.int .i64 0, .int .i64 0, .int .i64 0] 3) = W2 at *
  have s2 : W2.heap.size = w.heap.size + 1 + 1 := by rw [← hW2]; simp [s1]
  have x2 : Ext W1 W2 := by rw [← hW2]; exact Ext.alloc _ _
  clear hW2
  have f2 : Ints _ (.slice (some ⟨w.heap.size + 1 + 1, 0, none⟩) 3 3) [-1, 1, 0] := Ints.litAt (w := W2) s2.symm [-1, 1, 0] 3 3 rfl (by simp [maxLen]) (by simp) #[.int .i64 (-1), .int .i64 1, .int .i64 0] rfl
  generalize hW3 : W2.alloc (.cells #[.int .i64 (-1), .int .i64 1, .int .i64 0] 3) = W3 at *
  have s3 : W3.heap.size = w.heap.size + 1 + 1 + 1 := by rw [← hW3]; simp [s2]
  have x3 : Ext W2 W3 := by rw [← hW3]; exact Ext.alloc _ _
  clear hW3
  have f3 : Rows2 _ (.slice (some ⟨w.heap.size + 1 + 1 + 1, 0, none⟩) 2 2) [[0, 0, 0], [-1, 1, 0]] := ListAt.litAt (R := Ints) (fun _ _ _ _ he h => ListAt.ext intR.mono h he) (w := W3) s3.symm [.slice (some ⟨w.heap.size + 1, 0, none⟩) 3 3, .slice (some ⟨w.heap.size + 1 + 1, 0, none⟩) 3 3] [[0, 0, 0], [-1, 1, 0]] 37 2 rfl rfl (by simp [maxLen]) _ rfl (by
    intro a u z hu hz
    match a with
    | 0 => simp at hu hz; subst hu; subst hz; exact f1.ext x3
    | 1 => simp at hu hz; subst hu; subst hz; exact f2
    | a + 2 => simp at hu)
  generalize hW4 : W3.alloc (.cells [Value.slice (some ⟨w.heap.size + 1, 0, none⟩) 3 3, .slice (some ⟨w.heap.size + 1 + 1, 0, none⟩) 3 3].toArray 37) = W4 at *
  have s4 : W4.heap.size = w.heap.size + 1 + 1 + 1 + 1 := by rw [← hW4]; simp [s3]
  have x4 : Ext W3 W4 := by rw [← hW4]; exact Ext.alloc _ _
  clear hW4
  have f4 : Ints _ (.slice (some ⟨w.heap.size + 1 + 1 + 1 + 1, 0, none⟩) 3 3) [2, 3, 5] := Ints.litAt (w := W4) s4.symm [2, 3, 5] 3 3 rfl (by simp [maxLen]) (by simp) #[.int .i64 2, .int .i64 3, .int .i64 5] rfl
  generalize hW5 : W4.alloc (.cells #[.int .i64 2, .int .i64 3, .int .i64 5] 3) = W5 at *
  have s5 : W5.heap.size = w.heap.size + 1 + 1 + 1 + 1 + 1 := by rw [← hW5]; simp [s4]
  have x5 : Ext W4 W5 := by rw [← hW5]; exact Ext.alloc _ _
  clear hW5
  have f5 : Chords _ (.slice (some ⟨w.heap.size + 1 + 1 + 1 + 1 + 1, 0, none⟩) 3 3) exWk.chords := ListAt.litAt (R := Rows2) (fun _ _ _ _ he h => Rows2.ext h he) (w := W5) s5.symm [.slice (some ⟨w.heap.size + 1 + 1 + 1, 0, none⟩) 2 2, .slice (some ⟨w.heap.size + 1 + 1 + 1, 0, none⟩) 2 2, .slice (some ⟨w.heap.size + 1 + 1 + 1, 0, none⟩) 2 2] exWk.chords 28 3 rfl rfl (by simp [maxLen, exWk]) _ rfl (by
    intro a u z hu hz
    match a with
    | 0 => simp [exWk] at hu hz; subst hu; subst hz; exact f3.ext x5
    | 1 => simp [exWk] at hu hz; subst hu; subst hz; exact f3.ext x5
    | 2 => simp [exWk] at hu hz; subst hu; subst hz; exact f3.ext x5
    | a + 3 => simp at hu)
  generalize hW6 : W5.alloc (.cells [Value.slice (some ⟨w.heap.size + 1 + 1 + 1, 0, none⟩) 2 2, .slice (some ⟨w.heap.size + 1 + 1 + 1, 0, none⟩) 2 2, .slice (some ⟨w.heap.size + 1 + 1 + 1, 0, none⟩) 2 2].toArray 28) = W6 at *
  have s6 : W6.heap.size = w.heap.size + 1 + 1 + 1 + 1 + 1 + 1 := by rw [← hW6]; simp [s5]
  have x6 : Ext W5 W6 := by rw [← hW6]; exact Ext.alloc _ _
  clear hW6
  have f6 : Links _ (.slice (some ⟨w.heap.size + 1 + 1 + 1 + 1 + 1 + 1, 0, none⟩) 2 2) [(1, 0), (0, 0)] := Links.litAt (w := W6) s6.symm [(1, 0), (0, 0)] 114 2 rfl (by simp [maxLen]) (by simp) #[.int .i64 1, .int .i64 0, .int .i64 0, .int .i64 0] rfl
  generalize hW7 : W6.alloc (.cells #[.int .i64 1, .int .i64 0, .int .i64 0, .int .i64 0] 114) = W7 at *
  have s7 : W7.heap.size = w.heap.size + 1 + 1 + 1 + 1 + 1 + 1 + 1 := by rw [← hW7]; simp [s6]
  have x7 : Ext W6 W7 := by rw [← hW7]; exact Ext.alloc _ _
  clear hW7
  have f7 : Links _ (.slice (some ⟨w.heap.size + 1 + 1 + 1 + 1 + 1 + 1 + 1, 0, none⟩) 1 1) [(1, 0)] := Links.litAt (w := W7) s7.symm [(1, 0)] 114 1 rfl (by simp [maxLen]) (by simp) #[.int .i64 1, .int .i64 0] rfl
  generalize hW8 : W7.alloc (.cells #[.int .i64 1, .int .i64 0] 114) = W8 at *
  have s8 : W8.heap.size = w.heap.size + 1 + 1 + 1 + 1 + 1 + 1 + 1 + 1 := by rw [← hW8]; simp [s7]
  have x8 : Ext W7 W8 := by rw [← hW8]; exact Ext.alloc _ _
  clear hW8
  have f8 : Links2 _ (.slice (some ⟨w.heap.size + 1 + 1 + 1 + 1 + 1 + 1 + 1 + 1, 0, none⟩) 2 2) exWk.links := ListAt.litAt (R := Links) (fun _ _ _ _ he h => Links.ext h he) (w := W8) s8.symm [.slice (some ⟨w.heap.size + 1 + 1 + 1 + 1 + 1 + 1, 0, none⟩) 2 2, .slice (some ⟨w.heap.size + 1 + 1 + 1 + 1 + 1 + 1 + 1, 0, none⟩) 1 1] exWk.links 112 2 rfl rfl (by simp [maxLen, exWk]) _ rfl (by
    intro a u z hu hz
    match a with
    | 0 => simp [exWk] at hu hz; subst hu; subst hz; exact f6.ext x8
    | 1 => simp [exWk] at hu hz; subst hu; subst hz; exact f7
    | a + 2 => simp at hu)
  generalize hW9 : W8.alloc (.cells [Value.slice (some ⟨w.heap.size + 1 + 1 + 1 + 1 + 1 + 1, 0, none⟩) 2 2, .slice (some ⟨w.heap.size + 1 + 1 + 1 + 1 + 1 + 1 + 1, 0, none⟩) 1 1].toArray 112) = W9 at *
  have x9 : Ext W8 W9 := by rw [← hW9]; exact Ext.alloc _ _
  clear hW9
  have x59 : Ext W5 W9 := x6.trans (x7.trans (x8.trans x9))
  have x19 : Ext W1 W9 := x2.trans (x3.trans (x4.trans (x5.trans x59)))
  have d0 := x19.cell c0; have d1 := x19.cell c1; have d2 := x19.cell c2
  clear c0 c1 c2 s1 s2 s3 s4 s5 s6 s7 s8
  refine bodyPost_ret (v := .agg #[.slice (some ⟨w.heap.size + 1 + 1 + 1 + 1, 0, none⟩) 3 3, .slice (some ⟨w.heap.size + 1 + 1 + 1 + 1 + 1, 0, none⟩) 3 3, .slice (some ⟨w.heap.size + 1 + 1 + 1 + 1 + 1 + 1 + 1 + 1, 0, none⟩) 2 2]) ?_ rfl ⟨_, rfl, x1.trans x19, ⟨_, _, _, rfl, f4.ext x59, f5.ext (x7.trans (x8.trans x9)), f8⟩⟩
  simp [results, Tryz.results39, go_sem, d0, d1, d2]
end Go.Proofs.YtjihfabhgcfjnaaGreatDoor
/- Contract of known: the examples of the chapter hold. -/
namespace Go.Proofs.YtjihfabhgcfjnaaGreatDoor
set_option linter.unusedVariables false
set_option linter.unusedSimpArgs false
open Go.RowKit

theorem exRoots : rootsE exWk = 0 ∧ rootsOf exWk exWk.links.length = [[0, 0, 0], [-1, 1, 0], [-2, 2, 0]] := by decide +kernel
theorem exDrift : driftE exWk = 0 ∧ driftOf exWk = [-2, 2, 0] := by decide +kernel
theorem exStrains : strainsE exWk = 0 ∧ strainsTo exWk exWk.links.length = [(0, 1, [1, -1, 0])] := by decide +kernel

set_option maxRecDepth 100000 in
set_option maxHeartbeats 4000000 in
theorem known_any (w : World) : Calls Tryz.prog 13 #[] w fun e w' => e = .returned (.bool true) ∧ Ext w w' := by
  go_enter Tryz.func13, Tryz.ntmps13
  go_wp2_with fail
  refine (example_any w).mono ?_
  rintro e w1 ⟨v, rfl, hE1, hv⟩
  have HV := Lib.hid hv
  obtain ⟨vp, vc, vl, rfl, p1, p2, p3⟩ := hv
  obtain ⟨ap, cp, rfl, -, -, -, -, -⟩ := p1.open
  obtain ⟨ac, cc, rfl, -, -, -, -⟩ := inCell.open p2
  obtain ⟨al, cl, rfl, -, -, -, -⟩ := inCell.open p3
  obtain ⟨W, hW, hE, hsz, b0, b1, b2⟩ := box_walk w1 (.slice ap exWk.primes.length cp) (.slice ac exWk.chords.length cc) (.slice al exWk.links.length cl) 55
  clear p1 p2 p3
  go_wp2_with fail
  clear hW
  have HV1 := Lib.hid (HV.out.ext hE)
  clear HV
  refine (Roots_any exWk _ W HV1.out).mono ?_
  rintro e w2 ⟨r, rfl, hE2, hr, -⟩
  have hr := hr exRoots.1
  rw [exRoots.1]
  rw [exRoots.2] at hr
  have HR := Lib.hid hr
  have HV2 := Lib.hid (HV1.out.ext hE2)
  have d0 := hE2.cell b0; have d1 := hE2.cell b1; have d2 := hE2.cell b2
  clear b0 b1 b2 HV1 hr
  go_wp2_with fail
  refine (Drift_any exWk _ w2 HV2.out).mono ?_
  rintro e w3 ⟨d, rfl, hE3, hd, -⟩
  have hd := hd exDrift.1
  rw [exDrift.1]
  rw [exDrift.2] at hd
  have HD := Lib.hid hd
  have HV3 := Lib.hid (HV2.out.ext hE3)
  have b0 := hE3.cell d0; have b1 := hE3.cell d1; have b2 := hE3.cell d2
  clear d0 d1 d2 HV2 hd
  go_wp2_with fail
  refine (Strains_any exWk _ w3 HV3.out).mono ?_
  rintro e w4 ⟨s, rfl, hE4, hs, -⟩
  have hs := hs exStrains.1
  rw [exStrains.1]
  rw [exStrains.2] at hs
  have hr := Rows2.ext HR.out (hE3.trans hE4)
  have hd := Ints.ext HD.out hE4
  have hE04 : Ext w w4 := hE1.trans (hE.trans (hE2.trans (hE3.trans hE4)))
  clear b0 b1 b2 HV3 HR HD hE1 hE hE2 hE3 hE4
  obtain ⟨a, c, rfl, hlc, hmc, -, hcell⟩ := inCell.open hr
  obtain ⟨br, offr, rfl, hbr, hcell⟩ := hcell (by simp)
  obtain ⟨v1, hv1, hc1⟩ := hcell 1 [-1, 1, 0] rfl
  obtain ⟨a1, c1, rfl, -, -, -, -, -⟩ := hv1.open
  obtain ⟨ad, cd, rfl, -, -, -, -, -⟩ := hd.open
  obtain ⟨as1, cs, rfl, hls, hms, -, -⟩ := ListAt.open hs
  obtain ⟨-, -, -, hcs⟩ := Strs.cells hs
  obtain ⟨bs, offs, rfl, hbs, hcs⟩ := hcs (by simp)
  obtain ⟨vs, hvs, s0, s1, s2⟩ := hcs 0 _ rfl
  obtain ⟨a2, c2, rfl, -, -, -, -, -⟩ := hvs.open
  simp only [Nat.zero_mul, Nat.add_zero] at s0 s1 s2
  have H1 := Lib.hid hv1; have H2 := Lib.hid hd; have H3 := Lib.hid hvs
  simp only [List.length_cons, List.length_nil, Nat.zero_add, Nat.reduceAdd] at hlc hls hc1 s2 ⊢
  unfold maxLen at hmc hms
  clear hcell hcs hv1 hd hvs hs hr
  go_wp2_with fail
  refine (equalRow_any [-1, 1, 0] [-1, 1, 0] _ _ _ (H1.out.ext (Ext.alloc _ _)) (Ints.litAt rfl [-1, 1, 0] _ 3 rfl (by simp [maxLen]) (by simp) _ rfl)).mono ?_
  rintro e w5 ⟨rfl, hE5⟩
  rw [show ([-1, 1, 0] : List Int) == [-1, 1, 0] from rfl]
  have hE45 : Ext w4 w5 := (Ext.alloc _ _).trans hE5
  clear hE5
  go_wp2_with fail
  refine (equalRow_any [-2, 2, 0] [-2, 2, 0] _ _ _ (H2.out.ext (hE45.trans (Ext.alloc _ _))) (Ints.litAt rfl [-2, 2, 0] _ 3 rfl (by simp [maxLen]) (by simp) _ rfl)).mono ?_
  rintro e w6 ⟨rfl, hE6⟩
  rw [show ([-2, 2, 0] : List Int) == [-2, 2, 0] from rfl]
  have hE46 : Ext w4 w6 := hE45.trans ((Ext.alloc _ _).trans hE6)
  have t0 := hE46.cell s0; have t1 := hE46.cell s1; have t2 := hE46.cell s2
  clear hE6 hE45 s0 s1 s2 hc1
  go_wp2_with fail
  refine (equalRow_any [1, -1, 0] [1, -1, 0] _ _ _ (H3.out.ext (hE46.trans (Ext.alloc _ _))) (Ints.litAt rfl [1, -1, 0] _ 3 rfl (by simp [maxLen]) (by simp) _ rfl)).mono ?_
  rintro e w7 ⟨rfl, hE7⟩
  rw [show ([1, -1, 0] : List Int) == [1, -1, 0] from rfl]
  have hE47 : Ext w w7 := hE04.trans (hE46.trans ((Ext.alloc _ _).trans hE7))
  clear hE7 hE46 hE04
  go_wp2_with fail
  go_ret
  exact ⟨rfl, hE47⟩
end Go.Proofs.YtjihfabhgcfjnaaGreatDoor
/- Contracts of laws 12 and 18: Primes, Interval, build. -/
namespace Go.Proofs.YtjihfabhgcfjnaaGreatDoor
set_option linter.unusedVariables false
set_option linter.unusedSimpArgs false
open Go.RowKit

end Go.Proofs.YtjihfabhgcfjnaaGreatDoor
/- Contracts of laws 12 and 18: Interval, build. -/
namespace Go.Proofs.YtjihfabhgcfjnaaGreatDoor
set_option linter.unusedVariables false
set_option linter.unusedSimpArgs false
open Go.RowKit

end Go.Proofs.YtjihfabhgcfjnaaGreatDoor
/- Contract of law 18: Make: the temperament of a plan. -/
namespace Go.Proofs.YtjihfabhgcfjnaaGreatDoor
set_option linter.unusedVariables false
set_option linter.unusedSimpArgs false
open Go.RowKit

/-- The temperament of few small rows: the forms of its commas and of its mapping. -/
structure TempF (n F : Nat) (P : List Int) (m C M : List (List Int)) (vals : Bool) : Prop where
  right : RightT n F P C M
  left : RightT n F P M C
  hC : ∃ ps, HForm n C ps
  hM : ∃ ps, HForm n M ps
  spC : ∀ v, Sp n (RowsFrom 0 C) v ↔ if vals then Ann n m v else Sat n m v
  spM : ∀ v, Sp n (RowsFrom 0 M) v ↔ if vals then Sat n m v else Ann n m v
  rank : M.length + C.length = n
  lC : C.length ≤ 4
  lM : M.length ≤ 4
  bC : ∀ x ∈ C, RowLe 629856 x ∧ x.length = n
  bM : ∀ x ∈ M, RowLe 629856 x ∧ x.length = n
end Go.Proofs.YtjihfabhgcfjnaaGreatDoor
/- The text builder of package strings, as this program holds it: WriteString, WriteByte, String. -/
namespace Go.Proofs.YtjihfabhgcfjnaaGreatDoor
set_option linter.unusedVariables false
set_option linter.unusedSimpArgs false
open Go.RowKit

end Go.Proofs.YtjihfabhgcfjnaaGreatDoor
/- row.Text and prime.Text, as contracts. -/
namespace Go.Proofs.YtjihfabhgcfjnaaGreatDoor
set_option linter.unusedVariables false
set_option linter.unusedSimpArgs false
open Go.RowKit

def strR (_ : World) (u : List Value) (s : ByteArray) : Prop := u = [.string s]
theorem strR.mono : Mono strR := fun _ _ _ _ _ h => h
theorem Build.sl {α : Type} {R : World → List Value → α → Prop} {w : World} {base : Nat} {e : TypeId} {k : Nat} {v : Value} {xs : List α} (h : Build w base e k v R xs) : ∃ a c, v = .slice a xs.length c := by
  obtain ⟨us, h1, h2, h3, h4⟩ := h
  rcases h3.2 with ⟨rfl, hn⟩ | ⟨g, cap, cur, rfl, -⟩
  · exact ⟨none, 0, by rw [hn]⟩
  · exact ⟨_, _, rfl⟩

end Go.Proofs.YtjihfabhgcfjnaaGreatDoor
/- Contract of package temperament at a right temperament: Text. Printed by gen/tmpv.py. -/
namespace Go.Proofs.YtjihfabhgcfjnaaGreatDoor
set_option linter.unusedVariables false
set_option linter.unusedSimpArgs false
open Go.RowKit

end Go.Proofs.YtjihfabhgcfjnaaGreatDoor
/- Contracts of the reference's EqualRows and Equal (chapter 06). -/
namespace Go.Proofs.YtjihfabhgcfjnaaGreatDoor
set_option linter.unusedVariables false
set_option linter.unusedSimpArgs false
open Go.RowKit

end Go.Proofs.YtjihfabhgcfjnaaGreatDoor
/- Law 18: same, meantone, Fits, known. Printed by gen/tmpn.py. -/
namespace Go.Proofs.YtjihfabhgcfjnaaGreatDoor
set_option linter.unusedVariables false
set_option linter.unusedSimpArgs false
open Go.RowKit

end Go.Proofs.YtjihfabhgcfjnaaGreatDoor
/- Law 18: known. Printed by gen/tmpo.py. -/
namespace Go.Proofs.YtjihfabhgcfjnaaGreatDoor
set_option linter.unusedVariables false
set_option linter.unusedSimpArgs false
open Go.RowKit

end Go.Proofs.YtjihfabhgcfjnaaGreatDoor
/- Law 18, plain: the temperament of a plan; what its functions answer. -/
namespace Go.Proofs.YtjihfabhgcfjnaaGreatDoor
set_option linter.unusedVariables false
set_option linter.unusedSimpArgs false
open Go.RowKit

end Go.Proofs.YtjihfabhgcfjnaaGreatDoor
