/- Merged: GrowH. -/
import Derived.Test.YtehknemdfbkimaaGreatDoorQAK
import Derived.Test.YtehknemdfbkimaaGreatDoorQAN
/- Rows reduced by a Hermite form: the classes of a lattice. No program is named here. -/
namespace Go.Proofs.YtehknemdfbkimaaGreatDoor
set_option linter.unusedVariables false
set_option linter.unusedSimpArgs false
open Go.RowKit

theorem first_at {r : List Int} {p : Nat} (hz : ∀ c, c < p → r.getD c 0 = 0) (hp : r.getD p 0 ≠ 0) : r.findIdx? (· != 0) = some p := by
  have hl : p < r.length := by
    rcases Nat.lt_or_ge p r.length with h | h
    · exact h
    · exact absurd (by rw [List.getD_eq_getElem?_getD, List.getElem?_eq_none h]; rfl) hp
  rw [List.findIdx?_eq_some_iff_getElem]
  refine ⟨hl, ?_, fun j hj => ?_⟩
  · rw [List.getD_eq_getElem?_getD, List.getElem?_eq_getElem hl] at hp
    simpa using hp
  · have := hz j hj
    rw [List.getD_eq_getElem?_getD, List.getElem?_eq_getElem (by omega)] at this
    simpa using this
theorem hform_first {n : Nat} {R : List (List Int)} {ps : Nat → Nat} (hR : HForm n R ps) {i : Nat} (hi : i < R.length) : (rowE_ R i).findIdx? (· != 0) = some (ps i) :=
  first_at (fun c hc => hR.2.zero i hi c hc) (Int.ne_of_gt (hR.2.pos i hi))
theorem hform_idx {n : Nat} {R : List (List Int)} {ps : Nat → Nat} (hR : HForm n R ps) {i : Nat} (hi : i < R.length) : idxZ (rowE_ R i) = (ps i : Int) := by
  unfold idxZ idxRow; rw [hform_first hR hi]
theorem hform_lead {n : Nat} {R : List (List Int)} {ps : Nat → Nat} (hR : HForm n R ps) {i : Nat} (hi : i < R.length) : leadL (rowE_ R i) = (ps i : Int) := by
  unfold leadL; rw [hform_first hR hi]
theorem hform_herm {n : Nat} {R : List (List Int)} {ps : Nat → Nat} (hR : HForm n R ps) : hermB R = true := by
  unfold hermB
  rw [List.all_eq_true]
  intro i hi
  rw [List.mem_range] at hi
  have e : R.getD i [] = rowE_ R i := rfl
  have e1 := hform_idx hR hi
  unfold okAt
  rw [e, e1]
  have hb : beforeI R i < (ps i : Int) := by
    unfold beforeI
    split
    · omega
    · rename_i h0
      have e2 : idxZ (R.getD (i - 1) []) = (ps (i - 1) : Int) := hform_idx hR (i := i - 1) (by omega)
      rw [e2]
      have := hR.2.mono (i - 1) i (by omega) hi
      omega
  have hp : 0 ≤ (rowE_ R i).getD ((ps i : Int)).toNat 0 := Int.le_of_lt (hR.2.pos i hi)
  have hn : (R.take i).any (badAt ((ps i : Int)).toNat (rowE_ R i)) = false := by
    rw [List.any_eq_false]
    intro x hx
    obtain ⟨j, hj⟩ := List.getElem?_of_mem hx
    have hjl := (List.getElem?_eq_some_iff.1 hj).1
    rw [List.length_take] at hjl
    have hxj : rowE_ R j = x := by rw [← rowE_take (d := i) (by omega)]; exact rowE_of hj
    have hr := hR.2.red j i (by omega) hi
    unfold badAt
    rw [← hxj]
    have h1 : ¬ (rowE_ R j).getD ((ps i : Int)).toNat 0 < 0 := Int.not_lt.2 hr.1
    have h2 : ¬ (rowE_ R i).getD ((ps i : Int)).toNat 0 ≤ (rowE_ R j).getD ((ps i : Int)).toNat 0 := Int.not_le.2 hr.2
    rw [decide_eq_false h1, decide_eq_false h2]
    simp
  rw [decide_eq_true hb, decide_eq_true hp, hn]
  rfl

theorem ext_getD {r s : List Int} (hl : r.length = s.length) (h : ∀ c, r.getD c 0 = s.getD c 0) : r = s := by
  apply List.ext_getElem hl
  intro i h1 h2
  have e := h i
  rw [List.getD_eq_getElem?_getD, List.getD_eq_getElem?_getD, List.getElem?_eq_getElem h1, List.getElem?_eq_getElem h2] at e
  simpa using e
theorem lessL_one {r s : List Int} (hl : s.length = r.length) (c : Nat) : (lessL 1 r s).getD c 0 = r.getD c 0 - s.getD c 0 := by
  rw [lessL_getD 1 hl, Int.one_mul]

/-- A row is reduced. -/
def RedP (R : List (List Int)) (ps : Nat → Nat) (k : Nat) (s : List Int) : Prop := ∀ j, j < k → 0 ≤ s.getD (ps j) 0 ∧ s.getD (ps j) 0 < getE R j (ps j)
theorem red_ok {n K e a : Nat} {R : List (List Int)} {ps : Nat → Nat} (hK : K ≤ 400000000) (hR : HForm n R ps) (hB : ∀ i, i < R.length → RowLe (10 ^ e) (rowE_ R i)) {v : List Int} (hv : v.length = n) (hva : RowLe (10 ^ a) v) (he : e + 1 ≤ K) :
    ∀ i, i ≤ R.length → a + i * (e + 1) + 1 ≤ K → ∃ s ms, redO R v i = some (s, ms) ∧ s.length = n ∧ RowLe (10 ^ (a + i * (e + 1))) s ∧ Sp n (RowsFrom 0 R) (lessL 1 v s) ∧ RedP R ps i s
  | 0, _, _ => ⟨v, [], rfl, hv, by simpa using hva, by rw [lessL_self, hv]; exact .zero, fun j hj => by omega⟩
  | i + 1, hi, hk => by
    have hA : a + (i + 1) * (e + 1) = a + i * (e + 1) + (e + 1) := by rw [Nat.add_mul]; omega
    rw [hA] at hk
    obtain ⟨s, ms, e1, e2, e3, e4, e5⟩ := red_ok hK hR hB hv hva he i (by omega) (by omega)
    obtain ⟨A, hAA⟩ : ∃ A, A = a + i * (e + 1) := ⟨_, rfl⟩
    rw [← hAA] at e3 hk hA
    have hil : i < R.length := by omega
    have hlead := hform_lead hR hil
    have hpc : pivC (rowE_ R i) = ps i := by unfold pivC; rw [hlead]; rfl
    have hpos := hR.2.pos i hil
    have hlt : ps i < n := hR.2.lt i hil
    have pA := pow_pos10 A
    have pe := pow_pos10 e
    have hAK : 10 ^ A < 10 ^ K := Nat.lt_of_lt_of_le (by rw [pow_one_up]; omega) (pow_mono (show A + 1 ≤ K by omega))
    have heK : 10 ^ e < 10 ^ K := Nat.lt_of_lt_of_le (by rw [pow_one_up]; omega) (pow_mono he)
    have hcond : 0 ≤ leadL (rowE_ R i) ∧ pivC (rowE_ R i) < s.length ∧ s.all smB = true ∧ (rowE_ R i).all smB = true := by
      refine ⟨by rw [hlead]; omega, by rw [hpc, e2]; exact hlt, ?_, ?_⟩
      · rw [List.all_eq_true]; exact fun x hx => smB_of (by omega) (by omega) (Nat.lt_of_le_of_lt (e3 x hx) hAK)
      · rw [List.all_eq_true]; exact fun x hx => smB_of (by omega) (by omega) (Nat.lt_of_le_of_lt (hB i hil x hx) heK)
    obtain ⟨q, hq⟩ : ∃ q, q = mulQ s (rowE_ R i) := ⟨_, rfl⟩
    have hq' : q = fdq (s.getD (ps i) 0) (getE R i (ps i)) := by rw [hq]; unfold mulQ; rw [hpc]; rfl
    have hqb : q.natAbs ≤ 10 ^ A + 1 := by
      have h1 := fdq_bd (s.getD (ps i) 0) (getE R i (ps i))
      have h2 := e3.getD (ps i)
      rw [← hq'] at h1; omega
    have hAK2 : 10 ^ A + 1 < 10 ^ K := Nat.lt_of_lt_of_le (show 10 ^ A + 1 < 10 ^ (A + 1) by rw [pow_one_up]; omega) (pow_mono (by omega))
    have hlen : (rowE_ R i).length = s.length := by rw [hR.1 i hil, e2]
    have hlo := lessO_ok (k := q) hK (by omega) hlen e3 (hB i hil) hAK heK (Nat.lt_of_le_of_lt hqb hAK2)
    have hget : ∀ c, (lessL q s (rowE_ R i)).getD c 0 = s.getD c 0 - q * getE R i c := fun c => lessL_getD q hlen c
    refine ⟨lessL q s (rowE_ R i), ms ++ [q], ?_, by rw [lessL_len]; exact e2, ?_, ?_, fun j hj => ?_⟩
    · rw [redO, e1]; simp only; rw [if_pos hcond, ← hq, hlo]
    · rw [hA]
      refine (lessL_le q _ _ e3 (hB i hil)).mono ?_
      have h1 : q.natAbs * 10 ^ e ≤ (10 ^ A + 1) * 10 ^ e := Nat.mul_le_mul_right _ hqb
      have h2 : 10 ^ (A + (e + 1)) = 10 * (10 ^ A * 10 ^ e) := by rw [← Nat.add_assoc, pow_one_up, Nat.pow_add]
      have h3 : (10 ^ A + 1) * 10 ^ e = 10 ^ A * 10 ^ e + 10 ^ e := by rw [Nat.add_mul, Nat.one_mul]
      have h4 : 10 ^ A ≤ 10 ^ A * 10 ^ e := Nat.le_mul_of_pos_right _ (by omega)
      have h5 : 10 ^ e ≤ 10 ^ A * 10 ^ e := Nat.le_mul_of_pos_left _ (by omega)
      rw [h2]; omega
    · have hx : lessL 1 v (lessL q s (rowE_ R i)) = lessL (-q) (lessL 1 v s) (rowE_ R i) := by
        refine ext_getD (by simp only [lessL_len]) fun c => ?_
        rw [lessL_one (by rw [lessL_len, e2, hv]), hget, lessL_getD (-q) (by rw [lessL_len, hlen, e2, hv]), lessL_one (by rw [e2, hv])]
        show _ = _ - -q * getE R i c
        rw [Int.neg_mul]; omega
      rw [hx]
      exact .less _ e4 (.mem (rowsFrom_mem (Nat.zero_le _) hil))
    · rw [hget]
      by_cases hji : j = i
      · rw [hji]
        have h1 := fd_eq (s.getD (ps i) 0) (getE R i (ps i))
        have h2 := fdr_pos (s.getD (ps i) 0) (getE R i (ps i)) hpos
        rw [hq', Int.mul_comm]
        omega
      · rw [hR.2.zero i hil (ps j) (hR.2.mono j i (by omega) hil), Int.mul_zero, Int.sub_zero]
        exact e5 j (by omega)

/-- Two rows have the same representative exactly if their difference belongs to the lattice. -/
theorem red_same {n : Nat} {R : List (List Int)} {ps : Nat → Nat} (hR : HForm n R ps) {v w s t : List Int} (hv : v.length = n) (hw : w.length = n) (hs : s.length = n) (ht : t.length = n) (h1 : Sp n (RowsFrom 0 R) (lessL 1 v s)) (h2 : Sp n (RowsFrom 0 R) (lessL 1 w t)) (r1 : RedP R ps R.length s) (r2 : RedP R ps R.length t) :
    s = t ↔ Sp n (RowsFrom 0 R) (lessL 1 v w) := by
  constructor
  · rintro rfl
    have := Sp.less 1 h1 h2
    rw [← lessL_swap 1 1 1 v w s (by rw [hv, hs]) (by rw [hw, hs])] at this
    rw [show (1 : Int) - 1 * 1 = 0 by decide, lessL_zero] at this
    exact this
  · intro h
    have h3 : Sp n (RowsFrom 0 R) (lessL (-1) (lessL 1 (lessL 1 v w) (lessL 1 v s)) (lessL 1 w t)) := .less _ (.less 1 h h1) h2
    have hx : lessL (-1) (lessL 1 (lessL 1 v w) (lessL 1 v s)) (lessL 1 w t) = lessL 1 s t := by
      refine ext_getD (by simp only [lessL_len]; rw [hv, hs]) fun c => ?_
      rw [lessL_getD (-1) (by simp only [lessL_len]; rw [hw, hv]), lessL_one (by simp only [lessL_len]), lessL_one (by rw [hv, hw]), lessL_one (by rw [hv, hs]), lessL_one (by rw [hw, ht]), lessL_one (by rw [hs, ht])]
      omega
    rw [hx] at h3
    refine lessL_one_zero (by rw [hs, ht]) ?_
    rw [hs]
    refine Sp.small hR _ 0 rfl h3 fun j _ hj => ?_
    rw [lessL_one (by rw [hs, ht])]
    have a1 := r1 j hj
    have a2 := r2 j hj
    omega
theorem lessL_zero_right (n : Nat) {v : List Int} (hv : v.length = n) : lessL 1 v (List.replicate n 0) = v := by
  refine ext_getD (lessL_len _ _ _) fun c => ?_
  rw [lessL_one (by simp [hv])]
  have : (List.replicate n (0 : Int)).getD c 0 = 0 := (Sp.zero (n := n) (S := fun _ => False)).zeroCol (fun _ h => h.elim) (fun _ h => h.elim)
  rw [this]; omega
/-- A row belongs to the lattice exactly if its representative is 0. -/
theorem red_zero {n : Nat} {R : List (List Int)} {ps : Nat → Nat} (hR : HForm n R ps) {v s : List Int} (hv : v.length = n) (hs : s.length = n) (h1 : Sp n (RowsFrom 0 R) (lessL 1 v s)) (r1 : RedP R ps R.length s) :
    s = List.replicate n 0 ↔ Sp n (RowsFrom 0 R) v := by
  have h2 : Sp n (RowsFrom 0 R) (lessL 1 (List.replicate n 0) (List.replicate n 0)) := .less 1 .zero .zero
  have r2 : RedP R ps R.length (List.replicate n 0) := fun j hj => by
    have : (List.replicate n (0 : Int)).getD (ps j) 0 = 0 := (Sp.zero (n := n) (S := fun _ => False)).zeroCol (fun _ h => h.elim) (fun _ h => h.elim)
    rw [this]; exact ⟨Int.le_refl _, hR.2.pos j hj⟩
  rw [red_same hR hv (by simp) hs (by simp) h1 h2 r1 r2, lessL_zero_right n hv]
end Go.Proofs.YtehknemdfbkimaaGreatDoor
