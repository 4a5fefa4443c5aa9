/- Merged: GrowO. -/
import Derived.Test.YtehknemdfbkimaaGreatDoorQBO
/- The columns of the reference's Hermite form: what holds between the rounds, and behind a column. -/
namespace Go.Proofs.YtehknemdfbkimaaGreatDoor
set_option linter.unusedVariables false
set_option linter.unusedSimpArgs false
open Go.RowKit

/-- Between the rounds of a column. -/
structure RdI (n c d M : Nat) (m mr : List (List Int)) : Prop where
  len : mr.length = m.length
  wid : Wid n mr
  sp : SpEq n (RowsFrom d m) (RowsFrom d mr)
  top : ∀ i, i < d → rowE_ mr i = rowE_ m i
  low : Low d M mr
  dm : Dm c M (RowsFrom d mr)
theorem low_rows {d M : Nat} {m : List (List Int)} (h : Low d M m) : ∀ r, RowsFrom d m r → RowLe M r := by rintro r ⟨i, h1, h2, rfl⟩; exact h i h1 h2
theorem RdI.start {n c d Y : Nat} {m : List (List Int)} (hw : Wid n m) (hl : Low d Y m) (hY : 1 ≤ Y) : RdI n c d (2 * Y * Y) m m := by
  have h1 : Y ≤ 2 * Y * Y := by
    have := Nat.mul_le_mul (Nat.le_refl (2 * Y)) hY
    omega
  refine ⟨rfl, hw, SpEq.refl _ _, fun _ _ => rfl, fun i a b => (hl i a b).mono h1, dm_init (fun r hr => ?_) (low_rows hl)⟩
  have := (low_rows hl r hr).getD c
  unfold na; omega
/-- In the last column. -/
theorem RdI.last {n c d Y : Nat} {m : List (List Int)} (hw : Wid n m) (hl : Low d Y m) (hc : c + 1 = n) (hz : ∀ i, d ≤ i → i < m.length → ∀ c', c' < c → getE m i c' = 0) : RdI n c d Y m m := by
  have hj : ∀ r, RowsFrom d m r → ∀ j, j ≠ c → r.getD j 0 = 0 := by
    rintro r ⟨i, h1, h2, rfl⟩ j hj
    by_cases h : j < c
    · exact hz i h1 h2 j h
    · have := hw i h2
      rw [List.getD_eq_getElem?_getD, List.getElem?_eq_none (by omega)]; rfl
  refine ⟨rfl, hw, SpEq.refl _ _, fun _ _ => rfl, hl, fun P r s hP hr hs aP ar as' hm j => ?_⟩
  by_cases h : j = c
  · subst h
    have e : ∀ x : List Int, nx j x j = na j x := fun x => sgI_abs _
    rw [e, e, e]; omega
  · have e : ∀ x, RowsFrom d m x → nx c x j = 0 := fun x hx => by unfold nx; rw [hj x hx j h, Int.mul_zero]
    rw [e r hr, e s hs, e P hP]
    simp only [Int.sub_self, Int.mul_zero, Int.zero_mul]
    omega
theorem rowsFrom_swap {d a : Nat} {m : List (List Int)} (hd : d < m.length) (ha : a < m.length) (hda : d ≤ a) (r : List Int) : RowsFrom d (swapL m d a) r ↔ RowsFrom d m r := by
  have hr := rowE_swap hd ha
  have hl := swapL_len m d a
  constructor
  · rintro ⟨i, h1, h2, rfl⟩
    rw [hr]
    by_cases e1 : i = a
    · rw [if_pos e1]; exact rowsFrom_mem (Nat.le_refl _) hd
    · rw [if_neg e1]
      by_cases e2 : i = d
      · rw [if_pos e2]; exact rowsFrom_mem hda ha
      · rw [if_neg e2]; exact rowsFrom_mem h1 (by omega)
  · rintro ⟨i, h1, h2, rfl⟩
    by_cases e1 : i = a
    · exact ⟨d, Nat.le_refl _, by omega, by
        rw [hr, e1]
        by_cases e2 : d = a
        · rw [if_pos e2, e2]
        · rw [if_neg e2, if_pos rfl]⟩
    · by_cases e2 : i = d
      · exact ⟨a, hda, by omega, by rw [hr, if_pos rfl, e2]⟩
      · exact ⟨i, h1, by omega, by rw [hr, if_neg e1, if_neg e2]⟩
theorem RdI.swap {n c d M a : Nat} {m mr : List (List Int)} (h : RdI n c d M m mr) (hd : d < mr.length) (ha : a < mr.length) (hda : d ≤ a) : RdI n c d M m (swapL mr d a) := by
  have hr := rowE_swap hd ha
  have hl := swapL_len mr d a
  have hrf := rowsFrom_swap hd ha hda
  refine ⟨hl.trans h.len, fun i hi => ?_, h.sp.trans (swap_sp hd ha hda), fun i hi => ?_, fun i h1 h2 => ?_, h.dm.mono (fun r hr => (hrf r).1 hr) (fun r hr => (hrf r).2 hr)⟩
  · rw [hr]; split
    · exact h.wid d hd
    · split
      · exact h.wid a ha
      · exact h.wid i (by omega)
  · rw [hr, if_neg (by omega), if_neg (by omega)]; exact h.top i hi
  · exact low_rows h.low _ ((hrf _).1 (rowsFrom_mem h1 h2))
/-- The rows behind the pivot's, as far as i. -/
def DnP (c d : Nat) (ms : List (List Int)) (i : Nat) (mj : List (List Int)) : Prop :=
  mj.length = ms.length ∧ (∀ k, d < k → k < i → rowE_ mj k = subR c (rowE_ ms d) (rowE_ ms k)) ∧ ∀ k, (k ≤ d ∨ i ≤ k) → rowE_ mj k = rowE_ ms k
theorem DnP.step {c d i : Nat} {ms mj : List (List Int)} (h : DnP c d ms i mj) (hdi : d < i) (hi : i < ms.length) : DnP c d ms (i + 1) (mj.set i (lessL ((getE mj i c).tdiv (getE mj d c)) (rowE_ mj i) (rowE_ mj d))) := by
  obtain ⟨h1, h2, h3⟩ := h
  have e1 := h3 i (.inr (Nat.le_refl _))
  have e2 := h3 d (.inl (Nat.le_refl _))
  have e3 : getE mj i c = (rowE_ ms i).getD c 0 := by unfold getE; rw [e1]
  have e4 : getE mj d c = (rowE_ ms d).getD c 0 := by unfold getE; rw [e2]
  refine ⟨by rw [List.length_set]; exact h1, fun k hk hk2 => ?_, fun k hk => ?_⟩
  · rw [rowE_set (by omega)]
    by_cases he : k = i
    · rw [if_pos he, e1, e2, e3, e4, he]; rfl
    · rw [if_neg he]; exact h2 k hk (by omega)
  · rw [rowE_set (by omega), if_neg (by omega)]; exact h3 k (by omega)
theorem subR_len {c : Nat} {P r : List Int} : (subR c P r).length = r.length := by unfold subR; rw [lessL_len]
/-- The bound of a row's step. -/
theorem subR_le {n c d M : Nat} {m mr : List (List Int)} (h : RdI n c d M m mr) (hd : d < mr.length) (hal : getE mr d c ≠ 0) (hm : ∀ i, d ≤ i → i < mr.length → getE mr i c ≠ 0 → (getE mr d c).natAbs ≤ (getE mr i c).natAbs) {i : Nat} (h1 : d ≤ i) (h2 : i < mr.length) :
    RowLe M (subR c (rowE_ mr d) (rowE_ mr i)) := by
  have := dm_round (T := fun r' => r' = rowE_ mr d ∨ ∃ r, RowsFrom d mr r ∧ r' = subR c (rowE_ mr d) r) (rowsFrom_len h.wid) (rowsFrom_mem (Nat.le_refl _) hd) hal (by
    rintro t ⟨k, k1, k2, rfl⟩ ht
    have := hm k k1 k2 ht
    unfold na; unfold getE at this; omega) h.dm (low_rows h.low) (fun r' hr => hr) (.inl rfl)
  exact this.2 _ (.inr ⟨_, rowsFrom_mem h1 h2, rfl⟩)
theorem less_in {n c d M : Nat} {m mr : List (List Int)} (h : RdI n c d M m mr) (hd : d < mr.length) (hal : getE mr d c ≠ 0) (hm : ∀ i, d ≤ i → i < mr.length → getE mr i c ≠ 0 → (getE mr d c).natAbs ≤ (getE mr i c).natAbs) (hM : M ≤ 4000000000000000000) {i : Nat} (h1 : d ≤ i) (h2 : i < mr.length) (j : Nat) :
    In64 ((getE mr i c).tdiv (getE mr d c) * getE mr d j) ∧ In64 (getE mr i j - (getE mr i c).tdiv (getE mr d c) * getE mr d j) := by
  have e1 := (subR_le h hd hal hm h1 h2).getD j
  have e2 := (h.low i h1 h2).getD j
  have hl : (rowE_ mr d).length = (rowE_ mr i).length := by rw [h.wid d hd, h.wid i h2]
  have e3 : (subR c (rowE_ mr d) (rowE_ mr i)).getD j 0 = getE mr i j - (getE mr i c).tdiv (getE mr d c) * getE mr d j := by unfold subR; rw [lessL_getD _ hl]; rfl
  rw [e3] at e1
  have e4 : (getE mr i j).natAbs ≤ M := e2
  unfold In64
  omega
theorem RdI.down {n c d M : Nat} {m ms mj : List (List Int)} (h : RdI n c d M m ms) (hd : d < ms.length) (hal : getE ms d c ≠ 0) (hm : ∀ i, d ≤ i → i < ms.length → getE ms i c ≠ 0 → (getE ms d c).natAbs ≤ (getE ms i c).natAbs) (hj : DnP c d ms ms.length mj) : RdI n c d M m mj := by
  obtain ⟨j1, j2, j3⟩ := hj
  have hrow : ∀ i, d ≤ i → i < ms.length → rowE_ mj i = rowE_ ms i ∧ i = d ∨ rowE_ mj i = subR c (rowE_ ms d) (rowE_ ms i) := fun i h1 h2 => by
    by_cases he : i = d
    · exact .inl ⟨j3 i (.inl (by omega)), he⟩
    · exact .inr (j2 i (by omega) h2)
  have hT : ∀ r', RowsFrom d mj r' → r' = rowE_ ms d ∨ ∃ r, RowsFrom d ms r ∧ r' = subR c (rowE_ ms d) r := by
    rintro r' ⟨i, h1, h2, rfl⟩
    rcases hrow i h1 (by omega) with ⟨e, e2⟩ | e
    · exact .inl (by rw [e, e2])
    · exact .inr ⟨_, rowsFrom_mem h1 (by omega), e⟩
  have hTP : RowsFrom d mj (rowE_ ms d) := ⟨d, Nat.le_refl _, by omega, j3 d (.inl (Nat.le_refl _))⟩
  have hmm : ∀ t, RowsFrom d ms t → al c t → na c (rowE_ ms d) ≤ na c t := by
    rintro t ⟨k, k1, k2, rfl⟩ ht
    have := hm k k1 k2 ht
    unfold na; unfold getE at this; omega
  obtain ⟨g1, g2⟩ := dm_round (rowsFrom_len h.wid) (rowsFrom_mem (Nat.le_refl _) hd) hal hmm h.dm (low_rows h.low) hT hTP
  refine ⟨j1.trans h.len, fun i hi => ?_, h.sp.trans ⟨?_, ?_⟩, fun i hi => by rw [j3 i (.inl (by omega))]; exact h.top i hi, fun i h1 h2 => g2 _ (rowsFrom_mem h1 h2), g1⟩
  · by_cases hid : d ≤ i
    · rcases hrow i hid (by omega) with ⟨e, -⟩ | e
      · rw [e]; exact h.wid i (by omega)
      · rw [e, subR_len]; exact h.wid i (by omega)
    · rw [j3 i (.inl (by omega))]; exact h.wid i (by omega)
  · rintro r ⟨i, h1, h2, rfl⟩
    rcases hrow i h1 h2 with ⟨e, -⟩ | e
    · rw [← e]; exact .mem (rowsFrom_mem h1 (by omega))
    · have e3 := lessL_back (((rowE_ ms i).getD c 0).tdiv ((rowE_ ms d).getD c 0)) (rowE_ ms i) (rowE_ ms d)
      have e4 : lessL (((rowE_ ms i).getD c 0).tdiv ((rowE_ ms d).getD c 0)) (rowE_ ms i) (rowE_ ms d) = rowE_ mj i := by rw [e]; rfl
      rw [e4] at e3
      rw [← e3]
      exact .less _ (.mem (rowsFrom_mem h1 (by omega))) (.mem hTP)
  · rintro r ⟨i, h1, h2, rfl⟩
    rcases hrow i h1 (by omega) with ⟨e, -⟩ | e
    · rw [e]; exact .mem (rowsFrom_mem h1 (by omega))
    · rw [e]; exact .less _ (.mem (rowsFrom_mem h1 (by omega))) (.mem (rowsFrom_mem (Nat.le_refl _) hd))
/-- The end of a column. -/
theorem RdI.finish {n c d M U : Nat} {m ms m' : List (List Int)} (h : RdI n c d M m ms) (hd : d < ms.length) (hp : getE ms d c ≠ 0) (hz : ∀ i, d < i → i < ms.length → getE ms i c = 0) (hP : PivR c d ms m') (hU : Upp d U m) : SwR n d c M U m m' ∧ SwK n d m m' := by
  have hpos : 0 < getE m' d c := by
    show 0 < (rowE_ m' d).getD c 0
    rw [hP.row]
    by_cases hn : getE ms d c < 0
    · rw [if_pos hn, negL_getD]; have : (rowE_ ms d).getD c 0 < 0 := hn; omega
    · rw [if_neg hn]; have : ¬ (rowE_ ms d).getD c 0 < 0 := hn; have : (rowE_ ms d).getD c 0 ≠ 0 := hp; omega
  have hwd : (rowE_ m' d).length = n := by
    rw [hP.row]; split
    · unfold negL; rw [List.length_map]; exact h.wid d hd
    · exact h.wid d hd
  have hld : RowLe M (rowE_ m' d) := by
    rw [hP.row]; split
    · exact negL_le (h.low d (Nat.le_refl _) hd)
    · exact h.low d (Nat.le_refl _) hd
  have hw' : Wid n m' := fun i hi => by
    rcases Nat.lt_trichotomy i d with h1 | h1 | h1
    · rw [hP.above i h1, lessL_len]; exact h.wid i (by omega)
    · rw [h1]; exact hwd
    · rw [hP.below i h1]; exact h.wid i (by have := hP.len; omega)
  have hUs : ∀ i, i < d → RowLe U (rowE_ ms i) := fun i hi => by rw [h.top i hi]; exact hU i hi (by have := h.len; omega)
  have hnn : ∀ r : List Int, negL (negL r) = r := fun r => by
    unfold negL; rw [List.map_map]
    have : ((fun x : Int => -x) ∘ fun x : Int => -x) = id := by funext x; simp
    rw [this, List.map_id]
  constructor
  · refine ⟨hP.len.trans h.len, hw', fun i h1 h2 => ?_, fun i h1 h2 => ?_, hpos, fun i h1 h2 => ?_, fun i h1 => ?_⟩
    · by_cases he : i = d
      · rw [he]; exact hld
      · rw [hP.below i (by omega)]; exact h.low i h1 (by have := hP.len; omega)
    · rw [hP.above i h1]
      have hx : (getE ms i c).natAbs ≤ U := (hUs i h1).getD c
      exact (lessL_le _ _ _ (hUs i h1) hld).mono (Nat.add_le_add_left (Nat.mul_le_mul_right _ (Nat.le_trans (fdq_bd _ _) (by omega))) _)
    · show (rowE_ m' i).getD c 0 = 0
      rw [hP.below i h1]; exact hz i h1 (by have := h.len; omega)
    · have hg : getE m' i c = fdr (getE ms i c) (getE m' d c) := by
        show (rowE_ m' i).getD c 0 = _
        rw [hP.above i h1, lessL_getD _ (by rw [hwd, h.wid i (by omega)])]
        have h5 := fd_eq (getE ms i c) (getE m' d c)
        show getE ms i c - fdq (getE ms i c) (getE m' d c) * getE m' d c = _
        rw [Int.mul_comm]; omega
      rw [hg]
      exact fdr_pos _ _ hpos
  · refine ⟨hP.len.trans h.len, hw', h.sp.trans ⟨?_, ?_⟩, fun i hi => ⟨_, by rw [hP.above i hi, h.top i hi]⟩⟩
    · rintro r ⟨i, h1, h2, rfl⟩
      by_cases he : i = d
      · have h3 : RowsFrom d m' (rowE_ m' d) := rowsFrom_mem (Nat.le_refl _) (by have := hP.len; omega)
        rw [he]
        by_cases hn : getE ms d c < 0
        · have e := hP.row; rw [if_pos hn] at e
          rw [← hnn (rowE_ ms d), ← e]
          exact (Sp.mem h3).neg hwd
        · have e := hP.row; rw [if_neg hn] at e
          rw [← e]; exact .mem h3
      · rw [← hP.below i (by omega)]; exact .mem (rowsFrom_mem h1 (by have := hP.len; omega))
    · rintro r ⟨i, h1, h2, rfl⟩
      by_cases he : i = d
      · rw [he, hP.row]
        split
        · exact (Sp.mem (rowsFrom_mem (Nat.le_refl _) hd)).neg (h.wid d hd)
        · exact .mem (rowsFrom_mem (Nat.le_refl _) hd)
      · rw [hP.below i (by omega)]; exact .mem (rowsFrom_mem h1 (by have := hP.len; omega))
end Go.Proofs.YtehknemdfbkimaaGreatDoor
