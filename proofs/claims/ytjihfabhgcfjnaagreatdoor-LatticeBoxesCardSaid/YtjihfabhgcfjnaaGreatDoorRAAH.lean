/- Merged: GrowO, GrowP. -/
import Derived.Test.YtjihfabhgcfjnaaGreatDoorRAAG
/- The columns of the reference's Hermite form: what holds between the rounds, and behind a column. -/
namespace Go.Proofs.YtjihfabhgcfjnaaGreatDoor
set_option linter.unusedVariables false
set_option linter.unusedSimpArgs false
open Go.RowKit

/-- Between the rounds of a column. -/
structure RdI (n c d M : Nat) (m mr : List (List Int)) : Prop where
  len : mr.length = m.length
  wid : Wid n mr
  sp : SpEq n (RowsFrom d m) (RowsFrom d mr)
  top : ∀ i, i < d → rowE_ mr i = rowE_ m i
  low : Low d M mr
  dm : Dm c M (RowsFrom d mr)
theorem low_rows {d M : Nat} {m : List (List Int)} (h : Low d M m) : ∀ r, RowsFrom d m r → RowLe M r := by rintro r ⟨i, h1, h2, rfl⟩; exact h i h1 h2
theorem RdI.start {n c d Y : Nat} {m : List (List Int)} (hw : Wid n m) (hl : Low d Y m) (hY : 1 ≤ Y) : RdI n c d (2 * Y * Y) m m := by
  have h1 : Y ≤ 2 * Y * Y := by
    have := Nat.mul_le_mul (Nat.le_refl (2 * Y)) hY
    omega
  refine ⟨rfl, hw, SpEq.refl _ _, fun _ _ => rfl, fun i a b => (hl i a b).mono h1, dm_init (fun r hr => ?_) (low_rows hl)⟩
  have := (low_rows hl r hr).getD c
  unfold na; omega
/-- In the last column. -/
theorem RdI.last {n c d Y : Nat} {m : List (List Int)} (hw : Wid n m) (hl : Low d Y m) (hc : c + 1 = n) (hz : ∀ i, d ≤ i → i < m.length → ∀ c', c' < c → getE m i c' = 0) : RdI n c d Y m m := by
  have hj : ∀ r, RowsFrom d m r → ∀ j, j ≠ c → r.getD j 0 = 0 := by
    rintro r ⟨i, h1, h2, rfl⟩ j hj
    by_cases h : j < c
    · exact hz i h1 h2 j h
    · have := hw i h2
      rw [List.getD_eq_getElem?_getD, List.getElem?_eq_none (by omega)]; rfl
  refine ⟨rfl, hw, SpEq.refl _ _, fun _ _ => rfl, hl, fun P r s hP hr hs aP ar as' hm j => ?_⟩
  by_cases h : j = c
  · subst h
    have e : ∀ x : List Int, nx j x j = na j x := fun x => sgI_abs _
    rw [e, e, e]; omega
  · have e : ∀ x, RowsFrom d m x → nx c x j = 0 := fun x hx => by unfold nx; rw [hj x hx j h, Int.mul_zero]
    rw [e r hr, e s hs, e P hP]
    simp only [Int.sub_self, Int.mul_zero, Int.zero_mul]
    omega
theorem rowsFrom_swap {d a : Nat} {m : List (List Int)} (hd : d < m.length) (ha : a < m.length) (hda : d ≤ a) (r : List Int) : RowsFrom d (swapL m d a) r ↔ RowsFrom d m r := by
  have hr := rowE_swap hd ha
  have hl := swapL_len m d a
  constructor
  · rintro ⟨i, h1, h2, rfl⟩
    rw [hr]
    by_cases e1 : i = a
    · rw [if_pos e1]; exact rowsFrom_mem (Nat.le_refl _) hd
    · rw [if_neg e1]
      by_cases e2 : i = d
      · rw [if_pos e2]; exact rowsFrom_mem hda ha
      · rw [if_neg e2]; exact rowsFrom_mem h1 (by omega)
  · rintro ⟨i, h1, h2, rfl⟩
    by_cases e1 : i = a
    · exact ⟨d, Nat.le_refl _, by omega, by
        rw [hr, e1]
        by_cases e2 : d = a
        · rw [if_pos e2, e2]
        · rw [if_neg e2, if_pos rfl]⟩
    · by_cases e2 : i = d
      · exact ⟨a, hda, by omega, by rw [hr, if_pos rfl, e2]⟩
      · exact ⟨i, h1, by omega, by rw [hr, if_neg e1, if_neg e2]⟩
theorem RdI.swap {n c d M a : Nat} {m mr : List (List Int)} (h : RdI n c d M m mr) (hd : d < mr.length) (ha : a < mr.length) (hda : d ≤ a) : RdI n c d M m (swapL mr d a) := by
  have hr := rowE_swap hd ha
  have hl := swapL_len mr d a
  have hrf := rowsFrom_swap hd ha hda
  refine ⟨hl.trans h.len, fun i hi => ?_, h.sp.trans (swap_sp hd ha hda), fun i hi => ?_, fun i h1 h2 => ?_, h.dm.mono (fun r hr => (hrf r).1 hr) (fun r hr => (hrf r).2 hr)⟩
  · rw [hr]; split
    · exact h.wid d hd
    · split
      · exact h.wid a ha
      · exact h.wid i (by omega)
  · rw [hr, if_neg (by omega), if_neg (by omega)]; exact h.top i hi
  · exact low_rows h.low _ ((hrf _).1 (rowsFrom_mem h1 h2))
/-- The rows behind the pivot's, as far as i. -/
def DnP (c d : Nat) (ms : List (List Int)) (i : Nat) (mj : List (List Int)) : Prop :=
  mj.length = ms.length ∧ (∀ k, d < k → k < i → rowE_ mj k = subR c (rowE_ ms d) (rowE_ ms k)) ∧ ∀ k, (k ≤ d ∨ i ≤ k) → rowE_ mj k = rowE_ ms k
theorem DnP.step {c d i : Nat} {ms mj : List (List Int)} (h : DnP c d ms i mj) (hdi : d < i) (hi : i < ms.length) : DnP c d ms (i + 1) (mj.set i (lessL ((getE mj i c).tdiv (getE mj d c)) (rowE_ mj i) (rowE_ mj d))) := by
  obtain ⟨h1, h2, h3⟩ := h
  have e1 := h3 i (.inr (Nat.le_refl _))
  have e2 := h3 d (.inl (Nat.le_refl _))
  have e3 : getE mj i c = (rowE_ ms i).getD c 0 := by unfold getE; rw [e1]
  have e4 : getE mj d c = (rowE_ ms d).getD c 0 := by unfold getE; rw [e2]
  refine ⟨by rw [List.length_set]; exact h1, fun k hk hk2 => ?_, fun k hk => ?_⟩
  · rw [rowE_set (by omega)]
    by_cases he : k = i
    · rw [if_pos he, e1, e2, e3, e4, he]; rfl
    · rw [if_neg he]; exact h2 k hk (by omega)
  · rw [rowE_set (by omega), if_neg (by omega)]; exact h3 k (by omega)
theorem subR_len {c : Nat} {P r : List Int} : (subR c P r).length = r.length := by unfold subR; rw [lessL_len]
/-- The bound of a row's step. -/
theorem subR_le {n c d M : Nat} {m mr : List (List Int)} (h : RdI n c d M m mr) (hd : d < mr.length) (hal : getE mr d c ≠ 0) (hm : ∀ i, d ≤ i → i < mr.length → getE mr i c ≠ 0 → (getE mr d c).natAbs ≤ (getE mr i c).natAbs) {i : Nat} (h1 : d ≤ i) (h2 : i < mr.length) :
    RowLe M (subR c (rowE_ mr d) (rowE_ mr i)) := by
  have := dm_round (T := fun r' => r' = rowE_ mr d ∨ ∃ r, RowsFrom d mr r ∧ r' = subR c (rowE_ mr d) r) (rowsFrom_len h.wid) (rowsFrom_mem (Nat.le_refl _) hd) hal (by
    rintro t ⟨k, k1, k2, rfl⟩ ht
    have := hm k k1 k2 ht
    unfold na; unfold getE at this; omega) h.dm (low_rows h.low) (fun r' hr => hr) (.inl rfl)
  exact this.2 _ (.inr ⟨_, rowsFrom_mem h1 h2, rfl⟩)
theorem less_in {n c d M : Nat} {m mr : List (List Int)} (h : RdI n c d M m mr) (hd : d < mr.length) (hal : getE mr d c ≠ 0) (hm : ∀ i, d ≤ i → i < mr.length → getE mr i c ≠ 0 → (getE mr d c).natAbs ≤ (getE mr i c).natAbs) (hM : M ≤ 4000000000000000000) {i : Nat} (h1 : d ≤ i) (h2 : i < mr.length) (j : Nat) :
    In64 ((getE mr i c).tdiv (getE mr d c) * getE mr d j) ∧ In64 (getE mr i j - (getE mr i c).tdiv (getE mr d c) * getE mr d j) := by
  have e1 := (subR_le h hd hal hm h1 h2).getD j
  have e2 := (h.low i h1 h2).getD j
  have hl : (rowE_ mr d).length = (rowE_ mr i).length := by rw [h.wid d hd, h.wid i h2]
  have e3 : (subR c (rowE_ mr d) (rowE_ mr i)).getD j 0 = getE mr i j - (getE mr i c).tdiv (getE mr d c) * getE mr d j := by unfold subR; rw [lessL_getD _ hl]; rfl
  rw [e3] at e1
  have e4 : (getE mr i j).natAbs ≤ M := e2
  unfold In64
  omega
theorem RdI.down {n c d M : Nat} {m ms mj : List (List Int)} (h : RdI n c d M m ms) (hd : d < ms.length) (hal : getE ms d c ≠ 0) (hm : ∀ i, d ≤ i → i < ms.length → getE ms i c ≠ 0 → (getE ms d c).natAbs ≤ (getE ms i c).natAbs) (hj : DnP c d ms ms.length mj) : RdI n c d M m mj := by
  obtain ⟨j1, j2, j3⟩ := hj
  have hrow : ∀ i, d ≤ i → i < ms.length → rowE_ mj i = rowE_ ms i ∧ i = d ∨ rowE_ mj i = subR c (rowE_ ms d) (rowE_ ms i) := fun i h1 h2 => by
    by_cases he : i = d
    · exact .inl ⟨j3 i (.inl (by omega)), he⟩
    · exact .inr (j2 i (by omega) h2)
  have hT : ∀ r', RowsFrom d mj r' → r' = rowE_ ms d ∨ ∃ r, RowsFrom d ms r ∧ r' = subR c (rowE_ ms d) r := by
    rintro r' ⟨i, h1, h2, rfl⟩
    rcases hrow i h1 (by omega) with ⟨e, e2⟩ | e
    · exact .inl (by rw [e, e2])
    · exact .inr ⟨_, rowsFrom_mem h1 (by omega), e⟩
  have hTP : RowsFrom d mj (rowE_ ms d) := ⟨d, Nat.le_refl _, by omega, j3 d (.inl (Nat.le_refl _))⟩
  have hmm : ∀ t, RowsFrom d ms t → al c t → na c (rowE_ ms d) ≤ na c t := by
    rintro t ⟨k, k1, k2, rfl⟩ ht
    have := hm k k1 k2 ht
    unfold na; unfold getE at this; omega
  obtain ⟨g1, g2⟩ := dm_round (rowsFrom_len h.wid) (rowsFrom_mem (Nat.le_refl _) hd) hal hmm h.dm (low_rows h.low) hT hTP
  refine ⟨j1.trans h.len, fun i hi => ?_, h.sp.trans ⟨?_, ?_⟩, fun i hi => by rw [j3 i (.inl (by omega))]; exact h.top i hi, fun i h1 h2 => g2 _ (rowsFrom_mem h1 h2), g1⟩
  · by_cases hid : d ≤ i
    · rcases hrow i hid (by omega) with ⟨e, -⟩ | e
      · rw [e]; exact h.wid i (by omega)
      · rw [e, subR_len]; exact h.wid i (by omega)
    · rw [j3 i (.inl (by omega))]; exact h.wid i (by omega)
  · rintro r ⟨i, h1, h2, rfl⟩
    rcases hrow i h1 h2 with ⟨e, -⟩ | e
    · rw [← e]; exact .mem (rowsFrom_mem h1 (by omega))
    · have e3 := lessL_back (((rowE_ ms i).getD c 0).tdiv ((rowE_ ms d).getD c 0)) (rowE_ ms i) (rowE_ ms d)
      have e4 : lessL (((rowE_ ms i).getD c 0).tdiv ((rowE_ ms d).getD c 0)) (rowE_ ms i) (rowE_ ms d) = rowE_ mj i := by rw [e]; rfl
      rw [e4] at e3
      rw [← e3]
      exact .less _ (.mem (rowsFrom_mem h1 (by omega))) (.mem hTP)
  · rintro r ⟨i, h1, h2, rfl⟩
    rcases hrow i h1 (by omega) with ⟨e, -⟩ | e
    · rw [e]; exact .mem (rowsFrom_mem h1 (by omega))
    · rw [e]; exact .less _ (.mem (rowsFrom_mem h1 (by omega))) (.mem (rowsFrom_mem (Nat.le_refl _) hd))
/-- The end of a column. -/
theorem RdI.finish {n c d M U : Nat} {m ms m' : List (List Int)} (h : RdI n c d M m ms) (hd : d < ms.length) (hp : getE ms d c ≠ 0) (hz : ∀ i, d < i → i < ms.length → getE ms i c = 0) (hP : PivR c d ms m') (hU : Upp d U m) : SwR n d c M U m m' ∧ SwK n d m m' := by
  have hpos : 0 < getE m' d c := by
    show 0 < (rowE_ m' d).getD c 0
    rw [hP.row]
    by_cases hn : getE ms d c < 0
    · rw [if_pos hn, negL_getD]; have : (rowE_ ms d).getD c 0 < 0 := hn; omega
    · rw [if_neg hn]; have : ¬ (rowE_ ms d).getD c 0 < 0 := hn; have : (rowE_ ms d).getD c 0 ≠ 0 := hp; omega
  have hwd : (rowE_ m' d).length = n := by
    rw [hP.row]; split
    · unfold negL; rw [List.length_map]; exact h.wid d hd
    · exact h.wid d hd
  have hld : RowLe M (rowE_ m' d) := by
    rw [hP.row]; split
    · exact negL_le (h.low d (Nat.le_refl _) hd)
    · exact h.low d (Nat.le_refl _) hd
  have hw' : Wid n m' := fun i hi => by
    rcases Nat.lt_trichotomy i d with h1 | h1 | h1
    · rw [hP.above i h1, lessL_len]; exact h.wid i (by omega)
    · rw [h1]; exact hwd
    · rw [hP.below i h1]; exact h.wid i (by have := hP.len; omega)
  have hUs : ∀ i, i < d → RowLe U (rowE_ ms i) := fun i hi => by rw [h.top i hi]; exact hU i hi (by have := h.len; omega)
  have hnn : ∀ r : List Int, negL (negL r) = r := fun r => by
    unfold negL; rw [List.map_map]
    have : ((fun x : Int => -x) ∘ fun x : Int => -x) = id := by funext x; simp
    rw [this, List.map_id]
  constructor
  · refine ⟨hP.len.trans h.len, hw', fun i h1 h2 => ?_, fun i h1 h2 => ?_, hpos, fun i h1 h2 => ?_, fun i h1 => ?_⟩
    · by_cases he : i = d
      · rw [he]; exact hld
      · rw [hP.below i (by omega)]; exact h.low i h1 (by have := hP.len; omega)
    · rw [hP.above i h1]
      have hx : (getE ms i c).natAbs ≤ U := (hUs i h1).getD c
      exact (lessL_le _ _ _ (hUs i h1) hld).mono (Nat.add_le_add_left (Nat.mul_le_mul_right _ (Nat.le_trans (fdq_bd _ _) (by omega))) _)
    · show (rowE_ m' i).getD c 0 = 0
      rw [hP.below i h1]; exact hz i h1 (by have := h.len; omega)
    · have hg : getE m' i c = fdr (getE ms i c) (getE m' d c) := by
        show (rowE_ m' i).getD c 0 = _
        rw [hP.above i h1, lessL_getD _ (by rw [hwd, h.wid i (by omega)])]
        have h5 := fd_eq (getE ms i c) (getE m' d c)
        show getE ms i c - fdq (getE ms i c) (getE m' d c) * getE m' d c = _
        rw [Int.mul_comm]; omega
      rw [hg]
      exact fdr_pos _ _ hpos
  · refine ⟨hP.len.trans h.len, hw', h.sp.trans ⟨?_, ?_⟩, fun i hi => ⟨_, by rw [hP.above i hi, h.top i hi]⟩⟩
    · rintro r ⟨i, h1, h2, rfl⟩
      by_cases he : i = d
      · have h3 : RowsFrom d m' (rowE_ m' d) := rowsFrom_mem (Nat.le_refl _) (by have := hP.len; omega)
        rw [he]
        by_cases hn : getE ms d c < 0
        · have e := hP.row; rw [if_pos hn] at e
          rw [← hnn (rowE_ ms d), ← e]
          exact (Sp.mem h3).neg hwd
        · have e := hP.row; rw [if_neg hn] at e
          rw [← e]; exact .mem h3
      · rw [← hP.below i (by omega)]; exact .mem (rowsFrom_mem h1 (by have := hP.len; omega))
    · rintro r ⟨i, h1, h2, rfl⟩
      by_cases he : i = d
      · rw [he, hP.row]
        split
        · exact (Sp.mem (rowsFrom_mem (Nat.le_refl _) hd)).neg (h.wid d hd)
        · exact .mem (rowsFrom_mem (Nat.le_refl _) hd)
      · rw [hP.below i (by omega)]; exact .mem (rowsFrom_mem h1 (by have := hP.len; omega))
end Go.Proofs.YtjihfabhgcfjnaaGreatDoor
/- The reference's Hermite form: the rounds end; what holds between the columns. -/
namespace Go.Proofs.YtjihfabhgcfjnaaGreatDoor
set_option linter.unusedVariables false
set_option linter.unusedSimpArgs false
open Go.RowKit

/-- Another row has an element in the column. -/
def othO (c d : Nat) (m : List (List Int)) : Nat → Bool
  | 0 => false
  | k + 1 => if getE m (d + k) c = 0 then othO c d m k else (othO c d m k || (bestO c d m k).isSome)
theorem oth_false {c d : Nat} {m : List (List Int)} : ∀ {k : Nat}, othO c d m k = false → ∀ i j, d ≤ i → i < d + k → d ≤ j → j < d + k → getE m i c ≠ 0 → getE m j c ≠ 0 → i = j
  | 0, _, i, j, h1, h2, h3, h4, _, _ => by omega
  | k + 1, h, i, j, h1, h2, h3, h4, hi, hj => by
    rw [othO] at h
    by_cases hz : getE m (d + k) c = 0
    · rw [if_pos hz] at h
      have e1 : i ≠ d + k := fun e => hi (by rw [e]; exact hz)
      have e2 : j ≠ d + k := fun e => hj (by rw [e]; exact hz)
      exact oth_false h i j h1 (by omega) h3 (by omega) hi hj
    · rw [if_neg hz, Bool.or_eq_false_iff] at h
      have hb : bestO c d m k = none := by
        cases hb : bestO c d m k with
        | none => rfl
        | some a => rw [hb] at h; exact absurd h.2 (by simp)
      have hn := best_none hb
      have e1 : i = d + k := Classical.byContradiction fun e => hi (hn i h1 (by omega))
      have e2 : j = d + k := Classical.byContradiction fun e => hj (hn j h3 (by omega))
      omega
theorem oth_true {c d : Nat} {m : List (List Int)} : ∀ {k : Nat}, othO c d m k = true → ∃ i j, d ≤ i ∧ i < j ∧ j < d + k ∧ getE m i c ≠ 0 ∧ getE m j c ≠ 0
  | 0, h => by cases h
  | k + 1, h => by
    rw [othO] at h
    by_cases hz : getE m (d + k) c = 0
    · rw [if_pos hz] at h
      obtain ⟨i, j, h1, h2, h3, h4, h5⟩ := oth_true h
      exact ⟨i, j, h1, h2, by omega, h4, h5⟩
    · rw [if_neg hz, Bool.or_eq_true] at h
      rcases h with h | h
      · obtain ⟨i, j, h1, h2, h3, h4, h5⟩ := oth_true h
        exact ⟨i, j, h1, h2, by omega, h4, h5⟩
      · cases hb : bestO c d m k with
        | none => rw [hb] at h; cases h
        | some a =>
          obtain ⟨b1, b2, b3, -⟩ := best_some hb
          exact ⟨a, d + k, b1, b2, by omega, b3, hz⟩

/-- The sum of a column. -/
def colS (c : Nat) (m : List (List Int)) : Nat := (m.map fun r => (r.getD c 0).natAbs).sum
theorem colS_swap (c : Nat) (m : List (List Int)) (i j : Nat) : colS c (swapL m i j) = colS c m := by
  unfold colS
  exact List.Perm.sum_nat ((swapL_perm m i j).map _)
theorem sum_lt (f : List Int → Nat) : ∀ (l l' : List (List Int)), l'.length = l.length → (∀ i, f (l'.getD i []) ≤ f (l.getD i [])) → (l'.map f).sum ≤ (l.map f).sum ∧ ((∃ i, i < l.length ∧ f (l'.getD i []) < f (l.getD i [])) → (l'.map f).sum < (l.map f).sum)
  | [], [], _, _ => ⟨Nat.le_refl _, fun ⟨i, hi, _⟩ => by simp at hi⟩
  | [], b :: l', h, _ => by simp at h
  | a :: l, [], h, _ => by simp at h
  | a :: l, b :: l', h, hle => by
    obtain ⟨h1, h2⟩ := sum_lt f l l' (by simpa using h) fun i => by have := hle (i + 1); simpa using this
    have h0 := hle 0
    simp only [List.getD_cons_zero] at h0
    simp only [List.map_cons, List.sum_cons]
    refine ⟨by omega, ?_⟩
    rintro ⟨i, hi, hlt⟩
    cases i with
    | zero => simp only [List.getD_cons_zero] at hlt; omega
    | succ i =>
      have := h2 ⟨i, by simpa using hi, by simpa using hlt⟩
      omega
theorem subR_abs {c : Nat} {P r : List Int} (hl : P.length = r.length) : ((subR c P r).getD c 0).natAbs = (r.getD c 0).natAbs % (P.getD c 0).natAbs := by
  rw [subR_c hl, natAbs_sg]; omega
theorem colS_down {n c d : Nat} {ms mj : List (List Int)} (hw : Wid n ms) (hd : d < ms.length) (hal : getE ms d c ≠ 0) (hm : ∀ i, d ≤ i → i < ms.length → getE ms i c ≠ 0 → (getE ms d c).natAbs ≤ (getE ms i c).natAbs) (hj : DnP c d ms ms.length mj) (ho : ∃ i, d < i ∧ i < ms.length ∧ getE ms i c ≠ 0) : colS c mj < colS c ms := by
  obtain ⟨j1, j2, j3⟩ := hj
  have hle : ∀ i, ((rowE_ mj i).getD c 0).natAbs ≤ ((rowE_ ms i).getD c 0).natAbs := by
    intro i
    by_cases h : d < i ∧ i < ms.length
    · rw [j2 i h.1 h.2, subR_abs (by rw [hw d hd, hw i h.2])]
      exact Nat.mod_le _ _
    · rw [j3 i (by omega)]; exact Nat.le_refl _
  refine (sum_lt (fun r => (r.getD c 0).natAbs) ms mj j1 hle).2 ?_
  obtain ⟨i, h1, h2, h3⟩ := ho
  refine ⟨i, h2, ?_⟩
  show ((rowE_ mj i).getD c 0).natAbs < ((rowE_ ms i).getD c 0).natAbs
  rw [j2 i h1 h2, subR_abs (by rw [hw d hd, hw i h2])]
  have h4 := hm i (by omega) h2 h3
  have h5 : 0 < (getE ms d c).natAbs := by omega
  have h6 := Nat.mod_lt ((rowE_ ms i).getD c 0).natAbs h5
  exact Nat.lt_of_lt_of_le h6 h4
theorem others_swap {c d a : Nat} {m : List (List Int)} (hd : d < m.length) (ha : a < m.length) (hda : d ≤ a) (hal : getE m a c ≠ 0) (ho : othO c d m (m.length - d) = true) : ∃ i, d < i ∧ i < (swapL m d a).length ∧ getE (swapL m d a) i c ≠ 0 := by
  have hr := rowE_swap hd ha
  have hl := swapL_len m d a
  have hg : ∀ i, getE (swapL m d a) i c = (if i = a then rowE_ m d else if i = d then rowE_ m a else rowE_ m i).getD c 0 := fun i => by unfold getE; rw [hr]
  obtain ⟨i, j, h1, h2, h3, h4, h5⟩ := oth_true ho
  by_cases hja : j = a
  · by_cases hid : i = d
    · refine ⟨a, by omega, by omega, ?_⟩
      rw [hg, if_pos rfl, ← hid]; exact h4
    · refine ⟨i, by omega, by omega, ?_⟩
      rw [hg, if_neg (by omega), if_neg hid]; exact h4
  · refine ⟨j, by omega, by omega, ?_⟩
    rw [hg, if_neg hja, if_neg (by omega)]; exact h5
theorem alone_swap {c d a : Nat} {m : List (List Int)} (hd : d < m.length) (ha : a < m.length) (hda : d ≤ a) (hal : getE m a c ≠ 0) (ho : othO c d m (m.length - d) = false) : ∀ i, d < i → i < (swapL m d a).length → getE (swapL m d a) i c = 0 := by
  have hr := rowE_swap hd ha
  have hl := swapL_len m d a
  have hf := oth_false ho
  have hg : ∀ i, getE (swapL m d a) i c = (if i = a then rowE_ m d else if i = d then rowE_ m a else rowE_ m i).getD c 0 := fun i => by unfold getE; rw [hr]
  intro i h1 h2
  refine Classical.byContradiction fun hne => ?_
  rw [hg] at hne
  by_cases hia : i = a
  · rw [if_pos hia] at hne
    have := hf d a (Nat.le_refl _) (by omega) hda (by omega) hne hal
    omega
  · rw [if_neg hia, if_neg (by omega)] at hne
    have := hf i a (by omega) (by omega) hda (by omega) hne hal
    exact hia this
theorem pivot_swap {c d a : Nat} {m : List (List Int)} (hd : d < m.length) (ha : bestO c d m (m.length - d) = some a) : d ≤ a ∧ a < m.length ∧ getE (swapL m d a) d c ≠ 0 ∧ getE m a c ≠ 0 ∧ ∀ i, d ≤ i → i < (swapL m d a).length → getE (swapL m d a) i c ≠ 0 → (getE (swapL m d a) d c).natAbs ≤ (getE (swapL m d a) i c).natAbs := by
  obtain ⟨b1, b2, b3, b4⟩ := best_some ha
  have hal : a < m.length := by omega
  have hr := rowE_swap hd hal
  have hl := swapL_len m d a
  have hg : ∀ i, getE (swapL m d a) i c = (if i = a then rowE_ m d else if i = d then rowE_ m a else rowE_ m i).getD c 0 := fun i => by unfold getE; rw [hr]
  have hgd : getE (swapL m d a) d c = getE m a c := by
    rw [hg]
    by_cases e : d = a
    · rw [if_pos e, e]; rfl
    · rw [if_neg e, if_pos rfl]; rfl
  refine ⟨b1, hal, by rw [hgd]; exact b3, b3, fun i h1 h2 hne => ?_⟩
  rw [hgd]
  rw [hg] at hne ⊢
  by_cases e1 : i = a
  · rw [if_pos e1] at hne ⊢; exact b4 d (Nat.le_refl _) (by omega) hne
  · rw [if_neg e1] at hne ⊢
    by_cases e2 : i = d
    · rw [if_pos e2] at hne ⊢; exact Nat.le_refl _
    · rw [if_neg e2] at hne ⊢; exact b4 i h1 (by omega) hne

/-- How great the rows behind, and ahead, grow. -/
def Yn (N : Nat) : Nat → Nat
  | 0 => N
  | d + 1 => 2 * Yn N d * Yn N d
def Zn (N : Nat) : Nat → Nat
  | 0 => 0
  | d + 1 => Zn N d + (Zn N d + 1) * Yn N (d + 1)
theorem Yn_pos {N : Nat} (h : 1 ≤ N) : ∀ d, 1 ≤ Yn N d
  | 0 => h
  | d + 1 => by
    have := Yn_pos h d
    have h2 : 1 * 1 ≤ (2 * Yn N d) * Yn N d := Nat.mul_le_mul (by omega) this
    show 1 ≤ 2 * Yn N d * Yn N d
    omega
theorem Yn_Zn (N : Nat) (d : Nat) : Yn N (d + 1) ≤ Zn N (d + 1) := by
  show _ ≤ Zn N d + (Zn N d + 1) * Yn N (d + 1)
  have : 1 * Yn N (d + 1) ≤ (Zn N d + 1) * Yn N (d + 1) := Nat.mul_le_mul_right _ (by omega)
  omega
theorem Zn_mono (N : Nat) {d e : Nat} (h : d ≤ e) : Zn N d ≤ Zn N e := by
  induction h with
  | refl => exact Nat.le_refl _
  | step _ ih => exact Nat.le_trans ih (Nat.le_add_right _ _)
/-- What is so between the columns. -/
structure ColI (n c d N : Nat) (m0 m : List (List Int)) : Prop where
  hp : ∃ ps, HP m d c ps
  wid : Wid n m
  sp : SpEq n (RowsFrom 0 m0) (RowsFrom 0 m)
  dl : d ≤ m.length
  len : m.length = m0.length
  dc : d ≤ c
  low : c < n → Low d (Yn N d) m
  upp : c < n → Upp d (Zn N d) m
/-- The bound in a column. -/
def colB (n c d N : Nat) : Nat := if c + 1 < n then 2 * Yn N d * Yn N d else Yn N d
theorem colB_le {n c d N : Nat} (hc : c < n) (hd : d ≤ c) (hN : N ≤ 4000000000000000000) (hZ : Zn N (n - 1) ≤ 4000000000000000000) : colB n c d N ≤ 4000000000000000000 ∧ Zn N d ≤ 4000000000000000000 := by
  have h2 := Zn_mono N (show d ≤ n - 1 by omega)
  refine ⟨?_, by omega⟩
  unfold colB
  by_cases h : c + 1 < n
  · rw [if_pos h]
    have h1 := Zn_mono N (show d + 1 ≤ n - 1 by omega)
    have h3 := Yn_Zn N d
    show Yn N (d + 1) ≤ _
    omega
  · rw [if_neg h]
    cases d with
    | zero => exact hN
    | succ d => have h3 := Yn_Zn N d; omega
theorem ColI.begin {n c d N : Nat} {m0 m : List (List Int)} (h : ColI n c d N m0 m) (hc : c < n) (hN : 1 ≤ N) : RdI n c d (colB n c d N) m m := by
  unfold colB
  by_cases hl : c + 1 < n
  · rw [if_pos hl]; exact RdI.start h.wid (h.low hc) (Yn_pos hN d)
  · rw [if_neg hl]
    obtain ⟨ps, hp⟩ := h.hp
    exact RdI.last h.wid (h.low hc) (by omega) hp.rest
theorem ColI.skip {n c d N : Nat} {m0 m : List (List Int)} (h : ColI n c d N m0 m) (hc : c < n) (hz : ∀ i, d ≤ i → i < m.length → getE m i c = 0) : ColI n (c + 1) d N m0 m := by
  obtain ⟨ps, hp⟩ := h.hp
  refine ⟨⟨ps, ⟨fun i hi => by have := hp.lt i hi; omega, hp.mono, hp.zero, hp.pos, hp.red, fun i a1 a2 c' hc' => ?_⟩⟩, h.wid, h.sp, h.dl, h.len, by have := h.dc; omega, fun _ => h.low hc, fun _ => h.upp hc⟩
  by_cases hcc : c' = c
  · rw [hcc]; exact hz i a1 a2
  · exact hp.rest i a1 a2 c' (by omega)
theorem ColI.next {n c d N : Nat} {m0 m m' : List (List Int)} (h : ColI n c d N m0 m) (hc : c < n) (hd : d < m.length) (s : SwR n d c (colB n c d N) (Zn N d) m m') (k : SwK n d m m') : ColI n (c + 1) (d + 1) N m0 m' := by
  obtain ⟨ps, hp⟩ := h.hp
  refine ⟨⟨_, hp.step hd h.wid s k⟩, s.wid, h.sp.trans (sp_all k hd), by have := s.len; omega, s.len.trans h.len, by have := h.dc; omega, fun hc2 => ?_, fun hc2 => ?_⟩
  · have e : colB n c d N = Yn N (d + 1) := by unfold colB; rw [if_pos hc2]; rfl
    rw [← e]; exact fun i h1 h2 => s.low i (by omega) h2
  · have e : colB n c d N = Yn N (d + 1) := by unfold colB; rw [if_pos hc2]; rfl
    have hlo := s.low; have hup := s.upp
    rw [e] at hlo hup
    intro i h1 h2
    by_cases hid : i < d
    · exact hup i hid h2
    · exact (hlo i (by omega) h2).mono (Yn_Zn N d)
/-- The bounds of the rows' steps at the end of a column. -/
theorem ColI.piv {n c d N : Nat} {m0 m ms : List (List Int)} (h : ColI n c d N m0 m) (hc : c < n) (hN : N ≤ 4000000000000000000) (hZ : Zn N (n - 1) ≤ 4000000000000000000) (hr : RdI n c d (colB n c d N) m ms) (hd : d < ms.length) (hp : getE ms d c ≠ 0) :
    ∀ i, i < d → ∀ j, In64 (fdq (getE ms i c) (getE (posM c d ms) d c) * getE (posM c d ms) d j) ∧ In64 (getE ms i j - fdq (getE ms i c) (getE (posM c d ms) d c) * getE (posM c d ms) d j) := by
  intro i hi j
  obtain ⟨hB, hU⟩ := colB_le hc h.dc hN hZ
  have hU1 : RowLe (Zn N d) (rowE_ ms i) := by rw [hr.top i hi]; exact h.upp hc i hi (by have := hr.len; omega)
  have hxc : (getE ms i c).natAbs ≤ Zn N d := hU1.getD c
  have hxj : (getE ms i j).natAbs ≤ Zn N d := hU1.getD j
  have hld : RowLe (colB n c d N) (rowE_ (posM c d ms) d) := by
    rw [posM_row hd]; split
    · exact negL_le (hr.low d (Nat.le_refl _) hd)
    · exact hr.low d (Nat.le_refl _) hd
  have hyj : (getE (posM c d ms) d j).natAbs ≤ colB n c d N := hld.getD j
  have hyc : (getE (posM c d ms) d c).natAbs ≤ colB n c d N := hld.getD c
  have hpos := posM_pos hd hp
  have hq := fdq_bd (getE ms i c) (getE (posM c d ms) d c)
  have hdc := h.dc
  unfold In64
  by_cases hl : c + 1 < n
  · have e : colB n c d N = Yn N (d + 1) := by unfold colB; rw [if_pos hl]; rfl
    have h2 : (fdq (getE ms i c) (getE (posM c d ms) d c) * getE (posM c d ms) d j).natAbs ≤ (Zn N d + 1) * Yn N (d + 1) := by
      rw [Int.natAbs_mul]; exact Nat.mul_le_mul (by omega) (by rw [← e]; exact hyj)
    have h3 := Zn_mono N (show d + 1 ≤ n - 1 by omega)
    have h4 : Zn N (d + 1) = Zn N d + (Zn N d + 1) * Yn N (d + 1) := rfl
    omega
  · -- the last column: the pivot's row is 0 elsewhere
    by_cases hj : j = c
    · rw [hj]
      have h5 := fd_eq (getE ms i c) (getE (posM c d ms) d c)
      have h6 := fdr_pos (getE ms i c) (getE (posM c d ms) d c) hpos
      rw [Int.mul_comm] at h5
      have hxj' : (getE ms i c).natAbs ≤ Zn N d := hxc
      omega
    · have hz0 : getE ms d j = 0 := by
        by_cases hjc : j < c
        · obtain ⟨ps, hpp⟩ := h.hp
          have hz := Sp.zeroCol (n := n) (c := j) (S := RowsFrom d m) (rowsFrom_len h.wid) (by rintro r ⟨k, k1, k2, rfl⟩; exact hpp.rest k k1 k2 j hjc) (hr.sp.2 _ (rowsFrom_mem (Nat.le_refl _) hd))
          exact hz
        · have hw := hr.wid d hd
          show (rowE_ ms d).getD j 0 = 0
          rw [List.getD_eq_getElem?_getD, List.getElem?_eq_none (by omega)]; rfl
      have hz1 : getE (posM c d ms) d j = 0 := by
        show (rowE_ (posM c d ms) d).getD j 0 = 0
        rw [posM_row hd]; split
        · rw [negL_getD]; have : (rowE_ ms d).getD j 0 = 0 := hz0; omega
        · exact hz0
      rw [hz1, Int.mul_zero]
      omega
/-- At the start. -/
theorem ColI.init {n N : Nat} {m : List (List Int)} (hw : Wid n m) (hN : ∀ i, i < m.length → RowLe N (rowE_ m i)) : ColI n 0 0 N m m :=
  ⟨⟨fun _ => 0, ⟨fun i hi => by omega, fun i j _ hj => by omega, fun i hi => by omega, fun i hi => by omega, fun i j _ hj => by omega, fun i _ _ c' hc => by omega⟩⟩, hw, SpEq.refl _ _, by omega, rfl, Nat.le_refl _, fun _ i _ h2 => hN i h2, fun _ i h1 _ => by omega⟩
/-- At the end. -/
theorem ColI.done {n c d N : Nat} {m0 m : List (List Int)} (h : ColI n c d N m0 m) (hend : c = n ∨ d = m.length) : ∃ ps, HForm n (m.take d) ps ∧ SpEq n (RowsFrom 0 m0) (RowsFrom 0 (m.take d)) := by
  obtain ⟨ps, hp⟩ := h.hp
  have hlen : (m.take d).length = d := by rw [List.length_take]; have := h.dl; omega
  have hW : Wid n (m.take d) := fun i hi => by rw [hlen] at hi; rw [rowE_take hi]; exact h.wid i (by have := h.dl; omega)
  have hcn : c ≤ n ∨ d = m.length := by rcases hend with e | e; exact .inl (by omega); exact .inr e
  have hlt : ∀ i, i < d → ps i < n := by
    intro i hi
    refine Classical.byContradiction fun hge => ?_
    have h1 := hp.pos i hi
    have h2 := h.wid i (by have := h.dl; omega)
    have h3 : getE m i (ps i) = 0 := by
      show (rowE_ m i).getD (ps i) 0 = 0
      rw [List.getD_eq_getElem?_getD, List.getElem?_eq_none (by omega)]; rfl
    omega
  refine ⟨ps, ⟨hW, ?_⟩, h.sp.trans ?_⟩
  · rw [hlen]
    exact ⟨hlt, hp.mono, fun i hi c' hc => by rw [getE_take hi]; exact hp.zero i hi c' hc, fun i hi => by rw [getE_take hi]; exact hp.pos i hi, fun i j hij hj => by
      rw [getE_take (show i < d by omega), getE_take hj]; exact hp.red i j hij hj, fun i a1 a2 => by rw [hlen] at a2; omega⟩
  · constructor
    · rintro x ⟨i, -, h2, rfl⟩
      by_cases hi : i < d
      · rw [← rowE_take (m := m) hi]; exact .mem (rowsFrom_mem (by omega) (by omega))
      · rcases hend with e | e
        · rw [row_zero (h.wid i h2) (fun c' hc => hp.rest i (by omega) h2 c' (by omega))]; exact .zero
        · omega
    · rintro x ⟨i, -, h2, rfl⟩
      rw [hlen] at h2
      rw [rowE_take h2]; exact .mem (rowsFrom_mem (by omega) (by have := h.dl; omega))
end Go.Proofs.YtjihfabhgcfjnaaGreatDoor
