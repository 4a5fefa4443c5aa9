/- Merged: KerP, KerQ. -/
import Derived.Test.YtjihfabhgcfjnaaGreatDoorUAU
/- The rows whose dot products with given rows are 0: the wide form gives their Hermite form. No program is named here. -/
namespace Go.Proofs.YtjihfabhgcfjnaaGreatDoor
set_option linter.unusedVariables false
set_option linter.unusedSimpArgs false
open Go.RowKit

/-- A dot product of the first n elements. -/
def dotZ (r s : List Int) : Nat → Int
  | 0 => 0
  | n + 1 => dotZ r s n + r.getD n 0 * s.getD n 0
theorem dotZ_comm (r s : List Int) : ∀ n, dotZ r s n = dotZ s r n
  | 0 => rfl
  | n + 1 => by unfold dotZ; rw [dotZ_comm r s n, Int.mul_comm]
theorem dotZ_congr {r s r' s' : List Int} : ∀ n, (∀ i, i < n → r.getD i 0 = r'.getD i 0 ∧ s.getD i 0 = s'.getD i 0) → dotZ r s n = dotZ r' s' n
  | 0, _ => rfl
  | n + 1, h => by unfold dotZ; rw [dotZ_congr n fun i hi => h i (by omega), (h n (by omega)).1, (h n (by omega)).2]
theorem dotZ_less (r : List Int) (k : Int) {x y : List Int} (hl : y.length = x.length) : ∀ n, dotZ r (lessL k x y) n = dotZ r x n - k * dotZ r y n
  | 0 => by unfold dotZ; omega
  | n + 1 => by
    unfold dotZ
    rw [dotZ_less r k hl n, lessL_getD k hl, Int.mul_sub, Int.mul_add]
    have e : r.getD n 0 * (k * y.getD n 0) = k * (r.getD n 0 * y.getD n 0) := by rw [← Int.mul_assoc, Int.mul_comm (r.getD n 0) k, Int.mul_assoc]
    rw [e]; omega
theorem dotZ_zero (r : List Int) (m : Nat) : ∀ n, dotZ r (List.replicate m 0) n = 0
  | 0 => rfl
  | n + 1 => by unfold dotZ; rw [dotZ_zero r m n, repl_getD]; simp
theorem unit_getD (n c i : Nat) (hc : c < n) : ((List.replicate n (0 : Int)).set c 1).getD i 0 = if i = c then 1 else 0 := by
  rw [List.getD_eq_getElem?_getD, List.getElem?_set]
  by_cases h : c = i
  · subst h; rw [if_pos rfl, if_pos rfl, if_pos (by simpa using hc)]; rfl
  · rw [if_neg h, if_neg (fun e => h e.symm), ← List.getD_eq_getElem?_getD, repl_getD]
theorem dotZ_unit (r : List Int) (n c : Nat) (hc : c < n) : ∀ k, dotZ r ((List.replicate n (0 : Int)).set c 1) k = if c < k then r.getD c 0 else 0
  | 0 => by rw [if_neg (by omega)]; rfl
  | k + 1 => by
    unfold dotZ
    rw [dotZ_unit r n c hc k, unit_getD n c k hc]
    by_cases h : c < k
    · rw [if_pos h, if_neg (by omega), if_pos (by omega)]; simp
    · by_cases h2 : k = c
      · rw [if_neg h, if_pos h2, if_pos (by omega), h2]; simp
      · rw [if_neg h, if_neg h2, if_neg (by omega)]; simp
theorem drop_getD (k : Nat) (w : List Int) (c : Nat) : (w.drop k).getD c 0 = w.getD (k + c) 0 := by
  rw [List.getD_eq_getElem?_getD, List.getD_eq_getElem?_getD, List.getElem?_drop]
theorem app_left {a b : List Int} {i : Nat} (h : i < a.length) : (a ++ b).getD i 0 = a.getD i 0 := by
  rw [List.getD_eq_getElem?_getD, List.getD_eq_getElem?_getD, List.getElem?_append_left h]
theorem app_right {a b : List Int} {i : Nat} (h : a.length ≤ i) : (a ++ b).getD i 0 = b.getD (i - a.length) 0 := by
  rw [List.getD_eq_getElem?_getD, List.getD_eq_getElem?_getD, List.getElem?_append_right h]

/-- The rows of the wide matrix. -/
theorem wide_len (n : Nat) (m : List (List Int)) : (wideL n m).length = n := by unfold wideL; simp
theorem wide_row {n c : Nat} {m : List (List Int)} (hc : c < n) : rowE_ (wideL n m) c = m.map (fun r => r.getD c 0) ++ (List.replicate n (0 : Int)).set c 1 := by
  apply rowE_of
  unfold wideL
  rw [List.getElem?_map, List.getElem?_range hc]; rfl
theorem wide_wid (n : Nat) (m : List (List Int)) : Wid (m.length + n) (wideL n m) := fun c hc => by
  rw [wide_len] at hc
  rw [wide_row hc]; simp
theorem wide_left {n c i : Nat} {m : List (List Int)} (hc : c < n) (hi : i < m.length) : (rowE_ (wideL n m) c).getD i 0 = (rowE_ m i).getD c 0 := by
  rw [wide_row hc, app_left (by simpa using hi), List.getD_eq_getElem?_getD, List.getElem?_map, rowE_get hi]; rfl
theorem wide_right {n c j : Nat} {m : List (List Int)} (hc : c < n) : (rowE_ (wideL n m) c).getD (m.length + j) 0 = if j = c then 1 else 0 := by
  rw [wide_row hc, app_right (by simp), ← unit_getD n c j hc]
  congr 1; simp

/-- What the wide matrix generates: the products of a row, and the row. -/
def WideP (n : Nat) (m : List (List Int)) (w : List Int) : Prop := w.length = m.length + n ∧ ∀ i, i < m.length → w.getD i 0 = dotZ (rowE_ m i) (w.drop m.length) n
theorem lessL_drop (q : Int) : ∀ (k : Nat) (x y : List Int), (lessL q x y).drop k = lessL q (x.drop k) (y.drop k)
  | 0, x, y => rfl
  | k + 1, [], [] => by simp [lessL]
  | k + 1, [], _ :: _ => by simp [lessL]; cases (List.drop k ‹List Int›) <;> rfl
  | k + 1, a :: x, [] => by
    have h : ∀ z : List Int, lessL q z [] = z := fun z => by cases z <;> rfl
    simp only [List.drop_nil, h]
  | k + 1, a :: x, b :: y => by
    show (lessL q x y).drop k = _
    rw [lessL_drop q k x y]; rfl
theorem wide_sp {n : Nat} {m : List (List Int)} {w : List Int} (h : Sp (m.length + n) (RowsFrom 0 (wideL n m)) w) : WideP n m w := by
  have hl := rowsFrom_len (d := 0) (wide_wid n m)
  induction h with
  | zero =>
    refine ⟨by simp, fun i hi => ?_⟩
    rw [repl_getD, List.drop_replicate, dotZ_zero]
  | mem h =>
    obtain ⟨c, -, hc, rfl⟩ := h
    have hc' : c < n := by rw [wide_len] at hc; exact hc
    refine ⟨wide_wid n m c hc, fun i hi => ?_⟩
    rw [wide_left hc' hi, wide_row hc', List.drop_left' (by simp), dotZ_unit _ _ _ hc', if_pos hc']
  | less q a b iha ihb =>
    refine ⟨by rw [lessL_len]; exact iha.1, fun i hi => ?_⟩
    rw [lessL_getD q (by rw [iha.1, ihb.1]), iha.2 i hi, ihb.2 i hi, lessL_drop, dotZ_less _ _ (by rw [List.length_drop, List.length_drop, iha.1, ihb.1])]
theorem sp_wide {n : Nat} {m : List (List Int)} {w : List Int} (h : WideP n m w) : Sp (m.length + n) (RowsFrom 0 (wideL n m)) w := by
  have hl := rowsFrom_len (d := 0) (wide_wid n m)
  have key : ∀ j, j ≤ n → ∃ u, Sp (m.length + n) (RowsFrom 0 (wideL n m)) u ∧ ∀ c, u.getD (m.length + c) 0 = if c < j then w.getD (m.length + c) 0 else 0 := by
    intro j
    induction j with
    | zero => intro _; exact ⟨_, .zero, fun c => by rw [if_neg (by omega), repl_getD]⟩
    | succ j ih =>
      intro hj
      obtain ⟨u, hu, huc⟩ := ih (by omega)
      have hmem : RowsFrom 0 (wideL n m) (rowE_ (wideL n m) j) := rowsFrom_mem (Nat.zero_le _) (by rw [wide_len]; omega)
      refine ⟨_, .less (-(w.getD (m.length + j) 0)) hu (.mem hmem), fun c => ?_⟩
      rw [lessL_getD _ (by rw [hu.len hl, hl _ hmem]), huc c, wide_right (by omega)]
      by_cases hcj : c = j
      · subst hcj; rw [if_neg (by omega), if_pos rfl, if_pos (by omega)]; omega
      · rw [if_neg hcj]
        by_cases h2 : c < j
        · rw [if_pos h2, if_pos (by omega)]; simp
        · rw [if_neg h2, if_neg (by omega)]; simp
  obtain ⟨u, hu, huc⟩ := key n (Nat.le_refl _)
  have hP := wide_sp hu
  have hc : ∀ c, c < n → u.getD (m.length + c) 0 = w.getD (m.length + c) 0 := fun c hc => by rw [huc c, if_pos hc]
  have : u = w := by
    refine ext_getD (by rw [hP.1, h.1]) fun c => ?_
    by_cases h1 : c < m.length
    · rw [hP.2 c h1, h.2 c h1]
      exact dotZ_congr n fun i hi => ⟨rfl, by rw [drop_getD, drop_getD, hc i hi]⟩
    · by_cases h2 : c < m.length + n
      · have := hc (c - m.length) (by omega)
        rw [show m.length + (c - m.length) = c by omega] at this; exact this
      · rw [List.getD_eq_getElem?_getD, List.getD_eq_getElem?_getD, List.getElem?_eq_none (by rw [hP.1]; omega), List.getElem?_eq_none (by rw [h.1]; omega)]
  rw [← this]; exact hu

/-- The rows whose dot products with all rows are 0. -/
def Ann (n : Nat) (m : List (List Int)) (v : List Int) : Prop := v.length = n ∧ ∀ i, i < m.length → dotZ (rowE_ m i) v n = 0

/-- The pivots ahead of a column. -/
theorem piv_split {h : List (List Int)} {N : Nat} {ps : Nat → Nat} (hh : HForm N h ps) (k : Nat) : ∃ d, d ≤ h.length ∧ (∀ i, i < d → ps i < k) ∧ ∀ i, d ≤ i → i < h.length → k ≤ ps i := by
  have key : ∀ l, l ≤ h.length → ∃ d, d ≤ l ∧ (∀ i, i < d → ps i < k) ∧ ∀ i, d ≤ i → i < l → k ≤ ps i := by
    intro l
    induction l with
    | zero => intro _; exact ⟨0, Nat.le_refl _, fun i hi => by omega, fun i _ hi => by omega⟩
    | succ l ih =>
      intro hl
      obtain ⟨d, h1, h2, h3⟩ := ih (by omega)
      by_cases hd : d = l
      · by_cases hp : ps l < k
        · exact ⟨l + 1, Nat.le_refl _, fun i hi => by
            by_cases hil : i = l
            · rw [hil]; exact hp
            · exact h2 i (by omega), fun i _ hi => by omega⟩
        · exact ⟨l, by omega, fun i hi => h2 i (by omega), fun i a b => by
            have : i = l := by omega
            rw [this]; omega⟩
      · refine ⟨d, by omega, h2, fun i a b => ?_⟩
        by_cases hil : i = l
        · have h4 := h3 (l - 1) (by omega) (by omega)
          have h5 := hh.2.mono (l - 1) l (by omega) (by omega)
          rw [hil]; omega
        · exact h3 i a (by omega)
  exact key h.length (Nat.le_refl _)
theorem filter_drop {α : Type} (p : α → Bool) : ∀ (l : List α) (d : Nat), (∀ i x, i < d → l[i]? = some x → p x = false) → (∀ i x, d ≤ i → l[i]? = some x → p x = true) → l.filter p = l.drop d
  | [], d, _, _ => by simp
  | x :: l, 0, h1, h2 => by
    rw [List.filter_cons_of_pos (h2 0 x (by omega) rfl)]
    have := filter_drop p l 0 (fun i x hi => by omega) fun i y _ hy => h2 (i + 1) y (by omega) hy
    rw [this]; rfl
  | x :: l, d + 1, h1, h2 => by
    rw [List.filter_cons_of_neg (by rw [h1 0 x (by omega) rfl]; simp)]
    exact filter_drop p l d (fun i y hi hy => h1 (i + 1) y (by omega) hy) fun i y hi hy => h2 (i + 1) y (by omega) hy
theorem behind_drop {h : List (List Int)} {N k d : Nat} {ps : Nat → Nat} (hh : HForm N h ps) (h1 : ∀ i, i < d → ps i < k) (h2 : ∀ i, d ≤ i → i < h.length → k ≤ ps i) : behindL k h = (h.drop d).map (·.drop k) := by
  unfold behindL
  congr 1
  refine filter_drop _ h d (fun i x hi hx => ?_) fun i x hi hx => ?_
  · have hl := (List.getElem?_eq_some_iff.1 hx).1
    rw [← rowE_of hx, hform_lead hh hl]
    have := h1 i hi
    exact decide_eq_false (by omega)
  · have hl := (List.getElem?_eq_some_iff.1 hx).1
    rw [← rowE_of hx, hform_lead hh hl]
    have := h2 i hi hl
    exact decide_eq_true (by omega)
theorem rowE_behind {h : List (List Int)} {k d i : Nat} (hi : d + i < h.length) : rowE_ ((h.drop d).map (·.drop k)) i = (rowE_ h (d + i)).drop k := by
  apply rowE_of
  rw [List.getElem?_map, List.getElem?_drop, rowE_get hi]; rfl

/-- The ends of the rows behind, in Hermite form. -/
theorem behind_form {h : List (List Int)} {n k d : Nat} {ps : Nat → Nat} (hh : HForm (k + n) h ps) (hd : d ≤ h.length) (h1 : ∀ i, i < d → ps i < k) (h2 : ∀ i, d ≤ i → i < h.length → k ≤ ps i) :
    HForm n ((h.drop d).map (·.drop k)) (fun i => ps (d + i) - k) := by
  have hlen : ((h.drop d).map (·.drop k)).length = h.length - d := by simp
  have hE : ∀ i c, d + i < h.length → getE ((h.drop d).map (·.drop k)) i c = getE h (d + i) (k + c) := fun i c hi => by
    unfold getE; rw [rowE_behind hi, drop_getD]
  refine ⟨fun i hi => ?_, ?_⟩
  · rw [hlen] at hi
    rw [rowE_behind (by omega), List.length_drop, hh.1 _ (by omega)]; omega
  · rw [hlen]
    refine ⟨fun i hi => ?_, fun i j hij hj => ?_, fun i hi c' hc => ?_, fun i hi => ?_, fun i j hij hj => ?_, fun i a b => by rw [hlen] at b; omega⟩
    · have := hh.2.lt (d + i) (by omega); have := h2 (d + i) (by omega) (by omega); show ps (d + i) - k < n; omega
    · have := hh.2.mono (d + i) (d + j) (by omega) (by omega); have := h2 (d + i) (by omega) (by omega); show ps (d + i) - k < ps (d + j) - k; omega
    · rw [hE i c' (by omega)]
      have := h2 (d + i) (by omega) (by omega)
      exact hh.2.zero (d + i) (by omega) _ (by have : c' < ps (d + i) - k := hc; omega)
    · have := h2 (d + i) (by omega) (by omega)
      rw [hE i _ (by omega), show k + (ps (d + i) - k) = ps (d + i) by omega]
      exact hh.2.pos (d + i) (by omega)
    · have := h2 (d + j) (by omega) (by omega)
      rw [hE i _ (by omega), hE j _ (by omega), show k + (ps (d + j) - k) = ps (d + j) by omega]
      exact hh.2.red (d + i) (d + j) (by omega) (by omega)
/-- Rows of the lattice that begin with zeros belong to what the rows behind generate. -/
theorem sp_skip {h : List (List Int)} {N k d : Nat} {ps : Nat → Nat} (hh : HForm N h ps) (hd : d ≤ h.length) (h1 : ∀ i, i < d → ps i < k) {w : List Int} (hz : ∀ c, c < k → w.getD c 0 = 0) : ∀ j, j ≤ d → Sp N (RowsFrom (d - j) h) w → Sp N (RowsFrom d h) w
  | 0, _, hw => hw
  | j + 1, hj, hw => by
    obtain ⟨t, e, ht⟩ := hw.first hh (by omega)
    rw [hz _ (h1 _ (by omega))] at e
    have hp := hh.2.pos (d - (j + 1)) (by omega)
    have h0 : t = 0 := small_mul hp (by omega) (by omega)
    rw [h0, lessL_zero, show d - (j + 1) + 1 = d - j by omega] at ht
    exact sp_skip hh hd h1 hz j (by omega) ht
theorem sp_behind {h : List (List Int)} {n k d : Nat} {w : List Int} (hw : Sp (k + n) (RowsFrom d h) w) : Sp n (RowsFrom 0 ((h.drop d).map (·.drop k))) (w.drop k) := by
  induction hw with
  | zero => rw [List.drop_replicate, show k + n - k = n by omega]; exact .zero
  | mem hm =>
    obtain ⟨i, h1, h2, rfl⟩ := hm
    have := rowE_behind (h := h) (k := k) (d := d) (i := i - d) (by omega)
    rw [show d + (i - d) = i by omega] at this
    rw [← this]
    exact .mem (rowsFrom_mem (Nat.zero_le _) (by simp; omega))
  | less q a b iha ihb => rw [lessL_drop]; exact .less q iha ihb

/-- The rows behind generate the rows whose dot products are 0. -/
theorem ker_sp {h m : List (List Int)} {n d : Nat} {ps : Nat → Nat} (hh : HForm (m.length + n) h ps) (hs : SpEq (m.length + n) (RowsFrom 0 (wideL n m)) (RowsFrom 0 h)) (hd : d ≤ h.length) (h1 : ∀ i, i < d → ps i < m.length) (h2 : ∀ i, d ≤ i → i < h.length → m.length ≤ ps i) (v : List Int) :
    Sp n (RowsFrom 0 ((h.drop d).map (·.drop m.length))) v ↔ Ann n m v := by
  have hW := (behind_form hh hd h1 h2).1
  constructor
  · intro hv
    induction hv with
    | zero => exact ⟨by simp, fun i _ => dotZ_zero _ _ _⟩
    | mem hm =>
      obtain ⟨i, -, hi, rfl⟩ := hm
      have hi' : d + i < h.length := by simp at hi; omega
      refine ⟨hW i hi, fun j hj => ?_⟩
      have hP := wide_sp (hs.2 _ (rowsFrom_mem (Nat.zero_le (d + i)) hi'))
      rw [rowE_behind hi', ← hP.2 j hj]
      have := h2 (d + i) (by omega) hi'
      exact hh.2.zero (d + i) hi' j (by omega)
    | less q a b iha ihb =>
      refine ⟨by rw [lessL_len]; exact iha.1, fun i hi => ?_⟩
      rw [dotZ_less _ _ (by rw [iha.1, ihb.1]), iha.2 i hi, ihb.2 i hi]; simp
  · intro hv
    have hw : WideP n m (List.replicate m.length 0 ++ v) := by
      refine ⟨by rw [List.length_append, List.length_replicate, hv.1], fun i hi => ?_⟩
      rw [app_left (by simpa using hi), repl_getD, List.drop_left' (by simp), hv.2 i hi]
    have h3 := (hs.iff _).1 (sp_wide hw)
    have h4 := sp_skip (w := List.replicate m.length 0 ++ v) hh hd h1 (fun c hc => by rw [app_left (by simpa using hc), repl_getD]) d (Nat.le_refl _) (by rw [Nat.sub_self]; exact h3)
    have h5 := sp_behind h4
    rw [List.drop_left' (by simp)] at h5
    exact h5
/-- The wide form has as many rows as columns are behind. -/
theorem wide_rows {h m : List (List Int)} {n : Nat} {ps : Nat → Nat} (hh : HForm (m.length + n) h ps) (hs : SpEq (m.length + n) (RowsFrom 0 (wideL n m)) (RowsFrom 0 h)) : n ≤ h.length := by
  refine Classical.byContradiction fun hlt => ?_
  have hlt : h.length < n := by omega
  obtain ⟨R, hR⟩ : ∃ R, R = h ++ List.replicate (n - h.length) (List.replicate (m.length + n) (0 : Int)) := ⟨_, rfl⟩
  have hRl : R.length = n := by rw [hR]; simp; omega
  have hR1 : ∀ i, i < h.length → rowE_ R i = rowE_ h i := fun i hi => by
    apply rowE_of; rw [hR, List.getElem?_append_left hi]; exact rowE_get hi
  have hR2 : ∀ i, h.length ≤ i → i < n → rowE_ R i = List.replicate (m.length + n) 0 := fun i hi hn => by
    apply rowE_of; rw [hR, List.getElem?_append_right hi, List.getElem?_replicate, if_pos (by omega)]
  have hW : Wid (m.length + n) R := fun i hi => by
    by_cases h1 : i < h.length
    · rw [hR1 i h1]; exact hh.1 i h1
    · rw [hR2 i (by omega) (by omega)]; simp
  have h0 : phi R.length (fun b => m.length + b) (rowE_ R) = 0 := by
    unfold phi
    refine detF_zero_row (r := h.length) (by omega) fun b _ => ?_
    show (((rowE_ R h.length).getD (m.length + b) 0 : Int) : Rat) = 0
    rw [hR2 _ (Nat.le_refl _) hlt, repl_getD]; rfl
  have h1 := alt_sp (Q := fun x => x = 0) (phi_alt (m.length + n) R.length fun b => m.length + b) clo_zero hW h0 (rowE_ (wideL n m)) fun a ha => by
    have := hs.1 _ (rowsFrom_mem (Nat.zero_le a) (by rw [wide_len]; omega))
    refine this.mono fun r hr => ?_
    obtain ⟨i, -, hi, rfl⟩ := hr
    rw [← hR1 i hi]; exact .mem (rowsFrom_mem (Nat.zero_le _) (by omega))
  have h2 : phi R.length (fun b => m.length + b) (rowE_ (wideL n m)) = 1 := by
    rw [← detF_one R.length]
    unfold phi
    refine detF_congr fun a b ha hb => ?_
    show (((rowE_ (wideL n m) a).getD (m.length + b) 0 : Int) : Rat) = _
    rw [wide_right (by omega)]
    by_cases hab : a = b
    · rw [if_pos hab.symm, if_pos hab]; rfl
    · rw [if_neg (fun e => hab e.symm), if_neg hab]; rfl
  rw [h2] at h1
  exact absurd h1 (by decide)
end Go.Proofs.YtjihfabhgcfjnaaGreatDoor
/- The annihilator of the annihilator is the saturation, and ranks add up. No program is named here. -/
namespace Go.Proofs.YtjihfabhgcfjnaaGreatDoor
set_option linter.unusedVariables false
set_option linter.unusedSimpArgs false
open Go.RowKit

def smulL (D : Int) (v : List Int) : List Int := v.map (D * ·)
theorem smulL_len (D : Int) (v : List Int) : (smulL D v).length = v.length := by unfold smulL; simp
theorem smulL_getD (D : Int) (v : List Int) (c : Nat) : (smulL D v).getD c 0 = D * v.getD c 0 := by
  unfold smulL
  rw [List.getD_eq_getElem?_getD, List.getD_eq_getElem?_getD, List.getElem?_map]
  cases v[c]? with
  | none => simp
  | some a => rfl
theorem getD_ge {v : List Int} {c : Nat} (h : v.length ≤ c) : v.getD c 0 = 0 := by
  rw [List.getD_eq_getElem?_getD, List.getElem?_eq_none h]; rfl
theorem dotZ_smul (r : List Int) (D : Int) (v : List Int) : ∀ n, dotZ r (smulL D v) n = D * dotZ r v n
  | 0 => by unfold dotZ; simp
  | n + 1 => by
    unfold dotZ
    rw [dotZ_smul r D v n, smulL_getD, Int.mul_add]
    have e : r.getD n 0 * (D * v.getD n 0) = D * (r.getD n 0 * v.getD n 0) := by rw [← Int.mul_assoc, Int.mul_comm (r.getD n 0) D, Int.mul_assoc]
    rw [e]
theorem rat_den (x : Rat) : x * ((x.den : Int) : Rat) = (x.num : Rat) := by
  have h1 : (x.num : Rat) / ((x.den : Nat) : Rat) = x := by rw [← Rat.mkRat_eq_div]; exact Rat.mkRat_self x
  have h2 : ((x.den : Nat) : Rat) ≠ 0 := by
    intro h
    have : x.den = 0 := by exact_mod_cast h
    exact x.den_nz this
  have h3 := Rat.div_mul_cancel (a := (x.num : Rat)) h2
  rw [h1] at h3
  rw [Rat.intCast_natCast]; exact h3
/-- Common denominators. -/
theorem clear_den (x : Nat → Rat) : ∀ d, ∃ D : Int, D ≠ 0 ∧ ∃ z : Nat → Int, ∀ l, l < d → (D : Rat) * x l = (z l : Rat)
  | 0 => ⟨1, by decide, fun _ => 0, fun l hl => by omega⟩
  | d + 1 => by
    obtain ⟨D, h0, z, hz⟩ := clear_den x d
    have hden : ((x d).den : Int) ≠ 0 := by have := (x d).den_nz; omega
    refine ⟨D * ((x d).den : Int), Int.mul_ne_zero h0 hden, fun l => if l = d then D * (x d).num else z l * ((x d).den : Int), fun l hl => ?_⟩
    by_cases hld : l = d
    · simp only [if_pos hld]
      rw [hld, Rat.intCast_mul, Rat.intCast_mul]
      have e := rat_den (x d)
      grind
    · simp only [if_neg hld]
      have := hz l (by omega)
      rw [Rat.intCast_mul, Rat.intCast_mul]
      grind
/-- A sum of multiples of rows. -/
theorem sp_sum {n : Nat} {m : List (List Int)} (hW : Wid n m) (idx : Nat → Nat) (z : Nat → Int) : ∀ d, (∀ l, l < d → idx l < m.length) → ∃ w, Sp n (RowsFrom 0 m) w ∧ ∀ c, ((w.getD c 0 : Int) : Rat) = sumQ d fun l => (z l : Rat) * (((rowE_ m (idx l)).getD c 0 : Int) : Rat)
  | 0, _ => ⟨_, .zero, fun c => by rw [repl_getD]; rfl⟩
  | d + 1, h => by
    obtain ⟨w, h1, h2⟩ := sp_sum hW idx z d fun l hl => h l (by omega)
    have hm : RowsFrom 0 m (rowE_ m (idx d)) := rowsFrom_mem (Nat.zero_le _) (h d (by omega))
    refine ⟨_, .less (-(z d)) h1 (.mem hm), fun c => ?_⟩
    rw [lessL_getD _ (by rw [h1.len (rowsFrom_len hW), rowsFrom_len hW _ hm])]
    show _ = sumQ d (fun l => (z l : Rat) * (((rowE_ m (idx l)).getD c 0 : Int) : Rat)) + _
    rw [← h2 c, Rat.intCast_sub, Rat.intCast_mul, Rat.intCast_neg]; grind
/-- A linear function that is 0 at some rows is 0 at all that they generate. -/
theorem lin_sp {N : Nat} {S : List Int → Prop} {f : List Int → Rat} (hS : AllLen N S) (h0 : f (List.replicate N 0) = 0) (hl : ∀ (q : Int) a b, b.length = a.length → f (lessL q a b) = f a - (q : Rat) * f b) (h : ∀ r, S r → f r = 0) {w : List Int} (hw : Sp N S w) : f w = 0 := by
  induction hw with
  | zero => exact h0
  | mem hm => exact h _ hm
  | less q a b iha ihb => rw [hl q _ _ (by rw [a.len hS, b.len hS]), iha, ihb]; grind
def colF (d : Nat) (x : Nat → Rat) (idx : Nat → Nat) (w : List Int) : Rat := sumQ d fun l => x l * ((w.getD (idx l) 0 : Int) : Rat)
theorem colF_less (d : Nat) (x : Nat → Rat) (idx : Nat → Nat) (q : Int) {a b : List Int} (hl : b.length = a.length) : colF d x idx (lessL q a b) = colF d x idx a - (q : Rat) * colF d x idx b := by
  unfold colF
  have e : ∀ l, l < d → x l * (((lessL q a b).getD (idx l) 0 : Int) : Rat) = x l * ((a.getD (idx l) 0 : Int) : Rat) + (-(q : Rat)) * (x l * ((b.getD (idx l) 0 : Int) : Rat)) := fun l _ => by
    rw [lessL_getD q hl, Rat.intCast_sub, Rat.intCast_mul]; grind
  rw [sumQ_congr e, sumQ_add, sumQ_mul]; grind
theorem colF_zero (d : Nat) (x : Nat → Rat) (idx : Nat → Nat) {w : List Int} (h : ∀ l, l < d → w.getD (idx l) 0 = 0) : colF d x idx w = 0 :=
  sumQ_zeros d _ fun l hl => by rw [h l hl]; grind

/-- What is 0 on the annihilator has a multiple in the lattice. -/
theorem ann_ann {h m : List (List Int)} {n d : Nat} {ps : Nat → Nat} (hw : Wid n m) (hh : HForm (m.length + n) h ps) (hs : SpEq (m.length + n) (RowsFrom 0 (wideL n m)) (RowsFrom 0 h)) (hd : d ≤ h.length) (h1 : ∀ i, i < d → ps i < m.length) (h2 : ∀ i, d ≤ i → i < h.length → m.length ≤ ps i) {v : List Int} (hv : v.length = n) (hz : ∀ u, Ann n m u → dotZ u v n = 0) :
    ∃ D : Int, D ≠ 0 ∧ Sp n (RowsFrom 0 m) (smulL D v) := by
  obtain ⟨x, hx⟩ := back_sub (k := d) (fun a b => ((getE h a (ps b) : Int) : Rat)) (fun a b hab ha => by
    have : getE h a (ps b) = 0 := hh.2.zero a (by omega) (ps b) (hh.2.mono b a hab (by omega))
    (try simp only); rw [this]; rfl) (fun a ha e => by
    have h4 : getE h a (ps a) = 0 := by exact_mod_cast e
    have := hh.2.pos a (by omega); omega) (fun a => ((dotZ v ((rowE_ h a).drop m.length) n : Int) : Rat)) d (Nat.le_refl _)
  have hc : ∀ c, c < n → ((v.getD c 0 : Int) : Rat) = sumQ d fun l => x l * (((rowE_ m (ps l)).getD c 0 : Int) : Rat) := by
    intro c hc
    have hF := lin_sp (f := fun w => ((dotZ v (w.drop m.length) n : Int) : Rat) - colF d x ps w) (rowsFrom_len (d := 0) hh.1) (by
        (try simp only)
        rw [colF_zero d x ps fun l _ => repl_getD _ _, List.drop_replicate, dotZ_zero]; grind) (fun q a b hl => by
        (try simp only)
        rw [colF_less d x ps q hl, lessL_drop, dotZ_less _ _ (by rw [List.length_drop, List.length_drop, hl]), Rat.intCast_sub, Rat.intCast_mul]; grind) (by
        rintro r ⟨i, -, hi, rfl⟩
        (try simp only)
        by_cases hid : i < d
        · have := hx i (by omega) hid
          unfold colF
          rw [this]
          have e : (sumQ d fun l => x l * (fun a b => ((getE h a (ps b) : Int) : Rat)) i l) = sumQ d fun l => x l * (((rowE_ h i).getD (ps l) 0 : Int) : Rat) := rfl
          rw [e]; grind
        · rw [colF_zero d x ps fun l hl => hh.2.zero i hi (ps l) (by have := h1 l hl; have := h2 i (by omega) hi; omega)]
          have hA := (ker_sp hh hs hd h1 h2 ((rowE_ h i).drop m.length)).1 (by
            have e := rowE_behind (h := h) (k := m.length) (d := d) (i := i - d) (by omega)
            rw [show d + (i - d) = i by omega] at e
            rw [← e]; exact .mem (rowsFrom_mem (Nat.zero_le _) (by simp; omega)))
          rw [dotZ_comm, hz _ hA]; grind)
      (hs.1 _ (rowsFrom_mem (Nat.zero_le c) (by rw [wide_len]; exact hc)))
    (try simp only at hF)
    rw [wide_row hc, List.drop_left' (by simp), dotZ_unit _ _ _ hc, if_pos hc, ← wide_row hc] at hF
    have e : colF d x ps (rowE_ (wideL n m) c) = sumQ d fun l => x l * (((rowE_ m (ps l)).getD c 0 : Int) : Rat) := sumQ_congr fun l hl => by rw [wide_left hc (h1 l hl)]
    rw [e] at hF
    grind
  obtain ⟨D, hD, z, hzz⟩ := clear_den x d
  obtain ⟨w, hw1, hw2⟩ := sp_sum hw ps z d h1
  refine ⟨D, hD, ?_⟩
  have : w = smulL D v := by
    have hwl := hw1.len (rowsFrom_len hw)
    refine ext_getD (by rw [hwl, smulL_len, hv]) fun c => ?_
    by_cases hcn : c < n
    · have e1 := hw2 c
      have e2 : (sumQ d fun l => (z l : Rat) * (((rowE_ m (ps l)).getD c 0 : Int) : Rat)) = (D : Rat) * ((v.getD c 0 : Int) : Rat) := by
        rw [hc c hcn, ← sumQ_mul]
        exact sumQ_congr fun l hl => by rw [← hzz l hl]; grind
      rw [e2] at e1
      rw [smulL_getD]
      exact_mod_cast e1
    · rw [getD_ge (by rw [hwl]; omega), getD_ge (by rw [smulL_len, hv]; omega)]
  rw [← this]; exact hw1

/-- Ranks add up: as many pivots lie ahead as the lattice has rows. -/
theorem ker_rank {h B : List (List Int)} {n d : Nat} {ps qs : Nat → Nat} (hB : HForm n B qs) (hh : HForm (B.length + n) h ps) (hs : SpEq (B.length + n) (RowsFrom 0 (wideL n B)) (RowsFrom 0 h)) (hd : d ≤ h.length) (h1 : ∀ i, i < d → ps i < B.length) (h2 : ∀ i, d ≤ i → i < h.length → B.length ≤ ps i) : d = B.length := by
  have hle : d ≤ B.length := by
    have key : ∀ i, i < d → i ≤ ps i := by
      intro i
      induction i with
      | zero => intro _; omega
      | succ i ih => intro hi; have a1 := ih (by omega); have a2 := hh.2.mono i (i + 1) (by omega) (by omega); omega
    rcases Nat.eq_zero_or_pos d with h0 | h0
    · omega
    · have a1 := key (d - 1) (by omega); have a2 := h1 (d - 1) (by omega); omega
  refine Classical.byContradiction fun hne => ?_
  have hlt : d < B.length := by omega
  -- a column ahead that is no pivot
  obtain ⟨q, hq, hqn⟩ : ∃ q, q < B.length ∧ ∀ i, i < d → ps i ≠ q := by
    refine Classical.byContradiction fun hno => ?_
    have hex : ∀ q, q < B.length → ∃ i, i < d ∧ ps i = q := fun q hq => Classical.byContradiction fun hn => hno ⟨q, hq, fun i hi he => hn ⟨i, hi, he⟩⟩
    have hf : ∃ f : Nat → Nat, ∀ q, q < B.length → f q < d ∧ ps (f q) = q := ⟨fun q => if hq : q < B.length then Classical.choose (hex q hq) else 0, fun q hq => by
      simp only [dif_pos hq]; exact Classical.choose_spec (hex q hq)⟩
    obtain ⟨f, hf⟩ := hf
    rcases Nat.eq_zero_or_pos d with h0 | h0
    · have := (hf 0 (by omega)).1; omega
    · obtain ⟨d', rfl⟩ : ∃ d', d = d' + 1 := ⟨d - 1, by omega⟩
      obtain ⟨a, b, a1, a2, a3⟩ := pigeon (d' + 1) f fun a ha => (hf a (by omega)).1
      have e1 := (hf a (by omega)).2; have e2 := (hf b (by omega)).2
      rw [a3] at e1; omega
  obtain ⟨x, hx⟩ := back_sub (k := d) (fun a b => ((getE h a (ps b) : Int) : Rat)) (fun a b hab ha => by
    have : getE h a (ps b) = 0 := hh.2.zero a (by omega) (ps b) (hh.2.mono b a hab (by omega))
    (try simp only); rw [this]; rfl) (fun a ha e => by
    have h4 : getE h a (ps a) = 0 := by exact_mod_cast e
    have := hh.2.pos a (by omega); omega) (fun a => - ((getE h a q : Int) : Rat)) d (Nat.le_refl _)
  have hc : ∀ c, c < n → (((rowE_ B q).getD c 0 : Int) : Rat) + (sumQ d fun l => x l * (((rowE_ B (ps l)).getD c 0 : Int) : Rat)) = 0 := by
    intro c hc
    have hF := lin_sp (f := fun w => ((w.getD q 0 : Int) : Rat) + colF d x ps w) (rowsFrom_len (d := 0) hh.1) (by
        (try simp only)
        rw [colF_zero d x ps fun l _ => repl_getD _ _, repl_getD]; grind) (fun r a b hl => by
        (try simp only)
        rw [colF_less d x ps r hl, lessL_getD r hl, Rat.intCast_sub, Rat.intCast_mul]; grind) (by
        rintro r ⟨i, -, hi, rfl⟩
        (try simp only)
        by_cases hid : i < d
        · have := hx i (by omega) hid
          have e : (sumQ d fun l => x l * (fun a b => ((getE h a (ps b) : Int) : Rat)) i l) = colF d x ps (rowE_ h i) := rfl
          rw [e] at this
          rw [← this]
          have e2 : (rowE_ h i).getD q 0 = getE h i q := rfl
          rw [e2]; grind
        · rw [colF_zero d x ps fun l hl => hh.2.zero i hi (ps l) (by have := h1 l hl; have := h2 i (by omega) hi; omega)]
          have e : (rowE_ h i).getD q 0 = 0 := hh.2.zero i hi q (by have := h2 i (by omega) hi; omega)
          rw [e]; grind)
      (hs.1 _ (rowsFrom_mem (Nat.zero_le c) (by rw [wide_len]; exact hc)))
    (try simp only at hF)
    rw [wide_left hc hq] at hF
    have e : colF d x ps (rowE_ (wideL n B) c) = sumQ d fun l => x l * (((rowE_ B (ps l)).getD c 0 : Int) : Rat) := sumQ_congr fun l hl => by rw [wide_left hc (h1 l hl)]
    rw [e] at hF; exact hF
  have hz0 : ∀ i j, i < j → j < B.length → (rowE_ B j).getD (qs i) 0 = 0 := fun i j hij hj => hB.2.zero j hj (qs i) (hB.2.mono i j hij hj)
  have hp0 : ∀ i, i < B.length → (((rowE_ B i).getD (qs i) 0 : Int) : Rat) ≠ 0 := fun i hi e => by
    have h4 : getE B i (qs i) = 0 := by unfold getE; exact_mod_cast e
    have := hB.2.pos i hi; omega
  -- all multiples up to q are 0
  have hx0 : ∀ j, j ≤ d → ∀ l, l < j → ps l < q → x l = 0 := by
    intro j
    induction j with
    | zero => intro _ l hl; omega
    | succ j ih =>
      intro hj l hl hlq
      by_cases hlj : l < j
      · exact ih (by omega) l hlj hlq
      · obtain rfl : l = j := by omega
        have e := hc (qs (ps l)) (hB.2.lt _ (h1 l (by omega)))
        rw [hz0 (ps l) q hlq hq, sumQ_one (k := l) (by omega) fun i hi hne => ?_] at e
        · rcases Rat.mul_eq_zero.1 (by grind : x l * (((rowE_ B (ps l)).getD (qs (ps l)) 0 : Int) : Rat) = 0) with h0 | h0
          · exact h0
          · exact absurd h0 (hp0 _ (h1 l (by omega)))
        · rcases Nat.lt_or_ge i l with hil | hil
          · have := hh.2.mono i l hil (by omega)
            rw [ih (by omega) i hil (by omega)]; grind
          · rw [hz0 (ps l) (ps i) (hh.2.mono l i (by omega) (by omega)) (h1 i hi)]; grind
  have e := hc (qs q) (hB.2.lt q hq)
  rw [sumQ_zeros d _ fun l hl => ?_] at e
  · exact hp0 q hq (by grind)
  · rcases Nat.lt_trichotomy (ps l) q with hl' | hl' | hl'
    · rw [hx0 d (Nat.le_refl _) l hl hl']; grind
    · exact absurd hl' (hqn l hl)
    · rw [hz0 q (ps l) hl' (h1 l hl)]; grind
end Go.Proofs.YtjihfabhgcfjnaaGreatDoor
