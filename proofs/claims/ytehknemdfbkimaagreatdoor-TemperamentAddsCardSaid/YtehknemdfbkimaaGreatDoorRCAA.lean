/- Merged: TSpanP, TAddP, TAddQ. -/
import Derived.Test.YtehknemdfbkimaaGreatDoorQBJ
/- Law 18, plain: what the temperaments of commas and of mappings temper out. -/
namespace Go.Proofs.YtehknemdfbkimaaGreatDoor
set_option linter.unusedVariables false
set_option linter.unusedSimpArgs false
open Go.RowKit

theorem sat_of {n : Nat} {m : List (List Int)} (hm : ∀ x ∈ m, x.length = n) {x : List Int} (hx : x ∈ m) : Sat n m x := by
  refine ⟨hm x hx, 1, by decide, ?_⟩
  have : smulL 1 x = x := by unfold smulL; simp
  rw [this]
  exact sp_row hx
end Go.Proofs.YtehknemdfbkimaaGreatDoor
/- Law 18, plain: intervals are identified exactly if they have the same representative. -/
namespace Go.Proofs.YtehknemdfbkimaaGreatDoor
set_option linter.unusedVariables false
set_option linter.unusedSimpArgs false
open Go.RowKit

theorem ker_out {n F : Nat} {P : List Int} {m C M : List (List Int)} {vals : Bool} (hn : n ≤ 4) (hm : ∀ x ∈ m, x.length = n) (h9 : ∀ x ∈ m, RowLe 9 x) (hT : TempF n F P m C M vals) {v : List Int} (h : Ann n M v) : Sp n (RowsFrom 0 C) v := by
  have hW : Wid n m := fun i hi => hm _ (rowE_mem hi)
  have hWM : Wid n M := fun i hi => (hT.right.bM _ (rowE_mem hi)).2
  rw [hT.spC]
  cases vals
  · simp only [Bool.false_eq_true, if_false]
    have hg := gsz hn
    obtain ⟨-, T, qs, -, -, -, -, -, -, b7⟩ := ker_spec n 9 6 26 m hm h9 (by decide) (by decide) (Nat.le_trans (le629 hn) (by decide)) hg.1 hg.2.1 hg.2.2.1 hg.2.2.2
    obtain ⟨D, hD, hs⟩ := b7 v h.1 fun u hu => ann_sp hWM ((hT.spM u).2 (by simpa using hu)) h
    exact ⟨h.1, D, hD, hs⟩
  · simp only [if_true]
    exact ⟨h.1, fun i hi => ann_sp hWM ((hT.spM _).2 (by simpa using sat_of hm (rowE_mem hi))) h⟩
theorem out_ker {n F : Nat} {P : List Int} {m C M : List (List Int)} {vals : Bool} (hm : ∀ x ∈ m, x.length = n) (hT : TempF n F P m C M vals) {v : List Int} (h : Sp n (RowsFrom 0 C) v) {r : List Int} (hr : r ∈ M) : dotZ r v n = 0 := by
  have hW : Wid n m := fun i hi => hm _ (rowE_mem hi)
  have h1 := (hT.spC v).1 h
  have h2 := (hT.spM r).1 (sp_row hr)
  cases vals
  · simp only [Bool.false_eq_true, if_false] at h1 h2
    exact orth_of hW h1 h2
  · simp only [if_true] at h1 h2
    rw [dotZ_comm]
    exact orth_of hW h2 h1
theorem tem_eq {n F : Nat} {P : List Int} {m C M : List (List Int)} {vals : Bool} (hn : n ≤ 4) (hm : ∀ x ∈ m, x.length = n) (h9 : ∀ x ∈ m, RowLe 9 x) (hT : TempF n F P m C M vals) {x y : List Int} (hx : x.length = n) (hy : y.length = n) : temL M x n = temL M y n ↔ Sp n (RowsFrom 0 C) (lessL 1 x y) := by
  have hl : y.length = x.length := by omega
  constructor
  · intro h
    refine ker_out hn hm h9 hT ⟨by rw [lessL_len]; exact hx, fun i hi => ?_⟩
    have h2 : dotZ x (rowE_ M i) n = dotZ y (rowE_ M i) n := List.map_inj_left.1 h _ (rowE_mem hi)
    rw [dotZ_less _ _ hl, dotZ_comm _ x, dotZ_comm _ y, h2]
    omega
  · intro h
    refine List.map_congr_left fun r hr => ?_
    have h2 := out_ker hm hT h hr
    rw [dotZ_less _ _ hl, dotZ_comm r x, dotZ_comm r y] at h2
    omega
/-- The law. -/
theorem same_repr {n F : Nat} {P : List Int} {m C M : List (List Int)} {vals : Bool} {ps : Nat → Nat} (hn : n ≤ 4) (hm : ∀ x ∈ m, x.length = n) (h9 : ∀ x ∈ m, RowLe 9 x) (hT : TempF n F P m C M vals) (hC : HForm n C ps) {x y s t : List Int} (hx : x.length = n) (hy : y.length = n)
    (h1 : s.length = n ∧ Sp n (RowsFrom 0 C) (lessL 1 x s) ∧ RedP C ps C.length s) (h2 : t.length = n ∧ Sp n (RowsFrom 0 C) (lessL 1 y t) ∧ RedP C ps C.length t) :
    (temL M x n == temL M y n) = (s == t) ∧ temL M x n = temL M s n := by
  refine ⟨?_, (tem_eq hn hm h9 hT hx h1.1).2 h1.2.1⟩
  rw [Bool.eq_iff_iff, beq_iff_eq, beq_iff_eq, tem_eq hn hm h9 hT hx hy, red_same hC hx hy h1.1 h2.1 h1.2.1 h2.2.1 h1.2.2 h2.2.2]
end Go.Proofs.YtehknemdfbkimaaGreatDoor
/- Law 18, plain: the representatives of small intervals are small. No program is named here. -/
namespace Go.Proofs.YtehknemdfbkimaaGreatDoor
set_option linter.unusedVariables false
set_option linter.unusedSimpArgs false
open Go.RowKit

theorem le7 {k : Nat} (hk : k ≤ 4) : 9 + k * (facN 9 k * (9 + 1)) ≤ 1000000000 := by
  have hc : k = 0 ∨ k = 1 ∨ k = 2 ∨ k = 3 ∨ k = 4 := by omega
  rcases hc with h | h | h | h | h <;> rw [h] <;> decide
/-- Modulo the saturation. -/
theorem sat_bound {n : Nat} {m S : List (List Int)} {ss : Nat → Nat} (hn : n ≤ 4) (hw : ∀ x ∈ m, x.length = n) (h9 : ∀ x ∈ m, RowLe 9 x) (hS : HForm n S ss) (hsp : ∀ v, Sp n (RowsFrom 0 S) v ↔ Sat n m v) {v s : List Int} (hv : v.length = n) (hA : RowLe 9 v) (hsl : s.length = n) (hd : Sp n (RowsFrom 0 S) (lessL 1 v s)) (hr : RedP S ss S.length s) : RowLe 1000000000 s := by
  have hWm : Wid n m := fun i hi => hw _ (rowE_mem hi)
  have hmin : ∀ T : Nat → Nat, ∃ z : Int, phi S.length T (rowE_ S) = (z : Rat) ∧ z.natAbs ≤ facN 9 S.length := fun T =>
    minor_le_of hS (fun j hj => h9 _ (rowE_mem hj)) (fun r hr => (hsp r).2 (sp_sat hWm (.mem hr))) (scaled_minor hS hWm fun j hj => by
      obtain ⟨-, D, hD, h⟩ := (hsp _).1 (.mem (rowsFrom_mem (Nat.zero_le j) hj))
      exact ⟨D, hD, h⟩) T
  exact (red_bound_of hS hmin hv hA hsl hd hr).mono (le7 (by have := hform_len hS; omega))
theorem pad_getD (k : Nat) (u : List Int) (c : Nat) : (List.replicate k (0 : Int) ++ u).getD c 0 = if c < k then 0 else u.getD (c - k) 0 := by
  by_cases h : c < k
  · rw [if_pos h, app_left (by simpa using h), repl_getD]
  · rw [if_neg h, app_right (by simp; omega), List.length_replicate]
theorem pad_less (k : Nat) {v s : List Int} (hl : s.length = v.length) : lessL 1 (List.replicate k 0 ++ v) (List.replicate k 0 ++ s) = List.replicate k 0 ++ lessL 1 v s := by
  refine ext_getD (by rw [lessL_len, List.length_append, List.length_append, lessL_len]) fun c => ?_
  rw [lessL_getD 1 (by simp [hl]), pad_getD, pad_getD, pad_getD]
  by_cases h : c < k
  · rw [if_pos h, if_pos h, if_pos h]; rfl
  · rw [if_neg h, if_neg h, if_neg h, lessL_getD 1 hl]
/-- Modulo the annihilator. -/
theorem ann_bound {n : Nat} {m A : List (List Int)} {qa : Nat → Nat} (hn : n ≤ 4) (hw : ∀ x ∈ m, x.length = n) (h9 : ∀ x ∈ m, RowLe 9 x) (hA : HForm n A qa) (hsp : ∀ v, Sp n (RowsFrom 0 A) v ↔ Ann n m v) {v s : List Int} (hv : v.length = n) (hB : RowLe 9 v) (hsl : s.length = n) (hd : Sp n (RowsFrom 0 A) (lessL 1 v s)) (hr : RedP A qa A.length s) : RowLe 1000000000 s := by
  have hWm : Wid n m := fun i hi => hw _ (rowE_mem hi)
  have hg := gsz hn
  have h9w : ∀ x ∈ wideL n m, RowLe 9 x := wide_le (by decide) h9
  obtain ⟨F1, h, ps, f1, f2, f3, -, f5⟩ := form_all (m.length + n) n 6 (wideL n m) (fun x hx => by
      obtain ⟨i, hi, rfl⟩ := mem_rowE hx; exact wide_wid n m i hi) (fun x hx => (h9w x hx).mono (by decide)) (.inl (by rw [wide_len]; exact Nat.le_refl _)) hg.1 hg.2.1
  rw [wide_len] at f2
  have hhl : h.length = n := by have := wide_rows f3 f5; omega
  obtain ⟨d, d1, d2, d3⟩ := piv_split f3 m.length
  have hT := behind_form f3 d1 d2 d3
  have hTA : (h.drop d).map (·.drop m.length) = A := hform_same hT hA fun v => by rw [ker_sp f3 f5 d1 d2 d3 v, hsp v]
  have hTl : A.length = n - d := by rw [← hTA]; simp [hhl]
  have hl : s.length = v.length := by omega
  have hann := (hsp _).1 hd
  have hw' : WideP n m (List.replicate m.length 0 ++ lessL 1 v s) := by
    refine ⟨by rw [List.length_append, List.length_replicate, hann.1], fun i hi => ?_⟩
    rw [app_left (by simpa using hi), repl_getD, List.drop_left' (by simp), hann.2 i hi]
  have h3 := (f5.iff _).1 (sp_wide hw')
  rw [← pad_less m.length hl] at h3
  have hred : RedP h ps h.length (List.replicate m.length 0 ++ s) := by
    intro j hj
    have hp := f3.2.pos j hj
    rw [pad_getD]
    by_cases hjd : j < d
    · rw [if_pos (d2 j hjd)]
      exact ⟨Int.le_refl _, hp⟩
    · have hk := d3 j (by omega) hj
      rw [if_neg (by omega)]
      have hi : j - d < A.length := by rw [hTl]; omega
      have h1 := hr (j - d) hi
      have e1 := hform_lead hA hi
      rw [← hTA] at e1 hi
      have e2 := hform_lead hT hi
      rw [e2] at e1
      have e3 : ps (d + (j - d)) - m.length = qa (j - d) := by exact_mod_cast e1
      rw [show d + (j - d) = j by omega] at e3
      rw [← e3] at h1
      refine ⟨h1.1, ?_⟩
      have e4 : getE A (j - d) (ps j - m.length) = getE h j (ps j) := by
        unfold getE
        rw [← hTA, rowE_behind (by omega), drop_getD, show d + (j - d) = j by omega, show m.length + (ps j - m.length) = ps j by omega]
      rw [← e4]; exact h1.2
  have hb := (red_bound (N := 9) (A := 9) f3 (wide_wid n m) (fun i hi => h9w _ (rowE_mem hi)) f5 (v := List.replicate m.length 0 ++ v) (s := List.replicate m.length 0 ++ s) (by simp [hv]) (fun y hy => by
    rcases List.mem_append.1 hy with h | h
    · rw [(List.mem_replicate.1 h).2]; decide
    · exact hB y h) (by simp [hsl]) h3 hred).mono (le7 (by omega))
  exact fun y hy => hb y (List.mem_append.2 (.inr hy))
/-- The representative of a small interval of a temperament of small rows. -/
theorem repr_bound {n F : Nat} {P : List Int} {m C M : List (List Int)} {vals : Bool} {ps : Nat → Nat} (hn : n ≤ 4) (hm : ∀ x ∈ m, x.length = n) (h9 : ∀ x ∈ m, RowLe 9 x) (hT : TempF n F P m C M vals) (hC : HForm n C ps) {x s : List Int} (hx : x.length = n) (hA : RowLe 9 x) (h : s.length = n ∧ Sp n (RowsFrom 0 C) (lessL 1 x s) ∧ RedP C ps C.length s) : RowLe 1000000000 s := by
  have hsp := hT.spC
  cases vals
  · exact sat_bound hn hm h9 hC (by simpa using hsp) hx hA h.1 h.2.1 h.2.2
  · exact ann_bound hn hm h9 hC (by simpa using hsp) hx hA h.1 h.2.1 h.2.2
theorem tem_bound {n : Nat} {x : List Int} {M : List (List Int)} {N : Nat} (hn : n ≤ 4) (hx : RowLe N x) (hM : ∀ r ∈ M, RowLe 629856 r) : RowLe (4 * (N * 629856)) (temL M x n) := by
  intro y hy
  obtain ⟨r, hr, rfl⟩ := List.mem_map.1 hy
  exact Nat.le_trans (dotZ_bound2 hx (hM r hr) n) (Nat.mul_le_mul_right _ hn)
end Go.Proofs.YtehknemdfbkimaaGreatDoor
