/- Merged: KerS, KerD, LeadZ. -/
import Derived.Test.YtehknemdfbkimaaGreatDoorDAP
import Derived.Test.YtehknemdfbkimaaGreatDoorDAY
import Derived.Test.YtehknemdfbkimaaGreatDoorDAN
/- The kernel, as package lattice works it out, is there, with bounds; the saturation. No program is named here. -/
namespace Go.Proofs.YtehknemdfbkimaaGreatDoor
set_option linter.unusedVariables false
set_option linter.unusedSimpArgs false
open Go.RowKit

theorem kerS_mono {F F' cols : Nat} {m R : List (List Int)} (hl : F ≤ F') (h : kerS F cols m = some R) : kerS F' cols m = some R := by
  unfold kerS at h ⊢
  by_cases h1 : okM cols m = true
  · rw [if_pos h1] at h ⊢
    cases h2 : formO (m.length + cols) F (m.length + cols) (wideL cols m) with
    | none => rw [h2] at h; cases h
    | some x =>
      rw [h2] at h
      rw [formO_mono hl h2]
      simp only at h ⊢
      by_cases h3 : okM (m.length + cols) x = true
      · rw [if_pos h3] at h ⊢; exact formO_mono hl h
      · rw [if_neg h3] at h; cases h
  · rw [if_neg h1] at h; cases h
/-- The kernel of a matrix: there is a fuel for it; it is in Hermite form, and generates the annihilator. -/
theorem ker_spec (n N b1 b2 : Nat) (m : List (List Int)) (hw : ∀ x ∈ m, x.length = n) (hN : ∀ x ∈ m, RowLe N x) (h1 : 1 ≤ N) (hb1 : N ≤ 10 ^ b1) (hb2 : n * facN N n ≤ 10 ^ b2) (s1 : (gN n b1 0).1 + 1 ≤ 400000000) (s2 : (gN n b1 0).2 + 1 ≤ 400000000) (s3 : (gN n b2 0).1 + 1 ≤ 400000000) (s4 : (gN n b2 0).2 + 1 ≤ 400000000) :
    ∃ F T qs, kerS F n m = some T ∧ HForm n T qs ∧ (∀ v, Sp n (RowsFrom 0 T) v ↔ Ann n m v) ∧ (∀ x ∈ T, RowLe (n * facN N n) x ∧ x.length = n) ∧ T.length ≤ n ∧
      (∀ ms, HForm n m ms → T.length + m.length = n) ∧ (∀ v, v.length = n → (∀ u, Ann n m u → dotZ u v n = 0) → ∃ D : Int, D ≠ 0 ∧ Sp n (RowsFrom 0 m) (smulL D v)) := by
  have hWm : Wid n m := fun i hi => hw _ (rowE_mem hi)
  have hb1' : ∀ x ∈ m, RowLe (10 ^ b1) x := fun x hx => (hN x hx).mono hb1
  obtain ⟨F1, h, ps, f1, f2, f3, -, f5⟩ := form_all (m.length + n) n b1 (wideL n m) (fun x hx => by
      obtain ⟨i, hi, rfl⟩ := mem_rowE hx; exact wide_wid n m i hi) (wide_le (Nat.pos_of_ne_zero (by simp)) hb1') (.inl (by rw [wide_len]; exact Nat.le_refl _)) s1 s2
  rw [wide_len] at f2
  have hn := wide_rows f3 f5
  have hhl : h.length = n := by omega
  have hbd := form_bound (N := N) f3 (wide_wid n m) (fun i hi => wide_le h1 hN _ (rowE_mem hi)) f5
  rw [hhl] at hbd
  obtain ⟨d, d1, d2, d3⟩ := piv_split f3 m.length
  have hT := behind_form f3 d1 d2 d3
  have hTl : ((h.drop d).map (·.drop m.length)).length = n - d := by simp [hhl]
  have hTb : ∀ x ∈ (h.drop d).map (·.drop m.length), RowLe (n * facN N n) x ∧ x.length = n := by
    intro x hx
    obtain ⟨i, hi, rfl⟩ := mem_rowE hx
    refine ⟨?_, hT.1 i hi⟩
    rw [hTl] at hi
    rw [rowE_behind (by omega)]
    exact fun y hy => hbd (d + i) (by omega) y (List.mem_of_mem_drop hy)
  obtain ⟨F2, T', qs', g1, g2, g3, -, g5⟩ := form_all n n b2 ((h.drop d).map (·.drop m.length)) (fun x hx => (hTb x hx).2) (fun x hx => (hTb x hx).1.mono hb2) (.inr (Nat.le_refl _)) s3 s4
  have hTT : T' = (h.drop d).map (·.drop m.length) := hform_unique g3 hT g5.symm
  refine ⟨F1 + F2, _, _, ?_, hT, ker_sp f3 f5 d1 d2 d3, hTb, by rw [hTl]; omega, fun ms hms => ?_, fun v hv hz => ann_ann hWm f3 f5 d1 d2 d3 hv hz⟩
  · unfold kerS
    have hgl := gN_le n b1 0
    rw [if_pos (okM_of' hw hb1' (by omega)), formO_mono (Nat.le_add_right F1 F2) f1]
    simp only
    have hgl2 := gN_le n b2 0
    rw [if_pos (okM_of' (b := b2) (fun x hx => by obtain ⟨i, hi, rfl⟩ := mem_rowE hx; exact f3.1 i hi) (fun x hx => by
      obtain ⟨i, hi, rfl⟩ := mem_rowE hx; exact (hbd i (by omega)).mono hb2) (by omega)), behind_drop f3 d2 d3, formO_mono (Nat.le_add_left F2 F1) g1, hTT]
  · have := ker_rank hms f3 f5 d1 d2 d3
    rw [hTl]; omega

end Go.Proofs.YtehknemdfbkimaaGreatDoor
/- The annihilator and the saturation of the lattice of small rows: forms of each other's kernels, with bounds. No program is named here. -/
namespace Go.Proofs.YtehknemdfbkimaaGreatDoor
set_option linter.unusedVariables false
set_option linter.unusedSimpArgs false
open Go.RowKit

/-- A lattice's basis R, its annihilator A and its saturation S, all in Hermite form. -/
structure DualF (n F : Nat) (R A S : List (List Int)) : Prop where
  fA : ∃ qa, HForm n A qa
  fS : ∃ ss, HForm n S ss
  spA : ∀ v, Sp n (RowsFrom 0 A) v ↔ Ann n R v
  spS : ∀ v, Sp n (RowsFrom 0 S) v ↔ Sat n R v
  kR : kerS F n R = some A
  kA : kerS F n A = some S
  kS : kerS F n S = some A
  rR : A.length + R.length = n
  rS : A.length + S.length = n
  bA : ∀ x ∈ A, RowLe 629856 x ∧ x.length = n
  bS : ∀ x ∈ S, RowLe 629856 x ∧ x.length = n
theorem le629 {k : Nat} (hk : k ≤ 4) : k * facN 9 k ≤ 629856 := by
  have hc : k = 0 ∨ k = 1 ∨ k = 2 ∨ k = 3 ∨ k = 4 := by omega
  rcases hc with h | h | h | h | h <;> rw [h] <;> decide
theorem le26 {n : Nat} (hn : n ≤ 4) : n * facN 629856 n ≤ 10 ^ 26 := by
  have hc : n = 0 ∨ n = 1 ∨ n = 2 ∨ n = 3 ∨ n = 4 := by omega
  rcases hc with h | h | h | h | h <;> rw [h] <;> decide
theorem gsz {n : Nat} (hn : n ≤ 4) : (gN n 6 0).1 + 1 ≤ 400000000 ∧ (gN n 6 0).2 + 1 ≤ 400000000 ∧ (gN n 26 0).1 + 1 ≤ 400000000 ∧ (gN n 26 0).2 + 1 ≤ 400000000 := by
  have hc : n = 0 ∨ n = 1 ∨ n = 2 ∨ n = 3 ∨ n = 4 := by omega
  rcases hc with h | h | h | h | h <;> rw [h] <;> decide
theorem hform_len {n : Nat} {R : List (List Int)} {ps : Nat → Nat} (h : HForm n R ps) : R.length ≤ n := by
  have key : ∀ i, i < R.length → i ≤ ps i := by
    intro i
    induction i with
    | zero => intro _; omega
    | succ i ih => intro hi; have h1 := ih (by omega); have h2 := h.2.mono i (i + 1) (by omega) hi; omega
  rcases Nat.eq_zero_or_pos R.length with h0 | h0
  · omega
  · have h1 := key (R.length - 1) (by omega)
    have h2 := h.2.lt (R.length - 1) (by omega)
    omega
theorem smulL_one (v : List Int) : smulL 1 v = v := by
  unfold smulL; rw [List.map_congr_left (g := id) (fun x _ => by simp)]; simp
theorem sp_sat {n : Nat} {m : List (List Int)} (hm : Wid n m) {v : List Int} (h : Sp n (RowsFrom 0 m) v) : Sat n m v :=
  ⟨h.len (rowsFrom_len hm), 1, by decide, by rw [smulL_one]; exact h⟩
theorem ann_sat {n : Nat} {m : List (List Int)} (hm : Wid n m) {v u : List Int} (h : Sat n m v) (hu : Ann n m u) : dotZ v u n = 0 := by
  obtain ⟨-, D, hD, hs⟩ := h
  have := ann_sp hm hs hu
  rw [dotZ_comm, dotZ_smul, dotZ_comm] at this
  rcases Int.mul_eq_zero.1 this with h | h
  · exact absurd h hD
  · exact h
/-- One form for one lattice. -/
theorem hform_same {n : Nat} {R T : List (List Int)} {ps qs : Nat → Nat} (hR : HForm n R ps) (hT : HForm n T qs) (h : ∀ v, Sp n (RowsFrom 0 R) v ↔ Sp n (RowsFrom 0 T) v) : R = T :=
  hform_unique hR hT ⟨fun r hr => (h r).1 (.mem hr), fun r hr => (h r).2 (.mem hr)⟩
theorem plan_dual {n : Nat} {m R : List (List Int)} {ps : Nat → Nat} (hn : n ≤ 4) (hw : ∀ x ∈ m, x.length = n) (h9 : ∀ x ∈ m, RowLe 9 x) (hR : HForm n R ps) (hs : SpEq n (RowsFrom 0 m) (RowsFrom 0 R)) : ∃ F A S, DualF n F R A S := by
  have hWm : Wid n m := fun i hi => hw _ (rowE_mem hi)
  have hg := gsz hn
  have hbR : ∀ x ∈ R, RowLe 629856 x := fun x hx => by
    obtain ⟨i, hi, rfl⟩ := mem_rowE hx
    exact (form_bound (N := 9) hR hWm (fun j hj => h9 _ (rowE_mem hj)) hs i hi).mono (le629 (by have := hform_len hR; omega))
  have hlR : ∀ x ∈ R, x.length = n := fun x hx => by obtain ⟨i, hi, rfl⟩ := mem_rowE hx; exact hR.1 i hi
  obtain ⟨F1, A, qa, a1, a2, a3, -, a5, a6, a7⟩ := ker_spec n 629856 6 26 R hlR hbR (by decide) (by decide) (le26 hn) hg.1 hg.2.1 hg.2.2.1 hg.2.2.2
  obtain ⟨-, A', qa', -, b2, b3, b4, -, -, -⟩ := ker_spec n 9 6 26 m hw h9 (by decide) (by decide) (Nat.le_trans (le629 hn) (by decide)) hg.1 hg.2.1 hg.2.2.1 hg.2.2.2
  have hAA : A = A' := hform_same a2 b2 fun v => by rw [a3, b3]; exact (ann_iff hWm hR.1 hs v).symm
  have hbA : ∀ x ∈ A, RowLe 629856 x ∧ x.length = n := fun x hx => by
    have := b4 x (by rw [← hAA]; exact hx)
    exact ⟨this.1.mono (le629 hn), this.2⟩
  obtain ⟨F2, S, ss, c1, c2, c3, -, c5, c6, c7⟩ := ker_spec n 629856 6 26 A (fun x hx => (hbA x hx).2) (fun x hx => (hbA x hx).1) (by decide) (by decide) (le26 hn) hg.1 hg.2.1 hg.2.2.1 hg.2.2.2
  have hsat : ∀ v, Sp n (RowsFrom 0 S) v ↔ Sat n R v := by
    intro v
    rw [c3]
    constructor
    · intro hv
      obtain ⟨D, hD, h⟩ := a7 v hv.1 fun u hu => ann_sp a2.1 ((a3 u).2 hu) hv
      exact ⟨hv.1, D, hD, h⟩
    · intro hv
      refine ⟨hv.1, fun i hi => ?_⟩
      rw [dotZ_comm]
      exact ann_sat hR.1 hv ((a3 _).1 (.mem (rowsFrom_mem (Nat.zero_le i) hi)))
  have hbS : ∀ x ∈ S, RowLe 629856 x ∧ x.length = n := fun x hx => by
    obtain ⟨i, hi, rfl⟩ := mem_rowE hx
    refine ⟨(form_bound_of (N := 9) (m := m) c2 (fun j hj => h9 _ (rowE_mem hj)) (fun r hr => (hsat r).2 (sp_sat hR.1 (hs.1 r hr))) (scaled_minor c2 hWm fun j hj => ?_) i hi).mono (le629 (by omega)), c2.1 i hi⟩
    obtain ⟨-, D, hD, h⟩ := (hsat _).1 (.mem (rowsFrom_mem (Nat.zero_le j) hj))
    exact ⟨D, hD, (hs.iff _).2 h⟩
  obtain ⟨F3, B, bs, d1, d2, d3, -, d5, d6, d7⟩ := ker_spec n 629856 6 26 S (fun x hx => (hbS x hx).2) (fun x hx => (hbS x hx).1) (by decide) (by decide) (le26 hn) hg.1 hg.2.1 hg.2.2.1 hg.2.2.2
  have hBA : B = A := hform_same d2 a2 fun v => by
    rw [d3, a3]
    constructor
    · intro hv
      refine ⟨hv.1, fun i hi => ?_⟩
      have := ann_sp c2.1 ((hsat _).2 (sp_sat hR.1 (.mem (rowsFrom_mem (Nat.zero_le i) hi)))) hv
      exact this
    · intro hv
      refine ⟨hv.1, fun i hi => ?_⟩
      exact ann_sat hR.1 ((hsat _).1 (.mem (rowsFrom_mem (Nat.zero_le i) hi))) hv
  rw [hBA] at d1 d6
  exact ⟨F1 + F2 + F3, A, S, ⟨qa, a2⟩, ⟨ss, c2⟩, a3, hsat, kerS_mono (by omega) a1, kerS_mono (by omega) c1, kerS_mono (by omega) d1, a6 ps hR, d6 ss c2, hbA, hbS⟩
end Go.Proofs.YtehknemdfbkimaaGreatDoor
/- A row without a leading element is a row of zeros; a row of a lattice leaves nothing. No program is named here. -/
namespace Go.Proofs.YtehknemdfbkimaaGreatDoor
set_option linter.unusedVariables false
set_option linter.unusedSimpArgs false
open Go.RowKit

theorem leadL_zeros (n : Nat) {s : List Int} (hs : s.length = n) : leadL s < 0 ↔ s = List.replicate n 0 := by
  unfold leadL
  constructor
  · intro h
    cases hf : s.findIdx? (· != 0) with
    | some i => rw [hf] at h; simp only at h; omega
    | none =>
      rw [List.findIdx?_eq_none_iff] at hf
      exact List.eq_replicate_iff.2 ⟨hs, fun x hx => by simpa using hf x hx⟩
  · intro h
    have : s.findIdx? (· != 0) = none := by
      rw [List.findIdx?_eq_none_iff]
      intro x hx
      rw [h] at hx
      rw [(List.mem_replicate.1 hx).2]; rfl
    rw [this]; decide
theorem has_row {n : Nat} {R : List (List Int)} {ps : Nat → Nat} (hR : HForm n R ps) (h4 : R.length ≤ 4) (hb : ∀ x ∈ R, RowLe 629856 x ∧ x.length = n) {x : List Int} (hx : x.length = n) (hxb : RowLe 1000000000 x) (hsp : Sp n (RowsFrom 0 R) x) : ∃ s ms, redO R x R.length = some (s, ms) ∧ leadL s < 0 := by
  obtain ⟨s, ms, e1, e2, e3, e4, e5⟩ := plan_red hR h4 hb hx hxb
  exact ⟨s, ms, e1, (leadL_zeros n e2).2 ((red_zero hR hx e2 e4 e5).2 hsp)⟩
end Go.Proofs.YtehknemdfbkimaaGreatDoor
