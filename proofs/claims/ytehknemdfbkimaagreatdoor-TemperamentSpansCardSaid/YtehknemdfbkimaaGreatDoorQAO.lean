/- Merged: GrowL, GrowM. -/
import Derived.Test.YtehknemdfbkimaaGreatDoorQAL
import Derived.Test.YtehknemdfbkimaaGreatDoorQAN
/- The lattice of a plan: its form, and the classes of rows. No program is named here. -/
namespace Go.Proofs.YtehknemdfbkimaaGreatDoor
set_option linter.unusedVariables false
set_option linter.unusedSimpArgs false
open Go.RowKit

theorem rowE_mem {m : List (List Int)} {i : Nat} (hi : i < m.length) : rowE_ m i ∈ m := List.mem_of_getElem? (rowE_get hi)
theorem mem_rowE {m : List (List Int)} {x : List Int} (hx : x ∈ m) : ∃ i, i < m.length ∧ rowE_ m i = x := by
  obtain ⟨i, hi⟩ := List.getElem?_of_mem hx
  exact ⟨i, (List.getElem?_eq_some_iff.1 hi).1, rowE_of hi⟩
theorem smB_small {x : Int} (h : x.natAbs ≤ 1000000000) : smB x = true := smB_of (K := 10) (by decide) (by decide) (Nat.lt_of_le_of_lt h (by decide))
theorem all_smB {r : List Int} (h : RowLe 1000000000 r) : r.all smB = true := by
  rw [List.all_eq_true]; exact fun x hx => smB_small (h x hx)
theorem okRow_of {r : List Int} (hl : r.length ≤ 64) (h : RowLe 1000000000 r) : okRow r := ⟨hl, fun x hx => by have := h x hx; omega⟩
theorem allE_of {n : Nat} : ∀ {R : List (List Int)}, (∀ r ∈ R, okRow r ∧ r.length = n) → allE n R = 0
  | [], _ => rfl
  | r :: l, h => by
    have hr := h r (by simp)
    unfold allE
    rw [if_pos ((rowE_zero r).2 hr.1), if_pos (by omega)]
    exact allE_of fun x hx => h x (by simp [hx])

/-- The form of few small rows. -/
theorem plan_form (n : Nat) (m : List (List Int)) (hn : n ≤ 12) (hm : m.length ≤ 4) (hw : ∀ x ∈ m, x.length = n) (h9 : ∀ x ∈ m, RowLe 9 x) :
    ∃ F R ps, formO n F n m = some R ∧ HForm n R ps ∧ R.length ≤ 4 ∧ (∀ x ∈ R, RowLe 629856 x ∧ x.length = n) ∧ SpEq n (RowsFrom 0 m) (RowsFrom 0 R) ∧ chkE n R = 0 ∧ ∃ F', formO n F' n R = some R := by
  obtain ⟨F, R, ps, h1, h2, h3, -, h5⟩ := form_all n 4 1 m hw (fun x hx => (h9 x hx).mono (by decide)) (.inl hm) (by decide) (by decide)
  have hR4 : R.length ≤ 4 := by omega
  have hb : ∀ x ∈ R, RowLe 629856 x ∧ x.length = n := by
    intro x hx
    obtain ⟨i, hi, rfl⟩ := mem_rowE hx
    refine ⟨(form_bound (N := 9) h3 (fun j hj => hw _ (rowE_mem hj)) (fun j hj => h9 _ (rowE_mem hj)) h5 i hi).mono ?_, h3.1 i hi⟩
    have hc : R.length = 0 ∨ R.length = 1 ∨ R.length = 2 ∨ R.length = 3 ∨ R.length = 4 := by omega
    rcases hc with h | h | h | h | h <;> rw [h] <;> decide
  have hk : chkE n R = 0 := by
    unfold chkE
    have hl : latE n R = 0 := by
      unfold latE
      rw [if_neg (by omega), if_neg (by omega)]
      exact allE_of fun r hr => ⟨okRow_of (by have := (hb r hr).2; omega) ((hb r hr).1.mono (by decide)), (hb r hr).2⟩
    rw [if_pos hl, if_pos (hform_herm h3)]
  refine ⟨F, R, ps, h1, h3, hR4, hb, h5, hk, ?_⟩
  obtain ⟨F', R', ps', g1, g2, g3, -, g5⟩ := form_all n 4 6 R (fun x hx => (hb x hx).2) (fun x hx => (hb x hx).1.mono (by decide)) (.inl hR4) (by decide) (by decide)
  exact ⟨F', by rw [g1, hform_unique g3 h3 g5.symm]⟩

/-- A small row, reduced. -/
theorem plan_red {n : Nat} {R : List (List Int)} {ps : Nat → Nat} (hR : HForm n R ps) (h4 : R.length ≤ 4) (hb : ∀ x ∈ R, RowLe 629856 x ∧ x.length = n) {v : List Int} (hv : v.length = n) (hva : RowLe 1000000000 v) :
    ∃ s ms, redO R v R.length = some (s, ms) ∧ s.length = n ∧ s.all smB = true ∧ Sp n (RowsFrom 0 R) (lessL 1 v s) ∧ RedP R ps R.length s := by
  have hk : 10 + R.length * (6 + 1) + 1 ≤ 100 := by omega
  obtain ⟨s, ms, e1, e2, e3, e4, e5⟩ := red_ok (K := 100) (e := 6) (a := 10) (by decide) hR (fun i hi => (hb _ (rowE_mem hi)).1.mono (by decide)) hv (hva.mono (by decide)) (by decide) R.length (Nat.le_refl _) hk
  refine ⟨s, ms, e1, e2, ?_, e4, e5⟩
  rw [List.all_eq_true]
  exact fun x hx => smB_of (K := 100) (by decide) (by decide) (Nat.lt_of_le_of_lt (e3 x hx) (Nat.pow_lt_pow_right (by decide) (by omega)))
/-- A row without a first element is a row of zeros. -/
theorem lead_none {n : Nat} {s : List Int} (hs : s.length = n) : leadL s < 0 ↔ s = List.replicate n 0 := by
  unfold leadL
  cases hf : s.findIdx? (· != 0) with
  | none =>
    simp only
    refine ⟨fun _ => ?_, fun _ => by decide⟩
    rw [List.findIdx?_eq_none_iff] at hf
    refine List.eq_replicate_iff.2 ⟨hs, fun x hx => ?_⟩
    simpa using hf x hx
  | some i =>
    simp only
    refine ⟨fun h => by omega, fun h => ?_⟩
    obtain ⟨hi, h1, -⟩ := List.findIdx?_eq_some_iff_getElem.1 hf
    subst h
    simp at h1
/-- The law of the classes. -/
theorem class_law {n : Nat} {R : List (List Int)} {ps : Nat → Nat} (hR : HForm n R ps) {x y d r s t : List Int} (hx : x.length = n) (hy : y.length = n) (hd : d = lessL 1 x y)
    (h1 : r.length = n ∧ Sp n (RowsFrom 0 R) (lessL 1 x r) ∧ RedP R ps R.length r) (h2 : s.length = n ∧ Sp n (RowsFrom 0 R) (lessL 1 y s) ∧ RedP R ps R.length s) (h3 : t.length = n ∧ Sp n (RowsFrom 0 R) (lessL 1 d t) ∧ RedP R ps R.length t) :
    (r == s) = decide (leadL t < 0) := by
  have e1 := red_same hR hx hy h1.1 h2.1 h1.2.1 h2.2.1 h1.2.2 h2.2.2
  have hdl : d.length = n := by rw [hd, lessL_len]; exact hx
  have e2 := red_zero hR hdl h3.1 h3.2.1 h3.2.2
  rw [hd] at e2
  have e3 := lead_none h3.1
  have e4 : r = s ↔ leadL t < 0 := by rw [e1, e3, e2]
  by_cases h : r = s
  · rw [decide_eq_true (e4.1 h)]; simpa using h
  · rw [decide_eq_false (fun h' => h (e4.2 h'))]; simpa using h
/-- The row of zeros is its own representative. -/
theorem zero_law {n : Nat} {R : List (List Int)} {ps : Nat → Nat} (hR : HForm n R ps) {s : List Int} (h1 : s.length = n ∧ Sp n (RowsFrom 0 R) (lessL 1 (List.replicate n 0) s) ∧ RedP R ps R.length s) : s = List.replicate n 0 :=
  (red_zero hR (by simp) h1.1 h1.2.1 h1.2.2).2 .zero
end Go.Proofs.YtehknemdfbkimaaGreatDoor
/- A reduced row is bounded. No program is named here. -/
namespace Go.Proofs.YtehknemdfbkimaaGreatDoor
set_option linter.unusedVariables false
set_option linter.unusedSimpArgs false
open Go.RowKit

/-- Each column of a form is a combination of those of the pivots. -/
theorem col_comb {n N : Nat} {m R : List (List Int)} {ps : Nat → Nat} (hR : HForm n R ps) (hw : Wid n m) (hN : ∀ i, i < m.length → RowLe N (rowE_ m i)) (hs : SpEq n (RowsFrom 0 m) (RowsFrom 0 R)) (c : Nat) : ∃ y : Nat → Int, (∀ l, l < R.length → (y l).natAbs ≤ facN N R.length) ∧ ∀ i, i < R.length → ((prodP R ps R.length : Int) : Rat) * ((getE R i c : Int) : Rat) = sumQ R.length fun l => ((y l : Int) : Rat) * ((getE R i (ps l) : Int) : Rat) := by
  obtain ⟨k, hk⟩ : ∃ k, k = R.length := ⟨_, rfl⟩
  have hP := phi_piv hR _ (Nat.le_refl R.length)
  rw [← hk] at hP
  have hph : ∀ r : Nat, ∃ y : Int, phi k (fun b => if b = r then c else ps b) (rowE_ R) = (y : Rat) ∧ y.natAbs ≤ facN N k := by
    intro r
    have := minor_le hR hw hN hs (fun b => if b = r then c else ps b)
    rw [← hk] at this
    exact this
  refine ⟨fun r => Classical.choose (hph r), fun l _ => by rw [← hk]; exact (Classical.choose_spec (hph l)).2, ?_⟩
  have hpos : ∀ a, a < k → 0 < getE R a (ps a) := fun a ha => hR.2.pos a (by omega)
  obtain ⟨x, hx⟩ := back_sub (k := k) (mnr ps (rowE_ R)) (fun a b hab ha => by
      have h : getE R a (ps b) = 0 := hR.2.zero a (by omega) (ps b) (hR.2.mono b a hab (by omega))
      show ((getE R a (ps b) : Int) : Rat) = 0
      rw [h]; rfl) (fun a ha h => by
      have h1 : ((getE R a (ps a) : Int) : Rat) = 0 := h
      have h2 : getE R a (ps a) = 0 := by exact_mod_cast h1
      have := hpos a ha; omega) (fun a => ((getE R a c : Int) : Rat)) k (Nat.le_refl _)
  have hcr : ∀ r, r < k → phi k (fun b => if b = r then c else ps b) (rowE_ R) = x r * (prodP R ps k : Rat) := by
    intro r hr
    rw [← hP]
    have e1 : phi k (fun b => if b = r then c else ps b) (rowE_ R) = detF k (fun a b => if b = r then (0 : Rat) + sumQ k (fun l => x l * mnr ps (rowE_ R) a l) else mnr ps (rowE_ R) a b) := by
      unfold phi
      refine detF_congr fun a b ha hb => ?_
      by_cases hbr : b = r
      · rw [if_pos hbr, ← hx a (by omega) ha]
        show (((rowE_ R a).getD (if b = r then c else ps b) 0 : Int) : Rat) = _
        rw [if_pos hbr]; show ((getE R a c : Int) : Rat) = _; grind
      · rw [if_neg hbr]
        show (((rowE_ R a).getD (if b = r then c else ps b) 0 : Int) : Rat) = _
        rw [if_neg hbr]; rfl
    rw [e1, detF_col_sum (mnr ps (rowE_ R)) hr (fun _ => 0) k x (fun l a => mnr ps (rowE_ R) a l)]
    have e2 : detF k (fun a b => if b = r then (0 : Rat) else mnr ps (rowE_ R) a b) = 0 := by
      rw [← detF_tr]
      exact detF_zero_row (r := r) hr fun b _ => if_pos rfl
    rw [e2, sumQ_one (k := r) hr fun l hl hne => ?_]
    · have e3 : detF k (fun a b => if b = r then mnr ps (rowE_ R) a r else mnr ps (rowE_ R) a b) = phi k ps (rowE_ R) := by
        unfold phi
        refine detF_congr fun a b _ _ => ?_
        by_cases hbr : b = r
        · rw [if_pos hbr, hbr]
        · rw [if_neg hbr]
      rw [e3]; grind
    · have e4 : detF k (fun a b => if b = r then mnr ps (rowE_ R) a l else mnr ps (rowE_ R) a b) = 0 :=
        detF_col_eq hr hl (fun h => hne h.symm) fun b _ => by rw [if_pos rfl, if_neg hne]
      rw [e4]; grind
  intro i hi
  rw [← hk] at hi ⊢
  have hxi : ((getE R i c : Int) : Rat) = sumQ k fun l => x l * mnr ps (rowE_ R) i l := hx i (by omega) hi
  rw [hxi, ← sumQ_mul]
  refine sumQ_congr fun l hl => ?_
  have h1 : ((Classical.choose (hph l) : Int) : Rat) = x l * (prodP R ps k : Rat) := (Classical.choose_spec (hph l)).1.symm.trans (hcr l hl)
  show _ = ((Classical.choose (hph l) : Int) : Rat) * mnr ps (rowE_ R) i l
  generalize ((Classical.choose (hph l) : Int) : Rat) = yy at h1 ⊢
  rw [h1]; grind
theorem sumQ_zeros : ∀ (k : Nat) (f : Nat → Rat), (∀ i, i < k → f i = 0) → sumQ k f = 0
  | 0, _, _ => rfl
  | k + 1, f, h => by
    show sumQ k f + f k = 0
    rw [sumQ_zeros k f fun i hi => h i (by omega), h k (by omega)]; grind
theorem repl_getD (n c : Nat) : (List.replicate n (0 : Int)).getD c 0 = 0 := by
  rw [List.getD_eq_getElem?_getD]
  by_cases hc : c < n
  · rw [List.getElem?_eq_getElem (by simpa using hc)]; simp
  · rw [List.getElem?_eq_none (by simp; omega)]; rfl
/-- The same for what the rows generate. -/
theorem sp_comb {n c : Nat} {R : List (List Int)} {ps : Nat → Nat} {D : Int} {y : Nat → Int} (hW : Wid n R) (h : ∀ i, i < R.length → (D : Rat) * ((getE R i c : Int) : Rat) = sumQ R.length fun l => ((y l : Int) : Rat) * ((getE R i (ps l) : Int) : Rat)) {u : List Int} (hu : Sp n (RowsFrom 0 R) u) :
    (D : Rat) * ((u.getD c 0 : Int) : Rat) = sumQ R.length fun l => ((y l : Int) : Rat) * ((u.getD (ps l) 0 : Int) : Rat) := by
  induction hu with
  | zero =>
    rw [repl_getD, sumQ_zeros]
    · show (D : Rat) * 0 = 0; grind
    · intro i _; rw [repl_getD]; show _ * (0 : Rat) = 0; grind
  | mem hr =>
    obtain ⟨i, -, hi, rfl⟩ := hr
    exact h i hi
  | @less r s k h1 h2 ih1 ih2 =>
    have hl : s.length = r.length := by rw [h1.len (rowsFrom_len hW), h2.len (rowsFrom_len hW)]
    rw [lessL_getD k hl]
    have e : (sumQ R.length fun l => ((y l : Int) : Rat) * (((lessL k r s).getD (ps l) 0 : Int) : Rat)) = (sumQ R.length fun l => ((y l : Int) : Rat) * ((r.getD (ps l) 0 : Int) : Rat)) + sumQ R.length fun l => (-(k : Rat)) * (((y l : Int) : Rat) * ((s.getD (ps l) 0 : Int) : Rat)) := by
      rw [← sumQ_add]
      refine sumQ_congr fun l _ => ?_
      rw [lessL_getD k hl, Rat.intCast_sub, Rat.intCast_mul]; grind
    rw [e, sumQ_mul, ← ih1, ← ih2, Rat.intCast_sub, Rat.intCast_mul]; grind
/-- A reduced row of a small row. -/
theorem red_bound {n N A : Nat} {m R : List (List Int)} {ps : Nat → Nat} (hR : HForm n R ps) (hw : Wid n m) (hN : ∀ i, i < m.length → RowLe N (rowE_ m i)) (hs : SpEq n (RowsFrom 0 m) (RowsFrom 0 R)) {v s : List Int} (hv : v.length = n) (hA : RowLe A v) (hsl : s.length = n) (hsp : Sp n (RowsFrom 0 R) (lessL 1 v s)) (hr : RedP R ps R.length s) :
    RowLe (A + R.length * (facN N R.length * (A + 1))) s := by
  have hpp := prodP_pos hR _ (Nat.le_refl R.length)
  have key : ∀ c, (s.getD c 0).natAbs ≤ A + R.length * (facN N R.length * (A + 1)) := by
    intro c
    obtain ⟨y, hy1, hy2⟩ := col_comb hR hw hN hs c
    have h1 := sp_comb hR.1 hy2 hsp
    have hl : s.length = v.length := by omega
    obtain ⟨z, hz1, hz2⟩ := sum_int (n := R.length) (B := facN N R.length * ((A + 1) * (prodP R ps R.length).natAbs)) (f := fun l => ((y l : Int) : Rat) * (((lessL 1 v s).getD (ps l) 0 : Int) : Rat)) fun l hl' => by
      refine ⟨y l * (lessL 1 v s).getD (ps l) 0, by rw [Rat.intCast_mul], ?_⟩
      rw [Int.natAbs_mul]
      refine Nat.mul_le_mul (hy1 l hl') ?_
      rw [lessL_getD 1 hl]
      have h5 := hpp.2 l hl'
      have h6 := hr l hl'
      have h7 := hA.getD (ps l)
      have h8 : (A + 1) * (prodP R ps R.length).natAbs = A * (prodP R ps R.length).natAbs + (prodP R ps R.length).natAbs := by rw [Nat.add_mul, Nat.one_mul]
      have h9 : A ≤ A * (prodP R ps R.length).natAbs := Nat.le_mul_of_pos_right _ (by omega)
      omega
    rw [hz1] at h1
    have he : prodP R ps R.length * (lessL 1 v s).getD c 0 = z := by exact_mod_cast h1
    rw [← he, Int.natAbs_mul, ← Nat.mul_assoc, ← Nat.mul_assoc, Nat.mul_comm] at hz2
    have h2 := Nat.le_of_mul_le_mul_right hz2 (by omega)
    rw [lessL_getD 1 hl] at h2
    have h7 := hA.getD c
    have h3 : R.length * (facN N R.length * (A + 1)) = R.length * facN N R.length * (A + 1) := by rw [Nat.mul_assoc]
    omega
  intro x hx
  obtain ⟨c, hc⟩ := List.getElem?_of_mem hx
  have := key c
  rw [List.getD_eq_getElem?_getD, hc] at this
  exact this
/-- The reduced rows of small rows, for a plan. -/
theorem plan_bound {n A : Nat} {m R : List (List Int)} {ps : Nat → Nat} (hR : HForm n R ps) (h4 : R.length ≤ 4) (hw : ∀ x ∈ m, x.length = n) (h9 : ∀ x ∈ m, RowLe 9 x) (hs : SpEq n (RowsFrom 0 m) (RowsFrom 0 R)) {v s : List Int} (hv : v.length = n) (hA : RowLe 1000 v) (hsl : s.length = n) (hsp : Sp n (RowsFrom 0 R) (lessL 1 v s)) (hr : RedP R ps R.length s) :
    RowLe 1000000000 s := by
  refine (red_bound (N := 9) hR (fun j hj => hw _ (rowE_mem hj)) (fun j hj => h9 _ (rowE_mem hj)) hs hv hA hsl hsp hr).mono ?_
  have hc : R.length = 0 ∨ R.length = 1 ∨ R.length = 2 ∨ R.length = 3 ∨ R.length = 4 := by omega
  rcases hc with h | h | h | h | h <;> rw [h] <;> decide
end Go.Proofs.YtehknemdfbkimaaGreatDoor
