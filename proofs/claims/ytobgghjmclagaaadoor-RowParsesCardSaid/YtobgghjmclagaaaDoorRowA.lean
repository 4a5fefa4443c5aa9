/- Contracts of package row: Check, CheckAll, both, result, IsZero. -/
import Derived.Test.YtobgghjmclagaaaDoorSlRw
namespace Go.Proofs.YtobgghjmclagaaaDoor
set_option linter.unusedVariables false
set_option linter.unusedSimpArgs false
open Go.RowKit

def fitB (n : Int) : Bool := decide (-1000000000 ≤ n) && decide (n ≤ 1000000000)
theorem fitB_iff (n : Int) : fitB n = true ↔ -1000000000 ≤ n ∧ n ≤ 1000000000 := by simp [fitB]
theorem fits_any (n : Int) (w : World) : Calls Tryd.prog 55 #[.int .i64 n] w fun e w' => e = .returned (.bool (fitB n)) ∧ w = w' := by
  by_cases h : -1000000000 ≤ n
  · by_cases h2 : n ≤ 1000000000
    · go_enter Tryd.func55, Tryd.ntmps55
      go_wp2
      go_ret
      exact ⟨by simp [fitB, h, h2], rfl⟩
    · go_enter Tryd.func55, Tryd.ntmps55
      go_wp2
      go_ret
      exact ⟨by simp [fitB, h, h2], rfl⟩
  · go_enter Tryd.func55, Tryd.ntmps55
    go_wp2
    go_ret
    exact ⟨by simp [fitB]; omega, rfl⟩
theorem check1_any (n : Int) (w : World) : Calls Tryd.prog 54 #[.int .i64 n] w fun e w' => e = .returned (.bool (!fitB n)) ∧ w = w' := by
  go_enter Tryd.func54, Tryd.ntmps54
  go_wp2_with (go_at_call 55; refine (fits_any _ _).mono ?_; rintro e w' ⟨rfl, rfl⟩)
  go_ret
  exact ⟨rfl, rfl⟩

/-- A row is right. -/
def okRow (r : List Int) : Prop := r.length ≤ 64 ∧ ∀ x ∈ r, -1000000000 ≤ x ∧ x ≤ 1000000000
def rowE (r : List Int) : Int := if 64 < r.length then 4 else if r.any (fun n => !fitB n) then 4 else 0
theorem rowE_zero (r : List Int) : rowE r = 0 ↔ okRow r := by
  unfold rowE okRow
  by_cases h : 64 < r.length
  · simp [h]; omega
  · rw [if_neg h]
    by_cases h2 : r.any (fun n => !fitB n) = true
    · rw [if_pos h2]
      obtain ⟨x, hx, hf⟩ := List.any_eq_true.1 h2
      simp only [Bool.not_eq_true', Bool.eq_false_iff, ne_eq, fitB_iff] at hf
      constructor
      · intro e; simp at e
      · intro ⟨_, h⟩; exact absurd (h x hx) hf
    · rw [if_neg h2]
      simp only [true_iff]
      refine ⟨by omega, fun x hx => ?_⟩
      have := List.any_eq_false.1 (by simpa using h2 : r.any (fun n => !fitB n) = false) x hx
      simpa [fitB_iff] using this
theorem rowE_four (r : List Int) : rowE r = 0 ∨ rowE r = 4 := by
  unfold rowE; split
  · exact .inr rfl
  · split
    · exact .inr rfl
    · exact .inl rfl

theorem rowCheck_any (xs : List Int) (v : Value) (w : World) (h : Ints w v xs) :
    Calls Tryd.prog 15 #[v] w fun e w' => e = .returned (.int .i64 (rowE xs)) ∧ Ext w w' := by
  have HC := Lib.hid (containsRow_any xs v 54 #[] (fun n => !fitB n) w h (enters_of Tryd.func54 (by kernel_rfl) rfl) (fun W x _ _ => (check1_any x W).mono fun _ _ ⟨he, hw⟩ => ⟨he, hw ▸ Ext.refl _⟩))
  obtain ⟨a, c, rfl, -, -, -, -, -⟩ := h.open
  by_cases hl : 64 < xs.length
  · have HQ : Hid (rowE xs = 4) := by unfold Hid rowE; rw [if_pos hl]
    have hl' : (64 : Int) < (xs.length : Int) := by omega
    clear h
    go_enter Tryd.func15, Tryd.ntmps15
    go_wp2_with (go_at_call 53; refine HC.out.mono ?_; rintro e w' ⟨rfl, hE'⟩)
    go_ret
    exact ⟨by rw [HQ.out]; rfl, Ext.refl _⟩
  · have hl' : ¬ (64 : Int) < (xs.length : Int) := by omega
    cases ha : xs.any (fun n => !fitB n) with
    | true =>
      have HQ : Hid (rowE xs = 4) := by unfold Hid rowE; rw [if_neg hl, if_pos ha]
      rw [ha] at HC
      clear h ha
      go_enter Tryd.func15, Tryd.ntmps15
      go_wp2_with (go_at_call 53; refine HC.out.mono ?_; rintro e w' ⟨rfl, hE'⟩)
      go_ret
      exact ⟨by rw [HQ.out]; rfl, by assumption⟩
    | false =>
      have HQ : Hid (rowE xs = 0) := by unfold Hid rowE; rw [if_neg hl, if_neg (by simp [ha])]
      rw [ha] at HC
      clear h ha
      go_enter Tryd.func15, Tryd.ntmps15
      go_wp2_with (go_at_call 53; refine HC.out.mono ?_; rintro e w' ⟨rfl, hE'⟩)
      go_ret
      exact ⟨by rw [HQ.out]; rfl, by assumption⟩

def bothE (a b : List Int) : Int := if rowE a = 0 then (if rowE b = 0 then (if a.length = b.length then 0 else 5) else rowE b) else rowE a
theorem both_any (xs ys : List Int) (u v : Value) (w : World) (h : Ints w u xs) (k : Ints w v ys) :
    Calls Tryd.prog 60 #[u, v] w fun e w' => e = .returned (.int .i64 (bothE xs ys)) ∧ Ext w w' := by
  obtain ⟨a, c, rfl, -, -, -, -, -⟩ := h.open
  obtain ⟨a', c', rfl, -, -, -, -, -⟩ := k.open
  have H1 := Lib.hid (rowCheck_any xs _ w h)
  have H2 := Lib.hid (fun W' he => rowCheck_any ys _ W' (k.ext (w' := W') he))
  clear h k
  by_cases h1 : rowE xs = 0
  · rw [h1] at H1
    by_cases h2 : rowE ys = 0
    · by_cases h3 : xs.length = ys.length
      · have HQ : Hid (bothE xs ys = 0) := by unfold Hid bothE; rw [if_pos h1, if_pos h2, if_pos h3]
        rw [h2] at H2
        have hb : ((xs.length : Int) != (ys.length : Int)) = false := by simp [h3]
        clear h1 h2 h3
        go_enter Tryd.func60, Tryd.ntmps60
        go_wp2_with fail
        refine H1.out.mono ?_
        rintro e w1 ⟨rfl, hE1⟩
        have H3 := Lib.hid (H2.out w1 hE1)
        have HE1 := Lib.hid hE1
        clear H1 H2 hE1
        go_wp2_with fail
        refine H3.out.mono ?_
        rintro e w2 ⟨rfl, hE2⟩
        have HE2 := Lib.hid (Ext.trans HE1.out hE2)
        clear hE2
        go_wp2_with fail
        go_ret
        exact ⟨by rw [HQ.out]; rfl, HE2.out⟩
      · have HQ : Hid (bothE xs ys = 5) := by unfold Hid bothE; rw [if_pos h1, if_pos h2, if_neg h3]
        rw [h2] at H2
        have hb : ((xs.length : Int) != (ys.length : Int)) = true := by simp; omega
        clear h1 h2 h3
        go_enter Tryd.func60, Tryd.ntmps60
        go_wp2_with fail
        refine H1.out.mono ?_
        rintro e w1 ⟨rfl, hE1⟩
        have H3 := Lib.hid (H2.out w1 hE1)
        have HE1 := Lib.hid hE1
        clear H1 H2 hE1
        go_wp2_with fail
        refine H3.out.mono ?_
        rintro e w2 ⟨rfl, hE2⟩
        have HE2 := Lib.hid (Ext.trans HE1.out hE2)
        clear hE2
        go_wp2_with fail
        go_ret
        exact ⟨by rw [HQ.out]; rfl, HE2.out⟩
    · have h4 : rowE ys = 4 := (rowE_four ys).resolve_left h2
      have HQ : Hid (bothE xs ys = 4) := by unfold Hid bothE; rw [if_pos h1, if_neg h2, h4]
      rw [h4] at H2
      clear h1 h2 h4
      go_enter Tryd.func60, Tryd.ntmps60
      go_wp2_with fail
      refine H1.out.mono ?_
      rintro e w1 ⟨rfl, hE1⟩
      have H3 := Lib.hid (H2.out w1 hE1)
      have HE1 := Lib.hid hE1
      clear H1 H2 hE1
      go_wp2_with fail
      refine H3.out.mono ?_
      rintro e w2 ⟨rfl, hE2⟩
      have HE2 := Lib.hid (Ext.trans HE1.out hE2)
      clear hE2
      go_wp2_with fail
      go_ret
      exact ⟨by rw [HQ.out]; rfl, HE2.out⟩
  · have h4 : rowE xs = 4 := (rowE_four xs).resolve_left h1
    have HQ : Hid (bothE xs ys = 4) := by unfold Hid bothE; rw [if_neg h1, h4]
    rw [h4] at H1
    clear h1 h4
    go_enter Tryd.func60, Tryd.ntmps60
    go_wp2_with fail
    refine H1.out.mono ?_
    rintro e w1 ⟨rfl, hE1⟩
    have HE1 := Lib.hid hE1
    clear H1 H2 hE1
    go_wp2_with fail
    go_ret
    exact ⟨by rw [HQ.out]; rfl, HE1.out⟩

/-- result: the row if it is right. -/
theorem result_any (xs : List Int) (v : Value) (w : World) (h : Ints w v xs) :
    Calls Tryd.prog 62 #[v] w fun e w' => ∃ r, e = .returned (.tuple #[r, .int .i64 (rowE xs)]) ∧ Ext w w' ∧ (rowE xs = 0 → r = v) ∧ (¬ rowE xs = 0 → r = .slice none 0 0) := by
  obtain ⟨a, c, rfl, -, -, -, -, -⟩ := h.open
  have H1 := Lib.hid (rowCheck_any xs _ w h)
  clear h
  by_cases h1 : rowE xs = 0
  · rw [h1] at H1 ⊢
    clear h1
    go_enter Tryd.func62, Tryd.ntmps62
    go_wp2_with fail
    refine H1.out.mono ?_
    rintro e w1 ⟨rfl, hE1⟩
    have HE1 := Lib.hid hE1
    clear H1 hE1
    go_wp2_with fail
    go_ret2
    exact ⟨_, rfl, HE1.out, fun _ => rfl, by simp⟩
  · have h4 : rowE xs = 4 := (rowE_four xs).resolve_left h1
    rw [h4] at H1 ⊢
    clear h1 h4
    go_enter Tryd.func62, Tryd.ntmps62
    go_wp2_with fail
    refine H1.out.mono ?_
    rintro e w1 ⟨rfl, hE1⟩
    have HE1 := Lib.hid hE1
    clear H1 hE1
    go_wp2_with fail
    go_ret2
    exact ⟨_, rfl, HE1.out, by simp, fun _ => rfl⟩

theorem isZero1_any (x : Int) (w : World) : Calls Tryd.prog 69 #[.int .i64 x] w fun e w' => e = .returned (.bool (x != 0)) ∧ w = w' := by
  go_enter Tryd.func69, Tryd.ntmps69
  go_wp2
  go_ret
  exact ⟨rfl, rfl⟩
theorem isZero_any (xs : List Int) (v : Value) (w : World) (h : Ints w v xs) :
    Calls Tryd.prog 48 #[v] w fun e w' => e = .returned (.bool (!xs.any (· != 0))) ∧ Ext w w' := by
  have HC := Lib.hid (containsRow_any xs v 69 #[] (· != 0) w h (enters_of Tryd.func69 (by kernel_rfl) rfl) (fun W x _ _ => (isZero1_any x W).mono fun _ _ ⟨he, hw⟩ => ⟨he, hw ▸ Ext.refl _⟩))
  clear h
  go_enter Tryd.func48, Tryd.ntmps48
  go_wp2_with (go_at_call 53; refine HC.out.mono ?_; rintro e w' ⟨rfl, hE'⟩)
  go_ret
  exact ⟨rfl, by assumption⟩
end Go.Proofs.YtobgghjmclagaaaDoor
