/- Numerals: their values, what strconv reads. No program is named here. -/
import Derived.Test.YtpeinobepiodaaaGreatDoorBase
import Derived.Lib.AtoiAllCases
import Derived.Lib.ItoaNum
import Derived.Lib.ItoaMem
namespace Go.Proofs.YtpeinobepiodaaaGreatDoor
set_option linter.unusedVariables false
set_option linter.unusedSimpArgs false
open Go.RowKit

def isDig (c : UInt8) : Bool := decide (48 ≤ c.toNat ∧ c.toNat ≤ 57)
/-- What stands behind a sign. -/
def magL (l : List UInt8) : List UInt8 := match l with
  | 45 :: r => r
  | l => l
def canonS (l : List UInt8) : Bool := (magL l).all isDig && (l == [48] || ((magL l) != [] && (magL l).head? != some 48))
def decV (a : Nat) (l : List UInt8) : Nat := l.foldl (fun a c => a * 10 + (c.toNat - 48)) a
/-- The value of a canonical numeral. -/
def numS (l : List UInt8) : Int := if l.head? = some 45 then -(decV 0 l.tail : Int) else (decV 0 l : Int)

theorem magL_minus (r : List UInt8) : magL (45 :: r) = r := rfl
theorem magL_other {c : UInt8} {r : List UInt8} (h : c ≠ 45) : magL (c :: r) = c :: r := by
  unfold magL
  split
  · rename_i heq; simp only [List.cons.injEq] at heq; exact absurd heq.1 h
  · rfl
theorem magL_nil : magL [] = [] := rfl
theorem numS_minus (r : List UInt8) : numS (45 :: r) = -(decV 0 r : Int) := by unfold numS; rw [if_pos (by rfl)]; rfl
theorem numS_other {c : UInt8} {r : List UInt8} (h : c ≠ 45) : numS (c :: r) = (decV 0 (c :: r) : Int) := by
  unfold numS; rw [if_neg (by simp [h])]

theorem decV_nil (a : Nat) : decV a [] = a := rfl
theorem decV_cons (a : Nat) (c : UInt8) (r : List UInt8) : decV a (c :: r) = decV (a * 10 + (c.toNat - 48)) r := by unfold decV; rw [List.foldl_cons]
theorem decV_append (l r : List UInt8) (a : Nat) : decV a (l ++ r) = decV (decV a l) r := by
  unfold decV; rw [List.foldl_append]
theorem decV_ge (l : List UInt8) : ∀ a : Nat, a * 10 ^ l.length ≤ decV a l := by
  induction l with
  | nil => intro a; rw [List.length_nil, Nat.pow_zero, Nat.mul_one]; exact Nat.le_refl _
  | cons c r ih =>
    intro a
    have h1 := ih (a * 10 + (c.toNat - 48))
    have h2 : a * 10 ^ (c :: r).length = (a * 10) * 10 ^ r.length := by
      rw [List.length_cons, Nat.pow_succ, Nat.mul_comm (10 ^ r.length) 10, Nat.mul_assoc]
    have h3 : (a * 10) * 10 ^ r.length ≤ (a * 10 + (c.toNat - 48)) * 10 ^ r.length := Nat.mul_le_mul_right _ (by omega)
    rw [h2, decV_cons]
    exact Nat.le_trans h3 h1
theorem decV_lt (l : List UInt8) : ∀ a : Nat, l.all isDig = true → decV a l < (a + 1) * 10 ^ l.length := by
  induction l with
  | nil => intro a _; rw [List.length_nil, Nat.pow_zero, Nat.mul_one]; exact Nat.lt_succ_self _
  | cons c r ih =>
    intro a h
    rw [List.all_cons, Bool.and_eq_true] at h
    have hc : 48 ≤ c.toNat ∧ c.toNat ≤ 57 := of_decide_eq_true h.1
    have h1 := ih (a * 10 + (c.toNat - 48)) h.2
    have h2 : (a + 1) * 10 ^ (c :: r).length = ((a + 1) * 10) * 10 ^ r.length := by
      rw [List.length_cons, Nat.pow_succ, Nat.mul_comm (10 ^ r.length) 10, Nat.mul_assoc]
    have h3 : (a * 10 + (c.toNat - 48) + 1) * 10 ^ r.length ≤ ((a + 1) * 10) * 10 ^ r.length := Nat.mul_le_mul_right _ (by omega)
    rw [h2, decV_cons]
    exact Nat.lt_of_lt_of_le h1 h3
theorem decV_mono : ∀ (l : List UInt8) (a b : Nat), a ≤ b → decV a l ≤ decV b l
  | [], _, _, h => by rw [decV_nil, decV_nil]; exact h
  | c :: r, a, b, h => by rw [decV_cons, decV_cons]; exact decV_mono r _ _ (by omega)
theorem decV_self (l : List UInt8) (a : Nat) : a ≤ decV a l := by
  have := decV_ge l a
  have h1 : 1 ≤ 10 ^ l.length := Nat.one_le_pow _ _ (by omega)
  exact Nat.le_trans (Nat.le_mul_of_pos_right _ h1) this

theorem parseUint10_ok (l : List UInt8) : ∀ a : Nat, l.all isDig = true → decV a l < 18446744073709551616 → Lib.parseUint10 a l = .ok (decV a l) := by
  induction l with
  | nil => intro a _ _; rw [decV_nil]; rfl
  | cons c r ih =>
    intro a h hv
    rw [List.all_cons, Bool.and_eq_true] at h
    have hc : 48 ≤ c.toNat ∧ c.toNat ≤ 57 := of_decide_eq_true h.1
    have hs := decV_self r (a * 10 + (c.toNat - 48))
    have hv' : decV (a * 10 + (c.toNat - 48)) r < 18446744073709551616 := by rw [decV_cons] at hv; exact hv
    have h1 : ¬ 1844674407370955162 ≤ a := by omega
    have h2 : ¬ 18446744073709551616 ≤ a * 10 + (c.toNat - 48) := by omega
    rw [Lib.parseUint10, if_pos hc, if_neg h1, if_neg h2, decV_cons]
    exact ih _ h.2 hv'
theorem parseUint10_range (l : List UInt8) : ∀ a : Nat, l.all isDig = true → a < 18446744073709551616 → ¬ decV a l < 18446744073709551616 → Lib.parseUint10 a l = .range := by
  induction l with
  | nil => intro a _ ha hv; rw [decV_nil] at hv; exact absurd ha hv
  | cons c r ih =>
    intro a h ha hv
    rw [List.all_cons, Bool.and_eq_true] at h
    have hc : 48 ≤ c.toNat ∧ c.toNat ≤ 57 := of_decide_eq_true h.1
    have hv' : ¬ decV (a * 10 + (c.toNat - 48)) r < 18446744073709551616 := by rw [decV_cons] at hv; exact hv
    rw [Lib.parseUint10, if_pos hc]
    by_cases h1 : 1844674407370955162 ≤ a
    · rw [if_pos h1]
    · rw [if_neg h1]
      by_cases h2 : 18446744073709551616 ≤ a * 10 + (c.toNat - 48)
      · rw [if_pos h2]
      · rw [if_neg h2]
        exact ih _ h.2 (by omega) hv'

theorem canonS_cases {l : List UInt8} (h : canonS l = true) : (∃ r, l = 45 :: r ∧ r ≠ [] ∧ r.all isDig = true ∧ r.head? ≠ some 48) ∨ (∃ c r, l = c :: r ∧ c ≠ 45 ∧ c ≠ 43 ∧ (c :: r).all isDig = true ∧ (l = [48] ∨ c ≠ 48)) := by
  unfold canonS at h
  rw [Bool.and_eq_true, Bool.or_eq_true] at h
  obtain ⟨h1, h2⟩ := h
  cases l with
  | nil => simp [magL] at h2
  | cons c r =>
    by_cases hc : c = 45
    · subst hc
      refine .inl ⟨r, rfl, ?_, h1, ?_⟩
      · rintro rfl
        rcases h2 with h2 | h2
        · simp at h2
        · simp [magL] at h2
      · rcases h2 with h2 | h2
        · simp at h2
        · simp only [magL_minus, Bool.and_eq_true, bne_iff_ne, ne_eq] at h2
          exact h2.2
    · rw [magL_other hc] at h1 h2
      refine .inr ⟨c, r, rfl, hc, ?_, h1, ?_⟩
      · rintro rfl
        simp only [List.all_cons, Bool.and_eq_true] at h1
        exact absurd h1.1 (by decide)
      · rcases h2 with h2 | h2
        · exact .inl (by simpa using h2)
        · simp only [List.head?_cons, Bool.and_eq_true, bne_iff_ne, ne_eq, Option.some.injEq] at h2
          exact .inr h2.2

/-- Atoi of a canonical numeral: its value, or out of range. -/
theorem atoi_canon_ok {l : List UInt8} (h : canonS l = true) (hv : -9223372036854775808 ≤ numS l ∧ numS l ≤ 9223372036854775807) : Lib.atoiAll l = .ok (numS l) := by
  rcases canonS_cases h with ⟨r, rfl, hne, hd, -⟩ | ⟨c, r, rfl, h45, h43, hd, -⟩
  · rw [numS_minus] at hv ⊢
    have h1 : ¬ 9223372036854775808 < decV 0 r := by omega
    rw [Lib.atoiAll_minus]
    unfold Lib.parseMag
    rw [if_neg hne, parseUint10_ok r 0 hd (by omega)]
    show (if 9223372036854775808 < decV 0 r then _ else _) = _
    rw [if_neg h1]
  · rw [numS_other h45] at hv ⊢
    have h1 : ¬ 9223372036854775808 ≤ decV 0 (c :: r) := by omega
    rw [Lib.atoiAll_plain c r (fun e => h43 (UInt8.toNat_inj.1 e)) (fun e => h45 (UInt8.toNat_inj.1 e))]
    unfold Lib.parseMag
    rw [if_neg (List.cons_ne_nil _ _), parseUint10_ok _ 0 hd (by omega)]
    show (if 9223372036854775808 ≤ decV 0 (c :: r) then _ else _) = _
    rw [if_neg h1]
theorem atoi_canon_range {l : List UInt8} (h : canonS l = true) (hv : ¬ (-9223372036854775808 ≤ numS l ∧ numS l ≤ 9223372036854775807)) : Lib.atoiAll l = .range := by
  rcases canonS_cases h with ⟨r, rfl, hne, hd, -⟩ | ⟨c, r, rfl, h45, h43, hd, -⟩
  · rw [numS_minus] at hv
    have h1 : 9223372036854775808 < decV 0 r := by omega
    rw [Lib.atoiAll_minus]
    unfold Lib.parseMag
    rw [if_neg hne]
    by_cases hb : decV 0 r < 18446744073709551616
    · rw [parseUint10_ok r 0 hd hb]
      show (if 9223372036854775808 < decV 0 r then _ else _) = _
      rw [if_pos h1]
    · rw [parseUint10_range r 0 hd (by omega) hb]; rfl
  · rw [numS_other h45] at hv
    have h1 : 9223372036854775808 ≤ decV 0 (c :: r) := by omega
    rw [Lib.atoiAll_plain c r (fun e => h43 (UInt8.toNat_inj.1 e)) (fun e => h45 (UInt8.toNat_inj.1 e))]
    unfold Lib.parseMag
    rw [if_neg (List.cons_ne_nil _ _)]
    by_cases hb : decV 0 (c :: r) < 18446744073709551616
    · rw [parseUint10_ok _ 0 hd hb]
      show (if 9223372036854775808 ≤ decV 0 (c :: r) then _ else _) = _
      rw [if_pos h1]
    · rw [parseUint10_range _ 0 hd (by omega) hb]; rfl

/-- The numeral of an integer. -/
theorem decDigits_dig : ∀ (n u : Nat), u < n → (Lib.decDigits u).all isDig = true ∧ decV 0 (Lib.decDigits u) = u ∧ Lib.decDigits u ≠ [] ∧ ((Lib.decDigits u).head? = some 48 → u = 0) := by
  have one : ∀ i, i < 10 → isDig (UInt8.ofNat (48 + i)) = true ∧ (UInt8.ofNat (48 + i)).toNat = 48 + i := by
    intro i hi
    have h : (UInt8.ofNat (48 + i)).toNat = 48 + i := by
      rw [UInt8.toNat_ofNat']; omega
    refine ⟨?_, h⟩
    unfold isDig
    rw [h]
    exact decide_eq_true (by omega)
  intro n
  induction n with
  | zero => intro u h; omega
  | succ n ih =>
    intro u hu
    by_cases h10 : u < 10
    · rw [Lib.decDigits_one h10]
      obtain ⟨h1, h2⟩ := one u h10
      refine ⟨by rw [List.all_cons, h1]; rfl, by rw [decV_cons, decV_nil, h2]; omega, by simp, fun h => ?_⟩
      simp only [List.head?_cons, Option.some.injEq] at h
      rw [h] at h2
      have : (48 : UInt8).toNat = 48 := rfl
      omega
    · obtain ⟨k1, k2, k3, k4⟩ := ih (u / 10) (by omega)
      obtain ⟨h1, h2⟩ := one (u % 10) (Nat.mod_lt _ (by omega))
      have e : Lib.decDigits u = Lib.decDigits (u / 10) ++ [UInt8.ofNat (48 + u % 10)] := by
        rw [Lib.decDigits, dif_neg h10]
      rw [e]
      refine ⟨by rw [List.all_append, k1, List.all_cons, h1]; rfl, ?_, by simp, fun h => ?_⟩
      · rw [decV_append, k2]
        rw [decV_cons, decV_nil, h2]
        omega
      · obtain ⟨c, t, ht⟩ := List.exists_cons_of_ne_nil k3
        rw [ht] at h k4
        have := k4 (by simpa using h)
        omega

theorem itoa_canon (x : Int) : canonS (Lib.itoa x) = true ∧ numS (Lib.itoa x) = x ∧ 32 ∉ Lib.itoa x ∧ Lib.itoa x ≠ [] := by
  have nospace : ∀ l : List UInt8, l.all isDig = true → 32 ∉ l := by
    intro l h hm
    have := List.all_eq_true.1 h 32 hm
    exact absurd this (by decide)
  unfold Lib.itoa
  split
  · obtain ⟨h1, h2, h3, h4⟩ := decDigits_dig _ x.natAbs (Nat.lt_succ_self _)
    refine ⟨?_, by rw [numS_minus, h2]; omega, ?_, by simp⟩
    · unfold canonS
      rw [magL_minus, h1]
      have e1 : (Lib.decDigits x.natAbs != []) = true := bne_iff_ne.2 h3
      have e2 : ((Lib.decDigits x.natAbs).head? != some 48) = true := bne_iff_ne.2 (fun h => by have := h4 h; omega)
      rw [e1, e2]; simp
    · simp only [List.mem_cons, not_or]
      exact ⟨by decide, nospace _ h1⟩
  · obtain ⟨h1, h2, h3, h4⟩ := decDigits_dig _ x.toNat (Nat.lt_succ_self _)
    obtain ⟨c, t, ht⟩ := List.exists_cons_of_ne_nil h3
    have hc : c ≠ 45 := by
      rintro rfl
      rw [ht] at h1
      simp only [List.all_cons, Bool.and_eq_true] at h1
      exact absurd h1.1 (by decide)
    refine ⟨?_, ?_, nospace _ h1, h3⟩
    · unfold canonS
      have e1 : (Lib.decDigits x.toNat != []) = true := bne_iff_ne.2 h3
      have hm : magL (Lib.decDigits x.toNat) = Lib.decDigits x.toNat := by rw [ht, magL_other hc]
      rw [hm, h1, e1, Bool.true_and, Bool.or_eq_true, Bool.true_and]
      by_cases h0 : x.toNat = 0
      · left; rw [h0, Lib.decDigits_one (by omega)]; rfl
      · right; exact bne_iff_ne.2 (fun h => h0 (h4 h))
    · have : numS (Lib.decDigits x.toNat) = decV 0 (Lib.decDigits x.toNat) := by rw [ht, numS_other hc]
      rw [this, h2]; omega

end Go.Proofs.YtpeinobepiodaaaGreatDoor
