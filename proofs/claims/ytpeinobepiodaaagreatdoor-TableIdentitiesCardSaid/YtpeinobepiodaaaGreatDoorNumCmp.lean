/- Numerals compared. No program is named here. -/
import Derived.Test.YtpeinobepiodaaaGreatDoorNumeral
import Derived.Laws.Cover1
import Derived.Lib.Strings
namespace Go.Proofs.YtpeinobepiodaaaGreatDoor
set_option linter.unusedVariables false
set_option linter.unusedSimpArgs false
open Go.RowKit

theorem decV_add (l : List UInt8) : ∀ a : Nat, decV a l = a * 10 ^ l.length + decV 0 l := by
  induction l with
  | nil => intro a; rw [decV_nil, decV_nil, List.length_nil, Nat.pow_zero, Nat.mul_one, Nat.add_zero]
  | cons c r ih =>
    intro a
    rw [decV_cons, decV_cons, ih (a * 10 + (c.toNat - 48)), ih (0 * 10 + (c.toNat - 48)), List.length_cons, Nat.pow_succ, Nat.add_mul, Nat.zero_mul, Nat.zero_add, Nat.mul_comm (10 ^ r.length) 10, ← Nat.mul_assoc, Nat.add_assoc]

/-- Digits of one length compare as bytes do. -/
theorem less_digits : ∀ (l r : List UInt8), l.all isDig = true → r.all isDig = true → l.length = r.length → (Op.bytesLess l r = decide (decV 0 l < decV 0 r)) ∧ (l = r ↔ decV 0 l = decV 0 r)
  | [], [], _, _, _ => by
    constructor
    · rw [decV_nil]; simp [Op.bytesLess]
    · simp
  | c :: l, [], _, _, h => by simp at h
  | [], d :: r, _, _, h => by simp at h
  | c :: l, d :: r, hl, hr, h => by
    rw [List.all_cons, Bool.and_eq_true] at hl hr
    have hc : 48 ≤ c.toNat ∧ c.toNat ≤ 57 := of_decide_eq_true hl.1
    have hd : 48 ≤ d.toNat ∧ d.toNat ≤ 57 := of_decide_eq_true hr.1
    have hlen : l.length = r.length := by simpa using h
    obtain ⟨ih1, ih2⟩ := less_digits l r hl.2 hr.2 hlen
    have b1 := decV_lt l 0 hl.2
    have b2 := decV_lt r 0 hr.2
    rw [hlen] at b1
    rw [decV_cons, decV_cons, decV_add l, decV_add r, hlen]
    obtain ⟨P, hP⟩ : ∃ P, P = 10 ^ r.length := ⟨_, rfl⟩
    obtain ⟨x, hx⟩ : ∃ x, x = decV 0 l := ⟨_, rfl⟩
    obtain ⟨y, hy⟩ : ∃ y, y = decV 0 r := ⟨_, rfl⟩
    rw [← hP, ← hx] at b1
    rw [← hP, ← hy] at b2
    rw [← hx, ← hy] at ih1 ih2
    rw [← hP, ← hx, ← hy, Nat.zero_mul, Nat.zero_add, Nat.zero_add]
    rw [Nat.zero_add, Nat.one_mul] at b1 b2
    clear hP hx hy
    rcases Nat.lt_trichotomy c.toNat d.toNat with hcd | hcd | hcd
    · have e : (c.toNat - 48 + 1) * P ≤ (d.toNat - 48) * P := Nat.mul_le_mul_right _ (by omega)
      rw [Nat.succ_mul] at e
      have hlt : (c.toNat - 48) * P + x < (d.toNat - 48) * P + y := by omega
      constructor
      · rw [decide_eq_true hlt]
        have : c < d := UInt8.lt_iff_toNat_lt.2 hcd
        simp [Op.bytesLess, this]
      · constructor
        · intro he
          simp only [List.cons.injEq] at he
          rw [he.1] at hcd; omega
        · intro he; omega
    · have hcd' : c = d := UInt8.toNat_inj.1 hcd
      subst hcd'
      constructor
      · have e : ((c.toNat - 48) * P + x < (c.toNat - 48) * P + y) ↔ x < y := by omega
        rw [show decide ((c.toNat - 48) * P + x < (c.toNat - 48) * P + y) = decide (x < y) by rw [decide_eq_decide]; exact e, ← ih1]
        simp [Op.bytesLess]
      · simp only [List.cons.injEq, true_and]
        rw [ih2]; omega
    · have e : (d.toNat - 48 + 1) * P ≤ (c.toNat - 48) * P := Nat.mul_le_mul_right _ (by omega)
      rw [Nat.succ_mul] at e
      have hlt : ¬ (c.toNat - 48) * P + x < (d.toNat - 48) * P + y := by omega
      constructor
      · rw [decide_eq_false hlt]
        have h1 : ¬ c < d := fun h => by have := UInt8.lt_iff_toNat_lt.1 h; omega
        have h2 : d < c := UInt8.lt_iff_toNat_lt.2 hcd
        have h3 : (c == d) = false := beq_false_of_ne (fun e => by rw [e] at hcd; omega)
        simp [Op.bytesLess, h1, h3]
      · constructor
        · intro he
          simp only [List.cons.injEq] at he
          rw [he.1] at hcd; omega
        · intro he; omega

/-- The numeral of a natural number, and of an integer, as strings. -/
def numB (u : Nat) : ByteArray := ⟨(Lib.decDigits u).toArray⟩
def intB (n : Int) : ByteArray := ⟨(Lib.itoa n).toArray⟩
theorem numB_data (u : Nat) : (numB u).data.toList = Lib.decDigits u := by unfold numB; simp
theorem intB_data (n : Int) : (intB n).data.toList = Lib.itoa n := by unfold intB; simp
theorem numB_list (u : Nat) : (numB u).toList = Lib.decDigits u := by rw [Lib.toList_data, numB_data]
theorem intB_list (n : Int) : (intB n).toList = Lib.itoa n := by rw [Lib.toList_data, intB_data]
theorem numB_size (u : Nat) : (numB u).size = Lib.nDigits u := by rw [Lib.size_eq, numB_data, Lib.decDigits_length]
theorem intB_pos (n : Int) (h : 0 ≤ n) : intB n = numB n.toNat := by unfold intB numB Lib.itoa; rw [if_neg (by omega)]
theorem intB_neg (n : Int) (h : n < 0) : (intB n).data.toList = 45 :: (numB n.natAbs).data.toList := by rw [intB_data, numB_data]; unfold Lib.itoa; rw [if_pos h]
theorem digits_all (u : Nat) : (Lib.decDigits u).all isDig = true := (decDigits_dig _ u (Nat.lt_succ_self _)).1
theorem digits_val (u : Nat) : decV 0 (Lib.decDigits u) = u := (decDigits_dig _ u (Nat.lt_succ_self _)).2.1
theorem digits_inj {u v : Nat} (h : Lib.decDigits u = Lib.decDigits v) : u = v := by rw [← digits_val u, ← digits_val v, h]
theorem digits_eq (u v : Nat) : (Lib.decDigits u == Lib.decDigits v) = decide (u = v) := by
  rw [Bool.eq_iff_iff, beq_iff_eq, decide_eq_true_iff]
  exact ⟨digits_inj, fun h => by rw [h]⟩
theorem itoa_inj {x y : Int} (h : Lib.itoa x = Lib.itoa y) : x = y := by rw [← (itoa_canon x).2.1, ← (itoa_canon y).2.1, h]
theorem itoa_eq (x y : Int) : (Lib.itoa x == Lib.itoa y) = decide (x = y) := by
  rw [Bool.eq_iff_iff, beq_iff_eq, decide_eq_true_iff]
  exact ⟨itoa_inj, fun h => by rw [h]⟩
theorem nDigits_ge (u : Nat) : 1 ≤ u → 10 ^ (Lib.nDigits u - 1) ≤ u := by
  induction u using Nat.strongRecOn with
  | ind u ih =>
    intro h1
    by_cases h : u < 10
    · rw [Lib.nDigits_small h]; exact h1
    · rw [Lib.nDigits_big h]
      have h2 := ih (u / 10) (by omega) (by omega)
      have h3 := Lib.nDigits_pos (u / 10)
      obtain ⟨k, hk⟩ : ∃ k, Lib.nDigits (u / 10) = k + 1 := ⟨Lib.nDigits (u / 10) - 1, by omega⟩
      rw [hk] at h2 ⊢
      simp only [Nat.add_sub_cancel] at h2 ⊢
      rw [Nat.pow_succ]
      omega
/-- More digits: greater. -/
theorem nDigits_lt {u v : Nat} (h : Lib.nDigits u < Lib.nDigits v) : u < v := by
  have h1 := Lib.lt_pow_nDigits u
  by_cases h10 : v < 10
  · rw [Lib.nDigits_small h10] at h
    have := Lib.nDigits_pos u
    omega
  · have h2 : 10 ^ (Lib.nDigits v - 1) ≤ v := nDigits_ge v (by omega)
    have h3 : 10 ^ Lib.nDigits u ≤ 10 ^ (Lib.nDigits v - 1) := Nat.pow_le_pow_right (by omega) (by omega)
    exact Nat.lt_of_lt_of_le (Nat.lt_of_lt_of_le h1 h3) h2
/-- Numerals compare as numbers do. -/
theorem less_num (u v : Nat) (h : Lib.nDigits u = Lib.nDigits v) : Op.bytesLess (Lib.decDigits u) (Lib.decDigits v) = decide (u < v) := by
  have := (less_digits (Lib.decDigits u) (Lib.decDigits v) (digits_all u) (digits_all v) (by rw [Lib.decDigits_length, Lib.decDigits_length, h])).1
  rw [digits_val, digits_val] at this
  exact this
end Go.Proofs.YtpeinobepiodaaaGreatDoor
