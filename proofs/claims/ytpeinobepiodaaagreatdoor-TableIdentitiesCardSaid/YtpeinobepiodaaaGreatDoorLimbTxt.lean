/- Numerals and their pieces of nine digits. No program is named here. -/
import Derived.Test.YtpeinobepiodaaaGreatDoorNumCmp
import Derived.Test.YtpeinobepiodaaaGreatDoorLimb
namespace Go.Proofs.YtpeinobepiodaaaGreatDoor
set_option linter.unusedVariables false
set_option linter.unusedSimpArgs false

theorem nDigits_le (u k : Nat) (h : u < 10 ^ k) (hk : 1 ≤ k) : Lib.nDigits u ≤ k := by
  false_or_by_contra
  rename_i hn
  have h0 : u ≠ 0 := by
    intro e; subst e
    rw [Lib.nDigits_small (by omega)] at hn; omega
  have h1 := nDigits_ge u (by omega)
  have h2 : 10 ^ k ≤ 10 ^ (Lib.nDigits u - 1) := Nat.pow_le_pow_right (by omega) (by omega)
  exact absurd (Nat.lt_of_lt_of_le h (Nat.le_trans h2 h1)) (Nat.lt_irrefl u)

/-- Digits, the least significant one first. -/
def dv : List UInt8 → Nat
  | [] => 0
  | c :: r => (c.toNat - 48) + 10 * dv r
theorem dv_cons (c : UInt8) (r : List UInt8) : dv (c :: r) = (c.toNat - 48) + 10 * dv r := rfl
theorem dv_append (a b : List UInt8) : dv (a ++ b) = dv a + 10 ^ a.length * dv b := by
  induction a with
  | nil => rw [List.nil_append, List.length_nil, Nat.pow_zero, Nat.one_mul]; show _ = 0 + _; omega
  | cons x r ih => rw [List.cons_append, dv_cons, dv_cons, ih, List.length_cons, Nat.pow_succ]; grind
theorem decV_reverse (l : List UInt8) : decV 0 l.reverse = dv l := by
  induction l with
  | nil => rfl
  | cons c r ih => rw [List.reverse_cons, decV_append, ih, decV_cons, decV_nil, dv_cons]; omega
/-- A numeral is its value's. -/
theorem num_unique {l : List UInt8} (h : l.all isDig = true) (hne : l ≠ []) (hh : l.head? ≠ some 48 ∨ l.length = 1) : l = Lib.decDigits (decV 0 l) := by
  have hp : 0 < l.length := List.length_pos_iff.2 hne
  have h1 := decV_lt l 0 h
  rw [Nat.zero_add, Nat.one_mul] at h1
  have h2 := nDigits_le _ _ h1 hp
  have h3 : l.length = Lib.nDigits (decV 0 l) := by
    rcases hh with hh | hh
    · cases l with
      | nil => exact absurd rfl hne
      | cons c r =>
        rw [List.all_cons, Bool.and_eq_true] at h
        have hc : 48 ≤ c.toNat ∧ c.toNat ≤ 57 := of_decide_eq_true h.1
        have h49 : 49 ≤ c.toNat := by
          false_or_by_contra
          rename_i hn
          have : c.toNat = (48 : UInt8).toNat := by show c.toNat = 48; omega
          exact hh (by rw [UInt8.toNat_inj.1 this]; rfl)
        have h4 := decV_ge r (0 * 10 + (c.toNat - 48))
        rw [← decV_cons] at h4
        have h5 : 1 * 10 ^ r.length ≤ (0 * 10 + (c.toNat - 48)) * 10 ^ r.length := Nat.mul_le_mul_right _ (by omega)
        have h6 := Lib.lt_pow_nDigits (decV 0 (c :: r))
        rw [List.length_cons] at h2 ⊢
        have h7 : 10 ^ r.length < 10 ^ Lib.nDigits (decV 0 (c :: r)) := by omega
        have h8 := (Nat.pow_lt_pow_iff_right (a := 10) (by omega)).1 h7
        omega
    · have := Lib.nDigits_pos (decV 0 l); omega
  refine ((less_digits l (Lib.decDigits (decV 0 l)) h (digits_all _) ?_).2).2 (digits_val _).symm
  rw [Lib.decDigits_length]; exact h3
theorem pB_pow (k : Nat) : pB k = 10 ^ (9 * k) := by
  induction k with
  | zero => rfl
  | succ k ih =>
    rw [pB_succ, ih, show 9 * (k + 1) = 9 * k + 9 by omega, Nat.pow_add, Nat.mul_comm]
/-- One more digit of a piece. -/
theorem text_round {out : List UInt8} {n S : Nat} {c : UInt8} (hc : c.toNat = 48 + n % 10) (inv : dv out + 10 ^ out.length * n = S) :
    dv (out ++ [c]) + 10 ^ (out ++ [c]).length * (n / 10) = S := by
  have e := Nat.div_add_mod n 10
  rw [dv_append, List.length_append, dv_cons]
  show dv out + 10 ^ out.length * (c.toNat - 48 + 10 * 0) + 10 ^ (out.length + 1) * (n / 10) = S
  rw [hc, Nat.pow_succ]
  generalize n / 10 = d at *
  generalize n % 10 = m at *
  have : 48 + m - 48 + 10 * 0 = m := by omega
  rw [this, ← inv, ← e]
  grind
/-- The value of a slice of digits stands before what follows. -/
theorem cut_round {l : List UInt8} {e k S : Nat} (he : e ≤ l.length) (hk : l.length - e = 9 * k) (f : Nat) (hf : f ≤ e) (inv : S = decV 0 (l.drop e)) :
    S + pB k * decV 0 ((l.take e).drop f) = decV 0 (l.drop f) := by
  have h1 : l.drop f = (l.take e).drop f ++ l.drop e := by
    rw [← List.drop_append_of_le_length (by rw [List.length_take]; omega), List.take_append_drop]
  rw [h1, decV_append, decV_add (l.drop e) (decV 0 _), inv, pB_pow, List.length_drop, hk, Nat.mul_comm, Nat.add_comm]
theorem slice_lt {l : List UInt8} (h : l.all isDig = true) (hl : l.length ≤ 9) : decV 0 l < 1000000000 := by
  have h1 := decV_lt l 0 h
  rw [Nat.zero_add, Nat.one_mul] at h1
  have h2 : 10 ^ l.length ≤ 10 ^ 9 := Nat.pow_le_pow_right (by omega) hl
  rw [show (10 : Nat) ^ 9 = 1000000000 by decide] at h2
  omega
theorem all_sub {l : List UInt8} (h : l.all isDig = true) (e f : Nat) : ((l.take e).drop f).all isDig = true := by
  rw [List.all_eq_true] at h ⊢
  exact fun x hx => h x (List.mem_of_mem_take (List.mem_of_mem_drop hx))
/-- How two numbers compare. -/
def cmpN (u v : Nat) : Int := if u < v then -1 else if u = v then 0 else 1
theorem cmpN_lt {u v : Nat} (h : u < v) : cmpN u v = -1 := by unfold cmpN; rw [if_pos h]
theorem cmpN_gt {u v : Nat} (h : v < u) : cmpN u v = 1 := by unfold cmpN; rw [if_neg (by omega), if_neg (by omega)]
theorem cmpN_eq {u v : Nat} (h : u = v) : cmpN u v = 0 := by unfold cmpN; rw [if_neg (by omega), if_pos h]
/-- Sizes of results. -/
theorem num_le_mono {u v : Nat} (h : u ≤ v) : (numB u).size ≤ (numB v).size := by
  rw [numB_size, numB_size]
  false_or_by_contra
  rename_i hn
  have := nDigits_lt (u := v) (v := u) (by omega)
  omega
theorem num_add_size (u v : Nat) : (numB (u + v)).size ≤ max (numB u).size (numB v).size + 1 := by
  rw [numB_size, numB_size, numB_size]
  have h1 := Lib.lt_pow_nDigits u
  have h2 := Lib.lt_pow_nDigits v
  have h3 : 10 ^ Lib.nDigits u ≤ 10 ^ max (Lib.nDigits u) (Lib.nDigits v) := Nat.pow_le_pow_right (by omega) (by omega)
  have h4 : 10 ^ Lib.nDigits v ≤ 10 ^ max (Lib.nDigits u) (Lib.nDigits v) := Nat.pow_le_pow_right (by omega) (by omega)
  refine nDigits_le _ _ ?_ (by omega)
  rw [Nat.pow_succ]; omega
theorem num_mul_size (u v : Nat) : (numB (u * v)).size ≤ (numB u).size + (numB v).size := by
  rw [numB_size, numB_size, numB_size]
  have h1 := Lib.lt_pow_nDigits u
  have h2 := Lib.lt_pow_nDigits v
  have h3 := Lib.nDigits_pos u
  refine nDigits_le _ _ ?_ (by omega)
  rw [Nat.pow_add]
  exact Nat.mul_lt_mul'' h1 h2
end Go.Proofs.YtpeinobepiodaaaGreatDoor
