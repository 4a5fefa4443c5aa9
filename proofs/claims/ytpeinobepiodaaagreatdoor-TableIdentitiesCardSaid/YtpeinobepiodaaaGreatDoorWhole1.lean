/- Contracts of package whole at numerals: split, join, Sign, Neg, Abs, little, Of; decimal.Compare, Compare. -/
import Derived.Test.YtpeinobepiodaaaGreatDoorLimbTxt
import Derived.Test.YtpeinobepiodaaaGreatDoorDecMain
import Derived.Test.YtpeinobepiodaaaGreatDoorFd
import Derived.WalkLawsBesides
import Derived.WalkSmall
import Derived.Test.YtpeinobepiodaaaGreatDoorDecCut
namespace Go.Proofs.YtpeinobepiodaaaGreatDoor
set_option linter.unusedVariables false
set_option linter.unusedSimpArgs false
open Go.RowKit

/-- Small numbers: at most 18 bytes with a sign. -/
def Sm (n : Int) : Prop := -100000000000000000 < n ∧ n < 100000000000000000
theorem Sm.of {n : Int} {b : Int} (h1 : -b ≤ n) (h2 : n ≤ b) (hb : b < 100000000000000000) : Sm n := ⟨by omega, by omega⟩
theorem pow17 : (10 : Nat) ^ 17 = 100000000000000000 := by decide
theorem intB_size_pos (n : Int) : 1 ≤ (intB n).size := by
  rw [Lib.size_eq, intB_data]
  exact List.length_pos_iff.2 (itoa_canon n).2.2.2
theorem intB_size_neg (n : Int) (h : n < 0) : (intB n).size = (numB n.natAbs).size + 1 := by
  rw [Lib.size_eq, intB_neg n h, Lib.size_eq]; rfl
theorem Sm.size {n : Int} (h : Sm n) : (intB n).size ≤ 18 := by
  by_cases h0 : n < 0
  · rw [intB_size_neg n h0]
    have := numB_size_le n.natAbs 17 (by rw [pow17]; have := h.1; omega) (by omega)
    omega
  · rw [intB_pos n (by omega)]
    have := numB_size_le n.toNat 17 (by rw [pow17]; have := h.2; omega) (by omega)
    omega

theorem neg_head (n : Int) (h : n < 0) (hp : 0 < (intB n).size) : (((intB n)[0].toNat : Int) == 45) = true := by
  have hb := bytes_get (intB n) 0 hp
  rw [intB_neg n h] at hb
  simp only [List.getElem?_cons_zero, Option.some.injEq] at hb
  rw [← hb]; rfl
theorem dig_head (s : ByteArray) (u : Nat) (hs : s = numB u) (hp : 0 < s.size) : ((s[0].toNat : Int) == 45) = false := by
  subst hs
  have hb := bytes_get (numB u) 0 hp
  rw [numB_data] at hb
  have hd := List.all_eq_true.1 (digits_all u) _ (List.mem_of_getElem? hb)
  have hc : 48 ≤ (numB u)[0].toNat ∧ (numB u)[0].toNat ≤ 57 := of_decide_eq_true hd
  rw [beq_eq_false_iff_ne]; omega
theorem neg_tail (n : Int) (h : n < 0) : (intB n).extract 1 (intB n).size = numB n.natAbs := by
  apply bytes_ext
  rw [Lib.extract_data, intB_neg n h, List.drop_succ_cons, List.drop_zero]
  refine List.take_of_length_le ?_
  have := intB_size_neg n h
  rw [← Lib.size_eq]; omega
theorem int_zero (n : Int) : ((intB n).toList == [48]) = decide (n = 0) := by
  rw [intB_list, show ([48] : List UInt8) = Lib.itoa 0 by unfold Lib.itoa; rw [if_neg (by omega), Lib.decDigits_one (by decide)]; rfl, itoa_eq]

set_option maxRecDepth 100000 in
set_option maxHeartbeats 400000 in
/-- The sign and the magnitude. -/
theorem split_q (n : Int) (w : World) :
    Calls Tryz.prog 86 #[.string (intB n)] w fun e w' => e = .returned (.tuple #[.bool (decide (n < 0)), .string (numB n.natAbs)]) ∧ ∃ k, w' = w.drewN k := by
  have hp := intB_size_pos n
  have hp' : (0 : Int) < ((intB n).size : Int) := by omega
  have hp0 : 0 < (intB n).size := hp
  by_cases h : n < 0
  · have q := neg_head n h hp0
    have t := neg_tail n h
    have HD : Hid (decide (n < 0) = true) := decide_eq_true h
    obtain ⟨m, hm⟩ : ∃ m, m = numB n.natAbs := ⟨_, rfl⟩
    rw [← hm] at t ⊢
    rw [HD.out]
    clear h hm HD
    go_enter Tryz.func86, Tryz.ntmps86
    go_wp2_with fail
    go_quiet (fail)
    go_wp2_with fail
    go_ret2
    exact ⟨rfl, _, rfl⟩
  · have q := dig_head (intB n) n.toNat (intB_pos n (by omega)) hp0
    have HD : Hid (decide (n < 0) = false) := decide_eq_false h
    have HM : Hid (numB n.natAbs = intB n) := by unfold Hid; rw [intB_pos n (by omega)]; congr 1; omega
    rw [HD.out, HM.out]
    clear h HD HM
    go_enter Tryz.func86, Tryz.ntmps86
    go_wp2_with fail
    go_ret2
    exact ⟨rfl, 0, rfl⟩

theorem split_any (n : Int) (w : World) :
    Calls Tryz.prog 86 #[.string (intB n)] w fun e w' => e = .returned (.tuple #[.bool (decide (n < 0)), .string (numB n.natAbs)]) ∧ Ext w w' :=
  (split_q n w).mono fun _ _ ⟨h, k, hw⟩ => ⟨h, hw ▸ Ext.drewN _ _⟩

set_option maxRecDepth 100000 in
set_option maxHeartbeats 400000 in
/-- The integer of a sign and a magnitude. -/
theorem join_any (b : Bool) (u : Nat) (w : World) (hu : (numB u).size ≤ 1000000000) :
    Calls Tryz.prog 87 #[.bool b, .string (numB u)] w fun e w' => e = .returned (.string (intB (sgn b u))) ∧ w = w' := by
  have hz := num_zero u
  have z1 : ¬ 9223372036854775807 < 1 + (numB u).size := by omega
  cases b with
  | false =>
    have HR : Hid (intB (sgn false u) = numB u) := by unfold Hid sgn; rw [if_neg Bool.false_ne_true, intB_pos _ (by omega)]; congr 1
    rw [HR.out]
    clear HR hz
    go_enter Tryz.func87, Tryz.ntmps87
    go_wp2_with fail
    go_ret
    exact ⟨rfl, rfl⟩
  | true =>
    by_cases h0 : u = 0
    · rw [decide_eq_true h0] at hz
      have HR : Hid (intB (sgn true u) = numB u) := by unfold Hid sgn; rw [if_pos rfl, intB_pos _ (by omega)]; congr 1; omega
      rw [HR.out]
      clear HR h0
      go_enter Tryz.func87, Tryz.ntmps87
      go_wp2_with fail
      go_ret
      exact ⟨rfl, rfl⟩
    · rw [decide_eq_false h0] at hz
      have HR : Hid ((intB (sgn true u)).data = #[45] ++ (numB u).data) := by
        unfold Hid sgn; rw [if_pos rfl]
        apply Array.toList_inj.1
        rw [intB_neg _ (by omega)]
        simp
      clear h0
      go_enter Tryz.func87, Tryz.ntmps87
      go_wp2_with fail
      go_ret
      exact ⟨ret_str (by rw [HR.out]; simp), rfl⟩

set_option maxRecDepth 100000 in
set_option maxHeartbeats 400000 in
theorem sign_any (n : Int) (w : World) :
    Calls Tryz.prog 100 #[.string (intB n)] w fun e w' => e = .returned (.int .i64 n.sign) ∧ w = w' := by
  have hp0 : 0 < (intB n).size := intB_size_pos n
  have hz := int_zero n
  by_cases h0 : n = 0
  · rw [decide_eq_true h0] at hz
    have HR : Hid (n.sign = 0) := by unfold Hid; rw [h0]; rfl
    rw [HR.out]
    clear h0 HR
    go_enter Tryz.func100, Tryz.ntmps100
    go_wp2_with fail
    go_ret
    exact ⟨rfl, rfl⟩
  · rw [decide_eq_false h0] at hz
    by_cases h : n < 0
    · have q := neg_head n h hp0
      have HR : Hid (n.sign = -1) := Int.sign_eq_neg_one_of_neg h
      rw [HR.out]
      clear h0 h HR
      go_enter Tryz.func100, Tryz.ntmps100
      go_wp2_with fail
      go_ret
      exact ⟨rfl, rfl⟩
    · have q := dig_head (intB n) n.toNat (intB_pos n (by omega)) hp0
      have HR : Hid (n.sign = 1) := Int.sign_eq_one_of_pos (by omega)
      rw [HR.out]
      clear h0 h HR
      go_enter Tryz.func100, Tryz.ntmps100
      go_wp2_with fail
      go_ret
      exact ⟨rfl, rfl⟩

set_option maxRecDepth 100000 in
set_option maxHeartbeats 400000 in
theorem neg_any (n : Int) (w : World) (hs : (intB n).size ≤ 1000000000) :
    Calls Tryz.prog 50 #[.string (intB n)] w fun e w' => e = .returned (.string (intB (-n))) ∧ Ext w w' := by
  have hu : (numB n.natAbs).size ≤ 1000000000 := by
    by_cases h : n < 0
    · have := intB_size_neg n h; omega
    · rw [intB_pos n (by omega)] at hs; rw [show n.natAbs = n.toNat by omega]; exact hs
  have H1 := Lib.hid (split_any n w)
  have H2 : Hid (∀ W, Calls Tryz.prog 87 #[.bool (!decide (n < 0)), .string (numB n.natAbs)] W fun e w' => e = .returned (.string (intB (sgn (!decide (n < 0)) n.natAbs))) ∧ W = w') := fun W => join_any (!decide (n < 0)) n.natAbs W hu
  have HR : Hid (intB (sgn (!decide (n < 0)) n.natAbs) = intB (-n)) := by
    unfold Hid; congr 1; unfold sgn
    by_cases h : n < 0
    · rw [decide_eq_true h]; simp; omega
    · rw [decide_eq_false h]; simp; omega
  rw [HR.out] at H2
  obtain ⟨b, hb⟩ : ∃ b, b = decide (n < 0) := ⟨_, rfl⟩
  rw [← hb] at H1 H2
  clear hb HR
  go_enter Tryz.func50, Tryz.ntmps50
  go_wp2_with fail
  refine H1.out.mono ?_
  rintro e w1 ⟨rfl, hE1⟩
  have HE1 := Lib.hid hE1
  clear H1 hE1
  go_wp2_with fail
  refine (H2.out _).mono ?_
  rintro e w' ⟨rfl, rfl⟩
  clear H2
  go_wp2_with fail
  go_ret
  exact ⟨rfl, HE1.out⟩

set_option maxRecDepth 100000 in
set_option maxHeartbeats 400000 in
theorem abs_q (n : Int) (w : World) :
    Calls Tryz.prog 135 #[.string (intB n)] w fun e w' => e = .returned (.string (intB (n.natAbs : Int))) ∧ ∃ k, w' = w.drewN k := by
  have H1 := Lib.hid (split_q n w)
  have HR : Hid (intB (n.natAbs : Int) = numB n.natAbs) := by unfold Hid; rw [intB_pos _ (by omega)]; congr 1
  rw [HR.out]
  clear HR
  go_enter Tryz.func135, Tryz.ntmps135
  go_wp2_with fail
  refine H1.out.mono ?_
  rintro e w1 ⟨rfl, k, rfl⟩
  clear H1
  go_wp2_with fail
  go_ret
  exact ⟨rfl, _, rfl⟩

theorem abs_any (n : Int) (w : World) :
    Calls Tryz.prog 135 #[.string (intB n)] w fun e w' => e = .returned (.string (intB (n.natAbs : Int))) ∧ Ext w w' :=
  (abs_q n w).mono fun _ _ ⟨h, k, hw⟩ => ⟨h, hw ▸ Ext.drewN _ _⟩

end Go.Proofs.YtpeinobepiodaaaGreatDoor
