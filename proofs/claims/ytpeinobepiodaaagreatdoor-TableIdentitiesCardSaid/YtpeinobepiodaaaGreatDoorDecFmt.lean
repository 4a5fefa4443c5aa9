/- decimal.Of, decimal.Small: the numerals of uint64s. -/
import Derived.Test.YtpeinobepiodaaaGreatDoorDecCut
import Derived.Test.YtpeinobepiodaaaGreatDoorShelfA
import Derived.Lib.AppendIntMem
import Derived.BigCall
import Derived.BigGuard
import Derived.Lib.ParseIntBTie
import Derived.Lib.ParseIntBCases
namespace Go.Proofs.YtpeinobepiodaaaGreatDoor
set_option linter.unusedVariables false
set_option linter.unusedSimpArgs false
open Go.RowKit Go.Shelf Go.Sort Go.Lib

/-- strconv's table of powers of ten lies as the program's text lays it. -/
def Pow10 (w : World) : Prop := Lib.TabIs Tryz.prog w "internal/strconv.uint64pow10" .u64 Lib.pow10Tab
theorem Pow10.ext {w w' : World} (h : Pow10 w) (he : Ext w w') : Pow10 w' := by
  unfold Pow10 Lib.TabIs at h ⊢
  cases hg : Tryz.prog.globalNamed "internal/strconv.uint64pow10" with
  | none => simp [World.var?, hg] at h
  | some g =>
    refine var?_below he hg ?_ h
    by_cases hlt : g < w.heap.size
    · exact hlt
    · simp [World.var?, hg, Array.getElem?_eq_none (show w.heap.size ≤ g by omega)] at h

theorem ret_str {a b : ByteArray} (h : a.data = b.data) : Ending.returned (.string a) = .returned (.string b) := by
  cases a; cases b; simp only at h; rw [h]
theorem ret_int {k : IntKind} {a b : Int} (h : a = b) : Ending.returned (.int k a) = .returned (.int k b) := by rw [h]
theorem bytes_ext {a b : ByteArray} (h : a.data.toList = b.data.toList) : a = b := by
  cases a; cases b; simp only at h; rw [ByteArray.mk.injEq]; exact Array.toList_inj.1 h


theorem grow_ext (w : World) (k : Nat) (os : Array Obj) : Ext w (grow (w.drewN k) os) := Lib.below_grow _ w (Nat.le_refl _) k os
theorem fin_zero (w : World) (o : Obj) (dk : Array UInt8) (k : Nat) : ∃ os, (putRow (fun (b : UInt8) => Value.int .u8 (b.toNat : Int)) (w.alloc o) w.heap.size 0 dk).drewN k = grow (w.drewN k) os := by
  rw [alloc_eq_grow]
  obtain ⟨os', _, e⟩ := putRow_grow_new (fun (b : UInt8) => Value.int .u8 (b.toNat : Int)) w #[o] w.heap.size 0 dk (Nat.le_refl _)
  exact ⟨os', by rw [e]; rfl⟩
set_option maxHeartbeats 6400000 in
set_option maxRecDepth 100000 in
theorem formatUint_inner (u : Nat) (w : World) (hu : u < 18446744073709551616) (ht : Pow10 w) :
    Calls Tryz.prog 154 #[.int .u64 u, .int .i64 10] w fun e w' => e = .returned (.string (numB u)) ∧ Ext w w' := by
  have hN : numB u = ⟨(Lib.decDigits u).toArray⟩ := rfl
  by_cases hs : u < 100
  · have HS : Hid (∀ W, Calls Tryz.prog 155 #[.int .i64 u] W fun e w' => e = .returned (.string (numB u)) ∧ w' = W) := fun W => Tryz.internal_strconv_small u hs W
    clear hN
    go_enter Tryz.func154, Tryz.ntmps154
    go_wp2_with fail
    refine (HS.out _).mono ?_
    rintro e w' ⟨rfl, rfl⟩
    go_wp2_with fail
    go_ret
    exact ⟨rfl, Ext.refl _⟩
  · have hu1 : 1 ≤ u := by omega
    have hnd20 : Lib.nDigits u ≤ 20 := by have := Lib.numDigits_eq u hu1 hu; split at this <;> omega
    have hb3 : Lib.nDigits u ≤ 24 := by omega
    have hal : Tryz.prog.arrayLen 188 = 24 := by simp [Program.arrayLen, Tryz.underlying188]
    have hsl1 : ∀ W, (Instr.sliceAt 188 (.pointer (some ⟨w.heap.size, 0, none⟩)) none (some (.int .i64 (Lib.nDigits u : Int))) none).run Tryz.prog W = .ok (.slice (some ⟨w.heap.size, 0, none⟩) (Lib.nDigits u) 24) W := fun W => by
      rw [run_sliceAt_array_h W 188 ⟨w.heap.size, 0, none⟩ (by simp [Program.arrayLen, Program.elem, Tryz.underlying188]) .i64 (Lib.nDigits u : Int) (by omega) (by rw [hal]; omega)]
      go_simp
    have hH0 := Lib.holds_zero0 w 188 (Lib.nDigits u) (by omega)
    have hfmt := Tryz.internal_strconv_formatBase10 w.heap.size 0 24 u (Array.replicate (Lib.nDigits u) 0) (w.alloc (.cells Lib.zeros24 188)) hH0 (by rw [Array.size_replicate]; exact Lib.lt_pow_nDigits u) hu (by rw [Array.size_replicate]; omega)
    rw [Array.size_replicate] at hfmt
    have HH0 := Lib.hid hH0
    have HT := Lib.hid ht
    have HN : Hid (∀ W, Pow10 W → Calls Tryz.prog 156 #[.int .u64 u] W fun e w' => e = .returned (.int .i64 (Lib.nDigits u)) ∧ w' = W) := fun W hW => Tryz.internal_strconv_numDigits u hu1 hu W hW
    clear hH0 hal ht
    go_enter Tryz.func154, Tryz.ntmps154
    go_wp2_with fail
    refine (HN.out _ (HT.out.ext (Ext.alloc _ _))).mono ?_
    rintro e w' ⟨rfl, rfl⟩
    go_wp2_with fail
    refine hfmt.mono ?_
    rintro e w' ⟨rfl, k, v', dk, rfl, hF⟩
    have hcv : (convert 174 9 (.slice (some ⟨w.heap.size, 0, none⟩) (Lib.nDigits u) 24)).run Tryz.prog ((putRow (fun (b : UInt8) => Value.int .u8 (b.toNat : Int)) (w.alloc (.cells Lib.zeros24 188)) w.heap.size 0 dk).drewN k) = .ok (.string (numB u)) ((putRow (fun (b : UInt8) => Value.int .u8 (b.toNat : Int)) (w.alloc (.cells Lib.zeros24 188)) w.heap.size 0 dk).drewN k) := by
      have h := run_convert_bytes_back (P := Tryz.prog) ((putRow (fun (b : UInt8) => Value.int .u8 (b.toNat : Int)) (w.alloc (.cells Lib.zeros24 188)) w.heap.size 0 dk).drewN k) 174 9 5 ⟨w.heap.size, 0, none⟩ 24 (Lib.decDigits u) Tryz.underlying174 Tryz.underlying5 Tryz.underlying9 (fun j hj => by
        rw [Lib.row_is_numeral hF j hj, Lib.add_plain, World.cell?_drewN]
        exact cell?_putRow (fun (b : UInt8) => Value.int .u8 (b.toNat : Int)) _ w.heap.size 0 _ dk HH0.out (by rw [hF.size, Array.size_replicate]) j (by rw [hF.size]; rw [Lib.decDigits_length] at hj; exact hj))
      rw [Lib.decDigits_length] at h
      exact h
    clear hN HT HN hfmt
    go_wp2_with fail
    go_ret
    obtain ⟨os, eo⟩ := fin_zero w (.cells zeros24 188) dk k
    exact ⟨rfl, by rw [eo]; exact grow_ext w k os⟩

theorem formatUint_any (u : Nat) (w : World) (hu : u < 18446744073709551616) (ht : Pow10 w) :
    Calls Tryz.prog 142 #[.int .u64 u, .int .i64 10] w fun e w' => e = .returned (.string (numB u)) ∧ Ext w w' := by
  have HF := Lib.hid (formatUint_inner u w hu ht)
  clear ht
  go_enter Tryz.func142, Tryz.ntmps142
  go_wp2_with fail
  refine HF.out.mono ?_
  rintro e w1 ⟨rfl, hE⟩
  have HE := Lib.hid hE
  clear hE HF
  go_wp2_with fail
  go_ret
  exact ⟨rfl, HE.out⟩
theorem decOf_any (u : Nat) (w : World) (hu : u < 18446744073709551616) (ht : Pow10 w) :
    Calls Tryz.prog 119 #[.int .u64 u] w fun e w' => e = .returned (.string (numB u)) ∧ Ext w w' := by
  have HF := Lib.hid (formatUint_any u w hu ht)
  clear ht
  go_enter Tryz.func119, Tryz.ntmps119
  go_wp2_with fail
  refine HF.out.mono ?_
  rintro e w1 ⟨rfl, hE⟩
  have HE := Lib.hid hE
  clear hE HF
  go_wp2_with fail
  go_ret
  exact ⟨rfl, HE.out⟩
theorem parseUint_num (u : Nat) (hu : u < 18446744073709551616) : Lib.parseUintB 64 (numB u).data.toList = .ok u := by
  have h := parseUint10_ok (Lib.decDigits u) 0 (digits_all u) (by rw [digits_val]; exact hu)
  rw [digits_val] at h
  rw [numB_data]
  have hne : Lib.decDigits u ≠ [] := by
    have := Lib.nDigits_pos u
    rw [← Lib.decDigits_length] at this
    exact List.length_pos_iff.1 this
  unfold Lib.parseUintB
  rw [if_neg hne, show (2 ^ 64 - 1 : Nat) = 18446744073709551615 by decide, Lib.parseUintM_64, h]
theorem decSmall_any (u : Nat) (w : World) (hu : u < 18446744073709551616) (hs : (numB u).size ≤ 1000000) :
    Calls Tryz.prog 141 #[.string (numB u)] w fun e w' => e = .returned (.tuple #[.int .u64 u, .bool true]) ∧ Ext w w' := by
  have HP : Hid (Calls Tryz.prog 153 #[.string (numB u), .int .i64 10, .int .i64 64] w fun e w' => e = .returned (.tuple #[.int .u64 u, .nilIface]) ∧ Ext w w') :=
    (Tryz.strconv_ParseUint_10_at64_ok (numB u) (by omega) u (parseUint_num u hu) w).mono fun e w' ⟨h1, h2⟩ => ⟨h1, by
      rcases h2 with rfl | rfl
      · exact Ext.refl _
      · exact ⟨rfl, rfl, rfl, by rw [Lib.bytesWorld_size]; omega, fun j hj => Lib.bytesWorld_at_old w _ _ j hj⟩⟩
  go_enter Tryz.func141, Tryz.ntmps141
  go_wp2_with fail
  refine HP.out.mono ?_
  rintro e w1 ⟨rfl, hE1⟩
  have HE1 := Lib.hid hE1
  clear hE1 HP
  go_wp2_with fail
  go_ret2
  exact ⟨rfl, HE1.out⟩
set_option maxRecDepth 100000 in
set_option maxHeartbeats 400000 in
theorem both_yes (u v : Nat) (w : World) (hu : (numB u).size ≤ 18) (hv : (numB v).size ≤ 18) :
    Calls Tryz.prog 118 #[.string (numB u), .string (numB v)] w fun e w' => e = .returned (.tuple #[.int .u64 u, .int .u64 v, .bool true]) ∧ Ext w w' := by
  have hb : ∀ x : Nat, (numB x).size ≤ 18 → x < 18446744073709551616 := by
    intro x hx
    rw [numB_size] at hx
    have h1 := Lib.lt_pow_nDigits x
    have h2 : 10 ^ Lib.nDigits x ≤ 10 ^ 18 := Nat.pow_le_pow_right (by omega) hx
    rw [show (10 : Nat) ^ 18 = 1000000000000000000 by decide] at h2
    omega
  have H1 : Hid (∀ W, Calls Tryz.prog 141 #[.string (numB u)] W fun e w' => e = .returned (.tuple #[.int .u64 u, .bool true]) ∧ Ext W w') := fun W => decSmall_any u W (hb u hu) (by omega)
  have H2 : Hid (∀ W, Calls Tryz.prog 141 #[.string (numB v)] W fun e w' => e = .returned (.tuple #[.int .u64 v, .bool true]) ∧ Ext W w') := fun W => decSmall_any v W (hb v hv) (by omega)
  have q1 : decide (18 < ((numB u).size : Int)) = false := decide_eq_false (by omega)
  have q2 : decide (18 < ((numB v).size : Int)) = false := decide_eq_false (by omega)
  clear hb
  go_enter Tryz.func118, Tryz.ntmps118
  go_wp2_with fail
  refine (H1.out _).mono ?_
  rintro e w1 ⟨rfl, hE1⟩
  have HE1 := Lib.hid hE1
  clear hE1 H1
  go_wp2_with fail
  refine (H2.out _).mono ?_
  rintro e w2 ⟨rfl, hE2⟩
  have HE2 := Lib.hid (Ext.trans HE1.out hE2)
  clear hE2 H2
  go_wp2_with fail
  go_ret3
  exact ⟨rfl, HE2.out⟩
set_option maxRecDepth 100000 in
theorem both_no (u v : Nat) (w : World) (h : 18 < (numB u).size ∨ 18 < (numB v).size) :
    Calls Tryz.prog 118 #[.string (numB u), .string (numB v)] w fun e w' => e = .returned (.tuple #[.int .u64 0, .int .u64 0, .bool false]) ∧ Ext w w' := by
  by_cases h1 : 18 < (numB u).size
  · have q1 : decide (18 < ((numB u).size : Int)) = true := decide_eq_true (by omega)
    clear h
    go_enter Tryz.func118, Tryz.ntmps118
    go_wp2_with fail
    go_ret3
    exact ⟨rfl, Ext.refl _⟩
  · have h2 : 18 < (numB v).size := by omega
    have q1 : decide (18 < ((numB u).size : Int)) = false := decide_eq_false (by omega)
    have q2 : decide (18 < ((numB v).size : Int)) = true := decide_eq_true (by omega)
    clear h
    go_enter Tryz.func118, Tryz.ntmps118
    go_wp2_with fail
    go_ret3
    exact ⟨rfl, Ext.refl _⟩
end Go.Proofs.YtpeinobepiodaaaGreatDoor
