/- Contracts of the reference of chapter 5 on numerals: integer, value, digits. -/
import Derived.Test.YtobgghjmclagaaaDoorNumS
namespace Go.Proofs.YtobgghjmclagaaaDoor
set_option linter.unusedVariables false
set_option linter.unusedSimpArgs false
open Go.RowKit

def finB (m : List UInt8) : Bool := decide (m.length = 1) || (decide (1 < m.length) && m.head? != some 48)
theorem finB_long (m : ByteArray) (h : 1 < m.size) : finB m.data.toList = ((m[0].toNat : Int) != 48) := by
  have hb := bytes_get m 0 (by omega)
  unfold finB
  have hl : m.data.toList.length = m.size := (Lib.size_eq m).symm
  have e1 : m.data.toList.head? = some m[0] := by rw [List.head?_eq_getElem?]; exact hb
  have c1 : ¬ m.size = 1 := by omega
  rw [hl, e1, decide_eq_false c1, decide_eq_true h, Bool.false_or, Bool.true_and, Bool.eq_iff_iff]
  simp only [bne_iff_ne, ne_eq, Option.some.injEq]
  rw [← UInt8.toNat_inj]
  show ¬ (m[0].toNat = 48) ↔ _
  omega
theorem canon_minus (r : List UInt8) (h1 : r ≠ []) (h2 : r.head? ≠ some 48) : canonS (45 :: r) = (r.all isDig && finB r) := by
  have e1 : (r != []) = true := bne_iff_ne.2 h1
  have e2 : (r.head? != some 48) = true := bne_iff_ne.2 h2
  have hl : r.length = 1 ∨ 1 < r.length := by
    have := List.length_pos_iff.2 h1
    omega
  have e3 : finB r = true := by
    unfold finB; rw [e2, Bool.and_true, Bool.or_eq_true, decide_eq_true_iff, decide_eq_true_iff]; exact hl
  unfold canonS
  rw [magL_minus, e1, e2, e3]
  simp
theorem canon_minus0 (r : List UInt8) (h2 : r.head? = some 48) : canonS (45 :: r) = false := by
  unfold canonS
  rw [magL_minus, h2]
  simp
theorem canon_plain (l : List UInt8) (h : ¬ (1 < l.length ∧ l.head? = some 45)) : canonS l = (l.all isDig && finB l) := by
  cases l with
  | nil => rfl
  | cons c r =>
    by_cases hc : c = 45
    · subst hc
      have : r = [] := by
        cases r with
        | nil => rfl
        | cons d t => exact absurd ⟨by simp, rfl⟩ h
      subst this; rfl
    · unfold canonS
      rw [magL_other hc]
      congr 1
      cases r with
      | nil => 
        by_cases h0 : c = 48
        · subst h0; rfl
        · simp [finB, h0]
      | cons d t => simp [finB]

set_option maxRecDepth 100000 in
set_option maxHeartbeats 1000000 in
theorem integer_any (s : ByteArray) (w : World) (hs : s.size ≤ 100000) :
    Calls Tryd.prog 80 #[.string s] w fun e w' => e = .returned (.bool (canonS s.data.toList)) ∧ w = w' := by
  by_cases hm1 : 1 < s.size ∧ s.data.toList.head? = some 45
  · obtain ⟨hl, hh⟩ := hm1
    have hl' : (1 : Int) < (s.size : Int) := by omega
    obtain ⟨r, hr⟩ : ∃ r, s.data.toList = 45 :: r := by
      cases hx : s.data.toList with
      | nil => rw [hx] at hh; simp at hh
      | cons c r => rw [hx] at hh; simp at hh; exact ⟨r, by rw [hh]⟩
    have h0 : 0 < s.size := by omega
    have q0 : ((s[0].toNat : Int) == 45) = true := by
      have hb := bytes_get s 0 h0
      rw [hr] at hb
      simp only [List.getElem?_cons_zero, Option.some.injEq] at hb
      rw [← hb]; rfl
    obtain ⟨m, hm⟩ : ∃ m, s.extract 1 s.size = m := ⟨_, rfl⟩
    have HMr : Hid (m.data.toList = r) := by
      unfold Hid
      rw [← hm, Lib.extract_data, hr, List.drop_succ_cons, List.drop_zero]
      have : r.length + 1 = s.size := by rw [Lib.size_eq, hr]; rfl
      exact List.take_of_length_le (by omega)
    have hms : m.size + 1 = s.size := by
      rw [Lib.size_eq, HMr.out, Lib.size_eq, hr]; rfl
    have hml : m.size ≤ 100000 := by omega
    have hpos : 0 < m.size := by omega
    have hb0 := bytes_get m 0 hpos
    by_cases hz : m.data.toList.head? = some 48
    · have q1 : ((m[0].toNat : Int) == 48) = true := by
        rw [List.head?_eq_getElem?, hb0] at hz
        simp only [Option.some.injEq] at hz
        rw [hz]; rfl
      have HX : Hid (canonS s.data.toList = false) := by
        unfold Hid; rw [hr]; exact canon_minus0 r (by rw [← HMr.out]; exact hz)
      clear hh hr hms hb0 hz HMr
      go_enter Tryd.func80, Tryd.ntmps80
      go_wp2_with fail
      go_ret
      exact ⟨by rw [HX.out]; rfl, rfl⟩
    · have q1 : ((m[0].toNat : Int) == 48) = false := by
        rw [List.head?_eq_getElem?, hb0] at hz
        simp only [Option.some.injEq] at hz
        rw [beq_eq_false_iff_ne]
        intro e
        exact hz (UInt8.toNat_inj.1 (by show m[0].toNat = 48; omega))
      have HV : Hid (canonS s.data.toList = (m.data.toList.all isDig && finB m.data.toList)) := by
        unfold Hid; rw [hr, HMr.out]
        exact canon_minus r (by intro e; rw [← HMr.out] at e; rw [Lib.size_eq, e] at hpos; simp at hpos) (by rw [← HMr.out]; exact hz)
      clear hh hr hms hb0 hz HMr
      go_enter Tryd.func80, Tryd.ntmps80
      go_wp2_with fail
      go_loop [3] (fun t => ∃ j : Nat, j ≤ m.size ∧ t = .int .i64 j ∧ Hid ((m.data.toList.take j).all isDig = true)) (fun t => m.size - (intOf t).toNat)
      case atStart => exact ⟨0, by omega, rfl, rfl⟩
      case round =>
        obtain ⟨j, hj, rfl, HA⟩ := hrel
        by_cases hlt : j < m.size
        · have hc := bytes_get m j hlt
          have HT1 : Hid ((m.data.toList.take (j + 1)).all isDig = isDig m[j]) := by
            unfold Hid; rw [List.take_add_one, hc, List.all_append, HA.out]; simp
          have HAll : Hid (isDig m[j] = false → m.data.toList.all isDig = false) := by
            intro h
            rw [List.all_eq_false]
            exact ⟨m[j], List.mem_of_getElem? hc, by simp [h]⟩
          clear hc
          by_cases h1 : (m[j].toNat : Int) < 48
          · have HF : Hid (canonS s.data.toList = false) := by
              unfold Hid
              rw [HV.out, HAll.out (by rw [← Bool.not_eq_true, isDig_iff]; omega)]; rfl
            go_wp2_with fail
            go_ret
            exact ⟨by rw [HF.out]; rfl, rfl⟩
          · by_cases h2 : 57 < (m[j].toNat : Int)
            · have HF : Hid (canonS s.data.toList = false) := by
                unfold Hid
                rw [HV.out, HAll.out (by rw [← Bool.not_eq_true, isDig_iff]; omega)]; rfl
              go_wp2_with fail
              go_ret
              exact ⟨by rw [HF.out]; rfl, rfl⟩
            · have HD : Hid ((m.data.toList.take (j + 1)).all isDig = true) := by
                unfold Hid; rw [HT1.out, isDig_iff]; omega
              go_wp2_with fail
              go_round
              case rel => exact ⟨j + 1, by omega, by go_num, HD⟩
              case measure => simp [intOf]; omega
        · obtain rfl : j = m.size := by omega
          have HAll : Hid (m.data.toList.all isDig = true) := by
            unfold Hid
            have := HA.out
            rwa [List.take_of_length_le (by rw [← Lib.size_eq]; omega)] at this
          have HW : Hid (canonS s.data.toList = finB m.data.toList) := by unfold Hid; rw [HV.out, HAll.out, Bool.true_and]
          by_cases k1 : m.size = 1
          · have k2 : ((m.size : Int) == 1) = true := by simp [k1]
            have HX : Hid (canonS s.data.toList = true) := by
              unfold Hid; rw [HW.out]; unfold finB; rw [← Lib.size_eq, k1]; rfl
            clear k1
            go_wp2_with fail
            go_ret
            exact ⟨by rw [HX.out]; rfl, rfl⟩
          · have k2 : ((m.size : Int) == 1) = false := by simp; omega
            by_cases k3 : 1 < m.size
            · have k4 : (1 : Int) < (m.size : Int) := by omega
              have hpos : 0 < m.size := by omega
              have HX : Hid (canonS s.data.toList = ((m[0].toNat : Int) != 48)) := by
                unfold Hid; rw [HW.out]; exact finB_long m k3
              clear k1
              go_wp2_with fail
              go_ret
              exact ⟨by rw [HX.out]; rfl, rfl⟩
            · have k4 : ¬ (1 : Int) < (m.size : Int) := by omega
              have HX : Hid (canonS s.data.toList = false) := by
                unfold Hid; rw [HW.out]; unfold finB; rw [← Lib.size_eq, decide_eq_false k1, decide_eq_false k3]; rfl
              clear k1
              go_wp2_with fail
              go_ret
              exact ⟨by first | (rw [HX.out]; rfl) | (exfalso; omega), rfl⟩

  · have HV : Hid (canonS s.data.toList = (s.data.toList.all isDig && finB s.data.toList)) := by
      unfold Hid; exact canon_plain _ (by rw [← Lib.size_eq]; exact hm1)
    obtain ⟨m, rfl⟩ : ∃ m, m = s := ⟨_, rfl⟩
    by_cases hl : 1 < m.size
    · have hl' : (1 : Int) < (m.size : Int) := by omega
      have h0 : 0 < m.size := by omega
      have q0 : ((m[0].toNat : Int) == 45) = false := by
        have hb := bytes_get m 0 h0
        rw [beq_eq_false_iff_ne]
        intro e
        refine hm1 ⟨hl, ?_⟩
        rw [List.head?_eq_getElem?, hb]
        congr 1
        exact UInt8.toNat_inj.1 (by show m[0].toNat = 45; omega)
      clear hm1
      go_enter Tryd.func80, Tryd.ntmps80
      go_wp2_with fail
      go_loop [3] (fun t => ∃ j : Nat, j ≤ m.size ∧ t = .int .i64 j ∧ Hid ((m.data.toList.take j).all isDig = true)) (fun t => m.size - (intOf t).toNat)
      case atStart => exact ⟨0, by omega, rfl, rfl⟩
      case round =>
        obtain ⟨j, hj, rfl, HA⟩ := hrel
        by_cases hlt : j < m.size
        · have hc := bytes_get m j hlt
          have HT1 : Hid ((m.data.toList.take (j + 1)).all isDig = isDig m[j]) := by
            unfold Hid; rw [List.take_add_one, hc, List.all_append, HA.out]; simp
          have HAll : Hid (isDig m[j] = false → m.data.toList.all isDig = false) := by
            intro h
            rw [List.all_eq_false]
            exact ⟨m[j], List.mem_of_getElem? hc, by simp [h]⟩
          clear hc
          by_cases h1 : (m[j].toNat : Int) < 48
          · have HF : Hid (canonS m.data.toList = false) := by
              unfold Hid
              rw [HV.out, HAll.out (by rw [← Bool.not_eq_true, isDig_iff]; omega)]; rfl
            go_wp2_with fail
            go_ret
            exact ⟨by rw [HF.out]; rfl, rfl⟩
          · by_cases h2 : 57 < (m[j].toNat : Int)
            · have HF : Hid (canonS m.data.toList = false) := by
                unfold Hid
                rw [HV.out, HAll.out (by rw [← Bool.not_eq_true, isDig_iff]; omega)]; rfl
              go_wp2_with fail
              go_ret
              exact ⟨by rw [HF.out]; rfl, rfl⟩
            · have HD : Hid ((m.data.toList.take (j + 1)).all isDig = true) := by
                unfold Hid; rw [HT1.out, isDig_iff]; omega
              go_wp2_with fail
              go_round
              case rel => exact ⟨j + 1, by omega, by go_num, HD⟩
              case measure => simp [intOf]; omega
        · obtain rfl : j = m.size := by omega
          have HAll : Hid (m.data.toList.all isDig = true) := by
            unfold Hid
            have := HA.out
            rwa [List.take_of_length_le (by rw [← Lib.size_eq]; omega)] at this
          have HW : Hid (canonS m.data.toList = finB m.data.toList) := by unfold Hid; rw [HV.out, HAll.out, Bool.true_and]
          by_cases k1 : m.size = 1
          · have k2 : ((m.size : Int) == 1) = true := by simp [k1]
            have HX : Hid (canonS m.data.toList = true) := by
              unfold Hid; rw [HW.out]; unfold finB; rw [← Lib.size_eq, k1]; rfl
            clear k1
            go_wp2_with fail
            go_ret
            exact ⟨by rw [HX.out]; rfl, rfl⟩
          · have k2 : ((m.size : Int) == 1) = false := by simp; omega
            by_cases k3 : 1 < m.size
            · have k4 : (1 : Int) < (m.size : Int) := by omega
              have hpos : 0 < m.size := by omega
              have HX : Hid (canonS m.data.toList = ((m[0].toNat : Int) != 48)) := by
                unfold Hid; rw [HW.out]; exact finB_long m k3
              clear k1
              go_wp2_with fail
              go_ret
              exact ⟨by rw [HX.out]; rfl, rfl⟩
            · have k4 : ¬ (1 : Int) < (m.size : Int) := by omega
              have HX : Hid (canonS m.data.toList = false) := by
                unfold Hid; rw [HW.out]; unfold finB; rw [← Lib.size_eq, decide_eq_false k1, decide_eq_false k3]; rfl
              clear k1
              go_wp2_with fail
              go_ret
              exact ⟨by first | (rw [HX.out]; rfl) | (exfalso; omega), rfl⟩

    · have hl' : ¬ (1 : Int) < (m.size : Int) := by omega
      clear hm1
      go_enter Tryd.func80, Tryd.ntmps80
      go_wp2_with fail
      go_loop [3] (fun t => ∃ j : Nat, j ≤ m.size ∧ t = .int .i64 j ∧ Hid ((m.data.toList.take j).all isDig = true)) (fun t => m.size - (intOf t).toNat)
      case atStart => exact ⟨0, by omega, rfl, rfl⟩
      case round =>
        obtain ⟨j, hj, rfl, HA⟩ := hrel
        by_cases hlt : j < m.size
        · have hc := bytes_get m j hlt
          have HT1 : Hid ((m.data.toList.take (j + 1)).all isDig = isDig m[j]) := by
            unfold Hid; rw [List.take_add_one, hc, List.all_append, HA.out]; simp
          have HAll : Hid (isDig m[j] = false → m.data.toList.all isDig = false) := by
            intro h
            rw [List.all_eq_false]
            exact ⟨m[j], List.mem_of_getElem? hc, by simp [h]⟩
          clear hc
          by_cases h1 : (m[j].toNat : Int) < 48
          · have HF : Hid (canonS m.data.toList = false) := by
              unfold Hid
              rw [HV.out, HAll.out (by rw [← Bool.not_eq_true, isDig_iff]; omega)]; rfl
            go_wp2_with fail
            go_ret
            exact ⟨by rw [HF.out]; rfl, rfl⟩
          · by_cases h2 : 57 < (m[j].toNat : Int)
            · have HF : Hid (canonS m.data.toList = false) := by
                unfold Hid
                rw [HV.out, HAll.out (by rw [← Bool.not_eq_true, isDig_iff]; omega)]; rfl
              go_wp2_with fail
              go_ret
              exact ⟨by rw [HF.out]; rfl, rfl⟩
            · have HD : Hid ((m.data.toList.take (j + 1)).all isDig = true) := by
                unfold Hid; rw [HT1.out, isDig_iff]; omega
              go_wp2_with fail
              go_round
              case rel => exact ⟨j + 1, by omega, by go_num, HD⟩
              case measure => simp [intOf]; omega
        · obtain rfl : j = m.size := by omega
          have HAll : Hid (m.data.toList.all isDig = true) := by
            unfold Hid
            have := HA.out
            rwa [List.take_of_length_le (by rw [← Lib.size_eq]; omega)] at this
          have HW : Hid (canonS m.data.toList = finB m.data.toList) := by unfold Hid; rw [HV.out, HAll.out, Bool.true_and]
          by_cases k1 : m.size = 1
          · have k2 : ((m.size : Int) == 1) = true := by simp [k1]
            have HX : Hid (canonS m.data.toList = true) := by
              unfold Hid; rw [HW.out]; unfold finB; rw [← Lib.size_eq, k1]; rfl
            clear k1
            go_wp2_with fail
            go_ret
            exact ⟨by rw [HX.out]; rfl, rfl⟩
          · have k2 : ((m.size : Int) == 1) = false := by simp; omega
            by_cases k3 : 1 < m.size
            · have k4 : (1 : Int) < (m.size : Int) := by omega
              have hpos : 0 < m.size := by omega
              have HX : Hid (canonS m.data.toList = ((m[0].toNat : Int) != 48)) := by
                unfold Hid; rw [HW.out]; exact finB_long m k3
              clear k1
              go_wp2_with fail
              go_ret
              exact ⟨by rw [HX.out]; rfl, rfl⟩
            · have k4 : ¬ (1 : Int) < (m.size : Int) := by omega
              have HX : Hid (canonS m.data.toList = false) := by
                unfold Hid; rw [HW.out]; unfold finB; rw [← Lib.size_eq, decide_eq_false k1, decide_eq_false k3]; rfl
              clear k1
              go_wp2_with fail
              go_ret
              exact ⟨by first | (rw [HX.out]; rfl) | (exfalso; omega), rfl⟩


theorem dig_bytes (m : ByteArray) (h : m.data.toList.all isDig = true) (hl : m.size ≤ 11) :
    (∀ j, 0 ≤ (decV 0 (m.data.toList.take j) : Int) ∧ (decV 0 (m.data.toList.take j) : Int) ≤ 100000000000) ∧
    (∀ j (hj : j < m.size), (48 : Int) ≤ (m[j].toNat : Int) ∧ (m[j].toNat : Int) ≤ 57 ∧ (decV 0 (m.data.toList.take (j + 1)) : Int) = (decV 0 (m.data.toList.take j) : Int) * 10 + ((m[j].toNat : Int) - 48)) := by
  have ht : ∀ j, (m.data.toList.take j).all isDig = true := by
    intro j
    rw [List.all_eq_true] at h ⊢
    intro x hx
    exact h x (List.mem_of_mem_take hx)
  refine ⟨fun j => ⟨by omega, ?_⟩, fun j hj => ?_⟩
  · have h1 := decV_lt (m.data.toList.take j) 0 (ht j)
    have h2 : (m.data.toList.take j).length ≤ 11 := by rw [List.length_take, ← Lib.size_eq]; omega
    have h3 : 10 ^ (m.data.toList.take j).length ≤ 10 ^ 11 := Nat.pow_le_pow_right (by omega) h2
    have h4 : (10 : Nat) ^ 11 = 100000000000 := by decide
    rw [Nat.zero_add, Nat.one_mul] at h1
    obtain ⟨P, hP⟩ : ∃ P, P = 10 ^ (m.data.toList.take j).length := ⟨_, rfl⟩
    rw [← hP] at h1 h3
    omega
  · have hb := bytes_get m j hj
    have hd := List.all_eq_true.1 h m[j] (List.mem_of_getElem? hb)
    have hc : 48 ≤ m[j].toNat ∧ m[j].toNat ≤ 57 := of_decide_eq_true hd
    refine ⟨by omega, by omega, ?_⟩
    rw [List.take_add_one, hb, decV_append]
    show ((decV (decV 0 (m.data.toList.take j)) [m[j]] : Nat) : Int) = _
    rw [decV_cons, decV_nil]
    omega

def valR (l : List UInt8) : Int := if 11 < l.length then 0 else numS l
def valOk (l : List UInt8) : Bool := !decide (11 < l.length) && fitB (numS l)
theorem valOk_iff {l : List UInt8} (h : canonS l = true) : valOk l = fitB (numS l) := by
  unfold valOk
  by_cases hl : 11 < l.length
  · have := numS_long h hl
    have : fitB (numS l) = false := by
      rw [← Bool.not_eq_true, fitB_iff]; omega
    rw [this, Bool.and_false]
  · rw [decide_eq_false hl]; rfl
theorem valR_ok {l : List UInt8} (h : valOk l = true) : valR l = numS l := by
  unfold valOk at h; unfold valR
  rw [Bool.and_eq_true, Bool.not_eq_true', decide_eq_false_iff_not] at h
  rw [if_neg h.1]

theorem ret2_int {a b : Int} {x y : Bool} (h : a = b) (k : x = y) : Ending.returned (.tuple #[.int .i64 a, .bool x]) = .returned (.tuple #[.int .i64 b, .bool y]) := by rw [h, k]
set_option maxRecDepth 100000 in
set_option maxHeartbeats 1000000 in
theorem value_any (s : ByteArray) (w : World) (hs : s.size ≤ 100000) (hc : canonS s.data.toList = true) :
    Calls Tryd.prog 81 #[.string s] w fun e w' => e = .returned (.tuple #[.int .i64 (valR s.data.toList), .bool (valOk s.data.toList)]) ∧ Ext w w' := by
  by_cases hl : 11 < s.size
  · have hl' : (11 : Int) < (s.size : Int) := by omega
    have HR : Hid (Ending.returned (.tuple #[.int .i64 0, .bool false]) = Ending.returned (.tuple #[.int .i64 (valR s.data.toList), .bool (valOk s.data.toList)])) := by
      refine ret2_int ?_ ?_
      · unfold valR; rw [if_pos (by rw [← Lib.size_eq]; exact hl)]
      · unfold valOk; rw [← Lib.size_eq, decide_eq_true hl]; rfl
    clear hc
    go_enter Tryd.func81, Tryd.ntmps81
    go_wp2_with fail
    go_ret2
    exact ⟨HR.out, Ext.refl _⟩
  · have hl' : ¬ (11 : Int) < (s.size : Int) := by omega
    have HL : Hid (¬ 11 < s.data.toList.length) := by unfold Hid; rw [← Lib.size_eq]; exact hl
    have HV : Hid (Ending.returned (.tuple #[.int .i64 (numS s.data.toList), .bool (fitB (numS s.data.toList))]) = Ending.returned (.tuple #[.int .i64 (valR s.data.toList), .bool (valOk s.data.toList)])) := by
      refine ret2_int ?_ ?_
      · unfold valR; rw [if_neg HL.out]
      · rw [valOk_iff hc]
    rcases canonS_cases hc with ⟨r, hr, hne, hd, h0⟩ | ⟨c, r, hr, h45, h43, hd, h0⟩
    · have hz : 0 < s.size := by rw [Lib.size_eq, hr]; simp
      have q0 : ((s[0].toNat : Int) == 45) = true := by
        have hb := bytes_get s 0 hz
        rw [hr] at hb
        simp only [List.getElem?_cons_zero, Option.some.injEq] at hb
        rw [← hb]; rfl
      obtain ⟨m, hm⟩ : ∃ m, s.extract 1 s.size = m := ⟨_, rfl⟩
      have HMr : Hid (m.data.toList = r) := by
        unfold Hid
        rw [← hm, Lib.extract_data, hr, List.drop_succ_cons, List.drop_zero]
        have : r.length + 1 = s.size := by rw [Lib.size_eq, hr]; rfl
        exact List.take_of_length_le (by omega)
      have hms : m.size + 1 = s.size := by
        rw [Lib.size_eq, HMr.out, Lib.size_eq, hr]; rfl
      have hml : m.size ≤ 11 := by omega
      obtain ⟨hB, hDD⟩ := dig_bytes m (by rw [HMr.out]; exact hd) hml
      have HB := Lib.hid hB; have HD := Lib.hid hDD
      have HN : Hid (numS s.data.toList = -(decV 0 m.data.toList : Int)) := by unfold Hid; rw [hr, numS_minus, HMr.out]
      have HT := Lib.hid (HB.out m.size)
      have HTK : Hid (m.data.toList.take m.size = m.data.toList) := List.take_of_length_le (by rw [← Lib.size_eq]; omega)
      clear hr hd h0 hne hms hB hDD hc HL
      go_enter Tryd.func81, Tryd.ntmps81
      go_wp2_with fail
      go_quiet (fail)
      go_wp2_with fail
      go_loop [5, 6] (fun n t => ∃ j : Nat, j ≤ m.size ∧ t = .int .i64 j ∧ n = .int .i64 (decV 0 (m.data.toList.take j))) (fun _ t => m.size - (intOf t).toNat)
      case atStart => exact ⟨0, by omega, rfl, rfl⟩
      case round =>
        obtain ⟨j, hj, rfl, rfl⟩ := hrel
        obtain ⟨hA1, hA2⟩ := HB.out j
        by_cases hlt : j < m.size
        · obtain ⟨hd1, hd2, hq⟩ := HD.out j hlt
          have HQ := Lib.hid hq
          have c1 : (48 : Int) ≤ (m[j].toNat : Int) := hd1
          have c2 : (m[j].toNat : Int) ≤ 57 := hd2
          clear hq hd1 hd2
          go_wp2_with fail
          go_round
          case rel => exact ⟨j + 1, by omega, by go_num, by rw [HQ.out]⟩
          case measure => simp [intOf]; omega
        · obtain rfl : j = m.size := by omega
          go_wp2_with fail
          go_ret2
          refine ⟨Eq.trans (ret2_int ?_ ?_) HV.out, by first | exact Ext.refl _ | exact Ext.drewN _ _⟩
          · rw [HN.out, HTK.out]
          · rw [HN.out, HTK.out]; unfold fitB; rw [Bool.eq_iff_iff]; simp
    · have hz : 0 < s.size := by rw [Lib.size_eq, hr]; simp
      have q0 : ((s[0].toNat : Int) == 45) = false := by
        have hb := bytes_get s 0 hz
        rw [hr] at hb
        simp only [List.getElem?_cons_zero, Option.some.injEq] at hb
        rw [← hb, beq_eq_false_iff_ne]
        intro e
        exact h45 (UInt8.toNat_inj.1 (by show c.toNat = 45; omega))
      obtain ⟨m, rfl⟩ : ∃ m, m = s := ⟨_, rfl⟩
      have hml : m.size ≤ 11 := by omega
      obtain ⟨hB, hDD⟩ := dig_bytes m (by rw [hr]; exact hd) hml
      have HB := Lib.hid hB; have HD := Lib.hid hDD
      have HN : Hid (numS m.data.toList = (decV 0 m.data.toList : Int)) := by unfold Hid; rw [hr, numS_other h45]
      have HTK : Hid (m.data.toList.take m.size = m.data.toList) := List.take_of_length_le (by rw [← Lib.size_eq]; omega)
      clear hr hd h0 hB hDD hc HL
      go_enter Tryd.func81, Tryd.ntmps81
      go_wp2_with fail
      go_loop [5, 6] (fun n t => ∃ j : Nat, j ≤ m.size ∧ t = .int .i64 j ∧ n = .int .i64 (decV 0 (m.data.toList.take j))) (fun _ t => m.size - (intOf t).toNat)
      case atStart => exact ⟨0, by omega, rfl, rfl⟩
      case round =>
        obtain ⟨j, hj, rfl, rfl⟩ := hrel
        obtain ⟨hA1, hA2⟩ := HB.out j
        by_cases hlt : j < m.size
        · obtain ⟨hd1, hd2, hq⟩ := HD.out j hlt
          have HQ := Lib.hid hq
          have c1 : (48 : Int) ≤ (m[j].toNat : Int) := hd1
          have c2 : (m[j].toNat : Int) ≤ 57 := hd2
          clear hq hd1 hd2
          go_wp2_with fail
          go_round
          case rel => exact ⟨j + 1, by omega, by go_num, by rw [HQ.out]⟩
          case measure => simp [intOf]; omega
        · obtain rfl : j = m.size := by omega
          go_wp2_with fail
          go_ret2
          refine ⟨Eq.trans (ret2_int ?_ ?_) HV.out, by first | exact Ext.refl _ | exact Ext.drewN _ _⟩
          · rw [HN.out, HTK.out]
          · rw [HN.out, HTK.out]; unfold fitB; rw [Bool.eq_iff_iff]; simp

end Go.Proofs.YtobgghjmclagaaaDoor
