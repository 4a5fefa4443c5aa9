/- Contracts on numerals: canonical of package row; integer and value of the reference. -/
import Derived.Test.YtobgghjmclagaaaDoorParseP
import Derived.Test.YtobgghjmclagaaaDoorWords
import Derived.Test.YtobgghjmclagaaaDoorShelfB
namespace Go.Proofs.YtobgghjmclagaaaDoor
set_option linter.unusedVariables false
set_option linter.unusedSimpArgs false
open Go.RowKit

theorem trimMinus (l : List UInt8) : Lib.trimPrefix l [45] = magL l := by
  unfold Lib.trimPrefix Lib.hasPrefix magL
  cases l with
  | nil => simp [List.isPrefixOf]
  | cons c r =>
    by_cases h : c = 45
    · subst h; simp [List.isPrefixOf]
    · have : ((45 : UInt8) == c) = false := beq_false_of_ne (fun e => h e.symm)
      simp only [List.isPrefixOf, this, Bool.false_and, Bool.false_eq_true, if_false]
      split
      · rename_i heq; simp only [List.cons.injEq] at heq; exact absurd heq.1 h
      · rfl

/-- A text's bytes are what they are. -/
theorem bytes_get (s : ByteArray) (j : Nat) (h : j < s.size) : s.data.toList[j]? = some s[j] := by
  have : j < s.data.toList.length := by rw [← Lib.size_eq]; exact h
  rw [List.getElem?_eq_getElem this]
  rfl
/-- '[]byte(s)': a new row with the text's bytes. -/
theorem bytesOf (s : ByteArray) (w : World) : ∃ (cap : Nat) (W1 : World),
    (convert 9 68 (.string s)).run Tryd.prog w = .ok (.slice (some ⟨w.heap.size, 0, none⟩) s.size cap) W1 ∧ Ext w W1 ∧
      ∀ (j : Nat) c, s.data.toList[j]? = some c → W1.cell? ⟨w.heap.size, j, none⟩ = some (.int .u8 c.toNat) := by
  refine ⟨_, _, Lib.run_convert_string_bytes (P := Tryd.prog) w 9 68 5 s (u := .string) Tryd.underlying9 Tryd.underlying68 Tryd.underlying5, ⟨rfl, rfl, rfl, by rw [Lib.bytesWorld_size]; omega, fun j hj => Lib.bytesWorld_at_old w _ s j hj⟩, fun j c hc => ?_⟩
  have hj : j < s.size := by rw [Lib.size_eq]; exact (List.getElem?_eq_some_iff.1 hc).1
  rw [Lib.bytesWorld_cell w _ s j hj]
  simp [List.getD, hc]

def tailB (l m : List UInt8) : Bool := l == [48] || (m != [] && m.head? != some 48)
theorem canonS_eq (l : List UInt8) : canonS l = ((magL l).all isDig && tailB l (magL l)) := rfl
theorem isDig_iff (c : UInt8) : isDig c = true ↔ 48 ≤ (c.toNat : Int) ∧ (c.toNat : Int) ≤ 57 := by
  unfold isDig; rw [decide_eq_true_iff]; omega

set_option maxRecDepth 100000 in
set_option maxHeartbeats 1000000 in
theorem canonical_any (s : ByteArray) (w : World) (hs : s.size ≤ 100000) :
    Calls Tryd.prog 77 #[.string s] w fun e w' => e = .returned (.bool (canonS s.data.toList)) ∧ Ext w w' := by
  obtain ⟨m, hm⟩ : ∃ m : ByteArray, m = ⟨(Lib.trimPrefix s.data.toList [45]).toArray⟩ := ⟨_, rfl⟩
  have HT : Hid (Calls Tryd.prog 92 #[.string s, .string ⟨#[45]⟩] w fun e w' => e = .returned (.string m) ∧ w = w') :=
    (Tryd.strings_TrimPrefix s ⟨#[45]⟩ w).mono fun e w' ⟨h1, h2⟩ => ⟨by rw [hm]; exact h1, h2.symm⟩
  have HM : Hid (m.data.toList = magL s.data.toList) := by
    unfold Hid; rw [hm, trimMinus]
  have hml : m.size ≤ 100000 := by
    rw [Lib.size_eq, HM.out]; rw [Lib.size_eq] at hs
    unfold magL; split
    · rename_i heq; rw [heq] at hs; simp at hs; omega
    · exact hs
  clear hm
  obtain ⟨cap, W1, hcv, hE1, hcell⟩ := bytesOf m w
  have HE1 := Lib.hid hE1
  have HC := Lib.hid hcell
  clear hE1 hcell
  go_enter Tryd.func77, Tryd.ntmps77
  go_wp2_with fail
  refine HT.out.mono ?_
  rintro e w' ⟨rfl, rfl⟩
  clear HT
  go_wp2_with fail
  clear hcv
  go_loopw [11] (fun t wr => ∃ j : Nat, j ≤ m.size ∧ t = .int .i64 j ∧ Ext w wr ∧ Ext W1 wr ∧ Hid ((m.data.toList.take j).all isDig = true)) (fun t _ => m.size - (intOf t).toNat)
  case atStart => exact ⟨0, by omega, rfl, HE1.out, Ext.refl _, rfl⟩
  case round =>
    obtain ⟨j, hj, rfl, hE, hE', HA⟩ := hrel
    have HE := Lib.hid hE
    have HE' := Lib.hid hE'
    by_cases hlt : j < m.size
    · obtain ⟨c, hc⟩ : ∃ c, m.data.toList[j]? = some c := ⟨_, bytes_get m j hlt⟩
      have g1 := hE'.cell (HC.out j c hc)
      have hc8 : (c.toNat : Int) ≤ 255 := by have := c.toNat_lt; omega
      have HT1 : Hid ((m.data.toList.take (j + 1)).all isDig = (isDig c)) := by
        unfold Hid; rw [List.take_add_one, hc, List.all_append, HA.out]; simp
      have hlt' : j < m.data.toList.length := (List.getElem?_eq_some_iff.1 hc).1
      have HAll : Hid (isDig c = false → m.data.toList.all isDig = false) := by
        intro h
        rw [List.all_eq_false]
        exact ⟨c, List.mem_of_getElem? hc, by simp [h]⟩
      clear hc hE hE' hlt'
      by_cases h1 : (c.toNat : Int) < 48
      · have HF : Hid (canonS s.data.toList = false) := by
          unfold Hid
          rw [canonS_eq, ← HM.out, HAll.out (by rw [← Bool.not_eq_true, isDig_iff]; omega)]; rfl
        go_wp2_with fail
        go_ret
        exact ⟨by rw [HF.out]; rfl, HE.out⟩
      · by_cases h2 : 57 < (c.toNat : Int)
        · have HF : Hid (canonS s.data.toList = false) := by
            unfold Hid
            rw [canonS_eq, ← HM.out, HAll.out (by rw [← Bool.not_eq_true, isDig_iff]; omega)]; rfl
          go_wp2_with fail
          go_ret
          exact ⟨by rw [HF.out]; rfl, HE.out⟩
        · have HD : Hid ((m.data.toList.take (j + 1)).all isDig = true) := by
            unfold Hid; rw [HT1.out, isDig_iff]; omega
          go_wp2_with fail
          go_roundw
          case rel => exact ⟨j + 1, by omega, by go_num, HE.out, HE'.out, HD⟩
          case measure => simp [intOf]; omega
    · obtain rfl : j = m.size := by omega
      have HAll : Hid (m.data.toList.all isDig = true) := by
        unfold Hid
        have := HA.out
        rwa [List.take_of_length_le (by rw [← Lib.size_eq]; omega)] at this
      have HV : Hid (canonS s.data.toList = tailB s.toList m.toList) := by
        unfold Hid
        rw [canonS_eq, ← HM.out, HAll.out, Bool.true_and, Lib.toList_data, Lib.toList_data]
      by_cases h0 : (s.toList == [48]) = true
      · have HV1 : Hid (canonS s.data.toList = true) := by unfold Hid; rw [HV.out]; unfold tailB; rw [h0]; rfl
        go_wp2_with fail
        go_ret
        exact ⟨by rw [HV1.out]; rfl, HE.out⟩
      · have h0' : (s.toList == [48]) = false := by simpa using h0
        clear h0
        by_cases h1 : m.toList = []
        · have h1' : m.toList.isEmpty = true := by rw [h1]; rfl
          have HV1 : Hid (canonS s.data.toList = false) := by unfold Hid; rw [HV.out]; unfold tailB; rw [h0', h1]; rfl
          go_wp2_with fail
          go_ret
          exact ⟨by rw [HV1.out]; rfl, HE.out⟩
        · have h1' : m.toList.isEmpty = false := by simpa using h1
          have hpos : 0 < m.size := by
            rw [Lib.size_eq, ← Lib.toList_data]; exact List.length_pos_iff.2 h1
          have hb := bytes_get m 0 hpos
          have HV1 : Hid (canonS s.data.toList = ((m[0].toNat : Int) != 48)) := by
            unfold Hid; rw [HV.out]; unfold tailB
            have e1 : m.toList.head? = some m[0] := by rw [Lib.toList_data, List.head?_eq_getElem?]; exact hb
            rw [h0', e1, Bool.false_or]
            have e2 : (m.toList != []) = true := bne_iff_ne.2 h1
            rw [e2, Bool.true_and, Bool.eq_iff_iff]
            simp only [bne_iff_ne, ne_eq, Option.some.injEq]
            rw [← UInt8.toNat_inj]
            show ¬ (m[0].toNat = 48) ↔ _
            omega
          clear h1 hb
          go_wp2_with fail
          go_ret
          exact ⟨by rw [HV1.out]; rfl, HE.out⟩
end Go.Proofs.YtobgghjmclagaaaDoor
