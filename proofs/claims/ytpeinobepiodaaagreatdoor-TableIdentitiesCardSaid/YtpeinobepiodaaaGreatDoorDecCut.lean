/- decimal.cut: the pieces of a numeral. -/
import Derived.Test.YtpeinobepiodaaaGreatDoorPcsAt
import Derived.OwnWalk
import Derived.Lib.ConvBytes
namespace Go.Proofs.YtpeinobepiodaaaGreatDoor
set_option linter.unusedVariables false
set_option linter.unusedSimpArgs false
open Go.RowKit

theorem bytes_get (s : ByteArray) (j : Nat) (h : j < s.size) : s.data.toList[j]? = some s[j] := by
  have : j < s.data.toList.length := by rw [← Lib.size_eq]; exact h
  rw [List.getElem?_eq_getElem this]
  rfl
/-- '[]byte(s)'. -/
theorem bytesOfI (s : ByteArray) (w : World) : ∃ (cap : Nat) (W1 : World),
    (convert 26 174 (.string s)).run Tryz.prog w = .ok (.slice (some ⟨w.heap.size, 0, none⟩) s.size cap) W1 ∧ Ext w W1 ∧
      ∀ (j : Nat) c, s.data.toList[j]? = some c → W1.cell? ⟨w.heap.size, j, none⟩ = some (.int .u8 c.toNat) := by
  refine ⟨_, _, Lib.run_convert_string_bytes (P := Tryz.prog) w 26 174 5 s (u := .string) Tryz.underlying26 Tryz.underlying174 Tryz.underlying5, ⟨rfl, rfl, rfl, by rw [Lib.bytesWorld_size]; omega, fun j hj => Lib.bytesWorld_at_old w _ s j hj⟩, fun j c hc => ?_⟩
  have hj : j < s.size := by rw [Lib.size_eq]; exact (List.getElem?_eq_some_iff.1 hc).1
  rw [Lib.bytesWorld_cell w _ s j hj]
  simp [List.getD, hc]
theorem ext_grown {w w' : World} (h : w.grownBy w' none) : Ext w w' := ⟨h.os, h.tape, h.output, h.size, fun k hk => h.block k hk (by simp)⟩

set_option maxRecDepth 100000 in
set_option maxHeartbeats 1000000 in
theorem cut_any (s : ByteArray) (w : World) (hd : s.data.toList.all isDig = true) (hs : s.size ≤ 400000) :
    Calls Tryz.prog 120 #[.string s] w fun e w' => ∃ v l, e = .returned v ∧ Hid (OwnP w.heap.size w' v l ∧ Can l ∧ lv l = decV 0 s.data.toList ∧ l.length ≤ s.size) ∧ Ext w w' := by
  obtain ⟨i0, hi, hz0, hz1, hz2⟩ := info_parts infoU64
  have HI := Lib.hid hi; have HZ0 := Lib.hid hz0; have HZ1 := Lib.hid hz1; have HZ2 := Lib.hid hz2
  have HD := Lib.hid hd
  clear hi hz0 hz1 hz2 hd
  obtain ⟨c, hc⟩ : ∃ c : Nat, c = s.size / 9 + 1 := ⟨_, rfl⟩
  have hcb : c ≤ 100000 := by omega
  have hcc : ((s.size : Int) / 9 + 1) = (c : Int) := by omega
  have hl : s.data.toList.length = s.size := (Lib.size_eq s).symm
  have HL := Lib.hid hl
  clear hl hc
  go_enter Tryz.func120, Tryz.ntmps120
  go_wp2_with (at_make; refine wpList_make_own _ rfl _ _ 152 rfl w.heap.size 147 i0 (.int .u64 0) 1 Tryz.underlying152 HI.out HZ0.out HZ1.out _ _ _ c rfl rfl rfl ?c1 ?c2 ?c3 ?_)
  case c1 => rw [HZ2.out]; omega
  case c2 => unfold maxLen; omega
  case c3 => exact Nat.le_refl _
  intro w1 hown hgrow
  have HO : Hid (OwnP w.heap.size w1 (.slice (some ⟨w.heap.size, 0, none⟩) 0 c) []) := hown
  have hE1 := ext_grown hgrow
  clear hown hgrow
  go_wp2_with fail
  have HB0 : Hid (Build w1 w.heap.size 147 1 (.slice (some ⟨w.heap.size, 0, none⟩) 0 c) pcR []) := OwnP.build HO.out
  have HS0 : Hid (Pcs [] ∧ ([] : List Nat).length = 0 ∧ lv [] = decV 0 (s.data.toList.drop (s.size - 9 * 0))) := by
    refine ⟨Pcs.nil, rfl, ?_⟩
    rw [Nat.mul_zero, Nat.sub_zero, List.drop_eq_nil_of_le (by rw [HL.out]; exact Nat.le_refl _)]; rfl
  clear HO hcb hcc
  go_loopw [3, 4] (fun out i wr => ∃ (k : Nat) (e : Int) (l : List Nat), i = .int .i64 e ∧ e ≤ (s.size : Int) ∧ -9 < e ∧ Hid (e = s.size - 9 * k) ∧ Ext w wr ∧ Hid (Build wr w.heap.size 147 1 out pcR l) ∧ Hid (Pcs l ∧ l.length = k ∧ lv l = decV 0 (s.data.toList.drop (s.size - 9 * k)))) (fun _ i _ => (intOf i).toNat)
  case atStart => exact ⟨0, _, [], rfl, by omega, by omega, by unfold Hid; omega, hE1, HB0.out, HS0.out⟩
  case round =>
    obtain ⟨k, e, l, rfl, he1, he2, HE, hEw, HB, HS⟩ := hrel
    obtain ⟨wo, rfl⟩ : ∃ wo : World, wo = wr := ⟨_, rfl⟩
    clear HB0 HS0
    by_cases h0 : 0 < e
    · obtain ⟨m, rfl⟩ : ∃ m : Nat, e = m := ⟨e.toNat, by omega⟩
      have HM : Hid (m = s.size - 9 * k) := by have := HE.out; unfold Hid; omega
      have HMK : Hid (s.size - m = 9 * k) := by have := HE.out; unfold Hid; omega
      have HFX : Hid (∀ f : Nat, f ≤ m → m ≤ f + 9 → (0 < f → f + 9 = m) → m ≤ s.size → (s.extract f m).data.toList = (s.data.toList.take m).drop f ∧ (s.extract f m).size = m - f) := by
        intro f h1 h2 h3 h4
        have e : (s.extract f m).data.toList = (s.data.toList.take m).drop f := by rw [Lib.extract_data, List.drop_take]
        refine ⟨e, ?_⟩
        rw [Lib.size_eq, e, List.length_drop, List.length_take, HL.out]; omega
      obtain ⟨f, hf⟩ : ∃ f : Nat, (m ≤ 9 ∧ f = 0) ∨ (9 < m ∧ (m : Int) - 9 = (f : Int)) := by
        by_cases h9 : m ≤ 9
        · exact ⟨0, .inl ⟨h9, rfl⟩⟩
        · exact ⟨m - 9, .inr ⟨by omega, by omega⟩⟩
      have hms : m ≤ s.size := by omega
      have hfm : f ≤ m := by omega
      have hfm9 : m ≤ f + 9 := by omega
      have HX := Lib.hid (HFX.out f hfm hfm9 (by omega) hms)
      obtain ⟨cap, W1, hcv, hE1, hcell⟩ := bytesOfI (s.extract f m) wo
      obtain ⟨b, hb⟩ : ∃ b, b = s.extract f m := ⟨_, rfl⟩
      rw [← hb] at hcell HX
      have hbs : b.size = m - f := HX.out.2
      rw [← hb, hbs] at hcv
      rw [hb] at hcv
      have HC := Lib.hid hcell
      have HE1 := Lib.hid (hEw.trans hE1)
      have HB1 := Lib.hid (Build.ext HB.out hE1)
      obtain ⟨mf, hmf⟩ : ∃ mf, mf = m - f := ⟨_, rfl⟩
      rw [← hmf] at hcv hbs
      have hmf9 : mf ≤ 9 := by omega
      have HBS := Lib.hid hbs
      have HMF := Lib.hid hmf
      clear hcell hE1 hb hbs HFX hmf
      rcases hf with ⟨h9, rfl⟩ | ⟨h9, hf⟩
      all_goals
        go_wp2_with fail
        clear hcv
        go_loopw [27, 5] (fun j n wr => ∃ (i v : Nat), i ≤ mf ∧ j = .int .i64 i ∧ n = .int .u64 v ∧ v ≤ 1000000000 ∧ Hid (v = decV 0 (b.data.toList.take i)) ∧ Hid (Ext W1 wr)) (fun j _ _ => mf - (intOf j).toNat)
        case atStart => exact ⟨0, 0, by omega, rfl, rfl, by omega, rfl, Ext.refl _⟩
        case round =>
          obtain ⟨i, v, hi, rfl, rfl, hv, HV, HEi⟩ := hrel
          obtain ⟨wi, rfl⟩ : ∃ wi : World, wi = wr := ⟨_, rfl⟩
          have HSUB : Hid (b.data.toList.all isDig = true) := by unfold Hid; rw [HX.out.1]; exact all_sub HD.out _ _
          by_cases hlt : i < mf
          · obtain ⟨ch, hch⟩ : ∃ ch, b.data.toList[i]? = some ch := ⟨_, bytes_get b i (by rw [HBS.out]; exact hlt)⟩
            have g1 := HEi.out.cell (HC.out i ch hch)
            have hdig : 48 ≤ ch.toNat ∧ ch.toNat ≤ 57 := of_decide_eq_true (List.all_eq_true.1 HSUB.out ch (List.mem_of_getElem? hch))
            obtain ⟨z, hz⟩ : ∃ z : Nat, ch.toNat = z + 48 := ⟨ch.toNat - 48, by omega⟩
            have hz9 : z ≤ 9 := by omega
            have HV' : Hid (10 * v + z = decV 0 (b.data.toList.take (i + 1))) := by
              unfold Hid
              rw [List.take_add_one, hch, decV_append, ← HV.out]
              show _ = decV v [ch]
              rw [decV_cons, decV_nil, hz]; omega
            have hv2 : 10 * v + z ≤ 1000000000 := by
              have := slice_lt (all_sub (e := i + 1) (f := 0) HSUB.out) (by rw [List.drop_zero, List.length_take]; omega)
              rw [List.drop_zero, ← HV'.out] at this
              omega
            rw [hz] at g1
            clear hch hdig hz
            go_wp2_with fail
            go_roundw
            case rel => exact ⟨i + 1, 10 * v + z, by omega, by go_num, by go_num, hv2, HV'.out, HEi.out⟩
            case measure => simp [intOf]; omega
          · obtain rfl : mf = i := by omega
            have HBi := Lib.hid (Build.ext HB1.out HEi.out)
            have HEi2 := Lib.hid (Ext.trans HE1.out HEi.out)
            have hszi : w.heap.size ≤ wi.heap.size := HEi2.out.size
            have HLL : Hid (l.length < 1000000) := by have := HS.out.2.1; unfold Hid; have := HE.out; omega
            have HNEW : Hid (Pcs (l ++ [v]) ∧ (l ++ [v]).length = k + 1 ∧ lv (l ++ [v]) = decV 0 (s.data.toList.drop (s.size - 9 * (k + 1)))) := by
              have hbl : b.data.toList.length = mf := by rw [← Lib.size_eq, HBS.out]
              have hvb : v = decV 0 b.data.toList := by rw [HV.out, List.take_of_length_le (by omega)]
              have hv9 : v < 1000000000 := by rw [hvb]; exact slice_lt HSUB.out (by omega)
              refine ⟨HS.out.1.append (Pcs.cons hv9 Pcs.nil), by rw [List.length_append, HS.out.2.1]; rfl, ?_⟩
              rw [lv_append, HS.out.2.2, HS.out.2.1, lv_cons, lv_nil, Nat.mul_zero, Nat.add_zero, hvb, HX.out.1, ← HM.out]
              have := cut_round (l := s.data.toList) (e := m) (k := k) (by rw [HL.out]; exact hms) (by rw [HL.out]; exact HMK.out) _ hfm rfl
              rw [this]
              congr 2
              have := HE.out
              omega
            clear hlt
            go_wp2_with (at_builtin; go_must (refine wpList_append_build _ rfl _ _ 152 rfl w.heap.size 147 (.int .u64 0) 1 8 Tryz.underlying152 infoU64 rfl (by decide) u3 pcR l v #[.int .u64 v] 147 rfl HBi.out rfl rfl ?_ (fun _ _ => rfl) HLL.out (by decide) hszi ?_))
            all_goals first | (simp [Value.oneCell']; done) | skip
            intro v' w5 hB5 hg5 hb5 hs5 _
            have HB5 := Lib.hid hB5
            have HX5 := Lib.hid (Below.trans HEi2.out hb5)
            clear hB5 hg5 hb5
            go_wp2_with fail
            go_roundw
            case rel => exact ⟨k + 1, _, l ++ [v], rfl, by omega, by omega, by have := HE.out; unfold Hid; omega, HX5.out, HB5.out, HNEW.out⟩
            case measure => simp [intOf]; omega
    · have HF : Hid (lv l = decV 0 s.data.toList) := by
        have := HE.out
        unfold Hid
        rw [HS.out.2.2, show s.size - 9 * k = 0 by omega, List.drop_zero]
      have HW : Hid (OwnP w.heap.size wo u3 l) := HB.out.ownP
      have HT := Lib.hid (trim_any w.heap.size l u3 wo HW.out HS.out.1)
      go_wp2_with fail
      refine HT.out.mono ?_
      rintro e' w' ⟨v', l', rfl, hr, kk, rfl⟩
      have HR := Lib.hid hr
      clear hr HT
      go_wp2_with fail
      go_ret
      refine ⟨v', l', rfl, ⟨HR.out.out.1, HR.out.out.2.1, HR.out.out.2.2.1.trans HF.out, ?_⟩, Ext.draws hEw _⟩
      have := HR.out.out.2.2.2
      have := HS.out.2.1
      have := HE.out
      omega
end Go.Proofs.YtpeinobepiodaaaGreatDoor
