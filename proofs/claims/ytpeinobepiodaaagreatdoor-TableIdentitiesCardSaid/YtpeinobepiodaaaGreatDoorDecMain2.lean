/- Contracts of package decimal at numerals: Add, Sub, DivMod, Gcd. -/
import Derived.Test.YtpeinobepiodaaaGreatDoorDecMain
import Derived.Deep.RegionWith
namespace Go.Proofs.YtpeinobepiodaaaGreatDoor
set_option linter.unusedVariables false
set_option linter.unusedSimpArgs false
open Go.RowKit

set_option maxRecDepth 100000 in
set_option maxHeartbeats 4000000 in
theorem decAdd_any (u v : Nat) (w : World) (hu : (numB u).size ≤ 30000) (hv : (numB v).size ≤ 30000) (ht : Pow10 w) :
    Calls Tryz.prog 111 #[.string (numB u), .string (numB v)] w fun e w' => e = .returned (.string (numB (u + v))) ∧ Ext w w' := by
  have HT := Lib.hid ht
  clear ht
  by_cases hs : (numB u).size ≤ 18 ∧ (numB v).size ≤ 18
  · have HB := Lib.hid (both_yes u v w hs.1 hs.2)
    have h1 := num_small hs.1
    have h2 := num_small hs.2
    obtain ⟨m, hmm⟩ : ∃ m, u + v = m := ⟨_, rfl⟩
    have hm : m < 18446744073709551616 := by omega
    rw [hmm]
    have hmi : (u : Int) + (v : Int) = (m : Int) := by omega
    have HO : Hid (∀ W, Ext w W → Calls Tryz.prog 119 #[.int .u64 m] W fun e w' => e = .returned (.string (numB m)) ∧ Ext W w') := fun W hW => decOf_any m W hm (HT.out.ext hW)
    clear hmm
    go_enter Tryz.func111, Tryz.ntmps111
    go_wp2_with fail
    refine HB.out.mono ?_
    rintro e w1 ⟨rfl, hE1⟩
    have HE1 := Lib.hid hE1
    clear hE1 HB
    go_wp2_with fail
    refine (HO.out _ HE1.out).mono ?_
    rintro e w2 ⟨rfl, hE2⟩
    have HE2 := Lib.hid (Ext.trans HE1.out hE2)
    clear hE2 HO
    go_wp2_with fail
    go_ret
    exact ⟨rfl, HE2.out⟩
  · have HB := Lib.hid (both_no u v w (by omega))
    have HC1 : Hid (∀ W, Calls Tryz.prog 120 #[.string (numB u)] W fun e w' => ∃ r l, e = .returned r ∧ Hid (OwnP W.heap.size w' r l ∧ Can l ∧ lv l = u ∧ l.length ≤ (numB u).size) ∧ Ext W w') := fun W => cut_num u W (by omega)
    have HC2 : Hid (∀ W, Calls Tryz.prog 120 #[.string (numB v)] W fun e w' => ∃ r l, e = .returned r ∧ Hid (OwnP W.heap.size w' r l ∧ Can l ∧ lv l = v ∧ l.length ≤ (numB v).size) ∧ Ext W w') := fun W => cut_num v W (by omega)
    obtain ⟨i0, hi, hz0, hz1, hz2⟩ := info_parts infoU64
    have HI := Lib.hid hi; have HZ0 := Lib.hid hz0; have HZ1 := Lib.hid hz1; have HZ2 := Lib.hid hz2
    clear hi hz0 hz1 hz2 hs
    go_enter Tryz.func111, Tryz.ntmps111
    go_wp2_with fail
    refine HB.out.mono ?_
    rintro e w0 ⟨rfl, hE0⟩
    have HE0 := Lib.hid hE0
    clear hE0 HB
    go_wp2_with fail
    refine (HC1.out _).mono ?_
    rintro e w1 ⟨v1, l1, rfl, h1, hE1⟩
    have HL1 := Lib.hid h1.out
    have HE1 := Lib.hid (Ext.trans HE0.out hE1)
    have hb1 : w.heap.size ≤ w0.heap.size := HE0.out.size
    clear h1 hE1 HC1
    go_wp2_with fail
    refine (HC2.out _).mono ?_
    rintro e w2 ⟨v2, l2, rfl, h2, hE2⟩
    have HL2 := Lib.hid h2.out
    have HE2 := Lib.hid (Ext.trans HE1.out hE2)
    have hb2 : w.heap.size ≤ w1.heap.size := HE1.out.size
    have HNE : Hid (∀ b, v1.ownBlock = some b → v2.ownBlock ≠ some b) := fun b hb hb' => by
      have k1 := (HL1.out.1.lt b hb).2
      have k2 := (HL2.out.1.lt b hb').1
      omega
    have HO1 := Lib.hid ((HL1.out.1.ext hE2).base hb1)
    have HO2 := Lib.hid (HL2.out.1.base hb2)
    obtain ⟨a1, c1, hv1, hl1, hc1, -⟩ := HO1.out.form
    obtain ⟨a2, c2, hv2, hl2, hc2, -⟩ := HO2.out.form
    have hlen1 : l1.length ≤ 30000 := by have := HL1.out.2.2.2; omega
    have hlen2 : l2.length ≤ 30000 := by have := HL2.out.2.2.2; omega
    clear h2 hE2 HC2
    have hsz2 : w.heap.size ≤ w2.heap.size := HE2.out.size
    subst hv1
    subst hv2
    have HMAIN : Hid (∃ lX lY vX vY : _, ∃ aX cX aY cY, vX = Value.slice aX (List.length lX) cX ∧ vY = Value.slice aY (List.length lY) cY ∧ OwnP w.heap.size w2 vX lX ∧ OwnP w.heap.size w2 vY lY ∧ Can lX ∧ Can lY ∧ lY.length ≤ lX.length) := by
      by_cases h : l1.length < l2.length
      · exact ⟨l2, l1, _, _, a2, c2, a1, c1, rfl, rfl, HO2.out, HO1.out, HL2.out.2.1, HL1.out.2.1, by omega⟩
      · exact ⟨l1, l2, _, _, a1, c1, a2, c2, rfl, rfl, HO1.out, HO2.out, HL1.out.2.1, HL2.out.2.1, by omega⟩
    clear HMAIN
    by_cases hlt : l1.length < l2.length
    case' pos =>
      obtain ⟨aX, rfl⟩ : ∃ a, a = a2 := ⟨_, rfl⟩
      obtain ⟨cX, rfl⟩ : ∃ a, a = c2 := ⟨_, rfl⟩
      obtain ⟨lX, rfl⟩ : ∃ a, a = l2 := ⟨_, rfl⟩
      obtain ⟨aY, rfl⟩ : ∃ a, a = a1 := ⟨_, rfl⟩
      obtain ⟨cY, rfl⟩ : ∃ a, a = c1 := ⟨_, rfl⟩
      obtain ⟨lY, rfl⟩ : ∃ a, a = l1 := ⟨_, rfl⟩
      have HX := HO2
      have HY := HO1
      have HCX := Lib.hid HL2.out.2.1
      have HCY := Lib.hid HL1.out.2.1
      have HN : Hid (∀ b, (Value.slice aX lX.length cX).ownBlock = some b → (Value.slice aY lY.length cY).ownBlock ≠ some b) := fun b hb hb' => HNE.out b hb' hb
      have HV : Hid (lv lX + lv lY = u + v) := by unfold Hid; rw [HL1.out.2.2.1, HL2.out.2.2.1]; omega
    case' neg =>
      obtain ⟨aX, rfl⟩ : ∃ a, a = a1 := ⟨_, rfl⟩
      obtain ⟨cX, rfl⟩ : ∃ a, a = c1 := ⟨_, rfl⟩
      obtain ⟨lX, rfl⟩ : ∃ a, a = l1 := ⟨_, rfl⟩
      obtain ⟨aY, rfl⟩ : ∃ a, a = a2 := ⟨_, rfl⟩
      obtain ⟨cY, rfl⟩ : ∃ a, a = c2 := ⟨_, rfl⟩
      obtain ⟨lY, rfl⟩ : ∃ a, a = l2 := ⟨_, rfl⟩
      have HX := HO1
      have HY := HO2
      have HCX := Lib.hid HL1.out.2.1
      have HCY := Lib.hid HL2.out.2.1
      have HN : Hid (∀ b, (Value.slice aX lX.length cX).ownBlock = some b → (Value.slice aY lY.length cY).ownBlock ≠ some b) := HNE
      have HV : Hid (lv lX + lv lY = u + v) := by unfold Hid; rw [HL1.out.2.2.1, HL2.out.2.2.1]
    all_goals
      have hXY : lY.length ≤ lX.length := by omega
      have HLX : Hid (lX.length < 1000000) := by unfold Hid; omega
      clear HL1 HL2 HNE HO1 HO2
      go_wp2_with (at_builtin; go_must (refine wpList_append_pc rfl _ _ rfl w.heap.size (.slice aX lX.length cX) lX 0 #[.int .u64 0] rfl HX.out rfl rfl HLX.out hsz2 ?_))
      intro v3 w3 hO3 hg3 hat3
      have HY3 := Lib.hid (HY.out.kept hg3 (by cases hb : (Value.slice aY lY.length cY).ownBlock with | none => exact .inl rfl | some b => exact .inr fun e => HN.out b e.symm hb))
      have HNN : Hid (∀ b, v3.ownBlock = some b → (Value.slice aY lY.length cY).ownBlock ≠ some b) := by
        intro b hb hb'
        rcases hat3 with h | h
        · exact HN.out b (h ▸ hb) hb'
        · rw [h] at hb
          have := (HY.out.lt b hb').2
          cases hb; omega
      have HE3 : Hid (Ext w w3) := Below.trans HE2.out (c := w3) ⟨hg3.os, hg3.tape, hg3.output, hg3.size, fun k hk => hg3.block k (by omega) fun e => by have := (HX.out.lt k e.symm).1; omega⟩
      obtain ⟨a3, c3, hv3, hl3, hc3, hg3'⟩ := hO3.form
      obtain ⟨g3, rfl, hg31, hg32⟩ := hg3' (by simp)
      subst hv3
      have HO3 := Lib.hid hO3
      have hl3' : (lX ++ [0]).length = lX.length + 1 := by simp
      rw [hl3'] at HO3 HNN hl3 ⊢
      clear hO3 hg3 hat3 hg3' hl3'
      obtain ⟨kz, hkz⟩ : ∃ kz, kz = lX.length - lY.length := ⟨_, rfl⟩
      have hkzi : (lX.length : Int) - (lY.length : Int) = (kz : Int) := by omega
      obtain ⟨v4, w4, hr4, hO4, hg4, hat4⟩ := run_append_zeros_own (P := Tryz.prog) w3 w.heap.size 152 3 152 i0 .i64 Tryz.underlying152 Tryz.underlying3 HI.out HZ0.out HZ1.out HZ2.out (.slice aY lY.length cY) lY HY3.out kz (by omega) (by omega) HE3.out.size
      have HR4 := Lib.hid hr4
      have hne4 : ¬ v4.ownBlock = some g3 := by
        intro e
        rcases hat4 with h | h
        · exact HNN.out g3 rfl (h ▸ e)
        · rw [h] at e; cases e; omega
      have HO4 := Lib.hid (HO3.out.kept hg4 (.inr (fun e => HNN.out g3 rfl (by rw [← e]; rfl))))
      have HQ4 : Hid (∀ W, GrownS (· = g3) w4 W → PcsAt W v4 (lY ++ List.replicate kz 0)) := fun W hW =>
        (hO4.kept (r := some g3) ⟨hW.os, hW.tape, hW.output, hW.size, fun k hk hne => hW.block k hk (fun e => hne (by rw [e]))⟩ (by cases hb : v4.ownBlock with | none => exact .inl rfl | some b => exact .inr (fun e => hne4 (by rw [hb, e])))).at
      have HE4 : Hid (Ext w w4) := Below.trans HE3.out (c := w4) ⟨hg4.os, hg4.tape, hg4.output, hg4.size, fun k hk => hg4.block k (by have := HE3.out.size; omega) fun e => by have := (HY3.out.lt k e.symm).1; omega⟩
      have hlq : (lY ++ List.replicate kz 0).length = lX.length := by simp; omega
      have HBK := back_any w.heap.size (lX ++ [0]) (lY ++ List.replicate kz 0) 0 g3 c3 v4 w4 (by rw [List.length_append]; exact HO4.out) HQ4.out (HCX.out.1.append (Pcs.cons (by omega) Pcs.nil)) (HCY.out.1.pad kz) (by rw [hlq]; simp) (by simp; omega)
      have hl3n : (lX ++ [0]).length = lX.length + 1 := by simp
      rw [hl3n] at HBK
      clear hl3n
      have HBK := Lib.hid HBK
      have HLQ := Lib.hid hlq
      clear hr4 hO4 hg4 hat4 hkz hlq
      go_wp2_with (at_builtin; go_must (refine Lib.wpList_append_run _ rfl _ _ 152 3 rfl (.slice aY lY.length cY) (.int .i64 kz) rfl rfl v4 w4 HR4.out ?_))
      refine HBK.out.mono ?_
      rintro e w5 ⟨L, c, rfl, ho5, hB, hg5⟩
      have HE5 : Hid (Ext w w5) := Below.trans HE4.out (hg5.belowE (B := w.heap.size) (by rintro k rfl; exact hg31) HE4.out.size)
      have HSUM : Hid (lv L = u + v) := by
        have h := back_sum hB (by rw [HLQ.out]; simp) (by rw [lv_append, HLQ.out]; have := lv_lt HCX.out.1; simpa [lv] using this) (HCY.out.1.pad kz)
        unfold Hid
        rw [h, lv_pad, lv_append, lv_cons, lv_nil, ← HV.out]; simp
      have HTR := Lib.hid (trim_any w.heap.size L _ w5 ho5 hB.pcs)
      have HLL : Hid (L.length ≤ 30001) := by unfold Hid; rw [hB.len]; simp; omega
      clear ho5 hB hg5 HBK HR4 HQ4 HO4 HO3
      go_wp2_with fail
      refine HTR.out.mono ?_
      rintro e w6 ⟨v6, l6, rfl, h6, kk, rfl⟩
      have H6 := Lib.hid h6.out
      have HX6 := text_any l6 v6 _ H6.out.1.at H6.out.2.1 (by have := H6.out.2.2.2; have := HLL.out; omega)
      rw [H6.out.2.2.1, HSUM.out] at HX6
      have HX6 := Lib.hid HX6
      clear h6 HTR
      go_wp2_with fail
      refine HX6.out.mono ?_
      rintro e w7 ⟨rfl, hE7⟩
      have HE7 := Lib.hid (Ext.trans (Ext.draws HE5.out kk) hE7)
      clear hE7 HX6
      go_wp2_with fail
      go_ret
      exact ⟨rfl, HE7.out⟩

set_option maxRecDepth 100000 in
set_option maxHeartbeats 4000000 in
theorem decSub_any (u v : Nat) (w : World) (hu : (numB u).size ≤ 30000) (hv : (numB v).size ≤ 30000) (hle : v ≤ u) (ht : Pow10 w) :
    Calls Tryz.prog 113 #[.string (numB u), .string (numB v)] w fun e w' => e = .returned (.tuple #[.string (numB (u - v)), .int .i64 0]) ∧ Ext w w' := by
  have HT := Lib.hid ht
  have HCM := Lib.hid (decCompare_any u v w (by omega) (by omega))
  have hcm : ¬ cmpN u v < 0 := by unfold cmpN; rw [if_neg (by omega)]; split <;> omega
  obtain ⟨cm, hcmm⟩ : ∃ cm, cm = cmpN u v := ⟨_, rfl⟩
  rw [← hcmm] at HCM hcm
  clear ht hcmm
  by_cases hs : (numB u).size ≤ 18 ∧ (numB v).size ≤ 18
  · have HB : Hid (∀ W, Calls Tryz.prog 118 #[.string (numB u), .string (numB v)] W fun e w' => e = .returned (.tuple #[.int .u64 u, .int .u64 v, .bool true]) ∧ Ext W w') := fun W => both_yes u v W hs.1 hs.2
    have h1 := num_small hs.1
    have h2 := num_small hs.2
    obtain ⟨m, hmm⟩ : ∃ m, u - v = m := ⟨_, rfl⟩
    have hm : m < 18446744073709551616 := by omega
    rw [hmm]
    have hmi : (u : Int) - (v : Int) = (m : Int) := by omega
    have HO : Hid (∀ W, Ext w W → Calls Tryz.prog 119 #[.int .u64 m] W fun e w' => e = .returned (.string (numB m)) ∧ Ext W w') := fun W hW => decOf_any m W hm (HT.out.ext hW)
    clear hmm
    go_enter Tryz.func113, Tryz.ntmps113
    go_wp2_with fail
    refine HCM.out.mono ?_
    rintro e w' ⟨rfl, rfl⟩
    clear HCM
    go_wp2_with fail
    refine (HB.out _).mono ?_
    rintro e w1 ⟨rfl, hE1⟩
    have HE1 := Lib.hid hE1
    clear hE1 HB
    go_wp2_with fail
    refine (HO.out _ HE1.out).mono ?_
    rintro e w2 ⟨rfl, hE2⟩
    have HE2 := Lib.hid (Ext.trans HE1.out hE2)
    clear hE2 HO
    go_wp2_with fail
    go_ret2
    exact ⟨rfl, HE2.out⟩
  · have HB : Hid (∀ W, Calls Tryz.prog 118 #[.string (numB u), .string (numB v)] W fun e w' => e = .returned (.tuple #[.int .u64 0, .int .u64 0, .bool false]) ∧ Ext W w') := fun W => both_no u v W (by omega)
    have HC1 : Hid (∀ W, Calls Tryz.prog 120 #[.string (numB u)] W fun e w' => ∃ r l, e = .returned r ∧ Hid (OwnP W.heap.size w' r l ∧ Can l ∧ lv l = u ∧ l.length ≤ (numB u).size) ∧ Ext W w') := fun W => cut_num u W (by omega)
    have HC2 : Hid (∀ W, Calls Tryz.prog 120 #[.string (numB v)] W fun e w' => ∃ r l, e = .returned r ∧ Hid (OwnP W.heap.size w' r l ∧ Can l ∧ lv l = v ∧ l.length ≤ (numB v).size) ∧ Ext W w') := fun W => cut_num v W (by omega)
    obtain ⟨i0, hi, hz0, hz1, hz2⟩ := info_parts infoU64
    have HI := Lib.hid hi; have HZ0 := Lib.hid hz0; have HZ1 := Lib.hid hz1; have HZ2 := Lib.hid hz2
    clear hi hz0 hz1 hz2 hs
    go_enter Tryz.func113, Tryz.ntmps113
    go_wp2_with fail
    refine HCM.out.mono ?_
    rintro e w' ⟨rfl, rfl⟩
    clear HCM
    go_wp2_with fail
    refine (HB.out _).mono ?_
    rintro e w0 ⟨rfl, hE0⟩
    have HE0 := Lib.hid hE0
    clear hE0 HB
    go_wp2_with fail
    refine (HC1.out _).mono ?_
    rintro e w1 ⟨v1, l1, rfl, h1, hE1⟩
    have HL1 := Lib.hid h1.out
    have HE1 := Lib.hid (Ext.trans HE0.out hE1)
    have HX := Lib.hid (h1.out.1.base HE0.out.size)
    obtain ⟨a1, c1, hv1, hl1, hc1, -⟩ := HX.out.form
    have hlen1 : l1.length ≤ 30000 := by have := HL1.out.2.2.2; omega
    have HLX : Hid (l1.length < 1000000) := by unfold Hid; omega
    have hsz1 : w.heap.size ≤ w1.heap.size := HE1.out.size
    subst hv1
    clear h1 hE1 HC1
    go_wp2_with (at_builtin; go_must (refine wpList_append_pc rfl _ _ rfl w.heap.size (.slice a1 l1.length c1) l1 0 #[.int .u64 0] rfl HX.out rfl rfl HLX.out hsz1 ?_))
    intro v3 w3 hO3 hg3 hat3
    have HE3 : Hid (Ext w w3) := Below.trans HE1.out (c := w3) ⟨hg3.os, hg3.tape, hg3.output, hg3.size, fun k hk => hg3.block k (by omega) fun e => by have := (HX.out.lt k e.symm).1; omega⟩
    obtain ⟨a3, c3, hv3, hl3, hc3, hg3'⟩ := hO3.form
    obtain ⟨g3, rfl, hg31, hg32⟩ := hg3' (by simp)
    subst hv3
    have HO3 := Lib.hid hO3
    have hl3' : (l1 ++ [0]).length = l1.length + 1 := by simp
    rw [hl3'] at HO3 hl3 ⊢
    clear hO3 hg3 hat3 hg3' hl3'
    go_wp2_with fail
    refine (HC2.out _).mono ?_
    rintro e w4 ⟨v4, l4, rfl, h4, hE4⟩
    have HL4 := Lib.hid h4.out
    have HE4 := Lib.hid (Ext.trans HE3.out hE4)
    have hsz34 : w3.heap.size ≤ w4.heap.size := hE4.size
    have HO4 := Lib.hid (HO3.out.ext hE4)
    clear h4 hE4 HO3
    go_wp2_with fail
    refine (HC2.out _).mono ?_
    rintro e w5 ⟨v5, l5, rfl, h5, hE5⟩
    have HL5 := Lib.hid h5.out
    have HE5 := Lib.hid (Ext.trans HE4.out hE5)
    have HO5 := Lib.hid (HO4.out.ext hE5)
    have HY5 := Lib.hid (HL4.out.1.ext hE5)
    have hlen45 : l5.length = l4.length := by
      have h1 := Can.length_le HL5.out.2.1 HL4.out.2.1 (by rw [HL5.out.2.2.1, HL4.out.2.2.1]; exact Nat.le_refl _)
      have h2 := Can.length_le HL4.out.2.1 HL5.out.2.1 (by rw [HL5.out.2.2.1, HL4.out.2.2.1]; exact Nat.le_refl _)
      omega
    have hle41 : l4.length ≤ l1.length := Can.length_le HL4.out.2.1 HL1.out.2.1 (by rw [HL4.out.2.2.1, HL1.out.2.2.1]; exact hle)
    obtain ⟨a4, c4, hv4, hl4, hc4, -⟩ := HY5.out.form
    obtain ⟨a5, c5, hv5, hl5, hc5, -⟩ := HL5.out.1.form
    subst hv4
    subst hv5
    have HNN : Hid (∀ b, (Value.slice a4 l4.length c4).ownBlock = some b → b ≠ g3) := fun b hb e => by
      have := (HL4.out.1.lt b hb).1
      omega
    rw [hlen45]
    obtain ⟨kz, hkz⟩ : ∃ kz, kz = l1.length - l4.length := ⟨_, rfl⟩
    have hkzi : (l1.length : Int) - (l4.length : Int) = (kz : Int) := by omega
    have hsz5 : w.heap.size ≤ w5.heap.size := HE5.out.size
    have HY5' := Lib.hid (HY5.out.base (B' := w.heap.size) (by have := HE3.out.size; omega))
    obtain ⟨v6, w6, hr6, hO6, hg6, hat6⟩ := run_append_zeros_own (P := Tryz.prog) w5 w.heap.size 152 3 152 i0 .i64 Tryz.underlying152 Tryz.underlying3 HI.out HZ0.out HZ1.out HZ2.out (.slice a4 l4.length c4) l4 HY5'.out kz (by omega) (by omega) hsz5
    have HR6 := Lib.hid hr6
    have hne6 : ¬ v6.ownBlock = some g3 := by
      intro e
      rcases hat6 with h | h
      · exact HNN.out g3 (h ▸ e) rfl
      · rw [h] at e; cases e
        have := HE5.out.size
        have h5 := (HO5.out.lt w5.heap.size rfl).2
        omega
    have HO6 := Lib.hid (HO5.out.kept hg6 (.inr (fun e => HNN.out g3 e.symm rfl)))
    have HQ6 : Hid (∀ W, GrownS (· = g3) w6 W → PcsAt W v6 (l4 ++ List.replicate kz 0)) := fun W hW =>
      (hO6.kept (r := some g3) ⟨hW.os, hW.tape, hW.output, hW.size, fun k hk hne => hW.block k hk (fun e => hne (by rw [e]))⟩ (by cases hb : v6.ownBlock with | none => exact .inl rfl | some b => exact .inr (fun e => hne6 (by rw [hb, e])))).at
    have HE6 : Hid (Ext w w6) := Below.trans HE5.out (c := w6) ⟨hg6.os, hg6.tape, hg6.output, hg6.size, fun k hk => hg6.block k (by omega) fun e => by have := (HY5'.out.lt k e.symm).1; omega⟩
    have hlq : (l4 ++ List.replicate kz 0).length = l1.length := by simp; omega
    have HTK := take_any w.heap.size (l1 ++ [0]) (l4 ++ List.replicate kz 0) 1 0 g3 c3 v6 w6 (by rw [List.length_append]; exact HO6.out) HQ6.out (HL1.out.2.1.1.append (Pcs.cons (by omega) Pcs.nil)) (HL4.out.2.1.1.pad kz) (by omega) (by rw [hlq]; simp) (by simp; omega)
    have hl3n : (l1 ++ [0]).length = l1.length + 1 := by simp
    rw [hl3n] at HTK
    have HTK := Lib.hid HTK
    have HLQ := Lib.hid hlq
    clear hr6 hO6 hg6 hat6 hkz hlq hl3n hlen45 h5 hE5 HC2
    go_wp2_with (at_builtin; go_must (refine Lib.wpList_append_run _ rfl _ _ 152 3 rfl (.slice a4 l4.length c4) (.int .i64 kz) rfl rfl v6 w6 HR6.out ?_))
    refine HTK.out.mono ?_
    rintro e w7 ⟨L, b, rfl, ho7, hT, hg7⟩
    have HE7 : Hid (Ext w w7) := Below.trans HE6.out (hg7.belowE (B := w.heap.size) (by rintro k rfl; exact hg31) HE6.out.size)
    have HDF : Hid (lv L = u - v) := by
      have h := (take_diff hT (by rw [HLQ.out]; simp) (by rw [lv_pad, HL4.out.2.2.1, lv_append, HL1.out.2.2.1]; omega)).1
      unfold Hid
      rw [h, lv_pad, lv_append, lv_cons, lv_nil, HL4.out.2.2.1, HL1.out.2.2.1]; simp
    have HTR := Lib.hid (trim_any w.heap.size L _ w7 ho7 hT.pcs)
    have HLL : Hid (L.length ≤ 30001) := by unfold Hid; rw [hT.len]; simp; omega
    clear ho7 hT hg7 HTK HR6 HQ6 HO6 HO5 HO4
    go_wp2_with fail
    refine HTR.out.mono ?_
    rintro e w8 ⟨v8, l8, rfl, h8, kk, rfl⟩
    have H8 := Lib.hid h8.out
    have HX8 := text_any l8 v8 _ H8.out.1.at H8.out.2.1 (by have := H8.out.2.2.2; have := HLL.out; omega)
    rw [H8.out.2.2.1, HDF.out] at HX8
    have HX8 := Lib.hid HX8
    clear h8 HTR
    go_wp2_with fail
    refine HX8.out.mono ?_
    rintro e w9 ⟨rfl, hE9⟩
    have HE9 := Lib.hid (Ext.trans (Ext.draws HE7.out kk) hE9)
    clear hE9 HX8
    go_wp2_with fail
    go_ret2
    exact ⟨rfl, HE9.out⟩
end Go.Proofs.YtpeinobepiodaaaGreatDoor
