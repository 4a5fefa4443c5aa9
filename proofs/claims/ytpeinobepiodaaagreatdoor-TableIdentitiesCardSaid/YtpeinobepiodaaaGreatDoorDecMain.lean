/- Contracts of package decimal at numerals: Compare, Add, Sub, Mul. -/
import Derived.Test.YtpeinobepiodaaaGreatDoorDecFmt
import Derived.Test.YtpeinobepiodaaaGreatDoorDecDiv
import Derived.Test.YtpeinobepiodaaaGreatDoorAppZ
import Derived.WalkLawsBesides
namespace Go.Proofs.YtpeinobepiodaaaGreatDoor
set_option linter.unusedVariables false
set_option linter.unusedSimpArgs false
open Go.RowKit

theorem numB_size_pos (u : Nat) : 1 ≤ (numB u).size := by rw [numB_size]; exact Lib.nDigits_pos u
theorem numB_size_le (u k : Nat) (h : u < 10 ^ k) (hk : 1 ≤ k) : (numB u).size ≤ k := by rw [numB_size]; exact nDigits_le u k h hk
theorem num_zero (u : Nat) : ((numB u).toList == [48]) = decide (u = 0) := by
  rw [numB_list, show ([48] : List UInt8) = Lib.decDigits 0 by rw [Lib.decDigits_one (by omega)]; rfl, digits_eq]
set_option maxRecDepth 100000 in
set_option maxHeartbeats 400000 in
theorem decCompare_any (u v : Nat) (w : World) (hu : (numB u).size ≤ 1000000000) (hv : (numB v).size ≤ 1000000000) :
    Calls Tryz.prog 112 #[.string (numB u), .string (numB v)] w fun e w' => e = .returned (.int .i64 (cmpN u v)) ∧ w = w' := by
  have s1 := numB_size u
  have s2 := numB_size v
  by_cases hl : (numB u).size = (numB v).size
  · have hl' : (((numB u).size : Int) != ((numB v).size : Int)) = false := by simp [hl]
    have q1 : Op.bytesLess (numB u).toList (numB v).toList = decide (u < v) := by rw [numB_list, numB_list]; exact less_num u v (by omega)
    have q2 : Op.bytesLess (numB v).toList (numB u).toList = decide (v < u) := by rw [numB_list, numB_list]; exact less_num v u (by omega)
    have q3 : ((numB u).toList == (numB v).toList) = decide (u = v) := by rw [numB_list, numB_list]; exact digits_eq u v
    have HC : Hid (cmpN u v = if u < v then -1 else if u = v then 0 else 1) := rfl
    clear s1 s2 hl
    rcases Nat.lt_trichotomy u v with h | h | h
    · rw [decide_eq_true h] at q1
      rw [if_pos h] at HC
      rw [HC.out]
      clear q2 q3 HC h
      go_enter Tryz.func112, Tryz.ntmps112
      go_wp2_with fail
      go_ret
      exact ⟨rfl, rfl⟩
    · have hn : ¬ u < v := by omega
      rw [decide_eq_false hn] at q1
      rw [decide_eq_true h] at q3
      rw [if_neg hn, if_pos h] at HC
      rw [HC.out]
      clear q2 HC h hn
      go_enter Tryz.func112, Tryz.ntmps112
      go_wp2_with fail
      go_ret
      exact ⟨rfl, rfl⟩
    · have hn : ¬ u < v := by omega
      have hn2 : ¬ u = v := by omega
      rw [decide_eq_false hn] at q1
      rw [decide_eq_false hn2] at q3
      rw [if_neg hn, if_neg hn2] at HC
      rw [HC.out]
      clear q2 HC h hn hn2
      go_enter Tryz.func112, Tryz.ntmps112
      go_wp2_with fail
      go_ret
      exact ⟨rfl, rfl⟩
  · have hl' : (((numB u).size : Int) != ((numB v).size : Int)) = true := by simp; omega
    rcases Nat.lt_or_gt_of_ne hl with h | h
    · have HC : Hid (cmpN u v = -1) := by
        unfold Hid cmpN; rw [if_pos (nDigits_lt (by omega))]
      rw [HC.out]
      clear HC hl
      go_enter Tryz.func112, Tryz.ntmps112
      go_wp2_with fail
      go_ret
      exact ⟨(show Ending.returned (.int .i64 (min 1 (max (-1) ((Lib.nDigits u : Int) - (Lib.nDigits v : Int))))) = _ from ret_int (by omega)), rfl⟩
    · have HC : Hid (cmpN u v = 1) := by
        have := nDigits_lt (u := v) (v := u) (by omega)
        unfold Hid cmpN; rw [if_neg (by omega), if_neg (by omega)]
      rw [HC.out]
      clear HC hl
      go_enter Tryz.func112, Tryz.ntmps112
      go_wp2_with fail
      go_ret
      exact ⟨(show Ending.returned (.int .i64 (min 1 (max (-1) ((Lib.nDigits u : Int) - (Lib.nDigits v : Int))))) = _ from ret_int (by omega)), rfl⟩

/-- 'append(p, x)' of one piece. -/
theorem wpList_append_pc {w : World} {ops : Array Oper} {rest : List Oper} {o : Oper} {a : Act} {Q : Exit → Act → World → Prop} (hgd : o.guard = none)
    (s x : Operand) (ho : o.op = Op.call { callee := Callee.builtin Builtin.append, args := #[s, x], argTypes := #[152, 152] }) (B : Nat)
    (v : Value) (l : List Nat) (y : Nat) (C : Array Value) (hs : a.eval s = v) (hO : OwnP B w v l)
    (hx : a.eval x = .slice (some ⟨w.heap.size, 0, none⟩) 1 1) (hC : C = #[pcV y]) (hlen : l.length < 1000000) (hbase : B ≤ w.heap.size)
    (h : ∀ v' w', OwnP B w' v' (l ++ [y]) → w.grownBy w' v.ownBlock → (v'.ownBlock = v.ownBlock ∨ v'.ownBlock = some (w.heap.size + 1)) → wpList Tryz.prog ops Q rest (a.put o.dst v') w') :
    wpList Tryz.prog ops Q (o :: rest) a (w.alloc (.cells C 147)) := by
  subst hC
  obtain ⟨i, hi, hz, hsize, hby⟩ := info_parts infoU64
  have hadd : ∀ j, (⟨w.heap.size, 0, none⟩ : Addr).add j = ⟨w.heap.size, j, none⟩ := by intro j; unfold Addr.add; split <;> simp_all
  refine wpList_plain hgd fun K hK => ?_
  refine wp_append_own_at (w.alloc (.cells #[pcV y] 147)) s x 152 ho B 147 i (.int .u64 0) 1 8 Tryz.underlying152 hi hz hsize hby rfl (by decide) v l.length (l.map pcV) hs (World.ownsRow.alloc hO _) ⟨w.heap.size, 0, none⟩ 1 1 [pcV y] hx rfl ?_ (by intro u hu; simp at hu; rw [hu]; rfl) ?_ ?_ ?_ ?_
  · intro j q hq
    rw [hadd, World.cell?_alloc_new]
    simpa using hq
  · unfold maxLen; omega
  · omega
  · simp; omega
  · intro v' w' hown hgrow _ hat
    refine hK _ _ (h v' w' ?_ (grown_trans (World.grownBy_alloc w _ v.ownBlock) hgrow) ?_)
    · unfold OwnP; rw [List.length_append, List.map_append]; exact hown
    · simpa using hat
theorem OwnP.kept {B : Nat} {w w' : World} {v : Value} {l : List Nat} {r : Option Nat} (h : OwnP B w v l) (hg : w.grownBy w' r) (hne : v.ownBlock = none ∨ v.ownBlock ≠ r) : OwnP B w' v l := World.ownsRow.kept h hg hne
theorem OwnP.lt {B : Nat} {w : World} {v : Value} {l : List Nat} (h : OwnP B w v l) : ∀ b, v.ownBlock = some b → B ≤ b ∧ b < w.heap.size := World.ownsRow.lt h
theorem lv_pad (l : List Nat) (k : Nat) : lv (l ++ List.replicate k 0) = lv l := by rw [lv_append, lv_zeros]; simp
theorem Pcs.pad {l : List Nat} (h : Pcs l) (k : Nat) : Pcs (l ++ List.replicate k 0) := h.append (Pcs.zeros k)
theorem back_sum {X Y L : List Nat} {c : Nat} (hB : BackR X Y 0 L c) (hX : X.length = Y.length + 1) (hx : lv X < pB Y.length) (hy : Pcs Y) : lv L = lv X + lv Y := by
  have hv := hB.val
  rw [pB_zero, Nat.one_mul, Nat.zero_add, pB_succ] at hv
  have h2 := lv_lt hy
  have hp := pB_pos Y.length
  cases c with
  | zero => omega
  | succ c =>
    exfalso
    rw [Nat.succ_mul] at hv
    omega
theorem take_diff {X Y L : List Nat} {b : Nat} (hT : TakeR X Y 1 0 L b) (hX : X.length = Y.length + 1) (hle : lv Y ≤ lv X) : lv L = lv X - lv Y ∧ b = 0 := by
  have hv := hT.val
  rw [pB_zero, Nat.one_mul, Nat.one_mul, Nat.zero_add] at hv
  have h2 := lv_lt hT.pcs
  rw [hT.len, hX] at h2
  have hb := hT.le
  match b with
  | 0 => omega
  | 1 => omega
  | b + 2 => omega
theorem cut_num (u : Nat) (w : World) (hs : (numB u).size ≤ 60000) :
    Calls Tryz.prog 120 #[.string (numB u)] w fun e w' => ∃ v l, e = .returned v ∧ Hid (OwnP w.heap.size w' v l ∧ Can l ∧ lv l = u ∧ l.length ≤ (numB u).size) ∧ Ext w w' := by
  have := cut_any (numB u) w (by rw [numB_data]; exact digits_all u) (by omega)
  rw [numB_data, digits_val] at this
  exact this
theorem num_small {u : Nat} (h : (numB u).size ≤ 18) : u < 1000000000000000000 := by
  rw [numB_size] at h
  have h1 := Lib.lt_pow_nDigits u
  have h2 : 10 ^ Lib.nDigits u ≤ 10 ^ 18 := Nat.pow_le_pow_right (by omega) h
  rw [show (10 : Nat) ^ 18 = 1000000000000000000 by decide] at h2
  omega

set_option maxRecDepth 100000 in
set_option maxHeartbeats 2000000 in
theorem decMul_any (u v : Nat) (w : World) (hu : (numB u).size ≤ 30000) (hv : (numB v).size ≤ 30000) (ht : Pow10 w) :
    Calls Tryz.prog 88 #[.string (numB u), .string (numB v)] w fun e w' => e = .returned (.string (numB (u * v))) ∧ Ext w w' := by
  have HT := Lib.hid ht
  clear ht
  by_cases hs : (numB u).size + (numB v).size ≤ 18
  · have hp1 := numB_size_pos u
    have hp2 := numB_size_pos v
    have HB := Lib.hid (both_yes u v w (by omega) (by omega))
    have hm : u * v < 18446744073709551616 := by
      have h := num_mul_size u v
      have := num_small (u := u * v) (by omega)
      omega
    obtain ⟨m, hmm⟩ : ∃ m, u * v = m := ⟨_, rfl⟩
    rw [hmm] at hm ⊢
    have hmi : (u : Int) * (v : Int) = (m : Int) := by rw [← hmm]; exact (Int.natCast_mul _ _).symm
    have HO : Hid (∀ W, Ext w W → Calls Tryz.prog 119 #[.int .u64 m] W fun e w' => e = .returned (.string (numB m)) ∧ Ext W w') := fun W hW => decOf_any m W hm (HT.out.ext hW)
    clear hmm hp1 hp2
    go_enter Tryz.func88, Tryz.ntmps88
    go_wp2_with fail
    refine HB.out.mono ?_
    rintro e w1 ⟨rfl, hE1⟩
    have HE1 := Lib.hid hE1
    clear hE1 HB
    go_wp2_with fail
    refine (HO.out _ HE1.out).mono ?_
    rintro e w2 ⟨rfl, hE2⟩
    have HE2 := Lib.hid (Ext.trans HE1.out hE2)
    clear hE2 HO
    go_wp2_with fail
    go_ret
    exact ⟨rfl, HE2.out⟩
  · have HC1 := Lib.hid (cut_num u w (by omega))
    have HC2 : Hid (∀ W, Calls Tryz.prog 120 #[.string (numB v)] W fun e w' => ∃ r l, e = .returned r ∧ Hid (OwnP W.heap.size w' r l ∧ Can l ∧ lv l = v ∧ l.length ≤ (numB v).size) ∧ Ext W w') := fun W => cut_num v W (by omega)
    go_enter Tryz.func88, Tryz.ntmps88
    go_wp2_with fail
    refine HC1.out.mono ?_
    rintro e w1 ⟨v1, l1, rfl, h1, hE1⟩
    have HL1 := Lib.hid h1.out
    have HE1 := Lib.hid hE1
    clear h1 hE1 HC1
    go_wp2_with fail
    refine (HC2.out _).mono ?_
    rintro e w2 ⟨v2, l2, rfl, h2, hE2⟩
    have HL2 := Lib.hid h2.out
    have HE2 := Lib.hid (Ext.trans HE1.out hE2)
    have HM := Lib.hid (times_any l1 l2 v1 v2 w2 (PcsAt.ext HL1.out.1.at hE2) HL2.out.1.at HL1.out.2.1.1 HL2.out.2.1.1 (by have := HL1.out.2.2.2; omega) (by have := HL2.out.2.2.2; omega))
    clear h2 hE2 HC2
    go_wp2_with fail
    refine HM.out.mono ?_
    rintro e w3 ⟨v3, l3, rfl, h3, hE3⟩
    have HL3 := Lib.hid h3.out
    have HE3 := Lib.hid (Ext.trans HE2.out hE3)
    have HX := text_any l3 v3 w3 HL3.out.1.at HL3.out.2.1 (by have := HL3.out.2.2.2; have := HL1.out.2.2.2; have := HL2.out.2.2.2; omega)
    rw [HL3.out.2.2.1, HL1.out.2.2.1, HL2.out.2.2.1] at HX
    have HX := Lib.hid HX
    clear h3 hE3 HM
    go_wp2_with fail
    refine HX.out.mono ?_
    rintro e w4 ⟨rfl, hE4⟩
    have HE4 := Lib.hid (Ext.trans HE3.out hE4)
    clear hE4 HX
    go_wp2_with fail
    go_ret
    exact ⟨rfl, HE4.out⟩
end Go.Proofs.YtpeinobepiodaaaGreatDoor
