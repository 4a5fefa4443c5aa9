/- Merged: WholeZ, Whole3, Long, Long2. -/
import Derived.Test.YtehknemdfbkimaaGreatDoorDAE
import Derived.Test.YtehknemdfbkimaaGreatDoorDAP
import Derived.Test.YtehknemdfbkimaaGreatDoorDAF
import Derived.Deep.CutRange
import Derived.Deep.RegionWith
/- Package whole at the numbers of the lattice's forms: bounds on their sizes; contracts handed on. -/
namespace Go.Proofs.YtehknemdfbkimaaGreatDoor
set_option linter.unusedVariables false
set_option linter.unusedSimpArgs false
open Go.RowKit

def Sz (n : Int) : Prop := (numB n.natAbs).size ≤ 1000000000
def Sz9 (n : Int) : Prop := (numB n.natAbs).size ≤ 400000000
theorem sm_of {n : Int} (h : smB n = true) : Sz n := (smB_iff n).1 h
theorem sm9_of {n : Int} (h : sm9B n = true) : Sz9 n := (sm9B_iff n).1 h
theorem Sz.size {n : Int} (h : Sz n) : (intB n).size ≤ 1000000001 := by
  unfold Sz at h; have := intB_size_le n; omega
theorem Sz9.size {n : Int} (h : Sz9 n) : (intB n).size ≤ 400000001 := by
  unfold Sz9 at h; have := intB_size_le n; omega
theorem Sz.natAbs {n : Int} (h : Sz n) : Sz (n.natAbs : Int) := by
  unfold Sz at h ⊢; rw [Int.natAbs_natCast]; exact h
theorem Sz.neg {n : Int} (h : Sz n) : Sz (-n) := by
  unfold Sz at h ⊢; rw [Int.natAbs_neg]; exact h
theorem mul_size (x y : Int) : (intB (x * y)).size ≤ (intB x).size + (intB y).size + 1 := by
  have h1 := intB_size_le (x * y)
  have h2 := natAbs_le x
  have h3 := natAbs_le y
  have h4 := num_mul_size x.natAbs y.natAbs
  rw [Int.natAbs_mul] at h1
  omega
theorem mulZ (x y : Int) (w : World) (hx : Sz9 x) (hy : Sz9 y) (ht : Pow10 w) :
    Calls Tryz.prog 78 #[.string (intB x), .string (intB y)] w fun e w' => e = .returned (.string (intB (x * y))) ∧ Ext w w' :=
  mulI_any x y w (by have := hx.size; omega) (by have := hy.size; omega) ht
theorem subZ (x y : Int) (w : World) (hx : Sz x) (hy : (intB y).size ≤ 1000000001) (ht : Pow10 w) :
    Calls Tryz.prog 191 #[.string (intB x), .string (intB y)] w fun e w' => e = .returned (.string (intB (x - y))) ∧ Ext w w' :=
  subI_any x y w (by have := hx.size; omega) (by omega) ht
theorem divModZ (x y : Int) (w : World) (hx : Sz x) (hy : Sz y) (h0 : y ≠ 0) (ht : Pow10 w) :
    Calls Tryz.prog 80 #[.string (intB x), .string (intB y)] w fun e w' => e = .returned (.tuple #[.string (intB (fdq x y)), .string (intB (fdr x y)), .int .i64 0]) ∧ Ext w w' :=
  divModI_any x y w (by have := hx.size; omega) (by have := hy.size; omega) h0 ht
theorem sign_cmp (x y : Int) (h : x.sign ≠ y.sign) : (x.sign < y.sign ↔ x < y) ∧ x ≠ y := by
  rcases Int.lt_trichotomy x 0 with hx | hx | hx <;> rcases Int.lt_trichotomy y 0 with hy | hy | hy
  all_goals first
    | (rw [Int.sign_eq_neg_one_of_neg hx] at h ⊢) | (rw [hx] at h ⊢; rw [show (0 : Int).sign = 0 from rfl] at h ⊢) | (rw [Int.sign_eq_one_of_pos hx] at h ⊢)
  all_goals first
    | (rw [Int.sign_eq_neg_one_of_neg hy] at h ⊢) | (rw [hy] at h ⊢; rw [show (0 : Int).sign = 0 from rfl] at h ⊢) | (rw [Int.sign_eq_one_of_pos hy] at h ⊢)
  all_goals first | (exact absurd rfl h) | omega
def cmpI (x y : Int) : Int := if x < y then -1 else if x = y then 0 else 1
end Go.Proofs.YtehknemdfbkimaaGreatDoor
/- Contracts of package whole: Compare. -/
namespace Go.Proofs.YtehknemdfbkimaaGreatDoor
set_option linter.unusedVariables false
set_option linter.unusedSimpArgs false
open Go.RowKit

theorem natAbs_size (n : Int) (hs : (intB n).size ≤ 10000000000) : (numB n.natAbs).size ≤ 10000000000 := by
  by_cases h : n < 0
  · have := intB_size_neg n h; omega
  · rw [intB_pos n (by omega)] at hs; rw [show n.natAbs = n.toNat by omega]; exact hs

set_option maxRecDepth 100000 in
set_option maxHeartbeats 800000 in
theorem compare_q (x y : Int) (w : World) (hx : (intB x).size ≤ 10000000000) (hy : (intB y).size ≤ 10000000000) :
    Calls Tryz.prog 148 #[.string (intB x), .string (intB y)] w fun e w' => e = .returned (.int .i64 (cmpI x y)) ∧ ∃ k, w' = w.drewN k := by
  have H1 := Lib.hid (fun W => sign_any x W)
  have H2 := Lib.hid (fun W => sign_any y W)
  have H3 := Lib.hid (fun W => split_q x W)
  have H4 := Lib.hid (fun W => split_q y W)
  have H5 := Lib.hid (fun W => decCompare_any x.natAbs y.natAbs W (natAbs_size x hx) (natAbs_size y hy))
  have H6 := Lib.hid (fun W => decCompare_any y.natAbs x.natAbs W (natAbs_size y hy) (natAbs_size x hx))
  by_cases hs : x.sign = y.sign
  · obtain ⟨s, hsx⟩ : ∃ s, x.sign = s := ⟨_, rfl⟩
    rw [hsx] at H1
    rw [← hs, hsx] at H2
    by_cases hn : x < 0
    · have hyn : y < 0 := by
        rw [Int.sign_eq_neg_one_of_neg hn] at hs
        exact Int.sign_eq_neg_one_iff_neg.1 hs.symm
      have HC : Hid (cmpN y.natAbs x.natAbs = cmpI x y) := by
        unfold Hid cmpN cmpI
        rcases Int.lt_trichotomy x y with h | h | h
        · rw [if_pos (by omega), if_pos h]
        · rw [if_neg (by omega), if_pos (by omega), if_neg (by omega), if_pos h]
        · rw [if_neg (by omega), if_neg (by omega), if_neg (by omega), if_neg (by omega)]
      rw [HC.out] at H6
      have hb : decide (x < 0) = true := decide_eq_true hn
      have hb2 : decide (y < 0) = true := decide_eq_true hyn
      rw [hb] at H3
      rw [hb2] at H4
      have hss : (s != s) = false := by simp
      clear hs hsx hn hyn hb hb2 HC H5
      go_enter Tryz.func148, Tryz.ntmps148
      go_wp2_with fail
      refine (H1.out _).mono ?_
      rintro e w' ⟨rfl, rfl⟩
      clear H1
      go_wp2_with fail
      refine (H2.out _).mono ?_
      rintro e w' ⟨rfl, rfl⟩
      clear H2
      go_wp2_with fail
      refine (H3.out _).mono ?_
      rintro e w1 ⟨rfl, k1, rfl⟩
      clear H3
      go_wp2_with fail
      refine (H4.out _).mono ?_
      rintro e w2 ⟨rfl, k2, rfl⟩
      clear H4
      go_wp2_with fail
      refine (H6.out _).mono ?_
      rintro e w' ⟨rfl, rfl⟩
      clear H6
      go_wp2_with fail
      go_ret
      exact ⟨rfl, _, rfl⟩
    · have hyn : ¬ y < 0 := by
        intro h
        rw [Int.sign_eq_neg_one_of_neg h] at hs
        exact hn (Int.sign_eq_neg_one_iff_neg.1 hs)
      have HC : Hid (cmpN x.natAbs y.natAbs = cmpI x y) := by
        unfold Hid cmpN cmpI
        rcases Int.lt_trichotomy x y with h | h | h
        · rw [if_pos (by omega), if_pos h]
        · rw [if_neg (by omega), if_pos (by omega), if_neg (by omega), if_pos h]
        · rw [if_neg (by omega), if_neg (by omega), if_neg (by omega), if_neg (by omega)]
      rw [HC.out] at H5
      have hb : decide (x < 0) = false := decide_eq_false hn
      have hb2 : decide (y < 0) = false := decide_eq_false hyn
      rw [hb] at H3
      rw [hb2] at H4
      have hss : (s != s) = false := by simp
      clear hs hsx hn hyn hb hb2 HC H6
      go_enter Tryz.func148, Tryz.ntmps148
      go_wp2_with fail
      refine (H1.out _).mono ?_
      rintro e w' ⟨rfl, rfl⟩
      clear H1
      go_wp2_with fail
      refine (H2.out _).mono ?_
      rintro e w' ⟨rfl, rfl⟩
      clear H2
      go_wp2_with fail
      refine (H3.out _).mono ?_
      rintro e w1 ⟨rfl, k1, rfl⟩
      clear H3
      go_wp2_with fail
      refine (H4.out _).mono ?_
      rintro e w2 ⟨rfl, k2, rfl⟩
      clear H4
      go_wp2_with fail
      refine (H5.out _).mono ?_
      rintro e w' ⟨rfl, rfl⟩
      clear H5
      go_wp2_with fail
      go_ret
      exact ⟨rfl, _, rfl⟩
  · obtain ⟨hc1, hc2⟩ := sign_cmp x y hs
    obtain ⟨s, hsx⟩ : ∃ s, x.sign = s := ⟨_, rfl⟩
    obtain ⟨t, hty⟩ : ∃ t, y.sign = t := ⟨_, rfl⟩
    rw [hsx] at H1 hs hc1
    rw [hty] at H2 hs hc1
    have hst : (s != t) = true := by simpa using hs
    clear H3 H4 H5 H6 hsx hty hs
    by_cases hlt : s < t
    · have HC : Hid (cmpI x y = -1) := by unfold Hid cmpI; rw [if_pos (hc1.1 hlt)]
      rw [HC.out]
      clear HC hc1 hc2
      go_enter Tryz.func148, Tryz.ntmps148
      go_wp2_with fail
      refine (H1.out _).mono ?_
      rintro e w' ⟨rfl, rfl⟩
      clear H1
      go_wp2_with fail
      refine (H2.out _).mono ?_
      rintro e w' ⟨rfl, rfl⟩
      clear H2
      go_wp2_with fail
      go_ret
      exact ⟨rfl, 0, rfl⟩
    · have HC : Hid (cmpI x y = 1) := by unfold Hid cmpI; rw [if_neg (fun h => hlt (hc1.2 h)), if_neg hc2]
      rw [HC.out]
      clear HC hc1 hc2
      go_enter Tryz.func148, Tryz.ntmps148
      go_wp2_with fail
      refine (H1.out _).mono ?_
      rintro e w' ⟨rfl, rfl⟩
      clear H1
      go_wp2_with fail
      refine (H2.out _).mono ?_
      rintro e w' ⟨rfl, rfl⟩
      clear H2
      go_wp2_with fail
      go_ret
      exact ⟨rfl, 0, rfl⟩

end Go.Proofs.YtehknemdfbkimaaGreatDoor
/- Contracts of package lattice on one row: less, negate, lead. -/
namespace Go.Proofs.YtehknemdfbkimaaGreatDoor
set_option linter.unusedVariables false
set_option linter.unusedSimpArgs false
open Go.RowKit

theorem Pow10.below {w w' : World} {base : Nat} (h : Pow10 w) (he : Below base w w') (hb : 0 < base) : Pow10 w' := by
  unfold Pow10 Lib.TabIs at h ⊢
  exact var?_below he (show Tryz.prog.globalNamed "internal/strconv.uint64pow10" = some 0 by kernel_rfl) hb h
theorem GrownS.below {S : Nat → Prop} {w w' : World} {base : Nat} (h : GrownS S w w') (hb : base ≤ w.heap.size) (hS : ∀ k, S k → base ≤ k) : Below base w w' :=
  ⟨h.os, h.tape, h.output, h.size, fun k hk => h.block k (Nat.lt_of_lt_of_le hk hb) (fun hs => absurd (hS k hs) (by omega))⟩
theorem GrownS.setCell {S : Nat → Prop} {w w' : World} (h : GrownS S w w') {g : Nat} (hg : S g) (i : Nat) (v : Value) : GrownS S w (w'.setCell ⟨g, i, none⟩ v) :=
  h.trans (grownBy_S (grown_setCell w' g i v) (fun k hk => by cases hk; exact hg))
theorem GrownS.ext {S : Nat → Prop} {a b c : World} (h : GrownS S a b) (he : Ext b c) : GrownS S a c := h.trans (he.grownS S)
theorem GrownS.ofExt {S : Nat → Prop} {a b : World} (he : Ext a b) : GrownS S a b := he.grownS S

/-- The first j elements less a multiple, the others as they were. -/
def lessP (k : Int) (r s : List Int) (j : Nat) : List Int := (lessL k r s).take j ++ r.drop j
theorem lessP_len (k : Int) (r s : List Int) (j : Nat) : (lessP k r s j).length = r.length := by
  unfold lessP; rw [List.length_append, List.length_take, List.length_drop, lessL_len]; omega
theorem lessP_get (k : Int) (r s : List Int) (j : Nat) (a : Int) (h : r[j]? = some a) : (lessP k r s j)[j]? = some a := by
  unfold lessP
  have hj := (List.getElem?_eq_some_iff.1 h).1
  rw [List.getElem?_append_right (by rw [List.length_take]; omega), List.length_take, lessL_len, List.getElem?_drop]
  rw [show j + (j - min j r.length) = j by omega]; exact h
theorem lessP_set (k : Int) (r s : List Int) (j : Nat) (a b : Int) (h : r[j]? = some a) (h' : s[j]? = some b) : (lessP k r s j).set j (a - k * b) = lessP k r s (j + 1) := by
  have hj := (List.getElem?_eq_some_iff.1 h).1
  have hl := lessL_get k r s j a b h h'
  unfold lessP
  rw [List.take_add_one, hl]
  have hd : r.drop j = a :: r.drop (j + 1) := by
    rw [List.drop_eq_getElem_cons hj]
    congr 1
    exact (List.getElem?_eq_some_iff.1 h).2
  rw [hd, List.set_append_right _ _ (by rw [List.length_take]; omega), List.length_take, lessL_len, show j - min j r.length = 0 by omega]
  simp
theorem lessP_zero (k : Int) (r s : List Int) : lessP k r s 0 = r := by unfold lessP; simp
theorem lessP_all (k : Int) (r s : List Int) (j : Nat) (h : r.length ≤ j) : lessP k r s j = lessL k r s := by
  unfold lessP; rw [List.take_of_length_le (by rw [lessL_len]; exact h), List.drop_eq_nil_of_le h, List.append_nil]

set_option maxRecDepth 100000 in
set_option maxHeartbeats 2000000 in
/-- A row less a multiple of another one, in place. -/
theorem less_any (k : Int) (r s r' : List Int) (g o c gs os cs base : Nat) (w : World) (hr : RowB w g o r) (hs : RowB w gs os s) (hne : gs ≠ g) (hk : lessO k r s = some r')
    (hc : r.length ≤ c) (hc2 : c ≤ maxLen) (hcs : s.length ≤ cs) (hcs2 : cs ≤ maxLen) (ht : Pow10 w) (hb : 0 < base) (hg : base ≤ g) (hbw : base ≤ w.heap.size) :
    Calls Tryz.prog 143 #[.slice (some ⟨g, o, none⟩) r.length c, .string (intB k), .slice (some ⟨gs, os, none⟩) s.length cs] w fun e w' => e = .returned (.tuple #[]) ∧ GrownS (· = g) w w' ∧ RowB w' g o r' := by
  have hz := int_zero k
  unfold lessO at hk
  by_cases h0 : k = 0
  · rw [if_pos h0] at hk
    obtain rfl : r = r' := Option.some.inj hk
    rw [decide_eq_true h0] at hz
    have HR := Lib.hid hr
    clear hk h0 hs hr ht
    go_enter Tryz.func143, Tryz.ntmps143
    go_wp2_with fail
    refine bodyPost_ret (results_none rfl _ _ _) rfl ⟨rfl, GrownS.refl _ _, HR.out⟩
  · rw [if_neg h0] at hk
    rw [decide_eq_false h0] at hz
    by_cases hcond : s.length = r.length ∧ (sm9B k && s.all sm9B && r.all smB) = true
    · rw [if_pos hcond] at hk
      obtain rfl : lessL k r s = r' := Option.some.inj hk
      obtain ⟨hlen, hsm⟩ := hcond
      rw [Bool.and_eq_true, Bool.and_eq_true] at hsm
      have HK9 := Lib.hid (sm9_of hsm.1.1)
      have HS9 := Lib.hid (fun x hx => sm9_of (List.all_eq_true.1 hsm.1.2 x hx))
      have HRS := Lib.hid (fun x hx => sm_of (List.all_eq_true.1 hsm.2 x hx))
      have HR := Lib.hid hr; have HSS := Lib.hid hs; have HT := Lib.hid ht; have HB := Lib.hid hb
      unfold maxLen at hc2 hcs2
      clear hk h0 hsm hr hs ht hb
      have hle1 : s.length ≤ r.length := by omega
      have hle2 : r.length ≤ s.length := by omega
      clear hlen
      go_enter Tryz.func143, Tryz.ntmps143
      go_wp2_with fail
      go_loopw [12] (fun t wr => ∃ j : Nat, j ≤ s.length ∧ t = .int .i64 j ∧ GrownS (· = g) w wr ∧ Hid (RowB wr g o (lessP k r s j))) (fun t _ => s.length - (intOf t).toNat)
      case atStart => exact ⟨0, by omega, rfl, GrownS.refl _ _, by rw [lessP_zero]; exact HR.out⟩
      case round =>
        obtain ⟨j, hj, rfl, hG, HP⟩ := hrel
        obtain ⟨wo, rfl⟩ : ∃ wo : World, wo = wr := ⟨_, rfl⟩
        by_cases hlt : j < s.length
        · obtain ⟨b, hbj⟩ : ∃ b, s[j]? = some b := ⟨s[j], List.getElem?_eq_getElem hlt⟩
          obtain ⟨a, haj⟩ : ∃ a, r[j]? = some a := ⟨r[j]'(by omega), List.getElem?_eq_getElem _⟩
          have hltr : j < r.length := by omega
          have g0 := (HSS.out.grown hG (by exact hne)).cell j b hbj
          have g1 := HP.out.cell j a (lessP_get k r s j a haj)
          have f1 := HP.out.free (o + j)
          have HM : Hid (∀ W, Pow10 W → Calls Tryz.prog 78 #[.string (intB k), .string (intB b)] W fun e w' => e = .returned (.string (intB (k * b))) ∧ Ext W w') := fun W hW => mulZ k b W HK9.out (HS9.out b (List.mem_of_getElem? hbj)) hW
          have HU : Hid (∀ W, Pow10 W → Calls Tryz.prog 191 #[.string (intB a), .string (intB (k * b))] W fun e w' => e = .returned (.string (intB (a - k * b))) ∧ Ext W w') := fun W hW => by
            have h1 := HK9.out.size; have h2 := (HS9.out b (List.mem_of_getElem? hbj)).size; have h3 := mul_size k b
            exact subZ a (k * b) W (HRS.out a (List.mem_of_getElem? haj)) (by omega) hW
          have HTW : Hid (∀ W, Ext wo W → Pow10 W) := fun W hE => (HT.out.below (hG.below hbw (fun q hq => by cases hq; exact hg)) HB.out).ext hE
          have HSET : Hid (∀ W, Ext wo W → RowB (W.setCell ⟨g, o + j, none⟩ (.string (intB (a - k * b)))) g o (lessP k r s (j + 1))) := fun W hE => by
            rw [← lessP_set k r s j a b haj hbj]
            exact (HP.out.ext hE).set j (by rw [lessP_len]; exact hltr) _
          have HPX : Hid (∀ W, Ext wo W → RowB W g o (lessP k r s j)) := fun W hE => HP.out.ext hE
          have HG := Lib.hid hG
          clear hbj haj hG
          go_upto_region 4 with fail
          go_region_with (first
            | (go_at_call 78; refine (HM.out _ (HTW.out _ (Ext.drew _))).mono ?_; rintro e w5 ⟨rfl, hE5⟩; have HE5 := Lib.hid (Ext.trans (Ext.drew wo) hE5); have g5 := hE5.cell (a := ⟨g, o + j, none⟩) g1; clear hE5)
            | (go_at_call 191; refine (HU.out _ (HTW.out _ HE5.out)).mono ?_; rintro e w6 ⟨rfl, hE6⟩; have HE6 := Lib.hid (Ext.trans HE5.out hE6); have g6 := hE6.cell (a := ⟨g, o + j, none⟩) g5; have f6 := (HPX.out _ HE6.out).free (o + j); clear hE6))
          all_goals
            go_wp2_with fail
            go_roundw
            case rel => exact ⟨j + 1, by omega, by go_num, (HG.out.ext HE6.out).setCell rfl _ _, HSET.out _ HE6.out⟩
            case measure => simp [intOf]; omega
        · have HF : Hid (RowB wo g o (lessL k r s)) := by
            unfold Hid; rw [← lessP_all k r s j (by omega)]; exact HP.out
          have HG := Lib.hid hG
          clear hG
          go_wp2_with fail
          refine bodyPost_end (results_none rfl _ _ _) rfl ⟨rfl, HG.out, HF.out⟩
    · rw [if_neg hcond] at hk; cases hk
end Go.Proofs.YtehknemdfbkimaaGreatDoor
/- Contracts of package lattice on one row: negate, lead. -/
namespace Go.Proofs.YtehknemdfbkimaaGreatDoor
set_option linter.unusedVariables false
set_option linter.unusedSimpArgs false
open Go.RowKit

def negL (r : List Int) : List Int := r.map (- ·)
def negP (r : List Int) (j : Nat) : List Int := (negL r).take j ++ r.drop j
theorem negP_len (r : List Int) (j : Nat) : (negP r j).length = r.length := by
  unfold negP negL; rw [List.length_append, List.length_take, List.length_drop, List.length_map]; omega
theorem negP_get (r : List Int) (j : Nat) (a : Int) (h : r[j]? = some a) : (negP r j)[j]? = some a := by
  unfold negP negL
  have hj := (List.getElem?_eq_some_iff.1 h).1
  rw [List.getElem?_append_right (by rw [List.length_take]; omega), List.length_take, List.length_map, List.getElem?_drop]
  rw [show j + (j - min j r.length) = j by omega]; exact h
theorem negP_set (r : List Int) (j : Nat) (a : Int) (h : r[j]? = some a) : (negP r j).set j (-a) = negP r (j + 1) := by
  have hj := (List.getElem?_eq_some_iff.1 h).1
  unfold negP negL
  rw [List.take_add_one, List.getElem?_map, h]
  have hd : r.drop j = a :: r.drop (j + 1) := by
    rw [List.drop_eq_getElem_cons hj]
    congr 1
    exact (List.getElem?_eq_some_iff.1 h).2
  rw [hd, List.set_append_right _ _ (by rw [List.length_take]; omega), List.length_take, List.length_map, show j - min j r.length = 0 by omega]
  simp
theorem negP_zero (r : List Int) : negP r 0 = r := by unfold negP; simp
theorem negP_all (r : List Int) (j : Nat) (h : r.length ≤ j) : negP r j = negL r := by
  unfold negP negL; rw [List.take_of_length_le (by rw [List.length_map]; exact h), List.drop_eq_nil_of_le h, List.append_nil]

set_option maxRecDepth 100000 in
set_option maxHeartbeats 1000000 in
/-- All signs are turned, in place. -/
theorem negate_any (r : List Int) (g o c : Nat) (w : World) (hr : RowB w g o r) (hc : r.length ≤ c) (hc2 : c ≤ maxLen) (hsm : r.all smB = true) :
    Calls Tryz.prog 151 #[.slice (some ⟨g, o, none⟩) r.length c] w fun e w' => e = .returned (.tuple #[]) ∧ GrownS (· = g) w w' ∧ RowB w' g o (negL r) := by
  have HR := Lib.hid hr
  have HS := Lib.hid (fun x hx => sm_of (List.all_eq_true.1 hsm x hx))
  unfold maxLen at hc2
  clear hr hsm
  go_enter Tryz.func151, Tryz.ntmps151
  go_wp2_with fail
  go_loopw [6] (fun t wr => ∃ j : Nat, j ≤ r.length ∧ t = .int .i64 j ∧ GrownS (· = g) w wr ∧ Hid (RowB wr g o (negP r j))) (fun t _ => r.length - (intOf t).toNat)
  case atStart => exact ⟨0, by omega, rfl, GrownS.refl _ _, by rw [negP_zero]; exact HR.out⟩
  case round =>
    obtain ⟨j, hj, rfl, hG, HP⟩ := hrel
    obtain ⟨wo, rfl⟩ : ∃ wo : World, wo = wr := ⟨_, rfl⟩
    by_cases hlt : j < r.length
    · obtain ⟨a, haj⟩ : ∃ a, r[j]? = some a := ⟨r[j], List.getElem?_eq_getElem hlt⟩
      have g1 := HP.out.cell j a (negP_get r j a haj)
      have HN : Hid (∀ W, Calls Tryz.prog 192 #[.string (intB a)] W fun e w' => e = .returned (.string (intB (-a))) ∧ Ext W w') := fun W => neg_any a W (by have := (HS.out a (List.mem_of_getElem? haj)).size; omega)
      have HSET : Hid (∀ W, Ext wo W → RowB (W.setCell ⟨g, o + j, none⟩ (.string (intB (-a)))) g o (negP r (j + 1))) := fun W hE => by
        rw [← negP_set r j a haj]
        exact (HP.out.ext hE).set j (by rw [negP_len]; exact hlt) _
      have HPX : Hid (∀ W, Ext wo W → RowB W g o (negP r j)) := fun W hE => HP.out.ext hE
      have HG := Lib.hid hG
      clear haj hG
      go_wp2_with fail
      refine (HN.out _).mono ?_
      rintro e w5 ⟨rfl, hE5⟩
      have HE5 := Lib.hid hE5
      have g5 := hE5.cell g1
      have f5 := (HPX.out _ hE5).free (o + j)
      clear hE5
      go_wp2_with fail
      go_roundw
      case rel => exact ⟨j + 1, by omega, by go_num, (HG.out.ext HE5.out).setCell rfl _ _, HSET.out _ HE5.out⟩
      case measure => simp [intOf]; omega
    · have HF : Hid (RowB wo g o (negL r)) := by
        unfold Hid; rw [← negP_all r j (by omega)]; exact HP.out
      have HG := Lib.hid hG
      clear hG
      go_wp2_with fail
      refine bodyPost_end (results_none rfl _ _ _) rfl ⟨rfl, HG.out, HF.out⟩

theorem lead1_any (x : Int) (w : World) : Calls Tryz.prog 139 #[.string (intB x)] w fun e w' => e = .returned (.bool (x != 0)) ∧ w = w' := by
  have hz := int_zero x
  by_cases h : x = 0
  · rw [decide_eq_true h] at hz
    have HR : Hid ((x != 0) = false) := by unfold Hid; simp [h]
    rw [HR.out]
    clear h HR
    go_enter Tryz.func139, Tryz.ntmps139
    go_wp2_with fail
    go_ret
    exact ⟨rfl, rfl⟩
  · rw [decide_eq_false h] at hz
    have HR : Hid ((x != 0) = true) := by unfold Hid; simp [h]
    rw [HR.out]
    clear h HR
    go_enter Tryz.func139, Tryz.ntmps139
    go_wp2_with fail
    go_ret
    exact ⟨rfl, rfl⟩

set_option maxRecDepth 100000 in
set_option maxHeartbeats 1000000 in
/-- slices.IndexFunc over a row of integers of any size. -/
theorem indexLong_any (xs : List Int) (g o c : Nat) (w : World) (hr : RowB w g o xs) (hc : xs.length ≤ c) (hc2 : c ≤ maxLen) :
    Calls Tryz.prog 138 #[.slice (some ⟨g, o, none⟩) xs.length c, .func (.func 139) #[] #[]] w fun e w' => e = .returned (.int .i64 (leadL xs)) ∧ Ext w w' := by
  have HR := Lib.hid hr
  have eg : ∀ args w, (callFunc 139 args).run Tryz.prog w = .ok (.enter 139 args) w := enters_of Tryz.func139 (by kernel_rfl) rfl
  unfold maxLen at hc2
  clear hr
  go_enter Tryz.func138, Tryz.ntmps138
  go_wp2
  go_loopw [8] (fun t wr => ∃ pre rest, t = .int .i64 (pre.length : Nat) ∧ Ext w wr ∧ Hid (xs = pre ++ rest) ∧ Hid (∀ x ∈ pre, (x != 0) = false)) (fun t _ => xs.length - (intOf t).toNat)
  case atStart => exact ⟨[], xs, rfl, Ext.refl _, rfl, by intro x hx; simp at hx⟩
  case round =>
    obtain ⟨pre, rest, rfl, hE, HP, HA⟩ := hrel
    have hlen : xs.length = pre.length + rest.length := by rw [HP.out]; simp
    cases rest with
    | nil =>
      have : ¬ (pre.length < xs.length) := by simp at hlen; omega
      clear hlen
      go_wp2
      go_ret
      have : leadL xs = -1 := by
        have : xs.findIdx? (· != 0) = none := by rw [HP.out, List.append_nil, List.findIdx?_eq_none_iff]; exact HA.out
        unfold leadL; rw [this]
      rw [this]
      exact ⟨rfl, hE⟩
    | cons x rest =>
      have hlt : pre.length < xs.length := by simp at hlen; omega
      clear hlen
      have g1 := hE.cell (HR.out.cell pre.length x (by rw [HP.out]; simp))
      have hcall := fun W => lead1_any x W
      cases hq : (x != 0) with
      | true =>
        have HRR : Hid (leadL xs = pre.length) := by
          unfold Hid leadL
          rw [HP.out, List.findIdx?_append, (List.findIdx?_eq_none_iff (xs := pre)).2 HA.out, List.findIdx?_cons, hq]
          simp
        rw [hq] at hcall
        have HCALL := Lib.hid hcall
        clear hcall hq
        go_wp2_with (go_at_fn 139; refine (HCALL.out _).mono ?_; rintro e w' ⟨rfl, rfl⟩)
        go_ret
        rw [HRR.out]
        exact ⟨rfl, hE⟩
      | false =>
        have HA' : Hid (∀ y ∈ pre ++ [x], (y != 0) = false) := by
          intro y hy
          rcases List.mem_append.1 hy with hy | hy
          · exact HA.out y hy
          · rw [List.mem_singleton.1 hy]; exact hq
        rw [hq] at hcall
        have HCALL := Lib.hid hcall
        clear hcall hq
        go_wp2_with (go_at_fn 139; refine (HCALL.out _).mono ?_; rintro e w' ⟨rfl, rfl⟩)
        go_roundw
        case rel => exact ⟨pre ++ [x], rest, by simp, hE, by unfold Hid; rw [HP.out]; simp, HA'⟩
        case measure => simp [intOf]; omega

theorem lead_any (xs : List Int) (g o c : Nat) (w : World) (hr : RowB w g o xs) (hc : xs.length ≤ c) (hc2 : c ≤ maxLen) :
    Calls Tryz.prog 79 #[.slice (some ⟨g, o, none⟩) xs.length c] w fun e w' => e = .returned (.int .i64 (leadL xs)) ∧ Ext w w' := by
  have HC := Lib.hid (indexLong_any xs g o c w hr hc hc2)
  clear hr
  go_enter Tryz.func79, Tryz.ntmps79
  go_wp2_with fail
  refine HC.out.mono ?_
  rintro e w1 ⟨rfl, hE1⟩
  have HE1 := Lib.hid hE1
  clear hE1 HC
  go_wp2_with fail
  go_ret
  exact ⟨rfl, HE1.out⟩
end Go.Proofs.YtehknemdfbkimaaGreatDoor
