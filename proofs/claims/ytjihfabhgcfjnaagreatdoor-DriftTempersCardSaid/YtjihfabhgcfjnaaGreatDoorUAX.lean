/- Merged: Long, Long2, LongOf, SmallG. -/
import Derived.Test.YtjihfabhgcfjnaaGreatDoorUAW
import Derived.Test.YtjihfabhgcfjnaaGreatDoorUAN
import Derived.Deep.CutRange
import Derived.Deep.RegionWith
import Derived.OwnWalk
import Derived.Test.YtjihfabhgcfjnaaGreatDoorUAA
import Derived.Test.YtjihfabhgcfjnaaGreatDoorUAE
import Derived.Lib.ParseIntBTie
/- Contracts of package lattice on one row: less, negate, lead. -/
namespace Go.Proofs.YtjihfabhgcfjnaaGreatDoor
set_option linter.unusedVariables false
set_option linter.unusedSimpArgs false
open Go.RowKit

theorem Pow10.below {w w' : World} {base : Nat} (h : Pow10 w) (he : Below base w w') (hb : 2 < base) : Pow10 w' := by
  unfold Pow10 Lib.TabIs at h ⊢
  exact var?_below he (show Tryz.prog.globalNamed "internal/strconv.uint64pow10" = some 2 by kernel_rfl) hb h
theorem GrownS.below {S : Nat → Prop} {w w' : World} {base : Nat} (h : GrownS S w w') (hb : base ≤ w.heap.size) (hS : ∀ k, S k → base ≤ k) : Below base w w' :=
  ⟨h.os, h.tape, h.output, h.size, fun k hk => h.block k (Nat.lt_of_lt_of_le hk hb) (fun hs => absurd (hS k hs) (by omega))⟩
theorem GrownS.setCell {S : Nat → Prop} {w w' : World} (h : GrownS S w w') {g : Nat} (hg : S g) (i : Nat) (v : Value) : GrownS S w (w'.setCell ⟨g, i, none⟩ v) :=
  h.trans (grownBy_S (grown_setCell w' g i v) (fun k hk => by cases hk; exact hg))
theorem GrownS.ext {S : Nat → Prop} {a b c : World} (h : GrownS S a b) (he : Ext b c) : GrownS S a c := h.trans (he.grownS S)
theorem GrownS.ofExt {S : Nat → Prop} {a b : World} (he : Ext a b) : GrownS S a b := he.grownS S

/-- The first j elements less a multiple, the others as they were. -/
def lessP (k : Int) (r s : List Int) (j : Nat) : List Int := (lessL k r s).take j ++ r.drop j
theorem lessP_len (k : Int) (r s : List Int) (j : Nat) : (lessP k r s j).length = r.length := by
  unfold lessP; rw [List.length_append, List.length_take, List.length_drop, lessL_len]; omega
theorem lessP_get (k : Int) (r s : List Int) (j : Nat) (a : Int) (h : r[j]? = some a) : (lessP k r s j)[j]? = some a := by
  unfold lessP
  have hj := (List.getElem?_eq_some_iff.1 h).1
  rw [List.getElem?_append_right (by rw [List.length_take]; omega), List.length_take, lessL_len, List.getElem?_drop]
  rw [show j + (j - min j r.length) = j by omega]; exact h
theorem lessP_set (k : Int) (r s : List Int) (j : Nat) (a b : Int) (h : r[j]? = some a) (h' : s[j]? = some b) : (lessP k r s j).set j (a - k * b) = lessP k r s (j + 1) := by
  have hj := (List.getElem?_eq_some_iff.1 h).1
  have hl := lessL_get k r s j a b h h'
  unfold lessP
  rw [List.take_add_one, hl]
  have hd : r.drop j = a :: r.drop (j + 1) := by
    rw [List.drop_eq_getElem_cons hj]
    congr 1
    exact (List.getElem?_eq_some_iff.1 h).2
  rw [hd, List.set_append_right _ _ (by rw [List.length_take]; omega), List.length_take, lessL_len, show j - min j r.length = 0 by omega]
  simp
theorem lessP_zero (k : Int) (r s : List Int) : lessP k r s 0 = r := by unfold lessP; simp
theorem lessP_all (k : Int) (r s : List Int) (j : Nat) (h : r.length ≤ j) : lessP k r s j = lessL k r s := by
  unfold lessP; rw [List.take_of_length_le (by rw [lessL_len]; exact h), List.drop_eq_nil_of_le h, List.append_nil]

set_option maxRecDepth 100000 in
set_option maxHeartbeats 2000000 in
/-- A row less a multiple of another one, in place. -/
theorem less_any (k : Int) (r s r' : List Int) (g o c gs os cs base : Nat) (w : World) (hr : RowB w g o r) (hs : RowB w gs os s) (hne : gs ≠ g) (hk : lessO k r s = some r')
    (hc : r.length ≤ c) (hc2 : c ≤ maxLen) (hcs : s.length ≤ cs) (hcs2 : cs ≤ maxLen) (ht : Pow10 w) (hb : 2 < base) (hg : base ≤ g) (hbw : base ≤ w.heap.size) :
    Calls Tryz.prog 133 #[.slice (some ⟨g, o, none⟩) r.length c, .string (intB k), .slice (some ⟨gs, os, none⟩) s.length cs] w fun e w' => e = .returned (.tuple #[]) ∧ GrownS (· = g) w w' ∧ RowB w' g o r' := by
  have hz := int_zero k
  unfold lessO at hk
  by_cases h0 : k = 0
  · rw [if_pos h0] at hk
    obtain rfl : r = r' := Option.some.inj hk
    rw [decide_eq_true h0] at hz
    have HR := Lib.hid hr
    clear hk h0 hs hr ht
    go_enter Tryz.func133, Tryz.ntmps133
    go_wp2_with fail
    refine bodyPost_ret (results_none rfl _ _ _) rfl ⟨rfl, GrownS.refl _ _, HR.out⟩
  · rw [if_neg h0] at hk
    rw [decide_eq_false h0] at hz
    by_cases hcond : s.length = r.length ∧ (sm9B k && s.all sm9B && r.all smB) = true
    · rw [if_pos hcond] at hk
      obtain rfl : lessL k r s = r' := Option.some.inj hk
      obtain ⟨hlen, hsm⟩ := hcond
      rw [Bool.and_eq_true, Bool.and_eq_true] at hsm
      have HK9 := Lib.hid (sm9_of hsm.1.1)
      have HS9 := Lib.hid (fun x hx => sm9_of (List.all_eq_true.1 hsm.1.2 x hx))
      have HRS := Lib.hid (fun x hx => sm_of (List.all_eq_true.1 hsm.2 x hx))
      have HR := Lib.hid hr; have HSS := Lib.hid hs; have HT := Lib.hid ht; have HB := Lib.hid hb
      unfold maxLen at hc2 hcs2
      clear hk h0 hsm hr hs ht hb
      have hle1 : s.length ≤ r.length := by omega
      have hle2 : r.length ≤ s.length := by omega
      clear hlen
      go_enter Tryz.func133, Tryz.ntmps133
      go_wp2_with fail
      go_loopw [12] (fun t wr => ∃ j : Nat, j ≤ s.length ∧ t = .int .i64 j ∧ GrownS (· = g) w wr ∧ Hid (RowB wr g o (lessP k r s j))) (fun t _ => s.length - (intOf t).toNat)
      case atStart => exact ⟨0, by omega, rfl, GrownS.refl _ _, by rw [lessP_zero]; exact HR.out⟩
      case round =>
        obtain ⟨j, hj, rfl, hG, HP⟩ := hrel
        obtain ⟨wo, rfl⟩ : ∃ wo : World, wo = wr := ⟨_, rfl⟩
        by_cases hlt : j < s.length
        · obtain ⟨b, hbj⟩ : ∃ b, s[j]? = some b := ⟨s[j], List.getElem?_eq_getElem hlt⟩
          obtain ⟨a, haj⟩ : ∃ a, r[j]? = some a := ⟨r[j]'(by omega), List.getElem?_eq_getElem _⟩
          have hltr : j < r.length := by omega
          have g0 := (HSS.out.grown hG (by exact hne)).cell j b hbj
          have g1 := HP.out.cell j a (lessP_get k r s j a haj)
          have f1 := HP.out.free (o + j)
          have HM : Hid (∀ W, Pow10 W → Calls Tryz.prog 94 #[.string (intB k), .string (intB b)] W fun e w' => e = .returned (.string (intB (k * b))) ∧ Ext W w') := fun W hW => mulZ k b W HK9.out (HS9.out b (List.mem_of_getElem? hbj)) hW
          have HU : Hid (∀ W, Pow10 W → Calls Tryz.prog 158 #[.string (intB a), .string (intB (k * b))] W fun e w' => e = .returned (.string (intB (a - k * b))) ∧ Ext W w') := fun W hW => by
            have h1 := HK9.out.size; have h2 := (HS9.out b (List.mem_of_getElem? hbj)).size; have h3 := mul_size k b
            exact subZ a (k * b) W (HRS.out a (List.mem_of_getElem? haj)) (by omega) hW
          have HTW : Hid (∀ W, Ext wo W → Pow10 W) := fun W hE => (HT.out.below (hG.below hbw (fun q hq => by cases hq; exact hg)) HB.out).ext hE
          have HSET : Hid (∀ W, Ext wo W → RowB (W.setCell ⟨g, o + j, none⟩ (.string (intB (a - k * b)))) g o (lessP k r s (j + 1))) := fun W hE => by
            rw [← lessP_set k r s j a b haj hbj]
            exact (HP.out.ext hE).set j (by rw [lessP_len]; exact hltr) _
          have HPX : Hid (∀ W, Ext wo W → RowB W g o (lessP k r s j)) := fun W hE => HP.out.ext hE
          have HG := Lib.hid hG
          clear hbj haj hG
          go_upto_region 4 with fail
          go_region_with (first
            | (go_at_call 94; refine (HM.out _ (HTW.out _ (Ext.drew _))).mono ?_; rintro e w5 ⟨rfl, hE5⟩; have HE5 := Lib.hid (Ext.trans (Ext.drew wo) hE5); have g5 := hE5.cell (a := ⟨g, o + j, none⟩) g1; clear hE5)
            | (go_at_call 158; refine (HU.out _ (HTW.out _ HE5.out)).mono ?_; rintro e w6 ⟨rfl, hE6⟩; have HE6 := Lib.hid (Ext.trans HE5.out hE6); have g6 := hE6.cell (a := ⟨g, o + j, none⟩) g5; have f6 := (HPX.out _ HE6.out).free (o + j); clear hE6))
          all_goals
            go_wp2_with fail
            go_roundw
            case rel => exact ⟨j + 1, by omega, by go_num, (HG.out.ext HE6.out).setCell rfl _ _, HSET.out _ HE6.out⟩
            case measure => simp [intOf]; omega
        · have HF : Hid (RowB wo g o (lessL k r s)) := by
            unfold Hid; rw [← lessP_all k r s j (by omega)]; exact HP.out
          have HG := Lib.hid hG
          clear hG
          go_wp2_with fail
          refine bodyPost_end (results_none rfl _ _ _) rfl ⟨rfl, HG.out, HF.out⟩
    · rw [if_neg hcond] at hk; cases hk
end Go.Proofs.YtjihfabhgcfjnaaGreatDoor
/- Contracts of package lattice on one row: negate, lead. -/
namespace Go.Proofs.YtjihfabhgcfjnaaGreatDoor
set_option linter.unusedVariables false
set_option linter.unusedSimpArgs false
open Go.RowKit

def negL (r : List Int) : List Int := r.map (- ·)
def negP (r : List Int) (j : Nat) : List Int := (negL r).take j ++ r.drop j
theorem negP_len (r : List Int) (j : Nat) : (negP r j).length = r.length := by
  unfold negP negL; rw [List.length_append, List.length_take, List.length_drop, List.length_map]; omega
theorem negP_get (r : List Int) (j : Nat) (a : Int) (h : r[j]? = some a) : (negP r j)[j]? = some a := by
  unfold negP negL
  have hj := (List.getElem?_eq_some_iff.1 h).1
  rw [List.getElem?_append_right (by rw [List.length_take]; omega), List.length_take, List.length_map, List.getElem?_drop]
  rw [show j + (j - min j r.length) = j by omega]; exact h
theorem negP_set (r : List Int) (j : Nat) (a : Int) (h : r[j]? = some a) : (negP r j).set j (-a) = negP r (j + 1) := by
  have hj := (List.getElem?_eq_some_iff.1 h).1
  unfold negP negL
  rw [List.take_add_one, List.getElem?_map, h]
  have hd : r.drop j = a :: r.drop (j + 1) := by
    rw [List.drop_eq_getElem_cons hj]
    congr 1
    exact (List.getElem?_eq_some_iff.1 h).2
  rw [hd, List.set_append_right _ _ (by rw [List.length_take]; omega), List.length_take, List.length_map, show j - min j r.length = 0 by omega]
  simp
theorem negP_zero (r : List Int) : negP r 0 = r := by unfold negP; simp
theorem negP_all (r : List Int) (j : Nat) (h : r.length ≤ j) : negP r j = negL r := by
  unfold negP negL; rw [List.take_of_length_le (by rw [List.length_map]; exact h), List.drop_eq_nil_of_le h, List.append_nil]

set_option maxRecDepth 100000 in
set_option maxHeartbeats 1000000 in
/-- All signs are turned, in place. -/
theorem negate_any (r : List Int) (g o c : Nat) (w : World) (hr : RowB w g o r) (hc : r.length ≤ c) (hc2 : c ≤ maxLen) (hsm : r.all smB = true) :
    Calls Tryz.prog 135 #[.slice (some ⟨g, o, none⟩) r.length c] w fun e w' => e = .returned (.tuple #[]) ∧ GrownS (· = g) w w' ∧ RowB w' g o (negL r) := by
  have HR := Lib.hid hr
  have HS := Lib.hid (fun x hx => sm_of (List.all_eq_true.1 hsm x hx))
  unfold maxLen at hc2
  clear hr hsm
  go_enter Tryz.func135, Tryz.ntmps135
  go_wp2_with fail
  go_loopw [6] (fun t wr => ∃ j : Nat, j ≤ r.length ∧ t = .int .i64 j ∧ GrownS (· = g) w wr ∧ Hid (RowB wr g o (negP r j))) (fun t _ => r.length - (intOf t).toNat)
  case atStart => exact ⟨0, by omega, rfl, GrownS.refl _ _, by rw [negP_zero]; exact HR.out⟩
  case round =>
    obtain ⟨j, hj, rfl, hG, HP⟩ := hrel
    obtain ⟨wo, rfl⟩ : ∃ wo : World, wo = wr := ⟨_, rfl⟩
    by_cases hlt : j < r.length
    · obtain ⟨a, haj⟩ : ∃ a, r[j]? = some a := ⟨r[j], List.getElem?_eq_getElem hlt⟩
      have g1 := HP.out.cell j a (negP_get r j a haj)
      have HN : Hid (∀ W, Calls Tryz.prog 159 #[.string (intB a)] W fun e w' => e = .returned (.string (intB (-a))) ∧ Ext W w') := fun W => neg_any a W (by have := (HS.out a (List.mem_of_getElem? haj)).size; omega)
      have HSET : Hid (∀ W, Ext wo W → RowB (W.setCell ⟨g, o + j, none⟩ (.string (intB (-a)))) g o (negP r (j + 1))) := fun W hE => by
        rw [← negP_set r j a haj]
        exact (HP.out.ext hE).set j (by rw [negP_len]; exact hlt) _
      have HPX : Hid (∀ W, Ext wo W → RowB W g o (negP r j)) := fun W hE => HP.out.ext hE
      have HG := Lib.hid hG
      clear haj hG
      go_wp2_with fail
      refine (HN.out _).mono ?_
      rintro e w5 ⟨rfl, hE5⟩
      have HE5 := Lib.hid hE5
      have g5 := hE5.cell g1
      have f5 := (HPX.out _ hE5).free (o + j)
      clear hE5
      go_wp2_with fail
      go_roundw
      case rel => exact ⟨j + 1, by omega, by go_num, (HG.out.ext HE5.out).setCell rfl _ _, HSET.out _ HE5.out⟩
      case measure => simp [intOf]; omega
    · have HF : Hid (RowB wo g o (negL r)) := by
        unfold Hid; rw [← negP_all r j (by omega)]; exact HP.out
      have HG := Lib.hid hG
      clear hG
      go_wp2_with fail
      refine bodyPost_end (results_none rfl _ _ _) rfl ⟨rfl, HG.out, HF.out⟩

theorem lead1_any (x : Int) (w : World) : Calls Tryz.prog 144 #[.string (intB x)] w fun e w' => e = .returned (.bool (x != 0)) ∧ w = w' := by
  have hz := int_zero x
  by_cases h : x = 0
  · rw [decide_eq_true h] at hz
    have HR : Hid ((x != 0) = false) := by unfold Hid; simp [h]
    rw [HR.out]
    clear h HR
    go_enter Tryz.func144, Tryz.ntmps144
    go_wp2_with fail
    go_ret
    exact ⟨rfl, rfl⟩
  · rw [decide_eq_false h] at hz
    have HR : Hid ((x != 0) = true) := by unfold Hid; simp [h]
    rw [HR.out]
    clear h HR
    go_enter Tryz.func144, Tryz.ntmps144
    go_wp2_with fail
    go_ret
    exact ⟨rfl, rfl⟩

set_option maxRecDepth 100000 in
set_option maxHeartbeats 1000000 in
/-- slices.IndexFunc over a row of integers of any size. -/
theorem indexLong_any (xs : List Int) (g o c : Nat) (w : World) (hr : RowB w g o xs) (hc : xs.length ≤ c) (hc2 : c ≤ maxLen) :
    Calls Tryz.prog 143 #[.slice (some ⟨g, o, none⟩) xs.length c, .func (.func 144) #[] #[]] w fun e w' => e = .returned (.int .i64 (leadL xs)) ∧ Ext w w' := by
  have HR := Lib.hid hr
  have eg : ∀ args w, (callFunc 144 args).run Tryz.prog w = .ok (.enter 144 args) w := enters_of Tryz.func144 (by kernel_rfl) rfl
  unfold maxLen at hc2
  clear hr
  go_enter Tryz.func143, Tryz.ntmps143
  go_wp2
  go_loopw [8] (fun t wr => ∃ pre rest, t = .int .i64 (pre.length : Nat) ∧ Ext w wr ∧ Hid (xs = pre ++ rest) ∧ Hid (∀ x ∈ pre, (x != 0) = false)) (fun t _ => xs.length - (intOf t).toNat)
  case atStart => exact ⟨[], xs, rfl, Ext.refl _, rfl, by intro x hx; simp at hx⟩
  case round =>
    obtain ⟨pre, rest, rfl, hE, HP, HA⟩ := hrel
    have hlen : xs.length = pre.length + rest.length := by rw [HP.out]; simp
    cases rest with
    | nil =>
      have : ¬ (pre.length < xs.length) := by simp at hlen; omega
      clear hlen
      go_wp2
      go_ret
      have : leadL xs = -1 := by
        have : xs.findIdx? (· != 0) = none := by rw [HP.out, List.append_nil, List.findIdx?_eq_none_iff]; exact HA.out
        unfold leadL; rw [this]
      rw [this]
      exact ⟨rfl, hE⟩
    | cons x rest =>
      have hlt : pre.length < xs.length := by simp at hlen; omega
      clear hlen
      have g1 := hE.cell (HR.out.cell pre.length x (by rw [HP.out]; simp))
      have hcall := fun W => lead1_any x W
      cases hq : (x != 0) with
      | true =>
        have HRR : Hid (leadL xs = pre.length) := by
          unfold Hid leadL
          rw [HP.out, List.findIdx?_append, (List.findIdx?_eq_none_iff (xs := pre)).2 HA.out, List.findIdx?_cons, hq]
          simp
        rw [hq] at hcall
        have HCALL := Lib.hid hcall
        clear hcall hq
        go_wp2_with (go_at_fn 144; refine (HCALL.out _).mono ?_; rintro e w' ⟨rfl, rfl⟩)
        go_ret
        rw [HRR.out]
        exact ⟨rfl, hE⟩
      | false =>
        have HA' : Hid (∀ y ∈ pre ++ [x], (y != 0) = false) := by
          intro y hy
          rcases List.mem_append.1 hy with hy | hy
          · exact HA.out y hy
          · rw [List.mem_singleton.1 hy]; exact hq
        rw [hq] at hcall
        have HCALL := Lib.hid hcall
        clear hcall hq
        go_wp2_with (go_at_fn 144; refine (HCALL.out _).mono ?_; rintro e w' ⟨rfl, rfl⟩)
        go_roundw
        case rel => exact ⟨pre ++ [x], rest, by simp, hE, by unfold Hid; rw [HP.out]; simp, HA'⟩
        case measure => simp [intOf]; omega

theorem lead_any (xs : List Int) (g o c : Nat) (w : World) (hr : RowB w g o xs) (hc : xs.length ≤ c) (hc2 : c ≤ maxLen) :
    Calls Tryz.prog 95 #[.slice (some ⟨g, o, none⟩) xs.length c] w fun e w' => e = .returned (.int .i64 (leadL xs)) ∧ Ext w w' := by
  have HC := Lib.hid (indexLong_any xs g o c w hr hc hc2)
  clear hr
  go_enter Tryz.func95, Tryz.ntmps95
  go_wp2_with fail
  refine HC.out.mono ?_
  rintro e w1 ⟨rfl, hE1⟩
  have HE1 := Lib.hid hE1
  clear hE1 HC
  go_wp2_with fail
  go_ret
  exact ⟨rfl, HE1.out⟩
end Go.Proofs.YtjihfabhgcfjnaaGreatDoor
/- Contracts of package lattice: longOf, zeros, and short of one row. -/
namespace Go.Proofs.YtjihfabhgcfjnaaGreatDoor
set_option linter.unusedVariables false
set_option linter.unusedSimpArgs false
open Go.RowKit

theorem infoBig : (Tryz.prog.info? 125).map (fun i => (i.zero, i.size, i.bytes)) = some (some (.string ⟨#[]⟩), 1, 16) := by kernel_rfl

/-- Integers of any size in a slice that a call builds. -/
def bigC (_ : World) (u : List Value) (x : Int) : Prop := u = [.string (intB x)]
theorem Build.bigs {w : World} {base : Nat} {e : TypeId} {v : Value} {xs : List Int} (h : Build w base e 1 v bigC xs) : w.ownsRow base e 1 v xs.length (xs.map fun x => Value.string (intB x)) := by
  obtain ⟨us, h1, h2, h3, h4⟩ := h
  have : us = xs.map fun x => [Value.string (intB x)] := by
    apply List.ext_getElem?
    intro i
    rw [List.getElem?_map]
    by_cases hi : i < xs.length
    · have hi2 : i < us.length := by omega
      have := (h4 i us[i] xs[i] (by simp [hi2]) (by simp [hi])).now
      simp only [bigC] at this
      simp [hi, hi2, this]
    · rw [List.getElem?_eq_none (by omega), List.getElem?_eq_none (by omega)]; rfl
  rw [this, flatten_one (fun x => Value.string (intB x))] at h3
  exact h3
/-- A row that the call owns, as a row of its own. -/
theorem RowB.of_owns {w : World} {base : Nat} {e : TypeId} {g cap : Nat} {xs : List Int} (h : w.ownsRow base e 1 (.slice (some ⟨g, 0, none⟩) xs.length cap) xs.length (xs.map fun x => Value.string (intB x))) : RowB w g 0 xs ∧ base ≤ g ∧ xs.length ≤ cap ∧ cap ≤ maxLen := by
  have hc := h.cells (g := g) (by simp [Value.ownBlock])
  have hf := fun j => h.frozenAt j
  rcases h.2 with ⟨hv, _⟩ | ⟨g', cap', cur, hv, hb, hg, h1, h2, h3, h4⟩
  · simp at hv
  · simp only [Value.slice.injEq, Option.some.injEq, Addr.mk.injEq] at hv
    obtain ⟨⟨rfl, -, -⟩, -, rfl⟩ := hv
    refine ⟨⟨(Array.getElem?_eq_some_iff.1 hg).1, fun j x hx => ?_, fun j => ?_⟩, hb, h1, h2⟩
    · have := hc j (.string (intB x)) (by rw [List.getElem?_map, hx]; rfl)
      rw [show (⟨g, 0, none⟩ : Addr).add j = ⟨g, 0 + j, none⟩ by unfold Addr.add; split <;> simp_all] at this
      exact this
    · exact hf j

set_option maxRecDepth 100000 in
set_option maxHeartbeats 1000000 in
/-- A row of ints as a row of integers of any size. -/
theorem longOf_any (xs : List Int) (v : Value) (w : World) (h : Ints w v xs) (hlen : xs.length ≤ 1000) (ht : Pow10 w) :
    Calls Tryz.prog 130 #[v] w fun e w' => ∃ g c, e = .returned (.slice (some ⟨g, 0, none⟩) xs.length c) ∧ RowB w' g 0 xs ∧ w.heap.size ≤ g ∧ xs.length ≤ c ∧ c ≤ maxLen ∧ Ext w w' := by
  obtain ⟨a, c, rfl, h1, h2, -, hbd, hc⟩ := h.open
  obtain ⟨i0, hi, hz0, hz1, hz2⟩ := info_parts infoBig
  have HI := Lib.hid hi; have HZ0 := Lib.hid hz0; have HZ1 := Lib.hid hz1; have HZ2 := Lib.hid hz2
  have HC := Lib.hid hc; have HT := Lib.hid ht; have HBD := Lib.hid hbd
  unfold maxLen at h2
  clear hi hz0 hz1 hz2 h hc ht hbd
  obtain ⟨n, hn⟩ : ∃ n : Nat, n = xs.length := ⟨_, rfl⟩
  go_enter Tryz.func130, Tryz.ntmps130
  go_wp2_with (at_make; refine wpList_make_own _ rfl _ _ 159 rfl w.heap.size 125 i0 (.string ⟨#[]⟩) 1 Tryz.underlying159 HI.out HZ0.out HZ1.out _ _ _ xs.length rfl rfl rfl ?c1 ?c2 ?c3 ?_)
  case c1 => rw [HZ2.out]; omega
  case c2 => unfold maxLen; omega
  case c3 => exact Nat.le_refl _
  intro w1 hown hgrow
  have HE1 := Lib.hid (ext_grown hgrow)
  have HOWN := Lib.hid hown
  clear hown hgrow
  go_wp2_with fail
  go_loopw [3, 11] (fun out t wr => ∃ j : Nat, j ≤ xs.length ∧ t = .int .i64 j ∧ Ext w wr ∧ Hid (∃ g cc, out = .slice (some ⟨g, 0, none⟩) j cc) ∧ Hid (Build wr w.heap.size 125 1 out bigC (xs.take j))) (fun _ t _ => xs.length - (intOf t).toNat)
  case atStart => exact ⟨0, by omega, rfl, HE1.out, ⟨_, _, rfl⟩, ⟨[], rfl, by simp, HOWN.out, by simp⟩⟩
  case round =>
    obtain ⟨j, hj, rfl, hE, HSL, HBu⟩ := hrel
    obtain ⟨wo, rfl⟩ : ∃ wo : World, wo = wr := ⟨_, rfl⟩
    have HE := Lib.hid hE
    by_cases hlt : j < xs.length
    · obtain ⟨b, off, rfl, hb, hcell⟩ := HC.out (by intro e; simp [e] at hlt)
      obtain ⟨x, hx⟩ : ∃ x, xs[j]? = some x := ⟨xs[j], List.getElem?_eq_getElem hlt⟩
      have g1 := hE.cell (hcell j x hx)
      obtain ⟨hx1, hx2⟩ := HBD.out x (List.mem_of_getElem? hx)
      have HOF := Lib.hid (of_any x wo hx1 hx2 (HT.out.ext hE))
      have HN : Hid (xs.take (j + 1) = xs.take j ++ [x]) := by unfold Hid; rw [List.take_add_one, hx]; rfl
      have HJ : Hid ((xs.take j).length < 1000000) := by unfold Hid; rw [List.length_take]; omega
      have HJL : Hid ((xs.take j).length = j) := by unfold Hid; rw [List.length_take]; omega
      clear hcell hx hE
      go_wp2_with fail
      refine HOF.out.mono ?_
      rintro e w2 ⟨rfl, hE2⟩
      have HB2 := Lib.hid (HBu.out.ext hE2)
      have HE2 := Lib.hid (Ext.trans HE.out hE2)
      have hszr := HE2.out.size
      clear hE2 HOF
      go_wp2_with (at_builtin; go_must (refine wpList_append_build _ rfl _ _ 159 rfl w.heap.size 125 (.string ⟨#[]⟩) 1 16 Tryz.underlying159 infoBig rfl (by decide) u3 bigC (xs.take j) x #[.string (intB x)] 125 rfl HB2.out rfl rfl ?e1 (fun _ _ => rfl) HJ.out (by decide) hszr ?_))
      case e1 => simp [Value.oneCell']
      intro v' w5 hB5 hg5 hb5 hs5 _
      have HV : Hid (∃ g cc, v' = .slice (some ⟨g, 0, none⟩) (j + 1) cc) := by
        obtain ⟨us, b1, b2, b3, b4⟩ := id hB5
        obtain ⟨g, cc, hv, -⟩ := owns_shape b3 (by rw [List.length_append]; simp)
        refine ⟨g, cc, ?_⟩
        rw [hv, List.length_append, HJL.out]; rfl
      rw [← HN.out] at hB5
      have HB5 := Lib.hid hB5
      have HX5 := Lib.hid (Below.trans HE2.out hb5)
      clear hB5 hg5 hb5
      go_wp2_with fail
      go_roundw
      case rel => exact ⟨j + 1, by omega, by go_num, HX5.out, HV, HB5.out⟩
      case measure => simp [intOf]; omega
    · obtain rfl : j = xs.length := by omega
      obtain ⟨g, cc, rfl⟩ := HSL.out
      have hB := HBu.out
      rw [List.take_length] at hB
      have HR := Lib.hid (RowB.of_owns (Build.bigs hB))
      clear hB HBu HSL hE
      go_wp2_with fail
      go_ret
      exact ⟨g, cc, rfl, HR.out.1, HR.out.2.1, HR.out.2.2.1, HR.out.2.2.2, HE.out⟩
end Go.Proofs.YtjihfabhgcfjnaaGreatDoor
/- Contract of whole.Small at any size. -/
namespace Go.Proofs.YtjihfabhgcfjnaaGreatDoor
set_option linter.unusedVariables false
set_option linter.unusedSimpArgs false
open Go.RowKit

/-- Fits an int. -/
def fitI (n : Int) : Prop := -9223372036854775808 ≤ n ∧ n ≤ 9223372036854775807
instance (n : Int) : Decidable (fitI n) := inferInstanceAs (Decidable (_ ∧ _))
def smV (n : Int) : Int := if fitI n then n else 0
/-- What the laid variables give. -/
structure LibT (w : World) : Prop where
  pow : Pow10 w
  rng : ∃ te pe, w.cell? ⟨1, 0, none⟩ = some (.iface te pe)
theorem LibT.ext {w w' : World} (h : LibT w) (he : Ext w w') : LibT w' := by
  obtain ⟨te, pe, hr⟩ := h.rng
  exact ⟨h.pow.ext he, ⟨te, pe, he.cell hr⟩⟩
theorem parseInt_range (n : Int) (h : ¬ fitI n) : Lib.parseIntB 64 (intB n).data.toList = .range := by
  have := atoi_canon_range (intB_canon n).1 (by rw [(intB_canon n).2]; exact h)
  rw [Lib.parseIntB_64]; exact this
theorem parseInt_fit (n : Int) (h : fitI n) : Lib.parseIntB 64 (intB n).data.toList = .ok n := by
  have := atoi_canon_ok (intB_canon n).1 (by rw [(intB_canon n).2]; exact h)
  rw [(intB_canon n).2] at this
  rw [Lib.parseIntB_64]; exact this
set_option maxRecDepth 100000 in
theorem smallG_any (n : Int) (w : World) (hs : (intB n).size ≤ 2000000000) (ht : LibT w) :
    Calls Tryz.prog 148 #[.string (intB n)] w fun e w' => e = .returned (.tuple #[.int .i64 (smV n), .bool (decide (fitI n))]) ∧ Ext w w' := by
  by_cases h : fitI n
  · have HV : Hid (smV n = n ∧ decide (fitI n) = true) := ⟨by unfold smV; rw [if_pos h], decide_eq_true h⟩
    have HP : Hid (Calls Tryz.prog 172 #[.string (intB n), .int .i64 10, .int .i64 64] w fun e w' => e = .returned (.tuple #[.int .i64 n, .nilIface]) ∧ Ext w w') :=
      (Tryz.strconv_ParseInt_10_at64_ok (intB n) (by omega) n (parseInt_fit n h) w).mono fun e w' ⟨h1, h2⟩ => ⟨h1, by
        rcases h2 with rfl | ⟨t, rfl⟩
        · exact Ext.refl _
        · exact ⟨rfl, rfl, rfl, by rw [Lib.bytesWorld_size]; omega, fun j hj => Lib.bytesWorld_at_old w _ t j hj⟩⟩
    clear h ht
    go_enter Tryz.func148, Tryz.ntmps148
    go_wp2_with fail
    refine HP.out.mono ?_
    rintro e w1 ⟨rfl, hE1⟩
    have HE1 := Lib.hid hE1
    clear hE1 HP
    go_wp2_with fail
    go_ret2
    exact ⟨by rw [HV.out.1, HV.out.2]; rfl, HE1.out⟩
  · have HV : Hid (smV n = 0 ∧ decide (fitI n) = false) := ⟨by unfold smV; rw [if_neg h], decide_eq_false h⟩
    obtain ⟨te, pe, hr⟩ := ht.rng
    have HP := Lib.hid (Tryz.strconv_ParseInt_10_at64_range (intB n) (by omega) (parseInt_range n h) _ w hr (.inr ⟨te, pe, rfl⟩))
    clear h hr ht
    go_enter Tryz.func148, Tryz.ntmps148
    go_wp2_with fail
    refine HP.out.mono ?_
    rintro e w1 ⟨N, rfl, hN, hblk, hE1⟩
    have HE1 : Hid (Ext w w1) := hE1
    clear hE1 HP hblk
    go_wp2_with fail
    go_ret2
    exact ⟨by rw [HV.out.1, HV.out.2]; rfl, HE1.out⟩

end Go.Proofs.YtjihfabhgcfjnaaGreatDoor
