/- Merged: RefT, DotA, ApplyT. -/
import Derived.Test.YtpeinobepiodaaaGreatDoorGT
import Derived.Test.YtpeinobepiodaaaGreatDoorGI
import Derived.Test.YtpeinobepiodaaaGreatDoorGK
/- Contracts of law 06's few and of the reference's Fits, Check, Columns, Apply (chapter 06). (Printed by gen/reft.py.) -/
namespace Go.Proofs.YtpeinobepiodaaaGreatDoor
set_option linter.unusedVariables false
set_option linter.unusedSimpArgs false
open Go.RowKit

theorem fits_any (n : Int) (w : World) : Calls Tryz.prog 29 #[.int .i64 n] w fun e w' => e = .returned (.bool (fitB n)) ∧ w = w' := by
  by_cases h : n ≤ 1000000000
  · by_cases h2 : -1000000000 ≤ n
    · go_enter Tryz.func29, Tryz.ntmps29
      go_wp2
      go_ret
      exact ⟨by simp [fitB, h, h2]; try omega, rfl⟩
    · go_enter Tryz.func29, Tryz.ntmps29
      go_wp2
      go_ret
      exact ⟨by simp [fitB, h, h2]; try omega, rfl⟩
  · go_enter Tryz.func29, Tryz.ntmps29
    go_wp2
    go_ret
    exact ⟨by simp [fitB, h]; try omega, rfl⟩
def mostL (xss : List (List Int)) : Nat := xss.foldl (fun m r => max m r.length) 0
theorem mostL_succ {xss : List (List Int)} {i : Nat} {r : List Int} (h : xss[i]? = some r) : mostL (xss.take (i + 1)) = max (mostL (xss.take i)) r.length := by
  unfold mostL; rw [List.take_add_one, h, List.foldl_append]; rfl
def fewP (xss : List (List Int)) : Prop := (xss.length ≤ 4 ∧ mostL xss ≤ 5) ∨ (12 ≤ xss.length ∧ xss.length ≤ 14 ∧ mostL xss ≤ 2) ∨ (xss.length ≤ 2 ∧ 11 ≤ mostL xss ∧ mostL xss ≤ 14)
instance (xss : List (List Int)) : Decidable (fewP xss) := inferInstanceAs (Decidable (_ ∨ _))
set_option maxRecDepth 100000 in
set_option maxHeartbeats 2000000 in
theorem few_any (xss : List (List Int)) (v : Value) (w : World) (h : Rows2 w v xss) :
    Calls Tryz.prog 15 #[v] w fun e w' => e = .returned (.bool (decide (fewP xss))) ∧ Ext w w' := by
  obtain ⟨a, c, rfl, h1, h2, -, hc⟩ := inCell.open h
  have HC := Lib.hid hc
  unfold maxLen at h2
  have HFW : Hid (fewP xss ↔ (xss.length ≤ 4 ∧ mostL xss ≤ 5) ∨ (12 ≤ xss.length ∧ xss.length ≤ 14 ∧ mostL xss ≤ 2) ∨ (xss.length ≤ 2 ∧ 11 ≤ mostL xss ∧ mostL xss ≤ 14)) := Iff.rfl
  obtain ⟨fb, hfb⟩ : ∃ b, b = decide (fewP xss) := ⟨_, rfl⟩
  rw [← hfb]
  have HFB := Lib.hid hfb
  clear h hc hfb
  go_enter Tryz.func15, Tryz.ntmps15
  go_wp2_with fail
  go_loopw [3, 4] (fun m t wr => ∃ (j x : Nat), j ≤ xss.length ∧ t = .int .i64 j ∧ m = .int .i64 x ∧ Hid (x = mostL (xss.take j)) ∧ Ext w wr) (fun _ t _ => xss.length - (intOf t).toNat)
  case atStart => exact ⟨0, 0, by omega, rfl, rfl, rfl, Ext.refl _⟩
  case round =>
    obtain ⟨j, x, hj, rfl, rfl, HM, hE⟩ := hrel
    by_cases hlt : j < xss.length
    · obtain ⟨b, off, rfl, hb, hcell⟩ := HC.out (by intro e; simp [e] at hlt)
      obtain ⟨xs, hx⟩ : ∃ x, xss[j]? = some x := ⟨xss[j], List.getElem?_eq_getElem hlt⟩
      obtain ⟨vx, hvx, hcx⟩ := hcell j xs hx
      obtain ⟨ax, cx, rfl, -, -, -, -, -⟩ := Ints.open hvx
      have g1 := hE.cell hcx
      have HM2 : Hid (max x xs.length = mostL (xss.take (j + 1))) := by unfold Hid; rw [mostL_succ hx, HM.out]
      have e1 : max (x : Int) (xs.length : Int) = ((max x xs.length : Nat) : Int) := by omega
      clear hcell hx hvx hcx
      go_wp2_with fail
      go_roundw
      case rel => exact ⟨j + 1, max x xs.length, by omega, by go_num, by first | rfl | (rw [e1]), HM2.out, hE⟩
      case measure => simp [intOf]; omega
    · obtain rfl : j = xss.length := by omega
      rw [List.take_length] at HM
      rw [← HM.out] at HFW
      have HOK : Hid (∀ b : Bool, ((b = true) ↔ ((xss.length ≤ 4 ∧ x ≤ 5) ∨ (12 ≤ xss.length ∧ xss.length ≤ 14 ∧ x ≤ 2) ∨ (xss.length ≤ 2 ∧ 11 ≤ x ∧ x ≤ 14))) → b = fb) := by
        intro b hb
        rw [HFB.out]
        rw [← HFW.out] at hb
        by_cases h : fewP xss
        · rw [hb.2 h, decide_eq_true h]
        · rw [decide_eq_false h]
          cases b with
          | false => rfl
          | true => exact absurd (hb.1 rfl) h
      obtain ⟨n, hn⟩ : ∃ n, n = xss.length := ⟨_, rfl⟩
      rw [← hn] at HOK h1 ⊢
      clear HFW HFB HM hlt hj HC hn
      have hcs : (n ≤ 4 ∧ x ≤ 5) ∨ (n ≤ 4 ∧ ¬ x ≤ 5 ∧ ¬ n ≤ 2) ∨ (n ≤ 4 ∧ ¬ x ≤ 5 ∧ n ≤ 2 ∧ ¬ 11 ≤ x) ∨ (n ≤ 4 ∧ ¬ x ≤ 5 ∧ n ≤ 2 ∧ 11 ≤ x ∧ x ≤ 14) ∨ (n ≤ 4 ∧ ¬ x ≤ 5 ∧ n ≤ 2 ∧ 11 ≤ x ∧ ¬ x ≤ 14) ∨
          (¬ n ≤ 4 ∧ ¬ 12 ≤ n) ∨ (¬ n ≤ 4 ∧ 12 ≤ n ∧ ¬ n ≤ 14) ∨ (¬ n ≤ 4 ∧ 12 ≤ n ∧ n ≤ 14 ∧ x ≤ 2) ∨ (¬ n ≤ 4 ∧ 12 ≤ n ∧ n ≤ 14 ∧ ¬ x ≤ 2) := by omega
      rcases hcs with ⟨k1, k2⟩ | ⟨k1, k2, k3⟩ | ⟨k1, k2, k3, k4⟩ | ⟨k1, k2, k3, k4, k5⟩ | ⟨k1, k2, k3, k4, k5⟩ | ⟨k1, k2⟩ | ⟨k1, k2, k3⟩ | ⟨k1, k2, k3, k4⟩ | ⟨k1, k2, k3, k4⟩
      all_goals
        go_wp2_with fail
        go_ret
        exact ⟨congrArg (fun b => Ending.returned (Value.bool b)) (HOK.out _ (by simp; try omega)), hE⟩

theorem any_drop {xs : List Int} {k : Nat} {x : Int} (f : Int → Bool) (h : xs[k]? = some x) : (xs.drop k).any f = (f x || (xs.drop (k + 1)).any f) := by
  rw [drop_cons h, List.any_cons]
set_option maxRecDepth 100000 in
set_option maxHeartbeats 2000000 in
theorem refCheck_any (xss : List (List Int)) (v : Value) (w : World) (h : Rows2 w v xss) :
    Calls Tryz.prog 18 #[v] w fun e w' => e = .returned (.int .i64 (tabE xss)) ∧ Ext w w' := by
  obtain ⟨a, c, rfl, h1, h2, -, hc⟩ := inCell.open h
  have HC := Lib.hid hc
  unfold maxLen at h2
  clear h hc
  by_cases hl : 12 < xss.length
  · have HT : Hid (tabE xss = 4) := by unfold Hid tabE; rw [if_pos hl]
    have hl' : (12 : Int) < (xss.length : Int) := by omega
    go_enter Tryz.func18, Tryz.ntmps18
    go_wp2_with fail
    go_ret
    exact ⟨by rw [HT.out]; rfl, Ext.refl _⟩
  · have HT : Hid (tabE xss = tabR (xss.headD []).length xss) := by unfold Hid tabE; rw [if_neg hl]
    have hl' : ¬ (12 : Int) < (xss.length : Int) := by omega
    obtain ⟨n, hn⟩ : ∃ n, n = (xss.headD []).length := ⟨_, rfl⟩
    rw [← hn] at HT
    have HN := Lib.hid hn
    clear hn
    go_enter Tryz.func18, Tryz.ntmps18
    go_wp2_with fail
    go_loopw [3] (fun t wr => ∃ j : Nat, j ≤ xss.length ∧ t = .int .i64 j ∧ Ext w wr ∧ Hid (tabE xss = tabR n (xss.drop j))) (fun t _ => xss.length - (intOf t).toNat)
    case atStart => exact ⟨0, by omega, rfl, Ext.refl _, HT.out⟩
    case round =>
      obtain ⟨j, hj, rfl, hE, HD⟩ := hrel
      obtain ⟨wo, rfl⟩ : ∃ wo : World, wo = wr := ⟨_, rfl⟩
      have HE := Lib.hid hE
      by_cases hlt : j < xss.length
      · obtain ⟨b, off, rfl, hb, hcell⟩ := HC.out (by intro e; simp [e] at hlt)
        obtain ⟨xs, hx⟩ : ∃ x, xss[j]? = some x := ⟨xss[j], List.getElem?_eq_getElem hlt⟩
        obtain ⟨ys, hy⟩ : ∃ y, xss[0]? = some y := ⟨xss[0]'(by omega), List.getElem?_eq_getElem _⟩
        have hny : ys.length = n := by
          rw [HN.out]
          cases xss with
          | nil => simp at hlt
          | cons z t => simp at hy; rw [hy]; rfl
        obtain ⟨vx, hvx, hcx⟩ := hcell j xs hx
        obtain ⟨vy, hvy, hcy⟩ := hcell 0 ys hy
        rw [Nat.add_zero] at hcy
        obtain ⟨ax, cx, rfl, -, hx2, -, -, hxc⟩ := Ints.open hvx
        obtain ⟨ay, cy, rfl, -, -, -, -, -⟩ := Ints.open hvy
        rw [hny] at hcy
        have HG1 : Hid (∀ W, Ext w W → W.cell? ⟨b, off + j, none⟩ = some (.slice ax xs.length cx)) := fun W hW => hW.cell hcx
        have HG2 : Hid (∀ W, Ext w W → W.cell? ⟨b, off, none⟩ = some (.slice ay n cy)) := fun W hW => hW.cell hcy
        have HXC := Lib.hid hxc
        have g1 := HG1.out _ hE
        have g2 := HG2.out _ hE
        have HDS : Hid (tabE xss = if 12 < xs.length then 4 else if xs.length = n then (if xs.any (fun x => !fitB x) then 4 else tabR n (xss.drop (j + 1))) else 5) := by
          unfold Hid; rw [HD.out, drop_cons hx]; rfl
        have hpos : 0 < xss.length := by omega
        unfold maxLen at hx2
        clear hcell hx hy hny hvx hvy hcx hcy hE hxc
        by_cases q1 : 12 < xs.length
        · have q2 : (12 : Int) < (xs.length : Int) := by omega
          rw [if_pos q1] at HDS
          go_wp2_with fail
          go_ret
          exact ⟨by rw [HDS.out]; rfl, HE.out⟩
        · have q2 : ¬ (12 : Int) < (xs.length : Int) := by omega
          rw [if_neg q1] at HDS
          by_cases q3 : xs.length = n
          · rw [if_pos q3] at HDS
            have q4 : ((xs.length : Int) != (n : Int)) = false := by simp [q3]
            clear q3
            go_wp2_with fail
            go_quiet (fail)
            go_wp2_with fail
            have hsz : ∀ kk, Ext w (wo.drewN kk) := fun kk => Ext.draws HE.out kk
            clear g1 g2
            go_loopw [4] (fun t wr => ∃ k : Nat, k ≤ xs.length ∧ t = .int .i64 k ∧ Hid (Ext w wr) ∧ Hid (xs.any (fun x => !fitB x) = (xs.drop k).any (fun x => !fitB x))) (fun t _ => xs.length - (intOf t).toNat)
            case atStart => exact ⟨0, by omega, rfl, by first | exact HE.out | exact hsz _ | exact Ext.draws HE.out _ | exact HE.out.trans (Ext.drew _), rfl⟩
            case round =>
              obtain ⟨k, hk, rfl, HEI, HA⟩ := hrel
              obtain ⟨wi, rfl⟩ : ∃ wi : World, wi = wr := ⟨_, rfl⟩
              have g1 := HG1.out _ HEI.out
              by_cases hkl : k < xs.length
              · obtain ⟨b2, o2, rfl, hb2, hc2⟩ := HXC.out (by intro e; rw [e] at hkl; simp at hkl)
                obtain ⟨x, hx⟩ : ∃ x, xs[k]? = some x := ⟨xs[k], List.getElem?_eq_getElem hkl⟩
                have g3 := HEI.out.cell (hc2 k x hx)
                have HAD := Lib.hid (any_drop (fun x => !fitB x) hx)
                have HFI : Hid (∀ W, Calls Tryz.prog 29 #[.int .i64 x] W fun e w' => e = .returned (.bool (fitB x)) ∧ W = w') := fun W => fits_any x W
                clear hc2 hx
                cases hf : fitB x with
                | true =>
                  rw [hf] at HAD HFI
                  have HA2 : Hid (xs.any (fun x => !fitB x) = (xs.drop (k + 1)).any (fun x => !fitB x)) := by unfold Hid; rw [HA.out, HAD.out]; rfl
                  go_wp2_with fail
                  refine (HFI.out _).mono ?_
                  rintro e w1 ⟨rfl, rfl⟩
                  go_wp2_with fail
                  go_roundw
                  case rel => exact ⟨k + 1, by omega, by go_num, HEI.out, HA2.out⟩
                  case measure => simp [intOf]; omega
                | false =>
                  rw [hf] at HAD HFI
                  have HA2 : Hid (tabE xss = 4) := by unfold Hid; rw [HDS.out, if_pos (by rw [HA.out, HAD.out]; rfl)]
                  go_wp2_with fail
                  refine (HFI.out _).mono ?_
                  rintro e w1 ⟨rfl, rfl⟩
                  go_wp2_with fail
                  go_ret
                  exact ⟨by rw [HA2.out]; rfl, HEI.out⟩
              · obtain rfl : k = xs.length := by omega
                have HA2 : Hid (tabE xss = tabR n (xss.drop (j + 1))) := by unfold Hid; rw [HDS.out, if_neg (by rw [HA.out, List.drop_length]; simp)]
                go_wp2_with fail
                go_roundw
                case rel => exact ⟨j + 1, by omega, by go_num, HEI.out, HA2.out⟩
                case measure => simp [intOf]; omega
          · rw [if_neg q3] at HDS
            have q4 : ((xs.length : Int) != (n : Int)) = true := by simp; omega
            clear q3
            go_wp2_with fail
            go_quiet (fail)
            go_wp2_with fail
            go_ret
            exact ⟨by rw [HDS.out]; rfl, by first | exact HE.out | exact Ext.draws HE.out _ | exact HE.out.trans (Ext.drew _)⟩
      · obtain rfl : j = xss.length := by omega
        have HF : Hid (tabE xss = 0) := by unfold Hid; rw [HD.out, List.drop_length]; rfl
        clear HD hE
        go_wp2_with fail
        go_ret
        exact ⟨by rw [HF.out]; rfl, HE.out⟩
theorem refCols_any (xss : List (List Int)) (v : Value) (w : World) (h : Rows2 w v xss) :
    Calls Tryz.prog 19 #[v] w fun e w' => e = .returned (.int .i64 (colsN xss : Int)) ∧ w = w' := by
  obtain ⟨a, c, rfl, h1, h2, -, hc⟩ := inCell.open h
  clear h
  cases xss with
  | nil =>
    go_enter Tryz.func19, Tryz.ntmps19
    go_wp2_with fail
    go_ret
    exact ⟨rfl, rfl⟩
  | cons r l =>
    obtain ⟨b, off, rfl, hb, hcell⟩ := hc (by simp)
    obtain ⟨vx, hvx, hcx⟩ := hcell 0 r rfl
    rw [Nat.add_zero] at hcx
    obtain ⟨ax, cx, rfl, -, -, -, -, -⟩ := Ints.open hvx
    have hz : (((r :: l).length : Int) == 0) = false := by rw [beq_eq_false_iff_ne, List.length_cons]; omega
    have hp : (0 : Int) < ((r :: l).length : Int) := by rw [List.length_cons]; omega
    have HCN : Hid (colsN (r :: l) = r.length) := rfl
    obtain ⟨n, hn⟩ : ∃ n, n = (r :: l).length := ⟨_, rfl⟩
    rw [← hn] at hz hp ⊢
    rw [HCN.out]
    clear hc hcell hvx h1 hn
    go_enter Tryz.func19, Tryz.ntmps19
    go_wp2_with fail
    go_ret
    exact ⟨rfl, rfl⟩
end Go.Proofs.YtpeinobepiodaaaGreatDoor
/- Contracts of whole.Small at any size, table.dot, table.Apply. -/
namespace Go.Proofs.YtpeinobepiodaaaGreatDoor
set_option linter.unusedVariables false
set_option linter.unusedSimpArgs false
open Go.RowKit

/-- What the laid variables give. -/
structure LibT (w : World) : Prop where
  pow : Pow10 w
  rng : ∃ te pe, w.cell? ⟨1, 0, none⟩ = some (.iface te pe)
theorem LibT.ext {w w' : World} (h : LibT w) (he : Ext w w') : LibT w' := by
  obtain ⟨te, pe, hr⟩ := h.rng
  exact ⟨h.pow.ext he, ⟨te, pe, he.cell hr⟩⟩
theorem parseInt_range (n : Int) (h : ¬ fitI n) : Lib.parseIntB 64 (intB n).data.toList = .range := by
  have := atoi_canon_range (intB_canon n).1 (by rw [(intB_canon n).2]; exact h)
  rw [Lib.parseIntB_64]; exact this
theorem parseInt_fit (n : Int) (h : fitI n) : Lib.parseIntB 64 (intB n).data.toList = .ok n := by
  have := atoi_canon_ok (intB_canon n).1 (by rw [(intB_canon n).2]; exact h)
  rw [(intB_canon n).2] at this
  rw [Lib.parseIntB_64]; exact this
set_option maxRecDepth 100000 in
theorem smallG_any (n : Int) (w : World) (hs : (intB n).size ≤ 1000000) (ht : LibT w) :
    Calls Tryz.prog 101 #[.string (intB n)] w fun e w' => e = .returned (.tuple #[.int .i64 (smV n), .bool (decide (fitI n))]) ∧ Ext w w' := by
  by_cases h : fitI n
  · have HV : Hid (smV n = n ∧ decide (fitI n) = true) := ⟨by unfold smV; rw [if_pos h], decide_eq_true h⟩
    have HP : Hid (Calls Tryz.prog 129 #[.string (intB n), .int .i64 10, .int .i64 64] w fun e w' => e = .returned (.tuple #[.int .i64 n, .nilIface]) ∧ Ext w w') :=
      (Tryz.strconv_ParseInt_10_at64_ok (intB n) (by omega) n (parseInt_fit n h) w).mono fun e w' ⟨h1, h2⟩ => ⟨h1, by
        rcases h2 with rfl | ⟨t, rfl⟩
        · exact Ext.refl _
        · exact ⟨rfl, rfl, rfl, by rw [Lib.bytesWorld_size]; omega, fun j hj => Lib.bytesWorld_at_old w _ t j hj⟩⟩
    clear h ht
    go_enter Tryz.func101, Tryz.ntmps101
    go_wp2_with fail
    refine HP.out.mono ?_
    rintro e w1 ⟨rfl, hE1⟩
    have HE1 := Lib.hid hE1
    clear hE1 HP
    go_wp2_with fail
    go_ret2
    exact ⟨by rw [HV.out.1, HV.out.2]; rfl, HE1.out⟩
  · have HV : Hid (smV n = 0 ∧ decide (fitI n) = false) := ⟨by unfold smV; rw [if_neg h], decide_eq_false h⟩
    obtain ⟨te, pe, hr⟩ := ht.rng
    have HP := Lib.hid (Tryz.strconv_ParseInt_10_at64_range (intB n) (by omega) (parseInt_range n h) _ w hr (.inr ⟨te, pe, rfl⟩))
    clear h hr ht
    go_enter Tryz.func101, Tryz.ntmps101
    go_wp2_with fail
    refine HP.out.mono ?_
    rintro e w1 ⟨N, rfl, hN, hblk, hE1⟩
    have HE1 : Hid (Ext w w1) := hE1
    clear hE1 HP hblk
    go_wp2_with fail
    go_ret2
    exact ⟨by rw [HV.out.1, HV.out.2]; rfl, HE1.out⟩

/-- The sum of the first products. -/
def dotN (f : Nat → Int × Int) : Nat → Int
  | 0 => 0
  | k + 1 => dotN f k + (f k).1 * (f k).2
theorem mul_9 {a b : Int} (h1 : -1000000000 ≤ a ∧ a ≤ 1000000000) (h2 : -1000000000 ≤ b ∧ b ≤ 1000000000) : -1000000000000000000 ≤ a * b ∧ a * b ≤ 1000000000000000000 := by
  have h : (a * b).natAbs ≤ 1000000000 * 1000000000 := by
    rw [Int.natAbs_mul]; exact Nat.mul_le_mul (by omega) (by omega)
  omega
theorem dotN_bd (f : Nat → Int × Int) (n : Nat) (hf : ∀ k, k < n → (-1000000000 ≤ (f k).1 ∧ (f k).1 ≤ 1000000000) ∧ (-1000000000 ≤ (f k).2 ∧ (f k).2 ≤ 1000000000)) : ∀ k, k ≤ n → (dotN f k).natAbs ≤ k * 1000000000000000000
  | 0, _ => by show (0 : Int).natAbs ≤ _; simp
  | k + 1, hk => by
    have ih := dotN_bd f n hf k (by omega)
    obtain ⟨h1, h2⟩ := hf k (by omega)
    have := mul_9 h1 h2
    show (dotN f k + (f k).1 * (f k).2).natAbs ≤ _
    omega
theorem intB_size_of (n : Int) (k : Nat) (h : n.natAbs < 10 ^ k) (hk : 1 ≤ k) : (intB n).size ≤ k + 1 := by
  have h1 := intB_size_le n
  have h2 := numB_size_le n.natAbs k h hk
  omega
theorem fit_sm (s : Int) : (decide (fitI s) && fitB (smV s)) = fitB s := by
  unfold smV
  by_cases h : fitI s
  · rw [if_pos h, decide_eq_true h]; rfl
  · rw [if_neg h, decide_eq_false h, Bool.false_and]
    cases hb : fitB s with
    | false => rfl
    | true => exact absurd (by have := (fitB_iff s).1 hb; unfold fitI; omega) h
theorem smV_fit {s : Int} (h : fitB s = true) : smV s = s := by
  unfold smV
  rw [if_pos (by have := (fitB_iff s).1 h; unfold fitI; omega)]
/-- What the closure gives. -/
def PairAt (g : Nat) (lb : Array Value) (n : Nat) (f : Nat → Int × Int) (w : World) : Prop :=
  ∀ (k : Nat) W, k < n → Ext w W → Calls Tryz.prog g (#[.int .i64 (k : Int)] ++ lb) W fun e W' => e = .returned (.tuple #[.int .i64 (f k).1, .int .i64 (f k).2]) ∧ Ext W W'
set_option maxRecDepth 100000 in
set_option maxHeartbeats 2000000 in
theorem dot_any (n : Nat) (g : Nat) (lb : Array Value) (f : Nat → Int × Int) (w : World) (hn : n ≤ 14) (hf : ∀ k, k < n → (-1000000000 ≤ (f k).1 ∧ (f k).1 ≤ 1000000000) ∧ (-1000000000 ≤ (f k).2 ∧ (f k).2 ≤ 1000000000))
    (eg : ∀ args w, (callFunc g args).run Tryz.prog w = .ok (.enter g args) w) (hm : PairAt g lb n f w) (ht : LibT w) :
    Calls Tryz.prog 72 #[.int .i64 (n : Int), .func (.func g) #[] lb] w fun e w' => e = .returned (.tuple #[.int .i64 (smV (dotN f n)), .bool (fitB (dotN f n))]) ∧ Ext w w' := by
  have HM := Lib.hid hm; have HT := Lib.hid ht; have HF := Lib.hid hf
  clear hm ht hf
  go_enter Tryz.func72, Tryz.ntmps72
  go_wp2_with fail
  go_loopw [13, 6] (fun t s wr => ∃ k : Nat, k ≤ n ∧ t = .int .i64 k ∧ s = .string (intB (dotN f k)) ∧ Hid (Ext w wr)) (fun t _ _ => n - (intOf t).toNat)
  case atStart => exact ⟨0, by omega, rfl, by show _ = Value.string (intB 0); rw [intB_zero], by first | exact Ext.refl _ | exact Ext.drew _⟩
  case round =>
    obtain ⟨k, hk, rfl, rfl, HE⟩ := hrel
    obtain ⟨wo, rfl⟩ : ∃ wo : World, wo = wr := ⟨_, rfl⟩
    by_cases hlt : k < n
    · have HC := Lib.hid (HM.out k wo hlt HE.out)
      obtain ⟨hb1, hb2⟩ := HF.out k hlt
      have hbs := dotN_bd f n HF.out k hk
      have HST : Hid (dotN f (k + 1) = dotN f k + (f k).1 * (f k).2) := rfl
      have hp := mul_9 hb1 hb2
      obtain ⟨a, ha⟩ : ∃ a, a = (f k).1 := ⟨_, rfl⟩
      obtain ⟨b, hb⟩ : ∃ b, b = (f k).2 := ⟨_, rfl⟩
      rw [← ha, ← hb] at HC HST hp
      rw [← ha] at hb1
      rw [← hb] at hb2
      obtain ⟨s, hs⟩ : ∃ s, s = dotN f k := ⟨_, rfl⟩
      rw [← hs] at HST hbs ⊢
      have hsz : (intB s).size ≤ 21 := intB_size_of s 20 (by rw [show (10 : Nat) ^ 20 = 100000000000000000000 by decide]; omega) (by omega)
      have hsa : (intB a).size ≤ 11 := intB_size_of a 10 (by rw [show (10 : Nat) ^ 10 = 10000000000 by decide]; omega) (by omega)
      have hsb : (intB b).size ≤ 11 := intB_size_of b 10 (by rw [show (10 : Nat) ^ 10 = 10000000000 by decide]; omega) (by omega)
      have hsp : (intB (a * b)).size ≤ 20 := intB_size_of (a * b) 19 (by rw [show (10 : Nat) ^ 19 = 10000000000000000000 by decide]; omega) (by omega)
      have H1 : Hid (∀ W, Ext w W → Calls Tryz.prog 69 #[.int .i64 a] W fun e w' => e = .returned (.string (intB a)) ∧ Ext W w') := fun W hW => of_any a W (by omega) (by omega) (HT.out.pow.ext hW)
      have H2 : Hid (∀ W, Ext w W → Calls Tryz.prog 69 #[.int .i64 b] W fun e w' => e = .returned (.string (intB b)) ∧ Ext W w') := fun W hW => of_any b W (by omega) (by omega) (HT.out.pow.ext hW)
      have H3 : Hid (∀ W, Ext w W → Calls Tryz.prog 49 #[.string (intB a), .string (intB b)] W fun e w' => e = .returned (.string (intB (a * b))) ∧ Ext W w') := fun W hW => mulI_any a b W (by omega) (by omega) (HT.out.pow.ext hW)
      have H4 : Hid (∀ W, Ext w W → Calls Tryz.prog 81 #[.string (intB s), .string (intB (a * b))] W fun e w' => e = .returned (.string (intB (s + a * b))) ∧ Ext W w') := fun W hW => addI_any s (a * b) W (by omega) (by omega) (HT.out.pow.ext hW)
      clear hs ha hb hb1 hb2 hbs hp hsz hsa hsb hsp
      go_wp2_with fail
      refine HC.out.mono ?_
      rintro e w1 ⟨rfl, hE1⟩
      have HE1 := Lib.hid (HE.out.trans hE1)
      clear hE1 HC
      go_wp2_with fail
      refine (H1.out _ HE1.out).mono ?_
      rintro e w2 ⟨rfl, hE2⟩
      have HE2 := Lib.hid (HE1.out.trans hE2)
      clear hE2
      go_wp2_with fail
      refine (H2.out _ HE2.out).mono ?_
      rintro e w3 ⟨rfl, hE3⟩
      have HE3 := Lib.hid (HE2.out.trans hE3)
      clear hE3
      go_wp2_with fail
      refine (H3.out _ HE3.out).mono ?_
      rintro e w4 ⟨rfl, hE4⟩
      have HE4 := Lib.hid (HE3.out.trans hE4)
      clear hE4
      go_wp2_with fail
      refine (H4.out _ HE4.out).mono ?_
      rintro e w5 ⟨rfl, hE5⟩
      have HE5 := Lib.hid (HE4.out.trans hE5)
      clear hE5
      go_wp2_with fail
      go_roundw
      case rel => exact ⟨k + 1, by omega, by go_num, by rw [HST.out], HE5.out⟩
      case measure => simp [intOf]; omega
    · obtain rfl : k = n := by omega
      have hbs := dotN_bd f k HF.out k hk
      obtain ⟨s, hs⟩ : ∃ s, s = dotN f k := ⟨_, rfl⟩
      rw [← hs] at hbs ⊢
      have HS0 := Lib.hid hs
      have HSM := Lib.hid (smallG_any s wo (by have := intB_size_of s 20 (by rw [show (10 : Nat) ^ 20 = 100000000000000000000 by decide]; omega) (by omega); omega) (HT.out.ext HE.out))
      have HFS := Lib.hid (fit_sm s)
      have HGR : Hid (∀ W, Calls Tryz.prog 67 #[.int .i64 (smV s)] W fun e w' => e = .returned (.bool (!fitB (smV s))) ∧ W = w') := fun W => great_any (smV s) W
      obtain ⟨v, hv⟩ : ∃ v, v = smV s := ⟨_, rfl⟩
      obtain ⟨fb, hfb⟩ : ∃ b, b = fitB s := ⟨_, rfl⟩
      rw [← hv] at HSM HFS HGR
      rw [← hfb] at HFS
      have HVV := Lib.hid hv
      have HFB := Lib.hid hfb
      clear hs hbs hv hfb
      cases hd : decide (fitI s) with
      | false =>
        rw [hd] at HSM HFS
        have HFF : Hid (fb = false) := by have := HFS.out; simp at this; exact this
        clear hd
        go_wp2_with fail
        refine HSM.out.mono ?_
        rintro e w1 ⟨rfl, hE1⟩
        have HE1 := Lib.hid (HE.out.trans hE1)
        clear hE1
        go_wp2_with fail
        go_ret2
        exact ⟨by rw [← HS0.out, ← HVV.out, ← HFB.out, HFF.out]; rfl, HE1.out⟩
      | true =>
        rw [hd, Bool.true_and] at HFS
        rw [hd] at HSM
        rw [HFS.out] at HGR
        clear hd
        go_wp2_with fail
        refine HSM.out.mono ?_
        rintro e w1 ⟨rfl, hE1⟩
        have HE1 := Lib.hid (HE.out.trans hE1)
        clear hE1
        go_wp2_with fail
        refine (HGR.out _).mono ?_
        rintro e w2 ⟨rfl, rfl⟩
        go_wp2_with fail
        go_ret2
        exact ⟨by rw [← HS0.out, ← HVV.out, ← HFB.out]; cases fb <;> rfl, HE1.out⟩
end Go.Proofs.YtpeinobepiodaaaGreatDoor
/- Contracts of table.Apply and of the reference's Apply (chapter 06). -/
namespace Go.Proofs.YtpeinobepiodaaaGreatDoor
set_option linter.unusedVariables false
set_option linter.unusedSimpArgs false
open Go.RowKit

/-- The sum of the products of a row and another one. -/
def pairL (r x : List Int) (k : Nat) : Int × Int := (r.getD k 0, x.getD k 0)
def dotL (r x : List Int) : Int := dotN (pairL r x) x.length
def apL (xss : List (List Int)) (x : List Int) : List Int := xss.map fun r => dotL r x
theorem apL_take {xss : List (List Int)} {x r : List Int} {i : Nat} (h : xss[i]? = some r) : (apL xss x).take (i + 1) = (apL xss x).take i ++ [dotL r x] := by
  unfold apL
  rw [← List.map_take, ← List.map_take, List.take_add_one, h, List.map_append]; rfl
theorem apL_len (xss : List (List Int)) (x : List Int) : (apL xss x).length = xss.length := by simp [apL]
theorem pairL_at {r x : List Int} {k : Nat} {a b : Int} (h : r[k]? = some a) (h' : x[k]? = some b) : pairL r x k = (a, b) := by
  unfold pairL; rw [List.getD_eq_getElem?_getD, List.getD_eq_getElem?_getD, h, h']; rfl
/-- Elements within the limit. -/
def Fit9 (x : List Int) : Prop := ∀ a ∈ x, -1000000000 ≤ a ∧ a ≤ 1000000000
theorem pairL_bd {r x : List Int} (hr : Fit9 r) (hx : Fit9 x) (k : Nat) : (-1000000000 ≤ (pairL r x k).1 ∧ (pairL r x k).1 ≤ 1000000000) ∧ (-1000000000 ≤ (pairL r x k).2 ∧ (pairL r x k).2 ≤ 1000000000) := by
  have key : ∀ l : List Int, Fit9 l → -1000000000 ≤ l.getD k 0 ∧ l.getD k 0 ≤ 1000000000 := by
    intro l hl
    rw [List.getD_eq_getElem?_getD]
    cases h : l[k]? with
    | none => simp
    | some a => exact hl a (List.mem_of_getElem? h)
  exact ⟨key r hr, key x hx⟩
theorem fit9_any {x : List Int} (h : x.any (fun a => !fitB a) = false) : Fit9 x := fun a ha => by
  rw [List.any_eq_false] at h
  have := h a ha
  simp at this
  exact (fitB_iff a).1 this

set_option maxRecDepth 100000 in
set_option maxHeartbeats 1000000 in
theorem apply1_any (r x : List Int) (k B1 B0 : Nat) (u v : Value) (w : World) (hr : Ints w u r) (hx : Ints w v x) (hk : k < r.length) (hk2 : k < x.length) (h1 : w.cell? ⟨B1, 0, none⟩ = some u) (h0 : w.cell? ⟨B0, 0, none⟩ = some v) :
    Calls Tryz.prog 73 #[.int .i64 (k : Int), .pointer (some ⟨B1, 0, none⟩), .pointer (some ⟨B0, 0, none⟩)] w fun e w' => e = .returned (.tuple #[.int .i64 (pairL r x k).1, .int .i64 (pairL r x k).2]) ∧ Ext w w' := by
  obtain ⟨a, c, rfl, -, -, -, -, hc⟩ := hr.open
  obtain ⟨a', c', rfl, -, -, -, -, hc'⟩ := hx.open
  obtain ⟨b, off, rfl, -, hcell⟩ := hc (by intro e; rw [e] at hk; simp at hk)
  obtain ⟨b', off', rfl, -, hcell'⟩ := hc' (by intro e; rw [e] at hk2; simp at hk2)
  obtain ⟨p, hp⟩ : ∃ p, r[k]? = some p := ⟨_, List.getElem?_eq_getElem hk⟩
  obtain ⟨q, hq⟩ : ∃ q, x[k]? = some q := ⟨_, List.getElem?_eq_getElem hk2⟩
  have g1 := hcell k p hp
  have g2 := hcell' k q hq
  have HP := Lib.hid (pairL_at hp hq)
  clear hr hx hc hc' hcell hcell' hp hq
  go_enter Tryz.func73, Tryz.ntmps73
  go_wp2_with fail
  try (go_quiet (fail); go_wp2_with fail)
  go_ret2
  exact ⟨by rw [HP.out]; rfl, by first | exact Ext.refl _ | exact Ext.drewN _ _ | exact Ext.draws (Ext.refl _) _ | exact Ext.drew _⟩

/-- The error of Apply. -/
def appE (xss : List (List Int)) (x : List Int) : Int :=
  if tabE xss = 0 then (if x.length = colsN xss then (if x.any (fun a => !fitB a) then 4 else if (apL xss x).all fitB then 0 else 4) else 5) else tabE xss
set_option maxRecDepth 100000 in
set_option maxHeartbeats 4000000 in
theorem tApply_any (xss : List (List Int)) (x : List Int) (v vx : Value) (w : World) (h : Rows2 w v xss) (hx : Ints w vx x) (ht : LibT w) :
    Calls Tryz.prog 36 #[v, vx] w fun e w' => ∃ u, e = .returned (.tuple #[u, .int .i64 (appE xss x)]) ∧ (appE xss x = 0 → Ints w' u (apL xss x)) ∧ (appE xss x ≠ 0 → u = .slice none 0 0) ∧ Ext w w' := by
  obtain ⟨AE, hAE⟩ : ∃ A, A = appE xss x := ⟨_, rfl⟩
  rw [← hAE]
  have HAE := Lib.hid hAE
  clear hAE
  have HX := Lib.hid hx; have HH := Lib.hid h; have HT := Lib.hid ht
  have HCH : Hid (∀ W, Ext w W → Calls Tryz.prog 41 #[v] W fun e w' => e = .returned (.int .i64 (tabE xss)) ∧ Ext W w') := fun W hW => tabCheck_any xss v W (h.ext hW)
  have HCO : Hid (∀ W, Ext w W → Calls Tryz.prog 43 #[v] W fun e w' => e = .returned (.int .i64 (colsN xss : Int)) ∧ w' = W) := fun W hW => (columns_any xss v W (h.ext hW)).mono fun _ _ ⟨a, b⟩ => ⟨a, b.symm⟩
  have HANY : Hid (∀ W, Ext w W → Calls Tryz.prog 66 #[vx, .func (.func 67) #[] #[]] W fun e w' => e = .returned (.bool (x.any (fun a => !fitB a))) ∧ Ext W w') := fun W hW =>
    containsRow_any x vx 67 #[] (fun x => !fitB x) W (hx.ext hW) (enters_of Tryz.func67 (by kernel_rfl) rfl) (fun W x _ _ => (great_any x W).mono fun _ _ ⟨he, hw⟩ => ⟨he, hw ▸ Ext.refl _⟩)
  obtain ⟨W1, hW1⟩ : ∃ W1, W1 = w.alloc (.cells #[vx] 51) := ⟨_, rfl⟩
  have hX1 : Ext w W1 := by rw [hW1]; exact Ext.alloc _ _
  have c1 : W1.cell? ⟨w.heap.size, 0, none⟩ = some vx := by rw [hW1, World.cell?_alloc_new]; rfl
  have HX1 := Lib.hid hX1
  have hW1' := hW1.symm
  obtain ⟨a, c, rfl, h1, h2, -, hc⟩ := inCell.open h
  obtain ⟨ax, cx, rfl, k1, k2, -, -, -⟩ := hx.open
  have HC := Lib.hid hc
  unfold maxLen at h2 k2
  obtain ⟨E, hE⟩ : ∃ E, E = tabE xss := ⟨_, rfl⟩
  rw [← hE] at HCH
  by_cases hE0 : tabE xss = 0
  · have HE0 := Lib.hid hE0
    rw [hE0] at hE
    subst hE
    obtain ⟨hl, hrr⟩ := tabE_zero hE0
    have HRR := Lib.hid hrr
    clear h hx hc ht hX1 hW1 hE0 hrr
    by_cases hsz : x.length = colsN xss
    · have q1 : ((x.length : Int) != (colsN xss : Int)) = false := by rw [hsz]; simp
      have HSZ := Lib.hid hsz
      obtain ⟨n, hn⟩ : ∃ n, n = colsN xss := ⟨_, rfl⟩
      rw [← hn] at q1 HCO
      have HN := Lib.hid hn
      cases hany : x.any (fun a => !fitB a) with
      | true =>
        rw [hany] at HANY
        have HR : Hid (AE = 4) := by unfold Hid; rw [HAE.out]; unfold appE; rw [if_pos HE0.out, if_pos hsz, hany, if_pos rfl]
        clear hsz hn hany
        go_enter Tryz.func36, Tryz.ntmps36
        go_wp2_with fail
        refine (HCH.out _ HX1.out).mono ?_
        rintro e w2 ⟨rfl, hE2⟩
        have c2 := hE2.cell c1
        have HX2 := Lib.hid (Ext.trans HX1.out hE2)
        clear hE2 c1 hW1' HCH
        go_wp2_with fail
        go_quiet ((go_at_call 43; exact Calls.quiet_of_same (HCO.out _ (Ext.draws HX2.out _))))
        obtain ⟨wq, hwq⟩ : ∃ wq, wq = w2.drewN nq := ⟨_, rfl⟩
        rw [← hwq]
        have hEQ : Ext w2 wq := by rw [hwq]; exact Ext.drewN _ _
        have HXQ := Lib.hid (Ext.trans HX2.out hEQ)
        have b1 := hEQ.cell c2
        clear hwq hEQ c2 HX2 HCO
        go_wp2_with fail
        refine (HANY.out _ HXQ.out).mono ?_
        rintro e w3 ⟨rfl, hE3⟩
        have HX3 := Lib.hid (Ext.trans HXQ.out hE3)
        clear hE3
        go_wp2_with fail
        go_ret2
        have e := HR.out; subst e
        exact ⟨_, rfl, fun h => absurd h (by decide), fun _ => rfl, HX3.out⟩
      | false =>
        rw [hany] at HANY
        have HFX := Lib.hid (fit9_any hany)
        have HR : Hid (AE = if (apL xss x).all fitB then 0 else 4) := by unfold Hid; rw [HAE.out]; unfold appE; rw [if_pos HE0.out, if_pos hsz, hany, if_neg Bool.false_ne_true]
        have hn12 : xss ≠ [] → n ≤ 12 := fun hne => by
          rw [HN.out]
          cases xss with
          | nil => exact absurd rfl hne
          | cons r l => exact (HRR.out r (by simp)).2.1
        have HN12 := Lib.hid hn12
        clear hsz hn hany hn12
        go_enter Tryz.func36, Tryz.ntmps36
        go_wp2_with fail
        refine (HCH.out _ HX1.out).mono ?_
        rintro e w2 ⟨rfl, hE2⟩
        have c2 := hE2.cell c1
        have HX2 := Lib.hid (Ext.trans HX1.out hE2)
        clear hE2 c1 hW1' HCH
        go_wp2_with fail
        go_quiet ((go_at_call 43; exact Calls.quiet_of_same (HCO.out _ (Ext.draws HX2.out _))))
        obtain ⟨wq, hwq⟩ : ∃ wq, wq = w2.drewN nq := ⟨_, rfl⟩
        rw [← hwq]
        have hEQ : Ext w2 wq := by rw [hwq]; exact Ext.drewN _ _
        have HXQ := Lib.hid (Ext.trans HX2.out hEQ)
        have b1 := hEQ.cell c2
        clear hwq hEQ c2 HX2 HCO
        go_wp2_with fail
        refine (HANY.out _ HXQ.out).mono ?_
        rintro e w3 ⟨rfl, hE3⟩
        have HX3 := Lib.hid (Ext.trans HXQ.out hE3)
        have b3 := hE3.cell b1
        have HB3 := Lib.hid b3
        clear hE3 b1 b3
        go_wp2_with fail
        go_loopw [26, 7] (fun t o wr => ∃ i : Nat, i ≤ xss.length ∧ t = .int .i64 i ∧ Hid (Ext w3 wr) ∧ Hid (Build wr w3.heap.size 3 1 o intR ((apL xss x).take i)) ∧ Hid (((apL xss x).take i).all fitB = true)) (fun t _ _ => xss.length - (intOf t).toNat)
        case atStart => exact ⟨0, by omega, rfl, Ext.refl _, Build.nil _ _ _ _ _, rfl⟩
        case round =>
          obtain ⟨i, hi, rfl, HEI, HBI, HAL⟩ := hrel
          obtain ⟨wo, rfl⟩ : ∃ wo : World, wo = wr := ⟨_, rfl⟩
          have b4 := HEI.out.cell HB3.out
          have HXO := Lib.hid (HX3.out.trans HEI.out)
          by_cases hlt : i < xss.length
          · obtain ⟨b, off, rfl, hb, hcell⟩ := HC.out (by intro e; simp [e] at hlt)
            obtain ⟨r, hr⟩ : ∃ x, xss[i]? = some x := ⟨xss[i], List.getElem?_eq_getElem hlt⟩
            obtain ⟨vr, hvr, hcr⟩ := hcell i r hr
            have HRI := Lib.hid (hvr.ext HXO.out)
            obtain ⟨ar, cr, rfl, r1, r2, -, -, -⟩ := hvr.open
            have g1 := HXO.out.cell hcr
            obtain ⟨hrl, -, hrf⟩ := HRR.out r (List.mem_of_getElem? hr)
            have hrn : r.length = n := by rw [hrl, HN.out]
            have hn12 := HN12.out (by intro e; simp [e] at hlt)
            have HAT := Lib.hid (apL_take (x := x) hr)
            have HFR : Hid (Fit9 r) := hrf
            have HRX : Hid (r.length = x.length) := by unfold Hid; rw [hrl, HSZ.out]
            have HRN := Lib.hid hrn
            obtain ⟨W2, hW2⟩ : ∃ W2, W2 = wo.alloc (.cells #[.slice none 0 0] 51) := ⟨_, rfl⟩
            have hEW : Ext wo W2 := by rw [hW2]; exact Ext.alloc _ _
            have hb2 : W2.heap[wo.heap.size]? = some (.cells #[.slice none 0 0] 51 (0, 0)) := by rw [hW2]; exact block_new _ _ _
            have d0 := block_cell hb2 0
            have f0 := block_free hb2 0
            simp only [List.getElem?_toArray, List.getElem?_cons_zero] at d0
            have hX4 : Ext wo (W2.setCell ⟨wo.heap.size, 0, none⟩ (.slice ar r.length cr)) := ((hEW.grownS (· = wo.heap.size)).store (S := (· = wo.heap.size)) rfl 0 _).belowE (fun b e => by omega) (Nat.le_refl _)
            have hb4 := block_set hb2 0 (.slice ar r.length cr)
            have d4 := block_cell hb4 0
            simp only [List.setIfInBounds_toArray, List.set_cons_zero, List.getElem?_toArray, List.getElem?_cons_zero] at d4
            have HX4 := Lib.hid hX4
            have HD4 := Lib.hid d4
            have hW2' := hW2.symm
            have hir : (i : Int) < (xss.length : Int) := by omega
            unfold maxLen at r2
            clear hcell hr hvr hcr hrl hrf hEW hb2 hX4 hb4 d4 hW2 hrn
            rw [HRN.out] at g1 r1 HX4 HD4 HRI
            go_wp2_with fail
            obtain ⟨W3, hW3⟩ : ∃ W3, W3 = W2.setCell ⟨wo.heap.size, 0, none⟩ (.slice ar n cr) := ⟨_, rfl⟩
            rw [← hW3] at HX4 HD4 ⊢
            have d3 := HD4.out
            have HDOT : Hid (Calls Tryz.prog 72 #[.int .i64 (n : Int), .func (.func 73) #[] #[.pointer (some ⟨wo.heap.size, 0, none⟩), .pointer (some ⟨w.heap.size, 0, none⟩)]] W3 fun e w' => e = .returned (.tuple #[.int .i64 (smV (dotL r x)), .bool (fitB (dotL r x))]) ∧ Ext W3 w') := by
              have := dot_any n 73 #[.pointer (some ⟨wo.heap.size, 0, none⟩), .pointer (some ⟨w.heap.size, 0, none⟩)] (pairL r x) W3 (by omega) (fun k _ => pairL_bd HFR.out HFX.out k) (enters_of Tryz.func73 (by kernel_rfl) rfl)
                (fun k W hk hW => apply1_any r x k wo.heap.size w.heap.size _ _ W ((HRI.out.ext HX4.out).ext hW) (HX.out.ext (HXO.out.trans (HX4.out.trans hW))) (by rw [HRN.out]; exact hk) (by rw [← HRX.out, HRN.out]; exact hk) (hW.cell HD4.out) (hW.cell (HX4.out.cell b4)))
                (HT.out.ext (HXO.out.trans HX4.out))
              unfold dotL
              rw [← HRX.out, HRN.out]
              exact this
            clear hW3 d0 f0 hW2' g1
            go_wp2_with fail
            refine HDOT.out.mono ?_
            rintro e w5 ⟨rfl, hE5⟩
            have HX5 := Lib.hid (HX4.out.trans hE5)
            clear hE5 d3 HDOT
            cases hf : fitB (dotL r x) with
            | false =>
              have HR4 : Hid (AE = 4) := by
                unfold Hid
                rw [HR.out, if_neg]
                rw [Bool.not_eq_true, List.all_eq_false]
                refine ⟨dotL r x, ?_, by rw [hf]; decide⟩
                exact List.mem_of_mem_take (i := i + 1) (by rw [HAT.out]; simp)
              clear hf
              go_wp2_with fail
              go_ret2
              have e := HR4.out; subst e
              exact ⟨_, rfl, fun h => absurd h (by decide), fun _ => rfl, HXO.out.trans HX5.out⟩
            | true =>
              rw [smV_fit hf]
              have HAL2 : Hid (((apL xss x).take (i + 1)).all fitB = true) := by
                unfold Hid; rw [HAT.out, List.all_append, HAL.out, List.all_cons, hf]; rfl
              have HB5 := Lib.hid (HBI.out.ext HX5.out)
              have HLL : Hid (((apL xss x).take i).length < 1000000) := by unfold Hid; rw [List.length_take, apL_len]; omega
              have hs5 : w3.heap.size ≤ w5.heap.size := Nat.le_trans HEI.out.size HX5.out.size
              have hbd := (fitB_iff _).1 hf
              have HBD : Hid (-9223372036854775808 ≤ dotL r x ∧ dotL r x ≤ 9223372036854775807) := by unfold Hid; omega
              obtain ⟨s, hs⟩ : ∃ s, s = dotL r x := ⟨_, rfl⟩
              rw [← hs] at HBD HAT ⊢
              clear hf hbd hs
              go_wp2_with (at_builtin; go_must (refine wpList_append_build _ rfl _ _ 51 rfl w3.heap.size 3 (.int .i64 0) 1 8 Tryz.underlying51 infoInt rfl (by decide) u7 intR ((apL xss x).take i) s #[.int .i64 s] 3 rfl HB5.out rfl rfl ?_ (fun _ _ => ⟨rfl, HBD.out⟩) HLL.out (by decide) hs5 ?_))
              all_goals first | (simp [Value.oneCell']; done) | skip
              intro v' w6 hB6 hg6 hb6 hs6 _
              rw [← HAT.out] at hB6
              have HB6 := Lib.hid hB6
              have HX6 : Hid (Ext w3 w6) := Below.trans (HEI.out.trans HX5.out) hb6
              clear hB6 hg6 hb6
              go_wp2_with fail
              go_roundw
              case rel => exact ⟨i + 1, by omega, by go_num, HX6.out, HB6.out, HAL2.out⟩
              case measure => simp [intOf]; omega
          · obtain rfl : i = xss.length := by omega
            have htk : (apL xss x).take xss.length = apL xss x := by rw [← apL_len xss x, List.take_length]
            rw [htk] at HBI HAL
            have HR0 : Hid (AE = 0) := by unfold Hid; rw [HR.out, if_pos HAL.out]
            have HL := Lib.hid HBI.out.list
            clear htk
            go_wp2_with fail
            go_ret2
            have e := HR0.out; subst e
            exact ⟨u7, rfl, fun _ => HL.out, fun h => absurd rfl h, HXO.out⟩
    · have q1 : ((x.length : Int) != (colsN xss : Int)) = true := by simp; omega
      have HR : Hid (AE = 5) := by unfold Hid; rw [HAE.out]; unfold appE; rw [if_pos HE0.out, if_neg hsz]
      obtain ⟨n, hn⟩ : ∃ n, n = colsN xss := ⟨_, rfl⟩
      rw [← hn] at q1 HCO
      clear hsz hn
      go_enter Tryz.func36, Tryz.ntmps36
      go_wp2_with fail
      refine (HCH.out _ HX1.out).mono ?_
      rintro e w2 ⟨rfl, hE2⟩
      have c2 := hE2.cell c1
      have HX2 := Lib.hid (Ext.trans HX1.out hE2)
      clear hE2 c1 hW1' HCH
      go_wp2_with fail
      go_quiet ((go_at_call 43; exact Calls.quiet_of_same (HCO.out _ (Ext.draws HX2.out _))))
      obtain ⟨wq, hwq⟩ : ∃ wq, wq = w2.drewN nq := ⟨_, rfl⟩
      rw [← hwq]
      have hEQ : Ext w2 wq := by rw [hwq]; exact Ext.drewN _ _
      have HXQ := Lib.hid (Ext.trans HX2.out hEQ)
      clear hwq hEQ c2 HX2 HCO
      go_wp2_with fail
      go_ret2
      have e := HR.out; subst e
      exact ⟨_, rfl, fun h => absurd h (by decide), fun _ => rfl, HXQ.out⟩
  · have hne : (E != 0) = true := by rw [hE]; simpa using hE0
    have HR : Hid (AE = E) := by unfold Hid; rw [HAE.out]; unfold appE; rw [if_neg hE0, hE]
    have HR0 : Hid (¬ AE = 0) := by unfold Hid; rw [HR.out, hE]; exact hE0
    clear h hx hc ht hX1 hW1 hE0 hE
    go_enter Tryz.func36, Tryz.ntmps36
    go_wp2_with fail
    refine (HCH.out _ HX1.out).mono ?_
    rintro e w2 ⟨rfl, hE2⟩
    have HX2 := Lib.hid (Ext.trans HX1.out hE2)
    clear hE2 c1 hW1' HCH
    go_wp2_with fail
    go_ret2
    have e := HR.out; subst e
    exact ⟨_, rfl, fun h => absurd h HR0.out, fun _ => rfl, HX2.out⟩
end Go.Proofs.YtpeinobepiodaaaGreatDoor
