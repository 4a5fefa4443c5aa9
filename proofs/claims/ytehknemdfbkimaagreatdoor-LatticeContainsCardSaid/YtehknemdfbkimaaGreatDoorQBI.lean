/- Merged: Ref9. -/
import Derived.Test.YtehknemdfbkimaaGreatDoorQAS
/- Contracts of the references of chapters 05 and 09 and of law 09's small functions: Check, Lead, Equal, checkRows, check, equal, none, short. -/
namespace Go.Proofs.YtehknemdfbkimaaGreatDoor
set_option linter.unusedVariables false
set_option linter.unusedSimpArgs false
open Go.RowKit

set_option maxHeartbeats 800000 in
theorem refCheck_any (xs : List Int) (v : Value) (w : World) (h : Ints w v xs) :
    Calls Tryz.prog 28 #[v] w fun e w' => e = .returned (.int .i64 (rowE xs)) ∧ w = w' := by
  obtain ⟨a, c, rfl, h1, h2, -, -, hc⟩ := h.open
  have HC := Lib.hid hc
  unfold maxLen at h2
  clear h hc
  by_cases hl : 64 < xs.length
  · have HQ : Hid (rowE xs = 4) := by unfold Hid rowE; rw [if_pos hl]
    have hl' : (64 : Int) < (xs.length : Int) := by omega
    go_enter Tryz.func28, Tryz.ntmps28
    go_wp2
    go_ret
    exact ⟨by rw [HQ.out]; rfl, rfl⟩
  · have HL := Lib.hid hl
    have h64 : xs.length ≤ 64 := by omega
    clear hl
    go_enter Tryz.func28, Tryz.ntmps28
    go_wp2
    go_loop [3] (fun t => ∃ j : Nat, j ≤ xs.length ∧ t = .int .i64 j ∧ Hid ((xs.drop j).any (fun n => !fitB n) = xs.any (fun n => !fitB n))) (fun t => xs.length - (intOf t).toNat)
    case atStart => exact ⟨0, by omega, rfl, by unfold Hid; rw [List.drop_zero]⟩
    case round =>
      obtain ⟨j, hj, rfl, HR⟩ := hrel
      by_cases hlt : j < xs.length
      · obtain ⟨b, off, rfl, hb, hcell⟩ := HC.out (by intro e; simp [e] at hlt)
        obtain ⟨x, hx⟩ : ∃ x, xs[j]? = some x := ⟨xs[j], List.getElem?_eq_getElem hlt⟩
        have g1 := hcell j x hx
        have hd := drop_cons hx
        have hr := HR.out
        rw [hd, List.any_cons] at hr
        clear hcell hx hd HR
        by_cases hx1 : 1000000000 < x
        · have hf : fitB x = false := by rw [Bool.eq_false_iff, ne_eq, fitB_iff]; omega
          rw [hf, Bool.not_false, Bool.true_or] at hr
          have HQ : Hid (rowE xs = 4) := by unfold Hid rowE; rw [if_neg HL.out, if_pos hr.symm]
          clear hr hf
          go_wp2
          go_ret
          exact ⟨by rw [HQ.out]; rfl, rfl⟩
        · by_cases hx2 : x < -1000000000
          · have hf : fitB x = false := by rw [Bool.eq_false_iff, ne_eq, fitB_iff]; omega
            rw [hf, Bool.not_false, Bool.true_or] at hr
            have HQ : Hid (rowE xs = 4) := by unfold Hid rowE; rw [if_neg HL.out, if_pos hr.symm]
            clear hr hf
            go_wp2
            go_ret
            exact ⟨by rw [HQ.out]; rfl, rfl⟩
          · have hf : fitB x = true := by rw [fitB_iff]; omega
            rw [hf, Bool.not_true, Bool.false_or] at hr
            have HR2 := Lib.hid hr
            clear hr hf
            go_wp2
            go_round
            case rel => exact ⟨j + 1, by omega, by go_num, HR2.out⟩
            case measure => simp [intOf]; omega
      · obtain rfl : j = xs.length := by omega
        have HQ : Hid (rowE xs = 0) := by
          have := HR.out
          rw [List.drop_length] at this
          unfold Hid rowE
          rw [if_neg HL.out, if_neg (by rw [← this]; simp)]
        clear HR
        go_wp2
        go_ret
        exact ⟨by rw [HQ.out]; rfl, rfl⟩

/-- The column of the first element that is not 0, or the length. -/
def leadN (r : List Int) : Nat := r.findIdx (· != 0)
set_option maxRecDepth 100000 in
set_option maxHeartbeats 1000000 in
theorem rLead_any (xs : List Int) (v : Value) (w : World) (h : Ints w v xs) :
    Calls Tryz.prog 22 #[v] w fun e w' => e = .returned (.int .i64 (leadN xs : Nat)) ∧ w = w' := by
  obtain ⟨a, c, rfl, h1, h2, -, -, hc⟩ := h.open
  have HC := Lib.hid hc
  unfold maxLen at h2
  clear h hc
  go_enter Tryz.func22, Tryz.ntmps22
  go_wp2
  go_loop [3] (fun t => ∃ j : Nat, j ≤ xs.length ∧ t = .int .i64 j ∧ Hid (∀ i, i < j → xs.getD i 0 = 0)) (fun t => xs.length - (intOf t).toNat)
  case atStart => exact ⟨0, by omega, rfl, fun i hi => by omega⟩
  case round =>
    obtain ⟨j, hj, rfl, HR⟩ := hrel
    by_cases hlt : j < xs.length
    · obtain ⟨b, off, rfl, hb, hcell⟩ := HC.out (by intro e; simp [e] at hlt)
      obtain ⟨x, hx⟩ : ∃ x, xs[j]? = some x := ⟨xs[j], List.getElem?_eq_getElem hlt⟩
      have g1 := hcell j x hx
      have hxd : xs.getD j 0 = x := by rw [List.getD_eq_getElem?_getD, hx]; rfl
      by_cases hx0 : x = 0
      · subst hx0
        have HR2 : Hid (∀ i, i < j + 1 → xs.getD i 0 = 0) := fun i hi => by
          by_cases e : i = j
          · rw [e]; exact hxd
          · exact HR.out i (by omega)
        clear hcell hx hxd HR
        go_wp2
        go_round
        case rel => exact ⟨j + 1, by omega, by go_num, HR2.out⟩
        case measure => simp [intOf]; omega
      · have HQ : Hid (leadN xs = j) := by
          unfold Hid leadN
          rw [List.findIdx_eq hlt]
          refine ⟨by rw [List.getElem?_eq_getElem hlt] at hx; rw [Option.some.inj hx]; simpa using hx0, fun i hi => ?_⟩
          have := HR.out i hi
          rw [List.getD_eq_getElem?_getD, List.getElem?_eq_getElem (by omega)] at this
          simpa using this
        clear hcell hx hxd HR
        go_wp2
        go_ret
        exact ⟨by rw [HQ.out]; rfl, rfl⟩
    · obtain rfl : j = xs.length := by omega
      have HQ : Hid (leadN xs = xs.length) := by
        unfold Hid leadN
        rw [List.findIdx_eq_length]
        intro x hx
        obtain ⟨i, hi⟩ := List.getElem?_of_mem hx
        have := HR.out i (List.getElem?_eq_some_iff.1 hi).1
        rw [List.getD_eq_getElem?_getD, hi] at this
        simpa using this
      clear HR
      go_wp2
      go_ret
      exact ⟨by rw [HQ.out]; rfl, rfl⟩

set_option maxRecDepth 100000 in
set_option maxHeartbeats 2000000 in
theorem rEq9_any (xs ys : List (List Int)) (u v : Value) (w : World) (h : Rows2 w u xs) (k : Rows2 w v ys) :
    Calls Tryz.prog 23 #[u, v] w fun e w' => e = .returned (.bool (xs == ys)) ∧ Ext w w' := by
  have HXS := Lib.hid h; have HYS := Lib.hid k
  obtain ⟨a, c, rfl, h1, h2, -, hc⟩ := inCell.open h
  obtain ⟨a', c', rfl, k1, k2, -, kc⟩ := inCell.open k
  have HC := Lib.hid hc; have KC := Lib.hid kc
  unfold maxLen at h2 k2
  clear h k hc kc
  by_cases hl : xs.length = ys.length
  · have hn : ((xs.length : Int) != (ys.length : Int)) = false := by simp [hl]
    have hle1 : xs.length ≤ ys.length := by omega
    have HL := Lib.hid hl
    have hle2 : ys.length ≤ xs.length := by omega
    clear hl
    go_enter Tryz.func23, Tryz.ntmps23
    go_wp2_with fail
    go_loopw [5] (fun t wr => ∃ j : Nat, j ≤ xs.length ∧ t = .int .i64 j ∧ Ext w wr ∧ Hid (xs.take j = ys.take j)) (fun t _ => xs.length - (intOf t).toNat)
    case atStart => exact ⟨0, by omega, rfl, Ext.refl _, rfl⟩
    case round =>
      obtain ⟨j, hj, rfl, hE, HT⟩ := hrel
      obtain ⟨wo, rfl⟩ : ∃ wo : World, wo = wr := ⟨_, rfl⟩
      have HE := Lib.hid hE
      by_cases hlt : j < xs.length
      · obtain ⟨b, off, rfl, hb, hcell⟩ := HC.out (by intro e; simp [e] at hlt)
        obtain ⟨b', off', rfl, hb', hcell'⟩ := KC.out (by intro e; simp [e] at hle1; simp [hle1] at hlt)
        obtain ⟨x, hx⟩ : ∃ x, xs[j]? = some x := ⟨xs[j], List.getElem?_eq_getElem hlt⟩
        obtain ⟨y, hy⟩ : ∃ y, ys[j]? = some y := ⟨ys[j]'(by omega), List.getElem?_eq_getElem _⟩
        obtain ⟨vx, hvx, hcx⟩ := hcell j x hx
        obtain ⟨vy, hvy, hcy⟩ := hcell' j y hy
        have g1 := hE.cell hcx
        have g2 := hE.cell hcy
        have q1 : (j : Int) < (xs.length : Int) := by omega
        have q2 : (j : Int) < (ys.length : Int) := by omega
        have hvx2 := hvx.ext hE; have hvy2 := hvy.ext hE
        obtain ⟨ax, cx, rfl, x1, x2, -, -, xc⟩ := hvx2.open
        obtain ⟨ay, cy, rfl, y1, y2, -, -, yc⟩ := hvy2.open
        have XC := Lib.hid xc; have YC := Lib.hid yc
        unfold maxLen at x2 y2
        have HX := Lib.hid hx; have HY := Lib.hid hy
        have HNE : Hid (x ≠ y → (xs == ys) = false) := fun hne => by
          rw [beq_eq_false_iff_ne]
          intro e
          rw [e, hy] at hx
          exact hne (Option.some.inj hx).symm
        have HNX : Hid (x = y → xs.take (j + 1) = ys.take (j + 1)) := fun e => by
          rw [List.take_add_one, List.take_add_one, HT.out, hx, hy, e]
        clear hcell hcell' hcx hcy hvx hvy hvx2 hvy2 xc yc hx hy hE
        by_cases hll : x.length = y.length
        · have hn2 : ((x.length : Int) != (y.length : Int)) = false := by simp [hll]
          have hn3 : decide ((x.length : Int) ≠ (y.length : Int)) = false := by simp [hll]
          have hy3 : x.length ≤ y.length := by omega
          have HLL := Lib.hid hll
          clear hll
          go_wp2_with fail
          go_quiet (fail)
          go_wp2_with fail
          go_loopw [6] (fun t wr => ∃ i : Nat, i ≤ x.length ∧ t = .int .i64 i ∧ Ext wo wr ∧ Hid (x.take i = y.take i)) (fun t _ => x.length - (intOf t).toNat)
          case atStart => exact ⟨0, by omega, rfl, Ext.drewN _ _, rfl⟩
          case round =>
            obtain ⟨i, hi, rfl, hEi, HTi⟩ := hrel
            obtain ⟨wi, rfl⟩ : ∃ wi : World, wi = wr := ⟨_, rfl⟩
            have HEi := Lib.hid hEi
            have g3 := hEi.cell g1; have g4 := hEi.cell g2
            by_cases hil : i < x.length
            · obtain ⟨bx, ox, rfl, -, xcell⟩ := XC.out (by intro e; simp [e] at hil)
              obtain ⟨by', oy, rfl, -, ycell⟩ := YC.out (by intro e; have h0 : y.length = 0 := (by rw [e]; rfl); omega)
              obtain ⟨p, hp⟩ : ∃ p, x[i]? = some p := ⟨x[i], List.getElem?_eq_getElem hil⟩
              obtain ⟨q, hq⟩ : ∃ q, y[i]? = some q := ⟨y[i]'(by omega), List.getElem?_eq_getElem _⟩
              have g5 := hEi.cell (xcell i p hp); have g6 := hEi.cell (ycell i q hq)
              have q3 : (i : Int) < (x.length : Int) := by omega
              have q4 : (i : Int) < (y.length : Int) := by omega
              have HNE2 : Hid (p ≠ q → x ≠ y) := fun hne e => by
                rw [e, hq] at hp
                exact hne (Option.some.inj hp).symm
              have HNX2 : Hid (p = q → x.take (i + 1) = y.take (i + 1)) := fun e => by
                rw [List.take_add_one, List.take_add_one, HTi.out, hp, hq, e]
              clear xcell ycell hp hq hEi g1 g2
              by_cases hpq : p = q
              · have HT2 := Lib.hid (HNX2.out hpq)
                subst hpq
                clear HNE2 HNX2
                go_wp2_with fail
                go_quiet (fail)
                go_wp2_with fail
                go_roundw
                case rel => exact ⟨i + 1, by omega, by go_num, HEi.out.trans (Ext.drewN _ _), HT2.out⟩
                case measure => simp [intOf]; omega
              · have HF := Lib.hid (HNE.out (HNE2.out hpq))
                clear HNE2 HNX2 HNE HNX
                go_wp2_with fail
                go_quiet (fail)
                go_wp2_with fail
                go_ret
                rw [HF.out]
                exact ⟨rfl, HE.out.trans (HEi.out.trans (Ext.drewN _ _))⟩
            · obtain rfl : i = x.length := by omega
              have HT2 : Hid (xs.take (j + 1) = ys.take (j + 1)) := HNX.out (by
                have := HTi.out
                rw [List.take_length, HLL.out, List.take_length] at this
                exact this)
              clear hEi
              go_wp2_with fail
              go_roundw
              case rel => exact ⟨j + 1, by omega, by go_num, HE.out.trans HEi.out, HT2.out⟩
              case measure => simp [intOf]; omega
        · have hn2 : ((x.length : Int) != (y.length : Int)) = true := by simp; omega
          have HF := Lib.hid (HNE.out (fun e => hll (by rw [e])))
          clear HNE HNX hll
          go_wp2_with fail
          go_quiet (fail)
          go_wp2_with fail
          go_ret
          rw [HF.out]
          exact ⟨rfl, HE.out.trans (Ext.drewN _ _)⟩
      · obtain rfl : j = xs.length := by omega
        have HT2 : Hid ((xs == ys) = true) := by
          unfold Hid
          rw [beq_iff_eq]
          have := HT.out
          rw [List.take_length, HL.out, List.take_length] at this
          exact this
        clear hE
        go_wp2_with fail
        go_ret
        rw [HT2.out]
        exact ⟨rfl, HE.out⟩
  · have hn : ((xs.length : Int) != (ys.length : Int)) = true := by simp; omega
    have HF : Hid ((xs == ys) = false) := by
      unfold Hid
      rw [beq_eq_false_iff_ne]
      intro e
      exact hl (by rw [e])
    clear hl
    go_enter Tryz.func23, Tryz.ntmps23
    go_wp2
    go_ret
    rw [HF.out]
    exact ⟨rfl, Ext.refl _⟩
end Go.Proofs.YtehknemdfbkimaaGreatDoor
