/- Merged: Ref9, Known9, RegU. -/
import Derived.Test.YtjihfabhgcfjnaaGreatDoorQAO
import Derived.Test.YtjihfabhgcfjnaaGreatDoorQAX
import Derived.Test.YtjihfabhgcfjnaaGreatDoorQAT
import Derived.Test.YtjihfabhgcfjnaaGreatDoorQAA
/- Contracts of the references of chapters 05 and 09 and of law 09's small functions: Check, Lead, Equal, checkRows, check, equal, none, short. -/
namespace Go.Proofs.YtjihfabhgcfjnaaGreatDoor
set_option linter.unusedVariables false
set_option linter.unusedSimpArgs false
open Go.RowKit

/-- The column of the first element that is not 0, or the length. -/
def leadN (r : List Int) : Nat := r.findIdx (· != 0)
set_option maxRecDepth 100000 in
set_option maxHeartbeats 1000000 in
theorem rLead_any (xs : List Int) (v : Value) (w : World) (h : Ints w v xs) :
    Calls Tryz.prog 51 #[v] w fun e w' => e = .returned (.int .i64 (leadN xs : Nat)) ∧ w = w' := by
  obtain ⟨a, c, rfl, h1, h2, -, -, hc⟩ := h.open
  have HC := Lib.hid hc
  unfold maxLen at h2
  clear h hc
  go_enter Tryz.func51, Tryz.ntmps51
  go_wp2
  go_loop [3] (fun t => ∃ j : Nat, j ≤ xs.length ∧ t = .int .i64 j ∧ Hid (∀ i, i < j → xs.getD i 0 = 0)) (fun t => xs.length - (intOf t).toNat)
  case atStart => exact ⟨0, by omega, rfl, fun i hi => by omega⟩
  case round =>
    obtain ⟨j, hj, rfl, HR⟩ := hrel
    by_cases hlt : j < xs.length
    · obtain ⟨b, off, rfl, hb, hcell⟩ := HC.out (by intro e; simp [e] at hlt)
      obtain ⟨x, hx⟩ : ∃ x, xs[j]? = some x := ⟨xs[j], List.getElem?_eq_getElem hlt⟩
      have g1 := hcell j x hx
      have hxd : xs.getD j 0 = x := by rw [List.getD_eq_getElem?_getD, hx]; rfl
      by_cases hx0 : x = 0
      · subst hx0
        have HR2 : Hid (∀ i, i < j + 1 → xs.getD i 0 = 0) := fun i hi => by
          by_cases e : i = j
          · rw [e]; exact hxd
          · exact HR.out i (by omega)
        clear hcell hx hxd HR
        go_wp2
        go_round
        case rel => exact ⟨j + 1, by omega, by go_num, HR2.out⟩
        case measure => simp [intOf]; omega
      · have HQ : Hid (leadN xs = j) := by
          unfold Hid leadN
          rw [List.findIdx_eq hlt]
          refine ⟨by rw [List.getElem?_eq_getElem hlt] at hx; rw [Option.some.inj hx]; simpa using hx0, fun i hi => ?_⟩
          have := HR.out i hi
          rw [List.getD_eq_getElem?_getD, List.getElem?_eq_getElem (by omega)] at this
          simpa using this
        clear hcell hx hxd HR
        go_wp2
        go_ret
        exact ⟨by rw [HQ.out]; rfl, rfl⟩
    · obtain rfl : j = xs.length := by omega
      have HQ : Hid (leadN xs = xs.length) := by
        unfold Hid leadN
        rw [List.findIdx_eq_length]
        intro x hx
        obtain ⟨i, hi⟩ := List.getElem?_of_mem hx
        have := HR.out i (List.getElem?_eq_some_iff.1 hi).1
        rw [List.getD_eq_getElem?_getD, hi] at this
        simpa using this
      clear HR
      go_wp2
      go_ret
      exact ⟨by rw [HQ.out]; rfl, rfl⟩

set_option maxRecDepth 100000 in
set_option maxHeartbeats 2000000 in
theorem rEq9_any (xs ys : List (List Int)) (u v : Value) (w : World) (h : Rows2 w u xs) (k : Rows2 w v ys) :
    Calls Tryz.prog 46 #[u, v] w fun e w' => e = .returned (.bool (xs == ys)) ∧ Ext w w' := by
  have HXS := Lib.hid h; have HYS := Lib.hid k
  obtain ⟨a, c, rfl, h1, h2, -, hc⟩ := inCell.open h
  obtain ⟨a', c', rfl, k1, k2, -, kc⟩ := inCell.open k
  have HC := Lib.hid hc; have KC := Lib.hid kc
  unfold maxLen at h2 k2
  clear h k hc kc
  by_cases hl : xs.length = ys.length
  · have hn : ((xs.length : Int) != (ys.length : Int)) = false := by simp [hl]
    have hle1 : xs.length ≤ ys.length := by omega
    have HL := Lib.hid hl
    have hle2 : ys.length ≤ xs.length := by omega
    clear hl
    go_enter Tryz.func46, Tryz.ntmps46
    go_wp2_with fail
    go_loopw [5] (fun t wr => ∃ j : Nat, j ≤ xs.length ∧ t = .int .i64 j ∧ Ext w wr ∧ Hid (xs.take j = ys.take j)) (fun t _ => xs.length - (intOf t).toNat)
    case atStart => exact ⟨0, by omega, rfl, Ext.refl _, rfl⟩
    case round =>
      obtain ⟨j, hj, rfl, hE, HT⟩ := hrel
      obtain ⟨wo, rfl⟩ : ∃ wo : World, wo = wr := ⟨_, rfl⟩
      have HE := Lib.hid hE
      by_cases hlt : j < xs.length
      · obtain ⟨b, off, rfl, hb, hcell⟩ := HC.out (by intro e; simp [e] at hlt)
        obtain ⟨b', off', rfl, hb', hcell'⟩ := KC.out (by intro e; simp [e] at hle1; simp [hle1] at hlt)
        obtain ⟨x, hx⟩ : ∃ x, xs[j]? = some x := ⟨xs[j], List.getElem?_eq_getElem hlt⟩
        obtain ⟨y, hy⟩ : ∃ y, ys[j]? = some y := ⟨ys[j]'(by omega), List.getElem?_eq_getElem _⟩
        obtain ⟨vx, hvx, hcx⟩ := hcell j x hx
        obtain ⟨vy, hvy, hcy⟩ := hcell' j y hy
        have g1 := hE.cell hcx
        have g2 := hE.cell hcy
        have q1 : (j : Int) < (xs.length : Int) := by omega
        have q2 : (j : Int) < (ys.length : Int) := by omega
        have hvx2 := hvx.ext hE; have hvy2 := hvy.ext hE
        obtain ⟨ax, cx, rfl, x1, x2, -, -, xc⟩ := hvx2.open
        obtain ⟨ay, cy, rfl, y1, y2, -, -, yc⟩ := hvy2.open
        have XC := Lib.hid xc; have YC := Lib.hid yc
        unfold maxLen at x2 y2
        have HX := Lib.hid hx; have HY := Lib.hid hy
        have HNE : Hid (x ≠ y → (xs == ys) = false) := fun hne => by
          rw [beq_eq_false_iff_ne]
          intro e
          rw [e, hy] at hx
          exact hne (Option.some.inj hx).symm
        have HNX : Hid (x = y → xs.take (j + 1) = ys.take (j + 1)) := fun e => by
          rw [List.take_add_one, List.take_add_one, HT.out, hx, hy, e]
        clear hcell hcell' hcx hcy hvx hvy hvx2 hvy2 xc yc hx hy hE
        by_cases hll : x.length = y.length
        · have hn2 : ((x.length : Int) != (y.length : Int)) = false := by simp [hll]
          have hn3 : decide ((x.length : Int) ≠ (y.length : Int)) = false := by simp [hll]
          have hy3 : x.length ≤ y.length := by omega
          have HLL := Lib.hid hll
          clear hll
          go_wp2_with fail
          go_quiet (fail)
          go_wp2_with fail
          go_loopw [6] (fun t wr => ∃ i : Nat, i ≤ x.length ∧ t = .int .i64 i ∧ Ext wo wr ∧ Hid (x.take i = y.take i)) (fun t _ => x.length - (intOf t).toNat)
          case atStart => exact ⟨0, by omega, rfl, Ext.drewN _ _, rfl⟩
          case round =>
            obtain ⟨i, hi, rfl, hEi, HTi⟩ := hrel
            obtain ⟨wi, rfl⟩ : ∃ wi : World, wi = wr := ⟨_, rfl⟩
            have HEi := Lib.hid hEi
            have g3 := hEi.cell g1; have g4 := hEi.cell g2
            by_cases hil : i < x.length
            · obtain ⟨bx, ox, rfl, -, xcell⟩ := XC.out (by intro e; simp [e] at hil)
              obtain ⟨by', oy, rfl, -, ycell⟩ := YC.out (by intro e; have h0 : y.length = 0 := (by rw [e]; rfl); omega)
              obtain ⟨p, hp⟩ : ∃ p, x[i]? = some p := ⟨x[i], List.getElem?_eq_getElem hil⟩
              obtain ⟨q, hq⟩ : ∃ q, y[i]? = some q := ⟨y[i]'(by omega), List.getElem?_eq_getElem _⟩
              have g5 := hEi.cell (xcell i p hp); have g6 := hEi.cell (ycell i q hq)
              have q3 : (i : Int) < (x.length : Int) := by omega
              have q4 : (i : Int) < (y.length : Int) := by omega
              have HNE2 : Hid (p ≠ q → x ≠ y) := fun hne e => by
                rw [e, hq] at hp
                exact hne (Option.some.inj hp).symm
              have HNX2 : Hid (p = q → x.take (i + 1) = y.take (i + 1)) := fun e => by
                rw [List.take_add_one, List.take_add_one, HTi.out, hp, hq, e]
              clear xcell ycell hp hq hEi g1 g2
              by_cases hpq : p = q
              · have HT2 := Lib.hid (HNX2.out hpq)
                subst hpq
                clear HNE2 HNX2
                go_wp2_with fail
                go_quiet (fail)
                go_wp2_with fail
                go_roundw
                case rel => exact ⟨i + 1, by omega, by go_num, HEi.out.trans (Ext.drewN _ _), HT2.out⟩
                case measure => simp [intOf]; omega
              · have HF := Lib.hid (HNE.out (HNE2.out hpq))
                clear HNE2 HNX2 HNE HNX
                go_wp2_with fail
                go_quiet (fail)
                go_wp2_with fail
                go_ret
                rw [HF.out]
                exact ⟨rfl, HE.out.trans (HEi.out.trans (Ext.drewN _ _))⟩
            · obtain rfl : i = x.length := by omega
              have HT2 : Hid (xs.take (j + 1) = ys.take (j + 1)) := HNX.out (by
                have := HTi.out
                rw [List.take_length, HLL.out, List.take_length] at this
                exact this)
              clear hEi
              go_wp2_with fail
              go_roundw
              case rel => exact ⟨j + 1, by omega, by go_num, HE.out.trans HEi.out, HT2.out⟩
              case measure => simp [intOf]; omega
        · have hn2 : ((x.length : Int) != (y.length : Int)) = true := by simp; omega
          have HF := Lib.hid (HNE.out (fun e => hll (by rw [e])))
          clear HNE HNX hll
          go_wp2_with fail
          go_quiet (fail)
          go_wp2_with fail
          go_ret
          rw [HF.out]
          exact ⟨rfl, HE.out.trans (Ext.drewN _ _)⟩
      · obtain rfl : j = xs.length := by omega
        have HT2 : Hid ((xs == ys) = true) := by
          unfold Hid
          rw [beq_iff_eq]
          have := HT.out
          rw [List.take_length, HL.out, List.take_length] at this
          exact this
        clear hE
        go_wp2_with fail
        go_ret
        rw [HT2.out]
        exact ⟨rfl, HE.out⟩
  · have hn : ((xs.length : Int) != (ys.length : Int)) = true := by simp; omega
    have HF : Hid ((xs == ys) = false) := by
      unfold Hid
      rw [beq_eq_false_iff_ne]
      intro e
      exact hl (by rw [e])
    clear hl
    go_enter Tryz.func46, Tryz.ntmps46
    go_wp2
    go_ret
    rw [HF.out]
    exact ⟨rfl, Ext.refl _⟩
end Go.Proofs.YtjihfabhgcfjnaaGreatDoor
/- Chapter 09's examples in law 09: known. -/
namespace Go.Proofs.YtjihfabhgcfjnaaGreatDoor
set_option linter.unusedVariables false
set_option linter.unusedSimpArgs false
open Go.RowKit

theorem k9_1 : formO 3 20 3 [[4, 2, 0], [2, 4, 0]] = some [[2, 4, 0], [0, 6, 0]] := by decide +kernel
theorem k9_2 : formO 3 20 3 [[12, 19, 28]] = some [[12, 19, 28]] := by decide +kernel
theorem k9_3 : kerS 20 3 [[2, 4, 0], [0, 6, 0]] = some [[0, 0, 1]] := by decide +kernel
theorem k9_4 : kerS 20 3 [[0, 0, 1]] = some [[1, 0, 0], [0, 1, 0]] := by decide +kernel
theorem k9_5 : kerS 20 3 [[12, 19, 28]] = some [[1, 20, -14], [0, 28, -19]] := by decide +kernel
theorem k9_6 : prodO [[2, 4, 0], [0, 6, 0]] 2 = some 12 := by decide +kernel
theorem k9_7 : prodO [[1, 0, 0], [0, 1, 0]] 2 = some 1 := by decide +kernel
theorem k9_8 : redO [[2, 4, 0], [0, 6, 0]] [5, 1, 7] 2 = some ([1, 5, 7], [2, -2]) := by decide +kernel
theorem k9_9 : latE 3 [[4, 2, 0], [2, 4, 0]] = 0 := by decide +kernel
theorem k9_10 : latE 3 [[12, 19, 28]] = 0 := by decide +kernel
theorem k9_11 : chkE 3 [[2, 4, 0], [0, 6, 0]] = 0 := by decide +kernel
theorem k9_12 : chkE 3 [[12, 19, 28]] = 0 := by decide +kernel
theorem k9_13 : rowLE 3 [[2, 4, 0], [0, 6, 0]] [5, 1, 7] = 0 := by decide +kernel
theorem k9_14 : smB 12 = true ∧ smB 1 = true ∧ smB (fdq 12 1) = true ∧ fdq 12 1 = 12 ∧ fit9B 12 = true := by decide +kernel
theorem k9_15 : (∀ r ∈ [[2, 4, 0], [0, 6, 0]], r.all smB = true) ∧ (∀ r ∈ [[12, 19, 28]], r.all smB = true) ∧ (∀ r ∈ [[1, 20, -14], [0, 28, -19]], r.all smB = true) ∧ ([1, 5, 7] : List Int).all smB = true := by decide +kernel
/-- Matrices written out. -/
theorem mat1L (w : World) (r : List Int) (n : Nat) (hn : n = r.length) (T T2 : TypeId) (hb : ∀ x ∈ r, -9223372036854775808 ≤ x ∧ x ≤ 9223372036854775807) (hl : r.length ≤ 100) (C : Array Value) (hC : C = (r.map (Value.int .i64)).toArray) :
    Rows2 ((w.alloc (.cells C T)).alloc (.cells #[.slice (some ⟨w.heap.size, 0, none⟩) n n] T2)) (.slice (some ⟨w.heap.size + 1, 0, none⟩) 1 1) [r] := by
  subst hC; subst hn
  have h1 := Ints.lit w r T (by unfold maxLen; omega) hb
  have := ListAt.lit (R := Ints) (fun _ _ _ _ he h => Ints.ext h he) (w.alloc (.cells (r.map (Value.int .i64)).toArray T)) [.slice (some ⟨w.heap.size, 0, none⟩) r.length r.length] [r] T2 rfl (by unfold maxLen; simp) (fun j u x hu hx => by
    cases j with
    | zero => simp only [List.getElem?_cons_zero, Option.some.injEq] at hu hx; subst hu; subst hx; exact h1
    | succ j => simp at hu)
  simpa using this
theorem mat2L (w : World) (r q : List Int) (n m : Nat) (hn : n = r.length) (hm : m = q.length) (T T1 T2 : TypeId) (hb : ∀ x ∈ r ++ q, -9223372036854775808 ≤ x ∧ x ≤ 9223372036854775807) (hl : r.length ≤ 100) (hl2 : q.length ≤ 100) (C D : Array Value) (hC : C = (r.map (Value.int .i64)).toArray) (hD : D = (q.map (Value.int .i64)).toArray) :
    Rows2 (((w.alloc (.cells C T)).alloc (.cells D T1)).alloc (.cells #[.slice (some ⟨w.heap.size, 0, none⟩) n n, .slice (some ⟨w.heap.size + 1, 0, none⟩) m m] T2)) (.slice (some ⟨w.heap.size + 1 + 1, 0, none⟩) 2 2) [r, q] := by
  subst hC; subst hn; subst hD; subst hm
  have h1 := (Ints.lit w r T (by unfold maxLen; omega) (fun x hx => hb x (List.mem_append_left _ hx))).ext (Ext.alloc _ (.cells (q.map (Value.int .i64)).toArray T1))
  have h2 := Ints.lit (w.alloc (.cells (r.map (Value.int .i64)).toArray T)) q T1 (by unfold maxLen; omega) (fun x hx => hb x (List.mem_append_right _ hx))
  rw [World.size_alloc] at h2
  have := ListAt.lit (R := Ints) (fun _ _ _ _ he h => Ints.ext h he) ((w.alloc (.cells (r.map (Value.int .i64)).toArray T)).alloc (.cells (q.map (Value.int .i64)).toArray T1)) [.slice (some ⟨w.heap.size, 0, none⟩) r.length r.length, .slice (some ⟨w.heap.size + 1, 0, none⟩) q.length q.length] [r, q] T2 rfl (by unfold maxLen; simp) (fun j u x hu hx => by
    match j with
    | 0 => simp only [List.getElem?_cons_zero, Option.some.injEq] at hu hx; subst hu; subst hx; exact h1
    | 1 => simp only [List.getElem?_cons_succ, List.getElem?_cons_zero, Option.some.injEq] at hu hx; subst hu; subst hx; exact h2
    | j + 2 => simp at hu)
  simpa using this

theorem LsR.fits {cols : Nat} {m : List (List Int)} {w w' : World} {e : Ending} (h : LsR cols m w e w') (hf : (m.all fun r => r.all fit9B) = true) : ∃ a c, e = .returned (.tuple #[.agg #[.int .i64 cols, .slice a m.length c], .int .i64 0]) ∧ Rows2 w' (.slice a m.length c) m ∧ Ext w w' := by
  obtain ⟨h1, h2⟩ := h
  rw [if_pos hf] at h1
  obtain ⟨v, rfl, hs⟩ := h1
  obtain ⟨a, c, rfl, -, -, -, -⟩ := inCell.open hs.now
  exact ⟨a, c, rfl, hs.now, h2⟩

set_option maxRecDepth 100000 in
set_option maxHeartbeats 4000000 in
theorem known9_any (w : World) (hlib : LibT w) (hb : 2 < w.heap.size) :
    Calls Tryz.prog 7 #[] w fun e w' => e = .returned (.bool true) ∧ Ext w w' := by
  have HO1 : Hid (∀ W v, Ext w W → Rows2 W v [[4, 2, 0], [2, 4, 0]] → Calls Tryz.prog 42 #[.int .i64 3, v] W fun e w' => ∃ a c, e = .returned (.tuple #[.agg #[.int .i64 3, .slice a 2 c], .int .i64 0]) ∧ Rows2 w' (.slice a 2 c) [[2, 4, 0], [0, 6, 0]] ∧ Ext W w') := fun W v hW hv =>
    (of_any' 3 20 _ _ v W hv k9_9 k9_1 k9_15.1 (by simp) (by simp) (hlib.ext hW) (Nat.lt_of_lt_of_le hb hW.size)).mono fun e w' h => h.fits (by decide +kernel)
  have HO2 : Hid (∀ W v, Ext w W → Rows2 W v [[12, 19, 28]] → Calls Tryz.prog 42 #[.int .i64 3, v] W fun e w' => ∃ a c, e = .returned (.tuple #[.agg #[.int .i64 3, .slice a 1 c], .int .i64 0]) ∧ Rows2 w' (.slice a 1 c) [[12, 19, 28]] ∧ Ext W w') := fun W v hW hv =>
    (of_any' 3 20 _ _ v W hv k9_10 k9_2 k9_15.2.1 (by simp) (by simp) (hlib.ext hW) (Nat.lt_of_lt_of_le hb hW.size)).mono fun e w' h => h.fits (by decide +kernel)
  have HIX : Hid (∀ W v, Ext w W → LatV W v 3 [[2, 4, 0], [0, 6, 0]] → Calls Tryz.prog 43 #[v] W fun e w' => e = .returned (.tuple #[.int .i64 12, .int .i64 0]) ∧ Ext W w') := fun W v hW hv => by
    refine (index_any 3 20 _ _ _ 12 1 v W hv k9_11 (by omega) k9_3 k9_4 (by simp) k9_6 k9_7 k9_14.1 k9_14.2.1 (by decide) k9_14.2.2.1 (by simp) (hlib.ext hW) (Nat.lt_of_lt_of_le hb hW.size)).mono fun e w' h => ?_
    unfold IdxR at h
    rw [k9_14.2.2.2.1, if_pos k9_14.2.2.2.2] at h
    exact h
  have HAN : Hid (∀ W v, Ext w W → LatV W v 3 [[12, 19, 28]] → Calls Tryz.prog 44 #[v] W fun e w' => ∃ a c, e = .returned (.tuple #[.agg #[.int .i64 3, .slice a 2 c], .int .i64 0]) ∧ Rows2 w' (.slice a 2 c) [[1, 20, -14], [0, 28, -19]] ∧ Ext W w') := fun W v hW hv =>
    (ann_any 3 20 _ _ k9_5 v W hv k9_12 (by omega) k9_15.2.2.1 (by simp) (by simp) (hlib.ext hW) (Nat.lt_of_lt_of_le hb hW.size)).mono fun e w' h => h.fits (by decide +kernel)
  have HRP : Hid (∀ W v vx, Ext w W → LatV W v 3 [[2, 4, 0], [0, 6, 0]] → Ints W vx [5, 1, 7] → Calls Tryz.prog 45 #[v, vx] W fun e w' => ∃ a c, e = .returned (.tuple #[.slice a 3 c, .int .i64 0]) ∧ Ints w' (.slice a 3 c) [1, 5, 7] ∧ Ext W w') := fun W v vx hW hv hx => by
    refine (repr_any 3 _ _ _ _ v vx W hv hx k9_13 k9_8 k9_15.2.2.2 (hlib.ext hW) (Nat.lt_of_lt_of_le hb hW.size)).mono fun e w' h => ?_
    obtain ⟨h1, h2⟩ := h
    rw [if_pos (by decide +kernel)] at h1
    obtain ⟨u, rfl, hu⟩ := h1
    obtain ⟨a, c, rfl, -, -, -, -, -⟩ := hu.open
    exact ⟨a, c, rfl, hu, h2⟩
  clear hlib hb
  go_enter Tryz.func7, Tryz.ntmps7
  have hm1 := mat2L w [4, 2, 0] [2, 4, 0] 3 3 rfl rfl 3 3 37 (by decide) (by decide) (by decide) #[.int .i64 4, .int .i64 2, .int .i64 0] #[.int .i64 2, .int .i64 4, .int .i64 0] rfl rfl
  have HM1 := Lib.hid hm1
  clear hm1
  go_wp2_with fail
  refine (HO1.out _ _ ((Ext.alloc _ _).trans ((Ext.alloc _ _).trans (Ext.alloc _ _))) HM1.out).mono ?_
  rintro e w1 ⟨a1, c1, rfl, hR1, hE1⟩
  have HE1 := Lib.hid (((Ext.alloc w (.cells #[.int .i64 4, .int .i64 2, .int .i64 0] 3)).trans ((Ext.alloc _ _).trans (Ext.alloc _ _))).trans hE1)
  have HR1 := Lib.hid hR1
  clear hE1 hR1 HM1 HO1
  obtain ⟨V1, hV1, hX1, hs1, hb1⟩ := lat_new w1 (.int .i64 0) (.slice none 0 0)
  obtain ⟨r0, r1, rf⟩ := lat_block hb1
  have f0 := rf 0; have f1 := rf 1
  have HB1 := Lib.hid (lat_store hb1 (.int .i64 3) (.slice a1 2 c1))
  have HX1 := Lib.hid (ext_lat hX1 (Nat.le_refl _) (.int .i64 3) (.slice a1 2 c1))
  clear hX1 hs1 hb1 rf
  obtain ⟨U1, hU1⟩ : ∃ U1, (V1.setCell ⟨w1.heap.size, 0, none⟩ (.int .i64 3)).setCell ⟨w1.heap.size, 1, none⟩ (.slice a1 2 c1) = U1 := ⟨_, rfl⟩
  rw [hU1] at HB1 HX1
  obtain ⟨s0, s1, -⟩ := lat_block HB1.out
  have HEU1 := Lib.hid (HE1.out.trans HX1.out)
  have HRU1 := Lib.hid (HR1.out.ext HX1.out)
  go_wp2_with fail
  clear hU1 hV1 r0 r1 f0 f1
  refine (HIX.out _ _ HEU1.out ⟨_, rfl, HRU1.out⟩).mono ?_
  rintro e w2 ⟨rfl, hE2⟩
  have HB2 := Lib.hid (block_ext HB1.out hE2)
  have HR2 := Lib.hid (HRU1.out.ext hE2)
  have HE2 := Lib.hid (HEU1.out.trans hE2)
  clear hE2 HIX s0 s1
  have hm2 := mat1L w2 [12, 19, 28] 3 rfl 3 37 (by decide) (by decide) #[.int .i64 12, .int .i64 19, .int .i64 28] rfl
  have HM2 := Lib.hid hm2
  clear hm2
  go_wp2_with fail
  refine (HO2.out _ _ (HE2.out.trans ((Ext.alloc _ _).trans (Ext.alloc _ _))) HM2.out).mono ?_
  rintro e w3 ⟨a3, c3, rfl, hR3, hE3⟩
  have HX3 : Hid (Ext w2 w3) := ((Ext.alloc w2 (.cells #[.int .i64 12, .int .i64 19, .int .i64 28] 3)).trans (Ext.alloc _ _)).trans hE3
  have HR3 := Lib.hid hR3
  clear hE3 hR3 HM2 HO2
  obtain ⟨V3, hV3, hX3, hs3, hb3⟩ := lat_new w3 (.int .i64 0) (.slice none 0 0)
  obtain ⟨r0, r1, rf⟩ := lat_block hb3
  have f0 := rf 0; have f1 := rf 1
  have HB3 := Lib.hid (lat_store hb3 (.int .i64 3) (.slice a3 1 c3))
  have HY3 := Lib.hid (ext_lat hX3 (Nat.le_refl _) (.int .i64 3) (.slice a3 1 c3))
  clear hX3 hs3 hb3 rf
  obtain ⟨U3, hU3⟩ : ∃ U3, (V3.setCell ⟨w3.heap.size, 0, none⟩ (.int .i64 3)).setCell ⟨w3.heap.size, 1, none⟩ (.slice a3 1 c3) = U3 := ⟨_, rfl⟩
  rw [hU3] at HB3 HY3
  obtain ⟨s0, s1, -⟩ := lat_block HB3.out
  have HEU3 := Lib.hid (HE2.out.trans (HX3.out.trans HY3.out))
  have HRU3 := Lib.hid (HR3.out.ext HY3.out)
  have HB13 := Lib.hid (block_ext HB2.out (HX3.out.trans HY3.out))
  have HR13 := Lib.hid (HR2.out.ext (HX3.out.trans HY3.out))
  go_wp2_with fail
  clear hU3 hV3 r0 r1 f0 f1
  refine (HAN.out _ _ HEU3.out ⟨_, rfl, HRU3.out⟩).mono ?_
  rintro e w4 ⟨a4, c4, rfl, hR4, hE4⟩
  have HR4 := Lib.hid hR4; have HX4 := Lib.hid hE4
  clear hE4 hR4 HAN s0 s1
  obtain ⟨V4, hV4, hX4, hs4, hb4⟩ := lat_new w4 (.int .i64 0) (.slice none 0 0)
  obtain ⟨r0, r1, rf⟩ := lat_block hb4
  have f0 := rf 0; have f1 := rf 1
  have HB4 := Lib.hid (lat_store hb4 (.int .i64 3) (.slice a4 2 c4))
  have HY4 := Lib.hid (ext_lat hX4 (Nat.le_refl _) (.int .i64 3) (.slice a4 2 c4))
  clear hX4 hs4 hb4 rf
  obtain ⟨U4, hU4⟩ : ∃ U4, (V4.setCell ⟨w4.heap.size, 0, none⟩ (.int .i64 3)).setCell ⟨w4.heap.size, 1, none⟩ (.slice a4 2 c4) = U4 := ⟨_, rfl⟩
  rw [hU4] at HB4 HY4
  have HEU4 := Lib.hid (HEU3.out.trans (HX4.out.trans HY4.out))
  have HRU4 := Lib.hid (HR4.out.ext HY4.out)
  have HB14 := Lib.hid (block_ext HB13.out (HX4.out.trans HY4.out))
  have HR14 := Lib.hid (HR13.out.ext (HX4.out.trans HY4.out))
  obtain ⟨p0, p1, -⟩ := lat_block HB14.out
  have hx5 := Ints.lit U4 [5, 1, 7] 3 (by unfold maxLen; decide) (by decide)
  have HX5 := Lib.hid hx5
  have e5 : ([5, 1, 7] : List Int).map (Value.int .i64) = [.int .i64 5, .int .i64 1, .int .i64 7] := rfl
  rw [e5] at HX5
  clear hx5 e5
  go_wp2_with fail
  clear hU4 hV4 r0 r1 f0 f1
  refine (HRP.out _ _ _ (HEU4.out.trans (Ext.alloc _ _)) ⟨_, rfl, HR14.out.ext (Ext.alloc _ _)⟩ HX5.out).mono ?_
  rintro e w6 ⟨a6, c6, rfl, hI6, hE6⟩
  have HX6 : Hid (Ext U4 w6) := (Ext.alloc U4 (.cells #[.int .i64 5, .int .i64 1, .int .i64 7] 3)).trans hE6
  obtain ⟨-, k6, k6', -, hcell⟩ := hI6.cells
  obtain ⟨b6, o6, rfl, -, hce⟩ := hcell (by simp)
  have v0 := hce 0 1 rfl; have v1 := hce 1 5 rfl; have v2 := hce 2 7 rfl
  rw [Nat.add_zero] at v0
  unfold maxLen at k6'
  have HB16 := Lib.hid (block_ext HB14.out HX6.out)
  have HB46 := Lib.hid (block_ext HB4.out HX6.out)
  have HR16 := Lib.hid (HR14.out.ext HX6.out)
  have HR46 := Lib.hid (HRU4.out.ext HX6.out)
  have HE6 := Lib.hid (HEU4.out.trans HX6.out)
  clear hI6 hE6 hcell hce HRP p0 p1 HX5
  obtain ⟨p0, p1, -⟩ := lat_block HB16.out
  obtain ⟨q0, q1, -⟩ := lat_block HB46.out
  have hm7 := mat2L w6 [2, 4, 0] [0, 6, 0] 3 3 rfl rfl 3 3 37 (by decide) (by decide) (by decide) #[.int .i64 2, .int .i64 4, .int .i64 0] #[.int .i64 0, .int .i64 6, .int .i64 0] rfl rfl
  have HQ7 := Lib.hid (rEq9_any [[2, 4, 0], [0, 6, 0]] [[2, 4, 0], [0, 6, 0]] _ _ _ (HR16.out.ext ((Ext.alloc _ _).trans ((Ext.alloc _ _).trans (Ext.alloc _ _)))) hm7)
  have hbt : (([[2, 4, 0], [0, 6, 0]] : List (List Int)) == [[2, 4, 0], [0, 6, 0]]) = true := by decide
  rw [hbt] at HQ7
  clear hm7 hbt
  go_wp2_with fail
  refine HQ7.out.mono ?_
  rintro e w8 ⟨rfl, hE8⟩
  have HX8 : Hid (Ext w6 w8) := ((Ext.alloc w6 (.cells #[.int .i64 2, .int .i64 4, .int .i64 0] 3)).trans ((Ext.alloc _ _).trans (Ext.alloc _ _))).trans hE8
  have y0 := HX8.out.cell q0; have y1 := HX8.out.cell q1
  have u0 := HX8.out.cell v0; have u1 := HX8.out.cell v1; have u2 := HX8.out.cell v2
  clear hE8 HQ7 p0 p1 q0 q1 v0 v1 v2
  have hm9 := mat2L w8 [1, 20, -14] [0, 28, -19] 3 3 rfl rfl 3 3 37 (by decide) (by decide) (by decide) #[.int .i64 1, .int .i64 20, .int .i64 (-14)] #[.int .i64 0, .int .i64 28, .int .i64 (-19)] rfl rfl
  have HQ9 := Lib.hid (rEq9_any [[1, 20, -14], [0, 28, -19]] [[1, 20, -14], [0, 28, -19]] _ _ _ ((HR46.out.ext HX8.out).ext ((Ext.alloc _ _).trans ((Ext.alloc _ _).trans (Ext.alloc _ _)))) hm9)
  have hbt : (([[1, 20, -14], [0, 28, -19]] : List (List Int)) == [[1, 20, -14], [0, 28, -19]]) = true := by decide
  rw [hbt] at HQ9
  clear hm9 hbt
  go_wp2_with fail
  refine HQ9.out.mono ?_
  rintro e w10 ⟨rfl, hE10⟩
  have HX10 : Hid (Ext w8 w10) := ((Ext.alloc w8 (.cells #[.int .i64 1, .int .i64 20, .int .i64 (-14)] 3)).trans ((Ext.alloc _ _).trans (Ext.alloc _ _))).trans hE10
  have x0 := HX10.out.cell u0; have x1 := HX10.out.cell u1; have x2 := HX10.out.cell u2
  clear hE10 HQ9 y0 y1 u0 u1 u2
  go_wp2_with fail
  go_ret
  exact ⟨rfl, HE6.out.trans (HX8.out.trans HX10.out)⟩
end Go.Proofs.YtjihfabhgcfjnaaGreatDoor
/- Long regions that draw their order and only read: the operations in the text's order, their array a variable; the condition on the world holds throughout. -/
namespace Go.Proofs.YtjihfabhgcfjnaaGreatDoor
set_option linter.unusedVariables false
open Go.RowKit
section
variable {P : Program} {ops : Array Oper} {Q : Exit → Act → World → Prop} {md : Region.Mode} {S : World → Prop} {z : Nat}
/-- As anyE_first; z is none of the operations. -/
theorem anyE_firstN {i : Nat} {oi : Oper} {v : Value} (hi : ops[i]? = some oi) (hsel : ∀ (j : Nat) (o : Oper) cs b, ops[j]? = some o → o.op ≠ .select cs b)
    (hQ : ∀ c a w, Q (.panic c) (a.put oi.dst v) w → Q (.panic c) a w) (f : Nat) :
    ∀ (l : Array Bool) (a : Act) (w : World), l.size ≤ z →
      (∀ j oj, ops[j]? = some oj → j ≠ i → l.getD j true = false → (∀ e ∈ oj.after, Region.binds md e = true → e.on ≠ i) → oi.apart ops oj = true) →
      i ∈ Region.ready md ops l → YieldsIf P ops S oi v a → S w →
      anyE P md ops Q S z f (l.setIfInBounds i true) (a.put oi.dst v) w → anyE P md ops Q S z (f + 1) l a w := by
  induction f with
  | zero =>
    intro l a w _ _ hr hy hS H
    refine ⟨(fun e => by rw [e] at hr; cases hr), fun j hj => ?_⟩
    by_cases e : j = i
    · rw [e]; exact hy.wpOp hi hS ⟨fun _ => hS, H⟩
    · have := ready_mono hj e
      rw [H.1] at this
      cases this
  | succ f ih =>
    intro l a w hlz hfree hr hy hS H
    refine ⟨(fun e => by rw [e] at hr; cases hr), fun j hj => ?_⟩
    by_cases e : j = i
    · rw [e]; exact hy.wpOp hi hS ⟨fun _ => hS, H⟩
    have hji : i ≠ j := fun x => e x.symm
    have un := (mem_ready.1 hj).1
    obtain ⟨oj, hoj, hall⟩ := (mem_ready.1 hj).2
    have ui := (mem_ready.1 hr).1
    have uf : l.getD i false = true → False := fun hc => by rw [not_listed ui] at hc; cases hc
    have hout : ∀ l' : Array Bool, l'.size ≤ z → l'.getD z false = false := fun l' h => by simp [Array.getElem?_eq_none h]
    have hno : ∀ d ∈ oj.after, Region.binds md d = true → d.on ≠ i := fun d hd hb hdi => uf (by have := hall d hd hb; rwa [hdi] at this)
    have step := wpOp_putIf hoj (hfree j oj hoj e un hno) (fun cs b => hsel i oi cs b hi) (fun cs b => hsel j oj cs b hoj) hQ hy (H.2 j (ready_mono hj e))
    refine wpOp_mono (fun b u hb => ?_) step
    obtain ⟨hy2, hS2, hrest⟩ := hb
    have hSu : S u := hS2 (hout _ (by simpa using hlz))
    refine ⟨fun _ => hSu, ih (l.setIfInBounds j true) b u (by simpa using hlz) (fun k ok hk hki hun hn => ?_) (ready_mono hr hji) hy2 hSu ?_⟩
    · refine hfree k ok hk hki ?_ hn
      by_cases hjk : j = k
      · rw [← hjk]; exact un
      · rw [getD_set_ne true hjk] at hun; exact hun
    · rw [Array.setIfInBounds_comm _ _ e]; exact hrest
theorem anyE_takeN (i : Nat) {oi : Oper} {v : Value} {f : Nat} {l : Array Bool} {a : Act} {w : World} (hi : ops[i]? = some oi)
    (hs : Region.noSelect ops = true) (hf : Region.free md ops l i = true) (hr : (Region.ready md ops l).contains i = true) (hz : l.size ≤ z)
    (hQ : ∀ c a w, Q (.panic c) (a.put oi.dst v) w → Q (.panic c) a w) (hy : YieldsIf P ops S oi v a) (hS : S w)
    (h : anyE P md ops Q S z f (l.setIfInBounds i true) (a.put oi.dst v) w) : anyE P md ops Q S z (f + 1) l a w :=
  anyE_firstN hi (Region.noSelect_spec hs) hQ f l a w hz (Region.free_spec hi hf) (by simpa using hr) hy hS h
/-- The last one; S holds behind it too. -/
theorem anyE_lastN (i : Nat) {o : Oper} {f : Nat} {l : Array Bool} {a : Act} {w : World} (hr : Region.ready md ops l = [i]) (hr2 : Region.ready md ops (l.setIfInBounds i true) = []) (ho : ops[i]? = some o)
    (h : ∀ K : Act → World → Prop, Shut (∀ b u, S u → Q .normal b u → K b u) → if Region.wanted o (yielded ops a.tmps) = true then Oper.wp P o a w K Q else K (a.put o.dst undef) w) : anyE P md ops Q S z (f + 1) l a w := by
  refine ⟨(fun e => by rw [hr] at e; cases e), fun j hj => ?_⟩
  obtain rfl : j = i := by rw [hr] at hj; simpa using hj
  refine wpOp_step ho fun K hK => h K fun b u hS hq => hK b u ⟨fun _ => hS, ?_⟩
  cases f with
  | zero => exact ⟨hr2, hq⟩
  | succ f => exact ⟨fun _ => hq, by rw [hr2]; simp⟩
end
section
variable {P : Program} {ops O : Array Oper} {Q : Exit → Act → World → Prop} {md : Region.Mode} {S : World → Prop} {z n : Nat}
theorem getopN (hO : Hid (ops = O)) (i : Nat) (h : i < O.size) : ops[i]? = some O[i] := by
  have hO : ops = O := hO
  subst hO
  exact Array.getElem?_eq_getElem h
end
end Go.Proofs.YtjihfabhgcfjnaaGreatDoor
