/- Merged: TIdn, TIdnB, TIdP, TAddR. -/
import Derived.Test.YtehknemdfbkimaaGreatDoorQBC
import Derived.Test.YtehknemdfbkimaaGreatDoorQBB
import Derived.Test.YtehknemdfbkimaaGreatDoorQBJ
import Derived.Test.YtehknemdfbkimaaGreatDoorRCAA
import Derived.Test.YtehknemdfbkimaaGreatDoorRCAB
/- Contracts of slices.Equal at []api.Int, of temperament.Identified at a right temperament. Printed by gen/tidn.py. -/
namespace Go.Proofs.YtehknemdfbkimaaGreatDoor
set_option linter.unusedVariables false
set_option linter.unusedSimpArgs false
open Go.RowKit

theorem int_same (a b : Int) : ((intB a).toList == (intB b).toList) = decide (a = b) := by rw [intB_list, intB_list, itoa_eq]
abbrev BigL (w : World) (v : Value) (xs : List Int) : Prop := ListAt 1 (inCell bigR) w v xs
theorem BigL.ext {w w' : World} {v : Value} {xs : List Int} (h : BigL w v xs) (he : Ext w w') : BigL w' v xs := ListAt.ext (fun _ _ _ _ _ h => h) h he
set_option maxRecDepth 100000 in
set_option maxHeartbeats 800000 in
theorem equalBig_any (xs ys : List Int) (u v : Value) (w : World) (h : BigL w u xs) (k : BigL w v ys) :
    Calls Tryz.prog 106 #[u, v] w fun e w' => e = .returned (.bool (xs == ys)) ∧ Ext w w' := by
  obtain ⟨a, c, rfl, h1, h2, -, hc⟩ := inCell.open h
  obtain ⟨a', c', rfl, k1, k2, -, kc⟩ := inCell.open k
  have HC := Lib.hid hc; have KC := Lib.hid kc
  clear hc kc h k
  unfold maxLen at h2 k2
  by_cases hl : xs.length = ys.length
  · have hn : ((xs.length : Int) != (ys.length : Int)) = false := by simp [hl]
    have hle1 : xs.length ≤ ys.length := by omega
    have hle2 : ys.length ≤ xs.length := by omega
    have HL := Lib.hid hl
    clear hl
    go_enter Tryz.func106, Tryz.ntmps106
    go_wp2
    go_loopw [13] (fun t wr => ∃ j : Nat, j ≤ xs.length ∧ t = .int .i64 j ∧ Ext w wr ∧ Hid (xs.take j = ys.take j)) (fun t _ => xs.length - (intOf t).toNat)
    case atStart => exact ⟨0, by omega, rfl, Ext.refl _, rfl⟩
    case round =>
      obtain ⟨j, hj, rfl, hE, HT⟩ := hrel
      by_cases hlt : j < xs.length
      · obtain ⟨b, off, rfl, hb, hcell⟩ := HC.out (by intro e; simp [e] at hlt)
        obtain ⟨b', off', rfl, hb', hcell'⟩ := KC.out (by intro e; simp [e] at hle1; simp [hle1] at hlt)
        obtain ⟨x, hx⟩ : ∃ x, xs[j]? = some x := ⟨xs[j], List.getElem?_eq_getElem hlt⟩
        obtain ⟨y, hy⟩ : ∃ y, ys[j]? = some y := ⟨ys[j]'(by omega), List.getElem?_eq_getElem _⟩
        obtain ⟨z1, e1, g1⟩ := hcell j x hx
        obtain ⟨z2, e2, g2⟩ := hcell' j y hy
        obtain rfl : z1 = .string (intB x) := e1
        obtain rfl : z2 = .string (intB y) := e2
        have g1 := hE.cell g1
        have g2 := hE.cell g2
        have q1 : (j : Int) < (xs.length : Int) := by omega
        have q2 : (j : Int) < (ys.length : Int) := by omega
        have HX := Lib.hid hx; have HY := Lib.hid hy
        have hs := int_same x y
        clear hcell hcell' hx hy
        by_cases hxy : x = y
        · rw [decide_eq_true hxy] at hs
          have hs' : ((intB x).toList != (intB y).toList) = false := by unfold bne; rw [hs]; rfl
          have HT' : Hid (xs.take (j + 1) = ys.take (j + 1)) := by
            unfold Hid; rw [List.take_add_one, List.take_add_one, HX.out, HY.out, HT.out, hxy]
          clear hxy
          go_wp2
          go_quiet (fail)
          go_wp2
          go_roundw
          case rel => exact ⟨j + 1, by omega, by go_num, Ext.draws hE _, HT'⟩
          case measure => simp [intOf]; omega
        · rw [decide_eq_false hxy] at hs
          have hs' : ((intB x).toList != (intB y).toList) = true := by unfold bne; rw [hs]; rfl
          have HF : Hid ((xs == ys) = false) := by
            unfold Hid
            rw [beq_eq_false_iff_ne]
            intro e
            have e1 := HX.out; have e2 := HY.out
            rw [e, e2] at e1
            exact hxy (by simpa using e1.symm)
          clear hxy
          go_wp2
          go_quiet (fail)
          go_wp2
          go_ret
          rw [HF.out]
          exact ⟨rfl, Ext.draws hE _⟩
      · have hge : xs.length ≤ j := by omega
        have HTr : Hid ((xs == ys) = true) := by
          unfold Hid
          have e := HT.out
          rw [List.take_of_length_le (by omega), List.take_of_length_le (by omega)] at e
          simp [e]
        go_wp2
        go_ret
        rw [HTr.out]
        exact ⟨rfl, hE⟩
  · have hn : ((xs.length : Int) != (ys.length : Int)) = true := by simp; omega
    have HF : Hid ((xs == ys) = false) := by unfold Hid; rw [beq_eq_false_iff_ne]; intro e; exact hl (by rw [e])
    clear hl
    go_enter Tryz.func106, Tryz.ntmps106
    go_wp2
    go_ret
    rw [HF.out]
    exact ⟨rfl, Ext.refl _⟩

theorem allE_two {n : Int} {x y : List Int} (h : allE n [x, y] = 0) : (okRow x ∧ (x.length : Int) = n) ∧ (okRow y ∧ (y.length : Int) = n) := ⟨allE_rows h x (by simp), allE_rows h y (by simp)⟩
set_option maxRecDepth 100000 in
set_option maxHeartbeats 8000000 in
theorem identified_any (n F : Nat) (P : List Int) (C M : List (List Int)) (x y : List Int) (v vx vy : Value) (w : World) (hV : TempV w v P C M) (hx : Ints w vx x) (hy : Ints w vy y) (hR : RightT n F P C M) (hE : allE n [x, y] = 0) (hlib : LibT w) (hp : 0 < w.heap.size) :
    Calls Tryz.prog 43 #[v, vx, vy] w fun e w' => e = .returned (.tuple #[.bool (temL M x n == temL M y n), .int .i64 0]) ∧ Ext w w' := by
  obtain ⟨⟨hox, hxl⟩, hoy, hyl⟩ := allE_two hE
  have hxl : x.length = n := by omega
  have hyl : y.length = n := by omega
  have hxb : RowLe 1000000000 x := fun z hz => by have := hox.2 z hz; omega
  have hyb : RowLe 1000000000 y := fun z hz => by have := hoy.2 z hz; omega
  have hn4 := hR.n4; have hlM := hR.lM
  have HBG := Lib.hid (fun W (hW : Ext w W) vl (hl : Rows2 W vl [x, y]) => begin_any n F P C M v vl [x, y] W (hV.ext hW) hl hR (hlib.ext hW) (Nat.lt_of_lt_of_le hp hW.size))
  rw [hE] at HBG
  have HTX := Lib.hid (fun W (hW : Ext w W) => temper_any n P C M x v vx W (hV.ext hW) (hx.ext hW) hxl (right_els hR).1 (by omega) (by omega) hxb (right_els hR).2 (hlib.pow.ext hW))
  have HTY := Lib.hid (fun W (hW : Ext w W) => temper_any n P C M y v vy W (hV.ext hW) (hy.ext hW) hyl (right_els hR).1 (by omega) (by omega) hyb (right_els hR).2 (hlib.pow.ext hW))
  have HXI := Lib.hid hx; have HYI := Lib.hid hy
  have hxo := hx; have hyo := hy
  obtain ⟨vp, vc, vm, rfl, hvp, hvc, hvm⟩ := hV
  obtain ⟨ap, cp, rfl, -⟩ := hvp.open
  obtain ⟨ac, cc, rfl, -⟩ := inCell.open hvc
  obtain ⟨am, cm, rfl, -⟩ := inCell.open hvm
  obtain ⟨ax, cx, rfl, -⟩ := hxo.open
  obtain ⟨ay, cy, rfl, -⟩ := hyo.open
  have HLX : Hid ((temL M x n).length = M.length) := by unfold Hid temL; simp
  have HLY : Hid ((temL M y n).length = M.length) := by unfold Hid temL; simp
  have HEQ := Lib.hid (fun W u v (h : BigL W u (temL M x n)) (k : BigL W v (temL M y n)) => equalBig_any _ _ u v W h k)
  obtain ⟨B, hB⟩ : ∃ B, (temL M x n == temL M y n) = B := ⟨_, rfl⟩
  rw [hB] at HEQ ⊢
  clear hvp hvc hvm hR hlib hp hx hy hxo hyo hox hoy hE hxb hyb hxl hyl hB
  go_enter Tryz.func43, Tryz.ntmps43
  obtain ⟨W1, hW1, hE1, hs1, hb1⟩ := tp_new w (.slice ap P.length cp) (.slice ac C.length cc) (.slice am M.length cm)
  have HB1 := Lib.hid hb1; have HE1 := Lib.hid hE1
  obtain ⟨b0, b1, b2, -⟩ := tp_block hb1
  clear hE1 hs1 hb1
  go_wp2_with fail
  have HL1 := Lib.hid (rows_lit2 (HXI.out.ext HE1.out) (HYI.out.ext HE1.out) 39)
  have HE2 := Lib.hid (HE1.out.trans (Ext.alloc W1 (.cells #[.slice ax x.length cx, .slice ay y.length cy] 39)))
  have HB2 := Lib.hid (block_ext HB1.out (Ext.alloc W1 (.cells #[.slice ax x.length cx, .slice ay y.length cy] 39)))
  refine (HBG.out _ HE2.out _ HL1.out).mono ?_
  rintro e w3 ⟨rfl, hE3⟩
  have HE3 := Lib.hid (HE2.out.trans hE3)
  have HB3 := Lib.hid (block_ext HB2.out hE3)
  clear hE3 HBG HB1 HE1 HB2 HE2 HL1 b0 b1 b2 hW1
  obtain ⟨b0, b1, b2, -⟩ := tp_block HB3.out
  go_upto_region 4 with fail
  refine region_anyEV (fun w' => w'.cell? ⟨w.heap.size, 0, none⟩ = some (.slice ap P.length cp) ∧ w'.cell? ⟨w.heap.size, 1, none⟩ = some (.slice ac C.length cc) ∧ w'.cell? ⟨w.heap.size, 2, none⟩ = some (.slice am M.length cm) ∧ Hid (Ext w3 w')) 9 9 (by kernel_rfl) (by kernel_rfl) ⟨(Ext.drew w3).cell b0, (Ext.drew w3).cell b1, (Ext.drew w3).cell b2, Ext.drew w3⟩ (fun ops hO hHeld => ?_)
  generalize w3.drew = wd at hHeld ⊢
  have hi := getopN hO 0 (by decide)
  conv at hi => rhs; arg 1; whnf
  refine anyE_takeV hO (v := ?_) 0 hi (by kernel_rfl) (by kernel_rfl) (by kernel_rfl) (by kernel_rfl) (fun _ _ _ h => h) (Or.inl ⟨by rfl, ?_⟩) (by assumption) ?_
  rotate_left
  · ((intro w' hSw); (try dsimp only at hSw); (try go_simp); (try with_reducible rfl))
  clear hi
  (try simp only [Act.put, List.setIfInBounds_toArray, List.set_cons_zero, List.set_cons_succ])
  have hi := getopN hO 1 (by decide)
  conv at hi => rhs; arg 1; whnf
  refine anyE_takeWV hO (v := ?_) 1 hi (by kernel_rfl) (by kernel_rfl) (by kernel_rfl) (by kernel_rfl) (fun _ _ _ h => h) (Or.inl ⟨by rfl, ?_⟩) (by assumption) ?_
  rotate_left
  · ((intro w'); (try go_simp); (try with_reducible rfl))
  clear hi
  (try simp only [Act.put, List.setIfInBounds_toArray, List.set_cons_zero, List.set_cons_succ])
  have hi := getopN hO 3 (by decide)
  conv at hi => rhs; arg 1; whnf
  refine anyE_takeV hO (v := ?_) 3 hi (by kernel_rfl) (by kernel_rfl) (by kernel_rfl) (by kernel_rfl) (fun _ _ _ h => h) (Or.inl ⟨by rfl, ?_⟩) (by assumption) ?_
  rotate_left
  · ((intro w' hSw); (try dsimp only at hSw); (try go_simp); (try with_reducible rfl))
  clear hi
  (try simp only [Act.put, List.setIfInBounds_toArray, List.set_cons_zero, List.set_cons_succ])
  have hi := getopN hO 4 (by decide)
  conv at hi => rhs; arg 1; whnf
  refine anyE_takeWV hO (v := ?_) 4 hi (by kernel_rfl) (by kernel_rfl) (by kernel_rfl) (by kernel_rfl) (fun _ _ _ h => h) (Or.inl ⟨by rfl, ?_⟩) (by assumption) ?_
  rotate_left
  · ((intro w'); (try go_simp); (try with_reducible rfl))
  clear hi
  (try simp only [Act.put, List.setIfInBounds_toArray, List.set_cons_zero, List.set_cons_succ])
  have hi := getopN hO 2 (by decide)
  conv at hi => rhs; arg 1; whnf
  refine anyE_stepV hO 2 (by kernel_rfl) hi (fun K hK => ?_)
  go_simp
  (go_at_call 107; refine (HTX.out _ (Ext.trans HE3.out (hHeld.2.2.2.out))).mono ?_)
  rintro e w4 ⟨a4, c4, rfl, ho4, hEz⟩
  have HBX := Lib.hid (bigs_list HLX.out ho4)
  clear ho4
  go_wp2_with fail
  refine hK.out _ _ ⟨(hEz).cell hHeld.1, (hEz).cell hHeld.2.1, (hEz).cell hHeld.2.2.1, Ext.trans hHeld.2.2.2.out (hEz)⟩ (fun hHeld => ?_)
  clear hK K hi
  (try simp only [Act.put, List.setIfInBounds_toArray, List.set_cons_zero, List.set_cons_succ])
  have hi := getopN hO 5 (by decide)
  conv at hi => rhs; arg 1; whnf
  refine anyE_stepV hO 5 (by kernel_rfl) hi (fun K hK => ?_)
  go_simp
  (go_at_call 107; refine (HTY.out _ (Ext.trans HE3.out (hHeld.2.2.2.out))).mono ?_)
  rintro e w5 ⟨a5, c5, rfl, ho5, hEz⟩
  have HBY := Lib.hid (bigs_list HLY.out ho5)
  have HBX := Lib.hid (BigL.ext HBX.out hEz)
  clear ho5
  go_wp2_with fail
  refine hK.out _ _ ⟨(hEz).cell hHeld.1, (hEz).cell hHeld.2.1, (hEz).cell hHeld.2.2.1, Ext.trans hHeld.2.2.2.out (hEz)⟩ (fun hHeld => ?_)
  clear hK K hi
  (try simp only [Act.put, List.setIfInBounds_toArray, List.set_cons_zero, List.set_cons_succ])
  have hi := getopN hO 6 (by decide)
  conv at hi => rhs; arg 1; whnf
  refine anyE_stepV hO 6 (by kernel_rfl) hi (fun K hK => ?_)
  go_simp
  (go_at_call 106; refine (HEQ.out _ _ _ HBX.out HBY.out).mono ?_)
  rintro e w6 ⟨rfl, hEz⟩
  go_wp2_with fail
  refine hK.out _ _ ⟨(hEz).cell hHeld.1, (hEz).cell hHeld.2.1, (hEz).cell hHeld.2.2.1, Ext.trans hHeld.2.2.2.out (hEz)⟩ (fun hHeld => ?_)
  clear hK K hi
  (try simp only [Act.put, List.setIfInBounds_toArray, List.set_cons_zero, List.set_cons_succ])
  have HZ := Lib.hid (hHeld.2.2.2.out)
  have hi := getopN hO 7 (by decide)
  conv at hi => rhs; arg 1; whnf
  refine anyE_takeWV hO (v := ?_) 7 hi (by kernel_rfl) (by kernel_rfl) (by kernel_rfl) (by kernel_rfl) (fun _ _ _ h => h) (Or.inl ⟨by rfl, ?_⟩) (by assumption) ?_
  rotate_left
  · ((intro w'); (try go_simp); (try with_reducible rfl))
  clear hi
  (try simp only [Act.put, List.setIfInBounds_toArray, List.set_cons_zero, List.set_cons_succ])
  have hi := getopN hO 8 (by decide)
  conv at hi => rhs; arg 1; whnf
  refine anyE_lastV hO 8 (by kernel_rfl) (by kernel_rfl) hi (fun K hK => ?_)
  go_simp
  refine hK.out _ _ (by assumption) ?_
  clear hK K hi hO
  (try simp only [Act.put, List.setIfInBounds_toArray, List.set_cons_zero, List.set_cons_succ])
  have HE6 := Lib.hid (HE3.out.trans HZ.out)
  go_wp2_with fail
  go_ret2
  exact ⟨rfl, HE6.out⟩
end Go.Proofs.YtehknemdfbkimaaGreatDoor
/- temperament.Identified where an interval is wrong. -/
namespace Go.Proofs.YtehknemdfbkimaaGreatDoor
set_option linter.unusedVariables false
set_option linter.unusedSimpArgs false
open Go.RowKit

set_option maxRecDepth 100000 in
set_option maxHeartbeats 4000000 in
theorem identified_bad (n F : Nat) (P : List Int) (C M : List (List Int)) (x y : List Int) (v vx vy : Value) (w : World) (hV : TempV w v P C M) (hx : Ints w vx x) (hy : Ints w vy y) (hR : RightT n F P C M) (hE : allE n [x, y] ≠ 0) (hlib : LibT w) (hp : 0 < w.heap.size) :
    Calls Tryz.prog 43 #[v, vx, vy] w fun e w' => e = .returned (.tuple #[.bool false, .int .i64 (allE n [x, y])]) ∧ Ext w w' := by
  have HBG := Lib.hid (fun W (hW : Ext w W) vl (hl : Rows2 W vl [x, y]) => begin_any n F P C M v vl [x, y] W (hV.ext hW) hl hR (hlib.ext hW) (Nat.lt_of_lt_of_le hp hW.size))
  obtain ⟨E, hEE⟩ : ∃ E, allE n [x, y] = E := ⟨_, rfl⟩
  rw [hEE] at HBG hE ⊢
  have HXI := Lib.hid hx; have HYI := Lib.hid hy
  have hxo := hx; have hyo := hy
  obtain ⟨vp, vc, vm, rfl, hvp, hvc, hvm⟩ := hV
  obtain ⟨ap, cp, rfl, -⟩ := hvp.open
  obtain ⟨ac, cc, rfl, -⟩ := inCell.open hvc
  obtain ⟨am, cm, rfl, -⟩ := inCell.open hvm
  obtain ⟨ax, cx, rfl, -⟩ := hxo.open
  obtain ⟨ay, cy, rfl, -⟩ := hyo.open
  have hz : (E != 0) = true := by simp [hE]
  clear hvp hvc hvm hR hlib hp hx hy hxo hyo hE hEE
  go_enter Tryz.func43, Tryz.ntmps43
  obtain ⟨W1, hW1, hE1, hs1, hb1⟩ := tp_new w (.slice ap P.length cp) (.slice ac C.length cc) (.slice am M.length cm)
  have HB1 := Lib.hid hb1; have HE1 := Lib.hid hE1
  obtain ⟨b0, b1, b2, -⟩ := tp_block hb1
  clear hE1 hs1 hb1
  go_wp2_with fail
  have HL1 := Lib.hid (rows_lit2 (HXI.out.ext HE1.out) (HYI.out.ext HE1.out) 39)
  have HE2 := Lib.hid (HE1.out.trans (Ext.alloc W1 (.cells #[.slice ax x.length cx, .slice ay y.length cy] 39)))
  refine (HBG.out _ HE2.out _ HL1.out).mono ?_
  rintro e w3 ⟨rfl, hE3⟩
  have HE3 := Lib.hid (HE2.out.trans hE3)
  clear hE3 HBG HB1 HE1 HE2 HL1 b0 b1 b2 hW1
  go_wp2_with fail
  go_ret2
  exact ⟨rfl, HE3.out⟩
end Go.Proofs.YtehknemdfbkimaaGreatDoor
/- Law 18, plain: equal tempered intervals, row by row; the errors of two intervals. -/
namespace Go.Proofs.YtehknemdfbkimaaGreatDoor
set_option linter.unusedVariables false
open Go.RowKit

theorem tem_all (M : List (List Int)) (x y : List Int) (n : Nat) : (temL M x n == temL M y n) = M.all fun r => dotZ r x n == dotZ r y n := by
  rw [Bool.eq_iff_iff, beq_iff_eq, List.all_eq_true]
  constructor
  · intro h r hr
    have h2 : dotZ x r n = dotZ y r n := List.map_inj_left.1 h r hr
    rw [dotZ_comm r x, dotZ_comm r y, h2]
    simp
  · intro h
    refine List.map_congr_left fun r hr => ?_
    have h2 := h r hr
    rw [beq_iff_eq] at h2
    rw [dotZ_comm x r, dotZ_comm y r]
    exact h2
theorem allE_pair (n : Int) (x y : List Int) : allE n [x, y] = if allE n [x] = 0 then allE n [y] else allE n [x] := by
  rw [allE_cons n x [y], allE_cons n x []]
  by_cases h1 : rowE x = 0
  · rw [if_pos h1, if_pos h1]
    by_cases h2 : (x.length : Int) = n
    · rw [if_pos h2, if_pos h2, if_pos (show allE n [] = 0 from rfl)]
    · rw [if_neg h2, if_neg h2, if_neg (by decide)]
  · rw [if_neg h1, if_neg h1, if_neg h1]
end Go.Proofs.YtehknemdfbkimaaGreatDoor
/- Law 18: sums of rows, as contracts for TemperamentAdds. -/
namespace Go.Proofs.YtehknemdfbkimaaGreatDoor
set_option linter.unusedVariables false
set_option linter.unusedSimpArgs false
open Go.RowKit

def addL (x y : List Int) : List Int := List.zipWith (· + ·) x y
theorem addL_len {n : Nat} {x y : List Int} (hx : x.length = n) (hy : y.length = n) : (addL x y).length = n := by unfold addL; rw [List.length_zipWith, hx, hy]; omega
theorem addL_le {A B : Nat} {x y : List Int} (hx : RowLe A x) (hy : RowLe B y) : RowLe (A + B) (addL x y) := by
  intro z hz
  obtain ⟨i, hi⟩ := List.getElem?_of_mem hz
  unfold addL at hi
  rw [List.getElem?_zipWith] at hi
  cases h1 : x[i]? with
  | none => rw [h1] at hi; simp at hi
  | some a =>
    cases h2 : y[i]? with
    | none => rw [h1, h2] at hi; simp at hi
    | some b =>
      rw [h1, h2] at hi
      simp at hi
      have ha := hx a (List.mem_of_getElem? h1)
      have hb := hy b (List.mem_of_getElem? h2)
      omega
theorem addL_getD {x y : List Int} (hl : x.length = y.length) (k : Nat) : (addL x y).getD k 0 = x.getD k 0 + y.getD k 0 := by
  unfold addL
  simp only [List.getD_eq_getElem?_getD, List.getElem?_zipWith]
  by_cases h : k < x.length
  · rw [List.getElem?_eq_getElem h, List.getElem?_eq_getElem (by omega)]; rfl
  · rw [List.getElem?_eq_none (by omega), List.getElem?_eq_none (by omega)]; rfl
theorem dotZ_add {x y : List Int} (hl : x.length = y.length) (r : List Int) : ∀ n, dotZ (addL x y) r n = dotZ x r n + dotZ y r n
  | 0 => rfl
  | n + 1 => by
    unfold dotZ
    rw [dotZ_add hl r n, addL_getD hl, Int.add_mul]
    omega
theorem temL_add {n : Nat} {x y : List Int} (hl : x.length = y.length) : ∀ M : List (List Int), temL M (addL x y) n = addL (temL M x n) (temL M y n)
  | [] => rfl
  | r :: M => by
    have h := temL_add (n := n) hl M
    unfold temL addL at h ⊢
    rw [List.map_cons, List.map_cons, List.map_cons, List.zipWith_cons_cons, h]
    congr 1
    exact dotZ_add hl r n
theorem RepR.fit {s : List Int} {k : Nat} {w w' : World} {e : Ending} (h : RepR s w e w') (hb : RowLe 1000000000 s) (hl : s.length = k) : ∃ a c, e = .returned (.tuple #[.slice a k c, .int .i64 0]) ∧ Ints w' (.slice a k c) s ∧ Ext w w' := by
  obtain ⟨h, hE⟩ := h
  rw [if_pos (List.all_eq_true.2 fun x hx => (fit9B_iff x).2 (by have := hb x hx; omega))] at h
  obtain ⟨v, rfl, hi⟩ := h
  obtain ⟨a, c, rfl, -⟩ := hi.open
  subst hl
  exact ⟨a, c, rfl, hi, hE⟩
theorem rowAdd_ok {n : Nat} {x y : List Int} (hx : x.length = n) (hy : y.length = n) (hn : n ≤ 64) (bx : RowLe 400000000 x) (by' : RowLe 400000000 y) (u v : Value) (w : World) (h : Ints w u x) (k : Ints w v y) :
    Calls Tryz.prog 69 #[u, v] w fun e w' => ∃ a c, e = .returned (.tuple #[.slice a n c, .int .i64 0]) ∧ Ints w' (.slice a n c) (addL x y) ∧ Ext w w' := by
  have e1 : rowE x = 0 := (rowE_zero _).2 (okRow_of (by omega) (bx.mono (by decide)))
  have e2 : rowE y = 0 := (rowE_zero _).2 (okRow_of (by omega) (by'.mono (by decide)))
  have e3 : rowE (addL x y) = 0 := (rowE_zero _).2 (okRow_of (by rw [addL_len hx hy]; omega) ((addL_le bx by').mono (by decide)))
  have e0 : opE (· + ·) x y = 0 := by
    unfold opE rbothE
    rw [if_pos e1, if_pos e2, if_pos (by omega)]
    exact e3
  refine (add_any x y u v w h k).mono fun e w' ⟨r, h1, h2, h3, _⟩ => ?_
  rw [e0] at h1
  have hi : Ints w' r (addL x y) := h3 e0
  obtain ⟨a, c, rfl, -⟩ := hi.open
  rw [addL_len hx hy] at h1 hi
  exact ⟨a, c, h1, hi, h2⟩
theorem allE_single {n : Nat} {x : List Int} (hl : x.length = n) (hn : n ≤ 64) (h : RowLe 1000000000 x) : allE n [x] = 0 :=
  allE_of fun r hr => by
    obtain rfl : r = x := by simpa using hr
    exact ⟨okRow_of (by omega) h, hl⟩
theorem allE_both {n : Nat} {x y : List Int} (hl : x.length = n) (hk : y.length = n) (hn : n ≤ 64) (h : RowLe 1000000000 x) (k : RowLe 1000000000 y) : allE n [x, y] = 0 := by
  rw [allE_pair, if_pos (allE_single hl hn h)]
  exact allE_single hk hn k
end Go.Proofs.YtehknemdfbkimaaGreatDoor
