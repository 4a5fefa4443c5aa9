/- The walk of RowCombines. Printed by wip/gen/combines.py. -/
import Derived.Test.YtobgghjmclagaaaDoorCombine
import Derived.Test.YtobgghjmclagaaaDoorRowAdds
import Derived.Test.YtobgghjmclagaaaDoorKnownR
namespace Go.Proofs.YtobgghjmclagaaaDoor
set_option linter.unusedVariables false
set_option linter.unusedSimpArgs false
open Go.RowKit

set_option maxRecDepth 100000 in
set_option maxHeartbeats 8000000 in
theorem combines_walk (xss : List (List Int)) (fs : List Int) (u v : Value) (w : World) (h : Rows2 w u xss) (hy : Ints w v fs) (ht : Pow10 w) :
    Calls Tryd.prog 8 #[u, v] w fun e w' => e = .returned (.bool true) ∧ Ext w w' := by
  have HX := Lib.hid h; have HY := Lib.hid hy; have HT := Lib.hid ht
  obtain ⟨a, c, rfl, hc1, hc2, -, hxc⟩ := inCell.open h
  obtain ⟨a', c', rfl, -, -, -, -, -⟩ := hy.open
  have HC := Lib.hid hxc
  clear h hy ht hxc
  unfold maxLen at hc2
  by_cases hl : 6 < xss.length ∨ 8 < fs.length
  · have hcase : (6 : Int) < (xss.length : Int) ∨ (¬ (6 : Int) < (xss.length : Int) ∧ (8 : Int) < (fs.length : Int)) := by omega
    clear hl
    rcases hcase with q1 | ⟨q1, q2⟩
    all_goals
      go_enter Tryd.func8, Tryd.ntmps8
      go_wp2_with fail
      refine (known_any _ HT.out).mono ?_
      rintro e w1 ⟨rfl, hE1⟩
      have HE1 := Lib.hid hE1
      have HT1 := Lib.hid (HT.out.ext hE1)
      clear hE1
      go_wp2_with fail
      refine (known_any _ HT1.out).mono ?_
      rintro e w2 ⟨rfl, hE2⟩
      have HE2 := Lib.hid (Ext.trans HE1.out hE2)
      clear hE2
      go_wp2_with fail
      go_ret
      exact ⟨rfl, HE2.out⟩
  · have q1 : ¬ (6 : Int) < (xss.length : Int) := by omega
    have q2 : ¬ (8 : Int) < (fs.length : Int) := by omega
    clear hl
    by_cases hpos : xss.length = 0
    · have q3 : (xss.length : Int) = 0 := by omega
      rw [hpos]
      rw [hpos] at q1
      clear hpos q3
      go_enter Tryd.func8, Tryd.ntmps8
      go_wp2_with fail
      refine (known_any _ HT.out).mono ?_
      rintro e w1 ⟨rfl, hE1⟩
      have HE1 := Lib.hid hE1
      have B1 := Lib.hid (combine_nil fs a c _ w1 (HY.out.ext hE1))
      clear hE1
      go_wp2_with fail
      refine B1.out.mono ?_
      rintro e w' ⟨rfl, rfl⟩
      clear B1
      go_wp2_with fail
      go_ret
      exact ⟨rfl, HE1.out⟩
    · obtain ⟨x0, hx0⟩ : ∃ x0, xss[0]? = some x0 := ⟨xss[0], List.getElem?_eq_getElem (by omega)⟩
      obtain ⟨b, off, rfl, hb, hcell⟩ := HC.out (by intro e; rw [e] at hpos; simp at hpos)
      have HCL := Lib.hid hcell
      obtain ⟨u0, hu0, hc0⟩ := hcell 0 x0 hx0
      obtain ⟨a0, c0, rfl, k1, k2, -, -, -⟩ := hu0.open
      rw [Nat.add_zero] at hc0
      have HC0 := Lib.hid hc0
      obtain ⟨n, hn⟩ : ∃ n, x0.length = n := ⟨_, rfl⟩
      rw [hn] at HC0 k1
      have q3 : ¬ (xss.length : Int) = 0 := by omega
      have hne : ((xss.length : Int) == 0) = false := beq_eq_false_iff_ne.2 q3
      have HX0 := Lib.hid (And.intro hx0 hn)
      unfold maxLen at k2
      have hlen6 : xss.length ≤ 6 := by omega
      have hpos' : 0 < xss.length := by omega
      have A1 := Lib.hid (fun W' he => combine_any xss fs n x0 _ _ W' (HX.out.ext (w' := W') he) (HY.out.ext he) hx0 hn (by omega))
      have A2 := Lib.hid (fun W' he => refCheck_any fs _ W' (HY.out.ext (w' := W') he))
      obtain ⟨ce, hce⟩ : ∃ ce, combE n xss fs = ce := ⟨_, rfl⟩
      have HCE := Lib.hid hce
      rw [hce] at A1
      clear hcell hu0 hc0 hx0 hn hpos hce
      go_enter Tryd.func8, Tryd.ntmps8
      go_wp2_with fail
      refine (known_any _ HT.out).mono ?_
      rintro e w1 ⟨rfl, hE1⟩
      have HE1 := Lib.hid hE1
      have B1 := Lib.hid (A1.out w1 hE1)
      clear hE1 A1
      go_wp2_with fail
      refine B1.out.mono ?_
      rintro e w2 ⟨r1, rfl, hE2, hr0, hr1⟩
      have HR1 := Lib.hid (And.intro hr0 hr1)
      have HE2 := Lib.hid (Ext.trans HE1.out hE2)
      clear hE2 B1 hr0 hr1
      go_wp2_with fail
      go_loopw [7] (fun t wr => ∃ j : Nat, j ≤ xss.length ∧ t = .int .i64 j ∧ Ext w2 wr ∧ Hid (allE n (xss.drop j) = allE n xss)) (fun t _ => xss.length - (intOf t).toNat)
      case atStart => exact ⟨0, by omega, rfl, Ext.refl _, by unfold Hid; rw [List.drop_zero]⟩
      case round =>
        obtain ⟨j, hj, rfl, hE2r, HR⟩ := hrel
        have hE := Ext.trans HE2.out hE2r
        have g0 := hE.cell HC0.out
        by_cases hlt : j < xss.length
        · obtain ⟨x, hx⟩ : ∃ x, xss[j]? = some x := ⟨xss[j], List.getElem?_eq_getElem hlt⟩
          obtain ⟨uj, huj, hcj⟩ := HCL.out j x hx
          have B2 := Lib.hid (refCheck_any x uj wr (huj.ext hE))
          obtain ⟨aj, cj, rfl, m1, m2, -, -, -⟩ := huj.open
          have g1 := hE.cell hcj
          have hd := drop_cons hx
          have hr := HR.out
          rw [hd] at hr
          clear huj hcj hx hd HR
          by_cases h10 : 10 < x.length
          · have p1 : (10 : Int) < (x.length : Int) := by omega
            clear hr h10
            go_wp2_with fail
            go_ret
            exact ⟨rfl, hE⟩
          · have p1 : ¬ (10 : Int) < (x.length : Int) := by omega
            clear h10
            by_cases he : rowE x = 0
            · rw [he] at B2
              by_cases hln : (x.length : Int) = (n : Int)
              · have HR2 : Hid (allE n (xss.drop (j + 1)) = allE n xss) := by unfold Hid; rw [← hr]; conv => { rhs; unfold allE }; rw [if_pos he, if_pos hln]
                have hb : ((x.length : Int) != (n : Int)) = false := by simp [hln]
                have hb2 : x.length = n := by omega
                rw [hb2] at g1 B2 m1 p1
                clear hr he hln hb hb2
                go_wp2_with fail
                refine B2.out.mono ?_
                rintro e w' ⟨rfl, rfl⟩
                clear B2
                go_wp2_with fail
                go_quiet (fail)
                go_wp2
                go_roundw
                case rel => exact ⟨j + 1, by omega, by go_num, Ext.draws hE2r _, HR2.out⟩
                case measure => simp [intOf]; omega
              · have hA : allE n xss = 5 := by rw [← hr]; unfold allE; rw [if_pos he, if_neg hln]
                obtain rfl : ce = 5 := by rw [← HCE.out]; unfold combE; rw [if_neg (by rw [hA]; decide), hA]
                obtain rfl := HR1.out.2 (by decide)
                have hb : ((x.length : Int) != (n : Int)) = true := by simp; omega
                clear hr he hln hA
                go_wp2_with fail
                refine B2.out.mono ?_
                rintro e w' ⟨rfl, rfl⟩
                clear B2
                go_wp2_with fail
                go_quiet (fail)
                go_wp2_with fail
                go_ret
                exact ⟨rfl, Ext.draws hE _⟩
            · have h4 : rowE x = 4 := (rowE_four x).resolve_left he
              have hA : allE n xss = 4 := by rw [← hr]; unfold allE; rw [if_neg he, h4]
              obtain rfl : ce = 4 := by rw [← HCE.out]; unfold combE; rw [if_neg (by rw [hA]; decide), hA]
              obtain rfl := HR1.out.2 (by decide)
              rw [h4] at B2
              clear hr he h4 hA
              go_wp2_with fail
              refine B2.out.mono ?_
              rintro e w' ⟨rfl, rfl⟩
              clear B2
              go_wp2_with fail
              go_quiet (fail)
              go_wp2_with fail
              go_ret
              exact ⟨rfl, Ext.draws hE _⟩
        · obtain rfl : j = xss.length := by omega
          have hA : allE n xss = 0 := by have := HR.out; rw [List.drop_length] at this; exact this.symm
          have B2 := Lib.hid (A2.out wr hE)
          clear HR A2
          by_cases hF : rowE fs = 0
          · rw [hF] at B2
            by_cases hL : xss.length = fs.length
            · have hb : ((fs.length : Int) != (xss.length : Int)) = false := by simp [hL]
              have HALL := Lib.hid (allE_zero n xss hA)
              have HCE2 : Hid (ce = if combOk n xss fs then 0 else 4) := by unfold Hid; rw [← HCE.out]; unfold combE; rw [if_pos hA, if_pos hF, if_pos (by omega)]
              have h64 : n ≤ 64 := by have := HALL.out x0 (List.mem_of_getElem? HX0.out.1); have := this.2.1; omega
              have B3 := Lib.hid (refCombine_any xss fs n _ _ wr (HX.out.ext hE) (HY.out.ext hE) (by intro e; rw [e] at hpos'; simp at hpos') (fun r hr => ⟨(HALL.out r hr).1, (HALL.out r hr).2.2⟩) ((rowE_zero fs).1 hF).2 hL.symm (by omega) h64)
              obtain ⟨ok, hok⟩ : ∃ ok, combOk n xss fs = ok := ⟨_, rfl⟩
              rw [hok] at B3 HCE2
              have HS0 : Hid (ok = true → ce = 0) := by intro e; rw [HCE2.out, e]; rfl
              have HS1 : Hid (ok = false → ¬ ce = 0) := by intro e; rw [HCE2.out, e]; decide
              have HER := Lib.hid hE2r
              clear hA hF hL hok HCE h64 HALL
              go_wp2_with fail
              refine B2.out.mono ?_
              rintro e w' ⟨rfl, rfl⟩
              clear B2
              go_wp2_with fail
              refine B3.out.mono ?_
              rintro e w5 ⟨r2, rfl, hE5, hs0, hs1⟩
              have HE5 := Lib.hid (Ext.trans hE hE5)
              have B4 := Lib.hid (same_any ok ce r1 r2 (combS n xss fs) w5 HCE2.out (fun e => ⟨((HR1.out.1 (HS0.out e)).ext HER.out).ext hE5, hs0 e⟩) (fun e => HR1.out.2 (HS1.out e)))
              clear hE5 B3 hs0 hs1
              go_wp2_with fail
              refine B4.out.mono ?_
              rintro e w6 ⟨rfl, hE6⟩
              have HE6 := Lib.hid (Ext.trans HE5.out hE6)
              clear hE6 B4
              go_wp2_with fail
              go_ret
              exact ⟨rfl, HE6.out⟩
            · obtain rfl : ce = 5 := by rw [← HCE.out]; unfold combE; rw [if_pos hA, if_pos hF, if_neg (by omega)]
              obtain rfl := HR1.out.2 (by decide)
              have hb : ((fs.length : Int) != (xss.length : Int)) = true := by simp; omega
              clear hA hF hL
              go_wp2_with fail
              refine B2.out.mono ?_
              rintro e w' ⟨rfl, rfl⟩
              clear B2
              go_wp2_with fail
              go_ret
              exact ⟨rfl, hE⟩
          · have h4 : rowE fs = 4 := (rowE_four fs).resolve_left hF
            obtain rfl : ce = 4 := by rw [← HCE.out]; unfold combE; rw [if_pos hA, if_neg hF, h4]
            obtain rfl := HR1.out.2 (by decide)
            rw [h4] at B2
            clear hA hF h4
            go_wp2_with fail
            refine B2.out.mono ?_
            rintro e w' ⟨rfl, rfl⟩
            clear B2
            go_wp2_with fail
            go_ret
            exact ⟨rfl, hE⟩
end Go.Proofs.YtobgghjmclagaaaDoor
