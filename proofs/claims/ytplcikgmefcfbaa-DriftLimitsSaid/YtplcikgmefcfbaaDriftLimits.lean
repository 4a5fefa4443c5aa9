/- The walk of DriftLimits. -/
import Derived.Test.YtplcikgmefcfbaaLawC
import Derived.Test.YtplcikgmefcfbaaLawS
import Derived.Test.YtplcikgmefcfbaaLimPlain
import Derived.OpenShut
namespace Go.Proofs.Ytplcikgmefcfbaa
set_option linter.unusedVariables false
set_option linter.unusedSimpArgs false
open Go.RowKit

theorem infoRows : (Try.prog.info? 31).map (fun i => (i.zero, i.size, i.bytes)) = some (some (.slice none 0 0), 1, 24) := by kernel_rfl
theorem infoLinks : (Try.prog.info? 34).map (fun i => (i.zero, i.size, i.bytes)) = some (some (.slice none 0 0), 1, 24) := by kernel_rfl

theorem rep_snoc {α : Type} (n : Nat) (x : α) : List.replicate (n + 1) x = List.replicate n x ++ [x] := List.replicate_succ'

set_option maxRecDepth 100000 in
set_option maxHeartbeats 4000000 in
theorem limits_walk (a b : Int) (c : Int) (w0 : (Lit.int .i16 a).wf = true) (w1 : (Lit.int .i16 b).wf = true) (w2 : (Lit.int .u8 c).wf = true) (w : World) :
    Calls Try.prog 3 #[.int .i16 a, .int .i16 b, .int .u8 c] w fun e w' => e = .returned (.bool true) ∧ Ext w w' := by
  have ha := bounds_i16 w0
  have hb := bounds_i16 w1
  have hc := bounds_u8 w2
  obtain ⟨ha1, ha2⟩ := ha; obtain ⟨hb1, hb2⟩ := hb; obtain ⟨hc1, hc2⟩ := hc
  clear w0 w1 w2
  obtain ⟨p, hp, hp1, hp2⟩ : ∃ p, a.tmod 1001 = p ∧ -1000 ≤ p ∧ p ≤ 1000 := ⟨_, rfl, by have := tmod_bd a 1001 (by omega); omega, by have := tmod_bd a 1001 (by omega); omega⟩
  obtain ⟨q, hq, hq1, hq2⟩ : ∃ p, b.tmod 1001 = p ∧ -1000 ≤ p ∧ p ≤ 1000 := ⟨_, rfl, by have := tmod_bd b 1001 (by omega); omega, by have := tmod_bd b 1001 (by omega); omega⟩
  go_enter Try.func3, Try.ntmps3
  go_wp2_with fail
  refine (known_any w).mono ?_
  rintro e w1 ⟨rfl, hE1⟩
  go_wp2_with fail
  clear hp hq
  have hx0 : Ints ((w1.alloc (.cells #[.int .i64 p, .int .i64 q] 3)).alloc (.cells #[.int .i64 2, .int .i64 3] 3)) (.slice (some ⟨w1.heap.size, 0, none⟩) 2 2) [p, q] :=
    Ints.ext (Ints.litAt rfl [p, q] _ 2 rfl (by simp [maxLen]) (by intro x hx; simp at hx; omega) _ rfl) (Ext.alloc _ _)
  have hp0 : Ints ((w1.alloc (.cells #[.int .i64 p, .int .i64 q] 3)).alloc (.cells #[.int .i64 2, .int .i64 3] 3)) (.slice (some ⟨w1.heap.size + 1, 0, none⟩) 2 2) [2, 3] :=
    Ints.litAt (by simp) [2, 3] _ 2 rfl (by simp [maxLen]) (by simp) _ rfl
  have hE0 : Ext w1 ((w1.alloc (.cells #[.int .i64 p, .int .i64 q] 3)).alloc (.cells #[.int .i64 2, .int .i64 3] 3)) := (Ext.alloc _ _).trans (Ext.alloc _ _)
  have sB : ((w1.alloc (.cells #[.int .i64 p, .int .i64 q] 3)).alloc (.cells #[.int .i64 2, .int .i64 3] 3)).heap.size = w1.heap.size + 1 + 1 := by simp
  generalize (w1.alloc (.cells #[.int .i64 p, .int .i64 q] 3)).alloc (.cells #[.int .i64 2, .int .i64 3] 3) = W0 at *
  rw [← sB]
  obtain ⟨n, hn, hn1, hn2⟩ : ∃ n : Nat, 1 + c % 5 = (n : Int) ∧ 1 ≤ n ∧ n ≤ 5 := ⟨(1 + c % 5).toNat, by omega, by omega, by omega⟩
  rw [hn]
  have HX0 := Lib.hid hx0; have HP0 := Lib.hid hp0
  have hEW : Ext w W0 := hE1.trans hE0
  clear hx0 hp0 hn sB hE0 hE1
  go_loopw [32] (fun t wr => ∃ (i : Nat) (S : Nat → Prop) (vc vl : Value), t = .int .i64 i ∧ i ≤ n ∧ Ext W0 wr ∧ Hid (SOk S W0.heap.size wr) ∧ Hid (S W0.heap.size) ∧ Hid (wr.heap[W0.heap.size]? = some (.cells #[.slice (some ⟨w1.heap.size + 1, 0, none⟩) 2 2, vc, vl] 30 (0, 0))) ∧
      Hid (BuildS wr S W0.heap.size 31 1 vc chordR (List.replicate i [[0, 0], [p, q]])) ∧ Hid (BuildS wr S W0.heap.size 34 1 vl linksR (List.replicate (i - 1) [(1, 0)]))) (fun t _ => n - (intOf t).toNat)
  case atStart =>
    exact ⟨0, fun b => b = W0.heap.size, _, _, rfl, Nat.zero_le _, Ext.alloc _ _, by intro b hb; subst hb; simp, rfl, block_new _ _ _, BuildS.nil _ _ _ _ _ _, BuildS.nil _ _ _ _ _ _⟩
  case round =>
    obtain ⟨i, S, vc, vl, rfl, hin, hEr, HOK, HS, HBK, HC, HL⟩ := hrel
    have g0 := block_cell HBK.out 0; have g1 := block_cell HBK.out 1; have g2 := block_cell HBK.out 2
    have f1 := block_free HBK.out 1; have f2 := block_free HBK.out 2
    have hBlt := block_lt HBK.out
    simp only [List.getElem?_toArray, List.getElem?_cons_zero, List.getElem?_cons_succ] at g0 g1 g2
    by_cases hlt : i < n
    · have hS := HOK.out
      have hx := Lib.hid (SafeS.below (S := S) (P := fun w => Ints w (.slice (some ⟨w1.heap.size, 0, none⟩) 2 2) [p, q]) (fun w' he => Ints.ext HX0.out he) hEr (fun k hk => (HOK.out k hk).1))
      have hE12 : Ext wr ((wr.alloc (.cells #[.int .i64 0, .int .i64 0] 3)).alloc (.cells #[.slice (some ⟨wr.heap.size, 0, none⟩) 2 2, .slice (some ⟨w1.heap.size, 0, none⟩) 2 2] 25)) := (Ext.alloc _ _).trans (Ext.alloc _ _)
      have hR : SafeS ((wr.alloc (.cells #[.int .i64 0, .int .i64 0] 3)).alloc (.cells #[.slice (some ⟨wr.heap.size, 0, none⟩) 2 2, .slice (some ⟨w1.heap.size, 0, none⟩) 2 2] 25)) S fun w => chordR w [.slice (some ⟨wr.heap.size + 1, 0, none⟩) 2 2] [[0, 0], [p, q]] := by
        refine (SafeS.lit (R := Ints) (fun b hb => by have := (HOK.out b hb).2; simp; omega) (by simp) [.slice (some ⟨wr.heap.size, 0, none⟩) 2 2, .slice (some ⟨w1.heap.size, 0, none⟩) 2 2] [[0, 0], [p, q]] 25 2 rfl rfl (by simp [maxLen]) _ rfl ?_).mono (fun w h => ⟨_, rfl, h⟩)
        intro j u x hu hx'
        match j with
        | 0 => simp at hu hx'; subst hu; subst hx'; exact SafeS.intsLit (fun b hb => (HOK.out b hb).2) rfl [0, 0] _ 2 rfl (by simp [maxLen]) (by simp) _ rfl
        | 1 => simp at hu hx'; subst hu; subst hx'; exact hx.out.ext (Ext.alloc _ _)
        | j + 2 => simp at hu
      have HR := Lib.hid hR
      have HB1 := Lib.hid (HC.out.ext hE12)
      have HOK1 := Lib.hid (HOK.out.grow hE12.size)
      have hs1 := Nat.le_trans hEr.size hE12.size
      have hi5 : (List.replicate i [[(0 : Int), 0], [p, q]]).length < 1000000 := by simp; omega
      have HI5 := Lib.hid hi5
      clear hS hR hi5
      go_wp2_with (at_builtin; go_must (refine wpList_append_buildS _ rfl _ _ 27 rfl S W0.heap.size 31 (.slice none 0 0) 1 24 Try.underlying27 infoRows rfl (by decide) vc chordR (List.replicate i [[0, 0], [p, q]]) [[0, 0], [p, q]] #[.slice (some ⟨wr.heap.size + 1, 0, none⟩) 2 2] 31 rfl HB1.out _ rfl ?e0 rfl ?e1 HR.out HI5.out ?e3 hs1 HOK1.out ?_))
      case e0 => simp
      case e1 => simp [Value.oneCell']
      case e3 => omega
      intro vc' w2 S' hok' hS1 hS2 hB2 hg2 hb2 hs2 hsafe
      rw [← rep_snoc] at hB2
      obtain ⟨gc, capc, rfl, hgc1, hgc2, hgc3, hgc4⟩ := hB2.shape (by simp)
      have hne1 := HB1.out.neBlock (block_ext HBK.out hE12) (by decide)
      have hBK2 := block_grown (block_ext HBK.out hE12) hg2 hne1
      have hL2 : BuildS w2 S' W0.heap.size 34 1 vl linksR (List.replicate (i - 1) [(1, 0)]) :=
        (HL.out.ext hE12).other hg2 (fun b hb => HB1.out.1 b hb) (BuildS.apart (HL.out.ext hE12) HB1.out (by decide)) (by simpa using hS2) hS1
      have hneC := hB2.neBlock hBK2 (by decide)
      have hneL := hL2.neBlock hBK2 (by decide)
      have hS3 := hS1 _ HS.out
      have HC3 := Lib.hid (hB2.store (i := 1) (x := .slice (some ⟨gc, 0, none⟩) (List.replicate (i + 1) [[(0 : Int), 0], [p, q]]).length capc) hS3 hneC)
      have HL3 := Lib.hid (hL2.store (i := 1) (x := .slice (some ⟨gc, 0, none⟩) (List.replicate (i + 1) [[(0 : Int), 0], [p, q]]).length capc) hS3 hneL)
      have HBK3 := Lib.hid (block_set hBK2 1 (.slice (some ⟨gc, 0, none⟩) (List.replicate (i + 1) [[(0 : Int), 0], [p, q]]).length capc))
      have k1 := block_cell hBK2 1
      have k2 := block_free hBK2 1
      simp only [List.getElem?_toArray, List.getElem?_cons_zero, List.getElem?_cons_succ] at k1
      have HS3 := Lib.hid hS3
      have hE3 : Below W0.heap.size W0 (w2.setCell ⟨W0.heap.size, 1, none⟩ (.slice (some ⟨gc, 0, none⟩) (List.replicate (i + 1) [[(0 : Int), 0], [p, q]]).length capc)) := (Below.trans (hEr.trans hE12) hb2).setCell (Nat.le_refl _) _
      have HOK3 := Lib.hid (SOk.grow hok' (w' := w2.setCell ⟨W0.heap.size, 1, none⟩ (.slice (some ⟨gc, 0, none⟩) (List.replicate (i + 1) [[(0 : Int), 0], [p, q]]).length capc)) (by simp [World.setCell]))
      clear hok' hS1 hS2 hB2 hg2 hb2 hsafe hL2 hBK2 HB1 HR HOK1 HBK HC HL HOK hne1 hneC hneL hS3 hE12 g0 g1 g2 f1 f2
      simp only [List.length_replicate] at *
      by_cases h0 : i = 0
      · subst h0
        go_wp2_with fail
        go_roundw
        case rel => exact ⟨1, S', _, vl, rfl, by omega, hE3, HOK3.out, HS3.out, HBK3.out, HC3.out, HL3.out⟩
        case measure => simp [intOf]; omega
      · have hpos : 0 < i := by omega
        have n2 := block_cell HBK3.out 2
        have n3 := block_free HBK3.out 2
        simp only [List.getElem?_toArray, List.getElem?_cons_zero, List.getElem?_cons_succ, List.setIfInBounds_toArray, List.set_cons_succ, List.set_cons_zero] at n2
        generalize hw3 : w2.setCell ⟨W0.heap.size, 1, none⟩ (.slice (some ⟨gc, 0, none⟩) (i + 1) capc) = w3 at *
        have hE45 : Ext w3 ((w3.alloc (.cells #[.int .i64 1, .int .i64 0] 33))) := Ext.alloc _ _
        have hR4 : SafeS (w3.alloc (.cells #[.int .i64 1, .int .i64 0] 33)) S' fun w => linksR w [.slice (some ⟨w3.heap.size, 0, none⟩) 1 1] [(1, 0)] :=
          (SafeS.linksLit (fun b hb => (HOK3.out b hb).2) rfl [(1, 0)] 33 1 rfl (by simp [maxLen]) (by simp) _ rfl).mono (fun w h => ⟨_, rfl, h⟩)
        have HR4 := Lib.hid hR4
        have HB4 := Lib.hid (HL3.out.ext hE45)
        have HOK4 := Lib.hid (HOK3.out.grow hE45.size)
        have hs4 := Nat.le_trans hE3.size hE45.size
        have hi6 : (List.replicate (i - 1) [((1 : Int), (0 : Int))]).length < 1000000 := by simp; omega
        have HI6 := Lib.hid hi6
        clear hR4 hi6
        go_wp2_with (at_builtin; go_must (refine wpList_append_buildS _ rfl _ _ 28 rfl S' W0.heap.size 34 (.slice none 0 0) 1 24 Try.underlying28 infoLinks rfl (by decide) vl linksR (List.replicate (i - 1) [(1, 0)]) [(1, 0)] #[.slice (some ⟨w3.heap.size, 0, none⟩) 1 1] 34 rfl HB4.out _ rfl ?e4 rfl ?e5 HR4.out HI6.out ?e6 hs4 HOK4.out ?_))
        case e4 => simp
        case e5 => simp [Value.oneCell']
        case e6 => omega
        intro vl' w5 S5 hok5 hS51 hS52 hB5 hg5 hb5 hs5 _
        clear hw3 k1 k2
        rw [← rep_snoc, show i - 1 + 1 = i + 1 - 1 by omega] at hB5
        obtain ⟨gl, capl, rfl, hgl1, hgl2, hgl3, hgl4⟩ := hB5.shape (by simp; omega)
        have hne1 := HB4.out.neBlock (block_ext HBK3.out hE45) (by decide)
        have hBK5 := block_grown (block_ext HBK3.out hE45) hg5 hne1
        have hC5 : BuildS w5 S5 W0.heap.size 31 1 (.slice (some ⟨gc, 0, none⟩) (i + 1) capc) chordR (List.replicate (i + 1) [[0, 0], [p, q]]) :=
          (HC3.out.ext hE45).other hg5 (fun b hb => HB4.out.1 b hb) (BuildS.apart (HC3.out.ext hE45) HB4.out (by decide)) (by simpa using hS52) hS51
        have hneC5 := hC5.neBlock hBK5 (by decide)
        have hneL5 := hB5.neBlock hBK5 (by decide)
        have hS5 := hS51 _ HS3.out
        have HC6 := Lib.hid (hC5.store (i := 2) (x := .slice (some ⟨gl, 0, none⟩) (List.replicate (i + 1 - 1) [((1 : Int), (0 : Int))]).length capl) hS5 hneC5)
        have HL6 := Lib.hid (hB5.store (i := 2) (x := .slice (some ⟨gl, 0, none⟩) (List.replicate (i + 1 - 1) [((1 : Int), (0 : Int))]).length capl) hS5 hneL5)
        have HBK6 := Lib.hid (block_set hBK5 2 (.slice (some ⟨gl, 0, none⟩) (List.replicate (i + 1 - 1) [((1 : Int), (0 : Int))]).length capl))
        have k1 := block_cell hBK5 2
        have k2 := block_free hBK5 2
        simp only [List.getElem?_toArray, List.getElem?_cons_zero, List.getElem?_cons_succ, List.setIfInBounds_toArray, List.set_cons_succ, List.set_cons_zero] at k1
        have hE6 : Below W0.heap.size W0 (w5.setCell ⟨W0.heap.size, 2, none⟩ (.slice (some ⟨gl, 0, none⟩) (List.replicate (i + 1 - 1) [((1 : Int), (0 : Int))]).length capl)) := (Below.trans (Below.trans hE3 (Below.mono hE45 hE3.size)) hb5).setCell (Nat.le_refl _) _
        have HS6 := Lib.hid hS5
        have HOK6 := Lib.hid (SOk.grow hok5 (w' := w5.setCell ⟨W0.heap.size, 2, none⟩ (.slice (some ⟨gl, 0, none⟩) (List.replicate (i + 1 - 1) [((1 : Int), (0 : Int))]).length capl)) (by simp [World.setCell]))
        clear hok5 hS51 hS52 hB5 hg5 hb5 hC5 hBK5 HB4 HR4 HOK4 HC3 HL3 HBK3 HOK3 hne1 hneC5 hneL5 hS5 hE45 n2 n3
        simp only [List.length_replicate] at *
        go_wp2_with fail
        go_roundw
        case rel => exact ⟨i + 1, S5, _, _, rfl, by omega, hE6, HOK6.out, HS6.out, HBK6.out, HC6.out, HL6.out⟩
        case measure => simp [intOf]; omega
    · obtain rfl : i = n := by omega
      have hwk : WalkAt wr (.agg #[.slice (some ⟨w1.heap.size + 1, 0, none⟩) 2 2, vc, vl]) (limWk p q i) := ⟨_, _, _, rfl, Ints.ext HP0.out hEr, HC.out.list, HL.out.list⟩
      have HWK := Lib.hid hwk
      have HX := Lib.hid (Ints.ext HX0.out hEr)
      have hEw : Ext w wr := hEW.trans hEr
      clear hwk HC HL HOK HS HBK HX0 HP0 hEr hEW
      go_wp2_with fail
      refine (Roots_any _ _ _ HWK.out).mono ?_
      rintro e w2 ⟨r, rfl, hE2, hr1, hr2⟩
      have c0 := hE2.cell g0; have c1 := hE2.cell g1; have c2 := hE2.cell g2
      have HR1 := Lib.hid hr1; have HR2 := Lib.hid hr2
      clear hr1 hr2
      go_wp2_with fail
      refine (Drift_any _ _ _ (HWK.out.ext hE2)).mono ?_
      rintro e w3 ⟨d, rfl, hE3, hd1, hd2⟩
      have HD1 := Lib.hid hd1; have HD2 := Lib.hid hd2
      clear hd1 hd2
      go_wp2_with fail
      have hn15 : 1 ≤ i ∧ i ≤ 5 := ⟨hn1, hn2⟩
      have hE13 : Ext wr w3 := hE2.trans hE3
      have hxb : ∀ x ∈ [p, q], -1000 ≤ x ∧ x ≤ 1000 := by intro x hx; simp at hx; omega
      refine (times_any [p, q] ((i : Int) - 1) _ w3 (HX.out.ext hE13) (by simp) ?t1).mono ?_
      case t1 =>
        intro x hx
        have h1 := hxb x hx
        have h2 : i = 1 ∨ i = 2 ∨ i = 3 ∨ i = 4 ∨ i = 5 := by omega
        rcases h2 with rfl | rfl | rfl | rfl | rfl <;> simp <;> omega
      rintro e w4 ⟨f, rfl, hE4, hf⟩
      have hfb : ∀ x ∈ limFar p q i, -9223372036854775808 ≤ x ∧ x ≤ 9223372036854775807 := by
        intro x hx
        have h2 : i = 1 ∨ i = 2 ∨ i = 3 ∨ i = 4 ∨ i = 5 := by omega
        simp only [limFar, List.mem_cons, List.not_mem_nil, or_false] at hx
        rcases h2 with rfl | rfl | rfl | rfl | rfl <;> simp at hx <;> omega
      have HF := Lib.hid (Ints.of_owns (xs := limFar p q i) hf hfb)
      obtain ⟨gf, capf, rfl, -, -, -, -⟩ := owns_shape hf (by simp)
      simp only [List.length_cons, List.length_nil, Nat.zero_add, Nat.reduceAdd] at *
      clear hf hfb hxb
      go_wp2_with fail
      refine (long_any (limFar p q i) _ w4 HF.out).mono ?_
      rintro e w5 ⟨rfl, hE5⟩
      have hEf : Ext w w5 := hEw.trans (hE13.trans (hE4.trans hE5))
      have HEf := Lib.hid hEf
      have hl1 := lim_rootsE p q i hn15 ⟨hp1, hp2⟩ ⟨hq1, hq2⟩
      have hl2 := lim_driftE p q i hn15 ⟨hp1, hp2⟩ ⟨hq1, hq2⟩
      have hl3 := lim_drift p q i hn15
      have HE45 := Lib.hid (hE4.trans hE5)
      have HE5 := Lib.hid hE5
      clear c0 c1 c2 g0 g1 g2 f1 f2 hEf hE2 hE3 hE4 hE5 hE13 hEw
      cases hfar : (limFar p q i).any farB with
      | true =>
        rw [hfar] at hl1 hl2
        simp only [if_true] at hl1 hl2
        have hr := HR2.out (by rw [hl1]; decide)
        have hd := HD2.out (by rw [hl2]; decide)
        subst hr; subst hd
        rw [hl1, hl2]
        clear hfar hl1 hl2 hl3 HR1 HR2 HD1 HD2 HWK
        go_wp2_with fail
        go_ret
        exact ⟨rfl, HEf.out⟩
      | false =>
        rw [hfar] at hl1 hl2
        simp only [Bool.false_eq_true, if_false] at hl1 hl2
        have hr := HR1.out hl1
        have hd := HD1.out hl2
        rw [hl3] at hd
        obtain ⟨ar, cr, rfl, -, -, -, -⟩ := inCell.open hr
        obtain ⟨ad, cd, rfl, -, -, -, -, -⟩ := hd.open
        have hrl : (rootsOf (limWk p q i) (limWk p q i).links.length).length = i := by simp [rootsOf, limWk]; omega
        rw [hl1, hl2, hrl]
        have HEQ := Lib.hid (equalRow_any (limFar p q i) (limFar p q i) _ _ w5 (Ints.ext hd HE45.out) (Ints.ext HF.out HE5.out))
        rw [show (limFar p q i == limFar p q i) = true by simp] at HEQ
        clear hfar hl1 hl2 hl3 HR1 HR2 HD1 HD2 HWK hr hd hrl
        go_wp2_with fail
        refine HEQ.out.mono ?_
        rintro e w6 ⟨rfl, hE6⟩
        go_wp2_with fail
        go_ret
        exact ⟨rfl, HEf.out.trans hE6⟩
end Go.Proofs.Ytplcikgmefcfbaa
