/- Merged: DChkB. -/
import Derived.Test.YtjihfabhgcfjnaaGreatDoorUBH
import Derived.RangeFuncNested
import Derived.RangeFuncBound
import Derived.RangeFuncCalls
/- drift.Reverse and drift.Join of a walk that is not right. Printed by gen/dchkb.py. -/
namespace Go.Proofs.YtjihfabhgcfjnaaGreatDoor
set_option linter.unusedVariables false
set_option linter.unusedSimpArgs false
open Go.RowKit

theorem wkb_free {w : World} {B : Nat} {x y z : Value} (h : w.heap[B]? = some (.cells #[x, y, z] 55 (0, 0))) : ∀ i, w.frozen? ⟨B, i, none⟩ = false := fun i => block_free h i
theorem wkb_store {w : World} {B : Nat} {x y z : Value} (h : w.heap[B]? = some (.cells #[x, y, z] 55 (0, 0))) (a b c : Value) : (((w.setCell ⟨B, 0, none⟩ a).setCell ⟨B, 1, none⟩ b).setCell ⟨B, 2, none⟩ c).heap[B]? = some (.cells #[a, b, c] 55 (0, 0)) := by
  have := block_set (block_set (block_set h 0 a) 1 b) 2 c
  simpa using this
theorem ext_wkb {w W : World} {B : Nat} (hE : Ext w W) (hB : w.heap.size ≤ B) (a b c : Value) : Ext w (((W.setCell ⟨B, 0, none⟩ a).setCell ⟨B, 1, none⟩ b).setCell ⟨B, 2, none⟩ c) :=
  Below.setCell (Below.setCell (Below.setCell hE hB _) hB _) hB _

set_option maxRecDepth 100000 in
set_option maxHeartbeats 4000000 in
theorem Reverse_bad (k : Wk) (v : Value) (w : World) (h : WalkAt w v k) (hz : walkE k ≠ 0) :
    Calls Tryz.prog 37 #[v] w fun e w' => e = .returned (.tuple #[.agg #[.slice none 0 0, .slice none 0 0, .slice none 0 0], .int .i64 (walkE k)]) ∧ Ext w w' := by
  have HWALK := Lib.hid h
  obtain ⟨vp, vc, vl, rfl, h1, h2, h3⟩ := h
  obtain ⟨ap, cp, rfl, -, -, -, -, -⟩ := h1.open
  obtain ⟨ac, cc, rfl, hlc, hmc, -, -⟩ := inCell.open h2
  obtain ⟨al, cl, rfl, hll, hml, -, -⟩ := inCell.open h3
  have HCK := Lib.hid (fun W' he => check_any k _ W' (HWALK.out.ext (w' := W') he))
  obtain ⟨E, hEE⟩ : ∃ E, walkE k = E := ⟨_, rfl⟩
  rw [hEE] at HCK hz ⊢
  have hcb : (E != 0) = true := by simp [hz]
  clear h1 h2 h3 hEE hz
  obtain ⟨w1, hW1, hE1, hsz1, b0, b1, b2⟩ := box_walk w (.slice ap k.primes.length cp) (.slice ac k.chords.length cc) (.slice al k.links.length cl) 55
  refine (callsIn_wide (n := 9)).1 ?_
  refine callsIn_of_wp_marks Tryz.func37 rfl trivial ?_ rfl
  simp only [Tryz.ntmps37, List.size_toArray, List.length_cons, List.length_nil, Nat.reduceAdd, Nat.reduceSub, Array.replicate_succ, Array.replicate_zero, List.push_toArray, List.append_toArray, List.nil_append, List.cons_append]
  have HE1 := Lib.hid hE1
  have hs1 : w1.heap.size = w.heap.size + 1 := by rw [← hW1]; simp
  have hz1 := block_new w1 #[.slice none 0 0, .slice none 0 0, .slice none 0 0] 55
  obtain ⟨w2, hW2⟩ : ∃ w2, w1.alloc (.cells #[.slice none 0 0, .slice none 0 0, .slice none 0 0] 55) = w2 := ⟨_, rfl⟩
  have hE2 : Ext w1 w2 := by rw [← hW2]; exact Ext.alloc _ _
  rw [hW2, hs1] at hz1
  have HZ2 := Lib.hid hz1
  have c0 := hE2.cell b0; have c1 := hE2.cell b1; have c2 := hE2.cell b2
  have HE2 := Lib.hid (hE1.trans hE2)
  have HCK2 := Lib.hid (HCK.out w2 HE2.out)
  clear hz1 b0 b1 b2 HCK hE1 hE2
  gi_wp2_with fail
  clear hW1 hW2 HE1
  refine ⟨trivial, ?_⟩
  refine (callsIn_wide.2 HCK2.out).mono ?_
  rintro e w3 ⟨rfl, hE3⟩
  have HZ3 := Lib.hid (block_ext HZ2.out hE3)
  have HE3 := Lib.hid (HE2.out.trans hE3)
  have f0 := wkb_free HZ3.out 0; have f1 := wkb_free HZ3.out 1; have f2 := wkb_free HZ3.out 2
  obtain ⟨q0, q1, q2⟩ := wkb_cells HZ3.out
  clear hE3 c0 c1 c2
  gi_wp2_with fail
  obtain ⟨r0, r1, r2⟩ := wkb_cells (wkb_store HZ3.out (.slice none 0 0) (.slice none 0 0) (.slice none 0 0))
  exact ⟨.tuple #[.agg #[.slice none 0 0, .slice none 0 0, .slice none 0 0], .int .i64 E], by simp [results, Tryz.results37, go_sem, r0, r1, r2], ⟨rfl, ext_wkb HE3.out (by omega) _ _ _⟩⟩
set_option maxRecDepth 100000 in
set_option maxHeartbeats 4000000 in
theorem Join_bad (a b : Wk) (va vb : Value) (w : World) (ha : WalkAt w va a) (hb : WalkAt w vb b) (hza : walkE a = 0) (hzb : walkE b ≠ 0) :
    Calls Tryz.prog 38 #[va, vb] w fun e w' => e = .returned (.tuple #[.agg #[.slice none 0 0, .slice none 0 0, .slice none 0 0], .int .i64 (walkE b)]) ∧ Ext w w' := by
  have HCA := Lib.hid (fun W (hW : Ext w W) => check_any a va W (ha.ext hW))
  have HCB := Lib.hid (fun W (hW : Ext w W) => check_any b vb W (hb.ext hW))
  obtain ⟨E, hEE⟩ : ∃ E, walkE b = E := ⟨_, rfl⟩
  rw [hza] at HCA
  rw [hEE] at HCB hzb ⊢
  have hcb : (E != 0) = true := by simp [hzb]
  obtain ⟨vp1, vc1, vl1, rfl, p1, c1, l1⟩ := ha
  obtain ⟨vp2, vc2, vl2, rfl, p2, c2, l2⟩ := hb
  obtain ⟨ap1, cp1, rfl, -, -, -, -, -⟩ := p1.open
  obtain ⟨ap2, cp2, rfl, -, -, -, -, -⟩ := p2.open
  obtain ⟨ac1, cc1, rfl, n1, m1, -, k1⟩ := inCell.open c1
  obtain ⟨ac2, cc2, rfl, n2, m2, -, k2⟩ := inCell.open c2
  obtain ⟨al1, cl1, rfl, n3, m3, -, k3⟩ := inCell.open l1
  obtain ⟨al2, cl2, rfl, n4, m4, -, k4⟩ := inCell.open l2
  generalize a.primes.length = PA at *
  generalize b.primes.length = PB at *
  generalize a.chords.length = NA at *
  generalize b.chords.length = NB at *
  generalize a.links.length = LA at *
  generalize b.links.length = LB at *
  clear p1 p2 c1 c2 l1 l2 k1 k2 k3 k4 n1 n2 n3 n4 m1 m2 m3 m4 hEE hzb hza
  go_enter Tryz.func38, Tryz.ntmps38
  obtain ⟨W1, hW1, hE1, hs1, hb1'⟩ := wkb_new w (.slice ap1 PA cp1) (.slice ac1 NA cc1) (.slice al1 LA cl1)
  obtain ⟨W2, hW2, hE2, hs2, hb2'⟩ := wkb_new W1 (.slice ap2 PB cp2) (.slice ac2 NB cc2) (.slice al2 LB cl2)
  obtain ⟨W3, hW3, hE3, hs3, hb3'⟩ := wkb_new W2 (.slice none 0 0) (.slice none 0 0) (.slice none 0 0)
  obtain ⟨W4, hW4⟩ : ∃ W4, W3.alloc (.cells #[.slice ap1 PA cp1, .slice ac1 NA cc1, .slice al1 LA cl1, .slice ap2 PB cp2, .slice ac2 NB cc2, .slice al2 LB cl2] 55) = W4 := ⟨_, rfl⟩
  have hE4 : Ext W3 W4 := by rw [← hW4]; exact Ext.alloc _ _
  have hb4' : W4.heap[W3.heap.size]? = some (.cells #[.slice ap1 PA cp1, .slice ac1 NA cc1, .slice al1 LA cl1, .slice ap2 PB cp2, .slice ac2 NB cc2, .slice al2 LB cl2] 55 (0, 0)) := by rw [← hW4]; exact block_new _ _ _
  have HB3 := Lib.hid (block_ext hb3' hE4)
  have HB4 := Lib.hid hb4'
  have HE4 := Lib.hid (hE1.trans (hE2.trans (hE3.trans hE4)))
  obtain ⟨e10, e11, e12⟩ := wkb_cells (block_ext (block_ext hb1' hE2) hE3)
  obtain ⟨e20, e21, e22⟩ := wkb_cells (block_ext hb2' hE3)
  have z2 : W1.heap.size = w.heap.size + 1 := hs1
  have z3 : W2.heap.size = w.heap.size + 1 + 1 := by omega
  have z4 : W3.heap.size = w.heap.size + 1 + 1 + 1 := by omega
  rw [z2] at e20 e21 e22
  rw [z3] at HB3
  rw [z4] at HB4
  clear hE1 hE2 hE3 hE4 hb1' hb2' hb3' hb4' hs1 hs2 hs3
  go_wp2_with fail
  clear hW1 hW2 hW3 hW4 e10 e11 e12 e20 e21 e22 z2 z3 z4
  go_loopw [18] (fun t wr => ∃ i : Nat, i ≤ 1 ∧ t = .int .i64 i ∧ Hid (Ext W4 wr)) (fun t _ => 2 - (intOf t).toNat)
  case atStart => exact ⟨0, by omega, rfl, Ext.refl _⟩
  case round =>
    obtain ⟨i, hi, rfl, HE⟩ := hrel
    obtain ⟨wo, rfl⟩ : ∃ wo : World, wo = wr := ⟨_, rfl⟩
    have hB := block_ext HB4.out HE.out
    obtain ⟨Wb, hWb, hEb, hsb, hbb⟩ := wkb_new wo (.slice none 0 0) (.slice none 0 0) (.slice none 0 0)
    obtain ⟨r0, r1, r2⟩ := wkb_cells hbb
    have rf := wkb_free hbb
    have f0 := rf 0; have f1 := rf 1; have f2 := rf 2
    rcases (by omega : i = 0 ∨ i = 1) with rfl | rfl
    · have d0 := block_cell hB 0; have d1 := block_cell hB 1; have d2 := block_cell hB 2
      have HES := Lib.hid (ext_wkb hEb (Nat.le_refl _) (.slice ap1 PA cp1) (.slice ac1 NA cc1) (.slice al1 LA cl1))
      have HBS := Lib.hid (wkb_store hbb (.slice ap1 PA cp1) (.slice ac1 NA cc1) (.slice al1 LA cl1))
      simp only [List.getElem?_toArray, List.getElem?_cons_zero, List.getElem?_cons_succ] at d0 d1 d2
      clear hB rf hbb hEb hsb
      go_wp2_with fail
      refine (HCA.out _ (HE4.out.trans (HE.out.trans HES.out))).mono ?_
      rintro e w7 ⟨rfl, hE7⟩
      have HE7 := Lib.hid (HE.out.trans (HES.out.trans hE7))
      clear hE7
      go_wp2_with fail
      go_roundw
      case rel => exact ⟨1, by omega, by first | rfl | go_num, HE7.out⟩
      case measure => simp [intOf]
    · have d0 := block_cell hB 3; have d1 := block_cell hB 4; have d2 := block_cell hB 5
      have HES := Lib.hid (ext_wkb hEb (Nat.le_refl _) (.slice ap2 PB cp2) (.slice ac2 NB cc2) (.slice al2 LB cl2))
      have HBS := Lib.hid (wkb_store hbb (.slice ap2 PB cp2) (.slice ac2 NB cc2) (.slice al2 LB cl2))
      simp only [List.getElem?_toArray, List.getElem?_cons_zero, List.getElem?_cons_succ] at d0 d1 d2
      clear hB rf hbb hEb hsb
      go_wp2_with fail
      refine (HCB.out _ (HE4.out.trans (HE.out.trans HES.out))).mono ?_
      rintro e w7 ⟨rfl, hE7⟩
      have HE7 := Lib.hid (HE.out.trans (HES.out.trans hE7))
      have HX := Lib.hid (block_ext HB3.out HE7.out)
      have HE8 := Lib.hid (HE4.out.trans HE7.out)
      clear hE7 r0 r1 r2 f0 f1 f2 d0 d1 d2
      obtain ⟨q0, q1, q2⟩ := wkb_cells HX.out
      have f0 := wkb_free HX.out 0; have f1 := wkb_free HX.out 1; have f2 := wkb_free HX.out 2
      go_wp2_with fail
      have hkA := wkb_store HX.out (.slice none 0 0) (.slice none 0 0) (.slice none 0 0)
      refine bodyPost_ret (results_rowtmp (by rfl) _ _ (w.heap.size + 1 + 1) 55 #[.slice none 0 0, .slice none 0 0, .slice none 0 0] (0, 0) _ (by rfl) hkA Tryz.underlying55 (by rfl) (by kernel_rfl)) (by rfl) ?_
      exact ⟨rfl, ext_wkb HE8.out (by omega) _ _ _⟩
end Go.Proofs.YtjihfabhgcfjnaaGreatDoor
