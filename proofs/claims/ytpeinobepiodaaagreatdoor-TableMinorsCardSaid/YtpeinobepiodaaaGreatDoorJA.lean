/- Merged: PartR, MinP, RefMin, SameI, MinBad. -/
import Derived.Test.YtpeinobepiodaaaGreatDoorGI
import Derived.Test.YtpeinobepiodaaaGreatDoorGJ
import Derived.Test.YtpeinobepiodaaaGreatDoorGK
import Derived.Test.YtpeinobepiodaaaGreatDoorIE
import Derived.Test.YtpeinobepiodaaaGreatDoorGY
import Derived.Test.YtpeinobepiodaaaGreatDoorGM
import Derived.Test.YtpeinobepiodaaaGreatDoorGQ
import Derived.Test.YtpeinobepiodaaaGreatDoorGG
/- Contract of the reference's Part (06). -/
namespace Go.Proofs.YtpeinobepiodaaaGreatDoor
set_option linter.unusedVariables false
set_option linter.unusedSimpArgs false
open Go.RowKit

/-- A row of the part, as far as k. -/
def parRow (q : List Int) (C : List Nat) (k : Nat) : List Int := (C.take k).map (fun j => q.getD j 0) ++ List.replicate (C.length - k) 0
theorem parRow_len (q : List Int) (C : List Nat) (k : Nat) (hk : k ≤ C.length) : (parRow q C k).length = C.length := by
  unfold parRow; rw [List.length_append, List.length_map, List.length_take, List.length_replicate]; omega
theorem parRow_zero (q : List Int) (C : List Nat) : parRow q C 0 = List.replicate C.length 0 := by simp [parRow]
theorem parRow_all (q : List Int) (C : List Nat) : parRow q C C.length = C.map fun j => q.getD j 0 := by simp [parRow]
theorem parRow_set {q : List Int} {C : List Nat} {k j : Nat} (h : C[k]? = some j) : (parRow q C k).set k (q.getD j 0) = parRow q C (k + 1) := by
  have hk := (List.getElem?_eq_some_iff.1 h).1
  unfold parRow
  rw [List.set_append_right _ _ (by rw [List.length_map, List.length_take]; omega), List.length_map, List.length_take, Nat.min_eq_left (Nat.le_of_lt hk), Nat.sub_self, List.take_add_one, h, List.map_append]
  rw [show C.length - k = (C.length - (k + 1)) + 1 by omega, List.replicate_succ]
  simp
theorem castN_get {L : List Nat} {i x : Nat} (h : L[i]? = some x) : (L.map fun x : Nat => (x : Int))[i]? = some (x : Int) := by rw [List.getElem?_map, h]; rfl
theorem partI_takeR {m : List (List Int)} {R C : List Nat} {i x : Nat} (h : R[i]? = some x) : partI m (R.take (i + 1)) C = partI m (R.take i) C ++ [parRow (m.getD x []) C C.length] := by
  unfold partI
  rw [List.take_add_one, h, List.map_append, parRow_all]; rfl

set_option maxRecDepth 100000 in
set_option maxHeartbeats 2000000 in
theorem part_any (xss : List (List Int)) (R C : List Nat) (N : Nat) (v vr vc : Value) (w : World) (h : Rows2 w v xss) (hR : Ints w vr (R.map fun x : Nat => (x : Int))) (hC : Ints w vc (C.map fun x : Nat => (x : Int)))
    (hRl : R.length ≤ 12) (hCl : C.length ≤ 12) (hRb : ∀ i ∈ R, i < xss.length) (hCb : ∀ j ∈ C, j < N) (hrect : ∀ r ∈ xss, r.length = N) (hxl : xss.length ≤ 1000) (hN : N ≤ 1000) :
    Calls Tryz.prog 65 #[v, vr, vc] w fun e w' => ∃ u tags, e = .returned u ∧ RowsO intK 51 w' w.heap.size w.heap.size u tags (partI xss R C) ∧ Ext w w' := by
  obtain ⟨i0, hi, hz0, hz1, hz2⟩ := info_parts infoInt
  have HI := Lib.hid hi; have HZ0 := Lib.hid hz0; have HZ1 := Lib.hid hz1; have HZ2 := Lib.hid hz2
  clear hi hz0 hz1 hz2
  obtain ⟨a, c, rfl, x1, x2, -, hx⟩ := inCell.open h
  obtain ⟨ar, cr, rfl, r1, r2, -, -, hr⟩ := hR.open
  obtain ⟨ac, cc, rfl, k1, k2, -, -, hc⟩ := hC.open
  rw [List.length_map] at r1 k1 ⊢
  rw [List.length_map]
  have HX := Lib.hid hx; have HR := Lib.hid hr; have HC := Lib.hid hc
  have HRL := Lib.hid hRl; have HCL := Lib.hid hCl; have HRB := Lib.hid hRb; have HCB := Lib.hid hCb; have HRC := Lib.hid hrect
  obtain ⟨nr, hnr⟩ : ∃ n, n = R.length := ⟨_, rfl⟩
  obtain ⟨nc, hnc⟩ : ∃ n, n = C.length := ⟨_, rfl⟩
  have HNR := Lib.hid hnr; have HNC := Lib.hid hnc
  rw [← hnr] at r1 HRL ⊢
  rw [← hnc] at k1 HCL ⊢
  unfold maxLen at x2 r2 k2
  clear h hR hC hx hr hc hRb hCb hrect hnr hnc hRl hCl
  go_enter Tryz.func65, Tryz.ntmps65
  go_wp2_with fail
  go_loopw [8, 7] (fun t v wr => ∃ (i : Nat) (tags : List (Nat × Nat)), i ≤ nr ∧ t = .int .i64 i ∧ Hid (Ext w wr) ∧ Hid (RowsO intK 51 wr w.heap.size w.heap.size v tags (partI xss (R.take i) C))) (fun t _ _ => nr - (intOf t).toNat)
  case atStart => exact ⟨0, [], by omega, rfl, Ext.refl _, RowsO.nil _ _ _ _ _⟩
  case round =>
    obtain ⟨i, tags, hir, rfl, HE, HO⟩ := hrel
    obtain ⟨wo, rfl⟩ : ∃ wo : World, wo = wr := ⟨_, rfl⟩
    by_cases hlt : i < nr
    · obtain ⟨y, hy⟩ : ∃ y, R[i]? = some y := ⟨R[i]'(by rw [← HNR.out]; exact hlt), List.getElem?_eq_getElem _⟩
      have hyl := HRB.out y (List.mem_of_getElem? hy)
      obtain ⟨br, or_, rfl, -, hrc⟩ := HR.out (by intro e; have := congrArg List.length e; rw [List.length_map, ← HNR.out] at this; simp at this; omega)
      have g1 := hrc i y (castN_get hy)
      obtain ⟨bx, ox, rfl, -, hxc⟩ := HX.out (by intro e; rw [e] at hyl; simp at hyl)
      obtain ⟨q, hq⟩ : ∃ q, xss[y]? = some q := ⟨xss[y], List.getElem?_eq_getElem hyl⟩
      obtain ⟨vq, hvq, g2⟩ := hxc y q hq
      obtain ⟨aq, cq, rfl, q1, q2, -, -, hqc⟩ := hvq.open
      have hql : q.length = N := HRC.out q (List.mem_of_getElem? hq)
      have HQD : Hid (xss.getD y [] = q) := by unfold Hid; rw [List.getD_eq_getElem?_getD, hq]; rfl
      have HTK := Lib.hid (partI_takeR (m := xss) (C := C) hy)
      rw [HQD.out] at HTK
      have HG1 := Lib.hid g1; have HG2 := Lib.hid g2; have HQC := Lib.hid hqc; have HQL := Lib.hid hql
      unfold maxLen at q2
      clear hrc hxc hq hvq hqc hy g1 g2
      rw [hql] at q1
      rw [HQL.out] at HG2
      clear hql
      go_wp2_with (at_make; refine wpList_make_full _ rfl _ _ 51 rfl wo.heap.size 3 i0 (.int .i64 0) 1 Tryz.underlying51 HI.out HZ0.out HZ1.out _ _ _ _ nc rfl rfl rfl rfl ?c1 ?c2 ?c3 ?_)
      any_goals (first | (rw [HZ2.out]; have := HCL.out; omega) | (unfold maxLen; have := HCL.out; omega) | exact Nat.le_refl _)
      intro w3 hown hgrow
      rw [made_ints] at hown
      have HRI := Lib.hid (RowI.ofOwn hown)
      rw [HNC.out, ← parRow_zero q C] at HRI
      have HE3 := Lib.hid (ext_grown hgrow)
      clear hown hgrow
      go_wp2_with fail
      go_loopw [10] (fun t wq => ∃ k : Nat, k ≤ nc ∧ t = .int .i64 k ∧ Hid (Ext wo wq) ∧ Hid (RowI wq wo.heap.size (parRow q C k))) (fun t _ => nc - (intOf t).toNat)
      case atStart => exact ⟨0, by omega, rfl, HE3.out, HRI.out⟩
      case round =>
        obtain ⟨k, hk, rfl, HE4, HK⟩ := hrel
        obtain ⟨wq, rfl⟩ : ∃ wq : World, wq = wr := ⟨_, rfl⟩
        by_cases hkc : k < nc
        · have HXQ := Lib.hid (Ext.trans HE.out HE4.out)
          obtain ⟨z, hz⟩ : ∃ z, C[k]? = some z := ⟨C[k]'(by rw [← HNC.out]; exact hkc), List.getElem?_eq_getElem _⟩
          have hzl := HCB.out z (List.mem_of_getElem? hz)
          obtain ⟨bc, oc, rfl, -, hcc⟩ := HC.out (by intro e; have := congrArg List.length e; rw [List.length_map, ← HNC.out] at this; simp at this; omega)
          have g3 := HXQ.out.cell (hcc k z (castN_get hz))
          obtain ⟨bq, oq, rfl, -, hqc⟩ := HQC.out (by intro e; have := HQL.out; rw [e] at this; simp at this; omega)
          obtain ⟨p, hp⟩ : ∃ p, q[z]? = some p := ⟨q[z]'(by rw [HQL.out]; exact hzl), List.getElem?_eq_getElem _⟩
          have g4 := HXQ.out.cell (hqc z p hp)
          have g1 := HXQ.out.cell HG1.out
          have g2 := HXQ.out.cell HG2.out
          have hl0 : (parRow q C k).length = nc := by rw [parRow_len q C k (by rw [← HNC.out]; exact hk), HNC.out]
          obtain ⟨old, hold⟩ : ∃ z, (parRow q C k)[k]? = some z := ⟨_, List.getElem?_eq_getElem (by rw [hl0]; exact hkc)⟩
          have c0 := HK.out.cell k old hold
          have f0 := HK.out.free k
          have HS := Lib.hid (parRow_set (q := q) hz)
          rw [List.getD_eq_getElem?_getD, hp] at HS
          have HK5 := Lib.hid (HK.out.set k (by rw [hl0]; exact hkc) p)
          rw [show (parRow q C k).set k p = parRow q C (k + 1) from HS.out] at HK5
          have HE5 : Hid (Ext wo (wq.setCell ⟨wo.heap.size, k, none⟩ (.int .i64 p))) := Below.setCell HE4.out (Nat.le_refl _) (.int .i64 p)
          clear hcc hz hqc hp hl0 hold
          go_wp2_with fail
          go_region
          go_wp2_with fail
          go_roundw
          case rel => exact ⟨k + 1, by omega, by go_num, HE5.out.trans (Ext.drew _), HK5.out.ext (Ext.drew _)⟩
          case measure => simp [intOf]; omega
        · obtain rfl : k = nc := by omega
          rw [HNC.out] at HK
          have HO4 := Lib.hid (HO.out.ext HE4.out)
          have HSZ : Hid (w.heap.size ≤ wo.heap.size ∧ wo.heap.size ≤ wq.heap.size) := ⟨HE.out.size, HE4.out.size⟩
          have HV : Hid (u7.ownBlock ≠ some wo.heap.size) := fun e => by have := (HO.out.own.lt _ e).2; omega
          have HNN : Hid (wo.heap.size ∉ tags.map (·.1)) := fun e => by have := (HO.out.fresh e).2; omega
          have HRLn := Lib.hid (parRow_len q C C.length (Nat.le_refl _))
          have HLN : Hid ((partI xss (R.take i) C).length < 1000000) := by unfold Hid; rw [partI_len, List.length_take]; have := HRL.out; have := HNR.out; omega
          go_wp2_with (at_builtin; go_must (refine wpList_append_rowO (K := intK) (e := 51) Tryz.underlying23 infoRowT wq rfl _ _ rfl w.heap.size w.heap.size u7 tags (partI xss (R.take i) C) (wo.heap.size, k) (parRow q C C.length) _ _ rfl HO4.out rfl ?d1 ?d2 ?d3 HK.out ?d4 HV.out HNN.out HLN.out ?d5 ?_))
          case d1 => rw [HRLn.out, ← HNC.out]; rfl
          case d2 => rw [HRLn.out, ← HNC.out]; exact Nat.le_refl _
          case d3 => have := HCL.out; show k ≤ _; omega
          case d4 => have := HSZ.out; show w.heap.size ≤ wo.heap.size; omega
          case d5 => have := HSZ.out; omega
          intro v' w5 hO5 hb5 _
          rw [← HTK.out] at hO5
          have HO5 := Lib.hid hO5
          have HX5 : Hid (Ext w w5) := Below.trans (Ext.trans HE.out HE4.out) hb5
          clear hO5 hb5
          go_wp2_with fail
          go_roundw
          case rel => exact ⟨i + 1, _, by omega, by go_num, HX5.out, HO5.out⟩
          case measure => simp [intOf]; omega
    · obtain rfl : i = nr := by omega
      rw [HNR.out, List.take_length] at HO
      go_wp2_with fail
      go_ret
      exact ⟨_, _, rfl, HO.out, HE.out⟩
end Go.Proofs.YtpeinobepiodaaaGreatDoor
/- The minors that the reference works out are those of the reduction; parts of a matrix are right (plain). -/
namespace Go.Proofs.YtpeinobepiodaaaGreatDoor
set_option linter.unusedVariables false
set_option linter.unusedSimpArgs false
open Go.RowKit

/-- A part of a right matrix is right. -/
theorem part_tab {xss : List (List Int)} (hE : tabE xss = 0) {k : Nat} {R S : List Nat} (hR : R.length = k) (hS : S.length = k) (hk : k ≤ 12) : tabE (partI xss R S) = 0 := by
  refine tabE_of (n := k) (by rw [partI_len]; omega) fun r hr => ⟨?_, hk, fun a ha => part_fit hE R S r hr a ha⟩
  unfold partI at hr
  obtain ⟨i, -, rfl⟩ := List.mem_map.1 hr
  rw [List.length_map]; exact hS
theorem part_cols {xss : List (List Int)} {k : Nat} {R S : List Nat} (hR : R.length = k) (hS : S.length = k) : colsN (partI xss R S) = (partI xss R S).length := by
  rw [partI_len, hR]
  by_cases h0 : k = 0
  · subst h0
    obtain rfl := List.eq_nil_of_length_eq_zero hR
    rfl
  · refine colsN_of (fun r hr => ?_) (fun e => ?_)
    · unfold partI at hr
      obtain ⟨i, -, rfl⟩ := List.mem_map.1 hr
      rw [List.length_map]; exact hS
    · have := partI_len xss R S
      rw [e] at this
      simp at this; omega
theorem ref_minor {xss : List (List Int)} (hE : tabE xss = 0) {k : Nat} {R S : List Nat} (hR : R.length = k) (hS : S.length = k) : refDetI (partI xss R S) = minorOf xss k R S := by
  have hl : (partI xss R S).length = k := by rw [partI_len]; exact hR
  have h := refDet_eq (m := partI xss R S) (fun r hr => by
    rw [hl]
    unfold partI at hr
    obtain ⟨i, -, rfl⟩ := List.mem_map.1 hr
    rw [List.length_map]; exact hS) (matQ_el (part_fit hE R S))
  rw [hl] at h
  unfold minorOf
  rw [← h]
  rfl
/-- The minors as far as row set i, and column set j of it. -/
def minAB (xss : List (List Int)) (k : Nat) (A B : List (List Nat)) (i j : Nat) : List Int :=
  ((A.take i).flatMap fun R => B.map fun S => minorOf xss k R S) ++ (match A[i]? with | some R => (B.take j).map fun S => minorOf xss k R S | none => [])
theorem minAB_zero (xss : List (List Int)) (k : Nat) (A B : List (List Nat)) : minAB xss k A B 0 0 = [] := by
  unfold minAB
  cases A[0]? <;> simp
theorem minAB_step {xss : List (List Int)} {k : Nat} {A B : List (List Nat)} {i j : Nat} {R S : List Nat} (hR : A[i]? = some R) (hS : B[j]? = some S) : minAB xss k A B i (j + 1) = minAB xss k A B i j ++ [minorOf xss k R S] := by
  unfold minAB
  rw [hR]
  simp only
  rw [List.take_add_one, hS, List.map_append, List.append_assoc]
  rfl
theorem minAB_row {xss : List (List Int)} {k : Nat} {A B : List (List Nat)} {i : Nat} {R : List Nat} (hR : A[i]? = some R) : minAB xss k A B i B.length = minAB xss k A B (i + 1) 0 := by
  unfold minAB
  rw [hR, List.take_length, List.take_add_one, hR, List.flatMap_append]
  have : (match A[i + 1]? with | some R => (B.take 0).map fun S => minorOf xss k R S | none => ([] : List Int)) = [] := by cases A[i + 1]? <;> rfl
  rw [this, List.append_nil]
  simp
theorem minAB_end {xss : List (List Int)} {k : Nat} {A B : List (List Nat)} : minAB xss k A B A.length 0 = A.flatMap fun R => B.map fun S => minorOf xss k R S := by
  unfold minAB
  rw [List.take_length, List.getElem?_eq_none (Nat.le_refl _)]
  simp
end Go.Proofs.YtpeinobepiodaaaGreatDoor
/- Contract of the reference's Minors (06); printed by gen/refmin.py. -/
namespace Go.Proofs.YtpeinobepiodaaaGreatDoor
set_option linter.unusedVariables false
set_option linter.unusedSimpArgs false
open Go.RowKit

theorem partI_bdR {xss : List (List Int)} (hE : tabE xss = 0) (R S : List Nat) : ∀ r ∈ partI xss R S, ∀ x ∈ r, -9223372036854775808 ≤ x ∧ x ≤ (9223372036854775807 : Int) := fun r hr x hx => by
  have := part_fit hE R S r hr x hx; omega
theorem castS_get {L : List (List Nat)} {i : Nat} {S : List Nat} (h : L[i]? = some S) : (castS L)[i]? = some (S.map fun x : Nat => (x : Int)) := by unfold castS; rw [List.getElem?_map, h]; rfl
theorem minAB_lenB (xss : List (List Int)) (k : Nat) (A B : List (List Nat)) (i j : Nat) : (minAB xss k A B i j).length ≤ A.length * B.length + B.length := by
  unfold minAB
  rw [List.length_append]
  have h1 : ((A.take i).flatMap fun R => B.map fun S => minorOf xss k R S).length ≤ A.length * B.length := by
    rw [length_flatMap_const _ B.length (fun R => by simp)]
    exact Nat.mul_le_mul_right _ (by rw [List.length_take]; omega)
  refine Nat.add_le_add h1 ?_
  cases A[i]? with
  | none => simp
  | some R => simp only [List.length_map, List.length_take]; omega
theorem choose_924 : ∀ n, n < 13 → ∀ k, k < 13 → chooseS n k ≤ 924 := by decide +kernel

set_option maxRecDepth 100000 in
set_option maxHeartbeats 4000000 in
theorem refMinors_any (xss : List (List Int)) (k : Nat) (v : Value) (w : World) (h : Rows2 w v xss) (hE : tabE xss = 0) (hk1 : k ≤ xss.length) (hk2 : k ≤ colsN xss) (ht : Pow10 w) :
    Calls Tryz.prog 25 #[v, .int .i64 (k : Int)] w fun e w' => ∃ u, e = .returned u ∧ ListAt 1 numC w' u (minorsS xss k) ∧ Ext w w' := by
  have HT := Lib.hid ht
  obtain ⟨hl, hrr⟩ := tabE_zero hE
  have hc12 : colsN xss ≤ 12 := by
    cases xss with
    | nil => show 0 ≤ 12; omega
    | cons r l => exact (hrr r (by simp)).2.1
  obtain ⟨A, hA⟩ : ∃ A, A = setsL xss.length k := ⟨_, rfl⟩
  obtain ⟨B, hB⟩ : ∃ B, B = setsL (colsN xss) k := ⟨_, rfl⟩
  have HMS : Hid (minorsS xss k = minAB xss k A B A.length 0) := by unfold Hid; rw [minAB_end, hA, hB]; rfl
  obtain ⟨s1, s1c, -⟩ := sets_ok hl hk1
  have s1l := choose_924 xss.length (by omega) k (by omega)
  rw [s1c] at s1l
  obtain ⟨s2, s2c, -⟩ := sets_ok hc12 hk2
  have s2l := choose_924 (colsN xss) (by omega) k (by omega)
  rw [s2c] at s2l
  rw [← hA] at s1 s1l
  rw [← hB] at s2 s2l
  have HSA : Hid (∀ W, Calls Tryz.prog 27 #[.int .i64 (xss.length : Int), .int .i64 (k : Int)] W fun e w' => ∃ v, e = .returned v ∧ Rows2 w' v (castS A) ∧ Ext W w') := fun W => by rw [hA]; exact refSets_any _ _ hl hk1 W
  have HSB : Hid (∀ W, Calls Tryz.prog 27 #[.int .i64 (colsN xss : Int), .int .i64 (k : Int)] W fun e w' => ∃ v, e = .returned v ∧ Rows2 w' v (castS B) ∧ Ext W w') := fun W => by rw [hB]; exact refSets_any _ _ hc12 hk2 W
  have HCO : Hid (∀ W, Ext w W → Calls Tryz.prog 19 #[v] W fun e w' => e = .returned (.int .i64 (colsN xss : Int)) ∧ W = w') := fun W hW => refCols_any xss v W (h.ext hW)
  have HMI : Hid (∀ R ∈ A, ∀ S ∈ B, tabE (partI xss R S) = 0 ∧ colsN (partI xss R S) = (partI xss R S).length ∧ refDetI (partI xss R S) = minorOf xss k R S) := fun R hR S hS =>
    ⟨part_tab hE (s1.len R hR) (s2.len S hS) (by omega), part_cols (s1.len R hR) (s2.len S hS), ref_minor hE (s1.len R hR) (s2.len S hS)⟩
  have HPAR : Hid (∀ R ∈ A, ∀ S ∈ B, ∀ vr vc W, Ext w W → Ints W vr (R.map fun x : Nat => (x : Int)) → Ints W vc (S.map fun x : Nat => (x : Int)) → Calls Tryz.prog 65 #[v, vr, vc] W fun e w' => ∃ u tags, e = .returned u ∧ RowsO intK 51 w' W.heap.size W.heap.size u tags (partI xss R S) ∧ Ext W w') := fun R hR S hS vr vc W hW h1 h2 =>
    part_any xss R S (colsN xss) v vr vc W (h.ext hW) h1 h2 (by rw [s1.len R hR]; omega) (by rw [s2.len S hS]; omega) (s1.lt R hR) (s2.lt S hS) (fun r hr => (hrr r hr).1) (by omega) (by omega)
  have HBDS : Hid (∀ R S, ∀ r ∈ partI xss R S, ∀ x ∈ r, -9223372036854775808 ≤ x ∧ x ≤ (9223372036854775807 : Int)) := fun R S => partI_bdR hE R S
  have HLEN : Hid ((∀ R ∈ A, R.length = k) ∧ (∀ S ∈ B, S.length = k) ∧ A.length ≤ 924 ∧ B.length ≤ 924) := ⟨s1.len, s2.len, by omega, by omega⟩
  obtain ⟨a, c, rfl, x1, x2, -, -⟩ := inCell.open h
  unfold maxLen at x2
  obtain ⟨n, hn⟩ : ∃ n, n = xss.length := ⟨_, rfl⟩
  obtain ⟨m, hm⟩ : ∃ m, m = colsN xss := ⟨_, rfl⟩
  obtain ⟨MS, hMS⟩ : ∃ M, M = minorsS xss k := ⟨_, rfl⟩
  rw [← hMS] at HMS ⊢
  rw [← hn] at HSA HCO HPAR x1 ⊢
  rw [← hm] at HSB HCO
  clear h hE ht hrr hA hB s1 s2 s1l s2l s1c s2c hn hm hMS hk1 hk2
  go_enter Tryz.func25, Tryz.ntmps25
  go_wp2_with fail
  refine (HSA.out _).mono ?_
  rintro e w1 ⟨vA, rfl, hRA, hE1⟩
  have HRA1 := Lib.hid hRA; have HE1 := Lib.hid hE1
  clear hRA hE1
  go_wp2_with fail
  refine (HCO.out _ HE1.out).mono ?_
  rintro e w1' ⟨rfl, rfl⟩
  go_wp2_with fail
  refine (HSB.out _).mono ?_
  rintro e w2 ⟨vB, rfl, hRB, hE2⟩
  have HRA := Lib.hid (HRA1.out.ext hE2)
  have HE2 := Lib.hid (HE1.out.trans hE2)
  obtain ⟨aA, cA, rfl, a1, a2, -, ha⟩ := inCell.open HRA.out
  obtain ⟨aB, cB, rfl, b1, b2, -, hb⟩ := inCell.open hRB
  have HA := Lib.hid ha; have HB := Lib.hid hb
  have hca : (castS A).length = A.length := by simp [castS]
  have hcb : (castS B).length = B.length := by simp [castS]
  rw [hca] at a1 ⊢
  rw [hcb] at b1 ⊢
  unfold maxLen at a2 b2
  clear hE2 hRB ha hb HRA1 hca hcb HSA HSB HCO
  obtain ⟨na, hna⟩ : ∃ n, n = A.length := ⟨_, rfl⟩
  obtain ⟨nb, hnb⟩ : ∃ n, n = B.length := ⟨_, rfl⟩
  have HNA := Lib.hid hna; have HNB := Lib.hid hnb
  rw [← hna] at a1 ⊢
  rw [← hnb] at b1 ⊢
  clear hna hnb
  go_wp2_with fail
  go_loopw [8, 5] (fun t o wr => ∃ i : Nat, i ≤ na ∧ t = .int .i64 i ∧ Hid (Ext w2 wr) ∧ Hid (Build wr w2.heap.size 26 1 o numC (minAB xss k A B i 0))) (fun t _ _ => na - (intOf t).toNat)
  case atStart => exact ⟨0, by omega, rfl, Ext.refl _, by rw [minAB_zero]; exact Build.nil _ _ _ _ _⟩
  case round =>
    obtain ⟨i, hi, rfl, HEO, HBO⟩ := hrel
    obtain ⟨wo, rfl⟩ : ∃ wo : World, wo = wr := ⟨_, rfl⟩
    by_cases hlt : i < na
    · obtain ⟨rr, hrr⟩ : ∃ y, A[i]? = some y := ⟨A[i]'(by rw [← HNA.out]; exact hlt), List.getElem?_eq_getElem _⟩
      have HRM : Hid (rr ∈ A) := List.mem_of_getElem? hrr
      obtain ⟨ba, oa, rfl, -, hac⟩ := HA.out (by intro e; have := congrArg List.length e; simp [castS] at this; have := HNA.out; rw [‹A = []›] at this; simp at this; omega)
      obtain ⟨vrr, hvr, hcr⟩ := hac i _ (castS_get hrr)
      obtain ⟨arr, crr, rfl, r1, r2, -, -, -⟩ := hvr.open
      have HVR := Lib.hid hvr; have HCR := Lib.hid hcr
      have hrl : (rr.map fun x : Nat => (x : Int)).length = k := by rw [List.length_map]; exact HLEN.out.1 rr HRM.out
      rw [hrl] at HVR HCR r1
      have HROW := Lib.hid (minAB_row (xss := xss) (k := k) (B := B) hrr)
      have HGR := Lib.hid hrr
      unfold maxLen at r2
      clear hac hvr hcr hrr hrl
      have hin : (i : Int) < (na : Int) := by omega
      go_wp2_with fail
      go_loopw [9, 5] (fun t o wr => ∃ j : Nat, j ≤ nb ∧ t = .int .i64 j ∧ Hid (Ext w2 wr) ∧ Hid (Build wr w2.heap.size 26 1 o numC (minAB xss k A B i j))) (fun t _ _ => nb - (intOf t).toNat)
      case atStart => exact ⟨0, by omega, rfl, HEO.out, HBO.out⟩
      case round =>
        obtain ⟨j, hj, rfl, HEI, HBI⟩ := hrel
        obtain ⟨wi, rfl⟩ : ∃ wi : World, wi = wr := ⟨_, rfl⟩
        by_cases hjl : j < nb
        · obtain ⟨cc, hcc⟩ : ∃ y, B[j]? = some y := ⟨B[j]'(by rw [← HNB.out]; exact hjl), List.getElem?_eq_getElem _⟩
          have HCM : Hid (cc ∈ B) := List.mem_of_getElem? hcc
          obtain ⟨bb, ob, rfl, -, hbc⟩ := HB.out (by intro e; have := congrArg List.length e; simp [castS] at this; have := HNB.out; rw [‹B = []›] at this; simp at this; omega)
          obtain ⟨vcc, hvc, hcc2⟩ := hbc j _ (castS_get hcc)
          obtain ⟨acc, ccc, rfl, c1, c2, -, -, -⟩ := hvc.open
          have hcl : (cc.map fun x : Nat => (x : Int)).length = k := by rw [List.length_map]; exact HLEN.out.2.1 cc HCM.out
          rw [hcl] at hvc hcc2 c1
          have HVC := Lib.hid hvc
          have g1 := HEI.out.cell HCR.out
          have g2 := HEI.out.cell hcc2
          have HST := Lib.hid (minAB_step (xss := xss) (k := k) HGR.out hcc)
          obtain ⟨m1, m2, m3⟩ := HMI.out rr HRM.out cc HCM.out
          have HM1 := Lib.hid m1; have HM2 := Lib.hid m2
          have HPB := Lib.hid (HBDS.out rr cc)
          have HPA : Hid (∀ W, Ext wi W → Calls Tryz.prog 65 #[.slice a n c, .slice arr k crr, .slice acc k ccc] W fun e w' => ∃ u tags, e = .returned u ∧ RowsO intK 51 w' W.heap.size W.heap.size u tags (partI xss rr cc) ∧ Ext W w') := fun W hW =>
            HPAR.out rr HRM.out cc HCM.out _ _ W ((HE2.out.trans HEI.out).trans hW) (HVR.out.ext (HEI.out.trans hW)) (HVC.out.ext (HEI.out.trans hW))
          have HDE : Hid (∀ u W, Rows2 W u (partI xss rr cc) → Ext wi W → Calls Tryz.prog 20 #[u] W fun e w' => e = .returned (.string (intB (minorOf xss k rr cc))) ∧ Ext W w') := fun u W hu hW => by
            have := refDet_any (partI xss rr cc) u W hu HM1.out HM2.out (HT.out.ext ((HE2.out.trans HEI.out).trans hW))
            rw [m3] at this; exact this
          have HLL : Hid ((minAB xss k A B i j).length < 1000000) := by
            have := minAB_lenB xss k A B i j
            have h2 := Nat.mul_le_mul HLEN.out.2.2.1 HLEN.out.2.2.2
            have := HLEN.out.2.2
            unfold Hid; omega
          have HSZ : Hid (w2.heap.size ≤ wi.heap.size) := HEI.out.size
          have hjn : (j : Int) < (nb : Int) := by omega
          unfold maxLen at c2
          clear hcc hbc hvc hcc2 hcl m1 m2 m3
          go_upto_region 9 with fail
          --<R9
          refine region_anyE (fun w' => w'.cell? ⟨ba, oa + i, none⟩ = some (.slice arr k crr) ∧ w'.cell? ⟨bb, ob + j, none⟩ = some (.slice acc k ccc) ∧ Hid (Ext wi w')) 13 (by kernel_rfl) ⟨(Ext.drew wi).cell g1, (Ext.drew wi).cell g2, Ext.drew wi⟩ (fun hHeld => ?_)
          refine anyE_takeW (v := ?_) 0 rfl (by kernel_rfl) (by kernel_rfl) (by kernel_rfl) (by decide) (fun _ _ _ h => h) (Or.inl ⟨by rfl, ?_⟩) (by assumption) ?_
          rotate_left
          · ((intro w'); (try go_simp); (try with_reducible rfl))
          (try simp only [Act.put, List.setIfInBounds_toArray, List.set_cons_zero, List.set_cons_succ])
          refine anyE_takeW (v := ?_) 1 rfl (by kernel_rfl) (by kernel_rfl) (by kernel_rfl) (by decide) (fun _ _ _ h => h) (Or.inl ⟨by rfl, ?_⟩) (by assumption) ?_
          rotate_left
          · ((intro w'); (try go_simp); (try with_reducible rfl))
          (try simp only [Act.put, List.setIfInBounds_toArray, List.set_cons_zero, List.set_cons_succ])
          refine anyE_takeW (v := ?_) 2 rfl (by kernel_rfl) (by kernel_rfl) (by kernel_rfl) (by decide) (fun _ _ _ h => h) (Or.inl ⟨by rfl, ?_⟩) (by assumption) ?_
          rotate_left
          · ((intro w'); (try go_simp); (try with_reducible rfl))
          (try simp only [Act.put, List.setIfInBounds_toArray, List.set_cons_zero, List.set_cons_succ])
          refine anyE_takeW (v := ?_) 3 rfl (by kernel_rfl) (by kernel_rfl) (by kernel_rfl) (by decide) (fun _ _ _ h => h) (Or.inl ⟨by rfl, ?_⟩) (by assumption) ?_
          rotate_left
          · ((intro w'); (try go_simp); (try with_reducible rfl))
          (try simp only [Act.put, List.setIfInBounds_toArray, List.set_cons_zero, List.set_cons_succ])
          refine anyE_takeW (v := ?_) 4 rfl (by kernel_rfl) (by kernel_rfl) (by kernel_rfl) (by decide) (fun _ _ _ h => h) (Or.inl ⟨by rfl, ?_⟩) (by assumption) ?_
          rotate_left
          · ((intro w'); (try go_simp); (try with_reducible rfl))
          (try simp only [Act.put, List.setIfInBounds_toArray, List.set_cons_zero, List.set_cons_succ])
          refine anyE_take (v := ?_) 5 rfl (by kernel_rfl) (by kernel_rfl) (by kernel_rfl) (by kernel_rfl) (by kernel_rfl) (fun _ _ _ h => h) (Or.inl ⟨by rfl, ?_⟩) (by assumption) ?_
          rotate_left
          · ((intro w' hSw); (try dsimp only at hSw); (try go_simp); (try with_reducible rfl))
          (try simp only [Act.put, List.setIfInBounds_toArray, List.set_cons_zero, List.set_cons_succ])
          refine anyE_takeW (v := ?_) 6 rfl (by kernel_rfl) (by kernel_rfl) (by kernel_rfl) (by decide) (fun _ _ _ h => h) (Or.inl ⟨by rfl, ?_⟩) (by assumption) ?_
          rotate_left
          · ((intro w'); (try go_simp); (try with_reducible rfl))
          (try simp only [Act.put, List.setIfInBounds_toArray, List.set_cons_zero, List.set_cons_succ])
          refine anyE_takeW (v := ?_) 7 rfl (by kernel_rfl) (by kernel_rfl) (by kernel_rfl) (by decide) (fun _ _ _ h => h) (Or.inl ⟨by rfl, ?_⟩) (by assumption) ?_
          rotate_left
          · ((intro w'); (try go_simp); (try with_reducible rfl))
          (try simp only [Act.put, List.setIfInBounds_toArray, List.set_cons_zero, List.set_cons_succ])
          refine anyE_takeW (v := ?_) 8 rfl (by kernel_rfl) (by kernel_rfl) (by kernel_rfl) (by decide) (fun _ _ _ h => h) (Or.inl ⟨by rfl, ?_⟩) (by assumption) ?_
          rotate_left
          · ((intro w'); (try go_simp); (try with_reducible rfl))
          (try simp only [Act.put, List.setIfInBounds_toArray, List.set_cons_zero, List.set_cons_succ])
          refine anyE_take (v := ?_) 9 rfl (by kernel_rfl) (by kernel_rfl) (by kernel_rfl) (by kernel_rfl) (by kernel_rfl) (fun _ _ _ h => h) (Or.inl ⟨by rfl, ?_⟩) (by assumption) ?_
          rotate_left
          · ((intro w' hSw); (try dsimp only at hSw); (try go_simp); (try with_reducible rfl))
          (try simp only [Act.put, List.setIfInBounds_toArray, List.set_cons_zero, List.set_cons_succ])
          refine anyE_step 10 (by kernel_rfl) rfl (fun K hK => ?_)
          go_simp
          (go_at_call 65; refine (HPA.out _ (hHeld.2.2.out)).mono ?_)
          rintro e wz ⟨u1, tg1, rfl, hO1, hEz⟩
          have HO1 := Lib.hid (hO1.rows2 HPB.out)
          clear hO1
          go_wp2_with fail
          refine hK.out _ _ ⟨(hEz).cell hHeld.1, (hEz).cell hHeld.2.1, Ext.trans hHeld.2.2.out (hEz)⟩ (fun hHeld => ?_)
          clear hK K
          (try simp only [Act.put, List.setIfInBounds_toArray, List.set_cons_zero, List.set_cons_succ])
          refine anyE_step 11 (by kernel_rfl) rfl (fun K hK => ?_)
          go_simp
          (go_at_call 20; refine (HDE.out _ _ HO1.out hHeld.2.2.out).mono ?_)
          rintro e wy ⟨rfl, hEz⟩
          go_wp2_with fail
          refine hK.out _ _ ⟨(hEz).cell hHeld.1, (hEz).cell hHeld.2.1, Ext.trans hHeld.2.2.out (hEz)⟩ (fun hHeld => ?_)
          clear hK K
          (try simp only [Act.put, List.setIfInBounds_toArray, List.set_cons_zero, List.set_cons_succ])
          have HWY : Hid (Ext wi wy) := hHeld.2.2
          refine anyE_step 12 (by kernel_rfl) rfl (fun K hK => ?_)
          go_simp
          refine hK.out _ _ ⟨(Ext.alloc _ _).cell hHeld.1, (Ext.alloc _ _).cell hHeld.2.1, Ext.trans hHeld.2.2.out (Ext.alloc _ _)⟩ (fun hHeld => ?_)
          clear hK K
          (try simp only [Act.put, List.setIfInBounds_toArray, List.set_cons_zero, List.set_cons_succ])
          refine anyE_stepZ 13 (by kernel_rfl) (by kernel_rfl) rfl (fun K hK => ?_)
          refine step_append_build wy (by rfl) _ _ 40 (by rfl) w2.heap.size 26 (.string ⟨#[]⟩) 1 16 Tryz.underlying40 infoNum (by rfl) (by decide) u5 numC (minAB xss k A B i j) (minorOf xss k rr cc) #[.string (intB (minorOf xss k rr cc))] 26 (by rfl) (HBI.out.ext (Hid.out (p := Ext wi wy) (by assumption))) (by rfl) (by rfl) (by simp [Value.oneCell']) (fun _ _ => rfl) HLL.out (by decide) (Nat.le_trans HSZ.out (Hid.out (p := Ext wi wy) (by assumption)).size) ?_
          intro v' w6 hB6 hg6 hb6 hs6 _
          rw [← HST.out] at hB6
          have HB6 := Lib.hid hB6
          have HX6 : Hid (Ext w2 w6) := Below.trans (HEI.out.trans (Hid.out (p := Ext wi wy) (by assumption))) hb6
          clear hB6 hg6 hb6
          refine hK.out _ _ ?_
          clear hK K
          (try simp only [Act.put, List.setIfInBounds_toArray, List.set_cons_zero, List.set_cons_succ])
          refine anyE_last 14 (by kernel_rfl) (by kernel_rfl) (by kernel_rfl) rfl (fun K hK => ?_)
          go_simp
          refine hK.out _ _ ?_
          clear hK K
          (try simp only [Act.put, List.setIfInBounds_toArray, List.set_cons_zero, List.set_cons_succ])
          -->R9
          go_wp2_with fail
          go_roundw
          case rel => exact ⟨j + 1, by omega, by go_num, HX6.out, HB6.out⟩
          case measure => simp [intOf]; omega
        · obtain rfl : j = nb := by omega
          rw [HNB.out, HROW.out] at HBI
          go_wp2_with fail
          go_roundw
          case rel => exact ⟨i + 1, by omega, by go_num, HEI.out, HBI.out⟩
          case measure => simp [intOf]; omega
    · obtain rfl : i = na := by omega
      rw [HNA.out, ← HMS.out] at HBO
      have HX := Lib.hid (HE2.out.trans HEO.out)
      go_wp2_with fail
      go_ret
      exact ⟨_, rfl, HBO.out.list, HX.out⟩
end Go.Proofs.YtpeinobepiodaaaGreatDoor
/- Law 06's sameInts, at the same list, as a contract. -/
namespace Go.Proofs.YtpeinobepiodaaaGreatDoor
set_option linter.unusedVariables false
set_option linter.unusedSimpArgs false
open Go.RowKit

set_option maxRecDepth 100000 in
theorem sameInts_any (xs : List Int) (u v : Value) (w : World) (hu : ListAt 1 numC w u xs) (hv : ListAt 1 numC w v xs) :
    Calls Tryz.prog 24 #[u, v] w fun e w' => e = .returned (.bool true) ∧ Ext w w' := by
  obtain ⟨a, c, rfl, h1, h2, -, hx⟩ := ListAt.open hu
  obtain ⟨a', c', rfl, k1, k2, -, hy⟩ := ListAt.open hv
  unfold maxLen at h2 k2
  have HX := Lib.hid hx; have HY := Lib.hid hy
  have hb : ((xs.length : Int) != (xs.length : Int)) = false := by simp
  clear hu hv hx hy
  go_enter Tryz.func24, Tryz.ntmps24
  go_wp2_with fail
  go_loopw [5] (fun t wr => ∃ j : Nat, j ≤ xs.length ∧ t = .int .i64 j ∧ Ext w wr) (fun t _ => xs.length - (intOf t).toNat)
  case atStart => exact ⟨0, by omega, rfl, Ext.refl _⟩
  case round =>
    obtain ⟨j, hj, rfl, hE⟩ := hrel
    by_cases hlt : j < xs.length
    · obtain ⟨b, off, rfl, -, hc1⟩ := HX.out (by omega) (by intro e; rw [e] at hlt; simp at hlt)
      obtain ⟨b', off', rfl, -, hc2⟩ := HY.out (by omega) (by intro e; rw [e] at hlt; simp at hlt)
      obtain ⟨x, hx⟩ : ∃ x, xs[j]? = some x := ⟨xs[j], List.getElem?_eq_getElem hlt⟩
      obtain ⟨u1, -, rfl, d1⟩ := hc1 j x hx
      obtain ⟨u2, -, rfl, d2⟩ := hc2 j x hx
      have g1 : wr.cell? ⟨b, off + j, none⟩ = some (.string (intB x)) := hE.cell (by have := d1 0 (by omega); simpa using this)
      have g2 : wr.cell? ⟨b', off' + j, none⟩ = some (.string (intB x)) := hE.cell (by have := d2 0 (by omega); simpa using this)
      clear d1 d2 hc1 hc2 hx
      generalize intB x = s at g1 g2
      go_wp2_with fail
      go_quiet (fail)
      go_wp2_with fail
      go_roundw
      case rel => exact ⟨j + 1, by omega, by go_num, Ext.draws hE _⟩
      case measure => simp [intOf]; omega
    · obtain rfl : j = xs.length := by omega
      go_wp2_with fail
      go_ret
      exact ⟨rfl, hE⟩
end Go.Proofs.YtpeinobepiodaaaGreatDoor
/- table.Minors of what is not right, or out of range; printed by gen/minbad.py. -/
namespace Go.Proofs.YtpeinobepiodaaaGreatDoor
set_option linter.unusedVariables false
set_option linter.unusedSimpArgs false
open Go.RowKit

set_option maxRecDepth 100000 in
set_option maxHeartbeats 2000000 in
theorem minors_bad (xss : List (List Int)) (kk : Int) (v : Value) (w : World) (h : Rows2 w v xss) (hE : tabE xss ≠ 0) :
    Calls Tryz.prog 23 #[v, .int .i64 kk] w fun e w' => e = .returned (.tuple #[.slice none 0 0, .int .i64 (tabE xss)]) ∧ Ext w w' := by
  have HCH : Hid (∀ W, Ext w W → Calls Tryz.prog 41 #[v] W fun e w' => e = .returned (.int .i64 (tabE xss)) ∧ Ext W w') := fun W hW => tabCheck_any xss v W (h.ext hW)
  obtain ⟨E, hEE⟩ : ∃ E, E = tabE xss := ⟨_, rfl⟩
  rw [← hEE] at HCH hE ⊢
  have q : (E != 0) = true := by simpa using hE
  obtain ⟨a, c, rfl, h1, h2, -, -⟩ := inCell.open h
  obtain ⟨n, hn⟩ : ∃ n, n = xss.length := ⟨_, rfl⟩
  rw [← hn] at HCH ⊢
  unfold maxLen at h2
  clear h hE hEE hn
  refine (callsIn_wide (n := 9)).1 ?_
  refine callsIn_of_wp_marks Tryz.func23 rfl trivial ?_ rfl
  simp only [Tryz.ntmps23, List.size_toArray, List.length_cons, List.length_nil, Nat.reduceAdd, Nat.reduceSub, Array.replicate_succ, Array.replicate_zero, List.push_toArray, List.append_toArray, List.nil_append, List.cons_append]
  obtain ⟨W2, hW2⟩ : ∃ W2, (w.alloc (.cells #[.slice a n c] 23)).alloc (.cells #[.int .i64 kk] 3) = W2 := ⟨_, rfl⟩
  have hX2 : Ext w W2 := by rw [← hW2]; exact (Ext.alloc _ _).trans (Ext.alloc _ _)
  have hs2 : W2.heap.size = w.heap.size + 2 := by rw [← hW2]; simp
  have hb1 : Boxed W2 w.heap.size 23 (.slice a n c) := by
    rw [← hW2]; exact Boxed.alloc (Boxed.new w _ _) _
  have hb2 : Boxed W2 (w.heap.size + 1) 3 (.int .i64 kk) := by
    rw [← hW2]
    have := Boxed.new (w.alloc (.cells #[.slice a n c] 23)) 3 (.int .i64 kk)
    simpa using this
  have HX2 := Lib.hid hX2; have HB1 := Lib.hid hb1; have HB2 := Lib.hid hb2; have HS2 := Lib.hid hs2
  have d1 := hb1.cell; have d2 := hb2.cell
  clear hX2 hs2 hb1 hb2
  refine wpIn_wide.2 ?_
  go_wp2_with fail
  refine (HCH.out _ HX2.out).mono ?_
  rintro e w1 ⟨rfl, hE1⟩
  have HX1 := Lib.hid (Ext.trans HX2.out hE1)
  clear hE1 d1 d2 hW2 HCH HB1 HB2 HS2
  go_wp2_with fail
  refine ⟨_, results_tmp2 rfl _ _ _, rfl, ?_⟩
  exact HX1.out
set_option maxRecDepth 100000 in
set_option maxHeartbeats 4000000 in
theorem minors_range (xss : List (List Int)) (kk : Int) (v : Value) (w : World) (h : Rows2 w v xss) (hE : tabE xss = 0) (hk : kk < 0 ∨ (xss.length : Int) < kk ∨ (colsN xss : Int) < kk) :
    Calls Tryz.prog 23 #[v, .int .i64 kk] w fun e w' => e = .returned (.tuple #[.slice none 0 0, .int .i64 3]) ∧ Ext w w' := by
  have HCH : Hid (∀ W, Ext w W → Calls Tryz.prog 41 #[v] W fun e w' => e = .returned (.int .i64 0) ∧ Ext W w') := fun W hW => by
    have := tabCheck_any xss v W (h.ext hW)
    rw [hE] at this; exact this
  have HCO : Hid (∀ W, Ext w W → Calls Tryz.prog 43 #[v] W fun e w' => e = .returned (.int .i64 (colsN xss : Int)) ∧ w' = W) := fun W hW => (columns_any xss v W (h.ext hW)).mono fun _ _ ⟨a, b⟩ => ⟨a, b.symm⟩
  obtain ⟨a, c, rfl, h1, h2, -, -⟩ := inCell.open h
  obtain ⟨n, hn⟩ : ∃ n, n = xss.length := ⟨_, rfl⟩
  obtain ⟨m, hm⟩ : ∃ m, m = colsN xss := ⟨_, rfl⟩
  rw [← hn] at HCH HCO hk ⊢
  rw [← hm] at HCO hk
  unfold maxLen at h2
  clear h hE hn hm
  refine (callsIn_wide (n := 9)).1 ?_
  refine callsIn_of_wp_marks Tryz.func23 rfl trivial ?_ rfl
  simp only [Tryz.ntmps23, List.size_toArray, List.length_cons, List.length_nil, Nat.reduceAdd, Nat.reduceSub, Array.replicate_succ, Array.replicate_zero, List.push_toArray, List.append_toArray, List.nil_append, List.cons_append]
  obtain ⟨W2, hW2⟩ : ∃ W2, (w.alloc (.cells #[.slice a n c] 23)).alloc (.cells #[.int .i64 kk] 3) = W2 := ⟨_, rfl⟩
  have hX2 : Ext w W2 := by rw [← hW2]; exact (Ext.alloc _ _).trans (Ext.alloc _ _)
  have hs2 : W2.heap.size = w.heap.size + 2 := by rw [← hW2]; simp
  have hb1 : Boxed W2 w.heap.size 23 (.slice a n c) := by
    rw [← hW2]; exact Boxed.alloc (Boxed.new w _ _) _
  have hb2 : Boxed W2 (w.heap.size + 1) 3 (.int .i64 kk) := by
    rw [← hW2]
    have := Boxed.new (w.alloc (.cells #[.slice a n c] 23)) 3 (.int .i64 kk)
    simpa using this
  have HX2 := Lib.hid hX2; have HB1 := Lib.hid hb1; have HB2 := Lib.hid hb2; have HS2 := Lib.hid hs2
  have d1 := hb1.cell; have d2 := hb2.cell
  clear hX2 hs2 hb1 hb2
  refine wpIn_wide.2 ?_
  go_wp2_with fail
  refine (HCH.out _ HX2.out).mono ?_
  rintro e w1 ⟨rfl, hE1⟩
  have HX1 := Lib.hid (Ext.trans HX2.out hE1)
  have e1 := hE1.cell d1; have e2 := hE1.cell d2
  have HBX1 : Hid (Boxed w1 w.heap.size 23 (.slice a n c) ∧ Boxed w1 (w.heap.size + 1) 3 (.int .i64 kk) ∧ w.heap.size + 2 ≤ w1.heap.size) := ⟨block_ext HB1.out hE1, block_ext HB2.out hE1, by have := hE1.size; have := HS2.out; omega⟩
  clear hE1 d1 d2 hW2 HCH
  by_cases q0 : kk < 0
  · have z0 := decide_eq_true q0
    go_wp2_with fail
    go_quiet ((go_at_call 43; exact Calls.quiet_of_same (HCO.out _ (Ext.draws HX1.out _))))
    go_wp2_with fail
    refine ⟨_, results_tmp2 rfl _ _ _, rfl, ?_⟩
    exact Ext.draws HX1.out _
  · have z0 := decide_eq_false q0
    by_cases q1 : (n : Int) < kk
    · have z1 := decide_eq_true q1
      go_wp2_with fail
      go_quiet ((go_at_call 43; exact Calls.quiet_of_same (HCO.out _ (Ext.draws HX1.out _))))
      go_wp2_with fail
      refine ⟨_, results_tmp2 rfl _ _ _, rfl, ?_⟩
      exact Ext.draws HX1.out _
    · have z1 := decide_eq_false q1
      have q2 : (m : Int) < kk := by omega
      have z2 := decide_eq_true q2
      go_wp2_with fail
      go_quiet ((go_at_call 43; exact Calls.quiet_of_same (HCO.out _ (Ext.draws HX1.out _))))
      go_wp2_with fail
      refine ⟨_, results_tmp2 rfl _ _ _, rfl, ?_⟩
      exact Ext.draws HX1.out _
end Go.Proofs.YtpeinobepiodaaaGreatDoor
