/- Merged: TmpE, RegU, RegV. -/
import Derived.Test.YtehknemdfbkimaaGreatDoorSAW
import Derived.Test.YtehknemdfbkimaaGreatDoorSAT
import Derived.Test.YtehknemdfbkimaaGreatDoorSAA
/- Contracts of package temperament at a right temperament: Rank, Corank, begin. -/
namespace Go.Proofs.YtehknemdfbkimaaGreatDoor
set_option linter.unusedVariables false
set_option linter.unusedSimpArgs false
open Go.RowKit

set_option maxRecDepth 100000 in
set_option maxHeartbeats 2000000 in
theorem trank_any (n F : Nat) (P : List Int) (C M : List (List Int)) (v : Value) (w : World) (hV : TempV w v P C M) (hR : RightT n F P C M) (hlib : LibT w) (hp : 0 < w.heap.size) :
    Calls Tryz.prog 55 #[v] w fun e w' => e = .returned (.tuple #[.int .i64 M.length, .int .i64 0]) ∧ Ext w w' := by
  have HCK := Lib.hid (fun W (hW : Ext w W) => tcheck_any n F P C M v W (hV.ext hW) hR (hlib.ext hW) (Nat.lt_of_lt_of_le hp hW.size))
  obtain ⟨vp, vc, vm, rfl, hvp, hvc, hvm⟩ := hV
  obtain ⟨ap, cp, rfl, -⟩ := hvp.open
  obtain ⟨ac, cc, rfl, -⟩ := inCell.open hvc
  obtain ⟨am, cm, rfl, -⟩ := inCell.open hvm
  clear hvp hvc hvm hR hlib hp
  go_enter Tryz.func55, Tryz.ntmps55
  obtain ⟨W1, hW1, hE1, hs1, hb1⟩ := tp_new w (.slice ap P.length cp) (.slice ac C.length cc) (.slice am M.length cm)
  have HB1 := Lib.hid hb1; have HE1 := Lib.hid hE1
  obtain ⟨b0, b1, b2, -⟩ := tp_block hb1
  clear hE1 hs1 hb1
  go_wp2_with fail
  refine (HCK.out _ HE1.out).mono ?_
  rintro e w2 ⟨rfl, hE2⟩
  have HE2 := Lib.hid (HE1.out.trans hE2)
  obtain ⟨c0, c1, c2, -⟩ := tp_block (block_ext HB1.out hE2)
  clear hE2 HCK HB1 HE1 b0 b1 b2
  go_wp2_with fail
  go_ret2
  exact ⟨rfl, HE2.out⟩
set_option maxRecDepth 100000 in
set_option maxHeartbeats 2000000 in
theorem tcorank_any (n F : Nat) (P : List Int) (C M : List (List Int)) (v : Value) (w : World) (hV : TempV w v P C M) (hR : RightT n F P C M) (hlib : LibT w) (hp : 0 < w.heap.size) :
    Calls Tryz.prog 56 #[v] w fun e w' => e = .returned (.tuple #[.int .i64 C.length, .int .i64 0]) ∧ Ext w w' := by
  have HCK := Lib.hid (fun W (hW : Ext w W) => tcheck_any n F P C M v W (hV.ext hW) hR (hlib.ext hW) (Nat.lt_of_lt_of_le hp hW.size))
  obtain ⟨vp, vc, vm, rfl, hvp, hvc, hvm⟩ := hV
  obtain ⟨ap, cp, rfl, -⟩ := hvp.open
  obtain ⟨ac, cc, rfl, -⟩ := inCell.open hvc
  obtain ⟨am, cm, rfl, -⟩ := inCell.open hvm
  clear hvp hvc hvm hR hlib hp
  go_enter Tryz.func56, Tryz.ntmps56
  obtain ⟨W1, hW1, hE1, hs1, hb1⟩ := tp_new w (.slice ap P.length cp) (.slice ac C.length cc) (.slice am M.length cm)
  have HB1 := Lib.hid hb1; have HE1 := Lib.hid hE1
  obtain ⟨b0, b1, b2, -⟩ := tp_block hb1
  clear hE1 hs1 hb1
  go_wp2_with fail
  refine (HCK.out _ HE1.out).mono ?_
  rintro e w2 ⟨rfl, hE2⟩
  have HE2 := Lib.hid (HE1.out.trans hE2)
  obtain ⟨c0, c1, c2, -⟩ := tp_block (block_ext HB1.out hE2)
  clear hE2 HCK HB1 HE1 b0 b1 b2
  go_wp2_with fail
  go_ret2
  exact ⟨rfl, HE2.out⟩

theorem allE_cons (n : Int) (x : List Int) (l : List (List Int)) : allE n (x :: l) = if rowE x = 0 then (if (x.length : Int) = n then allE n l else 5) else rowE x := rfl
set_option maxRecDepth 100000 in
set_option maxHeartbeats 4000000 in
/-- begin at a right temperament: the first error of the intervals. -/
theorem begin_any (n F : Nat) (P : List Int) (C M : List (List Int)) (v vl : Value) (rows : List (List Int)) (w : World) (hV : TempV w v P C M) (hl : Rows2 w vl rows) (hR : RightT n F P C M) (hlib : LibT w) (hp : 0 < w.heap.size) :
    Calls Tryz.prog 105 #[v, vl] w fun e w' => e = .returned (.int .i64 (allE n rows)) ∧ Ext w w' := by
  have HCK := Lib.hid (fun W (hW : Ext w W) => tcheck_any n F P C M v W (hV.ext hW) hR (hlib.ext hW) (Nat.lt_of_lt_of_le hp hW.size))
  obtain ⟨vp, vc, vm, rfl, hvp, hvc, hvm⟩ := hV
  have hPl := hR.pl
  obtain ⟨ap, cp, rfl, -⟩ := hvp.open
  obtain ⟨ac, cc, rfl, -⟩ := inCell.open hvc
  obtain ⟨am, cm, rfl, -⟩ := inCell.open hvm
  obtain ⟨al, cl, rfl, l1, l2, -, lc⟩ := inCell.open hl
  have HLC := Lib.hid lc
  unfold maxLen at l2
  rw [hPl] at HCK ⊢
  have hn4 := hR.n4
  clear hvp hvc hvm hR hlib hp hl lc hPl
  obtain ⟨E, hE⟩ : ∃ E, allE n rows = E := ⟨_, rfl⟩
  have HE0 := Lib.hid hE
  rw [hE]
  clear hE
  go_enter Tryz.func105, Tryz.ntmps105
  obtain ⟨W1, hW1, hE1, hs1, hb1⟩ := tp_new w (.slice ap n cp) (.slice ac C.length cc) (.slice am M.length cm)
  have HB1 := Lib.hid hb1; have HE1 := Lib.hid hE1
  obtain ⟨b0, b1, b2, -⟩ := tp_block hb1
  clear hE1 hs1 hb1
  go_wp2_with fail
  refine (HCK.out _ HE1.out).mono ?_
  rintro e w2 ⟨rfl, hE2⟩
  have HE2 := Lib.hid (HE1.out.trans hE2)
  have HB2 := Lib.hid (block_ext HB1.out hE2)
  clear hE2 HCK HB1 HE1 b0 b1 b2 hW1
  go_wp2_with fail
  go_loopw [16] (fun t wr => ∃ j : Nat, j ≤ rows.length ∧ t = .int .i64 j ∧ Hid (Ext w2 wr) ∧ Hid (allE n (rows.drop j) = E)) (fun t _ => rows.length - (intOf t).toNat)
  case atStart => exact ⟨0, by omega, rfl, Ext.refl _, by unfold Hid; rw [List.drop_zero]; exact HE0.out⟩
  case round =>
    obtain ⟨j, hj, rfl, HE, HD⟩ := hrel
    obtain ⟨wo, rfl⟩ : ∃ wo : World, wo = wr := ⟨_, rfl⟩
    by_cases hlt : j < rows.length
    · obtain ⟨bl, ol, rfl, hbl, hcell⟩ := HLC.out (by intro e; simp [e] at hlt)
      obtain ⟨x, hx⟩ : ∃ x, rows[j]? = some x := ⟨rows[j], List.getElem?_eq_getElem hlt⟩
      obtain ⟨vr, hvr, hcr⟩ := hcell j x hx
      have HEw := Lib.hid (HE2.out.trans HE.out)
      have g1 := HEw.out.cell hcr
      have hvr' := hvr.ext HEw.out
      have HRC := Lib.hid (rowCheck_any x vr wo hvr')
      obtain ⟨ax, cx, rfl, -⟩ := hvr'.open
      have hD := HD.out
      rw [drop_cons hx, allE_cons] at hD
      clear hvr hvr' hcell hcr hx
      by_cases hr : rowE x = 0
      · rw [if_pos hr] at hD
        rw [hr] at HRC
        by_cases hxn : (x.length : Int) = n
        · rw [if_pos hxn] at hD
          have HD2 := Lib.hid hD
          have hne : ((x.length : Int) != (n : Int)) = false := by simp; omega
          clear hD HD hxn hr
          go_wp2_with fail
          refine HRC.out.mono ?_
          rintro e w4 ⟨rfl, hE4⟩
          have HE4 := Lib.hid (HE.out.trans hE4)
          obtain ⟨c0, c1, c2, -⟩ := tp_block (block_ext HB2.out HE4.out)
          clear hE4 HRC
          go_wp2_with fail
          go_roundw
          case rel => exact ⟨j + 1, by omega, by go_num, HE4.out, HD2.out⟩
          case measure => simp [intOf]; omega
        · rw [if_neg hxn] at hD
          have HD2 := Lib.hid hD
          have hne : ((x.length : Int) != (n : Int)) = true := by simp; omega
          clear hD HD hxn hr
          go_wp2_with fail
          refine HRC.out.mono ?_
          rintro e w4 ⟨rfl, hE4⟩
          have HE4 := Lib.hid (HE.out.trans hE4)
          obtain ⟨c0, c1, c2, -⟩ := tp_block (block_ext HB2.out HE4.out)
          clear hE4 HRC
          go_wp2_with fail
          go_ret
          exact ⟨by rw [← HD2.out]; rfl, HE2.out.trans HE4.out⟩
      · rw [if_neg hr] at hD
        rw [hD] at HRC hr
        have hz : (E == 0) = false := by simpa using hr
        have hz2 : (E != 0) = true := by simpa using hr
        clear hD HD hr
        go_wp2_with fail
        refine HRC.out.mono ?_
        rintro e w4 ⟨rfl, hE4⟩
        have HE4 := Lib.hid (HE.out.trans hE4)
        clear hE4 HRC
        go_wp2_with fail
        go_ret
        exact ⟨rfl, HE2.out.trans HE4.out⟩
    · obtain rfl : j = rows.length := by omega
      have hD := HD.out
      rw [List.drop_length] at hD
      have HD2 : Hid ((0 : Int) = E) := hD
      clear hD HD
      go_wp2_with fail
      go_ret
      exact ⟨by rw [← HD2.out]; rfl, HE2.out.trans HE.out⟩
end Go.Proofs.YtehknemdfbkimaaGreatDoor
/- Long regions that draw their order and only read: the operations in the text's order, their array a variable; the condition on the world holds throughout. -/
namespace Go.Proofs.YtehknemdfbkimaaGreatDoor
set_option linter.unusedVariables false
open Go.RowKit
section
variable {P : Program} {ops : Array Oper} {Q : Exit → Act → World → Prop} {md : Region.Mode} {S : World → Prop} {z : Nat}
/-- As anyE_first; z is none of the operations. -/
theorem anyE_firstN {i : Nat} {oi : Oper} {v : Value} (hi : ops[i]? = some oi) (hsel : ∀ (j : Nat) (o : Oper) cs b, ops[j]? = some o → o.op ≠ .select cs b)
    (hQ : ∀ c a w, Q (.panic c) (a.put oi.dst v) w → Q (.panic c) a w) (f : Nat) :
    ∀ (l : Array Bool) (a : Act) (w : World), l.size ≤ z →
      (∀ j oj, ops[j]? = some oj → j ≠ i → l.getD j true = false → (∀ e ∈ oj.after, Region.binds md e = true → e.on ≠ i) → oi.apart ops oj = true) →
      i ∈ Region.ready md ops l → YieldsIf P ops S oi v a → S w →
      anyE P md ops Q S z f (l.setIfInBounds i true) (a.put oi.dst v) w → anyE P md ops Q S z (f + 1) l a w := by
  induction f with
  | zero =>
    intro l a w _ _ hr hy hS H
    refine ⟨(fun e => by rw [e] at hr; cases hr), fun j hj => ?_⟩
    by_cases e : j = i
    · rw [e]; exact hy.wpOp hi hS ⟨fun _ => hS, H⟩
    · have := ready_mono hj e
      rw [H.1] at this
      cases this
  | succ f ih =>
    intro l a w hlz hfree hr hy hS H
    refine ⟨(fun e => by rw [e] at hr; cases hr), fun j hj => ?_⟩
    by_cases e : j = i
    · rw [e]; exact hy.wpOp hi hS ⟨fun _ => hS, H⟩
    have hji : i ≠ j := fun x => e x.symm
    have un := (mem_ready.1 hj).1
    obtain ⟨oj, hoj, hall⟩ := (mem_ready.1 hj).2
    have ui := (mem_ready.1 hr).1
    have uf : l.getD i false = true → False := fun hc => by rw [not_listed ui] at hc; cases hc
    have hout : ∀ l' : Array Bool, l'.size ≤ z → l'.getD z false = false := fun l' h => by simp [Array.getElem?_eq_none h]
    have hno : ∀ d ∈ oj.after, Region.binds md d = true → d.on ≠ i := fun d hd hb hdi => uf (by have := hall d hd hb; rwa [hdi] at this)
    have step := wpOp_putIf hoj (hfree j oj hoj e un hno) (fun cs b => hsel i oi cs b hi) (fun cs b => hsel j oj cs b hoj) hQ hy (H.2 j (ready_mono hj e))
    refine wpOp_mono (fun b u hb => ?_) step
    obtain ⟨hy2, hS2, hrest⟩ := hb
    have hSu : S u := hS2 (hout _ (by simpa using hlz))
    refine ⟨fun _ => hSu, ih (l.setIfInBounds j true) b u (by simpa using hlz) (fun k ok hk hki hun hn => ?_) (ready_mono hr hji) hy2 hSu ?_⟩
    · refine hfree k ok hk hki ?_ hn
      by_cases hjk : j = k
      · rw [← hjk]; exact un
      · rw [getD_set_ne true hjk] at hun; exact hun
    · rw [Array.setIfInBounds_comm _ _ e]; exact hrest
theorem anyE_takeN (i : Nat) {oi : Oper} {v : Value} {f : Nat} {l : Array Bool} {a : Act} {w : World} (hi : ops[i]? = some oi)
    (hs : Region.noSelect ops = true) (hf : Region.free md ops l i = true) (hr : (Region.ready md ops l).contains i = true) (hz : l.size ≤ z)
    (hQ : ∀ c a w, Q (.panic c) (a.put oi.dst v) w → Q (.panic c) a w) (hy : YieldsIf P ops S oi v a) (hS : S w)
    (h : anyE P md ops Q S z f (l.setIfInBounds i true) (a.put oi.dst v) w) : anyE P md ops Q S z (f + 1) l a w :=
  anyE_firstN hi (Region.noSelect_spec hs) hQ f l a w hz (Region.free_spec hi hf) (by simpa using hr) hy hS h
/-- The last one; S holds behind it too. -/
theorem anyE_lastN (i : Nat) {o : Oper} {f : Nat} {l : Array Bool} {a : Act} {w : World} (hr : Region.ready md ops l = [i]) (hr2 : Region.ready md ops (l.setIfInBounds i true) = []) (ho : ops[i]? = some o)
    (h : ∀ K : Act → World → Prop, Shut (∀ b u, S u → Q .normal b u → K b u) → if Region.wanted o (yielded ops a.tmps) = true then Oper.wp P o a w K Q else K (a.put o.dst undef) w) : anyE P md ops Q S z (f + 1) l a w := by
  refine ⟨(fun e => by rw [hr] at e; cases e), fun j hj => ?_⟩
  obtain rfl : j = i := by rw [hr] at hj; simpa using hj
  refine wpOp_step ho fun K hK => h K fun b u hS hq => hK b u ⟨fun _ => hS, ?_⟩
  cases f with
  | zero => exact ⟨hr2, hq⟩
  | succ f => exact ⟨fun _ => hq, by rw [hr2]; simp⟩
end
/-- The first i of n have come. -/
def upN (n i : Nat) : Array Bool := (List.replicate i true ++ List.replicate (n - i) false).toArray
theorem upN_step {n i : Nat} (h : decide (i < n) = true) : (upN n i).setIfInBounds i true = upN n (i + 1) := by
  have h := of_decide_eq_true h
  unfold upN
  rw [List.setIfInBounds_toArray, show n - i = (n - (i + 1)) + 1 by omega, List.replicate_succ]
  congr 1
  apply List.ext_getElem?
  intro j
  rw [List.getElem?_set]
  by_cases hj : i = j
  · subst hj
    simp only [if_true, List.length_append, List.length_replicate, List.length_cons]
    rw [if_pos (by omega), List.getElem?_append_left (by simp), List.getElem?_replicate, if_pos (by omega)]
  · rw [if_neg hj]
    simp only [List.getElem?_append, List.length_replicate, List.getElem?_replicate, List.getElem?_cons]
    by_cases h1 : j < i
    · simp [h1, show j < i + 1 by omega]
    · have : ¬ j < i + 1 := by omega
      have h3 : j - i ≠ 0 := by omega
      simp [h1, this, h3, show j - i - 1 = j - (i + 1) by omega]
section
variable {P : Program} {ops O : Array Oper} {Q : Exit → Act → World → Prop} {md : Region.Mode} {S : World → Prop} {z n : Nat}
theorem getopN (hO : Hid (ops = O)) (i : Nat) (h : i < O.size) : ops[i]? = some O[i] := by
  have hO : ops = O := hO
  subst hO
  exact Array.getElem?_eq_getElem h
theorem region_anyEUN (S : World → Prop) (z : Nat) (n : Nat) {id : Nat} {a : Act} {w : World} (hm : P.follows .mixedOrders = true) (hn : O.size = n) (hS : S w.drew)
    (h : ∀ ops, Hid (ops = O) → S w.drew → anyE P .any ops Q S z n (upN n 0) a w.drew) : (Code.region id O true).wp P Q a w :=
  region_anyE S z hm hS (fun hh => by have := h O rfl hh; rw [hn]; have e : Array.replicate n false = upN n 0 := by unfold upN; simp
                                      rw [e]; exact this)
theorem anyE_takeWUN (hO : Hid (ops = O)) (i : Nat) {oi : Oper} {v : Value} {f : Nat} {a : Act} {w : World} (hi : ops[i]? = some oi) (hin : decide (i < n) = true)
    (hs : Region.noSelect O = true) (hf : Region.free md O (upN n i) i = true) (hr : (Region.ready md O (upN n i)).contains i = true) (hz : i ≠ z)
    (hQ : ∀ c a w, Q (.panic c) (a.put oi.dst v) w → Q (.panic c) a w) (hy : Yields P O oi v a) (hS : S w)
    (h : anyE P md ops Q S z f (upN n (i + 1)) (a.put oi.dst v) w) : anyE P md ops Q S z (f + 1) (upN n i) a w := by
  have hO : ops = O := hO
  subst hO
  exact anyE_takeW i hi hs hf hr hz hQ hy hS (by rw [upN_step hin]; exact h)
theorem anyE_stepUN (hO : Hid (ops = O)) (i : Nat) {o : Oper} {f : Nat} {a : Act} {w : World} (hr : Region.ready md O (upN n i) = [i]) (ho : ops[i]? = some o) (hin : decide (i < n) = true)
    (h : ∀ K : Act → World → Prop, Shut (∀ b u, S u → (S u → anyE P md ops Q S z f (upN n (i + 1)) b u) → K b u) → if Region.wanted o (yielded O a.tmps) = true then Oper.wp P o a w K Q else K (a.put o.dst undef) w) : anyE P md ops Q S z (f + 1) (upN n i) a w := by
  have hO : ops = O := hO
  subst hO
  exact anyE_step i hr ho (by rw [upN_step hin]; exact h)
theorem upN_size (n i : Nat) (h : decide (i ≤ n) = true) : (upN n i).size = n := by
  have h := of_decide_eq_true h
  unfold upN
  simp; omega
theorem anyE_takeUN (hO : Hid (ops = O)) (i : Nat) {oi : Oper} {v : Value} {f : Nat} {a : Act} {w : World} (hi : ops[i]? = some oi) (hin : decide (i < n) = true)
    (hs : Region.noSelect O = true) (hf : Region.free md O (upN n i) i = true) (hr : (Region.ready md O (upN n i)).contains i = true) (hz : decide (n ≤ z) = true)
    (hQ : ∀ c a w, Q (.panic c) (a.put oi.dst v) w → Q (.panic c) a w) (hy : YieldsIf P O S oi v a) (hS : S w)
    (h : anyE P md ops Q S z f (upN n (i + 1)) (a.put oi.dst v) w) : anyE P md ops Q S z (f + 1) (upN n i) a w := by
  have hO : ops = O := hO
  subst hO
  have h1 := of_decide_eq_true hin
  have h2 := of_decide_eq_true hz
  exact anyE_takeN i hi hs hf hr (by rw [upN_size n i (decide_eq_true (by omega))]; exact h2) hQ hy hS (by rw [upN_step hin]; exact h)
theorem anyE_lastUN (hO : Hid (ops = O)) (i : Nat) {o : Oper} {f : Nat} {a : Act} {w : World} (hr : Region.ready md O (upN n i) = [i]) (hin : decide (i < n) = true) (hr2 : Region.ready md O (upN n (i + 1)) = []) (ho : ops[i]? = some o)
    (h : ∀ K : Act → World → Prop, Shut (∀ b u, S u → Q .normal b u → K b u) → if Region.wanted o (yielded O a.tmps) = true then Oper.wp P o a w K Q else K (a.put o.dst undef) w) : anyE P md ops Q S z (f + 1) (upN n i) a w := by
  have hO : ops = O := hO
  subst hO
  exact anyE_lastN i hr (by rw [upN_step hin]; exact hr2) ho h
end
end Go.Proofs.YtehknemdfbkimaaGreatDoor
/- Long regions that draw their order and only read, in an order of one's choice; the operations' array is a variable. -/
namespace Go.Proofs.YtehknemdfbkimaaGreatDoor
set_option linter.unusedVariables false
open Go.RowKit
section
variable {P : Program} {ops O : Array Oper} {Q : Exit → Act → World → Prop} {md : Region.Mode} {S : World → Prop} {z n : Nat}
theorem region_anyEV (S : World → Prop) (z : Nat) (n : Nat) {id : Nat} {a : Act} {w : World} (hm : P.follows .mixedOrders = true) (hn : O.size = n) (hS : S w.drew)
    (h : ∀ ops, Hid (ops = O) → S w.drew → anyE P .any ops Q S z n (Array.replicate n false) a w.drew) : (Code.region id O true).wp P Q a w :=
  region_anyE S z hm hS (fun hh => by have := h O rfl hh; rw [hn]; exact this)
theorem anyE_takeWV (hO : Hid (ops = O)) (i : Nat) {oi : Oper} {v : Value} {f : Nat} {l : Array Bool} {a : Act} {w : World} (hi : ops[i]? = some oi)
    (hs : Region.noSelect O = true) (hf : Region.free md O l i = true) (hr : (Region.ready md O l).contains i = true) (hz : decide (i ≠ z) = true)
    (hQ : ∀ c a w, Q (.panic c) (a.put oi.dst v) w → Q (.panic c) a w) (hy : Yields P O oi v a) (hS : S w)
    (h : anyE P md ops Q S z f (l.setIfInBounds i true) (a.put oi.dst v) w) : anyE P md ops Q S z (f + 1) l a w := by
  have hO : ops = O := hO
  subst hO
  exact anyE_takeW i hi hs hf hr (of_decide_eq_true hz) hQ hy hS h
theorem anyE_takeV (hO : Hid (ops = O)) (i : Nat) {oi : Oper} {v : Value} {f : Nat} {l : Array Bool} {a : Act} {w : World} (hi : ops[i]? = some oi)
    (hs : Region.noSelect O = true) (hf : Region.free md O l i = true) (hr : (Region.ready md O l).contains i = true) (hz : decide (l.size ≤ z) = true)
    (hQ : ∀ c a w, Q (.panic c) (a.put oi.dst v) w → Q (.panic c) a w) (hy : YieldsIf P O S oi v a) (hS : S w)
    (h : anyE P md ops Q S z f (l.setIfInBounds i true) (a.put oi.dst v) w) : anyE P md ops Q S z (f + 1) l a w := by
  have hO : ops = O := hO
  subst hO
  exact anyE_takeN i hi hs hf hr (of_decide_eq_true hz) hQ hy hS h
theorem anyE_stepV (hO : Hid (ops = O)) (i : Nat) {o : Oper} {f : Nat} {l : Array Bool} {a : Act} {w : World} (hr : Region.ready md O l = [i]) (ho : ops[i]? = some o)
    (h : ∀ K : Act → World → Prop, Shut (∀ b u, S u → (S u → anyE P md ops Q S z f (l.setIfInBounds i true) b u) → K b u) → if Region.wanted o (yielded O a.tmps) = true then Oper.wp P o a w K Q else K (a.put o.dst undef) w) : anyE P md ops Q S z (f + 1) l a w := by
  have hO : ops = O := hO
  subst hO
  exact anyE_step i hr ho h
theorem anyE_lastV (hO : Hid (ops = O)) (i : Nat) {o : Oper} {f : Nat} {l : Array Bool} {a : Act} {w : World} (hr : Region.ready md O l = [i]) (hr2 : Region.ready md O (l.setIfInBounds i true) = []) (ho : ops[i]? = some o)
    (h : ∀ K : Act → World → Prop, Shut (∀ b u, S u → Q .normal b u → K b u) → if Region.wanted o (yielded O a.tmps) = true then Oper.wp P o a w K Q else K (a.put o.dst undef) w) : anyE P md ops Q S z (f + 1) l a w := by
  have hO : ops = O := hO
  subst hO
  exact anyE_lastN i hr hr2 ho h
end
end Go.Proofs.YtehknemdfbkimaaGreatDoor
