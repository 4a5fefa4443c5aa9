/- Merged: TmpG, SlBig, TmpH, Ref9, Known9, Rows9, RowF. -/
import Derived.Test.YtehknemdfbkimaaGreatDoorQBB
import Derived.Test.YtehknemdfbkimaaGreatDoorQAA
import Derived.Test.YtehknemdfbkimaaGreatDoorProg
import Derived.Test.YtehknemdfbkimaaGreatDoorQAP
import Derived.Test.YtehknemdfbkimaaGreatDoorQAZ
/- Contracts of package temperament at a right temperament: Temper, TempersOut, Identified, Represent. -/
namespace Go.Proofs.YtehknemdfbkimaaGreatDoor
set_option linter.unusedVariables false
set_option linter.unusedSimpArgs false
open Go.RowKit

theorem allE_one {n : Int} {x : List Int} (h : allE n [x] = 0) : okRow x ∧ (x.length : Int) = n := allE_rows h x (by simp)
theorem right_els {n F : Nat} {P : List Int} {C M : List (List Int)} (h : RightT n F P C M) : (∀ r ∈ M, r.length = n) ∧ (∀ r ∈ M, RowLe 1000000000 r) := ⟨fun r hr => (h.bM r hr).2, fun r hr => (h.bM r hr).1.mono (by decide)⟩
theorem tem_size {n : Nat} {x : List Int} {M : List (List Int)} (hn : n ≤ 6) (hx : RowLe 1000000000 x) (hM : ∀ r ∈ M, RowLe 1000000000 r) : ∀ y ∈ temL M x n, y.natAbs < 10 ^ 19 := by
  intro y hy
  obtain ⟨r, hr, rfl⟩ := List.mem_map.1 hy
  refine Nat.lt_of_le_of_lt (dotZ_bound hx (hM r hr) n) ?_
  have : n * (1000000000 * 1000000000) ≤ 6 * (1000000000 * 1000000000) := Nat.mul_le_mul_right _ hn
  exact Nat.lt_of_le_of_lt this (by decide)
/-- Integers of any size that lie in a slice. -/
def BigsAt (w : World) (a : Option Addr) (k : Nat) (xs : List Int) : Prop := k = 0 ∨ ∃ g, a = some ⟨g, 0, none⟩ ∧ RowB w g 0 xs
theorem BigsAt.of {w : World} {base : Nat} {a : Option Addr} {k c : Nat} {xs : List Int} (hk : xs.length = k) (h : w.ownsRow base 73 1 (.slice a k c) k (bigV xs)) : BigsAt w a k xs := by
  rcases Nat.eq_zero_or_pos k with h0 | h0
  · exact .inl h0
  · obtain ⟨g, cap, hv, -⟩ := owns_shape h h0
    simp only [Value.slice.injEq] at hv
    obtain ⟨rfl, -, -⟩ := hv
    subst hk
    exact .inr ⟨g, rfl, (RowB.of_owns (xs := xs) h).1⟩
theorem BigsAt.ext {w w' : World} {a : Option Addr} {k : Nat} {xs : List Int} (h : BigsAt w a k xs) (he : Ext w w') : BigsAt w' a k xs := by
  rcases h with h | ⟨g, h1, h2⟩
  · exact .inl h
  · exact .inr ⟨g, h1, h2.ext he⟩

set_option maxRecDepth 100000 in
set_option maxHeartbeats 8000000 in
theorem temperR_any (n F : Nat) (P : List Int) (C M : List (List Int)) (x : List Int) (v vx : Value) (w : World) (hV : TempV w v P C M) (hx : Ints w vx x) (hR : RightT n F P C M) (hE : allE n [x] = 0) (hlib : LibT w) (hp : 0 < w.heap.size) :
    Calls Tryz.prog 60 #[v, vx] w (RepR (temL M x n) w) := by
  obtain ⟨ho, hxl⟩ := allE_one hE
  have hxl : x.length = n := by omega
  have hxb : RowLe 1000000000 x := fun y hy => by have := ho.2 y hy; omega
  have hn4 := hR.n4; have hlM := hR.lM
  have HBG := Lib.hid (fun W (hW : Ext w W) vl (hl : Rows2 W vl [x]) => begin_any n F P C M v vl [x] W (hV.ext hW) hl hR (hlib.ext hW) (Nat.lt_of_lt_of_le hp hW.size))
  rw [hE] at HBG
  have HTE := Lib.hid (fun W (hW : Ext w W) => temper_any n P C M x v vx W (hV.ext hW) (hx.ext hW) hxl (right_els hR).1 (by omega) (by omega) hxb (right_els hR).2 (hlib.pow.ext hW))
  have HSZ := Lib.hid (tem_size hn4 hxb (right_els hR).2)
  have HSG := Lib.hid (fun y (hy : y ∈ temL M x n) W (hW : Ext w W) => smallG_any y W (Nat.le_trans (intB_small (tem_size hn4 hxb (right_els hR).2 y hy) (by decide) (by decide)) (by decide)) (hlib.ext hW))
  have HXI := Lib.hid hx
  have hxo := hx
  obtain ⟨vp, vc, vm, rfl, hvp, hvc, hvm⟩ := hV
  obtain ⟨ap, cp, rfl, -⟩ := hvp.open
  obtain ⟨ac, cc, rfl, -⟩ := inCell.open hvc
  obtain ⟨am, cm, rfl, -⟩ := inCell.open hvm
  obtain ⟨ax, cx, rfl, -⟩ := hxo.open
  have HTL : Hid ((temL M x n).length = M.length) := by unfold Hid temL; simp
  clear hvp hvc hvm hR hlib hp hx hxo ho hE hxb hxl
  go_enter Tryz.func60, Tryz.ntmps60
  obtain ⟨W1, hW1, hE1, hs1, hb1⟩ := tp_new w (.slice ap P.length cp) (.slice ac C.length cc) (.slice am M.length cm)
  have HB1 := Lib.hid hb1; have HE1 := Lib.hid hE1
  obtain ⟨b0, b1, b2, -⟩ := tp_block hb1
  clear hE1 hs1 hb1
  go_wp2_with fail
  have HL1 := Lib.hid (rows_lit1 (HXI.out.ext HE1.out) 39)
  have HE2 := Lib.hid (HE1.out.trans (Ext.alloc W1 (.cells #[.slice ax x.length cx] 39)))
  have HB2 := Lib.hid (block_ext HB1.out (Ext.alloc W1 (.cells #[.slice ax x.length cx] 39)))
  refine (HBG.out _ HE2.out _ HL1.out).mono ?_
  rintro e w3 ⟨rfl, hE3⟩
  have HE3 := Lib.hid (HE2.out.trans hE3)
  have HB3 := Lib.hid (block_ext HB2.out hE3)
  clear hE3 HBG HB1 HE1 HB2 HE2 HL1 b0 b1 b2 hW1
  obtain ⟨b0, b1, b2, -⟩ := tp_block HB3.out
  go_wp2_with fail
  refine (HTE.out _ HE3.out).mono ?_
  rintro e w4 ⟨a4, c4, rfl, ho4, hE4⟩
  have HE4 := Lib.hid (HE3.out.trans hE4)
  have HBA := Lib.hid (BigsAt.of HTL.out ho4)
  clear ho4 hE4 HTE HB3 HE3 b0 b1 b2
  go_wp2_with fail
  go_loopw [7, 23] (fun out t wr => ∃ j : Nat, j ≤ M.length ∧ t = .int .i64 j ∧ Hid (Ext w4 wr) ∧ Hid (∃ a c, out = .slice a j c) ∧ Hid (Build wr w4.heap.size 3 1 out intC ((temL M x n).take j)) ∧ Hid (((temL M x n).take j).all fit9B = true)) (fun _ t _ => M.length - (intOf t).toNat)
  case atStart => exact ⟨0, by omega, rfl, Ext.refl _, ⟨none, 0, rfl⟩, Build.nil _ _ _ _ _, rfl⟩
  case round =>
    obtain ⟨j, hj, rfl, HE, HSL, HBu, HFT⟩ := hrel
    obtain ⟨wo, rfl⟩ : ∃ wo : World, wo = wr := ⟨_, rfl⟩
    by_cases hlt : j < M.length
    · obtain ⟨g, rfl, hrb⟩ : ∃ g, a4 = some ⟨g, 0, none⟩ ∧ RowB w4 g 0 (temL M x n) := by
        rcases HBA.out with h | h
        · omega
        · exact h
      obtain ⟨y, hy⟩ : ∃ y, (temL M x n)[j]? = some y := ⟨(temL M x n)[j]'(by rw [HTL.out]; exact hlt), List.getElem?_eq_getElem _⟩
      have g1 := (hrb.ext HE.out).cell j y hy
      rw [Nat.zero_add] at g1
      have hym := List.mem_of_getElem? hy
      have HEw := Lib.hid (HE4.out.trans HE.out)
      have HS1 := Lib.hid (HSG.out y hym wo HEw.out)
      have HN : Hid ((temL M x n).take (j + 1) = (temL M x n).take j ++ [y]) := by unfold Hid; rw [List.take_add_one, hy]; rfl
      have HJL : Hid (((temL M x n).take j).length = j) := by unfold Hid; rw [List.length_take, HTL.out]; omega
      have HJ : Hid (((temL M x n).take j).length < 1000000) := by unfold Hid; rw [HJL.out]; omega
      by_cases hf : fit9B y = true
      · obtain ⟨f1, f2⟩ := (fit9B_iff y).1 hf
        have hfi : fitI y := ⟨by omega, by omega⟩
        rw [show smV y = y by unfold smV; rw [if_pos hfi], show decide (fitI y) = true from decide_eq_true hfi] at HS1
        have HF2 : Hid (((temL M x n).take (j + 1)).all fit9B = true) := by unfold Hid; rw [HN.out, List.all_append, HFT.out]; simp [hf]
        clear hy hym hf hrb hfi
        go_wp2_with fail
        refine HS1.out.mono ?_
        rintro e w5 ⟨rfl, hE5⟩
        have HB5 := Lib.hid (HBu.out.ext hE5)
        have HE5 := Lib.hid (HE.out.trans hE5)
        have hszr : w4.heap.size ≤ w5.heap.size := (HE.out.trans hE5).size
        clear hE5 HS1
        go_wp2_with (at_builtin; go_must (refine wpList_append_build _ rfl _ _ 39 rfl w4.heap.size 3 (.int .i64 0) 1 8 Tryz.underlying39 infoInt rfl (by decide) u7 intC ((temL M x n).take j) y #[.int .i64 y] 3 rfl HB5.out rfl rfl ?e1 (fun _ _ => rfl) HJ.out (by decide) hszr ?_))
        case e1 => simp [Value.oneCell']
        intro v' w6 hB6 hg6 hb6 hs6 _
        have HV : Hid (∃ g cc, v' = .slice g (j + 1) cc) := by
          obtain ⟨us, b1, b2, b3, b4⟩ := id hB6
          obtain ⟨g, cc, hv, -⟩ := owns_shape b3 (by rw [List.length_append]; simp)
          refine ⟨some ⟨g, 0, none⟩, cc, ?_⟩
          rw [hv, List.length_append, HJL.out]; rfl
        rw [← HN.out] at hB6
        have HB6 := Lib.hid hB6
        have HX6 := Lib.hid (Below.trans HE5.out hb6)
        clear hB6 hg6 hb6
        go_wp2_with fail
        go_roundw
        case rel => exact ⟨j + 1, by omega, by go_num, HX6.out, HV, HB6.out, HF2.out⟩
        case measure => simp [intOf]; omega
      · have HA : Hid (¬ (temL M x n).all fit9B = true) := fun h => hf (List.all_eq_true.1 h y hym)
        have hf2 : y < -1000000000 ∨ 1000000000 < y := by
          rcases Int.lt_or_le y (-1000000000) with h | h
          · exact .inl h
          · rcases Int.lt_or_le 1000000000 y with h2 | h2
            · exact .inr h2
            · exact absurd ((fit9B_iff y).2 ⟨h, h2⟩) hf
        by_cases hfi : fitI y
        · rw [show smV y = y by unfold smV; rw [if_pos hfi], show decide (fitI y) = true from decide_eq_true hfi] at HS1
          clear hy hym hf hrb hfi
          rcases hf2 with hf2 | hf2
          · have hf3 : ¬ 1000000000 < y := by omega
            go_wp2_with fail
            refine HS1.out.mono ?_
            rintro e w5 ⟨rfl, hE5⟩
            have HE5 := Lib.hid (HEw.out.trans hE5)
            clear hE5 HS1
            go_wp2_with fail
            go_ret2
            unfold RepR
            rw [if_neg HA.out]
            exact ⟨rfl, HE5.out⟩
          · go_wp2_with fail
            refine HS1.out.mono ?_
            rintro e w5 ⟨rfl, hE5⟩
            have HE5 := Lib.hid (HEw.out.trans hE5)
            clear hE5 HS1
            go_wp2_with fail
            go_ret2
            unfold RepR
            rw [if_neg HA.out]
            exact ⟨rfl, HE5.out⟩
        · rw [show smV y = 0 by unfold smV; rw [if_neg hfi], show decide (fitI y) = false from decide_eq_false hfi] at HS1
          clear hy hym hf hrb hfi hf2
          go_wp2_with fail
          refine HS1.out.mono ?_
          rintro e w5 ⟨rfl, hE5⟩
          have HE5 := Lib.hid (HEw.out.trans hE5)
          clear hE5 HS1
          go_wp2_with fail
          go_ret2
          unfold RepR
          rw [if_neg HA.out]
          exact ⟨rfl, HE5.out⟩
    · obtain rfl : j = M.length := by omega
      obtain ⟨a, c, rfl⟩ := HSL.out
      have hB := HBu.out
      have hF := HFT.out
      rw [List.take_of_length_le (by rw [HTL.out]; exact Nat.le_refl _)] at hB hF
      have HO := Lib.hid (Build.ints hB)
      have HF := Lib.hid hF
      clear hB hF HBu HSL HFT
      go_wp2_with fail
      go_ret2
      unfold RepR
      rw [if_pos HF.out]
      refine ⟨⟨_, rfl, ?_⟩, HE4.out.trans HE.out⟩
      exact Ints.of_owns (by have := HO.out; rw [HTL.out] at this ⊢; exact this) (fun y hy => by have := (fit9B_iff y).1 (List.all_eq_true.1 HF.out y hy); omega)
end Go.Proofs.YtehknemdfbkimaaGreatDoor
/- slices.IndexFunc and ContainsFunc at []schisma/api.Int. Printed by gen/slcell.py. -/
namespace Go.Proofs.YtehknemdfbkimaaGreatDoor
set_option linter.unusedVariables false
set_option linter.unusedSimpArgs false
open Go.RowKit

def idxBig {α : Type} (p : α → Bool) (xs : List α) : Int := match xs.findIdx? p with | some i => (i : Int) | none => -1
def PredBig {α : Type} (R : World → Value → α → Prop) (g : Nat) (lb : Array Value) (p : α → Bool) (w : World) (xs : List α) : Prop :=
  ∀ W x a, x ∈ xs → Ext w W → R W a x → Calls Tryz.prog g (#[a] ++ lb) W fun e W' => e = .returned (.bool (p x)) ∧ Ext W W'

set_option maxHeartbeats 400000 in
theorem indexFuncBig_any {α : Type} {R : World → Value → α → Prop} (hR : ∀ w w' v x, Ext w w' → R w v x → R w' v x) (xs : List α) (v : Value) (g : Nat) (lb : Array Value) (p : α → Bool) (w : World) (h : ListAt 1 (inCell R) w v xs) (eg : ∀ args w, (callFunc g args).run Tryz.prog w = .ok (.enter g args) w) (hp : PredBig R g lb p w xs) :
    Calls Tryz.prog 169 #[v, .func (.func g) #[] lb] w fun e w' => e = .returned (.int .i64 (idxBig p xs)) ∧ Ext w w' := by
  obtain ⟨a, c, rfl, h1, h2, -, hc⟩ := inCell.open h
  have HC := Lib.hid hc; have HPR := Lib.hid hp; have HR := Lib.hid hR
  clear hc h hp hR
  unfold maxLen at h2
  go_enter Tryz.func169, Tryz.ntmps169
  go_wp2
  go_loopw [8] (fun t wr => ∃ pre rest, t = .int .i64 (pre.length : Nat) ∧ Ext w wr ∧ Hid (xs = pre ++ rest) ∧ Hid (∀ x ∈ pre, p x = false)) (fun t _ => xs.length - (intOf t).toNat)
  case atStart => exact ⟨[], xs, rfl, Ext.refl _, rfl, by intro x hx; simp at hx⟩
  case round =>
    obtain ⟨pre, rest, rfl, hE, HP, HA⟩ := hrel
    obtain ⟨wo, rfl⟩ : ∃ wo : World, wo = wr := ⟨_, rfl⟩
    have hlen : xs.length = pre.length + rest.length := by rw [HP.out]; simp
    cases rest with
    | nil =>
      have : ¬ (pre.length < xs.length) := by simp at hlen; omega
      clear hlen
      go_wp2
      go_ret
      have : idxBig p xs = -1 := by
        have : xs.findIdx? p = none := by rw [HP.out, List.append_nil, List.findIdx?_eq_none_iff]; exact HA.out
        unfold idxBig; rw [this]
      rw [this]
      exact ⟨rfl, hE⟩
    | cons x rest =>
      have hlt : pre.length < xs.length := by simp at hlen; omega
      clear hlen
      obtain ⟨b, off, rfl, hb, hcell⟩ := HC.out (by rw [HP.out]; simp)
      obtain ⟨vx, hvx, hcx⟩ := hcell pre.length x (by rw [HP.out]; simp)
      have g1 := hE.cell hcx
      have hcall := HPR.out wo x vx (by rw [HP.out]; simp) hE (HR.out _ _ _ _ hE hvx)
      clear hcell hvx hcx
      cases hq : p x with
      | true =>
        have HRR : Hid (idxBig p xs = pre.length) := by
          unfold Hid idxBig
          rw [HP.out, List.findIdx?_append, (List.findIdx?_eq_none_iff (xs := pre)).2 HA.out, List.findIdx?_cons, hq]
          simp
        rw [hq] at hcall
        have HCALL := Lib.hid hcall
        clear hcall hq
        go_wp2_with (go_at_fn g; refine HCALL.out.mono ?_; rintro e w' ⟨rfl, hE'⟩)
        go_ret
        rw [HRR.out]
        exact ⟨rfl, hE.trans (by assumption)⟩
      | false =>
        have HA' : Hid (∀ y ∈ pre ++ [x], p y = false) := by
          intro y hy
          rcases List.mem_append.1 hy with hy | hy
          · exact HA.out y hy
          · rw [List.mem_singleton.1 hy]; exact hq
        rw [hq] at hcall
        have HCALL := Lib.hid hcall
        clear hcall hq
        go_wp2_with (go_at_fn g; refine HCALL.out.mono ?_; rintro e w' ⟨rfl, hE'⟩)
        go_roundw
        case rel => exact ⟨pre ++ [x], rest, by simp, hE.trans (by assumption), by unfold Hid; rw [HP.out]; simp, HA'⟩
        case measure => simp [intOf]; omega

theorem containsBig_any {α : Type} {R : World → Value → α → Prop} (hR : ∀ w w' v x, Ext w w' → R w v x → R w' v x) (xs : List α) (v : Value) (g : Nat) (lb : Array Value) (p : α → Bool) (w : World) (h : ListAt 1 (inCell R) w v xs) (eg : ∀ args w, (callFunc g args).run Tryz.prog w = .ok (.enter g args) w) (hp : PredBig R g lb p w xs) :
    Calls Tryz.prog 114 #[v, .func (.func g) #[] lb] w fun e w' => e = .returned (.bool (xs.any p)) ∧ Ext w w' := by
  have hcall := indexFuncBig_any hR xs v g lb p w h eg hp
  cases hf : xs.findIdx? p with
  | none =>
    have HRR : Hid (xs.any p = false) := by
      unfold Hid
      rw [List.findIdx?_eq_none_iff] at hf
      simpa using hf
    unfold idxBig at hcall
    rw [hf] at hcall
    have HCALL := Lib.hid hcall
    clear hcall hf hp h hR
    go_enter Tryz.func114, Tryz.ntmps114
    go_wp2_with (go_at_call 169; refine HCALL.out.mono ?_; rintro e w' ⟨rfl, hE'⟩)
    go_ret
    rw [HRR.out]
    exact ⟨rfl, by assumption⟩
  | some i =>
    have HRR : Hid (xs.any p = true) := by
      unfold Hid
      rw [List.any_eq_true]
      obtain ⟨hi, hpi, _⟩ := List.findIdx?_eq_some_iff_getElem.1 hf
      exact ⟨_, List.getElem_mem hi, hpi⟩
    have hi0 : (0 : Int) ≤ (i : Int) := by omega
    unfold idxBig at hcall
    rw [hf] at hcall
    have HCALL := Lib.hid hcall
    clear hcall hf hp h hR
    go_enter Tryz.func114, Tryz.ntmps114
    go_wp2_with (go_at_call 169; refine HCALL.out.mono ?_; rintro e w' ⟨rfl, hE'⟩)
    go_ret
    rw [HRR.out]
    exact ⟨rfl, by assumption⟩

end Go.Proofs.YtehknemdfbkimaaGreatDoor
/- Contracts of package slices at []api.Int; of package temperament at a right temperament: TempersOut, Represent. -/
namespace Go.Proofs.YtehknemdfbkimaaGreatDoor
set_option linter.unusedVariables false
set_option linter.unusedSimpArgs false
open Go.RowKit

def bigR (_ : World) (v : Value) (x : Int) : Prop := v = .string (intB x)
theorem bigs_list {w : World} {base : Nat} {v : Value} {n : Nat} {xs : List Int} (hn : xs.length = n) (h : w.ownsRow base 73 1 v n (bigV xs)) : ListAt 1 (inCell bigR) w v xs := by
  subst hn
  refine ⟨xs.map fun x => [Value.string (intB x)], by simp, by simp, ?_, ?_⟩
  · have := SeqAt.of_owns h
    rwa [flatten_one]
  · intro j u x hu hx
    simp only [List.getElem?_map, hx, Option.map_some, Option.some.injEq] at hu
    exact ⟨_, hu.symm, rfl⟩
theorem out1_any (x : Int) (w : World) : Calls Tryz.prog 115 #[.string (intB x)] w fun e w' => e = .returned (.bool (x != 0)) ∧ w = w' := by
  have hz := int_zero x
  by_cases h : x = 0
  · rw [decide_eq_true h] at hz
    have HR : Hid ((x != 0) = false) := by unfold Hid; simp [h]
    rw [HR.out]
    clear h HR
    go_enter Tryz.func115, Tryz.ntmps115
    go_wp2_with fail
    go_ret
    exact ⟨rfl, rfl⟩
  · rw [decide_eq_false h] at hz
    have HR : Hid ((x != 0) = true) := by unfold Hid; simp [h]
    rw [HR.out]
    clear h HR
    go_enter Tryz.func115, Tryz.ntmps115
    go_wp2_with fail
    go_ret
    exact ⟨rfl, rfl⟩
theorem anyBig_any (xs : List Int) (v : Value) (w : World) (h : ListAt 1 (inCell bigR) w v xs) :
    Calls Tryz.prog 114 #[v, .func (.func 115) #[] #[]] w fun e w' => e = .returned (.bool (xs.any (· != 0))) ∧ Ext w w' :=
  containsBig_any (R := bigR) (fun _ _ _ _ _ h => h) xs v 115 #[] (· != 0) w h (enters_of Tryz.func115 (by kernel_rfl) rfl) fun W x a _ _ ha => by
    rw [show a = .string (intB x) from ha]
    exact (out1_any x W).mono fun e w' ⟨h1, h2⟩ => ⟨h1, by rw [h2]; exact Ext.refl _⟩

set_option maxRecDepth 100000 in
set_option maxHeartbeats 8000000 in
theorem tempersOut_any (n F : Nat) (P : List Int) (C M : List (List Int)) (x : List Int) (v vx : Value) (w : World) (hV : TempV w v P C M) (hx : Ints w vx x) (hR : RightT n F P C M) (hE : allE n [x] = 0) (hlib : LibT w) (hp : 0 < w.heap.size) :
    Calls Tryz.prog 50 #[v, vx] w fun e w' => e = .returned (.tuple #[.bool (!((temL M x n).any (· != 0))), .int .i64 0]) ∧ Ext w w' := by
  obtain ⟨ho, hxl⟩ := allE_one hE
  have hxl : x.length = n := by omega
  have hxb : RowLe 1000000000 x := fun y hy => by have := ho.2 y hy; omega
  have hn4 := hR.n4; have hlM := hR.lM
  have HBG := Lib.hid (fun W (hW : Ext w W) vl (hl : Rows2 W vl [x]) => begin_any n F P C M v vl [x] W (hV.ext hW) hl hR (hlib.ext hW) (Nat.lt_of_lt_of_le hp hW.size))
  rw [hE] at HBG
  have HTE := Lib.hid (fun W (hW : Ext w W) => temper_any n P C M x v vx W (hV.ext hW) (hx.ext hW) hxl (right_els hR).1 (by omega) (by omega) hxb (right_els hR).2 (hlib.pow.ext hW))
  have HXI := Lib.hid hx
  have hxo := hx
  obtain ⟨vp, vc, vm, rfl, hvp, hvc, hvm⟩ := hV
  obtain ⟨ap, cp, rfl, -⟩ := hvp.open
  obtain ⟨ac, cc, rfl, -⟩ := inCell.open hvc
  obtain ⟨am, cm, rfl, -⟩ := inCell.open hvm
  obtain ⟨ax, cx, rfl, -⟩ := hxo.open
  have HTL : Hid ((temL M x n).length = M.length) := by unfold Hid temL; simp
  have HAN := Lib.hid (fun W v (h : ListAt 1 (inCell bigR) W v (temL M x n)) => anyBig_any (temL M x n) v W h)
  obtain ⟨B, hB⟩ : ∃ B, (temL M x n).any (· != 0) = B := ⟨_, rfl⟩
  rw [hB] at HAN ⊢
  clear hvp hvc hvm hR hlib hp hx hxo ho hE hxb hxl hB
  go_enter Tryz.func50, Tryz.ntmps50
  obtain ⟨W1, hW1, hE1, hs1, hb1⟩ := tp_new w (.slice ap P.length cp) (.slice ac C.length cc) (.slice am M.length cm)
  have HB1 := Lib.hid hb1; have HE1 := Lib.hid hE1
  obtain ⟨b0, b1, b2, -⟩ := tp_block hb1
  clear hE1 hs1 hb1
  go_wp2_with fail
  have HL1 := Lib.hid (rows_lit1 (HXI.out.ext HE1.out) 39)
  have HE2 := Lib.hid (HE1.out.trans (Ext.alloc W1 (.cells #[.slice ax x.length cx] 39)))
  have HB2 := Lib.hid (block_ext HB1.out (Ext.alloc W1 (.cells #[.slice ax x.length cx] 39)))
  refine (HBG.out _ HE2.out _ HL1.out).mono ?_
  rintro e w3 ⟨rfl, hE3⟩
  have HE3 := Lib.hid (HE2.out.trans hE3)
  have HB3 := Lib.hid (block_ext HB2.out hE3)
  clear hE3 HBG HB1 HE1 HB2 HE2 HL1 b0 b1 b2 hW1
  obtain ⟨b0, b1, b2, -⟩ := tp_block HB3.out
  go_wp2_with fail
  refine (HTE.out _ HE3.out).mono ?_
  rintro e w4 ⟨a4, c4, rfl, ho4, hE4⟩
  have HE4 := Lib.hid (HE3.out.trans hE4)
  have HBA := Lib.hid (HAN.out _ _ (bigs_list HTL.out ho4))
  clear ho4 hE4 HTE HB3 HE3 b0 b1 b2 HAN
  go_wp2_with fail
  refine HBA.out.mono ?_
  rintro e w5 ⟨rfl, hE5⟩
  have HE5 := Lib.hid (HE4.out.trans hE5)
  clear hE5
  go_wp2_with fail
  go_ret2
  exact ⟨rfl, HE5.out⟩

set_option maxRecDepth 100000 in
set_option maxHeartbeats 8000000 in
theorem trepr_any (n F : Nat) (P : List Int) (C M : List (List Int)) (x s ms : List Int) (v vx : Value) (w : World) (hV : TempV w v P C M) (hx : Ints w vx x) (hR : RightT n F P C M) (hE : allE n [x] = 0) (hr : redO C x C.length = some (s, ms)) (hs : s.all smB = true) (hlib : LibT w) (hp : 0 < w.heap.size) :
    Calls Tryz.prog 61 #[v, vx] w (RepR s w) := by
  obtain ⟨ho, hxl⟩ := allE_one hE
  have hRE : rowLE n C x = 0 := by
    unfold rowLE
    rw [if_pos hR.chk, if_pos ((rowE_zero x).2 ho), if_pos hxl]
  have HBG := Lib.hid (fun W (hW : Ext w W) vl (hl : Rows2 W vl [x]) => begin_any n F P C M v vl [x] W (hV.ext hW) hl hR (hlib.ext hW) (Nat.lt_of_lt_of_le hp hW.size))
  rw [hE] at HBG
  have HXI := Lib.hid hx
  have hxo := hx
  have hPl := hR.pl
  obtain ⟨vp, vc, vm, rfl, hvp, hvc, hvm⟩ := hV
  have HRP := Lib.hid (fun W (hW : Ext w W) => repr_any n C x s ms (.agg #[.int .i64 n, vc]) vx W ⟨_, rfl, hvc.ext hW⟩ (hx.ext hW) hRE hr hs (hlib.ext hW) (Nat.lt_of_lt_of_le hp hW.size))
  obtain ⟨ap, cp, rfl, -⟩ := hvp.open
  obtain ⟨ac, cc, rfl, -⟩ := inCell.open hvc
  obtain ⟨am, cm, rfl, -⟩ := inCell.open hvm
  obtain ⟨ax, cx, rfl, -⟩ := hxo.open
  rw [hPl] at HBG ⊢
  clear hvp hvc hvm hR hlib hp hx hxo ho hE hxl hRE hr hs hPl
  go_enter Tryz.func61, Tryz.ntmps61
  obtain ⟨W1, hW1, hE1, hs1, hb1⟩ := tp_new w (.slice ap n cp) (.slice ac C.length cc) (.slice am M.length cm)
  have HB1 := Lib.hid hb1; have HE1 := Lib.hid hE1
  obtain ⟨b0, b1, b2, -⟩ := tp_block hb1
  clear hE1 hs1 hb1
  go_wp2_with fail
  have HL1 := Lib.hid (rows_lit1 (HXI.out.ext HE1.out) 39)
  have HE2 := Lib.hid (HE1.out.trans (Ext.alloc W1 (.cells #[.slice ax x.length cx] 39)))
  have HB2 := Lib.hid (block_ext HB1.out (Ext.alloc W1 (.cells #[.slice ax x.length cx] 39)))
  refine (HBG.out _ HE2.out _ HL1.out).mono ?_
  rintro e w3 ⟨rfl, hE3⟩
  have HE3 := Lib.hid (HE2.out.trans hE3)
  have HB3 := Lib.hid (block_ext HB2.out hE3)
  clear hE3 HBG HB1 HE1 HB2 HE2 HL1 b0 b1 b2 hW1
  obtain ⟨b0, b1, b2, -⟩ := tp_block HB3.out
  go_wp2_with fail
  refine (HRP.out _ HE3.out).mono ?_
  rintro e w4 he
  obtain ⟨h1, hE4⟩ := he
  have HE4 := Lib.hid (HE3.out.trans hE4)
  clear hE4 HRP HB3 HE3 b0 b1 b2
  by_cases hf : s.all fit9B = true
  · rw [if_pos hf] at h1
    obtain ⟨v4, rfl, hv4⟩ := h1
    have HF := Lib.hid hf; have HI := Lib.hid hv4
    obtain ⟨a4, c4, rfl, -⟩ := hv4.open
    clear hf hv4
    go_wp2_with fail
    go_ret2
    unfold RepR
    rw [if_pos HF.out]
    exact ⟨⟨_, rfl, HI.out⟩, HE4.out⟩
  · rw [if_neg hf] at h1
    subst h1
    have HF := Lib.hid hf
    clear hf
    go_wp2_with fail
    go_ret2
    unfold RepR
    rw [if_neg HF.out]
    exact ⟨rfl, HE4.out⟩
end Go.Proofs.YtehknemdfbkimaaGreatDoor
/- Contracts of the references of chapters 05 and 09 and of law 09's small functions: Check, Lead, Equal, checkRows, check, equal, none, short. -/
namespace Go.Proofs.YtehknemdfbkimaaGreatDoor
set_option linter.unusedVariables false
set_option linter.unusedSimpArgs false
open Go.RowKit

end Go.Proofs.YtehknemdfbkimaaGreatDoor
/- Chapter 09's examples in law 09: known. -/
namespace Go.Proofs.YtehknemdfbkimaaGreatDoor
set_option linter.unusedVariables false
set_option linter.unusedSimpArgs false
open Go.RowKit

theorem LsR.fits {cols : Nat} {m : List (List Int)} {w w' : World} {e : Ending} (h : LsR cols m w e w') (hf : (m.all fun r => r.all fit9B) = true) : ∃ a c, e = .returned (.tuple #[.agg #[.int .i64 cols, .slice a m.length c], .int .i64 0]) ∧ Rows2 w' (.slice a m.length c) m ∧ Ext w w' := by
  obtain ⟨h1, h2⟩ := h
  rw [if_pos hf] at h1
  obtain ⟨v, rfl, hs⟩ := h1
  obtain ⟨a, c, rfl, -, -, -, -⟩ := inCell.open hs.now
  exact ⟨a, c, rfl, hs.now, h2⟩

end Go.Proofs.YtehknemdfbkimaaGreatDoor
/- Contract of schismalaw09.Rows: the rows of a plan. -/
namespace Go.Proofs.YtehknemdfbkimaaGreatDoor
set_option linter.unusedVariables false
set_option linter.unusedSimpArgs false
open Go.RowKit

/-- A row of four small numbers, in four cells. -/
def four8 (_ : World) (u : List Value) (x : List Int) : Prop := u = x.map (Value.int .i8) ∧ x.length = 4 ∧ ∀ a ∈ x, -128 ≤ a ∧ a ≤ 127
theorem four8.mono : Mono four8 := fun _ _ _ _ _ h => h
abbrev Fours (w : World) (v : Value) (xss : List (List Int)) : Prop := ListAt 4 four8 w v xss
theorem Fours.ext {w w' : World} {v : Value} {xss : List (List Int)} (h : Fours w v xss) (he : Ext w w') : Fours w' v xss := ListAt.ext four8.mono h he
/-- A row of a plan. -/
def row9 (n : Nat) (x : List Int) : List Int := (x.take n).map fun a => a.tmod 10
theorem row9_len {n : Nat} {x : List Int} (h : n ≤ x.length) : (row9 n x).length = n := by unfold row9; rw [List.length_map, List.length_take]; omega
theorem row9_succ {k : Nat} {x : List Int} {y : Int} (h : x[k]? = some y) : row9 (k + 1) x = row9 k x ++ [y.tmod 10] := by unfold row9; rw [List.take_add_one, h, List.map_append]; rfl
end Go.Proofs.YtehknemdfbkimaaGreatDoor
/- Rows of ints in blocks of their own, that a loop fills; law 09's fits. -/
namespace Go.Proofs.YtehknemdfbkimaaGreatDoor
set_option linter.unusedVariables false
set_option linter.unusedSimpArgs false
open Go.RowKit

/-- A row of ints at a block. -/
structure RowF (w : World) (g : Nat) (xs : List Int) : Prop where
  lt : g < w.heap.size
  cell : ∀ (j : Nat) x, xs[j]? = some x → w.cell? ⟨g, j, none⟩ = some (.int .i64 x)
  free : ∀ j, w.frozen? ⟨g, j, none⟩ = false
theorem RowF.same {w w' : World} {g : Nat} {xs : List Int} (h : RowF w g xs) (hs : w.heap.size ≤ w'.heap.size) (hg : w'.heap[g]? = w.heap[g]?) : RowF w' g xs :=
  ⟨Nat.lt_of_lt_of_le h.lt hs, fun j x hx => by rw [← h.cell j x hx]; unfold World.cell?; simp only [hg], fun j => by rw [← h.free j]; unfold World.frozen?; simp only [hg]⟩
theorem RowF.ext {w w' : World} {g : Nat} {xs : List Int} (h : RowF w g xs) (he : Ext w w') : RowF w' g xs := h.same he.size (he.block g h.lt)
theorem RowF.other {w : World} {g b i : Nat} {xs : List Int} (h : RowF w g xs) (hne : g ≠ b) (y : Value) : RowF (w.setCell ⟨b, i, none⟩ y) g xs :=
  h.same (by simp [World.setCell]) (Below.heap_setCell _ _ _ _ hne)
theorem RowF.set {w : World} {g : Nat} {xs : List Int} (h : RowF w g xs) (k : Nat) (hk : k < xs.length) (y : Int) : RowF (w.setCell ⟨g, k, none⟩ (.int .i64 y)) g (xs.set k y) := by
  refine ⟨by simp only [World.setCell, Array.size_modify]; exact h.lt, fun j x hj => ?_, fun j => ?_⟩
  · rw [List.getElem?_set] at hj
    by_cases e : k = j
    · subst e
      rw [if_pos rfl, if_pos hk] at hj
      cases hj
      exact World.cell?_setCell_same w _ _ (h.cell k _ (List.getElem?_eq_getElem hk))
    · rw [if_neg e] at hj
      rw [World.cell?_setCell_other _ _ _ _ (by intro e2; simp only [Addr.mk.injEq] at e2; omega)]
      exact h.cell j x hj
  · rw [← h.free j]; exact World.frozen?_setCell ..
theorem RowF.ints {w : World} {g m : Nat} {xs : List Int} (h : RowF w g xs) (hm : xs.length ≤ m) (hm2 : m ≤ maxLen) (hb : ∀ x ∈ xs, -9223372036854775808 ≤ x ∧ x ≤ 9223372036854775807) : Ints w (.slice (some ⟨g, 0, none⟩) xs.length m) xs := by
  refine ⟨xs.map fun x => [Value.int .i64 x], by simp, by intro u hu; obtain ⟨x, _, rfl⟩ := List.mem_map.1 hu; rfl, ?_, fun j u x hu hx => ?_⟩
  · refine ⟨some ⟨g, 0, none⟩, m, rfl, hm, hm2, (fun e => by cases e), fun _ => ⟨g, 0, rfl, h.lt, fun j u hu => ?_⟩⟩
    rw [flatten_one, List.getElem?_map] at hu
    cases hx : xs[j]? with
    | none => rw [hx] at hu; cases hu
    | some x => rw [hx] at hu; cases hu; rw [Nat.zero_add]; exact h.cell j x hx
  · rw [List.getElem?_map, hx] at hu
    cases hu
    exact ⟨rfl, hb x (List.mem_of_getElem? hx)⟩

end Go.Proofs.YtehknemdfbkimaaGreatDoor
