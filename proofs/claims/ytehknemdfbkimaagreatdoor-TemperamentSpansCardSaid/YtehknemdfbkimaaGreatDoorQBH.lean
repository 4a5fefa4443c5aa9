/- Merged: SlBig, TmpH, Ref9. -/
import Derived.Test.YtehknemdfbkimaaGreatDoorQAA
import Derived.Test.YtehknemdfbkimaaGreatDoorProg
import Derived.Test.YtehknemdfbkimaaGreatDoorQBG
import Derived.Test.YtehknemdfbkimaaGreatDoorQAR
/- slices.IndexFunc and ContainsFunc at []schisma/api.Int. Printed by gen/slcell.py. -/
namespace Go.Proofs.YtehknemdfbkimaaGreatDoor
set_option linter.unusedVariables false
set_option linter.unusedSimpArgs false
open Go.RowKit

def idxBig {α : Type} (p : α → Bool) (xs : List α) : Int := match xs.findIdx? p with | some i => (i : Int) | none => -1
def PredBig {α : Type} (R : World → Value → α → Prop) (g : Nat) (lb : Array Value) (p : α → Bool) (w : World) (xs : List α) : Prop :=
  ∀ W x a, x ∈ xs → Ext w W → R W a x → Calls Tryz.prog g (#[a] ++ lb) W fun e W' => e = .returned (.bool (p x)) ∧ Ext W W'

set_option maxHeartbeats 400000 in
theorem indexFuncBig_any {α : Type} {R : World → Value → α → Prop} (hR : ∀ w w' v x, Ext w w' → R w v x → R w' v x) (xs : List α) (v : Value) (g : Nat) (lb : Array Value) (p : α → Bool) (w : World) (h : ListAt 1 (inCell R) w v xs) (eg : ∀ args w, (callFunc g args).run Tryz.prog w = .ok (.enter g args) w) (hp : PredBig R g lb p w xs) :
    Calls Tryz.prog 169 #[v, .func (.func g) #[] lb] w fun e w' => e = .returned (.int .i64 (idxBig p xs)) ∧ Ext w w' := by
  obtain ⟨a, c, rfl, h1, h2, -, hc⟩ := inCell.open h
  have HC := Lib.hid hc; have HPR := Lib.hid hp; have HR := Lib.hid hR
  clear hc h hp hR
  unfold maxLen at h2
  go_enter Tryz.func169, Tryz.ntmps169
  go_wp2
  go_loopw [8] (fun t wr => ∃ pre rest, t = .int .i64 (pre.length : Nat) ∧ Ext w wr ∧ Hid (xs = pre ++ rest) ∧ Hid (∀ x ∈ pre, p x = false)) (fun t _ => xs.length - (intOf t).toNat)
  case atStart => exact ⟨[], xs, rfl, Ext.refl _, rfl, by intro x hx; simp at hx⟩
  case round =>
    obtain ⟨pre, rest, rfl, hE, HP, HA⟩ := hrel
    obtain ⟨wo, rfl⟩ : ∃ wo : World, wo = wr := ⟨_, rfl⟩
    have hlen : xs.length = pre.length + rest.length := by rw [HP.out]; simp
    cases rest with
    | nil =>
      have : ¬ (pre.length < xs.length) := by simp at hlen; omega
      clear hlen
      go_wp2
      go_ret
      have : idxBig p xs = -1 := by
        have : xs.findIdx? p = none := by rw [HP.out, List.append_nil, List.findIdx?_eq_none_iff]; exact HA.out
        unfold idxBig; rw [this]
      rw [this]
      exact ⟨rfl, hE⟩
    | cons x rest =>
      have hlt : pre.length < xs.length := by simp at hlen; omega
      clear hlen
      obtain ⟨b, off, rfl, hb, hcell⟩ := HC.out (by rw [HP.out]; simp)
      obtain ⟨vx, hvx, hcx⟩ := hcell pre.length x (by rw [HP.out]; simp)
      have g1 := hE.cell hcx
      have hcall := HPR.out wo x vx (by rw [HP.out]; simp) hE (HR.out _ _ _ _ hE hvx)
      clear hcell hvx hcx
      cases hq : p x with
      | true =>
        have HRR : Hid (idxBig p xs = pre.length) := by
          unfold Hid idxBig
          rw [HP.out, List.findIdx?_append, (List.findIdx?_eq_none_iff (xs := pre)).2 HA.out, List.findIdx?_cons, hq]
          simp
        rw [hq] at hcall
        have HCALL := Lib.hid hcall
        clear hcall hq
        go_wp2_with (go_at_fn g; refine HCALL.out.mono ?_; rintro e w' ⟨rfl, hE'⟩)
        go_ret
        rw [HRR.out]
        exact ⟨rfl, hE.trans (by assumption)⟩
      | false =>
        have HA' : Hid (∀ y ∈ pre ++ [x], p y = false) := by
          intro y hy
          rcases List.mem_append.1 hy with hy | hy
          · exact HA.out y hy
          · rw [List.mem_singleton.1 hy]; exact hq
        rw [hq] at hcall
        have HCALL := Lib.hid hcall
        clear hcall hq
        go_wp2_with (go_at_fn g; refine HCALL.out.mono ?_; rintro e w' ⟨rfl, hE'⟩)
        go_roundw
        case rel => exact ⟨pre ++ [x], rest, by simp, hE.trans (by assumption), by unfold Hid; rw [HP.out]; simp, HA'⟩
        case measure => simp [intOf]; omega

theorem containsBig_any {α : Type} {R : World → Value → α → Prop} (hR : ∀ w w' v x, Ext w w' → R w v x → R w' v x) (xs : List α) (v : Value) (g : Nat) (lb : Array Value) (p : α → Bool) (w : World) (h : ListAt 1 (inCell R) w v xs) (eg : ∀ args w, (callFunc g args).run Tryz.prog w = .ok (.enter g args) w) (hp : PredBig R g lb p w xs) :
    Calls Tryz.prog 114 #[v, .func (.func g) #[] lb] w fun e w' => e = .returned (.bool (xs.any p)) ∧ Ext w w' := by
  have hcall := indexFuncBig_any hR xs v g lb p w h eg hp
  cases hf : xs.findIdx? p with
  | none =>
    have HRR : Hid (xs.any p = false) := by
      unfold Hid
      rw [List.findIdx?_eq_none_iff] at hf
      simpa using hf
    unfold idxBig at hcall
    rw [hf] at hcall
    have HCALL := Lib.hid hcall
    clear hcall hf hp h hR
    go_enter Tryz.func114, Tryz.ntmps114
    go_wp2_with (go_at_call 169; refine HCALL.out.mono ?_; rintro e w' ⟨rfl, hE'⟩)
    go_ret
    rw [HRR.out]
    exact ⟨rfl, by assumption⟩
  | some i =>
    have HRR : Hid (xs.any p = true) := by
      unfold Hid
      rw [List.any_eq_true]
      obtain ⟨hi, hpi, _⟩ := List.findIdx?_eq_some_iff_getElem.1 hf
      exact ⟨_, List.getElem_mem hi, hpi⟩
    have hi0 : (0 : Int) ≤ (i : Int) := by omega
    unfold idxBig at hcall
    rw [hf] at hcall
    have HCALL := Lib.hid hcall
    clear hcall hf hp h hR
    go_enter Tryz.func114, Tryz.ntmps114
    go_wp2_with (go_at_call 169; refine HCALL.out.mono ?_; rintro e w' ⟨rfl, hE'⟩)
    go_ret
    rw [HRR.out]
    exact ⟨rfl, by assumption⟩

end Go.Proofs.YtehknemdfbkimaaGreatDoor
/- Contracts of package slices at []api.Int; of package temperament at a right temperament: TempersOut, Represent. -/
namespace Go.Proofs.YtehknemdfbkimaaGreatDoor
set_option linter.unusedVariables false
set_option linter.unusedSimpArgs false
open Go.RowKit

def bigR (_ : World) (v : Value) (x : Int) : Prop := v = .string (intB x)
theorem bigs_list {w : World} {base : Nat} {v : Value} {n : Nat} {xs : List Int} (hn : xs.length = n) (h : w.ownsRow base 73 1 v n (bigV xs)) : ListAt 1 (inCell bigR) w v xs := by
  subst hn
  refine ⟨xs.map fun x => [Value.string (intB x)], by simp, by simp, ?_, ?_⟩
  · have := SeqAt.of_owns h
    rwa [flatten_one]
  · intro j u x hu hx
    simp only [List.getElem?_map, hx, Option.map_some, Option.some.injEq] at hu
    exact ⟨_, hu.symm, rfl⟩
theorem out1_any (x : Int) (w : World) : Calls Tryz.prog 115 #[.string (intB x)] w fun e w' => e = .returned (.bool (x != 0)) ∧ w = w' := by
  have hz := int_zero x
  by_cases h : x = 0
  · rw [decide_eq_true h] at hz
    have HR : Hid ((x != 0) = false) := by unfold Hid; simp [h]
    rw [HR.out]
    clear h HR
    go_enter Tryz.func115, Tryz.ntmps115
    go_wp2_with fail
    go_ret
    exact ⟨rfl, rfl⟩
  · rw [decide_eq_false h] at hz
    have HR : Hid ((x != 0) = true) := by unfold Hid; simp [h]
    rw [HR.out]
    clear h HR
    go_enter Tryz.func115, Tryz.ntmps115
    go_wp2_with fail
    go_ret
    exact ⟨rfl, rfl⟩
theorem anyBig_any (xs : List Int) (v : Value) (w : World) (h : ListAt 1 (inCell bigR) w v xs) :
    Calls Tryz.prog 114 #[v, .func (.func 115) #[] #[]] w fun e w' => e = .returned (.bool (xs.any (· != 0))) ∧ Ext w w' :=
  containsBig_any (R := bigR) (fun _ _ _ _ _ h => h) xs v 115 #[] (· != 0) w h (enters_of Tryz.func115 (by kernel_rfl) rfl) fun W x a _ _ ha => by
    rw [show a = .string (intB x) from ha]
    exact (out1_any x W).mono fun e w' ⟨h1, h2⟩ => ⟨h1, by rw [h2]; exact Ext.refl _⟩

set_option maxRecDepth 100000 in
set_option maxHeartbeats 8000000 in
theorem tempersOut_any (n F : Nat) (P : List Int) (C M : List (List Int)) (x : List Int) (v vx : Value) (w : World) (hV : TempV w v P C M) (hx : Ints w vx x) (hR : RightT n F P C M) (hE : allE n [x] = 0) (hlib : LibT w) (hp : 0 < w.heap.size) :
    Calls Tryz.prog 50 #[v, vx] w fun e w' => e = .returned (.tuple #[.bool (!((temL M x n).any (· != 0))), .int .i64 0]) ∧ Ext w w' := by
  obtain ⟨ho, hxl⟩ := allE_one hE
  have hxl : x.length = n := by omega
  have hxb : RowLe 1000000000 x := fun y hy => by have := ho.2 y hy; omega
  have hn4 := hR.n4; have hlM := hR.lM
  have HBG := Lib.hid (fun W (hW : Ext w W) vl (hl : Rows2 W vl [x]) => begin_any n F P C M v vl [x] W (hV.ext hW) hl hR (hlib.ext hW) (Nat.lt_of_lt_of_le hp hW.size))
  rw [hE] at HBG
  have HTE := Lib.hid (fun W (hW : Ext w W) => temper_any n P C M x v vx W (hV.ext hW) (hx.ext hW) hxl (right_els hR).1 (by omega) (by omega) hxb (right_els hR).2 (hlib.pow.ext hW))
  have HXI := Lib.hid hx
  have hxo := hx
  obtain ⟨vp, vc, vm, rfl, hvp, hvc, hvm⟩ := hV
  obtain ⟨ap, cp, rfl, -⟩ := hvp.open
  obtain ⟨ac, cc, rfl, -⟩ := inCell.open hvc
  obtain ⟨am, cm, rfl, -⟩ := inCell.open hvm
  obtain ⟨ax, cx, rfl, -⟩ := hxo.open
  have HTL : Hid ((temL M x n).length = M.length) := by unfold Hid temL; simp
  have HAN := Lib.hid (fun W v (h : ListAt 1 (inCell bigR) W v (temL M x n)) => anyBig_any (temL M x n) v W h)
  obtain ⟨B, hB⟩ : ∃ B, (temL M x n).any (· != 0) = B := ⟨_, rfl⟩
  rw [hB] at HAN ⊢
  clear hvp hvc hvm hR hlib hp hx hxo ho hE hxb hxl hB
  go_enter Tryz.func50, Tryz.ntmps50
  obtain ⟨W1, hW1, hE1, hs1, hb1⟩ := tp_new w (.slice ap P.length cp) (.slice ac C.length cc) (.slice am M.length cm)
  have HB1 := Lib.hid hb1; have HE1 := Lib.hid hE1
  obtain ⟨b0, b1, b2, -⟩ := tp_block hb1
  clear hE1 hs1 hb1
  go_wp2_with fail
  have HL1 := Lib.hid (rows_lit1 (HXI.out.ext HE1.out) 39)
  have HE2 := Lib.hid (HE1.out.trans (Ext.alloc W1 (.cells #[.slice ax x.length cx] 39)))
  have HB2 := Lib.hid (block_ext HB1.out (Ext.alloc W1 (.cells #[.slice ax x.length cx] 39)))
  refine (HBG.out _ HE2.out _ HL1.out).mono ?_
  rintro e w3 ⟨rfl, hE3⟩
  have HE3 := Lib.hid (HE2.out.trans hE3)
  have HB3 := Lib.hid (block_ext HB2.out hE3)
  clear hE3 HBG HB1 HE1 HB2 HE2 HL1 b0 b1 b2 hW1
  obtain ⟨b0, b1, b2, -⟩ := tp_block HB3.out
  go_wp2_with fail
  refine (HTE.out _ HE3.out).mono ?_
  rintro e w4 ⟨a4, c4, rfl, ho4, hE4⟩
  have HE4 := Lib.hid (HE3.out.trans hE4)
  have HBA := Lib.hid (HAN.out _ _ (bigs_list HTL.out ho4))
  clear ho4 hE4 HTE HB3 HE3 b0 b1 b2 HAN
  go_wp2_with fail
  refine HBA.out.mono ?_
  rintro e w5 ⟨rfl, hE5⟩
  have HE5 := Lib.hid (HE4.out.trans hE5)
  clear hE5
  go_wp2_with fail
  go_ret2
  exact ⟨rfl, HE5.out⟩

set_option maxRecDepth 100000 in
set_option maxHeartbeats 8000000 in
theorem trepr_any (n F : Nat) (P : List Int) (C M : List (List Int)) (x s ms : List Int) (v vx : Value) (w : World) (hV : TempV w v P C M) (hx : Ints w vx x) (hR : RightT n F P C M) (hE : allE n [x] = 0) (hr : redO C x C.length = some (s, ms)) (hs : s.all smB = true) (hlib : LibT w) (hp : 0 < w.heap.size) :
    Calls Tryz.prog 61 #[v, vx] w (RepR s w) := by
  obtain ⟨ho, hxl⟩ := allE_one hE
  have hRE : rowLE n C x = 0 := by
    unfold rowLE
    rw [if_pos hR.chk, if_pos ((rowE_zero x).2 ho), if_pos hxl]
  have HBG := Lib.hid (fun W (hW : Ext w W) vl (hl : Rows2 W vl [x]) => begin_any n F P C M v vl [x] W (hV.ext hW) hl hR (hlib.ext hW) (Nat.lt_of_lt_of_le hp hW.size))
  rw [hE] at HBG
  have HXI := Lib.hid hx
  have hxo := hx
  have hPl := hR.pl
  obtain ⟨vp, vc, vm, rfl, hvp, hvc, hvm⟩ := hV
  have HRP := Lib.hid (fun W (hW : Ext w W) => repr_any n C x s ms (.agg #[.int .i64 n, vc]) vx W ⟨_, rfl, hvc.ext hW⟩ (hx.ext hW) hRE hr hs (hlib.ext hW) (Nat.lt_of_lt_of_le hp hW.size))
  obtain ⟨ap, cp, rfl, -⟩ := hvp.open
  obtain ⟨ac, cc, rfl, -⟩ := inCell.open hvc
  obtain ⟨am, cm, rfl, -⟩ := inCell.open hvm
  obtain ⟨ax, cx, rfl, -⟩ := hxo.open
  rw [hPl] at HBG ⊢
  clear hvp hvc hvm hR hlib hp hx hxo ho hE hxl hRE hr hs hPl
  go_enter Tryz.func61, Tryz.ntmps61
  obtain ⟨W1, hW1, hE1, hs1, hb1⟩ := tp_new w (.slice ap n cp) (.slice ac C.length cc) (.slice am M.length cm)
  have HB1 := Lib.hid hb1; have HE1 := Lib.hid hE1
  obtain ⟨b0, b1, b2, -⟩ := tp_block hb1
  clear hE1 hs1 hb1
  go_wp2_with fail
  have HL1 := Lib.hid (rows_lit1 (HXI.out.ext HE1.out) 39)
  have HE2 := Lib.hid (HE1.out.trans (Ext.alloc W1 (.cells #[.slice ax x.length cx] 39)))
  have HB2 := Lib.hid (block_ext HB1.out (Ext.alloc W1 (.cells #[.slice ax x.length cx] 39)))
  refine (HBG.out _ HE2.out _ HL1.out).mono ?_
  rintro e w3 ⟨rfl, hE3⟩
  have HE3 := Lib.hid (HE2.out.trans hE3)
  have HB3 := Lib.hid (block_ext HB2.out hE3)
  clear hE3 HBG HB1 HE1 HB2 HE2 HL1 b0 b1 b2 hW1
  obtain ⟨b0, b1, b2, -⟩ := tp_block HB3.out
  go_wp2_with fail
  refine (HRP.out _ HE3.out).mono ?_
  rintro e w4 he
  obtain ⟨h1, hE4⟩ := he
  have HE4 := Lib.hid (HE3.out.trans hE4)
  clear hE4 HRP HB3 HE3 b0 b1 b2
  by_cases hf : s.all fit9B = true
  · rw [if_pos hf] at h1
    obtain ⟨v4, rfl, hv4⟩ := h1
    have HF := Lib.hid hf; have HI := Lib.hid hv4
    obtain ⟨a4, c4, rfl, -⟩ := hv4.open
    clear hf hv4
    go_wp2_with fail
    go_ret2
    unfold RepR
    rw [if_pos HF.out]
    exact ⟨⟨_, rfl, HI.out⟩, HE4.out⟩
  · rw [if_neg hf] at h1
    subst h1
    have HF := Lib.hid hf
    clear hf
    go_wp2_with fail
    go_ret2
    unfold RepR
    rw [if_neg HF.out]
    exact ⟨rfl, HE4.out⟩
end Go.Proofs.YtehknemdfbkimaaGreatDoor
/- Contracts of the references of chapters 05 and 09 and of law 09's small functions: Check, Lead, Equal, checkRows, check, equal, none, short. -/
namespace Go.Proofs.YtehknemdfbkimaaGreatDoor
set_option linter.unusedVariables false
set_option linter.unusedSimpArgs false
open Go.RowKit

set_option maxHeartbeats 800000 in
theorem refCheck_any (xs : List Int) (v : Value) (w : World) (h : Ints w v xs) :
    Calls Tryz.prog 28 #[v] w fun e w' => e = .returned (.int .i64 (rowE xs)) ∧ w = w' := by
  obtain ⟨a, c, rfl, h1, h2, -, -, hc⟩ := h.open
  have HC := Lib.hid hc
  unfold maxLen at h2
  clear h hc
  by_cases hl : 64 < xs.length
  · have HQ : Hid (rowE xs = 4) := by unfold Hid rowE; rw [if_pos hl]
    have hl' : (64 : Int) < (xs.length : Int) := by omega
    go_enter Tryz.func28, Tryz.ntmps28
    go_wp2
    go_ret
    exact ⟨by rw [HQ.out]; rfl, rfl⟩
  · have HL := Lib.hid hl
    have h64 : xs.length ≤ 64 := by omega
    clear hl
    go_enter Tryz.func28, Tryz.ntmps28
    go_wp2
    go_loop [3] (fun t => ∃ j : Nat, j ≤ xs.length ∧ t = .int .i64 j ∧ Hid ((xs.drop j).any (fun n => !fitB n) = xs.any (fun n => !fitB n))) (fun t => xs.length - (intOf t).toNat)
    case atStart => exact ⟨0, by omega, rfl, by unfold Hid; rw [List.drop_zero]⟩
    case round =>
      obtain ⟨j, hj, rfl, HR⟩ := hrel
      by_cases hlt : j < xs.length
      · obtain ⟨b, off, rfl, hb, hcell⟩ := HC.out (by intro e; simp [e] at hlt)
        obtain ⟨x, hx⟩ : ∃ x, xs[j]? = some x := ⟨xs[j], List.getElem?_eq_getElem hlt⟩
        have g1 := hcell j x hx
        have hd := drop_cons hx
        have hr := HR.out
        rw [hd, List.any_cons] at hr
        clear hcell hx hd HR
        by_cases hx1 : 1000000000 < x
        · have hf : fitB x = false := by rw [Bool.eq_false_iff, ne_eq, fitB_iff]; omega
          rw [hf, Bool.not_false, Bool.true_or] at hr
          have HQ : Hid (rowE xs = 4) := by unfold Hid rowE; rw [if_neg HL.out, if_pos hr.symm]
          clear hr hf
          go_wp2
          go_ret
          exact ⟨by rw [HQ.out]; rfl, rfl⟩
        · by_cases hx2 : x < -1000000000
          · have hf : fitB x = false := by rw [Bool.eq_false_iff, ne_eq, fitB_iff]; omega
            rw [hf, Bool.not_false, Bool.true_or] at hr
            have HQ : Hid (rowE xs = 4) := by unfold Hid rowE; rw [if_neg HL.out, if_pos hr.symm]
            clear hr hf
            go_wp2
            go_ret
            exact ⟨by rw [HQ.out]; rfl, rfl⟩
          · have hf : fitB x = true := by rw [fitB_iff]; omega
            rw [hf, Bool.not_true, Bool.false_or] at hr
            have HR2 := Lib.hid hr
            clear hr hf
            go_wp2
            go_round
            case rel => exact ⟨j + 1, by omega, by go_num, HR2.out⟩
            case measure => simp [intOf]; omega
      · obtain rfl : j = xs.length := by omega
        have HQ : Hid (rowE xs = 0) := by
          have := HR.out
          rw [List.drop_length] at this
          unfold Hid rowE
          rw [if_neg HL.out, if_neg (by rw [← this]; simp)]
        clear HR
        go_wp2
        go_ret
        exact ⟨by rw [HQ.out]; rfl, rfl⟩

/-- The column of the first element that is not 0, or the length. -/
def leadN (r : List Int) : Nat := r.findIdx (· != 0)
set_option maxRecDepth 100000 in
set_option maxHeartbeats 1000000 in
theorem rLead_any (xs : List Int) (v : Value) (w : World) (h : Ints w v xs) :
    Calls Tryz.prog 22 #[v] w fun e w' => e = .returned (.int .i64 (leadN xs : Nat)) ∧ w = w' := by
  obtain ⟨a, c, rfl, h1, h2, -, -, hc⟩ := h.open
  have HC := Lib.hid hc
  unfold maxLen at h2
  clear h hc
  go_enter Tryz.func22, Tryz.ntmps22
  go_wp2
  go_loop [3] (fun t => ∃ j : Nat, j ≤ xs.length ∧ t = .int .i64 j ∧ Hid (∀ i, i < j → xs.getD i 0 = 0)) (fun t => xs.length - (intOf t).toNat)
  case atStart => exact ⟨0, by omega, rfl, fun i hi => by omega⟩
  case round =>
    obtain ⟨j, hj, rfl, HR⟩ := hrel
    by_cases hlt : j < xs.length
    · obtain ⟨b, off, rfl, hb, hcell⟩ := HC.out (by intro e; simp [e] at hlt)
      obtain ⟨x, hx⟩ : ∃ x, xs[j]? = some x := ⟨xs[j], List.getElem?_eq_getElem hlt⟩
      have g1 := hcell j x hx
      have hxd : xs.getD j 0 = x := by rw [List.getD_eq_getElem?_getD, hx]; rfl
      by_cases hx0 : x = 0
      · subst hx0
        have HR2 : Hid (∀ i, i < j + 1 → xs.getD i 0 = 0) := fun i hi => by
          by_cases e : i = j
          · rw [e]; exact hxd
          · exact HR.out i (by omega)
        clear hcell hx hxd HR
        go_wp2
        go_round
        case rel => exact ⟨j + 1, by omega, by go_num, HR2.out⟩
        case measure => simp [intOf]; omega
      · have HQ : Hid (leadN xs = j) := by
          unfold Hid leadN
          rw [List.findIdx_eq hlt]
          refine ⟨by rw [List.getElem?_eq_getElem hlt] at hx; rw [Option.some.inj hx]; simpa using hx0, fun i hi => ?_⟩
          have := HR.out i hi
          rw [List.getD_eq_getElem?_getD, List.getElem?_eq_getElem (by omega)] at this
          simpa using this
        clear hcell hx hxd HR
        go_wp2
        go_ret
        exact ⟨by rw [HQ.out]; rfl, rfl⟩
    · obtain rfl : j = xs.length := by omega
      have HQ : Hid (leadN xs = xs.length) := by
        unfold Hid leadN
        rw [List.findIdx_eq_length]
        intro x hx
        obtain ⟨i, hi⟩ := List.getElem?_of_mem hx
        have := HR.out i (List.getElem?_eq_some_iff.1 hi).1
        rw [List.getD_eq_getElem?_getD, hi] at this
        simpa using this
      clear HR
      go_wp2
      go_ret
      exact ⟨by rw [HQ.out]; rfl, rfl⟩

set_option maxRecDepth 100000 in
set_option maxHeartbeats 2000000 in
theorem rEq9_any (xs ys : List (List Int)) (u v : Value) (w : World) (h : Rows2 w u xs) (k : Rows2 w v ys) :
    Calls Tryz.prog 23 #[u, v] w fun e w' => e = .returned (.bool (xs == ys)) ∧ Ext w w' := by
  have HXS := Lib.hid h; have HYS := Lib.hid k
  obtain ⟨a, c, rfl, h1, h2, -, hc⟩ := inCell.open h
  obtain ⟨a', c', rfl, k1, k2, -, kc⟩ := inCell.open k
  have HC := Lib.hid hc; have KC := Lib.hid kc
  unfold maxLen at h2 k2
  clear h k hc kc
  by_cases hl : xs.length = ys.length
  · have hn : ((xs.length : Int) != (ys.length : Int)) = false := by simp [hl]
    have hle1 : xs.length ≤ ys.length := by omega
    have HL := Lib.hid hl
    have hle2 : ys.length ≤ xs.length := by omega
    clear hl
    go_enter Tryz.func23, Tryz.ntmps23
    go_wp2_with fail
    go_loopw [5] (fun t wr => ∃ j : Nat, j ≤ xs.length ∧ t = .int .i64 j ∧ Ext w wr ∧ Hid (xs.take j = ys.take j)) (fun t _ => xs.length - (intOf t).toNat)
    case atStart => exact ⟨0, by omega, rfl, Ext.refl _, rfl⟩
    case round =>
      obtain ⟨j, hj, rfl, hE, HT⟩ := hrel
      obtain ⟨wo, rfl⟩ : ∃ wo : World, wo = wr := ⟨_, rfl⟩
      have HE := Lib.hid hE
      by_cases hlt : j < xs.length
      · obtain ⟨b, off, rfl, hb, hcell⟩ := HC.out (by intro e; simp [e] at hlt)
        obtain ⟨b', off', rfl, hb', hcell'⟩ := KC.out (by intro e; simp [e] at hle1; simp [hle1] at hlt)
        obtain ⟨x, hx⟩ : ∃ x, xs[j]? = some x := ⟨xs[j], List.getElem?_eq_getElem hlt⟩
        obtain ⟨y, hy⟩ : ∃ y, ys[j]? = some y := ⟨ys[j]'(by omega), List.getElem?_eq_getElem _⟩
        obtain ⟨vx, hvx, hcx⟩ := hcell j x hx
        obtain ⟨vy, hvy, hcy⟩ := hcell' j y hy
        have g1 := hE.cell hcx
        have g2 := hE.cell hcy
        have q1 : (j : Int) < (xs.length : Int) := by omega
        have q2 : (j : Int) < (ys.length : Int) := by omega
        have hvx2 := hvx.ext hE; have hvy2 := hvy.ext hE
        obtain ⟨ax, cx, rfl, x1, x2, -, -, xc⟩ := hvx2.open
        obtain ⟨ay, cy, rfl, y1, y2, -, -, yc⟩ := hvy2.open
        have XC := Lib.hid xc; have YC := Lib.hid yc
        unfold maxLen at x2 y2
        have HX := Lib.hid hx; have HY := Lib.hid hy
        have HNE : Hid (x ≠ y → (xs == ys) = false) := fun hne => by
          rw [beq_eq_false_iff_ne]
          intro e
          rw [e, hy] at hx
          exact hne (Option.some.inj hx).symm
        have HNX : Hid (x = y → xs.take (j + 1) = ys.take (j + 1)) := fun e => by
          rw [List.take_add_one, List.take_add_one, HT.out, hx, hy, e]
        clear hcell hcell' hcx hcy hvx hvy hvx2 hvy2 xc yc hx hy hE
        by_cases hll : x.length = y.length
        · have hn2 : ((x.length : Int) != (y.length : Int)) = false := by simp [hll]
          have hn3 : decide ((x.length : Int) ≠ (y.length : Int)) = false := by simp [hll]
          have hy3 : x.length ≤ y.length := by omega
          have HLL := Lib.hid hll
          clear hll
          go_wp2_with fail
          go_quiet (fail)
          go_wp2_with fail
          go_loopw [6] (fun t wr => ∃ i : Nat, i ≤ x.length ∧ t = .int .i64 i ∧ Ext wo wr ∧ Hid (x.take i = y.take i)) (fun t _ => x.length - (intOf t).toNat)
          case atStart => exact ⟨0, by omega, rfl, Ext.drewN _ _, rfl⟩
          case round =>
            obtain ⟨i, hi, rfl, hEi, HTi⟩ := hrel
            obtain ⟨wi, rfl⟩ : ∃ wi : World, wi = wr := ⟨_, rfl⟩
            have HEi := Lib.hid hEi
            have g3 := hEi.cell g1; have g4 := hEi.cell g2
            by_cases hil : i < x.length
            · obtain ⟨bx, ox, rfl, -, xcell⟩ := XC.out (by intro e; simp [e] at hil)
              obtain ⟨by', oy, rfl, -, ycell⟩ := YC.out (by intro e; have h0 : y.length = 0 := (by rw [e]; rfl); omega)
              obtain ⟨p, hp⟩ : ∃ p, x[i]? = some p := ⟨x[i], List.getElem?_eq_getElem hil⟩
              obtain ⟨q, hq⟩ : ∃ q, y[i]? = some q := ⟨y[i]'(by omega), List.getElem?_eq_getElem _⟩
              have g5 := hEi.cell (xcell i p hp); have g6 := hEi.cell (ycell i q hq)
              have q3 : (i : Int) < (x.length : Int) := by omega
              have q4 : (i : Int) < (y.length : Int) := by omega
              have HNE2 : Hid (p ≠ q → x ≠ y) := fun hne e => by
                rw [e, hq] at hp
                exact hne (Option.some.inj hp).symm
              have HNX2 : Hid (p = q → x.take (i + 1) = y.take (i + 1)) := fun e => by
                rw [List.take_add_one, List.take_add_one, HTi.out, hp, hq, e]
              clear xcell ycell hp hq hEi g1 g2
              by_cases hpq : p = q
              · have HT2 := Lib.hid (HNX2.out hpq)
                subst hpq
                clear HNE2 HNX2
                go_wp2_with fail
                go_quiet (fail)
                go_wp2_with fail
                go_roundw
                case rel => exact ⟨i + 1, by omega, by go_num, HEi.out.trans (Ext.drewN _ _), HT2.out⟩
                case measure => simp [intOf]; omega
              · have HF := Lib.hid (HNE.out (HNE2.out hpq))
                clear HNE2 HNX2 HNE HNX
                go_wp2_with fail
                go_quiet (fail)
                go_wp2_with fail
                go_ret
                rw [HF.out]
                exact ⟨rfl, HE.out.trans (HEi.out.trans (Ext.drewN _ _))⟩
            · obtain rfl : i = x.length := by omega
              have HT2 : Hid (xs.take (j + 1) = ys.take (j + 1)) := HNX.out (by
                have := HTi.out
                rw [List.take_length, HLL.out, List.take_length] at this
                exact this)
              clear hEi
              go_wp2_with fail
              go_roundw
              case rel => exact ⟨j + 1, by omega, by go_num, HE.out.trans HEi.out, HT2.out⟩
              case measure => simp [intOf]; omega
        · have hn2 : ((x.length : Int) != (y.length : Int)) = true := by simp; omega
          have HF := Lib.hid (HNE.out (fun e => hll (by rw [e])))
          clear HNE HNX hll
          go_wp2_with fail
          go_quiet (fail)
          go_wp2_with fail
          go_ret
          rw [HF.out]
          exact ⟨rfl, HE.out.trans (Ext.drewN _ _)⟩
      · obtain rfl : j = xs.length := by omega
        have HT2 : Hid ((xs == ys) = true) := by
          unfold Hid
          rw [beq_iff_eq]
          have := HT.out
          rw [List.take_length, HL.out, List.take_length] at this
          exact this
        clear hE
        go_wp2_with fail
        go_ret
        rw [HT2.out]
        exact ⟨rfl, HE.out⟩
  · have hn : ((xs.length : Int) != (ys.length : Int)) = true := by simp; omega
    have HF : Hid ((xs == ys) = false) := by
      unfold Hid
      rw [beq_eq_false_iff_ne]
      intro e
      exact hl (by rw [e])
    clear hl
    go_enter Tryz.func23, Tryz.ntmps23
    go_wp2
    go_ret
    rw [HF.out]
    exact ⟨rfl, Ext.refl _⟩
end Go.Proofs.YtehknemdfbkimaaGreatDoor
