/- Merged: TSpanP, TAddP, TTemP, TBad. -/
import Derived.Test.YtehknemdfbkimaaGreatDoorQBJ
import Derived.Test.YtehknemdfbkimaaGreatDoorQBC
/- Law 18, plain: what the temperaments of commas and of mappings temper out. -/
namespace Go.Proofs.YtehknemdfbkimaaGreatDoor
set_option linter.unusedVariables false
set_option linter.unusedSimpArgs false
open Go.RowKit

theorem sat_of {n : Nat} {m : List (List Int)} (hm : ∀ x ∈ m, x.length = n) {x : List Int} (hx : x ∈ m) : Sat n m x := by
  refine ⟨hm x hx, 1, by decide, ?_⟩
  have : smulL 1 x = x := by unfold smulL; simp
  rw [this]
  exact sp_row hx
end Go.Proofs.YtehknemdfbkimaaGreatDoor
/- Law 18, plain: intervals are identified exactly if they have the same representative. -/
namespace Go.Proofs.YtehknemdfbkimaaGreatDoor
set_option linter.unusedVariables false
set_option linter.unusedSimpArgs false
open Go.RowKit

theorem ker_out {n F : Nat} {P : List Int} {m C M : List (List Int)} {vals : Bool} (hn : n ≤ 4) (hm : ∀ x ∈ m, x.length = n) (h9 : ∀ x ∈ m, RowLe 9 x) (hT : TempF n F P m C M vals) {v : List Int} (h : Ann n M v) : Sp n (RowsFrom 0 C) v := by
  have hW : Wid n m := fun i hi => hm _ (rowE_mem hi)
  have hWM : Wid n M := fun i hi => (hT.right.bM _ (rowE_mem hi)).2
  rw [hT.spC]
  cases vals
  · simp only [Bool.false_eq_true, if_false]
    have hg := gsz hn
    obtain ⟨-, T, qs, -, -, -, -, -, -, b7⟩ := ker_spec n 9 6 26 m hm h9 (by decide) (by decide) (Nat.le_trans (le629 hn) (by decide)) hg.1 hg.2.1 hg.2.2.1 hg.2.2.2
    obtain ⟨D, hD, hs⟩ := b7 v h.1 fun u hu => ann_sp hWM ((hT.spM u).2 (by simpa using hu)) h
    exact ⟨h.1, D, hD, hs⟩
  · simp only [if_true]
    exact ⟨h.1, fun i hi => ann_sp hWM ((hT.spM _).2 (by simpa using sat_of hm (rowE_mem hi))) h⟩
theorem out_ker {n F : Nat} {P : List Int} {m C M : List (List Int)} {vals : Bool} (hm : ∀ x ∈ m, x.length = n) (hT : TempF n F P m C M vals) {v : List Int} (h : Sp n (RowsFrom 0 C) v) {r : List Int} (hr : r ∈ M) : dotZ r v n = 0 := by
  have hW : Wid n m := fun i hi => hm _ (rowE_mem hi)
  have h1 := (hT.spC v).1 h
  have h2 := (hT.spM r).1 (sp_row hr)
  cases vals
  · simp only [Bool.false_eq_true, if_false] at h1 h2
    exact orth_of hW h1 h2
  · simp only [if_true] at h1 h2
    rw [dotZ_comm]
    exact orth_of hW h2 h1
theorem tem_eq {n F : Nat} {P : List Int} {m C M : List (List Int)} {vals : Bool} (hn : n ≤ 4) (hm : ∀ x ∈ m, x.length = n) (h9 : ∀ x ∈ m, RowLe 9 x) (hT : TempF n F P m C M vals) {x y : List Int} (hx : x.length = n) (hy : y.length = n) : temL M x n = temL M y n ↔ Sp n (RowsFrom 0 C) (lessL 1 x y) := by
  have hl : y.length = x.length := by omega
  constructor
  · intro h
    refine ker_out hn hm h9 hT ⟨by rw [lessL_len]; exact hx, fun i hi => ?_⟩
    have h2 : dotZ x (rowE_ M i) n = dotZ y (rowE_ M i) n := List.map_inj_left.1 h _ (rowE_mem hi)
    rw [dotZ_less _ _ hl, dotZ_comm _ x, dotZ_comm _ y, h2]
    omega
  · intro h
    refine List.map_congr_left fun r hr => ?_
    have h2 := out_ker hm hT h hr
    rw [dotZ_less _ _ hl, dotZ_comm r x, dotZ_comm r y] at h2
    omega
/-- The law. -/
theorem same_repr {n F : Nat} {P : List Int} {m C M : List (List Int)} {vals : Bool} {ps : Nat → Nat} (hn : n ≤ 4) (hm : ∀ x ∈ m, x.length = n) (h9 : ∀ x ∈ m, RowLe 9 x) (hT : TempF n F P m C M vals) (hC : HForm n C ps) {x y s t : List Int} (hx : x.length = n) (hy : y.length = n)
    (h1 : s.length = n ∧ Sp n (RowsFrom 0 C) (lessL 1 x s) ∧ RedP C ps C.length s) (h2 : t.length = n ∧ Sp n (RowsFrom 0 C) (lessL 1 y t) ∧ RedP C ps C.length t) :
    (temL M x n == temL M y n) = (s == t) ∧ temL M x n = temL M s n := by
  refine ⟨?_, (tem_eq hn hm h9 hT hx h1.1).2 h1.2.1⟩
  rw [Bool.eq_iff_iff, beq_iff_eq, beq_iff_eq, tem_eq hn hm h9 hT hx hy, red_same hC hx hy h1.1 h2.1 h1.2.1 h2.2.1 h1.2.2 h2.2.2]
end Go.Proofs.YtehknemdfbkimaaGreatDoor
/- Law 18, plain: an interval is tempered out exactly if it belongs to the lattice of the commas. No program is named here. -/
namespace Go.Proofs.YtehknemdfbkimaaGreatDoor
set_option linter.unusedVariables false
set_option linter.unusedSimpArgs false
open Go.RowKit

theorem leadL_zeros (n : Nat) {s : List Int} (hs : s.length = n) : leadL s < 0 ↔ s = List.replicate n 0 := by
  unfold leadL
  constructor
  · intro h
    cases hf : s.findIdx? (· != 0) with
    | some i => rw [hf] at h; simp only at h; omega
    | none =>
      rw [List.findIdx?_eq_none_iff] at hf
      exact List.eq_replicate_iff.2 ⟨hs, fun x hx => by simpa using hf x hx⟩
  · intro h
    have : s.findIdx? (· != 0) = none := by
      rw [List.findIdx?_eq_none_iff]
      intro x hx
      rw [h] at hx
      rw [(List.mem_replicate.1 hx).2]; rfl
    rw [this]; decide
theorem out_in {n F : Nat} {P : List Int} {m C M : List (List Int)} {vals : Bool} {ps : Nat → Nat} (hn : n ≤ 4) (hm : ∀ x ∈ m, x.length = n) (h9 : ∀ x ∈ m, RowLe 9 x) (hT : TempF n F P m C M vals) (hC : HForm n C ps) {x s : List Int} (hx : x.length = n)
    (h1 : s.length = n ∧ Sp n (RowsFrom 0 C) (lessL 1 x s) ∧ RedP C ps C.length s) : (!(temL M x n).any (· != 0)) = decide (leadL s < 0) := by
  rw [Bool.eq_iff_iff, Bool.not_eq_true', List.any_eq_false, decide_eq_true_iff, leadL_zeros n h1.1, red_zero hC hx h1.1 h1.2.1 h1.2.2]
  constructor
  · intro h
    refine ker_out hn hm h9 hT ⟨hx, fun i hi => ?_⟩
    have := h (dotZ x (rowE_ M i) n) (List.mem_map.2 ⟨_, rowE_mem hi, rfl⟩)
    rw [dotZ_comm]
    simpa using this
  · intro h y hy
    obtain ⟨r, hr, rfl⟩ := List.mem_map.1 hy
    have := out_ker hm hT h hr
    rw [dotZ_comm] at this
    simp [this]
end Go.Proofs.YtehknemdfbkimaaGreatDoor
/- temperament.Temper, TempersOut, Represent where an interval is wrong. Printed by gen/tbad.py. -/
namespace Go.Proofs.YtehknemdfbkimaaGreatDoor
set_option linter.unusedVariables false
set_option linter.unusedSimpArgs false
open Go.RowKit

/-- A row that fits, or none with ErrLimit. -/
def repL (s : List Int) : List Int := if s.all fit9B = true then s else []
def repE (s : List Int) : Int := if s.all fit9B = true then 0 else 4
theorem ints_zero (w : World) : Ints w (.slice none 0 0) [] := ⟨[], rfl, by simp, ⟨none, 0, rfl, Nat.le_refl _, by unfold maxLen; omega, fun _ => rfl, fun h => absurd rfl h⟩, by simp⟩
theorem RepR.both {s : List Int} {w w' : World} {e : Ending} (h : RepR s w e w') : ∃ a c, e = .returned (.tuple #[.slice a (repL s).length c, .int .i64 (repE s)]) ∧ Ints w' (.slice a (repL s).length c) (repL s) ∧ Ext w w' := by
  obtain ⟨h, hE⟩ := h
  by_cases hf : s.all fit9B = true
  · rw [if_pos hf] at h
    obtain ⟨v, rfl, hi⟩ := h
    have e1 : repL s = s := if_pos hf
    have e2 : repE s = 0 := if_pos hf
    rw [e1, e2]
    obtain ⟨a, c, hv, -⟩ := hi.open
    rw [hv] at hi ⊢
    exact ⟨a, c, rfl, hi, hE⟩
  · rw [if_neg hf] at h
    have e1 : repL s = [] := if_neg hf
    have e2 : repE s = 4 := if_neg hf
    rw [e1, e2]
    exact ⟨none, 0, h, ints_zero _, hE⟩

set_option maxRecDepth 100000 in
set_option maxHeartbeats 4000000 in
theorem temper_bad (n F : Nat) (P : List Int) (C M : List (List Int)) (x : List Int) (v vx : Value) (w : World) (hV : TempV w v P C M) (hx : Ints w vx x) (hR : RightT n F P C M) (hE : allE n [x] ≠ 0) (hlib : LibT w) (hp : 0 < w.heap.size) :
    Calls Tryz.prog 60 #[v, vx] w fun e w' => e = .returned (.tuple #[.slice none 0 0, .int .i64 (allE n [x])]) ∧ Ext w w' := by
  have HBG := Lib.hid (fun W (hW : Ext w W) vl (hl : Rows2 W vl [x]) => begin_any n F P C M v vl [x] W (hV.ext hW) hl hR (hlib.ext hW) (Nat.lt_of_lt_of_le hp hW.size))
  obtain ⟨E, hEE⟩ : ∃ E, allE n [x] = E := ⟨_, rfl⟩
  rw [hEE] at HBG hE ⊢
  have HXI := Lib.hid hx
  have hxo := hx
  obtain ⟨vp, vc, vm, rfl, hvp, hvc, hvm⟩ := hV
  obtain ⟨ap, cp, rfl, -⟩ := hvp.open
  obtain ⟨ac, cc, rfl, -⟩ := inCell.open hvc
  obtain ⟨am, cm, rfl, -⟩ := inCell.open hvm
  obtain ⟨ax, cx, rfl, -⟩ := hxo.open
  have hz : (E != 0) = true := by simp [hE]
  clear hvp hvc hvm hR hlib hp hx hxo hE hEE
  go_enter Tryz.func60, Tryz.ntmps60
  obtain ⟨W1, hW1, hE1, hs1, hb1⟩ := tp_new w (.slice ap P.length cp) (.slice ac C.length cc) (.slice am M.length cm)
  have HB1 := Lib.hid hb1; have HE1 := Lib.hid hE1
  obtain ⟨b0, b1, b2, -⟩ := tp_block hb1
  clear hE1 hs1 hb1
  go_wp2_with fail
  have HL1 := Lib.hid (rows_lit1 (HXI.out.ext HE1.out) 39)
  have HE2 := Lib.hid (HE1.out.trans (Ext.alloc W1 (.cells #[.slice ax x.length cx] 39)))
  refine (HBG.out _ HE2.out _ HL1.out).mono ?_
  rintro e w3 ⟨rfl, hE3⟩
  have HE3 := Lib.hid (HE2.out.trans hE3)
  clear hE3 HBG HB1 HE1 HE2 HL1 b0 b1 b2 hW1
  go_wp2_with fail
  go_ret2
  exact ⟨rfl, HE3.out⟩

set_option maxRecDepth 100000 in
set_option maxHeartbeats 4000000 in
theorem tempersOut_bad (n F : Nat) (P : List Int) (C M : List (List Int)) (x : List Int) (v vx : Value) (w : World) (hV : TempV w v P C M) (hx : Ints w vx x) (hR : RightT n F P C M) (hE : allE n [x] ≠ 0) (hlib : LibT w) (hp : 0 < w.heap.size) :
    Calls Tryz.prog 50 #[v, vx] w fun e w' => e = .returned (.tuple #[.bool false, .int .i64 (allE n [x])]) ∧ Ext w w' := by
  have HBG := Lib.hid (fun W (hW : Ext w W) vl (hl : Rows2 W vl [x]) => begin_any n F P C M v vl [x] W (hV.ext hW) hl hR (hlib.ext hW) (Nat.lt_of_lt_of_le hp hW.size))
  obtain ⟨E, hEE⟩ : ∃ E, allE n [x] = E := ⟨_, rfl⟩
  rw [hEE] at HBG hE ⊢
  have HXI := Lib.hid hx
  have hxo := hx
  obtain ⟨vp, vc, vm, rfl, hvp, hvc, hvm⟩ := hV
  obtain ⟨ap, cp, rfl, -⟩ := hvp.open
  obtain ⟨ac, cc, rfl, -⟩ := inCell.open hvc
  obtain ⟨am, cm, rfl, -⟩ := inCell.open hvm
  obtain ⟨ax, cx, rfl, -⟩ := hxo.open
  have hz : (E != 0) = true := by simp [hE]
  clear hvp hvc hvm hR hlib hp hx hxo hE hEE
  go_enter Tryz.func50, Tryz.ntmps50
  obtain ⟨W1, hW1, hE1, hs1, hb1⟩ := tp_new w (.slice ap P.length cp) (.slice ac C.length cc) (.slice am M.length cm)
  have HB1 := Lib.hid hb1; have HE1 := Lib.hid hE1
  obtain ⟨b0, b1, b2, -⟩ := tp_block hb1
  clear hE1 hs1 hb1
  go_wp2_with fail
  have HL1 := Lib.hid (rows_lit1 (HXI.out.ext HE1.out) 39)
  have HE2 := Lib.hid (HE1.out.trans (Ext.alloc W1 (.cells #[.slice ax x.length cx] 39)))
  refine (HBG.out _ HE2.out _ HL1.out).mono ?_
  rintro e w3 ⟨rfl, hE3⟩
  have HE3 := Lib.hid (HE2.out.trans hE3)
  clear hE3 HBG HB1 HE1 HE2 HL1 b0 b1 b2 hW1
  go_wp2_with fail
  go_ret2
  exact ⟨rfl, HE3.out⟩

set_option maxRecDepth 100000 in
set_option maxHeartbeats 4000000 in
theorem trepr_bad (n F : Nat) (P : List Int) (C M : List (List Int)) (x : List Int) (v vx : Value) (w : World) (hV : TempV w v P C M) (hx : Ints w vx x) (hR : RightT n F P C M) (hE : allE n [x] ≠ 0) (hlib : LibT w) (hp : 0 < w.heap.size) :
    Calls Tryz.prog 61 #[v, vx] w fun e w' => e = .returned (.tuple #[.slice none 0 0, .int .i64 (allE n [x])]) ∧ Ext w w' := by
  have HBG := Lib.hid (fun W (hW : Ext w W) vl (hl : Rows2 W vl [x]) => begin_any n F P C M v vl [x] W (hV.ext hW) hl hR (hlib.ext hW) (Nat.lt_of_lt_of_le hp hW.size))
  obtain ⟨E, hEE⟩ : ∃ E, allE n [x] = E := ⟨_, rfl⟩
  rw [hEE] at HBG hE ⊢
  have HXI := Lib.hid hx
  have hxo := hx
  obtain ⟨vp, vc, vm, rfl, hvp, hvc, hvm⟩ := hV
  obtain ⟨ap, cp, rfl, -⟩ := hvp.open
  obtain ⟨ac, cc, rfl, -⟩ := inCell.open hvc
  obtain ⟨am, cm, rfl, -⟩ := inCell.open hvm
  obtain ⟨ax, cx, rfl, -⟩ := hxo.open
  have hz : (E != 0) = true := by simp [hE]
  clear hvp hvc hvm hR hlib hp hx hxo hE hEE
  go_enter Tryz.func61, Tryz.ntmps61
  obtain ⟨W1, hW1, hE1, hs1, hb1⟩ := tp_new w (.slice ap P.length cp) (.slice ac C.length cc) (.slice am M.length cm)
  have HB1 := Lib.hid hb1; have HE1 := Lib.hid hE1
  obtain ⟨b0, b1, b2, -⟩ := tp_block hb1
  clear hE1 hs1 hb1
  go_wp2_with fail
  have HL1 := Lib.hid (rows_lit1 (HXI.out.ext HE1.out) 39)
  have HE2 := Lib.hid (HE1.out.trans (Ext.alloc W1 (.cells #[.slice ax x.length cx] 39)))
  refine (HBG.out _ HE2.out _ HL1.out).mono ?_
  rintro e w3 ⟨rfl, hE3⟩
  have HE3 := Lib.hid (HE2.out.trans hE3)
  clear hE3 HBG HB1 HE1 HE2 HL1 b0 b1 b2 hW1
  go_wp2_with fail
  go_ret2
  exact ⟨rfl, HE3.out⟩
end Go.Proofs.YtehknemdfbkimaaGreatDoor
