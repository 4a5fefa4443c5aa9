/- Merged: TBad, TIdn, TIdnB, TChkB. -/
import Derived.Test.YtehknemdfbkimaaGreatDoorSAY
import Derived.Test.YtehknemdfbkimaaGreatDoorSAX
import Derived.Test.YtehknemdfbkimaaGreatDoorTBAC
/- temperament.Temper, TempersOut, Represent where an interval is wrong. Printed by gen/tbad.py. -/
namespace Go.Proofs.YtehknemdfbkimaaGreatDoor
set_option linter.unusedVariables false
set_option linter.unusedSimpArgs false
open Go.RowKit

/-- A row that fits, or none with ErrLimit. -/
def repL (s : List Int) : List Int := if s.all fit9B = true then s else []
def repE (s : List Int) : Int := if s.all fit9B = true then 0 else 4
theorem ints_zero (w : World) : Ints w (.slice none 0 0) [] := ⟨[], rfl, by simp, ⟨none, 0, rfl, Nat.le_refl _, by unfold maxLen; omega, fun _ => rfl, fun h => absurd rfl h⟩, by simp⟩
theorem RepR.both {s : List Int} {w w' : World} {e : Ending} (h : RepR s w e w') : ∃ a c, e = .returned (.tuple #[.slice a (repL s).length c, .int .i64 (repE s)]) ∧ Ints w' (.slice a (repL s).length c) (repL s) ∧ Ext w w' := by
  obtain ⟨h, hE⟩ := h
  by_cases hf : s.all fit9B = true
  · rw [if_pos hf] at h
    obtain ⟨v, rfl, hi⟩ := h
    have e1 : repL s = s := if_pos hf
    have e2 : repE s = 0 := if_pos hf
    rw [e1, e2]
    obtain ⟨a, c, hv, -⟩ := hi.open
    rw [hv] at hi ⊢
    exact ⟨a, c, rfl, hi, hE⟩
  · rw [if_neg hf] at h
    have e1 : repL s = [] := if_neg hf
    have e2 : repE s = 4 := if_neg hf
    rw [e1, e2]
    exact ⟨none, 0, h, ints_zero _, hE⟩

set_option maxRecDepth 100000 in
set_option maxHeartbeats 4000000 in
theorem temper_bad (n F : Nat) (P : List Int) (C M : List (List Int)) (x : List Int) (v vx : Value) (w : World) (hV : TempV w v P C M) (hx : Ints w vx x) (hR : RightT n F P C M) (hE : allE n [x] ≠ 0) (hlib : LibT w) (hp : 0 < w.heap.size) :
    Calls Tryz.prog 60 #[v, vx] w fun e w' => e = .returned (.tuple #[.slice none 0 0, .int .i64 (allE n [x])]) ∧ Ext w w' := by
  have HBG := Lib.hid (fun W (hW : Ext w W) vl (hl : Rows2 W vl [x]) => begin_any n F P C M v vl [x] W (hV.ext hW) hl hR (hlib.ext hW) (Nat.lt_of_lt_of_le hp hW.size))
  obtain ⟨E, hEE⟩ : ∃ E, allE n [x] = E := ⟨_, rfl⟩
  rw [hEE] at HBG hE ⊢
  have HXI := Lib.hid hx
  have hxo := hx
  obtain ⟨vp, vc, vm, rfl, hvp, hvc, hvm⟩ := hV
  obtain ⟨ap, cp, rfl, -⟩ := hvp.open
  obtain ⟨ac, cc, rfl, -⟩ := inCell.open hvc
  obtain ⟨am, cm, rfl, -⟩ := inCell.open hvm
  obtain ⟨ax, cx, rfl, -⟩ := hxo.open
  have hz : (E != 0) = true := by simp [hE]
  clear hvp hvc hvm hR hlib hp hx hxo hE hEE
  go_enter Tryz.func60, Tryz.ntmps60
  obtain ⟨W1, hW1, hE1, hs1, hb1⟩ := tp_new w (.slice ap P.length cp) (.slice ac C.length cc) (.slice am M.length cm)
  have HB1 := Lib.hid hb1; have HE1 := Lib.hid hE1
  obtain ⟨b0, b1, b2, -⟩ := tp_block hb1
  clear hE1 hs1 hb1
  go_wp2_with fail
  have HL1 := Lib.hid (rows_lit1 (HXI.out.ext HE1.out) 39)
  have HE2 := Lib.hid (HE1.out.trans (Ext.alloc W1 (.cells #[.slice ax x.length cx] 39)))
  refine (HBG.out _ HE2.out _ HL1.out).mono ?_
  rintro e w3 ⟨rfl, hE3⟩
  have HE3 := Lib.hid (HE2.out.trans hE3)
  clear hE3 HBG HB1 HE1 HE2 HL1 b0 b1 b2 hW1
  go_wp2_with fail
  go_ret2
  exact ⟨rfl, HE3.out⟩

set_option maxRecDepth 100000 in
set_option maxHeartbeats 4000000 in
theorem tempersOut_bad (n F : Nat) (P : List Int) (C M : List (List Int)) (x : List Int) (v vx : Value) (w : World) (hV : TempV w v P C M) (hx : Ints w vx x) (hR : RightT n F P C M) (hE : allE n [x] ≠ 0) (hlib : LibT w) (hp : 0 < w.heap.size) :
    Calls Tryz.prog 50 #[v, vx] w fun e w' => e = .returned (.tuple #[.bool false, .int .i64 (allE n [x])]) ∧ Ext w w' := by
  have HBG := Lib.hid (fun W (hW : Ext w W) vl (hl : Rows2 W vl [x]) => begin_any n F P C M v vl [x] W (hV.ext hW) hl hR (hlib.ext hW) (Nat.lt_of_lt_of_le hp hW.size))
  obtain ⟨E, hEE⟩ : ∃ E, allE n [x] = E := ⟨_, rfl⟩
  rw [hEE] at HBG hE ⊢
  have HXI := Lib.hid hx
  have hxo := hx
  obtain ⟨vp, vc, vm, rfl, hvp, hvc, hvm⟩ := hV
  obtain ⟨ap, cp, rfl, -⟩ := hvp.open
  obtain ⟨ac, cc, rfl, -⟩ := inCell.open hvc
  obtain ⟨am, cm, rfl, -⟩ := inCell.open hvm
  obtain ⟨ax, cx, rfl, -⟩ := hxo.open
  have hz : (E != 0) = true := by simp [hE]
  clear hvp hvc hvm hR hlib hp hx hxo hE hEE
  go_enter Tryz.func50, Tryz.ntmps50
  obtain ⟨W1, hW1, hE1, hs1, hb1⟩ := tp_new w (.slice ap P.length cp) (.slice ac C.length cc) (.slice am M.length cm)
  have HB1 := Lib.hid hb1; have HE1 := Lib.hid hE1
  obtain ⟨b0, b1, b2, -⟩ := tp_block hb1
  clear hE1 hs1 hb1
  go_wp2_with fail
  have HL1 := Lib.hid (rows_lit1 (HXI.out.ext HE1.out) 39)
  have HE2 := Lib.hid (HE1.out.trans (Ext.alloc W1 (.cells #[.slice ax x.length cx] 39)))
  refine (HBG.out _ HE2.out _ HL1.out).mono ?_
  rintro e w3 ⟨rfl, hE3⟩
  have HE3 := Lib.hid (HE2.out.trans hE3)
  clear hE3 HBG HB1 HE1 HE2 HL1 b0 b1 b2 hW1
  go_wp2_with fail
  go_ret2
  exact ⟨rfl, HE3.out⟩

set_option maxRecDepth 100000 in
set_option maxHeartbeats 4000000 in
theorem trepr_bad (n F : Nat) (P : List Int) (C M : List (List Int)) (x : List Int) (v vx : Value) (w : World) (hV : TempV w v P C M) (hx : Ints w vx x) (hR : RightT n F P C M) (hE : allE n [x] ≠ 0) (hlib : LibT w) (hp : 0 < w.heap.size) :
    Calls Tryz.prog 61 #[v, vx] w fun e w' => e = .returned (.tuple #[.slice none 0 0, .int .i64 (allE n [x])]) ∧ Ext w w' := by
  have HBG := Lib.hid (fun W (hW : Ext w W) vl (hl : Rows2 W vl [x]) => begin_any n F P C M v vl [x] W (hV.ext hW) hl hR (hlib.ext hW) (Nat.lt_of_lt_of_le hp hW.size))
  obtain ⟨E, hEE⟩ : ∃ E, allE n [x] = E := ⟨_, rfl⟩
  rw [hEE] at HBG hE ⊢
  have HXI := Lib.hid hx
  have hxo := hx
  obtain ⟨vp, vc, vm, rfl, hvp, hvc, hvm⟩ := hV
  obtain ⟨ap, cp, rfl, -⟩ := hvp.open
  obtain ⟨ac, cc, rfl, -⟩ := inCell.open hvc
  obtain ⟨am, cm, rfl, -⟩ := inCell.open hvm
  obtain ⟨ax, cx, rfl, -⟩ := hxo.open
  have hz : (E != 0) = true := by simp [hE]
  clear hvp hvc hvm hR hlib hp hx hxo hE hEE
  go_enter Tryz.func61, Tryz.ntmps61
  obtain ⟨W1, hW1, hE1, hs1, hb1⟩ := tp_new w (.slice ap P.length cp) (.slice ac C.length cc) (.slice am M.length cm)
  have HB1 := Lib.hid hb1; have HE1 := Lib.hid hE1
  obtain ⟨b0, b1, b2, -⟩ := tp_block hb1
  clear hE1 hs1 hb1
  go_wp2_with fail
  have HL1 := Lib.hid (rows_lit1 (HXI.out.ext HE1.out) 39)
  have HE2 := Lib.hid (HE1.out.trans (Ext.alloc W1 (.cells #[.slice ax x.length cx] 39)))
  refine (HBG.out _ HE2.out _ HL1.out).mono ?_
  rintro e w3 ⟨rfl, hE3⟩
  have HE3 := Lib.hid (HE2.out.trans hE3)
  clear hE3 HBG HB1 HE1 HE2 HL1 b0 b1 b2 hW1
  go_wp2_with fail
  go_ret2
  exact ⟨rfl, HE3.out⟩
end Go.Proofs.YtehknemdfbkimaaGreatDoor
/- Contracts of slices.Equal at []api.Int, of temperament.Identified at a right temperament. Printed by gen/tidn.py. -/
namespace Go.Proofs.YtehknemdfbkimaaGreatDoor
set_option linter.unusedVariables false
set_option linter.unusedSimpArgs false
open Go.RowKit

abbrev BigL (w : World) (v : Value) (xs : List Int) : Prop := ListAt 1 (inCell bigR) w v xs
theorem BigL.ext {w w' : World} {v : Value} {xs : List Int} (h : BigL w v xs) (he : Ext w w') : BigL w' v xs := ListAt.ext (fun _ _ _ _ _ h => h) h he
end Go.Proofs.YtehknemdfbkimaaGreatDoor
/- temperament.Identified where an interval is wrong. -/
namespace Go.Proofs.YtehknemdfbkimaaGreatDoor
set_option linter.unusedVariables false
set_option linter.unusedSimpArgs false
open Go.RowKit

set_option maxRecDepth 100000 in
set_option maxHeartbeats 4000000 in
theorem identified_bad (n F : Nat) (P : List Int) (C M : List (List Int)) (x y : List Int) (v vx vy : Value) (w : World) (hV : TempV w v P C M) (hx : Ints w vx x) (hy : Ints w vy y) (hR : RightT n F P C M) (hE : allE n [x, y] ≠ 0) (hlib : LibT w) (hp : 0 < w.heap.size) :
    Calls Tryz.prog 43 #[v, vx, vy] w fun e w' => e = .returned (.tuple #[.bool false, .int .i64 (allE n [x, y])]) ∧ Ext w w' := by
  have HBG := Lib.hid (fun W (hW : Ext w W) vl (hl : Rows2 W vl [x, y]) => begin_any n F P C M v vl [x, y] W (hV.ext hW) hl hR (hlib.ext hW) (Nat.lt_of_lt_of_le hp hW.size))
  obtain ⟨E, hEE⟩ : ∃ E, allE n [x, y] = E := ⟨_, rfl⟩
  rw [hEE] at HBG hE ⊢
  have HXI := Lib.hid hx; have HYI := Lib.hid hy
  have hxo := hx; have hyo := hy
  obtain ⟨vp, vc, vm, rfl, hvp, hvc, hvm⟩ := hV
  obtain ⟨ap, cp, rfl, -⟩ := hvp.open
  obtain ⟨ac, cc, rfl, -⟩ := inCell.open hvc
  obtain ⟨am, cm, rfl, -⟩ := inCell.open hvm
  obtain ⟨ax, cx, rfl, -⟩ := hxo.open
  obtain ⟨ay, cy, rfl, -⟩ := hyo.open
  have hz : (E != 0) = true := by simp [hE]
  clear hvp hvc hvm hR hlib hp hx hy hxo hyo hE hEE
  go_enter Tryz.func43, Tryz.ntmps43
  obtain ⟨W1, hW1, hE1, hs1, hb1⟩ := tp_new w (.slice ap P.length cp) (.slice ac C.length cc) (.slice am M.length cm)
  have HB1 := Lib.hid hb1; have HE1 := Lib.hid hE1
  obtain ⟨b0, b1, b2, -⟩ := tp_block hb1
  clear hE1 hs1 hb1
  go_wp2_with fail
  have HL1 := Lib.hid (rows_lit2 (HXI.out.ext HE1.out) (HYI.out.ext HE1.out) 39)
  have HE2 := Lib.hid (HE1.out.trans (Ext.alloc W1 (.cells #[.slice ax x.length cx, .slice ay y.length cy] 39)))
  refine (HBG.out _ HE2.out _ HL1.out).mono ?_
  rintro e w3 ⟨rfl, hE3⟩
  have HE3 := Lib.hid (HE2.out.trans hE3)
  clear hE3 HBG HB1 HE1 HE2 HL1 b0 b1 b2 hW1
  go_wp2_with fail
  go_ret2
  exact ⟨rfl, HE3.out⟩
end Go.Proofs.YtehknemdfbkimaaGreatDoor
/- Chapter 18's functions where Check fails; few; Equal. Printed by gen/tchk2.py. -/
namespace Go.Proofs.YtehknemdfbkimaaGreatDoor
set_option linter.unusedVariables false
set_option linter.unusedSimpArgs false
open Go.RowKit


set_option maxRecDepth 100000 in
set_option maxHeartbeats 4000000 in
theorem trank_err (P : List Int) (C M : List (List Int)) (v : Value) (w : World) (hV : TempV w v P C M)  (E : Int) (hE : E ≠ 0) (HCK : Hid (∀ W, Ext w W → Calls Tryz.prog 59 #[v] W fun e w' => e = .returned (.int .i64 E) ∧ Ext W w')) :
    Calls Tryz.prog 55 #[v] w fun e w' => e = .returned (.tuple #[.int .i64 0, .int .i64 E]) ∧ Ext w w' := by
  obtain ⟨vp, vc, vm, rfl, hvp, hvc, hvm⟩ := hV
  obtain ⟨ap, cp, rfl, -⟩ := hvp.open
  obtain ⟨ac, cc, rfl, -⟩ := inCell.open hvc
  obtain ⟨am, cm, rfl, -⟩ := inCell.open hvm
  have hz : (E != 0) = true := by simp [hE]
  clear hvp hvc hvm hE
  go_enter Tryz.func55, Tryz.ntmps55
  obtain ⟨W1, hW1, hE1, hs1, hb1⟩ := tp_new w (.slice ap P.length cp) (.slice ac C.length cc) (.slice am M.length cm)
  have HB1 := Lib.hid hb1; have HE1 := Lib.hid hE1
  obtain ⟨b0, b1, b2, -⟩ := tp_block hb1
  clear hE1 hs1 hb1
  go_wp2_with fail
  refine (HCK.out _ HE1.out).mono ?_
  rintro e w2 ⟨rfl, hE2⟩
  have HE2 := Lib.hid (HE1.out.trans hE2)
  clear hE2 HCK HB1 HE1 b0 b1 b2
  go_wp2_with fail
  go_ret2
  exact ⟨rfl, HE2.out⟩

set_option maxRecDepth 100000 in
set_option maxHeartbeats 4000000 in
theorem tcorank_err (P : List Int) (C M : List (List Int)) (v : Value) (w : World) (hV : TempV w v P C M)  (E : Int) (hE : E ≠ 0) (HCK : Hid (∀ W, Ext w W → Calls Tryz.prog 59 #[v] W fun e w' => e = .returned (.int .i64 E) ∧ Ext W w')) :
    Calls Tryz.prog 56 #[v] w fun e w' => e = .returned (.tuple #[.int .i64 0, .int .i64 E]) ∧ Ext w w' := by
  obtain ⟨vp, vc, vm, rfl, hvp, hvc, hvm⟩ := hV
  obtain ⟨ap, cp, rfl, -⟩ := hvp.open
  obtain ⟨ac, cc, rfl, -⟩ := inCell.open hvc
  obtain ⟨am, cm, rfl, -⟩ := inCell.open hvm
  have hz : (E != 0) = true := by simp [hE]
  clear hvp hvc hvm hE
  go_enter Tryz.func56, Tryz.ntmps56
  obtain ⟨W1, hW1, hE1, hs1, hb1⟩ := tp_new w (.slice ap P.length cp) (.slice ac C.length cc) (.slice am M.length cm)
  have HB1 := Lib.hid hb1; have HE1 := Lib.hid hE1
  obtain ⟨b0, b1, b2, -⟩ := tp_block hb1
  clear hE1 hs1 hb1
  go_wp2_with fail
  refine (HCK.out _ HE1.out).mono ?_
  rintro e w2 ⟨rfl, hE2⟩
  have HE2 := Lib.hid (HE1.out.trans hE2)
  clear hE2 HCK HB1 HE1 b0 b1 b2
  go_wp2_with fail
  go_ret2
  exact ⟨rfl, HE2.out⟩

set_option maxRecDepth 100000 in
set_option maxHeartbeats 4000000 in
theorem ttext_err (P : List Int) (C M : List (List Int)) (v : Value) (w : World) (hV : TempV w v P C M)  (E : Int) (hE : E ≠ 0) (HCK : Hid (∀ W, Ext w W → Calls Tryz.prog 59 #[v] W fun e w' => e = .returned (.int .i64 E) ∧ Ext W w')) :
    Calls Tryz.prog 40 #[v] w fun e w' => e = .returned (.tuple #[.string ⟨#[]⟩, .int .i64 E]) ∧ Ext w w' := by
  obtain ⟨vp, vc, vm, rfl, hvp, hvc, hvm⟩ := hV
  obtain ⟨ap, cp, rfl, -⟩ := hvp.open
  obtain ⟨ac, cc, rfl, -⟩ := inCell.open hvc
  obtain ⟨am, cm, rfl, -⟩ := inCell.open hvm
  have hz : (E != 0) = true := by simp [hE]
  clear hvp hvc hvm hE
  go_enter Tryz.func40, Tryz.ntmps40
  obtain ⟨W1, hW1, hE1, hs1, hb1⟩ := tp_new w (.slice ap P.length cp) (.slice ac C.length cc) (.slice am M.length cm)
  have HB1 := Lib.hid hb1; have HE1 := Lib.hid hE1
  obtain ⟨b0, b1, b2, -⟩ := tp_block hb1
  clear hE1 hs1 hb1
  go_wp2_with fail
  refine (HCK.out _ HE1.out).mono ?_
  rintro e w2 ⟨rfl, hE2⟩
  have HE2 := Lib.hid (HE1.out.trans hE2)
  clear hE2 HCK HB1 HE1 b0 b1 b2
  go_wp2_with fail
  go_ret2
  exact ⟨rfl, HE2.out⟩

set_option maxRecDepth 100000 in
set_option maxHeartbeats 2000000 in
theorem begin_err (P : List Int) (C M : List (List Int)) (v : Value) (w : World) (hV : TempV w v P C M) (a : Option Addr) (k c : Nat) (E : Int) (hE : E ≠ 0) (HCK : Hid (∀ W, Ext w W → Calls Tryz.prog 59 #[v] W fun e w' => e = .returned (.int .i64 E) ∧ Ext W w')) :
    Calls Tryz.prog 105 #[v, .slice a k c] w fun e w' => e = .returned (.int .i64 E) ∧ Ext w w' := by
  obtain ⟨vp, vc, vm, rfl, hvp, hvc, hvm⟩ := hV
  obtain ⟨ap, cp, rfl, -⟩ := hvp.open
  obtain ⟨ac, cc, rfl, -⟩ := inCell.open hvc
  obtain ⟨am, cm, rfl, -⟩ := inCell.open hvm
  have hz : (E != 0) = true := by simp [hE]
  clear hvp hvc hvm hE
  go_enter Tryz.func105, Tryz.ntmps105
  obtain ⟨W1, hW1, hE1, hs1, hb1⟩ := tp_new w (.slice ap P.length cp) (.slice ac C.length cc) (.slice am M.length cm)
  have HB1 := Lib.hid hb1; have HE1 := Lib.hid hE1
  obtain ⟨b0, b1, b2, -⟩ := tp_block hb1
  clear hE1 hs1 hb1
  go_wp2_with fail
  refine (HCK.out _ HE1.out).mono ?_
  rintro e w2 ⟨rfl, hE2⟩
  have HE2 := Lib.hid (HE1.out.trans hE2)
  clear hE2 HCK HB1 HE1 b0 b1 b2
  go_wp2_with fail
  go_ret
  exact ⟨rfl, HE2.out⟩

set_option maxRecDepth 100000 in
set_option maxHeartbeats 4000000 in
theorem temper_err (P : List Int) (C M : List (List Int)) (v : Value) (w : World) (hV : TempV w v P C M)  (E : Int) (hE : E ≠ 0) (HCK : Hid (∀ W, Ext w W → Calls Tryz.prog 59 #[v] W fun e w' => e = .returned (.int .i64 E) ∧ Ext W w')) :
    Calls Tryz.prog 60 #[v, .slice none 0 0] w fun e w' => e = .returned (.tuple #[.slice none 0 0, .int .i64 E]) ∧ Ext w w' := by
  obtain ⟨vp, vc, vm, rfl, hvp, hvc, hvm⟩ := hV
  obtain ⟨ap, cp, rfl, -⟩ := hvp.open
  obtain ⟨ac, cc, rfl, -⟩ := inCell.open hvc
  obtain ⟨am, cm, rfl, -⟩ := inCell.open hvm
  have HBG : Hid (∀ W, Ext w W → ∀ a k c, Calls Tryz.prog 105 #[.agg #[.slice ap P.length cp, .slice ac C.length cc, .slice am M.length cm], .slice a k c] W fun e w' => e = .returned (.int .i64 E) ∧ Ext W w') := fun W hW a k c => begin_err P C M _ W ⟨_, _, _, rfl, hvp.ext hW, hvc.ext hW, hvm.ext hW⟩ a k c E hE (fun W' hW' => HCK.out W' (hW.trans hW'))
  have hz : (E != 0) = true := by simp [hE]
  clear hvp hvc hvm hE HCK
  go_enter Tryz.func60, Tryz.ntmps60
  obtain ⟨W1, hW1, hE1, hs1, hb1⟩ := tp_new w (.slice ap P.length cp) (.slice ac C.length cc) (.slice am M.length cm)
  have HB1 := Lib.hid hb1; have HE1 := Lib.hid hE1
  obtain ⟨b0, b1, b2, -⟩ := tp_block hb1
  clear hE1 hs1 hb1
  go_wp2_with fail
  have HE2 := Lib.hid (HE1.out.trans (Ext.alloc W1 (.cells #[.slice none 0 0] 39)))
  refine (HBG.out _ HE2.out _ _ _).mono ?_
  rintro e w3 ⟨rfl, hE3⟩
  have HE3 := Lib.hid (HE2.out.trans hE3)
  clear hE3 HBG HB1 HE1 HE2 b0 b1 b2 hW1
  go_wp2_with fail
  go_ret2
  exact ⟨rfl, HE3.out⟩

set_option maxRecDepth 100000 in
set_option maxHeartbeats 4000000 in
theorem tempersOut_err (P : List Int) (C M : List (List Int)) (v : Value) (w : World) (hV : TempV w v P C M)  (E : Int) (hE : E ≠ 0) (HCK : Hid (∀ W, Ext w W → Calls Tryz.prog 59 #[v] W fun e w' => e = .returned (.int .i64 E) ∧ Ext W w')) :
    Calls Tryz.prog 50 #[v, .slice none 0 0] w fun e w' => e = .returned (.tuple #[.bool false, .int .i64 E]) ∧ Ext w w' := by
  obtain ⟨vp, vc, vm, rfl, hvp, hvc, hvm⟩ := hV
  obtain ⟨ap, cp, rfl, -⟩ := hvp.open
  obtain ⟨ac, cc, rfl, -⟩ := inCell.open hvc
  obtain ⟨am, cm, rfl, -⟩ := inCell.open hvm
  have HBG : Hid (∀ W, Ext w W → ∀ a k c, Calls Tryz.prog 105 #[.agg #[.slice ap P.length cp, .slice ac C.length cc, .slice am M.length cm], .slice a k c] W fun e w' => e = .returned (.int .i64 E) ∧ Ext W w') := fun W hW a k c => begin_err P C M _ W ⟨_, _, _, rfl, hvp.ext hW, hvc.ext hW, hvm.ext hW⟩ a k c E hE (fun W' hW' => HCK.out W' (hW.trans hW'))
  have hz : (E != 0) = true := by simp [hE]
  clear hvp hvc hvm hE HCK
  go_enter Tryz.func50, Tryz.ntmps50
  obtain ⟨W1, hW1, hE1, hs1, hb1⟩ := tp_new w (.slice ap P.length cp) (.slice ac C.length cc) (.slice am M.length cm)
  have HB1 := Lib.hid hb1; have HE1 := Lib.hid hE1
  obtain ⟨b0, b1, b2, -⟩ := tp_block hb1
  clear hE1 hs1 hb1
  go_wp2_with fail
  have HE2 := Lib.hid (HE1.out.trans (Ext.alloc W1 (.cells #[.slice none 0 0] 39)))
  refine (HBG.out _ HE2.out _ _ _).mono ?_
  rintro e w3 ⟨rfl, hE3⟩
  have HE3 := Lib.hid (HE2.out.trans hE3)
  clear hE3 HBG HB1 HE1 HE2 b0 b1 b2 hW1
  go_wp2_with fail
  go_ret2
  exact ⟨rfl, HE3.out⟩

set_option maxRecDepth 100000 in
set_option maxHeartbeats 4000000 in
theorem trepr_err (P : List Int) (C M : List (List Int)) (v : Value) (w : World) (hV : TempV w v P C M)  (E : Int) (hE : E ≠ 0) (HCK : Hid (∀ W, Ext w W → Calls Tryz.prog 59 #[v] W fun e w' => e = .returned (.int .i64 E) ∧ Ext W w')) :
    Calls Tryz.prog 61 #[v, .slice none 0 0] w fun e w' => e = .returned (.tuple #[.slice none 0 0, .int .i64 E]) ∧ Ext w w' := by
  obtain ⟨vp, vc, vm, rfl, hvp, hvc, hvm⟩ := hV
  obtain ⟨ap, cp, rfl, -⟩ := hvp.open
  obtain ⟨ac, cc, rfl, -⟩ := inCell.open hvc
  obtain ⟨am, cm, rfl, -⟩ := inCell.open hvm
  have HBG : Hid (∀ W, Ext w W → ∀ a k c, Calls Tryz.prog 105 #[.agg #[.slice ap P.length cp, .slice ac C.length cc, .slice am M.length cm], .slice a k c] W fun e w' => e = .returned (.int .i64 E) ∧ Ext W w') := fun W hW a k c => begin_err P C M _ W ⟨_, _, _, rfl, hvp.ext hW, hvc.ext hW, hvm.ext hW⟩ a k c E hE (fun W' hW' => HCK.out W' (hW.trans hW'))
  have hz : (E != 0) = true := by simp [hE]
  clear hvp hvc hvm hE HCK
  go_enter Tryz.func61, Tryz.ntmps61
  obtain ⟨W1, hW1, hE1, hs1, hb1⟩ := tp_new w (.slice ap P.length cp) (.slice ac C.length cc) (.slice am M.length cm)
  have HB1 := Lib.hid hb1; have HE1 := Lib.hid hE1
  obtain ⟨b0, b1, b2, -⟩ := tp_block hb1
  clear hE1 hs1 hb1
  go_wp2_with fail
  have HE2 := Lib.hid (HE1.out.trans (Ext.alloc W1 (.cells #[.slice none 0 0] 39)))
  refine (HBG.out _ HE2.out _ _ _).mono ?_
  rintro e w3 ⟨rfl, hE3⟩
  have HE3 := Lib.hid (HE2.out.trans hE3)
  clear hE3 HBG HB1 HE1 HE2 b0 b1 b2 hW1
  go_wp2_with fail
  go_ret2
  exact ⟨rfl, HE3.out⟩

set_option maxRecDepth 100000 in
set_option maxHeartbeats 4000000 in
theorem identified_err (P : List Int) (C M : List (List Int)) (v : Value) (w : World) (hV : TempV w v P C M)  (E : Int) (hE : E ≠ 0) (HCK : Hid (∀ W, Ext w W → Calls Tryz.prog 59 #[v] W fun e w' => e = .returned (.int .i64 E) ∧ Ext W w')) :
    Calls Tryz.prog 43 #[v, .slice none 0 0, .slice none 0 0] w fun e w' => e = .returned (.tuple #[.bool false, .int .i64 E]) ∧ Ext w w' := by
  obtain ⟨vp, vc, vm, rfl, hvp, hvc, hvm⟩ := hV
  obtain ⟨ap, cp, rfl, -⟩ := hvp.open
  obtain ⟨ac, cc, rfl, -⟩ := inCell.open hvc
  obtain ⟨am, cm, rfl, -⟩ := inCell.open hvm
  have HBG : Hid (∀ W, Ext w W → ∀ a k c, Calls Tryz.prog 105 #[.agg #[.slice ap P.length cp, .slice ac C.length cc, .slice am M.length cm], .slice a k c] W fun e w' => e = .returned (.int .i64 E) ∧ Ext W w') := fun W hW a k c => begin_err P C M _ W ⟨_, _, _, rfl, hvp.ext hW, hvc.ext hW, hvm.ext hW⟩ a k c E hE (fun W' hW' => HCK.out W' (hW.trans hW'))
  have hz : (E != 0) = true := by simp [hE]
  clear hvp hvc hvm hE HCK
  go_enter Tryz.func43, Tryz.ntmps43
  obtain ⟨W1, hW1, hE1, hs1, hb1⟩ := tp_new w (.slice ap P.length cp) (.slice ac C.length cc) (.slice am M.length cm)
  have HB1 := Lib.hid hb1; have HE1 := Lib.hid hE1
  obtain ⟨b0, b1, b2, -⟩ := tp_block hb1
  clear hE1 hs1 hb1
  go_wp2_with fail
  have HE2 := Lib.hid (HE1.out.trans (Ext.alloc W1 (.cells #[.slice none 0 0, .slice none 0 0] 39)))
  refine (HBG.out _ HE2.out _ _ _).mono ?_
  rintro e w3 ⟨rfl, hE3⟩
  have HE3 := Lib.hid (HE2.out.trans hE3)
  clear hE3 HBG HB1 HE1 HE2 b0 b1 b2 hW1
  go_wp2_with fail
  go_ret2
  exact ⟨rfl, HE3.out⟩

def fewB (m : List (List Int)) : Bool := (m.all fun r => decide (r.length ≤ 7)) && decide (m.length ≤ 5)
set_option maxRecDepth 100000 in
set_option maxHeartbeats 2000000 in
theorem few18_any (m : List (List Int)) (v : Value) (w : World) (h : Rows2 w v m) :
    Calls Tryz.prog 65 #[v] w fun e w' => e = .returned (.bool (fewB m)) ∧ Ext w w' := by
  obtain ⟨a, c, rfl, h1, h2, -, hc⟩ := inCell.open h
  have HC := Lib.hid hc
  unfold maxLen at h2
  have HF : Hid (fewB m = ((m.all fun r => decide (r.length ≤ 7)) && decide (m.length ≤ 5))) := rfl
  clear h hc
  go_enter Tryz.func65, Tryz.ntmps65
  go_wp2_with fail
  go_loopw [3] (fun t wr => ∃ i : Nat, i ≤ m.length ∧ t = .int .i64 i ∧ Hid (Ext w wr) ∧ Hid (((m.take i).all fun r => decide (r.length ≤ 7)) = true)) (fun t _ => m.length - (intOf t).toNat)
  case atStart => exact ⟨0, by omega, rfl, Ext.refl _, rfl⟩
  case round =>
    obtain ⟨i, hi, rfl, HE, HA⟩ := hrel
    obtain ⟨wo, rfl⟩ : ∃ wo : World, wo = wr := ⟨_, rfl⟩
    by_cases hlt : i < m.length
    · obtain ⟨b, off, rfl, hb, hcell⟩ := HC.out (by intro e; simp [e] at hlt)
      obtain ⟨r, hr⟩ : ∃ x, m[i]? = some x := ⟨m[i], List.getElem?_eq_getElem hlt⟩
      obtain ⟨vr, hvr, hcr⟩ := hcell i r hr
      obtain ⟨ar, cr, rfl, -⟩ := hvr.open
      have g1 := HE.out.cell hcr
      have HR := Lib.hid hr
      clear hcell hcr hr hvr
      by_cases h7 : r.length ≤ 7
      · have h7i : ¬ (7 : Int) < (r.length : Int) := by omega
        have HN : Hid (((m.take (i + 1)).all fun r => decide (r.length ≤ 7)) = true) := by
          unfold Hid
          rw [List.take_add_one, HR.out, List.all_append, HA.out]
          simp [h7]
        clear h7
        go_wp2_with fail
        go_roundw
        case rel => exact ⟨i + 1, by omega, by go_num, HE.out, HN.out⟩
        case measure => simp [intOf]; omega
      · have h7i : (7 : Int) < (r.length : Int) := by omega
        have HN : Hid (fewB m = false) := by
          unfold Hid
          rw [HF.out, Bool.and_eq_false_iff]
          refine .inl ?_
          rw [List.all_eq_false]
          exact ⟨r, List.mem_of_getElem? HR.out, by simpa using h7⟩
        clear h7 HF
        go_wp2_with fail
        go_ret
        exact ⟨by rw [HN.out]; rfl, HE.out⟩
    · obtain rfl : i = m.length := by omega
      have hA := HA.out
      rw [List.take_length] at hA
      have HV : Hid (fewB m = decide (m.length ≤ 5)) := by unfold Hid; rw [HF.out, hA]; rfl
      clear hA HA HF
      by_cases h5 : m.length ≤ 5
      · have h5i : (m.length : Int) ≤ 5 := by omega
        have HN : Hid (fewB m = true) := by unfold Hid; rw [HV.out]; exact decide_eq_true h5
        clear h5 HV
        go_wp2_with fail
        go_ret
        exact ⟨by rw [HN.out]; rfl, HE.out⟩
      · have h5i : ¬ (m.length : Int) ≤ 5 := by omega
        have HN : Hid (fewB m = false) := by unfold Hid; rw [HV.out]; exact decide_eq_false h5
        clear h5 HV
        go_wp2_with fail
        go_ret
        exact ⟨by rw [HN.out]; rfl, HE.out⟩

set_option maxRecDepth 100000 in
set_option maxHeartbeats 8000000 in
theorem tequal_any (P P' : List Int) (C C' M M' : List (List Int)) (v u : Value) (w : World) (h : TempV w v P C M) (k : TempV w u P' C' M') :
    Calls Tryz.prog 67 #[v, u] w fun e w' => e = .returned (.bool (P == P' && (C == C' && M == M'))) ∧ Ext w w' := by
  obtain ⟨p, c, m, rfl, hp, hc, hm⟩ := h
  obtain ⟨q, d, r, rfl, hq, hd, hr⟩ := k
  have H1 := Lib.hid (fun W (hW : Ext w W) => equalPrimes_any P P' p q W (hp.ext hW) (hq.ext hW))
  have H2 := Lib.hid (fun W (hW : Ext w W) => tsame_any C C' c d W (hc.ext hW) (hd.ext hW))
  have H3 := Lib.hid (fun W (hW : Ext w W) => tsame_any M M' m r W (hm.ext hW) (hr.ext hW))
  obtain ⟨a1, c1, rfl, -⟩ := hp.open
  obtain ⟨a2, c2, rfl, -⟩ := inCell.open hc
  obtain ⟨a3, c3, rfl, -⟩ := inCell.open hm
  obtain ⟨a4, c4, rfl, -⟩ := hq.open
  obtain ⟨a5, c5, rfl, -⟩ := inCell.open hd
  obtain ⟨a6, c6, rfl, -⟩ := inCell.open hr
  obtain ⟨B1, hB1⟩ : ∃ B, (P == P') = B := ⟨_, rfl⟩
  obtain ⟨B2, hB2⟩ : ∃ B, (C == C') = B := ⟨_, rfl⟩
  obtain ⟨B3, hB3⟩ : ∃ B, (M == M') = B := ⟨_, rfl⟩
  rw [hB1] at H1 ⊢
  rw [hB2] at H2 ⊢
  rw [hB3] at H3 ⊢
  clear hp hc hm hq hd hr hB1 hB2 hB3
  go_enter Tryz.func67, Tryz.ntmps67
  obtain ⟨W1, hW1, hE1, hs1, hb1⟩ := tp_new w (.slice a1 P.length c1) (.slice a2 C.length c2) (.slice a3 M.length c3)
  obtain ⟨W2, hW2, hE2, hs2, hb2⟩ := tp_new W1 (.slice a4 P'.length c4) (.slice a5 C'.length c5) (.slice a6 M'.length c6)
  have HB1 := Lib.hid (block_ext hb1 hE2); have HB2 := Lib.hid hb2; have HE2 := Lib.hid (hE1.trans hE2)
  obtain ⟨x0, x1, x2, -⟩ := tp_block HB1.out
  obtain ⟨y0, y1, y2, -⟩ := tp_block HB2.out
  clear hE1 hs1 hb1 hE2 hs2 hb2
  go_wp2_with fail
  refine (H1.out _ HE2.out).mono ?_
  rintro e w3 ⟨rfl, hE3⟩
  have HB13 := Lib.hid (block_ext HB1.out hE3); have HB23 := Lib.hid (block_ext HB2.out hE3); have HE3 := Lib.hid (HE2.out.trans hE3)
  clear hE3 H1 HB1 HB2 HE2 x0 x1 x2 y0 y1 y2 hW1 hW2
  obtain ⟨x0, x1, x2, -⟩ := tp_block HB13.out
  obtain ⟨y0, y1, y2, -⟩ := tp_block HB23.out
  cases B1
  · go_wp2_with fail
    go_ret
    exact ⟨rfl, HE3.out⟩
  · go_wp2_with fail
    refine (H2.out _ HE3.out).mono ?_
    rintro e w4 ⟨rfl, hE4⟩
    have HB14 := Lib.hid (block_ext HB13.out hE4); have HB24 := Lib.hid (block_ext HB23.out hE4); have HE4 := Lib.hid (HE3.out.trans hE4)
    clear hE4 H2 HB13 HB23 HE3 x0 x1 x2 y0 y1 y2
    obtain ⟨x0, x1, x2, -⟩ := tp_block HB14.out
    obtain ⟨y0, y1, y2, -⟩ := tp_block HB24.out
    cases B2
    · go_wp2_with fail
      go_ret
      exact ⟨rfl, HE4.out⟩
    · go_wp2_with fail
      refine (H3.out _ HE4.out).mono ?_
      rintro e w5 ⟨rfl, hE5⟩
      have HE5 := Lib.hid (HE4.out.trans hE5)
      clear hE5 H3 HB14 HB24 HE4 x0 x1 x2 y0 y1 y2
      cases B3
      · go_wp2_with fail
        go_ret
        exact ⟨rfl, HE5.out⟩
      · go_wp2_with fail
        go_ret
        exact ⟨rfl, HE5.out⟩

end Go.Proofs.YtehknemdfbkimaaGreatDoor
