/- Merged: LatRep. -/
import Derived.Test.YtehknemdfbkimaaGreatDoorQBE
/- Contracts of package lattice: has, Contains, Represent. -/
namespace Go.Proofs.YtehknemdfbkimaaGreatDoor
set_option linter.unusedVariables false
set_option linter.unusedSimpArgs false
open Go.RowKit

/-- What Represent ends in. -/
def RepR (R : List Int) (w : World) (e : Ending) (w' : World) : Prop :=
  (if R.all fit9B = true then ∃ v, e = .returned (.tuple #[v, .int .i64 0]) ∧ Ints w' v R else e = .returned (.tuple #[.slice none 0 0, .int .i64 4])) ∧ Ext w w'
theorem rowLE_zero {n : Int} {xss : List (List Int)} {x : List Int} (h : rowLE n xss x = 0) : chkE n xss = 0 ∧ rowE x = 0 ∧ (x.length : Int) = n := by
  unfold rowLE at h
  by_cases h1 : chkE n xss = 0
  · rw [if_pos h1] at h
    by_cases h2 : rowE x = 0
    · rw [if_pos h2] at h
      by_cases h3 : (x.length : Int) = n
      · exact ⟨h1, h2, h3⟩
      · rw [if_neg h3] at h; cases h
    · rw [if_neg h2] at h; exact absurd h h2
  · rw [if_neg h1] at h; exact absurd h h1
theorem chkE_zero {n : Int} {xss : List (List Int)} (h : chkE n xss = 0) : latE n xss = 0 ∧ hermB xss = true := by
  unfold chkE at h
  by_cases h1 : latE n xss = 0
  · rw [if_pos h1] at h
    by_cases h2 : hermB xss = true
    · exact ⟨h1, h2⟩
    · rw [if_neg h2] at h; cases h
  · rw [if_neg h1] at h; exact absurd h h1

theorem reduceC_any (n : Int) (xss : List (List Int)) (x R M : List Int) (v vx : Value) (w : World) (h : LatV w v n xss) (hx : Ints w vx x) (hE : rowLE n xss x = 0) (hR : redO xss x xss.length = some (R, M)) (ht : Pow10 w) (hb : 0 < w.heap.size) :
    Calls Tryz.prog 84 #[v, vx] w fun e w' => ∃ gr cr vm, e = .returned (.tuple #[.slice (some ⟨gr, 0, none⟩) R.length cr, vm]) ∧ RowB w' gr 0 R ∧ (R.length ≤ cr ∧ cr ≤ maxLen) ∧ w'.ownsRow w.heap.size 73 1 vm M.length (bigV M) ∧ Ext w w' := by
  obtain ⟨h1, h2, h3⟩ := rowLE_zero hE
  obtain ⟨l1, l2, l3, l4⟩ := latE_rows (chkE_zero h1).1
  exact reduce_any n xss x R M v vx w h hx (by omega) (by omega) (fun y hy => by have := (l4 y hy).2; omega) hR ht hb

set_option maxRecDepth 100000 in
set_option maxHeartbeats 2000000 in
theorem repr_any (n : Int) (xss : List (List Int)) (x R M : List Int) (v vx : Value) (w : World) (h : LatV w v n xss) (hx : Ints w vx x) (hE : rowLE n xss x = 0) (hR : redO xss x xss.length = some (R, M)) (hsm : R.all smB = true) (hlib : LibT w) (hb : 0 < w.heap.size) :
    Calls Tryz.prog 27 #[v, vx] w (RepR R w) := by
  have hxl : x.length ≤ 1000 := by
    obtain ⟨h1, h2, h3⟩ := rowLE_zero hE
    have := (latE_rows (chkE_zero h1).1).2.1
    omega
  have hRl := (redO_len hR).1
  have HC := Lib.hid (fun W (hW : Ext w W) => checkRow_any n xss x v vx W (h.ext hW) (hx.ext hW))
  rw [hE] at HC
  have HRE := Lib.hid (fun W (hW : Ext w W) => reduceC_any n xss x R M v vx W (h.ext hW) (hx.ext hW) hE hR (hlib.pow.ext hW) (Nat.lt_of_lt_of_le hb hW.size))
  have HS := Lib.hid (fun W g c (hr : RowB W g 0 R) (hc : R.length ≤ c) (hc2 : c ≤ maxLen) (hW : Ext w W) => short_any R g 0 c W hr hc hc2 (by omega) hsm (hlib.ext hW))
  obtain ⟨u, rfl, hu⟩ := h
  obtain ⟨a, c, rfl, h1, h2, -, hc⟩ := inCell.open hu
  obtain ⟨ax, cx, rfl, x1, x2, -, -, -⟩ := hx.open
  clear hu hc hx hE hR hsm hlib hb hxl hRl
  go_enter Tryz.func27, Tryz.ntmps27
  obtain ⟨W1, hW1, hE1, hs1, hb1⟩ := lat_new w (.int .i64 n) (.slice a xss.length c)
  have HB1 := Lib.hid hb1; have HE1 := Lib.hid hE1
  obtain ⟨e10, e11, -⟩ := lat_block hb1
  clear hE1 hs1 hb1
  go_wp2_with fail
  refine (HC.out _ HE1.out).mono ?_
  rintro e w2 ⟨rfl, hE2⟩
  have HE2 := Lib.hid (HE1.out.trans hE2)
  have d0 := hE2.cell e10; have d1 := hE2.cell e11
  clear hE2 HC
  go_wp2_with fail
  refine (HRE.out _ HE2.out).mono ?_
  rintro e w3 ⟨gr, cr, vm, rfl, hr3, hc3, ho3, hE3⟩
  have HE3 := Lib.hid (HE2.out.trans hE3)
  have HS3 := Lib.hid (HS.out w3 gr cr hr3 hc3.1 hc3.2 HE3.out)
  obtain ⟨av, nv, cv, rfl⟩ : ∃ a n c, vm = .slice a n c := by
    rcases ho3.2 with ⟨hv, _⟩ | ⟨g, c, _, hv, _⟩
    · exact ⟨_, _, _, hv⟩
    · exact ⟨_, _, _, hv⟩
  clear hE3 HRE hr3 hc3 ho3 HS
  go_wp2_with fail
  refine HS3.out.mono ?_
  rintro e w4 hsr
  unfold ShortR at hsr
  by_cases hf : R.all fit9B = true
  · rw [if_pos hf] at hsr
    obtain ⟨aa, cc, rfl, hI, -, hE4⟩ := hsr
    have HI := Lib.hid hI; have HE4 := Lib.hid (HE3.out.trans hE4); have HF := Lib.hid hf
    clear hI hE4 hf HS3
    go_wp2_with fail
    go_ret2
    unfold RepR
    rw [if_pos HF.out]
    exact ⟨⟨_, rfl, HI.out⟩, HE4.out⟩
  · rw [if_neg hf] at hsr
    obtain ⟨rfl, hE4⟩ := hsr
    have HE4 := Lib.hid (HE3.out.trans hE4); have HF := Lib.hid hf
    clear hE4 hf HS3
    go_wp2_with fail
    go_ret2
    unfold RepR
    rw [if_neg HF.out]
    exact ⟨rfl, HE4.out⟩

set_option maxRecDepth 100000 in
set_option maxHeartbeats 2000000 in
theorem has_any (n : Int) (xss : List (List Int)) (x R M : List Int) (v vx : Value) (w : World) (h : LatV w v n xss) (hx : Ints w vx x) (hE : rowLE n xss x = 0) (hR : redO xss x xss.length = some (R, M)) (ht : Pow10 w) (hb : 0 < w.heap.size) :
    Calls Tryz.prog 83 #[v, vx] w fun e w' => e = .returned (.bool (decide (leadL R < 0))) ∧ Ext w w' := by
  have HRE := Lib.hid (fun W (hW : Ext w W) => reduceC_any n xss x R M v vx W (h.ext hW) (hx.ext hW) hE hR (ht.ext hW) (Nat.lt_of_lt_of_le hb hW.size))
  obtain ⟨u, rfl, hu⟩ := h
  obtain ⟨a, c, rfl, h1, h2, -, hc⟩ := inCell.open hu
  obtain ⟨ax, cx, rfl, x1, x2, -, -, -⟩ := hx.open
  clear hu hc hx hE hR ht hb
  go_enter Tryz.func83, Tryz.ntmps83
  obtain ⟨W1, hW1, hE1, hs1, hb1⟩ := lat_new w (.int .i64 n) (.slice a xss.length c)
  have HB1 := Lib.hid hb1; have HE1 := Lib.hid hE1
  obtain ⟨e10, e11, -⟩ := lat_block hb1
  clear hE1 hs1 hb1
  go_wp2_with fail
  refine (HRE.out _ HE1.out).mono ?_
  rintro e w3 ⟨gr, cr, vm, rfl, hr3, hc3, ho3, hE3⟩
  have HE3 := Lib.hid (HE1.out.trans hE3)
  have HLD := Lib.hid (lead_any R gr 0 cr w3 hr3 hc3.1 hc3.2)
  obtain ⟨av, nv, cv, rfl⟩ : ∃ a n c, vm = .slice a n c := by
    rcases ho3.2 with ⟨hv, _⟩ | ⟨g, c, _, hv, _⟩
    · exact ⟨_, _, _, hv⟩
    · exact ⟨_, _, _, hv⟩
  clear hE3 HRE hr3 hc3 ho3
  go_wp2_with fail
  refine HLD.out.mono ?_
  rintro e w4 ⟨rfl, hE4⟩
  have HE4 := Lib.hid (HE3.out.trans hE4)
  clear hE4 HLD
  go_wp2_with fail
  go_ret
  exact ⟨rfl, HE4.out⟩

set_option maxRecDepth 100000 in
set_option maxHeartbeats 2000000 in
theorem contains_any (n : Int) (xss : List (List Int)) (x R M : List Int) (v vx : Value) (w : World) (h : LatV w v n xss) (hx : Ints w vx x) (hE : rowLE n xss x = 0) (hR : redO xss x xss.length = some (R, M)) (ht : Pow10 w) (hb : 0 < w.heap.size) :
    Calls Tryz.prog 25 #[v, vx] w fun e w' => e = .returned (.tuple #[.bool (decide (leadL R < 0)), .int .i64 0]) ∧ Ext w w' := by
  have HC := Lib.hid (fun W (hW : Ext w W) => checkRow_any n xss x v vx W (h.ext hW) (hx.ext hW))
  rw [hE] at HC
  have HH := Lib.hid (fun W (hW : Ext w W) => has_any n xss x R M v vx W (h.ext hW) (hx.ext hW) hE hR (ht.ext hW) (Nat.lt_of_lt_of_le hb hW.size))
  obtain ⟨u, rfl, hu⟩ := h
  obtain ⟨a, c, rfl, h1, h2, -, hc⟩ := inCell.open hu
  obtain ⟨ax, cx, rfl, x1, x2, -, -, -⟩ := hx.open
  obtain ⟨bb, hbb⟩ : ∃ bb, decide (leadL R < 0) = bb := ⟨_, rfl⟩
  rw [hbb] at HH ⊢
  clear hu hc hx hE hR ht hb hbb
  go_enter Tryz.func25, Tryz.ntmps25
  obtain ⟨W1, hW1, hE1, hs1, hb1⟩ := lat_new w (.int .i64 n) (.slice a xss.length c)
  have HB1 := Lib.hid hb1; have HE1 := Lib.hid hE1
  obtain ⟨e10, e11, -⟩ := lat_block hb1
  clear hE1 hs1 hb1
  go_wp2_with fail
  refine (HC.out _ HE1.out).mono ?_
  rintro e w2 ⟨rfl, hE2⟩
  have HE2 := Lib.hid (HE1.out.trans hE2)
  have d0 := hE2.cell e10; have d1 := hE2.cell e11
  clear hE2 HC
  go_wp2_with fail
  refine (HH.out _ HE2.out).mono ?_
  rintro e w3 ⟨rfl, hE3⟩
  have HE3 := Lib.hid (HE2.out.trans hE3)
  clear hE3 HH
  go_wp2_with fail
  go_ret2
  exact ⟨rfl, HE3.out⟩
end Go.Proofs.YtehknemdfbkimaaGreatDoor
