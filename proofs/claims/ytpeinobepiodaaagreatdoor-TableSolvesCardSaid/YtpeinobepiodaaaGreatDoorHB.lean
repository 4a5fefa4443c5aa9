/- Merged: Sol0, SolA. -/
import Derived.Test.YtpeinobepiodaaaGreatDoorGL
import Derived.Test.YtpeinobepiodaaaGreatDoorGK
import Derived.Laws.AppendOwnNone
import Derived.Test.YtpeinobepiodaaaGreatDoorGX
import Derived.Test.YtpeinobepiodaaaGreatDoorGU
/- The edges: rank of a matrix without columns; Solve of no equations. -/
namespace Go.Proofs.YtpeinobepiodaaaGreatDoor
set_option linter.unusedVariables false
set_option linter.unusedSimpArgs false
open Go.RowKit

set_option maxRecDepth 100000 in
set_option maxHeartbeats 4000000 in
theorem solve0_any (v ur : Value) (w : World) (h : Rows2 w v []) (hk : Ints w ur []) (ht : Pow10 w) :
    Calls Tryz.prog 28 #[v, ur] w fun e w' => ∃ x, e = .returned (.tuple #[x, .int .i64 1, .int .i64 0]) ∧ Rats w' x [] ∧ Ext w w' := by
  have HCH : Hid (∀ W, Ext w W → Calls Tryz.prog 41 #[v] W fun e w' => e = .returned (.int .i64 0) ∧ Ext W w') := fun W hW => tabCheck_any [] v W (h.ext hW)
  have HCO : Hid (∀ W, Ext w W → Calls Tryz.prog 43 #[v] W fun e w' => e = .returned (.int .i64 0) ∧ W = w') := fun W hW => columns_any [] v W (h.ext hW)
  have HANY : Hid (∀ W, Ext w W → Calls Tryz.prog 66 #[ur, .func (.func 67) #[] #[]] W fun e w' => e = .returned (.bool false) ∧ Ext W w') := fun W hW =>
    containsRow_any [] ur 67 #[] (fun x => !fitB x) W (hk.ext hW) (enters_of Tryz.func67 (by kernel_rfl) rfl) (fun W x _ _ => (great_any x W).mono fun _ _ ⟨he, hw⟩ => ⟨he, hw ▸ Ext.refl _⟩)
  have HRO : Hid (∀ W B, Ext w W → Calls Tryz.prog 52 #[v, .func (.func 68) #[] #[.pointer (some ⟨B, 0, none⟩)]] W fun e w' => ∃ u, e = .returned u ∧ (∃ a c, u = .slice a 0 c) ∧ Ext W w') := fun W B hW => by
    have := rows_any [] v 68 #[.pointer (some ⟨B, 0, none⟩)] (fun i => []) W (h.ext hW) (by simp) (fun r hr => by simp at hr) (fun i r hr => by simp at hr) (enters_of Tryz.func68 (by kernel_rfl) rfl) (fun i X hi hX => by simp at hi) (ht.ext hW)
    refine this.mono fun e w' ⟨u, tags, g1, g2, g3⟩ => ⟨u, g1, ?_, g3⟩
    rcases g2.own.2 with ⟨e, hn⟩ | ⟨g, cap, cur, e, -⟩
    · exact ⟨none, 0, e⟩
    · exact ⟨_, cap, e⟩
  obtain ⟨a, c, rfl, h1, h2, -, -⟩ := inCell.open h
  obtain ⟨ar, cr, rfl, h3, h4, -, -, -⟩ := hk.open
  unfold maxLen at h2 h4
  obtain ⟨W1, hW1⟩ : ∃ W1, w.alloc (.cells #[.slice ar ([] : List Int).length cr] 51) = W1 := ⟨_, rfl⟩
  have hX1 : Ext w W1 := by rw [← hW1]; exact Ext.alloc _ _
  have c1 : W1.cell? ⟨w.heap.size, 0, none⟩ = some (.slice ar ([] : List Int).length cr) := by rw [← hW1, World.cell?_alloc_new]; rfl
  have HX1 := Lib.hid hX1
  simp only [List.length_nil] at hW1 c1 HCH HCO HANY HRO ⊢
  clear h hk ht hX1
  go_enter Tryz.func28, Tryz.ntmps28
  go_wp2_with fail
  refine (HCH.out _ HX1.out).mono ?_
  rintro e w2 ⟨rfl, hE2⟩
  have c2 := hE2.cell c1
  have HX2 := Lib.hid (Ext.trans HX1.out hE2)
  clear hE2 c1 hW1 HCH
  go_wp2_with fail
  refine (HANY.out _ HX2.out).mono ?_
  rintro e w3 ⟨rfl, hE3⟩
  have HX3 := Lib.hid (Ext.trans HX2.out hE3)
  clear hE3 c2 HANY
  go_wp2_with fail
  refine (HCO.out _ HX3.out).mono ?_
  rintro e w4 ⟨rfl, rfl⟩
  clear HCO
  go_wp2_with fail
  refine (HRO.out _ _ HX3.out).mono ?_
  rintro e w5 ⟨u, rfl, ⟨au, cu, rfl⟩, hE5⟩
  have HX5 := Lib.hid (Ext.trans HX3.out hE5)
  clear hE5 HRO
  go_wp2_with fail
  refine (reduce_zero _ _ ⟨_, _, _, rfl⟩).mono ?_
  rintro e w6 ⟨rfl, hE6⟩
  have HX6 := Lib.hid (Ext.trans HX5.out hE6)
  rw [ratV_one]
  obtain ⟨W7, hW7, hE7, hs7, hb7⟩ := box2 w6 (.string ⟨#[]⟩) (.string ⟨#[]⟩) 81
  obtain ⟨r0, r1, rf⟩ := block2_cell hb7
  have f0 := rf 0
  have f1 := rf 1
  have HX8 : Hid (Ext w6 ((W7.setCell ⟨w6.heap.size, 0, none⟩ (.string ⟨#[49]⟩)).setCell ⟨w6.heap.size, 1, none⟩ (.string ⟨#[49]⟩))) := ext_set2 hE7 (Nat.le_refl _)
  clear hE6 rf hb7 hE7 hs7
  go_upto_region 11 with (fail)
  obtain ⟨W9, hW9⟩ : ∃ W9, W9 = ((W7.setCell ⟨w6.heap.size, 0, none⟩ (.string ⟨#[49]⟩)).setCell ⟨w6.heap.size, 1, none⟩ (.string ⟨#[49]⟩)) := ⟨_, rfl⟩
  rw [← hW9] at HX8 ⊢
  have HXW := Lib.hid (Ext.trans HX6.out HX8.out)
  clear hW9 hW7 r0 r1 f0 f1
  go_wp2_with fail
  go_loopw [44] (fun t wr => t = .int .i64 0 ∧ Hid (Ext W9 wr)) (fun _ _ => 0)
  case atStart => exact ⟨rfl, by first | exact Ext.refl _ | exact Ext.drew _⟩
  case round =>
    obtain ⟨rfl, HE⟩ := hrel
    obtain ⟨wo, rfl⟩ : ∃ wo : World, wo = wr := ⟨_, rfl⟩
    have HZERO : Hid (∀ W, Calls Tryz.prog 56 #[] W fun e w' => e = .returned (.agg #[.string ⟨#[48]⟩, .string ⟨#[49]⟩]) ∧ Ext W w') := fun W => by
      have := tzero_any W
      rw [ratV_zero] at this; exact this
    go_wp2_with fail
    refine (HZERO.out _).mono ?_
    rintro e w7 ⟨rfl, hE7⟩
    obtain ⟨Wz, hWz⟩ : ∃ Wz, w7.alloc (.cells #[.string ⟨#[48]⟩, .string ⟨#[49]⟩] 81) = Wz := ⟨_, rfl⟩
    have hEz : Ext w7 Wz := by rw [← hWz]; exact Ext.alloc _ _
    have HRz : Hid (Rats Wz (.slice (some ⟨w7.heap.size, 0, none⟩) 1 1) [0]) := by
      rw [← hWz]
      have := Rats.one w7 0 81
      rw [show (0 : Rat).num = 0 from rfl, show (0 : Rat).den = 1 from rfl, intB_zero, numB_one] at this
      exact this
    have HXz := Lib.hid (Ext.trans HE.out (Ext.trans hE7 hEz))
    clear hE7 hEz HE HZERO
    go_wp2_with fail
    refine (repeat_any 0 0 (by omega) _ _ HRz.out).mono ?_
    rintro e w8 ⟨gx, rfl, hQ, hE8⟩
    have HX8' := Lib.hid (HXW.out.trans (Ext.trans HXz.out hE8))
    clear hQ hE8 hWz HRz HXz
    go_wp2_with fail
    go_loopw [61] (fun t wr => t = .int .i64 0 ∧ Hid (Ext w8 wr)) (fun _ _ => 0)
    case atStart => exact ⟨rfl, by first | exact Ext.refl _ | exact Ext.drew _⟩
    case round =>
      obtain ⟨rfl, HE2⟩ := hrel
      obtain ⟨wp, rfl⟩ : ∃ wp : World, wp = wr := ⟨_, rfl⟩
      go_wp2_with fail
      go_ret3
      exact ⟨_, rfl, ⟨[], rfl, by simp, ⟨_, 0, rfl, Nat.le_refl _, by unfold maxLen; omega, fun _ => rfl, fun h => absurd rfl h⟩, by simp⟩, HX8'.out.trans HE2.out⟩
end Go.Proofs.YtpeinobepiodaaaGreatDoor
/- Solve at any table (chapter 06). -/
namespace Go.Proofs.YtpeinobepiodaaaGreatDoor
set_option linter.unusedVariables false
set_option linter.unusedSimpArgs false
open Go.RowKit

theorem rowQ_elA {xss : List (List Int)} {i j : Nat} {r : List Int} (h : xss[i]? = some r) : elI xss i j = r.getD j 0 := by
  unfold elI; rw [List.getD_eq_getElem?_getD (l := xss), h]; rfl
theorem solM_len (xss : List (List Int)) (y : List Int) : (solM xss y).length = xss.length := rowsTo_len _ _ _
theorem solM_row {xss : List (List Int)} {y : List Int} {i : Nat} {r : List Int} (h : xss[i]? = some r) : rowQ (solM xss y) i = rowQI r ++ [((y.getD i 0 : Int) : Rat)] := by
  refine rowQ_get ?_
  unfold solM rowsTo
  have hi := (List.getElem?_eq_some_iff.1 h).1
  rw [List.getElem?_map, List.getElem?_range hi]
  show some (rowQI (xss.getD i []) ++ _) = _
  rw [List.getD_eq_getElem?_getD (l := xss), h]
  rfl
theorem solM_el {xss : List (List Int)} {y : List Int} {n i j : Nat} (hr : ∀ r ∈ xss, r.length = n) (hi : i < xss.length) : elQ (solM xss y) i j = if j < n then ((elI xss i j : Int) : Rat) else if j = n then ((y.getD i 0 : Int) : Rat) else 0 := by
  have h := List.getElem?_eq_getElem hi
  have hl := hr _ (List.getElem_mem hi)
  unfold elQ
  rw [solM_row h, List.getD_eq_getElem?_getD]
  by_cases h1 : j < n
  · rw [if_pos h1, List.getElem?_append_left (by rw [rowQI_len, hl]; exact h1)]
    unfold rowQI
    rw [List.getElem?_map, List.getElem?_eq_getElem (by omega : j < xss[i].length), rowQ_elA h, List.getD_eq_getElem?_getD, List.getElem?_eq_getElem (by omega : j < xss[i].length)]
    rfl
  · rw [if_neg h1, List.getElem?_append_right (by rw [rowQI_len, hl]; omega), rowQI_len, hl]
    by_cases h2 : j = n
    · subst h2; rw [if_pos rfl, Nat.sub_self]; rfl
    · rw [if_neg h2, List.getElem?_eq_none (by simp; omega)]; rfl
def solL (xss : List (List Int)) (y : List Int) : List Rat := if xss = [] then [] else solX (solR xss y) (colsN xss)
def solKI (xss : List (List Int)) (y : List Int) : Int := if xss = [] then 1 else solK (solR xss y) (colsN xss)
/-- What stands in the equations is small. -/
theorem sol_small {xss : List (List Int)} {y : List Int} {n : Nat} (hr : ∀ r ∈ xss, r.length = n ∧ Fit9 r) (hl : xss.length ≤ 12) (hy : Fit9 y) (c : Nat) :
    AllRS 2500 (redTo (solM xss y) c).m ∧ RS 9000 (redTo (solM xss y) c).det := by
  refine red_small (solM_rect fun r h => (hr r h).1) (by rw [solM_len]; exact hl) (fun i j => ?_) c
  by_cases hi : i < xss.length
  · rw [solM_el (fun r h => (hr r h).1) hi]
    have h0 : ∀ l : List Int, Fit9 l → ∀ j, (l.getD j 0).natAbs ≤ 1000000000 := by
      intro l hl j
      rw [List.getD_eq_getElem?_getD]
      cases h : l[j]? with
      | none => simp
      | some a => have := hl a (List.mem_of_getElem? h); simp only [Option.getD_some]; omega
    split
    · refine ⟨_, rfl, ?_⟩
      rw [rowQ_elA (List.getElem?_eq_getElem hi)]
      exact h0 _ (hr _ (List.getElem_mem hi)).2 j
    · split
      · exact ⟨_, rfl, h0 y hy i⟩
      · exact IntLe.zero _
  · rw [elQ_out (by rw [solM_len]; omega)]
    exact IntLe.zero _
theorem tab_fit {xss : List (List Int)} (hE : tabE xss = 0) : ∀ r ∈ xss, Fit9 r := fun r hr a ha => by
  have := (tabE_zero hE).2 r hr
  exact this.2.2 a ha
set_option maxRecDepth 100000 in
/-- Solve at any table. -/
theorem solveA_any (xss : List (List Int)) (right : List Int) (v ur : Value) (w : World) (h : Rows2 w v xss) (hk : Ints w ur right) (hE : tabE xss = 0) (hlr : right.length = xss.length) (hy : Fit9 right) (ht : Pow10 w) :
    Calls Tryz.prog 28 #[v, ur] w fun e w' => ∃ x, e = .returned (.tuple #[x, .int .i64 (solKI xss right), .int .i64 0]) ∧ Rats w' x (solL xss right) ∧ Ext w w' := by
  by_cases h0 : xss = []
  · subst h0
    obtain rfl : right = [] := List.length_eq_zero_iff.1 hlr
    have := solve0_any v ur w h hk ht
    simpa [solKI, solL] using this
  · have := solve_any xss right v ur w h hk hE (List.length_pos_iff.2 h0) hlr hy (fun c _ => sol_small (n := colsN xss) (fun r hr => ⟨((tabE_zero hE).2 r hr).1, tab_fit hE r hr⟩) (tabE_zero hE).1 hy c) ht
    unfold solKI solL
    rw [if_neg h0, if_neg h0]
    exact this
end Go.Proofs.YtpeinobepiodaaaGreatDoor
