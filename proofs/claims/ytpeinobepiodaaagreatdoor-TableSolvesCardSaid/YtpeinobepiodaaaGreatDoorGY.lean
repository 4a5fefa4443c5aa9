/- Merged: RankT. -/
import Derived.Test.YtpeinobepiodaaaGreatDoorGK
import Derived.Test.YtpeinobepiodaaaGreatDoorGX
/- Contract of table.Rank. -/
namespace Go.Proofs.YtpeinobepiodaaaGreatDoor
set_option linter.unusedVariables false
set_option linter.unusedSimpArgs false
open Go.RowKit

/-- The reduction of a matrix that Check accepts has small numbers. -/
theorem tab_small {xss : List (List Int)} (hE : tabE xss = 0) (c : Nat) : AllRS 2500 (redTo (matQ xss) c).m ∧ RS 9000 (redTo (matQ xss) c).det := by
  obtain ⟨hl, hrr⟩ := tabE_zero hE
  exact red_small (C := colsN xss) (matQ_rect fun r hr => (hrr r hr).1) (by rw [matQ_len]; exact hl) (matQ_el fun r hr => (hrr r hr).2.2) c
def rankI (xss : List (List Int)) : Nat := rankQ (matQ xss) (colsN xss)
set_option maxRecDepth 100000 in
set_option maxHeartbeats 2000000 in
theorem rank_any (xss : List (List Int)) (v : Value) (w : World) (h : Rows2 w v xss) (hE : tabE xss = 0) (hne : ∀ r ∈ xss, 0 < r.length) (ht : Pow10 w) :
    Calls Tryz.prog 35 #[v] w fun e w' => e = .returned (.tuple #[.int .i64 (rankI xss : Int), .int .i64 0]) ∧ Ext w w' := by
  obtain ⟨hl, hrr⟩ := tabE_zero hE
  have HCH := Lib.hid (tabCheck_any xss v w h)
  rw [hE] at HCH
  have HCO : Hid (∀ W, Ext w W → Calls Tryz.prog 43 #[v] W fun e w' => e = .returned (.int .i64 (colsN xss : Int)) ∧ W = w') := fun W hW => columns_any xss v W (h.ext hW)
  have HRO : Hid (∀ W, Ext w W → Calls Tryz.prog 52 #[v, .func (.func 53) #[] #[]] W fun e w' => ∃ u tags, e = .returned u ∧ RowsO ratK 39 w' W.heap.size W.heap.size u tags (matQ xss) ∧ Ext W w') := fun W hW => by
    have hmo : ∀ (i : Nat) r, xss[i]? = some r → 0 < r.length + ([] : List Rat).length ∧ ([] : List Rat).length ≤ 1000 := fun i r hr => by
      have h1 := hne r (List.mem_of_getElem? hr)
      exact ⟨by simp; omega, by simp⟩
    have := rows_any xss v 53 #[] (fun _ => []) W (h.ext hW) (by omega) (fun r hr => by have := (hrr r hr).2.1; omega) hmo (enters_of Tryz.func53 (by kernel_rfl) rfl) (nothing_more _ _) (ht.ext hW)
    rw [rowsTo_matQ] at this
    exact this
  have hc12 : colsN xss ≤ 12 := by
    cases xss with
    | nil => show 0 ≤ 12; omega
    | cons r l => exact (hrr r (by simp)).2.1
  have HRE : Hid (∀ u tags W w1, RowsO ratK 39 w1 W.heap.size W.heap.size u tags (matQ xss) → Ext w W → Ext W w1 → Calls Tryz.prog 51 #[u, .int .i64 (colsN xss : Int)] w1 fun e w' => ∃ v, e = .returned (.tuple #[v, ratV (redTo (matQ xss) (colsN xss)).det]) ∧ RedOk W w1 w' u v tags (matQ xss) (colsN xss)) := fun u tags W w1 hO hW h1 => by
    refine reduceRows_any (matQ xss) (colsN xss) (colsN xss) u tags W w1 hO h1 (matQ_rect fun r hr => (hrr r hr).1) (Nat.le_refl _) (by omega) (by rw [matQ_len]; omega) (fun c _ => tab_small hE c) (ht.ext hW) (fun e => ?_)
    have := matQ_len xss
    rw [e] at this
    have hx : xss = [] := by simpa using this.symm
    rw [hx]; rfl
  have HRK : Hid (rankI xss = (redTo (matQ xss) (colsN xss)).lead.length) := rfl
  obtain ⟨rk, hrk⟩ : ∃ r, r = rankI xss := ⟨_, rfl⟩
  rw [← hrk] at HRK ⊢
  obtain ⟨n, hn⟩ : ∃ n, n = colsN xss := ⟨_, rfl⟩
  rw [← hn] at HCO HRE HRK
  clear h hE ht hrr hl hne hc12 hrk hn
  go_enter Tryz.func35, Tryz.ntmps35
  go_wp2_with fail
  refine HCH.out.mono ?_
  rintro e w1 ⟨rfl, hE1⟩
  have HE1 := Lib.hid hE1
  clear hE1
  go_wp2_with fail
  refine (HRO.out _ HE1.out).mono ?_
  rintro e w3 ⟨u, tags, rfl, hO, hE3⟩
  have HO := Lib.hid hO
  have HE3 := Lib.hid hE3
  clear hO hE3
  go_wp2_with fail
  refine (HCO.out _ (HE1.out.trans HE3.out)).mono ?_
  rintro e w2 ⟨rfl, rfl⟩
  go_wp2_with fail
  refine (HRE.out u tags _ w3 HO.out HE1.out HE3.out).mono ?_
  rintro e w4 ⟨vl, rfl, hR⟩
  have HX := Lib.hid (Ext.trans HE1.out hR.ext)
  obtain ⟨d, hd⟩ : ∃ d, d = (redTo (matQ xss) n).det := ⟨_, rfl⟩
  rw [← hd]
  obtain ⟨av, cv, hv, -, -⟩ := hR.lead.form
  rw [← HRK.out] at hv
  subst hv
  rw [show ratV d = .agg #[.string (intB d.num), .string (numB d.den)] from rfl]
  obtain ⟨W5, hW5, hE5, hs5, hb5⟩ := box2 w4 (.string ⟨#[]⟩) (.string ⟨#[]⟩) 81
  obtain ⟨r0, r1, rf⟩ := block2_cell hb5
  have f0 := rf 0
  have f1 := rf 1
  have HX5 : Hid (Ext w ((W5.setCell ⟨w4.heap.size, 0, none⟩ (.string (intB d.num))).setCell ⟨w4.heap.size, 1, none⟩ (.string (numB d.den)))) := ext_set2 (HX.out.trans hE5) HX.out.size
  clear hR hd rf hb5 hE5 hs5
  go_wp2_with fail
  go_ret2
  exact ⟨rfl, HX5.out⟩
theorem rank_bad (xss : List (List Int)) (v : Value) (w : World) (h : Rows2 w v xss) (hE : tabE xss ≠ 0) :
    Calls Tryz.prog 35 #[v] w fun e w' => e = .returned (.tuple #[.int .i64 0, .int .i64 (tabE xss)]) ∧ Ext w w' := by
  have HCH := Lib.hid (tabCheck_any xss v w h)
  obtain ⟨E, hEE⟩ : ∃ E, E = tabE xss := ⟨_, rfl⟩
  rw [← hEE] at HCH hE ⊢
  have q : (E != 0) = true := by simpa using hE
  clear h hE hEE
  go_enter Tryz.func35, Tryz.ntmps35
  go_wp2_with fail
  refine HCH.out.mono ?_
  rintro e w1 ⟨rfl, hE1⟩
  have HE1 := Lib.hid hE1
  clear hE1
  go_wp2_with fail
  go_ret2
  exact ⟨rfl, HE1.out⟩
end Go.Proofs.YtpeinobepiodaaaGreatDoor
