/- Merged: RankT, RanksP. -/
import Derived.Test.YtpeinobepiodaaaGreatDoorGK
import Derived.Test.YtpeinobepiodaaaGreatDoorGX
import Derived.Test.YtpeinobepiodaaaGreatDoorGW
import Derived.Test.YtpeinobepiodaaaGreatDoorGM
/- Contract of table.Rank. -/
namespace Go.Proofs.YtpeinobepiodaaaGreatDoor
set_option linter.unusedVariables false
set_option linter.unusedSimpArgs false
open Go.RowKit

/-- The reduction of a matrix that Check accepts has small numbers. -/
theorem tab_small {xss : List (List Int)} (hE : tabE xss = 0) (c : Nat) : AllRS 2500 (redTo (matQ xss) c).m ∧ RS 9000 (redTo (matQ xss) c).det := by
  obtain ⟨hl, hrr⟩ := tabE_zero hE
  exact red_small (C := colsN xss) (matQ_rect fun r hr => (hrr r hr).1) (by rw [matQ_len]; exact hl) (matQ_el fun r hr => (hrr r hr).2.2) c
def rankI (xss : List (List Int)) : Nat := rankQ (matQ xss) (colsN xss)
set_option maxRecDepth 100000 in
set_option maxHeartbeats 2000000 in
theorem rank_any (xss : List (List Int)) (v : Value) (w : World) (h : Rows2 w v xss) (hE : tabE xss = 0) (hne : ∀ r ∈ xss, 0 < r.length) (ht : Pow10 w) :
    Calls Tryz.prog 35 #[v] w fun e w' => e = .returned (.tuple #[.int .i64 (rankI xss : Int), .int .i64 0]) ∧ Ext w w' := by
  obtain ⟨hl, hrr⟩ := tabE_zero hE
  have HCH := Lib.hid (tabCheck_any xss v w h)
  rw [hE] at HCH
  have HCO : Hid (∀ W, Ext w W → Calls Tryz.prog 43 #[v] W fun e w' => e = .returned (.int .i64 (colsN xss : Int)) ∧ W = w') := fun W hW => columns_any xss v W (h.ext hW)
  have HRO : Hid (∀ W, Ext w W → Calls Tryz.prog 52 #[v, .func (.func 53) #[] #[]] W fun e w' => ∃ u tags, e = .returned u ∧ RowsO ratK 39 w' W.heap.size W.heap.size u tags (matQ xss) ∧ Ext W w') := fun W hW => by
    have hmo : ∀ (i : Nat) r, xss[i]? = some r → 0 < r.length + ([] : List Rat).length ∧ ([] : List Rat).length ≤ 1000 := fun i r hr => by
      have h1 := hne r (List.mem_of_getElem? hr)
      exact ⟨by simp; omega, by simp⟩
    have := rows_any xss v 53 #[] (fun _ => []) W (h.ext hW) (by omega) (fun r hr => by have := (hrr r hr).2.1; omega) hmo (enters_of Tryz.func53 (by kernel_rfl) rfl) (nothing_more _ _) (ht.ext hW)
    rw [rowsTo_matQ] at this
    exact this
  have hc12 : colsN xss ≤ 12 := by
    cases xss with
    | nil => show 0 ≤ 12; omega
    | cons r l => exact (hrr r (by simp)).2.1
  have HRE : Hid (∀ u tags W w1, RowsO ratK 39 w1 W.heap.size W.heap.size u tags (matQ xss) → Ext w W → Ext W w1 → Calls Tryz.prog 51 #[u, .int .i64 (colsN xss : Int)] w1 fun e w' => ∃ v, e = .returned (.tuple #[v, ratV (redTo (matQ xss) (colsN xss)).det]) ∧ RedOk W w1 w' u v tags (matQ xss) (colsN xss)) := fun u tags W w1 hO hW h1 => by
    refine reduceRows_any (matQ xss) (colsN xss) (colsN xss) u tags W w1 hO h1 (matQ_rect fun r hr => (hrr r hr).1) (Nat.le_refl _) (by omega) (by rw [matQ_len]; omega) (fun c _ => tab_small hE c) (ht.ext hW) (fun e => ?_)
    have := matQ_len xss
    rw [e] at this
    have hx : xss = [] := by simpa using this.symm
    rw [hx]; rfl
  have HRK : Hid (rankI xss = (redTo (matQ xss) (colsN xss)).lead.length) := rfl
  obtain ⟨rk, hrk⟩ : ∃ r, r = rankI xss := ⟨_, rfl⟩
  rw [← hrk] at HRK ⊢
  obtain ⟨n, hn⟩ : ∃ n, n = colsN xss := ⟨_, rfl⟩
  rw [← hn] at HCO HRE HRK
  clear h hE ht hrr hl hne hc12 hrk hn
  go_enter Tryz.func35, Tryz.ntmps35
  go_wp2_with fail
  refine HCH.out.mono ?_
  rintro e w1 ⟨rfl, hE1⟩
  have HE1 := Lib.hid hE1
  clear hE1
  go_wp2_with fail
  refine (HRO.out _ HE1.out).mono ?_
  rintro e w3 ⟨u, tags, rfl, hO, hE3⟩
  have HO := Lib.hid hO
  have HE3 := Lib.hid hE3
  clear hO hE3
  go_wp2_with fail
  refine (HCO.out _ (HE1.out.trans HE3.out)).mono ?_
  rintro e w2 ⟨rfl, rfl⟩
  go_wp2_with fail
  refine (HRE.out u tags _ w3 HO.out HE1.out HE3.out).mono ?_
  rintro e w4 ⟨vl, rfl, hR⟩
  have HX := Lib.hid (Ext.trans HE1.out hR.ext)
  obtain ⟨d, hd⟩ : ∃ d, d = (redTo (matQ xss) n).det := ⟨_, rfl⟩
  rw [← hd]
  obtain ⟨av, cv, hv, -, -⟩ := hR.lead.form
  rw [← HRK.out] at hv
  subst hv
  rw [show ratV d = .agg #[.string (intB d.num), .string (numB d.den)] from rfl]
  obtain ⟨W5, hW5, hE5, hs5, hb5⟩ := box2 w4 (.string ⟨#[]⟩) (.string ⟨#[]⟩) 81
  obtain ⟨r0, r1, rf⟩ := block2_cell hb5
  have f0 := rf 0
  have f1 := rf 1
  have HX5 : Hid (Ext w ((W5.setCell ⟨w4.heap.size, 0, none⟩ (.string (intB d.num))).setCell ⟨w4.heap.size, 1, none⟩ (.string (numB d.den)))) := ext_set2 (HX.out.trans hE5) HX.out.size
  clear hR hd rf hb5 hE5 hs5
  go_wp2_with fail
  go_ret2
  exact ⟨rfl, HX5.out⟩
theorem rank_bad (xss : List (List Int)) (v : Value) (w : World) (h : Rows2 w v xss) (hE : tabE xss ≠ 0) :
    Calls Tryz.prog 35 #[v] w fun e w' => e = .returned (.tuple #[.int .i64 0, .int .i64 (tabE xss)]) ∧ Ext w w' := by
  have HCH := Lib.hid (tabCheck_any xss v w h)
  obtain ⟨E, hEE⟩ : ∃ E, E = tabE xss := ⟨_, rfl⟩
  rw [← hEE] at HCH hE ⊢
  have q : (E != 0) = true := by simpa using hE
  clear h hE hEE
  go_enter Tryz.func35, Tryz.ntmps35
  go_wp2_with fail
  refine HCH.out.mono ?_
  rintro e w1 ⟨rfl, hE1⟩
  have HE1 := Lib.hid hE1
  clear hE1
  go_wp2_with fail
  go_ret2
  exact ⟨rfl, HE1.out⟩
end Go.Proofs.YtpeinobepiodaaaGreatDoor
/- The rank of the transposed matrix, and of minors (plain). -/
namespace Go.Proofs.YtpeinobepiodaaaGreatDoor
set_option linter.unusedVariables false
set_option linter.unusedSimpArgs false
open Go.RowKit

theorem tabR_okF {n : Nat} : ∀ {l : List (List Int)}, (∀ r ∈ l, r.length = n ∧ n ≤ 12 ∧ Fit9 r) → tabR n l = 0
  | [], _ => rfl
  | r :: l, h => by
    obtain ⟨h1, h2, h3⟩ := h r (by simp)
    unfold tabR
    rw [if_neg (by omega), if_pos h1, if_neg (by
      rw [Bool.not_eq_true, List.any_eq_false]
      intro x hx
      have := (fitB_iff x).2 (h3 x hx)
      simp [this])]
    exact tabR_okF fun q hq => h q (by simp [hq])
/-- What Check accepts. -/
theorem tabE_of {xss : List (List Int)} {n : Nat} (hl : xss.length ≤ 12) (h : ∀ r ∈ xss, r.length = n ∧ n ≤ 12 ∧ Fit9 r) : tabE xss = 0 := by
  unfold tabE
  rw [if_neg (by omega)]
  cases xss with
  | nil => rfl
  | cons r l =>
    have e : ((r :: l).headD []).length = n := (h r (by simp)).1
    rw [e]
    exact tabR_okF h
theorem colsN_of {xss : List (List Int)} {n : Nat} (h : ∀ r ∈ xss, r.length = n) (hne : xss ≠ []) : colsN xss = n := by
  cases xss with
  | nil => exact absurd rfl hne
  | cons r l => exact h r (by simp)
theorem elI_trans {xss : List (List Int)} {i j : Nat} (hi : i < xss.length) (hj : j < colsN xss) : elI (transL xss) j i = elI xss i j := by
  unfold elI transL
  rw [List.getD_eq_getElem?_getD (l := List.map _ _), List.getElem?_map, List.getElem?_range hj]
  show (colL xss j).getD i 0 = _
  unfold colL
  rw [List.getD_eq_getElem?_getD, List.getElem?_map, List.getD_eq_getElem?_getD (l := xss), List.getElem?_eq_getElem hi]
  rfl
theorem trans_cols {xss : List (List Int)} (h : 0 < colsN xss) : colsN (transL xss) = xss.length := by
  have hne : transL xss ≠ [] := by
    intro e
    have := transL_len xss
    rw [e] at this
    simp at this; omega
  exact colsN_of (fun r hr => by obtain ⟨c, hc, rfl⟩ := transL_mem hr; exact colL_len _ _) hne
theorem trans_tab {xss : List (List Int)} (hE : tabE xss = 0) : tabE (transL xss) = 0 := by
  obtain ⟨hl, hrr⟩ := tabE_zero hE
  have hc12 : colsN xss ≤ 12 := by
    cases xss with
    | nil => show 0 ≤ 12; omega
    | cons r l => exact (hrr r (by simp)).2.1
  refine tabE_of (n := xss.length) (by rw [transL_len]; exact hc12) fun r hr => ?_
  obtain ⟨c, hc, rfl⟩ := transL_mem hr
  exact ⟨colL_len _ _, hl, colL_bd fun q hq => (hrr q hq).2.2⟩
theorem mat_rect {xss : List (List Int)} (hE : tabE xss = 0) : Rect (colsN xss) (matQ xss) := matQ_rect fun r hr => ((tabE_zero hE).2 r hr).1
theorem rank_nil : rankI [] = 0 := rfl
theorem rankI_cols {xss : List (List Int)} (h : colsN xss = 0) : rankI xss = 0 := by unfold rankI; rw [h]; rfl
/-- The rank of the transposed matrix. -/
theorem rank_trans {xss : List (List Int)} (hE : tabE xss = 0) (hpos : 0 < colsN xss) : rankI (transL xss) = rankI xss := by
  have hT := trans_tab hE
  have hl : (transL xss).length = colsN xss := transL_len xss
  have hc := trans_cols hpos
  have hel : ∀ i j, i < xss.length → j < colsN xss → elQ (matQ (transL xss)) j i = elQ (matQ xss) i j := fun i j hi hj => by rw [matQ_elI, matQ_elI, elI_trans hi hj]
  have key1 : rankI xss ≤ rankI (transL xss) := by
    false_or_by_contra
    rename_i hn
    obtain ⟨ρ, κ, h1, h2, h3⟩ := rank_minor (mat_rect hE) (k := rankI xss) (Nat.le_refl _)
    rw [matQ_len] at h1
    have h4 := rank_zero (mat_rect hT) (k := rankI xss) (by show rankI (transL xss) < _; omega) (ρ := κ) (κ := ρ) (fun a ha => by rw [matQ_len, hl]; exact h2 a ha) (fun b hb => by rw [hc]; exact h1 b hb)
    apply h3
    rw [← detF_tr, ← h4]
    exact detF_congr fun a b ha hb => (hel _ _ (h1 b hb) (h2 a ha)).symm
  have key2 : rankI (transL xss) ≤ rankI xss := by
    false_or_by_contra
    rename_i hn
    obtain ⟨ρ, κ, h1, h2, h3⟩ := rank_minor (mat_rect hT) (k := rankI (transL xss)) (Nat.le_refl _)
    rw [matQ_len, hl] at h1
    rw [hc] at h2
    have h4 := rank_zero (mat_rect hE) (k := rankI (transL xss)) (by show rankI xss < _; omega) (ρ := κ) (κ := ρ) (fun a ha => by rw [matQ_len]; exact h2 a ha) (fun b hb => h1 b hb)
    apply h3
    rw [← detF_tr, ← h4]
    exact detF_congr fun a b ha hb => hel _ _ (h2 a ha) (h1 b hb)
  omega
/-- A minor as a determinant. -/
theorem minor_det {xss : List (List Int)} {k : Nat} {R S : List Nat} (hR : R.length = k) (hS : S.length = k) :
    (redTo (matQ (partI xss R S)) k).det = detF k (fun a b => elQ (matQ xss) (R.getD a 0) (S.getD b 0)) := by
  have h := red_det (m := matQ (partI xss R S)) (n := k) (by rw [← hS]; exact partI_rect xss R S) (by rw [matQ_len, partI_len]; exact hR)
  rw [h]
  refine detF_congr fun a b ha hb => ?_
  rw [part_el (List.getElem?_eq_getElem (by omega : a < R.length)) (List.getElem?_eq_getElem (by omega : b < S.length)), matQ_elI]
  have e1 : R.getD a 0 = R[a] := by rw [List.getD_eq_getElem?_getD, List.getElem?_eq_getElem (by omega : a < R.length)]; rfl
  have e2 : S.getD b 0 = S[b] := by rw [List.getD_eq_getElem?_getD, List.getElem?_eq_getElem (by omega : b < S.length)]; rfl
  rw [e1, e2]; rfl
theorem minors_any_rank {xss : List (List Int)} (hE : tabE xss = 0) {k : Nat} (hk1 : k ≤ xss.length) (hk2 : k ≤ colsN xss) : (minorsS xss k).any (fun z => decide (z ≠ 0)) = decide (k ≤ rankI xss) := by
  obtain ⟨hl, hrr⟩ := tabE_zero hE
  have hc12 : colsN xss ≤ 12 := by
    cases xss with
    | nil => show 0 ≤ 12; omega
    | cons r l => exact (hrr r (by simp)).2.1
  obtain ⟨s1, -, -⟩ := sets_ok (n := xss.length) hl hk1
  obtain ⟨s2, -, -⟩ := sets_ok (n := colsN xss) hc12 hk2
  by_cases h : k ≤ rankI xss
  · rw [decide_eq_true h, List.any_eq_true]
    obtain ⟨R, hR, S, hS, h1, h2, h3⟩ := rank_sorted (mat_rect hE) h
    rw [matQ_len] at hR
    refine ⟨minorOf xss k R S, ?_, decide_eq_true ?_⟩
    · unfold minorsS
      rw [List.mem_flatMap]
      exact ⟨R, hR, List.mem_map.2 ⟨S, hS, rfl⟩⟩
    · unfold minorOf
      intro e
      rw [Rat.num_eq_zero, minor_det h1 h2] at e
      exact h3 e
  · rw [decide_eq_false h, List.any_eq_false]
    intro z hz
    unfold minorsS at hz
    rw [List.mem_flatMap] at hz
    obtain ⟨R, hR, hz⟩ := hz
    obtain ⟨S, hS, rfl⟩ := List.mem_map.1 hz
    have h1 := s1.len R hR
    have h2 := s2.len S hS
    have hg : ∀ (L : List Nat) a, a < L.length → L.getD a 0 ∈ L := fun L a ha => by
      rw [List.getD_eq_getElem?_getD, List.getElem?_eq_getElem ha]; exact List.getElem_mem ha
    have h0 : minorOf xss k R S = 0 := by
      unfold minorOf
      rw [Rat.num_eq_zero, minor_det h1 h2]
      exact rank_zero (mat_rect hE) (by show rankI xss < k; omega) (ρ := fun a => R.getD a 0) (κ := fun b => S.getD b 0) (fun a ha => by rw [matQ_len]; exact s1.lt R hR _ (hg R a (by omega))) (fun b hb => s2.lt S hS _ (hg S b (by omega)))
    simp [h0]
theorem part_fit {xss : List (List Int)} (hE : tabE xss = 0) (R S : List Nat) : ∀ r ∈ partI xss R S, ∀ a ∈ r, -1000000000 ≤ a ∧ a ≤ 1000000000 := by
  intro r hr a ha
  unfold partI at hr
  obtain ⟨i, -, rfl⟩ := List.mem_map.1 hr
  obtain ⟨j, -, rfl⟩ := List.mem_map.1 ha
  have h := matQ_el (xss := xss) (fun r hr => ((tabE_zero hE).2 r hr).2.2) i j
  obtain ⟨z, h1, h2⟩ := h
  rw [matQ_elI] at h1
  have h3 : elI xss i j = z := congrArg Rat.num h1
  have h4 : (xss.getD i []).getD j 0 = z := h3
  rw [h4]; omega
/-- The minors' reductions are small. -/
theorem minors_small {xss : List (List Int)} (hE : tabE xss = 0) {k : Nat} (hk1 : k ≤ xss.length) (hk2 : k ≤ colsN xss) :
    ∀ R ∈ setsL xss.length k, ∀ S ∈ setsL (colsN xss) k, ∀ c, c < k → AllRS 2500 (redTo (matQ (partI xss R S)) c).m ∧ RS 9000 (redTo (matQ (partI xss R S)) c).det := by
  intro R hR S hS c _
  obtain ⟨hl, hrr⟩ := tabE_zero hE
  obtain ⟨s1, -, -⟩ := sets_ok (n := xss.length) hl hk1
  exact red_small (partI_rect xss R S) (by rw [matQ_len, partI_len, s1.len R hR]; omega) (matQ_el (part_fit hE R S)) c
theorem choose_small : ∀ n, n < 5 → ∀ m, m < 5 → ∀ k, k < 5 → k ≤ n → k ≤ m → chooseS n k * chooseS m k ≤ 1000 := by decide +kernel
end Go.Proofs.YtpeinobepiodaaaGreatDoor
