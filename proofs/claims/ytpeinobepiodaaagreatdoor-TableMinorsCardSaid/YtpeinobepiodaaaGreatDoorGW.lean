/- Merged: TransT. -/
import Derived.Test.YtpeinobepiodaaaGreatDoorMaRefAp
import Derived.Test.YtpeinobepiodaaaGreatDoorGI
/- Contracts of Transpose of package table and of the reference (chapter 06). (Printed by gen/trans.py.) -/
namespace Go.Proofs.YtpeinobepiodaaaGreatDoor
set_option linter.unusedVariables false
set_option linter.unusedSimpArgs false
open Go.RowKit

/-- A row that the call built stays readable while another block grows. -/
theorem Build.safe_ints {w : World} {base : Nat} {v : Value} {xs : List Int} {o : Option Nat} (h : Build w base 3 1 v intR xs) (ho : ∀ k, o = some k → k < base) : Safe w o (fun w' => Ints w' v xs) := by
  intro w' hg
  have hne : v.ownBlock = none ∨ v.ownBlock ≠ o := by
    cases hv : v.ownBlock with
    | none => exact .inl rfl
    | some b =>
      refine .inr fun e => ?_
      have h1 := (h.lt b hv).1
      have h2 := ho b e.symm
      omega
  obtain ⟨us, h1, h2, h3, h4⟩ := h
  have h3' := Safe.owns h3 hne w' hg
  have : Build w' base 3 1 v intR xs := ⟨us, h1, h2, h3', fun j u x hu hx w'' _ => (h4 j u x hu hx).now⟩
  exact this.list
theorem Build.oneCell {w : World} {base : Nat} {v : Value} {xs : List Int} (h : Build w base 3 1 v intR xs) : ∀ z ∈ (#[v] : Array Value).toList, z.oneCell' = true := by
  intro z hz
  obtain ⟨a, c, rfl, -⟩ := (Ints.open h.list)
  have : z = .slice a xs.length c := by simpa using hz
  subst this
  simp [Value.oneCell']
/-- A column, and the transposed matrix. -/
def colL (xss : List (List Int)) (c : Nat) : List Int := xss.map fun r => r.getD c 0
def transL (xss : List (List Int)) : List (List Int) := (List.range (colsN xss)).map (colL xss)
theorem transL_len (xss : List (List Int)) : (transL xss).length = colsN xss := by simp [transL]
theorem colL_len (xss : List (List Int)) (c : Nat) : (colL xss c).length = xss.length := by simp [colL]
theorem transL_take {xss : List (List Int)} {c : Nat} (h : c < colsN xss) : (transL xss).take (c + 1) = (transL xss).take c ++ [colL xss c] := by
  unfold transL
  rw [← List.map_take, ← List.map_take, List.take_add_one, List.getElem?_range h, List.map_append]; rfl
theorem colL_take {xss : List (List Int)} {i c : Nat} {r : List Int} {p : Int} (hr : xss[i]? = some r) (hp : r[c]? = some p) : (colL xss c).take (i + 1) = (colL xss c).take i ++ [p] := by
  unfold colL
  rw [← List.map_take, ← List.map_take, List.take_add_one, hr, List.map_append]
  show _ ++ [r.getD c 0] = _
  rw [List.getD_eq_getElem?_getD, hp]; rfl
theorem colL_bd {xss : List (List Int)} {c : Nat} (h : ∀ r ∈ xss, Fit9 r) : Fit9 (colL xss c) := by
  intro a ha
  obtain ⟨r, hr, rfl⟩ := List.mem_map.1 ha
  rw [List.getD_eq_getElem?_getD]
  cases hc : r[c]? with
  | none => simp
  | some p => exact h r hr p (List.mem_of_getElem? hc)
theorem transL_mem {xss : List (List Int)} {q : List Int} (h : q ∈ transL xss) : ∃ c, c < colsN xss ∧ q = colL xss c := by
  obtain ⟨c, hc, rfl⟩ := List.mem_map.1 h
  exact ⟨c, by simpa using hc, rfl⟩

set_option maxRecDepth 100000 in
set_option maxHeartbeats 4000000 in
theorem refTrans_any (xss : List (List Int)) (v : Value) (w : World) (h : Rows2 w v xss) (hr : ∀ r ∈ xss, r.length = colsN xss) (hf : ∀ r ∈ xss, Fit9 r) (hl : xss.length ≤ 1000) (hn : colsN xss ≤ 1000) :
    Calls Tryz.prog 44 #[v] w fun e w' => ∃ u, e = .returned u ∧ Build w' w.heap.size 51 1 u rowR (transL xss) ∧ Ext w w' := by
  have HCO : Hid (∀ W, Ext w W → Calls Tryz.prog 19 #[v] W fun e w' => e = .returned (.int .i64 (colsN xss : Int)) ∧ W = w') := fun W hW => refCols_any xss v W (h.ext hW)
  obtain ⟨a, ca, rfl, h1, h2, -, hc⟩ := inCell.open h
  have HC := Lib.hid hc; have HRR := Lib.hid hr; have HFX := Lib.hid hf
  obtain ⟨n, hnn⟩ : ∃ n, n = colsN xss := ⟨_, rfl⟩
  rw [← hnn] at HCO HRR hn
  have HN := Lib.hid hnn
  unfold maxLen at h2
  have HE1 : Hid (Ext w w) := Ext.refl _
  clear h hc hr hf hnn
  go_enter Tryz.func44, Tryz.ntmps44
  go_wp2_with fail
  go_loopw [4, 3] (fun t o wr => ∃ c : Nat, c ≤ n ∧ t = .int .i64 c ∧ Hid (Ext w wr) ∧ Hid (Build wr w.heap.size 51 1 o rowR ((transL xss).take c))) (fun t _ _ => n - (intOf t).toNat)
  case atStart => exact ⟨0, by omega, rfl, by first | exact HE1.out | exact Ext.refl _, Build.nil _ _ _ _ _⟩
  case round =>
    obtain ⟨c, hc, rfl, HE, HB⟩ := hrel
    obtain ⟨wo, rfl⟩ : ∃ wo : World, wo = wr := ⟨_, rfl⟩
    by_cases hlt : c < n
    · have HTT := Lib.hid (transL_take (xss := xss) (c := c) (by rw [← HN.out]; exact hlt))
      have HCL : Hid ((colL xss c).length = xss.length) := by unfold Hid colL; simp
      have HCB := Lib.hid (colL_bd (c := c) HFX.out)
      have hci : (c : Int) < (n : Int) := by omega
      go_wp2_with fail
      refine (HCO.out _ HE.out).mono ?_
      rintro e w3 ⟨rfl, rfl⟩
      go_wp2_with fail
      go_loopw [6, 5] (fun t o wr => ∃ i : Nat, i ≤ xss.length ∧ t = .int .i64 i ∧ Hid (Ext wo wr) ∧ Hid (Build wr wo.heap.size 3 1 o intR ((colL xss c).take i))) (fun t _ _ => xss.length - (intOf t).toNat)
      case atStart => exact ⟨0, by omega, rfl, by first | exact Ext.refl _ | exact Ext.drew _, Build.nil _ _ _ _ _⟩
      case round =>
        obtain ⟨i, hi, rfl, HEI, HBI⟩ := hrel
        obtain ⟨wi, rfl⟩ : ∃ wi : World, wi = wr := ⟨_, rfl⟩
        have HWI := Lib.hid (HE.out.trans HEI.out)
        by_cases hil : i < xss.length
        · obtain ⟨b, off, rfl, hb, hcell⟩ := HC.out (by intro e; simp [e] at hil)
          obtain ⟨r, hr⟩ : ∃ x, xss[i]? = some x := ⟨xss[i], List.getElem?_eq_getElem hil⟩
          obtain ⟨vr, hvr, hcr⟩ := hcell i r hr
          obtain ⟨ar, cr, rfl, r1, r2, -, -, hcc⟩ := hvr.open
          have hrn : r.length = n := HRR.out r (List.mem_of_getElem? hr)
          rw [hrn] at hcr
          obtain ⟨br, or_, rfl, -, hc1⟩ := hcc (by intro e; rw [e] at hrn; simp at hrn; omega)
          obtain ⟨p, hp⟩ : ∃ p, r[c]? = some p := ⟨_, List.getElem?_eq_getElem (by omega)⟩
          have g1 := HWI.out.cell hcr
          have g2 := HWI.out.cell (hc1 c p hp)
          have HCT := Lib.hid (colL_take hr hp)
          have hbd := HFX.out r (List.mem_of_getElem? hr) p (List.mem_of_getElem? hp)
          have HBD : Hid (-9223372036854775808 ≤ p ∧ p ≤ 9223372036854775807) := by unfold Hid; omega
          have HLL : Hid (((colL xss c).take i).length < 1000000) := Nat.lt_of_le_of_lt (by rw [List.length_take]; exact Nat.min_le_left _ _) (show i < 1000000 by omega)
          have hs5 : wo.heap.size ≤ wi.heap.size := HEI.out.size
          have hii : (i : Int) < (xss.length : Int) := by omega
          clear hcell hr hvr hcr hcc hc1 hp hrn hbd r1 r2
          go_wp2_with (at_builtin; go_must (refine wpList_append_build _ rfl _ _ 51 rfl wo.heap.size 3 (.int .i64 0) 1 8 Tryz.underlying51 infoInt rfl (by decide) u5 intR ((colL xss c).take i) p #[.int .i64 p] 3 rfl HBI.out rfl rfl ?_ (fun _ _ => ⟨rfl, HBD.out⟩) HLL.out (by decide) hs5 ?_))
          all_goals first | (simp [Value.oneCell']; done) | skip
          intro v' w6 hB6 hg6 hb6 hs6 _
          rw [← HCT.out] at hB6
          have HB6 := Lib.hid hB6
          have HX6 : Hid (Ext wo w6) := Below.trans HEI.out hb6
          clear hB6 hg6 hb6
          go_wp2_with fail
          go_roundw
          case rel => exact ⟨i + 1, by omega, by go_num, HX6.out, HB6.out⟩
          case measure => simp [intOf]; omega
        · obtain rfl : i = xss.length := by omega
          have htk : (colL xss c).take xss.length = colL xss c := by rw [← HCL.out, List.take_length]
          rw [htk] at HBI
          obtain ⟨a5, c5, hu5, -⟩ := Ints.open HBI.out.list
          rw [HCL.out] at hu5
          subst hu5
          have HOW : Hid (∀ k, u3.ownBlock = some k → k < wo.heap.size) := fun k hk => (HB.out.lt k hk).2
          have HBO := Lib.hid (HB.out.ext HEI.out)
          have HSF := Lib.hid (HBI.out.safe_ints (o := u3.ownBlock) HOW.out)
          have HLL : Hid (((transL xss).take c).length < 1000000) := Nat.lt_of_le_of_lt (by rw [List.length_take]; exact Nat.min_le_left _ _) (show c < 1000000 by omega)
          have hs5 : w.heap.size ≤ wi.heap.size := HWI.out.size
          clear htk
          go_wp2_with (at_builtin; go_must (refine wpList_append_build _ rfl _ _ 23 rfl w.heap.size 51 (.slice none 0 0) 1 24 Tryz.underlying23 infoRowT rfl (by decide) u3 rowR ((transL xss).take c) (colL xss c) #[.slice a5 xss.length c5] 51 rfl HBO.out rfl rfl ?_ (HSF.out.mono fun w' hw => ⟨_, rfl, hw⟩) HLL.out (by decide) hs5 ?_))
          case refine_1 => simp [Value.oneCell']
          intro v' w6 hB6 hg6 hb6 hs6 _
          rw [← HTT.out] at hB6
          have HB6 := Lib.hid hB6
          have HX6 := Lib.hid (Below.trans HWI.out hb6)
          clear hB6 hg6 hb6
          go_wp2_with fail
          go_roundw
          case rel => exact ⟨c + 1, by omega, by go_num, HX6.out, HB6.out⟩
          case measure => simp [intOf]; omega
    · obtain rfl : c = n := by omega
      have htk : (transL xss).take c = transL xss := List.take_of_length_le (by rw [transL_len, ← HN.out]; exact Nat.le_refl _)
      rw [htk] at HB
      clear htk
      go_wp2_with fail
      refine (HCO.out _ HE.out).mono ?_
      rintro e w3 ⟨rfl, rfl⟩
      go_wp2_with fail
      go_ret
      exact ⟨_, rfl, HB.out, HE.out⟩

set_option maxRecDepth 100000 in
set_option maxHeartbeats 4000000 in
theorem tTrans_any (xss : List (List Int)) (v : Value) (w : World) (h : Rows2 w v xss) (hE : tabE xss = 0) :
    Calls Tryz.prog 34 #[v] w fun e w' => ∃ u, e = .returned (.tuple #[u, .int .i64 0]) ∧ Build w' w.heap.size 51 1 u rowR (transL xss) ∧ Ext w w' := by
  obtain ⟨hl, hrr⟩ := tabE_zero hE
  have hn : colsN xss ≤ 12 := by
    cases xss with
    | nil => show 0 ≤ 12; omega
    | cons r l => exact (hrr r (by simp)).2.1
  have HCH : Hid (∀ W, Ext w W → Calls Tryz.prog 41 #[v] W fun e w' => e = .returned (.int .i64 0) ∧ Ext W w') := fun W hW => by have := tabCheck_any xss v W (h.ext hW); rw [hE] at this; exact this
  have HCO : Hid (∀ W, Ext w W → Calls Tryz.prog 43 #[v] W fun e w' => e = .returned (.int .i64 (colsN xss : Int)) ∧ W = w') := fun W hW => columns_any xss v W (h.ext hW)
  obtain ⟨a, ca, rfl, h1, h2, -, hc⟩ := inCell.open h
  have HC := Lib.hid hc
  have HRR : Hid (∀ r ∈ xss, r.length = colsN xss) := fun r hr => (hrr r hr).1
  have HFX : Hid (∀ r ∈ xss, Fit9 r) := fun r hr => (hrr r hr).2.2
  obtain ⟨n, hnn⟩ : ∃ n, n = colsN xss := ⟨_, rfl⟩
  rw [← hnn] at HCO HRR hn
  have HN := Lib.hid hnn
  unfold maxLen at h2
  clear h hc hrr hnn hE
  go_enter Tryz.func34, Tryz.ntmps34
  go_wp2_with fail
  refine (HCH.out _ (Ext.refl _)).mono ?_
  rintro e w1 ⟨rfl, hE1⟩
  have HE1 := Lib.hid hE1
  clear hE1
  go_wp2_with fail
  refine (HCO.out _ HE1.out).mono ?_
  rintro e w2 ⟨rfl, rfl⟩
  go_wp2_with fail
  go_loopw [17, 5] (fun t o wr => ∃ c : Nat, c ≤ n ∧ t = .int .i64 c ∧ Hid (Ext w wr) ∧ Hid (Build wr w.heap.size 51 1 o rowR ((transL xss).take c))) (fun t _ _ => n - (intOf t).toNat)
  case atStart => exact ⟨0, by omega, rfl, by first | exact HE1.out | exact Ext.refl _, Build.nil _ _ _ _ _⟩
  case round =>
    obtain ⟨c, hc, rfl, HE, HB⟩ := hrel
    obtain ⟨wo, rfl⟩ : ∃ wo : World, wo = wr := ⟨_, rfl⟩
    by_cases hlt : c < n
    · have HTT := Lib.hid (transL_take (xss := xss) (c := c) (by rw [← HN.out]; exact hlt))
      have HCL : Hid ((colL xss c).length = xss.length) := by unfold Hid colL; simp
      have HCB := Lib.hid (colL_bd (c := c) HFX.out)
      have hci : (c : Int) < (n : Int) := by omega
      go_wp2_with fail
      go_loopw [22, 7] (fun t o wr => ∃ i : Nat, i ≤ xss.length ∧ t = .int .i64 i ∧ Hid (Ext wo wr) ∧ Hid (Build wr wo.heap.size 3 1 o intR ((colL xss c).take i))) (fun t _ _ => xss.length - (intOf t).toNat)
      case atStart => exact ⟨0, by omega, rfl, by first | exact Ext.refl _ | exact Ext.drew _, Build.nil _ _ _ _ _⟩
      case round =>
        obtain ⟨i, hi, rfl, HEI, HBI⟩ := hrel
        obtain ⟨wi, rfl⟩ : ∃ wi : World, wi = wr := ⟨_, rfl⟩
        have HWI := Lib.hid (HE.out.trans HEI.out)
        by_cases hil : i < xss.length
        · obtain ⟨b, off, rfl, hb, hcell⟩ := HC.out (by intro e; simp [e] at hil)
          obtain ⟨r, hr⟩ : ∃ x, xss[i]? = some x := ⟨xss[i], List.getElem?_eq_getElem hil⟩
          obtain ⟨vr, hvr, hcr⟩ := hcell i r hr
          obtain ⟨ar, cr, rfl, r1, r2, -, -, hcc⟩ := hvr.open
          have hrn : r.length = n := HRR.out r (List.mem_of_getElem? hr)
          rw [hrn] at hcr
          obtain ⟨br, or_, rfl, -, hc1⟩ := hcc (by intro e; rw [e] at hrn; simp at hrn; omega)
          obtain ⟨p, hp⟩ : ∃ p, r[c]? = some p := ⟨_, List.getElem?_eq_getElem (by omega)⟩
          have g1 := HWI.out.cell hcr
          have g2 := HWI.out.cell (hc1 c p hp)
          have HCT := Lib.hid (colL_take hr hp)
          have hbd := HFX.out r (List.mem_of_getElem? hr) p (List.mem_of_getElem? hp)
          have HBD : Hid (-9223372036854775808 ≤ p ∧ p ≤ 9223372036854775807) := by unfold Hid; omega
          have HLL : Hid (((colL xss c).take i).length < 1000000) := Nat.lt_of_le_of_lt (by rw [List.length_take]; exact Nat.min_le_left _ _) (show i < 1000000 by omega)
          have hs5 : wo.heap.size ≤ wi.heap.size := HEI.out.size
          have hii : (i : Int) < (xss.length : Int) := by omega
          clear hcell hr hvr hcr hcc hc1 hp hrn hbd r1 r2
          go_wp2_with (at_builtin; go_must (refine wpList_append_build _ rfl _ _ 51 rfl wo.heap.size 3 (.int .i64 0) 1 8 Tryz.underlying51 infoInt rfl (by decide) u7 intR ((colL xss c).take i) p #[.int .i64 p] 3 rfl HBI.out rfl rfl ?_ (fun _ _ => ⟨rfl, HBD.out⟩) HLL.out (by decide) hs5 ?_))
          all_goals first | (simp [Value.oneCell']; done) | skip
          intro v' w6 hB6 hg6 hb6 hs6 _
          rw [← HCT.out] at hB6
          have HB6 := Lib.hid hB6
          have HX6 : Hid (Ext wo w6) := Below.trans HEI.out hb6
          clear hB6 hg6 hb6
          go_wp2_with fail
          go_roundw
          case rel => exact ⟨i + 1, by omega, by go_num, HX6.out, HB6.out⟩
          case measure => simp [intOf]; omega
        · obtain rfl : i = xss.length := by omega
          have htk : (colL xss c).take xss.length = colL xss c := by rw [← HCL.out, List.take_length]
          rw [htk] at HBI
          obtain ⟨a5, c5, hu5, -⟩ := Ints.open HBI.out.list
          rw [HCL.out] at hu5
          subst hu5
          have HOW : Hid (∀ k, u5.ownBlock = some k → k < wo.heap.size) := fun k hk => (HB.out.lt k hk).2
          have HBO := Lib.hid (HB.out.ext HEI.out)
          have HSF := Lib.hid (HBI.out.safe_ints (o := u5.ownBlock) HOW.out)
          have HLL : Hid (((transL xss).take c).length < 1000000) := Nat.lt_of_le_of_lt (by rw [List.length_take]; exact Nat.min_le_left _ _) (show c < 1000000 by omega)
          have hs5 : w.heap.size ≤ wi.heap.size := HWI.out.size
          clear htk
          go_wp2_with (at_builtin; go_must (refine wpList_append_build _ rfl _ _ 23 rfl w.heap.size 51 (.slice none 0 0) 1 24 Tryz.underlying23 infoRowT rfl (by decide) u5 rowR ((transL xss).take c) (colL xss c) #[.slice a5 xss.length c5] 51 rfl HBO.out rfl rfl ?_ (HSF.out.mono fun w' hw => ⟨_, rfl, hw⟩) HLL.out (by decide) hs5 ?_))
          case refine_1 => simp [Value.oneCell']
          intro v' w6 hB6 hg6 hb6 hs6 _
          rw [← HTT.out] at hB6
          have HB6 := Lib.hid hB6
          have HX6 := Lib.hid (Below.trans HWI.out hb6)
          clear hB6 hg6 hb6
          go_wp2_with fail
          go_roundw
          case rel => exact ⟨c + 1, by omega, by go_num, HX6.out, HB6.out⟩
          case measure => simp [intOf]; omega
    · obtain rfl : c = n := by omega
      have htk : (transL xss).take c = transL xss := List.take_of_length_le (by rw [transL_len, ← HN.out]; exact Nat.le_refl _)
      rw [htk] at HB
      clear htk
      go_wp2_with fail
      go_ret2
      exact ⟨_, rfl, HB.out, HE.out⟩
theorem tTrans_bad (xss : List (List Int)) (v : Value) (w : World) (h : Rows2 w v xss) (hE : tabE xss ≠ 0) :
    Calls Tryz.prog 34 #[v] w fun e w' => e = .returned (.tuple #[.slice none 0 0, .int .i64 (tabE xss)]) ∧ Ext w w' := by
  have HCH := Lib.hid (tabCheck_any xss v w h)
  obtain ⟨E, hEE⟩ : ∃ E, E = tabE xss := ⟨_, rfl⟩
  rw [← hEE] at HCH hE ⊢
  have q : (E != 0) = true := by simpa using hE
  clear h hE hEE
  go_enter Tryz.func34, Tryz.ntmps34
  go_wp2_with fail
  refine HCH.out.mono ?_
  rintro e w1 ⟨rfl, hE1⟩
  have HE1 := Lib.hid hE1
  clear hE1
  go_wp2_with fail
  go_ret2
  exact ⟨rfl, HE1.out⟩
end Go.Proofs.YtpeinobepiodaaaGreatDoor
