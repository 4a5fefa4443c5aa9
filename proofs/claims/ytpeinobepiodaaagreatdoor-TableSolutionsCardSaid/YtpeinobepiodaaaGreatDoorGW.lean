/- Merged: TransT, MulT. -/
import Derived.Test.YtpeinobepiodaaaGreatDoorGU
import Derived.Test.YtpeinobepiodaaaGreatDoorGI
import Derived.ChangeKeysEq
/- Contracts of Transpose of package table and of the reference (chapter 06). (Printed by gen/trans.py.) -/
namespace Go.Proofs.YtpeinobepiodaaaGreatDoor
set_option linter.unusedVariables false
set_option linter.unusedSimpArgs false
open Go.RowKit

/-- A row that the call built stays readable while another block grows. -/
theorem Build.safe_ints {w : World} {base : Nat} {v : Value} {xs : List Int} {o : Option Nat} (h : Build w base 3 1 v intR xs) (ho : ∀ k, o = some k → k < base) : Safe w o (fun w' => Ints w' v xs) := by
  intro w' hg
  have hne : v.ownBlock = none ∨ v.ownBlock ≠ o := by
    cases hv : v.ownBlock with
    | none => exact .inl rfl
    | some b =>
      refine .inr fun e => ?_
      have h1 := (h.lt b hv).1
      have h2 := ho b e.symm
      omega
  obtain ⟨us, h1, h2, h3, h4⟩ := h
  have h3' := Safe.owns h3 hne w' hg
  have : Build w' base 3 1 v intR xs := ⟨us, h1, h2, h3', fun j u x hu hx w'' _ => (h4 j u x hu hx).now⟩
  exact this.list
theorem Build.oneCell {w : World} {base : Nat} {v : Value} {xs : List Int} (h : Build w base 3 1 v intR xs) : ∀ z ∈ (#[v] : Array Value).toList, z.oneCell' = true := by
  intro z hz
  obtain ⟨a, c, rfl, -⟩ := (Ints.open h.list)
  have : z = .slice a xs.length c := by simpa using hz
  subst this
  simp [Value.oneCell']
/-- A column, and the transposed matrix. -/
def colL (xss : List (List Int)) (c : Nat) : List Int := xss.map fun r => r.getD c 0
def transL (xss : List (List Int)) : List (List Int) := (List.range (colsN xss)).map (colL xss)
theorem transL_len (xss : List (List Int)) : (transL xss).length = colsN xss := by simp [transL]
theorem colL_len (xss : List (List Int)) (c : Nat) : (colL xss c).length = xss.length := by simp [colL]
theorem transL_take {xss : List (List Int)} {c : Nat} (h : c < colsN xss) : (transL xss).take (c + 1) = (transL xss).take c ++ [colL xss c] := by
  unfold transL
  rw [← List.map_take, ← List.map_take, List.take_add_one, List.getElem?_range h, List.map_append]; rfl
theorem colL_take {xss : List (List Int)} {i c : Nat} {r : List Int} {p : Int} (hr : xss[i]? = some r) (hp : r[c]? = some p) : (colL xss c).take (i + 1) = (colL xss c).take i ++ [p] := by
  unfold colL
  rw [← List.map_take, ← List.map_take, List.take_add_one, hr, List.map_append]
  show _ ++ [r.getD c 0] = _
  rw [List.getD_eq_getElem?_getD, hp]; rfl
theorem colL_bd {xss : List (List Int)} {c : Nat} (h : ∀ r ∈ xss, Fit9 r) : Fit9 (colL xss c) := by
  intro a ha
  obtain ⟨r, hr, rfl⟩ := List.mem_map.1 ha
  rw [List.getD_eq_getElem?_getD]
  cases hc : r[c]? with
  | none => simp
  | some p => exact h r hr p (List.mem_of_getElem? hc)
theorem transL_mem {xss : List (List Int)} {q : List Int} (h : q ∈ transL xss) : ∃ c, c < colsN xss ∧ q = colL xss c := by
  obtain ⟨c, hc, rfl⟩ := List.mem_map.1 h
  exact ⟨c, by simpa using hc, rfl⟩

set_option maxRecDepth 100000 in
set_option maxHeartbeats 4000000 in
theorem refTrans_any (xss : List (List Int)) (v : Value) (w : World) (h : Rows2 w v xss) (hr : ∀ r ∈ xss, r.length = colsN xss) (hf : ∀ r ∈ xss, Fit9 r) (hl : xss.length ≤ 1000) (hn : colsN xss ≤ 1000) :
    Calls Tryz.prog 44 #[v] w fun e w' => ∃ u, e = .returned u ∧ Build w' w.heap.size 51 1 u rowR (transL xss) ∧ Ext w w' := by
  have HCO : Hid (∀ W, Ext w W → Calls Tryz.prog 19 #[v] W fun e w' => e = .returned (.int .i64 (colsN xss : Int)) ∧ W = w') := fun W hW => refCols_any xss v W (h.ext hW)
  obtain ⟨a, ca, rfl, h1, h2, -, hc⟩ := inCell.open h
  have HC := Lib.hid hc; have HRR := Lib.hid hr; have HFX := Lib.hid hf
  obtain ⟨n, hnn⟩ : ∃ n, n = colsN xss := ⟨_, rfl⟩
  rw [← hnn] at HCO HRR hn
  have HN := Lib.hid hnn
  unfold maxLen at h2
  have HE1 : Hid (Ext w w) := Ext.refl _
  clear h hc hr hf hnn
  go_enter Tryz.func44, Tryz.ntmps44
  go_wp2_with fail
  go_loopw [4, 3] (fun t o wr => ∃ c : Nat, c ≤ n ∧ t = .int .i64 c ∧ Hid (Ext w wr) ∧ Hid (Build wr w.heap.size 51 1 o rowR ((transL xss).take c))) (fun t _ _ => n - (intOf t).toNat)
  case atStart => exact ⟨0, by omega, rfl, by first | exact HE1.out | exact Ext.refl _, Build.nil _ _ _ _ _⟩
  case round =>
    obtain ⟨c, hc, rfl, HE, HB⟩ := hrel
    obtain ⟨wo, rfl⟩ : ∃ wo : World, wo = wr := ⟨_, rfl⟩
    by_cases hlt : c < n
    · have HTT := Lib.hid (transL_take (xss := xss) (c := c) (by rw [← HN.out]; exact hlt))
      have HCL : Hid ((colL xss c).length = xss.length) := by unfold Hid colL; simp
      have HCB := Lib.hid (colL_bd (c := c) HFX.out)
      have hci : (c : Int) < (n : Int) := by omega
      go_wp2_with fail
      refine (HCO.out _ HE.out).mono ?_
      rintro e w3 ⟨rfl, rfl⟩
      go_wp2_with fail
      go_loopw [6, 5] (fun t o wr => ∃ i : Nat, i ≤ xss.length ∧ t = .int .i64 i ∧ Hid (Ext wo wr) ∧ Hid (Build wr wo.heap.size 3 1 o intR ((colL xss c).take i))) (fun t _ _ => xss.length - (intOf t).toNat)
      case atStart => exact ⟨0, by omega, rfl, by first | exact Ext.refl _ | exact Ext.drew _, Build.nil _ _ _ _ _⟩
      case round =>
        obtain ⟨i, hi, rfl, HEI, HBI⟩ := hrel
        obtain ⟨wi, rfl⟩ : ∃ wi : World, wi = wr := ⟨_, rfl⟩
        have HWI := Lib.hid (HE.out.trans HEI.out)
        by_cases hil : i < xss.length
        · obtain ⟨b, off, rfl, hb, hcell⟩ := HC.out (by intro e; simp [e] at hil)
          obtain ⟨r, hr⟩ : ∃ x, xss[i]? = some x := ⟨xss[i], List.getElem?_eq_getElem hil⟩
          obtain ⟨vr, hvr, hcr⟩ := hcell i r hr
          obtain ⟨ar, cr, rfl, r1, r2, -, -, hcc⟩ := hvr.open
          have hrn : r.length = n := HRR.out r (List.mem_of_getElem? hr)
          rw [hrn] at hcr
          obtain ⟨br, or_, rfl, -, hc1⟩ := hcc (by intro e; rw [e] at hrn; simp at hrn; omega)
          obtain ⟨p, hp⟩ : ∃ p, r[c]? = some p := ⟨_, List.getElem?_eq_getElem (by omega)⟩
          have g1 := HWI.out.cell hcr
          have g2 := HWI.out.cell (hc1 c p hp)
          have HCT := Lib.hid (colL_take hr hp)
          have hbd := HFX.out r (List.mem_of_getElem? hr) p (List.mem_of_getElem? hp)
          have HBD : Hid (-9223372036854775808 ≤ p ∧ p ≤ 9223372036854775807) := by unfold Hid; omega
          have HLL : Hid (((colL xss c).take i).length < 1000000) := Nat.lt_of_le_of_lt (by rw [List.length_take]; exact Nat.min_le_left _ _) (show i < 1000000 by omega)
          have hs5 : wo.heap.size ≤ wi.heap.size := HEI.out.size
          have hii : (i : Int) < (xss.length : Int) := by omega
          clear hcell hr hvr hcr hcc hc1 hp hrn hbd r1 r2
          go_wp2_with (at_builtin; go_must (refine wpList_append_build _ rfl _ _ 51 rfl wo.heap.size 3 (.int .i64 0) 1 8 Tryz.underlying51 infoInt rfl (by decide) u5 intR ((colL xss c).take i) p #[.int .i64 p] 3 rfl HBI.out rfl rfl ?_ (fun _ _ => ⟨rfl, HBD.out⟩) HLL.out (by decide) hs5 ?_))
          all_goals first | (simp [Value.oneCell']; done) | skip
          intro v' w6 hB6 hg6 hb6 hs6 _
          rw [← HCT.out] at hB6
          have HB6 := Lib.hid hB6
          have HX6 : Hid (Ext wo w6) := Below.trans HEI.out hb6
          clear hB6 hg6 hb6
          go_wp2_with fail
          go_roundw
          case rel => exact ⟨i + 1, by omega, by go_num, HX6.out, HB6.out⟩
          case measure => simp [intOf]; omega
        · obtain rfl : i = xss.length := by omega
          have htk : (colL xss c).take xss.length = colL xss c := by rw [← HCL.out, List.take_length]
          rw [htk] at HBI
          obtain ⟨a5, c5, hu5, -⟩ := Ints.open HBI.out.list
          rw [HCL.out] at hu5
          subst hu5
          have HOW : Hid (∀ k, u3.ownBlock = some k → k < wo.heap.size) := fun k hk => (HB.out.lt k hk).2
          have HBO := Lib.hid (HB.out.ext HEI.out)
          have HSF := Lib.hid (HBI.out.safe_ints (o := u3.ownBlock) HOW.out)
          have HLL : Hid (((transL xss).take c).length < 1000000) := Nat.lt_of_le_of_lt (by rw [List.length_take]; exact Nat.min_le_left _ _) (show c < 1000000 by omega)
          have hs5 : w.heap.size ≤ wi.heap.size := HWI.out.size
          clear htk
          go_wp2_with (at_builtin; go_must (refine wpList_append_build _ rfl _ _ 23 rfl w.heap.size 51 (.slice none 0 0) 1 24 Tryz.underlying23 infoRowT rfl (by decide) u3 rowR ((transL xss).take c) (colL xss c) #[.slice a5 xss.length c5] 51 rfl HBO.out rfl rfl ?_ (HSF.out.mono fun w' hw => ⟨_, rfl, hw⟩) HLL.out (by decide) hs5 ?_))
          case refine_1 => simp [Value.oneCell']
          intro v' w6 hB6 hg6 hb6 hs6 _
          rw [← HTT.out] at hB6
          have HB6 := Lib.hid hB6
          have HX6 := Lib.hid (Below.trans HWI.out hb6)
          clear hB6 hg6 hb6
          go_wp2_with fail
          go_roundw
          case rel => exact ⟨c + 1, by omega, by go_num, HX6.out, HB6.out⟩
          case measure => simp [intOf]; omega
    · obtain rfl : c = n := by omega
      have htk : (transL xss).take c = transL xss := List.take_of_length_le (by rw [transL_len, ← HN.out]; exact Nat.le_refl _)
      rw [htk] at HB
      clear htk
      go_wp2_with fail
      refine (HCO.out _ HE.out).mono ?_
      rintro e w3 ⟨rfl, rfl⟩
      go_wp2_with fail
      go_ret
      exact ⟨_, rfl, HB.out, HE.out⟩

set_option maxRecDepth 100000 in
set_option maxHeartbeats 4000000 in
theorem tTrans_any (xss : List (List Int)) (v : Value) (w : World) (h : Rows2 w v xss) (hE : tabE xss = 0) :
    Calls Tryz.prog 34 #[v] w fun e w' => ∃ u, e = .returned (.tuple #[u, .int .i64 0]) ∧ Build w' w.heap.size 51 1 u rowR (transL xss) ∧ Ext w w' := by
  obtain ⟨hl, hrr⟩ := tabE_zero hE
  have hn : colsN xss ≤ 12 := by
    cases xss with
    | nil => show 0 ≤ 12; omega
    | cons r l => exact (hrr r (by simp)).2.1
  have HCH : Hid (∀ W, Ext w W → Calls Tryz.prog 41 #[v] W fun e w' => e = .returned (.int .i64 0) ∧ Ext W w') := fun W hW => by have := tabCheck_any xss v W (h.ext hW); rw [hE] at this; exact this
  have HCO : Hid (∀ W, Ext w W → Calls Tryz.prog 43 #[v] W fun e w' => e = .returned (.int .i64 (colsN xss : Int)) ∧ W = w') := fun W hW => columns_any xss v W (h.ext hW)
  obtain ⟨a, ca, rfl, h1, h2, -, hc⟩ := inCell.open h
  have HC := Lib.hid hc
  have HRR : Hid (∀ r ∈ xss, r.length = colsN xss) := fun r hr => (hrr r hr).1
  have HFX : Hid (∀ r ∈ xss, Fit9 r) := fun r hr => (hrr r hr).2.2
  obtain ⟨n, hnn⟩ : ∃ n, n = colsN xss := ⟨_, rfl⟩
  rw [← hnn] at HCO HRR hn
  have HN := Lib.hid hnn
  unfold maxLen at h2
  clear h hc hrr hnn hE
  go_enter Tryz.func34, Tryz.ntmps34
  go_wp2_with fail
  refine (HCH.out _ (Ext.refl _)).mono ?_
  rintro e w1 ⟨rfl, hE1⟩
  have HE1 := Lib.hid hE1
  clear hE1
  go_wp2_with fail
  refine (HCO.out _ HE1.out).mono ?_
  rintro e w2 ⟨rfl, rfl⟩
  go_wp2_with fail
  go_loopw [17, 5] (fun t o wr => ∃ c : Nat, c ≤ n ∧ t = .int .i64 c ∧ Hid (Ext w wr) ∧ Hid (Build wr w.heap.size 51 1 o rowR ((transL xss).take c))) (fun t _ _ => n - (intOf t).toNat)
  case atStart => exact ⟨0, by omega, rfl, by first | exact HE1.out | exact Ext.refl _, Build.nil _ _ _ _ _⟩
  case round =>
    obtain ⟨c, hc, rfl, HE, HB⟩ := hrel
    obtain ⟨wo, rfl⟩ : ∃ wo : World, wo = wr := ⟨_, rfl⟩
    by_cases hlt : c < n
    · have HTT := Lib.hid (transL_take (xss := xss) (c := c) (by rw [← HN.out]; exact hlt))
      have HCL : Hid ((colL xss c).length = xss.length) := by unfold Hid colL; simp
      have HCB := Lib.hid (colL_bd (c := c) HFX.out)
      have hci : (c : Int) < (n : Int) := by omega
      go_wp2_with fail
      go_loopw [22, 7] (fun t o wr => ∃ i : Nat, i ≤ xss.length ∧ t = .int .i64 i ∧ Hid (Ext wo wr) ∧ Hid (Build wr wo.heap.size 3 1 o intR ((colL xss c).take i))) (fun t _ _ => xss.length - (intOf t).toNat)
      case atStart => exact ⟨0, by omega, rfl, by first | exact Ext.refl _ | exact Ext.drew _, Build.nil _ _ _ _ _⟩
      case round =>
        obtain ⟨i, hi, rfl, HEI, HBI⟩ := hrel
        obtain ⟨wi, rfl⟩ : ∃ wi : World, wi = wr := ⟨_, rfl⟩
        have HWI := Lib.hid (HE.out.trans HEI.out)
        by_cases hil : i < xss.length
        · obtain ⟨b, off, rfl, hb, hcell⟩ := HC.out (by intro e; simp [e] at hil)
          obtain ⟨r, hr⟩ : ∃ x, xss[i]? = some x := ⟨xss[i], List.getElem?_eq_getElem hil⟩
          obtain ⟨vr, hvr, hcr⟩ := hcell i r hr
          obtain ⟨ar, cr, rfl, r1, r2, -, -, hcc⟩ := hvr.open
          have hrn : r.length = n := HRR.out r (List.mem_of_getElem? hr)
          rw [hrn] at hcr
          obtain ⟨br, or_, rfl, -, hc1⟩ := hcc (by intro e; rw [e] at hrn; simp at hrn; omega)
          obtain ⟨p, hp⟩ : ∃ p, r[c]? = some p := ⟨_, List.getElem?_eq_getElem (by omega)⟩
          have g1 := HWI.out.cell hcr
          have g2 := HWI.out.cell (hc1 c p hp)
          have HCT := Lib.hid (colL_take hr hp)
          have hbd := HFX.out r (List.mem_of_getElem? hr) p (List.mem_of_getElem? hp)
          have HBD : Hid (-9223372036854775808 ≤ p ∧ p ≤ 9223372036854775807) := by unfold Hid; omega
          have HLL : Hid (((colL xss c).take i).length < 1000000) := Nat.lt_of_le_of_lt (by rw [List.length_take]; exact Nat.min_le_left _ _) (show i < 1000000 by omega)
          have hs5 : wo.heap.size ≤ wi.heap.size := HEI.out.size
          have hii : (i : Int) < (xss.length : Int) := by omega
          clear hcell hr hvr hcr hcc hc1 hp hrn hbd r1 r2
          go_wp2_with (at_builtin; go_must (refine wpList_append_build _ rfl _ _ 51 rfl wo.heap.size 3 (.int .i64 0) 1 8 Tryz.underlying51 infoInt rfl (by decide) u7 intR ((colL xss c).take i) p #[.int .i64 p] 3 rfl HBI.out rfl rfl ?_ (fun _ _ => ⟨rfl, HBD.out⟩) HLL.out (by decide) hs5 ?_))
          all_goals first | (simp [Value.oneCell']; done) | skip
          intro v' w6 hB6 hg6 hb6 hs6 _
          rw [← HCT.out] at hB6
          have HB6 := Lib.hid hB6
          have HX6 : Hid (Ext wo w6) := Below.trans HEI.out hb6
          clear hB6 hg6 hb6
          go_wp2_with fail
          go_roundw
          case rel => exact ⟨i + 1, by omega, by go_num, HX6.out, HB6.out⟩
          case measure => simp [intOf]; omega
        · obtain rfl : i = xss.length := by omega
          have htk : (colL xss c).take xss.length = colL xss c := by rw [← HCL.out, List.take_length]
          rw [htk] at HBI
          obtain ⟨a5, c5, hu5, -⟩ := Ints.open HBI.out.list
          rw [HCL.out] at hu5
          subst hu5
          have HOW : Hid (∀ k, u5.ownBlock = some k → k < wo.heap.size) := fun k hk => (HB.out.lt k hk).2
          have HBO := Lib.hid (HB.out.ext HEI.out)
          have HSF := Lib.hid (HBI.out.safe_ints (o := u5.ownBlock) HOW.out)
          have HLL : Hid (((transL xss).take c).length < 1000000) := Nat.lt_of_le_of_lt (by rw [List.length_take]; exact Nat.min_le_left _ _) (show c < 1000000 by omega)
          have hs5 : w.heap.size ≤ wi.heap.size := HWI.out.size
          clear htk
          go_wp2_with (at_builtin; go_must (refine wpList_append_build _ rfl _ _ 23 rfl w.heap.size 51 (.slice none 0 0) 1 24 Tryz.underlying23 infoRowT rfl (by decide) u5 rowR ((transL xss).take c) (colL xss c) #[.slice a5 xss.length c5] 51 rfl HBO.out rfl rfl ?_ (HSF.out.mono fun w' hw => ⟨_, rfl, hw⟩) HLL.out (by decide) hs5 ?_))
          case refine_1 => simp [Value.oneCell']
          intro v' w6 hB6 hg6 hb6 hs6 _
          rw [← HTT.out] at hB6
          have HB6 := Lib.hid hB6
          have HX6 := Lib.hid (Below.trans HWI.out hb6)
          clear hB6 hg6 hb6
          go_wp2_with fail
          go_roundw
          case rel => exact ⟨c + 1, by omega, by go_num, HX6.out, HB6.out⟩
          case measure => simp [intOf]; omega
    · obtain rfl : c = n := by omega
      have htk : (transL xss).take c = transL xss := List.take_of_length_le (by rw [transL_len, ← HN.out]; exact Nat.le_refl _)
      rw [htk] at HB
      clear htk
      go_wp2_with fail
      go_ret2
      exact ⟨_, rfl, HB.out, HE.out⟩
theorem tTrans_bad (xss : List (List Int)) (v : Value) (w : World) (h : Rows2 w v xss) (hE : tabE xss ≠ 0) :
    Calls Tryz.prog 34 #[v] w fun e w' => e = .returned (.tuple #[.slice none 0 0, .int .i64 (tabE xss)]) ∧ Ext w w' := by
  have HCH := Lib.hid (tabCheck_any xss v w h)
  obtain ⟨E, hEE⟩ : ∃ E, E = tabE xss := ⟨_, rfl⟩
  rw [← hEE] at HCH hE ⊢
  have q : (E != 0) = true := by simpa using hE
  clear h hE hEE
  go_enter Tryz.func34, Tryz.ntmps34
  go_wp2_with fail
  refine HCH.out.mono ?_
  rintro e w1 ⟨rfl, hE1⟩
  have HE1 := Lib.hid hE1
  clear hE1
  go_wp2_with fail
  go_ret2
  exact ⟨rfl, HE1.out⟩
end Go.Proofs.YtpeinobepiodaaaGreatDoor
/- Contract of table.Mul. -/
namespace Go.Proofs.YtpeinobepiodaaaGreatDoor
set_option linter.unusedVariables false
set_option linter.unusedSimpArgs false
open Go.RowKit

/-- 'a[i]' of an array of slices by value, i in range. -/
theorem run_index_agg {P : Program} (w : World) (t e g : TypeId) (n : Nat) (cs : Array Value) (k : IntKind) (i : Int) (j : Nat) (v : Value) (inf : TypeInfo) (h : P.underlying t = some (.array n e)) (he : P.underlying e = some (.slice g)) (hinf : P.info? e = some inf) (hc : P.cellsOf e = 1) (hi : i = j) (hn : j < n) (hv : cs[j]? = some v) :
    (Instr.index t (.agg cs) (.int k i)).run P w = .ok v w := by
  subst hi
  have h1 : (0 : Int) ≤ (j : Int) ∧ (j : Int) < (n : Int) := by omega
  have hs : ∀ w, (sizeOf e).run P w = .ok 1 w := fun w => by rw [run_sizeOf w hinf, hc]
  have ha : ∀ w, (isAgg e).run P w = .ok false w := fun w => by simp [isAgg, run_underlying he]
  simp [Instr.index, run_underlying h, asIntOf, h1, hn, part, hs, ha, hv, go_sem]
theorem infoMat : ∃ i, Tryz.prog.info? 23 = some i := by
  cases h : Tryz.prog.info? 23 with
  | some i => exact ⟨i, rfl⟩
  | none => exact absurd h (by have : (Tryz.prog.info? 23).isSome = true := by kernel_rfl
                               intro e; rw [e] at this; cases this)
theorem cellsMat : Tryz.prog.cellsOf 23 = 1 := by kernel_rfl
/-- A row of the product. -/
def mulRow (r : List Int) (yss : List (List Int)) : List Int := (List.range (colsN yss)).map fun c => dotN (pairL r (colL yss c)) r.length
def mulL (xss yss : List (List Int)) : List (List Int) := xss.map fun r => mulRow r yss
theorem mulRow_len (r : List Int) (yss : List (List Int)) : (mulRow r yss).length = colsN yss := by simp [mulRow]
theorem mulL_len (xss yss : List (List Int)) : (mulL xss yss).length = xss.length := by simp [mulL]
theorem mulRow_take {r : List Int} {yss : List (List Int)} {c : Nat} (h : c < colsN yss) : (mulRow r yss).take (c + 1) = (mulRow r yss).take c ++ [dotN (pairL r (colL yss c)) r.length] := by
  unfold mulRow
  rw [← List.map_take, ← List.map_take, List.take_add_one, List.getElem?_range h, List.map_append]; rfl
theorem mulL_take {xss yss : List (List Int)} {i : Nat} {r : List Int} (h : xss[i]? = some r) : (mulL xss yss).take (i + 1) = (mulL xss yss).take i ++ [mulRow r yss] := by
  unfold mulL
  rw [← List.map_take, ← List.map_take, List.take_add_one, h, List.map_append]; rfl
def prodE (xss yss : List (List Int)) : Int :=
  if tabE xss = 0 then (if tabE yss = 0 then (if colsN xss = yss.length then (if (mulL xss yss).all (fun r => r.all fitB) then 0 else 4) else 5) else tabE yss) else tabE xss

set_option maxRecDepth 100000 in
set_option maxHeartbeats 1000000 in
theorem mul1_any (r : List Int) (yss : List (List Int)) (k c B1 B2 B3 : Nat) (u v : Value) (w : World) (hr : Ints w u r) (hy : Rows2 w v yss) (hk : k < r.length) (hk2 : k < yss.length) (hc : ∀ q ∈ yss, c < q.length) (h1 : w.cell? ⟨B1, 0, none⟩ = some u) (h2 : w.cell? ⟨B2, 0, none⟩ = some v) (h3 : w.cell? ⟨B3, 0, none⟩ = some (.int .i64 (c : Int))) :
    Calls Tryz.prog 77 #[.int .i64 (k : Int), .pointer (some ⟨B1, 0, none⟩), .pointer (some ⟨B2, 0, none⟩), .pointer (some ⟨B3, 0, none⟩)] w fun e w' => e = .returned (.tuple #[.int .i64 (pairL r (colL yss c) k).1, .int .i64 (pairL r (colL yss c) k).2]) ∧ Ext w w' := by
  obtain ⟨a, ca, rfl, -, -, -, -, hcc⟩ := hr.open
  obtain ⟨a', ca', rfl, -, -, -, hcm⟩ := inCell.open hy
  obtain ⟨b, off, rfl, -, hcell⟩ := hcc (by intro e; rw [e] at hk; simp at hk)
  obtain ⟨b', off', rfl, -, hcell'⟩ := hcm (by intro e; rw [e] at hk2; simp at hk2)
  obtain ⟨p, hp⟩ : ∃ p, r[k]? = some p := ⟨_, List.getElem?_eq_getElem hk⟩
  obtain ⟨row, hrow⟩ : ∃ q, yss[k]? = some q := ⟨_, List.getElem?_eq_getElem hk2⟩
  obtain ⟨vq, hvq, hcq⟩ := hcell' k row hrow
  obtain ⟨aq, cq, rfl, -, -, -, -, hqq⟩ := hvq.open
  have hcl := hc row (List.mem_of_getElem? hrow)
  obtain ⟨bq, oq, rfl, -, hcellq⟩ := hqq (by intro e; rw [e] at hcl; simp at hcl)
  obtain ⟨z, hz⟩ : ∃ z, row[c]? = some z := ⟨_, List.getElem?_eq_getElem hcl⟩
  have g1 := hcell k p hp
  have g3 := hcellq c z hz
  have HP : Hid (pairL r (colL yss c) k = (p, z)) := pairL_at hp (by
    unfold colL
    rw [List.getElem?_map, hrow]
    show some (row.getD c 0) = some z
    rw [List.getD_eq_getElem?_getD, hz]; rfl)
  clear hr hy hcc hcm hcell hcell' hp hrow hvq hqq hcellq hz hc
  go_enter Tryz.func77, Tryz.ntmps77
  go_wp2_with fail
  try (go_quiet (fail); go_wp2_with fail)
  go_ret2
  exact ⟨by rw [HP.out]; rfl, by first | exact Ext.refl _ | exact Ext.drewN _ _ | exact Ext.draws (Ext.refl _) _ | exact Ext.drew _⟩

set_option maxRecDepth 100000 in
set_option maxHeartbeats 8000000 in
theorem tMul_any (xss yss : List (List Int)) (v vy : Value) (w : World) (h : Rows2 w v xss) (hy : Rows2 w vy yss) (ht : LibT w) :
    Calls Tryz.prog 39 #[v, vy] w fun e w' => ∃ u, e = .returned (.tuple #[u, .int .i64 (prodE xss yss)]) ∧ (prodE xss yss = 0 → Rows2 w' u (mulL xss yss)) ∧ (prodE xss yss ≠ 0 → u = .slice none 0 0) ∧ Ext w w' := by
  obtain ⟨PE, hPE⟩ : ∃ A, A = prodE xss yss := ⟨_, rfl⟩
  rw [← hPE]
  have HPE := Lib.hid hPE
  clear hPE
  have HH := Lib.hid h; have HY := Lib.hid hy; have HT := Lib.hid ht
  have HCX : Hid (∀ W, Ext w W → Calls Tryz.prog 41 #[v] W fun e w' => e = .returned (.int .i64 (tabE xss)) ∧ Ext W w') := fun W hW => tabCheck_any xss v W (h.ext hW)
  have HCY : Hid (∀ W, Ext w W → Calls Tryz.prog 41 #[vy] W fun e w' => e = .returned (.int .i64 (tabE yss)) ∧ Ext W w') := fun W hW => tabCheck_any yss vy W (hy.ext hW)
  have HCO : Hid (∀ W, Ext w W → Calls Tryz.prog 43 #[v] W fun e w' => e = .returned (.int .i64 (colsN xss : Int)) ∧ w' = W) := fun W hW => (columns_any xss v W (h.ext hW)).mono fun _ _ ⟨a, b⟩ => ⟨a, b.symm⟩
  have HCOY : Hid (∀ W, Ext w W → Calls Tryz.prog 43 #[vy] W fun e w' => e = .returned (.int .i64 (colsN yss : Int)) ∧ W = w') := fun W hW => columns_any yss vy W (hy.ext hW)
  obtain ⟨W1, hW1⟩ : ∃ W1, W1 = w.alloc (.cells #[vy] 23) := ⟨_, rfl⟩
  have hX1 : Ext w W1 := by rw [hW1]; exact Ext.alloc _ _
  have c1 : W1.cell? ⟨w.heap.size, 0, none⟩ = some vy := by rw [hW1, World.cell?_alloc_new]; rfl
  have HX1 := Lib.hid hX1
  have HC1 := Lib.hid c1
  have hW1' := hW1.symm
  obtain ⟨a, c, rfl, h1, h2, -, hc⟩ := inCell.open h
  obtain ⟨ay, cy, rfl, k1, k2, -, -⟩ := inCell.open hy
  have HC := Lib.hid hc
  unfold maxLen at h2 k2
  obtain ⟨EX, hEX⟩ : ∃ E, E = tabE xss := ⟨_, rfl⟩
  obtain ⟨EY, hEY⟩ : ∃ E, E = tabE yss := ⟨_, rfl⟩
  rw [← hEX] at HCX
  rw [← hEY] at HCY
  have HEX := Lib.hid hEX; have HEY := Lib.hid hEY
  clear h hy hc ht hX1 hW1 hEX hEY
  go_enter Tryz.func39, Tryz.ntmps39
  go_wp2_with fail
  clear c1 hW1'
  go_loopw [19] (fun t wr => ∃ i : Nat, i ≤ 2 ∧ t = .int .i64 i ∧ Hid (Ext W1 wr) ∧ Hid (1 ≤ i → EX = 0) ∧ Hid (2 ≤ i → EY = 0)) (fun t _ => 2 - (intOf t).toNat)
  case atStart => exact ⟨0, by omega, rfl, by first | exact Ext.refl _ | exact Ext.drew _, fun h => absurd h (by omega), fun h => absurd h (by omega)⟩
  case round =>
    obtain ⟨i, hi, rfl, HE, HI1, HI2⟩ := hrel
    obtain ⟨wo, rfl⟩ : ∃ wo : World, wo = wr := ⟨_, rfl⟩
    have HXO := Lib.hid (HX1.out.trans HE.out)
    have HIX0 : Hid (∀ W, (Instr.index 112 (.agg #[.slice a xss.length c, .slice ay yss.length cy]) (.int .i64 (0 : Int))).run Tryz.prog W = .ok (.slice a xss.length c) W) := by
      obtain ⟨inf, hinf⟩ := infoMat
      exact fun W => run_index_agg W _ _ _ 2 _ _ _ 0 _ inf Tryz.underlying112 Tryz.underlying23 hinf cellsMat rfl (by omega) rfl
    have HIX1 : Hid (∀ W, (Instr.index 112 (.agg #[.slice a xss.length c, .slice ay yss.length cy]) (.int .i64 (1 : Int))).run Tryz.prog W = .ok (.slice ay yss.length cy) W) := by
      obtain ⟨inf, hinf⟩ := infoMat
      exact fun W => run_index_agg W _ _ _ 2 _ _ _ 1 _ inf Tryz.underlying112 Tryz.underlying23 hinf cellsMat rfl (by omega) rfl
    rcases (by omega : i = 0 ∨ i = 1 ∨ i = 2) with rfl | rfl | rfl
    · have hix := HIX0.out wo
      rw [show ((0 : Nat) : Int) = 0 from rfl]
      by_cases h0 : EX = 0
      · subst h0
        go_wp2_with fail
        refine (HCX.out _ HXO.out).mono ?_
        rintro e w2 ⟨rfl, hE2⟩
        have HE2 := Lib.hid (HE.out.trans hE2)
        clear hE2
        go_wp2_with fail
        go_roundw
        case rel => exact ⟨1, by omega, by first | rfl | go_num, HE2.out, fun _ => by first | rfl | trivial, fun h => absurd h (by omega)⟩
        case measure => first | (simp [intOf]; done) | (simp [intOf]; omega)
      · have q : (EX != 0) = true := by simpa using h0
        have HR : Hid (PE = EX) := by
          unfold Hid; rw [HPE.out, HEX.out]; unfold prodE
          rw [if_neg (by rw [← HEX.out]; exact h0)]
        go_wp2_with fail
        refine (HCX.out _ HXO.out).mono ?_
        rintro e w2 ⟨rfl, hE2⟩
        have HE2 := Lib.hid (HXO.out.trans hE2)
        clear hE2
        go_wp2_with fail
        go_ret2
        have e := HR.out; subst e
        exact ⟨_, rfl, fun h => absurd h h0, fun _ => rfl, HE2.out⟩
    · have hix := HIX1.out wo
      rw [show ((1 : Nat) : Int) = 1 from rfl]
      have hx0 := HI1.out (by omega)
      by_cases h0 : EY = 0
      · subst h0
        go_wp2_with fail
        refine (HCY.out _ HXO.out).mono ?_
        rintro e w2 ⟨rfl, hE2⟩
        have HE2 := Lib.hid (HE.out.trans hE2)
        have HXX := Lib.hid hx0
        clear hE2 hx0
        go_wp2_with fail
        go_roundw
        case rel => exact ⟨2, by omega, by first | rfl | go_num, HE2.out, fun _ => HXX.out, fun _ => by first | rfl | trivial⟩
        case measure => first | (simp [intOf]; done) | (simp [intOf]; omega)
      · have q : (EY != 0) = true := by simpa using h0
        have HR : Hid (PE = EY) := by
          unfold Hid; rw [HPE.out, HEY.out]; unfold prodE
          rw [if_pos (by rw [← HEX.out]; exact hx0), if_neg (by rw [← HEY.out]; exact h0)]
        clear hx0
        go_wp2_with fail
        refine (HCY.out _ HXO.out).mono ?_
        rintro e w2 ⟨rfl, hE2⟩
        have HE2 := Lib.hid (HXO.out.trans hE2)
        clear hE2
        go_wp2_with fail
        go_ret2
        have e := HR.out; subst e
        exact ⟨_, rfl, fun h => absurd h h0, fun _ => rfl, HE2.out⟩
    · rw [show ((2 : Nat) : Int) = 2 from rfl]
      have hx0 : tabE xss = 0 := by rw [← HEX.out]; exact HI1.out (by omega)
      have hy0 : tabE yss = 0 := by rw [← HEY.out]; exact HI2.out (by omega)
      obtain ⟨hlx, hrx⟩ := tabE_zero hx0
      obtain ⟨hly, hry⟩ := tabE_zero hy0
      have HRX := Lib.hid hrx; have HRY := Lib.hid hry
      have c2 := HE.out.cell HC1.out
      have HX0 := Lib.hid hx0; have HY0 := Lib.hid hy0
      clear hx0 hy0 hrx hry
      by_cases hsz : colsN xss = yss.length
      · have q1 : ((colsN xss : Int) != (yss.length : Int)) = false := by rw [hsz]; simp
        have HSZ := Lib.hid hsz
        have HR : Hid (PE = if (mulL xss yss).all (fun r => r.all fitB) then 0 else 4) := by
          unfold Hid; rw [HPE.out]; unfold prodE; rw [if_pos HX0.out, if_pos HY0.out, if_pos hsz]
        obtain ⟨nx, hnx⟩ : ∃ n, n = colsN xss := ⟨_, rfl⟩
        obtain ⟨ny, hny⟩ : ∃ n, n = colsN yss := ⟨_, rfl⟩
        rw [← hnx] at q1 HCO
        rw [← hny] at HCOY
        have HNX := Lib.hid hnx; have HNY := Lib.hid hny
        have hny12 : ny ≤ 12 := by
          rw [hny]
          cases yss with
          | nil => show 0 ≤ 12; omega
          | cons r l => exact (HRY.out r (by simp)).2.1
        clear hsz hnx hny
        go_wp2_with fail
        go_quiet ((go_at_call 43; exact Calls.quiet_of_same (HCO.out _ (Ext.draws HXO.out _))))
        obtain ⟨wq, hwq⟩ : ∃ wq, wq = wo.drewN nq := ⟨_, rfl⟩
        rw [← hwq]
        have hEQ : Ext wo wq := by rw [hwq]; exact Ext.drewN _ _
        have HXQ := Lib.hid (Ext.trans HXO.out hEQ)
        have HCQ := Lib.hid (hEQ.cell c2)
        clear hwq hEQ c2
        go_wp2_with fail
        go_loopw [35, 9] (fun t o wr => ∃ i : Nat, i ≤ xss.length ∧ t = .int .i64 i ∧ Hid (Ext wq wr) ∧ Hid (Build wr wq.heap.size 51 1 o rowR ((mulL xss yss).take i)) ∧ Hid (((mulL xss yss).take i).all (fun r => r.all fitB) = true)) (fun t _ _ => xss.length - (intOf t).toNat)
        case atStart => exact ⟨0, by omega, rfl, Ext.refl _, Build.nil _ _ _ _ _, rfl⟩
        case round =>
          obtain ⟨i, hi, rfl, HEI, HBI, HAL⟩ := hrel
          obtain ⟨wi, rfl⟩ : ∃ wi : World, wi = wr := ⟨_, rfl⟩
          have HXI := Lib.hid (HXQ.out.trans HEI.out)
          by_cases hlt : i < xss.length
          · obtain ⟨b, off, rfl, hb, hcell⟩ := HC.out (by intro e; simp [e] at hlt)
            obtain ⟨r, hr⟩ : ∃ x, xss[i]? = some x := ⟨xss[i], List.getElem?_eq_getElem hlt⟩
            obtain ⟨vr, hvr, hcr⟩ := hcell i r hr
            have HRI := Lib.hid (hvr.ext HXI.out)
            obtain ⟨ar, cr, rfl, r1, r2, -, -, -⟩ := hvr.open
            obtain ⟨hrl, hr12, hrf⟩ := HRX.out r (List.mem_of_getElem? hr)
            have hrn : r.length = nx := by rw [hrl, HNX.out]
            rw [hrn] at hcr r1 HRI
            have g1 := HXI.out.cell hcr
            have HMT := Lib.hid (mulL_take (yss := yss) hr)
            have HRL := Lib.hid hrn
            have HRF : Hid (Fit9 r) := hrf
            have HRY2 : Hid (r.length = yss.length) := by unfold Hid; rw [hrl, HSZ.out]
            have hnx12 : nx ≤ 12 := by rw [← hrn]; omega
            obtain ⟨W2, hW2⟩ : ∃ W2, W2 = wi.alloc (.cells #[.slice none 0 0] 51) := ⟨_, rfl⟩
            have hEW : Ext wi W2 := by rw [hW2]; exact Ext.alloc _ _
            have hb2 : W2.heap[wi.heap.size]? = some (.cells #[.slice none 0 0] 51 (0, 0)) := by rw [hW2]; exact block_new _ _ _
            have d0 := block_cell hb2 0
            have f0 := block_free hb2 0
            simp only [List.getElem?_toArray, List.getElem?_cons_zero] at d0
            have hX4 : Ext wi (W2.setCell ⟨wi.heap.size, 0, none⟩ (.slice ar nx cr)) := ((hEW.grownS (· = wi.heap.size)).store (S := (· = wi.heap.size)) rfl 0 _).belowE (fun b e => by omega) (Nat.le_refl _)
            have hb4 := block_set hb2 0 (.slice ar nx cr)
            have d4 := block_cell hb4 0
            simp only [List.setIfInBounds_toArray, List.set_cons_zero, List.getElem?_toArray, List.getElem?_cons_zero] at d4
            have HX4 := Lib.hid hX4
            have HD4 := Lib.hid d4
            have hW2' := hW2.symm
            have hir : (i : Int) < (xss.length : Int) := by omega
            obtain ⟨W3, hW3⟩ : ∃ W3, W3 = W2.setCell ⟨wi.heap.size, 0, none⟩ (.slice ar nx cr) := ⟨_, rfl⟩
            rw [← hW3] at HX4 HD4
            have hW3' := hW3.symm
            have HE5 : Hid (Ext wi (W3.alloc (.cells #[] 3))) := HX4.out.trans (Ext.alloc _ _)
            have c5 : (W3.alloc (.cells #[] 3)).cell? ⟨w.heap.size, 0, none⟩ = some (.slice ay yss.length cy) := (HEI.out.trans HE5.out).cell HCQ.out
            have HB5 : Hid (Build (W3.alloc (.cells #[] 3)) W3.heap.size 3 1 (.slice (some ⟨W3.heap.size, 0, none⟩) 0 0) intR []) := Build.made W3 #[] 0 (Nat.le_refl _) (by unfold maxLen; omega) rfl
            have HCB5 := Lib.hid (HCOY.out _ (HXI.out.trans HE5.out))
            have HD5 : Hid ((W3.alloc (.cells #[] 3)).cell? ⟨wi.heap.size, 0, none⟩ = some (.slice ar nx cr)) := (Ext.alloc W3 _).cell HD4.out
            have HC5 := Lib.hid c5
            have HC3 : Hid (W3.cell? ⟨w.heap.size, 0, none⟩ = some (.slice ay yss.length cy)) := (HEI.out.trans HX4.out).cell HCQ.out
            unfold maxLen at r2
            clear hcell hr hvr hcr hrl hrf hEW hb2 hX4 hb4 d4 hW2 hrn hr12 hW3
            go_wp2_with fail
            simp only [hW3'] at *
            refine HCB5.out.mono ?_
            rintro e w5 ⟨rfl, rfl⟩
            obtain ⟨W5, hW5⟩ : ∃ W5, W5 = W3.alloc (.cells #[] 3) := ⟨_, rfl⟩
            rw [← hW5] at HE5 HB5 HD5 HC5 ⊢
            have HS35 : Hid (Ext W3 W5) := by unfold Hid; rw [hW5]; exact Ext.alloc _ _
            clear hW5 d0 f0 hW2' g1 c5 hW3' HCB5
            go_wp2_with fail
            go_loopw [42, 12] (fun t o wr => ∃ cc : Nat, cc ≤ ny ∧ t = .int .i64 cc ∧ Hid (Ext W3 wr) ∧ Hid (Build wr W3.heap.size 3 1 o intR ((mulRow r yss).take cc)) ∧ Hid (((mulRow r yss).take cc).all fitB = true)) (fun t _ _ => ny - (intOf t).toNat)
            case atStart => exact ⟨0, by omega, rfl, by first | exact HS35.out | exact HS35.out.trans (Ext.drew _), HB5.out, rfl⟩
            case round =>
              obtain ⟨cc, hcc, rfl, HEJ, HBJ, HAJ⟩ := hrel
              obtain ⟨wj, rfl⟩ : ∃ wj : World, wj = wr := ⟨_, rfl⟩
              have HXJ := Lib.hid (HXI.out.trans (HX4.out.trans HEJ.out))
              by_cases hcl : cc < ny
              · have HRT := Lib.hid (mulRow_take (r := r) (yss := yss) (c := cc) (by rw [← HNY.out]; exact hcl))
                have HCF : Hid (Fit9 (colL yss cc)) := colL_bd (fun q hq => (HRY.out q hq).2.2)
                have HCLN : Hid (∀ q ∈ yss, cc < q.length) := fun q hq => by rw [(HRY.out q hq).1, ← HNY.out]; exact hcl
                obtain ⟨W6, hW6⟩ : ∃ W6, W6 = wj.alloc (.cells #[.int .i64 0] 3) := ⟨_, rfl⟩
                have hEW : Ext wj W6 := by rw [hW6]; exact Ext.alloc _ _
                have hb6 : W6.heap[wj.heap.size]? = some (.cells #[.int .i64 0] 3 (0, 0)) := by rw [hW6]; exact block_new _ _ _
                have d6 := block_cell hb6 0
                have f6 := block_free hb6 0
                simp only [List.getElem?_toArray, List.getElem?_cons_zero] at d6
                have hX7 : Ext wj (W6.setCell ⟨wj.heap.size, 0, none⟩ (.int .i64 (cc : Int))) := ((hEW.grownS (· = wj.heap.size)).store (S := (· = wj.heap.size)) rfl 0 _).belowE (fun b e => by omega) (Nat.le_refl _)
                have hb7 := block_set hb6 0 (.int .i64 (cc : Int))
                have d7 := block_cell hb7 0
                simp only [List.setIfInBounds_toArray, List.set_cons_zero, List.getElem?_toArray, List.getElem?_cons_zero] at d7
                obtain ⟨W7, hW7⟩ : ∃ W7, W7 = W6.setCell ⟨wj.heap.size, 0, none⟩ (.int .i64 (cc : Int)) := ⟨_, rfl⟩
                rw [← hW7] at hX7 d7
                have HX7 := Lib.hid hX7
                have HD7 := Lib.hid d7
                have dr7 : W7.cell? ⟨wi.heap.size, 0, none⟩ = some (.slice ar nx cr) := (HEJ.out.trans hX7).cell HD4.out
                have HDR7 := Lib.hid dr7
                have HDB7 : Hid (W7.cell? ⟨w.heap.size, 0, none⟩ = some (.slice ay yss.length cy)) := (HEJ.out.trans hX7).cell HC3.out
                have HDOT : Hid (Calls Tryz.prog 72 #[.int .i64 (nx : Int), .func (.func 77) #[] #[.pointer (some ⟨wi.heap.size, 0, none⟩), .pointer (some ⟨w.heap.size, 0, none⟩), .pointer (some ⟨wj.heap.size, 0, none⟩)]] W7 fun e w' => e = .returned (.tuple #[.int .i64 (smV (dotN (pairL r (colL yss cc)) r.length)), .bool (fitB (dotN (pairL r (colL yss cc)) r.length))]) ∧ Ext W7 w') := by
                  have := dot_any nx 77 #[.pointer (some ⟨wi.heap.size, 0, none⟩), .pointer (some ⟨w.heap.size, 0, none⟩), .pointer (some ⟨wj.heap.size, 0, none⟩)] (pairL r (colL yss cc)) W7 (by omega) (fun k _ => pairL_bd HRF.out HCF.out k) (enters_of Tryz.func77 (by kernel_rfl) rfl)
                    (fun k W hk hW => mul1_any r yss k cc wi.heap.size w.heap.size wj.heap.size _ _ W (((HRI.out.ext HX4.out).ext (HEJ.out.trans HX7.out)).ext hW) (HY.out.ext (HXJ.out.trans (HX7.out.trans hW))) (by rw [HRL.out]; exact hk) (by rw [← HRY2.out, HRL.out]; exact hk) HCLN.out (hW.cell HDR7.out) (hW.cell HDB7.out) (hW.cell HD7.out))
                    (HT.out.ext (HXJ.out.trans HX7.out))
                  rw [HRL.out]
                  exact this
                have hW6' := hW6.symm
                have hW7' := hW7.symm
                have hcci : (cc : Int) < (ny : Int) := by omega
                clear hEW hb6 hX7 hb7 d7 hW6 hW7
                go_wp2_with fail
                try simp only [hW7']
                refine HDOT.out.mono ?_
                rintro e w8 ⟨rfl, hE8⟩
                have HX8 := Lib.hid (HX7.out.trans hE8)
                clear hE8 HDOT d6 f6 hW6' hW7' dr7
                obtain ⟨s, hs⟩ : ∃ s, s = dotN (pairL r (colL yss cc)) r.length := ⟨_, rfl⟩
                rw [← hs] at HRT ⊢
                cases hf : fitB s with
                | false =>
                  have HR4 : Hid (PE = 4) := by
                    unfold Hid
                    rw [HR.out, if_neg]
                    rw [Bool.not_eq_true, List.all_eq_false]
                    refine ⟨mulRow r yss, List.mem_of_mem_take (i := i + 1) (by rw [HMT.out]; simp), ?_⟩
                    rw [Bool.not_eq_true, List.all_eq_false]
                    exact ⟨s, List.mem_of_mem_take (i := cc + 1) (by rw [HRT.out]; simp), by rw [hf]; decide⟩
                  clear hf hs
                  go_wp2_with fail
                  go_ret2
                  have e := HR4.out; subst e
                  exact ⟨_, rfl, fun h => absurd h (by decide), fun _ => rfl, HXJ.out.trans HX8.out⟩
                | true =>
                  rw [smV_fit hf]
                  have HAL2 : Hid (((mulRow r yss).take (cc + 1)).all fitB = true) := by
                    unfold Hid; rw [HRT.out, List.all_append, HAJ.out, List.all_cons, hf]; rfl
                  have HB8 := Lib.hid (HBJ.out.ext HX8.out)
                  have HLL : Hid (((mulRow r yss).take cc).length < 1000000) := Nat.lt_of_le_of_lt (by rw [List.length_take]; exact Nat.min_le_left _ _) (show cc < 1000000 by omega)
                  have hs8 : W3.heap.size ≤ w8.heap.size := Nat.le_trans HEJ.out.size HX8.out.size
                  have hbd := (fitB_iff _).1 hf
                  have HBD : Hid (-9223372036854775808 ≤ s ∧ s ≤ 9223372036854775807) := by unfold Hid; omega
                  clear hf hbd hs
                  go_wp2_with (at_builtin; go_must (refine wpList_append_build _ rfl _ _ 51 rfl W3.heap.size 3 (.int .i64 0) 1 8 Tryz.underlying51 infoInt rfl (by decide) u12 intR ((mulRow r yss).take cc) s #[.int .i64 s] 3 rfl HB8.out rfl rfl ?_ (fun _ _ => ⟨rfl, HBD.out⟩) HLL.out (by decide) hs8 ?_))
                  all_goals first | (simp [Value.oneCell']; done) | skip
                  intro v' w9 hB9 hg9 hb9 hs9 _
                  rw [← HRT.out] at hB9
                  have HB9 := Lib.hid hB9
                  have HX9 : Hid (Ext W3 w9) := Below.trans (HEJ.out.trans HX8.out) hb9
                  clear hB9 hg9 hb9
                  go_wp2_with fail
                  go_roundw
                  case rel => exact ⟨cc + 1, by omega, by go_num, HX9.out, HB9.out, HAL2.out⟩
                  case measure => simp [intOf]; omega
              · obtain rfl : cc = ny := by omega
                have htk : (mulRow r yss).take cc = mulRow r yss := List.take_of_length_le (by rw [mulRow_len, ← HNY.out]; exact Nat.le_refl _)
                rw [htk] at HBJ HAJ
                have HLR : Hid ((mulRow r yss).length = cc) := by unfold Hid; rw [mulRow_len, HNY.out]
                obtain ⟨a5, c5, hu5, -⟩ := Ints.open HBJ.out.list
                rw [HLR.out] at hu5
                subst hu5
                have hs3 : wi.heap.size ≤ W3.heap.size := HX4.out.size
                have HOW : Hid (∀ k, u9.ownBlock = some k → k < W3.heap.size) := fun k hk => Nat.lt_of_lt_of_le (HBI.out.lt k hk).2 hs3
                have HBO := Lib.hid (HBI.out.ext (HX4.out.trans HEJ.out))
                have HSF := Lib.hid (HBJ.out.safe_ints (o := u9.ownBlock) HOW.out)
                have HLL : Hid (((mulL xss yss).take i).length < 1000000) := Nat.lt_of_le_of_lt (by rw [List.length_take]; exact Nat.min_le_left _ _) (show i < 1000000 by omega)
                have HAL2 : Hid (((mulL xss yss).take (i + 1)).all (fun r => r.all fitB) = true) := by
                  unfold Hid; rw [HMT.out, List.all_append, HAL.out, List.all_cons, HAJ.out]; rfl
                have HQJ := Lib.hid (HEI.out.trans (HX4.out.trans HEJ.out))
                have hs5 : wq.heap.size ≤ wj.heap.size := HQJ.out.size
                clear htk
                go_wp2_with (at_builtin; go_must (refine wpList_append_build _ rfl _ _ 23 rfl wq.heap.size 51 (.slice none 0 0) 1 24 Tryz.underlying23 infoRowT rfl (by decide) u9 rowR ((mulL xss yss).take i) (mulRow r yss) #[.slice a5 cc c5] 51 rfl HBO.out rfl rfl ?_ (HSF.out.mono fun w' hw => ⟨_, rfl, hw⟩) HLL.out (by decide) hs5 ?_))
                case refine_1 => simp [Value.oneCell']
                intro v' w9 hB9 hg9 hb9 hs9 _
                rw [← HMT.out] at hB9
                have HB9 := Lib.hid hB9
                have HX9 : Hid (Ext wq w9) := Below.trans HQJ.out hb9
                clear hB9 hg9 hb9
                go_wp2_with fail
                go_roundw
                case rel => exact ⟨i + 1, by omega, by go_num, HX9.out, HB9.out, HAL2.out⟩
                case measure => simp [intOf]; omega
          · obtain rfl : i = xss.length := by omega
            have htk : (mulL xss yss).take xss.length = mulL xss yss := List.take_of_length_le (by rw [mulL_len]; exact Nat.le_refl _)
            rw [htk] at HBI HAL
            have HR0 : Hid (PE = 0) := by unfold Hid; rw [HR.out, if_pos HAL.out]
            have HL := Lib.hid HBI.out.list
            clear htk
            go_wp2_with fail
            go_ret2
            have e := HR0.out; subst e
            exact ⟨u9, rfl, fun _ => HL.out, fun h => absurd rfl h, HXI.out⟩
      · have q1 : ((colsN xss : Int) != (yss.length : Int)) = true := by simp; omega
        have HR : Hid (PE = 5) := by
          unfold Hid; rw [HPE.out]; unfold prodE; rw [if_pos HX0.out, if_pos HY0.out, if_neg hsz]
        obtain ⟨nx, hnx⟩ : ∃ n, n = colsN xss := ⟨_, rfl⟩
        rw [← hnx] at q1 HCO
        clear hsz hnx
        go_wp2_with fail
        go_quiet ((go_at_call 43; exact Calls.quiet_of_same (HCO.out _ (Ext.draws HXO.out _))))
        obtain ⟨wq, hwq⟩ : ∃ wq, wq = wo.drewN nq := ⟨_, rfl⟩
        rw [← hwq]
        have hEQ : Ext wo wq := by rw [hwq]; exact Ext.drewN _ _
        have HXQ := Lib.hid (Ext.trans HXO.out hEQ)
        clear hwq hEQ c2
        go_wp2_with fail
        go_ret2
        have e := HR.out; subst e
        exact ⟨_, rfl, fun h => absurd h (by decide), fun _ => rfl, HXQ.out⟩
end Go.Proofs.YtpeinobepiodaaaGreatDoor
