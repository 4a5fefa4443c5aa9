/- Merged: LShort, LatErr, Behind. -/
import Derived.Test.YtjihfabhgcfjnaaGreatDoorUAY
import Derived.Test.YtjihfabhgcfjnaaGreatDoorUAW
/- Contract: longs.short: a matrix of integers of any size as a lattice. -/
namespace Go.Proofs.YtjihfabhgcfjnaaGreatDoor
set_option linter.unusedVariables false
set_option linter.unusedSimpArgs false
open Go.RowKit

def rowC (w : World) (u : List Value) (x : List Int) : Prop := ∃ v, u = [v] ∧ Ints w v x
theorem results_rowtmp {P : Program} {fn : Func} {p u : Tmp} {ty : TypeId} (h : fn.results = #[.cell p ty, .tmp u]) (tmps : Array Value) (w : World) (g : Nat) (t : TypeId) (cs : Array Value) (fr : Nat × Nat) (d : TypeDesc)
    (hp : tmps.getD p undef = .pointer (some ⟨g, 0, none⟩)) (hg : w.heap[g]? = some (.cells cs t fr))
    (hu : P.underlying ty = some d) (hd : (match d with | .struct _ | .array _ _ => true | _ => false) = true) (hi : (P.info? ty).map (·.size) = some cs.size) :
    (results fn tmps).run P w = .ok (.tuple #[.agg cs, tmps.getD u undef]) w := by
  rw [results_cell_tmp h, hp]
  simp [asAddr, run_loadVar_row w g t ty cs fr d hg hu hd hi, Result.andThen]

/-- What short of a matrix ends in. -/
def LsR (cols : Nat) (m : List (List Int)) (w : World) (e : Ending) (w' : World) : Prop :=
  (if (m.all fun r => r.all fit9B) = true then ∃ v, e = .returned (.tuple #[.agg #[.int .i64 cols, v], .int .i64 0]) ∧ SafeS w' (· < w.heap.size) (fun W => Rows2 W v m) else e = .returned (.tuple #[.agg #[.int .i64 0, .slice none 0 0], .int .i64 4])) ∧ Ext w w'

set_option maxRecDepth 100000 in
set_option maxHeartbeats 2000000 in
theorem lshort_any (cols : Nat) (m : List (List Int)) (ad : Option Addr) (cap : Nat) (w : World) (hM : m = [] ∨ ∃ g0 tags, ad = some ⟨g0, 0, none⟩ ∧ MatB w g0 tags m) (hsm : ∀ r ∈ m, r.all smB = true) (hl : ∀ r ∈ m, r.length ≤ 1000)
    (hcap : m.length ≤ cap) (hcap2 : cap ≤ maxLen) (hm : m.length ≤ 1000) (hc : cols ≤ 1000) (hlib : LibT w) :
    Calls Tryz.prog 91 #[.slice ad m.length cap, .int .i64 cols] w (LsR cols m w) := by
  have HM := Lib.hid hM; have HSM := Lib.hid hsm; have HLE := Lib.hid hl; have HLIB := Lib.hid hlib
  unfold maxLen at hcap2
  clear hM hsm hl hlib
  go_enter Tryz.func91, Tryz.ntmps91
  go_wp2_with fail
  have hE0 : Ext w ((w.alloc (Obj.cells #[Value.int IntKind.i64 0, Value.slice none 0 0] 31)).alloc (Obj.cells #[Value.int IntKind.i64 cols, Value.slice none 0 0] 31)) := (Ext.alloc _ _).trans (Ext.alloc _ _)
  have hbk0 := block_new (w.alloc (Obj.cells #[Value.int IntKind.i64 0, Value.slice none 0 0] 31)) #[Value.int IntKind.i64 cols, Value.slice none 0 0] 31
  have hbk1 := block_ext (block_new w #[Value.int IntKind.i64 0, Value.slice none 0 0] 31) (Ext.alloc (w.alloc (Obj.cells #[Value.int IntKind.i64 0, Value.slice none 0 0] 31)) (Obj.cells #[Value.int IntKind.i64 cols, Value.slice none 0 0] 31))
  have hsz0 : ((w.alloc (Obj.cells #[Value.int IntKind.i64 0, Value.slice none 0 0] 31)).alloc (Obj.cells #[Value.int IntKind.i64 cols, Value.slice none 0 0] 31)).heap.size = w.heap.size + 2 := by simp
  rw [show (w.alloc (Obj.cells #[Value.int IntKind.i64 0, Value.slice none 0 0] 31)).heap.size = w.heap.size + 1 by simp] at hbk0
  generalize ((w.alloc (Obj.cells #[Value.int IntKind.i64 0, Value.slice none 0 0] 31)).alloc (Obj.cells #[Value.int IntKind.i64 cols, Value.slice none 0 0] 31)) = W0 at *
  have HB0 := Lib.hid hbk0; have HB1 := Lib.hid hbk1
  go_loopw [15] (fun t wr => ∃ (j : Nat) (S : Nat → Prop) (v : Value), j ≤ m.length ∧ t = .int .i64 j ∧ Ext w wr ∧ Hid (SOk S 0 wr) ∧ Hid (∀ b, b < w.heap.size + 2 → S b) ∧ Hid (BuildS wr S (w.heap.size + 2) 37 1 v rowC (m.take j)) ∧ Hid (wr.heap[w.heap.size + 1]? = some (.cells #[.int .i64 cols, v] 31 (0, 0))) ∧ Hid (wr.heap[w.heap.size]? = some (.cells #[.int .i64 0, .slice none 0 0] 31 (0, 0))) ∧ Hid ((m.take j).all (fun r => r.all fit9B) = true)) (fun t _ => m.length - (intOf t).toNat)
  case atStart => exact ⟨0, fun b => b < w.heap.size + 2, _, by omega, rfl, hE0, fun b hb => by rw [hsz0]; exact ⟨Nat.zero_le _, hb⟩, fun b hb => hb, BuildS.nil _ _ _ _ _ _, HB0.out, HB1.out, rfl⟩
  case round =>
    obtain ⟨j, S, v, hj, rfl, hE, HOK, HSB, HBu, HK, HK1, HFT⟩ := hrel
    obtain ⟨wo, rfl⟩ : ∃ wo : World, wo = wr := ⟨_, rfl⟩
    have HE := Lib.hid hE
    by_cases hlt : j < m.length
    · obtain ⟨g0, tags, rfl, hMM⟩ : ∃ g0 tags, ad = some ⟨g0, 0, none⟩ ∧ MatB w g0 tags m := by
        rcases HM.out with h0 | h0
        · rw [h0] at hlt; simp at hlt
        · exact h0
      obtain ⟨t, htj, c1, c2, c3, c4, c5⟩ := (hMM.ext hE).get j hlt
      clear hMM
      have hmem : rowE_ m j ∈ m := List.mem_of_getElem? (rowE_get hlt)
      have HSH := Lib.hid (short_any (rowE_ m j) t.1 t.2.1 t.2.2 wo c4 c2 c3 (HLE.out _ hmem) (HSM.out _ hmem) (HLIB.out.ext HE.out))
      have HN : Hid (m.take (j + 1) = m.take j ++ [rowE_ m j]) := by unfold Hid; rw [List.take_add_one, rowE_get hlt]; rfl
      have HJ : Hid ((m.take j).length < 1000000) := by unfold Hid; rw [List.length_take]; omega
      have HME := Lib.hid hmem
      obtain ⟨xr, hxr⟩ : ∃ xr, rowE_ m j = xr := ⟨_, rfl⟩
      rw [hxr] at c1 HSH HN HME
      unfold maxLen at c3
      clear htj c2 c4 c5 hxr hE hmem
      by_cases hf : xr.all fit9B = true
      · go_wp2_with fail
        refine HSH.out.mono ?_
        rintro e w2 hsr
        unfold ShortR at hsr
        rw [if_pos hf] at hsr
        obtain ⟨ar, cr, rfl, hI, hO, hE2⟩ := hsr
        have HSF : Hid (SafeS w2 S fun w => rowC w [.slice ar xr.length cr] xr) := (SafeS.owns hO (fun k hk hs => by have := (hO.lt k hk).1; have := (HOK.out k hs).2; omega)).mono (fun w h => ⟨_, rfl, Ints.of_owns h (fun x hx => by have := (fit9B_iff x).1 (List.all_eq_true.1 hf x hx); omega)⟩)
        have HB2 := Lib.hid (HBu.out.ext hE2)
        have HK2 := Lib.hid (block_ext HK.out hE2)
        have HK12 := Lib.hid (block_ext HK1.out hE2)
        have HOK2 := Lib.hid (HOK.out.grow hE2.size)
        have HE2 := Lib.hid (Ext.trans HE.out hE2)
        have g1 := block_cell HK2.out 1
        have g2 := block_free HK2.out 1
        simp only [List.getElem?_toArray, List.getElem?_cons_zero, List.getElem?_cons_succ] at g1
        clear hI hO hE2 HSH HBu HK HK1 HOK
        have hs2 : w.heap.size + 2 ≤ w2.heap.size := by have := block_lt HK2.out; omega
        go_wp2_with (at_builtin; go_must (refine wpList_append_buildS _ rfl _ _ 29 rfl S (w.heap.size + 2) 37 (.slice none 0 0) 1 24 Tryz.underlying29 infoRow rfl (by decide) v rowC (m.take j) xr #[.slice ar xr.length cr] 37 rfl HB2.out _ rfl rfl rfl ?a1 HSF.out HJ.out (by decide) hs2 0 (Nat.zero_le _) HOK2.out ?_))
        case a1 => simp [Value.oneCell']
        intro v' w5 S5 hok5 hS1 hS2 hB5 hg5 hb5 hs5 hsafe
        obtain ⟨gv, cv, rfl, -, -, -, -⟩ := hB5.shape (by simp)
        have hk5 := block_grown HK2.out hg5 (HB2.out.neBlock HK2.out (by decide))
        have HK15 := Lib.hid ((hb5.block w.heap.size (by omega)).trans HK12.out)
        have g15 := block_cell hk5 1
        have g25 := block_free hk5 1
        simp only [List.getElem?_toArray, List.getElem?_cons_zero, List.getElem?_cons_succ] at g15
        have HK5 := Lib.hid hk5
        have HX5 := Lib.hid (Below.trans HE2.out (Below.mono hb5 (by omega)))
        have HOK5 := Lib.hid hok5
        have HSB5 : Hid (∀ b, b < w.heap.size + 2 → S5 b) := fun b hb => hS1 _ (HSB.out b hb)
        rw [← HN.out, show (m.take (j + 1)).length = j + 1 by rw [List.length_take]; omega] at hB5
        have HB5 := Lib.hid hB5
        clear hok5 hS1 hS2 hB5 hsafe hk5 g1 g2
        go_wp2_with fail
        go_roundw
        case rel => exact ⟨j + 1, S5, .slice (some ⟨gv, 0, none⟩) (j + 1) cv, by omega, by go_num, HX5.out.setCell (p := ⟨w.heap.size + 1, 1, none⟩) (by simp) _, HOK5.out.grow (by simp [World.setCell]), HSB5.out, HB5.out.store (HSB5.out _ (by omega)) (HB5.out.neBlock HK5.out (by decide)), block_set HK5.out 1 _, (setCell_heap_other _ _ _ _ _ (by omega)).trans HK15.out, by unfold Hid; rw [HN.out, List.all_append, HFT.out]; simp [hf]⟩
        case measure => simp [intOf]; omega
      · have HA : Hid (¬ (m.all fun r => r.all fit9B) = true) := fun h => hf (List.all_eq_true.1 h xr HME.out)
        have q0 := block_cell HK1.out 0; have q1 := block_cell HK1.out 1
        have q2 := block_free HK1.out 0; have q3 := block_free HK1.out 1
        simp only [List.getElem?_toArray, List.getElem?_cons_zero, List.getElem?_cons_succ] at q0 q1
        go_wp2_with fail
        refine HSH.out.mono ?_
        rintro e w2 hsr
        unfold ShortR at hsr
        rw [if_neg hf] at hsr
        obtain ⟨rfl, hE2⟩ := hsr
        have hk2 := block_ext HK1.out hE2
        have q0 := block_cell hk2 0; have q1 := block_cell hk2 1
        have q2 := block_free hk2 0; have q3 := block_free hk2 1
        simp only [List.getElem?_toArray, List.getElem?_cons_zero, List.getElem?_cons_succ] at q0 q1
        have HE2 := Lib.hid (Ext.trans HE.out hE2)
        clear hE2 HSH
        go_wp2_with fail
        have hkA := block_set (block_set hk2 0 (.int .i64 0)) 1 (.slice none 0 0)
        have r0 := block_cell hkA 0; have r1 := block_cell hkA 1
        simp only [List.getElem?_toArray, List.getElem?_cons_zero, List.getElem?_cons_succ, List.setIfInBounds_toArray, List.set_cons_zero, List.set_cons_succ] at r0 r1
        have HX2 : Hid (Ext w ((w2.setCell ⟨w.heap.size, 0, none⟩ (.int .i64 0)).setCell ⟨w.heap.size, 1, none⟩ (.slice none 0 0))) := (HE2.out.setCell (p := ⟨w.heap.size, 0, none⟩) (by simp) _).setCell (p := ⟨w.heap.size, 1, none⟩) (by simp) _
        refine bodyPost_ret (results_rowtmp (by rfl) _ _ w.heap.size 31 #[.int .i64 0, .slice none 0 0] (0, 0) _ (by rfl) hkA Tryz.underlying31 (by rfl) (by kernel_rfl)) (by rfl) ?_
        unfold LsR
        rw [if_neg HA.out]
        exact ⟨rfl, HX2.out⟩
    · obtain rfl : j = m.length := by omega
      obtain ⟨av, nv, cv, rfl⟩ : ∃ a n c, v = .slice a n c := by
        obtain ⟨_, us, _, _, h3, _⟩ := HBu.out
        rcases h3.2 with ⟨hv, _⟩ | ⟨g, c, _, hv, _⟩
        · exact ⟨_, _, _, hv⟩
        · exact ⟨_, _, _, hv⟩
      have q0 := block_cell HK1.out 0; have q1 := block_cell HK1.out 1
      have q2 := block_free HK1.out 0; have q3 := block_free HK1.out 1
      have o0 := block_cell HK.out 0; have o1 := block_cell HK.out 1
      simp only [List.getElem?_toArray, List.getElem?_cons_zero, List.getElem?_cons_succ] at q0 q1 o0 o1
      clear hE
      go_wp2_with fail
      have hkA := block_set (block_set HK1.out 0 (.int .i64 cols)) 1 (.slice av nv cv)
      simp only [List.setIfInBounds_toArray, List.set_cons_zero, List.set_cons_succ] at hkA
      refine bodyPost_ret (results_rowtmp (by rfl) _ _ w.heap.size 31 #[.int .i64 cols, .slice av nv cv] (0, 0) _ (by rfl) hkA Tryz.underlying31 (by rfl) (by kernel_rfl)) (by rfl) ?_
      have hF := HFT.out
      have hB := HBu.out
      rw [List.take_length] at hF hB
      unfold LsR
      rw [if_pos hF]
      refine ⟨⟨_, rfl, ?_⟩, (HE.out.setCell (p := ⟨w.heap.size, 0, none⟩) (by simp) _).setCell (p := ⟨w.heap.size, 1, none⟩) (by simp) _⟩
      have hne := hB.neBlock HK1.out (by decide)
      exact ((hB.store (i := 0) (x := .int .i64 cols) (HSB.out _ (by omega)) hne).store (i := 1) (x := .slice av nv cv) (HSB.out _ (by omega)) hne).keeps fun b hb => ⟨HSB.out b (by omega), by omega⟩
end Go.Proofs.YtjihfabhgcfjnaaGreatDoor
/- What the functions of package lattice return where their arguments are wrong. Printed by gen/laterr.py. -/
namespace Go.Proofs.YtjihfabhgcfjnaaGreatDoor
set_option linter.unusedVariables false
set_option linter.unusedSimpArgs false
open Go.RowKit

end Go.Proofs.YtjihfabhgcfjnaaGreatDoor
/- The rows of a matrix that begin with zeros, cut: the loop of behind (its rows, before they are brought into normal form). -/
namespace Go.Proofs.YtjihfabhgcfjnaaGreatDoor
set_option linter.unusedVariables false
set_option linter.unusedSimpArgs false
open Go.RowKit

theorem MatB.take {w : World} {g0 : Nat} {tags : List (Nat × Nat × Nat)} {m : List (List Int)} (h : MatB w g0 tags m) (d : Nat) : MatB w g0 (tags.take d) (m.take d) := by
  refine ⟨by rw [List.length_take, List.length_take, h.len], h.lt, h.free, fun i t r ht hr => ?_, ?_⟩
  · have hi : i < d := by
      have := (List.getElem?_eq_some_iff.1 ht).1
      rw [List.length_take] at this; omega
    rw [List.getElem?_take_of_lt hi] at ht hr
    exact h.row i t r ht hr
  · have hn := List.nodup_cons.1 h.nodup
    rw [List.nodup_cons]
    have hs : ((tags.take d).map (·.1)).Sublist (tags.map (·.1)) := (List.take_sublist d tags).map _
    exact ⟨fun hm => hn.1 (hs.subset hm), hn.2.sublist hs⟩
/-- A row without its first cells. -/
theorem RowB.drop {w : World} {g o : Nat} {xs : List Int} (h : RowB w g o xs) (k : Nat) : RowB w g (o + k) (xs.drop k) :=
  ⟨h.lt, fun j x hx => by
    rw [List.getElem?_drop] at hx
    rw [Nat.add_assoc]; exact h.cell (k + j) x hx, h.free⟩
def cutT (k : Nat) (t : Nat × Nat × Nat) : Nat × Nat × Nat := (t.1, t.2.1 + k, t.2.2 - k)
theorem behindL_snoc (k : Nat) (m : List (List Int)) (r : List Int) : behindL k (m ++ [r]) = behindL k m ++ (if (k : Int) ≤ leadL r then [r.drop k] else []) := by
  unfold behindL
  rw [List.filter_append, List.map_append]
  congr 1
  by_cases h : (k : Int) ≤ leadL r <;> simp [h]
end Go.Proofs.YtjihfabhgcfjnaaGreatDoor
