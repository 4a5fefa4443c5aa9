/- Merged: RankA. -/
import Derived.Test.YtpeinobepiodaaaGreatDoorGY
import Derived.Laws.AppendOwnNone
/- Rank at any table, without columns too. -/
namespace Go.Proofs.YtpeinobepiodaaaGreatDoor
set_option linter.unusedVariables false
set_option linter.unusedSimpArgs false
open Go.RowKit

def anyR0 (_ : World) (_ : List Value) (_ : Unit) : Prop := True
set_option maxRecDepth 100000 in
set_option maxHeartbeats 2000000 in
theorem rows0_any (xss : List (List Int)) (v : Value) (w : World) (h : Rows2 w v xss) (hl : xss.length ≤ 1000) (hr : ∀ r ∈ xss, r.length = 0) :
    Calls Tryz.prog 52 #[v, .func (.func 53) #[] #[]] w fun e w' => ∃ u, e = .returned u ∧ (∃ a n c, u = .slice a n c) ∧ Ext w w' := by
  obtain ⟨a, c, rfl, h1, h2, -, hc⟩ := inCell.open h
  have HC := Lib.hid hc; have HR := Lib.hid hr
  obtain ⟨i0, hi, hz0, hz1, hz2⟩ := info_parts infoRat
  have HI := Lib.hid hi
  have eg : ∀ args w, (callFunc 53 args).run Tryz.prog w = .ok (.enter 53 args) w := enters_of Tryz.func53 (by kernel_rfl) rfl
  unfold maxLen at h2
  clear h hc hr hi hz0 hz1 hz2
  go_enter Tryz.func52, Tryz.ntmps52
  go_wp2_with fail
  go_loopw [13, 5] (fun t v wr => ∃ (i : Nat), i ≤ xss.length ∧ t = .int .i64 i ∧ Ext w wr ∧ Hid (Build wr w.heap.size 39 1 v anyR0 (List.replicate i ()))) (fun t _ _ => xss.length - (intOf t).toNat)
  case atStart => exact ⟨0, by omega, rfl, Ext.refl _, Build.nil _ _ _ _ _⟩
  case round =>
    obtain ⟨i, hin, rfl, hE, HB⟩ := hrel
    obtain ⟨wo, rfl⟩ : ∃ wo : World, wo = wr := ⟨_, rfl⟩
    have HE := Lib.hid hE
    by_cases hlt : i < xss.length
    · obtain ⟨b, off, rfl, hb, hcell⟩ := HC.out (by intro e; simp [e] at hlt)
      obtain ⟨r, hx⟩ : ∃ x, xss[i]? = some x := ⟨xss[i], List.getElem?_eq_getElem hlt⟩
      obtain ⟨vx, hvx, hcx⟩ := hcell i r hx
      obtain ⟨ax, cx, rfl, -⟩ := Ints.open hvx
      have hr0 : r.length = 0 := HR.out r (List.mem_of_getElem? hx)
      rw [hr0] at hcx
      have g1 := hE.cell hcx
      have HST : Hid (List.replicate (i + 1) () = List.replicate i () ++ [()]) := List.replicate_succ'
      have HLL : Hid ((List.replicate i ()).length < 1000000) := by unfold Hid; rw [List.length_replicate]; omega
      have hs5 : w.heap.size ≤ wo.heap.size := hE.size
      clear hcell hx hvx hcx hr0
      go_wp2_with fail
      go_loopw [20, 8] (fun t v wr => t = .int .i64 0 ∧ v = .slice none 0 0 ∧ Hid (Ext wo wr)) (fun _ _ _ => 0)
      case atStart => exact ⟨rfl, rfl, by first | exact Ext.refl _ | exact Ext.drew _⟩
      case round =>
        obtain ⟨rfl, rfl, HEI⟩ := hrel
        obtain ⟨wi, rfl⟩ : ∃ wi : World, wi = wr := ⟨_, rfl⟩
        have HBI := Lib.hid (HB.out.ext HEI.out)
        have hsi : w.heap.size ≤ wi.heap.size := Nat.le_trans hs5 HEI.out.size
        have HNO := Lib.hid (nothing_any (i : Int) wi)
        go_wp2_with fail
        refine HNO.out.mono ?_
        rintro e w1 ⟨rfl, rfl⟩
        go_wp2_with (at_builtin; first | (refine wpList_append_own_none rfl _ _ 39 rfl wi.heap.size 81 i0 2 Tryz.underlying39 HI.out (.slice none 0 0) 0 [] rfl (World.ownsRow_nil wi wi.heap.size 81 2) rfl ?_) | (refine wpList_append_build _ rfl _ _ 30 rfl w.heap.size 39 (.slice none 0 0) 1 24 Tryz.underlying30 infoRats rfl (by decide) u5 anyR0 (List.replicate i ()) () #[.slice none 0 0] 39 rfl HBI.out rfl rfl ?_ (fun _ _ => trivial) HLL.out (by decide) hsi ?_))
        all_goals first | (simp [Value.oneCell']; done) | skip
        intro v' w6 hB6 hg6 hb6 hs6 _
        rw [← HST.out] at hB6
        have HB6 := Lib.hid hB6
        have HX6 : Hid (Ext w w6) := Below.trans (HE.out.trans HEI.out) hb6
        clear hB6 hg6 hb6
        go_wp2_with fail
        go_roundw
        case rel => exact ⟨i + 1, by omega, by go_num, HX6.out, HB6.out⟩
        case measure => simp [intOf]; omega
    · obtain rfl : i = xss.length := by omega
      obtain ⟨a5, c5, h5, -⟩ := ListAt.open HB.out.list
      go_wp2_with fail
      go_ret
      exact ⟨_, rfl, ⟨_, _, _, h5⟩, HE.out⟩
set_option maxRecDepth 100000 in
set_option maxHeartbeats 2000000 in
theorem rank0_any (xss : List (List Int)) (v : Value) (w : World) (h : Rows2 w v xss) (hE : tabE xss = 0) (h0 : colsN xss = 0) :
    Calls Tryz.prog 35 #[v] w fun e w' => e = .returned (.tuple #[.int .i64 0, .int .i64 0]) ∧ Ext w w' := by
  obtain ⟨hl, hrr⟩ := tabE_zero hE
  have HCH := Lib.hid (tabCheck_any xss v w h)
  rw [hE] at HCH
  have HCO : Hid (∀ W, Ext w W → Calls Tryz.prog 43 #[v] W fun e w' => e = .returned (.int .i64 0) ∧ W = w') := fun W hW => by have := columns_any xss v W (h.ext hW); rw [h0] at this; exact this
  have HRO : Hid (∀ W, Ext w W → Calls Tryz.prog 52 #[v, .func (.func 53) #[] #[]] W fun e w' => ∃ u, e = .returned u ∧ (∃ a n c, u = .slice a n c) ∧ Ext W w') := fun W hW => rows0_any xss v W (h.ext hW) (by omega) fun r hr => by rw [(hrr r hr).1, h0]
  clear h hE hrr hl h0
  go_enter Tryz.func35, Tryz.ntmps35
  go_wp2_with fail
  refine HCH.out.mono ?_
  rintro e w1 ⟨rfl, hE1⟩
  have HE1 := Lib.hid hE1
  clear hE1
  go_wp2_with fail
  refine (HRO.out _ HE1.out).mono ?_
  rintro e w3 ⟨u, rfl, ⟨a, n, c, rfl⟩, hE3⟩
  have HE3 := Lib.hid (HE1.out.trans hE3)
  clear hE3
  go_wp2_with fail
  refine (HCO.out _ HE3.out).mono ?_
  rintro e w2 ⟨rfl, rfl⟩
  go_wp2_with fail
  refine (reduce_zero _ _ ⟨_, _, _, rfl⟩).mono ?_
  rintro e w4 ⟨rfl, hE4⟩
  have HX := Lib.hid (HE3.out.trans hE4)
  rw [ratV_one]
  obtain ⟨W5, hW5, hE5, hs5, hb5⟩ := box2 w4 (.string ⟨#[]⟩) (.string ⟨#[]⟩) 81
  obtain ⟨r0, r1, rf⟩ := block2_cell hb5
  have f0 := rf 0
  have f1 := rf 1
  have HX5 : Hid (Ext w ((W5.setCell ⟨w4.heap.size, 0, none⟩ (.string ⟨#[49]⟩)).setCell ⟨w4.heap.size, 1, none⟩ (.string ⟨#[49]⟩))) := ext_set2 (HX.out.trans hE5) HX.out.size
  clear hE4 rf hb5 hE5 hs5
  go_wp2_with fail
  go_ret2
  exact ⟨rfl, HX5.out⟩
set_option maxRecDepth 100000 in
/-- Rank at any table. -/
theorem rankA_any (xss : List (List Int)) (v : Value) (w : World) (h : Rows2 w v xss) (hE : tabE xss = 0) (ht : Pow10 w) :
    Calls Tryz.prog 35 #[v] w fun e w' => e = .returned (.tuple #[.int .i64 (rankI xss : Int), .int .i64 0]) ∧ Ext w w' := by
  by_cases h0 : colsN xss = 0
  · rw [show rankI xss = 0 by unfold rankI; rw [h0]; rfl]
    exact rank0_any xss v w h hE h0
  · exact rank_any xss v w h hE (fun r hr => by rw [((tabE_zero hE).2 r hr).1]; omega) ht
end Go.Proofs.YtpeinobepiodaaaGreatDoor
