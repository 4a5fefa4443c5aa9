/- Contracts of the reference of chapter 05: Dot. -/
import Derived.Test.YtobgghjmclagaaaDoorRefB
import Derived.Test.YtobgghjmclagaaaDoorDot
import Derived.Deep.CutRange
import Derived.Deep.RegionWith
namespace Go.Proofs.YtobgghjmclagaaaDoor
set_option linter.unusedVariables false
set_option linter.unusedSimpArgs false
open Go.RowKit

theorem zip_take (xs ys : List Int) (j : Nat) (x y : Int) (hx : xs[j]? = some x) (hy : ys[j]? = some y) : (List.zipWith (· * ·) xs ys).take (j + 1) = (List.zipWith (· * ·) xs ys).take j ++ [x * y] := by
  rw [List.take_add_one, List.getElem?_zipWith, hx, hy]; rfl

set_option maxRecDepth 100000 in
set_option maxHeartbeats 2000000 in
theorem refDot_any (xs ys : List Int) (u v : Value) (w : World) (h : Ints w u xs) (k : Ints w v ys) (ox : okRow xs) (oy : okRow ys) (hl : xs.length = ys.length) :
    Calls Tryd.prog 40 #[u, v] w fun e w' => ∃ x : Int, e = .returned (.tuple #[.int .i64 x, .bool (fitB (dotS xs ys))]) ∧ (fitB (dotS xs ys) = true → x = dotS xs ys) ∧ Ext w w' := by
  obtain ⟨a, ca, rfl, hca, hca2, -, -, hxc⟩ := h.open
  obtain ⟨b, cb, rfl, hcb, hcb2, -, -, hyc⟩ := k.open
  have HX := Lib.hid hxc; have HY := Lib.hid hyc
  have HOX := Lib.hid ox.2; have HOY := Lib.hid oy.2
  have h64 := ox.1
  unfold maxLen at hca2 hcb2
  rw [← hl] at hcb
  rw [← hl]
  have HL := Lib.hid hl
  have HIF := Lib.hid (show (Tryd.prog.info? 83).map (·.size) = some 2 by kernel_rfl)
  clear h k hxc hyc ox oy hl
  go_enter Tryd.func40, Tryd.ntmps40
  go_wp2_with fail
  go_loopw [7] (fun t wr => ∃ (j : Nat) (hh ll : Int), j ≤ xs.length ∧ t = .int .i64 j ∧ Ext w wr ∧ Hid (wr.heap[w.heap.size]? = some (.cells #[.int .i64 hh, .int .i64 ll] 83 (0, 0))) ∧
    Hid (hh * 1000000000 + ll = sumI ((List.zipWith (· * ·) xs ys).take j)) ∧ Hid (-1000000000 * (j : Int) ≤ hh ∧ hh ≤ 1000000000 * (j : Int) ∧ -1000000000 * (j : Int) ≤ ll ∧ ll ≤ 1000000000 * (j : Int))) (fun t _ => xs.length - (intOf t).toNat)
  case atStart => exact ⟨0, 0, 0, by omega, rfl, Ext.alloc _ _, heap_alloc_new _ _, by unfold Hid; simp [sumI], by unfold Hid; omega⟩
  case round =>
    obtain ⟨j, hh, ll, hj, rfl, hE, HB, HS, HBD⟩ := hrel
    have c0 := block_cell HB.out 0; have c1 := block_cell HB.out 1
    have f0 := block_free HB.out 0; have f1 := block_free HB.out 1
    simp only [List.getElem?_toArray, List.getElem?_cons_zero, List.getElem?_cons_succ] at c0 c1
    by_cases hlt : j < xs.length
    · obtain ⟨bx, ox, rfl, hbx, hcx⟩ := HX.out (by intro e; simp [e] at hlt)
      obtain ⟨by', oy, rfl, hby, hcy⟩ := HY.out (by intro e; have h := HL.out; rw [e, List.length_nil] at h; omega)
      obtain ⟨x, hx⟩ : ∃ x, xs[j]? = some x := ⟨xs[j], List.getElem?_eq_getElem hlt⟩
      obtain ⟨y, hy⟩ : ∃ y, ys[j]? = some y := ⟨ys[j]'(by have := HL.out; omega), List.getElem?_eq_getElem _⟩
      have g1 := hE.cell (hcx j x hx)
      have g2 := hE.cell (hcy j y hy)
      obtain ⟨hx1, hx2⟩ := HOX.out x (List.mem_of_getElem? hx)
      obtain ⟨hy1, hy2⟩ := HOY.out y (List.mem_of_getElem? hy)
      obtain ⟨b1, b2, b3, b4⟩ := HBD.out
      have HN := Lib.hid (zip_take xs ys j x y hx hy)
      have HP := Lib.hid (fun W => refPlus_any hh ll x y W hx1 hx2 hy1 hy2 (by omega) (by omega) (by omega) (by omega))
      obtain ⟨p, hp, hp1, hp2⟩ : ∃ p, x * y = p ∧ -1000000000000000000 ≤ p ∧ p ≤ 1000000000000000000 := by
        have := mul_bd x y 1000000000 (by omega) hx2 (by omega) hy2
        exact ⟨_, rfl, by omega, by omega⟩
      obtain ⟨e1, e2, e3⟩ := tdiv_tmod_bd p 1000000000 (by decide)
      rw [hp] at HP HN
      obtain ⟨q, hq⟩ : ∃ q, p.tdiv 1000000000 = q := ⟨_, rfl⟩
      obtain ⟨m, hm⟩ : ∃ m, p.tmod 1000000000 = m := ⟨_, rfl⟩
      rw [hq, hm] at e1 HP
      rw [hm] at e2 e3
      have HNX : Hid ((hh + q) * 1000000000 + (ll + m) = sumI ((List.zipWith (· * ·) xs ys).take (j + 1))) := by
        unfold Hid
        rw [HN.out, sumI_append, ← HS.out]
        simp [sumI]; omega
      have HBX : Hid (-1000000000 * ((j + 1 : Nat) : Int) ≤ hh + q ∧ hh + q ≤ 1000000000 * ((j + 1 : Nat) : Int) ∧ -1000000000 * ((j + 1 : Nat) : Int) ≤ ll + m ∧ ll + m ≤ 1000000000 * ((j + 1 : Nat) : Int)) := by
        unfold Hid; omega
      have hsz := hE.size
      have hlts : w.heap.size < wr.heap.size := (Array.getElem?_eq_some_iff.1 HB.out).1
      clear hcx hcy hx hy hp hp1 hp2 hq hm e1 e2 e3 b1 b2 b3 b4 HBD HS HN
      obtain ⟨wo, rfl⟩ : ∃ wo : World, wo = wr := ⟨_, rfl⟩
      go_upto_region 5 with fail
      go_region_with (go_at_call 65; refine (HP.out _).mono ?_; rintro e w5 ⟨rfl, hE5⟩; have HB5 := Lib.hid (block_ext (block_ext HB.out (Ext.drew _)) hE5); have c0' := (hE5.cell (a := ⟨w.heap.size, 0, none⟩) c0); have c1' := (hE5.cell (a := ⟨w.heap.size, 1, none⟩) c1); have f0' := block_free HB5.out 0; have f1' := block_free HB5.out 1; have HE5 := Lib.hid (Ext.trans (Ext.trans hE (Ext.drew _)) hE5); clear hE5)
      all_goals
        go_wp2_with fail
        go_roundw
        case rel => exact ⟨j + 1, hh + q, ll + m, by omega, by go_num, Below.setCell (Below.setCell HE5.out (Nat.le_refl _) _) (Nat.le_refl _) _, block_set (block_set HB5.out 0 _) 1 _, HNX.out, HBX.out⟩
        case measure => simp [intOf]; omega
    · obtain rfl : j = xs.length := by omega
      obtain ⟨b1, b2, b3, b4⟩ := HBD.out
      have HP := Lib.hid (refValue_any hh ll wr (by omega) (by omega) (by omega) (by omega))
      have HQ : Hid (hh * 1000000000 + ll = dotS xs ys) := by
        have := HS.out
        rw [List.take_of_length_le (by rw [List.length_zipWith, HL.out]; omega)] at this
        exact this
      rw [HQ.out] at HP
      clear b1 b2 b3 b4 HBD HS HB
      go_wp2_with fail
      refine HP.out.mono ?_
      rintro e w5 ⟨x, rfl, hx, hE5⟩
      have HE5 := Lib.hid (Ext.trans hE hE5)
      have HX5 := Lib.hid hx
      clear hE5 hx
      go_wp2_with fail
      go_ret2
      exact ⟨x, rfl, HX5.out, HE5.out⟩
end Go.Proofs.YtobgghjmclagaaaDoor
