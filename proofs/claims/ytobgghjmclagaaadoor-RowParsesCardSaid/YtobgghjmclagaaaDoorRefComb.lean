/- Contracts of the reference of chapter 05: Combine. -/
import Derived.Test.YtobgghjmclagaaaDoorRefDot
import Derived.Test.YtobgghjmclagaaaDoorRowB
namespace Go.Proofs.YtobgghjmclagaaaDoor
set_option linter.unusedVariables false
set_option linter.unusedSimpArgs false
open Go.RowKit

def colL (xss : List (List Int)) (fs : List Int) (i : Nat) : List Int := List.zipWith (fun r f => r[i]?.getD 0 * f) xss fs
def combS (n : Nat) (xss : List (List Int)) (fs : List Int) : List Int := (List.range n).map fun i => sumI (colL xss fs i)
def combOk (n : Nat) (xss : List (List Int)) (fs : List Int) : Bool := (combS n xss fs).all fitB
theorem colL_take (xss : List (List Int)) (fs : List Int) (i k : Nat) (r : List Int) (x f : Int) (hr : xss[k]? = some r) (hx : r[i]? = some x) (hf : fs[k]? = some f) : (colL xss fs i).take (k + 1) = (colL xss fs i).take k ++ [x * f] := by
  unfold colL
  rw [List.take_add_one, List.getElem?_zipWith, hr, hf]; simp [hx]
theorem combS_take (n : Nat) (xss : List (List Int)) (fs : List Int) (i : Nat) (hi : i < n) : (combS n xss fs).take (i + 1) = (combS n xss fs).take i ++ [sumI (colL xss fs i)] := by
  unfold combS
  rw [List.take_add_one, List.getElem?_map, List.getElem?_range hi]; rfl
theorem combS_len (n : Nat) (xss : List (List Int)) (fs : List Int) : (combS n xss fs).length = n := by simp [combS]
theorem combOk_not (n : Nat) (xss : List (List Int)) (fs : List Int) (i : Nat) (hi : i < n) (h : fitB (sumI (colL xss fs i)) = false) : combOk n xss fs = false := by
  rw [Bool.eq_false_iff]
  intro e
  have := List.all_eq_true.1 e (sumI (colL xss fs i)) (List.mem_map.2 ⟨i, by simpa using hi, rfl⟩)
  rw [h] at this; cases this

set_option maxRecDepth 100000 in
set_option maxHeartbeats 4000000 in
theorem refCombine_any (xss : List (List Int)) (fs : List Int) (n : Nat) (u v : Value) (w : World) (h : Rows2 w u xss) (k : Ints w v fs) (hne : xss ≠ []) (hr : ∀ r ∈ xss, r.length = n ∧ ∀ x ∈ r, -1000000000 ≤ x ∧ x ≤ 1000000000)
    (hf : ∀ x ∈ fs, -1000000000 ≤ x ∧ x ≤ 1000000000) (hl : fs.length = xss.length) (h8 : xss.length ≤ 8) (h64 : n ≤ 64) :
    Calls Tryd.prog 42 #[u, v] w fun e w' => ∃ r, e = .returned (.tuple #[r, .bool (combOk n xss fs)]) ∧ Ext w w' ∧ (combOk n xss fs = true → Ints w' r (combS n xss fs)) ∧ (combOk n xss fs = false → r = .slice none 0 0) := by
  obtain ⟨a, ca, rfl, hca, hca2, -, hxc⟩ := inCell.open h
  obtain ⟨ab, cb, rfl, hcb, hcb2, -, -, hyc⟩ := k.open
  have HY := Lib.hid hyc
  obtain ⟨b, off, rfl, hb, hcell⟩ := hxc hne
  have HC := Lib.hid hcell
  have HR := Lib.hid hr; have HF := Lib.hid hf
  have hpos : 0 < xss.length := List.length_pos_iff.2 hne
  obtain ⟨x0, hx0⟩ : ∃ x0, xss[0]? = some x0 := ⟨xss[0], List.getElem?_eq_getElem hpos⟩
  obtain ⟨u0, hu0, hc0⟩ := hcell 0 x0 hx0
  obtain ⟨a0, c0, rfl, k1, k2, -, -, -⟩ := hu0.open
  have hn0 := (hr x0 (List.mem_of_getElem? hx0)).1
  rw [hn0] at hc0 k1
  rw [Nat.add_zero] at hc0
  rw [hl] at hcb ⊢
  have HL := Lib.hid hl
  unfold maxLen at hca2 hcb2 k2
  clear h k hxc hcell hyc hr hf hne hx0 hu0 hn0 hl
  obtain ⟨ok, hok⟩ : ∃ ok, combOk n xss fs = ok := ⟨_, rfl⟩
  have HOK := Lib.hid hok
  rw [hok]
  clear hok
  go_enter Tryd.func42, Tryd.ntmps42
  go_wp2_with fail
  go_loopw [6, 7] (fun out t wr => ∃ i : Nat, i ≤ n ∧ t = .int .i64 i ∧ Ext w wr ∧ Hid (Build wr w.heap.size 3 1 out intC ((combS n xss fs).take i)) ∧ Hid (((combS n xss fs).take i).all fitB = true)) (fun _ t _ => n - (intOf t).toNat)
  case atStart => exact ⟨0, by omega, rfl, Ext.refl _, by unfold Hid; rw [List.take_zero]; exact Build.nil _ _ _ _ _, by unfold Hid; rw [List.take_zero]; rfl⟩
  case round =>
    obtain ⟨i, hi, rfl, hE, HBu, HALL⟩ := hrel
    have g0 := hE.cell hc0
    by_cases hin : i < n
    · obtain ⟨wo, rfl⟩ : ∃ wo : World, wo = wr := ⟨_, rfl⟩
      go_wp2_with fail
      go_loopw [9] (fun t wr => ∃ (k : Nat) (hh ll : Int), k ≤ xss.length ∧ t = .int .i64 k ∧ Ext wo wr ∧ Hid (wr.heap[wo.heap.size]? = some (.cells #[.int .i64 hh, .int .i64 ll] 83 (0, 0))) ∧
        Hid (hh * 1000000000 + ll = sumI ((colL xss fs i).take k)) ∧ Hid (-1000000000 * (k : Int) ≤ hh ∧ hh ≤ 1000000000 * (k : Int) ∧ -1000000000 * (k : Int) ≤ ll ∧ ll ≤ 1000000000 * (k : Int))) (fun t _ => xss.length - (intOf t).toNat)
      case atStart => exact ⟨0, 0, 0, by omega, rfl, Ext.alloc _ _, heap_alloc_new _ _, by unfold Hid; simp [sumI], by unfold Hid; omega⟩
      case round =>
        obtain ⟨k, hh, ll, hk, rfl, hEi, HB, HS, HBD⟩ := hrel
        have c0' := block_cell HB.out 0; have c1 := block_cell HB.out 1
        have f0 := block_free HB.out 0; have f1 := block_free HB.out 1
        simp only [List.getElem?_toArray, List.getElem?_cons_zero, List.getElem?_cons_succ] at c0' c1
        have hE2 := Ext.trans hE hEi
        by_cases hlt : k < xss.length
        · obtain ⟨r, hr⟩ : ∃ r, xss[k]? = some r := ⟨xss[k], List.getElem?_eq_getElem hlt⟩
          obtain ⟨hrl, hrb⟩ := HR.out r (List.mem_of_getElem? hr)
          obtain ⟨ur, hur, hcr⟩ := HC.out k r hr
          obtain ⟨ar, cr, rfl, kr1, kr2, -, -, hrc⟩ := hur.open
          rw [hrl] at hcr kr1
          obtain ⟨bx, ox, rfl, hbx, hcx⟩ := hrc (by intro e; rw [e, List.length_nil] at hrl; omega)
          obtain ⟨by', oy, rfl, hby, hcy⟩ := HY.out (by intro e; have h := HL.out; rw [e, List.length_nil] at h; omega)
          obtain ⟨x, hx⟩ : ∃ x, r[i]? = some x := ⟨r[i]'(by omega), List.getElem?_eq_getElem _⟩
          obtain ⟨y, hy⟩ : ∃ y, fs[k]? = some y := ⟨fs[k]'(by have := HL.out; omega), List.getElem?_eq_getElem _⟩
          have g1 := hE2.cell hcr
          have g2 := hE2.cell (hcx i x hx)
          have g3 := hE2.cell (hcy k y hy)
          obtain ⟨hx1, hx2⟩ := hrb x (List.mem_of_getElem? hx)
          obtain ⟨hy1, hy2⟩ := HF.out y (List.mem_of_getElem? hy)
          obtain ⟨b1, b2, b3, b4⟩ := HBD.out
          have HN := Lib.hid (colL_take xss fs i k r x y hr hx hy)
          have HP := Lib.hid (fun W => refPlus_any hh ll x y W hx1 hx2 hy1 hy2 (by omega) (by omega) (by omega) (by omega))
          obtain ⟨p, hp, hp1, hp2⟩ : ∃ p, x * y = p ∧ -1000000000000000000 ≤ p ∧ p ≤ 1000000000000000000 := by
            have := mul_bd x y 1000000000 (by omega) hx2 (by omega) hy2
            exact ⟨_, rfl, by omega, by omega⟩
          obtain ⟨e1, e2, e3⟩ := tdiv_tmod_bd p 1000000000 (by decide)
          rw [hp] at HP HN
          obtain ⟨q, hq⟩ : ∃ q, p.tdiv 1000000000 = q := ⟨_, rfl⟩
          obtain ⟨m, hm⟩ : ∃ m, p.tmod 1000000000 = m := ⟨_, rfl⟩
          rw [hq, hm] at e1 HP
          rw [hm] at e2 e3
          have HNX : Hid ((hh + q) * 1000000000 + (ll + m) = sumI ((colL xss fs i).take (k + 1))) := by
            unfold Hid
            rw [HN.out, sumI_append, ← HS.out]
            simp [sumI]; omega
          have HBX : Hid (-1000000000 * ((k + 1 : Nat) : Int) ≤ hh + q ∧ hh + q ≤ 1000000000 * ((k + 1 : Nat) : Int) ∧ -1000000000 * ((k + 1 : Nat) : Int) ≤ ll + m ∧ ll + m ≤ 1000000000 * ((k + 1 : Nat) : Int)) := by
            unfold Hid; omega
          have hsz := hEi.size
          have hlts : wo.heap.size < wr.heap.size := (Array.getElem?_eq_some_iff.1 HB.out).1
          clear hcx hcy hx hy hp hp1 hp2 hq hm e1 e2 e3 b1 b2 b3 b4 HBD HS HN hr hrl hrb hur hcr hrc HALL HBu
          obtain ⟨wi, rfl⟩ : ∃ wi : World, wi = wr := ⟨_, rfl⟩
          go_upto_region 9 with fail
          go_region_with (go_at_call 65; refine (HP.out _).mono ?_; rintro e w5 ⟨rfl, hE5⟩; have HB5 := Lib.hid (block_ext (block_ext HB.out (Ext.drew _)) hE5); have c0' := (hE5.cell (a := ⟨wo.heap.size, 0, none⟩) c0'); have c1' := (hE5.cell (a := ⟨wo.heap.size, 1, none⟩) c1); have f0' := block_free HB5.out 0; have f1' := block_free HB5.out 1; have HE5 := Lib.hid (Ext.trans (Ext.trans hEi (Ext.drew _)) hE5); clear hE5)
          all_goals
            go_wp2_with fail
            go_roundw
            case rel => exact ⟨k + 1, hh + q, ll + m, by omega, by go_num, Below.setCell (Below.setCell HE5.out (Nat.le_refl _) _) (Nat.le_refl _) _, block_set (block_set HB5.out 0 _) 1 _, HNX.out, HBX.out⟩
            case measure => simp [intOf]; omega
        · obtain rfl : k = xss.length := by omega
          obtain ⟨b1, b2, b3, b4⟩ := HBD.out
          have HP := Lib.hid (refValue_any hh ll wr (by omega) (by omega) (by omega) (by omega))
          have HQ : Hid (hh * 1000000000 + ll = sumI (colL xss fs i)) := by
            have := HS.out
            rw [List.take_of_length_le (by unfold colL; rw [List.length_zipWith, HL.out]; omega)] at this
            exact this
          rw [HQ.out] at HP
          clear b1 b2 b3 b4 HBD HS HB
          cases hfi : fitB (sumI (colL xss fs i)) with
          | true =>
            rw [hfi] at HP
            have HJ : Hid (((combS n xss fs).take i).length < 1000000) := by unfold Hid; rw [List.length_take, combS_len]; omega
            have HN2 := Lib.hid (combS_take n xss fs i hin)
            have HA2 : Hid (((combS n xss fs).take (i + 1)).all fitB = true) := by
              unfold Hid; rw [HN2.out, List.all_append, HALL.out]; simp [hfi]
            obtain ⟨z, hz⟩ : ∃ z, sumI (colL xss fs i) = z := ⟨_, rfl⟩
            rw [hz] at HP HN2
            clear hfi hz HQ HALL
            go_wp2_with fail
            refine HP.out.mono ?_
            rintro e w5 ⟨x, rfl, hx, hE5⟩
            obtain rfl := hx (by first | exact True.intro | rfl)
            have hE6 := Ext.trans hEi hE5
            have HB6 := Lib.hid (Build.ext HBu.out hE6)
            have hE7 := Ext.trans hE hE6
            have hsz7 := hE7.size
            clear hE5 HP HBu
            go_wp2_with (at_builtin; go_must (refine wpList_append_build _ rfl _ _ 23 rfl w.heap.size 3 (.int .i64 0) 1 8 Tryd.underlying23 infoInt rfl (by decide) u6 intC ((combS n xss fs).take i) x #[.int .i64 x] 3 rfl HB6.out rfl rfl ?e1 (fun _ _ => rfl) HJ.out (by decide) hsz7 ?_))
            case e1 => simp [Value.oneCell']
            intro v' w8 hB8 hg8 hb8 hs8 _
            rw [← HN2.out] at hB8
            have HB8 := Lib.hid hB8
            have HE8 := Lib.hid (Below.trans hE7 hb8)
            clear hB8 hg8 hb8
            go_wp2_with fail
            go_roundw
            case rel => exact ⟨i + 1, by omega, by go_num, HE8.out, HB8.out, HA2.out⟩
            case measure => simp [intOf]; omega
          | false =>
            rw [hfi] at HP
            obtain rfl : ok = false := by rw [← HOK.out]; exact combOk_not n xss fs i hin hfi
            clear hfi HOK
            go_wp2_with fail
            refine HP.out.mono ?_
            rintro e w5 ⟨x, rfl, hx, hE5⟩
            have HE7 := Lib.hid (Ext.trans hE (Ext.trans hEi hE5))
            clear hE5 HP hx
            go_wp2_with fail
            go_ret2
            exact ⟨rfl, HE7.out⟩
    · obtain rfl : i = n := by omega
      have HT : Hid ((combS i xss fs).take i = combS i xss fs) := List.take_of_length_le (by rw [combS_len]; omega)
      rw [HT.out] at HBu HALL
      obtain rfl : ok = true := by rw [← HOK.out]; exact HALL.out
      have hI : Ints wr u6 (combS i xss fs) := by
        refine Ints.of_owns HBu.out.ints (fun x hx => ?_)
        have := (fitB_iff x).1 (List.all_eq_true.1 HALL.out x hx)
        omega
      have HII := Lib.hid hI
      clear hI HALL HBu HOK HT
      go_wp2_with fail
      go_ret2
      first | exact ⟨_, rfl, hE, (fun _ => HII.out), (by simp)⟩ | exact ⟨_, rfl, hE, HII.out⟩
end Go.Proofs.YtobgghjmclagaaaDoor
