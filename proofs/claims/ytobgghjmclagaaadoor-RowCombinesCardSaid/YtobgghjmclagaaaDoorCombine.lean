/- row.Combine, as a contract. -/
import Derived.Test.YtobgghjmclagaaaDoorRefComb
import Derived.Test.YtobgghjmclagaaaDoorRowChecks
import Derived.Test.YtobgghjmclagaaaDoorSumR
namespace Go.Proofs.YtobgghjmclagaaaDoor
set_option linter.unusedVariables false
set_option linter.unusedSimpArgs false
open Go.RowKit

def combE (n : Nat) (xss : List (List Int)) (fs : List Int) : Int :=
  if allE n xss = 0 then (if rowE fs = 0 then (if (xss.length : Int) = (fs.length : Int) then (if combOk n xss fs then 0 else 4) else 5) else rowE fs) else allE n xss
theorem allE_cases (n : Int) : ∀ xss, allE n xss = 0 ∨ allE n xss = 4 ∨ allE n xss = 5
  | [] => .inl rfl
  | r :: l => by
    unfold allE
    rcases rowE_four r with h | h
    · rw [if_pos h]
      by_cases hl : (r.length : Int) = n
      · rw [if_pos hl]; exact allE_cases n l
      · rw [if_neg hl]; exact .inr (.inr rfl)
    · rw [if_neg (by omega)]; exact .inr (.inl h)
theorem allE_zero (n : Nat) : ∀ xss, allE n xss = 0 → ∀ r ∈ xss, r.length = n ∧ okRow r
  | [], _ => by simp
  | r :: l, h => by
    unfold allE at h
    rcases rowE_four r with h1 | h1
    · rw [if_pos h1] at h
      by_cases hl : (r.length : Int) = n
      · rw [if_pos hl] at h
        intro q hq
        rcases List.mem_cons.1 hq with rfl | hq
        · exact ⟨by omega, (rowE_zero _).1 h1⟩
        · exact allE_zero n l h q hq
      · rw [if_neg hl] at h; cases h
    · rw [if_neg (by omega)] at h; omega
def partL (n : Nat) (cs : List Int) (i : Nat) : List Int := cs.take i ++ List.replicate (n - i) 0
theorem partL_set (n : Nat) (cs : List Int) (i : Nat) (x : Int) (hc : cs.length = n) (hi : i < n) (hx : cs[i]? = some x) : (partL n cs i).set i x = partL n cs (i + 1) := by
  unfold partL
  rw [List.set_append_right i x (by rw [List.length_take]; omega), List.length_take, show i - min i cs.length = 0 by omega, show n - i = (n - (i + 1)) + 1 by omega, List.replicate_succ, List.set_cons_zero, List.take_add_one, hx]
  simp
theorem partL_get (n : Nat) (cs : List Int) (i : Nat) (hc : cs.length = n) (hi : i < n) : (partL n cs i)[i]? = some 0 := by
  unfold partL
  rw [List.getElem?_append_right (by rw [List.length_take]; omega), List.length_take, show i - min i cs.length = 0 by omega, List.getElem?_replicate]
  simp; omega
theorem partL_len (n : Nat) (cs : List Int) (i : Nat) (hc : cs.length = n) (hi : i ≤ n) : (partL n cs i).length = n := by
  unfold partL; rw [List.length_append, List.length_take, List.length_replicate]; omega
theorem partL_all (n : Nat) (cs : List Int) (hc : cs.length = n) : partL n cs n = cs := by
  unfold partL; rw [List.take_of_length_le (by omega)]; simp
theorem below_row {n : Nat} {a b c : World} {r : Option Nat} (h : Below n a b) (g : b.grownBy c r) (hn : n ≤ b.heap.size) (hr : ∀ k, r = some k → n ≤ k) : Below n a c :=
  ⟨g.os.trans h.os, g.tape.trans h.tape, g.output.trans h.output, Nat.le_trans h.size g.size, fun k hk => (g.block k (by omega) (fun e => by have := hr k e.symm; omega)).trans (h.block k hk)⟩

set_option maxRecDepth 100000 in
set_option maxHeartbeats 8000000 in
theorem combine_any (xss : List (List Int)) (fs : List Int) (n : Nat) (x0 : List Int) (u v : Value) (w : World) (h : Rows2 w u xss) (k : Ints w v fs) (hx0 : xss[0]? = some x0) (hn0 : x0.length = n) (h8 : xss.length ≤ 8) :
    Calls Tryd.prog 41 #[u, v] w fun e w' => ∃ r, e = .returned (.tuple #[r, .int .i64 (combE n xss fs)]) ∧ Ext w w' ∧ (combE n xss fs = 0 → Ints w' r (combS n xss fs)) ∧ (¬ combE n xss fs = 0 → r = .slice none 0 0) := by
  have HCA := Lib.hid (checkAll_any xss n u w h)
  have HCF := Lib.hid (fun W' he => rowCheck_any fs v W' (k.ext (w' := W') he))
  obtain ⟨a, ca, rfl, hca, hca2, -, hxc⟩ := inCell.open h
  obtain ⟨ab, cb, rfl, hcb, hcb2, -, -, hyc⟩ := k.open
  have HY := Lib.hid hyc
  have hpos : 0 < xss.length := (List.getElem?_eq_some_iff.1 hx0).1
  obtain ⟨b, off, rfl, hb, hcell⟩ := hxc (by intro e; rw [e] at hpos; simp at hpos)
  have HC := Lib.hid hcell
  obtain ⟨u0, hu0, hc0⟩ := hcell 0 x0 hx0
  obtain ⟨a0, c0, rfl, k1, k2, -, -, -⟩ := hu0.open
  rw [hn0] at hc0 k1
  rw [Nat.add_zero] at hc0
  have HC0 := Lib.hid hc0
  have hne2 : ¬ (xss.length : Int) = 0 := by omega
  have hne : ((xss.length : Int) == 0) = false := beq_eq_false_iff_ne.2 hne2
  have hb' : b < w.heap.size := hb
  unfold maxLen at hca2 hcb2 k2
  clear h k hxc hcell hyc hx0 hu0 hn0
  by_cases hA : allE n xss = 0
  · have HALL := Lib.hid (allE_zero n xss hA)
    rw [hA] at HCA
    by_cases hF : rowE fs = 0
    · have HF := Lib.hid ((rowE_zero fs).1 hF).2
      rw [hF] at HCF
      by_cases hL : xss.length = fs.length
      · have hne3 : ((xss.length : Int) != (fs.length : Int)) = false := by simp [hL]
        have HL := Lib.hid hL
        have HQ : Hid (combE n xss fs = if combOk n xss fs then 0 else 4) := by unfold Hid combE; rw [if_pos hA, if_pos hF, if_pos (by omega)]
        obtain ⟨ce, hce⟩ : ∃ ce, combE n xss fs = ce := ⟨_, rfl⟩
        rw [hce] at HQ ⊢
        obtain ⟨r0, hr0⟩ : ∃ r0, xss[0]? = some r0 := ⟨xss[0], List.getElem?_eq_getElem hpos⟩
        have h64 : n ≤ 64 := by have := HALL.out r0 (List.mem_of_getElem? hr0); have := this.2.1; omega
        obtain ⟨i0, hi, hz0, hz1, hz2⟩ := info_parts infoInt
        have HI := Lib.hid hi; have HZ0 := Lib.hid hz0; have HZ1 := Lib.hid hz1; have HZ2 := Lib.hid hz2
        have HCL := Lib.hid (combS_len n xss fs)
        clear hA hF hL hce hr0 hi hz0 hz1 hz2 hc0
        have g00 := HC0.out
        go_enter Tryd.func41, Tryd.ntmps41
        go_wp2_with fail
        refine HCA.out.mono ?_
        rintro e w1 ⟨rfl, hE1⟩
        have HE1 := Lib.hid hE1
        have B1 := Lib.hid (HCF.out w1 hE1)
        clear hE1 HCA HCF
        go_wp2_with fail
        refine B1.out.mono ?_
        rintro e w2 ⟨rfl, hE2⟩
        have HE2 := Lib.hid (Ext.trans HE1.out hE2)
        have g01 := HE2.out.cell HC0.out
        clear hE2 B1
        go_wp2_with (at_make; refine wpList_make_full _ rfl _ _ 23 rfl w2.heap.size 3 i0 (.int .i64 0) 1 Tryd.underlying23 HI.out HZ0.out HZ1.out _ _ _ _ n rfl rfl rfl rfl ?c1 ?c2 ?c3 ?_)
        any_goals (first | (rw [HZ2.out]; omega) | (unfold maxLen; omega) | exact Nat.le_refl _)
        intro w3 hown hgrow
        rw [made_ints] at hown
        have hg3 : w2.heap.size < w3.heap.size := (hown.lt w2.heap.size rfl).2
        have HOWN := Lib.hid (show OwnAt w3 w2.heap.size w2.heap.size n (partL n (combS n xss fs) 0) by unfold OwnAt partL; simpa using hown)
        have HE3 := Lib.hid (Ext.trans HE2.out (ext_grown hgrow))
        have hge := HE2.out.size
        obtain ⟨G, hG⟩ : ∃ G, w2.heap.size = G := ⟨_, rfl⟩
        rw [hG] at HOWN hge hg3
        rw [hG]
        clear hown hgrow g01 g00
        go_wp2_with fail
        go_loopw [44] (fun t wr => ∃ i : Nat, i ≤ n ∧ t = .int .i64 i ∧ Ext w wr ∧ G < wr.heap.size ∧ Hid (OwnAt wr G G n (partL n (combS n xss fs) i)) ∧ Hid (((combS n xss fs).take i).all fitB = true)) (fun t _ => n - (intOf t).toNat)
        case atStart => exact ⟨0, by omega, rfl, HE3.out, hg3, HOWN.out, by unfold Hid; rw [List.take_zero]; rfl⟩
        case round =>
          obtain ⟨i, hi, rfl, hE, hGs, HO, HAL⟩ := hrel
          by_cases hin : i < n
          · obtain ⟨wo, rfl⟩ : ∃ wo : World, wo = wr := ⟨_, rfl⟩
            go_wp2_with fail
            go_loopw [49] (fun t wr => ∃ (k : Nat) (hh ll : Int), k ≤ xss.length ∧ t = .int .i64 k ∧ Ext wo wr ∧ Hid (wr.heap[wo.heap.size]? = some (.cells #[.int .i64 hh, .int .i64 ll] 79 (0, 0))) ∧
              Hid (hh * 1000000000000000000 + ll = sumI ((colL xss fs i).take k)) ∧ Hid (-(k : Int) ≤ hh ∧ hh ≤ (k : Int) ∧ -1000000000000000000 < ll ∧ ll < 1000000000000000000)) (fun t _ => xss.length - (intOf t).toNat)
            case atStart => exact ⟨0, 0, 0, by omega, rfl, Ext.alloc _ _, heap_alloc_new _ _, by unfold Hid; simp [sumI], by unfold Hid; omega⟩
            case round =>
              obtain ⟨k, hh, ll, hk, rfl, hEi, HB, HS, HBD⟩ := hrel
              have hE2 := Ext.trans hE hEi
              by_cases hlt : k < xss.length
              · obtain ⟨r, hr⟩ : ∃ r, xss[k]? = some r := ⟨xss[k], List.getElem?_eq_getElem hlt⟩
                obtain ⟨hrl, -, hrb⟩ := HALL.out r (List.mem_of_getElem? hr)
                obtain ⟨ur, hur, hcr⟩ := HC.out k r hr
                obtain ⟨ar, cr, rfl, kr1, kr2, -, -, hrc⟩ := hur.open
                rw [hrl] at hcr kr1
                obtain ⟨bx, ox, rfl, hbx, hcx⟩ := hrc (by intro e; rw [e, List.length_nil] at hrl; omega)
                obtain ⟨by', oy, rfl, hby, hcy⟩ := HY.out (by intro e; have h := HL.out; rw [e, List.length_nil] at h; omega)
                obtain ⟨x, hx⟩ : ∃ x, r[i]? = some x := ⟨r[i]'(by omega), List.getElem?_eq_getElem _⟩
                obtain ⟨y, hy⟩ : ∃ y, fs[k]? = some y := ⟨fs[k]'(by have := HL.out; omega), List.getElem?_eq_getElem _⟩
                have g1 := hE2.cell hcr
                have g2 := hE2.cell (hcx i x hx)
                have g3 := hE2.cell (hcy k y hy)
                have hkf : k < fs.length := by have := HL.out; omega
                obtain ⟨hx1, hx2⟩ := hrb x (List.mem_of_getElem? hx)
                obtain ⟨hy1, hy2⟩ := HF.out y (List.mem_of_getElem? hy)
                obtain ⟨b1, b2, b3, b4⟩ := HBD.out
                have HN := Lib.hid (colL_take xss fs i k r x y hr hx hy)
                have HP := Lib.hid (fun (W : World) (hWb : W.heap[wo.heap.size]? = some (.cells #[.int .i64 hh, .int .i64 ll] 79 (0, 0))) => sumAdd_any wo.heap.size hh ll x y W hWb hx1 hx2 hy1 hy2 b3 b4 (by omega) (by omega))
                have hsz := hEi.size
                clear hcx hcy hx hy b1 b2 b3 b4 hr hrl hrb hur hcr hrc
                obtain ⟨wi, rfl⟩ : ∃ wi : World, wi = wr := ⟨_, rfl⟩
                go_upto_region 19 with fail
                go_region_with (go_at_call 63; refine (HP.out _ (block_ext HB.out (Ext.drew _))).mono ?_; rintro e w5 ⟨rfl, h', l', ⟨p1, p2⟩, p3, p4, p5, p6, p7⟩; have HX5 := Lib.hid (And.intro p1 (And.intro p2 (And.intro p3 (And.intro p4 (And.intro p5 (And.intro p6 p7)))))); clear p1 p2 p3 p4 p5 p6 p7)
                all_goals
                  go_wp2_with fail
                  go_roundw
                  case rel =>
                    obtain ⟨p1, p2, p3, p4, p5, p6, p7⟩ := HX5.out
                    obtain ⟨b1, b2, b3, b4⟩ := HBD.out
                    refine ⟨k + 1, h', l', by omega, by go_num, below_row (Below.drew hEi) p2 hsz (fun j e => by cases e; exact Nat.le_refl _), p1, ?_, ?_⟩
                    · unfold Hid
                      rw [HN.out, sumI_append, ← HS.out]
                      simp [sumI]; omega
                    · unfold Hid; omega
                  case measure => simp [intOf]; omega
              · obtain rfl : k = xss.length := by omega
                obtain ⟨b1, b2, b3, b4⟩ := HBD.out
                have HV := Lib.hid (sumValue_any hh ll wr b3 b4)
                obtain ⟨v1, v2⟩ := valS_ok hh ll b3 b4
                have hq : hh * 1000000000000000000 + ll = sumI (colL xss fs i) := by
                  have := HS.out
                  rw [List.take_of_length_le (by unfold colL; rw [List.length_zipWith, HL.out]; omega)] at this
                  exact this
                rw [hq] at v1 v2
                have c0' := block_cell HB.out 0; have c1' := block_cell HB.out 1
                simp only [List.getElem?_toArray, List.getElem?_cons_zero, List.getElem?_cons_succ] at c0' c1'
                have HN2 := Lib.hid (combS_take n xss fs i hin)
                cases hfi : fitB (sumI (colL xss fs i)) with
                | true =>
                  rw [v1, hfi, v2 hfi] at HV
                  have HA2 : Hid (((combS n xss fs).take (i + 1)).all fitB = true) := by
                    unfold Hid; rw [HN2.out, List.all_append, HAL.out]; simp [hfi]
                  have hgi : (combS n xss fs)[i]? = some (sumI (colL xss fs i)) := by unfold combS; rw [List.getElem?_map, List.getElem?_range hin]; rfl
                  have HST := Lib.hid (partL_set n (combS n xss fs) i _ HCL.out hin hgi)
                  have HGT := Lib.hid (partL_get n (combS n xss fs) i HCL.out hin)
                  obtain ⟨z, hz⟩ : ∃ z, sumI (colL xss fs i) = z := ⟨_, rfl⟩
                  rw [hz] at HV HST
                  clear hfi hz hq v1 v2 b1 b2 b3 b4 hgi HBD HS HAL HN2
                  go_wp2_with fail
                  refine HV.out.mono ?_
                  rintro e w5 ⟨rfl, hE5⟩
                  have hEo := Ext.trans hEi hE5
                  have hO5 := owns_ext HO.out hEo
                  obtain ⟨hcc, hff⟩ := owns_cell hO5 HGT.out
                  have HS5 := owns_set hO5 i z
                  rw [HST.out] at HS5
                  have HS6 := Lib.hid HS5
                  have HE6 := Lib.hid (Below.setCell (Ext.trans hE hEo) (p := ⟨G, i, none⟩) hge (.int .i64 z))
                  have hG6 : G < (w5.setCell ⟨G, i, none⟩ (.int .i64 z)).heap.size := by have := hEo.size; simp [World.setCell]; omega
                  clear hE5 HV HS5 hO5
                  go_wp2_with fail
                  go_roundw
                  case rel => exact ⟨i + 1, by omega, by go_num, HE6.out, hG6, HS6.out, HA2.out⟩
                  case measure => simp [intOf]; omega
                | false =>
                  rw [v1, hfi] at HV
                  obtain rfl : ce = 4 := by rw [HQ.out, combOk_not n xss fs i hin hfi]; rfl
                  clear hfi hq v1 v2 b1 b2 b3 b4 HBD HS HAL HN2
                  go_wp2_with fail
                  refine HV.out.mono ?_
                  rintro e w5 ⟨rfl, hE5⟩
                  have HE7 := Lib.hid (Ext.trans hE (Ext.trans hEi hE5))
                  clear hE5 HV
                  go_wp2_with fail
                  go_ret2
                  first | exact ⟨rfl, HE7.out⟩ | exact ⟨_, rfl, HE7.out, (by simp), fun _ => rfl⟩
          · obtain rfl : i = n := by omega
            have HT : Hid ((combS i xss fs).take i = combS i xss fs) := List.take_of_length_le (by rw [HCL.out]; omega)
            rw [HT.out] at HAL
            obtain rfl : ce = 0 := by rw [HQ.out]; unfold combOk; rw [HAL.out]; rfl
            have hO := HO.out
            rw [partL_all i _ HCL.out] at hO
            have HII := Lib.hid (OwnAt.ints hO HCL.out.symm (fun x hx => by have := (fitB_iff x).1 (List.all_eq_true.1 HAL.out x hx); omega))
            clear hO HO HAL HQ HT
            go_wp2_with fail
            go_ret2
            first | exact ⟨_, rfl, hE, (fun _ => HII.out), (by simp)⟩ | exact ⟨_, rfl, hE, HII.out⟩
      · have HQ : Hid (combE n xss fs = 5) := by unfold Hid combE; rw [if_pos hA, if_pos hF, if_neg (by omega)]
        rw [HQ.out]
        have hne3 : ((xss.length : Int) != (fs.length : Int)) = true := by simp; omega
        clear hA hF hL hc0
        have g00 := HC0.out
        go_enter Tryd.func41, Tryd.ntmps41
        go_wp2_with fail
        refine HCA.out.mono ?_
        rintro e w1 ⟨rfl, hE1⟩
        have HE1 := Lib.hid hE1
        have B1 := Lib.hid (HCF.out w1 hE1)
        clear hE1 HCA HCF
        go_wp2_with fail
        refine B1.out.mono ?_
        rintro e w2 ⟨rfl, hE2⟩
        have HE2 := Lib.hid (Ext.trans HE1.out hE2)
        clear hE2 B1
        go_wp2_with fail
        go_ret2
        first | exact ⟨rfl, HE2.out⟩ | exact ⟨_, rfl, HE2.out, (by simp), fun _ => rfl⟩
    · have h4 : rowE fs = 4 := (rowE_four fs).resolve_left hF
      have HQ : Hid (combE n xss fs = 4) := by unfold Hid combE; rw [if_pos hA, if_neg hF, h4]
      rw [HQ.out]
      rw [h4] at HCF
      clear hA hF h4 hc0
      have g00 := HC0.out
      go_enter Tryd.func41, Tryd.ntmps41
      go_wp2_with fail
      refine HCA.out.mono ?_
      rintro e w1 ⟨rfl, hE1⟩
      have HE1 := Lib.hid hE1
      have B1 := Lib.hid (HCF.out w1 hE1)
      clear hE1 HCA HCF
      go_wp2_with fail
      refine B1.out.mono ?_
      rintro e w2 ⟨rfl, hE2⟩
      have HE2 := Lib.hid (Ext.trans HE1.out hE2)
      clear hE2 B1
      go_wp2_with fail
      go_ret2
      first | exact ⟨rfl, HE2.out⟩ | exact ⟨_, rfl, HE2.out, (by simp), fun _ => rfl⟩
  · have HQ : Hid (combE n xss fs = allE n xss) := by unfold Hid combE; rw [if_neg hA]
    rw [HQ.out]
    clear hc0 HQ
    have g00 := HC0.out
    rcases (allE_cases n xss).resolve_left hA with h4 | h4
    all_goals
      rw [h4] at HCA ⊢
      clear hA h4
      go_enter Tryd.func41, Tryd.ntmps41
      go_wp2_with fail
      refine HCA.out.mono ?_
      rintro e w1 ⟨rfl, hE1⟩
      have HE1 := Lib.hid hE1
      clear hE1 HCA HCF
      go_wp2_with fail
      go_ret2
      first | exact ⟨rfl, HE1.out⟩ | exact ⟨_, rfl, HE1.out, (by simp), fun _ => rfl⟩

theorem combine_nil (fs : List Int) (a : Option Addr) (c : Nat) (v : Value) (w : World) (k : Ints w v fs) :
    Calls Tryd.prog 41 #[.slice a 0 c, v] w fun e w' => e = .returned (.tuple #[.slice none 0 0, .int .i64 13]) ∧ w = w' := by
  obtain ⟨ab, cb, rfl, hcb, hcb2, -, -, hyc⟩ := k.open
  clear k hyc
  go_enter Tryd.func41, Tryd.ntmps41
  go_wp2_with fail
  go_ret2
  exact ⟨rfl, rfl⟩
end Go.Proofs.YtobgghjmclagaaaDoor
