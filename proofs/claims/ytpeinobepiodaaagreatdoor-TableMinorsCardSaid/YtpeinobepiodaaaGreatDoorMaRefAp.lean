/- Merged: RefAp. -/
import Derived.Test.YtpeinobepiodaaaGreatDoorGU
/- Contract of the reference's Apply (chapter 06). -/
namespace Go.Proofs.YtpeinobepiodaaaGreatDoor
set_option linter.unusedVariables false
set_option linter.unusedSimpArgs false
open Go.RowKit

theorem smV_bd (s : Int) : -9223372036854775808 ≤ smV s ∧ smV s ≤ 9223372036854775807 := by
  unfold smV
  split
  · assumption
  · omega
set_option maxRecDepth 100000 in
set_option maxHeartbeats 4000000 in
theorem refApplyB_any (xss : List (List Int)) (x : List Int) (v vx : Value) (w : World) (h : Rows2 w v xss) (hx : Ints w vx x) (hr : ∀ r ∈ xss, Fit9 r ∧ r.length = x.length) (hxf : Fit9 x) (hlx : x.length ≤ 14) (hl : xss.length ≤ 1000) (ht : Pow10 w) :
    Calls Tryz.prog 37 #[v, vx] w fun e w' => ∃ u, e = .returned (.tuple #[u, .bool ((apL xss x).all fitB)]) ∧ Build w' w.heap.size 3 1 u intR ((apL xss x).map smV) ∧ Ext w w' := by
  have HT := Lib.hid ht; have HRR := Lib.hid hr; have HXF := Lib.hid hxf
  obtain ⟨a, c, rfl, h1, h2, -, hc⟩ := inCell.open h
  obtain ⟨ax, cx, rfl, k1, k2, -, -, hcx⟩ := hx.open
  have HC := Lib.hid hc; have HCX := Lib.hid hcx
  unfold maxLen at h2 k2
  clear h hx hc hcx ht hr hxf
  go_enter Tryz.func37, Tryz.ntmps37
  go_wp2_with fail
  go_loopw [8, 6, 7] (fun t o f wr => ∃ (i : Nat) (fb : Bool), i ≤ xss.length ∧ t = .int .i64 i ∧ f = .bool fb ∧ Hid (fb = ((apL xss x).take i).all fitB) ∧ Hid (Ext w wr) ∧ Hid (Build wr w.heap.size 3 1 o intR (((apL xss x).map smV).take i))) (fun t _ _ _ => xss.length - (intOf t).toNat)
  case atStart => exact ⟨0, true, by omega, rfl, rfl, rfl, Ext.refl _, Build.nil _ _ _ _ _⟩
  case round =>
    obtain ⟨i, fb, hi, rfl, rfl, HFB, HE, HB⟩ := hrel
    obtain ⟨wo, rfl⟩ : ∃ wo : World, wo = wr := ⟨_, rfl⟩
    by_cases hlt : i < xss.length
    · obtain ⟨b, off, rfl, hb, hcell⟩ := HC.out (by intro e; simp [e] at hlt)
      obtain ⟨r, hr⟩ : ∃ x, xss[i]? = some x := ⟨xss[i], List.getElem?_eq_getElem hlt⟩
      obtain ⟨vr, hvr, hcr⟩ := hcell i r hr
      obtain ⟨hrf, hrl⟩ := HRR.out r (List.mem_of_getElem? hr)
      obtain ⟨ar, cr, rfl, r1, r2, -, -, hcc⟩ := hvr.open
      rw [hrl] at hcr r1
      have HCR := Lib.hid hcc
      have HG1 := Lib.hid hcr
      have HAT := Lib.hid (apL_take (x := x) hr)
      have HRL := Lib.hid hrl
      have HRF := Lib.hid hrf
      obtain ⟨n, hn⟩ : ∃ n, n = x.length := ⟨_, rfl⟩
      have HN := Lib.hid hn
      rw [← hn] at HG1 hlx r1
      unfold maxLen at r2
      have HDL : Hid (dotL r x = dotN (pairL r x) n) := by unfold Hid dotL; rw [hn]
      clear hcell hr hvr hcr hrl hrf hcc
      rw [← hn] at k1 ⊢
      clear hn
      go_wp2_with fail
      go_loopw [10, 9] (fun t s wr => ∃ k : Nat, k ≤ n ∧ t = .int .i64 k ∧ s = .string (intB (dotN (pairL r x) k)) ∧ Hid (Ext wo wr)) (fun t _ _ => n - (intOf t).toNat)
      case atStart => exact ⟨0, by omega, rfl, by show _ = Value.string (intB 0); rw [intB_zero], by first | exact Ext.refl _ | exact Ext.drew _⟩
      case round =>
        obtain ⟨k, hk, rfl, rfl, HEI⟩ := hrel
        obtain ⟨wi, rfl⟩ : ∃ wi : World, wi = wr := ⟨_, rfl⟩
        have HWI := Lib.hid (HE.out.trans HEI.out)
        by_cases hkl : k < n
        · obtain ⟨br, or_, rfl, -, hc1⟩ := HCR.out (by intro e; have h0 := HRL.out; rw [e, ← HN.out] at h0; simp at h0; omega)
          obtain ⟨bx, ox, rfl, -, hc2⟩ := HCX.out (by intro e; have := HN.out; rw [e] at this; simp at this; omega)
          obtain ⟨p, hp⟩ : ∃ p, r[k]? = some p := ⟨_, List.getElem?_eq_getElem (by rw [HRL.out, ← HN.out]; exact hkl)⟩
          obtain ⟨q, hq⟩ : ∃ q, x[k]? = some q := ⟨_, List.getElem?_eq_getElem (by rw [← HN.out]; exact hkl)⟩
          have g1 := HWI.out.cell HG1.out
          have g2 := HWI.out.cell (hc1 k p hp)
          have g3 := HWI.out.cell (hc2 k q hq)
          have hpq := pairL_at hp hq
          obtain ⟨hb1, hb2⟩ := pairL_bd HRF.out HXF.out k
          have hbs := dotN_bd (pairL r x) n (fun k _ => pairL_bd HRF.out HXF.out k) k hk
          have HST : Hid (dotN (pairL r x) (k + 1) = dotN (pairL r x) k + (pairL r x k).1 * (pairL r x k).2) := rfl
          rw [hpq] at HST hb1 hb2
          have hmp := mul_9 hb1 hb2
          simp only at HST hb1 hb2 hmp
          obtain ⟨s, hs⟩ : ∃ s, s = dotN (pairL r x) k := ⟨_, rfl⟩
          rw [← hs] at HST hbs ⊢
          have hsz : (intB s).size ≤ 21 := intB_size_of s 20 (by rw [show (10 : Nat) ^ 20 = 100000000000000000000 by decide]; omega) (by omega)
          have hsa : (intB p).size ≤ 11 := intB_size_of p 10 (by rw [show (10 : Nat) ^ 10 = 10000000000 by decide]; omega) (by omega)
          have hsb : (intB q).size ≤ 11 := intB_size_of q 10 (by rw [show (10 : Nat) ^ 10 = 10000000000 by decide]; omega) (by omega)
          have hsp : (intB (p * q)).size ≤ 20 := intB_size_of (p * q) 19 (by rw [show (10 : Nat) ^ 19 = 10000000000000000000 by decide]; omega) (by omega)
          have HOA : Hid (∀ W, Ext wi W → Calls Tryz.prog 71 #[.int .i64 p] W fun e w' => e = .returned (.string (intB p)) ∧ Ext W w') := fun W hW => rOf_any p W (by omega) (by omega) (HT.out.ext (HWI.out.trans hW))
          have HOB : Hid (∀ W, Ext wi W → Calls Tryz.prog 71 #[.int .i64 q] W fun e w' => e = .returned (.string (intB q)) ∧ Ext W w') := fun W hW => rOf_any q W (by omega) (by omega) (HT.out.ext (HWI.out.trans hW))
          have HMU : Hid (∀ W, Ext wi W → Calls Tryz.prog 75 #[.string (intB p), .string (intB q)] W fun e w' => e = .returned (.string (intB (p * q))) ∧ Ext W w') := fun W hW => rMul_any p q W (by omega) (by omega) (HT.out.ext (HWI.out.trans hW))
          have HAD : Hid (∀ W, Ext wi W → Calls Tryz.prog 74 #[.string (intB s), .string (intB (p * q))] W fun e w' => e = .returned (.string (intB (s + p * q))) ∧ Ext W w') := fun W hW => rAdd_any s (p * q) W (by omega) (by omega) (HT.out.ext (HWI.out.trans hW))
          have HRES : Hid (intB (dotN (pairL r x) (k + 1)) = intB (s + p * q)) := by unfold Hid; rw [HST.out]
          obtain ⟨ss, hss⟩ : ∃ z, z = intB s := ⟨_, rfl⟩
          obtain ⟨sp, hsp'⟩ : ∃ z, z = intB p := ⟨_, rfl⟩
          obtain ⟨sq, hsq⟩ : ∃ z, z = intB q := ⟨_, rfl⟩
          obtain ⟨sm, hsm⟩ : ∃ z, z = intB (p * q) := ⟨_, rfl⟩
          obtain ⟨sr, hsr⟩ : ∃ z, z = intB (s + p * q) := ⟨_, rfl⟩
          rw [← hsp'] at HOA HMU
          rw [← hsq] at HOB HMU
          rw [← hsm] at HMU HAD
          rw [← hss] at HAD ⊢
          rw [← hsr] at HAD HRES
          have HE0 : Hid (Ext wi wi.drew) := Ext.drew wi
          have y1 := HE0.out.cell g1
          have y2 := HE0.out.cell g2
          have y3 := HE0.out.cell g3
          clear hc1 hc2 hp hq hpq hb1 hb2 hbs hmp hs hsz hsa hsb hsp hss hsp' hsq hsm hsr
          go_upto_region 10 with fail
          go_region_held3 (fun w' => w'.cell? ⟨b, off + i, none⟩ = some (.slice (some ⟨br, or_, none⟩) n cr) ∧ w'.cell? ⟨br, or_ + k, none⟩ = some (.int .i64 p) ∧ w'.cell? ⟨bx, ox + k, none⟩ = some (.int .i64 q) ∧ Hid (Ext wi w'))
            (first | exact ⟨z1, z2, z3, z4⟩ | exact ⟨y1, y2, y3, HE0⟩ | exact ⟨g1, g2, g3, HE0⟩ | go_keep)
            (first
              | (go_at_call 71; have hc := HOB.out _ (Hid.out (p := Ext wi _) (by assumption)); with_reducible refine hc.mono ?_; clear hc; rintro e w5 ⟨rfl, hE5⟩; have q1 := hE5.cell (a := ⟨b, off + i, none⟩) (v := .slice (some ⟨br, or_, none⟩) n cr) (by assumption); have q2 := hE5.cell (a := ⟨br, or_ + k, none⟩) (v := .int .i64 p) (by assumption); have q3 := hE5.cell (a := ⟨bx, ox + k, none⟩) (v := .int .i64 q) (by assumption); have q4 := Lib.hid (Ext.trans (Hid.out (p := Ext wi _) (by assumption)) hE5); (try clear z1 z2 z3 z4); have z1 := q1; have z2 := q2; have z3 := q3; have z4 := q4; clear q1 q2 q3 q4 hE5)
              | (go_at_call 75; have hc := HMU.out _ (Hid.out (p := Ext wi _) (by assumption)); with_reducible refine hc.mono ?_; clear hc; rintro e w5 ⟨rfl, hE5⟩; have q1 := hE5.cell (a := ⟨b, off + i, none⟩) (v := .slice (some ⟨br, or_, none⟩) n cr) (by assumption); have q2 := hE5.cell (a := ⟨br, or_ + k, none⟩) (v := .int .i64 p) (by assumption); have q3 := hE5.cell (a := ⟨bx, ox + k, none⟩) (v := .int .i64 q) (by assumption); have q4 := Lib.hid (Ext.trans (Hid.out (p := Ext wi _) (by assumption)) hE5); (try clear z1 z2 z3 z4); have z1 := q1; have z2 := q2; have z3 := q3; have z4 := q4; clear q1 q2 q3 q4 hE5)
              | (go_at_call 74; have hc := HAD.out _ (Hid.out (p := Ext wi _) (by assumption)); with_reducible refine hc.mono ?_; clear hc; rintro e w5 ⟨rfl, hE5⟩; have q1 := hE5.cell (a := ⟨b, off + i, none⟩) (v := .slice (some ⟨br, or_, none⟩) n cr) (by assumption); have q2 := hE5.cell (a := ⟨br, or_ + k, none⟩) (v := .int .i64 p) (by assumption); have q3 := hE5.cell (a := ⟨bx, ox + k, none⟩) (v := .int .i64 q) (by assumption); have q4 := Lib.hid (Ext.trans (Hid.out (p := Ext wi _) (by assumption)) hE5); (try clear z1 z2 z3 z4); have z1 := q1; have z2 := q2; have z3 := q3; have z4 := q4; clear q1 q2 q3 q4 hE5)
              | (go_at_call 71; have hc := HOA.out _ (Hid.out (p := Ext wi _) (by assumption)); with_reducible refine hc.mono ?_; clear hc; rintro e w5 ⟨rfl, hE5⟩; have q1 := hE5.cell (a := ⟨b, off + i, none⟩) (v := .slice (some ⟨br, or_, none⟩) n cr) (by assumption); have q2 := hE5.cell (a := ⟨br, or_ + k, none⟩) (v := .int .i64 p) (by assumption); have q3 := hE5.cell (a := ⟨bx, ox + k, none⟩) (v := .int .i64 q) (by assumption); have q4 := Lib.hid (Ext.trans (Hid.out (p := Ext wi _) (by assumption)) hE5); (try clear z1 z2 z3 z4); have z1 := q1; have z2 := q2; have z3 := q3; have z4 := q4; clear q1 q2 q3 q4 hE5))
          all_goals
            have HX5 := z4
            go_wp2_with fail
            go_roundw
            case rel => exact ⟨k + 1, by omega, by go_num, by rw [HRES.out], HEI.out.trans HX5.out⟩
            case measure => simp [intOf]; omega
        · obtain rfl : k = n := by omega
          rw [← HDL.out]
          have hbs := dotN_bd (pairL r x) k (fun k _ => pairL_bd HRF.out HXF.out k) k (Nat.le_refl _)
          rw [← HDL.out] at hbs
          obtain ⟨s, hs⟩ : ∃ s, s = dotL r x := ⟨_, rfl⟩
          rw [← hs] at HAT hbs ⊢
          have HSM := Lib.hid (rSmallG_any s wi (by have := intB_size_of s 20 (by rw [show (10 : Nat) ^ 20 = 100000000000000000000 by decide]; omega) (by omega); omega))
          have HFS := Lib.hid (fit_sm s)
          have HFI : Hid (∀ W, Calls Tryz.prog 29 #[.int .i64 (smV s)] W fun e w' => e = .returned (.bool (fitB (smV s))) ∧ W = w') := fun W => fits_any (smV s) W
          have HNF : Hid ((fb && fitB s) = ((apL xss x).take (i + 1)).all fitB) := by
            unfold Hid; rw [HAT.out, List.all_append, ← HFB.out, List.all_cons, List.all_nil, Bool.and_true]
          have HMP : Hid (((apL xss x).map smV).take (i + 1) = ((apL xss x).map smV).take i ++ [smV s]) := by
            unfold Hid; rw [← List.map_take, ← List.map_take, HAT.out, List.map_append]; rfl
          have HBD : Hid (-9223372036854775808 ≤ smV s ∧ smV s ≤ 9223372036854775807) := smV_bd s
          obtain ⟨z, hz⟩ : ∃ v, v = smV s := ⟨_, rfl⟩
          obtain ⟨fs, hfs⟩ : ∃ b, b = fitB s := ⟨_, rfl⟩
          obtain ⟨is', his⟩ : ∃ b, b = decide (fitI s) := ⟨_, rfl⟩
          rw [← hz] at HSM HFS HFI HMP HBD
          rw [← hfs] at HFS HNF
          rw [← his] at HSM HFS
          obtain ⟨fz, hfz⟩ : ∃ b, b = fitB z := ⟨_, rfl⟩
          rw [← hfz] at HFS HFI
          have HLL : Hid ((((apL xss x).map smV).take i).length < 1000000) := Nat.lt_of_le_of_lt (by rw [List.length_take]; exact Nat.min_le_left _ _) (show i < 1000000 by omega)
          clear hs hbs hz hfs his hfz
          have hcs : (fb = false ∧ (fb && fs) = false) ∨ (fb = true ∧ is' = false ∧ (fb && fs) = false) ∨ (fb = true ∧ is' = true ∧ (fb && fs) = fz) := by
            have := HFS.out
            cases fb <;> cases is' <;> simp_all
          go_wp2_with fail
          refine HSM.out.mono ?_
          rintro e w5 ⟨rfl, hE5⟩
          have HX5 := Lib.hid (HWI.out.trans hE5)
          have HB5 := Lib.hid (HB.out.ext (HEI.out.trans hE5))
          have hs5 := HX5.out.size
          clear hE5 HSM
          rcases hcs with ⟨e1, e2⟩ | ⟨e1, e2, e3⟩ | ⟨e1, e2, e3⟩
          case' inl => rw [e2] at HNF; subst e1
          case' inr.inl => rw [e3] at HNF; subst e1 e2
          case' inr.inr => rw [e3] at HNF; subst e1 e2
          case inr.inr =>
            go_wp2_with fail
            refine (HFI.out _).mono ?_
            rintro e w6 ⟨rfl, rfl⟩
            go_wp2_with (at_builtin; go_must (refine wpList_append_build _ rfl _ _ 51 rfl w.heap.size 3 (.int .i64 0) 1 8 Tryz.underlying51 infoInt rfl (by decide) u6 intR (((apL xss x).map smV).take i) z #[.int .i64 z] 3 rfl HB5.out rfl rfl ?_ (fun _ _ => ⟨rfl, HBD.out⟩) HLL.out (by decide) hs5 ?_))
            all_goals first | (simp [Value.oneCell']; done) | skip
            intro v' w6 hB6 hg6 hb6 hs6 _
            rw [← HMP.out] at hB6
            have HB6 := Lib.hid hB6
            have HX6 := Lib.hid (Below.trans HX5.out hb6)
            clear hB6 hg6 hb6
            go_wp2_with fail
            go_roundw
            case rel => exact ⟨i + 1, fz, by omega, by go_num, rfl, HNF.out, HX6.out, HB6.out⟩
            case measure => simp [intOf]; omega
          all_goals
            go_wp2_with (at_builtin; go_must (refine wpList_append_build _ rfl _ _ 51 rfl w.heap.size 3 (.int .i64 0) 1 8 Tryz.underlying51 infoInt rfl (by decide) u6 intR (((apL xss x).map smV).take i) z #[.int .i64 z] 3 rfl HB5.out rfl rfl ?_ (fun _ _ => ⟨rfl, HBD.out⟩) HLL.out (by decide) hs5 ?_))
            all_goals first | (simp [Value.oneCell']; done) | skip
            intro v' w6 hB6 hg6 hb6 hs6 _
            rw [← HMP.out] at hB6
            have HB6 := Lib.hid hB6
            have HX6 := Lib.hid (Below.trans HX5.out hb6)
            clear hB6 hg6 hb6
            go_wp2_with fail
            go_roundw
            case rel => exact ⟨i + 1, false, by omega, by go_num, rfl, HNF.out, HX6.out, HB6.out⟩
            case measure => simp [intOf]; omega
    · obtain rfl : i = xss.length := by omega
      have htk : (apL xss x).take xss.length = apL xss x := by rw [← apL_len xss x, List.take_length]
      have htm : ((apL xss x).map smV).take xss.length = (apL xss x).map smV := by rw [← List.map_take, htk]
      rw [htm] at HB
      rw [htk] at HFB
      have HL := Lib.hid HB.out
      clear htk htm
      go_wp2_with fail
      go_ret2
      exact ⟨u6, by rw [← HFB.out]; rfl, HL.out, HE.out⟩
theorem refApply_any (xss : List (List Int)) (x : List Int) (v vx : Value) (w : World) (h : Rows2 w v xss) (hx : Ints w vx x) (hr : ∀ r ∈ xss, Fit9 r ∧ r.length = x.length) (hxf : Fit9 x) (hlx : x.length ≤ 14) (hl : xss.length ≤ 1000) (ht : Pow10 w) :
    Calls Tryz.prog 37 #[v, vx] w fun e w' => ∃ u, e = .returned (.tuple #[u, .bool ((apL xss x).all fitB)]) ∧ Ints w' u ((apL xss x).map smV) ∧ Ext w w' :=
  (refApplyB_any xss x v vx w h hx hr hxf hlx hl ht).mono fun _ _ ⟨u, h1, h2, h3⟩ => ⟨u, h1, h2.list, h3⟩
end Go.Proofs.YtpeinobepiodaaaGreatDoor
