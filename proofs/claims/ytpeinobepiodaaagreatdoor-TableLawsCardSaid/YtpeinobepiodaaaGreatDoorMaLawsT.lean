/- Merged: LawsT. -/
import Derived.Test.YtpeinobepiodaaaGreatDoorMaLawsP
import Derived.Test.YtpeinobepiodaaaGreatDoorMaRanksT
import Derived.Deep.RegionHeld3
/- The walk of TableLaws. -/
namespace Go.Proofs.YtpeinobepiodaaaGreatDoor
set_option linter.unusedVariables false
set_option linter.unusedSimpArgs false
open Go.RowKit

/-- The first two rows exchanged. -/
theorem RowsO.swap01 {e : TypeId} {w : World} {ob base g n cap : Nat} {t0 t1 : Nat × Nat} {ts : List (Nat × Nat)} {r0 r1 : List Int} {rs : List (List Int)} (h : RowsO intK e w ob base (.slice (some ⟨g, 0, none⟩) n cap) (t0 :: t1 :: ts) (r0 :: r1 :: rs)) :
    RowsO intK e ((w.setCell ⟨g, 0, none⟩ (tagQ t1 r1.length)).setCell ⟨g, 1, none⟩ (tagQ t0 r0.length)) ob base (.slice (some ⟨g, 0, none⟩) n cap) (t1 :: t0 :: ts) (r1 :: r0 :: rs) := by
  have hn : n = (r0 :: r1 :: rs).length := by
    rcases h.own.2 with ⟨e, _⟩ | ⟨g', cap', cur, e, _⟩
    · cases e
    · simp only [Value.slice.injEq] at e; exact e.2.1
  subst hn
  have hg1 := grown_setCell w g 0 (tagQ t1 r1.length)
  have hg2 := grown_setCell (w.setCell ⟨g, 0, none⟩ (tagQ t1 r1.length)) g 1 (tagQ t0 r0.length)
  have hg := grown_trans hg1 hg2
  have hrow : ∀ (i : Nat) t r, (t0 :: t1 :: ts)[i]? = some t → (r0 :: r1 :: rs)[i]? = some r → r.length ≤ t.2 ∧ t.2 ≤ 9223372036854775807 ∧ RowI ((w.setCell ⟨g, 0, none⟩ (tagQ t1 r1.length)).setCell ⟨g, 1, none⟩ (tagQ t0 r0.length)) t.1 r ∧ base ≤ t.1 ∧ (Value.slice (some ⟨g, 0, none⟩) (r0 :: r1 :: rs).length cap).ownBlock ≠ some t.1 := by
    intro i t r ht hr
    obtain ⟨k1, k2, k3, k4, k5⟩ := h.row i t r ht hr
    exact ⟨k1, k2, RowI.same k3 hg.size (hg.block t.1 (RowI.lt k3) fun e2 => k5 (by rw [e2]; rfl)), k4, k5⟩
  refine ⟨?_, ?_, fun i t r ht hr => ?_, ?_⟩
  · have := h.len; simpa using this
  · have h0 := (World.ownsRow.stored h.own 0 (tagQ t1 r1.length)).1
    have h1 := (World.ownsRow.stored h0 1 (tagQ t0 r0.length)).1
    exact h1
  · match i with
    | 0 => exact hrow 1 t r (by simpa using ht) (by simpa using hr)
    | 1 => exact hrow 0 t r (by simpa using ht) (by simpa using hr)
    | i + 2 => exact hrow (i + 2) t r (by simpa using ht) (by simpa using hr)
  · have := h.nodup
    simp only [List.map_cons, List.nodup_cons, List.mem_cons, not_or] at this ⊢
    obtain ⟨⟨a1, a2⟩, a3, a4⟩ := this
    exact ⟨⟨fun e => a1 e.symm, a3⟩, a2, a4⟩

set_option maxRecDepth 100000 in
set_option maxHeartbeats 8000000 in
theorem laws_walk (x0 x1 : Int) (ve : Value) (es : List Int) (y0 y1 : Int) (vf : Value) (fs : List Int) (s : Int) (w : World) (hx0 : 0 ≤ x0 ∧ x0 ≤ 255) (hx1 : 0 ≤ x1 ∧ x1 ≤ 255) (h : I8s w ve es)
    (hy0 : 0 ≤ y0 ∧ y0 ≤ 255) (hy1 : 0 ≤ y1 ∧ y1 ≤ 255) (h' : I8s w vf fs) (hs : 0 ≤ s ∧ s ≤ 255) (ht : LibT w) :
    Calls Tryz.prog 13 #[.agg #[.int .u8 x0, .int .u8 x1, ve], .agg #[.int .u8 y0, .int .u8 y1, vf], .int .u8 s] w fun e w' => e = .returned (.bool true) ∧ Ext w w' := by
  have HT := Lib.hid ht
  obtain ⟨av, cv, hve, e1, e2, e3, hes, -⟩ := I8s.open h
  obtain ⟨af, cf, hvf, f1, f2, f3, hfs, -⟩ := I8s.open h'
  subst hve hvf
  have HES := Lib.hid hes; have HFS := Lib.hid hfs
  obtain ⟨n, hn⟩ : ∃ n : Nat, (n : Int) = s.tmod 5 := ⟨(s.tmod 5).toNat, by rw [Int.toNat_of_nonneg (Int.tmod_nonneg _ hs.1)]⟩
  have hn5 : n < 5 := by have := (tmod_bd s 5 (by omega)).2; omega
  have w1 : IntKind.u8.wrap (s.tmod 5) = (n : Int) := by rw [← hn, IntKind.wrap_u8]; omega
  have v1 := hn.symm
  have HK : Hid (∀ W, Ext w W → Calls Tryz.prog 14 #[] W fun e w' => e = .returned (.bool true) ∧ Ext W w') := fun W hW => known_any W (HT.out.pow.ext hW)
  have HMA : Hid (∀ W, Ext w W → Calls Tryz.prog 26 #[.agg #[.int .u8 x0, .int .u8 x1, .slice av es.length cv], .int .i64 (n : Int), .int .i64 (n : Int)] W fun e w' => ∃ v tags, e = .returned v ∧ RowsO intK 51 w' (W.heap.size + 1) (W.heap.size + 1) v tags (makeM es n n) ∧ Ext W w') := fun W hW => make6_any x0 x1 _ es n n (by omega) (by omega) W (h.ext hW)
  have HMB : Hid (∀ W, Ext w W → Calls Tryz.prog 26 #[.agg #[.int .u8 y0, .int .u8 y1, .slice af fs.length cf], .int .i64 (n : Int), .int .i64 (n : Int)] W fun e w' => ∃ v, e = .returned v ∧ Rows2 w' v (makeM fs n n) ∧ Ext W w') := fun W hW =>
    (make6_any y0 y1 _ fs n n (by omega) (by omega) W (h'.ext hW)).mono fun _ _ ⟨v, tags, g1, g2, g3⟩ => ⟨v, g1, make_rows2 hfs g2, g3⟩
  obtain ⟨W1, hW1⟩ : ∃ W1, W1 = w.alloc (.cells #[.int .u8 x0, .int .u8 x1, .slice av es.length cv] 49) := ⟨_, rfl⟩
  have hE1 : Ext w W1 := by rw [hW1]; exact Ext.alloc _ _
  have hsz1 : W1.heap.size = w.heap.size + 1 := by rw [hW1]; exact World.size_alloc _ _
  have hb1 : W1.heap[w.heap.size]? = some (.cells #[.int .u8 x0, .int .u8 x1, .slice av es.length cv] 49 (0, 0)) := by rw [hW1]; exact block_new _ _ _
  obtain ⟨W2, hW2⟩ : ∃ W2, W2 = W1.alloc (.cells #[.int .u8 y0, .int .u8 y1, .slice af fs.length cf] 49) := ⟨_, rfl⟩
  have hE2 : Ext W1 W2 := by rw [hW2]; exact Ext.alloc _ _
  have hb2 : W2.heap[W1.heap.size]? = some (.cells #[.int .u8 y0, .int .u8 y1, .slice af fs.length cf] 49 (0, 0)) := by rw [hW2]; exact block_new _ _ _
  have HB1 : Hid (W2.heap[w.heap.size]? = some (.cells #[.int .u8 x0, .int .u8 x1, .slice av es.length cv] 49 (0, 0))) := (hE2.block _ (by omega)).trans hb1
  have HB2 := Lib.hid hb2
  have HW2 := Lib.hid (hE1.trans hE2)
  have hW1' := hW1.symm
  have hW2' := hW2.symm
  clear hn ht h h' hes hfs e1 e2 e3 f1 f2 f3 hW1 hW2 hE1 hE2 hb1 hb2
  go_enter Tryz.func13, Tryz.ntmps13
  go_wp2_with fail
  refine (HK.out _ HW2.out).mono ?_
  rintro e wk ⟨rfl, hEk⟩
  have HEk := Lib.hid (HW2.out.trans hEk)
  obtain ⟨B2, hB2⟩ : ∃ B2, B2 = w.heap.size + 1 := ⟨_, rfl⟩
  rw [hsz1, ← hB2] at HB2
  rw [← hB2]
  have hbA : wk.heap[w.heap.size]? = some (.cells #[.int .u8 x0, .int .u8 x1, .slice av es.length cv] 49 (0, 0)) := (hEk.block _ ((Array.getElem?_eq_some_iff.1 HB1.out).1)).trans HB1.out
  have hbB : wk.heap[B2]? = some (.cells #[.int .u8 y0, .int .u8 y1, .slice af fs.length cf] 49 (0, 0)) := (hEk.block _ ((Array.getElem?_eq_some_iff.1 HB2.out).1)).trans HB2.out
  have c0 := block_cell hbA 0
  have c1 := block_cell hbA 1
  have c2 := block_cell hbA 2
  have d0 := block_cell hbB 0
  have d1 := block_cell hbB 1
  have d2 := block_cell hbB 2
  simp only [List.getElem?_toArray, List.getElem?_cons_zero, List.getElem?_cons_succ] at c0 c1 c2 d0 d1 d2
  clear hEk hW1' hW2' hbA hbB hB2 hsz1
  have HC0 := Lib.hid c0
  have HX : Hid (tabE (makeM es n n) = 0 ∧ tabE (makeM fs n n) = 0) := ⟨makeM_tab HES.out (by omega) (by omega), makeM_tab HFS.out (by omega) (by omega)⟩
  go_upto_region 4 with fail
  go_cut [8, 9] from 29 to 36 (fun p q wx => ∃ (ob : Nat) (ta : List (Nat × Nat)), w.heap.size ≤ ob ∧ Hid (RowsO intK 51 wx ob ob p ta (makeM es n n)) ∧ Hid (Rows2 wx q (makeM fs n n)) ∧ Hid (Ext w wx))
  case first =>
    have HX0 : Hid (Ext w wk.drew) := HEk.out.trans (Ext.drew _)
    have HSZ0 : Hid (w.heap.size ≤ wk.drew.heap.size + 1) := by have := HX0.out.size; unfold Hid; omega
    go_region_with (first
      | (go_at_call 26; have hc := HMA.out _ (Hid.out (p := Ext w _) (by assumption)); with_reducible refine hc.mono ?_; clear hc; rintro e wa ⟨va, ta, rfl, hO, hE⟩; have HOA := Lib.hid hO; have HEA := Lib.hid hE; have d0 := hE.cell ((Ext.drew wk).cell d0); have d1 := hE.cell ((Ext.drew wk).cell d1); have d2 := hE.cell ((Ext.drew wk).cell d2); have HXA := Lib.hid (HX0.out.trans hE); clear hO hE)
      | (go_at_call 26; have hc := HMB.out _ (Hid.out (p := Ext w _) (by assumption)); with_reducible refine hc.mono ?_; clear hc; rintro e wb ⟨vb, rfl, hO, hE⟩; have HOB := Lib.hid hO; have HEB := Lib.hid hE; have HXB := Lib.hid (HXA.out.trans hE); clear hO hE))
    all_goals
      go_wp2_with fail
      go_meet
      exact ⟨_, ta, HSZ0.out, HOA.out.ext HEB.out, HOB.out, HXB.out⟩
  case rest =>
    obtain ⟨ob, ta, hob, HRX, HRY, HEC⟩ := hcut
    obtain ⟨w3, rfl⟩ : ∃ w3 : World, w3 = wc := ⟨_, rfl⟩
    have HXR : Hid (Rows2 w3 u8 (makeM es n n)) := make_rows2 HES.out HRX.out
    have HXM := Lib.hid (makeM_rows (c := n) (r := n) HES.out)
    have HYM := Lib.hid (makeM_rows (c := n) (r := n) HFS.out)
    obtain ⟨X, hX⟩ : ∃ X, X = makeM es n n := ⟨_, rfl⟩
    obtain ⟨Y, hY⟩ : ∃ Y, Y = makeM fs n n := ⟨_, rfl⟩
    have HXL : Hid (X.length = n) := by unfold Hid; rw [hX, makeM_len]
    have HYL : Hid (Y.length = n) := by unfold Hid; rw [hY, makeM_len]
    rw [← hX] at HX HRX HXR HXM
    rw [← hY] at HX HRY HYM
    have hxr : ∀ r ∈ X, r.length = n := fun r hr => (HXM.out r hr).1
    have hyr : ∀ r ∈ Y, r.length = n := fun r hr => (HYM.out r hr).1
    have hcX : colsN X = n := by
      by_cases h0 : X = []
      · have := HXL.out; rw [h0] at this ⊢; simp at this; rw [← this]; rfl
      · exact colsN_of hxr h0
    have hcY : colsN Y = n := by
      by_cases h0 : Y = []
      · have := HYL.out; rw [h0] at this ⊢; simp at this; rw [← this]; rfl
      · exact colsN_of hyr h0
    have hPR : ∀ r ∈ mulL X Y, r.length = n := mulL_rows (fun _ => hcY) HXL.out
    have hPL : (mulL X Y).length = n := by rw [mulL_len]; exact HXL.out
    have hPF : ∀ r ∈ mulL X Y, Fit9 r := by
      intro r hr a ha
      unfold mulL at hr
      obtain ⟨q, hq, rfl⟩ := List.mem_map.1 hr
      unfold mulRow at ha
      obtain ⟨c, hc, rfl⟩ := List.mem_map.1 ha
      have key : ∀ (l : List Int), (∀ a ∈ l, -128 ≤ a ∧ a ≤ 127) → ∀ k, -128 ≤ l.getD k 0 ∧ l.getD k 0 ≤ 127 := by
        intro l hl k
        rw [List.getD_eq_getElem?_getD]
        cases h : l[k]? with
        | none => simp
        | some a => exact hl a (List.mem_of_getElem? h)
      have hcol : ∀ a ∈ colL Y c, -128 ≤ a ∧ a ≤ 127 := by
        intro a ha
        obtain ⟨r, hr, rfl⟩ := List.mem_map.1 ha
        exact key r (HYM.out r hr).2 c
      have hb : ∀ k, (dotN (pairL q (colL Y c)) k).natAbs ≤ k * 16384 := by
        intro k
        induction k with
        | zero => show (0 : Int).natAbs ≤ _; simp
        | succ k ih =>
          have h1 := key q (HXM.out q hq).2 k
          have h2 := key (colL Y c) hcol k
          have h3 : (q.getD k 0 * (colL Y c).getD k 0).natAbs ≤ 128 * 128 := by
            rw [Int.natAbs_mul]; exact Nat.mul_le_mul (by omega) (by omega)
          show (dotN (pairL q (colL Y c)) k + q.getD k 0 * (colL Y c).getD k 0).natAbs ≤ _
          omega
      have := hb q.length
      rw [hxr q hq] at this ⊢
      omega
    have hPE : tabE (mulL X Y) = 0 := tabE_of (n := n) (by omega) fun r hr => ⟨hPR r hr, by omega, hPF r hr⟩
    have hpe : prodE X Y = 0 := by
      unfold prodE
      rw [if_pos HX.out.1, if_pos HX.out.2, if_pos (by rw [hcX, HYL.out]), if_pos]
      rw [List.all_eq_true]
      intro r hr
      rw [List.all_eq_true]
      intro a ha
      exact (fitB_iff a).2 (hPF r hr a ha)
    obtain ⟨hTL, hTD⟩ := det_trans HXL.out hxr
    have hTR : ∀ r ∈ transL X, r.length = n := transL_rows HXL.out
    have hTE := trans_tab HX.out.1
    have HSQ : ∀ {M : List (List Int)}, M.length = n → (∀ r ∈ M, r.length = n) → 0 < M.length → colsN M = M.length := fun hl hr h0 => by
      rw [hl]; exact colsN_of hr (by intro e; rw [e] at h0; simp at h0)
    have HDET : Hid (∀ (M : List (List Int)) (v : Value) (W : World), Ext w W → Rows2 W v M → tabE M = 0 → M.length = n → (∀ r ∈ M, r.length = n) → Calls Tryz.prog 16 #[v] W fun e w' => e = .returned (.tuple #[.string (intB (detS M).num), .int .i64 0]) ∧ Ext W w') := fun M v W hW hM hE hl hr =>
      det_any M v W hM hE (HSQ hl hr) (fun c _ => tab_small hE c) (HT.out.pow.ext hW)
    have HMU : Hid (∀ W, Ext w3 W → Calls Tryz.prog 39 #[u8, u9] W fun e w' => ∃ u, e = .returned (.tuple #[u, .int .i64 0]) ∧ Rows2 w' u (mulL X Y) ∧ Ext W w') := fun W hW =>
      (tMul_any X Y _ _ W (HXR.out.ext hW) (HRY.out.ext hW) (HT.out.ext (HEC.out.trans hW))).mono fun e w' ⟨u, g1, g2, g3, g4⟩ => ⟨u, by rw [g1, hpe], g2 hpe, g4⟩
    have HTR : Hid (∀ W, Ext w3 W → Calls Tryz.prog 34 #[u8] W fun e w' => ∃ u, e = .returned (.tuple #[u, .int .i64 0]) ∧ Rows2 w' u (transL X) ∧ Ext W w') := fun W hW => (tTrans_any X _ W (HXR.out.ext hW) HX.out.1).mono fun _ _ ⟨u, g1, g2, g3⟩ => ⟨u, g1, g2.list, g3⟩
    have HDX : Hid (∀ W, Ext w3 W → Calls Tryz.prog 16 #[u8] W fun e w' => e = .returned (.tuple #[.string (intB (detS X).num), .int .i64 0]) ∧ Ext W w') := fun W hW => HDET.out X u8 W (HEC.out.trans hW) (HXR.out.ext hW) HX.out.1 HXL.out hxr
    have HDY : Hid (∀ W, Ext w3 W → Calls Tryz.prog 16 #[u9] W fun e w' => e = .returned (.tuple #[.string (intB (detS Y).num), .int .i64 0]) ∧ Ext W w') := fun W hW => HDET.out Y u9 W (HEC.out.trans hW) (HRY.out.ext hW) HX.out.2 HYL.out hyr
    have hnum : (detS (mulL X Y)).num = (detS X).num * (detS Y).num := by
      have h1 := detS_int HXL.out hxr (fun r hr a ha => by have := (HXM.out r hr).2 a ha; omega)
      have h2 := detS_int HYL.out hyr (fun r hr a ha => by have := (HYM.out r hr).2 a ha; omega)
      have h3 := detS_int hPL hPR hPF
      have h4 := det_mul HXL.out hxr HYL.out hyr
      have h5 : ((detS (mulL X Y)).num : Rat) = (((detS X).num * (detS Y).num : Int) : Rat) := by rw [Rat.intCast_mul, h1, h2, h3, h4]
      exact congrArg Rat.num h5
    have HDP : Hid (∀ v W, Ext w3 W → Rows2 W v (mulL X Y) → Calls Tryz.prog 16 #[v] W fun e w' => e = .returned (.tuple #[.string (intB ((detS X).num * (detS Y).num)), .int .i64 0]) ∧ Ext W w') := fun v W hW hv => by
      have := HDET.out (mulL X Y) v W (HEC.out.trans hW) hv hPE hPL hPR
      rw [hnum] at this
      exact this
    have HDT : Hid (∀ v W, Ext w3 W → Rows2 W v (transL X) → Calls Tryz.prog 16 #[v] W fun e w' => e = .returned (.tuple #[.string (intB (detS X).num), .int .i64 0]) ∧ Ext W w') := fun v W hW hv => by
      have := HDET.out (transL X) v W (HEC.out.trans hW) hv hTE hTL hTR
      rw [hTD] at this
      exact this
    have hsX : (intB (detS X).num).size ≤ 9000 := (tab_small HX.out.1 X.length).2.1
    have hsY : (intB (detS Y).num).size ≤ 9000 := (tab_small HX.out.2 Y.length).2.1
    obtain ⟨dx, hdx⟩ : ∃ d, d = (detS X).num := ⟨_, rfl⟩
    obtain ⟨dy, hdy⟩ : ∃ d, d = (detS Y).num := ⟨_, rfl⟩
    rw [← hdx] at HDX HDP HDT hsX
    rw [← hdy] at HDY HDP hsY
    have HWM : Hid (∀ W, Ext w3 W → Calls Tryz.prog 49 #[.string (intB dx), .string (intB dy)] W fun e w' => e = .returned (.string (intB (dx * dy))) ∧ Ext W w') := fun W hW => mulI_any dx dy W (by omega) (by omega) (HT.out.pow.ext (HEC.out.trans hW))
    have HNG : Hid (∀ W, Calls Tryz.prog 50 #[.string (intB dx)] W fun e w' => e = .returned (.string (intB (-dx))) ∧ Ext W w') := fun W => neg_any dx W (by omega)
    have HDS : Hid (∀ r0 r1 l, X = r0 :: r1 :: l → (detS (r1 :: r0 :: l)).num = -dx) := fun r0 r1 l e => by
      have := det_swap01 (n := n) (r0 := r0) (r1 := r1) (l := l) (by rw [← e]; exact HXL.out) (by rw [← e]; exact hxr)
      rw [this, Rat.neg_num, ← e, hdx]
    obtain ⟨sx, hsx⟩ : ∃ s, s = intB dx := ⟨_, rfl⟩
    obtain ⟨sy, hsy⟩ : ∃ s, s = intB dy := ⟨_, rfl⟩
    obtain ⟨sm, hsm⟩ : ∃ s, s = intB (dx * dy) := ⟨_, rfl⟩
    rw [← hsx] at HDX HDT HWM HNG
    rw [← hsy] at HDY HWM
    rw [← hsm] at HDP HWM
    have HXRR := Lib.hid hxr
    have hRX := HRX.out.form2
    obtain ⟨pa, pc, hpa⟩ := hRX
    rw [HXL.out] at hpa
    subst hpa
    have qm : (sm.toList != sm.toList) = false := by simp
    have qx : (sx.toList != sx.toList) = false := by simp
    clear hxr hyr hcX hcY hPR hPL hPF hPE hpe hTL hTD hTR hTE HSQ hnum hsX hsY hdx hdy hsx hsy hsm hX hY
    go_wp2_with fail
    refine (HMU.out _ (Ext.refl _)).mono ?_
    rintro e w4 ⟨um, rfl, hum, hE4⟩
    have HUM := Lib.hid hum
    have HE4 := Lib.hid hE4
    clear hum hE4
    go_wp2_with fail
    refine (HTR.out _ HE4.out).mono ?_
    rintro e w5 ⟨ut, rfl, hut, hE5⟩
    have HUT := Lib.hid hut
    have HUM5 := Lib.hid (HUM.out.ext hE5)
    have HE5 := Lib.hid (HE4.out.trans hE5)
    clear hut hE5
    go_wp2_with fail
    refine (HDX.out _ HE5.out).mono ?_
    rintro e w6 ⟨rfl, hE6⟩
    have HUT6 := Lib.hid (HUT.out.ext hE6)
    have HUM6 := Lib.hid (HUM5.out.ext hE6)
    have HE6 := Lib.hid (HE5.out.trans hE6)
    clear hE6
    go_wp2_with fail
    refine (HDY.out _ HE6.out).mono ?_
    rintro e w7 ⟨rfl, hE7⟩
    have HUT7 := Lib.hid (HUT6.out.ext hE7)
    have HUM7 := Lib.hid (HUM6.out.ext hE7)
    have HE7 := Lib.hid (HE6.out.trans hE7)
    clear hE7
    go_wp2_with fail
    refine (HDP.out _ _ HE7.out HUM7.out).mono ?_
    rintro e w8 ⟨rfl, hE8⟩
    have HUT8 := Lib.hid (HUT7.out.ext hE8)
    have HE8 := Lib.hid (HE7.out.trans hE8)
    clear hE8
    go_wp2_with fail
    refine (HDT.out _ _ HE8.out HUT8.out).mono ?_
    rintro e w9 ⟨rfl, hE9⟩
    have HE9 := Lib.hid (HE8.out.trans hE9)
    clear hE9
    go_wp2_with fail
    refine (HWM.out _ HE9.out).mono ?_
    rintro e wA ⟨rfl, hEA⟩
    have HEA := Lib.hid (HE9.out.trans hEA)
    clear hEA
    by_cases hn2 : n < 2
    · have q2 : (n : Int) < 2 := by omega
      go_wp2_with fail
      go_ret
      exact ⟨rfl, HEC.out.trans HEA.out⟩
    · have q2 : ¬ (n : Int) < 2 := by omega
      have HRXA := Lib.hid (HRX.out.ext HEA.out)
      match X, HXL, ta, HRX, HRXA with
      | [], HXL, ta, HRX, HRXA => exact absurd HXL.out (by simp; omega)
      | [a], HXL, ta, HRX, HRXA => exact absurd HXL.out (by simp; omega)
      | r0 :: r1 :: l, HXL, [], HRX, HRXA => exact absurd HRX.out.len (by simp)
      | r0 :: r1 :: l, HXL, [t0], HRX, HRXA => exact absurd HRX.out.len (by simp)
      | r0 :: r1 :: l, HXL, t0 :: t1 :: ts, HRX, HRXA =>
        obtain ⟨g, cap, hg, hg2, -⟩ := owns_shape HRXA.out.own (by simp)
        obtain rfl : pa = some ⟨g, 0, none⟩ := by simp only [Value.slice.injEq] at hg; exact hg.1
        have hl := HXL.out
        obtain ⟨-, -, hfr, hcl, -⟩ := RowsO.parts (m := r0 :: r1 :: l) (by rw [hl]; exact HRXA.out)
        have c0' := (hcl 0 t0 r0 rfl rfl).1
        have c1' := (hcl 1 t1 r1 rfl rfl).1
        have hr0 := HXRR.out r0 (by simp)
        have hr1 := HXRR.out r1 (by simp)
        have HSW : Hid (RowsO intK 51 ((wA.setCell ⟨g, 0, none⟩ (.slice (some ⟨t1.1, 0, none⟩) n t1.2)).setCell ⟨g, 1, none⟩ (.slice (some ⟨t0.1, 0, none⟩) n t0.2)) ob ob (.slice (some ⟨g, 0, none⟩) n pc) (t1 :: t0 :: ts) (r1 :: r0 :: l)) := by
          have := HRXA.out.swap01
          unfold tagQ at this
          rw [hr0, hr1] at this
          exact this
        rw [hr0] at c0'
        rw [hr1] at c1'
        have f0 := hfr 0
        have f1 := hfr 1
        have HXF : Hid (Ext w ((wA.setCell ⟨g, 0, none⟩ (.slice (some ⟨t1.1, 0, none⟩) n t1.2)).setCell ⟨g, 1, none⟩ (.slice (some ⟨t0.1, 0, none⟩) n t0.2))) :=
          Below.setCell (Below.setCell (HEC.out.trans HEA.out) (p := ⟨g, 0, none⟩) (Nat.le_trans hob hg2) _) (p := ⟨g, 1, none⟩) (Nat.le_trans hob hg2) _
        have HSWR : Hid (∀ q ∈ r1 :: r0 :: l, q.length = n ∧ ∀ a ∈ q, -128 ≤ a ∧ a ≤ 127) := fun q hq => HXM.out q (by simp at hq ⊢; rcases hq with h | h | h <;> simp [h])
        have HDZ : Hid (∀ W, Ext ((wA.setCell ⟨g, 0, none⟩ (.slice (some ⟨t1.1, 0, none⟩) n t1.2)).setCell ⟨g, 1, none⟩ (.slice (some ⟨t0.1, 0, none⟩) n t0.2)) W → Calls Tryz.prog 16 #[.slice (some ⟨g, 0, none⟩) n pc] W fun e w' => e = .returned (.tuple #[.string (intB (-dx)), .int .i64 0]) ∧ Ext W w') := fun W hW => by
          have := HDET.out (r1 :: r0 :: l) _ W (HXF.out.trans hW) ((HSW.out.rows2 fun q hq a ha => by have := (HSWR.out q hq).2 a ha; omega).ext hW) (tabE_of (n := n) (by simp at hl ⊢; omega) fun q hq => ⟨(HSWR.out q hq).1, by omega, fun a ha => by have := (HSWR.out q hq).2 a ha; omega⟩) (by simpa using hl) (fun q hq => (HSWR.out q hq).1)
          rw [HDS.out r0 r1 l rfl] at this
          exact this
        obtain ⟨sz, hsz⟩ : ∃ s, s = intB (-dx) := ⟨_, rfl⟩
        rw [← hsz] at HDZ HNG
        have p1 : (0 : Int) < (n : Int) := by omega
        have p2 : (1 : Int) < (n : Int) := by omega
        have p3 : 0 < n := by omega
        have p4 : 1 < n := by omega
        have qz : (sz.toList == sz.toList) = true := by simp
        clear hg hg2 hl hfr hcl hr0 hr1 hsz
        go_wp2_with fail
        go_region
        all_goals
          go_wp2_with fail
          refine (HDZ.out _ (by first | exact Ext.refl _ | exact Ext.drew _)).mono ?_
          rintro e wB ⟨rfl, hEB⟩
          have HEB : Hid (Ext w wB) := by first | exact HXF.out.trans hEB | exact (HXF.out.trans (Ext.drew _)).trans hEB
          clear hEB
          go_wp2_with fail
          refine (HNG.out _).mono ?_
          rintro e wC ⟨rfl, hEC⟩
          have HEC2 := Lib.hid (HEB.out.trans hEC)
          clear hEC
          go_wp2_with fail
          go_ret
          exact ⟨rfl, HEC2.out⟩
end Go.Proofs.YtpeinobepiodaaaGreatDoor
