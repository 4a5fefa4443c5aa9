/- Contract of drift.Reverse at a right walk. -/
import Derived.Test.YtplcikgmefcfbaaBoxI
import Derived.Test.YtplcikgmefcfbaaSame
import Derived.Test.YtplcikgmefcfbaaRevPlain
namespace Go.Proofs.Ytplcikgmefcfbaa
set_option linter.unusedVariables false
set_option linter.unusedSimpArgs false
open Go.RowKit Go.Shelf
attribute [local go_sem] Oper.semAt_some

theorem backwardChords_any (a : Option Addr) (len cap : Nat) (w : World) :
    Calls Try.prog 42 #[.slice a len cap] w fun e w' => e = .returned (.func (.func 63) #[] #[.pointer (some ⟨w.heap.size, 0, none⟩)]) ∧ w' = w.alloc (.cells #[.slice a len cap] 27) := by
  go_enter Try.func42, Try.ntmps42
  go_wp2
  go_ret
  exact ⟨rfl, rfl⟩
theorem backwardLinks_any (a : Option Addr) (len cap : Nat) (w : World) :
    Calls Try.prog 44 #[.slice a len cap] w fun e w' => e = .returned (.func (.func 64) #[] #[.pointer (some ⟨w.heap.size, 0, none⟩)]) ∧ w' = w.alloc (.cells #[.slice a len cap] 28) := by
  go_enter Try.func44, Try.ntmps44
  go_wp2
  go_ret
  exact ⟨rfl, rfl⟩

theorem owns_slice {w : World} {base : Nat} {e : TypeId} {k : Nat} {v : Value} {α : Type} {R : World → List Value → α → Prop} {xs : List α} (h : Build w base e k v R xs) : ∃ a n c, v = .slice a n c := by
  obtain ⟨us, _, _, h3, _⟩ := h
  rcases h3.2 with ⟨rfl, -⟩ | ⟨g, cap, cur, rfl, -⟩ <;> exact ⟨_, _, _, rfl⟩
theorem backs_map {α : Type} (xs : List (List α)) : (backs xs.length xs.length).map (fun x => xs.getD x.val []) = xs.reverse := by
  unfold backs
  rw [List.take_of_length_le (by simp), List.map_reverse]
  congr 1
  refine List.ext_getElem? fun j => ?_
  rw [List.getElem?_map]
  by_cases hj : j < xs.length
  · rw [List.getElem?_eq_getElem (by simpa using hj), List.getElem?_eq_getElem hj]
    simp [List.getD_eq_getElem?_getD, hj]
  · rw [List.getElem?_eq_none (by simpa using hj), List.getElem?_eq_none (by simpa using hj)]
    rfl
theorem backs_map2 {α β : Type} (f : α → β) (xs : List (List α)) : (backs xs.length xs.length).map (fun x => (xs.getD x.val []).map f) = xs.reverse.map fun l => l.map f := by
  rw [← backs_map xs, List.map_map]; rfl
set_option maxRecDepth 100000 in
set_option maxHeartbeats 4000000 in
theorem Reverse_any (k : Wk) (v : Value) (w : World) (h : WalkAt w v k) (hz : walkE k = 0) :
    Calls Try.prog 20 #[v] w fun e w' => ∃ r, e = .returned (.tuple #[r, .int .i64 0]) ∧ Ext w w' ∧ WalkAt w' r (revWk k) := by
  have HWALK := Lib.hid h
  obtain ⟨vp, vc, vl, rfl, h1, h2, h3⟩ := h
  obtain ⟨ap, cp, rfl, -, -, -, -, -⟩ := h1.open
  obtain ⟨ac, cc, rfl, hlc, hmc, -, -⟩ := inCell.open h2
  obtain ⟨al, cl, rfl, hll, hml, -, -⟩ := inCell.open h3
  obtain ⟨uc, huc, hcc, hucr⟩ := inCell.values h2
  obtain ⟨ul, hul, hcl, hulr⟩ := inCell.values h3
  have HRK := Lib.hid (walkE_right hz)
  have HCK := Lib.hid (fun W' he => check_any k _ W' (HWALK.out.ext (w' := W') he))
  rw [hz] at HCK
  have HP := Lib.hid h1
  have HCC := Lib.hid hcc
  have HCL := Lib.hid hcl
  have HUC := Lib.hid hucr; have HUL := Lib.hid hulr
  have HUC0 := Lib.hid huc; have HUL0 := Lib.hid hul
  clear h1 h2 h3 hcc hcl hucr hulr huc hul
  obtain ⟨w1, hW1, hE1, hsz1, b0, b1, b2⟩ := box_walk w (.slice ap k.primes.length cp) (.slice ac k.chords.length cc) (.slice al k.links.length cl) 30
  refine (callsIn_wide (n := 9)).1 ?_
  refine callsIn_of_wp_marks Try.func20 rfl trivial ?_ rfl
  simp only [Try.ntmps20, List.size_toArray, List.length_cons, List.length_nil, Nat.reduceAdd, Nat.reduceSub, Array.replicate_succ, Array.replicate_zero, List.push_toArray, List.append_toArray, List.nil_append, List.cons_append]
  have HE1 := Lib.hid hE1
  have hs1 : w1.heap.size = w.heap.size + 1 := by rw [← hW1]; simp
  have hz1 := block_new w1 #[.slice none 0 0, .slice none 0 0, .slice none 0 0] 30
  obtain ⟨w2, hW2⟩ : ∃ w2, w1.alloc (.cells #[.slice none 0 0, .slice none 0 0, .slice none 0 0] 30) = w2 := ⟨_, rfl⟩
  have hE2 : Ext w1 w2 := by rw [← hW2]; exact Ext.alloc _ _
  rw [hW2, hs1] at hz1
  have HZ2 := Lib.hid hz1
  have c0 := hE2.cell b0; have c1 := hE2.cell b1; have c2 := hE2.cell b2
  have HE2 := Lib.hid (hE1.trans hE2)
  have HCK2 := Lib.hid (HCK.out w2 HE2.out)
  clear hz1 b0 b1 b2 HCK hE1 hE2
  gi_wp2_with fail
  clear hW1 hW2 HE1
  refine ⟨trivial, ?_⟩
  refine (callsIn_wide.2 HCK2.out).mono ?_
  rintro e w3 ⟨rfl, hE3⟩
  have d0 := Ext.cell hE3 c0; have d1 := Ext.cell hE3 c1; have d2 := Ext.cell hE3 c2
  have HZ3 := Lib.hid (block_ext HZ2.out hE3)
  have hs31 : w.heap.size + 1 < w3.heap.size := block_lt HZ3.out
  have HE3 := Lib.hid (Ext.trans HE2.out hE3)
  have HCL3 := Lib.hid (clonePrimes_any k.primes _ w3 (HP.out.ext HE3.out) (by have := HRK.out.primes; omega))
  clear HZ2 HE2 hE3 c0 c1 c2 HCK2
  gi_wp2_with fail
  refine ⟨trivial, ?_⟩
  refine (callsIn_wide.2 HCL3.out).mono ?_
  rintro e w4 ⟨vp', rfl, hE4, hp4⟩
  obtain ⟨gp, cp', rfl, hgp1, hgp2, hgp3, hgp4⟩ := owns_shape hp4 HRK.out.prime
  have c0 := Ext.cell hE4 d0; have c1 := Ext.cell hE4 d1; have c2 := Ext.cell hE4 d2
  have HZ4 := Lib.hid (block_ext HZ3.out hE4)
  have HE4 := Lib.hid (Ext.trans HE3.out hE4)
  have HP4 := Lib.hid hp4
  clear HZ3 HE3 hE4 hp4 d0 d1 d2 HCL3
  have hs4 : w.heap.size < w4.heap.size := lt_of_cell c0
  have hs41 : w.heap.size + 1 < w4.heap.size := block_lt HZ4.out
  gi_wp2_with fail
  refine ⟨trivial, ?_⟩
  refine (callsIn_wide.2 (backwardChords_any _ _ _ _)).mono ?_
  rintro e w6 ⟨rfl, hw6⟩
  obtain ⟨w5, hW5, hE5, hsz5, o0, o1, o2⟩ := box_walk w4 (.slice (some ⟨gp, 0, none⟩) k.primes.length cp') (.slice none 0 0) (.slice none 0 0) 30
  rw [hW5] at hw6
  have hs5 : w5.heap.size = w4.heap.size + 1 := by rw [← hW5]; simp
  have d0 := Ext.cell hE5 c0; have d1 := Ext.cell hE5 c1; have d2 := Ext.cell hE5 c2
  have hB5 := block_new w4 #[.slice (some ⟨gp, 0, none⟩) k.primes.length cp', .slice none 0 0, .slice none 0 0] 30
  have HB5 : Hid (w5.heap[w4.heap.size]? = some (.cells #[.slice (some ⟨gp, 0, none⟩) k.primes.length cp', .slice none 0 0, .slice none 0 0] 30 (0, 0))) := by rw [← hW5]; exact hB5
  clear hW5 hB5
  gi_wp2_with fail
  obtain ⟨w7, hw7⟩ : ∃ w7, w5.alloc (.cells #[.slice ac k.chords.length cc] 27) = w7 := ⟨_, rfl⟩
  have hs7 : w7.heap.size = w5.heap.size + 1 := by rw [← hw7]; simp
  have hbx : w7.cell? ⟨w5.heap.size, 0, none⟩ = some (.slice ac k.chords.length cc) := by rw [← hw7]; simp
  rw [hs5] at hbx
  have hE7 : Ext w5 w7 := by rw [← hw7]; exact Ext.alloc _ _
  have HB7 := Lib.hid (block_ext HB5.out hE7)
  have HE7 := Lib.hid (HE4.out.trans (hE5.trans hE7))
  have hlen64 := HRK.out.most
  have h47 : w4.heap.size ≤ w7.heap.size := by omega
  have hlo : w.heap.size + 1 ≤ w7.heap.size := by omega
  rw [hw7]
  refine wpIn_rangeFunc_ownG rfl (by omega) (gf := 63) (lb := #[.pointer (some ⟨w4.heap.size + 1, 0, none⟩)]) rfl trivial (enters_of Try.func63 (by kernel_rfl) rfl)
    (backChords_stops Fence.wide (9 - 1) trivial rfl (by omega) (w4.heap.size + 1) w.heap.size k.chords.length cc ac uc HUC0.out (by omega) hlc hmc w7 hbx (fun h => by
      obtain ⟨b, off, h1, h2, h3⟩ := HCC.out h
      exact ⟨b, off, h1, h2, fun j u hu => HE7.out.cell (h3 j u hu)⟩))
    (fun h k => KeepB.trans h k) ?kb (Below.refl _ _) (fun _ => rfl)
    (fun pre W => BoxI (fun b => w.heap.size + 1 ≤ b ∧ b < w7.heap.size) (w.heap.size + 1) w4.heap.size w7 31 30 1 chordR (fun v => #[.slice (some ⟨gp, 0, none⟩) k.primes.length cp', v, .slice none 0 0]) (fun _ => True) (pre.map fun x => k.chords.getD x.val []) W)
    (fun _ _ _ => False) (BoxI.own (fun (pre : List (Fin k.chords.length)) => pre.map fun x => k.chords.getD x.val []) h47 (by omega)) (fun _ _ _ _ _ hs _ _ => hs) (BoxI.start HB7.out (fun b hb => hb) (fun _ _ => trivial)) ?a1 ?assign ?body ?done ?stop
  case assign =>
    intro l x W K hK
    gi_wp2
    exact hK
  case kb =>
    intro W l o o' hl hW hc hw
    exact ⟨belowK_b (w := w7) (by omega) W l o o' hl hW hc hw, fun v hv => cell_kept hv (grownBy_putObj' W l o') (fun r e => by cases e; exact ⟨o, hW, hc⟩)⟩
  case stop =>
    rintro D cc pre W _ _ h _
    exact h.elim
  case body =>
    rintro l pre x W ⟨S, vcl, hB, hS, hS5, hok, hblk, hbel, hPr⟩ hlt
    have HSX := Lib.hid (And.intro hB (And.intro hS (And.intro hS5 (And.intro hok (And.intro hblk (And.intro hbel hPr))))))
    obtain ⟨av, cv, rfl, hav1, hav2, -, -⟩ := inCell.open hB.list
    have hln : (pre.map fun x => k.chords.getD x.val []).length = pre.length := by simp
    rw [hln] at hav1 HSX hblk
    have g1 := block_cell hblk 1
    have g2 := block_free hblk 1
    simp only [List.getElem?_toArray, List.getElem?_cons_zero, List.getElem?_cons_succ] at g1
    obtain ⟨u, hu⟩ : ∃ u, uc[x.val]? = some u := ⟨uc[x.val]'(by have := HUC0.out; have := x.isLt; omega), List.getElem?_eq_getElem _⟩
    obtain ⟨c, hc⟩ : ∃ c, k.chords[x.val]? = some c := ⟨k.chords[x.val], List.getElem?_eq_getElem x.isLt⟩
    simp only [backEnc, hu, Option.getD_some]
    have HR2 : Hid (Rows2 w u c) := HUC.out _ _ _ hu hc
    have hcm := List.mem_of_getElem? hc
    have HOC := Lib.hid (HRK.out.tame c hcm)
    have HCL := Lib.hid (few_notes hz c hcm)
    have HGD : Hid (k.chords.getD x.val [] = c) := by unfold Hid; rw [List.getD_eq_getElem?_getD, hc]; rfl
    have HYS : Hid ((pre ++ [x]).map (fun x => k.chords.getD x.val []) = (pre.map fun x => k.chords.getD x.val []) ++ [c]) := by unfold Hid; rw [List.map_append, List.map_cons, List.map_nil, HGD.out]
    have hEW : Ext w W.drew := Below.drew (Below.trans HE7.out (Below.mono hbel (by omega)))
    have hE7W : w7.heap.size ≤ W.heap.size := hbel.size
    have HCOP := Lib.hid (copied_any c u W.drew (Rows2.ext HR2.out hEW) (by have := HCL.out.2; omega) (fun x hx => by have := (HOC.out x hx).1; have := HRK.out.primes; omega))
    have g1d := (Ext.drew W).cell g1
    have HPN : Hid ((pre.map fun x => k.chords.getD x.val []).length < 1000000) := by unfold Hid; rw [hln]; omega
    clear hB hS hS5 hok hblk hPr hu hc hcm hbel hln g1 g2
    gi_wp2_with fail
    refine wpIn_region_any (by kernel_rfl) ?_
    refine wpAnyIn_ready (rs := [0, 2]) (by kernel_rfl) (by simp) ?_
    refine (AllReadyIn.cons rfl (fun K hK => ?_) (AllReadyIn.cons rfl (fun K hK => ?_) AllReadyIn.nil))
    · go_simp
      refine hK _ _ ?_
      clear hK K
      refine wpAnyIn_ready (rs := [1, 2]) (by kernel_rfl) (by simp) ?_
      refine (AllReadyIn.cons rfl (fun K hK => ?_) (AllReadyIn.cons rfl (fun K hK => ?_) AllReadyIn.nil))
      · go_simp
        refine hK _ _ ?_
        clear hK K
        refine wpAnyIn_ready (rs := [2]) (by kernel_rfl) (by simp) ?_
        refine (AllReadyIn.cons rfl (fun K hK => ?_) AllReadyIn.nil)
        go_simp
        refine hK _ _ ?_
        clear hK K
        refine wpAnyIn_ready (rs := [3]) (by kernel_rfl) (by simp) ?_
        refine (AllReadyIn.cons rfl (fun K hK => ?_) AllReadyIn.nil)
        go_simp
        refine ⟨trivial, ?_⟩
        refine (CallsIn.inRound l (callsIn_wide.2 HCOP.out)).mono ?_
        rintro e w3 ⟨r, rfl, hE3, hr⟩
        have g3 := Ext.cell hE3 g1d
        obtain ⟨ar, nr, cr, rfl⟩ := owns_slice hr
        have g4 := Ext.cell (Ext.alloc w3 (.cells #[.slice ar nr cr] 31)) g3
        have HFR := Lib.hid (Build.fresh hr)
        clear hr
        obtain ⟨gv, cpv, w5, hrun, g6, g7, hfin⟩ := BoxI.round (P := Try.prog) (box := fun v => #[.slice (some ⟨gp, 0, none⟩) k.primes.length cp', v, .slice none 0 0]) (T := 30) (n₀ := w.heap.size) (Bs := w4.heap.size + 1) (i := 1) 27 27 31 (.slice none 0 0) 24 c #[.slice ar nr cr] HYS.out HSX.out.1 HSX.out.2.1 HSX.out.2.2.1 HSX.out.2.2.2.1 HSX.out.2.2.2.2.1 HSX.out.2.2.2.2.2.1 HSX.out.2.2.2.2.2.2 ((Ext.drew W).trans hE3) Try.underlying27 infoRows rfl (by decide) rfl (by simp [Value.oneCell']) (fun S' hS' => (HFR.out S' hS').mono (fun w' h => ⟨_, rfl, h⟩)) HPN.out (by decide) (show (31 : Nat) ≠ 30 by decide) (fun _ => rfl) rfl (by omega) (by omega) (by omega) (by omega) ⟨by omega, by omega⟩ (by omega)
        rw [List.length_map] at hrun hfin
        have HRUN := Lib.hid hrun
        have HFIN := Lib.hid hfin
        clear hrun hfin
        dsimp only
        refine hK _ _ ?_
        clear hK K
        refine wpAnyIn_ready (rs := [4]) (by kernel_rfl) (by simp) ?_
        refine (AllReadyIn.cons rfl (fun K hK => ?_) AllReadyIn.nil)
        go_simp
        refine hK _ _ ?_
        clear hK K
        refine wpAnyIn_ready (rs := [5]) (by kernel_rfl) (by simp) ?_
        refine (AllReadyIn.cons rfl (fun K hK => ?_) AllReadyIn.nil)
        rw [if_pos (by rfl)]
        refine wpIn_append_run _ _ _ rfl rfl rfl HRUN.out (hK _ _ ?_)
        clear hK K
        refine wpAnyIn_ready (rs := [6]) (by kernel_rfl) (by simp) ?_
        refine (AllReadyIn.cons rfl (fun K hK => ?_) AllReadyIn.nil)
        go_simp
        refine hK _ _ ?_
        clear hK K
        refine wpAnyIn_ready (rs := [7]) (by kernel_rfl) (by simp) ?_
        refine (AllReadyIn.cons rfl (fun K hK => ?_) AllReadyIn.nil)
        go_simp
        refine hK _ _ ?_
        clear hK K
        refine wpAnyIn_done (by kernel_rfl) ?_ _
        exact ⟨HFIN.out.1.from _, HFIN.out.2⟩
      · go_simp
        refine hK _ _ ?_
        clear hK K
        refine wpAnyIn_ready (rs := [1, 3]) (by kernel_rfl) (by simp) ?_
        refine (AllReadyIn.cons rfl (fun K hK => ?_) (AllReadyIn.cons rfl (fun K hK => ?_) AllReadyIn.nil))
        · go_simp
          refine hK _ _ ?_
          clear hK K
          refine wpAnyIn_ready (rs := [3]) (by kernel_rfl) (by simp) ?_
          refine (AllReadyIn.cons rfl (fun K hK => ?_) AllReadyIn.nil)
          go_simp
          refine ⟨trivial, ?_⟩
          refine (CallsIn.inRound l (callsIn_wide.2 HCOP.out)).mono ?_
          rintro e w3 ⟨r, rfl, hE3, hr⟩
          have g3 := Ext.cell hE3 g1d
          obtain ⟨ar, nr, cr, rfl⟩ := owns_slice hr
          have g4 := Ext.cell (Ext.alloc w3 (.cells #[.slice ar nr cr] 31)) g3
          have HFR := Lib.hid (Build.fresh hr)
          clear hr
          obtain ⟨gv, cpv, w5, hrun, g6, g7, hfin⟩ := BoxI.round (P := Try.prog) (box := fun v => #[.slice (some ⟨gp, 0, none⟩) k.primes.length cp', v, .slice none 0 0]) (T := 30) (n₀ := w.heap.size) (Bs := w4.heap.size + 1) (i := 1) 27 27 31 (.slice none 0 0) 24 c #[.slice ar nr cr] HYS.out HSX.out.1 HSX.out.2.1 HSX.out.2.2.1 HSX.out.2.2.2.1 HSX.out.2.2.2.2.1 HSX.out.2.2.2.2.2.1 HSX.out.2.2.2.2.2.2 ((Ext.drew W).trans hE3) Try.underlying27 infoRows rfl (by decide) rfl (by simp [Value.oneCell']) (fun S' hS' => (HFR.out S' hS').mono (fun w' h => ⟨_, rfl, h⟩)) HPN.out (by decide) (show (31 : Nat) ≠ 30 by decide) (fun _ => rfl) rfl (by omega) (by omega) (by omega) (by omega) ⟨by omega, by omega⟩ (by omega)
          rw [List.length_map] at hrun hfin
          have HRUN := Lib.hid hrun
          have HFIN := Lib.hid hfin
          clear hrun hfin
          dsimp only
          refine hK _ _ ?_
          clear hK K
          refine wpAnyIn_ready (rs := [4]) (by kernel_rfl) (by simp) ?_
          refine (AllReadyIn.cons rfl (fun K hK => ?_) AllReadyIn.nil)
          go_simp
          refine hK _ _ ?_
          clear hK K
          refine wpAnyIn_ready (rs := [5]) (by kernel_rfl) (by simp) ?_
          refine (AllReadyIn.cons rfl (fun K hK => ?_) AllReadyIn.nil)
          rw [if_pos (by rfl)]
          refine wpIn_append_run _ _ _ rfl rfl rfl HRUN.out (hK _ _ ?_)
          clear hK K
          refine wpAnyIn_ready (rs := [6]) (by kernel_rfl) (by simp) ?_
          refine (AllReadyIn.cons rfl (fun K hK => ?_) AllReadyIn.nil)
          go_simp
          refine hK _ _ ?_
          clear hK K
          refine wpAnyIn_ready (rs := [7]) (by kernel_rfl) (by simp) ?_
          refine (AllReadyIn.cons rfl (fun K hK => ?_) AllReadyIn.nil)
          go_simp
          refine hK _ _ ?_
          clear hK K
          refine wpAnyIn_done (by kernel_rfl) ?_ _
          exact ⟨HFIN.out.1.from _, HFIN.out.2⟩
        · go_simp
          refine ⟨trivial, ?_⟩
          refine (CallsIn.inRound l (callsIn_wide.2 HCOP.out)).mono ?_
          rintro e w3 ⟨r, rfl, hE3, hr⟩
          have g3 := Ext.cell hE3 g1d
          obtain ⟨ar, nr, cr, rfl⟩ := owns_slice hr
          have g4 := Ext.cell (Ext.alloc w3 (.cells #[.slice ar nr cr] 31)) g3
          have HFR := Lib.hid (Build.fresh hr)
          clear hr
          obtain ⟨gv, cpv, w5, hrun, g6, g7, hfin⟩ := BoxI.round (P := Try.prog) (box := fun v => #[.slice (some ⟨gp, 0, none⟩) k.primes.length cp', v, .slice none 0 0]) (T := 30) (n₀ := w.heap.size) (Bs := w4.heap.size + 1) (i := 1) 27 27 31 (.slice none 0 0) 24 c #[.slice ar nr cr] HYS.out HSX.out.1 HSX.out.2.1 HSX.out.2.2.1 HSX.out.2.2.2.1 HSX.out.2.2.2.2.1 HSX.out.2.2.2.2.2.1 HSX.out.2.2.2.2.2.2 ((Ext.drew W).trans hE3) Try.underlying27 infoRows rfl (by decide) rfl (by simp [Value.oneCell']) (fun S' hS' => (HFR.out S' hS').mono (fun w' h => ⟨_, rfl, h⟩)) HPN.out (by decide) (show (31 : Nat) ≠ 30 by decide) (fun _ => rfl) rfl (by omega) (by omega) (by omega) (by omega) ⟨by omega, by omega⟩ (by omega)
          rw [List.length_map] at hrun hfin
          have HRUN := Lib.hid hrun
          have HFIN := Lib.hid hfin
          clear hrun hfin
          dsimp only
          refine hK _ _ ?_
          clear hK K
          refine wpAnyIn_ready (rs := [1, 4]) (by kernel_rfl) (by simp) ?_
          refine (AllReadyIn.cons rfl (fun K hK => ?_) (AllReadyIn.cons rfl (fun K hK => ?_) AllReadyIn.nil))
          · go_simp
            refine hK _ _ ?_
            clear hK K
            refine wpAnyIn_ready (rs := [4]) (by kernel_rfl) (by simp) ?_
            refine (AllReadyIn.cons rfl (fun K hK => ?_) AllReadyIn.nil)
            go_simp
            refine hK _ _ ?_
            clear hK K
            refine wpAnyIn_ready (rs := [5]) (by kernel_rfl) (by simp) ?_
            refine (AllReadyIn.cons rfl (fun K hK => ?_) AllReadyIn.nil)
            rw [if_pos (by rfl)]
            refine wpIn_append_run _ _ _ rfl rfl rfl HRUN.out (hK _ _ ?_)
            clear hK K
            refine wpAnyIn_ready (rs := [6]) (by kernel_rfl) (by simp) ?_
            refine (AllReadyIn.cons rfl (fun K hK => ?_) AllReadyIn.nil)
            go_simp
            refine hK _ _ ?_
            clear hK K
            refine wpAnyIn_ready (rs := [7]) (by kernel_rfl) (by simp) ?_
            refine (AllReadyIn.cons rfl (fun K hK => ?_) AllReadyIn.nil)
            go_simp
            refine hK _ _ ?_
            clear hK K
            refine wpAnyIn_done (by kernel_rfl) ?_ _
            exact ⟨HFIN.out.1.from _, HFIN.out.2⟩
          · go_simp
            refine hK _ _ ?_
            clear hK K
            refine wpAnyIn_ready (rs := [1]) (by kernel_rfl) (by simp) ?_
            refine (AllReadyIn.cons rfl (fun K hK => ?_) AllReadyIn.nil)
            go_simp
            refine hK _ _ ?_
            clear hK K
            refine wpAnyIn_ready (rs := [5]) (by kernel_rfl) (by simp) ?_
            refine (AllReadyIn.cons rfl (fun K hK => ?_) AllReadyIn.nil)
            rw [if_pos (by rfl)]
            refine wpIn_append_run _ _ _ rfl rfl rfl HRUN.out (hK _ _ ?_)
            clear hK K
            refine wpAnyIn_ready (rs := [6]) (by kernel_rfl) (by simp) ?_
            refine (AllReadyIn.cons rfl (fun K hK => ?_) AllReadyIn.nil)
            go_simp
            refine hK _ _ ?_
            clear hK K
            refine wpAnyIn_ready (rs := [7]) (by kernel_rfl) (by simp) ?_
            refine (AllReadyIn.cons rfl (fun K hK => ?_) AllReadyIn.nil)
            go_simp
            refine hK _ _ ?_
            clear hK K
            refine wpAnyIn_done (by kernel_rfl) ?_ _
            exact ⟨HFIN.out.1.from _, HFIN.out.2⟩
    · go_simp
      refine hK _ _ ?_
      clear hK K
      refine wpAnyIn_ready (rs := [0, 3]) (by kernel_rfl) (by simp) ?_
      refine (AllReadyIn.cons rfl (fun K hK => ?_) (AllReadyIn.cons rfl (fun K hK => ?_) AllReadyIn.nil))
      · go_simp
        refine hK _ _ ?_
        clear hK K
        refine wpAnyIn_ready (rs := [1, 3]) (by kernel_rfl) (by simp) ?_
        refine (AllReadyIn.cons rfl (fun K hK => ?_) (AllReadyIn.cons rfl (fun K hK => ?_) AllReadyIn.nil))
        · go_simp
          refine hK _ _ ?_
          clear hK K
          refine wpAnyIn_ready (rs := [3]) (by kernel_rfl) (by simp) ?_
          refine (AllReadyIn.cons rfl (fun K hK => ?_) AllReadyIn.nil)
          go_simp
          refine ⟨trivial, ?_⟩
          refine (CallsIn.inRound l (callsIn_wide.2 HCOP.out)).mono ?_
          rintro e w3 ⟨r, rfl, hE3, hr⟩
          have g3 := Ext.cell hE3 g1d
          obtain ⟨ar, nr, cr, rfl⟩ := owns_slice hr
          have g4 := Ext.cell (Ext.alloc w3 (.cells #[.slice ar nr cr] 31)) g3
          have HFR := Lib.hid (Build.fresh hr)
          clear hr
          obtain ⟨gv, cpv, w5, hrun, g6, g7, hfin⟩ := BoxI.round (P := Try.prog) (box := fun v => #[.slice (some ⟨gp, 0, none⟩) k.primes.length cp', v, .slice none 0 0]) (T := 30) (n₀ := w.heap.size) (Bs := w4.heap.size + 1) (i := 1) 27 27 31 (.slice none 0 0) 24 c #[.slice ar nr cr] HYS.out HSX.out.1 HSX.out.2.1 HSX.out.2.2.1 HSX.out.2.2.2.1 HSX.out.2.2.2.2.1 HSX.out.2.2.2.2.2.1 HSX.out.2.2.2.2.2.2 ((Ext.drew W).trans hE3) Try.underlying27 infoRows rfl (by decide) rfl (by simp [Value.oneCell']) (fun S' hS' => (HFR.out S' hS').mono (fun w' h => ⟨_, rfl, h⟩)) HPN.out (by decide) (show (31 : Nat) ≠ 30 by decide) (fun _ => rfl) rfl (by omega) (by omega) (by omega) (by omega) ⟨by omega, by omega⟩ (by omega)
          rw [List.length_map] at hrun hfin
          have HRUN := Lib.hid hrun
          have HFIN := Lib.hid hfin
          clear hrun hfin
          dsimp only
          refine hK _ _ ?_
          clear hK K
          refine wpAnyIn_ready (rs := [4]) (by kernel_rfl) (by simp) ?_
          refine (AllReadyIn.cons rfl (fun K hK => ?_) AllReadyIn.nil)
          go_simp
          refine hK _ _ ?_
          clear hK K
          refine wpAnyIn_ready (rs := [5]) (by kernel_rfl) (by simp) ?_
          refine (AllReadyIn.cons rfl (fun K hK => ?_) AllReadyIn.nil)
          rw [if_pos (by rfl)]
          refine wpIn_append_run _ _ _ rfl rfl rfl HRUN.out (hK _ _ ?_)
          clear hK K
          refine wpAnyIn_ready (rs := [6]) (by kernel_rfl) (by simp) ?_
          refine (AllReadyIn.cons rfl (fun K hK => ?_) AllReadyIn.nil)
          go_simp
          refine hK _ _ ?_
          clear hK K
          refine wpAnyIn_ready (rs := [7]) (by kernel_rfl) (by simp) ?_
          refine (AllReadyIn.cons rfl (fun K hK => ?_) AllReadyIn.nil)
          go_simp
          refine hK _ _ ?_
          clear hK K
          refine wpAnyIn_done (by kernel_rfl) ?_ _
          exact ⟨HFIN.out.1.from _, HFIN.out.2⟩
        · go_simp
          refine ⟨trivial, ?_⟩
          refine (CallsIn.inRound l (callsIn_wide.2 HCOP.out)).mono ?_
          rintro e w3 ⟨r, rfl, hE3, hr⟩
          have g3 := Ext.cell hE3 g1d
          obtain ⟨ar, nr, cr, rfl⟩ := owns_slice hr
          have g4 := Ext.cell (Ext.alloc w3 (.cells #[.slice ar nr cr] 31)) g3
          have HFR := Lib.hid (Build.fresh hr)
          clear hr
          obtain ⟨gv, cpv, w5, hrun, g6, g7, hfin⟩ := BoxI.round (P := Try.prog) (box := fun v => #[.slice (some ⟨gp, 0, none⟩) k.primes.length cp', v, .slice none 0 0]) (T := 30) (n₀ := w.heap.size) (Bs := w4.heap.size + 1) (i := 1) 27 27 31 (.slice none 0 0) 24 c #[.slice ar nr cr] HYS.out HSX.out.1 HSX.out.2.1 HSX.out.2.2.1 HSX.out.2.2.2.1 HSX.out.2.2.2.2.1 HSX.out.2.2.2.2.2.1 HSX.out.2.2.2.2.2.2 ((Ext.drew W).trans hE3) Try.underlying27 infoRows rfl (by decide) rfl (by simp [Value.oneCell']) (fun S' hS' => (HFR.out S' hS').mono (fun w' h => ⟨_, rfl, h⟩)) HPN.out (by decide) (show (31 : Nat) ≠ 30 by decide) (fun _ => rfl) rfl (by omega) (by omega) (by omega) (by omega) ⟨by omega, by omega⟩ (by omega)
          rw [List.length_map] at hrun hfin
          have HRUN := Lib.hid hrun
          have HFIN := Lib.hid hfin
          clear hrun hfin
          dsimp only
          refine hK _ _ ?_
          clear hK K
          refine wpAnyIn_ready (rs := [1, 4]) (by kernel_rfl) (by simp) ?_
          refine (AllReadyIn.cons rfl (fun K hK => ?_) (AllReadyIn.cons rfl (fun K hK => ?_) AllReadyIn.nil))
          · go_simp
            refine hK _ _ ?_
            clear hK K
            refine wpAnyIn_ready (rs := [4]) (by kernel_rfl) (by simp) ?_
            refine (AllReadyIn.cons rfl (fun K hK => ?_) AllReadyIn.nil)
            go_simp
            refine hK _ _ ?_
            clear hK K
            refine wpAnyIn_ready (rs := [5]) (by kernel_rfl) (by simp) ?_
            refine (AllReadyIn.cons rfl (fun K hK => ?_) AllReadyIn.nil)
            rw [if_pos (by rfl)]
            refine wpIn_append_run _ _ _ rfl rfl rfl HRUN.out (hK _ _ ?_)
            clear hK K
            refine wpAnyIn_ready (rs := [6]) (by kernel_rfl) (by simp) ?_
            refine (AllReadyIn.cons rfl (fun K hK => ?_) AllReadyIn.nil)
            go_simp
            refine hK _ _ ?_
            clear hK K
            refine wpAnyIn_ready (rs := [7]) (by kernel_rfl) (by simp) ?_
            refine (AllReadyIn.cons rfl (fun K hK => ?_) AllReadyIn.nil)
            go_simp
            refine hK _ _ ?_
            clear hK K
            refine wpAnyIn_done (by kernel_rfl) ?_ _
            exact ⟨HFIN.out.1.from _, HFIN.out.2⟩
          · go_simp
            refine hK _ _ ?_
            clear hK K
            refine wpAnyIn_ready (rs := [1]) (by kernel_rfl) (by simp) ?_
            refine (AllReadyIn.cons rfl (fun K hK => ?_) AllReadyIn.nil)
            go_simp
            refine hK _ _ ?_
            clear hK K
            refine wpAnyIn_ready (rs := [5]) (by kernel_rfl) (by simp) ?_
            refine (AllReadyIn.cons rfl (fun K hK => ?_) AllReadyIn.nil)
            rw [if_pos (by rfl)]
            refine wpIn_append_run _ _ _ rfl rfl rfl HRUN.out (hK _ _ ?_)
            clear hK K
            refine wpAnyIn_ready (rs := [6]) (by kernel_rfl) (by simp) ?_
            refine (AllReadyIn.cons rfl (fun K hK => ?_) AllReadyIn.nil)
            go_simp
            refine hK _ _ ?_
            clear hK K
            refine wpAnyIn_ready (rs := [7]) (by kernel_rfl) (by simp) ?_
            refine (AllReadyIn.cons rfl (fun K hK => ?_) AllReadyIn.nil)
            go_simp
            refine hK _ _ ?_
            clear hK K
            refine wpAnyIn_done (by kernel_rfl) ?_ _
            exact ⟨HFIN.out.1.from _, HFIN.out.2⟩
      · go_simp
        refine ⟨trivial, ?_⟩
        refine (CallsIn.inRound l (callsIn_wide.2 HCOP.out)).mono ?_
        rintro e w3 ⟨r, rfl, hE3, hr⟩
        have g3 := Ext.cell hE3 g1d
        obtain ⟨ar, nr, cr, rfl⟩ := owns_slice hr
        have g4 := Ext.cell (Ext.alloc w3 (.cells #[.slice ar nr cr] 31)) g3
        have HFR := Lib.hid (Build.fresh hr)
        clear hr
        obtain ⟨gv, cpv, w5, hrun, g6, g7, hfin⟩ := BoxI.round (P := Try.prog) (box := fun v => #[.slice (some ⟨gp, 0, none⟩) k.primes.length cp', v, .slice none 0 0]) (T := 30) (n₀ := w.heap.size) (Bs := w4.heap.size + 1) (i := 1) 27 27 31 (.slice none 0 0) 24 c #[.slice ar nr cr] HYS.out HSX.out.1 HSX.out.2.1 HSX.out.2.2.1 HSX.out.2.2.2.1 HSX.out.2.2.2.2.1 HSX.out.2.2.2.2.2.1 HSX.out.2.2.2.2.2.2 ((Ext.drew W).trans hE3) Try.underlying27 infoRows rfl (by decide) rfl (by simp [Value.oneCell']) (fun S' hS' => (HFR.out S' hS').mono (fun w' h => ⟨_, rfl, h⟩)) HPN.out (by decide) (show (31 : Nat) ≠ 30 by decide) (fun _ => rfl) rfl (by omega) (by omega) (by omega) (by omega) ⟨by omega, by omega⟩ (by omega)
        rw [List.length_map] at hrun hfin
        have HRUN := Lib.hid hrun
        have HFIN := Lib.hid hfin
        clear hrun hfin
        dsimp only
        refine hK _ _ ?_
        clear hK K
        refine wpAnyIn_ready (rs := [0, 4]) (by kernel_rfl) (by simp) ?_
        refine (AllReadyIn.cons rfl (fun K hK => ?_) (AllReadyIn.cons rfl (fun K hK => ?_) AllReadyIn.nil))
        · go_simp
          refine hK _ _ ?_
          clear hK K
          refine wpAnyIn_ready (rs := [1, 4]) (by kernel_rfl) (by simp) ?_
          refine (AllReadyIn.cons rfl (fun K hK => ?_) (AllReadyIn.cons rfl (fun K hK => ?_) AllReadyIn.nil))
          · go_simp
            refine hK _ _ ?_
            clear hK K
            refine wpAnyIn_ready (rs := [4]) (by kernel_rfl) (by simp) ?_
            refine (AllReadyIn.cons rfl (fun K hK => ?_) AllReadyIn.nil)
            go_simp
            refine hK _ _ ?_
            clear hK K
            refine wpAnyIn_ready (rs := [5]) (by kernel_rfl) (by simp) ?_
            refine (AllReadyIn.cons rfl (fun K hK => ?_) AllReadyIn.nil)
            rw [if_pos (by rfl)]
            refine wpIn_append_run _ _ _ rfl rfl rfl HRUN.out (hK _ _ ?_)
            clear hK K
            refine wpAnyIn_ready (rs := [6]) (by kernel_rfl) (by simp) ?_
            refine (AllReadyIn.cons rfl (fun K hK => ?_) AllReadyIn.nil)
            go_simp
            refine hK _ _ ?_
            clear hK K
            refine wpAnyIn_ready (rs := [7]) (by kernel_rfl) (by simp) ?_
            refine (AllReadyIn.cons rfl (fun K hK => ?_) AllReadyIn.nil)
            go_simp
            refine hK _ _ ?_
            clear hK K
            refine wpAnyIn_done (by kernel_rfl) ?_ _
            exact ⟨HFIN.out.1.from _, HFIN.out.2⟩
          · go_simp
            refine hK _ _ ?_
            clear hK K
            refine wpAnyIn_ready (rs := [1]) (by kernel_rfl) (by simp) ?_
            refine (AllReadyIn.cons rfl (fun K hK => ?_) AllReadyIn.nil)
            go_simp
            refine hK _ _ ?_
            clear hK K
            refine wpAnyIn_ready (rs := [5]) (by kernel_rfl) (by simp) ?_
            refine (AllReadyIn.cons rfl (fun K hK => ?_) AllReadyIn.nil)
            rw [if_pos (by rfl)]
            refine wpIn_append_run _ _ _ rfl rfl rfl HRUN.out (hK _ _ ?_)
            clear hK K
            refine wpAnyIn_ready (rs := [6]) (by kernel_rfl) (by simp) ?_
            refine (AllReadyIn.cons rfl (fun K hK => ?_) AllReadyIn.nil)
            go_simp
            refine hK _ _ ?_
            clear hK K
            refine wpAnyIn_ready (rs := [7]) (by kernel_rfl) (by simp) ?_
            refine (AllReadyIn.cons rfl (fun K hK => ?_) AllReadyIn.nil)
            go_simp
            refine hK _ _ ?_
            clear hK K
            refine wpAnyIn_done (by kernel_rfl) ?_ _
            exact ⟨HFIN.out.1.from _, HFIN.out.2⟩
        · go_simp
          refine hK _ _ ?_
          clear hK K
          refine wpAnyIn_ready (rs := [0]) (by kernel_rfl) (by simp) ?_
          refine (AllReadyIn.cons rfl (fun K hK => ?_) AllReadyIn.nil)
          go_simp
          refine hK _ _ ?_
          clear hK K
          refine wpAnyIn_ready (rs := [1]) (by kernel_rfl) (by simp) ?_
          refine (AllReadyIn.cons rfl (fun K hK => ?_) AllReadyIn.nil)
          go_simp
          refine hK _ _ ?_
          clear hK K
          refine wpAnyIn_ready (rs := [5]) (by kernel_rfl) (by simp) ?_
          refine (AllReadyIn.cons rfl (fun K hK => ?_) AllReadyIn.nil)
          rw [if_pos (by rfl)]
          refine wpIn_append_run _ _ _ rfl rfl rfl HRUN.out (hK _ _ ?_)
          clear hK K
          refine wpAnyIn_ready (rs := [6]) (by kernel_rfl) (by simp) ?_
          refine (AllReadyIn.cons rfl (fun K hK => ?_) AllReadyIn.nil)
          go_simp
          refine hK _ _ ?_
          clear hK K
          refine wpAnyIn_ready (rs := [7]) (by kernel_rfl) (by simp) ?_
          refine (AllReadyIn.cons rfl (fun K hK => ?_) AllReadyIn.nil)
          go_simp
          refine hK _ _ ?_
          clear hK K
          refine wpAnyIn_done (by kernel_rfl) ?_ _
          exact ⟨HFIN.out.1.from _, HFIN.out.2⟩
  case done =>
    rintro D ys W hD rfl ⟨S, vcl, hB, hS, hS5, hok, hblk, hbel, hPr⟩ hK
    have hws : w.heap.size < w4.heap.size := lt_of_cell c2
    have f2 : W.cell? ⟨w.heap.size, 2, none⟩ = some (.slice al k.links.length cl) := (hbel.cell (p := ⟨w.heap.size, 2, none⟩) (by omega)).trans (hE7.cell d2)
    have HZW := Lib.hid ((hbel.block (w.heap.size + 1) (by omega)).trans (block_ext HZ4.out (hE5.trans hE7)))
    have HEW := Lib.hid (Below.trans HE7.out (Below.mono hbel (by omega)))
    rw [backs_map k.chords] at hB
    have HSX := Lib.hid (And.intro hB (And.intro hS (And.intro hS5 (And.intro hok (And.intro hblk hbel)))))
    have HK := Lib.hid hK
    obtain ⟨gc, cvc, rfl, -, -, hlcv, hmcv⟩ := hB.shape (by rw [List.length_reverse]; have := HRK.out.len; omega)
    have hDlt := block_lt hK
    have hWs : w7.heap.size ≤ W.heap.size := hbel.size
    have h47s : w4.heap.size + 1 < w7.heap.size := by omega
    have hE7x : Ext w4 w7 := hE5.trans hE7
    clear hB hS hS5 hok hblk hbel hPr hK hw6 hw7 hbx hs7 hE7 hE5 d0 d1 d2 o0 o1 o2 c0 c1 c2
    gi_wp2_with fail
    refine ⟨trivial, ?_⟩
    refine (callsIn_wide.2 (backwardLinks_any _ _ _ _)).mono ?_
    rintro e w8 ⟨rfl, hw8⟩
    gi_wp2_with fail
    have hbx8 : w8.cell? ⟨W.heap.size, 0, none⟩ = some (.slice al k.links.length cl) := by rw [hw8]; simp
    have hE8 : Ext W w8 := by rw [hw8]; exact Ext.alloc _ _
    have hs8 : w8.heap.size = W.heap.size + 1 := by rw [hw8]; simp
    rw [← hw8]
    clear hw8
    have HB8 := Lib.hid (block_ext HSX.out.2.2.2.2.1 hE8)
    have HE8 := Lib.hid (Ext.trans HEW.out hE8)
    have HZ8 := Lib.hid (block_ext HZW.out hE8)
    have HK8 := Lib.hid (block_ext HK.out hE8)
    have HPR8 : Hid (SafeS w8 (fun b => S b ∧ b ≠ gc) (fun w' => ListAt 1 chordR w' (.slice (some ⟨gc, 0, none⟩) k.chords.reverse.length cvc) k.chords.reverse)) := (HSX.out.1.finish rfl).ext hE8
    have HOK8 : Hid (SOk (fun b => S b ∧ b ≠ gc) (w.heap.size + 1) w8) := fun b hb => ⟨(HSX.out.2.2.2.1 b hb.1).1, Nat.lt_of_lt_of_le (HSX.out.2.2.2.1 b hb.1).2 hE8.size⟩
    have hgc := (HSX.out.1.lt gc rfl).1
    have HSX0 : Hid (S w4.heap.size ∧ w4.heap.size ≠ gc) := ⟨HSX.out.2.2.1 _ ⟨by omega, by omega⟩, by omega⟩
    have HSX1 : Hid (S (w.heap.size + 1) ∧ w.heap.size + 1 ≠ gc) := ⟨HSX.out.2.2.1 _ ⟨by omega, by omega⟩, by omega⟩
    have HSXD : Hid (S D ∧ D ≠ gc) := ⟨HSX.out.2.1 _ ⟨hD, _, HK.out, rfl⟩, fun e => by
      obtain ⟨_, us, _, _, h3, _⟩ := HSX.out.1
      exact owns_nonC h3 (g := gc) rfl (B := 0) ⟨Nat.zero_le _, _, e ▸ HK.out, rfl⟩⟩
    have HB47 := Lib.hid (Below.trans (Below.trans (hE7x) HSX.out.2.2.2.2.2) (Below.mono hE8 (by omega)))
    have h48 : w4.heap.size ≤ w8.heap.size := by omega
    have hll64 : k.links.length ≤ 64 := by have := HRK.out.len; omega
    refine wpIn_rangeFunc_ownG rfl (by omega) (gf := 64) (lb := #[.pointer (some ⟨W.heap.size, 0, none⟩)]) rfl trivial (enters_of Try.func64 (by kernel_rfl) rfl)
      (backLinks_stops Fence.wide (9 - 1) trivial rfl (by omega) W.heap.size w.heap.size k.links.length cl al ul HUL0.out (by omega) hll hml w8 hbx8 (fun h => by
        obtain ⟨b, off, h1, h2, h3⟩ := HCL.out h
        exact ⟨b, off, h1, h2, fun j u hu => HE8.out.cell (h3 j u hu)⟩))
      (fun h k => KeepB.trans h k) ?kb2 (Below.refl _ _) (fun _ => rfl)
      (fun pre W' => BoxI (fun b => S b ∧ b ≠ gc) (w.heap.size + 1) w4.heap.size w8 34 30 1 (inCell Links) (fun v => #[.slice (some ⟨gp, 0, none⟩) k.primes.length cp', .slice (some ⟨gc, 0, none⟩) k.chords.reverse.length cvc, v]) (fun w' => ListAt 1 chordR w' (.slice (some ⟨gc, 0, none⟩) k.chords.reverse.length cvc) k.chords.reverse) (pre.map fun x => (k.links.getD x.val []).map fun y => (y.2, y.1)) W' ∧ W'.heap[D]? = some (.deferred (some [])))
      (fun _ _ _ => False) (OwnFrom.and (BoxI.own (fun (pre : List (Fin k.links.length)) => pre.map fun x => (k.links.getD x.val []).map fun y => (y.2, y.1)) h48 (by omega)) (own_block (by omega))) (fun _ _ _ _ _ hs _ _ => hs) ⟨BoxI.start HB8.out HOK8.out HPR8.out, HK8.out⟩ ?a2 ?assign2 ?body2 ?done2 ?stop2
    case assign2 =>
      intro l x W' K hK
      gi_wp2
      exact hK
    case kb2 =>
      intro W' l o o' hl hW hc hw
      exact ⟨belowK_b (w := w8) (by omega) W' l o o' hl hW hc hw, fun v hv => cell_kept hv (grownBy_putObj' W' l o') (fun r e => by cases e; exact ⟨o, hW, hc⟩)⟩
    case stop2 =>
      rintro D cc pre W _ _ h _
      exact h.elim
    case body2 =>
      rintro l pre x W2 ⟨⟨S2, v2, hB2, hS2, hSB2, hok2, hblk2, hbel2, hPr2⟩, hK2⟩ hlt
      have HSX2 := Lib.hid (And.intro hB2 (And.intro hS2 (And.intro hSB2 (And.intro hok2 (And.intro hblk2 (And.intro hbel2 hPr2))))))
      have HK2 := Lib.hid hK2
      obtain ⟨av, cv, rfl, hav1, hav2, -, -⟩ := inCell.open hB2.list
      rw [List.length_map] at hav1 hblk2 HSX2
      have g1 := block_cell hblk2 2
      simp only [List.getElem?_toArray, List.getElem?_cons_zero, List.getElem?_cons_succ] at g1
      obtain ⟨u, hu⟩ : ∃ u, ul[x.val]? = some u := ⟨ul[x.val]'(by have := HUL0.out; have := x.isLt; omega), List.getElem?_eq_getElem _⟩
      obtain ⟨c, hc⟩ : ∃ c, k.links[x.val]? = some c := ⟨k.links[x.val], List.getElem?_eq_getElem x.isLt⟩
      simp only [backEnc, hu, Option.getD_some]
      have hcm := List.mem_of_getElem? hc
      have HFW := Lib.hid (HRK.out.few c hcm)
      have HYS : Hid ((pre ++ [x]).map (fun x => (k.links.getD x.val []).map fun y => (y.2, y.1)) = (pre.map fun x => (k.links.getD x.val []).map fun y => (y.2, y.1)) ++ [c.map fun y => (y.2, y.1)]) := by
        unfold Hid; rw [List.map_append, List.map_cons, List.map_nil]; rw [List.getD_eq_getElem?_getD, hc]; rfl
      have hEW2 : Ext w W2 := Below.trans HE8.out (Below.mono hbel2 (by omega))
      have hE8W : w8.heap.size ≤ W2.heap.size := hbel2.size
      obtain ⟨au, cu, rfl, -, -, -, -⟩ := ListAt.open (HUL.out _ _ _ hu hc)
      obtain ⟨-, hcu1, hcu2, HUB, hcu⟩ := Links.cells ((HUL.out _ _ _ hu hc).ext hEW2)
      have HCU := Lib.hid hcu
      have HUB := Lib.hid HUB
      have HPN : Hid ((pre.map fun x => (k.links.getD x.val []).map fun y => (y.2, y.1)).length < 1000000) := by unfold Hid; rw [List.length_map]; omega
      have hcl12 := HFW.out
      unfold maxLen at hcu2
      clear hB2 hS2 hSB2 hok2 hblk2 hPr2 hu hc hcm hbel2 hcu hK2
      gi_wp2_with fail
      gi_loopw [10, 42] (fun out t wr => ∃ j : Nat, j ≤ c.length ∧ t = .int .i64 j ∧ Ext W2 wr ∧ Hid (Build wr W2.heap.size 33 2 out linkR ((c.map fun y => (y.2, y.1)).take j))) (fun _ t _ => c.length - (intOf t).toNat)
      case atStart => exact ⟨0, by omega, rfl, Ext.refl _, Build.nil _ _ _ _ _⟩
      case round =>
        obtain ⟨j, hj, rfl, hE, HB⟩ := hrel
        obtain ⟨wo, rfl⟩ : ∃ wo : World, wo = wr := ⟨_, rfl⟩
        by_cases hlt2 : j < c.length
        · obtain ⟨b, off, rfl, hb, hcell⟩ := HCU.out (by intro e; simp [e] at hlt2)
          obtain ⟨⟨f, t⟩, hx⟩ : ∃ x, c[j]? = some x := ⟨c[j], List.getElem?_eq_getElem hlt2⟩
          obtain ⟨hx1, hx2⟩ := hcell j _ hx
          simp only at hx1 hx2
          have HBD := Lib.hid (HUB.out _ (List.mem_of_getElem? hx))
          have k0 := hE.cell hx1; have k1 := hE.cell hx2
          obtain ⟨W3, hW3, hE3, d0, d1⟩ := box_two wo (.int .i64 f) (.int .i64 t) 33
          have HN : Hid ((c.map fun y => (y.2, y.1)).take (j + 1) = (c.map fun y => (y.2, y.1)).take j ++ [(t, f)]) := by unfold Hid; rw [List.take_add_one, List.getElem?_map, hx]; rfl
          have HBx := Lib.hid (Build.ext HB.out hE3)
          have HE3 := Lib.hid hE3
          have hsz3 : W2.heap.size ≤ W3.heap.size := Nat.le_trans hE.size hE3.size
          have HJ : Hid (((c.map fun y => (y.2, y.1)).take j).length < 1000000) := by unfold Hid; rw [List.length_take]; omega
          have j0 : (0 : Int) ≤ (j : Int) := by omega
          have j1 : (j : Int) < (c.length : Int) := by omega
          clear hcell hx hx1 hx2 hE3
          gi_wp2_with (gi_at_builtin; go_must (refine wpListIn_append_build W3 rfl _ _ 34 rfl W2.heap.size 33 (.agg #[.int .i64 0, .int .i64 0]) 2 16 Try.underlying34 infoLink rfl (by decide) u10 linkR ((c.map fun y => (y.2, y.1)).take j) (t, f) #[.int .i64 t, .int .i64 f] 33 rfl HBx.out rfl rfl ?e1 (fun _ _ => ⟨by rfl, HBD.out.2, HBD.out.1⟩) HJ.out (by decide) hsz3 ?_))
          case e1 => simp [Value.oneCell']
          intro v' w5 hB5 hg5 hb5 hs5 _
          rw [← HN.out] at hB5
          have HB5 := Lib.hid hB5
          have HE5 := Lib.hid (Below.trans (Ext.trans hE HE3.out) hb5)
          clear hB5 hg5 hb5 hW3
          gi_wp2_with fail
          go_roundw
          case rel => exact ⟨j + 1, by omega, by go_num, HE5.out, HB5.out⟩
          case measure => simp [intOf]; omega
        · obtain rfl : j = c.length := by omega
          have HBF := Lib.hid (Build.pure HB.out (fun _ _ _ _ h => h))
          have hb1 := HB.out
          obtain ⟨ar, nr, cr, rfl⟩ := owns_slice hb1
          rw [List.take_of_length_le (by rw [List.length_map]; omega)] at HBF
          clear hb1
          obtain ⟨gv, cpv, w5, hrun, g6, g7, hfin⟩ := BoxI.round (P := Try.prog) (box := fun v => #[.slice (some ⟨gp, 0, none⟩) k.primes.length cp', .slice (some ⟨gc, 0, none⟩) k.chords.reverse.length cvc, v]) (T := 30) (n₀ := w.heap.size) (Bs := W.heap.size) (i := 2) 28 28 34 (.slice none 0 0) 24 (c.map fun y => (y.2, y.1)) #[.slice ar nr cr] HYS.out HSX2.out.1 HSX2.out.2.1 HSX2.out.2.2.1 HSX2.out.2.2.2.1 HSX2.out.2.2.2.2.1 HSX2.out.2.2.2.2.2.1 HSX2.out.2.2.2.2.2.2 hE Try.underlying28 infoLinks rfl (by decide) rfl (by simp [Value.oneCell']) (fun S' hS' => (HBF.out S' hS').mono (fun w' h => ⟨_, rfl, h⟩)) HPN.out (by decide) (show (34 : Nat) ≠ 30 by decide) (fun _ => rfl) rfl (by omega) (by omega) (by omega) (by omega) HSX0.out (by omega)
          rw [List.length_map] at hrun hfin
          have HRUN := Lib.hid hrun
          have HFIN : Hid _ := Lib.hid (And.intro (hfin.1.from w8.heap.size) (And.intro hfin.2.1 (And.intro hfin.2.2 (hfin.1.same D _ HK2.out rfl))))
          have g3 := hE.cell g1
          clear hrun hfin
          gi_wp2_with (gi_at_builtin; go_must (refine wpListIn_append_run rfl _ _ 28 rfl rfl rfl HRUN.out ?_))
          exact HFIN.out
    case done2 =>
      rintro D2 ys W2 hD2 rfl ⟨⟨S2, v2, hB2, hS2, hSB2, hok2, hblk2, hbel2, hPr2⟩, hK2⟩ hK3
      have hws : w.heap.size < w4.heap.size := by omega
      rw [backs_map2] at hB2
      obtain ⟨av, cv, rfl, -, -, -, -⟩ := inCell.open hB2.list
      rw [List.length_map, List.length_reverse] at hblk2 hB2
      have HZ2 := (hbel2.block (w.heap.size + 1) (by omega)).trans HZ8.out
      have HFIN := Lib.hid (And.intro hB2 (And.intro hS2 (And.intro hSB2 (And.intro hblk2 (And.intro hbel2 hPr2)))))
      have HKK := Lib.hid (And.intro hK2 hK3)
      have e0 := block_cell hblk2 0; have e1 := block_cell hblk2 1; have e2 := block_cell hblk2 2
      simp only [List.getElem?_toArray, List.getElem?_cons_zero, List.getElem?_cons_succ] at e0 e1 e2
      have z0 := block_cell HZ2 0; have z1 := block_cell HZ2 1; have z2 := block_cell HZ2 2
      simp only [List.getElem?_toArray, List.getElem?_cons_zero, List.getElem?_cons_succ] at z0 z1 z2
      have y0 := block_free HZ2 0; have y1 := block_free HZ2 1; have y2 := block_free HZ2 2
      have HZ := Lib.hid HZ2
      clear hB2 hS2 hSB2 hok2 hblk2 hbel2 hPr2 hK2 hK3 HZ2
      gi_wp2_with fail
      obtain ⟨Wa, hWa⟩ : ∃ Wa, ((W2.setCell ⟨w.heap.size + 1, 0, none⟩ (.slice (some ⟨gp, 0, none⟩) k.primes.length cp')).setCell ⟨w.heap.size + 1, 1, none⟩ (.slice (some ⟨gc, 0, none⟩) k.chords.length cvc)).setCell ⟨w.heap.size + 1, 2, none⟩ (.slice av k.links.length cv) = Wa := ⟨_, rfl⟩
      rw [hWa]
      have hga : W2.grownBy Wa (some (w.heap.size + 1)) := by rw [← hWa]; exact grown_trans (grown_trans (grown_setCell _ _ _ _) (grown_setCell _ _ _ _)) (grown_setCell _ _ _ _)
      have hba : Wa.heap[w.heap.size + 1]? = some (.cells #[.slice (some ⟨gp, 0, none⟩) k.primes.length cp', .slice (some ⟨gc, 0, none⟩) k.chords.length cvc, .slice av k.links.length cv] 30 (0, 0)) := by rw [← hWa]; exact block_set (block_set (block_set HZ.out 0 _) 1 _) 2 _
      have hW24 : w8.heap.size ≤ W2.heap.size := HFIN.out.2.2.2.2.1.size
      have hD2a : w8.heap.size ≤ D2 := hD2
      have hDa : D < w8.heap.size := by omega
      obtain ⟨Wb, Wc, r1, r2, g1, g2⟩ := marks2 (P := Try.prog) (block_grown HKK.out.2 hga (fun e => by simp at e; omega)) (block_grown HKK.out.1 hga (fun e => by simp at e; omega)) (by omega)
      have hbc := block_grown (block_grown hba g1 (fun e => by simp at e; omega)) g2 (fun e => by simp at e; omega)
      have q0 := block_cell hbc 0; have q1 := block_cell hbc 1; have q2 := block_cell hbc 2
      simp only [List.getElem?_toArray, List.getElem?_cons_zero, List.getElem?_cons_succ] at q0 q1 q2
      refine ⟨by simp, .inl ⟨D2, Wb, rfl, r1, ⟨by simp, .inl ⟨D, Wc, rfl, r2, ?_⟩⟩⟩⟩
      refine ⟨.tuple #[.agg #[.slice (some ⟨gp, 0, none⟩) k.primes.length cp', .slice (some ⟨gc, 0, none⟩) k.chords.length cvc, .slice av k.links.length cv], .int .i64 0], by simp [results, Try.results20, go_sem, q0, q1, q2], ⟨_, rfl, ?_, ?_⟩⟩
      · have hb : Below w.heap.size w W2 := Below.trans HE8.out (Below.mono HFIN.out.2.2.2.2.1 (by omega))
        have hs1 := hga.size; have hs2 := g1.size
        exact below_byRow (below_byRow (below_byRow hb hga (by omega) (fun k e => by cases e; omega)) g1 (by omega) (fun k e => by cases e; omega)) g2 (by omega) (fun k e => by cases e; omega)
      · refine ⟨_, _, _, rfl, ?_, ?_, ?_⟩
        · have hb : Below w4.heap.size w4 W2 := Below.trans HB47.out HFIN.out.2.2.2.2.1
          have hsz4 : w4.heap.size ≤ W2.heap.size := hb.size
          have hs1 := hga.size; have hs2 := g1.size
          have hgw : GrownS (fun b => b = w.heap.size + 1 ∨ w4.heap.size ≤ b) w4 Wc :=
            ⟨g2.os.trans (g1.os.trans (hga.os.trans hb.os)), g2.tape.trans (g1.tape.trans (hga.tape.trans hb.tape)), g2.output.trans (g1.output.trans (hga.output.trans hb.output)), by have := g2.size; omega,
              fun i hi hn => (g2.block i (by omega) (fun e => by cases e; omega)).trans ((g1.block i (by omega) (fun e => by cases e; omega)).trans ((hga.block i (by omega) (fun e => by cases e; exact hn (.inl rfl))).trans (hb.block i hi)))⟩
          have hp := SafeS.owns (S := fun b => b = w.heap.size + 1 ∨ w4.heap.size ≤ b) HP4.out (fun g hg hs => by
            have hl := HP4.out.lt g hg
            omega)
          exact Ints.of_owns (hp Wc hgw) (fun x hx => (Ints.cells HP.out).2.2.2.1 x hx)
        · have h := ((HFIN.out.2.2.2.2.2.byRow hga (fun k e => by cases e; exact HFIN.out.2.2.1 _ HSX1.out)).byRow g1 (fun k e => by cases e; exact HFIN.out.2.1 _ ⟨hD2a, _, HKK.out.2, rfl⟩)).byRow g2 (fun k e => by cases e; exact HFIN.out.2.2.1 _ HSXD.out)
          have h2 := h.now
          rw [List.length_reverse] at h2
          exact h2
        · have hne : ∀ b, w8.heap.size ≤ b → True := fun _ _ => trivial
          have hlt := HFIN.out.1.lt
          have hnc : ∀ o, W2.heap[D2]? = some o → o.isCells = false → (Value.slice av k.links.length cv).ownBlock ≠ some D2 := fun o ho hc e => by
            obtain ⟨_, us, _, _, h3, _⟩ := HFIN.out.1
            exact owns_nonC h3 e (B := 0) ⟨Nat.zero_le _, o, ho, hc⟩
          exact (((HFIN.out.1.done.byRow hga (fun k e => by cases e; exact ⟨HFIN.out.2.2.1 _ HSX1.out, fun e => by have := (hlt _ e).1; omega⟩)).byRow g1 (fun k e => by cases e; exact ⟨HFIN.out.2.1 _ ⟨hD2a, _, HKK.out.2, rfl⟩, hnc _ HKK.out.2 rfl⟩)).byRow g2 (fun k e => by cases e; exact ⟨HFIN.out.2.2.1 _ HSXD.out, fun e => by have := (hlt _ e).1; omega⟩)).now
end Go.Proofs.Ytplcikgmefcfbaa
