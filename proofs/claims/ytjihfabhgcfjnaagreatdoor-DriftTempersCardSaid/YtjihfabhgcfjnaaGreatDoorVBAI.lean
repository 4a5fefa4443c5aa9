/- Merged: DTemW. -/
import Derived.Test.YtjihfabhgcfjnaaGreatDoorVBAC
import Derived.Test.YtjihfabhgcfjnaaGreatDoorVBAD
import Derived.Test.YtjihfabhgcfjnaaGreatDoorVBAE
import Derived.Test.YtjihfabhgcfjnaaGreatDoorVBAF
import Derived.Test.YtjihfabhgcfjnaaGreatDoorVBAH
import Derived.Test.YtjihfabhgcfjnaaGreatDoorUBI
import Derived.Test.YtjihfabhgcfjnaaGreatDoorUBC
import Derived.Test.YtjihfabhgcfjnaaGreatDoorUBJ
import Derived.Laws.Rows
import Derived.Laws.EntriesVeiled
/- The walk of DriftTempers. Printed by gen/dtemw.py. -/
namespace Go.Proofs.YtjihfabhgcfjnaaGreatDoor
set_option linter.unusedVariables false
set_option linter.unusedSimpArgs false
open Go.RowKit

theorem ext_wk5 {w W : World} {B : Nat} (hE : Ext w W) (hB : w.heap.size ≤ B) (a b c : Value) : Ext w (((W.setCell ⟨B, 0, none⟩ a).setCell ⟨B, 1, none⟩ b).setCell ⟨B, 2, none⟩ c) :=
  Below.setCell (Below.setCell (Below.setCell hE hB _) hB _) hB _
theorem own_safe {w : World} {B : Nat} {S : Nat → Prop} {vp vc vl u0 : Value} {k : Wk} (h : OwnWk w B S vp vc vl u0 k) : SafeS w (· < B) fun w' => WalkAt w' (.agg #[vp, vc, vl]) k :=
  h.walk (fun b hb => h.low b hb) (fun b hb e => by have h1 := (h.chords.lt b e).1; have hb : b < B := hb; omega) (fun b hb e => by have h1 := (h.links.lt b e).1; have hb : b < B := hb; omega) (fun b hb hne e => by have h1 := (L0.lt h.first hne b e).1; have hb : b < B := hb; omega)
/-- What lies in new memory is kept by the stores into two boxes. -/
theorem kept_two {Pr : World → Prop} {V1 V : World} {B g7 g8 : Nat} (h : SafeS V1 (· < B) Pr) (he : Ext V1 V) (h7 : g7 < B ∨ V1.heap.size ≤ g7) (h8 : g8 < B ∨ V1.heap.size ≤ g8) (x y z a b c : Value) :
    Pr ((((((V.setCell ⟨g7, 0, none⟩ x).setCell ⟨g7, 1, none⟩ y).setCell ⟨g7, 2, none⟩ z).setCell ⟨g8, 0, none⟩ a).setCell ⟨g8, 1, none⟩ b).setCell ⟨g8, 2, none⟩ c) := by
  have hg : GrownS (fun k => k = g7 ∨ k = g8) V ((((((V.setCell ⟨g7, 0, none⟩ x).setCell ⟨g7, 1, none⟩ y).setCell ⟨g7, 2, none⟩ z).setCell ⟨g8, 0, none⟩ a).setCell ⟨g8, 1, none⟩ b).setCell ⟨g8, 2, none⟩ c) :=
    ((((((GrownS.refl (fun k => k = g7 ∨ k = g8) V).setCell (g := g7) (.inl rfl) 0 x).setCell (g := g7) (.inl rfl) 1 y).setCell (g := g7) (.inl rfl) 2 z).setCell (g := g8) (.inr rfl) 0 a).setCell (g := g8) (.inr rfl) 1 b).setCell (g := g8) (.inr rfl) 2 c
  exact h _ ⟨hg.os.trans he.os, hg.tape.trans he.tape, hg.output.trans he.output, Nat.le_trans he.size hg.size, fun i hi hn => (hg.block i (Nat.lt_of_lt_of_le hi he.size) (by have hn : ¬ i < B := hn; rintro (e | e) <;> omega)).trans (he.block i hi)⟩
theorem boxes_two {V : World} {g7 g8 : Nat} {u0 u1 u2 v0 v1 v2 : Value} (h7 : V.heap[g7]? = some (.cells #[u0, u1, u2] 55 (0, 0))) (h8 : V.heap[g8]? = some (.cells #[v0, v1, v2] 58 (0, 0))) (hne : g7 ≠ g8) (x y z a b c : Value) :
    ((((((V.setCell ⟨g7, 0, none⟩ x).setCell ⟨g7, 1, none⟩ y).setCell ⟨g7, 2, none⟩ z).setCell ⟨g8, 0, none⟩ a).setCell ⟨g8, 1, none⟩ b).setCell ⟨g8, 2, none⟩ c).heap[g7]? = some (.cells #[x, y, z] 55 (0, 0)) ∧
    ((((((V.setCell ⟨g7, 0, none⟩ x).setCell ⟨g7, 1, none⟩ y).setCell ⟨g7, 2, none⟩ z).setCell ⟨g8, 0, none⟩ a).setCell ⟨g8, 1, none⟩ b).setCell ⟨g8, 2, none⟩ c).heap[g8]? = some (.cells #[a, b, c] 58 (0, 0)) := by
  have k7 : (((V.setCell ⟨g7, 0, none⟩ x).setCell ⟨g7, 1, none⟩ y).setCell ⟨g7, 2, none⟩ z).heap[g7]? = some (.cells #[x, y, z] 55 (0, 0)) := by
    have := block_set (block_set (block_set h7 0 x) 1 y) 2 z
    simpa using this
  have e1 : GrownS (fun k => k = g7) V (((V.setCell ⟨g7, 0, none⟩ x).setCell ⟨g7, 1, none⟩ y).setCell ⟨g7, 2, none⟩ z) := (((GrownS.refl (fun k => k = g7) V).setCell (g := g7) rfl 0 x).setCell (g := g7) rfl 1 y).setCell (g := g7) rfl 2 z
  have k8 := (e1.block g8 (block_lt h8) (fun e => hne e.symm)).trans h8
  have e2 : GrownS (fun k => k = g8) (((V.setCell ⟨g7, 0, none⟩ x).setCell ⟨g7, 1, none⟩ y).setCell ⟨g7, 2, none⟩ z) ((((((V.setCell ⟨g7, 0, none⟩ x).setCell ⟨g7, 1, none⟩ y).setCell ⟨g7, 2, none⟩ z).setCell ⟨g8, 0, none⟩ a).setCell ⟨g8, 1, none⟩ b).setCell ⟨g8, 2, none⟩ c) := (((GrownS.refl (fun k => k = g8) _).setCell (g := g8) rfl 0 a).setCell (g := g8) rfl 1 b).setCell (g := g8) rfl 2 c
  exact ⟨(e2.block g7 (block_lt k7) hne).trans k7, tp_store k8 a b c⟩
theorem fits_idx (M : List (List Int)) (n : Nat) (l : List (Nat × Nat × List Int)) : (idxStr (fun x => !outB M n x.2.2) l = -1 ∧ fitsR M n l = (0, true)) ∨ ∃ i : Nat, i < l.length ∧ idxStr (fun x => !outB M n x.2.2) l = (i : Int) ∧ fitsR M n l = ((i : Int), false) := by
  unfold idxStr fitsR
  cases h : l.findIdx? (fun x => !outB M n x.2.2) with
  | none => exact .inl ⟨rfl, rfl⟩
  | some i => exact .inr ⟨i, (List.findIdx?_eq_some_iff_getElem.1 h).1, rfl, rfl⟩

set_option maxRecDepth 100000 in
set_option maxHeartbeats 16000000 in
theorem dtempers_walk (cs : Array Value) (hpl : PlanAt cs) (c : Int) (hc0 : 0 ≤ c) (hc1 : c ≤ 255) (vals : Bool) (xss : List (List Int)) (v : Value) (alike : Bool) (w : World) (h : Fours w v xss) (hlib : LibT w) (hp : 2 < w.heap.size) :
    Calls Tryz.prog 5 #[.agg cs, .agg #[.int .u8 c, v, .bool vals], .bool alike] w fun e w' => e = .returned (.bool true) ∧ Ext w w' := by
  have HPL := Lib.hid hpl
  have HFT := Lib.hid (fun W (hW : Ext w W) => fits18_any c vals xss v W (h.ext hW))
  have HTM := Lib.hid (fun (hx3 : xss.length ≤ 3) W (hW : Ext w W) => temper51_any c hc0 hc1 vals alike xss hx3 v W (h.ext hW) (hlib.ext hW) (Nat.lt_of_lt_of_le hp hW.size))
  have HMK := Lib.hid (fun W => make_ownS cs hpl W)
  have HOPS : Hid (∀ W, Ext w W → LibT W ∧ 2 < W.heap.size) := fun W hW => ⟨hlib.ext hW, Nat.lt_of_lt_of_le hp hW.size⟩
  obtain ⟨av, cv, rfl, -, -, -, -⟩ := ListAt.open h
  obtain ⟨FT, hFT⟩ : ∃ b, decide (xss.length ≤ 3) = b := ⟨_, rfl⟩
  rw [hFT] at HFT
  obtain ⟨W1, hW1⟩ : ∃ W1, w.alloc (.cells cs 50) = W1 := ⟨_, rfl⟩
  have hE1 : Ext w W1 := by rw [← hW1]; exact Ext.alloc _ _
  have hP1 : W1.heap[w.heap.size]? = some (.cells cs 50 (0, 0)) := by rw [← hW1]; exact block_new _ _ _
  have hs1 : W1.heap.size = w.heap.size + 1 := by rw [← hW1]; simp
  obtain ⟨W2, hW2⟩ : ∃ W2, W1.alloc (.cells #[.int .u8 c, .slice av xss.length cv, .bool vals] 73) = W2 := ⟨_, rfl⟩
  have hE2 : Ext W1 W2 := by rw [← hW2]; exact Ext.alloc _ _
  have hP2 : W2.heap[w.heap.size + 1]? = some (.cells #[.int .u8 c, .slice av xss.length cv, .bool vals] 73 (0, 0)) := by rw [← hW2, ← hs1]; exact block_new _ _ _
  have HE2 := Lib.hid (hE1.trans hE2); have HA2 := Lib.hid (block_ext hP1 hE2); have HB2 := Lib.hid hP2
  have HFX : Hid (FT = true → xss.length ≤ 3) := fun e => by rw [e] at hFT; exact of_decide_eq_true hFT
  clear hpl h hlib hp hFT hE1 hP1 hE2 hP2
  go_enter Tryz.func5, Tryz.ntmps5
  go_wp2_with fail
  clear hW1 hW2 hs1
  refine (known_any _).mono ?_
  rintro e w3 ⟨rfl, hE3⟩
  have HE3 := Lib.hid (HE2.out.trans hE3); have HA3 := Lib.hid (block_ext HA2.out hE3); have HB3 := Lib.hid (block_ext HB2.out hE3)
  clear hE3 HE2 HA2 HB2
  obtain ⟨p0, p1, p2⟩ := p18_block HB3.out
  go_wp2_with fail
  refine (HFT.out _ HE3.out).mono ?_
  rintro e w4 ⟨rfl, hE4⟩
  have HE4 := Lib.hid (HE3.out.trans hE4); have HA4 := Lib.hid (block_ext HA3.out hE4); have HB4 := Lib.hid (block_ext HB3.out hE4)
  clear hE4 HE3 HA3 HB3 p0 p1 p2 HFT
  cases FT with
  | false =>
    go_wp2_with fail
    refine (known_any _).mono ?_
    rintro e w5 ⟨rfl, hE5⟩
    have HE5 := Lib.hid (HE4.out.trans hE5)
    clear hE5
    go_wp2_with fail
    go_ret
    exact ⟨rfl, HE5.out⟩
  | true =>
  have HTT := Lib.hid (HTM.out (HFX.out rfl))
  clear HTM HFX
  go_upto_region 3 with fail
  go_cut [7, 8] from 31 to 35 (fun t7 t8 wx => ∃ (g7 g8 : Nat) (ap : Option Addr) (cp : Nat) (ac : Option Addr) (nc cc : Nat) (al : Option Addr) (nl cl : Nat) (k : Wk) (tp tc tm : Value) (n F : Nat) (P : List Int) (C M : List (List Int)), t7 = .pointer (some ⟨g7, 0, none⟩) ∧ t8 = .pointer (some ⟨g8, 0, none⟩) ∧ Hid (Ext w4 wx) ∧
      Hid (wx.heap[g7]? = some (.cells #[.slice ap 3 cp, .slice ac nc cc, .slice al nl cl] 55 (0, 0))) ∧ Hid (wx.heap[g8]? = some (.cells #[tp, tc, tm] 58 (0, 0))) ∧
      Hid (WalkAt wx (.agg #[.slice ap 3 cp, .slice ac nc cc, .slice al nl cl]) k) ∧ Hid (TempV wx (.agg #[tp, tc, tm]) P C M) ∧ Hid (PlanWk k) ∧ Hid (RightT n F P C M))
  case first =>
    obtain ⟨p0, p1, p2⟩ := p18_block HB4.out
    refine region_anyE (fun w' => w'.heap[w.heap.size]? = some (.cells cs 50 (0, 0)) ∧ w'.cell? ⟨w.heap.size + 1, 0, none⟩ = some (.int .u8 c) ∧ w'.cell? ⟨w.heap.size + 1, 1, none⟩ = some (.slice av xss.length cv) ∧ w'.cell? ⟨w.heap.size + 1, 2, none⟩ = some (.bool vals) ∧ Hid (Ext w4 w')) 7 (by kernel_rfl) ⟨block_ext HA4.out (Ext.drew w4), (Ext.drew w4).cell p0, (Ext.drew w4).cell p1, (Ext.drew w4).cell p2, Ext.drew w4⟩ (fun hHeld => ?_)
    have HZd : Hid (w4.heap.size ≤ w4.drew.heap.size) := (Ext.drew w4).size
    generalize w4.drew = wd at hHeld HZd ⊢
    clear p0 p1 p2
    refine anyE_take 0 rfl (by kernel_rfl) (by kernel_rfl) (by kernel_rfl) (by kernel_rfl) (by kernel_rfl) (fun _ _ _ h => h) (yields_load_row 50 _ rfl rfl w.heap.size rfl _ cs (0, 0) _ (fun w' h => h.1) Tryz.underlying50 rfl (by rw [HPL.out.1]; kernel_rfl)) (by assumption) ?_
    (try simp only [Act.put, List.setIfInBounds_toArray, List.set_cons_zero, List.set_cons_succ])
    refine anyE_take (v := ?_) 2 rfl (by kernel_rfl) (by kernel_rfl) (by kernel_rfl) (by kernel_rfl) (by kernel_rfl) (fun _ _ _ h => h) (Or.inl ⟨by rfl, ?_⟩) (by assumption) ?_
    rotate_left
    · ((intro w' hSw); (try dsimp only at hSw); (try go_simp); (try with_reducible rfl))
    (try simp only [Act.put, List.setIfInBounds_toArray, List.set_cons_zero, List.set_cons_succ])
    refine anyE_takeW (v := ?_) 3 rfl (by kernel_rfl) (by kernel_rfl) (by kernel_rfl) (by decide) (fun _ _ _ h => h) (Or.inl ⟨by rfl, ?_⟩) (by assumption) ?_
    rotate_left
    · ((intro w'); (try go_simp); (try with_reducible rfl))
    (try simp only [Act.put, List.setIfInBounds_toArray, List.set_cons_zero, List.set_cons_succ])
    refine anyE_fork3 1 5 6 (by kernel_rfl) rfl rfl rfl (fun K hK => ?_) (fun K hK => ?_) (fun K hK => ?_)
    · go_simp
      (go_at_call 14; refine (HMK.out _).mono ?_)
      rintro e v0 ⟨ap, cp, ac, nc, cc, al, nl, cl, k, S, u0, rfl, hEz, hO, hk, -, -⟩
      have HW1 := Lib.hid (own_safe hO); have HPK := Lib.hid hk; have X1 : Hid (Ext v0 v0) := Ext.refl _; have ZW : Hid (wd.heap.size ≤ v0.heap.size) := hEz.size; have ZB : Hid (wd.heap.size ≤ wd.heap.size) := Nat.le_refl _
      have hH2 := And.intro (block_ext hHeld.1 hEz) (And.intro (hEz.cell hHeld.2.1) (And.intro (hEz.cell hHeld.2.2.1) (And.intro (hEz.cell hHeld.2.2.2.1) (Lib.hid (Ext.trans hHeld.2.2.2.2.out hEz)))))
      go_wp2_with fail
      refine hK.out _ _ hH2 (fun hHeld => ?_)
      clear hEz hO hk
      clear hK K hH2
      (try simp only [Act.put, List.setIfInBounds_toArray, List.set_cons_zero, List.set_cons_succ])
      refine anyE_fork3 4 5 6 (by kernel_rfl) rfl rfl rfl (fun K hK => ?_) (fun K hK => ?_) (fun K hK => ?_)
      · go_simp
        (go_at_call 23; refine (HTT.out _ (HE4.out.trans hHeld.2.2.2.2.out)).mono ?_)
        rintro e v1 ⟨⟨ut, n, F, P, C, M, rfl, hut, hRT⟩, hEz⟩
        obtain ⟨tp, tc, tm, rfl, ht1, ht2, ht3⟩ := hut.now
        obtain ⟨a1, c1, rfl, -⟩ := ht1.open
        obtain ⟨a2, c2, rfl, -⟩ := inCell.open ht2
        obtain ⟨a3, c3, rfl, -⟩ := inCell.open ht3
        have HT4 := Lib.hid hut; have HRT := Lib.hid hRT; have X4 : Hid (Ext v1 v1) := Ext.refl _; have ZT : Hid (v0.heap.size ≤ v1.heap.size) := hEz.size
        have hH2 := And.intro (block_ext hHeld.1 hEz) (And.intro (hEz.cell hHeld.2.1) (And.intro (hEz.cell hHeld.2.2.1) (And.intro (hEz.cell hHeld.2.2.2.1) (Lib.hid (Ext.trans hHeld.2.2.2.2.out hEz)))))
        have X1 := Lib.hid (X1.out.trans hEz)
        go_wp2_with fail
        refine hK.out _ _ hH2 (fun hHeld => ?_)
        clear hEz hut hRT ht1 ht2 ht3
        clear hK K hH2
        (try simp only [Act.put, List.setIfInBounds_toArray, List.set_cons_zero, List.set_cons_succ])
        refine anyE_fork2 5 6 (by kernel_rfl) rfl rfl (fun K hK => ?_) (fun K hK => ?_)
        · go_simp
          obtain ⟨v2, hWn, hEz, hs, hb⟩ := wkb_new v1 (.slice none 0 0) (.slice none 0 0) (.slice none 0 0)
          rw [hWn]
          have HG7 := Lib.hid hb; have Z7 : Hid (v2.heap.size = v1.heap.size + 1) := hs
          have hH2 := And.intro (block_ext hHeld.1 hEz) (And.intro (hEz.cell hHeld.2.1) (And.intro (hEz.cell hHeld.2.2.1) (And.intro (hEz.cell hHeld.2.2.2.1) (Lib.hid (Ext.trans hHeld.2.2.2.2.out hEz)))))
          have X1 := Lib.hid (X1.out.trans hEz)
          have X4 := Lib.hid (X4.out.trans hEz)
          refine hK.out _ _ hH2 (fun hHeld => ?_)
          clear hWn hEz hs hb
          clear hK K hH2
          (try simp only [Act.put, List.setIfInBounds_toArray, List.set_cons_zero, List.set_cons_succ])
          refine anyE_step 6 (by kernel_rfl) rfl (fun K hK => ?_)
          go_simp
          obtain ⟨v3, hWn, hEz, hs, hb⟩ := tp_new v2 (.slice none 0 0) (.slice none 0 0) (.slice none 0 0)
          rw [hWn]
          have HG8 := Lib.hid hb; have Z8 : Hid (v3.heap.size = v2.heap.size + 1) := hs
          have hH2 := And.intro (block_ext hHeld.1 hEz) (And.intro (hEz.cell hHeld.2.1) (And.intro (hEz.cell hHeld.2.2.1) (And.intro (hEz.cell hHeld.2.2.2.1) (Lib.hid (Ext.trans hHeld.2.2.2.2.out hEz)))))
          have X1 := Lib.hid (X1.out.trans hEz)
          have X4 := Lib.hid (X4.out.trans hEz)
          have HG7 := Lib.hid (block_ext HG7.out hEz)
          refine hK.out _ _ hH2 (fun hHeld => ?_)
          clear hWn hEz hs hb
          clear hK K hH2
          (try simp only [Act.put, List.setIfInBounds_toArray, List.set_cons_zero, List.set_cons_succ])
          have hz0 : w4.heap.size ≤ wd.heap.size := HZd.out
          have hz1 := ZW.out
          have hz2 := ZT.out
          have hz3 := Z7.out
          have hz4 := Z8.out
          have kc70 := block_cell HG7.out 0; have kc71 := block_cell HG7.out 1; have kc72 := block_cell HG7.out 2; have kc80 := block_cell HG8.out 0; have kc81 := block_cell HG8.out 1; have kc82 := block_cell HG8.out 2
          simp only [List.getElem?_toArray, List.getElem?_cons_zero, List.getElem?_cons_succ] at kc70 kc71 kc72 kc80 kc81 kc82
          have kf70 := block_free HG7.out 0; have kf80 := block_free HG8.out 0
          have kf71 := block_free HG7.out 1; have kf81 := block_free HG8.out 1
          have kf72 := block_free HG7.out 2; have kf82 := block_free HG8.out 2
          have R1 := Lib.hid (kept_two HW1.out X1.out (g7 := v1.heap.size) (g8 := v2.heap.size) (by omega) (by omega) (.slice ap 3 cp) (.slice ac nc cc) (.slice al nl cl) (.slice a1 P.length c1) (.slice a2 C.length c2) (.slice a3 M.length c3))
          have R2 := Lib.hid (kept_two HT4.out X4.out (g7 := v1.heap.size) (g8 := v2.heap.size) (by omega) (by omega) (.slice ap 3 cp) (.slice ac nc cc) (.slice al nl cl) (.slice a1 P.length c1) (.slice a2 C.length c2) (.slice a3 M.length c3))
          have R3 := boxes_two HG7.out HG8.out (by omega) (.slice ap 3 cp) (.slice ac nc cc) (.slice al nl cl) (.slice a1 P.length c1) (.slice a2 C.length c2) (.slice a3 M.length c3)
          have R31 := Lib.hid R3.1; have R32 := Lib.hid R3.2
          have R4 := Lib.hid (ext_tp (ext_wk5 hHeld.2.2.2.2.out (B := v1.heap.size) (by omega) (.slice ap 3 cp) (.slice ac nc cc) (.slice al nl cl)) (B := v2.heap.size) (by omega) (.slice a1 P.length c1) (.slice a2 C.length c2) (.slice a3 M.length c3))
          clear hz0 hz1 hz2 hz3 hz4 R3
          have hne7 : v2.heap.size ≠ v1.heap.size := by have h1 := HZd.out; have q1 := ZW.out; have q2 := ZT.out; have q3 := Z7.out; have q4 := Z8.out; omega
          refine anyE_stepZ 7 (by kernel_rfl) (by kernel_rfl) rfl (fun K hK => ?_)
          go_simp
          refine hK.out _ _ ?_
          clear hK K
          (try simp only [Act.put, List.setIfInBounds_toArray, List.set_cons_zero, List.set_cons_succ])
          refine anyE_last 8 (by kernel_rfl) (by kernel_rfl) (by kernel_rfl) rfl (fun K hK => ?_)
          go_simp
          refine hK.out _ _ ?_
          clear hK K
          (try simp only [Act.put, List.setIfInBounds_toArray, List.set_cons_zero, List.set_cons_succ])
          go_wp2_with fail
          go_meet
          exact ⟨_, _, ap, cp, ac, nc, cc, al, nl, cl, k, _, _, _, n, F, P, C, M, rfl, rfl, R4, R31, R32, R1, R2, HPK, HRT⟩
        · go_simp
          obtain ⟨v2, hWn, hEz, hs, hb⟩ := tp_new v1 (.slice none 0 0) (.slice none 0 0) (.slice none 0 0)
          rw [hWn]
          have HG8 := Lib.hid hb; have Z8 : Hid (v2.heap.size = v1.heap.size + 1) := hs
          have hH2 := And.intro (block_ext hHeld.1 hEz) (And.intro (hEz.cell hHeld.2.1) (And.intro (hEz.cell hHeld.2.2.1) (And.intro (hEz.cell hHeld.2.2.2.1) (Lib.hid (Ext.trans hHeld.2.2.2.2.out hEz)))))
          have X1 := Lib.hid (X1.out.trans hEz)
          have X4 := Lib.hid (X4.out.trans hEz)
          refine hK.out _ _ hH2 (fun hHeld => ?_)
          clear hWn hEz hs hb
          clear hK K hH2
          (try simp only [Act.put, List.setIfInBounds_toArray, List.set_cons_zero, List.set_cons_succ])
          refine anyE_step 5 (by kernel_rfl) rfl (fun K hK => ?_)
          go_simp
          obtain ⟨v3, hWn, hEz, hs, hb⟩ := wkb_new v2 (.slice none 0 0) (.slice none 0 0) (.slice none 0 0)
          rw [hWn]
          have HG7 := Lib.hid hb; have Z7 : Hid (v3.heap.size = v2.heap.size + 1) := hs
          have hH2 := And.intro (block_ext hHeld.1 hEz) (And.intro (hEz.cell hHeld.2.1) (And.intro (hEz.cell hHeld.2.2.1) (And.intro (hEz.cell hHeld.2.2.2.1) (Lib.hid (Ext.trans hHeld.2.2.2.2.out hEz)))))
          have X1 := Lib.hid (X1.out.trans hEz)
          have X4 := Lib.hid (X4.out.trans hEz)
          have HG8 := Lib.hid (block_ext HG8.out hEz)
          refine hK.out _ _ hH2 (fun hHeld => ?_)
          clear hWn hEz hs hb
          clear hK K hH2
          (try simp only [Act.put, List.setIfInBounds_toArray, List.set_cons_zero, List.set_cons_succ])
          have hz0 : w4.heap.size ≤ wd.heap.size := HZd.out
          have hz1 := ZW.out
          have hz2 := ZT.out
          have hz3 := Z8.out
          have hz4 := Z7.out
          have kc70 := block_cell HG7.out 0; have kc71 := block_cell HG7.out 1; have kc72 := block_cell HG7.out 2; have kc80 := block_cell HG8.out 0; have kc81 := block_cell HG8.out 1; have kc82 := block_cell HG8.out 2
          simp only [List.getElem?_toArray, List.getElem?_cons_zero, List.getElem?_cons_succ] at kc70 kc71 kc72 kc80 kc81 kc82
          have kf70 := block_free HG7.out 0; have kf80 := block_free HG8.out 0
          have kf71 := block_free HG7.out 1; have kf81 := block_free HG8.out 1
          have kf72 := block_free HG7.out 2; have kf82 := block_free HG8.out 2
          have R1 := Lib.hid (kept_two HW1.out X1.out (g7 := v2.heap.size) (g8 := v1.heap.size) (by omega) (by omega) (.slice ap 3 cp) (.slice ac nc cc) (.slice al nl cl) (.slice a1 P.length c1) (.slice a2 C.length c2) (.slice a3 M.length c3))
          have R2 := Lib.hid (kept_two HT4.out X4.out (g7 := v2.heap.size) (g8 := v1.heap.size) (by omega) (by omega) (.slice ap 3 cp) (.slice ac nc cc) (.slice al nl cl) (.slice a1 P.length c1) (.slice a2 C.length c2) (.slice a3 M.length c3))
          have R3 := boxes_two HG7.out HG8.out (by omega) (.slice ap 3 cp) (.slice ac nc cc) (.slice al nl cl) (.slice a1 P.length c1) (.slice a2 C.length c2) (.slice a3 M.length c3)
          have R31 := Lib.hid R3.1; have R32 := Lib.hid R3.2
          have R4 := Lib.hid (ext_tp (ext_wk5 hHeld.2.2.2.2.out (B := v2.heap.size) (by omega) (.slice ap 3 cp) (.slice ac nc cc) (.slice al nl cl)) (B := v1.heap.size) (by omega) (.slice a1 P.length c1) (.slice a2 C.length c2) (.slice a3 M.length c3))
          clear hz0 hz1 hz2 hz3 hz4 R3
          have hne7 : v1.heap.size ≠ v2.heap.size := by have h1 := HZd.out; have q1 := ZW.out; have q2 := ZT.out; have q3 := Z7.out; have q4 := Z8.out; omega
          refine anyE_stepZ 7 (by kernel_rfl) (by kernel_rfl) rfl (fun K hK => ?_)
          go_simp
          refine hK.out _ _ ?_
          clear hK K
          (try simp only [Act.put, List.setIfInBounds_toArray, List.set_cons_zero, List.set_cons_succ])
          refine anyE_last 8 (by kernel_rfl) (by kernel_rfl) (by kernel_rfl) rfl (fun K hK => ?_)
          go_simp
          refine hK.out _ _ ?_
          clear hK K
          (try simp only [Act.put, List.setIfInBounds_toArray, List.set_cons_zero, List.set_cons_succ])
          go_wp2_with fail
          go_meet
          exact ⟨_, _, ap, cp, ac, nc, cc, al, nl, cl, k, _, _, _, n, F, P, C, M, rfl, rfl, R4, R31, R32, R1, R2, HPK, HRT⟩
      · go_simp
        obtain ⟨v1, hWn, hEz, hs, hb⟩ := wkb_new v0 (.slice none 0 0) (.slice none 0 0) (.slice none 0 0)
        rw [hWn]
        have HG7 := Lib.hid hb; have Z7 : Hid (v1.heap.size = v0.heap.size + 1) := hs
        have hH2 := And.intro (block_ext hHeld.1 hEz) (And.intro (hEz.cell hHeld.2.1) (And.intro (hEz.cell hHeld.2.2.1) (And.intro (hEz.cell hHeld.2.2.2.1) (Lib.hid (Ext.trans hHeld.2.2.2.2.out hEz)))))
        have X1 := Lib.hid (X1.out.trans hEz)
        refine hK.out _ _ hH2 (fun hHeld => ?_)
        clear hWn hEz hs hb
        clear hK K hH2
        (try simp only [Act.put, List.setIfInBounds_toArray, List.set_cons_zero, List.set_cons_succ])
        refine anyE_fork2 4 6 (by kernel_rfl) rfl rfl (fun K hK => ?_) (fun K hK => ?_)
        · go_simp
          (go_at_call 23; refine (HTT.out _ (HE4.out.trans hHeld.2.2.2.2.out)).mono ?_)
          rintro e v2 ⟨⟨ut, n, F, P, C, M, rfl, hut, hRT⟩, hEz⟩
          obtain ⟨tp, tc, tm, rfl, ht1, ht2, ht3⟩ := hut.now
          obtain ⟨a1, c1, rfl, -⟩ := ht1.open
          obtain ⟨a2, c2, rfl, -⟩ := inCell.open ht2
          obtain ⟨a3, c3, rfl, -⟩ := inCell.open ht3
          have HT4 := Lib.hid hut; have HRT := Lib.hid hRT; have X4 : Hid (Ext v2 v2) := Ext.refl _; have ZT : Hid (v1.heap.size ≤ v2.heap.size) := hEz.size
          have hH2 := And.intro (block_ext hHeld.1 hEz) (And.intro (hEz.cell hHeld.2.1) (And.intro (hEz.cell hHeld.2.2.1) (And.intro (hEz.cell hHeld.2.2.2.1) (Lib.hid (Ext.trans hHeld.2.2.2.2.out hEz)))))
          have X1 := Lib.hid (X1.out.trans hEz)
          have HG7 := Lib.hid (block_ext HG7.out hEz)
          go_wp2_with fail
          refine hK.out _ _ hH2 (fun hHeld => ?_)
          clear hEz hut hRT ht1 ht2 ht3
          clear hK K hH2
          (try simp only [Act.put, List.setIfInBounds_toArray, List.set_cons_zero, List.set_cons_succ])
          refine anyE_step 6 (by kernel_rfl) rfl (fun K hK => ?_)
          go_simp
          obtain ⟨v3, hWn, hEz, hs, hb⟩ := tp_new v2 (.slice none 0 0) (.slice none 0 0) (.slice none 0 0)
          rw [hWn]
          have HG8 := Lib.hid hb; have Z8 : Hid (v3.heap.size = v2.heap.size + 1) := hs
          have hH2 := And.intro (block_ext hHeld.1 hEz) (And.intro (hEz.cell hHeld.2.1) (And.intro (hEz.cell hHeld.2.2.1) (And.intro (hEz.cell hHeld.2.2.2.1) (Lib.hid (Ext.trans hHeld.2.2.2.2.out hEz)))))
          have X1 := Lib.hid (X1.out.trans hEz)
          have X4 := Lib.hid (X4.out.trans hEz)
          have HG7 := Lib.hid (block_ext HG7.out hEz)
          refine hK.out _ _ hH2 (fun hHeld => ?_)
          clear hWn hEz hs hb
          clear hK K hH2
          (try simp only [Act.put, List.setIfInBounds_toArray, List.set_cons_zero, List.set_cons_succ])
          have hz0 : w4.heap.size ≤ wd.heap.size := HZd.out
          have hz1 := ZW.out
          have hz2 := Z7.out
          have hz3 := ZT.out
          have hz4 := Z8.out
          have kc70 := block_cell HG7.out 0; have kc71 := block_cell HG7.out 1; have kc72 := block_cell HG7.out 2; have kc80 := block_cell HG8.out 0; have kc81 := block_cell HG8.out 1; have kc82 := block_cell HG8.out 2
          simp only [List.getElem?_toArray, List.getElem?_cons_zero, List.getElem?_cons_succ] at kc70 kc71 kc72 kc80 kc81 kc82
          have kf70 := block_free HG7.out 0; have kf80 := block_free HG8.out 0
          have kf71 := block_free HG7.out 1; have kf81 := block_free HG8.out 1
          have kf72 := block_free HG7.out 2; have kf82 := block_free HG8.out 2
          have R1 := Lib.hid (kept_two HW1.out X1.out (g7 := v0.heap.size) (g8 := v2.heap.size) (by omega) (by omega) (.slice ap 3 cp) (.slice ac nc cc) (.slice al nl cl) (.slice a1 P.length c1) (.slice a2 C.length c2) (.slice a3 M.length c3))
          have R2 := Lib.hid (kept_two HT4.out X4.out (g7 := v0.heap.size) (g8 := v2.heap.size) (by omega) (by omega) (.slice ap 3 cp) (.slice ac nc cc) (.slice al nl cl) (.slice a1 P.length c1) (.slice a2 C.length c2) (.slice a3 M.length c3))
          have R3 := boxes_two HG7.out HG8.out (by omega) (.slice ap 3 cp) (.slice ac nc cc) (.slice al nl cl) (.slice a1 P.length c1) (.slice a2 C.length c2) (.slice a3 M.length c3)
          have R31 := Lib.hid R3.1; have R32 := Lib.hid R3.2
          have R4 := Lib.hid (ext_tp (ext_wk5 hHeld.2.2.2.2.out (B := v0.heap.size) (by omega) (.slice ap 3 cp) (.slice ac nc cc) (.slice al nl cl)) (B := v2.heap.size) (by omega) (.slice a1 P.length c1) (.slice a2 C.length c2) (.slice a3 M.length c3))
          clear hz0 hz1 hz2 hz3 hz4 R3
          have hne7 : v2.heap.size ≠ v0.heap.size := by have h1 := HZd.out; have q1 := ZW.out; have q2 := ZT.out; have q3 := Z7.out; have q4 := Z8.out; omega
          refine anyE_stepZ 7 (by kernel_rfl) (by kernel_rfl) rfl (fun K hK => ?_)
          go_simp
          refine hK.out _ _ ?_
          clear hK K
          (try simp only [Act.put, List.setIfInBounds_toArray, List.set_cons_zero, List.set_cons_succ])
          refine anyE_last 8 (by kernel_rfl) (by kernel_rfl) (by kernel_rfl) rfl (fun K hK => ?_)
          go_simp
          refine hK.out _ _ ?_
          clear hK K
          (try simp only [Act.put, List.setIfInBounds_toArray, List.set_cons_zero, List.set_cons_succ])
          go_wp2_with fail
          go_meet
          exact ⟨_, _, ap, cp, ac, nc, cc, al, nl, cl, k, _, _, _, n, F, P, C, M, rfl, rfl, R4, R31, R32, R1, R2, HPK, HRT⟩
        · go_simp
          obtain ⟨v2, hWn, hEz, hs, hb⟩ := tp_new v1 (.slice none 0 0) (.slice none 0 0) (.slice none 0 0)
          rw [hWn]
          have HG8 := Lib.hid hb; have Z8 : Hid (v2.heap.size = v1.heap.size + 1) := hs
          have hH2 := And.intro (block_ext hHeld.1 hEz) (And.intro (hEz.cell hHeld.2.1) (And.intro (hEz.cell hHeld.2.2.1) (And.intro (hEz.cell hHeld.2.2.2.1) (Lib.hid (Ext.trans hHeld.2.2.2.2.out hEz)))))
          have X1 := Lib.hid (X1.out.trans hEz)
          have HG7 := Lib.hid (block_ext HG7.out hEz)
          refine hK.out _ _ hH2 (fun hHeld => ?_)
          clear hWn hEz hs hb
          clear hK K hH2
          (try simp only [Act.put, List.setIfInBounds_toArray, List.set_cons_zero, List.set_cons_succ])
          refine anyE_step 4 (by kernel_rfl) rfl (fun K hK => ?_)
          go_simp
          (go_at_call 23; refine (HTT.out _ (HE4.out.trans hHeld.2.2.2.2.out)).mono ?_)
          rintro e v3 ⟨⟨ut, n, F, P, C, M, rfl, hut, hRT⟩, hEz⟩
          obtain ⟨tp, tc, tm, rfl, ht1, ht2, ht3⟩ := hut.now
          obtain ⟨a1, c1, rfl, -⟩ := ht1.open
          obtain ⟨a2, c2, rfl, -⟩ := inCell.open ht2
          obtain ⟨a3, c3, rfl, -⟩ := inCell.open ht3
          have HT4 := Lib.hid hut; have HRT := Lib.hid hRT; have X4 : Hid (Ext v3 v3) := Ext.refl _; have ZT : Hid (v2.heap.size ≤ v3.heap.size) := hEz.size
          have hH2 := And.intro (block_ext hHeld.1 hEz) (And.intro (hEz.cell hHeld.2.1) (And.intro (hEz.cell hHeld.2.2.1) (And.intro (hEz.cell hHeld.2.2.2.1) (Lib.hid (Ext.trans hHeld.2.2.2.2.out hEz)))))
          have X1 := Lib.hid (X1.out.trans hEz)
          have HG7 := Lib.hid (block_ext HG7.out hEz)
          have HG8 := Lib.hid (block_ext HG8.out hEz)
          go_wp2_with fail
          refine hK.out _ _ hH2 (fun hHeld => ?_)
          clear hEz hut hRT ht1 ht2 ht3
          clear hK K hH2
          (try simp only [Act.put, List.setIfInBounds_toArray, List.set_cons_zero, List.set_cons_succ])
          have hz0 : w4.heap.size ≤ wd.heap.size := HZd.out
          have hz1 := ZW.out
          have hz2 := Z7.out
          have hz3 := Z8.out
          have hz4 := ZT.out
          have kc70 := block_cell HG7.out 0; have kc71 := block_cell HG7.out 1; have kc72 := block_cell HG7.out 2; have kc80 := block_cell HG8.out 0; have kc81 := block_cell HG8.out 1; have kc82 := block_cell HG8.out 2
          simp only [List.getElem?_toArray, List.getElem?_cons_zero, List.getElem?_cons_succ] at kc70 kc71 kc72 kc80 kc81 kc82
          have kf70 := block_free HG7.out 0; have kf80 := block_free HG8.out 0
          have kf71 := block_free HG7.out 1; have kf81 := block_free HG8.out 1
          have kf72 := block_free HG7.out 2; have kf82 := block_free HG8.out 2
          have R1 := Lib.hid (kept_two HW1.out X1.out (g7 := v0.heap.size) (g8 := v1.heap.size) (by omega) (by omega) (.slice ap 3 cp) (.slice ac nc cc) (.slice al nl cl) (.slice a1 P.length c1) (.slice a2 C.length c2) (.slice a3 M.length c3))
          have R2 := Lib.hid (kept_two HT4.out X4.out (g7 := v0.heap.size) (g8 := v1.heap.size) (by omega) (by omega) (.slice ap 3 cp) (.slice ac nc cc) (.slice al nl cl) (.slice a1 P.length c1) (.slice a2 C.length c2) (.slice a3 M.length c3))
          have R3 := boxes_two HG7.out HG8.out (by omega) (.slice ap 3 cp) (.slice ac nc cc) (.slice al nl cl) (.slice a1 P.length c1) (.slice a2 C.length c2) (.slice a3 M.length c3)
          have R31 := Lib.hid R3.1; have R32 := Lib.hid R3.2
          have R4 := Lib.hid (ext_tp (ext_wk5 hHeld.2.2.2.2.out (B := v0.heap.size) (by omega) (.slice ap 3 cp) (.slice ac nc cc) (.slice al nl cl)) (B := v1.heap.size) (by omega) (.slice a1 P.length c1) (.slice a2 C.length c2) (.slice a3 M.length c3))
          clear hz0 hz1 hz2 hz3 hz4 R3
          have hne7 : v1.heap.size ≠ v0.heap.size := by have h1 := HZd.out; have q1 := ZW.out; have q2 := ZT.out; have q3 := Z7.out; have q4 := Z8.out; omega
          refine anyE_stepZ 7 (by kernel_rfl) (by kernel_rfl) rfl (fun K hK => ?_)
          go_simp
          refine hK.out _ _ ?_
          clear hK K
          (try simp only [Act.put, List.setIfInBounds_toArray, List.set_cons_zero, List.set_cons_succ])
          refine anyE_last 8 (by kernel_rfl) (by kernel_rfl) (by kernel_rfl) rfl (fun K hK => ?_)
          go_simp
          refine hK.out _ _ ?_
          clear hK K
          (try simp only [Act.put, List.setIfInBounds_toArray, List.set_cons_zero, List.set_cons_succ])
          go_wp2_with fail
          go_meet
          exact ⟨_, _, ap, cp, ac, nc, cc, al, nl, cl, k, _, _, _, n, F, P, C, M, rfl, rfl, R4, R31, R32, R1, R2, HPK, HRT⟩
      · go_simp
        obtain ⟨v1, hWn, hEz, hs, hb⟩ := tp_new v0 (.slice none 0 0) (.slice none 0 0) (.slice none 0 0)
        rw [hWn]
        have HG8 := Lib.hid hb; have Z8 : Hid (v1.heap.size = v0.heap.size + 1) := hs
        have hH2 := And.intro (block_ext hHeld.1 hEz) (And.intro (hEz.cell hHeld.2.1) (And.intro (hEz.cell hHeld.2.2.1) (And.intro (hEz.cell hHeld.2.2.2.1) (Lib.hid (Ext.trans hHeld.2.2.2.2.out hEz)))))
        have X1 := Lib.hid (X1.out.trans hEz)
        refine hK.out _ _ hH2 (fun hHeld => ?_)
        clear hWn hEz hs hb
        clear hK K hH2
        (try simp only [Act.put, List.setIfInBounds_toArray, List.set_cons_zero, List.set_cons_succ])
        refine anyE_fork2 4 5 (by kernel_rfl) rfl rfl (fun K hK => ?_) (fun K hK => ?_)
        · go_simp
          (go_at_call 23; refine (HTT.out _ (HE4.out.trans hHeld.2.2.2.2.out)).mono ?_)
          rintro e v2 ⟨⟨ut, n, F, P, C, M, rfl, hut, hRT⟩, hEz⟩
          obtain ⟨tp, tc, tm, rfl, ht1, ht2, ht3⟩ := hut.now
          obtain ⟨a1, c1, rfl, -⟩ := ht1.open
          obtain ⟨a2, c2, rfl, -⟩ := inCell.open ht2
          obtain ⟨a3, c3, rfl, -⟩ := inCell.open ht3
          have HT4 := Lib.hid hut; have HRT := Lib.hid hRT; have X4 : Hid (Ext v2 v2) := Ext.refl _; have ZT : Hid (v1.heap.size ≤ v2.heap.size) := hEz.size
          have hH2 := And.intro (block_ext hHeld.1 hEz) (And.intro (hEz.cell hHeld.2.1) (And.intro (hEz.cell hHeld.2.2.1) (And.intro (hEz.cell hHeld.2.2.2.1) (Lib.hid (Ext.trans hHeld.2.2.2.2.out hEz)))))
          have X1 := Lib.hid (X1.out.trans hEz)
          have HG8 := Lib.hid (block_ext HG8.out hEz)
          go_wp2_with fail
          refine hK.out _ _ hH2 (fun hHeld => ?_)
          clear hEz hut hRT ht1 ht2 ht3
          clear hK K hH2
          (try simp only [Act.put, List.setIfInBounds_toArray, List.set_cons_zero, List.set_cons_succ])
          refine anyE_step 5 (by kernel_rfl) rfl (fun K hK => ?_)
          go_simp
          obtain ⟨v3, hWn, hEz, hs, hb⟩ := wkb_new v2 (.slice none 0 0) (.slice none 0 0) (.slice none 0 0)
          rw [hWn]
          have HG7 := Lib.hid hb; have Z7 : Hid (v3.heap.size = v2.heap.size + 1) := hs
          have hH2 := And.intro (block_ext hHeld.1 hEz) (And.intro (hEz.cell hHeld.2.1) (And.intro (hEz.cell hHeld.2.2.1) (And.intro (hEz.cell hHeld.2.2.2.1) (Lib.hid (Ext.trans hHeld.2.2.2.2.out hEz)))))
          have X1 := Lib.hid (X1.out.trans hEz)
          have X4 := Lib.hid (X4.out.trans hEz)
          have HG8 := Lib.hid (block_ext HG8.out hEz)
          refine hK.out _ _ hH2 (fun hHeld => ?_)
          clear hWn hEz hs hb
          clear hK K hH2
          (try simp only [Act.put, List.setIfInBounds_toArray, List.set_cons_zero, List.set_cons_succ])
          have hz0 : w4.heap.size ≤ wd.heap.size := HZd.out
          have hz1 := ZW.out
          have hz2 := Z8.out
          have hz3 := ZT.out
          have hz4 := Z7.out
          have kc70 := block_cell HG7.out 0; have kc71 := block_cell HG7.out 1; have kc72 := block_cell HG7.out 2; have kc80 := block_cell HG8.out 0; have kc81 := block_cell HG8.out 1; have kc82 := block_cell HG8.out 2
          simp only [List.getElem?_toArray, List.getElem?_cons_zero, List.getElem?_cons_succ] at kc70 kc71 kc72 kc80 kc81 kc82
          have kf70 := block_free HG7.out 0; have kf80 := block_free HG8.out 0
          have kf71 := block_free HG7.out 1; have kf81 := block_free HG8.out 1
          have kf72 := block_free HG7.out 2; have kf82 := block_free HG8.out 2
          have R1 := Lib.hid (kept_two HW1.out X1.out (g7 := v2.heap.size) (g8 := v0.heap.size) (by omega) (by omega) (.slice ap 3 cp) (.slice ac nc cc) (.slice al nl cl) (.slice a1 P.length c1) (.slice a2 C.length c2) (.slice a3 M.length c3))
          have R2 := Lib.hid (kept_two HT4.out X4.out (g7 := v2.heap.size) (g8 := v0.heap.size) (by omega) (by omega) (.slice ap 3 cp) (.slice ac nc cc) (.slice al nl cl) (.slice a1 P.length c1) (.slice a2 C.length c2) (.slice a3 M.length c3))
          have R3 := boxes_two HG7.out HG8.out (by omega) (.slice ap 3 cp) (.slice ac nc cc) (.slice al nl cl) (.slice a1 P.length c1) (.slice a2 C.length c2) (.slice a3 M.length c3)
          have R31 := Lib.hid R3.1; have R32 := Lib.hid R3.2
          have R4 := Lib.hid (ext_tp (ext_wk5 hHeld.2.2.2.2.out (B := v2.heap.size) (by omega) (.slice ap 3 cp) (.slice ac nc cc) (.slice al nl cl)) (B := v0.heap.size) (by omega) (.slice a1 P.length c1) (.slice a2 C.length c2) (.slice a3 M.length c3))
          clear hz0 hz1 hz2 hz3 hz4 R3
          have hne7 : v0.heap.size ≠ v2.heap.size := by have h1 := HZd.out; have q1 := ZW.out; have q2 := ZT.out; have q3 := Z7.out; have q4 := Z8.out; omega
          refine anyE_stepZ 7 (by kernel_rfl) (by kernel_rfl) rfl (fun K hK => ?_)
          go_simp
          refine hK.out _ _ ?_
          clear hK K
          (try simp only [Act.put, List.setIfInBounds_toArray, List.set_cons_zero, List.set_cons_succ])
          refine anyE_last 8 (by kernel_rfl) (by kernel_rfl) (by kernel_rfl) rfl (fun K hK => ?_)
          go_simp
          refine hK.out _ _ ?_
          clear hK K
          (try simp only [Act.put, List.setIfInBounds_toArray, List.set_cons_zero, List.set_cons_succ])
          go_wp2_with fail
          go_meet
          exact ⟨_, _, ap, cp, ac, nc, cc, al, nl, cl, k, _, _, _, n, F, P, C, M, rfl, rfl, R4, R31, R32, R1, R2, HPK, HRT⟩
        · go_simp
          obtain ⟨v2, hWn, hEz, hs, hb⟩ := wkb_new v1 (.slice none 0 0) (.slice none 0 0) (.slice none 0 0)
          rw [hWn]
          have HG7 := Lib.hid hb; have Z7 : Hid (v2.heap.size = v1.heap.size + 1) := hs
          have hH2 := And.intro (block_ext hHeld.1 hEz) (And.intro (hEz.cell hHeld.2.1) (And.intro (hEz.cell hHeld.2.2.1) (And.intro (hEz.cell hHeld.2.2.2.1) (Lib.hid (Ext.trans hHeld.2.2.2.2.out hEz)))))
          have X1 := Lib.hid (X1.out.trans hEz)
          have HG8 := Lib.hid (block_ext HG8.out hEz)
          refine hK.out _ _ hH2 (fun hHeld => ?_)
          clear hWn hEz hs hb
          clear hK K hH2
          (try simp only [Act.put, List.setIfInBounds_toArray, List.set_cons_zero, List.set_cons_succ])
          refine anyE_step 4 (by kernel_rfl) rfl (fun K hK => ?_)
          go_simp
          (go_at_call 23; refine (HTT.out _ (HE4.out.trans hHeld.2.2.2.2.out)).mono ?_)
          rintro e v3 ⟨⟨ut, n, F, P, C, M, rfl, hut, hRT⟩, hEz⟩
          obtain ⟨tp, tc, tm, rfl, ht1, ht2, ht3⟩ := hut.now
          obtain ⟨a1, c1, rfl, -⟩ := ht1.open
          obtain ⟨a2, c2, rfl, -⟩ := inCell.open ht2
          obtain ⟨a3, c3, rfl, -⟩ := inCell.open ht3
          have HT4 := Lib.hid hut; have HRT := Lib.hid hRT; have X4 : Hid (Ext v3 v3) := Ext.refl _; have ZT : Hid (v2.heap.size ≤ v3.heap.size) := hEz.size
          have hH2 := And.intro (block_ext hHeld.1 hEz) (And.intro (hEz.cell hHeld.2.1) (And.intro (hEz.cell hHeld.2.2.1) (And.intro (hEz.cell hHeld.2.2.2.1) (Lib.hid (Ext.trans hHeld.2.2.2.2.out hEz)))))
          have X1 := Lib.hid (X1.out.trans hEz)
          have HG7 := Lib.hid (block_ext HG7.out hEz)
          have HG8 := Lib.hid (block_ext HG8.out hEz)
          go_wp2_with fail
          refine hK.out _ _ hH2 (fun hHeld => ?_)
          clear hEz hut hRT ht1 ht2 ht3
          clear hK K hH2
          (try simp only [Act.put, List.setIfInBounds_toArray, List.set_cons_zero, List.set_cons_succ])
          have hz0 : w4.heap.size ≤ wd.heap.size := HZd.out
          have hz1 := ZW.out
          have hz2 := Z8.out
          have hz3 := Z7.out
          have hz4 := ZT.out
          have kc70 := block_cell HG7.out 0; have kc71 := block_cell HG7.out 1; have kc72 := block_cell HG7.out 2; have kc80 := block_cell HG8.out 0; have kc81 := block_cell HG8.out 1; have kc82 := block_cell HG8.out 2
          simp only [List.getElem?_toArray, List.getElem?_cons_zero, List.getElem?_cons_succ] at kc70 kc71 kc72 kc80 kc81 kc82
          have kf70 := block_free HG7.out 0; have kf80 := block_free HG8.out 0
          have kf71 := block_free HG7.out 1; have kf81 := block_free HG8.out 1
          have kf72 := block_free HG7.out 2; have kf82 := block_free HG8.out 2
          have R1 := Lib.hid (kept_two HW1.out X1.out (g7 := v1.heap.size) (g8 := v0.heap.size) (by omega) (by omega) (.slice ap 3 cp) (.slice ac nc cc) (.slice al nl cl) (.slice a1 P.length c1) (.slice a2 C.length c2) (.slice a3 M.length c3))
          have R2 := Lib.hid (kept_two HT4.out X4.out (g7 := v1.heap.size) (g8 := v0.heap.size) (by omega) (by omega) (.slice ap 3 cp) (.slice ac nc cc) (.slice al nl cl) (.slice a1 P.length c1) (.slice a2 C.length c2) (.slice a3 M.length c3))
          have R3 := boxes_two HG7.out HG8.out (by omega) (.slice ap 3 cp) (.slice ac nc cc) (.slice al nl cl) (.slice a1 P.length c1) (.slice a2 C.length c2) (.slice a3 M.length c3)
          have R31 := Lib.hid R3.1; have R32 := Lib.hid R3.2
          have R4 := Lib.hid (ext_tp (ext_wk5 hHeld.2.2.2.2.out (B := v1.heap.size) (by omega) (.slice ap 3 cp) (.slice ac nc cc) (.slice al nl cl)) (B := v0.heap.size) (by omega) (.slice a1 P.length c1) (.slice a2 C.length c2) (.slice a3 M.length c3))
          clear hz0 hz1 hz2 hz3 hz4 R3
          have hne7 : v0.heap.size ≠ v1.heap.size := by have h1 := HZd.out; have q1 := ZW.out; have q2 := ZT.out; have q3 := Z7.out; have q4 := Z8.out; omega
          refine anyE_stepZ 7 (by kernel_rfl) (by kernel_rfl) rfl (fun K hK => ?_)
          go_simp
          refine hK.out _ _ ?_
          clear hK K
          (try simp only [Act.put, List.setIfInBounds_toArray, List.set_cons_zero, List.set_cons_succ])
          refine anyE_last 8 (by kernel_rfl) (by kernel_rfl) (by kernel_rfl) rfl (fun K hK => ?_)
          go_simp
          refine hK.out _ _ ?_
          clear hK K
          (try simp only [Act.put, List.setIfInBounds_toArray, List.set_cons_zero, List.set_cons_succ])
          go_wp2_with fail
          go_meet
          exact ⟨_, _, ap, cp, ac, nc, cc, al, nl, cl, k, _, _, _, n, F, P, C, M, rfl, rfl, R4, R31, R32, R1, R2, HPK, HRT⟩
    · go_simp
      obtain ⟨v0, hWn, hEz, hs, hb⟩ := wkb_new wd (.slice none 0 0) (.slice none 0 0) (.slice none 0 0)
      rw [hWn]
      have HG7 := Lib.hid hb; have Z7 : Hid (v0.heap.size = wd.heap.size + 1) := hs
      have hH2 := And.intro (block_ext hHeld.1 hEz) (And.intro (hEz.cell hHeld.2.1) (And.intro (hEz.cell hHeld.2.2.1) (And.intro (hEz.cell hHeld.2.2.2.1) (Lib.hid (Ext.trans hHeld.2.2.2.2.out hEz)))))
      refine hK.out _ _ hH2 (fun hHeld => ?_)
      clear hWn hEz hs hb
      clear hK K hH2
      (try simp only [Act.put, List.setIfInBounds_toArray, List.set_cons_zero, List.set_cons_succ])
      refine anyE_fork2 1 6 (by kernel_rfl) rfl rfl (fun K hK => ?_) (fun K hK => ?_)
      · go_simp
        (go_at_call 14; refine (HMK.out _).mono ?_)
        rintro e v1 ⟨ap, cp, ac, nc, cc, al, nl, cl, k, S, u0, rfl, hEz, hO, hk, -, -⟩
        have HW1 := Lib.hid (own_safe hO); have HPK := Lib.hid hk; have X1 : Hid (Ext v1 v1) := Ext.refl _; have ZW : Hid (v0.heap.size ≤ v1.heap.size) := hEz.size; have ZB : Hid (v0.heap.size ≤ v0.heap.size) := Nat.le_refl _
        have hH2 := And.intro (block_ext hHeld.1 hEz) (And.intro (hEz.cell hHeld.2.1) (And.intro (hEz.cell hHeld.2.2.1) (And.intro (hEz.cell hHeld.2.2.2.1) (Lib.hid (Ext.trans hHeld.2.2.2.2.out hEz)))))
        have HG7 := Lib.hid (block_ext HG7.out hEz)
        go_wp2_with fail
        refine hK.out _ _ hH2 (fun hHeld => ?_)
        clear hEz hO hk
        clear hK K hH2
        (try simp only [Act.put, List.setIfInBounds_toArray, List.set_cons_zero, List.set_cons_succ])
        refine anyE_fork2 4 6 (by kernel_rfl) rfl rfl (fun K hK => ?_) (fun K hK => ?_)
        · go_simp
          (go_at_call 23; refine (HTT.out _ (HE4.out.trans hHeld.2.2.2.2.out)).mono ?_)
          rintro e v2 ⟨⟨ut, n, F, P, C, M, rfl, hut, hRT⟩, hEz⟩
          obtain ⟨tp, tc, tm, rfl, ht1, ht2, ht3⟩ := hut.now
          obtain ⟨a1, c1, rfl, -⟩ := ht1.open
          obtain ⟨a2, c2, rfl, -⟩ := inCell.open ht2
          obtain ⟨a3, c3, rfl, -⟩ := inCell.open ht3
          have HT4 := Lib.hid hut; have HRT := Lib.hid hRT; have X4 : Hid (Ext v2 v2) := Ext.refl _; have ZT : Hid (v1.heap.size ≤ v2.heap.size) := hEz.size
          have hH2 := And.intro (block_ext hHeld.1 hEz) (And.intro (hEz.cell hHeld.2.1) (And.intro (hEz.cell hHeld.2.2.1) (And.intro (hEz.cell hHeld.2.2.2.1) (Lib.hid (Ext.trans hHeld.2.2.2.2.out hEz)))))
          have X1 := Lib.hid (X1.out.trans hEz)
          have HG7 := Lib.hid (block_ext HG7.out hEz)
          go_wp2_with fail
          refine hK.out _ _ hH2 (fun hHeld => ?_)
          clear hEz hut hRT ht1 ht2 ht3
          clear hK K hH2
          (try simp only [Act.put, List.setIfInBounds_toArray, List.set_cons_zero, List.set_cons_succ])
          refine anyE_step 6 (by kernel_rfl) rfl (fun K hK => ?_)
          go_simp
          obtain ⟨v3, hWn, hEz, hs, hb⟩ := tp_new v2 (.slice none 0 0) (.slice none 0 0) (.slice none 0 0)
          rw [hWn]
          have HG8 := Lib.hid hb; have Z8 : Hid (v3.heap.size = v2.heap.size + 1) := hs
          have hH2 := And.intro (block_ext hHeld.1 hEz) (And.intro (hEz.cell hHeld.2.1) (And.intro (hEz.cell hHeld.2.2.1) (And.intro (hEz.cell hHeld.2.2.2.1) (Lib.hid (Ext.trans hHeld.2.2.2.2.out hEz)))))
          have X1 := Lib.hid (X1.out.trans hEz)
          have X4 := Lib.hid (X4.out.trans hEz)
          have HG7 := Lib.hid (block_ext HG7.out hEz)
          refine hK.out _ _ hH2 (fun hHeld => ?_)
          clear hWn hEz hs hb
          clear hK K hH2
          (try simp only [Act.put, List.setIfInBounds_toArray, List.set_cons_zero, List.set_cons_succ])
          have hz0 : w4.heap.size ≤ wd.heap.size := HZd.out
          have hz1 := Z7.out
          have hz2 := ZW.out
          have hz3 := ZT.out
          have hz4 := Z8.out
          have kc70 := block_cell HG7.out 0; have kc71 := block_cell HG7.out 1; have kc72 := block_cell HG7.out 2; have kc80 := block_cell HG8.out 0; have kc81 := block_cell HG8.out 1; have kc82 := block_cell HG8.out 2
          simp only [List.getElem?_toArray, List.getElem?_cons_zero, List.getElem?_cons_succ] at kc70 kc71 kc72 kc80 kc81 kc82
          have kf70 := block_free HG7.out 0; have kf80 := block_free HG8.out 0
          have kf71 := block_free HG7.out 1; have kf81 := block_free HG8.out 1
          have kf72 := block_free HG7.out 2; have kf82 := block_free HG8.out 2
          have R1 := Lib.hid (kept_two HW1.out X1.out (g7 := wd.heap.size) (g8 := v2.heap.size) (by omega) (by omega) (.slice ap 3 cp) (.slice ac nc cc) (.slice al nl cl) (.slice a1 P.length c1) (.slice a2 C.length c2) (.slice a3 M.length c3))
          have R2 := Lib.hid (kept_two HT4.out X4.out (g7 := wd.heap.size) (g8 := v2.heap.size) (by omega) (by omega) (.slice ap 3 cp) (.slice ac nc cc) (.slice al nl cl) (.slice a1 P.length c1) (.slice a2 C.length c2) (.slice a3 M.length c3))
          have R3 := boxes_two HG7.out HG8.out (by omega) (.slice ap 3 cp) (.slice ac nc cc) (.slice al nl cl) (.slice a1 P.length c1) (.slice a2 C.length c2) (.slice a3 M.length c3)
          have R31 := Lib.hid R3.1; have R32 := Lib.hid R3.2
          have R4 := Lib.hid (ext_tp (ext_wk5 hHeld.2.2.2.2.out (B := wd.heap.size) (by omega) (.slice ap 3 cp) (.slice ac nc cc) (.slice al nl cl)) (B := v2.heap.size) (by omega) (.slice a1 P.length c1) (.slice a2 C.length c2) (.slice a3 M.length c3))
          clear hz0 hz1 hz2 hz3 hz4 R3
          have hne7 : v2.heap.size ≠ wd.heap.size := by have h1 := HZd.out; have q1 := ZW.out; have q2 := ZT.out; have q3 := Z7.out; have q4 := Z8.out; omega
          refine anyE_stepZ 7 (by kernel_rfl) (by kernel_rfl) rfl (fun K hK => ?_)
          go_simp
          refine hK.out _ _ ?_
          clear hK K
          (try simp only [Act.put, List.setIfInBounds_toArray, List.set_cons_zero, List.set_cons_succ])
          refine anyE_last 8 (by kernel_rfl) (by kernel_rfl) (by kernel_rfl) rfl (fun K hK => ?_)
          go_simp
          refine hK.out _ _ ?_
          clear hK K
          (try simp only [Act.put, List.setIfInBounds_toArray, List.set_cons_zero, List.set_cons_succ])
          go_wp2_with fail
          go_meet
          exact ⟨_, _, ap, cp, ac, nc, cc, al, nl, cl, k, _, _, _, n, F, P, C, M, rfl, rfl, R4, R31, R32, R1, R2, HPK, HRT⟩
        · go_simp
          obtain ⟨v2, hWn, hEz, hs, hb⟩ := tp_new v1 (.slice none 0 0) (.slice none 0 0) (.slice none 0 0)
          rw [hWn]
          have HG8 := Lib.hid hb; have Z8 : Hid (v2.heap.size = v1.heap.size + 1) := hs
          have hH2 := And.intro (block_ext hHeld.1 hEz) (And.intro (hEz.cell hHeld.2.1) (And.intro (hEz.cell hHeld.2.2.1) (And.intro (hEz.cell hHeld.2.2.2.1) (Lib.hid (Ext.trans hHeld.2.2.2.2.out hEz)))))
          have X1 := Lib.hid (X1.out.trans hEz)
          have HG7 := Lib.hid (block_ext HG7.out hEz)
          refine hK.out _ _ hH2 (fun hHeld => ?_)
          clear hWn hEz hs hb
          clear hK K hH2
          (try simp only [Act.put, List.setIfInBounds_toArray, List.set_cons_zero, List.set_cons_succ])
          refine anyE_step 4 (by kernel_rfl) rfl (fun K hK => ?_)
          go_simp
          (go_at_call 23; refine (HTT.out _ (HE4.out.trans hHeld.2.2.2.2.out)).mono ?_)
          rintro e v3 ⟨⟨ut, n, F, P, C, M, rfl, hut, hRT⟩, hEz⟩
          obtain ⟨tp, tc, tm, rfl, ht1, ht2, ht3⟩ := hut.now
          obtain ⟨a1, c1, rfl, -⟩ := ht1.open
          obtain ⟨a2, c2, rfl, -⟩ := inCell.open ht2
          obtain ⟨a3, c3, rfl, -⟩ := inCell.open ht3
          have HT4 := Lib.hid hut; have HRT := Lib.hid hRT; have X4 : Hid (Ext v3 v3) := Ext.refl _; have ZT : Hid (v2.heap.size ≤ v3.heap.size) := hEz.size
          have hH2 := And.intro (block_ext hHeld.1 hEz) (And.intro (hEz.cell hHeld.2.1) (And.intro (hEz.cell hHeld.2.2.1) (And.intro (hEz.cell hHeld.2.2.2.1) (Lib.hid (Ext.trans hHeld.2.2.2.2.out hEz)))))
          have X1 := Lib.hid (X1.out.trans hEz)
          have HG7 := Lib.hid (block_ext HG7.out hEz)
          have HG8 := Lib.hid (block_ext HG8.out hEz)
          go_wp2_with fail
          refine hK.out _ _ hH2 (fun hHeld => ?_)
          clear hEz hut hRT ht1 ht2 ht3
          clear hK K hH2
          (try simp only [Act.put, List.setIfInBounds_toArray, List.set_cons_zero, List.set_cons_succ])
          have hz0 : w4.heap.size ≤ wd.heap.size := HZd.out
          have hz1 := Z7.out
          have hz2 := ZW.out
          have hz3 := Z8.out
          have hz4 := ZT.out
          have kc70 := block_cell HG7.out 0; have kc71 := block_cell HG7.out 1; have kc72 := block_cell HG7.out 2; have kc80 := block_cell HG8.out 0; have kc81 := block_cell HG8.out 1; have kc82 := block_cell HG8.out 2
          simp only [List.getElem?_toArray, List.getElem?_cons_zero, List.getElem?_cons_succ] at kc70 kc71 kc72 kc80 kc81 kc82
          have kf70 := block_free HG7.out 0; have kf80 := block_free HG8.out 0
          have kf71 := block_free HG7.out 1; have kf81 := block_free HG8.out 1
          have kf72 := block_free HG7.out 2; have kf82 := block_free HG8.out 2
          have R1 := Lib.hid (kept_two HW1.out X1.out (g7 := wd.heap.size) (g8 := v1.heap.size) (by omega) (by omega) (.slice ap 3 cp) (.slice ac nc cc) (.slice al nl cl) (.slice a1 P.length c1) (.slice a2 C.length c2) (.slice a3 M.length c3))
          have R2 := Lib.hid (kept_two HT4.out X4.out (g7 := wd.heap.size) (g8 := v1.heap.size) (by omega) (by omega) (.slice ap 3 cp) (.slice ac nc cc) (.slice al nl cl) (.slice a1 P.length c1) (.slice a2 C.length c2) (.slice a3 M.length c3))
          have R3 := boxes_two HG7.out HG8.out (by omega) (.slice ap 3 cp) (.slice ac nc cc) (.slice al nl cl) (.slice a1 P.length c1) (.slice a2 C.length c2) (.slice a3 M.length c3)
          have R31 := Lib.hid R3.1; have R32 := Lib.hid R3.2
          have R4 := Lib.hid (ext_tp (ext_wk5 hHeld.2.2.2.2.out (B := wd.heap.size) (by omega) (.slice ap 3 cp) (.slice ac nc cc) (.slice al nl cl)) (B := v1.heap.size) (by omega) (.slice a1 P.length c1) (.slice a2 C.length c2) (.slice a3 M.length c3))
          clear hz0 hz1 hz2 hz3 hz4 R3
          have hne7 : v1.heap.size ≠ wd.heap.size := by have h1 := HZd.out; have q1 := ZW.out; have q2 := ZT.out; have q3 := Z7.out; have q4 := Z8.out; omega
          refine anyE_stepZ 7 (by kernel_rfl) (by kernel_rfl) rfl (fun K hK => ?_)
          go_simp
          refine hK.out _ _ ?_
          clear hK K
          (try simp only [Act.put, List.setIfInBounds_toArray, List.set_cons_zero, List.set_cons_succ])
          refine anyE_last 8 (by kernel_rfl) (by kernel_rfl) (by kernel_rfl) rfl (fun K hK => ?_)
          go_simp
          refine hK.out _ _ ?_
          clear hK K
          (try simp only [Act.put, List.setIfInBounds_toArray, List.set_cons_zero, List.set_cons_succ])
          go_wp2_with fail
          go_meet
          exact ⟨_, _, ap, cp, ac, nc, cc, al, nl, cl, k, _, _, _, n, F, P, C, M, rfl, rfl, R4, R31, R32, R1, R2, HPK, HRT⟩
      · go_simp
        obtain ⟨v1, hWn, hEz, hs, hb⟩ := tp_new v0 (.slice none 0 0) (.slice none 0 0) (.slice none 0 0)
        rw [hWn]
        have HG8 := Lib.hid hb; have Z8 : Hid (v1.heap.size = v0.heap.size + 1) := hs
        have hH2 := And.intro (block_ext hHeld.1 hEz) (And.intro (hEz.cell hHeld.2.1) (And.intro (hEz.cell hHeld.2.2.1) (And.intro (hEz.cell hHeld.2.2.2.1) (Lib.hid (Ext.trans hHeld.2.2.2.2.out hEz)))))
        have HG7 := Lib.hid (block_ext HG7.out hEz)
        refine hK.out _ _ hH2 (fun hHeld => ?_)
        clear hWn hEz hs hb
        clear hK K hH2
        (try simp only [Act.put, List.setIfInBounds_toArray, List.set_cons_zero, List.set_cons_succ])
        refine anyE_step 1 (by kernel_rfl) rfl (fun K hK => ?_)
        go_simp
        (go_at_call 14; refine (HMK.out _).mono ?_)
        rintro e v2 ⟨ap, cp, ac, nc, cc, al, nl, cl, k, S, u0, rfl, hEz, hO, hk, -, -⟩
        have HW1 := Lib.hid (own_safe hO); have HPK := Lib.hid hk; have X1 : Hid (Ext v2 v2) := Ext.refl _; have ZW : Hid (v1.heap.size ≤ v2.heap.size) := hEz.size; have ZB : Hid (v1.heap.size ≤ v1.heap.size) := Nat.le_refl _
        have hH2 := And.intro (block_ext hHeld.1 hEz) (And.intro (hEz.cell hHeld.2.1) (And.intro (hEz.cell hHeld.2.2.1) (And.intro (hEz.cell hHeld.2.2.2.1) (Lib.hid (Ext.trans hHeld.2.2.2.2.out hEz)))))
        have HG7 := Lib.hid (block_ext HG7.out hEz)
        have HG8 := Lib.hid (block_ext HG8.out hEz)
        go_wp2_with fail
        refine hK.out _ _ hH2 (fun hHeld => ?_)
        clear hEz hO hk
        clear hK K hH2
        (try simp only [Act.put, List.setIfInBounds_toArray, List.set_cons_zero, List.set_cons_succ])
        refine anyE_step 4 (by kernel_rfl) rfl (fun K hK => ?_)
        go_simp
        (go_at_call 23; refine (HTT.out _ (HE4.out.trans hHeld.2.2.2.2.out)).mono ?_)
        rintro e v3 ⟨⟨ut, n, F, P, C, M, rfl, hut, hRT⟩, hEz⟩
        obtain ⟨tp, tc, tm, rfl, ht1, ht2, ht3⟩ := hut.now
        obtain ⟨a1, c1, rfl, -⟩ := ht1.open
        obtain ⟨a2, c2, rfl, -⟩ := inCell.open ht2
        obtain ⟨a3, c3, rfl, -⟩ := inCell.open ht3
        have HT4 := Lib.hid hut; have HRT := Lib.hid hRT; have X4 : Hid (Ext v3 v3) := Ext.refl _; have ZT : Hid (v2.heap.size ≤ v3.heap.size) := hEz.size
        have hH2 := And.intro (block_ext hHeld.1 hEz) (And.intro (hEz.cell hHeld.2.1) (And.intro (hEz.cell hHeld.2.2.1) (And.intro (hEz.cell hHeld.2.2.2.1) (Lib.hid (Ext.trans hHeld.2.2.2.2.out hEz)))))
        have X1 := Lib.hid (X1.out.trans hEz)
        have HG7 := Lib.hid (block_ext HG7.out hEz)
        have HG8 := Lib.hid (block_ext HG8.out hEz)
        go_wp2_with fail
        refine hK.out _ _ hH2 (fun hHeld => ?_)
        clear hEz hut hRT ht1 ht2 ht3
        clear hK K hH2
        (try simp only [Act.put, List.setIfInBounds_toArray, List.set_cons_zero, List.set_cons_succ])
        have hz0 : w4.heap.size ≤ wd.heap.size := HZd.out
        have hz1 := Z7.out
        have hz2 := Z8.out
        have hz3 := ZW.out
        have hz4 := ZT.out
        have kc70 := block_cell HG7.out 0; have kc71 := block_cell HG7.out 1; have kc72 := block_cell HG7.out 2; have kc80 := block_cell HG8.out 0; have kc81 := block_cell HG8.out 1; have kc82 := block_cell HG8.out 2
        simp only [List.getElem?_toArray, List.getElem?_cons_zero, List.getElem?_cons_succ] at kc70 kc71 kc72 kc80 kc81 kc82
        have kf70 := block_free HG7.out 0; have kf80 := block_free HG8.out 0
        have kf71 := block_free HG7.out 1; have kf81 := block_free HG8.out 1
        have kf72 := block_free HG7.out 2; have kf82 := block_free HG8.out 2
        have R1 := Lib.hid (kept_two HW1.out X1.out (g7 := wd.heap.size) (g8 := v0.heap.size) (by omega) (by omega) (.slice ap 3 cp) (.slice ac nc cc) (.slice al nl cl) (.slice a1 P.length c1) (.slice a2 C.length c2) (.slice a3 M.length c3))
        have R2 := Lib.hid (kept_two HT4.out X4.out (g7 := wd.heap.size) (g8 := v0.heap.size) (by omega) (by omega) (.slice ap 3 cp) (.slice ac nc cc) (.slice al nl cl) (.slice a1 P.length c1) (.slice a2 C.length c2) (.slice a3 M.length c3))
        have R3 := boxes_two HG7.out HG8.out (by omega) (.slice ap 3 cp) (.slice ac nc cc) (.slice al nl cl) (.slice a1 P.length c1) (.slice a2 C.length c2) (.slice a3 M.length c3)
        have R31 := Lib.hid R3.1; have R32 := Lib.hid R3.2
        have R4 := Lib.hid (ext_tp (ext_wk5 hHeld.2.2.2.2.out (B := wd.heap.size) (by omega) (.slice ap 3 cp) (.slice ac nc cc) (.slice al nl cl)) (B := v0.heap.size) (by omega) (.slice a1 P.length c1) (.slice a2 C.length c2) (.slice a3 M.length c3))
        clear hz0 hz1 hz2 hz3 hz4 R3
        have hne7 : v0.heap.size ≠ wd.heap.size := by have h1 := HZd.out; have q1 := ZW.out; have q2 := ZT.out; have q3 := Z7.out; have q4 := Z8.out; omega
        refine anyE_stepZ 7 (by kernel_rfl) (by kernel_rfl) rfl (fun K hK => ?_)
        go_simp
        refine hK.out _ _ ?_
        clear hK K
        (try simp only [Act.put, List.setIfInBounds_toArray, List.set_cons_zero, List.set_cons_succ])
        refine anyE_last 8 (by kernel_rfl) (by kernel_rfl) (by kernel_rfl) rfl (fun K hK => ?_)
        go_simp
        refine hK.out _ _ ?_
        clear hK K
        (try simp only [Act.put, List.setIfInBounds_toArray, List.set_cons_zero, List.set_cons_succ])
        go_wp2_with fail
        go_meet
        exact ⟨_, _, ap, cp, ac, nc, cc, al, nl, cl, k, _, _, _, n, F, P, C, M, rfl, rfl, R4, R31, R32, R1, R2, HPK, HRT⟩
    · go_simp
      obtain ⟨v0, hWn, hEz, hs, hb⟩ := tp_new wd (.slice none 0 0) (.slice none 0 0) (.slice none 0 0)
      rw [hWn]
      have HG8 := Lib.hid hb; have Z8 : Hid (v0.heap.size = wd.heap.size + 1) := hs
      have hH2 := And.intro (block_ext hHeld.1 hEz) (And.intro (hEz.cell hHeld.2.1) (And.intro (hEz.cell hHeld.2.2.1) (And.intro (hEz.cell hHeld.2.2.2.1) (Lib.hid (Ext.trans hHeld.2.2.2.2.out hEz)))))
      refine hK.out _ _ hH2 (fun hHeld => ?_)
      clear hWn hEz hs hb
      clear hK K hH2
      (try simp only [Act.put, List.setIfInBounds_toArray, List.set_cons_zero, List.set_cons_succ])
      refine anyE_fork2 1 5 (by kernel_rfl) rfl rfl (fun K hK => ?_) (fun K hK => ?_)
      · go_simp
        (go_at_call 14; refine (HMK.out _).mono ?_)
        rintro e v1 ⟨ap, cp, ac, nc, cc, al, nl, cl, k, S, u0, rfl, hEz, hO, hk, -, -⟩
        have HW1 := Lib.hid (own_safe hO); have HPK := Lib.hid hk; have X1 : Hid (Ext v1 v1) := Ext.refl _; have ZW : Hid (v0.heap.size ≤ v1.heap.size) := hEz.size; have ZB : Hid (v0.heap.size ≤ v0.heap.size) := Nat.le_refl _
        have hH2 := And.intro (block_ext hHeld.1 hEz) (And.intro (hEz.cell hHeld.2.1) (And.intro (hEz.cell hHeld.2.2.1) (And.intro (hEz.cell hHeld.2.2.2.1) (Lib.hid (Ext.trans hHeld.2.2.2.2.out hEz)))))
        have HG8 := Lib.hid (block_ext HG8.out hEz)
        go_wp2_with fail
        refine hK.out _ _ hH2 (fun hHeld => ?_)
        clear hEz hO hk
        clear hK K hH2
        (try simp only [Act.put, List.setIfInBounds_toArray, List.set_cons_zero, List.set_cons_succ])
        refine anyE_fork2 4 5 (by kernel_rfl) rfl rfl (fun K hK => ?_) (fun K hK => ?_)
        · go_simp
          (go_at_call 23; refine (HTT.out _ (HE4.out.trans hHeld.2.2.2.2.out)).mono ?_)
          rintro e v2 ⟨⟨ut, n, F, P, C, M, rfl, hut, hRT⟩, hEz⟩
          obtain ⟨tp, tc, tm, rfl, ht1, ht2, ht3⟩ := hut.now
          obtain ⟨a1, c1, rfl, -⟩ := ht1.open
          obtain ⟨a2, c2, rfl, -⟩ := inCell.open ht2
          obtain ⟨a3, c3, rfl, -⟩ := inCell.open ht3
          have HT4 := Lib.hid hut; have HRT := Lib.hid hRT; have X4 : Hid (Ext v2 v2) := Ext.refl _; have ZT : Hid (v1.heap.size ≤ v2.heap.size) := hEz.size
          have hH2 := And.intro (block_ext hHeld.1 hEz) (And.intro (hEz.cell hHeld.2.1) (And.intro (hEz.cell hHeld.2.2.1) (And.intro (hEz.cell hHeld.2.2.2.1) (Lib.hid (Ext.trans hHeld.2.2.2.2.out hEz)))))
          have X1 := Lib.hid (X1.out.trans hEz)
          have HG8 := Lib.hid (block_ext HG8.out hEz)
          go_wp2_with fail
          refine hK.out _ _ hH2 (fun hHeld => ?_)
          clear hEz hut hRT ht1 ht2 ht3
          clear hK K hH2
          (try simp only [Act.put, List.setIfInBounds_toArray, List.set_cons_zero, List.set_cons_succ])
          refine anyE_step 5 (by kernel_rfl) rfl (fun K hK => ?_)
          go_simp
          obtain ⟨v3, hWn, hEz, hs, hb⟩ := wkb_new v2 (.slice none 0 0) (.slice none 0 0) (.slice none 0 0)
          rw [hWn]
          have HG7 := Lib.hid hb; have Z7 : Hid (v3.heap.size = v2.heap.size + 1) := hs
          have hH2 := And.intro (block_ext hHeld.1 hEz) (And.intro (hEz.cell hHeld.2.1) (And.intro (hEz.cell hHeld.2.2.1) (And.intro (hEz.cell hHeld.2.2.2.1) (Lib.hid (Ext.trans hHeld.2.2.2.2.out hEz)))))
          have X1 := Lib.hid (X1.out.trans hEz)
          have X4 := Lib.hid (X4.out.trans hEz)
          have HG8 := Lib.hid (block_ext HG8.out hEz)
          refine hK.out _ _ hH2 (fun hHeld => ?_)
          clear hWn hEz hs hb
          clear hK K hH2
          (try simp only [Act.put, List.setIfInBounds_toArray, List.set_cons_zero, List.set_cons_succ])
          have hz0 : w4.heap.size ≤ wd.heap.size := HZd.out
          have hz1 := Z8.out
          have hz2 := ZW.out
          have hz3 := ZT.out
          have hz4 := Z7.out
          have kc70 := block_cell HG7.out 0; have kc71 := block_cell HG7.out 1; have kc72 := block_cell HG7.out 2; have kc80 := block_cell HG8.out 0; have kc81 := block_cell HG8.out 1; have kc82 := block_cell HG8.out 2
          simp only [List.getElem?_toArray, List.getElem?_cons_zero, List.getElem?_cons_succ] at kc70 kc71 kc72 kc80 kc81 kc82
          have kf70 := block_free HG7.out 0; have kf80 := block_free HG8.out 0
          have kf71 := block_free HG7.out 1; have kf81 := block_free HG8.out 1
          have kf72 := block_free HG7.out 2; have kf82 := block_free HG8.out 2
          have R1 := Lib.hid (kept_two HW1.out X1.out (g7 := v2.heap.size) (g8 := wd.heap.size) (by omega) (by omega) (.slice ap 3 cp) (.slice ac nc cc) (.slice al nl cl) (.slice a1 P.length c1) (.slice a2 C.length c2) (.slice a3 M.length c3))
          have R2 := Lib.hid (kept_two HT4.out X4.out (g7 := v2.heap.size) (g8 := wd.heap.size) (by omega) (by omega) (.slice ap 3 cp) (.slice ac nc cc) (.slice al nl cl) (.slice a1 P.length c1) (.slice a2 C.length c2) (.slice a3 M.length c3))
          have R3 := boxes_two HG7.out HG8.out (by omega) (.slice ap 3 cp) (.slice ac nc cc) (.slice al nl cl) (.slice a1 P.length c1) (.slice a2 C.length c2) (.slice a3 M.length c3)
          have R31 := Lib.hid R3.1; have R32 := Lib.hid R3.2
          have R4 := Lib.hid (ext_tp (ext_wk5 hHeld.2.2.2.2.out (B := v2.heap.size) (by omega) (.slice ap 3 cp) (.slice ac nc cc) (.slice al nl cl)) (B := wd.heap.size) (by omega) (.slice a1 P.length c1) (.slice a2 C.length c2) (.slice a3 M.length c3))
          clear hz0 hz1 hz2 hz3 hz4 R3
          have hne7 : wd.heap.size ≠ v2.heap.size := by have h1 := HZd.out; have q1 := ZW.out; have q2 := ZT.out; have q3 := Z7.out; have q4 := Z8.out; omega
          refine anyE_stepZ 7 (by kernel_rfl) (by kernel_rfl) rfl (fun K hK => ?_)
          go_simp
          refine hK.out _ _ ?_
          clear hK K
          (try simp only [Act.put, List.setIfInBounds_toArray, List.set_cons_zero, List.set_cons_succ])
          refine anyE_last 8 (by kernel_rfl) (by kernel_rfl) (by kernel_rfl) rfl (fun K hK => ?_)
          go_simp
          refine hK.out _ _ ?_
          clear hK K
          (try simp only [Act.put, List.setIfInBounds_toArray, List.set_cons_zero, List.set_cons_succ])
          go_wp2_with fail
          go_meet
          exact ⟨_, _, ap, cp, ac, nc, cc, al, nl, cl, k, _, _, _, n, F, P, C, M, rfl, rfl, R4, R31, R32, R1, R2, HPK, HRT⟩
        · go_simp
          obtain ⟨v2, hWn, hEz, hs, hb⟩ := wkb_new v1 (.slice none 0 0) (.slice none 0 0) (.slice none 0 0)
          rw [hWn]
          have HG7 := Lib.hid hb; have Z7 : Hid (v2.heap.size = v1.heap.size + 1) := hs
          have hH2 := And.intro (block_ext hHeld.1 hEz) (And.intro (hEz.cell hHeld.2.1) (And.intro (hEz.cell hHeld.2.2.1) (And.intro (hEz.cell hHeld.2.2.2.1) (Lib.hid (Ext.trans hHeld.2.2.2.2.out hEz)))))
          have X1 := Lib.hid (X1.out.trans hEz)
          have HG8 := Lib.hid (block_ext HG8.out hEz)
          refine hK.out _ _ hH2 (fun hHeld => ?_)
          clear hWn hEz hs hb
          clear hK K hH2
          (try simp only [Act.put, List.setIfInBounds_toArray, List.set_cons_zero, List.set_cons_succ])
          refine anyE_step 4 (by kernel_rfl) rfl (fun K hK => ?_)
          go_simp
          (go_at_call 23; refine (HTT.out _ (HE4.out.trans hHeld.2.2.2.2.out)).mono ?_)
          rintro e v3 ⟨⟨ut, n, F, P, C, M, rfl, hut, hRT⟩, hEz⟩
          obtain ⟨tp, tc, tm, rfl, ht1, ht2, ht3⟩ := hut.now
          obtain ⟨a1, c1, rfl, -⟩ := ht1.open
          obtain ⟨a2, c2, rfl, -⟩ := inCell.open ht2
          obtain ⟨a3, c3, rfl, -⟩ := inCell.open ht3
          have HT4 := Lib.hid hut; have HRT := Lib.hid hRT; have X4 : Hid (Ext v3 v3) := Ext.refl _; have ZT : Hid (v2.heap.size ≤ v3.heap.size) := hEz.size
          have hH2 := And.intro (block_ext hHeld.1 hEz) (And.intro (hEz.cell hHeld.2.1) (And.intro (hEz.cell hHeld.2.2.1) (And.intro (hEz.cell hHeld.2.2.2.1) (Lib.hid (Ext.trans hHeld.2.2.2.2.out hEz)))))
          have X1 := Lib.hid (X1.out.trans hEz)
          have HG7 := Lib.hid (block_ext HG7.out hEz)
          have HG8 := Lib.hid (block_ext HG8.out hEz)
          go_wp2_with fail
          refine hK.out _ _ hH2 (fun hHeld => ?_)
          clear hEz hut hRT ht1 ht2 ht3
          clear hK K hH2
          (try simp only [Act.put, List.setIfInBounds_toArray, List.set_cons_zero, List.set_cons_succ])
          have hz0 : w4.heap.size ≤ wd.heap.size := HZd.out
          have hz1 := Z8.out
          have hz2 := ZW.out
          have hz3 := Z7.out
          have hz4 := ZT.out
          have kc70 := block_cell HG7.out 0; have kc71 := block_cell HG7.out 1; have kc72 := block_cell HG7.out 2; have kc80 := block_cell HG8.out 0; have kc81 := block_cell HG8.out 1; have kc82 := block_cell HG8.out 2
          simp only [List.getElem?_toArray, List.getElem?_cons_zero, List.getElem?_cons_succ] at kc70 kc71 kc72 kc80 kc81 kc82
          have kf70 := block_free HG7.out 0; have kf80 := block_free HG8.out 0
          have kf71 := block_free HG7.out 1; have kf81 := block_free HG8.out 1
          have kf72 := block_free HG7.out 2; have kf82 := block_free HG8.out 2
          have R1 := Lib.hid (kept_two HW1.out X1.out (g7 := v1.heap.size) (g8 := wd.heap.size) (by omega) (by omega) (.slice ap 3 cp) (.slice ac nc cc) (.slice al nl cl) (.slice a1 P.length c1) (.slice a2 C.length c2) (.slice a3 M.length c3))
          have R2 := Lib.hid (kept_two HT4.out X4.out (g7 := v1.heap.size) (g8 := wd.heap.size) (by omega) (by omega) (.slice ap 3 cp) (.slice ac nc cc) (.slice al nl cl) (.slice a1 P.length c1) (.slice a2 C.length c2) (.slice a3 M.length c3))
          have R3 := boxes_two HG7.out HG8.out (by omega) (.slice ap 3 cp) (.slice ac nc cc) (.slice al nl cl) (.slice a1 P.length c1) (.slice a2 C.length c2) (.slice a3 M.length c3)
          have R31 := Lib.hid R3.1; have R32 := Lib.hid R3.2
          have R4 := Lib.hid (ext_tp (ext_wk5 hHeld.2.2.2.2.out (B := v1.heap.size) (by omega) (.slice ap 3 cp) (.slice ac nc cc) (.slice al nl cl)) (B := wd.heap.size) (by omega) (.slice a1 P.length c1) (.slice a2 C.length c2) (.slice a3 M.length c3))
          clear hz0 hz1 hz2 hz3 hz4 R3
          have hne7 : wd.heap.size ≠ v1.heap.size := by have h1 := HZd.out; have q1 := ZW.out; have q2 := ZT.out; have q3 := Z7.out; have q4 := Z8.out; omega
          refine anyE_stepZ 7 (by kernel_rfl) (by kernel_rfl) rfl (fun K hK => ?_)
          go_simp
          refine hK.out _ _ ?_
          clear hK K
          (try simp only [Act.put, List.setIfInBounds_toArray, List.set_cons_zero, List.set_cons_succ])
          refine anyE_last 8 (by kernel_rfl) (by kernel_rfl) (by kernel_rfl) rfl (fun K hK => ?_)
          go_simp
          refine hK.out _ _ ?_
          clear hK K
          (try simp only [Act.put, List.setIfInBounds_toArray, List.set_cons_zero, List.set_cons_succ])
          go_wp2_with fail
          go_meet
          exact ⟨_, _, ap, cp, ac, nc, cc, al, nl, cl, k, _, _, _, n, F, P, C, M, rfl, rfl, R4, R31, R32, R1, R2, HPK, HRT⟩
      · go_simp
        obtain ⟨v1, hWn, hEz, hs, hb⟩ := wkb_new v0 (.slice none 0 0) (.slice none 0 0) (.slice none 0 0)
        rw [hWn]
        have HG7 := Lib.hid hb; have Z7 : Hid (v1.heap.size = v0.heap.size + 1) := hs
        have hH2 := And.intro (block_ext hHeld.1 hEz) (And.intro (hEz.cell hHeld.2.1) (And.intro (hEz.cell hHeld.2.2.1) (And.intro (hEz.cell hHeld.2.2.2.1) (Lib.hid (Ext.trans hHeld.2.2.2.2.out hEz)))))
        have HG8 := Lib.hid (block_ext HG8.out hEz)
        refine hK.out _ _ hH2 (fun hHeld => ?_)
        clear hWn hEz hs hb
        clear hK K hH2
        (try simp only [Act.put, List.setIfInBounds_toArray, List.set_cons_zero, List.set_cons_succ])
        refine anyE_step 1 (by kernel_rfl) rfl (fun K hK => ?_)
        go_simp
        (go_at_call 14; refine (HMK.out _).mono ?_)
        rintro e v2 ⟨ap, cp, ac, nc, cc, al, nl, cl, k, S, u0, rfl, hEz, hO, hk, -, -⟩
        have HW1 := Lib.hid (own_safe hO); have HPK := Lib.hid hk; have X1 : Hid (Ext v2 v2) := Ext.refl _; have ZW : Hid (v1.heap.size ≤ v2.heap.size) := hEz.size; have ZB : Hid (v1.heap.size ≤ v1.heap.size) := Nat.le_refl _
        have hH2 := And.intro (block_ext hHeld.1 hEz) (And.intro (hEz.cell hHeld.2.1) (And.intro (hEz.cell hHeld.2.2.1) (And.intro (hEz.cell hHeld.2.2.2.1) (Lib.hid (Ext.trans hHeld.2.2.2.2.out hEz)))))
        have HG7 := Lib.hid (block_ext HG7.out hEz)
        have HG8 := Lib.hid (block_ext HG8.out hEz)
        go_wp2_with fail
        refine hK.out _ _ hH2 (fun hHeld => ?_)
        clear hEz hO hk
        clear hK K hH2
        (try simp only [Act.put, List.setIfInBounds_toArray, List.set_cons_zero, List.set_cons_succ])
        refine anyE_step 4 (by kernel_rfl) rfl (fun K hK => ?_)
        go_simp
        (go_at_call 23; refine (HTT.out _ (HE4.out.trans hHeld.2.2.2.2.out)).mono ?_)
        rintro e v3 ⟨⟨ut, n, F, P, C, M, rfl, hut, hRT⟩, hEz⟩
        obtain ⟨tp, tc, tm, rfl, ht1, ht2, ht3⟩ := hut.now
        obtain ⟨a1, c1, rfl, -⟩ := ht1.open
        obtain ⟨a2, c2, rfl, -⟩ := inCell.open ht2
        obtain ⟨a3, c3, rfl, -⟩ := inCell.open ht3
        have HT4 := Lib.hid hut; have HRT := Lib.hid hRT; have X4 : Hid (Ext v3 v3) := Ext.refl _; have ZT : Hid (v2.heap.size ≤ v3.heap.size) := hEz.size
        have hH2 := And.intro (block_ext hHeld.1 hEz) (And.intro (hEz.cell hHeld.2.1) (And.intro (hEz.cell hHeld.2.2.1) (And.intro (hEz.cell hHeld.2.2.2.1) (Lib.hid (Ext.trans hHeld.2.2.2.2.out hEz)))))
        have X1 := Lib.hid (X1.out.trans hEz)
        have HG7 := Lib.hid (block_ext HG7.out hEz)
        have HG8 := Lib.hid (block_ext HG8.out hEz)
        go_wp2_with fail
        refine hK.out _ _ hH2 (fun hHeld => ?_)
        clear hEz hut hRT ht1 ht2 ht3
        clear hK K hH2
        (try simp only [Act.put, List.setIfInBounds_toArray, List.set_cons_zero, List.set_cons_succ])
        have hz0 : w4.heap.size ≤ wd.heap.size := HZd.out
        have hz1 := Z8.out
        have hz2 := Z7.out
        have hz3 := ZW.out
        have hz4 := ZT.out
        have kc70 := block_cell HG7.out 0; have kc71 := block_cell HG7.out 1; have kc72 := block_cell HG7.out 2; have kc80 := block_cell HG8.out 0; have kc81 := block_cell HG8.out 1; have kc82 := block_cell HG8.out 2
        simp only [List.getElem?_toArray, List.getElem?_cons_zero, List.getElem?_cons_succ] at kc70 kc71 kc72 kc80 kc81 kc82
        have kf70 := block_free HG7.out 0; have kf80 := block_free HG8.out 0
        have kf71 := block_free HG7.out 1; have kf81 := block_free HG8.out 1
        have kf72 := block_free HG7.out 2; have kf82 := block_free HG8.out 2
        have R1 := Lib.hid (kept_two HW1.out X1.out (g7 := v0.heap.size) (g8 := wd.heap.size) (by omega) (by omega) (.slice ap 3 cp) (.slice ac nc cc) (.slice al nl cl) (.slice a1 P.length c1) (.slice a2 C.length c2) (.slice a3 M.length c3))
        have R2 := Lib.hid (kept_two HT4.out X4.out (g7 := v0.heap.size) (g8 := wd.heap.size) (by omega) (by omega) (.slice ap 3 cp) (.slice ac nc cc) (.slice al nl cl) (.slice a1 P.length c1) (.slice a2 C.length c2) (.slice a3 M.length c3))
        have R3 := boxes_two HG7.out HG8.out (by omega) (.slice ap 3 cp) (.slice ac nc cc) (.slice al nl cl) (.slice a1 P.length c1) (.slice a2 C.length c2) (.slice a3 M.length c3)
        have R31 := Lib.hid R3.1; have R32 := Lib.hid R3.2
        have R4 := Lib.hid (ext_tp (ext_wk5 hHeld.2.2.2.2.out (B := v0.heap.size) (by omega) (.slice ap 3 cp) (.slice ac nc cc) (.slice al nl cl)) (B := wd.heap.size) (by omega) (.slice a1 P.length c1) (.slice a2 C.length c2) (.slice a3 M.length c3))
        clear hz0 hz1 hz2 hz3 hz4 R3
        have hne7 : wd.heap.size ≠ v0.heap.size := by have h1 := HZd.out; have q1 := ZW.out; have q2 := ZT.out; have q3 := Z7.out; have q4 := Z8.out; omega
        refine anyE_stepZ 7 (by kernel_rfl) (by kernel_rfl) rfl (fun K hK => ?_)
        go_simp
        refine hK.out _ _ ?_
        clear hK K
        (try simp only [Act.put, List.setIfInBounds_toArray, List.set_cons_zero, List.set_cons_succ])
        refine anyE_last 8 (by kernel_rfl) (by kernel_rfl) (by kernel_rfl) rfl (fun K hK => ?_)
        go_simp
        refine hK.out _ _ ?_
        clear hK K
        (try simp only [Act.put, List.setIfInBounds_toArray, List.set_cons_zero, List.set_cons_succ])
        go_wp2_with fail
        go_meet
        exact ⟨_, _, ap, cp, ac, nc, cc, al, nl, cl, k, _, _, _, n, F, P, C, M, rfl, rfl, R4, R31, R32, R1, R2, HPK, HRT⟩
  case rest =>
    obtain ⟨g7, g8, ap, cp, ac, nc, cc, al, nl, cl, k, tp, tc, tm, n, F, P, C, M, rfl, rfl, HX, H7, H8, HWK, HTV, HPK, HRT⟩ := hcut
    obtain ⟨wx, rfl⟩ : ∃ wx : World, wx = wc := ⟨_, rfl⟩
    have HEX := Lib.hid (HE4.out.trans HX.out)
    clear HX HE4 HA4 HB4 HTT HMK HPL
    have HF := Lib.hid HPK.out.fewWk
    have hPk := HPK.out.fewWk.primes
    have HRK := Lib.hid (walkE_right (few_walk HF.out))
    obtain ⟨qp, qc, qm, hq0, h1, h2, h3⟩ := HTV.out
    simp only [Value.agg.injEq, Array.mk.injEq, List.cons.injEq, and_true] at hq0
    obtain ⟨rfl, rfl, rfl⟩ := hq0
    have HTP := Lib.hid h1
    obtain ⟨a1, c1, rfl, -⟩ := h1.open
    obtain ⟨a2, c2, rfl, -⟩ := inCell.open h2
    obtain ⟨a3, c3, rfl, -⟩ := inCell.open h3
    obtain ⟨up, uc, ul, hu0, g1, g2, g3⟩ := HWK.out
    simp only [Value.agg.injEq, Array.mk.injEq, List.cons.injEq, and_true] at hu0
    obtain ⟨rfl, rfl, rfl⟩ := hu0
    have HWP := Lib.hid g1
    generalize P.length = lp at *
    generalize C.length = lc at *
    generalize M.length = lm at *
    by_cases hP : P = [2, 3, 5]
    · have hz : openE P k = 0 := by unfold openE; rw [if_pos (few_walk HF.out), if_pos (hP.trans hPk.symm)]
      have hn3 : n = 3 := by rw [← HRT.out.pl, hP]; rfl
      have HFI := Lib.hid (fun W (hW : Ext wx W) => Fits_ok n F P C M k _ _ W (HTV.out.ext hW) HRT.out (HWK.out.ext hW) hz (few_strainsE HF.out) (HOPS.out W (HEX.out.trans hW)).1 (HOPS.out W (HEX.out.trans hW)).2)
      have HPU := Lib.hid (fun W (hW : Ext wx W) => Pump_ok n F P C M k _ _ W (HTV.out.ext hW) HRT.out (HWK.out.ext hW) hz (few_rootsE HF.out) (HOPS.out W (HEX.out.trans hW)).1 (HOPS.out W (HEX.out.trans hW)).2)
      have HRE := Lib.hid (fun W (hW : Ext wx W) => Returns_ok n F P C M k _ _ W (HTV.out.ext hW) HRT.out (HWK.out.ext hW) hz (few_rootsE HF.out) (HOPS.out W (HEX.out.trans hW)).1 (HOPS.out W (HEX.out.trans hW)).2)
      have HEQ : Hid (∀ W, Ext wx W → Calls Tryz.prog 25 #[.slice a1 lp c1, .slice ap 3 cp] W fun e w' => e = .returned (.bool true) ∧ Ext W w') := fun W hW => by
        have := equalPrimes_any P k.primes _ _ W (HTP.out.ext hW) (HWP.out.ext hW)
        rw [hP, hPk] at this
        simpa using this
      have HST := Lib.hid (fun W (hW : Ext wx W) => strains51_any k _ W (HWK.out.ext hW) HRK.out)
      have HRO := Lib.hid (fun W (hW : Ext wx W) => roots51_any k _ W (HWK.out.ext hW) HRK.out)
      have HAS : Hid (∀ x ∈ strainsTo k k.links.length, allE n [x.2.2] = 0) := fun x hx => by
        have h := few_strainsE HF.out
        unfold strainsE at h
        rw [if_pos (few_walk HF.out)] at h
        have := strE_each h x hx
        rw [hPk] at this
        rw [hn3]; exact this
      have HAR : Hid (∀ x ∈ rootsOf k k.links.length, allE n [x] = 0) := fun x hx => by
        have h := few_rootsE HF.out
        unfold rootsE at h
        rw [if_pos (few_walk HF.out)] at h
        have := checkAll_each h x hx
        rw [hPk] at this
        rw [hn3]; exact this
      have HOU : Hid (∀ W, Ext wx W → ∀ x vx, Ints W vx x → allE n [x] = 0 → Calls Tryz.prog 26 #[vx, .pointer (some ⟨g8, 0, none⟩)] W fun e w' => e = .returned (.bool (outB M n x)) ∧ Ext W w') := fun W hW x vx hx hE =>
        out51_any n F P C M x g8 _ _ _ vx W (block_ext H8.out hW) (HTV.out.ext hW) hx HRT.out hE (HOPS.out W (HEX.out.trans hW)).1 (HOPS.out W (HEX.out.trans hW)).2
      have hl5 : k.links.length ≤ 4 := by have h1 := HPK.out.len; have h2 := HPK.out.few; omega
      have HFIX := fits_idx M n (strainsTo k k.links.length)
      obtain ⟨fi, hfi⟩ : ∃ f, (fitsR M n (strainsTo k k.links.length)) = f := ⟨_, rfl⟩
      obtain ⟨ix, hix⟩ : ∃ f, idxStr (fun x => !outB M n x.2.2) (strainsTo k k.links.length) = f := ⟨_, rfl⟩
      obtain ⟨fa, fb⟩ := fi
      rw [hfi] at HFI
      dsimp only at HFI
      rw [hfi, hix] at HFIX
      simp only [Prod.mk.injEq] at HFIX
      have HIX := Lib.hid hix
      obtain ⟨m, hm⟩ : ∃ m, k.links.length = m := ⟨_, rfl⟩
      have hrl : (rootsOf k m).length = m + 1 := by simp [rootsOf]
      have HLA : Hid ((rootsOf k m)[m]? = some (driftOf k)) := by unfold Hid driftOf; rw [hm]; exact rootsOf_get k m m (Nat.le_refl _)
      rw [hm] at HRE HST HRO HAS HAR hl5 HIX
      obtain ⟨L, hL⟩ : ∃ L, rootsOf k m = L := ⟨_, rfl⟩
      obtain ⟨SL, hSL⟩ : ∃ L, strainsTo k m = L := ⟨_, rfl⟩
      obtain ⟨D, hD⟩ : ∃ L, driftOf k = L := ⟨_, rfl⟩
      rw [hL] at HRE HRO HAR HLA hrl
      rw [hSL] at HST HAS HIX
      rw [hD] at HPU HLA
      have HRL := Lib.hid hrl
      obtain ⟨z, hzz⟩ : ∃ z, D.any (· != 0) = z := ⟨_, rfl⟩
      obtain ⟨q, hqq⟩ : ∃ q, outB M n D = q := ⟨_, rfl⟩
      rw [hzz, hqq] at HPU
      have HZ := Lib.hid hzz; have HQQ := Lib.hid hqq
      clear hP hPk hz hn3 h1 h2 h3 g1 g2 g3 hfi hix hm hL hSL hD hrl hzz hqq HTV HPK HRT HOPS HTP HWP HRK
      obtain ⟨b0, b1, b2⟩ := wkb_cells H7.out
      obtain ⟨t0, t1, t2, -⟩ := tp_block H8.out
      go_wp2_with fail
      refine (HFI.out _ (Ext.refl _)).mono ?_
      rintro e x1 ⟨rfl, hX⟩
      have HX1 := Lib.hid hX
      clear hX b0 b1 b2 t0 t1 t2 HFI
      obtain ⟨b0, b1, b2⟩ := wkb_cells (block_ext H7.out HX1.out)
      obtain ⟨t0, t1, t2, -⟩ := tp_block (block_ext H8.out HX1.out)
      go_wp2_with fail
      refine (HPU.out _ HX1.out).mono ?_
      rintro e x2 ⟨rfl, hX⟩
      have HX2 := Lib.hid (HX1.out.trans hX)
      clear hX b0 b1 b2 t0 t1 t2 HPU HX1
      obtain ⟨b0, b1, b2⟩ := wkb_cells (block_ext H7.out HX2.out)
      obtain ⟨t0, t1, t2, -⟩ := tp_block (block_ext H8.out HX2.out)
      go_wp2_with fail
      refine (HRE.out _ HX2.out).mono ?_
      rintro e x3 ⟨rr, rfl, hrr, hX⟩
      obtain ⟨ar, cr, rfl, hr1, hr2, -⟩ := hrr.open
      have HX3 := Lib.hid (HX2.out.trans hX); have HRR := Lib.hid hrr
      clear hX hrr b0 b1 b2 t0 t1 t2 HRE HX2
      generalize (returnsTo M n L (m + 1)).length = nr at *
      obtain ⟨b0, b1, b2⟩ := wkb_cells (block_ext H7.out HX3.out)
      obtain ⟨t0, t1, t2, -⟩ := tp_block (block_ext H8.out HX3.out)
      go_wp2_with fail
      refine (HEQ.out _ HX3.out).mono ?_
      rintro e x4 ⟨rfl, hX⟩
      have HX4 := Lib.hid (HX3.out.trans hX); have HRR4 := Lib.hid (HRR.out.ext hX)
      clear hX b0 b1 b2 t0 t1 t2 HEQ HX3 HRR
      obtain ⟨b0, b1, b2⟩ := wkb_cells (block_ext H7.out HX4.out)
      obtain ⟨t0, t1, t2, -⟩ := tp_block (block_ext H8.out HX4.out)
      obtain ⟨xa, hxa, hXa, hBa⟩ : ∃ xa, x4.alloc (.cells #[.nilFunc] 70) = xa ∧ Ext x4 xa ∧ xa.heap[x4.heap.size]? = some (.cells #[.nilFunc] 70 (0, 0)) := ⟨_, rfl, Ext.alloc _ _, block_new _ _ _⟩
      have ka := block_cell hBa 0
      have fa := block_free hBa 0
      simp only [List.getElem?_toArray, List.getElem?_cons_zero] at ka
      obtain ⟨x5, hx5⟩ : ∃ x5, xa.setCell ⟨x4.heap.size, 0, none⟩ (.func (.func 26) #[] #[.pointer (some ⟨g8, 0, none⟩)]) = x5 := ⟨_, rfl⟩
      have hX5 : Ext x4 x5 := by rw [← hx5]; exact Below.setCell hXa (Nat.le_refl _) _
      have hB5 : x5.heap[x4.heap.size]? = some (.cells #[.func (.func 26) #[] #[.pointer (some ⟨g8, 0, none⟩)]] 70 (0, 0)) := by
        rw [← hx5]; have := block_set hBa 0 (.func (.func 26) #[] #[.pointer (some ⟨g8, 0, none⟩)]); simpa using this
      have HX5 := Lib.hid (HX4.out.trans hX5); have HB5 := Lib.hid hB5; have HRR5 := Lib.hid (HRR4.out.ext hX5)
      clear b0 b1 b2 t0 t1 t2
      obtain ⟨b0, b1, b2⟩ := wkb_cells (block_ext H7.out HX5.out)
      have f16 := block_cell hB5 0
      simp only [List.getElem?_toArray, List.getElem?_cons_zero] at f16
      clear hX5 hB5 HX4 HRR4 hXa hBa
      go_wp2_with fail
      clear hx5 hxa ka fa
      refine (HST.out _ HX5.out).mono ?_
      rintro e x6 ⟨ss, rfl, hX, hss⟩
      have HX6 := Lib.hid (HX5.out.trans hX); have HB6 := Lib.hid (block_ext HB5.out hX); have HRR6 := Lib.hid (HRR5.out.ext hX)
      have hf6 := block_cell HB6.out 0
      simp only [List.getElem?_toArray, List.getElem?_cons_zero] at hf6
      have HIN := Lib.hid (indexStr_any SL ss 30 #[.pointer (some ⟨x4.heap.size, 0, none⟩)] (fun x => !outB M n x.2.2) x6 hss (enters_of Tryz.func30 (by kernel_rfl) rfl) (fun W x a hx hW ha => notOut51_any M n x _ g8 a W ha (hW.cell hf6) (fun U hU => HOU.out U (HX6.out.trans (hW.trans hU)) _ _ (ha.ext hU) (HAS.out x hx))))
      rw [HIX.out] at HIN
      obtain ⟨ass, css, rfl, -⟩ := Strs.open hss
      clear hX hss b0 b1 b2 f16 hf6 HST HX5 HB5 HRR5 HAS HIX
      generalize SL.length = nsl at *
      go_wp2_with fail
      refine HIN.out.mono ?_
      rintro e x7 ⟨rfl, hX⟩
      have HX7 := Lib.hid (HX6.out.trans hX); have HB7 := Lib.hid (block_ext HB6.out hX); have HRR7 := Lib.hid (HRR6.out.ext hX)
      clear hX HX6 HB6 HRR6 HIN
      obtain ⟨b0, b1, b2⟩ := wkb_cells (block_ext H7.out HX7.out)
      go_wp2_with fail
      refine (HRO.out _ HX7.out).mono ?_
      rintro e x8 ⟨rr8, rfl, hX, hr8⟩
      have HX8 := Lib.hid (HX7.out.trans hX); have HB8 := Lib.hid (block_ext HB7.out hX); have HRR8 := Lib.hid (HRR7.out.ext hX)
      obtain ⟨a8, c8, rfl, h81, h82, -, h8c⟩ := inCell.open hr8
      obtain ⟨b8, o8, rfl, hb8, hcell⟩ := h8c (by intro e; have := HRL.out; simp [e] at this)
      obtain ⟨vd, hvd, hcd⟩ := hcell m D HLA.out
      have HVD := Lib.hid hvd; have HC8 := Lib.hid hcell
      obtain ⟨ad, cd, rfl, -⟩ := hvd.open
      rw [HRL.out] at h81 ⊢
      unfold maxLen at h82
      clear hX hr8 hvd h8c hcell b0 b1 b2 HX7 HB7 HRR7 HRO
      generalize D.length = nd at *
      go_wp2_with fail
      go_loopw [105, 20] (fun t so wr => ∃ j : Nat, j ≤ m + 1 ∧ t = .int .i64 j ∧ Hid (Ext x8 wr) ∧ Hid (Build wr x8.heap.size 3 1 so intC5 (returnsTo M n L j))) (fun t _ _ => m + 1 - (intOf t).toNat)
      case atStart => exact ⟨0, by omega, rfl, Ext.refl _, by unfold Hid; exact Build.nil _ _ _ _ _⟩
      case round =>
        obtain ⟨j, hj, rfl, HEr, HBu⟩ := hrel
        obtain ⟨wo, rfl⟩ : ∃ wo : World, wo = wr := ⟨_, rfl⟩
        by_cases hlt : j < m + 1
        · obtain ⟨x, hx⟩ : ∃ x, L[j]? = some x := ⟨L[j]'(by have := HRL.out; omega), List.getElem?_eq_getElem _⟩
          obtain ⟨vx, hv, k0⟩ := HC8.out j x hx
          have k0 := HEr.out.cell k0
          have HIX := Lib.hid (hv.ext HEr.out)
          obtain ⟨av9, cv9, rfl, -, -, -, -, -⟩ := hv.open
          have HAX := Lib.hid (HAR.out x (List.mem_of_getElem? hx))
          have HG : Hid (L.getD j [] = x) := by unfold Hid; rw [List.getD_eq_getElem?_getD, hx]; rfl
          have HS := Lib.hid (returnsTo_succ M n L j)
          have hji : (j : Int) < ((m + 1 : Nat) : Int) := by omega
          have f16 := block_cell (block_ext HB8.out HEr.out) 0
          simp only [List.getElem?_toArray, List.getElem?_cons_zero] at f16
          clear hv hx
          by_cases hj0 : 0 < j
          · have hjp : (0 : Int) < (j : Int) := by omega
            obtain ⟨q9, hq9⟩ : ∃ q, outB M n x = q := ⟨_, rfl⟩
            have HTX := Lib.hid (HOU.out _ (HX8.out.trans HEr.out) _ _ HIX.out HAX.out)
            rw [hq9] at HTX
            have HQ := Lib.hid hq9
            clear hq9
            cases q9 with
            | true =>
              go_wp2_with fail
              refine HTX.out.mono ?_
              rintro e w6 ⟨rfl, hE6⟩
              have HE6 := Lib.hid (HEr.out.trans hE6)
              have HB6 := Lib.hid (HBu.out.ext hE6)
              have hs6 := (HEr.out.trans hE6).size
              have HN : Hid (returnsTo M n L (j + 1) = returnsTo M n L j ++ [(j : Int)]) := by
                unfold Hid; rw [HS.out, HG.out, HQ.out, decide_eq_true hj0]; rfl
              have HJ : Hid ((returnsTo M n L j).length < 1000000) := by
                have := returnsTo_len M n L j
                unfold Hid; omega
              clear hE6 HTX k0 HBu f16
              go_wp2_with (at_builtin; go_must (refine wpList_append_build _ rfl _ _ 36 rfl x8.heap.size 3 (.int .i64 0) 1 8 Tryz.underlying36 infoInt rfl (by decide) u20 intC5 (returnsTo M n L j) (j : Int) #[.int .i64 (j : Int)] 3 rfl HB6.out rfl rfl ?e1 (fun _ _ => rfl) HJ.out ?e3 hs6 ?_))
              case e1 => simp [Value.oneCell']
              case e3 => omega
              intro v' w7 hB7 hg7 hb7 hs7 _
              rw [← HN.out] at hB7
              have HB7 := Lib.hid hB7
              have HE7 := Lib.hid (Below.trans HE6.out hb7)
              clear hB7 hg7 hb7
              go_wp2_with fail
              go_roundw
              case rel => exact ⟨j + 1, by omega, by go_num, HE7.out, HB7.out⟩
              case measure => simp [intOf]; omega
            | false =>
              go_wp2_with fail
              refine HTX.out.mono ?_
              rintro e w6 ⟨rfl, hE6⟩
              have HE6 := Lib.hid (HEr.out.trans hE6)
              have HB6 := Lib.hid (HBu.out.ext hE6)
              have HN : Hid (returnsTo M n L (j + 1) = returnsTo M n L j) := by
                unfold Hid; rw [HS.out, HG.out, HQ.out]; simp
              clear hE6 HTX k0 HBu f16
              go_wp2_with fail
              go_roundw
              case rel => exact ⟨j + 1, by omega, by go_num, HE6.out, by rw [HN.out]; exact HB6.out⟩
              case measure => simp [intOf]; omega
          · have hjp : ¬ (0 : Int) < (j : Int) := by omega
            have HN : Hid (returnsTo M n L (j + 1) = returnsTo M n L j) := by
              unfold Hid; rw [HS.out, decide_eq_false hj0]; simp
            go_wp2_with fail
            go_roundw
            case rel => exact ⟨j + 1, by omega, by go_num, HEr.out, by rw [HN.out]; exact HBu.out⟩
            case measure => simp [intOf]; omega
        · obtain rfl : j = m + 1 := by omega
          have HL := Lib.hid HBu.out.ints5
          have HI : Hid (Ints wo u20 (returnsTo M n L (m + 1))) := Ints.of_owns HL.out (fun x hx => by
            unfold returnsTo at hx
            obtain ⟨i, hi, rfl⟩ := List.mem_map.1 hx
            have := List.mem_range.1 (List.mem_filter.1 hi).1
            omega)
          have HE9 := Lib.hid (HX8.out.trans HEr.out)
          have HEQ2 := Lib.hid (fun W (hW : Ext wo W) => equalInts5_any _ _ _ _ W (HRR8.out.ext (HEr.out.trans hW)) (HI.out.ext hW))
          rw [show ((returnsTo M n L (m + 1)) == (returnsTo M n L (m + 1))) = true by simp] at HEQ2
          have HZR := Lib.hid (fun W (hW : Ext wo W) => zero_any D _ W (HVD.out.ext (HEr.out.trans hW)))
          rw [HZ.out] at HZR
          have HOD := Lib.hid (fun W (hW : Ext wo W) => HOU.out W (HE9.out.trans hW) D _ (HVD.out.ext (HEr.out.trans hW)) (HAR.out D (List.mem_of_getElem? HLA.out)))
          rw [HQQ.out] at HOD
          have HEW := Lib.hid (HEX.out.trans HE9.out)
          have HBW := Lib.hid (block_ext HB8.out HEr.out)
          obtain ⟨au, lu, cu, rfl⟩ : ∃ a l c, u20 = .slice a l c := by obtain ⟨a, c, h, -⟩ := HI.out.open; exact ⟨a, _, c, h⟩
          clear HBu HL HI HEr HX8 HB8 HRR8 HVD HC8 HOU HAR HLA hcd
          have f16 := block_cell HBW.out 0
          simp only [List.getElem?_toArray, List.getElem?_cons_zero] at f16
          have HF16 := Lib.hid f16
          clear f16 hl5 h81 h82 hb8 hr1 hr2 hc0 hc1 hj
          rcases HFIX with ⟨hi1, hi2, hi3⟩ | ⟨i, hil, hi1, hi2, hi3⟩
          · subst hi2; subst hi3
            have hxn : ix < 0 := by omega
            have hxm : max ix 0 = 0 := by omega
            clear hi1
            cases z with
            | true =>
              cases q with
              | true =>
                go_wp2_with fail
                refine (HZR.out _ (Ext.refl _)).mono ?_
                rintro e y1 ⟨rfl, hY⟩
                have HY1 := Lib.hid hY
                have k16 := hY.cell HF16.out
                clear hY HZR
                go_wp2_with fail
                refine (HOD.out _ HY1.out).mono ?_
                rintro e y2 ⟨rfl, hY⟩
                have HY2 := Lib.hid (HY1.out.trans hY)
                clear hY k16 HOD
                go_wp2_with fail
                refine (HEQ2.out _ HY2.out).mono ?_
                rintro e y3 ⟨rfl, hY⟩
                have HY3 := Lib.hid (HY2.out.trans hY)
                clear hY HEQ2
                go_wp2_with fail
                go_ret
                exact ⟨rfl, HEW.out.trans HY3.out⟩
              | false =>
                go_wp2_with fail
                refine (HZR.out _ (Ext.refl _)).mono ?_
                rintro e y1 ⟨rfl, hY⟩
                have HY1 := Lib.hid hY
                have k16 := hY.cell HF16.out
                clear hY HZR
                go_wp2_with fail
                refine (HOD.out _ HY1.out).mono ?_
                rintro e y2 ⟨rfl, hY⟩
                have HY2 := Lib.hid (HY1.out.trans hY)
                clear hY k16 HOD
                go_wp2_with fail
                refine (HEQ2.out _ HY2.out).mono ?_
                rintro e y3 ⟨rfl, hY⟩
                have HY3 := Lib.hid (HY2.out.trans hY)
                clear hY HEQ2
                go_wp2_with fail
                go_ret
                exact ⟨rfl, HEW.out.trans HY3.out⟩
            | false =>
              go_wp2_with fail
              refine (HZR.out _ (Ext.refl _)).mono ?_
              rintro e y1 ⟨rfl, hY⟩
              have HY1 := Lib.hid hY
              clear hY HZR
              go_wp2_with fail
              refine (HEQ2.out _ HY1.out).mono ?_
              rintro e y3 ⟨rfl, hY⟩
              have HY3 := Lib.hid (HY1.out.trans hY)
              clear hY HEQ2
              go_wp2_with fail
              go_ret
              exact ⟨rfl, HEW.out.trans HY3.out⟩
          · subst hi1; subst hi2; subst hi3
            have hip : ¬ (i : Int) < 0 := by omega
            cases z with
            | true =>
              cases q with
              | true =>
                go_wp2_with fail
                refine (HZR.out _ (Ext.refl _)).mono ?_
                rintro e y1 ⟨rfl, hY⟩
                have HY1 := Lib.hid hY
                have k16 := hY.cell HF16.out
                clear hY HZR
                go_wp2_with fail
                refine (HOD.out _ HY1.out).mono ?_
                rintro e y2 ⟨rfl, hY⟩
                have HY2 := Lib.hid (HY1.out.trans hY)
                clear hY k16 HOD
                go_wp2_with fail
                refine (HEQ2.out _ HY2.out).mono ?_
                rintro e y3 ⟨rfl, hY⟩
                have HY3 := Lib.hid (HY2.out.trans hY)
                clear hY HEQ2
                go_wp2_with fail
                go_ret
                exact ⟨rfl, HEW.out.trans HY3.out⟩
              | false =>
                go_wp2_with fail
                refine (HZR.out _ (Ext.refl _)).mono ?_
                rintro e y1 ⟨rfl, hY⟩
                have HY1 := Lib.hid hY
                have k16 := hY.cell HF16.out
                clear hY HZR
                go_wp2_with fail
                refine (HOD.out _ HY1.out).mono ?_
                rintro e y2 ⟨rfl, hY⟩
                have HY2 := Lib.hid (HY1.out.trans hY)
                clear hY k16 HOD
                go_wp2_with fail
                refine (HEQ2.out _ HY2.out).mono ?_
                rintro e y3 ⟨rfl, hY⟩
                have HY3 := Lib.hid (HY2.out.trans hY)
                clear hY HEQ2
                go_wp2_with fail
                go_ret
                exact ⟨rfl, HEW.out.trans HY3.out⟩
            | false =>
              go_wp2_with fail
              refine (HZR.out _ (Ext.refl _)).mono ?_
              rintro e y1 ⟨rfl, hY⟩
              have HY1 := Lib.hid hY
              clear hY HZR
              go_wp2_with fail
              refine (HEQ2.out _ HY1.out).mono ?_
              rintro e y3 ⟨rfl, hY⟩
              have HY3 := Lib.hid (HY1.out.trans hY)
              clear hY HEQ2
              go_wp2_with fail
              go_ret
              exact ⟨rfl, HEW.out.trans HY3.out⟩
    · have hPn : P ≠ k.primes := by rw [hPk]; exact hP
      have ho : openE P k = 14 := by unfold openE; rw [if_pos (few_walk HF.out), if_neg hPn]
      have hz : openE P k ≠ 0 := by rw [ho]; decide
      have HFI := Lib.hid (fun W (hW : Ext wx W) => Fits_bad n F P C M k _ _ W (HTV.out.ext hW) HRT.out (HWK.out.ext hW) hz (HOPS.out W (HEX.out.trans hW)).1 (HOPS.out W (HEX.out.trans hW)).2)
      have HPU := Lib.hid (fun W (hW : Ext wx W) => Pump_bad n F P C M k _ _ W (HTV.out.ext hW) HRT.out (HWK.out.ext hW) hz (HOPS.out W (HEX.out.trans hW)).1 (HOPS.out W (HEX.out.trans hW)).2)
      have HRE := Lib.hid (fun W (hW : Ext wx W) => Returns_bad n F P C M k _ _ W (HTV.out.ext hW) HRT.out (HWK.out.ext hW) hz (HOPS.out W (HEX.out.trans hW)).1 (HOPS.out W (HEX.out.trans hW)).2)
      rw [ho] at HFI HPU HRE
      have HEQ : Hid (∀ W, Ext wx W → Calls Tryz.prog 25 #[.slice a1 lp c1, .slice ap 3 cp] W fun e w' => e = .returned (.bool false) ∧ Ext W w') := fun W hW => by
        have := equalPrimes_any P k.primes _ _ W (HTP.out.ext hW) (HWP.out.ext hW)
        rw [show (P == k.primes) = false by simp [hPn]] at this
        exact this
      clear hP hPn ho hz hPk h1 h2 h3 g1 g2 g3 HTV HWK HPK HRT HOPS HTP HWP HRK HF
      obtain ⟨b0, b1, b2⟩ := wkb_cells H7.out
      obtain ⟨t0, t1, t2, -⟩ := tp_block H8.out
      go_wp2_with fail
      refine (HFI.out _ (Ext.refl _)).mono ?_
      rintro e x1 ⟨rfl, hX⟩
      have HX1 := Lib.hid hX
      clear hX b0 b1 b2 t0 t1 t2 HFI
      obtain ⟨b0, b1, b2⟩ := wkb_cells (block_ext H7.out HX1.out)
      obtain ⟨t0, t1, t2, -⟩ := tp_block (block_ext H8.out HX1.out)
      go_wp2_with fail
      refine (HPU.out _ HX1.out).mono ?_
      rintro e x2 ⟨rfl, hX⟩
      have HX2 := Lib.hid (HX1.out.trans hX)
      clear hX b0 b1 b2 t0 t1 t2 HPU HX1
      obtain ⟨b0, b1, b2⟩ := wkb_cells (block_ext H7.out HX2.out)
      obtain ⟨t0, t1, t2, -⟩ := tp_block (block_ext H8.out HX2.out)
      go_wp2_with fail
      refine (HRE.out _ HX2.out).mono ?_
      rintro e x3 ⟨rfl, hX⟩
      have HX3 := Lib.hid (HX2.out.trans hX)
      clear hX b0 b1 b2 t0 t1 t2 HRE HX2
      obtain ⟨b0, b1, b2⟩ := wkb_cells (block_ext H7.out HX3.out)
      obtain ⟨t0, t1, t2, -⟩ := tp_block (block_ext H8.out HX3.out)
      go_wp2_with fail
      refine (HEQ.out _ HX3.out).mono ?_
      rintro e x4 ⟨rfl, hX⟩
      have HX4 := Lib.hid (HX3.out.trans hX)
      clear hX b0 b1 b2 t0 t1 t2 HEQ
      go_wp2_with fail
      go_ret
      exact ⟨rfl, HEX.out.trans HX4.out⟩
end Go.Proofs.YtjihfabhgcfjnaaGreatDoor
