/- Merged: WSetsW, LawPost, Args. -/
import Derived.Test.YtjlkkofmojgipaaGreatDoorVBN
import Derived.Test.YtjlkkofmojgipaaGreatDoorVAV
import Derived.Test.YtjlkkofmojgipaaGreatDoorRows
import Derived.WalkKit
import Derived.ProofKit
import Derived.OpenShut
import Derived.Test.YtjlkkofmojgipaaGreatDoorVAA
import Derived.ChangeSlices
/- The walk of WedgeSets; printed by gen/wsets.py. -/
namespace Go.Proofs.YtjlkkofmojgipaaGreatDoor
set_option linter.unusedVariables false
set_option linter.unusedSimpArgs false
open Go.RowKit

theorem allW_pos : ∀ n, n < 13 → ∀ k, k < n + 1 → 0 < (allW n k).length := by decide +kernel
theorem setsI_cast {n k : Nat} (hn : n < 7) (hk : k ≤ n) : setsI (allW n k) = castS (setsL n k) := by
  rw [← sets_map hn hk]
  unfold setsI castS natsI
  rw [List.map_map]; rfl
theorem none_no (W : World) : Calls Tryz.prog 16 #[noMulti] W fun e w' => e = .returned (.bool true) ∧ Ext W w' := by
  have h9 := noneM_any 0 0 [] noMulti W (noMulti_v W)
  rw [show equalM 0 0 [] 0 0 [] = true by decide] at h9
  exact h9
theorem gradeS_bad1 {d g : Int} (h : d < 0 ∨ 12 < d) : gradeS d g = 3 := if_pos (by rcases h with h | h; exact .inl h; exact .inr (.inl h))
theorem gradeS_bad2 {d g : Int} (h : g < 0 ∨ d < g) : gradeS d g = 3 := if_pos (by rcases h with h | h; exact .inr (.inr (.inl h)); exact .inr (.inr (.inr h)))

set_option maxRecDepth 100000 in
set_option maxHeartbeats 4000000 in
theorem wsets_dim (d g : Int) (w : World) (hd : d < 0 ∨ 12 < d) (hlib : LibT w) (hb : 4 < w.heap.size) :
    Calls Tryz.prog 6 #[.int .i64 d, .int .i64 g] w fun e w' => e = .returned (.bool true) ∧ Ext w w' := by
  have HS : Hid (∀ W, Calls Tryz.prog 31 #[.int .i64 d, .int .i64 g] W fun e w' => e = .returned (.tuple #[.slice none 0 0, .int .i64 3]) ∧ Ext W w') := fun W => setsW_bad d g (gradeS_bad1 hd) W
  have HU : Hid (∀ W, Calls Tryz.prog 32 #[.int .i64 d] W fun e w' => e = .returned (.tuple #[.agg #[.int .i64 0, .int .i64 0, .slice none 0 0], .int .i64 3]) ∧ Ext W w') := fun W => unit_bad d hd W
  have HN : Hid (∀ W, Calls Tryz.prog 16 #[.agg #[.int .i64 0, .int .i64 0, .slice none 0 0]] W fun e w' => e = .returned (.bool true) ∧ Ext W w') := fun W => none_no W
  have HK := Lib.hid (known10_any w hlib hb)
  clear hlib hb
  go_enter Tryz.func6, Tryz.ntmps6
  go_wp2_with fail
  refine HK.out.mono ?_
  rintro e w1 ⟨rfl, hE1⟩
  have HE1 := Lib.hid hE1
  clear hE1 HK
  go_wp2_with fail
  refine (HS.out _).mono ?_
  rintro e w2 ⟨rfl, hE2⟩
  have HE2 : Hid (Ext w w2) := HE1.out.trans hE2
  clear hE2 HS
  go_wp2_with fail
  refine (HU.out _).mono ?_
  rintro e w3 ⟨rfl, hE3⟩
  have HE3 : Hid (Ext w w3) := HE2.out.trans hE3
  clear hE3 HU
  obtain ⟨V1, hV1, hX1, hs1, hb1⟩ := boxM w3 (.int .i64 0) (.int .i64 0) (.slice none 0 0)
  have r0 := block_cell hb1
  have f0 := block_free hb1
  have HB1 := Lib.hid (multi_store hb1 (.int .i64 0) (.int .i64 0) (.slice none 0 0))
  have HX1 := Lib.hid (multi_ext (B := w3.heap.size) hX1 (Nat.le_refl _) (.int .i64 0) (.int .i64 0) (.slice none 0 0))
  obtain ⟨U1, hU1⟩ : ∃ U, ((V1.setCell ⟨w3.heap.size, 0, none⟩ (.int .i64 0)).setCell ⟨w3.heap.size, 1, none⟩ (.int .i64 0)).setCell ⟨w3.heap.size, 2, none⟩ (.slice none 0 0) = U := ⟨_, rfl⟩
  rw [hU1] at HB1 HX1
  clear hX1 hs1 hb1
  have HE4 : Hid (Ext w U1) := HE3.out.trans HX1.out
  have s1 := block_cell HB1.out
  rcases hd with hd | hd
  all_goals
    go_wp2_with fail
    refine (HN.out _).mono ?_
    rintro e w5 ⟨rfl, hE5⟩
    have HE5 : Hid (Ext w w5) := HE4.out.trans hE5
    clear hE5
    go_wp2_with fail
    go_ret
    exact ⟨rfl, HE5.out⟩

set_option maxRecDepth 100000 in
set_option maxHeartbeats 4000000 in
theorem wsets_bad (n : Nat) (g : Int) (hn : n ≤ 12) (hg : g < 0 ∨ (n : Int) < g) (w : World) (hlib : LibT w) (hB : Bruijn w) (hb : 4 < w.heap.size) :
    Calls Tryz.prog 6 #[.int .i64 (n : Int), .int .i64 g] w fun e w' => e = .returned (.bool true) ∧ Ext w w' := by
  have HS : Hid (∀ W, Calls Tryz.prog 31 #[.int .i64 (n : Int), .int .i64 g] W fun e w' => e = .returned (.tuple #[.slice none 0 0, .int .i64 3]) ∧ Ext W w') := fun W => setsW_bad n g (gradeS_bad2 hg) W
  have HU : Hid (∀ W, Ext w W → Calls Tryz.prog 32 #[.int .i64 (n : Int)] W fun e w' => ∃ a c, e = .returned (.tuple #[.agg #[.int .i64 n, .int .i64 0, .slice a 1 c], .int .i64 0]) ∧ ListAt 1 numC w' (.slice a 1 c) [1] ∧ Ext W w') := fun W hW => (unit_any n hn W (hlib.pow.ext hW)).mono fun e w' ⟨u, h1, h2, h3⟩ => by
    obtain ⟨a, c, rfl, h4⟩ := multi_open h3
    exact ⟨a, c, h1, h4, h2⟩
  have HSA : Hid (∀ (W : World) (a : Option Addr) (c : Nat) (v : Value), ListAt 1 numC W (.slice a 1 c) [1] → ListAt 1 numC W v [1] → Calls Tryz.prog 17 #[.agg #[.int .i64 (n : Int), .int .i64 0, .slice a 1 c], .agg #[.int .i64 (n : Int), .int .i64 0, v]] W fun e w' => e = .returned (.bool true) ∧ Ext W w') := fun W a c v h1 h2 => by
    have h9 := sameM_any n 0 [1] n 0 [1] _ _ W ⟨_, rfl, h1⟩ ⟨_, rfl, h2⟩
    rw [show equalM n 0 [1] n 0 [1] = true by unfold equalM; simp] at h9
    exact h9
  have HL1 : Hid (∀ W : World, ListAt 1 numC (W.alloc (.cells #[.string ⟨#[49]⟩] 53)) (.slice (some ⟨W.heap.size, 0, none⟩) 1 1) [1]) := fun W => nums_lit W [1] _ _ 1 (by simp [s10_1.2.1]) rfl (by decide)
  have n0 : ¬ (n : Int) < 0 := by omega
  have n12 : ¬ (12 : Int) < (n : Int) := by omega
  clear hB
  have HK := Lib.hid (known10_any w hlib hb)
  clear hlib hb
  go_enter Tryz.func6, Tryz.ntmps6
  go_wp2_with fail
  refine HK.out.mono ?_
  rintro e w1 ⟨rfl, hE1⟩
  have HE1 := Lib.hid hE1
  clear hE1 HK
  go_wp2_with fail
  refine (HS.out _).mono ?_
  rintro e w2 ⟨rfl, hE2⟩
  have HE2 : Hid (Ext w w2) := HE1.out.trans hE2
  clear hE2 HS
  go_wp2_with fail
  refine (HU.out _ HE2.out).mono ?_
  rintro e w3 ⟨a1, c1, rfl, hR1, hE3⟩
  have HE3 : Hid (Ext w w3) := HE2.out.trans hE3
  have HX23 : Hid (Ext w2 w3) := hE3
  have HR1 := Lib.hid hR1
  clear hE3 hR1 HU
  obtain ⟨V1, hV1, hX1, hs1, hb1⟩ := boxM w3 (.int .i64 0) (.int .i64 0) (.slice none 0 0)
  have r0 := block_cell hb1
  have f0 := block_free hb1
  have HB1 := Lib.hid (multi_store hb1 (.int .i64 n) (.int .i64 0) (.slice a1 1 c1))
  have HX1 := Lib.hid (multi_ext (B := w3.heap.size) hX1 (Nat.le_refl _) (.int .i64 n) (.int .i64 0) (.slice a1 1 c1))
  obtain ⟨U1, hU1⟩ : ∃ U, ((V1.setCell ⟨w3.heap.size, 0, none⟩ (.int .i64 n)).setCell ⟨w3.heap.size, 1, none⟩ (.int .i64 0)).setCell ⟨w3.heap.size, 2, none⟩ (.slice a1 1 c1) = U := ⟨_, rfl⟩
  rw [hU1] at HB1 HX1
  clear hX1 hs1 hb1
  have HE4 : Hid (Ext w U1) := HE3.out.trans HX1.out
  have HRU := Lib.hid (ListAt.ext numC.mono' HR1.out HX1.out)
  have s1 := block_cell HB1.out
  obtain ⟨L6, hL6⟩ : ∃ L, U1.alloc (.cells #[.string ⟨#[49]⟩] 53) = L := ⟨_, rfl⟩
  have HN6 := Lib.hid (HL1.out U1)
  have HX6 : Hid (Ext U1 L6) := by rw [← hL6]; exact Ext.alloc _ _
  rw [hL6] at HN6
  go_wp2_with fail
  clear hL6 hU1 hV1 r0 f0
  refine (HSA.out _ _ _ _ (ListAt.ext numC.mono' HRU.out HX6.out) HN6.out).mono ?_
  rintro e w5 ⟨rfl, hE5⟩
  have HX25 : Hid (Ext w2 w5) := HX23.out.trans (HX1.out.trans (HX6.out.trans hE5))
  have HE5 : Hid (Ext w w5) := HE2.out.trans HX25.out
  clear hE5 HSA HL1 HN6 s1
  rcases hg with hg | hg
  all_goals
    go_wp2_with fail
    go_ret
    exact ⟨rfl, HE5.out⟩

set_option maxRecDepth 100000 in
set_option maxHeartbeats 4000000 in
theorem wsets_big (n k : Nat) (hn : n ≤ 12) (hk : k ≤ n) (h6 : 6 < n) (w : World) (hlib : LibT w) (hB : Bruijn w) (hb : 4 < w.heap.size) :
    Calls Tryz.prog 6 #[.int .i64 (n : Int), .int .i64 (k : Int)] w fun e w' => e = .returned (.bool true) ∧ Ext w w' := by
  have HS : Hid (∀ W, Ext w W → Calls Tryz.prog 31 #[.int .i64 (n : Int), .int .i64 (k : Int)] W fun e w' => ∃ a c, e = .returned (.tuple #[.slice a (allW n k).length c, .int .i64 0]) ∧ Ext W w' ∧ Rows2 w' (.slice a (allW n k).length c) (setsI (allW n k))) := fun W hW => (setsW_any n k hn hk W (hB.ext hW)).mono fun e w' ⟨v, h1, h2, h3⟩ => by
    obtain ⟨a, c, rfl, -⟩ := ListAt.open h3
    have hl : (setsI (allW n k)).length = (allW n k).length := by unfold setsI; rw [List.length_map]
    rw [hl] at h1 h3
    exact ⟨a, c, h1, h2, h3⟩
  obtain ⟨N, hN⟩ : ∃ N, (allW n k).length = N := ⟨_, rfl⟩
  have HNP : Hid (0 < N) := by rw [← hN]; exact allW_pos n (by omega) k (by omega)
  have HNL := Lib.hid hN
  rw [hN] at HS
  clear hN
  have k0 : ¬ (k : Int) < 0 := by omega
  have k12 : ¬ (n : Int) < (k : Int) := by omega
  have HU : Hid (∀ W, Ext w W → Calls Tryz.prog 32 #[.int .i64 (n : Int)] W fun e w' => ∃ a c, e = .returned (.tuple #[.agg #[.int .i64 n, .int .i64 0, .slice a 1 c], .int .i64 0]) ∧ ListAt 1 numC w' (.slice a 1 c) [1] ∧ Ext W w') := fun W hW => (unit_any n hn W (hlib.pow.ext hW)).mono fun e w' ⟨u, h1, h2, h3⟩ => by
    obtain ⟨a, c, rfl, h4⟩ := multi_open h3
    exact ⟨a, c, h1, h4, h2⟩
  have HSA : Hid (∀ (W : World) (a : Option Addr) (c : Nat) (v : Value), ListAt 1 numC W (.slice a 1 c) [1] → ListAt 1 numC W v [1] → Calls Tryz.prog 17 #[.agg #[.int .i64 (n : Int), .int .i64 0, .slice a 1 c], .agg #[.int .i64 (n : Int), .int .i64 0, v]] W fun e w' => e = .returned (.bool true) ∧ Ext W w') := fun W a c v h1 h2 => by
    have h9 := sameM_any n 0 [1] n 0 [1] _ _ W ⟨_, rfl, h1⟩ ⟨_, rfl, h2⟩
    rw [show equalM n 0 [1] n 0 [1] = true by unfold equalM; simp] at h9
    exact h9
  have HL1 : Hid (∀ W : World, ListAt 1 numC (W.alloc (.cells #[.string ⟨#[49]⟩] 53)) (.slice (some ⟨W.heap.size, 0, none⟩) 1 1) [1]) := fun W => nums_lit W [1] _ _ 1 (by simp [s10_1.2.1]) rfl (by decide)
  have n0 : ¬ (n : Int) < 0 := by omega
  have n12 : ¬ (12 : Int) < (n : Int) := by omega
  clear hB
  have HK := Lib.hid (known10_any w hlib hb)
  clear hlib hb
  go_enter Tryz.func6, Tryz.ntmps6
  go_wp2_with fail
  refine HK.out.mono ?_
  rintro e w1 ⟨rfl, hE1⟩
  have HE1 := Lib.hid hE1
  clear hE1 HK
  go_wp2_with fail
  refine (HS.out _ HE1.out).mono ?_
  rintro e w2 ⟨a2, c2, rfl, hE2, hR2⟩
  have HE2 : Hid (Ext w w2) := HE1.out.trans hE2
  have HR2 := Lib.hid hR2
  clear hE2 hR2 HS
  go_wp2_with fail
  refine (HU.out _ HE2.out).mono ?_
  rintro e w3 ⟨a1, c1, rfl, hR1, hE3⟩
  have HE3 : Hid (Ext w w3) := HE2.out.trans hE3
  have HX23 : Hid (Ext w2 w3) := hE3
  have HR1 := Lib.hid hR1
  clear hE3 hR1 HU
  obtain ⟨V1, hV1, hX1, hs1, hb1⟩ := boxM w3 (.int .i64 0) (.int .i64 0) (.slice none 0 0)
  have r0 := block_cell hb1
  have f0 := block_free hb1
  have HB1 := Lib.hid (multi_store hb1 (.int .i64 n) (.int .i64 0) (.slice a1 1 c1))
  have HX1 := Lib.hid (multi_ext (B := w3.heap.size) hX1 (Nat.le_refl _) (.int .i64 n) (.int .i64 0) (.slice a1 1 c1))
  obtain ⟨U1, hU1⟩ : ∃ U, ((V1.setCell ⟨w3.heap.size, 0, none⟩ (.int .i64 n)).setCell ⟨w3.heap.size, 1, none⟩ (.int .i64 0)).setCell ⟨w3.heap.size, 2, none⟩ (.slice a1 1 c1) = U := ⟨_, rfl⟩
  rw [hU1] at HB1 HX1
  clear hX1 hs1 hb1
  have HE4 : Hid (Ext w U1) := HE3.out.trans HX1.out
  have HRU := Lib.hid (ListAt.ext numC.mono' HR1.out HX1.out)
  have s1 := block_cell HB1.out
  obtain ⟨L6, hL6⟩ : ∃ L, U1.alloc (.cells #[.string ⟨#[49]⟩] 53) = L := ⟨_, rfl⟩
  have HN6 := Lib.hid (HL1.out U1)
  have HX6 : Hid (Ext U1 L6) := by rw [← hL6]; exact Ext.alloc _ _
  rw [hL6] at HN6
  go_wp2_with fail
  clear hL6 hU1 hV1 r0 f0
  refine (HSA.out _ _ _ _ (ListAt.ext numC.mono' HRU.out HX6.out) HN6.out).mono ?_
  rintro e w5 ⟨rfl, hE5⟩
  have HX25 : Hid (Ext w2 w5) := HX23.out.trans (HX1.out.trans (HX6.out.trans hE5))
  have HE5 : Hid (Ext w w5) := HE2.out.trans HX25.out
  clear hE5 HSA HL1 HN6 s1
  have h6' : (6 : Int) < (n : Int) := by omega
  have hnp := HNP.out
  go_wp2_with fail
  go_ret
  exact ⟨rfl, HE5.out⟩

set_option maxRecDepth 100000 in
set_option maxHeartbeats 4000000 in
theorem wsets_small (n k : Nat) (hn : n ≤ 12) (hk : k ≤ n) (h6 : n < 7) (w : World) (hlib : LibT w) (hB : Bruijn w) (hb : 4 < w.heap.size) :
    Calls Tryz.prog 6 #[.int .i64 (n : Int), .int .i64 (k : Int)] w fun e w' => e = .returned (.bool true) ∧ Ext w w' := by
  have HS : Hid (∀ W, Ext w W → Calls Tryz.prog 31 #[.int .i64 (n : Int), .int .i64 (k : Int)] W fun e w' => ∃ a c, e = .returned (.tuple #[.slice a (allW n k).length c, .int .i64 0]) ∧ Ext W w' ∧ Rows2 w' (.slice a (allW n k).length c) (setsI (allW n k))) := fun W hW => (setsW_any n k hn hk W (hB.ext hW)).mono fun e w' ⟨v, h1, h2, h3⟩ => by
    obtain ⟨a, c, rfl, -⟩ := ListAt.open h3
    have hl : (setsI (allW n k)).length = (allW n k).length := by unfold setsI; rw [List.length_map]
    rw [hl] at h1 h3
    exact ⟨a, c, h1, h2, h3⟩
  obtain ⟨N, hN⟩ : ∃ N, (allW n k).length = N := ⟨_, rfl⟩
  have HNP : Hid (0 < N) := by rw [← hN]; exact allW_pos n (by omega) k (by omega)
  have HNL := Lib.hid hN
  rw [hN] at HS
  clear hN
  have k0 : ¬ (k : Int) < 0 := by omega
  have k12 : ¬ (n : Int) < (k : Int) := by omega
  have HRS : Hid (∀ W, Calls Tryz.prog 33 #[.int .i64 (n : Int), .int .i64 (k : Int)] W fun e w' => ∃ a c, e = .returned (.slice a N c) ∧ Rows2 w' (.slice a N c) (setsI (allW n k)) ∧ Ext W w') := fun W => (refSets_any n k (by omega) hk W).mono fun e w' ⟨v, h1, h2, h3⟩ => by
    rw [← setsI_cast h6 hk] at h2
    obtain ⟨a, c, rfl, -⟩ := ListAt.open h2
    have hl : (setsI (allW n k)).length = N := by unfold setsI; rw [List.length_map]; exact HNL.out
    rw [hl] at h1 h2
    exact ⟨a, c, h1, h2, h3⟩
  have HSL : Hid ((setsI (allW n k)).length = N) := by unfold Hid setsI; rw [List.length_map]; exact HNL.out
  have HU : Hid (∀ W, Ext w W → Calls Tryz.prog 32 #[.int .i64 (n : Int)] W fun e w' => ∃ a c, e = .returned (.tuple #[.agg #[.int .i64 n, .int .i64 0, .slice a 1 c], .int .i64 0]) ∧ ListAt 1 numC w' (.slice a 1 c) [1] ∧ Ext W w') := fun W hW => (unit_any n hn W (hlib.pow.ext hW)).mono fun e w' ⟨u, h1, h2, h3⟩ => by
    obtain ⟨a, c, rfl, h4⟩ := multi_open h3
    exact ⟨a, c, h1, h4, h2⟩
  have HSA : Hid (∀ (W : World) (a : Option Addr) (c : Nat) (v : Value), ListAt 1 numC W (.slice a 1 c) [1] → ListAt 1 numC W v [1] → Calls Tryz.prog 17 #[.agg #[.int .i64 (n : Int), .int .i64 0, .slice a 1 c], .agg #[.int .i64 (n : Int), .int .i64 0, v]] W fun e w' => e = .returned (.bool true) ∧ Ext W w') := fun W a c v h1 h2 => by
    have h9 := sameM_any n 0 [1] n 0 [1] _ _ W ⟨_, rfl, h1⟩ ⟨_, rfl, h2⟩
    rw [show equalM n 0 [1] n 0 [1] = true by unfold equalM; simp] at h9
    exact h9
  have HL1 : Hid (∀ W : World, ListAt 1 numC (W.alloc (.cells #[.string ⟨#[49]⟩] 53)) (.slice (some ⟨W.heap.size, 0, none⟩) 1 1) [1]) := fun W => nums_lit W [1] _ _ 1 (by simp [s10_1.2.1]) rfl (by decide)
  have n0 : ¬ (n : Int) < 0 := by omega
  have n12 : ¬ (12 : Int) < (n : Int) := by omega
  clear hB
  have HK := Lib.hid (known10_any w hlib hb)
  clear hlib hb
  go_enter Tryz.func6, Tryz.ntmps6
  go_wp2_with fail
  refine HK.out.mono ?_
  rintro e w1 ⟨rfl, hE1⟩
  have HE1 := Lib.hid hE1
  clear hE1 HK
  go_wp2_with fail
  refine (HS.out _ HE1.out).mono ?_
  rintro e w2 ⟨a2, c2, rfl, hE2, hR2⟩
  have HE2 : Hid (Ext w w2) := HE1.out.trans hE2
  have HR2 := Lib.hid hR2
  clear hE2 hR2 HS
  go_wp2_with fail
  refine (HU.out _ HE2.out).mono ?_
  rintro e w3 ⟨a1, c1, rfl, hR1, hE3⟩
  have HE3 : Hid (Ext w w3) := HE2.out.trans hE3
  have HX23 : Hid (Ext w2 w3) := hE3
  have HR1 := Lib.hid hR1
  clear hE3 hR1 HU
  obtain ⟨V1, hV1, hX1, hs1, hb1⟩ := boxM w3 (.int .i64 0) (.int .i64 0) (.slice none 0 0)
  have r0 := block_cell hb1
  have f0 := block_free hb1
  have HB1 := Lib.hid (multi_store hb1 (.int .i64 n) (.int .i64 0) (.slice a1 1 c1))
  have HX1 := Lib.hid (multi_ext (B := w3.heap.size) hX1 (Nat.le_refl _) (.int .i64 n) (.int .i64 0) (.slice a1 1 c1))
  obtain ⟨U1, hU1⟩ : ∃ U, ((V1.setCell ⟨w3.heap.size, 0, none⟩ (.int .i64 n)).setCell ⟨w3.heap.size, 1, none⟩ (.int .i64 0)).setCell ⟨w3.heap.size, 2, none⟩ (.slice a1 1 c1) = U := ⟨_, rfl⟩
  rw [hU1] at HB1 HX1
  clear hX1 hs1 hb1
  have HE4 : Hid (Ext w U1) := HE3.out.trans HX1.out
  have HRU := Lib.hid (ListAt.ext numC.mono' HR1.out HX1.out)
  have s1 := block_cell HB1.out
  obtain ⟨L6, hL6⟩ : ∃ L, U1.alloc (.cells #[.string ⟨#[49]⟩] 53) = L := ⟨_, rfl⟩
  have HN6 := Lib.hid (HL1.out U1)
  have HX6 : Hid (Ext U1 L6) := by rw [← hL6]; exact Ext.alloc _ _
  rw [hL6] at HN6
  go_wp2_with fail
  clear hL6 hU1 hV1 r0 f0
  refine (HSA.out _ _ _ _ (ListAt.ext numC.mono' HRU.out HX6.out) HN6.out).mono ?_
  rintro e w5 ⟨rfl, hE5⟩
  have HX25 : Hid (Ext w2 w5) := HX23.out.trans (HX1.out.trans (HX6.out.trans hE5))
  have HE5 : Hid (Ext w w5) := HE2.out.trans HX25.out
  clear hE5 HSA HL1 HN6 s1
  have h6' : ¬ (6 : Int) < (n : Int) := by omega
  have hnp := HNP.out
  go_wp2_with fail
  refine (HRS.out _).mono ?_
  rintro e w6 ⟨a3, c3, rfl, hR3, hE6⟩
  have HE6 : Hid (Ext w w6) := HE5.out.trans hE6
  have HR26 := HR2.out.ext (HX25.out.trans hE6)
  obtain ⟨a2', c2', hv2, h21, h22, -, hc2⟩ := inCell.open HR26
  obtain ⟨a3', c3', hv3, h31, h32, -, hc3⟩ := inCell.open hR3
  rw [HSL.out] at hv2 hv3 h21 h31
  simp only [Value.slice.injEq] at hv2 hv3
  obtain ⟨rfl, -, rfl⟩ := hv2
  obtain ⟨rfl, -, rfl⟩ := hv3
  have HC2 := Lib.hid hc2; have HC3 := Lib.hid hc3
  unfold maxLen at h22 h32
  clear hE6 HR26 hR3 hc2 hc3 HRS hnp
  go_wp2_with fail
  go_loopw [10] (fun t wr => ∃ i : Nat, i ≤ N ∧ t = .int .i64 (i : Int) ∧ Hid (Ext w6 wr)) (fun t _ => N + 1 - (intOf t).toNat)
  case atStart => exact ⟨0, by omega, by simp, Ext.refl _⟩
  case round =>
    obtain ⟨i, hi, rfl, HX⟩ := hrel
    obtain ⟨wo, rfl⟩ : ∃ wo : World, wo = wr := ⟨_, rfl⟩
    by_cases hlt : i < N
    · obtain ⟨x, hx⟩ : ∃ x, (setsI (allW n k))[i]? = some x := ⟨(setsI (allW n k))[i]'(by rw [HSL.out]; exact hlt), List.getElem?_eq_getElem _⟩
      have hne : setsI (allW n k) ≠ [] := by intro e; rw [e] at hx; simp at hx
      obtain ⟨b2, o2, rfl, -, hcell2⟩ := HC2.out hne
      obtain ⟨b3, o3, rfl, -, hcell3⟩ := HC3.out hne
      obtain ⟨vx, hvx, g2⟩ := hcell2 i x hx
      obtain ⟨vy, hvy, g3⟩ := hcell3 i x hx
      have z1 := HX.out.cell g2
      have z2 := HX.out.cell g3
      obtain ⟨ax, cx, rfl, -, -, -, -, -⟩ := hvx.open
      obtain ⟨ay, cy, rfl, -, -, -, -, -⟩ := hvy.open
      have HVX := Lib.hid (hvx.ext HX.out); have HVY := Lib.hid (hvy.ext HX.out)
      have HEQ : Hid (∀ W, Ext wo W → Calls Tryz.prog 34 #[.slice ax x.length cx, .slice ay x.length cy] W fun e w' => e = .returned (.bool true) ∧ Ext W w') := fun W hW => by
        have h9 := refEqRows_any x x _ _ W (HVX.out.ext hW) (HVY.out.ext hW)
        rw [show (x == x) = true by simp] at h9
        exact h9
      obtain ⟨lx, hlx⟩ : ∃ l, x.length = l := ⟨_, rfl⟩
      rw [hlx] at z1 z2 HEQ
      clear hx hne hcell2 hcell3 hvx hvy g2 g3 HVX HVY hlx
      go_upto_region 19 with fail
      --<R19
      refine region_anyEV (fun w' => w'.cell? ⟨b2, o2 + i, none⟩ = some (.slice ax lx cx) ∧ w'.cell? ⟨b3, o3 + i, none⟩ = some (.slice ay lx cy) ∧ Hid (Ext wo w')) 10 10 (by kernel_rfl) (by kernel_rfl) ⟨(Ext.drew wo).cell z1, (Ext.drew wo).cell z2, Ext.drew wo⟩ (fun ops hO hHeld => ?_)
      have hi := getopN hO 0 (by decide)
      conv at hi => rhs; arg 1; whnf
      refine anyE_takeWV hO (v := ?_) 0 hi (by kernel_rfl) (by kernel_rfl) (by kernel_rfl) (by kernel_rfl) (fun _ _ _ h => h) (Or.inl ⟨by rfl, ?_⟩) (by assumption) ?_
      rotate_left
      · ((intro w'); (try go_simp); (try with_reducible rfl))
      clear hi
      (try simp only [Act.put, List.setIfInBounds_toArray, List.set_cons_zero, List.set_cons_succ])
      have hi := getopN hO 1 (by decide)
      conv at hi => rhs; arg 1; whnf
      refine anyE_takeWV hO (v := ?_) 1 hi (by kernel_rfl) (by kernel_rfl) (by kernel_rfl) (by kernel_rfl) (fun _ _ _ h => h) (Or.inl ⟨by rfl, ?_⟩) (by assumption) ?_
      rotate_left
      · ((intro w'); (try go_simp); (try with_reducible rfl))
      clear hi
      (try simp only [Act.put, List.setIfInBounds_toArray, List.set_cons_zero, List.set_cons_succ])
      have hi := getopN hO 2 (by decide)
      conv at hi => rhs; arg 1; whnf
      refine anyE_takeWV hO (v := ?_) 2 hi (by kernel_rfl) (by kernel_rfl) (by kernel_rfl) (by kernel_rfl) (fun _ _ _ h => h) (Or.inl ⟨by rfl, ?_⟩) (by assumption) ?_
      rotate_left
      · ((intro w'); (try go_simp); (try with_reducible rfl))
      clear hi
      (try simp only [Act.put, List.setIfInBounds_toArray, List.set_cons_zero, List.set_cons_succ])
      have hi := getopN hO 3 (by decide)
      conv at hi => rhs; arg 1; whnf
      refine anyE_takeV hO (v := ?_) 3 hi (by kernel_rfl) (by kernel_rfl) (by kernel_rfl) (by kernel_rfl) (fun _ _ _ h => h) (Or.inl ⟨by rfl, ?_⟩) (by assumption) ?_
      rotate_left
      · ((intro w' hSw); (try dsimp only at hSw); (try go_simp); (try with_reducible rfl))
      clear hi
      (try simp only [Act.put, List.setIfInBounds_toArray, List.set_cons_zero, List.set_cons_succ])
      have hi := getopN hO 4 (by decide)
      conv at hi => rhs; arg 1; whnf
      refine anyE_takeWV hO (v := ?_) 4 hi (by kernel_rfl) (by kernel_rfl) (by kernel_rfl) (by kernel_rfl) (fun _ _ _ h => h) (Or.inl ⟨by rfl, ?_⟩) (by assumption) ?_
      rotate_left
      · ((intro w'); (try go_simp); (try with_reducible rfl))
      clear hi
      (try simp only [Act.put, List.setIfInBounds_toArray, List.set_cons_zero, List.set_cons_succ])
      have hi := getopN hO 5 (by decide)
      conv at hi => rhs; arg 1; whnf
      refine anyE_takeWV hO (v := ?_) 5 hi (by kernel_rfl) (by kernel_rfl) (by kernel_rfl) (by kernel_rfl) (fun _ _ _ h => h) (Or.inl ⟨by rfl, ?_⟩) (by assumption) ?_
      rotate_left
      · ((intro w'); (try go_simp); (try with_reducible rfl))
      clear hi
      (try simp only [Act.put, List.setIfInBounds_toArray, List.set_cons_zero, List.set_cons_succ])
      have hi := getopN hO 6 (by decide)
      conv at hi => rhs; arg 1; whnf
      refine anyE_takeWV hO (v := ?_) 6 hi (by kernel_rfl) (by kernel_rfl) (by kernel_rfl) (by kernel_rfl) (fun _ _ _ h => h) (Or.inl ⟨by rfl, ?_⟩) (by assumption) ?_
      rotate_left
      · ((intro w'); (try go_simp); (try with_reducible rfl))
      clear hi
      (try simp only [Act.put, List.setIfInBounds_toArray, List.set_cons_zero, List.set_cons_succ])
      have hi := getopN hO 7 (by decide)
      conv at hi => rhs; arg 1; whnf
      refine anyE_takeV hO (v := ?_) 7 hi (by kernel_rfl) (by kernel_rfl) (by kernel_rfl) (by kernel_rfl) (fun _ _ _ h => h) (Or.inl ⟨by rfl, ?_⟩) (by assumption) ?_
      rotate_left
      · ((intro w' hSw); (try dsimp only at hSw); (try go_simp); (try with_reducible rfl))
      clear hi
      (try simp only [Act.put, List.setIfInBounds_toArray, List.set_cons_zero, List.set_cons_succ])
      have hi := getopN hO 8 (by decide)
      conv at hi => rhs; arg 1; whnf
      refine anyE_stepV hO 8 (by kernel_rfl) hi (fun K hK => ?_)
      go_simp
      (go_at_call 34; refine (HEQ.out _ (hHeld.2.2.out)).mono ?_)
      rintro e wy ⟨rfl, hEz⟩
      go_wp2_with fail
      refine hK.out _ _ ⟨(hEz).cell hHeld.1, (hEz).cell hHeld.2.1, Ext.trans hHeld.2.2.out (hEz)⟩ (fun hHeld => ?_)
      clear hK K hi
      (try simp only [Act.put, List.setIfInBounds_toArray, List.set_cons_zero, List.set_cons_succ])
      have HWY : Hid (Ext wo wy) := hHeld.2.2
      have hi := getopN hO 9 (by decide)
      conv at hi => rhs; arg 1; whnf
      refine anyE_lastV hO 9 (by kernel_rfl) (by kernel_rfl) hi (fun K hK => ?_)
      go_simp
      refine hK.out _ _ (by assumption) ?_
      clear hK K hi hO
      (try simp only [Act.put, List.setIfInBounds_toArray, List.set_cons_zero, List.set_cons_succ])
      -->R19
      go_wp2_with fail
      go_roundw
      case rel => exact ⟨i + 1, by omega, by go_num, HX.out.trans HWY.out⟩
      case measure => simp [intOf]; omega
    · obtain rfl : i = N := by omega
      have HE9 : Hid (Ext w wo) := HE6.out.trans HX.out
      go_wp2_with fail
      go_ret
      exact ⟨rfl, HE9.out⟩

theorem wsets_walk (d g : Int) (w : World) (hd : -9223372036854775808 ≤ d ∧ d ≤ 9223372036854775807) (hg : -9223372036854775808 ≤ g ∧ g ≤ 9223372036854775807) (hlib : LibT w) (hb : 4 < w.heap.size) (hB : Bruijn w) :
    Calls Tryz.prog 6 #[.int .i64 d, .int .i64 g] w fun e w' => e = .returned (.bool true) ∧ Ext w w' := by
  by_cases h : d < 0 ∨ 12 < d
  · exact wsets_dim d g w h hlib hb
  · obtain ⟨n, rfl⟩ : ∃ n : Nat, d = n := ⟨d.toNat, by omega⟩
    by_cases h2 : g < 0 ∨ (n : Int) < g
    · exact wsets_bad n g (by omega) h2 w hlib hB hb
    · obtain ⟨k, rfl⟩ : ∃ k : Nat, g = k := ⟨g.toNat, by omega⟩
      by_cases h6 : n < 7
      · exact wsets_small n k (by omega) (by omega) h6 w hlib hB hb
      · exact wsets_big n k (by omega) (by omega) (by omega) w hlib hB hb
end Go.Proofs.YtjlkkofmojgipaaGreatDoor
/- What a statement's row asks of the end of a call, out of: it returned true, and all that lay in memory lies unturned. -/
namespace Go.Proofs.YtjlkkofmojgipaaGreatDoor
set_option linter.unusedVariables false
set_option linter.unusedSimpArgs false
open Go.ChangeShapes Go.WideShapes Go.ChangeAt Go.RowKit

theorem lawOwn : ownKnob Tryz.prog.godebug = none := by kernel_rfl
theorem lawLaid : laidOutB Tryz.prog = true := by kernel_rfl

theorem trodAll_below {H : Type} {enc : TypeId × Value → H} {P : Program} (hl : laidOutB P = true) {W W' : World} (hb : Below W.heap.size W W') :
    ∀ (ts : List TypeId) (vs : List Value) (ds : List (DataW H)) (ps : List MemPlace), (∀ t ∈ ts, P.readableRec t = true ∧ t < P.types.size) →
      DataW.TrodAll enc P W 0 (fun _ => true) true ts vs ds ps → (∀ x ∈ ps, x.block < W.heap.size) → DataW.TrodAll enc P W' 0 (fun b => decide (b < W.heap.size)) true ts vs ds ps
  | [], [], [], ps, _, h, _ => h
  | t :: ts, v :: vs, d :: ds, ps, hr, h, hlt => by
    obtain ⟨p, p', h1, h2, rfl⟩ := h
    exact ⟨p, p', Below.trod hl (hr t (by simp)).1 (hr t (by simp)).2 h1 hb (fun x hx => hlt x (by simp [hx])), trodAll_below hl hb ts vs ds p' (fun t ht => hr t (by simp [ht])) h2 (fun x hx => hlt x (by simp [hx])), rfl⟩
  | [], v :: vs, _, _, _, h, _ => absurd h (by simp [DataW.TrodAll])
  | [], [], d :: ds, _, _, h, _ => absurd h (by simp [DataW.TrodAll])
  | t :: ts, [], _, _, _, h, _ => absurd h (by simp [DataW.TrodAll])
  | t :: ts, v :: vs, [], _, _, h, _ => absurd h (by simp [DataW.TrodAll])

/-- The row's end for a statement that answers true and leaves what it was given alone. -/
theorem lawPost {H : Type} {enc : TypeId × Value → H} {f : Func} {s : ChangeSpec} {W W' : World} {args : Array Value} {ds : List (DataW H)} {before : List MemPlace}
    (hW : DataW.Whole enc Tryz.prog f.params.toList s.vars false W args.toList ds [] before) (hA : DataW.TrodAll enc Tryz.prog W 0 (fun _ => true) true f.params.toList args.toList ds before)
    (hv : s.vars = []) (hres : f.resultTypes = #[4]) (hfn : s.fn H (ds ++ []) = { results := [.lit (.bool true)], args := ds }) (hr : ∀ t ∈ f.params.toList, Tryz.prog.readableRec t = true ∧ t < Tryz.prog.types.size) (hb : Below W.heap.size W W') :
    ∃ v, Ending.returned (.bool true) = Ending.returned v ∧ ChangeSpec.post enc Tryz.prog f s false true false false W args v W' := by
  refine ⟨_, rfl, ds, [], before, [], before, [], hW, ?_, ?_, ?_, ?_, fun h => by cases h⟩
  · rw [hfn, hres]
    exact trodAll_cons_mk (shut_bool Tryz.underlying4 _) trodAll_mk0
  · rw [hfn]
    exact trodAll_below lawLaid hb _ _ _ _ hr hA (fun x hx => by simpa using hW.lt x hx)
  · rw [hfn, hv]; rfl
  · exact hb.frame _
end Go.Proofs.YtjlkkofmojgipaaGreatDoor
/- Arguments that came in: slices of integers. -/
namespace Go.Proofs.YtjlkkofmojgipaaGreatDoor
set_option linter.unusedVariables false
set_option linter.unusedSimpArgs false
open Go.ChangeShapes Go.WideShapes Go.ChangeAt Go.RowKit

end Go.Proofs.YtjlkkofmojgipaaGreatDoor
