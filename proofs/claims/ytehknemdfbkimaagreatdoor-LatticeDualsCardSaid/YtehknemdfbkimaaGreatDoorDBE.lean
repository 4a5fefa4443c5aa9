/- Merged: Known9, RegU, RegV, Rows9, RowF. -/
import Derived.Test.YtehknemdfbkimaaGreatDoorDBA
import Derived.Test.YtehknemdfbkimaaGreatDoorDBD
import Derived.Test.YtehknemdfbkimaaGreatDoorDAV
import Derived.Test.YtehknemdfbkimaaGreatDoorDAA
/- Chapter 09's examples in law 09: known. -/
namespace Go.Proofs.YtehknemdfbkimaaGreatDoor
set_option linter.unusedVariables false
set_option linter.unusedSimpArgs false
open Go.RowKit

theorem k9_1 : formO 3 20 3 [[4, 2, 0], [2, 4, 0]] = some [[2, 4, 0], [0, 6, 0]] := by decide +kernel
theorem k9_2 : formO 3 20 3 [[12, 19, 28]] = some [[12, 19, 28]] := by decide +kernel
theorem k9_3 : kerS 20 3 [[2, 4, 0], [0, 6, 0]] = some [[0, 0, 1]] := by decide +kernel
theorem k9_4 : kerS 20 3 [[0, 0, 1]] = some [[1, 0, 0], [0, 1, 0]] := by decide +kernel
theorem k9_5 : kerS 20 3 [[12, 19, 28]] = some [[1, 20, -14], [0, 28, -19]] := by decide +kernel
theorem k9_6 : prodO [[2, 4, 0], [0, 6, 0]] 2 = some 12 := by decide +kernel
theorem k9_7 : prodO [[1, 0, 0], [0, 1, 0]] 2 = some 1 := by decide +kernel
theorem k9_8 : redO [[2, 4, 0], [0, 6, 0]] [5, 1, 7] 2 = some ([1, 5, 7], [2, -2]) := by decide +kernel
theorem k9_9 : latE 3 [[4, 2, 0], [2, 4, 0]] = 0 := by decide +kernel
theorem k9_10 : latE 3 [[12, 19, 28]] = 0 := by decide +kernel
theorem k9_11 : chkE 3 [[2, 4, 0], [0, 6, 0]] = 0 := by decide +kernel
theorem k9_12 : chkE 3 [[12, 19, 28]] = 0 := by decide +kernel
theorem k9_13 : rowLE 3 [[2, 4, 0], [0, 6, 0]] [5, 1, 7] = 0 := by decide +kernel
theorem k9_14 : smB 12 = true ∧ smB 1 = true ∧ smB (fdq 12 1) = true ∧ fdq 12 1 = 12 ∧ fit9B 12 = true := by decide +kernel
theorem k9_15 : (∀ r ∈ [[2, 4, 0], [0, 6, 0]], r.all smB = true) ∧ (∀ r ∈ [[12, 19, 28]], r.all smB = true) ∧ (∀ r ∈ [[1, 20, -14], [0, 28, -19]], r.all smB = true) ∧ ([1, 5, 7] : List Int).all smB = true := by decide +kernel
/-- Matrices written out. -/
theorem mat1L (w : World) (r : List Int) (n : Nat) (hn : n = r.length) (T T2 : TypeId) (hb : ∀ x ∈ r, -9223372036854775808 ≤ x ∧ x ≤ 9223372036854775807) (hl : r.length ≤ 100) (C : Array Value) (hC : C = (r.map (Value.int .i64)).toArray) :
    Rows2 ((w.alloc (.cells C T)).alloc (.cells #[.slice (some ⟨w.heap.size, 0, none⟩) n n] T2)) (.slice (some ⟨w.heap.size + 1, 0, none⟩) 1 1) [r] := by
  subst hC; subst hn
  have h1 := Ints.lit w r T (by unfold maxLen; omega) hb
  have := ListAt.lit (R := Ints) (fun _ _ _ _ he h => Ints.ext h he) (w.alloc (.cells (r.map (Value.int .i64)).toArray T)) [.slice (some ⟨w.heap.size, 0, none⟩) r.length r.length] [r] T2 rfl (by unfold maxLen; simp) (fun j u x hu hx => by
    cases j with
    | zero => simp only [List.getElem?_cons_zero, Option.some.injEq] at hu hx; subst hu; subst hx; exact h1
    | succ j => simp at hu)
  simpa using this
theorem mat2L (w : World) (r q : List Int) (n m : Nat) (hn : n = r.length) (hm : m = q.length) (T T1 T2 : TypeId) (hb : ∀ x ∈ r ++ q, -9223372036854775808 ≤ x ∧ x ≤ 9223372036854775807) (hl : r.length ≤ 100) (hl2 : q.length ≤ 100) (C D : Array Value) (hC : C = (r.map (Value.int .i64)).toArray) (hD : D = (q.map (Value.int .i64)).toArray) :
    Rows2 (((w.alloc (.cells C T)).alloc (.cells D T1)).alloc (.cells #[.slice (some ⟨w.heap.size, 0, none⟩) n n, .slice (some ⟨w.heap.size + 1, 0, none⟩) m m] T2)) (.slice (some ⟨w.heap.size + 1 + 1, 0, none⟩) 2 2) [r, q] := by
  subst hC; subst hn; subst hD; subst hm
  have h1 := (Ints.lit w r T (by unfold maxLen; omega) (fun x hx => hb x (List.mem_append_left _ hx))).ext (Ext.alloc _ (.cells (q.map (Value.int .i64)).toArray T1))
  have h2 := Ints.lit (w.alloc (.cells (r.map (Value.int .i64)).toArray T)) q T1 (by unfold maxLen; omega) (fun x hx => hb x (List.mem_append_right _ hx))
  rw [World.size_alloc] at h2
  have := ListAt.lit (R := Ints) (fun _ _ _ _ he h => Ints.ext h he) ((w.alloc (.cells (r.map (Value.int .i64)).toArray T)).alloc (.cells (q.map (Value.int .i64)).toArray T1)) [.slice (some ⟨w.heap.size, 0, none⟩) r.length r.length, .slice (some ⟨w.heap.size + 1, 0, none⟩) q.length q.length] [r, q] T2 rfl (by unfold maxLen; simp) (fun j u x hu hx => by
    match j with
    | 0 => simp only [List.getElem?_cons_zero, Option.some.injEq] at hu hx; subst hu; subst hx; exact h1
    | 1 => simp only [List.getElem?_cons_succ, List.getElem?_cons_zero, Option.some.injEq] at hu hx; subst hu; subst hx; exact h2
    | j + 2 => simp at hu)
  simpa using this

theorem LsR.fits {cols : Nat} {m : List (List Int)} {w w' : World} {e : Ending} (h : LsR cols m w e w') (hf : (m.all fun r => r.all fit9B) = true) : ∃ a c, e = .returned (.tuple #[.agg #[.int .i64 cols, .slice a m.length c], .int .i64 0]) ∧ Rows2 w' (.slice a m.length c) m ∧ Ext w w' := by
  obtain ⟨h1, h2⟩ := h
  rw [if_pos hf] at h1
  obtain ⟨v, rfl, hs⟩ := h1
  obtain ⟨a, c, rfl, -, -, -, -⟩ := inCell.open hs.now
  exact ⟨a, c, rfl, hs.now, h2⟩

set_option maxRecDepth 100000 in
set_option maxHeartbeats 4000000 in
theorem known9_any (w : World) (hlib : LibT w) (hb : 0 < w.heap.size) :
    Calls Tryz.prog 15 #[] w fun e w' => e = .returned (.bool true) ∧ Ext w w' := by
  have HO1 : Hid (∀ W v, Ext w W → Rows2 W v [[4, 2, 0], [2, 4, 0]] → Calls Tryz.prog 70 #[.int .i64 3, v] W fun e w' => ∃ a c, e = .returned (.tuple #[.agg #[.int .i64 3, .slice a 2 c], .int .i64 0]) ∧ Rows2 w' (.slice a 2 c) [[2, 4, 0], [0, 6, 0]] ∧ Ext W w') := fun W v hW hv =>
    (of_any' 3 20 _ _ v W hv k9_9 k9_1 k9_15.1 (by simp) (by simp) (hlib.ext hW) (Nat.lt_of_lt_of_le hb hW.size)).mono fun e w' h => h.fits (by decide +kernel)
  have HO2 : Hid (∀ W v, Ext w W → Rows2 W v [[12, 19, 28]] → Calls Tryz.prog 70 #[.int .i64 3, v] W fun e w' => ∃ a c, e = .returned (.tuple #[.agg #[.int .i64 3, .slice a 1 c], .int .i64 0]) ∧ Rows2 w' (.slice a 1 c) [[12, 19, 28]] ∧ Ext W w') := fun W v hW hv =>
    (of_any' 3 20 _ _ v W hv k9_10 k9_2 k9_15.2.1 (by simp) (by simp) (hlib.ext hW) (Nat.lt_of_lt_of_le hb hW.size)).mono fun e w' h => h.fits (by decide +kernel)
  have HIX : Hid (∀ W v, Ext w W → LatV W v 3 [[2, 4, 0], [0, 6, 0]] → Calls Tryz.prog 20 #[v] W fun e w' => e = .returned (.tuple #[.int .i64 12, .int .i64 0]) ∧ Ext W w') := fun W v hW hv => by
    refine (index_any 3 20 _ _ _ 12 1 v W hv k9_11 (by omega) k9_3 k9_4 (by simp) k9_6 k9_7 k9_14.1 k9_14.2.1 (by decide) k9_14.2.2.1 (by simp) (hlib.ext hW) (Nat.lt_of_lt_of_le hb hW.size)).mono fun e w' h => ?_
    unfold IdxR at h
    rw [k9_14.2.2.2.1, if_pos k9_14.2.2.2.2] at h
    exact h
  have HAN : Hid (∀ W v, Ext w W → LatV W v 3 [[12, 19, 28]] → Calls Tryz.prog 19 #[v] W fun e w' => ∃ a c, e = .returned (.tuple #[.agg #[.int .i64 3, .slice a 2 c], .int .i64 0]) ∧ Rows2 w' (.slice a 2 c) [[1, 20, -14], [0, 28, -19]] ∧ Ext W w') := fun W v hW hv =>
    (ann_any 3 20 _ _ k9_5 v W hv k9_12 (by omega) k9_15.2.2.1 (by simp) (by simp) (hlib.ext hW) (Nat.lt_of_lt_of_le hb hW.size)).mono fun e w' h => h.fits (by decide +kernel)
  have HRP : Hid (∀ W v vx, Ext w W → LatV W v 3 [[2, 4, 0], [0, 6, 0]] → Ints W vx [5, 1, 7] → Calls Tryz.prog 27 #[v, vx] W fun e w' => ∃ a c, e = .returned (.tuple #[.slice a 3 c, .int .i64 0]) ∧ Ints w' (.slice a 3 c) [1, 5, 7] ∧ Ext W w') := fun W v vx hW hv hx => by
    refine (repr_any 3 _ _ _ _ v vx W hv hx k9_13 k9_8 k9_15.2.2.2 (hlib.ext hW) (Nat.lt_of_lt_of_le hb hW.size)).mono fun e w' h => ?_
    obtain ⟨h1, h2⟩ := h
    rw [if_pos (by decide +kernel)] at h1
    obtain ⟨u, rfl, hu⟩ := h1
    obtain ⟨a, c, rfl, -, -, -, -, -⟩ := hu.open
    exact ⟨a, c, rfl, hu, h2⟩
  clear hlib hb
  go_enter Tryz.func15, Tryz.ntmps15
  have hm1 := mat2L w [4, 2, 0] [2, 4, 0] 3 3 rfl rfl 3 3 39 (by decide) (by decide) (by decide) #[.int .i64 4, .int .i64 2, .int .i64 0] #[.int .i64 2, .int .i64 4, .int .i64 0] rfl rfl
  have HM1 := Lib.hid hm1
  clear hm1
  go_wp2_with fail
  refine (HO1.out _ _ ((Ext.alloc _ _).trans ((Ext.alloc _ _).trans (Ext.alloc _ _))) HM1.out).mono ?_
  rintro e w1 ⟨a1, c1, rfl, hR1, hE1⟩
  have HE1 := Lib.hid (((Ext.alloc w (.cells #[.int .i64 4, .int .i64 2, .int .i64 0] 3)).trans ((Ext.alloc _ _).trans (Ext.alloc _ _))).trans hE1)
  have HR1 := Lib.hid hR1
  clear hE1 hR1 HM1 HO1
  obtain ⟨V1, hV1, hX1, hs1, hb1⟩ := lat_new w1 (.int .i64 0) (.slice none 0 0)
  obtain ⟨r0, r1, rf⟩ := lat_block hb1
  have f0 := rf 0; have f1 := rf 1
  have HB1 := Lib.hid (lat_store hb1 (.int .i64 3) (.slice a1 2 c1))
  have HX1 := Lib.hid (ext_lat hX1 (Nat.le_refl _) (.int .i64 3) (.slice a1 2 c1))
  clear hX1 hs1 hb1 rf
  obtain ⟨U1, hU1⟩ : ∃ U1, (V1.setCell ⟨w1.heap.size, 0, none⟩ (.int .i64 3)).setCell ⟨w1.heap.size, 1, none⟩ (.slice a1 2 c1) = U1 := ⟨_, rfl⟩
  rw [hU1] at HB1 HX1
  obtain ⟨s0, s1, -⟩ := lat_block HB1.out
  have HEU1 := Lib.hid (HE1.out.trans HX1.out)
  have HRU1 := Lib.hid (HR1.out.ext HX1.out)
  go_wp2_with fail
  clear hU1 hV1 r0 r1 f0 f1
  refine (HIX.out _ _ HEU1.out ⟨_, rfl, HRU1.out⟩).mono ?_
  rintro e w2 ⟨rfl, hE2⟩
  have HB2 := Lib.hid (block_ext HB1.out hE2)
  have HR2 := Lib.hid (HRU1.out.ext hE2)
  have HE2 := Lib.hid (HEU1.out.trans hE2)
  clear hE2 HIX s0 s1
  have hm2 := mat1L w2 [12, 19, 28] 3 rfl 3 39 (by decide) (by decide) #[.int .i64 12, .int .i64 19, .int .i64 28] rfl
  have HM2 := Lib.hid hm2
  clear hm2
  go_wp2_with fail
  refine (HO2.out _ _ (HE2.out.trans ((Ext.alloc _ _).trans (Ext.alloc _ _))) HM2.out).mono ?_
  rintro e w3 ⟨a3, c3, rfl, hR3, hE3⟩
  have HX3 : Hid (Ext w2 w3) := ((Ext.alloc w2 (.cells #[.int .i64 12, .int .i64 19, .int .i64 28] 3)).trans (Ext.alloc _ _)).trans hE3
  have HR3 := Lib.hid hR3
  clear hE3 hR3 HM2 HO2
  obtain ⟨V3, hV3, hX3, hs3, hb3⟩ := lat_new w3 (.int .i64 0) (.slice none 0 0)
  obtain ⟨r0, r1, rf⟩ := lat_block hb3
  have f0 := rf 0; have f1 := rf 1
  have HB3 := Lib.hid (lat_store hb3 (.int .i64 3) (.slice a3 1 c3))
  have HY3 := Lib.hid (ext_lat hX3 (Nat.le_refl _) (.int .i64 3) (.slice a3 1 c3))
  clear hX3 hs3 hb3 rf
  obtain ⟨U3, hU3⟩ : ∃ U3, (V3.setCell ⟨w3.heap.size, 0, none⟩ (.int .i64 3)).setCell ⟨w3.heap.size, 1, none⟩ (.slice a3 1 c3) = U3 := ⟨_, rfl⟩
  rw [hU3] at HB3 HY3
  obtain ⟨s0, s1, -⟩ := lat_block HB3.out
  have HEU3 := Lib.hid (HE2.out.trans (HX3.out.trans HY3.out))
  have HRU3 := Lib.hid (HR3.out.ext HY3.out)
  have HB13 := Lib.hid (block_ext HB2.out (HX3.out.trans HY3.out))
  have HR13 := Lib.hid (HR2.out.ext (HX3.out.trans HY3.out))
  go_wp2_with fail
  clear hU3 hV3 r0 r1 f0 f1
  refine (HAN.out _ _ HEU3.out ⟨_, rfl, HRU3.out⟩).mono ?_
  rintro e w4 ⟨a4, c4, rfl, hR4, hE4⟩
  have HR4 := Lib.hid hR4; have HX4 := Lib.hid hE4
  clear hE4 hR4 HAN s0 s1
  obtain ⟨V4, hV4, hX4, hs4, hb4⟩ := lat_new w4 (.int .i64 0) (.slice none 0 0)
  obtain ⟨r0, r1, rf⟩ := lat_block hb4
  have f0 := rf 0; have f1 := rf 1
  have HB4 := Lib.hid (lat_store hb4 (.int .i64 3) (.slice a4 2 c4))
  have HY4 := Lib.hid (ext_lat hX4 (Nat.le_refl _) (.int .i64 3) (.slice a4 2 c4))
  clear hX4 hs4 hb4 rf
  obtain ⟨U4, hU4⟩ : ∃ U4, (V4.setCell ⟨w4.heap.size, 0, none⟩ (.int .i64 3)).setCell ⟨w4.heap.size, 1, none⟩ (.slice a4 2 c4) = U4 := ⟨_, rfl⟩
  rw [hU4] at HB4 HY4
  have HEU4 := Lib.hid (HEU3.out.trans (HX4.out.trans HY4.out))
  have HRU4 := Lib.hid (HR4.out.ext HY4.out)
  have HB14 := Lib.hid (block_ext HB13.out (HX4.out.trans HY4.out))
  have HR14 := Lib.hid (HR13.out.ext (HX4.out.trans HY4.out))
  obtain ⟨p0, p1, -⟩ := lat_block HB14.out
  have hx5 := Ints.lit U4 [5, 1, 7] 3 (by unfold maxLen; decide) (by decide)
  have HX5 := Lib.hid hx5
  have e5 : ([5, 1, 7] : List Int).map (Value.int .i64) = [.int .i64 5, .int .i64 1, .int .i64 7] := rfl
  rw [e5] at HX5
  clear hx5 e5
  go_wp2_with fail
  clear hU4 hV4 r0 r1 f0 f1
  refine (HRP.out _ _ _ (HEU4.out.trans (Ext.alloc _ _)) ⟨_, rfl, HR14.out.ext (Ext.alloc _ _)⟩ HX5.out).mono ?_
  rintro e w6 ⟨a6, c6, rfl, hI6, hE6⟩
  have HX6 : Hid (Ext U4 w6) := (Ext.alloc U4 (.cells #[.int .i64 5, .int .i64 1, .int .i64 7] 3)).trans hE6
  obtain ⟨-, k6, k6', -, hcell⟩ := hI6.cells
  obtain ⟨b6, o6, rfl, -, hce⟩ := hcell (by simp)
  have v0 := hce 0 1 rfl; have v1 := hce 1 5 rfl; have v2 := hce 2 7 rfl
  rw [Nat.add_zero] at v0
  unfold maxLen at k6'
  have HB16 := Lib.hid (block_ext HB14.out HX6.out)
  have HB46 := Lib.hid (block_ext HB4.out HX6.out)
  have HR16 := Lib.hid (HR14.out.ext HX6.out)
  have HR46 := Lib.hid (HRU4.out.ext HX6.out)
  have HE6 := Lib.hid (HEU4.out.trans HX6.out)
  clear hI6 hE6 hcell hce HRP p0 p1 HX5
  obtain ⟨p0, p1, -⟩ := lat_block HB16.out
  obtain ⟨q0, q1, -⟩ := lat_block HB46.out
  have hm7 := mat2L w6 [2, 4, 0] [0, 6, 0] 3 3 rfl rfl 3 3 39 (by decide) (by decide) (by decide) #[.int .i64 2, .int .i64 4, .int .i64 0] #[.int .i64 0, .int .i64 6, .int .i64 0] rfl rfl
  have HQ7 := Lib.hid (rEq9_any [[2, 4, 0], [0, 6, 0]] [[2, 4, 0], [0, 6, 0]] _ _ _ (HR16.out.ext ((Ext.alloc _ _).trans ((Ext.alloc _ _).trans (Ext.alloc _ _)))) hm7)
  have hbt : (([[2, 4, 0], [0, 6, 0]] : List (List Int)) == [[2, 4, 0], [0, 6, 0]]) = true := by decide
  rw [hbt] at HQ7
  clear hm7 hbt
  go_wp2_with fail
  refine HQ7.out.mono ?_
  rintro e w8 ⟨rfl, hE8⟩
  have HX8 : Hid (Ext w6 w8) := ((Ext.alloc w6 (.cells #[.int .i64 2, .int .i64 4, .int .i64 0] 3)).trans ((Ext.alloc _ _).trans (Ext.alloc _ _))).trans hE8
  have y0 := HX8.out.cell q0; have y1 := HX8.out.cell q1
  have u0 := HX8.out.cell v0; have u1 := HX8.out.cell v1; have u2 := HX8.out.cell v2
  clear hE8 HQ7 p0 p1 q0 q1 v0 v1 v2
  have hm9 := mat2L w8 [1, 20, -14] [0, 28, -19] 3 3 rfl rfl 3 3 39 (by decide) (by decide) (by decide) #[.int .i64 1, .int .i64 20, .int .i64 (-14)] #[.int .i64 0, .int .i64 28, .int .i64 (-19)] rfl rfl
  have HQ9 := Lib.hid (rEq9_any [[1, 20, -14], [0, 28, -19]] [[1, 20, -14], [0, 28, -19]] _ _ _ ((HR46.out.ext HX8.out).ext ((Ext.alloc _ _).trans ((Ext.alloc _ _).trans (Ext.alloc _ _)))) hm9)
  have hbt : (([[1, 20, -14], [0, 28, -19]] : List (List Int)) == [[1, 20, -14], [0, 28, -19]]) = true := by decide
  rw [hbt] at HQ9
  clear hm9 hbt
  go_wp2_with fail
  refine HQ9.out.mono ?_
  rintro e w10 ⟨rfl, hE10⟩
  have HX10 : Hid (Ext w8 w10) := ((Ext.alloc w8 (.cells #[.int .i64 1, .int .i64 20, .int .i64 (-14)] 3)).trans ((Ext.alloc _ _).trans (Ext.alloc _ _))).trans hE10
  have x0 := HX10.out.cell u0; have x1 := HX10.out.cell u1; have x2 := HX10.out.cell u2
  clear hE10 HQ9 y0 y1 u0 u1 u2
  go_wp2_with fail
  go_ret
  exact ⟨rfl, HE6.out.trans (HX8.out.trans HX10.out)⟩
end Go.Proofs.YtehknemdfbkimaaGreatDoor
/- Long regions that draw their order and only read: the operations in the text's order, their array a variable; the condition on the world holds throughout. -/
namespace Go.Proofs.YtehknemdfbkimaaGreatDoor
set_option linter.unusedVariables false
open Go.RowKit
section
variable {P : Program} {ops : Array Oper} {Q : Exit → Act → World → Prop} {md : Region.Mode} {S : World → Prop} {z : Nat}
end
section
variable {P : Program} {ops O : Array Oper} {Q : Exit → Act → World → Prop} {md : Region.Mode} {S : World → Prop} {z n : Nat}
end
end Go.Proofs.YtehknemdfbkimaaGreatDoor
/- Long regions that draw their order and only read, in an order of one's choice; the operations' array is a variable. -/
namespace Go.Proofs.YtehknemdfbkimaaGreatDoor
set_option linter.unusedVariables false
open Go.RowKit
section
variable {P : Program} {ops O : Array Oper} {Q : Exit → Act → World → Prop} {md : Region.Mode} {S : World → Prop} {z n : Nat}
end
end Go.Proofs.YtehknemdfbkimaaGreatDoor
/- Contract of schismalaw09.Rows: the rows of a plan. -/
namespace Go.Proofs.YtehknemdfbkimaaGreatDoor
set_option linter.unusedVariables false
set_option linter.unusedSimpArgs false
open Go.RowKit

/-- A row of four small numbers, in four cells. -/
def four8 (_ : World) (u : List Value) (x : List Int) : Prop := u = x.map (Value.int .i8) ∧ x.length = 4 ∧ ∀ a ∈ x, -128 ≤ a ∧ a ≤ 127
theorem four8.mono : Mono four8 := fun _ _ _ _ _ h => h
abbrev Fours (w : World) (v : Value) (xss : List (List Int)) : Prop := ListAt 4 four8 w v xss
theorem Fours.ext {w w' : World} {v : Value} {xss : List (List Int)} (h : Fours w v xss) (he : Ext w w') : Fours w' v xss := ListAt.ext four8.mono h he
/-- A row of a plan. -/
def row9 (n : Nat) (x : List Int) : List Int := (x.take n).map fun a => a.tmod 10
def rowsT (n i : Nat) (xss : List (List Int)) : List (List Int) := (xss.take i).map (row9 n)
abbrev rows9 (n : Nat) (xss : List (List Int)) : List (List Int) := rowsT n 4 xss
theorem row9_len {n : Nat} {x : List Int} (h : n ≤ x.length) : (row9 n x).length = n := by unfold row9; rw [List.length_map, List.length_take]; omega
theorem row9_succ {k : Nat} {x : List Int} {y : Int} (h : x[k]? = some y) : row9 (k + 1) x = row9 k x ++ [y.tmod 10] := by unfold row9; rw [List.take_add_one, h, List.map_append]; rfl
theorem rowsT_len (n i : Nat) (xss : List (List Int)) (h : i ≤ xss.length) : (rowsT n i xss).length = i := by unfold rowsT; rw [List.length_map, List.length_take]; omega
theorem rowsT_succ {n i : Nat} {xss : List (List Int)} {x : List Int} (h : xss[i]? = some x) : rowsT n (i + 1) xss = rowsT n i xss ++ [row9 n x] := by unfold rowsT; rw [List.take_add_one, h, List.map_append]; rfl

set_option maxRecDepth 100000 in
set_option maxHeartbeats 2000000 in
theorem rows9_any (c : Int) (hc0 : 0 ≤ c) (hc1 : c ≤ 255) (xss : List (List Int)) (v : Value) (w : World) (h : Fours w v xss) :
    Calls Tryz.prog 71 #[.agg #[.int .u8 c, v]] w fun e w' => ∃ u, e = .returned (.tuple #[.int .i64 (1 + c % 4), u]) ∧ Rows2 w' u (rows9 (1 + c % 4).toNat xss) ∧ Ext w w' := by
  obtain ⟨n, hn, hn1, hn2⟩ : ∃ n : Nat, 1 + c % 4 = (n : Int) ∧ 1 ≤ n ∧ n ≤ 4 := ⟨(1 + c % 4).toNat, by omega, by omega, by omega⟩
  rw [hn, Int.toNat_natCast]
  obtain ⟨a, cp, rfl, hx1, hx2, hx3, hx4⟩ := ListAt.open h
  have HF := Lib.hid (fun W (hW : Ext w W) => h.ext hW)
  have HX := Lib.hid hx4
  clear hx4 h
  unfold maxLen at hx2
  go_enter Tryz.func71, Tryz.ntmps71
  go_wp2_with fail
  obtain ⟨W1, hW1⟩ : ∃ W1, W1 = w.alloc (.cells #[.int .u8 c, .slice a xss.length cp] 24) := ⟨_, rfl⟩
  have HW1 : Hid (Ext w W1 ∧ W1.cell? ⟨w.heap.size, 1, none⟩ = some (.slice a xss.length cp)) := by
    rw [hW1]; exact ⟨Ext.alloc _ _, by rw [World.cell?_alloc_new]; rfl⟩
  rw [← hW1]
  clear hW1
  go_loopw [5, 6] (fun v t wr => ∃ (i : Nat) (S : Nat → Prop), t = .int .i64 i ∧ i ≤ 4 ∧ i ≤ xss.length ∧ Hid (Ext W1 wr) ∧ Hid (SOk S W1.heap.size wr) ∧ Hid (BuildS wr S W1.heap.size 39 1 v rowR (rowsT n i xss))) (fun _ t _ => 4 - (intOf t).toNat)
  case atStart => exact ⟨0, fun _ => False, rfl, by omega, by omega, Ext.refl _, fun b hb => hb.elim, BuildS.nil _ _ _ _ _ _⟩
  case round =>
    obtain ⟨i, S, rfl, hi4, hil, HE, HOK, HB⟩ := hrel
    obtain ⟨wo, rfl⟩ : ∃ wo : World, wo = wr := ⟨_, rfl⟩
    have g1 := HE.out.cell HW1.out.2
    by_cases hlt : i < xss.length
    · by_cases hlt4 : i < 4
      · obtain ⟨b, off, rfl, hb, hcell⟩ := HX.out (by omega) (by intro e; rw [e] at hlt; simp at hlt)
        obtain ⟨x, hx⟩ : ∃ x, xss[i]? = some x := ⟨xss[i], List.getElem?_eq_getElem hlt⟩
        obtain ⟨u, hu, ⟨rfl, hx4, hxb⟩, hc⟩ := hcell i x hx
        have HCL := Lib.hid (fun W (hW : Ext W1 W) q (hq : q < 4) => (Ext.trans HW1.out.1 hW).cell ((hc q hq).trans (show _ = some (Value.int .i8 (x.getD q 0)) by rw [List.getElem?_map, List.getD_eq_getElem?_getD, List.getElem?_eq_getElem (by omega)]; rfl)))
        have HXB : Hid (∀ q, -128 ≤ x.getD q 0 ∧ x.getD q 0 ≤ 127) := fun q => by
          rw [List.getD_eq_getElem?_getD]
          cases hq : x[q]? with
          | none => decide
          | some y => exact hxb y (List.mem_of_getElem? hq)
        clear hcell hc hu hxb HF HX
        go_wp2_with fail
        rw [show decide ((i : Int) < 4) = true from decide_eq_true (by omega)]
        have HL := Lib.hid (BuildS.lit (base := W1.heap.size) (e := 3) (k := 1) (R := intR) wo S [] [] HE.out.size rfl (by simp) (by simp) (by simp))
        have hEA : Ext wo (wo.alloc (.cells #[] 3)) := Ext.alloc _ _
        have hgA : wo.grownBy (wo.alloc (.cells #[] 3)) none := ⟨hEA.os, hEA.tape, hEA.output, hEA.size, fun k hk _ => hEA.block k hk⟩
        have HB1 := Lib.hid (HB.out.other (S' := fun b => S b ∨ b = wo.heap.size) hgA (fun b hb => by cases hb) (fun b _ hb => by cases hb) (fun k hk => by rcases hk with hk | hk; exact .inl hk; exact .inr (by omega)) (fun k hk => .inl hk))
        have HE1 : Hid (Ext W1 (wo.alloc (.cells #[] 3))) := Ext.trans HE.out hEA
        have HOK1 : Hid (SOk (fun b => S b ∨ b = wo.heap.size) W1.heap.size (wo.alloc (.cells #[] 3))) := fun b hb => by
          have := HE.out.size
          rcases hb with hb | hb
          · have := HOK.out b hb; simp; omega
          · simp; omega
        clear hEA hgA HE HOK HB g1
        go_loopw [7, 8] (fun r t wq => ∃ (k : Nat) (S1 : Nat → Prop), t = .int .i64 k ∧ k ≤ n ∧ Hid (Ext W1 wq) ∧ Hid (SOk S1 W1.heap.size wq) ∧ Hid (BuildS wq S1 W1.heap.size 39 1 u5 rowR (rowsT n i xss)) ∧ Hid (BuildS wq S1 W1.heap.size 3 1 r intR (row9 k x))) (fun _ t _ => n - (intOf t).toNat)
        case atStart => exact ⟨0, _, rfl, by omega, HE1.out, HOK1.out, HB1.out, HL.out⟩
        case round =>
          clear HE1 HOK1 HB1 HL
          obtain ⟨k, S1, rfl, hkn, HE, HOK, HB, HR⟩ := hrel
          obtain ⟨wq, rfl⟩ : ∃ wq : World, wq = wr := ⟨_, rfl⟩
          have g1 := HE.out.cell HW1.out.2
          by_cases hk : k < n
          · have g2 := HCL.out wq HE.out k (by omega)
            obtain ⟨y, hy⟩ : ∃ y, x.getD k 0 = y := ⟨_, rfl⟩
            have hyb := HXB.out k
            rw [hy] at g2 hyb
            rw [← Nat.add_assoc] at g2
            have hyr := tmod_bd y 10 (by decide)
            have hxk : x[k]? = some y := by
              rw [List.getD_eq_getElem?_getD, List.getElem?_eq_getElem (by omega)] at hy
              rw [List.getElem?_eq_getElem (by omega)]; rw [← hy]; rfl
            have HT := Lib.hid (row9_succ hxk)
            have hkl : (row9 k x).length < 1000000 := by rw [row9_len (by omega)]; omega
            have HKL := Lib.hid hkl
            have hs1 := HE.out.size
            clear hkl hy hxk
            obtain ⟨z, hz⟩ : ∃ z, y.tmod 10 = z := ⟨_, rfl⟩
            rw [hz] at hyr HT
            go_wp2_with (at_builtin; go_must (refine wpList_append_buildS _ rfl _ _ 39 rfl S1 W1.heap.size 3 (.int .i64 0) 1 8 Tryz.underlying39 infoInt rfl (by decide) u7 intR (row9 k x) z #[.int .i64 z] 3 rfl HR.out _ rfl rfl rfl ?a1 ?a2 HKL.out ?a3 hs1 W1.heap.size (Nat.le_refl _) HOK.out ?_))
            case a1 => simp [Value.oneCell']
            case a2 => exact fun _ _ => ⟨rfl, by omega, by omega⟩
            case a3 => omega
            intro r' w2 S2 hok2 hS1 hS2 hR2 hg2 hb2 hs2 hsafe
            have HOK2 := Lib.hid hok2
            have HB2 := Lib.hid (HB.out.other (S' := S2) hg2 HR.out.1 (BuildS.apart HB.out HR.out (by decide)) (by simpa using hS2) hS1)
            have HE2 : Hid (Ext W1 w2) := Below.trans HE.out hb2
            rw [← HT.out] at hR2
            have HR2 := Lib.hid hR2
            clear hok2 hS1 hS2 hR2 hg2 hb2 hs2 hsafe
            go_wp2_with fail
            go_roundw
            case rel => exact ⟨k + 1, S2, by go_num, by omega, HE2.out, HOK2.out, HB2.out, HR2.out⟩
            case measure => simp [intOf]; omega
          · obtain rfl : k = n := by omega
            have hrl := row9_len (n := k) (x := x) (by omega)
            obtain ⟨gc, capc, rfl, hgc1, hgc2, hgc3, hgc4⟩ := HR.out.shape (by omega)
            have hne := BuildS.apart HB.out HR.out (by decide)
            have HRS := Lib.hid (HR.out.finish rfl)
            have HB1 := Lib.hid (HB.out.drop (g := gc) (fun e => hne _ e rfl))
            have HOK1 : Hid (SOk (fun b => S1 b ∧ b ≠ gc) W1.heap.size wq) := fun b hb => HOK.out b hb.1
            have HT := Lib.hid (rowsT_succ (n := k) hx)
            have hil2 : (rowsT k i xss).length < 1000000 := by rw [rowsT_len k i xss hil]; omega
            have HIL := Lib.hid hil2
            have hs1 := HE.out.size
            generalize (fun b => S1 b ∧ b ≠ gc) = S2 at *
            rw [hrl] at HRS hgc3
            rw [hrl]
            clear hne HB HR HOK hil2 hgc4
            go_wp2_with (at_builtin; go_must (refine wpList_append_buildS _ rfl _ _ 28 rfl S2 W1.heap.size 39 (.slice none 0 0) 1 24 Tryz.underlying28 infoRow rfl (by decide) u5 rowR (rowsT k i xss) (row9 k x) #[.slice (some ⟨gc, 0, none⟩) k capc] 39 rfl HB1.out _ rfl rfl rfl ?b1 (HRS.out.mono (fun w h => ⟨_, rfl, h⟩)) HIL.out ?b3 hs1 W1.heap.size (Nat.le_refl _) HOK1.out ?_))
            case b1 => simp [Value.oneCell']
            case b3 => omega
            intro v' w2 S3 hok3 hS31 hS32 hB3 hg3 hb3 hs3 hsafe3
            rw [← HT.out] at hB3
            have HB3 := Lib.hid hB3
            have HOK3 := Lib.hid hok3
            have HE3 : Hid (Ext W1 w2) := Below.trans HE.out hb3
            clear hok3 hS31 hS32 hB3 hg3 hb3 hs3 hsafe3
            go_wp2_with fail
            go_roundw
            case rel => exact ⟨i + 1, S3, by go_num, by omega, by omega, HE3.out, HOK3.out, HB3.out⟩
            case measure => simp [intOf]; omega
      · obtain rfl : i = 4 := by omega
        have HBL := Lib.hid HB.out.list
        clear HB HX
        go_wp2_with fail
        go_ret2
        exact ⟨_, rfl, HBL.out, Ext.trans HW1.out.1 HE.out⟩
    · have hTT : rowsT n i xss = rowsT n 4 xss := by unfold rowsT; rw [List.take_of_length_le (by omega), List.take_of_length_le (by omega)]
      rw [hTT] at HB
      have HBL := Lib.hid HB.out.list
      clear HB HX
      go_wp2_with fail
      go_ret2
      exact ⟨_, rfl, HBL.out, Ext.trans HW1.out.1 HE.out⟩
end Go.Proofs.YtehknemdfbkimaaGreatDoor
/- Rows of ints in blocks of their own, that a loop fills; law 09's fits. -/
namespace Go.Proofs.YtehknemdfbkimaaGreatDoor
set_option linter.unusedVariables false
set_option linter.unusedSimpArgs false
open Go.RowKit

/-- A row of ints at a block. -/
structure RowF (w : World) (g : Nat) (xs : List Int) : Prop where
  lt : g < w.heap.size
  cell : ∀ (j : Nat) x, xs[j]? = some x → w.cell? ⟨g, j, none⟩ = some (.int .i64 x)
  free : ∀ j, w.frozen? ⟨g, j, none⟩ = false
theorem RowF.same {w w' : World} {g : Nat} {xs : List Int} (h : RowF w g xs) (hs : w.heap.size ≤ w'.heap.size) (hg : w'.heap[g]? = w.heap[g]?) : RowF w' g xs :=
  ⟨Nat.lt_of_lt_of_le h.lt hs, fun j x hx => by rw [← h.cell j x hx]; unfold World.cell?; simp only [hg], fun j => by rw [← h.free j]; unfold World.frozen?; simp only [hg]⟩
theorem RowF.ext {w w' : World} {g : Nat} {xs : List Int} (h : RowF w g xs) (he : Ext w w') : RowF w' g xs := h.same he.size (he.block g h.lt)
theorem RowF.other {w : World} {g b i : Nat} {xs : List Int} (h : RowF w g xs) (hne : g ≠ b) (y : Value) : RowF (w.setCell ⟨b, i, none⟩ y) g xs :=
  h.same (by simp [World.setCell]) (Below.heap_setCell _ _ _ _ hne)
theorem RowF.set {w : World} {g : Nat} {xs : List Int} (h : RowF w g xs) (k : Nat) (hk : k < xs.length) (y : Int) : RowF (w.setCell ⟨g, k, none⟩ (.int .i64 y)) g (xs.set k y) := by
  refine ⟨by simp only [World.setCell, Array.size_modify]; exact h.lt, fun j x hj => ?_, fun j => ?_⟩
  · rw [List.getElem?_set] at hj
    by_cases e : k = j
    · subst e
      rw [if_pos rfl, if_pos hk] at hj
      cases hj
      exact World.cell?_setCell_same w _ _ (h.cell k _ (List.getElem?_eq_getElem hk))
    · rw [if_neg e] at hj
      rw [World.cell?_setCell_other _ _ _ _ (by intro e2; simp only [Addr.mk.injEq] at e2; omega)]
      exact h.cell j x hj
  · rw [← h.free j]; exact World.frozen?_setCell ..
theorem RowF.ints {w : World} {g m : Nat} {xs : List Int} (h : RowF w g xs) (hm : xs.length ≤ m) (hm2 : m ≤ maxLen) (hb : ∀ x ∈ xs, -9223372036854775808 ≤ x ∧ x ≤ 9223372036854775807) : Ints w (.slice (some ⟨g, 0, none⟩) xs.length m) xs := by
  refine ⟨xs.map fun x => [Value.int .i64 x], by simp, by intro u hu; obtain ⟨x, _, rfl⟩ := List.mem_map.1 hu; rfl, ?_, fun j u x hu hx => ?_⟩
  · refine ⟨some ⟨g, 0, none⟩, m, rfl, hm, hm2, (fun e => by cases e), fun _ => ⟨g, 0, rfl, h.lt, fun j u hu => ?_⟩⟩
    rw [flatten_one, List.getElem?_map] at hu
    cases hx : xs[j]? with
    | none => rw [hx] at hu; cases hu
    | some x => rw [hx] at hu; cases hu; rw [Nat.zero_add]; exact h.cell j x hx
  · rw [List.getElem?_map, hx] at hu
    cases hu
    exact ⟨rfl, hb x (List.mem_of_getElem? hx)⟩

set_option maxRecDepth 100000 in
set_option maxHeartbeats 1000000 in
theorem fits9_any (v0 v1 : Value) (a b : Option Addr) (l m c d : Nat) (w : World) :
    Calls Tryz.prog 16 #[.agg #[v0, .slice a l c], .agg #[v1, .slice b m d]] w fun e w' => e = .returned (.bool (decide (l ≤ 4) && decide (m ≤ 4))) ∧ Ext w w' := by
  go_enter Tryz.func16, Tryz.ntmps16
  by_cases h1 : l ≤ 4
  · by_cases h2 : m ≤ 4
    · have e1 := decide_eq_true h1; have e2 := decide_eq_true h2
      rw [e1, e2]
      go_wp2_with fail
      go_ret
      exact ⟨by simp; omega, (Ext.alloc _ _).trans (Ext.alloc _ _)⟩
    · have e1 := decide_eq_true h1; have e2 := decide_eq_false h2
      rw [e1, e2]
      go_wp2_with fail
      go_ret
      exact ⟨by simp; omega, (Ext.alloc _ _).trans (Ext.alloc _ _)⟩
  · have e1 := decide_eq_false h1
    rw [e1]
    go_wp2_with fail
    go_ret
    exact ⟨by simp, (Ext.alloc _ _).trans (Ext.alloc _ _)⟩
end Go.Proofs.YtehknemdfbkimaaGreatDoor
