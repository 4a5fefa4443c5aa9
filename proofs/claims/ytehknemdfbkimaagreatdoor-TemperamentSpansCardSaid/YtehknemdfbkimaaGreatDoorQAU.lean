/- Merged: LatErr, Behind. -/
import Derived.Test.YtehknemdfbkimaaGreatDoorQAR
import Derived.Test.YtehknemdfbkimaaGreatDoorQAT
/- What the functions of package lattice return where their arguments are wrong. Printed by gen/laterr.py. -/
namespace Go.Proofs.YtehknemdfbkimaaGreatDoor
set_option linter.unusedVariables false
set_option linter.unusedSimpArgs false
open Go.RowKit

set_option maxRecDepth 100000 in
set_option maxHeartbeats 2000000 in
theorem contains_bad (n : Int) (xss : List (List Int)) (x : List Int) (v vx : Value) (w : World) (h : LatV w v n xss) (hx : Ints w vx x) (hE : rowLE n xss x ≠ 0) :
    Calls Tryz.prog 25 #[v, vx] w fun e w' => e = .returned (.tuple #[.bool false, .int .i64 (rowLE n xss x)]) ∧ Ext w w' := by
  have HC := Lib.hid (fun W (hW : Ext w W) => checkRow_any n xss x v vx W (h.ext hW) (hx.ext hW))
  obtain ⟨E, hEE⟩ : ∃ E, rowLE n xss x = E := ⟨_, rfl⟩
  rw [hEE] at HC hE ⊢
  clear hEE
  obtain ⟨u0, rfl, hu⟩ := h
  obtain ⟨a, c, rfl, h1, h2, -, hc⟩ := inCell.open hu
  clear hu hc
  obtain ⟨ax, cx, rfl, x1, x2, -, -, xc⟩ := hx.open
  clear xc hx
  go_enter Tryz.func25, Tryz.ntmps25
  obtain ⟨W1, hW1, hE1, hs1, hb1⟩ := lat_new w (.int .i64 n) (.slice a xss.length c)
  have HB1 := Lib.hid hb1
  have HE := Lib.hid hE1
  have z1 : W1.heap.size = w.heap.size + 1 := by omega
  clear hE1 hs1 hb1
  obtain ⟨e10, e11, -⟩ := lat_block HB1.out
  go_wp2_with fail
  refine (HC.out _ HE.out).mono ?_
  rintro e w5 ⟨rfl, hE5⟩
  have HX := Lib.hid (HE.out.trans hE5)
  clear hE5 HC
  go_wp2_with fail
  go_ret2
  exact ⟨rfl, HX.out⟩

set_option maxRecDepth 100000 in
set_option maxHeartbeats 2000000 in
theorem coords_bad (n : Int) (xss : List (List Int)) (x : List Int) (v vx : Value) (w : World) (h : LatV w v n xss) (hx : Ints w vx x) (hE : rowLE n xss x ≠ 0) :
    Calls Tryz.prog 26 #[v, vx] w fun e w' => e = .returned (.tuple #[.slice none 0 0, .int .i64 (rowLE n xss x)]) ∧ Ext w w' := by
  have HC := Lib.hid (fun W (hW : Ext w W) => checkRow_any n xss x v vx W (h.ext hW) (hx.ext hW))
  obtain ⟨E, hEE⟩ : ∃ E, rowLE n xss x = E := ⟨_, rfl⟩
  rw [hEE] at HC hE ⊢
  clear hEE
  obtain ⟨u0, rfl, hu⟩ := h
  obtain ⟨a, c, rfl, h1, h2, -, hc⟩ := inCell.open hu
  clear hu hc
  obtain ⟨ax, cx, rfl, x1, x2, -, -, xc⟩ := hx.open
  clear xc hx
  go_enter Tryz.func26, Tryz.ntmps26
  obtain ⟨W1, hW1, hE1, hs1, hb1⟩ := lat_new w (.int .i64 n) (.slice a xss.length c)
  have HB1 := Lib.hid hb1
  have HE := Lib.hid hE1
  have z1 : W1.heap.size = w.heap.size + 1 := by omega
  clear hE1 hs1 hb1
  obtain ⟨e10, e11, -⟩ := lat_block HB1.out
  go_wp2_with fail
  refine (HC.out _ HE.out).mono ?_
  rintro e w5 ⟨rfl, hE5⟩
  have HX := Lib.hid (HE.out.trans hE5)
  clear hE5 HC
  go_wp2_with fail
  go_ret2
  exact ⟨rfl, HX.out⟩

set_option maxRecDepth 100000 in
set_option maxHeartbeats 2000000 in
theorem repr_bad (n : Int) (xss : List (List Int)) (x : List Int) (v vx : Value) (w : World) (h : LatV w v n xss) (hx : Ints w vx x) (hE : rowLE n xss x ≠ 0) :
    Calls Tryz.prog 27 #[v, vx] w fun e w' => e = .returned (.tuple #[.slice none 0 0, .int .i64 (rowLE n xss x)]) ∧ Ext w w' := by
  have HC := Lib.hid (fun W (hW : Ext w W) => checkRow_any n xss x v vx W (h.ext hW) (hx.ext hW))
  obtain ⟨E, hEE⟩ : ∃ E, rowLE n xss x = E := ⟨_, rfl⟩
  rw [hEE] at HC hE ⊢
  clear hEE
  obtain ⟨u0, rfl, hu⟩ := h
  obtain ⟨a, c, rfl, h1, h2, -, hc⟩ := inCell.open hu
  clear hu hc
  obtain ⟨ax, cx, rfl, x1, x2, -, -, xc⟩ := hx.open
  clear xc hx
  go_enter Tryz.func27, Tryz.ntmps27
  obtain ⟨W1, hW1, hE1, hs1, hb1⟩ := lat_new w (.int .i64 n) (.slice a xss.length c)
  have HB1 := Lib.hid hb1
  have HE := Lib.hid hE1
  have z1 : W1.heap.size = w.heap.size + 1 := by omega
  clear hE1 hs1 hb1
  obtain ⟨e10, e11, -⟩ := lat_block HB1.out
  go_wp2_with fail
  refine (HC.out _ HE.out).mono ?_
  rintro e w5 ⟨rfl, hE5⟩
  have HX := Lib.hid (HE.out.trans hE5)
  clear hE5 HC
  go_wp2_with fail
  go_ret2
  exact ⟨rfl, HX.out⟩

set_option maxRecDepth 100000 in
set_option maxHeartbeats 2000000 in
theorem within_bad (n : Int) (xss : List (List Int)) (k : Int) (yss : List (List Int)) (v u : Value) (w : World) (h : LatV w v n xss) (h' : LatV w u k yss) (hE : bothE n xss k yss ≠ 0) :
    Calls Tryz.prog 35 #[v, u] w fun e w' => e = .returned (.tuple #[.bool false, .int .i64 (bothE n xss k yss)]) ∧ Ext w w' := by
  have HC := Lib.hid (fun W (hW : Ext w W) => checkBoth_any n k xss yss v u W (h.ext hW) (h'.ext hW))
  obtain ⟨E, hEE⟩ : ∃ E, bothE n xss k yss = E := ⟨_, rfl⟩
  rw [hEE] at HC hE ⊢
  clear hEE
  obtain ⟨u0, rfl, hu⟩ := h
  obtain ⟨a, c, rfl, h1, h2, -, hc⟩ := inCell.open hu
  clear hu hc
  obtain ⟨u1, rfl, hu'⟩ := h'
  obtain ⟨a', c', rfl, k1, k2, -, kc⟩ := inCell.open hu'
  clear hu' kc
  go_enter Tryz.func35, Tryz.ntmps35
  obtain ⟨W1, hW1, hE1, hs1, hb1⟩ := lat_new w (.int .i64 n) (.slice a xss.length c)
  obtain ⟨W2, hW2, hE2, hs2, hb2⟩ := lat_new W1 (.int .i64 k) (.slice a' yss.length c')
  have HB1 := Lib.hid (block_ext hb1 hE2)
  have HB2 := Lib.hid hb2
  have HE := Lib.hid (hE1.trans hE2)
  have z1 : W1.heap.size = w.heap.size + 1 := by omega
  have z2 : W2.heap.size = w.heap.size + 1 + 1 := by omega
  rw [z1] at HB2
  clear hE1 hs1 hb1 hE2 hs2 hb2
  obtain ⟨e10, e11, -⟩ := lat_block HB1.out
  obtain ⟨e20, e21, -⟩ := lat_block HB2.out
  go_wp2_with fail
  refine (HC.out _ HE.out).mono ?_
  rintro e w5 ⟨rfl, hE5⟩
  have HX := Lib.hid (HE.out.trans hE5)
  clear hE5 HC
  go_wp2_with fail
  go_ret2
  exact ⟨rfl, HX.out⟩

set_option maxRecDepth 100000 in
set_option maxHeartbeats 2000000 in
theorem sum_bad (n : Int) (xss : List (List Int)) (k : Int) (yss : List (List Int)) (v u : Value) (w : World) (h : LatV w v n xss) (h' : LatV w u k yss) (hE : bothE n xss k yss ≠ 0) :
    Calls Tryz.prog 33 #[v, u] w fun e w' => e = .returned (.tuple #[.agg #[.int .i64 0, .slice none 0 0], .int .i64 (bothE n xss k yss)]) ∧ Ext w w' := by
  have HC := Lib.hid (fun W (hW : Ext w W) => checkBoth_any n k xss yss v u W (h.ext hW) (h'.ext hW))
  obtain ⟨E, hEE⟩ : ∃ E, bothE n xss k yss = E := ⟨_, rfl⟩
  rw [hEE] at HC hE ⊢
  clear hEE
  obtain ⟨u0, rfl, hu⟩ := h
  obtain ⟨a, c, rfl, h1, h2, -, hc⟩ := inCell.open hu
  clear hu hc
  obtain ⟨u1, rfl, hu'⟩ := h'
  obtain ⟨a', c', rfl, k1, k2, -, kc⟩ := inCell.open hu'
  clear hu' kc
  go_enter Tryz.func33, Tryz.ntmps33
  obtain ⟨W1, hW1, hE1, hs1, hb1⟩ := lat_new w (.int .i64 n) (.slice a xss.length c)
  obtain ⟨W2, hW2, hE2, hs2, hb2⟩ := lat_new W1 (.int .i64 k) (.slice a' yss.length c')
  obtain ⟨W3, hW3, hE3, hs3, hb3⟩ := lat_new W2 (.int .i64 0) (.slice none 0 0)
  have HB1 := Lib.hid (block_ext (block_ext hb1 hE2) hE3)
  have HB2 := Lib.hid (block_ext hb2 hE3)
  have HB3 := Lib.hid hb3
  have HE := Lib.hid (hE1.trans (hE2.trans hE3))
  have z1 : W1.heap.size = w.heap.size + 1 := by omega
  have z2 : W2.heap.size = w.heap.size + 1 + 1 := by omega
  have z3 : W3.heap.size = w.heap.size + 1 + 1 + 1 := by omega
  rw [z1] at HB2
  rw [z2] at HB3
  clear hE1 hs1 hb1 hE2 hs2 hb2 hE3 hs3 hb3
  obtain ⟨e10, e11, -⟩ := lat_block HB1.out
  obtain ⟨e20, e21, -⟩ := lat_block HB2.out
  go_wp2_with fail
  refine (HC.out _ HE.out).mono ?_
  rintro e w5 ⟨rfl, hE5⟩
  have hr := block_ext HB3.out hE5
  obtain ⟨r0, r1, rf⟩ := lat_block hr
  have f0 := rf 0; have f1 := rf 1
  have hkA := lat_store hr (.int .i64 0) (.slice none 0 0)
  have HX := Lib.hid (ext_lat (HE.out.trans hE5) (show w.heap.size ≤ w.heap.size + 1 + 1 by omega) (.int .i64 0) (.slice none 0 0))
  clear rf
  clear hE5 HC
  go_wp2_with fail
  refine bodyPost_ret (results_rowtmp (by rfl) _ _ (w.heap.size + 1 + 1) 30 #[.int .i64 0, .slice none 0 0] (0, 0) _ (by rfl) hkA Tryz.underlying30 (by rfl) (by kernel_rfl)) (by rfl) ⟨rfl, HX.out⟩

set_option maxRecDepth 100000 in
set_option maxHeartbeats 2000000 in
theorem intersect_bad (n : Int) (xss : List (List Int)) (k : Int) (yss : List (List Int)) (v u : Value) (w : World) (h : LatV w v n xss) (h' : LatV w u k yss) (hE : bothE n xss k yss ≠ 0) :
    Calls Tryz.prog 34 #[v, u] w fun e w' => e = .returned (.tuple #[.agg #[.int .i64 0, .slice none 0 0], .int .i64 (bothE n xss k yss)]) ∧ Ext w w' := by
  have HC := Lib.hid (fun W (hW : Ext w W) => checkBoth_any n k xss yss v u W (h.ext hW) (h'.ext hW))
  obtain ⟨E, hEE⟩ : ∃ E, bothE n xss k yss = E := ⟨_, rfl⟩
  rw [hEE] at HC hE ⊢
  clear hEE
  obtain ⟨u0, rfl, hu⟩ := h
  obtain ⟨a, c, rfl, h1, h2, -, hc⟩ := inCell.open hu
  clear hu hc
  obtain ⟨u1, rfl, hu'⟩ := h'
  obtain ⟨a', c', rfl, k1, k2, -, kc⟩ := inCell.open hu'
  clear hu' kc
  go_enter Tryz.func34, Tryz.ntmps34
  obtain ⟨W1, hW1, hE1, hs1, hb1⟩ := lat_new w (.int .i64 n) (.slice a xss.length c)
  obtain ⟨W2, hW2, hE2, hs2, hb2⟩ := lat_new W1 (.int .i64 k) (.slice a' yss.length c')
  obtain ⟨W3, hW3, hE3, hs3, hb3⟩ := lat_new W2 (.int .i64 0) (.slice none 0 0)
  have HB1 := Lib.hid (block_ext (block_ext hb1 hE2) hE3)
  have HB2 := Lib.hid (block_ext hb2 hE3)
  have HB3 := Lib.hid hb3
  have HE := Lib.hid (hE1.trans (hE2.trans hE3))
  have z1 : W1.heap.size = w.heap.size + 1 := by omega
  have z2 : W2.heap.size = w.heap.size + 1 + 1 := by omega
  have z3 : W3.heap.size = w.heap.size + 1 + 1 + 1 := by omega
  rw [z1] at HB2
  rw [z2] at HB3
  clear hE1 hs1 hb1 hE2 hs2 hb2 hE3 hs3 hb3
  obtain ⟨e10, e11, -⟩ := lat_block HB1.out
  obtain ⟨e20, e21, -⟩ := lat_block HB2.out
  go_wp2_with fail
  refine (HC.out _ HE.out).mono ?_
  rintro e w5 ⟨rfl, hE5⟩
  have hr := block_ext HB3.out hE5
  obtain ⟨r0, r1, rf⟩ := lat_block hr
  have f0 := rf 0; have f1 := rf 1
  have hkA := lat_store hr (.int .i64 0) (.slice none 0 0)
  have HX := Lib.hid (ext_lat (HE.out.trans hE5) (show w.heap.size ≤ w.heap.size + 1 + 1 by omega) (.int .i64 0) (.slice none 0 0))
  clear rf
  clear hE5 HC
  go_wp2_with fail
  refine bodyPost_ret (results_rowtmp (by rfl) _ _ (w.heap.size + 1 + 1) 30 #[.int .i64 0, .slice none 0 0] (0, 0) _ (by rfl) hkA Tryz.underlying30 (by rfl) (by kernel_rfl)) (by rfl) ⟨rfl, HX.out⟩

set_option maxRecDepth 100000 in
set_option maxHeartbeats 2000000 in
theorem sat_bad (n : Int) (xss : List (List Int)) (v : Value) (w : World) (h : LatV w v n xss) (hE : chkE n xss ≠ 0) :
    Calls Tryz.prog 18 #[v] w fun e w' => e = .returned (.tuple #[.agg #[.int .i64 0, .slice none 0 0], .int .i64 (chkE n xss)]) ∧ Ext w w' := by
  have HC := Lib.hid (fun W (hW : Ext w W) => latChk_any n xss v W (h.ext hW))
  obtain ⟨E, hEE⟩ : ∃ E, chkE n xss = E := ⟨_, rfl⟩
  rw [hEE] at HC hE ⊢
  clear hEE
  obtain ⟨u0, rfl, hu⟩ := h
  obtain ⟨a, c, rfl, h1, h2, -, hc⟩ := inCell.open hu
  clear hu hc
  go_enter Tryz.func18, Tryz.ntmps18
  obtain ⟨W1, hW1, hE1, hs1, hb1⟩ := lat_new w (.int .i64 n) (.slice a xss.length c)
  obtain ⟨W2, hW2, hE2, hs2, hb2⟩ := lat_new W1 (.int .i64 0) (.slice none 0 0)
  have HB1 := Lib.hid (block_ext hb1 hE2)
  have HB2 := Lib.hid hb2
  have HE := Lib.hid (hE1.trans hE2)
  have z1 : W1.heap.size = w.heap.size + 1 := by omega
  have z2 : W2.heap.size = w.heap.size + 1 + 1 := by omega
  rw [z1] at HB2
  clear hE1 hs1 hb1 hE2 hs2 hb2
  obtain ⟨e10, e11, -⟩ := lat_block HB1.out
  go_wp2_with fail
  refine (HC.out _ HE.out).mono ?_
  rintro e w5 ⟨rfl, hE5⟩
  have hr := block_ext HB2.out hE5
  obtain ⟨r0, r1, rf⟩ := lat_block hr
  have f0 := rf 0; have f1 := rf 1
  have hkA := lat_store hr (.int .i64 0) (.slice none 0 0)
  have HX := Lib.hid (ext_lat (HE.out.trans hE5) (show w.heap.size ≤ w.heap.size + 1 by omega) (.int .i64 0) (.slice none 0 0))
  clear rf
  clear hE5 HC
  go_wp2_with fail
  refine bodyPost_ret (results_rowtmp (by rfl) _ _ (w.heap.size + 1) 30 #[.int .i64 0, .slice none 0 0] (0, 0) _ (by rfl) hkA Tryz.underlying30 (by rfl) (by kernel_rfl)) (by rfl) ⟨rfl, HX.out⟩

set_option maxRecDepth 100000 in
set_option maxHeartbeats 2000000 in
theorem ann_bad (n : Int) (xss : List (List Int)) (v : Value) (w : World) (h : LatV w v n xss) (hE : chkE n xss ≠ 0) :
    Calls Tryz.prog 19 #[v] w fun e w' => e = .returned (.tuple #[.agg #[.int .i64 0, .slice none 0 0], .int .i64 (chkE n xss)]) ∧ Ext w w' := by
  have HC := Lib.hid (fun W (hW : Ext w W) => latChk_any n xss v W (h.ext hW))
  obtain ⟨E, hEE⟩ : ∃ E, chkE n xss = E := ⟨_, rfl⟩
  rw [hEE] at HC hE ⊢
  clear hEE
  obtain ⟨u0, rfl, hu⟩ := h
  obtain ⟨a, c, rfl, h1, h2, -, hc⟩ := inCell.open hu
  clear hu hc
  go_enter Tryz.func19, Tryz.ntmps19
  obtain ⟨W1, hW1, hE1, hs1, hb1⟩ := lat_new w (.int .i64 n) (.slice a xss.length c)
  obtain ⟨W2, hW2, hE2, hs2, hb2⟩ := lat_new W1 (.int .i64 0) (.slice none 0 0)
  have HB1 := Lib.hid (block_ext hb1 hE2)
  have HB2 := Lib.hid hb2
  have HE := Lib.hid (hE1.trans hE2)
  have z1 : W1.heap.size = w.heap.size + 1 := by omega
  have z2 : W2.heap.size = w.heap.size + 1 + 1 := by omega
  rw [z1] at HB2
  clear hE1 hs1 hb1 hE2 hs2 hb2
  obtain ⟨e10, e11, -⟩ := lat_block HB1.out
  go_wp2_with fail
  refine (HC.out _ HE.out).mono ?_
  rintro e w5 ⟨rfl, hE5⟩
  have hr := block_ext HB2.out hE5
  obtain ⟨r0, r1, rf⟩ := lat_block hr
  have f0 := rf 0; have f1 := rf 1
  have hkA := lat_store hr (.int .i64 0) (.slice none 0 0)
  have HX := Lib.hid (ext_lat (HE.out.trans hE5) (show w.heap.size ≤ w.heap.size + 1 by omega) (.int .i64 0) (.slice none 0 0))
  clear rf
  clear hE5 HC
  go_wp2_with fail
  refine bodyPost_ret (results_rowtmp (by rfl) _ _ (w.heap.size + 1) 30 #[.int .i64 0, .slice none 0 0] (0, 0) _ (by rfl) hkA Tryz.underlying30 (by rfl) (by kernel_rfl)) (by rfl) ⟨rfl, HX.out⟩

set_option maxRecDepth 100000 in
set_option maxHeartbeats 2000000 in
theorem index_bad (n : Int) (xss : List (List Int)) (v : Value) (w : World) (h : LatV w v n xss) (hE : chkE n xss ≠ 0) :
    Calls Tryz.prog 20 #[v] w fun e w' => e = .returned (.tuple #[.int .i64 0, .int .i64 (chkE n xss)]) ∧ Ext w w' := by
  have HC := Lib.hid (fun W (hW : Ext w W) => latChk_any n xss v W (h.ext hW))
  obtain ⟨E, hEE⟩ : ∃ E, chkE n xss = E := ⟨_, rfl⟩
  rw [hEE] at HC hE ⊢
  clear hEE
  obtain ⟨u0, rfl, hu⟩ := h
  obtain ⟨a, c, rfl, h1, h2, -, hc⟩ := inCell.open hu
  clear hu hc
  go_enter Tryz.func20, Tryz.ntmps20
  obtain ⟨W1, hW1, hE1, hs1, hb1⟩ := lat_new w (.int .i64 n) (.slice a xss.length c)
  have HB1 := Lib.hid hb1
  have HE := Lib.hid hE1
  have z1 : W1.heap.size = w.heap.size + 1 := by omega
  clear hE1 hs1 hb1
  obtain ⟨e10, e11, -⟩ := lat_block HB1.out
  go_wp2_with fail
  refine (HC.out _ HE.out).mono ?_
  rintro e w5 ⟨rfl, hE5⟩
  have HX := Lib.hid (HE.out.trans hE5)
  clear hE5 HC
  go_wp2_with fail
  go_ret2
  exact ⟨rfl, HX.out⟩

set_option maxRecDepth 100000 in
set_option maxHeartbeats 2000000 in
theorem box_bad (n : Int) (xss : List (List Int)) (m : Int) (v : Value) (w : World) (h : LatV w v n xss) (hE : chkE n xss ≠ 0) :
    Calls Tryz.prog 32 #[v, .int .i64 m] w fun e w' => e = .returned (.tuple #[.slice none 0 0, .int .i64 (chkE n xss)]) ∧ Ext w w' := by
  have HC := Lib.hid (fun W (hW : Ext w W) => latChk_any n xss v W (h.ext hW))
  obtain ⟨E, hEE⟩ : ∃ E, chkE n xss = E := ⟨_, rfl⟩
  rw [hEE] at HC hE ⊢
  clear hEE
  obtain ⟨u0, rfl, hu⟩ := h
  obtain ⟨a, c, rfl, h1, h2, -, hc⟩ := inCell.open hu
  clear hu hc
  go_enter Tryz.func32, Tryz.ntmps32
  obtain ⟨W1, hW1, hE1, hs1, hb1⟩ := lat_new w (.int .i64 n) (.slice a xss.length c)
  have HB1 := Lib.hid hb1
  have HE := Lib.hid hE1
  have z1 : W1.heap.size = w.heap.size + 1 := by omega
  clear hE1 hs1 hb1
  obtain ⟨e10, e11, -⟩ := lat_block HB1.out
  go_wp2_with fail
  refine (HC.out _ HE.out).mono ?_
  rintro e w5 ⟨rfl, hE5⟩
  have HX := Lib.hid (HE.out.trans hE5)
  clear hE5 HC
  go_wp2_with fail
  go_ret2
  exact ⟨rfl, HX.out⟩

set_option maxRecDepth 100000 in
set_option maxHeartbeats 2000000 in
theorem of_bad (n : Int) (xss : List (List Int)) (v : Value) (w : World) (h : Rows2 w v xss) (hE : latE n xss ≠ 0) :
    Calls Tryz.prog 70 #[.int .i64 n, v] w fun e w' => e = .returned (.tuple #[.agg #[.int .i64 0, .slice none 0 0], .int .i64 (latE n xss)]) ∧ Ext w w' := by
  have HC := Lib.hid (fun W (hW : Ext w W) => latCheck_any xss n v W (h.ext hW))
  obtain ⟨E, hEE⟩ : ∃ E, latE n xss = E := ⟨_, rfl⟩
  rw [hEE] at HC hE ⊢
  clear hEE
  obtain ⟨a, c, rfl, h1, h2, -, hc⟩ := inCell.open h
  clear h hc
  go_enter Tryz.func70, Tryz.ntmps70
  obtain ⟨W1, hW1, hE1, hs1, hb1⟩ := lat_new w (.int .i64 0) (.slice none 0 0)
  have HB1 := Lib.hid hb1
  have HE := Lib.hid hE1
  have z1 : W1.heap.size = w.heap.size + 1 := by omega
  clear hE1 hs1 hb1
  go_wp2_with fail
  refine (HC.out _ HE.out).mono ?_
  rintro e w5 ⟨rfl, hE5⟩
  have hr := block_ext HB1.out hE5
  obtain ⟨r0, r1, rf⟩ := lat_block hr
  have f0 := rf 0; have f1 := rf 1
  have hkA := lat_store hr (.int .i64 0) (.slice none 0 0)
  have HX := Lib.hid (ext_lat (HE.out.trans hE5) (show w.heap.size ≤ w.heap.size by omega) (.int .i64 0) (.slice none 0 0))
  clear rf
  clear hE5 HC
  go_wp2_with fail
  refine bodyPost_ret (results_rowtmp (by rfl) _ _ (w.heap.size) 30 #[.int .i64 0, .slice none 0 0] (0, 0) _ (by rfl) hkA Tryz.underlying30 (by rfl) (by kernel_rfl)) (by rfl) ⟨rfl, HX.out⟩

end Go.Proofs.YtehknemdfbkimaaGreatDoor
/- The rows of a matrix that begin with zeros, cut: the loop of behind (its rows, before they are brought into normal form). -/
namespace Go.Proofs.YtehknemdfbkimaaGreatDoor
set_option linter.unusedVariables false
set_option linter.unusedSimpArgs false
open Go.RowKit

theorem MatB.take {w : World} {g0 : Nat} {tags : List (Nat × Nat × Nat)} {m : List (List Int)} (h : MatB w g0 tags m) (d : Nat) : MatB w g0 (tags.take d) (m.take d) := by
  refine ⟨by rw [List.length_take, List.length_take, h.len], h.lt, h.free, fun i t r ht hr => ?_, ?_⟩
  · have hi : i < d := by
      have := (List.getElem?_eq_some_iff.1 ht).1
      rw [List.length_take] at this; omega
    rw [List.getElem?_take_of_lt hi] at ht hr
    exact h.row i t r ht hr
  · have hn := List.nodup_cons.1 h.nodup
    rw [List.nodup_cons]
    have hs : ((tags.take d).map (·.1)).Sublist (tags.map (·.1)) := (List.take_sublist d tags).map _
    exact ⟨fun hm => hn.1 (hs.subset hm), hn.2.sublist hs⟩
/-- A row without its first cells. -/
theorem RowB.drop {w : World} {g o : Nat} {xs : List Int} (h : RowB w g o xs) (k : Nat) : RowB w g (o + k) (xs.drop k) :=
  ⟨h.lt, fun j x hx => by
    rw [List.getElem?_drop] at hx
    rw [Nat.add_assoc]; exact h.cell (k + j) x hx, h.free⟩
def cutT (k : Nat) (t : Nat × Nat × Nat) : Nat × Nat × Nat := (t.1, t.2.1 + k, t.2.2 - k)
theorem behindL_snoc (k : Nat) (m : List (List Int)) (r : List Int) : behindL k (m ++ [r]) = behindL k m ++ (if (k : Int) ≤ leadL r then [r.drop k] else []) := by
  unfold behindL
  rw [List.filter_append, List.map_append]
  congr 1
  by_cases h : (k : Int) ≤ leadL r <;> simp [h]
end Go.Proofs.YtehknemdfbkimaaGreatDoor
