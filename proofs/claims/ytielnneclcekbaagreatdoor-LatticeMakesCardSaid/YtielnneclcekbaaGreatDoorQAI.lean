/- Merged: LatA, LatB. -/
import Derived.Test.YtielnneclcekbaaGreatDoorQAH
import Derived.Test.YtielnneclcekbaaGreatDoorQAA
/- Contracts of package lattice: Check, Equal, checkRow, checkBoth. -/
namespace Go.Proofs.YtielnneclcekbaaGreatDoor
set_option linter.unusedVariables false
set_option linter.unusedSimpArgs false
open Go.RowKit

/-- A lattice in memory. -/
def LatV (w : World) (v : Value) (n : Int) (xss : List (List Int)) : Prop := ∃ u, v = .agg #[.int .i64 n, u] ∧ Rows2 w u xss
theorem LatV.ext {w w' : World} {v : Value} {n : Int} {xss : List (List Int)} (h : LatV w v n xss) (he : Ext w w') : LatV w' v n xss := by
  obtain ⟨u, h1, h2⟩ := h; exact ⟨u, h1, h2.ext he⟩
/-- The error of a lattice. -/
def chkE (n : Int) (xss : List (List Int)) : Int := if latE n xss = 0 then (if hermB xss = true then 0 else 7) else latE n xss
theorem allE_rows {n : Int} : ∀ {xss : List (List Int)}, allE n xss = 0 → ∀ r ∈ xss, okRow r ∧ (r.length : Int) = n
  | [], _, r, h => by simp at h
  | x :: l, h, r, hr => by
    unfold allE at h
    by_cases hx : rowE x = 0
    · rw [if_pos hx] at h
      by_cases hn : (x.length : Int) = n
      · rw [if_pos hn] at h
        rcases List.mem_cons.1 hr with rfl | hr
        · exact ⟨(rowE_zero _).1 hx, hn⟩
        · exact allE_rows h r hr
      · rw [if_neg hn] at h; cases h
    · rw [if_neg hx] at h; exact absurd h hx
theorem latE_rows {n : Int} {xss : List (List Int)} (h : latE n xss = 0) : 0 ≤ n ∧ n ≤ 12 ∧ xss.length ≤ 12 ∧ ∀ r ∈ xss, okRow r ∧ (r.length : Int) = n := by
  unfold latE at h
  by_cases h1 : n < 0 ∨ 12 < n
  · rw [if_pos h1] at h; cases h
  · rw [if_neg h1] at h
    by_cases h2 : 12 < xss.length
    · rw [if_pos h2] at h; cases h
    · rw [if_neg h2] at h
      exact ⟨by omega, by omega, by omega, allE_rows h⟩
theorem tabR_zero {n : Nat} (hn : n ≤ 12) : ∀ {xss : List (List Int)}, (∀ r ∈ xss, okRow r ∧ r.length = n) → tabR n xss = 0
  | [], _ => rfl
  | x :: l, h => by
    have hx := h x (by simp)
    unfold tabR
    rw [if_neg (by omega), if_pos hx.2]
    have : ¬ (x.any fun y => !fitB y) = true := by
      have h0 := (rowE_zero x).2 hx.1
      unfold rowE at h0
      intro hq
      rw [if_neg (by have := hx.2; omega), if_pos hq] at h0
      cases h0
    rw [if_neg this]
    exact tabR_zero hn fun r hr => h r (by simp [hr])
theorem tabE_zero {n : Int} {xss : List (List Int)} (h : latE n xss = 0) : tabE xss = 0 := by
  obtain ⟨h0, h1, h2, h3⟩ := latE_rows h
  unfold tabE
  rw [if_neg (by omega)]
  cases xss with
  | nil => rfl
  | cons x l =>
    have hx := (h3 x (by simp)).2
    exact tabR_zero (n := x.length) (by omega) fun r hr => ⟨(h3 r hr).1, by have := (h3 r hr).2; omega⟩

set_option maxRecDepth 100000 in
set_option maxHeartbeats 1000000 in
theorem isFormE_any (xss : List (List Int)) (v : Value) (n : Nat) (w : World) (h : Rows2 w v xss) (hE : tabE xss = 0) (hn : ∀ r ∈ xss, r.length = n) :
    Calls Tryz.prog 47 #[v] w fun e w' => e = .returned (.tuple #[.bool (hermB xss), .int .i64 0]) ∧ Ext w w' := by
  have HT := Lib.hid (tabCheck_any xss v w h)
  rw [hE] at HT
  have HF := Lib.hid (fun W (hW : Ext w W) => isForm_any xss v n W (h.ext hW) hn)
  obtain ⟨a, c, rfl, h1, h2, -, hc⟩ := inCell.open h
  clear h hE hn hc
  go_enter Tryz.func47, Tryz.ntmps47
  go_wp2_with fail
  refine HT.out.mono ?_
  rintro e w1 ⟨rfl, hE1⟩
  have HE1 := Lib.hid hE1
  clear hE1 HT
  go_wp2_with fail
  refine (HF.out _ HE1.out).mono ?_
  rintro e w2 ⟨rfl, hE2⟩
  have HE2 := Lib.hid (Ext.trans HE1.out hE2)
  clear hE2 HF
  go_wp2_with fail
  go_ret2
  exact ⟨rfl, HE2.out⟩

set_option maxRecDepth 100000 in
set_option maxHeartbeats 2000000 in
theorem latChk_any (n : Int) (xss : List (List Int)) (v : Value) (w : World) (h : LatV w v n xss) :
    Calls Tryz.prog 16 #[v] w fun e w' => e = .returned (.int .i64 (chkE n xss)) ∧ Ext w w' := by
  obtain ⟨u, rfl, hu⟩ := h
  have HC := Lib.hid (fun W (hW : Ext w W) => latCheck_any xss n u W (hu.ext hW))
  have HU := Lib.hid hu
  obtain ⟨a, c, rfl, h1, h2, -, hc⟩ := inCell.open hu
  clear hu hc
  have k0 : (w.alloc (.cells #[.int .i64 n, .slice a xss.length c] 27)).cell? ⟨w.heap.size, 0, none⟩ = some (.int .i64 n) := by rw [World.cell?_alloc_new]; rfl
  have k1 : (w.alloc (.cells #[.int .i64 n, .slice a xss.length c] 27)).cell? ⟨w.heap.size, 1, none⟩ = some (.slice a xss.length c) := by rw [World.cell?_alloc_new]; rfl
  by_cases hl : latE n xss = 0
  · have HFo := Lib.hid (fun W (hW : Ext w W) => isFormE_any xss _ n.toNat W (HU.out.ext hW) (tabE_zero hl) (fun r hr => by have h1 := ((latE_rows hl).2.2.2 r hr).2; have h2 := (latE_rows hl).1; omega))
    have HV : Hid (chkE n xss = if hermB xss = true then 0 else 7) := by unfold Hid chkE; rw [if_pos hl]
    rw [hl] at HC
    obtain ⟨E, hE⟩ : ∃ E, chkE n xss = E := ⟨_, rfl⟩
    rw [hE] at HV ⊢
    clear hl HU hE
    go_enter Tryz.func16, Tryz.ntmps16
    go_wp2_with fail
    refine (HC.out _ (Ext.alloc _ _)).mono ?_
    rintro e w1 ⟨rfl, hE1⟩
    have g1 := hE1.cell k1
    have HE1 := Lib.hid (Ext.trans (Ext.alloc _ _) hE1)
    clear hE1 HC k0 k1
    cases hb : hermB xss with
    | true =>
      have HV2 : Hid (E = 0) := by rw [hb] at HV; exact HV.out
      rw [hb] at HFo
      go_wp2_with fail
      refine (HFo.out _ HE1.out).mono ?_
      rintro e w2 ⟨rfl, hE2⟩
      have HE2 := Lib.hid (Ext.trans HE1.out hE2)
      clear hE2 HFo hb
      go_wp2_with fail
      go_ret
      exact ⟨by rw [HV2.out]; rfl, HE2.out⟩
    | false =>
      have HV2 : Hid (E = 7) := by rw [hb] at HV; exact HV.out
      rw [hb] at HFo
      go_wp2_with fail
      refine (HFo.out _ HE1.out).mono ?_
      rintro e w2 ⟨rfl, hE2⟩
      have HE2 := Lib.hid (Ext.trans HE1.out hE2)
      clear hE2 HFo hb
      go_wp2_with fail
      go_ret
      exact ⟨by rw [HV2.out]; rfl, HE2.out⟩
  · have HV : Hid (chkE n xss = latE n xss) := by unfold Hid chkE; rw [if_neg hl]
    rw [HV.out]
    clear HV HU
    obtain ⟨E, hE⟩ : ∃ E, latE n xss = E := ⟨_, rfl⟩
    rw [hE] at HC hl ⊢
    clear hE
    go_enter Tryz.func16, Tryz.ntmps16
    go_wp2_with fail
    refine (HC.out _ (Ext.alloc _ _)).mono ?_
    rintro e w1 ⟨rfl, hE1⟩
    have HE1 := Lib.hid (Ext.trans (Ext.alloc _ _) hE1)
    clear hE1 HC k0 k1
    go_wp2_with fail
    go_ret
    exact ⟨rfl, HE1.out⟩

set_option maxRecDepth 100000 in
set_option maxHeartbeats 2000000 in
theorem latEqual_any (n k : Int) (xss yss : List (List Int)) (v u : Value) (w : World) (h : LatV w v n xss) (h' : LatV w u k yss) :
    Calls Tryz.prog 35 #[v, u] w fun e w' => e = .returned (.bool (decide (n = k) && xss == yss)) ∧ Ext w w' := by
  obtain ⟨v1, rfl, hv⟩ := h
  obtain ⟨u1, rfl, hu⟩ := h'
  have HEQ : Hid (∀ W, Ext w W → Calls Tryz.prog 63 #[v1, u1, .func (.func 32) #[] #[]] W fun e w' => e = .returned (.bool (xss == yss)) ∧ Ext W w') := fun W hW => by
    have := equalFuncMat_any (R := Ints) (fun _ _ _ _ he h => Ints.ext h he) xss yss v1 u1 32 #[] (· == ·) W (hv.ext hW) (hu.ext hW) (enters_of Tryz.func32 (by kernel_rfl) rfl) (fun W x y a b _ _ _ ha hb => rowEqual_any x y a b W ha hb)
    rw [eqBy_beq] at this
    exact this
  obtain ⟨a, c, rfl, h1, h2, -, hc⟩ := inCell.open hv
  obtain ⟨a', c', rfl, k1, k2, -, kc⟩ := inCell.open hu
  clear hv hu hc kc
  by_cases hnk : n = k
  · subst hnk
    obtain ⟨B, hB⟩ : ∃ B : Bool, (xss == yss) = B := ⟨_, rfl⟩
    rw [hB] at HEQ ⊢
    clear hB
    have hd : (decide (n = n)) = true := decide_eq_true rfl
    rw [hd, Bool.true_and]
    clear hd
    go_enter Tryz.func35, Tryz.ntmps35
    go_wp2_with fail
    refine (HEQ.out _ ((Ext.alloc _ _).trans (Ext.alloc _ _))).mono ?_
    rintro e w1 ⟨rfl, hE1⟩
    have HE1 := Lib.hid (Ext.trans ((Ext.alloc _ _).trans (Ext.alloc _ _)) hE1)
    clear hE1 HEQ
    go_wp2_with fail
    go_ret
    exact ⟨rfl, HE1.out⟩
  · have HF : Hid ((decide (n = k) && xss == yss) = false) := by unfold Hid; rw [decide_eq_false hnk]; rfl
    rw [HF.out]
    clear HEQ HF
    go_enter Tryz.func35, Tryz.ntmps35
    go_wp2_with fail
    go_ret
    exact ⟨rfl, (Ext.alloc _ _).trans (Ext.alloc _ _)⟩

/-- The error of a lattice and a row. -/
def rowLE (n : Int) (xss : List (List Int)) (x : List Int) : Int := if chkE n xss = 0 then (if rowE x = 0 then (if (x.length : Int) = n then 0 else 5) else rowE x) else chkE n xss
set_option maxRecDepth 100000 in
set_option maxHeartbeats 2000000 in
theorem checkRow_any (n : Int) (xss : List (List Int)) (x : List Int) (v vx : Value) (w : World) (h : LatV w v n xss) (hx : Ints w vx x) :
    Calls Tryz.prog 58 #[v, vx] w fun e w' => e = .returned (.int .i64 (rowLE n xss x)) ∧ Ext w w' := by
  have HC := Lib.hid (fun W (hW : Ext w W) => latChk_any n xss v W (h.ext hW))
  have HR := Lib.hid (fun W (hW : Ext w W) => rowCheck_any x vx W (hx.ext hW))
  obtain ⟨u, rfl, hu⟩ := h
  obtain ⟨a, c, rfl, h1, h2, -, hc⟩ := inCell.open hu
  obtain ⟨ax, cx, rfl, x1, x2, -, -, xc⟩ := hx.open
  clear hu hc hx xc
  have HK0 := Lib.hid (block_new w #[.int .i64 n, .slice a xss.length c] 27)
  have q0 := block_cell HK0.out 0
  simp only [List.getElem?_toArray, List.getElem?_cons_zero, List.getElem?_cons_succ] at q0
  obtain ⟨E, hE⟩ : ∃ E, chkE n xss = E := ⟨_, rfl⟩
  obtain ⟨F, hF⟩ : ∃ F, rowE x = F := ⟨_, rfl⟩
  obtain ⟨G, hG⟩ : ∃ G, rowLE n xss x = G := ⟨_, rfl⟩
  have HV : Hid (G = if E = 0 then (if F = 0 then (if (x.length : Int) = n then 0 else 5) else F) else E) := by unfold Hid; rw [← hG, ← hE, ← hF]; rfl
  rw [hE] at HC
  rw [hF] at HR
  rw [hG]
  clear hE hF hG
  by_cases hE0 : E = 0
  · subst hE0
    have HV1 : Hid (G = if F = 0 then (if (x.length : Int) = n then 0 else 5) else F) := HV.out
    by_cases hF0 : F = 0
    · subst hF0
      have HV2 : Hid (G = if (x.length : Int) = n then 0 else 5) := HV1.out
      by_cases hn : (x.length : Int) = n
      · have HV3 : Hid (G = 0) := by rw [if_pos hn] at HV2; exact HV2.out
        clear HV HV1 HV2
        go_enter Tryz.func58, Tryz.ntmps58
        go_wp2_with (refine wpList_load_row rfl 27 _ rfl w.heap.size rfl _ #[.int .i64 n, .slice a xss.length c] (0, 0) _ HK0.out Tryz.underlying27 rfl (by kernel_rfl) ?_)
        refine (HC.out _ (Ext.alloc _ _)).mono ?_
        rintro e w1 ⟨rfl, hE1⟩
        have q1 := hE1.cell q0
        have HE1 := Lib.hid (Ext.trans (Ext.alloc _ _) hE1)
        clear hE1 HC
        go_wp2_with fail
        refine (HR.out _ HE1.out).mono ?_
        rintro e w2 ⟨rfl, hE2⟩
        have q2 := hE2.cell q1
        have HE2 := Lib.hid (Ext.trans HE1.out hE2)
        clear hE2 HR
        go_wp2_with fail
        go_ret
        exact ⟨by rw [HV3.out]; rfl, HE2.out⟩
      · have HV3 : Hid (G = 5) := by rw [if_neg hn] at HV2; exact HV2.out
        clear HV HV1 HV2
        go_enter Tryz.func58, Tryz.ntmps58
        go_wp2_with (refine wpList_load_row rfl 27 _ rfl w.heap.size rfl _ #[.int .i64 n, .slice a xss.length c] (0, 0) _ HK0.out Tryz.underlying27 rfl (by kernel_rfl) ?_)
        refine (HC.out _ (Ext.alloc _ _)).mono ?_
        rintro e w1 ⟨rfl, hE1⟩
        have q1 := hE1.cell q0
        have HE1 := Lib.hid (Ext.trans (Ext.alloc _ _) hE1)
        clear hE1 HC
        go_wp2_with fail
        refine (HR.out _ HE1.out).mono ?_
        rintro e w2 ⟨rfl, hE2⟩
        have q2 := hE2.cell q1
        have HE2 := Lib.hid (Ext.trans HE1.out hE2)
        clear hE2 HR
        go_wp2_with fail
        go_ret
        exact ⟨by rw [HV3.out]; rfl, HE2.out⟩
    · have HV2 : Hid (G = F) := by rw [if_neg hF0] at HV1; exact HV1.out
      rw [HV2.out]
      clear HV HV1 HV2
      go_enter Tryz.func58, Tryz.ntmps58
      go_wp2_with (refine wpList_load_row rfl 27 _ rfl w.heap.size rfl _ #[.int .i64 n, .slice a xss.length c] (0, 0) _ HK0.out Tryz.underlying27 rfl (by kernel_rfl) ?_)
      refine (HC.out _ (Ext.alloc _ _)).mono ?_
      rintro e w1 ⟨rfl, hE1⟩
      have HE1 := Lib.hid (Ext.trans (Ext.alloc _ _) hE1)
      clear hE1 HC
      go_wp2_with fail
      refine (HR.out _ HE1.out).mono ?_
      rintro e w2 ⟨rfl, hE2⟩
      have HE2 := Lib.hid (Ext.trans HE1.out hE2)
      clear hE2 HR
      go_wp2_with fail
      go_ret
      exact ⟨rfl, HE2.out⟩
  · have HV2 : Hid (G = E) := by rw [if_neg hE0] at HV; exact HV.out
    rw [HV2.out]
    clear HV HV2
    go_enter Tryz.func58, Tryz.ntmps58
    go_wp2_with (refine wpList_load_row rfl 27 _ rfl w.heap.size rfl _ #[.int .i64 n, .slice a xss.length c] (0, 0) _ HK0.out Tryz.underlying27 rfl (by kernel_rfl) ?_)
    refine (HC.out _ (Ext.alloc _ _)).mono ?_
    rintro e w1 ⟨rfl, hE1⟩
    have HE1 := Lib.hid (Ext.trans (Ext.alloc _ _) hE1)
    clear hE1 HC
    go_wp2_with fail
    go_ret
    exact ⟨rfl, HE1.out⟩
end Go.Proofs.YtielnneclcekbaaGreatDoor
/- Contract of lattice.checkBoth. -/
namespace Go.Proofs.YtielnneclcekbaaGreatDoor
set_option linter.unusedVariables false
set_option linter.unusedSimpArgs false
open Go.RowKit

theorem lat_block {w : World} {B : Nat} {x y : Value} (h : w.heap[B]? = some (.cells #[x, y] 27 (0, 0))) : w.cell? ⟨B, 0, none⟩ = some x ∧ w.cell? ⟨B, 1, none⟩ = some y ∧ ∀ i, w.frozen? ⟨B, i, none⟩ = false := by
  have c0 := block_cell h 0; have c1 := block_cell h 1
  simp only [List.getElem?_toArray, List.getElem?_cons_zero, List.getElem?_cons_succ] at c0 c1
  exact ⟨c0, c1, fun i => block_free h i⟩
theorem lat_store {w : World} {B : Nat} {x y : Value} (h : w.heap[B]? = some (.cells #[x, y] 27 (0, 0))) (a b : Value) : ((w.setCell ⟨B, 0, none⟩ a).setCell ⟨B, 1, none⟩ b).heap[B]? = some (.cells #[a, b] 27 (0, 0)) := by
  have := block_set (block_set h 0 a) 1 b
  simpa using this
theorem lat_new (w : World) (x y : Value) : ∃ W, w.alloc (.cells #[x, y] 27) = W ∧ Ext w W ∧ W.heap.size = w.heap.size + 1 ∧ W.heap[w.heap.size]? = some (.cells #[x, y] 27 (0, 0)) := ⟨_, rfl, Ext.alloc _ _, by simp, block_new _ _ _⟩
theorem ext_lat {w W : World} {B : Nat} (hE : Ext w W) (hB : w.heap.size ≤ B) (a b : Value) : Ext w ((W.setCell ⟨B, 0, none⟩ a).setCell ⟨B, 1, none⟩ b) :=
  Below.setCell (Below.setCell hE hB _) hB _

def bothE (n : Int) (xss : List (List Int)) (k : Int) (yss : List (List Int)) : Int :=
  if chkE n xss = 0 then (if chkE k yss = 0 then (if n = k then 0 else 5) else chkE k yss) else chkE n xss

set_option maxRecDepth 100000 in
set_option maxHeartbeats 4000000 in
theorem checkBoth_any (n k : Int) (xss yss : List (List Int)) (v u : Value) (w : World) (h : LatV w v n xss) (h' : LatV w u k yss) :
    Calls Tryz.prog 67 #[v, u] w fun e w' => e = .returned (.int .i64 (bothE n xss k yss)) ∧ Ext w w' := by
  have HCA := Lib.hid (fun W (hW : Ext w W) => latChk_any n xss v W (h.ext hW))
  have HCB := Lib.hid (fun W (hW : Ext w W) => latChk_any k yss u W (h'.ext hW))
  obtain ⟨v1, rfl, hv⟩ := h
  obtain ⟨u1, rfl, hu⟩ := h'
  obtain ⟨a, c, rfl, h1, h2, -, hc⟩ := inCell.open hv
  obtain ⟨a', c', rfl, k1, k2, -, kc⟩ := inCell.open hu
  clear hv hu hc kc
  obtain ⟨NX, hNX⟩ : ∃ NX, xss.length = NX := ⟨_, rfl⟩
  obtain ⟨NY, hNY⟩ : ∃ NY, yss.length = NY := ⟨_, rfl⟩
  obtain ⟨E, hE⟩ : ∃ E, chkE n xss = E := ⟨_, rfl⟩
  obtain ⟨F, hF⟩ : ∃ F, chkE k yss = F := ⟨_, rfl⟩
  obtain ⟨G, hG⟩ : ∃ G, bothE n xss k yss = G := ⟨_, rfl⟩
  have HV : Hid (G = if E = 0 then (if F = 0 then (if n = k then 0 else 5) else F) else E) := by unfold Hid; rw [← hG, ← hE, ← hF]; rfl
  rw [hE, hNX] at HCA
  rw [hF, hNY] at HCB
  rw [hG, hNX, hNY]
  clear hE hF hG hNX hNY h1 k1
  go_enter Tryz.func67, Tryz.ntmps67
  obtain ⟨W1, hW1, hE1, hs1, hb1'⟩ := lat_new w (.int .i64 n) (.slice a NX c)
  obtain ⟨W2, hW2, hE2, hs2, hb2'⟩ := lat_new W1 (.int .i64 k) (.slice a' NY c')
  obtain ⟨W3, hW3⟩ : ∃ W3, W2.alloc (.cells #[.int .i64 n, .slice a NX c, .int .i64 k, .slice a' NY c'] 27) = W3 := ⟨_, rfl⟩
  have hE3 : Ext W2 W3 := by rw [← hW3]; exact Ext.alloc _ _
  have hb3' : W3.heap[W2.heap.size]? = some (.cells #[.int .i64 n, .slice a NX c, .int .i64 k, .slice a' NY c'] 27 (0, 0)) := by rw [← hW3]; exact block_new _ _ _
  have HB1 := Lib.hid (block_ext (block_ext hb1' hE2) hE3)
  have HB2 := Lib.hid (block_ext hb2' hE3)
  have HB3 := Lib.hid hb3'
  have HE3 := Lib.hid (hE1.trans (hE2.trans hE3))
  obtain ⟨e10, e11, -⟩ := lat_block (block_ext hb1' hE2)
  obtain ⟨e20, e21, -⟩ := lat_block hb2'
  have z2 : W1.heap.size = w.heap.size + 1 := hs1
  have z3 : W2.heap.size = w.heap.size + 1 + 1 := by omega
  rw [z2] at e20 e21 HB2
  rw [z3] at HB3
  clear hE1 hE2 hE3 hb1' hb2' hb3' hs1 hs2
  go_wp2_with fail
  clear hW1 hW2 hW3 e10 e11 e20 e21 z2
  go_loopw [12] (fun t wr => ∃ i : Nat, i ≤ 2 ∧ t = .int .i64 i ∧ Hid (Ext W3 wr) ∧ Hid (0 < i → E = 0) ∧ Hid (1 < i → F = 0)) (fun t _ => 2 - (intOf t).toNat)
  case atStart => exact ⟨0, by omega, rfl, Ext.refl _, fun h => by omega, fun h => by omega⟩
  case round =>
    obtain ⟨i, hi, rfl, HE, HI1, HI2⟩ := hrel
    obtain ⟨wo, rfl⟩ : ∃ wo : World, wo = wr := ⟨_, rfl⟩
    by_cases hlt : i < 2
    · have hB := block_ext HB3.out HE.out
      obtain ⟨Wb, hWb, hEb, hsb, hbb⟩ := lat_new wo (.int .i64 0) (.slice none 0 0)
      obtain ⟨r0, r1, rf⟩ := lat_block hbb
      have f0 := rf 0; have f1 := rf 1
      obtain ⟨D, hD⟩ : ∃ D : Int, D = if i = 0 then E else F := ⟨_, rfl⟩
      have HG : Hid (D ≠ 0 → G = D) := by
        intro h0
        rw [hD] at h0 ⊢
        by_cases hi0 : i = 0
        · rw [if_pos hi0] at h0 ⊢; rw [HV.out, if_neg h0]
        · rw [if_neg hi0] at h0 ⊢
          rw [HV.out, if_pos (HI1.out (by omega)), if_neg h0]
      have HN1 : Hid (D = 0 → 0 < i + 1 → E = 0) := by
        intro h0 _
        rw [hD] at h0
        by_cases hi0 : i = 0
        · rw [if_pos hi0] at h0; exact h0
        · exact HI1.out (by omega)
      have HN2 : Hid (D = 0 → 1 < i + 1 → F = 0) := by
        intro h0 _
        rw [hD, if_neg (by omega)] at h0; exact h0
      clear HI1 HI2
      rcases (by omega : i = 0 ∨ i = 1) with rfl | rfl
      case' inl =>
        have d0 := block_cell hB 0; have d1 := block_cell hB 1
        have HBS := Lib.hid (lat_store hbb (.int .i64 n) (.slice a NX c))
        have HES := Lib.hid (ext_lat hEb (Nat.le_refl _) (.int .i64 n) (.slice a NX c))
        obtain rfl : D = E := hD
        have HCK := Lib.hid HCA.out
      case' inr =>
        have d0 := block_cell hB 2; have d1 := block_cell hB 3
        have HBS := Lib.hid (lat_store hbb (.int .i64 k) (.slice a' NY c'))
        have HES := Lib.hid (ext_lat hEb (Nat.le_refl _) (.int .i64 k) (.slice a' NY c'))
        obtain rfl : D = F := hD
        have HCK := Lib.hid HCB.out
      all_goals
        simp only [List.getElem?_toArray, List.getElem?_cons_zero, List.getElem?_cons_succ] at d0 d1
        clear hB rf hbb hEb hsb
        try clear hD
        by_cases hD0 : D = 0
        · have HN1' := Lib.hid (HN1.out hD0)
          have HN2' := Lib.hid (HN2.out hD0)
          have HD0 := Lib.hid hD0
          clear HN1 HN2 HG
          rw [hD0] at HCK
          clear hD0
          go_wp2_with fail
          refine (HCK.out _ (HE3.out.trans (HE.out.trans HES.out))).mono ?_
          rintro e w7 ⟨rfl, hE7⟩
          have HE7 := Lib.hid (HE.out.trans (HES.out.trans hE7))
          clear hE7
          go_wp2_with fail
          go_roundw
          case rel => first | exact ⟨1, by omega, by first | rfl | go_num, HE7.out, HN1'.out, HN2'.out⟩ | exact ⟨2, by omega, by first | rfl | go_num, HE7.out, HN1'.out, HN2'.out⟩
          case measure => simp [intOf]
        · have HG' := Lib.hid (HG.out hD0)
          clear HN1 HN2 HG
          go_wp2_with fail
          refine (HCK.out _ (HE3.out.trans (HE.out.trans HES.out))).mono ?_
          rintro e w7 ⟨rfl, hE7⟩
          have HE7 := Lib.hid (HE.out.trans (HES.out.trans hE7))
          clear hE7
          go_wp2_with fail
          go_ret
          exact ⟨by rw [HG'.out]; rfl, HE3.out.trans HE7.out⟩
    · obtain rfl : i = 2 := by omega
      have HE0 := Lib.hid (HE3.out.trans HE.out)
      have hG : G = if n = k then 0 else 5 := by rw [HV.out, if_pos (HI1.out (by omega)), if_pos (HI2.out (by omega))]
      have e0 := block_cell (block_ext HB1.out HE.out) 0
      have e1 := block_cell (block_ext HB2.out HE.out) 0
      simp only [List.getElem?_toArray, List.getElem?_cons_zero, List.getElem?_cons_succ] at e0 e1
      by_cases hnk : n = k
      · have HG2 : Hid (G = 0) := by rw [if_pos hnk] at hG; exact hG
        clear hG
        go_wp2_with fail
        go_ret
        exact ⟨by rw [HG2.out]; rfl, HE0.out⟩
      · have HG2 : Hid (G = 5) := by rw [if_neg hnk] at hG; exact hG
        clear hG
        go_wp2_with fail
        go_ret
        exact ⟨by rw [HG2.out]; rfl, HE0.out⟩
end Go.Proofs.YtielnneclcekbaaGreatDoor
