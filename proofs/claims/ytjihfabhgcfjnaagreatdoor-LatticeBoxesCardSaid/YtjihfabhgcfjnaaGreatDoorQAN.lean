/- Merged: LatA, GrowL, GrowM, KerP, KerQ, KerR, SetLaw. -/
import Derived.Test.YtjihfabhgcfjnaaGreatDoorQAK
import Derived.Test.YtjihfabhgcfjnaaGreatDoorQAM
import Derived.Test.YtjihfabhgcfjnaaGreatDoorQAA
import Derived.Test.YtjihfabhgcfjnaaGreatDoorQAL
import Derived.RangeFuncNested
import Derived.RangeFuncBound
import Derived.RangeFuncCalls
import Derived.RangeFuncLeaves
import Derived.Shelf.Abstract
import Derived.Shelf.RegionOpen
import Derived.WalkKit
import Derived.OwnWalkIn
import Derived.TacticsInMore
import Derived.LoopNIn
import Derived.LoopIn
import Derived.RangeFuncBox
/- Contracts of package lattice: Check, Equal, checkRow, checkBoth. -/
namespace Go.Proofs.YtjihfabhgcfjnaaGreatDoor
set_option linter.unusedVariables false
set_option linter.unusedSimpArgs false
open Go.RowKit

/-- A lattice in memory. -/
def LatV (w : World) (v : Value) (n : Int) (xss : List (List Int)) : Prop := ∃ u, v = .agg #[.int .i64 n, u] ∧ Rows2 w u xss
theorem LatV.ext {w w' : World} {v : Value} {n : Int} {xss : List (List Int)} (h : LatV w v n xss) (he : Ext w w') : LatV w' v n xss := by
  obtain ⟨u, h1, h2⟩ := h; exact ⟨u, h1, h2.ext he⟩
/-- The error of a lattice. -/
def chkE (n : Int) (xss : List (List Int)) : Int := if latE n xss = 0 then (if hermB xss = true then 0 else 7) else latE n xss
theorem allE_rows {n : Int} : ∀ {xss : List (List Int)}, allE n xss = 0 → ∀ r ∈ xss, okRow r ∧ (r.length : Int) = n
  | [], _, r, h => by simp at h
  | x :: l, h, r, hr => by
    unfold allE at h
    by_cases hx : rowE x = 0
    · rw [if_pos hx] at h
      by_cases hn : (x.length : Int) = n
      · rw [if_pos hn] at h
        rcases List.mem_cons.1 hr with rfl | hr
        · exact ⟨(rowE_zero _).1 hx, hn⟩
        · exact allE_rows h r hr
      · rw [if_neg hn] at h; cases h
    · rw [if_neg hx] at h; exact absurd h hx
theorem latE_rows {n : Int} {xss : List (List Int)} (h : latE n xss = 0) : 0 ≤ n ∧ n ≤ 12 ∧ xss.length ≤ 12 ∧ ∀ r ∈ xss, okRow r ∧ (r.length : Int) = n := by
  unfold latE at h
  by_cases h1 : n < 0 ∨ 12 < n
  · rw [if_pos h1] at h; cases h
  · rw [if_neg h1] at h
    by_cases h2 : 12 < xss.length
    · rw [if_pos h2] at h; cases h
    · rw [if_neg h2] at h
      exact ⟨by omega, by omega, by omega, allE_rows h⟩
theorem tabR_zero {n : Nat} (hn : n ≤ 12) : ∀ {xss : List (List Int)}, (∀ r ∈ xss, okRow r ∧ r.length = n) → tabR n xss = 0
  | [], _ => rfl
  | x :: l, h => by
    have hx := h x (by simp)
    unfold tabR
    rw [if_neg (by omega), if_pos hx.2]
    have : ¬ (x.any fun y => !fitB y) = true := by
      have h0 := (rowE_zero x).2 hx.1
      unfold rowE at h0
      intro hq
      rw [if_neg (by have := hx.2; omega), if_pos hq] at h0
      cases h0
    rw [if_neg this]
    exact tabR_zero hn fun r hr => h r (by simp [hr])
theorem tabE_zero {n : Int} {xss : List (List Int)} (h : latE n xss = 0) : tabE xss = 0 := by
  obtain ⟨h0, h1, h2, h3⟩ := latE_rows h
  unfold tabE
  rw [if_neg (by omega)]
  cases xss with
  | nil => rfl
  | cons x l =>
    have hx := (h3 x (by simp)).2
    exact tabR_zero (n := x.length) (by omega) fun r hr => ⟨(h3 r hr).1, by have := (h3 r hr).2; omega⟩

set_option maxRecDepth 100000 in
set_option maxHeartbeats 1000000 in
theorem isFormE_any (xss : List (List Int)) (v : Value) (n : Nat) (w : World) (h : Rows2 w v xss) (hE : tabE xss = 0) (hn : ∀ r ∈ xss, r.length = n) :
    Calls Tryz.prog 103 #[v] w fun e w' => e = .returned (.tuple #[.bool (hermB xss), .int .i64 0]) ∧ Ext w w' := by
  have HT := Lib.hid (tabCheck_any xss v w h)
  rw [hE] at HT
  have HF := Lib.hid (fun W (hW : Ext w W) => isForm_any xss v n W (h.ext hW) hn)
  obtain ⟨a, c, rfl, h1, h2, -, hc⟩ := inCell.open h
  clear h hE hn hc
  go_enter Tryz.func103, Tryz.ntmps103
  go_wp2_with fail
  refine HT.out.mono ?_
  rintro e w1 ⟨rfl, hE1⟩
  have HE1 := Lib.hid hE1
  clear hE1 HT
  go_wp2_with fail
  refine (HF.out _ HE1.out).mono ?_
  rintro e w2 ⟨rfl, hE2⟩
  have HE2 := Lib.hid (Ext.trans HE1.out hE2)
  clear hE2 HF
  go_wp2_with fail
  go_ret2
  exact ⟨rfl, HE2.out⟩

set_option maxRecDepth 100000 in
set_option maxHeartbeats 2000000 in
theorem latChk_any (n : Int) (xss : List (List Int)) (v : Value) (w : World) (h : LatV w v n xss) :
    Calls Tryz.prog 49 #[v] w fun e w' => e = .returned (.int .i64 (chkE n xss)) ∧ Ext w w' := by
  obtain ⟨u, rfl, hu⟩ := h
  have HC := Lib.hid (fun W (hW : Ext w W) => latCheck_any xss n u W (hu.ext hW))
  have HU := Lib.hid hu
  obtain ⟨a, c, rfl, h1, h2, -, hc⟩ := inCell.open hu
  clear hu hc
  have k0 : (w.alloc (.cells #[.int .i64 n, .slice a xss.length c] 31)).cell? ⟨w.heap.size, 0, none⟩ = some (.int .i64 n) := by rw [World.cell?_alloc_new]; rfl
  have k1 : (w.alloc (.cells #[.int .i64 n, .slice a xss.length c] 31)).cell? ⟨w.heap.size, 1, none⟩ = some (.slice a xss.length c) := by rw [World.cell?_alloc_new]; rfl
  by_cases hl : latE n xss = 0
  · have HFo := Lib.hid (fun W (hW : Ext w W) => isFormE_any xss _ n.toNat W (HU.out.ext hW) (tabE_zero hl) (fun r hr => by have h1 := ((latE_rows hl).2.2.2 r hr).2; have h2 := (latE_rows hl).1; omega))
    have HV : Hid (chkE n xss = if hermB xss = true then 0 else 7) := by unfold Hid chkE; rw [if_pos hl]
    rw [hl] at HC
    obtain ⟨E, hE⟩ : ∃ E, chkE n xss = E := ⟨_, rfl⟩
    rw [hE] at HV ⊢
    clear hl HU hE
    go_enter Tryz.func49, Tryz.ntmps49
    go_wp2_with fail
    refine (HC.out _ (Ext.alloc _ _)).mono ?_
    rintro e w1 ⟨rfl, hE1⟩
    have g1 := hE1.cell k1
    have HE1 := Lib.hid (Ext.trans (Ext.alloc _ _) hE1)
    clear hE1 HC k0 k1
    cases hb : hermB xss with
    | true =>
      have HV2 : Hid (E = 0) := by rw [hb] at HV; exact HV.out
      rw [hb] at HFo
      go_wp2_with fail
      refine (HFo.out _ HE1.out).mono ?_
      rintro e w2 ⟨rfl, hE2⟩
      have HE2 := Lib.hid (Ext.trans HE1.out hE2)
      clear hE2 HFo hb
      go_wp2_with fail
      go_ret
      exact ⟨by rw [HV2.out]; rfl, HE2.out⟩
    | false =>
      have HV2 : Hid (E = 7) := by rw [hb] at HV; exact HV.out
      rw [hb] at HFo
      go_wp2_with fail
      refine (HFo.out _ HE1.out).mono ?_
      rintro e w2 ⟨rfl, hE2⟩
      have HE2 := Lib.hid (Ext.trans HE1.out hE2)
      clear hE2 HFo hb
      go_wp2_with fail
      go_ret
      exact ⟨by rw [HV2.out]; rfl, HE2.out⟩
  · have HV : Hid (chkE n xss = latE n xss) := by unfold Hid chkE; rw [if_neg hl]
    rw [HV.out]
    clear HV HU
    obtain ⟨E, hE⟩ : ∃ E, latE n xss = E := ⟨_, rfl⟩
    rw [hE] at HC hl ⊢
    clear hE
    go_enter Tryz.func49, Tryz.ntmps49
    go_wp2_with fail
    refine (HC.out _ (Ext.alloc _ _)).mono ?_
    rintro e w1 ⟨rfl, hE1⟩
    have HE1 := Lib.hid (Ext.trans (Ext.alloc _ _) hE1)
    clear hE1 HC k0 k1
    go_wp2_with fail
    go_ret
    exact ⟨rfl, HE1.out⟩

set_option maxRecDepth 100000 in
set_option maxHeartbeats 2000000 in
theorem latEqual_any (n k : Int) (xss yss : List (List Int)) (v u : Value) (w : World) (h : LatV w v n xss) (h' : LatV w u k yss) :
    Calls Tryz.prog 152 #[v, u] w fun e w' => e = .returned (.bool (decide (n = k) && xss == yss)) ∧ Ext w w' := by
  obtain ⟨v1, rfl, hv⟩ := h
  obtain ⟨u1, rfl, hu⟩ := h'
  have HEQ : Hid (∀ W, Ext w W → Calls Tryz.prog 177 #[v1, u1, .func (.func 12) #[] #[]] W fun e w' => e = .returned (.bool (xss == yss)) ∧ Ext W w') := fun W hW => by
    have := equalFuncMat_any (R := Ints) (fun _ _ _ _ he h => Ints.ext h he) xss yss v1 u1 12 #[] (· == ·) W (hv.ext hW) (hu.ext hW) (enters_of Tryz.func12 (by kernel_rfl) rfl) (fun W x y a b _ _ _ ha hb => rowEqual_any x y a b W ha hb)
    rw [eqBy_beq] at this
    exact this
  obtain ⟨a, c, rfl, h1, h2, -, hc⟩ := inCell.open hv
  obtain ⟨a', c', rfl, k1, k2, -, kc⟩ := inCell.open hu
  clear hv hu hc kc
  by_cases hnk : n = k
  · subst hnk
    obtain ⟨B, hB⟩ : ∃ B : Bool, (xss == yss) = B := ⟨_, rfl⟩
    rw [hB] at HEQ ⊢
    clear hB
    have hd : (decide (n = n)) = true := decide_eq_true rfl
    rw [hd, Bool.true_and]
    clear hd
    go_enter Tryz.func152, Tryz.ntmps152
    go_wp2_with fail
    refine (HEQ.out _ ((Ext.alloc _ _).trans (Ext.alloc _ _))).mono ?_
    rintro e w1 ⟨rfl, hE1⟩
    have HE1 := Lib.hid (Ext.trans ((Ext.alloc _ _).trans (Ext.alloc _ _)) hE1)
    clear hE1 HEQ
    go_wp2_with fail
    go_ret
    exact ⟨rfl, HE1.out⟩
  · have HF : Hid ((decide (n = k) && xss == yss) = false) := by unfold Hid; rw [decide_eq_false hnk]; rfl
    rw [HF.out]
    clear HEQ HF
    go_enter Tryz.func152, Tryz.ntmps152
    go_wp2_with fail
    go_ret
    exact ⟨rfl, (Ext.alloc _ _).trans (Ext.alloc _ _)⟩

/-- The error of a lattice and a row. -/
def rowLE (n : Int) (xss : List (List Int)) (x : List Int) : Int := if chkE n xss = 0 then (if rowE x = 0 then (if (x.length : Int) = n then 0 else 5) else rowE x) else chkE n xss
set_option maxRecDepth 100000 in
set_option maxHeartbeats 2000000 in
theorem checkRow_any (n : Int) (xss : List (List Int)) (x : List Int) (v vx : Value) (w : World) (h : LatV w v n xss) (hx : Ints w vx x) :
    Calls Tryz.prog 98 #[v, vx] w fun e w' => e = .returned (.int .i64 (rowLE n xss x)) ∧ Ext w w' := by
  have HC := Lib.hid (fun W (hW : Ext w W) => latChk_any n xss v W (h.ext hW))
  have HR := Lib.hid (fun W (hW : Ext w W) => rowCheck_any x vx W (hx.ext hW))
  obtain ⟨u, rfl, hu⟩ := h
  obtain ⟨a, c, rfl, h1, h2, -, hc⟩ := inCell.open hu
  obtain ⟨ax, cx, rfl, x1, x2, -, -, xc⟩ := hx.open
  clear hu hc hx xc
  have HK0 := Lib.hid (block_new w #[.int .i64 n, .slice a xss.length c] 31)
  have q0 := block_cell HK0.out 0
  simp only [List.getElem?_toArray, List.getElem?_cons_zero, List.getElem?_cons_succ] at q0
  obtain ⟨E, hE⟩ : ∃ E, chkE n xss = E := ⟨_, rfl⟩
  obtain ⟨F, hF⟩ : ∃ F, rowE x = F := ⟨_, rfl⟩
  obtain ⟨G, hG⟩ : ∃ G, rowLE n xss x = G := ⟨_, rfl⟩
  have HV : Hid (G = if E = 0 then (if F = 0 then (if (x.length : Int) = n then 0 else 5) else F) else E) := by unfold Hid; rw [← hG, ← hE, ← hF]; rfl
  rw [hE] at HC
  rw [hF] at HR
  rw [hG]
  clear hE hF hG
  by_cases hE0 : E = 0
  · subst hE0
    have HV1 : Hid (G = if F = 0 then (if (x.length : Int) = n then 0 else 5) else F) := HV.out
    by_cases hF0 : F = 0
    · subst hF0
      have HV2 : Hid (G = if (x.length : Int) = n then 0 else 5) := HV1.out
      by_cases hn : (x.length : Int) = n
      · have HV3 : Hid (G = 0) := by rw [if_pos hn] at HV2; exact HV2.out
        clear HV HV1 HV2
        go_enter Tryz.func98, Tryz.ntmps98
        go_wp2_with (refine wpList_load_row rfl 31 _ rfl w.heap.size rfl _ #[.int .i64 n, .slice a xss.length c] (0, 0) _ HK0.out Tryz.underlying31 rfl (by kernel_rfl) ?_)
        refine (HC.out _ (Ext.alloc _ _)).mono ?_
        rintro e w1 ⟨rfl, hE1⟩
        have q1 := hE1.cell q0
        have HE1 := Lib.hid (Ext.trans (Ext.alloc _ _) hE1)
        clear hE1 HC
        go_wp2_with fail
        refine (HR.out _ HE1.out).mono ?_
        rintro e w2 ⟨rfl, hE2⟩
        have q2 := hE2.cell q1
        have HE2 := Lib.hid (Ext.trans HE1.out hE2)
        clear hE2 HR
        go_wp2_with fail
        go_ret
        exact ⟨by rw [HV3.out]; rfl, HE2.out⟩
      · have HV3 : Hid (G = 5) := by rw [if_neg hn] at HV2; exact HV2.out
        clear HV HV1 HV2
        go_enter Tryz.func98, Tryz.ntmps98
        go_wp2_with (refine wpList_load_row rfl 31 _ rfl w.heap.size rfl _ #[.int .i64 n, .slice a xss.length c] (0, 0) _ HK0.out Tryz.underlying31 rfl (by kernel_rfl) ?_)
        refine (HC.out _ (Ext.alloc _ _)).mono ?_
        rintro e w1 ⟨rfl, hE1⟩
        have q1 := hE1.cell q0
        have HE1 := Lib.hid (Ext.trans (Ext.alloc _ _) hE1)
        clear hE1 HC
        go_wp2_with fail
        refine (HR.out _ HE1.out).mono ?_
        rintro e w2 ⟨rfl, hE2⟩
        have q2 := hE2.cell q1
        have HE2 := Lib.hid (Ext.trans HE1.out hE2)
        clear hE2 HR
        go_wp2_with fail
        go_ret
        exact ⟨by rw [HV3.out]; rfl, HE2.out⟩
    · have HV2 : Hid (G = F) := by rw [if_neg hF0] at HV1; exact HV1.out
      rw [HV2.out]
      clear HV HV1 HV2
      go_enter Tryz.func98, Tryz.ntmps98
      go_wp2_with (refine wpList_load_row rfl 31 _ rfl w.heap.size rfl _ #[.int .i64 n, .slice a xss.length c] (0, 0) _ HK0.out Tryz.underlying31 rfl (by kernel_rfl) ?_)
      refine (HC.out _ (Ext.alloc _ _)).mono ?_
      rintro e w1 ⟨rfl, hE1⟩
      have HE1 := Lib.hid (Ext.trans (Ext.alloc _ _) hE1)
      clear hE1 HC
      go_wp2_with fail
      refine (HR.out _ HE1.out).mono ?_
      rintro e w2 ⟨rfl, hE2⟩
      have HE2 := Lib.hid (Ext.trans HE1.out hE2)
      clear hE2 HR
      go_wp2_with fail
      go_ret
      exact ⟨rfl, HE2.out⟩
  · have HV2 : Hid (G = E) := by rw [if_neg hE0] at HV; exact HV.out
    rw [HV2.out]
    clear HV HV2
    go_enter Tryz.func98, Tryz.ntmps98
    go_wp2_with (refine wpList_load_row rfl 31 _ rfl w.heap.size rfl _ #[.int .i64 n, .slice a xss.length c] (0, 0) _ HK0.out Tryz.underlying31 rfl (by kernel_rfl) ?_)
    refine (HC.out _ (Ext.alloc _ _)).mono ?_
    rintro e w1 ⟨rfl, hE1⟩
    have HE1 := Lib.hid (Ext.trans (Ext.alloc _ _) hE1)
    clear hE1 HC
    go_wp2_with fail
    go_ret
    exact ⟨rfl, HE1.out⟩
end Go.Proofs.YtjihfabhgcfjnaaGreatDoor
/- The lattice of a plan: its form, and the classes of rows. No program is named here. -/
namespace Go.Proofs.YtjihfabhgcfjnaaGreatDoor
set_option linter.unusedVariables false
set_option linter.unusedSimpArgs false
open Go.RowKit

theorem rowE_mem {m : List (List Int)} {i : Nat} (hi : i < m.length) : rowE_ m i ∈ m := List.mem_of_getElem? (rowE_get hi)
theorem mem_rowE {m : List (List Int)} {x : List Int} (hx : x ∈ m) : ∃ i, i < m.length ∧ rowE_ m i = x := by
  obtain ⟨i, hi⟩ := List.getElem?_of_mem hx
  exact ⟨i, (List.getElem?_eq_some_iff.1 hi).1, rowE_of hi⟩
theorem smB_small {x : Int} (h : x.natAbs ≤ 1000000000) : smB x = true := smB_of (K := 10) (by decide) (by decide) (Nat.lt_of_le_of_lt h (by decide))
theorem all_smB {r : List Int} (h : RowLe 1000000000 r) : r.all smB = true := by
  rw [List.all_eq_true]; exact fun x hx => smB_small (h x hx)
theorem okRow_of {r : List Int} (hl : r.length ≤ 64) (h : RowLe 1000000000 r) : okRow r := ⟨hl, fun x hx => by have := h x hx; omega⟩
theorem allE_of {n : Nat} : ∀ {R : List (List Int)}, (∀ r ∈ R, okRow r ∧ r.length = n) → allE n R = 0
  | [], _ => rfl
  | r :: l, h => by
    have hr := h r (by simp)
    unfold allE
    rw [if_pos ((rowE_zero r).2 hr.1), if_pos (by omega)]
    exact allE_of fun x hx => h x (by simp [hx])

/-- The form of few small rows. -/
theorem plan_form (n : Nat) (m : List (List Int)) (hn : n ≤ 12) (hm : m.length ≤ 4) (hw : ∀ x ∈ m, x.length = n) (h9 : ∀ x ∈ m, RowLe 9 x) :
    ∃ F R ps, formO n F n m = some R ∧ HForm n R ps ∧ R.length ≤ 4 ∧ (∀ x ∈ R, RowLe 629856 x ∧ x.length = n) ∧ SpEq n (RowsFrom 0 m) (RowsFrom 0 R) ∧ chkE n R = 0 ∧ ∃ F', formO n F' n R = some R := by
  obtain ⟨F, R, ps, h1, h2, h3, -, h5⟩ := form_all n 4 1 m hw (fun x hx => (h9 x hx).mono (by decide)) (.inl hm) (by decide) (by decide)
  have hR4 : R.length ≤ 4 := by omega
  have hb : ∀ x ∈ R, RowLe 629856 x ∧ x.length = n := by
    intro x hx
    obtain ⟨i, hi, rfl⟩ := mem_rowE hx
    refine ⟨(form_bound (N := 9) h3 (fun j hj => hw _ (rowE_mem hj)) (fun j hj => h9 _ (rowE_mem hj)) h5 i hi).mono ?_, h3.1 i hi⟩
    have hc : R.length = 0 ∨ R.length = 1 ∨ R.length = 2 ∨ R.length = 3 ∨ R.length = 4 := by omega
    rcases hc with h | h | h | h | h <;> rw [h] <;> decide
  have hk : chkE n R = 0 := by
    unfold chkE
    have hl : latE n R = 0 := by
      unfold latE
      rw [if_neg (by omega), if_neg (by omega)]
      exact allE_of fun r hr => ⟨okRow_of (by have := (hb r hr).2; omega) ((hb r hr).1.mono (by decide)), (hb r hr).2⟩
    rw [if_pos hl, if_pos (hform_herm h3)]
  refine ⟨F, R, ps, h1, h3, hR4, hb, h5, hk, ?_⟩
  obtain ⟨F', R', ps', g1, g2, g3, -, g5⟩ := form_all n 4 6 R (fun x hx => (hb x hx).2) (fun x hx => (hb x hx).1.mono (by decide)) (.inl hR4) (by decide) (by decide)
  exact ⟨F', by rw [g1, hform_unique g3 h3 g5.symm]⟩

/-- A small row, reduced. -/
theorem plan_red {n : Nat} {R : List (List Int)} {ps : Nat → Nat} (hR : HForm n R ps) (h4 : R.length ≤ 4) (hb : ∀ x ∈ R, RowLe 629856 x ∧ x.length = n) {v : List Int} (hv : v.length = n) (hva : RowLe 1000000000 v) :
    ∃ s ms, redO R v R.length = some (s, ms) ∧ s.length = n ∧ s.all smB = true ∧ Sp n (RowsFrom 0 R) (lessL 1 v s) ∧ RedP R ps R.length s := by
  have hk : 10 + R.length * (6 + 1) + 1 ≤ 100 := by omega
  obtain ⟨s, ms, e1, e2, e3, e4, e5⟩ := red_ok (K := 100) (e := 6) (a := 10) (by decide) hR (fun i hi => (hb _ (rowE_mem hi)).1.mono (by decide)) hv (hva.mono (by decide)) (by decide) R.length (Nat.le_refl _) hk
  refine ⟨s, ms, e1, e2, ?_, e4, e5⟩
  rw [List.all_eq_true]
  exact fun x hx => smB_of (K := 100) (by decide) (by decide) (Nat.lt_of_le_of_lt (e3 x hx) (Nat.pow_lt_pow_right (by decide) (by omega)))
end Go.Proofs.YtjihfabhgcfjnaaGreatDoor
/- A reduced row is bounded. No program is named here. -/
namespace Go.Proofs.YtjihfabhgcfjnaaGreatDoor
set_option linter.unusedVariables false
set_option linter.unusedSimpArgs false
open Go.RowKit

theorem repl_getD (n c : Nat) : (List.replicate n (0 : Int)).getD c 0 = 0 := by
  rw [List.getD_eq_getElem?_getD]
  by_cases hc : c < n
  · rw [List.getElem?_eq_getElem (by simpa using hc)]; simp
  · rw [List.getElem?_eq_none (by simp; omega)]; rfl
end Go.Proofs.YtjihfabhgcfjnaaGreatDoor
/- The rows whose dot products with given rows are 0: the wide form gives their Hermite form. No program is named here. -/
namespace Go.Proofs.YtjihfabhgcfjnaaGreatDoor
set_option linter.unusedVariables false
set_option linter.unusedSimpArgs false
open Go.RowKit

/-- A dot product of the first n elements. -/
def dotZ (r s : List Int) : Nat → Int
  | 0 => 0
  | n + 1 => dotZ r s n + r.getD n 0 * s.getD n 0
/-- The rows whose dot products with all rows are 0. -/
def Ann (n : Nat) (m : List (List Int)) (v : List Int) : Prop := v.length = n ∧ ∀ i, i < m.length → dotZ (rowE_ m i) v n = 0

end Go.Proofs.YtjihfabhgcfjnaaGreatDoor
/- The annihilator of the annihilator is the saturation, and ranks add up. No program is named here. -/
namespace Go.Proofs.YtjihfabhgcfjnaaGreatDoor
set_option linter.unusedVariables false
set_option linter.unusedSimpArgs false
open Go.RowKit

def smulL (D : Int) (v : List Int) : List Int := v.map (D * ·)
end Go.Proofs.YtjihfabhgcfjnaaGreatDoor
/- More fuel does no harm; annihilators; minors of a saturation. No program is named here. -/
namespace Go.Proofs.YtjihfabhgcfjnaaGreatDoor
set_option linter.unusedVariables false
set_option linter.unusedSimpArgs false
open Go.RowKit

/-- Rows with a multiple in the lattice. -/
def Sat (n : Nat) (m : List (List Int)) (v : List Int) : Prop := v.length = n ∧ ∃ D : Int, D ≠ 0 ∧ Sp n (RowsFrom 0 m) (smulL D v)

end Go.Proofs.YtjihfabhgcfjnaaGreatDoor
/- A range over a function whose iterator keeps a row of ints of its own, which it hands to each round and writes between two rounds. -/
namespace Go.Proofs.YtjihfabhgcfjnaaGreatDoor
set_option linter.unusedVariables false
set_option linter.unusedSimpArgs false
open Go.RowKit Go.Shelf

/-- Blocks of cells of a type lie as they lay. -/
structure KeepT (T : TypeId) (A B : World) : Prop where
  size : A.heap.size ≤ B.heap.size
  same : ∀ (b : Nat) C fr, A.heap[b]? = some (.cells C T fr) → B.heap[b]? = some (.cells C T fr)
theorem KeepT.refl (T : TypeId) (A : World) : KeepT T A A := ⟨Nat.le_refl _, fun _ _ _ h => h⟩
theorem KeepT.trans {T : TypeId} {A B C : World} (h : KeepT T A B) (k : KeepT T B C) : KeepT T A C := ⟨Nat.le_trans h.size k.size, fun b C fr hb => k.same b C fr (h.same b C fr hb)⟩
/-- The iterator's part of it: cells of the type alone. -/
def AbC {β : Type} (B : Nat) (T : TypeId) (J : β → World → Prop) : Prop :=
  ∀ s W W' row, J s W → W.grownBy W' row → (∀ r, row = some r → B ≤ r ∧ ∃ C fr, W.heap[r]? = some (.cells C T fr)) → J s W'
/-- A row of numbers in a block of its own. -/
structure SetAt (T : TypeId) (W : World) (v : Value) (s : List Nat) : Prop where
  at_ : ∃ g C fr, v = .slice (some ⟨g, 0, none⟩) s.length s.length ∧ W.heap[g]? = some (.cells C T fr) ∧ ∀ (j : Nat) x, s[j]? = some x → W.cell? ⟨g, j, none⟩ = some (.int .i64 (x : Int))
theorem SetAt.keep {T : TypeId} {W W' : World} {v : Value} {s : List Nat} (h : SetAt T W v s) (hk : KeepT T W W') : SetAt T W' v s := by
  obtain ⟨g, C, fr, h1, h2, h3⟩ := h.at_
  refine ⟨g, C, fr, h1, hk.same g C fr h2, fun j x hx => ?_⟩
  have hb : W'.heap[g]? = W.heap[g]? := (hk.same g C fr h2).trans h2.symm
  have := h3 j x hx
  unfold World.cell? at this ⊢
  rw [hb]; exact this
/-- An iterator that hands out the lists of L, one by one. -/
def SetsGive (F : Fence) (n : Nat) (P : Program) (g : Nat) (lb : Array Value) (T : TypeId) (L : List (List Nat)) (w : World) : Prop :=
  ∀ (l : Nat) (J : Nat → World → Prop) (W : World), Below w.heap.size w W → AbC W.heap.size T J →
    (∀ i s v W1, L[i]? = some s → J i W1 → SetAt T W1 v s → YieldAt F (n - 1) P l #[v] W1 fun e W' => e = .returned (.bool true) ∧ J (i + 1) W' ∧ KeepT T W1 W') →
    J 0 W → CallsIn F n P g (#[.func (.yield l) #[] #[]] ++ lb) W fun e W' => (∃ v, e = .returned v) ∧ J L.length W'
theorem SetsGive.inRound {F : Fence} {n : Nat} {P : Program} {g : Nat} {lb : Array Value} {T : TypeId} {L : List (List Nat)} {w : World} (l : Nat) (h : SetsGive F n P g lb T L w) : SetsGive (F.inRound l) n P g lb T L w := h

/-- A loop's record. -/
def recL (fn : FuncId) (tmps : Array Value) (ps : Array Tmp) (assign body : Code) (dd : Nat) (st : LoopState) : Loop := { state := st, pending := none, fn := fn, tmps := tmps, params := ps, assign := assign, body := body, defers := dd }
end Go.Proofs.YtjihfabhgcfjnaaGreatDoor
