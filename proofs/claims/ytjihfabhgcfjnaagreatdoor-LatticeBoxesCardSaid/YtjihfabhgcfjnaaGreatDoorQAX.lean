/- Merged: LatIdx. -/
import Derived.Test.YtjihfabhgcfjnaaGreatDoorQAW
/- Contract of package lattice: Index. Printed by gen/latidx.py. -/
namespace Go.Proofs.YtjihfabhgcfjnaaGreatDoor
set_option linter.unusedVariables false
set_option linter.unusedSimpArgs false
open Go.RowKit Go.Shelf
attribute [local go_sem] Oper.semAt_some

/-- The element of the pivot. -/
def pivV (x : List Int) : Int := x.getD (pivC x) 0
/-- The product of the first pivots. -/
def prodO (m : List (List Int)) : Nat → Option Int
  | 0 => some 1
  | i + 1 => match prodO m i with
    | none => none
    | some p => if 0 ≤ leadL (rowE_ m i) ∧ sm9B p = true ∧ sm9B (pivV (rowE_ m i)) = true then some (p * pivV (rowE_ m i)) else none
theorem prodO_step {m : List (List Int)} {i : Nat} {y : Int} (h : prodO m (i + 1) = some y) : ∃ p, prodO m i = some p ∧ 0 ≤ leadL (rowE_ m i) ∧ sm9B p = true ∧ sm9B (pivV (rowE_ m i)) = true ∧ y = p * pivV (rowE_ m i) := by
  unfold prodO at h
  cases hp : prodO m i with
  | none => rw [hp] at h; cases h
  | some p =>
    rw [hp] at h
    simp only at h
    by_cases hc : 0 ≤ leadL (rowE_ m i) ∧ sm9B p = true ∧ sm9B (pivV (rowE_ m i)) = true
    · rw [if_pos hc] at h
      exact ⟨p, rfl, hc.1, hc.2.1, hc.2.2, (Option.some.inj h).symm⟩
    · rw [if_neg hc] at h; cases h
theorem prodO_some {m : List (List Int)} {n : Nat} : ∀ {y}, prodO m n = some y → ∀ i, i ≤ n → ∃ z, prodO m i = some z := by
  induction n with
  | zero =>
    intro y h i hi
    obtain rfl : i = 0 := by omega
    exact ⟨_, h⟩
  | succ n ih =>
    intro y h i hi
    by_cases hn : i = n + 1
    · subst hn; exact ⟨_, h⟩
    · obtain ⟨p, hp, -⟩ := prodO_step h
      exact ih hp i (by omega)
def calmQ (Q : Exit → Act → World → Prop) : Exit → Act → World → Prop
  | .normal, a, w => Q .normal a w
  | _, _, _ => False
theorem wp_calm {P : Program} {c : Code} {Q : Exit → Act → World → Prop} {a : Act} {w : World} (h : c.wp P (calmQ Q) a w) : c.wp P Q a w :=
  wp_mono h fun e a w hh => by
    cases e with
    | normal => exact hh
    | _ => exact hh.elim
/-- What Index ends in. -/
def IdxR (q : Int) (w : World) (e : Ending) (w' : World) : Prop := (if fit9B q = true then e = .returned (.tuple #[.int .i64 q, .int .i64 0]) else e = .returned (.tuple #[.int .i64 0, .int .i64 4])) ∧ Ext w w'
theorem GrownS.more {bO : Nat} {w5 W W' : World} {row : Option Nat} (h : GrownS (· = bO) w5 W) (hg : W.grownBy W' row) (hr : ∀ r, row = some r → w5.heap.size ≤ r) : GrownS (· = bO) w5 W' :=
  ⟨hg.os.trans h.os, hg.tape.trans h.tape, hg.output.trans h.output, Nat.le_trans h.size hg.size, fun k hk hn => (hg.block k (Nat.lt_of_lt_of_le hk h.size) (fun e => by have := hr k e.symm; omega)).trans (h.block k hk hn)⟩
theorem ResM.keep {w w6 w' : World} {base : Nat} {v : Value} {R : List (List Int)} (h : ResM w base v R) (he : Ext w w6) (hg : GrownS (· = w.heap.size) w6 w') : ResM w' base v R := by
  obtain ⟨a, c, h1, h2, h3, h4⟩ := h
  refine ⟨a, c, h1, h2, h3, ?_⟩
  rcases h4 with h4 | ⟨g, tags, h5, h6, h7⟩
  · exact .inl h4
  · refine .inr ⟨g, tags, h5, (h6.ext he).same hg.size (fun b hb' => hg.block b ((h6.ext he).blt hb') (fun e => ?_)), h7⟩
    have := h6.blt hb'
    omega

set_option maxRecDepth 100000 in
set_option maxHeartbeats 4000000 in
theorem index_any (n F : Nat) (xss K R : List (List Int)) (P Q : Int) (v : Value) (w : World) (h : LatV w v n xss) (hE : chkE n xss = 0) (hn : 1 ≤ n) (hk0 : kerS F n xss = some K) (hk : kerS F n K = some R) (hKl : K.length ≤ 900)
    (hP : prodO xss xss.length = some P) (hQ : prodO R R.length = some Q) (hPs : smB P = true) (hQs : smB Q = true) (hQ0 : Q ≠ 0) (hq : smB (fdq P Q) = true) (hRl : R.length ≤ 900) (hlib : LibT w) (hb : 2 < w.heap.size) :
    Calls Tryz.prog 43 #[v] w (IdxR (fdq P Q) w) := by
  obtain ⟨l1, l2, l3, l4⟩ := latE_rows (chkE_zero hE).1
  have HC := Lib.hid (fun W (hW : Ext w W) => latChk_any n xss v W (h.ext hW))
  rw [hE] at HC
  obtain ⟨u, rfl, hu⟩ := h
  have HLO := Lib.hid (fun W (hW : Ext w W) => longsS_any xss u W (hu.ext hW) (by omega) (fun xs hx => by have := (l4 xs hx).2; omega) (hlib.pow.ext hW))
  have HK1 := Lib.hid (fun W V base (hM : ResM W base V xss) (hW : Ext w W) => kernelS_any F n xss V base W K hM hk0 (by omega) hn (hlib.pow.ext hW) (Nat.lt_of_lt_of_le hb hW.size))
  have HK2 := Lib.hid (fun W V base (hM : ResM W base V K) (hW : Ext w W) => kernelS_any F n K V base W R hM hk (by omega) hn (hlib.pow.ext hW) (Nat.lt_of_lt_of_le hb hW.size))
  have HPV := Lib.hid (fun W (hW : Ext w W) => pivots_any n xss u W (hu.ext hW))
  have HU := Lib.hid hu; have HLIB := Lib.hid hlib; have HP := Lib.hid hP; have HQ := Lib.hid hQ; have HPS := Lib.hid hPs; have HQS := Lib.hid hQs; have HQ0 := Lib.hid hQ0; have HSQ := Lib.hid hq; have HRL := Lib.hid hRl; have HB := Lib.hid hb
  have HL4 := Lib.hid (fun x (hx : x ∈ xss) => show x.length ≤ 1000 by have := (l4 x hx).2; omega)
  obtain ⟨a, c, rfl, h1, h2, -, hc⟩ := inCell.open hu
  clear hu hc hE hk hlib l1 l2 l3 l4 hb hk0 hKl hP hQ hPs hQs hQ0 hq hRl
  refine (callsIn_wide (n := 9)).1 ?_
  refine callsIn_of_wp_marks Tryz.func43 rfl trivial ?_ rfl
  simp only [Tryz.ntmps43, List.size_toArray, List.length_cons, List.length_nil, Nat.reduceAdd, Nat.reduceSub, Array.replicate_succ, Array.replicate_zero, List.push_toArray, List.append_toArray, List.nil_append, List.cons_append]
  obtain ⟨W1, hW1, hE1, hs1, hb1⟩ := lat_new w (.int .i64 n) (.slice a xss.length c)
  have HB1 := Lib.hid hb1; have HE1 := Lib.hid hE1
  obtain ⟨e10, e11, -⟩ := lat_block hb1
  clear hE1 hs1 hb1
  refine wpIn_wide.2 ?_
  go_wp2_with fail
  refine (HC.out _ HE1.out).mono ?_
  rintro e w1 ⟨rfl, hE3⟩
  have HE3 := Lib.hid (HE1.out.trans hE3)
  have g0 := hE3.cell e10; have g1 := hE3.cell e11
  have HB3 := Lib.hid (block_ext HB1.out hE3)
  have HS3 : Hid (w.heap.size < w1.heap.size) := block_lt HB3.out
  clear hE3 HC e10 e11 HB1 hW1
  go_wp2_with fail
  --<R4
  refine wp_calm ?_
  refine region_anyE (fun w' => w'.cell? ⟨w.heap.size, 0, none⟩ = some (.int .i64 n) ∧ w'.cell? ⟨w.heap.size, 1, none⟩ = some (.slice a xss.length c) ∧ Hid (Ext w1 w')) 9 (by kernel_rfl) ⟨(Ext.drew w1).cell g0, (Ext.drew w1).cell g1, Ext.drew w1⟩ (fun hHeld => ?_)
  refine anyE_takeW (v := ?_) 0 rfl (by kernel_rfl) (by kernel_rfl) (by kernel_rfl) (by decide) (fun _ _ _ h => h) (Or.inl ⟨by rfl, ?_⟩) (by assumption) ?_
  rotate_left
  · ((intro w'); (try go_simp); (try with_reducible rfl))
  (try simp only [Act.put, List.setIfInBounds_toArray, List.set_cons_zero, List.set_cons_succ])
  refine anyE_take (v := ?_) 1 rfl (by kernel_rfl) (by kernel_rfl) (by kernel_rfl) (by kernel_rfl) (by kernel_rfl) (fun _ _ _ h => h) (Or.inl ⟨by rfl, ?_⟩) (by assumption) ?_
  rotate_left
  · ((intro w' hSw); (try dsimp only at hSw); (try go_simp); (try with_reducible rfl))
  (try simp only [Act.put, List.setIfInBounds_toArray, List.set_cons_zero, List.set_cons_succ])
  refine anyE_takeW (v := ?_) 3 rfl (by kernel_rfl) (by kernel_rfl) (by kernel_rfl) (by decide) (fun _ _ _ h => h) (Or.inl ⟨by rfl, ?_⟩) (by assumption) ?_
  rotate_left
  · ((intro w'); (try go_simp); (try with_reducible rfl))
  (try simp only [Act.put, List.setIfInBounds_toArray, List.set_cons_zero, List.set_cons_succ])
  refine anyE_take (v := ?_) 4 rfl (by kernel_rfl) (by kernel_rfl) (by kernel_rfl) (by kernel_rfl) (by kernel_rfl) (fun _ _ _ h => h) (Or.inl ⟨by rfl, ?_⟩) (by assumption) ?_
  rotate_left
  · ((intro w' hSw); (try dsimp only at hSw); (try go_simp); (try with_reducible rfl))
  (try simp only [Act.put, List.setIfInBounds_toArray, List.set_cons_zero, List.set_cons_succ])
  refine anyE_takeW (v := ?_) 6 rfl (by kernel_rfl) (by kernel_rfl) (by kernel_rfl) (by decide) (fun _ _ _ h => h) (Or.inl ⟨by rfl, ?_⟩) (by assumption) ?_
  rotate_left
  · ((intro w'); (try go_simp); (try with_reducible rfl))
  (try simp only [Act.put, List.setIfInBounds_toArray, List.set_cons_zero, List.set_cons_succ])
  refine anyE_take (v := ?_) 7 rfl (by kernel_rfl) (by kernel_rfl) (by kernel_rfl) (by kernel_rfl) (by kernel_rfl) (fun _ _ _ h => h) (Or.inl ⟨by rfl, ?_⟩) (by assumption) ?_
  rotate_left
  · ((intro w' hSw); (try dsimp only at hSw); (try go_simp); (try with_reducible rfl))
  (try simp only [Act.put, List.setIfInBounds_toArray, List.set_cons_zero, List.set_cons_succ])
  refine anyE_step 2 (by kernel_rfl) rfl (fun K hK => ?_)
  go_simp
  (go_at_call 89; refine (HLO.out _ (HE3.out.trans hHeld.2.2.out)).mono ?_)
  rintro e wx ⟨a2, c2, rfl, hM2, hEz⟩
  have HM2 := Lib.hid hM2
  go_wp2_with fail
  refine hK.out _ _ ⟨(hEz).cell hHeld.1, (hEz).cell hHeld.2.1, Ext.trans hHeld.2.2.out (hEz)⟩ (fun hHeld => ?_)
  clear hK K
  (try simp only [Act.put, List.setIfInBounds_toArray, List.set_cons_zero, List.set_cons_succ])
  refine anyE_step 5 (by kernel_rfl) rfl (fun K hK => ?_)
  go_simp
  (go_at_call 92; refine (HK1.out _ _ _ HM2.out (HE3.out.trans hHeld.2.2.out)).mono ?_)
  rintro e wy ⟨a3, c3, rfl, hM3, hEz⟩
  have HM3 := Lib.hid hM3
  go_wp2_with fail
  refine hK.out _ _ ⟨(hEz).cell hHeld.1, (hEz).cell hHeld.2.1, Ext.trans hHeld.2.2.out (hEz)⟩ (fun hHeld => ?_)
  clear hK K
  (try simp only [Act.put, List.setIfInBounds_toArray, List.set_cons_zero, List.set_cons_succ])
  refine anyE_step 8 (by kernel_rfl) rfl (fun K hK => ?_)
  go_simp
  (go_at_call 92; refine (HK2.out _ _ _ HM3.out (HE3.out.trans hHeld.2.2.out)).mono ?_)
  rintro e wv ⟨a4, c4, rfl, hM4, hEz⟩
  have HM4 := Lib.hid hM4
  have HSY : Hid (w1.heap.size ≤ wy.heap.size) := Below.size hHeld.2.2.out
  go_wp2_with fail
  refine hK.out _ _ ⟨(hEz).cell hHeld.1, (hEz).cell hHeld.2.1, Ext.trans hHeld.2.2.out (hEz)⟩ (fun hHeld => ?_)
  clear hK K
  (try simp only [Act.put, List.setIfInBounds_toArray, List.set_cons_zero, List.set_cons_succ])
  have HXV : Hid (Ext w1 wv) := hHeld.2.2.out
  refine anyE_last 9 (by kernel_rfl) (by kernel_rfl) (by kernel_rfl) rfl (fun K hK => ?_)
  go_simp
  refine hK.out _ _ ?_
  clear hK K
  (try simp only [Act.put, List.setIfInBounds_toArray, List.set_cons_zero, List.set_cons_succ])
  unfold calmQ
  -->R4
  obtain ⟨e0, e1, -⟩ := lat_block (block_ext HB3.out HXV.out)
  clear g0 g1 hHeld
  obtain ⟨W5, hW5⟩ : ∃ W5, wv.alloc (.cells #[.string (intB 1)] 125) = W5 := ⟨_, rfl⟩
  have h49 : intB 1 = ⟨#[49]⟩ := by kernel_rfl
  have hW5' : wv.alloc (.cells #[.string ⟨#[49]⟩] 125) = W5 := by rw [← hW5, h49]
  have hE5 : Ext wv W5 := by rw [← hW5]; exact Ext.alloc _ _
  have hb5 : W5.heap[wv.heap.size]? = some (.cells #[.string (intB 1)] 125 (0, 0)) := by rw [← hW5]; exact block_new _ _ _
  have hs5 : W5.heap.size = wv.heap.size + 1 := by rw [← hW5]; simp
  have HB5 := Lib.hid hb5; have HS5 := Lib.hid hs5; have HE5 := Lib.hid hE5
  have HXW : Hid (Ext w wv) := HE3.out.trans HXV.out
  have d0 := hE5.cell e0; have d1 := hE5.cell e1
  clear hW5 hb5 hs5 hE5 e0 e1 h49
  go_wp2_with fail
  refine (HPV.out _ (HXW.out.trans HE5.out)).mono ?_
  rintro e w6 ⟨bL, rfl, hL6, hE6⟩
  have HL6 := Lib.hid hL6
  have HB6 := Lib.hid (block_ext HB5.out hE6)
  have HE6 := Lib.hid (HXW.out.trans (HE5.out.trans hE6))
  have HV6 := Lib.hid (HE5.out.trans hE6)
  have HS6 : Hid (w.heap.size ≤ wv.heap.size ∧ wv.heap.size < w6.heap.size ∧ w.heap.size < wy.heap.size) := ⟨HXW.out.size, by have := HS5.out; have := hE6.size; omega, by have := HS3.out; have := HSY.out; omega⟩
  clear hL6 hE6 d0 d1 hW5'
  go_wp2_with fail
  refine (wpIn_wide (n := 9)).1 ?_
  refine wpIn_rangeMakes rfl (by omega) (gf := 138) (lb := #[.pointer (some ⟨bL, 0, none⟩)]) rfl trivial (enters_of Tryz.func138 (by kernel_rfl) rfl)
    (pivots1_in (9 - 1) (by omega) n xss _ bL w w6 HL6.out HU.out HL4.out HLIB.out.pow) (fun W h => h)
    (fun i A W args hY => by obtain ⟨x, gx, cx, -, rfl, -⟩ := hY; rfl)
    (fun i W => ∃ p, prodO xss i = some p ∧ GrownS (· = wv.heap.size) w6 W ∧ W.heap[wv.heap.size]? = some (.cells #[.string (intB p)] 125 (0, 0))) ?ab ?ix ⟨1, rfl, GrownS.refl _ _, HB6.out⟩ ?rounds ?done
  case ab =>
    rintro i W W' row ⟨p, h1, h2, h3⟩ hg hr
    exact ⟨p, h1, h2.more hg (fun r e => (hr r e).1), block_grown h3 hg (fun e => by have := (hr _ e).1; have := HS6.out.2.1; omega)⟩
  case ix =>
    rintro i A ⟨p, h1, h2, h3⟩
    exact Below.trans HE6.out (h2.below (Nat.le_trans HS6.out.1 (Nat.le_of_lt HS6.out.2.1)) (fun k hk => by rw [hk]; exact HS6.out.1))
  case rounds =>
    rintro i A W args hi ⟨p, hpr, hG, hbx⟩ hE ⟨x, gx, cq, hx, rfl, hRx, hgx, hcx1, hcx2⟩ ⟨r0, hr0⟩
    have hx' : rowE_ xss i = x := rowE_of hx
    obtain ⟨z, hz⟩ := prodO_some HP.out (i + 1) (by omega)
    obtain ⟨p', e1, a1, a2, a3, a4⟩ := prodO_step hz
    rw [hpr] at e1
    obtain rfl := Option.some.inj e1
    rw [hx'] at a1 a3 a4
    obtain ⟨b1, b2, b3⟩ := leadL_lt x a1
    unfold pivV at a3 a4
    obtain ⟨C, hC⟩ : ∃ C, pivC x = C := ⟨_, rfl⟩
    rw [hC] at b1 b2 b3 a3 a4
    obtain ⟨xc, hxc⟩ : ∃ xc, x.getD C 0 = xc := ⟨_, rfl⟩
    have hxg : x[C]? = some xc := by rw [← hxc, List.getD_eq_getElem?_getD, List.getElem?_eq_getElem b1]; rfl
    rw [hxc] at a3 a4
    have HMU := Lib.hid (fun V (hV : Ext w V) => mulZ p xc V (sm9_of a2) (sm9_of a3) (HLIB.out.pow.ext hV))
    rw [← a4] at HMU
    have HZ := Lib.hid hz
    have HGX : Hid (gx ≠ w6.heap.size + 1) := fun e => by
      have h1 := hRx.cell C xc hxg
      rw [Nat.zero_add] at h1
      rw [e] at h1
      unfold World.cell? at h1
      rw [hr0] at h1
      simp at h1
    have HGR := Lib.hid (hG.ext hE); have HBX := Lib.hid (block_ext hbx hE)
    have HRX := Lib.hid hRx; have HXG := Lib.hid hxg
    have HGXO : Hid (gx ≠ wv.heap.size) := fun e => by have := block_lt hbx; omega
    rw [b2]
    unfold maxLen at hcx2
    obtain ⟨NX, hNX⟩ : ∃ NX, x.length = NX := ⟨_, rfl⟩
    rw [hNX] at b1 hcx1 ⊢
    clear hpr hG hbx hE hx hx' hRx hgx hr0 hz a1 a2 a3 a4 b2 b3 hC hxc hxg hi hNX e1
    gi_wp2_with fail
    refine ⟨KeepsFrom.refl _ _, ?_⟩
    rintro Wb hgb ⟨r1, hr1⟩ ⟨r2, hr2⟩
    have hGb := HGR.out.more hgb (fun r e => by cases e; omega)
    have hBb := block_grown HBX.out hgb (fun e => by have := Option.some.inj e; have := HS6.out.2.1; omega)
    have hXb := HRX.out.same hgb.size (hgb.block gx HRX.out.lt (fun e => HGX.out (Option.some.inj e)))
    have t0 := block_cell hBb 0; have f0 := block_free hBb 0
    have t2 := hXb.cell C xc HXG.out
    rw [Nat.zero_add] at t2
    simp only [List.getElem?_toArray, List.getElem?_cons_zero, List.getElem?_cons_succ] at t0
    have HGB := Lib.hid hGb; have HBB := Lib.hid hBb
    have HXWb : Hid (Ext w Wb) := Below.trans HE6.out (hGb.below (Nat.le_trans HS6.out.1 (Nat.le_of_lt HS6.out.2.1)) (fun k hk => by rw [hk]; exact HS6.out.1))
    have q2 : (C : Int) < (NX : Int) := by omega
    clear hGb hBb hXb hgb hr1 hr2 HGR HBX HRX HGX HXG
    gi_wp2_with fail
    --<R9
    refine regionIn_anyE (fun w' => w'.cell? ⟨wv.heap.size, 0, none⟩ = some (.string (intB p)) ∧ w'.cell? ⟨gx, C, none⟩ = some (.string (intB xc)) ∧ Hid (Ext Wb w')) 6 (by kernel_rfl) (by kernel_rfl) (by rintro ⟨_, _, h⟩; exact absurd (show Exit.outgrown = Exit.normal from h.1) (by simp)) ⟨(Ext.drew Wb).cell t0, (Ext.drew Wb).cell t2, Ext.drew Wb⟩ (fun hHeld => ?_)
    refine anyE_take (v := ?_) 0 rfl (by kernel_rfl) (by kernel_rfl) (by kernel_rfl) (by kernel_rfl) (by kernel_rfl) (fun _ _ _ h => h) (Or.inl ⟨by rfl, ?_⟩) (by assumption) ?_
    rotate_left
    · ((intro w' hSw); (try dsimp only at hSw); (try go_simp); (try with_reducible rfl))
    (try simp only [Act.put, List.setIfInBounds_toArray, List.set_cons_zero, List.set_cons_succ])
    refine anyE_takeW (v := ?_) 1 rfl (by kernel_rfl) (by kernel_rfl) (by kernel_rfl) (by decide) (fun _ _ _ h => h) (Or.inl ⟨by rfl, ?_⟩) (by assumption) ?_
    rotate_left
    · ((intro w'); (try go_simp); (try with_reducible rfl))
    (try simp only [Act.put, List.setIfInBounds_toArray, List.set_cons_zero, List.set_cons_succ])
    refine anyE_takeW (v := ?_) 2 rfl (by kernel_rfl) (by kernel_rfl) (by kernel_rfl) (by decide) (fun _ _ _ h => h) (Or.inl ⟨by rfl, ?_⟩) (by assumption) ?_
    rotate_left
    · ((intro w'); (try go_simp); (try with_reducible rfl))
    (try simp only [Act.put, List.setIfInBounds_toArray, List.set_cons_zero, List.set_cons_succ])
    refine anyE_takeW (v := ?_) 3 rfl (by kernel_rfl) (by kernel_rfl) (by kernel_rfl) (by decide) (fun _ _ _ h => h) (Or.inl ⟨by rfl, ?_⟩) (by assumption) ?_
    rotate_left
    · ((intro w'); (try go_simp); (try with_reducible rfl))
    (try simp only [Act.put, List.setIfInBounds_toArray, List.set_cons_zero, List.set_cons_succ])
    refine anyE_take (v := ?_) 4 rfl (by kernel_rfl) (by kernel_rfl) (by kernel_rfl) (by kernel_rfl) (by kernel_rfl) (fun _ _ _ h => h) (Or.inl ⟨by rfl, ?_⟩) (by assumption) ?_
    rotate_left
    · ((intro w' hSw); (try dsimp only at hSw); (try go_simp); (try with_reducible rfl))
    (try simp only [Act.put, List.setIfInBounds_toArray, List.set_cons_zero, List.set_cons_succ])
    refine anyE_step 5 (by kernel_rfl) rfl (fun K hK => ?_)
    go_simp
    (go_at_call 94; refine (HMU.out _ (HXWb.out.trans hHeld.2.2.out)).mono ?_)
    rintro e wz ⟨rfl, hEz⟩
    have HXZ : Hid (Ext Wb wz) := Ext.trans hHeld.2.2.out hEz
    have hbz := block_ext HBB.out HXZ.out
    have t3 := block_cell hbz 0; have f3 := block_free hbz 0
    simp only [List.getElem?_toArray, List.getElem?_cons_zero, List.getElem?_cons_succ] at t3
    go_wp2_with fail
    refine hK.out _ _ ⟨(hEz).cell hHeld.1, (hEz).cell hHeld.2.1, Ext.trans hHeld.2.2.out (hEz)⟩ (fun hHeld => ?_)
    clear hK K
    (try simp only [Act.put, List.setIfInBounds_toArray, List.set_cons_zero, List.set_cons_succ])
    refine anyE_last 6 (by kernel_rfl) (by kernel_rfl) (by kernel_rfl) rfl (fun K hK => ?_)
    go_simp
    refine hK.out _ _ ?_
    clear hK K
    (try simp only [Act.put, List.setIfInBounds_toArray, List.set_cons_zero, List.set_cons_succ])
    -->R9
    gi_wp2_with fail
    have HXZ2 := Lib.hid HXZ
    refine ⟨⟨Nat.le_trans HXZ2.out.size (by simp [World.setCell]), fun k o hk ho hc => ?_⟩, z, HZ.out, ?_, ?_⟩
    · exact (Below.heap_setCell _ _ _ _ (fun e => by have e' : k = wv.heap.size := e; have := HS6.out.2.1; omega)).trans ((HXZ2.out.block k (block_lt ho)).trans ho)
    · exact (HGB.out.ext HXZ2.out).setCell rfl 0 _
    · have := block_set (block_ext HBB.out HXZ2.out) 0 (.string (intB z)); simpa using this
  case done =>
    rintro W ⟨p, hpr, hG, hbx⟩ hD
    have e1 := HP.out
    rw [hpr] at e1
    obtain rfl := Option.some.inj e1
    have HBX := Lib.hid hbx; have HD := Lib.hid hD
    have HXW2 : Hid (Ext w W) := Below.trans HE6.out (hG.below (Nat.le_trans HS6.out.1 (Nat.le_of_lt HS6.out.2.1)) (fun k hk => by rw [hk]; exact HS6.out.1))
    have HRW := Lib.hid (HM4.out.keep HV6.out hG)
    clear hpr hG hbx hD e1
    obtain ⟨a5, c5, hv5, k1, k2, hRM⟩ := HRW.out.open
    simp only [Value.slice.injEq] at hv5
    obtain ⟨rfl, -, rfl⟩ := hv5
    have HRM := Lib.hid hRM
    unfold maxLen at k2
    have h49 : (Value.string ⟨#[49]⟩) = .string (intB 1) := by kernel_rfl
    clear hRM HRW
    go_wp2_with fail
    go_loopw [43, 7] (fun t o wr => ∃ (j : Nat) (q : Int), j ≤ R.length ∧ t = .int .i64 j ∧ o = .string (intB q) ∧ Hid (prodO R j = some q) ∧ Ext W wr) (fun t _ _ => R.length - (intOf t).toNat)
    case atStart => exact ⟨0, 1, by omega, rfl, h49, rfl, Ext.refl _⟩
    case round =>
      obtain ⟨j, q, hj, rfl, rfl, HQJ, hE⟩ := hrel
      obtain ⟨wo, rfl⟩ : ∃ wo : World, wo = wr := ⟨_, rfl⟩
      have HEW := Lib.hid hE
      by_cases hlt : j < R.length
      · obtain ⟨gm, tags, rfl, hMM⟩ : ∃ g0 tags, a4 = some ⟨g0, 0, none⟩ ∧ MatB W g0 tags R := by
          rcases HRM.out with h0 | h0
          · rw [h0] at hlt; simp at hlt
          · exact h0
        obtain ⟨t, htj, m1, m2, m3, m4, -⟩ := (hMM.ext hE).get j hlt
        obtain ⟨z, hz⟩ := prodO_some HQ.out (j + 1) (by omega)
        obtain ⟨q', e2, b1, b2, b3, b4⟩ := prodO_step hz
        rw [HQJ.out] at e2
        obtain rfl := Option.some.inj e2
        obtain ⟨x, hx⟩ : ∃ x, rowE_ R j = x := ⟨_, rfl⟩
        rw [hx] at m1 m2 m4 b1 b3 b4
        obtain ⟨d1, d2, d3⟩ := leadL_lt x b1
        unfold pivV at b3 b4
        obtain ⟨C, hC⟩ : ∃ C, pivC x = C := ⟨_, rfl⟩
        rw [hC] at d1 d2 b3 b4
        obtain ⟨xc, hxc⟩ : ∃ xc, x.getD C 0 = xc := ⟨_, rfl⟩
        have hxg : x[C]? = some xc := by rw [← hxc, List.getD_eq_getElem?_getD, List.getElem?_eq_getElem d1]; rfl
        rw [hxc] at b3 b4
        have HMU := Lib.hid (fun V (hV : Ext W V) => mulZ q xc V (sm9_of b2) (sm9_of b3) (HLIB.out.pow.ext (HXW2.out.trans hV)))
        rw [← b4] at HMU
        have HZ := Lib.hid hz
        have HLD := Lib.hid (lead_any x t.1 t.2.1 t.2.2 wo m4 m2 m3)
        rw [d2] at HLD
        have g2 := m4.cell C xc hxg
        obtain ⟨NX, hNX⟩ : ∃ NX, x.length = NX := ⟨_, rfl⟩
        rw [hNX] at m1 m2 d1 HLD
        unfold maxLen at m3
        have qd : (C : Int) < (NX : Int) := by omega
        clear hMM htj m4 hz e2 b1 b2 b3 b4 hx d2 d3 hC hxc hxg hNX hE
        go_wp2_with fail
        refine HLD.out.mono ?_
        rintro e w7 ⟨rfl, hE7⟩
        have g3 := hE7.cell g2
        have HE7 := Lib.hid (HEW.out.trans hE7)
        clear hE7 HLD
        go_wp2_with fail
        refine (HMU.out _ HE7.out).mono ?_
        rintro e w8 ⟨rfl, hE8⟩
        have HE8 := Lib.hid (HE7.out.trans hE8)
        clear hE8 HMU
        go_wp2_with fail
        go_roundw
        case rel => exact ⟨j + 1, z, by omega, by go_num, rfl, HZ.out, HE8.out⟩
        case measure => simp [intOf]; omega
      · obtain rfl : j = R.length := by omega
        have e2 := HQ.out
        rw [HQJ.out] at e2
        obtain rfl := Option.some.inj e2
        have HDM := Lib.hid (divModZ p q wo (sm_of HPS.out) (sm_of HQS.out) HQ0.out (HLIB.out.pow.ext (HXW2.out.trans hE)))
        have t0 := block_cell (block_ext HBX.out hE) 0
        simp only [List.getElem?_toArray, List.getElem?_cons_zero, List.getElem?_cons_succ] at t0
        obtain ⟨qq, hqq⟩ : ∃ qq, fdq p q = qq := ⟨_, rfl⟩
        rw [hqq] at HDM HSQ
        have HDW := Lib.hid (block_ext HD.out hE)
        have HQQ := Lib.hid hqq
        clear e2 hE hqq
        go_wp2_with fail
        refine HDM.out.mono ?_
        rintro e w9 ⟨rfl, hE9⟩
        have HE9 := Lib.hid (HEW.out.trans hE9)
        have hrq : RowB (w9.alloc (.cells #[.string (intB qq)] 125)) w9.heap.size 0 [qq] := by
          refine ⟨by simp, fun j x hjx => ?_, fun j => ?_⟩
          · cases j with
            | zero => simp at hjx; subst hjx; rw [Nat.zero_add, World.cell?_alloc_new]; rfl
            | succ j => simp at hjx
          · exact block_free (block_new w9 #[.string (intB qq)] 125) j
        have HSH := Lib.hid (short_any [qq] w9.heap.size 0 1 _ hrq (by simp) (by unfold maxLen; omega) (by simp) (by simp [HSQ.out]) (HLIB.out.ext (HXW2.out.trans (HE9.out.trans (Ext.alloc _ _)))))
        have hl1 : ([qq] : List Int).length = 1 := rfl
        rw [hl1] at HSH
        have HDQ := Lib.hid (block_ext HDW.out (hE9.trans (Ext.alloc w9 (.cells #[.string (intB qq)] 125))))
        clear hE9 HDM hrq hl1 t0
        go_wp2_with fail
        refine HSH.out.mono ?_
        rintro e w10 hsr
        unfold ShortR at hsr
        have hall : ([qq].all fit9B) = fit9B qq := by simp
        rw [hall] at hsr
        by_cases hf : fit9B qq = true
        · rw [if_pos hf] at hsr
          obtain ⟨aa, cc, rfl, hI, -, hE10⟩ := hsr
          have HF := Lib.hid hf
          obtain ⟨hl, hcc, hcc2, -, hcell⟩ := hI.cells
          obtain ⟨bb, ob, rfl, hbb, hce⟩ := hcell (by simp)
          have g5 := hce 0 qq rfl
          rw [Nat.add_zero] at g5
          have HDZ := Lib.hid (block_ext HDQ.out hE10)
          have HEZ := Lib.hid (HXW2.out.trans (HE9.out.trans ((Ext.alloc w9 (.cells #[.string (intB qq)] 125)).trans hE10)))
          simp only [List.length_cons, List.length_nil] at hcc
          clear hI hE10 hf hl hcell hce hall HSH
          go_wp2_with fail
          refine ⟨by simp, .inl ⟨_, _, rfl, run_takeDeferred HDZ.out, ?_⟩⟩
          refine ⟨_, results_tmp2 rfl _ _ _, ?_⟩
          unfold IdxR
          rw [HQQ.out, if_pos HF.out]
          exact ⟨rfl, ext_of_grown HEZ.out (grownBy_putObj' _ _ _) (fun r e => by cases e; exact Nat.le_trans HS6.out.1 (Nat.le_of_lt HS6.out.2.1))⟩
        · rw [if_neg hf] at hsr
          obtain ⟨rfl, hE10⟩ := hsr
          have HF := Lib.hid hf
          have HDZ := Lib.hid (block_ext HDQ.out hE10)
          have HEZ := Lib.hid (HXW2.out.trans (HE9.out.trans ((Ext.alloc w9 (.cells #[.string (intB qq)] 125)).trans hE10)))
          clear hE10 hf hall HSH
          go_wp2_with fail
          refine ⟨by simp, .inl ⟨_, _, rfl, run_takeDeferred HDZ.out, ?_⟩⟩
          refine ⟨_, results_tmp2 rfl _ _ _, ?_⟩
          unfold IdxR
          rw [HQQ.out, if_neg HF.out]
          exact ⟨rfl, ext_of_grown HEZ.out (grownBy_putObj' _ _ _) (fun r e => by cases e; exact Nat.le_trans HS6.out.1 (Nat.le_of_lt HS6.out.2.1))⟩
end Go.Proofs.YtjihfabhgcfjnaaGreatDoor
