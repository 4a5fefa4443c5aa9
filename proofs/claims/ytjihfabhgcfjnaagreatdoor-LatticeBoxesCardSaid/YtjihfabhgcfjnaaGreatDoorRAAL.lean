/- Merged: RefR9. -/
import Derived.Test.YtjihfabhgcfjnaaGreatDoorRAAA
import Derived.Test.YtjihfabhgcfjnaaGreatDoorRAAE
import Derived.Test.YtjihfabhgcfjnaaGreatDoorQAY
import Derived.Test.YtjihfabhgcfjnaaGreatDoorQAP
import Derived.Test.YtjihfabhgcfjnaaGreatDoorQAT
import Derived.Test.YtjihfabhgcfjnaaGreatDoorQAN
import Derived.Laws.AppendOwnNone
/- Contracts of reference 09: Represent and Coordinates, modulo a basis in Hermite form. Their regions are printed by gen/refr9.py. -/
namespace Go.Proofs.YtjihfabhgcfjnaaGreatDoor
set_option linter.unusedVariables false
set_option linter.unusedSimpArgs false
open Go.RowKit

/-- 'append(api.Row{}, r...)' of a row that is not empty: a copy in a block of its own. -/
theorem wpList_append_copyF {ops : Array Oper} {rest : List Oper} {o : Oper} {a : Act} {Q : Exit → Act → World → Prop} (hgd : o.guard = none) (s x : Operand)
    (ho : o.op = .call { callee := .builtin .append, args := #[s, x], argTypes := #[37, 37] })
    (w : World) (xs : List Int) (v : Value) (h : Ints w v xs) (hpos : 0 < xs.length) (hlen : xs.length ≤ 1000000) (hs : a.eval s = .slice (some ⟨w.heap.size, 0, none⟩) 0 0) (hx : a.eval x = v)
    (hK : ∀ g c w', RowG w' g 0 xs → w.heap.size ≤ g → xs.length ≤ c → c ≤ maxLen → Ext w w' → wpList Tryz.prog ops Q rest (a.put o.dst (.slice (some ⟨g, 0, none⟩) xs.length c)) w') : wpList Tryz.prog ops Q (o :: rest) a (w.alloc (.cells #[] 3)) := by
  obtain ⟨ad, c, rfl, h1, h2, h3, hb, hc⟩ := h.open
  obtain ⟨i0, hi, hz0, hz1, hz2⟩ := info_parts infoInt
  have hown : (w.alloc (.cells #[] 3)).ownsRow w.heap.size 3 1 (.slice (some ⟨w.heap.size, 0, none⟩) 0 0) 0 [] := World.ownsRow_made w #[] 0 (Nat.le_refl _) (Nat.zero_le _) rfl
  cases ad with
  | none =>
    have h0 : xs = [] := by have := h3 rfl; exact List.eq_nil_of_length_eq_zero (by omega)
    subst h0
    simp at hpos
  | some ad =>
    have hnews : ∀ (j : Nat) (u : Value), (xs.map (Value.int .i64))[j]? = some u → (w.alloc (.cells #[] 3)).cell? (ad.add j) = some u := by
      intro j u hu
      rw [List.getElem?_map] at hu
      cases hj : xs[j]? with
      | none => simp [hj] at hu
      | some x =>
        simp [hj] at hu; subst hu
        obtain ⟨b, off, hab, hbw, hcell⟩ := hc (by intro e; simp [e] at hj)
        cases hab
        have := hcell j x hj
        rw [show (⟨b, off, none⟩ : Addr).add j = ⟨b, off + j, none⟩ by unfold Addr.add; split <;> simp_all]
        exact Ext.cell (Ext.alloc w _) this
    refine wpList_append_own _ hgd s x 37 ho w.heap.size 3 i0 (.int .i64 0) 1 8 Tryz.underlying37 hi hz0 hz1 hz2 rfl (by decide) _ _ _ hs hown ad xs.length c (xs.map (Value.int .i64)) hx (by simp) hnews (ints_oneCell _ _) (by unfold maxLen; omega) (by omega) (by simp) ?_
    intro v' w' hown' hgrow _
    have hown2 : w'.ownsRow w.heap.size 3 1 v' xs.length (xs.map (Value.int .i64)) := by simpa using hown'
    obtain ⟨g, cc, rfl, k1, k2, k3, k4⟩ := owns_shape hown2 hpos
    exact hK g cc w' (RowF.ofOwn hown2).rowG k1 k3 k4 (Below.grown (Ext.alloc w _) hgrow (by simp) (by intro k hk; simp [Value.ownBlock] at hk; omega))

/-- A row that is read. -/
structure RowR (w : World) (g o : Nat) (xs : List Int) : Prop where
  lt : g < w.heap.size
  cell : ∀ (j : Nat) x, xs[j]? = some x → w.cell? ⟨g, o + j, none⟩ = some (.int .i64 x)
theorem RowR.same {w w' : World} {g o : Nat} {xs : List Int} (h : RowR w g o xs) (hs : w.heap.size ≤ w'.heap.size) (hg : w'.heap[g]? = w.heap[g]?) : RowR w' g o xs :=
  ⟨Nat.lt_of_lt_of_le h.lt hs, fun j x hx => by rw [← h.cell j x hx]; unfold World.cell?; simp only [hg]⟩
theorem RowR.ext {w w' : World} {g o : Nat} {xs : List Int} (h : RowR w g o xs) (he : Ext w w') : RowR w' g o xs := h.same he.size (he.block g h.lt)
theorem RowR.grown {w w' : World} {S : Nat → Prop} {g o : Nat} {xs : List Int} (h : RowR w g o xs) (hg : GrownS S w w') (hS : ¬ S g) : RowR w' g o xs := h.same hg.size (hg.block g h.lt hS)
set_option maxRecDepth 100000 in
set_option maxHeartbeats 2000000 in
/-- A multiple of a row that is only read is taken away from another one. -/
theorem less9r_any (k : Int) (r s : List Int) (g o c gs os cs : Nat) (w : World) (hr : RowG w g o r) (hs : RowR w gs os s) (hne : gs ≠ g) (hlen : s.length = r.length)
    (hc : r.length ≤ c) (hc2 : c ≤ maxLen) (hcs2 : s.length ≤ cs) (hcs3 : cs ≤ maxLen)
    (hb : ∀ j : Nat, j < r.length → (-9223372036854775808 ≤ k * s.getD j 0 ∧ k * s.getD j 0 ≤ 9223372036854775807) ∧ (-9223372036854775808 ≤ r.getD j 0 - k * s.getD j 0 ∧ r.getD j 0 - k * s.getD j 0 ≤ 9223372036854775807)) :
    Calls Tryz.prog 53 #[.slice (some ⟨g, o, none⟩) r.length c, .slice (some ⟨gs, os, none⟩) s.length cs, .int .i64 k] w fun e w' => e = .returned (.tuple #[]) ∧ GrownS (· = g) w w' ∧ RowG w' g o (lessL k r s) := by
  have HR := Lib.hid hr; have HSS := Lib.hid hs; have HBD := Lib.hid hb
  unfold maxLen at hc2 hcs3
  have hle1 : s.length ≤ r.length := by omega
  have hle2 : r.length ≤ s.length := by omega
  clear hr hs hb hlen
  go_enter Tryz.func53, Tryz.ntmps53
  go_wp2_with fail
  go_loopw [6] (fun t wr => ∃ j : Nat, j ≤ r.length ∧ t = .int .i64 j ∧ Hid (GrownS (· = g) w wr) ∧ Hid (RowG wr g o (lessP k r s j))) (fun t _ => r.length - (intOf t).toNat)
  case atStart => exact ⟨0, by omega, rfl, GrownS.refl _ _, by rw [lessP_zero]; exact HR.out⟩
  case round =>
    obtain ⟨j, hj, rfl, HG, HP⟩ := hrel
    obtain ⟨wo, rfl⟩ : ∃ wo : World, wo = wr := ⟨_, rfl⟩
    by_cases hlt : j < r.length
    · obtain ⟨b, hbj⟩ : ∃ b, s[j]? = some b := ⟨s[j]'(by omega), List.getElem?_eq_getElem _⟩
      obtain ⟨a, haj⟩ : ∃ a, r[j]? = some a := ⟨r[j], List.getElem?_eq_getElem hlt⟩
      have hlts : j < s.length := by omega
      have g0 := (HSS.out.grown HG.out (by exact hne)).cell j b hbj
      have g1 := HP.out.cell j a (lessP_get k r s j a haj)
      have f1 := HP.out.free (o + j)
      have hbd := HBD.out j hlt
      rw [List.getD_eq_getElem?_getD, List.getD_eq_getElem?_getD, haj, hbj] at hbd
      simp only [Option.getD_some] at hbd
      obtain ⟨⟨m1, m2⟩, m3, m4⟩ := hbd
      have HSET : Hid (∀ W, Ext wo W → RowG (W.setCell ⟨g, o + j, none⟩ (.int .i64 (a - k * b))) g o (lessP k r s (j + 1))) := fun W hE => by
        rw [← lessP_set k r s j a b haj hbj]
        exact (HP.out.ext hE).set j (by rw [lessP_len]; exact hlt) _
      clear hbj haj
      go_upto_region 3 with fail
      go_region
      all_goals
        go_wp2_with fail
        go_roundw
        case rel => exact ⟨j + 1, by omega, by go_num, (HG.out.ext (Ext.drew _)).setCell rfl _ _, HSET.out _ (Ext.drew _)⟩
        case measure => simp [intOf]; omega
    · have HF : Hid (RowG wo g o (lessL k r s)) := by
        unfold Hid; rw [← lessP_all k r s j (by omega)]; exact HP.out
      go_wp2_with fail
      refine bodyPost_end (results_none rfl _ _ _) rfl ⟨rfl, HG.out, HF.out⟩

theorem tB_mono {A : Nat} : ∀ {i j : Nat}, i ≤ j → tB A i ≤ tB A j
  | i, 0, h => by
    have : i = 0 := by omega
    rw [this]; exact Nat.le_refl _
  | i, j + 1, h => by
    by_cases he : i = j + 1
    · rw [he]; exact Nat.le_refl _
    · have := tB_mono (A := A) (show i ≤ j by omega)
      have e : tB A (j + 1) = tB A j + (A + tB A j + 1) := rfl
      omega
theorem hform_leadN {n : Nat} {R : List (List Int)} {ps : Nat → Nat} (hR : HForm n R ps) {i : Nat} (hi : i < R.length) : leadN (rowE_ R i) = ps i := by
  have h := hform_first hR hi
  unfold leadN
  exact (List.findIdx?_eq_some_iff_findIdx_eq.1 h).2
/-- What a step of the reduction needs: the row, its pivot, the bounds. -/
theorem rep_step {n A M : Nat} {R : List (List Int)} {ps : Nat → Nat} (hR : HForm n R ps) (hM : ∀ i, i < R.length → RowLe M (rowE_ R i)) {v : List Int} (hv : v.length = n) (hA : RowLe A v) (hB : A + tB A R.length * (M + 1) ≤ 4000000000000000000) {i : Nat} (hi : i < R.length) :
    (repS R v i).1.length = n ∧ (rowE_ R i).length = n ∧ ps i < n ∧ leadN (rowE_ R i) = ps i ∧ 0 < (rowE_ R i).getD (ps i) 0 ∧ (rowE_ R i).getD (ps i) 0 ≤ 4000000000000000000 ∧ ((repS R v i).1.getD (ps i) 0).natAbs ≤ 4000000000000000000 ∧
      mulQ (repS R v i).1 (rowE_ R i) = fdq ((repS R v i).1.getD (ps i) 0) ((rowE_ R i).getD (ps i) 0) ∧
      ∀ j : Nat, j < (repS R v i).1.length → (-9223372036854775808 ≤ mulQ (repS R v i).1 (rowE_ R i) * (rowE_ R i).getD j 0 ∧ mulQ (repS R v i).1 (rowE_ R i) * (rowE_ R i).getD j 0 ≤ 9223372036854775807) ∧ (-9223372036854775808 ≤ (repS R v i).1.getD j 0 - mulQ (repS R v i).1 (rowE_ R i) * (rowE_ R i).getD j 0 ∧ (repS R v i).1.getD j 0 - mulQ (repS R v i).1 (rowE_ R i) * (rowE_ R i).getD j 0 ≤ 9223372036854775807) := by
  obtain ⟨h1, h2, h3, h4, h5, h6⟩ := rep_bound hR hM hv hA i (by omega)
  have ht := h6 hi
  have hl := hR.1 i hi
  have hm1 := tB_mono (A := A) (show i + 1 ≤ R.length by omega)
  have e : tB A (i + 1) = tB A i + (A + tB A i + 1) := rfl
  have hT : tB A R.length * 1 ≤ tB A R.length * (M + 1) := Nat.mul_le_mul_left _ (by omega)
  have hTM : tB A R.length * M ≤ tB A R.length * (M + 1) := Nat.mul_le_mul_left _ (by omega)
  have hiM : tB A i * M ≤ tB A R.length * M := Nat.mul_le_mul_right _ (by omega)
  have hs := h2 (ps i)
  have hp := hR.2.pos i hi
  have hpM := (hM i hi).getD (ps i)
  have e2 : (rowE_ R i).getD (ps i) 0 = getE R i (ps i) := rfl
  have hMb : M ≤ 4000000000000000000 := by
    have : 1 * (M + 1) ≤ tB A R.length * (M + 1) := Nat.mul_le_mul_right _ (by omega)
    omega
  refine ⟨h1, hl, hR.2.lt i hi, hform_leadN hR hi, by rw [e2]; exact hp, by omega, by omega, by unfold mulQ; rw [hform_pivC hR hi], fun j hj => ?_⟩
  have hq : (mulQ (repS R v i).1 (rowE_ R i) * (rowE_ R i).getD j 0).natAbs ≤ tB A R.length * M := by
    rw [Int.natAbs_mul]; exact Nat.mul_le_mul (by omega) ((hM i hi).getD j)
  have hsj := h2 j
  omega

/-- A row that is built, while another row is turned. -/
theorem Build.turn {w w' : World} {base g : Nat} {v : Value} {xs : List Int} (h : Build w base 3 1 v intC xs) (hg : GrownS (· = g) w w') (hlt : g < base) : Build w' base 3 1 v intC xs := by
  obtain ⟨us, h1, h2, h3, h4⟩ := h
  refine ⟨us, h1, h2, (SafeS.owns h3 (fun k hk hs => by have := (h3.lt k hk).1; omega)) w' hg, fun j u x hu hx => ?_⟩
  have := (h4 j u x hu hx).now
  exact fun _ _ => this
theorem GrownS.belowTrans {S : Nat → Prop} {a b c : World} (h : GrownS S a b) (k : Below a.heap.size b c) : GrownS S a c :=
  ⟨k.os.trans h.os, k.tape.trans h.tape, k.output.trans h.output, Nat.le_trans h.size k.size, fun i hi ho => (k.block i hi).trans (h.block i hi ho)⟩
theorem leadN_lt (r : List Int) : leadN r < r.length ↔ ¬ leadL r < 0 := by
  unfold leadN leadL
  cases hf : r.findIdx? (· != 0) with
  | none =>
    have h : r.findIdx (· != 0) = r.length := by
      rw [List.findIdx_eq_length]
      rw [List.findIdx?_eq_none_iff] at hf
      exact hf
    rw [h]; simp
  | some i =>
    have h := List.findIdx?_eq_some_iff_findIdx_eq.1 hf
    rw [h.2]
    simp only
    exact ⟨fun _ => by omega, fun _ => h.1⟩
theorem RowG.ints {w : World} {g c : Nat} {xs : List Int} (h : RowG w g 0 xs) (hc : xs.length ≤ c) (hc2 : c ≤ maxLen) (hb : ∀ x ∈ xs, -9223372036854775808 ≤ x ∧ x ≤ 9223372036854775807) : Ints w (.slice (some ⟨g, 0, none⟩) xs.length c) xs :=
  RowF.ints ⟨h.lt, fun j x hx => by have := h.cell j x hx; rw [Nat.zero_add] at this; exact this, h.free⟩ hc hc2 hb
/-- What Coordinates of the reference ends in. -/
def CooG (rest ms : List Int) (w : World) (e : Ending) (w' : World) : Prop :=
  (if leadL rest < 0 then ∃ v, e = .returned (.tuple #[v, .bool true]) ∧ Ints w' v ms else e = .returned (.tuple #[.slice none 0 0, .bool false])) ∧ Ext w w'

set_option maxRecDepth 100000 in
set_option maxHeartbeats 4000000 in
theorem coordinates9_any (n A M : Nat) (R : List (List Int)) (ps : Nat → Nat) (x : List Int) (vb vx : Value) (w : World) (hR : HForm n R ps) (hM : ∀ i, i < R.length → RowLe M (rowE_ R i)) (hb : Rows2 w vb R) (hx : Ints w vx x) (hxl : x.length = n) (hn1 : 1 ≤ n) (hn : n ≤ 1000) (hRl : R.length ≤ 1000) (hA : RowLe A x) (hB : A + tB A R.length * (M + 1) ≤ 4000000000000000000) :
    Calls Tryz.prog 11 #[vb, vx] w (CooG (repS R x R.length).1 (repS R x R.length).2 w) := by
  have HBD := Lib.hid (fun i hi => rep_bound hR hM hxl hA i hi)
  have HTB : Hid (∀ i, i ≤ R.length → tB A i ≤ 4000000000000000000 ∧ A + tB A i * M ≤ 4000000000000000000) := fun i hi => by
    have h1 := tB_mono (A := A) hi
    have h2 : tB A R.length * 1 ≤ tB A R.length * (M + 1) := Nat.mul_le_mul_left _ (by omega)
    have h3 : tB A i * M ≤ tB A R.length * (M + 1) := Nat.mul_le_mul h1 (by omega)
    omega
  have HST := Lib.hid (fun i (hi : i < R.length) => rep_step hR hM hxl hA hB hi)
  have HX := Lib.hid hx; have HBs := Lib.hid hb
  have HXL := Lib.hid hxl
  have hpos : 0 < x.length := by omega
  obtain ⟨a, cb, rfl, h1, h2, -, hc⟩ := inCell.open hb
  have HC := Lib.hid hc
  obtain ⟨ax, cx, rfl, x1, x2, -, -, -⟩ := hx.open
  unfold maxLen at h2
  clear hb hx hc hA hB hR hM x1 x2
  go_enter Tryz.func11, Tryz.ntmps11
  go_wp2_with (at_builtin; go_must (refine wpList_append_copyF rfl _ _ rfl w x _ HX.out hpos (by omega) rfl rfl ?_))
  intro g c w1 hG1 hg hc1 hc2 hE1
  have HG1 := Lib.hid hG1; have HE1 := Lib.hid hE1; have HC1 := Lib.hid (show n ≤ c ∧ c ≤ maxLen from ⟨hc1, hc2⟩)
  unfold maxLen at hc2
  clear hG1 hE1 hxl hpos
  have HGL : Hid (g < w1.heap.size) := HG1.out.lt
  go_wp2_with fail
  have HO0 : Hid (Build (w1.alloc (.cells #[] 3)) w1.heap.size 3 1 (.slice (some ⟨w1.heap.size, 0, none⟩) 0 0) intC []) := ⟨[], rfl, by simp, by simpa using World.ownsRow_made w1 #[] 0 (Nat.le_refl _) (Nat.zero_le _) rfl, by simp⟩
  go_loopw [7, 8] (fun so t wr => ∃ i : Nat, i ≤ R.length ∧ t = .int .i64 i ∧ Hid (GrownS (· = g) w1 wr) ∧ Hid (RowG wr g 0 (repS R x i).1) ∧ Hid (Build wr w1.heap.size 3 1 so intC (repS R x i).2)) (fun _ t _ => R.length - (intOf t).toNat)
  case atStart => exact ⟨0, by omega, rfl, (Ext.alloc _ _).grownS _, HG1.out.ext (Ext.alloc _ _), HO0.out⟩
  case round =>
    obtain ⟨i, hi, rfl, HG, HRW, HBu⟩ := hrel
    obtain ⟨wo, rfl⟩ : ∃ wo : World, wo = wr := ⟨_, rfl⟩
    have HE : Hid (Ext w wo) := Below.trans HE1.out (HG.out.below HE1.out.size (fun k hk => by rw [hk]; exact hg))
    by_cases hlt : i < R.length
    · obtain ⟨bb, off, rfl, hbb, hcell⟩ := HC.out (by intro e; simp [e] at hlt)
      obtain ⟨vr, hvr, hcr⟩ := hcell i _ (rowE_get hlt)
      have hvr' := hvr.ext HE.out
      have HLD := Lib.hid (rLead_any (rowE_ R i) vr wo hvr')
      obtain ⟨t1, t2, t3, t4, t5, t6, t7, t8, t9⟩ := HST.out i hlt
      obtain ⟨ar, cr, rfl, y1, y2, -, -, yc⟩ := hvr'.open
      obtain ⟨br, orr, rfl, hbr, ycell⟩ := yc (by intro e; rw [e] at t2; simp at t2; omega)
      have hbrw : br < w.heap.size := by
        obtain ⟨ar2, cr2, hv2, -, -, -, -, yc2⟩ := hvr.open
        obtain ⟨br2, or2, ha2, hb2, -⟩ := yc2 (by intro e; rw [e] at t2; simp at t2; omega)
        simp only [Value.slice.injEq] at hv2
        rw [ha2] at hv2
        simp only [Option.some.injEq, Addr.mk.injEq] at hv2
        omega
      have gb := HE.out.cell hcr
      obtain ⟨p, hp⟩ : ∃ p, (rowE_ R i).getD (ps i) 0 = p := ⟨_, rfl⟩
      obtain ⟨s, hs⟩ : ∃ s, (repS R x i).1.getD (ps i) 0 = s := ⟨_, rfl⟩
      have gx : wo.cell? ⟨br, orr + ps i, none⟩ = some (.int .i64 p) := ycell (ps i) p (by rw [← hp, List.getElem?_eq_getElem (by rw [t2]; exact t3), List.getD_eq_getElem?_getD, List.getElem?_eq_getElem (by rw [t2]; exact t3)]; rfl)
      have go : wo.cell? ⟨g, ps i, none⟩ = some (.int .i64 s) := by
        have := HRW.out.cell (ps i) s (by rw [← hs, List.getElem?_eq_getElem (by rw [t1]; exact t3), List.getD_eq_getElem?_getD, List.getElem?_eq_getElem (by rw [t1]; exact t3)]; rfl)
        rw [Nat.zero_add] at this; exact this
      have HRB : Hid (RowR wo br orr (rowE_ R i)) := ⟨Nat.lt_of_lt_of_le hbrw HE.out.size, ycell⟩
      have HLS : Hid (∀ W, Ext wo W → Calls Tryz.prog 53 #[.slice (some ⟨g, 0, none⟩) n c, .slice (some ⟨br, orr, none⟩) n cr, .int .i64 (mulQ (repS R x i).1 (rowE_ R i))] W fun e w' => e = .returned (.tuple #[]) ∧ GrownS (· = g) W w' ∧ RowG w' g 0 (repS R x (i + 1)).1) := fun W hW => by
        have := less9r_any (mulQ (repS R x i).1 (rowE_ R i)) (repS R x i).1 (rowE_ R i) g 0 c br orr cr W (HRW.out.ext hW) (HRB.out.ext hW) (by omega) (by rw [t1, t2]) (by rw [t1]; exact HC1.out.1) HC1.out.2 y1 y2 t9
        rw [t1, t2] at this; exact this
      rw [hs, hp] at t8
      rw [t8] at HLS
      have HFL := Lib.hid (fun W => floor9_any s p W (by omega) (by omega) (by omega))
      rw [t4] at HLD
      rw [t2] at gb HLD
      have HJ : Hid ((repS R x i).2.length < 1000000) := by unfold Hid; have := (HBD.out i hi).2.2.2.1; omega
      have HN : Hid ((repS R x (i + 1)).2 = (repS R x i).2 ++ [fdq s p]) := by unfold Hid; rw [← t8]; rfl
      clear hp hs t1 t4 t5 t6 t7 t8 t9 hcell hvr hcr hvr' yc ycell
      have ir : (i : Int) < (R.length : Int) := by omega
      have pn : ((ps i : Nat) : Int) < (n : Int) := by omega
      go_wp2_with fail
      refine HLD.out.mono ?_
      rintro e w2 ⟨rfl, rfl⟩
      clear HLD
      go_upto_region 7 with fail
      --<R7
      refine region_anyE (fun w' => w'.cell? ⟨bb, off + i, none⟩ = some (.slice (some ⟨br, orr, none⟩) n cr) ∧ w'.cell? ⟨g, ps i, none⟩ = some (.int .i64 s) ∧ w'.cell? ⟨br, orr + ps i, none⟩ = some (.int .i64 p) ∧ Hid (Ext wo w')) 12 (by kernel_rfl) ⟨(Ext.drew wo).cell gb, (Ext.drew wo).cell go, (Ext.drew wo).cell gx, Ext.drew wo⟩ (fun hHeld => ?_)
      generalize wo.drew = wd at hHeld ⊢
      refine anyE_takeW (v := ?_) 0 rfl (by kernel_rfl) (by kernel_rfl) (by kernel_rfl) (by decide) (fun _ _ _ h => h) (Or.inl ⟨by rfl, ?_⟩) (by assumption) ?_
      rotate_left
      · ((intro w'); (try go_simp); (try with_reducible rfl))
      (try simp only [Act.put, List.setIfInBounds_toArray, List.set_cons_zero, List.set_cons_succ])
      refine anyE_takeW (v := ?_) 1 rfl (by kernel_rfl) (by kernel_rfl) (by kernel_rfl) (by decide) (fun _ _ _ h => h) (Or.inl ⟨by rfl, ?_⟩) (by assumption) ?_
      rotate_left
      · ((intro w'); (try go_simp); (try with_reducible rfl))
      (try simp only [Act.put, List.setIfInBounds_toArray, List.set_cons_zero, List.set_cons_succ])
      refine anyE_takeW (v := ?_) 2 rfl (by kernel_rfl) (by kernel_rfl) (by kernel_rfl) (by decide) (fun _ _ _ h => h) (Or.inl ⟨by rfl, ?_⟩) (by assumption) ?_
      rotate_left
      · ((intro w'); (try go_simp); (try with_reducible rfl))
      (try simp only [Act.put, List.setIfInBounds_toArray, List.set_cons_zero, List.set_cons_succ])
      refine anyE_take (v := ?_) 3 rfl (by kernel_rfl) (by kernel_rfl) (by kernel_rfl) (by kernel_rfl) (by kernel_rfl) (fun _ _ _ h => h) (Or.inl ⟨by rfl, ?_⟩) (by assumption) ?_
      rotate_left
      · ((intro w' hSw); (try dsimp only at hSw); (try go_simp); (try with_reducible rfl))
      (try simp only [Act.put, List.setIfInBounds_toArray, List.set_cons_zero, List.set_cons_succ])
      refine anyE_takeW (v := ?_) 4 rfl (by kernel_rfl) (by kernel_rfl) (by kernel_rfl) (by decide) (fun _ _ _ h => h) (Or.inl ⟨by rfl, ?_⟩) (by assumption) ?_
      rotate_left
      · ((intro w'); (try go_simp); (try with_reducible rfl))
      (try simp only [Act.put, List.setIfInBounds_toArray, List.set_cons_zero, List.set_cons_succ])
      refine anyE_takeW (v := ?_) 5 rfl (by kernel_rfl) (by kernel_rfl) (by kernel_rfl) (by decide) (fun _ _ _ h => h) (Or.inl ⟨by rfl, ?_⟩) (by assumption) ?_
      rotate_left
      · ((intro w'); (try go_simp); (try with_reducible rfl))
      (try simp only [Act.put, List.setIfInBounds_toArray, List.set_cons_zero, List.set_cons_succ])
      refine anyE_takeW (v := ?_) 6 rfl (by kernel_rfl) (by kernel_rfl) (by kernel_rfl) (by decide) (fun _ _ _ h => h) (Or.inl ⟨by rfl, ?_⟩) (by assumption) ?_
      rotate_left
      · ((intro w'); (try go_simp); (try with_reducible rfl))
      (try simp only [Act.put, List.setIfInBounds_toArray, List.set_cons_zero, List.set_cons_succ])
      refine anyE_take (v := ?_) 7 rfl (by kernel_rfl) (by kernel_rfl) (by kernel_rfl) (by kernel_rfl) (by kernel_rfl) (fun _ _ _ h => h) (Or.inl ⟨by rfl, ?_⟩) (by assumption) ?_
      rotate_left
      · ((intro w' hSw); (try dsimp only at hSw); (try go_simp); (try with_reducible rfl))
      (try simp only [Act.put, List.setIfInBounds_toArray, List.set_cons_zero, List.set_cons_succ])
      refine anyE_takeW (v := ?_) 8 rfl (by kernel_rfl) (by kernel_rfl) (by kernel_rfl) (by decide) (fun _ _ _ h => h) (Or.inl ⟨by rfl, ?_⟩) (by assumption) ?_
      rotate_left
      · ((intro w'); (try go_simp); (try with_reducible rfl))
      (try simp only [Act.put, List.setIfInBounds_toArray, List.set_cons_zero, List.set_cons_succ])
      refine anyE_takeW (v := ?_) 9 rfl (by kernel_rfl) (by kernel_rfl) (by kernel_rfl) (by decide) (fun _ _ _ h => h) (Or.inl ⟨by rfl, ?_⟩) (by assumption) ?_
      rotate_left
      · ((intro w'); (try go_simp); (try with_reducible rfl))
      (try simp only [Act.put, List.setIfInBounds_toArray, List.set_cons_zero, List.set_cons_succ])
      refine anyE_take (v := ?_) 10 rfl (by kernel_rfl) (by kernel_rfl) (by kernel_rfl) (by kernel_rfl) (by kernel_rfl) (fun _ _ _ h => h) (Or.inl ⟨by rfl, ?_⟩) (by assumption) ?_
      rotate_left
      · ((intro w' hSw); (try dsimp only at hSw); (try go_simp); (try with_reducible rfl))
      (try simp only [Act.put, List.setIfInBounds_toArray, List.set_cons_zero, List.set_cons_succ])
      refine anyE_step 11 (by kernel_rfl) rfl (fun K hK => ?_)
      go_simp
      (go_at_call 52; refine (HFL.out _).mono ?_)
      rintro e wz ⟨rfl, rfl⟩
      go_wp2_with fail
      refine hK.out _ _ ⟨(Ext.refl _).cell hHeld.1, (Ext.refl _).cell hHeld.2.1, (Ext.refl _).cell hHeld.2.2.1, Ext.trans hHeld.2.2.2.out (Ext.refl _)⟩ (fun hHeld => ?_)
      clear hK K
      (try simp only [Act.put, List.setIfInBounds_toArray, List.set_cons_zero, List.set_cons_succ])
      refine anyE_last 12 (by kernel_rfl) (by kernel_rfl) (by kernel_rfl) rfl (fun K hK => ?_)
      go_simp
      refine hK.out _ _ ?_
      clear hK K
      (try simp only [Act.put, List.setIfInBounds_toArray, List.set_cons_zero, List.set_cons_succ])
      -->R7
      have HE6 := hHeld.2.2.2
      go_wp2_with fail
      refine (HLS.out _ HE6.out).mono ?_
      rintro e w7 ⟨rfl, hG7, hR7⟩
      have HB7 := Lib.hid ((HBu.out.ext HE6.out).turn hG7 HGL.out)
      have HG7 := Lib.hid ((HG.out.ext HE6.out).trans hG7)
      have HR7 := Lib.hid hR7
      have hsz : w1.heap.size ≤ w7.heap.size := HG7.out.size
      clear hG7 hR7 hHeld
      go_wp2_with (at_builtin; go_must (refine wpList_append_build _ rfl _ _ 37 rfl w1.heap.size 3 (.int .i64 0) 1 8 Tryz.underlying37 infoInt rfl (by decide) u7 intC (repS R x i).2 (fdq s p) #[.int .i64 (fdq s p)] 3 rfl HB7.out rfl rfl ?e1 (fun _ _ => rfl) HJ.out (by decide) hsz ?_))
      case e1 => simp [Value.oneCell']
      intro v' w5 hB5 hg5 hb5 hs5 _
      rw [← HN.out] at hB5
      have HB5 := Lib.hid hB5
      have HG5 := Lib.hid (HG7.out.belowTrans hb5)
      have HR5 := Lib.hid (HR7.out.same hb5.size (hb5.block g HGL.out))
      clear hB5 hg5 hb5
      go_wp2_with fail
      go_roundw
      case rel => exact ⟨i + 1, by omega, by go_num, HG5.out, HR5.out, HB5.out⟩
      case measure => simp [intOf]; omega
    · obtain rfl : i = R.length := by omega
      obtain ⟨k1, k2, -, k4, k5, -⟩ := HBD.out R.length (Nat.le_refl _)
      have hbd : ∀ y ∈ (repS R x R.length).1, -9223372036854775808 ≤ y ∧ y ≤ 9223372036854775807 := fun y hy => by
        obtain ⟨c, hc⟩ := List.getElem?_of_mem hy
        have h1 := k2 c
        rw [List.getD_eq_getElem?_getD, hc] at h1
        have h2 := (HTB.out R.length (Nat.le_refl _)).2
        simp only [Option.getD_some] at h1
        omega
      have hms : ∀ y ∈ (repS R x R.length).2, -9223372036854775808 ≤ y ∧ y ≤ 9223372036854775807 := fun y hy => by
        have h1 := k5 y hy
        have h2 := (HTB.out R.length (Nat.le_refl _)).1
        omega
      have hI := HRW.out.ints (c := c) (by rw [k1]; exact HC1.out.1) HC1.out.2 hbd
      rw [k1] at hI
      have HLD := Lib.hid (rLead_any _ _ _ hI)
      have HMS := Lib.hid (Ints.of_owns HBu.out.ints hms)
      obtain ⟨sa, sl, sc, rfl⟩ : ∃ a l c, u7 = .slice a l c := by
        obtain ⟨us, b1, b2, b3, b4⟩ := HBu.out
        rcases b3.2 with ⟨hv, _⟩ | ⟨g, c, _, hv, _⟩
        · exact ⟨_, _, _, hv⟩
        · exact ⟨_, _, _, hv⟩
      have HLN := Lib.hid (leadN_lt (repS R x R.length).1)
      rw [k1] at HLN
      obtain ⟨ld, hld⟩ : ∃ ld, leadN (repS R x R.length).1 = ld := ⟨_, rfl⟩
      rw [hld] at HLD HLN
      clear hld hI hbd hms k1 k2 k4 k5
      by_cases hl : ld < n
      · have hl2 : (ld : Int) < (n : Int) := by omega
        have HF : Hid (¬ leadL (repS R x R.length).1 < 0) := HLN.out.1 hl
        go_wp2_with fail
        refine HLD.out.mono ?_
        rintro e w2 ⟨rfl, rfl⟩
        go_wp2_with fail
        go_ret2
        unfold CooG
        rw [if_neg (by have := HF.out; omega)]
        exact ⟨rfl, HE.out⟩
      · have hl2 : ¬ (ld : Int) < (n : Int) := by omega
        have HF : Hid (leadL (repS R x R.length).1 < 0) := Classical.byContradiction fun h => hl (HLN.out.2 h)
        go_wp2_with fail
        refine HLD.out.mono ?_
        rintro e w2 ⟨rfl, rfl⟩
        go_wp2_with fail
        go_ret2
        unfold CooG
        rw [if_pos HF.out]
        exact ⟨⟨_, rfl, HMS.out⟩, HE.out⟩
end Go.Proofs.YtjihfabhgcfjnaaGreatDoor
