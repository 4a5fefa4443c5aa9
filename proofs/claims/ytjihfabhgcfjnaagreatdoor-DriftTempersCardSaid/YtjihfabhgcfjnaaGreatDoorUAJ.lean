/- Merged: DriftE. -/
import Derived.Test.YtjihfabhgcfjnaaGreatDoorUAI
/- Contracts of drift.fit, drift, Roots, Drift, row.IsZero. -/
namespace Go.Proofs.YtjihfabhgcfjnaaGreatDoor
set_option linter.unusedVariables false
set_option linter.unusedSimpArgs false
open Go.RowKit

theorem rowsE_zero {n : Nat} : ∀ {l : List (List Int)}, rowsE n l = 0 → ∀ x ∈ l, x.length = n ∧ ∀ a ∈ x, -1000 ≤ a ∧ a ≤ 1000
  | [], _, x, hx => by simp at hx
  | y :: l, h, x, hx => by
    unfold rowsE at h
    split at h
    · split at h
      · simp at h
      · rename_i h1 h2
        rcases List.mem_cons.1 hx with rfl | hx
        · refine ⟨h1, fun a ha => ?_⟩
          rw [Bool.not_eq_true, List.any_eq_false] at h2
          have := h2 a ha
          simp [farB] at this
          omega
        · exact rowsE_zero h x hx
    · simp at h

theorem checkAllE_zero {p : List Int} {l : List (List Int)} (h : checkAllE p l = 0) : primesE5 p = 0 ∧ rowsE p.length l = 0 := by
  unfold checkAllE at h
  split at h
  · exact ⟨by assumption, h⟩
  · contradiction

theorem chordsE_zero {p : List Int} : ∀ {l : List (List (List Int))}, chordsE p l = 0 → ∀ c ∈ l, countE c.length 12 = 0 ∧ checkAllE p c = 0
  | [], _, c, hc => by simp at hc
  | d :: l, h, c, hc => by
    unfold chordsE at h
    split at h
    · split at h
      · rcases List.mem_cons.1 hc with rfl | hc
        · exact ⟨by assumption, by assumption⟩
        · exact chordsE_zero h c hc
      · contradiction
    · contradiction

theorem linksE_zero {cs : List (List (List Int))} : ∀ {ls : List (List (Int × Int))} {i : Nat}, linksE cs i ls = 0 → ∀ (j : Nat) l, ls[j]? = some l → countE l.length 12 = 0 ∧ l.any (badLink (cs.getD (i + j) []).length (cs.getD (i + j + 1) []).length) = false
  | [], i, _, j, l, hl => by simp at hl
  | m :: ls, i, h, j, l, hl => by
    unfold linksE at h
    split at h
    · split at h
      · simp at h
      · rename_i h1 h2
        cases j with
        | zero =>
          simp at hl; subst hl
          exact ⟨h1, by simpa using h2⟩
        | succ j =>
          simp at hl
          have := linksE_zero h j l hl
          rw [show i + 1 + j = i + (j + 1) by omega] at this
          exact this
    · contradiction

theorem countE_zero {n : Nat} {m : Int} (h : countE n m = 0) : 0 < n ∧ (n : Int) ≤ m := by
  unfold countE at h; split at h <;> (try omega)

theorem ordLoop_zero_pos {p : List Int} (h : primesE5 p = 0) : 0 < p.length ∧ p.length ≤ 6 := by
  unfold primesE5 at h
  split at h
  · simp at h
  · split at h
    · simp at h
    · omega

theorem walkE_right {k : Wk} (h : walkE k = 0) : RightWk k := by
  unfold walkE at h
  split at h
  · rename_i h1
    split at h
    · rename_i h2
      split at h
      · rename_i h3
        split at h
        · rename_i h4
          obtain ⟨p1, p2⟩ := ordLoop_zero_pos h1
          obtain ⟨c1, c2⟩ := countE_zero h2
          refine ⟨?_, ?_, by omega, by omega, p2, ?_, p1, ?_⟩
          · intro c hc x hx
            have := rowsE_zero (checkAllE_zero (chordsE_zero h3 c hc).2).2 x hx
            exact ⟨this.1, fun a ha => by have := this.2 a ha; omega⟩
          · intro i l hl
            have hi : i < k.links.length := (List.getElem?_eq_some_iff.1 hl).1
            have hz := linksE_zero h i l hl
            refine ⟨k.chords[i]'(by omega), k.chords[i + 1]'(by omega), List.getElem?_eq_getElem _, List.getElem?_eq_getElem _, fun x hx => ?_⟩
            have hb := hz.2
            rw [List.any_eq_false] at hb
            have := hb x hx
            have g1 : k.chords.getD (0 + i) [] = k.chords[i]'(by omega) := by simp [List.getD, List.getElem?_eq_getElem (show i < k.chords.length by omega)]
            have g2 : k.chords.getD (0 + i + 1) [] = k.chords[i + 1]'(by omega) := by simp [List.getD, List.getElem?_eq_getElem (show i + 1 < k.chords.length by omega)]
            rw [g1, g2] at this
            simp [badLink] at this
            omega
          · intro l hl
            obtain ⟨i, hi⟩ := List.getElem?_of_mem hl
            have := (countE_zero (linksE_zero h i l hi).1).1
            intro e; simp [e] at this
          · intro l hl
            obtain ⟨i, hi⟩ := List.getElem?_of_mem hl
            have := (countE_zero (linksE_zero h i l hi).1).2
            omega
        · simp at h
      · contradiction
    · contradiction
  · contradiction

theorem fit_any (p : List Int) (v : Value) (l : List (List Int)) (u : Value) (w : World) (hp : Ints w v p) (hl : Rows2 w u l) :
    Calls Tryz.prog 60 #[v, u] w fun e w' => e = .returned (.int .i64 (checkAllE p l)) ∧ w = w' := by
  have HC := Lib.hid (monzoCheckAll_any p v l u w hp hl)
  clear hp hl
  go_enter Tryz.func60, Tryz.ntmps60
  go_wp2_with (go_at_call 78; refine HC.out.mono ?_; rintro e w' ⟨rfl, rfl⟩)
  go_ret
  exact ⟨rfl, rfl⟩

def rootsE (k : Wk) : Int := if walkE k = 0 then checkAllE k.primes (rootsOf k k.links.length) else walkE k

set_option maxRecDepth 100000 in
set_option maxHeartbeats 1000000 in
theorem Roots_any (k : Wk) (v : Value) (w : World) (h : WalkAt w v k) :
    Calls Tryz.prog 36 #[v] w fun e w' => ∃ r, e = .returned (.tuple #[r, .int .i64 (rootsE k)]) ∧ Ext w w' ∧ (rootsE k = 0 → Rows2 w' r (rootsOf k k.links.length)) ∧ (¬ rootsE k = 0 → r = .slice none 0 0) := by
  have HWALK := Lib.hid h
  obtain ⟨vp, vc, vl, rfl, h1, h2, h3⟩ := h
  obtain ⟨W, hW, hE, hsz, b0, b1, b2⟩ := box_walk w vp vc vl 55
  have HP := Lib.hid h1
  have HCK := Lib.hid (check_any k _ W (HWALK.out.ext hE))
  clear h1 h2 h3
  by_cases hz : walkE k = 0
  · have HRK := Lib.hid (walkE_right hz)
    have HCR := Lib.hid (fun W' (he : Ext W W') => roots_any k _ W' (HWALK.out.ext (hE.trans he)) HRK.out)
    rw [hz] at HCK
    by_cases hc : checkAllE k.primes (rootsOf k k.links.length) = 0
    · have HQ : Hid (rootsE k = 0) := by unfold Hid rootsE; rw [if_pos hz, hc]
      have HC := Lib.hid hc
      clear hz hc
      go_enter Tryz.func36, Tryz.ntmps36
      go_wp2_with fail
      clear hW
      refine HCK.out.mono ?_
      rintro e w1 ⟨rfl, hE1⟩
      have d0 := hE1.cell b0; have d1 := hE1.cell b1; have d2 := hE1.cell b2
      go_wp2_with fail
      refine (HCR.out _ hE1).mono ?_
      rintro e w2 ⟨r, rfl, hE2, hr⟩
      have e0 := hE2.cell d0
      have HF := Lib.hid (fit_any k.primes vp _ r w2 (HP.out.ext (hE.trans (hE1.trans hE2))) hr)
      rw [HC.out] at HF
      have HR := Lib.hid hr
      clear hr d0 d1 d2 HCR HCK
      go_wp2_with fail
      refine HF.out.mono ?_
      rintro e w3 ⟨rfl, rfl⟩
      go_wp2_with fail
      go_ret2
      rw [HQ.out]
      exact ⟨r, rfl, hE.trans (hE1.trans hE2), fun _ => HR.out, fun h => absurd rfl h⟩
    · have HQ : Hid (rootsE k = checkAllE k.primes (rootsOf k k.links.length)) := by unfold Hid rootsE; rw [if_pos hz]
      have hcb : (checkAllE k.primes (rootsOf k k.links.length) != 0) = true := by simp [hc]
      have HC := Lib.hid hc
      clear hz hc
      go_enter Tryz.func36, Tryz.ntmps36
      go_wp2_with fail
      clear hW
      refine HCK.out.mono ?_
      rintro e w1 ⟨rfl, hE1⟩
      have d0 := hE1.cell b0; have d1 := hE1.cell b1; have d2 := hE1.cell b2
      go_wp2_with fail
      refine (HCR.out _ hE1).mono ?_
      rintro e w2 ⟨r, rfl, hE2, hr⟩
      have e0 := hE2.cell d0
      have HF := Lib.hid (fit_any k.primes vp _ r w2 (HP.out.ext (hE.trans (hE1.trans hE2))) hr)
      clear hr d0 d1 d2 HCR HCK
      go_wp2_with fail
      refine HF.out.mono ?_
      rintro e w3 ⟨rfl, rfl⟩
      go_wp2_with fail
      go_ret2
      rw [HQ.out]
      exact ⟨_, rfl, hE.trans (hE1.trans hE2), fun h => absurd h HC.out, fun _ => rfl⟩
  · have HQ : Hid (rootsE k = walkE k) := by unfold Hid rootsE; rw [if_neg hz]
    have hcb : (walkE k != 0) = true := by simp [hz]
    have HC := Lib.hid hz
    clear hz
    go_enter Tryz.func36, Tryz.ntmps36
    go_wp2_with fail
    clear hW
    refine HCK.out.mono ?_
    rintro e w1 ⟨rfl, hE1⟩
    go_wp2_with fail
    go_ret2
    rw [HQ.out]
    exact ⟨_, rfl, hE.trans hE1, fun h => absurd h HC.out, fun _ => rfl⟩

def driftOf (k : Wk) : List Int := rootAt k k.links.length
def driftE (k : Wk) : Int := if walkE k = 0 then checkAllE k.primes [driftOf k] else walkE k

set_option maxRecDepth 100000 in
set_option maxHeartbeats 1000000 in
theorem drift_any (k : Wk) (v : Value) (w : World) (h : WalkAt w v k) (hk : RightWk k) :
    Calls Tryz.prog 61 #[v] w fun e w' => ∃ r, e = .returned r ∧ Ext w w' ∧ Ints w' r (driftOf k) := by
  have HWALK := Lib.hid h
  obtain ⟨vp, vc, vl, rfl, h1, h2, h3⟩ := h
  obtain ⟨W, hW, hE, hsz, b0, b1, b2⟩ := box_walk w vp vc vl 55
  have HCR := Lib.hid (roots_any k _ W (HWALK.out.ext hE) hk)
  have hlen1 : k.links.length ≤ 63 := by have := hk.len; have := hk.most; omega
  clear h1 h2 h3 hk
  go_enter Tryz.func61, Tryz.ntmps61
  go_wp2_with fail
  clear hW
  refine HCR.out.mono ?_
  rintro e w2 ⟨r, rfl, hE2, hr⟩
  obtain ⟨a, c, rfl, hlc, hmc, -, hcell⟩ := inCell.open hr
  have hrl : (rootsOf k k.links.length).length = k.links.length + 1 := by simp [rootsOf]
  obtain ⟨b, off, rfl, hb, hcell2⟩ := hcell (by intro e; rw [e] at hrl; simp at hrl)
  obtain ⟨vr, hvr, hcr⟩ := hcell2 k.links.length (driftOf k) (by simp [rootsOf, driftOf])
  rw [hrl] at hlc ⊢
  unfold maxLen at hmc
  have HVR := Lib.hid hvr
  clear hcell hcell2 hr hvr hrl HCR
  go_wp2_with fail
  go_ret
  exact ⟨vr, rfl, hE.trans hE2, HVR.out⟩


set_option maxRecDepth 100000 in
set_option maxHeartbeats 1000000 in
theorem Drift_any (k : Wk) (v : Value) (w : World) (h : WalkAt w v k) :
    Calls Tryz.prog 20 #[v] w fun e w' => ∃ r, e = .returned (.tuple #[r, .int .i64 (driftE k)]) ∧ Ext w w' ∧ (driftE k = 0 → Ints w' r (driftOf k)) ∧ (¬ driftE k = 0 → r = .slice none 0 0) := by
  have HWALK := Lib.hid h
  obtain ⟨vp, vc, vl, rfl, h1, h2, h3⟩ := h
  obtain ⟨W, hW, hE, hsz, b0, b1, b2⟩ := box_walk w vp vc vl 55
  have HP := Lib.hid h1
  have HCK := Lib.hid (check_any k _ W (HWALK.out.ext hE))
  clear h1 h2 h3
  by_cases hz : walkE k = 0
  · have HRK := Lib.hid (walkE_right hz)
    have HCR := Lib.hid (fun W' (he : Ext W W') => drift_any k _ W' (HWALK.out.ext (hE.trans he)) HRK.out)
    rw [hz] at HCK
    have hr1 : ∀ W' r, Ints W' r (driftOf k) → Rows2 (W'.alloc (.cells #[r] 37)) (.slice (some ⟨W'.heap.size, 0, none⟩) 1 1) [driftOf k] := fun W' r hr =>
      ListAt.lit (R := Ints) (fun _ _ _ _ he h => ListAt.ext intR.mono h he) W' [r] [driftOf k] 37 rfl (by simp [maxLen]) (by
        intro j u z hu hz
        match j with
        | 0 => simp at hu hz; subst hu; subst hz; exact hr
        | j + 1 => simp at hu)
    have HR1 := Lib.hid hr1
    clear hr1
    by_cases hc : checkAllE k.primes [driftOf k] = 0
    · have HQ : Hid (driftE k = 0) := by unfold Hid driftE; rw [if_pos hz, hc]
      have HC := Lib.hid hc
      clear hz hc
      go_enter Tryz.func20, Tryz.ntmps20
      go_wp2_with fail
      clear hW
      refine HCK.out.mono ?_
      rintro e w1 ⟨rfl, hE1⟩
      have d0 := hE1.cell b0; have d1 := hE1.cell b1; have d2 := hE1.cell b2
      go_wp2_with fail
      refine (HCR.out _ hE1).mono ?_
      rintro e w2 ⟨r, rfl, hE2, hr⟩
      have e0 := hE2.cell d0
      have hsz2 : w.heap.size < w2.heap.size := Nat.lt_of_lt_of_le hsz (hE1.trans hE2).size
      have HR := Lib.hid hr
      obtain ⟨ar, cr, rfl, -, -, -, -, -⟩ := hr.open
      clear hr d0 d1 d2 HCR HCK
      go_wp2_with fail
      have hf := fit_any k.primes vp _ _ _ (HP.out.ext (hE.trans (hE1.trans (hE2.trans (Ext.alloc w2 (.cells #[.slice ar (driftOf k).length cr] 37)))))) (HR1.out w2 _ HR.out)
      rw [HC.out] at hf
      refine hf.mono ?_
      rintro e w3 ⟨rfl, rfl⟩
      clear hf
      go_wp2_with fail
      go_ret2
      rw [HQ.out]
      exact ⟨_, rfl, hE.trans (hE1.trans (hE2.trans (Ext.alloc _ _))), fun _ => HR.out.ext (Ext.alloc _ _), fun h => absurd rfl h⟩
    · have HQ : Hid (driftE k = checkAllE k.primes [driftOf k]) := by unfold Hid driftE; rw [if_pos hz]
      have hcb : (checkAllE k.primes [driftOf k] != 0) = true := by simp [hc]
      have HC := Lib.hid hc
      clear hz hc
      go_enter Tryz.func20, Tryz.ntmps20
      go_wp2_with fail
      clear hW
      refine HCK.out.mono ?_
      rintro e w1 ⟨rfl, hE1⟩
      have d0 := hE1.cell b0; have d1 := hE1.cell b1; have d2 := hE1.cell b2
      go_wp2_with fail
      refine (HCR.out _ hE1).mono ?_
      rintro e w2 ⟨r, rfl, hE2, hr⟩
      have e0 := hE2.cell d0
      have hsz2 : w.heap.size < w2.heap.size := Nat.lt_of_lt_of_le hsz (hE1.trans hE2).size
      have HR := Lib.hid hr
      obtain ⟨ar, cr, rfl, -, -, -, -, -⟩ := hr.open
      clear hr d0 d1 d2 HCR HCK
      go_wp2_with fail
      refine (fit_any k.primes vp _ _ _ (HP.out.ext (hE.trans (hE1.trans (hE2.trans (Ext.alloc w2 (.cells #[.slice ar (driftOf k).length cr] 37)))))) (HR1.out w2 _ HR.out)).mono ?_
      rintro e w3 ⟨rfl, rfl⟩
      go_wp2_with fail
      go_ret2
      rw [HQ.out]
      exact ⟨_, rfl, hE.trans (hE1.trans (hE2.trans (Ext.alloc _ _))), fun h => absurd h HC.out, fun _ => rfl⟩
  · have HQ : Hid (driftE k = walkE k) := by unfold Hid driftE; rw [if_neg hz]
    have hcb : (walkE k != 0) = true := by simp [hz]
    have HC := Lib.hid hz
    clear hz
    go_enter Tryz.func20, Tryz.ntmps20
    go_wp2_with fail
    clear hW
    refine HCK.out.mono ?_
    rintro e w1 ⟨rfl, hE1⟩
    go_wp2_with fail
    go_ret2
    rw [HQ.out]
    exact ⟨_, rfl, hE.trans hE1, fun h => absurd h HC.out, fun _ => rfl⟩

/-- The predicate of row.IsZero. -/
theorem isZero5f_any (x : Int) (w : World) : Calls Tryz.prog 110 #[.int .i64 x] w fun e w' => e = .returned (.bool (x != 0)) ∧ w = w' := by
  go_enter Tryz.func110, Tryz.ntmps110
  go_wp2
  go_ret
  exact ⟨rfl, rfl⟩

theorem isZero5_any (xs : List Int) (v : Value) (w : World) (h : Ints w v xs) :
    Calls Tryz.prog 58 #[v] w fun e w' => e = .returned (.bool (!xs.any (· != 0))) ∧ Ext w w' := by
  have HC := Lib.hid (containsRow_any xs v 110 #[] (· != 0) w h (enters_of Tryz.func110 (by kernel_rfl) rfl) (fun W x _ _ => (isZero5f_any x W).mono fun _ _ ⟨he, hw⟩ => ⟨he, hw ▸ Ext.refl _⟩))
  clear h
  go_enter Tryz.func58, Tryz.ntmps58
  go_wp2_with (go_at_call 62; refine HC.out.mono ?_; rintro e w' ⟨rfl, hE'⟩)
  go_ret
  exact ⟨rfl, by assumption⟩

end Go.Proofs.YtjihfabhgcfjnaaGreatDoor
