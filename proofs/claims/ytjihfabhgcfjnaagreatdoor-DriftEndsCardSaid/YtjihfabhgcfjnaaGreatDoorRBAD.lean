/- Merged: DriftD, DriftE. -/
import Derived.Test.YtjihfabhgcfjnaaGreatDoorRBAC
import Derived.Test.YtjihfabhgcfjnaaGreatDoorQAJ
import Derived.Test.YtjihfabhgcfjnaaGreatDoorQAA
/- Contract of drift.roots. -/
namespace Go.Proofs.YtjihfabhgcfjnaaGreatDoor
set_option linter.unusedVariables false
set_option linter.unusedSimpArgs false
open Go.RowKit

/-- A walk whose sizes are right. -/
structure RightWk (k : Wk) : Prop where
  tame : tame k
  linked : linked k
  len : k.links.length + 1 = k.chords.length
  most : k.chords.length ≤ 64
  primes : k.primes.length ≤ 6
  some : ∀ l ∈ k.links, l ≠ []
  prime : 0 < k.primes.length
  few : ∀ l ∈ k.links, l.length ≤ 12

def rootAt (k : Wk) : Nat → List Int
  | 0 => List.replicate k.primes.length 0
  | i + 1 => accRow false (rootAt k i) (leadRow k i 0)
def rootsOf (k : Wk) (n : Nat) : List (List Int) := (List.range (n + 1)).map (rootAt k)

theorem leadRow_ok (k : Wk) (h : RightWk k) (step link : Nat) (l : List (Int × Int)) (hl : k.links[step]? = some l) (hlink : link < l.length) :
    (leadRow k step link).length = k.primes.length ∧ ∀ a ∈ leadRow k step link, -2000000 ≤ a ∧ a ≤ 2000000 := by
  obtain ⟨c, d, hc, hd, hall⟩ := h.linked step l hl
  obtain ⟨lk, hlk⟩ : ∃ x, l[link]? = some x := ⟨l[link], List.getElem?_eq_getElem hlink⟩
  obtain ⟨hf0, hf1, ht0, ht1⟩ := hall lk (List.mem_of_getElem? hlk)
  obtain ⟨f, t⟩ := lk
  obtain ⟨f, rfl⟩ := Int.eq_ofNat_of_zero_le hf0
  obtain ⟨t, rfl⟩ := Int.eq_ofNat_of_zero_le ht0
  simp only [Int.ofNat_lt] at hf1 ht1
  obtain ⟨x, hx⟩ : ∃ x, c[f]? = some x := ⟨c[f], List.getElem?_eq_getElem hf1⟩
  obtain ⟨y, hy⟩ : ∃ y, d[t]? = some y := ⟨d[t], List.getElem?_eq_getElem ht1⟩
  have htx := h.tame c (List.mem_of_getElem? hc) x (List.mem_of_getElem? hx)
  have hty := h.tame d (List.mem_of_getElem? hd) y (List.mem_of_getElem? hy)
  have e : leadRow k step link = sumRows x y := by
    unfold leadRow
    simp [List.getD, hl, hlk, hc, hd, hx, hy]
  rw [e]
  refine ⟨by simp [sumRows, htx.1, hty.1], fun a ha => ?_⟩
  have := sumRows_bd2 x y 1000000 1000000 htx.2 hty.2 a ha
  omega

theorem rootAt_ok (k : Wk) (h : RightWk k) : ∀ i, i < k.chords.length → (rootAt k i).length = k.primes.length ∧ ∀ a ∈ rootAt k i, -(2000000 * (i : Int)) ≤ a ∧ a ≤ 2000000 * (i : Int) := by
  intro i
  induction i with
  | zero =>
    intro _
    refine ⟨by simp [rootAt], fun a ha => ?_⟩
    have := (List.mem_replicate.1 ha).2
    omega
  | succ i ih =>
    intro hi
    obtain ⟨h1, h2⟩ := ih (by omega)
    have hl := h.len
    obtain ⟨l, hll⟩ : ∃ l, k.links[i]? = some l := ⟨k.links[i]'(by omega), List.getElem?_eq_getElem _⟩
    have hne := h.some l (List.mem_of_getElem? hll)
    obtain ⟨h3, h4⟩ := leadRow_ok k h i 0 l hll (by cases l with | nil => exact absurd rfl hne | cons => simp)
    refine ⟨by simp [rootAt, accRow, h1, h3], fun a ha => ?_⟩
    obtain ⟨j, hj, rfl⟩ := List.getElem_of_mem ha
    simp only [rootAt, accRow, List.length_zipWith] at hj
    simp only [rootAt, accRow, List.getElem_zipWith, Bool.false_eq_true, if_false]
    have e1 := h2 ((rootAt k i)[j]'(by omega)) (List.getElem_mem _)
    have e2 := h4 ((leadRow k i 0)[j]'(by omega)) (List.getElem_mem _)
    omega

theorem rootsOf_succ (k : Wk) (n : Nat) : rootsOf k (n + 1) = rootsOf k n ++ [rootAt k (n + 1)] := by
  simp [rootsOf, List.range_succ (n := n + 1)]

set_option maxRecDepth 100000 in
set_option maxHeartbeats 4000000 in
theorem roots_any (k : Wk) (v : Value) (w : World) (h : WalkAt w v k) (hk : RightWk k) :
    Calls Tryz.prog 79 #[v] w fun e w' => ∃ r, e = .returned r ∧ Ext w w' ∧ Rows2 w' r (rootsOf k k.links.length) := by
  have HWALK := Lib.hid h
  obtain ⟨vp, vc, vl, rfl, h1, h2, h3⟩ := h
  obtain ⟨W, hW, hE, hsz, b0, b1, b2⟩ := box_walk w vp vc vl 55
  obtain ⟨ap, cp, rfl, hlp, hmp, -, -, -⟩ := h1.open
  obtain ⟨al, cl, rfl, hll, hml, -, -⟩ := inCell.open h3
  unfold maxLen at hmp hml
  obtain ⟨i0, hi, hz0, hz1, hz2⟩ := info_parts infoInt
  have HI := Lib.hid hi; have HZ0 := Lib.hid hz0; have HZ1 := Lib.hid hz1; have HZ2 := Lib.hid hz2
  have HRK := Lib.hid hk
  have hpl := hk.primes
  have hlen1 : k.links.length ≤ 63 := by have := hk.len; have := hk.most; omega
  have hp0 := hk.prime
  clear hi hz0 hz1 hz2 h1 h2 h3 hk
  go_enter Tryz.func79, Tryz.ntmps79
  go_wp2_with (at_make; refine wpList_make_full _ rfl _ _ 37 rfl W.heap.size 3 i0 (.int .i64 0) 1 Tryz.underlying37 HI.out HZ0.out HZ1.out _ _ _ _ k.primes.length rfl rfl rfl rfl ?c1 ?c2 ?c3 ?_)
  case c1 => rw [HZ2.out]; omega
  case c2 => unfold maxLen; omega
  case c3 => exact Nat.le_refl _
  intro w1 hown hgrow
  rw [made_ints] at hown
  clear hW
  have hE1 : Ext W w1 := (Below.refl _ _).grown hgrow (Nat.le_refl _) (by intro k hk; cases hk)
  have hz : Ints w1 (.slice (some ⟨W.heap.size, 0, none⟩) k.primes.length k.primes.length) (rootAt k 0) := by
    have := Ints.of_owns (xs := List.replicate k.primes.length 0) (by simpa using hown) (by intro x hx; have := (List.mem_replicate.1 hx).2; omega)
    simpa [rootAt] using this
  have HZR := Lib.hid hz
  have HG := Lib.hid hgrow
  clear hown hgrow hz
  have hsz1 : w.heap.size < w1.heap.size := Nat.lt_of_lt_of_le hsz hE1.size
  have d0 := hE1.cell b0; have d1 := hE1.cell b1; have d2 := hE1.cell b2
  go_wp2
  have hb0 : Build (w1.alloc (.cells #[.slice (some ⟨W.heap.size, 0, none⟩) k.primes.length k.primes.length] 37)) W.heap.size 37 1 (.slice (some ⟨w1.heap.size, 0, none⟩) 1 1) rowR (rootsOf k 0) :=
    Build.lit (e := 37) (R := rowR) w1 [[.slice (some ⟨W.heap.size, 0, none⟩) k.primes.length k.primes.length]] [rootAt k 0] hE1.size rfl (by simp) (by simp [maxLen]) (by
      intro j u x hu hx w' he
      match j with
      | 0 => simp at hu hx; subst hu; subst hx; exact ⟨_, rfl, Ints.ext HZR.out he⟩
      | j + 1 => simp at hu)
  have HB0 := Lib.hid hb0
  clear hb0
  go_loopw [3, 16] (fun out t wr => ∃ i : Nat, i ≤ k.links.length ∧ t = .int .i64 i ∧ Below W.heap.size W wr ∧ Hid (Build wr W.heap.size 37 1 out rowR (rootsOf k i))) (fun _ t _ => k.links.length - (intOf t).toNat)
  case atStart => exact ⟨0, Nat.zero_le _, rfl, Below.alloc hE1 hE1.size _, HB0.out⟩
  case round =>
    obtain ⟨i, hi, rfl, hEr, HB⟩ := hrel
    obtain ⟨wo, rfl⟩ : ∃ wo : World, wo = wr := ⟨_, rfl⟩
    clear HB0 d0 d1 d2
    have d2 := Ext.cell hEr b2
    by_cases hlt : i < k.links.length
    · obtain ⟨aout, capo, hout, hol, hom, -, hoc⟩ := inCell.open HB.out.list
      have hrl : (rootsOf k i).length = i + 1 := by simp [rootsOf]
      obtain ⟨bo, oo, hao, hbo, hoc⟩ := hoc (by intro e; rw [e] at hrl; simp at hrl)
      obtain ⟨vr, hvr, hcr⟩ := hoc i (rootAt k i) (by simp [rootsOf])
      have hown := HB.out.lt
      subst hout
      subst hao
      rw [hrl] at hol HB
      unfold maxLen at hom
      rw [hrl]
      have hcl := cloneRow_any (rootAt k i) vr wo hvr (by have := (rootAt_ok k HRK.out i (by have := HRK.out.len; omega)).1; omega)
      have HCL := Lib.hid hcl
      clear hcl hoc hrl hvr
      have hn := (rootAt_ok k HRK.out i (by have := HRK.out.len; omega)).1
      obtain ⟨l, hll⟩ : ∃ l, k.links[i]? = some l := ⟨k.links[i], List.getElem?_eq_getElem hlt⟩
      have hl0 : 0 < l.length := by have := HRK.out.some l (List.mem_of_getElem? hll); cases l with | nil => exact absurd rfl this | cons => simp
      obtain ⟨hn2, hlb⟩ := leadRow_ok k HRK.out i 0 l hll hl0
      have hrb := (rootAt_ok k HRK.out i (by have := HRK.out.len; omega)).2
      have HN := Lib.hid hn; have HN2 := Lib.hid hn2; have HLB := Lib.hid hlb; have HRB := Lib.hid hrb
      have HL := Lib.hid hll
      clear hn hn2 hlb hrb hll
      go_wp2_with fail
      refine HCL.out.mono ?_
      rintro e w2 ⟨r, rfl, hE2, hown2⟩
      clear HCL
      rw [HN.out] at hown2
      obtain ⟨g, capr, rfl, hg1, hg2, hg3, hg4⟩ := owns_shape hown2 hp0
      unfold maxLen at hg4
      have HO2 := Lib.hid hown2
      clear hown2
      have e0 := hE2.cell (Ext.cell hEr b0); have e1 := hE2.cell (Ext.cell hEr b1); have e2 := hE2.cell d2
      go_wp2_with fail
      have hlead : Calls Tryz.prog 111 #[.agg #[.slice ap k.primes.length cp, vc, .slice al k.links.length cl], .int .i64 i, .int .i64 0] w2 _ :=
        lead5_any k _ w2 i 0 (WalkAt.ext HWALK.out ((Ext.trans hE hEr).trans hE2)) HRK.out.tame HRK.out.linked HRK.out.primes l HL.out hl0
      refine hlead.mono ?_
      rintro e w3 ⟨vq, rfl, hE3, hq⟩
      clear hlead
      have hg5 : g < w2.heap.size := hg2
      obtain ⟨gq, capq, rfl, hq1, hq2, hq3, hq4⟩ := owns_shape hq hp0
      have hne : ¬ gq = g := by omega
      have HO3 := Lib.hid (owns_ext HO2.out hE3)
      have HQ3 := Lib.hid hq
      unfold maxLen at hq4
      have hE13 : Ext wo w3 := hE2.trans hE3
      have hsz3 : wo.heap.size ≤ w3.heap.size := hE13.size
      clear hq HO2 e0 e1 e2
      go_wp2_with fail
      go_loopw [28] (fun t wq => ∃ j : Nat, j ≤ k.primes.length ∧ t = .int .i64 j ∧ Ext wo wq ∧ wo.heap.size ≤ wq.heap.size ∧ Hid (wq.ownsRow wo.heap.size 3 1 (.slice (some ⟨g, 0, none⟩) k.primes.length capr) k.primes.length ((accTo false (rootAt k i) (leadRow k i 0) j).map (Value.int .i64))) ∧ Hid (wq.ownsRow w2.heap.size 3 1 (.slice (some ⟨gq, 0, none⟩) k.primes.length capq) k.primes.length ((leadRow k i 0).map (Value.int .i64)))) (fun t _ => k.primes.length - (intOf t).toNat)
      case atStart => exact ⟨0, Nat.zero_le _, rfl, hE13, hsz3, by rw [accTo_zero]; exact HO3.out, HQ3.out⟩
      case round =>
        obtain ⟨j, hj, rfl, hEw, hszw, HO, HQ⟩ := hrel
        clear HO3 HQ3
        by_cases hjl : j < k.primes.length
        · obtain ⟨aj, haj⟩ : ∃ aj, (rootAt k i)[j]? = some aj := ⟨(rootAt k i)[j]'(by have := HN.out; omega), List.getElem?_eq_getElem _⟩
          obtain ⟨xj, hxj⟩ : ∃ xj, (leadRow k i 0)[j]? = some xj := ⟨(leadRow k i 0)[j]'(by have := HN2.out; omega), List.getElem?_eq_getElem _⟩
          have hll : (leadRow k i 0).length = (rootAt k i).length := HN2.out.trans HN.out.symm
          obtain ⟨hac, haf⟩ := owns_cell HO.out (accTo_get false _ _ j aj hll haj)
          obtain ⟨hxc, -⟩ := owns_cell HQ.out hxj
          obtain ⟨ha1, ha2⟩ := HRB.out aj (List.mem_of_getElem? haj)
          obtain ⟨hx1, hx2⟩ := HLB.out xj (List.mem_of_getElem? hxj)
          have HSET := owns_set HO.out j (aj + xj)
          rw [show (accTo false (rootAt k i) (leadRow k i 0) j).set j (aj + xj) = accTo false (rootAt k i) (leadRow k i 0) (j + 1) from accTo_succ false _ _ j aj xj hll haj hxj] at HSET
          have HOK := Lib.hid HSET
          have HQK := Lib.hid (ownsRow_setCell_other HQ.out (a := ⟨g, j, none⟩) (by simp [Value.ownBlock]; omega) (.int .i64 (aj + xj)))
          clear HSET haj hxj hll HO HQ
          go_wp2
          go_roundw
          case rel => exact ⟨j + 1, by omega, by go_num, hEw.setCell hg1 _, by simpa [World.setCell] using hszw, HOK.out, HQK.out⟩
          case measure => simp [intOf]; omega
        · obtain rfl : j = k.primes.length := by omega
          have hll : (leadRow k i 0).length = (rootAt k i).length := HN2.out.trans HN.out.symm
          have HE : Hid (accTo false (rootAt k i) (leadRow k i 0) k.primes.length = rootAt k (i + 1)) := by
            unfold Hid; rw [← HN.out, accTo_all _ _ _ hll]; rfl
          rw [HE.out] at HO
          have hbd := (rootAt_ok k HRK.out (i + 1) (by have := HRK.out.len; omega))
          have hr : Safe wr (Value.ownBlock (.slice (some ⟨bo, oo, none⟩) (i + 1) capo)) fun w => rowR w [.slice (some ⟨g, 0, none⟩) k.primes.length capr] (rootAt k (i + 1)) := by
            refine (Safe.owns HO.out (.inr ?_)).mono ?_
            · simp [Value.ownBlock]; omega
            · intro w h
              refine ⟨_, rfl, ?_⟩
              refine Ints.of_owns (base := wo.heap.size) (e := 3) (by rw [hbd.1]; exact h) (by intro x hx; have := hbd.2 x hx; omega)
          have HR := Lib.hid hr
          have HBX := Lib.hid (Build.ext HB.out hEw)
          clear hr hbd hll HO HQ
          have hszW : W.heap.size ≤ wr.heap.size := Nat.le_trans (Below.size hEr) hszw
          go_wp2_with (at_builtin; go_must (refine wpList_append_build _ rfl _ _ 28 rfl W.heap.size 37 (.slice none 0 0) 1 24 Tryz.underlying28 infoRow rfl (by decide) (.slice (some ⟨bo, oo, none⟩) (i + 1) capo) rowR (rootsOf k i) (rootAt k (i + 1)) #[.slice (some ⟨g, 0, none⟩) k.primes.length capr] 37 rfl HBX.out rfl rfl ?e1 HR.out ?e2 ?e3 hszW ?_))
          case e1 => simp [Value.oneCell']
          case e2 => simp [rootsOf]; omega
          case e3 => omega
          intro v' w5 hB5 hg5 hb5 hs5 _
          rw [← rootsOf_succ] at hB5
          have HB5 := Lib.hid hB5
          have HE5 := Lib.hid (Below.trans (Ext.trans hEr hEw) hb5)
          clear hB5 hg5 hb5
          go_wp2
          go_roundw
          case rel => exact ⟨i + 1, by omega, by go_num, HE5.out, HB5.out⟩
          case measure => simp [intOf]; omega
    · obtain rfl : i = k.links.length := by omega
      go_wp2
      go_ret
      exact ⟨_, rfl, Ext.trans hE hEr, HB.out.list⟩
end Go.Proofs.YtjihfabhgcfjnaaGreatDoor
/- Contracts of drift.fit, drift, Roots, Drift, row.IsZero. -/
namespace Go.Proofs.YtjihfabhgcfjnaaGreatDoor
set_option linter.unusedVariables false
set_option linter.unusedSimpArgs false
open Go.RowKit

theorem rowsE_zero {n : Nat} : ∀ {l : List (List Int)}, rowsE n l = 0 → ∀ x ∈ l, x.length = n ∧ ∀ a ∈ x, -1000 ≤ a ∧ a ≤ 1000
  | [], _, x, hx => by simp at hx
  | y :: l, h, x, hx => by
    unfold rowsE at h
    split at h
    · split at h
      · simp at h
      · rename_i h1 h2
        rcases List.mem_cons.1 hx with rfl | hx
        · refine ⟨h1, fun a ha => ?_⟩
          rw [Bool.not_eq_true, List.any_eq_false] at h2
          have := h2 a ha
          simp [farB] at this
          omega
        · exact rowsE_zero h x hx
    · simp at h

theorem checkAllE_zero {p : List Int} {l : List (List Int)} (h : checkAllE p l = 0) : primesE5 p = 0 ∧ rowsE p.length l = 0 := by
  unfold checkAllE at h
  split at h
  · exact ⟨by assumption, h⟩
  · contradiction

theorem chordsE_zero {p : List Int} : ∀ {l : List (List (List Int))}, chordsE p l = 0 → ∀ c ∈ l, countE c.length 12 = 0 ∧ checkAllE p c = 0
  | [], _, c, hc => by simp at hc
  | d :: l, h, c, hc => by
    unfold chordsE at h
    split at h
    · split at h
      · rcases List.mem_cons.1 hc with rfl | hc
        · exact ⟨by assumption, by assumption⟩
        · exact chordsE_zero h c hc
      · contradiction
    · contradiction

theorem linksE_zero {cs : List (List (List Int))} : ∀ {ls : List (List (Int × Int))} {i : Nat}, linksE cs i ls = 0 → ∀ (j : Nat) l, ls[j]? = some l → countE l.length 12 = 0 ∧ l.any (badLink (cs.getD (i + j) []).length (cs.getD (i + j + 1) []).length) = false
  | [], i, _, j, l, hl => by simp at hl
  | m :: ls, i, h, j, l, hl => by
    unfold linksE at h
    split at h
    · split at h
      · simp at h
      · rename_i h1 h2
        cases j with
        | zero =>
          simp at hl; subst hl
          exact ⟨h1, by simpa using h2⟩
        | succ j =>
          simp at hl
          have := linksE_zero h j l hl
          rw [show i + 1 + j = i + (j + 1) by omega] at this
          exact this
    · contradiction

theorem countE_zero {n : Nat} {m : Int} (h : countE n m = 0) : 0 < n ∧ (n : Int) ≤ m := by
  unfold countE at h; split at h <;> (try omega)

theorem ordLoop_zero_pos {p : List Int} (h : primesE5 p = 0) : 0 < p.length ∧ p.length ≤ 6 := by
  unfold primesE5 at h
  split at h
  · simp at h
  · split at h
    · simp at h
    · omega

theorem walkE_right {k : Wk} (h : walkE k = 0) : RightWk k := by
  unfold walkE at h
  split at h
  · rename_i h1
    split at h
    · rename_i h2
      split at h
      · rename_i h3
        split at h
        · rename_i h4
          obtain ⟨p1, p2⟩ := ordLoop_zero_pos h1
          obtain ⟨c1, c2⟩ := countE_zero h2
          refine ⟨?_, ?_, by omega, by omega, p2, ?_, p1, ?_⟩
          · intro c hc x hx
            have := rowsE_zero (checkAllE_zero (chordsE_zero h3 c hc).2).2 x hx
            exact ⟨this.1, fun a ha => by have := this.2 a ha; omega⟩
          · intro i l hl
            have hi : i < k.links.length := (List.getElem?_eq_some_iff.1 hl).1
            have hz := linksE_zero h i l hl
            refine ⟨k.chords[i]'(by omega), k.chords[i + 1]'(by omega), List.getElem?_eq_getElem _, List.getElem?_eq_getElem _, fun x hx => ?_⟩
            have hb := hz.2
            rw [List.any_eq_false] at hb
            have := hb x hx
            have g1 : k.chords.getD (0 + i) [] = k.chords[i]'(by omega) := by simp [List.getD, List.getElem?_eq_getElem (show i < k.chords.length by omega)]
            have g2 : k.chords.getD (0 + i + 1) [] = k.chords[i + 1]'(by omega) := by simp [List.getD, List.getElem?_eq_getElem (show i + 1 < k.chords.length by omega)]
            rw [g1, g2] at this
            simp [badLink] at this
            omega
          · intro l hl
            obtain ⟨i, hi⟩ := List.getElem?_of_mem hl
            have := (countE_zero (linksE_zero h i l hi).1).1
            intro e; simp [e] at this
          · intro l hl
            obtain ⟨i, hi⟩ := List.getElem?_of_mem hl
            have := (countE_zero (linksE_zero h i l hi).1).2
            omega
        · simp at h
      · contradiction
    · contradiction
  · contradiction

theorem fit_any (p : List Int) (v : Value) (l : List (List Int)) (u : Value) (w : World) (hp : Ints w v p) (hl : Rows2 w u l) :
    Calls Tryz.prog 60 #[v, u] w fun e w' => e = .returned (.int .i64 (checkAllE p l)) ∧ w = w' := by
  have HC := Lib.hid (monzoCheckAll_any p v l u w hp hl)
  clear hp hl
  go_enter Tryz.func60, Tryz.ntmps60
  go_wp2_with (go_at_call 78; refine HC.out.mono ?_; rintro e w' ⟨rfl, rfl⟩)
  go_ret
  exact ⟨rfl, rfl⟩

def rootsE (k : Wk) : Int := if walkE k = 0 then checkAllE k.primes (rootsOf k k.links.length) else walkE k

set_option maxRecDepth 100000 in
set_option maxHeartbeats 1000000 in
theorem Roots_any (k : Wk) (v : Value) (w : World) (h : WalkAt w v k) :
    Calls Tryz.prog 36 #[v] w fun e w' => ∃ r, e = .returned (.tuple #[r, .int .i64 (rootsE k)]) ∧ Ext w w' ∧ (rootsE k = 0 → Rows2 w' r (rootsOf k k.links.length)) ∧ (¬ rootsE k = 0 → r = .slice none 0 0) := by
  have HWALK := Lib.hid h
  obtain ⟨vp, vc, vl, rfl, h1, h2, h3⟩ := h
  obtain ⟨W, hW, hE, hsz, b0, b1, b2⟩ := box_walk w vp vc vl 55
  have HP := Lib.hid h1
  have HCK := Lib.hid (check_any k _ W (HWALK.out.ext hE))
  clear h1 h2 h3
  by_cases hz : walkE k = 0
  · have HRK := Lib.hid (walkE_right hz)
    have HCR := Lib.hid (fun W' (he : Ext W W') => roots_any k _ W' (HWALK.out.ext (hE.trans he)) HRK.out)
    rw [hz] at HCK
    by_cases hc : checkAllE k.primes (rootsOf k k.links.length) = 0
    · have HQ : Hid (rootsE k = 0) := by unfold Hid rootsE; rw [if_pos hz, hc]
      have HC := Lib.hid hc
      clear hz hc
      go_enter Tryz.func36, Tryz.ntmps36
      go_wp2_with fail
      clear hW
      refine HCK.out.mono ?_
      rintro e w1 ⟨rfl, hE1⟩
      have d0 := hE1.cell b0; have d1 := hE1.cell b1; have d2 := hE1.cell b2
      go_wp2_with fail
      refine (HCR.out _ hE1).mono ?_
      rintro e w2 ⟨r, rfl, hE2, hr⟩
      have e0 := hE2.cell d0
      have HF := Lib.hid (fit_any k.primes vp _ r w2 (HP.out.ext (hE.trans (hE1.trans hE2))) hr)
      rw [HC.out] at HF
      have HR := Lib.hid hr
      clear hr d0 d1 d2 HCR HCK
      go_wp2_with fail
      refine HF.out.mono ?_
      rintro e w3 ⟨rfl, rfl⟩
      go_wp2_with fail
      go_ret2
      rw [HQ.out]
      exact ⟨r, rfl, hE.trans (hE1.trans hE2), fun _ => HR.out, fun h => absurd rfl h⟩
    · have HQ : Hid (rootsE k = checkAllE k.primes (rootsOf k k.links.length)) := by unfold Hid rootsE; rw [if_pos hz]
      have hcb : (checkAllE k.primes (rootsOf k k.links.length) != 0) = true := by simp [hc]
      have HC := Lib.hid hc
      clear hz hc
      go_enter Tryz.func36, Tryz.ntmps36
      go_wp2_with fail
      clear hW
      refine HCK.out.mono ?_
      rintro e w1 ⟨rfl, hE1⟩
      have d0 := hE1.cell b0; have d1 := hE1.cell b1; have d2 := hE1.cell b2
      go_wp2_with fail
      refine (HCR.out _ hE1).mono ?_
      rintro e w2 ⟨r, rfl, hE2, hr⟩
      have e0 := hE2.cell d0
      have HF := Lib.hid (fit_any k.primes vp _ r w2 (HP.out.ext (hE.trans (hE1.trans hE2))) hr)
      clear hr d0 d1 d2 HCR HCK
      go_wp2_with fail
      refine HF.out.mono ?_
      rintro e w3 ⟨rfl, rfl⟩
      go_wp2_with fail
      go_ret2
      rw [HQ.out]
      exact ⟨_, rfl, hE.trans (hE1.trans hE2), fun h => absurd h HC.out, fun _ => rfl⟩
  · have HQ : Hid (rootsE k = walkE k) := by unfold Hid rootsE; rw [if_neg hz]
    have hcb : (walkE k != 0) = true := by simp [hz]
    have HC := Lib.hid hz
    clear hz
    go_enter Tryz.func36, Tryz.ntmps36
    go_wp2_with fail
    clear hW
    refine HCK.out.mono ?_
    rintro e w1 ⟨rfl, hE1⟩
    go_wp2_with fail
    go_ret2
    rw [HQ.out]
    exact ⟨_, rfl, hE.trans hE1, fun h => absurd h HC.out, fun _ => rfl⟩

def driftOf (k : Wk) : List Int := rootAt k k.links.length
def driftE (k : Wk) : Int := if walkE k = 0 then checkAllE k.primes [driftOf k] else walkE k

set_option maxRecDepth 100000 in
set_option maxHeartbeats 1000000 in
theorem drift_any (k : Wk) (v : Value) (w : World) (h : WalkAt w v k) (hk : RightWk k) :
    Calls Tryz.prog 61 #[v] w fun e w' => ∃ r, e = .returned r ∧ Ext w w' ∧ Ints w' r (driftOf k) := by
  have HWALK := Lib.hid h
  obtain ⟨vp, vc, vl, rfl, h1, h2, h3⟩ := h
  obtain ⟨W, hW, hE, hsz, b0, b1, b2⟩ := box_walk w vp vc vl 55
  have HCR := Lib.hid (roots_any k _ W (HWALK.out.ext hE) hk)
  have hlen1 : k.links.length ≤ 63 := by have := hk.len; have := hk.most; omega
  clear h1 h2 h3 hk
  go_enter Tryz.func61, Tryz.ntmps61
  go_wp2_with fail
  clear hW
  refine HCR.out.mono ?_
  rintro e w2 ⟨r, rfl, hE2, hr⟩
  obtain ⟨a, c, rfl, hlc, hmc, -, hcell⟩ := inCell.open hr
  have hrl : (rootsOf k k.links.length).length = k.links.length + 1 := by simp [rootsOf]
  obtain ⟨b, off, rfl, hb, hcell2⟩ := hcell (by intro e; rw [e] at hrl; simp at hrl)
  obtain ⟨vr, hvr, hcr⟩ := hcell2 k.links.length (driftOf k) (by simp [rootsOf, driftOf])
  rw [hrl] at hlc ⊢
  unfold maxLen at hmc
  have HVR := Lib.hid hvr
  clear hcell hcell2 hr hvr hrl HCR
  go_wp2_with fail
  go_ret
  exact ⟨vr, rfl, hE.trans hE2, HVR.out⟩


set_option maxRecDepth 100000 in
set_option maxHeartbeats 1000000 in
theorem Drift_any (k : Wk) (v : Value) (w : World) (h : WalkAt w v k) :
    Calls Tryz.prog 20 #[v] w fun e w' => ∃ r, e = .returned (.tuple #[r, .int .i64 (driftE k)]) ∧ Ext w w' ∧ (driftE k = 0 → Ints w' r (driftOf k)) ∧ (¬ driftE k = 0 → r = .slice none 0 0) := by
  have HWALK := Lib.hid h
  obtain ⟨vp, vc, vl, rfl, h1, h2, h3⟩ := h
  obtain ⟨W, hW, hE, hsz, b0, b1, b2⟩ := box_walk w vp vc vl 55
  have HP := Lib.hid h1
  have HCK := Lib.hid (check_any k _ W (HWALK.out.ext hE))
  clear h1 h2 h3
  by_cases hz : walkE k = 0
  · have HRK := Lib.hid (walkE_right hz)
    have HCR := Lib.hid (fun W' (he : Ext W W') => drift_any k _ W' (HWALK.out.ext (hE.trans he)) HRK.out)
    rw [hz] at HCK
    have hr1 : ∀ W' r, Ints W' r (driftOf k) → Rows2 (W'.alloc (.cells #[r] 37)) (.slice (some ⟨W'.heap.size, 0, none⟩) 1 1) [driftOf k] := fun W' r hr =>
      ListAt.lit (R := Ints) (fun _ _ _ _ he h => ListAt.ext intR.mono h he) W' [r] [driftOf k] 37 rfl (by simp [maxLen]) (by
        intro j u z hu hz
        match j with
        | 0 => simp at hu hz; subst hu; subst hz; exact hr
        | j + 1 => simp at hu)
    have HR1 := Lib.hid hr1
    clear hr1
    by_cases hc : checkAllE k.primes [driftOf k] = 0
    · have HQ : Hid (driftE k = 0) := by unfold Hid driftE; rw [if_pos hz, hc]
      have HC := Lib.hid hc
      clear hz hc
      go_enter Tryz.func20, Tryz.ntmps20
      go_wp2_with fail
      clear hW
      refine HCK.out.mono ?_
      rintro e w1 ⟨rfl, hE1⟩
      have d0 := hE1.cell b0; have d1 := hE1.cell b1; have d2 := hE1.cell b2
      go_wp2_with fail
      refine (HCR.out _ hE1).mono ?_
      rintro e w2 ⟨r, rfl, hE2, hr⟩
      have e0 := hE2.cell d0
      have hsz2 : w.heap.size < w2.heap.size := Nat.lt_of_lt_of_le hsz (hE1.trans hE2).size
      have HR := Lib.hid hr
      obtain ⟨ar, cr, rfl, -, -, -, -, -⟩ := hr.open
      clear hr d0 d1 d2 HCR HCK
      go_wp2_with fail
      have hf := fit_any k.primes vp _ _ _ (HP.out.ext (hE.trans (hE1.trans (hE2.trans (Ext.alloc w2 (.cells #[.slice ar (driftOf k).length cr] 37)))))) (HR1.out w2 _ HR.out)
      rw [HC.out] at hf
      refine hf.mono ?_
      rintro e w3 ⟨rfl, rfl⟩
      clear hf
      go_wp2_with fail
      go_ret2
      rw [HQ.out]
      exact ⟨_, rfl, hE.trans (hE1.trans (hE2.trans (Ext.alloc _ _))), fun _ => HR.out.ext (Ext.alloc _ _), fun h => absurd rfl h⟩
    · have HQ : Hid (driftE k = checkAllE k.primes [driftOf k]) := by unfold Hid driftE; rw [if_pos hz]
      have hcb : (checkAllE k.primes [driftOf k] != 0) = true := by simp [hc]
      have HC := Lib.hid hc
      clear hz hc
      go_enter Tryz.func20, Tryz.ntmps20
      go_wp2_with fail
      clear hW
      refine HCK.out.mono ?_
      rintro e w1 ⟨rfl, hE1⟩
      have d0 := hE1.cell b0; have d1 := hE1.cell b1; have d2 := hE1.cell b2
      go_wp2_with fail
      refine (HCR.out _ hE1).mono ?_
      rintro e w2 ⟨r, rfl, hE2, hr⟩
      have e0 := hE2.cell d0
      have hsz2 : w.heap.size < w2.heap.size := Nat.lt_of_lt_of_le hsz (hE1.trans hE2).size
      have HR := Lib.hid hr
      obtain ⟨ar, cr, rfl, -, -, -, -, -⟩ := hr.open
      clear hr d0 d1 d2 HCR HCK
      go_wp2_with fail
      refine (fit_any k.primes vp _ _ _ (HP.out.ext (hE.trans (hE1.trans (hE2.trans (Ext.alloc w2 (.cells #[.slice ar (driftOf k).length cr] 37)))))) (HR1.out w2 _ HR.out)).mono ?_
      rintro e w3 ⟨rfl, rfl⟩
      go_wp2_with fail
      go_ret2
      rw [HQ.out]
      exact ⟨_, rfl, hE.trans (hE1.trans (hE2.trans (Ext.alloc _ _))), fun h => absurd h HC.out, fun _ => rfl⟩
  · have HQ : Hid (driftE k = walkE k) := by unfold Hid driftE; rw [if_neg hz]
    have hcb : (walkE k != 0) = true := by simp [hz]
    have HC := Lib.hid hz
    clear hz
    go_enter Tryz.func20, Tryz.ntmps20
    go_wp2_with fail
    clear hW
    refine HCK.out.mono ?_
    rintro e w1 ⟨rfl, hE1⟩
    go_wp2_with fail
    go_ret2
    rw [HQ.out]
    exact ⟨_, rfl, hE.trans hE1, fun h => absurd h HC.out, fun _ => rfl⟩

/-- The predicate of row.IsZero. -/
theorem isZero5f_any (x : Int) (w : World) : Calls Tryz.prog 110 #[.int .i64 x] w fun e w' => e = .returned (.bool (x != 0)) ∧ w = w' := by
  go_enter Tryz.func110, Tryz.ntmps110
  go_wp2
  go_ret
  exact ⟨rfl, rfl⟩

theorem isZero5_any (xs : List Int) (v : Value) (w : World) (h : Ints w v xs) :
    Calls Tryz.prog 58 #[v] w fun e w' => e = .returned (.bool (!xs.any (· != 0))) ∧ Ext w w' := by
  have HC := Lib.hid (containsRow_any xs v 110 #[] (· != 0) w h (enters_of Tryz.func110 (by kernel_rfl) rfl) (fun W x _ _ => (isZero5f_any x W).mono fun _ _ ⟨he, hw⟩ => ⟨he, hw ▸ Ext.refl _⟩))
  clear h
  go_enter Tryz.func58, Tryz.ntmps58
  go_wp2_with (go_at_call 62; refine HC.out.mono ?_; rintro e w' ⟨rfl, hE'⟩)
  go_ret
  exact ⟨rfl, by assumption⟩

end Go.Proofs.YtjihfabhgcfjnaaGreatDoor
