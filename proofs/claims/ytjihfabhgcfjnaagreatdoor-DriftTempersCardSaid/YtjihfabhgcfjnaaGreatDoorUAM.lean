/- Merged: DriftG, HermO. -/
import Derived.Test.YtjihfabhgcfjnaaGreatDoorUAK
import Derived.Test.YtjihfabhgcfjnaaGreatDoorUAA
import Derived.Test.YtjihfabhgcfjnaaGreatDoorUAE
import Derived.Test.YtjihfabhgcfjnaaGreatDoorUAB
/- drift.roots, drift.drift with rows that the call owns; contract of drift.Repeat. -/
namespace Go.Proofs.YtjihfabhgcfjnaaGreatDoor
set_option linter.unusedVariables false
set_option linter.unusedSimpArgs false
open Go.RowKit

/-- A row of n integers that the call owns. -/
def ownR (b n : Nat) (w : World) (v : Value) (xs : List Int) : Prop := w.ownsRow b 3 1 v n (xs.map (Value.int .i64))

set_option maxRecDepth 100000 in
set_option maxHeartbeats 4000000 in
theorem rootsOwn_any (k : Wk) (v : Value) (w : World) (h : WalkAt w v k) (hk : RightWk k) :
    Calls Tryz.prog 79 #[v] w fun e w' => ∃ r, e = .returned r ∧ Ext w w' ∧ ListAt 1 (inCell (ownR w.heap.size k.primes.length)) w' r (rootsOf k k.links.length) := by
  have HWALK := Lib.hid h
  obtain ⟨vp, vc, vl, rfl, h1, h2, h3⟩ := h
  obtain ⟨W, hW, hE, hsz, b0, b1, b2⟩ := box_walk w vp vc vl 55
  obtain ⟨ap, cp, rfl, hlp, hmp, -, -, -⟩ := h1.open
  obtain ⟨al, cl, rfl, hll, hml, -, -⟩ := inCell.open h3
  unfold maxLen at hmp hml
  obtain ⟨i0, hi, hz0, hz1, hz2⟩ := info_parts infoInt
  have HI := Lib.hid hi; have HZ0 := Lib.hid hz0; have HZ1 := Lib.hid hz1; have HZ2 := Lib.hid hz2
  have HRK := Lib.hid hk
  have hpl := hk.primes
  have hlen1 : k.links.length ≤ 63 := by have := hk.len; have := hk.most; omega
  have hp0 := hk.prime
  clear hi hz0 hz1 hz2 h1 h2 h3 hk
  go_enter Tryz.func79, Tryz.ntmps79
  go_wp2_with (at_make; refine wpList_make_full _ rfl _ _ 37 rfl W.heap.size 3 i0 (.int .i64 0) 1 Tryz.underlying37 HI.out HZ0.out HZ1.out _ _ _ _ k.primes.length rfl rfl rfl rfl ?c1 ?c2 ?c3 ?_)
  case c1 => rw [HZ2.out]; omega
  case c2 => unfold maxLen; omega
  case c3 => exact Nat.le_refl _
  intro w1 hown hgrow
  rw [made_ints] at hown
  clear hW
  have hE1 : Ext W w1 := (Below.refl _ _).grown hgrow (Nat.le_refl _) (by intro k hk; cases hk)
  have hz : ownR w.heap.size k.primes.length w1 (.slice (some ⟨W.heap.size, 0, none⟩) k.primes.length k.primes.length) (rootAt k 0) := by
    unfold ownR
    simpa [rootAt] using owns_base hown (Nat.le_of_lt hsz)
  have HZR := Lib.hid hz
  have HG := Lib.hid hgrow
  clear hown hgrow hz
  have hsz1 : w.heap.size < w1.heap.size := Nat.lt_of_lt_of_le hsz hE1.size
  have d0 := hE1.cell b0; have d1 := hE1.cell b1; have d2 := hE1.cell b2
  go_wp2
  have hb0 : Build (w1.alloc (.cells #[.slice (some ⟨W.heap.size, 0, none⟩) k.primes.length k.primes.length] 37)) W.heap.size 37 1 (.slice (some ⟨w1.heap.size, 0, none⟩) 1 1) (inCell (ownR w.heap.size k.primes.length)) (rootsOf k 0) :=
    Build.lit (e := 37) (R := (inCell (ownR w.heap.size k.primes.length))) w1 [[.slice (some ⟨W.heap.size, 0, none⟩) k.primes.length k.primes.length]] [rootAt k 0] hE1.size rfl (by simp) (by simp [maxLen]) (by
      intro j u x hu hx w' he
      match j with
      | 0 => simp at hu hx; subst hu; subst hx; exact ⟨_, rfl, owns_ext HZR.out he⟩
      | j + 1 => simp at hu)
  have HB0 := Lib.hid hb0
  clear hb0
  go_loopw [3, 16] (fun out t wr => ∃ i : Nat, i ≤ k.links.length ∧ t = .int .i64 i ∧ Below W.heap.size W wr ∧ Hid (Build wr W.heap.size 37 1 out (inCell (ownR w.heap.size k.primes.length)) (rootsOf k i))) (fun _ t _ => k.links.length - (intOf t).toNat)
  case atStart => exact ⟨0, Nat.zero_le _, rfl, Below.alloc hE1 hE1.size _, HB0.out⟩
  case round =>
    obtain ⟨i, hi, rfl, hEr, HB⟩ := hrel
    obtain ⟨wo, rfl⟩ : ∃ wo : World, wo = wr := ⟨_, rfl⟩
    clear HB0 d0 d1 d2
    have d2 := Ext.cell hEr b2
    by_cases hlt : i < k.links.length
    · obtain ⟨aout, capo, hout, hol, hom, -, hoc⟩ := inCell.open HB.out.list
      have hrl : (rootsOf k i).length = i + 1 := by simp [rootsOf]
      obtain ⟨bo, oo, hao, hbo, hoc⟩ := hoc (by intro e; rw [e] at hrl; simp at hrl)
      obtain ⟨vr, hvr, hcr⟩ := hoc i (rootAt k i) (by simp [rootsOf])
      have hown := HB.out.lt
      subst hout
      subst hao
      rw [hrl] at hol HB
      unfold maxLen at hom
      rw [hrl]
      have hok0 := rootAt_ok k HRK.out i (by have := HRK.out.len; omega)
      have hvi : Ints wo vr (rootAt k i) := Ints.of_owns (base := w.heap.size) (e := 3) (by rw [hok0.1]; exact hvr) (by intro x hx; have := hok0.2 x hx; have := HRK.out.most; have := HRK.out.len; omega)
      have hcl := cloneRow_any (rootAt k i) vr wo hvi (by have := (rootAt_ok k HRK.out i (by have := HRK.out.len; omega)).1; omega)
      have HCL := Lib.hid hcl
      clear hcl hoc hrl hvr hvi hok0
      have hn := (rootAt_ok k HRK.out i (by have := HRK.out.len; omega)).1
      obtain ⟨l, hll⟩ : ∃ l, k.links[i]? = some l := ⟨k.links[i], List.getElem?_eq_getElem hlt⟩
      have hl0 : 0 < l.length := by have := HRK.out.some l (List.mem_of_getElem? hll); cases l with | nil => exact absurd rfl this | cons => simp
      obtain ⟨hn2, hlb⟩ := leadRow_ok k HRK.out i 0 l hll hl0
      have hrb := (rootAt_ok k HRK.out i (by have := HRK.out.len; omega)).2
      have HN := Lib.hid hn; have HN2 := Lib.hid hn2; have HLB := Lib.hid hlb; have HRB := Lib.hid hrb
      have HL := Lib.hid hll
      clear hn hn2 hlb hrb hll
      go_wp2_with fail
      refine HCL.out.mono ?_
      rintro e w2 ⟨r, rfl, hE2, hown2⟩
      clear HCL
      rw [HN.out] at hown2
      obtain ⟨g, capr, rfl, hg1, hg2, hg3, hg4⟩ := owns_shape hown2 hp0
      unfold maxLen at hg4
      have HO2 := Lib.hid hown2
      clear hown2
      have e0 := hE2.cell (Ext.cell hEr b0); have e1 := hE2.cell (Ext.cell hEr b1); have e2 := hE2.cell d2
      go_wp2_with fail
      have hlead : Calls Tryz.prog 111 #[.agg #[.slice ap k.primes.length cp, vc, .slice al k.links.length cl], .int .i64 i, .int .i64 0] w2 _ :=
        lead5_any k _ w2 i 0 (WalkAt.ext HWALK.out ((Ext.trans hE hEr).trans hE2)) HRK.out.tame HRK.out.linked HRK.out.primes l HL.out hl0
      refine hlead.mono ?_
      rintro e w3 ⟨vq, rfl, hE3, hq⟩
      clear hlead
      have hg5 : g < w2.heap.size := hg2
      obtain ⟨gq, capq, rfl, hq1, hq2, hq3, hq4⟩ := owns_shape hq hp0
      have hne : ¬ gq = g := by omega
      have HO3 := Lib.hid (owns_ext HO2.out hE3)
      have HQ3 := Lib.hid hq
      unfold maxLen at hq4
      have hE13 : Ext wo w3 := hE2.trans hE3
      have hsz3 : wo.heap.size ≤ w3.heap.size := hE13.size
      clear hq HO2 e0 e1 e2
      go_wp2_with fail
      go_loopw [28] (fun t wq => ∃ j : Nat, j ≤ k.primes.length ∧ t = .int .i64 j ∧ Ext wo wq ∧ wo.heap.size ≤ wq.heap.size ∧ Hid (wq.ownsRow wo.heap.size 3 1 (.slice (some ⟨g, 0, none⟩) k.primes.length capr) k.primes.length ((accTo false (rootAt k i) (leadRow k i 0) j).map (Value.int .i64))) ∧ Hid (wq.ownsRow w2.heap.size 3 1 (.slice (some ⟨gq, 0, none⟩) k.primes.length capq) k.primes.length ((leadRow k i 0).map (Value.int .i64)))) (fun t _ => k.primes.length - (intOf t).toNat)
      case atStart => exact ⟨0, Nat.zero_le _, rfl, hE13, hsz3, by rw [accTo_zero]; exact HO3.out, HQ3.out⟩
      case round =>
        obtain ⟨j, hj, rfl, hEw, hszw, HO, HQ⟩ := hrel
        clear HO3 HQ3
        by_cases hjl : j < k.primes.length
        · obtain ⟨aj, haj⟩ : ∃ aj, (rootAt k i)[j]? = some aj := ⟨(rootAt k i)[j]'(by have := HN.out; omega), List.getElem?_eq_getElem _⟩
          obtain ⟨xj, hxj⟩ : ∃ xj, (leadRow k i 0)[j]? = some xj := ⟨(leadRow k i 0)[j]'(by have := HN2.out; omega), List.getElem?_eq_getElem _⟩
          have hll : (leadRow k i 0).length = (rootAt k i).length := HN2.out.trans HN.out.symm
          obtain ⟨hac, haf⟩ := owns_cell HO.out (accTo_get false _ _ j aj hll haj)
          obtain ⟨hxc, -⟩ := owns_cell HQ.out hxj
          obtain ⟨ha1, ha2⟩ := HRB.out aj (List.mem_of_getElem? haj)
          obtain ⟨hx1, hx2⟩ := HLB.out xj (List.mem_of_getElem? hxj)
          have HSET := owns_set HO.out j (aj + xj)
          rw [show (accTo false (rootAt k i) (leadRow k i 0) j).set j (aj + xj) = accTo false (rootAt k i) (leadRow k i 0) (j + 1) from accTo_succ false _ _ j aj xj hll haj hxj] at HSET
          have HOK := Lib.hid HSET
          have HQK := Lib.hid (ownsRow_setCell_other HQ.out (a := ⟨g, j, none⟩) (by simp [Value.ownBlock]; omega) (.int .i64 (aj + xj)))
          clear HSET haj hxj hll HO HQ
          go_wp2
          go_roundw
          case rel => exact ⟨j + 1, by omega, by go_num, hEw.setCell hg1 _, by simpa [World.setCell] using hszw, HOK.out, HQK.out⟩
          case measure => simp [intOf]; omega
        · obtain rfl : j = k.primes.length := by omega
          have hll : (leadRow k i 0).length = (rootAt k i).length := HN2.out.trans HN.out.symm
          have HE : Hid (accTo false (rootAt k i) (leadRow k i 0) k.primes.length = rootAt k (i + 1)) := by
            unfold Hid; rw [← HN.out, accTo_all _ _ _ hll]; rfl
          rw [HE.out] at HO
          have hbd := (rootAt_ok k HRK.out (i + 1) (by have := HRK.out.len; omega))
          have hr : Safe wr (Value.ownBlock (.slice (some ⟨bo, oo, none⟩) (i + 1) capo)) fun w' => (inCell (ownR w.heap.size k.primes.length)) w' [.slice (some ⟨g, 0, none⟩) k.primes.length capr] (rootAt k (i + 1)) := by
            refine (Safe.owns HO.out (.inr ?_)).mono ?_
            · simp [Value.ownBlock]; omega
            · intro w' h
              exact ⟨_, rfl, owns_base h (Nat.le_trans (Nat.le_of_lt hsz) (Below.size hEr))⟩
          have HR := Lib.hid hr
          have HBX := Lib.hid (Build.ext HB.out hEw)
          clear hr hbd hll HO HQ
          have hszW : W.heap.size ≤ wr.heap.size := Nat.le_trans (Below.size hEr) hszw
          go_wp2_with (at_builtin; go_must (refine wpList_append_build _ rfl _ _ 28 rfl W.heap.size 37 (.slice none 0 0) 1 24 Tryz.underlying28 infoRow rfl (by decide) (.slice (some ⟨bo, oo, none⟩) (i + 1) capo) (inCell (ownR w.heap.size k.primes.length)) (rootsOf k i) (rootAt k (i + 1)) #[.slice (some ⟨g, 0, none⟩) k.primes.length capr] 37 rfl HBX.out rfl rfl ?e1 HR.out ?e2 ?e3 hszW ?_))
          case e1 => simp [Value.oneCell']
          case e2 => simp [rootsOf]; omega
          case e3 => omega
          intro v' w5 hB5 hg5 hb5 hs5 _
          rw [← rootsOf_succ] at hB5
          have HB5 := Lib.hid hB5
          have HE5 := Lib.hid (Below.trans (Ext.trans hEr hEw) hb5)
          clear hB5 hg5 hb5
          go_wp2
          go_roundw
          case rel => exact ⟨i + 1, by omega, by go_num, HE5.out, HB5.out⟩
          case measure => simp [intOf]; omega
    · obtain rfl : i = k.links.length := by omega
      go_wp2
      go_ret
      exact ⟨_, rfl, Ext.trans hE hEr, HB.out.list⟩

set_option maxRecDepth 100000 in
set_option maxHeartbeats 1000000 in
theorem driftOwn_any (k : Wk) (v : Value) (w : World) (h : WalkAt w v k) (hk : RightWk k) :
    Calls Tryz.prog 61 #[v] w fun e w' => ∃ r, e = .returned r ∧ Ext w w' ∧ ownR w.heap.size k.primes.length w' r (driftOf k) := by
  have HWALK := Lib.hid h
  obtain ⟨vp, vc, vl, rfl, h1, h2, h3⟩ := h
  obtain ⟨W, hW, hE, hsz, b0, b1, b2⟩ := box_walk w vp vc vl 55
  have HCR := Lib.hid (rootsOwn_any k _ W (HWALK.out.ext hE) hk)
  have hlen1 : k.links.length ≤ 63 := by have := hk.len; have := hk.most; omega
  clear h1 h2 h3 hk
  go_enter Tryz.func61, Tryz.ntmps61
  go_wp2_with fail
  clear hW
  refine HCR.out.mono ?_
  rintro e w2 ⟨r, rfl, hE2, hr⟩
  obtain ⟨a, c, rfl, hlc, hmc, -, hcell⟩ := inCell.open hr
  have hrl : (rootsOf k k.links.length).length = k.links.length + 1 := by simp [rootsOf]
  obtain ⟨b, off, rfl, hb, hcell2⟩ := hcell (by intro e; rw [e] at hrl; simp at hrl)
  obtain ⟨vr, hvr, hcr⟩ := hcell2 k.links.length (driftOf k) (by simp [rootsOf, driftOf])
  rw [hrl] at hlc ⊢
  unfold maxLen at hmc
  have HVR := Lib.hid hvr
  have hle := Nat.le_of_lt hsz
  clear hcell hcell2 hr hvr hrl HCR
  go_wp2_with fail
  go_ret
  exact ⟨vr, rfl, hE.trans hE2, owns_base HVR.out hle⟩

/-- A row times n. -/
def timesRow (x : List Int) (n : Int) : List Int := x.map (· * n)
def repE5 (k : Wk) (n : Int) : Int := if walkE k = 0 then (if n < 0 ∨ 1000 < n then 3 else checkAllE k.primes [timesRow (driftOf k) n]) else walkE k
def mulTo (x : List Int) (n : Int) (j : Nat) : List Int := (timesRow x n).take j ++ x.drop j
theorem mulTo_get (x : List Int) (n : Int) (j : Nat) (a : Int) (h : x[j]? = some a) : (mulTo x n j)[j]? = some a := by
  have hj : j < x.length := (List.getElem?_eq_some_iff.1 h).1
  have hl : ((timesRow x n).take j).length = j := by simp [timesRow]; omega
  unfold mulTo
  rw [List.getElem?_append_right (by omega), hl, Nat.sub_self, List.getElem?_drop]
  simpa using h
theorem mulTo_succ (x : List Int) (n : Int) (j : Nat) (a : Int) (h : x[j]? = some a) : (mulTo x n j).set j (a * n) = mulTo x n (j + 1) := by
  obtain ⟨hj, rfl⟩ := List.getElem?_eq_some_iff.1 h
  apply List.ext_getElem?
  intro i
  have hl : ((timesRow x n).take j).length = j := by simp [timesRow]; omega
  have hl2 : ((timesRow x n).take (j + 1)).length = j + 1 := by simp [timesRow]; omega
  have hm : (mulTo x n j).length = x.length := by simp [mulTo, timesRow]; omega
  rw [List.getElem?_set]
  by_cases hij : j = i
  · subst hij
    rw [if_pos rfl, if_pos (by omega)]
    unfold mulTo
    rw [List.getElem?_append_left (by omega), List.getElem?_take, if_pos (by omega)]
    simp [timesRow, hj]
  · rw [if_neg hij]
    unfold mulTo
    by_cases hi : i < j
    · rw [List.getElem?_append_left (by omega), List.getElem?_append_left (by omega), List.getElem?_take, List.getElem?_take, if_pos hi, if_pos (by omega)]
    · rw [List.getElem?_append_right (by omega), List.getElem?_append_right (by omega), hl, hl2, List.getElem?_drop, List.getElem?_drop]
      congr 1; omega

theorem wrap_mul (a n : Int) (h1 : -200000000 ≤ a) (h2 : a ≤ 200000000) (h3 : 0 ≤ n) (h4 : n ≤ 1000) : IntKind.i64.wrap (a * n) = a * n ∧ -200000000000 ≤ a * n ∧ a * n ≤ 200000000000 := by
  have e1 : a * n ≤ 200000000 * n := Int.mul_le_mul_of_nonneg_right h2 h3
  have e2 : -200000000 * n ≤ a * n := Int.mul_le_mul_of_nonneg_right h1 h3
  refine ⟨?_, by omega, by omega⟩
  rw [IntKind.wrap_i64]; omega

set_option maxRecDepth 100000 in
set_option maxHeartbeats 2000000 in
theorem Repeat_any (k : Wk) (v : Value) (n : Int) (w : World) (h : WalkAt w v k) (hn63 : -9223372036854775808 ≤ n ∧ n ≤ 9223372036854775807) :
    Calls Tryz.prog 40 #[v, .int .i64 n] w fun e w' => ∃ r, e = .returned (.tuple #[r, .int .i64 (repE5 k n)]) ∧ Ext w w' ∧ (repE5 k n = 0 → Ints w' r (timesRow (driftOf k) n)) ∧ (¬ repE5 k n = 0 → r = .slice none 0 0) := by
  have HWALK := Lib.hid h
  obtain ⟨vp, vc, vl, rfl, h1, h2, h3⟩ := h
  obtain ⟨W, hW, hE, hsz, b0, b1, b2⟩ := box_walk w vp vc vl 55
  have HP := Lib.hid h1
  have HCK := Lib.hid (check_any k _ W (HWALK.out.ext hE))
  clear h1 h2 h3
  by_cases hz : walkE k = 0
  · have HRK := Lib.hid (walkE_right hz)
    rw [hz] at HCK
    by_cases hn : n < 0
    · have HQ : Hid (repE5 k n = 3) := by unfold Hid repE5; rw [if_pos hz, if_pos (.inl hn)]
      clear hz
      go_enter Tryz.func40, Tryz.ntmps40
      go_wp2_with fail
      clear hW
      refine HCK.out.mono ?_
      rintro e w1 ⟨rfl, hE1⟩
      go_wp2_with fail
      go_ret2
      rw [HQ.out]
      exact ⟨_, rfl, hE.trans hE1, fun h => absurd h (by decide), fun _ => rfl⟩
    · by_cases hn2 : 1000 < n
      · have HQ : Hid (repE5 k n = 3) := by unfold Hid repE5; rw [if_pos hz, if_pos (.inr hn2)]
        clear hz
        go_enter Tryz.func40, Tryz.ntmps40
        go_wp2_with fail
        clear hW
        refine HCK.out.mono ?_
        rintro e w1 ⟨rfl, hE1⟩
        go_wp2_with fail
        go_ret2
        rw [HQ.out]
        exact ⟨_, rfl, hE.trans hE1, fun h => absurd h (by decide), fun _ => rfl⟩
      · have HCR := Lib.hid (fun W' (he : Ext W W') => driftOwn_any k _ W' (HWALK.out.ext (hE.trans he)) HRK.out)
        have HQ : Hid (repE5 k n = checkAllE k.primes [timesRow (driftOf k) n]) := by unfold Hid repE5; rw [if_pos hz, if_neg (by omega)]
        have HOK := Lib.hid (rootAt_ok k HRK.out k.links.length (by have := HRK.out.len; omega))
        have hlen1 : k.links.length ≤ 63 := by have := HRK.out.len; have := HRK.out.most; omega
        have hp0 := HRK.out.prime
        have hp6 := HRK.out.primes
        clear hz
        go_enter Tryz.func40, Tryz.ntmps40
        go_wp2_with fail
        clear hW
        refine HCK.out.mono ?_
        rintro e w1 ⟨rfl, hE1⟩
        have d0 := hE1.cell b0; have d1 := hE1.cell b1; have d2 := hE1.cell b2
        go_wp2_with fail
        refine (HCR.out _ hE1).mono ?_
        rintro e w2 ⟨r, rfl, hE2, hr⟩
        have e0 := hE2.cell d0
        obtain ⟨g, cap, rfl, hg1, hg2, hg3, hg4⟩ := owns_shape hr hp0
        have HO := Lib.hid hr
        have hsz1 : w.heap.size < w1.heap.size := Nat.lt_of_lt_of_le hsz hE1.size
        have hle1 : W.heap.size ≤ w1.heap.size := hE1.size
        unfold maxLen at hg4
        have HE1 := Lib.hid hE1
        have HE2 := Lib.hid hE2
        clear hr HCR HCK b0 b1 b2 d0 d1 d2 hE1
        go_wp2_with fail
        go_loopw [25] (fun t wr => ∃ j : Nat, j ≤ k.primes.length ∧ t = .int .i64 j ∧ Below w1.heap.size w2 wr ∧ Hid (ownR w1.heap.size k.primes.length wr (.slice (some ⟨g, 0, none⟩) k.primes.length cap) (mulTo (driftOf k) n j))) (fun t _ => k.primes.length - (intOf t).toNat)
        case atStart => exact ⟨0, Nat.zero_le _, rfl, Below.refl _ _, by simpa [mulTo, Hid] using HO.out⟩
        case round =>
          obtain ⟨j, hj, rfl, hEr, HO2⟩ := hrel
          clear HO
          by_cases hlt : j < k.primes.length
          · obtain ⟨a, ha⟩ : ∃ a, (driftOf k)[j]? = some a := ⟨(driftOf k)[j]'(by rw [show (driftOf k).length = k.primes.length from HOK.out.1]; exact hlt), List.getElem?_eq_getElem _⟩
            obtain ⟨hc, hf⟩ := owns_cell HO2.out (mulTo_get _ n j a ha)
            have hb := HOK.out.2 a (List.mem_of_getElem? ha)
            obtain ⟨hw, hw1, hw2⟩ := wrap_mul a n (by omega) (by omega) (by omega) (by omega)
            have HS := owns_set HO2.out j (a * n)
            rw [mulTo_succ _ n j a ha] at HS
            have HS2 := Lib.hid HS
            clear HS ha HO2 hb
            go_wp2_with fail
            go_roundw
            case rel => exact ⟨j + 1, by omega, by go_num, hEr.setCell hg1 _, HS2.out⟩
            case measure => simp [intOf]; omega
          · obtain rfl : j = k.primes.length := by omega
            have HE : Hid (mulTo (driftOf k) n k.primes.length = timesRow (driftOf k) n) := by
              have e : (driftOf k).length = k.primes.length := HOK.out.1
              unfold Hid mulTo
              rw [← e, List.take_of_length_le (by simp [timesRow]), List.drop_length, List.append_nil]
            rw [HE.out] at HO2
            have hI : Ints wr (.slice (some ⟨g, 0, none⟩) k.primes.length cap) (timesRow (driftOf k) n) := by
              have e : (timesRow (driftOf k) n).length = k.primes.length := by simp only [timesRow, List.length_map]; exact HOK.out.1
              have := HO2.out
              unfold ownR at this
              rw [← e] at this ⊢
              refine Ints.of_owns this fun x hx => ?_
              obtain ⟨a, ha, rfl⟩ := List.mem_map.1 hx
              have hb := HOK.out.2 a ha
              have := wrap_mul a n (by omega) (by omega) (by omega) (by omega)
              omega
            have hEw : Ext W wr := Ext.trans HE1.out (Below.trans HE2.out hEr)
            have e0r : wr.cell? ⟨w.heap.size, 0, none⟩ = some vp := (Below.cell hEr (p := ⟨w.heap.size, 0, none⟩) hsz1).trans e0
            have hszr := hEw.size
            have HI := Lib.hid hI
            have HEW := Lib.hid hEw
            have hrow : Rows2 (wr.alloc (.cells #[.slice (some ⟨g, 0, none⟩) k.primes.length cap] 37)) (.slice (some ⟨wr.heap.size, 0, none⟩) 1 1) [timesRow (driftOf k) n] :=
              ListAt.lit (R := Ints) (fun _ _ _ _ he h => ListAt.ext intR.mono h he) wr [.slice (some ⟨g, 0, none⟩) k.primes.length cap] [timesRow (driftOf k) n] 37 rfl (by simp [maxLen]) (by
                intro j u z hu hz
                match j with
                | 0 => simp at hu hz; subst hu; subst hz; exact HI.out
                | j + 1 => simp at hu)
            have HF := Lib.hid (fit_any k.primes vp _ _ _ (HP.out.ext (hE.trans (hEw.trans (Ext.alloc wr (.cells #[.slice (some ⟨g, 0, none⟩) k.primes.length cap] 37))))) hrow)
            clear hrow hI e0 hEw HO2
            by_cases hc : checkAllE k.primes [timesRow (driftOf k) n] = 0
            · rw [hc] at HF HQ
              clear hc
              go_wp2_with fail
              refine HF.out.mono ?_
              rintro e w3 ⟨rfl, rfl⟩
              go_wp2_with fail
              go_ret2
              rw [HQ.out]
              exact ⟨_, rfl, hE.trans (HEW.out.trans (Ext.alloc _ _)), fun _ => HI.out.ext (Ext.alloc _ _), fun h => absurd rfl h⟩
            · have hcb : (checkAllE k.primes [timesRow (driftOf k) n] != 0) = true := by simp [hc]
              have HC := Lib.hid hc
              clear hc
              go_wp2_with fail
              refine HF.out.mono ?_
              rintro e w3 ⟨rfl, rfl⟩
              go_wp2_with fail
              go_ret2
              rw [HQ.out]
              exact ⟨_, rfl, hE.trans (HEW.out.trans (Ext.alloc _ _)), fun h => absurd h HC.out, fun _ => rfl⟩
  · have HQ : Hid (repE5 k n = walkE k) := by unfold Hid repE5; rw [if_neg hz]
    have hcb : (walkE k != 0) = true := by simp [hz]
    have HC := Lib.hid hz
    clear hz
    go_enter Tryz.func40, Tryz.ntmps40
    go_wp2_with fail
    clear hW
    refine HCK.out.mono ?_
    rintro e w1 ⟨rfl, hE1⟩
    go_wp2_with fail
    go_ret2
    rw [HQ.out]
    exact ⟨_, rfl, hE.trans hE1, fun h => absurd h HC.out, fun _ => rfl⟩
end Go.Proofs.YtjihfabhgcfjnaaGreatDoor
/- The Hermite normal form as package lattice works it out, with its numbers' bounds checked on the way. No program is named here. -/
namespace Go.Proofs.YtjihfabhgcfjnaaGreatDoor
set_option linter.unusedVariables false
set_option linter.unusedSimpArgs false
open Go.RowKit

def smB (n : Int) : Bool := decide ((numB n.natAbs).size ≤ 1000000000)
def sm9B (n : Int) : Bool := decide ((numB n.natAbs).size ≤ 400000000)
theorem smB_iff (n : Int) : smB n = true ↔ (numB n.natAbs).size ≤ 1000000000 := decide_eq_true_iff
theorem sm9B_iff (n : Int) : sm9B n = true ↔ (numB n.natAbs).size ≤ 400000000 := decide_eq_true_iff

/-- A row less a multiple of another one. -/
def lessL (k : Int) : List Int → List Int → List Int
  | r, [] => r
  | [], _ :: _ => []
  | a :: r, b :: s => (a - k * b) :: lessL k r s
theorem lessL_len (k : Int) : ∀ r s : List Int, (lessL k r s).length = r.length
  | [], [] => rfl
  | a :: r, [] => rfl
  | [], _ :: _ => rfl
  | a :: r, b :: s => by simp [lessL, lessL_len k r s]
theorem lessL_get (k : Int) : ∀ (r s : List Int) (j : Nat) (a b : Int), r[j]? = some a → s[j]? = some b → (lessL k r s)[j]? = some (a - k * b)
  | [], _, j, a, b, h, _ => by simp at h
  | _ :: _, [], j, a, b, _, h => by simp at h
  | x :: r, y :: s, 0, a, b, h, h' => by simp at h h'; subst h; subst h'; rfl
  | x :: r, y :: s, j + 1, a, b, h, h' => by
    simp only [List.getElem?_cons_succ] at h h'
    exact lessL_get k r s j a b h h'
def lessO (k : Int) (r s : List Int) : Option (List Int) :=
  if k = 0 then some r
  else if s.length = r.length ∧ (sm9B k && s.all sm9B && r.all smB) = true then some (lessL k r s) else none

def rowE_ (m : List (List Int)) (i : Nat) : List Int := m.getD i []
def getE (m : List (List Int)) (i c : Nat) : Int := (rowE_ m i).getD c 0

/-- The first of k rows from d on whose element in a column is least, and not 0. -/
def bestO (c d : Nat) (m : List (List Int)) : Nat → Option Nat
  | 0 => none
  | k + 1 => match bestO c d m k with
    | none => if getE m (d + k) c = 0 then none else some (d + k)
    | some a => if getE m (d + k) c ≠ 0 ∧ (getE m (d + k) c).natAbs < (getE m a c).natAbs then some (d + k) else some a
def swapL {α : Type} (l : List α) (i j : Nat) : List α := match l[i]?, l[j]? with
  | some a, some b => (l.set i b).set j a
  | _, _ => l
/-- The j rows behind d are reduced by row d. -/
def downO (c d : Nat) (m : List (List Int)) : Nat → Option (List (List Int) × Bool)
  | 0 => some (m, false)
  | j + 1 => match downO c d m j with
    | none => none
    | some (m', rest) =>
      if getE m' d c = 0 then none
      else match lessO (fdq (getE m' (d + 1 + j) c) (getE m' d c)) (rowE_ m' (d + 1 + j)) (rowE_ m' d) with
        | none => none
        | some r => some (m'.set (d + 1 + j) r, rest || decide (fdr (getE m' (d + 1 + j) c) (getE m' d c) ≠ 0))
/-- The first j rows are reduced by row d. -/
def upO (c d : Nat) (m : List (List Int)) : Nat → Option (List (List Int))
  | 0 => some m
  | j + 1 => match upO c d m j with
    | none => none
    | some m' =>
      if getE m' d c = 0 then none
      else match lessO (fdq (getE m' j c) (getE m' d c)) (rowE_ m' j) (rowE_ m' d) with
        | none => none
        | some r => some (m'.set j r)
def okM (n : Nat) (m : List (List Int)) : Bool := m.all fun r => decide (r.length = n) && r.all smB
/-- One column: the rows behind, and whether it has a pivot. -/
def sweepO (n c d : Nat) : Nat → List (List Int) → Option (List (List Int) × Bool)
  | 0, _ => none
  | f + 1, m =>
    if okM n m then
      match bestO c d m (m.length - d) with
      | none => some (m, false)
      | some a => match downO c d (swapL m d a) (m.length - (d + 1)) with
        | none => none
        | some (m2, true) => sweepO n c d f m2
        | some (m2, false) =>
          if okM n m2 then
            match upO c d (if getE m2 d c < 0 then m2.set d ((rowE_ m2 d).map (- ·)) else m2) d with
            | none => none
            | some m4 => some (m4, true)
          else none
    else none
def colsO (n F : Nat) : Nat → Nat → Nat → List (List Int) → Option (List (List Int) × Nat)
  | 0, _, d, m => some (m, d)
  | k + 1, c, d, m =>
    if d < m.length then
      match sweepO n c d F m with
      | none => none
      | some (m', p) => colsO n F k (c + 1) (if p then d + 1 else d) m'
    else some (m, d)
/-- The Hermite normal form, where all numbers on the way are small. -/
def formO (n F cols : Nat) (m : List (List Int)) : Option (List (List Int)) :=
  match colsO n F cols 0 0 m with
  | none => none
  | some (m', d) => some (m'.take d)
def leadL (r : List Int) : Int := match r.findIdx? (· != 0) with | some i => (i : Int) | none => -1
/-- The ends of the rows whose beginnings are zeros. -/
def behindL (k : Nat) (m : List (List Int)) : List (List Int) := (m.filter fun r => decide ((k : Int) ≤ leadL r)).map (·.drop k)
def wideL (cols : Nat) (m : List (List Int)) : List (List Int) := (List.range cols).map fun c => m.map (fun r => r.getD c 0) ++ (List.replicate cols (0 : Int)).set c 1
end Go.Proofs.YtjihfabhgcfjnaaGreatDoor
