/- The walk of DriftTurns. -/
import Derived.Test.YtplcikgmefcfbaaReverse
import Derived.Test.YtplcikgmefcfbaaFollowB
import Derived.Test.YtplcikgmefcfbaaLawC
import Derived.Test.YtplcikgmefcfbaaDriftG
import Derived.Laws.Rows
import Derived.Deep.RegionHeld3
import Derived.Deep.RegionLaw
import Derived.Deep.DeepCutAuto
import Derived.Test.YtplcikgmefcfbaaTwo
namespace Go.Proofs.Ytplcikgmefcfbaa
set_option linter.unusedVariables false
set_option linter.unusedSimpArgs false
open Go.RowKit

theorem WalkAt.chordsOf {w : World} {ap ac al : Option Addr} {np cp nc cc nl cl : Nat} {k : Wk} (h : WalkAt w (.agg #[.slice ap np cp, .slice ac nc cc, .slice al nl cl]) k) : Chords w (.slice ac nc cc) k.chords := by
  obtain ⟨vp, vc, vl, e, h1, h2, h3⟩ := h
  cases e; exact h2
theorem WalkAt.primesOf {w : World} {ap ac al : Option Addr} {np cp nc cc nl cl : Nat} {k : Wk} (h : WalkAt w (.agg #[.slice ap np cp, .slice ac nc cc, .slice al nl cl]) k) : Ints w (.slice ap np cp) k.primes := by
  obtain ⟨vp, vc, vl, e, h1, h2, h3⟩ := h
  cases e; exact h1
theorem WalkAt.linksOf {w : World} {ap ac al : Option Addr} {np cp nc cc nl cl : Nat} {k : Wk} (h : WalkAt w (.agg #[.slice ap np cp, .slice ac nc cc, .slice al nl cl]) k) : Links2 w (.slice al nl cl) k.links := by
  obtain ⟨vp, vc, vl, e, h1, h2, h3⟩ := h
  cases e; exact h3
set_option maxRecDepth 100000 in
set_option maxHeartbeats 8000000 in
theorem turns_walk (cs : Array Value) (hpl : PlanAt cs) (n : Int) (hn : -9223372036854775808 ≤ n ∧ n ≤ 9223372036854775807) (w : World) :
    Calls Try.prog 5 #[.agg cs, .int .i64 n] w fun e w' => e = .returned (.bool true) ∧ Ext w w' := by
  have HPL := Lib.hid hpl
  have HN := Lib.hid hn
  have HK0 := Lib.hid (block_new w cs 53)
  have HE0 := Lib.hid (Ext.alloc w (.cells cs 53))
  clear hpl hn
  go_enter Try.func5, Try.ntmps5
  go_wp2_with fail
  refine (known_any _).mono ?_
  rintro e w1 ⟨rfl, hE1⟩
  have HK1 := Lib.hid (block_ext HK0.out hE1)
  have HE1 := Lib.hid (Ext.trans HE0.out hE1)
  clear hE1 HK0 HE0
  go_wp2_with (refine wpList_load_row rfl 53 _ rfl w.heap.size rfl _ cs (0, 0) _ HK1.out Try.underlying53 rfl (by rw [HPL.out.1]; kernel_rfl) ?_)
  refine (make_any cs HPL.out w1).mono ?_
  rintro e w2 ⟨v, rfl, hE2, k, hv, hk⟩
  have HV := Lib.hid hv
  have HF := Lib.hid hk.fewWk
  have HZ := Lib.hid (few_walk HF.out)
  have HRF := Lib.hid (few_rev HF.out)
  obtain ⟨vp, vc, vl, rfl, p1, p2, p3⟩ := hv
  obtain ⟨ap, cp, rfl, -, -, -, -, -⟩ := p1.open
  obtain ⟨ac, cc, rfl, hlc, hmc, -, -⟩ := inCell.open p2
  obtain ⟨al, cl, rfl, hll, hml, -, -⟩ := inCell.open p3
  obtain ⟨wa, hWa, hEa, hsza, b0, b1, b2⟩ := box_walk w2 (.slice ap k.primes.length cp) (.slice ac k.chords.length cc) (.slice al k.links.length cl) 30
  have HEa := Lib.hid (Ext.trans HE1.out (Ext.trans hE2 hEa))
  have HVa := Lib.hid (HV.out.ext hEa)
  clear p1 p2 p3 hk hE2 HV
  go_wp2_with fail
  clear hWa hEa
  refine (Reverse_any k _ wa HVa.out HZ.out).mono ?_
  rintro e w3 ⟨r, rfl, hE3, hr⟩
  have HR := Lib.hid hr
  obtain ⟨rp, rc, rl, rfl, p1, p2, p3⟩ := hr
  obtain ⟨arp, crp, rfl, -, -, -, -, -⟩ := p1.open
  obtain ⟨arc, crc, rfl, -, -, -, -⟩ := inCell.open p2
  obtain ⟨arl, crl, rfl, -, -, -, -⟩ := inCell.open p3
  clear p1 p2 p3
  obtain ⟨wb, hWb, hEb, hszb, r0, r1, r2⟩ := box_walk w3 (.slice arp (revWk k).primes.length crp) (.slice arc (revWk k).chords.length crc) (.slice arl (revWk k).links.length crl) 30
  have hE3b := Ext.trans hE3 hEb
  have d0 := hE3b.cell b0; have d1 := hE3b.cell b1; have d2 := hE3b.cell b2
  have HEb := Lib.hid (Ext.trans HEa.out hE3b)
  have HVb := Lib.hid (HVa.out.ext hE3b)
  have HRb := Lib.hid (HR.out.ext hEb)
  clear b0 b1 b2 hE3 hE3b hEb HVa HR
  go_wp2_with fail
  clear hWb
  refine (Reverse_any (revWk k) _ wb HRb.out (few_walk HRF.out)).mono ?_
  rintro e w4 ⟨q, rfl, hE4, hq⟩
  rw [rev_rev] at hq
  have HQ := Lib.hid hq
  obtain ⟨qp, qc, ql, rfl, p1, p2, p3⟩ := hq
  obtain ⟨aqp, cqp, rfl, -, -, -, -, -⟩ := p1.open
  obtain ⟨aqc, cqc, rfl, -, -, -, -⟩ := inCell.open p2
  obtain ⟨aql, cql, rfl, -, -, -, -⟩ := inCell.open p3
  clear p1 p2 p3
  obtain ⟨wc, hWc, hEc, hszc, q0, q1, q2⟩ := box_walk w4 (.slice aqp k.primes.length cqp) (.slice aqc k.chords.length cqc) (.slice aql k.links.length cql) 30
  have hE4c := Ext.trans hE4 hEc
  have b0 := hE4c.cell d0; have b1 := hE4c.cell d1; have b2 := hE4c.cell d2
  have s0 := hE4c.cell r0; have s1 := hE4c.cell r1; have s2 := hE4c.cell r2
  have HEc := Lib.hid (Ext.trans HEb.out hE4c)
  have HVc := Lib.hid (HVb.out.ext hE4c)
  have HRc := Lib.hid (HRb.out.ext hE4c)
  have HQc := Lib.hid (HQ.out.ext hEc)
  clear d0 d1 d2 r0 r1 r2 hE4 hE4c hEc HVb HRb HQ
  go_wp2_with fail
  clear hWc
  refine (Repeat_any k _ n wc HVc.out HN.out).mono ?_
  rintro e w5 ⟨x, rfl, hE5, hx1, hx2⟩
  have HX := Lib.hid (And.intro hx1 hx2)
  have d0 := hE5.cell b0; have d1 := hE5.cell b1; have d2 := hE5.cell b2
  have r0 := hE5.cell s0; have r1 := hE5.cell s1; have r2 := hE5.cell s2
  have t0 := hE5.cell q0; have t1 := hE5.cell q1; have t2 := hE5.cell q2
  have HE5 := Lib.hid (Ext.trans HEc.out hE5)
  have HV5 := Lib.hid (HVc.out.ext hE5)
  have HR5 := Lib.hid (HRc.out.ext hE5)
  have HQ5 := Lib.hid (HQc.out.ext hE5)
  clear hx1 hx2 b0 b1 b2 s0 s1 s2 q0 q1 q2 hE5 HVc HRc HQc
  have hcl := HF.out.few
  have hcs := HF.out.some
  have hln := HF.out.len
  have p1 : IntKind.i64.wrap ((k.chords.length : Int) - 1) = (k.chords.length : Int) - 1 := by rw [IntKind.wrap_i64]; omega
  have HBK0 := Lib.hid (block_new w5 #[.slice ap k.primes.length cp, .slice none 0 0, .slice none 0 0] 30)
  obtain ⟨uc, huc, hcc, hucr⟩ := inCell.values (WalkAt.chordsOf HV5.out)
  obtain ⟨ul, hul, hcl2, hulr⟩ := inCell.values (WalkAt.linksOf HV5.out)
  have HUC := Lib.hid (And.intro huc (And.intro hcc hucr))
  have HUL := Lib.hid (And.intro hul (And.intro hcl2 hulr))
  have HD012 := Lib.hid (And.intro d0 (And.intro d1 d2))
  have HR012 := Lib.hid (And.intro r0 (And.intro r1 r2))
  have HT012 := Lib.hid (And.intro t0 (And.intro t1 t2))
  have hb2 := lt_of_cell d0
  have hb3 := lt_of_cell r0
  have hb4 := lt_of_cell t0
  dsimp only at hb2 hb3 hb4
  clear huc hcc hucr hul hcl2 hulr d2 r0 r1 r2 t0 t1 t2
  go_wp2_with fail
  clear p1 d0 d1
  unfold maxLen at hmc hml
  go_loopw [13] (fun t wr => ∃ (r : Nat) (S : Nat → Prop) (vc' vl' : Value), t = .int .i64 ((r : Int) - 1) ∧ r ≤ k.chords.length ∧ Ext w5 wr ∧ Hid (SOk S w5.heap.size wr) ∧ Hid (S w5.heap.size) ∧ Hid (wr.heap[w5.heap.size]? = some (.cells #[.slice ap k.primes.length cp, vc', vl'] 30 (0, 0))) ∧
      Hid (BuildS wr S w5.heap.size 31 1 vc' chordR ((revWk k).chords.take (k.chords.length - r))) ∧ Hid (BuildS wr S w5.heap.size 34 1 vl' linksR ((revWk k).links.take (k.chords.length - r)))) (fun t _ => (intOf t + 1).toNat)
  case atStart =>
    exact ⟨k.chords.length, fun b => b = w5.heap.size, _, _, rfl, Nat.le_refl _, Ext.alloc _ _, fun b hb => ⟨by omega, by have := block_lt HBK0.out; omega⟩, rfl, HBK0.out, by rw [Nat.sub_self]; exact BuildS.nil _ _ _ _ _ _, by rw [Nat.sub_self]; exact BuildS.nil _ _ _ _ _ _⟩
  case round =>
    obtain ⟨r, S, vc', vl', rfl, hrn, hEr, HOK, HS, HBK, HCH, HLK⟩ := hrel
    obtain ⟨wo, rfl⟩ : ∃ wo : World, wo = wr := ⟨_, rfl⟩
    have g0 := block_cell HBK.out 0; have g1 := block_cell HBK.out 1; have g2 := block_cell HBK.out 2
    have f1 := block_free HBK.out 1; have f2 := block_free HBK.out 2
    simp only [List.getElem?_toArray, List.getElem?_cons_zero, List.getElem?_cons_succ] at g0 g1 g2
    match r, hrn with
    | 0, _ =>
      rw [show ((0 : Nat) : Int) - 1 = -1 by omega]
      have hll : (revWk k).links.length = k.links.length := by simp [revWk]
      have hlc2 : (revWk k).chords.length = k.chords.length := by simp [revWk]
      obtain ⟨avc, cvc, rfl, -, -, -, -⟩ := inCell.open HCH.out.list
      obtain ⟨avl, cvl, rfl, -, -, -, -⟩ := inCell.open HLK.out.list
      rw [List.take_of_length_le (show (revWk k).chords.length ≤ k.chords.length - 0 by omega)] at HCH g1 HBK
      rw [List.take_of_length_le (show (revWk k).links.length ≤ k.chords.length - 0 by omega)] at HLK g2 HBK
      have HWANT : Hid (WalkAt wo (.agg #[.slice ap k.primes.length cp, .slice avc (revWk k).chords.length cvc, .slice avl (revWk k).links.length cvl]) (revWk k)) :=
        ⟨_, _, _, rfl, (Ints.ext (WalkAt.primesOf (k := k) HV5.out) hEr : Ints wo _ k.primes), HCH.out.list, HLK.out.list⟩
      have r0 := hEr.cell HR012.out.1; have r1 := hEr.cell HR012.out.2.1; have r2 := hEr.cell HR012.out.2.2
      have t0 := hEr.cell HT012.out.1; have t1 := hEr.cell HT012.out.2.1; have t2 := hEr.cell HT012.out.2.2
      have h0 := hEr.cell HD012.out.1; have h1 := hEr.cell HD012.out.2.1; have h2 := hEr.cell HD012.out.2.2
      have HVo := Lib.hid (HV5.out.ext hEr)
      have HRo := Lib.hid (HR5.out.ext hEr)
      have HQo := Lib.hid (HQ5.out.ext hEr)
      have HEo := Lib.hid (Ext.trans HE5.out hEr)
      have HXo := Lib.hid (And.intro (fun e => Ints.ext (HX.out.1 e) hEr) HX.out.2)
      clear hll hlc2 HOK HS HBK HCH HLK f1 f2 HUC HUL HX
      go_wp2_with fail
      refine (same_any (revWk k) _ _ wo HRo.out HWANT.out).mono ?_
      rintro e w6 ⟨rfl, hE6⟩
      have t0' := hE6.cell t0; have t1' := hE6.cell t1; have t2' := hE6.cell t2
      have h0' := hE6.cell h0; have h1' := hE6.cell h1; have h2' := hE6.cell h2
      have r0' := hE6.cell r0; have r1' := hE6.cell r1; have r2' := hE6.cell r2
      have HV6 := Lib.hid (HVo.out.ext hE6)
      have HR6 := Lib.hid (HRo.out.ext hE6)
      have HQ6 := Lib.hid (HQo.out.ext hE6)
      have HE6 := Lib.hid (Ext.trans HEo.out hE6)
      have HX6 := Lib.hid (And.intro (fun e => Ints.ext (HXo.out.1 e) hE6) HXo.out.2)
      clear t0 t1 t2 h0 h1 h2 r0 r1 r2 g0 g1 g2 hE6 HVo HRo HQo HEo HXo HWANT
      go_wp2_with fail
      refine (same_any k _ _ w6 HQ6.out HV6.out).mono ?_
      rintro e w7 ⟨rfl, hE7⟩
      have h0 := hE7.cell h0'; have h1 := hE7.cell h1'; have h2 := hE7.cell h2'
      have r0 := hE7.cell r0'; have r1 := hE7.cell r1'; have r2 := hE7.cell r2'
      have HV7 := Lib.hid (HV6.out.ext hE7)
      have HR7 := Lib.hid (HR6.out.ext hE7)
      have HE7 := Lib.hid (Ext.trans HE6.out hE7)
      have HX7 := Lib.hid (And.intro (fun e => Ints.ext (HX6.out.1 e) hE7) HX6.out.2)
      clear t0' t1' t2' h0' h1' h2' r0' r1' r2' hE7 HV6 HR6 HQ6 HE6 HX6
      go_wp2_with fail
      refine (Drift_any k _ w7 HV7.out).mono ?_
      rintro e w8 ⟨d, rfl, hE8, hd, -⟩
      have hd := hd (few_driftE HF.out)
      rw [few_driftE HF.out]
      have HD := Lib.hid hd
      obtain ⟨ad, cd, rfl, -, -, -, -, -⟩ := Ints.open hd
      have r0' := hE8.cell r0; have r1' := hE8.cell r1; have r2' := hE8.cell r2
      have HR8 := Lib.hid (HR7.out.ext hE8)
      have HE8 := Lib.hid (Ext.trans HE7.out hE8)
      have HX8 := Lib.hid (And.intro (fun e => Ints.ext (HX7.out.1 e) hE8) HX7.out.2)
      clear h0 h1 h2 r0 r1 r2 hE8 hd HV7 HR7 HE7 HX7
      go_wp2_with fail
      refine (Drift_any (revWk k) _ w8 HR8.out).mono ?_
      rintro e w9 ⟨d2, rfl, hE9, hd, -⟩
      have hd := hd (few_driftE HRF.out)
      rw [few_driftE HRF.out]
      have HD2 := Lib.hid hd
      obtain ⟨ad2, cd2, rfl, -, -, -, -, -⟩ := Ints.open hd
      have HD9 := Lib.hid (HD.out.ext hE9)
      have HE9 := Lib.hid (Ext.trans HE8.out hE9)
      have HX9 := Lib.hid (And.intro (fun e => Ints.ext (HX8.out.1 e) hE9) HX8.out.2)
      have HLD := Lib.hid (few_root HF.out k.links.length (by omega))
      have HLD2 := Lib.hid (few_root HRF.out (revWk k).links.length (by omega))
      clear r0' r1' r2' hE9 hd HR8 HE8 HX8 HD
      have hcl64 : (k.links.length : Int) ≤ 50 := by omega
      have hcl65 : ((revWk k).links.length : Int) ≤ 50 := by have := HRF.out.len; have := HRF.out.few; omega
      have HADD := Lib.hid (add_any (driftOf k) (driftOf (revWk k)) _ _ w9 HD9.out HD2.out (HLD2.out.1.trans HLD.out.1.symm) (by have := HLD.out.1; unfold driftOf; omega) (fun x hx => by have := HLD.out.2 x hx; omega) (fun x hx => by have := HLD2.out.2 x hx; omega))
      clear hcl64 hcl65
      go_wp2_with fail
      refine HADD.out.mono ?_
      rintro e w10 ⟨sm, rfl, hE10, hsm⟩
      have hzl : (List.zipWith (· + ·) (driftOf k) (driftOf (revWk k))).length = (driftOf k).length := by rw [List.length_zipWith]; have := HLD.out.1; have := HLD2.out.1; unfold driftOf; omega
      have hz0 : ∀ x ∈ List.zipWith (· + ·) (driftOf k) (driftOf (revWk k)), x = 0 := by
        have h := rev_drift HF.out
        rw [List.any_eq_false] at h
        intro x hx
        have := h x hx
        simpa using this
      have hsm2 : Ints w10 sm (List.zipWith (· + ·) (driftOf k) (driftOf (revWk k))) := Ints.of_owns (by rw [hzl]; exact hsm) (fun x hx => by have := hz0 x hx; omega)
      have HZE := Lib.hid (zero_any _ _ w10 hsm2)
      have HE10 := Lib.hid (Ext.trans HE9.out hE10)
      have HD10 := Lib.hid (Ints.ext HD9.out hE10)
      have HX10 := Lib.hid (And.intro (fun e => Ints.ext (HX9.out.1 e) hE10) HX9.out.2)
      clear hzl hz0 hsm2 hsm hE10 HADD HD9 HD2 HX9 HE9
      dsimp only
      go_wp2_with fail
      refine HZE.out.mono ?_
      rintro e w11 ⟨rfl, hE11⟩
      rw [rev_drift HF.out]
      have HE11 := Lib.hid (Ext.trans HE10.out hE11)
      have HD11 := Lib.hid (Ints.ext HD10.out hE11)
      have HX11 := Lib.hid (And.intro (fun e => Ints.ext (HX10.out.1 e) hE11) HX10.out.2)
      have HREP := Lib.hid (few_repE HF.out n)
      clear hE11 HZE HE10 HD10 HX10
      by_cases hn0 : n < 0
      · have hrp : repE k n = 3 := by rw [HREP.out, if_pos (.inl hn0)]
        obtain rfl : x = .slice none 0 0 := HX11.out.2 (by rw [hrp]; decide)
        rw [hrp]
        clear hrp
        go_wp2_with fail
        go_ret
        exact ⟨rfl, HE11.out⟩
      · by_cases hn1 : 1000 < n
        · have hrp : repE k n = 3 := by rw [HREP.out, if_pos (.inr hn1)]
          obtain rfl : x = .slice none 0 0 := HX11.out.2 (by rw [hrp]; decide)
          rw [hrp]
          clear hrp
          go_wp2_with fail
          go_ret
          exact ⟨rfl, HE11.out⟩
        · have hdb : ∀ x ∈ driftOf k, -1000000 ≤ n * x ∧ n * x ≤ 1000000 := by
            intro x hx
            have h1 := HLD.out.2 x hx
            have h2 := HF.out.few
            have h3 := HF.out.len
            have h4 : -1000 ≤ x ∧ x ≤ 1000 := by omega
            have a1 : n * x ≤ n * 1000 := Int.mul_le_mul_of_nonneg_left h4.2 (by omega)
            have a2 : n * (-1000) ≤ n * x := Int.mul_le_mul_of_nonneg_left h4.1 (by omega)
            omega
          have HT := Lib.hid (fun W' (he : Ext w11 W') => times_any (driftOf k) n _ W' (Ints.ext HD11.out he) (by have := HLD.out.1; unfold driftOf; omega) (fun x hx => by have := hdb x hx; omega))
          have HDB : Hid (∀ x ∈ timesRow (driftOf k) n, -9223372036854775808 ≤ x ∧ x ≤ 9223372036854775807) := by
            intro x hx
            rw [← times_comm] at hx
            obtain ⟨y, hy, rfl⟩ := List.mem_map.1 hx
            have := hdb y hy
            omega
          have HTL : Hid ((timesRow (driftOf k) n).length = (driftOf k).length) := by unfold Hid timesRow; rw [List.length_map]
          clear hdb
          have hrp : repE k n = if (timesRow (driftOf k) n).any farB then 4 else 0 := by rw [HREP.out, if_neg (by omega)]
          by_cases hf : (timesRow (driftOf k) n).any farB = true
          · rw [if_pos hf] at hrp
            obtain rfl : x = .slice none 0 0 := HX11.out.2 (by rw [hrp]; decide)
            rw [hrp]
            have HFF := Lib.hid hf
            clear hrp hf
            go_wp2_with fail
            refine (HT.out w11 (Ext.refl _)).mono ?_
            rintro e w12 ⟨tr, rfl, hE12, htr⟩
            rw [times_comm] at htr
            have HTR := Lib.hid (long_any _ _ w12 (Ints.of_owns (by rw [HTL.out]; exact htr) HDB.out))
            have HE12 := Lib.hid (Ext.trans HE11.out hE12)
            clear htr hE12
            dsimp only
            go_wp2_with fail
            refine HTR.out.mono ?_
            rintro e w13 ⟨rfl, hE13⟩
            rw [HFF.out]
            have HE13 := Lib.hid (Ext.trans HE12.out hE13)
            clear hE13
            go_wp2_with fail
            go_ret
            exact ⟨rfl, HE13.out⟩
          · have hf' : (timesRow (driftOf k) n).any farB = false := by simpa using hf
            rw [hf', if_neg (by decide)] at hrp
            have hx0 := HX11.out.1 hrp
            have HX0 := Lib.hid hx0
            obtain ⟨ax, cx, rfl, -, -, -, -, -⟩ := Ints.open hx0
            rw [hrp]
            have HFF := Lib.hid hf'
            clear hrp hf hf' hx0
            go_wp2_with fail
            refine (HT.out w11 (Ext.refl _)).mono ?_
            rintro e w12 ⟨tr, rfl, hE12, htr⟩
            rw [times_comm] at htr
            have HTR := Lib.hid (long_any _ _ w12 (Ints.of_owns (by rw [HTL.out]; exact htr) HDB.out))
            have HE12 := Lib.hid (Ext.trans HE11.out hE12)
            have HE12a := Lib.hid hE12
            clear htr hE12
            dsimp only
            go_wp2_with fail
            refine HTR.out.mono ?_
            rintro e w13 ⟨rfl, hE13⟩
            rw [HFF.out]
            have HE13 := Lib.hid (Ext.trans HE12.out hE13)
            have HE13a := Lib.hid (Ext.trans HE12a.out hE13)
            clear hE13
            go_wp2_with fail
            refine (HT.out w13 HE13a.out).mono ?_
            rintro e w14 ⟨tr2, rfl, hE14, htr⟩
            rw [times_comm] at htr
            have HEQ := Lib.hid (equalRow_any (timesRow (driftOf k) n) (timesRow (driftOf k) n) _ _ w14 (Ints.ext HX0.out (Ext.trans HE13a.out hE14)) (Ints.of_owns (by rw [HTL.out]; exact htr) HDB.out))
            have HE14 := Lib.hid (Ext.trans HE13.out hE14)
            clear htr hE14
            dsimp only
            go_wp2_with fail
            refine HEQ.out.mono ?_
            rintro e w15 ⟨rfl, hE15⟩
            rw [show (timesRow (driftOf k) n == timesRow (driftOf k) n) = true from beq_self_eq_true _]
            have HE15 := Lib.hid (Ext.trans HE14.out hE15)
            clear hE15
            go_wp2_with fail
            go_ret
            exact ⟨rfl, HE15.out⟩
    | m + 1, hrn =>
      rw [show ((m + 1 : Nat) : Int) - 1 = (m : Int) by omega]
      obtain ⟨c, hc⟩ : ∃ c, k.chords[m]? = some c := ⟨_, List.getElem?_eq_getElem (by omega)⟩
      obtain ⟨u, hu⟩ : ∃ u, uc[m]? = some u := ⟨_, List.getElem?_eq_getElem (by have := HUC.out.1; omega)⟩
      obtain ⟨b, off, rfl, hb, hcell⟩ := HUC.out.2.1 (by omega)
      have k0 := hEr.cell (hcell m u hu)
      have HU := Lib.hid (HUC.out.2.2 m u c hu hc)
      obtain ⟨au, cu, rfl, -, -, -, -⟩ := inCell.open HU.out
      have h1 := hEr.cell HD012.out.2.1
      have h2 := hEr.cell HD012.out.2.2
      have HRC : Hid (SafeS wo.drew S fun w' => chordR w' [.slice au c.length cu] c) := SafeS.below (w0 := w5) (fun w' he => ⟨_, rfl, Rows2.ext HU.out he⟩) (Below.drew hEr) (fun j hj => (HOK.out j hj).1)
      have HCTK : Hid ((revWk k).chords.take (k.chords.length - (m + 1)) ++ [c] = (revWk k).chords.take (k.chords.length - m)) := by
        unfold Hid
        rw [show k.chords.length - m = k.chords.length - (m + 1) + 1 by omega, List.take_add_one, rev_chord (by omega), show k.chords.length - 1 - (k.chords.length - (m + 1)) = m by omega, hc]
        rfl
      obtain ⟨avc, cvc, rfl, hvc1, hvc2, -, -⟩ := inCell.open HCH.out.list
      have hcl3 : ((revWk k).chords.take (k.chords.length - (m + 1))).length = k.chords.length - (m + 1) := by rw [List.length_take]; simp [revWk]
      have HCL3 := Lib.hid hcl3
      rw [hcl3] at hvc1 HCH HBK g1
      have m1 : (m : Int) < (k.chords.length : Int) := by omega
      have m0 : (0 : Int) ≤ (m : Int) := by omega
      have HI : Hid (((revWk k).chords.take (k.chords.length - (m + 1))).length < 1000000) := by unfold Hid; rw [hcl3]; omega
      have HCHd := Lib.hid (HCH.out.ext (Ext.drew wo))
      have HOKd := Lib.hid (HOK.out.grow (w' := wo.drew) (Nat.le_refl _))
      have hsd : w5.heap.size ≤ wo.drew.heap.size := hEr.size
      have hbw : b < w5.heap.size := hb
      have N1 : Hid (some w2.heap.size ≠ (Value.slice avc (k.chords.length - (m + 1)) cvc).ownBlock) := fun e => by have := (HCH.out.lt _ e.symm).1; omega
      have N2 : Hid (some b ≠ (Value.slice avc (k.chords.length - (m + 1)) cvc).ownBlock) := fun e => by have := (HCH.out.lt _ e.symm).1; omega
      have N3 : Hid (some w5.heap.size ≠ (Value.slice avc (k.chords.length - (m + 1)) cvc).ownBlock) := fun e => HCH.out.neBlock HBK.out (by decide) e.symm
      have HCL4 : Hid (((revWk k).chords.take (k.chords.length - m)).length = k.chords.length - m) := by unfold Hid; rw [List.length_take]; simp [revWk]
      have M1 : Hid (some w2.heap.size ≠ some w5.heap.size) := fun e => by simp at e; omega
      have M2 : Hid (some b ≠ some w5.heap.size) := fun e => by simp at e; omega
      have hx5 : w5.heap.size < wo.heap.size := block_lt HBK.out
      have hx2 : w2.heap.size < wo.heap.size := by omega
      have hxb : b < wo.heap.size := by omega
      clear hc hu hcell hcl3
      go_upto_region 11 with fail
      go_cut [] from 48 to 89 (fun wx => ∃ (S6 : Nat → Prop) (gd capd : Nat), Ext w5 wx ∧ Hid (SOk S6 w5.heap.size wx) ∧ Hid (S6 w5.heap.size) ∧ Hid (wx.heap[w5.heap.size]? = some (.cells #[.slice ap k.primes.length cp, .slice (some ⟨gd, 0, none⟩) (k.chords.length - m) capd, vl'] 30 (0, 0))) ∧
          Hid (BuildS wx S6 w5.heap.size 31 1 (.slice (some ⟨gd, 0, none⟩) (k.chords.length - m) capd) chordR ((revWk k).chords.take (k.chords.length - m))) ∧ Hid (BuildS wx S6 w5.heap.size 34 1 vl' linksR ((revWk k).links.take (k.chords.length - (m + 1)))))
      case first =>
        go_region_law ((refine step_append_buildS wo.drew (by rfl) _ _ 27 (by rfl) S w5.heap.size 31 (.slice none 0 0) 1 24 Try.underlying27 infoRows (by rfl) (by decide) (.slice avc (k.chords.length - (m + 1)) cvc) chordR ((revWk k).chords.take (k.chords.length - (m + 1))) c #[.slice au c.length cu] 31 (by rfl) HCHd.out wo.heap.size (by rfl) (by rfl) (by rfl) (by simp [Value.oneCell']) HRC.out HI.out (by decide) hsd w5.heap.size (Nat.le_refl _) HOKd.out ?_; intro l' w6 S6 hok6 hS61 hS62 hB6 hg6 hb6 hs6 hsafe6; obtain ⟨gd, capd, rfl, hgd1, hgd2, hgd3, hgd4⟩ := hB6.shape (by simp); rw [HCTK.out, HCL4.out] at hB6; rw [HCTK.out, HCL4.out]; have hmid := two_step (i := 1) HCHd.out (HLK.out.ext (Ext.drew wo)) HS.out (block_ext HBK.out (Ext.drew wo)) hok6 hS61 hS62 hB6 hg6 hb6 (show (31 : Nat) ≠ 30 by decide) (show (34 : Nat) ≠ 30 by decide) (show (34 : Nat) ≠ 31 by decide) (Nat.le_refl _); have kb := block_grown (block_ext HBK.out (Ext.drew wo)) hg6 (fun e => N3.out e.symm); have kf := block_free kb 1; have kc := hg6.cell (a := ⟨w5.heap.size, 1, none⟩) g1 N3.out; have HMID := Lib.hid hmid; clear hmid hB6 hg6 hb6 hok6 hS61 hS62 hsafe6 kb))
        all_goals (go_wp2_with fail; go_meet; exact ⟨_, gd, capd, Below.trans (Below.drew hEr) HMID.out.1, HMID.out.2.1, HMID.out.2.2.1, HMID.out.2.2.2.1, HMID.out.2.2.2.2.1, HMID.out.2.2.2.2.2⟩)
      case rest =>
        obtain ⟨S6, gd, capd, hE6, HOK6, HS6, HBK6, HCH6, HLK6⟩ := hcut
        have hcw : SOk S6 w5.heap.size wc := HOK6.out
        by_cases hm0 : m = 0
        · subst hm0
          have HL0 : Hid ((revWk k).links.take (k.chords.length - (0 + 1)) = (revWk k).links.take (k.chords.length - 0)) := by
            have hll : (revWk k).links.length = k.links.length := by simp [revWk]
            unfold Hid
            rw [List.take_of_length_le (by omega), List.take_of_length_le (by omega)]
          clear hcw
          go_wp2_with fail
          go_roundw
          case rel => exact ⟨0, S6, _, vl', by first | rfl | go_num, Nat.zero_le _, hE6, HOK6.out, HS6.out, HBK6.out, HCH6.out, by have := HLK6.out; rw [HL0.out] at this; exact this⟩
          case measure => simp [intOf]
        · have hm1 : 0 < m := by omega
          have hmb : ((m : Int) == 0) = false := by simp; omega
          obtain ⟨lk, hlk⟩ : ∃ l, k.links[m - 1]? = some l := ⟨_, List.getElem?_eq_getElem (by omega)⟩
          obtain ⟨u', hu'⟩ : ∃ u, ul[m - 1]? = some u := ⟨_, List.getElem?_eq_getElem (by have := HUL.out.1; omega)⟩
          obtain ⟨bl, ol, rfl, hbl, hcell⟩ := HUL.out.2.1 (by omega)
          have k1 := hE6.cell (hcell (m - 1) u' hu')
          have hul2 := HUL.out.2.2 (m - 1) u' lk hu' hlk
          obtain ⟨au', cu', rfl, -, -, -, -⟩ := ListAt.open hul2
          obtain ⟨-, hcu1, hcu2, HUB, hcu⟩ := Links.cells (hul2.ext hE6)
          have HCU := Lib.hid hcu
          have HUB := Lib.hid HUB
          have hlkl := (HF.out.links (m - 1) lk hlk).2.1
          have HLT : Hid ((revWk k).links.take (k.chords.length - (m + 1)) ++ [lk.map fun y => (y.2, y.1)] = (revWk k).links.take (k.chords.length - m)) := by
            unfold Hid
            rw [show k.chords.length - m = k.chords.length - (m + 1) + 1 by omega, List.take_add_one, rev_link (by omega), show k.links.length - 1 - (k.chords.length - (m + 1)) = m - 1 by omega, hlk]
            rfl
          obtain ⟨avl, cvl, rfl, hvl1, hvl2, -, -⟩ := inCell.open HLK6.out.list
          have hcl5 : ((revWk k).links.take (k.chords.length - (m + 1))).length = k.chords.length - (m + 1) := by
            have hll : (revWk k).links.length = k.links.length := by simp [revWk]
            rw [List.length_take]; omega
          have hcl6 : ((revWk k).links.take (k.chords.length - m)).length = k.chords.length - m := by
            have hll : (revWk k).links.length = k.links.length := by simp [revWk]
            rw [List.length_take]; omega
          have HCL6 := Lib.hid hcl6
          have HI2 : Hid (((revWk k).links.take (k.chords.length - (m + 1))).length < 1000000) := by unfold Hid; rw [hcl5]; omega
          rw [hcl5] at HLK6 HBK6
          have q0 := block_cell HBK6.out 0; have q1 := block_cell HBK6.out 1; have q2 := block_cell HBK6.out 2
          simp only [List.getElem?_toArray, List.getElem?_cons_zero, List.getElem?_cons_succ] at q0 q1 q2
          have h3 := hE6.cell HD012.out.2.2
          have i1 : IntKind.i64.wrap ((m : Int) - 1) = (m : Int) - 1 := by rw [IntKind.wrap_i64]; omega
          have i2 : (0 : Int) ≤ (m : Int) - 1 := by omega
          have i3 : ((m : Int) - 1).toNat = m - 1 := by omega
          have i4 : (m : Int) - 1 < (k.links.length : Int) := by omega
          unfold maxLen at hcu2
          have hs6 : w5.heap.size ≤ wc.heap.size := hE6.size
          clear hu' hcell hlk hul2 hcu hcl5 hcl6 hcw HOK HS HBK HCH HLK HCHd HOKd HRC
          go_wp2_with fail
          clear i2 i3 i4 k1 h3
          go_loopw [14, 71] (fun out t wr => ∃ j : Nat, j ≤ lk.length ∧ t = .int .i64 j ∧ Ext wc wr ∧ Hid (Build wr wc.heap.size 33 2 out linkR ((lk.map fun y => (y.2, y.1)).take j))) (fun _ t _ => lk.length - (intOf t).toNat)
          case atStart => exact ⟨0, by omega, rfl, Ext.refl _, Build.nil _ _ _ _ _⟩
          case round =>
            obtain ⟨j, hj, rfl, hE, HB⟩ := hrel
            obtain ⟨wi, rfl⟩ : ∃ wi : World, wi = wr := ⟨_, rfl⟩
            by_cases hlt2 : j < lk.length
            · obtain ⟨bx, ox, rfl, hbx, hcell⟩ := HCU.out (by intro e; simp [e] at hlt2)
              obtain ⟨⟨f, t⟩, hx⟩ : ∃ x, lk[j]? = some x := ⟨lk[j], List.getElem?_eq_getElem hlt2⟩
              obtain ⟨hx1, hx2⟩ := hcell j _ hx
              simp only at hx1 hx2
              have HBD := Lib.hid (HUB.out _ (List.mem_of_getElem? hx))
              have k0' := hE.cell hx1; have k1' := hE.cell hx2
              obtain ⟨W3, hW3, hE3, d0, d1⟩ := box_two wi (.int .i64 f) (.int .i64 t) 33
              have HNN : Hid ((lk.map fun y => (y.2, y.1)).take (j + 1) = (lk.map fun y => (y.2, y.1)).take j ++ [(t, f)]) := by unfold Hid; rw [List.take_add_one, List.getElem?_map, hx]; rfl
              have HBx := Lib.hid (Build.ext HB.out hE3)
              have HE3 := Lib.hid hE3
              have hsz3 : wc.heap.size ≤ W3.heap.size := Nat.le_trans hE.size hE3.size
              have HJ : Hid (((lk.map fun y => (y.2, y.1)).take j).length < 1000000) := by unfold Hid; rw [List.length_take]; omega
              have j0 : (0 : Int) ≤ (j : Int) := by omega
              have j1 : (j : Int) < (lk.length : Int) := by omega
              clear hcell hx hx1 hx2 hE3
              go_wp2_with (at_builtin; go_must (refine wpList_append_build W3 rfl _ _ 34 rfl wc.heap.size 33 (.agg #[.int .i64 0, .int .i64 0]) 2 16 Try.underlying34 infoLink rfl (by decide) u14 linkR ((lk.map fun y => (y.2, y.1)).take j) (t, f) #[.int .i64 t, .int .i64 f] 33 rfl HBx.out rfl rfl ?e1 (fun _ _ => ⟨by rfl, HBD.out.2, HBD.out.1⟩) HJ.out (by decide) hsz3 ?_))
              case e1 => simp [Value.oneCell']
              intro v' w6 hB6 hg6 hb6 hs6' _
              rw [← HNN.out] at hB6
              have HB6 := Lib.hid hB6
              have HE6 := Lib.hid (Below.trans (Ext.trans hE HE3.out) hb6)
              clear hB6 hg6 hb6 hW3
              go_wp2_with fail
              go_roundw
              case rel => exact ⟨j + 1, by omega, by go_num, HE6.out, HB6.out⟩
              case measure => simp [intOf]; omega
            · obtain rfl : j = lk.length := by omega
              have HBF := Lib.hid (Build.pure HB.out (fun _ _ _ _ h => h))
              have hb1 := HB.out
              obtain ⟨ar, nr, cr, rfl⟩ := owns_slice hb1
              rw [List.take_of_length_le (by rw [List.length_map]; omega)] at HBF
              clear hb1
              have HLKi := Lib.hid (HLK6.out.ext hE)
              have HCHi := Lib.hid (HCH6.out.ext hE)
              have HOKi := Lib.hid (HOK6.out.grow hE.size)
              have HBKi := Lib.hid (block_ext HBK6.out hE)
              have q2i := hE.cell q2
              have hsi : w5.heap.size ≤ wi.heap.size := Nat.le_trans hs6 hE.size
              have HLR : Hid (SafeS wi S6 fun w' => linksR w' [.slice ar nr cr] (lk.map fun y => (y.2, y.1))) := (HBF.out S6 (fun j hj => .inl (HOK6.out j hj).2)).mono (fun w' h => ⟨_, rfl, h⟩)
              have HE6i := Lib.hid (Ext.trans hE6 hE)
              clear HB HBF
              go_wp2_with (at_builtin; go_must (refine wpList_append_buildS wi rfl _ _ 28 rfl S6 w5.heap.size 34 (.slice none 0 0) 1 24 Try.underlying28 infoLinks rfl (by decide) (.slice avl (k.chords.length - (m + 1)) cvl) linksR ((revWk k).links.take (k.chords.length - (m + 1))) (lk.map fun y => (y.2, y.1)) #[.slice ar nr cr] 34 rfl HLKi.out _ rfl rfl rfl ?b1 HLR.out HI2.out ?b3 hsi w5.heap.size (Nat.le_refl _) HOKi.out ?_))
              case b1 => simp [Value.oneCell']
              case b3 => decide
              intro vl2 w7 S7 hok7 hS71 hS72 hB7 hg7 hb7 hs7 _
              obtain ⟨gm, capm, rfl, -, -, -, -⟩ := hB7.shape (by simp)
              rw [HLT.out, HCL6.out] at hB7
              rw [HLT.out, HCL6.out]
              have HMID := Lib.hid (two_step (i := 2) HLKi.out HCHi.out HS6.out HBKi.out hok7 hS71 hS72 hB7 hg7 hb7 (show (34 : Nat) ≠ 30 by decide) (show (31 : Nat) ≠ 30 by decide) (show (31 : Nat) ≠ 34 by decide) (Nat.le_refl _))
              have kb := block_grown HBKi.out hg7 (HLKi.out.neBlock HBKi.out (by decide))
              have kf := block_free kb 2
              have kc := block_cell kb 2
              simp only [List.getElem?_toArray, List.getElem?_cons_zero, List.getElem?_cons_succ] at kc
              clear hok7 hS71 hS72 hB7 hg7 hb7 kb
              go_wp2_with fail
              go_roundw
              case rel => exact ⟨m, S7, _, _, by go_num, by omega, Below.trans HE6i.out HMID.out.1, HMID.out.2.1, HMID.out.2.2.1, HMID.out.2.2.2.1, HMID.out.2.2.2.2.2, HMID.out.2.2.2.2.1⟩
              case measure => simp [intOf]
end Go.Proofs.Ytplcikgmefcfbaa
