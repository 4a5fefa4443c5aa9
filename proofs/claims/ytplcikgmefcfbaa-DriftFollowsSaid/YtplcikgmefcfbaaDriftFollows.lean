/- The walk of DriftFollows. -/
import Derived.Test.YtplcikgmefcfbaaFollowB
import Derived.Test.YtplcikgmefcfbaaPlanPlain
import Derived.Laws.Rows
namespace Go.Proofs.Ytplcikgmefcfbaa
set_option linter.unusedVariables false
set_option linter.unusedSimpArgs false
open Go.RowKit

set_option maxRecDepth 100000 in
set_option maxHeartbeats 4000000 in
theorem follows_walk (cs : Array Value) (hpl : PlanAt cs) (w : World) :
    Calls Try.prog 4 #[.agg cs] w fun e w' => e = .returned (.bool true) ∧ Ext w w' := by
  have HPL := Lib.hid hpl
  have HK0 := Lib.hid (block_new w cs 53)
  have HE0 := Lib.hid (Ext.alloc w (.cells cs 53))
  clear hpl
  go_enter Try.func4, Try.ntmps4
  go_wp2_with fail
  refine (known_any _).mono ?_
  rintro e w1 ⟨rfl, hE1⟩
  have HK1 := Lib.hid (block_ext HK0.out hE1)
  have HE1 := Lib.hid (Ext.trans HE0.out hE1)
  clear hE1 HK0 HE0
  go_wp2_with (refine wpList_load_row rfl 53 _ rfl w.heap.size rfl _ cs (0, 0) _ HK1.out Try.underlying53 rfl (by rw [HPL.out.1]; kernel_rfl) ?_)
  refine (make_any cs HPL.out w1).mono ?_
  rintro e w2 ⟨v, rfl, hE2, k, hv, hk⟩
  have HV := Lib.hid hv
  have HK := Lib.hid hk
  obtain ⟨vp, vc, vl, rfl, p1, p2, p3⟩ := hv
  obtain ⟨ap, cp, rfl, -, -, -, -, -⟩ := p1.open
  obtain ⟨ac, cc, rfl, -, -, -, -⟩ := inCell.open p2
  obtain ⟨al, cl, rfl, -, -, -, -⟩ := inCell.open p3
  obtain ⟨W, hW, hE, hsz, b0, b1, b2⟩ := box_walk w2 (.slice ap k.primes.length cp) (.slice ac k.chords.length cc) (.slice al k.links.length cl) 30
  have HEW := Lib.hid (HE1.out.trans (hE2.trans hE))
  clear p1 p2 p3 hk
  go_wp2_with fail
  clear hW
  have HV1 := Lib.hid (HV.out.ext hE)
  have HF := Lib.hid HK.out.fewWk
  have HRK := Lib.hid (walkE_right (few_walk HF.out))
  refine (Roots_any k _ W HV1.out).mono ?_
  rintro e w3 ⟨r, rfl, hE3, hr, -⟩
  have hr := hr (few_rootsE HF.out)
  rw [few_rootsE HF.out]
  have HR := Lib.hid hr
  have HV2 := Lib.hid (HV1.out.ext hE3)
  have d0 := hE3.cell b0; have d1 := hE3.cell b1; have d2 := hE3.cell b2
  clear b0 b1 b2 HV1 hr
  go_wp2_with fail
  refine (Drift_any k _ w3 HV2.out).mono ?_
  rintro e w4 ⟨d, rfl, hE4, hd, -⟩
  have hd := hd (few_driftE HF.out)
  rw [few_driftE HF.out]
  have HD := Lib.hid hd
  have HV3 := Lib.hid (HV2.out.ext hE4)
  have b0 := hE4.cell d0; have b1 := hE4.cell d1; have b2 := hE4.cell d2
  clear d0 d1 d2 HV2 hd
  go_wp2_with fail
  refine (Strains_any k _ w4 HV3.out).mono ?_
  rintro e w5 ⟨s, rfl, hE5, hs, -⟩
  have hs := hs (few_strainsE HF.out)
  rw [few_strainsE HF.out]
  have HS := Lib.hid hs
  have HV4 := Lib.hid (HV3.out.ext hE5)
  have d0 := hE5.cell b0; have d1 := hE5.cell b1; have d2 := hE5.cell b2
  clear b0 b1 b2 HV3 hs
  go_wp2_with fail
  refine (roots51_any k _ w5 HV4.out HRK.out).mono ?_
  rintro e w6 ⟨own, rfl, hE6, ho⟩
  have HO := Lib.hid ho
  have HV5 := Lib.hid (HV4.out.ext hE6)
  have b0 := hE6.cell d0; have b1 := hE6.cell d1; have b2 := hE6.cell d2
  have HR6 := Lib.hid (Rows2.ext HR.out (hE4.trans (hE5.trans hE6)))
  have HD6 := Lib.hid (Ints.ext HD.out (hE5.trans hE6))
  have HS6 := Lib.hid (ListAt.ext strainR.mono HS.out hE6)
  have HE6 := Lib.hid (HEW.out.trans (hE3.trans (hE4.trans (hE5.trans hE6))))
  obtain ⟨ao, co, rfl, hlo, hmo, -, hoc⟩ := inCell.open ho
  have hlr : (rootsOf k k.links.length).length = k.links.length + 1 := by simp [rootsOf]
  obtain ⟨bo, oo, rfl, hbo, hoc⟩ := hoc (by intro e; rw [e] at hlr; simp at hlr)
  obtain ⟨vd, hvd, hcd⟩ := hoc k.links.length (rootAt k k.links.length) (rootsOf_get k _ _ (Nat.le_refl _))
  have HVD := Lib.hid hvd
  obtain ⟨q, hq⟩ : ∃ q, q = (rootsOf k k.links.length).length := ⟨_, rfl⟩
  rw [← hq]
  rw [← hq] at hlo HO
  have hq1 : q = k.links.length + 1 := by omega
  have hll := HK.out.len
  have hlm := HK.out.few
  have p1 : IntKind.i64.wrap ((q : Int) - 1) = (q : Int) - 1 := by rw [IntKind.wrap_i64]; omega
  have p2 : ((q : Int) - 1).toNat = k.links.length := by omega
  have p3 : 0 ≤ (q : Int) - 1 := by omega
  have p4 : (q : Int) - 1 < (q : Int) := by omega
  unfold maxLen at hmo
  have HQ := Lib.hid hq
  clear hoc ho hvd HR HD HS HV4 hE3 hE4 hE5 hE6 d0 d1 d2 hq hlr hq1 hll hlm
  go_wp2_with fail
  refine (rowsEqual_any _ _ _ _ w6 HR6.out HO.out).mono ?_
  rintro e w7 ⟨rfl, hE7⟩
  rw [beq_self_eq_true]
  have HV6 := Lib.hid (HV5.out.ext hE7)
  have d0 := hE7.cell b0; have d1 := hE7.cell b1; have d2 := hE7.cell b2
  have hcd7 := hE7.cell hcd
  have HD7 := Lib.hid (Ints.ext HD6.out hE7)
  have HVD7 := Lib.hid (Ints.ext HVD.out hE7)
  have HS7 := Lib.hid (ListAt.ext strainR.mono HS6.out hE7)
  have HE7 := Lib.hid (HE6.out.trans hE7)
  clear hE7 HV5 b0 b1 b2 hcd HD6 HVD HS6 HR6 HO HE6
  go_wp2_with fail
  refine (equalRow_any (driftOf k) (rootAt k k.links.length) _ _ w7 HD7.out HVD7.out).mono ?_
  rintro e w8 ⟨rfl, hE8⟩
  rw [show (driftOf k == rootAt k k.links.length) = true from beq_self_eq_true _]
  have HV7 := Lib.hid (HV6.out.ext hE8)
  have b0 := hE8.cell d0; have b1 := hE8.cell d1; have b2 := hE8.cell d2
  have HS8 := Lib.hid (ListAt.ext strainR.mono HS7.out hE8)
  have HE8 := Lib.hid (HE7.out.trans hE8)
  clear hE8 HV6 d0 d1 d2 HS7 HE7 HD7 HVD7 hcd7
  go_wp2_with fail
  refine (strains51_any k _ w8 HV7.out HRK.out).mono ?_
  rintro e w9 ⟨s2, rfl, hE9, hs9⟩
  have HEQ := Lib.hid (equalFuncStrains_any _ _ s s2 19 #[] (· == ·) w9 (ListAt.ext strainR.mono HS8.out hE9) hs9 (enters_of Try.func19 (by kernel_rfl) rfl) (fun W x y a b _ _ _ ha hb => follows1_any x y a b W ha hb))
  have HE9 := Lib.hid (HE8.out.trans hE9)
  clear hs9 hE9 HE8 HS8
  go_wp2_with fail
  refine HEQ.out.mono ?_
  rintro e w10 ⟨rfl, hE10⟩
  rw [eqBy_beq, beq_self_eq_true]
  go_wp2_with fail
  go_ret
  exact ⟨rfl, HE9.out.trans hE10⟩
end Go.Proofs.Ytplcikgmefcfbaa
