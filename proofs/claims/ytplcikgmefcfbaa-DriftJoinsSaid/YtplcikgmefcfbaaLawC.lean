/- Contract of known: the examples of the chapter hold. -/
import Derived.Test.YtplcikgmefcfbaaLawB
namespace Go.Proofs.Ytplcikgmefcfbaa
set_option linter.unusedVariables false
set_option linter.unusedSimpArgs false
open Go.RowKit

theorem exRoots : rootsE exWk = 0 ∧ rootsOf exWk exWk.links.length = [[0, 0, 0], [-1, 1, 0], [-2, 2, 0]] := by decide +kernel
theorem exDrift : driftE exWk = 0 ∧ driftOf exWk = [-2, 2, 0] := by decide +kernel
theorem exStrains : strainsE exWk = 0 ∧ strainsTo exWk exWk.links.length = [(0, 1, [1, -1, 0])] := by decide +kernel

set_option maxRecDepth 100000 in
set_option maxHeartbeats 4000000 in
theorem known_any (w : World) : Calls Try.prog 7 #[] w fun e w' => e = .returned (.bool true) ∧ Ext w w' := by
  go_enter Try.func7, Try.ntmps7
  go_wp2_with fail
  refine (example_any w).mono ?_
  rintro e w1 ⟨v, rfl, hE1, hv⟩
  have HV := Lib.hid hv
  obtain ⟨vp, vc, vl, rfl, p1, p2, p3⟩ := hv
  obtain ⟨ap, cp, rfl, -, -, -, -, -⟩ := p1.open
  obtain ⟨ac, cc, rfl, -, -, -, -⟩ := inCell.open p2
  obtain ⟨al, cl, rfl, -, -, -, -⟩ := inCell.open p3
  obtain ⟨W, hW, hE, hsz, b0, b1, b2⟩ := box_walk w1 (.slice ap exWk.primes.length cp) (.slice ac exWk.chords.length cc) (.slice al exWk.links.length cl) 30
  clear p1 p2 p3
  go_wp2_with fail
  clear hW
  have HV1 := Lib.hid (HV.out.ext hE)
  clear HV
  refine (Roots_any exWk _ W HV1.out).mono ?_
  rintro e w2 ⟨r, rfl, hE2, hr, -⟩
  have hr := hr exRoots.1
  rw [exRoots.1]
  rw [exRoots.2] at hr
  have HR := Lib.hid hr
  have HV2 := Lib.hid (HV1.out.ext hE2)
  have d0 := hE2.cell b0; have d1 := hE2.cell b1; have d2 := hE2.cell b2
  clear b0 b1 b2 HV1 hr
  go_wp2_with fail
  refine (Drift_any exWk _ w2 HV2.out).mono ?_
  rintro e w3 ⟨d, rfl, hE3, hd, -⟩
  have hd := hd exDrift.1
  rw [exDrift.1]
  rw [exDrift.2] at hd
  have HD := Lib.hid hd
  have HV3 := Lib.hid (HV2.out.ext hE3)
  have b0 := hE3.cell d0; have b1 := hE3.cell d1; have b2 := hE3.cell d2
  clear d0 d1 d2 HV2 hd
  go_wp2_with fail
  refine (Strains_any exWk _ w3 HV3.out).mono ?_
  rintro e w4 ⟨s, rfl, hE4, hs, -⟩
  have hs := hs exStrains.1
  rw [exStrains.1]
  rw [exStrains.2] at hs
  have hr := Rows2.ext HR.out (hE3.trans hE4)
  have hd := Ints.ext HD.out hE4
  have hE04 : Ext w w4 := hE1.trans (hE.trans (hE2.trans (hE3.trans hE4)))
  clear b0 b1 b2 HV3 HR HD hE1 hE hE2 hE3 hE4
  obtain ⟨a, c, rfl, hlc, hmc, -, hcell⟩ := inCell.open hr
  obtain ⟨br, offr, rfl, hbr, hcell⟩ := hcell (by simp)
  obtain ⟨v1, hv1, hc1⟩ := hcell 1 [-1, 1, 0] rfl
  obtain ⟨a1, c1, rfl, -, -, -, -, -⟩ := hv1.open
  obtain ⟨ad, cd, rfl, -, -, -, -, -⟩ := hd.open
  obtain ⟨as1, cs, rfl, hls, hms, -, -⟩ := ListAt.open hs
  obtain ⟨-, -, -, hcs⟩ := Strs.cells hs
  obtain ⟨bs, offs, rfl, hbs, hcs⟩ := hcs (by simp)
  obtain ⟨vs, hvs, s0, s1, s2⟩ := hcs 0 _ rfl
  obtain ⟨a2, c2, rfl, -, -, -, -, -⟩ := hvs.open
  simp only [Nat.zero_mul, Nat.add_zero] at s0 s1 s2
  have H1 := Lib.hid hv1; have H2 := Lib.hid hd; have H3 := Lib.hid hvs
  simp only [List.length_cons, List.length_nil, Nat.zero_add, Nat.reduceAdd] at hlc hls hc1 s2 ⊢
  unfold maxLen at hmc hms
  clear hcell hcs hv1 hd hvs hs hr
  go_wp2_with fail
  refine (equalRow_any [-1, 1, 0] [-1, 1, 0] _ _ _ (H1.out.ext (Ext.alloc _ _)) (Ints.litAt rfl [-1, 1, 0] _ 3 rfl (by simp [maxLen]) (by simp) _ rfl)).mono ?_
  rintro e w5 ⟨rfl, hE5⟩
  rw [show ([-1, 1, 0] : List Int) == [-1, 1, 0] from rfl]
  have hE45 : Ext w4 w5 := (Ext.alloc _ _).trans hE5
  clear hE5
  go_wp2_with fail
  refine (equalRow_any [-2, 2, 0] [-2, 2, 0] _ _ _ (H2.out.ext (hE45.trans (Ext.alloc _ _))) (Ints.litAt rfl [-2, 2, 0] _ 3 rfl (by simp [maxLen]) (by simp) _ rfl)).mono ?_
  rintro e w6 ⟨rfl, hE6⟩
  rw [show ([-2, 2, 0] : List Int) == [-2, 2, 0] from rfl]
  have hE46 : Ext w4 w6 := hE45.trans ((Ext.alloc _ _).trans hE6)
  have t0 := hE46.cell s0; have t1 := hE46.cell s1; have t2 := hE46.cell s2
  clear hE6 hE45 s0 s1 s2 hc1
  go_wp2_with fail
  refine (equalRow_any [1, -1, 0] [1, -1, 0] _ _ _ (H3.out.ext (hE46.trans (Ext.alloc _ _))) (Ints.litAt rfl [1, -1, 0] _ 3 rfl (by simp [maxLen]) (by simp) _ rfl)).mono ?_
  rintro e w7 ⟨rfl, hE7⟩
  rw [show ([1, -1, 0] : List Int) == [1, -1, 0] from rfl]
  have hE47 : Ext w w7 := hE04.trans (hE46.trans ((Ext.alloc _ _).trans hE7))
  clear hE7 hE46 hE04
  go_wp2_with fail
  go_ret
  exact ⟨rfl, hE47⟩
end Go.Proofs.Ytplcikgmefcfbaa
