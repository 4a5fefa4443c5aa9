/- Contract of the law's strains. -/
import Derived.Test.YtplcikgmefcfbaaFollowA
import Derived.Test.YtplcikgmefcfbaaEqStrains
namespace Go.Proofs.Ytplcikgmefcfbaa
set_option linter.unusedVariables false
set_option linter.unusedSimpArgs false
open Go.RowKit

theorem strain_plain (k : Wk) (i j : Nat) (h1 : (leadRow k i j).length = (rootAt k i).length) (h2 : (leadRow k i 0).length = (rootAt k i).length) :
    sumRows (accRow false (rootAt k i) (leadRow k i j)) (rootAt k (i + 1)) = strainAt k i j := by
  show sumRows (accRow false (rootAt k i) (leadRow k i j)) (accRow false (rootAt k i) (leadRow k i 0)) = _
  apply List.ext_getElem
  · simp [sumRows, accRow, strainAt, h1, h2]
  · intro a h3 h4
    simp [sumRows, accRow, strainAt]
    omega
theorem rootsOf_get (k : Wk) (n i : Nat) (h : i ≤ n) : (rootsOf k n)[i]? = some (rootAt k i) := by
  unfold rootsOf
  rw [List.getElem?_map, List.getElem?_range (by omega)]
  rfl
theorem strain_none (k : Wk) (i : Nat) : linkStrains k i 1 = [] := by
  have : (strainAt k i 0).any (· != 0) = false := by
    rw [Bool.eq_false_iff]
    intro h
    obtain ⟨x, hx, hne⟩ := List.any_eq_true.1 h
    obtain ⟨j, hj, rfl⟩ := List.getElem_of_mem hx
    simp [strainAt, sumRows] at hne
  rw [linkStrains_succ, this]
  simp [linkStrains]

set_option maxRecDepth 100000 in
set_option maxHeartbeats 4000000 in
theorem strains51_any (k : Wk) (v : Value) (w : World) (h : WalkAt w v k) (hk : RightWk k) :
    Calls Try.prog 18 #[v] w fun e w' => ∃ r, e = .returned r ∧ Ext w w' ∧ Strs w' r (strainsTo k k.links.length) := by
  have HWALK := Lib.hid h
  obtain ⟨vp, vc, vl, rfl, h1, h2, h3⟩ := h
  obtain ⟨W, hW, hE, hsz, b0, b1, b2⟩ := box_walk w vp vc vl 30
  obtain ⟨al, cl, rfl, hll, hml, -, -⟩ := inCell.open h3
  unfold maxLen at hml
  have HRK := Lib.hid hk
  have hpl := hk.primes
  have hlen1 : k.links.length ≤ 63 := by have := hk.len; have := hk.most; omega
  have hp0 := hk.prime
  have HROOTS := Lib.hid (roots51_any k _ W (WalkAt.ext HWALK.out hE) hk)
  clear h1 h2 hk
  go_enter Try.func18, Try.ntmps18
  go_wp2_with fail
  clear hW
  refine HROOTS.out.mono ?_
  rintro e w2 ⟨vr, rfl, hE2, hR⟩
  clear HROOTS
  obtain ⟨ar, cr, rfl, hr1, hr2, -, -⟩ := inCell.open hR
  have hrl : (rootsOf k k.links.length).length = k.links.length + 1 := by simp [rootsOf]
  have P3 := Lib.hid (h3.ext (hE.trans hE2))
  have PR := Lib.hid hR
  obtain ⟨q, hq⟩ : ∃ q, q = (rootsOf k k.links.length).length := ⟨_, rfl⟩
  have hq1 : q = k.links.length + 1 := by omega
  rw [← hq] at hr1 PR ⊢
  have HQ := Lib.hid hq
  have HQ1 := Lib.hid hq1
  unfold maxLen at hr2
  have b0 := hE2.cell b0; have b1 := hE2.cell b1; have b2 := hE2.cell b2
  have HEE := Lib.hid (hE.trans hE2)
  clear hR h3 hrl hq hE hE2 hsz hq1
  go_wp2_with fail
  go_loopw [3, 14] (fun out t wr => ∃ i : Nat, i ≤ k.links.length ∧ t = .int .i64 i ∧ Ext w2 wr ∧ Hid (Build wr w2.heap.size 62 3 out strainR (strainsTo k i))) (fun _ t _ => k.links.length - (intOf t).toNat)
  case atStart => exact ⟨0, Nat.zero_le _, rfl, Ext.refl _, Build.nil _ _ _ _ _⟩
  case round =>
    obtain ⟨i, hi, rfl, hEr, HB⟩ := hrel
    obtain ⟨wo, rfl⟩ : ∃ wo : World, wo = wr := ⟨_, rfl⟩
    by_cases hlt : i < k.links.length
    · obtain ⟨l, hll2⟩ : ∃ l, k.links[i]? = some l := ⟨k.links[i], List.getElem?_eq_getElem hlt⟩
      have hl0 : 0 < l.length := by have := HRK.out.some l (List.mem_of_getElem? hll2); cases l with | nil => exact absurd rfl this | cons => simp
      have hl12 := HRK.out.few l (List.mem_of_getElem? hll2)
      have HLG : Hid (k.links.getD i [] = l) := by unfold Hid; simp [List.getD, hll2]
      obtain ⟨-, -, -, hcells⟩ := inCell.cells P3.out
      obtain ⟨bl, offl, rfl, hbl, hcell⟩ := hcells (by intro e; simp [e] at hll2)
      obtain ⟨vl, hvl, hclw⟩ := hcell i l hll2
      have hcl := Ext.cell hEr hclw
      obtain ⟨al2, cl2, rfl, hlcl, hmcl, -, -⟩ := ListAt.open hvl
      obtain ⟨-, -, -, -, hcl2⟩ := Links.cells hvl
      obtain ⟨bl2, ol2, rfl, hbl2, kcl2⟩ := hcl2 (by intro e; simp [e] at hl0)
      unfold maxLen at hmcl
      obtain ⟨-, -, -, hrc⟩ := inCell.cells (HQ.out ▸ PR.out)
      obtain ⟨br, or_, rfl, hbr, hrc⟩ := hrc (by intro e; have := HQ.out; have e1 := HQ1.out; rw [e] at this; simp at this; omega)
      obtain ⟨v0, hv0, hc0⟩ := hrc i (rootAt k i) (rootsOf_get k _ i (by omega))
      obtain ⟨v1, hv1, hc1⟩ := hrc (i + 1) (rootAt k (i + 1)) (rootsOf_get k _ (i + 1) (by omega))
      have HL := Lib.hid hll2
      have KCL := Lib.hid kcl2
      have HV0 := Lib.hid hv0
      have HV1 := Lib.hid hv1
      have hok0 := rootAt_ok k HRK.out i (by have := HRK.out.len; omega)
      have hok1 := rootAt_ok k HRK.out (i + 1) (by have := HRK.out.len; omega)
      have HO0 := Lib.hid hok0
      have HO1 := Lib.hid hok1
      have HLZ := Lib.hid (leadRow_ok k HRK.out i 0 l hll2 hl0)
      clear hcells hcell hvl hclw hll2 hcl2 kcl2 hrc hv0 hv1 hok0 hok1
      go_wp2_with fail
      go_loopw [3, 7] (fun out t wq => ∃ j : Nat, 1 ≤ j ∧ j ≤ l.length ∧ t = .int .i64 j ∧ Ext w2 wq ∧ Hid (Build wq w2.heap.size 62 3 out strainR (strainsTo k i ++ linkStrains k i j))) (fun _ t _ => l.length - (intOf t).toNat)
      case atStart => exact ⟨1, Nat.le_refl _, hl0, rfl, hEr, by have := HB.out; simpa [Hid, strain_none] using this⟩
      case round =>
        obtain ⟨j, hj0, hj, rfl, hEq, HB⟩ := hrel
        obtain ⟨wq, rfl⟩ : ∃ wq : World, wq = wr := ⟨_, rfl⟩
        by_cases hjl : j < l.length
        · obtain ⟨y, hy⟩ : ∃ y, l[j]? = some y := ⟨l[j], List.getElem?_eq_getElem hjl⟩
          obtain ⟨hcf, hct⟩ := KCL.out j y hy
          have hok := leadRow_ok k HRK.out i j l HL.out hjl
          have hl1 : (accRow false (rootAt k i) (leadRow k i j)).length = k.primes.length := by rw [accRow_len _ _ _ (by rw [hok.1, HO0.out.1]), HO0.out.1]
          have hb1 : ∀ a ∈ accRow false (rootAt k i) (leadRow k i j), -1000000000 ≤ a ∧ a ≤ 1000000000 := by
            intro a ha
            obtain ⟨m, hm, rfl⟩ := List.getElem_of_mem ha
            simp only [accRow, List.length_zipWith] at hm
            simp only [accRow, List.getElem_zipWith, Bool.false_eq_true, if_false]
            have e1 := HO0.out.2 ((rootAt k i)[m]'(by omega)) (List.getElem_mem _)
            have e2 := hok.2 ((leadRow k i j)[m]'(by omega)) (List.getElem_mem _)
            omega
          have hsn : (strainAt k i j).length = k.primes.length := by simp [strainAt, sumRows, hok.1, HLZ.out.1]
          have hsb : ∀ x ∈ strainAt k i j, -4000000 ≤ x ∧ x ≤ 4000000 := fun x hx => by have := sumRows_bd2 _ _ 2000000 2000000 hok.2 HLZ.out.2 x hx; omega
          have HST := Lib.hid (strain_plain k i j (by rw [hok.1, HO0.out.1]) (by rw [HLZ.out.1, HO0.out.1]))
          have HLEAD := Lib.hid (fun W' (he : Ext w2 W') => lead51_any k _ v0 W' i j (WalkAt.ext HWALK.out (HEE.out.trans he)) HRK.out l HL.out y hy (Ints.ext HV0.out he))
          have HSUB := Lib.hid (fun r b W' (he : Ext w2 W') (hr : W'.ownsRow b 3 1 r k.primes.length ((accRow false (rootAt k i) (leadRow k i j)).map (Value.int .i64))) =>
            sub_any _ (rootAt k (i + 1)) r v1 W' (Ints.of_owns (by rw [hl1]; exact hr) (fun a ha => by have := hb1 a ha; omega)) (Ints.ext HV1.out he) (by rw [hl1, HO1.out.1]) (by omega) (fun a ha => by have := hb1 a ha; omega) (fun a ha => by have := HO1.out.2 a ha; omega))
          have HSN := Lib.hid hsn; have HSB := Lib.hid hsb
          have HL1 := Lib.hid hl1
          have d0 := hEq.cell b0; have d1 := hEq.cell b1; have d2 := hEq.cell b2
          have d3 := hEq.cell hc0; have d4 := hEq.cell hc1; have d5 := hEq.cell hcf; have d6 := hEq.cell hct
          have p1 : IntKind.i64.wrap ((i : Int) + 1) = (i : Int) + 1 := by rw [IntKind.wrap_i64]; omega
          have p2 : ((i : Int) + 1).toNat = i + 1 := by omega
          have p3 : 0 ≤ (i : Int) + 1 := by omega
          have p4 : (i : Int) + 1 < (q : Int) := by have := HQ1.out; omega
          have p5 : (i : Int) < (q : Int) := by have := HQ1.out; omega
          have p6 : (j : Int) < (l.length : Int) := by omega
          have hown := HB.out.lt
          clear hok hl1 hb1 hsn hsb hcf hct hy
          go_wp2_with fail
          have hEd : Ext w2 wq.drew := hEq.trans (Ext.drew wq)
          have hEdd : Ext wq wq.drew := Ext.drew wq
          have y0 := hEdd.cell d0; have y1 := hEdd.cell d1; have y2 := hEdd.cell d2; have y3 := hEdd.cell d3; have y4 := hEdd.cell d4; have y5 := hEdd.cell d5; have y6 := hEdd.cell d6
          go_region_held3 (fun w' => w'.cell? ⟨w.heap.size, 0, none⟩ = some vp ∧ w'.cell? ⟨w.heap.size, 1, none⟩ = some vc ∧ w'.cell? ⟨w.heap.size, 2, none⟩ = some (.slice (some ⟨bl, offl, none⟩) k.links.length cl) ∧ w'.cell? ⟨br, or_ + i, none⟩ = some v0 ∧ w'.cell? ⟨br, or_ + (i + 1), none⟩ = some v1 ∧ w'.cell? ⟨bl2, ol2 + j * 2, none⟩ = some (.int .i64 y.1) ∧ w'.cell? ⟨bl2, ol2 + j * 2 + 1, none⟩ = some (.int .i64 y.2))
            (first | exact ⟨z0, z1, z2, z3, z4, z5, z6⟩ | exact ⟨hE3.cell y0, hE3.cell y1, hE3.cell y2, hE3.cell y3, hE3.cell y4, hE3.cell y5, hE3.cell y6⟩ | go_keep)
            (first | (go_at_call 37; refine (HLEAD.out _ hEd).mono ?_; rintro e w3 ⟨r3, rfl, hE3, hr3⟩; obtain ⟨g3, cap3, rfl, -, -, -, -⟩ := owns_shape hr3 hp0) | (go_at_call 40; refine (HSUB.out _ _ _ (hEd.trans hE3) hr3).mono ?_; rintro e w4 ⟨r4, rfl, hE4, hr4⟩; have z0 := hE4.cell (hE3.cell y0); have z1 := hE4.cell (hE3.cell y1); have z2 := hE4.cell (hE3.cell y2); have z3 := hE4.cell (hE3.cell y3); have z4 := hE4.cell (hE3.cell y4); have z5 := hE4.cell (hE3.cell y5); have z6 := hE4.cell (hE3.cell y6)))
          rw [HST.out, HL1.out] at hr4
          have hIS := Ints.of_owns (xs := strainAt k i j) (by rw [HSN.out]; exact hr4) (by intro x hx; have := HSB.out x hx; omega)
          have hE14 : Ext wq w4 := hEdd.trans (hE3.trans hE4)
          have HBd := Lib.hid (Build.ext HB.out hE14)
          obtain ⟨g4, cap4, rfl, hg9, hg10, hg11, hg12⟩ := owns_shape hr4 hp0
          have hg13 : wq.heap.size ≤ g4 := Nat.le_trans (hEdd.trans hE3).size hg9
          have HO4 := Lib.hid hr4
          have HZ := Lib.hid (zero_any _ _ _ hIS)
          have HB0L := Lib.hid hown
          clear hown hr4 hr3 hIS HB z0 z1 z2 z3 z4 z5 z6 y0 y1 y2 y3 y4 y5 y6 d0 d1 d2 d3 d4 d5 d6 hE3 hE4 hEd
          go_wp2_with fail
          refine HZ.out.mono ?_
          rintro e w5 ⟨rfl, hE5⟩
          have hE15 : Ext wq w5 := hE14.trans hE5
          have HBe := Lib.hid (Build.ext HBd.out hE5)
          have hW5 : Ext w2 w5 := hEq.trans hE15
          have hszW : w2.heap.size ≤ w5.heap.size := hW5.size
          have HO5 := Lib.hid (owns_ext HO4.out hE5)
          clear HBd HZ hE14 HO4
          cases hbz : (strainAt k i j).any (· != 0) with
          | false =>
            have HNX : Hid (linkStrains k i (j + 1) = linkStrains k i j) := by unfold Hid; rw [linkStrains_succ, hbz]; simp
            clear hbz
            go_wp2_with fail
            go_roundw
            case rel => exact ⟨j + 1, by omega, by omega, by go_num, hW5, by rw [HNX.out]; exact HBe.out⟩
            case measure => simp [intOf]; omega
          | true =>
            have HNX : Hid (strainsTo k i ++ linkStrains k i (j + 1) = strainsTo k i ++ (linkStrains k i j ++ [(i, j, strainAt k i j)])) := by unfold Hid; rw [linkStrains_succ, hbz]; simp
            have HNL : Hid ((strainsTo k i ++ linkStrains k i j).length < 1000000) := by
              have h1 := strainsTo_len k HRK.out i
              have h2 := linkStrains_len k i j
              unfold Hid; rw [List.length_append]; omega
            have hne : Value.ownBlock u3 ≠ some g4 := by
              intro e
              have := (HB0L.out _ e).2
              omega
            have HR := Lib.hid (Safe.mono (Safe.owns (o := Value.ownBlock u3) HO5.out (.inr (fun e => hne e.symm))) (P' := fun w => strainR w [.int .i64 i, .int .i64 j, .slice (some ⟨g4, 0, none⟩) k.primes.length cap4] (i, j, strainAt k i j)) (fun w h => ⟨_, rfl, Ints.of_owns (by rw [HSN.out]; exact h) (by intro x hx; have := HSB.out x hx; omega)⟩))
            clear hbz hne
            go_wp2_with (at_builtin; go_must (refine wpList_append_build _ rfl _ _ 55 rfl w2.heap.size 62 (.agg #[.int .i64 0, .int .i64 0, .slice none 0 0]) 3 40 Try.underlying55 infoStrain rfl (by decide) u3 strainR _ (i, j, strainAt k i j) #[.int .i64 i, .int .i64 j, .slice (some ⟨g4, 0, none⟩) k.primes.length cap4] 62 rfl HBe.out rfl rfl ?e1 HR.out HNL.out ?e3 hszW ?_))
            case e1 => simp [Value.oneCell']
            case e3 => omega
            intro v' w6 hB6 hg6 hb6 hs6 hsafe
            rw [← HNX.out] at hB6
            have HB6 := Lib.hid hB6
            have HE6 := Lib.hid (Below.trans hW5 hb6)
            clear hB6 hg6 hb6 hsafe
            go_wp2_with fail
            go_roundw
            case rel => exact ⟨j + 1, by omega, by omega, by go_num, HE6.out, HB6.out⟩
            case measure => simp [intOf]; omega
        · obtain rfl : j = l.length := by omega
          go_wp2_with fail
          go_roundw
          case rel => exact ⟨i + 1, by omega, by go_num, hEq, by rw [strainsTo_succ, HLG.out]; exact HB.out⟩
          case measure => simp [intOf]; omega
    · obtain rfl : i = k.links.length := by omega
      go_wp2
      go_ret
      exact ⟨_, rfl, HEE.out.trans hEr, HB.out.list⟩
end Go.Proofs.Ytplcikgmefcfbaa
