/- Merged: Chk51, SlRws. -/
import Derived.Test.YtjihfabhgcfjnaaGreatDoorUAJ
import Derived.Test.YtjihfabhgcfjnaaGreatDoorUAA
import Derived.Test.YtjihfabhgcfjnaaGreatDoorProg
/- Contracts of monzo.Check and of law 51's check, at any walk. Printed by gen/chk51.py. -/
namespace Go.Proofs.YtjihfabhgcfjnaaGreatDoor
set_option linter.unusedVariables false
set_option linter.unusedSimpArgs false
open Go.RowKit

theorem monzoCheck_any (p : List Int) (v : Value) (x : List Int) (u : Value) (w : World) (hp : Ints w v p) (hx : Ints w u x) :
    Calls Tryz.prog 76 #[v, u] w fun e w' => e = .returned (.int .i64 (checkAllE p [x])) ∧ Ext w w' := by
  obtain ⟨a, c, rfl, -⟩ := hx.open
  have HL := Lib.hid (ListAt.lit (R := Ints) (fun _ _ _ _ he h => ListAt.ext intR.mono h he) w [.slice a x.length c] [x] 37 rfl (by simp [maxLen]) (by
      intro j u z hu hz
      match j with
      | 0 => simp at hu hz; subst hu; subst hz; exact hx
      | j + 1 => simp at hu))
  have HC := Lib.hid (monzoCheckAll_any p v [x] _ _ (hp.ext (Ext.alloc w (.cells #[.slice a x.length c] 37))) HL.out)
  clear hp hx HL
  go_enter Tryz.func76, Tryz.ntmps76
  go_wp2_with fail
  refine HC.out.mono ?_
  rintro e w' ⟨rfl, rfl⟩
  go_wp2_with fail
  go_ret
  exact ⟨rfl, Ext.alloc _ _⟩
theorem rowsE_one {p : List Int} {x : List Int} (l : List (List Int)) (hp : primesE5 p = 0) : checkAllE p (x :: l) = if checkAllE p [x] = 0 then checkAllE p l else checkAllE p [x] := by
  unfold checkAllE
  rw [if_pos hp, if_pos hp, if_pos hp]
  simp only [rowsE]
  split
  · rename_i h
    split
    · rename_i h2
      first | rfl | (split <;> simp_all)
    · rename_i h2; simp_all
  · rename_i h; simp_all

set_option maxRecDepth 100000 in
set_option maxHeartbeats 8000000 in
theorem check51_any (k : Wk) (v : Value) (w : World) (h : WalkAt w v k) :
    Calls Tryz.prog 34 #[v] w fun e w' => e = .returned (.int .i64 (walkE k)) ∧ Ext w w' := by
  obtain ⟨vp, vc, vl, rfl, h1, h2, h3⟩ := h
  obtain ⟨W, hW, hE, hsz, b0, b1, b2⟩ := box_walk w vp vc vl 55
  have P1 := Lib.hid (h1.ext hE); have P2 := Lib.hid (h2.ext hE); have P3 := Lib.hid (h3.ext hE)
  obtain ⟨ac, cc, rfl, hlc, hmc, -, -⟩ := inCell.open h2
  obtain ⟨al, cl, rfl, hll, hml, -, -⟩ := inCell.open h3
  unfold maxLen at hmc hml
  clear h1 h2 h3
  have HPC := Lib.hid (fun W' (he : Ext W W') => pcheck_any k.primes vp W' (P1.out.ext he))
  by_cases hz : primesE5 k.primes = 0
  · rw [hz] at HPC
    have HZ := Lib.hid hz
    clear hz
    by_cases hk0 : k.chords.length = 0
    · have HQ : Hid (walkE k = 13) := by
        have : countE k.chords.length 64 = 13 := by rw [hk0]; rfl
        unfold Hid walkE; rw [if_pos HZ.out, this, if_neg (by decide)]
      have hk0b : ((k.chords.length : Int) == 0) = true := by simp [hk0]
      clear hk0
      go_enter Tryz.func34, Tryz.ntmps34
      go_wp2_with fail
      clear hW
      refine (HPC.out _ (Ext.refl _)).mono ?_
      rintro e w' ⟨rfl, rfl⟩
      go_wp2_with fail
      go_ret
      rw [HQ.out]
      exact ⟨rfl, hE⟩
    by_cases hk1 : 64 < k.chords.length
    · have HQ : Hid (walkE k = 4) := by
        have : countE k.chords.length 64 = 4 := by unfold countE; rw [if_neg (by omega), if_pos (by omega)]
        unfold Hid walkE; rw [if_pos HZ.out, this, if_neg (by decide)]
      have hk0b : ((k.chords.length : Int) == 0) = false := beq_eq_false_iff_ne.2 (by omega)
      have hk1b : (64 : Int) < (k.chords.length : Int) := by omega
      clear hk0
      go_enter Tryz.func34, Tryz.ntmps34
      go_wp2_with fail
      clear hW
      refine (HPC.out _ (Ext.refl _)).mono ?_
      rintro e w' ⟨rfl, rfl⟩
      go_wp2_with fail
      go_ret
      rw [HQ.out]
      exact ⟨rfl, hE⟩
    have hkk1 : 1 ≤ k.chords.length := by omega
    have hkk2 : k.chords.length ≤ 64 := by omega
    have HK : Hid (countE k.chords.length 64 = 0) := by unfold Hid countE; rw [if_neg (by omega), if_neg (by omega)]
    have hk0b : ((k.chords.length : Int) == 0) = false := beq_eq_false_iff_ne.2 (by omega)
    clear hk0 hk1
    go_enter Tryz.func34, Tryz.ntmps34
    go_wp2_with fail
    clear hW
    refine (HPC.out _ (Ext.refl _)).mono ?_
    rintro e w' ⟨rfl, rfl⟩
    go_wp2_with fail
    clear hk0b
    go_loopw [30] (fun t wr => ∃ (pre rest : List (List (List Int))), t = .int .i64 pre.length ∧ Hid (Ext W wr) ∧ Hid (k.chords = pre ++ rest) ∧ Hid (chordsE k.primes rest = chordsE k.primes k.chords)) (fun t _ => k.chords.length - (intOf t).toNat)
    case atStart => exact ⟨[], k.chords, rfl, Ext.refl _, rfl, rfl⟩
    case round =>
      obtain ⟨pre, rest, rfl, HEc, HP, HO⟩ := hrel
      obtain ⟨wc, rfl⟩ : ∃ wc : World, wc = wr := ⟨_, rfl⟩
      have hlen : k.chords.length = pre.length + rest.length := by rw [HP.out]; simp
      have d0 := HEc.out.cell b0; have d1 := HEc.out.cell b1; have d2 := HEc.out.cell b2
      cases rest with
      | nil =>
        have hge : ¬ (pre.length < k.chords.length) := by simp at hlen; omega
        have HCH : Hid (chordsE k.primes k.chords = 0) := HO.out.symm
        clear hlen
        by_cases hl : (k.links.length : Int) = k.chords.length - 1
        · have hlb : ((k.links.length : Int) != (k.chords.length : Int) - 1) = false := by simp [hl]
          have HS : Hid (walkE k = linksE k.chords 0 k.links) := by
            unfold Hid walkE
            rw [if_pos HZ.out, if_pos HK.out, if_pos HCH.out, if_pos hl]
          have hl1 : k.links.length + 1 ≤ k.chords.length := by omega
          have hl2 : k.chords.length ≤ k.links.length + 1 := by omega
          clear hl HP HO
          go_wp2_with fail
          go_loopw [66] (fun t wr => ∃ (lp lr : List (List (Int × Int))), t = .int .i64 lp.length ∧ Ext W wr ∧ Hid (k.links = lp ++ lr) ∧ Hid (linksE k.chords lp.length lr = linksE k.chords 0 k.links)) (fun t _ => k.links.length - (intOf t).toNat)
          case atStart => exact ⟨[], k.links, rfl, HEc.out, rfl, rfl⟩
          case round =>
            obtain ⟨lp, lr, rfl, hEr, HP, HO⟩ := hrel
            clear d0 d1 d2
            have hlen : k.links.length = lp.length + lr.length := by rw [HP.out]; simp
            cases lr with
            | nil =>
              have hge2 : ¬ (lp.length < k.links.length) := by simp at hlen; omega
              have HQ : Hid (linksE k.chords 0 k.links = 0) := HO.out.symm
              clear hlen
              go_wp2_with fail
              go_ret
              rw [HS.out, HQ.out]
              exact ⟨rfl, hE.trans hEr⟩
            | cons l lr =>
              have hlt : lp.length < k.links.length := by simp at hlen; omega
              clear hlen
              obtain ⟨-, -, -, hcells⟩ := inCell.cells P3.out
              obtain ⟨bl, offl, rfl, hbl, hcell⟩ := hcells (by rw [HP.out]; simp)
              obtain ⟨vl, hvl, hclw⟩ := hcell lp.length l (by rw [HP.out]; simp)
              have hcl := hEr.cell hclw
              obtain ⟨al2, cl2, rfl, hlcl, hmcl, -, -⟩ := ListAt.open hvl
              obtain ⟨-, -, -, -, hlk⟩ := Links.cells hvl
              unfold maxLen at hmcl
              have HLK := Lib.hid hlk
              clear hcells hcell hvl hclw hlk
              have ho := HO.out
              obtain ⟨c, hc⟩ : ∃ c, k.chords[lp.length]? = some c := ⟨k.chords[lp.length]'(by omega), List.getElem?_eq_getElem _⟩
              obtain ⟨d, hd⟩ : ∃ d, k.chords[lp.length + 1]? = some d := ⟨k.chords[lp.length + 1]'(by omega), List.getElem?_eq_getElem _⟩
              have hg1 : k.chords.getD lp.length [] = c := by simp [List.getD, hc]
              have hg2 : k.chords.getD (lp.length + 1) [] = d := by simp [List.getD, hd]
              obtain ⟨-, -, -, hcells⟩ := inCell.cells P2.out
              obtain ⟨bc, offc, hac, hbc, hcell⟩ := hcells (by intro e; simp [e] at hc)
              obtain ⟨vc, hvc, hccw⟩ := hcell lp.length c hc
              obtain ⟨vd, hvd, hcdw⟩ := hcell (lp.length + 1) d hd
              obtain ⟨ac1, cc1, rfl, hlc1, hmc1, -, -⟩ := inCell.open hvc
              obtain ⟨ad1, cd1, rfl, hld1, hmd1, -, -⟩ := inCell.open hvd
              have hcc := hEr.cell hccw
              have hcd := hEr.cell hcdw
              subst hac
              unfold maxLen at hmc1 hmd1
              clear hcells hcell hvc hvd hccw hcdw
              by_cases hn0 : l.length = 0
              · have HQ : Hid (walkE k = 13) := by
                  have : countE l.length 12 = 13 := by rw [hn0]; rfl
                  unfold Hid; rw [HS.out, ← ho, linksE, this, if_neg (by decide)]
                have hn0b : ((l.length : Int) == 0) = true := by simp [hn0]
                clear hn0 ho HO hc hd hg1 hg2
                go_wp2_with fail
                go_ret
                rw [HQ.out]
                exact ⟨rfl, hE.trans hEr⟩
              by_cases hn1 : 12 < l.length
              · have HQ : Hid (walkE k = 4) := by
                  have : countE l.length 12 = 4 := by unfold countE; rw [if_neg (by omega), if_pos (by omega)]
                  unfold Hid; rw [HS.out, ← ho, linksE, this, if_neg (by decide)]
                have hn0b : ((l.length : Int) == 0) = false := beq_eq_false_iff_ne.2 (by omega)
                have hn1b : (12 : Int) < (l.length : Int) := by omega
                clear hn0 ho HO hc hd hg1 hg2
                go_wp2_with fail
                go_ret
                rw [HQ.out]
                exact ⟨rfl, hE.trans hEr⟩
              have hn : countE l.length 12 = 0 := by unfold countE; rw [if_neg (by omega), if_neg (by omega)]
              have hn0b : ((l.length : Int) == 0) = false := beq_eq_false_iff_ne.2 (by omega)
              have hl12 : l.length ≤ 12 := by omega
              have HO' : Hid ((if l.any (badLink c.length d.length) then 3 else linksE k.chords (lp.length + 1) lr) = linksE k.chords 0 k.links) := by
                unfold Hid; rw [← ho, linksE, if_pos hn, hg1, hg2]
              clear hn hn0 hn1 ho HO hc hd hg1 hg2
              go_wp2_with fail
              clear hn0b
              go_loopw [79] (fun t wq => ∃ (ip ir : List (Int × Int)), t = .int .i64 ip.length ∧ Ext wr wq ∧ Hid (l = ip ++ ir) ∧ Hid (l.any (badLink c.length d.length) = ir.any (badLink c.length d.length))) (fun t _ => l.length - (intOf t).toNat)
              case atStart => exact ⟨[], l, rfl, Ext.refl _, rfl, rfl⟩
              case round =>
                rename_i wo
                obtain ⟨ip, ir, rfl, hEq, HIP, HIA⟩ := hrel
                have hlen : l.length = ip.length + ir.length := by rw [HIP.out]; simp
                cases ir with
                | nil =>
                  have hge3 : ¬ (ip.length < l.length) := by simp at hlen; omega
                  clear hlen
                  go_wp2_with fail
                  go_roundw
                  case rel =>
                    refine ⟨lp ++ [l], lr, by simp, hEr.trans hEq, ?_, ?_⟩
                    · unfold Hid; rw [HP.out]; simp
                    · have h := HO'.out
                      rw [HIA.out] at h
                      simpa [Hid] using h
                  case measure => simp [intOf]; omega
                | cons x ir =>
                  have hlt3 : ip.length < l.length := by simp at hlen; omega
                  clear hlen
                  obtain ⟨bx, offx, rfl, hbx, hcellx⟩ := HLK.out (by rw [HIP.out]; simp)
                  obtain ⟨hx1, hx2⟩ := hcellx ip.length x (by rw [HIP.out]; simp)
                  obtain ⟨f, t⟩ := x
                  simp only at hx1 hx2
                  have hEW : Ext W wr := hEr.trans hEq
                  obtain ⟨W3, hW3, hE3, d0, d1⟩ := box_two wr (.int .i64 f) (.int .i64 t) 114
                  have k0 := hEW.cell hx1; have k1 := hEW.cell hx2
                  have m1 := hE3.cell (hEW.cell b1)
                  have m2 := hE3.cell (hEq.cell hcc)
                  have m3 := hE3.cell (hEq.cell hcd)
                  have n1 : (lp.length : Int) < (k.chords.length : Int) := by omega
                  have n2 : (lp.length : Int) + 1 < (k.chords.length : Int) := by omega
                  have n3 : IntKind.i64.wrap ((lp.length : Int) + 1) = (lp.length : Int) + 1 := by rw [IntKind.wrap_i64]; omega
                  have n4 : 0 ≤ (lp.length : Int) + 1 := by omega
                  have n5 : ((lp.length : Int) + 1).toNat = lp.length + 1 := by omega
                  by_cases q1 : f < 0
                  · have r1 : decide (f < 0) = true := decide_eq_true q1
                    have HQ : Hid (walkE k = 3) := by
                      have h := HO'.out
                      rw [HIA.out] at h
                      unfold Hid; rw [HS.out, ← h]; simp [badLink, q1]
                    go_wp2_with fail
                    clear hW3
                    go_quiet (fail)
                    go_wp2
                    go_ret
                    rw [HQ.out]
                    exact ⟨rfl, hE.trans (Ext.draws (hEW.trans hE3) _)⟩
                  · have r1 : decide (f < 0) = false := decide_eq_false q1
                    by_cases q2 : (c.length : Int) ≤ f
                    · have r2 : decide ((c.length : Int) ≤ f) = true := decide_eq_true q2
                      have HQ : Hid (walkE k = 3) := by
                        have h := HO'.out
                        rw [HIA.out] at h
                        unfold Hid; rw [HS.out, ← h]; simp [badLink, q1, q2]
                      go_wp2_with fail
                      clear hW3
                      go_quiet (fail)
                      go_wp2
                      go_ret
                      rw [HQ.out]
                      exact ⟨rfl, hE.trans (Ext.draws (hEW.trans hE3) _)⟩
                    · have r2 : decide ((c.length : Int) ≤ f) = false := decide_eq_false q2
                      by_cases q3 : t < 0
                      · have r3 : decide (t < 0) = true := decide_eq_true q3
                        have HQ : Hid (walkE k = 3) := by
                          have h := HO'.out
                          rw [HIA.out] at h
                          unfold Hid; rw [HS.out, ← h]; simp [badLink, q1, q2, q3]
                        go_wp2_with fail
                        clear hW3
                        go_quiet (fail)
                        go_wp2
                        go_ret
                        rw [HQ.out]
                        exact ⟨rfl, hE.trans (Ext.draws (hEW.trans hE3) _)⟩
                      · have r3 : decide (t < 0) = false := decide_eq_false q3
                        by_cases q4 : (d.length : Int) ≤ t
                        · have r4 : decide ((d.length : Int) ≤ t) = true := decide_eq_true q4
                          have HQ : Hid (walkE k = 3) := by
                            have h := HO'.out
                            rw [HIA.out] at h
                            unfold Hid; rw [HS.out, ← h]; simp [badLink, q1, q2, q3, q4]
                          go_wp2_with fail
                          clear hW3
                          go_quiet (fail)
                          go_wp2
                          go_ret
                          rw [HQ.out]
                          exact ⟨rfl, hE.trans (Ext.draws (hEW.trans hE3) _)⟩
                        · have r4 : decide ((d.length : Int) ≤ t) = false := decide_eq_false q4
                          have HIA' : Hid (l.any (badLink c.length d.length) = ir.any (badLink c.length d.length)) := by
                            unfold Hid; rw [HIA.out]; simp [badLink, q1, q2, q3, q4]
                          go_wp2_with fail
                          clear hW3
                          go_quiet (fail)
                          go_wp2
                          go_roundw
                          case rel => exact ⟨ip ++ [(f, t)], ir, by simp, hEq.trans (Ext.draws hE3 _), by unfold Hid; rw [HIP.out]; simp, HIA'⟩
                          case measure => simp [intOf]; omega
        · have hlb : ((k.links.length : Int) != (k.chords.length : Int) - 1) = true := by simp [hl]
          have HQ : Hid (walkE k = 5) := by
            unfold Hid walkE
            rw [if_pos HZ.out, if_pos HK.out, if_pos HCH.out, if_neg hl]
          clear hl
          go_wp2_with fail
          go_ret
          rw [HQ.out]
          exact ⟨rfl, hE.trans HEc.out⟩
      | cons c rest =>
        have hlt : pre.length < k.chords.length := by simp at hlen; omega
        clear hlen
        obtain ⟨-, -, -, hcells⟩ := inCell.cells P2.out
        obtain ⟨b, off, rfl, hbw, hcell⟩ := hcells (by rw [HP.out]; simp)
        obtain ⟨vx, hvx, hxw⟩ := hcell pre.length c (by rw [HP.out]; simp)
        have hx := HEc.out.cell hxw
        obtain ⟨ax, cx, rfl, hlcx, hcx, -, hcl⟩ := inCell.open hvx
        have HCL := Lib.hid hcl
        unfold maxLen at hcx
        clear hcells hcell hvx hxw hcl
        have ho := HO.out
        have HWK : Hid (chordsE k.primes k.chords ≠ 0 → walkE k = chordsE k.primes k.chords) := fun hne => by
          unfold walkE; rw [if_pos HZ.out, if_pos HK.out, if_neg hne]
        by_cases hn0 : c.length = 0
        · have HQ : Hid (walkE k = 13) := by
            have h3 : countE c.length 12 = 13 := by rw [hn0]; rfl
            have : chordsE k.primes k.chords = 13 := by rw [← ho, chordsE, h3, if_neg (by decide)]
            unfold Hid; rw [HWK.out (by rw [this]; decide), this]
          have hn0b : ((c.length : Int) == 0) = true := by simp [hn0]
          clear hn0 ho HO
          go_wp2_with fail
          go_ret
          rw [HQ.out]
          exact ⟨rfl, hE.trans HEc.out⟩
        by_cases hn1 : 12 < c.length
        · have HQ : Hid (walkE k = 4) := by
            have h3 : countE c.length 12 = 4 := by unfold countE; rw [if_neg (by omega), if_pos (by omega)]
            have : chordsE k.primes k.chords = 4 := by rw [← ho, chordsE, h3, if_neg (by decide)]
            unfold Hid; rw [HWK.out (by rw [this]; decide), this]
          have hn0b : ((c.length : Int) == 0) = false := beq_eq_false_iff_ne.2 (by omega)
          have hn1b : (12 : Int) < (c.length : Int) := by omega
          clear hn0 ho HO
          go_wp2_with fail
          go_ret
          rw [HQ.out]
          exact ⟨rfl, hE.trans HEc.out⟩
        have HN : Hid (countE c.length 12 = 0) := by unfold Hid countE; rw [if_neg (by omega), if_neg (by omega)]
        have hn0b : ((c.length : Int) == 0) = false := beq_eq_false_iff_ne.2 (by omega)
        have hc12 : c.length ≤ 12 := by omega
        have HO2 := Lib.hid ho
        clear hn0 hn1 ho
        go_wp2_with fail
        clear hn0b
        go_loopw [42] (fun t wq => ∃ (ip ir : List (List Int)), t = .int .i64 ip.length ∧ Hid (Ext wc wq) ∧ Hid (c = ip ++ ir) ∧ Hid (checkAllE k.primes ir = checkAllE k.primes c)) (fun t _ => c.length - (intOf t).toNat)
        case atStart => exact ⟨[], c, rfl, Ext.refl _, rfl, rfl⟩
        case round =>
          obtain ⟨ip, ir, rfl, HEq, HIP, HIA⟩ := hrel
          obtain ⟨wi, rfl⟩ : ∃ wi : World, wi = wr := ⟨_, rfl⟩
          have hlen : c.length = ip.length + ir.length := by rw [HIP.out]; simp
          clear d0 d1 d2
          cases ir with
          | nil =>
            have hge3 : ¬ (ip.length < c.length) := by simp at hlen; omega
            clear hlen
            go_wp2_with fail
            go_roundw
            case rel =>
              refine ⟨pre ++ [c], rest, by simp, HEc.out.trans HEq.out, ?_, ?_⟩
              · unfold Hid; rw [HP.out]; simp
              · have h0 : checkAllE k.primes c = 0 := by
                  rw [← HIA.out]; unfold checkAllE; rw [if_pos HZ.out]; rfl
                unfold Hid; rw [← HO2.out, chordsE, if_pos HN.out, if_pos h0]
            case measure => simp [intOf]; omega
          | cons x ir =>
            have hlt3 : ip.length < c.length := by simp at hlen; omega
            clear hlen
            obtain ⟨bx, offx, rfl, hbx, hcellx⟩ := HCL.out (by rw [HIP.out]; simp)
            obtain ⟨vr, hvr, hrw⟩ := hcellx ip.length x (by rw [HIP.out]; simp)
            have k0 := (HEc.out.trans HEq.out).cell hrw
            have k1 := (HEc.out.trans HEq.out).cell b0
            have HMC := Lib.hid (monzoCheck_any k.primes vp x vr wi (P1.out.ext (HEc.out.trans HEq.out)) (hvr.ext (HEc.out.trans HEq.out)))
            obtain ⟨ar, cr, rfl, -⟩ := hvr.open
            have HST := Lib.hid (rowsE_one (x := x) ir HZ.out)
            obtain ⟨E, hEE⟩ : ∃ E, checkAllE k.primes [x] = E := ⟨_, rfl⟩
            rw [hEE] at HMC HST
            clear hcellx hvr hrw hEE
            by_cases he0 : E = 0
            · subst he0
              have HIA2 : Hid (checkAllE k.primes ir = checkAllE k.primes c) := by
                have h := HST.out; rw [if_pos rfl] at h
                unfold Hid; rw [← h]; exact HIA.out
              go_wp2_with fail
              refine HMC.out.mono ?_
              rintro e w6 ⟨rfl, hE6⟩
              have HE6 := Lib.hid (HEq.out.trans hE6)
              clear hE6 HMC k0 k1
              go_wp2_with fail
              go_roundw
              case rel => exact ⟨ip ++ [x], ir, by simp, HE6.out, by unfold Hid; rw [HIP.out]; simp, HIA2⟩
              case measure => simp [intOf]; omega
            · have heb : (E != 0) = true := by simp [he0]
              have HQ : Hid (walkE k = E) := by
                have h := HST.out; rw [if_neg he0] at h
                have hc0 : checkAllE k.primes c = E := by rw [← HIA.out, h]
                have : chordsE k.primes k.chords = E := by rw [← HO2.out, chordsE, if_pos HN.out, hc0, if_neg he0]
                unfold Hid; rw [HWK.out (by rw [this]; exact he0), this]
              clear he0
              go_wp2_with fail
              refine HMC.out.mono ?_
              rintro e w6 ⟨rfl, hE6⟩
              have HE6 := Lib.hid (hE.trans (HEc.out.trans (HEq.out.trans hE6)))
              clear hE6 HMC k0 k1
              go_wp2_with fail
              go_ret
              rw [HQ.out]
              exact ⟨rfl, HE6.out⟩
  · have HQ : Hid (walkE k = primesE5 k.primes) := by unfold Hid walkE; rw [if_neg hz]
    have hcb : (primesE5 k.primes != 0) = true := by simp [hz]
    clear hz
    go_enter Tryz.func34, Tryz.ntmps34
    go_wp2_with fail
    clear hW
    refine (HPC.out _ (Ext.refl _)).mono ?_
    rintro e w' ⟨rfl, rfl⟩
    go_wp2_with fail
    go_ret
    rw [HQ.out]
    exact ⟨rfl, hE⟩

theorem empty51_nil (w : World) : Calls Tryz.prog 41 #[.agg #[.slice none 0 0, .slice none 0 0, .slice none 0 0]] w fun e w' => e = .returned (.bool true) ∧ Ext w w' := by
  obtain ⟨W, hW, hE, hsz, b0, b1, b2⟩ := box_walk w (.slice none 0 0) (.slice none 0 0) (.slice none 0 0) 55
  go_enter Tryz.func41, Tryz.ntmps41
  go_wp2_with fail
  go_ret
  exact ⟨rfl, hE⟩
end Go.Proofs.YtjihfabhgcfjnaaGreatDoor
/- slices.IndexFunc and ContainsFunc at []schisma/api.Row. Printed by gen/slcell.py. -/
namespace Go.Proofs.YtjihfabhgcfjnaaGreatDoor
set_option linter.unusedVariables false
set_option linter.unusedSimpArgs false
open Go.RowKit

def idxRws {α : Type} (p : α → Bool) (xs : List α) : Int := match xs.findIdx? p with | some i => (i : Int) | none => -1
def PredRws {α : Type} (R : World → Value → α → Prop) (g : Nat) (lb : Array Value) (p : α → Bool) (w : World) (xs : List α) : Prop :=
  ∀ W x a, x ∈ xs → Ext w W → R W a x → Calls Tryz.prog g (#[a] ++ lb) W fun e W' => e = .returned (.bool (p x)) ∧ Ext W W'

set_option maxHeartbeats 400000 in
theorem indexFuncRws_any {α : Type} {R : World → Value → α → Prop} (hR : ∀ w w' v x, Ext w w' → R w v x → R w' v x) (xs : List α) (v : Value) (g : Nat) (lb : Array Value) (p : α → Bool) (w : World) (h : ListAt 1 (inCell R) w v xs) (eg : ∀ args w, (callFunc g args).run Tryz.prog w = .ok (.enter g args) w) (hp : PredRws R g lb p w xs) :
    Calls Tryz.prog 122 #[v, .func (.func g) #[] lb] w fun e w' => e = .returned (.int .i64 (idxRws p xs)) ∧ Ext w w' := by
  obtain ⟨a, c, rfl, h1, h2, -, hc⟩ := inCell.open h
  have HC := Lib.hid hc; have HPR := Lib.hid hp; have HR := Lib.hid hR
  clear hc h hp hR
  unfold maxLen at h2
  go_enter Tryz.func122, Tryz.ntmps122
  go_wp2
  go_loopw [8] (fun t wr => ∃ pre rest, t = .int .i64 (pre.length : Nat) ∧ Ext w wr ∧ Hid (xs = pre ++ rest) ∧ Hid (∀ x ∈ pre, p x = false)) (fun t _ => xs.length - (intOf t).toNat)
  case atStart => exact ⟨[], xs, rfl, Ext.refl _, rfl, by intro x hx; simp at hx⟩
  case round =>
    obtain ⟨pre, rest, rfl, hE, HP, HA⟩ := hrel
    obtain ⟨wo, rfl⟩ : ∃ wo : World, wo = wr := ⟨_, rfl⟩
    have hlen : xs.length = pre.length + rest.length := by rw [HP.out]; simp
    cases rest with
    | nil =>
      have : ¬ (pre.length < xs.length) := by simp at hlen; omega
      clear hlen
      go_wp2
      go_ret
      have : idxRws p xs = -1 := by
        have : xs.findIdx? p = none := by rw [HP.out, List.append_nil, List.findIdx?_eq_none_iff]; exact HA.out
        unfold idxRws; rw [this]
      rw [this]
      exact ⟨rfl, hE⟩
    | cons x rest =>
      have hlt : pre.length < xs.length := by simp at hlen; omega
      clear hlen
      obtain ⟨b, off, rfl, hb, hcell⟩ := HC.out (by rw [HP.out]; simp)
      obtain ⟨vx, hvx, hcx⟩ := hcell pre.length x (by rw [HP.out]; simp)
      have g1 := hE.cell hcx
      have hcall := HPR.out wo x vx (by rw [HP.out]; simp) hE (HR.out _ _ _ _ hE hvx)
      clear hcell hvx hcx
      cases hq : p x with
      | true =>
        have HRR : Hid (idxRws p xs = pre.length) := by
          unfold Hid idxRws
          rw [HP.out, List.findIdx?_append, (List.findIdx?_eq_none_iff (xs := pre)).2 HA.out, List.findIdx?_cons, hq]
          simp
        rw [hq] at hcall
        have HCALL := Lib.hid hcall
        clear hcall hq
        go_wp2_with (go_at_fn g; refine HCALL.out.mono ?_; rintro e w' ⟨rfl, hE'⟩)
        go_ret
        rw [HRR.out]
        exact ⟨rfl, hE.trans (by assumption)⟩
      | false =>
        have HA' : Hid (∀ y ∈ pre ++ [x], p y = false) := by
          intro y hy
          rcases List.mem_append.1 hy with hy | hy
          · exact HA.out y hy
          · rw [List.mem_singleton.1 hy]; exact hq
        rw [hq] at hcall
        have HCALL := Lib.hid hcall
        clear hcall hq
        go_wp2_with (go_at_fn g; refine HCALL.out.mono ?_; rintro e w' ⟨rfl, hE'⟩)
        go_roundw
        case rel => exact ⟨pre ++ [x], rest, by simp, hE.trans (by assumption), by unfold Hid; rw [HP.out]; simp, HA'⟩
        case measure => simp [intOf]; omega

theorem containsRws_any {α : Type} {R : World → Value → α → Prop} (hR : ∀ w w' v x, Ext w w' → R w v x → R w' v x) (xs : List α) (v : Value) (g : Nat) (lb : Array Value) (p : α → Bool) (w : World) (h : ListAt 1 (inCell R) w v xs) (eg : ∀ args w, (callFunc g args).run Tryz.prog w = .ok (.enter g args) w) (hp : PredRws R g lb p w xs) :
    Calls Tryz.prog 71 #[v, .func (.func g) #[] lb] w fun e w' => e = .returned (.bool (xs.any p)) ∧ Ext w w' := by
  have hcall := indexFuncRws_any hR xs v g lb p w h eg hp
  cases hf : xs.findIdx? p with
  | none =>
    have HRR : Hid (xs.any p = false) := by
      unfold Hid
      rw [List.findIdx?_eq_none_iff] at hf
      simpa using hf
    unfold idxRws at hcall
    rw [hf] at hcall
    have HCALL := Lib.hid hcall
    clear hcall hf hp h hR
    go_enter Tryz.func71, Tryz.ntmps71
    go_wp2_with (go_at_call 122; refine HCALL.out.mono ?_; rintro e w' ⟨rfl, hE'⟩)
    go_ret
    rw [HRR.out]
    exact ⟨rfl, by assumption⟩
  | some i =>
    have HRR : Hid (xs.any p = true) := by
      unfold Hid
      rw [List.any_eq_true]
      obtain ⟨hi, hpi, _⟩ := List.findIdx?_eq_some_iff_getElem.1 hf
      exact ⟨_, List.getElem_mem hi, hpi⟩
    have hi0 : (0 : Int) ≤ (i : Int) := by omega
    unfold idxRws at hcall
    rw [hf] at hcall
    have HCALL := Lib.hid hcall
    clear hcall hf hp h hR
    go_enter Tryz.func71, Tryz.ntmps71
    go_wp2_with (go_at_call 122; refine HCALL.out.mono ?_; rintro e w' ⟨rfl, hE'⟩)
    go_ret
    rw [HRR.out]
    exact ⟨rfl, by assumption⟩

end Go.Proofs.YtjihfabhgcfjnaaGreatDoor
