/- Merged: DriftC. -/
import Derived.Test.YtjihfabhgcfjnaaGreatDoorUAG
/- Contract of drift.Check. -/
namespace Go.Proofs.YtjihfabhgcfjnaaGreatDoor
set_option linter.unusedVariables false
set_option linter.unusedSimpArgs false
open Go.RowKit

def countE (n most : Int) : Int := if n = 0 then 13 else if most < n then 4 else 0

theorem count_any (n most : Int) (w : World) :
    Calls Tryz.prog 77 #[.int .i64 n, .int .i64 most] w fun e w' => e = .returned (.int .i64 (countE n most)) ∧ w = w' := by
  by_cases h0 : n = 0
  · subst h0
    go_enter Tryz.func77, Tryz.ntmps77
    go_wp2
    go_ret
    exact ⟨rfl, rfl⟩
  · by_cases h1 : most < n
    · go_enter Tryz.func77, Tryz.ntmps77
      go_wp2
      go_ret
      exact ⟨by simp [countE, h0, h1], rfl⟩
    · go_enter Tryz.func77, Tryz.ntmps77
      go_wp2
      go_ret
      exact ⟨by simp [countE, h0, h1], rfl⟩

def chordsE (p : List Int) : List (List (List Int)) → Int
  | [] => 0
  | c :: l => if countE c.length 12 = 0 then (if checkAllE p c = 0 then chordsE p l else checkAllE p c) else countE c.length 12
def badLink (c d : Nat) (x : Int × Int) : Bool := decide (x.1 < 0) || decide ((c : Int) ≤ x.1) || decide (x.2 < 0) || decide ((d : Int) ≤ x.2)
def linksE (cs : List (List (List Int))) : Nat → List (List (Int × Int)) → Int
  | _, [] => 0
  | i, l :: ls => if countE l.length 12 = 0 then (if l.any (badLink (cs.getD i []).length (cs.getD (i + 1) []).length) then 3 else linksE cs (i + 1) ls) else countE l.length 12
def walkE (k : Wk) : Int :=
  if primesE5 k.primes = 0 then (if countE k.chords.length 64 = 0 then (if chordsE k.primes k.chords = 0 then
    (if (k.links.length : Int) = k.chords.length - 1 then linksE k.chords 0 k.links else 5) else chordsE k.primes k.chords) else countE k.chords.length 64) else primesE5 k.primes

theorem box_walk (w : World) (vp vc vl : Value) (T : TypeId) : ∃ W, (w.alloc (.cells #[vp, vc, vl] T)) = W ∧ Ext w W ∧ w.heap.size < W.heap.size ∧ W.cell? ⟨w.heap.size, 0, none⟩ = some vp ∧ W.cell? ⟨w.heap.size, 1, none⟩ = some vc ∧ W.cell? ⟨w.heap.size, 2, none⟩ = some vl :=
  ⟨_, rfl, Ext.alloc _ _, by simp, by simp, by simp, by simp⟩

theorem box_two (w : World) (x y : Value) (T : TypeId) : ∃ W, (w.alloc (.cells #[x, y] T)) = W ∧ Ext w W ∧ W.cell? ⟨w.heap.size, 0, none⟩ = some x ∧ W.cell? ⟨w.heap.size, 1, none⟩ = some y :=
  ⟨_, rfl, Ext.alloc _ _, by simp, by simp⟩

set_option maxRecDepth 100000 in
set_option maxHeartbeats 4000000 in
theorem check_any (k : Wk) (v : Value) (w : World) (h : WalkAt w v k) :
    Calls Tryz.prog 35 #[v] w fun e w' => e = .returned (.int .i64 (walkE k)) ∧ Ext w w' := by
  obtain ⟨vp, vc, vl, rfl, h1, h2, h3⟩ := h
  obtain ⟨W, hW, hE, hsz, b0, b1, b2⟩ := box_walk w vp vc vl 55
  have P1 := Lib.hid (h1.ext hE); have P2 := Lib.hid (h2.ext hE); have P3 := Lib.hid (h3.ext hE)
  obtain ⟨ac, cc, rfl, hlc, hmc, -, -⟩ := inCell.open h2
  obtain ⟨al, cl, rfl, hll, hml, -, -⟩ := inCell.open h3
  unfold maxLen at hmc hml
  clear h1 h2 h3
  have hcall := fun W' (he : Ext W W') => pcheck_any k.primes vp W' (P1.out.ext he)
  have HPC := Lib.hid hcall
  clear hcall
  by_cases hz : primesE5 k.primes = 0
  · rw [hz] at HPC
    have HZ := Lib.hid hz
    clear hz
    by_cases hk : countE k.chords.length 64 = 0
    · have hcc := fun W' => count_any k.chords.length 64 W'
      rw [hk] at hcc
      have HCC := Lib.hid hcc
      have HK := Lib.hid hk
      have hkk : 1 ≤ k.chords.length ∧ k.chords.length ≤ 64 := by unfold countE at hk; split at hk <;> (try omega)
      obtain ⟨hkk1, hkk2⟩ := hkk
      clear hcc hk
      go_enter Tryz.func35, Tryz.ntmps35
      go_wp2_with fail
      clear hW
      refine (HPC.out _ (Ext.refl _)).mono ?_
      rintro e w' ⟨rfl, rfl⟩
      go_wp2_with fail
      refine (HCC.out _).mono ?_
      rintro e w' ⟨rfl, rfl⟩
      go_wp2_with fail
      go_loop [30] (fun t => ∃ (pre rest : List (List (List Int))), t = .int .i64 pre.length ∧ Hid (k.chords = pre ++ rest) ∧ Hid (chordsE k.primes rest = chordsE k.primes k.chords)) (fun t => k.chords.length - (intOf t).toNat)
      case atStart => exact ⟨[], k.chords, rfl, rfl, rfl⟩
      case round =>
        obtain ⟨pre, rest, rfl, HP, HO⟩ := hrel
        have hlen : k.chords.length = pre.length + rest.length := by rw [HP.out]; simp
        cases rest with
        | nil =>
          have hge : ¬ (pre.length < k.chords.length) := by simp at hlen; omega
          have HCH : Hid (chordsE k.primes k.chords = 0) := HO.out.symm
          clear hlen
          by_cases hl : (k.links.length : Int) = k.chords.length - 1
          · have hlb : ((k.links.length : Int) != (k.chords.length : Int) - 1) = false := by simp [hl]
            have HS : Hid (walkE k = linksE k.chords 0 k.links) := by
              unfold Hid walkE
              rw [if_pos HZ.out, if_pos HK.out, if_pos HCH.out, if_pos hl]
            have hl1 : k.links.length + 1 ≤ k.chords.length := by omega
            have hl2 : k.chords.length ≤ k.links.length + 1 := by omega
            clear hl HP HO
            go_wp2_with fail
            go_loopw [59] (fun t wr => ∃ (lp lr : List (List (Int × Int))), t = .int .i64 lp.length ∧ Ext W wr ∧ Hid (k.links = lp ++ lr) ∧ Hid (linksE k.chords lp.length lr = linksE k.chords 0 k.links)) (fun t _ => k.links.length - (intOf t).toNat)
            case atStart => exact ⟨[], k.links, rfl, Ext.refl _, rfl, rfl⟩
            case round =>
              obtain ⟨lp, lr, rfl, hEr, HP, HO⟩ := hrel
              have hlen : k.links.length = lp.length + lr.length := by rw [HP.out]; simp
              cases lr with
              | nil =>
                have hge2 : ¬ (lp.length < k.links.length) := by simp at hlen; omega
                have HQ : Hid (linksE k.chords 0 k.links = 0) := HO.out.symm
                clear hlen
                go_wp2_with fail
                go_ret
                rw [HS.out, HQ.out]
                exact ⟨rfl, hE.trans hEr⟩
              | cons l lr =>
                have hlt : lp.length < k.links.length := by simp at hlen; omega
                clear hlen
                obtain ⟨-, -, -, hcells⟩ := inCell.cells P3.out
                obtain ⟨bl, offl, rfl, hbl, hcell⟩ := hcells (by rw [HP.out]; simp)
                obtain ⟨vl, hvl, hclw⟩ := hcell lp.length l (by rw [HP.out]; simp)
                have hcl := hEr.cell hclw
                have hcall1 := fun W' => count_any l.length 12 W'
                obtain ⟨al2, cl2, rfl, hlcl, hmcl, -, -⟩ := ListAt.open hvl
                obtain ⟨-, -, -, -, hlk⟩ := Links.cells hvl
                unfold maxLen at hmcl
                have HLK := Lib.hid hlk
                clear hcells hcell hvl hclw hlk
                have ho := HO.out
                obtain ⟨c, hc⟩ : ∃ c, k.chords[lp.length]? = some c := ⟨k.chords[lp.length]'(by omega), List.getElem?_eq_getElem _⟩
                obtain ⟨d, hd⟩ : ∃ d, k.chords[lp.length + 1]? = some d := ⟨k.chords[lp.length + 1]'(by omega), List.getElem?_eq_getElem _⟩
                have hg1 : k.chords.getD lp.length [] = c := by simp [List.getD, hc]
                have hg2 : k.chords.getD (lp.length + 1) [] = d := by simp [List.getD, hd]
                obtain ⟨-, -, -, hcells⟩ := inCell.cells P2.out
                obtain ⟨bc, offc, hac, hbc, hcell⟩ := hcells (by intro e; simp [e] at hc)
                obtain ⟨vc, hvc, hccw⟩ := hcell lp.length c hc
                obtain ⟨vd, hvd, hcdw⟩ := hcell (lp.length + 1) d hd
                obtain ⟨ac1, cc1, rfl, hlc1, hmc1, -, -⟩ := inCell.open hvc
                obtain ⟨ad1, cd1, rfl, hld1, hmd1, -, -⟩ := inCell.open hvd
                have hcc := hEr.cell hccw
                have hcd := hEr.cell hcdw
                subst hac
                unfold maxLen at hmc1 hmd1
                clear hcells hcell hvc hvd hccw hcdw
                by_cases hn : countE l.length 12 = 0
                · have hll : l.length ≤ 12 := by unfold countE at hn; split at hn <;> (try omega)
                  have HO' : Hid ((if l.any (badLink c.length d.length) then 3 else linksE k.chords (lp.length + 1) lr) = linksE k.chords 0 k.links) := by
                    unfold Hid; rw [← ho, linksE, if_pos hn, hg1, hg2]
                  rw [hn] at hcall1
                  have HC1 := Lib.hid hcall1
                  clear hcall1 hn ho HO hc hd hg1 hg2
                  go_wp2_with fail
                  refine (HC1.out _).mono ?_
                  rintro e w' ⟨rfl, rfl⟩
                  go_wp2_with fail
                  go_loopw [72] (fun t wq => ∃ (ip ir : List (Int × Int)), t = .int .i64 ip.length ∧ Ext wr wq ∧ Hid (l = ip ++ ir) ∧ Hid (l.any (badLink c.length d.length) = ir.any (badLink c.length d.length))) (fun t _ => l.length - (intOf t).toNat)
                  case atStart => exact ⟨[], l, rfl, Ext.refl _, rfl, rfl⟩
                  case round =>
                    rename_i wo
                    obtain ⟨ip, ir, rfl, hEq, HIP, HIA⟩ := hrel
                    have hlen : l.length = ip.length + ir.length := by rw [HIP.out]; simp
                    cases ir with
                    | nil =>
                      have hge3 : ¬ (ip.length < l.length) := by simp at hlen; omega
                      clear hlen
                      go_wp2_with fail
                      go_roundw
                      case rel =>
                        refine ⟨lp ++ [l], lr, by simp, hEr.trans hEq, ?_, ?_⟩
                        · unfold Hid; rw [HP.out]; simp
                        · have h := HO'.out
                          rw [HIA.out] at h
                          simpa [Hid] using h
                      case measure => simp [intOf]; omega
                    | cons x ir =>
                      have hlt3 : ip.length < l.length := by simp at hlen; omega
                      clear hlen
                      obtain ⟨bx, offx, rfl, hbx, hcellx⟩ := HLK.out (by rw [HIP.out]; simp)
                      obtain ⟨hx1, hx2⟩ := hcellx ip.length x (by rw [HIP.out]; simp)
                      obtain ⟨f, t⟩ := x
                      simp only at hx1 hx2
                      have hEW : Ext W wr := hEr.trans hEq
                      obtain ⟨W3, hW3, hE3, d0, d1⟩ := box_two wr (.int .i64 f) (.int .i64 t) 114
                      have k0 := hEW.cell hx1; have k1 := hEW.cell hx2
                      have m1 := hE3.cell (hEW.cell b1)
                      have m2 := hE3.cell (hEq.cell hcc)
                      have m3 := hE3.cell (hEq.cell hcd)
                      have n1 : (lp.length : Int) < (k.chords.length : Int) := by omega
                      have n2 : (lp.length : Int) + 1 < (k.chords.length : Int) := by omega
                      have n3 : IntKind.i64.wrap ((lp.length : Int) + 1) = (lp.length : Int) + 1 := by rw [IntKind.wrap_i64]; omega
                      have n4 : 0 ≤ (lp.length : Int) + 1 := by omega
                      have n5 : ((lp.length : Int) + 1).toNat = lp.length + 1 := by omega
                      by_cases q1 : f < 0
                      · have r1 : decide (f < 0) = true := decide_eq_true q1
                        have HQ : Hid (walkE k = 3) := by
                          have h := HO'.out
                          rw [HIA.out] at h
                          unfold Hid; rw [HS.out, ← h]; simp [badLink, q1]
                        go_wp2_with fail
                        clear hW3
                        go_quiet (fail)
                        go_wp2
                        go_ret
                        rw [HQ.out]
                        exact ⟨rfl, hE.trans (Ext.draws (hEW.trans hE3) _)⟩
                      · have r1 : decide (f < 0) = false := decide_eq_false q1
                        by_cases q2 : (c.length : Int) ≤ f
                        · have r2 : decide ((c.length : Int) ≤ f) = true := decide_eq_true q2
                          have HQ : Hid (walkE k = 3) := by
                            have h := HO'.out
                            rw [HIA.out] at h
                            unfold Hid; rw [HS.out, ← h]; simp [badLink, q1, q2]
                          go_wp2_with fail
                          clear hW3
                          go_quiet (fail)
                          go_wp2
                          go_ret
                          rw [HQ.out]
                          exact ⟨rfl, hE.trans (Ext.draws (hEW.trans hE3) _)⟩
                        · have r2 : decide ((c.length : Int) ≤ f) = false := decide_eq_false q2
                          by_cases q3 : t < 0
                          · have r3 : decide (t < 0) = true := decide_eq_true q3
                            have HQ : Hid (walkE k = 3) := by
                              have h := HO'.out
                              rw [HIA.out] at h
                              unfold Hid; rw [HS.out, ← h]; simp [badLink, q1, q2, q3]
                            go_wp2_with fail
                            clear hW3
                            go_quiet (fail)
                            go_wp2
                            go_ret
                            rw [HQ.out]
                            exact ⟨rfl, hE.trans (Ext.draws (hEW.trans hE3) _)⟩
                          · have r3 : decide (t < 0) = false := decide_eq_false q3
                            by_cases q4 : (d.length : Int) ≤ t
                            · have r4 : decide ((d.length : Int) ≤ t) = true := decide_eq_true q4
                              have HQ : Hid (walkE k = 3) := by
                                have h := HO'.out
                                rw [HIA.out] at h
                                unfold Hid; rw [HS.out, ← h]; simp [badLink, q1, q2, q3, q4]
                              go_wp2_with fail
                              clear hW3
                              go_quiet (fail)
                              go_wp2
                              go_ret
                              rw [HQ.out]
                              exact ⟨rfl, hE.trans (Ext.draws (hEW.trans hE3) _)⟩
                            · have r4 : decide ((d.length : Int) ≤ t) = false := decide_eq_false q4
                              have HIA' : Hid (l.any (badLink c.length d.length) = ir.any (badLink c.length d.length)) := by
                                unfold Hid; rw [HIA.out]; simp [badLink, q1, q2, q3, q4]
                              go_wp2_with fail
                              clear hW3
                              go_quiet (fail)
                              go_wp2
                              go_roundw
                              case rel => exact ⟨ip ++ [(f, t)], ir, by simp, hEq.trans (Ext.draws hE3 _), by unfold Hid; rw [HIP.out]; simp, HIA'⟩
                              case measure => simp [intOf]; omega
                · have HQ : Hid (walkE k = countE l.length 12) := by
                    unfold Hid; rw [HS.out, ← ho, linksE, if_neg hn]
                  have hmb : (countE l.length 12 != 0) = true := by simp [hn]
                  have HC1 := Lib.hid hcall1
                  clear hcall1 hn ho HO hc hd hg1 hg2
                  go_wp2_with fail
                  refine (HC1.out _).mono ?_
                  rintro e w' ⟨rfl, rfl⟩
                  go_wp2_with fail
                  go_ret
                  rw [HQ.out]
                  exact ⟨rfl, hE.trans hEr⟩
          · have hlb : ((k.links.length : Int) != (k.chords.length : Int) - 1) = true := by simp [hl]
            have HQ : Hid (walkE k = 5) := by
              unfold Hid walkE
              rw [if_pos HZ.out, if_pos HK.out, if_pos HCH.out, if_neg hl]
            clear hl
            go_wp2_with fail
            go_ret
            rw [HQ.out]
            exact ⟨rfl, hE⟩
        | cons c rest =>
          have hlt : pre.length < k.chords.length := by simp at hlen; omega
          clear hlen
          obtain ⟨-, -, -, hcells⟩ := inCell.cells P2.out
          obtain ⟨b, off, rfl, hbw, hcell⟩ := hcells (by rw [HP.out]; simp)
          obtain ⟨vx, hvx, hx⟩ := hcell pre.length c (by rw [HP.out]; simp)
          have hcall1 := fun W' => count_any c.length 12 W'
          have hcall2 := fun W' (he : Ext W W') => monzoCheckAll_any k.primes vp c vx W' (P1.out.ext he) (Rows2.ext hvx he)
          obtain ⟨ax, cx, rfl, hlcx, hcx, -, -⟩ := inCell.open hvx
          unfold maxLen at hcx
          clear hcells hcell hvx
          have ho := HO.out
          by_cases hn : countE c.length 12 = 0
          · rw [hn] at hcall1
            have HC1 := Lib.hid hcall1
            have HN := Lib.hid hn
            clear hcall1 hn
            by_cases hm : checkAllE k.primes c = 0
            · have HO' : Hid (chordsE k.primes rest = chordsE k.primes k.chords) := by unfold Hid; rw [← ho, chordsE, if_pos HN.out, if_pos hm]
              rw [hm] at hcall2
              have HC2 := Lib.hid hcall2
              clear hcall2 hm ho
              go_wp2_with fail
              refine (HC1.out _).mono ?_
              rintro e w' ⟨rfl, rfl⟩
              go_wp2_with fail
              refine (HC2.out _ (Ext.refl _)).mono ?_
              rintro e w' ⟨rfl, rfl⟩
              go_wp2_with fail
              go_round
              case rel => exact ⟨pre ++ [c], rest, by simp, by unfold Hid; rw [HP.out]; simp, HO'⟩
              case measure => simp [intOf]; omega
            · have HQ : Hid (walkE k = checkAllE k.primes c) := by
                have : chordsE k.primes k.chords = checkAllE k.primes c := by rw [← ho, chordsE, if_pos HN.out, if_neg hm]
                unfold Hid walkE
                rw [if_pos HZ.out, if_pos HK.out, this, if_neg hm]
              have hmb : (checkAllE k.primes c != 0) = true := by simp [hm]
              have HC2 := Lib.hid hcall2
              clear hcall2 hm ho
              go_wp2_with fail
              refine (HC1.out _).mono ?_
              rintro e w' ⟨rfl, rfl⟩
              go_wp2_with fail
              refine (HC2.out _ (Ext.refl _)).mono ?_
              rintro e w' ⟨rfl, rfl⟩
              go_wp2_with fail
              go_ret
              rw [HQ.out]
              exact ⟨rfl, hE⟩
          · have HQ : Hid (walkE k = countE c.length 12) := by
              have : chordsE k.primes k.chords = countE c.length 12 := by rw [← ho, chordsE, if_neg hn]
              unfold Hid walkE
              rw [if_pos HZ.out, if_pos HK.out, this, if_neg hn]
            have hmb : (countE c.length 12 != 0) = true := by simp [hn]
            have HC1 := Lib.hid hcall1
            clear hcall1 hcall2 hn ho
            go_wp2_with fail
            refine (HC1.out _).mono ?_
            rintro e w' ⟨rfl, rfl⟩
            go_wp2_with fail
            go_ret
            rw [HQ.out]
            exact ⟨rfl, hE⟩
    · have HQ : Hid (walkE k = countE k.chords.length 64) := by
        unfold Hid walkE
        rw [if_pos HZ.out, if_neg hk]
      have hmb : (countE k.chords.length 64 != 0) = true := by simp [hk]
      have HC1 := Lib.hid (fun W' => count_any k.chords.length 64 W')
      clear hk
      go_enter Tryz.func35, Tryz.ntmps35
      go_wp2_with fail
      clear hW
      refine (HPC.out _ (Ext.refl _)).mono ?_
      rintro e w' ⟨rfl, rfl⟩
      go_wp2_with fail
      refine (HC1.out _).mono ?_
      rintro e w' ⟨rfl, rfl⟩
      go_wp2_with fail
      go_ret
      rw [HQ.out]
      exact ⟨rfl, hE⟩
  · have HQ : Hid (walkE k = primesE5 k.primes) := by
      unfold Hid walkE
      rw [if_neg hz]
    have hmb : (primesE5 k.primes != 0) = true := by simp [hz]
    clear hz
    go_enter Tryz.func35, Tryz.ntmps35
    go_wp2_with fail
    clear hW
    refine (HPC.out _ (Ext.refl _)).mono ?_
    rintro e w' ⟨rfl, rfl⟩
    go_wp2_with fail
    go_ret
    rw [HQ.out]
    exact ⟨rfl, hE⟩
end Go.Proofs.YtjihfabhgcfjnaaGreatDoor
