/- Merged: Few51. -/
import Derived.Test.YtjihfabhgcfjnaaGreatDoorUAJ
import Derived.Test.YtjihfabhgcfjnaaGreatDoorVAAB
import Derived.Test.YtjihfabhgcfjnaaGreatDoorVAAC
import Derived.BigQuiet
/- Law 51's few: it answers, and memory is added to only. Printed by gen/few51.py. -/
namespace Go.Proofs.YtjihfabhgcfjnaaGreatDoor
set_option linter.unusedVariables false
set_option linter.unusedSimpArgs false
open Go.RowKit

def SomeB (e : Ending) : Prop := ∃ b, e = .returned (.bool b)
theorem few1_any (x : List Int) (v : Value) (w : World) (h : Ints w v x) :
    Calls Tryz.prog 72 #[v] w fun e w' => e = .returned (.bool (decide (6 < x.length))) ∧ Ext w w' := by
  obtain ⟨a, c, rfl, h1, h2, -⟩ := h.open
  unfold maxLen at h2
  have HB : Hid (decide ((6 : Int) < (x.length : Int)) = decide (6 < x.length)) := by unfold Hid; rw [Bool.eq_iff_iff]; simp; omega
  go_enter Tryz.func72, Tryz.ntmps72
  go_wp2_with fail
  go_ret
  exact ⟨congrArg (fun b => Ending.returned (.bool b)) HB.out, Ext.refl _⟩
theorem few2_any (x : List (Int × Int)) (v : Value) (w : World) (h : Links w v x) :
    Calls Tryz.prog 74 #[v] w fun e w' => e = .returned (.bool (decide (14 < x.length))) ∧ Ext w w' := by
  obtain ⟨a, c, rfl, h1, h2, -⟩ := ListAt.open h
  unfold maxLen at h2
  have HB : Hid (decide ((14 : Int) < (x.length : Int)) = decide (14 < x.length)) := by unfold Hid; rw [Bool.eq_iff_iff]; simp; omega
  go_enter Tryz.func74, Tryz.ntmps74
  go_wp2_with fail
  go_ret
  exact ⟨congrArg (fun b => Ending.returned (.bool b)) HB.out, Ext.refl _⟩

set_option maxRecDepth 100000 in
set_option maxHeartbeats 8000000 in
theorem few51_any (k : Wk) (v : Value) (w : World) (h : WalkAt w v k) :
    Calls Tryz.prog 33 #[v] w fun e w' => SomeB e ∧ Ext w w' := by
  obtain ⟨vp, vc, vl, rfl, h1, h2, h3⟩ := h
  obtain ⟨ap, cp, rfl, hlp, hmp, -⟩ := h1.open
  obtain ⟨ac, cc, rfl, hlc, hmc, -, -⟩ := inCell.open h2
  obtain ⟨al, cl, rfl, hll, hml, -, -⟩ := inCell.open h3
  obtain ⟨W, hW, hE, hsz, b0, b1, b2⟩ := box_walk w (.slice ap k.primes.length cp) (.slice ac k.chords.length cc) (.slice al k.links.length cl) 55
  have P2 := Lib.hid (h2.ext hE); have P3 := Lib.hid (h3.ext hE)
  unfold maxLen at hmp hmc hml
  clear h1 h2 h3
  obtain ⟨np, hnp⟩ : ∃ n, k.primes.length = n := ⟨_, rfl⟩
  obtain ⟨nc, hnc⟩ : ∃ n, k.chords.length = n := ⟨_, rfl⟩
  obtain ⟨nl, hnl⟩ : ∃ n, k.links.length = n := ⟨_, rfl⟩
  rw [hnp] at hlp b0 hW
  rw [hnc] at hlc b1 hW P2
  rw [hnl] at hll b2 hW P3
  rw [hnp, hnc, hnl]
  have HNC := Lib.hid hnc
  clear hnp hnc hnl
  by_cases p8 : (8 : Int) < (np : Int)
  · have rp8 : decide ((8 : Int) < (np : Int)) = true := decide_eq_true p8
    go_enter Tryz.func33, Tryz.ntmps33
    go_wp2_with fail
    go_ret
    exact ⟨⟨_, rfl⟩, hE⟩
  · have rp8 : decide ((8 : Int) < (np : Int)) = false := decide_eq_false p8
    by_cases c6 : (6 : Int) < (nc : Int)
    · have rc6 : decide ((6 : Int) < (nc : Int)) = true := decide_eq_true c6
      by_cases c64 : (nc : Int) < 64
      · have rc64 : decide ((nc : Int) < 64) = true := decide_eq_true c64
        go_enter Tryz.func33, Tryz.ntmps33
        go_wp2_with fail
        go_ret
        exact ⟨⟨_, rfl⟩, hE⟩
      · have rc64 : decide ((nc : Int) < 64) = false := decide_eq_false c64
        by_cases c66 : (66 : Int) < (nc : Int)
        · have rc66 : decide ((66 : Int) < (nc : Int)) = true := decide_eq_true c66
          go_enter Tryz.func33, Tryz.ntmps33
          go_wp2_with fail
          go_ret
          exact ⟨⟨_, rfl⟩, hE⟩
        · have rc66 : decide ((66 : Int) < (nc : Int)) = false := decide_eq_false c66
          by_cases l6 : (6 : Int) < (nl : Int)
          · have rl6 : decide ((6 : Int) < (nl : Int)) = true := decide_eq_true l6
            by_cases l63 : (nl : Int) < 63
            · have rl63 : decide ((nl : Int) < 63) = true := decide_eq_true l63
              go_enter Tryz.func33, Tryz.ntmps33
              go_wp2_with fail
              go_ret
              exact ⟨⟨_, rfl⟩, hE⟩
            · have rl63 : decide ((nl : Int) < 63) = false := decide_eq_false l63
              by_cases l66 : (66 : Int) < (nl : Int)
              · have rl66 : decide ((66 : Int) < (nl : Int)) = true := decide_eq_true l66
                go_enter Tryz.func33, Tryz.ntmps33
                go_wp2_with fail
                go_ret
                exact ⟨⟨_, rfl⟩, hE⟩
              · have rl66 : decide ((66 : Int) < (nl : Int)) = false := decide_eq_false l66
                go_enter Tryz.func33, Tryz.ntmps33
                go_wp2_with fail
                clear hW
                go_loopw [48] (fun t wr => ∃ j : Nat, j ≤ nc ∧ t = .int .i64 j ∧ Hid (Ext W wr)) (fun t _ => nc - (intOf t).toNat)
                case atStart => exact ⟨0, by omega, rfl, by first | exact Ext.drew _ | exact Ext.refl _⟩
                case round =>
                  obtain ⟨j, hj, rfl, HEr⟩ := hrel
                  obtain ⟨wo, rfl⟩ : ∃ wo : World, wo = wr := ⟨_, rfl⟩
                  by_cases hlt : j < nc
                  · obtain ⟨-, -, -, hcells⟩ := inCell.cells P2.out
                    obtain ⟨b, off, rfl, hb, hcell⟩ := hcells (by intro e; have := HNC.out; simp [e] at this; omega)
                    obtain ⟨c, hc⟩ : ∃ c, k.chords[j]? = some c := ⟨k.chords[j]'(by have := HNC.out; omega), List.getElem?_eq_getElem _⟩
                    obtain ⟨vx, hvx, hx⟩ := hcell j c hc
                    have hx := HEr.out.cell hx
                    obtain ⟨ax, cx, rfl, hax, hmx, -, -⟩ := inCell.open hvx
                    have HCF := Lib.hid (containsRws_any (R := Ints) (fun _ _ _ _ he h => Ints.ext h he) c _ 72 #[] (fun x => decide (6 < x.length)) wo (Rows2.ext hvx HEr.out) (enters_of Tryz.func72 (by kernel_rfl) rfl) (fun W x a _ _ ha => few1_any x a W ha))
                    obtain ⟨B, hB⟩ : ∃ B, c.any (fun x => decide (6 < x.length)) = B := ⟨_, rfl⟩
                    rw [hB] at HCF
                    obtain ⟨n, hn⟩ : ∃ n, c.length = n := ⟨_, rfl⟩
                    rw [hn] at hx HCF hax
                    unfold maxLen at hmx
                    clear hcells hcell hvx hB hn hc
                    by_cases c4 : (4 : Int) < (n : Int)
                    · have rc4 : decide ((4 : Int) < (n : Int)) = true := decide_eq_true c4
                      by_cases c12 : (n : Int) < 12
                      · have rc12 : decide ((n : Int) < 12) = true := decide_eq_true c12
                        go_wp2_with fail
                        go_ret
                        exact ⟨⟨_, rfl⟩, hE.trans HEr.out⟩
                      · have rc12 : decide ((n : Int) < 12) = false := decide_eq_false c12
                        by_cases c14 : (14 : Int) < (n : Int)
                        · have rc14 : decide ((14 : Int) < (n : Int)) = true := decide_eq_true c14
                          go_wp2_with fail
                          go_ret
                          exact ⟨⟨_, rfl⟩, hE.trans HEr.out⟩
                        · have rc14 : decide ((14 : Int) < (n : Int)) = false := decide_eq_false c14
                          go_wp2_with fail
                          refine HCF.out.mono ?_
                          rintro e w6 ⟨rfl, hE6⟩
                          have HE6 := Lib.hid (HEr.out.trans hE6)
                          clear hE6 HCF hx
                          cases B with
                          | true =>
                            go_wp2_with fail
                            go_ret
                            exact ⟨⟨_, rfl⟩, hE.trans HE6.out⟩
                          | false =>
                            go_wp2_with fail
                            go_roundw
                            case rel => exact ⟨j + 1, by omega, by go_num, HE6.out⟩
                            case measure => simp [intOf]; omega
                    · have rc4 : decide ((4 : Int) < (n : Int)) = false := decide_eq_false c4
                      go_wp2_with fail
                      refine HCF.out.mono ?_
                      rintro e w6 ⟨rfl, hE6⟩
                      have HE6 := Lib.hid (HEr.out.trans hE6)
                      clear hE6 HCF hx
                      cases B with
                      | true =>
                        go_wp2_with fail
                        go_ret
                        exact ⟨⟨_, rfl⟩, hE.trans HE6.out⟩
                      | false =>
                        go_wp2_with fail
                        go_roundw
                        case rel => exact ⟨j + 1, by omega, by go_num, HE6.out⟩
                        case measure => simp [intOf]; omega
                  · obtain rfl : j = nc := by omega
                    have HCL := Lib.hid (containsLks_any (R := Links) (fun _ _ _ _ he h => Links.ext h he) k.links _ 74 #[] (fun x => decide (14 < x.length)) wo (Links2.ext P3.out HEr.out) (enters_of Tryz.func74 (by kernel_rfl) rfl) (fun W x a _ _ ha => few2_any x a W ha))
                    have g2 := HEr.out.cell b2
                    go_wp2_with fail
                    refine HCL.out.mono ?_
                    rintro e w6 ⟨rfl, hE6⟩
                    have HE6 := Lib.hid (HEr.out.trans hE6)
                    clear hE6 HCL
                    go_wp2_with fail
                    go_ret
                    exact ⟨⟨_, rfl⟩, hE.trans HE6.out⟩
          · have rl6 : decide ((6 : Int) < (nl : Int)) = false := decide_eq_false l6
            go_enter Tryz.func33, Tryz.ntmps33
            go_wp2_with fail
            clear hW
            go_loopw [48] (fun t wr => ∃ j : Nat, j ≤ nc ∧ t = .int .i64 j ∧ Hid (Ext W wr)) (fun t _ => nc - (intOf t).toNat)
            case atStart => exact ⟨0, by omega, rfl, by first | exact Ext.drew _ | exact Ext.refl _⟩
            case round =>
              obtain ⟨j, hj, rfl, HEr⟩ := hrel
              obtain ⟨wo, rfl⟩ : ∃ wo : World, wo = wr := ⟨_, rfl⟩
              by_cases hlt : j < nc
              · obtain ⟨-, -, -, hcells⟩ := inCell.cells P2.out
                obtain ⟨b, off, rfl, hb, hcell⟩ := hcells (by intro e; have := HNC.out; simp [e] at this; omega)
                obtain ⟨c, hc⟩ : ∃ c, k.chords[j]? = some c := ⟨k.chords[j]'(by have := HNC.out; omega), List.getElem?_eq_getElem _⟩
                obtain ⟨vx, hvx, hx⟩ := hcell j c hc
                have hx := HEr.out.cell hx
                obtain ⟨ax, cx, rfl, hax, hmx, -, -⟩ := inCell.open hvx
                have HCF := Lib.hid (containsRws_any (R := Ints) (fun _ _ _ _ he h => Ints.ext h he) c _ 72 #[] (fun x => decide (6 < x.length)) wo (Rows2.ext hvx HEr.out) (enters_of Tryz.func72 (by kernel_rfl) rfl) (fun W x a _ _ ha => few1_any x a W ha))
                obtain ⟨B, hB⟩ : ∃ B, c.any (fun x => decide (6 < x.length)) = B := ⟨_, rfl⟩
                rw [hB] at HCF
                obtain ⟨n, hn⟩ : ∃ n, c.length = n := ⟨_, rfl⟩
                rw [hn] at hx HCF hax
                unfold maxLen at hmx
                clear hcells hcell hvx hB hn hc
                by_cases c4 : (4 : Int) < (n : Int)
                · have rc4 : decide ((4 : Int) < (n : Int)) = true := decide_eq_true c4
                  by_cases c12 : (n : Int) < 12
                  · have rc12 : decide ((n : Int) < 12) = true := decide_eq_true c12
                    go_wp2_with fail
                    go_ret
                    exact ⟨⟨_, rfl⟩, hE.trans HEr.out⟩
                  · have rc12 : decide ((n : Int) < 12) = false := decide_eq_false c12
                    by_cases c14 : (14 : Int) < (n : Int)
                    · have rc14 : decide ((14 : Int) < (n : Int)) = true := decide_eq_true c14
                      go_wp2_with fail
                      go_ret
                      exact ⟨⟨_, rfl⟩, hE.trans HEr.out⟩
                    · have rc14 : decide ((14 : Int) < (n : Int)) = false := decide_eq_false c14
                      go_wp2_with fail
                      refine HCF.out.mono ?_
                      rintro e w6 ⟨rfl, hE6⟩
                      have HE6 := Lib.hid (HEr.out.trans hE6)
                      clear hE6 HCF hx
                      cases B with
                      | true =>
                        go_wp2_with fail
                        go_ret
                        exact ⟨⟨_, rfl⟩, hE.trans HE6.out⟩
                      | false =>
                        go_wp2_with fail
                        go_roundw
                        case rel => exact ⟨j + 1, by omega, by go_num, HE6.out⟩
                        case measure => simp [intOf]; omega
                · have rc4 : decide ((4 : Int) < (n : Int)) = false := decide_eq_false c4
                  go_wp2_with fail
                  refine HCF.out.mono ?_
                  rintro e w6 ⟨rfl, hE6⟩
                  have HE6 := Lib.hid (HEr.out.trans hE6)
                  clear hE6 HCF hx
                  cases B with
                  | true =>
                    go_wp2_with fail
                    go_ret
                    exact ⟨⟨_, rfl⟩, hE.trans HE6.out⟩
                  | false =>
                    go_wp2_with fail
                    go_roundw
                    case rel => exact ⟨j + 1, by omega, by go_num, HE6.out⟩
                    case measure => simp [intOf]; omega
              · obtain rfl : j = nc := by omega
                have HCL := Lib.hid (containsLks_any (R := Links) (fun _ _ _ _ he h => Links.ext h he) k.links _ 74 #[] (fun x => decide (14 < x.length)) wo (Links2.ext P3.out HEr.out) (enters_of Tryz.func74 (by kernel_rfl) rfl) (fun W x a _ _ ha => few2_any x a W ha))
                have g2 := HEr.out.cell b2
                go_wp2_with fail
                refine HCL.out.mono ?_
                rintro e w6 ⟨rfl, hE6⟩
                have HE6 := Lib.hid (HEr.out.trans hE6)
                clear hE6 HCL
                go_wp2_with fail
                go_ret
                exact ⟨⟨_, rfl⟩, hE.trans HE6.out⟩
    · have rc6 : decide ((6 : Int) < (nc : Int)) = false := decide_eq_false c6
      by_cases l6 : (6 : Int) < (nl : Int)
      · have rl6 : decide ((6 : Int) < (nl : Int)) = true := decide_eq_true l6
        by_cases l63 : (nl : Int) < 63
        · have rl63 : decide ((nl : Int) < 63) = true := decide_eq_true l63
          go_enter Tryz.func33, Tryz.ntmps33
          go_wp2_with fail
          go_ret
          exact ⟨⟨_, rfl⟩, hE⟩
        · have rl63 : decide ((nl : Int) < 63) = false := decide_eq_false l63
          by_cases l66 : (66 : Int) < (nl : Int)
          · have rl66 : decide ((66 : Int) < (nl : Int)) = true := decide_eq_true l66
            go_enter Tryz.func33, Tryz.ntmps33
            go_wp2_with fail
            go_ret
            exact ⟨⟨_, rfl⟩, hE⟩
          · have rl66 : decide ((66 : Int) < (nl : Int)) = false := decide_eq_false l66
            go_enter Tryz.func33, Tryz.ntmps33
            go_wp2_with fail
            clear hW
            go_loopw [48] (fun t wr => ∃ j : Nat, j ≤ nc ∧ t = .int .i64 j ∧ Hid (Ext W wr)) (fun t _ => nc - (intOf t).toNat)
            case atStart => exact ⟨0, by omega, rfl, by first | exact Ext.drew _ | exact Ext.refl _⟩
            case round =>
              obtain ⟨j, hj, rfl, HEr⟩ := hrel
              obtain ⟨wo, rfl⟩ : ∃ wo : World, wo = wr := ⟨_, rfl⟩
              by_cases hlt : j < nc
              · obtain ⟨-, -, -, hcells⟩ := inCell.cells P2.out
                obtain ⟨b, off, rfl, hb, hcell⟩ := hcells (by intro e; have := HNC.out; simp [e] at this; omega)
                obtain ⟨c, hc⟩ : ∃ c, k.chords[j]? = some c := ⟨k.chords[j]'(by have := HNC.out; omega), List.getElem?_eq_getElem _⟩
                obtain ⟨vx, hvx, hx⟩ := hcell j c hc
                have hx := HEr.out.cell hx
                obtain ⟨ax, cx, rfl, hax, hmx, -, -⟩ := inCell.open hvx
                have HCF := Lib.hid (containsRws_any (R := Ints) (fun _ _ _ _ he h => Ints.ext h he) c _ 72 #[] (fun x => decide (6 < x.length)) wo (Rows2.ext hvx HEr.out) (enters_of Tryz.func72 (by kernel_rfl) rfl) (fun W x a _ _ ha => few1_any x a W ha))
                obtain ⟨B, hB⟩ : ∃ B, c.any (fun x => decide (6 < x.length)) = B := ⟨_, rfl⟩
                rw [hB] at HCF
                obtain ⟨n, hn⟩ : ∃ n, c.length = n := ⟨_, rfl⟩
                rw [hn] at hx HCF hax
                unfold maxLen at hmx
                clear hcells hcell hvx hB hn hc
                by_cases c4 : (4 : Int) < (n : Int)
                · have rc4 : decide ((4 : Int) < (n : Int)) = true := decide_eq_true c4
                  by_cases c12 : (n : Int) < 12
                  · have rc12 : decide ((n : Int) < 12) = true := decide_eq_true c12
                    go_wp2_with fail
                    go_ret
                    exact ⟨⟨_, rfl⟩, hE.trans HEr.out⟩
                  · have rc12 : decide ((n : Int) < 12) = false := decide_eq_false c12
                    by_cases c14 : (14 : Int) < (n : Int)
                    · have rc14 : decide ((14 : Int) < (n : Int)) = true := decide_eq_true c14
                      go_wp2_with fail
                      go_ret
                      exact ⟨⟨_, rfl⟩, hE.trans HEr.out⟩
                    · have rc14 : decide ((14 : Int) < (n : Int)) = false := decide_eq_false c14
                      go_wp2_with fail
                      refine HCF.out.mono ?_
                      rintro e w6 ⟨rfl, hE6⟩
                      have HE6 := Lib.hid (HEr.out.trans hE6)
                      clear hE6 HCF hx
                      cases B with
                      | true =>
                        go_wp2_with fail
                        go_ret
                        exact ⟨⟨_, rfl⟩, hE.trans HE6.out⟩
                      | false =>
                        go_wp2_with fail
                        go_roundw
                        case rel => exact ⟨j + 1, by omega, by go_num, HE6.out⟩
                        case measure => simp [intOf]; omega
                · have rc4 : decide ((4 : Int) < (n : Int)) = false := decide_eq_false c4
                  go_wp2_with fail
                  refine HCF.out.mono ?_
                  rintro e w6 ⟨rfl, hE6⟩
                  have HE6 := Lib.hid (HEr.out.trans hE6)
                  clear hE6 HCF hx
                  cases B with
                  | true =>
                    go_wp2_with fail
                    go_ret
                    exact ⟨⟨_, rfl⟩, hE.trans HE6.out⟩
                  | false =>
                    go_wp2_with fail
                    go_roundw
                    case rel => exact ⟨j + 1, by omega, by go_num, HE6.out⟩
                    case measure => simp [intOf]; omega
              · obtain rfl : j = nc := by omega
                have HCL := Lib.hid (containsLks_any (R := Links) (fun _ _ _ _ he h => Links.ext h he) k.links _ 74 #[] (fun x => decide (14 < x.length)) wo (Links2.ext P3.out HEr.out) (enters_of Tryz.func74 (by kernel_rfl) rfl) (fun W x a _ _ ha => few2_any x a W ha))
                have g2 := HEr.out.cell b2
                go_wp2_with fail
                refine HCL.out.mono ?_
                rintro e w6 ⟨rfl, hE6⟩
                have HE6 := Lib.hid (HEr.out.trans hE6)
                clear hE6 HCL
                go_wp2_with fail
                go_ret
                exact ⟨⟨_, rfl⟩, hE.trans HE6.out⟩
      · have rl6 : decide ((6 : Int) < (nl : Int)) = false := decide_eq_false l6
        go_enter Tryz.func33, Tryz.ntmps33
        go_wp2_with fail
        clear hW
        go_loopw [48] (fun t wr => ∃ j : Nat, j ≤ nc ∧ t = .int .i64 j ∧ Hid (Ext W wr)) (fun t _ => nc - (intOf t).toNat)
        case atStart => exact ⟨0, by omega, rfl, by first | exact Ext.drew _ | exact Ext.refl _⟩
        case round =>
          obtain ⟨j, hj, rfl, HEr⟩ := hrel
          obtain ⟨wo, rfl⟩ : ∃ wo : World, wo = wr := ⟨_, rfl⟩
          by_cases hlt : j < nc
          · obtain ⟨-, -, -, hcells⟩ := inCell.cells P2.out
            obtain ⟨b, off, rfl, hb, hcell⟩ := hcells (by intro e; have := HNC.out; simp [e] at this; omega)
            obtain ⟨c, hc⟩ : ∃ c, k.chords[j]? = some c := ⟨k.chords[j]'(by have := HNC.out; omega), List.getElem?_eq_getElem _⟩
            obtain ⟨vx, hvx, hx⟩ := hcell j c hc
            have hx := HEr.out.cell hx
            obtain ⟨ax, cx, rfl, hax, hmx, -, -⟩ := inCell.open hvx
            have HCF := Lib.hid (containsRws_any (R := Ints) (fun _ _ _ _ he h => Ints.ext h he) c _ 72 #[] (fun x => decide (6 < x.length)) wo (Rows2.ext hvx HEr.out) (enters_of Tryz.func72 (by kernel_rfl) rfl) (fun W x a _ _ ha => few1_any x a W ha))
            obtain ⟨B, hB⟩ : ∃ B, c.any (fun x => decide (6 < x.length)) = B := ⟨_, rfl⟩
            rw [hB] at HCF
            obtain ⟨n, hn⟩ : ∃ n, c.length = n := ⟨_, rfl⟩
            rw [hn] at hx HCF hax
            unfold maxLen at hmx
            clear hcells hcell hvx hB hn hc
            by_cases c4 : (4 : Int) < (n : Int)
            · have rc4 : decide ((4 : Int) < (n : Int)) = true := decide_eq_true c4
              by_cases c12 : (n : Int) < 12
              · have rc12 : decide ((n : Int) < 12) = true := decide_eq_true c12
                go_wp2_with fail
                go_ret
                exact ⟨⟨_, rfl⟩, hE.trans HEr.out⟩
              · have rc12 : decide ((n : Int) < 12) = false := decide_eq_false c12
                by_cases c14 : (14 : Int) < (n : Int)
                · have rc14 : decide ((14 : Int) < (n : Int)) = true := decide_eq_true c14
                  go_wp2_with fail
                  go_ret
                  exact ⟨⟨_, rfl⟩, hE.trans HEr.out⟩
                · have rc14 : decide ((14 : Int) < (n : Int)) = false := decide_eq_false c14
                  go_wp2_with fail
                  refine HCF.out.mono ?_
                  rintro e w6 ⟨rfl, hE6⟩
                  have HE6 := Lib.hid (HEr.out.trans hE6)
                  clear hE6 HCF hx
                  cases B with
                  | true =>
                    go_wp2_with fail
                    go_ret
                    exact ⟨⟨_, rfl⟩, hE.trans HE6.out⟩
                  | false =>
                    go_wp2_with fail
                    go_roundw
                    case rel => exact ⟨j + 1, by omega, by go_num, HE6.out⟩
                    case measure => simp [intOf]; omega
            · have rc4 : decide ((4 : Int) < (n : Int)) = false := decide_eq_false c4
              go_wp2_with fail
              refine HCF.out.mono ?_
              rintro e w6 ⟨rfl, hE6⟩
              have HE6 := Lib.hid (HEr.out.trans hE6)
              clear hE6 HCF hx
              cases B with
              | true =>
                go_wp2_with fail
                go_ret
                exact ⟨⟨_, rfl⟩, hE.trans HE6.out⟩
              | false =>
                go_wp2_with fail
                go_roundw
                case rel => exact ⟨j + 1, by omega, by go_num, HE6.out⟩
                case measure => simp [intOf]; omega
          · obtain rfl : j = nc := by omega
            have HCL := Lib.hid (containsLks_any (R := Links) (fun _ _ _ _ he h => Links.ext h he) k.links _ 74 #[] (fun x => decide (14 < x.length)) wo (Links2.ext P3.out HEr.out) (enters_of Tryz.func74 (by kernel_rfl) rfl) (fun W x a _ _ ha => few2_any x a W ha))
            have g2 := HEr.out.cell b2
            go_wp2_with fail
            refine HCL.out.mono ?_
            rintro e w6 ⟨rfl, hE6⟩
            have HE6 := Lib.hid (HEr.out.trans hE6)
            clear hE6 HCL
            go_wp2_with fail
            go_ret
            exact ⟨⟨_, rfl⟩, hE.trans HE6.out⟩

end Go.Proofs.YtjihfabhgcfjnaaGreatDoor
