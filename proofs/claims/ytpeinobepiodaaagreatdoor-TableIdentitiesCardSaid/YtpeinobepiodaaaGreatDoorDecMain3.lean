/- Contracts of package decimal at numerals: DivMod, Gcd. -/
import Derived.Test.YtpeinobepiodaaaGreatDoorDecMain2
namespace Go.Proofs.YtpeinobepiodaaaGreatDoor
set_option linter.unusedVariables false
set_option linter.unusedSimpArgs false
open Go.RowKit

set_option maxRecDepth 100000 in
set_option maxHeartbeats 4000000 in
theorem decDivMod_lt (u v : Nat) (w : World) (hu : (numB u).size ≤ 30000) (hv : (numB v).size ≤ 30000) (hv0 : v ≠ 0) (ht : Pow10 w) (hs : ¬ ((numB u).size ≤ 18 ∧ (numB v).size ≤ 18)) (hlt : u < v) :
    Calls Tryz.prog 138 #[.string (numB u), .string (numB v)] w fun e w' => e = .returned (.tuple #[.string ⟨#[48]⟩, .string (numB u), .int .i64 0]) ∧ Ext w w' := by
  have HT := Lib.hid ht
  have hz := num_zero v
  rw [decide_eq_false hv0] at hz
  clear ht
  have HB := Lib.hid (both_no u v w (by omega))
  clear hs
  have HC1 : Hid (∀ W, Calls Tryz.prog 120 #[.string (numB u)] W fun e w' => ∃ r l, e = .returned r ∧ Hid (OwnP W.heap.size w' r l ∧ Can l ∧ lv l = u ∧ l.length ≤ (numB u).size) ∧ Ext W w') := fun W => cut_num u W (by omega)
  have HC2 : Hid (∀ W, Calls Tryz.prog 120 #[.string (numB v)] W fun e w' => ∃ r l, e = .returned r ∧ Hid (OwnP W.heap.size w' r l ∧ Can l ∧ lv l = v ∧ l.length ≤ (numB v).size) ∧ Ext W w') := fun W => cut_num v W (by omega)
  go_enter Tryz.func138, Tryz.ntmps138
  go_wp2_with fail
  refine HB.out.mono ?_
  rintro e w0 ⟨rfl, hE0⟩
  have HE0 := Lib.hid hE0
  clear hE0 HB
  go_wp2_with fail
  refine (HC1.out _).mono ?_
  rintro e w1 ⟨v1, l1, rfl, h1, hE1⟩
  have HL1 := Lib.hid h1.out
  have HE1 := Lib.hid (Ext.trans HE0.out hE1)
  clear h1 hE1 HC1
  go_wp2_with fail
  refine (HC2.out _).mono ?_
  rintro e w2 ⟨v2, l2, rfl, h2, hE2⟩
  have HL2 := Lib.hid h2.out
  have HE2 := Lib.hid (Ext.trans HE1.out hE2)
  have HP1 := Lib.hid (PcsAt.ext HL1.out.1.at hE2)
  have HP2 := Lib.hid HL2.out.1.at
  have hlen1 : l1.length ≤ 30000 := by have := HL1.out.2.2.2; omega
  have hlen2 : l2.length ≤ 30000 := by have := HL2.out.2.2.2; omega
  have HC1' := Lib.hid HL1.out.2.1
  have HC2' := Lib.hid HL2.out.2.1
  have HV1 := Lib.hid HL1.out.2.2.1
  have HV2 := Lib.hid HL2.out.2.2.1
  obtain ⟨a1, c1, hv1, hl1, hc1, -⟩ := HP1.out.open
  obtain ⟨a2, c2, hv2, hl2, hc2, hcell2⟩ := HP2.out.open
  have hpos2 : 0 < l2.length := by
    refine List.length_pos_iff.2 fun e => ?_
    have := HC2'.out.zero.2 e
    rw [HV2.out] at this
    exact hv0 this
  obtain ⟨b2, o2, rfl, -, hcell2'⟩ := hcell2 (List.length_pos_iff.1 hpos2)
  have HCELL := Lib.hid hcell2'
  clear hcell2'
  subst hv1
  subst hv2
  have hcmp := pcompare_any l1 l2 _ _ w2 HP1.out HP2.out HC1'.out HC2'.out (by omega) (by omega)
  rw [HV1.out, HV2.out] at hcmp
  have HCM := Lib.hid hcmp
  clear hcmp
  clear h2 hE2 HC2 hcell2
  have hcm : cmpN u v < 0 := by rw [cmpN_lt hlt]; omega
  obtain ⟨cm, hcmm⟩ : ∃ cm, cm = cmpN u v := ⟨_, rfl⟩
  rw [← hcmm] at HCM hcm
  clear hcmm
  go_wp2_with fail
  refine HCM.out.mono ?_
  rintro e w3 ⟨rfl, hE3⟩
  have HE3 := Lib.hid (Ext.trans HE2.out hE3)
  clear hE3 HCM
  go_wp2_with fail
  go_ret3
  exact ⟨rfl, HE3.out⟩


set_option maxRecDepth 100000 in
set_option maxHeartbeats 600000 in
theorem decDivMod_ge (u v : Nat) (w : World) (hu : (numB u).size ≤ 30000) (hv : (numB v).size ≤ 30000) (hv0 : v ≠ 0) (ht : Pow10 w) (hs : ¬ ((numB u).size ≤ 18 ∧ (numB v).size ≤ 18)) (hlt : ¬ u < v) :
    Calls Tryz.prog 138 #[.string (numB u), .string (numB v)] w fun e w' => e = .returned (.tuple #[.string (numB (u / v)), .string (numB (u % v)), .int .i64 0]) ∧ Ext w w' := by
  have HT := Lib.hid ht
  have hz := num_zero v
  rw [decide_eq_false hv0] at hz
  clear ht
  have HB := Lib.hid (both_no u v w (by omega))
  clear hs
  have HC1 : Hid (∀ W, Calls Tryz.prog 120 #[.string (numB u)] W fun e w' => ∃ r l, e = .returned r ∧ Hid (OwnP W.heap.size w' r l ∧ Can l ∧ lv l = u ∧ l.length ≤ (numB u).size) ∧ Ext W w') := fun W => cut_num u W (by omega)
  have HC2 : Hid (∀ W, Calls Tryz.prog 120 #[.string (numB v)] W fun e w' => ∃ r l, e = .returned r ∧ Hid (OwnP W.heap.size w' r l ∧ Can l ∧ lv l = v ∧ l.length ≤ (numB v).size) ∧ Ext W w') := fun W => cut_num v W (by omega)
  go_enter Tryz.func138, Tryz.ntmps138
  go_wp2_with fail
  refine HB.out.mono ?_
  rintro e w0 ⟨rfl, hE0⟩
  have HE0 := Lib.hid hE0
  clear hE0 HB
  go_wp2_with fail
  refine (HC1.out _).mono ?_
  rintro e w1 ⟨v1, l1, rfl, h1, hE1⟩
  have HL1 := Lib.hid h1.out
  have HE1 := Lib.hid (Ext.trans HE0.out hE1)
  clear h1 hE1 HC1
  go_wp2_with fail
  refine (HC2.out _).mono ?_
  rintro e w2 ⟨v2, l2, rfl, h2, hE2⟩
  have HL2 := Lib.hid h2.out
  have HE2 := Lib.hid (Ext.trans HE1.out hE2)
  have HP1 := Lib.hid (PcsAt.ext HL1.out.1.at hE2)
  have HP2 := Lib.hid HL2.out.1.at
  have hlen1 : l1.length ≤ 30000 := by have := HL1.out.2.2.2; omega
  have hlen2 : l2.length ≤ 30000 := by have := HL2.out.2.2.2; omega
  have HC1' := Lib.hid HL1.out.2.1
  have HC2' := Lib.hid HL2.out.2.1
  have HV1 := Lib.hid HL1.out.2.2.1
  have HV2 := Lib.hid HL2.out.2.2.1
  obtain ⟨a1, c1, hv1, hl1, hc1, -⟩ := HP1.out.open
  obtain ⟨a2, c2, hv2, hl2, hc2, hcell2⟩ := HP2.out.open
  have hpos2 : 0 < l2.length := by
    refine List.length_pos_iff.2 fun e => ?_
    have := HC2'.out.zero.2 e
    rw [HV2.out] at this
    exact hv0 this
  obtain ⟨b2, o2, rfl, -, hcell2'⟩ := hcell2 (List.length_pos_iff.1 hpos2)
  have HCELL := Lib.hid hcell2'
  clear hcell2'
  subst hv1
  subst hv2
  have hcmp := pcompare_any l1 l2 _ _ w2 HP1.out HP2.out HC1'.out HC2'.out (by omega) (by omega)
  rw [HV1.out, HV2.out] at hcmp
  have HCM := Lib.hid hcmp
  clear hcmp
  clear h2 hE2 HC2 hcell2
  have hcm : ¬ cmpN u v < 0 := by unfold cmpN; rw [if_neg hlt]; split <;> omega
  obtain ⟨cm, hcmm⟩ : ∃ cm, cm = cmpN u v := ⟨_, rfl⟩
  rw [← hcmm] at HCM hcm
  clear hcmm
  have HLL : Hid (l2.length ≤ l1.length) := Can.length_le HC2'.out HC1'.out (by rw [HV1.out, HV2.out]; omega)
  by_cases h1 : l2.length = 1
  · obtain ⟨x, hx⟩ := List.length_eq_one_iff.1 h1
    have hxv : x = v := by have := HV2.out; rw [hx, lv_cons, lv_nil] at this; omega
    rw [hxv] at hx
    clear hxv
    have g2 := HCELL.out 0 v (by rw [hx]; rfl)
    have hxb : v < 1000000000 := HC2'.out.1 v (by rw [hx]; simp)
    have HSM : Hid (∀ W, Ext w2 W → Calls Tryz.prog 147 #[.slice a1 l1.length c1, .int .u64 v] W fun e w' => ∃ r l, e = .returned (.tuple #[r, .int .u64 ((u % v : Nat) : Int)]) ∧ Hid (OwnP W.heap.size w' r l ∧ Can l ∧ lv l = u / v ∧ l.length ≤ l1.length) ∧ Ext W w') := fun W hW => by
      have := small_any l1 v _ W (PcsAt.ext HP1.out hW) HC1'.out.1 hxb (by omega) (by omega)
      rw [HV1.out] at this
      exact this
    have hl0 : 0 < l2.length := hpos2
    have HGO : Hid (∀ W, Ext w2 W → W.cell? ⟨b2, o2, none⟩ = some (.int .u64 v)) := fun W hW => hW.cell (by simpa using g2)
    obtain ⟨r, hr⟩ : ∃ r, r = u % v := ⟨_, rfl⟩
    have hrx : r < v := by rw [hr]; exact Nat.mod_lt _ (by omega)
    rw [← hr] at HSM
    have HRR := Lib.hid hr
    have HRB := Lib.hid (show r < 18446744073709551616 by omega)
    rw [h1] at HCM hl0 hl2 ⊢
    clear hx g2 hr h1 hpos2 hlen2 HLL
    go_wp2_with fail
    refine HCM.out.mono ?_
    rintro e w3 ⟨rfl, hE3⟩
    have HE3 := Lib.hid (Ext.trans HE2.out hE3)
    have g3 := HGO.out _ hE3
    have HSM3 := Lib.hid (HSM.out _ hE3)
    clear hE3 HCM HSM
    go_wp2_with fail
    refine HSM3.out.mono ?_
    rintro e w4 ⟨v4, l4, rfl, h4, hE4⟩
    have HL4 := Lib.hid h4.out
    have HE4 := Lib.hid (Ext.trans HE3.out hE4)
    have HX4 := text_any l4 v4 w4 HL4.out.1.at HL4.out.2.1 (by have := HL4.out.2.2.2; omega)
    rw [HL4.out.2.2.1] at HX4
    have HX4 := Lib.hid HX4
    have HOR : Hid (∀ W, Ext w W → Calls Tryz.prog 119 #[.int .u64 r] W fun e w' => e = .returned (.string (numB r)) ∧ Ext W w') := fun W hW => decOf_any r W HRB.out (HT.out.ext hW)
    clear h4 hE4 HSM3 g3
    go_wp2_with fail
    refine HX4.out.mono ?_
    rintro e w5 ⟨rfl, hE5⟩
    have HE5 := Lib.hid (Ext.trans HE4.out hE5)
    clear hE5 HX4
    go_wp2_with fail
    refine (HOR.out _ HE5.out).mono ?_
    rintro e w6 ⟨rfl, hE6⟩
    have HE6 := Lib.hid (Ext.trans HE5.out hE6)
    clear hE6 HOR
    go_wp2_with fail
    go_ret3
    exact ⟨by rw [← HRR.out]; rfl, HE6.out⟩
  · have h1' : ((l2.length : Int) == 1) = false := by rw [beq_eq_false_iff_ne]; omega
    have HQ2 := Lib.hid (show 2 ≤ l2.length by omega)
    clear h1
    have HDV : Hid (∀ W, Ext w2 W → Calls Tryz.prog 148 #[.slice a1 l1.length c1, .slice (some ⟨b2, o2, none⟩) l2.length c2] W fun e w' => ∃ r1 m1 r2 m2, e = .returned (.tuple #[r1, r2]) ∧ Hid (OwnP W.heap.size w' r1 m1 ∧ Can m1 ∧ lv m1 = u / v ∧ m1.length ≤ l1.length + 2) ∧ Hid (OwnP W.heap.size w' r2 m2 ∧ Can m2 ∧ lv m2 = u % v ∧ m2.length ≤ l1.length + 2) ∧ Ext W w') := fun W hW => by
      have := divide_any l1 l2 _ _ W (PcsAt.ext HP1.out hW) (PcsAt.ext HP2.out hW) HC1'.out HC2'.out HQ2.out HLL.out (by omega)
      rw [HV1.out, HV2.out] at this
      exact this
    go_wp2_with fail
    refine HCM.out.mono ?_
    rintro e w3 ⟨rfl, hE3⟩
    have HE3 := Lib.hid (Ext.trans HE2.out hE3)
    have HD3 := Lib.hid (HDV.out _ hE3)
    clear hE3 HCM HDV
    go_wp2_with fail
    refine HD3.out.mono ?_
    rintro e w4 ⟨q1, m1, q2, m2, rfl, h4, h5, hE4⟩
    have HL4 := Lib.hid h4.out
    have HL5 := Lib.hid h5.out
    have HE4 := Lib.hid (Ext.trans HE3.out hE4)
    have HX4 := text_any m1 q1 w4 HL4.out.1.at HL4.out.2.1 (by have := HL4.out.2.2.2; omega)
    rw [HL4.out.2.2.1] at HX4
    have HX4 := Lib.hid HX4
    have HX5 : Hid (∀ W, Ext w4 W → Calls Tryz.prog 122 #[q2] W fun e w' => e = .returned (.string (numB (u % v))) ∧ Ext W w') := fun W hW => by
      have := text_any m2 q2 W (PcsAt.ext HL5.out.1.at hW) HL5.out.2.1 (by have := HL5.out.2.2.2; omega)
      rw [HL5.out.2.2.1] at this
      exact this
    clear h4 h5 hE4 HD3
    go_wp2_with fail
    refine HX4.out.mono ?_
    rintro e w5 ⟨rfl, hE5⟩
    have HE5 := Lib.hid (Ext.trans HE4.out hE5)
    have HX55 := Lib.hid (HX5.out _ hE5)
    clear hE5 HX4 HX5
    go_wp2_with fail
    refine HX55.out.mono ?_
    rintro e w6 ⟨rfl, hE6⟩
    have HE6 := Lib.hid (Ext.trans HE5.out hE6)
    clear hE6 HX55
    go_wp2_with fail
    go_ret3
    exact ⟨rfl, HE6.out⟩


set_option maxRecDepth 100000 in
set_option maxHeartbeats 4000000 in
theorem decDivMod_any (u v : Nat) (w : World) (hu : (numB u).size ≤ 30000) (hv : (numB v).size ≤ 30000) (hv0 : v ≠ 0) (ht : Pow10 w) :
    Calls Tryz.prog 138 #[.string (numB u), .string (numB v)] w fun e w' => e = .returned (.tuple #[.string (numB (u / v)), .string (numB (u % v)), .int .i64 0]) ∧ Ext w w' := by
  have HT := Lib.hid ht
  have hz := num_zero v
  rw [decide_eq_false hv0] at hz
  clear ht
  by_cases hs : (numB u).size ≤ 18 ∧ (numB v).size ≤ 18
  · have HB := Lib.hid (both_yes u v w hs.1 hs.2)
    have h1 := num_small hs.1
    have h2 := num_small hs.2
    obtain ⟨q, hq⟩ : ∃ q, u / v = q := ⟨_, rfl⟩
    obtain ⟨r, hr⟩ : ∃ r, u % v = r := ⟨_, rfl⟩
    have hqb : q ≤ u := by rw [← hq]; exact Nat.div_le_self _ _
    have hrb : r < v := by rw [← hr]; exact Nat.mod_lt _ (by omega)
    have hqi : (u : Int) / (v : Int) = (q : Int) := by rw [← hq]; exact (Int.natCast_ediv _ _).symm
    have hri : (u : Int) % (v : Int) = (r : Int) := by rw [← hr]; exact (Int.natCast_emod _ _).symm
    have hvz : ((v : Int) == 0) = false := by rw [beq_eq_false_iff_ne]; omega
    have hvz2 : ¬ (v : Int) = 0 := by omega
    have HO : Hid (∀ x : Nat, x < 18446744073709551616 → ∀ W, Ext w W → Calls Tryz.prog 119 #[.int .u64 x] W fun e w' => e = .returned (.string (numB x)) ∧ Ext W w') := fun x hx W hW => decOf_any x W hx (HT.out.ext hW)
    have hqw : IntKind.u64.wrap (q : Int) = (q : Int) := IntWalk.u64_in _ (by omega)
    have hrw : IntKind.u64.wrap (r : Int) = (r : Int) := IntWalk.u64_in _ (by omega)
    have hqt : (u : Int).tdiv (v : Int) = (q : Int) := by rw [Int.tdiv_eq_ediv_of_nonneg (by omega), hqi]
    have hrt : (u : Int).tmod (v : Int) = (r : Int) := by rw [Int.tmod_eq_emod_of_nonneg (by omega), hri]
    rw [hq, hr]
    have HQB : Hid (q < 18446744073709551616 ∧ r < 18446744073709551616) := by unfold Hid; omega
    clear hq hr
    go_enter Tryz.func138, Tryz.ntmps138
    go_wp2_with fail
    refine HB.out.mono ?_
    rintro e w1 ⟨rfl, hE1⟩
    have HE1 := Lib.hid hE1
    clear hE1 HB
    go_wp2_with fail
    have HOQ : Hid (∀ W, Ext w W → Calls Tryz.prog 119 #[.int .u64 q] W fun e w' => e = .returned (.string (numB q)) ∧ Ext W w') := HO.out q HQB.out.1
    have HOR : Hid (∀ W, Ext w W → Calls Tryz.prog 119 #[.int .u64 r] W fun e w' => e = .returned (.string (numB r)) ∧ Ext W w') := HO.out r HQB.out.2
    have HE : Hid (Ext w w1.drew) := Ext.trans HE1.out (Ext.drew _)
    go_region_with (first
      | (go_at_call 119; with_reducible refine (HOQ.out _ HE.out).mono ?_; rintro e w5 ⟨rfl, hE5⟩; have HE2 := HE; clear HE; have HE := Lib.hid (Ext.trans HE2.out hE5); clear hE5 HE2)
      | (go_at_call 119; with_reducible refine (HOR.out _ HE.out).mono ?_; rintro e w5 ⟨rfl, hE5⟩; have HE2 := HE; clear HE; have HE := Lib.hid (Ext.trans HE2.out hE5); clear hE5 HE2))
    all_goals
      go_wp2_with fail
      go_ret3
      exact ⟨rfl, HE.out⟩
  · by_cases hlt : u < v
    · have hN0 : numB 0 = ⟨#[48]⟩ := by unfold numB; rw [Lib.decDigits_one (by omega)]; rfl
      refine (decDivMod_lt u v w hu hv hv0 HT.out hs hlt).mono fun e w' ⟨h, hE⟩ => ⟨?_, hE⟩
      rw [h, Nat.div_eq_of_lt hlt, Nat.mod_eq_of_lt hlt, hN0]
    · exact decDivMod_ge u v w hu hv hv0 HT.out hs hlt

set_option maxRecDepth 100000 in
set_option maxHeartbeats 2000000 in
theorem decGcd_any (u v : Nat) (w : World) (hu : (numB u).size ≤ 30000) (hv : (numB v).size ≤ 30000) (ht : Pow10 w) :
    Calls Tryz.prog 137 #[.string (numB u), .string (numB v)] w fun e w' => e = .returned (.string (numB (Nat.gcd u v))) ∧ Ext w w' := by
  have HT := Lib.hid ht
  have HU := Lib.hid hu; have HV := Lib.hid hv
  clear ht hu hv
  go_enter Tryz.func137, Tryz.ntmps137
  go_wp2_with fail
  go_loopw [0, 1] (fun a b wr => ∃ x y : Nat, a = .string (numB x) ∧ b = .string (numB y) ∧ Hid (Nat.gcd x y = Nat.gcd u v) ∧ Hid ((numB x).size ≤ 30000) ∧ Hid ((numB y).size ≤ 30000) ∧ Hid (Ext w wr)) (fun _ b _ => match b with | .string s => decV 0 s.data.toList | _ => 0)
  case atStart => exact ⟨u, v, rfl, rfl, rfl, HU.out, HV.out, Ext.refl _⟩
  case round =>
    obtain ⟨x, y, rfl, rfl, HG, HX, HY, HE⟩ := hrel
    obtain ⟨wo, rfl⟩ : ∃ wo : World, wo = wr := ⟨_, rfl⟩
    have hz := num_zero y
    by_cases hy : y = 0
    · rw [decide_eq_true hy] at hz
      have HF : Hid (x = Nat.gcd u v) := by unfold Hid; rw [← HG.out, hy, Nat.gcd_zero_right]
      clear hy
      go_wp2_with fail
      go_ret
      exact ⟨by rw [← HF.out]; rfl, HE.out⟩
    · rw [decide_eq_false hy] at hz
      have HD := Lib.hid (decDivMod_any x y wo HX.out HY.out hy (HT.out.ext HE.out))
      have HG2 : Hid (Nat.gcd y (x % y) = Nat.gcd u v) := by
        unfold Hid; rw [← HG.out, Nat.gcd_comm y (x % y), ← Nat.gcd_rec, Nat.gcd_comm]
      have HY2 : Hid ((numB (x % y)).size ≤ 30000) := Nat.le_trans (num_le_mono (Nat.le_of_lt (Nat.mod_lt _ (by omega)))) HY.out
      have HLT : Hid (x % y < y) := Nat.mod_lt _ (by omega)
      have HDV : Hid (∀ n, decV 0 (numB n).data.toList = n) := fun n => by rw [numB_data, digits_val]
      clear hy
      go_wp2_with fail
      refine HD.out.mono ?_
      rintro e w1 ⟨rfl, hE1⟩
      have HE1 := Lib.hid (Ext.trans HE.out hE1)
      clear hE1 HD
      go_wp2_with fail
      go_roundw
      case rel => exact ⟨y, x % y, rfl, rfl, HG2.out, HY.out, HY2.out, HE1.out⟩
      case measure => simp only [HDV.out]; exact HLT.out
end Go.Proofs.YtpeinobepiodaaaGreatDoor
