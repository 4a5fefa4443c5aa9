/- Merged: MakesW, LawPost. -/
import Derived.Test.YtielnneclcekbaaGreatDoorQAU
import Derived.Test.YtielnneclcekbaaGreatDoorQBT
import Derived.Test.YtielnneclcekbaaGreatDoorQBJ
import Derived.Test.YtielnneclcekbaaGreatDoorQAZ
import Derived.Test.YtielnneclcekbaaGreatDoorQBK
import Derived.Test.YtielnneclcekbaaGreatDoorRows
import Derived.WalkKit
import Derived.ProofKit
import Derived.OpenShut
/- The walk of LatticeMakes. -/
namespace Go.Proofs.YtielnneclcekbaaGreatDoor
set_option linter.unusedVariables false
set_option linter.unusedSimpArgs false
open Go.RowKit

theorem SpEq.symm' {n : Nat} {S T : List Int → Prop} (h : SpEq n S T) : SpEq n T S := ⟨h.2, h.1⟩
theorem zn9 {n : Nat} (hn : n ≤ 4) : Zn 9 (n - 1) ≤ 4000000000000000000 := by
  have hc : n - 1 = 0 ∨ n - 1 = 1 ∨ n - 1 = 2 ∨ n - 1 = 3 := by omega
  rcases hc with h | h | h | h <;> rw [h] <;> decide
theorem fac9 {n : Nat} (hn : n ≤ 4) : ∀ k, k ≤ n → k * facN 9 k ≤ 9223372036854775807 := by
  intro k hk
  have hc : k = 0 ∨ k = 1 ∨ k = 2 ∨ k = 3 ∨ k = 4 := by omega
  rcases hc with h | h | h | h | h <;> rw [h] <;> decide

set_option maxRecDepth 100000 in
set_option maxHeartbeats 40000000 in
theorem makes_walk (k : Int) (xss : List (List Int)) (v : Value) (w : World) (hk : -9223372036854775808 ≤ k ∧ k ≤ 9223372036854775807) (h : Rows2 w v xss) (hlib : LibT w) (hb : 2 < w.heap.size) :
    Calls Tryz.prog 3 #[.int .i64 k, v] w fun e w' => e = .returned (.bool true) ∧ Ext w w' := by
  have HKN := Lib.hid (fun W (hW : Ext w W) => known9_any W (hlib.ext hW) (Nat.lt_of_lt_of_le hb hW.size))
  have HSH := Lib.hid (fun W (hW : Ext w W) => short9_any xss v W (h.ext hW))
  have HCR := Lib.hid (fun W (hW : Ext w W) => checkRows9_any xss k v W (h.ext hW))
  have HGR := Lib.hid (fun W (hW : Ext w W) => great9_any xss v W (h.ext hW))
  have HLIB : Hid (∀ W, Ext w W → LibT W ∧ 2 < W.heap.size) := fun W hW => ⟨hlib.ext hW, Nat.lt_of_lt_of_le hb hW.size⟩
  have HH := Lib.hid h
  obtain ⟨a, c, rfl, h1, h2, -, -⟩ := inCell.open h
  unfold maxLen at h2
  clear h hlib hb
  obtain ⟨SB, hSB⟩ : ∃ b, shortB xss = b := ⟨_, rfl⟩
  rw [hSB] at HSH
  go_enter Tryz.func3, Tryz.ntmps3
  go_wp2_with fail
  refine (HKN.out _ (Ext.refl w)).mono ?_
  rintro e w1 ⟨rfl, hE1⟩
  have HE1 := Lib.hid hE1
  clear hE1
  go_wp2_with fail
  refine (HSH.out _ HE1.out).mono ?_
  rintro e w2 ⟨rfl, hE2⟩
  have HE2 := Lib.hid (HE1.out.trans hE2)
  clear hE2 HE1 HSH
  cases SB with
  | false =>
    go_wp2_with fail
    refine (HKN.out _ HE2.out).mono ?_
    rintro e w3 ⟨rfl, hE3⟩
    have HE3 := Lib.hid (HE2.out.trans hE3)
    clear hE3 HKN
    go_wp2_with fail
    go_ret
    exact ⟨rfl, HE3.out⟩
  | true =>
  clear hSB HKN
  by_cases hE : latE k xss = 0
  · have hr := latE_rows hE
    obtain ⟨n, rfl⟩ : ∃ n : Nat, k = (n : Int) := ⟨k.toNat, by omega⟩
    have hn12 : n ≤ 12 := by omega
    obtain ⟨F, R, ps, f1, f2, f3, f4, f5⟩ := rows_form n xss hn12 hr.2.2.1 (fun x hx => by have := (hr.2.2.2 x hx).2; omega) (fun x hx y hy => by have := (hr.2.2.2 x hx).1.2 y hy; omega)
    have HHF := Lib.hid f2; have HSP := Lib.hid f5; have HRL := Lib.hid f3; have HRW := Lib.hid f4; have HRO := Lib.hid hr; have HLE := Lib.hid hE
    have HOF := Lib.hid (fun W (hW : Ext w W) => of_any' n F xss R (.slice a xss.length c) W (HH.out.ext hW) hE f1 (fun r hr' => (f4 r hr').1) (fun r hr' => by have := (f4 r hr').2; omega) (by omega) (HLIB.out W hW).1 (HLIB.out W hW).2)
    rw [hE] at HCR
    clear f1 f2 f3 f4 f5 hr hE hk
    go_wp2_with fail
    refine (HOF.out _ HE2.out).mono ?_
    rintro e w3 he
    unfold LsR at he
    obtain ⟨he1, hE3⟩ := he
    have HE3 := Lib.hid (HE2.out.trans hE3)
    clear HOF hE3
    by_cases hfit : (R.all fun r => r.all fit9B) = true
    · rw [if_pos hfit] at he1
      obtain ⟨u, rfl, hu⟩ := he1
      have hu := hu.now
      obtain ⟨a1, cp1, rfl, -⟩ := ListAt.open hu
      have HU3 := Lib.hid hu
      have HFIT : Hid (∀ r ∈ R, r.length = n ∧ RowLe 1000000000 r) := fun r hr => ⟨(HRW.out r hr).2, fun x hx => by
        have h1 := List.all_eq_true.1 (List.all_eq_true.1 hfit r hr) x hx
        unfold fit9B at h1; simp at h1; omega⟩
      have HCHK : Hid (chkE n R = 0) := by
        unfold Hid chkE
        have hl : latE n R = 0 := by
          unfold latE
          have := HRL.out
          rw [if_neg (by omega), if_neg (by omega)]
          exact allE_of fun r hr => ⟨okRow_of (by have := (HFIT.out r hr).1; omega) (HFIT.out r hr).2, (HFIT.out r hr).1⟩
        rw [if_pos hl, if_pos (hform_herm HHF.out)]
      clear hu hfit
      obtain ⟨V1, hV1, hX1, hs1, hb1⟩ := lat_new w3 (.int .i64 0) (.slice none 0 0)
      obtain ⟨r0, r1, rf⟩ := lat_block hb1
      have f0 := rf 0; have f1 := rf 1
      have HB1 := Lib.hid (lat_store hb1 (.int .i64 n) (.slice a1 R.length cp1))
      have HXU := Lib.hid (ext_lat hX1 (Nat.le_refl _) (.int .i64 n) (.slice a1 R.length cp1))
      clear hX1 hs1 hb1 rf
      obtain ⟨U1, hU1⟩ : ∃ U1, (V1.setCell ⟨w3.heap.size, 0, none⟩ (.int .i64 n)).setCell ⟨w3.heap.size, 1, none⟩ (.slice a1 R.length cp1) = U1 := ⟨_, rfl⟩
      rw [hU1] at HB1 HXU
      have HEU := Lib.hid (HE3.out.trans HXU.out)
      have HRU := Lib.hid (HU3.out.ext HXU.out)
      go_wp2_with fail
      clear hU1 hV1 r0 r1 f0 f1 HE3 HU3 HXU
      refine (HCR.out _ HEU.out).mono ?_
      rintro e w4 ⟨rfl, hE4⟩
      have HE4 := Lib.hid (HEU.out.trans hE4)
      have HB4 := Lib.hid (block_ext HB1.out hE4)
      have HLR0 := Lib.hid (HRU.out.ext hE4)
      clear hE4 HEU HRU HB1
      go_wp2_with fail
      refine (HGR.out _ HE4.out).mono ?_
      rintro e w5 ⟨rfl, hE5⟩
      have HE5 := Lib.hid (HE4.out.trans hE5)
      have HB5 := Lib.hid (block_ext HB4.out hE5)
      have HLR := Lib.hid (HLR0.out.ext hE5)
      clear hE5 HE4 HB4 HLR0
      obtain ⟨c0, c1, -⟩ := lat_block HB5.out
      by_cases hG : greatB xss = false ∧ n ≤ 4 ∧ xss.length ≤ 4
      · obtain ⟨g1, g2, g3⟩ := hG
        have HHE : Hid (∀ W, Ext w5 W → _) := fun W (hW : Ext w5 W) => hermite9_any n 9 xss (.slice a xss.length c) W (HH.out.ext (HE5.out.trans hW)) (fun x hx => by have := (HRO.out.2.2.2 x hx).2; omega) (by omega) (by omega) (by decide) (by decide) (greatB_false g1) (zn9 g2) (fac9 g2)
        rw [g1]
        have n4 : ¬ (4 : Int) < (n : Int) := by omega
        have m4 : ¬ (4 : Int) < (xss.length : Int) := by omega
        clear g1
        go_upto_region 9 with fail
        --<R9
        refine region_anyEV (fun w' => w'.cell? ⟨w3.heap.size, 0, none⟩ = some (.int .i64 (n : Int)) ∧ w'.cell? ⟨w3.heap.size, 1, none⟩ = some (.slice a1 R.length cp1) ∧ Hid (Ext w5 w')) 17 17 (by kernel_rfl) (by kernel_rfl) ⟨(Ext.drew w5).cell c0, (Ext.drew w5).cell c1, Ext.drew w5⟩ (fun ops hO hHeld => ?_)
        generalize w5.drew = wd at hHeld ⊢
        have hi := getopN hO 0 (by decide)
        conv at hi => rhs; arg 1; whnf
        refine anyE_takeWV hO (v := ?_) 0 hi (by kernel_rfl) (by kernel_rfl) (by kernel_rfl) (by kernel_rfl) (fun _ _ _ h => h) (Or.inl ⟨by rfl, ?_⟩) (by assumption) ?_
        rotate_left
        · ((intro w'); (try go_simp); (try with_reducible rfl))
        clear hi
        (try simp only [Act.put, List.setIfInBounds_toArray, List.set_cons_zero, List.set_cons_succ])
        have hi := getopN hO 1 (by decide)
        conv at hi => rhs; arg 1; whnf
        refine anyE_takeWV hO (v := ?_) 1 hi (by kernel_rfl) (by kernel_rfl) (by kernel_rfl) (by kernel_rfl) (fun _ _ _ h => h) (Or.inl ⟨by rfl, ?_⟩) (by assumption) ?_
        rotate_left
        · ((intro w'); (try go_simp); (try with_reducible rfl))
        clear hi
        (try simp only [Act.put, List.setIfInBounds_toArray, List.set_cons_zero, List.set_cons_succ])
        have hi := getopN hO 2 (by decide)
        conv at hi => rhs; arg 1; whnf
        refine anyE_takeWV hO (v := ?_) 2 hi (by kernel_rfl) (by kernel_rfl) (by kernel_rfl) (by kernel_rfl) (fun _ _ _ h => h) (Or.inl ⟨by rfl, ?_⟩) (by assumption) ?_
        rotate_left
        · ((intro w'); (try go_simp); (try with_reducible rfl))
        clear hi
        (try simp only [Act.put, List.setIfInBounds_toArray, List.set_cons_zero, List.set_cons_succ])
        have hi := getopN hO 3 (by decide)
        conv at hi => rhs; arg 1; whnf
        refine anyE_takeWV hO (v := ?_) 3 hi (by kernel_rfl) (by kernel_rfl) (by kernel_rfl) (by kernel_rfl) (fun _ _ _ h => h) (Or.inl ⟨by rfl, ?_⟩) (by assumption) ?_
        rotate_left
        · ((intro w'); (try go_simp); (try with_reducible rfl))
        clear hi
        (try simp only [Act.put, List.setIfInBounds_toArray, List.set_cons_zero, List.set_cons_succ])
        have hi := getopN hO 4 (by decide)
        conv at hi => rhs; arg 1; whnf
        refine anyE_takeV hO (v := ?_) 4 hi (by kernel_rfl) (by kernel_rfl) (by kernel_rfl) (by kernel_rfl) (fun _ _ _ h => h) (Or.inl ⟨by rfl, ?_⟩) (by assumption) ?_
        rotate_left
        · ((intro w' hSw); (try dsimp only at hSw); (try go_simp); (try with_reducible rfl))
        clear hi
        (try simp only [Act.put, List.setIfInBounds_toArray, List.set_cons_zero, List.set_cons_succ])
        have hi := getopN hO 5 (by decide)
        conv at hi => rhs; arg 1; whnf
        refine anyE_takeWV hO (v := ?_) 5 hi (by kernel_rfl) (by kernel_rfl) (by kernel_rfl) (by kernel_rfl) (fun _ _ _ h => h) (Or.inl ⟨by rfl, ?_⟩) (by assumption) ?_
        rotate_left
        · ((intro w'); (try go_simp); (try with_reducible rfl))
        clear hi
        (try simp only [Act.put, List.setIfInBounds_toArray, List.set_cons_zero, List.set_cons_succ])
        have hi := getopN hO 6 (by decide)
        conv at hi => rhs; arg 1; whnf
        refine anyE_takeWV hO (v := ?_) 6 hi (by kernel_rfl) (by kernel_rfl) (by kernel_rfl) (by kernel_rfl) (fun _ _ _ h => h) (Or.inl ⟨by rfl, ?_⟩) (by assumption) ?_
        rotate_left
        · ((intro w'); (try go_simp); (try with_reducible rfl))
        clear hi
        (try simp only [Act.put, List.setIfInBounds_toArray, List.set_cons_zero, List.set_cons_succ])
        have hi := getopN hO 7 (by decide)
        conv at hi => rhs; arg 1; whnf
        refine anyE_takeWV hO (v := ?_) 7 hi (by kernel_rfl) (by kernel_rfl) (by kernel_rfl) (by kernel_rfl) (fun _ _ _ h => h) (Or.inl ⟨by rfl, ?_⟩) (by assumption) ?_
        rotate_left
        · ((intro w'); (try go_simp); (try with_reducible rfl))
        clear hi
        (try simp only [Act.put, List.setIfInBounds_toArray, List.set_cons_zero, List.set_cons_succ])
        have hi := getopN hO 8 (by decide)
        conv at hi => rhs; arg 1; whnf
        refine anyE_takeWV hO (v := ?_) 8 hi (by kernel_rfl) (by kernel_rfl) (by kernel_rfl) (by kernel_rfl) (fun _ _ _ h => h) (Or.inl ⟨by rfl, ?_⟩) (by assumption) ?_
        rotate_left
        · ((intro w'); (try go_simp); (try with_reducible rfl))
        clear hi
        (try simp only [Act.put, List.setIfInBounds_toArray, List.set_cons_zero, List.set_cons_succ])
        have hi := getopN hO 9 (by decide)
        conv at hi => rhs; arg 1; whnf
        refine anyE_takeWV hO (v := ?_) 9 hi (by kernel_rfl) (by kernel_rfl) (by kernel_rfl) (by kernel_rfl) (fun _ _ _ h => h) (Or.inl ⟨by rfl, ?_⟩) (by assumption) ?_
        rotate_left
        · ((intro w'); (try go_simp); (try with_reducible rfl))
        clear hi
        (try simp only [Act.put, List.setIfInBounds_toArray, List.set_cons_zero, List.set_cons_succ])
        have hi := getopN hO 10 (by decide)
        conv at hi => rhs; arg 1; whnf
        refine anyE_takeV hO (v := ?_) 10 hi (by kernel_rfl) (by kernel_rfl) (by kernel_rfl) (by kernel_rfl) (fun _ _ _ h => h) (Or.inl ⟨by rfl, ?_⟩) (by assumption) ?_
        rotate_left
        · ((intro w' hSw); (try dsimp only at hSw); (try go_simp); (try with_reducible rfl))
        clear hi
        (try simp only [Act.put, List.setIfInBounds_toArray, List.set_cons_zero, List.set_cons_succ])
        have hi := getopN hO 11 (by decide)
        conv at hi => rhs; arg 1; whnf
        refine anyE_takeWV hO (v := ?_) 11 hi (by kernel_rfl) (by kernel_rfl) (by kernel_rfl) (by kernel_rfl) (fun _ _ _ h => h) (Or.inl ⟨by rfl, ?_⟩) (by assumption) ?_
        rotate_left
        · ((intro w'); (try go_simp); (try with_reducible rfl))
        clear hi
        (try simp only [Act.put, List.setIfInBounds_toArray, List.set_cons_zero, List.set_cons_succ])
        have hi := getopN hO 12 (by decide)
        conv at hi => rhs; arg 1; whnf
        refine anyE_takeWV hO (v := ?_) 12 hi (by kernel_rfl) (by kernel_rfl) (by kernel_rfl) (by kernel_rfl) (fun _ _ _ h => h) (Or.inl ⟨by rfl, ?_⟩) (by assumption) ?_
        rotate_left
        · ((intro w'); (try go_simp); (try with_reducible rfl))
        clear hi
        (try simp only [Act.put, List.setIfInBounds_toArray, List.set_cons_zero, List.set_cons_succ])
        have hi := getopN hO 13 (by decide)
        conv at hi => rhs; arg 1; whnf
        refine anyE_stepV hO 13 (by kernel_rfl) hi (fun K hK => ?_)
        go_simp
        (go_at_call 18; refine (HHE.out _ hHeld.2.2.out).mono ?_)
        rintro e w6 ⟨u9, R9, ps9, rfl, hH9, hS9, hR9, hEz⟩
        go_wp2_with fail
        refine hK.out _ _ ⟨(hEz).cell hHeld.1, (hEz).cell hHeld.2.1, Ext.trans hHeld.2.2.out (hEz)⟩ (fun hHeld => ?_)
        clear hK K hi
        (try simp only [Act.put, List.setIfInBounds_toArray, List.set_cons_zero, List.set_cons_succ])
        have HRR : Hid (R9 = R) := hform_unique hH9 HHF.out ((SpEq.symm' hS9).trans HSP.out)
        have HR9 := Lib.hid hR9
        clear hH9 hS9 hR9 hEz
        have hi := getopN hO 14 (by decide)
        conv at hi => rhs; arg 1; whnf
        refine anyE_stepV hO 14 (by kernel_rfl) hi (fun K hK => ?_)
        go_simp
        (go_at_call 17; refine (rEq9_any _ _ _ _ _ (HLR.out.ext hHeld.2.2.out) HR9.out).mono ?_)
        rintro e w7 ⟨rfl, hEz⟩
        have HEZ := Lib.hid hEz
        go_wp2_with fail
        refine hK.out _ _ ⟨(hEz).cell hHeld.1, (hEz).cell hHeld.2.1, Ext.trans hHeld.2.2.out (hEz)⟩ (fun hHeld => ?_)
        clear hK K hi
        (try simp only [Act.put, List.setIfInBounds_toArray, List.set_cons_zero, List.set_cons_succ])
        have HQ : Hid ((R == R9) = true) := by unfold Hid; rw [HRR.out]; simp
        rw [HQ.out]
        have hi := getopN hO 15 (by decide)
        conv at hi => rhs; arg 1; whnf
        refine anyE_takeWV hO (v := ?_) 15 hi (by kernel_rfl) (by kernel_rfl) (by kernel_rfl) (by kernel_rfl) (fun _ _ _ h => h) (Or.inl ⟨by rfl, ?_⟩) (by assumption) ?_
        rotate_left
        · ((intro w'); (try go_simp); (try with_reducible rfl))
        clear hi
        (try simp only [Act.put, List.setIfInBounds_toArray, List.set_cons_zero, List.set_cons_succ])
        have hi := getopN hO 16 (by decide)
        conv at hi => rhs; arg 1; whnf
        refine anyE_lastV hO 16 (by kernel_rfl) (by kernel_rfl) hi (fun K hK => ?_)
        go_simp
        refine hK.out _ _ (by assumption) ?_
        clear hK K hi hO
        (try simp only [Act.put, List.setIfInBounds_toArray, List.set_cons_zero, List.set_cons_succ])
        -->R9
        go_wp2_with fail
        go_ret
        exact ⟨rfl, HE5.out.trans hHeld.2.2.out⟩
      · have HCK := Lib.hid (latChk_any n R (.agg #[.int .i64 n, .slice a1 R.length cp1]) w5 ⟨_, rfl, HLR.out⟩)
        rw [HCHK.out] at HCK
        obtain ⟨GB, hGB⟩ : ∃ b, greatB xss = b := ⟨_, rfl⟩
        rw [hGB] at hG ⊢
        have hcase : GB = true ∨ GB = false ∧ (4 : Int) < (n : Int) ∨ GB = false ∧ ¬ (4 : Int) < (n : Int) ∧ (4 : Int) < (xss.length : Int) := by
          cases GB with
          | true => exact .inl rfl
          | false =>
            by_cases hn4 : n ≤ 4
            · exact .inr (.inr ⟨rfl, by omega, by
                have : ¬ xss.length ≤ 4 := fun hm => hG ⟨rfl, hn4, hm⟩
                omega⟩)
            · exact .inr (.inl ⟨rfl, by omega⟩)
        clear hG hGB
        rcases hcase with rfl | ⟨rfl, n4⟩ | ⟨rfl, n4, m4⟩
        all_goals
          go_wp2_with fail
          refine HCK.out.mono ?_
          rintro e w6 ⟨rfl, hE6⟩
          have HE6 := Lib.hid (HE5.out.trans hE6)
          clear hE6
          go_wp2_with fail
          go_ret
          exact ⟨rfl, HE6.out⟩
    · rw [if_neg hfit] at he1
      subst he1
      have HNF := Lib.hid hfit
      clear hfit
      obtain ⟨V1, hV1, hX1, hs1, hb1⟩ := lat_new w3 (.int .i64 0) (.slice none 0 0)
      obtain ⟨r0, r1, rf⟩ := lat_block hb1
      have f0 := rf 0; have f1 := rf 1
      have HB1 := Lib.hid (lat_store hb1 (.int .i64 0) (.slice none 0 0))
      have HXU := Lib.hid (ext_lat hX1 (Nat.le_refl _) (.int .i64 0) (.slice none 0 0))
      clear hX1 hs1 hb1 rf
      obtain ⟨U1, hU1⟩ : ∃ U1, (V1.setCell ⟨w3.heap.size, 0, none⟩ (.int .i64 0)).setCell ⟨w3.heap.size, 1, none⟩ (.slice none 0 0) = U1 := ⟨_, rfl⟩
      rw [hU1] at HB1 HXU
      have HEU := Lib.hid (HE3.out.trans HXU.out)
      go_wp2_with fail
      clear hU1 hV1 r0 r1 f0 f1 HE3 HXU
      refine (HCR.out _ HEU.out).mono ?_
      rintro e w4 ⟨rfl, hE4⟩
      have HE4 := Lib.hid (HEU.out.trans hE4)
      have HB4 := Lib.hid (block_ext HB1.out hE4)
      clear hE4 HEU HB1
      go_wp2_with fail
      refine (HGR.out _ HE4.out).mono ?_
      rintro e w5 ⟨rfl, hE5⟩
      have HE5 := Lib.hid (HE4.out.trans hE5)
      have HB5 := Lib.hid (block_ext HB4.out hE5)
      clear hE5 HE4 HB4
      obtain ⟨c0, c1, -⟩ := lat_block HB5.out
      have hG : ¬ (greatB xss = false ∧ n ≤ 4 ∧ xss.length ≤ 4) := by
        rintro ⟨g1, g2, g3⟩
        obtain ⟨F2, R2, ps2, k1, k2, k3, k4, k5, -⟩ := plan_form n xss hn12 g3 (fun x hx => by have := (HRO.out.2.2.2 x hx).2; omega) (greatB_false g1)
        have hRR : R2 = R := hform_unique k2 HHF.out (SpEq.symm' k5 |>.trans HSP.out)
        refine HNF.out ?_
        rw [List.all_eq_true]; intro r hr; rw [List.all_eq_true]; intro x hx
        have := (k4 r (by rw [hRR]; exact hr)).1 x hx
        unfold fit9B; simp; omega
      have HNO := Lib.hid (none9_any 0 [] (.agg #[.int .i64 0, .slice none 0 0]) w5 ⟨_, rfl, rows2_nil w5⟩)
      have HNB : Hid (noneB 0 [] = true) := rfl
      rw [HNB.out] at HNO
      obtain ⟨GB, hGB⟩ : ∃ b, greatB xss = b := ⟨_, rfl⟩
      rw [hGB] at hG ⊢
      have hcase : GB = true ∨ GB = false ∧ (4 : Int) < (n : Int) ∨ GB = false ∧ ¬ (4 : Int) < (n : Int) ∧ (4 : Int) < (xss.length : Int) := by
        cases GB with
        | true => exact .inl rfl
        | false =>
          by_cases hn4 : n ≤ 4
          · exact .inr (.inr ⟨rfl, by omega, by
              have : ¬ xss.length ≤ 4 := fun hm => hG ⟨rfl, hn4, hm⟩
              omega⟩)
          · exact .inr (.inl ⟨rfl, by omega⟩)
      clear hG hGB HNF
      rcases hcase with rfl | ⟨rfl, n4⟩ | ⟨rfl, n4, m4⟩
      all_goals
        go_wp2_with fail
        refine HNO.out.mono ?_
        rintro e w6 ⟨rfl, hE6⟩
        have HE6 := Lib.hid (HE5.out.trans hE6)
        clear hE6
        go_wp2_with fail
        go_ret
        exact ⟨rfl, HE6.out⟩
  · have HOB := Lib.hid (fun W (hW : Ext w W) => of_bad k xss (.slice a xss.length c) W (HH.out.ext hW) hE)
    obtain ⟨E, hEE⟩ : ∃ E, latE k xss = E := ⟨_, rfl⟩
    rw [hEE] at HOB HCR hE
    go_wp2_with fail
    refine (HOB.out _ HE2.out).mono ?_
    rintro e w3 ⟨rfl, hE3⟩
    have HE3 := Lib.hid (HE2.out.trans hE3)
    clear hE3 HOB
    obtain ⟨V1, hV1, hX1, hs1, hb1⟩ := lat_new w3 (.int .i64 0) (.slice none 0 0)
    obtain ⟨r0, r1, rf⟩ := lat_block hb1
    have f0 := rf 0; have f1 := rf 1
    have HB1 := Lib.hid (lat_store hb1 (.int .i64 0) (.slice none 0 0))
    have HXU := Lib.hid (ext_lat hX1 (Nat.le_refl _) (.int .i64 0) (.slice none 0 0))
    clear hX1 hs1 hb1 rf
    obtain ⟨U1, hU1⟩ : ∃ U1, (V1.setCell ⟨w3.heap.size, 0, none⟩ (.int .i64 0)).setCell ⟨w3.heap.size, 1, none⟩ (.slice none 0 0) = U1 := ⟨_, rfl⟩
    rw [hU1] at HB1 HXU
    have HEU := Lib.hid (HE3.out.trans HXU.out)
    go_wp2_with fail
    clear hU1 hV1 r0 r1 f0 f1 HE3 HXU
    refine (HCR.out _ HEU.out).mono ?_
    rintro e w4 ⟨rfl, hE4⟩
    have HE4 := Lib.hid (HEU.out.trans hE4)
    have HB4 := Lib.hid (block_ext HB1.out hE4)
    obtain ⟨l0, l1, -⟩ := lat_block HB4.out
    clear hE4 HEU HB1
    go_wp2_with fail
    refine (none9_any 0 [] _ w4 ⟨_, rfl, rows2_nil w4⟩).mono ?_
    rintro e w5 ⟨rfl, hE5⟩
    have HE5 := Lib.hid (HE4.out.trans hE5)
    clear hE5
    have HNB : Hid (noneB 0 [] = true) := rfl
    rw [HNB.out]
    go_wp2_with fail
    go_ret
    exact ⟨rfl, HE5.out⟩
end Go.Proofs.YtielnneclcekbaaGreatDoor
/- What a statement's row asks of the end of a call, out of: it returned true, and all that lay in memory lies unturned. -/
namespace Go.Proofs.YtielnneclcekbaaGreatDoor
set_option linter.unusedVariables false
set_option linter.unusedSimpArgs false
open Go.ChangeShapes Go.WideShapes Go.ChangeAt Go.RowKit

theorem lawOwn : ownKnob Tryz.prog.godebug = none := by kernel_rfl
theorem lawLaid : laidOutB Tryz.prog = true := by kernel_rfl

theorem trodAll_below {H : Type} {enc : TypeId × Value → H} {P : Program} (hl : laidOutB P = true) {W W' : World} (hb : Below W.heap.size W W') :
    ∀ (ts : List TypeId) (vs : List Value) (ds : List (DataW H)) (ps : List MemPlace), (∀ t ∈ ts, P.readableRec t = true ∧ t < P.types.size) →
      DataW.TrodAll enc P W 0 (fun _ => true) true ts vs ds ps → (∀ x ∈ ps, x.block < W.heap.size) → DataW.TrodAll enc P W' 0 (fun b => decide (b < W.heap.size)) true ts vs ds ps
  | [], [], [], ps, _, h, _ => h
  | t :: ts, v :: vs, d :: ds, ps, hr, h, hlt => by
    obtain ⟨p, p', h1, h2, rfl⟩ := h
    exact ⟨p, p', Below.trod hl (hr t (by simp)).1 (hr t (by simp)).2 h1 hb (fun x hx => hlt x (by simp [hx])), trodAll_below hl hb ts vs ds p' (fun t ht => hr t (by simp [ht])) h2 (fun x hx => hlt x (by simp [hx])), rfl⟩
  | [], v :: vs, _, _, _, h, _ => absurd h (by simp [DataW.TrodAll])
  | [], [], d :: ds, _, _, h, _ => absurd h (by simp [DataW.TrodAll])
  | t :: ts, [], _, _, _, h, _ => absurd h (by simp [DataW.TrodAll])
  | t :: ts, v :: vs, [], _, _, h, _ => absurd h (by simp [DataW.TrodAll])

/-- The row's end for a statement that answers true and leaves what it was given alone. -/
theorem lawPost {H : Type} {enc : TypeId × Value → H} {f : Func} {s : ChangeSpec} {W W' : World} {args : Array Value} {ds : List (DataW H)} {before : List MemPlace}
    (hW : DataW.Whole enc Tryz.prog f.params.toList s.vars false W args.toList ds [] before) (hA : DataW.TrodAll enc Tryz.prog W 0 (fun _ => true) true f.params.toList args.toList ds before)
    (hv : s.vars = []) (hres : f.resultTypes = #[4]) (hfn : s.fn H (ds ++ []) = { results := [.lit (.bool true)], args := ds }) (hr : ∀ t ∈ f.params.toList, Tryz.prog.readableRec t = true ∧ t < Tryz.prog.types.size) (hb : Below W.heap.size W W') :
    ∃ v, Ending.returned (.bool true) = Ending.returned v ∧ ChangeSpec.post enc Tryz.prog f s false true false false W args v W' := by
  refine ⟨_, rfl, ds, [], before, [], before, [], hW, ?_, ?_, ?_, ?_, fun h => by cases h⟩
  · rw [hfn, hres]
    exact trodAll_cons_mk (shut_bool Tryz.underlying4 _) trodAll_mk0
  · rw [hfn]
    exact trodAll_below lawLaid hb _ _ _ _ hr hA (fun x hx => by simpa using hW.lt x hx)
  · rw [hfn, hv]; rfl
  · exact hb.frame _
end Go.Proofs.YtielnneclcekbaaGreatDoor
