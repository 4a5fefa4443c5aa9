/- CheckAll; the walk of RowChecks. Printed by wip/gen/checks.py. -/
import Derived.Test.YtobgghjmclagaaaDoorRowF
import Derived.Test.YtobgghjmclagaaaDoorKnownR
import Derived.Test.YtobgghjmclagaaaDoorRefA
namespace Go.Proofs.YtobgghjmclagaaaDoor
set_option linter.unusedVariables false
set_option linter.unusedSimpArgs false
open Go.RowKit

def allE (n : Int) : List (List Int) → Int
  | [] => 0
  | r :: l => if rowE r = 0 then (if (r.length : Int) = n then allE n l else 5) else rowE r
theorem rows_nil (w : World) : Rows2 w (.slice none 0 0) [] := ⟨[], rfl, by simp, ⟨none, 0, rfl, Nat.le_refl _, by unfold maxLen; omega, fun _ => rfl, fun h => absurd rfl h⟩, by simp⟩
theorem rows_lit1 {w : World} {u : Value} {xs : List Int} (h : Ints w u xs) (T : TypeId) : Rows2 (w.alloc (.cells #[u] T)) (.slice (some ⟨w.heap.size, 0, none⟩) 1 1) [xs] :=
  ListAt.litAt (R := Ints) (fun _ _ _ _ he h => Ints.ext h he) rfl [u] [xs] T 1 rfl rfl (by simp [maxLen]) _ rfl (fun j a x ha hx => by
    match j with
    | 0 => simp at ha hx; subst ha; subst hx; exact h
    | j + 1 => simp at ha)
theorem rows_lit2 {w : World} {u v : Value} {xs ys : List Int} (h : Ints w u xs) (k : Ints w v ys) (T : TypeId) : Rows2 (w.alloc (.cells #[u, v] T)) (.slice (some ⟨w.heap.size, 0, none⟩) 2 2) [xs, ys] :=
  ListAt.litAt (R := Ints) (fun _ _ _ _ he h => Ints.ext h he) rfl [u, v] [xs, ys] T 2 rfl rfl (by simp [maxLen]) _ rfl (fun j a x ha hx => by
    match j with
    | 0 => simp at ha hx; subst ha; subst hx; exact h
    | 1 => simp at ha hx; subst ha; subst hx; exact k
    | j + 2 => simp at ha)

set_option maxRecDepth 100000 in
set_option maxHeartbeats 2000000 in
theorem checkAll_any (xss : List (List Int)) (n : Int) (v : Value) (w : World) (h : Rows2 w v xss) :
    Calls Tryd.prog 16 #[v, .int .i64 n] w fun e w' => e = .returned (.int .i64 (allE n xss)) ∧ Ext w w' := by
  obtain ⟨a, c, rfl, h1, h2, -, hc⟩ := inCell.open h
  have HC := Lib.hid hc
  unfold maxLen at h2
  clear h hc
  go_enter Tryd.func16, Tryd.ntmps16
  go_wp2_with fail
  go_loopw [10] (fun t wr => ∃ j : Nat, j ≤ xss.length ∧ t = .int .i64 j ∧ Hid (allE n (xss.drop j) = allE n xss) ∧ Ext w wr) (fun t _ => xss.length - (intOf t).toNat)
  case atStart => exact ⟨0, by omega, rfl, by unfold Hid; rw [List.drop_zero], Ext.refl _⟩
  case round =>
    obtain ⟨j, hj, rfl, HR, hE⟩ := hrel
    by_cases hlt : j < xss.length
    · obtain ⟨b, off, rfl, hb, hcell⟩ := HC.out (by intro e; simp [e] at hlt)
      obtain ⟨x, hx⟩ : ∃ x, xss[j]? = some x := ⟨xss[j], List.getElem?_eq_getElem hlt⟩
      obtain ⟨u, hu, hcu⟩ := hcell j x hx
      have g1 := hE.cell hcu
      have hd := drop_cons hx
      have hr := HR.out
      rw [hd] at hr
      have HCK := Lib.hid (rowCheck_any x u wr (hu.ext hE))
      obtain ⟨a2, c2, rfl, k1, k2, -, -, -⟩ := hu.open
      clear hcell hx hd HR hu hcu
      by_cases he : rowE x = 0
      · rw [he] at HCK
        by_cases hl : (x.length : Int) = n
        · have HR2 : Hid (allE n (xss.drop (j + 1)) = allE n xss) := by
            unfold Hid; rw [← hr]; simp only [allE]; rw [if_pos he, if_pos hl]
          have hb : ((x.length : Int) != n) = false := by simp [hl]
          clear hr he hl
          go_wp2_with fail
          refine HCK.out.mono ?_
          rintro e w1 ⟨rfl, hE1⟩
          have hE2 := Ext.trans hE hE1
          clear hE1 HCK
          go_wp2_with fail
          go_roundw
          case rel => exact ⟨j + 1, by omega, by go_num, HR2.out, hE2⟩
          case measure => simp [intOf]; omega
        · have HQ : Hid (allE n xss = 5) := by
            unfold Hid; rw [← hr]; simp only [allE]; rw [if_pos he, if_neg hl]
          have hb : ((x.length : Int) != n) = true := by simp [hl]
          clear hr he hl
          go_wp2_with fail
          refine HCK.out.mono ?_
          rintro e w1 ⟨rfl, hE1⟩
          have HE2 := Lib.hid (Ext.trans hE hE1)
          clear hE1 HCK
          go_wp2_with fail
          go_ret
          exact ⟨by rw [HQ.out]; rfl, HE2.out⟩
      · have h4 : rowE x = 4 := (rowE_four x).resolve_left he
        have HQ : Hid (allE n xss = 4) := by
          unfold Hid; rw [← hr]; simp only [allE]; rw [if_neg he, h4]
        rw [h4] at HCK
        clear hr he h4
        go_wp2_with fail
        refine HCK.out.mono ?_
        rintro e w1 ⟨rfl, hE1⟩
        have HE2 := Lib.hid (Ext.trans hE hE1)
        clear hE1 HCK
        go_wp2_with fail
        go_ret
        exact ⟨by rw [HQ.out]; rfl, HE2.out⟩
    · obtain rfl : j = xss.length := by omega
      have HQ : Hid (allE n xss = 0) := by
        have := HR.out
        rw [List.drop_length] at this
        exact this.symm
      clear HR
      go_wp2_with fail
      go_ret
      exact ⟨by rw [HQ.out]; rfl, hE⟩

theorem zeros_ok {m : Nat} (hm : m ≤ 64) : rowE (List.replicate m 0) = 0 := (rowE_zero _).2 ⟨by simpa using hm, fun x hx => by rw [List.eq_of_mem_replicate hx]; omega⟩

set_option maxRecDepth 100000 in
set_option maxHeartbeats 4000000 in
theorem checks_walk (xs : List Int) (n : Int) (v : Value) (w : World) (h : Ints w v xs) (hn : -9223372036854775808 ≤ n ∧ n ≤ 9223372036854775807) (ht : Pow10 w) :
    Calls Tryd.prog 3 #[v, .int .i64 n] w fun e w' => e = .returned (.bool true) ∧ Ext w w' := by
  have HX := Lib.hid h; have HT := Lib.hid ht
  obtain ⟨a, c, rfl, hl1, hl2, -, -, -⟩ := h.open
  unfold maxLen at hl2
  clear h ht
  by_cases hl : 100 < xs.length ∨ 100 < n
  · have hcase : (100 : Int) < (xs.length : Int) ∨ (¬ (100 : Int) < (xs.length : Int) ∧ 100 < n) := by omega
    clear hl
    rcases hcase with q1 | ⟨q1, q2⟩
    all_goals
      go_enter Tryd.func3, Tryd.ntmps3
      go_wp2_with fail
      refine (known_any _ HT.out).mono ?_
      rintro e w1 ⟨rfl, hE1⟩
      have HE1 := Lib.hid hE1
      have HT1 := Lib.hid (HT.out.ext hE1)
      clear hE1
      go_wp2_with fail
      refine (known_any _ HT1.out).mono ?_
      rintro e w2 ⟨rfl, hE2⟩
      have HE2 := Lib.hid (Ext.trans HE1.out hE2)
      clear hE2
      go_wp2_with fail
      go_ret
      exact ⟨rfl, HE2.out⟩
  · have q1 : ¬ (100 : Int) < (xs.length : Int) := by omega
    have q2 : ¬ (100 : Int) < n := by omega
    clear hl
    have hw : (rowE xs = 4 ∧ allE n [xs] = 4) ∨ (rowE xs = 0 ∧ ((xs.length : Int) != n) = true ∧ allE n [xs] = 5) ∨ (rowE xs = 0 ∧ ((xs.length : Int) != n) = false ∧ allE n [xs] = 0) := by
      rcases rowE_four xs with h0 | h4
      · by_cases hln : (xs.length : Int) = n
        · exact .inr (.inr ⟨h0, by simp [hln], by simp [allE, h0, hln]⟩)
        · exact .inr (.inl ⟨h0, by simp [hln], by simp [allE, h0, hln]⟩)
      · exact .inl ⟨h4, by simp [allE, h4]⟩
    have hrange : n < 0 ∨ (¬ n < 0 ∧ 64 < n) ∨ (∃ m : Nat, n = m ∧ m ≤ 64) := by
      by_cases h1 : n < 0
      · exact .inl h1
      · by_cases h2 : 64 < n
        · exact .inr (.inl ⟨h1, h2⟩)
        · exact .inr (.inr ⟨n.toNat, by omega, by omega⟩)
    obtain ⟨i0, hi, hz0, hz1, hz2⟩ := info_parts infoInt
    have HI := Lib.hid hi; have HZ0 := Lib.hid hz0; have HZ1 := Lib.hid hz1; have HZ2 := Lib.hid hz2
    clear hi hz0 hz1 hz2 hn
    rcases hw with ⟨he, hall⟩ | ⟨he, hln, hall⟩ | ⟨he, hln, hall⟩
    · have HEE := Lib.hid he; have HALL := Lib.hid hall
      clear he hall
      rcases hrange with r1 | ⟨r1, r2⟩ | ⟨m, rfl, hm⟩
      · go_enter Tryd.func3, Tryd.ntmps3
        go_wp2_with fail
        refine (known_any _ HT.out).mono ?_
        rintro e w1 ⟨rfl, hE1⟩
        have HE1 := Lib.hid hE1
        have A1 := Lib.hid (refCheck_any xs _ w1 (HX.out.ext hE1))
        have A2 := Lib.hid (rowCheck_any xs _ w1 (HX.out.ext hE1))
        rw [HEE.out] at A1 A2
        clear hE1
        go_wp2_with fail
        refine A1.out.mono ?_
        rintro e w' ⟨rfl, rfl⟩
        clear A1
        go_wp2_with fail
        refine A2.out.mono ?_
        rintro e w2 ⟨rfl, hE2⟩
        have HE2 := Lib.hid (Ext.trans HE1.out hE2)
        have A3 := Lib.hid (fun T => checkAll_any [xs] n _ _ (rows_lit1 (HX.out.ext HE2.out) T))
        rw [HALL.out] at A3
        clear hE2 A2
        go_wp2_with fail
        refine (A3.out _).mono ?_
        rintro e w3 ⟨rfl, hE3⟩
        have HE3 := Lib.hid (Ext.trans HE2.out (Ext.trans (Ext.alloc _ _) hE3))
        have A4 := Lib.hid (checkAll_any [] n _ _ (rows_nil w3))
        rw [show allE n [] = 0 from rfl] at A4
        clear hE3 A3
        go_wp2_with fail
        refine A4.out.mono ?_
        rintro e w4 ⟨rfl, hE4⟩
        have HE4 := Lib.hid (Ext.trans HE3.out hE4)
        clear hE4 A4
        go_wp2_with fail
        go_ret
        exact ⟨rfl, HE4.out⟩
      · go_enter Tryd.func3, Tryd.ntmps3
        go_wp2_with fail
        refine (known_any _ HT.out).mono ?_
        rintro e w1 ⟨rfl, hE1⟩
        have HE1 := Lib.hid hE1
        have A1 := Lib.hid (refCheck_any xs _ w1 (HX.out.ext hE1))
        have A2 := Lib.hid (rowCheck_any xs _ w1 (HX.out.ext hE1))
        rw [HEE.out] at A1 A2
        clear hE1
        go_wp2_with fail
        refine A1.out.mono ?_
        rintro e w' ⟨rfl, rfl⟩
        clear A1
        go_wp2_with fail
        refine A2.out.mono ?_
        rintro e w2 ⟨rfl, hE2⟩
        have HE2 := Lib.hid (Ext.trans HE1.out hE2)
        have A3 := Lib.hid (fun T => checkAll_any [xs] n _ _ (rows_lit1 (HX.out.ext HE2.out) T))
        rw [HALL.out] at A3
        clear hE2 A2
        go_wp2_with fail
        refine (A3.out _).mono ?_
        rintro e w3 ⟨rfl, hE3⟩
        have HE3 := Lib.hid (Ext.trans HE2.out (Ext.trans (Ext.alloc _ _) hE3))
        have A4 := Lib.hid (checkAll_any [] n _ _ (rows_nil w3))
        rw [show allE n [] = 0 from rfl] at A4
        clear hE3 A3
        go_wp2_with fail
        refine A4.out.mono ?_
        rintro e w4 ⟨rfl, hE4⟩
        have HE4 := Lib.hid (Ext.trans HE3.out hE4)
        clear hE4 A4
        go_wp2_with fail
        go_ret
        exact ⟨rfl, HE4.out⟩
      · have HBD : Hid (∀ x ∈ List.replicate m (0 : Int), -9223372036854775808 ≤ x ∧ x ≤ 9223372036854775807) := by intro x hx; rw [List.eq_of_mem_replicate hx]; omega
        have HALL2 : Hid (allE (m : Int) [List.replicate m 0, xs] = 4) := by
          unfold Hid; rw [show allE (m : Int) [List.replicate m 0, xs] = allE (m : Int) [xs] from by conv => { lhs; unfold allE }; rw [if_pos (zeros_ok hm), if_pos (by simp)]]; exact HALL.out
        have r1 : ¬ (m : Int) < 0 := by omega
        have r2 : ¬ (64 : Int) < (m : Int) := by omega
        go_enter Tryd.func3, Tryd.ntmps3
        go_wp2_with fail
        refine (known_any _ HT.out).mono ?_
        rintro e w1 ⟨rfl, hE1⟩
        have HE1 := Lib.hid hE1
        have A1 := Lib.hid (refCheck_any xs _ w1 (HX.out.ext hE1))
        have A2 := Lib.hid (rowCheck_any xs _ w1 (HX.out.ext hE1))
        rw [HEE.out] at A1 A2
        clear hE1
        go_wp2_with fail
        refine A1.out.mono ?_
        rintro e w' ⟨rfl, rfl⟩
        clear A1
        go_wp2_with fail
        refine A2.out.mono ?_
        rintro e w2 ⟨rfl, hE2⟩
        have HE2 := Lib.hid (Ext.trans HE1.out hE2)
        have A3 := Lib.hid (fun T => checkAll_any [xs] (m : Int) _ _ (rows_lit1 (HX.out.ext HE2.out) T))
        rw [HALL.out] at A3
        clear hE2 A2
        go_wp2_with fail
        refine (A3.out _).mono ?_
        rintro e w3 ⟨rfl, hE3⟩
        have HE3 := Lib.hid (Ext.trans HE2.out (Ext.trans (Ext.alloc _ _) hE3))
        have A4 := Lib.hid (checkAll_any [] (m : Int) _ _ (rows_nil w3))
        rw [show allE (m : Int) [] = 0 from rfl] at A4
        clear hE3 A3
        go_wp2_with fail
        refine A4.out.mono ?_
        rintro e w4 ⟨rfl, hE4⟩
        have HE4 := Lib.hid (Ext.trans HE3.out hE4)
        clear hE4 A4
        go_wp2_with (at_make; refine wpList_make_full _ rfl _ _ 23 rfl w4.heap.size 3 i0 (.int .i64 0) 1 Tryd.underlying23 HI.out HZ0.out HZ1.out _ _ _ _ m rfl rfl rfl rfl ?c10 ?c20 ?c30 ?_)
        any_goals (first | (rw [HZ2.out]; omega) | (unfold maxLen; omega) | exact Nat.le_refl _)
        intro w5 hown hgrow
        rw [made_ints] at hown
        have HE5 := Lib.hid (Ext.trans HE4.out (ext_grown hgrow))
        have A5 := Lib.hid (fun T => checkAll_any [List.replicate m 0, xs] (m : Int) _ _ (rows_lit2 (OwnAt.ints hown (by simp) HBD.out) (HX.out.ext HE5.out) T))
        rw [HALL2.out] at A5
        clear hown hgrow
        go_wp2_with fail
        refine (A5.out _).mono ?_
        rintro e w6 ⟨rfl, hE6⟩
        have HE6 := Lib.hid (Ext.trans HE5.out (Ext.trans (Ext.alloc _ _) hE6))
        clear hE6 A5
        go_wp2_with fail
        go_ret
        exact ⟨rfl, HE6.out⟩
    · have HEE := Lib.hid he; have HALL := Lib.hid hall
      clear he hall
      rcases hrange with r1 | ⟨r1, r2⟩ | ⟨m, rfl, hm⟩
      · go_enter Tryd.func3, Tryd.ntmps3
        go_wp2_with fail
        refine (known_any _ HT.out).mono ?_
        rintro e w1 ⟨rfl, hE1⟩
        have HE1 := Lib.hid hE1
        have A1 := Lib.hid (refCheck_any xs _ w1 (HX.out.ext hE1))
        have A2 := Lib.hid (rowCheck_any xs _ w1 (HX.out.ext hE1))
        rw [HEE.out] at A1 A2
        clear hE1
        go_wp2_with fail
        refine A1.out.mono ?_
        rintro e w' ⟨rfl, rfl⟩
        clear A1
        go_wp2_with fail
        refine A2.out.mono ?_
        rintro e w2 ⟨rfl, hE2⟩
        have HE2 := Lib.hid (Ext.trans HE1.out hE2)
        have A3 := Lib.hid (fun T => checkAll_any [xs] n _ _ (rows_lit1 (HX.out.ext HE2.out) T))
        rw [HALL.out] at A3
        clear hE2 A2
        go_wp2_with fail
        refine (A3.out _).mono ?_
        rintro e w3 ⟨rfl, hE3⟩
        have HE3 := Lib.hid (Ext.trans HE2.out (Ext.trans (Ext.alloc _ _) hE3))
        have A4 := Lib.hid (checkAll_any [] n _ _ (rows_nil w3))
        rw [show allE n [] = 0 from rfl] at A4
        clear hE3 A3
        go_wp2_with fail
        refine A4.out.mono ?_
        rintro e w4 ⟨rfl, hE4⟩
        have HE4 := Lib.hid (Ext.trans HE3.out hE4)
        clear hE4 A4
        go_wp2_with fail
        go_ret
        exact ⟨rfl, HE4.out⟩
      · go_enter Tryd.func3, Tryd.ntmps3
        go_wp2_with fail
        refine (known_any _ HT.out).mono ?_
        rintro e w1 ⟨rfl, hE1⟩
        have HE1 := Lib.hid hE1
        have A1 := Lib.hid (refCheck_any xs _ w1 (HX.out.ext hE1))
        have A2 := Lib.hid (rowCheck_any xs _ w1 (HX.out.ext hE1))
        rw [HEE.out] at A1 A2
        clear hE1
        go_wp2_with fail
        refine A1.out.mono ?_
        rintro e w' ⟨rfl, rfl⟩
        clear A1
        go_wp2_with fail
        refine A2.out.mono ?_
        rintro e w2 ⟨rfl, hE2⟩
        have HE2 := Lib.hid (Ext.trans HE1.out hE2)
        have A3 := Lib.hid (fun T => checkAll_any [xs] n _ _ (rows_lit1 (HX.out.ext HE2.out) T))
        rw [HALL.out] at A3
        clear hE2 A2
        go_wp2_with fail
        refine (A3.out _).mono ?_
        rintro e w3 ⟨rfl, hE3⟩
        have HE3 := Lib.hid (Ext.trans HE2.out (Ext.trans (Ext.alloc _ _) hE3))
        have A4 := Lib.hid (checkAll_any [] n _ _ (rows_nil w3))
        rw [show allE n [] = 0 from rfl] at A4
        clear hE3 A3
        go_wp2_with fail
        refine A4.out.mono ?_
        rintro e w4 ⟨rfl, hE4⟩
        have HE4 := Lib.hid (Ext.trans HE3.out hE4)
        clear hE4 A4
        go_wp2_with fail
        go_ret
        exact ⟨rfl, HE4.out⟩
      · have HBD : Hid (∀ x ∈ List.replicate m (0 : Int), -9223372036854775808 ≤ x ∧ x ≤ 9223372036854775807) := by intro x hx; rw [List.eq_of_mem_replicate hx]; omega
        have HALL2 : Hid (allE (m : Int) [List.replicate m 0, xs] = 5) := by
          unfold Hid; rw [show allE (m : Int) [List.replicate m 0, xs] = allE (m : Int) [xs] from by conv => { lhs; unfold allE }; rw [if_pos (zeros_ok hm), if_pos (by simp)]]; exact HALL.out
        have r1 : ¬ (m : Int) < 0 := by omega
        have r2 : ¬ (64 : Int) < (m : Int) := by omega
        go_enter Tryd.func3, Tryd.ntmps3
        go_wp2_with fail
        refine (known_any _ HT.out).mono ?_
        rintro e w1 ⟨rfl, hE1⟩
        have HE1 := Lib.hid hE1
        have A1 := Lib.hid (refCheck_any xs _ w1 (HX.out.ext hE1))
        have A2 := Lib.hid (rowCheck_any xs _ w1 (HX.out.ext hE1))
        rw [HEE.out] at A1 A2
        clear hE1
        go_wp2_with fail
        refine A1.out.mono ?_
        rintro e w' ⟨rfl, rfl⟩
        clear A1
        go_wp2_with fail
        refine A2.out.mono ?_
        rintro e w2 ⟨rfl, hE2⟩
        have HE2 := Lib.hid (Ext.trans HE1.out hE2)
        have A3 := Lib.hid (fun T => checkAll_any [xs] (m : Int) _ _ (rows_lit1 (HX.out.ext HE2.out) T))
        rw [HALL.out] at A3
        clear hE2 A2
        go_wp2_with fail
        refine (A3.out _).mono ?_
        rintro e w3 ⟨rfl, hE3⟩
        have HE3 := Lib.hid (Ext.trans HE2.out (Ext.trans (Ext.alloc _ _) hE3))
        have A4 := Lib.hid (checkAll_any [] (m : Int) _ _ (rows_nil w3))
        rw [show allE (m : Int) [] = 0 from rfl] at A4
        clear hE3 A3
        go_wp2_with fail
        refine A4.out.mono ?_
        rintro e w4 ⟨rfl, hE4⟩
        have HE4 := Lib.hid (Ext.trans HE3.out hE4)
        clear hE4 A4
        go_wp2_with (at_make; refine wpList_make_full _ rfl _ _ 23 rfl w4.heap.size 3 i0 (.int .i64 0) 1 Tryd.underlying23 HI.out HZ0.out HZ1.out _ _ _ _ m rfl rfl rfl rfl ?c11 ?c21 ?c31 ?_)
        any_goals (first | (rw [HZ2.out]; omega) | (unfold maxLen; omega) | exact Nat.le_refl _)
        intro w5 hown hgrow
        rw [made_ints] at hown
        have HE5 := Lib.hid (Ext.trans HE4.out (ext_grown hgrow))
        have A5 := Lib.hid (fun T => checkAll_any [List.replicate m 0, xs] (m : Int) _ _ (rows_lit2 (OwnAt.ints hown (by simp) HBD.out) (HX.out.ext HE5.out) T))
        rw [HALL2.out] at A5
        clear hown hgrow
        go_wp2_with fail
        refine (A5.out _).mono ?_
        rintro e w6 ⟨rfl, hE6⟩
        have HE6 := Lib.hid (Ext.trans HE5.out (Ext.trans (Ext.alloc _ _) hE6))
        clear hE6 A5
        go_wp2_with fail
        go_ret
        exact ⟨rfl, HE6.out⟩
    · have HEE := Lib.hid he; have HALL := Lib.hid hall
      clear he hall
      rcases hrange with r1 | ⟨r1, r2⟩ | ⟨m, rfl, hm⟩
      · go_enter Tryd.func3, Tryd.ntmps3
        go_wp2_with fail
        refine (known_any _ HT.out).mono ?_
        rintro e w1 ⟨rfl, hE1⟩
        have HE1 := Lib.hid hE1
        have A1 := Lib.hid (refCheck_any xs _ w1 (HX.out.ext hE1))
        have A2 := Lib.hid (rowCheck_any xs _ w1 (HX.out.ext hE1))
        rw [HEE.out] at A1 A2
        clear hE1
        go_wp2_with fail
        refine A1.out.mono ?_
        rintro e w' ⟨rfl, rfl⟩
        clear A1
        go_wp2_with fail
        refine A2.out.mono ?_
        rintro e w2 ⟨rfl, hE2⟩
        have HE2 := Lib.hid (Ext.trans HE1.out hE2)
        have A3 := Lib.hid (fun T => checkAll_any [xs] n _ _ (rows_lit1 (HX.out.ext HE2.out) T))
        rw [HALL.out] at A3
        clear hE2 A2
        go_wp2_with fail
        refine (A3.out _).mono ?_
        rintro e w3 ⟨rfl, hE3⟩
        have HE3 := Lib.hid (Ext.trans HE2.out (Ext.trans (Ext.alloc _ _) hE3))
        have A4 := Lib.hid (checkAll_any [] n _ _ (rows_nil w3))
        rw [show allE n [] = 0 from rfl] at A4
        clear hE3 A3
        go_wp2_with fail
        refine A4.out.mono ?_
        rintro e w4 ⟨rfl, hE4⟩
        have HE4 := Lib.hid (Ext.trans HE3.out hE4)
        clear hE4 A4
        go_wp2_with fail
        go_ret
        exact ⟨rfl, HE4.out⟩
      · go_enter Tryd.func3, Tryd.ntmps3
        go_wp2_with fail
        refine (known_any _ HT.out).mono ?_
        rintro e w1 ⟨rfl, hE1⟩
        have HE1 := Lib.hid hE1
        have A1 := Lib.hid (refCheck_any xs _ w1 (HX.out.ext hE1))
        have A2 := Lib.hid (rowCheck_any xs _ w1 (HX.out.ext hE1))
        rw [HEE.out] at A1 A2
        clear hE1
        go_wp2_with fail
        refine A1.out.mono ?_
        rintro e w' ⟨rfl, rfl⟩
        clear A1
        go_wp2_with fail
        refine A2.out.mono ?_
        rintro e w2 ⟨rfl, hE2⟩
        have HE2 := Lib.hid (Ext.trans HE1.out hE2)
        have A3 := Lib.hid (fun T => checkAll_any [xs] n _ _ (rows_lit1 (HX.out.ext HE2.out) T))
        rw [HALL.out] at A3
        clear hE2 A2
        go_wp2_with fail
        refine (A3.out _).mono ?_
        rintro e w3 ⟨rfl, hE3⟩
        have HE3 := Lib.hid (Ext.trans HE2.out (Ext.trans (Ext.alloc _ _) hE3))
        have A4 := Lib.hid (checkAll_any [] n _ _ (rows_nil w3))
        rw [show allE n [] = 0 from rfl] at A4
        clear hE3 A3
        go_wp2_with fail
        refine A4.out.mono ?_
        rintro e w4 ⟨rfl, hE4⟩
        have HE4 := Lib.hid (Ext.trans HE3.out hE4)
        clear hE4 A4
        go_wp2_with fail
        go_ret
        exact ⟨rfl, HE4.out⟩
      · have HBD : Hid (∀ x ∈ List.replicate m (0 : Int), -9223372036854775808 ≤ x ∧ x ≤ 9223372036854775807) := by intro x hx; rw [List.eq_of_mem_replicate hx]; omega
        have HALL2 : Hid (allE (m : Int) [List.replicate m 0, xs] = 0) := by
          unfold Hid; rw [show allE (m : Int) [List.replicate m 0, xs] = allE (m : Int) [xs] from by conv => { lhs; unfold allE }; rw [if_pos (zeros_ok hm), if_pos (by simp)]]; exact HALL.out
        have r1 : ¬ (m : Int) < 0 := by omega
        have r2 : ¬ (64 : Int) < (m : Int) := by omega
        go_enter Tryd.func3, Tryd.ntmps3
        go_wp2_with fail
        refine (known_any _ HT.out).mono ?_
        rintro e w1 ⟨rfl, hE1⟩
        have HE1 := Lib.hid hE1
        have A1 := Lib.hid (refCheck_any xs _ w1 (HX.out.ext hE1))
        have A2 := Lib.hid (rowCheck_any xs _ w1 (HX.out.ext hE1))
        rw [HEE.out] at A1 A2
        clear hE1
        go_wp2_with fail
        refine A1.out.mono ?_
        rintro e w' ⟨rfl, rfl⟩
        clear A1
        go_wp2_with fail
        refine A2.out.mono ?_
        rintro e w2 ⟨rfl, hE2⟩
        have HE2 := Lib.hid (Ext.trans HE1.out hE2)
        have A3 := Lib.hid (fun T => checkAll_any [xs] (m : Int) _ _ (rows_lit1 (HX.out.ext HE2.out) T))
        rw [HALL.out] at A3
        clear hE2 A2
        go_wp2_with fail
        refine (A3.out _).mono ?_
        rintro e w3 ⟨rfl, hE3⟩
        have HE3 := Lib.hid (Ext.trans HE2.out (Ext.trans (Ext.alloc _ _) hE3))
        have A4 := Lib.hid (checkAll_any [] (m : Int) _ _ (rows_nil w3))
        rw [show allE (m : Int) [] = 0 from rfl] at A4
        clear hE3 A3
        go_wp2_with fail
        refine A4.out.mono ?_
        rintro e w4 ⟨rfl, hE4⟩
        have HE4 := Lib.hid (Ext.trans HE3.out hE4)
        clear hE4 A4
        go_wp2_with (at_make; refine wpList_make_full _ rfl _ _ 23 rfl w4.heap.size 3 i0 (.int .i64 0) 1 Tryd.underlying23 HI.out HZ0.out HZ1.out _ _ _ _ m rfl rfl rfl rfl ?c12 ?c22 ?c32 ?_)
        any_goals (first | (rw [HZ2.out]; omega) | (unfold maxLen; omega) | exact Nat.le_refl _)
        intro w5 hown hgrow
        rw [made_ints] at hown
        have HE5 := Lib.hid (Ext.trans HE4.out (ext_grown hgrow))
        have A5 := Lib.hid (fun T => checkAll_any [List.replicate m 0, xs] (m : Int) _ _ (rows_lit2 (OwnAt.ints hown (by simp) HBD.out) (HX.out.ext HE5.out) T))
        rw [HALL2.out] at A5
        clear hown hgrow
        go_wp2_with fail
        refine (A5.out _).mono ?_
        rintro e w6 ⟨rfl, hE6⟩
        have HE6 := Lib.hid (Ext.trans HE5.out (Ext.trans (Ext.alloc _ _) hE6))
        clear hE6 A5
        go_wp2_with fail
        go_ret
        exact ⟨rfl, HE6.out⟩
end Go.Proofs.YtobgghjmclagaaaDoor
