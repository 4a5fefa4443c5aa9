/- Merged: SolutionsT. -/
import Derived.Test.YtpeinobepiodaaaGreatDoorHA
import Derived.Laws.StructEq
/- The walk of TableSolutions. -/
namespace Go.Proofs.YtpeinobepiodaaaGreatDoor
set_option linter.unusedVariables false
set_option linter.unusedSimpArgs false
open Go.RowKit
attribute [local go_sem] eqRat guardRat

theorem solutions_y {es zs : List Int} {c r : Nat} (hes : ∀ x ∈ es, -128 ≤ x ∧ x ≤ 127) (hzs : ∀ x ∈ zs, -128 ≤ x ∧ x ≤ 127) (hl : zs.length ≤ 4) : (apL (makeM es c r) zs).all fitB = true ∧ Fit9 (apL (makeM es c r) zs) := by
  have h : ∀ q ∈ makeM es c r, (dotL q zs).natAbs ≤ 4 * 16384 := by
    intro q hq
    have hb := (makeM_rows hes q hq).2
    have key : ∀ l : List Int, (∀ x ∈ l, -128 ≤ x ∧ x ≤ 127) → ∀ j, (l.getD j 0).natAbs ≤ 128 := by
      intro l hl j
      rw [List.getD_eq_getElem?_getD]
      cases h : l[j]? with
      | none => simp
      | some a => have := hl a (List.mem_of_getElem? h); simp only [Option.getD_some]; omega
    have hk : ∀ k, (dotN (pairL q zs) k).natAbs ≤ k * 16384 := by
      intro k
      induction k with
      | zero => show (0 : Int).natAbs ≤ _; simp
      | succ k ih =>
        show (dotN (pairL q zs) k + q.getD k 0 * zs.getD k 0).natAbs ≤ _
        have h1 : (q.getD k 0 * zs.getD k 0).natAbs ≤ 128 * 128 := by rw [Int.natAbs_mul]; exact Nat.mul_le_mul (key q hb k) (key zs hzs k)
        have h3 := Int.natAbs_add_le (dotN (pairL q zs) k) (q.getD k 0 * zs.getD k 0)
        rw [Nat.succ_mul]
        exact Nat.le_trans h3 (Nat.add_le_add ih h1)
    exact Nat.le_trans (hk zs.length) (Nat.mul_le_mul hl (Nat.le_refl 16384))
  have h2 : Fit9 (apL (makeM es c r) zs) := by
    intro a ha
    unfold apL at ha
    obtain ⟨q, hq, rfl⟩ := List.mem_map.1 ha
    have := h q hq
    omega
  exact ⟨by rw [List.all_eq_true]; intro a ha; exact (fitB_iff a).2 (h2 a ha), h2⟩

set_option maxRecDepth 100000 in
set_option maxHeartbeats 8000000 in
theorem solutions_walk (x0 x1 : Int) (ve : Value) (es : List Int) (a0 a1 a2 a3 : Int) (w : World) (hx0 : 0 ≤ x0 ∧ x0 ≤ 255) (hx1 : 0 ≤ x1 ∧ x1 ≤ 255) (h : I8s w ve es)
    (ha : ∀ x ∈ [a0, a1, a2, a3], -128 ≤ x ∧ x ≤ 127) (ht : LibT w) :
    Calls Tryz.prog 12 #[.agg #[.int .u8 x0, .int .u8 x1, ve], .agg #[.int .i8 a0, .int .i8 a1, .int .i8 a2, .int .i8 a3]] w fun e w' => e = .returned (.bool true) ∧ Ext w w' := by
  have HT := Lib.hid ht
  have HH := Lib.hid h
  have HA := Lib.hid ha
  obtain ⟨av, cv, hve, e1, e2, e3, hes, -⟩ := I8s.open h
  have HES := Lib.hid hes
  obtain ⟨r, hr⟩ : ∃ r : Nat, (r : Int) = x0.tmod 5 := ⟨(x0.tmod 5).toNat, by rw [Int.toNat_of_nonneg (Int.tmod_nonneg _ hx0.1)]⟩
  obtain ⟨c, hc⟩ : ∃ c : Nat, (c : Int) = x1.tmod 5 := ⟨(x1.tmod 5).toNat, by rw [Int.toNat_of_nonneg (Int.tmod_nonneg _ hx1.1)]⟩
  have hr5 : r < 5 := by have := (tmod_bd x0 5 (by omega)).2; omega
  have hc5 : c < 5 := by have := (tmod_bd x1 5 (by omega)).2; omega
  have w1 : IntKind.u8.wrap (x0.tmod 5) = (r : Int) := by rw [← hr, IntKind.wrap_u8]; omega
  have w2 : IntKind.u8.wrap (x1.tmod 5) = (c : Int) := by rw [← hc, IntKind.wrap_u8]; omega
  have v1 := hr.symm; have v2 := hc.symm
  have HK : Hid (∀ W, Ext w W → Calls Tryz.prog 14 #[] W fun e w' => e = .returned (.bool true) ∧ Ext W w') := fun W hW => known_any W (HT.out.pow.ext hW)
  have HMK : Hid (∀ W, Ext w W → Calls Tryz.prog 26 #[.agg #[.int .u8 x0, .int .u8 x1, ve], .int .i64 (r : Int), .int .i64 (c : Int)] W fun e w' => ∃ v, e = .returned v ∧ Rows2 w' v (makeM es c r) ∧ Ext W w') := fun W hW =>
    (make6_any x0 x1 ve es r c (by omega) (by omega) W (h.ext hW)).mono fun _ _ ⟨v, tags, g1, g2, g3⟩ => ⟨v, g1, make_rows2 hes g2, g3⟩
  obtain ⟨W1, hW1⟩ : ∃ W1, W1 = (w.alloc (.cells #[.int .u8 x0, .int .u8 x1, ve] 49)).alloc (.cells #[.int .i8 a0, .int .i8 a1, .int .i8 a2, .int .i8 a3] 79) := ⟨_, rfl⟩
  have HW1 : Hid (Ext w W1) := by unfold Hid; rw [hW1]; exact (Ext.alloc _ _).trans (Ext.alloc _ _)
  have HB1 : Hid (W1.heap[w.heap.size]? = some (.cells #[.int .u8 x0, .int .u8 x1, ve] 49 (0, 0))) := by unfold Hid; rw [hW1]; exact block_ext (block_new _ _ _) (Ext.alloc _ _)
  have HA1 : Hid (W1.heap[w.heap.size + 1]? = some (.cells #[.int .i8 a0, .int .i8 a1, .int .i8 a2, .int .i8 a3] 79 (0, 0))) := by
    unfold Hid; rw [hW1]
    have := block_new (w.alloc (.cells #[.int .u8 x0, .int .u8 x1, ve] 49)) #[.int .i8 a0, .int .i8 a1, .int .i8 a2, .int .i8 a3] 79
    rw [World.size_alloc] at this
    exact this
  have hW1' := hW1.symm
  clear hr hc ht h hes hve e1 e2 e3 hW1 ha
  go_enter Tryz.func12, Tryz.ntmps12
  go_wp2_with fail
  refine (HK.out _ HW1.out).mono ?_
  rintro e wk ⟨rfl, hEk⟩
  have HEk := Lib.hid (HW1.out.trans hEk)
  have HBk : Hid (wk.heap[w.heap.size]? = some (.cells #[.int .u8 x0, .int .u8 x1, ve] 49 (0, 0))) := (hEk.block _ ((Array.getElem?_eq_some_iff.1 HB1.out).1)).trans HB1.out
  have HAk : Hid (wk.heap[w.heap.size + 1]? = some (.cells #[.int .i8 a0, .int .i8 a1, .int .i8 a2, .int .i8 a3] 79 (0, 0))) := (hEk.block _ ((Array.getElem?_eq_some_iff.1 HA1.out).1)).trans HA1.out
  have c0 := block_cell HBk.out 0
  have c1 := block_cell HBk.out 1
  simp only [List.getElem?_toArray, List.getElem?_cons_zero, List.getElem?_cons_succ] at c0 c1
  clear hEk hW1'
  go_wp2_with (refine wpList_load_row rfl 49 _ rfl w.heap.size rfl _ #[.int .u8 x0, .int .u8 x1, ve] (0, 0) _ HBk.out Tryz.underlying49 rfl (by kernel_rfl) ?_)
  go_wp2_with fail
  refine (HMK.out _ HEk.out).mono ?_
  rintro e w2 ⟨v, rfl, hM, hE2⟩
  have HE2 := Lib.hid (HEk.out.trans hE2)
  have HA2 : Hid (w2.heap[w.heap.size + 1]? = some (.cells #[.int .i8 a0, .int .i8 a1, .int .i8 a2, .int .i8 a3] 79 (0, 0))) := (hE2.block _ ((Array.getElem?_eq_some_iff.1 HAk.out).1)).trans HAk.out
  obtain ⟨ma, mc, rfl, hm1, hm2, -, hmc⟩ := inCell.open hM
  have HMC := Lib.hid hmc
  have HM0 := Lib.hid hM
  rw [makeM_len] at hm1 HM0 ⊢
  have HTAB : Hid (tabE (makeM es c r) = 0) := makeM_tab HES.out (by omega) (by omega)
  unfold maxLen at hm2
  clear hE2 hmc hM c0 c1
  obtain ⟨n, hn⟩ : ∃ n, n = colsN (makeM es c r) := ⟨_, rfl⟩
  have hn4 : n ≤ 4 := by
    rw [hn]
    by_cases h0 : makeM es c r = []
    · rw [h0]; show 0 ≤ 4; omega
    · rw [colsN_of (fun q hq => (makeM_rows HES.out q hq).1) h0]; omega
  have HCO : Hid (∀ W, Ext w2 W → Calls Tryz.prog 43 #[.slice ma r mc] W fun e w' => e = .returned (.int .i64 (n : Int)) ∧ W = w') := fun W hW => by have := columns_any (makeM es c r) _ W (HM0.out.ext hW); rw [← hn] at this; exact this
  have HN := Lib.hid hn
  clear hn
  go_wp2_with fail
  go_loopw [7, 6] (fun t o wr => ∃ k : Nat, k ≤ n ∧ t = .int .i64 k ∧ Hid (Ext w2 wr) ∧ Hid (Build wr w2.heap.size 3 1 o intR (([a0, a1, a2, a3] : List Int).take k))) (fun t _ _ => n - (intOf t).toNat)
  case atStart => exact ⟨0, by omega, rfl, Ext.refl _, Build.nil _ _ _ _ _⟩
  case round =>
    obtain ⟨k, hk, rfl, HEI, HBI⟩ := hrel
    obtain ⟨wo, rfl⟩ : ∃ wo : World, wo = wr := ⟨_, rfl⟩
    by_cases hlt : k < n
    · have hk4 : k < 4 := by omega
      obtain ⟨p, hp⟩ : ∃ p, ([a0, a1, a2, a3] : List Int)[k]? = some p := ⟨_, List.getElem?_eq_getElem (by simpa using hk4)⟩
      have g1 : wo.cell? ⟨w.heap.size + 1, k, none⟩ = some (.int .i8 p) := by
        refine HEI.out.cell ?_
        have := block_cell HA2.out k
        rw [this]
        match k, hk4, hp with
        | 0, _, hp => cases hp; rfl
        | 1, _, hp => cases hp; rfl
        | 2, _, hp => cases hp; rfl
        | 3, _, hp => cases hp; rfl
      have hpb := HA.out p (List.mem_of_getElem? hp)
      have HPB : Hid (-9223372036854775808 ≤ p ∧ p ≤ 9223372036854775807) := by unfold Hid; omega
      have HTK : Hid (([a0, a1, a2, a3] : List Int).take (k + 1) = ([a0, a1, a2, a3] : List Int).take k ++ [p]) := by unfold Hid; rw [List.take_add_one, hp]; rfl
      have HLL : Hid ((([a0, a1, a2, a3] : List Int).take k).length < 1000000) := by unfold Hid; rw [List.length_take]; omega
      have hs5 : w2.heap.size ≤ wo.heap.size := HEI.out.size
      have q1 : (k : Int) < (n : Int) := by omega
      have q2 : (k : Int) < 4 := by omega
      clear hp
      go_wp2_with fail
      refine (HCO.out _ HEI.out).mono ?_
      rintro e w3 ⟨rfl, rfl⟩
      go_wp2_with (at_builtin; go_must (refine wpList_append_build _ rfl _ _ 51 rfl w2.heap.size 3 (.int .i64 0) 1 8 Tryz.underlying51 infoInt rfl (by decide) u6 intR (([a0, a1, a2, a3] : List Int).take k) p #[.int .i64 p] 3 rfl HBI.out rfl rfl ?_ (fun _ _ => ⟨rfl, HPB.out⟩) HLL.out (by decide) hs5 ?_))
      all_goals first | (simp [Value.oneCell']; done) | skip
      intro v' w6 hB6 hg6 hb6 hs6 _
      rw [← HTK.out] at hB6
      have HB6 := Lib.hid hB6
      have HX6 : Hid (Ext w2 w6) := Below.trans HEI.out hb6
      clear hB6 hg6 hb6
      go_wp2_with fail
      go_roundw
      case rel => exact ⟨k + 1, by omega, by go_num, HX6.out, HB6.out⟩
      case measure => simp [intOf]; omega
    · obtain rfl : k = n := by omega
      have q1 : ¬ (k : Int) < (k : Int) := by omega
      go_wp2_with fail
      refine (HCO.out _ HEI.out).mono ?_
      rintro e w3 ⟨rfl, rfl⟩
      obtain ⟨X, hX⟩ : ∃ X, X = ([a0, a1, a2, a3] : List Int).take k := ⟨_, rfl⟩
      rw [← hX] at HBI
      have HXL : Hid (X.length = k) := by unfold Hid; rw [hX, List.length_take]; simp; omega
      have HXB : Hid (∀ x ∈ X, -128 ≤ x ∧ x ≤ 127) := fun x hx => HA.out x (List.mem_of_mem_take (by rw [hX] at hx; exact hx))
      have hXI : Ints wo u6 X := HBI.out.list
      have HXI := Lib.hid hXI
      obtain ⟨ax, cx, hux, k1, k2, -, -, -⟩ := hXI.open
      subst hux
      rw [HXL.out] at HXI k1 ⊢
      unfold maxLen at k2
      have HX0 := Lib.hid (HE2.out.trans HEI.out)
      obtain ⟨hyf, hy9⟩ := solutions_y (c := c) (r := r) HES.out HXB.out (by rw [HXL.out]; exact hn4)
      obtain ⟨M, hM⟩ : ∃ M, M = makeM es c r := ⟨_, rfl⟩
      rw [← hM] at HM0 HTAB HMC hyf hy9
      have HML : Hid (M.length = r) := by unfold Hid; rw [hM, makeM_len]
      obtain ⟨f1, f2, f3, f4, f5⟩ := sol_facts HTAB.out (n := k) (by rw [hM]; exact HN.out.symm) HXL.out hy9
      have HAE : Hid (appE M X = 0) := by
        unfold Hid appE
        rw [if_pos HTAB.out, if_pos (by rw [HXL.out, hM]; exact HN.out), if_neg (by
          rw [Bool.not_eq_true, List.any_eq_false]
          intro a ha
          rw [(fitB_iff a).2 (by have := HXB.out a ha; omega)]; decide), hyf, if_pos rfl]
      obtain ⟨Y, hY⟩ : ∃ Y, Y = apL M X := ⟨_, rfl⟩
      have HYL : Hid (Y.length = r) := by unfold Hid; rw [hY, apL_len]; exact HML.out
      have HAP : Hid (∀ W, Ext wo W → Calls Tryz.prog 36 #[.slice ma r mc, .slice ax k cx] W fun e w' => ∃ u, e = .returned (.tuple #[u, .int .i64 0]) ∧ Ints w' u Y ∧ Ext W w') := fun W hW =>
        (tApply_any M X _ _ W (HM0.out.ext (HEI.out.trans hW)) (HXI.out.ext hW) (HT.out.ext (HX0.out.trans hW))).mono fun e w' ⟨u, g1, g2, g3, g4⟩ => by
          rw [HAE.out] at g1 g2
          exact ⟨u, g1, hY ▸ g2 rfl, g4⟩
      rw [← hY] at f1 f2 f3 f5 hy9
      have HSO : Hid (∀ u W, Ext wo W → Ints W u Y → Calls Tryz.prog 28 #[.slice ma r mc, u] W fun e w' => ∃ x, e = .returned (.tuple #[x, .int .i64 (solKI M Y), .int .i64 0]) ∧ Rats w' x (solL M Y) ∧ Ext W w') := fun u W hW hu =>
        solveA_any M Y _ _ W (HM0.out.ext (HEI.out.trans hW)) hu HTAB.out (by rw [HYL.out, HML.out]) hy9 (HT.out.pow.ext (HX0.out.trans hW))
      have HRA : Hid (∀ W, Ext wo W → Calls Tryz.prog 35 #[.slice ma r mc] W fun e w' => e = .returned (.tuple #[.int .i64 (rankI M : Int), .int .i64 0]) ∧ Ext W w') := fun W hW =>
        rankA_any M _ W (HM0.out.ext (HEI.out.trans hW)) HTAB.out (HT.out.pow.ext (HX0.out.trans hW))
      have HY9 := Lib.hid hy9
      have HF2 := Lib.hid f2; have HF5 := Lib.hid f5
      obtain ⟨L, hL⟩ : ∃ L, L = solL M Y := ⟨_, rfl⟩
      obtain ⟨rk, hrk⟩ : ∃ rk, rk = rankI M := ⟨_, rfl⟩
      obtain ⟨K, hK⟩ : ∃ K, K = solKI M Y := ⟨_, rfl⟩
      rw [← hL, ← hK] at HSO
      rw [← hrk] at HRA f3 f4
      rw [← hL] at HF2 HF5 f1
      rw [← hK] at f3
      have HLL : Hid (L.length = k) := f1
      have HKK : Hid (rk < k ∧ K = 2 ∨ rk = k ∧ K = 1) := by
        unfold Hid
        by_cases h : rk < k
        · rw [if_pos h] at f3; exact .inl ⟨h, f3⟩
        · rw [if_neg h] at f3; exact .inr ⟨by omega, f3⟩
      have HNM : Hid (k = colsN M) := by unfold Hid; rw [hM]; exact HN.out
      clear f1 f2 f3 f4 f5 hy9 hyf hY hX hXI hM hL hrk hK HAE
      go_wp2_with fail
      refine (HAP.out _ (Ext.refl _)).mono ?_
      rintro e w3 ⟨yv, rfl, hyv, hE3⟩
      have HYV := Lib.hid hyv
      have HE3 := Lib.hid hE3
      obtain ⟨ay, cy, hyv', y1, y2, -, -, -⟩ := hyv.open
      subst hyv'
      rw [HYL.out] at HYV y1 ⊢
      unfold maxLen at y2
      clear hyv hE3 HAP
      go_wp2_with fail
      refine (HSO.out _ _ HE3.out HYV.out).mono ?_
      rintro e w4 ⟨sv, rfl, hsv, hE4⟩
      have HSV := Lib.hid hsv
      have HE34 := Lib.hid hE4
      have HE4 := Lib.hid (HE3.out.trans hE4)
      obtain ⟨bs, cs, hsv', s1, s2, -, hscell⟩ := ListAt.open hsv
      subst hsv'
      rw [HLL.out] at HSV s1 ⊢
      have HSC := Lib.hid hscell
      unfold maxLen at s2
      clear hsv hE4 HSO hscell
      go_wp2_with fail
      refine (HRA.out _ HE4.out).mono ?_
      rintro e w5 ⟨rfl, hE5⟩
      have HE45 := Lib.hid hE5
      have HE5 := Lib.hid (HE4.out.trans hE5)
      have HX5 := Lib.hid (HX0.out.trans HE5.out)
      have HYV5 := Lib.hid (HYV.out.ext (HE34.out.trans hE5))
      have HSV5 := Lib.hid (Rats.ext HSV.out hE5)
      have HM5 := Lib.hid (HM0.out.ext (HEI.out.trans HE5.out))
      have q2 : ((k : Int) != (k : Int)) = false := by simp
      clear hE5 HRA HYV HE34
      go_upto_region 14 with fail
      go_cut [92] from 67 to 91 (fun s wx => s = .bool false ∧ wx = w5)
      case first =>
        rcases HKK.out with ⟨h, rfl⟩ | ⟨rfl, rfl⟩
        · have q4 : ((rk : Int) == (k : Int)) = false := by rw [beq_eq_false_iff_ne]; omega
          go_wp2_with fail
          go_meet
          exact ⟨rfl, rfl⟩
        · have q4 : ((rk : Int) == (rk : Int)) = true := by simp
          go_wp2_with fail
          go_meet
          exact ⟨rfl, rfl⟩
      case rest =>
        obtain ⟨rfl, rfl⟩ := hcut
        obtain ⟨w5, rfl⟩ : ∃ w5 : World, w5 = wc := ⟨_, rfl⟩
        go_wp2_with fail
        go_loopw [15] (fun t wr => ∃ i : Nat, i ≤ r ∧ t = .int .i64 i ∧ Hid (Ext w5 wr)) (fun t _ => r - (intOf t).toNat)
        case atStart => exact ⟨0, by omega, rfl, by first | exact Ext.refl _ | exact Ext.drew _⟩
        case round =>
          obtain ⟨i, hir, rfl, HEi⟩ := hrel
          obtain ⟨wi, rfl⟩ : ∃ wi : World, wi = wr := ⟨_, rfl⟩
          by_cases hil : i < r
          · have q3 : (i : Int) < (r : Int) := by omega
            have HXi := Lib.hid (HX5.out.trans HEi.out)
            obtain ⟨z, hz⟩ : ∃ z : Rat, z = 0 := ⟨_, rfl⟩
            have HZ := Lib.hid hz
            have HNUM0 : Hid (Calls Tryz.prog 46 #[.int .i64 0, .int .i64 1] wi fun e w' => e = .returned (.agg #[.string (intB z.num), .string (numB z.den)]) ∧ Ext wi w') := by
              have := number_any 0 1 wi (by omega) (by omega) (by omega) (HT.out.pow.ext HXi.out)
              rw [show mkRat 0 1 = (0 : Rat) by rfl, ← hz] at this
              exact this
            clear hz
            go_wp2_with fail
            refine HNUM0.out.mono ?_
            rintro e w6 ⟨rfl, hE6⟩
            have HE6 := Lib.hid (HEi.out.trans hE6)
            have hX6 := HXi.out.trans hE6
            have HX6 := Lib.hid hX6
            obtain ⟨W1, hW1, hEB, hsB, hbB⟩ := box2 w6 (.string ⟨#[]⟩) (.string ⟨#[]⟩) 81
            obtain ⟨r0, r1, rf⟩ := block2_cell hbB
            have f0 := rf 0
            have f1 := rf 1
            have HBQ : Hid (BoxQ ((W1.setCell ⟨w6.heap.size, 0, none⟩ (.string (intB z.num))).setCell ⟨w6.heap.size, 1, none⟩ (.string (numB z.den))) w6.heap.size z) := block2_set hbB
            have HXB : Hid (Ext w6 ((W1.setCell ⟨w6.heap.size, 0, none⟩ (.string (intB z.num))).setCell ⟨w6.heap.size, 1, none⟩ (.string (numB z.den)))) := ext_set2 hEB (Nat.le_refl _)
            obtain ⟨q, hq⟩ : ∃ q, M[i]? = some q := ⟨_, List.getElem?_eq_getElem (by rw [HML.out]; exact hil)⟩
            obtain ⟨bm, om, hma, -, hmcell⟩ := HMC.out (by intro e; rw [e] at hq; simp at hq)
            subst hma
            obtain ⟨vq, hvq, hcq⟩ := hmcell i q hq
            obtain ⟨aq, cq, hvq', q4, q5, -, -, hqcell⟩ := hvq.open
            subst hvq'
            have hql : q.length = k := by rw [((tabE_zero HTAB.out).2 q (List.mem_of_getElem? hq)).1]; exact HNM.out.symm
            rw [hql] at hcq q4
            have HQL := Lib.hid hql
            have HQC := Lib.hid hqcell
            have HCQ := Lib.hid hcq
            have HQ9 : Hid (Fit9 q) := tab_fit HTAB.out q (List.mem_of_getElem? hq)
            have HQE : Hid (∀ j, elI M i j = q.getD j 0) := fun j => rowQ_elI hq
            unfold maxLen at q5
            obtain ⟨f, hf⟩ : ∃ f : Nat → Rat, f = fun j => ((elI M i j : Int) : Rat) * L.getD j 0 := ⟨_, rfl⟩
            have HF := Lib.hid hf
            have HSUM : Hid (sumQ k f = ((Y.getD i 0 : Int) : Rat)) := by
              unfold Hid; rw [hf]; exact HF5.out i (by rw [HML.out]; exact hil)
            have hfR : ∀ j, j < k → RS 2632 (f j) := by
              intro j hj
              rw [hf]
              obtain ⟨l, hl⟩ : ∃ l, L[j]? = some l := ⟨_, List.getElem?_eq_getElem (by rw [HLL.out]; exact hj)⟩
              have h1 := HF2.out l (List.mem_of_getElem? hl)
              obtain ⟨p, hp⟩ : ∃ p, q[j]? = some p := ⟨_, List.getElem?_eq_getElem (by rw [hql]; exact hj)⟩
              have h2 : RS 131 ((p : Int) : Rat) := by
                refine IntLe.rs ⟨p, rfl, ?_⟩
                have h3 := HQ9.out p (List.mem_of_getElem? hp)
                have h4 : 1000000000 ≤ detK 1000000000 13 := by decide +kernel
                omega
              show RS 2632 (((elI M i j : Int) : Rat) * L.getD j 0)
              rw [HQE.out, List.getD_eq_getElem?_getD, hp, List.getD_eq_getElem?_getD, hl]
              exact (mul_RS h2 h1).mono (by omega)
            have hsR : ∀ j, j ≤ k → RS (1 + j * 2636) (sumQ j f) := by
              intro j
              induction j with
              | zero => intro _; exact rs_zero _ (by omega)
              | succ j ih => intro hj; exact (add_RS (ih (by omega)) (hfR j (by omega))).mono (by omega)
            have HFR2 := Lib.hid hfR; have HSR := Lib.hid hsR
            clear rf hbB hEB hsB hmcell hvq hcq hqcell hql hf hfR hsR hE6 hX6
            go_wp2_with fail
            go_loopw [17] (fun tv wr => ∃ j : Nat, j ≤ k ∧ tv = .int .i64 j ∧ Hid (Ext w6 wr) ∧ Hid (BoxQ wr w6.heap.size (sumQ j f))) (fun tv _ => k - (intOf tv).toNat)
            case atStart => exact ⟨0, by omega, rfl, HXB.out, by have h := HBQ.out; rw [HZ.out] at h; rw [HZ.out]; exact h⟩
            case round =>
              obtain ⟨j, hjk, rfl, HEJ, HBJ⟩ := hrel
              obtain ⟨wj, rfl⟩ : ∃ wj : World, wj = wr := ⟨_, rfl⟩
              have HXJ := Lib.hid (HX6.out.trans HEJ.out)
              obtain ⟨b0, b1, -, -⟩ := HBJ.out.cells
              obtain ⟨s, hs⟩ : ∃ s, s = sumQ j f := ⟨_, rfl⟩
              rw [← hs] at b0 b1
              by_cases hj : j < k
              · have hjk2 : (j : Int) < (k : Int) := by omega
                have m0 := (HEI.out.trans (HE5.out.trans (HE6.out.trans HEJ.out))).cell HCQ.out
                obtain ⟨p, hp⟩ : ∃ p, q[j]? = some p := ⟨_, List.getElem?_eq_getElem (by rw [HQL.out]; exact hj)⟩
                obtain ⟨bq, oq, haq, -, hqc⟩ := HQC.out (by intro e; rw [e] at hp; simp at hp)
                subst haq
                have m1 := (HEI.out.trans (HE5.out.trans (HE6.out.trans HEJ.out))).cell (hqc j p hp)
                obtain ⟨l, hl⟩ : ∃ l, L[j]? = some l := ⟨_, List.getElem?_eq_getElem (by rw [HLL.out]; exact hj)⟩
                obtain ⟨bl, ol, hbl, -, hlc⟩ := HSC.out (by omega) (by intro e; rw [e] at hl; simp at hl)
                subst hbl
                obtain ⟨ul, -, hul, hlc2⟩ := hlc j l hl
                unfold ratR at hul
                subst hul
                have l0 := (HE45.out.trans (HE6.out.trans HEJ.out)).cell (hlc2 0 (by omega))
                have l1 := (HE45.out.trans (HE6.out.trans HEJ.out)).cell (hlc2 1 (by omega))
                simp only [List.getElem?_cons_zero, List.getElem?_cons_succ, Nat.add_zero] at l0 l1
                rw [show ol + (j * 2 + 1) = ol + j * 2 + 1 by omega] at l1
                have hp9 := HQ9.out p (List.mem_of_getElem? hp)
                obtain ⟨pq, hpq⟩ : ∃ pq, pq = mkRat p 1 := ⟨_, rfl⟩
                have hpc : pq = ((p : Int) : Rat) := by rw [hpq]; exact (Rat.mkRat_one p)
                have hfj : f j = pq * l := by
                  rw [HF.out]
                  show ((elI M i j : Int) : Rat) * L.getD j 0 = _
                  rw [HQE.out, List.getD_eq_getElem?_getD, hp, List.getD_eq_getElem?_getD, hl, hpc]; rfl
                have hpR : RS 131 pq := by
                  rw [hpc]
                  refine IntLe.rs ⟨p, rfl, ?_⟩
                  have h4 : 1000000000 ≤ detK 1000000000 13 := by decide +kernel
                  omega
                have HNU : Hid (∀ W, Ext wj W → Calls Tryz.prog 46 #[.int .i64 p, .int .i64 1] W fun e w' => e = .returned (.agg #[.string (intB pq.num), .string (numB pq.den)]) ∧ Ext W w') := fun W hW => by
                  have := number_any p 1 W (by omega) (by omega) (by omega) (HT.out.pow.ext (HXJ.out.trans hW))
                  rw [← hpq] at this
                  exact this
                obtain ⟨m, hm⟩ : ∃ m, m = pq * l := ⟨_, rfl⟩
                have hmR : RS 2632 m := by rw [hm, ← hfj]; exact HFR2.out j hj
                have hlR := HF2.out l (List.mem_of_getElem? hl)
                have HMU : Hid (∀ W, Ext wj W → Calls Tryz.prog 48 #[.agg #[.string (intB pq.num), .string (numB pq.den)], .agg #[.string (intB l.num), .string (numB l.den)]] W fun e w' => e = .returned (.agg #[.string (intB m.num), .string (numB m.den)]) ∧ Ext W w') := fun W hW => by
                  rw [hm]
                  exact ratMul_any pq l W (hpR.mono (by omega)) (hlR.mono (by omega)) (HT.out.pow.ext (HXJ.out.trans hW))
                obtain ⟨s2, hs2⟩ : ∃ s2, s2 = s + m := ⟨_, rfl⟩
                have hsR : RS (1 + j * 2636) s := by rw [hs]; exact HSR.out j (by omega)
                have HAD : Hid (∀ W, Ext wj W → Calls Tryz.prog 47 #[.agg #[.string (intB s.num), .string (numB s.den)], .agg #[.string (intB m.num), .string (numB m.den)]] W fun e w' => e = .returned (.agg #[.string (intB s2.num), .string (numB s2.den)]) ∧ Ext W w') := fun W hW => by
                  rw [hs2]
                  exact ratAdd_any s m W (hsR.mono (by omega)) (hmR.mono (by omega)) (HT.out.pow.ext (HXJ.out.trans hW))
                have HBS : Hid (BoxQ wj w6.heap.size s) := by rw [hs]; exact HBJ.out
                have HNEXT : Hid (∀ W, Ext wj W → Ext w6 ((W.setCell ⟨w6.heap.size, 0, none⟩ (.string (intB s2.num))).setCell ⟨w6.heap.size, 1, none⟩ (.string (numB s2.den))) ∧ BoxQ ((W.setCell ⟨w6.heap.size, 0, none⟩ (.string (intB s2.num))).setCell ⟨w6.heap.size, 1, none⟩ (.string (numB s2.den))) w6.heap.size (sumQ (j + 1) f)) := fun W hW => by
                  refine ⟨ext_set2 (HEJ.out.trans hW) (Nat.le_refl _), ?_⟩
                  have h1 : sumQ (j + 1) f = s2 := by
                    show sumQ j f + f j = s2
                    rw [hs2, hs, hfj, hm]
                  rw [h1]
                  exact (HBS.out.ext hW).set s2
                have HFR : Hid (∀ W, Ext wj W → W.frozen? ⟨w6.heap.size, 0, none⟩ = false ∧ W.frozen? ⟨w6.heap.size, 1, none⟩ = false) := fun W hW => (HBS.out.ext hW).cells.2.2
                clear hs hp hqc hl hlc hlc2 hp9 hpq hpc hfj hpR hm hmR hlR hs2 hsR
                go_wp2_with fail
--<R23
                refine region_anyE (fun w' => w'.cell? ⟨w6.heap.size, 0, none⟩ = some (.string (intB s.num)) ∧ w'.cell? ⟨w6.heap.size, 1, none⟩ = some (.string (numB s.den)) ∧ w'.cell? ⟨bm, om + i, none⟩ = some (.slice (some ⟨bq, oq, none⟩) k cq) ∧ w'.cell? ⟨bq, oq + j, none⟩ = some (.int .i64 p) ∧ w'.cell? ⟨bl, ol + j * 2, none⟩ = some (.string (intB l.num)) ∧ w'.cell? ⟨bl, ol + j * 2 + 1, none⟩ = some (.string (numB l.den)) ∧ Hid (Ext wj w')) 15 (by kernel_rfl) ⟨(Ext.drew wj).cell b0, (Ext.drew wj).cell b1, (Ext.drew wj).cell m0, (Ext.drew wj).cell m1, (Ext.drew wj).cell l0, (Ext.drew wj).cell l1, Ext.drew wj⟩ (fun hHeld => ?_)
                refine anyE_take (v := ?_) 0 rfl (by kernel_rfl) (by kernel_rfl) (by kernel_rfl) (by kernel_rfl) (by kernel_rfl) (fun _ _ _ h => h) (Or.inl ⟨by rfl, ?_⟩) (by assumption) ?_
                rotate_left
                · ((intro w' hSw); (try dsimp only at hSw); (try go_simp); (try with_reducible rfl))
                (try simp only [Act.put, List.setIfInBounds_toArray, List.set_cons_zero, List.set_cons_succ])
                refine anyE_takeW (v := ?_) 1 rfl (by kernel_rfl) (by kernel_rfl) (by kernel_rfl) (by decide) (fun _ _ _ h => h) (Or.inl ⟨by rfl, ?_⟩) (by assumption) ?_
                rotate_left
                · ((intro w'); (try go_simp); (try with_reducible rfl))
                (try simp only [Act.put, List.setIfInBounds_toArray, List.set_cons_zero, List.set_cons_succ])
                refine anyE_takeW (v := ?_) 2 rfl (by kernel_rfl) (by kernel_rfl) (by kernel_rfl) (by decide) (fun _ _ _ h => h) (Or.inl ⟨by rfl, ?_⟩) (by assumption) ?_
                rotate_left
                · ((intro w'); (try go_simp); (try with_reducible rfl))
                (try simp only [Act.put, List.setIfInBounds_toArray, List.set_cons_zero, List.set_cons_succ])
                refine anyE_takeW (v := ?_) 3 rfl (by kernel_rfl) (by kernel_rfl) (by kernel_rfl) (by decide) (fun _ _ _ h => h) (Or.inl ⟨by rfl, ?_⟩) (by assumption) ?_
                rotate_left
                · ((intro w'); (try go_simp); (try with_reducible rfl))
                (try simp only [Act.put, List.setIfInBounds_toArray, List.set_cons_zero, List.set_cons_succ])
                refine anyE_take (v := ?_) 4 rfl (by kernel_rfl) (by kernel_rfl) (by kernel_rfl) (by kernel_rfl) (by kernel_rfl) (fun _ _ _ h => h) (Or.inl ⟨by rfl, ?_⟩) (by assumption) ?_
                rotate_left
                · ((intro w' hSw); (try dsimp only at hSw); (try go_simp); (try with_reducible rfl))
                (try simp only [Act.put, List.setIfInBounds_toArray, List.set_cons_zero, List.set_cons_succ])
                refine anyE_takeW (v := ?_) 5 rfl (by kernel_rfl) (by kernel_rfl) (by kernel_rfl) (by decide) (fun _ _ _ h => h) (Or.inl ⟨by rfl, ?_⟩) (by assumption) ?_
                rotate_left
                · ((intro w'); (try go_simp); (try with_reducible rfl))
                (try simp only [Act.put, List.setIfInBounds_toArray, List.set_cons_zero, List.set_cons_succ])
                refine anyE_takeW (v := ?_) 6 rfl (by kernel_rfl) (by kernel_rfl) (by kernel_rfl) (by decide) (fun _ _ _ h => h) (Or.inl ⟨by rfl, ?_⟩) (by assumption) ?_
                rotate_left
                · ((intro w'); (try go_simp); (try with_reducible rfl))
                (try simp only [Act.put, List.setIfInBounds_toArray, List.set_cons_zero, List.set_cons_succ])
                refine anyE_take (v := ?_) 7 rfl (by kernel_rfl) (by kernel_rfl) (by kernel_rfl) (by kernel_rfl) (by kernel_rfl) (fun _ _ _ h => h) (Or.inl ⟨by rfl, ?_⟩) (by assumption) ?_
                rotate_left
                · ((intro w' hSw); (try dsimp only at hSw); (try go_simp); (try with_reducible rfl))
                (try simp only [Act.put, List.setIfInBounds_toArray, List.set_cons_zero, List.set_cons_succ])
                refine anyE_takeW (v := ?_) 9 rfl (by kernel_rfl) (by kernel_rfl) (by kernel_rfl) (by decide) (fun _ _ _ h => h) (Or.inl ⟨by rfl, ?_⟩) (by assumption) ?_
                rotate_left
                · ((intro w'); (try go_simp); (try with_reducible rfl))
                (try simp only [Act.put, List.setIfInBounds_toArray, List.set_cons_zero, List.set_cons_succ])
                refine anyE_takeW (v := ?_) 10 rfl (by kernel_rfl) (by kernel_rfl) (by kernel_rfl) (by decide) (fun _ _ _ h => h) (Or.inl ⟨by rfl, ?_⟩) (by assumption) ?_
                rotate_left
                · ((intro w'); (try go_simp); (try with_reducible rfl))
                (try simp only [Act.put, List.setIfInBounds_toArray, List.set_cons_zero, List.set_cons_succ])
                refine anyE_takeW (v := ?_) 11 rfl (by kernel_rfl) (by kernel_rfl) (by kernel_rfl) (by decide) (fun _ _ _ h => h) (Or.inl ⟨by rfl, ?_⟩) (by assumption) ?_
                rotate_left
                · ((intro w'); (try go_simp); (try with_reducible rfl))
                (try simp only [Act.put, List.setIfInBounds_toArray, List.set_cons_zero, List.set_cons_succ])
                refine anyE_take (v := ?_) 12 rfl (by kernel_rfl) (by kernel_rfl) (by kernel_rfl) (by kernel_rfl) (by kernel_rfl) (fun _ _ _ h => h) (Or.inl ⟨by rfl, ?_⟩) (by assumption) ?_
                rotate_left
                · ((intro w' hSw); (try dsimp only at hSw); (try go_simp); (try with_reducible rfl))
                (try simp only [Act.put, List.setIfInBounds_toArray, List.set_cons_zero, List.set_cons_succ])
                refine anyE_step 8 (by kernel_rfl) rfl (fun K hK => ?_)
                go_simp
                (go_at_call 46; refine (HNU.out _ hHeld.2.2.2.2.2.2.out).mono ?_)
                rintro e wz ⟨rfl, hEz⟩
                go_wp2_with fail
                refine hK.out _ _ (⟨hEz.cell hHeld.1, hEz.cell hHeld.2.1, hEz.cell hHeld.2.2.1, hEz.cell hHeld.2.2.2.1, hEz.cell hHeld.2.2.2.2.1, hEz.cell hHeld.2.2.2.2.2.1, Ext.trans hHeld.2.2.2.2.2.2.out hEz⟩) (fun hHeld => ?_)
                clear hK K
                (try simp only [Act.put, List.setIfInBounds_toArray, List.set_cons_zero, List.set_cons_succ])
                refine anyE_step 13 (by kernel_rfl) rfl (fun K hK => ?_)
                go_simp
                (go_at_call 48; refine (HMU.out _ hHeld.2.2.2.2.2.2.out).mono ?_)
                rintro e wz ⟨rfl, hEz⟩
                go_wp2_with fail
                refine hK.out _ _ (⟨hEz.cell hHeld.1, hEz.cell hHeld.2.1, hEz.cell hHeld.2.2.1, hEz.cell hHeld.2.2.2.1, hEz.cell hHeld.2.2.2.2.1, hEz.cell hHeld.2.2.2.2.2.1, Ext.trans hHeld.2.2.2.2.2.2.out hEz⟩) (fun hHeld => ?_)
                clear hK K
                (try simp only [Act.put, List.setIfInBounds_toArray, List.set_cons_zero, List.set_cons_succ])
                refine anyE_step 14 (by kernel_rfl) rfl (fun K hK => ?_)
                go_simp
                (go_at_call 47; refine (HAD.out _ hHeld.2.2.2.2.2.2.out).mono ?_)
                rintro e wz ⟨rfl, hEz⟩
                go_wp2_with fail
                refine hK.out _ _ (⟨hEz.cell hHeld.1, hEz.cell hHeld.2.1, hEz.cell hHeld.2.2.1, hEz.cell hHeld.2.2.2.1, hEz.cell hHeld.2.2.2.2.1, hEz.cell hHeld.2.2.2.2.2.1, Ext.trans hHeld.2.2.2.2.2.2.out hEz⟩) (fun hHeld => ?_)
                clear hK K
                (try simp only [Act.put, List.setIfInBounds_toArray, List.set_cons_zero, List.set_cons_succ])
                have z1 := hHeld.1
                have z2 := hHeld.2.1
                obtain ⟨z4, z5⟩ := HFR.out _ hHeld.2.2.2.2.2.2.out
                have HM7 := HNEXT.out _ hHeld.2.2.2.2.2.2.out
                refine anyE_last 15 (by kernel_rfl) (by kernel_rfl) (by kernel_rfl) rfl (fun K hK => ?_)
                go_simp
                refine hK.out _ _ ?_
                clear hK K
                (try simp only [Act.put, List.setIfInBounds_toArray, List.set_cons_zero, List.set_cons_succ])
              -->R23
                go_wp2_with fail
                go_roundw
                case rel => exact ⟨j + 1, by omega, by go_num, HM7.1, HM7.2⟩
                case measure => simp [intOf]; omega
              · obtain rfl : j = k := by omega
                have hjk2 : ¬ (j : Int) < (j : Int) := by omega
                obtain ⟨y, hy⟩ : ∃ y, Y[i]? = some y := ⟨_, List.getElem?_eq_getElem (by rw [HYL.out]; exact hil)⟩
                obtain ⟨ay', cy', hay, -, -, -, -, hyc⟩ := HYV5.out.open
                obtain ⟨bY, oY, haY, -, hyc2⟩ := hyc (by intro e; rw [e] at hy; simp at hy)
                simp only [Value.slice.injEq] at hay
                obtain ⟨rfl, -, -⟩ := hay
                subst haY
                have d0 := (HE6.out.trans HEJ.out).cell (hyc2 i y hy)
                have hy9 := HY9.out y (List.mem_of_getElem? hy)
                have hsy : mkRat y 1 = s := by
                  rw [hs, HSUM.out, List.getD_eq_getElem?_getD, hy]; exact Rat.mkRat_one y
                obtain ⟨sn, hsn⟩ : ∃ z, z = intB s.num := ⟨_, rfl⟩
                obtain ⟨sd, hsd⟩ : ∃ z, z = numB s.den := ⟨_, rfl⟩
                have HNU : Hid (∀ W, Ext wj W → Calls Tryz.prog 46 #[.int .i64 y, .int .i64 1] W fun e w' => e = .returned (.agg #[.string sn, .string sd]) ∧ Ext W w') := fun W hW => by
                  have := number_any y 1 W (by omega) (by omega) (by omega) (HT.out.pow.ext (HXJ.out.trans hW))
                  rw [hsy] at this
                  rw [hsn, hsd]
                  exact this
                rw [← hsn] at b0
                rw [← hsd] at b1
                have HE0 : Hid (Ext wj wj.drew) := Ext.drew wj
                have y1 := HE0.out.cell b0
                have y2 := HE0.out.cell b1
                have y3 := HE0.out.cell d0
                clear hs hy hyc hyc2 hy9 hsy hsn hsd
                go_wp2_with fail
                go_region_held3 (fun w' => w'.cell? ⟨w6.heap.size, 0, none⟩ = some (.string sn) ∧ w'.cell? ⟨w6.heap.size, 1, none⟩ = some (.string sd) ∧ w'.cell? ⟨bY, oY + i, none⟩ = some (.int .i64 y) ∧ Hid (Ext wj w'))
                  (first | exact ⟨z1, z2, z3, z4⟩ | exact ⟨y1, y2, y3, HE0⟩ | exact ⟨b0, b1, d0, HE0⟩ | go_keep)
                  (first
                    | (go_at_call 46; have hc := HNU.out _ (Hid.out (p := Ext wj _) (by assumption)); with_reducible refine hc.mono ?_; clear hc; rintro e wz ⟨rfl, hEz⟩; have q1 := hEz.cell (a := ⟨w6.heap.size, 0, none⟩) (v := .string sn) (by assumption); have q2 := hEz.cell (a := ⟨w6.heap.size, 1, none⟩) (v := .string sd) (by assumption); have q3 := hEz.cell (a := ⟨bY, oY + i, none⟩) (v := .int .i64 y) (by assumption); have q4 := Lib.hid (Ext.trans (Hid.out (p := Ext wj _) (by assumption)) hEz); (try clear z1 z2 z3 z4); have z1 := q1; have z2 := q2; have z3 := q3; have z4 := q4; clear q1 q2 q3 q4 hEz))
                all_goals
                  have HX9 := z4
                  go_wp2_with fail
                  go_roundw
                  case rel => exact ⟨i + 1, by omega, by go_num, HE6.out.trans (HEJ.out.trans HX9.out)⟩
                  case measure => simp [intOf]; omega
          · obtain rfl : i = r := by omega
            have q3 : ¬ (i : Int) < (i : Int) := by omega
            go_wp2_with fail
            go_ret
            exact ⟨rfl, HX5.out.trans HEi.out⟩
end Go.Proofs.YtpeinobepiodaaaGreatDoor
