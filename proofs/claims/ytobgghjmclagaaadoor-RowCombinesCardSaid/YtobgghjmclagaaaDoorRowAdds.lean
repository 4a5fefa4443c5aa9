/- The reference's Add and Sub; same; the walk of RowAdds. -/
import Derived.Test.YtobgghjmclagaaaDoorAddSub
import Derived.Test.YtobgghjmclagaaaDoorRowContents
namespace Go.Proofs.YtobgghjmclagaaaDoor
set_option linter.unusedVariables false
set_option linter.unusedSimpArgs false
open Go.RowKit

theorem rowE_all {l : List Int} (h : l.length ≤ 64) : rowE l = if l.all fitB then 0 else 4 := by
  unfold rowE
  rw [if_neg (by omega)]
  cases ha : l.all fitB with
  | true =>
    rw [if_neg, if_pos rfl]
    rw [Bool.not_eq_true, List.any_eq_false]
    intro x hx
    simp [List.all_eq_true.1 ha x hx]
  | false =>
    rw [if_pos]
    · rfl
    · obtain ⟨x, hx, hf⟩ := List.all_eq_false.1 ha
      exact List.any_eq_true.2 ⟨x, hx, by simpa using hf⟩
theorem combS_two (s : Int) (xs ys : List Int) (hl : xs.length = ys.length) : combS xs.length [xs, ys] [1, s] = List.zipWith (fun x y => x + y * s) xs ys := by
  unfold combS colL
  apply List.ext_getElem
  · simp [hl]
  · intro i h1 h2
    have hi : i < xs.length := by simpa using h1
    have hi2 : i < ys.length := by omega
    simp [sumI, hi, hi2]
theorem zip_add (xs ys : List Int) : List.zipWith (fun x y => x + y * 1) xs ys = List.zipWith (· + ·) xs ys := by
  congr 1; funext x y; omega
theorem zip_sub (xs ys : List Int) : List.zipWith (fun x y => x + y * -1) xs ys = List.zipWith (· - ·) xs ys := by
  congr 1; funext x y; omega

set_option maxRecDepth 100000 in
set_option maxHeartbeats 1000000 in
theorem refAdd_any (xs ys : List Int) (u v : Value) (w : World) (h : Ints w u xs) (k : Ints w v ys) (ox : okRow xs) (oy : okRow ys) (hl : xs.length = ys.length) :
    Calls Tryd.prog 34 #[u, v] w fun e w' => ∃ r, e = .returned (.tuple #[r, .bool ((List.zipWith (· + ·) xs ys).all fitB)]) ∧ Ext w w' ∧ ((List.zipWith (· + ·) xs ys).all fitB = true → Ints w' r (List.zipWith (· + ·) xs ys)) ∧ ((List.zipWith (· + ·) xs ys).all fitB = false → r = .slice none 0 0) := by
  have HX := Lib.hid h; have HY := Lib.hid k
  obtain ⟨a, c, rfl, -, -, -, -, -⟩ := h.open
  obtain ⟨a', c', rfl, -, -, -, -, -⟩ := k.open
  have HL : Hid (combS xs.length [xs, ys] [1, 1] = List.zipWith (· + ·) xs ys) := by unfold Hid; rw [combS_two 1 xs ys hl, zip_add]
  have HO := Lib.hid (And.intro ox.2 oy.2)
  have h64 := ox.1
  have HCB := Lib.hid (fun T => refCombine_any [xs, ys] [1, 1] xs.length _ _ _
    ((rows_lit2 h k T).ext (Ext.alloc _ (.cells #[.int .i64 1, .int .i64 1] 3)))
    (Ints.litAt (n := w.heap.size + 1) (by simp) [1, 1] 3 2 rfl (by simp [maxLen]) (by intro x hx; simp at hx; omega) #[.int .i64 1, .int .i64 1] rfl) (by simp) (by intro r hr; simp at hr; rcases hr with rfl | rfl; exact ⟨rfl, HO.out.1⟩; exact ⟨hl.symm, HO.out.2⟩) (by intro x hx; simp at hx; omega) rfl (by simp) h64)
  unfold combOk at HCB
  rw [HL.out] at HCB
  clear h k ox oy hl HL HO
  obtain ⟨zs, hzs⟩ : ∃ zs, List.zipWith (· + ·) xs ys = zs := ⟨_, rfl⟩
  rw [hzs] at HCB ⊢
  obtain ⟨ok, hok⟩ : ∃ ok, zs.all fitB = ok := ⟨_, rfl⟩
  rw [hok] at HCB ⊢
  clear hzs hok
  go_enter Tryd.func34, Tryd.ntmps34
  go_wp2_with fail
  refine (HCB.out _).mono ?_
  rintro e w3 ⟨r, rfl, hE3, hr0, hr1⟩
  have HR := Lib.hid (And.intro hr0 hr1)
  have HE3 := Lib.hid (Ext.trans (Ext.trans (Ext.alloc _ _) (Ext.alloc _ _)) hE3)
  clear hr0 hr1 hE3 HCB
  go_wp2_with fail
  go_ret2
  exact ⟨_, rfl, HE3.out, HR.out.1, HR.out.2⟩

set_option maxRecDepth 100000 in
set_option maxHeartbeats 1000000 in
theorem refSub_any (xs ys : List Int) (u v : Value) (w : World) (h : Ints w u xs) (k : Ints w v ys) (ox : okRow xs) (oy : okRow ys) (hl : xs.length = ys.length) :
    Calls Tryd.prog 35 #[u, v] w fun e w' => ∃ r, e = .returned (.tuple #[r, .bool ((List.zipWith (· - ·) xs ys).all fitB)]) ∧ Ext w w' ∧ ((List.zipWith (· - ·) xs ys).all fitB = true → Ints w' r (List.zipWith (· - ·) xs ys)) ∧ ((List.zipWith (· - ·) xs ys).all fitB = false → r = .slice none 0 0) := by
  have HX := Lib.hid h; have HY := Lib.hid k
  obtain ⟨a, c, rfl, -, -, -, -, -⟩ := h.open
  obtain ⟨a', c', rfl, -, -, -, -, -⟩ := k.open
  have HL : Hid (combS xs.length [xs, ys] [1, -1] = List.zipWith (· - ·) xs ys) := by unfold Hid; rw [combS_two (-1) xs ys hl, zip_sub]
  have HO := Lib.hid (And.intro ox.2 oy.2)
  have h64 := ox.1
  have HCB := Lib.hid (fun T => refCombine_any [xs, ys] [1, -1] xs.length _ _ _
    ((rows_lit2 h k T).ext (Ext.alloc _ (.cells #[.int .i64 1, .int .i64 (-1)] 3)))
    (Ints.litAt (n := w.heap.size + 1) (by simp) [1, -1] 3 2 rfl (by simp [maxLen]) (by intro x hx; simp at hx; omega) #[.int .i64 1, .int .i64 (-1)] rfl) (by simp) (by intro r hr; simp at hr; rcases hr with rfl | rfl; exact ⟨rfl, HO.out.1⟩; exact ⟨hl.symm, HO.out.2⟩) (by intro x hx; simp at hx; omega) rfl (by simp) h64)
  unfold combOk at HCB
  rw [HL.out] at HCB
  clear h k ox oy hl HL HO
  obtain ⟨zs, hzs⟩ : ∃ zs, List.zipWith (· - ·) xs ys = zs := ⟨_, rfl⟩
  rw [hzs] at HCB ⊢
  obtain ⟨ok, hok⟩ : ∃ ok, zs.all fitB = ok := ⟨_, rfl⟩
  rw [hok] at HCB ⊢
  clear hzs hok
  go_enter Tryd.func35, Tryd.ntmps35
  go_wp2_with fail
  refine (HCB.out _).mono ?_
  rintro e w3 ⟨r, rfl, hE3, hr0, hr1⟩
  have HR := Lib.hid (And.intro hr0 hr1)
  have HE3 := Lib.hid (Ext.trans (Ext.trans (Ext.alloc _ _) (Ext.alloc _ _)) hE3)
  clear hr0 hr1 hE3 HCB
  go_wp2_with fail
  go_ret2
  exact ⟨_, rfl, HE3.out, HR.out.1, HR.out.2⟩

set_option maxHeartbeats 1000000 in
theorem same_any (ok : Bool) (er : Int) (r v : Value) (zs : List Int) (w : World) (he : er = if ok then 0 else 4) (h1 : ok = true → Ints w r zs ∧ Ints w v zs) (h2 : ok = false → r = .slice none 0 0) :
    Calls Tryd.prog 33 #[r, .int .i64 er, v, .bool ok] w fun e w' => e = .returned (.bool true) ∧ Ext w w' := by
  cases ok with
  | true =>
    obtain rfl : er = 0 := he
    obtain ⟨k1, k2⟩ := h1 rfl
    have HQ := Lib.hid (refEqual_any zs zs r v w k1 k2)
    rw [beq_self_eq_true] at HQ
    obtain ⟨a, c, rfl, -, -, -, -, -⟩ := k1.open
    obtain ⟨a', c', rfl, -, -, -, -, -⟩ := k2.open
    clear h1 h2 k1 k2
    go_enter Tryd.func33, Tryd.ntmps33
    go_wp2_with fail
    refine HQ.out.mono ?_
    rintro e w2 ⟨rfl, hE⟩
    have HE := Lib.hid hE
    clear hE HQ
    go_wp2_with fail
    go_ret
    exact ⟨rfl, HE.out⟩
  | false =>
    obtain rfl : er = 4 := he
    obtain rfl := h2 rfl
    clear h1 h2
    go_enter Tryd.func33, Tryd.ntmps33
    go_wp2_with fail
    go_ret
    exact ⟨rfl, Ext.refl _⟩

theorem zeros_map {xs : List Int} (k : Int) (hz : xs.any (· != 0) = false) : xs.map (k * ·) = xs := by
  apply List.ext_getElem
  · simp
  · intro i h1 h2
    have hx : xs[i]'h2 = 0 := by
      have := List.any_eq_false.1 hz (xs[i]'h2) (List.getElem_mem _)
      simpa using this
    simp [hx]
theorem rsc_scale {xs : List Int} (h : okRow xs) (k : Int) : scaleE k xs = if rscOk xs k then 0 else 4 := by
  unfold scaleE rscOk
  rw [if_pos ((rowE_zero xs).2 h)]
  cases hz : xs.any (· != 0) with
  | false =>
    rw [zeros_map k hz, (rowE_zero xs).2 h]
    simp
  | true =>
    cases hf : fitB k with
    | true => rw [rowE_all (by simpa using h.1)]; simp
    | false => simp

set_option maxRecDepth 100000 in
set_option maxHeartbeats 4000000 in
theorem adds_walk (xs ys : List Int) (k : Int) (u v : Value) (w : World) (h : Ints w u xs) (hy : Ints w v ys) (hk : -9223372036854775808 ≤ k ∧ k ≤ 9223372036854775807) (ht : Pow10 w) :
    Calls Tryd.prog 6 #[u, v, .int .i64 k] w fun e w' => e = .returned (.bool true) ∧ Ext w w' := by
  have HX := Lib.hid h; have HY := Lib.hid hy; have HT := Lib.hid ht
  obtain ⟨a, c, rfl, -, -, -, -, -⟩ := h.open
  obtain ⟨a', c', rfl, -, -, -, -, -⟩ := hy.open
  clear h hy ht hk
  by_cases hl : 80 < xs.length ∨ 80 < ys.length
  · have hcase : (80 : Int) < (xs.length : Int) ∨ (¬ (80 : Int) < (xs.length : Int) ∧ (80 : Int) < (ys.length : Int)) := by omega
    clear hl
    rcases hcase with q1 | ⟨q1, q2⟩
    all_goals
      go_enter Tryd.func6, Tryd.ntmps6
      go_wp2_with fail
      refine (known_any _ HT.out).mono ?_
      rintro e w1 ⟨rfl, hE1⟩
      have HE1 := Lib.hid hE1
      have HT1 := Lib.hid (HT.out.ext hE1)
      clear hE1
      go_wp2_with fail
      refine (known_any _ HT1.out).mono ?_
      rintro e w2 ⟨rfl, hE2⟩
      have HE2 := Lib.hid (Ext.trans HE1.out hE2)
      clear hE2
      go_wp2_with fail
      go_ret
      exact ⟨rfl, HE2.out⟩
  · have q1 : ¬ (80 : Int) < (xs.length : Int) := by omega
    have q2 : ¬ (80 : Int) < (ys.length : Int) := by omega
    clear hl
    have A1 := Lib.hid (fun W' he => add_any xs ys _ _ W' (HX.out.ext (w' := W') he) (HY.out.ext he))
    have A2 := Lib.hid (fun W' he => sub_any xs ys _ _ W' (HX.out.ext (w' := W') he) (HY.out.ext he))
    have A3 := Lib.hid (fun W' he => neg_any xs _ W' (HX.out.ext (w' := W') he))
    have A4 := Lib.hid (fun W' he => scale_any xs k _ W' (HX.out.ext (w' := W') he))
    have A5 := Lib.hid (fun W' he => refCheck_any xs _ W' (HX.out.ext (w' := W') he))
    have A6 := Lib.hid (fun W' he => refCheck_any ys _ W' (HY.out.ext (w' := W') he))
    by_cases he : rowE xs = 0
    · have HOK := Lib.hid ((rowE_zero xs).1 he)
      have HRX := Lib.hid he
      have HN0 := Lib.hid (neg_ok HOK.out)
      have HSC := Lib.hid (rsc_scale HOK.out k)
      have A7 := Lib.hid (fun W' he => refScale_any xs k _ W' (HX.out.ext (w' := W') he) HOK.out)
      have A8 := Lib.hid (fun W' he => refNeg_any xs _ W' (HX.out.ext (w' := W') he) HOK.out)
      rw [he] at A5
      rw [HN0.out, neg_map] at A3
      rw [HSC.out] at A4
      obtain ⟨sok, hsok⟩ : ∃ sok, rscOk xs k = sok := ⟨_, rfl⟩
      rw [hsok] at A4 A7
      obtain ⟨sce, hsce⟩ : ∃ sce : Int, (if sok = true then (0 : Int) else 4) = sce := ⟨_, rfl⟩
      rw [hsce] at A4
      have HSCE := Lib.hid hsce.symm
      have HS0 : Hid (sok = true → sce = 0) := by intro e; rw [HSCE.out, e]; rfl
      have HS1 : Hid (sok = false → ¬ sce = 0) := by intro e; rw [HSCE.out, e]; decide
      have hw : (rowE ys = 4 ∧ bothE xs ys = 4) ∨ (rowE ys = 0 ∧ ((xs.length : Int) != (ys.length : Int)) = true ∧ bothE xs ys = 5) ∨ (rowE ys = 0 ∧ ((xs.length : Int) != (ys.length : Int)) = false ∧ bothE xs ys = 0) := by
        have hx0 := HRX.out
        rcases rowE_four ys with h0 | h4
        · by_cases hln : xs.length = ys.length
          · exact .inr (.inr ⟨h0, by simp [hln], by simp [bothE, hx0, h0, hln]⟩)
          · exact .inr (.inl ⟨h0, by simp; omega, by simp [bothE, hx0, h0, hln]⟩)
        · exact .inl ⟨h4, by simp [bothE, hx0, h4]⟩
      have HW := Lib.hid hw
      obtain ⟨ae, hae⟩ : ∃ ae, opE (· + ·) xs ys = ae := ⟨_, rfl⟩
      obtain ⟨be, hbe⟩ : ∃ be, opE (· - ·) xs ys = be := ⟨_, rfl⟩
      obtain ⟨ye, hye⟩ : ∃ ye, rowE ys = ye := ⟨_, rfl⟩
      have HAE := Lib.hid hae; have HBE := Lib.hid hbe; have HYE := Lib.hid hye
      rw [hae] at A1
      rw [hbe] at A2
      rw [hye] at A6
      clear he hsok hsce hw hae hbe hye HN0 HSC
      go_enter Tryd.func6, Tryd.ntmps6
      go_wp2_with fail
      refine (known_any _ HT.out).mono ?_
      rintro e w1 ⟨rfl, hE1⟩
      have HE1 := Lib.hid hE1
      have B1 := Lib.hid (A1.out w1 hE1)
      clear hE1 A1
      go_wp2_with fail
      refine B1.out.mono ?_
      rintro e w2 ⟨r1, rfl, hE2, hr0, hr1⟩
      have HR1 := Lib.hid (And.intro hr0 hr1)
      have HE2 := Lib.hid (Ext.trans HE1.out hE2)
      have B2 := Lib.hid (A2.out w2 HE2.out)
      clear hE2 B1 hr0 hr1 A2
      go_wp2_with fail
      refine B2.out.mono ?_
      rintro e w3 ⟨r2, rfl, hE3, hr0, hr1⟩
      have HR2 := Lib.hid (And.intro hr0 hr1)
      have HE3 := Lib.hid (Ext.trans HE2.out hE3)
      have HE23 := Lib.hid hE3
      have B3 := Lib.hid (A3.out w3 HE3.out)
      clear hE3 B2 hr0 hr1 A3
      go_wp2_with fail
      refine B3.out.mono ?_
      rintro e w4 ⟨r3, rfl, hE4, hr0, -⟩
      have HR3 := Lib.hid (hr0 (by first | rfl | trivial))
      have HE4 := Lib.hid (Ext.trans HE3.out hE4)
      have HE34 := Lib.hid hE4
      have B4 := Lib.hid (A4.out w4 HE4.out)
      clear hE4 B3 hr0 A4
      go_wp2_with fail
      refine B4.out.mono ?_
      rintro e w5 ⟨r4, rfl, hE5, hr0, hr1⟩
      have HR4 := Lib.hid (And.intro hr0 hr1)
      have HE5 := Lib.hid (Ext.trans HE4.out hE5)
      have HE45 := Lib.hid hE5
      have B5 := Lib.hid (A5.out w5 HE5.out)
      have B6 := Lib.hid (A6.out w5 HE5.out)
      have B7 := Lib.hid (A7.out w5 HE5.out)
      clear hE5 B4 hr0 hr1 A5 A6 A7
      go_wp2_with fail
      refine B5.out.mono ?_
      rintro e w' ⟨rfl, rfl⟩
      clear B5
      go_wp2_with fail
      refine B6.out.mono ?_
      rintro e w' ⟨rfl, rfl⟩
      clear B6
      go_wp2_with fail
      refine B7.out.mono ?_
      rintro e w6 ⟨rv, rfl, hE6, hr0, hr1⟩
      have HRV := Lib.hid (And.intro hr0 hr1)
      have HE6 := Lib.hid (Ext.trans HE5.out hE6)
      have HE56 := Lib.hid hE6
      have B8 := Lib.hid (A8.out w6 HE6.out)
      clear hE6 B7 hr0 hr1 A8
      go_wp2_with fail
      refine B8.out.mono ?_
      rintro e w7 ⟨rn, rfl, hE7, hI7⟩
      have HE7 := Lib.hid (Ext.trans HE6.out hE7)
      have HE67 := Lib.hid hE7
      have B9 := Lib.hid (refEqual_any _ _ _ _ w7 (((HR3.out.ext HE45.out).ext HE56.out).ext hE7) hI7)
      rw [beq_self_eq_true] at B9
      clear hE7 B8 hI7 HR3
      go_wp2_with fail
      refine B9.out.mono ?_
      rintro e w8 ⟨rfl, hE8⟩
      have HE8 := Lib.hid (Ext.trans HE7.out hE8)
      have HE78 := Lib.hid hE8
      have B10 := Lib.hid (same_any sok sce r4 rv (xs.map (k * ·)) w8 HSCE.out (fun e => ⟨(((HR4.out.1 (HS0.out e)).ext HE56.out).ext HE67.out).ext hE8, ((HRV.out.1 e).ext HE67.out).ext hE8⟩) (fun e => HR4.out.2 (HS1.out e)))
      clear hE8 B9
      go_wp2_with fail
      refine B10.out.mono ?_
      rintro e w9 ⟨rfl, hE9⟩
      have HE9 := Lib.hid (Ext.trans HE8.out hE9)
      have HE29 := Lib.hid (((((((HE23.out.trans HE34.out).trans HE45.out).trans HE56.out).trans HE67.out).trans HE78.out).trans hE9))
      have HE39 := Lib.hid ((((((HE34.out).trans HE45.out).trans HE56.out).trans HE67.out).trans HE78.out).trans hE9)
      clear hE9 B10 HE23 HE34 HE45 HE56 HE67 HE78 HRV HR4
      rcases HW.out with ⟨hy0, hb⟩ | ⟨hy0, hln, hb⟩ | ⟨hy0, hln, hb⟩
      · obtain rfl : ye = 4 := by rw [← HYE.out, hy0]
        obtain rfl : ae = 4 := by rw [← HAE.out]; unfold opE; rw [if_neg (by rw [hb]; decide), hb]
        obtain rfl : be = 4 := by rw [← HBE.out]; unfold opE; rw [if_neg (by rw [hb]; decide), hb]
        obtain rfl := HR1.out.2 (by decide)
        obtain rfl := HR2.out.2 (by decide)
        clear hy0 hb HW HAE HBE HYE
        go_wp2_with fail
        go_ret
        exact ⟨rfl, HE9.out⟩
      · obtain rfl : ye = 0 := by rw [← HYE.out, hy0]
        obtain rfl : ae = 5 := by rw [← HAE.out]; unfold opE; rw [if_neg (by rw [hb]; decide), hb]
        obtain rfl : be = 5 := by rw [← HBE.out]; unfold opE; rw [if_neg (by rw [hb]; decide), hb]
        obtain rfl := HR1.out.2 (by decide)
        obtain rfl := HR2.out.2 (by decide)
        clear hy0 hb HW HAE HBE HYE
        go_wp2_with fail
        go_ret
        exact ⟨rfl, HE9.out⟩
      · obtain rfl : ye = 0 := by rw [← HYE.out, hy0]
        obtain ⟨bx, byy, bl⟩ := bothE_zero hb
        have hzl : (List.zipWith (· + ·) xs ys).length ≤ 64 := by rw [List.length_zipWith]; have := bx.1; omega
        have hzl2 : (List.zipWith (· - ·) xs ys).length ≤ 64 := by rw [List.length_zipWith]; have := bx.1; omega
        have HAE2 : Hid (ae = if (List.zipWith (· + ·) xs ys).all fitB then 0 else 4) := by unfold Hid; rw [← HAE.out]; unfold opE; rw [if_pos hb, rowE_all hzl]
        have HBE2 : Hid (be = if (List.zipWith (· - ·) xs ys).all fitB then 0 else 4) := by unfold Hid; rw [← HBE.out]; unfold opE; rw [if_pos hb, rowE_all hzl2]
        have B11 := Lib.hid (refAdd_any xs ys _ _ w9 (HX.out.ext HE9.out) (HY.out.ext HE9.out) bx byy bl)
        have B12 := Lib.hid (fun W' he => refSub_any xs ys _ _ W' (HX.out.ext (w' := W') he) (HY.out.ext he) bx byy bl)
        obtain ⟨zs, hzs⟩ : ∃ zs, List.zipWith (· + ·) xs ys = zs := ⟨_, rfl⟩
        obtain ⟨ds, hds⟩ : ∃ ds, List.zipWith (· - ·) xs ys = ds := ⟨_, rfl⟩
        rw [hzs] at B11 HAE2 HR1
        rw [hds] at B12 HBE2 HR2
        obtain ⟨ok1, hok1⟩ : ∃ ok, zs.all fitB = ok := ⟨_, rfl⟩
        obtain ⟨ok2, hok2⟩ : ∃ ok, ds.all fitB = ok := ⟨_, rfl⟩
        rw [hok1] at B11 HAE2
        rw [hok2] at B12 HBE2
        have HA0 : Hid (ok1 = true → ae = 0) := by intro e; rw [HAE2.out, e]; rfl
        have HA1 : Hid (ok1 = false → ¬ ae = 0) := by intro e; rw [HAE2.out, e]; decide
        have HB0 : Hid (ok2 = true → be = 0) := by intro e; rw [HBE2.out, e]; rfl
        have HB1 : Hid (ok2 = false → ¬ be = 0) := by intro e; rw [HBE2.out, e]; decide
        clear hy0 hb HW HAE HBE HYE bx byy bl hzl hzl2 hzs hds hok1 hok2
        go_wp2_with fail
        refine B11.out.mono ?_
        rintro e w10 ⟨rp, rfl, hE10, hr0, hr1⟩
        have HRP := Lib.hid hr0
        have HE10 := Lib.hid (Ext.trans HE9.out hE10)
        have HE910 := Lib.hid hE10
        have B13 := Lib.hid (B12.out w10 HE10.out)
        clear hE10 B11 B12 hr0 hr1
        go_wp2_with fail
        refine B13.out.mono ?_
        rintro e w11 ⟨rm, rfl, hE11, hr0, hr1⟩
        have HRM := Lib.hid hr0
        have HE11 := Lib.hid (Ext.trans HE10.out hE11)
        have HE911 := Lib.hid (Ext.trans HE910.out hE11)
        have B14 := Lib.hid (same_any ok1 ae r1 rp zs w11 HAE2.out (fun e => ⟨((HR1.out.1 (HA0.out e)).ext HE29.out).ext HE911.out, (HRP.out e).ext hE11⟩) (fun e => HR1.out.2 (HA1.out e)))
        clear hE11 B13 hr0 hr1
        go_wp2_with fail
        refine B14.out.mono ?_
        rintro e w12 ⟨rfl, hE12⟩
        have HE12 := Lib.hid (Ext.trans HE11.out hE12)
        have B15 := Lib.hid (same_any ok2 be r2 rm ds w12 HBE2.out (fun e => ⟨(((HR2.out.1 (HB0.out e)).ext HE39.out).ext HE911.out).ext hE12, (HRM.out e).ext hE12⟩) (fun e => HR2.out.2 (HB1.out e)))
        clear hE12 B14
        go_wp2_with fail
        refine B15.out.mono ?_
        rintro e w13 ⟨rfl, hE13⟩
        have HE13 := Lib.hid (Ext.trans HE12.out hE13)
        clear hE13 B15
        go_wp2_with fail
        go_ret
        exact ⟨rfl, HE13.out⟩
    · have h4 : rowE xs = 4 := (rowE_four xs).resolve_left he
      have hb : bothE xs ys = 4 := by unfold bothE; rw [if_neg he, h4]
      have e1 : opE (· + ·) xs ys = 4 := by unfold opE; rw [if_neg (by rw [hb]; decide), hb]
      have e2 : opE (· - ·) xs ys = 4 := by unfold opE; rw [if_neg (by rw [hb]; decide), hb]
      have e3 : scaleE (-1) xs = 4 := by unfold scaleE; rw [if_neg he, h4]
      have e4 : scaleE k xs = 4 := by unfold scaleE; rw [if_neg he, h4]
      obtain ⟨ye, hye⟩ : ∃ ye, rowE ys = ye := ⟨_, rfl⟩
      rw [e1] at A1
      rw [e2] at A2
      rw [e3] at A3
      rw [e4] at A4
      rw [h4] at A5
      rw [hye] at A6
      clear he h4 hb e1 e2 e3 e4 hye
      go_enter Tryd.func6, Tryd.ntmps6
      go_wp2_with fail
      refine (known_any _ HT.out).mono ?_
      rintro e w1 ⟨rfl, hE1⟩
      have HE1 := Lib.hid hE1
      have B1 := Lib.hid (A1.out w1 hE1)
      clear hE1 A1
      go_wp2_with fail
      refine B1.out.mono ?_
      rintro e w2 ⟨r1, rfl, hE2, -, hr1⟩
      obtain rfl := hr1 (by decide)
      have HE2 := Lib.hid (Ext.trans HE1.out hE2)
      have B2 := Lib.hid (A2.out w2 HE2.out)
      clear hE2 B1 hr1 A2
      go_wp2_with fail
      refine B2.out.mono ?_
      rintro e w3 ⟨r2, rfl, hE3, -, hr1⟩
      obtain rfl := hr1 (by decide)
      have HE3 := Lib.hid (Ext.trans HE2.out hE3)
      have B3 := Lib.hid (A3.out w3 HE3.out)
      clear hE3 B2 hr1 A3
      go_wp2_with fail
      refine B3.out.mono ?_
      rintro e w4 ⟨r3, rfl, hE4, -, hr1⟩
      obtain rfl := hr1 (by decide)
      have HE4 := Lib.hid (Ext.trans HE3.out hE4)
      have B4 := Lib.hid (A4.out w4 HE4.out)
      clear hE4 B3 hr1 A4
      go_wp2_with fail
      refine B4.out.mono ?_
      rintro e w5 ⟨r4, rfl, hE5, -, hr1⟩
      obtain rfl := hr1 (by decide)
      have HE5 := Lib.hid (Ext.trans HE4.out hE5)
      have B5 := Lib.hid (A5.out w5 HE5.out)
      have B6 := Lib.hid (A6.out w5 HE5.out)
      clear hE5 B4 hr1 A5 A6
      go_wp2_with fail
      refine B5.out.mono ?_
      rintro e w' ⟨rfl, rfl⟩
      clear B5
      go_wp2_with fail
      refine B6.out.mono ?_
      rintro e w' ⟨rfl, rfl⟩
      clear B6
      go_wp2_with fail
      go_ret
      exact ⟨rfl, HE5.out⟩
end Go.Proofs.YtobgghjmclagaaaDoor
