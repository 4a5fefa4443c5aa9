/- Merged: TIdW. -/
import Derived.Test.YtehknemdfbkimaaGreatDoorQBJ
import Derived.Test.YtehknemdfbkimaaGreatDoorRAAA
import Derived.Test.YtehknemdfbkimaaGreatDoorQBB
/- The walk of TemperamentIdentifies. Printed by gen/tidw.py. -/
namespace Go.Proofs.YtehknemdfbkimaaGreatDoor
set_option linter.unusedVariables false
set_option linter.unusedSimpArgs false
open Go.RowKit

set_option maxRecDepth 100000 in
set_option maxHeartbeats 4000000 in
theorem identifies_walk (c : Int) (hc0 : 0 ≤ c) (hc1 : c ≤ 255) (vals : Bool) (xss : List (List Int)) (v : Value) (x y : List Int) (vx vy : Value) (w : World) (h : Fours w v xss) (hx : Ints w vx x) (hy : Ints w vy y) (hlib : LibT w) (hp : 0 < w.heap.size) :
    Calls Tryz.prog 8 #[.agg #[.int .u8 c, v, .bool vals], vx, vy] w fun e w' => e = .returned (.bool true) ∧ Ext w w' := by
  obtain ⟨P, hP⟩ : ∃ P, P = primes12 (c % 10).toNat := ⟨_, rfl⟩
  obtain ⟨n, hn⟩ : ∃ n, P.length = n := ⟨_, rfl⟩
  obtain ⟨hpr, hn1, hn4⟩ := primes12_ok (c % 10).toNat
  have hpb := primes12_bd (c % 10).toNat
  rw [← hP] at hpr hn1 hn4 hpb
  rw [hn] at hn1 hn4
  have HKN := Lib.hid (fun W (hW : Ext w W) => known18_any W (hlib.ext hW) (Nat.lt_of_lt_of_le hp hW.size))
  have HFI := Lib.hid (fun W (hW : Ext w W) => fits18_any c vals xss v W (h.ext hW))
  have hx4 : ∀ x ∈ xss, x.length = 4 := fun x hx => by
    obtain ⟨a, cp, rfl, k1, k2, kl, k4⟩ := ListAt.open h
    obtain ⟨j, hj⟩ := List.getElem?_of_mem hx
    obtain ⟨b, off, rfl, hb, hcell⟩ := k4 (by decide) (by intro e; rw [e] at hj; simp at hj)
    obtain ⟨u, hu, ⟨rfl, hx4, hxb⟩, hc⟩ := hcell j x hj
    exact hx4
  obtain ⟨hm1, hm2⟩ := rows18_ok hn4 hx4 xss.length
  have hsh := h
  obtain ⟨a, cp, rfl, hxx1, hxx2, -⟩ := ListAt.open hsh
  unfold maxLen at hxx2
  obtain ⟨FT, hFT⟩ : ∃ b, decide (xss.length ≤ 3) = b := ⟨_, rfl⟩
  rw [hFT] at HFI
  obtain ⟨ax0, cx0, hvx0, xx1, xx2, -⟩ := hx.open
  obtain ⟨ay0, cy0, hvy0, yy1, yy2, -⟩ := hy.open
  unfold maxLen at xx2 yy2
  cases FT with
  | false =>
    subst hvx0
    subst hvy0
    clear hx hy hm1 hm2 hx4 hsh h hlib hp hFT hpr hn1 hn4 hP hpb
    subst hn
    go_enter Tryz.func8, Tryz.ntmps8
    obtain ⟨W0, hW0⟩ : ∃ W0, w.alloc (.cells #[.int .u8 c, .slice a xss.length cp, .bool vals] 61) = W0 := ⟨_, rfl⟩
    have HE0 : Hid (Ext w W0) := by rw [← hW0]; exact Ext.alloc _ _
    have HP0 : Hid (W0.heap[w.heap.size]? = some (.cells #[.int .u8 c, .slice a xss.length cp, .bool vals] 61 (0, 0))) := by rw [← hW0]; exact block_new _ _ _
    go_wp2_with fail
    clear hW0
    refine (HKN.out _ HE0.out).mono ?_
    rintro e w1 ⟨rfl, hE1⟩
    have HE1 := Lib.hid (HE0.out.trans hE1)
    have HP1 := Lib.hid (block_ext HP0.out hE1)
    obtain ⟨p0, p1, p2⟩ := p18_block HP1.out
    clear hE1 HE0 HP0
    go_wp2_with fail
    refine (HFI.out _ HE1.out).mono ?_
    rintro e w2 ⟨rfl, hE2⟩
    have HE2 := Lib.hid (HE1.out.trans hE2)
    clear hE2 HE1 HFI
    go_wp2_with fail
    refine (HKN.out _ HE2.out).mono ?_
    rintro e w3 ⟨rfl, hE3⟩
    have HE3 := Lib.hid (HE2.out.trans hE3)
    clear hE3 HKN
    go_wp2_with fail
    go_ret
    exact ⟨rfl, HE3.out⟩
  | true =>
  by_cases h7x : 7 < x.length
  · have h7i : (7 : Int) < (x.length : Int) := by omega
    subst hvx0
    subst hvy0
    clear hx hy hm1 hm2 hx4 hsh h hlib hp hFT hpr hn1 hn4 hP hpb
    subst hn
    go_enter Tryz.func8, Tryz.ntmps8
    obtain ⟨W0, hW0⟩ : ∃ W0, w.alloc (.cells #[.int .u8 c, .slice a xss.length cp, .bool vals] 61) = W0 := ⟨_, rfl⟩
    have HE0 : Hid (Ext w W0) := by rw [← hW0]; exact Ext.alloc _ _
    have HP0 : Hid (W0.heap[w.heap.size]? = some (.cells #[.int .u8 c, .slice a xss.length cp, .bool vals] 61 (0, 0))) := by rw [← hW0]; exact block_new _ _ _
    go_wp2_with fail
    clear hW0
    refine (HKN.out _ HE0.out).mono ?_
    rintro e w1 ⟨rfl, hE1⟩
    have HE1 := Lib.hid (HE0.out.trans hE1)
    have HP1 := Lib.hid (block_ext HP0.out hE1)
    obtain ⟨p0, p1, p2⟩ := p18_block HP1.out
    clear hE1 HE0 HP0
    go_wp2_with fail
    refine (HFI.out _ HE1.out).mono ?_
    rintro e w2 ⟨rfl, hE2⟩
    have HE2 := Lib.hid (HE1.out.trans hE2)
    clear hE2 HE1 HFI
    go_wp2_with fail
    refine (HKN.out _ HE2.out).mono ?_
    rintro e w3 ⟨rfl, hE3⟩
    have HE3 := Lib.hid (HE2.out.trans hE3)
    clear hE3 HKN
    go_wp2_with fail
    go_ret
    exact ⟨rfl, HE3.out⟩
  by_cases h7y : 7 < y.length
  · have h7k : ¬ (7 : Int) < (x.length : Int) := by omega
    have h7i : (7 : Int) < (y.length : Int) := by omega
    subst hvx0
    subst hvy0
    clear hx hy hm1 hm2 hx4 hsh h hlib hp hFT hpr hn1 hn4 hP hpb
    subst hn
    go_enter Tryz.func8, Tryz.ntmps8
    obtain ⟨W0, hW0⟩ : ∃ W0, w.alloc (.cells #[.int .u8 c, .slice a xss.length cp, .bool vals] 61) = W0 := ⟨_, rfl⟩
    have HE0 : Hid (Ext w W0) := by rw [← hW0]; exact Ext.alloc _ _
    have HP0 : Hid (W0.heap[w.heap.size]? = some (.cells #[.int .u8 c, .slice a xss.length cp, .bool vals] 61 (0, 0))) := by rw [← hW0]; exact block_new _ _ _
    go_wp2_with fail
    clear hW0
    refine (HKN.out _ HE0.out).mono ?_
    rintro e w1 ⟨rfl, hE1⟩
    have HE1 := Lib.hid (HE0.out.trans hE1)
    have HP1 := Lib.hid (block_ext HP0.out hE1)
    obtain ⟨p0, p1, p2⟩ := p18_block HP1.out
    clear hE1 HE0 HP0
    go_wp2_with fail
    refine (HFI.out _ HE1.out).mono ?_
    rintro e w2 ⟨rfl, hE2⟩
    have HE2 := Lib.hid (HE1.out.trans hE2)
    clear hE2 HE1 HFI
    go_wp2_with fail
    refine (HKN.out _ HE2.out).mono ?_
    rintro e w3 ⟨rfl, hE3⟩
    have HE3 := Lib.hid (HE2.out.trans hE3)
    clear hE3 HKN
    go_wp2_with fail
    go_ret
    exact ⟨rfl, HE3.out⟩
  have h7k : ¬ (7 : Int) < (x.length : Int) := by omega
  have h7l : ¬ (7 : Int) < (y.length : Int) := by omega
  clear hvx0 hvy0 xx1 xx2 yy1 yy2
  have hx3 : xss.length ≤ 3 := of_decide_eq_true hFT
  obtain ⟨F, R, A, S, C, M, hD, hC, hM, hDC, hDM, hT⟩ := plan18 hn1 hn4 (by omega) (fun x hx => (hm2 x hx).1) (fun x hx => (hm2 x hx).2) P hpr hn vals
  have HWm : Wid n (rows18 n xss.length xss) := fun i hi => (hm2 _ (rowE_mem hi)).1
  have HMK := Lib.hid (fun W (hW : Ext w W) => make18_any c hc0 hc1 n F P hP hn xss hx3 vals _ W (h.ext hW) R A S hD (hlib.ext hW) (Nat.lt_of_lt_of_le hp hW.size))
  rw [hC, hM] at HMK
  have hRT := hT.right
  have hlC : C.length ≤ 4 := hT.lC
  have hlM : M.length ≤ 4 := hT.lM
  have HBM := Lib.hid hT.bM; have HBC := Lib.hid hT.bC
  have hoC : ∀ r ∈ C, okRow r := fun r hr => okRow_of (by have := (hRT.bC r hr).2; omega) ((hRT.bC r hr).1.mono (by decide))
  have hoM : ∀ r ∈ M, okRow r := fun r hr => okRow_of (by have := (hRT.bM r hr).2; omega) ((hRT.bM r hr).1.mono (by decide))
  have HXI := Lib.hid hx; have HYI := Lib.hid hy
  have HIV := Lib.hid (fun W v vx z (hv : TempV W v P C M) (hx : Ints W vx z) => interval18_any P C M z v vx W hv hx)
  rw [hn] at HIV
  have HSM : Hid (∀ W, Ext w W → LibT W ∧ 0 < W.heap.size) := fun W hW => ⟨hlib.ext hW, Nat.lt_of_lt_of_le hp hW.size⟩
  have HPAIR := Lib.hid (allE_pair n x y)
  obtain ⟨ax, cx, rfl, x1, x2, -⟩ := hx.open
  obtain ⟨ay, cy, rfl, y1, y2, -⟩ := hy.open
  unfold maxLen at x2 y2
  have HRT := Lib.hid hRT
  clear hx hy
  clear hm1 hm2 hx4 hsh h hlib hp hFT hpr hP hD hDC hDM hT HWm hRT hC hM hn1 hpb hoC hoM
  subst hn
  go_enter Tryz.func8, Tryz.ntmps8
  obtain ⟨W0, hW0⟩ : ∃ W0, w.alloc (.cells #[.int .u8 c, .slice a xss.length cp, .bool vals] 61) = W0 := ⟨_, rfl⟩
  have HE0 : Hid (Ext w W0) := by rw [← hW0]; exact Ext.alloc _ _
  have HP0 : Hid (W0.heap[w.heap.size]? = some (.cells #[.int .u8 c, .slice a xss.length cp, .bool vals] 61 (0, 0))) := by rw [← hW0]; exact block_new _ _ _
  go_wp2_with fail
  clear hW0
  refine (HKN.out _ HE0.out).mono ?_
  rintro e w1 ⟨rfl, hE1⟩
  have HE1 := Lib.hid (HE0.out.trans hE1)
  have HP1 := Lib.hid (block_ext HP0.out hE1)
  obtain ⟨p0, p1, p2⟩ := p18_block HP1.out
  clear hE1 HE0 HP0
  go_wp2_with fail
  refine (HFI.out _ HE1.out).mono ?_
  rintro e w2 ⟨rfl, hE2⟩
  have HE2 := Lib.hid (HE1.out.trans hE2)
  have HP2 := Lib.hid (block_ext HP1.out hE2)
  clear hE2 HE1 HFI HP1 p0 p1 p2
  obtain ⟨p0, p1, p2⟩ := p18_block HP2.out
  go_wp2_with fail
  refine (HMK.out _ HE2.out).mono ?_
  rintro e w3 ⟨u, rfl, hS, hE⟩
  have HEC3 := Lib.hid (HE2.out.trans hE)
  clear hE HE2 HP2 HMK p0 p1 p2
  obtain ⟨p3, c3, m3, rfl, hvp, hvc, hvm⟩ := hS
  have HTV3 : Hid (TempV w3 (.agg #[p3, c3, m3]) P C M) := ⟨_, _, _, rfl, hvp, hvc, hvm⟩
  obtain ⟨ap3, kp3, rfl, -⟩ := hvp.open
  obtain ⟨ac3, kc3, rfl, -⟩ := inCell.open hvc
  obtain ⟨am3, km3, rfl, -⟩ := inCell.open hvm
  clear hvp hvc hvm
  obtain ⟨V3, hV3, hXV, hsV, hbV⟩ := tp_new w3 (.slice none 0 0) (.slice none 0 0) (.slice none 0 0)
  obtain ⟨r0, r1, r2, rf⟩ := tp_block hbV
  have f0 := rf 0; have f1 := rf 1; have f2 := rf 2
  have HB3 := Lib.hid (tp_store hbV (.slice ap3 P.length kp3) (.slice ac3 C.length kc3) (.slice am3 M.length km3))
  have HXU3 := Lib.hid (ext_tp hXV (Nat.le_refl _) (.slice ap3 P.length kp3) (.slice ac3 C.length kc3) (.slice am3 M.length km3))
  clear hXV hsV hbV rf
  obtain ⟨U3, hU3⟩ : ∃ U, ((V3.setCell ⟨w3.heap.size, 0, none⟩ (.slice ap3 P.length kp3)).setCell ⟨w3.heap.size, 1, none⟩ (.slice ac3 C.length kc3)).setCell ⟨w3.heap.size, 2, none⟩ (.slice am3 M.length km3) = U := ⟨_, rfl⟩
  rw [hU3] at HB3 HXU3
  have HE3 := Lib.hid (HEC3.out.trans HXU3.out)
  have HTV3 := Lib.hid (HTV3.out.ext HXU3.out)
  clear HXU3 HEC3
  obtain ⟨s0, s1, s2, -⟩ := tp_block HB3.out
  go_wp2_with fail
  clear hU3 hV3 r0 r1 r2 f0 f1 f2 s0 s1 s2
  have hlp := HSM.out _ HE3.out
  have hpair := HPAIR.out
  obtain ⟨b3, hb3⟩ : ∃ b, w3.heap.size = b := ⟨_, rfl⟩
  rw [hb3] at HB3
  simp only [hb3]
  clear hb3
  by_cases hE : allE P.length [x, y] = 0
  · rw [hE] at hpair
    have hx0 : allE P.length [x] = 0 := by
      by_cases h : allE P.length [x] = 0
      · exact h
      · rw [if_neg h] at hpair; exact hpair.symm
    have hy0 : allE P.length [y] = 0 := by rw [if_pos hx0] at hpair; exact hpair.symm
    have hid := identified_any P.length F P C M x y _ _ _ _ HTV3.out (HXI.out.ext HE3.out) (HYI.out.ext HE3.out) HRT.out hE hlp.1 hlp.2
    rw [tem_all] at hid
    refine hid.mono ?_
    clear hid
    rintro e w4 ⟨rfl, hE4⟩
    have HE4 := Lib.hid (HE3.out.trans hE4); have HB4 := Lib.hid (block_ext HB3.out hE4); have HTV4 := Lib.hid (HTV3.out.ext hE4)
    clear hE4 hpair
    obtain ⟨⟨hox, hlx⟩, hoy, hly⟩ := allE_two hE
    have HLX : Hid (x.length = P.length) := by unfold Hid; omega
    have HLY : Hid (y.length = P.length) := by unfold Hid; omega
    have HXB : Hid (RowLe 1000000000 x) := fun z hz => by have := hox.2 z hz; omega
    have HYB : Hid (RowLe 1000000000 y) := fun z hz => by have := hoy.2 z hz; omega
    clear hE hox hlx hoy hly
    obtain ⟨s0, s1, s2, -⟩ := tp_block HB4.out
    have h1 := HIV.out w4 _ _ x HTV4.out (HXI.out.ext HE4.out)
    rw [hx0] at h1
    have H1 := Lib.hid h1
    clear h1 hx0
    go_wp2_with fail
    refine H1.out.mono ?_
    rintro e w5 ⟨rfl, hE5⟩
    have HE5 := Lib.hid (HE4.out.trans hE5); have HB5 := Lib.hid (block_ext HB4.out hE5); have HTV5 := Lib.hid (HTV4.out.ext hE5)
    clear hE5 s0 s1 s2 H1
    obtain ⟨s0, s1, s2, -⟩ := tp_block HB5.out
    have h1 := HIV.out w5 _ _ y HTV5.out (HYI.out.ext HE5.out)
    rw [hy0] at h1
    have H1 := Lib.hid h1
    clear h1 hy0
    go_wp2_with fail
    refine H1.out.mono ?_
    rintro e w6 ⟨rfl, hE6⟩
    have HE6 := Lib.hid (HE5.out.trans hE6); have HB6 := Lib.hid (block_ext HB5.out hE6); have HTV6 := Lib.hid (HTV5.out.ext hE6)
    clear hE6 s0 s1 s2 H1
    go_wp2_with fail
    have HDX := Lib.hid (fun W r vr (hr : r ∈ M) (hvr : Ints W vr r) (hW : Ext w W) => dot18_any P.length r x vr _ W hvr (HXI.out.ext hW) (HRT.out.bM r hr).2 HLX.out (by omega) ((HBM.out r hr).1.mono (by decide)) HXB.out (HSM.out W hW).1.pow)
    have HDY := Lib.hid (fun W r vr (hr : r ∈ M) (hvr : Ints W vr r) (hW : Ext w W) => dot18_any P.length r y vr _ W hvr (HYI.out.ext hW) (HRT.out.bM r hr).2 HLY.out (by omega) ((HBM.out r hr).1.mono (by decide)) HYB.out (HSM.out W hW).1.pow)
    go_loopw [11, 12] (fun al t wr => ∃ i : Nat, i ≤ M.length ∧ t = .int .i64 i ∧ al = .bool ((M.take i).all fun r => dotZ r x P.length == dotZ r y P.length) ∧ Hid (Ext w6 wr)) (fun _ t _ => M.length - (intOf t).toNat)
    case atStart => exact ⟨0, by omega, rfl, rfl, Ext.refl _⟩
    case round =>
      obtain ⟨i, hi2, rfl, rfl, HE2⟩ := hrel
      obtain ⟨w9, rfl⟩ : ∃ w9 : World, w9 = wr := ⟨_, rfl⟩
      have HE9 := Lib.hid (HE6.out.trans HE2.out)
      have HB9 := Lib.hid (block_ext HB6.out HE2.out); have HTV9 := Lib.hid (HTV6.out.ext HE2.out)
      obtain ⟨s0, s1, s2, -⟩ := tp_block HB9.out
      obtain ⟨BB, hBB⟩ : ∃ B, ((M.take i).all fun r => dotZ r x P.length == dotZ r y P.length) = B := ⟨_, rfl⟩
      rw [hBB]
      by_cases hlt : i < M.length
      · obtain ⟨q0, q1, q2, hqe, hq0, hq1, hq2⟩ := HTV9.out
        simp only [Value.agg.injEq, Array.mk.injEq, List.cons.injEq, and_true] at hqe
        obtain ⟨rfl, rfl, rfl⟩ := hqe
        obtain ⟨a0, k0, hsl, m1, m2, -, mc⟩ := inCell.open hq2
        simp only [Value.slice.injEq] at hsl
        obtain ⟨rfl, -, rfl⟩ := hsl
        obtain ⟨bm, om, rfl, hbm, hcell⟩ := mc (by intro e; simp [e] at hlt)
        obtain ⟨r, hr⟩ : ∃ r, M[i]? = some r := ⟨M[i], List.getElem?_eq_getElem hlt⟩
        obtain ⟨vr, hvr, gx⟩ := hcell i r hr
        have HRM := Lib.hid (List.mem_of_getElem? hr)
        have HRI := Lib.hid hvr
        have HN : Hid (((M.take (i + 1)).all fun r => dotZ r x P.length == dotZ r y P.length) = (BB && (dotZ r x P.length == dotZ r y P.length))) := by
          unfold Hid
          rw [List.take_add_one, hr, List.all_append, hBB]
          simp
        obtain ⟨ar, cr, rfl, -⟩ := hvr.open
        have hmk : M.length ≤ km3 := m1
        clear hq0 hq1 hq2 m1 m2 mc hcell hr hvr hBB
        go_upto_region 14 with fail
        refine region_anyEV (fun w' => w'.cell? ⟨b3, 2, none⟩ = some (.slice (some ⟨bm, om, none⟩) M.length km3) ∧ w'.cell? ⟨bm, om + i, none⟩ = some (.slice ar r.length cr) ∧ Hid (Ext w9 w')) 16 16 (by kernel_rfl) (by kernel_rfl) ⟨(Ext.drew w9).cell s2, (Ext.drew w9).cell gx, Ext.drew w9⟩ (fun ops hO hHeld => ?_)
        generalize w9.drew = wd at hHeld ⊢
        have hi := getopN hO 0 (by decide)
        conv at hi => rhs; arg 1; whnf
        refine anyE_takeWV hO (v := ?_) 0 hi (by kernel_rfl) (by kernel_rfl) (by kernel_rfl) (by kernel_rfl) (fun _ _ _ h => h) (Or.inl ⟨by rfl, ?_⟩) (by assumption) ?_
        rotate_left
        · ((intro w'); (try go_simp); (try with_reducible rfl))
        clear hi
        (try simp only [Act.put, List.setIfInBounds_toArray, List.set_cons_zero, List.set_cons_succ])
        have hi := getopN hO 1 (by decide)
        conv at hi => rhs; arg 1; whnf
        refine anyE_takeV hO (v := ?_) 1 hi (by kernel_rfl) (by kernel_rfl) (by kernel_rfl) (by kernel_rfl) (fun _ _ _ h => h) (Or.inl ⟨by rfl, ?_⟩) (by assumption) ?_
        rotate_left
        · ((intro w' hSw); (try dsimp only at hSw); (try go_simp); (try with_reducible rfl))
        clear hi
        (try simp only [Act.put, List.setIfInBounds_toArray, List.set_cons_zero, List.set_cons_succ])
        have hi := getopN hO 2 (by decide)
        conv at hi => rhs; arg 1; whnf
        refine anyE_takeWV hO (v := ?_) 2 hi (by kernel_rfl) (by kernel_rfl) (by kernel_rfl) (by kernel_rfl) (fun _ _ _ h => h) (Or.inl ⟨by rfl, ?_⟩) (by assumption) ?_
        rotate_left
        · ((intro w'); (try go_simp); (try with_reducible rfl))
        clear hi
        (try simp only [Act.put, List.setIfInBounds_toArray, List.set_cons_zero, List.set_cons_succ])
        have hi := getopN hO 3 (by decide)
        conv at hi => rhs; arg 1; whnf
        refine anyE_takeWV hO (v := ?_) 3 hi (by kernel_rfl) (by kernel_rfl) (by kernel_rfl) (by kernel_rfl) (fun _ _ _ h => h) (Or.inl ⟨by rfl, ?_⟩) (by assumption) ?_
        rotate_left
        · ((intro w'); (try go_simp); (try with_reducible rfl))
        clear hi
        (try simp only [Act.put, List.setIfInBounds_toArray, List.set_cons_zero, List.set_cons_succ])
        have hi := getopN hO 4 (by decide)
        conv at hi => rhs; arg 1; whnf
        refine anyE_takeV hO (v := ?_) 4 hi (by kernel_rfl) (by kernel_rfl) (by kernel_rfl) (by kernel_rfl) (fun _ _ _ h => h) (Or.inl ⟨by rfl, ?_⟩) (by assumption) ?_
        rotate_left
        · ((intro w' hSw); (try dsimp only at hSw); (try go_simp); (try with_reducible rfl))
        clear hi
        (try simp only [Act.put, List.setIfInBounds_toArray, List.set_cons_zero, List.set_cons_succ])
        have hi := getopN hO 5 (by decide)
        conv at hi => rhs; arg 1; whnf
        refine anyE_takeWV hO (v := ?_) 5 hi (by kernel_rfl) (by kernel_rfl) (by kernel_rfl) (by kernel_rfl) (fun _ _ _ h => h) (Or.inl ⟨by rfl, ?_⟩) (by assumption) ?_
        rotate_left
        · ((intro w'); (try go_simp); (try with_reducible rfl))
        clear hi
        (try simp only [Act.put, List.setIfInBounds_toArray, List.set_cons_zero, List.set_cons_succ])
        have hi := getopN hO 7 (by decide)
        conv at hi => rhs; arg 1; whnf
        refine anyE_takeWV hO (v := ?_) 7 hi (by kernel_rfl) (by kernel_rfl) (by kernel_rfl) (by kernel_rfl) (fun _ _ _ h => h) (Or.inl ⟨by rfl, ?_⟩) (by assumption) ?_
        rotate_left
        · ((intro w'); (try go_simp); (try with_reducible rfl))
        clear hi
        (try simp only [Act.put, List.setIfInBounds_toArray, List.set_cons_zero, List.set_cons_succ])
        have hi := getopN hO 8 (by decide)
        conv at hi => rhs; arg 1; whnf
        refine anyE_takeV hO (v := ?_) 8 hi (by kernel_rfl) (by kernel_rfl) (by kernel_rfl) (by kernel_rfl) (fun _ _ _ h => h) (Or.inl ⟨by rfl, ?_⟩) (by assumption) ?_
        rotate_left
        · ((intro w' hSw); (try dsimp only at hSw); (try go_simp); (try with_reducible rfl))
        clear hi
        (try simp only [Act.put, List.setIfInBounds_toArray, List.set_cons_zero, List.set_cons_succ])
        have hi := getopN hO 9 (by decide)
        conv at hi => rhs; arg 1; whnf
        refine anyE_takeWV hO (v := ?_) 9 hi (by kernel_rfl) (by kernel_rfl) (by kernel_rfl) (by kernel_rfl) (fun _ _ _ h => h) (Or.inl ⟨by rfl, ?_⟩) (by assumption) ?_
        rotate_left
        · ((intro w'); (try go_simp); (try with_reducible rfl))
        clear hi
        (try simp only [Act.put, List.setIfInBounds_toArray, List.set_cons_zero, List.set_cons_succ])
        have hi := getopN hO 10 (by decide)
        conv at hi => rhs; arg 1; whnf
        refine anyE_takeWV hO (v := ?_) 10 hi (by kernel_rfl) (by kernel_rfl) (by kernel_rfl) (by kernel_rfl) (fun _ _ _ h => h) (Or.inl ⟨by rfl, ?_⟩) (by assumption) ?_
        rotate_left
        · ((intro w'); (try go_simp); (try with_reducible rfl))
        clear hi
        (try simp only [Act.put, List.setIfInBounds_toArray, List.set_cons_zero, List.set_cons_succ])
        have hi := getopN hO 11 (by decide)
        conv at hi => rhs; arg 1; whnf
        refine anyE_takeV hO (v := ?_) 11 hi (by kernel_rfl) (by kernel_rfl) (by kernel_rfl) (by kernel_rfl) (fun _ _ _ h => h) (Or.inl ⟨by rfl, ?_⟩) (by assumption) ?_
        rotate_left
        · ((intro w' hSw); (try dsimp only at hSw); (try go_simp); (try with_reducible rfl))
        clear hi
        (try simp only [Act.put, List.setIfInBounds_toArray, List.set_cons_zero, List.set_cons_succ])
        have hi := getopN hO 12 (by decide)
        conv at hi => rhs; arg 1; whnf
        refine anyE_takeWV hO (v := ?_) 12 hi (by kernel_rfl) (by kernel_rfl) (by kernel_rfl) (by kernel_rfl) (fun _ _ _ h => h) (Or.inl ⟨by rfl, ?_⟩) (by assumption) ?_
        rotate_left
        · ((intro w'); (try go_simp); (try with_reducible rfl))
        clear hi
        (try simp only [Act.put, List.setIfInBounds_toArray, List.set_cons_zero, List.set_cons_succ])
        have hi := getopN hO 6 (by decide)
        conv at hi => rhs; arg 1; whnf
        refine anyE_stepV hO 6 (by kernel_rfl) hi (fun K hK => ?_)
        go_simp
        (go_at_call 45; refine (HDX.out _ _ _ HRM.out (HRI.out.ext (hHeld.2.2.out)) (Ext.trans HE9.out (hHeld.2.2.out))).mono ?_)
        rintro e w10 ⟨rfl, hEz⟩
        go_wp2_with fail
        refine hK.out _ _ ⟨(hEz).cell hHeld.1, (hEz).cell hHeld.2.1, Ext.trans hHeld.2.2.out (hEz)⟩ (fun hHeld => ?_)
        clear hK K hi
        (try simp only [Act.put, List.setIfInBounds_toArray, List.set_cons_zero, List.set_cons_succ])
        have hi := getopN hO 13 (by decide)
        conv at hi => rhs; arg 1; whnf
        refine anyE_stepV hO 13 (by kernel_rfl) hi (fun K hK => ?_)
        go_simp
        (go_at_call 45; refine (HDY.out _ _ _ HRM.out (HRI.out.ext (hHeld.2.2.out)) (Ext.trans HE9.out (hHeld.2.2.out))).mono ?_)
        rintro e w11 ⟨rfl, hEz⟩
        go_wp2_with fail
        refine hK.out _ _ ⟨(hEz).cell hHeld.1, (hEz).cell hHeld.2.1, Ext.trans hHeld.2.2.out (hEz)⟩ (fun hHeld => ?_)
        clear hK K hi
        (try simp only [Act.put, List.setIfInBounds_toArray, List.set_cons_zero, List.set_cons_succ])
        have HZ := Lib.hid (hHeld.2.2.out)
        have hi := getopN hO 14 (by decide)
        conv at hi => rhs; arg 1; whnf
        refine anyE_takeWV hO (v := ?_) 14 hi (by kernel_rfl) (by kernel_rfl) (by kernel_rfl) (by kernel_rfl) (fun _ _ _ h => h) (Or.inl ⟨by rfl, ?_⟩) (by assumption) ?_
        rotate_left
        · ((intro w'); (try go_simp); (try with_reducible rfl))
        clear hi
        (try simp only [Act.put, List.setIfInBounds_toArray, List.set_cons_zero, List.set_cons_succ])
        have hi := getopN hO 15 (by decide)
        conv at hi => rhs; arg 1; whnf
        refine anyE_lastV hO 15 (by kernel_rfl) (by kernel_rfl) hi (fun K hK => ?_)
        go_simp
        refine hK.out _ _ (by assumption) ?_
        clear hK K hi hO
        (try simp only [Act.put, List.setIfInBounds_toArray, List.set_cons_zero, List.set_cons_succ])
        have HE20 := Lib.hid (HE2.out.trans HZ.out)
        obtain ⟨d1, hd1⟩ : ∃ d, dotZ r x P.length = d := ⟨_, rfl⟩
        obtain ⟨d2, hd2⟩ : ∃ d, dotZ r y P.length = d := ⟨_, rfl⟩
        rw [hd1, hd2] at HN
        simp only [hd1, hd2]
        have hz := int_same d1 d2
        have hdd : (d1 == d2) = decide (d1 = d2) := by by_cases h : d1 = d2 <;> simp [h]
        obtain ⟨DD, hDD⟩ : ∃ b, decide (d1 = d2) = b := ⟨_, rfl⟩
        rw [hDD] at hz hdd
        clear gx s0 s1 s2 hd1 hd2 hDD
        cases BB
        · go_wp2_with fail
          go_roundw
          case rel => exact ⟨i + 1, by omega, by go_num, by rw [HN.out]; rfl, HE20.out⟩
          case measure => simp [intOf]; omega
        · cases DD
          · go_wp2_with fail
            go_roundw
            case rel => exact ⟨i + 1, by omega, by go_num, by rw [HN.out, hdd]; rfl, HE20.out⟩
            case measure => simp [intOf]; omega
          · go_wp2_with fail
            go_roundw
            case rel => exact ⟨i + 1, by omega, by go_num, by rw [HN.out, hdd]; rfl, HE20.out⟩
            case measure => simp [intOf]; omega
      · obtain rfl : i = M.length := by omega
        rw [List.take_length] at hBB
        rw [hBB]
        clear hBB
        cases BB
        · go_wp2_with fail
          go_ret
          exact ⟨rfl, HE9.out⟩
        · go_wp2_with fail
          go_ret
          exact ⟨rfl, HE9.out⟩
  · have hid := identified_bad P.length F P C M x y _ _ _ _ HTV3.out (HXI.out.ext HE3.out) (HYI.out.ext HE3.out) HRT.out hE hlp.1 hlp.2
    refine hid.mono ?_
    clear hid
    rintro e w4 ⟨rfl, hE4⟩
    have HE4 := Lib.hid (HE3.out.trans hE4); have HB4 := Lib.hid (block_ext HB3.out hE4); have HTV4 := Lib.hid (HTV3.out.ext hE4)
    clear hE4
    obtain ⟨s0, s1, s2, -⟩ := tp_block HB4.out
    have h1 := HIV.out w4 _ _ x HTV4.out (HXI.out.ext HE4.out)
    rw [hpair] at hE ⊢
    by_cases hx0 : allE P.length [x] = 0
    · rw [hx0] at h1
      rw [if_pos hx0] at hE ⊢
      obtain ⟨E, hEE⟩ : ∃ E, allE P.length [y] = E := ⟨_, rfl⟩
      rw [hEE] at hE ⊢
      have H1 := Lib.hid h1
      have hz : (E != 0) = true := by simp [hE]
      clear h1 hx0 hpair hE
      go_wp2_with fail
      refine H1.out.mono ?_
      rintro e w5 ⟨rfl, hE5⟩
      have HE5 := Lib.hid (HE4.out.trans hE5); have HB5 := Lib.hid (block_ext HB4.out hE5); have HTV5 := Lib.hid (HTV4.out.ext hE5)
      clear hE5 s0 s1 s2 H1
      obtain ⟨s0, s1, s2, -⟩ := tp_block HB5.out
      have h1 := HIV.out w5 _ _ y HTV5.out (HYI.out.ext HE5.out)
      rw [hEE] at h1
      have H1 := Lib.hid h1
      clear h1 hEE
      go_wp2_with fail
      refine H1.out.mono ?_
      rintro e w6 ⟨rfl, hE6⟩
      have HE6 := Lib.hid (HE5.out.trans hE6)
      clear hE6 s0 s1 s2 H1
      go_wp2_with fail
      go_ret
      exact ⟨rfl, HE6.out⟩
    · rw [if_neg hx0] at hE ⊢
      obtain ⟨E, hEE⟩ : ∃ E, allE P.length [x] = E := ⟨_, rfl⟩
      rw [hEE] at hE h1 ⊢
      have H1 := Lib.hid h1
      have hz : (E != 0) = true := by simp [hE]
      have hz2 : (E == 0) = false := by simp [hE]
      clear h1 hx0 hpair hE hEE
      go_wp2_with fail
      refine H1.out.mono ?_
      rintro e w5 ⟨rfl, hE5⟩
      have HE5 := Lib.hid (HE4.out.trans hE5)
      clear hE5 s0 s1 s2 H1
      go_wp2_with fail
      go_ret
      exact ⟨rfl, HE5.out⟩
end Go.Proofs.YtehknemdfbkimaaGreatDoor
