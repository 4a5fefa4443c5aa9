/- Merged: TApp. -/
import Derived.Test.YtehknemdfbkimaaGreatDoorQBJ
import Derived.Test.YtehknemdfbkimaaGreatDoorQBB
/- The reference's Apply at small numbers; law 18: tempered. Printed by gen/tapp.py. -/
namespace Go.Proofs.YtehknemdfbkimaaGreatDoor
set_option linter.unusedVariables false
set_option linter.unusedSimpArgs false
open Go.RowKit

theorem fits6_any (n : Int) (w : World) : Calls Tryz.prog 173 #[.int .i64 n] w fun e w' => e = .returned (.bool (fit9B n)) ∧ w = w' := by
  have hq := fit9B_iff n
  by_cases h : n ≤ 1000000000
  · by_cases h2 : -1000000000 ≤ n
    · rw [hq.2 ⟨by omega, by omega⟩]
      clear hq
      go_enter Tryz.func173, Tryz.ntmps173
      go_wp2
      go_ret
      exact ⟨by simp [h2], rfl⟩
    · have hf : fit9B n = false := by
        cases hb : fit9B n with
        | false => rfl
        | true => have := hq.1 hb; omega
      rw [hf]
      clear hq hf
      go_enter Tryz.func173, Tryz.ntmps173
      go_wp2
      go_ret
      exact ⟨by simp [h2], rfl⟩
  · have hf : fit9B n = false := by
      cases hb : fit9B n with
      | false => rfl
      | true => have := hq.1 hb; omega
    rw [hf]
    clear hq hf
    go_enter Tryz.func173, Tryz.ntmps173
    go_wp2
    go_ret
    exact ⟨rfl, rfl⟩
theorem temL_len (M : List (List Int)) (x : List Int) (n : Nat) : (temL M x n).length = M.length := by unfold temL; simp
theorem temL_bd {n : Nat} {x : List Int} {M : List (List Int)} (hn : n ≤ 10) (hx : RowLe 1000000000 x) (hM : ∀ r ∈ M, RowLe 1000000 r) {y : Int} (hy : y ∈ temL M x n) : -100000000000000000 < y ∧ y < 100000000000000000 := by
  obtain ⟨r, hr, rfl⟩ := List.mem_map.1 hy
  have h1 := dotZ_bound2 hx (hM r hr) n
  have h2 : n * (1000000000 * 1000000) ≤ 10 * (1000000000 * 1000000) := Nat.mul_le_mul_right _ hn
  have h3 := Nat.le_trans h1 h2
  omega
set_option maxRecDepth 100000 in
set_option maxHeartbeats 8000000 in
theorem applyQ_any (n : Nat) (M : List (List Int)) (x : List Int) (v vx : Value) (w : World) (h : Rows2 w v M) (hx : Ints w vx x) (hr : ∀ r ∈ M, RowLe 1000000 r ∧ r.length = n) (hxl : x.length = n) (hn : n ≤ 10) (hxb : RowLe 1000000000 x) (hl : M.length ≤ 1000) (ht : Pow10 w) :
    Calls Tryz.prog 120 #[v, vx] w fun e w' => ∃ a c, e = .returned (.tuple #[.slice a M.length c, .bool ((temL M x n).all fit9B)]) ∧ Ints w' (.slice a M.length c) (temL M x n) ∧ Ext w w' := by
  have HT := Lib.hid ht; have HRR := Lib.hid hr; have HXB := Lib.hid hxb
  have HBD : Hid (∀ y ∈ temL M x n, -100000000000000000 < y ∧ y < 100000000000000000) := fun y hy => temL_bd hn hxb (fun r h => (hr r h).1) hy
  have HDB : Hid (∀ r ∈ M, ∀ k, k ≤ n → -100000000000000000 < dotZ r x k ∧ dotZ r x k < 100000000000000000) := fun r hrm k hk => by
    have h1 := dotZ_bound2 (hr r hrm).1 hxb k
    have h2 : k * (1000000 * 1000000000) ≤ 10 * (1000000 * 1000000000) := Nat.mul_le_mul_right _ (by omega)
    have h3 : (dotZ r x k).natAbs ≤ 10 * (1000000 * 1000000000) := Nat.le_trans h1 h2
    omega
  obtain ⟨a, c, rfl, h1, h2, -, hc⟩ := inCell.open h
  obtain ⟨ax, cx, rfl, x1, x2, -, -, hcx⟩ := hx.open
  have HC := Lib.hid hc; have HXC := Lib.hid hcx; have HXL := Lib.hid hxl
  unfold maxLen at h2 x2
  rw [hxl] at x1 ⊢
  have HTL := Lib.hid (temL_len M x n)
  clear h hx hc hcx ht hr hxb hxl
  go_enter Tryz.func120, Tryz.ntmps120
  go_wp2_with fail
  go_loopw [8, 6, 7] (fun t o f wr => ∃ (i : Nat) (fb : Bool), i ≤ M.length ∧ t = .int .i64 i ∧ f = .bool fb ∧ Hid (fb = ((temL M x n).take i).all fit9B) ∧ Hid (Ext w wr) ∧ Hid (∃ a c, o = .slice a i c) ∧ Hid (Build wr w.heap.size 3 1 o intC ((temL M x n).take i))) (fun t _ _ _ => M.length - (intOf t).toNat)
  case atStart => exact ⟨0, true, by omega, rfl, rfl, rfl, Ext.refl _, ⟨none, 0, rfl⟩, Build.nil _ _ _ _ _⟩
  case round =>
    obtain ⟨i, fb, hi, rfl, rfl, HFB, HE, HSL, HB⟩ := hrel
    obtain ⟨wo, rfl⟩ : ∃ wo : World, wo = wr := ⟨_, rfl⟩
    by_cases hlt : i < M.length
    · obtain ⟨b, off, rfl, hb, hcell⟩ := HC.out (by intro e; simp [e] at hlt)
      obtain ⟨r, hr⟩ : ∃ x, M[i]? = some x := ⟨M[i], List.getElem?_eq_getElem hlt⟩
      obtain ⟨vr, hvr, hcr⟩ := hcell i r hr
      have HRM := Lib.hid (List.mem_of_getElem? hr)
      obtain ⟨hrb, hrl⟩ := HRR.out r HRM.out
      obtain ⟨ar, cr, rfl, r1, r2, -, -, hcc⟩ := hvr.open
      rw [hrl] at hcr r1
      have HCR := Lib.hid hcc
      have HG1 := Lib.hid hcr
      have HRL := Lib.hid hrl; have HRB := Lib.hid hrb
      have HN : Hid ((temL M x n).take (i + 1) = (temL M x n).take i ++ [dotZ r x n]) := by
        unfold Hid temL
        rw [List.take_add_one, List.getElem?_map, hr, dotZ_comm r x]; rfl
      have HYM : Hid (dotZ r x n ∈ temL M x n) := by unfold Hid temL; rw [dotZ_comm r x]; exact List.mem_map.2 ⟨r, HRM.out, rfl⟩
      unfold maxLen at r2
      clear hcell hr hvr hcr hrl hrb hcc
      go_wp2_with fail
      go_loopw [10, 9] (fun t s wr => ∃ k : Nat, k ≤ n ∧ t = .int .i64 k ∧ s = .string (intB (dotZ r x k)) ∧ Hid (Ext wo wr)) (fun t _ _ => n - (intOf t).toNat)
      case atStart => exact ⟨0, by omega, rfl, by show _ = Value.string (intB 0); rw [intB_nought], by first | exact Ext.refl _ | exact Ext.drew _⟩
      case round =>
        obtain ⟨k, hk, rfl, rfl, HK⟩ := hrel
        obtain ⟨w3, rfl⟩ : ∃ w3 : World, w3 = wr := ⟨_, rfl⟩
        have HWK := Lib.hid (HE.out.trans HK.out)
        by_cases hkn : k < n
        · obtain ⟨br, orr, rfl, hbr, rcell⟩ := HCR.out (by intro e; have := HRL.out; rw [e] at this; simp at this; omega)
          obtain ⟨bx, ox, rfl, hbx, xcell⟩ := HXC.out (by intro e; have := HXL.out; rw [e] at this; simp at this; omega)
          obtain ⟨y, hy⟩ : ∃ y, r[k]? = some y := ⟨r[k]'(by rw [HRL.out]; exact hkn), List.getElem?_eq_getElem _⟩
          obtain ⟨z, hz⟩ : ∃ z, x[k]? = some z := ⟨x[k]'(by rw [HXL.out]; exact hkn), List.getElem?_eq_getElem _⟩
          have gm := HWK.out.cell HG1.out
          have gr := HWK.out.cell (rcell k y hy)
          have gx := HWK.out.cell (xcell k z hz)
          have hyb := HRB.out y (List.mem_of_getElem? hy); have hzb := HXB.out z (List.mem_of_getElem? hz)
          have HD : Hid (dotZ r x (k + 1) = dotZ r x k + y * z) := by
            show dotZ r x k + r.getD k 0 * x.getD k 0 = _
            rw [List.getD_eq_getElem?_getD, List.getD_eq_getElem?_getD, hy, hz]; rfl
          have HOY := Lib.hid (fun W (hW : Ext w3 W) => rOf_any y W (by omega) (by omega) (HT.out.ext (HWK.out.trans hW)))
          have HOZ := Lib.hid (fun W (hW : Ext w3 W) => rOf_any z W (by omega) (by omega) (HT.out.ext (HWK.out.trans hW)))
          have hyz : (y * z).natAbs ≤ 1000000 * 1000000000 := by rw [Int.natAbs_mul]; exact Nat.mul_le_mul hyb hzb
          have HMU := Lib.hid (fun W (hW : Ext w3 W) => rMulQ_any y z W (by omega) (by omega) (HT.out.ext (HWK.out.trans hW)))
          have HAD := Lib.hid (fun W (hW : Ext w3 W) => rAddQ_any (dotZ r x k) (y * z) W (HDB.out r HRM.out k hk) (by omega) (HT.out.ext (HWK.out.trans hW)))
          rw [← HD.out] at HAD
          clear xcell rcell hy hz hyb hzb hyz
          go_upto_region 10 with fail
          refine region_anyEV (fun w' => w'.cell? ⟨b, off + i, none⟩ = some (.slice (some ⟨br, orr, none⟩) n cr) ∧ w'.cell? ⟨br, orr + k, none⟩ = some (.int .i64 y) ∧ w'.cell? ⟨bx, ox + k, none⟩ = some (.int .i64 z) ∧ Hid (Ext w3 w')) 17 17 (by kernel_rfl) (by kernel_rfl) ⟨(Ext.drew w3).cell gm, (Ext.drew w3).cell gr, (Ext.drew w3).cell gx, Ext.drew w3⟩ (fun ops hO hHeld => ?_)
          generalize w3.drew = wd at hHeld ⊢
          have hi := getopN hO 0 (by decide)
          conv at hi => rhs; arg 1; whnf
          refine anyE_takeWV hO (v := ?_) 0 hi (by kernel_rfl) (by kernel_rfl) (by kernel_rfl) (by kernel_rfl) (fun _ _ _ h => h) (Or.inl ⟨by rfl, ?_⟩) (by assumption) ?_
          rotate_left
          · ((intro w'); (try go_simp); (try with_reducible rfl))
          clear hi
          (try simp only [Act.put, List.setIfInBounds_toArray, List.set_cons_zero, List.set_cons_succ])
          have hi := getopN hO 1 (by decide)
          conv at hi => rhs; arg 1; whnf
          refine anyE_takeWV hO (v := ?_) 1 hi (by kernel_rfl) (by kernel_rfl) (by kernel_rfl) (by kernel_rfl) (fun _ _ _ h => h) (Or.inl ⟨by rfl, ?_⟩) (by assumption) ?_
          rotate_left
          · ((intro w'); (try go_simp); (try with_reducible rfl))
          clear hi
          (try simp only [Act.put, List.setIfInBounds_toArray, List.set_cons_zero, List.set_cons_succ])
          have hi := getopN hO 2 (by decide)
          conv at hi => rhs; arg 1; whnf
          refine anyE_takeWV hO (v := ?_) 2 hi (by kernel_rfl) (by kernel_rfl) (by kernel_rfl) (by kernel_rfl) (fun _ _ _ h => h) (Or.inl ⟨by rfl, ?_⟩) (by assumption) ?_
          rotate_left
          · ((intro w'); (try go_simp); (try with_reducible rfl))
          clear hi
          (try simp only [Act.put, List.setIfInBounds_toArray, List.set_cons_zero, List.set_cons_succ])
          have hi := getopN hO 3 (by decide)
          conv at hi => rhs; arg 1; whnf
          refine anyE_takeWV hO (v := ?_) 3 hi (by kernel_rfl) (by kernel_rfl) (by kernel_rfl) (by kernel_rfl) (fun _ _ _ h => h) (Or.inl ⟨by rfl, ?_⟩) (by assumption) ?_
          rotate_left
          · ((intro w'); (try go_simp); (try with_reducible rfl))
          clear hi
          (try simp only [Act.put, List.setIfInBounds_toArray, List.set_cons_zero, List.set_cons_succ])
          have hi := getopN hO 4 (by decide)
          conv at hi => rhs; arg 1; whnf
          refine anyE_takeV hO (v := ?_) 4 hi (by kernel_rfl) (by kernel_rfl) (by kernel_rfl) (by kernel_rfl) (fun _ _ _ h => h) (Or.inl ⟨by rfl, ?_⟩) (by assumption) ?_
          rotate_left
          · ((intro w' hSw); (try dsimp only at hSw); (try go_simp); (try with_reducible rfl))
          clear hi
          (try simp only [Act.put, List.setIfInBounds_toArray, List.set_cons_zero, List.set_cons_succ])
          have hi := getopN hO 5 (by decide)
          conv at hi => rhs; arg 1; whnf
          refine anyE_takeWV hO (v := ?_) 5 hi (by kernel_rfl) (by kernel_rfl) (by kernel_rfl) (by kernel_rfl) (fun _ _ _ h => h) (Or.inl ⟨by rfl, ?_⟩) (by assumption) ?_
          rotate_left
          · ((intro w'); (try go_simp); (try with_reducible rfl))
          clear hi
          (try simp only [Act.put, List.setIfInBounds_toArray, List.set_cons_zero, List.set_cons_succ])
          have hi := getopN hO 6 (by decide)
          conv at hi => rhs; arg 1; whnf
          refine anyE_takeWV hO (v := ?_) 6 hi (by kernel_rfl) (by kernel_rfl) (by kernel_rfl) (by kernel_rfl) (fun _ _ _ h => h) (Or.inl ⟨by rfl, ?_⟩) (by assumption) ?_
          rotate_left
          · ((intro w'); (try go_simp); (try with_reducible rfl))
          clear hi
          (try simp only [Act.put, List.setIfInBounds_toArray, List.set_cons_zero, List.set_cons_succ])
          have hi := getopN hO 7 (by decide)
          conv at hi => rhs; arg 1; whnf
          refine anyE_takeV hO (v := ?_) 7 hi (by kernel_rfl) (by kernel_rfl) (by kernel_rfl) (by kernel_rfl) (fun _ _ _ h => h) (Or.inl ⟨by rfl, ?_⟩) (by assumption) ?_
          rotate_left
          · ((intro w' hSw); (try dsimp only at hSw); (try go_simp); (try with_reducible rfl))
          clear hi
          (try simp only [Act.put, List.setIfInBounds_toArray, List.set_cons_zero, List.set_cons_succ])
          have hi := getopN hO 9 (by decide)
          conv at hi => rhs; arg 1; whnf
          refine anyE_takeWV hO (v := ?_) 9 hi (by kernel_rfl) (by kernel_rfl) (by kernel_rfl) (by kernel_rfl) (fun _ _ _ h => h) (Or.inl ⟨by rfl, ?_⟩) (by assumption) ?_
          rotate_left
          · ((intro w'); (try go_simp); (try with_reducible rfl))
          clear hi
          (try simp only [Act.put, List.setIfInBounds_toArray, List.set_cons_zero, List.set_cons_succ])
          have hi := getopN hO 10 (by decide)
          conv at hi => rhs; arg 1; whnf
          refine anyE_takeWV hO (v := ?_) 10 hi (by kernel_rfl) (by kernel_rfl) (by kernel_rfl) (by kernel_rfl) (fun _ _ _ h => h) (Or.inl ⟨by rfl, ?_⟩) (by assumption) ?_
          rotate_left
          · ((intro w'); (try go_simp); (try with_reducible rfl))
          clear hi
          (try simp only [Act.put, List.setIfInBounds_toArray, List.set_cons_zero, List.set_cons_succ])
          have hi := getopN hO 11 (by decide)
          conv at hi => rhs; arg 1; whnf
          refine anyE_takeWV hO (v := ?_) 11 hi (by kernel_rfl) (by kernel_rfl) (by kernel_rfl) (by kernel_rfl) (fun _ _ _ h => h) (Or.inl ⟨by rfl, ?_⟩) (by assumption) ?_
          rotate_left
          · ((intro w'); (try go_simp); (try with_reducible rfl))
          clear hi
          (try simp only [Act.put, List.setIfInBounds_toArray, List.set_cons_zero, List.set_cons_succ])
          have hi := getopN hO 12 (by decide)
          conv at hi => rhs; arg 1; whnf
          refine anyE_takeV hO (v := ?_) 12 hi (by kernel_rfl) (by kernel_rfl) (by kernel_rfl) (by kernel_rfl) (fun _ _ _ h => h) (Or.inl ⟨by rfl, ?_⟩) (by assumption) ?_
          rotate_left
          · ((intro w' hSw); (try dsimp only at hSw); (try go_simp); (try with_reducible rfl))
          clear hi
          (try simp only [Act.put, List.setIfInBounds_toArray, List.set_cons_zero, List.set_cons_succ])
          have hi := getopN hO 8 (by decide)
          conv at hi => rhs; arg 1; whnf
          refine anyE_stepV hO 8 (by kernel_rfl) hi (fun K hK => ?_)
          go_simp
          (go_at_call 111; refine (HOY.out _ (hHeld.2.2.2.out)).mono ?_)
          rintro e w4 ⟨rfl, hEz⟩
          go_wp2_with fail
          refine hK.out _ _ ⟨(hEz).cell hHeld.1, (hEz).cell hHeld.2.1, (hEz).cell hHeld.2.2.1, Ext.trans hHeld.2.2.2.out (hEz)⟩ (fun hHeld => ?_)
          clear hK K hi
          (try simp only [Act.put, List.setIfInBounds_toArray, List.set_cons_zero, List.set_cons_succ])
          have hi := getopN hO 13 (by decide)
          conv at hi => rhs; arg 1; whnf
          refine anyE_stepV hO 13 (by kernel_rfl) hi (fun K hK => ?_)
          go_simp
          (go_at_call 111; refine (HOZ.out _ (hHeld.2.2.2.out)).mono ?_)
          rintro e w5 ⟨rfl, hEz⟩
          go_wp2_with fail
          refine hK.out _ _ ⟨(hEz).cell hHeld.1, (hEz).cell hHeld.2.1, (hEz).cell hHeld.2.2.1, Ext.trans hHeld.2.2.2.out (hEz)⟩ (fun hHeld => ?_)
          clear hK K hi
          (try simp only [Act.put, List.setIfInBounds_toArray, List.set_cons_zero, List.set_cons_succ])
          have hi := getopN hO 14 (by decide)
          conv at hi => rhs; arg 1; whnf
          refine anyE_stepV hO 14 (by kernel_rfl) hi (fun K hK => ?_)
          go_simp
          (go_at_call 110; refine (HMU.out _ (hHeld.2.2.2.out)).mono ?_)
          rintro e w6 ⟨rfl, hEz⟩
          go_wp2_with fail
          refine hK.out _ _ ⟨(hEz).cell hHeld.1, (hEz).cell hHeld.2.1, (hEz).cell hHeld.2.2.1, Ext.trans hHeld.2.2.2.out (hEz)⟩ (fun hHeld => ?_)
          clear hK K hi
          (try simp only [Act.put, List.setIfInBounds_toArray, List.set_cons_zero, List.set_cons_succ])
          have hi := getopN hO 15 (by decide)
          conv at hi => rhs; arg 1; whnf
          refine anyE_stepV hO 15 (by kernel_rfl) hi (fun K hK => ?_)
          go_simp
          (go_at_call 109; refine (HAD.out _ (hHeld.2.2.2.out)).mono ?_)
          rintro e w7 ⟨rfl, hEz⟩
          go_wp2_with fail
          refine hK.out _ _ ⟨(hEz).cell hHeld.1, (hEz).cell hHeld.2.1, (hEz).cell hHeld.2.2.1, Ext.trans hHeld.2.2.2.out (hEz)⟩ (fun hHeld => ?_)
          clear hK K hi
          (try simp only [Act.put, List.setIfInBounds_toArray, List.set_cons_zero, List.set_cons_succ])
          have HZ := Lib.hid (hHeld.2.2.2.out)
          have hi := getopN hO 16 (by decide)
          conv at hi => rhs; arg 1; whnf
          refine anyE_lastV hO 16 (by kernel_rfl) (by kernel_rfl) hi (fun K hK => ?_)
          go_simp
          refine hK.out _ _ (by assumption) ?_
          clear hK K hi hO
          (try simp only [Act.put, List.setIfInBounds_toArray, List.set_cons_zero, List.set_cons_succ])
          have HK7 := Lib.hid (HK.out.trans HZ.out)
          go_wp2_with fail
          go_roundw
          case rel => exact ⟨k + 1, by omega, by go_num, rfl, HK7.out⟩
          case measure => simp [intOf]; omega
        · obtain rfl : k = n := by omega
          obtain ⟨s, hs⟩ : ∃ s, dotZ r x k = s := ⟨_, rfl⟩
          rw [hs] at HN HYM ⊢
          have hsb := HBD.out s HYM.out
          have HSM := Lib.hid (fun W => rSmall_any s W (by omega))
          have HFI := Lib.hid (fun W => fits6_any s W)
          have HNF : Hid (((temL M x k).take (i + 1)).all fit9B = (fb && fit9B s)) := by
            unfold Hid; rw [HN.out, List.all_append, ← HFB.out]; simp
          obtain ⟨fs, hfs⟩ : ∃ b, fit9B s = b := ⟨_, rfl⟩
          rw [hfs] at HFI HNF
          obtain ⟨oa, oc, rfl⟩ := HSL.out
          have HJ : Hid (((temL M x k).take i).length < 1000000) := Nat.lt_of_le_of_lt (by rw [List.length_take]; exact Nat.min_le_left _ _) (show i < 1000000 by omega)
          have HJL : Hid (((temL M x k).take i).length = i) := by unfold Hid; rw [List.length_take, HTL.out]; omega
          clear hs hfs
          go_wp2_with fail
          refine (HSM.out _).mono ?_
          rintro e w5 ⟨rfl, hE5⟩
          have HX5 := Lib.hid (HWK.out.trans hE5)
          have HB5 := Lib.hid (HB.out.ext (HK.out.trans hE5))
          have hs5 := HX5.out.size
          clear hE5 HSM
          cases fb
          · go_wp2_with (at_builtin; go_must (refine wpList_append_build _ rfl _ _ 39 rfl w.heap.size 3 (.int .i64 0) 1 8 Tryz.underlying39 infoInt rfl (by decide) (.slice oa i oc) intC ((temL M x k).take i) s #[.int .i64 s] 3 rfl HB5.out rfl rfl ?e1 (fun _ _ => rfl) HJ.out (by decide) hs5 ?_))
            case e1 => simp [Value.oneCell']
            intro v' w6 hB6 hg6 hb6 hs6 _
            have HV : Hid (∃ g cc, v' = .slice g (i + 1) cc) := by
              obtain ⟨us, b1, b2, b3, b4⟩ := id hB6
              obtain ⟨g, cc, hv, -⟩ := owns_shape b3 (by rw [List.length_append]; simp)
              refine ⟨some ⟨g, 0, none⟩, cc, ?_⟩
              rw [hv, List.length_append, HJL.out]; rfl
            rw [← HN.out] at hB6
            have HB6 := Lib.hid hB6
            have HX6 := Lib.hid (Below.trans HX5.out hb6)
            clear hB6 hg6 hb6
            go_wp2_with fail
            go_roundw
            case rel => exact ⟨i + 1, false, by omega, by go_num, rfl, by rw [HNF.out]; rfl, HX6.out, HV, HB6.out⟩
            case measure => simp [intOf]; omega
          · go_wp2_with fail
            refine (HFI.out _).mono ?_
            rintro e w6 ⟨rfl, rfl⟩
            go_wp2_with (at_builtin; go_must (refine wpList_append_build _ rfl _ _ 39 rfl w.heap.size 3 (.int .i64 0) 1 8 Tryz.underlying39 infoInt rfl (by decide) (.slice oa i oc) intC ((temL M x k).take i) s #[.int .i64 s] 3 rfl HB5.out rfl rfl ?e1 (fun _ _ => rfl) HJ.out (by decide) hs5 ?_))
            case e1 => simp [Value.oneCell']
            intro v' w6 hB6 hg6 hb6 hs6 _
            have HV : Hid (∃ g cc, v' = .slice g (i + 1) cc) := by
              obtain ⟨us, b1, b2, b3, b4⟩ := id hB6
              obtain ⟨g, cc, hv, -⟩ := owns_shape b3 (by rw [List.length_append]; simp)
              refine ⟨some ⟨g, 0, none⟩, cc, ?_⟩
              rw [hv, List.length_append, HJL.out]; rfl
            rw [← HN.out] at hB6
            have HB6 := Lib.hid hB6
            have HX6 := Lib.hid (Below.trans HX5.out hb6)
            clear hB6 hg6 hb6
            go_wp2_with fail
            go_roundw
            case rel => exact ⟨i + 1, fs, by omega, by go_num, rfl, by rw [HNF.out]; rfl, HX6.out, HV, HB6.out⟩
            case measure => simp [intOf]; omega
    · obtain rfl : i = M.length := by omega
      obtain ⟨oa, oc, rfl⟩ := HSL.out
      have hB := HB.out
      rw [List.take_of_length_le (by rw [HTL.out]; exact Nat.le_refl _)] at hB HFB
      have HO := Lib.hid (Build.ints hB)
      clear hB HB HSL
      go_wp2_with fail
      go_ret2
      refine ⟨oa, oc, by rw [← HFB.out]; rfl, ?_, HE.out⟩
      exact Ints.of_owns (by have := HO.out; rw [HTL.out] at this ⊢; exact this) (fun y hy => by have := HBD.out y hy; omega)

set_option maxRecDepth 100000 in
set_option maxHeartbeats 2000000 in
theorem tempered18_any (n : Nat) (P : List Int) (C M : List (List Int)) (x : List Int) (v vx : Value) (w : World) (hV : TempV w v P C M) (hx : Ints w vx x) (hr : ∀ r ∈ M, RowLe 1000000 r ∧ r.length = n) (hxl : x.length = n) (hn : n ≤ 10) (hxb : RowLe 1000000000 x) (hl : M.length ≤ 1000) (ht : Pow10 w) :
    Calls Tryz.prog 62 #[v, vx] w fun e w' => ∃ a c, e = .returned (.tuple #[.slice a M.length c, .bool ((temL M x n).all fit9B)]) ∧ Ints w' (.slice a M.length c) (temL M x n) ∧ Ext w w' := by
  obtain ⟨vp, vc, vm, rfl, hvp, hvc, hvm⟩ := hV
  have HAP := Lib.hid (fun W (hW : Ext w W) => applyQ_any n M x vm vx W (hvm.ext hW) (hx.ext hW) hr hxl hn hxb hl (ht.ext hW))
  obtain ⟨ap, cp, rfl, -⟩ := hvp.open
  obtain ⟨ac, cc, rfl, -⟩ := inCell.open hvc
  obtain ⟨am, cm, rfl, -⟩ := inCell.open hvm
  obtain ⟨ax, cx, rfl, -⟩ := hx.open
  obtain ⟨FT, hFT⟩ : ∃ b, (temL M x n).all fit9B = b := ⟨_, rfl⟩
  rw [hFT] at HAP ⊢
  clear hvp hvc hvm hx hr hxb ht hFT hxl hn hl
  go_enter Tryz.func62, Tryz.ntmps62
  obtain ⟨W1, hW1, hE1, hs1, hb1⟩ := tp_new w (.slice ap P.length cp) (.slice ac C.length cc) (.slice am M.length cm)
  have HE1 := Lib.hid hE1
  obtain ⟨b0, b1, b2, -⟩ := tp_block hb1
  clear hE1 hs1 hb1
  go_wp2_with fail
  refine (HAP.out _ HE1.out).mono ?_
  rintro e w2 ⟨a, c, rfl, hi, hE2⟩
  have HI := Lib.hid hi
  have HE2 := Lib.hid (HE1.out.trans hE2)
  clear hi hE2 HAP HE1 b0 b1 b2
  go_wp2_with fail
  go_ret2
  exact ⟨_, _, rfl, HI.out, HE2.out⟩
end Go.Proofs.YtehknemdfbkimaaGreatDoor
