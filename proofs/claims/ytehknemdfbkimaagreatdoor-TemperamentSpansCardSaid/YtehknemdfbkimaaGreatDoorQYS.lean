/- Merged: TDot. -/
import Derived.Test.YtehknemdfbkimaaGreatDoorQYR
import Derived.Test.YtehknemdfbkimaaGreatDoorQBG
/- Law 18: dot, at small numbers. Printed by gen/tdot.py. -/
namespace Go.Proofs.YtehknemdfbkimaaGreatDoor
set_option linter.unusedVariables false
set_option linter.unusedSimpArgs false
open Go.RowKit

set_option maxRecDepth 100000 in
set_option maxHeartbeats 4000000 in
theorem dot18_any (n : Nat) (r x : List Int) (vr vx : Value) (w : World) (hr : Ints w vr r) (hx : Ints w vx x) (hrl : r.length = n) (hxl : x.length = n) (hn : n ≤ 10) (hrb : RowLe 1000000 r) (hxb : RowLe 1000000 x) (ht : Pow10 w) :
    Calls Tryz.prog 45 #[vr, vx] w fun e w' => e = .returned (.string (intB (dotZ r x n))) ∧ Ext w w' := by
  have HRB := Lib.hid hrb; have HXB := Lib.hid hxb; have HT := Lib.hid ht
  have HDB : Hid (∀ k, k ≤ n → -100000000000000000 < dotZ r x k ∧ dotZ r x k < 100000000000000000) := fun k hk => by
    have h1 := dotZ_bound hrb hxb k
    have h2 : k * (1000000 * 1000000) ≤ 10 * (1000000 * 1000000) := Nat.mul_le_mul_right _ (by omega)
    have h3 : (dotZ r x k).natAbs ≤ 10 * (1000000 * 1000000) := Nat.le_trans h1 h2
    omega
  obtain ⟨ar, cr, rfl, r1, r2, -, -, rc⟩ := hr.open
  obtain ⟨ax, cx, rfl, x1, x2, -, -, xc⟩ := hx.open
  have HRC := Lib.hid rc; have HXC := Lib.hid xc; have HRL := Lib.hid hrl; have HXL := Lib.hid hxl
  rw [hrl, hxl]
  rw [hrl] at r1; rw [hxl] at x1
  unfold maxLen at r2 x2
  clear hr hx rc xc hrl hxl hrb hxb ht
  go_enter Tryz.func45, Tryz.ntmps45
  go_wp2_with fail
  go_loopw [5, 6] (fun s t wr => ∃ j : Nat, j ≤ n ∧ t = .int .i64 j ∧ s = .string (intB (dotZ r x j)) ∧ Hid (Ext w wr)) (fun _ t _ => n - (intOf t).toNat)
  case atStart => exact ⟨0, by omega, rfl, by show _ = Value.string (intB 0); rw [intB_nought], Ext.refl _⟩
  case round =>
    obtain ⟨k, hk, rfl, rfl, HK⟩ := hrel
    obtain ⟨w3, rfl⟩ : ∃ w3 : World, w3 = wr := ⟨_, rfl⟩
    by_cases hkn : k < n
    · obtain ⟨br, orr, rfl, hbr, rcell⟩ := HRC.out (by intro e; have := HRL.out; rw [e] at this; simp at this; omega)
      obtain ⟨bx, ox, rfl, hbx, xcell⟩ := HXC.out (by intro e; have := HXL.out; rw [e] at this; simp at this; omega)
      obtain ⟨y, hy⟩ : ∃ y, r[k]? = some y := ⟨r[k]'(by rw [HRL.out]; exact hkn), List.getElem?_eq_getElem _⟩
      obtain ⟨z, hz⟩ : ∃ z, x[k]? = some z := ⟨x[k]'(by rw [HXL.out]; exact hkn), List.getElem?_eq_getElem _⟩
      have gr := HK.out.cell (rcell k y hy)
      have gx := HK.out.cell (xcell k z hz)
      have hyb := HRB.out y (List.mem_of_getElem? hy); have hzb := HXB.out z (List.mem_of_getElem? hz)
      have HD : Hid (dotZ r x (k + 1) = dotZ r x k + y * z) := by
        show dotZ r x k + r.getD k 0 * x.getD k 0 = _
        rw [List.getD_eq_getElem?_getD, List.getD_eq_getElem?_getD, hy, hz]; rfl
      have HOY := Lib.hid (fun W (hW : Ext w3 W) => rOf_any y W (by omega) (by omega) (HT.out.ext (HK.out.trans hW)))
      have HOZ := Lib.hid (fun W (hW : Ext w3 W) => rOf_any z W (by omega) (by omega) (HT.out.ext (HK.out.trans hW)))
      have hyz : (y * z).natAbs ≤ 1000000 * 1000000 := by rw [Int.natAbs_mul]; exact Nat.mul_le_mul hyb hzb
      have HMU := Lib.hid (fun W (hW : Ext w3 W) => rMulQ_any y z W (by omega) (by omega) (HT.out.ext (HK.out.trans hW)))
      have HAD := Lib.hid (fun W (hW : Ext w3 W) => rAddQ_any (dotZ r x k) (y * z) W (HDB.out k hk) (by omega) (HT.out.ext (HK.out.trans hW)))
      rw [← HD.out] at HAD
      clear xcell rcell hy hz hyb hzb hyz
      go_upto_region 5 with fail
      refine region_anyEV (fun w' => w'.cell? ⟨br, orr + k, none⟩ = some (.int .i64 y) ∧ w'.cell? ⟨bx, ox + k, none⟩ = some (.int .i64 z) ∧ Hid (Ext w3 w')) 14 14 (by kernel_rfl) (by kernel_rfl) ⟨(Ext.drew w3).cell gr, (Ext.drew w3).cell gx, Ext.drew w3⟩ (fun ops hO hHeld => ?_)
      generalize w3.drew = wd at hHeld ⊢
      have hi := getopN hO 0 (by decide)
      conv at hi => rhs; arg 1; whnf
      refine anyE_takeWV hO (v := ?_) 0 hi (by kernel_rfl) (by kernel_rfl) (by kernel_rfl) (by kernel_rfl) (fun _ _ _ h => h) (Or.inl ⟨by rfl, ?_⟩) (by assumption) ?_
      rotate_left
      · ((intro w'); (try go_simp); (try with_reducible rfl))
      clear hi
      (try simp only [Act.put, List.setIfInBounds_toArray, List.set_cons_zero, List.set_cons_succ])
      have hi := getopN hO 1 (by decide)
      conv at hi => rhs; arg 1; whnf
      refine anyE_takeWV hO (v := ?_) 1 hi (by kernel_rfl) (by kernel_rfl) (by kernel_rfl) (by kernel_rfl) (fun _ _ _ h => h) (Or.inl ⟨by rfl, ?_⟩) (by assumption) ?_
      rotate_left
      · ((intro w'); (try go_simp); (try with_reducible rfl))
      clear hi
      (try simp only [Act.put, List.setIfInBounds_toArray, List.set_cons_zero, List.set_cons_succ])
      have hi := getopN hO 2 (by decide)
      conv at hi => rhs; arg 1; whnf
      refine anyE_takeWV hO (v := ?_) 2 hi (by kernel_rfl) (by kernel_rfl) (by kernel_rfl) (by kernel_rfl) (fun _ _ _ h => h) (Or.inl ⟨by rfl, ?_⟩) (by assumption) ?_
      rotate_left
      · ((intro w'); (try go_simp); (try with_reducible rfl))
      clear hi
      (try simp only [Act.put, List.setIfInBounds_toArray, List.set_cons_zero, List.set_cons_succ])
      have hi := getopN hO 3 (by decide)
      conv at hi => rhs; arg 1; whnf
      refine anyE_takeWV hO (v := ?_) 3 hi (by kernel_rfl) (by kernel_rfl) (by kernel_rfl) (by kernel_rfl) (fun _ _ _ h => h) (Or.inl ⟨by rfl, ?_⟩) (by assumption) ?_
      rotate_left
      · ((intro w'); (try go_simp); (try with_reducible rfl))
      clear hi
      (try simp only [Act.put, List.setIfInBounds_toArray, List.set_cons_zero, List.set_cons_succ])
      have hi := getopN hO 4 (by decide)
      conv at hi => rhs; arg 1; whnf
      refine anyE_takeV hO (v := ?_) 4 hi (by kernel_rfl) (by kernel_rfl) (by kernel_rfl) (by kernel_rfl) (fun _ _ _ h => h) (Or.inl ⟨by rfl, ?_⟩) (by assumption) ?_
      rotate_left
      · ((intro w' hSw); (try dsimp only at hSw); (try go_simp); (try with_reducible rfl))
      clear hi
      (try simp only [Act.put, List.setIfInBounds_toArray, List.set_cons_zero, List.set_cons_succ])
      have hi := getopN hO 6 (by decide)
      conv at hi => rhs; arg 1; whnf
      refine anyE_takeWV hO (v := ?_) 6 hi (by kernel_rfl) (by kernel_rfl) (by kernel_rfl) (by kernel_rfl) (fun _ _ _ h => h) (Or.inl ⟨by rfl, ?_⟩) (by assumption) ?_
      rotate_left
      · ((intro w'); (try go_simp); (try with_reducible rfl))
      clear hi
      (try simp only [Act.put, List.setIfInBounds_toArray, List.set_cons_zero, List.set_cons_succ])
      have hi := getopN hO 7 (by decide)
      conv at hi => rhs; arg 1; whnf
      refine anyE_takeWV hO (v := ?_) 7 hi (by kernel_rfl) (by kernel_rfl) (by kernel_rfl) (by kernel_rfl) (fun _ _ _ h => h) (Or.inl ⟨by rfl, ?_⟩) (by assumption) ?_
      rotate_left
      · ((intro w'); (try go_simp); (try with_reducible rfl))
      clear hi
      (try simp only [Act.put, List.setIfInBounds_toArray, List.set_cons_zero, List.set_cons_succ])
      have hi := getopN hO 8 (by decide)
      conv at hi => rhs; arg 1; whnf
      refine anyE_takeWV hO (v := ?_) 8 hi (by kernel_rfl) (by kernel_rfl) (by kernel_rfl) (by kernel_rfl) (fun _ _ _ h => h) (Or.inl ⟨by rfl, ?_⟩) (by assumption) ?_
      rotate_left
      · ((intro w'); (try go_simp); (try with_reducible rfl))
      clear hi
      (try simp only [Act.put, List.setIfInBounds_toArray, List.set_cons_zero, List.set_cons_succ])
      have hi := getopN hO 9 (by decide)
      conv at hi => rhs; arg 1; whnf
      refine anyE_takeV hO (v := ?_) 9 hi (by kernel_rfl) (by kernel_rfl) (by kernel_rfl) (by kernel_rfl) (fun _ _ _ h => h) (Or.inl ⟨by rfl, ?_⟩) (by assumption) ?_
      rotate_left
      · ((intro w' hSw); (try dsimp only at hSw); (try go_simp); (try with_reducible rfl))
      clear hi
      (try simp only [Act.put, List.setIfInBounds_toArray, List.set_cons_zero, List.set_cons_succ])
      have hi := getopN hO 5 (by decide)
      conv at hi => rhs; arg 1; whnf
      refine anyE_stepV hO 5 (by kernel_rfl) hi (fun K hK => ?_)
      go_simp
      (go_at_call 111; refine (HOY.out _ (hHeld.2.2.out)).mono ?_)
      rintro e w4 ⟨rfl, hEz⟩
      go_wp2_with fail
      refine hK.out _ _ ⟨(hEz).cell hHeld.1, (hEz).cell hHeld.2.1, Ext.trans hHeld.2.2.out (hEz)⟩ (fun hHeld => ?_)
      clear hK K hi
      (try simp only [Act.put, List.setIfInBounds_toArray, List.set_cons_zero, List.set_cons_succ])
      have hi := getopN hO 10 (by decide)
      conv at hi => rhs; arg 1; whnf
      refine anyE_stepV hO 10 (by kernel_rfl) hi (fun K hK => ?_)
      go_simp
      (go_at_call 111; refine (HOZ.out _ (hHeld.2.2.out)).mono ?_)
      rintro e w5 ⟨rfl, hEz⟩
      go_wp2_with fail
      refine hK.out _ _ ⟨(hEz).cell hHeld.1, (hEz).cell hHeld.2.1, Ext.trans hHeld.2.2.out (hEz)⟩ (fun hHeld => ?_)
      clear hK K hi
      (try simp only [Act.put, List.setIfInBounds_toArray, List.set_cons_zero, List.set_cons_succ])
      have hi := getopN hO 11 (by decide)
      conv at hi => rhs; arg 1; whnf
      refine anyE_stepV hO 11 (by kernel_rfl) hi (fun K hK => ?_)
      go_simp
      (go_at_call 110; refine (HMU.out _ (hHeld.2.2.out)).mono ?_)
      rintro e w6 ⟨rfl, hEz⟩
      go_wp2_with fail
      refine hK.out _ _ ⟨(hEz).cell hHeld.1, (hEz).cell hHeld.2.1, Ext.trans hHeld.2.2.out (hEz)⟩ (fun hHeld => ?_)
      clear hK K hi
      (try simp only [Act.put, List.setIfInBounds_toArray, List.set_cons_zero, List.set_cons_succ])
      have hi := getopN hO 12 (by decide)
      conv at hi => rhs; arg 1; whnf
      refine anyE_stepV hO 12 (by kernel_rfl) hi (fun K hK => ?_)
      go_simp
      (go_at_call 109; refine (HAD.out _ (hHeld.2.2.out)).mono ?_)
      rintro e w7 ⟨rfl, hEz⟩
      go_wp2_with fail
      refine hK.out _ _ ⟨(hEz).cell hHeld.1, (hEz).cell hHeld.2.1, Ext.trans hHeld.2.2.out (hEz)⟩ (fun hHeld => ?_)
      clear hK K hi
      (try simp only [Act.put, List.setIfInBounds_toArray, List.set_cons_zero, List.set_cons_succ])
      have HZ := Lib.hid (hHeld.2.2.out)
      have hi := getopN hO 13 (by decide)
      conv at hi => rhs; arg 1; whnf
      refine anyE_lastV hO 13 (by kernel_rfl) (by kernel_rfl) hi (fun K hK => ?_)
      go_simp
      refine hK.out _ _ (by assumption) ?_
      clear hK K hi hO
      (try simp only [Act.put, List.setIfInBounds_toArray, List.set_cons_zero, List.set_cons_succ])
      have HK7 := Lib.hid (HK.out.trans HZ.out)
      go_wp2_with fail
      go_roundw
      case rel => exact ⟨k + 1, by omega, by go_num, rfl, HK7.out⟩
      case measure => simp [intOf]; omega
    · obtain rfl : k = n := by omega
      go_wp2_with fail
      go_ret
      exact ⟨rfl, HK.out⟩
end Go.Proofs.YtehknemdfbkimaaGreatDoor
