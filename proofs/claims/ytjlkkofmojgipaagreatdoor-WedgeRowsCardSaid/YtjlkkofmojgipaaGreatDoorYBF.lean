import Derived.Test.YtjlkkofmojgipaaGreatDoorYBB
import Derived.Test.YtjlkkofmojgipaaGreatDoorYAW
namespace Go.Proofs.YtjlkkofmojgipaaGreatDoor
set_option linter.unusedVariables false
set_option linter.unusedSimpArgs false
open Go.RowKit
set_option maxRecDepth 100000 in
set_option maxHeartbeats 2000000 in
theorem decompM_any (F : Nat) {n k : Nat} {X : List Int} (hn : n < 7) (hn1 : 1 ≤ n) (hR : RightM n k X) (u : Value) (w : World) (h : MultiV w u n k X) (R : List (List Int)) (hK : kernW F n k X = some R) (ht : Pow10 w) (hb : 4 < w.heap.size) :
    Calls Tryz.prog 35 #[u] w fun e w' => e = .returned (.tuple #[.bool (decide (contL X = 0) || decide (R.length = k)), .int .i64 0]) ∧ Ext w w' := by
  have HCK : Hid (∀ W, Ext w W → Calls Tryz.prog 47 #[u] W fun e w' => e = .returned (.int .i64 0) ∧ Ext W w') := fun W hW => checkR_any hR u W (h.ext hW)
  have HZO : Hid (∀ W, Ext w W → Calls Tryz.prog 79 #[u] W fun e w' => e = .returned (.bool (decide (contL X = 0))) ∧ Ext W w') := fun W hW => zeroM_any hR.dig u W (h.ext hW) (ht.ext hW)
  have HKR : Hid (∀ W, Ext w W → Calls Tryz.prog 80 #[u] W fun e w' => ∃ a4 c4, e = .returned (.slice a4 R.length c4) ∧ Ext W w') := fun W hW => (kernelM_any F hn hn1 hR u W (h.ext hW) R hK (ht.ext hW) (Nat.lt_of_lt_of_le hb hW.size)).mono fun e w' ⟨v, h1, h2, h3⟩ => by
    obtain ⟨a4, c4, rfl, -⟩ := h2
    exact ⟨a4, c4, h1, h3⟩
  obtain ⟨r, rfl, hr⟩ := h
  obtain ⟨a, c, rfl, -⟩ := ListAt.open hr
  obtain ⟨mx, hmx⟩ : ∃ m, X.length = m := ⟨_, rfl⟩
  rw [hmx] at HCK HZO HKR ⊢
  obtain ⟨w1, hw1, hE1, hs1, hb1⟩ := boxM w (.int .i64 n) (.int .i64 k) (.slice a mx c)
  have HE1 := Lib.hid hE1
  have HB1 := Lib.hid hb1
  have k1 := block_cell hb1
  obtain ⟨lr, hlr⟩ : ∃ l, R.length = l := ⟨_, rfl⟩
  rw [hlr] at HKR ⊢
  have hbb : ((lr : Int) == (k : Int)) = decide (lr = k) := by
    by_cases e : lr = k
    · subst e; simp
    · rw [decide_eq_false e]; exact beq_eq_false_iff_ne.2 (by omega)
  obtain ⟨b2, hb2⟩ : ∃ b, decide (lr = k) = b := ⟨_, rfl⟩
  obtain ⟨b1, hb1'⟩ : ∃ b, decide (contL X = 0) = b := ⟨_, rfl⟩
  rw [hb1'] at HZO ⊢
  rw [hb2] at hbb ⊢
  clear hb1 hE1 hr hs1 hmx hlr hb2 hb1' ht hb hK hR
  go_enter Tryz.func35, Tryz.ntmps35
  go_wp2_with fail
  refine (HCK.out w1 HE1.out).mono ?_
  rintro e w2 ⟨rfl, h2⟩
  have HE2 : Hid (Ext w w2) := HE1.out.trans h2
  have hb2 := block_ext HB1.out h2
  have d0 := block_cell hb2 0; have d1 := block_cell hb2 1; have d2 := block_cell hb2 2
  simp only [List.getElem?_toArray, List.getElem?_cons_succ, List.getElem?_cons_zero] at d0 d1 d2
  clear h2 HCK k1 hw1 hb2
  go_upto_region 4 with fail
  cases b1 with
  | true =>
    refine region_anyEV (fun w' => w'.cell? ⟨w.heap.size, 0, none⟩ = some (.int .i64 n) ∧ w'.cell? ⟨w.heap.size, 1, none⟩ = some (.int .i64 k) ∧ w'.cell? ⟨w.heap.size, 2, none⟩ = some (.slice a mx c) ∧ Hid (Ext w2 w')) 12 12 (by kernel_rfl) (by kernel_rfl) ⟨(Ext.drew w2).cell d0, (Ext.drew w2).cell d1, (Ext.drew w2).cell d2, Ext.drew w2⟩ (fun ops hO hHeld => ?_)
    have hi := getopN hO 0 (by decide)
    conv at hi => rhs; arg 1; whnf
    refine anyE_takeV hO (v := ?_) 0 hi (by kernel_rfl) (by kernel_rfl) (by kernel_rfl) (by kernel_rfl) (fun _ _ _ h => h) (Or.inl ⟨by rfl, ?_⟩) (by assumption) ?_
    rotate_left
    · ((intro w' hSw); (try dsimp only at hSw); (try go_simp); (try with_reducible rfl))
    clear hi
    (try simp only [Act.put, List.setIfInBounds_toArray, List.set_cons_zero, List.set_cons_succ])
    have hi := getopN hO 1 (by decide)
    conv at hi => rhs; arg 1; whnf
    refine anyE_stepV hO 1 (by kernel_rfl) hi (fun K hK => ?_)
    go_simp
    (go_at_call 79; refine (HZO.out _ (HE2.out.trans hHeld.2.2.2.out)).mono ?_)
    rintro e wz ⟨rfl, hEz⟩
    go_wp2_with fail
    refine hK.out _ _ ⟨(hEz).cell hHeld.1, (hEz).cell hHeld.2.1, (hEz).cell hHeld.2.2.1, Ext.trans hHeld.2.2.2.out (hEz)⟩ (fun hHeld => ?_)
    clear hK K hi
    (try simp only [Act.put, List.setIfInBounds_toArray, List.set_cons_zero, List.set_cons_succ])
    have hi := getopN hO 2 (by decide)
    conv at hi => rhs; arg 1; whnf
    refine anyE_takeWV hO (v := ?_) 2 hi (by kernel_rfl) (by kernel_rfl) (by kernel_rfl) (by kernel_rfl) (fun _ _ _ h => h) (Or.inl ⟨by rfl, ?_⟩) (by assumption) ?_
    rotate_left
    · ((intro w'); (try go_simp); (try with_reducible rfl))
    clear hi
    (try simp only [Act.put, List.setIfInBounds_toArray, List.set_cons_zero, List.set_cons_succ])
    have hi := getopN hO 3 (by decide)
    conv at hi => rhs; arg 1; whnf
    refine anyE_takeWV hO (v := undef) 3 hi (by kernel_rfl) (by kernel_rfl) (by kernel_rfl) (by kernel_rfl) (fun _ _ _ h => h) (Or.inr ⟨by rfl, rfl⟩) (by assumption) ?_
    clear hi
    (try simp only [Act.put, List.setIfInBounds_toArray, List.set_cons_zero, List.set_cons_succ])
    have hi := getopN hO 4 (by decide)
    conv at hi => rhs; arg 1; whnf
    refine anyE_takeWV hO (v := undef) 4 hi (by kernel_rfl) (by kernel_rfl) (by kernel_rfl) (by kernel_rfl) (fun _ _ _ h => h) (Or.inr ⟨by rfl, rfl⟩) (by assumption) ?_
    clear hi
    (try simp only [Act.put, List.setIfInBounds_toArray, List.set_cons_zero, List.set_cons_succ])
    have hi := getopN hO 5 (by decide)
    conv at hi => rhs; arg 1; whnf
    refine anyE_takeWV hO (v := undef) 5 hi (by kernel_rfl) (by kernel_rfl) (by kernel_rfl) (by kernel_rfl) (fun _ _ _ h => h) (Or.inr ⟨by rfl, rfl⟩) (by assumption) ?_
    clear hi
    (try simp only [Act.put, List.setIfInBounds_toArray, List.set_cons_zero, List.set_cons_succ])
    have hi := getopN hO 6 (by decide)
    conv at hi => rhs; arg 1; whnf
    refine anyE_takeWV hO (v := undef) 6 hi (by kernel_rfl) (by kernel_rfl) (by kernel_rfl) (by kernel_rfl) (fun _ _ _ h => h) (Or.inr ⟨by rfl, rfl⟩) (by assumption) ?_
    clear hi
    (try simp only [Act.put, List.setIfInBounds_toArray, List.set_cons_zero, List.set_cons_succ])
    have hi := getopN hO 7 (by decide)
    conv at hi => rhs; arg 1; whnf
    refine anyE_takeWV hO (v := undef) 7 hi (by kernel_rfl) (by kernel_rfl) (by kernel_rfl) (by kernel_rfl) (fun _ _ _ h => h) (Or.inr ⟨by rfl, rfl⟩) (by assumption) ?_
    clear hi
    (try simp only [Act.put, List.setIfInBounds_toArray, List.set_cons_zero, List.set_cons_succ])
    have hi := getopN hO 8 (by decide)
    conv at hi => rhs; arg 1; whnf
    refine anyE_takeWV hO (v := undef) 8 hi (by kernel_rfl) (by kernel_rfl) (by kernel_rfl) (by kernel_rfl) (fun _ _ _ h => h) (Or.inr ⟨by rfl, rfl⟩) (by assumption) ?_
    clear hi
    (try simp only [Act.put, List.setIfInBounds_toArray, List.set_cons_zero, List.set_cons_succ])
    have hi := getopN hO 9 (by decide)
    conv at hi => rhs; arg 1; whnf
    refine anyE_takeWV hO (v := ?_) 9 hi (by kernel_rfl) (by kernel_rfl) (by kernel_rfl) (by kernel_rfl) (fun _ _ _ h => h) (Or.inl ⟨by rfl, ?_⟩) (by assumption) ?_
    rotate_left
    · ((intro w'); (try go_simp); (try with_reducible rfl))
    clear hi
    (try simp only [Act.put, List.setIfInBounds_toArray, List.set_cons_zero, List.set_cons_succ])
    have hi := getopN hO 10 (by decide)
    conv at hi => rhs; arg 1; whnf
    refine anyE_takeWV hO (v := ?_) 10 hi (by kernel_rfl) (by kernel_rfl) (by kernel_rfl) (by kernel_rfl) (fun _ _ _ h => h) (Or.inl ⟨by rfl, ?_⟩) (by assumption) ?_
    rotate_left
    · ((intro w'); (try go_simp); (try with_reducible rfl))
    clear hi
    (try simp only [Act.put, List.setIfInBounds_toArray, List.set_cons_zero, List.set_cons_succ])
    have z4 : Hid (Ext w2 _) := hHeld.2.2.2
    have hi := getopN hO 11 (by decide)
    conv at hi => rhs; arg 1; whnf
    refine anyE_lastV hO 11 (by kernel_rfl) (by kernel_rfl) hi (fun K hK => ?_)
    go_simp
    refine hK.out _ _ (by assumption) ?_
    clear hK K hi hO
    (try simp only [Act.put, List.setIfInBounds_toArray, List.set_cons_zero, List.set_cons_succ])
    go_wp2_with fail
    go_ret2
    exact ⟨rfl, HE2.out.trans z4.out⟩
  | false =>
    refine region_anyEV (fun w' => w'.cell? ⟨w.heap.size, 0, none⟩ = some (.int .i64 n) ∧ w'.cell? ⟨w.heap.size, 1, none⟩ = some (.int .i64 k) ∧ w'.cell? ⟨w.heap.size, 2, none⟩ = some (.slice a mx c) ∧ Hid (Ext w2 w')) 12 12 (by kernel_rfl) (by kernel_rfl) ⟨(Ext.drew w2).cell d0, (Ext.drew w2).cell d1, (Ext.drew w2).cell d2, Ext.drew w2⟩ (fun ops hO hHeld => ?_)
    have hi := getopN hO 0 (by decide)
    conv at hi => rhs; arg 1; whnf
    refine anyE_takeV hO (v := ?_) 0 hi (by kernel_rfl) (by kernel_rfl) (by kernel_rfl) (by kernel_rfl) (fun _ _ _ h => h) (Or.inl ⟨by rfl, ?_⟩) (by assumption) ?_
    rotate_left
    · ((intro w' hSw); (try dsimp only at hSw); (try go_simp); (try with_reducible rfl))
    clear hi
    (try simp only [Act.put, List.setIfInBounds_toArray, List.set_cons_zero, List.set_cons_succ])
    have hi := getopN hO 1 (by decide)
    conv at hi => rhs; arg 1; whnf
    refine anyE_stepV hO 1 (by kernel_rfl) hi (fun K hK => ?_)
    go_simp
    (go_at_call 79; refine (HZO.out _ (HE2.out.trans hHeld.2.2.2.out)).mono ?_)
    rintro e wz ⟨rfl, hEz⟩
    go_wp2_with fail
    refine hK.out _ _ ⟨(hEz).cell hHeld.1, (hEz).cell hHeld.2.1, (hEz).cell hHeld.2.2.1, Ext.trans hHeld.2.2.2.out (hEz)⟩ (fun hHeld => ?_)
    clear hK K hi
    (try simp only [Act.put, List.setIfInBounds_toArray, List.set_cons_zero, List.set_cons_succ])
    have hi := getopN hO 2 (by decide)
    conv at hi => rhs; arg 1; whnf
    refine anyE_takeWV hO (v := ?_) 2 hi (by kernel_rfl) (by kernel_rfl) (by kernel_rfl) (by kernel_rfl) (fun _ _ _ h => h) (Or.inl ⟨by rfl, ?_⟩) (by assumption) ?_
    rotate_left
    · ((intro w'); (try go_simp); (try with_reducible rfl))
    clear hi
    (try simp only [Act.put, List.setIfInBounds_toArray, List.set_cons_zero, List.set_cons_succ])
    have hi := getopN hO 3 (by decide)
    conv at hi => rhs; arg 1; whnf
    refine anyE_takeV hO (v := ?_) 3 hi (by kernel_rfl) (by kernel_rfl) (by kernel_rfl) (by kernel_rfl) (fun _ _ _ h => h) (Or.inl ⟨by rfl, ?_⟩) (by assumption) ?_
    rotate_left
    · ((intro w' hSw); (try dsimp only at hSw); (try go_simp); (try with_reducible rfl))
    clear hi
    (try simp only [Act.put, List.setIfInBounds_toArray, List.set_cons_zero, List.set_cons_succ])
    have hi := getopN hO 6 (by decide)
    conv at hi => rhs; arg 1; whnf
    refine anyE_takeWV hO (v := ?_) 6 hi (by kernel_rfl) (by kernel_rfl) (by kernel_rfl) (by kernel_rfl) (fun _ _ _ h => h) (Or.inl ⟨by rfl, ?_⟩) (by assumption) ?_
    rotate_left
    · ((intro w'); (try go_simp); (try with_reducible rfl))
    clear hi
    (try simp only [Act.put, List.setIfInBounds_toArray, List.set_cons_zero, List.set_cons_succ])
    have hi := getopN hO 7 (by decide)
    conv at hi => rhs; arg 1; whnf
    refine anyE_takeV hO (v := ?_) 7 hi (by kernel_rfl) (by kernel_rfl) (by kernel_rfl) (by kernel_rfl) (fun _ _ _ h => h) (Or.inl ⟨by rfl, ?_⟩) (by assumption) ?_
    rotate_left
    · ((intro w' hSw); (try dsimp only at hSw); (try go_simp); (try with_reducible rfl))
    clear hi
    (try simp only [Act.put, List.setIfInBounds_toArray, List.set_cons_zero, List.set_cons_succ])
    have hi := getopN hO 4 (by decide)
    conv at hi => rhs; arg 1; whnf
    refine anyE_stepV hO 4 (by kernel_rfl) hi (fun K hK => ?_)
    go_simp
    (go_at_call 80; refine (HKR.out _ (HE2.out.trans hHeld.2.2.2.out)).mono ?_)
    rintro e wy ⟨a6, c6, rfl, hEz⟩
    go_wp2_with fail
    refine hK.out _ _ ⟨(hEz).cell hHeld.1, (hEz).cell hHeld.2.1, (hEz).cell hHeld.2.2.1, Ext.trans hHeld.2.2.2.out (hEz)⟩ (fun hHeld => ?_)
    clear hK K hi
    (try simp only [Act.put, List.setIfInBounds_toArray, List.set_cons_zero, List.set_cons_succ])
    have hi := getopN hO 5 (by decide)
    conv at hi => rhs; arg 1; whnf
    refine anyE_takeWV hO (v := ?_) 5 hi (by kernel_rfl) (by kernel_rfl) (by kernel_rfl) (by kernel_rfl) (fun _ _ _ h => h) (Or.inl ⟨by rfl, ?_⟩) (by assumption) ?_
    rotate_left
    · ((intro w'); (try go_simp); (try with_reducible rfl))
    clear hi
    (try simp only [Act.put, List.setIfInBounds_toArray, List.set_cons_zero, List.set_cons_succ])
    have hi := getopN hO 8 (by decide)
    conv at hi => rhs; arg 1; whnf
    refine anyE_takeWV hO (v := ?_) 8 hi (by kernel_rfl) (by kernel_rfl) (by kernel_rfl) (by kernel_rfl) (fun _ _ _ h => h) (Or.inl ⟨by rfl, ?_⟩) (by assumption) ?_
    rotate_left
    · ((intro w'); (try go_simp); (try with_reducible rfl))
    clear hi
    (try simp only [Act.put, List.setIfInBounds_toArray, List.set_cons_zero, List.set_cons_succ])
    have hi := getopN hO 9 (by decide)
    conv at hi => rhs; arg 1; whnf
    refine anyE_takeWV hO (v := ?_) 9 hi (by kernel_rfl) (by kernel_rfl) (by kernel_rfl) (by kernel_rfl) (fun _ _ _ h => h) (Or.inl ⟨by rfl, ?_⟩) (by assumption) ?_
    rotate_left
    · ((intro w'); (try go_simp); (try with_reducible rfl))
    clear hi
    (try simp only [Act.put, List.setIfInBounds_toArray, List.set_cons_zero, List.set_cons_succ])
    have hi := getopN hO 10 (by decide)
    conv at hi => rhs; arg 1; whnf
    refine anyE_takeWV hO (v := ?_) 10 hi (by kernel_rfl) (by kernel_rfl) (by kernel_rfl) (by kernel_rfl) (fun _ _ _ h => h) (Or.inl ⟨by rfl, ?_⟩) (by assumption) ?_
    rotate_left
    · ((intro w'); (try go_simp); (try with_reducible rfl))
    clear hi
    (try simp only [Act.put, List.setIfInBounds_toArray, List.set_cons_zero, List.set_cons_succ])
    have z4 : Hid (Ext w2 _) := hHeld.2.2.2
    have hi := getopN hO 11 (by decide)
    conv at hi => rhs; arg 1; whnf
    refine anyE_lastV hO 11 (by kernel_rfl) (by kernel_rfl) hi (fun K hK => ?_)
    go_simp
    refine hK.out _ _ (by assumption) ?_
    clear hK K hi hO
    (try simp only [Act.put, List.setIfInBounds_toArray, List.set_cons_zero, List.set_cons_succ])
    go_wp2_with fail
    go_ret2
    refine ⟨?_, HE2.out.trans z4.out⟩
    first | rfl | (rw [← hbb]; rfl) | (simp [hbb])
end Go.Proofs.YtjlkkofmojgipaaGreatDoor
