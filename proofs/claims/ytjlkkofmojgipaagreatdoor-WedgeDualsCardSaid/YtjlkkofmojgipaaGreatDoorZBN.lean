/- Merged: WgMk, WgS. -/
import Derived.Test.YtjlkkofmojgipaaGreatDoorZBM
import Derived.Test.YtjlkkofmojgipaaGreatDoorZAV
import Derived.Test.YtjlkkofmojgipaaGreatDoorZBI
import Derived.Test.YtjlkkofmojgipaaGreatDoorZAF
/- Contract of law 10's Make; printed by gen/wmake.py. -/
namespace Go.Proofs.YtjlkkofmojgipaaGreatDoor
set_option linter.unusedVariables false
set_option linter.unusedSimpArgs false
open Go.RowKit

theorem setsI_castM {n k : Nat} (hn : n < 7) (hk : k ≤ n) : setsI (allW n k) = castS (setsL n k) := by
  rw [← sets_map hn hk]
  unfold setsI castS natsI
  rw [List.map_map]; rfl
theorem allW_six : ∀ n, n < 5 → ∀ k, k < n + 1 → (allW n k).length ≤ 6 := by decide +kernel
theorem boxD (w : World) (C : Array Value) (T : TypeId) : ∃ W, (w.alloc (.cells C T)) = W ∧ Ext w W ∧ W.heap.size = w.heap.size + 1 ∧ W.heap[w.heap.size]? = some (.cells C T (0, 0)) :=
  ⟨_, rfl, Ext.alloc _ _, by simp, block_new _ _ _⟩

set_option maxRecDepth 100000 in
set_option maxHeartbeats 2000000 in
theorem make10_any (x y dim : Int) (z0 z1 z2 z3 z4 z5 : Int) (n k : Nat) (hx : 0 ≤ x ∧ x ≤ 255) (hy : 0 ≤ y ∧ y ≤ 255) (hz : ∀ a ∈ [z0, z1, z2, z3, z4, z5], -128 ≤ a ∧ a ≤ 127) (hn : n < 5) (hdim : dim = n ∨ (dim = -1 ∧ x.tmod 5 = n)) (hk : (k : Int) = y.tmod ((n : Int) + 1)) (w : World) (ht : Pow10 w) :
    Calls Tryz.prog 27 #[.agg #[.int .u8 x, .int .u8 y, .int .i8 z0, .int .i8 z1, .int .i8 z2, .int .i8 z3, .int .i8 z4, .int .i8 z5], .int .i64 dim] w fun e w' => ∃ a c, e = .returned (.agg #[.int .i64 n, .int .i64 k, .slice a (allW n k).length c]) ∧ ListAt 1 numC w' (.slice a (allW n k).length c) ([z0, z1, z2, z3, z4, z5].take (allW n k).length) ∧ Ext w w' := by
  have hkn : k ≤ n := by
    have h1 := Int.tmod_lt_of_pos y (show 0 < (n : Int) + 1 by omega)
    omega
  have h6 := allW_six n hn k (by omega)
  obtain ⟨N, hN⟩ : ∃ N, (allW n k).length = N := ⟨_, rfl⟩
  have HZB := Lib.hid hz
  have HSE : Hid (∀ W, Calls Tryz.prog 33 #[.int .i64 (n : Int), .int .i64 (k : Int)] W fun e w' => ∃ a c, e = .returned (.slice a N c) ∧ Ext W w') := fun W => (refSets_any n k (by omega) hkn W).mono fun e w' ⟨v, h1, h2, h3⟩ => by
    rw [← setsI_castM (by omega) hkn] at h2
    obtain ⟨a, c, rfl, -⟩ := ListAt.open h2
    have hl : (setsI (allW n k)).length = N := by unfold setsI; rw [List.length_map]; exact hN
    rw [hl] at h1
    exact ⟨a, c, h1, h3⟩
  rw [hN] at h6 ⊢
  have HT := Lib.hid ht
  obtain ⟨w1, hw1, hE1, hs1, hb1⟩ := boxD w #[.int .u8 x, .int .u8 y, .int .i8 z0, .int .i8 z1, .int .i8 z2, .int .i8 z3, .int .i8 z4, .int .i8 z5] 49
  obtain ⟨w2, hw2, hE2, hs2, hb2⟩ := boxM w1 (.int .i64 0) (.int .i64 0) (.slice none 0 0)
  have HE2 := Lib.hid (hE1.trans hE2)
  have HB1 := Lib.hid (block_ext hb1 hE2); have HB2 := Lib.hid hb2
  have HS1 : Hid (w1.heap.size = w.heap.size + 1) := hs1
  have HS2 : Hid (w2.heap.size = w1.heap.size + 1) := hs2
  obtain ⟨D, hD⟩ : ∃ D, [z0, z1, z2, z3, z4, z5] = D := ⟨_, rfl⟩
  have HDC : Hid (∀ W, Ext w2 W → ∀ i y', D[i]? = some y' → W.cell? ⟨w.heap.size, 2 + i, none⟩ = some (.int .i8 y')) := fun W hW i y' hi => by
    rw [block_cell (block_ext HB1.out hW), ← Option.map_some (f := Value.int .i8), ← hi, ← hD]
    match i with
    | 0 => rfl
    | 1 => rfl
    | 2 => rfl
    | 3 => rfl
    | 4 => rfl
    | 5 => rfl
    | i + 6 => simp; try omega
  have HD6 : Hid (D.length = 6) := by unfold Hid; rw [← hD]; rfl
  rw [hD] at HZB ⊢
  have c0 := block_cell HB1.out 0; have c1 := block_cell HB1.out 1
  simp only [List.getElem?_toArray, List.getElem?_cons_succ, List.getElem?_cons_zero] at c0 c1
  have e1 : IntKind.i64.wrap ((n : Int) + 1) = (n : Int) + 1 := by rw [IntKind.wrap_i64]; omega
  have e2 : y.tmod ((n : Int) + 1) = (k : Int) := hk.symm
  have e3 : ((n : Int) + 1 == 0) = false := by simp; omega
  have e3' : ¬ (n : Int) + 1 = 0 := by omega
  obtain ⟨w3, hw3, hE3, hs3, hb3⟩ := boxM w2 (.int .i64 0) (.int .i64 0) (.slice none 0 0)
  have HE3 := Lib.hid hE3; have HB3 := Lib.hid hb3
  have f3 := block_free hb3
  have k3 := block_cell hb3
  clear hb1 hb2 hE1 hE2 hs2 hN hD hz hk ht hE3 hs3 hb3
  go_enter Tryz.func27, Tryz.ntmps27
  go_upto_if 9 with fail
  go_cut [1] from 10 to 13 (fun s1 wx => s1 = .int .i64 n ∧ wx = w2)
  case first =>
    rcases hdim with hdim | ⟨hdim, hxm⟩
    · subst hdim
      have q1 : ¬ (n : Int) < 0 := by omega
      go_wp2_with fail
      go_meet
      exact ⟨rfl, rfl⟩
    · subst hdim
      have q1 : IntKind.u8.wrap (x.tmod 5) = (n : Int) := by rw [hxm, IntKind.wrap_u8]; omega
      have q2 : IntKind.i64.wrap (n : Int) = (n : Int) := by rw [IntKind.wrap_i64]; omega
      go_wp2_with fail
      go_meet
      exact ⟨rfl, rfl⟩
  case rest =>
  obtain ⟨rfl, hwx⟩ := hcut
  obtain rfl := hwx.symm
  clear hw1 hw2 hdim
  go_upto_region 4 with fail
  generalize hw9 : World.setCell _ _ _ = w5
  have HB5 : Hid (w5.heap[w2.heap.size]? = some (.cells #[.int .i64 n, .int .i64 k, .slice none 0 0] 31 (0, 0))) := by rw [← hw9]; exact multi_store HB3.out _ _ _
  have hE5 : Ext w2 w5 := by rw [← hw9]; exact multi_ext HE3.out (Nat.le_refl _) _ _ _
  have HX25 := Lib.hid hE5
  have HE5 : Hid (Ext w w5) := HE2.out.trans hE5
  have HB25 := Lib.hid (block_ext HB2.out hE5)
  clear hw9 hw3 k3 f3 c0 c1 hE5
  obtain ⟨w3, hw3e⟩ : ∃ w3, w3 = w2 := ⟨_, rfl⟩
  have HW3 := Lib.hid hw3e
  have d0 := block_cell HB5.out 0; have d1 := block_cell HB5.out 1
  simp only [List.getElem?_toArray, List.getElem?_cons_succ, List.getElem?_cons_zero] at d0 d1
  rw [← hw3e] at HB5 d0 d1 ⊢
  clear hw3e
  go_wp2_with fail
  refine (HSE.out w5).mono ?_
  rintro e w7 ⟨a7, c7, rfl, h7⟩
  have HX27 : Hid (Ext w2 w7) := HX25.out.trans h7
  have HE7 : Hid (Ext w w7) := HE5.out.trans h7
  have HB7 := Lib.hid (block_ext HB5.out h7)
  have HB27 := Lib.hid (block_ext HB25.out h7)
  have HBL : Hid (w3.heap.size < w7.heap.size) := block_lt HB7.out
  have HS3 : Hid (w1.heap.size < w3.heap.size ∧ w.heap.size < w3.heap.size ∧ w.heap.size < w1.heap.size) := by rw [HW3.out]; have := HS2.out; have := HS1.out; unfold Hid; omega
  have HDM : Hid (∀ i, (D.take i).length < 1000000) := by intro i; rw [List.length_take, HD6.out]; omega
  clear h7 HSE d0 d1
  go_wp2_with fail
  go_loopw [7] (fun t wr => ∃ i : Nat, i ≤ N ∧ t = .int .i64 (i : Int) ∧ Hid (GrownS (· = w3.heap.size) w7 wr) ∧ Hid (∃ so, wr.heap[w3.heap.size]? = some (.cells #[.int .i64 n, .int .i64 k, so] 31 (0, 0)) ∧ Build wr w7.heap.size 53 1 so numC (D.take i))) (fun t _ => N + 1 - (intOf t).toNat)
  case atStart => exact ⟨0, by omega, by simp, GrownS.refl _ _, _, HB7.out, Build.nil _ _ _ _ _⟩
  case round =>
    obtain ⟨i, hi, rfl, HG, HBB⟩ := hrel
    by_cases hlt : i < N
    · obtain ⟨y', hy'⟩ : ∃ y', D[i]? = some y' := ⟨D[i]'(by rw [HD6.out]; omega), List.getElem?_eq_getElem _⟩
      have hyb := HZB.out y' (List.mem_of_getElem? hy')
      have hst : D.take (i + 1) = D.take i ++ [y'] := by rw [List.take_add_one, hy']; rfl
      have HST := Lib.hid hst
      have z2 := HG.out.cell (HDC.out w7 HX27.out i y' hy') (by have := HS3.out; omega)
      have HOF : Hid (∀ W, Ext wr W → Calls Tryz.prog 69 #[.int .i64 y'] W fun e w' => e = .returned (.string (intB y')) ∧ Ext W w') := fun W hW => rOf_any y' W (by omega) (by omega) (HT.out.ext ((ext_grownS HE7.out HG.out (fun j hj e => by have := HS3.out; omega)).trans hW))
      obtain ⟨so, hBK, hBU⟩ := HBB.out
      obtain ⟨ao, co, rfl, -⟩ := ListAt.open hBU.list
      obtain ⟨m, hm⟩ : ∃ m, (D.take i).length = m := ⟨_, rfl⟩
      rw [hm] at hBK hBU
      have HBK := Lib.hid hBK; have HB := Lib.hid hBU
      have z1 := block_cell hBK 2
      simp only [List.getElem?_toArray, List.getElem?_cons_succ, List.getElem?_cons_zero] at z1
      have HLL2 : Hid ((D.take i).length < 1000000) := HDM.out i
      have HSZ : Hid (w7.heap.size ≤ wr.heap.size) := HG.out.size
      have e5 : (i : Int).tmod 6 = (i : Int) := Int.tmod_eq_of_lt (by omega) (by omega)
      have e6 : IntKind.i64.wrap y' = y' := by rw [IntKind.wrap_i64]; omega
      have hi6 : i < 6 := by omega
      have hi66 : (i : Int) < 6 := by omega
      obtain ⟨y, hyy⟩ : ∃ y, y = y' := ⟨_, rfl⟩
      obtain rfl := hyy
      clear hy' hyb hst hBK hBU hm HBB
      go_upto_region 8 with fail
      --<R
      refine region_anyE (fun w' => w'.cell? ⟨w3.heap.size, 2, none⟩ = some (.slice ao m co) ∧ w'.cell? ⟨w.heap.size, 2 + i, none⟩ = some (.int .i8 y) ∧ Hid (Ext wr w')) 10 (by kernel_rfl) ⟨(Ext.drew wr).cell z1, (Ext.drew wr).cell z2, Ext.drew wr⟩ (fun hHeld => ?_)
      refine anyE_takeW (v := ?_) 0 rfl (by kernel_rfl) (by kernel_rfl) (by kernel_rfl) (by decide) (fun _ _ _ h => h) (Or.inl ⟨by rfl, ?_⟩) (by assumption) ?_
      rotate_left
      · ((intro w'); (try go_simp); (try with_reducible rfl))
      (try simp only [Act.put, List.setIfInBounds_toArray, List.set_cons_zero, List.set_cons_succ])
      refine anyE_take (v := ?_) 1 rfl (by kernel_rfl) (by kernel_rfl) (by kernel_rfl) (by kernel_rfl) (by kernel_rfl) (fun _ _ _ h => h) (Or.inl ⟨by rfl, ?_⟩) (by assumption) ?_
      rotate_left
      · ((intro w' hSw); (try dsimp only at hSw); (try go_simp); (try with_reducible rfl))
      (try simp only [Act.put, List.setIfInBounds_toArray, List.set_cons_zero, List.set_cons_succ])
      refine anyE_takeW (v := ?_) 2 rfl (by kernel_rfl) (by kernel_rfl) (by kernel_rfl) (by decide) (fun _ _ _ h => h) (Or.inl ⟨by rfl, ?_⟩) (by assumption) ?_
      rotate_left
      · ((intro w'); (try go_simp); (try with_reducible rfl))
      (try simp only [Act.put, List.setIfInBounds_toArray, List.set_cons_zero, List.set_cons_succ])
      refine anyE_takeW (v := ?_) 3 rfl (by kernel_rfl) (by kernel_rfl) (by kernel_rfl) (by decide) (fun _ _ _ h => h) (Or.inl ⟨by rfl, ?_⟩) (by assumption) ?_
      rotate_left
      · ((intro w'); (try go_simp); (try with_reducible rfl))
      (try simp only [Act.put, List.setIfInBounds_toArray, List.set_cons_zero, List.set_cons_succ])
      refine anyE_takeW (v := ?_) 4 rfl (by kernel_rfl) (by kernel_rfl) (by kernel_rfl) (by decide) (fun _ _ _ h => h) (Or.inl ⟨by rfl, ?_⟩) (by assumption) ?_
      rotate_left
      · ((intro w'); (try go_simp); (try with_reducible rfl))
      (try simp only [Act.put, List.setIfInBounds_toArray, List.set_cons_zero, List.set_cons_succ])
      refine anyE_takeW (v := ?_) 5 rfl (by kernel_rfl) (by kernel_rfl) (by kernel_rfl) (by decide) (fun _ _ _ h => h) (Or.inl ⟨by rfl, ?_⟩) (by assumption) ?_
      rotate_left
      · ((intro w'); (try go_simp); (try with_reducible rfl))
      (try simp only [Act.put, List.setIfInBounds_toArray, List.set_cons_zero, List.set_cons_succ])
      refine anyE_take (v := ?_) 6 rfl (by kernel_rfl) (by kernel_rfl) (by kernel_rfl) (by kernel_rfl) (by kernel_rfl) (fun _ _ _ h => h) (Or.inl ⟨by rfl, ?_⟩) (by assumption) ?_
      rotate_left
      · ((intro w' hSw); (try dsimp only at hSw); (try go_simp); (try with_reducible rfl))
      (try simp only [Act.put, List.setIfInBounds_toArray, List.set_cons_zero, List.set_cons_succ])
      refine anyE_takeW (v := ?_) 7 rfl (by kernel_rfl) (by kernel_rfl) (by kernel_rfl) (by decide) (fun _ _ _ h => h) (Or.inl ⟨by rfl, ?_⟩) (by assumption) ?_
      rotate_left
      · ((intro w'); (try go_simp); (try with_reducible rfl))
      (try simp only [Act.put, List.setIfInBounds_toArray, List.set_cons_zero, List.set_cons_succ])
      refine anyE_step 8 (by kernel_rfl) rfl (fun K hK => ?_)
      go_simp
      (go_at_call 69; refine (HOF.out _ (hHeld.2.2.out)).mono ?_)
      rintro e wy ⟨rfl, hEz⟩
      go_wp2_with fail
      refine hK.out _ _ ⟨(hEz).cell hHeld.1, (hEz).cell hHeld.2.1, Ext.trans hHeld.2.2.out (hEz)⟩ (fun hHeld => ?_)
      clear hK K
      (try simp only [Act.put, List.setIfInBounds_toArray, List.set_cons_zero, List.set_cons_succ])
      have HWY : Hid (Ext wr wy) := hHeld.2.2
      refine anyE_step 9 (by kernel_rfl) rfl (fun K hK => ?_)
      go_simp
      refine hK.out _ _ ⟨(Ext.alloc _ _).cell hHeld.1, (Ext.alloc _ _).cell hHeld.2.1, Ext.trans hHeld.2.2.out (Ext.alloc _ _)⟩ (fun hHeld => ?_)
      clear hK K
      (try simp only [Act.put, List.setIfInBounds_toArray, List.set_cons_zero, List.set_cons_succ])
      refine anyE_stepZ 10 (by kernel_rfl) (by kernel_rfl) rfl (fun K hK => ?_)
      refine step_append_build wy (by rfl) _ _ 29 (by rfl) w7.heap.size 53 (.string ⟨#[]⟩) 1 16 Tryz.underlying29 infoBigI (by rfl) (by decide) (.slice ao m co) numC (D.take i) y #[.string (intB y)] 53 (by rfl) (HB.out.ext HWY.out) (by rfl) (by rfl) (by simp [Value.oneCell']) (fun _ _ => rfl) HLL2.out (by decide) (Nat.le_trans HSZ.out HWY.out.size) ?_
      intro v' w6 hB6 hg6 hb6 hs6 _
      rw [← HST.out] at hB6
      have HB6 := Lib.hid hB6
      have HG6 : Hid (GrownS (· = w3.heap.size) w7 w6) := (HG.out.ext HWY.out).thenBelow hb6 (Nat.le_refl _)
      have HK6 := Lib.hid ((Below.block hb6 w3.heap.size HBL.out).trans (block_ext HBK.out HWY.out))
      obtain ⟨a6, c6, rfl, -⟩ := ListAt.open hB6.list
      obtain ⟨m6, hm6⟩ : ∃ m, (D.take (i + 1)).length = m := ⟨_, rfl⟩
      rw [hm6] at HB6 ⊢
      clear hm6 hB6 hg6 hb6
      have k6 := block_cell HK6.out
      have f6 := block_free HK6.out
      refine hK.out _ _ ?_
      clear hK K
      (try simp only [Act.put, List.setIfInBounds_toArray, List.set_cons_zero, List.set_cons_succ])
      refine anyE_stepZ 11 (by kernel_rfl) (by kernel_rfl) rfl (fun K hK => ?_)
      go_simp
      refine hK.out _ _ ?_
      clear hK K
      (try simp only [Act.put, List.setIfInBounds_toArray, List.set_cons_zero, List.set_cons_succ])
      refine anyE_last 12 (by kernel_rfl) (by kernel_rfl) (by kernel_rfl) rfl (fun K hK => ?_)
      go_simp
      refine hK.out _ _ ?_
      clear hK K
      (try simp only [Act.put, List.setIfInBounds_toArray, List.set_cons_zero, List.set_cons_succ])
      -->R
      go_wp2_with fail
      go_roundw
      case rel => exact ⟨i + 1, by omega, by go_num, HG6.out.trans (grownBy_S (grown_setCell _ _ _ _) (fun k hk => by cases hk; rfl)), _, block_set HK6.out 2 _, HB6.out.boxAt HBL.out 2 _⟩
      case measure => simp [intOf]; omega
    · obtain rfl : i = N := by omega
      obtain ⟨so, hBK, hBU⟩ := HBB.out
      obtain ⟨ao, co, rfl, -⟩ := ListAt.open hBU.list
      have hml : (D.take i).length = i := by rw [List.length_take, HD6.out]; omega
      rw [hml] at hBK hBU
      have HF := Lib.hid hBU.list
      have HE9 : Hid (Ext w wr) := ext_grownS HE7.out HG.out (fun j hj e => by have := HS3.out; omega)
      have HB29 : Hid (wr.heap[w.heap.size + 1]? = some (.cells #[.int .i64 0, .int .i64 0, .slice none 0 0] 31 (0, 0))) := by
        unfold Hid
        rw [← HS1.out, ← HB27.out]
        exact HG.out.block _ (block_lt HB27.out) (by have := HS3.out; omega)
      have kk := block_cell hBK
      have f9 := block_free HB29.out
      have k9 := block_cell HB29.out
      clear hBK hBU HBB hml
      go_wp2_with fail
      have hb7 := multi_store HB29.out (.int .i64 n) (.int .i64 k) (.slice ao i co)
      refine bodyPost_ret (results_cell_row (by rfl) _ _ (w.heap.size + 1) 31 #[.int .i64 n, .int .i64 k, .slice ao i co] (0, 0) _ (by rfl) hb7 Tryz.underlying31 (by rfl) (by kernel_rfl)) (by rfl) ⟨_, _, rfl, nums_set HF.out HB29.out (multi_nostr 0 0) (multi_grown _ _ _ _ _), multi_ext HE9.out (by omega) _ _ _⟩
end Go.Proofs.YtjlkkofmojgipaaGreatDoor
/- Sums of integers; the coefficients of the product, the dual and the interior product; what law 10 asks of them without the reference. No program is named here. -/
namespace Go.Proofs.YtjlkkofmojgipaaGreatDoor
set_option linter.unusedVariables false
set_option linter.unusedSimpArgs false
open Go.RowKit

def sI (f : Nat → Int) : Nat → Int
  | 0 => 0
  | n + 1 => sI f n + f n
theorem sI_congr {f g : Nat → Int} : ∀ {n : Nat}, (∀ i, i < n → f i = g i) → sI f n = sI g n
  | 0, _ => rfl
  | n + 1, h => by rw [sI, sI, sI_congr fun i hi => h i (by omega), h n (by omega)]
theorem sI_zero {f : Nat → Int} : ∀ {n : Nat}, (∀ i, i < n → f i = 0) → sI f n = 0
  | 0, _ => rfl
  | n + 1, h => by rw [sI, sI_zero fun i hi => h i (by omega), h n (by omega)]; rfl
theorem sI_add (f g : Nat → Int) : ∀ n, sI (fun i => f i + g i) n = sI f n + sI g n
  | 0 => rfl
  | n + 1 => by rw [sI, sI, sI, sI_add f g n]; omega
theorem sI_mul (c : Int) (f : Nat → Int) : ∀ n, sI (fun i => c * f i) n = c * sI f n
  | 0 => by simp [sI]
  | n + 1 => by rw [sI, sI, sI_mul c f n, Int.mul_add]
theorem sI_comm (f : Nat → Nat → Int) (n : Nat) : ∀ m, sI (fun i => sI (fun j => f i j) n) m = sI (fun j => sI (fun i => f i j) m) n
  | 0 => (sI_zero fun _ _ => rfl).symm
  | m + 1 => by
    rw [sI, sI_comm f n m, ← sI_add]
    exact sI_congr fun j _ => rfl
theorem ext_getD {l m : List Int} (h : l.length = m.length) (hg : ∀ i, i < l.length → l.getD i 0 = m.getD i 0) : l = m := by
  apply List.ext_getElem h
  intro i h1 h2
  have := hg i h1
  rw [List.getD_eq_getElem?_getD, List.getD_eq_getElem?_getD, List.getElem?_eq_getElem h1, List.getElem?_eq_getElem h2] at this
  exact this

theorem getD_mapI (f : Nat → Int) (l : List Nat) (i : Nat) (hi : i < l.length) : (l.map f).getD i 0 = f (l.getD i 0) := by
  rw [List.getD_eq_getElem?_getD, List.getD_eq_getElem?_getD, List.getElem?_map, List.getElem?_eq_getElem hi]; rfl
theorem sgnI_mul (x : Int) (o : Bool) : sgnI x o = (if o = true then -1 else 1) * x := by
  unfold sgnI; split <;> omega
/-- The dual of the dual. -/
theorem dualL_len (n k : Nat) (X : List Int) : (dualL n k X).length = (allW n (n - k)).length := by unfold dualL; rw [List.length_map]
theorem dual_get {n k i : Nat} {X : List Int} (hi : i < (allW n (n - k)).length) : (dualL n k X).getD i 0 = sgnI (X.getD (placeW n k (restW n ((allW n (n - k)).getD i 0))) 0) (oddW (restW n ((allW n (n - k)).getD i 0)) ((allW n (n - k)).getD i 0)) := by
  unfold dualL
  exact getD_mapI _ _ _ hi
def dualB (n k : Nat) : Bool := (List.range (allW n k).length).all fun i =>
  let s := (allW n k).getD i 0
  let j := placeW n (n - k) (restW n s)
  let t := (allW n (n - k)).getD j 0
  decide (j < (allW n (n - k)).length) && decide (placeW n k (restW n t) = i) && decide ((oddW (restW n s) s ^^ oddW (restW n t) t) = decide (k * (n - k) % 2 = 1))
theorem dual_all : ∀ n, n < 7 → ∀ k, k < n + 1 → dualB n k = true := by decide +kernel
theorem sgnI_sgnI (x : Int) (o p : Bool) : sgnI (sgnI x o) p = sgnI x (p ^^ o) := by cases o <;> cases p <;> simp [sgnI]
theorem dual_dual {n k : Nat} (hn : n < 7) (hk : k ≤ n) (X : List Int) (hX : X.length = (allW n k).length) : dualL n (n - k) (dualL n k X) = X.map fun x => sgnI x (decide (k * (n - k) % 2 = 1)) := by
  have hkk : n - (n - k) = k := by omega
  refine ext_getD (by rw [dualL_len, hkk, List.length_map, hX]) fun i hi => ?_
  rw [dualL_len, hkk] at hi
  have h1 := dual_all n hn k (by omega)
  have h2 := List.all_eq_true.1 h1 i (List.mem_range.2 hi)
  simp only [Bool.and_eq_true, decide_eq_true_eq] at h2
  obtain ⟨⟨h3, h4⟩, h5⟩ := h2
  have e1 := dual_get (n := n) (k := n - k) (X := dualL n k X) (i := i) (by rw [hkk]; exact hi)
  rw [hkk] at e1
  rw [e1, dual_get h3, h4, sgnI_sgnI, h5]
  rw [List.getD_eq_getElem?_getD, List.getD_eq_getElem?_getD, List.getElem?_map]
  have hx : i < X.length := by omega
  rw [List.getElem?_eq_getElem hx]; rfl

/-- The sign of the interior product's summand; 0 if the index belongs to the set. -/
def inSg (n k j i : Nat) : Int := if ((allW n (k - 1)).getD j 0).testBit i = true then 0 else if oddW (1 <<< i) ((allW n (k - 1)).getD j 0) = true then -1 else 1
def inPl (n k j i : Nat) : Nat := placeW n k (((allW n (k - 1)).getD j 0) ||| (1 <<< i))
theorem intTo_get (n k : Nat) (X r : List Int) (j : Nat) : ∀ I, intTo n k X r ((allW n (k - 1)).getD j 0) I = sI (fun i => inSg n k j i * (r.getD i 0 * X.getD (inPl n k j i) 0)) I
  | 0 => rfl
  | I + 1 => by
    rw [intTo, sI, intTo_get n k X r j I]
    unfold inSg inPl
    by_cases h : ((allW n (k - 1)).getD j 0).testBit I = true
    · rw [if_pos h, if_pos h]; simp
    · rw [if_neg h, if_neg h, sgnI_mul]
theorem intL_len (n k : Nat) (X r : List Int) : (intL n k X r).length = (allW n (k - 1)).length := by unfold intL; rw [List.length_map]
theorem intL_get {n k j : Nat} {X r : List Int} (hj : j < (allW n (k - 1)).length) : (intL n k X r).getD j 0 = sI (fun i => inSg n k j i * (r.getD i 0 * X.getD (inPl n k j i) 0)) n := by
  rw [← intTo_get]
  unfold intL
  exact getD_mapI (fun s => intTo n k X r s n) _ _ hj
theorem sI_anti {f : Nat → Nat → Int} {n : Nat} (h : ∀ i l, i < n → l < n → f i l = - f l i) : sI (fun i => sI (fun l => f i l) n) n = 0 := by
  have h1 : sI (fun i => sI (fun l => f i l) n) n = sI (fun i => (-1) * sI (fun l => f l i) n) n := sI_congr fun i hi => by
    rw [← sI_mul]; exact sI_congr fun l hl => by rw [h i l hi hl]; omega
  rw [sI_mul, sI_comm (fun i l => f l i)] at h1
  omega
def twiceB (n k : Nat) : Bool := (List.range (allW n (k - 2)).length).all fun j => (List.range n).all fun i => decide (inSg n (k - 1) j i = 0) || decide (inPl n (k - 1) j i < (allW n (k - 1)).length)
def antiB (n k : Nat) : Bool := (List.range (allW n (k - 2)).length).all fun j => (List.range n).all fun i => (List.range n).all fun l =>
  decide (inSg n (k - 1) j i * inSg n k (inPl n (k - 1) j i) l = - (inSg n (k - 1) j l * inSg n k (inPl n (k - 1) j l) i)) && (decide (inSg n (k - 1) j i * inSg n k (inPl n (k - 1) j i) l = 0) || decide (inPl n k (inPl n (k - 1) j i) l = inPl n k (inPl n (k - 1) j l) i))
theorem twice_all : ∀ n, n < 5 → ∀ k, k < n + 1 → 2 ≤ k → twiceB n k = true := by decide +kernel
theorem anti_all : ∀ n, n < 5 → ∀ k, k < n + 1 → 2 ≤ k → antiB n k = true := by decide +kernel
/-- The interior product twice with one row is 0. -/
theorem int_twice {n k : Nat} (hn : n < 5) (hk : k ≤ n) (h2 : 2 ≤ k) (X r : List Int) : intL n (k - 1) (intL n k X r) r = List.replicate (allW n (k - 2)).length 0 := by
  have hkk : k - 1 - 1 = k - 2 := by omega
  refine ext_getD (by rw [intL_len, List.length_replicate, hkk]) fun j hj => ?_
  rw [intL_len, hkk] at hj
  rw [intL_get (by rw [hkk]; exact hj), List.getD_eq_getElem?_getD (l := List.replicate _ _), List.getElem?_replicate, if_pos hj]
  have e1 : ∀ i, i < n → inSg n (k - 1) j i * (r.getD i 0 * (intL n k X r).getD (inPl n (k - 1) j i) 0) = sI (fun l => (inSg n (k - 1) j i * inSg n k (inPl n (k - 1) j i) l) * (r.getD i 0 * r.getD l 0 * X.getD (inPl n k (inPl n (k - 1) j i) l) 0)) n := by
    intro i hi
    have h3 := List.all_eq_true.1 (List.all_eq_true.1 (twice_all n hn k (by omega) h2) j (List.mem_range.2 hj)) i (List.mem_range.2 hi)
    rw [Bool.or_eq_true, decide_eq_true_eq, decide_eq_true_eq] at h3
    rcases h3 with h3 | h3
    · rw [h3, sI_zero fun l _ => by simp]; simp
    · rw [intL_get h3, ← sI_mul, ← sI_mul]
      exact sI_congr fun l _ => by simp only [Int.mul_comm, Int.mul_left_comm, Int.mul_assoc]
  rw [sI_congr e1]
  refine sI_anti fun i l hi hl => ?_
  have h4 := List.all_eq_true.1 (List.all_eq_true.1 (List.all_eq_true.1 (anti_all n hn k (by omega) h2) j (List.mem_range.2 hj)) i (List.mem_range.2 hi)) l (List.mem_range.2 hl)
  rw [Bool.and_eq_true, decide_eq_true_eq, Bool.or_eq_true, decide_eq_true_eq, decide_eq_true_eq] at h4
  obtain ⟨h5, h6⟩ := h4
  rcases h6 with h6 | h6
  · rw [h6] at h5
    have h7 : inSg n (k - 1) j l * inSg n k (inPl n (k - 1) j l) i = 0 := by omega
    rw [h6, h7]; simp
  · rw [h5, h6, Int.mul_comm (r.getD i 0), Int.neg_mul]
theorem contL_zeros (N : Nat) : contL (List.replicate N 0) = 0 := by
  have h : ∀ i, i ≤ N → contTo (List.replicate N (0 : Int)) i = 0 := by
    intro i
    induction i with
    | zero => intro _; rfl
    | succ i ih =>
      intro hi
      have hx : (List.replicate N (0 : Int))[i]? = some 0 := by rw [List.getElem?_replicate, if_pos (by omega)]
      rw [contTo_succ hx, ih (by omega)]; rfl
  unfold contL
  exact h _ (by rw [List.length_replicate]; exact Nat.le_refl _)
end Go.Proofs.YtjlkkofmojgipaaGreatDoor
