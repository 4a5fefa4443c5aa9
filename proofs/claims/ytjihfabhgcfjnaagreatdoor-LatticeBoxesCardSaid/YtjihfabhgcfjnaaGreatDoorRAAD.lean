/- Merged: BoxB, ConcatL, LongApp, LatSum, LatInt, DualP, LatWith. -/
import Derived.Test.YtjihfabhgcfjnaaGreatDoorRAAC
import Derived.Test.YtjihfabhgcfjnaaGreatDoorRAAA
import Derived.Test.YtjihfabhgcfjnaaGreatDoorQAZ
import Derived.Test.YtjihfabhgcfjnaaGreatDoorQAS
import Derived.Lib.AppendZeros
import Derived.Laws.AppendOwnNone
import Derived.Test.YtjihfabhgcfjnaaGreatDoorQAT
import Derived.Test.YtjihfabhgcfjnaaGreatDoorQAW
import Derived.Test.YtjihfabhgcfjnaaGreatDoorQAO
import Derived.Test.YtjihfabhgcfjnaaGreatDoorQAK
/- Contract: lattice.Box at the lattice of a plan. Printed by gen/box2.py. -/
namespace Go.Proofs.YtjihfabhgcfjnaaGreatDoor
set_option linter.unusedVariables false
set_option linter.unusedSimpArgs false
open Go.RowKit

theorem flat_len (L : List (List Int)) : ∀ l : List Int, (l.flatMap fun a => L.map (a :: ·)).length = l.length * L.length
  | [] => by simp
  | a :: l => by rw [List.flatMap_cons, List.length_append, flat_len L l, List.length_map, List.length_cons, Nat.succ_mul]; omega
theorem cube_len {M : Int} (hM8 : M ≤ 8) : ∀ n : Nat, (cubeL M n).length ≤ 17 ^ n
  | 0 => by simp [cubeL]
  | n + 1 => by
    rw [cubeL_succ, flat_len, Nat.pow_succ, Nat.mul_comm (17 ^ n)]
    refine Nat.mul_le_mul ?_ (cube_len hM8 n)
    unfold valsL; rw [List.length_map, List.length_range]; omega
theorem search_len {n : Nat} {m R : List (List Int)} {ps : Nat → Nat} (P : PlanF n m R ps) (hn : n ≤ 4) {M : Int} (hM0 : 0 ≤ M) (hM8 : M ≤ 8) : (searchL M n R R.length 0 (List.replicate n 0) 0).length ≤ 100000 := by
  rw [box_rows P hM0 hM8]
  have h1 := List.length_filter_le (fun v => decide (leadL (repS R v R.length).1 < 0)) (cubeL M n)
  have h2 := cube_len (M := M) hM8 n
  have h3 : 17 ^ n ≤ 17 ^ 4 := Nat.pow_le_pow_right (by decide) hn
  have h4 : 17 ^ 4 = 83521 := by decide
  omega
theorem search_all (n : Nat) (m R : List (List Int)) (ps : Nat → Nat) (P : PlanF n m R ps) (M : Int) (hM0 : 0 ≤ M) (hM8 : M ≤ 8) (hn1 : 1 ≤ n) (hn : n ≤ 4) (w0 : World) (a : Option Addr) (cb g : Nat) (hcb : R.length ≤ cb) (hcb2 : cb ≤ maxLen) (hrows : Rows2 w0 (.slice a R.length cb) R) : ∀ j, SrchOk n R ps M w0 a cb g j
  | 0 => search_zero n R ps M hM0 hM8 hn1 hn w0 a cb g P.four hcb hcb2
  | j + 1 => search_succ n m R ps P M hM0 hM8 hn1 hn w0 a cb g P.four hcb hcb2 hrows j (search_all n m R ps P M hM0 hM8 hn1 hn w0 a cb g hcb hcb2 hrows j)
theorem pow_step {q M : Int} {x : Nat} (hM0 : 0 ≤ M) (hM8 : M ≤ 8) (h1 : 1 ≤ q) (h2 : q ≤ ((17 ^ x : Nat) : Int)) : 1 ≤ q * (2 * M + 1) ∧ q * (2 * M + 1) ≤ ((17 ^ (x + 1) : Nat) : Int) := by
  constructor
  · have := Int.mul_le_mul h1 (show (1 : Int) ≤ 2 * M + 1 by omega) (by omega) (by omega)
    omega
  · have h3 := Int.mul_le_mul h2 (show 2 * M + 1 ≤ (17 : Int) by omega) (by omega) (by omega)
    rw [Nat.pow_succ]
    have e : ((17 ^ x * 17 : Nat) : Int) = ((17 ^ x : Nat) : Int) * 17 := by omega
    rw [e]; exact h3

set_option maxRecDepth 100000 in
set_option maxHeartbeats 4000000 in
theorem box_any {n : Nat} {m R : List (List Int)} {ps : Nat → Nat} (P : PlanF n m R ps) (hn1 : 1 ≤ n) (hn : n ≤ 4) (M : Int) (hM0 : 0 ≤ M) (hM8 : M ≤ 8) (u : Value) (w : World) (h : LatV w u n R) :
    Calls Tryz.prog 10 #[u, .int .i64 M] w fun e w' => ∃ v, e = .returned (.tuple #[v, .int .i64 0]) ∧ Rows2 w' v (searchL M n R R.length 0 (List.replicate n 0) 0) ∧ Ext w w' := by
  obtain ⟨v, rfl, hv⟩ := h
  have HCK := Lib.hid (fun W (hW : Ext w W) => latChk_any (n : Int) R _ W ⟨v, rfl, hv.ext hW⟩)
  rw [P.chk] at HCK
  have h4 := P.four
  have hRp : (R.length : Int) ≤ 4 := by omega
  have hv2 := hv
  obtain ⟨a, cb, rfl, h1, h2, -, -⟩ := inCell.open hv2
  have HSA := Lib.hid (fun g => search_all n m R ps P M hM0 hM8 hn1 hn w a cb g h1 h2 hv R.length)
  have HOK := Lib.hid (okR_of P hn hM0 hM8 R.length 0 (List.replicate n 0) (Nat.zero_add _) (by simp) (fun x => by rw [repl_getD]; exact Nat.zero_le _))
  have HLN := Lib.hid (search_len P hn hM0 hM8)
  obtain ⟨SL, hSL⟩ : ∃ SL, searchL M n R R.length 0 (List.replicate n 0) 0 = SL := ⟨_, rfl⟩
  have HSL := Lib.hid hSL
  rw [hSL] at HLN ⊢
  obtain ⟨W1, hW1, hX1, hsz, hb1⟩ := lat_new w (.int .i64 n) (.slice a R.length cb)
  obtain ⟨r0, r1, -⟩ := lat_block hb1
  have HX1 := Lib.hid hX1; have HB1 := Lib.hid hb1
  unfold maxLen at h2
  clear hv hv2 P hSL hX1 hb1 hsz
  go_enter Tryz.func10, Tryz.ntmps10
  go_wp2_with fail
  refine (HCK.out _ HX1.out).mono ?_
  rintro e w2 ⟨rfl, hE2⟩
  have HX2 := Lib.hid (HX1.out.trans hE2); have HB2 := Lib.hid (block_ext HB1.out hE2)
  clear hE2 HX1 HB1 HCK r0 r1 hW1
  obtain ⟨r0, r1, -⟩ := lat_block HB2.out
  have hMn : ¬ M < 0 := by omega
  have hMx : ¬ 100000 < M := by omega
  go_wp2_with fail
  go_loopw [19, 7] (fun t tq wr => ∃ (x : Nat) (q : Int), x ≤ R.length ∧ t = .int .i64 x ∧ tq = .int .i64 q ∧ w2 = wr ∧ Hid (1 ≤ q ∧ q ≤ ((17 ^ x : Nat) : Int))) (fun t _ _ => R.length - (intOf t).toNat)
  case atStart => exact ⟨0, 1, by omega, rfl, rfl, rfl, by unfold Hid; simp⟩
  case round =>
    obtain ⟨x, q, hx, rfl, rfl, rfl, HQ⟩ := hrel
    by_cases hlt : x < R.length
    · have hz := pow_step hM0 hM8 HQ.out.1 HQ.out.2
      have h17 : (17 ^ (x + 1) : Nat) ≤ 17 ^ 4 := Nat.pow_le_pow_right (by decide) (by omega)
      have e17 : (17 ^ 4 : Nat) = 83521 := by decide
      obtain ⟨z, hzz⟩ : ∃ z, q * (2 * M + 1) = z := ⟨_, rfl⟩
      rw [hzz] at hz
      have HZ := Lib.hid hz
      obtain ⟨z1, z2⟩ : 1 ≤ z ∧ z ≤ 83521 := by omega
      have z3 : ¬ 100000 < z := by omega
      have z4 : -9223372036854775808 ≤ z := by omega
      have z5 : z ≤ 9223372036854775807 := by omega
      clear hz h17 e17
      go_wp2_with fail
      go_roundw
      case rel => exact ⟨x + 1, z, by omega, by go_num, by first | rfl | trivial, by first | trivial | rfl, HZ.out⟩
      case measure => simp [intOf]; omega
    · obtain ⟨W3, hW3, hX3, hb3, hs3⟩ : ∃ W3, w2.alloc (.cells #[.slice none 0 0] 28) = W3 ∧ Ext w2 W3 ∧ W3.heap[w2.heap.size]? = some (.cells #[.slice none 0 0] 28 (0, 0)) ∧ W3.heap.size = w2.heap.size + 1 := ⟨_, rfl, Ext.alloc _ _, block_new _ _ _, by simp⟩
      have HX3 := Lib.hid (HX2.out.trans hX3); have HB3 := Lib.hid (block_ext HB2.out hX3); have HG3 := Lib.hid hb3; have HS3 := Lib.hid hs3
      clear hX3 hb3 hs3 r0 r1
      go_upto_region 14 with fail
      clear hW3
      obtain ⟨r0, r1, -⟩ := lat_block HB3.out
      refine region_anyE (fun w' => w'.heap[w.heap.size]? = some (.cells #[.int .i64 (n : Int), .slice a R.length cb] 31 (0, 0)) ∧ w'.cell? ⟨w.heap.size, 0, none⟩ = some (.int .i64 n) ∧ Hid (Ext W3 w')) 5 (by kernel_rfl) ⟨block_ext HB3.out (Ext.drew W3), (Ext.drew W3).cell r0, Ext.drew W3⟩ (fun hHeld => ?_)
      have HSd : Hid (W3.heap.size ≤ W3.drew.heap.size) := (Ext.drew W3).size
      generalize W3.drew = wd at hHeld HSd ⊢
      refine anyE_take 0 rfl (by kernel_rfl) (by kernel_rfl) (by kernel_rfl) (by kernel_rfl) (by kernel_rfl) (fun _ _ _ h => h) (yields_load_row 31 _ rfl rfl w.heap.size rfl _ #[.int .i64 (n : Int), .slice a R.length cb] (0, 0) _ (fun w' h => h.1) Tryz.underlying31 rfl (by kernel_rfl)) (by assumption) ?_
      (try simp only [Act.put, List.setIfInBounds_toArray, List.set_cons_zero, List.set_cons_succ])
      refine anyE_takeW (v := ?_) 1 rfl (by kernel_rfl) (by kernel_rfl) (by kernel_rfl) (by decide) (fun _ _ _ h => h) (Or.inl ⟨by rfl, ?_⟩) (by assumption) ?_
      rotate_left
      · ((intro w'); (try go_simp); (try with_reducible rfl))
      (try simp only [Act.put, List.setIfInBounds_toArray, List.set_cons_zero, List.set_cons_succ])
      refine anyE_take (v := ?_) 2 rfl (by kernel_rfl) (by kernel_rfl) (by kernel_rfl) (by kernel_rfl) (by kernel_rfl) (fun _ _ _ h => h) (Or.inl ⟨by rfl, ?_⟩) (by assumption) ?_
      rotate_left
      · ((intro w' hSw); (try dsimp only at hSw); (try go_simp); (try with_reducible rfl))
      (try simp only [Act.put, List.setIfInBounds_toArray, List.set_cons_zero, List.set_cons_succ])
      refine anyE_takeW (v := ?_) 4 rfl (by kernel_rfl) (by kernel_rfl) (by kernel_rfl) (by decide) (fun _ _ _ h => h) (Or.inl ⟨by rfl, ?_⟩) (by assumption) ?_
      rotate_left
      · ((intro w'); (try go_simp); (try with_reducible rfl))
      (try simp only [Act.put, List.setIfInBounds_toArray, List.set_cons_zero, List.set_cons_succ])
      refine anyE_step 3 (by kernel_rfl) rfl (fun K hK => ?_)
      go_simp
      refine make_up wd n (by omega) ?_
      intro v1 hR hlt hEz
      have HR1 := Lib.hid hR; have HW1 := Lib.hid (Ext.trans hHeld.2.2.out hEz)
      refine hK.out _ _ ⟨block_ext hHeld.1 hEz, hEz.cell hHeld.2.1, Lib.hid (Ext.trans hHeld.2.2.out hEz)⟩ (fun hHeld => ?_)
      clear hK K hEz hR hlt
      (try simp only [Act.put, List.setIfInBounds_toArray, List.set_cons_zero, List.set_cons_succ])
      have HREC := Lib.hid (HSA.out w2.heap.size 0 (List.replicate n 0) 0 wd.heap.size n (fun q => q = w2.heap.size) (.slice none 0 0) [] v1 (Nat.zero_add _) (by simp) (by omega) (fun _ _ _ => Nat.zero_le _) HOK.out (fun x => by rw [repl_getD]; exact Nat.zero_le _) (by rw [List.nil_append, HSL.out]; exact HLN.out) (HX3.out.trans HW1.out) (fun q hq => by subst hq; exact ⟨HX2.out.size, block_lt (block_ext HG3.out HW1.out)⟩) rfl (block_ext HG3.out HW1.out) (BuildS.nil _ _ _ _ _ _) (fun V hV => HR1.out.same hV.size (hV.block _ HR1.out.lt (fun e => by have := HSd.out; have := HS3.out; omega))) (Nat.le_refl _) (by unfold maxLen; omega))
      rw [List.nil_append, HSL.out, show ((0 : Nat) : Int) = 0 from rfl] at HREC
      refine anyE_last 5 (by kernel_rfl) (by kernel_rfl) (by kernel_rfl) rfl (fun K hK => ?_)
      go_simp
      (go_at_call 50; refine HREC.out.mono ?_)
      rintro e w7 ⟨rfl, S7, so7, hE7, hOK7, hS7, hG7, hB7, hsafe7⟩
      have HE7 := Lib.hid hE7; have HG7 := Lib.hid hG7; have HB7 := Lib.hid hB7
      clear hE7 hOK7 hS7 hG7 hB7 hsafe7
      go_wp2_with fail
      refine hK.out _ _ ?_
      clear hK K
      (try simp only [Act.put, List.setIfInBounds_toArray, List.set_cons_zero, List.set_cons_succ])
      have q0 := block_cell HG7.out 0
      simp only [List.getElem?_toArray, List.getElem?_cons_zero, List.getElem?_cons_succ] at q0
      go_wp2_with fail
      go_ret2
      exact ⟨so7, rfl, HB7.out.list, HE7.out⟩
end Go.Proofs.YtjihfabhgcfjnaaGreatDoor
/- slices.Concat at rows of integers of any size. -/
namespace Go.Proofs.YtjihfabhgcfjnaaGreatDoor
set_option linter.unusedVariables false
set_option linter.unusedSimpArgs false
open Go.RowKit

end Go.Proofs.YtjihfabhgcfjnaaGreatDoor
/- Matrices of integers of any size: the rows of one behind those of another. -/
namespace Go.Proofs.YtjihfabhgcfjnaaGreatDoor
set_option linter.unusedVariables false
set_option linter.unusedSimpArgs false
open Go.RowKit

end Go.Proofs.YtjihfabhgcfjnaaGreatDoor
/- Contract of package lattice: Sum. Printed by gen/latsum.py. -/
namespace Go.Proofs.YtjihfabhgcfjnaaGreatDoor
set_option linter.unusedVariables false
set_option linter.unusedSimpArgs false
open Go.RowKit

end Go.Proofs.YtjihfabhgcfjnaaGreatDoor
/- Contract of package lattice: Intersect. -/
namespace Go.Proofs.YtjihfabhgcfjnaaGreatDoor
set_option linter.unusedVariables false
set_option linter.unusedSimpArgs false
open Go.RowKit

def wideI (n : Nat) (xss yss : List (List Int)) : List (List Int) := xss.map (fun r => r ++ r) ++ yss.map (fun r => r ++ List.replicate n 0)
end Go.Proofs.YtjihfabhgcfjnaaGreatDoor
/- Law 09, plain: the sum of two plans' lattices, the intersection of their annihilators, the index. No program is named here. -/
namespace Go.Proofs.YtjihfabhgcfjnaaGreatDoor
set_option linter.unusedVariables false
set_option linter.unusedSimpArgs false
open Go.RowKit

/-- The data of two plans. -/
structure DualsF (n F : Nat) (R T U A B O S H : List (List Int)) : Prop where
  dA : DualF n F R A S
  dB : ∃ SB, DualF n F T B SB
  dO : ∃ SO, DualF n F U O SO
  fU : formO n F n (R ++ T) = some U
  bU : ∀ x ∈ U, RowLe 629856 x ∧ x.length = n
  lU : U.length ≤ n
  spU : SpEq n (RowsFrom 0 (R ++ T)) (RowsFrom 0 U)
  hU : ∃ us, HForm n U us
  fH : formO (2 * n) F (2 * n) (wideI n A B) = some H
  okH : okM (n + n) H = true
  lH : H.length ≤ 1000
  fO : formO n F n (behindL n H) = some O
end Go.Proofs.YtjihfabhgcfjnaaGreatDoor
/- Contract of package lattice: Within, where all rows belong to the other lattice. -/
namespace Go.Proofs.YtjihfabhgcfjnaaGreatDoor
set_option linter.unusedVariables false
set_option linter.unusedSimpArgs false
open Go.RowKit

end Go.Proofs.YtjihfabhgcfjnaaGreatDoor
