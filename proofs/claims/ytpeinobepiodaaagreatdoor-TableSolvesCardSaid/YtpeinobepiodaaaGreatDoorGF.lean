/- Merged: FracL, FracO, FracP, FracA, FracD, FracS. -/
import Derived.Test.YtpeinobepiodaaaGreatDoorGE
import Derived.Laws.Rows
import Derived.Deep.RegionHeld3
import Derived.Deep.DrawnRows
/- Contracts of package fraction at rationals of any size: Sign, Neg, lowest. -/
namespace Go.Proofs.YtpeinobepiodaaaGreatDoor
set_option linter.unusedVariables false
set_option linter.unusedSimpArgs false
open Go.RowKit

/-- The value of a rational. -/
def ratV (q : Rat) : Value := .agg #[.string (intB q.num), .string (numB q.den)]
/-- Numerator and denominator of at most k bytes. -/
def RS (k : Nat) (q : Rat) : Prop := (intB q.num).size ≤ k ∧ (numB q.den).size ≤ k
theorem RS.mono {k m : Nat} {q : Rat} (h : RS k q) (hk : k ≤ m) : RS m q := ⟨Nat.le_trans h.1 hk, Nat.le_trans h.2 hk⟩
theorem eb (n : Nat) : intB (n : Int) = numB n := by rw [intB_pos _ (by omega)]; rfl

theorem mkRat_parts (n : Int) (d : Nat) (hd : d ≠ 0) : (mkRat n d).num = n / (n.natAbs.gcd d : Nat) ∧ (mkRat n d).den = d / n.natAbs.gcd d := by
  rw [← Rat.normalize_eq_mkRat hd, Rat.normalize_eq hd]
  exact ⟨rfl, rfl⟩
theorem divInt_pos (n : Int) (d : Nat) : Rat.divInt n (d : Int) = mkRat n d := rfl
theorem divInt_neg (n : Int) (d : Nat) (hd : d ≠ 0) : Rat.divInt n (-(d : Int)) = mkRat (-n) d := by
  obtain ⟨m, rfl⟩ : ∃ m, d = m + 1 := ⟨d - 1, by omega⟩
  rw [← Rat.normalize_eq_mkRat hd]
  rfl
theorem fdq_pos (x y : Int) (hy : 0 < y) : fdq x y = x / y := by
  have h1 := fd_eq x y
  have h2 := fdr_pos x y hy
  have h3 := Int.mul_ediv_add_emod x y
  have h4 := Int.emod_nonneg x (show y ≠ 0 by omega)
  have h5 := Int.emod_lt_of_pos x hy
  generalize fdq x y = q at *
  generalize fdr x y = r at *
  generalize x / y = q' at *
  generalize x % y = r' at *
  have h6 : y * (q - q') = r' - r := by rw [Int.mul_sub]; omega
  rcases Int.lt_trichotomy q q' with h | h | h
  · have : y * (q - q') ≤ y * (-1) := Int.mul_le_mul_of_nonneg_left (by omega) (by omega)
    omega
  · exact h
  · have : y * 1 ≤ y * (q - q') := Int.mul_le_mul_of_nonneg_left (by omega) (by omega)
    omega
theorem num_one (u : Nat) : ((numB u).toList == [49]) = decide (u = 1) := by
  rw [numB_list, show ([49] : List UInt8) = Lib.decDigits 1 by rw [Lib.decDigits_one (by omega)]; rfl, digits_eq]
theorem rat_den_size (q : Rat) : intB (q.den : Int) = numB q.den := eb _

set_option maxRecDepth 100000 in
set_option maxHeartbeats 1000000 in
theorem ratSign_any (q : Rat) (w : World) :
    Calls Tryz.prog 70 #[ratV q] w fun e w' => e = .returned (.int .i64 q.num.sign) ∧ Ext w w' := by
  have HS := Lib.hid (fun W => sign_any q.num W)
  unfold ratV
  go_enter Tryz.func70, Tryz.ntmps70
  go_wp2_with fail
  refine (HS.out _).mono ?_
  rintro e w' ⟨rfl, rfl⟩
  go_wp2_with fail
  go_ret
  exact ⟨rfl, Ext.alloc _ _⟩

/-- A box of two cells. -/
theorem box2 (w : World) (x y : Value) (T : TypeId) : ∃ W, (w.alloc (.cells #[x, y] T)) = W ∧ Ext w W ∧ W.heap.size = w.heap.size + 1 ∧ W.heap[w.heap.size]? = some (.cells #[x, y] T (0, 0)) :=
  ⟨_, rfl, Ext.alloc _ _, by simp, block_new _ _ _⟩
theorem block2_cell {w : World} {B : Nat} {x y : Value} {T : TypeId} (h : w.heap[B]? = some (.cells #[x, y] T (0, 0))) : w.cell? ⟨B, 0, none⟩ = some x ∧ w.cell? ⟨B, 1, none⟩ = some y ∧ (∀ i, w.frozen? ⟨B, i, none⟩ = false) :=
  ⟨block_cell h 0, block_cell h 1, block_free h⟩
theorem block2_set {w : World} {B : Nat} {x y a b : Value} {T : TypeId} (h : w.heap[B]? = some (.cells #[x, y] T (0, 0))) : ((w.setCell ⟨B, 0, none⟩ a).setCell ⟨B, 1, none⟩ b).heap[B]? = some (.cells #[a, b] T (0, 0)) := by
  have h1 := block_set h 0 a
  have h2 := block_set h1 1 b
  simpa using h2

set_option maxRecDepth 100000 in
set_option maxHeartbeats 1000000 in
theorem ratNeg_any (q : Rat) (w : World) (h : RS 28000 q) :
    Calls Tryz.prog 89 #[ratV q] w fun e w' => e = .returned (ratV (-q)) ∧ Ext w w' := by
  have HN : Hid (∀ W, Calls Tryz.prog 50 #[.string (intB q.num)] W fun e w' => e = .returned (.string (intB (-q).num)) ∧ Ext W w') := fun W => by
    have := neg_any q.num W (by have := h.1; omega)
    rw [Rat.neg_num]; exact this
  have hd : (-q).den = q.den := rfl
  unfold ratV
  rw [hd]
  obtain ⟨n, hn⟩ : ∃ n, n = intB q.num := ⟨_, rfl⟩
  obtain ⟨d, hdd⟩ : ∃ d, d = numB q.den := ⟨_, rfl⟩
  obtain ⟨m, hm⟩ : ∃ m, m = intB (-q).num := ⟨_, rfl⟩
  rw [← hn, ← hm] at HN
  rw [← hn, ← hdd, ← hm]
  clear hn hdd hm hd h
  obtain ⟨W1, hW1, hE1, hs1, hb1⟩ := box2 w (.string n) (.string d) 81
  obtain ⟨W2, hW2, hE2, hs2, hb2⟩ := box2 W1 (.string ⟨#[]⟩) (.string ⟨#[]⟩) 81
  have hb1' := block_ext hb1 hE2
  obtain ⟨c0, c1, -⟩ := block2_cell hb1'
  obtain ⟨r0, r1, rf⟩ := block2_cell hb2
  have HB2 := Lib.hid hb2
  have HE := Lib.hid (hE1.trans hE2)
  have HS1 := Lib.hid hs1
  have HC : Hid (∀ W, Ext W2.drew W → W.cell? ⟨w.heap.size, 0, none⟩ = some (.string n) ∧ W.cell? ⟨w.heap.size, 1, none⟩ = some (.string d) ∧ W.cell? ⟨W1.heap.size, 0, none⟩ = some (.string ⟨#[]⟩) ∧ W.cell? ⟨W1.heap.size, 1, none⟩ = some (.string ⟨#[]⟩) ∧ (∀ i, W.frozen? ⟨W1.heap.size, i, none⟩ = false)) := fun W hW =>
    ⟨hW.cell (by simpa using c0), hW.cell (by simpa using c1), hW.cell (by simpa using r0), hW.cell (by simpa using r1), (block2_cell (block_ext (w := W2.drew) hb2 hW)).2.2⟩
  clear hE1 hE2 hb1 hb2 hb1' hs1 hs2
  go_enter Tryz.func89, Tryz.ntmps89
  go_wp2_with fail
  go_region_with (go_at_call 50; refine (HN.out _).mono ?_; rintro e w5 ⟨rfl, hE5⟩; obtain ⟨d0, d1, t0, t1, tf⟩ := HC.out _ hE5; have tf0 := tf 0; have tf1 := tf 1; have HE5 := Lib.hid hE5; clear hE5 tf)
  all_goals
    have hb5 := block2_set (a := .string m) (b := .string d) (block_ext (w := W2.drew) HB2.out HE5.out)
    go_wp2_with fail
    refine bodyPost_ret (results_cell_row (by rfl) _ _ W1.heap.size 81 #[.string m, .string d] (0, 0) _ (by rfl) hb5 Tryz.underlying81 (by rfl) (by kernel_rfl)) (by rfl) ⟨rfl, ?_⟩
    exact Below.setCell (Below.setCell ((HE.out.trans (Ext.drew _)).trans HE5.out) (p := ⟨W1.heap.size, 0, none⟩) (by have := HS1.out; show w.heap.size ≤ W1.heap.size; omega) _) (p := ⟨W1.heap.size, 1, none⟩) (by have := HS1.out; show w.heap.size ≤ W1.heap.size; omega) _

theorem ediv_size (N : Int) (g : Nat) : (intB (N / (g : Int))).size ≤ (intB N).size := by
  by_cases h : N < 0
  · have h1 := intB_size_le (N / (g : Int))
    have h2 := intB_size_neg N h
    have h3 : (N / (g : Int)).natAbs ≤ N.natAbs := Int.natAbs_ediv_le_natAbs N (g : Int)
    have := num_le_mono h3
    omega
  · have h0 : 0 ≤ N / (g : Int) := Int.ediv_nonneg (by omega) (by omega)
    rw [intB_pos _ h0, intB_pos N (by omega)]
    refine num_le_mono ?_
    have h3 : (N / (g : Int)).natAbs ≤ N.natAbs := Int.natAbs_ediv_le_natAbs N (g : Int)
    omega
set_option maxRecDepth 100000 in
set_option maxHeartbeats 2000000 in
theorem lowest_any (n d : Int) (w : World) (hd : d ≠ 0) (hn : (intB n).size ≤ 27000) (hds : (intB d).size ≤ 27000) (ht : Pow10 w) :
    Calls Tryz.prog 84 #[.string (intB n), .string (intB d)] w fun e w' => e = .returned (ratV (Rat.divInt n d)) ∧ Ext w w' := by
  have HT := Lib.hid ht
  clear ht
  obtain ⟨W1, hW1, hE1, hs1, hb1⟩ := box2 w (.string ⟨#[]⟩) (.string ⟨#[]⟩) 81
  obtain ⟨r0, r1, rf⟩ := block2_cell hb1
  have HB1 := Lib.hid hb1
  have HE := Lib.hid hE1
  have HC : Hid (∀ W, Ext W1 W → W.cell? ⟨w.heap.size, 0, none⟩ = some (.string ⟨#[]⟩) ∧ W.cell? ⟨w.heap.size, 1, none⟩ = some (.string ⟨#[]⟩) ∧ (∀ i, W.frozen? ⟨w.heap.size, i, none⟩ = false)) := fun W hW =>
    ⟨hW.cell r0, hW.cell r1, (block2_cell (block_ext hb1 hW)).2.2⟩
  have HSG := Lib.hid (sign_any d W1)
  obtain ⟨N, D, hN, hD, hD0, hsN, hsD, hq⟩ : ∃ (N : Int) (D : Nat), (if d < 0 then N = -n else N = n) ∧ (if d < 0 then d = -(D : Int) else d = (D : Int)) ∧ D ≠ 0 ∧ (intB N).size ≤ 27001 ∧ (numB D).size ≤ 27001 ∧ Rat.divInt n d = mkRat N D := by
    have h1 := intB_size_le (-n)
    have h2 := natAbs_le n
    have h3 := natAbs_le d
    rw [Int.natAbs_neg] at h1
    by_cases h : d < 0
    · refine ⟨-n, d.natAbs, by rw [if_pos h], by rw [if_pos h]; omega, by omega, by omega, by omega, ?_⟩
      rw [← divInt_neg n d.natAbs (by omega)]; congr 1; omega
    · refine ⟨n, d.natAbs, by rw [if_neg h], by rw [if_neg h]; omega, by omega, by omega, by omega, ?_⟩
      rw [← divInt_pos n d.natAbs]; congr 1; omega
  obtain ⟨hp1, hp2⟩ := mkRat_parts N D hD0
  rw [hq]
  unfold ratV
  rw [hp1, hp2]
  obtain ⟨g, hg⟩ : ∃ g, g = N.natAbs.gcd D := ⟨_, rfl⟩
  rw [← hg]
  have hgp : 0 < g := by rw [hg]; exact Nat.gcd_pos_of_pos_right _ (by omega)
  have hgD : g ≤ D := by rw [hg]; exact Nat.gcd_le_right _ (by omega)
  have hgs := num_le_mono hgD
  have hGC : ∀ W, Ext w W → Calls Tryz.prog 115 #[.string (intB N), .string (intB (D : Int))] W fun e w' => e = .returned (.string (numB g)) ∧ Ext W w' := fun W hW => by
    have := gcdI_any N (D : Int) W (by omega) (by rw [eb]; omega) (HT.out.ext hW)
    rw [show (D : Int).natAbs = D from rfl, ← hg] at this
    exact this
  have hD1 : ∀ W, Ext w W → Calls Tryz.prog 116 #[.string (intB N), .string (intB (g : Int))] W fun e w' => e = .returned (.tuple #[.string (intB (fdq N (g : Int))), .string (intB (fdr N (g : Int))), .int .i64 0]) ∧ Ext W w' := fun W hW => divModI_any N (g : Int) W (by omega) (by rw [eb]; omega) (by omega) (HT.out.ext hW)
  have hD2 : ∀ W, Ext w W → Calls Tryz.prog 116 #[.string (intB (D : Int)), .string (intB (g : Int))] W fun e w' => e = .returned (.tuple #[.string (intB (fdq (D : Int) (g : Int))), .string (intB (fdr (D : Int) (g : Int))), .int .i64 0]) ∧ Ext W w' := fun W hW => divModI_any (D : Int) (g : Int) W (by rw [eb]; omega) (by rw [eb]; omega) (by omega) (HT.out.ext hW)
  have hgi : (0 : Int) < (g : Int) := by omega
  have hDg : fdq (D : Int) (g : Int) = ((D / g : Nat) : Int) := by rw [fdq_pos _ _ hgi]; exact (Int.natCast_ediv _ _).symm
  rw [fdq_pos N _ hgi, eb] at hD1
  rw [hDg, eb, eb, eb] at hD2
  rw [eb] at hGC
  have HGC := Lib.hid hGC; have HD1 := Lib.hid hD1; have HD2 := Lib.hid hD2
  have HG1 : Hid (g = 1 → N / (g : Int) = N ∧ D / g = D) := fun h => by rw [h]; exact ⟨Int.ediv_one N, Nat.div_one D⟩
  have hz := num_one g
  obtain ⟨FN, hFN⟩ : ∃ FN, FN = N / (g : Int) := ⟨_, rfl⟩
  obtain ⟨FD, hFD⟩ : ∃ FD, FD = D / g := ⟨_, rfl⟩
  rw [← hFN] at HD1 HG1 ⊢
  rw [← hFD] at HD2 HG1 ⊢
  clear hg hgp hgD hgs hGC hD1 hD2 hgi hDg hp1 hp2 hq r0 r1 rf hb1 hE1 hs1 hFN hFD
  have HX : Hid (w.heap.size ≤ w.heap.size) := Nat.le_refl _
  by_cases hneg : d < 0
  case' pos =>
    rw [if_pos hneg] at hN hD
    have hsg : d.sign < 0 := by rw [Int.sign_eq_neg_one_of_neg hneg]; omega
    have HN1 : Hid (∀ W, Calls Tryz.prog 50 #[.string (intB n)] W fun e w' => e = .returned (.string (intB N)) ∧ Ext W w') := fun W => by rw [hN]; exact neg_any n W (by omega)
    have HN2 : Hid (∀ W, Calls Tryz.prog 50 #[.string (intB d)] W fun e w' => e = .returned (.string (numB D)) ∧ Ext W w') := fun W => by
      have := neg_any d W (by omega)
      rw [show -d = (D : Int) by omega, eb] at this
      exact this
    obtain ⟨sg, hsgg⟩ : ∃ sg, sg = d.sign := ⟨_, rfl⟩
    rw [← hsgg] at HSG hsg
    clear hN hD hneg hsgg
    go_enter Tryz.func84, Tryz.ntmps84
    go_wp2_with fail
    refine HSG.out.mono ?_
    rintro e w' ⟨rfl, rfl⟩
    clear HSG
    go_wp2_with fail
    refine (HN1.out _).mono ?_
    rintro e w2 ⟨rfl, hE2⟩
    have HE2 := Lib.hid hE2
    clear hE2 HN1
    go_wp2_with fail
    refine (HN2.out _).mono ?_
    rintro e w3 ⟨rfl, hE3⟩
    have HE3 := Lib.hid (Ext.trans HE2.out hE3)
    clear hE3 HN2
  case' neg =>
    rw [if_neg hneg] at hN hD
    have hsg : ¬ d.sign < 0 := by rw [Int.sign_eq_one_of_pos (by omega)]; omega
    obtain ⟨sg, hsgg⟩ : ∃ sg, sg = d.sign := ⟨_, rfl⟩
    rw [← hsgg] at HSG hsg
    rw [hD, eb] at HSG ⊢
    rw [← hN]
    clear hN hD hneg hsgg
    go_enter Tryz.func84, Tryz.ntmps84
    go_wp2_with fail
    refine HSG.out.mono ?_
    rintro e w' ⟨rfl, rfl⟩
    clear HSG
    have HE3 := Lib.hid (Ext.refl W1)
  all_goals
    by_cases hg1 : g = 1
    · rw [decide_eq_true hg1] at hz
      have HQ := Lib.hid (HG1.out hg1)
      clear hg1
      go_wp2_with fail
      refine (HGC.out _ (HE.out.trans HE3.out)).mono ?_
      rintro e w4 ⟨rfl, hE4⟩
      have HE4 := Lib.hid (Ext.trans HE3.out hE4)
      obtain ⟨t0, t1, tf⟩ := HC.out _ HE4.out
      have tf0 := tf 0; have tf1 := tf 1
      have hb5 := block2_set (a := .string (intB N)) (b := .string (numB D)) (block_ext HB1.out HE4.out)
      clear hE4 tf HGC
      go_wp2_with fail
      refine bodyPost_ret (results_cell_row (by rfl) _ _ w.heap.size 81 #[.string (intB N), .string (numB D)] (0, 0) _ (by rfl) hb5 Tryz.underlying81 (by rfl) (by kernel_rfl)) (by rfl) ⟨by rw [HQ.out.1, HQ.out.2], ?_⟩
      exact Below.setCell (Below.setCell (HE.out.trans HE4.out) (p := ⟨w.heap.size, 0, none⟩) (Nat.le_refl _) _) (p := ⟨w.heap.size, 1, none⟩) (Nat.le_refl _) _
    · rw [decide_eq_false hg1] at hz
      clear hg1
      go_wp2_with fail
      refine (HGC.out _ (HE.out.trans HE3.out)).mono ?_
      rintro e w4 ⟨rfl, hE4⟩
      have HE4 := Lib.hid (Ext.trans HE3.out hE4)
      clear hE4 HGC
      go_wp2_with fail
      refine (HD1.out _ (HE.out.trans HE4.out)).mono ?_
      rintro e w5 ⟨rfl, hE5⟩
      have HE5 := Lib.hid (Ext.trans HE4.out hE5)
      clear hE5 HD1
      go_wp2_with fail
      refine (HD2.out _ (HE.out.trans HE5.out)).mono ?_
      rintro e w6 ⟨rfl, hE6⟩
      have HE6 := Lib.hid (Ext.trans HE5.out hE6)
      obtain ⟨t0, t1, tf⟩ := HC.out _ HE6.out
      have tf0 := tf 0; have tf1 := tf 1
      have hb5 := block2_set (a := .string (intB FN)) (b := .string (numB FD)) (block_ext HB1.out HE6.out)
      clear hE6 tf HD2
      go_wp2_with fail
      refine bodyPost_ret (results_cell_row (by rfl) _ _ w.heap.size 81 #[.string (intB FN), .string (numB FD)] (0, 0) _ (by rfl) hb5 Tryz.underlying81 (by rfl) (by kernel_rfl)) (by rfl) ⟨rfl, ?_⟩
      exact Below.setCell (Below.setCell (HE.out.trans HE6.out) (p := ⟨w.heap.size, 0, none⟩) (Nat.le_refl _) _) (p := ⟨w.heap.size, 1, none⟩) (Nat.le_refl _) _
end Go.Proofs.YtpeinobepiodaaaGreatDoor
/- Contracts of package fraction: little, both, of. -/
namespace Go.Proofs.YtpeinobepiodaaaGreatDoor
set_option linter.unusedVariables false
set_option linter.unusedSimpArgs false
open Go.RowKit

theorem int9 {n : Int} (h : (intB n).size ≤ 9) : -1000000000 < n ∧ n < 1000000000 := by
  have h1 := natAbs_le n
  have h3 := Lib.lt_pow_nDigits n.natAbs
  rw [numB_size] at h1
  have h4 : 10 ^ Lib.nDigits n.natAbs ≤ 10 ^ 9 := Nat.pow_le_pow_right (by omega) (by omega)
  rw [show (10 : Nat) ^ 9 = 1000000000 by decide] at h4
  omega
set_option maxRecDepth 100000 in
set_option maxHeartbeats 400000 in
theorem flittle_yes (n : Int) (w : World) (hs : (intB n).size ≤ 9) :
    Calls Tryz.prog 114 #[.string (intB n)] w fun e w' => e = .returned (.tuple #[.int .i64 n, .bool true]) ∧ Ext w w' := by
  have hb := int9 hs
  have hs' : ¬ (9 : Int) < ((intB n).size : Int) := by omega
  have HA := Lib.hid (atoi_int n w (by omega) (by omega) (by omega))
  go_enter Tryz.func114, Tryz.ntmps114
  go_wp2_with fail
  refine HA.out.mono ?_
  rintro e w1 ⟨rfl, hE1⟩
  have HE1 := Lib.hid hE1
  clear hE1 HA
  go_wp2_with fail
  go_quiet (fail)
  go_wp2_with fail
  go_ret2
  exact ⟨rfl, Ext.draws HE1.out _⟩
set_option maxRecDepth 100000 in
theorem flittle_no (n : Int) (w : World) (hs : 9 < (intB n).size) :
    Calls Tryz.prog 114 #[.string (intB n)] w fun e w' => e = .returned (.tuple #[.int .i64 0, .bool false]) ∧ Ext w w' := by
  have hs' : (9 : Int) < ((intB n).size : Int) := by omega
  go_enter Tryz.func114, Tryz.ntmps114
  go_wp2_with fail
  go_ret2
  exact ⟨rfl, Ext.refl _⟩

set_option maxRecDepth 100000 in
set_option maxHeartbeats 1000000 in
theorem fboth_any (q : Rat) (w : World) :
    Calls Tryz.prog 82 #[ratV q] w fun e w' => ∃ a b, e = .returned (.tuple #[.int .i64 a, .int .i64 b, .bool (decide ((intB q.num).size ≤ 9) && decide ((numB q.den).size ≤ 9))]) ∧ Hid ((intB q.num).size ≤ 9 ∧ (numB q.den).size ≤ 9 → a = q.num ∧ b = q.den) ∧ Ext w w' := by
  have hL1 : ∀ W, ∃ a, Calls Tryz.prog 114 #[.string (intB q.num)] W fun e w' => e = .returned (.tuple #[.int .i64 a, .bool (decide ((intB q.num).size ≤ 9))]) ∧ (Ext W w' ∧ ((intB q.num).size ≤ 9 → a = q.num)) := by
    intro W
    by_cases h : (intB q.num).size ≤ 9
    · refine ⟨q.num, (flittle_yes q.num W h).mono fun e w' ⟨h1, h2⟩ => ⟨?_, h2, fun _ => rfl⟩⟩
      rw [h1, decide_eq_true h]
    · refine ⟨0, (flittle_no q.num W (by omega)).mono fun e w' ⟨h1, h2⟩ => ⟨?_, h2, fun h' => absurd h' h⟩⟩
      rw [h1, decide_eq_false h]
  have hL2 : ∀ W, ∃ a, Calls Tryz.prog 114 #[.string (numB q.den)] W fun e w' => e = .returned (.tuple #[.int .i64 a, .bool (decide ((numB q.den).size ≤ 9))]) ∧ (Ext W w' ∧ ((numB q.den).size ≤ 9 → a = q.den)) := by
    intro W
    rw [← eb]
    by_cases h : (intB (q.den : Int)).size ≤ 9
    · refine ⟨q.den, (flittle_yes q.den W h).mono fun e w' ⟨h1, h2⟩ => ⟨?_, h2, fun _ => rfl⟩⟩
      rw [h1, decide_eq_true h]
    · refine ⟨0, (flittle_no q.den W (by omega)).mono fun e w' ⟨h1, h2⟩ => ⟨?_, h2, fun h' => absurd h' h⟩⟩
      rw [h1, decide_eq_false h]
  unfold ratV
  obtain ⟨n, hn⟩ : ∃ n, n = intB q.num := ⟨_, rfl⟩
  obtain ⟨d, hdd⟩ : ∃ d, d = numB q.den := ⟨_, rfl⟩
  rw [← hn] at hL1
  rw [← hdd] at hL2
  rw [← hn, ← hdd]
  obtain ⟨b1, hb1⟩ : ∃ b, b = decide (n.size ≤ 9) := ⟨_, rfl⟩
  obtain ⟨b2, hb2⟩ : ∃ b, b = decide (d.size ≤ 9) := ⟨_, rfl⟩
  rw [← hb1] at hL1 ⊢
  rw [← hb2] at hL2 ⊢
  have HL1 := Lib.hid hL1; have HL2 := Lib.hid hL2
  clear hn hdd hL1 hL2 hb1 hb2
  obtain ⟨W1, hW1, hE1, hs1, hbb⟩ := box2 w (.string n) (.string d) 81
  obtain ⟨c0, c1, -⟩ := block2_cell hbb
  have HE1 := Lib.hid hE1
  have HC : Hid (∀ W, Ext W1 W → W.cell? ⟨w.heap.size, 0, none⟩ = some (.string n) ∧ W.cell? ⟨w.heap.size, 1, none⟩ = some (.string d)) := fun W hW => ⟨hW.cell c0, hW.cell c1⟩
  clear hE1 hs1 hbb
  go_enter Tryz.func82, Tryz.ntmps82
  go_wp2_with fail
  obtain ⟨a, hA⟩ := HL1.out W1
  refine hA.mono ?_
  rintro e w2 ⟨rfl, hx⟩
  have HX2 := Lib.hid hx
  obtain ⟨d0, d1⟩ := HC.out _ hx.1
  clear hA hx c0 c1
  go_wp2_with fail
  obtain ⟨b, hB⟩ := HL2.out w2
  refine hB.mono ?_
  rintro e w3 ⟨rfl, hx⟩
  have HX3 := Lib.hid hx
  clear hB hx d0 d1
  cases b1 <;> cases b2
  all_goals
    go_wp2_with fail
    go_ret3
    exact ⟨a, b, rfl, fun h => ⟨HX2.out.2 h.1, HX3.out.2 h.2⟩, (HE1.out.trans HX2.out.1).trans HX3.out.1⟩
end Go.Proofs.YtpeinobepiodaaaGreatDoor
/- Contracts of package fraction: of. -/
namespace Go.Proofs.YtpeinobepiodaaaGreatDoor
set_option linter.unusedVariables false
set_option linter.unusedSimpArgs false
open Go.RowKit

theorem natAbs_tmod_gcd (a b : Int) : Nat.gcd b.natAbs (a.tmod b).natAbs = Nat.gcd a.natAbs b.natAbs := by
  rw [Int.natAbs_tmod, Nat.gcd_comm b.natAbs, ← Nat.gcd_rec, Nat.gcd_comm]
theorem tdiv_dvd (n : Int) (g : Nat) (h : (g : Int) ∣ n) : n.tdiv (g : Int) = n / (g : Int) := by
  obtain ⟨k, rfl⟩ := h
  by_cases hg : g = 0
  · subst hg; simp
  · rw [Int.mul_tdiv_cancel_left _ (by omega), Int.mul_ediv_cancel_left _ (by omega)]

set_option maxRecDepth 100000 in
set_option maxHeartbeats 4000000 in
theorem fof_any (n : Int) (d : Nat) (w : World) (hn1 : -4000000000000000000 ≤ n) (hn2 : n ≤ 4000000000000000000) (hd0 : 0 < d) (hd : d ≤ 4000000000000000000) (ht : Pow10 w) :
    Calls Tryz.prog 83 #[.int .i64 n, .int .i64 d] w fun e w' => e = .returned (ratV (mkRat n d)) ∧ Ext w w' := by
  have HT := Lib.hid ht
  clear ht
  obtain ⟨hp1, hp2⟩ := mkRat_parts n d (by omega)
  unfold ratV
  rw [hp1, hp2]
  obtain ⟨g, hg⟩ : ∃ g, g = n.natAbs.gcd d := ⟨_, rfl⟩
  rw [← hg]
  have hgp : 0 < g := by rw [hg]; exact Nat.gcd_pos_of_pos_right _ hd0
  have hgd : g ≤ d := by rw [hg]; exact Nat.gcd_le_right _ hd0
  have hdn : (g : Int) ∣ n := by rw [hg]; exact Int.ofNat_dvd_left.2 (Nat.gcd_dvd_left _ _)
  obtain ⟨FN, hFN⟩ : ∃ FN, FN = n / (g : Int) := ⟨_, rfl⟩
  obtain ⟨FD, hFD⟩ : ∃ FD, FD = d / g := ⟨_, rfl⟩
  rw [← hFN, ← hFD]
  have q1 : n.tdiv (g : Int) = FN := by rw [hFN, tdiv_dvd n g hdn]
  have q2 : (d : Int) / (g : Int) = (FD : Int) := by rw [hFD]; exact (Int.natCast_ediv _ _).symm
  have q2' : (d : Int).tdiv (g : Int) = (FD : Int) := by rw [Int.tdiv_eq_ediv_of_nonneg (by omega), q2]
  have hFNb : -4000000000000000000 ≤ FN ∧ FN ≤ 4000000000000000000 := by
    have : FN.natAbs ≤ n.natAbs := by rw [hFN]; exact Int.natAbs_ediv_le_natAbs n (g : Int)
    omega
  have hFDb : FD ≤ 4000000000000000000 := by
    have : FD ≤ d := by rw [hFD]; exact Nat.div_le_self _ _
    omega
  obtain ⟨hf1, hf2⟩ := hFNb
  have e1 : IntKind.i64.wrap FN = FN := IntWalk.i64_in _ (by omega)
  have e2 : IntKind.i64.wrap (FD : Int) = (FD : Int) := IntWalk.i64_in _ (by omega)
  have hI1 : ∀ W, Ext w W → Calls Tryz.prog 99 #[.int .i64 FN] W fun e w' => e = .returned (.string (intB FN)) ∧ Ext W w' := fun W hE => itoa_int FN W (by omega) (by omega) (HT.out.ext hE)
  have hI2 : ∀ W, Ext w W → Calls Tryz.prog 99 #[.int .i64 (FD : Int)] W fun e w' => e = .returned (.string (intB (FD : Int))) ∧ Ext W w' := fun W hE => itoa_int (FD : Int) W (by omega) (by omega) (HT.out.ext hE)
  rw [eb] at hI2
  have HI1 := Lib.hid hI1; have HI2 := Lib.hid hI2
  have HG := Lib.hid hg
  obtain ⟨W1, hW1, hE1, hs1, hb1⟩ := box2 w (.string ⟨#[]⟩) (.string ⟨#[]⟩) 81
  obtain ⟨r0, r1, rf⟩ := block2_cell hb1
  have HB1 := Lib.hid hb1
  have HE := Lib.hid hE1
  have HC : Hid (∀ W, Ext W1 W → W.cell? ⟨w.heap.size, 0, none⟩ = some (.string ⟨#[]⟩) ∧ W.cell? ⟨w.heap.size, 1, none⟩ = some (.string ⟨#[]⟩) ∧ (∀ i, W.frozen? ⟨w.heap.size, i, none⟩ = false)) := fun W hW =>
    ⟨hW.cell r0, hW.cell r1, (block2_cell (block_ext hb1 hW)).2.2⟩
  have HQ : Hid (n.tdiv (g : Int) = FN ∧ (d : Int) / (g : Int) = (FD : Int) ∧ (d : Int).tdiv (g : Int) = (FD : Int) ∧ IntKind.i64.wrap FN = FN ∧ IntKind.i64.wrap (FD : Int) = (FD : Int)) := ⟨q1, q2, q2', e1, e2⟩
  clear hp1 hp2 hg hdn hI1 hI2 hFN hFD q1 q2 q2' e1 e2 hE1 hs1 hb1 r0 r1 rf
  go_enter Tryz.func83, Tryz.ntmps83
  go_wp2_with fail
  go_loopw [5, 6] (fun a b wr => ∃ x y : Int, a = .int .i64 x ∧ b = .int .i64 y ∧ -4000000000000000000 ≤ x ∧ x ≤ 4000000000000000000 ∧ -4000000000000000000 ≤ y ∧ y ≤ 4000000000000000000 ∧ Hid (Nat.gcd x.natAbs y.natAbs = g) ∧ Hid (Ext W1 wr)) (fun _ b _ => (intOf b).natAbs)
  case atStart => exact ⟨n, d, rfl, rfl, hn1, hn2, by omega, by omega, by rw [HG.out]; rfl, Ext.refl _⟩
  case round =>
    obtain ⟨x, y, rfl, rfl, hx1, hx2, hy1, hy2, HGG, HEw⟩ := hrel
    obtain ⟨wo, rfl⟩ : ∃ wo : World, wo = wr := ⟨_, rfl⟩
    by_cases hy0 : y = 0
    · have hgx : x.natAbs = g := by have := HGG.out; rw [hy0] at this; simpa using this
      subst hy0
      have hxx : (x < 0 ∧ x = -(g : Int)) ∨ (¬ x < 0 ∧ x = (g : Int)) := by omega
      have hgz : ((g : Int) == 0) = false := by rw [beq_eq_false_iff_ne]; omega
      have hgz2 : ¬ (g : Int) = 0 := by omega
      clear hgx
      obtain ⟨q1, q2, q3, q4, q5⟩ := HQ.out
      have HEd := Lib.hid (Ext.trans HEw.out (Ext.drew wo))
      rcases hxx with ⟨hneg, hxg⟩ | ⟨hneg, hxg⟩
      case' inl =>
        have hng : -x = (g : Int) := by omega
        clear hxg
      case' inr =>
        subst hxg
        have hng : True := trivial
      all_goals
        go_wp2_with fail
        go_region_with (first
          | (go_at_call 99; with_reducible refine (HI1.out _ (HE.out.trans HEd.out)).mono ?_; rintro e w5 ⟨rfl, hE5⟩; have HE2 := HEd; clear HEd; have HEd := Lib.hid (Ext.trans HE2.out hE5); obtain ⟨t0, t1, tf⟩ := HC.out _ HEd.out; have tf0 := tf 0; have tf1 := tf 1; clear hE5 HE2 tf)
          | (go_at_call 99; with_reducible refine (HI2.out _ (HE.out.trans HEd.out)).mono ?_; rintro e w5 ⟨rfl, hE5⟩; have HE2 := HEd; clear HEd; have HEd := Lib.hid (Ext.trans HE2.out hE5); obtain ⟨t0, t1, tf⟩ := HC.out _ HEd.out; have tf0 := tf 0; have tf1 := tf 1; clear hE5 HE2 tf))
        all_goals
          have hb5 := block2_set (a := .string (intB FN)) (b := .string (numB FD)) (block_ext HB1.out HEd.out)
          go_wp2_with fail
          refine bodyPost_ret (results_cell_row (by rfl) _ _ w.heap.size 81 #[.string (intB FN), .string (numB FD)] (0, 0) _ (by rfl) hb5 Tryz.underlying81 (by rfl) (by kernel_rfl)) (by rfl) ⟨rfl, ?_⟩
          exact Below.setCell (Below.setCell (HE.out.trans HEd.out) (p := ⟨w.heap.size, 0, none⟩) (Nat.le_refl _) _) (p := ⟨w.heap.size, 1, none⟩) (Nat.le_refl _) _
    · obtain ⟨r, hr⟩ : ∃ r, r = x.tmod y := ⟨_, rfl⟩
      have hry : r.natAbs < y.natAbs := by rw [hr]; exact tmod_lt x y hy0
      have HG2 : Hid (Nat.gcd y.natAbs r.natAbs = g) := by unfold Hid; rw [hr, natAbs_tmod_gcd]; exact HGG.out
      have hri : x.tmod y = r := hr.symm
      have hyz : (y == 0) = false := by rw [beq_eq_false_iff_ne]; exact hy0
      have hyz1 : (y != 0) = true := by simpa using hy0
      clear hr
      go_wp2_with fail
      go_quiet (fail)
      go_wp2_with fail
      go_roundw
      case rel => exact ⟨y, r, rfl, rfl, hy1, hy2, by omega, by omega, HG2.out, Ext.draws HEw.out _⟩
      case measure => simp [intOf]; omega
end Go.Proofs.YtpeinobepiodaaaGreatDoor
/- Contracts of package fraction: Mul, Div. -/
namespace Go.Proofs.YtpeinobepiodaaaGreatDoor
set_option linter.unusedVariables false
set_option linter.unusedSimpArgs false
open Go.RowKit

theorem int_mul_size (x y : Int) : (intB (x * y)).size ≤ (intB x).size + (intB y).size + 1 := by
  have h1 := intB_size_le (x * y)
  have h2 := natAbs_le x
  have h3 := natAbs_le y
  have h4 := num_mul_size x.natAbs y.natAbs
  rw [← Int.natAbs_mul] at h4
  omega
theorem int_add_size (x y : Int) : (intB (x + y)).size ≤ max (intB x).size (intB y).size + 2 := by
  have h1 := intB_size_le (x + y)
  have h2 := natAbs_le x
  have h3 := natAbs_le y
  have h4 := num_add_size x.natAbs y.natAbs
  have h5 := num_le_mono (Int.natAbs_add_le x y)
  omega
theorem load_rat (w : World) (g : Nat) (n d : ByteArray) (h : w.heap[g]? = some (.cells #[.string n, .string d] 81 (0, 0))) : w.cell? ⟨g, 0, none⟩ = some (.string n) ∧ w.cell? ⟨g, 1, none⟩ = some (.string d) :=
  ⟨block_cell h 0, block_cell h 1⟩
/-- A box of two cells that may be written. -/
def BlkR (B : Nat) (w : World) : Prop := ∃ a b, w.heap[B]? = some (.cells #[a, b] 81 (0, 0))
theorem BlkR.ext {B : Nat} {w w' : World} (h : BlkR B w) (he : Ext w w') : BlkR B w' := by
  obtain ⟨a, b, h⟩ := h; exact ⟨a, b, block_ext h he⟩
theorem BlkR.set2 {B : Nat} {w : World} {x y : Value} (h : BlkR B w) : BlkR B ((w.setCell ⟨B, 0, none⟩ x).setCell ⟨B, 1, none⟩ y) := by
  obtain ⟨a, b, h⟩ := h; exact ⟨x, y, block2_set h⟩
theorem BlkR.res {B : Nat} {w : World} {x y : Value} (h : BlkR B w) : ((w.setCell ⟨B, 0, none⟩ x).setCell ⟨B, 1, none⟩ y).heap[B]? = some (.cells #[x, y] 81 (0, 0)) := by
  obtain ⟨a, b, h⟩ := h; exact block2_set h
theorem BlkR.open {B : Nat} {w : World} (h : BlkR B w) : ∃ a b, w.cell? ⟨B, 0, none⟩ = some a ∧ w.cell? ⟨B, 1, none⟩ = some b ∧ w.frozen? ⟨B, 0, none⟩ = false ∧ w.frozen? ⟨B, 1, none⟩ = false := by
  obtain ⟨a, b, h⟩ := h
  obtain ⟨c0, c1, cf⟩ := block2_cell h
  exact ⟨a, b, c0, c1, cf 0, cf 1⟩
theorem cell_set2 {w : World} {B g i : Nat} {x y v : Value} (hne : g ≠ B) (h : w.cell? ⟨g, i, none⟩ = some v) : ((w.setCell ⟨B, 0, none⟩ x).setCell ⟨B, 1, none⟩ y).cell? ⟨g, i, none⟩ = some v := by
  rw [World.cell?_setCell_other _ _ _ _ (by intro e; simp only [Addr.mk.injEq] at e; exact hne e.1.symm), World.cell?_setCell_other _ _ _ _ (by intro e; simp only [Addr.mk.injEq] at e; exact hne e.1.symm)]
  exact h
theorem ext_set2 {w W : World} {B : Nat} {x y : Value} (h : Ext w W) (hB : w.heap.size ≤ B) : Ext w ((W.setCell ⟨B, 0, none⟩ x).setCell ⟨B, 1, none⟩ y) :=
  Below.setCell (Below.setCell h (p := ⟨B, 0, none⟩) hB _) (p := ⟨B, 1, none⟩) hB _
theorem rat_mul_eq (x y : Rat) : Rat.divInt (x.num * y.num) ((x.den : Int) * (y.den : Int)) = x * y := by
  rw [Rat.mul_def', ← Int.natCast_mul]; rfl
theorem rat_div_eq (x y : Rat) : Rat.divInt (x.num * (y.den : Int)) ((x.den : Int) * y.num) = x / y := by
  rw [Rat.div_def, Rat.inv_def, ← Rat.divInt_mul_divInt, Rat.num_divInt_den]

set_option maxRecDepth 100000 in
set_option maxHeartbeats 4000000 in
theorem ratMul_any (x y : Rat) (w : World) (hx : RS 13000 x) (hy : RS 13000 y) (ht : Pow10 w) :
    Calls Tryz.prog 48 #[ratV x, ratV y] w fun e w' => e = .returned (ratV (x * y)) ∧ Ext w w' := by
  have HT := Lib.hid ht
  clear ht
  obtain ⟨W1, hW1, hE1, hs1, hb1⟩ := box2 w (.string (intB x.num)) (.string (numB x.den)) 81
  obtain ⟨W2, hW2, hE2, hs2, hb2⟩ := box2 W1 (.string (intB y.num)) (.string (numB y.den)) 81
  obtain ⟨W3, hW3, hE3, hs3, hb3⟩ := box2 W2 (.string ⟨#[]⟩) (.string ⟨#[]⟩) 81
  have hb1' := block_ext hb1 (hE2.trans hE3)
  have hb2' := block_ext hb2 hE3
  have HE := Lib.hid ((hE1.trans hE2).trans hE3)
  have HR : Hid (w.heap.size ≤ W2.heap.size) := by unfold Hid; omega
  have HN1 : Hid (w.heap.size ≠ W2.heap.size) := by unfold Hid; omega
  have HN2 : Hid (W1.heap.size ≠ W2.heap.size) := by unfold Hid; omega
  have HC : Hid (∀ W, Ext W3 W → W.cell? ⟨w.heap.size, 0, none⟩ = some (.string (intB x.num)) ∧ W.cell? ⟨w.heap.size, 1, none⟩ = some (.string (numB x.den)) ∧ W.cell? ⟨W1.heap.size, 0, none⟩ = some (.string (intB y.num)) ∧ W.cell? ⟨W1.heap.size, 1, none⟩ = some (.string (numB y.den)) ∧ W.cell? ⟨W2.heap.size, 0, none⟩ = some (.string ⟨#[]⟩) ∧ W.cell? ⟨W2.heap.size, 1, none⟩ = some (.string ⟨#[]⟩) ∧ W.frozen? ⟨W2.heap.size, 0, none⟩ = false ∧ W.frozen? ⟨W2.heap.size, 1, none⟩ = false ∧ W.heap[W2.heap.size]? = some (.cells #[.string ⟨#[]⟩, .string ⟨#[]⟩] 81 (0, 0))) := fun W hW => by
    obtain ⟨a0, a1, -⟩ := block2_cell (block_ext hb1' hW)
    obtain ⟨b0, b1, -⟩ := block2_cell (block_ext hb2' hW)
    obtain ⟨c0, c1, cf⟩ := block2_cell (block_ext hb3 hW)
    exact ⟨a0, a1, b0, b1, c0, c1, cf 0, cf 1, block_ext hb3 hW⟩
  have HB1 : Hid (∀ W, Calls Tryz.prog 82 #[ratV x] W fun e w' => ∃ a b, e = .returned (.tuple #[.int .i64 a, .int .i64 b, .bool (decide ((intB x.num).size ≤ 9) && decide ((numB x.den).size ≤ 9))]) ∧ Hid ((intB x.num).size ≤ 9 ∧ (numB x.den).size ≤ 9 → a = x.num ∧ b = x.den) ∧ Ext W w') := fun W => fboth_any x W
  have HB2 : Hid (∀ W, Calls Tryz.prog 82 #[ratV y] W fun e w' => ∃ a b, e = .returned (.tuple #[.int .i64 a, .int .i64 b, .bool (decide ((intB y.num).size ≤ 9) && decide ((numB y.den).size ≤ 9))]) ∧ Hid ((intB y.num).size ≤ 9 ∧ (numB y.den).size ≤ 9 → a = y.num ∧ b = y.den) ∧ Ext W w') := fun W => fboth_any y W
  obtain ⟨bx, hbx⟩ : ∃ b, b = (decide ((intB x.num).size ≤ 9) && decide ((numB x.den).size ≤ 9)) := ⟨_, rfl⟩
  obtain ⟨by', hby⟩ : ∃ b, b = (decide ((intB y.num).size ≤ 9) && decide ((numB y.den).size ≤ 9)) := ⟨_, rfl⟩
  rw [← hbx] at HB1
  rw [← hby] at HB2
  have HBX : Hid (bx = true → (intB x.num).size ≤ 9 ∧ (numB x.den).size ≤ 9) := by
    intro h; rw [hbx, Bool.and_eq_true, decide_eq_true_iff, decide_eq_true_iff] at h; exact h
  have HBY : Hid (by' = true → (intB y.num).size ≤ 9 ∧ (numB y.den).size ≤ 9) := by
    intro h; rw [hby, Bool.and_eq_true, decide_eq_true_iff, decide_eq_true_iff] at h; exact h
  have hM1 : ∀ W, Ext w W → Calls Tryz.prog 49 #[.string (intB x.num), .string (intB y.num)] W fun e w' => e = .returned (.string (intB (x.num * y.num))) ∧ Ext W w' := fun W hW => mulI_any _ _ W (by have := hx.1; omega) (by have := hy.1; omega) (HT.out.ext hW)
  have hM2 : ∀ W, Ext w W → Calls Tryz.prog 49 #[.string (numB x.den), .string (numB y.den)] W fun e w' => e = .returned (.string (intB ((x.den : Int) * (y.den : Int)))) ∧ Ext W w' := fun W hW => by
    have := mulI_any (x.den : Int) (y.den : Int) W (by rw [eb]; have := hx.2; omega) (by rw [eb]; have := hy.2; omega) (HT.out.ext hW)
    rw [eb, eb] at this
    exact this
  have hL : ∀ W, Ext w W → Calls Tryz.prog 84 #[.string (intB (x.num * y.num)), .string (intB ((x.den : Int) * (y.den : Int)))] W fun e w' => e = .returned (ratV (x * y)) ∧ Ext W w' := fun W hW => by
    rw [← rat_mul_eq]
    have h1 := int_mul_size x.num y.num
    have h2 := int_mul_size (x.den : Int) (y.den : Int)
    rw [eb x.den, eb y.den] at h2
    have h3 := hx.1; have h4 := hx.2; have h5 := hy.1; have h6 := hy.2
    exact lowest_any _ _ W (by rw [← Int.natCast_mul]; have := Nat.mul_ne_zero x.den_nz y.den_nz; omega) (by omega) (by omega) (HT.out.ext hW)
  have HM1 := Lib.hid hM1; have HM2 := Lib.hid hM2; have HL := Lib.hid hL
  have HOF : Hid ((intB x.num).size ≤ 9 ∧ (numB x.den).size ≤ 9 → (intB y.num).size ≤ 9 ∧ (numB y.den).size ≤ 9 → ∃ (p : Int) (q : Int), x.num * y.num = p ∧ (x.den : Int) * (y.den : Int) = q ∧ -1000000000000000000 ≤ p ∧ p ≤ 1000000000000000000 ∧ -1000000000000000000 ≤ q ∧ q ≤ 1000000000000000000 ∧ ∀ W, Ext w W → Calls Tryz.prog 83 #[.int .i64 p, .int .i64 q] W fun e w' => e = .returned (ratV (x * y)) ∧ Ext W w') := by
    intro h1 h2
    have a1 := int9 h1.1
    have a2 := int9 (n := (x.den : Int)) (by rw [eb]; exact h1.2)
    have a3 := int9 h2.1
    have a4 := int9 (n := (y.den : Int)) (by rw [eb]; exact h2.2)
    have m1 := mul_bd a1.1 a1.2 a3.1 a3.2 (by omega) (by omega)
    have m2 := mul_bd a2.1 a2.2 a4.1 a4.2 (by omega) (by omega)
    refine ⟨_, _, rfl, rfl, by omega, by omega, by omega, by omega, fun W hW => ?_⟩
    have hdp : 0 < x.den * y.den := Nat.mul_pos x.den_pos y.den_pos
    rw [← Int.natCast_mul] at m2 ⊢
    have := fof_any (x.num * y.num) (x.den * y.den) W (by omega) (by omega) hdp (by omega) (HT.out.ext hW)
    rw [Rat.mul_def']
    exact this
  have heta : ∀ q : Rat, ratV q = .agg #[.string (intB q.num), .string (numB q.den)] := fun _ => rfl
  have HV : Hid (∀ q : Rat, ratV q = .agg #[.string (intB q.num), .string (numB q.den)]) := heta
  obtain ⟨Z, hZ⟩ : ∃ Z, Z = x * y := ⟨_, rfl⟩
  rw [← hZ] at HL HOF ⊢
  rw [heta x] at HB1 ⊢
  rw [heta y] at HB2 ⊢
  rw [heta Z] at HL HOF ⊢
  clear hE1 hE2 hE3 hs1 hs2 hs3 hb1 hb2 hb3 hb1' hb2' hbx hby hM1 hM2 hL heta hZ hx hy HV
  obtain ⟨n1, hn1⟩ : ∃ n, n = intB x.num := ⟨_, rfl⟩
  obtain ⟨d1, hd1⟩ : ∃ n, n = numB x.den := ⟨_, rfl⟩
  obtain ⟨n2, hn2⟩ : ∃ n, n = intB y.num := ⟨_, rfl⟩
  obtain ⟨d2, hd2⟩ : ∃ n, n = numB y.den := ⟨_, rfl⟩
  obtain ⟨n3, hn3⟩ : ∃ n, n = intB (x.num * y.num) := ⟨_, rfl⟩
  obtain ⟨d3, hd3⟩ : ∃ n, n = intB ((x.den : Int) * (y.den : Int)) := ⟨_, rfl⟩
  obtain ⟨n4, hn4⟩ : ∃ n, n = intB Z.num := ⟨_, rfl⟩
  obtain ⟨d4, hd4⟩ : ∃ n, n = numB Z.den := ⟨_, rfl⟩
  rw [← hn1, ← hn2, ← hn3] at HM1
  rw [← hd1, ← hd2, ← hd3] at HM2
  rw [← hn3, ← hd3, ← hn4, ← hd4] at HL
  rw [← hn4, ← hd4] at HOF ⊢
  rw [← hn1, ← hd1, ← hn2, ← hd2] at HC ⊢
  rw [← hn1, ← hd1] at hW1
  rw [← hn2, ← hd2] at hW2
  rw [← hn1, ← hd1] at HB1 HBX HOF
  rw [← hn2, ← hd2] at HB2 HBY HOF
  clear hn1 hd1 hn2 hd2 hn3 hd3 hn4 hd4
  obtain ⟨c0, c1, c2, c3, c4, c5, c6, c7, -⟩ := HC.out W3 (Ext.refl _)
  go_enter Tryz.func48, Tryz.ntmps48
  go_wp2_with fail
  refine (HB1.out _).mono ?_
  rintro e w4 ⟨a, b, rfl, hab, hE4⟩
  have HAB := hab
  have HE4 := Lib.hid hE4
  obtain ⟨d0, d1', d2', d3, d4', d5, d6, d7, -⟩ := HC.out _ hE4
  clear hab hE4 HB1 c0 c1 c2 c3 c4 c5 c6 c7
  cases bx
  · clear HB2 HOF HAB d0 d1' d2' d3 d4' d5 d6 d7
    go_wp2_with fail
    have HX3 := Lib.hid (Ext.trans (Ext.trans HE.out HE4.out) (Ext.drew _))
    obtain ⟨y1, y2, y3, y4, -, -, -, -, yb⟩ := HC.out _ (Ext.trans HE4.out (Ext.drew _))
    have HB3 : Hid (BlkR W2.heap.size (w4).drew) := ⟨_, _, yb⟩
    clear yb
    go_region_held3 (fun w' => w'.cell? ⟨w.heap.size, 0, none⟩ = some (.string n1) ∧ w'.cell? ⟨w.heap.size, 1, none⟩ = some (.string d1) ∧ w'.cell? ⟨W1.heap.size, 0, none⟩ = some (.string n2) ∧ w'.cell? ⟨W1.heap.size, 1, none⟩ = some (.string d2) ∧ Hid (Ext w w') ∧ Hid (BlkR W2.heap.size w'))
      (first | exact ⟨z1, z2, z3, z4, z5, z6⟩ | exact ⟨cell_set2 HN1.out z1, cell_set2 HN1.out z2, cell_set2 HN2.out z3, cell_set2 HN2.out z4, Lib.hid (ext_set2 z5.out HR.out), Lib.hid z6.out.set2⟩ | exact ⟨y1, y2, y3, y4, HX3, HB3⟩ | go_keep)
      (first
        | (go_at_call 49; have hc := HM1.out _ (Hid.out (p := Ext w _) (by assumption)); with_reducible refine hc.mono ?_; clear hc; rintro e w6 ⟨rfl, hE6⟩; have q1 := hE6.cell (a := ⟨w.heap.size, 0, none⟩) (v := .string n1) (by assumption); have q2 := hE6.cell (a := ⟨w.heap.size, 1, none⟩) (v := .string d1) (by assumption); have q3 := hE6.cell (a := ⟨W1.heap.size, 0, none⟩) (v := .string n2) (by assumption); have q4 := hE6.cell (a := ⟨W1.heap.size, 1, none⟩) (v := .string d2) (by assumption); have q5 := Lib.hid (Ext.trans (Hid.out (p := Ext w _) (by assumption)) hE6); have q6 := Lib.hid (BlkR.ext (Hid.out (p := BlkR W2.heap.size _) (by assumption)) hE6); (try clear z1 z2 z3 z4 z5 z6 t0 t1 f0 f1); have z1 := q1; have z2 := q2; have z3 := q3; have z4 := q4; have z5 := q5; have z6 := q6; obtain ⟨r0, r1, t0, t1, f0, f1⟩ := z6.out.open; clear hE6 q1 q2 q3 q4 q5 q6)
        | (go_at_call 49; have hc := HM2.out _ (Hid.out (p := Ext w _) (by assumption)); with_reducible refine hc.mono ?_; clear hc; rintro e w6 ⟨rfl, hE6⟩; have q1 := hE6.cell (a := ⟨w.heap.size, 0, none⟩) (v := .string n1) (by assumption); have q2 := hE6.cell (a := ⟨w.heap.size, 1, none⟩) (v := .string d1) (by assumption); have q3 := hE6.cell (a := ⟨W1.heap.size, 0, none⟩) (v := .string n2) (by assumption); have q4 := hE6.cell (a := ⟨W1.heap.size, 1, none⟩) (v := .string d2) (by assumption); have q5 := Lib.hid (Ext.trans (Hid.out (p := Ext w _) (by assumption)) hE6); have q6 := Lib.hid (BlkR.ext (Hid.out (p := BlkR W2.heap.size _) (by assumption)) hE6); (try clear z1 z2 z3 z4 z5 z6 t0 t1 f0 f1); have z1 := q1; have z2 := q2; have z3 := q3; have z4 := q4; have z5 := q5; have z6 := q6; obtain ⟨r0, r1, t0, t1, f0, f1⟩ := z6.out.open; clear hE6 q1 q2 q3 q4 q5 q6)
        | (go_at_call 84; have hc := HL.out _ (Hid.out (p := Ext w _) (by assumption)); with_reducible refine hc.mono ?_; clear hc; rintro e w6 ⟨rfl, hE6⟩; have q1 := hE6.cell (a := ⟨w.heap.size, 0, none⟩) (v := .string n1) (by assumption); have q2 := hE6.cell (a := ⟨w.heap.size, 1, none⟩) (v := .string d1) (by assumption); have q3 := hE6.cell (a := ⟨W1.heap.size, 0, none⟩) (v := .string n2) (by assumption); have q4 := hE6.cell (a := ⟨W1.heap.size, 1, none⟩) (v := .string d2) (by assumption); have q5 := Lib.hid (Ext.trans (Hid.out (p := Ext w _) (by assumption)) hE6); have q6 := Lib.hid (BlkR.ext (Hid.out (p := BlkR W2.heap.size _) (by assumption)) hE6); (try clear z1 z2 z3 z4 z5 z6 t0 t1 f0 f1); have z1 := q1; have z2 := q2; have z3 := q3; have z4 := q4; have z5 := q5; have z6 := q6; obtain ⟨r0, r1, t0, t1, f0, f1⟩ := z6.out.open; clear hE6 q1 q2 q3 q4 q5 q6))
    all_goals
      have hb7 := BlkR.res (x := .string n4) (y := .string d4) z6.out
      go_wp2_with fail
      refine bodyPost_ret (results_cell_row (by rfl) _ _ W2.heap.size 81 #[.string n4, .string d4] (0, 0) _ (by rfl) hb7 Tryz.underlying81 (by rfl) (by kernel_rfl)) (by rfl) ⟨rfl, ?_⟩
      exact ext_set2 z5.out HR.out
  · go_wp2_with fail
    refine (HB2.out _).mono ?_
    rintro e w5 ⟨c, d, rfl, hcd, hE5⟩
    have HCD := hcd
    have HE5 := Lib.hid (Ext.trans HE4.out hE5)
    clear hcd hE5 HB2 d0 d1' d2' d3 d4' d5 d6 d7
    cases by'
    · clear HOF HAB HCD
      go_wp2_with fail
      have HX3 := Lib.hid (Ext.trans (Ext.trans HE.out HE5.out) (Ext.drew _))
      obtain ⟨y1, y2, y3, y4, -, -, -, -, yb⟩ := HC.out _ (Ext.trans HE5.out (Ext.drew _))
      have HB3 : Hid (BlkR W2.heap.size (w5).drew) := ⟨_, _, yb⟩
      clear yb
      go_region_held3 (fun w' => w'.cell? ⟨w.heap.size, 0, none⟩ = some (.string n1) ∧ w'.cell? ⟨w.heap.size, 1, none⟩ = some (.string d1) ∧ w'.cell? ⟨W1.heap.size, 0, none⟩ = some (.string n2) ∧ w'.cell? ⟨W1.heap.size, 1, none⟩ = some (.string d2) ∧ Hid (Ext w w') ∧ Hid (BlkR W2.heap.size w'))
        (first | exact ⟨z1, z2, z3, z4, z5, z6⟩ | exact ⟨cell_set2 HN1.out z1, cell_set2 HN1.out z2, cell_set2 HN2.out z3, cell_set2 HN2.out z4, Lib.hid (ext_set2 z5.out HR.out), Lib.hid z6.out.set2⟩ | exact ⟨y1, y2, y3, y4, HX3, HB3⟩ | go_keep)
        (first
          | (go_at_call 49; have hc := HM1.out _ (Hid.out (p := Ext w _) (by assumption)); with_reducible refine hc.mono ?_; clear hc; rintro e w6 ⟨rfl, hE6⟩; have q1 := hE6.cell (a := ⟨w.heap.size, 0, none⟩) (v := .string n1) (by assumption); have q2 := hE6.cell (a := ⟨w.heap.size, 1, none⟩) (v := .string d1) (by assumption); have q3 := hE6.cell (a := ⟨W1.heap.size, 0, none⟩) (v := .string n2) (by assumption); have q4 := hE6.cell (a := ⟨W1.heap.size, 1, none⟩) (v := .string d2) (by assumption); have q5 := Lib.hid (Ext.trans (Hid.out (p := Ext w _) (by assumption)) hE6); have q6 := Lib.hid (BlkR.ext (Hid.out (p := BlkR W2.heap.size _) (by assumption)) hE6); (try clear z1 z2 z3 z4 z5 z6 t0 t1 f0 f1); have z1 := q1; have z2 := q2; have z3 := q3; have z4 := q4; have z5 := q5; have z6 := q6; obtain ⟨r0, r1, t0, t1, f0, f1⟩ := z6.out.open; clear hE6 q1 q2 q3 q4 q5 q6)
          | (go_at_call 49; have hc := HM2.out _ (Hid.out (p := Ext w _) (by assumption)); with_reducible refine hc.mono ?_; clear hc; rintro e w6 ⟨rfl, hE6⟩; have q1 := hE6.cell (a := ⟨w.heap.size, 0, none⟩) (v := .string n1) (by assumption); have q2 := hE6.cell (a := ⟨w.heap.size, 1, none⟩) (v := .string d1) (by assumption); have q3 := hE6.cell (a := ⟨W1.heap.size, 0, none⟩) (v := .string n2) (by assumption); have q4 := hE6.cell (a := ⟨W1.heap.size, 1, none⟩) (v := .string d2) (by assumption); have q5 := Lib.hid (Ext.trans (Hid.out (p := Ext w _) (by assumption)) hE6); have q6 := Lib.hid (BlkR.ext (Hid.out (p := BlkR W2.heap.size _) (by assumption)) hE6); (try clear z1 z2 z3 z4 z5 z6 t0 t1 f0 f1); have z1 := q1; have z2 := q2; have z3 := q3; have z4 := q4; have z5 := q5; have z6 := q6; obtain ⟨r0, r1, t0, t1, f0, f1⟩ := z6.out.open; clear hE6 q1 q2 q3 q4 q5 q6)
          | (go_at_call 84; have hc := HL.out _ (Hid.out (p := Ext w _) (by assumption)); with_reducible refine hc.mono ?_; clear hc; rintro e w6 ⟨rfl, hE6⟩; have q1 := hE6.cell (a := ⟨w.heap.size, 0, none⟩) (v := .string n1) (by assumption); have q2 := hE6.cell (a := ⟨w.heap.size, 1, none⟩) (v := .string d1) (by assumption); have q3 := hE6.cell (a := ⟨W1.heap.size, 0, none⟩) (v := .string n2) (by assumption); have q4 := hE6.cell (a := ⟨W1.heap.size, 1, none⟩) (v := .string d2) (by assumption); have q5 := Lib.hid (Ext.trans (Hid.out (p := Ext w _) (by assumption)) hE6); have q6 := Lib.hid (BlkR.ext (Hid.out (p := BlkR W2.heap.size _) (by assumption)) hE6); (try clear z1 z2 z3 z4 z5 z6 t0 t1 f0 f1); have z1 := q1; have z2 := q2; have z3 := q3; have z4 := q4; have z5 := q5; have z6 := q6; obtain ⟨r0, r1, t0, t1, f0, f1⟩ := z6.out.open; clear hE6 q1 q2 q3 q4 q5 q6))
      all_goals
        have hb7 := BlkR.res (x := .string n4) (y := .string d4) z6.out
        go_wp2_with fail
        refine bodyPost_ret (results_cell_row (by rfl) _ _ W2.heap.size 81 #[.string n4, .string d4] (0, 0) _ (by rfl) hb7 Tryz.underlying81 (by rfl) (by kernel_rfl)) (by rfl) ⟨rfl, ?_⟩
        exact ext_set2 z5.out HR.out
    · obtain ⟨ha, hb⟩ := HAB.out (HBX.out (by first | rfl | trivial))
      obtain ⟨hc, hd⟩ := HCD.out (HBY.out (by first | rfl | trivial))
      obtain ⟨p, q, hp, hq, p1, p2, q1, q2, hof⟩ := HOF.out (HBX.out (by first | rfl | trivial)) (HBY.out (by first | rfl | trivial))
      have HO := Lib.hid hof
      have hp' : a * c = p := by rw [ha, hc]; exact hp
      have hq' : b * d = q := by rw [hb, hd]; exact hq
      clear ha hb hc hd hp hq hof HAB HCD HOF HM1 HM2 HL
      go_wp2_with fail
      refine (HO.out _ (HE.out.trans HE5.out)).mono ?_
      rintro e w6 ⟨rfl, hE6⟩
      have HE6 := Lib.hid (Ext.trans HE5.out hE6)
      obtain ⟨-, -, -, -, -, -, -, -, yb⟩ := HC.out _ HE6.out
      have z6 : Hid (BlkR W2.heap.size w6) := ⟨_, _, yb⟩
      obtain ⟨r0, r1, t0, t1, f0, f1⟩ := z6.out.open
      clear hE6 HO yb
      have hb7 := BlkR.res (x := .string n4) (y := .string d4) z6.out
      go_wp2_with fail
      refine bodyPost_ret (results_cell_row (by rfl) _ _ W2.heap.size 81 #[.string n4, .string d4] (0, 0) _ (by rfl) hb7 Tryz.underlying81 (by rfl) (by kernel_rfl)) (by rfl) ⟨rfl, ?_⟩
      exact ext_set2 (HE.out.trans HE6.out) HR.out
end Go.Proofs.YtpeinobepiodaaaGreatDoor
/- Contract of fraction.Div. -/
namespace Go.Proofs.YtpeinobepiodaaaGreatDoor
set_option linter.unusedVariables false
set_option linter.unusedSimpArgs false
open Go.RowKit

theorem results_cell_tmp {P : Program} {fn : Func} {p s : Tmp} {ty : TypeId} (h : fn.results = #[.cell p ty, .tmp s]) (tmps : Array Value) (w : World) (g : Nat) (t : TypeId) (cs : Array Value) (fr : Nat × Nat) (d : TypeDesc) (v : Value)
    (hp : tmps.getD p undef = .pointer (some ⟨g, 0, none⟩)) (hs : tmps.getD s undef = v) (hg : w.heap[g]? = some (.cells cs t fr))
    (hu : P.underlying ty = some d) (hd : (match d with | .struct _ | .array _ _ => true | _ => false) = true) (hi : (P.info? ty).map (·.size) = some cs.size) :
    (results fn tmps).run P w = .ok (.tuple #[.agg cs, v]) w := by
  have hp' : tmps[p]?.getD undef = .pointer (some ⟨g, 0, none⟩) := by simpa using hp
  have hs' : tmps[s]?.getD undef = v := by simpa using hs
  simp [results, h, hp', hs', asAddr, run_loadVar_row w g t ty cs fr d hg hu hd hi]

set_option maxRecDepth 100000 in
set_option maxHeartbeats 4000000 in
theorem ratDiv_any (x y : Rat) (w : World) (hx : RS 13000 x) (hy : RS 13000 y) (hy0 : y ≠ 0) (ht : Pow10 w) :
    Calls Tryz.prog 90 #[ratV x, ratV y] w fun e w' => e = .returned (.tuple #[ratV (x / y), .int .i64 0]) ∧ Ext w w' := by
  have HT := Lib.hid ht
  clear ht
  obtain ⟨W1, hW1, hE1, hs1, hb1⟩ := box2 w (.string (intB x.num)) (.string (numB x.den)) 81
  obtain ⟨W2, hW2, hE2, hs2, hb2⟩ := box2 W1 (.string (intB y.num)) (.string (numB y.den)) 81
  obtain ⟨W3, hW3, hE3, hs3, hb3⟩ := box2 W2 (.string ⟨#[]⟩) (.string ⟨#[]⟩) 81
  have hb1' := block_ext hb1 (hE2.trans hE3)
  have hb2' := block_ext hb2 hE3
  have HE := Lib.hid ((hE1.trans hE2).trans hE3)
  have HR : Hid (w.heap.size ≤ W2.heap.size) := by unfold Hid; omega
  have HN1 : Hid (w.heap.size ≠ W2.heap.size) := by unfold Hid; omega
  have HN2 : Hid (W1.heap.size ≠ W2.heap.size) := by unfold Hid; omega
  have HC : Hid (∀ W, Ext W3 W → W.cell? ⟨w.heap.size, 0, none⟩ = some (.string (intB x.num)) ∧ W.cell? ⟨w.heap.size, 1, none⟩ = some (.string (numB x.den)) ∧ W.cell? ⟨W1.heap.size, 0, none⟩ = some (.string (intB y.num)) ∧ W.cell? ⟨W1.heap.size, 1, none⟩ = some (.string (numB y.den)) ∧ W.cell? ⟨W2.heap.size, 0, none⟩ = some (.string ⟨#[]⟩) ∧ W.cell? ⟨W2.heap.size, 1, none⟩ = some (.string ⟨#[]⟩) ∧ W.frozen? ⟨W2.heap.size, 0, none⟩ = false ∧ W.frozen? ⟨W2.heap.size, 1, none⟩ = false ∧ W.heap[W2.heap.size]? = some (.cells #[.string ⟨#[]⟩, .string ⟨#[]⟩] 81 (0, 0))) := fun W hW => by
    obtain ⟨a0, a1, -⟩ := block2_cell (block_ext hb1' hW)
    obtain ⟨b0, b1, -⟩ := block2_cell (block_ext hb2' hW)
    obtain ⟨c0, c1, cf⟩ := block2_cell (block_ext hb3 hW)
    exact ⟨a0, a1, b0, b1, c0, c1, cf 0, cf 1, block_ext hb3 hW⟩
  have hSG := fun W => ratSign_any y W
  have hyn : y.num ≠ 0 := fun h => hy0 (Rat.num_eq_zero.1 h)
  have hsg : (y.num.sign == 0) = false := by rw [beq_eq_false_iff_ne]; exact fun h => hyn (Int.sign_eq_zero_iff_zero.1 h)
  have hM1 : ∀ W, Ext w W → Calls Tryz.prog 49 #[.string (intB x.num), .string (numB y.den)] W fun e w' => e = .returned (.string (intB (x.num * (y.den : Int)))) ∧ Ext W w' := fun W hW => by
    have := mulI_any x.num (y.den : Int) W (by have := hx.1; omega) (by rw [eb]; have := hy.2; omega) (HT.out.ext hW)
    rw [eb] at this
    exact this
  have hM2 : ∀ W, Ext w W → Calls Tryz.prog 49 #[.string (numB x.den), .string (intB y.num)] W fun e w' => e = .returned (.string (intB ((x.den : Int) * y.num))) ∧ Ext W w' := fun W hW => by
    have := mulI_any (x.den : Int) y.num W (by rw [eb]; have := hx.2; omega) (by have := hy.1; omega) (HT.out.ext hW)
    rw [eb] at this
    exact this
  have hL : ∀ W, Ext w W → Calls Tryz.prog 84 #[.string (intB (x.num * (y.den : Int))), .string (intB ((x.den : Int) * y.num))] W fun e w' => e = .returned (ratV (x / y)) ∧ Ext W w' := fun W hW => by
    rw [← rat_div_eq]
    have h1 := int_mul_size x.num (y.den : Int)
    have h2 := int_mul_size (x.den : Int) y.num
    rw [eb y.den] at h1
    rw [eb x.den] at h2
    have h3 := hx.1; have h4 := hx.2; have h5 := hy.1; have h6 := hy.2
    exact lowest_any _ _ W (Int.mul_ne_zero (by have := x.den_nz; omega) hyn) (by omega) (by omega) (HT.out.ext hW)
  have HM1 := Lib.hid hM1; have HM2 := Lib.hid hM2; have HL := Lib.hid hL; have HSG := Lib.hid hSG
  have heta : ∀ q : Rat, ratV q = .agg #[.string (intB q.num), .string (numB q.den)] := fun _ => rfl
  obtain ⟨Z, hZ⟩ : ∃ Z, Z = x / y := ⟨_, rfl⟩
  obtain ⟨sg, hsgg⟩ : ∃ sg, sg = y.num.sign := ⟨_, rfl⟩
  rw [← hZ] at HL ⊢
  rw [← hsgg] at HSG hsg
  rw [heta x]
  rw [heta y] at HSG ⊢
  rw [heta Z] at HL ⊢
  clear hE1 hE2 hE3 hs1 hs2 hs3 hb1 hb2 hb3 hb1' hb2' hM1 hM2 hL hSG heta hx hy hy0 hyn hsgg
  obtain ⟨n1, hn1⟩ : ∃ n, n = intB x.num := ⟨_, rfl⟩
  obtain ⟨d1, hd1⟩ : ∃ n, n = numB x.den := ⟨_, rfl⟩
  obtain ⟨n2, hn2⟩ : ∃ n, n = intB y.num := ⟨_, rfl⟩
  obtain ⟨d2, hd2⟩ : ∃ n, n = numB y.den := ⟨_, rfl⟩
  obtain ⟨n4, hn4⟩ : ∃ n, n = intB Z.num := ⟨_, rfl⟩
  obtain ⟨d4, hd4⟩ : ∃ n, n = numB Z.den := ⟨_, rfl⟩
  obtain ⟨n3, hn3⟩ : ∃ n, n = intB (x.num * (y.den : Int)) := ⟨_, rfl⟩
  obtain ⟨d3, hd3⟩ : ∃ n, n = intB ((x.den : Int) * y.num) := ⟨_, rfl⟩
  rw [← hn1, ← hd2, ← hn3] at HM1
  rw [← hd1, ← hn2, ← hd3] at HM2
  rw [← hn3, ← hd3, ← hn4, ← hd4] at HL
  rw [← hn4, ← hd4]
  rw [← hn1, ← hd1, ← hn2, ← hd2] at HC ⊢
  rw [← hn1, ← hd1] at hW1
  rw [← hn2, ← hd2] at hW2 HSG
  clear hn1 hd1 hn2 hd2 hn3 hd3 hn4 hd4 hZ
  obtain ⟨c0, c1, c2, c3, c4, c5, c6, c7, -⟩ := HC.out W3 (Ext.refl _)
  go_enter Tryz.func90, Tryz.ntmps90
  go_wp2_with fail
  refine (HSG.out _).mono ?_
  rintro e w4 ⟨rfl, hE4⟩
  have HE4 := Lib.hid hE4
  clear hE4 HSG c0 c1 c2 c3 c4 c5 c6 c7
  go_wp2_with fail
  have HX3 := Lib.hid (Ext.trans (Ext.trans HE.out HE4.out) (Ext.drew _))
  obtain ⟨y1, y2, y3, y4, -, -, -, -, yb⟩ := HC.out _ (Ext.trans HE4.out (Ext.drew _))
  have HB3 : Hid (BlkR W2.heap.size (w4).drew) := ⟨_, _, yb⟩
  clear yb
  go_region_held3 (fun w' => w'.cell? ⟨w.heap.size, 0, none⟩ = some (.string n1) ∧ w'.cell? ⟨w.heap.size, 1, none⟩ = some (.string d1) ∧ w'.cell? ⟨W1.heap.size, 0, none⟩ = some (.string n2) ∧ w'.cell? ⟨W1.heap.size, 1, none⟩ = some (.string d2) ∧ Hid (Ext w w') ∧ Hid (BlkR W2.heap.size w'))
    (first | exact ⟨z1, z2, z3, z4, z5, z6⟩ | exact ⟨cell_set2 HN1.out z1, cell_set2 HN1.out z2, cell_set2 HN2.out z3, cell_set2 HN2.out z4, Lib.hid (ext_set2 z5.out HR.out), Lib.hid z6.out.set2⟩ | exact ⟨y1, y2, y3, y4, HX3, HB3⟩ | go_keep)
    (first
      | (go_at_call 49; have hc := HM1.out _ (Hid.out (p := Ext w _) (by assumption)); with_reducible refine hc.mono ?_; clear hc; rintro e w6 ⟨rfl, hE6⟩; have q1 := hE6.cell (a := ⟨w.heap.size, 0, none⟩) (v := .string n1) (by assumption); have q2 := hE6.cell (a := ⟨w.heap.size, 1, none⟩) (v := .string d1) (by assumption); have q3 := hE6.cell (a := ⟨W1.heap.size, 0, none⟩) (v := .string n2) (by assumption); have q4 := hE6.cell (a := ⟨W1.heap.size, 1, none⟩) (v := .string d2) (by assumption); have q5 := Lib.hid (Ext.trans (Hid.out (p := Ext w _) (by assumption)) hE6); have q6 := Lib.hid (BlkR.ext (Hid.out (p := BlkR W2.heap.size _) (by assumption)) hE6); (try clear z1 z2 z3 z4 z5 z6 t0 t1 f0 f1); have z1 := q1; have z2 := q2; have z3 := q3; have z4 := q4; have z5 := q5; have z6 := q6; obtain ⟨r0, r1, t0, t1, f0, f1⟩ := z6.out.open; clear hE6 q1 q2 q3 q4 q5 q6)
      | (go_at_call 49; have hc := HM2.out _ (Hid.out (p := Ext w _) (by assumption)); with_reducible refine hc.mono ?_; clear hc; rintro e w6 ⟨rfl, hE6⟩; have q1 := hE6.cell (a := ⟨w.heap.size, 0, none⟩) (v := .string n1) (by assumption); have q2 := hE6.cell (a := ⟨w.heap.size, 1, none⟩) (v := .string d1) (by assumption); have q3 := hE6.cell (a := ⟨W1.heap.size, 0, none⟩) (v := .string n2) (by assumption); have q4 := hE6.cell (a := ⟨W1.heap.size, 1, none⟩) (v := .string d2) (by assumption); have q5 := Lib.hid (Ext.trans (Hid.out (p := Ext w _) (by assumption)) hE6); have q6 := Lib.hid (BlkR.ext (Hid.out (p := BlkR W2.heap.size _) (by assumption)) hE6); (try clear z1 z2 z3 z4 z5 z6 t0 t1 f0 f1); have z1 := q1; have z2 := q2; have z3 := q3; have z4 := q4; have z5 := q5; have z6 := q6; obtain ⟨r0, r1, t0, t1, f0, f1⟩ := z6.out.open; clear hE6 q1 q2 q3 q4 q5 q6)
      | (go_at_call 84; have hc := HL.out _ (Hid.out (p := Ext w _) (by assumption)); with_reducible refine hc.mono ?_; clear hc; rintro e w6 ⟨rfl, hE6⟩; have q1 := hE6.cell (a := ⟨w.heap.size, 0, none⟩) (v := .string n1) (by assumption); have q2 := hE6.cell (a := ⟨w.heap.size, 1, none⟩) (v := .string d1) (by assumption); have q3 := hE6.cell (a := ⟨W1.heap.size, 0, none⟩) (v := .string n2) (by assumption); have q4 := hE6.cell (a := ⟨W1.heap.size, 1, none⟩) (v := .string d2) (by assumption); have q5 := Lib.hid (Ext.trans (Hid.out (p := Ext w _) (by assumption)) hE6); have q6 := Lib.hid (BlkR.ext (Hid.out (p := BlkR W2.heap.size _) (by assumption)) hE6); (try clear z1 z2 z3 z4 z5 z6 t0 t1 f0 f1); have z1 := q1; have z2 := q2; have z3 := q3; have z4 := q4; have z5 := q5; have z6 := q6; obtain ⟨r0, r1, t0, t1, f0, f1⟩ := z6.out.open; clear hE6 q1 q2 q3 q4 q5 q6))
  all_goals
    have hb7 := BlkR.res (x := .string n4) (y := .string d4) z6.out
    go_wp2_with fail
    refine bodyPost_ret (results_cell_tmp (by rfl) _ _ W2.heap.size 81 #[.string n4, .string d4] (0, 0) _ (.int .i64 0) (by rfl) (by rfl) hb7 Tryz.underlying81 (by rfl) (by kernel_rfl)) (by rfl) ⟨rfl, ?_⟩
    exact ext_set2 z5.out HR.out
end Go.Proofs.YtpeinobepiodaaaGreatDoor
/- Contracts of fraction.Add, Sub. -/
namespace Go.Proofs.YtpeinobepiodaaaGreatDoor
set_option linter.unusedVariables false
set_option linter.unusedSimpArgs false
open Go.RowKit

theorem rat_add_eq (x y : Rat) : Rat.divInt (x.num * (y.den : Int) + y.num * (x.den : Int)) ((x.den : Int) * (y.den : Int)) = x + y := by
  rw [Rat.add_def', ← Int.natCast_mul]; rfl
theorem rat_add_one (x y : Rat) (hx : x.den = 1) (hy : y.den = 1) : (x + y).num = x.num + y.num ∧ (x + y).den = 1 := by
  rw [Rat.add_def', hx, hy]
  obtain ⟨h1, h2⟩ := mkRat_parts (x.num * ((1 : Nat) : Int) + y.num * ((1 : Nat) : Int)) (1 * 1) (by omega)
  rw [h1, h2]
  simp

set_option maxRecDepth 100000 in
set_option maxHeartbeats 8000000 in
theorem ratAdd_any (x y : Rat) (w : World) (hx : RS 12000 x) (hy : RS 12000 y) (ht : Pow10 w) :
    Calls Tryz.prog 47 #[ratV x, ratV y] w fun e w' => e = .returned (ratV (x + y)) ∧ Ext w w' := by
  have HT := Lib.hid ht
  clear ht
  obtain ⟨W1, hW1, hE1, hs1, hb1⟩ := box2 w (.string (intB x.num)) (.string (numB x.den)) 81
  obtain ⟨W2, hW2, hE2, hs2, hb2⟩ := box2 W1 (.string (intB y.num)) (.string (numB y.den)) 81
  obtain ⟨W3, hW3, hE3, hs3, hb3⟩ := box2 W2 (.string ⟨#[]⟩) (.string ⟨#[]⟩) 81
  have hb1' := block_ext hb1 (hE2.trans hE3)
  have hb2' := block_ext hb2 hE3
  have HE := Lib.hid ((hE1.trans hE2).trans hE3)
  have HR : Hid (w.heap.size ≤ W2.heap.size) := by unfold Hid; omega
  have HN1 : Hid (w.heap.size ≠ W2.heap.size) := by unfold Hid; omega
  have HN2 : Hid (W1.heap.size ≠ W2.heap.size) := by unfold Hid; omega
  have HC : Hid (∀ W, Ext W3 W → W.cell? ⟨w.heap.size, 0, none⟩ = some (.string (intB x.num)) ∧ W.cell? ⟨w.heap.size, 1, none⟩ = some (.string (numB x.den)) ∧ W.cell? ⟨W1.heap.size, 0, none⟩ = some (.string (intB y.num)) ∧ W.cell? ⟨W1.heap.size, 1, none⟩ = some (.string (numB y.den)) ∧ W.cell? ⟨W2.heap.size, 0, none⟩ = some (.string ⟨#[]⟩) ∧ W.cell? ⟨W2.heap.size, 1, none⟩ = some (.string ⟨#[]⟩) ∧ W.frozen? ⟨W2.heap.size, 0, none⟩ = false ∧ W.frozen? ⟨W2.heap.size, 1, none⟩ = false ∧ W.heap[W2.heap.size]? = some (.cells #[.string ⟨#[]⟩, .string ⟨#[]⟩] 81 (0, 0))) := fun W hW => by
    obtain ⟨a0, a1, -⟩ := block2_cell (block_ext hb1' hW)
    obtain ⟨b0, b1, -⟩ := block2_cell (block_ext hb2' hW)
    obtain ⟨c0, c1, cf⟩ := block2_cell (block_ext hb3 hW)
    exact ⟨a0, a1, b0, b1, c0, c1, cf 0, cf 1, block_ext hb3 hW⟩
  have HB1 : Hid (∀ W, Calls Tryz.prog 82 #[ratV x] W fun e w' => ∃ a b, e = .returned (.tuple #[.int .i64 a, .int .i64 b, .bool (decide ((intB x.num).size ≤ 9) && decide ((numB x.den).size ≤ 9))]) ∧ Hid ((intB x.num).size ≤ 9 ∧ (numB x.den).size ≤ 9 → a = x.num ∧ b = x.den) ∧ Ext W w') := fun W => fboth_any x W
  have HB2 : Hid (∀ W, Calls Tryz.prog 82 #[ratV y] W fun e w' => ∃ a b, e = .returned (.tuple #[.int .i64 a, .int .i64 b, .bool (decide ((intB y.num).size ≤ 9) && decide ((numB y.den).size ≤ 9))]) ∧ Hid ((intB y.num).size ≤ 9 ∧ (numB y.den).size ≤ 9 → a = y.num ∧ b = y.den) ∧ Ext W w') := fun W => fboth_any y W
  obtain ⟨bx, hbx⟩ : ∃ b, b = (decide ((intB x.num).size ≤ 9) && decide ((numB x.den).size ≤ 9)) := ⟨_, rfl⟩
  obtain ⟨by', hby⟩ : ∃ b, b = (decide ((intB y.num).size ≤ 9) && decide ((numB y.den).size ≤ 9)) := ⟨_, rfl⟩
  rw [← hbx] at HB1
  rw [← hby] at HB2
  have HBX : Hid (bx = true → (intB x.num).size ≤ 9 ∧ (numB x.den).size ≤ 9) := by
    intro h; rw [hbx, Bool.and_eq_true, decide_eq_true_iff, decide_eq_true_iff] at h; exact h
  have HBY : Hid (by' = true → (intB y.num).size ≤ 9 ∧ (numB y.den).size ≤ 9) := by
    intro h; rw [hby, Bool.and_eq_true, decide_eq_true_iff, decide_eq_true_iff] at h; exact h
  have h3 := hx.1; have h4 := hx.2; have h5 := hy.1; have h6 := hy.2
  have hM1 : ∀ W, Ext w W → Calls Tryz.prog 49 #[.string (intB x.num), .string (numB y.den)] W fun e w' => e = .returned (.string (intB (x.num * (y.den : Int)))) ∧ Ext W w' := fun W hW => by
    have := mulI_any x.num (y.den : Int) W (by omega) (by rw [eb]; omega) (HT.out.ext hW)
    rw [eb] at this
    exact this
  have hM2 : ∀ W, Ext w W → Calls Tryz.prog 49 #[.string (intB y.num), .string (numB x.den)] W fun e w' => e = .returned (.string (intB (y.num * (x.den : Int)))) ∧ Ext W w' := fun W hW => by
    have := mulI_any y.num (x.den : Int) W (by omega) (by rw [eb]; omega) (HT.out.ext hW)
    rw [eb] at this
    exact this
  have hM3 : ∀ W, Ext w W → Calls Tryz.prog 49 #[.string (numB x.den), .string (numB y.den)] W fun e w' => e = .returned (.string (intB ((x.den : Int) * (y.den : Int)))) ∧ Ext W w' := fun W hW => by
    have := mulI_any (x.den : Int) (y.den : Int) W (by rw [eb]; omega) (by rw [eb]; omega) (HT.out.ext hW)
    rw [eb, eb] at this
    exact this
  have s1 := int_mul_size x.num (y.den : Int)
  have s2 := int_mul_size y.num (x.den : Int)
  have s3 := int_mul_size (x.den : Int) (y.den : Int)
  rw [eb y.den] at s1
  rw [eb x.den] at s2
  rw [eb x.den, eb y.den] at s3
  have s4 := int_add_size (x.num * (y.den : Int)) (y.num * (x.den : Int))
  have hA : ∀ W, Ext w W → Calls Tryz.prog 81 #[.string (intB (x.num * (y.den : Int))), .string (intB (y.num * (x.den : Int)))] W fun e w' => e = .returned (.string (intB (x.num * (y.den : Int) + y.num * (x.den : Int)))) ∧ Ext W w' := fun W hW => addI_any _ _ W (by omega) (by omega) (HT.out.ext hW)
  have hL : ∀ W, Ext w W → Calls Tryz.prog 84 #[.string (intB (x.num * (y.den : Int) + y.num * (x.den : Int))), .string (intB ((x.den : Int) * (y.den : Int)))] W fun e w' => e = .returned (ratV (x + y)) ∧ Ext W w' := fun W hW => by
    rw [← rat_add_eq]
    exact lowest_any _ _ W (by rw [← Int.natCast_mul]; have := Nat.mul_ne_zero x.den_nz y.den_nz; omega) (by omega) (by omega) (HT.out.ext hW)
  have hS : ∀ W, Ext w W → Calls Tryz.prog 81 #[.string (intB x.num), .string (intB y.num)] W fun e w' => e = .returned (.string (intB (x.num + y.num))) ∧ Ext W w' := fun W hW => addI_any _ _ W (by omega) (by omega) (HT.out.ext hW)
  have HM1 := Lib.hid hM1; have HM2 := Lib.hid hM2; have HM3 := Lib.hid hM3; have HA := Lib.hid hA; have HL := Lib.hid hL; have HS := Lib.hid hS
  have HOF : Hid ((intB x.num).size ≤ 9 ∧ (numB x.den).size ≤ 9 → (intB y.num).size ≤ 9 ∧ (numB y.den).size ≤ 9 → ∃ (p1 p2 q : Int), x.num * (y.den : Int) = p1 ∧ y.num * (x.den : Int) = p2 ∧ (x.den : Int) * (y.den : Int) = q ∧ -1000000000000000000 ≤ p1 ∧ p1 ≤ 1000000000000000000 ∧ -1000000000000000000 ≤ p2 ∧ p2 ≤ 1000000000000000000 ∧ -1000000000000000000 ≤ q ∧ q ≤ 1000000000000000000 ∧ ∀ W, Ext w W → Calls Tryz.prog 83 #[.int .i64 (p1 + p2), .int .i64 q] W fun e w' => e = .returned (ratV (x + y)) ∧ Ext W w') := by
    intro h1 h2
    have a1 := int9 h1.1
    have a2 := int9 (n := (x.den : Int)) (by rw [eb]; exact h1.2)
    have a3 := int9 h2.1
    have a4 := int9 (n := (y.den : Int)) (by rw [eb]; exact h2.2)
    have m1 := mul_bd a1.1 a1.2 a4.1 a4.2 (by omega) (by omega)
    have m2 := mul_bd a3.1 a3.2 a2.1 a2.2 (by omega) (by omega)
    have m3 := mul_bd a2.1 a2.2 a4.1 a4.2 (by omega) (by omega)
    refine ⟨_, _, _, rfl, rfl, rfl, by omega, by omega, by omega, by omega, by omega, by omega, fun W hW => ?_⟩
    have hdp : 0 < x.den * y.den := Nat.mul_pos x.den_pos y.den_pos
    rw [← Int.natCast_mul] at m3 ⊢
    have := fof_any (x.num * (y.den : Int) + y.num * (x.den : Int)) (x.den * y.den) W (by omega) (by omega) hdp (by omega) (HT.out.ext hW)
    rw [Rat.add_def']
    exact this
  have ho1 := num_one x.den
  have ho2 := num_one y.den
  have HONE : Hid (x.den = 1 → y.den = 1 → intB (x.num + y.num) = intB (x + y).num ∧ numB (x + y).den = ⟨#[49]⟩) := fun h1 h2 => by
    obtain ⟨e1, e2⟩ := rat_add_one x y h1 h2
    rw [e1, e2]
    exact ⟨rfl, by unfold numB; rw [Lib.decDigits_one (by omega)]; rfl⟩
  have heta : ∀ q : Rat, ratV q = .agg #[.string (intB q.num), .string (numB q.den)] := fun _ => rfl
  obtain ⟨o1, ho1'⟩ : ∃ o, o = decide (x.den = 1) := ⟨_, rfl⟩
  obtain ⟨o2, ho2'⟩ : ∃ o, o = decide (y.den = 1) := ⟨_, rfl⟩
  rw [← ho1'] at ho1
  rw [← ho2'] at ho2
  have HONE2 : Hid (o1 = true → o2 = true → x.den = 1 ∧ y.den = 1) := fun h1 h2 => ⟨of_decide_eq_true (ho1' ▸ h1), of_decide_eq_true (ho2' ▸ h2)⟩
  obtain ⟨Z, hZ⟩ : ∃ Z, Z = x + y := ⟨_, rfl⟩
  rw [← hZ] at HL HOF HONE ⊢
  rw [heta x] at HB1 ⊢
  rw [heta y] at HB2 ⊢
  rw [heta Z] at HL HOF ⊢
  clear hE1 hE2 hE3 hs1 hs2 hs3 hb1 hb2 hb3 hb1' hb2' hbx hby hM1 hM2 hM3 hA hL hS heta hx hy h3 h4 h5 h6 s1 s2 s3 s4 ho1' ho2' hZ
  obtain ⟨n1, hn1⟩ : ∃ n, n = intB x.num := ⟨_, rfl⟩
  obtain ⟨d1, hd1⟩ : ∃ n, n = numB x.den := ⟨_, rfl⟩
  obtain ⟨n2, hn2⟩ : ∃ n, n = intB y.num := ⟨_, rfl⟩
  obtain ⟨d2, hd2⟩ : ∃ n, n = numB y.den := ⟨_, rfl⟩
  obtain ⟨n4, hn4⟩ : ∃ n, n = intB Z.num := ⟨_, rfl⟩
  obtain ⟨d4, hd4⟩ : ∃ n, n = numB Z.den := ⟨_, rfl⟩
  obtain ⟨m1, hm1⟩ : ∃ n, n = intB (x.num * (y.den : Int)) := ⟨_, rfl⟩
  obtain ⟨m2, hm2⟩ : ∃ n, n = intB (y.num * (x.den : Int)) := ⟨_, rfl⟩
  obtain ⟨m3, hm3⟩ : ∃ n, n = intB ((x.den : Int) * (y.den : Int)) := ⟨_, rfl⟩
  obtain ⟨m4, hm4⟩ : ∃ n, n = intB (x.num * (y.den : Int) + y.num * (x.den : Int)) := ⟨_, rfl⟩
  obtain ⟨m5, hm5⟩ : ∃ n, n = intB (x.num + y.num) := ⟨_, rfl⟩
  rw [← hn1, ← hd2, ← hm1] at HM1
  rw [← hn2, ← hd1, ← hm2] at HM2
  rw [← hd1, ← hd2, ← hm3] at HM3
  rw [← hm1, ← hm2, ← hm4] at HA
  rw [← hm4, ← hm3, ← hn4, ← hd4] at HL
  rw [← hn1, ← hn2, ← hm5] at HS
  rw [← hm5, ← hn4, ← hd4] at HONE
  rw [← hn4, ← hd4] at HOF ⊢
  rw [← hn1, ← hd1, ← hn2, ← hd2] at HC ⊢
  rw [← hn1, ← hd1] at hW1 HB1 HBX HOF
  rw [← hn2, ← hd2] at hW2 HB2 HBY HOF
  rw [← hd1] at ho1
  rw [← hd2] at ho2
  clear hn1 hd1 hn2 hd2 hn4 hd4 hm1 hm2 hm3 hm4 hm5
  obtain ⟨c0, c1, c2, c3, c4, c5, c6, c7, cb⟩ := HC.out W3 (Ext.refl _)
  by_cases hone : o1 = true ∧ o2 = true
  · obtain ⟨h1, h2⟩ := hone
    obtain ⟨k1, k2⟩ := HONE2.out h1 h2
    obtain ⟨e5, e4⟩ := HONE.out k1 k2
    rw [h1] at ho1
    rw [h2] at ho2
    rw [e5] at HS
    rw [e4]
    have hBL : BlkR W2.heap.size W3 := ⟨_, _, cb⟩
    have HBL := Lib.hid hBL
    clear h1 h2 k1 k2 e5 e4 cb hBL HM1 HM2 HM3 HA HL HOF HB1 HB2 HBX HBY HONE HONE2
    go_enter Tryz.func47, Tryz.ntmps47
    go_wp2_with fail
    refine (HS.out _ HE.out).mono ?_
    rintro e w6 ⟨rfl, hE6⟩
    have HE6 := Lib.hid (Ext.trans HE.out hE6)
    have z6 := Lib.hid (HBL.out.ext hE6)
    obtain ⟨r0, r1, t0, t1, f0, f1⟩ := z6.out.open
    clear hE6 HS c0 c1 c2 c3 c4 c5 c6 c7
    have hb7 := BlkR.res (x := .string n4) (y := .string ⟨#[49]⟩) z6.out
    go_wp2_with fail
    refine bodyPost_ret (results_cell_row (by rfl) _ _ W2.heap.size 81 #[.string n4, .string ⟨#[49]⟩] (0, 0) _ (by rfl) hb7 Tryz.underlying81 (by rfl) (by kernel_rfl)) (by rfl) ⟨rfl, ?_⟩
    exact ext_set2 HE6.out HR.out
  · have hone' : o1 = false ∨ (o1 = true ∧ o2 = false) := by
      cases o1
      · exact .inl rfl
      · cases o2
        · exact .inr ⟨rfl, rfl⟩
        · exact absurd ⟨rfl, rfl⟩ hone
    clear hone HONE HONE2 HS cb
    rcases hone' with h1 | ⟨h1, h2⟩
    case' inl =>
      rw [h1] at ho1
      clear h1 ho2
    case' inr =>
      rw [h1] at ho1
      rw [h2] at ho2
      clear h1 h2
    all_goals
      go_enter Tryz.func47, Tryz.ntmps47
      go_wp2_with fail
      refine (HB1.out _).mono ?_
      rintro e w4 ⟨a, b, rfl, hab, hE4⟩
      have HAB := hab
      have HE4 := Lib.hid hE4
      obtain ⟨u0, u1, u2, u3, u4, u5, u6, u7, -⟩ := HC.out _ hE4
      clear hab hE4 HB1 c0 c1 c2 c3 c4 c5 c6 c7
      cases bx
      · clear HB2 HOF HAB u0 u1 u2 u3 u4 u5 u6 u7
        go_wp2_with fail
        have HX3 := Lib.hid (Ext.trans (Ext.trans HE.out HE4.out) (Ext.drew _))
        obtain ⟨y1, y2, y3, y4, -, -, -, -, yb⟩ := HC.out _ (Ext.trans HE4.out (Ext.drew _))
        have HB3 : Hid (BlkR W2.heap.size (w4).drew) := ⟨_, _, yb⟩
        clear yb
        go_region_held3 (fun w' => w'.cell? ⟨w.heap.size, 0, none⟩ = some (.string n1) ∧ w'.cell? ⟨w.heap.size, 1, none⟩ = some (.string d1) ∧ w'.cell? ⟨W1.heap.size, 0, none⟩ = some (.string n2) ∧ w'.cell? ⟨W1.heap.size, 1, none⟩ = some (.string d2) ∧ Hid (Ext w w') ∧ Hid (BlkR W2.heap.size w'))
          (first | exact ⟨z1, z2, z3, z4, z5, z6⟩ | exact ⟨cell_set2 HN1.out z1, cell_set2 HN1.out z2, cell_set2 HN2.out z3, cell_set2 HN2.out z4, Lib.hid (ext_set2 z5.out HR.out), Lib.hid z6.out.set2⟩ | exact ⟨y1, y2, y3, y4, HX3, HB3⟩ | go_keep)
          (first
            | (go_at_call 49; have hc := HM1.out _ (Hid.out (p := Ext w _) (by assumption)); with_reducible refine hc.mono ?_; clear hc; rintro e w6 ⟨rfl, hE6⟩; have q1 := hE6.cell (a := ⟨w.heap.size, 0, none⟩) (v := .string n1) (by assumption); have q2 := hE6.cell (a := ⟨w.heap.size, 1, none⟩) (v := .string d1) (by assumption); have q3 := hE6.cell (a := ⟨W1.heap.size, 0, none⟩) (v := .string n2) (by assumption); have q4 := hE6.cell (a := ⟨W1.heap.size, 1, none⟩) (v := .string d2) (by assumption); have q5 := Lib.hid (Ext.trans (Hid.out (p := Ext w _) (by assumption)) hE6); have q6 := Lib.hid (BlkR.ext (Hid.out (p := BlkR W2.heap.size _) (by assumption)) hE6); (try clear z1 z2 z3 z4 z5 z6 t0 t1 f0 f1); have z1 := q1; have z2 := q2; have z3 := q3; have z4 := q4; have z5 := q5; have z6 := q6; obtain ⟨r0, r1, t0, t1, f0, f1⟩ := z6.out.open; clear hE6 q1 q2 q3 q4 q5 q6)
            | (go_at_call 49; have hc := HM2.out _ (Hid.out (p := Ext w _) (by assumption)); with_reducible refine hc.mono ?_; clear hc; rintro e w6 ⟨rfl, hE6⟩; have q1 := hE6.cell (a := ⟨w.heap.size, 0, none⟩) (v := .string n1) (by assumption); have q2 := hE6.cell (a := ⟨w.heap.size, 1, none⟩) (v := .string d1) (by assumption); have q3 := hE6.cell (a := ⟨W1.heap.size, 0, none⟩) (v := .string n2) (by assumption); have q4 := hE6.cell (a := ⟨W1.heap.size, 1, none⟩) (v := .string d2) (by assumption); have q5 := Lib.hid (Ext.trans (Hid.out (p := Ext w _) (by assumption)) hE6); have q6 := Lib.hid (BlkR.ext (Hid.out (p := BlkR W2.heap.size _) (by assumption)) hE6); (try clear z1 z2 z3 z4 z5 z6 t0 t1 f0 f1); have z1 := q1; have z2 := q2; have z3 := q3; have z4 := q4; have z5 := q5; have z6 := q6; obtain ⟨r0, r1, t0, t1, f0, f1⟩ := z6.out.open; clear hE6 q1 q2 q3 q4 q5 q6)
            | (go_at_call 49; have hc := HM3.out _ (Hid.out (p := Ext w _) (by assumption)); with_reducible refine hc.mono ?_; clear hc; rintro e w6 ⟨rfl, hE6⟩; have q1 := hE6.cell (a := ⟨w.heap.size, 0, none⟩) (v := .string n1) (by assumption); have q2 := hE6.cell (a := ⟨w.heap.size, 1, none⟩) (v := .string d1) (by assumption); have q3 := hE6.cell (a := ⟨W1.heap.size, 0, none⟩) (v := .string n2) (by assumption); have q4 := hE6.cell (a := ⟨W1.heap.size, 1, none⟩) (v := .string d2) (by assumption); have q5 := Lib.hid (Ext.trans (Hid.out (p := Ext w _) (by assumption)) hE6); have q6 := Lib.hid (BlkR.ext (Hid.out (p := BlkR W2.heap.size _) (by assumption)) hE6); (try clear z1 z2 z3 z4 z5 z6 t0 t1 f0 f1); have z1 := q1; have z2 := q2; have z3 := q3; have z4 := q4; have z5 := q5; have z6 := q6; obtain ⟨r0, r1, t0, t1, f0, f1⟩ := z6.out.open; clear hE6 q1 q2 q3 q4 q5 q6)
            | (go_at_call 81; have hc := HA.out _ (Hid.out (p := Ext w _) (by assumption)); with_reducible refine hc.mono ?_; clear hc; rintro e w6 ⟨rfl, hE6⟩; have q1 := hE6.cell (a := ⟨w.heap.size, 0, none⟩) (v := .string n1) (by assumption); have q2 := hE6.cell (a := ⟨w.heap.size, 1, none⟩) (v := .string d1) (by assumption); have q3 := hE6.cell (a := ⟨W1.heap.size, 0, none⟩) (v := .string n2) (by assumption); have q4 := hE6.cell (a := ⟨W1.heap.size, 1, none⟩) (v := .string d2) (by assumption); have q5 := Lib.hid (Ext.trans (Hid.out (p := Ext w _) (by assumption)) hE6); have q6 := Lib.hid (BlkR.ext (Hid.out (p := BlkR W2.heap.size _) (by assumption)) hE6); (try clear z1 z2 z3 z4 z5 z6 t0 t1 f0 f1); have z1 := q1; have z2 := q2; have z3 := q3; have z4 := q4; have z5 := q5; have z6 := q6; obtain ⟨r0, r1, t0, t1, f0, f1⟩ := z6.out.open; clear hE6 q1 q2 q3 q4 q5 q6)
            | (go_at_call 84; have hc := HL.out _ (Hid.out (p := Ext w _) (by assumption)); with_reducible refine hc.mono ?_; clear hc; rintro e w6 ⟨rfl, hE6⟩; have q1 := hE6.cell (a := ⟨w.heap.size, 0, none⟩) (v := .string n1) (by assumption); have q2 := hE6.cell (a := ⟨w.heap.size, 1, none⟩) (v := .string d1) (by assumption); have q3 := hE6.cell (a := ⟨W1.heap.size, 0, none⟩) (v := .string n2) (by assumption); have q4 := hE6.cell (a := ⟨W1.heap.size, 1, none⟩) (v := .string d2) (by assumption); have q5 := Lib.hid (Ext.trans (Hid.out (p := Ext w _) (by assumption)) hE6); have q6 := Lib.hid (BlkR.ext (Hid.out (p := BlkR W2.heap.size _) (by assumption)) hE6); (try clear z1 z2 z3 z4 z5 z6 t0 t1 f0 f1); have z1 := q1; have z2 := q2; have z3 := q3; have z4 := q4; have z5 := q5; have z6 := q6; obtain ⟨r0, r1, t0, t1, f0, f1⟩ := z6.out.open; clear hE6 q1 q2 q3 q4 q5 q6))
        all_goals
          have hb7 := BlkR.res (x := .string n4) (y := .string d4) z6.out
          go_wp2_with fail
          refine bodyPost_ret (results_cell_row (by rfl) _ _ W2.heap.size 81 #[.string n4, .string d4] (0, 0) _ (by rfl) hb7 Tryz.underlying81 (by rfl) (by kernel_rfl)) (by rfl) ⟨rfl, ?_⟩
          exact ext_set2 z5.out HR.out
      · go_wp2_with fail
        refine (HB2.out _).mono ?_
        rintro e w5 ⟨c, d, rfl, hcd, hE5⟩
        have HCD := hcd
        have HE5 := Lib.hid (Ext.trans HE4.out hE5)
        clear hcd hE5 HB2 u0 u1 u2 u3 u4 u5 u6 u7
        cases by'
        · clear HOF HAB HCD
          go_wp2_with fail
          have HX3 := Lib.hid (Ext.trans (Ext.trans HE.out HE5.out) (Ext.drew _))
          obtain ⟨y1, y2, y3, y4, -, -, -, -, yb⟩ := HC.out _ (Ext.trans HE5.out (Ext.drew _))
          have HB3 : Hid (BlkR W2.heap.size (w5).drew) := ⟨_, _, yb⟩
          clear yb
          go_region_held3 (fun w' => w'.cell? ⟨w.heap.size, 0, none⟩ = some (.string n1) ∧ w'.cell? ⟨w.heap.size, 1, none⟩ = some (.string d1) ∧ w'.cell? ⟨W1.heap.size, 0, none⟩ = some (.string n2) ∧ w'.cell? ⟨W1.heap.size, 1, none⟩ = some (.string d2) ∧ Hid (Ext w w') ∧ Hid (BlkR W2.heap.size w'))
            (first | exact ⟨z1, z2, z3, z4, z5, z6⟩ | exact ⟨cell_set2 HN1.out z1, cell_set2 HN1.out z2, cell_set2 HN2.out z3, cell_set2 HN2.out z4, Lib.hid (ext_set2 z5.out HR.out), Lib.hid z6.out.set2⟩ | exact ⟨y1, y2, y3, y4, HX3, HB3⟩ | go_keep)
            (first
              | (go_at_call 49; have hc := HM1.out _ (Hid.out (p := Ext w _) (by assumption)); with_reducible refine hc.mono ?_; clear hc; rintro e w6 ⟨rfl, hE6⟩; have q1 := hE6.cell (a := ⟨w.heap.size, 0, none⟩) (v := .string n1) (by assumption); have q2 := hE6.cell (a := ⟨w.heap.size, 1, none⟩) (v := .string d1) (by assumption); have q3 := hE6.cell (a := ⟨W1.heap.size, 0, none⟩) (v := .string n2) (by assumption); have q4 := hE6.cell (a := ⟨W1.heap.size, 1, none⟩) (v := .string d2) (by assumption); have q5 := Lib.hid (Ext.trans (Hid.out (p := Ext w _) (by assumption)) hE6); have q6 := Lib.hid (BlkR.ext (Hid.out (p := BlkR W2.heap.size _) (by assumption)) hE6); (try clear z1 z2 z3 z4 z5 z6 t0 t1 f0 f1); have z1 := q1; have z2 := q2; have z3 := q3; have z4 := q4; have z5 := q5; have z6 := q6; obtain ⟨r0, r1, t0, t1, f0, f1⟩ := z6.out.open; clear hE6 q1 q2 q3 q4 q5 q6)
              | (go_at_call 49; have hc := HM2.out _ (Hid.out (p := Ext w _) (by assumption)); with_reducible refine hc.mono ?_; clear hc; rintro e w6 ⟨rfl, hE6⟩; have q1 := hE6.cell (a := ⟨w.heap.size, 0, none⟩) (v := .string n1) (by assumption); have q2 := hE6.cell (a := ⟨w.heap.size, 1, none⟩) (v := .string d1) (by assumption); have q3 := hE6.cell (a := ⟨W1.heap.size, 0, none⟩) (v := .string n2) (by assumption); have q4 := hE6.cell (a := ⟨W1.heap.size, 1, none⟩) (v := .string d2) (by assumption); have q5 := Lib.hid (Ext.trans (Hid.out (p := Ext w _) (by assumption)) hE6); have q6 := Lib.hid (BlkR.ext (Hid.out (p := BlkR W2.heap.size _) (by assumption)) hE6); (try clear z1 z2 z3 z4 z5 z6 t0 t1 f0 f1); have z1 := q1; have z2 := q2; have z3 := q3; have z4 := q4; have z5 := q5; have z6 := q6; obtain ⟨r0, r1, t0, t1, f0, f1⟩ := z6.out.open; clear hE6 q1 q2 q3 q4 q5 q6)
              | (go_at_call 49; have hc := HM3.out _ (Hid.out (p := Ext w _) (by assumption)); with_reducible refine hc.mono ?_; clear hc; rintro e w6 ⟨rfl, hE6⟩; have q1 := hE6.cell (a := ⟨w.heap.size, 0, none⟩) (v := .string n1) (by assumption); have q2 := hE6.cell (a := ⟨w.heap.size, 1, none⟩) (v := .string d1) (by assumption); have q3 := hE6.cell (a := ⟨W1.heap.size, 0, none⟩) (v := .string n2) (by assumption); have q4 := hE6.cell (a := ⟨W1.heap.size, 1, none⟩) (v := .string d2) (by assumption); have q5 := Lib.hid (Ext.trans (Hid.out (p := Ext w _) (by assumption)) hE6); have q6 := Lib.hid (BlkR.ext (Hid.out (p := BlkR W2.heap.size _) (by assumption)) hE6); (try clear z1 z2 z3 z4 z5 z6 t0 t1 f0 f1); have z1 := q1; have z2 := q2; have z3 := q3; have z4 := q4; have z5 := q5; have z6 := q6; obtain ⟨r0, r1, t0, t1, f0, f1⟩ := z6.out.open; clear hE6 q1 q2 q3 q4 q5 q6)
              | (go_at_call 81; have hc := HA.out _ (Hid.out (p := Ext w _) (by assumption)); with_reducible refine hc.mono ?_; clear hc; rintro e w6 ⟨rfl, hE6⟩; have q1 := hE6.cell (a := ⟨w.heap.size, 0, none⟩) (v := .string n1) (by assumption); have q2 := hE6.cell (a := ⟨w.heap.size, 1, none⟩) (v := .string d1) (by assumption); have q3 := hE6.cell (a := ⟨W1.heap.size, 0, none⟩) (v := .string n2) (by assumption); have q4 := hE6.cell (a := ⟨W1.heap.size, 1, none⟩) (v := .string d2) (by assumption); have q5 := Lib.hid (Ext.trans (Hid.out (p := Ext w _) (by assumption)) hE6); have q6 := Lib.hid (BlkR.ext (Hid.out (p := BlkR W2.heap.size _) (by assumption)) hE6); (try clear z1 z2 z3 z4 z5 z6 t0 t1 f0 f1); have z1 := q1; have z2 := q2; have z3 := q3; have z4 := q4; have z5 := q5; have z6 := q6; obtain ⟨r0, r1, t0, t1, f0, f1⟩ := z6.out.open; clear hE6 q1 q2 q3 q4 q5 q6)
              | (go_at_call 84; have hc := HL.out _ (Hid.out (p := Ext w _) (by assumption)); with_reducible refine hc.mono ?_; clear hc; rintro e w6 ⟨rfl, hE6⟩; have q1 := hE6.cell (a := ⟨w.heap.size, 0, none⟩) (v := .string n1) (by assumption); have q2 := hE6.cell (a := ⟨w.heap.size, 1, none⟩) (v := .string d1) (by assumption); have q3 := hE6.cell (a := ⟨W1.heap.size, 0, none⟩) (v := .string n2) (by assumption); have q4 := hE6.cell (a := ⟨W1.heap.size, 1, none⟩) (v := .string d2) (by assumption); have q5 := Lib.hid (Ext.trans (Hid.out (p := Ext w _) (by assumption)) hE6); have q6 := Lib.hid (BlkR.ext (Hid.out (p := BlkR W2.heap.size _) (by assumption)) hE6); (try clear z1 z2 z3 z4 z5 z6 t0 t1 f0 f1); have z1 := q1; have z2 := q2; have z3 := q3; have z4 := q4; have z5 := q5; have z6 := q6; obtain ⟨r0, r1, t0, t1, f0, f1⟩ := z6.out.open; clear hE6 q1 q2 q3 q4 q5 q6))
          all_goals
            have hb7 := BlkR.res (x := .string n4) (y := .string d4) z6.out
            go_wp2_with fail
            refine bodyPost_ret (results_cell_row (by rfl) _ _ W2.heap.size 81 #[.string n4, .string d4] (0, 0) _ (by rfl) hb7 Tryz.underlying81 (by rfl) (by kernel_rfl)) (by rfl) ⟨rfl, ?_⟩
            exact ext_set2 z5.out HR.out
        · obtain ⟨ha, hb⟩ := HAB.out (HBX.out (by first | rfl | trivial))
          obtain ⟨hc, hd⟩ := HCD.out (HBY.out (by first | rfl | trivial))
          obtain ⟨p1, p2, q, hp1, hp2, hq, b1, b2, b3, b4, b5, b6, hof⟩ := HOF.out (HBX.out (by first | rfl | trivial)) (HBY.out (by first | rfl | trivial))
          have HO := Lib.hid hof
          have hp1' : a * d = p1 := by rw [ha, hd]; exact hp1
          have hp2' : c * b = p2 := by rw [hc, hb]; exact hp2
          have hq' : b * d = q := by rw [hb, hd]; exact hq
          clear ha hb hc hd hp1 hp2 hq hof HAB HCD HOF HM1 HM2 HM3 HA HL
          go_wp2_with fail
          refine (HO.out _ (HE.out.trans HE5.out)).mono ?_
          rintro e w6 ⟨rfl, hE6⟩
          have HE6 := Lib.hid (Ext.trans HE5.out hE6)
          obtain ⟨-, -, -, -, -, -, -, -, yb⟩ := HC.out _ HE6.out
          have z6 : Hid (BlkR W2.heap.size w6) := ⟨_, _, yb⟩
          obtain ⟨r0, r1, t0, t1, f0, f1⟩ := z6.out.open
          clear hE6 HO yb
          have hb7 := BlkR.res (x := .string n4) (y := .string d4) z6.out
          go_wp2_with fail
          refine bodyPost_ret (results_cell_row (by rfl) _ _ W2.heap.size 81 #[.string n4, .string d4] (0, 0) _ (by rfl) hb7 Tryz.underlying81 (by rfl) (by kernel_rfl)) (by rfl) ⟨rfl, ?_⟩
          exact ext_set2 (HE.out.trans HE6.out) HR.out

set_option maxRecDepth 100000 in
set_option maxHeartbeats 2000000 in
theorem ratSub_any (x y : Rat) (w : World) (hx : RS 11000 x) (hy : RS 11000 y) (ht : Pow10 w) :
    Calls Tryz.prog 91 #[ratV x, ratV y] w fun e w' => e = .returned (ratV (x - y)) ∧ Ext w w' := by
  have HT := Lib.hid ht
  clear ht
  obtain ⟨W1, hW1, hE1, hs1, hb1⟩ := box2 w (.string (intB x.num)) (.string (numB x.den)) 81
  obtain ⟨W2, hW2, hE2, hs2, hb2⟩ := box2 W1 (.string (intB y.num)) (.string (numB y.den)) 81
  obtain ⟨W3, hW3, hE3, hs3, hb3⟩ := box2 W2 (.string ⟨#[]⟩) (.string ⟨#[]⟩) 81
  have hb1' := block_ext hb1 (hE2.trans hE3)
  have hb2' := block_ext hb2 hE3
  have HE := Lib.hid ((hE1.trans hE2).trans hE3)
  have HR : Hid (w.heap.size ≤ W2.heap.size) := by unfold Hid; omega
  have HN1 : Hid (w.heap.size ≠ W2.heap.size) := by unfold Hid; omega
  have HN2 : Hid (W1.heap.size ≠ W2.heap.size) := by unfold Hid; omega
  have HC : Hid (∀ W, Ext W3 W → W.cell? ⟨w.heap.size, 0, none⟩ = some (.string (intB x.num)) ∧ W.cell? ⟨w.heap.size, 1, none⟩ = some (.string (numB x.den)) ∧ W.cell? ⟨W1.heap.size, 0, none⟩ = some (.string (intB y.num)) ∧ W.cell? ⟨W1.heap.size, 1, none⟩ = some (.string (numB y.den)) ∧ W.cell? ⟨W2.heap.size, 0, none⟩ = some (.string ⟨#[]⟩) ∧ W.cell? ⟨W2.heap.size, 1, none⟩ = some (.string ⟨#[]⟩) ∧ W.frozen? ⟨W2.heap.size, 0, none⟩ = false ∧ W.frozen? ⟨W2.heap.size, 1, none⟩ = false ∧ W.heap[W2.heap.size]? = some (.cells #[.string ⟨#[]⟩, .string ⟨#[]⟩] 81 (0, 0))) := fun W hW => by
    obtain ⟨a0, a1, -⟩ := block2_cell (block_ext hb1' hW)
    obtain ⟨b0, b1, -⟩ := block2_cell (block_ext hb2' hW)
    obtain ⟨c0, c1, cf⟩ := block2_cell (block_ext hb3 hW)
    exact ⟨a0, a1, b0, b1, c0, c1, cf 0, cf 1, block_ext hb3 hW⟩
  have hny : RS 12000 (-y) := by
    refine ⟨?_, by show (numB y.den).size ≤ 12000; have := hy.2; omega⟩
    have h1 := intB_size_le (-y.num)
    have h2 := natAbs_le y.num
    rw [Int.natAbs_neg] at h1
    rw [Rat.neg_num]
    have := hy.1
    omega
  have HNG : Hid (∀ W, Ext w W → Calls Tryz.prog 89 #[ratV y] W fun e w' => e = .returned (ratV (-y)) ∧ Ext W w') := fun W _ => ratNeg_any y W (hy.mono (by omega))
  have HAD : Hid (∀ W, Ext w W → Calls Tryz.prog 47 #[ratV x, ratV (-y)] W fun e w' => e = .returned (ratV (x - y)) ∧ Ext W w') := fun W hW => by
    have := ratAdd_any x (-y) W (hx.mono (by omega)) hny (HT.out.ext hW)
    rw [← Rat.sub_eq_add_neg] at this
    exact this
  have heta : ∀ q : Rat, ratV q = .agg #[.string (intB q.num), .string (numB q.den)] := fun _ => rfl
  obtain ⟨Z, hZ⟩ : ∃ Z, Z = x - y := ⟨_, rfl⟩
  obtain ⟨V, hV⟩ : ∃ V, V = ratV (-y) := ⟨_, rfl⟩
  rw [← hZ] at HAD ⊢
  rw [← hV] at HNG HAD
  have HVV : Hid (V = .agg #[.string (intB (-y).num), .string (numB (-y).den)]) := hV
  rw [HVV.out] at HNG HAD
  rw [heta x] at HAD ⊢
  rw [heta y] at HNG ⊢
  rw [heta Z] at HAD ⊢
  clear hE1 hE2 hE3 hs1 hs2 hs3 hb1 hb2 hb3 hb1' hb2' heta hx hy hny hV HVV
  obtain ⟨n1, hn1⟩ : ∃ n, n = intB x.num := ⟨_, rfl⟩
  obtain ⟨d1, hd1⟩ : ∃ n, n = numB x.den := ⟨_, rfl⟩
  obtain ⟨n2, hn2⟩ : ∃ n, n = intB y.num := ⟨_, rfl⟩
  obtain ⟨d2, hd2⟩ : ∃ n, n = numB y.den := ⟨_, rfl⟩
  obtain ⟨n4, hn4⟩ : ∃ n, n = intB Z.num := ⟨_, rfl⟩
  obtain ⟨d4, hd4⟩ : ∃ n, n = numB Z.den := ⟨_, rfl⟩
  obtain ⟨n3, hn3⟩ : ∃ n, n = intB (-y).num := ⟨_, rfl⟩
  obtain ⟨d3, hd3⟩ : ∃ n, n = numB (-y).den := ⟨_, rfl⟩
  rw [← hn2, ← hd2, ← hn3, ← hd3] at HNG
  rw [← hn1, ← hd1, ← hn3, ← hd3, ← hn4, ← hd4] at HAD
  rw [← hn4, ← hd4]
  rw [← hn1, ← hd1, ← hn2, ← hd2] at HC ⊢
  rw [← hn1, ← hd1] at hW1
  rw [← hn2, ← hd2] at hW2
  clear hn1 hd1 hn2 hd2 hn3 hd3 hn4 hd4 hZ
  obtain ⟨c0, c1, c2, c3, c4, c5, c6, c7, -⟩ := HC.out W3 (Ext.refl _)
  go_enter Tryz.func91, Tryz.ntmps91
  go_wp2_with fail
  have HRF := Lib.hid (Ext.refl W3)
  have HX3 := Lib.hid (Ext.trans (Ext.trans HE.out HRF.out) (Ext.drew _))
  obtain ⟨y1, y2, y3, y4, -, -, -, -, yb⟩ := HC.out _ (Ext.trans HRF.out (Ext.drew _))
  have HB3 : Hid (BlkR W2.heap.size (W3).drew) := ⟨_, _, yb⟩
  clear yb
  go_region_held3 (fun w' => w'.cell? ⟨w.heap.size, 0, none⟩ = some (.string n1) ∧ w'.cell? ⟨w.heap.size, 1, none⟩ = some (.string d1) ∧ w'.cell? ⟨W1.heap.size, 0, none⟩ = some (.string n2) ∧ w'.cell? ⟨W1.heap.size, 1, none⟩ = some (.string d2) ∧ Hid (Ext w w') ∧ Hid (BlkR W2.heap.size w'))
    (first | exact ⟨z1, z2, z3, z4, z5, z6⟩ | exact ⟨cell_set2 HN1.out z1, cell_set2 HN1.out z2, cell_set2 HN2.out z3, cell_set2 HN2.out z4, Lib.hid (ext_set2 z5.out HR.out), Lib.hid z6.out.set2⟩ | exact ⟨y1, y2, y3, y4, HX3, HB3⟩ | go_keep)
    (first
      | (go_at_call 89; have hc := HNG.out _ (Hid.out (p := Ext w _) (by assumption)); with_reducible refine hc.mono ?_; clear hc; rintro e w6 ⟨rfl, hE6⟩; have q1 := hE6.cell (a := ⟨w.heap.size, 0, none⟩) (v := .string n1) (by assumption); have q2 := hE6.cell (a := ⟨w.heap.size, 1, none⟩) (v := .string d1) (by assumption); have q3 := hE6.cell (a := ⟨W1.heap.size, 0, none⟩) (v := .string n2) (by assumption); have q4 := hE6.cell (a := ⟨W1.heap.size, 1, none⟩) (v := .string d2) (by assumption); have q5 := Lib.hid (Ext.trans (Hid.out (p := Ext w _) (by assumption)) hE6); have q6 := Lib.hid (BlkR.ext (Hid.out (p := BlkR W2.heap.size _) (by assumption)) hE6); (try clear z1 z2 z3 z4 z5 z6 t0 t1 f0 f1); have z1 := q1; have z2 := q2; have z3 := q3; have z4 := q4; have z5 := q5; have z6 := q6; obtain ⟨r0, r1, t0, t1, f0, f1⟩ := z6.out.open; clear hE6 q1 q2 q3 q4 q5 q6)
      | (go_at_call 47; have hc := HAD.out _ (Hid.out (p := Ext w _) (by assumption)); with_reducible refine hc.mono ?_; clear hc; rintro e w6 ⟨rfl, hE6⟩; have q1 := hE6.cell (a := ⟨w.heap.size, 0, none⟩) (v := .string n1) (by assumption); have q2 := hE6.cell (a := ⟨w.heap.size, 1, none⟩) (v := .string d1) (by assumption); have q3 := hE6.cell (a := ⟨W1.heap.size, 0, none⟩) (v := .string n2) (by assumption); have q4 := hE6.cell (a := ⟨W1.heap.size, 1, none⟩) (v := .string d2) (by assumption); have q5 := Lib.hid (Ext.trans (Hid.out (p := Ext w _) (by assumption)) hE6); have q6 := Lib.hid (BlkR.ext (Hid.out (p := BlkR W2.heap.size _) (by assumption)) hE6); (try clear z1 z2 z3 z4 z5 z6 t0 t1 f0 f1); have z1 := q1; have z2 := q2; have z3 := q3; have z4 := q4; have z5 := q5; have z6 := q6; obtain ⟨r0, r1, t0, t1, f0, f1⟩ := z6.out.open; clear hE6 q1 q2 q3 q4 q5 q6))
  all_goals
    have hb7 := BlkR.res (x := .string n4) (y := .string d4) z6.out
    go_wp2_with fail
    refine bodyPost_ret (results_cell_row (by rfl) _ _ W2.heap.size 81 #[.string n4, .string d4] (0, 0) _ (by rfl) hb7 Tryz.underlying81 (by rfl) (by kernel_rfl)) (by rfl) ⟨rfl, ?_⟩
    exact ext_set2 z5.out HR.out
end Go.Proofs.YtpeinobepiodaaaGreatDoor
