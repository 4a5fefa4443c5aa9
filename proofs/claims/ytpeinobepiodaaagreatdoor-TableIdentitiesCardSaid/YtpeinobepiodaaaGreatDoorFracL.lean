/- Contracts of package fraction at rationals of any size: Sign, Neg, lowest. -/
import Derived.Test.YtpeinobepiodaaaGreatDoorWholeD
import Derived.Laws.Rows
import Derived.Deep.RegionHeld3
import Derived.Deep.DrawnRows
namespace Go.Proofs.YtpeinobepiodaaaGreatDoor
set_option linter.unusedVariables false
set_option linter.unusedSimpArgs false
open Go.RowKit

/-- The value of a rational. -/
def ratV (q : Rat) : Value := .agg #[.string (intB q.num), .string (numB q.den)]
/-- Numerator and denominator of at most k bytes. -/
def RS (k : Nat) (q : Rat) : Prop := (intB q.num).size ≤ k ∧ (numB q.den).size ≤ k
theorem RS.mono {k m : Nat} {q : Rat} (h : RS k q) (hk : k ≤ m) : RS m q := ⟨Nat.le_trans h.1 hk, Nat.le_trans h.2 hk⟩
theorem eb (n : Nat) : intB (n : Int) = numB n := by rw [intB_pos _ (by omega)]; rfl

theorem mkRat_parts (n : Int) (d : Nat) (hd : d ≠ 0) : (mkRat n d).num = n / (n.natAbs.gcd d : Nat) ∧ (mkRat n d).den = d / n.natAbs.gcd d := by
  rw [← Rat.normalize_eq_mkRat hd, Rat.normalize_eq hd]
  exact ⟨rfl, rfl⟩
theorem divInt_pos (n : Int) (d : Nat) : Rat.divInt n (d : Int) = mkRat n d := rfl
theorem divInt_neg (n : Int) (d : Nat) (hd : d ≠ 0) : Rat.divInt n (-(d : Int)) = mkRat (-n) d := by
  obtain ⟨m, rfl⟩ : ∃ m, d = m + 1 := ⟨d - 1, by omega⟩
  rw [← Rat.normalize_eq_mkRat hd]
  rfl
theorem fdq_pos (x y : Int) (hy : 0 < y) : fdq x y = x / y := by
  have h1 := fd_eq x y
  have h2 := fdr_pos x y hy
  have h3 := Int.mul_ediv_add_emod x y
  have h4 := Int.emod_nonneg x (show y ≠ 0 by omega)
  have h5 := Int.emod_lt_of_pos x hy
  generalize fdq x y = q at *
  generalize fdr x y = r at *
  generalize x / y = q' at *
  generalize x % y = r' at *
  have h6 : y * (q - q') = r' - r := by rw [Int.mul_sub]; omega
  rcases Int.lt_trichotomy q q' with h | h | h
  · have : y * (q - q') ≤ y * (-1) := Int.mul_le_mul_of_nonneg_left (by omega) (by omega)
    omega
  · exact h
  · have : y * 1 ≤ y * (q - q') := Int.mul_le_mul_of_nonneg_left (by omega) (by omega)
    omega
theorem num_one (u : Nat) : ((numB u).toList == [49]) = decide (u = 1) := by
  rw [numB_list, show ([49] : List UInt8) = Lib.decDigits 1 by rw [Lib.decDigits_one (by omega)]; rfl, digits_eq]
theorem rat_den_size (q : Rat) : intB (q.den : Int) = numB q.den := eb _

set_option maxRecDepth 100000 in
set_option maxHeartbeats 1000000 in
theorem ratSign_any (q : Rat) (w : World) :
    Calls Tryz.prog 70 #[ratV q] w fun e w' => e = .returned (.int .i64 q.num.sign) ∧ Ext w w' := by
  have HS := Lib.hid (fun W => sign_any q.num W)
  unfold ratV
  go_enter Tryz.func70, Tryz.ntmps70
  go_wp2_with fail
  refine (HS.out _).mono ?_
  rintro e w' ⟨rfl, rfl⟩
  go_wp2_with fail
  go_ret
  exact ⟨rfl, Ext.alloc _ _⟩

/-- A box of two cells. -/
theorem box2 (w : World) (x y : Value) (T : TypeId) : ∃ W, (w.alloc (.cells #[x, y] T)) = W ∧ Ext w W ∧ W.heap.size = w.heap.size + 1 ∧ W.heap[w.heap.size]? = some (.cells #[x, y] T (0, 0)) :=
  ⟨_, rfl, Ext.alloc _ _, by simp, block_new _ _ _⟩
theorem block2_cell {w : World} {B : Nat} {x y : Value} {T : TypeId} (h : w.heap[B]? = some (.cells #[x, y] T (0, 0))) : w.cell? ⟨B, 0, none⟩ = some x ∧ w.cell? ⟨B, 1, none⟩ = some y ∧ (∀ i, w.frozen? ⟨B, i, none⟩ = false) :=
  ⟨block_cell h 0, block_cell h 1, block_free h⟩
theorem block2_set {w : World} {B : Nat} {x y a b : Value} {T : TypeId} (h : w.heap[B]? = some (.cells #[x, y] T (0, 0))) : ((w.setCell ⟨B, 0, none⟩ a).setCell ⟨B, 1, none⟩ b).heap[B]? = some (.cells #[a, b] T (0, 0)) := by
  have h1 := block_set h 0 a
  have h2 := block_set h1 1 b
  simpa using h2

set_option maxRecDepth 100000 in
set_option maxHeartbeats 1000000 in
theorem ratNeg_any (q : Rat) (w : World) (h : RS 28000 q) :
    Calls Tryz.prog 89 #[ratV q] w fun e w' => e = .returned (ratV (-q)) ∧ Ext w w' := by
  have HN : Hid (∀ W, Calls Tryz.prog 50 #[.string (intB q.num)] W fun e w' => e = .returned (.string (intB (-q).num)) ∧ Ext W w') := fun W => by
    have := neg_any q.num W (by have := h.1; omega)
    rw [Rat.neg_num]; exact this
  have hd : (-q).den = q.den := rfl
  unfold ratV
  rw [hd]
  obtain ⟨n, hn⟩ : ∃ n, n = intB q.num := ⟨_, rfl⟩
  obtain ⟨d, hdd⟩ : ∃ d, d = numB q.den := ⟨_, rfl⟩
  obtain ⟨m, hm⟩ : ∃ m, m = intB (-q).num := ⟨_, rfl⟩
  rw [← hn, ← hm] at HN
  rw [← hn, ← hdd, ← hm]
  clear hn hdd hm hd h
  obtain ⟨W1, hW1, hE1, hs1, hb1⟩ := box2 w (.string n) (.string d) 81
  obtain ⟨W2, hW2, hE2, hs2, hb2⟩ := box2 W1 (.string ⟨#[]⟩) (.string ⟨#[]⟩) 81
  have hb1' := block_ext hb1 hE2
  obtain ⟨c0, c1, -⟩ := block2_cell hb1'
  obtain ⟨r0, r1, rf⟩ := block2_cell hb2
  have HB2 := Lib.hid hb2
  have HE := Lib.hid (hE1.trans hE2)
  have HS1 := Lib.hid hs1
  have HC : Hid (∀ W, Ext W2.drew W → W.cell? ⟨w.heap.size, 0, none⟩ = some (.string n) ∧ W.cell? ⟨w.heap.size, 1, none⟩ = some (.string d) ∧ W.cell? ⟨W1.heap.size, 0, none⟩ = some (.string ⟨#[]⟩) ∧ W.cell? ⟨W1.heap.size, 1, none⟩ = some (.string ⟨#[]⟩) ∧ (∀ i, W.frozen? ⟨W1.heap.size, i, none⟩ = false)) := fun W hW =>
    ⟨hW.cell (by simpa using c0), hW.cell (by simpa using c1), hW.cell (by simpa using r0), hW.cell (by simpa using r1), (block2_cell (block_ext (w := W2.drew) hb2 hW)).2.2⟩
  clear hE1 hE2 hb1 hb2 hb1' hs1 hs2
  go_enter Tryz.func89, Tryz.ntmps89
  go_wp2_with fail
  go_region_with (go_at_call 50; refine (HN.out _).mono ?_; rintro e w5 ⟨rfl, hE5⟩; obtain ⟨d0, d1, t0, t1, tf⟩ := HC.out _ hE5; have tf0 := tf 0; have tf1 := tf 1; have HE5 := Lib.hid hE5; clear hE5 tf)
  all_goals
    have hb5 := block2_set (a := .string m) (b := .string d) (block_ext (w := W2.drew) HB2.out HE5.out)
    go_wp2_with fail
    refine bodyPost_ret (results_cell_row (by rfl) _ _ W1.heap.size 81 #[.string m, .string d] (0, 0) _ (by rfl) hb5 Tryz.underlying81 (by rfl) (by kernel_rfl)) (by rfl) ⟨rfl, ?_⟩
    exact Below.setCell (Below.setCell ((HE.out.trans (Ext.drew _)).trans HE5.out) (p := ⟨W1.heap.size, 0, none⟩) (by have := HS1.out; show w.heap.size ≤ W1.heap.size; omega) _) (p := ⟨W1.heap.size, 1, none⟩) (by have := HS1.out; show w.heap.size ≤ W1.heap.size; omega) _

theorem ediv_size (N : Int) (g : Nat) : (intB (N / (g : Int))).size ≤ (intB N).size := by
  by_cases h : N < 0
  · have h1 := intB_size_le (N / (g : Int))
    have h2 := intB_size_neg N h
    have h3 : (N / (g : Int)).natAbs ≤ N.natAbs := Int.natAbs_ediv_le_natAbs N (g : Int)
    have := num_le_mono h3
    omega
  · have h0 : 0 ≤ N / (g : Int) := Int.ediv_nonneg (by omega) (by omega)
    rw [intB_pos _ h0, intB_pos N (by omega)]
    refine num_le_mono ?_
    have h3 : (N / (g : Int)).natAbs ≤ N.natAbs := Int.natAbs_ediv_le_natAbs N (g : Int)
    omega
set_option maxRecDepth 100000 in
set_option maxHeartbeats 2000000 in
theorem lowest_any (n d : Int) (w : World) (hd : d ≠ 0) (hn : (intB n).size ≤ 27000) (hds : (intB d).size ≤ 27000) (ht : Pow10 w) :
    Calls Tryz.prog 84 #[.string (intB n), .string (intB d)] w fun e w' => e = .returned (ratV (Rat.divInt n d)) ∧ Ext w w' := by
  have HT := Lib.hid ht
  clear ht
  obtain ⟨W1, hW1, hE1, hs1, hb1⟩ := box2 w (.string ⟨#[]⟩) (.string ⟨#[]⟩) 81
  obtain ⟨r0, r1, rf⟩ := block2_cell hb1
  have HB1 := Lib.hid hb1
  have HE := Lib.hid hE1
  have HC : Hid (∀ W, Ext W1 W → W.cell? ⟨w.heap.size, 0, none⟩ = some (.string ⟨#[]⟩) ∧ W.cell? ⟨w.heap.size, 1, none⟩ = some (.string ⟨#[]⟩) ∧ (∀ i, W.frozen? ⟨w.heap.size, i, none⟩ = false)) := fun W hW =>
    ⟨hW.cell r0, hW.cell r1, (block2_cell (block_ext hb1 hW)).2.2⟩
  have HSG := Lib.hid (sign_any d W1)
  obtain ⟨N, D, hN, hD, hD0, hsN, hsD, hq⟩ : ∃ (N : Int) (D : Nat), (if d < 0 then N = -n else N = n) ∧ (if d < 0 then d = -(D : Int) else d = (D : Int)) ∧ D ≠ 0 ∧ (intB N).size ≤ 27001 ∧ (numB D).size ≤ 27001 ∧ Rat.divInt n d = mkRat N D := by
    have h1 := intB_size_le (-n)
    have h2 := natAbs_le n
    have h3 := natAbs_le d
    rw [Int.natAbs_neg] at h1
    by_cases h : d < 0
    · refine ⟨-n, d.natAbs, by rw [if_pos h], by rw [if_pos h]; omega, by omega, by omega, by omega, ?_⟩
      rw [← divInt_neg n d.natAbs (by omega)]; congr 1; omega
    · refine ⟨n, d.natAbs, by rw [if_neg h], by rw [if_neg h]; omega, by omega, by omega, by omega, ?_⟩
      rw [← divInt_pos n d.natAbs]; congr 1; omega
  obtain ⟨hp1, hp2⟩ := mkRat_parts N D hD0
  rw [hq]
  unfold ratV
  rw [hp1, hp2]
  obtain ⟨g, hg⟩ : ∃ g, g = N.natAbs.gcd D := ⟨_, rfl⟩
  rw [← hg]
  have hgp : 0 < g := by rw [hg]; exact Nat.gcd_pos_of_pos_right _ (by omega)
  have hgD : g ≤ D := by rw [hg]; exact Nat.gcd_le_right _ (by omega)
  have hgs := num_le_mono hgD
  have hGC : ∀ W, Ext w W → Calls Tryz.prog 115 #[.string (intB N), .string (intB (D : Int))] W fun e w' => e = .returned (.string (numB g)) ∧ Ext W w' := fun W hW => by
    have := gcdI_any N (D : Int) W (by omega) (by rw [eb]; omega) (HT.out.ext hW)
    rw [show (D : Int).natAbs = D from rfl, ← hg] at this
    exact this
  have hD1 : ∀ W, Ext w W → Calls Tryz.prog 116 #[.string (intB N), .string (intB (g : Int))] W fun e w' => e = .returned (.tuple #[.string (intB (fdq N (g : Int))), .string (intB (fdr N (g : Int))), .int .i64 0]) ∧ Ext W w' := fun W hW => divModI_any N (g : Int) W (by omega) (by rw [eb]; omega) (by omega) (HT.out.ext hW)
  have hD2 : ∀ W, Ext w W → Calls Tryz.prog 116 #[.string (intB (D : Int)), .string (intB (g : Int))] W fun e w' => e = .returned (.tuple #[.string (intB (fdq (D : Int) (g : Int))), .string (intB (fdr (D : Int) (g : Int))), .int .i64 0]) ∧ Ext W w' := fun W hW => divModI_any (D : Int) (g : Int) W (by rw [eb]; omega) (by rw [eb]; omega) (by omega) (HT.out.ext hW)
  have hgi : (0 : Int) < (g : Int) := by omega
  have hDg : fdq (D : Int) (g : Int) = ((D / g : Nat) : Int) := by rw [fdq_pos _ _ hgi]; exact (Int.natCast_ediv _ _).symm
  rw [fdq_pos N _ hgi, eb] at hD1
  rw [hDg, eb, eb, eb] at hD2
  rw [eb] at hGC
  have HGC := Lib.hid hGC; have HD1 := Lib.hid hD1; have HD2 := Lib.hid hD2
  have HG1 : Hid (g = 1 → N / (g : Int) = N ∧ D / g = D) := fun h => by rw [h]; exact ⟨Int.ediv_one N, Nat.div_one D⟩
  have hz := num_one g
  obtain ⟨FN, hFN⟩ : ∃ FN, FN = N / (g : Int) := ⟨_, rfl⟩
  obtain ⟨FD, hFD⟩ : ∃ FD, FD = D / g := ⟨_, rfl⟩
  rw [← hFN] at HD1 HG1 ⊢
  rw [← hFD] at HD2 HG1 ⊢
  clear hg hgp hgD hgs hGC hD1 hD2 hgi hDg hp1 hp2 hq r0 r1 rf hb1 hE1 hs1 hFN hFD
  have HX : Hid (w.heap.size ≤ w.heap.size) := Nat.le_refl _
  by_cases hneg : d < 0
  case' pos =>
    rw [if_pos hneg] at hN hD
    have hsg : d.sign < 0 := by rw [Int.sign_eq_neg_one_of_neg hneg]; omega
    have HN1 : Hid (∀ W, Calls Tryz.prog 50 #[.string (intB n)] W fun e w' => e = .returned (.string (intB N)) ∧ Ext W w') := fun W => by rw [hN]; exact neg_any n W (by omega)
    have HN2 : Hid (∀ W, Calls Tryz.prog 50 #[.string (intB d)] W fun e w' => e = .returned (.string (numB D)) ∧ Ext W w') := fun W => by
      have := neg_any d W (by omega)
      rw [show -d = (D : Int) by omega, eb] at this
      exact this
    obtain ⟨sg, hsgg⟩ : ∃ sg, sg = d.sign := ⟨_, rfl⟩
    rw [← hsgg] at HSG hsg
    clear hN hD hneg hsgg
    go_enter Tryz.func84, Tryz.ntmps84
    go_wp2_with fail
    refine HSG.out.mono ?_
    rintro e w' ⟨rfl, rfl⟩
    clear HSG
    go_wp2_with fail
    refine (HN1.out _).mono ?_
    rintro e w2 ⟨rfl, hE2⟩
    have HE2 := Lib.hid hE2
    clear hE2 HN1
    go_wp2_with fail
    refine (HN2.out _).mono ?_
    rintro e w3 ⟨rfl, hE3⟩
    have HE3 := Lib.hid (Ext.trans HE2.out hE3)
    clear hE3 HN2
  case' neg =>
    rw [if_neg hneg] at hN hD
    have hsg : ¬ d.sign < 0 := by rw [Int.sign_eq_one_of_pos (by omega)]; omega
    obtain ⟨sg, hsgg⟩ : ∃ sg, sg = d.sign := ⟨_, rfl⟩
    rw [← hsgg] at HSG hsg
    rw [hD, eb] at HSG ⊢
    rw [← hN]
    clear hN hD hneg hsgg
    go_enter Tryz.func84, Tryz.ntmps84
    go_wp2_with fail
    refine HSG.out.mono ?_
    rintro e w' ⟨rfl, rfl⟩
    clear HSG
    have HE3 := Lib.hid (Ext.refl W1)
  all_goals
    by_cases hg1 : g = 1
    · rw [decide_eq_true hg1] at hz
      have HQ := Lib.hid (HG1.out hg1)
      clear hg1
      go_wp2_with fail
      refine (HGC.out _ (HE.out.trans HE3.out)).mono ?_
      rintro e w4 ⟨rfl, hE4⟩
      have HE4 := Lib.hid (Ext.trans HE3.out hE4)
      obtain ⟨t0, t1, tf⟩ := HC.out _ HE4.out
      have tf0 := tf 0; have tf1 := tf 1
      have hb5 := block2_set (a := .string (intB N)) (b := .string (numB D)) (block_ext HB1.out HE4.out)
      clear hE4 tf HGC
      go_wp2_with fail
      refine bodyPost_ret (results_cell_row (by rfl) _ _ w.heap.size 81 #[.string (intB N), .string (numB D)] (0, 0) _ (by rfl) hb5 Tryz.underlying81 (by rfl) (by kernel_rfl)) (by rfl) ⟨by rw [HQ.out.1, HQ.out.2], ?_⟩
      exact Below.setCell (Below.setCell (HE.out.trans HE4.out) (p := ⟨w.heap.size, 0, none⟩) (Nat.le_refl _) _) (p := ⟨w.heap.size, 1, none⟩) (Nat.le_refl _) _
    · rw [decide_eq_false hg1] at hz
      clear hg1
      go_wp2_with fail
      refine (HGC.out _ (HE.out.trans HE3.out)).mono ?_
      rintro e w4 ⟨rfl, hE4⟩
      have HE4 := Lib.hid (Ext.trans HE3.out hE4)
      clear hE4 HGC
      go_wp2_with fail
      refine (HD1.out _ (HE.out.trans HE4.out)).mono ?_
      rintro e w5 ⟨rfl, hE5⟩
      have HE5 := Lib.hid (Ext.trans HE4.out hE5)
      clear hE5 HD1
      go_wp2_with fail
      refine (HD2.out _ (HE.out.trans HE5.out)).mono ?_
      rintro e w6 ⟨rfl, hE6⟩
      have HE6 := Lib.hid (Ext.trans HE5.out hE6)
      obtain ⟨t0, t1, tf⟩ := HC.out _ HE6.out
      have tf0 := tf 0; have tf1 := tf 1
      have hb5 := block2_set (a := .string (intB FN)) (b := .string (numB FD)) (block_ext HB1.out HE6.out)
      clear hE6 tf HD2
      go_wp2_with fail
      refine bodyPost_ret (results_cell_row (by rfl) _ _ w.heap.size 81 #[.string (intB FN), .string (numB FD)] (0, 0) _ (by rfl) hb5 Tryz.underlying81 (by rfl) (by kernel_rfl)) (by rfl) ⟨rfl, ?_⟩
      exact Below.setCell (Below.setCell (HE.out.trans HE6.out) (p := ⟨w.heap.size, 0, none⟩) (Nat.le_refl _) _) (p := ⟨w.heap.size, 1, none⟩) (Nat.le_refl _) _
end Go.Proofs.YtpeinobepiodaaaGreatDoor
