/- Contracts of package fraction: of. -/
import Derived.Test.YtpeinobepiodaaaGreatDoorFracO
namespace Go.Proofs.YtpeinobepiodaaaGreatDoor
set_option linter.unusedVariables false
set_option linter.unusedSimpArgs false
open Go.RowKit

theorem natAbs_tmod_gcd (a b : Int) : Nat.gcd b.natAbs (a.tmod b).natAbs = Nat.gcd a.natAbs b.natAbs := by
  rw [Int.natAbs_tmod, Nat.gcd_comm b.natAbs, ← Nat.gcd_rec, Nat.gcd_comm]
theorem tdiv_dvd (n : Int) (g : Nat) (h : (g : Int) ∣ n) : n.tdiv (g : Int) = n / (g : Int) := by
  obtain ⟨k, rfl⟩ := h
  by_cases hg : g = 0
  · subst hg; simp
  · rw [Int.mul_tdiv_cancel_left _ (by omega), Int.mul_ediv_cancel_left _ (by omega)]

set_option maxRecDepth 100000 in
set_option maxHeartbeats 4000000 in
theorem fof_any (n : Int) (d : Nat) (w : World) (hn1 : -4000000000000000000 ≤ n) (hn2 : n ≤ 4000000000000000000) (hd0 : 0 < d) (hd : d ≤ 4000000000000000000) (ht : Pow10 w) :
    Calls Tryz.prog 83 #[.int .i64 n, .int .i64 d] w fun e w' => e = .returned (ratV (mkRat n d)) ∧ Ext w w' := by
  have HT := Lib.hid ht
  clear ht
  obtain ⟨hp1, hp2⟩ := mkRat_parts n d (by omega)
  unfold ratV
  rw [hp1, hp2]
  obtain ⟨g, hg⟩ : ∃ g, g = n.natAbs.gcd d := ⟨_, rfl⟩
  rw [← hg]
  have hgp : 0 < g := by rw [hg]; exact Nat.gcd_pos_of_pos_right _ hd0
  have hgd : g ≤ d := by rw [hg]; exact Nat.gcd_le_right _ hd0
  have hdn : (g : Int) ∣ n := by rw [hg]; exact Int.ofNat_dvd_left.2 (Nat.gcd_dvd_left _ _)
  obtain ⟨FN, hFN⟩ : ∃ FN, FN = n / (g : Int) := ⟨_, rfl⟩
  obtain ⟨FD, hFD⟩ : ∃ FD, FD = d / g := ⟨_, rfl⟩
  rw [← hFN, ← hFD]
  have q1 : n.tdiv (g : Int) = FN := by rw [hFN, tdiv_dvd n g hdn]
  have q2 : (d : Int) / (g : Int) = (FD : Int) := by rw [hFD]; exact (Int.natCast_ediv _ _).symm
  have q2' : (d : Int).tdiv (g : Int) = (FD : Int) := by rw [Int.tdiv_eq_ediv_of_nonneg (by omega), q2]
  have hFNb : -4000000000000000000 ≤ FN ∧ FN ≤ 4000000000000000000 := by
    have : FN.natAbs ≤ n.natAbs := by rw [hFN]; exact Int.natAbs_ediv_le_natAbs n (g : Int)
    omega
  have hFDb : FD ≤ 4000000000000000000 := by
    have : FD ≤ d := by rw [hFD]; exact Nat.div_le_self _ _
    omega
  obtain ⟨hf1, hf2⟩ := hFNb
  have e1 : IntKind.i64.wrap FN = FN := IntWalk.i64_in _ (by omega)
  have e2 : IntKind.i64.wrap (FD : Int) = (FD : Int) := IntWalk.i64_in _ (by omega)
  have hI1 : ∀ W, Ext w W → Calls Tryz.prog 99 #[.int .i64 FN] W fun e w' => e = .returned (.string (intB FN)) ∧ Ext W w' := fun W hE => itoa_int FN W (by omega) (by omega) (HT.out.ext hE)
  have hI2 : ∀ W, Ext w W → Calls Tryz.prog 99 #[.int .i64 (FD : Int)] W fun e w' => e = .returned (.string (intB (FD : Int))) ∧ Ext W w' := fun W hE => itoa_int (FD : Int) W (by omega) (by omega) (HT.out.ext hE)
  rw [eb] at hI2
  have HI1 := Lib.hid hI1; have HI2 := Lib.hid hI2
  have HG := Lib.hid hg
  obtain ⟨W1, hW1, hE1, hs1, hb1⟩ := box2 w (.string ⟨#[]⟩) (.string ⟨#[]⟩) 81
  obtain ⟨r0, r1, rf⟩ := block2_cell hb1
  have HB1 := Lib.hid hb1
  have HE := Lib.hid hE1
  have HC : Hid (∀ W, Ext W1 W → W.cell? ⟨w.heap.size, 0, none⟩ = some (.string ⟨#[]⟩) ∧ W.cell? ⟨w.heap.size, 1, none⟩ = some (.string ⟨#[]⟩) ∧ (∀ i, W.frozen? ⟨w.heap.size, i, none⟩ = false)) := fun W hW =>
    ⟨hW.cell r0, hW.cell r1, (block2_cell (block_ext hb1 hW)).2.2⟩
  have HQ : Hid (n.tdiv (g : Int) = FN ∧ (d : Int) / (g : Int) = (FD : Int) ∧ (d : Int).tdiv (g : Int) = (FD : Int) ∧ IntKind.i64.wrap FN = FN ∧ IntKind.i64.wrap (FD : Int) = (FD : Int)) := ⟨q1, q2, q2', e1, e2⟩
  clear hp1 hp2 hg hdn hI1 hI2 hFN hFD q1 q2 q2' e1 e2 hE1 hs1 hb1 r0 r1 rf
  go_enter Tryz.func83, Tryz.ntmps83
  go_wp2_with fail
  go_loopw [5, 6] (fun a b wr => ∃ x y : Int, a = .int .i64 x ∧ b = .int .i64 y ∧ -4000000000000000000 ≤ x ∧ x ≤ 4000000000000000000 ∧ -4000000000000000000 ≤ y ∧ y ≤ 4000000000000000000 ∧ Hid (Nat.gcd x.natAbs y.natAbs = g) ∧ Hid (Ext W1 wr)) (fun _ b _ => (intOf b).natAbs)
  case atStart => exact ⟨n, d, rfl, rfl, hn1, hn2, by omega, by omega, by rw [HG.out]; rfl, Ext.refl _⟩
  case round =>
    obtain ⟨x, y, rfl, rfl, hx1, hx2, hy1, hy2, HGG, HEw⟩ := hrel
    obtain ⟨wo, rfl⟩ : ∃ wo : World, wo = wr := ⟨_, rfl⟩
    by_cases hy0 : y = 0
    · have hgx : x.natAbs = g := by have := HGG.out; rw [hy0] at this; simpa using this
      subst hy0
      have hxx : (x < 0 ∧ x = -(g : Int)) ∨ (¬ x < 0 ∧ x = (g : Int)) := by omega
      have hgz : ((g : Int) == 0) = false := by rw [beq_eq_false_iff_ne]; omega
      have hgz2 : ¬ (g : Int) = 0 := by omega
      clear hgx
      obtain ⟨q1, q2, q3, q4, q5⟩ := HQ.out
      have HEd := Lib.hid (Ext.trans HEw.out (Ext.drew wo))
      rcases hxx with ⟨hneg, hxg⟩ | ⟨hneg, hxg⟩
      case' inl =>
        have hng : -x = (g : Int) := by omega
        clear hxg
      case' inr =>
        subst hxg
        have hng : True := trivial
      all_goals
        go_wp2_with fail
        go_region_with (first
          | (go_at_call 99; with_reducible refine (HI1.out _ (HE.out.trans HEd.out)).mono ?_; rintro e w5 ⟨rfl, hE5⟩; have HE2 := HEd; clear HEd; have HEd := Lib.hid (Ext.trans HE2.out hE5); obtain ⟨t0, t1, tf⟩ := HC.out _ HEd.out; have tf0 := tf 0; have tf1 := tf 1; clear hE5 HE2 tf)
          | (go_at_call 99; with_reducible refine (HI2.out _ (HE.out.trans HEd.out)).mono ?_; rintro e w5 ⟨rfl, hE5⟩; have HE2 := HEd; clear HEd; have HEd := Lib.hid (Ext.trans HE2.out hE5); obtain ⟨t0, t1, tf⟩ := HC.out _ HEd.out; have tf0 := tf 0; have tf1 := tf 1; clear hE5 HE2 tf))
        all_goals
          have hb5 := block2_set (a := .string (intB FN)) (b := .string (numB FD)) (block_ext HB1.out HEd.out)
          go_wp2_with fail
          refine bodyPost_ret (results_cell_row (by rfl) _ _ w.heap.size 81 #[.string (intB FN), .string (numB FD)] (0, 0) _ (by rfl) hb5 Tryz.underlying81 (by rfl) (by kernel_rfl)) (by rfl) ⟨rfl, ?_⟩
          exact Below.setCell (Below.setCell (HE.out.trans HEd.out) (p := ⟨w.heap.size, 0, none⟩) (Nat.le_refl _) _) (p := ⟨w.heap.size, 1, none⟩) (Nat.le_refl _) _
    · obtain ⟨r, hr⟩ : ∃ r, r = x.tmod y := ⟨_, rfl⟩
      have hry : r.natAbs < y.natAbs := by rw [hr]; exact tmod_lt x y hy0
      have HG2 : Hid (Nat.gcd y.natAbs r.natAbs = g) := by unfold Hid; rw [hr, natAbs_tmod_gcd]; exact HGG.out
      have hri : x.tmod y = r := hr.symm
      have hyz : (y == 0) = false := by rw [beq_eq_false_iff_ne]; exact hy0
      have hyz1 : (y != 0) = true := by simpa using hy0
      clear hr
      go_wp2_with fail
      go_quiet (fail)
      go_wp2_with fail
      go_roundw
      case rel => exact ⟨y, r, rfl, rfl, hy1, hy2, by omega, by omega, HG2.out, Ext.draws HEw.out _⟩
      case measure => simp [intOf]; omega
end Go.Proofs.YtpeinobepiodaaaGreatDoor
