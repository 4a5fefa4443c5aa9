/- Merged: KerD, LatIdx, TmpA, TmpB, SlPrimes. -/
import Derived.Test.YtjihfabhgcfjnaaGreatDoorUBD
import Derived.Test.YtjihfabhgcfjnaaGreatDoorUAA
import Derived.Test.YtjihfabhgcfjnaaGreatDoorUAR
import Derived.Test.YtjihfabhgcfjnaaGreatDoorUAW
import Derived.Lib.SliceRun
import Derived.WalkSpells
import Derived.Laws.AppendOwnNone
/- The annihilator and the saturation of the lattice of small rows: forms of each other's kernels, with bounds. No program is named here. -/
namespace Go.Proofs.YtjihfabhgcfjnaaGreatDoor
set_option linter.unusedVariables false
set_option linter.unusedSimpArgs false
open Go.RowKit

/-- A lattice's basis R, its annihilator A and its saturation S, all in Hermite form. -/
structure DualF (n F : Nat) (R A S : List (List Int)) : Prop where
  fA : ∃ qa, HForm n A qa
  fS : ∃ ss, HForm n S ss
  spA : ∀ v, Sp n (RowsFrom 0 A) v ↔ Ann n R v
  spS : ∀ v, Sp n (RowsFrom 0 S) v ↔ Sat n R v
  kR : kerS F n R = some A
  kA : kerS F n A = some S
  kS : kerS F n S = some A
  rR : A.length + R.length = n
  rS : A.length + S.length = n
  bA : ∀ x ∈ A, RowLe 629856 x ∧ x.length = n
  bS : ∀ x ∈ S, RowLe 629856 x ∧ x.length = n
theorem le629 {k : Nat} (hk : k ≤ 4) : k * facN 9 k ≤ 629856 := by
  have hc : k = 0 ∨ k = 1 ∨ k = 2 ∨ k = 3 ∨ k = 4 := by omega
  rcases hc with h | h | h | h | h <;> rw [h] <;> decide
theorem le26 {n : Nat} (hn : n ≤ 4) : n * facN 629856 n ≤ 10 ^ 26 := by
  have hc : n = 0 ∨ n = 1 ∨ n = 2 ∨ n = 3 ∨ n = 4 := by omega
  rcases hc with h | h | h | h | h <;> rw [h] <;> decide
theorem gsz {n : Nat} (hn : n ≤ 4) : (gN n 6 0).1 + 1 ≤ 400000000 ∧ (gN n 6 0).2 + 1 ≤ 400000000 ∧ (gN n 26 0).1 + 1 ≤ 400000000 ∧ (gN n 26 0).2 + 1 ≤ 400000000 := by
  have hc : n = 0 ∨ n = 1 ∨ n = 2 ∨ n = 3 ∨ n = 4 := by omega
  rcases hc with h | h | h | h | h <;> rw [h] <;> decide
theorem hform_len {n : Nat} {R : List (List Int)} {ps : Nat → Nat} (h : HForm n R ps) : R.length ≤ n := by
  have key : ∀ i, i < R.length → i ≤ ps i := by
    intro i
    induction i with
    | zero => intro _; omega
    | succ i ih => intro hi; have h1 := ih (by omega); have h2 := h.2.mono i (i + 1) (by omega) hi; omega
  rcases Nat.eq_zero_or_pos R.length with h0 | h0
  · omega
  · have h1 := key (R.length - 1) (by omega)
    have h2 := h.2.lt (R.length - 1) (by omega)
    omega
theorem smulL_one (v : List Int) : smulL 1 v = v := by
  unfold smulL; rw [List.map_congr_left (g := id) (fun x _ => by simp)]; simp
theorem sp_sat {n : Nat} {m : List (List Int)} (hm : Wid n m) {v : List Int} (h : Sp n (RowsFrom 0 m) v) : Sat n m v :=
  ⟨h.len (rowsFrom_len hm), 1, by decide, by rw [smulL_one]; exact h⟩
theorem ann_sat {n : Nat} {m : List (List Int)} (hm : Wid n m) {v u : List Int} (h : Sat n m v) (hu : Ann n m u) : dotZ v u n = 0 := by
  obtain ⟨-, D, hD, hs⟩ := h
  have := ann_sp hm hs hu
  rw [dotZ_comm, dotZ_smul, dotZ_comm] at this
  rcases Int.mul_eq_zero.1 this with h | h
  · exact absurd h hD
  · exact h
/-- One form for one lattice. -/
theorem hform_same {n : Nat} {R T : List (List Int)} {ps qs : Nat → Nat} (hR : HForm n R ps) (hT : HForm n T qs) (h : ∀ v, Sp n (RowsFrom 0 R) v ↔ Sp n (RowsFrom 0 T) v) : R = T :=
  hform_unique hR hT ⟨fun r hr => (h r).1 (.mem hr), fun r hr => (h r).2 (.mem hr)⟩
theorem plan_dual {n : Nat} {m R : List (List Int)} {ps : Nat → Nat} (hn : n ≤ 4) (hw : ∀ x ∈ m, x.length = n) (h9 : ∀ x ∈ m, RowLe 9 x) (hR : HForm n R ps) (hs : SpEq n (RowsFrom 0 m) (RowsFrom 0 R)) : ∃ F A S, DualF n F R A S := by
  have hWm : Wid n m := fun i hi => hw _ (rowE_mem hi)
  have hg := gsz hn
  have hbR : ∀ x ∈ R, RowLe 629856 x := fun x hx => by
    obtain ⟨i, hi, rfl⟩ := mem_rowE hx
    exact (form_bound (N := 9) hR hWm (fun j hj => h9 _ (rowE_mem hj)) hs i hi).mono (le629 (by have := hform_len hR; omega))
  have hlR : ∀ x ∈ R, x.length = n := fun x hx => by obtain ⟨i, hi, rfl⟩ := mem_rowE hx; exact hR.1 i hi
  obtain ⟨F1, A, qa, a1, a2, a3, -, a5, a6, a7⟩ := ker_spec n 629856 6 26 R hlR hbR (by decide) (by decide) (le26 hn) hg.1 hg.2.1 hg.2.2.1 hg.2.2.2
  obtain ⟨-, A', qa', -, b2, b3, b4, -, -, -⟩ := ker_spec n 9 6 26 m hw h9 (by decide) (by decide) (Nat.le_trans (le629 hn) (by decide)) hg.1 hg.2.1 hg.2.2.1 hg.2.2.2
  have hAA : A = A' := hform_same a2 b2 fun v => by rw [a3, b3]; exact (ann_iff hWm hR.1 hs v).symm
  have hbA : ∀ x ∈ A, RowLe 629856 x ∧ x.length = n := fun x hx => by
    have := b4 x (by rw [← hAA]; exact hx)
    exact ⟨this.1.mono (le629 hn), this.2⟩
  obtain ⟨F2, S, ss, c1, c2, c3, -, c5, c6, c7⟩ := ker_spec n 629856 6 26 A (fun x hx => (hbA x hx).2) (fun x hx => (hbA x hx).1) (by decide) (by decide) (le26 hn) hg.1 hg.2.1 hg.2.2.1 hg.2.2.2
  have hsat : ∀ v, Sp n (RowsFrom 0 S) v ↔ Sat n R v := by
    intro v
    rw [c3]
    constructor
    · intro hv
      obtain ⟨D, hD, h⟩ := a7 v hv.1 fun u hu => ann_sp a2.1 ((a3 u).2 hu) hv
      exact ⟨hv.1, D, hD, h⟩
    · intro hv
      refine ⟨hv.1, fun i hi => ?_⟩
      rw [dotZ_comm]
      exact ann_sat hR.1 hv ((a3 _).1 (.mem (rowsFrom_mem (Nat.zero_le i) hi)))
  have hbS : ∀ x ∈ S, RowLe 629856 x ∧ x.length = n := fun x hx => by
    obtain ⟨i, hi, rfl⟩ := mem_rowE hx
    refine ⟨(form_bound_of (N := 9) (m := m) c2 (fun j hj => h9 _ (rowE_mem hj)) (fun r hr => (hsat r).2 (sp_sat hR.1 (hs.1 r hr))) (scaled_minor c2 hWm fun j hj => ?_) i hi).mono (le629 (by omega)), c2.1 i hi⟩
    obtain ⟨-, D, hD, h⟩ := (hsat _).1 (.mem (rowsFrom_mem (Nat.zero_le j) hj))
    exact ⟨D, hD, (hs.iff _).2 h⟩
  obtain ⟨F3, B, bs, d1, d2, d3, -, d5, d6, d7⟩ := ker_spec n 629856 6 26 S (fun x hx => (hbS x hx).2) (fun x hx => (hbS x hx).1) (by decide) (by decide) (le26 hn) hg.1 hg.2.1 hg.2.2.1 hg.2.2.2
  have hBA : B = A := hform_same d2 a2 fun v => by
    rw [d3, a3]
    constructor
    · intro hv
      refine ⟨hv.1, fun i hi => ?_⟩
      have := ann_sp c2.1 ((hsat _).2 (sp_sat hR.1 (.mem (rowsFrom_mem (Nat.zero_le i) hi)))) hv
      exact this
    · intro hv
      refine ⟨hv.1, fun i hi => ?_⟩
      exact ann_sat hR.1 ((hsat _).1 (.mem (rowsFrom_mem (Nat.zero_le i) hi))) hv
  rw [hBA] at d1 d6
  exact ⟨F1 + F2 + F3, A, S, ⟨qa, a2⟩, ⟨ss, c2⟩, a3, hsat, kerS_mono (by omega) a1, kerS_mono (by omega) c1, kerS_mono (by omega) d1, a6 ps hR, d6 ss c2, hbA, hbS⟩
end Go.Proofs.YtjihfabhgcfjnaaGreatDoor
/- Contract of package lattice: Index. Printed by gen/latidx.py. -/
namespace Go.Proofs.YtjihfabhgcfjnaaGreatDoor
set_option linter.unusedVariables false
set_option linter.unusedSimpArgs false
open Go.RowKit Go.Shelf
attribute [local go_sem] Oper.semAt_some

theorem GrownS.more {bO : Nat} {w5 W W' : World} {row : Option Nat} (h : GrownS (· = bO) w5 W) (hg : W.grownBy W' row) (hr : ∀ r, row = some r → w5.heap.size ≤ r) : GrownS (· = bO) w5 W' :=
  ⟨hg.os.trans h.os, hg.tape.trans h.tape, hg.output.trans h.output, Nat.le_trans h.size hg.size, fun k hk hn => (hg.block k (Nat.lt_of_lt_of_le hk h.size) (fun e => by have := hr k e.symm; omega)).trans (h.block k hk hn)⟩
theorem ResM.keep {w w6 w' : World} {base : Nat} {v : Value} {R : List (List Int)} (h : ResM w base v R) (he : Ext w w6) (hg : GrownS (· = w.heap.size) w6 w') : ResM w' base v R := by
  obtain ⟨a, c, h1, h2, h3, h4⟩ := h
  refine ⟨a, c, h1, h2, h3, ?_⟩
  rcases h4 with h4 | ⟨g, tags, h5, h6, h7⟩
  · exact .inl h4
  · refine .inr ⟨g, tags, h5, (h6.ext he).same hg.size (fun b hb' => hg.block b ((h6.ext he).blt hb') (fun e => ?_)), h7⟩
    have := h6.blt hb'
    omega

end Go.Proofs.YtjihfabhgcfjnaaGreatDoor
/- Contracts of package prime: IsPrime, Check. -/
namespace Go.Proofs.YtjihfabhgcfjnaaGreatDoor
set_option linter.unusedVariables false
set_option linter.unusedSimpArgs false
open Go.RowKit

/-- No number from 2 up to below d divides n. -/
def noDiv (n : Int) (d : Nat) : Prop := ∀ k : Nat, 2 ≤ k → k < d → n.tmod (k : Int) ≠ 0
def divB (n : Int) (k : Nat) : Bool := decide (2 ≤ k) && (decide ((k : Int) * (k : Int) ≤ n) && decide (n.tmod (k : Int) = 0))
/-- A prime number up to 97. -/
def primeB (n : Int) : Bool := decide (2 ≤ n) && (decide (n ≤ 97) && !((List.range 98).any (divB n)))
theorem primeB_low {n : Int} (h : ¬ (2 ≤ n ∧ n ≤ 97)) : primeB n = false := by
  unfold primeB
  by_cases h1 : 2 ≤ n
  · rw [decide_eq_false (show ¬ n ≤ 97 from fun h2 => h ⟨h1, h2⟩)]; simp
  · rw [decide_eq_false h1]; rfl
theorem primeB_div {n : Int} {k : Nat} (h1 : 2 ≤ k) (h9 : k < 98) (h2 : (k : Int) * (k : Int) ≤ n) (h3 : n.tmod (k : Int) = 0) : primeB n = false := by
  unfold primeB
  have : (List.range 98).any (divB n) = true := by
    rw [List.any_eq_true]
    exact ⟨k, List.mem_range.2 h9, by unfold divB; rw [decide_eq_true h1, decide_eq_true h2, decide_eq_true h3]; rfl⟩
  rw [this]; simp
theorem primeB_ok {n : Int} {d : Nat} (h1 : 2 ≤ n) (h2 : n ≤ 97) (hd : noDiv n d) (hdd : n < (d : Int) * (d : Int)) : primeB n = true := by
  unfold primeB
  rw [decide_eq_true h1, decide_eq_true h2]
  have : (List.range 98).any (divB n) = false := by
    rw [List.any_eq_false]
    intro k hk
    unfold divB
    intro hh
    rw [Bool.and_eq_true, Bool.and_eq_true, decide_eq_true_iff, decide_eq_true_iff, decide_eq_true_iff] at hh
    obtain ⟨k1, k2, k3⟩ := hh
    by_cases hkd : k < d
    · exact hd k k1 hkd k3
    · have : (d : Int) * (d : Int) ≤ (k : Int) * (k : Int) := Int.mul_le_mul (by omega) (by omega) (by omega) (by omega)
      omega
  rw [this]; rfl

set_option maxRecDepth 100000 in
set_option maxHeartbeats 1000000 in
theorem isPrime_any (n : Int) (w : World) :
    Calls Tryz.prog 124 #[.int .i64 n] w fun e w' => e = .returned (.bool (primeB n)) ∧ w = w' := by
  by_cases h1 : n < 2
  · have HV : Hid (primeB n = false) := primeB_low (by omega)
    go_enter Tryz.func124, Tryz.ntmps124
    go_wp2_with fail
    go_ret
    exact ⟨by rw [HV.out]; rfl, rfl⟩
  · by_cases h2 : 97 < n
    · have HV : Hid (primeB n = false) := primeB_low (by omega)
      go_enter Tryz.func124, Tryz.ntmps124
      go_wp2_with fail
      go_ret
      exact ⟨by rw [HV.out]; rfl, rfl⟩
    · have HN : Hid (2 ≤ n ∧ n ≤ 97) := ⟨by omega, by omega⟩
      go_enter Tryz.func124, Tryz.ntmps124
      go_wp2_with fail
      go_loopw [3] (fun t wr => ∃ d : Nat, 2 ≤ d ∧ d ≤ 98 ∧ t = .int .i64 d ∧ w = wr ∧ Hid (noDiv n d)) (fun t _ => 98 - (intOf t).toNat)
      case atStart => exact ⟨2, by omega, by omega, rfl, rfl, fun k h1 h2 => by omega⟩
      case round =>
        obtain ⟨d, hd, hd2, rfl, rfl, HD⟩ := hrel
        have hdd : (d : Int) * (d : Int) ≤ 9604 := by
          have : (d : Int) * (d : Int) ≤ 98 * 98 := Int.mul_le_mul (by omega) (by omega) (by omega) (by omega)
          omega
        have hdd0 : 0 ≤ (d : Int) * (d : Int) := Int.mul_nonneg (by omega) (by omega)
        have hdd1 : (d : Int) * 2 ≤ (d : Int) * (d : Int) := Int.mul_le_mul_of_nonneg_left (by omega) (by omega)
        have hdz : (d : Int) ≠ 0 := by omega
        obtain ⟨q, hq⟩ : ∃ q, (d : Int) * (d : Int) = q := ⟨_, rfl⟩
        have HQ := Lib.hid hq
        rw [hq] at hdd hdd0 hdd1
        by_cases hle : q ≤ n
        · have hm : (n.tmod (d : Int)).natAbs ≤ n.natAbs := by rw [Int.natAbs_tmod]; exact Nat.mod_le _ _
          obtain ⟨t, ht⟩ : ∃ t, n.tmod (d : Int) = t := ⟨_, rfl⟩
          have HT := Lib.hid ht
          by_cases hz : t = 0
          · have HV : Hid (primeB n = false) := primeB_div hd (by omega) (by rw [HQ.out]; exact hle) (by rw [HT.out]; exact hz)
            subst hz
            clear hm
            go_wp2_with fail
            go_ret
            exact ⟨by rw [HV.out]; rfl, rfl⟩
          · have HD2 : Hid (noDiv n (d + 1)) := fun k k1 k2 => by
              by_cases hk : k = d
              · rw [hk, HT.out]; exact hz
              · exact HD.out k k1 (by omega)
            rw [ht] at hm
            go_wp2_with fail
            go_roundw
            case rel => exact ⟨d + 1, by omega, by omega, by go_num, by first | rfl | trivial, HD2.out⟩
            case measure => simp [intOf]; omega
        · have HV : Hid (primeB n = true) := primeB_ok HN.out.1 HN.out.2 HD.out (by rw [HQ.out]; omega)
          go_wp2_with fail
          go_ret
          exact ⟨by rw [HV.out]; rfl, rfl⟩

/-- The primes behind a place: their first error. -/
def scanP : Option Int → List Int → Int
  | _, [] => 0
  | none, x :: l => if primeB x = true then scanP (some x) l else 25
  | some y, x :: l => if primeB x = true then (if x ≤ y then 6 else scanP (some x) l) else 25
theorem scanP_none (x : Int) (l : List Int) : scanP none (x :: l) = if primeB x = true then scanP (some x) l else 25 := rfl
theorem scanP_some (y x : Int) (l : List Int) : scanP (some y) (x :: l) = if primeB x = true then (if x ≤ y then 6 else scanP (some x) l) else 25 := rfl
def prevP (p : List Int) (j : Nat) : Option Int := if j = 0 then none else p[j - 1]?
/-- The error of a list of primes. -/
def primesE (p : List Int) : Int := if p.length = 0 then 13 else if 6 < p.length then 4 else scanP none p
set_option maxRecDepth 100000 in
set_option maxHeartbeats 2000000 in
theorem primesChk_any (p : List Int) (v : Value) (w : World) (h : Ints w v p) :
    Calls Tryz.prog 75 #[v] w fun e w' => e = .returned (.int .i64 (primesE p)) ∧ w = w' := by
  obtain ⟨a, c, rfl, h1, h2, -, -, hc⟩ := h.open
  have HC := Lib.hid hc
  unfold maxLen at h2
  clear h hc
  by_cases h0 : p.length = 0
  · have HV : Hid (primesE p = 13) := by unfold Hid primesE; rw [if_pos h0]
    rw [HV.out, h0]
    go_enter Tryz.func75, Tryz.ntmps75
    go_wp2_with fail
    go_ret
    exact ⟨rfl, rfl⟩
  by_cases h6 : 6 < p.length
  · have HV : Hid (primesE p = 4) := by unfold Hid primesE; rw [if_neg h0, if_pos h6]
    rw [HV.out]
    have h6' : (6 : Int) < (p.length : Int) := by omega
    have h0' : ¬ (p.length : Int) = 0 := by omega
    go_enter Tryz.func75, Tryz.ntmps75
    go_wp2_with fail
    go_ret
    exact ⟨rfl, rfl⟩
  have HV : Hid (primesE p = scanP none p) := by unfold Hid primesE; rw [if_neg h0, if_neg h6]
  have h6' : ¬ (6 : Int) < (p.length : Int) := by omega
  have h0' : ¬ (p.length : Int) = 0 := by omega
  obtain ⟨E, hE⟩ : ∃ E, primesE p = E := ⟨_, rfl⟩
  rw [hE] at HV ⊢
  clear hE
  go_enter Tryz.func75, Tryz.ntmps75
  go_wp2_with fail
  go_loopw [15] (fun t wr => ∃ j : Nat, j ≤ p.length ∧ t = .int .i64 j ∧ w = wr ∧ Hid (scanP (prevP p j) (p.drop j) = E)) (fun t _ => p.length - (intOf t).toNat)
  case atStart => exact ⟨0, by omega, rfl, rfl, by unfold Hid prevP; rw [if_pos rfl, List.drop_zero]; exact HV.out.symm⟩
  case round =>
    obtain ⟨j, hj, rfl, rfl, HS⟩ := hrel
    by_cases hlt : j < p.length
    · obtain ⟨b, off, rfl, hb, hcell⟩ := HC.out (by intro e; simp [e] at hlt)
      obtain ⟨x, hx⟩ : ∃ x, p[j]? = some x := ⟨p[j], List.getElem?_eq_getElem hlt⟩
      have g1 := hcell j x hx
      have HIP := Lib.hid (isPrime_any x w)
      have hS := HS.out
      rw [drop_cons hx] at hS
      by_cases hp : primeB x = true
      · rw [hp] at HIP
        by_cases hj0 : j = 0
        · subst hj0
          have HS2 : Hid (scanP (prevP p 1) (p.drop 1) = E) := by
            unfold Hid
            have : prevP p 1 = some x := by unfold prevP; rw [if_neg (by omega)]; exact hx
            have h0p : prevP p 0 = none := rfl
            rw [this, ← hS, h0p, scanP_none, if_pos hp]
          rw [Nat.add_zero] at g1
          clear hcell hS HS hx
          go_wp2_with fail
          refine HIP.out.mono ?_
          rintro e w1 ⟨rfl, rfl⟩
          go_wp2_with fail
          go_roundw
          case rel => exact ⟨1, by omega, by go_num, by first | rfl | trivial, HS2.out⟩
          case measure => simp [intOf]; omega
        · obtain ⟨y, hy⟩ : ∃ y, p[j - 1]? = some y := ⟨p[j - 1], List.getElem?_eq_getElem (by omega)⟩
          have g2 := hcell (j - 1) y hy
          have e1 : ((j : Int) - 1) = ((j - 1 : Nat) : Int) := by omega
          have hpv : prevP p j = some y := by unfold prevP; rw [if_neg hj0]; exact hy
          rw [hpv] at hS
          rw [scanP_some, if_pos hp] at hS
          have hjp : (0 : Int) < (j : Int) := by omega
          obtain ⟨k, hk⟩ : ∃ k, k = j - 1 := ⟨_, rfl⟩
          rw [← hk] at g2 e1
          have hk1 : (k : Int) < (p.length : Int) := by omega
          clear hk
          by_cases hxy : x ≤ y
          · rw [if_pos hxy] at hS
            have HS2 := Lib.hid hS
            clear hcell hS HS hx hy hpv hj0
            go_wp2_with fail
            refine HIP.out.mono ?_
            rintro e w1 ⟨rfl, rfl⟩
            go_wp2_with fail
            go_ret
            exact ⟨by rw [← HS2.out]; rfl, rfl⟩
          · rw [if_neg hxy] at hS
            have HS2 : Hid (scanP (prevP p (j + 1)) (p.drop (j + 1)) = E) := by
              unfold Hid
              have : prevP p (j + 1) = some x := by unfold prevP; rw [if_neg (by omega)]; exact hx
              rw [this]; exact hS
            clear hcell hS HS hx hy hpv hj0
            go_wp2_with fail
            refine HIP.out.mono ?_
            rintro e w1 ⟨rfl, rfl⟩
            go_wp2_with fail
            go_roundw
            case rel => exact ⟨j + 1, by omega, by go_num, by first | rfl | trivial, HS2.out⟩
            case measure => simp [intOf]; omega
      · have hpf : primeB x = false := by simpa using hp
        rw [hpf] at HIP
        have HS2 : Hid (E = 25) := by
          unfold Hid
          rw [← hS]
          cases prevP p j with
          | none => rw [scanP_none, if_neg hp]
          | some y => rw [scanP_some, if_neg hp]
        clear hcell hS HS hx hp
        go_wp2_with fail
        refine HIP.out.mono ?_
        rintro e w1 ⟨rfl, rfl⟩
        go_wp2_with fail
        go_ret
        exact ⟨by rw [HS2.out]; rfl, rfl⟩
    · obtain rfl : j = p.length := by omega
      have hS := HS.out
      rw [List.drop_length] at hS
      have HS2 : Hid (E = 0) := by
        unfold Hid
        rw [← hS]
        cases prevP p p.length <;> rfl
      clear hS HS
      go_wp2_with fail
      go_ret
      exact ⟨by rw [HS2.out]; rfl, rfl⟩
end Go.Proofs.YtjihfabhgcfjnaaGreatDoor
/- Contracts of package temperament: same; a temperament in memory. -/
namespace Go.Proofs.YtjihfabhgcfjnaaGreatDoor
set_option linter.unusedVariables false
set_option linter.unusedSimpArgs false
open Go.RowKit

set_option maxRecDepth 100000 in
theorem tsame1_any (x y : List Int) (u v : Value) (w : World) (hx : Ints w u x) (hy : Ints w v y) :
    Calls Tryz.prog 178 #[u, v] w fun e w' => e = .returned (.bool (x == y)) ∧ Ext w w' := by
  have HE := Lib.hid (equalRow_any x y u v w hx hy)
  clear hx hy
  obtain ⟨B, hB⟩ : ∃ B : Bool, (x == y) = B := ⟨_, rfl⟩
  rw [hB] at HE ⊢
  clear hB
  go_enter Tryz.func178, Tryz.ntmps178
  go_wp2_with fail
  refine HE.out.mono ?_
  rintro e w1 ⟨rfl, hE1⟩
  have HE1 := Lib.hid hE1
  clear hE1
  go_wp2_with fail
  go_ret
  exact ⟨rfl, HE1.out⟩
set_option maxRecDepth 100000 in
theorem tsame_any (xss yss : List (List Int)) (u v : Value) (w : World) (hu : Rows2 w u xss) (hv : Rows2 w v yss) :
    Calls Tryz.prog 153 #[u, v] w fun e w' => e = .returned (.bool (xss == yss)) ∧ Ext w w' := by
  have HEQ := Lib.hid (equalFuncMat_any (R := Ints) (fun _ _ _ _ he h => Ints.ext h he) xss yss u v 178 #[] (· == ·) w hu hv (enters_of Tryz.func178 (by kernel_rfl) rfl) (fun W x y a b _ _ _ ha hb => tsame1_any x y a b W ha hb))
  rw [eqBy_beq] at HEQ
  obtain ⟨B, hB⟩ : ∃ B : Bool, (xss == yss) = B := ⟨_, rfl⟩
  rw [hB] at HEQ ⊢
  clear hB hu hv
  go_enter Tryz.func153, Tryz.ntmps153
  go_wp2_with fail
  refine HEQ.out.mono ?_
  rintro e w1 ⟨rfl, hE1⟩
  have HE1 := Lib.hid hE1
  clear hE1
  go_wp2_with fail
  go_ret
  exact ⟨rfl, HE1.out⟩

/-- A temperament in memory. -/
def TempV (w : World) (v : Value) (P : List Int) (C M : List (List Int)) : Prop := ∃ p c m, v = .agg #[p, c, m] ∧ Ints w p P ∧ Rows2 w c C ∧ Rows2 w m M
theorem TempV.ext {w w' : World} {v : Value} {P : List Int} {C M : List (List Int)} (h : TempV w v P C M) (he : Ext w w') : TempV w' v P C M := by
  obtain ⟨p, c, m, h1, h2, h3, h4⟩ := h; exact ⟨p, c, m, h1, h2.ext he, h3.ext he, h4.ext he⟩
theorem tp_block {w : World} {B : Nat} {x y z : Value} (h : w.heap[B]? = some (.cells #[x, y, z] 58 (0, 0))) : w.cell? ⟨B, 0, none⟩ = some x ∧ w.cell? ⟨B, 1, none⟩ = some y ∧ w.cell? ⟨B, 2, none⟩ = some z ∧ ∀ i, w.frozen? ⟨B, i, none⟩ = false := by
  have h0 := block_cell h 0; have h1 := block_cell h 1; have h2 := block_cell h 2
  simp only [List.getElem?_toArray, List.getElem?_cons_zero, List.getElem?_cons_succ] at h0 h1 h2
  exact ⟨h0, h1, h2, block_free h⟩
theorem tp_store {w : World} {B : Nat} {x y z : Value} (h : w.heap[B]? = some (.cells #[x, y, z] 58 (0, 0))) (a b c : Value) : (((w.setCell ⟨B, 0, none⟩ a).setCell ⟨B, 1, none⟩ b).setCell ⟨B, 2, none⟩ c).heap[B]? = some (.cells #[a, b, c] 58 (0, 0)) := by
  have := block_set (block_set (block_set h 0 a) 1 b) 2 c
  simpa using this
theorem tp_new (w : World) (x y z : Value) : ∃ W, w.alloc (.cells #[x, y, z] 58) = W ∧ Ext w W ∧ W.heap.size = w.heap.size + 1 ∧ W.heap[w.heap.size]? = some (.cells #[x, y, z] 58 (0, 0)) := ⟨_, rfl, Ext.alloc _ _, by simp, block_new _ _ _⟩
theorem ext_tp {w W : World} {B : Nat} (hE : Ext w W) (hB : w.heap.size ≤ B) (a b c : Value) : Ext w (((W.setCell ⟨B, 0, none⟩ a).setCell ⟨B, 1, none⟩ b).setCell ⟨B, 2, none⟩ c) :=
  ((hE.setCell (p := ⟨B, 0, none⟩) hB a).setCell (p := ⟨B, 1, none⟩) hB b).setCell (p := ⟨B, 2, none⟩) hB c
end Go.Proofs.YtjihfabhgcfjnaaGreatDoor
/- Contracts of generic functions of package slices at api.Primes. -/
namespace Go.Proofs.YtjihfabhgcfjnaaGreatDoor
set_option linter.unusedVariables false
set_option linter.unusedSimpArgs false
open Go.RowKit


set_option maxHeartbeats 400000 in
/-- slices.Clone: a row of the call's own. -/
theorem clonePrimes_any (xs : List Int) (v : Value) (w : World) (h : Ints w v xs) (hlen : xs.length ≤ 1000000) :
    Calls Tryz.prog 80 #[v] w fun e w' => ∃ r, e = .returned r ∧ Ext w w' ∧ w'.ownsRow w.heap.size 3 1 r xs.length (xs.map (Value.int .i64)) := by
  obtain ⟨a, c, rfl, h1, h2, h3, hb, hc⟩ := h.open
  obtain ⟨i0, hi, hz0, hz1, hz2⟩ := info_parts infoInt
  have HI := Lib.hid hi; have HZ0 := Lib.hid hz0; have HZ1 := Lib.hid hz1; have HZ2 := Lib.hid hz2
  have HB := Lib.hid hb
  have HC := Lib.hid hc
  clear hi hz0 hz1 hz2 hb hc h
  unfold maxLen at h2
  cases a with
  | none =>
    have h0 : xs = [] := by have := h3 rfl; exact List.eq_nil_of_length_eq_zero (by omega)
    subst h0
    obtain rfl : c = 0 := h3 rfl
    clear h3 h1 h2 hlen
    have heq := fun w => Lib.run_eql_slice_nil (P := Tryz.prog) w 51 3 none 0 0 0 0 Tryz.underlying51
    go_enter Tryz.func80, Tryz.ntmps80
    go_wp2
    go_ret
    exact ⟨_, rfl, Ext.refl _, World.ownsRow_nil _ _ _ _⟩
  | some ad =>
    clear h3
    have heq := fun w => Lib.run_eql_slice_nil (P := Tryz.prog) w 51 3 (some ad) xs.length c 0 0 Tryz.underlying51
    have hown : (w.alloc (.cells #[] 3)).ownsRow w.heap.size 3 1 (.slice (some ⟨w.heap.size, 0, none⟩) 0 0) 0 [] := World.ownsRow_made w #[] 0 (Nat.le_refl _) (Nat.zero_le _) rfl
    have hnews : ∀ (j : Nat) (u : Value), (xs.map (Value.int .i64))[j]? = some u → (w.alloc (.cells #[] 3)).cell? (ad.add j) = some u := by
      intro j u hu
      rw [List.getElem?_map] at hu
      cases hj : xs[j]? with
      | none => simp [hj] at hu
      | some x =>
        simp [hj] at hu; subst hu
        obtain ⟨b, off, hab, hbw, hcell⟩ := HC.out (by intro e; simp [e] at hj)
        cases hab
        have := hcell j x hj
        rw [show (⟨b, off, none⟩ : Addr).add j = ⟨b, off + j, none⟩ by unfold Addr.add; split <;> simp_all]
        exact Ext.cell (Ext.alloc w _) this
    have HOWN := Lib.hid hown; have HNEWS := Lib.hid hnews
    clear hown hnews
    go_enter Tryz.func80, Tryz.ntmps80
    go_wp2_with (at_builtin; refine wpList_append_own _ rfl _ _ 51 rfl w.heap.size 3 i0 (.int .i64 0) 1 8 Tryz.underlying51 HI.out HZ0.out HZ1.out HZ2.out rfl (by decide) _ _ _ rfl HOWN.out ad xs.length c (xs.map (Value.int .i64)) rfl ?d1 HNEWS.out ?d2 ?d3 ?d4 ?d5 ?_)
    case d1 => simp
    case d2 => exact ints_oneCell _ _
    case d3 => unfold maxLen; omega
    case d4 => omega
    case d5 => simp
    intro v' w1 hown' hgrow _
    have HO := Lib.hid hown'; have HG := Lib.hid hgrow
    clear hown' hgrow
    go_wp2
    go_ret
    refine ⟨v', rfl, ?_, ?_⟩
    · exact Below.grown (Ext.alloc w _) HG.out (by simp) (by intro k hk; simp [Value.ownBlock] at hk; omega)
    · have := HO.out
      simpa using this


set_option maxHeartbeats 400000 in
/-- slices.Equal. -/
theorem equalPrimes_any (xs ys : List Int) (u v : Value) (w : World) (h : Ints w u xs) (k : Ints w v ys) :
    Calls Tryz.prog 25 #[u, v] w fun e w' => e = .returned (.bool (xs == ys)) ∧ Ext w w' := by
  obtain ⟨a, c, rfl, h1, h2, -, hxb, hc⟩ := h.open
  obtain ⟨a', c', rfl, k1, k2, -, hyb, kc⟩ := k.open
  have HC := Lib.hid hc; have KC := Lib.hid kc
  clear hc kc h k hxb hyb
  unfold maxLen at h2 k2
  by_cases hl : xs.length = ys.length
  · have hn : ((xs.length : Int) != (ys.length : Int)) = false := by simp [hl]
    have hle1 : xs.length ≤ ys.length := by omega
    have hle2 : ys.length ≤ xs.length := by omega
    have HL := Lib.hid hl
    clear hl
    go_enter Tryz.func25, Tryz.ntmps25
    go_wp2
    go_loopw [13] (fun t wr => ∃ j : Nat, j ≤ xs.length ∧ t = .int .i64 j ∧ Ext w wr ∧ Hid (xs.take j = ys.take j)) (fun t _ => xs.length - (intOf t).toNat)
    case atStart => exact ⟨0, by omega, rfl, Ext.refl _, rfl⟩
    case round =>
      obtain ⟨j, hj, rfl, hE, HT⟩ := hrel
      by_cases hlt : j < xs.length
      · obtain ⟨b, off, rfl, hb, hcell⟩ := HC.out (by intro e; simp [e] at hlt)
        obtain ⟨b', off', rfl, hb', hcell'⟩ := KC.out (by intro e; simp [e] at hle1; simp [hle1] at hlt)
        obtain ⟨x, hx⟩ : ∃ x, xs[j]? = some x := ⟨xs[j], List.getElem?_eq_getElem hlt⟩
        obtain ⟨y, hy⟩ : ∃ y, ys[j]? = some y := ⟨ys[j]'(by omega), List.getElem?_eq_getElem _⟩
        have g1 := hE.cell (hcell j x hx)
        have g2 := hE.cell (hcell' j y hy)
        have q1 : (j : Int) < (xs.length : Int) := by omega
        have q2 : (j : Int) < (ys.length : Int) := by omega
        have HX := Lib.hid hx; have HY := Lib.hid hy
        clear hcell hcell' hx hy
        by_cases hxy : x = y
        · have hb : (x != y) = false := by simp [hxy]
          have HT' : Hid (xs.take (j + 1) = ys.take (j + 1)) := by
            unfold Hid; rw [List.take_add_one, List.take_add_one, HX.out, HY.out, HT.out, hxy]
          clear hxy
          go_wp2
          go_quiet (fail)
          go_wp2
          go_roundw
          case rel => exact ⟨j + 1, by omega, by go_num, Ext.draws hE _, HT'⟩
          case measure => simp [intOf]; omega
        · have hb : (x != y) = true := by simp [hxy]
          have HF : Hid ((xs == ys) = false) := by
            unfold Hid
            rw [beq_eq_false_iff_ne]
            intro e
            have e1 := HX.out; have e2 := HY.out
            rw [e, e2] at e1
            exact hxy (by simpa using e1.symm)
          clear hxy
          go_wp2
          go_quiet (fail)
          go_wp2
          go_ret
          rw [HF.out]
          exact ⟨rfl, Ext.draws hE _⟩
      · have hge : xs.length ≤ j := by omega
        have HTr : Hid ((xs == ys) = true) := by
          unfold Hid
          have e := HT.out
          rw [List.take_of_length_le (by omega), List.take_of_length_le (by omega)] at e
          simp [e]
        go_wp2
        go_ret
        rw [HTr.out]
        exact ⟨rfl, hE⟩
  · have hn : ((xs.length : Int) != (ys.length : Int)) = true := by simp; omega
    have HF : Hid ((xs == ys) = false) := by
      unfold Hid
      rw [beq_eq_false_iff_ne]
      intro e
      exact hl (by rw [e])
    clear hl
    go_enter Tryz.func25, Tryz.ntmps25
    go_wp2
    go_ret
    rw [HF.out]
    exact ⟨rfl, Ext.refl _⟩

end Go.Proofs.YtjihfabhgcfjnaaGreatDoor
