/- Merged: GrowL, MakesA, WholeSub, WholeZ, Whole3. -/
import Derived.Test.YtielnneclcekbaaGreatDoorQAR
import Derived.Test.YtielnneclcekbaaGreatDoorQAT
import Derived.Test.YtielnneclcekbaaGreatDoorQAI
import Derived.Test.YtielnneclcekbaaGreatDoorQAL
import Derived.Test.YtielnneclcekbaaGreatDoorQAE
/- The lattice of a plan: its form, and the classes of rows. No program is named here. -/
namespace Go.Proofs.YtielnneclcekbaaGreatDoor
set_option linter.unusedVariables false
set_option linter.unusedSimpArgs false
open Go.RowKit

theorem rowE_mem {m : List (List Int)} {i : Nat} (hi : i < m.length) : rowE_ m i ∈ m := List.mem_of_getElem? (rowE_get hi)
theorem mem_rowE {m : List (List Int)} {x : List Int} (hx : x ∈ m) : ∃ i, i < m.length ∧ rowE_ m i = x := by
  obtain ⟨i, hi⟩ := List.getElem?_of_mem hx
  exact ⟨i, (List.getElem?_eq_some_iff.1 hi).1, rowE_of hi⟩
theorem smB_small {x : Int} (h : x.natAbs ≤ 1000000000) : smB x = true := smB_of (K := 10) (by decide) (by decide) (Nat.lt_of_le_of_lt h (by decide))
theorem all_smB {r : List Int} (h : RowLe 1000000000 r) : r.all smB = true := by
  rw [List.all_eq_true]; exact fun x hx => smB_small (h x hx)
theorem okRow_of {r : List Int} (hl : r.length ≤ 64) (h : RowLe 1000000000 r) : okRow r := ⟨hl, fun x hx => by have := h x hx; omega⟩
theorem allE_of {n : Nat} : ∀ {R : List (List Int)}, (∀ r ∈ R, okRow r ∧ r.length = n) → allE n R = 0
  | [], _ => rfl
  | r :: l, h => by
    have hr := h r (by simp)
    unfold allE
    rw [if_pos ((rowE_zero r).2 hr.1), if_pos (by omega)]
    exact allE_of fun x hx => h x (by simp [hx])

/-- The form of few small rows. -/
theorem plan_form (n : Nat) (m : List (List Int)) (hn : n ≤ 12) (hm : m.length ≤ 4) (hw : ∀ x ∈ m, x.length = n) (h9 : ∀ x ∈ m, RowLe 9 x) :
    ∃ F R ps, formO n F n m = some R ∧ HForm n R ps ∧ R.length ≤ 4 ∧ (∀ x ∈ R, RowLe 629856 x ∧ x.length = n) ∧ SpEq n (RowsFrom 0 m) (RowsFrom 0 R) ∧ chkE n R = 0 ∧ ∃ F', formO n F' n R = some R := by
  obtain ⟨F, R, ps, h1, h2, h3, -, h5⟩ := form_all n 4 1 m hw (fun x hx => (h9 x hx).mono (by decide)) (.inl hm) (by decide) (by decide)
  have hR4 : R.length ≤ 4 := by omega
  have hb : ∀ x ∈ R, RowLe 629856 x ∧ x.length = n := by
    intro x hx
    obtain ⟨i, hi, rfl⟩ := mem_rowE hx
    refine ⟨(form_bound (N := 9) h3 (fun j hj => hw _ (rowE_mem hj)) (fun j hj => h9 _ (rowE_mem hj)) h5 i hi).mono ?_, h3.1 i hi⟩
    have hc : R.length = 0 ∨ R.length = 1 ∨ R.length = 2 ∨ R.length = 3 ∨ R.length = 4 := by omega
    rcases hc with h | h | h | h | h <;> rw [h] <;> decide
  have hk : chkE n R = 0 := by
    unfold chkE
    have hl : latE n R = 0 := by
      unfold latE
      rw [if_neg (by omega), if_neg (by omega)]
      exact allE_of fun r hr => ⟨okRow_of (by have := (hb r hr).2; omega) ((hb r hr).1.mono (by decide)), (hb r hr).2⟩
    rw [if_pos hl, if_pos (hform_herm h3)]
  refine ⟨F, R, ps, h1, h3, hR4, hb, h5, hk, ?_⟩
  obtain ⟨F', R', ps', g1, g2, g3, -, g5⟩ := form_all n 4 6 R (fun x hx => (hb x hx).2) (fun x hx => (hb x hx).1.mono (by decide)) (.inl hR4) (by decide) (by decide)
  exact ⟨F', by rw [g1, hform_unique g3 h3 g5.symm]⟩

/-- A small row, reduced. -/
theorem plan_red {n : Nat} {R : List (List Int)} {ps : Nat → Nat} (hR : HForm n R ps) (h4 : R.length ≤ 4) (hb : ∀ x ∈ R, RowLe 629856 x ∧ x.length = n) {v : List Int} (hv : v.length = n) (hva : RowLe 1000000000 v) :
    ∃ s ms, redO R v R.length = some (s, ms) ∧ s.length = n ∧ s.all smB = true ∧ Sp n (RowsFrom 0 R) (lessL 1 v s) ∧ RedP R ps R.length s := by
  have hk : 10 + R.length * (6 + 1) + 1 ≤ 100 := by omega
  obtain ⟨s, ms, e1, e2, e3, e4, e5⟩ := red_ok (K := 100) (e := 6) (a := 10) (by decide) hR (fun i hi => (hb _ (rowE_mem hi)).1.mono (by decide)) hv (hva.mono (by decide)) (by decide) R.length (Nat.le_refl _) hk
  refine ⟨s, ms, e1, e2, ?_, e4, e5⟩
  rw [List.all_eq_true]
  exact fun x hx => smB_of (K := 100) (by decide) (by decide) (Nat.lt_of_le_of_lt (e3 x hx) (Nat.pow_lt_pow_right (by decide) (by omega)))
/-- A row without a first element is a row of zeros. -/
theorem lead_none {n : Nat} {s : List Int} (hs : s.length = n) : leadL s < 0 ↔ s = List.replicate n 0 := by
  unfold leadL
  cases hf : s.findIdx? (· != 0) with
  | none =>
    simp only
    refine ⟨fun _ => ?_, fun _ => by decide⟩
    rw [List.findIdx?_eq_none_iff] at hf
    refine List.eq_replicate_iff.2 ⟨hs, fun x hx => ?_⟩
    simpa using hf x hx
  | some i =>
    simp only
    refine ⟨fun h => by omega, fun h => ?_⟩
    obtain ⟨hi, h1, -⟩ := List.findIdx?_eq_some_iff_getElem.1 hf
    subst h
    simp at h1
/-- The law of the classes. -/
theorem class_law {n : Nat} {R : List (List Int)} {ps : Nat → Nat} (hR : HForm n R ps) {x y d r s t : List Int} (hx : x.length = n) (hy : y.length = n) (hd : d = lessL 1 x y)
    (h1 : r.length = n ∧ Sp n (RowsFrom 0 R) (lessL 1 x r) ∧ RedP R ps R.length r) (h2 : s.length = n ∧ Sp n (RowsFrom 0 R) (lessL 1 y s) ∧ RedP R ps R.length s) (h3 : t.length = n ∧ Sp n (RowsFrom 0 R) (lessL 1 d t) ∧ RedP R ps R.length t) :
    (r == s) = decide (leadL t < 0) := by
  have e1 := red_same hR hx hy h1.1 h2.1 h1.2.1 h2.2.1 h1.2.2 h2.2.2
  have hdl : d.length = n := by rw [hd, lessL_len]; exact hx
  have e2 := red_zero hR hdl h3.1 h3.2.1 h3.2.2
  rw [hd] at e2
  have e3 := lead_none h3.1
  have e4 : r = s ↔ leadL t < 0 := by rw [e1, e3, e2]
  by_cases h : r = s
  · rw [decide_eq_true (e4.1 h)]; simpa using h
  · rw [decide_eq_false (fun h' => h (e4.2 h'))]; simpa using h
/-- The row of zeros is its own representative. -/
theorem zero_law {n : Nat} {R : List (List Int)} {ps : Nat → Nat} (hR : HForm n R ps) {s : List Int} (h1 : s.length = n ∧ Sp n (RowsFrom 0 R) (lessL 1 (List.replicate n 0) s) ∧ RedP R ps R.length s) : s = List.replicate n 0 :=
  (red_zero hR (by simp) h1.1 h1.2.1 h1.2.2).2 .zero
end Go.Proofs.YtielnneclcekbaaGreatDoor
/- Contracts for LatticeMakes: law 09's great; the form of whatever rows. -/
namespace Go.Proofs.YtielnneclcekbaaGreatDoor
set_option linter.unusedVariables false
set_option linter.unusedSimpArgs false
open Go.RowKit

/-- All elements are from -9 to 9. -/
def nineB (r : List Int) : Bool := r.all fun x => decide (x ≤ 9) && decide (-9 ≤ x)
def greatB (xss : List (List Int)) : Bool := !(xss.all nineB)
theorem nineB_le {r : List Int} (h : nineB r = true) : RowLe 9 r := by
  intro x hx
  have := List.all_eq_true.1 h x hx
  simp at this
  omega
theorem greatB_false {xss : List (List Int)} (h : greatB xss = false) : ∀ r ∈ xss, RowLe 9 r := by
  intro r hr
  unfold greatB at h
  have h1 : xss.all nineB = true := by simpa using h
  exact nineB_le (List.all_eq_true.1 h1 r hr)

set_option maxRecDepth 100000 in
set_option maxHeartbeats 4000000 in
theorem great9_any (xss : List (List Int)) (v : Value) (w : World) (h : Rows2 w v xss) :
    Calls Tryz.prog 15 #[v] w fun e w' => e = .returned (.bool (greatB xss)) ∧ Ext w w' := by
  obtain ⟨a, c, rfl, h1, h2, -, hc⟩ := inCell.open h
  have HC := Lib.hid hc
  unfold maxLen at h2
  clear h hc
  go_enter Tryz.func15, Tryz.ntmps15
  go_wp2_with fail
  go_loopw [3] (fun t wr => ∃ j : Nat, j ≤ xss.length ∧ t = .int .i64 j ∧ w = wr ∧ Hid ((xss.take j).all nineB = true)) (fun t _ => xss.length - (intOf t).toNat)
  case atStart => exact ⟨0, by omega, rfl, rfl, rfl⟩
  case round =>
    obtain ⟨j, hj, rfl, rfl, HA⟩ := hrel
    by_cases hlt : j < xss.length
    · obtain ⟨b, off, rfl, hb, hcell⟩ := HC.out (by intro e; simp [e] at hlt)
      obtain ⟨x, hx⟩ : ∃ x, xss[j]? = some x := ⟨xss[j], List.getElem?_eq_getElem hlt⟩
      obtain ⟨vx, hvx, hcx⟩ := hcell j x hx
      obtain ⟨ax, cx, rfl, x1, x2, -, xb, xc⟩ := hvx.open
      have HXC := Lib.hid xc; have HXB := Lib.hid xb
      unfold maxLen at x2
      have HN : Hid (nineB x = true → (xss.take (j + 1)).all nineB = true) := fun hn => by
        rw [List.take_add_one, hx, List.all_append, HA.out]; simp [hn]
      have HSB : Hid (nineB x = false → greatB xss = true) := fun hn => by
        unfold greatB
        have : xss.all nineB = false := by
          rw [List.all_eq_false]
          exact ⟨x, List.mem_of_getElem? hx, by simp [hn]⟩
        rw [this]; rfl
      clear hvx hx hcell xc xb
      go_wp2_with fail
      go_loopw [4] (fun t wr => ∃ k : Nat, k ≤ x.length ∧ t = .int .i64 k ∧ w = wr ∧ Hid (nineB (x.take k) = true)) (fun t _ => x.length - (intOf t).toNat)
      case atStart => exact ⟨0, by omega, rfl, rfl, rfl⟩
      case round =>
        obtain ⟨k, hk, rfl, rfl, HK⟩ := hrel
        by_cases hlk : k < x.length
        · obtain ⟨b2, off2, rfl, hb2, hc2⟩ := HXC.out (by intro e; simp [e] at hlk)
          obtain ⟨y, hy⟩ : ∃ y, x[k]? = some y := ⟨x[k], List.getElem?_eq_getElem hlk⟩
          have g1 := hc2 k y hy
          have hyb := HXB.out y (List.mem_of_getElem? hy)
          have HM : Hid (y ≤ 9 → -9 ≤ y → nineB (x.take (k + 1)) = true) := fun a1 a2 => by
            have h0 := HK.out
            unfold nineB at h0 ⊢
            rw [List.take_add_one, hy, List.all_append, h0]; simp [a1, a2]
          have HG : Hid (¬ (y ≤ 9 ∧ -9 ≤ y) → nineB x = false) := fun hn => by
            unfold nineB
            rw [List.all_eq_false]
            exact ⟨y, List.mem_of_getElem? hy, by simp; omega⟩
          clear hy hc2
          by_cases h9 : (9 : Int) < y
          · have HF := Lib.hid (HSB.out (HG.out (by omega)))
            clear HG HM HN HSB
            go_wp2_with fail
            go_ret
            rw [HF.out]
            exact ⟨rfl, Ext.refl _⟩
          · by_cases h8 : y < -9
            · have HF := Lib.hid (HSB.out (HG.out (by omega)))
              clear HG HM HN HSB
              go_wp2_with fail
              go_ret
              rw [HF.out]
              exact ⟨rfl, Ext.refl _⟩
            · have HK2 := Lib.hid (HM.out (by omega) (by omega))
              clear HG HM
              go_wp2_with fail
              go_roundw
              case rel => exact ⟨k + 1, by omega, by go_num, by first | rfl | trivial, HK2.out⟩
              case measure => simp [intOf]; omega
        · obtain rfl : k = x.length := by omega
          have hK := HK.out
          rw [List.take_length] at hK
          have HN2 := Lib.hid (HN.out hK)
          clear HN HSB hK
          go_wp2_with fail
          go_roundw
          case rel => exact ⟨j + 1, by omega, by go_num, by first | rfl | trivial, HN2.out⟩
          case measure => simp [intOf]; omega
    · obtain rfl : j = xss.length := by omega
      have HS : Hid (greatB xss = false) := by
        unfold Hid greatB
        have := HA.out
        rw [List.take_length] at this
        rw [this]; rfl
      go_wp2_with fail
      go_ret
      rw [HS.out]
      exact ⟨rfl, Ext.refl _⟩

/-- The form of whatever right rows. -/
theorem rows_form (n : Nat) (m : List (List Int)) (hn : n ≤ 12) (hm : m.length ≤ 12) (hw : ∀ x ∈ m, x.length = n) (hb : ∀ x ∈ m, RowLe 1000000000 x) :
    ∃ F R ps, formO n F n m = some R ∧ HForm n R ps ∧ R.length ≤ 12 ∧ (∀ x ∈ R, x.all smB = true ∧ x.length = n) ∧ SpEq n (RowsFrom 0 m) (RowsFrom 0 R) := by
  obtain ⟨F, R, ps, h1, h2, h3, h4, h5⟩ := form_all n 12 9 m hw (fun x hx => (hb x hx).mono (by decide)) (.inl hm) (by decide) (by decide)
  refine ⟨F, R, ps, h1, h3, by omega, fun x hx => ⟨?_, ?_⟩, h5⟩
  · rw [List.all_eq_true]
    intro y hy
    have h6 := h4 x hx y hy
    refine smB_of (K := (gN 12 9 0).2 + 1) (by decide) (by omega) (Nat.lt_of_le_of_lt h6 ?_)
    exact Nat.pow_lt_pow_right (by decide) (by omega)
  · obtain ⟨i, hi, rfl⟩ := mem_rowE hx
    exact h3.1 i hi
end Go.Proofs.YtielnneclcekbaaGreatDoor
/- Contract of whole.Sub at integers of any size. -/
namespace Go.Proofs.YtielnneclcekbaaGreatDoor
set_option linter.unusedVariables false
set_option linter.unusedSimpArgs false
open Go.RowKit

set_option maxRecDepth 100000 in
set_option maxHeartbeats 400000 in
theorem subI_any (x y : Int) (w : World) (hx : (intB x).size ≤ 2800000000) (hy : (intB y).size ≤ 2800000000) (ht : Pow10 w) :
    Calls Tryz.prog 103 #[.string (intB x), .string (intB y)] w fun e w' => e = .returned (.string (intB (x - y))) ∧ Ext w w' := by
  have HN := Lib.hid (neg_any y w (by omega))
  have hny : (intB (-y)).size ≤ 2900000000 := by
    have h1 := intB_size_le (-y)
    have h2 := natAbs_le y
    rw [Int.natAbs_neg] at h1
    omega
  have HA : Hid (∀ W, Ext w W → Calls Tryz.prog 124 #[.string (intB x), .string (intB (-y))] W fun e w' => e = .returned (.string (intB (x + -y))) ∧ Ext W w') := fun W hE => addI_any x (-y) W (by omega) hny (ht.ext hE)
  rw [show x + -y = x - y by omega] at HA
  clear ht hx hy hny
  go_enter Tryz.func103, Tryz.ntmps103
  go_wp2_with fail
  refine HN.out.mono ?_
  rintro e w0 ⟨rfl, hE0⟩
  have HE0 := Lib.hid hE0
  clear HN hE0
  go_wp2_with fail
  refine (HA.out _ HE0.out).mono ?_
  rintro e w1 ⟨rfl, hE1⟩
  have HE1 := Lib.hid (Ext.trans HE0.out hE1)
  clear hE1 HA
  go_wp2_with fail
  go_ret
  exact ⟨rfl, HE1.out⟩
end Go.Proofs.YtielnneclcekbaaGreatDoor
/- Package whole at the numbers of the lattice's forms: bounds on their sizes; contracts handed on. -/
namespace Go.Proofs.YtielnneclcekbaaGreatDoor
set_option linter.unusedVariables false
set_option linter.unusedSimpArgs false
open Go.RowKit

def Sz (n : Int) : Prop := (numB n.natAbs).size ≤ 1000000000
def Sz9 (n : Int) : Prop := (numB n.natAbs).size ≤ 400000000
theorem sm_of {n : Int} (h : smB n = true) : Sz n := (smB_iff n).1 h
theorem sm9_of {n : Int} (h : sm9B n = true) : Sz9 n := (sm9B_iff n).1 h
theorem Sz.size {n : Int} (h : Sz n) : (intB n).size ≤ 1000000001 := by
  unfold Sz at h; have := intB_size_le n; omega
theorem Sz9.size {n : Int} (h : Sz9 n) : (intB n).size ≤ 400000001 := by
  unfold Sz9 at h; have := intB_size_le n; omega
theorem Sz.natAbs {n : Int} (h : Sz n) : Sz (n.natAbs : Int) := by
  unfold Sz at h ⊢; rw [Int.natAbs_natCast]; exact h
theorem Sz.neg {n : Int} (h : Sz n) : Sz (-n) := by
  unfold Sz at h ⊢; rw [Int.natAbs_neg]; exact h
theorem mul_size (x y : Int) : (intB (x * y)).size ≤ (intB x).size + (intB y).size + 1 := by
  have h1 := intB_size_le (x * y)
  have h2 := natAbs_le x
  have h3 := natAbs_le y
  have h4 := num_mul_size x.natAbs y.natAbs
  rw [Int.natAbs_mul] at h1
  omega
theorem mulZ (x y : Int) (w : World) (hx : Sz9 x) (hy : Sz9 y) (ht : Pow10 w) :
    Calls Tryz.prog 54 #[.string (intB x), .string (intB y)] w fun e w' => e = .returned (.string (intB (x * y))) ∧ Ext w w' :=
  mulI_any x y w (by have := hx.size; omega) (by have := hy.size; omega) ht
theorem subZ (x y : Int) (w : World) (hx : Sz x) (hy : (intB y).size ≤ 1000000001) (ht : Pow10 w) :
    Calls Tryz.prog 103 #[.string (intB x), .string (intB y)] w fun e w' => e = .returned (.string (intB (x - y))) ∧ Ext w w' :=
  subI_any x y w (by have := hx.size; omega) (by omega) ht
theorem divModZ (x y : Int) (w : World) (hx : Sz x) (hy : Sz y) (h0 : y ≠ 0) (ht : Pow10 w) :
    Calls Tryz.prog 56 #[.string (intB x), .string (intB y)] w fun e w' => e = .returned (.tuple #[.string (intB (fdq x y)), .string (intB (fdr x y)), .int .i64 0]) ∧ Ext w w' :=
  divModI_any x y w (by have := hx.size; omega) (by have := hy.size; omega) h0 ht
theorem sign_cmp (x y : Int) (h : x.sign ≠ y.sign) : (x.sign < y.sign ↔ x < y) ∧ x ≠ y := by
  rcases Int.lt_trichotomy x 0 with hx | hx | hx <;> rcases Int.lt_trichotomy y 0 with hy | hy | hy
  all_goals first
    | (rw [Int.sign_eq_neg_one_of_neg hx] at h ⊢) | (rw [hx] at h ⊢; rw [show (0 : Int).sign = 0 from rfl] at h ⊢) | (rw [Int.sign_eq_one_of_pos hx] at h ⊢)
  all_goals first
    | (rw [Int.sign_eq_neg_one_of_neg hy] at h ⊢) | (rw [hy] at h ⊢; rw [show (0 : Int).sign = 0 from rfl] at h ⊢) | (rw [Int.sign_eq_one_of_pos hy] at h ⊢)
  all_goals first | (exact absurd rfl h) | omega
def cmpI (x y : Int) : Int := if x < y then -1 else if x = y then 0 else 1
end Go.Proofs.YtielnneclcekbaaGreatDoor
/- Contracts of package whole: Compare. -/
namespace Go.Proofs.YtielnneclcekbaaGreatDoor
set_option linter.unusedVariables false
set_option linter.unusedSimpArgs false
open Go.RowKit

theorem natAbs_size (n : Int) (hs : (intB n).size ≤ 10000000000) : (numB n.natAbs).size ≤ 10000000000 := by
  by_cases h : n < 0
  · have := intB_size_neg n h; omega
  · rw [intB_pos n (by omega)] at hs; rw [show n.natAbs = n.toNat by omega]; exact hs

set_option maxRecDepth 100000 in
set_option maxHeartbeats 800000 in
theorem compare_q (x y : Int) (w : World) (hx : (intB x).size ≤ 10000000000) (hy : (intB y).size ≤ 10000000000) :
    Calls Tryz.prog 76 #[.string (intB x), .string (intB y)] w fun e w' => e = .returned (.int .i64 (cmpI x y)) ∧ ∃ k, w' = w.drewN k := by
  have H1 := Lib.hid (fun W => sign_any x W)
  have H2 := Lib.hid (fun W => sign_any y W)
  have H3 := Lib.hid (fun W => split_q x W)
  have H4 := Lib.hid (fun W => split_q y W)
  have H5 := Lib.hid (fun W => decCompare_any x.natAbs y.natAbs W (natAbs_size x hx) (natAbs_size y hy))
  have H6 := Lib.hid (fun W => decCompare_any y.natAbs x.natAbs W (natAbs_size y hy) (natAbs_size x hx))
  by_cases hs : x.sign = y.sign
  · obtain ⟨s, hsx⟩ : ∃ s, x.sign = s := ⟨_, rfl⟩
    rw [hsx] at H1
    rw [← hs, hsx] at H2
    by_cases hn : x < 0
    · have hyn : y < 0 := by
        rw [Int.sign_eq_neg_one_of_neg hn] at hs
        exact Int.sign_eq_neg_one_iff_neg.1 hs.symm
      have HC : Hid (cmpN y.natAbs x.natAbs = cmpI x y) := by
        unfold Hid cmpN cmpI
        rcases Int.lt_trichotomy x y with h | h | h
        · rw [if_pos (by omega), if_pos h]
        · rw [if_neg (by omega), if_pos (by omega), if_neg (by omega), if_pos h]
        · rw [if_neg (by omega), if_neg (by omega), if_neg (by omega), if_neg (by omega)]
      rw [HC.out] at H6
      have hb : decide (x < 0) = true := decide_eq_true hn
      have hb2 : decide (y < 0) = true := decide_eq_true hyn
      rw [hb] at H3
      rw [hb2] at H4
      have hss : (s != s) = false := by simp
      clear hs hsx hn hyn hb hb2 HC H5
      go_enter Tryz.func76, Tryz.ntmps76
      go_wp2_with fail
      refine (H1.out _).mono ?_
      rintro e w' ⟨rfl, rfl⟩
      clear H1
      go_wp2_with fail
      refine (H2.out _).mono ?_
      rintro e w' ⟨rfl, rfl⟩
      clear H2
      go_wp2_with fail
      refine (H3.out _).mono ?_
      rintro e w1 ⟨rfl, k1, rfl⟩
      clear H3
      go_wp2_with fail
      refine (H4.out _).mono ?_
      rintro e w2 ⟨rfl, k2, rfl⟩
      clear H4
      go_wp2_with fail
      refine (H6.out _).mono ?_
      rintro e w' ⟨rfl, rfl⟩
      clear H6
      go_wp2_with fail
      go_ret
      exact ⟨rfl, _, rfl⟩
    · have hyn : ¬ y < 0 := by
        intro h
        rw [Int.sign_eq_neg_one_of_neg h] at hs
        exact hn (Int.sign_eq_neg_one_iff_neg.1 hs)
      have HC : Hid (cmpN x.natAbs y.natAbs = cmpI x y) := by
        unfold Hid cmpN cmpI
        rcases Int.lt_trichotomy x y with h | h | h
        · rw [if_pos (by omega), if_pos h]
        · rw [if_neg (by omega), if_pos (by omega), if_neg (by omega), if_pos h]
        · rw [if_neg (by omega), if_neg (by omega), if_neg (by omega), if_neg (by omega)]
      rw [HC.out] at H5
      have hb : decide (x < 0) = false := decide_eq_false hn
      have hb2 : decide (y < 0) = false := decide_eq_false hyn
      rw [hb] at H3
      rw [hb2] at H4
      have hss : (s != s) = false := by simp
      clear hs hsx hn hyn hb hb2 HC H6
      go_enter Tryz.func76, Tryz.ntmps76
      go_wp2_with fail
      refine (H1.out _).mono ?_
      rintro e w' ⟨rfl, rfl⟩
      clear H1
      go_wp2_with fail
      refine (H2.out _).mono ?_
      rintro e w' ⟨rfl, rfl⟩
      clear H2
      go_wp2_with fail
      refine (H3.out _).mono ?_
      rintro e w1 ⟨rfl, k1, rfl⟩
      clear H3
      go_wp2_with fail
      refine (H4.out _).mono ?_
      rintro e w2 ⟨rfl, k2, rfl⟩
      clear H4
      go_wp2_with fail
      refine (H5.out _).mono ?_
      rintro e w' ⟨rfl, rfl⟩
      clear H5
      go_wp2_with fail
      go_ret
      exact ⟨rfl, _, rfl⟩
  · obtain ⟨hc1, hc2⟩ := sign_cmp x y hs
    obtain ⟨s, hsx⟩ : ∃ s, x.sign = s := ⟨_, rfl⟩
    obtain ⟨t, hty⟩ : ∃ t, y.sign = t := ⟨_, rfl⟩
    rw [hsx] at H1 hs hc1
    rw [hty] at H2 hs hc1
    have hst : (s != t) = true := by simpa using hs
    clear H3 H4 H5 H6 hsx hty hs
    by_cases hlt : s < t
    · have HC : Hid (cmpI x y = -1) := by unfold Hid cmpI; rw [if_pos (hc1.1 hlt)]
      rw [HC.out]
      clear HC hc1 hc2
      go_enter Tryz.func76, Tryz.ntmps76
      go_wp2_with fail
      refine (H1.out _).mono ?_
      rintro e w' ⟨rfl, rfl⟩
      clear H1
      go_wp2_with fail
      refine (H2.out _).mono ?_
      rintro e w' ⟨rfl, rfl⟩
      clear H2
      go_wp2_with fail
      go_ret
      exact ⟨rfl, 0, rfl⟩
    · have HC : Hid (cmpI x y = 1) := by unfold Hid cmpI; rw [if_neg (fun h => hlt (hc1.2 h)), if_neg hc2]
      rw [HC.out]
      clear HC hc1 hc2
      go_enter Tryz.func76, Tryz.ntmps76
      go_wp2_with fail
      refine (H1.out _).mono ?_
      rintro e w' ⟨rfl, rfl⟩
      clear H1
      go_wp2_with fail
      refine (H2.out _).mono ?_
      rintro e w' ⟨rfl, rfl⟩
      clear H2
      go_wp2_with fail
      go_ret
      exact ⟨rfl, 0, rfl⟩

theorem compare_any (x y : Int) (w : World) (hx : (intB x).size ≤ 10000000000) (hy : (intB y).size ≤ 10000000000) :
    Calls Tryz.prog 76 #[.string (intB x), .string (intB y)] w fun e w' => e = .returned (.int .i64 (cmpI x y)) ∧ Ext w w' :=
  (compare_q x y w hx hy).mono fun _ _ ⟨h, k, hw⟩ => ⟨h, hw ▸ Ext.drewN _ _⟩

end Go.Proofs.YtielnneclcekbaaGreatDoor
