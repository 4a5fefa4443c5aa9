/- Merged: GrowN. -/
import Derived.Test.YtjihfabhgcfjnaaGreatDoorQAN
/- The rounds of the reference's Hermite form: how far numbers grow. No program is named here. -/
namespace Go.Proofs.YtjihfabhgcfjnaaGreatDoor
set_option linter.unusedVariables false
set_option linter.unusedSimpArgs false
open Go.RowKit

def sgI (x : Int) : Int := if x < 0 then -1 else 1
theorem sgI_sq (x : Int) : sgI x * sgI x = 1 := by unfold sgI; split <;> rfl
theorem sgI_abs (x : Int) : sgI x * x = (x.natAbs : Int) := by unfold sgI; split <;> omega
theorem sgI_of (x : Int) : x = sgI x * (x.natAbs : Int) := by unfold sgI; split <;> omega
theorem natAbs_sg (x y : Int) : (sgI x * y).natAbs = y.natAbs := by unfold sgI; split <;> omega
theorem tdiv_sg (x y : Int) : x.tdiv y = sgI x * sgI y * ((x.natAbs / y.natAbs : Nat) : Int) := by
  have hx := sgI_of x; have hy := sgI_of y
  have hn : ∀ a b : Nat, Int.tdiv (a : Int) (b : Int) = ((a / b : Nat) : Int) := fun a b => rfl
  obtain ⟨a, ha⟩ : ∃ a, a = x.natAbs := ⟨_, rfl⟩
  obtain ⟨b, hb⟩ : ∃ b, b = y.natAbs := ⟨_, rfl⟩
  rw [← ha] at hx ⊢; rw [← hb] at hy ⊢
  have h1 : sgI x = 1 ∨ sgI x = -1 := by unfold sgI; split <;> simp
  have h2 : sgI y = 1 ∨ sgI y = -1 := by unfold sgI; split <;> simp
  rcases h1 with h1 | h1 <;> rcases h2 with h2 | h2 <;> rw [h1] at hx ⊢ <;> rw [h2] at hy ⊢
  · rw [hx, hy, Int.one_mul, Int.one_mul, hn]; omega
  · rw [hx, hy, Int.one_mul, Int.neg_mul, Int.one_mul, Int.tdiv_neg, hn]; omega
  · rw [hx, hy, Int.one_mul, Int.neg_mul, Int.one_mul, Int.neg_tdiv, hn]; omega
  · rw [hx, hy, Int.neg_mul, Int.one_mul, Int.neg_mul, Int.one_mul, Int.tdiv_neg, Int.neg_tdiv, hn]; omega

theorem dm_core (p Vp X0 Xr Xs a0 ur us k0 kr ks M : Int) (hp : 0 < p) (h1 : a0 - k0 * p ≤ ur - kr * p) (h2 : a0 - k0 * p ≤ us - ks * p) (h3 : ur - kr * p ≤ p) (h4 : us - ks * p ≤ p) (h5 : 0 < a0 - k0 * p) (h6 : a0 - k0 * p ≤ p)
    (z1 : p * (X0 - Vp) - Vp * (a0 - p) ≤ M) (z2 : p * (Vp - X0) - Vp * (p - a0) ≤ M) (z3 : p * (Xr - Xs) - Vp * (ur - us) ≤ M) :
    (a0 - k0 * p) * ((Xr - kr * Vp) - (Xs - ks * Vp)) - (X0 - k0 * Vp) * ((ur - kr * p) - (us - ks * p)) ≤ M := by
  obtain ⟨q, hq⟩ : ∃ q, q = a0 - k0 * p := ⟨_, rfl⟩
  obtain ⟨d, hd⟩ : ∃ d, d = (ur - kr * p) - (us - ks * p) := ⟨_, rfl⟩
  obtain ⟨Z0, hZ0⟩ : ∃ Z0, Z0 = p * (X0 - Vp) - Vp * (a0 - p) := ⟨_, rfl⟩
  obtain ⟨Z, hZ⟩ : ∃ Z, Z = p * (Xr - Xs) - Vp * (ur - us) := ⟨_, rfl⟩
  have e2 : p * (Vp - X0) - Vp * (p - a0) = -Z0 := by rw [hZ0]; grind
  rw [e2] at z2
  rw [← hZ0] at z1
  rw [← hZ] at z3
  have key : p * (q * ((Xr - kr * Vp) - (Xs - ks * Vp)) - (X0 - k0 * Vp) * d) = q * Z - Z0 * d := by rw [hq, hd, hZ0, hZ]; grind
  rw [← hq, ← hd]
  rw [← hq] at h1 h2 h5 h6
  have hd1 : d ≤ p - q := by omega
  have hd2 : -(p - q) ≤ d := by omega
  have hM : 0 ≤ M := by omega
  have a1 : q * Z ≤ q * M := Int.mul_le_mul_of_nonneg_left z3 (by omega)
  have a2 : -(Z0 * d) ≤ M * (p - q) := by
    rcases Int.lt_or_le d 0 with hn | hn
    · have b1 : Z0 * (-d) ≤ M * (-d) := Int.mul_le_mul_of_nonneg_right z1 (by omega)
      have b2 : M * (-d) ≤ M * (p - q) := Int.mul_le_mul_of_nonneg_left (by omega) hM
      rw [Int.mul_neg] at b1; omega
    · have b1 : (-Z0) * d ≤ M * d := Int.mul_le_mul_of_nonneg_right z2 hn
      have b2 : M * d ≤ M * (p - q) := Int.mul_le_mul_of_nonneg_left hd1 hM
      rw [Int.neg_mul] at b1; omega
  have a3 : q * M + M * (p - q) = p * M := by grind
  exact Int.le_of_mul_le_mul_left (by omega : p * _ ≤ p * M) hp
theorem low_core (p Vp X a k M : Int) (hp : 0 < p) (h1 : 0 ≤ a - k * p) (h2 : a - k * p < p) (h3 : -M ≤ Vp) (h4 : Vp ≤ M) (z1 : p * (X - Vp) - Vp * (a - p) ≤ M) (z2 : p * (Vp - X) - Vp * (p - a) ≤ M) : -M ≤ X - k * Vp ∧ X - k * Vp ≤ M := by
  obtain ⟨q, hq⟩ : ∃ q, q = a - k * p := ⟨_, rfl⟩
  rw [← hq] at h1 h2
  obtain ⟨Z, hZ⟩ : ∃ Z, Z = p * (X - Vp) - Vp * (a - p) := ⟨_, rfl⟩
  have e2 : p * (Vp - X) - Vp * (p - a) = -Z := by rw [hZ]; grind
  rw [e2] at z2
  rw [← hZ] at z1
  have key : p * (X - k * Vp) = Z + Vp * q := by rw [hZ, hq]; grind
  have hM : 0 ≤ M := by omega
  have a1 : Vp * q ≤ M * q := Int.mul_le_mul_of_nonneg_right h4 h1
  have a2 : (-M) * q ≤ Vp * q := Int.mul_le_mul_of_nonneg_right h3 h1
  have a3 : M * q ≤ M * (p - 1) := Int.mul_le_mul_of_nonneg_left (by omega) hM
  have a4 : M * (p - 1) = p * M - M := by grind
  rw [Int.neg_mul] at a2
  constructor
  · have : p * (-M) ≤ p * (X - k * Vp) := by rw [Int.mul_neg]; omega
    exact Int.le_of_mul_le_mul_left this hp
  · exact Int.le_of_mul_le_mul_left (by omega : p * _ ≤ p * M) hp
theorem init_core (p Vp Xr Xs ur us A X : Int) (hp : 0 < p) (h1 : p ≤ ur) (h2 : p ≤ us) (h3 : ur ≤ A) (h4 : us ≤ A) (g1 : -X ≤ Vp ∧ Vp ≤ X) (g2 : -X ≤ Xr ∧ Xr ≤ X) (g3 : -X ≤ Xs ∧ Xs ≤ X) : p * (Xr - Xs) - Vp * (ur - us) ≤ 2 * A * X := by
  have hX : 0 ≤ X := by omega
  have a1 : p * (Xr - Xs) ≤ p * (2 * X) := Int.mul_le_mul_of_nonneg_left (by omega) (by omega)
  have a2 : -(Vp * (ur - us)) ≤ X * (A - p) := by
    rcases Int.lt_or_le (ur - us) 0 with hn | hn
    · have b1 : Vp * (-(ur - us)) ≤ X * (-(ur - us)) := Int.mul_le_mul_of_nonneg_right g1.2 (by omega)
      have b2 : X * (-(ur - us)) ≤ X * (A - p) := Int.mul_le_mul_of_nonneg_left (by omega) hX
      rw [Int.mul_neg] at b1; omega
    · have b1 : (-Vp) * (ur - us) ≤ X * (ur - us) := Int.mul_le_mul_of_nonneg_right (by omega) hn
      have b2 : X * (ur - us) ≤ X * (A - p) := Int.mul_le_mul_of_nonneg_left (by omega) hX
      rw [Int.neg_mul] at b1; omega
  have a3 : p * (2 * X) + X * (A - p) = X * p + X * A := by grind
  have a4 : X * p ≤ X * A := Int.mul_le_mul_of_nonneg_left (by omega) hX
  have a5 : 2 * A * X = X * A + X * A := by grind
  omega

/-- A row's element in the column is not 0. -/
def al (c : Nat) (r : List Int) : Prop := r.getD c 0 ≠ 0
def na (c : Nat) (r : List Int) : Int := ((r.getD c 0).natAbs : Int)
def nx (c : Nat) (r : List Int) (j : Nat) : Int := sgI (r.getD c 0) * r.getD j 0
theorem nx_bd {M : Nat} {r : List Int} (h : RowLe M r) (c j : Nat) : -(M : Int) ≤ nx c r j ∧ nx c r j ≤ M := by
  have h1 := h.getD j
  have h2 := natAbs_sg (r.getD c 0) (r.getD j 0)
  unfold nx
  omega
/-- The spread of the rows about a pivot. -/
def Dm (c M : Nat) (S : List Int → Prop) : Prop := ∀ P r s, S P → S r → S s → al c P → al c r → al c s → (∀ t, S t → al c t → na c P ≤ na c t) → ∀ j, na c P * (nx c r j - nx c s j) - nx c P j * (na c r - na c s) ≤ (M : Int)
theorem Dm.mono {c M : Nat} {S T : List Int → Prop} (h : Dm c M S) (hTS : ∀ r, T r → S r) (hST : ∀ r, S r → T r) : Dm c M T := fun P r s hP hr hs aP ur us hm j => h P r s (hTS _ hP) (hTS _ hr) (hTS _ hs) aP ur us (fun t ht at' => hm t (hST t ht) at') j
theorem dm_init {c A X : Nat} {S : List Int → Prop} (hA : ∀ r, S r → na c r ≤ A) (hX : ∀ r, S r → RowLe X r) : Dm c (2 * A * X) S := by
  intro P r s hP hr hs aP ur us hm j
  have := init_core (na c P) (nx c P j) (nx c r j) (nx c s j) (na c r) (na c s) A X (by unfold na; unfold al at aP; omega) (hm r hr ur) (hm s hs us) (hA r hr) (hA s hs) (nx_bd (hX P hP) c j) (nx_bd (hX r hr) c j) (nx_bd (hX s hs) c j)
  simpa using this

/-- A row, less the pivot's row. -/
def subR (c : Nat) (P r : List Int) : List Int := lessL ((r.getD c 0).tdiv (P.getD c 0)) r P
theorem subR_c {c : Nat} {P r : List Int} (hl : P.length = r.length) : (subR c P r).getD c 0 = sgI (r.getD c 0) * (((r.getD c 0).natAbs % (P.getD c 0).natAbs : Nat) : Int) := by
  unfold subR
  rw [lessL_getD _ hl, tdiv_sg]
  have h1 := sgI_of (r.getD c 0)
  have h2 := sgI_abs (P.getD c 0)
  have h3 := Nat.div_add_mod (r.getD c 0).natAbs (P.getD c 0).natAbs
  obtain ⟨k, hk⟩ : ∃ k, k = (r.getD c 0).natAbs / (P.getD c 0).natAbs := ⟨_, rfl⟩
  obtain ⟨e, he⟩ : ∃ e, e = (r.getD c 0).natAbs % (P.getD c 0).natAbs := ⟨_, rfl⟩
  rw [← hk, ← he] at h3 ⊢
  have h4 : (((r.getD c 0).natAbs : Nat) : Int) = ((P.getD c 0).natAbs : Int) * k + e := by exact_mod_cast h3.symm
  have h5 : sgI (r.getD c 0) * sgI (P.getD c 0) * (k : Int) * P.getD c 0 = sgI (r.getD c 0) * k * (sgI (P.getD c 0) * P.getD c 0) := by grind
  rw [h5, h2]
  conv => lhs; lhs; rw [h1, h4]
  grind
theorem subR_al {c : Nat} {P r : List Int} (hl : P.length = r.length) (hP : al c P) : na c (subR c P r) = na c r - (((r.getD c 0).natAbs / (P.getD c 0).natAbs : Nat) : Int) * na c P ∧ na c (subR c P r) < na c P ∧ (al c (subR c P r) → al c r ∧ sgI ((subR c P r).getD c 0) = sgI (r.getD c 0)) := by
  have h := subR_c (c := c) hl
  have h3 := Nat.div_add_mod (r.getD c 0).natAbs (P.getD c 0).natAbs
  have hp : 0 < (P.getD c 0).natAbs := by unfold al at hP; omega
  have h4 := Nat.mod_lt (r.getD c 0).natAbs hp
  have h5 : ((subR c P r).getD c 0).natAbs = (r.getD c 0).natAbs % (P.getD c 0).natAbs := by rw [h, natAbs_sg]; omega
  refine ⟨?_, ?_, fun ha => ?_⟩
  · unfold na
    rw [h5]
    have h6 : (((r.getD c 0).natAbs : Nat) : Int) = ((P.getD c 0).natAbs : Int) * (((r.getD c 0).natAbs / (P.getD c 0).natAbs : Nat) : Int) + (((r.getD c 0).natAbs % (P.getD c 0).natAbs : Nat) : Int) := by exact_mod_cast h3.symm
    rw [Int.mul_comm] at h6
    omega
  · unfold na; rw [h5]; omega
  · unfold al at ha
    rw [h] at ha
    have h7 : 0 < (r.getD c 0).natAbs % (P.getD c 0).natAbs := by
      rcases Nat.eq_zero_or_pos ((r.getD c 0).natAbs % (P.getD c 0).natAbs) with h0 | h0
      · rw [h0] at ha; simp at ha
      · exact h0
    refine ⟨?_, ?_⟩
    · unfold al; intro h8; rw [h8] at h7; simp at h7
    · rw [h]
      generalize (r.getD c 0).natAbs % (P.getD c 0).natAbs = e at h7
      generalize r.getD c 0 = y
      unfold sgI
      by_cases hy : y < 0
      · rw [if_pos hy, if_pos (by omega)]
      · rw [if_neg hy, if_neg (by omega)]
theorem subR_x {c : Nat} {P r : List Int} (hl : P.length = r.length) (j : Nat) : sgI (r.getD c 0) * (subR c P r).getD j 0 = nx c r j - (((r.getD c 0).natAbs / (P.getD c 0).natAbs : Nat) : Int) * nx c P j := by
  unfold subR nx
  rw [lessL_getD _ hl, tdiv_sg]
  have h1 := sgI_sq (r.getD c 0)
  generalize (((r.getD c 0).natAbs / (P.getD c 0).natAbs : Nat) : Int) = k
  generalize r.getD j 0 = x; generalize P.getD j 0 = y
  generalize sgI (P.getD c 0) = v
  generalize sgI (r.getD c 0) = u at h1
  have : u * (x - u * v * k * y) = u * x - (u * u) * (k * (v * y)) := by grind
  rw [this, h1, Int.one_mul]
/-- A round keeps the bound. -/
theorem dm_round {n c M : Nat} {S T : List Int → Prop} (hw : AllLen n S) {P : List Int} (hP : S P) (aP : al c P) (hm : ∀ t, S t → al c t → na c P ≤ na c t) (hD : Dm c M S) (hL : ∀ r, S r → RowLe M r)
    (hT : ∀ r', T r' → r' = P ∨ ∃ r, S r ∧ r' = subR c P r) (hTP : T P) : Dm c M T ∧ ∀ r', T r' → RowLe M r' := by
  have hp : 0 < na c P := by unfold na; unfold al at aP; omega
  -- where a row comes from
  have orig : ∀ r', T r' → al c r' → ∃ (r : List Int) (k : Int), S r ∧ al c r ∧ (∀ j, nx c r' j = nx c r j - k * nx c P j) ∧ na c r' = na c r - k * na c P ∧ na c r' ≤ na c P := by
    intro r' h' a'
    rcases hT r' h' with rfl | ⟨r, hr, rfl⟩
    · exact ⟨r', 0, hP, aP, fun j => by omega, by omega, by omega⟩
    · have hl : P.length = r.length := by rw [hw P hP, hw r hr]
      obtain ⟨e1, e2, e3⟩ := subR_al hl aP
      obtain ⟨e4, e5⟩ := e3 a'
      refine ⟨r, (((r.getD c 0).natAbs / (P.getD c 0).natAbs : Nat) : Int), hr, e4, fun j => ?_, e1, by omega⟩
      rw [← subR_x hl j]
      show sgI ((subR c P r).getD c 0) * _ = _
      rw [e5]
  constructor
  · intro P' r' s' tP tr ts bP br bs hm' j
    obtain ⟨r0, k0, s0, l0, x0, y0, u0⟩ := orig P' tP bP
    obtain ⟨r1, k1, s1, l1, x1, y1, u1⟩ := orig r' tr br
    obtain ⟨r2, k2, s2, l2, x2, y2, u2⟩ := orig s' ts bs
    have g1 := hm' r' tr br
    have g2 := hm' s' ts bs
    have g0 : 0 < na c P' := by unfold na; unfold al at bP; omega
    rw [x0 j, x1 j, x2 j, y0, y1, y2]
    rw [y0, y1] at g1; rw [y0, y2] at g2; rw [y0] at g0 u0; rw [y1] at u1; rw [y2] at u2
    exact dm_core (na c P) (nx c P j) (nx c r0 j) (nx c r1 j) (nx c r2 j) (na c r0) (na c r1) (na c r2) k0 k1 k2 M hp g1 g2 u1 u2 g0 u0 (hD P r0 P hP s0 hP aP l0 aP hm j) (hD P P r0 hP hP s0 aP aP l0 hm j) (hD P r1 r2 hP s1 s2 aP l1 l2 hm j)
  · intro r' h'
    rcases hT r' h' with rfl | ⟨r, hr, rfl⟩
    · exact hL _ hP
    · have hl : P.length = r.length := by rw [hw P hP, hw r hr]
      have key : ∀ j, ((subR c P r).getD j 0).natAbs ≤ M := by
        intro j
        by_cases ur : al c r
        · obtain ⟨e1, e2, -⟩ := subR_al hl aP
          have e3 : 0 ≤ na c (subR c P r) := by unfold na; omega
          have e4 := subR_x hl (c := c) j
          have e5 := natAbs_sg (r.getD c 0) ((subR c P r).getD j 0)
          have hb := nx_bd (hL P hP) c j
          have := low_core (na c P) (nx c P j) (nx c r j) (na c r) (((r.getD c 0).natAbs / (P.getD c 0).natAbs : Nat) : Int) M hp (by omega) (by omega) hb.1 hb.2 (hD P r P hP hr hP aP ur aP hm j) (hD P P r hP hP hr aP aP ur hm j)
          rw [← e4] at this
          omega
        · have h0 : r.getD c 0 = 0 := by unfold al at ur; exact Classical.byContradiction ur
          have e : subR c P r = r := by unfold subR; rw [h0, Int.zero_tdiv, lessL_zero]
          rw [e]; exact (hL r hr).getD j
      intro x hx
      obtain ⟨j, hj⟩ := List.getElem?_of_mem hx
      have := key j
      rw [List.getD_eq_getElem?_getD, hj] at this
      exact this
end Go.Proofs.YtjihfabhgcfjnaaGreatDoor
