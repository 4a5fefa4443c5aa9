/- Merged: BoxQ. -/
import Derived.Test.YtjihfabhgcfjnaaGreatDoorRAAA
/- Law 09, plain: no sum of search's leaves the ints; its loop's multiples. No program is named here. -/
namespace Go.Proofs.YtjihfabhgcfjnaaGreatDoor
set_option linter.unusedVariables false
set_option linter.unusedSimpArgs false
open Go.RowKit

def ks0 (M s p : Int) : Int := -((s + M) / p)
def ksN (M s p : Int) : Nat := ((M - s) / p + (s + M) / p + 1).toNat
theorem ks_lt {M s p : Int} (hp : 0 < p) (a : Nat) : s + (ks0 M s p + (a : Int)) * p ≤ M ↔ a < ksN M s p := by
  have e1 : ks0 M s p + (a : Int) ≤ (M - s) / p ↔ (ks0 M s p + (a : Int)) * p ≤ M - s := Int.le_ediv_iff_mul_le hp
  unfold ksN
  unfold ks0 at *
  constructor
  · intro h
    have := e1.2 (by omega)
    omega
  · intro h
    have := e1.1 (by omega)
    omega
theorem ks_low {M s p : Int} (hp : 0 < p) (a : Nat) : -M ≤ s + (ks0 M s p + (a : Int)) * p := by
  have e2 : (s + M) / p ≤ (s + M) / p ↔ (s + M) / p * p ≤ s + M := Int.le_ediv_iff_mul_le hp
  have h1 := e2.1 (Int.le_refl _)
  have h2 : 0 ≤ (a : Int) * p := Int.mul_nonneg (by omega) (by omega)
  unfold ks0
  rw [Int.add_mul, Int.neg_mul]
  omega
theorem ks_high {M s p : Int} (hM : 0 ≤ M) (hp : 0 < p) {a : Nat} (ha : a ≤ ksN M s p) : s + (ks0 M s p + (a : Int)) * p ≤ M + p := by
  cases a with
  | zero =>
    have h1 : (s + M) % p < p := Int.emod_lt_of_pos _ hp
    have h2 := Int.emod_add_mul_ediv (s + M) p
    unfold ks0
    rw [Int.natCast_zero, Int.add_zero, Int.neg_mul, Int.mul_comm]
    omega
  | succ a =>
    have h := (ks_lt (M := M) (s := s) hp a).2 (by omega)
    rw [show ks0 M s p + ((a + 1 : Nat) : Int) = ks0 M s p + (a : Int) + 1 by omega, Int.add_mul, Int.one_mul]
    obtain ⟨z, hz⟩ : ∃ z, (ks0 M s p + (a : Int)) * p = z := ⟨_, rfl⟩
    rw [hz] at h ⊢
    omega
/-- What the first multiples add. -/
def accL (f : Int → List (List Int)) (k0 : Int) (a : Nat) : List (List Int) := ((List.range a).map fun b : Nat => k0 + (b : Int)).flatMap f
theorem accL_succ (f : Int → List (List Int)) (k0 : Int) (a : Nat) : accL f k0 (a + 1) = accL f k0 a ++ f (k0 + (a : Int)) := by
  unfold accL
  rw [List.range_succ, List.map_append, List.flatMap_append]
  simp
theorem accL_len (f : Int → List (List Int)) (k0 : Int) : ∀ {a b : Nat}, a ≤ b → (accL f k0 a).length ≤ (accL f k0 b).length
  | a, 0, h => by obtain rfl : a = 0 := by omega
                  exact Nat.le_refl _
  | a, b + 1, h => by
    by_cases e : a = b + 1
    · rw [e]; exact Nat.le_refl _
    · rw [accL_succ, List.length_append]
      have := accL_len f k0 (a := a) (b := b) (by omega)
      omega
theorem accL_all (f : Int → List (List Int)) (M s p : Int) : (ksL M s p).flatMap f = accL f (ks0 M s p) (ksN M s p) := rfl
theorem ks_mem {M s p : Int} (hp : 0 < p) {a : Nat} (ha : a < ksN M s p) : ks0 M s p + (a : Int) ∈ ksL M s p := by
  unfold ksL
  exact List.mem_map.2 ⟨a, List.mem_range.2 ha, rfl⟩

/-- The sums of search are small. -/
def OkR (M : Int) (R : List (List Int)) : Nat → Nat → List Int → Prop
  | 0, _, _ => True
  | j + 1, i, s => ∀ k ∈ ksL M (s.getD (pivC (rowE_ R i)) 0) ((rowE_ R i).getD (pivC (rowE_ R i)) 0), (∀ x, (k * (rowE_ R i).getD x 0).natAbs ≤ 4000000000000000000 ∧ ((lessL (-k) s (rowE_ R i)).getD x 0).natAbs ≤ 4000000000000000000) ∧ OkR M R j (i + 1) (lessL (-k) s (rowE_ R i))
def bB : Nat → Nat
  | 0 => 0
  | i + 1 => bB i + (8 + bB i) * 629856
theorem bB3 : bB 3 ≤ 3900000000000000000 := by decide
theorem bB_mono : ∀ {i j : Nat}, i ≤ j → bB i ≤ bB j
  | i, 0, h => by obtain rfl : i = 0 := by omega
                  exact Nat.le_refl _
  | i, j + 1, h => by
    by_cases e : i = j + 1
    · rw [e]; exact Nat.le_refl _
    · have := bB_mono (i := i) (j := j) (by omega)
      have e2 : bB (j + 1) = bB j + (8 + bB j) * 629856 := rfl
      omega
theorem okR_of {n : Nat} {m R : List (List Int)} {ps : Nat → Nat} (P : PlanF n m R ps) (hn : n ≤ 4) {M : Int} (hM0 : 0 ≤ M) (hM8 : M ≤ 8) : ∀ (j i : Nat) (s : List Int), i + j = R.length → s.length = n → (∀ x, (s.getD x 0).natAbs ≤ bB i) → OkR M R j i s
  | 0, _, _, _, _, _ => trivial
  | j + 1, i, s, hij, hs, hb => by
    have hR := P.form
    have hi : i < R.length := by omega
    have hpc := hform_pivC hR hi
    have hrl := hR.1 i hi
    have hpos : 0 < (rowE_ R i).getD (ps i) 0 := hR.2.pos i hi
    have hpn := hR.2.lt i hi
    have h4 := P.four
    have hrb := fun x => (P.els _ (rowE_mem hi)).1.getD x
    unfold OkR
    rw [hpc]
    intro k hk
    have hk2 := (mem_ksL hpos).1 hk
    have hkp : (k * (rowE_ R i).getD (ps i) 0).natAbs ≤ 8 + bB i := by have := hb (ps i); omega
    have hka : k.natAbs ≤ 8 + bB i := by
      have : k.natAbs * 1 ≤ k.natAbs * ((rowE_ R i).getD (ps i) 0).natAbs := Nat.mul_le_mul_left _ (by omega)
      rw [Int.natAbs_mul] at hkp
      omega
    have hsx : ∀ x, (lessL (-k) s (rowE_ R i)).getD x 0 = s.getD x 0 + k * (rowE_ R i).getD x 0 := fun x => by
      rw [lessL_getD (-k) (by omega), Int.neg_mul]; omega
    rcases Nat.lt_or_ge i 3 with h3 | h3
    · have hkr : ∀ x, (k * (rowE_ R i).getD x 0).natAbs ≤ (8 + bB i) * 629856 := fun x => by
        rw [Int.natAbs_mul]; exact Nat.mul_le_mul hka (hrb x)
      have e2 : bB (i + 1) = bB i + (8 + bB i) * 629856 := rfl
      have hm := bB_mono (i := i + 1) (j := 3) (by omega)
      have hm3 := bB3
      have hnew : ∀ x, ((lessL (-k) s (rowE_ R i)).getD x 0).natAbs ≤ bB (i + 1) := fun x => by
        rw [hsx]; have := hb x; have := hkr x; omega
      refine ⟨fun x => ⟨by have := hkr x; omega, by have := hnew x; omega⟩, okR_of P hn hM0 hM8 j (i + 1) _ (by omega) (by rw [lessL_len]; exact hs) hnew⟩
    · obtain rfl : i = 3 := by omega
      obtain rfl : j = 0 := by omega
      have hp3 : ps 3 = 3 := by
        have h0 := hR.2.mono 0 1 (by omega) (by omega)
        have h1 := hR.2.mono 1 2 (by omega) (by omega)
        have h2 := hR.2.mono 2 3 (by omega) (by omega)
        omega
      rw [hp3] at hkp hk2
      have hm3 := bB3
      have hx : ∀ x, x ≠ 3 → (rowE_ R 3).getD x 0 = 0 := fun x hx => by
        rcases Nat.lt_or_ge x 3 with h | h
        · exact hR.2.zero 3 hi x (by omega)
        · rw [List.getD_eq_getElem?_getD, List.getElem?_eq_none (by omega)]; rfl
      refine ⟨fun x => ?_, trivial⟩
      rw [hsx]
      have hbx := hb x
      by_cases e : x = 3
      · subst e; omega
      · rw [hx x e, Int.mul_zero, Int.add_zero]
        exact ⟨by decide, by omega⟩
end Go.Proofs.YtjihfabhgcfjnaaGreatDoor
