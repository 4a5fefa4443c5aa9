/- Contracts of package row: Sum, Max. -/
import Derived.Test.YtobgghjmclagaaaDoorRowC
import Derived.Test.YtobgghjmclagaaaDoorDot
namespace Go.Proofs.YtobgghjmclagaaaDoor
set_option linter.unusedVariables false
set_option linter.unusedSimpArgs false
open Go.RowKit

def sumA (xs : List Int) : Int := sumI (xs.map fun x => (x.natAbs : Int))
def maxA (xs : List Int) : Int := xs.foldl (fun m x => max m (x.natAbs : Int)) 0
theorem sumA_snoc (xs : List Int) (x : Int) : sumA (xs ++ [x]) = sumA xs + (x.natAbs : Int) := by unfold sumA; rw [List.map_append, sumI_append]; simp [sumI]
theorem maxA_snoc (xs : List Int) (x : Int) : maxA (xs ++ [x]) = max (maxA xs) (x.natAbs : Int) := by unfold maxA; rw [List.foldl_append]; rfl
theorem sumA_bd (A : Int) (hA : 0 ≤ A) : ∀ xs : List Int, (∀ x ∈ xs, -A ≤ x ∧ x ≤ A) → 0 ≤ sumA xs ∧ sumA xs ≤ A * (xs.length : Int)
  | [], _ => by simp [sumA, sumI]
  | x :: xs, h => by
    have ih := sumA_bd A hA xs (fun y hy => h y (by simp [hy]))
    have hx := h x (by simp)
    have e : sumA (x :: xs) = (x.natAbs : Int) + sumA xs := rfl
    rw [e, List.length_cons]
    have e2 : A * ((xs.length + 1 : Nat) : Int) = A * (xs.length : Int) + A := by rw [Int.natCast_add, Int.mul_add]; simp
    rw [e2]
    omega
theorem maxA_go (A : Int) : ∀ (xs : List Int) (m : Int), 0 ≤ m → m ≤ A → (∀ x ∈ xs, -A ≤ x ∧ x ≤ A) → 0 ≤ xs.foldl (fun m x => max m (x.natAbs : Int)) m ∧ xs.foldl (fun m x => max m (x.natAbs : Int)) m ≤ A
  | [], m, h1, h2, _ => ⟨h1, h2⟩
  | x :: xs, m, h1, h2, h => maxA_go A xs (max m (x.natAbs : Int)) (by omega) (by have := h x (by simp); omega) (fun y hy => h y (by simp [hy]))
theorem maxA_bd (A : Int) (hA : 0 ≤ A) (xs : List Int) (h : ∀ x ∈ xs, -A ≤ x ∧ x ≤ A) : 0 ≤ maxA xs ∧ maxA xs ≤ A := maxA_go A xs 0 (by omega) hA h
theorem take_snoc {α : Type} {xs : List α} {j : Nat} {x : α} (h : xs[j]? = some x) : xs.take (j + 1) = xs.take j ++ [x] := by rw [List.take_add_one, h]; rfl
def sumE (xs : List Int) : Int := if rowE xs = 0 then (if fitB (sumA xs) then 0 else 4) else rowE xs
def sumV (xs : List Int) : Int := if rowE xs = 0 then (if fitB (sumA xs) then sumA xs else 0) else 0
def maxV (xs : List Int) : Int := if rowE xs = 0 then maxA xs else 0

set_option maxRecDepth 100000 in
set_option maxHeartbeats 2000000 in
theorem sum_any (xs : List Int) (v : Value) (w : World) (h : Ints w v xs) :
    Calls Tryd.prog 37 #[v] w fun e w' => e = .returned (.tuple #[.int .i64 (sumV xs), .int .i64 (sumE xs)]) ∧ Ext w w' := by
  have HCK := Lib.hid (rowCheck_any xs v w h)
  obtain ⟨a, c, rfl, h1, h2, -, -, hc⟩ := h.open
  have HC := Lib.hid hc
  unfold maxLen at h2
  clear h hc
  by_cases he : rowE xs = 0
  · have HOK := Lib.hid ((rowE_zero xs).1 he)
    have h64 := HOK.out.1
    have HV : Hid (sumV xs = if fitB (sumA xs) then sumA xs else 0) := by unfold Hid sumV; rw [if_pos he]
    have HE : Hid (sumE xs = if fitB (sumA xs) then 0 else 4) := by unfold Hid sumE; rw [if_pos he]
    obtain ⟨sv, hsv⟩ : ∃ sv, sumV xs = sv := ⟨_, rfl⟩
    obtain ⟨se, hse⟩ : ∃ se, sumE xs = se := ⟨_, rfl⟩
    rw [hsv, hse]
    rw [hsv] at HV; rw [hse] at HE
    rw [he] at HCK
    clear he hsv hse
    go_enter Tryd.func37, Tryd.ntmps37
    go_wp2_with fail
    refine HCK.out.mono ?_
    rintro e w1 ⟨rfl, hE1⟩
    have HE1 := Lib.hid hE1
    clear hE1 HCK
    go_wp2_with fail
    go_loopw [5, 15] (fun s t wr => ∃ j : Nat, j ≤ xs.length ∧ t = .int .i64 j ∧ s = .int .i64 (sumA (xs.take j)) ∧ Ext w wr) (fun _ t _ => xs.length - (intOf t).toNat)
    case atStart => exact ⟨0, by omega, rfl, rfl, HE1.out⟩
    case round =>
      obtain ⟨j, hj, rfl, rfl, hE⟩ := hrel
      by_cases hlt : j < xs.length
      · obtain ⟨b, off, rfl, hb, hcell⟩ := HC.out (by intro e; simp [e] at hlt)
        obtain ⟨x, hx⟩ : ∃ x, xs[j]? = some x := ⟨xs[j], List.getElem?_eq_getElem hlt⟩
        have g1 := hE.cell (hcell j x hx)
        obtain ⟨hx1, hx2⟩ := HOK.out.2 x (List.mem_of_getElem? hx)
        have hbd := sumA_bd 1000000000 (by omega) (xs.take j) (fun y hy => HOK.out.2 y (List.mem_of_mem_take hy))
        rw [List.length_take] at hbd
        have HN : Hid (sumA (xs.take (j + 1)) = sumA (xs.take j) + (x.natAbs : Int)) := by unfold Hid; rw [take_snoc hx]; exact sumA_snoc _ _
        obtain ⟨g0, hg0⟩ : ∃ g0, sumA (xs.take j) = g0 := ⟨_, rfl⟩
        rw [hg0] at hbd HN ⊢
        obtain ⟨x0, hx0, hxl⟩ : ∃ x0, x.natAbs = x0 ∧ x0 ≤ 1000000000 := ⟨_, rfl, by omega⟩
        rw [hx0] at HN
        have HA := Lib.hid (fun W => abs_any x W (by omega) (by omega))
        rw [hx0] at HA
        have q1 : IntKind.i64.wrap (g0 + (x0 : Int)) = g0 + (x0 : Int) := by rw [IntKind.wrap_i64]; omega
        clear hcell hx hg0 hx0 hbd
        go_wp2_with (go_at_call 56; refine (HA.out _).mono ?_; rintro e w' ⟨rfl, rfl⟩)
        go_roundw
        case rel => exact ⟨j + 1, by omega, by go_num, by rw [HN.out], hE⟩
        case measure => simp [intOf]; omega
      · obtain rfl : j = xs.length := by omega
        have HT : Hid (xs.take xs.length = xs) := List.take_of_length_le (Nat.le_refl _)
        rw [HT.out]
        have HF := Lib.hid (fun W => fits_any (sumA xs) W)
        cases hf : fitB (sumA xs) with
        | true =>
          rw [hf] at HF
          obtain rfl : sv = sumA xs := by rw [HV.out, hf]; rfl
          obtain rfl : se = 0 := by rw [HE.out, hf]; rfl
          clear hf HV HE
          go_wp2_with (go_at_call 55; refine (HF.out _).mono ?_; rintro e w' ⟨rfl, rfl⟩)
          go_ret2
          exact ⟨rfl, hE⟩
        | false =>
          rw [hf] at HF
          obtain rfl : sv = 0 := by rw [HV.out, hf]; rfl
          obtain rfl : se = 4 := by rw [HE.out, hf]; rfl
          clear hf HV HE
          go_wp2_with (go_at_call 55; refine (HF.out _).mono ?_; rintro e w' ⟨rfl, rfl⟩)
          go_ret2
          exact ⟨rfl, hE⟩
  · have h4 : rowE xs = 4 := (rowE_four xs).resolve_left he
    have HV : Hid (sumV xs = 0) := by unfold Hid sumV; rw [if_neg he]
    have HE : Hid (sumE xs = 4) := by unfold Hid sumE; rw [if_neg he, h4]
    rw [HV.out, HE.out]
    rw [h4] at HCK
    clear he h4
    go_enter Tryd.func37, Tryd.ntmps37
    go_wp2_with fail
    refine HCK.out.mono ?_
    rintro e w1 ⟨rfl, hE1⟩
    have HE1 := Lib.hid hE1
    clear hE1 HCK
    go_wp2_with fail
    go_ret2
    exact ⟨rfl, HE1.out⟩

set_option maxRecDepth 100000 in
set_option maxHeartbeats 2000000 in
theorem max_any (xs : List Int) (v : Value) (w : World) (h : Ints w v xs) :
    Calls Tryd.prog 38 #[v] w fun e w' => e = .returned (.tuple #[.int .i64 (maxV xs), .int .i64 (rowE xs)]) ∧ Ext w w' := by
  have HCK := Lib.hid (rowCheck_any xs v w h)
  obtain ⟨a, c, rfl, h1, h2, -, -, hc⟩ := h.open
  have HC := Lib.hid hc
  unfold maxLen at h2
  clear h hc
  by_cases he : rowE xs = 0
  · have HOK := Lib.hid ((rowE_zero xs).1 he)
    have h64 := HOK.out.1
    have HV : Hid (maxV xs = maxA xs) := by unfold Hid maxV; rw [if_pos he]
    rw [HV.out, he]
    rw [he] at HCK
    clear he HV
    go_enter Tryd.func38, Tryd.ntmps38
    go_wp2_with fail
    refine HCK.out.mono ?_
    rintro e w1 ⟨rfl, hE1⟩
    have HE1 := Lib.hid hE1
    clear hE1 HCK
    go_wp2_with fail
    go_loopw [5, 15] (fun s t wr => ∃ j : Nat, j ≤ xs.length ∧ t = .int .i64 j ∧ s = .int .i64 (maxA (xs.take j)) ∧ Ext w wr) (fun _ t _ => xs.length - (intOf t).toNat)
    case atStart => exact ⟨0, by omega, rfl, rfl, HE1.out⟩
    case round =>
      obtain ⟨j, hj, rfl, rfl, hE⟩ := hrel
      by_cases hlt : j < xs.length
      · obtain ⟨b, off, rfl, hb, hcell⟩ := HC.out (by intro e; simp [e] at hlt)
        obtain ⟨x, hx⟩ : ∃ x, xs[j]? = some x := ⟨xs[j], List.getElem?_eq_getElem hlt⟩
        have g1 := hE.cell (hcell j x hx)
        obtain ⟨hx1, hx2⟩ := HOK.out.2 x (List.mem_of_getElem? hx)
        have HN : Hid (maxA (xs.take (j + 1)) = max (maxA (xs.take j)) (x.natAbs : Int)) := by unfold Hid; rw [take_snoc hx]; exact maxA_snoc _ _
        obtain ⟨g0, hg0⟩ : ∃ g0, maxA (xs.take j) = g0 := ⟨_, rfl⟩
        rw [hg0] at HN ⊢
        obtain ⟨x0, hx0⟩ : ∃ x0 : Int, (x.natAbs : Int) = x0 := ⟨_, rfl⟩
        rw [hx0] at HN
        have HA := Lib.hid (fun W => abs_any x W (by omega) (by omega))
        rw [hx0] at HA
        clear hcell hx hg0 hx0
        go_wp2_with (go_at_call 56; refine (HA.out _).mono ?_; rintro e w' ⟨rfl, rfl⟩)
        all_goals
          go_roundw
          case rel => exact ⟨j + 1, by omega, by go_num, by rw [HN.out]; congr 1; omega, hE⟩
          case measure => simp [intOf]; omega
      · obtain rfl : j = xs.length := by omega
        have HT : Hid (xs.take xs.length = xs) := List.take_of_length_le (Nat.le_refl _)
        rw [HT.out]
        go_wp2_with fail
        go_ret2
        exact ⟨rfl, hE⟩
  · have h4 : rowE xs = 4 := (rowE_four xs).resolve_left he
    have HV : Hid (maxV xs = 0) := by unfold Hid maxV; rw [if_neg he]
    rw [HV.out, h4]
    rw [h4] at HCK
    clear he h4
    go_enter Tryd.func38, Tryd.ntmps38
    go_wp2_with fail
    refine HCK.out.mono ?_
    rintro e w1 ⟨rfl, hE1⟩
    have HE1 := Lib.hid hE1
    clear hE1 HCK
    go_wp2_with fail
    go_ret2
    exact ⟨rfl, HE1.out⟩
end Go.Proofs.YtobgghjmclagaaaDoor
