/- Contracts of package prime: IsPrime, Check. -/
import Derived.Test.YtplcikgmefcfbaaRows
import Derived.Test.YtplcikgmefcfbaaBase
namespace Go.Proofs.Ytplcikgmefcfbaa
set_option linter.unusedVariables false
set_option linter.unusedSimpArgs false
open Go.RowKit

def prLoop (n : Int) : Nat → Int → Bool
  | 0, _ => true
  | k + 1, d => if d * d ≤ n then (if n % d = 0 then false else prLoop n k (d + 1)) else true
def isPrime (n : Int) : Bool := decide (2 ≤ n) && decide (n ≤ 97) && prLoop n 10 2

theorem isPrime_any (n : Int) (w : World) :
    Calls Try.prog 67 #[.int .i64 n] w fun e w' => e = .returned (.bool (isPrime n)) ∧ w = w' := by
  by_cases h0 : n < 2
  · go_enter Try.func67, Try.ntmps67
    go_wp2
    go_ret
    exact ⟨by simp [isPrime]; omega, rfl⟩
  · by_cases h1 : 97 < n
    · go_enter Try.func67, Try.ntmps67
      go_wp2
      go_ret
      exact ⟨by simp [isPrime]; omega, rfl⟩
    · have HS : Hid (isPrime n = prLoop n 10 2) := by
        unfold Hid isPrime
        rw [decide_eq_true (by omega), decide_eq_true (by omega)]; rfl
      go_enter Try.func67, Try.ntmps67
      go_wp2
      go_loop [3] (fun t => ∃ (d : Int) (k : Nat), 2 ≤ d ∧ (k : Int) + d = 12 ∧ t = .int .i64 d ∧ Hid (prLoop n k d = prLoop n 10 2)) (fun t => (12 - intOf t).toNat)
      case atStart => exact ⟨2, 10, by omega, by omega, rfl, rfl⟩
      case round =>
        obtain ⟨d, k, hd, hk, rfl, HP⟩ := hrel
        have hd2 : d ≤ 12 := by omega
        have hdd : 0 ≤ d * d := Int.mul_nonneg (by omega) (by omega)
        have hdd2 : d * d ≤ 12 * 12 := Int.mul_le_mul hd2 hd2 (by omega) (by omega)
        have HK : Hid ((k : Int) + d = 12) := hk
        clear hk
        by_cases hle : d * d ≤ n
        · have hd3 : d ≤ 11 := by
            by_cases h : d = 12
            · subst h; omega
            · omega
          by_cases hz : n % d = 0
          · have hz' : (n % d == 0) = true := by simp [hz]
            have HZ : Hid (n % d = 0) := hz
            clear hz
            go_wp2
            go_ret
            have hp := HP.out
            have hk := HK.out
            obtain ⟨k, rfl⟩ : ∃ j, k = j + 1 := ⟨k - 1, by omega⟩
            rw [prLoop, if_pos hle, if_pos HZ.out] at hp
            rw [HS.out, ← hp]
            exact ⟨rfl, rfl⟩
          · have hz' : (n % d == 0) = false := by simp [hz]
            have HZ : Hid (¬ n % d = 0) := hz
            clear hz
            have hk := HK.out
            obtain ⟨k, rfl⟩ : ∃ j, k = j + 1 := ⟨k - 1, by omega⟩
            have hp := HP.out
            rw [prLoop, if_pos hle, if_neg HZ.out] at hp
            have HP' : Hid (prLoop n k (d + 1) = prLoop n 10 2) := hp
            have HK : Hid ((k : Int) + (d + 1) = 12) := by unfold Hid; omega
            clear hp HP hk
            go_wp2
            go_round
            case rel => exact ⟨d + 1, k, by omega, HK.out, rfl, HP'⟩
            case measure => simp [intOf]; omega
        · go_wp2
          go_ret
          have hp := HP.out
          rw [HS.out, ← hp]
          cases k with
          | zero => exact ⟨rfl, rfl⟩
          | succ k => rw [prLoop, if_neg (by omega)]; exact ⟨rfl, rfl⟩

def ordLoop : Option Int → List Int → Int
  | _, [] => 0
  | p, x :: l => if isPrime x then (if p.any (x ≤ ·) then 6 else ordLoop (some x) l) else 25
def primesE (p : List Int) : Int := if p.length = 0 then 13 else if 6 < p.length then 4 else ordLoop none p

set_option maxHeartbeats 400000 in
theorem pcheck_any (p : List Int) (v : Value) (w : World) (hp : Ints w v p) :
    Calls Try.prog 55 #[v] w fun e w' => e = .returned (.int .i64 (primesE p)) ∧ w = w' := by
  obtain ⟨a, c, rfl, hlc, hc, -, hb, hcells⟩ := hp.open
  unfold maxLen at hc
  by_cases h0 : p.length = 0
  · go_enter Try.func55, Try.ntmps55
    go_wp2
    go_ret
    exact ⟨by simp [primesE, h0], rfl⟩
  by_cases h6 : 6 < p.length
  · go_enter Try.func55, Try.ntmps55
    go_wp2
    go_ret
    exact ⟨by simp [primesE, h0, h6], rfl⟩
  obtain ⟨b, off, rfl, hbw, hcell⟩ := hcells (by intro h; simp [h] at h0)
  have HS : Hid (primesE p = ordLoop none p) := by unfold Hid primesE; rw [if_neg h0, if_neg h6]
  have h00 : ((p.length : Int) == 0) = false := by simpa using h0
  have HC := Lib.hid hcell; have HB := Lib.hid hb; clear hcell hb hcells hp h0
  go_enter Try.func55, Try.ntmps55
  go_wp2
  go_loop [15] (fun t => ∃ (pre rest : List Int), t = .int .i64 pre.length ∧ Hid (p = pre ++ rest) ∧ Hid (ordLoop pre.getLast? rest = ordLoop none p)) (fun t => p.length - (intOf t).toNat)
  case atStart => exact ⟨[], p, rfl, rfl, rfl⟩
  case round =>
    obtain ⟨pre, rest, rfl, HP, HO⟩ := hrel
    have hlen : p.length = pre.length + rest.length := by rw [HP.out]; simp
    cases rest with
    | nil =>
      have : ¬ (pre.length < p.length) := by simp at hlen; omega
      clear hlen
      go_wp2
      go_ret
      rw [HS.out, ← HO.out]
      exact ⟨rfl, rfl⟩
    | cons x rest =>
      have hlt : pre.length < p.length := by simp at hlen; omega
      clear hlen
      have hx := HC.out pre.length x (by rw [HP.out]; simp)
      have hbx := HB.out x (by rw [HP.out]; simp)
      obtain ⟨hbx1, hbx2⟩ := hbx
      have ho := HO.out
      cases hpr : isPrime x with
      | false =>
        have HQ : Hid (ordLoop none p = 25) := by unfold Hid; rw [← ho, ordLoop, hpr]; rfl
        have hcall := fun w => isPrime_any x w
        rw [hpr] at hcall
        have HCALL := Lib.hid hcall
        clear hcall hpr ho
        go_wp2_with (go_at_call 67; refine (HCALL.out _).mono ?_; rintro e w' ⟨rfl, rfl⟩)
        go_ret
        rw [HS.out, HQ.out]
        exact ⟨rfl, rfl⟩
      | true =>
        have hcall := fun w => isPrime_any x w
        rw [hpr] at hcall
        have HCALL := Lib.hid hcall
        rcases List.eq_nil_or_concat pre with hnil | ⟨pre', y, rfl⟩
        · subst hnil
          simp only [List.length_nil, Nat.add_zero] at hx
          have HO' : Hid (ordLoop [x].getLast? rest = ordLoop none p) := by unfold Hid; rw [← ho, ordLoop, hpr]; rfl
          clear hcall hpr ho
          go_wp2_with (go_at_call 67; refine (HCALL.out _).mono ?_; rintro e w' ⟨rfl, rfl⟩)
          go_round
          case rel => exact ⟨[x], rest, rfl, HP, HO'⟩
          case measure => simp [intOf]; omega
        · have hy := HC.out pre'.length y (by rw [HP.out]; simp)
          have hl : (pre'.concat y).length = pre'.length + 1 := by simp
          rw [hl] at hx hlt
          rw [hl]
          by_cases hxy : x ≤ y
          · have HQ : Hid (ordLoop none p = 6) := by unfold Hid; rw [← ho, ordLoop, hpr]; simp [hxy]
            clear hcall hpr ho hl
            go_wp2_with (go_at_call 67; refine (HCALL.out _).mono ?_; rintro e w' ⟨rfl, rfl⟩)
            go_ret
            rw [HS.out, HQ.out]
            exact ⟨rfl, rfl⟩
          · have HO' : Hid (ordLoop (pre' ++ [y] ++ [x]).getLast? rest = ordLoop none p) := by unfold Hid; rw [← ho, ordLoop, hpr]; simp [hxy]
            clear hcall hpr ho hl
            go_wp2_with (go_at_call 67; refine (HCALL.out _).mono ?_; rintro e w' ⟨rfl, rfl⟩)
            go_round
            case rel => exact ⟨pre' ++ [y] ++ [x], rest, by simp; go_num, by simpa using HP, HO'⟩
            case measure => simp [intOf]; omega

end Go.Proofs.Ytplcikgmefcfbaa
