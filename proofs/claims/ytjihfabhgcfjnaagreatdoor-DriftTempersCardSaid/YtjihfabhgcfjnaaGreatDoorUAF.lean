/- Merged: Prime, Monzo, DriftA. -/
import Derived.Test.YtjihfabhgcfjnaaGreatDoorRows
import Derived.Test.YtjihfabhgcfjnaaGreatDoorUAA
/- Contracts of package prime: IsPrime, Check. -/
namespace Go.Proofs.YtjihfabhgcfjnaaGreatDoor
set_option linter.unusedVariables false
set_option linter.unusedSimpArgs false
open Go.RowKit

def prLoop (n : Int) : Nat → Int → Bool
  | 0, _ => true
  | k + 1, d => if d * d ≤ n then (if n % d = 0 then false else prLoop n k (d + 1)) else true
def isPrime (n : Int) : Bool := decide (2 ≤ n) && decide (n ≤ 97) && prLoop n 10 2

theorem isPrime5_any (n : Int) (w : World) :
    Calls Tryz.prog 124 #[.int .i64 n] w fun e w' => e = .returned (.bool (isPrime n)) ∧ w = w' := by
  by_cases h0 : n < 2
  · go_enter Tryz.func124, Tryz.ntmps124
    go_wp2
    go_ret
    exact ⟨by simp [isPrime]; omega, rfl⟩
  · by_cases h1 : 97 < n
    · go_enter Tryz.func124, Tryz.ntmps124
      go_wp2
      go_ret
      exact ⟨by simp [isPrime]; omega, rfl⟩
    · have HS : Hid (isPrime n = prLoop n 10 2) := by
        unfold Hid isPrime
        rw [decide_eq_true (by omega), decide_eq_true (by omega)]; rfl
      go_enter Tryz.func124, Tryz.ntmps124
      go_wp2
      go_loop [3] (fun t => ∃ (d : Int) (k : Nat), 2 ≤ d ∧ (k : Int) + d = 12 ∧ t = .int .i64 d ∧ Hid (prLoop n k d = prLoop n 10 2)) (fun t => (12 - intOf t).toNat)
      case atStart => exact ⟨2, 10, by omega, by omega, rfl, rfl⟩
      case round =>
        obtain ⟨d, k, hd, hk, rfl, HP⟩ := hrel
        have hd2 : d ≤ 12 := by omega
        have hdd : 0 ≤ d * d := Int.mul_nonneg (by omega) (by omega)
        have hdd2 : d * d ≤ 12 * 12 := Int.mul_le_mul hd2 hd2 (by omega) (by omega)
        have HK : Hid ((k : Int) + d = 12) := hk
        clear hk
        by_cases hle : d * d ≤ n
        · have hd3 : d ≤ 11 := by
            by_cases h : d = 12
            · subst h; omega
            · omega
          by_cases hz : n % d = 0
          · have hz' : (n % d == 0) = true := by simp [hz]
            have HZ : Hid (n % d = 0) := hz
            clear hz
            go_wp2
            go_ret
            have hp := HP.out
            have hk := HK.out
            obtain ⟨k, rfl⟩ : ∃ j, k = j + 1 := ⟨k - 1, by omega⟩
            rw [prLoop, if_pos hle, if_pos HZ.out] at hp
            rw [HS.out, ← hp]
            exact ⟨rfl, rfl⟩
          · have hz' : (n % d == 0) = false := by simp [hz]
            have HZ : Hid (¬ n % d = 0) := hz
            clear hz
            have hk := HK.out
            obtain ⟨k, rfl⟩ : ∃ j, k = j + 1 := ⟨k - 1, by omega⟩
            have hp := HP.out
            rw [prLoop, if_pos hle, if_neg HZ.out] at hp
            have HP' : Hid (prLoop n k (d + 1) = prLoop n 10 2) := hp
            have HK : Hid ((k : Int) + (d + 1) = 12) := by unfold Hid; omega
            clear hp HP hk
            go_wp2
            go_round
            case rel => exact ⟨d + 1, k, by omega, HK.out, rfl, HP'⟩
            case measure => simp [intOf]; omega
        · go_wp2
          go_ret
          have hp := HP.out
          rw [HS.out, ← hp]
          cases k with
          | zero => exact ⟨rfl, rfl⟩
          | succ k => rw [prLoop, if_neg (by omega)]; exact ⟨rfl, rfl⟩

def ordLoop : Option Int → List Int → Int
  | _, [] => 0
  | p, x :: l => if isPrime x then (if p.any (x ≤ ·) then 6 else ordLoop (some x) l) else 25
def primesE5 (p : List Int) : Int := if p.length = 0 then 13 else if 6 < p.length then 4 else ordLoop none p

set_option maxHeartbeats 400000 in
theorem pcheck_any (p : List Int) (v : Value) (w : World) (hp : Ints w v p) :
    Calls Tryz.prog 75 #[v] w fun e w' => e = .returned (.int .i64 (primesE5 p)) ∧ w = w' := by
  obtain ⟨a, c, rfl, hlc, hc, -, hb, hcells⟩ := hp.open
  unfold maxLen at hc
  by_cases h0 : p.length = 0
  · go_enter Tryz.func75, Tryz.ntmps75
    go_wp2
    go_ret
    exact ⟨by simp [primesE5, h0], rfl⟩
  by_cases h6 : 6 < p.length
  · go_enter Tryz.func75, Tryz.ntmps75
    go_wp2
    go_ret
    exact ⟨by simp [primesE5, h0, h6], rfl⟩
  obtain ⟨b, off, rfl, hbw, hcell⟩ := hcells (by intro h; simp [h] at h0)
  have HS : Hid (primesE5 p = ordLoop none p) := by unfold Hid primesE5; rw [if_neg h0, if_neg h6]
  have h00 : ((p.length : Int) == 0) = false := by simpa using h0
  have HC := Lib.hid hcell; have HB := Lib.hid hb; clear hcell hb hcells hp h0
  go_enter Tryz.func75, Tryz.ntmps75
  go_wp2
  go_loop [15] (fun t => ∃ (pre rest : List Int), t = .int .i64 pre.length ∧ Hid (p = pre ++ rest) ∧ Hid (ordLoop pre.getLast? rest = ordLoop none p)) (fun t => p.length - (intOf t).toNat)
  case atStart => exact ⟨[], p, rfl, rfl, rfl⟩
  case round =>
    obtain ⟨pre, rest, rfl, HP, HO⟩ := hrel
    have hlen : p.length = pre.length + rest.length := by rw [HP.out]; simp
    cases rest with
    | nil =>
      have : ¬ (pre.length < p.length) := by simp at hlen; omega
      clear hlen
      go_wp2
      go_ret
      rw [HS.out, ← HO.out]
      exact ⟨rfl, rfl⟩
    | cons x rest =>
      have hlt : pre.length < p.length := by simp at hlen; omega
      clear hlen
      have hx := HC.out pre.length x (by rw [HP.out]; simp)
      have hbx := HB.out x (by rw [HP.out]; simp)
      obtain ⟨hbx1, hbx2⟩ := hbx
      have ho := HO.out
      cases hpr : isPrime x with
      | false =>
        have HQ : Hid (ordLoop none p = 25) := by unfold Hid; rw [← ho, ordLoop, hpr]; rfl
        have hcall := fun w => isPrime5_any x w
        rw [hpr] at hcall
        have HCALL := Lib.hid hcall
        clear hcall hpr ho
        go_wp2_with (go_at_call 124; refine (HCALL.out _).mono ?_; rintro e w' ⟨rfl, rfl⟩)
        go_ret
        rw [HS.out, HQ.out]
        exact ⟨rfl, rfl⟩
      | true =>
        have hcall := fun w => isPrime5_any x w
        rw [hpr] at hcall
        have HCALL := Lib.hid hcall
        rcases List.eq_nil_or_concat pre with hnil | ⟨pre', y, rfl⟩
        · subst hnil
          simp only [List.length_nil, Nat.add_zero] at hx
          have HO' : Hid (ordLoop [x].getLast? rest = ordLoop none p) := by unfold Hid; rw [← ho, ordLoop, hpr]; rfl
          clear hcall hpr ho
          go_wp2_with (go_at_call 124; refine (HCALL.out _).mono ?_; rintro e w' ⟨rfl, rfl⟩)
          go_round
          case rel => exact ⟨[x], rest, rfl, HP, HO'⟩
          case measure => simp [intOf]; omega
        · have hy := HC.out pre'.length y (by rw [HP.out]; simp)
          have hl : (pre'.concat y).length = pre'.length + 1 := by simp
          rw [hl] at hx hlt
          rw [hl]
          by_cases hxy : x ≤ y
          · have HQ : Hid (ordLoop none p = 6) := by unfold Hid; rw [← ho, ordLoop, hpr]; simp [hxy]
            clear hcall hpr ho hl
            go_wp2_with (go_at_call 124; refine (HCALL.out _).mono ?_; rintro e w' ⟨rfl, rfl⟩)
            go_ret
            rw [HS.out, HQ.out]
            exact ⟨rfl, rfl⟩
          · have HO' : Hid (ordLoop (pre' ++ [y] ++ [x]).getLast? rest = ordLoop none p) := by unfold Hid; rw [← ho, ordLoop, hpr]; simp [hxy]
            clear hcall hpr ho hl
            go_wp2_with (go_at_call 124; refine (HCALL.out _).mono ?_; rintro e w' ⟨rfl, rfl⟩)
            go_round
            case rel => exact ⟨pre' ++ [y] ++ [x], rest, by simp; go_num, by simpa using HP, HO'⟩
            case measure => simp [intOf]; omega

end Go.Proofs.YtjihfabhgcfjnaaGreatDoor
/- Contract of monzo.CheckAll. -/
namespace Go.Proofs.YtjihfabhgcfjnaaGreatDoor
set_option linter.unusedVariables false
set_option linter.unusedSimpArgs false
open Go.RowKit

def farB (n : Int) : Bool := decide (1000 < n) || decide (n < -1000)
def rowsE (n : Nat) : List (List Int) → Int
  | [] => 0
  | x :: l => if x.length = n then (if x.any farB then 4 else rowsE n l) else 5
def checkAllE (p : List Int) (l : List (List Int)) : Int := if primesE5 p = 0 then rowsE p.length l else primesE5 p

set_option maxHeartbeats 800000 in
theorem monzoCheckAll_any (p : List Int) (v : Value) (l : List (List Int)) (u : Value) (w : World) (hp : Ints w v p) (hl : Rows2 w u l) :
    Calls Tryz.prog 78 #[v, u] w fun e w' => e = .returned (.int .i64 (checkAllE p l)) ∧ w = w' := by
  have hcall := pcheck_any p v w hp
  obtain ⟨ap, cp, rfl, hlcp, hcp, -, -, -⟩ := hp.open
  obtain ⟨a, c, rfl, hlc, hc, -, hcells⟩ := inCell.open hl
  unfold maxLen at hcp hc
  have HCALL := Lib.hid hcall
  have HCELLS := Lib.hid hcells
  clear hcall hcells hl hp
  by_cases hz : primesE5 p = 0
  · have HS : Hid (checkAllE p l = rowsE p.length l) := by unfold Hid checkAllE; rw [if_pos hz]
    rw [hz] at HCALL
    clear hz
    go_enter Tryz.func78, Tryz.ntmps78
    go_wp2_with (go_at_call 75; refine HCALL.out.mono ?_; rintro e w' ⟨rfl, rfl⟩)
    go_loop [17] (fun t => ∃ (pre rest : List (List Int)), t = .int .i64 pre.length ∧ Hid (l = pre ++ rest) ∧ Hid (rowsE p.length rest = rowsE p.length l)) (fun t => l.length - (intOf t).toNat)
    case atStart => exact ⟨[], l, rfl, rfl, rfl⟩
    case round =>
      obtain ⟨pre, rest, rfl, HP, HO⟩ := hrel
      have hlen : l.length = pre.length + rest.length := by rw [HP.out]; simp
      cases rest with
      | nil =>
        have : ¬ (pre.length < l.length) := by simp at hlen; omega
        clear hlen
        go_wp2
        go_ret
        rw [HS.out, ← HO.out]
        exact ⟨rfl, rfl⟩
      | cons x rest =>
        have hlt : pre.length < l.length := by simp at hlen; omega
        clear hlen
        obtain ⟨b, off, rfl, hbw, hcell⟩ := HCELLS.out (by rw [HP.out]; simp)
        obtain ⟨vx, hvx, hx⟩ := hcell pre.length x (by rw [HP.out]; simp)
        clear hcell
        obtain ⟨ax, cx, rfl, hlcx, hcx, -, hbx, hcx2⟩ := hvx.open
        unfold maxLen at hcx
        have HCX := Lib.hid hcx2
        have HBX := Lib.hid hbx
        clear hcx2 hbx hvx
        have ho := HO.out
        by_cases hn : x.length = p.length
        · have hnb : ((x.length : Int) != (p.length : Int)) = false := by simp [hn]
          have HN : Hid (x.length = p.length) := hn
          have ho' : Hid ((if x.any farB then 4 else rowsE p.length rest) = rowsE p.length l) := by unfold Hid; rw [← ho, rowsE, if_pos hn]
          clear hn ho
          go_wp2
          go_loop [28] (fun t => ∃ (xp xr : List Int), t = .int .i64 xp.length ∧ Hid (x = xp ++ xr) ∧ Hid (x.any farB = xr.any farB)) (fun t => x.length - (intOf t).toNat)
          case atStart => exact ⟨[], x, rfl, rfl, rfl⟩
          case round =>
            obtain ⟨xp, xr, rfl, HXP, HXA⟩ := hrel
            have hlen : x.length = xp.length + xr.length := by rw [HXP.out]; simp
            cases xr with
            | nil =>
              have : ¬ (xp.length < x.length) := by simp at hlen; omega
              clear hlen
              go_wp2
              go_round
              case rel => 
                refine ⟨pre ++ [x], rest, by simp, ?_, ?_⟩
                · unfold Hid; rw [HP.out]; simp
                · have := ho'.out
                  rw [HXA.out] at this
                  exact this
              case measure => simp [intOf]; omega
            | cons y xr =>
              have hlt2 : xp.length < x.length := by simp at hlen; omega
              clear hlen
              obtain ⟨bx, ox, rfl, hbx, hcellx⟩ := HCX.out (by rw [HXP.out]; simp)
              have hy := hcellx xp.length y (by rw [HXP.out]; simp)
              obtain ⟨hy1, hy2⟩ := HBX.out y (by rw [HXP.out]; simp)
              clear hcellx
              by_cases hf : 1000 < y
              · have HQ : Hid (rowsE p.length l = 4) := by unfold Hid; rw [← ho'.out, HXA.out]; simp [farB, hf]
                go_wp2
                go_ret
                rw [HS.out, HQ.out]
                exact ⟨rfl, rfl⟩
              · by_cases hg : y < -1000
                · have HQ : Hid (rowsE p.length l = 4) := by unfold Hid; rw [← ho'.out, HXA.out]; simp [farB, hg]
                  go_wp2
                  go_ret
                  rw [HS.out, HQ.out]
                  exact ⟨rfl, rfl⟩
                · have HXA' : Hid (x.any farB = xr.any farB) := by unfold Hid; rw [HXA.out]; simp [farB, hf, hg]
                  go_wp2
                  go_round
                  case rel => exact ⟨xp ++ [y], xr, by simp, by unfold Hid; rw [HXP.out]; simp, HXA'⟩
                  case measure => simp [intOf]; omega
        · have hnb : ((x.length : Int) != (p.length : Int)) = true := by simp; omega
          have HQ : Hid (rowsE p.length l = 5) := by unfold Hid; rw [← ho, rowsE, if_neg hn]
          clear hn ho
          go_wp2
          go_ret
          rw [HS.out, HQ.out]
          exact ⟨rfl, rfl⟩
  · have hnb : (primesE5 p != 0) = true := by simp [hz]
    have HS : Hid (checkAllE p l = primesE5 p) := by unfold Hid checkAllE; rw [if_neg hz]
    clear hz
    go_enter Tryz.func78, Tryz.ntmps78
    go_wp2_with (go_at_call 75; refine HCALL.out.mono ?_; rintro e w' ⟨rfl, rfl⟩)
    go_ret
    rw [HS.out]
    exact ⟨rfl, rfl⟩
end Go.Proofs.YtjihfabhgcfjnaaGreatDoor
/- Contract of drift.sum: two rows, the second one subtracted. -/
namespace Go.Proofs.YtjihfabhgcfjnaaGreatDoor
set_option linter.unusedVariables false
set_option linter.unusedSimpArgs false
open Go.RowKit

/-- One row added, or subtracted. -/
def accRow (s : Bool) (acc row : List Int) : List Int := List.zipWith (fun a x => if s then a - x else a + x) acc row

theorem accRow_len (s : Bool) (acc row : List Int) (h : row.length = acc.length) : (accRow s acc row).length = acc.length := by simp [accRow, h]

/-- Inner loop: what the row holds when the first k elements are done. -/
def accTo (s : Bool) (acc row : List Int) (k : Nat) : List Int := (accRow s acc row).take k ++ acc.drop k

theorem accTo_zero (s : Bool) (acc row : List Int) : accTo s acc row 0 = acc := by simp [accTo]
theorem accTo_all (s : Bool) (acc row : List Int) (h : row.length = acc.length) : accTo s acc row acc.length = accRow s acc row := by
  simp [accTo, List.take_of_length_le, accRow_len s acc row h]
theorem accTo_get (s : Bool) (acc row : List Int) (k : Nat) (a : Int) (h : row.length = acc.length) (hk : acc[k]? = some a) : (accTo s acc row k)[k]? = some a := by
  have hlt : k < acc.length := (List.getElem?_eq_some_iff.1 hk).1
  have hl : ((accRow s acc row).take k).length = k := by simp [accRow_len s acc row h]; omega
  unfold accTo
  rw [List.getElem?_append_right (by omega), hl]
  simpa using hk
theorem accTo_succ (s : Bool) (acc row : List Int) (k : Nat) (a x : Int) (h : row.length = acc.length) (hk : acc[k]? = some a) (hx : row[k]? = some x) :
    (accTo s acc row k).set k (if s then a - x else a + x) = accTo s acc row (k + 1) := by
  have hlt : k < acc.length := (List.getElem?_eq_some_iff.1 hk).1
  have hl : ((accRow s acc row).take k).length = k := by simp [accRow_len s acc row h]; omega
  have hz : (accRow s acc row)[k]? = some (if s then a - x else a + x) := by
    simp [accRow, List.getElem?_zipWith, hk, hx]
  unfold accTo
  rw [List.set_append_right _ _ (by omega), hl, Nat.sub_self, List.take_add_one, hz]
  rw [show acc.drop k = a :: acc.drop (k + 1) by rw [List.drop_eq_getElem_cons hlt]; congr 1; exact (List.getElem?_eq_some_iff.1 hk).2]
  simp

def sumRows (x y : List Int) : List Int := List.zipWith (· - ·) x y

def accs (x y : List Int) : Nat → List Int
  | 0 => List.replicate x.length 0
  | 1 => x
  | _ => sumRows x y
theorem accs_zero (x y : List Int) : accRow false (accs x y 0) x = accs x y 1 := by
  show accRow false (List.replicate x.length 0) x = x
  apply List.ext_getElem?
  intro i
  by_cases hi : i < x.length <;> simp [accRow, List.getElem?_zipWith, hi, List.getElem?_replicate]
theorem accs_one (x y : List Int) (h : y.length = x.length) : accRow true (accs x y 1) y = accs x y 2 := rfl
theorem accs_len (x y : List Int) (i : Nat) (h : y.length = x.length) : (accs x y i).length = x.length := by
  unfold accs sumRows; split <;> simp [h]
theorem accs_bd (x y : List Int) (i : Nat) (hi : i < 2) (hx : ∀ a ∈ x, -4000000 ≤ a ∧ a ≤ 4000000) : ∀ a ∈ accs x y i, -4000000 ≤ a ∧ a ≤ 4000000 := by
  match i, hi with
  | 0, _ => intro a ha; have := (List.mem_replicate.1 ha).2; omega
  | 1, _ => exact hx

theorem sumRows_bd2 (x y : List Int) (m n : Int) (hx : ∀ a ∈ x, -m ≤ a ∧ a ≤ m) (hy : ∀ a ∈ y, -n ≤ a ∧ a ≤ n) : ∀ a ∈ sumRows x y, -(m + n) ≤ a ∧ a ≤ m + n := by
  intro a ha
  obtain ⟨i, hi, rfl⟩ := List.getElem_of_mem ha
  simp only [sumRows, List.length_zipWith] at hi
  simp only [sumRows, List.getElem_zipWith]
  have h1 := hx (x[i]'(by omega)) (List.getElem_mem _)
  have h2 := hy (y[i]'(by omega)) (List.getElem_mem _)
  omega
set_option maxRecDepth 100000 in
set_option maxHeartbeats 1000000 in
theorem sum5_any (x y : List Int) (u : Value) (w : World) (h : Rows2 w u [x, y]) (hn : y.length = x.length) (hlen : x.length ≤ 1000) (hx : ∀ a ∈ x, -4000000 ≤ a ∧ a ≤ 4000000) (hy : ∀ a ∈ y, -4000000 ≤ a ∧ a ≤ 4000000) :
    Calls Tryz.prog 112 #[u] w fun e w' => ∃ r, e = .returned r ∧ Ext w w' ∧ w'.ownsRow w.heap.size 3 1 r x.length ((sumRows x y).map (Value.int .i64)) := by
  obtain ⟨a, c, rfl, hlc, hc, -, hcells⟩ := inCell.open h
  obtain ⟨b, off, rfl, hbw, hcell⟩ := hcells (by simp)
  obtain ⟨v0, hv0, hc0⟩ := hcell 0 x rfl
  obtain ⟨v1, hv1, hc1⟩ := hcell 1 y rfl
  obtain ⟨a0, c0, rfl, hl0, hm0, -, -, -⟩ := Ints.open hv0
  obtain ⟨a1, c1, rfl, hl1, hm1, -, -, -⟩ := Ints.open hv1
  simp only [List.length_cons, List.length_nil, Nat.zero_add, Nat.reduceAdd, Nat.add_zero] at hlc hc0 hc1 ⊢
  obtain ⟨i0, hi, hz0, hz1, hz2⟩ := info_parts infoInt
  unfold maxLen at hc hm0 hm1
  have HX := Lib.hid hx
  have HY := Lib.hid hy
  have HI := Lib.hid hi; have HZ0 := Lib.hid hz0; have HZ1 := Lib.hid hz1; have HZ2 := Lib.hid hz2
  have HV0 := Lib.hid hv0
  have HV1 := Lib.hid hv1
  have HN := Lib.hid hn
  clear hcell hcells hx hy h hv0 hv1 hi hz0 hz1 hz2
  rw [hn] at hc1
  rw [hn] at hl1
  clear hn
  go_enter Tryz.func112, Tryz.ntmps112
  go_wp2_with (at_make; refine wpList_make_full _ rfl _ _ 37 rfl w.heap.size 3 i0 (.int .i64 0) 1 Tryz.underlying37 HI.out HZ0.out HZ1.out _ _ _ _ x.length rfl rfl rfl rfl ?c1 ?c2 ?c3 ?_)
  case c1 => rw [HZ2.out]; omega
  case c2 => unfold maxLen; omega
  case c3 => exact Nat.le_refl _
  intro w1 hown hgrow
  rw [made_ints] at hown
  have hB : Ext w w1 := (Below.refl _ _).grown hgrow (Nat.le_refl _) (by intro k hk; cases hk)
  clear hgrow
  have hsz : w.heap.size < w1.heap.size := (hown.lt w.heap.size rfl).2
  go_wp2
  go_loopw [15] (fun t wr => ∃ i : Nat, i ≤ 2 ∧ t = .int .i64 i ∧ Ext w wr ∧ w.heap.size < wr.heap.size ∧ Hid (wr.ownsRow w.heap.size 3 1 (.slice (some ⟨w.heap.size, 0, none⟩) x.length x.length) x.length ((accs x y i).map (Value.int .i64)))) (fun t _ => 2 - (intOf t).toNat)
  case atStart => exact ⟨0, by omega, rfl, hB, hsz, hown⟩
  case round =>
    obtain ⟨i, hi2, rfl, hBr, hszr, HOWN⟩ := hrel
    clear hown hB hsz
    by_cases hi : i < 2
    · obtain ⟨row, s, ar, cr, hcr, hrow, hrl, hrb, hs, hnext, hcap⟩ : ∃ row s ar cr, w.cell? ⟨b, off + i, none⟩ = some (.slice ar x.length cr) ∧ Ints w (.slice ar x.length cr) row ∧ row.length = x.length ∧ (∀ a ∈ row, -4000000 ≤ a ∧ a ≤ 4000000) ∧ ((i : Int) % 2 == 1) = s ∧ accRow s (accs x y i) row = accs x y (i + 1) ∧ x.length ≤ cr ∧ cr ≤ 9223372036854775807 := by
        match i, hi with
        | 0, _ => exact ⟨x, false, a0, c0, hc0, HV0.out, rfl, HX.out, rfl, accs_zero x y, hl0, hm0⟩
        | 1, _ => exact ⟨y, true, a1, c1, hc1, by have := HV1.out; rw [HN.out] at this; exact this, HN.out, HY.out, rfl, accs_one x y HN.out, hl1, hm1⟩
      have hcr' := hBr.cell hcr
      obtain ⟨-, -, -, -, hcellr⟩ := hrow.cells
      have HROW := Lib.hid hcellr
      have HRB := Lib.hid hrb
      have HRL := Lib.hid hrl
      have HNEXT := Lib.hid hnext
      have hal : (accs x y i).length = x.length := accs_len x y i HN.out
      have hab : ∀ a ∈ accs x y i, -4000000 ≤ a ∧ a ≤ 4000000 := accs_bd x y i hi HX.out
      have HAL := Lib.hid hal
      have HAB := Lib.hid hab
      clear hrb hrl hnext hcellr hrow hcr hal hab
      go_wp2
      go_loopw [22] (fun t wr => ∃ k : Nat, k ≤ x.length ∧ t = .int .i64 k ∧ Ext w wr ∧ w.heap.size < wr.heap.size ∧ Hid (wr.ownsRow w.heap.size 3 1 (.slice (some ⟨w.heap.size, 0, none⟩) x.length x.length) x.length ((accTo s (accs x y i) row k).map (Value.int .i64)))) (fun t _ => x.length - (intOf t).toNat)
      case atStart => exact ⟨0, Nat.zero_le _, rfl, hBr, hszr, by rw [accTo_zero]; exact HOWN⟩
      case round =>
        clear HOWN
        rename_i wo
        obtain ⟨k, hk, rfl, hBr, hszr, HOWN⟩ := hrel
        by_cases hkl : k < x.length
        · obtain ⟨br, offr, rfl, hbr, hcx⟩ := HROW.out (by intro e; have := HRL.out; simp [e] at this; omega)
          obtain ⟨xk, hxk⟩ : ∃ xk, row[k]? = some xk := ⟨row[k]'(by have := HRL.out; omega), List.getElem?_eq_getElem _⟩
          obtain ⟨ak, hak⟩ : ∃ ak, (accs x y i)[k]? = some ak := ⟨(accs x y i)[k]'(by have := HAL.out; omega), List.getElem?_eq_getElem _⟩
          have hxc := hBr.cell (hcx k xk hxk)
          obtain ⟨hac, haf⟩ := owns_cell HOWN (accTo_get s _ _ k ak (HRL.out.trans HAL.out.symm) hak)
          obtain ⟨hx1, hx2⟩ := HRB.out xk (List.mem_of_getElem? hxk)
          obtain ⟨ha1, ha2⟩ := HAB.out ak (List.mem_of_getElem? hak)
          have HSET : Hid ((accTo s (accs x y i) row k).set k (if s then ak - xk else ak + xk) = accTo s (accs x y i) row (k + 1)) := accTo_succ s _ _ k ak xk (HRL.out.trans HAL.out.symm) hak hxk
          have HS := owns_set HOWN k (if s then ak - xk else ak + xk)
          rw [HSET.out] at HS
          have HOWN2 := Lib.hid HS
          clear HS hcx hxk hak HOWN HSET
          cases s with
          | false =>
            go_wp2
            go_roundw
            case rel => exact ⟨k + 1, by omega, by go_num, hBr.setCell (Nat.le_refl _) _, by simpa [World.setCell] using hszr, HOWN2.out⟩
            case measure => simp [intOf]; omega
          | true =>
            go_wp2
            go_roundw
            case rel => exact ⟨k + 1, by omega, by go_num, hBr.setCell (Nat.le_refl _) _, by simpa [World.setCell] using hszr, HOWN2.out⟩
            case measure => simp [intOf]; omega
        · obtain rfl : k = x.length := by omega
          have HE : Hid (accTo s (accs x y i) row x.length = accs x y (i + 1)) := by
            unfold Hid
            rw [← HAL.out, accTo_all _ _ _ (HRL.out.trans HAL.out.symm)]; exact HNEXT.out
          rw [HE.out] at HOWN
          go_wp2
          go_roundw
          case rel => exact ⟨i + 1, by omega, by go_num, hBr, hszr, HOWN⟩
          case measure => simp [intOf]; omega
    · obtain rfl : i = 2 := by omega
      go_wp2
      go_ret
      refine ⟨_, rfl, hBr, ?_⟩
      exact HOWN.out
end Go.Proofs.YtjihfabhgcfjnaaGreatDoor
