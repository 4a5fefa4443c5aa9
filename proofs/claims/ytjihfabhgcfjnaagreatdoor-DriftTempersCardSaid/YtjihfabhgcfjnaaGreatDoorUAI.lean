/- Merged: SlRow, DriftD. -/
import Derived.Test.YtjihfabhgcfjnaaGreatDoorUAA
import Derived.Lib.SliceRun
import Derived.WalkSpells
import Derived.Laws.AppendOwnNone
import Derived.Test.YtjihfabhgcfjnaaGreatDoorUAH
/- Contracts of generic functions of package slices at api.Row. -/
namespace Go.Proofs.YtjihfabhgcfjnaaGreatDoor
set_option linter.unusedVariables false
set_option linter.unusedSimpArgs false
open Go.RowKit


set_option maxHeartbeats 400000 in
/-- slices.Clone: a row of the call's own. -/
theorem cloneRow_any (xs : List Int) (v : Value) (w : World) (h : Ints w v xs) (hlen : xs.length ≤ 1000000) :
    Calls Tryz.prog 107 #[v] w fun e w' => ∃ r, e = .returned r ∧ Ext w w' ∧ w'.ownsRow w.heap.size 3 1 r xs.length (xs.map (Value.int .i64)) := by
  obtain ⟨a, c, rfl, h1, h2, h3, hb, hc⟩ := h.open
  obtain ⟨i0, hi, hz0, hz1, hz2⟩ := info_parts infoInt
  have HI := Lib.hid hi; have HZ0 := Lib.hid hz0; have HZ1 := Lib.hid hz1; have HZ2 := Lib.hid hz2
  have HB := Lib.hid hb
  have HC := Lib.hid hc
  clear hi hz0 hz1 hz2 hb hc h
  unfold maxLen at h2
  cases a with
  | none =>
    have h0 : xs = [] := by have := h3 rfl; exact List.eq_nil_of_length_eq_zero (by omega)
    subst h0
    obtain rfl : c = 0 := h3 rfl
    clear h3 h1 h2 hlen
    have heq := fun w => Lib.run_eql_slice_nil (P := Tryz.prog) w 37 3 none 0 0 0 0 Tryz.underlying37
    go_enter Tryz.func107, Tryz.ntmps107
    go_wp2
    go_ret
    exact ⟨_, rfl, Ext.refl _, World.ownsRow_nil _ _ _ _⟩
  | some ad =>
    clear h3
    have heq := fun w => Lib.run_eql_slice_nil (P := Tryz.prog) w 37 3 (some ad) xs.length c 0 0 Tryz.underlying37
    have hown : (w.alloc (.cells #[] 3)).ownsRow w.heap.size 3 1 (.slice (some ⟨w.heap.size, 0, none⟩) 0 0) 0 [] := World.ownsRow_made w #[] 0 (Nat.le_refl _) (Nat.zero_le _) rfl
    have hnews : ∀ (j : Nat) (u : Value), (xs.map (Value.int .i64))[j]? = some u → (w.alloc (.cells #[] 3)).cell? (ad.add j) = some u := by
      intro j u hu
      rw [List.getElem?_map] at hu
      cases hj : xs[j]? with
      | none => simp [hj] at hu
      | some x =>
        simp [hj] at hu; subst hu
        obtain ⟨b, off, hab, hbw, hcell⟩ := HC.out (by intro e; simp [e] at hj)
        cases hab
        have := hcell j x hj
        rw [show (⟨b, off, none⟩ : Addr).add j = ⟨b, off + j, none⟩ by unfold Addr.add; split <;> simp_all]
        exact Ext.cell (Ext.alloc w _) this
    have HOWN := Lib.hid hown; have HNEWS := Lib.hid hnews
    clear hown hnews
    go_enter Tryz.func107, Tryz.ntmps107
    go_wp2_with (at_builtin; refine wpList_append_own _ rfl _ _ 37 rfl w.heap.size 3 i0 (.int .i64 0) 1 8 Tryz.underlying37 HI.out HZ0.out HZ1.out HZ2.out rfl (by decide) _ _ _ rfl HOWN.out ad xs.length c (xs.map (Value.int .i64)) rfl ?d1 HNEWS.out ?d2 ?d3 ?d4 ?d5 ?_)
    case d1 => simp
    case d2 => exact ints_oneCell _ _
    case d3 => unfold maxLen; omega
    case d4 => omega
    case d5 => simp
    intro v' w1 hown' hgrow _
    have HO := Lib.hid hown'; have HG := Lib.hid hgrow
    clear hown' hgrow
    go_wp2
    go_ret
    refine ⟨v', rfl, ?_, ?_⟩
    · exact Below.grown (Ext.alloc w _) HG.out (by simp) (by intro k hk; simp [Value.ownBlock] at hk; omega)
    · have := HO.out
      simpa using this


set_option maxHeartbeats 400000 in
/-- slices.Equal. -/
theorem equalRow_any (xs ys : List Int) (u v : Value) (w : World) (h : Ints w u xs) (k : Ints w v ys) :
    Calls Tryz.prog 54 #[u, v] w fun e w' => e = .returned (.bool (xs == ys)) ∧ Ext w w' := by
  obtain ⟨a, c, rfl, h1, h2, -, hxb, hc⟩ := h.open
  obtain ⟨a', c', rfl, k1, k2, -, hyb, kc⟩ := k.open
  have HC := Lib.hid hc; have KC := Lib.hid kc
  clear hc kc h k hxb hyb
  unfold maxLen at h2 k2
  by_cases hl : xs.length = ys.length
  · have hn : ((xs.length : Int) != (ys.length : Int)) = false := by simp [hl]
    have hle1 : xs.length ≤ ys.length := by omega
    have hle2 : ys.length ≤ xs.length := by omega
    have HL := Lib.hid hl
    clear hl
    go_enter Tryz.func54, Tryz.ntmps54
    go_wp2
    go_loopw [13] (fun t wr => ∃ j : Nat, j ≤ xs.length ∧ t = .int .i64 j ∧ Ext w wr ∧ Hid (xs.take j = ys.take j)) (fun t _ => xs.length - (intOf t).toNat)
    case atStart => exact ⟨0, by omega, rfl, Ext.refl _, rfl⟩
    case round =>
      obtain ⟨j, hj, rfl, hE, HT⟩ := hrel
      by_cases hlt : j < xs.length
      · obtain ⟨b, off, rfl, hb, hcell⟩ := HC.out (by intro e; simp [e] at hlt)
        obtain ⟨b', off', rfl, hb', hcell'⟩ := KC.out (by intro e; simp [e] at hle1; simp [hle1] at hlt)
        obtain ⟨x, hx⟩ : ∃ x, xs[j]? = some x := ⟨xs[j], List.getElem?_eq_getElem hlt⟩
        obtain ⟨y, hy⟩ : ∃ y, ys[j]? = some y := ⟨ys[j]'(by omega), List.getElem?_eq_getElem _⟩
        have g1 := hE.cell (hcell j x hx)
        have g2 := hE.cell (hcell' j y hy)
        have q1 : (j : Int) < (xs.length : Int) := by omega
        have q2 : (j : Int) < (ys.length : Int) := by omega
        have HX := Lib.hid hx; have HY := Lib.hid hy
        clear hcell hcell' hx hy
        by_cases hxy : x = y
        · have hb : (x != y) = false := by simp [hxy]
          have HT' : Hid (xs.take (j + 1) = ys.take (j + 1)) := by
            unfold Hid; rw [List.take_add_one, List.take_add_one, HX.out, HY.out, HT.out, hxy]
          clear hxy
          go_wp2
          go_quiet (fail)
          go_wp2
          go_roundw
          case rel => exact ⟨j + 1, by omega, by go_num, Ext.draws hE _, HT'⟩
          case measure => simp [intOf]; omega
        · have hb : (x != y) = true := by simp [hxy]
          have HF : Hid ((xs == ys) = false) := by
            unfold Hid
            rw [beq_eq_false_iff_ne]
            intro e
            have e1 := HX.out; have e2 := HY.out
            rw [e, e2] at e1
            exact hxy (by simpa using e1.symm)
          clear hxy
          go_wp2
          go_quiet (fail)
          go_wp2
          go_ret
          rw [HF.out]
          exact ⟨rfl, Ext.draws hE _⟩
      · have hge : xs.length ≤ j := by omega
        have HTr : Hid ((xs == ys) = true) := by
          unfold Hid
          have e := HT.out
          rw [List.take_of_length_le (by omega), List.take_of_length_le (by omega)] at e
          simp [e]
        go_wp2
        go_ret
        rw [HTr.out]
        exact ⟨rfl, hE⟩
  · have hn : ((xs.length : Int) != (ys.length : Int)) = true := by simp; omega
    have HF : Hid ((xs == ys) = false) := by
      unfold Hid
      rw [beq_eq_false_iff_ne]
      intro e
      exact hl (by rw [e])
    clear hl
    go_enter Tryz.func54, Tryz.ntmps54
    go_wp2
    go_ret
    rw [HF.out]
    exact ⟨rfl, Ext.refl _⟩


def idxRow (p : Int → Bool) (xs : List Int) : Int := match xs.findIdx? p with | some i => (i : Int) | none => -1
/-- What is asked of a predicate handed over: in every later world it answers p, and adds to memory at most. -/
def PredRow (g : Nat) (lb : Array Value) (p : Int → Bool) (w : World) (xs : List Int) : Prop :=
  ∀ W x, x ∈ xs → Ext w W → Calls Tryz.prog g (#[.int .i64 x] ++ lb) W fun e W' => e = .returned (.bool (p x)) ∧ Ext W W'

set_option maxHeartbeats 400000 in
/-- slices.IndexFunc: the place of the first element at which p holds, or -1. -/
theorem indexFuncRow_any (xs : List Int) (v : Value) (g : Nat) (lb : Array Value) (p : Int → Bool) (w : World) (h : Ints w v xs) (eg : ∀ args w, (callFunc g args).run Tryz.prog w = .ok (.enter g args) w) (hp : PredRow g lb p w xs) :
    Calls Tryz.prog 104 #[v, .func (.func g) #[] lb] w fun e w' => e = .returned (.int .i64 (idxRow p xs)) ∧ Ext w w' := by
  obtain ⟨a, c, rfl, h1, h2, -, hxb, hc⟩ := h.open
  have HC := Lib.hid hc; have HPR := Lib.hid hp
  clear hc h hxb hp
  unfold maxLen at h2
  go_enter Tryz.func104, Tryz.ntmps104
  go_wp2
  go_loopw [8] (fun t wr => ∃ pre rest, t = .int .i64 (pre.length : Nat) ∧ Ext w wr ∧ Hid (xs = pre ++ rest) ∧ Hid (∀ x ∈ pre, p x = false)) (fun t _ => xs.length - (intOf t).toNat)
  case atStart => exact ⟨[], xs, rfl, Ext.refl _, rfl, by intro x hx; simp at hx⟩
  case round =>
    obtain ⟨pre, rest, rfl, hE, HP, HA⟩ := hrel
    have hlen : xs.length = pre.length + rest.length := by rw [HP.out]; simp
    cases rest with
    | nil =>
      have : ¬ (pre.length < xs.length) := by simp at hlen; omega
      clear hlen
      go_wp2
      go_ret
      have : idxRow p xs = -1 := by
        have : xs.findIdx? p = none := by rw [HP.out, List.append_nil, List.findIdx?_eq_none_iff]; exact HA.out
        unfold idxRow; rw [this]
      rw [this]
      exact ⟨rfl, hE⟩
    | cons x rest =>
      have hlt : pre.length < xs.length := by simp at hlen; omega
      clear hlen
      obtain ⟨b, off, rfl, hb, hcell⟩ := HC.out (by rw [HP.out]; simp)
      have g1 := hE.cell (hcell pre.length x (by rw [HP.out]; simp))
      clear hcell
      have hcall := fun W he => HPR.out W x (by rw [HP.out]; simp) he
      cases hq : p x with
      | true =>
        have HR : Hid (idxRow p xs = pre.length) := by
          unfold Hid idxRow
          rw [HP.out, List.findIdx?_append, (List.findIdx?_eq_none_iff (xs := pre)).2 HA.out, List.findIdx?_cons, hq]
          simp
        rw [hq] at hcall
        have HCALL := Lib.hid hcall
        clear hcall hq
        go_wp2_with (go_at_fn g; refine (HCALL.out _ hE).mono ?_; rintro e w' ⟨rfl, hE'⟩)
        go_ret
        rw [HR.out]
        exact ⟨rfl, hE.trans (by assumption)⟩
      | false =>
        have HA' : Hid (∀ y ∈ pre ++ [x], p y = false) := by
          intro y hy
          rcases List.mem_append.1 hy with hy | hy
          · exact HA.out y hy
          · rw [List.mem_singleton.1 hy]; exact hq
        rw [hq] at hcall
        have HCALL := Lib.hid hcall
        clear hcall hq
        go_wp2_with (go_at_fn g; refine (HCALL.out _ hE).mono ?_; rintro e w' ⟨rfl, hE'⟩)
        go_roundw
        case rel => exact ⟨pre ++ [x], rest, by simp, hE.trans (by assumption), by unfold Hid; rw [HP.out]; simp, HA'⟩
        case measure => simp [intOf]; omega


theorem containsRow_any (xs : List Int) (v : Value) (g : Nat) (lb : Array Value) (p : Int → Bool) (w : World) (h : Ints w v xs) (eg : ∀ args w, (callFunc g args).run Tryz.prog w = .ok (.enter g args) w) (hp : PredRow g lb p w xs) :
    Calls Tryz.prog 62 #[v, .func (.func g) #[] lb] w fun e w' => e = .returned (.bool (xs.any p)) ∧ Ext w w' := by
  have hcall := indexFuncRow_any xs v g lb p w h eg hp
  cases hf : xs.findIdx? p with
  | none =>
    have HR : Hid (xs.any p = false) := by
      unfold Hid
      rw [List.findIdx?_eq_none_iff] at hf
      simpa using hf
    unfold idxRow at hcall
    rw [hf] at hcall
    have HCALL := Lib.hid hcall
    clear hcall hf hp h
    go_enter Tryz.func62, Tryz.ntmps62
    go_wp2_with (go_at_call 104; refine HCALL.out.mono ?_; rintro e w' ⟨rfl, hE'⟩)
    go_ret
    rw [HR.out]
    exact ⟨rfl, by assumption⟩
  | some i =>
    have HR : Hid (xs.any p = true) := by
      unfold Hid
      rw [List.any_eq_true]
      obtain ⟨hi, hpi, _⟩ := List.findIdx?_eq_some_iff_getElem.1 hf
      exact ⟨_, List.getElem_mem hi, hpi⟩
    have hi0 : (0 : Int) ≤ (i : Int) := by omega
    unfold idxRow at hcall
    rw [hf] at hcall
    have HCALL := Lib.hid hcall
    clear hcall hf hp h
    go_enter Tryz.func62, Tryz.ntmps62
    go_wp2_with (go_at_call 104; refine HCALL.out.mono ?_; rintro e w' ⟨rfl, hE'⟩)
    go_ret
    rw [HR.out]
    exact ⟨rfl, by assumption⟩

end Go.Proofs.YtjihfabhgcfjnaaGreatDoor
/- Contract of drift.roots. -/
namespace Go.Proofs.YtjihfabhgcfjnaaGreatDoor
set_option linter.unusedVariables false
set_option linter.unusedSimpArgs false
open Go.RowKit

/-- A walk whose sizes are right. -/
structure RightWk (k : Wk) : Prop where
  tame : tame k
  linked : linked k
  len : k.links.length + 1 = k.chords.length
  most : k.chords.length ≤ 64
  primes : k.primes.length ≤ 6
  some : ∀ l ∈ k.links, l ≠ []
  prime : 0 < k.primes.length
  few : ∀ l ∈ k.links, l.length ≤ 12

def rootAt (k : Wk) : Nat → List Int
  | 0 => List.replicate k.primes.length 0
  | i + 1 => accRow false (rootAt k i) (leadRow k i 0)
def rootsOf (k : Wk) (n : Nat) : List (List Int) := (List.range (n + 1)).map (rootAt k)

theorem leadRow_ok (k : Wk) (h : RightWk k) (step link : Nat) (l : List (Int × Int)) (hl : k.links[step]? = some l) (hlink : link < l.length) :
    (leadRow k step link).length = k.primes.length ∧ ∀ a ∈ leadRow k step link, -2000000 ≤ a ∧ a ≤ 2000000 := by
  obtain ⟨c, d, hc, hd, hall⟩ := h.linked step l hl
  obtain ⟨lk, hlk⟩ : ∃ x, l[link]? = some x := ⟨l[link], List.getElem?_eq_getElem hlink⟩
  obtain ⟨hf0, hf1, ht0, ht1⟩ := hall lk (List.mem_of_getElem? hlk)
  obtain ⟨f, t⟩ := lk
  obtain ⟨f, rfl⟩ := Int.eq_ofNat_of_zero_le hf0
  obtain ⟨t, rfl⟩ := Int.eq_ofNat_of_zero_le ht0
  simp only [Int.ofNat_lt] at hf1 ht1
  obtain ⟨x, hx⟩ : ∃ x, c[f]? = some x := ⟨c[f], List.getElem?_eq_getElem hf1⟩
  obtain ⟨y, hy⟩ : ∃ y, d[t]? = some y := ⟨d[t], List.getElem?_eq_getElem ht1⟩
  have htx := h.tame c (List.mem_of_getElem? hc) x (List.mem_of_getElem? hx)
  have hty := h.tame d (List.mem_of_getElem? hd) y (List.mem_of_getElem? hy)
  have e : leadRow k step link = sumRows x y := by
    unfold leadRow
    simp [List.getD, hl, hlk, hc, hd, hx, hy]
  rw [e]
  refine ⟨by simp [sumRows, htx.1, hty.1], fun a ha => ?_⟩
  have := sumRows_bd2 x y 1000000 1000000 htx.2 hty.2 a ha
  omega

theorem rootAt_ok (k : Wk) (h : RightWk k) : ∀ i, i < k.chords.length → (rootAt k i).length = k.primes.length ∧ ∀ a ∈ rootAt k i, -(2000000 * (i : Int)) ≤ a ∧ a ≤ 2000000 * (i : Int) := by
  intro i
  induction i with
  | zero =>
    intro _
    refine ⟨by simp [rootAt], fun a ha => ?_⟩
    have := (List.mem_replicate.1 ha).2
    omega
  | succ i ih =>
    intro hi
    obtain ⟨h1, h2⟩ := ih (by omega)
    have hl := h.len
    obtain ⟨l, hll⟩ : ∃ l, k.links[i]? = some l := ⟨k.links[i]'(by omega), List.getElem?_eq_getElem _⟩
    have hne := h.some l (List.mem_of_getElem? hll)
    obtain ⟨h3, h4⟩ := leadRow_ok k h i 0 l hll (by cases l with | nil => exact absurd rfl hne | cons => simp)
    refine ⟨by simp [rootAt, accRow, h1, h3], fun a ha => ?_⟩
    obtain ⟨j, hj, rfl⟩ := List.getElem_of_mem ha
    simp only [rootAt, accRow, List.length_zipWith] at hj
    simp only [rootAt, accRow, List.getElem_zipWith, Bool.false_eq_true, if_false]
    have e1 := h2 ((rootAt k i)[j]'(by omega)) (List.getElem_mem _)
    have e2 := h4 ((leadRow k i 0)[j]'(by omega)) (List.getElem_mem _)
    omega

theorem rootsOf_succ (k : Wk) (n : Nat) : rootsOf k (n + 1) = rootsOf k n ++ [rootAt k (n + 1)] := by
  simp [rootsOf, List.range_succ (n := n + 1)]

set_option maxRecDepth 100000 in
set_option maxHeartbeats 4000000 in
theorem roots_any (k : Wk) (v : Value) (w : World) (h : WalkAt w v k) (hk : RightWk k) :
    Calls Tryz.prog 79 #[v] w fun e w' => ∃ r, e = .returned r ∧ Ext w w' ∧ Rows2 w' r (rootsOf k k.links.length) := by
  have HWALK := Lib.hid h
  obtain ⟨vp, vc, vl, rfl, h1, h2, h3⟩ := h
  obtain ⟨W, hW, hE, hsz, b0, b1, b2⟩ := box_walk w vp vc vl 55
  obtain ⟨ap, cp, rfl, hlp, hmp, -, -, -⟩ := h1.open
  obtain ⟨al, cl, rfl, hll, hml, -, -⟩ := inCell.open h3
  unfold maxLen at hmp hml
  obtain ⟨i0, hi, hz0, hz1, hz2⟩ := info_parts infoInt
  have HI := Lib.hid hi; have HZ0 := Lib.hid hz0; have HZ1 := Lib.hid hz1; have HZ2 := Lib.hid hz2
  have HRK := Lib.hid hk
  have hpl := hk.primes
  have hlen1 : k.links.length ≤ 63 := by have := hk.len; have := hk.most; omega
  have hp0 := hk.prime
  clear hi hz0 hz1 hz2 h1 h2 h3 hk
  go_enter Tryz.func79, Tryz.ntmps79
  go_wp2_with (at_make; refine wpList_make_full _ rfl _ _ 37 rfl W.heap.size 3 i0 (.int .i64 0) 1 Tryz.underlying37 HI.out HZ0.out HZ1.out _ _ _ _ k.primes.length rfl rfl rfl rfl ?c1 ?c2 ?c3 ?_)
  case c1 => rw [HZ2.out]; omega
  case c2 => unfold maxLen; omega
  case c3 => exact Nat.le_refl _
  intro w1 hown hgrow
  rw [made_ints] at hown
  clear hW
  have hE1 : Ext W w1 := (Below.refl _ _).grown hgrow (Nat.le_refl _) (by intro k hk; cases hk)
  have hz : Ints w1 (.slice (some ⟨W.heap.size, 0, none⟩) k.primes.length k.primes.length) (rootAt k 0) := by
    have := Ints.of_owns (xs := List.replicate k.primes.length 0) (by simpa using hown) (by intro x hx; have := (List.mem_replicate.1 hx).2; omega)
    simpa [rootAt] using this
  have HZR := Lib.hid hz
  have HG := Lib.hid hgrow
  clear hown hgrow hz
  have hsz1 : w.heap.size < w1.heap.size := Nat.lt_of_lt_of_le hsz hE1.size
  have d0 := hE1.cell b0; have d1 := hE1.cell b1; have d2 := hE1.cell b2
  go_wp2
  have hb0 : Build (w1.alloc (.cells #[.slice (some ⟨W.heap.size, 0, none⟩) k.primes.length k.primes.length] 37)) W.heap.size 37 1 (.slice (some ⟨w1.heap.size, 0, none⟩) 1 1) rowR (rootsOf k 0) :=
    Build.lit (e := 37) (R := rowR) w1 [[.slice (some ⟨W.heap.size, 0, none⟩) k.primes.length k.primes.length]] [rootAt k 0] hE1.size rfl (by simp) (by simp [maxLen]) (by
      intro j u x hu hx w' he
      match j with
      | 0 => simp at hu hx; subst hu; subst hx; exact ⟨_, rfl, Ints.ext HZR.out he⟩
      | j + 1 => simp at hu)
  have HB0 := Lib.hid hb0
  clear hb0
  go_loopw [3, 16] (fun out t wr => ∃ i : Nat, i ≤ k.links.length ∧ t = .int .i64 i ∧ Below W.heap.size W wr ∧ Hid (Build wr W.heap.size 37 1 out rowR (rootsOf k i))) (fun _ t _ => k.links.length - (intOf t).toNat)
  case atStart => exact ⟨0, Nat.zero_le _, rfl, Below.alloc hE1 hE1.size _, HB0.out⟩
  case round =>
    obtain ⟨i, hi, rfl, hEr, HB⟩ := hrel
    obtain ⟨wo, rfl⟩ : ∃ wo : World, wo = wr := ⟨_, rfl⟩
    clear HB0 d0 d1 d2
    have d2 := Ext.cell hEr b2
    by_cases hlt : i < k.links.length
    · obtain ⟨aout, capo, hout, hol, hom, -, hoc⟩ := inCell.open HB.out.list
      have hrl : (rootsOf k i).length = i + 1 := by simp [rootsOf]
      obtain ⟨bo, oo, hao, hbo, hoc⟩ := hoc (by intro e; rw [e] at hrl; simp at hrl)
      obtain ⟨vr, hvr, hcr⟩ := hoc i (rootAt k i) (by simp [rootsOf])
      have hown := HB.out.lt
      subst hout
      subst hao
      rw [hrl] at hol HB
      unfold maxLen at hom
      rw [hrl]
      have hcl := cloneRow_any (rootAt k i) vr wo hvr (by have := (rootAt_ok k HRK.out i (by have := HRK.out.len; omega)).1; omega)
      have HCL := Lib.hid hcl
      clear hcl hoc hrl hvr
      have hn := (rootAt_ok k HRK.out i (by have := HRK.out.len; omega)).1
      obtain ⟨l, hll⟩ : ∃ l, k.links[i]? = some l := ⟨k.links[i], List.getElem?_eq_getElem hlt⟩
      have hl0 : 0 < l.length := by have := HRK.out.some l (List.mem_of_getElem? hll); cases l with | nil => exact absurd rfl this | cons => simp
      obtain ⟨hn2, hlb⟩ := leadRow_ok k HRK.out i 0 l hll hl0
      have hrb := (rootAt_ok k HRK.out i (by have := HRK.out.len; omega)).2
      have HN := Lib.hid hn; have HN2 := Lib.hid hn2; have HLB := Lib.hid hlb; have HRB := Lib.hid hrb
      have HL := Lib.hid hll
      clear hn hn2 hlb hrb hll
      go_wp2_with fail
      refine HCL.out.mono ?_
      rintro e w2 ⟨r, rfl, hE2, hown2⟩
      clear HCL
      rw [HN.out] at hown2
      obtain ⟨g, capr, rfl, hg1, hg2, hg3, hg4⟩ := owns_shape hown2 hp0
      unfold maxLen at hg4
      have HO2 := Lib.hid hown2
      clear hown2
      have e0 := hE2.cell (Ext.cell hEr b0); have e1 := hE2.cell (Ext.cell hEr b1); have e2 := hE2.cell d2
      go_wp2_with fail
      have hlead : Calls Tryz.prog 111 #[.agg #[.slice ap k.primes.length cp, vc, .slice al k.links.length cl], .int .i64 i, .int .i64 0] w2 _ :=
        lead5_any k _ w2 i 0 (WalkAt.ext HWALK.out ((Ext.trans hE hEr).trans hE2)) HRK.out.tame HRK.out.linked HRK.out.primes l HL.out hl0
      refine hlead.mono ?_
      rintro e w3 ⟨vq, rfl, hE3, hq⟩
      clear hlead
      have hg5 : g < w2.heap.size := hg2
      obtain ⟨gq, capq, rfl, hq1, hq2, hq3, hq4⟩ := owns_shape hq hp0
      have hne : ¬ gq = g := by omega
      have HO3 := Lib.hid (owns_ext HO2.out hE3)
      have HQ3 := Lib.hid hq
      unfold maxLen at hq4
      have hE13 : Ext wo w3 := hE2.trans hE3
      have hsz3 : wo.heap.size ≤ w3.heap.size := hE13.size
      clear hq HO2 e0 e1 e2
      go_wp2_with fail
      go_loopw [28] (fun t wq => ∃ j : Nat, j ≤ k.primes.length ∧ t = .int .i64 j ∧ Ext wo wq ∧ wo.heap.size ≤ wq.heap.size ∧ Hid (wq.ownsRow wo.heap.size 3 1 (.slice (some ⟨g, 0, none⟩) k.primes.length capr) k.primes.length ((accTo false (rootAt k i) (leadRow k i 0) j).map (Value.int .i64))) ∧ Hid (wq.ownsRow w2.heap.size 3 1 (.slice (some ⟨gq, 0, none⟩) k.primes.length capq) k.primes.length ((leadRow k i 0).map (Value.int .i64)))) (fun t _ => k.primes.length - (intOf t).toNat)
      case atStart => exact ⟨0, Nat.zero_le _, rfl, hE13, hsz3, by rw [accTo_zero]; exact HO3.out, HQ3.out⟩
      case round =>
        obtain ⟨j, hj, rfl, hEw, hszw, HO, HQ⟩ := hrel
        clear HO3 HQ3
        by_cases hjl : j < k.primes.length
        · obtain ⟨aj, haj⟩ : ∃ aj, (rootAt k i)[j]? = some aj := ⟨(rootAt k i)[j]'(by have := HN.out; omega), List.getElem?_eq_getElem _⟩
          obtain ⟨xj, hxj⟩ : ∃ xj, (leadRow k i 0)[j]? = some xj := ⟨(leadRow k i 0)[j]'(by have := HN2.out; omega), List.getElem?_eq_getElem _⟩
          have hll : (leadRow k i 0).length = (rootAt k i).length := HN2.out.trans HN.out.symm
          obtain ⟨hac, haf⟩ := owns_cell HO.out (accTo_get false _ _ j aj hll haj)
          obtain ⟨hxc, -⟩ := owns_cell HQ.out hxj
          obtain ⟨ha1, ha2⟩ := HRB.out aj (List.mem_of_getElem? haj)
          obtain ⟨hx1, hx2⟩ := HLB.out xj (List.mem_of_getElem? hxj)
          have HSET := owns_set HO.out j (aj + xj)
          rw [show (accTo false (rootAt k i) (leadRow k i 0) j).set j (aj + xj) = accTo false (rootAt k i) (leadRow k i 0) (j + 1) from accTo_succ false _ _ j aj xj hll haj hxj] at HSET
          have HOK := Lib.hid HSET
          have HQK := Lib.hid (ownsRow_setCell_other HQ.out (a := ⟨g, j, none⟩) (by simp [Value.ownBlock]; omega) (.int .i64 (aj + xj)))
          clear HSET haj hxj hll HO HQ
          go_wp2
          go_roundw
          case rel => exact ⟨j + 1, by omega, by go_num, hEw.setCell hg1 _, by simpa [World.setCell] using hszw, HOK.out, HQK.out⟩
          case measure => simp [intOf]; omega
        · obtain rfl : j = k.primes.length := by omega
          have hll : (leadRow k i 0).length = (rootAt k i).length := HN2.out.trans HN.out.symm
          have HE : Hid (accTo false (rootAt k i) (leadRow k i 0) k.primes.length = rootAt k (i + 1)) := by
            unfold Hid; rw [← HN.out, accTo_all _ _ _ hll]; rfl
          rw [HE.out] at HO
          have hbd := (rootAt_ok k HRK.out (i + 1) (by have := HRK.out.len; omega))
          have hr : Safe wr (Value.ownBlock (.slice (some ⟨bo, oo, none⟩) (i + 1) capo)) fun w => rowR w [.slice (some ⟨g, 0, none⟩) k.primes.length capr] (rootAt k (i + 1)) := by
            refine (Safe.owns HO.out (.inr ?_)).mono ?_
            · simp [Value.ownBlock]; omega
            · intro w h
              refine ⟨_, rfl, ?_⟩
              refine Ints.of_owns (base := wo.heap.size) (e := 3) (by rw [hbd.1]; exact h) (by intro x hx; have := hbd.2 x hx; omega)
          have HR := Lib.hid hr
          have HBX := Lib.hid (Build.ext HB.out hEw)
          clear hr hbd hll HO HQ
          have hszW : W.heap.size ≤ wr.heap.size := Nat.le_trans (Below.size hEr) hszw
          go_wp2_with (at_builtin; go_must (refine wpList_append_build _ rfl _ _ 28 rfl W.heap.size 37 (.slice none 0 0) 1 24 Tryz.underlying28 infoRow rfl (by decide) (.slice (some ⟨bo, oo, none⟩) (i + 1) capo) rowR (rootsOf k i) (rootAt k (i + 1)) #[.slice (some ⟨g, 0, none⟩) k.primes.length capr] 37 rfl HBX.out rfl rfl ?e1 HR.out ?e2 ?e3 hszW ?_))
          case e1 => simp [Value.oneCell']
          case e2 => simp [rootsOf]; omega
          case e3 => omega
          intro v' w5 hB5 hg5 hb5 hs5 _
          rw [← rootsOf_succ] at hB5
          have HB5 := Lib.hid hB5
          have HE5 := Lib.hid (Below.trans (Ext.trans hEr hEw) hb5)
          clear hB5 hg5 hb5
          go_wp2
          go_roundw
          case rel => exact ⟨i + 1, by omega, by go_num, HE5.out, HB5.out⟩
          case measure => simp [intOf]; omega
    · obtain rfl : i = k.links.length := by omega
      go_wp2
      go_ret
      exact ⟨_, rfl, Ext.trans hE hEr, HB.out.list⟩
end Go.Proofs.YtjihfabhgcfjnaaGreatDoor
