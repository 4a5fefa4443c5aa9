/- Merged: GrowG, SlRow, RowA1. -/
import Derived.Test.YtehknemdfbkimaaGreatDoorQAI
import Derived.Test.YtehknemdfbkimaaGreatDoorQAA
import Derived.Lib.SliceRun
import Derived.WalkSpells
import Derived.Laws.AppendOwnNone
/- The Hermite form of a lattice is one alone. No program is named here. -/
namespace Go.Proofs.YtehknemdfbkimaaGreatDoor
set_option linter.unusedVariables false
set_option linter.unusedSimpArgs false
open Go.RowKit

theorem lessL_self : ∀ (r : List Int), lessL 1 r r = List.replicate r.length 0
  | [] => rfl
  | a :: r => by
    have e : lessL 1 (a :: r) (a :: r) = (a - 1 * a) :: lessL 1 r r := rfl
    rw [e, lessL_self r, List.length_cons, List.replicate_succ]
    congr 1; omega
theorem lessL_swap (k t u : Int) : ∀ (r s x : List Int), r.length = x.length → s.length = x.length → lessL (t - k * u) (lessL k r s) x = lessL k (lessL t r x) (lessL u s x)
  | [], [], [], _, _ => rfl
  | [], _ :: _, [], _, h2 => by simp at h2
  | _ :: _, _, [], h1, _ => by simp at h1
  | [], _, _ :: _, h1, _ => by simp at h1
  | _ :: _, [], _ :: _, _, h2 => by simp at h2
  | a :: r, b :: s, c :: x, h1, h2 => by
    have e : lessL (t - k * u) (lessL k (a :: r) (b :: s)) (c :: x) = (a - k * b - (t - k * u) * c) :: lessL (t - k * u) (lessL k r s) x := rfl
    have e2 : lessL k (lessL t (a :: r) (c :: x)) (lessL u (b :: s) (c :: x)) = (a - t * c - k * (b - u * c)) :: lessL k (lessL t r x) (lessL u s x) := rfl
    rw [e, e2, lessL_swap k t u r s x (by simpa using h1) (by simpa using h2), Int.sub_mul, Int.mul_sub, Int.mul_assoc]
    congr 1; omega
/-- The first row is taken away. -/
theorem Sp.peel {n d : Nat} {R : List (List Int)} (hW : Wid n R) (hd : d < R.length) {v : List Int} (h : Sp n (RowsFrom d R) v) : ∃ t, Sp n (RowsFrom (d + 1) R) (lessL t v (rowE_ R d)) := by
  induction h with
  | zero => exact ⟨0, by rw [lessL_zero]; exact .zero⟩
  | mem h =>
    obtain ⟨i, h1, h2, rfl⟩ := h
    by_cases hi : i = d
    · exact ⟨1, by rw [hi, lessL_self, hW d hd]; exact .zero⟩
    · exact ⟨0, by rw [lessL_zero]; exact .mem (rowsFrom_mem (by omega) h2)⟩
  | less k h h' ih ih' =>
    obtain ⟨t, ht⟩ := ih
    obtain ⟨u, hu⟩ := ih'
    refine ⟨t - k * u, ?_⟩
    rw [lessL_swap k t u _ _ _ (by rw [h.len (rowsFrom_len hW), hW d hd]) (by rw [h'.len (rowsFrom_len hW), hW d hd])]
    exact .less k ht hu
/-- The elements of a row of the lattice at the first pivot are multiples of it. -/
theorem Sp.first {n d : Nat} {R : List (List Int)} {ps : Nat → Nat} (hR : HForm n R ps) (hd : d < R.length) {v : List Int} (h : Sp n (RowsFrom d R) v) : ∃ t, v.getD (ps d) 0 = t * getE R d (ps d) ∧ Sp n (RowsFrom (d + 1) R) (lessL t v (rowE_ R d)) := by
  obtain ⟨t, ht⟩ := h.peel hR.1 hd
  refine ⟨t, ?_, ht⟩
  have h0 : (lessL t v (rowE_ R d)).getD (ps d) 0 = 0 := ht.zeroCol (rowsFrom_len hR.1) (by
    rintro r ⟨i, h1, h2, rfl⟩
    exact hR.2.zero i h2 (ps d) (hR.2.mono d i (by omega) h2))
  rw [lessL_getD t (by rw [h.len (rowsFrom_len hR.1), hR.1 d hd])] at h0
  unfold getE
  omega
theorem Sp.none {n d : Nat} {R : List (List Int)} (hW : Wid n R) (hd : R.length ≤ d) {v : List Int} (h : Sp n (RowsFrom d R) v) : v = List.replicate n 0 :=
  row_zero (h.len (rowsFrom_len hW)) fun c _ => h.zeroCol (rowsFrom_len hW) (by rintro r ⟨i, h1, h2, rfl⟩; omega)
theorem small_mul {t p : Int} (hp : 0 < p) (h1 : -p < t * p) (h2 : t * p < p) : t = 0 := by
  rcases Int.lt_trichotomy t 0 with h | h | h
  · have : t * p ≤ (-1) * p := Int.mul_le_mul_of_nonneg_right (by omega) (by omega)
    omega
  · exact h
  · have : 1 * p ≤ t * p := Int.mul_le_mul_of_nonneg_right (by omega) (by omega)
    omega
/-- A row of the lattice that is small at all pivots is 0. -/
theorem Sp.small {n : Nat} {R : List (List Int)} {ps : Nat → Nat} (hR : HForm n R ps) {v : List Int} : ∀ (k d : Nat), R.length - d = k → Sp n (RowsFrom d R) v → (∀ i, d ≤ i → i < R.length → -getE R i (ps i) < v.getD (ps i) 0 ∧ v.getD (ps i) 0 < getE R i (ps i)) → v = List.replicate n 0
  | 0, d, hk, h, hs => h.none hR.1 (by omega)
  | k + 1, d, hk, h, hs => by
    obtain ⟨t, e, ht⟩ := h.first hR (by omega)
    have hsd := hs d (Nat.le_refl _) (by omega)
    rw [e] at hsd
    have h0 : t = 0 := small_mul (hR.2.pos d (by omega)) hsd.1 hsd.2
    rw [h0, lessL_zero] at ht
    exact Sp.small hR k (d + 1) (by omega) ht fun i h1 h2 => hs i (by omega) h2
/-- The first element of a row of the lattice that is not 0 stands at a pivot, and is a multiple of it. -/
theorem Sp.lead {n c : Nat} {R : List (List Int)} {ps : Nat → Nat} (hR : HForm n R ps) {v : List Int} (hc : v.getD c 0 ≠ 0) (hz : ∀ c', c' < c → v.getD c' 0 = 0) : ∀ (k d : Nat), R.length - d = k → Sp n (RowsFrom d R) v → ∃ i t, d ≤ i ∧ i < R.length ∧ ps i = c ∧ v.getD c 0 = t * getE R i c
  | 0, d, hk, h => absurd (h.zeroCol (rowsFrom_len hR.1) (by rintro r ⟨i, h1, h2, rfl⟩; omega)) hc
  | k + 1, d, hk, h => by
    obtain ⟨t, e, ht⟩ := h.first hR (by omega)
    rcases Nat.lt_trichotomy (ps d) c with hl | hl | hl
    · rw [hz _ hl] at e
      have hp := hR.2.pos d (by omega)
      have h0 : t = 0 := small_mul hp (by omega) (by omega)
      rw [h0, lessL_zero] at ht
      obtain ⟨i, t', h1, h2, h3⟩ := Sp.lead hR hc hz k (d + 1) (by omega) ht
      exact ⟨i, t', by omega, h2, h3⟩
    · exact ⟨d, t, Nat.le_refl _, by omega, hl, by rw [← hl]; exact e⟩
    · refine absurd (h.zeroCol (rowsFrom_len hR.1) ?_) hc
      rintro r ⟨i, h1, h2, rfl⟩
      refine hR.2.zero i h2 c ?_
      by_cases hi : i = d
      · rw [hi]; exact hl
      · have := hR.2.mono d i (by omega) h2; omega

/-- The pivots of one form are pivots of the other one. -/
theorem hform_piv {n : Nat} {R T : List (List Int)} {ps qs : Nat → Nat} (hR : HForm n R ps) (hT : HForm n T qs) (hs : SpEq n (RowsFrom 0 R) (RowsFrom 0 T)) (j : Nat) (hj : j < T.length) : ∃ i t, i < R.length ∧ ps i = qs j ∧ getE T j (qs j) = t * getE R i (qs j) := by
  have h := hs.2 _ (rowsFrom_mem (Nat.zero_le j) hj)
  have hp := hT.2.pos j hj
  obtain ⟨i, t, -, h2, h3, h4⟩ := Sp.lead (c := qs j) hR (show getE T j (qs j) ≠ 0 by omega) (fun c' hc => hT.2.zero j hj c' hc) _ 0 rfl h
  exact ⟨i, t, h2, h3, h4⟩
theorem SpEq.symm {n : Nat} {S T : List Int → Prop} (h : SpEq n S T) : SpEq n T S := ⟨h.2, h.1⟩
theorem hform_ps {n : Nat} {R T : List (List Int)} {ps qs : Nat → Nat} (hR : HForm n R ps) (hT : HForm n T qs) (hs : SpEq n (RowsFrom 0 R) (RowsFrom 0 T)) : ∀ (k i : Nat), i ≤ k → i < R.length → i < T.length ∧ ps i = qs i := by
  intro k
  induction k with
  | zero =>
    intro i hi hl
    obtain rfl : i = 0 := by omega
    obtain ⟨j, t, h1, h2, -⟩ := hform_piv hT hR hs.symm 0 hl
    obtain ⟨j', t', h1', h2', -⟩ := hform_piv hR hT hs 0 (by omega)
    refine ⟨by omega, ?_⟩
    by_cases hj : j = 0
    · rw [hj] at h2; exact h2.symm
    · have a1 := hT.2.mono 0 j (by omega) h1
      by_cases hj' : j' = 0
      · rw [hj'] at h2'; exact h2'
      · have a2 := hR.2.mono 0 j' (by omega) h1'; omega
  | succ k ih =>
    intro i hi hl
    by_cases hik : i ≤ k
    · exact ih i hik hl
    · obtain ⟨j, t, h1, h2, -⟩ := hform_piv hT hR hs.symm i hl
      have hji : i ≤ j := by
        rcases Nat.lt_or_ge j i with h | h
        · have a1 := ih j (by omega) (by omega)
          have a2 := hR.2.mono j i h hl
          omega
        · exact h
      obtain ⟨j', t', h1', h2', -⟩ := hform_piv hR hT hs i (by omega)
      have hji' : i ≤ j' := by
        rcases Nat.lt_or_ge j' i with h | h
        · have a1 := ih j' (by omega) h1'
          have a2 := hT.2.mono j' i h (by omega)
          omega
        · exact h
      refine ⟨by omega, ?_⟩
      have a1 : qs i ≤ qs j := by
        by_cases he : i = j
        · rw [he]; exact Nat.le_refl _
        · exact Nat.le_of_lt (hT.2.mono i j (by omega) h1)
      have a2 : ps i ≤ ps j' := by
        by_cases he : i = j'
        · rw [he]; exact Nat.le_refl _
        · exact Nat.le_of_lt (hR.2.mono i j' (by omega) h1')
      omega
theorem dvd_pos {a b t u : Int} (ha : 0 < a) (hb : 0 < b) (h : a = t * b) (h' : b = u * a) : a = b := by
  have ht : 1 ≤ t := by
    rcases Int.lt_or_le t 1 with h1 | h1
    · have : t * b ≤ 0 * b := Int.mul_le_mul_of_nonneg_right (by omega) (by omega)
      omega
    · exact h1
  have hu : 1 ≤ u := by
    rcases Int.lt_or_le u 1 with h1 | h1
    · have : u * a ≤ 0 * a := Int.mul_le_mul_of_nonneg_right (by omega) (by omega)
      omega
    · exact h1
  have h1 : 1 * b ≤ t * b := Int.mul_le_mul_of_nonneg_right ht (by omega)
  have h2 : 1 * a ≤ u * a := Int.mul_le_mul_of_nonneg_right hu (by omega)
  omega
theorem lessL_one_zero {r s : List Int} (hl : r.length = s.length) (h : lessL 1 r s = List.replicate r.length 0) : r = s := by
  apply List.ext_getElem hl
  intro i h1 h2
  have e := lessL_getD 1 hl.symm i
  rw [h] at e
  simp only [List.getD_eq_getElem?_getD, List.getElem?_eq_getElem h1, List.getElem?_eq_getElem h2] at e
  rw [List.getElem?_eq_getElem (by simpa using h1)] at e
  simp at e
  omega

/-- Two Hermite forms that generate the same are the same. -/
theorem hform_unique {n : Nat} {R T : List (List Int)} {ps qs : Nat → Nat} (hR : HForm n R ps) (hT : HForm n T qs) (hs : SpEq n (RowsFrom 0 R) (RowsFrom 0 T)) : R = T := by
  have hp := fun i (hi : i < R.length) => hform_ps hR hT hs i i (Nat.le_refl _) hi
  have hq := fun i (hi : i < T.length) => hform_ps hT hR hs.symm i i (Nat.le_refl _) hi
  have hl : R.length = T.length := by
    rcases Nat.lt_trichotomy R.length T.length with h | h | h
    · have := (hq _ h).1; omega
    · exact h
    · have := (hp _ h).1; omega
  -- the pivots
  have hpv : ∀ i, i < R.length → getE R i (ps i) = getE T i (ps i) := by
    intro i hi
    obtain ⟨j, t, h1, h2, h3⟩ := hform_piv hT hR hs.symm i hi
    obtain ⟨j', t', h1', h2', h3'⟩ := hform_piv hR hT hs i (by omega)
    have hji : j = i := by
      rcases Nat.lt_trichotomy j i with h | h | h
      · have := hT.2.mono j i h (by omega); have := (hp i hi).2; omega
      · exact h
      · have := hT.2.mono i j h h1; have := (hp i hi).2; omega
    have hji' : j' = i := by
      rcases Nat.lt_trichotomy j' i with h | h | h
      · have := hR.2.mono j' i h hi; have := (hp i hi).2; omega
      · exact h
      · have := hR.2.mono i j' h h1'; have := (hp i hi).2; omega
    rw [hji] at h3
    rw [hji', ← (hp i hi).2] at h3'
    have hpos := hT.2.pos i (by omega)
    rw [← (hp i hi).2] at hpos
    exact dvd_pos (hR.2.pos i hi) hpos h3 h3'
  apply List.ext_getElem hl
  intro i h1 h2
  have e1 : rowE_ R i = R[i] := rowE_of (List.getElem?_eq_getElem h1)
  have e2 : rowE_ T i = T[i] := rowE_of (List.getElem?_eq_getElem h2)
  rw [← e1, ← e2]
  have hlen : (rowE_ R i).length = (rowE_ T i).length := by rw [hR.1 i h1, hT.1 i h2]
  refine lessL_one_zero hlen ?_
  rw [hR.1 i h1]
  refine Sp.small hR _ 0 rfl (.less 1 (.mem (rowsFrom_mem (Nat.zero_le _) h1)) (hs.2 _ (rowsFrom_mem (Nat.zero_le _) h2))) fun j _ hj => ?_
  rw [lessL_getD 1 hlen.symm]
  show -getE R j (ps j) < getE R i (ps j) - 1 * getE T i (ps j) ∧ getE R i (ps j) - 1 * getE T i (ps j) < getE R j (ps j)
  have hpj := hR.2.pos j hj
  rcases Nat.lt_trichotomy i j with h | h | h
  · have a1 := hR.2.red i j h hj
    have a2 := hT.2.red i j h (by omega)
    rw [← (hp j hj).2, ← hpv j hj] at a2
    omega
  · subst h
    rw [hpv i h1] at hpj ⊢
    omega
  · rw [hR.2.zero i h1 (ps j) (hR.2.mono j i h h1)]
    have hx := hT.2.zero i h2 (qs j) (hT.2.mono j i h h2)
    rw [← (hp j hj).2] at hx
    rw [hx]; omega
end Go.Proofs.YtehknemdfbkimaaGreatDoor
/- Contracts of generic functions of package slices at api.Row. -/
namespace Go.Proofs.YtehknemdfbkimaaGreatDoor
set_option linter.unusedVariables false
set_option linter.unusedSimpArgs false
open Go.RowKit


set_option maxHeartbeats 400000 in
/-- slices.Clone: a row of the call's own. -/
theorem cloneRow_any (xs : List Int) (v : Value) (w : World) (h : Ints w v xs) (hlen : xs.length ≤ 1000000) :
    Calls Tryz.prog 147 #[v] w fun e w' => ∃ r, e = .returned r ∧ Ext w w' ∧ w'.ownsRow w.heap.size 3 1 r xs.length (xs.map (Value.int .i64)) := by
  obtain ⟨a, c, rfl, h1, h2, h3, hb, hc⟩ := h.open
  obtain ⟨i0, hi, hz0, hz1, hz2⟩ := info_parts infoInt
  have HI := Lib.hid hi; have HZ0 := Lib.hid hz0; have HZ1 := Lib.hid hz1; have HZ2 := Lib.hid hz2
  have HB := Lib.hid hb
  have HC := Lib.hid hc
  clear hi hz0 hz1 hz2 hb hc h
  unfold maxLen at h2
  cases a with
  | none =>
    have h0 : xs = [] := by have := h3 rfl; exact List.eq_nil_of_length_eq_zero (by omega)
    subst h0
    obtain rfl : c = 0 := h3 rfl
    clear h3 h1 h2 hlen
    have heq := fun w => Lib.run_eql_slice_nil (P := Tryz.prog) w 39 3 none 0 0 0 0 Tryz.underlying39
    go_enter Tryz.func147, Tryz.ntmps147
    go_wp2
    go_ret
    exact ⟨_, rfl, Ext.refl _, World.ownsRow_nil _ _ _ _⟩
  | some ad =>
    clear h3
    have heq := fun w => Lib.run_eql_slice_nil (P := Tryz.prog) w 39 3 (some ad) xs.length c 0 0 Tryz.underlying39
    have hown : (w.alloc (.cells #[] 3)).ownsRow w.heap.size 3 1 (.slice (some ⟨w.heap.size, 0, none⟩) 0 0) 0 [] := World.ownsRow_made w #[] 0 (Nat.le_refl _) (Nat.zero_le _) rfl
    have hnews : ∀ (j : Nat) (u : Value), (xs.map (Value.int .i64))[j]? = some u → (w.alloc (.cells #[] 3)).cell? (ad.add j) = some u := by
      intro j u hu
      rw [List.getElem?_map] at hu
      cases hj : xs[j]? with
      | none => simp [hj] at hu
      | some x =>
        simp [hj] at hu; subst hu
        obtain ⟨b, off, hab, hbw, hcell⟩ := HC.out (by intro e; simp [e] at hj)
        cases hab
        have := hcell j x hj
        rw [show (⟨b, off, none⟩ : Addr).add j = ⟨b, off + j, none⟩ by unfold Addr.add; split <;> simp_all]
        exact Ext.cell (Ext.alloc w _) this
    have HOWN := Lib.hid hown; have HNEWS := Lib.hid hnews
    clear hown hnews
    go_enter Tryz.func147, Tryz.ntmps147
    go_wp2_with (at_builtin; refine wpList_append_own _ rfl _ _ 39 rfl w.heap.size 3 i0 (.int .i64 0) 1 8 Tryz.underlying39 HI.out HZ0.out HZ1.out HZ2.out rfl (by decide) _ _ _ rfl HOWN.out ad xs.length c (xs.map (Value.int .i64)) rfl ?d1 HNEWS.out ?d2 ?d3 ?d4 ?d5 ?_)
    case d1 => simp
    case d2 => exact ints_oneCell _ _
    case d3 => unfold maxLen; omega
    case d4 => omega
    case d5 => simp
    intro v' w1 hown' hgrow _
    have HO := Lib.hid hown'; have HG := Lib.hid hgrow
    clear hown' hgrow
    go_wp2
    go_ret
    refine ⟨v', rfl, ?_, ?_⟩
    · exact Below.grown (Ext.alloc w _) HG.out (by simp) (by intro k hk; simp [Value.ownBlock] at hk; omega)
    · have := HO.out
      simpa using this


set_option maxHeartbeats 400000 in
/-- slices.Equal. -/
theorem equalRow_any (xs ys : List Int) (u v : Value) (w : World) (h : Ints w u xs) (k : Ints w v ys) :
    Calls Tryz.prog 87 #[u, v] w fun e w' => e = .returned (.bool (xs == ys)) ∧ Ext w w' := by
  obtain ⟨a, c, rfl, h1, h2, -, hxb, hc⟩ := h.open
  obtain ⟨a', c', rfl, k1, k2, -, hyb, kc⟩ := k.open
  have HC := Lib.hid hc; have KC := Lib.hid kc
  clear hc kc h k hxb hyb
  unfold maxLen at h2 k2
  by_cases hl : xs.length = ys.length
  · have hn : ((xs.length : Int) != (ys.length : Int)) = false := by simp [hl]
    have hle1 : xs.length ≤ ys.length := by omega
    have hle2 : ys.length ≤ xs.length := by omega
    have HL := Lib.hid hl
    clear hl
    go_enter Tryz.func87, Tryz.ntmps87
    go_wp2
    go_loopw [13] (fun t wr => ∃ j : Nat, j ≤ xs.length ∧ t = .int .i64 j ∧ Ext w wr ∧ Hid (xs.take j = ys.take j)) (fun t _ => xs.length - (intOf t).toNat)
    case atStart => exact ⟨0, by omega, rfl, Ext.refl _, rfl⟩
    case round =>
      obtain ⟨j, hj, rfl, hE, HT⟩ := hrel
      by_cases hlt : j < xs.length
      · obtain ⟨b, off, rfl, hb, hcell⟩ := HC.out (by intro e; simp [e] at hlt)
        obtain ⟨b', off', rfl, hb', hcell'⟩ := KC.out (by intro e; simp [e] at hle1; simp [hle1] at hlt)
        obtain ⟨x, hx⟩ : ∃ x, xs[j]? = some x := ⟨xs[j], List.getElem?_eq_getElem hlt⟩
        obtain ⟨y, hy⟩ : ∃ y, ys[j]? = some y := ⟨ys[j]'(by omega), List.getElem?_eq_getElem _⟩
        have g1 := hE.cell (hcell j x hx)
        have g2 := hE.cell (hcell' j y hy)
        have q1 : (j : Int) < (xs.length : Int) := by omega
        have q2 : (j : Int) < (ys.length : Int) := by omega
        have HX := Lib.hid hx; have HY := Lib.hid hy
        clear hcell hcell' hx hy
        by_cases hxy : x = y
        · have hb : (x != y) = false := by simp [hxy]
          have HT' : Hid (xs.take (j + 1) = ys.take (j + 1)) := by
            unfold Hid; rw [List.take_add_one, List.take_add_one, HX.out, HY.out, HT.out, hxy]
          clear hxy
          go_wp2
          go_quiet (fail)
          go_wp2
          go_roundw
          case rel => exact ⟨j + 1, by omega, by go_num, Ext.draws hE _, HT'⟩
          case measure => simp [intOf]; omega
        · have hb : (x != y) = true := by simp [hxy]
          have HF : Hid ((xs == ys) = false) := by
            unfold Hid
            rw [beq_eq_false_iff_ne]
            intro e
            have e1 := HX.out; have e2 := HY.out
            rw [e, e2] at e1
            exact hxy (by simpa using e1.symm)
          clear hxy
          go_wp2
          go_quiet (fail)
          go_wp2
          go_ret
          rw [HF.out]
          exact ⟨rfl, Ext.draws hE _⟩
      · have hge : xs.length ≤ j := by omega
        have HTr : Hid ((xs == ys) = true) := by
          unfold Hid
          have e := HT.out
          rw [List.take_of_length_le (by omega), List.take_of_length_le (by omega)] at e
          simp [e]
        go_wp2
        go_ret
        rw [HTr.out]
        exact ⟨rfl, hE⟩
  · have hn : ((xs.length : Int) != (ys.length : Int)) = true := by simp; omega
    have HF : Hid ((xs == ys) = false) := by
      unfold Hid
      rw [beq_eq_false_iff_ne]
      intro e
      exact hl (by rw [e])
    clear hl
    go_enter Tryz.func87, Tryz.ntmps87
    go_wp2
    go_ret
    rw [HF.out]
    exact ⟨rfl, Ext.refl _⟩


def idxRow (p : Int → Bool) (xs : List Int) : Int := match xs.findIdx? p with | some i => (i : Int) | none => -1
/-- What is asked of a predicate handed over: in every later world it answers p, and adds to memory at most. -/
def PredRow (g : Nat) (lb : Array Value) (p : Int → Bool) (w : World) (xs : List Int) : Prop :=
  ∀ W x, x ∈ xs → Ext w W → Calls Tryz.prog g (#[.int .i64 x] ++ lb) W fun e W' => e = .returned (.bool (p x)) ∧ Ext W W'

set_option maxHeartbeats 400000 in
/-- slices.IndexFunc: the place of the first element at which p holds, or -1. -/
theorem indexFuncRow_any (xs : List Int) (v : Value) (g : Nat) (lb : Array Value) (p : Int → Bool) (w : World) (h : Ints w v xs) (eg : ∀ args w, (callFunc g args).run Tryz.prog w = .ok (.enter g args) w) (hp : PredRow g lb p w xs) :
    Calls Tryz.prog 144 #[v, .func (.func g) #[] lb] w fun e w' => e = .returned (.int .i64 (idxRow p xs)) ∧ Ext w w' := by
  obtain ⟨a, c, rfl, h1, h2, -, hxb, hc⟩ := h.open
  have HC := Lib.hid hc; have HPR := Lib.hid hp
  clear hc h hxb hp
  unfold maxLen at h2
  go_enter Tryz.func144, Tryz.ntmps144
  go_wp2
  go_loopw [8] (fun t wr => ∃ pre rest, t = .int .i64 (pre.length : Nat) ∧ Ext w wr ∧ Hid (xs = pre ++ rest) ∧ Hid (∀ x ∈ pre, p x = false)) (fun t _ => xs.length - (intOf t).toNat)
  case atStart => exact ⟨[], xs, rfl, Ext.refl _, rfl, by intro x hx; simp at hx⟩
  case round =>
    obtain ⟨pre, rest, rfl, hE, HP, HA⟩ := hrel
    have hlen : xs.length = pre.length + rest.length := by rw [HP.out]; simp
    cases rest with
    | nil =>
      have : ¬ (pre.length < xs.length) := by simp at hlen; omega
      clear hlen
      go_wp2
      go_ret
      have : idxRow p xs = -1 := by
        have : xs.findIdx? p = none := by rw [HP.out, List.append_nil, List.findIdx?_eq_none_iff]; exact HA.out
        unfold idxRow; rw [this]
      rw [this]
      exact ⟨rfl, hE⟩
    | cons x rest =>
      have hlt : pre.length < xs.length := by simp at hlen; omega
      clear hlen
      obtain ⟨b, off, rfl, hb, hcell⟩ := HC.out (by rw [HP.out]; simp)
      have g1 := hE.cell (hcell pre.length x (by rw [HP.out]; simp))
      clear hcell
      have hcall := fun W he => HPR.out W x (by rw [HP.out]; simp) he
      cases hq : p x with
      | true =>
        have HR : Hid (idxRow p xs = pre.length) := by
          unfold Hid idxRow
          rw [HP.out, List.findIdx?_append, (List.findIdx?_eq_none_iff (xs := pre)).2 HA.out, List.findIdx?_cons, hq]
          simp
        rw [hq] at hcall
        have HCALL := Lib.hid hcall
        clear hcall hq
        go_wp2_with (go_at_fn g; refine (HCALL.out _ hE).mono ?_; rintro e w' ⟨rfl, hE'⟩)
        go_ret
        rw [HR.out]
        exact ⟨rfl, hE.trans (by assumption)⟩
      | false =>
        have HA' : Hid (∀ y ∈ pre ++ [x], p y = false) := by
          intro y hy
          rcases List.mem_append.1 hy with hy | hy
          · exact HA.out y hy
          · rw [List.mem_singleton.1 hy]; exact hq
        rw [hq] at hcall
        have HCALL := Lib.hid hcall
        clear hcall hq
        go_wp2_with (go_at_fn g; refine (HCALL.out _ hE).mono ?_; rintro e w' ⟨rfl, hE'⟩)
        go_roundw
        case rel => exact ⟨pre ++ [x], rest, by simp, hE.trans (by assumption), by unfold Hid; rw [HP.out]; simp, HA'⟩
        case measure => simp [intOf]; omega


theorem containsRow_any (xs : List Int) (v : Value) (g : Nat) (lb : Array Value) (p : Int → Bool) (w : World) (h : Ints w v xs) (eg : ∀ args w, (callFunc g args).run Tryz.prog w = .ok (.enter g args) w) (hp : PredRow g lb p w xs) :
    Calls Tryz.prog 121 #[v, .func (.func g) #[] lb] w fun e w' => e = .returned (.bool (xs.any p)) ∧ Ext w w' := by
  have hcall := indexFuncRow_any xs v g lb p w h eg hp
  cases hf : xs.findIdx? p with
  | none =>
    have HR : Hid (xs.any p = false) := by
      unfold Hid
      rw [List.findIdx?_eq_none_iff] at hf
      simpa using hf
    unfold idxRow at hcall
    rw [hf] at hcall
    have HCALL := Lib.hid hcall
    clear hcall hf hp h
    go_enter Tryz.func121, Tryz.ntmps121
    go_wp2_with (go_at_call 144; refine HCALL.out.mono ?_; rintro e w' ⟨rfl, hE'⟩)
    go_ret
    rw [HR.out]
    exact ⟨rfl, by assumption⟩
  | some i =>
    have HR : Hid (xs.any p = true) := by
      unfold Hid
      rw [List.any_eq_true]
      obtain ⟨hi, hpi, _⟩ := List.findIdx?_eq_some_iff_getElem.1 hf
      exact ⟨_, List.getElem_mem hi, hpi⟩
    have hi0 : (0 : Int) ≤ (i : Int) := by omega
    unfold idxRow at hcall
    rw [hf] at hcall
    have HCALL := Lib.hid hcall
    clear hcall hf hp h
    go_enter Tryz.func121, Tryz.ntmps121
    go_wp2_with (go_at_call 144; refine HCALL.out.mono ?_; rintro e w' ⟨rfl, hE'⟩)
    go_ret
    rw [HR.out]
    exact ⟨rfl, by assumption⟩

end Go.Proofs.YtehknemdfbkimaaGreatDoor
/- Contracts of package row: Check, IsZero (those alone: for cuts without the others). -/
namespace Go.Proofs.YtehknemdfbkimaaGreatDoor
set_option linter.unusedVariables false
set_option linter.unusedSimpArgs false
open Go.RowKit

def fitB (n : Int) : Bool := decide (-1000000000 ≤ n) && decide (n ≤ 1000000000)
theorem fitB_iff (n : Int) : fitB n = true ↔ -1000000000 ≤ n ∧ n ≤ 1000000000 := by simp [fitB]
theorem fits_any (n : Int) (w : World) : Calls Tryz.prog 159 #[.int .i64 n] w fun e w' => e = .returned (.bool (fitB n)) ∧ w = w' := by
  by_cases h : -1000000000 ≤ n
  · by_cases h2 : n ≤ 1000000000
    · go_enter Tryz.func159, Tryz.ntmps159
      go_wp2
      go_ret
      exact ⟨by simp [fitB, h, h2], rfl⟩
    · go_enter Tryz.func159, Tryz.ntmps159
      go_wp2
      go_ret
      exact ⟨by simp [fitB, h, h2], rfl⟩
  · go_enter Tryz.func159, Tryz.ntmps159
    go_wp2
    go_ret
    exact ⟨by simp [fitB]; omega, rfl⟩
theorem check1_any (n : Int) (w : World) : Calls Tryz.prog 158 #[.int .i64 n] w fun e w' => e = .returned (.bool (!fitB n)) ∧ w = w' := by
  go_enter Tryz.func158, Tryz.ntmps158
  go_wp2_with (go_at_call 159; refine (fits_any _ _).mono ?_; rintro e w' ⟨rfl, rfl⟩)
  go_ret
  exact ⟨rfl, rfl⟩

/-- A row is right. -/
def okRow (r : List Int) : Prop := r.length ≤ 64 ∧ ∀ x ∈ r, -1000000000 ≤ x ∧ x ≤ 1000000000
def rowE (r : List Int) : Int := if 64 < r.length then 4 else if r.any (fun n => !fitB n) then 4 else 0
theorem rowE_zero (r : List Int) : rowE r = 0 ↔ okRow r := by
  unfold rowE okRow
  by_cases h : 64 < r.length
  · simp [h]; omega
  · rw [if_neg h]
    by_cases h2 : r.any (fun n => !fitB n) = true
    · rw [if_pos h2]
      obtain ⟨x, hx, hf⟩ := List.any_eq_true.1 h2
      simp only [Bool.not_eq_true', Bool.eq_false_iff, ne_eq, fitB_iff] at hf
      constructor
      · intro e; simp at e
      · intro ⟨_, h⟩; exact absurd (h x hx) hf
    · rw [if_neg h2]
      simp only [true_iff]
      refine ⟨by omega, fun x hx => ?_⟩
      have := List.any_eq_false.1 (by simpa using h2 : r.any (fun n => !fitB n) = false) x hx
      simpa [fitB_iff] using this
theorem rowE_four (r : List Int) : rowE r = 0 ∨ rowE r = 4 := by
  unfold rowE; split
  · exact .inr rfl
  · split
    · exact .inr rfl
    · exact .inl rfl

theorem rowCheck_any (xs : List Int) (v : Value) (w : World) (h : Ints w v xs) :
    Calls Tryz.prog 108 #[v] w fun e w' => e = .returned (.int .i64 (rowE xs)) ∧ Ext w w' := by
  have HC := Lib.hid (containsRow_any xs v 158 #[] (fun n => !fitB n) w h (enters_of Tryz.func158 (by kernel_rfl) rfl) (fun W x _ _ => (check1_any x W).mono fun _ _ ⟨he, hw⟩ => ⟨he, hw ▸ Ext.refl _⟩))
  obtain ⟨a, c, rfl, -, -, -, -, -⟩ := h.open
  by_cases hl : 64 < xs.length
  · have HQ : Hid (rowE xs = 4) := by unfold Hid rowE; rw [if_pos hl]
    have hl' : (64 : Int) < (xs.length : Int) := by omega
    clear h
    go_enter Tryz.func108, Tryz.ntmps108
    go_wp2_with (go_at_call 121; refine HC.out.mono ?_; rintro e w' ⟨rfl, hE'⟩)
    go_ret
    exact ⟨by rw [HQ.out]; rfl, Ext.refl _⟩
  · have hl' : ¬ (64 : Int) < (xs.length : Int) := by omega
    cases ha : xs.any (fun n => !fitB n) with
    | true =>
      have HQ : Hid (rowE xs = 4) := by unfold Hid rowE; rw [if_neg hl, if_pos ha]
      rw [ha] at HC
      clear h ha
      go_enter Tryz.func108, Tryz.ntmps108
      go_wp2_with (go_at_call 121; refine HC.out.mono ?_; rintro e w' ⟨rfl, hE'⟩)
      go_ret
      exact ⟨by rw [HQ.out]; rfl, by assumption⟩
    | false =>
      have HQ : Hid (rowE xs = 0) := by unfold Hid rowE; rw [if_neg hl, if_neg (by simp [ha])]
      rw [ha] at HC
      clear h ha
      go_enter Tryz.func108, Tryz.ntmps108
      go_wp2_with (go_at_call 121; refine HC.out.mono ?_; rintro e w' ⟨rfl, hE'⟩)
      go_ret
      exact ⟨by rw [HQ.out]; rfl, by assumption⟩

theorem isZero1_any (x : Int) (w : World) : Calls Tryz.prog 122 #[.int .i64 x] w fun e w' => e = .returned (.bool (x != 0)) ∧ w = w' := by
  go_enter Tryz.func122, Tryz.ntmps122
  go_wp2
  go_ret
  exact ⟨rfl, rfl⟩
theorem isZero_any (xs : List Int) (v : Value) (w : World) (h : Ints w v xs) :
    Calls Tryz.prog 64 #[v] w fun e w' => e = .returned (.bool (!xs.any (· != 0))) ∧ Ext w w' := by
  have HC := Lib.hid (containsRow_any xs v 122 #[] (· != 0) w h (enters_of Tryz.func122 (by kernel_rfl) rfl) (fun W x _ _ => (isZero1_any x W).mono fun _ _ ⟨he, hw⟩ => ⟨he, hw ▸ Ext.refl _⟩))
  clear h
  go_enter Tryz.func64, Tryz.ntmps64
  go_wp2_with (go_at_call 121; refine HC.out.mono ?_; rintro e w' ⟨rfl, hE'⟩)
  go_ret
  exact ⟨rfl, by assumption⟩
end Go.Proofs.YtehknemdfbkimaaGreatDoor
