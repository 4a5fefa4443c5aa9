/- Merged: IdxP, ConcatL. -/
import Derived.Test.YtehknemdfbkimaaGreatDoorDAZ
import Derived.Test.YtehknemdfbkimaaGreatDoorDBA
import Derived.Test.YtehknemdfbkimaaGreatDoorDAU
import Derived.Lib.AppendZeros
import Derived.Laws.AppendOwnNone
/- A form within another one of as many rows: the products of the pivots; equal exactly if the quotient is 1. No program is named here. -/
namespace Go.Proofs.YtehknemdfbkimaaGreatDoor
set_option linter.unusedVariables false
set_option linter.unusedSimpArgs false
open Go.RowKit

theorem rf_iff {m : List (List Int)} {r : List Int} : RowsFrom 0 m r ↔ r ∈ m :=
  ⟨fun ⟨i, _, hi, e⟩ => e ▸ rowE_mem hi, fun h => by obtain ⟨i, hi, e⟩ := mem_rowE h; exact ⟨i, Nat.zero_le _, hi, e⟩⟩
theorem RowsFrom.low {d e : Nat} {m : List (List Int)} {r : List Int} (h : RowsFrom d m r) (he : e ≤ d) : RowsFrom e m r := by
  obtain ⟨i, h1, h2, h3⟩ := h; exact ⟨i, by omega, h2, h3⟩
/-- A combination of the rows from d on is nought ahead of the pivot of row d. -/
theorem Sp.ahead {n d : Nat} {S : List (List Int)} {ss : Nat → Nat} (hS : HForm n S ss) (hd : d < S.length) {v : List Int} (h : Sp n (RowsFrom d S) v) {c : Nat} (hc : c < ss d) : v.getD c 0 = 0 :=
  h.zeroCol (rowsFrom_len hS.1) (by
    rintro r ⟨i, h1, h2, rfl⟩
    have h3 : c < ss i := by
      rcases Nat.lt_or_ge d i with h | h
      · have := hS.2.mono d i h h2; omega
      · rw [show i = d by omega]; exact hc
    exact hS.2.zero i h2 c h3)
/-- Rows of a form within what rows of another one generate: no more of them. -/
theorem form_count {n : Nat} {R S : List (List Int)} {ps ss : Nat → Nat} (hR : HForm n R ps) (hS : HForm n S ss) : ∀ (k e i : Nat), S.length - e = k → i ≤ R.length → e ≤ S.length → (∀ j, i ≤ j → j < R.length → Sp n (RowsFrom e S) (rowE_ R j)) → R.length - i ≤ S.length - e
  | 0, e, i, hk, hi, he, h => by
    rcases Nat.lt_or_ge i R.length with hl | hl
    · have h1 := (h i (Nat.le_refl _) hl).zeroCol (c := ps i) (rowsFrom_len hS.1) (by rintro r ⟨a, b, c, -⟩; omega)
      have h2 := hR.2.pos i hl
      unfold getE at h2
      omega
    · omega
  | k + 1, e, i, hk, hi, he, h => by
    rcases Nat.lt_or_ge i R.length with hl | hl
    · have hes : e < S.length := by omega
      have hge : ss e ≤ ps i := by
        rcases Nat.lt_or_ge (ps i) (ss e) with h1 | h1
        · have h2 := (h i (Nat.le_refl _) hl).ahead hS hes h1
          have h3 := hR.2.pos i hl
          unfold getE at h3
          omega
        · exact h1
      have key : ∀ j, j < R.length → (rowE_ R j).getD (ss e) 0 = 0 → Sp n (RowsFrom e S) (rowE_ R j) → Sp n (RowsFrom (e + 1) S) (rowE_ R j) := fun j hj hz hsp => by
        obtain ⟨t, e1, ht⟩ := hsp.first hS hes
        rw [hz] at e1
        have h0 : t = 0 := small_mul (hS.2.pos e hes) (by have := hS.2.pos e hes; omega) (by have := hS.2.pos e hes; omega)
        rw [h0, lessL_zero] at ht
        exact ht
      rcases Nat.lt_or_ge (ss e) (ps i) with hlt | hge2
      · have := form_count hR hS k (e + 1) i (by omega) hi (by omega) fun j hj1 hj2 => key j hj2 (by
          have h3 : ss e < ps j := by
            rcases Nat.lt_or_ge i j with h | h
            · have := hR.2.mono i j h hj2; omega
            · rw [show j = i by omega]; exact hlt
          exact hR.2.zero j hj2 _ h3) (h j hj1 hj2)
        omega
      · have := form_count hR hS k (e + 1) (i + 1) (by omega) (by omega) (by omega) fun j hj1 hj2 => key j hj2 (by
          have h3 : ss e < ps j := by have := hR.2.mono i j (by omega) hj2; omega
          exact hR.2.zero j hj2 _ h3) (h j (by omega) hj2)
        omega
    · omega
/-- The same pivots' columns, and a multiple of each pivot. -/
theorem form_piv {n : Nat} {R S : List (List Int)} {ps ss : Nat → Nat} (hR : HForm n R ps) (hS : HForm n S ss) (hl : R.length = S.length) (hsub : ∀ x ∈ R, Sp n (RowsFrom 0 S) x) : ∀ i, i ≤ R.length → (∀ j, i ≤ j → j < R.length → Sp n (RowsFrom i S) (rowE_ R j)) ∧ ∀ a, a < i → ps a = ss a ∧ ∃ t, 1 ≤ t ∧ getE R a (ps a) = t * getE S a (ss a) ∧ Sp n (RowsFrom (a + 1) S) (lessL t (rowE_ R a) (rowE_ S a))
  | 0, _ => ⟨fun j _ hj => hsub _ (rowE_mem hj), fun a ha => by omega⟩
  | i + 1, hi => by
    obtain ⟨h1, h2⟩ := form_piv hR hS hl hsub i (by omega)
    have hiS : i < S.length := by omega
    have hge : ss i ≤ ps i := by
      rcases Nat.lt_or_ge (ps i) (ss i) with h3 | h3
      · have h4 := (h1 i (Nat.le_refl _) (by omega)).ahead hS hiS h3
        have h5 := hR.2.pos i (by omega)
        unfold getE at h5
        omega
      · exact h3
    have key : ∀ j, j < R.length → (rowE_ R j).getD (ss i) 0 = 0 → Sp n (RowsFrom i S) (rowE_ R j) → Sp n (RowsFrom (i + 1) S) (rowE_ R j) := fun j hj hz hsp => by
      obtain ⟨t, e1, ht⟩ := hsp.first hS hiS
      rw [hz] at e1
      have h0 : t = 0 := small_mul (hS.2.pos i hiS) (by have := hS.2.pos i hiS; omega) (by have := hS.2.pos i hiS; omega)
      rw [h0, lessL_zero] at ht
      exact ht
    have heq : ps i = ss i := by
      rcases Nat.lt_or_ge (ss i) (ps i) with hlt | h3
      · have := form_count hR hS (S.length - (i + 1)) (i + 1) i rfl (by omega) (by omega) fun j hj1 hj2 => key j hj2 (by
          have h4 : ss i < ps j := by
            rcases Nat.lt_or_ge i j with h | h
            · have := hR.2.mono i j h hj2; omega
            · rw [show j = i by omega]; exact hlt
          exact hR.2.zero j hj2 _ h4) (h1 j hj1 hj2)
        omega
      · omega
    refine ⟨fun j hj1 hj2 => key j hj2 (by
      have h4 : ss i < ps j := by have := hR.2.mono i j (by omega) hj2; omega
      exact hR.2.zero j hj2 _ h4) (h1 j (by omega) hj2), fun a ha => ?_⟩
    rcases Nat.lt_or_ge a i with h3 | h3
    · exact h2 a h3
    · obtain rfl : a = i := by omega
      refine ⟨heq, ?_⟩
      obtain ⟨t, e1, ht⟩ := (h1 a (Nat.le_refl _) (by omega)).first hS hiS
      have hp := hR.2.pos a (by omega)
      have hs := hS.2.pos a hiS
      have e2 : getE R a (ps a) = t * getE S a (ss a) := by rw [heq]; exact e1
      refine ⟨t, ?_, e2, ht⟩
      rcases Int.lt_or_le t 1 with h | h
      · have : t * getE S a (ss a) ≤ 0 * getE S a (ss a) := Int.mul_le_mul_of_nonneg_right (by omega) (by omega)
        omega
      · exact h
/-- The products of the pivots: one divides the other, with quotient 1 exactly if the forms are equal. -/
theorem form_index {n : Nat} {R S : List (List Int)} {ps ss : Nat → Nat} (hR : HForm n R ps) (hS : HForm n S ss) (hl : R.length = S.length) (hsub : ∀ x ∈ R, Sp n (RowsFrom 0 S) x) : ∃ q : Int, 1 ≤ q ∧ prodP R ps R.length = q * prodP S ss S.length ∧ (q = 1 ↔ R = S) := by
  have hpv := (form_piv hR hS hl hsub R.length (Nat.le_refl _)).2
  have key : ∀ i, i ≤ R.length → ∃ q : Int, 1 ≤ q ∧ prodP R ps i = q * prodP S ss i ∧ (q = 1 → ∀ a, a < i → Sp n (RowsFrom (a + 1) S) (lessL 1 (rowE_ R a) (rowE_ S a))) := by
    intro i
    induction i with
    | zero => intro _; exact ⟨1, Int.le_refl _, rfl, fun _ a ha => by omega⟩
    | succ i ih =>
      intro hi
      obtain ⟨q, h1, h2, h3⟩ := ih (by omega)
      obtain ⟨-, t, t1, t2, t3⟩ := hpv i (by omega)
      have hqt : 1 * 1 ≤ t * q := Int.mul_le_mul t1 h1 (by decide) (by omega)
      refine ⟨t * q, by omega, ?_, fun h a ha => ?_⟩
      · show getE R i (ps i) * prodP R ps i = t * q * (getE S i (ss i) * prodP S ss i)
        rw [h2, t2]
        simp only [Int.mul_assoc, Int.mul_left_comm, Int.mul_comm]
      · have hq1 : q ≤ t * q := by
          have : 1 * q ≤ t * q := Int.mul_le_mul_of_nonneg_right t1 (by omega)
          omega
        have ht1 : t ≤ t * q := by
          have : t * 1 ≤ t * q := Int.mul_le_mul_of_nonneg_left h1 (by omega)
          omega
        have hq : q = 1 := by omega
        have ht : t = 1 := by omega
        rcases Nat.lt_or_ge a i with h4 | h4
        · exact h3 hq a h4
        · obtain rfl : a = i := by omega
          rw [ht] at t3
          exact t3
  obtain ⟨q, h1, h2, h3⟩ := key R.length (Nat.le_refl _)
  rw [hl] at h2
  rw [hl]
  refine ⟨q, h1, h2, fun hq => ?_, fun h => ?_⟩
  · have hd := h3 hq
    have down : ∀ k i, R.length - i = k → i ≤ R.length → ∀ a, i ≤ a → a < S.length → Sp n (RowsFrom 0 R) (rowE_ S a) := by
      intro k
      induction k with
      | zero => intro i hk hi a h4 h5; omega
      | succ k ih =>
        intro i hk hi a h4 h5
        rcases Nat.lt_or_ge i a with h6 | h6
        · exact ih (i + 1) (by omega) (by omega) a (by omega) h5
        · obtain rfl : a = i := by omega
          have h7 : Sp n (RowsFrom 0 R) (lessL 1 (rowE_ R a) (rowE_ S a)) := (hd a (by omega)).mono (fun r hr => by
            obtain ⟨b, b1, b2, rfl⟩ := hr
            exact ih (a + 1) (by omega) (by omega) b b1 b2)
          have h8 := Sp.less 1 (.mem (rowsFrom_mem (Nat.zero_le a) (show a < R.length by omega))) h7
          have e : lessL 1 (rowE_ R a) (lessL 1 (rowE_ R a) (rowE_ S a)) = rowE_ S a := by
            have l1 := hR.1 a (by omega); have l2 := hS.1 a h5
            refine ext_getD (by rw [lessL_len]; omega) fun c => ?_
            rw [lessL_getD 1 (by rw [lessL_len]), lessL_getD 1 (by omega)]
            omega
          rw [e] at h8
          exact h8
    exact hform_unique hR hS ⟨fun r hr => hsub r (rf_iff.1 hr), fun r hr => by
      obtain ⟨a, -, ha, rfl⟩ := hr
      exact down R.length 0 (by omega) (by omega) a (by omega) ha⟩
  · subst h
    have hp := (prodP_pos hR _ (Nat.le_refl R.length)).1
    have hsp : ss = ps ∨ True := .inr trivial
    have e2 : prodP R ps R.length = prodP R ss R.length := by
      have hps : ∀ a, a < R.length → ps a = ss a := fun a ha => (hpv a ha).1
      have : ∀ i, i ≤ R.length → prodP R ps i = prodP R ss i := by
        intro i
        induction i with
        | zero => intro _; rfl
        | succ i ih =>
          intro hi
          show getE R i (ps i) * prodP R ps i = getE R i (ss i) * prodP R ss i
          rw [ih (by omega), hps i (by omega)]
      exact this _ (Nat.le_refl _)
    rw [← e2] at h2
    have h4 : (q - 1) * prodP R ps R.length = 0 := by rw [Int.sub_mul]; omega
    rcases Int.mul_eq_zero.1 h4 with h | h
    · omega
    · omega
/-- The product of the pivots, as Index works it out. -/
theorem prodO_prodP {n : Nat} {R : List (List Int)} {ps : Nat → Nat} (hR : HForm n R ps) (hb : prodP R ps R.length ≤ 100000000000) : ∀ i, i ≤ R.length → prodO R i = some (prodP R ps i)
  | 0, _ => rfl
  | i + 1, hi => by
    have ih := prodO_prodP hR hb i (by omega)
    have hlead := hform_lead hR (i := i) (by omega)
    have hpv : pivV (rowE_ R i) = getE R i (ps i) := by unfold pivV pivC; rw [hlead]; rfl
    obtain ⟨hp1, hp2⟩ := prodP_pos hR R.length (Nat.le_refl _)
    have hge : getE R i (ps i) ≤ prodP R ps R.length := hp2 i (by omega)
    have hpos := hR.2.pos i (by omega)
    have hmono : ∀ j, i ≤ j → j ≤ R.length → prodP R ps i ≤ prodP R ps j := by
      intro j hj1
      induction hj1 with
      | refl => intro _; exact Int.le_refl _
      | @step j hj1 ihj =>
        intro hj2
        have h1 := ihj (by omega)
        have h2 := hR.2.pos j (by omega)
        have h3 := (prodP_pos hR j (by omega)).1
        have h4 : 1 * prodP R ps j ≤ getE R j (ps j) * prodP R ps j := Int.mul_le_mul_of_nonneg_right (by omega) (by omega)
        show prodP R ps i ≤ getE R j (ps j) * prodP R ps j
        omega
    have hpi := hmono R.length (by omega) (Nat.le_refl _)
    have hpi0 := (prodP_pos hR i (by omega)).1
    unfold prodO
    rw [ih]
    simp only
    rw [if_pos ⟨by rw [hlead]; omega, sm9B_of (K := 12) (by decide) (by decide) (by omega), sm9B_of (K := 12) (by decide) (by decide) (by rw [hpv]; omega)⟩, hpv]
    show _ = some (getE R i (ps i) * prodP R ps i)
    rw [Int.mul_comm]
end Go.Proofs.YtehknemdfbkimaaGreatDoor
/- slices.Concat at rows of integers of any size. -/
namespace Go.Proofs.YtehknemdfbkimaaGreatDoor
set_option linter.unusedVariables false
set_option linter.unusedSimpArgs false
open Go.RowKit

theorem Build.ofBigs {w : World} {base : Nat} {v : Value} {xs : List Int} (h : w.ownsRow base 73 1 v xs.length (xs.map fun x => Value.string (intB x))) : Build w base 73 1 v bigC xs := by
  refine ⟨xs.map fun x => [Value.string (intB x)], by simp, fun u hu => ?_, ?_, fun j u x hu hx => ?_⟩
  · obtain ⟨x, -, rfl⟩ := List.mem_map.1 hu; rfl
  · rw [flatten_one]; exact h
  · intro w' _
    rw [List.getElem?_map, hx] at hu
    exact (Option.some.inj hu).symm
theorem wpList_append_rowB (w : World) {ops : Array Oper} {rest : List Oper} {o : Oper} {a : Act} {Q : Exit → Act → World → Prop} (hgd : o.guard = none)
    (s x : Operand) (ho : o.op = Op.call { callee := Callee.builtin Builtin.append, args := #[s, x], argTypes := #[114, 114] }) (base : Nat)
    (v : Value) (xs ys : List Int) (hs : a.eval s = v) (hB : Build w base 73 1 v bigC xs) (g c n : Nat) (hn : ys.length = n) (hx : a.eval x = .slice (some ⟨g, 0, none⟩) n c) (hR : RowB w g 0 ys)
    (hlen : xs.length + n < 1000000) (hpos : 1 ≤ n) (hbase : base ≤ w.heap.size)
    (h : ∀ w' gr cr, Build w' base 73 1 (.slice (some ⟨gr, 0, none⟩) (xs.length + n) cr) bigC (xs ++ ys) → RowB w' gr 0 (xs ++ ys) → base ≤ gr → xs.length + n ≤ cr → cr ≤ maxLen → Below base w w' → wpList Tryz.prog ops Q rest (a.put o.dst (.slice (some ⟨gr, 0, none⟩) (xs.length + n) cr)) w') :
    wpList Tryz.prog ops Q (o :: rest) a w := by
  refine wpList_plain hgd fun K hK => ?_
  subst hn
  obtain ⟨i0, hi, hz, hsize, hby⟩ := info_parts infoBig
  have hadd : ∀ j, (⟨g, 0, none⟩ : Addr).add j = ⟨g, 0 + j, none⟩ := by intro j; unfold Addr.add; split <;> simp_all
  have hbig := hB.bigs
  refine wp_append_own_at w s x 114 ho base 73 i0 (.string ⟨#[]⟩) 1 16 Tryz.underlying114 hi hz hsize hby rfl (by decide) v xs.length (xs.map fun x => Value.string (intB x)) hs hbig ⟨g, 0, none⟩ ys.length c (ys.map fun x => Value.string (intB x)) hx (by simp) ?_ ?_ ?_ ?_ hbase ?_
  · intro j q hq
    rw [List.getElem?_map] at hq
    cases hy : ys[j]? with
    | none => rw [hy] at hq; cases hq
    | some y =>
      rw [hy] at hq
      rw [hadd, hR.cell j y hy]
      exact congrArg some (Option.some.inj hq)
  · intro u hu
    obtain ⟨y, -, rfl⟩ := List.mem_map.1 hu
    rfl
  · unfold maxLen; omega
  · omega
  · intro v' w' hown hgrow _ hat
    have hown2 : w'.ownsRow base 73 1 v' (xs ++ ys).length ((xs ++ ys).map fun x => Value.string (intB x)) := by
      rw [List.length_append, List.map_append]; exact hown
    obtain ⟨gr, cr, rfl, -⟩ := owns_shape hown2 (by rw [List.length_append]; omega)
    obtain ⟨k1, k2, k3, k4⟩ := RowB.of_owns hown2
    have hBB := Build.ofBigs hown2
    rw [List.length_append] at k3 hBB
    rw [List.length_append]
    refine hK _ _ (h w' gr cr hBB k1 k2 k3 k4 ⟨hgrow.os, hgrow.tape, hgrow.output, hgrow.size, fun b hb => hgrow.block b (by omega) ?_⟩)
    intro e
    have := (hbig.lt b e.symm).1
    omega
/-- Nothing in a new block. -/
theorem grown_noneL {P : Program} (w : World) (t tn ty e : TypeId) (z : Value) (k bytes : Nat) (kn kn2 : IntKind) (ht : P.underlying t = some (TypeDesc.slice e)) (htn : P.underlying tn = some (.int kn2)) (hinfo : (P.info? e).map (fun i => (i.zero, i.size, i.bytes)) = some (some z, k, bytes)) (hzs : z.cells.size = k) (hk : 0 < k) (hby : bytes ≤ 1000) (n : Nat) (h0 : 0 < n) (hn : n ≤ 1000000) :
    ∃ C w', (Builtin.append_ #[t, tn] ty #[.slice none 0 0, .int kn n]).run P w = .ok (.slice (some ⟨w.heap.size, 0, none⟩) n C) w' ∧ Ext w w' ∧ w'.ownsRow w.heap.size e k (.slice (some ⟨w.heap.size, 0, none⟩) 0 C) 0 [] ∧ n ≤ C ∧ C ≤ 9223372036854775807 := by
  obtain ⟨i, hi, hz, hsize, hbi⟩ := info_parts hinfo
  have h48 : n * i.bytes ≤ 281474976710656 := by
    rw [hbi]
    have := Nat.mul_le_mul hn hby
    omega
  have hr := Lib.run_append_nil_zeros (P := P) w t tn ty e i z kn kn2 ht htn hi hz n h0 (by omega) (by omega) h48
  have hge := grownCap_ge w n 0 e
  have hle := grownCap_le_maxLen w n 0 e (by unfold maxLen; omega)
  unfold maxLen at hle
  refine ⟨_, _, hr, Ext.trans (Ext.drew w) (Ext.alloc _ _), ?_, hge, by omega⟩
  have hsz : (Builtin.zeroCells z.cells n ++ Builtin.zeroCells z.cells (grownCap w n 0 e - n)).size = grownCap w n 0 e * k := by
    rw [Array.size_append, size_zeroCells, size_zeroCells, hzs, ← Nat.add_mul]
    congr 1; omega
  have := World.ownsRow_made (e := e) (size := k) (base := w.heap.size) w.drew (Builtin.zeroCells z.cells n ++ Builtin.zeroCells z.cells (grownCap w n 0 e - n)) (grownCap w n 0 e) (Nat.le_refl _) (by unfold maxLen; omega) hsz
  exact this

set_option maxRecDepth 100000 in
set_option maxHeartbeats 1000000 in
theorem growLong_any (n : Nat) (h0 : 1 ≤ n) (hn : n ≤ 1000) (w : World) :
    Calls Tryz.prog 152 #[.slice none 0 0, .int .i64 (n : Int)] w fun e w' => ∃ g C, e = .returned (.slice (some ⟨g, 0, none⟩) 0 C) ∧ Ext w w' ∧ Build w' w.heap.size 73 1 (.slice (some ⟨g, 0, none⟩) 0 C) bigC [] := by
  have HG : Hid (∀ (w : World) ty, ∃ C w', (Builtin.append_ #[114, 3] ty #[.slice none 0 0, .int .i64 n]).run Tryz.prog w = .ok (.slice (some ⟨w.heap.size, 0, none⟩) n C) w' ∧ Ext w w' ∧ w'.ownsRow w.heap.size 73 1 (.slice (some ⟨w.heap.size, 0, none⟩) 0 C) 0 [] ∧ n ≤ C ∧ C ≤ 9223372036854775807) := fun w ty =>
    grown_noneL w 114 3 ty 73 (.string ⟨#[]⟩) 1 16 .i64 .i64 Tryz.underlying114 Tryz.underlying3 infoBig rfl (by decide) (by omega) n (by omega) (by omega)
  have q1 : (0 : Int) < (n : Int) := by omega
  have q2 : ¬ (n : Int) < 0 := by omega
  clear h0
  go_enter Tryz.func152, Tryz.ntmps152
  obtain ⟨C, w1, hr, hE, hO, hC1, hC2⟩ := HG.out w 114
  have HR := Lib.hid hr; have HE := Lib.hid hE; have HO := Lib.hid hO
  clear hr hE hO HG
  go_wp2_with (at_builtin; refine Lib.wpList_append_run _ rfl _ _ _ _ rfl _ _ rfl rfl _ _ HR.out ?_)
  go_wp2_with fail
  go_ret
  exact ⟨_, C, rfl, HE.out, Build.ofBigs (xs := []) (by simpa using HO.out)⟩

set_option maxRecDepth 100000 in
set_option maxHeartbeats 2000000 in
theorem concatLong_any (xs ys : List Int) (b g1 c1 g2 c2 : Nat) (w : World) (hu : RowB w g1 0 xs) (hv : RowB w g2 0 ys) (h0 : w.cell? ⟨b, 0, none⟩ = some (.slice (some ⟨g1, 0, none⟩) xs.length c1)) (h1 : w.cell? ⟨b, 1, none⟩ = some (.slice (some ⟨g2, 0, none⟩) ys.length c2)) (hx1 : 1 ≤ xs.length) (hx : xs.length ≤ 400) (hy1 : 1 ≤ ys.length) (hy : ys.length ≤ 400) :
    Calls Tryz.prog 91 #[.slice (some ⟨b, 0, none⟩) 2 2] w fun e w' => ∃ g c, e = .returned (.slice (some ⟨g, 0, none⟩) (xs.length + ys.length) c) ∧ RowB w' g 0 (xs ++ ys) ∧ w.heap.size ≤ g ∧ xs.length + ys.length ≤ c ∧ c ≤ maxLen ∧ Ext w w' := by
  have HU := Lib.hid hu; have HV := Lib.hid hv
  obtain ⟨m, hm⟩ : ∃ m, xs.length = m := ⟨_, rfl⟩
  obtain ⟨n, hn⟩ : ∃ n, ys.length = n := ⟨_, rfl⟩
  rw [hm] at h0 hx1 hx ⊢
  rw [hn] at h1 hy1 hy ⊢
  have HG := Lib.hid (growLong_any (m + n) (by omega) (by omega) w)
  have HM := Lib.hid hm; have HN := Lib.hid hn
  have HG0 := Lib.hid h0; have HG1 := Lib.hid h1
  clear hu hv hm hn
  go_enter Tryz.func91, Tryz.ntmps91
  go_wp2_with fail
  go_loopw [11, 3] (fun t z wr => w = wr ∧ ((t = .int .i64 0 ∧ z = .int .i64 0) ∨ (t = .int .i64 1 ∧ z = .int .i64 (m : Int)) ∨ (t = .int .i64 2 ∧ z = .int .i64 ((m + n : Nat) : Int)))) (fun t _ _ => 2 - (intOf t).toNat)
  case atStart => exact ⟨by first | rfl | trivial, .inl ⟨rfl, rfl⟩⟩
  case round =>
    obtain ⟨hw, hrel⟩ := hrel
    subst hw
    rcases hrel with ⟨rfl, rfl⟩ | ⟨rfl, rfl⟩ | ⟨rfl, rfl⟩
    · have q : ¬ ((m : Int) < 0) := by omega
      go_wp2_with fail
      go_roundw
      case rel => exact ⟨by first | rfl | trivial, .inr (.inl ⟨rfl, by first | rfl | go_num⟩)⟩
      case measure => simp [intOf]
    · have q : ¬ (((m : Int) + (n : Int)) < 0) := by omega
      go_wp2_with fail
      go_roundw
      case rel => exact ⟨by first | rfl | trivial, .inr (.inr ⟨rfl, by go_num⟩)⟩
      case measure => simp [intOf]
    · clear h0 h1
      go_wp2_with fail
      refine HG.out.mono ?_
      rintro e w1 ⟨gr, cr, rfl, hE1, hB1⟩
      have HE1 := Lib.hid hE1; have HB1 := Lib.hid hB1
      clear hE1 hB1 HG
      go_wp2_with fail
      go_loopw [27, 6] (fun t acc wr => ∃ (i : Nat) (g c : Nat) (zs : List Int), t = .int .i64 i ∧ acc = .slice (some ⟨g, 0, none⟩) zs.length c ∧ Hid (Ext w wr) ∧ Hid (Build wr w.heap.size 73 1 (.slice (some ⟨g, 0, none⟩) zs.length c) bigC zs) ∧ Hid (i = 2 → RowB wr g 0 (xs ++ ys) ∧ w.heap.size ≤ g ∧ m + n ≤ c ∧ c ≤ maxLen) ∧ ((i = 0 ∧ zs = []) ∨ (i = 1 ∧ zs = xs) ∨ (i = 2 ∧ zs = xs ++ ys))) (fun t _ _ => 2 - (intOf t).toNat)
      case atStart => exact ⟨0, gr, cr, [], rfl, rfl, HE1.out, HB1.out, fun h => by omega, .inl ⟨rfl, rfl⟩⟩
      case round =>
        obtain ⟨i, g, c, zs, rfl, rfl, HE, HB, HD, hcase⟩ := hrel
        obtain ⟨wo, rfl⟩ : ∃ wo : World, wo = wr := ⟨_, rfl⟩
        have q0 := HE.out.cell HG0.out
        have q1 := HE.out.cell HG1.out
        have HSZ : Hid (w.heap.size ≤ wo.heap.size) := HE.out.size
        rcases hcase with ⟨rfl, rfl⟩ | ⟨rfl, rfl⟩ | ⟨rfl, rfl⟩
        · go_wp2_with (at_builtin; go_must (refine wpList_append_rowB wo rfl _ _ rfl w.heap.size (.slice (some ⟨g, 0, none⟩) 0 c) [] xs rfl HB.out g1 c1 m HM.out rfl (HU.out.ext HE.out) ?l1 hx1 HSZ.out ?_))
          case l1 => simp; omega
          intro w6 gr cr hB6 hR6 hg6 hc6 hc7 hb6
          have HB6 := Lib.hid hB6
          have HX6 : Hid (Ext w w6) := Below.trans HE.out hb6
          clear hB6 hb6 hR6 hg6 hc6 hc7
          go_wp2_with fail
          go_roundw
          case rel => exact ⟨1, gr, cr, xs, rfl, by rw [HM.out], HX6.out, by rw [HM.out]; exact HB6.out, fun h => by omega, .inr (.inl ⟨rfl, rfl⟩)⟩
          case measure => simp [intOf]
        · rw [HM.out] at HB ⊢
          go_wp2_with (at_builtin; go_must (refine wpList_append_rowB wo rfl _ _ rfl w.heap.size (.slice (some ⟨g, 0, none⟩) m c) zs ys rfl HB.out g2 c2 n HN.out rfl (HV.out.ext HE.out) ?l1 hy1 HSZ.out ?_))
          case l1 => rw [HM.out]; omega
          intro w6 gr cr hB6 hR6 hg6 hc6 hc7 hb6
          rw [HM.out] at hB6 hc6 ⊢
          have HB6 := Lib.hid hB6
          have HD6 := Lib.hid (And.intro hR6 (And.intro hg6 (And.intro hc6 hc7)))
          have HX6 : Hid (Ext w w6) := Below.trans HE.out hb6
          have HL : Hid ((zs ++ ys).length = m + n) := by unfold Hid; rw [List.length_append, HM.out, HN.out]
          clear hB6 hb6 hR6 hg6 hc6 hc7
          go_wp2_with fail
          go_roundw
          case rel => exact ⟨2, gr, cr, zs ++ ys, rfl, by rw [HL.out], HX6.out, by rw [HL.out]; exact HB6.out, fun _ => HD6.out, .inr (.inr ⟨rfl, rfl⟩)⟩
          case measure => simp [intOf]
        · have HL : Hid ((xs ++ ys).length = m + n) := by unfold Hid; rw [List.length_append, HM.out, HN.out]
          rw [HL.out]
          obtain ⟨d1, d2, d3, d4⟩ := HD.out rfl
          have HD1 := Lib.hid (And.intro d1 (And.intro d2 (And.intro d3 d4)))
          clear d1 d2 d3 d4 HD HB
          go_wp2_with fail
          go_ret
          exact ⟨g, c, rfl, HD1.out.1, HD1.out.2.1, HD1.out.2.2.1, HD1.out.2.2.2, HE.out⟩
end Go.Proofs.YtehknemdfbkimaaGreatDoor
