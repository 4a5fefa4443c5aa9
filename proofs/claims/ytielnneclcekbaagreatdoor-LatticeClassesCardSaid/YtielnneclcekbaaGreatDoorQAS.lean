/- Merged: GrowI, GrowJ. -/
import Derived.Test.YtielnneclcekbaaGreatDoorQAM
import Derived.Test.YtielnneclcekbaaGreatDoorQAR
/- Minors of rows of a lattice are multiples of those of its Hermite form. No program is named here. -/
namespace Go.Proofs.YtielnneclcekbaaGreatDoor
set_option linter.unusedVariables false
set_option linter.unusedSimpArgs false

def updV (V : Nat → List Int) (r : Nat) (x : List Int) : Nat → List Int := fun a => if a = r then x else V a
theorem updV_self (V : Nat → List Int) (r : Nat) : updV V r (V r) = V := by
  funext a; unfold updV; split
  · rename_i h; rw [h]
  · rfl
/-- Linear in each of k rows, and alternating. -/
structure Alt (n k : Nat) (G : (Nat → List Int) → Rat) : Prop where
  lin : ∀ V r x y (q : Int), r < k → x.length = y.length → G (updV V r (lessL q x y)) = G (updV V r x) + (-(q : Rat)) * G (updV V r y)
  zero : ∀ V r, r < k → G (updV V r (List.replicate n 0)) = 0
  eq : ∀ V i j, i < k → j < k → i ≠ j → V i = V j → G V = 0
  swap : ∀ V i j, i < j → j < k → G (fun a => V (trJ i j a)) = - G V
  ext : ∀ V W, (∀ a, a < k → V a = W a) → G V = G W
def mnr (S : Nat → Nat) (V : Nat → List Int) : Nat → Nat → Rat := fun a b => (((V a).getD (S b) 0 : Int) : Rat)
def phi (k : Nat) (S : Nat → Nat) (V : Nat → List Int) : Rat := detF k (mnr S V)
theorem mnr_upd (S : Nat → Nat) (V : Nat → List Int) (r : Nat) (x : List Int) : mnr S (updV V r x) = updR (mnr S V) r fun b => ((x.getD (S b) 0 : Int) : Rat) := by
  funext a b; unfold mnr updV updR; split <;> rfl
theorem phi_alt (n k : Nat) (S : Nat → Nat) : Alt n k (phi k S) where
  lin V r x y q hr hl := by
    unfold phi
    rw [mnr_upd, mnr_upd, mnr_upd, ← detF_row _ hr]
    congr 1
    funext a b; unfold updR; split
    · simp only
      rw [lessL_getD q hl.symm]
      rw [Rat.intCast_sub, Rat.intCast_mul]; grind
    · rfl
  zero V r hr := by
    unfold phi
    refine detF_zero_row hr fun b _ => ?_
    rw [mnr_upd]; unfold updR; rw [if_pos rfl]
    simp only
    have : (List.replicate n (0 : Int)).getD (S b) 0 = 0 := (Sp.zero (n := n) (S := fun _ => False)).zeroCol (fun _ h => h.elim) (fun _ h => h.elim)
    rw [this]; rfl
  eq V i j hi hj hne h := by
    unfold phi
    exact detF_eq hi hj hne fun b _ => by unfold mnr; rw [h]
  swap V i j hij hj := detF_swap (mnr S V) hij hj
  ext V W h := detF_congr fun a b ha _ => by unfold mnr; rw [h a ha]
theorem comb_alt {n k : Nat} {G H : (Nat → List Int) → Rat} (hG : Alt n k G) (hH : Alt n k H) (c d : Rat) : Alt n k (fun V => c * G V - d * H V) where
  lin V r x y q hr hl := by rw [hG.lin V r x y q hr hl, hH.lin V r x y q hr hl]; grind
  zero V r hr := by rw [hG.zero V r hr, hH.zero V r hr]; grind
  eq V i j hi hj hne h := by rw [hG.eq V i j hi hj hne h, hH.eq V i j hi hj hne h]; grind
  swap V i j hij hj := by rw [hG.swap V i j hij hj, hH.swap V i j hij hj]; grind
  ext V W h := by rw [hG.ext V W h, hH.ext V W h]

/-- A property of numbers that sums of multiples have. -/
structure Clo (Q : Rat → Prop) : Prop where
  zero : Q 0
  add : ∀ x y (q : Int), Q x → Q y → Q (x + (-(q : Rat)) * y)
theorem Clo.neg {Q : Rat → Prop} (h : Clo Q) {x : Rat} (hx : Q x) : Q (-x) := by
  have := h.add 0 x 1 h.zero hx
  have e : (0 : Rat) + -((1 : Int) : Rat) * x = -x := by grind
  rw [e] at this; exact this
theorem alt_row {n k : Nat} {G : (Nat → List Int) → Rat} {Q : Rat → Prop} (hG : Alt n k G) (hQ : Clo Q) {T : List Int → Prop} (hT : AllLen n T) (V : Nat → List Int) {r : Nat} (hr : r < k) (h : ∀ x, T x → Q (G (updV V r x))) {v : List Int} (hv : Sp n T v) : Q (G (updV V r v)) := by
  induction hv with
  | zero => rw [hG.zero V r hr]; exact hQ.zero
  | mem hx => exact h _ hx
  | less q a b iha ihb => rw [hG.lin V r _ _ q hr (by rw [a.len hT, b.len hT])]; exact hQ.add _ _ q iha ihb
theorem alt_all {n k : Nat} {G : (Nat → List Int) → Rat} {Q : Rat → Prop} (hG : Alt n k G) (hQ : Clo Q) {T : List Int → Prop} (hT : AllLen n T) (h : ∀ V, (∀ a, a < k → T (V a)) → Q (G V)) :
    ∀ j, j ≤ k → ∀ V, (∀ a, a < j → Sp n T (V a)) → (∀ a, j ≤ a → a < k → T (V a)) → Q (G V)
  | 0, _, V, _, h2 => h V fun a ha => h2 a (Nat.zero_le _) ha
  | j + 1, hj, V, h1, h2 => by
    rw [← updV_self V j]
    refine alt_row hG hQ hT V (by omega) (fun x hx => ?_) (h1 j (by omega))
    refine alt_all hG hQ hT h j (by omega) (updV V j x) (fun a ha => ?_) fun a ha hak => ?_
    · unfold updV; rw [if_neg (by omega)]; exact h1 a (by omega)
    · unfold updV; split
      · exact hx
      · exact h2 a (by omega) hak
theorem pigeon : ∀ (k : Nat) (f : Nat → Nat), (∀ a, a ≤ k → f a < k) → ∃ a b, a < b ∧ b ≤ k ∧ f a = f b
  | 0, f, h => by have := h 0 (Nat.le_refl _); omega
  | k + 1, f, h => by
    by_cases hex : ∃ a, a ≤ k ∧ f a = f (k + 1)
    · obtain ⟨a, h1, h2⟩ := hex
      exact ⟨a, k + 1, by omega, Nat.le_refl _, h2⟩
    · have hne : ∀ a, a ≤ k → f a ≠ f (k + 1) := fun a ha he => hex ⟨a, ha, he⟩
      have hv := h (k + 1) (Nat.le_refl _)
      obtain ⟨a, b, h1, h2, h3⟩ := pigeon k (fun a => if f a = k then f (k + 1) else f a) (fun a ha => by
        have h1 := h a (by omega)
        have h2 := hne a ha
        split <;> omega)
      refine ⟨a, b, h1, by omega, ?_⟩
      have ha := hne a (by omega)
      have hb := hne b h2
      split at h3 <;> split at h3 <;> omega
/-- Rows of a matrix of k rows, in whatever order. -/
theorem alt_base {n k : Nat} {G : (Nat → List Int) → Rat} {Q : Rat → Prop} (hG : Alt n k G) (hQ : Clo Q) (R : Nat → List Int) (h : Q (G R)) :
    ∀ (j r : Nat), k - r = j → r ≤ k → ∀ f : Nat → Nat, (∀ a, a < k → f a < k) → (∀ a, a < r → f a = a) → Q (G fun a => R (f a))
  | 0, r, hj, hr, f, h1, h2 => by
    rw [hG.ext _ R fun a ha => by rw [h2 a (by omega)]]; exact h
  | j + 1, r, hj, hr, f, h1, h2 => by
    by_cases hex : ∃ a, r ≤ a ∧ a < k ∧ f a = r
    · obtain ⟨a, a1, a2, a3⟩ := hex
      by_cases har : a = r
      · exact alt_base hG hQ R h j (r + 1) (by omega) (by omega) f h1 fun b hb => by
          by_cases hbr : b = r
          · rw [hbr, ← har, a3, har]
          · exact h2 b (by omega)
      · have := alt_base hG hQ R h j (r + 1) (by omega) (by omega) (fun b => f (trJ r a b)) (fun b hb => h1 _ (by unfold trJ; split; omega; split <;> omega)) fun b hb => by
          unfold trJ
          by_cases hbr : b = r
          · rw [if_pos hbr, a3, hbr]
          · rw [if_neg hbr, if_neg (by omega)]; exact h2 b (by omega)
        have e := hG.swap (fun b => R (f b)) r a (by omega) a2
        have e2 : (fun b => R (f (trJ r a b))) = fun b => (fun b => R (f b)) (trJ r a b) := rfl
        rw [e2, e] at this
        have := hQ.neg this
        rw [Rat.neg_neg] at this; exact this
    · -- r is no value: two places have the same one
      obtain ⟨k', rfl⟩ : ∃ k', k = k' + 1 := ⟨k - 1, by omega⟩
      have hne : ∀ a, a ≤ k' → f a ≠ r := fun a ha he => by
        by_cases har : a < r
        · rw [h2 a har] at he; omega
        · exact hex ⟨a, by omega, by omega, he⟩
      obtain ⟨a, b, q1, q2, q3⟩ := pigeon k' (fun a => if f a = k' then r else f a) (fun a ha => by
        have g1 := h1 a (by omega)
        have g2 := hne a ha
        split <;> omega)
      have ha := hne a (by omega)
      have hb := hne b q2
      have hab : f a = f b := by
        split at q3 <;> split at q3 <;> omega
      rw [hG.eq (fun a => R (f a)) a b (by omega) (by omega) (by omega) (by rw [hab])]
      exact hQ.zero
/-- What the rows of a matrix satisfy, all rows that they generate satisfy. -/
theorem alt_sp {n : Nat} {G : (Nat → List Int) → Rat} {Q : Rat → Prop} {R : List (List Int)} (hG : Alt n R.length G) (hQ : Clo Q) (hW : Wid n R) (h : Q (G (rowE_ R))) (V : Nat → List Int) (hV : ∀ a, a < R.length → Sp n (RowsFrom 0 R) (V a)) : Q (G V) := by
  refine alt_all hG hQ (rowsFrom_len hW) (fun V hV => ?_) R.length (Nat.le_refl _) V hV fun a h1 h2 => by omega
  have hf : ∃ f : Nat → Nat, ∀ a, a < R.length → f a < R.length ∧ rowE_ R (f a) = V a := by
    refine ⟨fun a => if h : a < R.length then Classical.choose (hV a h) else 0, fun a ha => ?_⟩
    simp only [dif_pos ha]
    exact (Classical.choose_spec (hV a ha)).2
  obtain ⟨f, hf⟩ := hf
  rw [hG.ext V (fun a => rowE_ R (f a)) fun a ha => (hf a ha).2.symm]
  exact alt_base hG hQ (rowE_ R) h _ 0 rfl (Nat.zero_le _) f (fun a ha => (hf a ha).1) fun a ha => by omega
end Go.Proofs.YtielnneclcekbaaGreatDoor
/- The elements of a Hermite form are bounded by minors. No program is named here. -/
namespace Go.Proofs.YtielnneclcekbaaGreatDoor
set_option linter.unusedVariables false
set_option linter.unusedSimpArgs false

/-- k rows of elements up to N: no determinant is greater. -/
def facN (N : Nat) : Nat → Nat
  | 0 => 1
  | k + 1 => (k + 1) * (N * facN N k)
theorem sum_int {B : Nat} {f : Nat → Rat} : ∀ {n : Nat}, (∀ i, i < n → ∃ z : Int, f i = (z : Rat) ∧ z.natAbs ≤ B) → ∃ z : Int, sumQ n f = (z : Rat) ∧ z.natAbs ≤ n * B
  | 0, _ => ⟨0, rfl, by omega⟩
  | n + 1, h => by
    obtain ⟨z, h1, h2⟩ := sum_int fun i (hi : i < n) => h i (by omega)
    obtain ⟨y, h3, h4⟩ := h n (by omega)
    refine ⟨z + y, ?_, ?_⟩
    · show sumQ n f + f n = _
      rw [h1, h3, Rat.intCast_add]
    · rw [Nat.add_mul]; omega
theorem det_int {N : Nat} : ∀ (k : Nat) (m : Nat → Nat → Int), (∀ a b, a < k → b < k → (m a b).natAbs ≤ N) → ∃ z : Int, detF k (fun a b => (m a b : Rat)) = (z : Rat) ∧ z.natAbs ≤ facN N k
  | 0, m, h => ⟨1, rfl, by unfold facN; decide⟩
  | k + 1, m, h => by
    unfold facN
    refine sum_int (B := N * facN N k) fun i hi => ?_
    obtain ⟨z, h1, h2⟩ := det_int k (fun a b => m (sk i a) (b + 1)) fun a b ha hb => h _ _ (by unfold sk; split <;> omega) (by omega)
    have hb : (m i 0 * z).natAbs ≤ N * facN N k := by rw [Int.natAbs_mul]; exact Nat.mul_le_mul (h i 0 hi (by omega)) h2
    simp only
    rw [h1]
    unfold sgnQ
    split
    · exact ⟨m i 0 * z, by rw [Rat.intCast_mul]; grind, hb⟩
    · exact ⟨-(m i 0 * z), by rw [Rat.intCast_neg, Rat.intCast_mul]; grind, by rw [Int.natAbs_neg]; exact hb⟩

/-- The product of the first pivots. -/
def prodP (R : List (List Int)) (ps : Nat → Nat) : Nat → Int
  | 0 => 1
  | j + 1 => getE R j (ps j) * prodP R ps j
theorem prodP_pos {n : Nat} {R : List (List Int)} {ps : Nat → Nat} (hR : HForm n R ps) : ∀ j, j ≤ R.length → 0 < prodP R ps j ∧ ∀ i, i < j → getE R i (ps i) ≤ prodP R ps j
  | 0, _ => ⟨by unfold prodP; decide, fun i hi => by omega⟩
  | j + 1, hj => by
    obtain ⟨h1, h2⟩ := prodP_pos hR j (by omega)
    have hp := hR.2.pos j (by omega)
    have e : prodP R ps (j + 1) = getE R j (ps j) * prodP R ps j := rfl
    have a1 : 1 * prodP R ps j ≤ getE R j (ps j) * prodP R ps j := Int.mul_le_mul_of_nonneg_right (by omega) (by omega)
    have a2 : getE R j (ps j) * 1 ≤ getE R j (ps j) * prodP R ps j := Int.mul_le_mul_of_nonneg_left (by omega) (by omega)
    rw [e]
    refine ⟨by omega, fun i hi => ?_⟩
    by_cases hij : i = j
    · rw [hij]; omega
    · have := h2 i (by omega); omega
theorem phi_piv {n : Nat} {R : List (List Int)} {ps : Nat → Nat} (hR : HForm n R ps) : ∀ j, j ≤ R.length → phi j ps (rowE_ R) = (prodP R ps j : Rat)
  | 0, _ => rfl
  | j + 1, hj => by
    have ih := phi_piv hR j (by omega)
    unfold phi at ih ⊢
    rw [← detF_tr, detF_last, detF_tr, ih]
    · show _ = ((getE R j (ps j) * prodP R ps j : Int) : Rat)
      rw [Rat.intCast_mul]; rfl
    · intro a ha
      show (((rowE_ R j).getD (ps a) 0 : Int) : Rat) = 0
      have : (rowE_ R j).getD (ps a) 0 = 0 := hR.2.zero j (by omega) (ps a) (hR.2.mono a j ha (by omega))
      rw [this]; rfl

theorem back_sub {k : Nat} (M : Nat → Nat → Rat) (hz : ∀ a b, b < a → a < k → M a b = 0) (hd : ∀ a, a < k → M a a ≠ 0) (y : Nat → Rat) : ∀ j, j ≤ k → ∃ x : Nat → Rat, ∀ a, k - j ≤ a → a < k → y a = sumQ k fun l => x l * M a l
  | 0, _ => ⟨fun _ => 0, fun a h1 h2 => by omega⟩
  | j + 1, hj => by
    obtain ⟨x, hx⟩ := back_sub M hz hd y j (by omega)
    obtain ⟨r, hr⟩ : ∃ r, r = k - (j + 1) := ⟨_, rfl⟩
    obtain ⟨q, hq⟩ : ∃ q, q = (y r - sumQ k fun l => if l = r then 0 else x l * M r l) / M r r := ⟨_, rfl⟩
    refine ⟨fun l => if l = r then q else x l, fun a h1 h2 => ?_⟩
    by_cases har : a = r
    · rw [har]
      have hf : (sumQ k fun l => (if l = r then q else x l) * M r l) = sumQ k fun l => (if l = r then 0 else x l * M r l) + if l = r then q * M r r else 0 := by
        refine sumQ_congr fun l _ => ?_
        by_cases hl : l = r
        · rw [if_pos hl, if_pos hl, if_pos hl, hl]; grind
        · rw [if_neg hl, if_neg hl, if_neg hl]; grind
      rw [hf, sumQ_add, sumQ_one (k := r) (by omega) (fun i _ hi => if_neg hi), if_pos rfl, hq]
      have := hd r (by omega)
      rw [Rat.div_mul_cancel this]; grind
    · rw [hx a (by omega) h2]
      refine sumQ_congr fun l _ => ?_
      show x l * M a l = (if l = r then q else x l) * M a l
      by_cases hl : l = r
      · rw [if_pos hl, hl, hz a r (by omega) h2]; grind
      · rw [if_neg hl]
end Go.Proofs.YtielnneclcekbaaGreatDoor
