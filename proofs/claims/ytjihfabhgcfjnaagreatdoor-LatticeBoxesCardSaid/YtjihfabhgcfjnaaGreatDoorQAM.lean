/- Merged: GrowI, GrowJ, GrowK, EqMatL. -/
import Derived.Test.YtjihfabhgcfjnaaGreatDoorQAI
import Derived.Test.YtjihfabhgcfjnaaGreatDoorQAL
import Derived.Test.YtjihfabhgcfjnaaGreatDoorQAJ
/- Minors of rows of a lattice are multiples of those of its Hermite form. No program is named here. -/
namespace Go.Proofs.YtjihfabhgcfjnaaGreatDoor
set_option linter.unusedVariables false
set_option linter.unusedSimpArgs false

def updV (V : Nat → List Int) (r : Nat) (x : List Int) : Nat → List Int := fun a => if a = r then x else V a
theorem updV_self (V : Nat → List Int) (r : Nat) : updV V r (V r) = V := by
  funext a; unfold updV; split
  · rename_i h; rw [h]
  · rfl
/-- Linear in each of k rows, and alternating. -/
structure Alt (n k : Nat) (G : (Nat → List Int) → Rat) : Prop where
  lin : ∀ V r x y (q : Int), r < k → x.length = y.length → G (updV V r (lessL q x y)) = G (updV V r x) + (-(q : Rat)) * G (updV V r y)
  zero : ∀ V r, r < k → G (updV V r (List.replicate n 0)) = 0
  eq : ∀ V i j, i < k → j < k → i ≠ j → V i = V j → G V = 0
  swap : ∀ V i j, i < j → j < k → G (fun a => V (trJ i j a)) = - G V
  ext : ∀ V W, (∀ a, a < k → V a = W a) → G V = G W
def mnr (S : Nat → Nat) (V : Nat → List Int) : Nat → Nat → Rat := fun a b => (((V a).getD (S b) 0 : Int) : Rat)
def phi (k : Nat) (S : Nat → Nat) (V : Nat → List Int) : Rat := detF k (mnr S V)
theorem mnr_upd (S : Nat → Nat) (V : Nat → List Int) (r : Nat) (x : List Int) : mnr S (updV V r x) = updR (mnr S V) r fun b => ((x.getD (S b) 0 : Int) : Rat) := by
  funext a b; unfold mnr updV updR; split <;> rfl
theorem phi_alt (n k : Nat) (S : Nat → Nat) : Alt n k (phi k S) where
  lin V r x y q hr hl := by
    unfold phi
    rw [mnr_upd, mnr_upd, mnr_upd, ← detF_row _ hr]
    congr 1
    funext a b; unfold updR; split
    · simp only
      rw [lessL_getD q hl.symm]
      rw [Rat.intCast_sub, Rat.intCast_mul]; grind
    · rfl
  zero V r hr := by
    unfold phi
    refine detF_zero_row hr fun b _ => ?_
    rw [mnr_upd]; unfold updR; rw [if_pos rfl]
    simp only
    have : (List.replicate n (0 : Int)).getD (S b) 0 = 0 := (Sp.zero (n := n) (S := fun _ => False)).zeroCol (fun _ h => h.elim) (fun _ h => h.elim)
    rw [this]; rfl
  eq V i j hi hj hne h := by
    unfold phi
    exact detF_eq hi hj hne fun b _ => by unfold mnr; rw [h]
  swap V i j hij hj := detF_swap (mnr S V) hij hj
  ext V W h := detF_congr fun a b ha _ => by unfold mnr; rw [h a ha]
theorem comb_alt {n k : Nat} {G H : (Nat → List Int) → Rat} (hG : Alt n k G) (hH : Alt n k H) (c d : Rat) : Alt n k (fun V => c * G V - d * H V) where
  lin V r x y q hr hl := by rw [hG.lin V r x y q hr hl, hH.lin V r x y q hr hl]; grind
  zero V r hr := by rw [hG.zero V r hr, hH.zero V r hr]; grind
  eq V i j hi hj hne h := by rw [hG.eq V i j hi hj hne h, hH.eq V i j hi hj hne h]; grind
  swap V i j hij hj := by rw [hG.swap V i j hij hj, hH.swap V i j hij hj]; grind
  ext V W h := by rw [hG.ext V W h, hH.ext V W h]

/-- A property of numbers that sums of multiples have. -/
structure Clo (Q : Rat → Prop) : Prop where
  zero : Q 0
  add : ∀ x y (q : Int), Q x → Q y → Q (x + (-(q : Rat)) * y)
theorem Clo.neg {Q : Rat → Prop} (h : Clo Q) {x : Rat} (hx : Q x) : Q (-x) := by
  have := h.add 0 x 1 h.zero hx
  have e : (0 : Rat) + -((1 : Int) : Rat) * x = -x := by grind
  rw [e] at this; exact this
theorem alt_row {n k : Nat} {G : (Nat → List Int) → Rat} {Q : Rat → Prop} (hG : Alt n k G) (hQ : Clo Q) {T : List Int → Prop} (hT : AllLen n T) (V : Nat → List Int) {r : Nat} (hr : r < k) (h : ∀ x, T x → Q (G (updV V r x))) {v : List Int} (hv : Sp n T v) : Q (G (updV V r v)) := by
  induction hv with
  | zero => rw [hG.zero V r hr]; exact hQ.zero
  | mem hx => exact h _ hx
  | less q a b iha ihb => rw [hG.lin V r _ _ q hr (by rw [a.len hT, b.len hT])]; exact hQ.add _ _ q iha ihb
theorem alt_all {n k : Nat} {G : (Nat → List Int) → Rat} {Q : Rat → Prop} (hG : Alt n k G) (hQ : Clo Q) {T : List Int → Prop} (hT : AllLen n T) (h : ∀ V, (∀ a, a < k → T (V a)) → Q (G V)) :
    ∀ j, j ≤ k → ∀ V, (∀ a, a < j → Sp n T (V a)) → (∀ a, j ≤ a → a < k → T (V a)) → Q (G V)
  | 0, _, V, _, h2 => h V fun a ha => h2 a (Nat.zero_le _) ha
  | j + 1, hj, V, h1, h2 => by
    rw [← updV_self V j]
    refine alt_row hG hQ hT V (by omega) (fun x hx => ?_) (h1 j (by omega))
    refine alt_all hG hQ hT h j (by omega) (updV V j x) (fun a ha => ?_) fun a ha hak => ?_
    · unfold updV; rw [if_neg (by omega)]; exact h1 a (by omega)
    · unfold updV; split
      · exact hx
      · exact h2 a (by omega) hak
theorem pigeon : ∀ (k : Nat) (f : Nat → Nat), (∀ a, a ≤ k → f a < k) → ∃ a b, a < b ∧ b ≤ k ∧ f a = f b
  | 0, f, h => by have := h 0 (Nat.le_refl _); omega
  | k + 1, f, h => by
    by_cases hex : ∃ a, a ≤ k ∧ f a = f (k + 1)
    · obtain ⟨a, h1, h2⟩ := hex
      exact ⟨a, k + 1, by omega, Nat.le_refl _, h2⟩
    · have hne : ∀ a, a ≤ k → f a ≠ f (k + 1) := fun a ha he => hex ⟨a, ha, he⟩
      have hv := h (k + 1) (Nat.le_refl _)
      obtain ⟨a, b, h1, h2, h3⟩ := pigeon k (fun a => if f a = k then f (k + 1) else f a) (fun a ha => by
        have h1 := h a (by omega)
        have h2 := hne a ha
        split <;> omega)
      refine ⟨a, b, h1, by omega, ?_⟩
      have ha := hne a (by omega)
      have hb := hne b h2
      split at h3 <;> split at h3 <;> omega
/-- Rows of a matrix of k rows, in whatever order. -/
theorem alt_base {n k : Nat} {G : (Nat → List Int) → Rat} {Q : Rat → Prop} (hG : Alt n k G) (hQ : Clo Q) (R : Nat → List Int) (h : Q (G R)) :
    ∀ (j r : Nat), k - r = j → r ≤ k → ∀ f : Nat → Nat, (∀ a, a < k → f a < k) → (∀ a, a < r → f a = a) → Q (G fun a => R (f a))
  | 0, r, hj, hr, f, h1, h2 => by
    rw [hG.ext _ R fun a ha => by rw [h2 a (by omega)]]; exact h
  | j + 1, r, hj, hr, f, h1, h2 => by
    by_cases hex : ∃ a, r ≤ a ∧ a < k ∧ f a = r
    · obtain ⟨a, a1, a2, a3⟩ := hex
      by_cases har : a = r
      · exact alt_base hG hQ R h j (r + 1) (by omega) (by omega) f h1 fun b hb => by
          by_cases hbr : b = r
          · rw [hbr, ← har, a3, har]
          · exact h2 b (by omega)
      · have := alt_base hG hQ R h j (r + 1) (by omega) (by omega) (fun b => f (trJ r a b)) (fun b hb => h1 _ (by unfold trJ; split; omega; split <;> omega)) fun b hb => by
          unfold trJ
          by_cases hbr : b = r
          · rw [if_pos hbr, a3, hbr]
          · rw [if_neg hbr, if_neg (by omega)]; exact h2 b (by omega)
        have e := hG.swap (fun b => R (f b)) r a (by omega) a2
        have e2 : (fun b => R (f (trJ r a b))) = fun b => (fun b => R (f b)) (trJ r a b) := rfl
        rw [e2, e] at this
        have := hQ.neg this
        rw [Rat.neg_neg] at this; exact this
    · -- r is no value: two places have the same one
      obtain ⟨k', rfl⟩ : ∃ k', k = k' + 1 := ⟨k - 1, by omega⟩
      have hne : ∀ a, a ≤ k' → f a ≠ r := fun a ha he => by
        by_cases har : a < r
        · rw [h2 a har] at he; omega
        · exact hex ⟨a, by omega, by omega, he⟩
      obtain ⟨a, b, q1, q2, q3⟩ := pigeon k' (fun a => if f a = k' then r else f a) (fun a ha => by
        have g1 := h1 a (by omega)
        have g2 := hne a ha
        split <;> omega)
      have ha := hne a (by omega)
      have hb := hne b q2
      have hab : f a = f b := by
        split at q3 <;> split at q3 <;> omega
      rw [hG.eq (fun a => R (f a)) a b (by omega) (by omega) (by omega) (by rw [hab])]
      exact hQ.zero
/-- What the rows of a matrix satisfy, all rows that they generate satisfy. -/
theorem alt_sp {n : Nat} {G : (Nat → List Int) → Rat} {Q : Rat → Prop} {R : List (List Int)} (hG : Alt n R.length G) (hQ : Clo Q) (hW : Wid n R) (h : Q (G (rowE_ R))) (V : Nat → List Int) (hV : ∀ a, a < R.length → Sp n (RowsFrom 0 R) (V a)) : Q (G V) := by
  refine alt_all hG hQ (rowsFrom_len hW) (fun V hV => ?_) R.length (Nat.le_refl _) V hV fun a h1 h2 => by omega
  have hf : ∃ f : Nat → Nat, ∀ a, a < R.length → f a < R.length ∧ rowE_ R (f a) = V a := by
    refine ⟨fun a => if h : a < R.length then Classical.choose (hV a h) else 0, fun a ha => ?_⟩
    simp only [dif_pos ha]
    exact (Classical.choose_spec (hV a ha)).2
  obtain ⟨f, hf⟩ := hf
  rw [hG.ext V (fun a => rowE_ R (f a)) fun a ha => (hf a ha).2.symm]
  exact alt_base hG hQ (rowE_ R) h _ 0 rfl (Nat.zero_le _) f (fun a ha => (hf a ha).1) fun a ha => by omega
end Go.Proofs.YtjihfabhgcfjnaaGreatDoor
/- The elements of a Hermite form are bounded by minors. No program is named here. -/
namespace Go.Proofs.YtjihfabhgcfjnaaGreatDoor
set_option linter.unusedVariables false
set_option linter.unusedSimpArgs false

/-- k rows of elements up to N: no determinant is greater. -/
def facN (N : Nat) : Nat → Nat
  | 0 => 1
  | k + 1 => (k + 1) * (N * facN N k)
theorem sum_int {B : Nat} {f : Nat → Rat} : ∀ {n : Nat}, (∀ i, i < n → ∃ z : Int, f i = (z : Rat) ∧ z.natAbs ≤ B) → ∃ z : Int, sumQ n f = (z : Rat) ∧ z.natAbs ≤ n * B
  | 0, _ => ⟨0, rfl, by omega⟩
  | n + 1, h => by
    obtain ⟨z, h1, h2⟩ := sum_int fun i (hi : i < n) => h i (by omega)
    obtain ⟨y, h3, h4⟩ := h n (by omega)
    refine ⟨z + y, ?_, ?_⟩
    · show sumQ n f + f n = _
      rw [h1, h3, Rat.intCast_add]
    · rw [Nat.add_mul]; omega
theorem det_int {N : Nat} : ∀ (k : Nat) (m : Nat → Nat → Int), (∀ a b, a < k → b < k → (m a b).natAbs ≤ N) → ∃ z : Int, detF k (fun a b => (m a b : Rat)) = (z : Rat) ∧ z.natAbs ≤ facN N k
  | 0, m, h => ⟨1, rfl, by unfold facN; decide⟩
  | k + 1, m, h => by
    unfold facN
    refine sum_int (B := N * facN N k) fun i hi => ?_
    obtain ⟨z, h1, h2⟩ := det_int k (fun a b => m (sk i a) (b + 1)) fun a b ha hb => h _ _ (by unfold sk; split <;> omega) (by omega)
    have hb : (m i 0 * z).natAbs ≤ N * facN N k := by rw [Int.natAbs_mul]; exact Nat.mul_le_mul (h i 0 hi (by omega)) h2
    simp only
    rw [h1]
    unfold sgnQ
    split
    · exact ⟨m i 0 * z, by rw [Rat.intCast_mul]; grind, hb⟩
    · exact ⟨-(m i 0 * z), by rw [Rat.intCast_neg, Rat.intCast_mul]; grind, by rw [Int.natAbs_neg]; exact hb⟩

/-- The product of the first pivots. -/
def prodP (R : List (List Int)) (ps : Nat → Nat) : Nat → Int
  | 0 => 1
  | j + 1 => getE R j (ps j) * prodP R ps j
theorem prodP_pos {n : Nat} {R : List (List Int)} {ps : Nat → Nat} (hR : HForm n R ps) : ∀ j, j ≤ R.length → 0 < prodP R ps j ∧ ∀ i, i < j → getE R i (ps i) ≤ prodP R ps j
  | 0, _ => ⟨by unfold prodP; decide, fun i hi => by omega⟩
  | j + 1, hj => by
    obtain ⟨h1, h2⟩ := prodP_pos hR j (by omega)
    have hp := hR.2.pos j (by omega)
    have e : prodP R ps (j + 1) = getE R j (ps j) * prodP R ps j := rfl
    have a1 : 1 * prodP R ps j ≤ getE R j (ps j) * prodP R ps j := Int.mul_le_mul_of_nonneg_right (by omega) (by omega)
    have a2 : getE R j (ps j) * 1 ≤ getE R j (ps j) * prodP R ps j := Int.mul_le_mul_of_nonneg_left (by omega) (by omega)
    rw [e]
    refine ⟨by omega, fun i hi => ?_⟩
    by_cases hij : i = j
    · rw [hij]; omega
    · have := h2 i (by omega); omega
theorem phi_piv {n : Nat} {R : List (List Int)} {ps : Nat → Nat} (hR : HForm n R ps) : ∀ j, j ≤ R.length → phi j ps (rowE_ R) = (prodP R ps j : Rat)
  | 0, _ => rfl
  | j + 1, hj => by
    have ih := phi_piv hR j (by omega)
    unfold phi at ih ⊢
    rw [← detF_tr, detF_last, detF_tr, ih]
    · show _ = ((getE R j (ps j) * prodP R ps j : Int) : Rat)
      rw [Rat.intCast_mul]; rfl
    · intro a ha
      show (((rowE_ R j).getD (ps a) 0 : Int) : Rat) = 0
      have : (rowE_ R j).getD (ps a) 0 = 0 := hR.2.zero j (by omega) (ps a) (hR.2.mono a j ha (by omega))
      rw [this]; rfl

theorem back_sub {k : Nat} (M : Nat → Nat → Rat) (hz : ∀ a b, b < a → a < k → M a b = 0) (hd : ∀ a, a < k → M a a ≠ 0) (y : Nat → Rat) : ∀ j, j ≤ k → ∃ x : Nat → Rat, ∀ a, k - j ≤ a → a < k → y a = sumQ k fun l => x l * M a l
  | 0, _ => ⟨fun _ => 0, fun a h1 h2 => by omega⟩
  | j + 1, hj => by
    obtain ⟨x, hx⟩ := back_sub M hz hd y j (by omega)
    obtain ⟨r, hr⟩ : ∃ r, r = k - (j + 1) := ⟨_, rfl⟩
    obtain ⟨q, hq⟩ : ∃ q, q = (y r - sumQ k fun l => if l = r then 0 else x l * M r l) / M r r := ⟨_, rfl⟩
    refine ⟨fun l => if l = r then q else x l, fun a h1 h2 => ?_⟩
    by_cases har : a = r
    · rw [har]
      have hf : (sumQ k fun l => (if l = r then q else x l) * M r l) = sumQ k fun l => (if l = r then 0 else x l * M r l) + if l = r then q * M r r else 0 := by
        refine sumQ_congr fun l _ => ?_
        by_cases hl : l = r
        · rw [if_pos hl, if_pos hl, if_pos hl, hl]; grind
        · rw [if_neg hl, if_neg hl, if_neg hl]; grind
      rw [hf, sumQ_add, sumQ_one (k := r) (by omega) (fun i _ hi => if_neg hi), if_pos rfl, hq]
      have := hd r (by omega)
      rw [Rat.div_mul_cancel this]; grind
    · rw [hx a (by omega) h2]
      refine sumQ_congr fun l _ => ?_
      show x l * M a l = (if l = r then q else x l) * M a l
      by_cases hl : l = r
      · rw [if_pos hl, hl, hz a r (by omega) h2]; grind
      · rw [if_neg hl]
end Go.Proofs.YtjihfabhgcfjnaaGreatDoor
/- The elements of the Hermite form of small rows are bounded. No program is named here. -/
namespace Go.Proofs.YtjihfabhgcfjnaaGreatDoor
set_option linter.unusedVariables false
set_option linter.unusedSimpArgs false

theorem clo_zero : Clo fun x => x = 0 := ⟨rfl, fun x y q h h' => by rw [h, h']; grind⟩
theorem clo_mul (d : Rat) : Clo fun x => ∃ t : Int, x = (t : Rat) * d := ⟨⟨0, by grind⟩, fun x y q ⟨t, h⟩ ⟨u, h'⟩ => ⟨t - q * u, by rw [h, h', Rat.intCast_sub, Rat.intCast_mul]; grind⟩⟩
/-- Some rows of a matrix have a minor that is not 0, at the pivots of its form. -/
theorem some_minor {n : Nat} {m R : List (List Int)} {ps : Nat → Nat} (hR : HForm n R ps) (hw : Wid n m) (hs : SpEq n (RowsFrom 0 m) (RowsFrom 0 R)) : ∃ V : Nat → List Int, (∀ a, a < R.length → RowsFrom 0 m (V a)) ∧ phi R.length ps V ≠ 0 := by
  refine Classical.byContradiction fun hno => ?_
  have hall : ∀ V : Nat → List Int, (∀ a, a < R.length → RowsFrom 0 m (V a)) → phi R.length ps V = 0 := fun V hV => Classical.byContradiction fun h => hno ⟨V, hV, h⟩
  have h0 : phi R.length ps (rowE_ R) = 0 := alt_all (Q := fun x => x = 0) (phi_alt n R.length ps) clo_zero (rowsFrom_len hw) hall R.length (Nat.le_refl _) (rowE_ R) (fun a ha => hs.2 _ (rowsFrom_mem (Nat.zero_le _) ha)) fun a h1 h2 => by omega
  rw [phi_piv hR _ (Nat.le_refl _)] at h0
  have hp := (prodP_pos hR _ (Nat.le_refl R.length)).1
  have : prodP R ps R.length = 0 := by exact_mod_cast h0
  omega
/-- No minor of a form is greater than those of the rows. -/
theorem minor_le_of {n N : Nat} {m R : List (List Int)} {ps : Nat → Nat} (hR : HForm n R ps) (hN : ∀ i, i < m.length → RowLe N (rowE_ m i)) (hs1 : ∀ r, RowsFrom 0 m r → Sp n (RowsFrom 0 R) r) (hV : ∃ V : Nat → List Int, (∀ a, a < R.length → RowsFrom 0 m (V a)) ∧ phi R.length ps V ≠ 0) (S : Nat → Nat) : ∃ z : Int, phi R.length S (rowE_ R) = (z : Rat) ∧ z.natAbs ≤ facN N R.length := by
  obtain ⟨V, hV, hne⟩ := hV
  have hVR : ∀ a, a < R.length → Sp n (RowsFrom 0 R) (V a) := fun a ha => hs1 _ (hV a ha)
  have hP := phi_piv hR _ (Nat.le_refl R.length)
  have hp := (prodP_pos hR _ (Nat.le_refl R.length)).1
  have hP0 : phi R.length ps (rowE_ R) ≠ 0 := by
    rw [hP]; intro h
    have : prodP R ps R.length = 0 := by exact_mod_cast h
    omega
  obtain ⟨t, ht⟩ := alt_sp (Q := fun x => ∃ t : Int, x = (t : Rat) * phi R.length ps (rowE_ R)) (phi_alt n R.length ps) (clo_mul _) hR.1 ⟨1, by grind⟩ V hVR
  have hc := alt_sp (Q := fun x => x = 0) (comb_alt (phi_alt n R.length S) (phi_alt n R.length ps) (phi R.length ps (rowE_ R)) (phi R.length S (rowE_ R))) clo_zero hR.1 (by grind) V hVR
  rw [ht] at hc
  have ht0 : t ≠ 0 := by
    intro h; rw [h] at ht
    exact hne (by rw [ht]; grind)
  have hcc : phi R.length S V = phi R.length S (rowE_ R) * (t : Rat) := by
    have h1 : phi R.length ps (rowE_ R) * (phi R.length S V - phi R.length S (rowE_ R) * (t : Rat)) = 0 := by grind
    rcases Rat.mul_eq_zero.1 h1 with h | h
    · exact absurd h hP0
    · grind
  have hB : ∀ (V : Nat → List Int) (N : Nat), (∀ a, a < R.length → RowLe N (V a)) → ∃ z : Int, phi R.length S V = (z : Rat) ∧ z.natAbs ≤ facN N R.length := fun V N h => det_int R.length (fun a b => (V a).getD (S b) 0) fun a b ha _ => (h a ha).getD _
  obtain ⟨z', h1, h2⟩ := hB V N fun a ha => by obtain ⟨i, -, hi, e⟩ := hV a ha; rw [← e]; exact hN i hi
  -- the form's minor is an integer
  obtain ⟨M, hM⟩ : ∃ M, ∀ a, a < R.length → RowLe M (rowE_ R a) := by
    have : ∀ k, ∃ M, ∀ a, a < k → RowLe M (rowE_ R a) := by
      intro k
      induction k with
      | zero => exact ⟨0, fun a ha => by omega⟩
      | succ k ih =>
        obtain ⟨M, hM⟩ := ih
        obtain ⟨L, hL⟩ : ∃ L, RowLe L (rowE_ R k) := by
          have : ∀ r : List Int, ∃ L, RowLe L r := by
            intro r
            induction r with
            | nil => exact ⟨0, fun x hx => by cases hx⟩
            | cons x r ih =>
              obtain ⟨L, hL⟩ := ih
              refine ⟨L + x.natAbs, fun y hy => ?_⟩
              rcases List.mem_cons.1 hy with rfl | hy
              · omega
              · have := hL y hy; omega
          exact this _
        refine ⟨M + L, fun a ha => ?_⟩
        by_cases hk : a = k
        · rw [hk]; exact hL.mono (by omega)
        · exact (hM a (by omega)).mono (by omega)
    exact this _
  obtain ⟨z, h3, -⟩ := hB (rowE_ R) M hM
  refine ⟨z, h3, ?_⟩
  rw [h1, h3] at hcc
  have hz : z' = z * t := by exact_mod_cast hcc
  rw [hz, Int.natAbs_mul] at h2
  exact Nat.le_trans (Nat.le_mul_of_pos_right _ (by omega)) h2

/-- The elements of the form are bounded. -/
theorem form_bound_of {n N : Nat} {m R : List (List Int)} {ps : Nat → Nat} (hR : HForm n R ps) (hN : ∀ i, i < m.length → RowLe N (rowE_ m i)) (hs1 : ∀ r, RowsFrom 0 m r → Sp n (RowsFrom 0 R) r) (hV : ∃ V : Nat → List Int, (∀ a, a < R.length → RowsFrom 0 m (V a)) ∧ phi R.length ps V ≠ 0) : ∀ i, i < R.length → RowLe (R.length * facN N R.length) (rowE_ R i) := by
  obtain ⟨k, hk⟩ : ∃ k, k = R.length := ⟨_, rfl⟩
  have hpp := prodP_pos hR _ (Nat.le_refl R.length)
  have hP := phi_piv hR _ (Nat.le_refl R.length)
  rw [← hk] at hpp hP
  have key : ∀ i c, i < R.length → (getE R i c).natAbs ≤ R.length * facN N R.length := by
    intro i c hi
    rw [← hk] at hi ⊢
    obtain ⟨x, hx⟩ := back_sub (k := k) (mnr ps (rowE_ R)) (fun a b hab ha => by
      have h : getE R a (ps b) = 0 := hR.2.zero a (by omega) (ps b) (hR.2.mono b a hab (by omega))
      show ((getE R a (ps b) : Int) : Rat) = 0
      rw [h]; rfl) (fun a ha h => by
      have h1 : ((getE R a (ps a) : Int) : Rat) = 0 := h
      have h2 : getE R a (ps a) = 0 := by exact_mod_cast h1
      have := hR.2.pos a (by omega); omega) (fun a => ((getE R a c : Int) : Rat)) k (Nat.le_refl _)
    -- Cramer
    have hcr : ∀ r, r < k → phi k (fun b => if b = r then c else ps b) (rowE_ R) = x r * (prodP R ps k : Rat) := by
      intro r hr
      rw [← hP]
      have e1 : phi k (fun b => if b = r then c else ps b) (rowE_ R) = detF k (fun a b => if b = r then (0 : Rat) + sumQ k (fun l => x l * mnr ps (rowE_ R) a l) else mnr ps (rowE_ R) a b) := by
        unfold phi
        refine detF_congr fun a b ha hb => ?_
        by_cases hbr : b = r
        · rw [if_pos hbr, ← hx a (by omega) ha]
          show (((rowE_ R a).getD (if b = r then c else ps b) 0 : Int) : Rat) = _
          rw [if_pos hbr]; show ((getE R a c : Int) : Rat) = _; grind
        · rw [if_neg hbr]
          show (((rowE_ R a).getD (if b = r then c else ps b) 0 : Int) : Rat) = _
          rw [if_neg hbr]; rfl
      rw [e1, detF_col_sum (mnr ps (rowE_ R)) hr (fun _ => 0) k x (fun l a => mnr ps (rowE_ R) a l)]
      have e2 : detF k (fun a b => if b = r then (0 : Rat) else mnr ps (rowE_ R) a b) = 0 := by
        rw [← detF_tr]
        exact detF_zero_row (r := r) hr fun b _ => if_pos rfl
      rw [e2, sumQ_one (k := r) hr fun l hl hne => ?_]
      · have e3 : detF k (fun a b => if b = r then mnr ps (rowE_ R) a r else mnr ps (rowE_ R) a b) = phi k ps (rowE_ R) := by
          unfold phi
          refine detF_congr fun a b _ _ => ?_
          by_cases hbr : b = r
          · rw [if_pos hbr, hbr]
          · rw [if_neg hbr]
        rw [e3]; grind
      · have e4 : detF k (fun a b => if b = r then mnr ps (rowE_ R) a l else mnr ps (rowE_ R) a b) = 0 :=
          detF_col_eq hr hl (fun h => hne h.symm) fun b _ => by rw [if_pos rfl, if_neg hne]
        rw [e4]; grind
    -- the product of the pivots, times the element
    have hsum : ((prodP R ps k : Int) : Rat) * ((getE R i c : Int) : Rat) = sumQ k fun l => phi k (fun b => if b = l then c else ps b) (rowE_ R) * mnr ps (rowE_ R) i l := by
      have hxi : ((getE R i c : Int) : Rat) = sumQ k fun l => x l * mnr ps (rowE_ R) i l := hx i (by omega) hi
      rw [hxi, ← sumQ_mul]
      refine sumQ_congr fun l hl => ?_
      rw [hcr l hl]; grind
    obtain ⟨z, hz1, hz2⟩ := sum_int (n := k) (B := facN N k * (prodP R ps k).natAbs) (f := fun l => phi k (fun b => if b = l then c else ps b) (rowE_ R) * mnr ps (rowE_ R) i l) fun l hl => by
      obtain ⟨y, hy1, hy2⟩ := minor_le_of hR hN hs1 hV (fun b => if b = l then c else ps b)
      rw [← hk] at hy1 hy2
      refine ⟨y * getE R i (ps l), ?_, ?_⟩
      · rw [hy1, Rat.intCast_mul]; rfl
      · rw [Int.natAbs_mul]
        refine Nat.mul_le_mul hy2 ?_
        have h5 := hpp.2 l hl
        have h6 := hR.2.pos l (by omega)
        have h7 : (getE R i (ps l)).natAbs ≤ (getE R l (ps l)).natAbs := by
          rcases Nat.lt_trichotomy i l with h | h | h
          · have := hR.2.red i l h (by omega); omega
          · rw [h]; exact Nat.le_refl _
          · rw [hR.2.zero i (by omega) (ps l) (hR.2.mono l i h (by omega))]; simp
        omega
    rw [hz1] at hsum
    have he : prodP R ps k * getE R i c = z := by exact_mod_cast hsum
    rw [← he, Int.natAbs_mul, ← Nat.mul_assoc, Nat.mul_comm] at hz2
    exact Nat.le_of_mul_le_mul_right hz2 (by omega)
  intro i hi y hy
  obtain ⟨c, hc⟩ := List.getElem?_of_mem hy
  have := key i c hi
  unfold getE at this
  rw [List.getD_eq_getElem?_getD, hc] at this
  exact this
theorem form_bound {n N : Nat} {m R : List (List Int)} {ps : Nat → Nat} (hR : HForm n R ps) (hw : Wid n m) (hN : ∀ i, i < m.length → RowLe N (rowE_ m i)) (hs : SpEq n (RowsFrom 0 m) (RowsFrom 0 R)) : ∀ i, i < R.length → RowLe (R.length * facN N R.length) (rowE_ R i) :=
  form_bound_of hR hN hs.1 (some_minor hR hw hs)
end Go.Proofs.YtjihfabhgcfjnaaGreatDoor
/- slices.EqualFunc at api.Matrix; row.Equal. -/
namespace Go.Proofs.YtjihfabhgcfjnaaGreatDoor
set_option linter.unusedVariables false
set_option linter.unusedSimpArgs false
open Go.RowKit

/-- The lengths are equal and p holds of each pair. -/
def eqBy {α : Type} (p : α → α → Bool) (xs ys : List α) : Bool := decide (xs.length = ys.length) && (xs.zip ys).all fun z => p z.1 z.2
theorem eqBy_cons {α : Type} (p : α → α → Bool) (x y : α) (xs ys : List α) : eqBy p (x :: xs) (y :: ys) = (p x y && eqBy p xs ys) := by
  simp only [eqBy, List.length_cons, List.zip_cons_cons, List.all_cons, Nat.add_right_cancel_iff]
  cases p x y <;> simp
theorem eqBy_beq {α : Type} [BEq α] [LawfulBEq α] : ∀ xs ys : List α, eqBy (· == ·) xs ys = (xs == ys)
  | [], [] => rfl
  | [], y :: ys => by simp [eqBy]
  | x :: xs, [] => by simp [eqBy]
  | x :: xs, y :: ys => by rw [eqBy_cons, eqBy_beq xs ys]; rfl


set_option maxRecDepth 100000 in
set_option maxHeartbeats 1000000 in
/-- slices.EqualFunc: the lengths are equal and p holds of each pair. -/
theorem equalFuncMat_any {α : Type} {R : World → Value → α → Prop} (hR : ∀ w w' v x, Ext w w' → R w v x → R w' v x) (xs ys : List α) (u v : Value) (g : Nat) (lb : Array Value) (p : α → α → Bool) (w : World) (h : ListAt 1 (inCell R) w u xs) (k : ListAt 1 (inCell R) w v ys)
    (eg : ∀ args w, (callFunc g args).run Tryz.prog w = .ok (.enter g args) w) (hp : ∀ W x y a b, x ∈ xs → y ∈ ys → Ext w W → R W a x → R W b y → Calls Tryz.prog g (#[a, b] ++ lb) W fun e W' => e = .returned (.bool (p x y)) ∧ Ext W W') :
    Calls Tryz.prog 177 #[u, v, .func (.func g) #[] lb] w fun e w' => e = .returned (.bool (eqBy p xs ys)) ∧ Ext w w' := by
  obtain ⟨a, c, rfl, h1, h2, -, hc⟩ := inCell.open h
  obtain ⟨a', c', rfl, k1, k2, -, kc⟩ := inCell.open k
  have HC := Lib.hid hc; have KC := Lib.hid kc; have HP := Lib.hid hp; have HR := Lib.hid hR
  clear hc kc h k hp hR
  unfold maxLen at h2 k2
  by_cases hl : xs.length = ys.length
  · have hn : ((xs.length : Int) != (ys.length : Int)) = false := by simp [hl]
    have hle1 : xs.length ≤ ys.length := by omega
    have hle2 : ys.length ≤ xs.length := by omega
    have HL := Lib.hid hl
    clear hl
    go_enter Tryz.func177, Tryz.ntmps177
    go_wp2
    go_loopw [17] (fun t wr => ∃ j : Nat, j ≤ xs.length ∧ t = .int .i64 j ∧ Ext w wr ∧ Hid (eqBy p (xs.drop j) (ys.drop j) = eqBy p xs ys)) (fun t _ => xs.length - (intOf t).toNat)
    case atStart => exact ⟨0, by omega, rfl, Ext.refl _, rfl⟩
    case round =>
      obtain ⟨j, hj, rfl, hE, HT⟩ := hrel
      obtain ⟨wo, rfl⟩ : ∃ wo : World, wo = wr := ⟨_, rfl⟩
      by_cases hlt : j < xs.length
      · obtain ⟨b, off, rfl, hb, hcell⟩ := HC.out (by intro e; simp [e] at hlt)
        obtain ⟨b', off', rfl, hb', hcell'⟩ := KC.out (by intro e; simp [e] at hle1; simp [hle1] at hlt)
        obtain ⟨x, hx⟩ : ∃ x, xs[j]? = some x := ⟨xs[j], List.getElem?_eq_getElem hlt⟩
        obtain ⟨y, hy⟩ : ∃ y, ys[j]? = some y := ⟨ys[j]'(by omega), List.getElem?_eq_getElem _⟩
        obtain ⟨vx, hvx, hcx⟩ := hcell j x hx
        obtain ⟨vy, hvy, hcy⟩ := hcell' j y hy
        have g1 := hE.cell hcx
        have g2 := hE.cell hcy
        have q1 : (j : Int) < (xs.length : Int) := by omega
        have q2 : (j : Int) < (ys.length : Int) := by omega
        have hcall := HP.out wo x y vx vy (List.mem_of_getElem? hx) (List.mem_of_getElem? hy) hE (HR.out _ _ _ _ hE hvx) (HR.out _ _ _ _ hE hvy)
        have hd : eqBy p (xs.drop j) (ys.drop j) = (p x y && eqBy p (xs.drop (j + 1)) (ys.drop (j + 1))) := by
          obtain ⟨hj1, rfl⟩ := List.getElem?_eq_some_iff.1 hx
          obtain ⟨hj2, rfl⟩ := List.getElem?_eq_some_iff.1 hy
          rw [List.drop_eq_getElem_cons hj1, List.drop_eq_getElem_cons hj2, eqBy_cons]
        cases hq : p x y with
        | true =>
          rw [hq] at hcall hd
          rw [Bool.true_and] at hd
          have HT' : Hid (eqBy p (xs.drop (j + 1)) (ys.drop (j + 1)) = eqBy p xs ys) := hd.symm.trans HT.out
          have HCALL := Lib.hid hcall
          clear hcall hq hd hvx hvy hx hy hcell hcell' hcx hcy
          go_wp2_with (go_at_fn g; refine HCALL.out.mono ?_; rintro e w' ⟨rfl, hE'⟩)
          go_roundw
          case rel => exact ⟨j + 1, by omega, by go_num, hE.trans (by assumption), HT'⟩
          case measure => simp [intOf]; omega
        | false =>
          rw [hq] at hcall hd
          rw [Bool.false_and] at hd
          have HF : Hid (eqBy p xs ys = false) := HT.out.symm.trans hd
          have HCALL := Lib.hid hcall
          clear hcall hq hd hvx hvy hx hy hcell hcell' hcx hcy
          go_wp2_with (go_at_fn g; refine HCALL.out.mono ?_; rintro e w' ⟨rfl, hE'⟩)
          go_ret
          rw [HF.out]
          exact ⟨rfl, hE.trans (by assumption)⟩
      · have hge : xs.length ≤ j := by omega
        have HTr : Hid (eqBy p xs ys = true) := by
          unfold Hid
          rw [← HT.out, List.drop_of_length_le (by omega), List.drop_of_length_le (by omega)]
          rfl
        go_wp2
        go_ret
        rw [HTr.out]
        exact ⟨rfl, hE⟩
  · have hn : ((xs.length : Int) != (ys.length : Int)) = true := by simp; omega
    have HF : Hid (eqBy p xs ys = false) := by
      unfold Hid eqBy
      simp [hl]
    clear hl
    go_enter Tryz.func177, Tryz.ntmps177
    go_wp2
    go_ret
    rw [HF.out]
    exact ⟨rfl, Ext.refl _⟩



set_option maxRecDepth 100000 in
theorem rowEqual_any (xs ys : List Int) (u v : Value) (w : World) (h : Ints w u xs) (k : Ints w v ys) :
    Calls Tryz.prog 12 #[u, v] w fun e w' => e = .returned (.bool (xs == ys)) ∧ Ext w w' := by
  have HE := Lib.hid (equalRow_any xs ys u v w h k)
  clear h k
  go_enter Tryz.func12, Tryz.ntmps12
  go_wp2_with fail
  refine HE.out.mono ?_
  rintro e w1 ⟨rfl, hE1⟩
  have HE1 := Lib.hid hE1
  clear hE1
  go_wp2_with fail
  go_ret
  exact ⟨rfl, HE1.out⟩
end Go.Proofs.YtjihfabhgcfjnaaGreatDoor
