/- Merged: DetL, RedL, RedB, RankP. -/
import Derived.Test.YtpeinobepiodaaaGreatDoorGG
import Derived.Test.YtpeinobepiodaaaGreatDoorGJ
/- Determinants of matrices of rationals, as functions of two places, by the first column. No program is named here. -/
namespace Go.Proofs.YtpeinobepiodaaaGreatDoor
set_option linter.unusedVariables false
set_option linter.unusedSimpArgs false

/-- The places but one. -/
def sk (i a : Nat) : Nat := if a < i then a else a + 1
def sumQ : Nat → (Nat → Rat) → Rat
  | 0, _ => 0
  | n + 1, f => sumQ n f + f n
def sgnQ (i : Nat) : Rat := if i % 2 = 0 then 1 else -1
def detF : Nat → (Nat → Nat → Rat) → Rat
  | 0, _ => 1
  | n + 1, M => sumQ (n + 1) fun i => sgnQ i * M i 0 * detF n fun a b => M (sk i a) (b + 1)
theorem sumQ_congr {n : Nat} {f g : Nat → Rat} (h : ∀ i, i < n → f i = g i) : sumQ n f = sumQ n g := by
  induction n with
  | zero => rfl
  | succ n ih => show sumQ n f + f n = sumQ n g + g n; rw [ih (fun i hi => h i (by omega)), h n (by omega)]
theorem sumQ_zero (n : Nat) : sumQ n (fun _ => 0) = 0 := by
  induction n with
  | zero => rfl
  | succ n ih => show sumQ n _ + 0 = 0; rw [ih]; grind
theorem sumQ_add (n : Nat) (f g : Nat → Rat) : sumQ n (fun i => f i + g i) = sumQ n f + sumQ n g := by
  induction n with
  | zero => show (0 : Rat) = 0 + 0; grind
  | succ n ih => show sumQ n _ + (f n + g n) = (sumQ n f + f n) + (sumQ n g + g n); rw [ih]; grind
theorem sumQ_mul (n : Nat) (c : Rat) (f : Nat → Rat) : sumQ n (fun i => c * f i) = c * sumQ n f := by
  induction n with
  | zero => show (0 : Rat) = c * 0; grind
  | succ n ih => show sumQ n _ + c * f n = c * (sumQ n f + f n); rw [ih]; grind
theorem sumQ_neg (n : Nat) (f : Nat → Rat) : sumQ n (fun i => - f i) = - sumQ n f := by
  have := sumQ_mul n (-1) f
  rw [show (-1 : Rat) * sumQ n f = - sumQ n f by grind] at this
  rw [← this]
  exact sumQ_congr fun i _ => by grind
theorem sumQ_comm (n m : Nat) (f : Nat → Nat → Rat) : sumQ n (fun i => sumQ m (fun j => f i j)) = sumQ m (fun j => sumQ n (fun i => f i j)) := by
  induction n with
  | zero => show (0 : Rat) = sumQ m (fun _ => 0); rw [sumQ_zero]
  | succ n ih =>
    show sumQ n _ + sumQ m (fun j => f n j) = sumQ m (fun j => sumQ n (fun i => f i j) + f n j)
    rw [ih, sumQ_add]
/-- The first one apart. -/
theorem sumQ_head (n : Nat) (f : Nat → Rat) : sumQ (n + 1) f = f 0 + sumQ n (fun i => f (i + 1)) := by
  induction n with
  | zero => show (0 : Rat) + f 0 = f 0 + 0; grind
  | succ n ih =>
    show sumQ (n + 1) f + f (n + 1) = f 0 + (sumQ n (fun i => f (i + 1)) + f (n + 1))
    rw [ih]; grind
/-- One alone. -/
theorem sumQ_one {n k : Nat} {f : Nat → Rat} (hk : k < n) (h : ∀ i, i < n → i ≠ k → f i = 0) : sumQ n f = f k := by
  induction n with
  | zero => omega
  | succ n ih =>
    show sumQ n f + f n = f k
    by_cases e : k = n
    · subst e
      have : sumQ k f = sumQ k (fun _ => 0) := sumQ_congr fun i hi => h i (by omega) (by omega)
      rw [this, sumQ_zero]; grind
    · rw [ih (by omega) (fun i hi hn => h i (by omega) hn), h n (by omega) (by omega)]; grind
/-- Two neighbours exchanged. -/
def trI (r i : Nat) : Nat := if i = r then r + 1 else if i = r + 1 then r else i
theorem sumQ_tr {n r : Nat} (hr : r + 1 < n) (f : Nat → Rat) : sumQ n (fun i => f (trI r i)) = sumQ n f := by
  induction n with
  | zero => omega
  | succ n ih =>
    show sumQ n _ + f (trI r n) = sumQ n f + f n
    by_cases e : r + 1 = n
    · subst e
      show (sumQ r _ + f (trI r r)) + f (trI r (r + 1)) = (sumQ r f + f r) + f (r + 1)
      have h1 : sumQ r (fun i => f (trI r i)) = sumQ r f := sumQ_congr fun i hi => by unfold trI; rw [if_neg (by omega), if_neg (by omega)]
      have h2 : trI r r = r + 1 := by unfold trI; rw [if_pos rfl]
      have h3 : trI r (r + 1) = r := by unfold trI; rw [if_neg (by omega), if_pos rfl]
      rw [h1, h2, h3]; grind
    · have h1 : trI r n = n := by unfold trI; rw [if_neg (by omega), if_neg (by omega)]
      rw [ih (by omega), h1]
theorem sgnQ_succ (i : Nat) : sgnQ (i + 1) = - sgnQ i := by
  unfold sgnQ
  by_cases h : i % 2 = 0
  · rw [if_pos h, if_neg (by omega)]
  · rw [if_neg h, if_pos (by omega)]; grind

theorem detF_congr {n : Nat} {M N : Nat → Nat → Rat} (h : ∀ a b, a < n → b < n → M a b = N a b) : detF n M = detF n N := by
  induction n generalizing M N with
  | zero => rfl
  | succ n ih =>
    show sumQ (n + 1) _ = sumQ (n + 1) _
    refine sumQ_congr fun i hi => ?_
    rw [h i 0 hi (by omega), ih (M := fun a b => M (sk i a) (b + 1)) (N := fun a b => N (sk i a) (b + 1)) (fun a b ha hb => h _ _ (by unfold sk; split <;> omega) (by omega))]
/-- A row exchanged. -/
def updR (M : Nat → Nat → Rat) (r : Nat) (u : Nat → Rat) : Nat → Nat → Rat := fun a b => if a = r then u b else M a b
theorem updR_self (M : Nat → Nat → Rat) (r : Nat) : updR M r (M r) = M := by
  funext a b; unfold updR; split
  · rename_i h; rw [h]
  · rfl
theorem updR_sk_same (M : Nat → Nat → Rat) (r : Nat) (u : Nat → Rat) : (fun a b => updR M r u (sk r a) (b + 1)) = fun a b => M (sk r a) (b + 1) := by
  funext a b; unfold updR sk; rw [if_neg (by split <;> omega)]
theorem updR_sk {M : Nat → Nat → Rat} {r i : Nat} (u : Nat → Rat) (h : i ≠ r) : (fun a b => updR M r u (sk i a) (b + 1)) = updR (fun a b => M (sk i a) (b + 1)) (if r < i then r else r - 1) (fun b => u (b + 1)) := by
  funext a b; unfold updR sk
  show (if (if a < i then a else a + 1) = r then u (b + 1) else M (if a < i then a else a + 1) (b + 1)) = if a = (if r < i then r else r - 1) then u (b + 1) else M (if a < i then a else a + 1) (b + 1)
  have : ((if a < i then a else a + 1) = r) = (a = (if r < i then r else r - 1)) := by
    apply propext
    by_cases h1 : r < i <;> by_cases h2 : a < i <;> simp only [h1, h2, if_true, if_false] <;> omega
  simp only [this]
theorem detF_row {n : Nat} (M : Nat → Nat → Rat) {r : Nat} (hr : r < n) (u v : Nat → Rat) (c : Rat) :
    detF n (updR M r fun b => u b + c * v b) = detF n (updR M r u) + c * detF n (updR M r v) := by
  induction n generalizing M r u v with
  | zero => omega
  | succ n ih =>
    show sumQ (n + 1) _ = sumQ (n + 1) _ + c * sumQ (n + 1) _
    rw [← sumQ_mul, ← sumQ_add]
    refine sumQ_congr fun i hi => ?_
    by_cases e : i = r
    · subst e
      simp only [updR_sk_same]
      have h : ∀ u, updR M i u i 0 = u 0 := fun u => by unfold updR; rw [if_pos rfl]
      rw [h, h, h]; grind
    · have h : ∀ u, updR M r u i 0 = M i 0 := fun u => by unfold updR; rw [if_neg e]
      rw [h, h, h, updR_sk _ e, updR_sk _ e, updR_sk _ e, ih _ (by split <;> omega)]
      grind
theorem detF_adj {n : Nat} (M : Nat → Nat → Rat) {r : Nat} (hr : r + 1 < n) : detF n (fun a b => M (trI r a) b) = - detF n M := by
  induction n generalizing M r with
  | zero => omega
  | succ n ih =>
    show sumQ (n + 1) _ = - sumQ (n + 1) _
    rw [← sumQ_tr hr, ← sumQ_neg]
    refine sumQ_congr fun i hi => ?_
    have hrr : trI r (trI r i) = i := by unfold trI; repeat' split <;> try omega
    show sgnQ (trI r i) * M (trI r (trI r i)) 0 * detF n (fun a b => M (trI r (sk (trI r i) a)) (b + 1)) = -(sgnQ i * M i 0 * detF n fun a b => M (sk i a) (b + 1))
    rw [hrr]
    by_cases e1 : i = r
    · subst e1
      have h1 : trI i i = i + 1 := by unfold trI; rw [if_pos rfl]
      rw [h1, sgnQ_succ]
      have : (fun a b => M (trI i (sk (i + 1) a)) (b + 1)) = fun a b => M (sk i a) (b + 1) := by
        funext a b; congr 1; unfold trI sk; repeat' split <;> try omega
      rw [this]; grind
    · by_cases e2 : i = r + 1
      · subst e2
        have h1 : trI r (r + 1) = r := by unfold trI; rw [if_neg (by omega), if_pos rfl]
        rw [h1, sgnQ_succ]
        have : (fun a b => M (trI r (sk r a)) (b + 1)) = fun a b => M (sk (r + 1) a) (b + 1) := by
          funext a b; congr 1; unfold trI sk; repeat' split <;> try omega
        rw [this]; grind
      · have h1 : trI r i = i := by unfold trI; rw [if_neg e1, if_neg e2]
        rw [h1]
        have : (fun a b => M (trI r (sk i a)) (b + 1)) = fun a b => (fun a b => M (sk i a) (b + 1)) (trI (if r < i then r else r - 1) a) b := by
          funext a b; congr 1; unfold trI sk; repeat' split <;> try omega
        rw [this]
        have e := ih (fun a b => M (sk i a) (b + 1)) (r := if r < i then r else r - 1) (by split <;> omega)
        rw [e]
        grind
/-- Any two rows exchanged. -/
def trJ (i j a : Nat) : Nat := if a = i then j else if a = j then i else a
theorem detF_swap {n : Nat} (M : Nat → Nat → Rat) {i j : Nat} (hij : i < j) (hj : j < n) : detF n (fun a b => M (trJ i j a) b) = - detF n M := by
  obtain ⟨d, rfl⟩ : ∃ d, j = i + 1 + d := ⟨j - i - 1, by omega⟩
  clear hij
  induction d generalizing M with
  | zero =>
    have : (fun a b => M (trJ i (i + 1 + 0) a) b) = fun a b => M (trI i a) b := by
      funext a b; congr 1
    rw [this]; exact detF_adj M hj
  | succ d ih =>
    have : (fun a b => M (trJ i (i + 1 + (d + 1)) a) b) = fun a b => (fun a b => (fun a b => M (trI (i + 1 + d) a) b) (trJ i (i + 1 + d) a) b) (trI (i + 1 + d) a) b := by
      funext a b; congr 1; unfold trJ trI; repeat' split <;> try omega
    rw [this]
    have e1 := detF_adj (n := n) (fun a b => (fun a b => M (trI (i + 1 + d) a) b) (trJ i (i + 1 + d) a) b) (r := i + 1 + d) (by omega)
    have e2 := ih (fun a b => M (trI (i + 1 + d) a) b) (by omega)
    have e3 := detF_adj (n := n) M (r := i + 1 + d) (by omega)
    rw [e1, e2, e3]
    grind
theorem rat_neg_self {x : Rat} (h : x = -x) : x = 0 := by
  have : x + x = 0 := by rw [show x + x = x - (-x) by grind, ← h]; grind
  have : 2 * x = 0 := by grind
  grind
theorem detF_eq {n : Nat} {M : Nat → Nat → Rat} {i j : Nat} (hi : i < n) (hj : j < n) (hne : i ≠ j) (h : ∀ b, b < n → M i b = M j b) : detF n M = 0 := by
  have key : ∀ i j, i < j → j < n → (∀ b, b < n → M i b = M j b) → detF n M = 0 := by
    intro i j hij hj h
    have h1 := detF_swap M hij hj
    have h2 : detF n (fun a b => M (trJ i j a) b) = detF n M := detF_congr fun a b ha hb => by
      unfold trJ
      split
      · rename_i e; rw [e, h b hb]
      · split
        · rename_i e; rw [e, h b hb]
        · rfl
    rw [h2] at h1
    exact rat_neg_self h1
  rcases Nat.lt_or_gt_of_ne hne with e | e
  · exact key i j e hj h
  · exact key j i e hi (fun b hb => (h b hb).symm)
/-- A row of zeros. -/
theorem detF_zero_row {n : Nat} {M : Nat → Nat → Rat} {r : Nat} (hr : r < n) (h : ∀ b, b < n → M r b = 0) : detF n M = 0 := by
  have h1 := detF_row M hr (fun _ => 0) (fun _ => 0) (-1)
  have h2 : detF n (updR M r fun _ => 0) = detF n M := detF_congr fun a b ha hb => by
    unfold updR; split
    · rename_i e; rw [e, h b hb]
    · rfl
  rw [show (fun b : Nat => (0 : Rat) + -1 * 0) = fun _ => 0 by funext b; grind, h2] at h1
  grind
theorem detF_scale {n : Nat} (M : Nat → Nat → Rat) {r : Nat} (hr : r < n) (c : Rat) : detF n (updR M r fun b => c * M r b) = c * detF n M := by
  have h1 := detF_row M hr (fun _ => 0) (M r) c
  rw [updR_self, detF_zero_row (M := updR M r fun _ => 0) hr (fun b _ => by unfold updR; rw [if_pos rfl])] at h1
  rw [show (fun b => c * M r b) = fun b => (0 : Rat) + c * M r b by funext b; grind, h1]; grind
/-- A multiple of another row added. -/
theorem detF_addmul {n : Nat} (M : Nat → Nat → Rat) {r s : Nat} (hr : r < n) (hs : s < n) (hne : r ≠ s) (c : Rat) : detF n (updR M r fun b => M r b + c * M s b) = detF n M := by
  rw [detF_row M hr (M r) (M s) c, updR_self, detF_eq (M := updR M r (M s)) hr hs hne (fun b _ => by unfold updR; rw [if_pos rfl, if_neg (by omega)])]
  grind

/-! ## By the first row; the transposed matrix -/
def detG : Nat → (Nat → Nat → Rat) → Rat
  | 0, _ => 1
  | n + 1, M => sumQ (n + 1) fun j => sgnQ j * M 0 j * detG n fun a b => M (a + 1) (sk j b)
theorem detG_tr (n : Nat) (M : Nat → Nat → Rat) : detG n M = detF n fun a b => M b a := by
  induction n generalizing M with
  | zero => rfl
  | succ n ih =>
    show sumQ (n + 1) _ = sumQ (n + 1) _
    refine sumQ_congr fun i hi => ?_
    rw [ih]
theorem sk_zero (a : Nat) : sk 0 a = a + 1 := by unfold sk; rw [if_neg (by omega)]
theorem sk_succ_zero (i : Nat) : sk (i + 1) 0 = 0 := by unfold sk; rw [if_pos (by omega)]
theorem sk_succ (i a : Nat) : sk (i + 1) (a + 1) = sk i a + 1 := by
  unfold sk; by_cases h : a < i
  · rw [if_pos h, if_pos (by omega)]
  · rw [if_neg h, if_neg (by omega)]
theorem detF_eq_detG : ∀ (n : Nat) (M : Nat → Nat → Rat), detF n M = detG n M ∧ detF (n + 1) M = detG (n + 1) M
  | 0, M => ⟨rfl, rfl⟩
  | n + 1, M => by
    refine ⟨(detF_eq_detG n M).2, ?_⟩
    have h1 : detF (n + 2) M = sgnQ 0 * M 0 0 * detF (n + 1) (fun a b => M (a + 1) (b + 1)) + sumQ (n + 1) fun i => sumQ (n + 1) fun j => sgnQ (i + 1) * M (i + 1) 0 * (sgnQ j * M 0 (j + 1) * detF n (fun a b => M (sk i a + 1) (sk j b + 1))) := by
      show sumQ (n + 2) _ = _
      rw [sumQ_head]
      congr 1
      refine sumQ_congr fun i hi => ?_
      rw [sumQ_mul]
      congr 1
      rw [(detF_eq_detG n _).2]
      show sumQ (n + 1) _ = sumQ (n + 1) _
      refine sumQ_congr fun j hj => ?_
      rw [← (detF_eq_detG n _).1]
      simp only [sk_succ, sk_succ_zero]
    have h2 : detG (n + 2) M = sgnQ 0 * M 0 0 * detG (n + 1) (fun a b => M (a + 1) (b + 1)) + sumQ (n + 1) fun j => sumQ (n + 1) fun i => sgnQ (j + 1) * M 0 (j + 1) * (sgnQ i * M (i + 1) 0 * detF n (fun a b => M (sk i a + 1) (sk j b + 1))) := by
      show sumQ (n + 2) _ = _
      rw [sumQ_head]
      congr 1
      refine sumQ_congr fun j hj => ?_
      rw [sumQ_mul]
      congr 1
      rw [← (detF_eq_detG n _).2]
      show sumQ (n + 1) _ = sumQ (n + 1) _
      refine sumQ_congr fun i hi => ?_
      simp only [sk_succ, sk_succ_zero]
    rw [h1, h2, ← (detF_eq_detG n _).2]
    congr 1
    rw [sumQ_comm]
    refine sumQ_congr fun j hj => sumQ_congr fun i hi => ?_
    rw [sgnQ_succ, sgnQ_succ]; grind
theorem detF_tr (n : Nat) (M : Nat → Nat → Rat) : detF n (fun a b => M b a) = detF n M := by
  rw [← detG_tr, (detF_eq_detG n M).1]
/-- A last column with one element, in the last row. -/
theorem detF_last {n : Nat} {M : Nat → Nat → Rat} (h : ∀ a, a < n → M a n = 0) : detF (n + 1) M = M n n * detF n M := by
  induction n generalizing M with
  | zero => show (0 : Rat) + sgnQ 0 * M 0 0 * 1 = M 0 0 * 1; unfold sgnQ; rw [if_pos rfl]; grind
  | succ n ih =>
    show sumQ (n + 1) _ + sgnQ (n + 1) * M (n + 1) 0 * detF (n + 1) (fun a b => M (sk (n + 1) a) (b + 1)) = M (n + 1) (n + 1) * sumQ (n + 1) _
    have h0 : detF (n + 1) (fun a b => M (sk (n + 1) a) (b + 1)) = 0 := by
      rw [← detF_tr]
      refine detF_zero_row (r := n) (by omega) fun b hb => ?_
      show M (sk (n + 1) b) (n + 1) = 0
      exact h _ (by unfold sk; rw [if_pos hb]; exact hb)
    rw [h0, ← sumQ_mul]
    rw [show ∀ x y : Rat, x + y * 0 = x by intros; grind]
    refine sumQ_congr fun i hi => ?_
    rw [ih (M := fun a b => M (sk i a) (b + 1)) (fun a ha => h _ (by unfold sk; split <;> omega))]
    have : sk i n = n + 1 := by unfold sk; rw [if_neg (by omega)]
    simp only [this]
    grind
/-- The determinant of the identity. -/
theorem detF_one (n : Nat) : detF n (fun a b => if a = b then 1 else 0) = 1 := by
  induction n with
  | zero => rfl
  | succ n ih =>
    rw [detF_last (fun a ha => if_neg (by omega)), ih]
    simp
/-- The columns as the rows. -/
theorem detF_col {n : Nat} (M : Nat → Nat → Rat) {r : Nat} (hr : r < n) (u v : Nat → Rat) (c : Rat) :
    detF n (fun a b => if b = r then u a + c * v a else M a b) = detF n (fun a b => if b = r then u a else M a b) + c * detF n (fun a b => if b = r then v a else M a b) := by
  have h := detF_row (fun a b => M b a) hr u v c
  rw [← detF_tr, ← detF_tr n (fun a b => if b = r then u a else M a b), ← detF_tr n (fun a b => if b = r then v a else M a b)]
  exact h
theorem detF_col_eq {n : Nat} {M : Nat → Nat → Rat} {i j : Nat} (hi : i < n) (hj : j < n) (hne : i ≠ j) (h : ∀ b, b < n → M b i = M b j) : detF n M = 0 := by
  rw [← detF_tr]; exact detF_eq hi hj hne h
/-- A column that is a sum of multiples of columns. -/
theorem detF_col_sum {n : Nat} (M : Nat → Nat → Rat) {r : Nat} (hr : r < n) (u : Nat → Rat) (m : Nat) (f : Nat → Rat) (v : Nat → Nat → Rat) :
    detF n (fun a b => if b = r then u a + sumQ m (fun l => f l * v l a) else M a b) = detF n (fun a b => if b = r then u a else M a b) + sumQ m (fun l => f l * detF n (fun a b => if b = r then v l a else M a b)) := by
  induction m with
  | zero =>
    show detF n (fun a b => if b = r then u a + 0 else M a b) = _ + (0 : Rat)
    rw [show (fun a b => if b = r then u a + 0 else M a b) = fun a b => if b = r then u a else M a b by funext a b; split <;> grind]
    grind
  | succ m ih =>
    show detF n (fun a b => if b = r then u a + (sumQ m (fun l => f l * v l a) + f m * v m a) else M a b) = _ + (sumQ m _ + f m * _)
    rw [show (fun a b => if b = r then u a + (sumQ m (fun l => f l * v l a) + f m * v m a) else M a b) = fun a b => if b = r then (u a + sumQ m (fun l => f l * v l a)) + f m * v m a else M a b by funext a b; split <;> grind]
    rw [detF_col M hr (fun a => u a + sumQ m (fun l => f l * v l a)) (v m) (f m), ih]
    grind
end Go.Proofs.YtpeinobepiodaaaGreatDoor
/- What the reduced form of rows of rationals says of the rows: span, minors, rank, determinant (plain). -/
namespace Go.Proofs.YtpeinobepiodaaaGreatDoor
set_option linter.unusedVariables false
set_option linter.unusedSimpArgs false

theorem rowQ_set {m : List (List Rat)} {k : Nat} (r : List Rat) (hk : k < m.length) (i : Nat) : rowQ (m.set k r) i = if i = k then r else rowQ m i := by
  unfold rowQ
  rw [List.getD_eq_getElem?_getD, List.getElem?_set]
  by_cases h : i = k
  · subst h; rw [if_pos rfl, if_pos rfl, if_pos hk]; rfl
  · rw [if_neg (by omega), if_neg h, List.getD_eq_getElem?_getD]
theorem divRow_el (r : List Rat) (q : Rat) (x : Nat) : (divRow r q).getD x 0 = r.getD x 0 / q := by
  unfold divRow
  rw [List.getD_eq_getElem?_getD, List.getD_eq_getElem?_getD, List.getElem?_map]
  cases r[x]? with
  | none => show (0 : Rat) = 0 / q; rw [Rat.div_def, Rat.zero_mul]
  | some y => rfl
theorem subRow_el {r s : List Rat} (f : Rat) (h : s.length = r.length) (x : Nat) : (subRow r s f).getD x 0 = r.getD x 0 - f * s.getD x 0 := by
  unfold subRow
  rw [List.getD_eq_getElem?_getD, List.getD_eq_getElem?_getD, List.getD_eq_getElem?_getD, List.getElem?_zipWith]
  by_cases hx : x < r.length
  · rw [List.getElem?_eq_getElem hx, List.getElem?_eq_getElem (by omega : x < s.length)]; rfl
  · rw [List.getElem?_eq_none (by omega : r.length ≤ x), List.getElem?_eq_none (by omega : s.length ≤ x)]
    show (0 : Rat) = 0 - f * 0
    grind
theorem elimR_el {p : List Rat} {c k i : Nat} {r : List Rat} (h : p.length = r.length) (x : Nat) : (elimR p c k i r).getD x 0 = if i = k then r.getD x 0 else r.getD x 0 - r.getD c 0 * p.getD x 0 := by
  unfold elimR
  by_cases hi : i = k
  · rw [if_pos (.inl hi), if_pos hi]
  · rw [if_neg hi]
    by_cases h0 : r.getD c 0 = 0
    · rw [if_pos (.inr h0), h0]; grind
    · rw [if_neg (by simp [hi]; exact h0), subRow_el _ h]
theorem elimTo_el {C : Nat} {m : List (List Rat)} {p : List Rat} {c k : Nat} (hR : Rect C m) (hp : p.length = C) (x : Nat) :
    ∀ j, j ≤ m.length → ∀ i, elQ (elimTo m p c k j) i x = if i < j ∧ i ≠ k then elQ m i x - elQ m i c * p.getD x 0 else elQ m i x
  | 0, _, i => by rw [if_neg (by omega)]; rfl
  | j + 1, hj, i => by
    have ih := elimTo_el (c := c) (k := k) hR hp x j (by omega) i
    show elQ ((elimTo m p c k j).set j (elimR p c k j (rowQ (elimTo m p c k j) j))) i x = _
    have hrow : rowQ (elimTo m p c k j) j = rowQ m j := by
      unfold rowQ
      rw [List.getD_eq_getElem?_getD, elimTo_get m p c k j j (Nat.le_refl _), ← List.getD_eq_getElem?_getD]
    have hl : p.length = (rowQ m j).length := by rw [hp]; exact (hR.get (get_rowQ (by omega))).symm
    unfold elQ at ih ⊢
    rw [rowQ_set _ (by rw [elimTo_len]; omega), hrow]
    by_cases e : i = j
    · subst e
      rw [if_pos rfl, elimR_el hl]
      by_cases h : i = k
      · rw [if_pos h, if_neg (by simp [h])]
      · rw [if_neg h, if_pos ⟨by omega, h⟩]
    · rw [if_neg e, ih]
      by_cases h : i < j ∧ i ≠ k
      · rw [if_pos h, if_pos ⟨by omega, h.2⟩]
      · rw [if_neg h, if_neg (by rintro ⟨h1, h2⟩; exact h ⟨by omega, h2⟩)]
theorem trJ_self (r i : Nat) : trJ r r i = i := by unfold trJ; repeat' split <;> try omega
/-- One column. -/
theorem stepR_el {C c : Nat} {s : RedSt} (hR : Rect C s.m) (hk : s.lead.length ≤ s.m.length) :
    (stepR c s = ⟨s.m, s.lead, 0⟩ ∧ ∀ i, s.lead.length ≤ i → elQ s.m i c = 0) ∨
    ∃ a, s.lead.length ≤ a ∧ a < s.m.length ∧ elQ s.m a c ≠ 0 ∧ (∀ j, s.lead.length ≤ j → j < a → elQ s.m j c = 0) ∧
      (stepR c s).lead = s.lead ++ [c] ∧ (stepR c s).m.length = s.m.length ∧ (stepR c s).det = (if a = s.lead.length then s.det else -s.det) * elQ s.m a c ∧
      ∀ i j, elQ (stepR c s).m i j = if i = s.lead.length then elQ s.m a j / elQ s.m a c else elQ s.m (trJ s.lead.length a i) j - elQ s.m (trJ s.lead.length a i) c * (elQ s.m a j / elQ s.m a c) := by
  obtain ⟨h1, h2, h3, h4⟩ := findP_spec s.m c (s.m.length - s.lead.length) s.lead.length
  unfold stepR
  simp only
  generalize ha : findP s.m c (s.m.length - s.lead.length) s.lead.length = a at *
  by_cases e : a = s.m.length
  · refine .inl ⟨by rw [if_pos e], fun i hi => ?_⟩
    by_cases hl : i < s.m.length
    · exact h3 i hi (by omega)
    · exact elQ_out (by omega)
  · rw [if_neg e]
    have hal : a < s.m.length := by omega
    have hne := h4 (by omega)
    refine .inr ⟨a, h1, hal, hne, h3, rfl, ?_⟩
    have hm1 : ∀ i j, elQ (if a = s.lead.length then s.m else swp s.m s.lead.length a) i j = elQ s.m (trJ s.lead.length a i) j := by
      intro i j
      by_cases hr : a = s.lead.length
      · rw [if_pos hr, hr, trJ_self]
      · rw [if_neg hr, elQ_swp (by omega) hal]
        congr 1; unfold trJ; repeat' split <;> try omega
    have hR1 : Rect C (if a = s.lead.length then s.m else swp s.m s.lead.length a) := by
      split
      · exact hR
      · exact hR.swp _ _
    have hL1 : (if a = s.lead.length then s.m else swp s.m s.lead.length a).length = s.m.length := by
      split
      · rfl
      · exact swp_length _ _ _
    generalize (if a = s.lead.length then s.m else swp s.m s.lead.length a) = m1 at *
    have ht : trJ s.lead.length a s.lead.length = a := by unfold trJ; rw [if_pos rfl]
    have hf : elQ m1 s.lead.length c = elQ s.m a c := by rw [hm1, ht]
    rw [hf]
    have hrl := hR1.get (get_rowQ (m := m1) (i := s.lead.length) (by omega))
    have hdl : (divRow (rowQ m1 s.lead.length) (elQ s.m a c)).length = C := by rw [divRow_len, hrl]
    have hR2 := hR1.set s.lead.length hdl
    refine ⟨by rw [elimTo_len, List.length_set, hL1], rfl, fun i j => ?_⟩
    rw [elimTo_el hR2 hdl j _ (Nat.le_refl _) i]
    have hel : ∀ i j, elQ (m1.set s.lead.length (divRow (rowQ m1 s.lead.length) (elQ s.m a c))) i j = if i = s.lead.length then elQ s.m a j / elQ s.m a c else elQ s.m (trJ s.lead.length a i) j := by
      intro i j
      unfold elQ at hm1 ⊢
      rw [rowQ_set _ (by omega)]
      by_cases hi : i = s.lead.length
      · rw [if_pos hi, if_pos hi, divRow_el, hm1, ht]
      · rw [if_neg hi, if_neg hi, hm1]
    have hpd : (divRow (rowQ m1 s.lead.length) (elQ s.m a c)).getD j 0 = elQ s.m a j / elQ s.m a c := by
      rw [divRow_el]
      show elQ m1 s.lead.length j / _ = _
      rw [hm1, ht]
    rw [hpd, hel, hel, List.length_set, hL1]
    by_cases hi : i = s.lead.length
    · rw [if_pos hi, if_neg (by rintro ⟨-, h⟩; exact h hi), if_pos hi]
    · rw [if_neg hi, if_neg hi, if_neg hi]
      by_cases hil : i < s.m.length
      · rw [if_pos ⟨hil, hi⟩]
      · rw [if_neg (by rintro ⟨h, -⟩; exact hil h)]
        have : trJ s.lead.length a i = i := by unfold trJ; rw [if_neg hi, if_neg (by omega)]
        rw [this, elQ_out (by omega : s.m.length ≤ i), elQ_out (by omega : s.m.length ≤ i)]
        grind

/-- A function of rows that behaves as a determinant. -/
structure RowForm (R : Nat) (f : (Nat → Nat → Rat) → Rat) : Prop where
  congr : ∀ M N : Nat → Nat → Rat, (∀ a b, a < R → M a b = N a b) → f M = f N
  swap : ∀ (M : Nat → Nat → Rat) i j, i < j → j < R → f (fun a b => M (trJ i j a) b) = - f M
  scale : ∀ (M : Nat → Nat → Rat) r c, r < R → f (updR M r fun b => c * M r b) = c * f M
  add : ∀ (M : Nat → Nat → Rat) r s c, r < R → s < R → r ≠ s → f (updR M r fun b => M r b + c * M s b) = f M
theorem RowForm.zero {R : Nat} {f : (Nat → Nat → Rat) → Rat} (h : RowForm R f) {M : Nat → Nat → Rat} {r : Nat} (hr : r < R) (h0 : ∀ b, M r b = 0) : f M = 0 := by
  have h1 := h.scale M r 0 hr
  have : updR M r (fun b => 0 * M r b) = M := by
    funext a b; unfold updR; split
    · rename_i e; rw [e, h0 b]; grind
    · rfl
  rw [this] at h1
  rw [h1]; grind
theorem RowForm.elim {R : Nat} {f : (Nat → Nat → Rat) → Rat} (h : RowForm R f) (M : Nat → Nat → Rat) {r : Nat} (hr : r < R) (g : Nat → Rat) :
    ∀ t, t ≤ R → f (fun a b => if a < t ∧ a ≠ r then M a b + g a * M r b else M a b) = f M
  | 0, _ => by
    congr 1
  | t + 1, ht => by
    by_cases e : t = r
    · rw [← RowForm.elim h M hr g t (by omega)]
      congr 1; funext a b
      have : (a < t + 1 ∧ a ≠ r) = (a < t ∧ a ≠ r) := propext ⟨fun h => ⟨by omega, h.2⟩, fun h => ⟨by omega, h.2⟩⟩
      simp only [this]
    · rw [← RowForm.elim h M hr g t (by omega)]
      rw [← h.add (fun a b => if a < t ∧ a ≠ r then M a b + g a * M r b else M a b) t r (g t) (by omega) hr e]
      congr 1; funext a b
      by_cases ha : a = t
      · subst ha
        simp [updR, e]
      · have : (a < t + 1 ∧ a ≠ r) = (a < t ∧ a ≠ r) := propext ⟨fun h => ⟨by omega, h.2⟩, fun h => ⟨by omega, h.2⟩⟩
        simp only [updR, ha, if_false, this]
/-- A pivot's step. -/
theorem RowForm.pivot {R : Nat} {f : (Nat → Nat → Rat) → Rat} (h : RowForm R f) {M N : Nat → Nat → Rat} {r a c : Nat} (hr : r ≤ a) (ha : a < R) (hne : M a c ≠ 0)
    (hN : ∀ i j, N i j = if i = r then M a j / M a c else M (trJ r a i) j - M (trJ r a i) c * (M a j / M a c)) : f M = (if a = r then 1 else -1) * M a c * f N := by
  obtain ⟨q, hq⟩ : ∃ q, q = M a c := ⟨_, rfl⟩
  have ht : trJ r a r = a := by unfold trJ; rw [if_pos rfl]
  obtain ⟨M1, hM1⟩ : ∃ M1 : Nat → Nat → Rat, M1 = fun i j => M (trJ r a i) j := ⟨_, rfl⟩
  obtain ⟨M2, hM2⟩ : ∃ M2 : Nat → Nat → Rat, M2 = updR M1 r fun b => q⁻¹ * M1 r b := ⟨_, rfl⟩
  have h1 : f M = (if a = r then 1 else -1) * f M1 := by
    by_cases e : a = r
    · subst e
      rw [if_pos rfl, hM1]
      have : (fun i j => M (trJ a a i) j) = M := by funext i j; rw [trJ_self]
      rw [this]; grind
    · rw [if_neg e, hM1, h.swap M r a (by omega) ha]; grind
  have h2 : f M2 = q⁻¹ * f M1 := by rw [hM2]; exact h.scale _ _ _ (by omega)
  have h3 := h.elim M2 (r := r) (by omega) (fun i => - M2 i c) R (Nat.le_refl _)
  have h4 : f N = f M2 := by
    rw [← h3]
    refine h.congr _ _ fun i j hi => ?_
    have e2 : ∀ j, M2 r j = M a j / q := fun j => by rw [hM2]; unfold updR; rw [if_pos rfl, hM1]; show q⁻¹ * M (trJ r a r) j = _; rw [ht, Rat.div_def]; grind
    rw [hN]
    by_cases e : i = r
    · subst e
      rw [if_pos rfl, if_neg (by rintro ⟨-, h⟩; exact h rfl), e2, hq]
    · have e3 : ∀ j, M2 i j = M (trJ r a i) j := fun j => by rw [hM2]; unfold updR; rw [if_neg e, hM1]
      rw [if_neg e, if_pos ⟨hi, e⟩, e3, e3, e2, hq]; grind
  rw [h4, h2, h1, ← hq]
  have : q * q⁻¹ = 1 := Rat.mul_inv_cancel q (by rw [hq]; exact hne)
  grind

/-- The column of a leading element. -/
def kapQ (l : List Nat) (j : Nat) : Nat := l.getD j 0
theorem kapQ_old {l : List Nat} {c j : Nat} (h : j < l.length) : kapQ (l ++ [c]) j = kapQ l j := by
  unfold kapQ; rw [List.getD_eq_getElem?_getD, List.getElem?_append_left h, ← List.getD_eq_getElem?_getD]
theorem kapQ_new (l : List Nat) (c : Nat) : kapQ (l ++ [c]) l.length = c := by
  unfold kapQ; rw [List.getD_eq_getElem?_getD]; simp
structure RedI (R : Nat) (A : Nat → Nat → Rat) (c : Nat) (s : RedSt) (ρ : Nat → Nat) (sg x : Rat) : Prop where
  len : s.m.length = R
  rle : s.lead.length ≤ R
  rlc : s.lead.length ≤ c
  klt : ∀ l, l < s.lead.length → kapQ s.lead l < c
  full : s.lead.length = c → ∀ l, l < c → kapQ s.lead l = l
  unit : ∀ i l, l < s.lead.length → elQ s.m i (kapQ s.lead l) = if i = l then 1 else 0
  zero : ∀ i j, s.lead.length ≤ i → j < c → elQ s.m i j = 0
  rho : ∀ i, i < R → ρ i < R
  sur : ∀ i, i < R → ∃ i', i' < R ∧ ρ i' = i
  span : ∀ i j, i < R → A (ρ i) j = (if i < s.lead.length then 0 else elQ s.m i j) + sumQ s.lead.length fun l => elQ s.m l j * A (ρ i) (kapQ s.lead l)
  dne : detF s.lead.length (fun a b => A (ρ a) (kapQ s.lead b)) ≠ 0
  form : ∀ f, RowForm R f → f A = x * f (elQ s.m)
  det : s.det = if s.lead.length = c then x else 0
  sgn : sg = 1 ∨ sg = -1
  sgf : ∀ f, RowForm R f → f (fun a b => A (ρ a) b) = sg * f A
  xD : x = sg * detF s.lead.length fun a b => A (ρ a) (kapQ s.lead b)
/-- A minor with one more row and one more column. -/
theorem RedI.big {R : Nat} {A : Nat → Nat → Rat} {c : Nat} {s : RedSt} {ρ : Nat → Nat} {sg x : Rat} (h : RedI R A c s ρ sg x) {i j : Nat} (hi : s.lead.length ≤ i) (hiR : i < R) :
    detF (s.lead.length + 1) (fun a b => A (if a < s.lead.length then ρ a else ρ i) (if b < s.lead.length then kapQ s.lead b else j)) = elQ s.m i j * detF s.lead.length fun a b => A (ρ a) (kapQ s.lead b) := by
  generalize hr : s.lead.length = r at *
  have e : detF (r + 1) (fun a b => A (if a < r then ρ a else ρ i) (if b < r then kapQ s.lead b else j)) = detF (r + 1) (fun a b => if b = r then (if a < r then 0 else elQ s.m i j) + sumQ r (fun l => elQ s.m l j * A (if a < r then ρ a else ρ i) (kapQ s.lead l)) else A (if a < r then ρ a else ρ i) (kapQ s.lead b)) := by
    refine detF_congr fun a b ha hb => ?_
    by_cases e : b = r
    · subst e
      rw [if_neg (Nat.lt_irrefl b), if_pos rfl]
      by_cases e2 : a < b
      · rw [if_pos e2, if_pos e2]
        have := h.span a j (by have := h.rle; omega)
        rw [hr, if_pos e2] at this
        exact this
      · rw [if_neg e2, if_neg e2]
        have := h.span i j hiR
        rw [hr, if_neg (by omega)] at this
        exact this
    · rw [if_pos (show b < r by omega), if_neg e]
  rw [e, detF_col_sum _ (by omega)]
  have h0 : sumQ r (fun l => elQ s.m l j * detF (r + 1) (fun a b => if b = r then A (if a < r then ρ a else ρ i) (kapQ s.lead l) else A (if a < r then ρ a else ρ i) (kapQ s.lead b))) = 0 := by
    rw [← sumQ_zero r]
    refine sumQ_congr fun l hl => ?_
    rw [detF_col_eq (i := l) (j := r) (by omega) (by omega) (by omega) (fun b hb => by rw [if_neg (by omega), if_pos rfl])]
    grind
  rw [h0, detF_last (fun a ha => by rw [if_pos rfl, if_pos ha])]
  rw [if_pos rfl, if_neg (by omega)]
  have : detF r (fun a b => if b = r then (if a < r then 0 else elQ s.m i j) else A (if a < r then ρ a else ρ i) (kapQ s.lead b)) = detF r fun a b => A (ρ a) (kapQ s.lead b) := detF_congr fun a b ha hb => by rw [if_neg (by omega), if_pos ha]
  rw [this]; grind
/-- A minor with one column exchanged. -/
theorem RedI.small {R : Nat} {A : Nat → Nat → Rat} {c : Nat} {s : RedSt} {ρ : Nat → Nat} {sg x : Rat} (h : RedI R A c s ρ sg x) {i j : Nat} (hi : i < s.lead.length) :
    detF s.lead.length (fun a b => A (ρ a) (if b = i then j else kapQ s.lead b)) = elQ s.m i j * detF s.lead.length fun a b => A (ρ a) (kapQ s.lead b) := by
  generalize hr : s.lead.length = r at *
  have e : detF r (fun a b => A (ρ a) (if b = i then j else kapQ s.lead b)) = detF r (fun a b => if b = i then (0 : Rat) + sumQ r (fun l => elQ s.m l j * A (ρ a) (kapQ s.lead l)) else A (ρ a) (kapQ s.lead b)) := by
    refine detF_congr fun a b ha hb => ?_
    by_cases e : b = i
    · rw [if_pos e, if_pos e]
      have := h.span a j (by have := h.rle; omega)
      rw [hr, if_pos ha] at this
      exact this
    · rw [if_neg e, if_neg e]
  rw [e, detF_col_sum _ hi (fun _ => 0)]
  have h0 : detF r (fun a b => if b = i then (0 : Rat) else A (ρ a) (kapQ s.lead b)) = 0 := by
    rw [← detF_tr]
    exact detF_zero_row hi (fun b hb => by rw [if_pos rfl])
  rw [h0, sumQ_one hi (fun l hl hne => by
    rw [detF_col_eq (i := l) (j := i) hl hi hne (fun b hb => by rw [if_neg hne, if_pos rfl])]; grind)]
  have : detF r (fun a b => if b = i then A (ρ a) (kapQ s.lead i) else A (ρ a) (kapQ s.lead b)) = detF r fun a b => A (ρ a) (kapQ s.lead b) := detF_congr fun a b ha hb => by
    split
    · rename_i e; rw [e]
    · rfl
  rw [this]; grind
theorem redI_zero {C : Nat} (m : List (List Rat)) (hR : Rect C m) : RedI m.length (elQ m) 0 (redTo m 0) (fun i => i) 1 1 where
  len := rfl
  rle := Nat.zero_le _
  rlc := Nat.le_refl _
  klt := fun l hl => by exact absurd hl (by show ¬ l < 0; omega)
  full := fun _ l hl => by omega
  unit := fun i l hl => by exact absurd hl (by show ¬ l < 0; omega)
  zero := fun i j _ hj => by omega
  rho := fun i hi => hi
  sur := fun i hi => ⟨i, hi, rfl⟩
  span := fun i j hi => by
    show elQ m i j = (if i < 0 then 0 else elQ m i j) + (0 : Rat)
    rw [if_neg (by omega)]; grind
  dne := by show (1 : Rat) ≠ 0; decide
  form := fun f hf => by show f (elQ m) = 1 * f (elQ m); grind
  det := rfl
  sgn := .inl rfl
  sgf := fun f hf => by grind
  xD := by show (1 : Rat) = 1 * 1; grind
theorem redI_step {C c : Nat} {R : Nat} {A : Nat → Nat → Rat} {s : RedSt} {ρ : Nat → Nat} {sg x : Rat} (h : RedI R A c s ρ sg x) (hR : Rect C s.m) :
    ∃ ρ' sg' x', RedI R A (c + 1) (stepR c s) ρ' sg' x' := by
  rcases stepR_el (c := c) hR (by rw [h.len]; exact h.rle) with ⟨e, hz⟩ | ⟨a, ha1, ha2, hne, hfirst, hlead, hlen, hdet, hel⟩
  · rw [e]
    refine ⟨ρ, sg, x, h.len, h.rle, Nat.le_succ_of_le h.rlc, fun l hl => Nat.lt_succ_of_lt (h.klt l hl), fun hc => ?_, h.unit, fun i j hi hj => ?_, h.rho, h.sur, h.span, h.dne, h.form, ?_, h.sgn, h.sgf, h.xD⟩
    · have := h.rlc
      have hc' : s.lead.length = c + 1 := hc
      omega
    · by_cases e : j = c
      · rw [e]; exact hz i hi
      · exact h.zero i j hi (by omega)
    · show (0 : Rat) = if s.lead.length = c + 1 then x else 0
      rw [if_neg (by have := h.rlc; omega)]
  · rw [h.len] at ha2
    have hL : (stepR c s).lead.length = s.lead.length + 1 := by rw [hlead]; simp
    have hkold : ∀ l, l < s.lead.length → kapQ (stepR c s).lead l = kapQ s.lead l := fun l hl => by rw [hlead]; exact kapQ_old hl
    have hknew : kapQ (stepR c s).lead s.lead.length = c := by rw [hlead]; exact kapQ_new _ _
    have hbig := h.big (i := a) (j := c) ha1 ha2
    generalize hr : s.lead.length = r at *
    have htr : trJ r a r = a := by unfold trJ; rw [if_pos rfl]
    have htl : ∀ i, i < r → trJ r a i = i := fun i hi => by unfold trJ; rw [if_neg (by omega), if_neg (by omega)]
    have htg : ∀ i, r ≤ i → r ≤ trJ r a i := fun i hi => by unfold trJ; repeat' split <;> try omega
    have htR : ∀ i, i < R → trJ r a i < R := fun i hi => by unfold trJ; repeat' split <;> try omega
    have htt : ∀ i, trJ r a (trJ r a i) = i := fun i => by unfold trJ; repeat' split <;> try omega
    have hdiv : elQ s.m a c / elQ s.m a c = 1 := by rw [Rat.div_def]; exact Rat.mul_inv_cancel _ hne
    have hak : ∀ l, l < r → elQ s.m a (kapQ s.lead l) = 0 := fun l hl => by rw [h.unit a l (by omega), if_neg (by omega)]
    have hunit : ∀ i l, l < r + 1 → elQ (stepR c s).m i (kapQ (stepR c s).lead l) = if i = l then 1 else 0 := by
      intro i l hl
      by_cases e : l = r
      · subst e
        rw [hknew, hel]
        by_cases e2 : i = l
        · rw [if_pos e2, if_pos e2, hdiv]
        · rw [if_neg e2, if_neg e2, hdiv]; grind
      · rw [hkold l (by omega), hel, hak l (by omega)]
        by_cases e2 : i = r
        · rw [if_pos e2, if_neg (by omega), Rat.div_def, Rat.zero_mul]
        · rw [if_neg e2, h.unit _ l (by omega), Rat.div_def, Rat.zero_mul]
          by_cases e3 : i = l
          · rw [if_pos e3, if_pos (by rw [e3]; exact htl l (by omega))]; grind
          · rw [if_neg e3, if_neg (by intro e4; have h5 := htt i; rw [e4, htl l (by omega)] at h5; exact e3 h5.symm)]; grind
    have hD : detF (r + 1) (fun i b => A (ρ (trJ r a i)) (kapQ (stepR c s).lead b)) = elQ s.m a c * detF r fun a b => A (ρ a) (kapQ s.lead b) := by
      rw [← hbig]
      refine detF_congr fun i b hi hb => ?_
      have e1 : ρ (trJ r a i) = if i < r then ρ i else ρ a := by
        by_cases e : i < r
        · rw [if_pos e, htl i e]
        · rw [if_neg e, show i = r by omega, htr]
      have e2 : kapQ (stepR c s).lead b = if b < r then kapQ s.lead b else c := by
        by_cases e : b < r
        · rw [if_pos e, hkold b e]
        · rw [if_neg e, show b = r by omega, hknew]
      rw [e1, e2]
    refine ⟨fun i => ρ (trJ r a i), (if a = r then 1 else -1) * sg, x * ((if a = r then 1 else -1) * elQ s.m a c), by rw [hlen, h.len], by rw [hL]; omega, by rw [hL]; have := h.rlc; omega, ?_, ?_, ?_, ?_, ?_, ?_, ?_, ?_, ?_, ?_, ?_, ?_, ?_⟩
    · intro l hl
      rw [hL] at hl
      by_cases e : l = r
      · rw [e, hknew]; omega
      · rw [hkold l (by omega)]; have := h.klt l (by omega); omega
    · intro hc l hl
      rw [hL] at hc
      by_cases e : l = r
      · rw [e, hknew]; omega
      · rw [hkold l (by omega)]; exact h.full (by omega) l (by omega)
    · rw [hL]; exact hunit
    · intro i j hi hj
      rw [hL] at hi
      by_cases e : j = c
      · have := hunit i r (by omega)
        rw [hknew, if_neg (by omega)] at this
        rw [e]; exact this
      · rw [hel, if_neg (by omega), h.zero (trJ r a i) j (by have := htg i (by omega); omega) (by omega), h.zero a j (by omega) (by omega), Rat.div_def, Rat.zero_mul]; grind
    · intro i hi; exact h.rho _ (htR i hi)
    · intro i hi
      obtain ⟨i', h1, h2⟩ := h.sur i hi
      exact ⟨trJ r a i', htR i' h1, by rw [htt]; exact h2⟩
    · intro i j hi
      have h1 := h.span (trJ r a i) j (htR i hi)
      have h2 := h.span (trJ r a i) c (htR i hi)
      rw [hL]
      show A (ρ (trJ r a i)) j = _ + (sumQ r (fun l => elQ (stepR c s).m l j * A (ρ (trJ r a i)) (kapQ (stepR c s).lead l)) + elQ (stepR c s).m r j * A (ρ (trJ r a i)) (kapQ (stepR c s).lead r))
      rw [hknew]
      rw [hr] at h1 h2
      have e1 : sumQ r (fun l => elQ (stepR c s).m l j * A (ρ (trJ r a i)) (kapQ (stepR c s).lead l)) = sumQ r (fun l => elQ s.m l j * A (ρ (trJ r a i)) (kapQ s.lead l)) + - (elQ s.m a j / elQ s.m a c) * sumQ r (fun l => elQ s.m l c * A (ρ (trJ r a i)) (kapQ s.lead l)) := by
        rw [← sumQ_mul, ← sumQ_add]
        refine sumQ_congr fun l hl => ?_
        rw [hkold l hl, hel, if_neg (by omega), htl l hl]; grind
      rw [e1, hel r j, if_pos rfl, hel i j]
      have hlt : (trJ r a i < r) = (i < r) := by
        apply propext; constructor
        · intro h; by_cases e : i < r
          · exact e
          · have := htg i (by omega); omega
        · intro h; rw [htl i h]; exact h
      simp only [hlt] at h1 h2
      by_cases e : i < r
      · rw [if_pos e] at h1 h2
        rw [if_pos (by omega), h1, h2]; grind
      · rw [if_neg e] at h1 h2
        by_cases e2 : i = r
        · rw [e2, htr] at h1 h2
          rw [if_pos (by omega), e2, htr, h1, h2]
          have : elQ s.m a j / elQ s.m a c * elQ s.m a c = elQ s.m a j := by rw [Rat.div_def, Rat.mul_assoc, Rat.inv_mul_cancel _ hne, Rat.mul_one]
          grind
        · rw [if_neg (by omega), if_neg e2, h1, h2]; grind
    · rw [hL, hD]
      intro h0
      rcases Rat.mul_eq_zero.1 h0 with h0 | h0
      · exact hne h0
      · exact h.dne (by rw [hr]; exact h0)
    · intro f hf
      rw [h.form f hf, hf.pivot ha1 ha2 hne hel]; grind
    · rw [hdet, h.det, hL, hr]
      by_cases e : r = c
      · rw [if_pos e, if_pos (show r + 1 = c + 1 by omega)]; split <;> grind
      · rw [if_neg e, if_neg (show ¬ r + 1 = c + 1 by omega)]; split <;> grind
    · rcases h.sgn with e | e <;> rw [e] <;> split <;> first | (left; grind) | (right; grind)
    · intro f hf
      by_cases e : a = r
      · rw [if_pos e, e]
        have : (fun i b => A (ρ (trJ r r i)) b) = fun i b => A (ρ i) b := by funext i b; rw [trJ_self]
        rw [this, h.sgf f hf]; grind
      · rw [if_neg e, hf.swap (fun i b => A (ρ i) b) r a (by omega) ha2, h.sgf f hf]; grind
    · rw [hL, hD, h.xD, hr]; grind
theorem redI_all {C : Nat} (m : List (List Rat)) (hR : Rect C m) : ∀ c, ∃ ρ sg x, RedI m.length (elQ m) c (redTo m c) ρ sg x
  | 0 => ⟨_, _, _, redI_zero m hR⟩
  | c + 1 => by
    obtain ⟨ρ, sg, x, h⟩ := redI_all m hR c
    exact redI_step h (redTo_shape hR c).1
end Go.Proofs.YtpeinobepiodaaaGreatDoor
/- Determinants of integers: bounds; what the reduction of a matrix of integers leaves is small (plain). -/
namespace Go.Proofs.YtpeinobepiodaaaGreatDoor
set_option linter.unusedVariables false
set_option linter.unusedSimpArgs false
open Go.RowKit

/-- An integer of at most so much. -/
def IntLe (K : Nat) (x : Rat) : Prop := ∃ z : Int, x = (z : Rat) ∧ z.natAbs ≤ K
theorem IntLe.mono {K L : Nat} {x : Rat} (h : IntLe K x) (hk : K ≤ L) : IntLe L x := by
  obtain ⟨z, h1, h2⟩ := h; exact ⟨z, h1, by omega⟩
theorem IntLe.zero (K : Nat) : IntLe K 0 := ⟨0, by simp, by simp⟩
theorem IntLe.add {K L : Nat} {x y : Rat} (h : IntLe K x) (k : IntLe L y) : IntLe (K + L) (x + y) := by
  obtain ⟨z, rfl, h2⟩ := h; obtain ⟨z', rfl, k2⟩ := k
  exact ⟨z + z', by rw [Rat.intCast_add], by omega⟩
theorem IntLe.mul {K L : Nat} {x y : Rat} (h : IntLe K x) (k : IntLe L y) : IntLe (K * L) (x * y) := by
  obtain ⟨z, rfl, h2⟩ := h; obtain ⟨z', rfl, k2⟩ := k
  exact ⟨z * z', by rw [Rat.intCast_mul], by rw [Int.natAbs_mul]; exact Nat.mul_le_mul h2 k2⟩
theorem IntLe.sgn (i : Nat) : IntLe 1 (sgnQ i) := by
  unfold sgnQ; split
  · exact ⟨1, by simp, by simp⟩
  · exact ⟨-1, by simp, by simp⟩
theorem IntLe.sum {K n : Nat} {f : Nat → Rat} (h : ∀ i, i < n → IntLe K (f i)) : IntLe (n * K) (sumQ n f) := by
  induction n with
  | zero => exact (IntLe.zero _)
  | succ n ih =>
    have := (ih fun i hi => h i (by omega)).add (h n (by omega))
    rw [Nat.succ_mul]
    exact this
/-- The bound of a determinant of n rows. -/
def detK (K : Nat) : Nat → Nat
  | 0 => 1
  | n + 1 => (n + 1) * (K * detK K n)
theorem detF_int {K n : Nat} {M : Nat → Nat → Rat} (h : ∀ a b, IntLe K (M a b)) : IntLe (detK K n) (detF n M) := by
  induction n generalizing M with
  | zero => exact ⟨1, by simp [detF], by simp [detK]⟩
  | succ n ih =>
    show IntLe ((n + 1) * (K * detK K n)) (sumQ (n + 1) _)
    refine IntLe.sum fun i hi => ?_
    have h1 := ((IntLe.sgn i).mul (h i 0)).mul (ih (M := fun a b => M (sk i a) (b + 1)) fun a b => h _ _)
    rw [Nat.one_mul] at h1
    exact h1
theorem detK_mono {K : Nat} (hK : 1 ≤ K) {a b : Nat} (h : a ≤ b) : detK K a ≤ detK K b := by
  induction b with
  | zero => have : a = 0 := by omega
            subst this; exact Nat.le_refl _
  | succ b ih =>
    by_cases e : a = b + 1
    · subst e; exact Nat.le_refl _
    · have h1 := ih (by omega)
      show _ ≤ (b + 1) * (K * detK K b)
      have h2 : 1 * detK K b ≤ K * detK K b := Nat.mul_le_mul_right _ hK
      have h3 : 1 * (K * detK K b) ≤ (b + 1) * (K * detK K b) := Nat.mul_le_mul_right _ (by omega)
      omega
theorem detK_13 : detK 1000000000 13 < 10 ^ 130 := by decide +kernel
theorem IntLe.rs {x : Rat} (h : IntLe (detK 1000000000 13) x) : RS 131 x := by
  obtain ⟨z, rfl, h2⟩ := h
  have h3 := Nat.lt_of_le_of_lt h2 detK_13
  refine ⟨?_, ?_⟩
  · show (intB ((z : Rat)).num).size ≤ 131
    rw [show ((z : Rat)).num = z from rfl]
    have h4 := intB_size_le z
    have h5 := numB_size_le z.natAbs 130 h3 (by omega)
    omega
  · show (numB ((z : Rat)).den).size ≤ 131
    rw [show ((z : Rat)).den = 1 from rfl, numB_size, Lib.nDigits_small (by omega)]
    omega
/-- What the reduction of a matrix of integers leaves. -/
theorem red_small {C : Nat} {m : List (List Rat)} (hR : Rect C m) (hl : m.length ≤ 12) (hm : ∀ i j, IntLe 1000000000 (elQ m i j)) (c : Nat) : AllRS 2500 (redTo m c).m ∧ RS 9000 (redTo m c).det := by
  obtain ⟨ρ, sg, x, h⟩ := redI_all m hR c
  have hr12 : (redTo m c).lead.length ≤ 12 := by have := h.rle; omega
  have hint : ∀ (k : Nat) (f g : Nat → Nat), k ≤ 13 → IntLe (detK 1000000000 13) (detF k fun a b => elQ m (f a) (g b)) := fun k f g hk =>
    (detF_int (fun a b => hm _ _)).mono (detK_mono (by omega) hk)
  have hD : IntLe (detK 1000000000 13) (detF (redTo m c).lead.length fun a b => elQ m (ρ a) (kapQ (redTo m c).lead b)) := hint _ _ _ (by omega)
  have hne := h.dne
  have hel : ∀ i j, i < m.length → RS 300 (elQ (redTo m c).m i j) := by
    intro i j hi
    have hN : IntLe (detK 1000000000 13) (elQ (redTo m c).m i j * detF (redTo m c).lead.length fun a b => elQ m (ρ a) (kapQ (redTo m c).lead b)) := by
      by_cases e : i < (redTo m c).lead.length
      · rw [← h.small e]
        exact hint _ ρ (fun b => if b = i then j else kapQ (redTo m c).lead b) (by omega)
      · rw [← h.big (by omega) hi]
        exact hint _ (fun a => if a < (redTo m c).lead.length then ρ a else ρ i) (fun b => if b < (redTo m c).lead.length then kapQ (redTo m c).lead b else j) (by omega)
    generalize (detF (redTo m c).lead.length fun a b => elQ m (ρ a) (kapQ (redTo m c).lead b)) = D at *
    generalize elQ (redTo m c).m i j = g at *
    have e : g = (g * D) / D := by rw [Rat.div_def, Rat.mul_assoc, Rat.mul_inv_cancel _ hne, Rat.mul_one]
    rw [e]
    exact (div_RS hN.rs hD.rs hne).mono (by omega)
  have hsh := redTo_shape hR c
  refine ⟨fun r hr q hq => ?_, ?_⟩
  · obtain ⟨i, hi⟩ := List.getElem?_of_mem hr
    obtain ⟨j, hj⟩ := List.getElem?_of_mem hq
    have hil := (List.getElem?_eq_some_iff.1 hi).1
    have := hel i j (by omega)
    unfold elQ at this
    rw [rowQ_get hi, List.getD_eq_getElem?_getD, hj] at this
    exact RS.mono this (by omega)
  · rw [h.det]
    split
    · rw [h.xD]
      rcases h.sgn with e | e
      · rw [e, Rat.one_mul]
        exact hD.rs.mono (by omega)
      · rw [e]
        have : IntLe (1 * detK 1000000000 13) ((-1 : Rat) * detF (redTo m c).lead.length fun a b => elQ m (ρ a) (kapQ (redTo m c).lead b)) := IntLe.mul ⟨-1, by simp, by simp⟩ hD
        rw [Nat.one_mul] at this
        exact this.rs.mono (by omega)
    · exact (IntLe.zero _).rs.mono (by omega)
/-- The elements of a matrix of integers within the limit. -/
theorem matQ_el {xss : List (List Int)} (h : ∀ r ∈ xss, ∀ a ∈ r, -1000000000 ≤ a ∧ a ≤ 1000000000) (i j : Nat) : IntLe 1000000000 (elQ (matQ xss) i j) := by
  unfold elQ rowQ matQ
  rw [List.getD_eq_getElem?_getD (l := xss.map rowQI), List.getElem?_map]
  cases hi : xss[i]? with
  | none => exact IntLe.zero _
  | some r =>
    show IntLe _ ((rowQI r).getD j 0)
    unfold rowQI
    rw [List.getD_eq_getElem?_getD, List.getElem?_map]
    cases hj : r[j]? with
    | none => exact IntLe.zero _
    | some a =>
      have := h r (List.mem_of_getElem? hi) a (List.mem_of_getElem? hj)
      exact ⟨a, rfl, by omega⟩
/-- An element of a matrix of integers. -/
def elI (xss : List (List Int)) (i j : Nat) : Int := (xss.getD i []).getD j 0
theorem matQ_elI (xss : List (List Int)) (i j : Nat) : elQ (matQ xss) i j = (elI xss i j : Rat) := by
  unfold elQ rowQ matQ elI
  rw [List.getD_eq_getElem?_getD (l := xss.map rowQI), List.getElem?_map, List.getD_eq_getElem?_getD (l := xss)]
  cases hi : xss[i]? with
  | none => simp
  | some r =>
    show (rowQI r).getD j 0 = ((r.getD j 0 : Int) : Rat)
    unfold rowQI
    rw [List.getD_eq_getElem?_getD, List.getElem?_map, List.getD_eq_getElem?_getD]
    cases hj : r[j]? with
    | none => simp
    | some a => rfl
end Go.Proofs.YtpeinobepiodaaaGreatDoor
/- The rank of a matrix and its minors; the determinant (plain). -/
namespace Go.Proofs.YtpeinobepiodaaaGreatDoor
set_option linter.unusedVariables false
set_option linter.unusedSimpArgs false

theorem detF_form (n : Nat) : RowForm n (detF n) where
  congr := fun M N h => detF_congr fun a b ha _ => h a b ha
  swap := fun M i j h1 h2 => detF_swap M h1 h2
  scale := fun M r c hr => detF_scale M hr c
  add := fun M r s c h1 h2 h3 => detF_addmul M h1 h2 h3 c
/-- Any function that behaves as a determinant, worked out. -/
theorem red_form {n : Nat} {m : List (List Rat)} (hR : Rect n m) (hl : m.length = n) {f : (Nat → Nat → Rat) → Rat} (hf : RowForm n f)
    (hz : ∀ M : Nat → Nat → Rat, (∃ r, r < n ∧ ∀ b, b < n → M r b = 0) → f M = 0) (hc : ∀ M N : Nat → Nat → Rat, (∀ a b, a < n → b < n → M a b = N a b) → f M = f N) :
    f (elQ m) = (redTo m n).det * f (fun a b => if a = b then 1 else 0) := by
  obtain ⟨ρ, sg, x, h⟩ := redI_all m hR n
  rw [hl] at h
  rw [h.form f hf, h.det]
  by_cases e : (redTo m n).lead.length = n
  · rw [if_pos e]
    congr 1
    refine hc _ _ fun a b ha hb => ?_
    have := h.unit a b (by omega)
    rw [h.full e b hb] at this
    exact this
  · rw [if_neg e, hz _ ⟨(redTo m n).lead.length, by have := h.rle; omega, fun b hb => h.zero _ b (Nat.le_refl _) hb⟩]
    grind
theorem red_det {n : Nat} {m : List (List Rat)} (hR : Rect n m) (hl : m.length = n) : (redTo m n).det = detF n (elQ m) := by
  rw [red_form hR hl (detF_form n) (fun M ⟨r, hr, h0⟩ => detF_zero_row hr h0) (fun M N h => detF_congr h), detF_one]; grind

/-! ## Rows in the span of fewer rows -/
theorem pigeon : ∀ (r k : Nat) (σ : Nat → Nat), r < k → (∀ a, a < k → σ a < r) → ∃ a b, a < b ∧ b < k ∧ σ a = σ b
  | 0, k, σ, hk, h => by have := h 0 (by omega); omega
  | r + 1, k, σ, hk, h => by
    obtain ⟨k', rfl⟩ : ∃ k', k = k' + 1 := ⟨k - 1, by omega⟩
    by_cases hex : ∃ a, a < k' ∧ σ a = σ k'
    · obtain ⟨a, ha, he⟩ := hex
      exact ⟨a, k', ha, by omega, he⟩
    · obtain ⟨a, b, h1, h2, h3⟩ := pigeon r k' (fun a => if σ a = r then σ k' else σ a) (by omega) (fun a ha => by
        have h1 := h a (by omega)
        have h2 := h k' (by omega)
        show (if σ a = r then σ k' else σ a) < r
        split
        · rename_i e
          have : σ k' ≠ r := fun e2 => hex ⟨a, ha, by rw [e, e2]⟩
          omega
        · omega)
      refine ⟨a, b, h1, by omega, ?_⟩
      have n1 : σ a ≠ σ k' := fun e => hex ⟨a, by omega, e⟩
      have n2 : σ b ≠ σ k' := fun e => hex ⟨b, h2, e⟩
      split at h3 <;> split at h3
      · omega
      · exact absurd h3.symm n2
      · exact absurd h3 n1
      · exact h3
theorem detF_row_sum {n : Nat} (M : Nat → Nat → Rat) {r : Nat} (hr : r < n) (m : Nat) (t : Nat → Rat) (g : Nat → Nat → Rat) :
    detF n (fun a b => if a = r then sumQ m (fun l => t l * g l b) else M a b) = sumQ m (fun l => t l * detF n (fun a b => if a = r then g l b else M a b)) := by
  have h := detF_col_sum (fun a b => M b a) hr (fun _ => 0) m t g
  rw [← detF_tr n (fun a b => if b = r then (0 : Rat) + sumQ m (fun l => t l * g l a) else M b a)] at h
  have h0 : detF n (fun a b => if b = r then (0 : Rat) else M b a) = 0 := by
    rw [← detF_tr]; exact detF_zero_row hr (fun b hb => by rw [if_pos rfl])
  rw [h0] at h
  have e1 : (fun a b => if a = r then (0 : Rat) + sumQ m (fun l => t l * g l b) else M a b) = fun a b => if a = r then sumQ m (fun l => t l * g l b) else M a b := by
    funext a b; split
    · grind
    · rfl
  rw [e1] at h
  rw [h]
  have : ∀ x : Rat, 0 + x = x := fun x => by grind
  rw [this]
  refine sumQ_congr fun l hl => ?_
  rw [← detF_tr]
theorem comb_zero {k r : Nat} (hr : r < k) (t g : Nat → Nat → Rat) : ∀ p, p ≤ k → ∀ σ : Nat → Nat, (∀ a, p ≤ a → a < k → σ a < r) →
    detF k (fun a b => if a < p then sumQ r (fun l => t a l * g l b) else g (σ a) b) = 0
  | 0, _, σ, h => by
    obtain ⟨a, b, h1, h2, h3⟩ := pigeon r k σ hr (fun a ha => h a (by omega) ha)
    refine detF_eq (i := a) (j := b) (by omega) h2 (by omega) fun c hc => ?_
    rw [if_neg (by omega), if_neg (by omega), h3]
  | p + 1, hp, σ, h => by
    have e : (fun a b => if a < p + 1 then sumQ r (fun l => t a l * g l b) else g (σ a) b) = fun a b => if a = p then sumQ r (fun l => t p l * g l b) else (if a < p then sumQ r (fun l => t a l * g l b) else g (σ a) b) := by
      funext a b
      by_cases h1 : a = p
      · subst h1; rw [if_pos (by omega), if_pos rfl]
      · rw [if_neg h1]
        by_cases h2 : a < p
        · rw [if_pos (by omega), if_pos h2]
        · rw [if_neg (by omega), if_neg h2]
    rw [e, detF_row_sum _ (by omega), ← sumQ_zero r]
    refine sumQ_congr fun l hl => ?_
    have ih := comb_zero hr t g p (by omega) (fun a => if a = p then l else σ a) (fun a h1 h2 => by
      show (if a = p then l else σ a) < r
      split
      · exact hl
      · exact h a (by omega) h2)
    have e2 : (fun a b => if a = p then g l b else (if a < p then sumQ r (fun l => t a l * g l b) else g (σ a) b)) = fun a b => if a < p then sumQ r (fun l => t a l * g l b) else g (if a = p then l else σ a) b := by
      funext a b
      by_cases h1 : a = p
      · subst h1; rw [if_pos rfl, if_neg (by omega), if_pos rfl]
      · rw [if_neg h1]
        by_cases h2 : a < p
        · rw [if_pos h2, if_pos h2]
        · rw [if_neg h2, if_neg h2, if_neg h1]
    rw [e2, ih]; grind
/-! ## The rank -/
def rankQ (m : List (List Rat)) (C : Nat) : Nat := (redTo m C).lead.length
theorem lead_step {C : Nat} {m : List (List Rat)} (hR : Rect C m) (c : Nat) : rankQ m (c + 1) = rankQ m c ∨ rankQ m (c + 1) = rankQ m c + 1 := by
  have hs := redTo_shape hR c
  show (stepR c (redTo m c)).lead.length = (redTo m c).lead.length ∨ (stepR c (redTo m c)).lead.length = (redTo m c).lead.length + 1
  rcases stepR_el (c := c) hs.1 (by rw [hs.2.1]; exact hs.2.2) with ⟨e, -⟩ | ⟨a, -, -, -, -, hl, -⟩
  · rw [e]; exact .inl rfl
  · rw [hl]; exact .inr (by simp)
theorem lead_between {C : Nat} {m : List (List Rat)} (hR : Rect C m) {k : Nat} : ∀ c, k ≤ rankQ m c → ∃ c', c' ≤ c ∧ rankQ m c' = k
  | 0, h => ⟨0, Nat.le_refl _, by have : rankQ m 0 = 0 := rfl; omega⟩
  | c + 1, h => by
    by_cases e : k ≤ rankQ m c
    · obtain ⟨c', h1, h2⟩ := lead_between hR c e
      exact ⟨c', by omega, h2⟩
    · refine ⟨c + 1, Nat.le_refl _, ?_⟩
      rcases lead_step hR c with h1 | h1 <;> omega
/-- A minor of each order up to the rank is not 0. -/
theorem rank_minor {C : Nat} {m : List (List Rat)} (hR : Rect C m) {k : Nat} (hk : k ≤ rankQ m C) :
    ∃ ρ κ : Nat → Nat, (∀ a, a < k → ρ a < m.length) ∧ (∀ b, b < k → κ b < C) ∧ detF k (fun a b => elQ m (ρ a) (κ b)) ≠ 0 := by
  obtain ⟨c, hc, he⟩ := lead_between hR C hk
  obtain ⟨ρ, sg, x, h⟩ := redI_all m hR c
  have he' : (redTo m c).lead.length = k := he
  refine ⟨ρ, kapQ (redTo m c).lead, fun a ha => h.rho a (by have := h.rle; omega), fun b hb => ?_, ?_⟩
  · have := h.klt b (by omega); omega
  · have := h.dne
    rw [he'] at this
    exact this
/-- All minors of a greater order are 0. -/
theorem rank_zero {C : Nat} {m : List (List Rat)} (hR : Rect C m) {k : Nat} (hk : rankQ m C < k) {ρ κ : Nat → Nat} (hρ : ∀ a, a < k → ρ a < m.length) (hκ : ∀ b, b < k → κ b < C) :
    detF k (fun a b => elQ m (ρ a) (κ b)) = 0 := by
  obtain ⟨ρ0, sg, x, h⟩ := redI_all m hR C
  have hk' : (redTo m C).lead.length < k := hk
  -- rows by the inverse of the exchange
  have hinv : ∀ i, ∃ i', i < m.length → (i' < m.length ∧ ρ0 i' = i) := fun i => by
    by_cases hi : i < m.length
    · obtain ⟨i', h1, h2⟩ := h.sur i hi
      exact ⟨i', fun _ => ⟨h1, h2⟩⟩
    · exact ⟨0, fun h => absurd h hi⟩
  obtain ⟨inv, hv⟩ : ∃ inv : Nat → Nat, ∀ i, i < m.length → (inv i < m.length ∧ ρ0 (inv i) = i) := ⟨fun i => Classical.choose (hinv i), fun i hi => Classical.choose_spec (hinv i) hi⟩
  have e : detF k (fun a b => elQ m (ρ a) (κ b)) = detF k (fun a b => if a < k then sumQ (redTo m C).lead.length (fun l => (fun a l => elQ m (ρ a) (kapQ (redTo m C).lead l)) a l * (fun l b => elQ (redTo m C).m l (κ b)) l b) else (fun l b => elQ (redTo m C).m l (κ b)) 0 b) := by
    refine detF_congr fun a b ha hb => ?_
    rw [if_pos ha]
    obtain ⟨h1, h2⟩ := hv (ρ a) (hρ a ha)
    have hsp := h.span (inv (ρ a)) (κ b) h1
    rw [h2] at hsp
    have hz : (if inv (ρ a) < (redTo m C).lead.length then (0 : Rat) else elQ (redTo m C).m (inv (ρ a)) (κ b)) = 0 := by
      split
      · rfl
      · exact h.zero _ _ (by omega) (hκ b hb)
    rw [hz] at hsp
    rw [hsp]
    have : ∀ x : Rat, 0 + x = x := fun x => by grind
    rw [this]
    exact sumQ_congr fun l hl => by grind
  rw [e]
  exact comb_zero hk' _ _ k (Nat.le_refl _) (fun _ => 0) (fun a h1 h2 => by omega)
/-! ## Sorted minors -/
def muS (k : Nat) (ρ : Nat → Nat) : Nat → Nat
  | 0 => 0
  | a + 1 => muS k ρ a + (k - a) * ρ a
theorem muS_congr {k : Nat} {ρ σ : Nat → Nat} : ∀ n, (∀ a, a < n → ρ a = σ a) → muS k ρ n = muS k σ n
  | 0, _ => rfl
  | n + 1, h => by
    show muS k ρ n + _ = muS k σ n + _
    rw [muS_congr n (fun a ha => h a (by omega)), h n (by omega)]
theorem muS_swap {k : Nat} {ρ : Nat → Nat} {i : Nat} (h : ρ (i + 1) < ρ i) : ∀ n, i + 1 < n → n ≤ k → muS k (fun a => ρ (trI i a)) n < muS k ρ n
  | 0, h1, _ => by omega
  | n + 1, h1, h2 => by
    by_cases e : i + 1 = n
    · subst e
      show (muS k (fun a => ρ (trI i a)) i + (k - i) * ρ (trI i i)) + (k - (i + 1)) * ρ (trI i (i + 1)) < (muS k ρ i + (k - i) * ρ i) + (k - (i + 1)) * ρ (i + 1)
      have e1 : muS k (fun a => ρ (trI i a)) i = muS k ρ i := muS_congr i fun a ha => by unfold trI; rw [if_neg (by omega), if_neg (by omega)]
      have e2 : trI i i = i + 1 := by unfold trI; rw [if_pos rfl]
      have e3 : trI i (i + 1) = i := by unfold trI; rw [if_neg (by omega), if_pos rfl]
      rw [e1, e2, e3]
      obtain ⟨d, hd⟩ : ∃ d, ρ i = ρ (i + 1) + d + 1 := ⟨ρ i - ρ (i + 1) - 1, by omega⟩
      obtain ⟨q, hq⟩ : ∃ q, k - (i + 1) = q := ⟨_, rfl⟩
      have hq2 : k - i = q + 1 := by omega
      rw [hd, hq, hq2]
      generalize ρ (i + 1) = y at *
      have a1 : (q + 1) * y = q * y + y := Nat.succ_mul _ _
      have a2 : (q + 1) * (y + d + 1) = q * (y + d + 1) + (y + d + 1) := Nat.succ_mul _ _
      omega
    · have ih := muS_swap (k := k) (ρ := ρ) (i := i) h n (by omega) (by omega)
      show muS k (fun a => ρ (trI i a)) n + (k - n) * ρ (trI i n) < muS k ρ n + (k - n) * ρ n
      have e2 : trI i n = n := by unfold trI; rw [if_neg (by omega), if_neg (by omega)]
      rw [e2]; omega
/-- Rows in order. -/
theorem sort_rows {k R : Nat} (A : Nat → Nat → Rat) : ∀ (N : Nat) (ρ : Nat → Nat), muS k ρ k < N → (∀ a, a < k → ρ a < R) → detF k (fun a b => A (ρ a) b) ≠ 0 → ∃ σ : Nat → Nat, (∀ a, a < k → σ a < R) ∧ (∀ a, a + 1 < k → σ a < σ (a + 1)) ∧ detF k (fun a b => A (σ a) b) ≠ 0
  | 0, ρ, h, _, _ => by omega
  | N + 1, ρ, hN, hR, hd => by
    by_cases hs : ∀ a, a + 1 < k → ρ a < ρ (a + 1)
    · exact ⟨ρ, hR, hs, hd⟩
    · obtain ⟨i, hi⟩ := Classical.not_forall.1 hs
      have hi1 : i + 1 < k := by
        false_or_by_contra
        rename_i hn
        exact hi (fun h => absurd h hn)
      have hi2 : ¬ ρ i < ρ (i + 1) := fun h => hi (fun _ => h)
      by_cases he : ρ i = ρ (i + 1)
      · exact absurd (detF_eq (M := fun a b => A (ρ a) b) (i := i) (j := i + 1) (by omega) hi1 (by omega) (fun b _ => by rw [he])) hd
      · refine sort_rows A N (fun a => ρ (trI i a)) (by have := muS_swap (k := k) (ρ := ρ) (i := i) (by omega) k hi1 (Nat.le_refl _); omega) (fun a ha => hR _ (by unfold trI; repeat' split <;> try omega)) ?_
        have := detF_adj (n := k) (fun a b => A (ρ a) b) (r := i) hi1
        rw [show (fun a b => A (ρ (trI i a)) b) = fun a b => (fun a b => A (ρ a) b) (trI i a) b from rfl, this]
        intro h0
        exact hd (by grind)
theorem sets_mem {n : Nat} {σ : Nat → Nat} : ∀ k, (∀ a, a < k → σ a < n) → (∀ a, a + 1 < k → σ a < σ (a + 1)) → (List.range k).map σ ∈ setsL n k
  | 0, _, _ => by show [] ∈ [[]]; simp
  | k + 1, h1, h2 => by
    have ih := sets_mem k (fun a ha => h1 a (by omega)) (fun a ha => h2 a (by omega))
    show _ ∈ growS n (setsL n k)
    unfold growS
    rw [List.mem_flatMap]
    refine ⟨_, ih, ?_⟩
    rw [List.mem_map]
    refine ⟨σ k, ?_, by rw [List.range_succ, List.map_append]; rfl⟩
    have hf : fromS ((List.range k).map σ) ≤ σ k := by
      unfold fromS
      cases k with
      | zero => exact Nat.zero_le _
      | succ k =>
        rw [List.range_succ, List.map_append]
        simp only [List.map_cons, List.map_nil, List.getLast?_append, List.getLast?_singleton, Option.some_or]
        exact h2 k (by omega)
    have := h1 k (by omega)
    rw [List.mem_range']
    exact ⟨σ k - fromS ((List.range k).map σ), by omega, by omega⟩
/-- A sorted minor of each order up to the rank is not 0. -/
theorem rank_sorted {C : Nat} {m : List (List Rat)} (hR : Rect C m) {k : Nat} (hk : k ≤ rankQ m C) :
    ∃ R ∈ setsL m.length k, ∃ S ∈ setsL C k, R.length = k ∧ S.length = k ∧ detF k (fun a b => elQ m (R.getD a 0) (S.getD b 0)) ≠ 0 := by
  obtain ⟨ρ, κ, h1, h2, h3⟩ := rank_minor hR hk
  obtain ⟨σ, s1, s2, s3⟩ := sort_rows (fun i b => elQ m i (κ b)) _ ρ (Nat.lt_succ_self _) h1 h3
  rw [← detF_tr] at s3
  obtain ⟨τ, t1, t2, t3⟩ := sort_rows (fun j b => elQ m (σ b) j) _ κ (Nat.lt_succ_self _) h2 s3
  rw [← detF_tr] at t3
  have hg : ∀ (f : Nat → Nat) a, a < k → ((List.range k).map f).getD a 0 = f a := fun f a ha => by
    rw [List.getD_eq_getElem?_getD, List.getElem?_map, List.getElem?_range ha]; rfl
  refine ⟨_, sets_mem k s1 s2, _, sets_mem k t1 t2, by simp, by simp, ?_⟩
  rw [detF_congr (N := fun a b => elQ m (σ a) (τ b)) fun a b ha hb => by rw [hg σ a ha, hg τ b hb]]
  exact t3
end Go.Proofs.YtpeinobepiodaaaGreatDoor
