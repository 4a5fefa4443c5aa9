/- Merged: DetL, GrowI, GrowJ. -/
import Derived.Test.YtjihfabhgcfjnaaGreatDoorUAQ
/- Determinants of matrices of rationals, as functions of two places, by the first column. No program is named here. -/
namespace Go.Proofs.YtjihfabhgcfjnaaGreatDoor
set_option linter.unusedVariables false
set_option linter.unusedSimpArgs false

/-- The places but one. -/
def sk (i a : Nat) : Nat := if a < i then a else a + 1
def sumQ : Nat → (Nat → Rat) → Rat
  | 0, _ => 0
  | n + 1, f => sumQ n f + f n
def sgnQ (i : Nat) : Rat := if i % 2 = 0 then 1 else -1
def detF : Nat → (Nat → Nat → Rat) → Rat
  | 0, _ => 1
  | n + 1, M => sumQ (n + 1) fun i => sgnQ i * M i 0 * detF n fun a b => M (sk i a) (b + 1)
theorem sumQ_congr {n : Nat} {f g : Nat → Rat} (h : ∀ i, i < n → f i = g i) : sumQ n f = sumQ n g := by
  induction n with
  | zero => rfl
  | succ n ih => show sumQ n f + f n = sumQ n g + g n; rw [ih (fun i hi => h i (by omega)), h n (by omega)]
theorem sumQ_zero (n : Nat) : sumQ n (fun _ => 0) = 0 := by
  induction n with
  | zero => rfl
  | succ n ih => show sumQ n _ + 0 = 0; rw [ih]; grind
theorem sumQ_add (n : Nat) (f g : Nat → Rat) : sumQ n (fun i => f i + g i) = sumQ n f + sumQ n g := by
  induction n with
  | zero => show (0 : Rat) = 0 + 0; grind
  | succ n ih => show sumQ n _ + (f n + g n) = (sumQ n f + f n) + (sumQ n g + g n); rw [ih]; grind
theorem sumQ_mul (n : Nat) (c : Rat) (f : Nat → Rat) : sumQ n (fun i => c * f i) = c * sumQ n f := by
  induction n with
  | zero => show (0 : Rat) = c * 0; grind
  | succ n ih => show sumQ n _ + c * f n = c * (sumQ n f + f n); rw [ih]; grind
theorem sumQ_neg (n : Nat) (f : Nat → Rat) : sumQ n (fun i => - f i) = - sumQ n f := by
  have := sumQ_mul n (-1) f
  rw [show (-1 : Rat) * sumQ n f = - sumQ n f by grind] at this
  rw [← this]
  exact sumQ_congr fun i _ => by grind
theorem sumQ_comm (n m : Nat) (f : Nat → Nat → Rat) : sumQ n (fun i => sumQ m (fun j => f i j)) = sumQ m (fun j => sumQ n (fun i => f i j)) := by
  induction n with
  | zero => show (0 : Rat) = sumQ m (fun _ => 0); rw [sumQ_zero]
  | succ n ih =>
    show sumQ n _ + sumQ m (fun j => f n j) = sumQ m (fun j => sumQ n (fun i => f i j) + f n j)
    rw [ih, sumQ_add]
/-- The first one apart. -/
theorem sumQ_head (n : Nat) (f : Nat → Rat) : sumQ (n + 1) f = f 0 + sumQ n (fun i => f (i + 1)) := by
  induction n with
  | zero => show (0 : Rat) + f 0 = f 0 + 0; grind
  | succ n ih =>
    show sumQ (n + 1) f + f (n + 1) = f 0 + (sumQ n (fun i => f (i + 1)) + f (n + 1))
    rw [ih]; grind
/-- One alone. -/
theorem sumQ_one {n k : Nat} {f : Nat → Rat} (hk : k < n) (h : ∀ i, i < n → i ≠ k → f i = 0) : sumQ n f = f k := by
  induction n with
  | zero => omega
  | succ n ih =>
    show sumQ n f + f n = f k
    by_cases e : k = n
    · subst e
      have : sumQ k f = sumQ k (fun _ => 0) := sumQ_congr fun i hi => h i (by omega) (by omega)
      rw [this, sumQ_zero]; grind
    · rw [ih (by omega) (fun i hi hn => h i (by omega) hn), h n (by omega) (by omega)]; grind
/-- Two neighbours exchanged. -/
def trI (r i : Nat) : Nat := if i = r then r + 1 else if i = r + 1 then r else i
theorem sumQ_tr {n r : Nat} (hr : r + 1 < n) (f : Nat → Rat) : sumQ n (fun i => f (trI r i)) = sumQ n f := by
  induction n with
  | zero => omega
  | succ n ih =>
    show sumQ n _ + f (trI r n) = sumQ n f + f n
    by_cases e : r + 1 = n
    · subst e
      show (sumQ r _ + f (trI r r)) + f (trI r (r + 1)) = (sumQ r f + f r) + f (r + 1)
      have h1 : sumQ r (fun i => f (trI r i)) = sumQ r f := sumQ_congr fun i hi => by unfold trI; rw [if_neg (by omega), if_neg (by omega)]
      have h2 : trI r r = r + 1 := by unfold trI; rw [if_pos rfl]
      have h3 : trI r (r + 1) = r := by unfold trI; rw [if_neg (by omega), if_pos rfl]
      rw [h1, h2, h3]; grind
    · have h1 : trI r n = n := by unfold trI; rw [if_neg (by omega), if_neg (by omega)]
      rw [ih (by omega), h1]
theorem sgnQ_succ (i : Nat) : sgnQ (i + 1) = - sgnQ i := by
  unfold sgnQ
  by_cases h : i % 2 = 0
  · rw [if_pos h, if_neg (by omega)]
  · rw [if_neg h, if_pos (by omega)]; grind

theorem detF_congr {n : Nat} {M N : Nat → Nat → Rat} (h : ∀ a b, a < n → b < n → M a b = N a b) : detF n M = detF n N := by
  induction n generalizing M N with
  | zero => rfl
  | succ n ih =>
    show sumQ (n + 1) _ = sumQ (n + 1) _
    refine sumQ_congr fun i hi => ?_
    rw [h i 0 hi (by omega), ih (M := fun a b => M (sk i a) (b + 1)) (N := fun a b => N (sk i a) (b + 1)) (fun a b ha hb => h _ _ (by unfold sk; split <;> omega) (by omega))]
/-- A row exchanged. -/
def updR (M : Nat → Nat → Rat) (r : Nat) (u : Nat → Rat) : Nat → Nat → Rat := fun a b => if a = r then u b else M a b
theorem updR_sk_same (M : Nat → Nat → Rat) (r : Nat) (u : Nat → Rat) : (fun a b => updR M r u (sk r a) (b + 1)) = fun a b => M (sk r a) (b + 1) := by
  funext a b; unfold updR sk; rw [if_neg (by split <;> omega)]
theorem updR_sk {M : Nat → Nat → Rat} {r i : Nat} (u : Nat → Rat) (h : i ≠ r) : (fun a b => updR M r u (sk i a) (b + 1)) = updR (fun a b => M (sk i a) (b + 1)) (if r < i then r else r - 1) (fun b => u (b + 1)) := by
  funext a b; unfold updR sk
  show (if (if a < i then a else a + 1) = r then u (b + 1) else M (if a < i then a else a + 1) (b + 1)) = if a = (if r < i then r else r - 1) then u (b + 1) else M (if a < i then a else a + 1) (b + 1)
  have : ((if a < i then a else a + 1) = r) = (a = (if r < i then r else r - 1)) := by
    apply propext
    by_cases h1 : r < i <;> by_cases h2 : a < i <;> simp only [h1, h2, if_true, if_false] <;> omega
  simp only [this]
theorem detF_row {n : Nat} (M : Nat → Nat → Rat) {r : Nat} (hr : r < n) (u v : Nat → Rat) (c : Rat) :
    detF n (updR M r fun b => u b + c * v b) = detF n (updR M r u) + c * detF n (updR M r v) := by
  induction n generalizing M r u v with
  | zero => omega
  | succ n ih =>
    show sumQ (n + 1) _ = sumQ (n + 1) _ + c * sumQ (n + 1) _
    rw [← sumQ_mul, ← sumQ_add]
    refine sumQ_congr fun i hi => ?_
    by_cases e : i = r
    · subst e
      simp only [updR_sk_same]
      have h : ∀ u, updR M i u i 0 = u 0 := fun u => by unfold updR; rw [if_pos rfl]
      rw [h, h, h]; grind
    · have h : ∀ u, updR M r u i 0 = M i 0 := fun u => by unfold updR; rw [if_neg e]
      rw [h, h, h, updR_sk _ e, updR_sk _ e, updR_sk _ e, ih _ (by split <;> omega)]
      grind
theorem detF_adj {n : Nat} (M : Nat → Nat → Rat) {r : Nat} (hr : r + 1 < n) : detF n (fun a b => M (trI r a) b) = - detF n M := by
  induction n generalizing M r with
  | zero => omega
  | succ n ih =>
    show sumQ (n + 1) _ = - sumQ (n + 1) _
    rw [← sumQ_tr hr, ← sumQ_neg]
    refine sumQ_congr fun i hi => ?_
    have hrr : trI r (trI r i) = i := by unfold trI; repeat' split <;> try omega
    show sgnQ (trI r i) * M (trI r (trI r i)) 0 * detF n (fun a b => M (trI r (sk (trI r i) a)) (b + 1)) = -(sgnQ i * M i 0 * detF n fun a b => M (sk i a) (b + 1))
    rw [hrr]
    by_cases e1 : i = r
    · subst e1
      have h1 : trI i i = i + 1 := by unfold trI; rw [if_pos rfl]
      rw [h1, sgnQ_succ]
      have : (fun a b => M (trI i (sk (i + 1) a)) (b + 1)) = fun a b => M (sk i a) (b + 1) := by
        funext a b; congr 1; unfold trI sk; repeat' split <;> try omega
      rw [this]; grind
    · by_cases e2 : i = r + 1
      · subst e2
        have h1 : trI r (r + 1) = r := by unfold trI; rw [if_neg (by omega), if_pos rfl]
        rw [h1, sgnQ_succ]
        have : (fun a b => M (trI r (sk r a)) (b + 1)) = fun a b => M (sk (r + 1) a) (b + 1) := by
          funext a b; congr 1; unfold trI sk; repeat' split <;> try omega
        rw [this]; grind
      · have h1 : trI r i = i := by unfold trI; rw [if_neg e1, if_neg e2]
        rw [h1]
        have : (fun a b => M (trI r (sk i a)) (b + 1)) = fun a b => (fun a b => M (sk i a) (b + 1)) (trI (if r < i then r else r - 1) a) b := by
          funext a b; congr 1; unfold trI sk; repeat' split <;> try omega
        rw [this]
        have e := ih (fun a b => M (sk i a) (b + 1)) (r := if r < i then r else r - 1) (by split <;> omega)
        rw [e]
        grind
/-- Any two rows exchanged. -/
def trJ (i j a : Nat) : Nat := if a = i then j else if a = j then i else a
theorem detF_swap {n : Nat} (M : Nat → Nat → Rat) {i j : Nat} (hij : i < j) (hj : j < n) : detF n (fun a b => M (trJ i j a) b) = - detF n M := by
  obtain ⟨d, rfl⟩ : ∃ d, j = i + 1 + d := ⟨j - i - 1, by omega⟩
  clear hij
  induction d generalizing M with
  | zero =>
    have : (fun a b => M (trJ i (i + 1 + 0) a) b) = fun a b => M (trI i a) b := by
      funext a b; congr 1
    rw [this]; exact detF_adj M hj
  | succ d ih =>
    have : (fun a b => M (trJ i (i + 1 + (d + 1)) a) b) = fun a b => (fun a b => (fun a b => M (trI (i + 1 + d) a) b) (trJ i (i + 1 + d) a) b) (trI (i + 1 + d) a) b := by
      funext a b; congr 1; unfold trJ trI; repeat' split <;> try omega
    rw [this]
    have e1 := detF_adj (n := n) (fun a b => (fun a b => M (trI (i + 1 + d) a) b) (trJ i (i + 1 + d) a) b) (r := i + 1 + d) (by omega)
    have e2 := ih (fun a b => M (trI (i + 1 + d) a) b) (by omega)
    have e3 := detF_adj (n := n) M (r := i + 1 + d) (by omega)
    rw [e1, e2, e3]
    grind
theorem rat_neg_self {x : Rat} (h : x = -x) : x = 0 := by
  have : x + x = 0 := by rw [show x + x = x - (-x) by grind, ← h]; grind
  have : 2 * x = 0 := by grind
  grind
theorem detF_eq {n : Nat} {M : Nat → Nat → Rat} {i j : Nat} (hi : i < n) (hj : j < n) (hne : i ≠ j) (h : ∀ b, b < n → M i b = M j b) : detF n M = 0 := by
  have key : ∀ i j, i < j → j < n → (∀ b, b < n → M i b = M j b) → detF n M = 0 := by
    intro i j hij hj h
    have h1 := detF_swap M hij hj
    have h2 : detF n (fun a b => M (trJ i j a) b) = detF n M := detF_congr fun a b ha hb => by
      unfold trJ
      split
      · rename_i e; rw [e, h b hb]
      · split
        · rename_i e; rw [e, h b hb]
        · rfl
    rw [h2] at h1
    exact rat_neg_self h1
  rcases Nat.lt_or_gt_of_ne hne with e | e
  · exact key i j e hj h
  · exact key j i e hi (fun b hb => (h b hb).symm)
/-- A row of zeros. -/
theorem detF_zero_row {n : Nat} {M : Nat → Nat → Rat} {r : Nat} (hr : r < n) (h : ∀ b, b < n → M r b = 0) : detF n M = 0 := by
  have h1 := detF_row M hr (fun _ => 0) (fun _ => 0) (-1)
  have h2 : detF n (updR M r fun _ => 0) = detF n M := detF_congr fun a b ha hb => by
    unfold updR; split
    · rename_i e; rw [e, h b hb]
    · rfl
  rw [show (fun b : Nat => (0 : Rat) + -1 * 0) = fun _ => 0 by funext b; grind, h2] at h1
  grind
/-! ## By the first row; the transposed matrix -/
def detG : Nat → (Nat → Nat → Rat) → Rat
  | 0, _ => 1
  | n + 1, M => sumQ (n + 1) fun j => sgnQ j * M 0 j * detG n fun a b => M (a + 1) (sk j b)
theorem detG_tr (n : Nat) (M : Nat → Nat → Rat) : detG n M = detF n fun a b => M b a := by
  induction n generalizing M with
  | zero => rfl
  | succ n ih =>
    show sumQ (n + 1) _ = sumQ (n + 1) _
    refine sumQ_congr fun i hi => ?_
    rw [ih]
theorem sk_succ_zero (i : Nat) : sk (i + 1) 0 = 0 := by unfold sk; rw [if_pos (by omega)]
theorem sk_succ (i a : Nat) : sk (i + 1) (a + 1) = sk i a + 1 := by
  unfold sk; by_cases h : a < i
  · rw [if_pos h, if_pos (by omega)]
  · rw [if_neg h, if_neg (by omega)]
theorem detF_eq_detG : ∀ (n : Nat) (M : Nat → Nat → Rat), detF n M = detG n M ∧ detF (n + 1) M = detG (n + 1) M
  | 0, M => ⟨rfl, rfl⟩
  | n + 1, M => by
    refine ⟨(detF_eq_detG n M).2, ?_⟩
    have h1 : detF (n + 2) M = sgnQ 0 * M 0 0 * detF (n + 1) (fun a b => M (a + 1) (b + 1)) + sumQ (n + 1) fun i => sumQ (n + 1) fun j => sgnQ (i + 1) * M (i + 1) 0 * (sgnQ j * M 0 (j + 1) * detF n (fun a b => M (sk i a + 1) (sk j b + 1))) := by
      show sumQ (n + 2) _ = _
      rw [sumQ_head]
      congr 1
      refine sumQ_congr fun i hi => ?_
      rw [sumQ_mul]
      congr 1
      rw [(detF_eq_detG n _).2]
      show sumQ (n + 1) _ = sumQ (n + 1) _
      refine sumQ_congr fun j hj => ?_
      rw [← (detF_eq_detG n _).1]
      simp only [sk_succ, sk_succ_zero]
    have h2 : detG (n + 2) M = sgnQ 0 * M 0 0 * detG (n + 1) (fun a b => M (a + 1) (b + 1)) + sumQ (n + 1) fun j => sumQ (n + 1) fun i => sgnQ (j + 1) * M 0 (j + 1) * (sgnQ i * M (i + 1) 0 * detF n (fun a b => M (sk i a + 1) (sk j b + 1))) := by
      show sumQ (n + 2) _ = _
      rw [sumQ_head]
      congr 1
      refine sumQ_congr fun j hj => ?_
      rw [sumQ_mul]
      congr 1
      rw [← (detF_eq_detG n _).2]
      show sumQ (n + 1) _ = sumQ (n + 1) _
      refine sumQ_congr fun i hi => ?_
      simp only [sk_succ, sk_succ_zero]
    rw [h1, h2, ← (detF_eq_detG n _).2]
    congr 1
    rw [sumQ_comm]
    refine sumQ_congr fun j hj => sumQ_congr fun i hi => ?_
    rw [sgnQ_succ, sgnQ_succ]; grind
theorem detF_tr (n : Nat) (M : Nat → Nat → Rat) : detF n (fun a b => M b a) = detF n M := by
  rw [← detG_tr, (detF_eq_detG n M).1]
/-- A last column with one element, in the last row. -/
theorem detF_last {n : Nat} {M : Nat → Nat → Rat} (h : ∀ a, a < n → M a n = 0) : detF (n + 1) M = M n n * detF n M := by
  induction n generalizing M with
  | zero => show (0 : Rat) + sgnQ 0 * M 0 0 * 1 = M 0 0 * 1; unfold sgnQ; rw [if_pos rfl]; grind
  | succ n ih =>
    show sumQ (n + 1) _ + sgnQ (n + 1) * M (n + 1) 0 * detF (n + 1) (fun a b => M (sk (n + 1) a) (b + 1)) = M (n + 1) (n + 1) * sumQ (n + 1) _
    have h0 : detF (n + 1) (fun a b => M (sk (n + 1) a) (b + 1)) = 0 := by
      rw [← detF_tr]
      refine detF_zero_row (r := n) (by omega) fun b hb => ?_
      show M (sk (n + 1) b) (n + 1) = 0
      exact h _ (by unfold sk; rw [if_pos hb]; exact hb)
    rw [h0, ← sumQ_mul]
    rw [show ∀ x y : Rat, x + y * 0 = x by intros; grind]
    refine sumQ_congr fun i hi => ?_
    rw [ih (M := fun a b => M (sk i a) (b + 1)) (fun a ha => h _ (by unfold sk; split <;> omega))]
    have : sk i n = n + 1 := by unfold sk; rw [if_neg (by omega)]
    simp only [this]
    grind
/-- The determinant of the identity. -/
theorem detF_one (n : Nat) : detF n (fun a b => if a = b then 1 else 0) = 1 := by
  induction n with
  | zero => rfl
  | succ n ih =>
    rw [detF_last (fun a ha => if_neg (by omega)), ih]
    simp
/-- The columns as the rows. -/
theorem detF_col {n : Nat} (M : Nat → Nat → Rat) {r : Nat} (hr : r < n) (u v : Nat → Rat) (c : Rat) :
    detF n (fun a b => if b = r then u a + c * v a else M a b) = detF n (fun a b => if b = r then u a else M a b) + c * detF n (fun a b => if b = r then v a else M a b) := by
  have h := detF_row (fun a b => M b a) hr u v c
  rw [← detF_tr, ← detF_tr n (fun a b => if b = r then u a else M a b), ← detF_tr n (fun a b => if b = r then v a else M a b)]
  exact h
theorem detF_col_eq {n : Nat} {M : Nat → Nat → Rat} {i j : Nat} (hi : i < n) (hj : j < n) (hne : i ≠ j) (h : ∀ b, b < n → M b i = M b j) : detF n M = 0 := by
  rw [← detF_tr]; exact detF_eq hi hj hne h
/-- A column that is a sum of multiples of columns. -/
theorem detF_col_sum {n : Nat} (M : Nat → Nat → Rat) {r : Nat} (hr : r < n) (u : Nat → Rat) (m : Nat) (f : Nat → Rat) (v : Nat → Nat → Rat) :
    detF n (fun a b => if b = r then u a + sumQ m (fun l => f l * v l a) else M a b) = detF n (fun a b => if b = r then u a else M a b) + sumQ m (fun l => f l * detF n (fun a b => if b = r then v l a else M a b)) := by
  induction m with
  | zero =>
    show detF n (fun a b => if b = r then u a + 0 else M a b) = _ + (0 : Rat)
    rw [show (fun a b => if b = r then u a + 0 else M a b) = fun a b => if b = r then u a else M a b by funext a b; split <;> grind]
    grind
  | succ m ih =>
    show detF n (fun a b => if b = r then u a + (sumQ m (fun l => f l * v l a) + f m * v m a) else M a b) = _ + (sumQ m _ + f m * _)
    rw [show (fun a b => if b = r then u a + (sumQ m (fun l => f l * v l a) + f m * v m a) else M a b) = fun a b => if b = r then (u a + sumQ m (fun l => f l * v l a)) + f m * v m a else M a b by funext a b; split <;> grind]
    rw [detF_col M hr (fun a => u a + sumQ m (fun l => f l * v l a)) (v m) (f m), ih]
    grind
end Go.Proofs.YtjihfabhgcfjnaaGreatDoor
/- Minors of rows of a lattice are multiples of those of its Hermite form. No program is named here. -/
namespace Go.Proofs.YtjihfabhgcfjnaaGreatDoor
set_option linter.unusedVariables false
set_option linter.unusedSimpArgs false

def updV (V : Nat → List Int) (r : Nat) (x : List Int) : Nat → List Int := fun a => if a = r then x else V a
theorem updV_self (V : Nat → List Int) (r : Nat) : updV V r (V r) = V := by
  funext a; unfold updV; split
  · rename_i h; rw [h]
  · rfl
/-- Linear in each of k rows, and alternating. -/
structure Alt (n k : Nat) (G : (Nat → List Int) → Rat) : Prop where
  lin : ∀ V r x y (q : Int), r < k → x.length = y.length → G (updV V r (lessL q x y)) = G (updV V r x) + (-(q : Rat)) * G (updV V r y)
  zero : ∀ V r, r < k → G (updV V r (List.replicate n 0)) = 0
  eq : ∀ V i j, i < k → j < k → i ≠ j → V i = V j → G V = 0
  swap : ∀ V i j, i < j → j < k → G (fun a => V (trJ i j a)) = - G V
  ext : ∀ V W, (∀ a, a < k → V a = W a) → G V = G W
def mnr (S : Nat → Nat) (V : Nat → List Int) : Nat → Nat → Rat := fun a b => (((V a).getD (S b) 0 : Int) : Rat)
def phi (k : Nat) (S : Nat → Nat) (V : Nat → List Int) : Rat := detF k (mnr S V)
theorem mnr_upd (S : Nat → Nat) (V : Nat → List Int) (r : Nat) (x : List Int) : mnr S (updV V r x) = updR (mnr S V) r fun b => ((x.getD (S b) 0 : Int) : Rat) := by
  funext a b; unfold mnr updV updR; split <;> rfl
theorem phi_alt (n k : Nat) (S : Nat → Nat) : Alt n k (phi k S) where
  lin V r x y q hr hl := by
    unfold phi
    rw [mnr_upd, mnr_upd, mnr_upd, ← detF_row _ hr]
    congr 1
    funext a b; unfold updR; split
    · simp only
      rw [lessL_getD q hl.symm]
      rw [Rat.intCast_sub, Rat.intCast_mul]; grind
    · rfl
  zero V r hr := by
    unfold phi
    refine detF_zero_row hr fun b _ => ?_
    rw [mnr_upd]; unfold updR; rw [if_pos rfl]
    simp only
    have : (List.replicate n (0 : Int)).getD (S b) 0 = 0 := (Sp.zero (n := n) (S := fun _ => False)).zeroCol (fun _ h => h.elim) (fun _ h => h.elim)
    rw [this]; rfl
  eq V i j hi hj hne h := by
    unfold phi
    exact detF_eq hi hj hne fun b _ => by unfold mnr; rw [h]
  swap V i j hij hj := detF_swap (mnr S V) hij hj
  ext V W h := detF_congr fun a b ha _ => by unfold mnr; rw [h a ha]
theorem comb_alt {n k : Nat} {G H : (Nat → List Int) → Rat} (hG : Alt n k G) (hH : Alt n k H) (c d : Rat) : Alt n k (fun V => c * G V - d * H V) where
  lin V r x y q hr hl := by rw [hG.lin V r x y q hr hl, hH.lin V r x y q hr hl]; grind
  zero V r hr := by rw [hG.zero V r hr, hH.zero V r hr]; grind
  eq V i j hi hj hne h := by rw [hG.eq V i j hi hj hne h, hH.eq V i j hi hj hne h]; grind
  swap V i j hij hj := by rw [hG.swap V i j hij hj, hH.swap V i j hij hj]; grind
  ext V W h := by rw [hG.ext V W h, hH.ext V W h]

/-- A property of numbers that sums of multiples have. -/
structure Clo (Q : Rat → Prop) : Prop where
  zero : Q 0
  add : ∀ x y (q : Int), Q x → Q y → Q (x + (-(q : Rat)) * y)
theorem Clo.neg {Q : Rat → Prop} (h : Clo Q) {x : Rat} (hx : Q x) : Q (-x) := by
  have := h.add 0 x 1 h.zero hx
  have e : (0 : Rat) + -((1 : Int) : Rat) * x = -x := by grind
  rw [e] at this; exact this
theorem alt_row {n k : Nat} {G : (Nat → List Int) → Rat} {Q : Rat → Prop} (hG : Alt n k G) (hQ : Clo Q) {T : List Int → Prop} (hT : AllLen n T) (V : Nat → List Int) {r : Nat} (hr : r < k) (h : ∀ x, T x → Q (G (updV V r x))) {v : List Int} (hv : Sp n T v) : Q (G (updV V r v)) := by
  induction hv with
  | zero => rw [hG.zero V r hr]; exact hQ.zero
  | mem hx => exact h _ hx
  | less q a b iha ihb => rw [hG.lin V r _ _ q hr (by rw [a.len hT, b.len hT])]; exact hQ.add _ _ q iha ihb
theorem alt_all {n k : Nat} {G : (Nat → List Int) → Rat} {Q : Rat → Prop} (hG : Alt n k G) (hQ : Clo Q) {T : List Int → Prop} (hT : AllLen n T) (h : ∀ V, (∀ a, a < k → T (V a)) → Q (G V)) :
    ∀ j, j ≤ k → ∀ V, (∀ a, a < j → Sp n T (V a)) → (∀ a, j ≤ a → a < k → T (V a)) → Q (G V)
  | 0, _, V, _, h2 => h V fun a ha => h2 a (Nat.zero_le _) ha
  | j + 1, hj, V, h1, h2 => by
    rw [← updV_self V j]
    refine alt_row hG hQ hT V (by omega) (fun x hx => ?_) (h1 j (by omega))
    refine alt_all hG hQ hT h j (by omega) (updV V j x) (fun a ha => ?_) fun a ha hak => ?_
    · unfold updV; rw [if_neg (by omega)]; exact h1 a (by omega)
    · unfold updV; split
      · exact hx
      · exact h2 a (by omega) hak
theorem pigeon : ∀ (k : Nat) (f : Nat → Nat), (∀ a, a ≤ k → f a < k) → ∃ a b, a < b ∧ b ≤ k ∧ f a = f b
  | 0, f, h => by have := h 0 (Nat.le_refl _); omega
  | k + 1, f, h => by
    by_cases hex : ∃ a, a ≤ k ∧ f a = f (k + 1)
    · obtain ⟨a, h1, h2⟩ := hex
      exact ⟨a, k + 1, by omega, Nat.le_refl _, h2⟩
    · have hne : ∀ a, a ≤ k → f a ≠ f (k + 1) := fun a ha he => hex ⟨a, ha, he⟩
      have hv := h (k + 1) (Nat.le_refl _)
      obtain ⟨a, b, h1, h2, h3⟩ := pigeon k (fun a => if f a = k then f (k + 1) else f a) (fun a ha => by
        have h1 := h a (by omega)
        have h2 := hne a ha
        split <;> omega)
      refine ⟨a, b, h1, by omega, ?_⟩
      have ha := hne a (by omega)
      have hb := hne b h2
      split at h3 <;> split at h3 <;> omega
/-- Rows of a matrix of k rows, in whatever order. -/
theorem alt_base {n k : Nat} {G : (Nat → List Int) → Rat} {Q : Rat → Prop} (hG : Alt n k G) (hQ : Clo Q) (R : Nat → List Int) (h : Q (G R)) :
    ∀ (j r : Nat), k - r = j → r ≤ k → ∀ f : Nat → Nat, (∀ a, a < k → f a < k) → (∀ a, a < r → f a = a) → Q (G fun a => R (f a))
  | 0, r, hj, hr, f, h1, h2 => by
    rw [hG.ext _ R fun a ha => by rw [h2 a (by omega)]]; exact h
  | j + 1, r, hj, hr, f, h1, h2 => by
    by_cases hex : ∃ a, r ≤ a ∧ a < k ∧ f a = r
    · obtain ⟨a, a1, a2, a3⟩ := hex
      by_cases har : a = r
      · exact alt_base hG hQ R h j (r + 1) (by omega) (by omega) f h1 fun b hb => by
          by_cases hbr : b = r
          · rw [hbr, ← har, a3, har]
          · exact h2 b (by omega)
      · have := alt_base hG hQ R h j (r + 1) (by omega) (by omega) (fun b => f (trJ r a b)) (fun b hb => h1 _ (by unfold trJ; split; omega; split <;> omega)) fun b hb => by
          unfold trJ
          by_cases hbr : b = r
          · rw [if_pos hbr, a3, hbr]
          · rw [if_neg hbr, if_neg (by omega)]; exact h2 b (by omega)
        have e := hG.swap (fun b => R (f b)) r a (by omega) a2
        have e2 : (fun b => R (f (trJ r a b))) = fun b => (fun b => R (f b)) (trJ r a b) := rfl
        rw [e2, e] at this
        have := hQ.neg this
        rw [Rat.neg_neg] at this; exact this
    · -- r is no value: two places have the same one
      obtain ⟨k', rfl⟩ : ∃ k', k = k' + 1 := ⟨k - 1, by omega⟩
      have hne : ∀ a, a ≤ k' → f a ≠ r := fun a ha he => by
        by_cases har : a < r
        · rw [h2 a har] at he; omega
        · exact hex ⟨a, by omega, by omega, he⟩
      obtain ⟨a, b, q1, q2, q3⟩ := pigeon k' (fun a => if f a = k' then r else f a) (fun a ha => by
        have g1 := h1 a (by omega)
        have g2 := hne a ha
        split <;> omega)
      have ha := hne a (by omega)
      have hb := hne b q2
      have hab : f a = f b := by
        split at q3 <;> split at q3 <;> omega
      rw [hG.eq (fun a => R (f a)) a b (by omega) (by omega) (by omega) (by rw [hab])]
      exact hQ.zero
/-- What the rows of a matrix satisfy, all rows that they generate satisfy. -/
theorem alt_sp {n : Nat} {G : (Nat → List Int) → Rat} {Q : Rat → Prop} {R : List (List Int)} (hG : Alt n R.length G) (hQ : Clo Q) (hW : Wid n R) (h : Q (G (rowE_ R))) (V : Nat → List Int) (hV : ∀ a, a < R.length → Sp n (RowsFrom 0 R) (V a)) : Q (G V) := by
  refine alt_all hG hQ (rowsFrom_len hW) (fun V hV => ?_) R.length (Nat.le_refl _) V hV fun a h1 h2 => by omega
  have hf : ∃ f : Nat → Nat, ∀ a, a < R.length → f a < R.length ∧ rowE_ R (f a) = V a := by
    refine ⟨fun a => if h : a < R.length then Classical.choose (hV a h) else 0, fun a ha => ?_⟩
    simp only [dif_pos ha]
    exact (Classical.choose_spec (hV a ha)).2
  obtain ⟨f, hf⟩ := hf
  rw [hG.ext V (fun a => rowE_ R (f a)) fun a ha => (hf a ha).2.symm]
  exact alt_base hG hQ (rowE_ R) h _ 0 rfl (Nat.zero_le _) f (fun a ha => (hf a ha).1) fun a ha => by omega
end Go.Proofs.YtjihfabhgcfjnaaGreatDoor
/- The elements of a Hermite form are bounded by minors. No program is named here. -/
namespace Go.Proofs.YtjihfabhgcfjnaaGreatDoor
set_option linter.unusedVariables false
set_option linter.unusedSimpArgs false

/-- k rows of elements up to N: no determinant is greater. -/
def facN (N : Nat) : Nat → Nat
  | 0 => 1
  | k + 1 => (k + 1) * (N * facN N k)
theorem sum_int {B : Nat} {f : Nat → Rat} : ∀ {n : Nat}, (∀ i, i < n → ∃ z : Int, f i = (z : Rat) ∧ z.natAbs ≤ B) → ∃ z : Int, sumQ n f = (z : Rat) ∧ z.natAbs ≤ n * B
  | 0, _ => ⟨0, rfl, by omega⟩
  | n + 1, h => by
    obtain ⟨z, h1, h2⟩ := sum_int fun i (hi : i < n) => h i (by omega)
    obtain ⟨y, h3, h4⟩ := h n (by omega)
    refine ⟨z + y, ?_, ?_⟩
    · show sumQ n f + f n = _
      rw [h1, h3, Rat.intCast_add]
    · rw [Nat.add_mul]; omega
theorem det_int {N : Nat} : ∀ (k : Nat) (m : Nat → Nat → Int), (∀ a b, a < k → b < k → (m a b).natAbs ≤ N) → ∃ z : Int, detF k (fun a b => (m a b : Rat)) = (z : Rat) ∧ z.natAbs ≤ facN N k
  | 0, m, h => ⟨1, rfl, by unfold facN; decide⟩
  | k + 1, m, h => by
    unfold facN
    refine sum_int (B := N * facN N k) fun i hi => ?_
    obtain ⟨z, h1, h2⟩ := det_int k (fun a b => m (sk i a) (b + 1)) fun a b ha hb => h _ _ (by unfold sk; split <;> omega) (by omega)
    have hb : (m i 0 * z).natAbs ≤ N * facN N k := by rw [Int.natAbs_mul]; exact Nat.mul_le_mul (h i 0 hi (by omega)) h2
    simp only
    rw [h1]
    unfold sgnQ
    split
    · exact ⟨m i 0 * z, by rw [Rat.intCast_mul]; grind, hb⟩
    · exact ⟨-(m i 0 * z), by rw [Rat.intCast_neg, Rat.intCast_mul]; grind, by rw [Int.natAbs_neg]; exact hb⟩

/-- The product of the first pivots. -/
def prodP (R : List (List Int)) (ps : Nat → Nat) : Nat → Int
  | 0 => 1
  | j + 1 => getE R j (ps j) * prodP R ps j
theorem prodP_pos {n : Nat} {R : List (List Int)} {ps : Nat → Nat} (hR : HForm n R ps) : ∀ j, j ≤ R.length → 0 < prodP R ps j ∧ ∀ i, i < j → getE R i (ps i) ≤ prodP R ps j
  | 0, _ => ⟨by unfold prodP; decide, fun i hi => by omega⟩
  | j + 1, hj => by
    obtain ⟨h1, h2⟩ := prodP_pos hR j (by omega)
    have hp := hR.2.pos j (by omega)
    have e : prodP R ps (j + 1) = getE R j (ps j) * prodP R ps j := rfl
    have a1 : 1 * prodP R ps j ≤ getE R j (ps j) * prodP R ps j := Int.mul_le_mul_of_nonneg_right (by omega) (by omega)
    have a2 : getE R j (ps j) * 1 ≤ getE R j (ps j) * prodP R ps j := Int.mul_le_mul_of_nonneg_left (by omega) (by omega)
    rw [e]
    refine ⟨by omega, fun i hi => ?_⟩
    by_cases hij : i = j
    · rw [hij]; omega
    · have := h2 i (by omega); omega
theorem phi_piv {n : Nat} {R : List (List Int)} {ps : Nat → Nat} (hR : HForm n R ps) : ∀ j, j ≤ R.length → phi j ps (rowE_ R) = (prodP R ps j : Rat)
  | 0, _ => rfl
  | j + 1, hj => by
    have ih := phi_piv hR j (by omega)
    unfold phi at ih ⊢
    rw [← detF_tr, detF_last, detF_tr, ih]
    · show _ = ((getE R j (ps j) * prodP R ps j : Int) : Rat)
      rw [Rat.intCast_mul]; rfl
    · intro a ha
      show (((rowE_ R j).getD (ps a) 0 : Int) : Rat) = 0
      have : (rowE_ R j).getD (ps a) 0 = 0 := hR.2.zero j (by omega) (ps a) (hR.2.mono a j ha (by omega))
      rw [this]; rfl

theorem back_sub {k : Nat} (M : Nat → Nat → Rat) (hz : ∀ a b, b < a → a < k → M a b = 0) (hd : ∀ a, a < k → M a a ≠ 0) (y : Nat → Rat) : ∀ j, j ≤ k → ∃ x : Nat → Rat, ∀ a, k - j ≤ a → a < k → y a = sumQ k fun l => x l * M a l
  | 0, _ => ⟨fun _ => 0, fun a h1 h2 => by omega⟩
  | j + 1, hj => by
    obtain ⟨x, hx⟩ := back_sub M hz hd y j (by omega)
    obtain ⟨r, hr⟩ : ∃ r, r = k - (j + 1) := ⟨_, rfl⟩
    obtain ⟨q, hq⟩ : ∃ q, q = (y r - sumQ k fun l => if l = r then 0 else x l * M r l) / M r r := ⟨_, rfl⟩
    refine ⟨fun l => if l = r then q else x l, fun a h1 h2 => ?_⟩
    by_cases har : a = r
    · rw [har]
      have hf : (sumQ k fun l => (if l = r then q else x l) * M r l) = sumQ k fun l => (if l = r then 0 else x l * M r l) + if l = r then q * M r r else 0 := by
        refine sumQ_congr fun l _ => ?_
        by_cases hl : l = r
        · rw [if_pos hl, if_pos hl, if_pos hl, hl]; grind
        · rw [if_neg hl, if_neg hl, if_neg hl]; grind
      rw [hf, sumQ_add, sumQ_one (k := r) (by omega) (fun i _ hi => if_neg hi), if_pos rfl, hq]
      have := hd r (by omega)
      rw [Rat.div_mul_cancel this]; grind
    · rw [hx a (by omega) h2]
      refine sumQ_congr fun l _ => ?_
      show x l * M a l = (if l = r then q else x l) * M a l
      by_cases hl : l = r
      · rw [if_pos hl, hl, hz a r (by omega) h2]; grind
      · rw [if_neg hl]
end Go.Proofs.YtjihfabhgcfjnaaGreatDoor
