/- Pieces of nine digits, the least significant one first: their values, sums, products, quotients. No program is named here. -/
namespace Go.Proofs.YtpeinobepiodaaaGreatDoor
set_option linter.unusedVariables false
set_option linter.unusedSimpArgs false

/-- The powers of the base. -/
def pB : Nat → Nat
  | 0 => 1
  | k + 1 => 1000000000 * pB k
theorem pB_zero : pB 0 = 1 := rfl
theorem pB_succ (k : Nat) : pB (k + 1) = 1000000000 * pB k := rfl
theorem pB_pos (k : Nat) : 0 < pB k := by
  induction k with
  | zero => exact Nat.one_pos
  | succ k ih => rw [pB_succ]; omega
theorem pB_add (a b : Nat) : pB (a + b) = pB a * pB b := by
  induction a with
  | zero => rw [Nat.zero_add, pB_zero, Nat.one_mul]
  | succ a ih => rw [Nat.succ_add, pB_succ, pB_succ, ih, Nat.mul_assoc]
theorem pB_mono {a b : Nat} (h : a ≤ b) : pB a ≤ pB b := by
  obtain ⟨c, rfl⟩ := Nat.exists_eq_add_of_le h
  rw [pB_add]
  exact Nat.le_mul_of_pos_right _ (pB_pos c)

/-- The value of pieces. -/
def lv : List Nat → Nat
  | [] => 0
  | x :: r => x + 1000000000 * lv r
theorem lv_nil : lv [] = 0 := rfl
theorem lv_cons (x : Nat) (r : List Nat) : lv (x :: r) = x + 1000000000 * lv r := rfl
theorem lv_append (a b : List Nat) : lv (a ++ b) = lv a + pB a.length * lv b := by
  induction a with
  | nil => rw [List.nil_append, lv_nil, List.length_nil, pB_zero, Nat.one_mul, Nat.zero_add]
  | cons x r ih => rw [List.cons_append, lv_cons, lv_cons, ih, List.length_cons, pB_succ, Nat.mul_add, Nat.mul_assoc, Nat.add_assoc]
/-- Pieces are less than the base. -/
def Pcs (l : List Nat) : Prop := ∀ x ∈ l, x < 1000000000
theorem Pcs.nil : Pcs [] := fun x h => by simp at h
theorem Pcs.cons {x : Nat} {l : List Nat} (hx : x < 1000000000) (h : Pcs l) : Pcs (x :: l) := fun y hy => by
  rcases List.mem_cons.1 hy with rfl | hy
  · exact hx
  · exact h y hy
theorem Pcs.tail {x : Nat} {l : List Nat} (h : Pcs (x :: l)) : Pcs l := fun y hy => h y (List.mem_cons_of_mem _ hy)
theorem Pcs.append {a b : List Nat} (h : Pcs a) (k : Pcs b) : Pcs (a ++ b) := fun y hy => by
  rcases List.mem_append.1 hy with hy | hy
  · exact h y hy
  · exact k y hy
theorem Pcs.take {l : List Nat} (h : Pcs l) (k : Nat) : Pcs (l.take k) := fun y hy => h y (List.mem_of_mem_take hy)
theorem Pcs.drop {l : List Nat} (h : Pcs l) (k : Nat) : Pcs (l.drop k) := fun y hy => h y (List.mem_of_mem_drop hy)
theorem Pcs.set {l : List Nat} (h : Pcs l) (k x : Nat) (hx : x < 1000000000) : Pcs (l.set k x) := fun y hy => by
  rcases List.mem_or_eq_of_mem_set hy with hy | rfl
  · exact h y hy
  · exact hx
theorem Pcs.zeros (n : Nat) : Pcs (List.replicate n 0) := fun y hy => by
  have := (List.mem_replicate.1 hy).2; omega
theorem Pcs.get {l : List Nat} (h : Pcs l) {k x : Nat} (hx : l[k]? = some x) : x < 1000000000 := h x (List.mem_of_getElem? hx)
theorem lv_lt {l : List Nat} (h : Pcs l) : lv l < pB l.length := by
  induction l with
  | nil => exact Nat.one_pos
  | cons x r ih =>
    have h1 := h x (by simp)
    have h2 := ih h.tail
    rw [lv_cons, List.length_cons, pB_succ]
    omega
theorem lv_zeros (n : Nat) : lv (List.replicate n 0) = 0 := by
  induction n with
  | zero => rfl
  | succ n ih => rw [List.replicate_succ, lv_cons, ih]
theorem lv_split (l : List Nat) (k : Nat) (h : k ≤ l.length) : lv l = lv (l.take k) + pB k * lv (l.drop k) := by
  have := lv_append (l.take k) (l.drop k)
  rw [List.take_append_drop, List.length_take, Nat.min_eq_left h] at this
  exact this
theorem lv_take_succ {l : List Nat} {k x : Nat} (h : l[k]? = some x) : lv (l.take (k + 1)) = lv (l.take k) + pB k * x := by
  have hk := (List.getElem?_eq_some_iff.1 h).1
  rw [List.take_add_one, h, lv_append, List.length_take, Nat.min_eq_left (by omega)]
  show _ + pB k * (x + 1000000000 * 0) = _
  rw [Nat.mul_zero, Nat.add_zero]
theorem lv_drop_succ {l : List Nat} {k x : Nat} (h : l[k]? = some x) : lv (l.drop k) = x + 1000000000 * lv (l.drop (k + 1)) := by
  have hk := (List.getElem?_eq_some_iff.1 h).1
  have e : l[k] = x := (List.getElem?_eq_some_iff.1 h).2
  rw [List.drop_eq_getElem_cons hk, lv_cons, e]
/-- A piece is exchanged. -/
theorem lv_set {l : List Nat} {k a : Nat} (b : Nat) (h : l[k]? = some a) : lv (l.set k b) + pB k * a = lv l + pB k * b := by
  induction l generalizing k with
  | nil => simp at h
  | cons x r ih =>
    cases k with
    | zero =>
      simp at h; subst h
      rw [List.set_cons_zero, lv_cons, lv_cons, pB_zero]; omega
    | succ k =>
      have := ih (k := k) (by simpa using h)
      rw [List.set_cons_succ, lv_cons, lv_cons, pB_succ, Nat.mul_assoc, Nat.mul_assoc]
      omega
theorem lv_take_le (l : List Nat) (k : Nat) : lv (l.take k) ≤ lv l := by
  by_cases h : k ≤ l.length
  · rw [lv_split l k h]; exact Nat.le_add_right _ _
  · rw [List.take_of_length_le (by omega)]; exact Nat.le_refl _

/-- Without zeros at the end. -/
def Can (l : List Nat) : Prop := Pcs l ∧ (∀ x, l[l.length - 1]? = some x → x ≠ 0)
theorem Can.nil : Can [] := ⟨Pcs.nil, fun x h => by simp at h⟩
theorem Can.ge {l : List Nat} (h : Can l) (hl : l ≠ []) : pB (l.length - 1) ≤ lv l := by
  have hp : 0 < l.length := List.length_pos_iff.2 hl
  obtain ⟨x, hx⟩ : ∃ x, l[l.length - 1]? = some x := ⟨_, List.getElem?_eq_getElem (by omega)⟩
  have h0 := h.2 x hx
  rw [lv_split l (l.length - 1) (by omega), lv_drop_succ hx]
  have h1 : pB (l.length - 1) * 1 ≤ pB (l.length - 1) * (x + 1000000000 * lv (l.drop (l.length - 1 + 1))) := Nat.mul_le_mul_left _ (by omega)
  omega
theorem Can.zero {l : List Nat} (h : Can l) : lv l = 0 ↔ l = [] := by
  constructor
  · intro h0
    false_or_by_contra
    rename_i hn
    have h1 := h.ge hn
    have h2 := pB_pos (l.length - 1)
    omega
  · rintro rfl; rfl
/-- More pieces: greater. -/
theorem Can.lt_of_length {a b : List Nat} (ha : Pcs a) (hb : Can b) (h : a.length < b.length) : lv a < lv b := by
  have h1 := lv_lt ha
  have h2 := hb.ge (by rintro rfl; simp at h)
  have h3 : pB a.length ≤ pB (b.length - 1) := pB_mono (by omega)
  omega
theorem Can.length_le {a b : List Nat} (ha : Can a) (hb : Can b) (h : lv a ≤ lv b) : a.length ≤ b.length := by
  false_or_by_contra
  rename_i hn
  have := Can.lt_of_length hb.1 ha (by omega)
  omega
/-- How pieces that are equal from k on compare. -/
theorem lv_cmp {a b : List Nat} {k x y : Nat} (ha : Pcs a) (hb : Pcs b) (hx : a[k]? = some x) (hy : b[k]? = some y) (he : a.drop (k + 1) = b.drop (k + 1)) (h : x < y) : lv a < lv b := by
  have ka := (List.getElem?_eq_some_iff.1 hx).1
  have kb := (List.getElem?_eq_some_iff.1 hy).1
  rw [lv_split a k (by omega), lv_split b k (by omega), lv_drop_succ hx, lv_drop_succ hy, he]
  have h1 := lv_lt (ha.take k)
  rw [List.length_take, Nat.min_eq_left (by omega)] at h1
  have h2 : pB k * (x + 1000000000 * lv (b.drop (k + 1)) + 1) ≤ pB k * (y + 1000000000 * lv (b.drop (k + 1))) := Nat.mul_le_mul_left _ (by omega)
  rw [Nat.mul_add, Nat.mul_one] at h2
  omega

/-! ## Taking away a multiple, and adding again: the rounds of the loops. -/
theorem take_round {p q P n c b x y qk P' : Nat} {old : Nat}
    (hk : P' = 1000000000 * P) (inv : p + n * q = old + (c + b) * P)
    (c' b' p2 q2 : Nat) (hc : c' = c + n * qk) (hy : y + c' % 1000000000 + b = x + b' * 1000000000)
    (hp : p2 + P * x = p + P * y) (hq : n * q2 = n * q + P * (n * qk)) :
    p2 + n * q2 = old + (c' / 1000000000 + b') * P' := by
  have e := Nat.div_add_mod c' 1000000000
  generalize c' / 1000000000 = d at *
  generalize c' % 1000000000 = m at *
  subst hk
  have h1 : P * (y + m + b) = P * (x + b' * 1000000000) := by rw [hy]
  have h2 : P * (1000000000 * d + m) = P * (c + n * qk) := by rw [e, hc]
  grind

theorem times_round {p P P' c x y ab old acc acc2 p2 c' : Nat} (hP : P' = 1000000000 * P) (inv : p + c * P = old + acc) (hc : c' = c + x + ab) (hy : y = c' % 1000000000)
    (hp : p2 + P * x = p + P * y) (hacc : acc2 = acc + P * ab) : p2 + (c' / 1000000000) * P' = old + acc2 := by
  have e := Nat.div_add_mod c' 1000000000
  generalize c' / 1000000000 = d at *
  generalize c' % 1000000000 = m at *
  subst hP hy hacc
  have h2 : P * (1000000000 * d + y) = P * (c + x + ab) := by rw [e, hc]
  grind
theorem small_round {D D' Q n rest x : Nat} (inv : D' = n * Q + rest) (hD : D = x + 1000000000 * D') (hn : 0 < n) :
    D = n * ((rest * 1000000000 + x) / n + 1000000000 * Q) + (rest * 1000000000 + x) % n := by
  have e := Nat.div_add_mod (rest * 1000000000 + x) n
  generalize (rest * 1000000000 + x) / n = d at *
  generalize (rest * 1000000000 + x) % n = m at *
  subst hD inv
  grind
theorem small_lt {n rest x : Nat} (hr : rest < n) (hx : x < 1000000000) : (rest * 1000000000 + x) / n < 1000000000 := by
  rw [Nat.div_lt_iff_lt_mul (by omega)]
  have : (rest + 1) * 1000000000 ≤ n * 1000000000 := Nat.mul_le_mul_right _ hr
  omega

/-! ## Guessing a piece of a quotient. -/
section
variable {W bv L t s bl high a2 wl : Nat}
/-- The guess is not too small. -/
theorem guess_ge {g : Nat} (hb : bv = (t * 1000000000 + s) * L + bl) (hw : W = (high * 1000000000 + a2) * L + wl) (ha2 : a2 < 1000000000) (hwl : wl < L) (ht : 0 < t) (hg : g = high / t) : W / bv ≤ g := by
  subst hg
  rw [Nat.le_div_iff_mul_le ht]
  have h1 : W / bv * bv ≤ W := Nat.div_mul_le_self W bv
  generalize W / bv = q at *
  false_or_by_contra
  rename_i hn
  have h2 : high + 1 ≤ q * t := by omega
  have hL : 0 < L := by omega
  have h3 : (high + 1) * (1000000000 * L) ≤ q * t * (1000000000 * L) := Nat.mul_le_mul_right _ h2
  have h4 : (a2 + 1) * L ≤ 1000000000 * L := Nat.mul_le_mul_right _ (by omega)
  have h5 : q * bv = q * t * (1000000000 * L) + q * (s * L) + q * bl := by subst hb; grind
  have h6 : (high * 1000000000 + a2) * L = high * (1000000000 * L) + a2 * L := by grind
  rw [Nat.add_mul, Nat.one_mul] at h3 h4
  omega
/-- One less, if it is too great. -/
theorem guess_less {g rest : Nat} (hb : bv = (t * 1000000000 + s) * L + bl) (hw : W = (high * 1000000000 + a2) * L + wl) (hwl : wl < L) (hbv : 0 < bv) (hW : W < 1000000000 * bv)
    (hg : W / bv ≤ g) (hr : g * t + rest = high) (h : 1000000000 ≤ g ∨ rest * 1000000000 + a2 < g * s) : W / bv ≤ g - 1 ∧ 0 < g := by
  have h1 : W / bv < 1000000000 := by rw [Nat.div_lt_iff_lt_mul hbv]; exact hW
  rcases h with h | h
  · omega
  · have hg0 : 0 < g := by
      rcases Nat.eq_zero_or_pos g with h0 | h0
      · rw [h0, Nat.zero_mul] at h; omega
      · exact h0
    refine ⟨?_, hg0⟩
    have : W / bv < g := by
      rw [Nat.div_lt_iff_lt_mul hbv]
      have h2 : (rest * 1000000000 + a2 + 1) * L ≤ g * s * L := Nat.mul_le_mul_right _ h
      have h3 : g * bv = g * t * (1000000000 * L) + g * s * L + g * bl := by subst hb; grind
      have h4 : W = g * t * (1000000000 * L) + (rest * 1000000000 + a2) * L + wl := by subst hw hr; grind
      rw [Nat.add_mul, Nat.one_mul] at h2
      omega
    omega
/-- At the end it is at most one too great. -/
theorem guess_end {g rest : Nat} (hb : bv = (t * 1000000000 + s) * L + bl) (hw : W = (high * 1000000000 + a2) * L + wl) (hbl : bl < L) (ht : 0 < t) (hs : s < 1000000000)
    (hr : g * t + rest = high) (hg : g < 1000000000) (h : 1000000000 ≤ rest ∨ g * s ≤ rest * 1000000000 + a2) : g ≤ W / bv + 1 := by
  have hbv : 0 < bv := by
    have : 1 * L ≤ (t * 1000000000 + s) * L := Nat.mul_le_mul_right _ (by omega)
    omega
  have h0 : W < (W / bv + 1) * bv := by
    have := Nat.lt_mul_div_succ W hbv
    rw [Nat.mul_comm]; exact this
  generalize W / bv = q at *
  false_or_by_contra
  rename_i hn
  have h1 : (q + 1 + 1) * bv ≤ g * bv := Nat.mul_le_mul_right _ (by omega)
  have h2 : g * bv = g * t * (1000000000 * L) + g * s * L + g * bl := by subst hb; grind
  have h3 : W = g * t * (1000000000 * L) + (rest * 1000000000 + a2) * L + wl := by subst hw hr; grind
  have h4 : (q + 1 + 1) * bv = (q + 1) * bv + bv := by rw [Nat.add_mul (q + 1), Nat.one_mul]
  have h5 : 1000000000 * L ≤ bv := by
    have : 1 * (1000000000 * L) ≤ t * (1000000000 * L) := Nat.mul_le_mul_right _ ht
    have e : (t * 1000000000 + s) * L = t * (1000000000 * L) + s * L := by grind
    omega
  have h6 : g * bl ≤ g * L := Nat.mul_le_mul_left _ (by omega)
  have h7 : (g + 1) * L ≤ 1000000000 * L := Nat.mul_le_mul_right _ hg
  rw [Nat.add_mul, Nat.one_mul] at h7
  rcases h with h | h
  · have h8 : 1000000000 * (1000000000 * L) ≤ (rest * 1000000000 + a2) * L := by
      have : (1000000000 * 1000000000) * L ≤ (rest * 1000000000 + a2) * L := Nat.mul_le_mul_right _ (by omega)
      grind
    have h9 : g * s * L ≤ 1000000000 * (1000000000 * L) := by
      have : g * s ≤ 1000000000 * 1000000000 := Nat.mul_le_mul (by omega) (by omega)
      have := Nat.mul_le_mul_right L this
      grind
    omega
  · have h8 : g * s * L ≤ (rest * 1000000000 + a2) * L := Nat.mul_le_mul_right _ h
    omega
end

/-! ## The rounds of a division. -/
structure TakeR (p q : List Nat) (n i : Nat) (p' : List Nat) (b : Nat) : Prop where
  len : p'.length = p.length
  pcs : Pcs p'
  low : p'.take i = p.take i
  high : p'.drop (i + q.length + 1) = p.drop (i + q.length + 1)
  val : lv p' + n * (pB i * lv q) = lv p + b * pB (i + q.length + 1)
  le : b ≤ 1
structure BackR (p q : List Nat) (i : Nat) (p' : List Nat) (c : Nat) : Prop where
  len : p'.length = p.length
  pcs : Pcs p'
  low : p'.take i = p.take i
  high : p'.drop (i + q.length + 1) = p.drop (i + q.length + 1)
  val : lv p' + c * pB (i + q.length + 1) = lv p + pB i * lv q
theorem high_zero {A : List Nat} {i n bv : Nat} (h : lv (A.drop (i + 1)) < bv) (hb : bv < pB n) : lv (A.drop (i + n + 1)) = 0 := by
  by_cases hl : n ≤ (A.drop (i + 1)).length
  · have := lv_split (A.drop (i + 1)) n hl
    rw [List.drop_drop] at this
    rw [show i + n + 1 = i + 1 + n by omega]
    generalize lv (A.drop (i + 1 + n)) = z at *
    cases z with
    | zero => rfl
    | succ z => rw [Nat.mul_succ] at this; omega
  · rw [List.length_drop] at hl
    rw [List.drop_eq_nil_of_le (by omega)]; rfl
theorem low_same {A A' : List Nat} {i : Nat} (h : A'.take i = A.take i) (hl : A'.length = A.length) (hi : i ≤ A.length) : lv A' + pB i * lv (A.drop i) = lv A + pB i * lv (A'.drop i) := by
  rw [lv_split A i hi, lv_split A' i (by omega), h]; omega
theorem top_two {b : List Nat} {m t s : Nat} (hl : b.length = m + 2) (ht : b[m + 1]? = some t) (hs : b[m]? = some s) : lv b = (t * 1000000000 + s) * pB m + lv (b.take m) := by
  rw [lv_split b m (by omega), lv_drop_succ hs, lv_drop_succ ht, List.drop_eq_nil_of_le (by omega)]
  rw [lv_nil]; grind
theorem top_three {A : List Nat} {m i a0 a1 a2 : Nat} (h0 : A[i + m + 2]? = some a0) (h1 : A[i + m + 1]? = some a1) (h2 : A[i + m]? = some a2) (hz : lv (A.drop (i + m + 3)) = 0) :
    lv (A.drop i) = ((a0 * 1000000000 + a1) * 1000000000 + a2) * pB m + lv ((A.drop i).take m) := by
  have hl := (List.getElem?_eq_some_iff.1 h0).1
  rw [lv_split (A.drop i) m (by rw [List.length_drop]; omega), List.drop_drop, lv_drop_succ h2, lv_drop_succ h1, lv_drop_succ h0, hz]
  grind
/-- Taken away without a borrow. -/
theorem div_no {A A' b : List Nat} {V bv g i X n : Nat} (hT : TakeR A b g i A' 0) (hn : b.length = n) (hbv : lv b = bv) (hb0 : 0 < bv) (hi : i ≤ A.length)
    (inv : lv A + bv * (pB (i + 1) * X) = V) (hg : lv (A.drop i) / bv ≤ g) :
    lv (A'.drop i) < bv ∧ lv A' + bv * (pB i * (g + 1000000000 * X)) = V := by
  have h1 := hT.val
  have h2 := low_same hT.low hT.len hi
  rw [hbv, Nat.zero_mul, Nat.add_zero] at h1
  rw [pB_succ] at inv
  have hP := pB_pos i
  have h3 : pB i * (lv (A'.drop i) + g * bv) = pB i * lv (A.drop i) := by
    rw [Nat.mul_add]
    have : g * (pB i * bv) = pB i * (g * bv) := by grind
    omega
  have h4 := Nat.eq_of_mul_eq_mul_left hP h3
  refine ⟨?_, ?_⟩
  · have h5 := Nat.lt_mul_div_succ (lv (A.drop i)) hb0
    have h6 : bv * (lv (A.drop i) / bv) ≤ bv * g := Nat.mul_le_mul_left _ hg
    rw [Nat.mul_succ] at h5
    have : g * bv = bv * g := Nat.mul_comm _ _
    omega
  · have : bv * (pB i * (g + 1000000000 * X)) = g * (pB i * bv) + bv * (1000000000 * pB i * X) := by grind
    omega
/-- Taken away too much, and added again. -/
theorem div_back {A A' A'' b : List Nat} {V bv g i X n c : Nat} (hT : TakeR A b g i A' 1) (hB : BackR A' b i A'' c) (hn : b.length = n) (hbv : lv b = bv) (hb0 : 0 < bv) (hbn : bv < pB n) (hi : i + n + 1 ≤ A.length)
    (hA1 : lv (A.drop (i + 1)) < bv) (inv : lv A + bv * (pB (i + 1) * X) = V) (hg : g ≤ lv (A.drop i) / bv + 1) :
    0 < g ∧ lv (A''.drop i) < bv ∧ lv A'' + bv * (pB i * (g - 1 + 1000000000 * X)) = V := by
  have h1 := hT.val
  have h2 := low_same hT.low hT.len (by omega)
  have h3 := hB.val
  have h4 := low_same (hB.low.trans hT.low) (hB.len.trans hT.len) (by omega)
  have hz := high_zero hA1 hbn
  have hz1 := hT.high
  have hz2 := hB.high
  rw [hn] at hz1 hz2 h1 h3
  have u1 : lv (A'.drop i) < pB (n + 1) := by
    have := lv_split (A'.drop i) (n + 1) (by rw [List.length_drop, hT.len]; omega)
    rw [List.drop_drop, show i + (n + 1) = i + n + 1 by omega, hz1, hz, Nat.mul_zero, Nat.add_zero] at this
    rw [this]
    have hl := lv_lt ((hT.pcs.drop i).take (n + 1))
    rw [List.length_take, List.length_drop, hT.len, Nat.min_eq_left (by omega)] at hl
    exact hl
  have u2 : lv (A''.drop i) < pB (n + 1) := by
    have := lv_split (A''.drop i) (n + 1) (by rw [List.length_drop, hB.len, hT.len]; omega)
    rw [List.drop_drop, show i + (n + 1) = i + n + 1 by omega, hz2, hz1, hz, Nat.mul_zero, Nat.add_zero] at this
    rw [this]
    have hl := lv_lt ((hB.pcs.drop i).take (n + 1))
    rw [List.length_take, List.length_drop, hB.len, hT.len, Nat.min_eq_left (by omega)] at hl
    exact hl
  have hP := pB_pos i
  rw [hbv] at h1 h3
  rw [show i + n + 1 = i + (n + 1) by omega, pB_add] at h1 h3
  rw [pB_succ] at inv
  have e1 : lv (A'.drop i) + g * bv = lv (A.drop i) + pB (n + 1) := by
    refine Nat.eq_of_mul_eq_mul_left hP ?_
    rw [Nat.mul_add, Nat.mul_add]
    have : g * (pB i * bv) = pB i * (g * bv) := by grind
    omega
  have e2 : lv (A''.drop i) + c * pB (n + 1) = lv (A'.drop i) + bv := by
    refine Nat.eq_of_mul_eq_mul_left hP ?_
    rw [Nat.mul_add, Nat.mul_add]
    have : c * (pB i * pB (n + 1)) = pB i * (c * pB (n + 1)) := by grind
    omega
  have h5 := Nat.div_add_mod (lv (A.drop i)) bv
  have h6 := Nat.mod_lt (lv (A.drop i)) hb0
  generalize lv (A.drop i) / bv = q at *
  generalize lv (A.drop i) % bv = r at *
  have hYb : bv < pB (n + 1) := by rw [pB_succ]; omega
  have hgb : g = q + 1 := by
    false_or_by_contra
    rename_i hne
    have : g * bv ≤ q * bv := Nat.mul_le_mul_right _ (by omega)
    rw [Nat.mul_comm q bv] at this
    omega
  subst hgb
  rw [Nat.add_mul, Nat.one_mul, Nat.mul_comm q bv] at e1
  have hc : c = 1 := by
    match c with
    | 0 => omega
    | 1 => rfl
    | c + 2 =>
      exfalso
      have : (c + 2) * pB (n + 1) = c * pB (n + 1) + 2 * pB (n + 1) := Nat.add_mul _ _ _
      omega
  subst hc
  refine ⟨by omega, by omega, ?_⟩
  rw [Nat.add_sub_cancel]
  have : bv * (pB i * (q + 1000000000 * X)) = q * (pB i * bv) + bv * (1000000000 * pB i * X) := by grind
  have : (q + 1) * (pB i * bv) = q * (pB i * bv) + pB i * bv := by rw [Nat.add_mul, Nat.one_mul]
  omega
/-- What is left at the end. -/
theorem div_end {u v f V bv R Q : Nat} (hV : V = u * f) (hbv : bv = v * f) (hv : 0 < v) (hf : 0 < f) (h : R + bv * Q = V) (hR : R < bv) : Q = u / v ∧ R = (u % v) * f := by
  subst hV hbv
  have hvf : 0 < v * f := Nat.mul_pos hv hf
  have e1 : Q = u * f / (v * f) := by
    rw [← h, Nat.add_mul_div_left _ _ hvf, Nat.div_eq_of_lt hR, Nat.zero_add]
  have e2 : R = u * f % (v * f) := by
    rw [← h, Nat.add_mul_mod_self_left, Nat.mod_eq_of_lt hR]
  rw [Nat.mul_div_mul_right _ _ hf] at e1
  rw [Nat.mul_mod_mul_right] at e2
  exact ⟨e1, e2⟩
end Go.Proofs.YtpeinobepiodaaaGreatDoor
