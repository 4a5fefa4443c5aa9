/- Merged: RedS, UnitQ. -/
import Derived.Test.YtpeinobepiodaaaGreatDoorMatQ
/- The reduced form of rows of rationals as package table works it out (plain). -/
namespace Go.Proofs.YtpeinobepiodaaaGreatDoor
set_option linter.unusedVariables false
set_option linter.unusedSimpArgs false
open Go.RowKit

def rowQ (m : List (List Rat)) (i : Nat) : List Rat := m.getD i []
def elQ (m : List (List Rat)) (i c : Nat) : Rat := (rowQ m i).getD c 0
theorem rowQ_get {m : List (List Rat)} {i : Nat} {r : List Rat} (h : m[i]? = some r) : rowQ m i = r := by
  unfold rowQ; rw [List.getD_eq_getElem?_getD, h]; rfl
theorem get_rowQ {m : List (List Rat)} {i : Nat} (h : i < m.length) : m[i]? = some (rowQ m i) := by
  rw [rowQ_get (List.getElem?_eq_getElem h)]; exact List.getElem?_eq_getElem h
theorem elQ_get {m : List (List Rat)} {i c : Nat} {x : Rat} (h : (rowQ m i)[c]? = some x) : elQ m i c = x := by
  unfold elQ; rw [List.getD_eq_getElem?_getD, h]; rfl
/-- The first row from one on whose element in a column is not 0. -/
def findP (m : List (List Rat)) (c : Nat) : Nat → Nat → Nat
  | 0, a => a
  | f + 1, a => if elQ m a c = 0 then findP m c f (a + 1) else a
theorem findP_eq (m : List (List Rat)) (c : Nat) : ∀ (f a b : Nat), a ≤ b → b ≤ a + f → (∀ j, a ≤ j → j < b → elQ m j c = 0) → (b < a + f → elQ m b c ≠ 0) → findP m c f a = b
  | 0, a, b, h1, h2, _, _ => by show a = b; omega
  | f + 1, a, b, h1, h2, h3, h4 => by
    unfold findP
    by_cases hab : a = b
    · subst hab
      rw [if_neg (h4 (by omega))]
    · rw [if_pos (h3 a (Nat.le_refl _) (by omega))]
      exact findP_eq m c f (a + 1) b (by omega) (by omega) (fun j hj hb => h3 j (by omega) hb) (fun hb => h4 (by omega))

/-- The first j elements are new. -/
def partN {α : Type} (new old : List α) (j : Nat) : List α := new.take j ++ old.drop j
theorem partN_zero {α : Type} (new old : List α) : partN new old 0 = old := by simp [partN]
theorem partN_len {α : Type} (new old : List α) (j : Nat) (h : new.length = old.length) : (partN new old j).length = old.length := by
  unfold partN; rw [List.length_append, List.length_take, List.length_drop]; omega
theorem partN_all {α : Type} (new old : List α) (j : Nat) (h : new.length = old.length) (hj : old.length ≤ j) : partN new old j = new := by
  unfold partN; rw [List.take_of_length_le (by omega), List.drop_eq_nil_of_le hj, List.append_nil]
theorem partN_get {α : Type} {new old : List α} {j k : Nat} {a : α} (h : new.length = old.length) (hk : j ≤ k) (ho : old[k]? = some a) : (partN new old j)[k]? = some a := by
  have hl := (List.getElem?_eq_some_iff.1 ho).1
  unfold partN
  rw [List.getElem?_append_right (by rw [List.length_take]; omega), List.length_take, List.getElem?_drop, show j + (k - min j new.length) = k by omega]
  exact ho
theorem partN_set {α : Type} {new old : List α} {j : Nat} {a : α} (h : new.length = old.length) (hn : new[j]? = some a) : (partN new old j).set j a = partN new old (j + 1) := by
  have hl := (List.getElem?_eq_some_iff.1 hn).1
  have hj : j < old.length := by omega
  unfold partN
  rw [List.take_add_one, hn, List.set_append_right _ _ (by rw [List.length_take]; omega), List.length_take, show j - min j new.length = 0 by omega]
  have e := List.drop_eq_getElem_cons hj
  rw [e, List.set_cons_zero, List.append_assoc]
  rfl

def divRow (r : List Rat) (q : Rat) : List Rat := r.map (· / q)
def subRow (r s : List Rat) (f : Rat) : List Rat := List.zipWith (fun x y => x - f * y) r s
theorem divRow_get {r : List Rat} {q x : Rat} {j : Nat} (h : r[j]? = some x) : (divRow r q)[j]? = some (x / q) := by
  simp [divRow, h]
theorem subRow_get {r s : List Rat} {f x y : Rat} {j : Nat} (h : r[j]? = some x) (h' : s[j]? = some y) : (subRow r s f)[j]? = some (x - f * y) := by
  simp [subRow, List.getElem?_zipWith, h, h']
theorem divRow_len (r : List Rat) (q : Rat) : (divRow r q).length = r.length := by simp [divRow]
theorem subRow_len (r s : List Rat) (f : Rat) (h : s.length = r.length) : (subRow r s f).length = r.length := by simp [subRow, h]
/-- A row without its element in the pivot's column. -/
def elimR (p : List Rat) (c k i : Nat) (r : List Rat) : List Rat := if i = k ∨ r.getD c 0 = 0 then r else subRow r p (r.getD c 0)
def elimTo (m : List (List Rat)) (p : List Rat) (c k : Nat) : Nat → List (List Rat)
  | 0 => m
  | j + 1 => (elimTo m p c k j).set j (elimR p c k j (rowQ (elimTo m p c k j) j))
theorem elimTo_len (m : List (List Rat)) (p : List Rat) (c k j : Nat) : (elimTo m p c k j).length = m.length := by
  induction j with
  | zero => rfl
  | succ j ih => show ((elimTo m p c k j).set j _).length = _; rw [List.length_set, ih]
theorem elimTo_get (m : List (List Rat)) (p : List Rat) (c k : Nat) : ∀ (j i : Nat), j ≤ i → (elimTo m p c k j)[i]? = m[i]?
  | 0, i, _ => rfl
  | j + 1, i, h => by
    show ((elimTo m p c k j).set j _)[i]? = _
    rw [List.getElem?_set, if_neg (by omega)]
    exact elimTo_get m p c k j i (by omega)
theorem elimR_len {p : List Rat} {c k i : Nat} {r : List Rat} (h : p.length = r.length) : (elimR p c k i r).length = r.length := by
  unfold elimR; split
  · rfl
  · exact subRow_len _ _ _ h
/-- The pivot's row stays. -/
theorem elimTo_pivot (m : List (List Rat)) (p : List Rat) (c k : Nat) : ∀ j, (elimTo m p c k j)[k]? = m[k]?
  | 0 => rfl
  | j + 1 => by
    show ((elimTo m p c k j).set j _)[k]? = _
    by_cases h : j = k
    · subst h
      rw [List.getElem?_set, if_pos rfl]
      have e := elimTo_get m p c j j j (Nat.le_refl _)
      by_cases hl : j < m.length
      · rw [if_pos (by rw [elimTo_len]; exact hl)]
        unfold elimR
        rw [if_pos (.inl rfl)]
        rw [← e]
        exact (get_rowQ (by rw [elimTo_len]; exact hl)).symm
      · rw [if_neg (by rw [elimTo_len]; exact hl), List.getElem?_eq_none (by omega)]
    · rw [List.getElem?_set, if_neg h]
      exact elimTo_pivot m p c k j

structure RedSt where
  m : List (List Rat)
  lead : List Nat
  det : Rat
/-- One column. -/
def stepR (c : Nat) (s : RedSt) : RedSt :=
  let k := s.lead.length
  let a := findP s.m c (s.m.length - k) k
  if a = s.m.length then ⟨s.m, s.lead, 0⟩
  else
    let m1 := if a = k then s.m else swp s.m k a
    let d1 := if a = k then s.det else -s.det
    let f := elQ m1 k c
    let m2 := m1.set k (divRow (rowQ m1 k) f)
    ⟨elimTo m2 (divRow (rowQ m1 k) f) c k m2.length, s.lead ++ [c], d1 * f⟩
def redTo (m : List (List Rat)) : Nat → RedSt
  | 0 => ⟨m, [], 1⟩
  | c + 1 => stepR c (redTo m c)
/-- All rows have C elements. -/
def Rect (C : Nat) (m : List (List Rat)) : Prop := ∀ r ∈ m, r.length = C
theorem Rect.get {C : Nat} {m : List (List Rat)} (h : Rect C m) {i : Nat} {r : List Rat} (hr : m[i]? = some r) : r.length = C := h r (List.mem_of_getElem? hr)
theorem Rect.set {C : Nat} {m : List (List Rat)} (h : Rect C m) (i : Nat) {r : List Rat} (hr : r.length = C) : Rect C (m.set i r) := fun q hq => by
  rcases List.mem_or_eq_of_mem_set hq with hq | rfl
  · exact h q hq
  · exact hr
theorem Rect.swp {C : Nat} {m : List (List Rat)} (h : Rect C m) (i j : Nat) : Rect C (swp m i j) := by
  unfold Proofs.YtpeinobepiodaaaGreatDoor.swp
  split
  · rename_i a b ha hb
    exact (h.set i (h.get hb)).set j (h.get ha)
  · exact h
theorem Rect.elim {C : Nat} {m : List (List Rat)} (h : Rect C m) {p : List Rat} (hp : p.length = C) (c k : Nat) : ∀ j, j ≤ m.length → Rect C (elimTo m p c k j)
  | 0, _ => h
  | j + 1, hj => by
    have ih := Rect.elim h hp c k j (by omega)
    have hr := ih.get (get_rowQ (m := elimTo m p c k j) (i := j) (by rw [elimTo_len]; omega))
    exact ih.set j (by rw [elimR_len (by rw [hp, hr])]; exact hr)
theorem stepR_shape {C c : Nat} {s : RedSt} (h : Rect C s.m) (hk : s.lead.length ≤ s.m.length) : Rect C (stepR c s).m ∧ (stepR c s).m.length = s.m.length ∧ (stepR c s).lead.length ≤ s.m.length := by
  unfold stepR
  simp only
  by_cases ha : findP s.m c (s.m.length - s.lead.length) s.lead.length = s.m.length
  · rw [if_pos ha]; exact ⟨h, rfl, hk⟩
  · rw [if_neg ha]
    have hm1 : ∀ a, Rect C (if a = s.lead.length then s.m else Proofs.YtpeinobepiodaaaGreatDoor.swp s.m s.lead.length a) ∧ (if a = s.lead.length then s.m else Proofs.YtpeinobepiodaaaGreatDoor.swp s.m s.lead.length a).length = s.m.length := by
      intro a; split
      · exact ⟨h, rfl⟩
      · exact ⟨h.swp _ _, swp_length _ _ _⟩
    have hfl : ∀ f a, findP s.m c f a ≤ a + f := by
      intro f
      induction f with
      | zero => intro a; exact Nat.le_refl _
      | succ f ih => intro a; unfold findP; split
                     · have := ih (a + 1); omega
                     · omega
    have hlt : s.lead.length < s.m.length := by
      false_or_by_contra
      rename_i hn
      have e : s.m.length - s.lead.length = 0 := by omega
      rw [e] at ha
      exact ha (by show s.lead.length = _; omega)
    generalize findP s.m c (s.m.length - s.lead.length) s.lead.length = a at *
    obtain ⟨r1, r2⟩ := hm1 a
    generalize (if a = s.lead.length then s.m else Proofs.YtpeinobepiodaaaGreatDoor.swp s.m s.lead.length a) = m1 at *
    have hr := r1.get (get_rowQ (m := m1) (i := s.lead.length) (by omega))
    have hd : (divRow (rowQ m1 s.lead.length) (elQ m1 s.lead.length c)).length = C := by rw [divRow_len, hr]
    refine ⟨(r1.set _ hd).elim hd c _ _ (Nat.le_refl _), by rw [elimTo_len, List.length_set, r2], by rw [List.length_append]; simp; omega⟩
theorem redTo_shape {C : Nat} {m : List (List Rat)} (h : Rect C m) : ∀ c, Rect C (redTo m c).m ∧ (redTo m c).m.length = m.length ∧ (redTo m c).lead.length ≤ m.length
  | 0 => ⟨h, rfl, Nat.zero_le _⟩
  | c + 1 => by
    obtain ⟨h1, h2, h3⟩ := redTo_shape h c
    obtain ⟨k1, k2, k3⟩ := stepR_shape (c := c) h1 (by omega)
    exact ⟨k1, by show (stepR c (redTo m c)).m.length = _; omega, by show (stepR c (redTo m c)).lead.length ≤ _; omega⟩
/-- All elements are of at most K bytes. -/
def AllRS (K : Nat) (m : List (List Rat)) : Prop := ∀ r ∈ m, ∀ x ∈ r, RS K x
theorem AllRS.get {K : Nat} {m : List (List Rat)} (h : AllRS K m) {i j : Nat} {r : List Rat} {x : Rat} (hr : m[i]? = some r) (hx : r[j]? = some x) : RS K x := h r (List.mem_of_getElem? hr) x (List.mem_of_getElem? hx)
theorem AllRS.swp {K : Nat} {m : List (List Rat)} (h : AllRS K m) (i j : Nat) : AllRS K (Proofs.YtpeinobepiodaaaGreatDoor.swp m i j) := by
  unfold Proofs.YtpeinobepiodaaaGreatDoor.swp
  split
  · rename_i a b ha hb
    intro r hr x hx
    rcases List.mem_or_eq_of_mem_set hr with hr | rfl
    · rcases List.mem_or_eq_of_mem_set hr with hr | rfl
      · exact h r hr x hx
      · exact h _ (List.mem_of_getElem? hb) x hx
    · exact h _ (List.mem_of_getElem? ha) x hx
  · exact h
/-- Sizes of results. -/
theorem mkRat_size (n : Int) (d : Nat) (hd : d ≠ 0) : (intB (mkRat n d).num).size ≤ (intB n).size ∧ (numB (mkRat n d).den).size ≤ (numB d).size := by
  obtain ⟨h1, h2⟩ := mkRat_parts n d hd
  rw [h1, h2]
  exact ⟨ediv_size _ _, num_le_mono (Nat.div_le_self _ _)⟩
theorem mul_RS {K L : Nat} {x y : Rat} (hx : RS K x) (hy : RS L y) : RS (K + L + 1) (x * y) := by
  have h := mkRat_size (x.num * y.num) (x.den * y.den) (Nat.mul_ne_zero x.den_nz y.den_nz)
  rw [← Rat.mul_def'] at h
  have h1 := int_mul_size x.num y.num
  have h2 := num_mul_size x.den y.den
  have a1 := hx.1; have a2 := hx.2; have a3 := hy.1; have a4 := hy.2
  exact ⟨by omega, by omega⟩
theorem inv_RS {K : Nat} {y : Rat} (hy : RS K y) (h0 : y ≠ 0) : RS (K + 1) y⁻¹ := by
  rw [Rat.inv_def]
  have hn : y.num ≠ 0 := fun h => h0 (Rat.num_eq_zero.1 h)
  have a3 := hy.1; have a4 := hy.2
  have hs1 := intB_size_le (-(y.den : Int))
  have hs2 := natAbs_le y.num
  rw [Int.natAbs_neg] at hs1
  have e2 : (y.den : Int).natAbs = y.den := rfl
  rw [e2] at hs1
  by_cases h : y.num < 0
  · have e : y.num = -(y.num.natAbs : Int) := by omega
    rw [e, divInt_neg _ _ (by omega)]
    have := mkRat_size (-(y.den : Int)) y.num.natAbs (by omega)
    exact ⟨by omega, by omega⟩
  · have e : y.num = (y.num.natAbs : Int) := by omega
    rw [e, divInt_pos]
    have := mkRat_size (y.den : Int) y.num.natAbs (by omega)
    rw [eb] at this
    exact ⟨by omega, by omega⟩
theorem div_RS {K L : Nat} {x y : Rat} (hx : RS K x) (hy : RS L y) (h0 : y ≠ 0) : RS (K + L + 2) (x / y) := by
  rw [Rat.div_def]
  exact (mul_RS hx (inv_RS hy h0)).mono (by omega)
theorem neg_RS {K : Nat} {y : Rat} (hy : RS K y) : RS (K + 1) (-y) := by
  refine ⟨?_, by show (numB y.den).size ≤ _; have := hy.2; omega⟩
  have h1 := intB_size_le (-y.num)
  have h2 := natAbs_le y.num
  rw [Int.natAbs_neg] at h1
  rw [Rat.neg_num]
  have := hy.1
  omega
end Go.Proofs.YtpeinobepiodaaaGreatDoor
/- The reduced form of matrices of zeros and ones with at most one 1 in each column (plain). -/
namespace Go.Proofs.YtpeinobepiodaaaGreatDoor
set_option linter.unusedVariables false
set_option linter.unusedSimpArgs false

def rowQI (r : List Int) : List Rat := r.map fun x : Int => (x : Rat)
theorem rowQI_len (r : List Int) : (rowQI r).length = r.length := by simp [rowQI]
def matQ (m : List (List Int)) : List (List Rat) := m.map rowQI
theorem matQ_len (m : List (List Int)) : (matQ m).length = m.length := by simp [matQ]
/-- Zeros and ones, at most one 1 in each column. -/
structure UnitQ (m : List (List Rat)) : Prop where
  val : ∀ i j, elQ m i j = 0 ∨ elQ m i j = 1
  one : ∀ i i' j, elQ m i j = 1 → elQ m i' j = 1 → i = i'
theorem elQ_out {m : List (List Rat)} {i c : Nat} (h : m.length ≤ i) : elQ m i c = 0 := by
  unfold elQ rowQ
  rw [List.getD_eq_getElem?_getD (l := m), List.getElem?_eq_none h]
  simp
theorem rat_one_ne : (1 : Rat) ≠ 0 := by decide
theorem elQ_swp {m : List (List Rat)} {a b : Nat} (ha : a < m.length) (hb : b < m.length) (i j : Nat) : elQ (swp m a b) i j = elQ m (if i = b then a else if i = a then b else i) j := by
  unfold elQ rowQ
  rw [List.getD_eq_getElem?_getD (l := swp m a b), List.getD_eq_getElem?_getD (l := m), swp_get (List.getElem?_eq_getElem ha) (List.getElem?_eq_getElem hb)]
  by_cases h1 : i = b
  · rw [if_pos h1, if_pos h1, List.getElem?_eq_getElem ha]
  · rw [if_neg h1, if_neg h1]
    by_cases h2 : i = a
    · rw [if_pos h2, if_pos h2, List.getElem?_eq_getElem hb]
    · rw [if_neg h2, if_neg h2]
theorem UnitQ.swp {m : List (List Rat)} (h : UnitQ m) {a b : Nat} (ha : a < m.length) (hb : b < m.length) : UnitQ (Proofs.YtpeinobepiodaaaGreatDoor.swp m a b) := by
  refine ⟨fun i j => by rw [elQ_swp ha hb]; exact h.val _ _, fun i i' j h1 h2 => ?_⟩
  rw [elQ_swp ha hb] at h1 h2
  have e := h.one _ _ _ h1 h2
  repeat' split at e
  all_goals omega
theorem findP_spec (m : List (List Rat)) (c : Nat) : ∀ (f a : Nat), a ≤ findP m c f a ∧ findP m c f a ≤ a + f ∧ (∀ j, a ≤ j → j < findP m c f a → elQ m j c = 0) ∧ (findP m c f a < a + f → elQ m (findP m c f a) c ≠ 0)
  | 0, a => ⟨Nat.le_refl _, Nat.le_refl _, fun j h1 h2 => by have : j < a := h2; omega, fun h => by have : a < a + 0 := h; omega⟩
  | f + 1, a => by
    unfold findP
    by_cases h : elQ m a c = 0
    · rw [if_pos h]
      obtain ⟨h1, h2, h3, h4⟩ := findP_spec m c f (a + 1)
      refine ⟨by omega, by omega, fun j hj1 hj2 => ?_, fun hh => h4 (by omega)⟩
      by_cases e : j = a
      · rw [e]; exact h
      · exact h3 j (by omega) hj2
    · rw [if_neg h]
      exact ⟨Nat.le_refl _, by omega, fun j h1 h2 => by omega, fun _ => h⟩
theorem rat_div_one (x : Rat) : x / 1 = x := by rw [Rat.div_def, show (1 : Rat)⁻¹ = 1 by decide +kernel, Rat.mul_one]
theorem divRow_one (r : List Rat) : divRow r 1 = r := by
  unfold divRow
  conv => rhs; rw [← List.map_id r]
  apply List.map_congr_left
  intro x _
  exact rat_div_one x
theorem set_rowQ {m : List (List Rat)} {k : Nat} (h : k < m.length) : m.set k (rowQ m k) = m := by
  apply List.ext_getElem?
  intro j
  rw [List.getElem?_set]
  by_cases e : k = j
  · subst e; rw [if_pos rfl, if_pos h, get_rowQ h]
  · rw [if_neg e]
theorem elimTo_id {m : List (List Rat)} {p : List Rat} {c k : Nat} (h : ∀ i, i ≠ k → elQ m i c = 0) : ∀ j, j ≤ m.length → elimTo m p c k j = m
  | 0, _ => rfl
  | j + 1, hj => by
    have ih := elimTo_id (m := m) (p := p) h j (by omega)
    show (elimTo m p c k j).set j (elimR p c k j (rowQ (elimTo m p c k j) j)) = m
    rw [ih]
    unfold elimR
    have : j = k ∨ (rowQ m j).getD c 0 = 0 := by
      by_cases e : j = k
      · exact .inl e
      · exact .inr (h j e)
    rw [if_pos this]
    exact set_rowQ (by omega)
/-- One column. -/
theorem stepR_unit {c : Nat} {s : RedSt} (h : UnitQ s.m) (hk : s.lead.length ≤ s.m.length) :
    (stepR c s = ⟨s.m, s.lead, 0⟩ ∧ ∀ j, s.lead.length ≤ j → elQ s.m j c = 0) ∨
    ∃ a, s.lead.length ≤ a ∧ a < s.m.length ∧ elQ s.m a c = 1 ∧ (∀ j, s.lead.length ≤ j → j < a → elQ s.m j c = 0) ∧
      stepR c s = ⟨if a = s.lead.length then s.m else swp s.m s.lead.length a, s.lead ++ [c], if a = s.lead.length then s.det else -s.det⟩ := by
  obtain ⟨h1, h2, h3, h4⟩ := findP_spec s.m c (s.m.length - s.lead.length) s.lead.length
  unfold stepR
  simp only
  generalize findP s.m c (s.m.length - s.lead.length) s.lead.length = a at *
  by_cases ha : a = s.m.length
  · rw [if_pos ha]
    refine .inl ⟨rfl, fun j hj => ?_⟩
    by_cases e : j < s.m.length
    · exact h3 j hj (by omega)
    · exact elQ_out (by omega)
  · rw [if_neg ha]
    have hlt : a < s.m.length := by omega
    have hk2 : s.lead.length < s.m.length := by omega
    have hv : elQ s.m a c = 1 := (h.val a c).resolve_left (h4 (by omega))
    refine .inr ⟨a, h1, hlt, hv, h3, ?_⟩
    have hu : UnitQ (if a = s.lead.length then s.m else Proofs.YtpeinobepiodaaaGreatDoor.swp s.m s.lead.length a) := by
      split
      · exact h
      · exact h.swp hk2 hlt
    have hp : elQ (if a = s.lead.length then s.m else Proofs.YtpeinobepiodaaaGreatDoor.swp s.m s.lead.length a) s.lead.length c = 1 := by
      by_cases e : a = s.lead.length
      · rw [if_pos e, ← e]; exact hv
      · rw [if_neg e, elQ_swp hk2 hlt, if_neg (Ne.symm e), if_pos rfl]; exact hv
    have hl : (if a = s.lead.length then s.m else Proofs.YtpeinobepiodaaaGreatDoor.swp s.m s.lead.length a).length = s.m.length := by
      split
      · rfl
      · exact swp_length _ _ _
    generalize (if a = s.lead.length then s.m else Proofs.YtpeinobepiodaaaGreatDoor.swp s.m s.lead.length a) = m1 at *
    rw [hp, divRow_one, set_rowQ (by omega), elimTo_id _ _ (Nat.le_refl _), Rat.mul_one]
    intro i hi
    rcases hu.val i c with h0 | h0
    · exact h0
    · exact absurd (hu.one _ _ _ h0 hp) hi
/-- All along the way: zeros and ones; the determinant is 0, 1 or -1. -/
theorem redTo_unit {m : List (List Rat)} {C : Nat} (hC : Rect C m) (h : UnitQ m) : ∀ c, UnitQ (redTo m c).m ∧ ((redTo m c).det = 0 ∨ (redTo m c).det = 1 ∨ (redTo m c).det = -1)
  | 0 => ⟨h, .inr (.inl rfl)⟩
  | c + 1 => by
    obtain ⟨h1, h2⟩ := redTo_unit hC h c
    obtain ⟨r1, r2, r3⟩ := redTo_shape hC c
    rcases stepR_unit (c := c) h1 (by omega) with ⟨e, -⟩ | ⟨a, ha1, ha2, -, -, e⟩
    · show UnitQ (stepR c (redTo m c)).m ∧ _
      refine ⟨by rw [e]; exact h1, .inl ?_⟩
      show (stepR c (redTo m c)).det = 0
      rw [e]
    · show UnitQ (stepR c (redTo m c)).m ∧ ((stepR c (redTo m c)).det = 0 ∨ (stepR c (redTo m c)).det = 1 ∨ (stepR c (redTo m c)).det = -1)
      rw [e]
      refine ⟨?_, ?_⟩
      · show UnitQ (if a = _ then _ else _)
        split
        · exact h1
        · exact h1.swp (by omega) ha2
      · show (if a = _ then _ else _) = (0 : Rat) ∨ (if a = _ then _ else _) = (1 : Rat) ∨ (if a = _ then _ else _) = (-1 : Rat)
        split
        · exact h2
        · rcases h2 with h2 | h2 | h2 <;> rw [h2]
          · left; decide
          · right; right; decide
          · right; left; decide
/-- A column of zeros stays, and makes the determinant 0. -/
theorem redTo_zero {m : List (List Rat)} {C : Nat} (hC : Rect C m) (h : UnitQ m) {z : Nat} (hz : ∀ i, elQ m i z = 0) : ∀ c, (∀ i, elQ (redTo m c).m i z = 0) ∧ (z < c → (redTo m c).det = 0)
  | 0 => ⟨hz, fun hh => by omega⟩
  | c + 1 => by
    obtain ⟨h1, h2⟩ := redTo_zero hC h hz c
    obtain ⟨r1, r2, r3⟩ := redTo_shape hC c
    have hu := (redTo_unit hC h c).1
    rcases stepR_unit (c := c) hu (by omega) with ⟨e, -⟩ | ⟨a, ha1, ha2, hv, -, e⟩
    · show (∀ i, elQ (stepR c (redTo m c)).m i z = 0) ∧ (_ → (stepR c (redTo m c)).det = 0)
      rw [e]
      exact ⟨h1, fun _ => rfl⟩
    · have hne : z ≠ c := fun e2 => by
        have hv0 := h1 a
        rw [e2] at hv0
        rw [hv0] at hv
        exact rat_one_ne hv.symm
      show (∀ i, elQ (stepR c (redTo m c)).m i z = 0) ∧ (_ → (stepR c (redTo m c)).det = 0)
      rw [e]
      refine ⟨fun i => ?_, fun hh => ?_⟩
      · show elQ (if a = _ then _ else _) i z = 0
        split
        · exact h1 i
        · rw [elQ_swp (by omega) ha2]; exact h1 _
      · show (if a = _ then _ else _) = (0 : Rat)
        rw [h2 (by omega)]
        split
        · rfl
        · decide
/-- The unit matrix. -/
theorem redTo_one {m : List (List Rat)} (h : ∀ i j, elQ m i j = if i = j ∧ i < m.length then 1 else 0) (hC : Rect m.length m) : ∀ c, c ≤ m.length → redTo m c = ⟨m, List.range c, 1⟩
  | 0, _ => rfl
  | c + 1, hc => by
    have ih := redTo_one h hC c (by omega)
    have hu : UnitQ m := ⟨fun i j => by rw [h]; split <;> simp, fun i i' j h1 h2 => by
      rw [h] at h1 h2
      by_cases e1 : i = j ∧ i < m.length
      · by_cases e2 : i' = j ∧ i' < m.length
        · omega
        · rw [if_neg e2] at h2; exact absurd h2.symm rat_one_ne
      · rw [if_neg e1] at h1; exact absurd h1.symm rat_one_ne⟩
    show stepR c (redTo m c) = _
    rw [ih]
    rcases stepR_unit (c := c) (s := ⟨m, List.range c, 1⟩) hu (by simp; omega) with ⟨-, e⟩ | ⟨a, ha1, ha2, hv, -, e⟩
    · have := e c (by simp)
      rw [h, if_pos ⟨rfl, by omega⟩] at this
      exact absurd this rat_one_ne
    · have hac : a = c := by
        false_or_by_contra
        rename_i hne
        rw [h, if_neg (by omega)] at hv
        exact rat_one_ne hv.symm
      rw [e, if_pos (by simp [hac]), if_pos (by simp [hac]), List.range_succ]
theorem UnitQ.rs {m : List (List Rat)} (h : UnitQ m) : AllRS 2500 m := by
  intro r hr x hx
  obtain ⟨i, hi⟩ := List.getElem?_of_mem hr
  obtain ⟨j, hj⟩ := List.getElem?_of_mem hx
  have e : elQ m i j = x := elQ_get (by rw [rowQ_get hi]; exact hj)
  have hs : (intB 1).size ≤ 2 ∧ (intB 0).size ≤ 2 ∧ (numB 1).size ≤ 2 := by
    unfold intB numB Lib.itoa
    rw [if_neg (by omega), if_neg (by omega), show (1 : Int).toNat = 1 from rfl, show (0 : Int).toNat = 0 from rfl, Lib.decDigits_one (by omega), Lib.decDigits_one (by omega)]
    exact ⟨by decide, by decide, by decide⟩
  rcases h.val i j with h0 | h0
  · rw [← e, h0]
    exact ⟨Nat.le_trans hs.2.1 (by omega), Nat.le_trans hs.2.2 (by omega)⟩
  · rw [← e, h0]
    exact ⟨Nat.le_trans hs.1 (by omega), Nat.le_trans hs.2.2 (by omega)⟩
end Go.Proofs.YtpeinobepiodaaaGreatDoor
