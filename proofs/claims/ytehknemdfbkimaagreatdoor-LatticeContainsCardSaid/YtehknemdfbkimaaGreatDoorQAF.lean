/- Merged: HermO, MatB. -/
import Derived.Test.YtehknemdfbkimaaGreatDoorQAA
import Derived.Test.YtehknemdfbkimaaGreatDoorQAE
import Derived.Test.YtehknemdfbkimaaGreatDoorQAB
/- The Hermite normal form as package lattice works it out, with its numbers' bounds checked on the way. No program is named here. -/
namespace Go.Proofs.YtehknemdfbkimaaGreatDoor
set_option linter.unusedVariables false
set_option linter.unusedSimpArgs false
open Go.RowKit

def smB (n : Int) : Bool := decide ((numB n.natAbs).size ≤ 1000000000)
def sm9B (n : Int) : Bool := decide ((numB n.natAbs).size ≤ 400000000)
theorem smB_iff (n : Int) : smB n = true ↔ (numB n.natAbs).size ≤ 1000000000 := decide_eq_true_iff
theorem sm9B_iff (n : Int) : sm9B n = true ↔ (numB n.natAbs).size ≤ 400000000 := decide_eq_true_iff

/-- A row less a multiple of another one. -/
def lessL (k : Int) : List Int → List Int → List Int
  | r, [] => r
  | [], _ :: _ => []
  | a :: r, b :: s => (a - k * b) :: lessL k r s
theorem lessL_len (k : Int) : ∀ r s : List Int, (lessL k r s).length = r.length
  | [], [] => rfl
  | a :: r, [] => rfl
  | [], _ :: _ => rfl
  | a :: r, b :: s => by simp [lessL, lessL_len k r s]
theorem lessL_get (k : Int) : ∀ (r s : List Int) (j : Nat) (a b : Int), r[j]? = some a → s[j]? = some b → (lessL k r s)[j]? = some (a - k * b)
  | [], _, j, a, b, h, _ => by simp at h
  | _ :: _, [], j, a, b, _, h => by simp at h
  | x :: r, y :: s, 0, a, b, h, h' => by simp at h h'; subst h; subst h'; rfl
  | x :: r, y :: s, j + 1, a, b, h, h' => by
    simp only [List.getElem?_cons_succ] at h h'
    exact lessL_get k r s j a b h h'
def lessO (k : Int) (r s : List Int) : Option (List Int) :=
  if k = 0 then some r
  else if s.length = r.length ∧ (sm9B k && s.all sm9B && r.all smB) = true then some (lessL k r s) else none

def rowE_ (m : List (List Int)) (i : Nat) : List Int := m.getD i []
def getE (m : List (List Int)) (i c : Nat) : Int := (rowE_ m i).getD c 0

/-- The first of k rows from d on whose element in a column is least, and not 0. -/
def bestO (c d : Nat) (m : List (List Int)) : Nat → Option Nat
  | 0 => none
  | k + 1 => match bestO c d m k with
    | none => if getE m (d + k) c = 0 then none else some (d + k)
    | some a => if getE m (d + k) c ≠ 0 ∧ (getE m (d + k) c).natAbs < (getE m a c).natAbs then some (d + k) else some a
def swapL {α : Type} (l : List α) (i j : Nat) : List α := match l[i]?, l[j]? with
  | some a, some b => (l.set i b).set j a
  | _, _ => l
/-- The j rows behind d are reduced by row d. -/
def downO (c d : Nat) (m : List (List Int)) : Nat → Option (List (List Int) × Bool)
  | 0 => some (m, false)
  | j + 1 => match downO c d m j with
    | none => none
    | some (m', rest) =>
      if getE m' d c = 0 then none
      else match lessO (fdq (getE m' (d + 1 + j) c) (getE m' d c)) (rowE_ m' (d + 1 + j)) (rowE_ m' d) with
        | none => none
        | some r => some (m'.set (d + 1 + j) r, rest || decide (fdr (getE m' (d + 1 + j) c) (getE m' d c) ≠ 0))
/-- The first j rows are reduced by row d. -/
def upO (c d : Nat) (m : List (List Int)) : Nat → Option (List (List Int))
  | 0 => some m
  | j + 1 => match upO c d m j with
    | none => none
    | some m' =>
      if getE m' d c = 0 then none
      else match lessO (fdq (getE m' j c) (getE m' d c)) (rowE_ m' j) (rowE_ m' d) with
        | none => none
        | some r => some (m'.set j r)
def okM (n : Nat) (m : List (List Int)) : Bool := m.all fun r => decide (r.length = n) && r.all smB
/-- One column: the rows behind, and whether it has a pivot. -/
def sweepO (n c d : Nat) : Nat → List (List Int) → Option (List (List Int) × Bool)
  | 0, _ => none
  | f + 1, m =>
    if okM n m then
      match bestO c d m (m.length - d) with
      | none => some (m, false)
      | some a => match downO c d (swapL m d a) (m.length - (d + 1)) with
        | none => none
        | some (m2, true) => sweepO n c d f m2
        | some (m2, false) =>
          if okM n m2 then
            match upO c d (if getE m2 d c < 0 then m2.set d ((rowE_ m2 d).map (- ·)) else m2) d with
            | none => none
            | some m4 => some (m4, true)
          else none
    else none
def colsO (n F : Nat) : Nat → Nat → Nat → List (List Int) → Option (List (List Int) × Nat)
  | 0, _, d, m => some (m, d)
  | k + 1, c, d, m =>
    if d < m.length then
      match sweepO n c d F m with
      | none => none
      | some (m', p) => colsO n F k (c + 1) (if p then d + 1 else d) m'
    else some (m, d)
/-- The Hermite normal form, where all numbers on the way are small. -/
def formO (n F cols : Nat) (m : List (List Int)) : Option (List (List Int)) :=
  match colsO n F cols 0 0 m with
  | none => none
  | some (m', d) => some (m'.take d)
def leadL (r : List Int) : Int := match r.findIdx? (· != 0) with | some i => (i : Int) | none => -1
/-- The ends of the rows whose beginnings are zeros. -/
def behindL (k : Nat) (m : List (List Int)) : List (List Int) := (m.filter fun r => decide ((k : Int) ≤ leadL r)).map (·.drop k)
def wideL (cols : Nat) (m : List (List Int)) : List (List Int) := (List.range cols).map fun c => m.map (fun r => r.getD c 0) ++ (List.replicate cols (0 : Int)).set c 1
def kernelO (F cols : Nat) (m : List (List Int)) : Option (List (List Int)) :=
  match formO (m.length + cols) F (m.length + cols) (wideL cols m) with
  | none => none
  | some h => formO cols F cols (behindL m.length h)
theorem known1 : formO 3 10 3 [[4, 2, 0], [2, 4, 0]] = some [[2, 4, 0], [0, 6, 0]] := by decide +kernel
theorem known2 : kernelO 10 3 [[12, 19, 28]] = some [[1, 20, -14], [0, 28, -19]] := by decide +kernel
end Go.Proofs.YtehknemdfbkimaaGreatDoor
/- Matrices of integers of any size as package lattice holds them: an outer row of slices, each row in a block of its own. -/
namespace Go.Proofs.YtehknemdfbkimaaGreatDoor
set_option linter.unusedVariables false
set_option linter.unusedSimpArgs false
open Go.RowKit

/-- A row of integers at block g from cell o on, that may be written. -/
structure RowB (w : World) (g o : Nat) (xs : List Int) : Prop where
  lt : g < w.heap.size
  cell : ∀ (j : Nat) x, xs[j]? = some x → w.cell? ⟨g, o + j, none⟩ = some (.string (intB x))
  free : ∀ j, w.frozen? ⟨g, j, none⟩ = false

theorem cell_of_heap {w w' : World} {g : Nat} (h : w'.heap[g]? = w.heap[g]?) (j : Nat) : w'.cell? ⟨g, j, none⟩ = w.cell? ⟨g, j, none⟩ := by
  simp [World.cell?, h]
theorem free_of_heap {w w' : World} {g : Nat} (h : w'.heap[g]? = w.heap[g]?) (j : Nat) : w'.frozen? ⟨g, j, none⟩ = w.frozen? ⟨g, j, none⟩ := by
  simp [World.frozen?, h]
theorem RowB.same {w w' : World} {g o : Nat} {xs : List Int} (h : RowB w g o xs) (hs : w.heap.size ≤ w'.heap.size) (hg : w'.heap[g]? = w.heap[g]?) : RowB w' g o xs :=
  ⟨Nat.lt_of_lt_of_le h.lt hs, fun j x hx => (cell_of_heap hg _).trans (h.cell j x hx), fun j => (free_of_heap hg j).trans (h.free j)⟩
theorem RowB.ext {w w' : World} {g o : Nat} {xs : List Int} (h : RowB w g o xs) (he : Ext w w') : RowB w' g o xs := h.same he.size (he.block g h.lt)
theorem RowB.grown {w w' : World} {S : Nat → Prop} {g o : Nat} {xs : List Int} (h : RowB w g o xs) (hg : GrownS S w w') (hS : ¬ S g) : RowB w' g o xs := h.same hg.size (hg.block g h.lt hS)
theorem setCell_heap_other (w : World) (g i b : Nat) (v : Value) (h : b ≠ g) : (w.setCell ⟨g, i, none⟩ v).heap[b]? = w.heap[b]? := by
  by_cases hb : b < w.heap.size
  · exact (grown_setCell w g i v).block b hb (fun e => h (by cases e; rfl))
  · have : (w.setCell ⟨g, i, none⟩ v).heap.size = w.heap.size := by simp [World.setCell]
    rw [Array.getElem?_eq_none (by omega), Array.getElem?_eq_none (by omega)]
theorem setCell_size (w : World) (a : Addr) (v : Value) : (w.setCell a v).heap.size = w.heap.size := by simp [World.setCell]
theorem setCell_free (w : World) (g i j : Nat) (v : Value) : (w.setCell ⟨g, i, none⟩ v).frozen? ⟨g, j, none⟩ = w.frozen? ⟨g, j, none⟩ := by
  exact World.frozen?_setCell .. 
theorem RowB.set {w : World} {g o : Nat} {xs : List Int} (h : RowB w g o xs) (k : Nat) (hk : k < xs.length) (y : Int) : RowB (w.setCell ⟨g, o + k, none⟩ (.string (intB y))) g o (xs.set k y) := by
  refine ⟨by rw [setCell_size]; exact h.lt, fun j x hx => ?_, fun j => by rw [setCell_free]; exact h.free j⟩
  rw [List.getElem?_set] at hx
  by_cases hj : k = j
  · subst hj
    rw [if_pos rfl, if_pos hk] at hx
    cases hx
    exact World.cell?_setCell_same w _ _ (h.cell k xs[k] (List.getElem?_eq_getElem hk))
  · rw [if_neg hj] at hx
    rw [World.cell?_setCell_other w _ _ _ (by intro e; simp only [Addr.mk.injEq] at e; omega)]
    exact h.cell j x hx
/-- The store leaves what lies in other blocks. -/
theorem RowB.other {w : World} {g o : Nat} {xs : List Int} (h : RowB w g o xs) (b i : Nat) (v : Value) (hb : g ≠ b) : RowB (w.setCell ⟨b, i, none⟩ v) g o xs :=
  h.same (by rw [setCell_size]; exact Nat.le_refl _) (setCell_heap_other w b i g v hb)

/-- The rows of a matrix: an outer row at block g0; tags: each row's block, first cell, capacity. -/
structure MatB (w : World) (g0 : Nat) (tags : List (Nat × Nat × Nat)) (m : List (List Int)) : Prop where
  len : tags.length = m.length
  lt : g0 < w.heap.size
  free : ∀ j, w.frozen? ⟨g0, j, none⟩ = false
  row : ∀ (i : Nat) t r, tags[i]? = some t → m[i]? = some r → w.cell? ⟨g0, i, none⟩ = some (.slice (some ⟨t.1, t.2.1, none⟩) r.length t.2.2) ∧ r.length ≤ t.2.2 ∧ t.2.2 ≤ maxLen ∧ RowB w t.1 t.2.1 r
  nodup : (g0 :: tags.map (·.1)).Nodup
/-- The blocks of a matrix. -/
def blocksOf (g0 : Nat) (tags : List (Nat × Nat × Nat)) (b : Nat) : Prop := b ∈ g0 :: tags.map (·.1)

theorem MatB.same {w w' : World} {g0 : Nat} {tags : List (Nat × Nat × Nat)} {m : List (List Int)} (h : MatB w g0 tags m) (hs : w.heap.size ≤ w'.heap.size) (hb : ∀ b, blocksOf g0 tags b → w'.heap[b]? = w.heap[b]?) : MatB w' g0 tags m := by
  have h0 := hb g0 (List.mem_cons_self ..)
  refine ⟨h.len, Nat.lt_of_lt_of_le h.lt hs, fun j => (free_of_heap h0 j).trans (h.free j), fun i t r ht hr => ?_, h.nodup⟩
  obtain ⟨h1, h2, h3, h4⟩ := h.row i t r ht hr
  exact ⟨(cell_of_heap h0 i).trans h1, h2, h3, h4.same hs (hb t.1 (List.mem_cons_of_mem _ (List.mem_map.2 ⟨t, List.mem_of_getElem? ht, rfl⟩)))⟩
theorem MatB.blt {w : World} {g0 : Nat} {tags : List (Nat × Nat × Nat)} {m : List (List Int)} (h : MatB w g0 tags m) {b : Nat} (hb : blocksOf g0 tags b) : b < w.heap.size := by
  rcases List.mem_cons.1 hb with rfl | hb
  · exact h.lt
  · obtain ⟨t, ht, rfl⟩ := List.mem_map.1 hb
    obtain ⟨i, hi⟩ := List.getElem?_of_mem ht
    have hl : i < m.length := by rw [← h.len]; exact (List.getElem?_eq_some_iff.1 hi).1
    exact (h.row i t m[i] hi (List.getElem?_eq_getElem hl)).2.2.2.lt
theorem MatB.ext {w w' : World} {g0 : Nat} {tags : List (Nat × Nat × Nat)} {m : List (List Int)} (h : MatB w g0 tags m) (he : Ext w w') : MatB w' g0 tags m :=
  h.same he.size fun b hb => he.block b (h.blt hb)
theorem MatB.get {w : World} {g0 : Nat} {tags : List (Nat × Nat × Nat)} {m : List (List Int)} (h : MatB w g0 tags m) (i : Nat) (hi : i < m.length) :
    ∃ t, tags[i]? = some t ∧ w.cell? ⟨g0, i, none⟩ = some (.slice (some ⟨t.1, t.2.1, none⟩) (rowE_ m i).length t.2.2) ∧ (rowE_ m i).length ≤ t.2.2 ∧ t.2.2 ≤ maxLen ∧ RowB w t.1 t.2.1 (rowE_ m i) ∧ t.1 ≠ g0 := by
  have hl : i < tags.length := by rw [h.len]; exact hi
  have e : rowE_ m i = m[i] := by unfold rowE_; rw [List.getD_eq_getElem?_getD, List.getElem?_eq_getElem hi]; rfl
  have := h.row i tags[i] m[i] (List.getElem?_eq_getElem hl) (List.getElem?_eq_getElem hi)
  refine ⟨tags[i], List.getElem?_eq_getElem hl, ?_⟩
  rw [e]
  refine ⟨this.1, this.2.1, this.2.2.1, this.2.2.2, ?_⟩
  have hn := (List.nodup_cons.1 h.nodup).1
  intro e2
  exact hn (List.mem_map.2 ⟨tags[i], List.getElem_mem hl, e2⟩)
theorem MatB.apart {w : World} {g0 : Nat} {tags : List (Nat × Nat × Nat)} {m : List (List Int)} (h : MatB w g0 tags m) {i j : Nat} {s t : Nat × Nat × Nat} (hs : tags[i]? = some s) (ht : tags[j]? = some t) (hij : i ≠ j) : s.1 ≠ t.1 := by
  have hn := (List.nodup_cons.1 h.nodup).2
  intro e
  have h1 : (tags.map (·.1))[i]? = some s.1 := by rw [List.getElem?_map, hs]; rfl
  have h2 : (tags.map (·.1))[j]? = some s.1 := by rw [List.getElem?_map, ht, e]; rfl
  obtain ⟨l1, e1⟩ := List.getElem?_eq_some_iff.1 h1
  obtain ⟨l2, e2⟩ := List.getElem?_eq_some_iff.1 h2
  exact hij ((List.getElem_inj hn).1 (e1.trans e2.symm))
/-- One row is written. -/
theorem MatB.setRow {w w' : World} {g0 : Nat} {tags : List (Nat × Nat × Nat)} {m : List (List Int)} (h : MatB w g0 tags m) (i : Nat) (hi : i < m.length) (t : Nat × Nat × Nat) (ht : tags[i]? = some t) (r : List Int) (hr : r.length = (rowE_ m i).length) (hg : GrownS (· = t.1) w w') (hR : RowB w' t.1 t.2.1 r) : MatB w' g0 tags (m.set i r) := by
  obtain ⟨t', ht', -, -, -, -, hne⟩ := h.get i hi
  obtain rfl : t' = t := Option.some.inj (ht'.symm.trans ht)
  have h0 := hg.block g0 h.lt (fun e => hne e.symm)
  refine ⟨by rw [List.length_set]; exact h.len, Nat.lt_of_lt_of_le h.lt hg.size, fun j => (free_of_heap h0 j).trans (h.free j), fun j s q hs hq => ?_, h.nodup⟩
  rw [List.getElem?_set] at hq
  by_cases hj : i = j
  · subst hj
    rw [if_pos rfl, if_pos hi] at hq
    cases hq
    obtain rfl : s = t' := Option.some.inj (hs.symm.trans ht)
    have e : rowE_ m i = m[i] := by unfold rowE_; rw [List.getD_eq_getElem?_getD, List.getElem?_eq_getElem hi]; rfl
    obtain ⟨h1, h2, h3, h4⟩ := h.row i s m[i] hs (List.getElem?_eq_getElem hi)
    rw [← e, ← hr] at h1 h2
    exact ⟨(cell_of_heap h0 i).trans h1, h2, h3, hR⟩
  · rw [if_neg hj] at hq
    obtain ⟨h1, h2, h3, h4⟩ := h.row j s q hs hq
    exact ⟨(cell_of_heap h0 j).trans h1, h2, h3, h4.grown hg (h.apart hs ht (fun e => hj e.symm))⟩
end Go.Proofs.YtehknemdfbkimaaGreatDoor
