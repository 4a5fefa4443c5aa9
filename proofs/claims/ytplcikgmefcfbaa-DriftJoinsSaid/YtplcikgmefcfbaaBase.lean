/- Slices in memory as lists: representation facts that survive whatever a call adds to memory. No program is named here. -/
import Derived.WalkKit
import Derived.Deep.QuietTactic
import Derived.BigQuiet
import Derived.Deep.LoopGhost
import Derived.Outline
import Derived.Lib.Hide
import Derived.Deep.DeepFit
import Derived.Deep.DeepMust
import Derived.Shelf.Abstract
namespace Go.Proofs.Ytplcikgmefcfbaa
set_option linter.unusedVariables false
set_option linter.unusedSimpArgs false
open Go.RowKit

/-- All that lay in w lies unturned in w'. -/
abbrev Ext (w w' : World) : Prop := Below w.heap.size w w'

theorem Ext.refl (w : World) : Ext w w := Below.refl _ _
theorem Ext.trans {a b c : World} (h : Ext a b) (k : Ext b c) : Ext a c := Below.trans h (Below.mono k h.size)
theorem Ext.alloc (w : World) (o : Obj) : Ext w (w.alloc o) := Below.alloc (Below.refl _ _) (Nat.le_refl _) o
theorem Ext.drew (w : World) : Ext w w.drew := Below.drew (Below.refl _ _)
theorem Ext.drewN (w : World) (n : Nat) : Ext w (w.drewN n) := ⟨rfl, rfl, rfl, Nat.le_refl _, fun _ _ => rfl⟩
theorem Below.drewN' {B : Nat} {a w : World} (h : Below B a w) (n : Nat) : Below B a (w.drewN n) := h.trans ⟨rfl, rfl, rfl, Nat.le_refl _, fun _ _ => rfl⟩
theorem Ext.draws {w w' : World} (h : Ext w w') (n : Nat) : Ext w (w'.drewN n) := h.trans (Ext.drewN w' n)
theorem lt_of_cell {w : World} {a : Addr} {v : Value} (h : w.cell? a = some v) : a.block < w.heap.size := World.block_lt_of_cell? w a h
theorem Ext.cell {w w' : World} (h : Ext w w') {a : Addr} {v : Value} (hc : w.cell? a = some v) : w'.cell? a = some v := (Below.cell h (lt_of_cell hc)).trans hc

/-- A slice value of n elements whose cells, laid end to end, are cs. -/
def SeqAt (w : World) (v : Value) (n : Nat) (cs : List Value) : Prop :=
  ∃ (a : Option Addr) (cap : Nat), v = .slice a n cap ∧ n ≤ cap ∧ cap ≤ maxLen ∧ (a = none → cap = 0) ∧
    (cs ≠ [] → ∃ b off, a = some ⟨b, off, none⟩ ∧ b < w.heap.size ∧ ∀ (j : Nat) u, cs[j]? = some u → w.cell? ⟨b, off + j, none⟩ = some u)

theorem SeqAt.ext {w w' : World} {v : Value} {n : Nat} {cs : List Value} (h : SeqAt w v n cs) (he : Ext w w') : SeqAt w' v n cs := by
  obtain ⟨a, cap, rfl, h1, h2, h3, h4⟩ := h
  refine ⟨a, cap, rfl, h1, h2, h3, fun hn => ?_⟩
  obtain ⟨b, off, ha, hb, hc⟩ := h4 hn
  exact ⟨b, off, ha, Nat.lt_of_lt_of_le hb he.size, fun j u hu => he.cell (hc j u hu)⟩

/-- A slice of elements of k cells each, that hold the elements of xs as R says. -/
def ListAt {α : Type} (k : Nat) (R : World → List Value → α → Prop) (w : World) (v : Value) (xs : List α) : Prop :=
  ∃ us : List (List Value), us.length = xs.length ∧ (∀ u ∈ us, u.length = k) ∧ SeqAt w v xs.length us.flatten ∧
    ∀ (j : Nat) u x, us[j]? = some u → xs[j]? = some x → R w u x

/-- What holds of an element holds in every later world. -/
def Mono {α : Type} (R : World → List Value → α → Prop) : Prop := ∀ w w' u x, Ext w w' → R w u x → R w' u x

theorem ListAt.ext {α : Type} {k : Nat} {R : World → List Value → α → Prop} (hR : Mono R) {w w' : World} {v : Value} {xs : List α} (h : ListAt k R w v xs) (he : Ext w w') : ListAt k R w' v xs := by
  obtain ⟨us, h1, h2, h3, h4⟩ := h
  exact ⟨us, h1, h2, h3.ext he, fun j u x hu hx => hR _ _ _ _ he (h4 j u x hu hx)⟩

theorem flatten_get {k : Nat} : ∀ (us : List (List Value)) (j i : Nat) (u : List Value), (∀ u ∈ us, u.length = k) → us[j]? = some u → i < k → us.flatten[j * k + i]? = u[i]?
  | [], j, i, u, _, h, _ => by simp at h
  | x :: us, j, i, u, hk, h, hi => by
    have hx : x.length = k := hk x (by simp)
    cases j with
    | zero =>
      simp at h; subst h
      rw [List.flatten_cons, List.getElem?_append_left (by omega)]
      congr 1; omega
    | succ j =>
      simp at h
      rw [List.flatten_cons, List.getElem?_append_right (by rw [hx, Nat.succ_mul]; omega)]
      rw [show (j + 1) * k + i - x.length = j * k + i by rw [hx, Nat.succ_mul]; omega]
      exact flatten_get us j i u (fun u hu => hk u (by simp [hu])) h hi

/-- Opening: the value's shape, and each element's cells. -/
theorem ListAt.open {α : Type} {k : Nat} {R : World → List Value → α → Prop} {w : World} {v : Value} {xs : List α} (h : ListAt k R w v xs) :
    ∃ (a : Option Addr) (cap : Nat), v = .slice a xs.length cap ∧ xs.length ≤ cap ∧ cap ≤ maxLen ∧ (a = none → cap = 0) ∧
      (0 < k → xs ≠ [] → ∃ b off, a = some ⟨b, off, none⟩ ∧ b < w.heap.size ∧
        ∀ (j : Nat) x, xs[j]? = some x → ∃ u : List Value, u.length = k ∧ R w u x ∧ ∀ i, i < k → w.cell? ⟨b, off + (j * k + i), none⟩ = u[i]?) := by
  obtain ⟨us, h1, h2, ⟨a, cap, rfl, h3, h4, h5, h6⟩, h7⟩ := h
  refine ⟨a, cap, rfl, h3, h4, h5, fun hk hx => ?_⟩
  have hne : us.flatten ≠ [] := by
    cases us with
    | nil => cases xs with
      | nil => exact absurd rfl hx
      | cons => simp at h1
    | cons u us =>
      have := h2 u (by simp)
      cases u with
      | nil => simp at this; omega
      | cons => simp
  obtain ⟨b, off, ha, hb, hc⟩ := h6 hne
  refine ⟨b, off, ha, hb, fun j x hj => ?_⟩
  have hlt : j < us.length := by rw [h1]; exact (List.getElem?_eq_some_iff.1 hj).1
  refine ⟨us[j], h2 _ (List.getElem_mem _), h7 j _ x (by simp [hlt]) hj, fun i hi => ?_⟩
  have hl := h2 us[j] (List.getElem_mem _)
  have hg := flatten_get us j i us[j] h2 (by simp [hlt]) hi
  have hs : (us[j])[i]? = some (us[j])[i] := by simp [hl, hi]
  rw [hs]
  exact hc _ _ (hg.trans hs)

/-- Integers of kind int. -/
def intR (_ : World) (u : List Value) (x : Int) : Prop := u = [.int .i64 x] ∧ -9223372036854775808 ≤ x ∧ x ≤ 9223372036854775807
theorem intR.mono : Mono intR := fun _ _ _ _ _ h => h
abbrev Ints (w : World) (v : Value) (xs : List Int) : Prop := ListAt 1 intR w v xs
/-- A cell that holds a slice. -/
def inCell {α : Type} (R : World → Value → α → Prop) (w : World) (u : List Value) (x : α) : Prop := ∃ v, u = [v] ∧ R w v x
theorem inCell.mono {α : Type} {R : World → Value → α → Prop} (h : ∀ w w' v x, Ext w w' → R w v x → R w' v x) : Mono (inCell R) :=
  fun w w' _ x he ⟨v, hu, hv⟩ => ⟨v, hu, h w w' v x he hv⟩
abbrev rowR : World → List Value → List Int → Prop := inCell Ints
theorem rowR.mono : Mono rowR := inCell.mono fun _ _ _ _ he h => ListAt.ext intR.mono h he
abbrev Rows2 (w : World) (v : Value) (xs : List (List Int)) : Prop := ListAt 1 rowR w v xs
theorem Ints.ext {w w' : World} {v : Value} {xs : List Int} (h : Ints w v xs) (he : Ext w w') : Ints w' v xs := ListAt.ext intR.mono h he
theorem Rows2.ext {w w' : World} {v : Value} {xs : List (List Int)} (h : Rows2 w v xs) (he : Ext w w') : Rows2 w' v xs := ListAt.ext rowR.mono h he

/-- Opening a slice of integers. -/
theorem Ints.open {w : World} {v : Value} {xs : List Int} (h : Ints w v xs) :
    ∃ (a : Option Addr) (cap : Nat), v = .slice a xs.length cap ∧ xs.length ≤ cap ∧ cap ≤ maxLen ∧ (a = none → cap = 0) ∧ (∀ x ∈ xs, -9223372036854775808 ≤ x ∧ x ≤ 9223372036854775807) ∧
      (xs ≠ [] → ∃ b off, a = some ⟨b, off, none⟩ ∧ b < w.heap.size ∧ ∀ (j : Nat) x, xs[j]? = some x → w.cell? ⟨b, off + j, none⟩ = some (.int .i64 x)) := by
  have hall : ∀ x ∈ xs, -9223372036854775808 ≤ x ∧ x ≤ 9223372036854775807 := by
    obtain ⟨us, h1, _, _, h7⟩ := h
    intro x hx
    obtain ⟨j, hj⟩ := List.getElem?_of_mem hx
    have hlt : j < us.length := by rw [h1]; exact (List.getElem?_eq_some_iff.1 hj).1
    exact (h7 j us[j] x (by simp [hlt]) hj).2
  obtain ⟨a, cap, hv, h1, h2, h3, h4⟩ := ListAt.open h
  refine ⟨a, cap, hv, h1, h2, h3, hall, fun hx => ?_⟩
  obtain ⟨b, off, ha, hb, hc⟩ := h4 (by omega) hx
  refine ⟨b, off, ha, hb, fun j x hj => ?_⟩
  obtain ⟨u, _, hr, hcell⟩ := hc j x hj
  have := hcell 0 (by omega)
  rw [hr.1] at this
  simpa using this

/-- The same of a value whose shape is known. -/
theorem Ints.cells {w : World} {a : Option Addr} {n cap : Nat} {xs : List Int} (h : Ints w (.slice a n cap) xs) :
    n = xs.length ∧ n ≤ cap ∧ cap ≤ maxLen ∧ (∀ x ∈ xs, -9223372036854775808 ≤ x ∧ x ≤ 9223372036854775807) ∧
      (xs ≠ [] → ∃ b off, a = some ⟨b, off, none⟩ ∧ b < w.heap.size ∧ ∀ (j : Nat) x, xs[j]? = some x → w.cell? ⟨b, off + j, none⟩ = some (.int .i64 x)) := by
  obtain ⟨a', c', hv, h1, h2, _, h4, h5⟩ := h.open
  simp only [Value.slice.injEq] at hv
  obtain ⟨rfl, rfl, rfl⟩ := hv
  exact ⟨rfl, h1, h2, h4, h5⟩

/-- Opening a slice whose elements are slices. -/
theorem inCell.open {α : Type} {R : World → Value → α → Prop} {w : World} {v : Value} {xs : List α} (h : ListAt 1 (inCell R) w v xs) :
    ∃ (a : Option Addr) (cap : Nat), v = .slice a xs.length cap ∧ xs.length ≤ cap ∧ cap ≤ maxLen ∧ (a = none → cap = 0) ∧
      (xs ≠ [] → ∃ b off, a = some ⟨b, off, none⟩ ∧ b < w.heap.size ∧ ∀ (j : Nat) x, xs[j]? = some x → ∃ u, R w u x ∧ w.cell? ⟨b, off + j, none⟩ = some u) := by
  obtain ⟨a, cap, hv, h1, h2, h3, h4⟩ := ListAt.open h
  refine ⟨a, cap, hv, h1, h2, h3, fun hx => ?_⟩
  obtain ⟨b, off, ha, hb, hc⟩ := h4 (by omega) hx
  refine ⟨b, off, ha, hb, fun j x hj => ?_⟩
  obtain ⟨u, _, ⟨v', rfl, hv'⟩, hcell⟩ := hc j x hj
  have := hcell 0 (by omega)
  exact ⟨v', hv', by simpa using this⟩

/-- Shutting: a row that the call owns is a slice in memory. -/
theorem SeqAt.of_owns {w : World} {base : Nat} {e : TypeId} {size : Nat} {v : Value} {n : Nat} {cs : List Value} (h : w.ownsRow base e size v n cs) : SeqAt w v n cs := by
  have hc := fun g hg => h.cells (g := g) hg
  obtain ⟨hl, h⟩ := h
  rcases h with ⟨rfl, rfl⟩ | ⟨g, cap, cur, rfl, hb, hg, h1, h2, h3, h4⟩
  · exact ⟨none, 0, rfl, Nat.le_refl _, Nat.zero_le _, fun _ => rfl, fun hne => absurd (by simpa using hl) hne⟩
  · refine ⟨_, cap, rfl, h1, h2, fun h => by simp at h, fun hne => ⟨g, 0, rfl, (Array.getElem?_eq_some_iff.1 hg).1, fun j u hu => ?_⟩⟩
    have := hc g (by simp [Value.ownBlock]) j u hu
    rw [show (⟨g, 0, none⟩ : Addr).add j = ⟨g, 0 + j, none⟩ by unfold Addr.add; split <;> simp_all] at this
    exact this

theorem flatten_one {α : Type} (f : α → Value) (xs : List α) : (xs.map fun x => [f x]).flatten = xs.map f := by
  induction xs with
  | nil => rfl
  | cons x xs ih => simp [ih]

/-- A slice written out: its cells lie in one new block. -/
theorem SeqAt.lit (w : World) (us : List Value) (n : Nat) (T : TypeId) (hn : n ≤ maxLen) : SeqAt (w.alloc (.cells us.toArray T)) (.slice (some ⟨w.heap.size, 0, none⟩) n n) n us := by
  refine ⟨_, n, rfl, Nat.le_refl _, hn, fun h => by simp at h, fun _ => ⟨w.heap.size, 0, rfl, by simp, fun j u hu => ?_⟩⟩
  rw [Nat.zero_add, World.cell?_alloc_new]
  simpa using hu

theorem ListAt.lit {α : Type} {R : World → Value → α → Prop} (hR : ∀ w w' v x, Ext w w' → R w v x → R w' v x) (w : World) (us : List Value) (xs : List α) (T : TypeId) (hl : us.length = xs.length) (hn : xs.length ≤ maxLen)
    (h : ∀ (j : Nat) u x, us[j]? = some u → xs[j]? = some x → R w u x) : ListAt 1 (inCell R) (w.alloc (.cells us.toArray T)) (.slice (some ⟨w.heap.size, 0, none⟩) xs.length xs.length) xs := by
  refine ⟨us.map fun u => [u], by simpa using hl, by simp, ?_, ?_⟩
  · rw [flatten_one (fun u => u)]
    simpa using SeqAt.lit w us xs.length T hn
  · intro j u x hu hx
    rw [List.getElem?_map] at hu
    cases hj : us[j]? with
    | none => simp [hj] at hu
    | some v => simp [hj] at hu; exact ⟨v, hu.symm, hR _ _ _ _ (Ext.alloc _ _) (h j v x hj hx)⟩

theorem Ints.lit (w : World) (xs : List Int) (T : TypeId) (hn : xs.length ≤ maxLen) (hb : ∀ x ∈ xs, -9223372036854775808 ≤ x ∧ x ≤ 9223372036854775807) :
    Ints (w.alloc (.cells (xs.map (Value.int .i64)).toArray T)) (.slice (some ⟨w.heap.size, 0, none⟩) xs.length xs.length) xs := by
  refine ⟨xs.map fun x => [Value.int .i64 x], by simp, by simp, ?_, ?_⟩
  · rw [flatten_one]
    exact SeqAt.lit w _ xs.length T hn
  · intro j u x hu hx
    simp only [List.getElem?_map, hx, Option.map_some, Option.some.injEq] at hu
    exact ⟨hu.symm, hb x (List.mem_of_getElem? hx)⟩

theorem Ints.litAt {w : World} {n : Nat} (hn : n = w.heap.size) (xs : List Int) (T : TypeId) (m : Nat) (hm : m = xs.length) (hl : xs.length ≤ maxLen) (hb : ∀ x ∈ xs, -9223372036854775808 ≤ x ∧ x ≤ 9223372036854775807) (C : Array Value) (hC : C = (xs.map (Value.int .i64)).toArray) :
    Ints (w.alloc (.cells C T)) (.slice (some ⟨n, 0, none⟩) m m) xs := by
  subst hn; subst hm; subst hC; exact Ints.lit w xs T hl hb
theorem ListAt.litAt {α : Type} {R : World → Value → α → Prop} (hR : ∀ w w' v x, Ext w w' → R w v x → R w' v x) {w : World} {n : Nat} (hn : n = w.heap.size) (us : List Value) (xs : List α) (T : TypeId) (m : Nat) (hm : m = xs.length) (hl : us.length = xs.length) (hx : xs.length ≤ maxLen) (C : Array Value) (hC : C = us.toArray)
    (h : ∀ (j : Nat) u x, us[j]? = some u → xs[j]? = some x → R w u x) : ListAt 1 (inCell R) (w.alloc (.cells C T)) (.slice (some ⟨n, 0, none⟩) m m) xs := by
  subst hn; subst hm; subst hC; exact ListAt.lit hR w us xs T hl hx h

theorem tmod_bd (a m : Int) (hm : 0 < m) : -m < a.tmod m ∧ a.tmod m < m := by
  rcases Int.le_total 0 a with h | h
  · rw [Int.tmod_eq_emod_of_nonneg h]
    have h1 := Int.emod_nonneg a (show m ≠ 0 by omega)
    have h2 := Int.emod_lt_of_pos a hm
    omega
  · obtain ⟨b, rfl⟩ : ∃ b, a = -b := ⟨-a, by omega⟩
    rw [Int.neg_tmod, Int.tmod_eq_emod_of_nonneg (show 0 ≤ b by omega)]
    have h1 := Int.emod_nonneg b (show m ≠ 0 by omega)
    have h2 := Int.emod_lt_of_pos b hm
    omega

theorem made_ints (k : IntKind) (n : Nat) : (madeCells #[Value.int k 0] n).toList = (List.replicate n (0 : Int)).map (Value.int k) :=
  (toList_madeCells_one _ _).trans (by simp)

/-- A row of integers that the call owns, as a slice of integers. -/
theorem Ints.of_owns {w : World} {base : Nat} {e : TypeId} {v : Value} {xs : List Int} (h : w.ownsRow base e 1 v xs.length (xs.map (Value.int .i64))) (hb : ∀ x ∈ xs, -9223372036854775808 ≤ x ∧ x ≤ 9223372036854775807) : Ints w v xs := by
  refine ⟨xs.map fun x => [Value.int .i64 x], by simp, by simp, ?_, ?_⟩
  · have := SeqAt.of_owns h
    rwa [flatten_one]
  · intro j u x hu hx
    simp only [List.getElem?_map, hx, Option.map_some, Option.some.injEq] at hu
    exact ⟨hu.symm, hb x (List.mem_of_getElem? hx)⟩

/-- The cells of an owned row of integers: the one at k reads; it may be written; what is owned behind the store. -/
theorem owns_cell {w : World} {base : Nat} {e : TypeId} {g n cap : Nat} {xs : List Int} (h : w.ownsRow base e 1 (.slice (some ⟨g, 0, none⟩) n cap) n (xs.map (Value.int .i64))) {k : Nat} {x : Int} (hx : xs[k]? = some x) :
    w.cell? ⟨g, k, none⟩ = some (.int .i64 x) ∧ w.frozen? ⟨g, k, none⟩ = false := by
  have hl : (xs.map (Value.int .i64)).length = n * 1 := h.1
  have hk : k < xs.length := (List.getElem?_eq_some_iff.1 hx).1
  exact ⟨(h.cellAt k (by simp at hl; omega)).trans (by simp [hx]), h.frozenAt k⟩
theorem owns_set {w : World} {base : Nat} {e : TypeId} {g n cap : Nat} {xs : List Int} (h : w.ownsRow base e 1 (.slice (some ⟨g, 0, none⟩) n cap) n (xs.map (Value.int .i64))) (k : Nat) (x : Int) :
    (w.setCell ⟨g, k, none⟩ (.int .i64 x)).ownsRow base e 1 (.slice (some ⟨g, 0, none⟩) n cap) n ((xs.set k x).map (Value.int .i64)) := by
  rw [List.map_set]; exact (h.stored k _).1

end Go.Proofs.Ytplcikgmefcfbaa
