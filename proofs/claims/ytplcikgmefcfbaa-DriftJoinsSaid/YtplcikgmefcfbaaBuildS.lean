/- Several slices that a call builds at a time. S: the blocks into which it may still append. No program is named here. -/
import Derived.Test.YtplcikgmefcfbaaBuild
namespace Go.Proofs.Ytplcikgmefcfbaa
set_option linter.unusedVariables false
set_option linter.unusedSimpArgs false
open Go.RowKit

/-- w' is w with new blocks, and with writes to blocks of S alone. -/
structure GrownS (S : Nat → Prop) (w w' : World) : Prop where
  os : w'.os = w.os
  tape : w'.tape = w.tape
  output : w'.output = w.output
  size : w.heap.size ≤ w'.heap.size
  block : ∀ k, k < w.heap.size → ¬ S k → w'.heap[k]? = w.heap[k]?

theorem GrownS.refl (S : Nat → Prop) (w : World) : GrownS S w w := ⟨rfl, rfl, rfl, Nat.le_refl _, fun _ _ _ => rfl⟩
theorem GrownS.trans {S : Nat → Prop} {a b c : World} (h : GrownS S a b) (k : GrownS S b c) : GrownS S a c :=
  ⟨k.os.trans h.os, k.tape.trans h.tape, k.output.trans h.output, Nat.le_trans h.size k.size, fun i hi ho => (k.block i (Nat.lt_of_lt_of_le hi h.size) ho).trans (h.block i hi ho)⟩
theorem GrownS.weak {S S' : Nat → Prop} {a b : World} (h : GrownS S a b) (hS : ∀ k, k < a.heap.size → S k → S' k) : GrownS S' a b :=
  ⟨h.os, h.tape, h.output, h.size, fun i hi ho => h.block i hi fun hs => ho (hS i hi hs)⟩
theorem Ext.grownS {w w' : World} (h : Ext w w') (S : Nat → Prop) : GrownS S w w' := ⟨h.os, h.tape, h.output, h.size, fun k hk _ => h.block k hk⟩
theorem grownBy_S {S : Nat → Prop} {w w' : World} {o : Option Nat} (h : w.grownBy w' o) (ho : ∀ k, o = some k → S k) : GrownS S w w' :=
  ⟨h.os, h.tape, h.output, h.size, fun k hk hs => h.block k hk fun e => hs (ho k e.symm)⟩

/-- What holds whatever is written into blocks of S. -/
def SafeS (w : World) (S : Nat → Prop) (P : World → Prop) : Prop := ∀ w', GrownS S w w' → P w'
theorem SafeS.now {w : World} {S : Nat → Prop} {P : World → Prop} (h : SafeS w S P) : P w := h w (GrownS.refl S w)
theorem SafeS.grow {w w' : World} {S S' : Nat → Prop} {P : World → Prop} (h : SafeS w S P) (hg : GrownS S w w') (hS : ∀ k, S' k → S k ∨ w.heap.size ≤ k) : SafeS w' S' P := by
  intro w2 h2
  refine h w2 ⟨h2.os.trans hg.os, h2.tape.trans hg.tape, h2.output.trans hg.output, Nat.le_trans hg.size h2.size, fun i hi ho => ?_⟩
  refine (h2.block i (Nat.lt_of_lt_of_le hi hg.size) fun hs => ?_).trans (hg.block i hi ho)
  rcases hS i hs with h | h
  · exact ho h
  · omega
theorem SafeS.ext {w w' : World} {S : Nat → Prop} {P : World → Prop} (h : SafeS w S P) (he : Ext w w') : SafeS w' S P := h.grow (he.grownS S) fun _ hs => .inl hs
theorem SafeS.mono {w : World} {S : Nat → Prop} {P P' : World → Prop} (h : SafeS w S P) (hp : ∀ w, P w → P' w) : SafeS w S P' := fun w' hg => hp _ (h w' hg)
/-- What rests on blocks below w0 alone, S being beyond. -/
theorem SafeS.below {w0 w : World} {S : Nat → Prop} {P : World → Prop} (hP : ∀ w', Ext w0 w' → P w') (he : Ext w0 w) (ho : ∀ k, S k → w0.heap.size ≤ k) : SafeS w S P := by
  intro w' hg
  refine hP w' (Below.trans he (c := w') ⟨hg.os, hg.tape, hg.output, hg.size, fun k hk => hg.block k (Nat.lt_of_lt_of_le hk he.size) fun hs => ?_⟩)
  have := ho k hs
  omega
/-- What a world says whatever is added to it, and of which the blocks of S know nothing because they lie elsewhere. -/
theorem SafeS.owns {w : World} {S : Nat → Prop} {base : Nat} {e : TypeId} {size : Nat} {v : Value} {n : Nat} {xs : List Value} (h : w.ownsRow base e size v n xs) (hne : ∀ k, v.ownBlock = some k → ¬ S k) : SafeS w S fun w => w.ownsRow base e size v n xs := by
  intro w' hg
  refine ⟨h.1, ?_⟩
  rcases h.2 with hn | ⟨g, cap, cur, rfl, hb, hgg, rest⟩
  · exact .inl hn
  · refine .inr ⟨g, cap, cur, rfl, hb, ?_, rest⟩
    rw [hg.block g (Array.getElem?_eq_some_iff.1 hgg).1 (hne g rfl)]
    exact hgg

/-- The blocks of S lie in w, from base on. -/
def SOk (S : Nat → Prop) (base : Nat) (w : World) : Prop := ∀ b, S b → base ≤ b ∧ b < w.heap.size
theorem SOk.grow {S : Nat → Prop} {base : Nat} {w w' : World} (h : SOk S base w) (hs : w.heap.size ≤ w'.heap.size) : SOk S base w' := fun b hb => ⟨(h b hb).1, Nat.lt_of_lt_of_le (h b hb).2 hs⟩

/-- A slice in a block that is none of S. -/
theorem SafeS.seq {w : World} {S : Nat → Prop} {n m : Nat} {cs : List Value} {b off : Nat} (h : SeqAt w (.slice (some ⟨b, off, none⟩) n m) n cs) (hb : ¬ S b) : SafeS w S fun w => SeqAt w (.slice (some ⟨b, off, none⟩) n m) n cs := by
  intro w' hg
  obtain ⟨a, cap, hv, h1, h2, h3, h4⟩ := h
  simp only [Value.slice.injEq] at hv
  obtain ⟨rfl, -, rfl⟩ := hv
  refine ⟨_, _, rfl, h1, h2, h3, fun hn => ?_⟩
  obtain ⟨b', off', ha, hlt, hc⟩ := h4 hn
  simp only [Option.some.injEq, Addr.mk.injEq] at ha
  obtain ⟨rfl, rfl, -⟩ := ha
  refine ⟨b, off, rfl, Nat.lt_of_lt_of_le hlt hg.size, fun j u hu => ?_⟩
  exact (World.cell?_of_block (a := ⟨b, off + j, none⟩) (hg.block b hlt hb)).trans (hc j u hu)

theorem SafeS.listAt {α : Type} {k : Nat} {R : World → List Value → α → Prop} {w : World} {S : Nat → Prop} {v : Value} {xs : List α} (us : List (List Value)) (h1 : us.length = xs.length) (h2 : ∀ u ∈ us, u.length = k)
    (h3 : SafeS w S fun w => SeqAt w v xs.length us.flatten) (h4 : ∀ (j : Nat) u x, us[j]? = some u → xs[j]? = some x → SafeS w S fun w => R w u x) : SafeS w S fun w => ListAt k R w v xs :=
  fun w' hg => ⟨us, h1, h2, h3 w' hg, fun j u x hu hx => h4 j u x hu hx w' hg⟩

theorem SafeS.ints {w : World} {S : Nat → Prop} {g off n m : Nat} {xs : List Int} (h : Ints w (.slice (some ⟨g, off, none⟩) n m) xs) (hg : ¬ S g) : SafeS w S fun w => Ints w (.slice (some ⟨g, off, none⟩) n m) xs := by
  obtain ⟨us, h1, h2, h3, h4⟩ := h
  obtain ⟨a', c', hv, _⟩ := id h3
  simp only [Value.slice.injEq] at hv
  obtain ⟨-, rfl, -⟩ := hv
  exact SafeS.listAt us h1 h2 (SafeS.seq h3 hg) (fun j u x hu hx w' _ => h4 j u x hu hx)

/-- Literals: slices written out of what is safe. -/
theorem SafeS.lit {α : Type} {R : World → Value → α → Prop} {w : World} {S : Nat → Prop} {n : Nat} (hS : ∀ b, S b → b < w.heap.size) (hn : n = w.heap.size) (us : List Value) (xs : List α) (T : TypeId) (m : Nat) (hm : m = xs.length) (hl : us.length = xs.length) (hx : xs.length ≤ maxLen) (C : Array Value) (hC : C = us.toArray)
    (h : ∀ (j : Nat) u x, us[j]? = some u → xs[j]? = some x → SafeS w S fun w => R w u x) : SafeS (w.alloc (.cells C T)) S fun w' => ListAt 1 (inCell R) w' (.slice (some ⟨n, 0, none⟩) m m) xs := by
  subst hn; subst hm; subst hC
  refine SafeS.listAt (us.map fun u => [u]) (by simpa using hl) (by simp) ?_ ?_
  · rw [flatten_one (fun u => u)]
    have := SafeS.seq (S := S) (SeqAt.lit w us xs.length T hx) (fun hb => by have := hS _ hb; omega)
    simpa using this
  · intro j u x hu hx
    rw [List.getElem?_map] at hu
    cases hj : us[j]? with
    | none => simp [hj] at hu
    | some v => simp [hj] at hu; exact ((h j v x hj hx).ext (Ext.alloc _ _)).mono fun w hw => ⟨v, hu.symm, hw⟩
theorem SafeS.intsLit {w : World} {S : Nat → Prop} {n : Nat} (hS : ∀ b, S b → b < w.heap.size) (hn : n = w.heap.size) (xs : List Int) (T : TypeId) (m : Nat) (hm : m = xs.length) (hl : xs.length ≤ maxLen) (hb : ∀ x ∈ xs, -9223372036854775808 ≤ x ∧ x ≤ 9223372036854775807) (C : Array Value) (hC : C = (xs.map (Value.int .i64)).toArray) :
    SafeS (w.alloc (.cells C T)) S fun w' => Ints w' (.slice (some ⟨n, 0, none⟩) m m) xs := by
  subst hn; subst hm; subst hC
  refine SafeS.listAt (xs.map fun x => [Value.int .i64 x]) (by simp) (by simp) ?_ ?_
  · rw [flatten_one]
    exact SafeS.seq (S := S) (SeqAt.lit w _ xs.length T hl) (fun hb => by have := hS _ hb; omega)
  · intro j u x hu hx
    simp only [List.getElem?_map, hx, Option.map_some, Option.some.injEq] at hu
    exact fun _ _ => ⟨hu.symm, hb x (List.mem_of_getElem? hx)⟩

/-- A block known whole. -/
theorem block_cell {w : World} {B : Nat} {C : Array Value} {T : TypeId} (h : w.heap[B]? = some (.cells C T (0, 0))) (i : Nat) : w.cell? ⟨B, i, none⟩ = C[i]? := by simp [World.cell?, h]
theorem block_free {w : World} {B : Nat} {C : Array Value} {T : TypeId} (h : w.heap[B]? = some (.cells C T (0, 0))) (i : Nat) : w.frozen? ⟨B, i, none⟩ = false := by simp [World.frozen?, h]
theorem block_lt {w : World} {B : Nat} {o : Obj} (h : w.heap[B]? = some o) : B < w.heap.size := (Array.getElem?_eq_some_iff.1 h).1
theorem block_set {w : World} {B : Nat} {C : Array Value} {T : TypeId} (h : w.heap[B]? = some (.cells C T (0, 0))) (i : Nat) (x : Value) : (w.setCell ⟨B, i, none⟩ x).heap[B]? = some (.cells (C.setIfInBounds i x) T (0, 0)) := by
  have hlt := block_lt h
  have h' : w.heap[B] = .cells C T (0, 0) := by simpa [Array.getElem?_eq_getElem hlt] using h
  show (w.heap.modify B _)[B]? = _
  rw [Array.getElem?_eq_getElem (by simpa using hlt), Array.getElem_modify_self, h']
  rfl
theorem block_ext {w w' : World} {B : Nat} {o : Obj} (h : w.heap[B]? = some o) (he : Ext w w') : w'.heap[B]? = some o := (he.block B (block_lt h)).trans h
theorem block_grown {w w' : World} {B : Nat} {o : Obj} {r : Option Nat} (h : w.heap[B]? = some o) (hg : w.grownBy w' r) (hr : r ≠ some B) : w'.heap[B]? = some o := (hg.block B (block_lt h) (fun e => hr e.symm)).trans h
theorem block_new (w : World) (C : Array Value) (T : TypeId) : (w.alloc (.cells C T)).heap[w.heap.size]? = some (.cells C T (0, 0)) := heap_alloc_new w _
theorem owns_ne_block {w : World} {base : Nat} {e : TypeId} {k : Nat} {v : Value} {n : Nat} {xs : List Value} (h : w.ownsRow base e k v n xs) {B : Nat} {C : Array Value} {T : TypeId} {fr : Nat × Nat} (hB : w.heap[B]? = some (.cells C T fr)) (hne : e ≠ T) : v.ownBlock ≠ some B := by
  intro hb
  rcases h.2 with ⟨rfl, _⟩ | ⟨g, cap, cur, rfl, _, hg, _⟩
  · simp [Value.ownBlock] at hb
  · simp [Value.ownBlock] at hb
    subst hb
    rw [hg] at hB
    simp at hB
    exact hne hB.2.1
theorem grown_setCell (w : World) (B i : Nat) (x : Value) : w.grownBy (w.setCell ⟨B, i, none⟩ x) (some B) :=
  ⟨rfl, rfl, rfl, by simp [World.setCell], fun k hk hne => Below.heap_setCell _ _ _ _ (fun e => hne (by rw [e]))⟩

def BuildS {α : Type} (w : World) (S : Nat → Prop) (base : Nat) (e : TypeId) (k : Nat) (v : Value) (R : World → List Value → α → Prop) (xs : List α) : Prop :=
  (∀ b, v.ownBlock = some b → S b) ∧ ∃ us : List (List Value), us.length = xs.length ∧ (∀ u ∈ us, u.length = k) ∧ w.ownsRow base e k v xs.length us.flatten ∧
    ∀ (j : Nat) u x, us[j]? = some u → xs[j]? = some x → SafeS w S fun w => R w u x

section
variable {α : Type} {w w' : World} {S S' : Nat → Prop} {base : Nat} {e : TypeId} {k : Nat} {v : Value} {R : World → List Value → α → Prop} {xs : List α}

theorem BuildS.nil (w : World) (S : Nat → Prop) (base : Nat) (e : TypeId) (k : Nat) (R : World → List Value → α → Prop) : BuildS w S base e k (.slice none 0 0) R [] :=
  ⟨by intro b h; simp [Value.ownBlock] at h, [], rfl, by simp, by simpa using World.ownsRow_nil w base e k, by simp⟩

theorem BuildS.ext (h : BuildS w S base e k v R xs) (he : Ext w w') : BuildS w' S base e k v R xs := by
  obtain ⟨h0, us, h1, h2, h3, h4⟩ := h
  exact ⟨h0, us, h1, h2, owns_ext h3 he, fun j u x hu hx => (h4 j u x hu hx).ext he⟩

theorem BuildS.list (h : BuildS w S base e k v R xs) : ListAt k R w v xs := by
  obtain ⟨h0, us, h1, h2, h3, h4⟩ := h
  exact ⟨us, h1, h2, SeqAt.of_owns h3, fun j u x hu hx => (h4 j u x hu hx).now⟩

theorem BuildS.lt (h : BuildS w S base e k v R xs) : ∀ b, v.ownBlock = some b → base ≤ b ∧ b < w.heap.size := by
  obtain ⟨h0, us, h1, h2, h3, h4⟩ := h
  exact h3.lt

theorem BuildS.shape (h : BuildS w S base e k v R xs) (hx : 0 < xs.length) : ∃ g cap, v = .slice (some ⟨g, 0, none⟩) xs.length cap ∧ base ≤ g ∧ g < w.heap.size ∧ xs.length ≤ cap ∧ cap ≤ maxLen := by
  obtain ⟨h0, us, h1, h2, h3, h4⟩ := h
  exact owns_shape h3 hx
theorem BuildS.neBlock (h : BuildS w S base e k v R xs) {B : Nat} {C : Array Value} {T : TypeId} {fr : Nat × Nat} (hB : w.heap[B]? = some (.cells C T fr)) (hne : e ≠ T) : v.ownBlock ≠ some B := by
  obtain ⟨h0, us, h1, h2, h3, h4⟩ := h
  exact owns_ne_block h3 hB hne
theorem BuildS.store (h : BuildS w S base e k v R xs) {B i : Nat} {x : Value} (hB : S B) (hne : v.ownBlock ≠ some B) : BuildS (w.setCell ⟨B, i, none⟩ x) S base e k v R xs := by
  obtain ⟨h0, us, h1, h2, h3, h4⟩ := h
  refine ⟨h0, us, h1, h2, h3.kept (grown_setCell w B i x) ?_, fun j u x hu hx => (h4 j u x hu hx).grow (grownBy_S (grown_setCell w B i _) (fun k hk => by cases hk; exact hB)) (fun k hk => .inl hk)⟩
  cases hv : v.ownBlock with
  | none => exact .inl rfl
  | some b => exact .inr (fun e => hne (hv.trans e))

/-- Another row is written, or appended to. -/
theorem BuildS.other {o : Option Nat} (h : BuildS w S base e k v R xs) (hg : w.grownBy w' o) (ho : ∀ b, o = some b → S b) (hne : ∀ b, v.ownBlock = some b → o ≠ some b) (hS : ∀ k, S' k → S k ∨ w.heap.size ≤ k) (hSS : ∀ k, S k → S' k) : BuildS w' S' base e k v R xs := by
  obtain ⟨h0, us, h1, h2, h3, h4⟩ := h
  refine ⟨fun b hb => hSS _ (h0 b hb), us, h1, h2, h3.kept hg ?_, fun j u x hu hx => (h4 j u x hu hx).grow (grownBy_S hg ho) hS⟩
  cases hv : v.ownBlock with
  | none => exact .inl rfl
  | some b => exact .inr (fun e => hne b hv e.symm)

theorem SafeS.weak {w : World} {S S' : Nat → Prop} {P : World → Prop} (h : SafeS w S P) (hS : ∀ b, S' b → S b) : SafeS w S' P := fun w' hg => h w' (hg.weak fun b _ hb => hS b hb)
/-- What has been built is written no more: it is safe from what is appended elsewhere. -/
theorem BuildS.finish {g n cap : Nat} (h : BuildS w S base e k (.slice (some ⟨g, 0, none⟩) n cap) R xs) (hn : n = xs.length) : SafeS w (fun b => S b ∧ b ≠ g) fun w => ListAt k R w (.slice (some ⟨g, 0, none⟩) n cap) xs := by
  subst hn
  obtain ⟨h0, us, h1, h2, h3, h4⟩ := h
  exact SafeS.listAt us h1 h2 (SafeS.seq (SeqAt.of_owns h3) (fun hb => hb.2 rfl)) (fun j u x hu hx => (h4 j u x hu hx).weak fun b hb => hb.1)
theorem BuildS.shrink (h : BuildS w S base e k v R xs) (hS : ∀ b, S' b → S b) (hv : ∀ b, v.ownBlock = some b → S' b) : BuildS w S' base e k v R xs := by
  obtain ⟨h0, us, h1, h2, h3, h4⟩ := h
  exact ⟨hv, us, h1, h2, h3, fun j u x hu hx => (h4 j u x hu hx).weak hS⟩
theorem BuildS.drop {g : Nat} (h : BuildS w S base e k v R xs) (hv : v.ownBlock ≠ some g) : BuildS w (fun b => S b ∧ b ≠ g) base e k v R xs :=
  h.shrink (fun b hb => hb.1) fun b hb => ⟨h.1 b hb, fun e => hv (e ▸ hb)⟩

/-- Rows of two element types are never one block. -/
theorem owns_apart {w : World} {base base' : Nat} {e e' : TypeId} {k k' : Nat} {v v' : Value} {n n' : Nat} {xs xs' : List Value} (h : w.ownsRow base e k v n xs) (h' : w.ownsRow base' e' k' v' n' xs') (hne : e ≠ e') : ∀ b, v.ownBlock = some b → v'.ownBlock ≠ some b := by
  intro b hb hb'
  rcases h.2 with ⟨rfl, _⟩ | ⟨g, cap, cur, rfl, _, hg, _⟩
  · simp [Value.ownBlock] at hb
  · rcases h'.2 with ⟨rfl, _⟩ | ⟨g', cap', cur', rfl, _, hg', _⟩
    · simp [Value.ownBlock] at hb'
    · simp [Value.ownBlock] at hb hb'
      subst hb; subst hb'
      rw [hg] at hg'
      simp at hg'
      exact hne hg'.2
theorem BuildS.apart {β : Type} {base' : Nat} {e' : TypeId} {k' : Nat} {v' : Value} {R' : World → List Value → β → Prop} {ys : List β} (h : BuildS w S base e k v R xs) (h' : BuildS w S' base' e' k' v' R' ys) (hne : e ≠ e') : ∀ b, v.ownBlock = some b → v'.ownBlock ≠ some b := by
  obtain ⟨_, us, _, _, h3, _⟩ := h
  obtain ⟨_, us', _, _, h3', _⟩ := h'
  exact owns_apart h3 h3' hne

/-- Of a slice written out: it may be appended to if S says so. -/
theorem BuildS.lit (w : World) (S : Nat → Prop) (us : List (List Value)) (xs : List α) (hb : base ≤ w.heap.size) (hl : us.length = xs.length) (hk : ∀ u ∈ us, u.length = k) (hn : xs.length ≤ maxLen) (h : ∀ (j : Nat) u x, us[j]? = some u → xs[j]? = some x → SafeS w S fun w => R w u x) :
    BuildS (w.alloc (.cells us.flatten.toArray e)) (fun b => S b ∨ b = w.heap.size) base e k (.slice (some ⟨w.heap.size, 0, none⟩) xs.length xs.length) R xs := by
  have hfl : us.flatten.length = xs.length * k := by
    rw [← hl]; clear hl hn h
    induction us with
    | nil => simp
    | cons u us ih => rw [List.flatten_cons, List.length_append, hk u (by simp), ih (fun u hu => hk u (by simp [hu])), List.length_cons, Nat.succ_mul]; omega
  refine ⟨fun b hb => .inr (by simp [Value.ownBlock] at hb; exact hb.symm), us, hl, hk, ?_, ?_⟩
  · have := World.ownsRow_lit (e := e) (size := k) w us.flatten.toArray xs.length hb hn (by simpa using hfl)
    simpa using this
  · intro j u x hu hx
    refine (h j u x hu hx).grow ((Ext.alloc w _).grownS S) ?_
    intro b hb
    rcases hb with hb | hb
    · exact .inl hb
    · exact .inr (by omega)
end

/-- 'out = append(out, x)': one element more. -/
theorem wp_append_buildS {P : Program} {α : Type} (w : World) {o : Oper} {a : Act} {K : Act → World → Prop} {Q : Exit → Act → World → Prop}
    (s x : Operand) (t : TypeId) (ho : o.op = Op.call { callee := Callee.builtin Builtin.append, args := #[s, x], argTypes := #[t, t] }) (S : Nat → Prop) (base : Nat) (e : TypeId) (z : Value) (k bytes : Nat)
    (ht : P.underlying t = some (TypeDesc.slice e)) (hinfo : (P.info? e).map (fun i => (i.zero, i.size, i.bytes)) = some (some z, k, bytes)) (hzs : z.cells.size = k) (hk : 0 < k)
    (v : Value) (R : World → List Value → α → Prop) (xs : List α) (y : α) (u : Array Value) (T : TypeId) (hs : a.eval s = v) (hB : BuildS w S base e k v R xs)
    (nb : Nat) (hx : a.eval x = .slice (some ⟨nb, 0, none⟩) 1 1) (hnb : nb = w.heap.size) (hu : u.size = k) (h1 : ∀ z ∈ u.toList, z.oneCell' = true) (hR : SafeS w S fun w => R w u.toList y)
    (hlen : xs.length < 1000000) (hbytes : bytes ≤ 1000) (hbase : base ≤ w.heap.size) (b00 : Nat) (hb00 : b00 ≤ base) (hok : SOk S b00 w)
    (h : ∀ v' w' S', SOk S' b00 w' → (∀ b, S b → S' b) → (∀ b, S' b → S b ∨ w.heap.size ≤ b) → BuildS w' S' base e k v' R (xs ++ [y]) → w.grownBy w' v.ownBlock → Below base w w' → w.heap.size < w'.heap.size → (∀ Pr : World → Prop, SafeS w S Pr → SafeS w' S' Pr) → K (a.put o.dst v') w') :
    o.wp P a (w.alloc (.cells u T)) K Q := by
  subst hnb
  obtain ⟨i, hi, hz, hsize, hby⟩ := info_parts hinfo
  obtain ⟨b0, us, b1, b2, b3, b4⟩ := hB
  have hadd : ∀ j, (⟨w.heap.size, 0, none⟩ : Addr).add j = ⟨w.heap.size, j, none⟩ := by intro j; unfold Addr.add; split <;> simp_all
  refine wp_append_own_at (w.alloc (.cells u T)) s x t ho base e i z k bytes ht hi hz hsize hby hzs hk v xs.length us.flatten hs (b3.alloc _) ⟨w.heap.size, 0, none⟩ 1 1 u.toList hx (by simp [hu]) ?_ h1 ?_ ?_ ?_ ?_
  · intro j q hq
    rw [hadd, World.cell?_alloc_new]
    simpa using hq
  · unfold maxLen; omega
  · have : (xs.length + 1) * bytes ≤ 1000000 * 1000 := Nat.mul_le_mul (by omega) hbytes
    omega
  · simp; omega
  · intro v' w' hown hgrow _ hat
    have hgw : w.grownBy w' v.ownBlock := grown_trans (World.grownBy_alloc w _ v.ownBlock) hgrow
    have hS1 : ∀ b, (S b ∨ v'.ownBlock = some b) → S b ∨ w.heap.size ≤ b := by
      intro b hb
      rcases hb with hb | hb
      · exact .inl hb
      · rcases hat with e | e
        · exact .inl (b0 b (e ▸ hb))
        · rw [e] at hb
          refine .inr ?_
          simp at hb
          omega
    have safe : ∀ Pr : World → Prop, SafeS w S Pr → SafeS w' (fun b => S b ∨ v'.ownBlock = some b) Pr := fun Pr hP => hP.grow (grownBy_S hgw b0) hS1
    have hok' : SOk (fun b => S b ∨ v'.ownBlock = some b) b00 w' := by
      intro b hb
      rcases hb with hb | hb
      · exact ⟨(hok b hb).1, Nat.lt_of_lt_of_le (hok b hb).2 hgw.size⟩
      · exact ⟨Nat.le_trans hb00 (hown.lt b hb).1, (hown.lt b hb).2⟩
    refine h v' w' (fun b => S b ∨ v'.ownBlock = some b) hok' (fun b hb => .inl hb) hS1 ⟨fun b hb => .inr hb, us ++ [u.toList], by simp [b1], ?_, ?_, ?_⟩ hgw ?_ ?_ safe
    · intro q hq
      rcases List.mem_append.1 hq with hq | hq
      · exact b2 q hq
      · rw [List.mem_singleton.1 hq]; simpa using hu
    · rw [flatten_snoc]
      simpa using hown
    · intro j q y' hq hy
      by_cases hj : j < us.length
      · rw [List.getElem?_append_left hj] at hq
        rw [List.getElem?_append_left (by omega)] at hy
        exact safe _ (b4 j q y' hq hy)
      · rw [List.getElem?_append_right (by omega)] at hq
        rw [List.getElem?_append_right (by omega)] at hy
        have e1 : j - us.length = 0 := by
          have := (List.getElem?_eq_some_iff.1 hq).1
          simp at this; omega
        have e2 : j - xs.length = 0 := by omega
        rw [e1] at hq; rw [e2] at hy
        simp at hq hy
        subst hq; subst hy
        exact safe _ hR
    · refine ⟨hgw.os, hgw.tape, hgw.output, hgw.size, fun b hb => hgw.block b (by omega) ?_⟩
      intro e
      have := (b3.lt b e.symm).1
      omega
    · have := hgrow.size
      simp at this
      omega

theorem wpList_append_buildS {P : Program} {α : Type} (w : World) {ops : Array Oper} {rest : List Oper} {o : Oper} {a : Act} {Q : Exit → Act → World → Prop} (hgd : o.guard = none)
    (s x : Operand) (t : TypeId) (ho : o.op = Op.call { callee := Callee.builtin Builtin.append, args := #[s, x], argTypes := #[t, t] }) (S : Nat → Prop) (base : Nat) (e : TypeId) (z : Value) (k bytes : Nat)
    (ht : P.underlying t = some (TypeDesc.slice e)) (hinfo : (P.info? e).map (fun i => (i.zero, i.size, i.bytes)) = some (some z, k, bytes)) (hzs : z.cells.size = k) (hk : 0 < k)
    (v : Value) (R : World → List Value → α → Prop) (xs : List α) (y : α) (u : Array Value) (T : TypeId) (hs : a.eval s = v) (hB : BuildS w S base e k v R xs)
    (nb : Nat) (hx : a.eval x = .slice (some ⟨nb, 0, none⟩) 1 1) (hnb : nb = w.heap.size) (hu : u.size = k) (h1 : ∀ z ∈ u.toList, z.oneCell' = true) (hR : SafeS w S fun w => R w u.toList y)
    (hlen : xs.length < 1000000) (hbytes : bytes ≤ 1000) (hbase : base ≤ w.heap.size) (b00 : Nat) (hb00 : b00 ≤ base) (hok : SOk S b00 w)
    (h : ∀ v' w' S', SOk S' b00 w' → (∀ b, S b → S' b) → (∀ b, S' b → S b ∨ w.heap.size ≤ b) → BuildS w' S' base e k v' R (xs ++ [y]) → w.grownBy w' v.ownBlock → Below base w w' → w.heap.size < w'.heap.size → (∀ Pr : World → Prop, SafeS w S Pr → SafeS w' S' Pr) → wpList P ops Q rest (a.put o.dst v') w') :
    wpList P ops Q (o :: rest) a (w.alloc (.cells u T)) :=
  wpList_plain hgd fun _ hK => wp_append_buildS w s x t ho S base e z k bytes ht hinfo hzs hk v R xs y u T hs hB nb hx hnb hu h1 hR hlen hbytes hbase b00 hb00 hok fun v' w' S' a0 a1 a2 a3 a4 a5 a6 a7 => hK _ _ (h v' w' S' a0 a1 a2 a3 a4 a5 a6 a7)

/-- The same at a step of a region that draws its order. -/
theorem step_append_buildS {P : Program} {α : Type} (w : World) {ops : Array Oper} {o : Oper} {a : Act} {K : Act → World → Prop} {Q : Exit → Act → World → Prop} {E : Prop} (hgd : o.guard = none)
    (s x : Operand) (t : TypeId) (ho : o.op = Op.call { callee := Callee.builtin Builtin.append, args := #[s, x], argTypes := #[t, t] }) (S : Nat → Prop) (base : Nat) (e : TypeId) (z : Value) (k bytes : Nat)
    (ht : P.underlying t = some (TypeDesc.slice e)) (hinfo : (P.info? e).map (fun i => (i.zero, i.size, i.bytes)) = some (some z, k, bytes)) (hzs : z.cells.size = k) (hk : 0 < k)
    (v : Value) (R : World → List Value → α → Prop) (xs : List α) (y : α) (u : Array Value) (T : TypeId) (hs : a.eval s = v) (hB : BuildS w S base e k v R xs)
    (nb : Nat) (hx : a.eval x = .slice (some ⟨nb, 0, none⟩) 1 1) (hnb : nb = w.heap.size) (hu : u.size = k) (h1 : ∀ z ∈ u.toList, z.oneCell' = true) (hR : SafeS w S fun w => R w u.toList y)
    (hlen : xs.length < 1000000) (hbytes : bytes ≤ 1000) (hbase : base ≤ w.heap.size) (b00 : Nat) (hb00 : b00 ≤ base) (hok : SOk S b00 w)
    (h : ∀ v' w' S', SOk S' b00 w' → (∀ b, S b → S' b) → (∀ b, S' b → S b ∨ w.heap.size ≤ b) → BuildS w' S' base e k v' R (xs ++ [y]) → w.grownBy w' v.ownBlock → Below base w w' → w.heap.size < w'.heap.size → (∀ Pr : World → Prop, SafeS w S Pr → SafeS w' S' Pr) → K (a.put o.dst v') w') :
    if Region.wanted o (yielded ops a.tmps) = true then Oper.wp P o a (w.alloc (.cells u T)) K Q else E := by
  have hw : Region.wanted o (yielded ops a.tmps) = true := by simp [Region.wanted, hgd]
  rw [if_pos hw]
  exact wp_append_buildS w s x t ho S base e z k bytes ht hinfo hzs hk v R xs y u T hs hB nb hx hnb hu h1 hR hlen hbytes hbase b00 hb00 hok h

end Go.Proofs.Ytplcikgmefcfbaa
