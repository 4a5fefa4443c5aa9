/- What is built between the rounds of a range over a function: the loop's own records (blocks that are no cells, from B on) may turn. -/
import Derived.Test.YtplcikgmefcfbaaBack
import Derived.Test.YtplcikgmefcfbaaCopied
namespace Go.Proofs.Ytplcikgmefcfbaa
set_option linter.unusedVariables false
set_option linter.unusedSimpArgs false
open Go.RowKit Go.Shelf

/-- The row that turns is such a block. -/
def TurnsAt (B : Nat) (W : World) (row : Option Nat) : Prop := ∀ r, row = some r → B ≤ r ∧ ∃ o : Obj, W.heap[r]? = some o ∧ o.isCells = false

theorem NonC.none (W : World) (b : Nat) : ¬ NonC W.heap.size W b := by
  rintro ⟨h, o, ho, _⟩
  have := (Array.getElem?_eq_some_iff.1 ho).1
  omega
theorem turn_old {B : Nat} {S : Nat → Prop} {W W' : World} {row : Option Nat} (hg : W.grownBy W' row) (hr : TurnsAt B W row) (hS : ∀ b, NonC B W b → S b) : ∀ k, (S k ∨ NonC B W' k) → S k ∨ W.heap.size ≤ k := by
  rintro k (hk | ⟨hB, o, ho, hc⟩)
  · exact .inl hk
  · by_cases hlt : k < W.heap.size
    · by_cases hrow : row = some k
      · obtain ⟨_, o', ho', hc'⟩ := hr k hrow
        exact .inl (hS k ⟨hB, o', ho', hc'⟩)
      · rw [hg.block k hlt (fun e => hrow e.symm)] at ho
        exact .inl (hS k ⟨hB, o, ho, hc⟩)
    · exact .inr (by omega)
theorem turn_in {B : Nat} {S : Nat → Prop} {W : World} {row : Option Nat} (hr : TurnsAt B W row) (hS : ∀ b, NonC B W b → S b) : ∀ k, row = some k → S k := fun k hk => by
  obtain ⟨h1, o, h2, h3⟩ := hr k hk
  exact hS k ⟨h1, o, h2, h3⟩
theorem owns_turn {B : Nat} {W : World} {row : Option Nat} (hr : TurnsAt B W row) {base : Nat} {e : TypeId} {k : Nat} {v : Value} {n : Nat} {xs : List Value} (h : W.ownsRow base e k v n xs) : ∀ b, v.ownBlock = some b → row ≠ some b := by
  intro b hb hrow
  obtain ⟨_, o, ho, hc⟩ := hr b hrow
  rcases h.2 with ⟨rfl, _⟩ | ⟨g, cap, cur, rfl, _, hg, _⟩
  · simp [Value.ownBlock] at hb
  · simp [Value.ownBlock] at hb
    subst hb
    rw [hg] at ho
    cases ho
    simp [Obj.isCells] at hc
theorem BuildS.turn {α : Type} {B base : Nat} {S : Nat → Prop} {W W' : World} {row : Option Nat} {e : TypeId} {k : Nat} {v : Value} {R : World → List Value → α → Prop} {xs : List α} (h : BuildS W S base e k v R xs) (hg : W.grownBy W' row) (hr : TurnsAt B W row) (hS : ∀ b, NonC B W b → S b) :
    BuildS W' (fun b => S b ∨ NonC B W' b) base e k v R xs := by
  obtain ⟨_, us, _, _, h3, _⟩ := id h
  exact h.other hg (turn_in hr hS) (owns_turn hr h3) (turn_old hg hr hS) fun k hk => .inl hk
theorem SafeS.turn {B : Nat} {S : Nat → Prop} {W W' : World} {row : Option Nat} {P : World → Prop} (h : SafeS W S P) (hg : W.grownBy W' row) (hr : TurnsAt B W row) (hS : ∀ b, NonC B W b → S b) : SafeS W' (fun b => S b ∨ NonC B W' b) P :=
  h.grow (grownBy_S hg (turn_in hr hS)) (turn_old hg hr hS)
theorem SOk.turn {B base : Nat} {S : Nat → Prop} {W W' : World} {row : Option Nat} (h : SOk S base W) (hg : W.grownBy W' row) (hb : base ≤ B) : SOk (fun b => S b ∨ NonC B W' b) base W' := by
  rintro b (hs | ⟨h1, o, ho, _⟩)
  · exact ⟨(h b hs).1, Nat.lt_of_lt_of_le (h b hs).2 hg.size⟩
  · exact ⟨by omega, (Array.getElem?_eq_some_iff.1 ho).1⟩
/-- A block of cells stays. -/
theorem block_turn {B b : Nat} {W W' : World} {row : Option Nat} {C : Array Value} {T : TypeId} {fr : Nat × Nat} (h : W.heap[b]? = some (.cells C T fr)) (hg : W.grownBy W' row) (hr : TurnsAt B W row) : W'.heap[b]? = some (.cells C T fr) := by
  refine (hg.block b (block_lt h) fun e => ?_).trans h
  obtain ⟨_, o, ho, hc⟩ := hr b e.symm
  rw [h] at ho
  cases ho
  simp [Obj.isCells] at hc

theorem inCell.values {α : Type} {R : World → Value → α → Prop} {w : World} {a : Option Addr} {n cap : Nat} {xs : List α} (h : ListAt 1 (inCell R) w (.slice a n cap) xs) :
    ∃ us : List Value, us.length = xs.length ∧ (0 < xs.length → ∃ b off, a = some ⟨b, off, none⟩ ∧ b < w.heap.size ∧ ∀ (j : Nat) u, us[j]? = some u → w.cell? ⟨b, off + j, none⟩ = some u) ∧ ∀ (j : Nat) u x, us[j]? = some u → xs[j]? = some x → R w u x := by
  obtain ⟨uss, h1, h2, ⟨a', cap', hv, h3, h4, h5, h6⟩, h7⟩ := h
  simp only [Value.slice.injEq] at hv
  obtain ⟨rfl, -, rfl⟩ := hv
  have hl : uss.flatten.length = uss.length := by
    clear h1 h6 h7
    induction uss with
    | nil => rfl
    | cons u uss ih =>
      have := h2 u (by simp)
      have := ih (fun u hu => h2 u (by simp [hu]))
      simp only [List.flatten_cons, List.length_append, List.length_cons]; omega
  refine ⟨uss.flatten, hl.trans h1, fun hx => ?_, fun j u x hu hx => ?_⟩
  · obtain ⟨b, off, h8, h9, h10⟩ := h6 (by intro e; rw [e] at hl; simp at hl; omega)
    exact ⟨b, off, h8, h9, h10⟩
  · have hj : j < uss.length := by rw [h1]; exact (List.getElem?_eq_some_iff.1 hx).1
    obtain ⟨v, hv, hr⟩ := h7 j uss[j] x (List.getElem?_eq_getElem hj) hx
    have := flatten_get uss j 0 uss[j] h2 (List.getElem?_eq_getElem hj) (by omega)
    rw [hv] at this
    simp only [Nat.mul_one, Nat.add_zero, List.getElem?_cons_zero] at this
    rw [this] at hu
    simp at hu
    subst hu
    exact hr

/-- Backward's closure at chords, as a contract. -/
theorem backChords_stops (F : Fence) (n : Nat) (hF : F.fn 63) (hro : F.round = none) (hn : 1 ≤ n) (Bs n₀ len cap : Nat) (a : Option Addr) (us : List Value) (hus : us.length = len) (hlen : len ≤ 1000000) (hcap : len ≤ cap) (hcap2 : cap ≤ maxLen)
    (w : World) (hBs : w.cell? ⟨Bs, 0, none⟩ = some (.slice a len cap)) (hc : 0 < len → ∃ b off, a = some ⟨b, off, none⟩ ∧ b < n₀ ∧ ∀ (j : Nat) u, us[j]? = some u → w.cell? ⟨b, off + j, none⟩ = some u) :
    SeqStopsK F n Try.prog 63 #[.pointer (some ⟨Bs, 0, none⟩)] (backEnc (len := len) us) (KeepB n₀ Bs) (fun ys => ys = backs len len) (fun pre => ∃ k, pre = backs len k) len w := fun l J Jx W hW _ _ hY h0 =>
  backChords1_in F n hF hro hn l Bs n₀ len cap a us hus hlen hcap hcap2 J Jx hY W (Ext.cell hW hBs) (fun h => by
    obtain ⟨b, off, h1, h2, h3⟩ := hc h
    exact ⟨b, off, h1, h2, fun j u hu => Ext.cell hW (h3 j u hu)⟩) h0
theorem backLinks_stops (F : Fence) (n : Nat) (hF : F.fn 64) (hro : F.round = none) (hn : 1 ≤ n) (Bs n₀ len cap : Nat) (a : Option Addr) (us : List Value) (hus : us.length = len) (hlen : len ≤ 1000000) (hcap : len ≤ cap) (hcap2 : cap ≤ maxLen)
    (w : World) (hBs : w.cell? ⟨Bs, 0, none⟩ = some (.slice a len cap)) (hc : 0 < len → ∃ b off, a = some ⟨b, off, none⟩ ∧ b < n₀ ∧ ∀ (j : Nat) u, us[j]? = some u → w.cell? ⟨b, off + j, none⟩ = some u) :
    SeqStopsK F n Try.prog 64 #[.pointer (some ⟨Bs, 0, none⟩)] (backEnc (len := len) us) (KeepB n₀ Bs) (fun ys => ys = backs len len) (fun pre => ∃ k, pre = backs len k) len w := fun l J Jx W hW _ _ hY h0 =>
  backLinks1_in F n hF hro hn l Bs n₀ len cap a us hus hlen hcap hcap2 J Jx hY W (Ext.cell hW hBs) (fun h => by
    obtain ⟨b, off, h1, h2, h3⟩ := hc h
    exact ⟨b, off, h1, h2, fun j u hu => Ext.cell hW (h3 j u hu)⟩) h0
end Go.Proofs.Ytplcikgmefcfbaa
