/- An element of an owned slice written; two walks, of which the second one may be written. -/
import Derived.Test.YtplcikgmefcfbaaJoinsM
import Derived.Test.YtplcikgmefcfbaaJoinPlain
namespace Go.Proofs.Ytplcikgmefcfbaa
set_option linter.unusedVariables false
set_option linter.unusedSimpArgs false
open Go.RowKit

theorem flatten_set1 {k : Nat} : ∀ (us : List (List Value)) (i m : Nat) (u : List Value) (z : Value), (∀ u ∈ us, u.length = k) → us[i]? = some u → m < k → us.flatten.set (i * k + m) z = (us.set i (u.set m z)).flatten
  | [], i, m, u, z, _, h, _ => by simp at h
  | x :: us, i, m, u, z, hk, h, hm => by
    have hx : x.length = k := hk x (by simp)
    cases i with
    | zero =>
      simp only [List.getElem?_cons_zero, Option.some.injEq] at h
      subst h
      rw [Nat.zero_mul, Nat.zero_add, List.flatten_cons, List.set_append, if_pos (by omega), List.set_cons_zero, List.flatten_cons]
    | succ i =>
      rw [List.getElem?_cons_succ] at h
      have ih := flatten_set1 us i m u z (fun u hu => hk u (List.mem_cons_of_mem _ hu)) h hm
      rw [List.flatten_cons, List.set_append, if_neg (by rw [hx, Nat.add_mul]; omega), hx, show (i + 1) * k + m - k = i * k + m by rw [Nat.add_mul]; omega, ih, List.set_cons_succ, List.flatten_cons]
section
variable {α : Type} {w w' : World} {S S' : Nat → Prop} {base : Nat} {e : TypeId} {k : Nat} {v : Value} {R : World → List Value → α → Prop} {xs : List α}
/-- The cells of one element. -/
theorem BuildS.elem {g n cap : Nat} (h : BuildS w S base e k (.slice (some ⟨g, 0, none⟩) n cap) R xs) {i : Nat} {x : α} (hx : xs[i]? = some x) :
    ∃ u, u.length = k ∧ (∀ m, m < k → w.cell? ⟨g, i * k + m, none⟩ = u[m]? ∧ w.frozen? ⟨g, i * k + m, none⟩ = false) ∧ SafeS w S fun w' => R w' u x := by
  obtain ⟨g', cap', hv, -⟩ := h.shape (by have := (List.getElem?_eq_some_iff.1 hx).1; omega)
  simp only [Value.slice.injEq, Option.some.injEq, Addr.mk.injEq, and_true, true_and] at hv
  obtain ⟨-, hn, -⟩ := hv
  subst hn
  obtain ⟨h0, us, h1, h2, h3, h4⟩ := h
  have hi : i < xs.length := (List.getElem?_eq_some_iff.1 hx).1
  have hu : us[i]? = some us[i] := List.getElem?_eq_getElem (by omega)
  have hul := h2 _ (List.mem_of_getElem? hu)
  refine ⟨us[i], hul, fun m hm => ⟨?_, h3.frozenAt _⟩, h4 i _ x hu hx⟩
  rw [h3.cellAt _ (by have : (i + 1) * k ≤ xs.length * k := Nat.mul_le_mul_right k hi; rw [Nat.add_mul] at this; omega)]
  exact flatten_get us i m _ h2 hu hm
/-- One cell of one element written. -/
theorem BuildS.setAt {g n cap : Nat} (h : BuildS w S base e k (.slice (some ⟨g, 0, none⟩) n cap) R xs) (i m : Nat) (x : α) (z : Value) (hi : i < xs.length) (hm : m < k)
    (hR : ∀ u y, u.length = k → xs[i]? = some y → SafeS w S (fun w' => R w' u y) → SafeS w S fun w' => R w' (u.set m z) x) :
    BuildS (w.setCell ⟨g, i * k + m, none⟩ z) S base e k (.slice (some ⟨g, 0, none⟩) n cap) R (xs.set i x) := by
  obtain ⟨g', cap', hv, -⟩ := h.shape (by omega)
  simp only [Value.slice.injEq, Option.some.injEq, Addr.mk.injEq, and_true, true_and] at hv
  obtain ⟨-, hn, -⟩ := hv
  subst hn
  obtain ⟨h0, us, h1, h2, h3, h4⟩ := h
  have hu : us[i]? = some us[i] := List.getElem?_eq_getElem (by omega)
  have hul := h2 _ (List.mem_of_getElem? hu)
  have hxi : xs[i]? = some xs[i] := List.getElem?_eq_getElem hi
  have hg : GrownS S w (w.setCell ⟨g, i * k + m, none⟩ z) := grownBy_S (grown_setCell _ _ _ _) (fun b hb => by cases hb; exact h0 g rfl)
  refine ⟨h0, us.set i (us[i].set m z), by simp [h1], fun u hu' => ?_, ?_, fun j u y hj hy => ?_⟩
  · rcases List.mem_or_eq_of_mem_set hu' with h | h
    · exact h2 u h
    · rw [h, List.length_set]; exact hul
  · rw [← flatten_set1 us i m _ z h2 hu hm, List.length_set]
    exact (h3.stored _ z).1
  · by_cases hij : i = j
    · subst hij
      rw [List.getElem?_set, if_pos rfl, if_pos (by omega)] at hj hy
      cases hj; cases hy
      exact (hR _ _ hul hxi (h4 i _ _ hu hxi)).grow hg (fun k hk => .inl hk)
    · rw [List.getElem?_set, if_neg hij] at hj hy
      exact (h4 j u y hj hy).grow hg (fun k hk => .inl hk)
end
theorem chordR.rows {w : World} {v : Value} {c : List (List Int)} (h : chordR w [v] c) : Rows2 w v c := by
  obtain ⟨_, e, h⟩ := h
  cases e
  exact h
/-- Two walks; the second one's chords and first links may be written, and nothing of the first one lies there. -/
structure Pair (W : World) (T : Nat → Prop) (B : Nat) (one vp vc vl u0 : Value) (k1 k2 : Wk) : Prop where
  one : SafeS W T fun w' => WalkAt w' one k1
  primes : SafeS W T fun w' => Ints w' vp k2.primes
  chords : BuildS W T B 31 1 vc chordR k2.chords
  links : BuildS W T B 34 1 vl (optR u0) (opts k2.links)
  first : L0 W T B u0 k2.links
theorem Pair.of {W : World} {B1 B2 : Nat} {T1 T2 : Nat → Prop} {vp1 vc1 vl1 u1 vp2 vc2 vl2 u2 : Value} {k1 k2 : Wk} (O1 : OwnWk W B1 T1 vp1 vc1 vl1 u1 k1) (O2 : OwnWk W B2 T2 vp2 vc2 vl2 u2 k2)
    (h1 : ∀ b, B2 ≤ b → b < W.heap.size → T1 b) (h2 : ∀ b, (vc1.ownBlock = some b ∨ vl1.ownBlock = some b ∨ (k1.links ≠ [] ∧ u1.ownBlock = some b)) → b < B2) :
    Pair W (fun b => B2 ≤ b ∧ T2 b) B2 (.agg #[vp1, vc1, vl1]) vp2 vc2 vl2 u2 k1 k2 :=
  ⟨O1.walk (fun b hb => h1 b hb.1 (O2.lt b hb.2)) (fun b hb e => by have := h2 b (.inl e); omega) (fun b hb e => by have := h2 b (.inr (.inl e)); omega) (fun b hb e0 e => by have := h2 b (.inr (.inr ⟨e0, e⟩)); omega),
   O2.primes.weak (fun b hb => hb.2), O2.chords.shrink (fun b hb => hb.2) (fun b hb => ⟨(O2.chords.lt b hb).1, O2.chords.1 b hb⟩), O2.links.shrink (fun b hb => hb.2) (fun b hb => ⟨(O2.links.lt b hb).1, O2.links.1 b hb⟩), O2.first.shrink (fun b hb => hb.2) (fun b h0 hb ht => ⟨(L0.lt O2.first h0 b hb).1, ht⟩)⟩
section
variable {W : World} {T : Nat → Prop} {B : Nat} {one vp vc vl u0 : Value} {k1 k2 : Wk}
theorem Pair.now (h : Pair W T B one vp vc vl u0 k1 k2) : WalkAt W (.agg #[vp, vc, vl]) k2 :=
  ⟨vp, vc, vl, rfl, h.primes.now, h.chords.list, optR_links h.links.list fun l r e => by
    have hf := h.first
    rw [e] at hf
    exact BuildS.list (show BuildS W T B 33 2 u0 linkR l from hf)⟩
/-- The first chord written. -/
theorem Pair.chord {g n cap : Nat} (h : Pair W T B one vp (.slice (some ⟨g, 0, none⟩) n cap) vl u0 k1 k2) (hn : 0 < k2.chords.length) (z : Value) (c : List (List Int)) (hz : SafeS W T fun w' => chordR w' [z] c) :
    Pair (W.setCell ⟨g, 0, none⟩ z) T B one vp (.slice (some ⟨g, 0, none⟩) n cap) vl u0 k1 { k2 with chords := k2.chords.set 0 c } := by
  have hb : T g := h.chords.1 g rfl
  have hg : GrownS T W (W.setCell ⟨g, 0, none⟩ z) := grownBy_S (grown_setCell _ _ _ _) (fun b hb' => by cases hb'; exact hb)
  have hs := h.chords.setAt 0 0 c z hn (by omega) (fun u y hu _ _ => by
    match u, hu with
    | [x], _ => exact hz)
  refine ⟨h.one.grow hg (fun k hk => .inl hk), h.primes.grow hg (fun k hk => .inl hk), ?_, h.links.store hb (h.chords.apart h.links (by decide) g rfl), L0.store h.first hb (fun h0 e => L0.apart h.first h.chords (by decide) h0 g e rfl)⟩
  simpa using hs
/-- A link's beginning written. -/
theorem Pair.link {g n cap : Nat} {l : List (Int × Int)} {r : List (List (Int × Int))} (h : Pair W T B one vp vc vl (.slice (some ⟨g, 0, none⟩) n cap) k1 k2) (hl : k2.links = l :: r) (i : Nat) (y : Int × Int) (hi : l[i]? = some y) (x : Int) (hx : -9223372036854775808 ≤ x ∧ x ≤ 9223372036854775807) :
    Pair (W.setCell ⟨g, i * 2, none⟩ (.int .i64 x)) T B one vp vc vl (.slice (some ⟨g, 0, none⟩) n cap) k1 { k2 with links := l.set i (x, y.2) :: r } := by
  have hf : BuildS W T B 33 2 (.slice (some ⟨g, 0, none⟩) n cap) linkR l := by have := h.first; rw [hl] at this; exact this
  have hb : T g := hf.1 g rfl
  have hg : GrownS T W (W.setCell ⟨g, i * 2, none⟩ (.int .i64 x)) := grownBy_S (grown_setCell _ _ _ _) (fun b hb' => by cases hb'; exact hb)
  have hs := hf.setAt i 0 (x, y.2) (.int .i64 x) (List.getElem?_eq_some_iff.1 hi).1 (by omega) (fun u z hu hz hS => by
    rw [hi] at hz
    cases hz
    refine SafeS.mono hS fun w' hR => ?_
    obtain ⟨rfl, -, h2⟩ := hR
    exact ⟨rfl, hx, h2⟩)
  rw [Nat.add_zero] at hs
  have hlk := h.links
  rw [hl] at hlk
  exact ⟨h.one.grow hg (fun k hk => .inl hk), h.primes.grow hg (fun k hk => .inl hk), h.chords.store hb (hf.apart h.chords (by decide) g rfl), (hlk.store hb (hf.apart hlk (by decide) g rfl) : BuildS _ T B 34 1 vl (optR _) (opts (l :: r))), hs⟩
/-- A box that holds slices of the walk stands where neither is written. -/
theorem Pair.chordBox {g n cap : Nat} (h : Pair W T B one vp (.slice (some ⟨g, 0, none⟩) n cap) vl u0 k1 k2) (z : Value) {b : Nat} {C : Array Value} (hb : W.heap[b]? = some (.cells C 30 (0, 0))) : (W.setCell ⟨g, 0, none⟩ z).heap[b]? = some (.cells C 30 (0, 0)) :=
  block_grown hb (grown_setCell _ _ _ _) (h.chords.neBlock hb (by decide))
theorem Pair.linkBox {g n cap : Nat} {l : List (Int × Int)} {r : List (List (Int × Int))} (h : Pair W T B one vp vc vl (.slice (some ⟨g, 0, none⟩) n cap) k1 k2) (hl : k2.links = l :: r) (i : Nat) (z : Value) {b : Nat} {C : Array Value} (hb : W.heap[b]? = some (.cells C 30 (0, 0))) : (W.setCell ⟨g, i, none⟩ z).heap[b]? = some (.cells C 30 (0, 0)) :=
  block_grown hb (grown_setCell _ _ _ _) (L0.neBlock h.first hb (by decide) (by rw [hl]; simp))
end
/-- The walk between two stores into the second walk. -/
structure St (w1 w3 W : World) (T : Nat → Prop) (B g7 g8 : Nat) (b1 : Array Value) (vp vc vl u0 : Value) (k1 k : Wk) : Prop where
  ext : Ext w1 W
  grown : GrownS T w3 W
  box7 : W.heap[g7]? = some (.cells b1 30 (0, 0))
  box8 : W.heap[g8]? = some (.cells #[vp, vc, vl] 30 (0, 0))
  pair : Pair W T B (.agg b1) vp vc vl u0 k1 k
theorem St.link {w1 w3 W : World} {T : Nat → Prop} {B g7 g8 : Nat} {b1 : Array Value} {vp vc vl : Value} {k1 k2 : Wk} {g n cap : Nat} {l : List (Int × Int)} {r : List (List (Int × Int))} (h : St w1 w3 W T B g7 g8 b1 vp vc vl (.slice (some ⟨g, 0, none⟩) n cap) k1 k2) (hB : w1.heap.size ≤ B) (hl : k2.links = l :: r) (i : Nat) (y : Int × Int) (hi : l[i]? = some y) (x : Int) (hx : -9223372036854775808 ≤ x ∧ x ≤ 9223372036854775807) :
    St w1 w3 (W.setCell ⟨g, i * 2, none⟩ (.int .i64 x)) T B g7 g8 b1 vp vc vl (.slice (some ⟨g, 0, none⟩) n cap) k1 { k2 with links := l.set i (x, y.2) :: r } := by
  have hf : BuildS W T B 33 2 (.slice (some ⟨g, 0, none⟩) n cap) linkR l := by have := h.pair.first; rw [hl] at this; exact this
  exact ⟨Below.setCell h.ext (Nat.le_trans hB (hf.lt g rfl).1) _, h.grown.trans (grownBy_S (grown_setCell _ _ _ _) (fun b hb => by cases hb; exact hf.1 g rfl)), h.pair.linkBox hl _ _ h.box7, h.pair.linkBox hl _ _ h.box8, h.pair.link hl i y hi x hx⟩
/-- The first beginnings taken modulo a number. -/
def modTo (n : Int) (l : List (Int × Int)) (j : Nat) : List (Int × Int) := modL n (l.take j) ++ l.drop j
theorem modTo_zero (n : Int) (l : List (Int × Int)) : modTo n l 0 = l := rfl
theorem modTo_all (n : Int) (l : List (Int × Int)) : modTo n l l.length = modL n l := by simp [modTo]
theorem modTo_get (n : Int) {l : List (Int × Int)} {j : Nat} {y : Int × Int} (h : l[j]? = some y) : (modTo n l j)[j]? = some y := by
  have hj := (List.getElem?_eq_some_iff.1 h).1
  unfold modTo modL
  rw [List.getElem?_append_right (by simp; omega), List.length_map, List.length_take, show j - min j l.length = 0 by omega, List.getElem?_drop]
  exact h
theorem modTo_set (n : Int) {l : List (Int × Int)} {j : Nat} {y : Int × Int} (h : l[j]? = some y) : (modTo n l j).set j (y.1.tmod n, y.2) = modTo n l (j + 1) := by
  have hj := (List.getElem?_eq_some_iff.1 h).1
  have hd : l.drop j = y :: l.drop (j + 1) := by
    rw [List.drop_eq_getElem_cons hj]
    congr 1
    exact (List.getElem?_eq_some_iff.1 h).2
  unfold modTo modL
  rw [List.set_append, if_neg (by simp; omega), List.length_map, List.length_take, show j - min j l.length = 0 by omega, hd, List.set_cons_zero, List.take_add_one, h]
  simp
theorem modTo_len (n : Int) (l : List (Int × Int)) (j : Nat) : (modTo n l j).length = l.length := by simp [modTo, modL]; omega
set_option maxRecDepth 100000 in
theorem empty_nil (w : World) : Calls Try.prog 26 #[.agg #[.slice none 0 0, .slice none 0 0, .slice none 0 0]] w fun e w' => e = .returned (.bool true) ∧ Ext w w' := by
  go_enter Try.func26, Try.ntmps26
  go_wp2_with fail
  go_ret
  exact ⟨rfl, Ext.alloc _ _⟩
end Go.Proofs.Ytplcikgmefcfbaa
