/- Merged: JoinsL. -/
import Derived.Test.YtjihfabhgcfjnaaGreatDoorVBAG
/- What may be turned beside a walk of Make's own, and what is left of it. -/
namespace Go.Proofs.YtjihfabhgcfjnaaGreatDoor
set_option linter.unusedVariables false
set_option linter.unusedSimpArgs false
open Go.RowKit

theorem Ext.grownBy {w w' : World} (he : Ext w w') (o : Option Nat) : w.grownBy w' o := ⟨he.os, he.tape, he.output, he.size, fun b hb _ => he.block b hb⟩
theorem BuildS.thin {α : Type} {w : World} {S T : Nat → Prop} {base : Nat} {e : TypeId} {k : Nat} {v : Value} {R : World → List Value → α → Prop} {xs : List α} (h : BuildS w S base e k v R xs) (hT : ∀ b, T b → S b) (hn : ∀ b, T b → v.ownBlock ≠ some b) : SafeS w T fun w' => ListAt k R w' v xs := by
  obtain ⟨h0, us, b1, b2, b3, b4⟩ := h
  exact SafeS.listAt us b1 b2 ((SafeS.owns b3 (fun g hg ht => hn g ht hg)).mono fun w' h => SeqAt.of_owns h) (fun j u x hu hx => (b4 j u x hu hx).weak hT)
theorem optR_links {w : World} {u0 v : Value} {links : List (List (Int × Int))} (h : ListAt 1 (optR u0) w v (opts links)) (h0 : ∀ l r, links = l :: r → Links w u0 l) : Links2 w v links := by
  obtain ⟨us, h1, h2, h3, h4⟩ := h
  rw [opts_len] at h1 h3
  refine ⟨us, h1, h2, h3, fun j u x hu hx => ?_⟩
  cases links with
  | nil => simp at hx
  | cons l r =>
    cases j with
    | zero =>
      have := h4 0 u none hu rfl
      simp only [List.getElem?_cons_zero, Option.some.injEq] at hx
      subst hx
      exact ⟨u0, this, h0 _ _ rfl⟩
    | succ j =>
      rw [List.getElem?_cons_succ] at hx
      exact h4 (j + 1) u (some x) hu (by show (none :: r.map some)[j + 1]? = _; rw [List.getElem?_cons_succ, List.getElem?_map, hx]; rfl)
section
variable {w W : World} {B : Nat} {S T : Nat → Prop} {vp vc vl u0 : Value} {k : Wk}
theorem OwnWk.wide (h : OwnWk w B S vp vc vl u0 k) (he : Ext w W) : OwnWk W B (fun b => (S b ∨ w.heap.size ≤ b) ∧ b < W.heap.size) vp vc vl u0 k := by
  have hSS : ∀ b, S b → (S b ∨ w.heap.size ≤ b) ∧ b < W.heap.size := fun b hb => ⟨.inl hb, Nat.lt_of_lt_of_le (h.lt b hb) he.size⟩
  exact ⟨fun b hb => hSS b (h.low b hb), fun b hb => hb.2, h.primes.grow (he.grownS S) (fun k hk => hk.1), h.chords.other (he.grownBy none) (by simp) (by simp) (fun k hk => hk.1) hSS, h.links.other (he.grownBy none) (by simp) (by simp) (fun k hk => hk.1) hSS, L0.other h.first (he.grownBy none) (by simp) (by simp) (fun k hk => hk.1) hSS⟩
theorem OwnWk.store (h : OwnWk w B S vp vc vl u0 k) {g i : Nat} {x : Value} {C : Array Value} {X : TypeId} {fr : Nat × Nat} (hg : S g) (hb : w.heap[g]? = some (.cells C X fr)) (h1 : (28 : Nat) ≠ X) (h2 : (112 : Nat) ≠ X) (h3 : (114 : Nat) ≠ X) : OwnWk (w.setCell ⟨g, i, none⟩ x) B S vp vc vl u0 k :=
  ⟨h.low, fun b hb => by have := h.lt b hb; simpa [World.setCell] using this, h.primes.grow (grownBy_S (grown_setCell _ _ _ _) (fun b hb => by cases hb; exact hg)) (fun k hk => .inl hk), h.chords.store hg (h.chords.neBlock hb h1), h.links.store hg (h.links.neBlock hb h2), L0.store h.first hg (L0.neBlock h.first hb h3)⟩
theorem OwnWk.walk (h : OwnWk w B S vp vc vl u0 k) (hT : ∀ b, T b → S b) (h1 : ∀ b, T b → vc.ownBlock ≠ some b) (h2 : ∀ b, T b → vl.ownBlock ≠ some b) (h3 : ∀ b, T b → k.links ≠ [] → u0.ownBlock ≠ some b) : SafeS w T fun w' => WalkAt w' (.agg #[vp, vc, vl]) k := fun w' hg =>
  ⟨vp, vc, vl, rfl, h.primes.weak hT w' hg, h.chords.thin hT h1 w' hg, optR_links (h.links.thin hT h2 w' hg) fun l r e => by
    have hf := h.first
    have h9 := fun b hb => h3 b hb (by rw [e]; simp)
    rw [e] at hf
    exact BuildS.thin (show BuildS w S B 114 2 u0 linkR l from hf) hT h9 w' hg⟩
theorem OwnWk.now (h : OwnWk w B S vp vc vl u0 k) : WalkAt w (.agg #[vp, vc, vl]) k := (h.walk (T := fun _ => False) (fun _ h => h.elim) (fun _ h => h.elim) (fun _ h => h.elim) (fun _ h => h.elim)).now
end
/-- Make, its result opened. -/
theorem make_ownS (cs : Array Value) (hpl : PlanAt cs) (w : World) :
    Calls Tryz.prog 14 #[.agg cs] w fun e w' => ∃ ap cp ac nc cc al nl cl k S u0, e = .returned (.agg #[.slice ap 3 cp, .slice ac nc cc, .slice al nl cl]) ∧ Ext w w' ∧ OwnWk w' w.heap.size S (.slice ap 3 cp) (.slice ac nc cc) (.slice al nl cl) u0 k ∧ PlanWk k ∧ nc = k.chords.length ∧ nl = k.links.length :=
  (make_own cs hpl w).mono (by
    rintro e w' ⟨vp, vc, vl, k, S, u0, rfl, hE, hO, hk⟩
    have e3 : k.primes.length = 3 := by rw [hk.primes]; rfl
    obtain ⟨ap, cp, rfl, -⟩ := Ints.open hO.primes.now
    obtain ⟨ac, cc, rfl, -⟩ := ListAt.open hO.chords.list
    obtain ⟨al, cl, hl, -⟩ := ListAt.open hO.links.list
    rw [opts_len] at hl
    subst hl
    rw [e3] at hO ⊢
    exact ⟨ap, cp, ac, _, cc, al, _, cl, k, S, u0, rfl, hE, hO, hk, rfl, rfl⟩)
end Go.Proofs.YtjihfabhgcfjnaaGreatDoor
