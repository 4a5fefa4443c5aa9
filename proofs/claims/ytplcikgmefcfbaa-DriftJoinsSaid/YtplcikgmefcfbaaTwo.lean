/- Two slices in one box, built at a time: what an append to the one and its store leave. No program is named here. -/
import Derived.Test.YtplcikgmefcfbaaBuildS
namespace Go.Proofs.Ytplcikgmefcfbaa
set_option linter.unusedVariables false
set_option linter.unusedSimpArgs false
open Go.RowKit

theorem two_step {α β : Type} {B0 Bx i : Nat} {W w6 : World} {S S6 : Nat → Prop} {e e' T : TypeId} {k k' : Nat} {v v6 vl : Value} {R : World → List Value → α → Prop} {R' : World → List Value → β → Prop} {xs zs : List α} {ys : List β} {C : Array Value}
    (hB : BuildS W S B0 e k v R xs) (hL : BuildS W S B0 e' k' vl R' ys) (hS : S Bx) (hblk : W.heap[Bx]? = some (.cells C T (0, 0)))
    (hok6 : SOk S6 B0 w6) (hS61 : ∀ b, S b → S6 b) (hS62 : ∀ b, S6 b → S b ∨ W.heap.size ≤ b) (hB6 : BuildS w6 S6 B0 e k v6 R zs) (hg6 : W.grownBy w6 v.ownBlock) (hb6 : Below B0 W w6) (hne : e ≠ T) (hne' : e' ≠ T) (hee : e' ≠ e) (h0 : B0 ≤ Bx) :
    Below B0 W (w6.setCell ⟨Bx, i, none⟩ v6) ∧ SOk S6 B0 (w6.setCell ⟨Bx, i, none⟩ v6) ∧ S6 Bx ∧ (w6.setCell ⟨Bx, i, none⟩ v6).heap[Bx]? = some (.cells (C.setIfInBounds i v6) T (0, 0)) ∧ BuildS (w6.setCell ⟨Bx, i, none⟩ v6) S6 B0 e k v6 R zs ∧ BuildS (w6.setCell ⟨Bx, i, none⟩ v6) S6 B0 e' k' vl R' ys := by
  have hb := block_grown hblk hg6 (hB.neBlock hblk hne)
  have hL6 := hL.other (S' := S6) hg6 hB.1 (BuildS.apart hL hB hee) hS62 hS61
  exact ⟨hb6.setCell (p := ⟨Bx, i, none⟩) h0 _, hok6.grow (by simp [World.setCell]), hS61 _ hS, block_set hb i _, hB6.store (hS61 _ hS) (hB6.neBlock hb hne), hL6.store (hS61 _ hS) (hL6.neBlock hb hne')⟩
end Go.Proofs.Ytplcikgmefcfbaa
