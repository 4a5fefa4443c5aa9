/- Two walks of Make's own put into two boxes. -/
import Derived.Test.YtplcikgmefcfbaaJoinsL
import Derived.Test.YtplcikgmefcfbaaJoin51
namespace Go.Proofs.Ytplcikgmefcfbaa
set_option linter.unusedVariables false
set_option linter.unusedSimpArgs false
open Go.RowKit

theorem OwnWk.box {w : World} {B : Nat} {S : Nat → Prop} {vp vc vl u0 : Value} {k : Wk} (h : OwnWk w B S vp vc vl u0 k) {g : Nat} {x y z : Value} (hg : S g) (hb : w.heap[g]? = some (.cells #[x, y, z] 30 (0, 0))) (a b c : Value) :
    OwnWk (((w.setCell ⟨g, 0, none⟩ a).setCell ⟨g, 1, none⟩ b).setCell ⟨g, 2, none⟩ c) B S vp vc vl u0 k :=
  ((h.store hg hb (by decide) (by decide) (by decide)).store hg (block_set hb 0 a) (by decide) (by decide) (by decide)).store hg (block_set (block_set hb 0 a) 1 b) (by decide) (by decide) (by decide)
theorem box_other {w : World} {g g' : Nat} {o : Obj} (h : w.heap[g']? = some o) (hne : g ≠ g') (a b c : Value) : (((w.setCell ⟨g, 0, none⟩ a).setCell ⟨g, 1, none⟩ b).setCell ⟨g, 2, none⟩ c).heap[g']? = some o :=
  have e : (some g : Option Nat) ≠ some g' := fun e => hne (Option.some.inj e)
  block_grown (block_grown (block_grown h (grown_setCell _ _ _ _) e) (grown_setCell _ _ _ _) e) (grown_setCell _ _ _ _) e
/-- What stands behind the stores into both boxes. -/
theorem two_boxes {w1 W wa wb : World} {B1 B2 g7 g8 : Nat} {S1 S2 : Nat → Prop} {vp1 vc1 vl1 u1 vp2 vc2 vl2 u2 x y z x' y' z' : Value} {k1 k2 : Wk}
    (O1 : OwnWk wa B1 S1 vp1 vc1 vl1 u1 k1) (X1 : Ext wa W) (O2 : OwnWk wb B2 S2 vp2 vc2 vl2 u2 k2) (X2 : Ext wb W) (hE : Ext w1 W)
    (hb7 : W.heap[g7]? = some (.cells #[x, y, z] 30 (0, 0))) (hb8 : W.heap[g8]? = some (.cells #[x', y', z'] 30 (0, 0))) (hne : g7 ≠ g8)
    (h7a : g7 < B1 ∨ wa.heap.size ≤ g7) (h7b : g7 < B2 ∨ wb.heap.size ≤ g7) (h8a : g8 < B1 ∨ wa.heap.size ≤ g8) (h8b : g8 < B2 ∨ wb.heap.size ≤ g8) (hB : wa.heap.size ≤ B2) (h7 : w1.heap.size ≤ g7) (h8 : w1.heap.size ≤ g8)
    (W8 : World) (hW8 : W8 = ((((((W.setCell ⟨g7, 0, none⟩ vp1).setCell ⟨g7, 1, none⟩ vc1).setCell ⟨g7, 2, none⟩ vl1).setCell ⟨g8, 0, none⟩ vp2).setCell ⟨g8, 1, none⟩ vc2).setCell ⟨g8, 2, none⟩ vl2)) :
    ∃ T1 T2 : Nat → Prop, Ext w1 W8 ∧ W8.heap[g7]? = some (.cells #[vp1, vc1, vl1] 30 (0, 0)) ∧ W8.heap[g8]? = some (.cells #[vp2, vc2, vl2] 30 (0, 0)) ∧
      OwnWk W8 B1 T1 vp1 vc1 vl1 u1 k1 ∧ OwnWk W8 B2 T2 vp2 vc2 vl2 u2 k2 ∧ (∀ b, B2 ≤ b → b < W8.heap.size → T1 b) ∧ (∀ b, (vc1.ownBlock = some b ∨ vl1.ownBlock = some b ∨ (k1.links ≠ [] ∧ u1.ownBlock = some b)) → b < B2) := by
  have l7 := block_lt hb7
  have l8 := block_lt hb8
  have P1 := O1.wide X1
  have P2 := O2.wide X2
  have t7a : (S1 g7 ∨ wa.heap.size ≤ g7) ∧ g7 < W.heap.size := ⟨h7a.elim (fun h => .inl (O1.low g7 h)) .inr, l7⟩
  have t8a : (S1 g8 ∨ wa.heap.size ≤ g8) ∧ g8 < W.heap.size := ⟨h8a.elim (fun h => .inl (O1.low g8 h)) .inr, l8⟩
  have t7b : (S2 g7 ∨ wb.heap.size ≤ g7) ∧ g7 < W.heap.size := ⟨h7b.elim (fun h => .inl (O2.low g7 h)) .inr, l7⟩
  have t8b : (S2 g8 ∨ wb.heap.size ≤ g8) ∧ g8 < W.heap.size := ⟨h8b.elim (fun h => .inl (O2.low g8 h)) .inr, l8⟩
  have hb7' := walk_store hb7 vp1 vc1 vl1
  have hb8' := box_other hb8 hne vp1 vc1 vl1
  have hsz : W8.heap.size = W.heap.size := by rw [hW8]; simp [World.setCell]
  refine ⟨fun b => (S1 b ∨ wa.heap.size ≤ b) ∧ b < W.heap.size, fun b => (S2 b ∨ wb.heap.size ≤ b) ∧ b < W.heap.size, ?_, ?_, ?_, ?_, ?_, fun b h1 h2 => ⟨.inr (Nat.le_trans hB h1), by rw [← hsz]; exact h2⟩, fun b hb => ?_⟩
  · rw [hW8]; exact ext_walk (ext_walk hE h7 _ _ _) h8 _ _ _
  · rw [hW8]; exact box_other hb7' (Ne.symm hne) _ _ _
  · rw [hW8]; exact walk_store hb8' _ _ _
  · rw [hW8]; exact (P1.box t7a hb7 _ _ _).box t8a hb8' _ _ _
  · rw [hW8]; exact (P2.box t7b hb7 _ _ _).box t8b hb8' _ _ _
  · rcases hb with h | h | ⟨h0, h⟩
    · exact Nat.lt_of_lt_of_le (O1.chords.lt b h).2 hB
    · exact Nat.lt_of_lt_of_le (O1.links.lt b h).2 hB
    · exact Nat.lt_of_lt_of_le (L0.lt O1.first h0 b h).2 hB
end Go.Proofs.Ytplcikgmefcfbaa
