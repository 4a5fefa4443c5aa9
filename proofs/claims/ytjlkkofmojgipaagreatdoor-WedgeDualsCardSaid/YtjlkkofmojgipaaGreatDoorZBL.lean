/- Merged: BarL, BarP, ElimE, ElimP, RankP, RankT, RefAp, TransT, RanksP, MinP. -/
import Derived.Test.YtjlkkofmojgipaaGreatDoorZBK
import Derived.Test.YtjlkkofmojgipaaGreatDoorZAE
import Derived.Test.YtjlkkofmojgipaaGreatDoorZBI
import Derived.Test.YtjlkkofmojgipaaGreatDoorZAM
import Derived.Test.YtjlkkofmojgipaaGreatDoorZAF
import Derived.Test.YtjlkkofmojgipaaGreatDoorZAP
import Derived.Test.YtjlkkofmojgipaaGreatDoorZAQ
import Derived.Test.YtjlkkofmojgipaaGreatDoorZAS
/- Elimination without fractions (plain): a matrix of integers is the common pivot times the reduced form. -/
namespace Go.Proofs.YtjlkkofmojgipaaGreatDoor
set_option linter.unusedVariables false
set_option linter.unusedSimpArgs false

end Go.Proofs.YtjlkkofmojgipaaGreatDoor
/- Elimination without fractions: the matrix of integers is the common pivot times the reduced form (plain). -/
namespace Go.Proofs.YtjlkkofmojgipaaGreatDoor
set_option linter.unusedVariables false
set_option linter.unusedSimpArgs false

def rowE (m : List (List Int)) (i : Nat) : List Int := m.getD i []
/-- A row less a multiple of the pivot's row. -/
def combR (p f d : Int) (r pr : List Int) : List Int := List.zipWith (fun x y => (p * x - f * y) / d) r pr
/-- The rows less than j are done. -/
def elETo (m : List (List Int)) (c k : Nat) (p d : Int) : Nat → List (List Int)
  | 0 => m
  | j + 1 => if j = k then elETo m c k p d j else (elETo m c k p d j).set j (combR p (elI m j c) d (rowE m j) (rowE m k))
def findE (m : List (List Int)) (c : Nat) : Nat → Nat → Nat
  | 0, a => a
  | f + 1, a => if elI m a c = 0 then findE m c f (a + 1) else a
structure ElS where
  m : List (List Int)
  lead : List Nat
  last : Int
  odd : Bool
/-- One column of Eliminate. -/
def stepE (c : Nat) (s : ElS) : ElS :=
  let k := s.lead.length
  let a := findE s.m c (s.m.length - k) k
  if a = s.m.length then s
  else
    let m1 := if a = k then s.m else swp s.m k a
    ⟨elETo m1 c k (elI m1 k c) s.last m1.length, s.lead ++ [c], elI m1 k c, if a = k then s.odd else !s.odd⟩
def barTo (m : List (List Int)) : Nat → ElS
  | 0 => ⟨m, [], 1, false⟩
  | c + 1 => stepE c (barTo m c)
def RectI (C : Nat) (m : List (List Int)) : Prop := ∀ r ∈ m, r.length = C
theorem RectI.row {C : Nat} {m : List (List Int)} (h : RectI C m) {i : Nat} (hi : i < m.length) : (rowE m i).length = C := by
  unfold rowE; rw [List.getD_eq_getElem?_getD, List.getElem?_eq_getElem hi]; exact h _ (List.getElem_mem hi)
theorem RectI.set {C : Nat} {m : List (List Int)} (h : RectI C m) (i : Nat) {r : List Int} (hr : r.length = C) : RectI C (m.set i r) := fun q hq => by
  rcases List.mem_or_eq_of_mem_set hq with hq | rfl
  · exact h q hq
  · exact hr
theorem RectI.swp {C : Nat} {m : List (List Int)} (h : RectI C m) (i j : Nat) : RectI C (swp m i j) := by
  unfold Proofs.YtjlkkofmojgipaaGreatDoor.swp
  split
  · rename_i a b ha hb
    exact (h.set i (h _ (List.mem_of_getElem? hb))).set j (h _ (List.mem_of_getElem? ha))
  · exact h
theorem combR_len {p f d : Int} {r pr : List Int} (h : pr.length = r.length) : (combR p f d r pr).length = r.length := by
  unfold combR; rw [List.length_zipWith, h, Nat.min_self]
theorem RectI.el {C : Nat} {m : List (List Int)} (h : RectI C m) (c k : Nat) (p d : Int) (hk : k < m.length) : ∀ j, j ≤ m.length → RectI C (elETo m c k p d j)
  | 0, _ => h
  | j + 1, hj => by
    unfold elETo
    split
    · exact RectI.el h c k p d hk j (by omega)
    · exact (RectI.el h c k p d hk j (by omega)).set j (by rw [combR_len (by rw [h.row hk, h.row (show j < m.length by omega)]), h.row (by omega)])
/-- The state of Eliminate behind c columns, and the reduced form. -/
structure BarI (C c : Nat) (m : List (List Int)) (E : ElS) (S : RedSt) : Prop where
  lead : E.lead = S.lead
  len : E.m.length = m.length
  rect : RectI C E.m
  el : ∀ i j, ((elI E.m i j : Int) : Rat) = (E.last : Rat) * elQ S.m i j
  ne : E.last ≠ 0
  det : S.lead.length = c → S.det = (if E.odd then -1 else 1) * (E.last : Rat)
  inv : ∃ ρ sg x, RedI m.length (elQ (matQ m)) c S ρ sg x ∧ (E.last : Rat) = detF S.lead.length fun a b => elQ (matQ m) (ρ a) (kapQ S.lead b)
/-- The common pivot times an element is a minor: an integer. -/
theorem red_int {K R c : Nat} {A : Nat → Nat → Rat} {s : RedSt} {ρ : Nat → Nat} {sg x : Rat} (h : RedI R A c s ρ sg x) (hA : ∀ i j, IntLe K (A i j)) (hK : 1 ≤ K) (i j : Nat) :
    IntLe (detK K (R + 1)) (detF s.lead.length (fun a b => A (ρ a) (kapQ s.lead b)) * elQ s.m i j) := by
  have hl := h.rle
  by_cases hi : i < s.lead.length
  · rw [Rat.mul_comm, ← h.small hi]
    exact (detF_int fun a b => hA _ _).mono (detK_mono hK (by omega))
  · by_cases hR : i < R
    · rw [Rat.mul_comm, ← h.big (by omega) hR]
      exact (detF_int fun a b => hA _ _).mono (detK_mono hK (by omega))
    · rw [elQ_out (by rw [h.len]; omega), Rat.mul_zero]
      exact IntLe.zero _
/-- All numbers on the way are minors. -/
theorem BarI.small {C c K : Nat} {m : List (List Int)} {E : ElS} {S : RedSt} (h : BarI C c m E S) (hK : 1 ≤ K) (hm : ∀ i j, IntLe K (elQ (matQ m) i j)) :
    (∀ i j, (elI E.m i j).natAbs ≤ detK K (m.length + 1)) ∧ E.last.natAbs ≤ detK K (m.length + 1) := by
  obtain ⟨ρ, sg, x, hI, hD⟩ := h.inv
  have key : ∀ (z : Int) (q : Rat), IntLe (detK K (m.length + 1)) q → (z : Rat) = q → z.natAbs ≤ detK K (m.length + 1) := by
    rintro z q ⟨y, hy, hb⟩ hz
    rw [hy] at hz
    have : z = y := by exact_mod_cast hz
    rw [this]; exact hb
  refine ⟨fun i j => key _ _ (red_int hI hm hK i j) (by rw [h.el, hD]), key _ _ ((detF_int fun a b => hm _ _).mono (detK_mono hK (by have := hI.rle; omega))) hD⟩
end Go.Proofs.YtjlkkofmojgipaaGreatDoor
/- The reference's Eliminate (06), in place. -/
namespace Go.Proofs.YtjlkkofmojgipaaGreatDoor
set_option linter.unusedVariables false
set_option linter.unusedSimpArgs false
open Go.RowKit

/-- What holds in the middle of a column. -/
structure MidE (w0 wr : World) (g0 D : Nat) (tags0 : List (Nat × Nat)) (m : List (List Int)) (v : Value) (ld : List Nat) (tags : List (Nat × Nat)) : Prop where
  mat : MatN wr g0 tags m
  lead : OwnI D wr v ld
  same : ∀ b, blocksQ g0 tags b ↔ blocksQ g0 tags0 b
  grown : GrownS (blocksQ g0 tags0) w0 wr
  size : D ≤ wr.heap.size
theorem MidE.ext {w0 wr w' : World} {g0 D : Nat} {tags0 : List (Nat × Nat)} {m : List (List Int)} {v : Value} {ld : List Nat} {tags : List (Nat × Nat)} (h : MidE w0 wr g0 D tags0 m v ld tags) (he : Ext wr w') : MidE w0 w' g0 D tags0 m v ld tags :=
  ⟨h.mat.ext he, h.lead.ext he, h.same, h.grown.trans (he.grownS _), Nat.le_trans h.size he.size⟩
/-- An element is written. -/
theorem MidE.setEl {w0 wr : World} {g0 D : Nat} {tags0 : List (Nat × Nat)} {m : List (List Int)} {v : Value} {ld : List Nat} {tags : List (Nat × Nat)} (h : MidE w0 wr g0 D tags0 m v ld tags) (hb : ∀ b, blocksQ g0 tags b → b < D)
    {i j : Nat} {t : Nat × Nat} {r : List Int} (ht : tags[i]? = some t) (hr : m[i]? = some r) (hj : j < r.length) (q : Int) :
    MidE w0 (wr.setCell ⟨t.1, j, none⟩ (.string (intB q))) g0 D tags0 (m.set i (r.set j q)) v ld tags := by
  have hgr : GrownS (· = t.1) wr (wr.setCell ⟨t.1, j, none⟩ (.string (intB q))) := (GrownS.refl (· = t.1) wr).store (S := (· = t.1)) rfl _ _
  obtain ⟨t', ht', -, -, -, hR, hne, hbq⟩ := h.mat.get hr
  obtain rfl : t' = t := Option.some.inj (ht'.symm.trans ht)
  have hlt := hb _ hbq
  exact ⟨h.mat.setRow ht hr (by rw [List.length_set]) hgr (hR.set j hj q), h.lead.grown hgr (fun b e => by omega), h.same, h.grown.trans (hgr.weak fun b _ e => by rw [e]; exact (h.same _).1 hbq), by rw [setCell_sizeQ]; exact h.size⟩
/-- A pivot's column appended. -/
theorem MidE.push {w0 wr w' : World} {g0 D : Nat} {tags0 : List (Nat × Nat)} {m : List (List Int)} {v v' : Value} {ld ld' : List Nat} {tags : List (Nat × Nat)} (h : MidE w0 wr g0 D tags0 m v ld tags) (hb : ∀ b, blocksQ g0 tags b → b < D) (hD : w0.heap.size ≤ D)
    (hB : Below D wr w') (hv : OwnI D w' v' ld') : MidE w0 w' g0 D tags0 m v' ld' tags := by
  have hgr : GrownS (fun b => D ≤ b) wr w' := ⟨hB.os, hB.tape, hB.output, hB.size, fun k hk hn => hB.block k (by omega)⟩
  exact ⟨h.mat.grown hgr (fun b hb' e => by have := hb b hb'; omega), hv, h.same, grown_new h.grown hgr (fun b e => .inl (by omega)), Nat.le_trans h.size hB.size⟩
/-- Two rows exchanged. -/
theorem MidE.swap {w0 wr : World} {g0 D C : Nat} {tags0 : List (Nat × Nat)} {m : List (List Int)} {v : Value} {ld : List Nat} {tags : List (Nat × Nat)} (h : MidE w0 wr g0 D tags0 m v ld tags) (hb : ∀ b, blocksQ g0 tags0 b → b < D) (hr : RectI C m) {k a : Nat} (hk : k < m.length) (ha : a < m.length) :
    ∃ s t, tags[k]? = some s ∧ tags[a]? = some t ∧ wr.cell? ⟨g0, k, none⟩ = some (.slice (some ⟨s.1, 0, none⟩) C s.2) ∧ wr.cell? ⟨g0, a, none⟩ = some (.slice (some ⟨t.1, 0, none⟩) C t.2) ∧ wr.frozen? ⟨g0, k, none⟩ = false ∧ wr.frozen? ⟨g0, a, none⟩ = false ∧ C ≤ s.2 ∧ C ≤ t.2 ∧ s.2 ≤ 9223372036854775807 ∧ t.2 ≤ 9223372036854775807 ∧
      MidE w0 ((wr.setCell ⟨g0, k, none⟩ (.slice (some ⟨t.1, 0, none⟩) C t.2)).setCell ⟨g0, a, none⟩ (.slice (some ⟨s.1, 0, none⟩) C s.2)) g0 D tags0 (swp m k a) v ld (swp tags k a) ∧
      MidE w0 ((wr.setCell ⟨g0, a, none⟩ (.slice (some ⟨s.1, 0, none⟩) C s.2)).setCell ⟨g0, k, none⟩ (.slice (some ⟨t.1, 0, none⟩) C t.2)) g0 D tags0 (swp m a k) v ld (swp tags a k) := by
  have hk2 := List.getElem?_eq_getElem hk
  have ha2 := List.getElem?_eq_getElem ha
  obtain ⟨s, hs, c1, h1, h2, -⟩ := h.mat.get hk2
  obtain ⟨t, ht, c3, h3, h4, -⟩ := h.mat.get ha2
  have e1 := hr _ (List.mem_of_getElem? hk2)
  have e2 := hr _ (List.mem_of_getElem? ha2)
  have hsw := h.mat.swap hs ht hk2 ha2
  have hsw2 := h.mat.swap ht hs ha2 hk2
  rw [e1] at c1 h1 hsw hsw2
  rw [e2] at c3 h3 hsw hsw2
  have hgr : ∀ i j x y, GrownS (· = g0) wr ((wr.setCell ⟨g0, i, none⟩ x).setCell ⟨g0, j, none⟩ y) := fun i j x y => ((GrownS.refl (· = g0) wr).store (S := (· = g0)) rfl _ _).store (S := (· = g0)) rfl _ _
  have hg0 : blocksQ g0 tags0 g0 := List.mem_cons_self ..
  have hgl := hb g0 hg0
  refine ⟨s, t, hs, ht, c1, c3, h.mat.free k, h.mat.free a, h1, h3, h2, h4, ⟨hsw, h.lead.grown (hgr _ _ _ _) (fun b e => by omega), fun b => (swp_blocks hs ht).trans (h.same b), h.grown.trans ((hgr _ _ _ _).weak fun b _ e => by rw [e]; exact hg0), by rw [setCell_sizeQ, setCell_sizeQ]; exact h.size⟩,
    ⟨hsw2, h.lead.grown (hgr _ _ _ _) (fun b e => by omega), fun b => (swp_blocks ht hs).trans (h.same b), h.grown.trans ((hgr _ _ _ _).weak fun b _ e => by rw [e]; exact hg0), by rw [setCell_sizeQ, setCell_sizeQ]; exact h.size⟩⟩
/-- What the numbers on the way must be. -/
structure ElOK (m : List (List Int)) (n : Nat) : Prop where
  sz : ∀ c, c ≤ n → ∀ i j, (intB (elI (barTo m c).m i j)).size ≤ 6000
  lsz : ∀ c, c ≤ n → (intB (barTo m c).last).size ≤ 6000
  ne : ∀ c, c ≤ n → (barTo m c).last ≠ 0
  dvd : ∀ c a, c < n → (barTo m c).lead.length ≤ a → a < m.length → elI (barTo m c).m a c ≠ 0 → (∀ j, (barTo m c).lead.length ≤ j → j < a → elI (barTo m c).m j c = 0) → ∀ m1, m1 = (if a = (barTo m c).lead.length then (barTo m c).m else swp (barTo m c).m (barTo m c).lead.length a) →
    ∀ i j, elI m1 (barTo m c).lead.length c * elI m1 i j - elI m1 i c * elI m1 (barTo m c).lead.length j = (barTo m c).last * ((elI m1 (barTo m c).lead.length c * elI m1 i j - elI m1 i c * elI m1 (barTo m c).lead.length j) / (barTo m c).last)
end Go.Proofs.YtjlkkofmojgipaaGreatDoor
/- The numbers on Eliminate's way are right and small (plain). -/
namespace Go.Proofs.YtjlkkofmojgipaaGreatDoor
set_option linter.unusedVariables false
set_option linter.unusedSimpArgs false
open Go.RowKit

end Go.Proofs.YtjlkkofmojgipaaGreatDoor
/- The rank of a matrix and its minors; the determinant (plain). -/
namespace Go.Proofs.YtjlkkofmojgipaaGreatDoor
set_option linter.unusedVariables false
set_option linter.unusedSimpArgs false

/-! ## Rows in the span of fewer rows -/
/-! ## The rank -/
/-! ## Sorted minors -/
end Go.Proofs.YtjlkkofmojgipaaGreatDoor
/- Contract of table.Rank. -/
namespace Go.Proofs.YtjlkkofmojgipaaGreatDoor
set_option linter.unusedVariables false
set_option linter.unusedSimpArgs false
open Go.RowKit

end Go.Proofs.YtjlkkofmojgipaaGreatDoor
/- Contract of the reference's Apply (chapter 06). -/
namespace Go.Proofs.YtjlkkofmojgipaaGreatDoor
set_option linter.unusedVariables false
set_option linter.unusedSimpArgs false
open Go.RowKit

end Go.Proofs.YtjlkkofmojgipaaGreatDoor
/- Contracts of Transpose of package table and of the reference (chapter 06). (Printed by gen/trans.py.) -/
namespace Go.Proofs.YtjlkkofmojgipaaGreatDoor
set_option linter.unusedVariables false
set_option linter.unusedSimpArgs false
open Go.RowKit

end Go.Proofs.YtjlkkofmojgipaaGreatDoor
/- The rank of the transposed matrix, and of minors (plain). -/
namespace Go.Proofs.YtjlkkofmojgipaaGreatDoor
set_option linter.unusedVariables false
set_option linter.unusedSimpArgs false
open Go.RowKit

theorem part_fit {xss : List (List Int)} (hE : tabE xss = 0) (R S : List Nat) : ∀ r ∈ partI xss R S, ∀ a ∈ r, -1000000000 ≤ a ∧ a ≤ 1000000000 := by
  intro r hr a ha
  unfold partI at hr
  obtain ⟨i, -, rfl⟩ := List.mem_map.1 hr
  obtain ⟨j, -, rfl⟩ := List.mem_map.1 ha
  have h := matQ_el (xss := xss) (fun r hr => ((tabE_zero hE).2 r hr).2.2) i j
  obtain ⟨z, h1, h2⟩ := h
  rw [matQ_elI] at h1
  have h3 : elI xss i j = z := congrArg Rat.num h1
  have h4 : (xss.getD i []).getD j 0 = z := h3
  rw [h4]; omega
/-- The minors' reductions are small. -/
theorem minors_small {xss : List (List Int)} (hE : tabE xss = 0) {k : Nat} (hk1 : k ≤ xss.length) (hk2 : k ≤ colsN xss) :
    ∀ R ∈ setsL xss.length k, ∀ S ∈ setsL (colsN xss) k, ∀ c, c < k → AllRS 2500 (redTo (matQ (partI xss R S)) c).m ∧ RS 9000 (redTo (matQ (partI xss R S)) c).det := by
  intro R hR S hS c _
  obtain ⟨hl, hrr⟩ := tabE_zero hE
  obtain ⟨s1, -, -⟩ := sets_ok (n := xss.length) hl hk1
  exact red_small (partI_rect xss R S) (by rw [matQ_len, partI_len, s1.len R hR]; omega) (matQ_el (part_fit hE R S)) c
end Go.Proofs.YtjlkkofmojgipaaGreatDoor
/- The minors that the reference works out are those of the reduction; parts of a matrix are right (plain). -/
namespace Go.Proofs.YtjlkkofmojgipaaGreatDoor
set_option linter.unusedVariables false
set_option linter.unusedSimpArgs false
open Go.RowKit

end Go.Proofs.YtjlkkofmojgipaaGreatDoor
