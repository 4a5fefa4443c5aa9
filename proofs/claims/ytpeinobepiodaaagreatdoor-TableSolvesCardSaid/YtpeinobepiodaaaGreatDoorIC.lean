/- Merged: MatN, BigE, ElimE. -/
import Derived.Test.YtpeinobepiodaaaGreatDoorGI
import Derived.Test.YtpeinobepiodaaaGreatDoorGM
import Derived.Test.YtpeinobepiodaaaGreatDoorIB
import Derived.Test.YtpeinobepiodaaaGreatDoorGU
import Derived.Test.YtpeinobepiodaaaGreatDoorIA
import Derived.Test.YtpeinobepiodaaaGreatDoorGG
/- A matrix of integers of any size in place (the reference's Eliminate): each row in a block of its own from cell 0 on. Printed by gen/matn.py out of MatQ. -/
namespace Go.Proofs.YtpeinobepiodaaaGreatDoor
set_option linter.unusedVariables false
set_option linter.unusedSimpArgs false
open Go.RowKit

/-- A row of numerals at block g, that may be written. -/
structure RowN (w : World) (g : Nat) (xs : List Int) : Prop where
  lt : g < w.heap.size
  cell : ∀ (j : Nat) x, xs[j]? = some x → w.cell? ⟨g, j, none⟩ = some (.string (intB x))
  free : ∀ j, w.frozen? ⟨g, j, none⟩ = false
theorem RowN.same {w w' : World} {g : Nat} {xs : List Int} (h : RowN w g xs) (hs : w.heap.size ≤ w'.heap.size) (hg : w'.heap[g]? = w.heap[g]?) : RowN w' g xs :=
  ⟨Nat.lt_of_lt_of_le h.lt hs, fun j x hx => (cell_of_heapQ hg _).trans (h.cell j x hx), fun j => (free_of_heapQ hg j).trans (h.free j)⟩
theorem RowN.ext {w w' : World} {g : Nat} {xs : List Int} (h : RowN w g xs) (he : Ext w w') : RowN w' g xs := h.same he.size (he.block g h.lt)
theorem RowN.grown {w w' : World} {S : Nat → Prop} {g : Nat} {xs : List Int} (h : RowN w g xs) (hg : GrownS S w w') (hS : ¬ S g) : RowN w' g xs := h.same hg.size (hg.block g h.lt hS)
theorem RowN.set {w : World} {g : Nat} {xs : List Int} (h : RowN w g xs) (k : Nat) (hk : k < xs.length) (y : Int) : RowN (w.setCell ⟨g, k, none⟩ (.string (intB y))) g (xs.set k y) := by
  refine ⟨by rw [setCell_sizeQ]; exact h.lt, fun j x hx => ?_, fun j => by rw [frozen_set]; exact h.free j⟩
  rw [List.getElem?_set] at hx
  by_cases hj : k = j
  · subst hj
    rw [if_pos rfl, if_pos hk] at hx
    cases hx
    exact World.cell?_setCell_same w _ _ (h.cell k xs[k] (List.getElem?_eq_getElem hk))
  · rw [if_neg hj] at hx
    rw [World.cell?_setCell_other w _ _ _ (by intro e; simp only [Addr.mk.injEq] at e; omega)]
    exact h.cell j x hx
def numK : RowKind Int := ⟨RowN, fun h => h.lt, fun h hs hg => h.same hs hg⟩
/-- The rows of a matrix: an outer row at block g0; tags: each row's block and capacity. -/
structure MatN (w : World) (g0 : Nat) (tags : List (Nat × Nat)) (m : List (List Int)) : Prop where
  len : tags.length = m.length
  lt : g0 < w.heap.size
  free : ∀ j, w.frozen? ⟨g0, j, none⟩ = false
  row : ∀ (i : Nat) t r, tags[i]? = some t → m[i]? = some r → w.cell? ⟨g0, i, none⟩ = some (.slice (some ⟨t.1, 0, none⟩) r.length t.2) ∧ r.length ≤ t.2 ∧ t.2 ≤ 9223372036854775807 ∧ RowN w t.1 r
  nodup : (g0 :: tags.map (·.1)).Nodup
theorem MatN.same {w w' : World} {g0 : Nat} {tags : List (Nat × Nat)} {m : List (List Int)} (h : MatN w g0 tags m) (hs : w.heap.size ≤ w'.heap.size) (hb : ∀ b, blocksQ g0 tags b → w'.heap[b]? = w.heap[b]?) : MatN w' g0 tags m := by
  have h0 := hb g0 (List.mem_cons_self ..)
  refine ⟨h.len, Nat.lt_of_lt_of_le h.lt hs, fun j => (free_of_heapQ h0 j).trans (h.free j), fun i t r ht hr => ?_, h.nodup⟩
  obtain ⟨h1, h2, h3, h4⟩ := h.row i t r ht hr
  exact ⟨(cell_of_heapQ h0 i).trans h1, h2, h3, h4.same hs (hb t.1 (List.mem_cons_of_mem _ (List.mem_map.2 ⟨t, List.mem_of_getElem? ht, rfl⟩)))⟩
theorem MatN.blt {w : World} {g0 : Nat} {tags : List (Nat × Nat)} {m : List (List Int)} (h : MatN w g0 tags m) {b : Nat} (hb : blocksQ g0 tags b) : b < w.heap.size := by
  rcases List.mem_cons.1 hb with rfl | hb
  · exact h.lt
  · obtain ⟨t, ht, rfl⟩ := List.mem_map.1 hb
    obtain ⟨i, hi⟩ := List.getElem?_of_mem ht
    have hl : i < m.length := by rw [← h.len]; exact (List.getElem?_eq_some_iff.1 hi).1
    exact (h.row i t m[i] hi (List.getElem?_eq_getElem hl)).2.2.2.lt
theorem MatN.ext {w w' : World} {g0 : Nat} {tags : List (Nat × Nat)} {m : List (List Int)} (h : MatN w g0 tags m) (he : Ext w w') : MatN w' g0 tags m :=
  h.same he.size fun b hb => he.block b (h.blt hb)
/-- What is written lies elsewhere. -/
theorem MatN.grown {w w' : World} {S : Nat → Prop} {g0 : Nat} {tags : List (Nat × Nat)} {m : List (List Int)} (h : MatN w g0 tags m) (hg : GrownS S w w') (hS : ∀ b, blocksQ g0 tags b → ¬ S b) : MatN w' g0 tags m :=
  h.same hg.size fun b hb => hg.block b (h.blt hb) (hS b hb)
theorem MatN.get {w : World} {g0 : Nat} {tags : List (Nat × Nat)} {m : List (List Int)} (h : MatN w g0 tags m) {i : Nat} {r : List Int} (hr : m[i]? = some r) :
    ∃ t, tags[i]? = some t ∧ w.cell? ⟨g0, i, none⟩ = some (.slice (some ⟨t.1, 0, none⟩) r.length t.2) ∧ r.length ≤ t.2 ∧ t.2 ≤ 9223372036854775807 ∧ RowN w t.1 r ∧ t.1 ≠ g0 ∧ blocksQ g0 tags t.1 := by
  have hi := (List.getElem?_eq_some_iff.1 hr).1
  have hl : i < tags.length := by rw [h.len]; exact hi
  have := h.row i tags[i] r (List.getElem?_eq_getElem hl) hr
  refine ⟨tags[i], List.getElem?_eq_getElem hl, this.1, this.2.1, this.2.2.1, this.2.2.2, ?_, List.mem_cons_of_mem _ (List.mem_map.2 ⟨tags[i], List.getElem_mem hl, rfl⟩)⟩
  have hn := (List.nodup_cons.1 h.nodup).1
  intro e2
  exact hn (List.mem_map.2 ⟨tags[i], List.getElem_mem hl, e2⟩)
theorem MatN.apart {w : World} {g0 : Nat} {tags : List (Nat × Nat)} {m : List (List Int)} (h : MatN w g0 tags m) {i j : Nat} {s t : Nat × Nat} (hs : tags[i]? = some s) (ht : tags[j]? = some t) (hij : i ≠ j) : s.1 ≠ t.1 := by
  have hn := (List.nodup_cons.1 h.nodup).2
  intro e
  have h1 : (tags.map (·.1))[i]? = some s.1 := by rw [List.getElem?_map, hs]; rfl
  have h2 : (tags.map (·.1))[j]? = some s.1 := by rw [List.getElem?_map, ht, e]; rfl
  obtain ⟨l1, e1⟩ := List.getElem?_eq_some_iff.1 h1
  obtain ⟨l2, e2⟩ := List.getElem?_eq_some_iff.1 h2
  exact hij ((List.getElem_inj hn).1 (e1.trans e2.symm))
/-- One row is written. -/
theorem MatN.setRow {w w' : World} {g0 : Nat} {tags : List (Nat × Nat)} {m : List (List Int)} (h : MatN w g0 tags m) {i : Nat} {t : Nat × Nat} {r r0 : List Int} (ht : tags[i]? = some t) (hr0 : m[i]? = some r0) (hr : r.length = r0.length) (hg : GrownS (· = t.1) w w') (hR : RowN w' t.1 r) : MatN w' g0 tags (m.set i r) := by
  have hi := (List.getElem?_eq_some_iff.1 hr0).1
  obtain ⟨t', ht', -, -, -, -, hne, -⟩ := h.get hr0
  obtain rfl : t' = t := Option.some.inj (ht'.symm.trans ht)
  have h0 := hg.block g0 h.lt (fun e => hne e.symm)
  refine ⟨by rw [List.length_set]; exact h.len, Nat.lt_of_lt_of_le h.lt hg.size, fun j => (free_of_heapQ h0 j).trans (h.free j), fun j s q hs hq => ?_, h.nodup⟩
  rw [List.getElem?_set] at hq
  by_cases hj : i = j
  · subst hj
    rw [if_pos rfl, if_pos hi] at hq
    cases hq
    obtain rfl : s = t' := Option.some.inj (hs.symm.trans ht)
    obtain ⟨h1, h2, h3, h4⟩ := h.row i s r0 hs hr0
    rw [← hr] at h1 h2
    exact ⟨(cell_of_heapQ h0 i).trans h1, h2, h3, hR⟩
  · rw [if_neg hj] at hq
    obtain ⟨h1, h2, h3, h4⟩ := h.row j s q hs hq
    exact ⟨(cell_of_heapQ h0 j).trans h1, h2, h3, h4.grown hg (h.apart hs ht (fun e => hj e.symm))⟩
/-- Two rows are exchanged. -/
theorem MatN.swap {w : World} {g0 : Nat} {tags : List (Nat × Nat)} {m : List (List Int)} (h : MatN w g0 tags m) {i j : Nat} {s t : Nat × Nat} {p q : List Int} (hs : tags[i]? = some s) (ht : tags[j]? = some t) (hp : m[i]? = some p) (hq : m[j]? = some q) :
    MatN ((w.setCell ⟨g0, i, none⟩ (.slice (some ⟨t.1, 0, none⟩) q.length t.2)).setCell ⟨g0, j, none⟩ (.slice (some ⟨s.1, 0, none⟩) p.length s.2)) g0 (swp tags i j) (swp m i j) := by
  have hgr : GrownS (· = g0) w ((w.setCell ⟨g0, i, none⟩ (.slice (some ⟨t.1, 0, none⟩) q.length t.2)).setCell ⟨g0, j, none⟩ (.slice (some ⟨s.1, 0, none⟩) p.length s.2)) := ((GrownS.refl (· = g0) w).store (S := (· = g0)) rfl _ _).store (S := (· = g0)) rfl _ _
  have ci := (h.row i s p hs hp).1
  have cj := (h.row j t q ht hq).1
  refine ⟨by rw [swp_length, swp_length]; exact h.len, by rw [setCell_sizeQ, setCell_sizeQ]; exact h.lt, fun k => by rw [frozen_set, frozen_set]; exact h.free k, fun k u r hu hr => ?_, ?_⟩
  · rw [swp_get hs ht] at hu
    rw [swp_get hp hq] at hr
    have hrow : ∀ (k : Nat) u r, tags[k]? = some u → m[k]? = some r → RowN ((w.setCell ⟨g0, i, none⟩ (.slice (some ⟨t.1, 0, none⟩) q.length t.2)).setCell ⟨g0, j, none⟩ (.slice (some ⟨s.1, 0, none⟩) p.length s.2)) u.1 r := by
      intro k u r hu hr
      obtain ⟨u', hu', -, -, -, hR, hne, -⟩ := h.get hr
      obtain rfl : u' = u := Option.some.inj (hu'.symm.trans hu)
      exact hR.grown hgr hne
    by_cases e1 : k = j
    · subst e1
      rw [if_pos rfl] at hu hr
      cases hu; cases hr
      obtain ⟨_, h2, h3, _⟩ := h.row i s p hs hp
      refine ⟨?_, h2, h3, hrow i s p hs hp⟩
      by_cases e2 : i = k
      · subst e2
        exact World.cell?_setCell_same _ _ _ (World.cell?_setCell_same w _ _ ci)
      · exact World.cell?_setCell_same _ _ _ ((World.cell?_setCell_other _ _ _ _ (by intro e; simp only [Addr.mk.injEq] at e; omega)).trans cj)
    · rw [if_neg e1] at hu hr
      by_cases e2 : k = i
      · subst e2
        rw [if_pos rfl] at hu hr
        cases hu; cases hr
        obtain ⟨_, h2, h3, _⟩ := h.row j t q ht hq
        refine ⟨?_, h2, h3, hrow j t q ht hq⟩
        rw [World.cell?_setCell_other _ _ _ _ (by intro e; simp only [Addr.mk.injEq] at e; omega)]
        exact World.cell?_setCell_same w _ _ ci
      · rw [if_neg e2] at hu hr
        obtain ⟨h1, h2, h3, _⟩ := h.row k u r hu hr
        refine ⟨?_, h2, h3, hrow k u r hu hr⟩
        rw [World.cell?_setCell_other _ _ _ _ (by intro e; simp only [Addr.mk.injEq] at e; omega), World.cell?_setCell_other _ _ _ _ (by intro e; simp only [Addr.mk.injEq] at e; omega)]
        exact h1
  · have hn := List.nodup_cons.1 h.nodup
    rw [swp_map]
    refine List.nodup_cons.2 ⟨?_, swp_nodup hn.2 i j⟩
    intro hm
    refine hn.1 ?_
    obtain ⟨k, hk⟩ := List.getElem?_of_mem hm
    have a1 : (tags.map (·.1))[i]? = some s.1 := by rw [List.getElem?_map, hs]; rfl
    have a2 : (tags.map (·.1))[j]? = some t.1 := by rw [List.getElem?_map, ht]; rfl
    rw [swp_get a1 a2] at hk
    by_cases e1 : k = j
    · rw [if_pos e1] at hk; cases hk; exact List.mem_of_getElem? a1
    · rw [if_neg e1] at hk
      by_cases e2 : k = i
      · rw [if_pos e2] at hk; cases hk; exact List.mem_of_getElem? a2
      · rw [if_neg e2] at hk; exact List.mem_of_getElem? hk
theorem RowsO.matN {e : TypeId} {w : World} {ob base : Nat} {g cap : Nat} {tags : List (Nat × Nat)} {m : List (List Int)} (h : RowsO numK e w ob base (.slice (some ⟨g, 0, none⟩) m.length cap) tags m) (hob : base ≤ ob) :
    MatN w g tags m ∧ m.length ≤ cap ∧ cap ≤ 9223372036854775807 ∧ ∀ b, blocksQ g tags b → base ≤ b := by
  obtain ⟨h1, h2, h3, h4, h5, h6, h7⟩ := h.parts
  refine ⟨⟨h.len, h2, h3, h4, h5⟩, h6, h7, fun b hb => ?_⟩
  rcases List.mem_cons.1 hb with rfl | hb
  · exact Nat.le_trans hob h1
  · exact (h.fresh hb).1
end Go.Proofs.YtpeinobepiodaaaGreatDoor
/- The reference's big (06): a matrix of ints as one of integers of any size, in place. -/
namespace Go.Proofs.YtpeinobepiodaaaGreatDoor
set_option linter.unusedVariables false
set_option linter.unusedSimpArgs false
open Go.RowKit

theorem infoNum : (Tryz.prog.info? 26).map (fun i => (i.zero, i.size, i.bytes)) = some (some (.string ⟨#[]⟩), 1, 16) := by kernel_rfl
theorem infoNums : (Tryz.prog.info? 40).map (fun i => (i.zero, i.size, i.bytes)) = some (some (.slice none 0 0), 1, 24) := by kernel_rfl
theorem Build.strV {w : World} {base : Nat} {e : TypeId} {v : Value} {xs : List Int} (h : Build w base e 1 v numC xs) : w.ownsRow base e 1 v xs.length (xs.map fun x => Value.string (intB x)) := by
  obtain ⟨us, h1, h2, h3, h4⟩ := h
  have : us = xs.map fun x => [Value.string (intB x)] := by
    apply List.ext_getElem?
    intro i
    rw [List.getElem?_map]
    by_cases hi : i < xs.length
    · have hi2 : i < us.length := by omega
      have := (h4 i us[i] xs[i] (by simp [hi2]) (by simp [hi])).now
      simp only [numC] at this
      simp [hi, hi2, this]
    · rw [List.getElem?_eq_none (by omega), List.getElem?_eq_none (by omega)]; rfl
  rw [this, flatten_one (fun x => Value.string (intB x))] at h3
  exact h3
/-- A row built, as one in place. -/
theorem RowN.of_build {w : World} {base : Nat} {e : TypeId} {v : Value} {xs : List Int} (h : Build w base e 1 v numC xs) (hne : 0 < xs.length) :
    ∃ g cap, v = .slice (some ⟨g, 0, none⟩) xs.length cap ∧ RowN w g xs ∧ base ≤ g ∧ xs.length ≤ cap ∧ cap ≤ 9223372036854775807 := by
  have hs := h.strV
  have hc := fun g hg => hs.cells (g := g) hg
  have hs0 := hs
  rcases hs.2 with ⟨hv, h0⟩ | ⟨g, cap, cur, hv, hb, hg, h1, h2, h3, h4⟩
  · omega
  · subst hv
    refine ⟨g, cap, rfl, ⟨(Array.getElem?_eq_some_iff.1 hg).1, fun j x hx => ?_, fun j => hs0.frozenAt j⟩, hb, h1, h2⟩
    have := hc g (by simp [Value.ownBlock]) j (.string (intB x)) (by rw [List.getElem?_map, hx]; rfl)
    rw [show (⟨g, 0, none⟩ : Addr).add j = ⟨g, j, none⟩ by unfold Addr.add; split <;> simp_all] at this
    exact this

set_option maxRecDepth 100000 in
set_option maxHeartbeats 4000000 in
theorem big_any (xss : List (List Int)) (C : Nat) (v : Value) (w : World) (h : Rows2 w v xss) (hr : ∀ r ∈ xss, r.length = C) (hC : 0 < C) (hl : xss.length ≤ 1000) (hC2 : C ≤ 1000) (hf : ∀ r ∈ xss, Fit9 r) (ht : Pow10 w) :
    Calls Tryz.prog 60 #[v] w fun e w' => ∃ u tags, e = .returned u ∧ RowsO numK 40 w' w.heap.size w.heap.size u tags xss ∧ Ext w w' := by
  have HT := Lib.hid ht
  obtain ⟨a, c, rfl, h1, h2, -, hc⟩ := inCell.open h
  have HC := Lib.hid hc; have HRR := Lib.hid hr; have HFX := Lib.hid hf
  unfold maxLen at h2
  clear h hc hr hf ht
  go_enter Tryz.func60, Tryz.ntmps60
  go_wp2_with fail
  go_loopw [4, 3] (fun t o wr => ∃ (i : Nat) (tags : List (Nat × Nat)), i ≤ xss.length ∧ t = .int .i64 i ∧ Hid (Ext w wr) ∧ Hid (RowsO numK 40 wr w.heap.size w.heap.size o tags (xss.take i))) (fun t _ _ => xss.length - (intOf t).toNat)
  case atStart => exact ⟨0, [], by omega, rfl, Ext.refl _, RowsO.nil _ _ _ _ _⟩
  case round =>
    obtain ⟨i, tags, hi, rfl, HE, HO⟩ := hrel
    obtain ⟨wo, rfl⟩ : ∃ wo : World, wo = wr := ⟨_, rfl⟩
    by_cases hlt : i < xss.length
    · obtain ⟨b, off, rfl, hb, hcell⟩ := HC.out (by intro e; simp [e] at hlt)
      obtain ⟨r, hr⟩ : ∃ x, xss[i]? = some x := ⟨xss[i], List.getElem?_eq_getElem hlt⟩
      obtain ⟨vr, hvr, hcr⟩ := hcell i r hr
      obtain ⟨ar, cr, rfl, r1, r2, -, -, hcc⟩ := hvr.open
      have hrn : r.length = C := HRR.out r (List.mem_of_getElem? hr)
      rw [hrn] at hcr r1
      obtain ⟨br, or_, rfl, -, hc1⟩ := hcc (by intro e; rw [e] at hrn; simp at hrn; omega)
      have HCR := Lib.hid hcr; have HC1 := Lib.hid hc1
      have HRN := Lib.hid hrn
      have HF9 : Hid (Fit9 r) := HFX.out r (List.mem_of_getElem? hr)
      have HTK : Hid (xss.take (i + 1) = xss.take i ++ [r]) := by unfold Hid; rw [List.take_add_one, hr]; rfl
      have hii : (i : Int) < (xss.length : Int) := by omega
      unfold maxLen at r2
      clear hcell hr hvr hcr hcc hc1 hrn
      go_wp2_with fail
      go_loopw [6, 5] (fun t o wr => ∃ j : Nat, j ≤ C ∧ t = .int .i64 j ∧ Hid (Ext wo wr) ∧ Hid (Build wr wo.heap.size 26 1 o numC (r.take j))) (fun t _ _ => C - (intOf t).toNat)
      case atStart => exact ⟨0, by omega, rfl, by first | exact Ext.refl _ | exact Ext.drew _, Build.nil _ _ _ _ _⟩
      case round =>
        obtain ⟨j, hj, rfl, HEI, HBI⟩ := hrel
        obtain ⟨wi, rfl⟩ : ∃ wi : World, wi = wr := ⟨_, rfl⟩
        have HWI := Lib.hid (HE.out.trans HEI.out)
        have g1 := HWI.out.cell HCR.out
        by_cases hjl : j < C
        · obtain ⟨p, hp⟩ : ∃ p, r[j]? = some p := ⟨_, List.getElem?_eq_getElem (by rw [HRN.out]; exact hjl)⟩
          have g2 := HWI.out.cell (HC1.out j p hp)
          have hbd := HF9.out p (List.mem_of_getElem? hp)
          have HOF : Hid (Calls Tryz.prog 71 #[.int .i64 p] wi fun e w' => e = .returned (.string (intB p)) ∧ Ext wi w') := rOf_any p wi (by omega) (by omega) (HT.out.ext HWI.out)
          have HRT : Hid (r.take (j + 1) = r.take j ++ [p]) := by unfold Hid; rw [List.take_add_one, hp]; rfl
          have HLL : Hid ((r.take j).length < 1000000) := Nat.lt_of_le_of_lt (by rw [List.length_take]; exact Nat.min_le_left _ _) (show j < 1000000 by omega)
          have hjj : (j : Int) < (C : Int) := by omega
          clear hp hbd
          go_wp2_with fail
          refine HOF.out.mono ?_
          rintro e w5 ⟨rfl, hE5⟩
          have HX5 := Lib.hid (HEI.out.trans hE5)
          have HB5 := Lib.hid (HBI.out.ext hE5)
          have hs5 : wo.heap.size ≤ w5.heap.size := HX5.out.size
          clear hE5
          go_wp2_with (at_builtin; go_must (refine wpList_append_build _ rfl _ _ 40 rfl wo.heap.size 26 (.string ⟨#[]⟩) 1 16 Tryz.underlying40 infoNum rfl (by decide) u5 numC (r.take j) p #[.string (intB p)] 26 rfl HB5.out rfl rfl ?_ (fun _ _ => rfl) HLL.out (by decide) hs5 ?_))
          all_goals first | (simp [Value.oneCell']; done) | skip
          intro v' w6 hB6 hg6 hb6 hs6 _
          rw [← HRT.out] at hB6
          have HB6 := Lib.hid hB6
          have HX6 : Hid (Ext wo w6) := Below.trans HX5.out hb6
          clear hB6 hg6 hb6
          go_wp2_with fail
          go_roundw
          case rel => exact ⟨j + 1, by omega, by go_num, HX6.out, HB6.out⟩
          case measure => simp [intOf]; omega
        · obtain rfl : j = C := by omega
          have htk : r.take j = r := by rw [← HRN.out, List.take_length]
          rw [htk] at HBI
          obtain ⟨g, cap, hv, hRN, hbg, hcap, hcap2⟩ := RowN.of_build HBI.out (by rw [HRN.out]; exact hC)
          subst hv
          have HRW := Lib.hid hRN
          rw [HRN.out] at hcap ⊢
          have HO4 := Lib.hid (HO.out.ext HEI.out)
          have HV : Hid (u3.ownBlock ≠ some g) := fun e => by have := (HO.out.own.lt _ e).2; omega
          have HN : Hid (g ∉ tags.map (·.1)) := fun e => by have := (HO.out.fresh e).2; omega
          have HLL : Hid ((xss.take i).length < 1000000) := Nat.lt_of_le_of_lt (by rw [List.length_take]; exact Nat.min_le_left _ _) (show i < 1000000 by omega)
          have hs5 : w.heap.size ≤ wi.heap.size := HWI.out.size
          have hgb : w.heap.size ≤ g := by have := HE.out.size; omega
          have hjj : ¬ (j : Int) < (j : Int) := by omega
          clear hRN htk
          go_wp2_with (at_builtin; go_must (refine wpList_append_rowO (K := numK) (e := 40) Tryz.underlying97 infoNums wi rfl _ _ rfl w.heap.size w.heap.size u3 tags (xss.take i) (g, cap) r _ _ rfl HO4.out rfl ?d1 ?d2 ?d3 HRW.out ?d4 HV.out HN.out HLL.out ?d5 ?_))
          case d1 => rw [HRN.out]; rfl
          case d2 => rw [HRN.out]; exact hcap
          try (case d3 => exact hcap2)
          try (case d4 => exact hgb)
          try (case d5 => exact hs5)
          intro v' w6 hO6 hb6 _
          rw [← HTK.out] at hO6
          have HO6 := Lib.hid hO6
          have HX6 : Hid (Ext w w6) := Below.trans HWI.out hb6
          clear hO6 hb6
          go_wp2_with fail
          go_roundw
          case rel => exact ⟨i + 1, _, by omega, by go_num, HX6.out, HO6.out⟩
          case measure => simp [intOf]; omega
    · obtain rfl : i = xss.length := by omega
      rw [List.take_length] at HO
      have hii : ¬ (xss.length : Int) < (xss.length : Int) := by omega
      go_wp2_with fail
      go_ret
      exact ⟨_, rfl, ⟨_, HO.out⟩, HE.out⟩
end Go.Proofs.YtpeinobepiodaaaGreatDoor
/- The reference's Eliminate (06), in place. -/
namespace Go.Proofs.YtpeinobepiodaaaGreatDoor
set_option linter.unusedVariables false
set_option linter.unusedSimpArgs false
open Go.RowKit

theorem stepE_shape {C c : Nat} {s : ElS} (h : RectI C s.m) (hk : s.lead.length ≤ s.m.length) : RectI C (stepE c s).m ∧ (stepE c s).m.length = s.m.length ∧ (stepE c s).lead.length ≤ s.m.length := by
  unfold stepE
  simp only
  obtain ⟨g1, g2, g3, g4⟩ := findE_spec s.m c (s.m.length - s.lead.length) s.lead.length
  generalize findE s.m c (s.m.length - s.lead.length) s.lead.length = a at *
  by_cases ha : a = s.m.length
  · rw [if_pos ha]; exact ⟨h, rfl, hk⟩
  · rw [if_neg ha]
    have r1 : RectI C (if a = s.lead.length then s.m else swp s.m s.lead.length a) ∧ (if a = s.lead.length then s.m else swp s.m s.lead.length a).length = s.m.length := by
      split
      · exact ⟨h, rfl⟩
      · exact ⟨h.swp _ _, swp_length _ _ _⟩
    obtain ⟨r1, r2⟩ := r1
    generalize (if a = s.lead.length then s.m else swp s.m s.lead.length a) = m1 at *
    exact ⟨r1.el _ _ _ _ (by omega) _ (Nat.le_refl _), by rw [elETo_len]; exact r2, by rw [List.length_append]; simp; omega⟩
theorem barTo_shape {C : Nat} {m : List (List Int)} (h : RectI C m) : ∀ c, RectI C (barTo m c).m ∧ (barTo m c).m.length = m.length ∧ (barTo m c).lead.length ≤ m.length
  | 0 => ⟨h, rfl, Nat.zero_le _⟩
  | c + 1 => by
    obtain ⟨h1, h2, h3⟩ := barTo_shape h c
    obtain ⟨k1, k2, k3⟩ := stepE_shape (c := c) h1 (by omega)
    exact ⟨k1, by show (stepE c (barTo m c)).m.length = _; omega, by show (stepE c (barTo m c)).lead.length ≤ _; omega⟩
theorem stepE_full {c : Nat} {s : ElS} (h : s.lead.length = s.m.length) : stepE c s = s := by
  unfold stepE
  simp only
  rw [h, Nat.sub_self]
  exact if_pos rfl
theorem barTo_full {C : Nat} {m : List (List Int)} (hr : RectI C m) {c : Nat} (h : (barTo m c).lead.length = m.length) : ∀ d, barTo m (c + d) = barTo m c
  | 0 => rfl
  | d + 1 => by
    show stepE (c + d) (barTo m (c + d)) = _
    rw [barTo_full hr h d]
    exact stepE_full (by rw [h, (barTo_shape hr c).2.1])
/-- What holds in the middle of a column. -/
structure MidE (w0 wr : World) (g0 D : Nat) (tags0 : List (Nat × Nat)) (m : List (List Int)) (v : Value) (ld : List Nat) (tags : List (Nat × Nat)) : Prop where
  mat : MatN wr g0 tags m
  lead : OwnI D wr v ld
  same : ∀ b, blocksQ g0 tags b ↔ blocksQ g0 tags0 b
  grown : GrownS (blocksQ g0 tags0) w0 wr
  size : D ≤ wr.heap.size
theorem MidE.ext {w0 wr w' : World} {g0 D : Nat} {tags0 : List (Nat × Nat)} {m : List (List Int)} {v : Value} {ld : List Nat} {tags : List (Nat × Nat)} (h : MidE w0 wr g0 D tags0 m v ld tags) (he : Ext wr w') : MidE w0 w' g0 D tags0 m v ld tags :=
  ⟨h.mat.ext he, h.lead.ext he, h.same, h.grown.trans (he.grownS _), Nat.le_trans h.size he.size⟩
/-- An element is written. -/
theorem MidE.setEl {w0 wr : World} {g0 D : Nat} {tags0 : List (Nat × Nat)} {m : List (List Int)} {v : Value} {ld : List Nat} {tags : List (Nat × Nat)} (h : MidE w0 wr g0 D tags0 m v ld tags) (hb : ∀ b, blocksQ g0 tags b → b < D)
    {i j : Nat} {t : Nat × Nat} {r : List Int} (ht : tags[i]? = some t) (hr : m[i]? = some r) (hj : j < r.length) (q : Int) :
    MidE w0 (wr.setCell ⟨t.1, j, none⟩ (.string (intB q))) g0 D tags0 (m.set i (r.set j q)) v ld tags := by
  have hgr : GrownS (· = t.1) wr (wr.setCell ⟨t.1, j, none⟩ (.string (intB q))) := (GrownS.refl (· = t.1) wr).store (S := (· = t.1)) rfl _ _
  obtain ⟨t', ht', -, -, -, hR, hne, hbq⟩ := h.mat.get hr
  obtain rfl : t' = t := Option.some.inj (ht'.symm.trans ht)
  have hlt := hb _ hbq
  exact ⟨h.mat.setRow ht hr (by rw [List.length_set]) hgr (hR.set j hj q), h.lead.grown hgr (fun b e => by omega), h.same, h.grown.trans (hgr.weak fun b _ e => by rw [e]; exact (h.same _).1 hbq), by rw [setCell_sizeQ]; exact h.size⟩
/-- A pivot's column appended. -/
theorem MidE.push {w0 wr w' : World} {g0 D : Nat} {tags0 : List (Nat × Nat)} {m : List (List Int)} {v v' : Value} {ld ld' : List Nat} {tags : List (Nat × Nat)} (h : MidE w0 wr g0 D tags0 m v ld tags) (hb : ∀ b, blocksQ g0 tags b → b < D) (hD : w0.heap.size ≤ D)
    (hB : Below D wr w') (hv : OwnI D w' v' ld') : MidE w0 w' g0 D tags0 m v' ld' tags := by
  have hgr : GrownS (fun b => D ≤ b) wr w' := ⟨hB.os, hB.tape, hB.output, hB.size, fun k hk hn => hB.block k (by omega)⟩
  exact ⟨h.mat.grown hgr (fun b hb' e => by have := hb b hb'; omega), hv, h.same, grown_new h.grown hgr (fun b e => .inl (by omega)), Nat.le_trans h.size hB.size⟩
/-- Two rows exchanged. -/
theorem MidE.swap {w0 wr : World} {g0 D C : Nat} {tags0 : List (Nat × Nat)} {m : List (List Int)} {v : Value} {ld : List Nat} {tags : List (Nat × Nat)} (h : MidE w0 wr g0 D tags0 m v ld tags) (hb : ∀ b, blocksQ g0 tags0 b → b < D) (hr : RectI C m) {k a : Nat} (hk : k < m.length) (ha : a < m.length) :
    ∃ s t, tags[k]? = some s ∧ tags[a]? = some t ∧ wr.cell? ⟨g0, k, none⟩ = some (.slice (some ⟨s.1, 0, none⟩) C s.2) ∧ wr.cell? ⟨g0, a, none⟩ = some (.slice (some ⟨t.1, 0, none⟩) C t.2) ∧ wr.frozen? ⟨g0, k, none⟩ = false ∧ wr.frozen? ⟨g0, a, none⟩ = false ∧ C ≤ s.2 ∧ C ≤ t.2 ∧ s.2 ≤ 9223372036854775807 ∧ t.2 ≤ 9223372036854775807 ∧
      MidE w0 ((wr.setCell ⟨g0, k, none⟩ (.slice (some ⟨t.1, 0, none⟩) C t.2)).setCell ⟨g0, a, none⟩ (.slice (some ⟨s.1, 0, none⟩) C s.2)) g0 D tags0 (swp m k a) v ld (swp tags k a) ∧
      MidE w0 ((wr.setCell ⟨g0, a, none⟩ (.slice (some ⟨s.1, 0, none⟩) C s.2)).setCell ⟨g0, k, none⟩ (.slice (some ⟨t.1, 0, none⟩) C t.2)) g0 D tags0 (swp m a k) v ld (swp tags a k) := by
  have hk2 := List.getElem?_eq_getElem hk
  have ha2 := List.getElem?_eq_getElem ha
  obtain ⟨s, hs, c1, h1, h2, -⟩ := h.mat.get hk2
  obtain ⟨t, ht, c3, h3, h4, -⟩ := h.mat.get ha2
  have e1 := hr _ (List.mem_of_getElem? hk2)
  have e2 := hr _ (List.mem_of_getElem? ha2)
  have hsw := h.mat.swap hs ht hk2 ha2
  have hsw2 := h.mat.swap ht hs ha2 hk2
  rw [e1] at c1 h1 hsw hsw2
  rw [e2] at c3 h3 hsw hsw2
  have hgr : ∀ i j x y, GrownS (· = g0) wr ((wr.setCell ⟨g0, i, none⟩ x).setCell ⟨g0, j, none⟩ y) := fun i j x y => ((GrownS.refl (· = g0) wr).store (S := (· = g0)) rfl _ _).store (S := (· = g0)) rfl _ _
  have hg0 : blocksQ g0 tags0 g0 := List.mem_cons_self ..
  have hgl := hb g0 hg0
  refine ⟨s, t, hs, ht, c1, c3, h.mat.free k, h.mat.free a, h1, h3, h2, h4, ⟨hsw, h.lead.grown (hgr _ _ _ _) (fun b e => by omega), fun b => (swp_blocks hs ht).trans (h.same b), h.grown.trans ((hgr _ _ _ _).weak fun b _ e => by rw [e]; exact hg0), by rw [setCell_sizeQ, setCell_sizeQ]; exact h.size⟩,
    ⟨hsw2, h.lead.grown (hgr _ _ _ _) (fun b e => by omega), fun b => (swp_blocks ht hs).trans (h.same b), h.grown.trans ((hgr _ _ _ _).weak fun b _ e => by rw [e]; exact hg0), by rw [setCell_sizeQ, setCell_sizeQ]; exact h.size⟩⟩
theorem swp_comm {α : Type} (l : List α) (i j : Nat) : swp l i j = swp l j i := by
  by_cases h : i < l.length ∧ j < l.length
  · have hi := List.getElem?_eq_getElem h.1
    have hj := List.getElem?_eq_getElem h.2
    apply List.ext_getElem?
    intro k
    rw [swp_get hi hj, swp_get hj hi]
    by_cases e1 : k = j
    · by_cases e2 : k = i
      · rw [if_pos e1, if_pos e2]
        subst e1; subst e2; rfl
      · rw [if_pos e1, if_neg e2, if_pos e1]
    · rw [if_neg e1]
      by_cases e2 : k = i
      · rw [if_pos e2, if_pos e2]
      · rw [if_neg e2, if_neg e2, if_neg e1]
  · unfold swp
    by_cases h1 : i < l.length
    · rw [List.getElem?_eq_getElem h1, List.getElem?_eq_none (show l.length ≤ j by omega)]
    · rw [List.getElem?_eq_none (show l.length ≤ i by omega)]
      cases l[j]? <;> rfl
/-- What the numbers on the way must be. -/
structure ElOK (m : List (List Int)) (n : Nat) : Prop where
  sz : ∀ c, c ≤ n → ∀ i j, (intB (elI (barTo m c).m i j)).size ≤ 6000
  lsz : ∀ c, c ≤ n → (intB (barTo m c).last).size ≤ 6000
  ne : ∀ c, c ≤ n → (barTo m c).last ≠ 0
  dvd : ∀ c a, c < n → (barTo m c).lead.length ≤ a → a < m.length → elI (barTo m c).m a c ≠ 0 → (∀ j, (barTo m c).lead.length ≤ j → j < a → elI (barTo m c).m j c = 0) → ∀ m1, m1 = (if a = (barTo m c).lead.length then (barTo m c).m else swp (barTo m c).m (barTo m c).lead.length a) →
    ∀ i j, elI m1 (barTo m c).lead.length c * elI m1 i j - elI m1 i c * elI m1 (barTo m c).lead.length j = (barTo m c).last * ((elI m1 (barTo m c).lead.length c * elI m1 i j - elI m1 i c * elI m1 (barTo m c).lead.length j) / (barTo m c).last)
end Go.Proofs.YtpeinobepiodaaaGreatDoor
