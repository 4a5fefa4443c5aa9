/- slices.Reverse at bytes that the call owns. -/
import Derived.Test.YtpeinobepiodaaaGreatDoorDecCut
import Derived.RegionTactic
import Derived.ChangeAlike
namespace Go.Proofs.YtpeinobepiodaaaGreatDoor
set_option linter.unusedVariables false
set_option linter.unusedSimpArgs false
open Go.RowKit

def byV (c : UInt8) : Value := .int .u8 c.toNat
/-- Bytes that the call owns. -/
def OwnB (B : Nat) (w : World) (v : Value) (l : List UInt8) : Prop := w.ownsRow B 5 1 v l.length (l.map byV)
theorem OwnB.len {B g n cap : Nat} {w : World} {l : List UInt8} (h : OwnB B w (.slice (some ⟨g, 0, none⟩) n cap) l) : n = l.length := by
  rcases h.2 with ⟨e, _⟩ | ⟨g', cap', cur, e, _⟩
  · cases e
  · simp only [Value.slice.injEq] at e; exact e.2.1
theorem OwnB.get {B g n cap : Nat} {w : World} {l : List UInt8} (h : OwnB B w (.slice (some ⟨g, 0, none⟩) n cap) l) {k : Nat} {x : UInt8} (hx : l[k]? = some x) :
    w.cell? ⟨g, k, none⟩ = some (.int .u8 x.toNat) ∧ w.frozen? ⟨g, k, none⟩ = false := by
  have hk : k < l.length := (List.getElem?_eq_some_iff.1 hx).1
  have hn := h.len
  subst hn
  exact ⟨(World.ownsRow.cellAt h k (by simpa using hk)).trans (by simp [hx, byV]), World.ownsRow.frozenAt h k⟩
theorem OwnB.set {B g n cap : Nat} {w : World} {l : List UInt8} (h : OwnB B w (.slice (some ⟨g, 0, none⟩) n cap) l) (k : Nat) (x : UInt8) :
    OwnB B (w.setCell ⟨g, k, none⟩ (.int .u8 x.toNat)) (.slice (some ⟨g, 0, none⟩) n cap) (l.set k x) := by
  have hn := h.len
  subst hn
  unfold OwnB at h ⊢
  rw [List.map_set, List.length_set]; exact (World.ownsRow.stored h k _).1
theorem OwnB.form {B : Nat} {w : World} {v : Value} {l : List UInt8} (h : OwnB B w v l) : ∃ a cap, v = .slice a l.length cap ∧ l.length ≤ cap ∧ cap ≤ 9223372036854775807 ∧ (l ≠ [] → ∃ g, a = some ⟨g, 0, none⟩ ∧ B ≤ g ∧ g < w.heap.size) := by
  rcases h.2 with ⟨rfl, hn⟩ | ⟨g, cap, cur, rfl, hb, hg, h1, h2, h3, h4⟩
  · exact ⟨none, 0, by rw [hn], by omega, by omega, fun hne => absurd (List.length_eq_zero_iff.1 hn) hne⟩
  · exact ⟨_, cap, rfl, h1, h2, fun _ => ⟨g, rfl, hb, (Array.getElem?_eq_some_iff.1 hg).1⟩⟩
theorem OwnB.draws {B : Nat} {w : World} {v : Value} {l : List UInt8} (h : OwnB B w v l) (k : Nat) : OwnB B (w.drewN k) v l := owns_ext h (Ext.drewN w k)
def byR (_ : World) (u : List Value) (x : UInt8) : Prop := u = [byV x]
theorem Build.ownB {B : Nat} {w : World} {v : Value} {l : List UInt8} (h : Build w B 5 1 v byR l) : OwnB B w v l := by
  obtain ⟨us, h1, h2, h3, h4⟩ := h
  have : us = l.map fun x => [byV x] := by
    apply List.ext_getElem?
    intro i
    rw [List.getElem?_map]
    by_cases hi : i < l.length
    · have hi2 : i < us.length := by omega
      have := (h4 i us[i] l[i] (by simp [hi2]) (by simp [hi])).now
      simp only [byR] at this
      simp [hi, hi2, this]
    · rw [List.getElem?_eq_none (by omega), List.getElem?_eq_none (by omega)]; rfl
  rw [this, flatten_one] at h3
  exact h3

/-- The outer i elements of both ends are exchanged. -/
def Swapped (bs l : List UInt8) (i : Nat) : Prop := l.length = bs.length ∧ ∀ k, k < bs.length → l[k]? = if k < i ∨ bs.length ≤ k + i then bs[bs.length - 1 - k]? else bs[k]?
theorem Swapped.zero (bs : List UInt8) : Swapped bs bs 0 := ⟨rfl, fun k hk => by rw [if_neg (by omega)]⟩
theorem Swapped.done {bs l : List UInt8} {i : Nat} (h : Swapped bs l i) (hi : bs.length ≤ 2 * i + 1) : l = bs.reverse := by
  apply List.ext_getElem?
  intro k
  by_cases hk : k < bs.length
  · rw [h.2 k hk, List.getElem?_reverse hk]
    split
    · rfl
    · have : bs.length - 1 - k = k := by omega
      rw [this]
  · rw [List.getElem?_eq_none (by have := h.1; omega), List.getElem?_eq_none (by rw [List.length_reverse]; omega)]
theorem Swapped.step {bs l : List UInt8} {i j : Nat} {x y : UInt8} (h : Swapped bs l i) (hj : i + j + 1 = bs.length) (hij : i < j) (hx : l[i]? = some x) (hy : l[j]? = some y) : Swapped bs ((l.set i y).set j x) (i + 1) := by
  have hl := h.1
  refine ⟨by simp [hl], fun k hk => ?_⟩
  have h1 := h.2 i (by omega)
  have h2 := h.2 j (by omega)
  rw [if_neg (by omega)] at h1 h2
  rw [List.getElem?_set, List.getElem?_set]
  by_cases e1 : j = k
  · subst e1
    rw [if_pos rfl, if_pos (by simp [hl]; omega), if_pos (by omega), show bs.length - 1 - j = i by omega, ← h1, hx]
  · rw [if_neg e1]
    by_cases e2 : i = k
    · subst e2
      rw [if_pos rfl, if_pos (by omega), if_pos (by omega), show bs.length - 1 - i = j by omega, ← h2, hy]
    · rw [if_neg e2, h.2 k hk]
      by_cases c : k < i ∨ bs.length ≤ k + i
      · rw [if_pos c, if_pos (by omega)]
      · rw [if_neg c, if_neg (by omega)]

set_option maxRecDepth 100000 in
set_option maxHeartbeats 1000000 in
theorem reverse_any (B : Nat) (bs : List UInt8) (v : Value) (w : World) (h : OwnB B w v bs) :
    Calls Tryz.prog 143 #[v] w fun e w' => e = .returned (.tuple #[]) ∧ OwnB B w' v bs.reverse ∧ w.grownBy w' v.ownBlock := by
  obtain ⟨a, cap, rfl, hl, hc, hg⟩ := h.form
  have HW := Lib.hid h
  have HG := Lib.hid hg
  clear h hg
  go_enter Tryz.func143, Tryz.ntmps143
  go_wp2_with fail
  go_loopw [2, 3] (fun i j wr => ∃ (x : Nat) (y : Int) (l : List UInt8), i = .int .i64 x ∧ j = .int .i64 y ∧ (x : Int) ≤ bs.length ∧ y < bs.length ∧ -2 < y ∧ Hid ((x : Int) + y + 1 = bs.length) ∧ Hid (OwnB B wr (.slice a bs.length cap) l) ∧ Hid (Swapped bs l x) ∧ Hid (w.grownBy wr (Value.slice a bs.length cap).ownBlock)) (fun i j _ => (intOf j - intOf i).toNat)
  case atStart => exact ⟨0, _, bs, rfl, rfl, by omega, by omega, by omega, by unfold Hid; omega, HW.out, Swapped.zero bs, World.grownBy.refl _ _⟩
  case round =>
    obtain ⟨x, y, l, rfl, rfl, hx, hy, hy2, HXY, HO, HS, HGR⟩ := hrel
    obtain ⟨wo, rfl⟩ : ∃ wo : World, wo = wr := ⟨_, rfl⟩
    by_cases hlt : (x : Int) < y
    · obtain ⟨j, rfl⟩ : ∃ j : Nat, y = j := ⟨y.toNat, by omega⟩
      have hxy := HXY.out
      obtain ⟨g, rfl, hg1, hg2⟩ := HG.out (by rintro rfl; simp at hy; omega)
      have hll := HS.out.1
      obtain ⟨cx, hcx⟩ : ∃ c, l[x]? = some c := ⟨_, List.getElem?_eq_getElem (by omega)⟩
      obtain ⟨cy, hcy⟩ : ∃ c, l[j]? = some c := ⟨_, List.getElem?_eq_getElem (by omega)⟩
      obtain ⟨c1, f1⟩ := HO.out.get hcx
      obtain ⟨c2, f2⟩ := HO.out.get hcy
      have HS2 := Lib.hid (HS.out.step (by omega) (by omega) hcx hcy)
      have HO2 := Lib.hid ((HO.out.set x cy).set j cx)
      have HN := Lib.hid (fun k => OwnB.draws (HO2.out) k)
      have hxj : x < bs.length := by omega
      have hjj : j < bs.length := by omega
      have hne : ¬ x = j := by omega
      have hne2 : ¬ j = x := by omega
      clear hxy hll hcx hcy HG
      go_wp2_with fail
      go_region
      all_goals
        go_wp2_with fail
        go_roundw
        case rel =>
          refine ⟨x + 1, _, _, by go_num, rfl, by omega, by omega, by omega, by have := HXY.out; unfold Hid; omega, owns_ext HO2.out (Ext.drew _), HS2.out, ?_⟩
          exact grown_trans (grown_trans (grown_trans HGR.out (grown_setCell _ g _ _)) (grown_setCell _ g _ _)) ((Ext.drew _).grown _)
        case measure => simp [intOf]; omega
    · have HF := Lib.hid (HS.out.done (by have := HXY.out; omega))
      rw [HF.out] at HO
      go_wp2_with fail
      refine bodyPost_end (results_none rfl _ _ _) rfl ⟨rfl, HO.out, HGR.out⟩
end Go.Proofs.YtpeinobepiodaaaGreatDoor
