/- Pieces of numbers in memory: slices of uint64 that a call owns. -/
import Derived.Test.YtpeinobepiodaaaGreatDoorLimbTxt
import Derived.Test.YtpeinobepiodaaaGreatDoorBuildS
import Derived.Test.YtpeinobepiodaaaGreatDoorTypes
import Derived.WalkSmall
import Derived.IntWalk
namespace Go.Proofs.YtpeinobepiodaaaGreatDoor
set_option linter.unusedVariables false
set_option linter.unusedSimpArgs false
open Go.RowKit

theorem infoU64 : (Tryz.prog.info? 147).map (fun i => (i.zero, i.size, i.bytes)) = some (some (.int .u64 0), 1, 8) := by kernel_rfl
theorem infoU8 : (Tryz.prog.info? 5).map (fun i => (i.zero, i.size, i.bytes)) = some (some (.int .u8 0), 1, 1) := by kernel_rfl

/-- A piece's cell. -/
def pcV (x : Nat) : Value := .int .u64 x
/-- Pieces that the call owns. -/
def OwnP (B : Nat) (w : World) (v : Value) (l : List Nat) : Prop := w.ownsRow B 147 1 v l.length (l.map pcV)
/-- Pieces that may be read. -/
def pcR (_ : World) (u : List Value) (x : Nat) : Prop := u = [pcV x]
theorem pcR.mono : Mono pcR := fun _ _ _ _ _ h => h
abbrev PcsAt (w : World) (v : Value) (l : List Nat) : Prop := ListAt 1 pcR w v l
theorem PcsAt.ext {w w' : World} {v : Value} {l : List Nat} (h : PcsAt w v l) (he : Ext w w') : PcsAt w' v l := ListAt.ext pcR.mono h he
theorem OwnP.at {B : Nat} {w : World} {v : Value} {l : List Nat} (h : OwnP B w v l) : PcsAt w v l := by
  refine ⟨l.map fun x => [pcV x], by simp, by simp, ?_, ?_⟩
  · have := SeqAt.of_owns h
    rwa [flatten_one]
  · intro j u x hu hx
    simp only [List.getElem?_map, hx, Option.map_some, Option.some.injEq] at hu
    exact hu.symm
theorem OwnP.ext {B : Nat} {w w' : World} {v : Value} {l : List Nat} (h : OwnP B w v l) (he : Ext w w') : OwnP B w' v l := owns_ext h he
/-- The shape of the value. -/
theorem OwnP.form {B : Nat} {w : World} {v : Value} {l : List Nat} (h : OwnP B w v l) : ∃ a cap, v = .slice a l.length cap ∧ l.length ≤ cap ∧ cap ≤ 9223372036854775807 ∧ (l ≠ [] → ∃ g, a = some ⟨g, 0, none⟩ ∧ B ≤ g ∧ g < w.heap.size) := by
  rcases h.2 with ⟨rfl, hn⟩ | ⟨g, cap, cur, rfl, hb, hg, h1, h2, h3, h4⟩
  · exact ⟨none, 0, by rw [hn], by omega, by omega, fun hne => absurd (List.length_eq_zero_iff.1 hn) hne⟩
  · exact ⟨_, cap, rfl, h1, h2, fun _ => ⟨g, rfl, hb, (Array.getElem?_eq_some_iff.1 hg).1⟩⟩
theorem OwnP.base {B B' : Nat} {w : World} {v : Value} {l : List Nat} (h : OwnP B w v l) (hb : B' ≤ B) : OwnP B' w v l := by
  refine ⟨h.1, ?_⟩
  rcases h.2 with h' | ⟨g, cap, cur, e, hg, rest⟩
  · exact .inl h'
  · exact .inr ⟨g, cap, cur, e, Nat.le_trans hb hg, rest⟩
theorem OwnP.nil (B : Nat) (w : World) : OwnP B w (.slice none 0 0) [] := World.ownsRow_nil w B 147 1
/-- A piece reads, and may be written. -/
theorem OwnP.get {B g n cap : Nat} {w : World} {l : List Nat} (h : OwnP B w (.slice (some ⟨g, 0, none⟩) n cap) l) {k x : Nat} (hx : l[k]? = some x) :
    w.cell? ⟨g, k, none⟩ = some (.int .u64 x) ∧ w.frozen? ⟨g, k, none⟩ = false := by
  have hk : k < l.length := (List.getElem?_eq_some_iff.1 hx).1
  have hn : n = l.length := by
    rcases h.2 with ⟨e, _⟩ | ⟨g', cap', cur, e, _⟩
    · cases e
    · simp only [Value.slice.injEq] at e; exact e.2.1
  subst hn
  exact ⟨(World.ownsRow.cellAt h k (by simpa using hk)).trans (by simp [hx, pcV]), World.ownsRow.frozenAt h k⟩
theorem OwnP.set {B g n cap : Nat} {w : World} {l : List Nat} (h : OwnP B w (.slice (some ⟨g, 0, none⟩) n cap) l) (k x : Nat) :
    OwnP B (w.setCell ⟨g, k, none⟩ (.int .u64 x)) (.slice (some ⟨g, 0, none⟩) n cap) (l.set k x) := by
  have hn : n = l.length := by
    rcases h.2 with ⟨e, _⟩ | ⟨g', cap', cur, e, _⟩
    · cases e
    · simp only [Value.slice.injEq] at e; exact e.2.1
  subst hn
  unfold OwnP at h ⊢
  rw [List.map_set, List.length_set]; exact (World.ownsRow.stored h k _).1
/-- The first pieces. -/
theorem OwnP.take {B g n cap : Nat} {w : World} {l : List Nat} (h : OwnP B w (.slice (some ⟨g, 0, none⟩) n cap) l) (m : Nat) (hm : m ≤ l.length) :
    OwnP B w (.slice (some ⟨g, 0, none⟩) m cap) (l.take m) := by
  have hl : (l.take m).length = m := by rw [List.length_take]; omega
  refine ⟨by rw [List.length_map, Nat.mul_one], .inr ?_⟩
  rcases h.2 with ⟨e, _⟩ | ⟨g', cap', cur, e, hb, hg, h1, h2, h3, h4⟩
  · cases e
  · simp only [Value.slice.injEq, Option.some.injEq, Addr.mk.injEq] at e
    obtain ⟨⟨rfl, -, -⟩, rfl, rfl⟩ := e
    refine ⟨g, cap, cur, by rw [hl], hb, hg, by omega, h2, h3, ?_⟩
    rw [Nat.mul_one] at h4 ⊢
    rw [List.map_take, ← h4, List.take_take, hl, Nat.min_eq_left (by omega)]
theorem OwnP.len {B g n cap : Nat} {w : World} {l : List Nat} (h : OwnP B w (.slice (some ⟨g, 0, none⟩) n cap) l) : n = l.length := by
  rcases h.2 with ⟨e, _⟩ | ⟨g', cap', cur, e, _⟩
  · cases e
  · simp only [Value.slice.injEq] at e; exact e.2.1
/-- Opening pieces that may be read. -/
theorem PcsAt.open {w : World} {v : Value} {l : List Nat} (h : PcsAt w v l) :
    ∃ (a : Option Addr) (cap : Nat), v = .slice a l.length cap ∧ l.length ≤ cap ∧ cap ≤ 9223372036854775807 ∧
      (l ≠ [] → ∃ b off, a = some ⟨b, off, none⟩ ∧ b < w.heap.size ∧ ∀ (j : Nat) x, l[j]? = some x → w.cell? ⟨b, off + j, none⟩ = some (.int .u64 x)) := by
  obtain ⟨a, cap, hv, h1, h2, h3, h4⟩ := ListAt.open h
  refine ⟨a, cap, hv, h1, h2, fun hx => ?_⟩
  obtain ⟨b, off, ha, hb, hc⟩ := h4 (by omega) hx
  refine ⟨b, off, ha, hb, fun j x hj => ?_⟩
  obtain ⟨u, _, hr, hcell⟩ := hc j x hj
  have := hcell 0 (by omega)
  rw [hr] at this
  simpa [pcV] using this
/-- Of a slice that was made. -/
theorem OwnP.made {B n : Nat} {w : World} {v : Value} (h : w.ownsRow B 147 1 v n (madeCells #[.int .u64 0] n).toList) : OwnP B w v (List.replicate n 0) := by
  unfold OwnP
  rw [List.length_replicate]
  have e : (madeCells #[Value.int .u64 0] n).toList = (List.replicate n 0).map pcV := (toList_madeCells_one _ _).trans (by simp [pcV])
  rwa [e] at h

/-- As a slice that the call builds. -/
theorem OwnP.build {B : Nat} {w : World} {v : Value} {l : List Nat} (h : OwnP B w v l) : Build w B 147 1 v pcR l := by
  refine ⟨l.map fun x => [pcV x], by simp, by simp, ?_, ?_⟩
  · rw [flatten_one]; exact h
  · intro j u x hu hx w' _
    simp only [List.getElem?_map, hx, Option.map_some, Option.some.injEq] at hu
    exact hu.symm
theorem Build.ownP {B : Nat} {w : World} {v : Value} {l : List Nat} (h : Build w B 147 1 v pcR l) : OwnP B w v l := by
  obtain ⟨us, h1, h2, h3, h4⟩ := h
  have : us = l.map fun x => [pcV x] := by
    apply List.ext_getElem?
    intro i
    rw [List.getElem?_map]
    by_cases hi : i < l.length
    · have hi2 : i < us.length := by omega
      have := (h4 i us[i] l[i] (by simp [hi2]) (by simp [hi])).now
      simp only [pcR] at this
      simp [hi, hi2, this]
    · rw [List.getElem?_eq_none (by omega), List.getElem?_eq_none (by omega)]; rfl
  rw [this, flatten_one] at h3
  exact h3

set_option maxRecDepth 100000 in
set_option maxHeartbeats 400000 in
/-- trim: zeros at the end are left out. -/
theorem trim_any (B : Nat) (l : List Nat) (v : Value) (w : World) (h : OwnP B w v l) (hp : Pcs l) :
    Calls Tryz.prog 133 #[v] w fun e w' => ∃ v' l', e = .returned v' ∧ Hid (OwnP B w' v' l' ∧ Can l' ∧ lv l' = lv l ∧ l'.length ≤ l.length) ∧ ∃ k, w' = w.drewN k := by
  obtain ⟨a, cap, rfl, hl, hc, hg⟩ := h.form
  have HW := Lib.hid h
  have HP := Lib.hid hp
  have HG := Lib.hid hg
  clear h hp hg
  go_enter Tryz.func133, Tryz.ntmps133
  go_wp2_with fail
  go_loopw [0] (fun t wr => ∃ m : Nat, m ≤ l.length ∧ t = .slice a m cap ∧ Hid (lv (l.take m) = lv l) ∧ ∃ k, wr = w.drewN k) (fun t _ => match t with | .slice _ m _ => m | _ => 0)
  case atStart => exact ⟨l.length, Nat.le_refl _, rfl, by unfold Hid; rw [List.take_length], 0, rfl⟩
  case round =>
    obtain ⟨m, hm, rfl, HV, k, rfl⟩ := hrel
    by_cases h0 : m = 0
    · subst h0
      have HF : Hid (OwnP B w (.slice a 0 cap) [] ∧ Can [] ∧ lv [] = lv l ∧ ([] : List Nat).length ≤ l.length) := by
        refine ⟨?_, Can.nil, HV.out, Nat.zero_le _⟩
        by_cases hn : l = []
        · subst hn; exact HW.out
        · obtain ⟨g, rfl, -, -⟩ := HG.out hn
          exact HW.out.take 0 (Nat.zero_le _)
      go_wp2_with fail
      go_ret
      exact ⟨_, [], rfl, HF, k, rfl⟩
    · have hne : l ≠ [] := by rintro rfl; simp at hm; omega
      obtain ⟨g, rfl, hg1, hg2⟩ := HG.out hne
      obtain ⟨x, hx⟩ : ∃ x, l[m - 1]? = some x := ⟨_, List.getElem?_eq_getElem (by omega)⟩
      obtain ⟨hcell, -⟩ := HW.out.get hx
      have hi0 : (0 : Int) ≤ (m : Int) - 1 := by omega
      have hi1 : ((m : Int) - 1).toNat = m - 1 := by omega
      have hi2 : 1 ≤ m := by omega
      by_cases hx0 : x = 0
      · subst hx0
        have HV' : Hid (lv (l.take (m - 1)) = lv l) := by
          unfold Hid
          have := lv_take_succ hx
          rw [show m - 1 + 1 = m by omega, Nat.mul_zero, Nat.add_zero, HV.out] at this
          exact this.symm
        clear hx h0 hne
        go_wp2_with fail
        go_roundw
        case rel => exact ⟨m - 1, by omega, by first | rfl | (simp; omega), HV', k, rfl⟩
        case measure => simp; omega
      · have HF : Hid (OwnP B w (.slice (some ⟨g, 0, none⟩) m cap) (l.take m) ∧ Can (l.take m) ∧ lv (l.take m) = lv l ∧ (l.take m).length ≤ l.length) := by
          refine ⟨HW.out.take m hm, ⟨HP.out.take m, ?_⟩, HV.out, by rw [List.length_take]; omega⟩
          intro y hy
          rw [List.length_take, Nat.min_eq_left hm, List.getElem?_take, if_pos (by omega), hx] at hy
          cases hy; exact hx0
        have hxb : ((x : Int) == 0) = false := by rw [beq_eq_false_iff_ne]; omega
        clear hx h0 hne
        go_wp2_with fail
        go_ret
        exact ⟨_, _, rfl, HF.out, k, rfl⟩
end Go.Proofs.YtpeinobepiodaaaGreatDoor
