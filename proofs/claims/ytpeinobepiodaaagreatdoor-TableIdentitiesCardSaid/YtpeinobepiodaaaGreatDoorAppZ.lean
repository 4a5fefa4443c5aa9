/- 'append(q, make(pieces, k)...)' onto pieces that the call owns. -/
import Derived.Test.YtpeinobepiodaaaGreatDoorPcsAt
import Derived.Lib.AppendZerosOnto
namespace Go.Proofs.YtpeinobepiodaaaGreatDoor
set_option linter.unusedVariables false
set_option linter.unusedSimpArgs false
open Go.RowKit

theorem zeroCells_rep (k : Nat) : (Builtin.zeroCells (Value.int .u64 0).cells k).toList = (List.replicate k (0 : Nat)).map pcV := by
  have e : (Value.int .u64 0).cells = #[Value.int .u64 0] := rfl
  rw [e]
  apply List.ext_getElem?
  intro i
  simp only [Builtin.zeroCells, List.getElem?_map, List.getElem?_replicate]
  by_cases h : i < k <;> simp [h, pcV, Nat.mod_one]
theorem grown_zeros {B : Nat} {w : World} (l : List Nat) (k old : Nat) (hb : B ≤ w.heap.size) (hm : l.length + k ≤ maxLen) (row : Option Nat) :
    OwnP B (w.drew.alloc (.cells ((l.map pcV).toArray ++ Builtin.zeroCells (Value.int .u64 0).cells k ++ Builtin.zeroCells (Value.int .u64 0).cells (grownCap w (l.length + k) old 147 - (l.length + k))) 147))
      (.slice (some ⟨w.heap.size, 0, none⟩) (l.length + k) (grownCap w (l.length + k) old 147)) (l ++ List.replicate k 0) ∧
    w.grownBy (w.drew.alloc (.cells ((l.map pcV).toArray ++ Builtin.zeroCells (Value.int .u64 0).cells k ++ Builtin.zeroCells (Value.int .u64 0).cells (grownCap w (l.length + k) old 147 - (l.length + k))) 147)) row := by
  have hge := grownCap_ge w (l.length + k) old 147
  have hcm := grownCap_le_maxLen w (l.length + k) old 147 hm
  refine ⟨⟨by simp, .inr ⟨w.heap.size, _, _, by simp, hb, heap_alloc_new w.drew _, by simpa using hge, hcm, ?_, ?_⟩⟩, ((Ext.drew w).trans (Ext.alloc _ _)).grown row⟩
  · simp only [Array.size_append, List.size_toArray, size_zeroCells, List.length_map]
    show l.length + k * 1 + _ * 1 = _ * 1
    omega
  · simp only [Array.toList_append, zeroCells_rep]
    have : (l ++ List.replicate k 0).length * 1 = (l.map pcV ++ (List.replicate k 0).map pcV).length := by simp
    rw [this, List.map_append]
    exact List.take_left
theorem run_append_zeros_own {P : Program} (w : World) (B : Nat) (t tn ty : TypeId) (i : TypeInfo) (kn : IntKind) (ht : P.underlying t = some (.slice 147)) (htn : P.underlying tn = some (.int kn)) (hi : P.info? 147 = some i) (hz : i.zero = some (.int .u64 0)) (hs : i.size = 1) (hby : i.bytes = 8)
    (v : Value) (l : List Nat) (h : OwnP B w v l) (k : Nat) (hl : l.length ≤ 1000000) (hk : k ≤ 1000000) (hb : B ≤ w.heap.size) :
    ∃ v' w', (Builtin.append_ #[t, tn] ty #[v, .int .i64 k]).run P w = .ok v' w' ∧ OwnP B w' v' (l ++ List.replicate k 0) ∧ w.grownBy w' v.ownBlock ∧ (v'.ownBlock = v.ownBlock ∨ v'.ownBlock = some w.heap.size) := by
  have hw : IntKind.i64.wrap (k : Int) = k := by rw [IntKind.wrap_i64]; omega
  have hneg : ¬ ((k : Int) < 0) := by omega
  have hw0 : IntKind.i64.wrap 0 = 0 := by rw [IntKind.wrap_i64]; rfl
  have h48i : ¬ (281474976710656 < (k : Int) * 8) := by omega
  rcases h.2 with ⟨rfl, hn⟩ | ⟨g, cap, cur, rfl, hbg, hg, hnc, hcm, hcs, htake⟩
  · have hx : l = [] := List.length_eq_zero_iff.1 hn
    subst hx
    by_cases hk0 : k = 0
    · subst hk0
      refine ⟨.slice none 0 0, w, ?_, OwnP.nil B w, World.grownBy.refl _ _, .inl rfl⟩
      simp [Builtin.append_, run_underlying ht, run_underlying htn, sizeOf, typeInfo, hi, asInt, asIntOf, hw0, hs, hby]
    · have hr := Lib.run_append_nil_zeros (P := P) w t tn ty 147 i (.int .u64 0) .i64 kn ht htn hi hz k (by omega) (by omega) (by omega) (by rw [hby]; omega)
      have hgr := grown_zeros (B := B) (w := w) [] k 0 hb (by simp [maxLen]; omega) (Value.ownBlock (.slice none 0 0))
      simp only [List.length_nil, Nat.zero_add, List.map_nil, List.nil_append, Array.empty_append] at hgr
      exact ⟨_, _, hr, hgr.1, hgr.2, .inr rfl⟩
  · rw [Nat.mul_one] at hcs htake
    by_cases hroom : l.length + k ≤ cap
    · have hst := run_storeCells_at P g l.length 147 ((List.replicate k (0 : Nat)).map pcV) 0 cur w hg (by simp; omega) (by intro u hu; simp [pcV] at hu; rw [hu.2]; rfl)
      simp only [Nat.add_zero] at hst
      have hr : (Builtin.append_ #[t, tn] ty #[.slice (some ⟨g, 0, none⟩) l.length cap, .int .i64 k]).run P w = .ok (.slice (some ⟨g, 0, none⟩) (l.length + k) cap) (w.setRow g (cur.toList.take l.length ++ (List.replicate k (0 : Nat)).map pcV ++ cur.toList.drop (l.length + ((List.replicate k (0 : Nat)).map pcV).length)).toArray) := by
        by_cases hk0 : k = 0
        · subst hk0
          simp [Builtin.append_, run_underlying ht, run_underlying htn, sizeOf, typeInfo, hi, asInt, asIntOf, hw0, hs, hby, hroom, Addr.add_lit]
          simp at hst
          have : l.length ≤ cap := by omega
          simp [hst, this]
        · have hzz : (Builtin.zeroCells (Value.int .u64 0).cells k).toList = (List.replicate k (0 : Nat)).map pcV := zeroCells_rep k
          simp [Builtin.append_, run_underlying ht, run_underlying htn, sizeOf, typeInfo, zeroValue, hi, hz, asInt, asIntOf, hw, hs, hby, hroom, Addr.add_lit, hneg, h48i, hk0]
          rw [hzz]
          simp at hst
          simp [hst]
      refine ⟨_, _, hr, ⟨by simp, .inr ⟨g, cap, _, by simp, hbg, setRow_heap w g cur _ 147 _ hg, by simpa using hroom, hcm, ?_, ?_⟩⟩, ⟨rfl, rfl, rfl, by simp, fun k hk _ => setRow_other w g k _ (fun e => by simp_all [Value.ownBlock])⟩, .inl rfl⟩
      · simp only [List.size_toArray, List.length_append, List.length_take, List.length_drop, Array.length_toList, List.length_map, List.length_replicate]
        omega
      · rw [htake, Nat.mul_one]
        have : (l ++ List.replicate k 0).length = (l.map pcV ++ (List.replicate k 0).map pcV).length := by simp
        rw [this, List.map_append]
        exact List.take_left
    · have hold : (Builtin.firstCells i.size l.length (.slice (some ⟨g, 0, none⟩) l.length cap)).run P w.drew = .ok (l.map pcV).toArray w.drew := by
        refine run_firstCells_some (P := P) w.drew i.size l.length ⟨g, 0, none⟩ l.length cap (l.map pcV) (by simp [hs]) ?_
        intro j u hu
        have := World.ownsRow.cells h (g := g) rfl j u hu
        simpa using this
      have hr := Lib.run_append_grow_zeros (P := P) w t tn ty 147 i (.int .u64 0) .i64 kn ht htn hi hz (some ⟨g, 0, none⟩) l.length cap (l.map pcV) hold k (by omega) (by omega) (by omega) (by omega) (by rw [hby]; omega) (growslice_fits (by omega) (by rw [hby]; omega))
      have hgr := grown_zeros (B := B) (w := w) l k cap hb (by simp [maxLen]; omega) (Value.ownBlock (.slice (some ⟨g, 0, none⟩) l.length cap))
      exact ⟨_, _, hr, hgr.1, hgr.2, .inr rfl⟩
end Go.Proofs.YtpeinobepiodaaaGreatDoor
