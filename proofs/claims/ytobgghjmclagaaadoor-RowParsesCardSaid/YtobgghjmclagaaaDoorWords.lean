/- Contracts of generic functions of package slices at XTYPE. -/
import Derived.Test.YtobgghjmclagaaaDoorText
import Derived.Lib.SliceRun
import Derived.WalkSpells
import Derived.Laws.AppendOwnNone
namespace Go.Proofs.YtobgghjmclagaaaDoor
set_option linter.unusedVariables false
set_option linter.unusedSimpArgs false
open Go.RowKit


abbrev Words (w : World) (v : Value) (xs : List ByteArray) : Prop := ListAt 1 strR w v xs
theorem Words.ext {w w' : World} {v : Value} {xs : List ByteArray} (h : Words w v xs) (he : Ext w w') : Words w' v xs := ListAt.ext strR.mono h he
theorem Words.open {w : World} {v : Value} {xs : List ByteArray} (h : Words w v xs) :
    ∃ (a : Option Addr) (cap : Nat), v = .slice a xs.length cap ∧ xs.length ≤ cap ∧ cap ≤ maxLen ∧ (a = none → cap = 0) ∧
      (xs ≠ [] → ∃ b off, a = some ⟨b, off, none⟩ ∧ b < w.heap.size ∧ ∀ (j : Nat) x, xs[j]? = some x → w.cell? ⟨b, off + j, none⟩ = some (.string x)) := by
  obtain ⟨a, cap, hv, h1, h2, h3, h4⟩ := ListAt.open h
  refine ⟨a, cap, hv, h1, h2, h3, fun hx => ?_⟩
  obtain ⟨b, off, ha, hb, hc⟩ := h4 (by omega) hx
  refine ⟨b, off, ha, hb, fun j x hj => ?_⟩
  obtain ⟨u, _, hr, hcell⟩ := hc j x hj
  have := hcell 0 (by omega)
  rw [hr] at this
  simpa using this
def idxWd (p : ByteArray → Bool) (xs : List ByteArray) : Int := match xs.findIdx? p with | some i => (i : Int) | none => -1
/-- What is asked of a predicate handed over: in every later world it answers p, and adds to memory at most. -/
def PredWd (g : Nat) (lb : Array Value) (p : ByteArray → Bool) (w : World) (xs : List ByteArray) : Prop :=
  ∀ W x, x ∈ xs → Ext w W → Calls Tryd.prog g (#[.string x] ++ lb) W fun e W' => e = .returned (.bool (p x)) ∧ Ext W W'

set_option maxHeartbeats 400000 in
/-- slices.IndexFunc: the place of the first element at which p holds, or -1. -/
theorem indexFuncWd_any (xs : List ByteArray) (v : Value) (g : Nat) (lb : Array Value) (p : ByteArray → Bool) (w : World) (h : Words w v xs) (eg : ∀ args w, (callFunc g args).run Tryd.prog w = .ok (.enter g args) w) (hp : PredWd g lb p w xs) :
    Calls Tryd.prog 91 #[v, .func (.func g) #[] lb] w fun e w' => e = .returned (.int .i64 (idxWd p xs)) ∧ Ext w w' := by
  obtain ⟨a, c, rfl, h1, h2, -, hc⟩ := h.open
  have HC := Lib.hid hc; have HPR := Lib.hid hp
  clear hc h hp
  unfold maxLen at h2
  go_enter Tryd.func91, Tryd.ntmps91
  go_wp2
  go_loopw [8] (fun t wr => ∃ pre rest, t = .int .i64 (pre.length : Nat) ∧ Ext w wr ∧ Hid (xs = pre ++ rest) ∧ Hid (∀ x ∈ pre, p x = false)) (fun t _ => xs.length - (intOf t).toNat)
  case atStart => exact ⟨[], xs, rfl, Ext.refl _, rfl, by intro x hx; simp at hx⟩
  case round =>
    obtain ⟨pre, rest, rfl, hE, HP, HA⟩ := hrel
    have hlen : xs.length = pre.length + rest.length := by rw [HP.out]; simp
    cases rest with
    | nil =>
      have : ¬ (pre.length < xs.length) := by simp at hlen; omega
      clear hlen
      go_wp2
      go_ret
      have : idxWd p xs = -1 := by
        have : xs.findIdx? p = none := by rw [HP.out, List.append_nil, List.findIdx?_eq_none_iff]; exact HA.out
        unfold idxWd; rw [this]
      rw [this]
      exact ⟨rfl, hE⟩
    | cons x rest =>
      have hlt : pre.length < xs.length := by simp at hlen; omega
      clear hlen
      obtain ⟨b, off, rfl, hb, hcell⟩ := HC.out (by rw [HP.out]; simp)
      have g1 := hE.cell (hcell pre.length x (by rw [HP.out]; simp))
      clear hcell
      have hcall := fun W he => HPR.out W x (by rw [HP.out]; simp) he
      cases hq : p x with
      | true =>
        have HR : Hid (idxWd p xs = pre.length) := by
          unfold Hid idxWd
          rw [HP.out, List.findIdx?_append, (List.findIdx?_eq_none_iff (xs := pre)).2 HA.out, List.findIdx?_cons, hq]
          simp
        rw [hq] at hcall
        have HCALL := Lib.hid hcall
        clear hcall hq
        go_wp2_with (go_at_fn g; refine (HCALL.out _ hE).mono ?_; rintro e w' ⟨rfl, hE'⟩)
        go_ret
        rw [HR.out]
        exact ⟨rfl, hE.trans (by assumption)⟩
      | false =>
        have HA' : Hid (∀ y ∈ pre ++ [x], p y = false) := by
          intro y hy
          rcases List.mem_append.1 hy with hy | hy
          · exact HA.out y hy
          · rw [List.mem_singleton.1 hy]; exact hq
        rw [hq] at hcall
        have HCALL := Lib.hid hcall
        clear hcall hq
        go_wp2_with (go_at_fn g; refine (HCALL.out _ hE).mono ?_; rintro e w' ⟨rfl, hE'⟩)
        go_roundw
        case rel => exact ⟨pre ++ [x], rest, by simp, hE.trans (by assumption), by unfold Hid; rw [HP.out]; simp, HA'⟩
        case measure => simp [intOf]; omega


theorem containsWd_any (xs : List ByteArray) (v : Value) (g : Nat) (lb : Array Value) (p : ByteArray → Bool) (w : World) (h : Words w v xs) (eg : ∀ args w, (callFunc g args).run Tryd.prog w = .ok (.enter g args) w) (hp : PredWd g lb p w xs) :
    Calls Tryd.prog 75 #[v, .func (.func g) #[] lb] w fun e w' => e = .returned (.bool (xs.any p)) ∧ Ext w w' := by
  have hcall := indexFuncWd_any xs v g lb p w h eg hp
  cases hf : xs.findIdx? p with
  | none =>
    have HR : Hid (xs.any p = false) := by
      unfold Hid
      rw [List.findIdx?_eq_none_iff] at hf
      simpa using hf
    unfold idxWd at hcall
    rw [hf] at hcall
    have HCALL := Lib.hid hcall
    clear hcall hf hp h
    go_enter Tryd.func75, Tryd.ntmps75
    go_wp2_with (go_at_call 91; refine HCALL.out.mono ?_; rintro e w' ⟨rfl, hE'⟩)
    go_ret
    rw [HR.out]
    exact ⟨rfl, by assumption⟩
  | some i =>
    have HR : Hid (xs.any p = true) := by
      unfold Hid
      rw [List.any_eq_true]
      obtain ⟨hi, hpi, _⟩ := List.findIdx?_eq_some_iff_getElem.1 hf
      exact ⟨_, List.getElem_mem hi, hpi⟩
    have hi0 : (0 : Int) ≤ (i : Int) := by omega
    unfold idxWd at hcall
    rw [hf] at hcall
    have HCALL := Lib.hid hcall
    clear hcall hf hp h
    go_enter Tryd.func75, Tryd.ntmps75
    go_wp2_with (go_at_call 91; refine HCALL.out.mono ?_; rintro e w' ⟨rfl, hE'⟩)
    go_ret
    rw [HR.out]
    exact ⟨rfl, by assumption⟩

end Go.Proofs.YtobgghjmclagaaaDoor
