/- Merged: DTemI, SlInts5, LawS, Flat, Make51, Keep. -/
import Derived.Test.YtjihfabhgcfjnaaGreatDoorUBH
import Derived.Test.YtjihfabhgcfjnaaGreatDoorVBAC
import Derived.Test.YtjihfabhgcfjnaaGreatDoorUAA
import Derived.Lib.SliceRun
import Derived.WalkSpells
import Derived.Laws.AppendOwnNone
import Derived.Test.YtjihfabhgcfjnaaGreatDoorUAG
import Derived.WalkKit
import Derived.ProofKit
import Derived.OpenShut
import Derived.Test.YtjihfabhgcfjnaaGreatDoorUAL
import Derived.Laws.BitsAllLaws
import Derived.Deep.RegionHeld3
import Derived.Deep.DeepAppendRoom
import Derived.Deep.AppendLies
/- slices.IndexFunc at strains; the closures of DriftTempers. -/
namespace Go.Proofs.YtjihfabhgcfjnaaGreatDoor
set_option linter.unusedVariables false
set_option linter.unusedSimpArgs false
open Go.RowKit

def idxStr (p : Nat × Nat × List Int → Bool) (xs : List (Nat × Nat × List Int)) : Int := match xs.findIdx? p with | some i => (i : Int) | none => -1

set_option maxRecDepth 100000 in
set_option maxHeartbeats 1000000 in
theorem indexStr_any (xs : List (Nat × Nat × List Int)) (v : Value) (g : Nat) (lb : Array Value) (p : Nat × Nat × List Int → Bool) (w : World) (h : Strs w v xs)
    (eg : ∀ args w, (callFunc g args).run Tryz.prog w = .ok (.enter g args) w) (hp : ∀ W (x : Nat × Nat × List Int) a, x ∈ xs → Ext w W → Ints W a x.2.2 → Calls Tryz.prog g (#[.agg #[.int .i64 x.1, .int .i64 x.2.1, a]] ++ lb) W fun e W' => e = .returned (.bool (p x)) ∧ Ext W W') :
    Calls Tryz.prog 28 #[v, .func (.func g) #[] lb] w fun e w' => e = .returned (.int .i64 (idxStr p xs)) ∧ Ext w w' := by
  obtain ⟨a, c, rfl, h1, h2, -, hc⟩ := Strs.open h
  have HC := Lib.hid hc; have HPR := Lib.hid hp
  clear hc h hp
  unfold maxLen at h2
  go_enter Tryz.func28, Tryz.ntmps28
  go_wp2
  go_loopw [8] (fun t wr => ∃ pre rest, t = .int .i64 (pre.length : Nat) ∧ Ext w wr ∧ Hid (xs = pre ++ rest) ∧ Hid (∀ x ∈ pre, p x = false)) (fun t _ => xs.length - (intOf t).toNat)
  case atStart => exact ⟨[], xs, rfl, Ext.refl _, rfl, by intro x hx; simp at hx⟩
  case round =>
    obtain ⟨pre, rest, rfl, hE, HP, HA⟩ := hrel
    obtain ⟨wo, rfl⟩ : ∃ wo : World, wo = wr := ⟨_, rfl⟩
    have hlen : xs.length = pre.length + rest.length := by rw [HP.out]; simp
    cases rest with
    | nil =>
      have : ¬ (pre.length < xs.length) := by simp at hlen; omega
      clear hlen
      go_wp2
      go_ret
      have : idxStr p xs = -1 := by
        have : xs.findIdx? p = none := by rw [HP.out, List.append_nil, List.findIdx?_eq_none_iff]; exact HA.out
        unfold idxStr; rw [this]
      rw [this]
      exact ⟨rfl, hE⟩
    | cons x rest =>
      have hlt : pre.length < xs.length := by simp at hlen; omega
      clear hlen
      obtain ⟨b, off, rfl, hb, hcell⟩ := HC.out (by rw [HP.out]; simp)
      obtain ⟨vx, hvx, hc0, hc1, hc2⟩ := hcell pre.length x (by rw [HP.out]; simp)
      have g0 := hE.cell hc0; have g1 := hE.cell hc1; have g2 := hE.cell hc2
      have hcall := HPR.out wo x vx (by rw [HP.out]; simp) hE (hvx.ext hE)
      obtain ⟨ax, cx, rfl, -⟩ := hvx.open
      clear hcell hvx hc0 hc1 hc2
      cases hq : p x with
      | true =>
        have HRR : Hid (idxStr p xs = pre.length) := by
          unfold Hid idxStr
          rw [HP.out, List.findIdx?_append, (List.findIdx?_eq_none_iff (xs := pre)).2 HA.out, List.findIdx?_cons, hq]
          simp
        rw [hq] at hcall
        have HCALL := Lib.hid hcall
        clear hcall hq
        go_wp2_with (go_at_fn g; refine HCALL.out.mono ?_; rintro e w' ⟨rfl, hE'⟩)
        go_ret
        rw [HRR.out]
        exact ⟨rfl, hE.trans (by assumption)⟩
      | false =>
        have HA' : Hid (∀ y ∈ pre ++ [x], p y = false) := by
          intro y hy
          rcases List.mem_append.1 hy with hy | hy
          · exact HA.out y hy
          · rw [List.mem_singleton.1 hy]; exact hq
        rw [hq] at hcall
        have HCALL := Lib.hid hcall
        clear hcall hq
        go_wp2_with (go_at_fn g; refine HCALL.out.mono ?_; rintro e w' ⟨rfl, hE'⟩)
        go_roundw
        case rel => exact ⟨pre ++ [x], rest, by simp, hE.trans (by assumption), by unfold Hid; rw [HP.out]; simp, HA'⟩
        case measure => simp [intOf]; omega

set_option maxRecDepth 100000 in
set_option maxHeartbeats 1000000 in
/-- out: whether an interval is tempered out. -/
theorem out51_any (n F : Nat) (P : List Int) (C M : List (List Int)) (x : List Int) (g : Nat) (a b c vx : Value) (w : World) (hB : w.heap[g]? = some (.cells #[a, b, c] 58 (0, 0))) (hV : TempV w (.agg #[a, b, c]) P C M) (hx : Ints w vx x) (hR : RightT n F P C M) (hE : allE n [x] = 0) (hlib : LibT w) (hp : 2 < w.heap.size) :
    Calls Tryz.prog 26 #[vx, .pointer (some ⟨g, 0, none⟩)] w fun e w' => e = .returned (.bool (outB M n x)) ∧ Ext w w' := by
  have HTO := Lib.hid (tempersOut_any n F P C M x _ vx w hV hx hR hE hlib hp)
  obtain ⟨b0, b1, b2, -⟩ := tp_block hB
  obtain ⟨p, q, r, hpq, h1, h2, h3⟩ := hV
  simp only [Value.agg.injEq, Array.mk.injEq, List.cons.injEq, and_true] at hpq
  obtain ⟨rfl, rfl, rfl⟩ := hpq
  obtain ⟨a1, c1, rfl, -⟩ := h1.open
  obtain ⟨a2, c2, rfl, -⟩ := inCell.open h2
  obtain ⟨a3, c3, rfl, -⟩ := inCell.open h3
  obtain ⟨ax, cx, rfl, -⟩ := hx.open
  obtain ⟨q, hq⟩ : ∃ q, outB M n x = q := ⟨_, rfl⟩
  rw [show (!((temL M x n).any (· != 0))) = q from hq] at HTO
  rw [hq]
  clear hB h1 h2 h3 hx hR hE hlib hp hq
  go_enter Tryz.func26, Tryz.ntmps26
  go_wp2_with fail
  refine HTO.out.mono ?_
  rintro e w1 ⟨rfl, hE1⟩
  have HE1 := Lib.hid hE1
  clear hE1 HTO b0 b1 b2
  cases q with
  | true =>
    go_wp2_with fail
    go_ret
    exact ⟨rfl, HE1.out⟩
  | false =>
    go_wp2_with fail
    go_ret
    exact ⟨rfl, HE1.out⟩

set_option maxRecDepth 100000 in
set_option maxHeartbeats 1000000 in
/-- The predicate of a strain that is not tempered out. -/
theorem notOut51_any (M : List (List Int)) (n : Nat) (x : Nat × Nat × List Int) (g16 g8 : Nat) (vx : Value) (w : World) (hx : Ints w vx x.2.2) (hf : w.cell? ⟨g16, 0, none⟩ = some (.func (.func 26) #[] #[.pointer (some ⟨g8, 0, none⟩)]))
    (hc : ∀ W, Ext w W → Calls Tryz.prog 26 #[vx, .pointer (some ⟨g8, 0, none⟩)] W fun e w' => e = .returned (.bool (outB M n x.2.2)) ∧ Ext W w') :
    Calls Tryz.prog 30 #[.agg #[.int .i64 x.1, .int .i64 x.2.1, vx], .pointer (some ⟨g16, 0, none⟩)] w fun e w' => e = .returned (.bool (!outB M n x.2.2)) ∧ Ext w w' := by
  have eg : ∀ args w, (callFunc 26 args).run Tryz.prog w = .ok (.enter 26 args) w := enters_of Tryz.func26 (by kernel_rfl) rfl
  have HC := Lib.hid hc
  obtain ⟨ax, cx, rfl, -⟩ := hx.open
  obtain ⟨W3, hW3, hE3, hsz3, q0, q1, q2⟩ := box_three w (.int .i64 x.1) (.int .i64 x.2.1) (.slice ax x.2.2.length cx) 82
  have k0 := hE3.cell hf
  have HE3 := Lib.hid hE3
  have HC3 := Lib.hid (HC.out _ hE3)
  obtain ⟨q, hq⟩ : ∃ q, outB M n x.2.2 = q := ⟨_, rfl⟩
  rw [hq] at HC3 ⊢
  clear hc hx hf hE3 hq HC
  go_enter Tryz.func30, Tryz.ntmps30
  go_wp2_with fail
  clear hW3
  refine HC3.out.mono ?_
  rintro e w1 ⟨rfl, hE1⟩
  have HE1 := Lib.hid (HE3.out.trans hE1)
  clear hE1 HC3 k0 q0 q1 q2
  go_wp2_with fail
  go_ret
  exact ⟨rfl, HE1.out⟩
end Go.Proofs.YtjihfabhgcfjnaaGreatDoor
/- Contracts of generic functions of package slices at []int. -/
namespace Go.Proofs.YtjihfabhgcfjnaaGreatDoor
set_option linter.unusedVariables false
set_option linter.unusedSimpArgs false
open Go.RowKit


set_option maxHeartbeats 400000 in
/-- slices.Equal. -/
theorem equalInts5_any (xs ys : List Int) (u v : Value) (w : World) (h : Ints w u xs) (k : Ints w v ys) :
    Calls Tryz.prog 32 #[u, v] w fun e w' => e = .returned (.bool (xs == ys)) ∧ Ext w w' := by
  obtain ⟨a, c, rfl, h1, h2, -, hxb, hc⟩ := h.open
  obtain ⟨a', c', rfl, k1, k2, -, hyb, kc⟩ := k.open
  have HC := Lib.hid hc; have KC := Lib.hid kc
  clear hc kc h k hxb hyb
  unfold maxLen at h2 k2
  by_cases hl : xs.length = ys.length
  · have hn : ((xs.length : Int) != (ys.length : Int)) = false := by simp [hl]
    have hle1 : xs.length ≤ ys.length := by omega
    have hle2 : ys.length ≤ xs.length := by omega
    have HL := Lib.hid hl
    clear hl
    go_enter Tryz.func32, Tryz.ntmps32
    go_wp2
    go_loopw [13] (fun t wr => ∃ j : Nat, j ≤ xs.length ∧ t = .int .i64 j ∧ Ext w wr ∧ Hid (xs.take j = ys.take j)) (fun t _ => xs.length - (intOf t).toNat)
    case atStart => exact ⟨0, by omega, rfl, Ext.refl _, rfl⟩
    case round =>
      obtain ⟨j, hj, rfl, hE, HT⟩ := hrel
      by_cases hlt : j < xs.length
      · obtain ⟨b, off, rfl, hb, hcell⟩ := HC.out (by intro e; simp [e] at hlt)
        obtain ⟨b', off', rfl, hb', hcell'⟩ := KC.out (by intro e; simp [e] at hle1; simp [hle1] at hlt)
        obtain ⟨x, hx⟩ : ∃ x, xs[j]? = some x := ⟨xs[j], List.getElem?_eq_getElem hlt⟩
        obtain ⟨y, hy⟩ : ∃ y, ys[j]? = some y := ⟨ys[j]'(by omega), List.getElem?_eq_getElem _⟩
        have g1 := hE.cell (hcell j x hx)
        have g2 := hE.cell (hcell' j y hy)
        have q1 : (j : Int) < (xs.length : Int) := by omega
        have q2 : (j : Int) < (ys.length : Int) := by omega
        have HX := Lib.hid hx; have HY := Lib.hid hy
        clear hcell hcell' hx hy
        by_cases hxy : x = y
        · have hb : (x != y) = false := by simp [hxy]
          have HT' : Hid (xs.take (j + 1) = ys.take (j + 1)) := by
            unfold Hid; rw [List.take_add_one, List.take_add_one, HX.out, HY.out, HT.out, hxy]
          clear hxy
          go_wp2
          go_quiet (fail)
          go_wp2
          go_roundw
          case rel => exact ⟨j + 1, by omega, by go_num, Ext.draws hE _, HT'⟩
          case measure => simp [intOf]; omega
        · have hb : (x != y) = true := by simp [hxy]
          have HF : Hid ((xs == ys) = false) := by
            unfold Hid
            rw [beq_eq_false_iff_ne]
            intro e
            have e1 := HX.out; have e2 := HY.out
            rw [e, e2] at e1
            exact hxy (by simpa using e1.symm)
          clear hxy
          go_wp2
          go_quiet (fail)
          go_wp2
          go_ret
          rw [HF.out]
          exact ⟨rfl, Ext.draws hE _⟩
      · have hge : xs.length ≤ j := by omega
        have HTr : Hid ((xs == ys) = true) := by
          unfold Hid
          have e := HT.out
          rw [List.take_of_length_le (by omega), List.take_of_length_le (by omega)] at e
          simp [e]
        go_wp2
        go_ret
        rw [HTr.out]
        exact ⟨rfl, hE⟩
  · have hn : ((xs.length : Int) != (ys.length : Int)) = true := by simp; omega
    have HF : Hid ((xs == ys) = false) := by
      unfold Hid
      rw [beq_eq_false_iff_ne]
      intro e
      exact hl (by rw [e])
    clear hl
    go_enter Tryz.func32, Tryz.ntmps32
    go_wp2
    go_ret
    rw [HF.out]
    exact ⟨rfl, Ext.refl _⟩

end Go.Proofs.YtjihfabhgcfjnaaGreatDoor
/- Links written out, safe from what is appended elsewhere. -/
namespace Go.Proofs.YtjihfabhgcfjnaaGreatDoor
set_option linter.unusedVariables false
set_option linter.unusedSimpArgs false
open Go.RowKit
end Go.Proofs.YtjihfabhgcfjnaaGreatDoor
/- A value of a type made of integers alone (structs and arrays of them): each cell is an integer of its kind. No program is named here. -/
namespace Go.Proofs.YtjihfabhgcfjnaaGreatDoor
set_option linter.unusedVariables false
set_option linter.unusedSimpArgs false
open Go.ChangeShapes Go.WideShapes Go.ChangeAt Go.RowKit

/-- The kind of cell j of a type: an integer kind. -/
def cellKind (P : Program) : Nat → TypeId → Nat → Option IntKind
  | 0, _, _ => none
  | fuel + 1, t, j => match P.underlying t with
    | some (.int k) => if j = 0 then some k else none
    | some (.struct fs) => (fs.toList.find? fun f => decide (f.offset ≤ j) && decide (j < f.offset + P.cellsOf f.type)).bind fun f => cellKind P fuel f.type (j - f.offset)
    | some (.array n e) => if j / P.cellsOf e < n then cellKind P fuel e (j % P.cellsOf e) else none
    | _ => none

theorem flat_cells {H : Type} {enc : TypeId × Value → H} {P : Program} {w : World} {base : Nat} {spare : Nat → Bool} {held : Bool} : ∀ (fuel : Nat) (t : TypeId) (j : Nat) (k : IntKind) (m : Nat) (cs : List Value) (x : DataW H × List MemPlace),
    cellKind P fuel t j = some k → DataW.trod enc P w base spare held m t cs = some x → ∃ n, cs[j]? = some (.int k n) ∧ (Lit.int k n).wf = true
  | 0, _, _, _, _, _, _, h, _ => by simp [cellKind] at h
  | fuel + 1, t, j, k, m, cs, x, h, hx => by
    unfold cellKind at h
    split at h
    · rename_i k' ht
      split at h
      · rename_i hj
        simp at h; subst h; subst hj
        obtain ⟨n, rfl, _, hw⟩ := DataW.trod_int ht hx
        exact ⟨n, rfl, hw⟩
      · simp at h
    · rename_i fs ht
      obtain ⟨f, hf, hk⟩ := Option.bind_eq_some_iff.1 h
      have hp := List.find?_some hf
      simp only [Bool.and_eq_true, decide_eq_true_eq] at hp
      obtain ⟨i, hi⟩ := List.getElem?_of_mem (List.mem_of_find?_eq_some hf)
      obtain ⟨xs, n, rfl, _, _, hl, hall⟩ := DataW.trod_struct ht hx
      have hi' : fs[i]? = some f := by simpa using hi
      have hr := hall i f hi'
      have hlt : i < xs.length := by rw [hl]; exact (Array.getElem?_eq_some_iff.1 hi').1
      rw [List.getElem?_eq_getElem hlt] at hr
      obtain ⟨n', hc, hw⟩ := flat_cells fuel f.type (j - f.offset) k n _ _ hk hr
      refine ⟨n', ?_, hw⟩
      rw [List.getElem?_take, if_pos (by omega), List.getElem?_drop] at hc
      rwa [show f.offset + (j - f.offset) = j by omega] at hc
    · rename_i n e ht
      split at h
      · rename_i hj
        obtain ⟨xs, q, rfl, _, _, hl, hall⟩ := DataW.trod_array ht hx
        have hr := hall (j / P.cellsOf e) hj
        have hlt : j / P.cellsOf e < xs.length := by omega
        rw [List.getElem?_eq_getElem hlt] at hr
        obtain ⟨n', hc, hw⟩ := flat_cells fuel e (j % P.cellsOf e) k q _ _ h hr
        refine ⟨n', ?_, hw⟩
        have hlt2 : j % P.cellsOf e < P.cellsOf e := by
          by_cases h0 : P.cellsOf e = 0
          · rw [h0] at hc
            simp at hc
          · exact Nat.mod_lt _ (by omega)
        rw [List.getElem?_take, if_pos hlt2, List.getElem?_drop] at hc
        rwa [show j / P.cellsOf e * P.cellsOf e + j % P.cellsOf e = j by rw [Nat.mul_comm]; exact Nat.div_add_mod _ _] at hc
      · simp at h
    · simp at h

end Go.Proofs.YtjihfabhgcfjnaaGreatDoor
/- Contract of Make: what a plan describes is a right walk. -/
namespace Go.Proofs.YtjihfabhgcfjnaaGreatDoor
set_option linter.unusedVariables false
set_option linter.unusedSimpArgs false
open Go.RowKit

theorem infoRows : (Tryz.prog.info? 28).map (fun i => (i.zero, i.size, i.bytes)) = some (some (.slice none 0 0), 1, 24) := by kernel_rfl
theorem infoLinks : (Tryz.prog.info? 112).map (fun i => (i.zero, i.size, i.bytes)) = some (some (.slice none 0 0), 1, 24) := by kernel_rfl
theorem infoLink : (Tryz.prog.info? 114).map (fun i => (i.zero, i.size, i.bytes)) = some (some (.agg #[.int .i64 0, .int .i64 0]), 2, 16) := by kernel_rfl

/-- The kinds of a plan's cells. -/
def planKinds : List IntKind := List.replicate 6 .u8 ++ List.replicate 45 .i8 ++ List.replicate 17 .u8
theorem planKinds_eq : (List.range 68).map (cellKind Tryz.prog 5 50) = planKinds.map some := by kernel_rfl
theorem planCells : Tryz.prog.cellsOf 50 = 68 := by kernel_rfl

/-- The cells of a plan. -/
def PlanAt (cs : Array Value) : Prop := cs.size = 68 ∧ ∀ (j : Nat) k, planKinds[j]? = some k → ∃ n, cs[j]? = some (.int k n) ∧ (Lit.int k n).wf = true

theorem PlanAt.u8 {cs : Array Value} (h : PlanAt cs) (j : Nat) (hj : planKinds[j]? = some .u8) : ∃ n, cs[j]? = some (.int .u8 n) ∧ 0 ≤ n ∧ n ≤ 255 := by
  obtain ⟨n, h1, h2⟩ := h.2 j _ hj
  exact ⟨n, h1, bounds_u8 h2⟩
theorem PlanAt.i8 {cs : Array Value} (h : PlanAt cs) (j : Nat) (hj : planKinds[j]? = some .i8) : ∃ n, cs[j]? = some (.int .i8 n) ∧ -128 ≤ n ∧ n ≤ 127 := by
  obtain ⟨n, h1, h2⟩ := h.2 j _ hj
  exact ⟨n, h1, bounds_i8 h2⟩
theorem kinds_u8 : ∀ j, j < 68 → (j < 6 ∨ 51 ≤ j) → planKinds[j]? = some .u8 := by decide +kernel
theorem kinds_i8 : ∀ j, j < 68 → 6 ≤ j → j < 51 → planKinds[j]? = some .i8 := by decide +kernel

/-- Chords of a plan: at most three notes of three small exponents. -/
def okChord (c : List (List Int)) : Prop := 1 ≤ c.length ∧ c.length ≤ 3 ∧ ∀ x ∈ c, x.length = 3 ∧ ∀ a ∈ x, -8 ≤ a ∧ a ≤ 8
def okLinks (chords : List (List (List Int))) (links : List (List (Int × Int))) : Prop :=
  ∀ (j : Nat) l, links[j]? = some l → 1 ≤ l.length ∧ l.length ≤ 2 ∧ ∃ c d, chords[j]? = some c ∧ chords[j + 1]? = some d ∧ ∀ x ∈ l, 0 ≤ x.1 ∧ x.1 < c.length ∧ 0 ≤ x.2 ∧ x.2 < d.length
/-- A walk of a plan. -/
structure PlanWk (k : Wk) : Prop where
  primes : k.primes = [2, 3, 5]
  chords : ∀ c ∈ k.chords, okChord c
  some : 1 ≤ k.chords.length
  few : k.chords.length ≤ 5
  len : k.links.length + 1 = k.chords.length
  links : okLinks k.chords k.links

theorem bit_u8 (M : Int) (i : Nat) (h1 : 0 ≤ M) (h2 : M ≤ 255) : ∃ b : Int, bits BinOp.and IntKind.u8 (M / 2 ^ i) 1 = b ∧ 0 ≤ b ∧ b ≤ 1 := by
  have h3 : 0 ≤ M / 2 ^ i := Int.ediv_nonneg h1 (Int.le_of_lt (Int.pow_pos (by omega)))
  have h4 : M / 2 ^ i ≤ M := Int.ediv_le_self _ h1
  refine ⟨_, u8_and (M / 2 ^ i) 1 h3 (by omega) (by omega) (by omega), by omega, ?_⟩
  have : (M / 2 ^ i).toNat &&& (1 : Int).toNat = (M / 2 ^ i).toNat % 2 := Nat.and_one_is_mod _
  rw [this]
  omega

theorem okLinks_more {chords : List (List (List Int))} {links : List (List (Int × Int))} (h : okLinks chords links) (c : List (List Int)) : okLinks (chords ++ [c]) links := by
  intro j l hl
  obtain ⟨h1, h2, c1, c2, h3, h4, h5⟩ := h j l hl
  exact ⟨h1, h2, c1, c2, by rw [List.getElem?_append_left (List.getElem?_eq_some_iff.1 h3).1]; exact h3, by rw [List.getElem?_append_left (List.getElem?_eq_some_iff.1 h4).1]; exact h4, h5⟩
theorem okLinks_snoc {chords : List (List (List Int))} {links : List (List (Int × Int))} (h : okLinks chords links) (l : List (Int × Int)) (h1 : 1 ≤ l.length) (h2 : l.length ≤ 2) (c d : List (List Int)) (hc : chords[links.length]? = some c) (hd : chords[links.length + 1]? = some d) (hl : ∀ x ∈ l, 0 ≤ x.1 ∧ x.1 < c.length ∧ 0 ≤ x.2 ∧ x.2 < d.length) : okLinks chords (links ++ [l]) := by
  intro j m hm
  by_cases hj : j < links.length
  · rw [List.getElem?_append_left hj] at hm; exact h j m hm
  · rw [List.getElem?_append_right (by omega)] at hm
    have e : j - links.length = 0 := by have := (List.getElem?_eq_some_iff.1 hm).1; simp at this; omega
    rw [e] at hm
    simp at hm; subst hm
    obtain rfl : j = links.length := by omega
    exact ⟨h1, h2, c, d, hc, hd, hl⟩

end Go.Proofs.YtjihfabhgcfjnaaGreatDoor
/- append: the cells that the slice held stay as they were. No program is named here. -/
namespace Go.Proofs.YtjihfabhgcfjnaaGreatDoor
set_option linter.unusedVariables false
set_option linter.unusedSimpArgs false
open Go.RowKit

theorem run_append_keeps {P : Program} {w w' : World} {v' : Value} (base : Nat) (t ty e : TypeId) (i : TypeInfo) (z : Value) (size bytes : Nat) (ht : P.underlying t = some (.slice e)) (hi : P.info? e = some i) (hz : i.zero = some z)
    (hsize : i.size = size) (hby : i.bytes = bytes)
    (g n cap : Nat) (xs : List Value) (hown : w.ownsRow base e size (.slice (some ⟨g, 0, none⟩) n cap) n xs)
    (a : Addr) (m c : Nat) (news : List Value) (hl : news.length = m * size) (hnews : ∀ j u, news[j]? = some u → w.cell? (a.add j) = some u) (h1 : ∀ u ∈ news, u.oneCell' = true)
    (h63 : n + m ≤ maxLen) (hbytes : (n + m) * bytes ≤ 140737488355328) (hr : (Builtin.append_ #[t, t] ty #[.slice (some ⟨g, 0, none⟩) n cap, .slice (some a) m c]).run P w = .ok v' w') :
    ∀ (j : Nat) u, xs[j]? = some u → w'.cell? ⟨g, j, none⟩ = some u := by
  have hadd : ∀ j, (⟨g, 0, none⟩ : Addr).add j = ⟨g, j, none⟩ := by intro j; unfold Addr.add; split <;> simp_all
  intro j u hu
  by_cases hroom : n + m ≤ cap
  · obtain ⟨w2, hr2, hown2, -⟩ := run_append_own_spare (P := P) w base t ty e i size ht hi hsize g n cap xs hown a m c news hl hnews h1 hroom
    rw [hr2] at hr
    cases hr
    have := hown2.cells (g := g) rfl j u (by rw [List.getElem?_append_left (List.getElem?_eq_some_iff.1 hu).1]; exact hu)
    rwa [hadd] at this
  · subst hsize
    subst hby
    have hsmall : n + m ≤ 9223372036854775807 := by simp only [maxLen] at h63; omega
    have holds : ∀ j u, xs[j]? = some u → w.cell? ((⟨g, 0, none⟩ : Addr).add j) = some u := hown.cells (g := g) rfl
    have hr2 := run_append_grow (P := P) w t ty e i z ht hi hz ⟨g, 0, none⟩ n cap xs hown.1 holds a m c news hl hnews (by omega) (by omega) (growslice_fits (by omega) hbytes)
    rw [hr2] at hr
    cases hr
    have := holds j u hu
    rw [hadd] at this
    exact Ext.cell ((Ext.drew w).trans (Ext.alloc w.drew _)) this

/-- A step of a region that draws its order; what the slice held stays. -/
theorem step_append_keep {P : Program} {α : Type} (w : World) {ops : Array Oper} {o : Oper} {a : Act} {K : Act → World → Prop} {Q : Exit → Act → World → Prop} {E : Prop} (hgd : o.guard = none)
    (s x : Operand) (t : TypeId) (ho : o.op = Op.call { callee := Callee.builtin Builtin.append, args := #[s, x], argTypes := #[t, t] }) (base : Nat) (e : TypeId) (z : Value) (k bytes : Nat)
    (ht : P.underlying t = some (TypeDesc.slice e)) (hinfo : (P.info? e).map (fun i => (i.zero, i.size, i.bytes)) = some (some z, k, bytes)) (hzs : z.cells.size = k) (hk : 0 < k)
    (v : Value) (R : World → List Value → α → Prop) (xs : List α) (y : α) (u : Array Value) (T : TypeId) (hs : a.eval s = v) (hB : Build w base e k v R xs)
    (hx : a.eval x = .slice (some ⟨w.heap.size, 0, none⟩) 1 1) (hu : u.size = k) (h1 : ∀ z ∈ u.toList, z.oneCell' = true) (hR : Safe w v.ownBlock fun w => R w u.toList y)
    (hlen : xs.length < 1000000) (hbytes : bytes ≤ 1000) (hbase : base ≤ w.heap.size)
    (h : ∀ v' w', Build w' base e k v' R (xs ++ [y]) → w.grownBy w' v.ownBlock → Below base w w' → w.heap.size < w'.heap.size → (∀ (g cap : Nat), v = .slice (some ⟨g, 0, none⟩) xs.length cap → ∀ (j : Nat) u, j < xs.length * k → w.cell? ⟨g, j, none⟩ = some u → w'.cell? ⟨g, j, none⟩ = some u) → K (a.put o.dst v') w') :
    if Region.wanted o (yielded ops a.tmps) = true then Oper.wp P o a (w.alloc (.cells u T)) K Q else E := by
  have hw : Region.wanted o (yielded ops a.tmps) = true := by simp [Region.wanted, hgd]
  rw [if_pos hw]
  obtain ⟨i, hi, hz, hsize, hby⟩ := info_parts hinfo
  obtain ⟨us, b1, b2, b3, b4⟩ := hB
  have hadd : ∀ g j, (⟨g, 0, none⟩ : Addr).add j = ⟨g, j, none⟩ := by intro g j; unfold Addr.add; split <;> simp_all
  have hnews : ∀ (j : Nat) q, u.toList[j]? = some q → (w.alloc (.cells u T)).cell? ((⟨w.heap.size, 0, none⟩ : Addr).add j) = some q := by
    intro j q hq
    rw [hadd, World.cell?_alloc_new]
    simpa using hq
  have hm1 : xs.length + 1 ≤ maxLen := by unfold maxLen; omega
  have hm2 : (xs.length + 1) * bytes ≤ 140737488355328 := by
    have : (xs.length + 1) * bytes ≤ 1000000 * 1000 := Nat.mul_le_mul (by omega) hbytes
    omega
  have hown0 : (w.alloc (.cells u T)).ownsRow base e k v xs.length us.flatten := b3.alloc _
  obtain ⟨v', w', hr, hown, hgrow, _, hat⟩ := run_append_own_at (P := P) (w.alloc (.cells u T)) base t o.type e i z k bytes ht hi hz hsize hby hzs hk v xs.length us.flatten hown0 ⟨w.heap.size, 0, none⟩ 1 1 u.toList (by simp [hu]) hnews h1 hm1 hm2 (by simp; omega)
  have hgw : w.grownBy w' v.ownBlock := grown_trans (World.grownBy_alloc w _ v.ownBlock) hgrow
  have safe : ∀ Pr : World → Prop, Safe w v.ownBlock Pr → Safe w' v'.ownBlock Pr := fun Pr hP => Safe.append (Safe.ext hP (Ext.alloc w (.cells u T))) hgrow hat
  have hkeep : ∀ (g cap : Nat), v = .slice (some ⟨g, 0, none⟩) xs.length cap → ∀ (j : Nat) u, j < xs.length * k → w.cell? ⟨g, j, none⟩ = some u → w'.cell? ⟨g, j, none⟩ = some u := by
    intro g cap hv j q hj hc
    subst hv
    have hl : us.flatten.length = xs.length * k := b3.1
    have hq : us.flatten[j]? = some us.flatten[j] := by simp [hl, hj]
    have h0 := b3.cells (g := g) rfl j _ hq
    rw [hadd, hc] at h0
    injection h0 with h0
    rw [h0]
    exact run_append_keeps base t o.type e i z k bytes ht hi hz hsize hby g xs.length cap us.flatten hown0 ⟨w.heap.size, 0, none⟩ 1 1 u.toList (by simp [hu]) hnews h1 hm1 hm2 hr j _ hq
  unfold Oper.wp execOp
  simp only [ho, resolve, invoke, builtin, Sem.run_bind, Sem.run_pure, Result.andThen_ok, List.map_toArray, List.map_cons, List.map_nil, hs, hx, hr]
  refine h v' w' ⟨us ++ [u.toList], by simp [b1], ?_, ?_, ?_⟩ hgw ?_ ?_ hkeep
  · intro q hq
    rcases List.mem_append.1 hq with hq | hq
    · exact b2 q hq
    · rw [List.mem_singleton.1 hq]; simpa using hu
  · rw [flatten_snoc]
    simpa using hown
  · intro j q y' hq hy
    by_cases hj : j < us.length
    · rw [List.getElem?_append_left hj] at hq
      rw [List.getElem?_append_left (by omega)] at hy
      exact safe _ (b4 j q y' hq hy)
    · rw [List.getElem?_append_right (by omega)] at hq
      rw [List.getElem?_append_right (by omega)] at hy
      have e1 : j - us.length = 0 := by
        have := (List.getElem?_eq_some_iff.1 hq).1
        simp at this; omega
      have e2 : j - xs.length = 0 := by omega
      rw [e1] at hq; rw [e2] at hy
      simp at hq hy
      subst hq; subst hy
      exact safe _ hR
  · refine ⟨hgw.os, hgw.tape, hgw.output, hgw.size, fun b hb => hgw.block b (by omega) ?_⟩
    intro e
    have := (b3.lt b e.symm).1
    omega
  · have := hgrow.size
    simp at this
    omega
end Go.Proofs.YtjihfabhgcfjnaaGreatDoor
