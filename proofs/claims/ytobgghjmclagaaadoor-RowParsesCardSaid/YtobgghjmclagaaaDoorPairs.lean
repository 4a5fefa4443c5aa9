/- row.pairs: the iterator over the elements of two rows, as a contract. -/
import Derived.RangeFuncNested
import Derived.RangeFuncBound
import Derived.RangeFuncCalls
import Derived.RangeFuncLeaves
import Derived.Shelf.Abstract
import Derived.Shelf.RegionOpen
import Derived.WalkKit
import Derived.OwnWalkIn
import Derived.TacticsInMore
import Derived.LoopNIn
import Derived.LoopIn
import Derived.RangeFuncBox
import Derived.Test.YtobgghjmclagaaaDoorRowA
namespace Go.Proofs.YtobgghjmclagaaaDoor
set_option linter.unusedVariables false
set_option linter.unusedSimpArgs false
open Go.RowKit Go.Shelf
attribute [local go_sem] Oper.semAt_some

/-- What lay below n₀ lies as it lay, and so do the two boxes. -/
def PairK (n₀ B1 B2 : Nat) (W W' : World) : Prop := Below n₀ W W' ∧ (∀ v, Boxed W B1 23 v → Boxed W' B1 23 v) ∧ (∀ v, Boxed W B2 23 v → Boxed W' B2 23 v)
theorem PairK.refl (n₀ B1 B2 : Nat) (W : World) : PairK n₀ B1 B2 W W := ⟨Below.refl _ _, fun _ h => h, fun _ h => h⟩
theorem PairK.trans {n₀ B1 B2 : Nat} {A B C : World} (h : PairK n₀ B1 B2 A B) (k : PairK n₀ B1 B2 B C) : PairK n₀ B1 B2 A C := ⟨Below.trans h.1 k.1, fun v hv => k.2.1 v (h.2.1 v hv), fun v hv => k.2.2 v (h.2.2 v hv)⟩
def pairEnc {len : Nat} (xs ys : List Int) (x : Fin len) : Array Value := #[.int .i64 (xs[x.val]?.getD 0), .int .i64 (ys[x.val]?.getD 0)]
def fsts (len k : Nat) : List (Fin len) := (List.finRange len).take k
theorem fsts_length {len k : Nat} (h : k ≤ len) : (fsts len k).length = k := by simp [fsts]; omega
theorem fsts_succ (len k : Nat) (h : k < len) : fsts len k ++ [⟨k, h⟩] = fsts len (k + 1) := by
  unfold fsts
  rw [List.take_add_one]
  congr 1
  rw [List.getElem?_eq_getElem (by simpa using h)]
  simp

set_option maxRecDepth 100000 in
set_option maxHeartbeats 2000000 in
/-- pairs' closure, for every loop body that keeps what lay below n₀ and the boxes. -/
theorem pairs1_in (F : Fence) (n : Nat) (hF : F.fn 82) (hro : F.round = none) (hn : 1 ≤ n) (l B1 B2 n₀ len ca cb : Nat) (a b : Option Addr) (xs ys : List Int) (hx : xs.length = len) (hy : ys.length = len) (hlen : len ≤ 1000000) (hca : len ≤ ca) (hca2 : ca ≤ maxLen) (hcb : len ≤ cb) (hcb2 : cb ≤ maxLen) (J Jx : List (Fin len) → World → Prop)
    (hY : ∀ pre x W, J pre W → pre.length < len → YieldAt F (n - 1) Tryd.prog l (pairEnc xs ys x) W fun e W' =>
      (e = .returned (.bool true) ∧ J (pre ++ [x]) W' ∧ PairK n₀ B1 B2 W W') ∨ (e = .returned (.bool false) ∧ Jx (pre ++ [x]) W'))
    (W : World) (h1 : Boxed W B1 23 (.slice a len ca)) (h2 : Boxed W B2 23 (.slice b len cb))
    (hxc : 0 < len → ∃ bb off, a = some ⟨bb, off, none⟩ ∧ bb < n₀ ∧ ∀ (j : Nat) x, xs[j]? = some x → W.cell? ⟨bb, off + j, none⟩ = some (.int .i64 x))
    (hyc : 0 < len → ∃ bb off, b = some ⟨bb, off, none⟩ ∧ bb < n₀ ∧ ∀ (j : Nat) x, ys[j]? = some x → W.cell? ⟨bb, off + j, none⟩ = some (.int .i64 x)) (h0 : J [] W) :
    CallsIn F n Tryd.prog 82 #[.func (.yield l) #[] #[], .pointer (some ⟨B1, 0, none⟩), .pointer (some ⟨B2, 0, none⟩)] W fun e W' => (∃ v, e = .returned v) ∧
      ((∃ zs, zs = fsts len len ∧ J zs W') ∨ (∃ pre, (∃ k, pre = fsts len k) ∧ Jx pre W')) := by
  unfold maxLen at hca2 hcb2
  refine callsIn_of_wp Tryd.func82 rfl hF ?_ hro
  simp only [Tryd.ntmps82, List.size_toArray, List.length_cons, List.length_nil, Nat.reduceAdd, Nat.reduceSub, Array.replicate_succ, Array.replicate_zero, List.push_toArray, List.append_toArray, List.nil_append, List.cons_append]
  have HXC := Lib.hid hxc; have HYC := Lib.hid hyc
  have c1 := h1.cell
  have H1 := Lib.hid h1; have H2 := Lib.hid h2
  have HX := Lib.hid hx; have HY := Lib.hid hy
  clear hxc hyc h1 h2 hx hy
  gi_wp2
  clear c1
  gi_loopw [8] (fun i wr => ∃ r : Nat, r ≤ len ∧ i = .int .i64 r ∧ J (fsts len r) wr ∧ PairK n₀ B1 B2 W wr) (fun i _ => len - (intOf i).toNat)
  case atStart => exact ⟨0, Nat.zero_le _, rfl, h0, PairK.refl _ _ _ _⟩
  case round =>
    obtain ⟨r, hr, rfl, hJ, hK⟩ := hrel
    by_cases hlt : r < len
    · obtain ⟨bb, off, rfl, hb, hcell⟩ := HXC.out (by omega)
      obtain ⟨bb2, off2, rfl, hb2, hcell2⟩ := HYC.out (by omega)
      obtain ⟨x, hx⟩ : ∃ x, xs[r]? = some x := ⟨xs[r]'(by have := HX.out; omega), List.getElem?_eq_getElem _⟩
      obtain ⟨y, hy⟩ : ∃ y, ys[r]? = some y := ⟨ys[r]'(by have := HY.out; omega), List.getElem?_eq_getElem _⟩
      obtain ⟨fn, tmps, assign, body, hyy, hR⟩ := hY _ ⟨r, hlt⟩ wr hJ (by rw [fsts_length (by omega)]; exact hlt)
      have e1 := (hK.1.cell (p := ⟨bb, off + r, none⟩) hb).trans (hcell r x hx)
      have e2 := (hK.1.cell (p := ⟨bb2, off2 + r, none⟩) hb2).trans (hcell2 r y hy)
      have e3 := (hK.2.1 _ H1.out).cell
      have e4 := (hK.2.2 _ H2.out).cell
      have p2 : (0 : Int) ≤ (r : Int) := by omega
      have p3 : (r : Int) < (len : Int) := by omega
      simp only [pairEnc, hx, hy, Option.getD_some] at hyy
      have hbs : fsts len r ++ [⟨r, hlt⟩] = fsts len (r + 1) := fsts_succ len r hlt
      rw [hbs] at hR
      have p4 : IntKind.i64.wrap ((r : Int) + 1) = (r : Int) + 1 := by rw [IntKind.wrap_i64]; omega
      clear hcell hcell2 hx hy hbs
      gi_wp2
      refine hR.mono ?_
      rintro e W3 (⟨rfl, hJ3, hk3⟩ | ⟨rfl, hJx3⟩)
      · gi_wp2
        go_roundw
        case rel => exact ⟨r + 1, by omega, by first | rfl | go_num, hJ3, hK.trans hk3⟩
        case measure => simp [intOf] <;> omega
      · gi_wp2
        refine bodyPost_ret (results_none rfl _ _ _) rfl ?_
        exact ⟨⟨_, rfl⟩, .inr ⟨_, ⟨r + 1, rfl⟩, hJx3⟩⟩
    · obtain rfl : r = len := by omega
      gi_wp2
      go_end0
      exact ⟨⟨_, rfl⟩, .inl ⟨_, rfl, hJ⟩⟩

theorem pairs_stops (F : Fence) (n : Nat) (hF : F.fn 82) (hro : F.round = none) (hn : 1 ≤ n) (B1 B2 n₀ len ca cb : Nat) (a b : Option Addr) (xs ys : List Int) (hx : xs.length = len) (hy : ys.length = len) (hlen : len ≤ 1000000) (hca : len ≤ ca) (hca2 : ca ≤ maxLen) (hcb : len ≤ cb) (hcb2 : cb ≤ maxLen)
    (w : World) (h1 : Boxed w B1 23 (.slice a len ca)) (h2 : Boxed w B2 23 (.slice b len cb))
    (hxc : 0 < len → ∃ bb off, a = some ⟨bb, off, none⟩ ∧ bb < n₀ ∧ ∀ (j : Nat) x, xs[j]? = some x → w.cell? ⟨bb, off + j, none⟩ = some (.int .i64 x))
    (hyc : 0 < len → ∃ bb off, b = some ⟨bb, off, none⟩ ∧ bb < n₀ ∧ ∀ (j : Nat) x, ys[j]? = some x → w.cell? ⟨bb, off + j, none⟩ = some (.int .i64 x)) :
    SeqStopsK F n Tryd.prog 82 #[.pointer (some ⟨B1, 0, none⟩), .pointer (some ⟨B2, 0, none⟩)] (pairEnc (len := len) xs ys) (PairK n₀ B1 B2) (fun zs => zs = fsts len len) (fun pre => ∃ k, pre = fsts len k) len w := fun l J Jx W hW _ _ hY h0 =>
  pairs1_in F n hF hro hn l B1 B2 n₀ len ca cb a b xs ys hx hy hlen hca hca2 hcb hcb2 J Jx hY W ((hW.block B1 h1.lt).trans h1) ((hW.block B2 h2.lt).trans h2)
    (fun h => by
      obtain ⟨bb, off, h1, h2, h3⟩ := hxc h
      exact ⟨bb, off, h1, h2, fun j u hu => Ext.cell hW (h3 j u hu)⟩)
    (fun h => by
      obtain ⟨bb, off, h1, h2, h3⟩ := hyc h
      exact ⟨bb, off, h1, h2, fun j u hu => Ext.cell hW (h3 j u hu)⟩) h0

theorem pairs_any (u v : Value) (a b : Option Addr) (n ca m cb : Nat) (hu : u = .slice a n ca) (hv : v = .slice b m cb) (w : World) :
    Calls Tryd.prog 61 #[u, v] w fun e w' => e = .returned (.func (.func 82) #[] #[.pointer (some ⟨w.heap.size, 0, none⟩), .pointer (some ⟨w.heap.size + 1, 0, none⟩)]) ∧ w' = (w.alloc (.cells #[u] 23)).alloc (.cells #[v] 23) := by
  subst hu; subst hv
  go_enter Tryd.func61, Tryd.ntmps61
  go_wp2
  go_ret
  exact ⟨rfl, rfl⟩
end Go.Proofs.YtobgghjmclagaaaDoor
