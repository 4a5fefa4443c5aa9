/- Merged: RowAdd. -/
import Derived.Test.YtehknemdfbkimaaGreatDoorQAJ
import Derived.Test.YtehknemdfbkimaaGreatDoorQAC
import Derived.RangeFuncNested
import Derived.RangeFuncBound
import Derived.RangeFuncCalls
import Derived.RangeFuncLeaves
import Derived.Shelf.Abstract
import Derived.Shelf.RegionOpen
import Derived.WalkKit
import Derived.OwnWalkIn
import Derived.TacticsInMore
import Derived.LoopNIn
import Derived.LoopIn
import Derived.RangeFuncBox
import Derived.Maps.AppendAt
import Derived.Laws.AppendOwn
/- Contract of package row: Add, for cuts with RowA1. Printed by gen/rowadd.py. -/
namespace Go.Proofs.YtehknemdfbkimaaGreatDoor
set_option linter.unusedVariables false
set_option linter.unusedSimpArgs false
open Go.RowKit Go.Shelf
attribute [local go_sem] Oper.semAt_some

def rbothE (a b : List Int) : Int := if rowE a = 0 then (if rowE b = 0 then (if a.length = b.length then 0 else 5) else rowE b) else rowE a
theorem rboth_any (xs ys : List Int) (u v : Value) (w : World) (h : Ints w u xs) (k : Ints w v ys) :
    Calls Tryz.prog 124 #[u, v] w fun e w' => e = .returned (.int .i64 (rbothE xs ys)) ∧ Ext w w' := by
  obtain ⟨a, c, rfl, -, -, -, -, -⟩ := h.open
  obtain ⟨a', c', rfl, -, -, -, -, -⟩ := k.open
  have H1 := Lib.hid (rowCheck_any xs _ w h)
  have H2 := Lib.hid (fun W' he => rowCheck_any ys _ W' (k.ext (w' := W') he))
  clear h k
  by_cases h1 : rowE xs = 0
  · rw [h1] at H1
    by_cases h2 : rowE ys = 0
    · by_cases h3 : xs.length = ys.length
      · have HQ : Hid (rbothE xs ys = 0) := by unfold Hid rbothE; rw [if_pos h1, if_pos h2, if_pos h3]
        rw [h2] at H2
        have hb : ((xs.length : Int) != (ys.length : Int)) = false := by simp [h3]
        clear h1 h2 h3
        go_enter Tryz.func124, Tryz.ntmps124
        go_wp2_with fail
        refine H1.out.mono ?_
        rintro e w1 ⟨rfl, hE1⟩
        have H3 := Lib.hid (H2.out w1 hE1)
        have HE1 := Lib.hid hE1
        clear H1 H2 hE1
        go_wp2_with fail
        refine H3.out.mono ?_
        rintro e w2 ⟨rfl, hE2⟩
        have HE2 := Lib.hid (Ext.trans HE1.out hE2)
        clear hE2
        go_wp2_with fail
        go_ret
        exact ⟨by rw [HQ.out]; rfl, HE2.out⟩
      · have HQ : Hid (rbothE xs ys = 5) := by unfold Hid rbothE; rw [if_pos h1, if_pos h2, if_neg h3]
        rw [h2] at H2
        have hb : ((xs.length : Int) != (ys.length : Int)) = true := by simp; omega
        clear h1 h2 h3
        go_enter Tryz.func124, Tryz.ntmps124
        go_wp2_with fail
        refine H1.out.mono ?_
        rintro e w1 ⟨rfl, hE1⟩
        have H3 := Lib.hid (H2.out w1 hE1)
        have HE1 := Lib.hid hE1
        clear H1 H2 hE1
        go_wp2_with fail
        refine H3.out.mono ?_
        rintro e w2 ⟨rfl, hE2⟩
        have HE2 := Lib.hid (Ext.trans HE1.out hE2)
        clear hE2
        go_wp2_with fail
        go_ret
        exact ⟨by rw [HQ.out]; rfl, HE2.out⟩
    · have h4 : rowE ys = 4 := (rowE_four ys).resolve_left h2
      have HQ : Hid (rbothE xs ys = 4) := by unfold Hid rbothE; rw [if_pos h1, if_neg h2, h4]
      rw [h4] at H2
      clear h1 h2 h4
      go_enter Tryz.func124, Tryz.ntmps124
      go_wp2_with fail
      refine H1.out.mono ?_
      rintro e w1 ⟨rfl, hE1⟩
      have H3 := Lib.hid (H2.out w1 hE1)
      have HE1 := Lib.hid hE1
      clear H1 H2 hE1
      go_wp2_with fail
      refine H3.out.mono ?_
      rintro e w2 ⟨rfl, hE2⟩
      have HE2 := Lib.hid (Ext.trans HE1.out hE2)
      clear hE2
      go_wp2_with fail
      go_ret
      exact ⟨by rw [HQ.out]; rfl, HE2.out⟩
  · have h4 : rowE xs = 4 := (rowE_four xs).resolve_left h1
    have HQ : Hid (rbothE xs ys = 4) := by unfold Hid rbothE; rw [if_neg h1, h4]
    rw [h4] at H1
    clear h1 h4
    go_enter Tryz.func124, Tryz.ntmps124
    go_wp2_with fail
    refine H1.out.mono ?_
    rintro e w1 ⟨rfl, hE1⟩
    have HE1 := Lib.hid hE1
    clear H1 H2 hE1
    go_wp2_with fail
    go_ret
    exact ⟨by rw [HQ.out]; rfl, HE1.out⟩

/-- result: the row if it is right. -/
theorem rresult_any (xs : List Int) (v : Value) (w : World) (h : Ints w v xs) :
    Calls Tryz.prog 126 #[v] w fun e w' => ∃ r, e = .returned (.tuple #[r, .int .i64 (rowE xs)]) ∧ Ext w w' ∧ (rowE xs = 0 → r = v) ∧ (¬ rowE xs = 0 → r = .slice none 0 0) := by
  obtain ⟨a, c, rfl, -, -, -, -, -⟩ := h.open
  have H1 := Lib.hid (rowCheck_any xs _ w h)
  clear h
  by_cases h1 : rowE xs = 0
  · rw [h1] at H1 ⊢
    clear h1
    go_enter Tryz.func126, Tryz.ntmps126
    go_wp2_with fail
    refine H1.out.mono ?_
    rintro e w1 ⟨rfl, hE1⟩
    have HE1 := Lib.hid hE1
    clear H1 hE1
    go_wp2_with fail
    go_ret2
    exact ⟨_, rfl, HE1.out, fun _ => rfl, by simp⟩
  · have h4 : rowE xs = 4 := (rowE_four xs).resolve_left h1
    rw [h4] at H1 ⊢
    clear h1 h4
    go_enter Tryz.func126, Tryz.ntmps126
    go_wp2_with fail
    refine H1.out.mono ?_
    rintro e w1 ⟨rfl, hE1⟩
    have HE1 := Lib.hid hE1
    clear H1 hE1
    go_wp2_with fail
    go_ret2
    exact ⟨_, rfl, HE1.out, by simp, fun _ => rfl⟩

/-- What lay below n₀ lies as it lay, and so do the two boxes. -/
def PairK (n₀ B1 B2 : Nat) (W W' : World) : Prop := Below n₀ W W' ∧ (∀ v, Boxed W B1 39 v → Boxed W' B1 39 v) ∧ (∀ v, Boxed W B2 39 v → Boxed W' B2 39 v)
theorem PairK.refl (n₀ B1 B2 : Nat) (W : World) : PairK n₀ B1 B2 W W := ⟨Below.refl _ _, fun _ h => h, fun _ h => h⟩
theorem PairK.trans {n₀ B1 B2 : Nat} {A B C : World} (h : PairK n₀ B1 B2 A B) (k : PairK n₀ B1 B2 B C) : PairK n₀ B1 B2 A C := ⟨Below.trans h.1 k.1, fun v hv => k.2.1 v (h.2.1 v hv), fun v hv => k.2.2 v (h.2.2 v hv)⟩
def pairEnc {len : Nat} (xs ys : List Int) (x : Fin len) : Array Value := #[.int .i64 (xs[x.val]?.getD 0), .int .i64 (ys[x.val]?.getD 0)]
def fsts (len k : Nat) : List (Fin len) := (List.finRange len).take k
theorem fsts_length {len k : Nat} (h : k ≤ len) : (fsts len k).length = k := by simp [fsts]; omega
theorem fsts_succ (len k : Nat) (h : k < len) : fsts len k ++ [⟨k, h⟩] = fsts len (k + 1) := by
  unfold fsts
  rw [List.take_add_one]
  congr 1
  rw [List.getElem?_eq_getElem (by simpa using h)]
  simp

set_option maxRecDepth 100000 in
set_option maxHeartbeats 2000000 in
/-- pairs' closure, for every loop body that keeps what lay below n₀ and the boxes. -/
theorem pairs1_in (F : Fence) (n : Nat) (hF : F.fn 174) (hro : F.round = none) (hn : 1 ≤ n) (l B1 B2 n₀ len ca cb : Nat) (a b : Option Addr) (xs ys : List Int) (hx : xs.length = len) (hy : ys.length = len) (hlen : len ≤ 1000000) (hca : len ≤ ca) (hca2 : ca ≤ maxLen) (hcb : len ≤ cb) (hcb2 : cb ≤ maxLen) (J Jx : List (Fin len) → World → Prop)
    (hY : ∀ pre x W, J pre W → pre.length < len → YieldAt F (n - 1) Tryz.prog l (pairEnc xs ys x) W fun e W' =>
      (e = .returned (.bool true) ∧ J (pre ++ [x]) W' ∧ PairK n₀ B1 B2 W W') ∨ (e = .returned (.bool false) ∧ Jx (pre ++ [x]) W'))
    (W : World) (h1 : Boxed W B1 39 (.slice a len ca)) (h2 : Boxed W B2 39 (.slice b len cb))
    (hxc : 0 < len → ∃ bb off, a = some ⟨bb, off, none⟩ ∧ bb < n₀ ∧ ∀ (j : Nat) x, xs[j]? = some x → W.cell? ⟨bb, off + j, none⟩ = some (.int .i64 x))
    (hyc : 0 < len → ∃ bb off, b = some ⟨bb, off, none⟩ ∧ bb < n₀ ∧ ∀ (j : Nat) x, ys[j]? = some x → W.cell? ⟨bb, off + j, none⟩ = some (.int .i64 x)) (h0 : J [] W) :
    CallsIn F n Tryz.prog 174 #[.func (.yield l) #[] #[], .pointer (some ⟨B1, 0, none⟩), .pointer (some ⟨B2, 0, none⟩)] W fun e W' => (∃ v, e = .returned v) ∧
      ((∃ zs, zs = fsts len len ∧ J zs W') ∨ (∃ pre, (∃ k, pre = fsts len k) ∧ Jx pre W')) := by
  unfold maxLen at hca2 hcb2
  refine callsIn_of_wp Tryz.func174 rfl hF ?_ hro
  simp only [Tryz.ntmps174, List.size_toArray, List.length_cons, List.length_nil, Nat.reduceAdd, Nat.reduceSub, Array.replicate_succ, Array.replicate_zero, List.push_toArray, List.append_toArray, List.nil_append, List.cons_append]
  have HXC := Lib.hid hxc; have HYC := Lib.hid hyc
  have c1 := h1.cell
  have H1 := Lib.hid h1; have H2 := Lib.hid h2
  have HX := Lib.hid hx; have HY := Lib.hid hy
  clear hxc hyc h1 h2 hx hy
  gi_wp2
  clear c1
  gi_loopw [8] (fun i wr => ∃ r : Nat, r ≤ len ∧ i = .int .i64 r ∧ J (fsts len r) wr ∧ PairK n₀ B1 B2 W wr) (fun i _ => len - (intOf i).toNat)
  case atStart => exact ⟨0, Nat.zero_le _, rfl, h0, PairK.refl _ _ _ _⟩
  case round =>
    obtain ⟨r, hr, rfl, hJ, hK⟩ := hrel
    by_cases hlt : r < len
    · obtain ⟨bb, off, rfl, hb, hcell⟩ := HXC.out (by omega)
      obtain ⟨bb2, off2, rfl, hb2, hcell2⟩ := HYC.out (by omega)
      obtain ⟨x, hx⟩ : ∃ x, xs[r]? = some x := ⟨xs[r]'(by have := HX.out; omega), List.getElem?_eq_getElem _⟩
      obtain ⟨y, hy⟩ : ∃ y, ys[r]? = some y := ⟨ys[r]'(by have := HY.out; omega), List.getElem?_eq_getElem _⟩
      obtain ⟨fn, tmps, assign, body, hyy, hR⟩ := hY _ ⟨r, hlt⟩ wr hJ (by rw [fsts_length (by omega)]; exact hlt)
      have e1 := (hK.1.cell (p := ⟨bb, off + r, none⟩) hb).trans (hcell r x hx)
      have e2 := (hK.1.cell (p := ⟨bb2, off2 + r, none⟩) hb2).trans (hcell2 r y hy)
      have e3 := (hK.2.1 _ H1.out).cell
      have e4 := (hK.2.2 _ H2.out).cell
      have p2 : (0 : Int) ≤ (r : Int) := by omega
      have p3 : (r : Int) < (len : Int) := by omega
      simp only [pairEnc, hx, hy, Option.getD_some] at hyy
      have hbs : fsts len r ++ [⟨r, hlt⟩] = fsts len (r + 1) := fsts_succ len r hlt
      rw [hbs] at hR
      have p4 : IntKind.i64.wrap ((r : Int) + 1) = (r : Int) + 1 := by rw [IntKind.wrap_i64]; omega
      clear hcell hcell2 hx hy hbs
      gi_wp2
      refine hR.mono ?_
      rintro e W3 (⟨rfl, hJ3, hk3⟩ | ⟨rfl, hJx3⟩)
      · gi_wp2
        go_roundw
        case rel => exact ⟨r + 1, by omega, by first | rfl | go_num, hJ3, hK.trans hk3⟩
        case measure => simp [intOf] <;> omega
      · gi_wp2
        refine bodyPost_ret (results_none rfl _ _ _) rfl ?_
        exact ⟨⟨_, rfl⟩, .inr ⟨_, ⟨r + 1, rfl⟩, hJx3⟩⟩
    · obtain rfl : r = len := by omega
      gi_wp2
      go_end0
      exact ⟨⟨_, rfl⟩, .inl ⟨_, rfl, hJ⟩⟩

theorem pairs_stops (F : Fence) (n : Nat) (hF : F.fn 174) (hro : F.round = none) (hn : 1 ≤ n) (B1 B2 n₀ len ca cb : Nat) (a b : Option Addr) (xs ys : List Int) (hx : xs.length = len) (hy : ys.length = len) (hlen : len ≤ 1000000) (hca : len ≤ ca) (hca2 : ca ≤ maxLen) (hcb : len ≤ cb) (hcb2 : cb ≤ maxLen)
    (w : World) (h1 : Boxed w B1 39 (.slice a len ca)) (h2 : Boxed w B2 39 (.slice b len cb))
    (hxc : 0 < len → ∃ bb off, a = some ⟨bb, off, none⟩ ∧ bb < n₀ ∧ ∀ (j : Nat) x, xs[j]? = some x → w.cell? ⟨bb, off + j, none⟩ = some (.int .i64 x))
    (hyc : 0 < len → ∃ bb off, b = some ⟨bb, off, none⟩ ∧ bb < n₀ ∧ ∀ (j : Nat) x, ys[j]? = some x → w.cell? ⟨bb, off + j, none⟩ = some (.int .i64 x)) :
    SeqStopsK F n Tryz.prog 174 #[.pointer (some ⟨B1, 0, none⟩), .pointer (some ⟨B2, 0, none⟩)] (pairEnc (len := len) xs ys) (PairK n₀ B1 B2) (fun zs => zs = fsts len len) (fun pre => ∃ k, pre = fsts len k) len w := fun l J Jx W hW _ _ hY h0 =>
  pairs1_in F n hF hro hn l B1 B2 n₀ len ca cb a b xs ys hx hy hlen hca hca2 hcb hcb2 J Jx hY W ((hW.block B1 h1.lt).trans h1) ((hW.block B2 h2.lt).trans h2)
    (fun h => by
      obtain ⟨bb, off, h1, h2, h3⟩ := hxc h
      exact ⟨bb, off, h1, h2, fun j u hu => Ext.cell hW (h3 j u hu)⟩)
    (fun h => by
      obtain ⟨bb, off, h1, h2, h3⟩ := hyc h
      exact ⟨bb, off, h1, h2, fun j u hu => Ext.cell hW (h3 j u hu)⟩) h0

theorem pairs_any (u v : Value) (a b : Option Addr) (n ca m cb : Nat) (hu : u = .slice a n ca) (hv : v = .slice b m cb) (w : World) :
    Calls Tryz.prog 125 #[u, v] w fun e w' => e = .returned (.func (.func 174) #[] #[.pointer (some ⟨w.heap.size, 0, none⟩), .pointer (some ⟨w.heap.size + 1, 0, none⟩)]) ∧ w' = (w.alloc (.cells #[u] 39)).alloc (.cells #[v] 39) := by
  subst hu; subst hv
  go_enter Tryz.func125, Tryz.ntmps125
  go_wp2
  go_ret
  exact ⟨rfl, rfl⟩
theorem fsts_map {α : Type} (f : Nat → α) (len : Nat) : (fsts len len).map (fun x => f x.val) = (List.range len).map f := by
  unfold fsts
  rw [List.take_of_length_le (by simp)]
  apply List.ext_getElem
  · simp
  · intro i h1 h2; simp
theorem below_byRow {n : Nat} {a b c : World} {r : Option Nat} (h : Below n a b) (g : b.grownBy c r) (hn : n ≤ b.heap.size) (hr : ∀ k, r = some k → n ≤ k) : Below n a c :=
  ⟨g.os.trans h.os, g.tape.trans h.tape, g.output.trans h.output, Nat.le_trans h.size g.size, fun k hk => (g.block k (by omega) (fun e => by have := hr k e.symm; omega)).trans (h.block k hk)⟩
/-- A block of cells stays while what is no cells turns. -/
theorem cells_own {n B : Nat} {C : Array Value} {T : TypeId} {fr : Nat × Nat} {W W' : World} {row : Option Nat} (h : W.heap[B]? = some (.cells C T fr)) (hg : W.grownBy W' row) (hr : ∀ r, row = some r → n ≤ r ∧ ∃ o : Obj, W.heap[r]? = some o ∧ o.isCells = false) : W'.heap[B]? = some (.cells C T fr) := by
  refine (hg.block B (block_lt h) fun e => ?_).trans h
  obtain ⟨_, o, ho, hc⟩ := hr B e.symm
  rw [h] at ho
  cases ho
  simp [Obj.isCells] at hc

theorem rbothE_zero {xs ys : List Int} (h : rbothE xs ys = 0) : okRow xs ∧ okRow ys ∧ xs.length = ys.length := by
  unfold rbothE at h
  by_cases h1 : rowE xs = 0
  · rw [if_pos h1] at h
    by_cases h2 : rowE ys = 0
    · rw [if_pos h2] at h
      by_cases h3 : xs.length = ys.length
      · exact ⟨(rowE_zero _).1 h1, (rowE_zero _).1 h2, h3⟩
      · rw [if_neg h3] at h; simp at h
    · rw [if_neg h2] at h; exact absurd h h2
  · rw [if_neg h1] at h; exact absurd h h1
theorem rbothE_cases (xs ys : List Int) : rbothE xs ys = 0 ∨ rbothE xs ys = 4 ∨ rbothE xs ys = 5 := by
  unfold rbothE
  rcases rowE_four xs with h1 | h1 <;> rcases rowE_four ys with h2 | h2 <;> simp [h1, h2]
  by_cases h : xs.length = ys.length <;> simp [h]

theorem owns_base {w : World} {base base' : Nat} {e : TypeId} {size : Nat} {v : Value} {n : Nat} {xs : List Value} (h : w.ownsRow base' e size v n xs) (hb : base ≤ base') : w.ownsRow base e size v n xs := by
  refine ⟨h.1, ?_⟩
  rcases h.2 with h2 | ⟨g, cap, cur, hv, hg, r⟩
  · exact .inl h2
  · exact .inr ⟨g, cap, cur, hv, Nat.le_trans hb hg, r⟩
def opOn {len : Nat} (f : Int → Int → Int) (xs ys : List Int) (pre : List (Fin len)) : List Int := pre.map fun x => f (xs[x.val]?.getD 0) (ys[x.val]?.getD 0)
theorem opOn_snoc {len : Nat} (f : Int → Int → Int) (xs ys : List Int) (pre : List (Fin len)) (x : Fin len) : opOn f xs ys (pre ++ [x]) = opOn f xs ys pre ++ [f (xs[x.val]?.getD 0) (ys[x.val]?.getD 0)] := by
  unfold opOn; rw [List.map_append]; rfl
theorem opOn_all (f : Int → Int → Int) (xs ys : List Int) (len : Nat) (hx : xs.length = len) (hy : ys.length = len) : opOn f xs ys (fsts len len) = List.zipWith f xs ys := by
  unfold opOn
  rw [fsts_map (fun j => f (xs[j]?.getD 0) (ys[j]?.getD 0))]
  apply List.ext_getElem
  · simp [hx, hy]
  · intro i h1 h2
    have hi : i < len := by simpa using h1
    simp [List.getElem?_eq_getElem (show i < xs.length by omega), List.getElem?_eq_getElem (show i < ys.length by omega)]
def opE (f : Int → Int → Int) (xs ys : List Int) : Int := if rbothE xs ys = 0 then rowE (List.zipWith f xs ys) else rbothE xs ys
theorem zip_bd (f : Int → Int → Int) (hf : ∀ a b, -1000000000 ≤ a → a ≤ 1000000000 → -1000000000 ≤ b → b ≤ 1000000000 → -2000000000 ≤ f a b ∧ f a b ≤ 2000000000) : ∀ (xs ys : List Int), (∀ x ∈ xs, -1000000000 ≤ x ∧ x ≤ 1000000000) → (∀ x ∈ ys, -1000000000 ≤ x ∧ x ≤ 1000000000) → ∀ x ∈ List.zipWith f xs ys, -9223372036854775808 ≤ x ∧ x ≤ 9223372036854775807
  | [], _, _, _ => by simp
  | _ :: _, [], _, _ => by simp
  | x :: xs, y :: ys, hx, hy => by
    intro z hz
    rw [List.zipWith_cons_cons] at hz
    rcases List.mem_cons.1 hz with rfl | hz
    · have := hf x y (hx x (by simp)).1 (hx x (by simp)).2 (hy y (by simp)).1 (hy y (by simp)).2
      omega
    · exact zip_bd f hf xs ys (fun a ha => hx a (by simp [ha])) (fun a ha => hy a (by simp [ha])) z hz


set_option maxRecDepth 100000 in
set_option maxHeartbeats 4000000 in
theorem add_any (xs ys : List Int) (u v : Value) (w : World) (h : Ints w u xs) (k : Ints w v ys) :
    Calls Tryz.prog 69 #[u, v] w fun e w' => ∃ r, e = .returned (.tuple #[r, .int .i64 (opE (· + ·) xs ys)]) ∧ Ext w w' ∧ (opE (· + ·) xs ys = 0 → Ints w' r (List.zipWith (· + ·) xs ys)) ∧ (¬ opE (· + ·) xs ys = 0 → r = .slice none 0 0) := by
  have HB := Lib.hid (rboth_any xs ys u v w h k)
  obtain ⟨a, ca, rfl, hca, hca2, -, -, hxc⟩ := h.open
  obtain ⟨b, cb, rfl, hcb, hcb2, -, -, hyc⟩ := k.open
  have HXC := Lib.hid hxc; have HYC := Lib.hid hyc
  clear h k hxc hyc
  refine (callsIn_wide (n := 9)).1 ?_
  refine callsIn_of_wp_marks Tryz.func69 rfl trivial ?_ rfl
  simp only [Tryz.ntmps69, List.size_toArray, List.length_cons, List.length_nil, Nat.reduceAdd, Nat.reduceSub, Array.replicate_succ, Array.replicate_zero, List.push_toArray, List.append_toArray, List.nil_append, List.cons_append]
  by_cases hb : rbothE xs ys = 0
  · obtain ⟨ok1, ok2, hl⟩ := rbothE_zero hb
    have HOK := Lib.hid (And.intro ok1 ok2)
    have h64 := ok1.1
    have HQE : Hid (opE (· + ·) xs ys = rowE (List.zipWith (· + ·) xs ys)) := by unfold Hid opE; rw [if_pos hb]
    rw [HQE.out]
    obtain ⟨n, hn⟩ : ∃ n, xs.length = n := ⟨_, rfl⟩
    have hn2 : ys.length = n := by omega
    have HN := Lib.hid (And.intro hn hn2)
    rw [hn] at hca h64 HB
    rw [hn2] at hcb HB
    rw [hn, hn2]
    rw [hb] at HB
    obtain ⟨i0, hi, hz0, hz1, hz2⟩ := info_parts infoInt
    have HI := Lib.hid hi; have HZ0 := Lib.hid hz0; have HZ1 := Lib.hid hz1; have HZ2 := Lib.hid hz2
    clear ok1 ok2 hl hn hn2 hb hi hz0 hz1 hz2 HQE
    gi_wp2_with fail
    refine ⟨trivial, ?_⟩
    refine (callsIn_wide.2 HB.out).mono ?_
    rintro e w1 ⟨rfl, hE1⟩
    have HE1 := Lib.hid hE1
    clear HB hE1
    gi_wp2_with (gi_at_make; refine wpListIn_make_own _ rfl _ _ 39 rfl w1.heap.size 3 i0 (.int .i64 0) 1 Tryz.underlying39 HI.out HZ0.out HZ1.out _ _ _ n rfl rfl rfl ?c1 ?c2 ?c3 ?_)
    any_goals (first | (rw [HZ2.out]; omega) | (unfold maxLen; omega) | exact Nat.le_refl _)
    intro w2 hown2 hgrow2
    have HOWN2 := Lib.hid (owns_base hown2 HE1.out.size)
    have HE2 := Lib.hid (Ext.trans HE1.out (ext_grown hgrow2))
    clear hown2 hgrow2
    gi_wp2_with fail
    refine ⟨trivial, ?_⟩
    refine (callsIn_wide.2 (pairs_any _ _ a b n ca n cb rfl rfl _)).mono ?_
    rintro e w3 ⟨rfl, hw3⟩
    gi_wp2_with fail
    have hs3 : w3.heap.size = w2.heap.size + 3 := by rw [hw3]; simp
    have hE3 : Ext w2 w3 := by rw [hw3]; exact (Ext.alloc _ _).trans ((Ext.alloc _ _).trans (Ext.alloc _ _))
    have hb0 : Boxed w3 w2.heap.size 39 (.slice (some ⟨w1.heap.size, 0, none⟩) 0 n) := by rw [hw3]; exact Boxed.alloc (Boxed.alloc (Boxed.new _ _ _) _) _
    have hbx1 : Boxed w3 (w2.heap.size + 1) 39 (.slice a n ca) := by
      rw [hw3]
      have := Boxed.alloc (Boxed.new (w2.alloc (.cells #[.slice (some ⟨w1.heap.size, 0, none⟩) 0 n] 39)) 39 (.slice a n ca)) (.cells #[.slice b n cb] 39)
      simpa using this
    have hbx2 : Boxed w3 (w2.heap.size + 2) 39 (.slice b n cb) := by
      rw [hw3]
      have := Boxed.new ((w2.alloc (.cells #[.slice (some ⟨w1.heap.size, 0, none⟩) 0 n] 39)).alloc (.cells #[.slice a n ca] 39)) 39 (.slice b n cb)
      simpa using this
    rw [← hw3]
    clear hw3
    have HOWN3 := Lib.hid (owns_ext HOWN2.out hE3)
    have HE3 := Lib.hid (Ext.trans HE2.out hE3)
    have hsz := HE2.out.size
    have h13 : w2.heap.size ≤ w3.heap.size := hE3.size
    refine wpIn_rangeFunc_ownG rfl (by omega) (gf := 174) (lb := #[.pointer (some ⟨w2.heap.size + 1, 0, none⟩), .pointer (some ⟨w2.heap.size + 1 + 1, 0, none⟩)]) rfl trivial (enters_of Tryz.func174 (by kernel_rfl) rfl)
      (pairs_stops Fence.wide (9 - 1) trivial rfl (by omega) (w2.heap.size + 1) (w2.heap.size + 1 + 1) w.heap.size n ca cb a b xs ys HN.out.1 HN.out.2 (by omega) hca hca2 hcb hcb2 w3 hbx1 hbx2
        (fun h => by
          obtain ⟨bb, off, h1, h2, h3⟩ := HXC.out (by intro e; have := HN.out.1; rw [e] at this; simp at this; omega)
          exact ⟨bb, off, h1, h2, fun j u hu => HE3.out.cell (h3 j u hu)⟩)
        (fun h => by
          obtain ⟨bb, off, h1, h2, h3⟩ := HYC.out (by intro e; have := HN.out.2; rw [e] at this; simp at this; omega)
          exact ⟨bb, off, h1, h2, fun j u hu => HE3.out.cell (h3 j u hu)⟩))
      (fun h k => PairK.trans h k) ?kb (Below.refl _ _) (fun _ => rfl)
      (fun pre W => (∃ v, Boxed W w2.heap.size 39 v ∧ W.ownsRow w.heap.size 3 1 v pre.length ((opOn (· + ·) xs ys pre).map (Value.int .i64)) ∧ True) ∧ Below w.heap.size w W)
      (fun _ _ _ => False) ?own (fun _ _ _ _ _ hs _ _ => hs) ⟨⟨_, hb0, by simpa [opOn] using HOWN3.out, trivial⟩, HE3.out⟩ ?a1 ?assign ?body ?done ?stop
    case assign =>
      intro l x W K hK
      gi_wp2
      exact hK
    case kb =>
      intro W l o o' hl hW hc hw
      exact ⟨belowK_b (w := w3) (by omega) W l o o' hl hW hc hw, fun v hv => cells_own (n := 0) hv (grownBy_putObj' W l o') (fun r e => by cases e; exact ⟨Nat.zero_le _, o, hW, hc⟩), fun v hv => cells_own (n := 0) hv (grownBy_putObj' W l o') (fun r e => by cases e; exact ⟨Nat.zero_le _, o, hW, hc⟩)⟩
    case own =>
      exact OwnFrom.and (Own.from (holdsRow_own w.heap.size w2.heap.size 39 3 1 (fun pre => pre.length) (fun pre => (opOn (· + ·) xs ys pre).map (Value.int .i64)) (fun _ _ => True)) _) (ownFrom_below (Nat.le_refl _) (by omega))
    case stop =>
      rintro D cc pre W _ _ h _
      exact h.elim
    case body =>
      rintro l pre x W ⟨⟨vo, hv, hrow, -⟩, hB⟩ hlt
      have hxn : x.val < n := x.isLt
      obtain ⟨p, hp⟩ : ∃ p, xs[x.val]? = some p := ⟨_, List.getElem?_eq_getElem (by have := HN.out.1; omega)⟩
      obtain ⟨q, hq⟩ : ∃ q, ys[x.val]? = some q := ⟨_, List.getElem?_eq_getElem (by have := HN.out.2; omega)⟩
      obtain ⟨p1, p2⟩ := HOK.out.1.2 p (List.mem_of_getElem? hp)
      obtain ⟨q1, q2⟩ := HOK.out.2.2 q (List.mem_of_getElem? hq)
      have HSN : Hid (opOn (· + ·) xs ys (pre ++ [x]) = opOn (· + ·) xs ys pre ++ [p + q]) := by unfold Hid; rw [opOn_snoc, hp, hq]; rfl
      have qw : IntKind.i64.wrap (p + q) = p + q := by rw [IntKind.wrap_i64]; omega
      have hc := hv.cell
      have hpl : pre.length < n := by omega
      simp only [pairEnc, hp, hq, Option.getD_some]
      clear hp hq p1 p2 q1 q2
      gi_wp2_with (gi_at_builtin; refine wpListIn_append_own _ rfl _ _ 39 rfl w.heap.size 3 i0 (.int .i64 0) 1 8 Tryz.underlying39 HI.out HZ0.out HZ1.out HZ2.out rfl (by decide) _ _ _ rfl (hrow.alloc _) ⟨W.heap.size, 0, none⟩ 1 1 [.int .i64 (p + q)] rfl rfl (cell_one_new _ _ _) (by simp [Value.oneCell']) (by unfold maxLen; omega) (by omega) (by have := hB.size; simp; omega) ?_; intro v' w5 hown' hgrow _; obtain ⟨g', cap', rfl⟩ := ownsRow_succ hown'; obtain ⟨hv1, hv2, hr2, hk2, hb2⟩ := hv.appended (by decide) hrow hB.size (by omega) hown' hgrow; have hc1 := hv1.cell; have hf1 := hv1.frozen; have HG := Lib.hid hgrow)
      refine ⟨hk2.from _, ⟨hb2, fun v hv' => ?_, fun v hv' => ?_⟩, ⟨_, hv2, by rw [HSN.out]; simpa using hr2⟩, hB.trans hb2⟩
      · exact ((hv'.alloc _).kept HG.out (hv'.not_row (by decide) hrow)).other (by omega) _
      · exact ((hv'.alloc _).kept HG.out (hv'.not_row (by decide) hrow)).other (by omega) _
    case done =>
      rintro D zs W hD rfl ⟨⟨vo, hv, hrow, -⟩, hB⟩ hK
      rw [opOn_all (· + ·) xs ys n HN.out.1 HN.out.2, fsts_length (Nat.le_refl n)] at hrow
      have hc := hv.cell
      have hzl : (List.zipWith (· + ·) xs ys).length = n := by rw [List.length_zipWith, HN.out.1, HN.out.2]; omega
      have HZB := Lib.hid (zip_bd (· + ·) (fun a b _ _ _ _ => by omega) xs ys HOK.out.1.2 HOK.out.2.2)
      have hI : Ints W vo (List.zipWith (· + ·) xs ys) := Ints.of_owns (by rw [hzl]; exact hrow) HZB.out
      have HV := Lib.hid (rresult_any _ _ W hI)
      have HI2 := Lib.hid (And.intro hB hrow)
      have HZL := Lib.hid hzl
      have HK := Lib.hid hK
      clear hI hB hrow hK hzl
      gi_wp2_with fail
      refine ⟨trivial, ?_⟩
      refine (callsIn_wide.2 HV.out).mono ?_
      rintro e W2 ⟨r, rfl, hE, hr0, hr1⟩
      have HK2 := Lib.hid (block_ext HK.out hE)
      have HW2 := Lib.hid (Below.trans HI2.out.1 (Below.mono hE HI2.out.1.size))
      have HO2 := Lib.hid (owns_ext HI2.out.2 hE)
      have HR := Lib.hid (And.intro hr0 hr1)
      clear hE hc HV hr0 hr1
      have hsD : w.heap.size ≤ D := by omega
      gi_wp2_with fail
      refine ⟨by simp, .inl ⟨_, _, rfl, run_takeDeferred HK2.out, ?_⟩⟩
      refine ⟨_, results_tmp2 rfl _ _ _, _, rfl, ?_, fun h0 => ?_, HR.out.2⟩
      · exact below_byRow HW2.out (grownBy_putObj' W2 D _) HW2.out.size (fun j e => by cases e; exact hsD)
      · show Ints _ r _
        rw [HR.out.1 h0]
        exact Ints.of_owns (by rw [HZL.out]; exact ownsRow_putObj HO2.out _ HK2.out rfl) HZB.out
  · have HQ : Hid (opE (· + ·) xs ys = rbothE xs ys) := by unfold Hid opE; rw [if_neg hb]
    rw [HQ.out]
    clear HQ
    rcases (rbothE_cases xs ys).resolve_left hb with h4 | h4
    all_goals
      rw [h4] at HB ⊢
      clear hb h4
      gi_wp2_with fail
      refine ⟨trivial, ?_⟩
      refine (callsIn_wide.2 HB.out).mono ?_
      rintro e w1 ⟨rfl, hE1⟩
      have HE1 := Lib.hid hE1
      clear HB hE1
      gi_wp2_with fail
      exact ⟨_, results_tmp2 rfl _ _ _, _, rfl, HE1.out, by simp, fun _ => rfl⟩

end Go.Proofs.YtehknemdfbkimaaGreatDoor
