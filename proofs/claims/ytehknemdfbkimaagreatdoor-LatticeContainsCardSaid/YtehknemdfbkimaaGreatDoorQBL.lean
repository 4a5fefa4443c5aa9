/- Merged: ClassP. -/
import Derived.Test.YtehknemdfbkimaaGreatDoorQAS
import Derived.Test.YtehknemdfbkimaaGreatDoorQBA
import Derived.Test.YtehknemdfbkimaaGreatDoorQBF
import Derived.Test.YtehknemdfbkimaaGreatDoorQBK
/- The functions of package lattice at the lattice of a plan. -/
namespace Go.Proofs.YtehknemdfbkimaaGreatDoor
set_option linter.unusedVariables false
set_option linter.unusedSimpArgs false
open Go.RowKit

/-- What a plan's form is. -/
structure PlanF (n : Nat) (m R : List (List Int)) (ps : Nat → Nat) : Prop where
  n12 : n ≤ 12
  rows : ∀ x ∈ m, x.length = n
  nine : ∀ x ∈ m, RowLe 9 x
  form : HForm n R ps
  four : R.length ≤ 4
  els : ∀ x ∈ R, RowLe 629856 x ∧ x.length = n
  span : SpEq n (RowsFrom 0 m) (RowsFrom 0 R)
  chk : chkE n R = 0
theorem PlanF.el {n : Nat} {m R : List (List Int)} {ps : Nat → Nat} (h : PlanF n m R ps) : ∀ r ∈ R, r.length = n ∧ RowLe 1000000000 r := fun r hr => ⟨(h.els r hr).2, (h.els r hr).1.mono (by decide)⟩
theorem PlanF.rowLE {n : Nat} {m R : List (List Int)} {ps : Nat → Nat} (h : PlanF n m R ps) {x : List Int} (hx : x.length = n) (hb : RowLe 1000 x) : rowLE n R x = 0 := by
  unfold Go.Proofs.YtehknemdfbkimaaGreatDoor.rowLE
  have hn := h.n12
  rw [if_pos h.chk, if_pos ((rowE_zero x).2 (okRow_of (by omega) (hb.mono (by decide)))), if_pos (by omega)]
/-- Represent. -/
theorem repr_plan {n : Nat} {m R : List (List Int)} {ps : Nat → Nat} (h : PlanF n m R ps) {x : List Int} (hx : x.length = n) (hb : RowLe 1000 x) :
    ∃ s, (s.length = n ∧ Sp n (RowsFrom 0 R) (lessL 1 x s) ∧ RedP R ps R.length s) ∧ RowLe 1000000000 s ∧ ∀ (W : World) (v vx : Value), LatV W v n R → Ints W vx x → LibT W → 0 < W.heap.size →
      Calls Tryz.prog 27 #[v, vx] W fun e w' => ∃ u, e = .returned (.tuple #[u, .int .i64 0]) ∧ Ints w' u s ∧ Ext W w' := by
  obtain ⟨s, ms, e1, e2, e3, e4, e5⟩ := plan_red h.form h.four h.els hx (hb.mono (by decide))
  have hs := plan_bound (A := 1000) h.form h.four h.rows h.nine h.span hx hb e2 e4 e5
  refine ⟨s, ⟨e2, e4, e5⟩, hs, fun W v vx hv hi hl hp => ?_⟩
  refine (repr_any n R x s ms v vx W hv hi (h.rowLE hx hb) e1 e3 hl hp).mono fun e w' he => ?_
  unfold RepR at he
  have hfit : s.all fit9B = true := by
    rw [List.all_eq_true]; intro y hy
    have := hs y hy
    unfold fit9B; simp; omega
  rw [if_pos hfit] at he
  obtain ⟨⟨u, h1, h2⟩, h3⟩ := he
  exact ⟨u, h1, h2, h3⟩
/-- Contains. -/
theorem contains_plan {n : Nat} {m R : List (List Int)} {ps : Nat → Nat} (h : PlanF n m R ps) {x : List Int} (hx : x.length = n) (hb : RowLe 1000 x) :
    ∃ t, (t.length = n ∧ Sp n (RowsFrom 0 R) (lessL 1 x t) ∧ RedP R ps R.length t) ∧ ∀ (W : World) (v vx : Value), LatV W v n R → Ints W vx x → LibT W → 0 < W.heap.size →
      Calls Tryz.prog 25 #[v, vx] W fun e w' => e = .returned (.tuple #[.bool (decide (leadL t < 0)), .int .i64 0]) ∧ Ext W w' := by
  obtain ⟨s, ms, e1, e2, e3, e4, e5⟩ := plan_red h.form h.four h.els hx (hb.mono (by decide))
  exact ⟨s, ⟨e2, e4, e5⟩, fun W v vx hv hi hl hp => contains_any n R x s ms v vx W hv hi (h.rowLE hx hb) e1 hl.pow hp⟩

set_option maxRecDepth 100000 in
/-- A row of ints that is made, in a region that draws its order. -/
theorem make_up {Q : Exit → Act → World → Prop} {K : Act → World → Prop} {o : Oper} {a : Act} (w : World) (n : Nat) (hn : n ≤ 1000)
    (hK : ∀ V, RowF V w.heap.size (List.replicate n 0) → w.heap.size < V.heap.size → Ext w V → K (a.put o.dst (.slice (some ⟨w.heap.size, 0, none⟩) n n)) V) :
    Oper.upon Tryz.prog o a K Q ((Sem.run Tryz.prog (Instr.makeSlice 39 (.int .i64 (n : Int)) (.int .i64 (n : Int))) w).andThen fun a w' => Result.ok (Next.value a) w') := by
  obtain ⟨i0, hi, hz0, hz1, hz2⟩ := info_parts infoInt
  obtain ⟨w', hrun, r1, r2⟩ := run_make_full (P := Tryz.prog) w w.heap.size 39 3 i0 (.int .i64 0) 1 Tryz.underlying39 hi hz0 hz1 .i64 .i64 n (by rw [hz2]; omega) (by unfold maxLen; omega) (Nat.le_refl _)
  rw [Nat.mul_one] at r1
  have e : (madeCells (Value.int .i64 0).cells n).toList = _ := made_ints .i64 n
  rw [e] at r1
  have hR := RowF.ofOwn r1
  have h := hK w' hR hR.lt (ext_grown r2)
  simp only [hrun, Result.andThen]
  exact h
/-- A row that is filled from the left. -/
def fillL (x : List Int) (n i : Nat) : List Int := x.take i ++ List.replicate (n - i) 0
theorem fillL_len {x : List Int} {n i : Nat} (hx : n ≤ x.length) (hi : i ≤ n) : (fillL x n i).length = n := by unfold fillL; simp; omega
theorem fillL_zero (x : List Int) (n : Nat) : fillL x n 0 = List.replicate n 0 := by unfold fillL; simp
theorem fillL_all {x : List Int} {n : Nat} : fillL x n n = x.take n := by unfold fillL; simp
theorem fillL_set {x : List Int} {n i : Nat} (hx : n ≤ x.length) (hi : i < n) : (fillL x n i).set i (x.getD i 0) = fillL x n (i + 1) := by
  have hil : i < x.length := by omega
  apply List.ext_getElem?
  intro j
  unfold fillL
  rw [List.getElem?_set]
  have e : x.getD i 0 = x[i] := by rw [List.getD_eq_getElem?_getD, List.getElem?_eq_getElem hil]; rfl
  by_cases hj : i = j
  · subst hj
    rw [if_pos rfl, if_pos (by simp; omega), List.getElem?_append_left (by simp; omega), List.getElem?_take, if_pos (by omega), e, List.getElem?_eq_getElem hil]
  · rw [if_neg hj]
    by_cases h1 : j < i
    · rw [List.getElem?_append_left (by simp; omega), List.getElem?_append_left (by simp; omega), List.getElem?_take, List.getElem?_take, if_pos h1, if_pos (by omega)]
    · rw [List.getElem?_append_right (by simp; omega), List.getElem?_append_right (by simp; omega)]
      simp only [List.length_take]
      rw [List.getElem?_replicate, List.getElem?_replicate]
      rw [show min i x.length = i by omega, show min (i + 1) x.length = i + 1 by omega]
      by_cases h2 : j < n
      · rw [if_pos (by omega), if_pos (by omega)]
      · rw [if_neg (by omega), if_neg (by omega)]
theorem lessL_take (k : Int) : ∀ (n : Nat) (x y : List Int), (lessL k x y).take n = lessL k (x.take n) (y.take n)
  | 0, x, y => by simp [lessL]
  | n + 1, [], y => by cases y <;> simp [lessL]
  | n + 1, a :: x, [] => by simp [lessL]
  | n + 1, a :: x, b :: y => by simp only [lessL, List.take_succ_cons]; rw [lessL_take k n x y]
theorem i8_cell {w : World} {B : Nat} {x : List Int} {T : TypeId} (h : w.heap[B]? = some (.cells (x.map (Value.int .i8)).toArray T (0, 0))) (i : Nat) (hi : i < x.length) : w.cell? ⟨B, i, none⟩ = some (.int .i8 (x.getD i 0)) := by
  rw [block_cell h i]
  simp only [List.getElem?_toArray, List.getElem?_map, List.getD_eq_getElem?_getD, List.getElem?_eq_getElem hi]; rfl
theorem take_bd {B : Nat} {x : List Int} (n : Nat) (h : ∀ a ∈ x, a.natAbs ≤ B) : RowLe B (x.take n) := fun a ha => h a (List.mem_of_mem_take ha)

theorem RowF.ints' {w : World} {g m : Nat} {xs : List Int} (h : RowF w g xs) (hl : xs.length = m) (hm : m ≤ 1000) (hb : RowLe 1000 xs) : Ints w (.slice (some ⟨g, 0, none⟩) m m) xs := by
  have := h.ints (m := m) (by omega) (by unfold maxLen; omega) (fun x hx => by have := hb x hx; omega)
  rw [hl] at this
  exact this
theorem lessL_take_bd {X Y : List Int} (n : Nat) (hx : ∀ i, -128 ≤ X.getD i 0 ∧ X.getD i 0 ≤ 127) (hy : ∀ i, -128 ≤ Y.getD i 0 ∧ Y.getD i 0 ≤ 127) (hD : ∀ i, (lessL 1 X Y).getD i 0 = X.getD i 0 - Y.getD i 0) : RowLe 1000 ((lessL 1 X Y).take n) := by
  intro a ha
  obtain ⟨i, hi⟩ := List.getElem?_of_mem (List.mem_of_mem_take ha)
  have h1 := hD i; have h2 := hx i; have h3 := hy i
  have h4 : (lessL 1 X Y).getD i 0 = a := by rw [List.getD_eq_getElem?_getD, hi]; rfl
  omega
theorem take_bd' {X : List Int} (n : Nat) (hx : ∀ i, -128 ≤ X.getD i 0 ∧ X.getD i 0 ≤ 127) : RowLe 1000 (X.take n) := by
  intro a ha
  obtain ⟨i, hi⟩ := List.getElem?_of_mem (List.mem_of_mem_take ha)
  have h2 := hx i
  have h4 : X.getD i 0 = a := by rw [List.getD_eq_getElem?_getD, hi]; rfl
  omega

section
variable {P : Program} {ops O : Array Oper} {Q : Exit → Act → World → Prop} {md : Region.Mode} {S : World → Prop} {z n : Nat}
theorem anyE_fork2V (hO : Hid (ops = O)) (i j : Nat) {oi oj : Oper} {f : Nat} {l : Array Bool} {a : Act} {w : World} (hr : Region.ready md O l = [i, j]) (hi : ops[i]? = some oi) (hj : ops[j]? = some oj)
    (h1 : ∀ K : Act → World → Prop, Shut (∀ b u, S u → (S u → anyE P md ops Q S z f (l.setIfInBounds i true) b u) → K b u) → if Region.wanted oi (yielded O a.tmps) = true then Oper.wp P oi a w K Q else K (a.put oi.dst undef) w)
    (h2 : ∀ K : Act → World → Prop, Shut (∀ b u, S u → (S u → anyE P md ops Q S z f (l.setIfInBounds j true) b u) → K b u) → if Region.wanted oj (yielded O a.tmps) = true then Oper.wp P oj a w K Q else K (a.put oj.dst undef) w) : anyE P md ops Q S z (f + 1) l a w := by
  have hO : ops = O := hO
  subst hO
  exact anyE_fork2 i j hr hi hj h1 h2
theorem anyE_fork3V (hO : Hid (ops = O)) (i j k : Nat) {oi oj ok : Oper} {f : Nat} {l : Array Bool} {a : Act} {w : World} (hr : Region.ready md O l = [i, j, k]) (hi : ops[i]? = some oi) (hj : ops[j]? = some oj) (hk : ops[k]? = some ok)
    (h1 : ∀ K : Act → World → Prop, Shut (∀ b u, S u → (S u → anyE P md ops Q S z f (l.setIfInBounds i true) b u) → K b u) → if Region.wanted oi (yielded O a.tmps) = true then Oper.wp P oi a w K Q else K (a.put oi.dst undef) w)
    (h2 : ∀ K : Act → World → Prop, Shut (∀ b u, S u → (S u → anyE P md ops Q S z f (l.setIfInBounds j true) b u) → K b u) → if Region.wanted oj (yielded O a.tmps) = true then Oper.wp P oj a w K Q else K (a.put oj.dst undef) w)
    (h3 : ∀ K : Act → World → Prop, Shut (∀ b u, S u → (S u → anyE P md ops Q S z f (l.setIfInBounds k true) b u) → K b u) → if Region.wanted ok (yielded O a.tmps) = true then Oper.wp P ok a w K Q else K (a.put ok.dst undef) w) : anyE P md ops Q S z (f + 1) l a w := by
  have hO : ops = O := hO
  subst hO
  exact anyE_fork3 i j k hr hi hj hk h1 h2 h3
end
end Go.Proofs.YtehknemdfbkimaaGreatDoor
