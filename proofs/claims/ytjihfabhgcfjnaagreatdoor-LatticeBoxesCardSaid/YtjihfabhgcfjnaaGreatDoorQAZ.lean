/- Merged: RegV, Rows9, RowF, RegF, LawPost, Args, LatCard, LatLib. -/
import Derived.Test.YtjihfabhgcfjnaaGreatDoorQAY
import Derived.Test.YtjihfabhgcfjnaaGreatDoorQAT
import Derived.Laws.Rows
import Derived.Test.YtjihfabhgcfjnaaGreatDoorRows
import Derived.WalkKit
import Derived.ProofKit
import Derived.OpenShut
import Derived.Test.YtjihfabhgcfjnaaGreatDoorQAA
import Derived.ChangeSlices
import Derived.Test.YtjihfabhgcfjnaaGreatDoorQAD
import Derived.LaidMore
import Derived.LaidLaws
import Derived.MakeChecks
import Derived.Lib.LaidTab
import Derived.Stop.Joined
import Derived.Stop.LaidErr
import Derived.Lay
import Derived.Test.YtjihfabhgcfjnaaGreatDoorTie
import Derived.Test.YtjihfabhgcfjnaaGreatDoorCards
import Derived.Test.YtjihfabhgcfjnaaGreatDoorQAP
/- Long regions that draw their order and only read, in an order of one's choice; the operations' array is a variable. -/
namespace Go.Proofs.YtjihfabhgcfjnaaGreatDoor
set_option linter.unusedVariables false
open Go.RowKit
section
variable {P : Program} {ops O : Array Oper} {Q : Exit → Act → World → Prop} {md : Region.Mode} {S : World → Prop} {z n : Nat}
theorem region_anyEV (S : World → Prop) (z : Nat) (n : Nat) {id : Nat} {a : Act} {w : World} (hm : P.follows .mixedOrders = true) (hn : O.size = n) (hS : S w.drew)
    (h : ∀ ops, Hid (ops = O) → S w.drew → anyE P .any ops Q S z n (Array.replicate n false) a w.drew) : (Code.region id O true).wp P Q a w :=
  region_anyE S z hm hS (fun hh => by have := h O rfl hh; rw [hn]; exact this)
theorem anyE_takeWV (hO : Hid (ops = O)) (i : Nat) {oi : Oper} {v : Value} {f : Nat} {l : Array Bool} {a : Act} {w : World} (hi : ops[i]? = some oi)
    (hs : Region.noSelect O = true) (hf : Region.free md O l i = true) (hr : (Region.ready md O l).contains i = true) (hz : decide (i ≠ z) = true)
    (hQ : ∀ c a w, Q (.panic c) (a.put oi.dst v) w → Q (.panic c) a w) (hy : Yields P O oi v a) (hS : S w)
    (h : anyE P md ops Q S z f (l.setIfInBounds i true) (a.put oi.dst v) w) : anyE P md ops Q S z (f + 1) l a w := by
  have hO : ops = O := hO
  subst hO
  exact anyE_takeW i hi hs hf hr (of_decide_eq_true hz) hQ hy hS h
theorem anyE_takeV (hO : Hid (ops = O)) (i : Nat) {oi : Oper} {v : Value} {f : Nat} {l : Array Bool} {a : Act} {w : World} (hi : ops[i]? = some oi)
    (hs : Region.noSelect O = true) (hf : Region.free md O l i = true) (hr : (Region.ready md O l).contains i = true) (hz : decide (l.size ≤ z) = true)
    (hQ : ∀ c a w, Q (.panic c) (a.put oi.dst v) w → Q (.panic c) a w) (hy : YieldsIf P O S oi v a) (hS : S w)
    (h : anyE P md ops Q S z f (l.setIfInBounds i true) (a.put oi.dst v) w) : anyE P md ops Q S z (f + 1) l a w := by
  have hO : ops = O := hO
  subst hO
  exact anyE_takeN i hi hs hf hr (of_decide_eq_true hz) hQ hy hS h
theorem anyE_stepV (hO : Hid (ops = O)) (i : Nat) {o : Oper} {f : Nat} {l : Array Bool} {a : Act} {w : World} (hr : Region.ready md O l = [i]) (ho : ops[i]? = some o)
    (h : ∀ K : Act → World → Prop, Shut (∀ b u, S u → (S u → anyE P md ops Q S z f (l.setIfInBounds i true) b u) → K b u) → if Region.wanted o (yielded O a.tmps) = true then Oper.wp P o a w K Q else K (a.put o.dst undef) w) : anyE P md ops Q S z (f + 1) l a w := by
  have hO : ops = O := hO
  subst hO
  exact anyE_step i hr ho h
theorem anyE_lastV (hO : Hid (ops = O)) (i : Nat) {o : Oper} {f : Nat} {l : Array Bool} {a : Act} {w : World} (hr : Region.ready md O l = [i]) (hr2 : Region.ready md O (l.setIfInBounds i true) = []) (ho : ops[i]? = some o)
    (h : ∀ K : Act → World → Prop, Shut (∀ b u, S u → Q .normal b u → K b u) → if Region.wanted o (yielded O a.tmps) = true then Oper.wp P o a w K Q else K (a.put o.dst undef) w) : anyE P md ops Q S z (f + 1) l a w := by
  have hO : ops = O := hO
  subst hO
  exact anyE_lastN i hr hr2 ho h
end
end Go.Proofs.YtjihfabhgcfjnaaGreatDoor
/- Contract of schismalaw09.Rows: the rows of a plan. -/
namespace Go.Proofs.YtjihfabhgcfjnaaGreatDoor
set_option linter.unusedVariables false
set_option linter.unusedSimpArgs false
open Go.RowKit

/-- A row of four small numbers, in four cells. -/
def four8 (_ : World) (u : List Value) (x : List Int) : Prop := u = x.map (Value.int .i8) ∧ x.length = 4 ∧ ∀ a ∈ x, -128 ≤ a ∧ a ≤ 127
theorem four8.mono : Mono four8 := fun _ _ _ _ _ h => h
abbrev Fours (w : World) (v : Value) (xss : List (List Int)) : Prop := ListAt 4 four8 w v xss
theorem Fours.ext {w w' : World} {v : Value} {xss : List (List Int)} (h : Fours w v xss) (he : Ext w w') : Fours w' v xss := ListAt.ext four8.mono h he
/-- A row of a plan. -/
def row9 (n : Nat) (x : List Int) : List Int := (x.take n).map fun a => a.tmod 10
def rowsT (n i : Nat) (xss : List (List Int)) : List (List Int) := (xss.take i).map (row9 n)
abbrev rows9 (n : Nat) (xss : List (List Int)) : List (List Int) := rowsT n 4 xss
theorem row9_len {n : Nat} {x : List Int} (h : n ≤ x.length) : (row9 n x).length = n := by unfold row9; rw [List.length_map, List.length_take]; omega
theorem row9_succ {k : Nat} {x : List Int} {y : Int} (h : x[k]? = some y) : row9 (k + 1) x = row9 k x ++ [y.tmod 10] := by unfold row9; rw [List.take_add_one, h, List.map_append]; rfl
theorem rowsT_len (n i : Nat) (xss : List (List Int)) (h : i ≤ xss.length) : (rowsT n i xss).length = i := by unfold rowsT; rw [List.length_map, List.length_take]; omega
theorem rowsT_succ {n i : Nat} {xss : List (List Int)} {x : List Int} (h : xss[i]? = some x) : rowsT n (i + 1) xss = rowsT n i xss ++ [row9 n x] := by unfold rowsT; rw [List.take_add_one, h, List.map_append]; rfl

set_option maxRecDepth 100000 in
set_option maxHeartbeats 2000000 in
theorem rows9_any (c : Int) (hc0 : 0 ≤ c) (hc1 : c ≤ 255) (xss : List (List Int)) (v : Value) (w : World) (h : Fours w v xss) :
    Calls Tryz.prog 47 #[.agg #[.int .u8 c, v]] w fun e w' => ∃ u, e = .returned (.tuple #[.int .i64 (1 + c % 4), u]) ∧ Rows2 w' u (rows9 (1 + c % 4).toNat xss) ∧ Ext w w' := by
  obtain ⟨n, hn, hn1, hn2⟩ : ∃ n : Nat, 1 + c % 4 = (n : Int) ∧ 1 ≤ n ∧ n ≤ 4 := ⟨(1 + c % 4).toNat, by omega, by omega, by omega⟩
  rw [hn, Int.toNat_natCast]
  obtain ⟨a, cp, rfl, hx1, hx2, hx3, hx4⟩ := ListAt.open h
  have HF := Lib.hid (fun W (hW : Ext w W) => h.ext hW)
  have HX := Lib.hid hx4
  clear hx4 h
  unfold maxLen at hx2
  go_enter Tryz.func47, Tryz.ntmps47
  go_wp2_with fail
  obtain ⟨W1, hW1⟩ : ∃ W1, W1 = w.alloc (.cells #[.int .u8 c, .slice a xss.length cp] 24) := ⟨_, rfl⟩
  have HW1 : Hid (Ext w W1 ∧ W1.cell? ⟨w.heap.size, 1, none⟩ = some (.slice a xss.length cp)) := by
    rw [hW1]; exact ⟨Ext.alloc _ _, by rw [World.cell?_alloc_new]; rfl⟩
  rw [← hW1]
  clear hW1
  go_loopw [5, 6] (fun v t wr => ∃ (i : Nat) (S : Nat → Prop), t = .int .i64 i ∧ i ≤ 4 ∧ i ≤ xss.length ∧ Hid (Ext W1 wr) ∧ Hid (SOk S W1.heap.size wr) ∧ Hid (BuildS wr S W1.heap.size 37 1 v rowR (rowsT n i xss))) (fun _ t _ => 4 - (intOf t).toNat)
  case atStart => exact ⟨0, fun _ => False, rfl, by omega, by omega, Ext.refl _, fun b hb => hb.elim, BuildS.nil _ _ _ _ _ _⟩
  case round =>
    obtain ⟨i, S, rfl, hi4, hil, HE, HOK, HB⟩ := hrel
    obtain ⟨wo, rfl⟩ : ∃ wo : World, wo = wr := ⟨_, rfl⟩
    have g1 := HE.out.cell HW1.out.2
    by_cases hlt : i < xss.length
    · by_cases hlt4 : i < 4
      · obtain ⟨b, off, rfl, hb, hcell⟩ := HX.out (by omega) (by intro e; rw [e] at hlt; simp at hlt)
        obtain ⟨x, hx⟩ : ∃ x, xss[i]? = some x := ⟨xss[i], List.getElem?_eq_getElem hlt⟩
        obtain ⟨u, hu, ⟨rfl, hx4, hxb⟩, hc⟩ := hcell i x hx
        have HCL := Lib.hid (fun W (hW : Ext W1 W) q (hq : q < 4) => (Ext.trans HW1.out.1 hW).cell ((hc q hq).trans (show _ = some (Value.int .i8 (x.getD q 0)) by rw [List.getElem?_map, List.getD_eq_getElem?_getD, List.getElem?_eq_getElem (by omega)]; rfl)))
        have HXB : Hid (∀ q, -128 ≤ x.getD q 0 ∧ x.getD q 0 ≤ 127) := fun q => by
          rw [List.getD_eq_getElem?_getD]
          cases hq : x[q]? with
          | none => decide
          | some y => exact hxb y (List.mem_of_getElem? hq)
        clear hcell hc hu hxb HF HX
        go_wp2_with fail
        rw [show decide ((i : Int) < 4) = true from decide_eq_true (by omega)]
        have HL := Lib.hid (BuildS.lit (base := W1.heap.size) (e := 3) (k := 1) (R := intR) wo S [] [] HE.out.size rfl (by simp) (by simp) (by simp))
        have hEA : Ext wo (wo.alloc (.cells #[] 3)) := Ext.alloc _ _
        have hgA : wo.grownBy (wo.alloc (.cells #[] 3)) none := ⟨hEA.os, hEA.tape, hEA.output, hEA.size, fun k hk _ => hEA.block k hk⟩
        have HB1 := Lib.hid (HB.out.other (S' := fun b => S b ∨ b = wo.heap.size) hgA (fun b hb => by cases hb) (fun b _ hb => by cases hb) (fun k hk => by rcases hk with hk | hk; exact .inl hk; exact .inr (by omega)) (fun k hk => .inl hk))
        have HE1 : Hid (Ext W1 (wo.alloc (.cells #[] 3))) := Ext.trans HE.out hEA
        have HOK1 : Hid (SOk (fun b => S b ∨ b = wo.heap.size) W1.heap.size (wo.alloc (.cells #[] 3))) := fun b hb => by
          have := HE.out.size
          rcases hb with hb | hb
          · have := HOK.out b hb; simp; omega
          · simp; omega
        clear hEA hgA HE HOK HB g1
        go_loopw [7, 8] (fun r t wq => ∃ (k : Nat) (S1 : Nat → Prop), t = .int .i64 k ∧ k ≤ n ∧ Hid (Ext W1 wq) ∧ Hid (SOk S1 W1.heap.size wq) ∧ Hid (BuildS wq S1 W1.heap.size 37 1 u5 rowR (rowsT n i xss)) ∧ Hid (BuildS wq S1 W1.heap.size 3 1 r intR (row9 k x))) (fun _ t _ => n - (intOf t).toNat)
        case atStart => exact ⟨0, _, rfl, by omega, HE1.out, HOK1.out, HB1.out, HL.out⟩
        case round =>
          clear HE1 HOK1 HB1 HL
          obtain ⟨k, S1, rfl, hkn, HE, HOK, HB, HR⟩ := hrel
          obtain ⟨wq, rfl⟩ : ∃ wq : World, wq = wr := ⟨_, rfl⟩
          have g1 := HE.out.cell HW1.out.2
          by_cases hk : k < n
          · have g2 := HCL.out wq HE.out k (by omega)
            obtain ⟨y, hy⟩ : ∃ y, x.getD k 0 = y := ⟨_, rfl⟩
            have hyb := HXB.out k
            rw [hy] at g2 hyb
            rw [← Nat.add_assoc] at g2
            have hyr := tmod_bd y 10 (by decide)
            have hxk : x[k]? = some y := by
              rw [List.getD_eq_getElem?_getD, List.getElem?_eq_getElem (by omega)] at hy
              rw [List.getElem?_eq_getElem (by omega)]; rw [← hy]; rfl
            have HT := Lib.hid (row9_succ hxk)
            have hkl : (row9 k x).length < 1000000 := by rw [row9_len (by omega)]; omega
            have HKL := Lib.hid hkl
            have hs1 := HE.out.size
            clear hkl hy hxk
            obtain ⟨z, hz⟩ : ∃ z, y.tmod 10 = z := ⟨_, rfl⟩
            rw [hz] at hyr HT
            go_wp2_with (at_builtin; go_must (refine wpList_append_buildS _ rfl _ _ 37 rfl S1 W1.heap.size 3 (.int .i64 0) 1 8 Tryz.underlying37 infoInt rfl (by decide) u7 intR (row9 k x) z #[.int .i64 z] 3 rfl HR.out _ rfl rfl rfl ?a1 ?a2 HKL.out ?a3 hs1 W1.heap.size (Nat.le_refl _) HOK.out ?_))
            case a1 => simp [Value.oneCell']
            case a2 => exact fun _ _ => ⟨rfl, by omega, by omega⟩
            case a3 => omega
            intro r' w2 S2 hok2 hS1 hS2 hR2 hg2 hb2 hs2 hsafe
            have HOK2 := Lib.hid hok2
            have HB2 := Lib.hid (HB.out.other (S' := S2) hg2 HR.out.1 (BuildS.apart HB.out HR.out (by decide)) (by simpa using hS2) hS1)
            have HE2 : Hid (Ext W1 w2) := Below.trans HE.out hb2
            rw [← HT.out] at hR2
            have HR2 := Lib.hid hR2
            clear hok2 hS1 hS2 hR2 hg2 hb2 hs2 hsafe
            go_wp2_with fail
            go_roundw
            case rel => exact ⟨k + 1, S2, by go_num, by omega, HE2.out, HOK2.out, HB2.out, HR2.out⟩
            case measure => simp [intOf]; omega
          · obtain rfl : k = n := by omega
            have hrl := row9_len (n := k) (x := x) (by omega)
            obtain ⟨gc, capc, rfl, hgc1, hgc2, hgc3, hgc4⟩ := HR.out.shape (by omega)
            have hne := BuildS.apart HB.out HR.out (by decide)
            have HRS := Lib.hid (HR.out.finish rfl)
            have HB1 := Lib.hid (HB.out.drop (g := gc) (fun e => hne _ e rfl))
            have HOK1 : Hid (SOk (fun b => S1 b ∧ b ≠ gc) W1.heap.size wq) := fun b hb => HOK.out b hb.1
            have HT := Lib.hid (rowsT_succ (n := k) hx)
            have hil2 : (rowsT k i xss).length < 1000000 := by rw [rowsT_len k i xss hil]; omega
            have HIL := Lib.hid hil2
            have hs1 := HE.out.size
            generalize (fun b => S1 b ∧ b ≠ gc) = S2 at *
            rw [hrl] at HRS hgc3
            rw [hrl]
            clear hne HB HR HOK hil2 hgc4
            go_wp2_with (at_builtin; go_must (refine wpList_append_buildS _ rfl _ _ 29 rfl S2 W1.heap.size 37 (.slice none 0 0) 1 24 Tryz.underlying29 infoRow rfl (by decide) u5 rowR (rowsT k i xss) (row9 k x) #[.slice (some ⟨gc, 0, none⟩) k capc] 37 rfl HB1.out _ rfl rfl rfl ?b1 (HRS.out.mono (fun w h => ⟨_, rfl, h⟩)) HIL.out ?b3 hs1 W1.heap.size (Nat.le_refl _) HOK1.out ?_))
            case b1 => simp [Value.oneCell']
            case b3 => omega
            intro v' w2 S3 hok3 hS31 hS32 hB3 hg3 hb3 hs3 hsafe3
            rw [← HT.out] at hB3
            have HB3 := Lib.hid hB3
            have HOK3 := Lib.hid hok3
            have HE3 : Hid (Ext W1 w2) := Below.trans HE.out hb3
            clear hok3 hS31 hS32 hB3 hg3 hb3 hs3 hsafe3
            go_wp2_with fail
            go_roundw
            case rel => exact ⟨i + 1, S3, by go_num, by omega, by omega, HE3.out, HOK3.out, HB3.out⟩
            case measure => simp [intOf]; omega
      · obtain rfl : i = 4 := by omega
        have HBL := Lib.hid HB.out.list
        clear HB HX
        go_wp2_with fail
        go_ret2
        exact ⟨_, rfl, HBL.out, Ext.trans HW1.out.1 HE.out⟩
    · have hTT : rowsT n i xss = rowsT n 4 xss := by unfold rowsT; rw [List.take_of_length_le (by omega), List.take_of_length_le (by omega)]
      rw [hTT] at HB
      have HBL := Lib.hid HB.out.list
      clear HB HX
      go_wp2_with fail
      go_ret2
      exact ⟨_, rfl, HBL.out, Ext.trans HW1.out.1 HE.out⟩
end Go.Proofs.YtjihfabhgcfjnaaGreatDoor
/- Rows of ints in blocks of their own, that a loop fills; law 09's fits. -/
namespace Go.Proofs.YtjihfabhgcfjnaaGreatDoor
set_option linter.unusedVariables false
set_option linter.unusedSimpArgs false
open Go.RowKit

/-- A row of ints at a block. -/
structure RowF (w : World) (g : Nat) (xs : List Int) : Prop where
  lt : g < w.heap.size
  cell : ∀ (j : Nat) x, xs[j]? = some x → w.cell? ⟨g, j, none⟩ = some (.int .i64 x)
  free : ∀ j, w.frozen? ⟨g, j, none⟩ = false
theorem RowF.same {w w' : World} {g : Nat} {xs : List Int} (h : RowF w g xs) (hs : w.heap.size ≤ w'.heap.size) (hg : w'.heap[g]? = w.heap[g]?) : RowF w' g xs :=
  ⟨Nat.lt_of_lt_of_le h.lt hs, fun j x hx => by rw [← h.cell j x hx]; unfold World.cell?; simp only [hg], fun j => by rw [← h.free j]; unfold World.frozen?; simp only [hg]⟩
theorem RowF.ext {w w' : World} {g : Nat} {xs : List Int} (h : RowF w g xs) (he : Ext w w') : RowF w' g xs := h.same he.size (he.block g h.lt)
theorem RowF.ofOwn {w : World} {B g n c : Nat} {xs : List Int} (h : w.ownsRow B 3 1 (.slice (some ⟨g, 0, none⟩) n c) n (xs.map (Value.int .i64 ·))) : RowF w g xs := by
  have hl := h.lt g (by simp [Value.ownBlock])
  have hc := h.cells (g := g) (by simp [Value.ownBlock])
  refine ⟨hl.2, fun j x hx => ?_, fun j => h.frozenAt j⟩
  have := hc j (.int .i64 x) (by rw [List.getElem?_map, hx]; rfl)
  rw [show (⟨g, 0, none⟩ : Addr).add j = ⟨g, j, none⟩ by unfold Addr.add; split <;> simp_all] at this
  exact this
theorem RowF.other {w : World} {g b i : Nat} {xs : List Int} (h : RowF w g xs) (hne : g ≠ b) (y : Value) : RowF (w.setCell ⟨b, i, none⟩ y) g xs :=
  h.same (by simp [World.setCell]) (Below.heap_setCell _ _ _ _ hne)
theorem RowF.set {w : World} {g : Nat} {xs : List Int} (h : RowF w g xs) (k : Nat) (hk : k < xs.length) (y : Int) : RowF (w.setCell ⟨g, k, none⟩ (.int .i64 y)) g (xs.set k y) := by
  refine ⟨by simp only [World.setCell, Array.size_modify]; exact h.lt, fun j x hj => ?_, fun j => ?_⟩
  · rw [List.getElem?_set] at hj
    by_cases e : k = j
    · subst e
      rw [if_pos rfl, if_pos hk] at hj
      cases hj
      exact World.cell?_setCell_same w _ _ (h.cell k _ (List.getElem?_eq_getElem hk))
    · rw [if_neg e] at hj
      rw [World.cell?_setCell_other _ _ _ _ (by intro e2; simp only [Addr.mk.injEq] at e2; omega)]
      exact h.cell j x hj
  · rw [← h.free j]; exact World.frozen?_setCell ..
theorem RowF.ints {w : World} {g m : Nat} {xs : List Int} (h : RowF w g xs) (hm : xs.length ≤ m) (hm2 : m ≤ maxLen) (hb : ∀ x ∈ xs, -9223372036854775808 ≤ x ∧ x ≤ 9223372036854775807) : Ints w (.slice (some ⟨g, 0, none⟩) xs.length m) xs := by
  refine ⟨xs.map fun x => [Value.int .i64 x], by simp, by intro u hu; obtain ⟨x, _, rfl⟩ := List.mem_map.1 hu; rfl, ?_, fun j u x hu hx => ?_⟩
  · refine ⟨some ⟨g, 0, none⟩, m, rfl, hm, hm2, (fun e => by cases e), fun _ => ⟨g, 0, rfl, h.lt, fun j u hu => ?_⟩⟩
    rw [flatten_one, List.getElem?_map] at hu
    cases hx : xs[j]? with
    | none => rw [hx] at hu; cases hu
    | some x => rw [hx] at hu; cases hu; rw [Nat.zero_add]; exact h.cell j x hx
  · rw [List.getElem?_map, hx] at hu
    cases hu
    exact ⟨rfl, hb x (List.mem_of_getElem? hx)⟩

set_option maxRecDepth 100000 in
set_option maxHeartbeats 1000000 in
theorem fits9_any (v0 v1 : Value) (a b : Option Addr) (l m c d : Nat) (w : World) :
    Calls Tryz.prog 8 #[.agg #[v0, .slice a l c], .agg #[v1, .slice b m d]] w fun e w' => e = .returned (.bool (decide (l ≤ 4) && decide (m ≤ 4))) ∧ Ext w w' := by
  go_enter Tryz.func8, Tryz.ntmps8
  by_cases h1 : l ≤ 4
  · by_cases h2 : m ≤ 4
    · have e1 := decide_eq_true h1; have e2 := decide_eq_true h2
      rw [e1, e2]
      go_wp2_with fail
      go_ret
      exact ⟨by simp; omega, (Ext.alloc _ _).trans (Ext.alloc _ _)⟩
    · have e1 := decide_eq_true h1; have e2 := decide_eq_false h2
      rw [e1, e2]
      go_wp2_with fail
      go_ret
      exact ⟨by simp; omega, (Ext.alloc _ _).trans (Ext.alloc _ _)⟩
  · have e1 := decide_eq_false h1
    rw [e1]
    go_wp2_with fail
    go_ret
    exact ⟨by simp, (Ext.alloc _ _).trans (Ext.alloc _ _)⟩
end Go.Proofs.YtjihfabhgcfjnaaGreatDoor
/- A region that draws its order: more than one operation can come up, each is followed; a whole block loaded. -/
namespace Go.Proofs.YtjihfabhgcfjnaaGreatDoor
set_option linter.unusedVariables false
section
variable {P : Program} {ops : Array Oper} {Q : Exit → Act → World → Prop} {md : Region.Mode} {S : World → Prop} {z : Nat}
/-- A whole block loaded. -/
theorem yields_load_row {oi : Oper} {a : Act} (ty : TypeId) (x : Operand) (ho : oi.op = .load ty x) (hgd : oi.guard = none) (g : Nat) (hx : a.eval x = .pointer (some ⟨g, 0, none⟩)) (t : TypeId) (cs : Array Value) (fr : Nat × Nat) (d : TypeDesc) (hg : ∀ w, S w → w.heap[g]? = some (.cells cs t fr))
    (hu : P.underlying ty = some d) (hd : (match d with | .struct _ | .array _ _ => true | _ => false) = true) (hi : (P.info? ty).map (·.size) = some cs.size) : YieldsIf P ops S oi (.agg cs) a :=
  Or.inl ⟨by simp [Region.wanted, hgd], fun w hS => by
    unfold execOp
    simp only [ho, hx, Instr.loadAt, Instr.sureAddr, Sem.run_bind, Sem.run_pure, Result.andThen_ok, run_loadVar_row w g t ty cs fr d (hg w hS) hu hd hi]⟩
end
end Go.Proofs.YtjihfabhgcfjnaaGreatDoor
/- What a statement's row asks of the end of a call, out of: it returned true, and all that lay in memory lies unturned. -/
namespace Go.Proofs.YtjihfabhgcfjnaaGreatDoor
set_option linter.unusedVariables false
set_option linter.unusedSimpArgs false
open Go.ChangeShapes Go.WideShapes Go.ChangeAt Go.RowKit

theorem lawOwn : ownKnob Tryz.prog.godebug = none := by kernel_rfl
theorem lawLaid : laidOutB Tryz.prog = true := by kernel_rfl

theorem trodAll_below {H : Type} {enc : TypeId × Value → H} {P : Program} (hl : laidOutB P = true) {W W' : World} (hb : Below W.heap.size W W') :
    ∀ (ts : List TypeId) (vs : List Value) (ds : List (DataW H)) (ps : List MemPlace), (∀ t ∈ ts, P.readableRec t = true ∧ t < P.types.size) →
      DataW.TrodAll enc P W 0 (fun _ => true) true ts vs ds ps → (∀ x ∈ ps, x.block < W.heap.size) → DataW.TrodAll enc P W' 0 (fun b => decide (b < W.heap.size)) true ts vs ds ps
  | [], [], [], ps, _, h, _ => h
  | t :: ts, v :: vs, d :: ds, ps, hr, h, hlt => by
    obtain ⟨p, p', h1, h2, rfl⟩ := h
    exact ⟨p, p', Below.trod hl (hr t (by simp)).1 (hr t (by simp)).2 h1 hb (fun x hx => hlt x (by simp [hx])), trodAll_below hl hb ts vs ds p' (fun t ht => hr t (by simp [ht])) h2 (fun x hx => hlt x (by simp [hx])), rfl⟩
  | [], v :: vs, _, _, _, h, _ => absurd h (by simp [DataW.TrodAll])
  | [], [], d :: ds, _, _, h, _ => absurd h (by simp [DataW.TrodAll])
  | t :: ts, [], _, _, _, h, _ => absurd h (by simp [DataW.TrodAll])
  | t :: ts, v :: vs, [], _, _, h, _ => absurd h (by simp [DataW.TrodAll])

/-- The row's end for a statement that answers true and leaves what it was given alone. -/
theorem lawPost {H : Type} {enc : TypeId × Value → H} {f : Func} {s : ChangeSpec} {W W' : World} {args : Array Value} {ds : List (DataW H)} {before : List MemPlace}
    (hW : DataW.Whole enc Tryz.prog f.params.toList s.vars false W args.toList ds [] before) (hA : DataW.TrodAll enc Tryz.prog W 0 (fun _ => true) true f.params.toList args.toList ds before)
    (hv : s.vars = []) (hres : f.resultTypes = #[4]) (hfn : s.fn H (ds ++ []) = { results := [.lit (.bool true)], args := ds }) (hr : ∀ t ∈ f.params.toList, Tryz.prog.readableRec t = true ∧ t < Tryz.prog.types.size) (hb : Below W.heap.size W W') :
    ∃ v, Ending.returned (.bool true) = Ending.returned v ∧ ChangeSpec.post enc Tryz.prog f s false true false false W args v W' := by
  refine ⟨_, rfl, ds, [], before, [], before, [], hW, ?_, ?_, ?_, ?_, fun h => by cases h⟩
  · rw [hfn, hres]
    exact trodAll_cons_mk (shut_bool Tryz.underlying4 _) trodAll_mk0
  · rw [hfn]
    exact trodAll_below lawLaid hb _ _ _ _ hr hA (fun x hx => by simpa using hW.lt x hx)
  · rw [hfn, hv]; rfl
  · exact hb.frame _
end Go.Proofs.YtjihfabhgcfjnaaGreatDoor
/- Arguments that came in: slices of integers. -/
namespace Go.Proofs.YtjihfabhgcfjnaaGreatDoor
set_option linter.unusedVariables false
set_option linter.unusedSimpArgs false
open Go.ChangeShapes Go.WideShapes Go.ChangeAt Go.RowKit

end Go.Proofs.YtjihfabhgcfjnaaGreatDoor
/- What the laid tables give a walk of chapter 09, and the witness's world. -/
namespace Go.Proofs.YtjihfabhgcfjnaaGreatDoor
set_option linter.unusedVariables false
set_option linter.unusedSimpArgs false
open Go.ChangeShapes Go.WideShapes Go.ChangeAt Go.RowKit

/-- What the rows list as laid. -/
abbrev laid9 : List (String × DataW Unit) := [("math/bits.deBruijn32tab", Rows.laid_math_bits_deBruijn32tab), ("math/bits.deBruijn64tab", Rows.laid_math_bits_deBruijn64tab), ("internal/strconv.uint64pow10", Rows.laid_internal_strconv_uint64pow10), ("strconv.ErrRange", Rows.laid_strconv_ErrRange), ("strconv.ErrSyntax", Rows.laid_strconv_ErrSyntax)]
theorem pow10_of_laid {W : World} (h : laidMetH Tryz.prog laid9 W) : Pow10 W := by
  rw [MakeChecks.laidMetH_plain _ _ _ (by kernel_rfl)] at h
  have h2 := laidMet.tail (laidMet.tail h)
  exact Lib.tabIs_of_head (g := 2) (t := 270) (e := 221) (n := 20) (by kernel_rfl) (by kernel_rfl) (by kernel_rfl) (by kernel_rfl) (by kernel_rfl) (by kernel_rfl) h2
theorem returnsInHanded_shape {H : Type} {enc : TypeId × Value → H} {a : Assume} {C : Checked} {os : Os} {f : FuncId} {fn : Func} {s : ChangeSpec} {conds : List PathCond} {apart fresh handsOn again : Bool} {X : World → Array Value → Prop}
    (hX : ∀ (w w' : World) (args : Array Value), w.heap = w'.heap → X w args → X w' args)
    (own : ownKnob C.prog.godebug = none) (started : os.Started) (noInit : C.prog.inits.idxOf? f = none) (hfn : C.prog.funcs[f]? = some fn)
    (witness : ∃ (w : World) (tape : Tape) (i : Input), w.os = os ∧ (w.forCall tape i).Shaped C.prog ∧ i.vars = [] ∧ Input.okWide C.prog (w.forCall tape i) .any w.heap.size f i ∧
      ((s.pre enc C.prog fn conds apart (w.forCall tape i).memory i.args ∧ X (w.forCall tape i).memory i.args) ∧ sizedMet enc C.prog fn (OpenSpec.ofChange s) apart (w.forCall tape i).memory i.args) ∧ a.holds C.prog (lone (Frame.enter C.prog f i.args .normal) [] (w.forCall tape i)))
    (contract : ∀ (W : World) (base : Nat) (args : Array Value) (ds gs : List (DataW H)) (before : List MemPlace),
      (∀ (j : Nat) t v, fn.params[j]? = some t → args[j]? = some v → Value.okWide C.prog W .any base t v) →
      DataW.Whole enc C.prog fn.params.toList s.vars apart W args.toList ds gs before →
      conds.all (PathCond.test C.prog ⟨fn.params.toList, ds, s.plain.varTypes C.prog, gs⟩) = true →
      (DataW.weightsEach C.prog (fn.params.toList ++ s.plain.varTypes C.prog) (ds ++ gs)).all (· ≤ reachBytes) = true → X W args →
      W.ShapedOpen C.prog →
      a.holds C.prog (lone (Frame.enter C.prog f args .normal) [] W) →
      Calls C.prog f args W fun e W' => ∃ v, e = .returned v ∧ s.post enc C.prog fn apart fresh handsOn again W args v W') :
    ReturnsInHanded a C os f .any (fun w args => (s.pre enc C.prog fn conds apart w args ∧ X w args) ∧ sizedMet enc C.prog fn (OpenSpec.ofChange s) apart w args) (s.post enc C.prog fn apart fresh handsOn again) := by
  refine returnsInHanded_of_calls own started noInit witness ?_
  intro w tape i _ hsh _ hok hpre hholds
  obtain ⟨_, _, _, fn', hfn', _, _, _, _, hval⟩ := hok
  have e : fn' = fn := Option.some.inj (hfn'.symm.trans hfn)
  subst e
  obtain ⟨⟨⟨ds, gs, before, hw, hc⟩, hx⟩, hz⟩ := hpre
  have hw' := DataW.Whole.of_heap (w' := w.forCall tape i) (by rfl) hw
  refine (contract (w.forCall tape i) w.heap.size i.args ds gs before hval hw' hc (hz.weights hw) (hX _ _ _ (by rfl) hx) hsh hholds).mono fun e W' ⟨v, he, hp⟩ => ?_
  subst he
  exact ChangeSpec.post_blind hp

theorem door_met7 (os : Os) (args : Array Value) : laidMetH Tryz.prog laid9 ((World.laidAll Tryz.prog os laid9).forCall (fun _ _ => 0) ⟨#[], args, []⟩).memory := by
  rw [MakeChecks.laidMetH_plain _ _ _ (by kernel_rfl)]; exact laidMet_laidAll _ (by kernel_rfl) (by kernel_rfl)
end Go.Proofs.YtjihfabhgcfjnaaGreatDoor
/- What the laid variables give a walk of chapter 09 that reads numbers of any size: LibT. -/
namespace Go.Proofs.YtjihfabhgcfjnaaGreatDoor
set_option linter.unusedVariables false
set_option linter.unusedSimpArgs false
open Go.ChangeShapes Go.WideShapes Go.ChangeAt Go.RowKit

theorem errRow (u : TypeId) (h : Tryz.prog.typeName? 3 u = some "*errors.errorString") : u = 275 :=
  typeName_ptr_named (nm := "errors.errorString") (by rw [show "*" ++ "errors.errorString" = "*errors.errorString" by decide]; kernel_rfl) (by kernel_rfl) (by decide) u (by rw [show "*" ++ "errors.errorString" = "*errors.errorString" by decide]; exact h)
theorem libT_of {W : World} (h : laidMetH Tryz.prog laid9 W) : LibT W := by
  have hp := pow10_of_laid h
  rw [MakeChecks.laidMetH_plain _ _ _ (by kernel_rfl)] at h
  have h2 := laidMet.tail (laidMet.tail h)
  refine ⟨hp, ?_⟩
  have h4 := laidMet.tail h2
  obtain ⟨a, s, hv, -⟩ := laid_sentinel (g := 1) (ti := 218) (tp := 275) (te := 277) (ts := 9) (ms := _) (f := _) h4 (by kernel_rfl) (by kernel_rfl) Tryz.underlying218 errRow Tryz.underlying275 Tryz.underlying277 rfl rfl Tryz.underlying9 (by kernel_rfl) (by kernel_rfl)
  have hc := World.var?_cell (show Tryz.prog.globalNamed "strconv.ErrRange" = some 1 by kernel_rfl) hv 0
  exact ⟨_, _, by simpa using hc⟩
theorem pow_lt {W : World} (h : Pow10 W) : 2 < W.heap.size := by
  unfold Pow10 Lib.TabIs at h
  have hg : Tryz.prog.globalNamed "internal/strconv.uint64pow10" = some 2 := by kernel_rfl
  by_cases hlt : 2 < W.heap.size
  · exact hlt
  · simp [World.var?, hg, Array.getElem?_eq_none (show W.heap.size ≤ 2 by omega)] at h
end Go.Proofs.YtjihfabhgcfjnaaGreatDoor
