/- Merged: RowF, TmpK, TmpL, RegF, TmpM, TmpT. -/
import Derived.Test.YtehknemdfbkimaaGreatDoorSAY
import Derived.Test.YtehknemdfbkimaaGreatDoorSAT
import Derived.Laws.Rows
import Derived.Test.YtehknemdfbkimaaGreatDoorShelfB
import Derived.Lib.Builder
import Derived.Lib.AppendStr
/- Rows of ints in blocks of their own, that a loop fills; law 09's fits. -/
namespace Go.Proofs.YtehknemdfbkimaaGreatDoor
set_option linter.unusedVariables false
set_option linter.unusedSimpArgs false
open Go.RowKit

/-- A row of ints at a block. -/
structure RowF (w : World) (g : Nat) (xs : List Int) : Prop where
  lt : g < w.heap.size
  cell : ∀ (j : Nat) x, xs[j]? = some x → w.cell? ⟨g, j, none⟩ = some (.int .i64 x)
  free : ∀ j, w.frozen? ⟨g, j, none⟩ = false
theorem RowF.same {w w' : World} {g : Nat} {xs : List Int} (h : RowF w g xs) (hs : w.heap.size ≤ w'.heap.size) (hg : w'.heap[g]? = w.heap[g]?) : RowF w' g xs :=
  ⟨Nat.lt_of_lt_of_le h.lt hs, fun j x hx => by rw [← h.cell j x hx]; unfold World.cell?; simp only [hg], fun j => by rw [← h.free j]; unfold World.frozen?; simp only [hg]⟩
theorem RowF.ext {w w' : World} {g : Nat} {xs : List Int} (h : RowF w g xs) (he : Ext w w') : RowF w' g xs := h.same he.size (he.block g h.lt)
theorem RowF.ofOwn {w : World} {B g n c : Nat} {xs : List Int} (h : w.ownsRow B 3 1 (.slice (some ⟨g, 0, none⟩) n c) n (xs.map (Value.int .i64 ·))) : RowF w g xs := by
  have hl := h.lt g (by simp [Value.ownBlock])
  have hc := h.cells (g := g) (by simp [Value.ownBlock])
  refine ⟨hl.2, fun j x hx => ?_, fun j => h.frozenAt j⟩
  have := hc j (.int .i64 x) (by rw [List.getElem?_map, hx]; rfl)
  rw [show (⟨g, 0, none⟩ : Addr).add j = ⟨g, j, none⟩ by unfold Addr.add; split <;> simp_all] at this
  exact this
theorem RowF.other {w : World} {g b i : Nat} {xs : List Int} (h : RowF w g xs) (hne : g ≠ b) (y : Value) : RowF (w.setCell ⟨b, i, none⟩ y) g xs :=
  h.same (by simp [World.setCell]) (Below.heap_setCell _ _ _ _ hne)
theorem RowF.set {w : World} {g : Nat} {xs : List Int} (h : RowF w g xs) (k : Nat) (hk : k < xs.length) (y : Int) : RowF (w.setCell ⟨g, k, none⟩ (.int .i64 y)) g (xs.set k y) := by
  refine ⟨by simp only [World.setCell, Array.size_modify]; exact h.lt, fun j x hj => ?_, fun j => ?_⟩
  · rw [List.getElem?_set] at hj
    by_cases e : k = j
    · subst e
      rw [if_pos rfl, if_pos hk] at hj
      cases hj
      exact World.cell?_setCell_same w _ _ (h.cell k _ (List.getElem?_eq_getElem hk))
    · rw [if_neg e] at hj
      rw [World.cell?_setCell_other _ _ _ _ (by intro e2; simp only [Addr.mk.injEq] at e2; omega)]
      exact h.cell j x hj
  · rw [← h.free j]; exact World.frozen?_setCell ..
theorem RowF.ints {w : World} {g m : Nat} {xs : List Int} (h : RowF w g xs) (hm : xs.length ≤ m) (hm2 : m ≤ maxLen) (hb : ∀ x ∈ xs, -9223372036854775808 ≤ x ∧ x ≤ 9223372036854775807) : Ints w (.slice (some ⟨g, 0, none⟩) xs.length m) xs := by
  refine ⟨xs.map fun x => [Value.int .i64 x], by simp, by intro u hu; obtain ⟨x, _, rfl⟩ := List.mem_map.1 hu; rfl, ?_, fun j u x hu hx => ?_⟩
  · refine ⟨some ⟨g, 0, none⟩, m, rfl, hm, hm2, (fun e => by cases e), fun _ => ⟨g, 0, rfl, h.lt, fun j u hu => ?_⟩⟩
    rw [flatten_one, List.getElem?_map] at hu
    cases hx : xs[j]? with
    | none => rw [hx] at hu; cases hu
    | some x => rw [hx] at hu; cases hu; rw [Nat.zero_add]; exact h.cell j x hx
  · rw [List.getElem?_map, hx] at hu
    cases hu
    exact ⟨rfl, hb x (List.mem_of_getElem? hx)⟩

end Go.Proofs.YtehknemdfbkimaaGreatDoor
/- Contracts of laws 12 and 18: Primes, Interval, build. -/
namespace Go.Proofs.YtehknemdfbkimaaGreatDoor
set_option linter.unusedVariables false
set_option linter.unusedSimpArgs false
open Go.RowKit

end Go.Proofs.YtehknemdfbkimaaGreatDoor
/- Contracts of laws 12 and 18: Interval, build. -/
namespace Go.Proofs.YtehknemdfbkimaaGreatDoor
set_option linter.unusedVariables false
set_option linter.unusedSimpArgs false
open Go.RowKit

end Go.Proofs.YtehknemdfbkimaaGreatDoor
/- A region that draws its order: more than one operation can come up, each is followed; a whole block loaded. -/
namespace Go.Proofs.YtehknemdfbkimaaGreatDoor
set_option linter.unusedVariables false
section
variable {P : Program} {ops : Array Oper} {Q : Exit → Act → World → Prop} {md : Region.Mode} {S : World → Prop} {z : Nat}
end
end Go.Proofs.YtehknemdfbkimaaGreatDoor
/- Contract of law 18: Make: the temperament of a plan. -/
namespace Go.Proofs.YtehknemdfbkimaaGreatDoor
set_option linter.unusedVariables false
set_option linter.unusedSimpArgs false
open Go.RowKit

/-- The temperament of few small rows: the forms of its commas and of its mapping. -/
structure TempF (n F : Nat) (P : List Int) (m C M : List (List Int)) (vals : Bool) : Prop where
  right : RightT n F P C M
  left : RightT n F P M C
  hC : ∃ ps, HForm n C ps
  hM : ∃ ps, HForm n M ps
  spC : ∀ v, Sp n (RowsFrom 0 C) v ↔ if vals then Ann n m v else Sat n m v
  spM : ∀ v, Sp n (RowsFrom 0 M) v ↔ if vals then Sat n m v else Ann n m v
  rank : M.length + C.length = n
  lC : C.length ≤ 4
  lM : M.length ≤ 4
  bC : ∀ x ∈ C, RowLe 629856 x ∧ x.length = n
  bM : ∀ x ∈ M, RowLe 629856 x ∧ x.length = n
end Go.Proofs.YtehknemdfbkimaaGreatDoor
/- The text builder of package strings, as this program holds it: WriteString, WriteByte, String. -/
namespace Go.Proofs.YtehknemdfbkimaaGreatDoor
set_option linter.unusedVariables false
set_option linter.unusedSimpArgs false
open Go.RowKit

/-- Blocks of other types stay as they are. -/
def KeepsT (w w' : World) : Prop := ∀ (k : Nat) (C : Array Value) (T : TypeId) (fr : Nat × Nat), w.heap[k]? = some (.cells C T fr) → T ≠ 5 → T ≠ 138 → w'.heap[k]? = some (.cells C T fr)
theorem KeepsT.refl (w : World) : KeepsT w w := fun _ _ _ _ h _ _ => h
theorem KeepsT.trans {a b c : World} (h : KeepsT a b) (k : KeepsT b c) : KeepsT a c := fun i C T fr hi h1 h2 => k i C T fr (h i C T fr hi h1 h2) h1 h2
theorem KeepsT.ext {a b : World} (h : Ext a b) : KeepsT a b := fun i C T fr hi _ _ => block_ext hi h
theorem KeepsT.set {w : World} {b i : Nat} {x : Value} {C : Array Value} {fr : Nat × Nat} (h : w.heap[b]? = some (.cells C 138 fr)) : KeepsT w (w.setCell ⟨b, i, none⟩ x) := fun k C' T fr' hk _ h2 => by
  have hne : k ≠ b := fun e => by subst e; rw [h] at hk; cases hk; exact h2 rfl
  exact (setCell_heap_other _ _ _ _ _ hne).trans hk
abbrev TB (b : Nat) (bs : List Value) (B : Nat) (w : World) : Prop := Lib.IsBuilder 138 5 B b bs w
theorem builderSize : (Tryz.prog.info? 138).map (·.size) = some 2 := by kernel_rfl
set_option maxRecDepth 100000 in
set_option maxHeartbeats 1000000 in
theorem copyCheck_used (b : Nat) (w : World) (h0 : w.cell? ⟨b, 0, none⟩ = some (.pointer (some ⟨b, 0, none⟩))) :
    Calls Tryz.prog 154 #[.pointer (some ⟨b, 0, none⟩)] w fun e w' => e = .returned (.tuple #[]) ∧ w = w' := by
  obtain ⟨j, hj, -⟩ := Option.map_eq_some_iff.1 builderSize
  go_enter Tryz.func154, Tryz.ntmps154
  go_wp2
  rw [Lib.run_neq_ptr_same w _ Tryz.underlying135 hj]
  go_wp2
  go_end0
  exact ⟨rfl, rfl⟩
set_option maxRecDepth 100000 in
set_option maxHeartbeats 1000000 in
theorem copyCheck_fresh (b : Nat) (w : World) (h0 : w.cell? ⟨b, 0, none⟩ = some (.pointer none)) (hsh : w.shape? b = some (138, 2)) (hfz : w.frozen? ⟨b, 0, none⟩ = false) :
    Calls Tryz.prog 154 #[.pointer (some ⟨b, 0, none⟩)] w fun e w' => e = .returned (.tuple #[]) ∧ w' = w.setCell ⟨b, 0, none⟩ (.pointer (some ⟨b, 0, none⟩)) := by
  obtain ⟨j, hj, hjs⟩ := Option.map_eq_some_iff.1 builderSize
  go_enter Tryz.func154, Tryz.ntmps154
  go_wp2
  rw [Lib.run_to_unsafe w ⟨b, 0, none⟩ Tryz.underlying135 Tryz.underlying222 hj (by rw [hjs]; decide) hsh (Nat.zero_lt_succ 1)]
  simp only [Result.andThen]
  rw [Oper.upon_value]
  go_wp2
  rw [run_callFunc_extern Tryz.func193 (by kernel_rfl) (by kernel_rfl) (by kernel_rfl) (e := Extern.AbiNoEscape.same) (by kernel_rfl)]
  rw [Lib.run_noEscape]
  simp only [Result.andThen]
  rw [Oper.upon_value]
  go_wp2
  rw [Lib.run_from_unsafe w ⟨b, 0, none⟩ Tryz.underlying222 Tryz.underlying135 hj hsh (by kernel_rfl)]
  simp only [Result.andThen]
  rw [Oper.upon_value]
  go_wp2
  go_end0
  exact ⟨rfl, rfl⟩
theorem copyCheck_any (B b : Nat) (bs : List Value) (w : World) (h : TB b bs B w) :
    Calls Tryz.prog 154 #[.pointer (some ⟨b, 0, none⟩)] w fun e w' => e = .returned (.tuple #[]) ∧ Lib.BuilderAt 138 5 B b (.pointer (some ⟨b, 0, none⟩)) bs w' ∧ Below B w w' ∧ KeepsT w w' := by
  rcases h with h | h
  · refine (copyCheck_fresh b w h.cell0 h.shape h.frozen0).mono ?_
    rintro e w' ⟨h1, rfl⟩
    obtain ⟨v, hb, -⟩ := h.2
    exact ⟨h1, h.used _, (Below.refl B w).setCell (p := ⟨b, 0, none⟩) h.1 _, KeepsT.set hb⟩
  · refine (copyCheck_used b w h.cell0).mono ?_
    rintro e w' ⟨h1, rfl⟩
    exact ⟨h1, h, Below.refl B _, KeepsT.refl _⟩
theorem infoByte8 : (Tryz.prog.info? 5).map (fun i => (i.zero, i.size, i.bytes)) = some (some (.int .u8 0), 1, 1) := by kernel_rfl
set_option maxRecDepth 100000 in
set_option maxHeartbeats 4000000 in
theorem writeString_any (B b : Nat) (bs : List Value) (s : ByteArray) (w : World) (h : TB b bs B w) (hlen : bs.length + s.size ≤ 1000000000) (hBw : B ≤ w.heap.size) :
    Calls Tryz.prog 99 #[.pointer (some ⟨b, 0, none⟩), .string s] w fun e w' => e = .returned (.tuple #[.int .i64 s.size, .nilIface]) ∧ TB b (bs ++ Lib.strCells s) B w' ∧ Below B w w' ∧ KeepsT w w' := by
  obtain ⟨i0, hi, hz0, hz1, hz2⟩ := info_parts infoByte8
  have HI := Lib.hid hi; have HZ0 := Lib.hid hz0; have HZ1 := Lib.hid hz1; have HZ2 := Lib.hid hz2
  have HCC := Lib.hid (copyCheck_any B b bs w h)
  clear hi hz0 hz1 hz2 h
  go_enter Tryz.func99, Tryz.ntmps99
  go_wp2_with fail
  refine HCC.out.mono ?_
  rintro e w1 ⟨rfl, h1, hb1, hkt⟩
  have HKT := Lib.hid hkt
  obtain ⟨hB, v, hbk, hown, hne⟩ := h1
  have HBK := Lib.hid hbk; have HOW := Lib.hid hown; have HNE := Lib.hid hne; have HB1 := Lib.hid hb1
  have c1 : w1.cell? ⟨b, 1, none⟩ = some v := by rw [Lib.cell_of_heap hbk]; rfl
  have c0 : w1.cell? ⟨b, 0, none⟩ = some (.pointer (some ⟨b, 0, none⟩)) := by rw [Lib.cell_of_heap hbk]; rfl
  have hs1 : B ≤ w1.heap.size := Nat.le_trans hBw hb1.size
  clear hbk hown hne hb1 HCC hkt
  go_wp2_with (at_builtin; refine Lib.wpList_append_own_string _ rfl _ _ 136 9 rfl B 5 i0 Tryz.underlying136 Tryz.underlying9 HI.out HZ0.out HZ1.out HZ2.out _ _ _ rfl HOW.out s rfl ?c3 ?c4 ?c5 ?_)
  case c3 => unfold maxLen; omega
  case c4 => omega
  case c5 => exact hs1
  intro v' w2 hown' hgrow _
  have hlt : b < w1.heap.size := block_lt HBK.out
  have hb2 : w2.heap[b]? = some (.cells #[.pointer (some ⟨b, 0, none⟩), v] 138 (0, 0)) := by
    rw [hgrow.block b hlt (fun e => HNE.out e.symm)]; exact HBK.out
  have d1 : w2.cell? ⟨b, 1, none⟩ = some v := by rw [Lib.cell_of_heap hb2]; rfl
  have f1 : w2.frozen? ⟨b, 1, none⟩ = false := Lib.frozen_of_heap hb2 1
  obtain ⟨ao, n', cap, rfl⟩ : ∃ ao n' cap, v' = .slice ao n' cap := by
    rcases hown'.2 with ⟨hv, _⟩ | ⟨g, cap, cur, hv, _⟩
    · exact ⟨_, _, _, hv⟩
    · exact ⟨_, _, _, hv⟩
  have HP : Hid (TB b (bs ++ Lib.strCells s) B (w2.setCell ⟨b, 1, none⟩ (.slice ao n' cap))) := .inr (Lib.BuilderAt.put hB hb2 (bs' := bs ++ Lib.strCells s) (by simpa [Lib.strCells_length] using hown') (by decide))
  have HK2 : Hid (KeepsT w (w2.setCell ⟨b, 1, none⟩ (.slice ao n' cap))) := HKT.out.trans (KeepsT.trans (b := w2) (fun k C T fr hk h1 h2 => (hgrow.block k (block_lt hk) (fun e => owns_ne_block HOW.out hk (fun e2 => h1 e2.symm) e.symm)).trans hk) (KeepsT.set hb2))
  have HX : Hid (Below B w (w2.setCell ⟨b, 1, none⟩ (.slice ao n' cap))) := (HB1.out.grown hgrow hs1 (fun k hk => (HOW.out.lt k hk).1)).setCell (p := ⟨b, 1, none⟩) hB _
  clear hown' hgrow hb2
  go_wp2_with fail
  go_ret2
  exact ⟨rfl, HP.out, HX.out, HK2.out⟩
set_option maxRecDepth 100000 in
set_option maxHeartbeats 4000000 in
theorem writeByte_any (B b : Nat) (bs : List Value) (c : Int) (w : World) (h : TB b bs B w) (hlen : bs.length + 1 ≤ 1000000000) (hBw : B ≤ w.heap.size) :
    Calls Tryz.prog 101 #[.pointer (some ⟨b, 0, none⟩), .int .u8 c] w fun e w' => e = .returned .nilIface ∧ TB b (bs ++ [.int .u8 c]) B w' ∧ Below B w w' ∧ KeepsT w w' := by
  obtain ⟨i0, hi, hz0, hz1, hz2⟩ := info_parts infoByte8
  have HI := Lib.hid hi; have HZ0 := Lib.hid hz0; have HZ1 := Lib.hid hz1; have HZ2 := Lib.hid hz2
  have HCC := Lib.hid (copyCheck_any B b bs w h)
  clear hi hz0 hz1 hz2 h
  go_enter Tryz.func101, Tryz.ntmps101
  go_wp2_with fail
  refine HCC.out.mono ?_
  rintro e w1 ⟨rfl, h1, hb1, hkt⟩
  have HKT := Lib.hid hkt
  obtain ⟨hB, v, hbk, hown, hne⟩ := h1
  have HBK := Lib.hid hbk; have HOW := Lib.hid hown; have HNE := Lib.hid hne; have HB1 := Lib.hid hb1
  have c1 : w1.cell? ⟨b, 1, none⟩ = some v := by rw [Lib.cell_of_heap hbk]; rfl
  have c0 : w1.cell? ⟨b, 0, none⟩ = some (.pointer (some ⟨b, 0, none⟩)) := by rw [Lib.cell_of_heap hbk]; rfl
  have hs1 : B ≤ w1.heap.size := Nat.le_trans hBw hb1.size
  clear hbk hown hne hb1 HCC hkt
  go_wp2_with (at_builtin; refine wpList_append_own _ rfl _ _ 136 rfl B 5 i0 (.int .u8 0) 1 1 Tryz.underlying136 HI.out HZ0.out HZ1.out HZ2.out rfl (by decide) _ _ _ rfl (HOW.out.alloc _) ⟨w1.heap.size, 0, none⟩ 1 1 [.int .u8 c] rfl rfl ?c1 ?c2 ?c3 ?c4 ?c5 ?_)
  case c1 =>
    intro j u hj
    match j, hj with
    | 0, hj => simp at hj; subst hj; simp [Addr.add]
  case c2 => intro u hu; simp at hu; subst hu; rfl
  case c3 => unfold maxLen; omega
  case c4 => omega
  case c5 => simp; omega
  intro v' w2 hown' hgrow _
  have hlt : b < w1.heap.size := block_lt HBK.out
  have hb2 : w2.heap[b]? = some (.cells #[.pointer (some ⟨b, 0, none⟩), v] 138 (0, 0)) := by
    rw [hgrow.block b (by simp; omega) (fun e => HNE.out e.symm), Lib.alloc_old w1 _ b hlt]; exact HBK.out
  have d1 : w2.cell? ⟨b, 1, none⟩ = some v := by rw [Lib.cell_of_heap hb2]; rfl
  have f1 : w2.frozen? ⟨b, 1, none⟩ = false := Lib.frozen_of_heap hb2 1
  obtain ⟨ao, n', cap, rfl⟩ : ∃ ao n' cap, v' = .slice ao n' cap := by
    rcases hown'.2 with ⟨hv, _⟩ | ⟨g, cap, cur, hv, _⟩
    · exact ⟨_, _, _, hv⟩
    · exact ⟨_, _, _, hv⟩
  have HP : Hid (TB b (bs ++ [.int .u8 c]) B (w2.setCell ⟨b, 1, none⟩ (.slice ao n' cap))) := .inr (Lib.BuilderAt.put hB hb2 (bs' := bs ++ [.int .u8 c]) (by simpa using hown') (by decide))
  have HK2 : Hid (KeepsT w (w2.setCell ⟨b, 1, none⟩ (.slice ao n' cap))) := HKT.out.trans (KeepsT.trans (b := w2) (fun k C T fr hk h1 h2 => (hgrow.block k (by have := block_lt hk; simp; omega) (fun e => owns_ne_block HOW.out hk (fun e2 => h1 e2.symm) e.symm)).trans (by rw [Lib.alloc_old w1 _ k (block_lt hk)]; exact hk)) (KeepsT.set hb2))
  have HX : Hid (Below B w (w2.setCell ⟨b, 1, none⟩ (.slice ao n' cap))) := ((HB1.out.alloc hs1 _).grown hgrow (by simp; omega) (fun k hk => (HOW.out.lt k hk).1)).setCell (p := ⟨b, 1, none⟩) hB _
  clear hown' hgrow hb2
  go_wp2_with fail
  go_ret
  exact ⟨rfl, HP.out, HX.out, HK2.out⟩
/-- A builder that holds a text. -/
def TBy (b : Nat) (L : List UInt8) (B : Nat) (w : World) : Prop := TB b (Lib.byteCells L) B w
theorem byteCells_app (a b : List UInt8) : Lib.byteCells (a ++ b) = Lib.byteCells a ++ Lib.byteCells b := by unfold Lib.byteCells; rw [List.map_append]
theorem writeS_any (B b : Nat) (L l : List UInt8) (w : World) (h : TBy b L B w) (hlen : L.length + l.length ≤ 1000000000) (hBw : B ≤ w.heap.size) :
    Calls Tryz.prog 99 #[.pointer (some ⟨b, 0, none⟩), .string ⟨l.toArray⟩] w fun e w' => ∃ v, e = .returned (.tuple #[.int .i64 v, .nilIface]) ∧ TBy b (L ++ l) B w' ∧ Below B w w' ∧ KeepsT w w' :=
  (writeString_any B b (Lib.byteCells L) ⟨l.toArray⟩ w h (by rw [Lib.byteCells_length]; show _ + l.toArray.size ≤ _; simpa using hlen) hBw).mono fun e w' ⟨h1, h2, h3, h4⟩ => ⟨_, h1, by unfold TBy; rw [byteCells_app, ← Lib.strCells_toArray]; exact h2, h3, h4⟩
theorem writeB_any (B b : Nat) (L : List UInt8) (w : World) (h : TBy b L B w) (hlen : L.length + 1 ≤ 1000000000) (hBw : B ≤ w.heap.size) :
    Calls Tryz.prog 101 #[.pointer (some ⟨b, 0, none⟩), .int .u8 32] w fun e w' => e = .returned .nilIface ∧ TBy b (L ++ [32]) B w' ∧ Below B w w' ∧ KeepsT w w' :=
  (writeByte_any B b (Lib.byteCells L) 32 w h (by rw [Lib.byteCells_length]; exact hlen) hBw).mono fun e w' ⟨h1, h2, h3, h4⟩ => ⟨h1, by unfold TBy; rw [byteCells_app]; exact h2, h3, h4⟩
theorem TBy.ext {b B : Nat} {L : List UInt8} {w w' : World} (h : TBy b L B w) (he : Ext w w') : TBy b L B w' := by
  have key : ∀ p, Lib.BuilderAt 138 5 B b p (Lib.byteCells L) w → Lib.BuilderAt 138 5 B b p (Lib.byteCells L) w' := fun p ⟨h1, v, h2, h3, h4⟩ => ⟨h1, v, block_ext h2 he, owns_ext h3 he, h4⟩
  rcases h with h | h
  · exact .inl (key _ h)
  · exact .inr (key _ h)
theorem textOf_any (B b : Nat) (L : List UInt8) (w : World) (h : TBy b L B w) (hBw : B ≤ w.heap.size) :
    Calls Tryz.prog 102 #[.pointer (some ⟨b, 0, none⟩)] w fun e w' => e = .returned (.string ⟨L.toArray⟩) ∧ Below B w w' :=
  Tryz.Builder_String_any B b L w h hBw
end Go.Proofs.YtehknemdfbkimaaGreatDoor
