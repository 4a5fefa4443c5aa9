/- Merged: LongsOf, LShort, LatErr, Behind. -/
import Derived.Test.YtjihfabhgcfjnaaGreatDoorQAP
import Derived.Test.YtjihfabhgcfjnaaGreatDoorQAF
import Derived.Test.YtjihfabhgcfjnaaGreatDoorQAO
/- Matrices that a call builds row by row: an outer row of its own, rows in blocks apart. -/
namespace Go.Proofs.YtjihfabhgcfjnaaGreatDoor
set_option linter.unusedVariables false
set_option linter.unusedSimpArgs false
open Go.RowKit

theorem infoLong : (Tryz.prog.info? 159).map (fun i => (i.zero, i.size, i.bytes)) = some (some (.slice none 0 0), 1, 24) := by kernel_rfl

def tagV (t : Nat × Nat × Nat) (n : Nat) : Value := .slice (some ⟨t.1, t.2.1, none⟩) n t.2.2
def tagVs (tags : List (Nat × Nat × Nat)) (m : List (List Int)) : List Value := List.zipWith (fun t r => tagV t r.length) tags m
/-- A matrix in the making: its outer row is the call's own, its rows lie in blocks apart. -/
structure LongsB (w : World) (ob base : Nat) (v : Value) (tags : List (Nat × Nat × Nat)) (m : List (List Int)) : Prop where
  len : tags.length = m.length
  own : w.ownsRow ob 159 1 v m.length (tagVs tags m)
  row : ∀ (i : Nat) t r, tags[i]? = some t → m[i]? = some r → r.length ≤ t.2.2 ∧ t.2.2 ≤ maxLen ∧ RowB w t.1 t.2.1 r ∧ base ≤ t.1 ∧ v.ownBlock ≠ some t.1
  nodup : (tags.map (·.1)).Nodup
theorem LongsB.nil (w : World) (ob base : Nat) : LongsB w ob base (.slice none 0 0) [] [] :=
  ⟨rfl, World.ownsRow_nil _ _ _ _, by intro i t r h; simp at h, by simp⟩
theorem LongsB.ext {w w' : World} {ob base : Nat} {v : Value} {tags : List (Nat × Nat × Nat)} {m : List (List Int)} (h : LongsB w ob base v tags m) (he : Ext w w') : LongsB w' ob base v tags m :=
  ⟨h.len, owns_ext h.own he, fun i t r ht hr => by
    obtain ⟨h1, h2, h3, h4, h5⟩ := h.row i t r ht hr
    exact ⟨h1, h2, h3.ext he, h4, h5⟩, h.nodup⟩
/-- One row more. -/
theorem LongsB.snoc {w w' : World} {ob base : Nat} {v v' : Value} {tags : List (Nat × Nat × Nat)} {m : List (List Int)} (h : LongsB w ob base v tags m) (t : Nat × Nat × Nat) (r : List Int) (hr1 : r.length ≤ t.2.2) (hr2 : t.2.2 ≤ maxLen) (hR : RowB w t.1 t.2.1 r) (hb : base ≤ t.1) (hv : v.ownBlock ≠ some t.1) (hn : t.1 ∉ tags.map (·.1))
    (hown : w'.ownsRow ob 159 1 v' (m.length + 1) (tagVs tags m ++ [tagV t r.length])) (hg : w.grownBy w' v.ownBlock) (hat : v'.ownBlock = v.ownBlock ∨ ∃ b, v'.ownBlock = some b ∧ w.heap.size ≤ b) :
    LongsB w' ob base v' (tags ++ [t]) (m ++ [r]) := by
  have hkeep : ∀ (s : Nat × Nat × Nat) q, RowB w s.1 s.2.1 q → v.ownBlock ≠ some s.1 → RowB w' s.1 s.2.1 q ∧ v'.ownBlock ≠ some s.1 := fun s q hs hvs => by
    refine ⟨hs.same hg.size (hg.block s.1 hs.lt hvs.symm), fun e => ?_⟩
    rcases hat with e2 | ⟨b, e2, e3⟩
    · exact hvs (e2.symm.trans e)
    · rw [e2] at e; cases e; have := hs.lt; omega
  refine ⟨by simp [h.len], ?_, fun i s q hs hq => ?_, ?_⟩
  · have e : tagVs (tags ++ [t]) (m ++ [r]) = tagVs tags m ++ [tagV t r.length] := by
      unfold tagVs; rw [List.zipWith_append h.len]; rfl
    rw [e, List.length_append]; exact hown
  · by_cases hi : i < tags.length
    · rw [List.getElem?_append_left hi] at hs
      rw [List.getElem?_append_left (by rw [← h.len]; exact hi)] at hq
      obtain ⟨h1, h2, h3, h4, h5⟩ := h.row i s q hs hq
      obtain ⟨k1, k2⟩ := hkeep s q h3 h5
      exact ⟨h1, h2, k1, h4, k2⟩
    · rw [List.getElem?_append_right (by omega)] at hs
      rw [List.getElem?_append_right (by rw [← h.len]; omega)] at hq
      have e1 : i - tags.length = 0 := by have := (List.getElem?_eq_some_iff.1 hs).1; simp at this; omega
      have e2 : i - m.length = 0 := by rw [← h.len]; exact e1
      rw [e1] at hs
      rw [e2] at hq
      simp only [List.getElem?_cons_zero, Option.some.injEq] at hs hq
      subst hs; subst hq
      obtain ⟨k1, k2⟩ := hkeep t r hR hv
      exact ⟨hr1, hr2, k1, hb, k2⟩
  · rw [List.map_append, List.nodup_append]
    refine ⟨h.nodup, by simp, ?_⟩
    intro a ha b hb2 e
    simp only [List.map_cons, List.map_nil, List.mem_singleton] at hb2
    subst e; subst hb2
    exact hn ha
/-- The matrix built, as one in place. -/
theorem LongsB.mat {w : World} {ob base : Nat} {g cap : Nat} {tags : List (Nat × Nat × Nat)} {m : List (List Int)} (h : LongsB w ob base (.slice (some ⟨g, 0, none⟩) m.length cap) tags m) (hob : base ≤ ob) :
    MatB w g tags m ∧ m.length ≤ cap ∧ cap ≤ maxLen ∧ ∀ b, blocksOf g tags b → base ≤ b := by
  have hc := h.own.cells (g := g) (by simp [Value.ownBlock])
  have hf := fun j => h.own.frozenAt j
  rcases h.own.2 with ⟨hv, _⟩ | ⟨g', cap', cur, hv, hb, hg, h1, h2, h3, h4⟩
  · simp at hv
  · simp only [Value.slice.injEq, Option.some.injEq, Addr.mk.injEq] at hv
    obtain ⟨⟨rfl, -, -⟩, -, rfl⟩ := hv
    refine ⟨⟨h.len, (Array.getElem?_eq_some_iff.1 hg).1, fun j => hf j, fun i t r ht hr => ?_, ?_⟩, h1, h2, fun b hb2 => ?_⟩
    · obtain ⟨k1, k2, k3, k4, k5⟩ := h.row i t r ht hr
      refine ⟨?_, k1, k2, k3⟩
      have := hc i (tagV t r.length) (by unfold tagVs; rw [List.getElem?_zipWith, ht, hr])
      rw [show (⟨g, 0, none⟩ : Addr).add i = ⟨g, i, none⟩ by unfold Addr.add; split <;> simp_all] at this
      exact this
    · rw [List.nodup_cons]
      refine ⟨fun hm => ?_, h.nodup⟩
      obtain ⟨t, ht, rfl⟩ := List.mem_map.1 hm
      obtain ⟨i, hi⟩ := List.getElem?_of_mem ht
      have hl : i < m.length := by rw [← h.len]; exact (List.getElem?_eq_some_iff.1 hi).1
      exact (h.row i t m[i] hi (List.getElem?_eq_getElem hl)).2.2.2.2 rfl
    · rcases List.mem_cons.1 hb2 with rfl | hb2
      · exact Nat.le_trans hob hb
      · obtain ⟨t, ht, rfl⟩ := List.mem_map.1 hb2
        obtain ⟨i, hi⟩ := List.getElem?_of_mem ht
        have hl : i < m.length := by rw [← h.len]; exact (List.getElem?_eq_some_iff.1 hi).1
        exact (h.row i t m[i] hi (List.getElem?_eq_getElem hl)).2.2.2.1

/-- 'out = append(out, r)': one row more. -/
theorem wpList_append_long (w : World) {ops : Array Oper} {rest : List Oper} {o : Oper} {a : Act} {Q : Exit → Act → World → Prop} (hgd : o.guard = none)
    (s x : Operand) (ho : o.op = Op.call { callee := Callee.builtin Builtin.append, args := #[s, x], argTypes := #[152, 152] }) (ob base : Nat)
    (v : Value) (tags : List (Nat × Nat × Nat)) (m : List (List Int)) (t : Nat × Nat × Nat) (r : List Int) (u : Array Value) (T : TypeId) (hs : a.eval s = v) (hB : LongsB w ob base v tags m)
    (hx : a.eval x = .slice (some ⟨w.heap.size, 0, none⟩) 1 1) (hu : u = #[tagV t r.length]) (hr1 : r.length ≤ t.2.2) (hr2 : t.2.2 ≤ maxLen) (hR : RowB w t.1 t.2.1 r) (hb : base ≤ t.1) (hv : v.ownBlock ≠ some t.1) (hn : t.1 ∉ tags.map (·.1))
    (hlen : m.length < 1000000) (hbase : ob ≤ w.heap.size)
    (h : ∀ v' w', LongsB w' ob base v' (tags ++ [t]) (m ++ [r]) → Below ob w w' → Hid (∃ g c, v' = .slice (some ⟨g, 0, none⟩) (m.length + 1) c) → wpList Tryz.prog ops Q rest (a.put o.dst v') w') :
    wpList Tryz.prog ops Q (o :: rest) a (w.alloc (.cells u T)) := by
  refine wpList_plain hgd fun K hK => ?_
  subst hu
  obtain ⟨i0, hi, hz, hsize, hby⟩ := info_parts infoLong
  have hadd : ∀ j, (⟨w.heap.size, 0, none⟩ : Addr).add j = ⟨w.heap.size, j, none⟩ := by intro j; unfold Addr.add; split <;> simp_all
  have hE : Ext w (w.alloc (.cells #[tagV t r.length] T)) := Ext.alloc _ _
  refine wp_append_own_at (w.alloc (.cells #[tagV t r.length] T)) s x 152 ho ob 159 i0 (.slice none 0 0) 1 24 Tryz.underlying152 hi hz hsize hby rfl (by decide) v m.length (tagVs tags m) hs (owns_ext hB.own hE) ⟨w.heap.size, 0, none⟩ 1 1 [tagV t r.length] hx rfl ?_ ?_ ?_ ?_ ?_ ?_
  · intro j q hq
    rw [hadd, World.cell?_alloc_new]
    simpa using hq
  · intro u hu
    rw [List.mem_singleton.1 hu]; rfl
  · unfold maxLen; omega
  · omega
  · simp; omega
  · intro v' w' hown hgrow _ hat
    have hLB := (hB.ext hE).snoc t r hr1 hr2 (hR.ext hE) hb hv hn hown hgrow (by
      rcases hat with h1 | h1
      · exact .inl h1
      · exact .inr ⟨_, h1, Nat.le_refl _⟩)
    refine hK _ _ (h v' w' hLB ?_ ?_)
    · have hgw : w.grownBy w' v.ownBlock := grown_trans (hE.grown _) hgrow
      refine ⟨hgw.os, hgw.tape, hgw.output, hgw.size, fun b hb2 => hgw.block b (by omega) ?_⟩
      intro e
      have := (hB.own.lt b e.symm).1
      omega
    · obtain ⟨g, c, hv', -⟩ := owns_shape hown (by omega)
      exact ⟨g, c, hv'⟩

set_option maxRecDepth 100000 in
set_option maxHeartbeats 1000000 in
/-- A matrix of ints as one of integers of any size. -/
theorem longsOf_any (xss : List (List Int)) (v : Value) (w : World) (h : Rows2 w v xss) (hlen : xss.length ≤ 1000) (hrow : ∀ xs ∈ xss, xs.length ≤ 1000) (ht : Pow10 w) :
    Calls Tryz.prog 89 #[v] w fun e w' => ∃ v' tags, e = .returned v' ∧ LongsB w' w.heap.size w.heap.size v' tags xss ∧ (v' = .slice none 0 0 ∧ xss = [] ∨ ∃ g c, v' = .slice (some ⟨g, 0, none⟩) xss.length c) ∧ Ext w w' := by
  obtain ⟨a, c, rfl, h1, h2, -, hc⟩ := inCell.open h
  have HC := Lib.hid hc; have HT := Lib.hid ht; have HROW := Lib.hid hrow
  unfold maxLen at h2
  clear h hc ht hrow
  go_enter Tryz.func89, Tryz.ntmps89
  go_wp2_with fail
  go_loopw [3, 8] (fun out t wr => ∃ (j : Nat) (tags : List (Nat × Nat × Nat)), j ≤ xss.length ∧ t = .int .i64 j ∧ Ext w wr ∧ Hid (LongsB wr w.heap.size w.heap.size out tags (xss.take j)) ∧ Hid (out = .slice none 0 0 ∧ j = 0 ∨ ∃ g c, out = .slice (some ⟨g, 0, none⟩) j c)) (fun _ t _ => xss.length - (intOf t).toNat)
  case atStart => exact ⟨0, [], by omega, rfl, Ext.refl _, LongsB.nil _ _ _, .inl ⟨rfl, rfl⟩⟩
  case round =>
    obtain ⟨j, tags, hj, rfl, hE, HB, HV⟩ := hrel
    obtain ⟨wo, rfl⟩ : ∃ wo : World, wo = wr := ⟨_, rfl⟩
    have HE := Lib.hid hE
    by_cases hlt : j < xss.length
    · obtain ⟨b, off, rfl, hb, hcell⟩ := HC.out (by intro e; simp [e] at hlt)
      obtain ⟨xs, hx⟩ : ∃ x, xss[j]? = some x := ⟨xss[j], List.getElem?_eq_getElem hlt⟩
      obtain ⟨vr, hvr, hcr⟩ := hcell j xs hx
      have g1 := hE.cell hcr
      obtain ⟨ar, cr, rfl, -, -, -, -, -⟩ := Ints.open hvr
      have HL := Lib.hid (longOf_any xs _ wo (hvr.ext hE) (HROW.out xs (List.mem_of_getElem? hx)) (HT.out.ext hE))
      have HN : Hid (xss.take (j + 1) = xss.take j ++ [xs]) := by unfold Hid; rw [List.take_add_one, hx]; rfl
      have HJ : Hid ((xss.take j).length = j) := by unfold Hid; rw [List.length_take]; omega
      clear hcell hx hvr hcr hE
      go_wp2_with fail
      refine HL.out.mono ?_
      rintro e w2 ⟨g, cg, rfl, hR, hg1, hg2, hg3, hE2⟩
      have HB2 := Lib.hid (HB.out.ext hE2)
      have HE2 := Lib.hid (Ext.trans HE.out hE2)
      have hszr := HE2.out.size
      have hszw := HE.out.size
      have HR := Lib.hid hR
      have hv1 : u3.ownBlock ≠ some g := fun e => by have := (HB.out.own.lt g e).2; omega
      have hn1 : g ∉ tags.map (·.1) := fun hm => by
        obtain ⟨t, ht, e⟩ := List.mem_map.1 hm
        obtain ⟨i, hi⟩ := List.getElem?_of_mem ht
        have hl : i < (xss.take j).length := by rw [← HB.out.len]; exact (List.getElem?_eq_some_iff.1 hi).1
        have := (HB.out.row i t _ hi (List.getElem?_eq_getElem hl)).2.2.1.lt
        omega
      have HV1 := Lib.hid hv1; have HN1 := Lib.hid hn1
      clear hE2 HL hR hv1 hn1
      go_wp2_with (at_builtin; go_must (refine wpList_append_long _ rfl _ _ rfl w.heap.size w.heap.size u3 tags (xss.take j) (g, 0, cg) xs #[.slice (some ⟨g, 0, none⟩) xs.length cg] 159 rfl HB2.out rfl rfl hg2 hg3 HR.out ?e1 HV1.out HN1.out ?e2 hszr ?_))
      case e1 => show w.heap.size ≤ g; omega
      case e2 => rw [HJ.out]; omega
      intro v' w5 hB5 hb5 hv5
      rw [← HN.out] at hB5
      have HB5 := Lib.hid hB5
      have HV5 := hv5
      have HX5 := Lib.hid (Below.trans HE2.out hb5)
      clear hB5 hb5 hv5
      go_wp2_with fail
      go_roundw
      case rel => exact ⟨j + 1, _, by omega, by go_num, HX5.out, HB5.out, .inr HV5.out⟩
      case measure => simp [intOf]; omega
    · obtain rfl : j = xss.length := by omega
      have hB := HB.out
      rw [List.take_length] at hB
      have HBF := Lib.hid hB
      have HVF : Hid (u3 = .slice none 0 0 ∧ xss = [] ∨ ∃ g c, u3 = .slice (some ⟨g, 0, none⟩) xss.length c) := by
        rcases HV.out with ⟨h1, h2⟩ | h1
        · exact .inl ⟨h1, List.eq_nil_of_length_eq_zero h2⟩
        · exact .inr h1
      clear hB HB HV hE
      go_wp2_with fail
      go_ret
      exact ⟨_, tags, rfl, HBF.out, HVF.out, HE.out⟩
end Go.Proofs.YtjihfabhgcfjnaaGreatDoor
/- Contract: longs.short: a matrix of integers of any size as a lattice. -/
namespace Go.Proofs.YtjihfabhgcfjnaaGreatDoor
set_option linter.unusedVariables false
set_option linter.unusedSimpArgs false
open Go.RowKit

def rowC (w : World) (u : List Value) (x : List Int) : Prop := ∃ v, u = [v] ∧ Ints w v x
theorem results_rowtmp {P : Program} {fn : Func} {p u : Tmp} {ty : TypeId} (h : fn.results = #[.cell p ty, .tmp u]) (tmps : Array Value) (w : World) (g : Nat) (t : TypeId) (cs : Array Value) (fr : Nat × Nat) (d : TypeDesc)
    (hp : tmps.getD p undef = .pointer (some ⟨g, 0, none⟩)) (hg : w.heap[g]? = some (.cells cs t fr))
    (hu : P.underlying ty = some d) (hd : (match d with | .struct _ | .array _ _ => true | _ => false) = true) (hi : (P.info? ty).map (·.size) = some cs.size) :
    (results fn tmps).run P w = .ok (.tuple #[.agg cs, tmps.getD u undef]) w := by
  rw [results_cell_tmp h, hp]
  simp [asAddr, run_loadVar_row w g t ty cs fr d hg hu hd hi, Result.andThen]

/-- What short of a matrix ends in. -/
def LsR (cols : Nat) (m : List (List Int)) (w : World) (e : Ending) (w' : World) : Prop :=
  (if (m.all fun r => r.all fit9B) = true then ∃ v, e = .returned (.tuple #[.agg #[.int .i64 cols, v], .int .i64 0]) ∧ SafeS w' (· < w.heap.size) (fun W => Rows2 W v m) else e = .returned (.tuple #[.agg #[.int .i64 0, .slice none 0 0], .int .i64 4])) ∧ Ext w w'

set_option maxRecDepth 100000 in
set_option maxHeartbeats 2000000 in
theorem lshort_any (cols : Nat) (m : List (List Int)) (ad : Option Addr) (cap : Nat) (w : World) (hM : m = [] ∨ ∃ g0 tags, ad = some ⟨g0, 0, none⟩ ∧ MatB w g0 tags m) (hsm : ∀ r ∈ m, r.all smB = true) (hl : ∀ r ∈ m, r.length ≤ 1000)
    (hcap : m.length ≤ cap) (hcap2 : cap ≤ maxLen) (hm : m.length ≤ 1000) (hc : cols ≤ 1000) (hlib : LibT w) :
    Calls Tryz.prog 91 #[.slice ad m.length cap, .int .i64 cols] w (LsR cols m w) := by
  have HM := Lib.hid hM; have HSM := Lib.hid hsm; have HLE := Lib.hid hl; have HLIB := Lib.hid hlib
  unfold maxLen at hcap2
  clear hM hsm hl hlib
  go_enter Tryz.func91, Tryz.ntmps91
  go_wp2_with fail
  have hE0 : Ext w ((w.alloc (Obj.cells #[Value.int IntKind.i64 0, Value.slice none 0 0] 31)).alloc (Obj.cells #[Value.int IntKind.i64 cols, Value.slice none 0 0] 31)) := (Ext.alloc _ _).trans (Ext.alloc _ _)
  have hbk0 := block_new (w.alloc (Obj.cells #[Value.int IntKind.i64 0, Value.slice none 0 0] 31)) #[Value.int IntKind.i64 cols, Value.slice none 0 0] 31
  have hbk1 := block_ext (block_new w #[Value.int IntKind.i64 0, Value.slice none 0 0] 31) (Ext.alloc (w.alloc (Obj.cells #[Value.int IntKind.i64 0, Value.slice none 0 0] 31)) (Obj.cells #[Value.int IntKind.i64 cols, Value.slice none 0 0] 31))
  have hsz0 : ((w.alloc (Obj.cells #[Value.int IntKind.i64 0, Value.slice none 0 0] 31)).alloc (Obj.cells #[Value.int IntKind.i64 cols, Value.slice none 0 0] 31)).heap.size = w.heap.size + 2 := by simp
  rw [show (w.alloc (Obj.cells #[Value.int IntKind.i64 0, Value.slice none 0 0] 31)).heap.size = w.heap.size + 1 by simp] at hbk0
  generalize ((w.alloc (Obj.cells #[Value.int IntKind.i64 0, Value.slice none 0 0] 31)).alloc (Obj.cells #[Value.int IntKind.i64 cols, Value.slice none 0 0] 31)) = W0 at *
  have HB0 := Lib.hid hbk0; have HB1 := Lib.hid hbk1
  go_loopw [15] (fun t wr => ∃ (j : Nat) (S : Nat → Prop) (v : Value), j ≤ m.length ∧ t = .int .i64 j ∧ Ext w wr ∧ Hid (SOk S 0 wr) ∧ Hid (∀ b, b < w.heap.size + 2 → S b) ∧ Hid (BuildS wr S (w.heap.size + 2) 37 1 v rowC (m.take j)) ∧ Hid (wr.heap[w.heap.size + 1]? = some (.cells #[.int .i64 cols, v] 31 (0, 0))) ∧ Hid (wr.heap[w.heap.size]? = some (.cells #[.int .i64 0, .slice none 0 0] 31 (0, 0))) ∧ Hid ((m.take j).all (fun r => r.all fit9B) = true)) (fun t _ => m.length - (intOf t).toNat)
  case atStart => exact ⟨0, fun b => b < w.heap.size + 2, _, by omega, rfl, hE0, fun b hb => by rw [hsz0]; exact ⟨Nat.zero_le _, hb⟩, fun b hb => hb, BuildS.nil _ _ _ _ _ _, HB0.out, HB1.out, rfl⟩
  case round =>
    obtain ⟨j, S, v, hj, rfl, hE, HOK, HSB, HBu, HK, HK1, HFT⟩ := hrel
    obtain ⟨wo, rfl⟩ : ∃ wo : World, wo = wr := ⟨_, rfl⟩
    have HE := Lib.hid hE
    by_cases hlt : j < m.length
    · obtain ⟨g0, tags, rfl, hMM⟩ : ∃ g0 tags, ad = some ⟨g0, 0, none⟩ ∧ MatB w g0 tags m := by
        rcases HM.out with h0 | h0
        · rw [h0] at hlt; simp at hlt
        · exact h0
      obtain ⟨t, htj, c1, c2, c3, c4, c5⟩ := (hMM.ext hE).get j hlt
      clear hMM
      have hmem : rowE_ m j ∈ m := List.mem_of_getElem? (rowE_get hlt)
      have HSH := Lib.hid (short_any (rowE_ m j) t.1 t.2.1 t.2.2 wo c4 c2 c3 (HLE.out _ hmem) (HSM.out _ hmem) (HLIB.out.ext HE.out))
      have HN : Hid (m.take (j + 1) = m.take j ++ [rowE_ m j]) := by unfold Hid; rw [List.take_add_one, rowE_get hlt]; rfl
      have HJ : Hid ((m.take j).length < 1000000) := by unfold Hid; rw [List.length_take]; omega
      have HME := Lib.hid hmem
      obtain ⟨xr, hxr⟩ : ∃ xr, rowE_ m j = xr := ⟨_, rfl⟩
      rw [hxr] at c1 HSH HN HME
      unfold maxLen at c3
      clear htj c2 c4 c5 hxr hE hmem
      by_cases hf : xr.all fit9B = true
      · go_wp2_with fail
        refine HSH.out.mono ?_
        rintro e w2 hsr
        unfold ShortR at hsr
        rw [if_pos hf] at hsr
        obtain ⟨ar, cr, rfl, hI, hO, hE2⟩ := hsr
        have HSF : Hid (SafeS w2 S fun w => rowC w [.slice ar xr.length cr] xr) := (SafeS.owns hO (fun k hk hs => by have := (hO.lt k hk).1; have := (HOK.out k hs).2; omega)).mono (fun w h => ⟨_, rfl, Ints.of_owns h (fun x hx => by have := (fit9B_iff x).1 (List.all_eq_true.1 hf x hx); omega)⟩)
        have HB2 := Lib.hid (HBu.out.ext hE2)
        have HK2 := Lib.hid (block_ext HK.out hE2)
        have HK12 := Lib.hid (block_ext HK1.out hE2)
        have HOK2 := Lib.hid (HOK.out.grow hE2.size)
        have HE2 := Lib.hid (Ext.trans HE.out hE2)
        have g1 := block_cell HK2.out 1
        have g2 := block_free HK2.out 1
        simp only [List.getElem?_toArray, List.getElem?_cons_zero, List.getElem?_cons_succ] at g1
        clear hI hO hE2 HSH HBu HK HK1 HOK
        have hs2 : w.heap.size + 2 ≤ w2.heap.size := by have := block_lt HK2.out; omega
        go_wp2_with (at_builtin; go_must (refine wpList_append_buildS _ rfl _ _ 29 rfl S (w.heap.size + 2) 37 (.slice none 0 0) 1 24 Tryz.underlying29 infoRow rfl (by decide) v rowC (m.take j) xr #[.slice ar xr.length cr] 37 rfl HB2.out _ rfl rfl rfl ?a1 HSF.out HJ.out (by decide) hs2 0 (Nat.zero_le _) HOK2.out ?_))
        case a1 => simp [Value.oneCell']
        intro v' w5 S5 hok5 hS1 hS2 hB5 hg5 hb5 hs5 hsafe
        obtain ⟨gv, cv, rfl, -, -, -, -⟩ := hB5.shape (by simp)
        have hk5 := block_grown HK2.out hg5 (HB2.out.neBlock HK2.out (by decide))
        have HK15 := Lib.hid ((hb5.block w.heap.size (by omega)).trans HK12.out)
        have g15 := block_cell hk5 1
        have g25 := block_free hk5 1
        simp only [List.getElem?_toArray, List.getElem?_cons_zero, List.getElem?_cons_succ] at g15
        have HK5 := Lib.hid hk5
        have HX5 := Lib.hid (Below.trans HE2.out (Below.mono hb5 (by omega)))
        have HOK5 := Lib.hid hok5
        have HSB5 : Hid (∀ b, b < w.heap.size + 2 → S5 b) := fun b hb => hS1 _ (HSB.out b hb)
        rw [← HN.out, show (m.take (j + 1)).length = j + 1 by rw [List.length_take]; omega] at hB5
        have HB5 := Lib.hid hB5
        clear hok5 hS1 hS2 hB5 hsafe hk5 g1 g2
        go_wp2_with fail
        go_roundw
        case rel => exact ⟨j + 1, S5, .slice (some ⟨gv, 0, none⟩) (j + 1) cv, by omega, by go_num, HX5.out.setCell (p := ⟨w.heap.size + 1, 1, none⟩) (by simp) _, HOK5.out.grow (by simp [World.setCell]), HSB5.out, HB5.out.store (HSB5.out _ (by omega)) (HB5.out.neBlock HK5.out (by decide)), block_set HK5.out 1 _, (setCell_heap_other _ _ _ _ _ (by omega)).trans HK15.out, by unfold Hid; rw [HN.out, List.all_append, HFT.out]; simp [hf]⟩
        case measure => simp [intOf]; omega
      · have HA : Hid (¬ (m.all fun r => r.all fit9B) = true) := fun h => hf (List.all_eq_true.1 h xr HME.out)
        have q0 := block_cell HK1.out 0; have q1 := block_cell HK1.out 1
        have q2 := block_free HK1.out 0; have q3 := block_free HK1.out 1
        simp only [List.getElem?_toArray, List.getElem?_cons_zero, List.getElem?_cons_succ] at q0 q1
        go_wp2_with fail
        refine HSH.out.mono ?_
        rintro e w2 hsr
        unfold ShortR at hsr
        rw [if_neg hf] at hsr
        obtain ⟨rfl, hE2⟩ := hsr
        have hk2 := block_ext HK1.out hE2
        have q0 := block_cell hk2 0; have q1 := block_cell hk2 1
        have q2 := block_free hk2 0; have q3 := block_free hk2 1
        simp only [List.getElem?_toArray, List.getElem?_cons_zero, List.getElem?_cons_succ] at q0 q1
        have HE2 := Lib.hid (Ext.trans HE.out hE2)
        clear hE2 HSH
        go_wp2_with fail
        have hkA := block_set (block_set hk2 0 (.int .i64 0)) 1 (.slice none 0 0)
        have r0 := block_cell hkA 0; have r1 := block_cell hkA 1
        simp only [List.getElem?_toArray, List.getElem?_cons_zero, List.getElem?_cons_succ, List.setIfInBounds_toArray, List.set_cons_zero, List.set_cons_succ] at r0 r1
        have HX2 : Hid (Ext w ((w2.setCell ⟨w.heap.size, 0, none⟩ (.int .i64 0)).setCell ⟨w.heap.size, 1, none⟩ (.slice none 0 0))) := (HE2.out.setCell (p := ⟨w.heap.size, 0, none⟩) (by simp) _).setCell (p := ⟨w.heap.size, 1, none⟩) (by simp) _
        refine bodyPost_ret (results_rowtmp (by rfl) _ _ w.heap.size 31 #[.int .i64 0, .slice none 0 0] (0, 0) _ (by rfl) hkA Tryz.underlying31 (by rfl) (by kernel_rfl)) (by rfl) ?_
        unfold LsR
        rw [if_neg HA.out]
        exact ⟨rfl, HX2.out⟩
    · obtain rfl : j = m.length := by omega
      obtain ⟨av, nv, cv, rfl⟩ : ∃ a n c, v = .slice a n c := by
        obtain ⟨_, us, _, _, h3, _⟩ := HBu.out
        rcases h3.2 with ⟨hv, _⟩ | ⟨g, c, _, hv, _⟩
        · exact ⟨_, _, _, hv⟩
        · exact ⟨_, _, _, hv⟩
      have q0 := block_cell HK1.out 0; have q1 := block_cell HK1.out 1
      have q2 := block_free HK1.out 0; have q3 := block_free HK1.out 1
      have o0 := block_cell HK.out 0; have o1 := block_cell HK.out 1
      simp only [List.getElem?_toArray, List.getElem?_cons_zero, List.getElem?_cons_succ] at q0 q1 o0 o1
      clear hE
      go_wp2_with fail
      have hkA := block_set (block_set HK1.out 0 (.int .i64 cols)) 1 (.slice av nv cv)
      simp only [List.setIfInBounds_toArray, List.set_cons_zero, List.set_cons_succ] at hkA
      refine bodyPost_ret (results_rowtmp (by rfl) _ _ w.heap.size 31 #[.int .i64 cols, .slice av nv cv] (0, 0) _ (by rfl) hkA Tryz.underlying31 (by rfl) (by kernel_rfl)) (by rfl) ?_
      have hF := HFT.out
      have hB := HBu.out
      rw [List.take_length] at hF hB
      unfold LsR
      rw [if_pos hF]
      refine ⟨⟨_, rfl, ?_⟩, (HE.out.setCell (p := ⟨w.heap.size, 0, none⟩) (by simp) _).setCell (p := ⟨w.heap.size, 1, none⟩) (by simp) _⟩
      have hne := hB.neBlock HK1.out (by decide)
      exact ((hB.store (i := 0) (x := .int .i64 cols) (HSB.out _ (by omega)) hne).store (i := 1) (x := .slice av nv cv) (HSB.out _ (by omega)) hne).keeps fun b hb => ⟨HSB.out b (by omega), by omega⟩
end Go.Proofs.YtjihfabhgcfjnaaGreatDoor
/- What the functions of package lattice return where their arguments are wrong. Printed by gen/laterr.py. -/
namespace Go.Proofs.YtjihfabhgcfjnaaGreatDoor
set_option linter.unusedVariables false
set_option linter.unusedSimpArgs false
open Go.RowKit

end Go.Proofs.YtjihfabhgcfjnaaGreatDoor
/- The rows of a matrix that begin with zeros, cut: the loop of behind (its rows, before they are brought into normal form). -/
namespace Go.Proofs.YtjihfabhgcfjnaaGreatDoor
set_option linter.unusedVariables false
set_option linter.unusedSimpArgs false
open Go.RowKit

theorem MatB.take {w : World} {g0 : Nat} {tags : List (Nat × Nat × Nat)} {m : List (List Int)} (h : MatB w g0 tags m) (d : Nat) : MatB w g0 (tags.take d) (m.take d) := by
  refine ⟨by rw [List.length_take, List.length_take, h.len], h.lt, h.free, fun i t r ht hr => ?_, ?_⟩
  · have hi : i < d := by
      have := (List.getElem?_eq_some_iff.1 ht).1
      rw [List.length_take] at this; omega
    rw [List.getElem?_take_of_lt hi] at ht hr
    exact h.row i t r ht hr
  · have hn := List.nodup_cons.1 h.nodup
    rw [List.nodup_cons]
    have hs : ((tags.take d).map (·.1)).Sublist (tags.map (·.1)) := (List.take_sublist d tags).map _
    exact ⟨fun hm => hn.1 (hs.subset hm), hn.2.sublist hs⟩
/-- A row without its first cells. -/
theorem RowB.drop {w : World} {g o : Nat} {xs : List Int} (h : RowB w g o xs) (k : Nat) : RowB w g (o + k) (xs.drop k) :=
  ⟨h.lt, fun j x hx => by
    rw [List.getElem?_drop] at hx
    rw [Nat.add_assoc]; exact h.cell (k + j) x hx, h.free⟩
def cutT (k : Nat) (t : Nat × Nat × Nat) : Nat × Nat × Nat := (t.1, t.2.1 + k, t.2.2 - k)
theorem behindL_snoc (k : Nat) (m : List (List Int)) (r : List Int) : behindL k (m ++ [r]) = behindL k m ++ (if (k : Int) ≤ leadL r then [r.drop k] else []) := by
  unfold behindL
  rw [List.filter_append, List.map_append]
  congr 1
  by_cases h : (k : Int) ≤ leadL r <;> simp [h]
end Go.Proofs.YtjihfabhgcfjnaaGreatDoor
