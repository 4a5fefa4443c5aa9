/- Merged: RatRow, RowsT, DetT, DetU. -/
import Derived.Test.YtpeinobepiodaaaGreatDoorGI
import Derived.Test.YtpeinobepiodaaaGreatDoorGA
import Derived.Laws.AppendOwnNone
import Derived.Test.YtpeinobepiodaaaGreatDoorGH
import Derived.Test.YtpeinobepiodaaaGreatDoorGG
/- Rows of rationals that a call builds: appending to them. -/
namespace Go.Proofs.YtpeinobepiodaaaGreatDoor
set_option linter.unusedVariables false
set_option linter.unusedSimpArgs false
open Go.RowKit

theorem infoRat : (Tryz.prog.info? 81).map (fun i => (i.zero, i.size, i.bytes)) = some (some (.agg #[.string ⟨#[]⟩, .string ⟨#[]⟩]), 2, 32) := by kernel_rfl
theorem infoRats : (Tryz.prog.info? 39).map (fun i => (i.zero, i.size, i.bytes)) = some (some (.slice none 0 0), 1, 24) := by kernel_rfl
def ratR (_ : World) (u : List Value) (q : Rat) : Prop := u = [.string (intB q.num), .string (numB q.den)]
theorem ratR.mono : Mono ratR := fun _ _ _ _ _ h => h
abbrev Rats (w : World) (v : Value) (xs : List Rat) : Prop := ListAt 2 ratR w v xs
abbrev Rats2 (w : World) (v : Value) (xs : List (List Rat)) : Prop := ListAt 1 (inCell Rats) w v xs
theorem Rats.ext {w w' : World} {v : Value} {xs : List Rat} (h : Rats w v xs) (he : Ext w w') : Rats w' v xs := ListAt.ext ratR.mono h he
def cellsQ (l : List Rat) : List Value := (l.map fun q : Rat => [Value.string (intB q.num), Value.string (numB q.den)]).flatten
theorem cellsQ_append (a b : List Rat) : cellsQ (a ++ b) = cellsQ a ++ cellsQ b := by simp [cellsQ]
theorem cellsQ_len : ∀ l : List Rat, (cellsQ l).length = l.length * 2
  | [] => rfl
  | q :: l => by
    have h := cellsQ_len l
    unfold cellsQ at h ⊢
    rw [List.map_cons, List.flatten_cons, List.length_append, h]
    simp; omega
theorem cellsQ_get {l : List Rat} {j : Nat} {q : Rat} (h : l[j]? = some q) : (cellsQ l)[j * 2]? = some (.string (intB q.num)) ∧ (cellsQ l)[j * 2 + 1]? = some (.string (numB q.den)) := by
  have hk : ∀ u ∈ (l.map fun q : Rat => [Value.string (intB q.num), Value.string (numB q.den)]), u.length = 2 := by
    intro u hu
    obtain ⟨x, -, rfl⟩ := List.mem_map.1 hu
    rfl
  have hm : (l.map fun q : Rat => [Value.string (intB q.num), Value.string (numB q.den)])[j]? = some [Value.string (intB q.num), Value.string (numB q.den)] := by rw [List.getElem?_map, h]; rfl
  have h0 := flatten_get _ j 0 _ hk hm (by omega)
  have h1 := flatten_get _ j 1 _ hk hm (by omega)
  exact ⟨h0, h1⟩
/-- A row of rationals that the call owns. -/
def OwnQ (B : Nat) (w : World) (v : Value) (l : List Rat) : Prop := w.ownsRow B 81 2 v l.length (cellsQ l)
theorem OwnQ.nil (B : Nat) (w : World) : OwnQ B w (.slice none 0 0) [] := World.ownsRow_nil w B 81 2
theorem OwnQ.ext {B : Nat} {w w' : World} {v : Value} {l : List Rat} (h : OwnQ B w v l) (he : Ext w w') : OwnQ B w' v l := owns_ext h he
theorem OwnQ.lt {B : Nat} {w : World} {v : Value} {l : List Rat} (h : OwnQ B w v l) : ∀ b, v.ownBlock = some b → B ≤ b ∧ b < w.heap.size := World.ownsRow.lt h
theorem OwnQ.form {B : Nat} {w : World} {v : Value} {l : List Rat} (h : OwnQ B w v l) : ∃ a cap, v = .slice a l.length cap ∧ l.length ≤ cap ∧ cap ≤ 9223372036854775807 := by
  rcases h.2 with ⟨rfl, hn⟩ | ⟨g, cap, cur, rfl, hb, hg, h1, h2, h3, h4⟩
  · exact ⟨none, 0, by rw [hn], by omega, by omega⟩
  · exact ⟨_, cap, rfl, h1, h2⟩
theorem OwnQ.low {B B' : Nat} {w : World} {v : Value} {l : List Rat} (h : OwnQ B w v l) (hb : B' ≤ B) : OwnQ B' w v l := by
  refine ⟨h.1, ?_⟩
  rcases h.2 with h' | ⟨g, cap, cur, rfl, hg, rest⟩
  · exact .inl h'
  · exact .inr ⟨g, cap, cur, rfl, Nat.le_trans hb hg, rest⟩
theorem OwnQ.row {B g n c : Nat} {w : World} {l : List Rat} (h : OwnQ B w (.slice (some ⟨g, 0, none⟩) n c) l) : RowQ w g l := by
  obtain rfl : n = l.length := by
    obtain ⟨a, cap, hv, -⟩ := h.form
    simp only [Value.slice.injEq] at hv
    exact hv.2.1
  have hl := h.lt g (by simp [Value.ownBlock])
  have hc := World.ownsRow.cells h (g := g) (by simp [Value.ownBlock])
  have hadd : ∀ j, (⟨g, 0, none⟩ : Addr).add j = ⟨g, j, none⟩ := fun j => by unfold Addr.add; split <;> simp_all
  refine ⟨hl.2, fun j x hx => ?_, fun j x hx => ?_, fun j => World.ownsRow.frozenAt h j⟩
  · have := hc (j * 2) _ (cellsQ_get hx).1
    rw [hadd] at this; exact this
  · have := hc (j * 2 + 1) _ (cellsQ_get hx).2
    rw [hadd] at this; exact this
theorem OwnQ.rats {B : Nat} {w : World} {v : Value} {l : List Rat} (h : OwnQ B w v l) : Rats w v l := by
  refine ⟨l.map fun q : Rat => [Value.string (intB q.num), Value.string (numB q.den)], by simp, ?_, show SeqAt w v l.length (cellsQ l) from SeqAt.of_owns (show w.ownsRow B 81 2 v l.length (cellsQ l) from h), ?_⟩
  · intro u hu
    obtain ⟨x, -, rfl⟩ := List.mem_map.1 hu
    rfl
  · intro j u x hu hx
    rw [List.getElem?_map, hx] at hu
    exact (Option.some.inj hu).symm
theorem RowQ.rats {w : World} {g c : Nat} {l : List Rat} (h : RowQ w g l) (h1 : l.length ≤ c) (h2 : c ≤ 9223372036854775807) : Rats w (.slice (some ⟨g, 0, none⟩) l.length c) l := by
  refine ⟨l.map fun q : Rat => [Value.string (intB q.num), Value.string (numB q.den)], by simp, ?_, ?_, ?_⟩
  · intro u hu
    obtain ⟨x, -, rfl⟩ := List.mem_map.1 hu
    rfl
  · refine ⟨_, c, rfl, h1, by unfold maxLen; omega, fun e => by simp at e, fun _ => ⟨g, 0, rfl, h.lt, fun j u hu => ?_⟩⟩
    rw [Nat.zero_add]
    have hj : j < (cellsQ l).length := (List.getElem?_eq_some_iff.1 hu).1
    rw [cellsQ_len] at hj
    obtain ⟨q, hq⟩ : ∃ q, l[j / 2]? = some q := ⟨_, List.getElem?_eq_getElem (by omega)⟩
    obtain ⟨e0, e1⟩ := cellsQ_get hq
    by_cases hp : j % 2 = 0
    · rw [show j / 2 * 2 = j by omega] at e0
      have : u = .string (intB q.num) := Option.some.inj (hu.symm.trans e0)
      rw [this, ← h.num _ q hq, show j / 2 * 2 = j by omega]
    · rw [show j / 2 * 2 + 1 = j by omega] at e1
      have : u = .string (numB q.den) := Option.some.inj (hu.symm.trans e1)
      rw [this, ← h.den _ q hq, show j / 2 * 2 + 1 = j by omega]
  · intro j u x hu hx
    rw [List.getElem?_map, hx] at hu
    exact (Option.some.inj hu).symm
/-- A row of one rational, written out. -/
theorem Rats.one (w : World) (q : Rat) (T : TypeId) : Rats (w.alloc (.cells #[.string (intB q.num), .string (numB q.den)] T)) (.slice (some ⟨w.heap.size, 0, none⟩) 1 1) [q] := by
  refine ⟨[[.string (intB q.num), .string (numB q.den)]], rfl, by simp, ?_, ?_⟩
  · exact SeqAt.lit w [.string (intB q.num), .string (numB q.den)] 1 T (by unfold maxLen; omega)
  · intro j u x hu hx
    cases j with
    | zero =>
      simp only [List.getElem?_cons_zero, Option.some.injEq] at hu hx
      subst hu; subst hx; rfl
    | succ j => simp at hu
/-- 'l = append(l, x...)'. -/
theorem wpList_append_rats (W : World) {ops : Array Oper} {rest : List Oper} {o : Oper} {a : Act} {Q : Exit → Act → World → Prop} (hgd : o.guard = none)
    (s x : Operand) (ho : o.op = Op.call { callee := Callee.builtin Builtin.append, args := #[s, x], argTypes := #[39, 39] }) (B : Nat)
    (v u : Value) (xs ys : List Rat) (hs : a.eval s = v) (hB : OwnQ B W v xs) (hx : a.eval x = u) (hu : Rats W u ys) (hlen : xs.length + ys.length < 1000000) (hbase : B ≤ W.heap.size)
    (h : ∀ v' w', OwnQ B w' v' (xs ++ ys) → Below B W w' → W.grownBy w' v.ownBlock → wpList Tryz.prog ops Q rest (a.put o.dst v') w') :
    wpList Tryz.prog ops Q (o :: rest) a W := by
  obtain ⟨i0, hi, hz, hsize, hby⟩ := info_parts infoRat
  obtain ⟨ad, c, rfl, h1, h2, h3, h4⟩ := hu.open
  have hbel : ∀ w', W.grownBy w' v.ownBlock → Below B W w' := fun w' hg => ⟨hg.os, hg.tape, hg.output, hg.size, fun b hb => hg.block b (by omega) fun e => by
    have := (hB.lt b e.symm).1
    omega⟩
  cases ad with
  | none =>
    obtain rfl : c = 0 := h3 rfl
    obtain rfl : ys = [] := List.eq_nil_of_length_eq_zero (by omega)
    rw [List.append_nil] at h
    refine wpList_append_own_none hgd s x _ ho B 81 i0 2 Tryz.underlying39 hi v xs.length (cellsQ xs) hs hB hx ?_
    exact h v W hB (Below.refl _ _) (World.grownBy.refl _ _)
  | some ad =>
    refine wpList_plain hgd fun K hK => ?_
    refine wp_append_own_at W s x _ ho B 81 i0 (.agg #[.string ⟨#[]⟩, .string ⟨#[]⟩]) 2 32 Tryz.underlying39 hi hz hsize hby rfl (by decide) v xs.length (cellsQ xs) hs hB ad ys.length c (cellsQ ys) hx (cellsQ_len ys) ?_ ?_ ?_ ?_ hbase ?_
    · intro j q hq
      have hj : j < (cellsQ ys).length := (List.getElem?_eq_some_iff.1 hq).1
      rw [cellsQ_len] at hj
      obtain ⟨b, off, e, hb, hc⟩ := h4 (by omega) (by intro e; rw [e] at hj; simp at hj)
      cases e
      obtain ⟨r, hr⟩ : ∃ r, ys[j / 2]? = some r := ⟨_, List.getElem?_eq_getElem (by omega)⟩
      obtain ⟨cs, -, rfl, hcs⟩ := hc _ r hr
      have h0 := hcs 0 (by omega); have h1 := hcs 1 (by omega)
      obtain ⟨e0, e1⟩ := cellsQ_get hr
      rw [show (⟨b, off, none⟩ : Addr).add j = ⟨b, off + j, none⟩ by unfold Addr.add; split <;> simp_all]
      by_cases hp : j % 2 = 0
      · rw [show j / 2 * 2 = j by omega] at e0
        rw [show off + (j / 2 * 2 + 0) = off + j by omega] at h0
        rw [h0, ← hq, e0]; rfl
      · rw [show j / 2 * 2 + 1 = j by omega] at e1
        rw [show off + (j / 2 * 2 + 1) = off + j by omega] at h1
        rw [h1, ← hq, e1]; rfl
    · intro z hz
      unfold cellsQ at hz
      obtain ⟨l, hl, hz⟩ := List.mem_flatten.1 hz
      obtain ⟨q, -, rfl⟩ := List.mem_map.1 hl
      simp only [List.mem_cons, List.not_mem_nil, or_false] at hz
      rcases hz with rfl | rfl <;> rfl
    · unfold maxLen; omega
    · omega
    · intro v' w' hown hgrow _ hat
      have hown2 : OwnQ B w' v' (xs ++ ys) := by
        unfold OwnQ
        rw [List.length_append, cellsQ_append]
        exact hown
      exact hK _ _ (h v' w' hown2 (hbel w' hgrow) hgrow)
end Go.Proofs.YtpeinobepiodaaaGreatDoor
/- Contract of table.rows. -/
namespace Go.Proofs.YtpeinobepiodaaaGreatDoor
set_option linter.unusedVariables false
set_option linter.unusedSimpArgs false
open Go.RowKit

/-- The first i rows with what is added at the right. -/
def rowsTo (xss : List (List Int)) (mo : Nat → List Rat) (i : Nat) : List (List Rat) := (List.range i).map fun k => rowQI (xss.getD k []) ++ mo k
theorem rowsTo_succ {xss : List (List Int)} {mo : Nat → List Rat} {i : Nat} {r : List Int} (h : xss[i]? = some r) : rowsTo xss mo (i + 1) = rowsTo xss mo i ++ [rowQI r ++ mo i] := by
  unfold rowsTo
  rw [List.range_succ, List.map_append, List.map_cons, List.map_nil, List.getD_eq_getElem?_getD (l := xss), h]
  rfl
theorem rowsTo_len (xss : List (List Int)) (mo : Nat → List Rat) (i : Nat) : (rowsTo xss mo i).length = i := by simp [rowsTo]
theorem rowQI_take {r : List Int} {k : Nat} {x : Int} (h : r[k]? = some x) : rowQI (r.take (k + 1)) = rowQI (r.take k) ++ [(x : Rat)] := by
  unfold rowQI
  rw [List.take_add_one, h, List.map_append]
  rfl
/-- What a closure adds at the right. -/
def MoreAt (g : Nat) (lb : Array Value) (n : Nat) (mo : Nat → List Rat) (w : World) : Prop :=
  ∀ (i : Nat) W, i < n → Ext w W → Calls Tryz.prog g (#[.int .i64 (i : Int)] ++ lb) W fun e W' => ∃ u, e = .returned u ∧ Rats W' u (mo i) ∧ Ext W W'

set_option maxRecDepth 100000 in
set_option maxHeartbeats 4000000 in
theorem rows_any (xss : List (List Int)) (v : Value) (g : Nat) (lb : Array Value) (mo : Nat → List Rat) (w : World) (h : Rows2 w v xss) (hl : xss.length ≤ 1000) (hr : ∀ r ∈ xss, r.length ≤ 1000)
    (hmo : ∀ i r, xss[i]? = some r → 0 < r.length + (mo i).length ∧ (mo i).length ≤ 1000) (eg : ∀ args w, (callFunc g args).run Tryz.prog w = .ok (.enter g args) w) (hm : MoreAt g lb xss.length mo w) (ht : Pow10 w) :
    Calls Tryz.prog 52 #[v, .func (.func g) #[] lb] w fun e w' => ∃ u tags, e = .returned u ∧ RowsO ratK 39 w' w.heap.size w.heap.size u tags (rowsTo xss mo xss.length) ∧ Ext w w' := by
  obtain ⟨a, c, rfl, h1, h2, -, hc⟩ := inCell.open h
  have HC := Lib.hid hc; have HM := Lib.hid hm; have HT := Lib.hid ht; have HR := Lib.hid hr; have HMO := Lib.hid hmo
  unfold maxLen at h2
  clear h hc hm ht hr hmo
  go_enter Tryz.func52, Tryz.ntmps52
  go_wp2_with fail
  go_loopw [13, 5] (fun t v wr => ∃ (i : Nat) (tags : List (Nat × Nat)), i ≤ xss.length ∧ t = .int .i64 i ∧ Ext w wr ∧ Hid (RowsO ratK 39 wr w.heap.size w.heap.size v tags (rowsTo xss mo i))) (fun t _ _ => xss.length - (intOf t).toNat)
  case atStart => exact ⟨0, [], by omega, rfl, Ext.refl _, RowsO.nil _ _ _ _ _⟩
  case round =>
    obtain ⟨i, tags, hin, rfl, hE, HO⟩ := hrel
    obtain ⟨wo, rfl⟩ : ∃ wo : World, wo = wr := ⟨_, rfl⟩
    have HE := Lib.hid hE
    by_cases hlt : i < xss.length
    · obtain ⟨b, off, rfl, hb, hcell⟩ := HC.out (by intro e; simp [e] at hlt)
      obtain ⟨r, hx⟩ : ∃ x, xss[i]? = some x := ⟨xss[i], List.getElem?_eq_getElem hlt⟩
      obtain ⟨vx, hvx, hcx⟩ := hcell i r hx
      obtain ⟨ax, cx, rfl, k1, k2, -, hbd, kc⟩ := Ints.open hvx
      have g1 := hE.cell hcx
      have HX := Lib.hid (Ints.ext hvx hE)
      have HK := Lib.hid kc; have HBD := Lib.hid hbd; have HI := Lib.hid hx
      have HSU := Lib.hid (rowsTo_succ (mo := mo) hx)
      have hrl := HR.out r (List.mem_of_getElem? hx)
      have HMI := Lib.hid (HMO.out i r hx)
      unfold maxLen at k2
      clear hcell hx hvx hcx kc hbd
      go_wp2_with fail
      clear g1
      go_loopw [20, 8] (fun t v wr => ∃ k : Nat, k ≤ r.length ∧ t = .int .i64 k ∧ Hid (Ext wo wr) ∧ Hid (OwnQ wo.heap.size wr v (rowQI (r.take k)))) (fun t _ _ => r.length - (intOf t).toNat)
      case atStart => exact ⟨0, by omega, rfl, Ext.refl _, OwnQ.nil _ _⟩
      case round =>
        obtain ⟨k, hk, rfl, HEI, HQ⟩ := hrel
        obtain ⟨wi, rfl⟩ : ∃ wi : World, wi = wr := ⟨_, rfl⟩
        by_cases hlk : k < r.length
        · obtain ⟨bx, offx, rfl, hbx, hcellx⟩ := HK.out (by intro e; simp [e] at hlk)
          obtain ⟨x, hx⟩ : ∃ x, r[k]? = some x := ⟨r[k], List.getElem?_eq_getElem hlk⟩
          have g1 := (HE.out.trans HEI.out).cell (hcellx k x hx)
          have HTK := Lib.hid (rowQI_take hx)
          have hb := HBD.out x (List.mem_of_getElem? hx)
          have HOF := Lib.hid (of_any x wi hb.1 hb.2 (HT.out.ext (HE.out.trans HEI.out)))
          clear hcellx hx hb
          go_wp2_with fail
          refine HOF.out.mono ?_
          rintro e w1 ⟨rfl, hE1⟩
          have HQ1 := Lib.hid (HQ.out.ext hE1)
          have HX1 := Lib.hid (Ext.trans HEI.out hE1)
          have HQ2 : Hid (OwnQ wo.heap.size (w1.alloc (.cells #[.string (intB x), .string ⟨#[49]⟩] 81)) u8 (rowQI (r.take k))) := HQ1.out.ext (Ext.alloc _ _)
          have HU : Hid (Rats (w1.alloc (.cells #[.string (intB x), .string ⟨#[49]⟩] 81)) (.slice (some ⟨w1.heap.size, 0, none⟩) 1 1) [(x : Rat)]) := by
            have := Rats.one w1 (x : Rat) 81
            rw [show ((x : Rat)).num = x from rfl, show ((x : Rat)).den = 1 from rfl, numB_one] at this
            exact this
          have hs1 : wo.heap.size ≤ (w1.alloc (.cells #[.string (intB x), .string ⟨#[49]⟩] 81)).heap.size := by
            have := HX1.out.size
            rw [World.size_alloc]; omega
          have HS1 := Lib.hid hs1
          have HLE : Hid ((rowQI (r.take k)).length + [(x : Rat)].length < 1000000) := by
            unfold Hid
            rw [rowQI_len, List.length_take]; simp; omega
          clear hE1 HOF g1 hs1
          go_wp2_with (at_builtin; go_must (refine wpList_append_rats _ rfl _ _ rfl wo.heap.size u8 _ (rowQI (r.take k)) [(x : Rat)] rfl HQ2.out rfl HU.out HLE.out HS1.out ?_))
          intro v' w2 hQ2 hb2 _
          rw [← HTK.out] at hQ2
          have HQ3 := Lib.hid hQ2
          have HX2 : Hid (Ext wo w2) := Below.trans (Ext.trans HX1.out (Ext.alloc w1 (.cells #[.string (intB x), .string ⟨#[49]⟩] 81))) hb2
          clear hQ2 hb2
          go_wp2_with fail
          go_roundw
          case rel => exact ⟨k + 1, by omega, by go_num, HX2.out, HQ3.out⟩
          case measure => simp [intOf]; omega
        · obtain rfl : k = r.length := by omega
          rw [List.take_length] at HQ
          have HCALL := Lib.hid (HM.out i wi hlt (HE.out.trans HEI.out))
          go_wp2_with fail
          refine HCALL.out.mono ?_
          rintro e w1 ⟨um, rfl, hum, hE1⟩
          have HQ1 := Lib.hid (HQ.out.ext hE1)
          have HX1 := Lib.hid (Ext.trans HEI.out hE1)
          have HUM := Lib.hid hum
          have HLE : Hid ((rowQI r).length + (mo i).length < 1000000) := by
            unfold Hid
            have := HMI.out.2
            rw [rowQI_len]; omega
          have HS1 := Lib.hid HX1.out.size
          clear hE1 HCALL hum
          go_wp2_with (at_builtin; go_must (refine wpList_append_rats _ rfl _ _ rfl wo.heap.size u8 _ (rowQI r) (mo i) rfl HQ1.out rfl HUM.out HLE.out HS1.out ?_))
          intro v' w2 hQ2 hb2 _
          have HX2 : Hid (Ext wo w2) := Below.trans HX1.out hb2
          obtain ⟨gq, cq, rfl, d1, d2, d3, d4⟩ := owns_shape hQ2 (by rw [List.length_append, rowQI_len]; exact HMI.out.1)
          have HRQ := Lib.hid hQ2.row
          obtain ⟨nq, hnq⟩ : ∃ nq, nq = (rowQI r ++ mo i).length := ⟨_, rfl⟩
          rw [← hnq] at d3 ⊢
          have HNQ := Lib.hid hnq
          have HO2 := Lib.hid (HO.out.ext HX2.out)
          have HV : Hid (u5.ownBlock ≠ some gq) := fun e => by have := (HO.out.own.lt _ e).2; omega
          have HN : Hid (gq ∉ tags.map (·.1)) := fun e => by have := (HO.out.fresh e).2; omega
          have HSZ : Hid (w.heap.size ≤ gq ∧ w.heap.size ≤ w2.heap.size) := by
            have h1 := HE.out.size; have h2 := HX2.out.size
            exact ⟨by omega, by omega⟩
          have HLN : Hid ((rowsTo xss mo i).length < 1000000) := by unfold Hid; rw [rowsTo_len]; omega
          have HCP : Hid ((rowQI r ++ mo i).length ≤ cq ∧ cq ≤ 9223372036854775807) := ⟨by rw [← hnq]; exact d3, d4⟩
          clear hQ2 hb2 d1 d2 d3 d4 hnq
          go_wp2_with (at_builtin; go_must (refine wpList_append_rowO (K := ratK) (e := 39) Tryz.underlying30 infoRats _ rfl _ _ rfl w.heap.size w.heap.size u5 tags (rowsTo xss mo i) (gq, cq) (rowQI r ++ mo i) #[.slice (some ⟨gq, 0, none⟩) nq cq] 39 rfl HO2.out (by rfl) (by rw [HNQ.out]; rfl) HCP.out.1 HCP.out.2 HRQ.out HSZ.out.1 HV.out HN.out HLN.out HSZ.out.2 ?_))
          intro v' w5 hO5 hb5 _
          rw [← HSU.out] at hO5
          have HO5 := Lib.hid hO5
          have HX5 := Lib.hid (Below.trans (Ext.trans HE.out HX2.out) hb5)
          clear hO5 hb5
          go_wp2_with fail
          go_roundw
          case rel => exact ⟨i + 1, _, by omega, by go_num, HX5.out, HO5.out⟩
          case measure => simp [intOf]; omega
    · obtain rfl : i = xss.length := by omega
      go_wp2_with fail
      go_ret
      exact ⟨_, tags, rfl, HO.out, hE⟩
/-- Nothing is added. -/
theorem nothing_any (i : Int) (w : World) : Calls Tryz.prog 53 #[.int .i64 i] w fun e w' => e = .returned (.slice none 0 0) ∧ w = w' := by
  go_enter Tryz.func53, Tryz.ntmps53
  go_wp2
  go_ret
  exact ⟨rfl, rfl⟩
theorem Rats.nil (w : World) : Rats w (.slice none 0 0) [] := ⟨[], rfl, by simp, ⟨none, 0, rfl, Nat.le_refl _, Nat.zero_le _, fun _ => rfl, fun h => absurd rfl h⟩, by simp⟩
theorem nothing_more (n : Nat) (w : World) : MoreAt 53 #[] n (fun _ => []) w := fun i W _ _ =>
  (nothing_any i W).mono fun e W' ⟨h1, h2⟩ => ⟨_, h1, Rats.nil _, h2 ▸ Ext.refl _⟩
end Go.Proofs.YtpeinobepiodaaaGreatDoor
/- Contracts of table.Columns, Determinant, Rank. -/
namespace Go.Proofs.YtpeinobepiodaaaGreatDoor
set_option linter.unusedVariables false
set_option linter.unusedSimpArgs false
open Go.RowKit

def colsN (xss : List (List Int)) : Nat := (xss.headD []).length
theorem tabR_zero (n : Nat) : ∀ xss, tabR n xss = 0 → ∀ r ∈ xss, r.length = n ∧ r.length ≤ 12 ∧ ∀ x ∈ r, -1000000000 ≤ x ∧ x ≤ 1000000000
  | [], _, r, hr => by simp at hr
  | q :: l, h, r, hr => by
    unfold tabR at h
    split at h
    · cases h
    · split at h
      · split at h
        · cases h
        · rename_i h1 h2 h3
          rcases List.mem_cons.1 hr with rfl | hr
          · refine ⟨h2, by omega, fun x hx => ?_⟩
            rw [← fitB_iff]
            simp only [List.any_eq_true, Bool.not_eq_true', not_exists, not_and, Bool.not_eq_false] at h3
            exact h3 x hx
          · exact tabR_zero n l h r hr
      · cases h
theorem tabE_zero {xss : List (List Int)} (h : tabE xss = 0) : xss.length ≤ 12 ∧ ∀ r ∈ xss, r.length = colsN xss ∧ r.length ≤ 12 ∧ ∀ x ∈ r, -1000000000 ≤ x ∧ x ≤ 1000000000 := by
  unfold tabE at h
  split at h
  · cases h
  · exact ⟨by omega, tabR_zero _ xss h⟩
theorem rowsTo_matQ (xss : List (List Int)) : rowsTo xss (fun _ => []) xss.length = matQ xss := by
  unfold rowsTo matQ
  apply List.ext_getElem
  · simp
  · intro i h1 h2
    simp only [List.length_map, List.length_range] at h1
    simp [h1]
theorem matQ_rect {xss : List (List Int)} {C : Nat} (h : ∀ r ∈ xss, r.length = C) : Rect C (matQ xss) := by
  intro r hr
  obtain ⟨q, hq, rfl⟩ := List.mem_map.1 hr
  rw [rowQI_len]; exact h q hq

set_option maxRecDepth 100000 in
set_option maxHeartbeats 1000000 in
theorem columns_any (xss : List (List Int)) (v : Value) (w : World) (h : Rows2 w v xss) :
    Calls Tryz.prog 43 #[v] w fun e w' => e = .returned (.int .i64 (colsN xss : Int)) ∧ w = w' := by
  obtain ⟨a, c, rfl, h1, h2, -, hc⟩ := inCell.open h
  clear h
  unfold maxLen at h2
  cases xss with
  | nil =>
    clear hc
    go_enter Tryz.func43, Tryz.ntmps43
    go_wp2
    go_ret
    exact ⟨rfl, rfl⟩
  | cons r l =>
    obtain ⟨b, off, rfl, hb, hcell⟩ := hc (by simp)
    obtain ⟨vx, hvx, hcx⟩ := hcell 0 r rfl
    obtain ⟨ax, cx, rfl, -, -, -, -, -⟩ := Ints.open hvx
    rw [Nat.add_zero] at hcx
    obtain ⟨m, hm⟩ : ∃ m, m = (r :: l).length := ⟨_, rfl⟩
    have hq : ((m : Int) == 0) = false := by rw [beq_eq_false_iff_ne, hm, List.length_cons]; omega
    have hpos : (0 : Int) < (m : Int) := by rw [hm, List.length_cons]; omega
    have HCN : Hid (colsN (r :: l) = r.length) := rfl
    rw [← hm] at h1 ⊢
    clear hc hcell hvx hm
    go_enter Tryz.func43, Tryz.ntmps43
    go_wp2
    go_ret
    rw [HCN.out]
    exact ⟨rfl, rfl⟩

set_option maxRecDepth 100000 in
set_option maxHeartbeats 1000000 in
/-- No columns to reduce. -/
theorem reduce_zero (v : Value) (w : World) (hv : ∃ a n c, v = .slice a n c) :
    Calls Tryz.prog 51 #[v, .int .i64 0] w fun e w' => e = .returned (.tuple #[.slice none 0 0, ratV 1]) ∧ Ext w w' := by
  obtain ⟨a, n, c, rfl⟩ := hv
  obtain ⟨W1, hW1, hE1, hs1, hb1⟩ := box2 w (.string ⟨#[]⟩) (.string ⟨#[]⟩) 81
  have HE1 := Lib.hid hE1
  have HB1 : Hid (∀ W, Ext W1 W → BlkR w.heap.size W) := fun W hW => BlkR.ext ⟨_, _, hb1⟩ hW
  obtain ⟨r0, r1, rf⟩ := block2_cell hb1
  clear hE1 hb1 rf
  go_enter Tryz.func51, Tryz.ntmps51
  go_wp2_with fail
  refine (tone_any _).mono ?_
  rintro e w2 ⟨rfl, hE2⟩
  have HE2 := Lib.hid hE2
  obtain ⟨q0, q1, t0, t1, f0, f1⟩ := (HB1.out _ hE2).open
  have hbx := (HB1.out _ hE2)
  rw [ratV_one]
  have HBQ : Hid (BoxQ ((w2.setCell ⟨w.heap.size, 0, none⟩ (.string ⟨#[49]⟩)).setCell ⟨w.heap.size, 1, none⟩ (.string ⟨#[49]⟩)) w.heap.size 1) := by
    have := hbx.res (x := .string ⟨#[49]⟩) (y := .string ⟨#[49]⟩)
    unfold Hid BoxQ
    rw [this]
    show some (Obj.cells #[.string ⟨#[49]⟩, .string ⟨#[49]⟩] 81 (0, 0)) = some (Obj.cells #[.string (intB 1), .string (numB 1)] 81 (0, 0))
    rw [intB_one, numB_one]
  have HX : Hid (Ext w ((w2.setCell ⟨w.heap.size, 0, none⟩ (.string ⟨#[49]⟩)).setCell ⟨w.heap.size, 1, none⟩ (.string ⟨#[49]⟩))) := ext_set2 (HE1.out.trans hE2) (Nat.le_refl _)
  clear hE2 hbx r0 r1
  go_wp2_with fail
  clear q0 q1 t0 t1 f0 f1
  refine wp_loop_once ?_
  obtain ⟨W3, hW3⟩ : ∃ W3, W3 = ((w2.setCell ⟨w.heap.size, 0, none⟩ (.string ⟨#[49]⟩)).setCell ⟨w.heap.size, 1, none⟩ (.string ⟨#[49]⟩)) := ⟨_, rfl⟩
  rw [← hW3] at HBQ HX ⊢
  clear hW3
  obtain ⟨b0, b1, b2, b3⟩ := HBQ.out.cells
  rw [show (1 : Rat).num = 1 from rfl, intB_one] at b0
  rw [show (1 : Rat).den = 1 from rfl, numB_one] at b1
  have HSET := Lib.hid ((HBQ.out.ext (Ext.drew W3)).set 1)
  have HX2 : Hid (Ext w ((W3.drew.setCell ⟨w.heap.size, 0, none⟩ (.string ⟨#[49]⟩)).setCell ⟨w.heap.size, 1, none⟩ (.string ⟨#[49]⟩))) := ext_set2 (HX.out.trans (Ext.drew _)) (Nat.le_refl _)
  rw [show (1 : Rat).num = 1 from rfl, show (1 : Rat).den = 1 from rfl, intB_one, numB_one] at HSET
  go_wp2_with fail
  go_region
  all_goals
    go_wp2_with fail
    refine bodyPost_ret (results_tmp_cell (by rfl) _ _ w.heap.size 81 #[.string (intB 1), .string (numB 1)] (0, 0) _ (.slice none 0 0) (by rfl) (by rfl) HSET.out Tryz.underlying81 (by rfl) (by kernel_rfl)) (by rfl) ⟨rfl, HX2.out⟩
end Go.Proofs.YtpeinobepiodaaaGreatDoor
/- Contract of table.Determinant. -/
namespace Go.Proofs.YtpeinobepiodaaaGreatDoor
set_option linter.unusedVariables false
set_option linter.unusedSimpArgs false
open Go.RowKit

theorem RowsO.toMat {e : TypeId} {w : World} {ob base : Nat} {u : Value} {tags : List (Nat × Nat)} {m : List (List Rat)} (h : RowsO ratK e w ob base u tags m) (hob : base ≤ ob) (hpos : 0 < m.length) :
    ∃ g cap, u = .slice (some ⟨g, 0, none⟩) m.length cap ∧ MatQ w g tags m ∧ m.length ≤ cap ∧ cap ≤ 9223372036854775807 ∧ ∀ b, blocksQ g tags b → base ≤ b := by
  obtain ⟨g, cap, rfl, -⟩ := owns_shape h.own hpos
  obtain ⟨h1, h2, h3, h4⟩ := h.matQ hob
  exact ⟨g, cap, rfl, h1, h2, h3, h4⟩
theorem RowsO.form {α : Type} {K : RowKind α} {e : TypeId} {w : World} {ob base : Nat} {u : Value} {tags : List (Nat × Nat)} {m : List (List α)} (h : RowsO K e w ob base u tags m) : ∃ a n c, u = .slice a n c := by
  rcases h.own.2 with ⟨rfl, hn⟩ | ⟨g, cap, cur, rfl, hb, hg, h1, h2, h3, h4⟩
  · exact ⟨_, _, _, rfl⟩
  · exact ⟨_, _, _, rfl⟩
/-- What the reduction of rows just made leaves. -/
structure RedOk (wb w1 w' : World) (u v : Value) (tags0 : List (Nat × Nat)) (m : List (List Rat)) (n : Nat) : Prop where
  lead : OwnI w1.heap.size w' v (redTo m n).lead
  ext : Ext wb w'
  low : wb.heap.size ≤ w1.heap.size
  keep : GrownS (fun b => b ∈ tags0.map (·.1) ∨ u.ownBlock = some b) w1 w'
  mat : m ≠ [] → ∃ g tags cap, u = .slice (some ⟨g, 0, none⟩) m.length cap ∧ MatQ w' g tags (redTo m n).m ∧ m.length ≤ cap ∧ cap ≤ 9223372036854775807 ∧ ∀ b, blocksQ g tags b → wb.heap.size ≤ b
theorem reduceRows_any (m : List (List Rat)) (n C : Nat) (u : Value) (tags : List (Nat × Nat)) (wb w1 : World) (hO : RowsO ratK 39 w1 wb.heap.size wb.heap.size u tags m) (hwb : Ext wb w1) (hC : Rect C m) (hn : n ≤ C) (hC2 : C ≤ 1000) (hl : m.length ≤ 1000)
    (hok : ∀ c, c < n → AllRS 2500 (redTo m c).m ∧ RS 9000 (redTo m c).det) (ht : Pow10 wb) (hz : m = [] → n = 0) :
    Calls Tryz.prog 51 #[u, .int .i64 (n : Int)] w1 fun e w' => ∃ v, e = .returned (.tuple #[v, ratV (redTo m n).det]) ∧ RedOk wb w1 w' u v tags m n := by
  by_cases hm : m = []
  · obtain rfl := hz hm
    refine (reduce_zero u w1 hO.form).mono ?_
    rintro e w' ⟨rfl, hE⟩
    exact ⟨_, rfl, OwnI.nil _ _, hwb.trans hE, hwb.size, hE.grownS _, fun h => absurd hm h⟩
  · obtain ⟨g, cap, rfl, h1, h2, h3, h4⟩ := hO.toMat (Nat.le_refl _) (List.length_pos_iff.2 hm)
    refine (reduce_any m g cap n C tags wb w1 h1 hC hn hC2 hl h2 h3 hok hwb ht h4).mono ?_
    rintro e w' ⟨v, tags', rfl, k1, k2, k3, k4⟩
    exact ⟨v, rfl, k1, Below.trans hwb (k4.belowE (B := wb.heap.size) h4 hwb.size), hwb.size, k4.weak (fun b _ hb => by
      rcases List.mem_cons.1 hb with rfl | hb
      · exact .inr rfl
      · exact .inl hb), fun _ => ⟨g, tags', cap, rfl, k2, h2, h3, fun b hb => h4 b ((k3 b).1 hb)⟩⟩

theorem results_row_tmp {P : Program} {fn : Func} {p s : Tmp} {ty : TypeId} (h : fn.results = #[.tmp p, .tmp s]) (tmps : Array Value) (w : World) : (results fn tmps).run P w = .ok (.tuple #[tmps.getD p undef, tmps.getD s undef]) w := results_tmp2 h _ _ _
def detS (xss : List (List Int)) : Rat := (redTo (matQ xss) xss.length).det

set_option maxRecDepth 100000 in
set_option maxHeartbeats 2000000 in
theorem det_any (xss : List (List Int)) (v : Value) (w : World) (h : Rows2 w v xss) (hE : tabE xss = 0) (hsq : 0 < xss.length → colsN xss = xss.length) (hok : ∀ c, c < xss.length → AllRS 2500 (redTo (matQ xss) c).m ∧ RS 9000 (redTo (matQ xss) c).det) (ht : Pow10 w) :
    Calls Tryz.prog 16 #[v] w fun e w' => e = .returned (.tuple #[.string (intB (detS xss).num), .int .i64 0]) ∧ Ext w w' := by
  obtain ⟨hl, hrr⟩ := tabE_zero hE
  have HCH := Lib.hid (tabCheck_any xss v w h)
  rw [hE] at HCH
  have HCO : Hid (∀ W, Ext w W → Calls Tryz.prog 43 #[v] W fun e w' => e = .returned (.int .i64 (colsN xss : Int)) ∧ W = w') := fun W hW => columns_any xss v W (h.ext hW)
  have HRO : Hid (∀ W, Ext w W → Calls Tryz.prog 52 #[v, .func (.func 53) #[] #[]] W fun e w' => ∃ u tags, e = .returned u ∧ RowsO ratK 39 w' W.heap.size W.heap.size u tags (matQ xss) ∧ Ext W w') := fun W hW => by
    have hmo : ∀ (i : Nat) r, xss[i]? = some r → 0 < r.length + ([] : List Rat).length ∧ ([] : List Rat).length ≤ 1000 := fun i r hr => by
      have h1 := (hrr r (List.mem_of_getElem? hr)).1
      have h2 := (List.getElem?_eq_some_iff.1 hr).1
      have h3 := hsq (by omega)
      exact ⟨by simp; omega, by simp⟩
    have := rows_any xss v 53 #[] (fun _ => []) W (h.ext hW) (by omega) (fun r hr => by have := (hrr r hr).2.1; omega) hmo (enters_of Tryz.func53 (by kernel_rfl) rfl) (nothing_more _ _) (ht.ext hW)
    rw [rowsTo_matQ] at this
    exact this
  have HRE : Hid (∀ u tags W w1, RowsO ratK 39 w1 W.heap.size W.heap.size u tags (matQ xss) → Ext w W → Ext W w1 → Calls Tryz.prog 51 #[u, .int .i64 (xss.length : Int)] w1 fun e w' => ∃ v, e = .returned (.tuple #[v, ratV (detS xss)]) ∧ RedOk W w1 w' u v tags (matQ xss) xss.length) := fun u tags W w1 hO hW h1 => by
    refine reduceRows_any (matQ xss) xss.length xss.length u tags W w1 hO h1 (matQ_rect fun r hr => ?_) (Nat.le_refl _) (by omega) (by rw [matQ_len]; omega) hok (ht.ext hW) (fun e => by have := matQ_len xss; rw [e] at this; simp at this; exact this.symm)
    have h3 := hsq (List.length_pos_of_mem hr)
    rw [(hrr r hr).1, h3]
  obtain ⟨a, c, rfl, h1, h2, -, -⟩ := inCell.open h
  obtain ⟨n, hn⟩ : ∃ n, n = xss.length := ⟨_, rfl⟩
  rw [← hn] at HCH HCO HRO HRE h1 hsq ⊢
  have HSQ := Lib.hid hsq
  unfold maxLen at h2
  have HN := Lib.hid hn
  clear h hE hok ht hrr hl hsq hn
  have HCN : Hid (0 < n → ((colsN xss : Int) != (n : Int)) = false) := fun h => by rw [HSQ.out h]; simp
  by_cases h0 : 0 < n
  case' pos =>
    have hq : (0 : Int) < (n : Int) := by omega
    have hc := HCN.out h0
    clear h0 HCN HSQ
    go_enter Tryz.func16, Tryz.ntmps16
    go_wp2_with fail
    refine HCH.out.mono ?_
    rintro e w1 ⟨rfl, hE1⟩
    have HE1 := Lib.hid hE1
    clear hE1
    go_wp2_with fail
    refine (HCO.out _ HE1.out).mono ?_
    rintro e w2 ⟨rfl, rfl⟩
    go_wp2_with fail
  case' neg =>
    have hq : ¬ (0 : Int) < (n : Int) := by omega
    clear h0 HCN HSQ
    go_enter Tryz.func16, Tryz.ntmps16
    go_wp2_with fail
    refine HCH.out.mono ?_
    rintro e w1 ⟨rfl, hE1⟩
    have HE1 := Lib.hid hE1
    clear hE1
    go_wp2_with fail
  all_goals
    refine (HRO.out _ HE1.out).mono ?_
    rintro e w3 ⟨u, tags, rfl, hO, hE3⟩
    have HO := Lib.hid hO
    have HE3 := Lib.hid hE3
    clear hO hE3
    go_wp2_with fail
    refine (HRE.out u tags _ w3 HO.out HE1.out HE3.out).mono ?_
    rintro e w4 ⟨vl, rfl, hR⟩
    have HX := Lib.hid (Ext.trans HE1.out hR.ext)
    obtain ⟨d, hd⟩ : ∃ d, d = detS xss := ⟨_, rfl⟩
    rw [← hd]
    obtain ⟨av, cv, hv, -, -⟩ := hR.lead.form
    subst hv
    rw [show ratV d = .agg #[.string (intB d.num), .string (numB d.den)] from rfl]
    obtain ⟨W5, hW5, hE5, hs5, hb5⟩ := box2 w4 (.string ⟨#[]⟩) (.string ⟨#[]⟩) 81
    obtain ⟨r0, r1, rf⟩ := block2_cell hb5
    have f0 := rf 0
    have f1 := rf 1
    have HB5 : Hid (BoxQ ((W5.setCell ⟨w4.heap.size, 0, none⟩ (.string (intB d.num))).setCell ⟨w4.heap.size, 1, none⟩ (.string (numB d.den))) w4.heap.size d) := block2_set hb5
    have HX5 : Hid (Ext w ((W5.setCell ⟨w4.heap.size, 0, none⟩ (.string (intB d.num))).setCell ⟨w4.heap.size, 1, none⟩ (.string (numB d.den)))) := ext_set2 (HX.out.trans hE5) HX.out.size
    have c0 := HB5.out.cells.1
    have HD := Lib.hid hd
    clear hR hd rf hb5 hE5 hs5
    go_wp2_with fail
    go_ret2
    exact ⟨by rw [← HD.out]; rfl, HX5.out⟩
end Go.Proofs.YtpeinobepiodaaaGreatDoor
