/- Merged: Short, LongsOf. -/
import Derived.Test.YtjihfabhgcfjnaaGreatDoorUAX
import Derived.Test.YtjihfabhgcfjnaaGreatDoorUAN
/- Contracts of package lattice: short of one row; form of no rows. -/
namespace Go.Proofs.YtjihfabhgcfjnaaGreatDoor
set_option linter.unusedVariables false
set_option linter.unusedSimpArgs false
open Go.RowKit

def intC (_ : World) (u : List Value) (x : Int) : Prop := u = [.int .i64 x]
theorem Build.ints {w : World} {base : Nat} {e : TypeId} {v : Value} {xs : List Int} (h : Build w base e 1 v intC xs) : w.ownsRow base e 1 v xs.length (xs.map (Value.int .i64)) := by
  obtain ⟨us, h1, h2, h3, h4⟩ := h
  have : us = xs.map fun x => [Value.int .i64 x] := by
    apply List.ext_getElem?
    intro i
    rw [List.getElem?_map]
    by_cases hi : i < xs.length
    · have hi2 : i < us.length := by omega
      have := (h4 i us[i] xs[i] (by simp [hi2]) (by simp [hi])).now
      simp only [intC] at this
      simp [hi, hi2, this]
    · rw [List.getElem?_eq_none (by omega), List.getElem?_eq_none (by omega)]; rfl
  rw [this, flatten_one] at h3
  exact h3

def fit9B (n : Int) : Bool := decide (-1000000000 ≤ n) && decide (n ≤ 1000000000)
theorem fit9B_iff (n : Int) : fit9B n = true ↔ -1000000000 ≤ n ∧ n ≤ 1000000000 := by simp [fit9B]
/-- What short of a row ends in. -/
def ShortR (xs : List Int) (w : World) (e : Ending) (w' : World) : Prop :=
  if xs.all fit9B = true then ∃ a c, e = .returned (.tuple #[.slice a xs.length c, .int .i64 0]) ∧ Ints w' (.slice a xs.length c) xs ∧ w'.ownsRow w.heap.size 3 1 (.slice a xs.length c) xs.length (xs.map (Value.int .i64)) ∧ Ext w w'
  else e = .returned (.tuple #[.slice none 0 0, .int .i64 4]) ∧ Ext w w'

set_option maxRecDepth 100000 in
set_option maxHeartbeats 2000000 in
theorem short_any (xs : List Int) (g o c : Nat) (w : World) (hr : RowB w g o xs) (hc : xs.length ≤ c) (hc2 : c ≤ maxLen) (hlen : xs.length ≤ 1000) (hsm : xs.all smB = true) (hlib : LibT w) :
    Calls Tryz.prog 97 #[.slice (some ⟨g, o, none⟩) xs.length c] w (ShortR xs w) := by
  obtain ⟨i0, hi, hz0, hz1, hz2⟩ := info_parts infoInt
  have HI := Lib.hid hi; have HZ0 := Lib.hid hz0; have HZ1 := Lib.hid hz1; have HZ2 := Lib.hid hz2
  have HR := Lib.hid hr; have HLIB := Lib.hid hlib
  have HS := Lib.hid (fun x hx => sm_of (List.all_eq_true.1 hsm x hx))
  unfold maxLen at hc2
  clear hi hz0 hz1 hz2 hr hsm hlib
  go_enter Tryz.func97, Tryz.ntmps97
  go_wp2_with (at_make; refine wpList_make_own _ rfl _ _ 37 rfl w.heap.size 3 i0 (.int .i64 0) 1 Tryz.underlying37 HI.out HZ0.out HZ1.out _ _ _ xs.length rfl rfl rfl ?c1 ?c2 ?c3 ?_)
  case c1 => rw [HZ2.out]; omega
  case c2 => unfold maxLen; omega
  case c3 => exact Nat.le_refl _
  intro w1 hown hgrow
  have HE1 := Lib.hid (ext_grown hgrow)
  have HOWN := Lib.hid hown
  clear hown hgrow
  go_wp2_with fail
  go_loopw [4, 14] (fun out t wr => ∃ j : Nat, j ≤ xs.length ∧ t = .int .i64 j ∧ Ext w wr ∧ Hid (∃ g cc, out = .slice (some ⟨g, 0, none⟩) j cc) ∧ Hid (Build wr w.heap.size 3 1 out intC (xs.take j)) ∧ Hid ((xs.take j).all fit9B = true)) (fun _ t _ => xs.length - (intOf t).toNat)
  case atStart => exact ⟨0, by omega, rfl, HE1.out, ⟨_, _, rfl⟩, ⟨[], rfl, by simp, HOWN.out, by simp⟩, rfl⟩
  case round =>
    obtain ⟨j, hj, rfl, hE, HSL, HBu, HFT⟩ := hrel
    obtain ⟨wo, rfl⟩ : ∃ wo : World, wo = wr := ⟨_, rfl⟩
    have HE := Lib.hid hE
    by_cases hlt : j < xs.length
    · obtain ⟨x, hx⟩ : ∃ x, xs[j]? = some x := ⟨xs[j], List.getElem?_eq_getElem hlt⟩
      have g1 := (HR.out.ext hE).cell j x hx
      have hxm := List.mem_of_getElem? hx
      have hxs := HS.out x hxm
      have HSG := Lib.hid (smallG_any x wo (by have := hxs.size; omega) (HLIB.out.ext hE))
      have HN : Hid (xs.take (j + 1) = xs.take j ++ [x]) := by unfold Hid; rw [List.take_add_one, hx]; rfl
      have HJ : Hid ((xs.take j).length < 1000000) := by unfold Hid; rw [List.length_take]; omega
      have HJL : Hid ((xs.take j).length = j) := by unfold Hid; rw [List.length_take]; omega
      by_cases hf : fit9B x = true
      · obtain ⟨f1, f2⟩ := (fit9B_iff x).1 hf
        have hfi : fitI x := ⟨by omega, by omega⟩
        have HSY := HSG
        rw [show smV x = x by unfold smV; rw [if_pos hfi], show decide (fitI x) = true from decide_eq_true hfi] at HSY
        clear HSG hfi
        have HF2 : Hid ((xs.take (j + 1)).all fit9B = true) := by unfold Hid; rw [HN.out, List.all_append, HFT.out]; simp [hf]
        clear hx hxm hxs hE hf
        go_wp2_with fail
        refine HSY.out.mono ?_
        rintro e w2 ⟨rfl, hE2⟩
        have HB2 := Lib.hid (HBu.out.ext hE2)
        have HE2 := Lib.hid (Ext.trans HE.out hE2)
        have hszr := HE2.out.size
        clear hE2 HSY
        go_wp2_with (at_builtin; go_must (refine wpList_append_build _ rfl _ _ 37 rfl w.heap.size 3 (.int .i64 0) 1 8 Tryz.underlying37 infoInt rfl (by decide) u4 intC (xs.take j) x #[.int .i64 x] 3 rfl HB2.out rfl rfl ?e1 (fun _ _ => rfl) HJ.out (by decide) hszr ?_))
        case e1 => simp [Value.oneCell']
        intro v' w5 hB5 hg5 hb5 hs5 _
        have HV : Hid (∃ g cc, v' = .slice (some ⟨g, 0, none⟩) (j + 1) cc) := by
          obtain ⟨us, b1, b2, b3, b4⟩ := id hB5
          obtain ⟨g, cc, hv, -⟩ := owns_shape b3 (by rw [List.length_append]; simp)
          refine ⟨g, cc, ?_⟩
          rw [hv, List.length_append, HJL.out]; rfl
        rw [← HN.out] at hB5
        have HB5 := Lib.hid hB5
        have HX5 := Lib.hid (Below.trans HE2.out hb5)
        clear hB5 hg5 hb5
        go_wp2_with fail
        go_roundw
        case rel => exact ⟨j + 1, by omega, by go_num, HX5.out, HV, HB5.out, HF2.out⟩
        case measure => simp [intOf]; omega
      · have HA : Hid (¬ xs.all fit9B = true) := fun h => hf (List.all_eq_true.1 h x hxm)
        have hf2 : x < -1000000000 ∨ 1000000000 < x := by
          rcases Int.lt_or_le x (-1000000000) with h | h
          · exact .inl h
          · rcases Int.lt_or_le 1000000000 x with h2 | h2
            · exact .inr h2
            · exact absurd ((fit9B_iff x).2 ⟨h, h2⟩) hf
        by_cases hfi : fitI x
        · have HSY := HSG
          rw [show smV x = x by unfold smV; rw [if_pos hfi], show decide (fitI x) = true from decide_eq_true hfi] at HSY
          clear hx hxm hxs hE hf HSG hfi
          rcases hf2 with hf2 | hf2
          · have hf3 : ¬ 1000000000 < x := by omega
            go_wp2_with fail
            refine HSY.out.mono ?_
            rintro e w2 ⟨rfl, hE2⟩
            have HE2 := Lib.hid (Ext.trans HE.out hE2)
            clear hE2 HSY
            go_wp2_with fail
            go_ret2
            unfold ShortR
            rw [if_neg HA.out]
            exact ⟨rfl, HE2.out⟩
          · go_wp2_with fail
            refine HSY.out.mono ?_
            rintro e w2 ⟨rfl, hE2⟩
            have HE2 := Lib.hid (Ext.trans HE.out hE2)
            clear hE2 HSY
            go_wp2_with fail
            go_ret2
            unfold ShortR
            rw [if_neg HA.out]
            exact ⟨rfl, HE2.out⟩
        · have HSY := HSG
          rw [show smV x = 0 by unfold smV; rw [if_neg hfi], show decide (fitI x) = false from decide_eq_false hfi] at HSY
          clear hx hxm hxs hE hf HSG hfi hf2
          go_wp2_with fail
          refine HSY.out.mono ?_
          rintro e w2 ⟨rfl, hE2⟩
          have HE2 := Lib.hid (Ext.trans HE.out hE2)
          clear hE2 HSY
          go_wp2_with fail
          go_ret2
          unfold ShortR
          rw [if_neg HA.out]
          exact ⟨rfl, HE2.out⟩
    · obtain rfl : j = xs.length := by omega
      obtain ⟨gg, cc, rfl⟩ := HSL.out
      have hB := HBu.out
      have hF := HFT.out
      rw [List.take_length] at hB hF
      have HO := Lib.hid (Build.ints hB)
      have HF := Lib.hid hF
      clear hB hF HBu HSL HFT hE
      go_wp2_with fail
      go_ret2
      unfold ShortR
      rw [if_pos HF.out]
      refine ⟨_, cc, rfl, Ints.of_owns HO.out (fun x hx => ?_), HO.out, HE.out⟩
      have := (fit9B_iff x).1 (List.all_eq_true.1 HF.out x hx)
      omega

set_option maxRecDepth 100000 in
set_option maxHeartbeats 1000000 in
/-- The form of no rows. -/
theorem form_nil (cols : Nat) (w : World) :
    Calls Tryz.prog 90 #[.slice none 0 0, .int .i64 cols] w fun e w' => e = .returned (.slice none 0 0) ∧ w = w' := by
  go_enter Tryz.func90, Tryz.ntmps90
  go_wp2_with fail
  go_loop [5, 6] (fun sd sc => sd = .int .i64 0 ∧ sc = .int .i64 0) (fun _ _ => 0)
  case atStart => exact ⟨rfl, rfl⟩
  case round =>
    obtain ⟨rfl, rfl⟩ := hrel
    by_cases h : 0 < cols
    · go_wp2_with fail
      go_ret
      exact ⟨rfl, rfl⟩
    · obtain rfl : cols = 0 := by omega
      go_wp2_with fail
      go_ret
      exact ⟨rfl, rfl⟩
end Go.Proofs.YtjihfabhgcfjnaaGreatDoor
/- Matrices that a call builds row by row: an outer row of its own, rows in blocks apart. -/
namespace Go.Proofs.YtjihfabhgcfjnaaGreatDoor
set_option linter.unusedVariables false
set_option linter.unusedSimpArgs false
open Go.RowKit

theorem infoLong : (Tryz.prog.info? 159).map (fun i => (i.zero, i.size, i.bytes)) = some (some (.slice none 0 0), 1, 24) := by kernel_rfl

def tagV (t : Nat × Nat × Nat) (n : Nat) : Value := .slice (some ⟨t.1, t.2.1, none⟩) n t.2.2
def tagVs (tags : List (Nat × Nat × Nat)) (m : List (List Int)) : List Value := List.zipWith (fun t r => tagV t r.length) tags m
/-- A matrix in the making: its outer row is the call's own, its rows lie in blocks apart. -/
structure LongsB (w : World) (ob base : Nat) (v : Value) (tags : List (Nat × Nat × Nat)) (m : List (List Int)) : Prop where
  len : tags.length = m.length
  own : w.ownsRow ob 159 1 v m.length (tagVs tags m)
  row : ∀ (i : Nat) t r, tags[i]? = some t → m[i]? = some r → r.length ≤ t.2.2 ∧ t.2.2 ≤ maxLen ∧ RowB w t.1 t.2.1 r ∧ base ≤ t.1 ∧ v.ownBlock ≠ some t.1
  nodup : (tags.map (·.1)).Nodup
theorem LongsB.nil (w : World) (ob base : Nat) : LongsB w ob base (.slice none 0 0) [] [] :=
  ⟨rfl, World.ownsRow_nil _ _ _ _, by intro i t r h; simp at h, by simp⟩
theorem LongsB.ext {w w' : World} {ob base : Nat} {v : Value} {tags : List (Nat × Nat × Nat)} {m : List (List Int)} (h : LongsB w ob base v tags m) (he : Ext w w') : LongsB w' ob base v tags m :=
  ⟨h.len, owns_ext h.own he, fun i t r ht hr => by
    obtain ⟨h1, h2, h3, h4, h5⟩ := h.row i t r ht hr
    exact ⟨h1, h2, h3.ext he, h4, h5⟩, h.nodup⟩
/-- One row more. -/
theorem LongsB.snoc {w w' : World} {ob base : Nat} {v v' : Value} {tags : List (Nat × Nat × Nat)} {m : List (List Int)} (h : LongsB w ob base v tags m) (t : Nat × Nat × Nat) (r : List Int) (hr1 : r.length ≤ t.2.2) (hr2 : t.2.2 ≤ maxLen) (hR : RowB w t.1 t.2.1 r) (hb : base ≤ t.1) (hv : v.ownBlock ≠ some t.1) (hn : t.1 ∉ tags.map (·.1))
    (hown : w'.ownsRow ob 159 1 v' (m.length + 1) (tagVs tags m ++ [tagV t r.length])) (hg : w.grownBy w' v.ownBlock) (hat : v'.ownBlock = v.ownBlock ∨ ∃ b, v'.ownBlock = some b ∧ w.heap.size ≤ b) :
    LongsB w' ob base v' (tags ++ [t]) (m ++ [r]) := by
  have hkeep : ∀ (s : Nat × Nat × Nat) q, RowB w s.1 s.2.1 q → v.ownBlock ≠ some s.1 → RowB w' s.1 s.2.1 q ∧ v'.ownBlock ≠ some s.1 := fun s q hs hvs => by
    refine ⟨hs.same hg.size (hg.block s.1 hs.lt hvs.symm), fun e => ?_⟩
    rcases hat with e2 | ⟨b, e2, e3⟩
    · exact hvs (e2.symm.trans e)
    · rw [e2] at e; cases e; have := hs.lt; omega
  refine ⟨by simp [h.len], ?_, fun i s q hs hq => ?_, ?_⟩
  · have e : tagVs (tags ++ [t]) (m ++ [r]) = tagVs tags m ++ [tagV t r.length] := by
      unfold tagVs; rw [List.zipWith_append h.len]; rfl
    rw [e, List.length_append]; exact hown
  · by_cases hi : i < tags.length
    · rw [List.getElem?_append_left hi] at hs
      rw [List.getElem?_append_left (by rw [← h.len]; exact hi)] at hq
      obtain ⟨h1, h2, h3, h4, h5⟩ := h.row i s q hs hq
      obtain ⟨k1, k2⟩ := hkeep s q h3 h5
      exact ⟨h1, h2, k1, h4, k2⟩
    · rw [List.getElem?_append_right (by omega)] at hs
      rw [List.getElem?_append_right (by rw [← h.len]; omega)] at hq
      have e1 : i - tags.length = 0 := by have := (List.getElem?_eq_some_iff.1 hs).1; simp at this; omega
      have e2 : i - m.length = 0 := by rw [← h.len]; exact e1
      rw [e1] at hs
      rw [e2] at hq
      simp only [List.getElem?_cons_zero, Option.some.injEq] at hs hq
      subst hs; subst hq
      obtain ⟨k1, k2⟩ := hkeep t r hR hv
      exact ⟨hr1, hr2, k1, hb, k2⟩
  · rw [List.map_append, List.nodup_append]
    refine ⟨h.nodup, by simp, ?_⟩
    intro a ha b hb2 e
    simp only [List.map_cons, List.map_nil, List.mem_singleton] at hb2
    subst e; subst hb2
    exact hn ha
/-- The matrix built, as one in place. -/
theorem LongsB.mat {w : World} {ob base : Nat} {g cap : Nat} {tags : List (Nat × Nat × Nat)} {m : List (List Int)} (h : LongsB w ob base (.slice (some ⟨g, 0, none⟩) m.length cap) tags m) (hob : base ≤ ob) :
    MatB w g tags m ∧ m.length ≤ cap ∧ cap ≤ maxLen ∧ ∀ b, blocksOf g tags b → base ≤ b := by
  have hc := h.own.cells (g := g) (by simp [Value.ownBlock])
  have hf := fun j => h.own.frozenAt j
  rcases h.own.2 with ⟨hv, _⟩ | ⟨g', cap', cur, hv, hb, hg, h1, h2, h3, h4⟩
  · simp at hv
  · simp only [Value.slice.injEq, Option.some.injEq, Addr.mk.injEq] at hv
    obtain ⟨⟨rfl, -, -⟩, -, rfl⟩ := hv
    refine ⟨⟨h.len, (Array.getElem?_eq_some_iff.1 hg).1, fun j => hf j, fun i t r ht hr => ?_, ?_⟩, h1, h2, fun b hb2 => ?_⟩
    · obtain ⟨k1, k2, k3, k4, k5⟩ := h.row i t r ht hr
      refine ⟨?_, k1, k2, k3⟩
      have := hc i (tagV t r.length) (by unfold tagVs; rw [List.getElem?_zipWith, ht, hr])
      rw [show (⟨g, 0, none⟩ : Addr).add i = ⟨g, i, none⟩ by unfold Addr.add; split <;> simp_all] at this
      exact this
    · rw [List.nodup_cons]
      refine ⟨fun hm => ?_, h.nodup⟩
      obtain ⟨t, ht, rfl⟩ := List.mem_map.1 hm
      obtain ⟨i, hi⟩ := List.getElem?_of_mem ht
      have hl : i < m.length := by rw [← h.len]; exact (List.getElem?_eq_some_iff.1 hi).1
      exact (h.row i t m[i] hi (List.getElem?_eq_getElem hl)).2.2.2.2 rfl
    · rcases List.mem_cons.1 hb2 with rfl | hb2
      · exact Nat.le_trans hob hb
      · obtain ⟨t, ht, rfl⟩ := List.mem_map.1 hb2
        obtain ⟨i, hi⟩ := List.getElem?_of_mem ht
        have hl : i < m.length := by rw [← h.len]; exact (List.getElem?_eq_some_iff.1 hi).1
        exact (h.row i t m[i] hi (List.getElem?_eq_getElem hl)).2.2.2.1

/-- 'out = append(out, r)': one row more. -/
theorem wpList_append_long (w : World) {ops : Array Oper} {rest : List Oper} {o : Oper} {a : Act} {Q : Exit → Act → World → Prop} (hgd : o.guard = none)
    (s x : Operand) (ho : o.op = Op.call { callee := Callee.builtin Builtin.append, args := #[s, x], argTypes := #[152, 152] }) (ob base : Nat)
    (v : Value) (tags : List (Nat × Nat × Nat)) (m : List (List Int)) (t : Nat × Nat × Nat) (r : List Int) (u : Array Value) (T : TypeId) (hs : a.eval s = v) (hB : LongsB w ob base v tags m)
    (hx : a.eval x = .slice (some ⟨w.heap.size, 0, none⟩) 1 1) (hu : u = #[tagV t r.length]) (hr1 : r.length ≤ t.2.2) (hr2 : t.2.2 ≤ maxLen) (hR : RowB w t.1 t.2.1 r) (hb : base ≤ t.1) (hv : v.ownBlock ≠ some t.1) (hn : t.1 ∉ tags.map (·.1))
    (hlen : m.length < 1000000) (hbase : ob ≤ w.heap.size)
    (h : ∀ v' w', LongsB w' ob base v' (tags ++ [t]) (m ++ [r]) → Below ob w w' → Hid (∃ g c, v' = .slice (some ⟨g, 0, none⟩) (m.length + 1) c) → wpList Tryz.prog ops Q rest (a.put o.dst v') w') :
    wpList Tryz.prog ops Q (o :: rest) a (w.alloc (.cells u T)) := by
  refine wpList_plain hgd fun K hK => ?_
  subst hu
  obtain ⟨i0, hi, hz, hsize, hby⟩ := info_parts infoLong
  have hadd : ∀ j, (⟨w.heap.size, 0, none⟩ : Addr).add j = ⟨w.heap.size, j, none⟩ := by intro j; unfold Addr.add; split <;> simp_all
  have hE : Ext w (w.alloc (.cells #[tagV t r.length] T)) := Ext.alloc _ _
  refine wp_append_own_at (w.alloc (.cells #[tagV t r.length] T)) s x 152 ho ob 159 i0 (.slice none 0 0) 1 24 Tryz.underlying152 hi hz hsize hby rfl (by decide) v m.length (tagVs tags m) hs (owns_ext hB.own hE) ⟨w.heap.size, 0, none⟩ 1 1 [tagV t r.length] hx rfl ?_ ?_ ?_ ?_ ?_ ?_
  · intro j q hq
    rw [hadd, World.cell?_alloc_new]
    simpa using hq
  · intro u hu
    rw [List.mem_singleton.1 hu]; rfl
  · unfold maxLen; omega
  · omega
  · simp; omega
  · intro v' w' hown hgrow _ hat
    have hLB := (hB.ext hE).snoc t r hr1 hr2 (hR.ext hE) hb hv hn hown hgrow (by
      rcases hat with h1 | h1
      · exact .inl h1
      · exact .inr ⟨_, h1, Nat.le_refl _⟩)
    refine hK _ _ (h v' w' hLB ?_ ?_)
    · have hgw : w.grownBy w' v.ownBlock := grown_trans (hE.grown _) hgrow
      refine ⟨hgw.os, hgw.tape, hgw.output, hgw.size, fun b hb2 => hgw.block b (by omega) ?_⟩
      intro e
      have := (hB.own.lt b e.symm).1
      omega
    · obtain ⟨g, c, hv', -⟩ := owns_shape hown (by omega)
      exact ⟨g, c, hv'⟩

set_option maxRecDepth 100000 in
set_option maxHeartbeats 1000000 in
/-- A matrix of ints as one of integers of any size. -/
theorem longsOf_any (xss : List (List Int)) (v : Value) (w : World) (h : Rows2 w v xss) (hlen : xss.length ≤ 1000) (hrow : ∀ xs ∈ xss, xs.length ≤ 1000) (ht : Pow10 w) :
    Calls Tryz.prog 89 #[v] w fun e w' => ∃ v' tags, e = .returned v' ∧ LongsB w' w.heap.size w.heap.size v' tags xss ∧ (v' = .slice none 0 0 ∧ xss = [] ∨ ∃ g c, v' = .slice (some ⟨g, 0, none⟩) xss.length c) ∧ Ext w w' := by
  obtain ⟨a, c, rfl, h1, h2, -, hc⟩ := inCell.open h
  have HC := Lib.hid hc; have HT := Lib.hid ht; have HROW := Lib.hid hrow
  unfold maxLen at h2
  clear h hc ht hrow
  go_enter Tryz.func89, Tryz.ntmps89
  go_wp2_with fail
  go_loopw [3, 8] (fun out t wr => ∃ (j : Nat) (tags : List (Nat × Nat × Nat)), j ≤ xss.length ∧ t = .int .i64 j ∧ Ext w wr ∧ Hid (LongsB wr w.heap.size w.heap.size out tags (xss.take j)) ∧ Hid (out = .slice none 0 0 ∧ j = 0 ∨ ∃ g c, out = .slice (some ⟨g, 0, none⟩) j c)) (fun _ t _ => xss.length - (intOf t).toNat)
  case atStart => exact ⟨0, [], by omega, rfl, Ext.refl _, LongsB.nil _ _ _, .inl ⟨rfl, rfl⟩⟩
  case round =>
    obtain ⟨j, tags, hj, rfl, hE, HB, HV⟩ := hrel
    obtain ⟨wo, rfl⟩ : ∃ wo : World, wo = wr := ⟨_, rfl⟩
    have HE := Lib.hid hE
    by_cases hlt : j < xss.length
    · obtain ⟨b, off, rfl, hb, hcell⟩ := HC.out (by intro e; simp [e] at hlt)
      obtain ⟨xs, hx⟩ : ∃ x, xss[j]? = some x := ⟨xss[j], List.getElem?_eq_getElem hlt⟩
      obtain ⟨vr, hvr, hcr⟩ := hcell j xs hx
      have g1 := hE.cell hcr
      obtain ⟨ar, cr, rfl, -, -, -, -, -⟩ := Ints.open hvr
      have HL := Lib.hid (longOf_any xs _ wo (hvr.ext hE) (HROW.out xs (List.mem_of_getElem? hx)) (HT.out.ext hE))
      have HN : Hid (xss.take (j + 1) = xss.take j ++ [xs]) := by unfold Hid; rw [List.take_add_one, hx]; rfl
      have HJ : Hid ((xss.take j).length = j) := by unfold Hid; rw [List.length_take]; omega
      clear hcell hx hvr hcr hE
      go_wp2_with fail
      refine HL.out.mono ?_
      rintro e w2 ⟨g, cg, rfl, hR, hg1, hg2, hg3, hE2⟩
      have HB2 := Lib.hid (HB.out.ext hE2)
      have HE2 := Lib.hid (Ext.trans HE.out hE2)
      have hszr := HE2.out.size
      have hszw := HE.out.size
      have HR := Lib.hid hR
      have hv1 : u3.ownBlock ≠ some g := fun e => by have := (HB.out.own.lt g e).2; omega
      have hn1 : g ∉ tags.map (·.1) := fun hm => by
        obtain ⟨t, ht, e⟩ := List.mem_map.1 hm
        obtain ⟨i, hi⟩ := List.getElem?_of_mem ht
        have hl : i < (xss.take j).length := by rw [← HB.out.len]; exact (List.getElem?_eq_some_iff.1 hi).1
        have := (HB.out.row i t _ hi (List.getElem?_eq_getElem hl)).2.2.1.lt
        omega
      have HV1 := Lib.hid hv1; have HN1 := Lib.hid hn1
      clear hE2 HL hR hv1 hn1
      go_wp2_with (at_builtin; go_must (refine wpList_append_long _ rfl _ _ rfl w.heap.size w.heap.size u3 tags (xss.take j) (g, 0, cg) xs #[.slice (some ⟨g, 0, none⟩) xs.length cg] 159 rfl HB2.out rfl rfl hg2 hg3 HR.out ?e1 HV1.out HN1.out ?e2 hszr ?_))
      case e1 => show w.heap.size ≤ g; omega
      case e2 => rw [HJ.out]; omega
      intro v' w5 hB5 hb5 hv5
      rw [← HN.out] at hB5
      have HB5 := Lib.hid hB5
      have HV5 := hv5
      have HX5 := Lib.hid (Below.trans HE2.out hb5)
      clear hB5 hb5 hv5
      go_wp2_with fail
      go_roundw
      case rel => exact ⟨j + 1, _, by omega, by go_num, HX5.out, HB5.out, .inr HV5.out⟩
      case measure => simp [intOf]; omega
    · obtain rfl : j = xss.length := by omega
      have hB := HB.out
      rw [List.take_length] at hB
      have HBF := Lib.hid hB
      have HVF : Hid (u3 = .slice none 0 0 ∧ xss = [] ∨ ∃ g c, u3 = .slice (some ⟨g, 0, none⟩) xss.length c) := by
        rcases HV.out with ⟨h1, h2⟩ | h1
        · exact .inl ⟨h1, List.eq_nil_of_length_eq_zero h2⟩
        · exact .inr h1
      clear hB HB HV hE
      go_wp2_with fail
      go_ret
      exact ⟨_, tags, rfl, HBF.out, HVF.out, HE.out⟩
end Go.Proofs.YtjihfabhgcfjnaaGreatDoor
