/- Merged: SmallG, Short, LShort. -/
import Derived.Test.YtielnneclcekbaaGreatDoorQAE
import Derived.Lib.ParseIntBTie
import Derived.Test.YtielnneclcekbaaGreatDoorQAV
import Derived.Test.YtielnneclcekbaaGreatDoorQAW
/- Contract of whole.Small at any size. -/
namespace Go.Proofs.YtielnneclcekbaaGreatDoor
set_option linter.unusedVariables false
set_option linter.unusedSimpArgs false
open Go.RowKit

/-- Fits an int. -/
def fitI (n : Int) : Prop := -9223372036854775808 ≤ n ∧ n ≤ 9223372036854775807
instance (n : Int) : Decidable (fitI n) := inferInstanceAs (Decidable (_ ∧ _))
def smV (n : Int) : Int := if fitI n then n else 0
/-- What the laid variables give. -/
structure LibT (w : World) : Prop where
  pow : Pow10 w
  rng : ∃ te pe, w.cell? ⟨1, 0, none⟩ = some (.iface te pe)
theorem LibT.ext {w w' : World} (h : LibT w) (he : Ext w w') : LibT w' := by
  obtain ⟨te, pe, hr⟩ := h.rng
  exact ⟨h.pow.ext he, ⟨te, pe, he.cell hr⟩⟩
theorem parseInt_range (n : Int) (h : ¬ fitI n) : Lib.parseIntB 64 (intB n).data.toList = .range := by
  have := atoi_canon_range (intB_canon n).1 (by rw [(intB_canon n).2]; exact h)
  rw [Lib.parseIntB_64]; exact this
theorem parseInt_fit (n : Int) (h : fitI n) : Lib.parseIntB 64 (intB n).data.toList = .ok n := by
  have := atoi_canon_ok (intB_canon n).1 (by rw [(intB_canon n).2]; exact h)
  rw [(intB_canon n).2] at this
  rw [Lib.parseIntB_64]; exact this
set_option maxRecDepth 100000 in
theorem smallG_any (n : Int) (w : World) (hs : (intB n).size ≤ 2000000000) (ht : LibT w) :
    Calls Tryz.prog 94 #[.string (intB n)] w fun e w' => e = .returned (.tuple #[.int .i64 (smV n), .bool (decide (fitI n))]) ∧ Ext w w' := by
  by_cases h : fitI n
  · have HV : Hid (smV n = n ∧ decide (fitI n) = true) := ⟨by unfold smV; rw [if_pos h], decide_eq_true h⟩
    have HP : Hid (Calls Tryz.prog 121 #[.string (intB n), .int .i64 10, .int .i64 64] w fun e w' => e = .returned (.tuple #[.int .i64 n, .nilIface]) ∧ Ext w w') :=
      (Tryz.strconv_ParseInt_10_at64_ok (intB n) (by omega) n (parseInt_fit n h) w).mono fun e w' ⟨h1, h2⟩ => ⟨h1, by
        rcases h2 with rfl | ⟨t, rfl⟩
        · exact Ext.refl _
        · exact ⟨rfl, rfl, rfl, by rw [Lib.bytesWorld_size]; omega, fun j hj => Lib.bytesWorld_at_old w _ t j hj⟩⟩
    clear h ht
    go_enter Tryz.func94, Tryz.ntmps94
    go_wp2_with fail
    refine HP.out.mono ?_
    rintro e w1 ⟨rfl, hE1⟩
    have HE1 := Lib.hid hE1
    clear hE1 HP
    go_wp2_with fail
    go_ret2
    exact ⟨by rw [HV.out.1, HV.out.2]; rfl, HE1.out⟩
  · have HV : Hid (smV n = 0 ∧ decide (fitI n) = false) := ⟨by unfold smV; rw [if_neg h], decide_eq_false h⟩
    obtain ⟨te, pe, hr⟩ := ht.rng
    have HP := Lib.hid (Tryz.strconv_ParseInt_10_at64_range (intB n) (by omega) (parseInt_range n h) _ w hr (.inr ⟨te, pe, rfl⟩))
    clear h hr ht
    go_enter Tryz.func94, Tryz.ntmps94
    go_wp2_with fail
    refine HP.out.mono ?_
    rintro e w1 ⟨N, rfl, hN, hblk, hE1⟩
    have HE1 : Hid (Ext w w1) := hE1
    clear hE1 HP hblk
    go_wp2_with fail
    go_ret2
    exact ⟨by rw [HV.out.1, HV.out.2]; rfl, HE1.out⟩

end Go.Proofs.YtielnneclcekbaaGreatDoor
/- Contracts of package lattice: short of one row; form of no rows. -/
namespace Go.Proofs.YtielnneclcekbaaGreatDoor
set_option linter.unusedVariables false
set_option linter.unusedSimpArgs false
open Go.RowKit

def intC (_ : World) (u : List Value) (x : Int) : Prop := u = [.int .i64 x]
theorem Build.ints {w : World} {base : Nat} {e : TypeId} {v : Value} {xs : List Int} (h : Build w base e 1 v intC xs) : w.ownsRow base e 1 v xs.length (xs.map (Value.int .i64)) := by
  obtain ⟨us, h1, h2, h3, h4⟩ := h
  have : us = xs.map fun x => [Value.int .i64 x] := by
    apply List.ext_getElem?
    intro i
    rw [List.getElem?_map]
    by_cases hi : i < xs.length
    · have hi2 : i < us.length := by omega
      have := (h4 i us[i] xs[i] (by simp [hi2]) (by simp [hi])).now
      simp only [intC] at this
      simp [hi, hi2, this]
    · rw [List.getElem?_eq_none (by omega), List.getElem?_eq_none (by omega)]; rfl
  rw [this, flatten_one] at h3
  exact h3

def fit9B (n : Int) : Bool := decide (-1000000000 ≤ n) && decide (n ≤ 1000000000)
theorem fit9B_iff (n : Int) : fit9B n = true ↔ -1000000000 ≤ n ∧ n ≤ 1000000000 := by simp [fit9B]
/-- What short of a row ends in. -/
def ShortR (xs : List Int) (w : World) (e : Ending) (w' : World) : Prop :=
  if xs.all fit9B = true then ∃ a c, e = .returned (.tuple #[.slice a xs.length c, .int .i64 0]) ∧ Ints w' (.slice a xs.length c) xs ∧ w'.ownsRow w.heap.size 3 1 (.slice a xs.length c) xs.length (xs.map (Value.int .i64)) ∧ Ext w w'
  else e = .returned (.tuple #[.slice none 0 0, .int .i64 4]) ∧ Ext w w'

set_option maxRecDepth 100000 in
set_option maxHeartbeats 2000000 in
theorem short_any (xs : List Int) (g o c : Nat) (w : World) (hr : RowB w g o xs) (hc : xs.length ≤ c) (hc2 : c ≤ maxLen) (hlen : xs.length ≤ 1000) (hsm : xs.all smB = true) (hlib : LibT w) :
    Calls Tryz.prog 57 #[.slice (some ⟨g, o, none⟩) xs.length c] w (ShortR xs w) := by
  obtain ⟨i0, hi, hz0, hz1, hz2⟩ := info_parts infoInt
  have HI := Lib.hid hi; have HZ0 := Lib.hid hz0; have HZ1 := Lib.hid hz1; have HZ2 := Lib.hid hz2
  have HR := Lib.hid hr; have HLIB := Lib.hid hlib
  have HS := Lib.hid (fun x hx => sm_of (List.all_eq_true.1 hsm x hx))
  unfold maxLen at hc2
  clear hi hz0 hz1 hz2 hr hsm hlib
  go_enter Tryz.func57, Tryz.ntmps57
  go_wp2_with (at_make; refine wpList_make_own _ rfl _ _ 46 rfl w.heap.size 3 i0 (.int .i64 0) 1 Tryz.underlying46 HI.out HZ0.out HZ1.out _ _ _ xs.length rfl rfl rfl ?c1 ?c2 ?c3 ?_)
  case c1 => rw [HZ2.out]; omega
  case c2 => unfold maxLen; omega
  case c3 => exact Nat.le_refl _
  intro w1 hown hgrow
  have HE1 := Lib.hid (ext_grown hgrow)
  have HOWN := Lib.hid hown
  clear hown hgrow
  go_wp2_with fail
  go_loopw [4, 14] (fun out t wr => ∃ j : Nat, j ≤ xs.length ∧ t = .int .i64 j ∧ Ext w wr ∧ Hid (∃ g cc, out = .slice (some ⟨g, 0, none⟩) j cc) ∧ Hid (Build wr w.heap.size 3 1 out intC (xs.take j)) ∧ Hid ((xs.take j).all fit9B = true)) (fun _ t _ => xs.length - (intOf t).toNat)
  case atStart => exact ⟨0, by omega, rfl, HE1.out, ⟨_, _, rfl⟩, ⟨[], rfl, by simp, HOWN.out, by simp⟩, rfl⟩
  case round =>
    obtain ⟨j, hj, rfl, hE, HSL, HBu, HFT⟩ := hrel
    obtain ⟨wo, rfl⟩ : ∃ wo : World, wo = wr := ⟨_, rfl⟩
    have HE := Lib.hid hE
    by_cases hlt : j < xs.length
    · obtain ⟨x, hx⟩ : ∃ x, xs[j]? = some x := ⟨xs[j], List.getElem?_eq_getElem hlt⟩
      have g1 := (HR.out.ext hE).cell j x hx
      have hxm := List.mem_of_getElem? hx
      have hxs := HS.out x hxm
      have HSG := Lib.hid (smallG_any x wo (by have := hxs.size; omega) (HLIB.out.ext hE))
      have HN : Hid (xs.take (j + 1) = xs.take j ++ [x]) := by unfold Hid; rw [List.take_add_one, hx]; rfl
      have HJ : Hid ((xs.take j).length < 1000000) := by unfold Hid; rw [List.length_take]; omega
      have HJL : Hid ((xs.take j).length = j) := by unfold Hid; rw [List.length_take]; omega
      by_cases hf : fit9B x = true
      · obtain ⟨f1, f2⟩ := (fit9B_iff x).1 hf
        have hfi : fitI x := ⟨by omega, by omega⟩
        have HSY := HSG
        rw [show smV x = x by unfold smV; rw [if_pos hfi], show decide (fitI x) = true from decide_eq_true hfi] at HSY
        clear HSG hfi
        have HF2 : Hid ((xs.take (j + 1)).all fit9B = true) := by unfold Hid; rw [HN.out, List.all_append, HFT.out]; simp [hf]
        clear hx hxm hxs hE hf
        go_wp2_with fail
        refine HSY.out.mono ?_
        rintro e w2 ⟨rfl, hE2⟩
        have HB2 := Lib.hid (HBu.out.ext hE2)
        have HE2 := Lib.hid (Ext.trans HE.out hE2)
        have hszr := HE2.out.size
        clear hE2 HSY
        go_wp2_with (at_builtin; go_must (refine wpList_append_build _ rfl _ _ 46 rfl w.heap.size 3 (.int .i64 0) 1 8 Tryz.underlying46 infoInt rfl (by decide) u4 intC (xs.take j) x #[.int .i64 x] 3 rfl HB2.out rfl rfl ?e1 (fun _ _ => rfl) HJ.out (by decide) hszr ?_))
        case e1 => simp [Value.oneCell']
        intro v' w5 hB5 hg5 hb5 hs5 _
        have HV : Hid (∃ g cc, v' = .slice (some ⟨g, 0, none⟩) (j + 1) cc) := by
          obtain ⟨us, b1, b2, b3, b4⟩ := id hB5
          obtain ⟨g, cc, hv, -⟩ := owns_shape b3 (by rw [List.length_append]; simp)
          refine ⟨g, cc, ?_⟩
          rw [hv, List.length_append, HJL.out]; rfl
        rw [← HN.out] at hB5
        have HB5 := Lib.hid hB5
        have HX5 := Lib.hid (Below.trans HE2.out hb5)
        clear hB5 hg5 hb5
        go_wp2_with fail
        go_roundw
        case rel => exact ⟨j + 1, by omega, by go_num, HX5.out, HV, HB5.out, HF2.out⟩
        case measure => simp [intOf]; omega
      · have HA : Hid (¬ xs.all fit9B = true) := fun h => hf (List.all_eq_true.1 h x hxm)
        have hf2 : x < -1000000000 ∨ 1000000000 < x := by
          rcases Int.lt_or_le x (-1000000000) with h | h
          · exact .inl h
          · rcases Int.lt_or_le 1000000000 x with h2 | h2
            · exact .inr h2
            · exact absurd ((fit9B_iff x).2 ⟨h, h2⟩) hf
        by_cases hfi : fitI x
        · have HSY := HSG
          rw [show smV x = x by unfold smV; rw [if_pos hfi], show decide (fitI x) = true from decide_eq_true hfi] at HSY
          clear hx hxm hxs hE hf HSG hfi
          rcases hf2 with hf2 | hf2
          · have hf3 : ¬ 1000000000 < x := by omega
            go_wp2_with fail
            refine HSY.out.mono ?_
            rintro e w2 ⟨rfl, hE2⟩
            have HE2 := Lib.hid (Ext.trans HE.out hE2)
            clear hE2 HSY
            go_wp2_with fail
            go_ret2
            unfold ShortR
            rw [if_neg HA.out]
            exact ⟨rfl, HE2.out⟩
          · go_wp2_with fail
            refine HSY.out.mono ?_
            rintro e w2 ⟨rfl, hE2⟩
            have HE2 := Lib.hid (Ext.trans HE.out hE2)
            clear hE2 HSY
            go_wp2_with fail
            go_ret2
            unfold ShortR
            rw [if_neg HA.out]
            exact ⟨rfl, HE2.out⟩
        · have HSY := HSG
          rw [show smV x = 0 by unfold smV; rw [if_neg hfi], show decide (fitI x) = false from decide_eq_false hfi] at HSY
          clear hx hxm hxs hE hf HSG hfi hf2
          go_wp2_with fail
          refine HSY.out.mono ?_
          rintro e w2 ⟨rfl, hE2⟩
          have HE2 := Lib.hid (Ext.trans HE.out hE2)
          clear hE2 HSY
          go_wp2_with fail
          go_ret2
          unfold ShortR
          rw [if_neg HA.out]
          exact ⟨rfl, HE2.out⟩
    · obtain rfl : j = xs.length := by omega
      obtain ⟨gg, cc, rfl⟩ := HSL.out
      have hB := HBu.out
      have hF := HFT.out
      rw [List.take_length] at hB hF
      have HO := Lib.hid (Build.ints hB)
      have HF := Lib.hid hF
      clear hB hF HBu HSL HFT hE
      go_wp2_with fail
      go_ret2
      unfold ShortR
      rw [if_pos HF.out]
      refine ⟨_, cc, rfl, Ints.of_owns HO.out (fun x hx => ?_), HO.out, HE.out⟩
      have := (fit9B_iff x).1 (List.all_eq_true.1 HF.out x hx)
      omega

set_option maxRecDepth 100000 in
set_option maxHeartbeats 1000000 in
/-- The form of no rows. -/
theorem form_nil (cols : Nat) (w : World) :
    Calls Tryz.prog 45 #[.slice none 0 0, .int .i64 cols] w fun e w' => e = .returned (.slice none 0 0) ∧ w = w' := by
  go_enter Tryz.func45, Tryz.ntmps45
  go_wp2_with fail
  go_loop [5, 6] (fun sd sc => sd = .int .i64 0 ∧ sc = .int .i64 0) (fun _ _ => 0)
  case atStart => exact ⟨rfl, rfl⟩
  case round =>
    obtain ⟨rfl, rfl⟩ := hrel
    by_cases h : 0 < cols
    · go_wp2_with fail
      go_ret
      exact ⟨rfl, rfl⟩
    · obtain rfl : cols = 0 := by omega
      go_wp2_with fail
      go_ret
      exact ⟨rfl, rfl⟩
end Go.Proofs.YtielnneclcekbaaGreatDoor
/- Contract: longs.short: a matrix of integers of any size as a lattice. -/
namespace Go.Proofs.YtielnneclcekbaaGreatDoor
set_option linter.unusedVariables false
set_option linter.unusedSimpArgs false
open Go.RowKit

def rowC (w : World) (u : List Value) (x : List Int) : Prop := ∃ v, u = [v] ∧ Ints w v x
theorem results_rowtmp {P : Program} {fn : Func} {p u : Tmp} {ty : TypeId} (h : fn.results = #[.cell p ty, .tmp u]) (tmps : Array Value) (w : World) (g : Nat) (t : TypeId) (cs : Array Value) (fr : Nat × Nat) (d : TypeDesc)
    (hp : tmps.getD p undef = .pointer (some ⟨g, 0, none⟩)) (hg : w.heap[g]? = some (.cells cs t fr))
    (hu : P.underlying ty = some d) (hd : (match d with | .struct _ | .array _ _ => true | _ => false) = true) (hi : (P.info? ty).map (·.size) = some cs.size) :
    (results fn tmps).run P w = .ok (.tuple #[.agg cs, tmps.getD u undef]) w := by
  rw [results_cell_tmp h, hp]
  simp [asAddr, run_loadVar_row w g t ty cs fr d hg hu hd hi, Result.andThen]

/-- What short of a matrix ends in. -/
def LsR (cols : Nat) (m : List (List Int)) (w : World) (e : Ending) (w' : World) : Prop :=
  (if (m.all fun r => r.all fit9B) = true then ∃ v, e = .returned (.tuple #[.agg #[.int .i64 cols, v], .int .i64 0]) ∧ SafeS w' (· < w.heap.size) (fun W => Rows2 W v m) else e = .returned (.tuple #[.agg #[.int .i64 0, .slice none 0 0], .int .i64 4])) ∧ Ext w w'

set_option maxRecDepth 100000 in
set_option maxHeartbeats 2000000 in
theorem lshort_any (cols : Nat) (m : List (List Int)) (ad : Option Addr) (cap : Nat) (w : World) (hM : m = [] ∨ ∃ g0 tags, ad = some ⟨g0, 0, none⟩ ∧ MatB w g0 tags m) (hsm : ∀ r ∈ m, r.all smB = true) (hl : ∀ r ∈ m, r.length ≤ 1000)
    (hcap : m.length ≤ cap) (hcap2 : cap ≤ maxLen) (hm : m.length ≤ 1000) (hc : cols ≤ 1000) (hlib : LibT w) :
    Calls Tryz.prog 46 #[.slice ad m.length cap, .int .i64 cols] w (LsR cols m w) := by
  have HM := Lib.hid hM; have HSM := Lib.hid hsm; have HLE := Lib.hid hl; have HLIB := Lib.hid hlib
  unfold maxLen at hcap2
  clear hM hsm hl hlib
  go_enter Tryz.func46, Tryz.ntmps46
  go_wp2_with fail
  have hE0 : Ext w ((w.alloc (Obj.cells #[Value.int IntKind.i64 0, Value.slice none 0 0] 27)).alloc (Obj.cells #[Value.int IntKind.i64 cols, Value.slice none 0 0] 27)) := (Ext.alloc _ _).trans (Ext.alloc _ _)
  have hbk0 := block_new (w.alloc (Obj.cells #[Value.int IntKind.i64 0, Value.slice none 0 0] 27)) #[Value.int IntKind.i64 cols, Value.slice none 0 0] 27
  have hbk1 := block_ext (block_new w #[Value.int IntKind.i64 0, Value.slice none 0 0] 27) (Ext.alloc (w.alloc (Obj.cells #[Value.int IntKind.i64 0, Value.slice none 0 0] 27)) (Obj.cells #[Value.int IntKind.i64 cols, Value.slice none 0 0] 27))
  have hsz0 : ((w.alloc (Obj.cells #[Value.int IntKind.i64 0, Value.slice none 0 0] 27)).alloc (Obj.cells #[Value.int IntKind.i64 cols, Value.slice none 0 0] 27)).heap.size = w.heap.size + 2 := by simp
  rw [show (w.alloc (Obj.cells #[Value.int IntKind.i64 0, Value.slice none 0 0] 27)).heap.size = w.heap.size + 1 by simp] at hbk0
  generalize ((w.alloc (Obj.cells #[Value.int IntKind.i64 0, Value.slice none 0 0] 27)).alloc (Obj.cells #[Value.int IntKind.i64 cols, Value.slice none 0 0] 27)) = W0 at *
  have HB0 := Lib.hid hbk0; have HB1 := Lib.hid hbk1
  go_loopw [15] (fun t wr => ∃ (j : Nat) (S : Nat → Prop) (v : Value), j ≤ m.length ∧ t = .int .i64 j ∧ Ext w wr ∧ Hid (SOk S 0 wr) ∧ Hid (∀ b, b < w.heap.size + 2 → S b) ∧ Hid (BuildS wr S (w.heap.size + 2) 46 1 v rowC (m.take j)) ∧ Hid (wr.heap[w.heap.size + 1]? = some (.cells #[.int .i64 cols, v] 27 (0, 0))) ∧ Hid (wr.heap[w.heap.size]? = some (.cells #[.int .i64 0, .slice none 0 0] 27 (0, 0))) ∧ Hid ((m.take j).all (fun r => r.all fit9B) = true)) (fun t _ => m.length - (intOf t).toNat)
  case atStart => exact ⟨0, fun b => b < w.heap.size + 2, _, by omega, rfl, hE0, fun b hb => by rw [hsz0]; exact ⟨Nat.zero_le _, hb⟩, fun b hb => hb, BuildS.nil _ _ _ _ _ _, HB0.out, HB1.out, rfl⟩
  case round =>
    obtain ⟨j, S, v, hj, rfl, hE, HOK, HSB, HBu, HK, HK1, HFT⟩ := hrel
    obtain ⟨wo, rfl⟩ : ∃ wo : World, wo = wr := ⟨_, rfl⟩
    have HE := Lib.hid hE
    by_cases hlt : j < m.length
    · obtain ⟨g0, tags, rfl, hMM⟩ : ∃ g0 tags, ad = some ⟨g0, 0, none⟩ ∧ MatB w g0 tags m := by
        rcases HM.out with h0 | h0
        · rw [h0] at hlt; simp at hlt
        · exact h0
      obtain ⟨t, htj, c1, c2, c3, c4, c5⟩ := (hMM.ext hE).get j hlt
      clear hMM
      have hmem : rowE_ m j ∈ m := List.mem_of_getElem? (rowE_get hlt)
      have HSH := Lib.hid (short_any (rowE_ m j) t.1 t.2.1 t.2.2 wo c4 c2 c3 (HLE.out _ hmem) (HSM.out _ hmem) (HLIB.out.ext HE.out))
      have HN : Hid (m.take (j + 1) = m.take j ++ [rowE_ m j]) := by unfold Hid; rw [List.take_add_one, rowE_get hlt]; rfl
      have HJ : Hid ((m.take j).length < 1000000) := by unfold Hid; rw [List.length_take]; omega
      have HME := Lib.hid hmem
      obtain ⟨xr, hxr⟩ : ∃ xr, rowE_ m j = xr := ⟨_, rfl⟩
      rw [hxr] at c1 HSH HN HME
      unfold maxLen at c3
      clear htj c2 c4 c5 hxr hE hmem
      by_cases hf : xr.all fit9B = true
      · go_wp2_with fail
        refine HSH.out.mono ?_
        rintro e w2 hsr
        unfold ShortR at hsr
        rw [if_pos hf] at hsr
        obtain ⟨ar, cr, rfl, hI, hO, hE2⟩ := hsr
        have HSF : Hid (SafeS w2 S fun w => rowC w [.slice ar xr.length cr] xr) := (SafeS.owns hO (fun k hk hs => by have := (hO.lt k hk).1; have := (HOK.out k hs).2; omega)).mono (fun w h => ⟨_, rfl, Ints.of_owns h (fun x hx => by have := (fit9B_iff x).1 (List.all_eq_true.1 hf x hx); omega)⟩)
        have HB2 := Lib.hid (HBu.out.ext hE2)
        have HK2 := Lib.hid (block_ext HK.out hE2)
        have HK12 := Lib.hid (block_ext HK1.out hE2)
        have HOK2 := Lib.hid (HOK.out.grow hE2.size)
        have HE2 := Lib.hid (Ext.trans HE.out hE2)
        have g1 := block_cell HK2.out 1
        have g2 := block_free HK2.out 1
        simp only [List.getElem?_toArray, List.getElem?_cons_zero, List.getElem?_cons_succ] at g1
        clear hI hO hE2 HSH HBu HK HK1 HOK
        have hs2 : w.heap.size + 2 ≤ w2.heap.size := by have := block_lt HK2.out; omega
        go_wp2_with (at_builtin; go_must (refine wpList_append_buildS _ rfl _ _ 23 rfl S (w.heap.size + 2) 46 (.slice none 0 0) 1 24 Tryz.underlying23 infoRow rfl (by decide) v rowC (m.take j) xr #[.slice ar xr.length cr] 46 rfl HB2.out _ rfl rfl rfl ?a1 HSF.out HJ.out (by decide) hs2 0 (Nat.zero_le _) HOK2.out ?_))
        case a1 => simp [Value.oneCell']
        intro v' w5 S5 hok5 hS1 hS2 hB5 hg5 hb5 hs5 hsafe
        obtain ⟨gv, cv, rfl, -, -, -, -⟩ := hB5.shape (by simp)
        have hk5 := block_grown HK2.out hg5 (HB2.out.neBlock HK2.out (by decide))
        have HK15 := Lib.hid ((hb5.block w.heap.size (by omega)).trans HK12.out)
        have g15 := block_cell hk5 1
        have g25 := block_free hk5 1
        simp only [List.getElem?_toArray, List.getElem?_cons_zero, List.getElem?_cons_succ] at g15
        have HK5 := Lib.hid hk5
        have HX5 := Lib.hid (Below.trans HE2.out (Below.mono hb5 (by omega)))
        have HOK5 := Lib.hid hok5
        have HSB5 : Hid (∀ b, b < w.heap.size + 2 → S5 b) := fun b hb => hS1 _ (HSB.out b hb)
        rw [← HN.out, show (m.take (j + 1)).length = j + 1 by rw [List.length_take]; omega] at hB5
        have HB5 := Lib.hid hB5
        clear hok5 hS1 hS2 hB5 hsafe hk5 g1 g2
        go_wp2_with fail
        go_roundw
        case rel => exact ⟨j + 1, S5, .slice (some ⟨gv, 0, none⟩) (j + 1) cv, by omega, by go_num, HX5.out.setCell (p := ⟨w.heap.size + 1, 1, none⟩) (by simp) _, HOK5.out.grow (by simp [World.setCell]), HSB5.out, HB5.out.store (HSB5.out _ (by omega)) (HB5.out.neBlock HK5.out (by decide)), block_set HK5.out 1 _, (setCell_heap_other _ _ _ _ _ (by omega)).trans HK15.out, by unfold Hid; rw [HN.out, List.all_append, HFT.out]; simp [hf]⟩
        case measure => simp [intOf]; omega
      · have HA : Hid (¬ (m.all fun r => r.all fit9B) = true) := fun h => hf (List.all_eq_true.1 h xr HME.out)
        have q0 := block_cell HK1.out 0; have q1 := block_cell HK1.out 1
        have q2 := block_free HK1.out 0; have q3 := block_free HK1.out 1
        simp only [List.getElem?_toArray, List.getElem?_cons_zero, List.getElem?_cons_succ] at q0 q1
        go_wp2_with fail
        refine HSH.out.mono ?_
        rintro e w2 hsr
        unfold ShortR at hsr
        rw [if_neg hf] at hsr
        obtain ⟨rfl, hE2⟩ := hsr
        have hk2 := block_ext HK1.out hE2
        have q0 := block_cell hk2 0; have q1 := block_cell hk2 1
        have q2 := block_free hk2 0; have q3 := block_free hk2 1
        simp only [List.getElem?_toArray, List.getElem?_cons_zero, List.getElem?_cons_succ] at q0 q1
        have HE2 := Lib.hid (Ext.trans HE.out hE2)
        clear hE2 HSH
        go_wp2_with fail
        have hkA := block_set (block_set hk2 0 (.int .i64 0)) 1 (.slice none 0 0)
        have r0 := block_cell hkA 0; have r1 := block_cell hkA 1
        simp only [List.getElem?_toArray, List.getElem?_cons_zero, List.getElem?_cons_succ, List.setIfInBounds_toArray, List.set_cons_zero, List.set_cons_succ] at r0 r1
        have HX2 : Hid (Ext w ((w2.setCell ⟨w.heap.size, 0, none⟩ (.int .i64 0)).setCell ⟨w.heap.size, 1, none⟩ (.slice none 0 0))) := (HE2.out.setCell (p := ⟨w.heap.size, 0, none⟩) (by simp) _).setCell (p := ⟨w.heap.size, 1, none⟩) (by simp) _
        refine bodyPost_ret (results_rowtmp (by rfl) _ _ w.heap.size 27 #[.int .i64 0, .slice none 0 0] (0, 0) _ (by rfl) hkA Tryz.underlying27 (by rfl) (by kernel_rfl)) (by rfl) ?_
        unfold LsR
        rw [if_neg HA.out]
        exact ⟨rfl, HX2.out⟩
    · obtain rfl : j = m.length := by omega
      obtain ⟨av, nv, cv, rfl⟩ : ∃ a n c, v = .slice a n c := by
        obtain ⟨_, us, _, _, h3, _⟩ := HBu.out
        rcases h3.2 with ⟨hv, _⟩ | ⟨g, c, _, hv, _⟩
        · exact ⟨_, _, _, hv⟩
        · exact ⟨_, _, _, hv⟩
      have q0 := block_cell HK1.out 0; have q1 := block_cell HK1.out 1
      have q2 := block_free HK1.out 0; have q3 := block_free HK1.out 1
      have o0 := block_cell HK.out 0; have o1 := block_cell HK.out 1
      simp only [List.getElem?_toArray, List.getElem?_cons_zero, List.getElem?_cons_succ] at q0 q1 o0 o1
      clear hE
      go_wp2_with fail
      have hkA := block_set (block_set HK1.out 0 (.int .i64 cols)) 1 (.slice av nv cv)
      simp only [List.setIfInBounds_toArray, List.set_cons_zero, List.set_cons_succ] at hkA
      refine bodyPost_ret (results_rowtmp (by rfl) _ _ w.heap.size 27 #[.int .i64 cols, .slice av nv cv] (0, 0) _ (by rfl) hkA Tryz.underlying27 (by rfl) (by kernel_rfl)) (by rfl) ?_
      have hF := HFT.out
      have hB := HBu.out
      rw [List.take_length] at hF hB
      unfold LsR
      rw [if_pos hF]
      refine ⟨⟨_, rfl, ?_⟩, (HE.out.setCell (p := ⟨w.heap.size, 0, none⟩) (by simp) _).setCell (p := ⟨w.heap.size, 1, none⟩) (by simp) _⟩
      have hne := hB.neBlock HK1.out (by decide)
      exact ((hB.store (i := 0) (x := .int .i64 cols) (HSB.out _ (by omega)) hne).store (i := 1) (x := .slice av nv cv) (HSB.out _ (by omega)) hne).keeps fun b hb => ⟨HSB.out b (by omega), by omega⟩
end Go.Proofs.YtielnneclcekbaaGreatDoor
