/- Contracts of package row: Scale, Neg, Content, Primitive, abs. -/
import Derived.Test.YtobgghjmclagaaaDoorSumR
import Derived.Deep.RegionHeld3
namespace Go.Proofs.YtobgghjmclagaaaDoor
set_option linter.unusedVariables false
set_option linter.unusedSimpArgs false
open Go.RowKit

/-- Integers in a slice that a call builds. -/
def intC (_ : World) (u : List Value) (x : Int) : Prop := u = [.int .i64 x]
theorem Build.ints {w : World} {base : Nat} {e : TypeId} {v : Value} {xs : List Int} (h : Build w base e 1 v intC xs) : w.ownsRow base e 1 v xs.length (xs.map (Value.int .i64)) := by
  obtain ⟨us, h1, h2, h3, h4⟩ := h
  have : us = xs.map fun x => [Value.int .i64 x] := by
    apply List.ext_getElem?
    intro i
    rw [List.getElem?_map]
    by_cases hi : i < xs.length
    · have hi2 : i < us.length := by omega
      have := (h4 i us[i] xs[i] (by simp [hi2]) (by simp [hi])).now
      simp only [intC] at this
      simp [hi, hi2, this]
    · rw [List.getElem?_eq_none (by omega), List.getElem?_eq_none (by omega)]; rfl
  rw [this, flatten_one] at h3
  exact h3
theorem Build.madeInts {w : World} {base : Nat} {e : TypeId} {v : Value} (h : w.ownsRow base e 1 v 0 []) : Build w base e 1 v intC ([] : List Int) :=
  ⟨[], rfl, by simp, h, by simp⟩
theorem owns_base {w : World} {base base' : Nat} {e : TypeId} {size : Nat} {v : Value} {n : Nat} {xs : List Value} (h : w.ownsRow base' e size v n xs) (hb : base ≤ base') : w.ownsRow base e size v n xs := by
  refine ⟨h.1, ?_⟩
  rcases h.2 with h2 | ⟨g, cap, cur, hv, hg, r⟩
  · exact .inl h2
  · exact .inr ⟨g, cap, cur, hv, Nat.le_trans hb hg, r⟩
theorem ext_grown {w w' : World} (h : w.grownBy w' none) : Ext w w' := ⟨h.os, h.tape, h.output, h.size, fun k hk => h.block k hk (by simp)⟩

def scaleE (k : Int) (xs : List Int) : Int := if rowE xs = 0 then (if fitB k then rowE (xs.map (k * ·)) else if xs.any (· != 0) then 4 else 0) else rowE xs
theorem scaleE_cases (k : Int) (xs : List Int) : scaleE k xs = 0 ∨ scaleE k xs = 4 := by
  unfold scaleE
  split
  · split
    · exact rowE_four _
    · split
      · exact .inr rfl
      · exact .inl rfl
  · exact rowE_four _

set_option maxRecDepth 100000 in
set_option maxHeartbeats 2000000 in
theorem scale_any (xs : List Int) (k : Int) (v : Value) (w : World) (h : Ints w v xs) :
    Calls Tryd.prog 31 #[v, .int .i64 k] w fun e w' => ∃ r, e = .returned (.tuple #[r, .int .i64 (scaleE k xs)]) ∧ Ext w w' ∧ (scaleE k xs = 0 → Ints w' r (xs.map (k * ·))) ∧ (¬ scaleE k xs = 0 → r = .slice none 0 0) := by
  have HCK := Lib.hid (rowCheck_any xs v w h)
  have HIZ := Lib.hid (fun W' he => isZero_any xs v W' (h.ext (w' := W') he))
  obtain ⟨a, c, rfl, h1, h2, -, -, hc⟩ := h.open
  have HC := Lib.hid hc
  unfold maxLen at h2
  clear h hc
  by_cases he : rowE xs = 0
  · have HOK := Lib.hid ((rowE_zero xs).1 he)
    have h64 := HOK.out.1
    have HE0 := Lib.hid he
    rw [he] at HCK
    obtain ⟨i0, hi, hz0, hz1, hz2⟩ := info_parts infoInt
    have HI := Lib.hid hi; have HZ0 := Lib.hid hz0; have HZ1 := Lib.hid hz1; have HZ2 := Lib.hid hz2
    clear he hi hz0 hz1 hz2
    cases hf : fitB k with
    | false =>
      cases hz : xs.any (· != 0) with
      | false =>
        have HQ : Hid (scaleE k xs = 0) := by unfold Hid scaleE; rw [if_pos HE0.out, if_neg (by simp [hf]), if_neg (by simp [hz])]
        have HL : Hid (xs.map (k * ·) = List.replicate xs.length 0) := by
          unfold Hid
          apply List.ext_getElem
          · simp
          · intro i h1 h2
            have hi : i < xs.length := by simpa using h1
            have hx : xs[i]'hi = 0 := by
              have := List.any_eq_false.1 hz (xs[i]'hi) (List.getElem_mem _)
              simpa using this
            simp [hx]
        rw [hz] at HIZ
        have HF := Lib.hid (fun W => fits_any k W)
        rw [hf] at HF
        rw [HQ.out]
        clear hf hz
        go_enter Tryd.func31, Tryd.ntmps31
        go_wp2_with fail
        refine HCK.out.mono ?_
        rintro e w1 ⟨rfl, hE1⟩
        have HE1 := Lib.hid hE1
        have HIZ1 := Lib.hid (HIZ.out w1 hE1)
        clear hE1 HCK HIZ
        go_wp2_with (go_at_call 55; refine (HF.out _).mono ?_; rintro e w' ⟨rfl, rfl⟩)
        refine HIZ1.out.mono ?_
        rintro e w2 ⟨rfl, hE2⟩
        have HE2 := Lib.hid (Ext.trans HE1.out hE2)
        clear hE2 HIZ1
        go_wp2_with (at_make; refine wpList_make_full _ rfl _ _ 23 rfl w2.heap.size 3 i0 (.int .i64 0) 1 Tryd.underlying23 HI.out HZ0.out HZ1.out _ _ _ _ xs.length rfl rfl rfl rfl ?c1 ?c2 ?c3 ?_)
        case c1 => rw [HZ2.out]; omega
        case c2 => unfold maxLen; omega
        case c3 => exact Nat.le_refl _
        intro w3 hown hgrow
        rw [made_ints] at hown
        have HOWN := Lib.hid hown
        have HE3 := Lib.hid (Ext.trans HE2.out (ext_grown hgrow))
        clear hown hgrow
        go_wp2_with fail
        go_ret2
        refine ⟨_, rfl, HE3.out, fun _ => ?_, by simp⟩
        rw [HL.out]
        have h3 := HOWN.out
        have hrl : (List.replicate xs.length (0 : Int)).length = xs.length := by simp
        rw [← hrl] at h3 ⊢
        exact Ints.of_owns (by simpa using h3) (by intro x hx; rw [List.eq_of_mem_replicate hx]; omega)
      | true =>
        have HQ : Hid (scaleE k xs = 4) := by unfold Hid scaleE; rw [if_pos HE0.out, if_neg (by simp [hf]), if_pos hz]
        rw [hz] at HIZ
        have HF := Lib.hid (fun W => fits_any k W)
        rw [hf] at HF
        rw [HQ.out]
        clear hf hz
        go_enter Tryd.func31, Tryd.ntmps31
        go_wp2_with fail
        refine HCK.out.mono ?_
        rintro e w1 ⟨rfl, hE1⟩
        have HE1 := Lib.hid hE1
        have HIZ1 := Lib.hid (HIZ.out w1 hE1)
        clear hE1 HCK HIZ
        go_wp2_with (go_at_call 55; refine (HF.out _).mono ?_; rintro e w' ⟨rfl, rfl⟩)
        refine HIZ1.out.mono ?_
        rintro e w2 ⟨rfl, hE2⟩
        have HE2 := Lib.hid (Ext.trans HE1.out hE2)
        clear hE2 HIZ1
        go_wp2_with fail
        go_ret2
        exact ⟨_, rfl, HE2.out, by simp, fun _ => rfl⟩
    | true =>
      have hk := (fitB_iff k).1 hf
      have HQ : Hid (scaleE k xs = rowE (xs.map (k * ·))) := by unfold Hid scaleE; rw [if_pos HE0.out, if_pos hf]
      have HB : Hid (∀ x ∈ xs, -1000000000000000000 ≤ k * x ∧ k * x ≤ 1000000000000000000) := by
        intro x hx
        have hb := HOK.out.2 x hx
        have := mul_bd k x 1000000000 (by omega) hk.2 (by omega) hb.2
        omega
      have HF := Lib.hid (fun W => fits_any k W)
      rw [hf] at HF
      rw [HQ.out]
      clear hf hk HQ
      go_enter Tryd.func31, Tryd.ntmps31
      go_wp2_with fail
      refine HCK.out.mono ?_
      rintro e w1 ⟨rfl, hE1⟩
      have HE1 := Lib.hid hE1
      clear hE1 HCK HIZ
      go_wp2_with (first | (go_at_call 55; refine (HF.out _).mono ?_; rintro e w' ⟨rfl, rfl⟩) | (at_make; refine wpList_make_own _ rfl _ _ 23 rfl w1.heap.size 3 i0 (.int .i64 0) 1 Tryd.underlying23 HI.out HZ0.out HZ1.out _ _ _ xs.length rfl rfl rfl ?c1 ?c2 ?c3 ?_))
      case c1 => rw [HZ2.out]; omega
      case c2 => unfold maxLen; omega
      case c3 => exact Nat.le_refl _
      intro w3 hown hgrow
      have HOWN := Lib.hid (owns_base hown HE1.out.size)
      have HE3 := Lib.hid (Ext.trans HE1.out (ext_grown hgrow))
      clear hown hgrow
      go_wp2_with fail
      go_loopw [7, 28] (fun out t wr => ∃ j : Nat, j ≤ xs.length ∧ t = .int .i64 j ∧ Ext w wr ∧ Hid (Build wr w.heap.size 3 1 out intC ((xs.map (k * ·)).take j))) (fun _ t _ => xs.length - (intOf t).toNat)
      case atStart => exact ⟨0, by omega, rfl, HE3.out, Build.madeInts HOWN.out⟩
      case round =>
        obtain ⟨j, hj, rfl, hE, HBu⟩ := hrel
        by_cases hlt : j < xs.length
        · obtain ⟨b, off, rfl, hb, hcell⟩ := HC.out (by intro e; simp [e] at hlt)
          obtain ⟨x, hx⟩ : ∃ x, xs[j]? = some x := ⟨xs[j], List.getElem?_eq_getElem hlt⟩
          have g1 := hE.cell (hcell j x hx)
          obtain ⟨hx1, hx2⟩ := HB.out x (List.mem_of_getElem? hx)
          have q2 : IntKind.i64.wrap (k * x) = k * x := by rw [IntKind.wrap_i64]; omega
          have HN : Hid ((xs.map (k * ·)).take (j + 1) = (xs.map (k * ·)).take j ++ [k * x]) := by
            unfold Hid
            rw [List.take_add_one, List.getElem?_map, hx]; rfl
          have HJ : Hid (((xs.map (k * ·)).take j).length < 1000000) := by unfold Hid; rw [List.length_take]; omega
          have hszr := hE.size
          clear hcell hx
          go_wp2_with (at_builtin; go_must (refine wpList_append_build _ rfl _ _ 23 rfl w.heap.size 3 (.int .i64 0) 1 8 Tryd.underlying23 infoInt rfl (by decide) u7 intC ((xs.map (k * ·)).take j) (k * x) #[.int .i64 (k * x)] 3 rfl HBu.out rfl rfl ?e1 (fun _ _ => rfl) HJ.out (by decide) hszr ?_))
          case e1 => simp [Value.oneCell']
          intro v' w5 hB5 hg5 hb5 hs5 _
          rw [← HN.out] at hB5
          have HB5 := Lib.hid hB5
          have HE5 := Lib.hid (Below.trans hE hb5)
          clear hB5 hg5 hb5
          go_wp2_with fail
          go_roundw
          case rel => exact ⟨j + 1, by omega, by go_num, HE5.out, HB5.out⟩
          case measure => simp [intOf]; omega
        · obtain rfl : j = xs.length := by omega
          have hI : Ints wr u7 (xs.map (k * ·)) := by
            have := HBu.out.ints
            rw [List.take_of_length_le (by rw [List.length_map]; omega)] at this
            refine Ints.of_owns this (fun x hx => ?_)
            obtain ⟨y, hy, rfl⟩ := List.mem_map.1 hx
            have := HB.out y hy
            omega
          have HRES := Lib.hid (result_any _ _ wr hI)
          have HII := Lib.hid hI
          clear hI
          go_wp2_with fail
          refine HRES.out.mono ?_
          rintro e w6 ⟨r, rfl, hE6, hr0, hr1⟩
          have HR := Lib.hid (And.intro hr0 hr1)
          have HE6 := Lib.hid (Ext.trans hE hE6)
          have HI6 := Lib.hid (HII.out.ext hE6)
          clear hr0 hr1 hE6
          go_wp2_with fail
          go_ret2
          exact ⟨_, rfl, HE6.out, fun h => by rw [HR.out.1 h]; exact HI6.out, HR.out.2⟩
  · have h4 : rowE xs = 4 := (rowE_four xs).resolve_left he
    have HQ : Hid (scaleE k xs = 4) := by unfold Hid scaleE; rw [if_neg he, h4]
    rw [HQ.out]
    rw [h4] at HCK
    clear he h4
    go_enter Tryd.func31, Tryd.ntmps31
    go_wp2_with fail
    refine HCK.out.mono ?_
    rintro e w1 ⟨rfl, hE1⟩
    have HE1 := Lib.hid hE1
    clear hE1 HCK HIZ
    go_wp2_with fail
    go_ret2
    exact ⟨_, rfl, HE1.out, by simp, fun _ => rfl⟩

theorem neg_any (xs : List Int) (v : Value) (w : World) (h : Ints w v xs) :
    Calls Tryd.prog 30 #[v] w fun e w' => ∃ r, e = .returned (.tuple #[r, .int .i64 (scaleE (-1) xs)]) ∧ Ext w w' ∧ (scaleE (-1) xs = 0 → Ints w' r (xs.map (-1 * ·))) ∧ (¬ scaleE (-1) xs = 0 → r = .slice none 0 0) := by
  have HS := Lib.hid (scale_any xs (-1) v w h)
  obtain ⟨a, c, rfl, -, -, -, -, -⟩ := h.open
  clear h
  go_enter Tryd.func30, Tryd.ntmps30
  go_wp2_with fail
  refine HS.out.mono ?_
  rintro e w1 ⟨r, rfl, hE1, hr0, hr1⟩
  have HE1 := Lib.hid hE1; have HR := Lib.hid (And.intro hr0 hr1)
  clear hE1 hr0 hr1
  go_wp2_with fail
  go_ret2
  exact ⟨_, rfl, HE1.out, HR.out.1, HR.out.2⟩
end Go.Proofs.YtobgghjmclagaaaDoor
