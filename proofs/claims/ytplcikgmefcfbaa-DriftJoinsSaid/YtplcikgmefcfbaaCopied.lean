/- Contract of drift.copied: a chord of the call's own. -/
import Derived.Test.YtplcikgmefcfbaaKeep
import Derived.Test.YtplcikgmefcfbaaDriftG
import Derived.Test.YtplcikgmefcfbaaBack
namespace Go.Proofs.Ytplcikgmefcfbaa
set_option linter.unusedVariables false
set_option linter.unusedSimpArgs false
open Go.RowKit

/-- Block b, from B on, is no cells. -/
def NonC (B : Nat) (W : World) (b : Nat) : Prop := B ≤ b ∧ ∃ o : Obj, W.heap[b]? = some o ∧ o.isCells = false
theorem owns_nonC {w : World} {base B : Nat} {e : TypeId} {k : Nat} {v : Value} {n : Nat} {xs : List Value} (h : w.ownsRow base e k v n xs) {g : Nat} (hg : v.ownBlock = some g) (hn : NonC B w g) : False := by
  obtain ⟨_, o, ho, hc⟩ := hn
  rcases h.2 with ⟨rfl, _⟩ | ⟨g', cap, cur, rfl, _, hg', _⟩
  · simp [Value.ownBlock] at hg
  · simp [Value.ownBlock] at hg
    subst hg
    rw [hg'] at ho
    cases ho
    simp [Obj.isCells] at hc

/-- What rests on blocks of cells from b on alone. -/
def freshR {α : Type} (b : Nat) (R : World → List Value → α → Prop) (w : World) (u : List Value) (x : α) : Prop := ∀ S : Nat → Prop, (∀ k, S k → k < b ∨ NonC 0 w k) → SafeS w S fun w' => R w' u x
theorem Build.fresh {α : Type} {R : World → List Value → α → Prop} {w : World} {base : Nat} {e : TypeId} {k : Nat} {v : Value} {xs : List α} (h : Build w base e k v (freshR base R) xs) (S : Nat → Prop) (hS : ∀ k, S k → k < base ∨ NonC 0 w k) : SafeS w S fun w' => ListAt k R w' v xs := by
  obtain ⟨us, b1, b2, b3, b4⟩ := h
  refine SafeS.listAt us b1 b2 ((SafeS.owns b3 (fun g hg hs => ?_)).mono fun w' h => SeqAt.of_owns h) (fun j u x hu hx => (b4 j u x hu hx).now S hS)
  have := (b3.lt g hg).1
  rcases hS g hs with h | h
  · omega
  · exact owns_nonC b3 hg h
theorem fresh_row {w : World} {b : Nat} {v : Value} {xs : List Int} (h : w.ownsRow b 3 1 v xs.length (xs.map (Value.int .i64))) (hb : ∀ x ∈ xs, -9223372036854775808 ≤ x ∧ x ≤ 9223372036854775807) : freshR b rowR w [v] xs := by
  intro S hS
  refine (SafeS.owns h (fun g hg hs => ?_)).mono fun w' h => ⟨v, rfl, Ints.of_owns h hb⟩
  have := (h.lt g hg).1
  rcases hS g hs with h' | h'
  · omega
  · exact owns_nonC h hg h'

set_option maxRecDepth 100000 in
set_option maxHeartbeats 1000000 in
theorem copied_any (xs : List (List Int)) (v : Value) (w : World) (h : Rows2 w v xs) (hlen : xs.length ≤ 1000) (hx : ∀ x ∈ xs, x.length ≤ 1000) :
    Calls Try.prog 43 #[v] w fun e w' => ∃ r, e = .returned r ∧ Ext w w' ∧ Build w' w.heap.size 25 1 r (freshR w.heap.size rowR) xs := by
  obtain ⟨a, c, rfl, h1, h2, -, hc⟩ := inCell.open h
  have HC := Lib.hid hc
  have HX := Lib.hid hx
  unfold maxLen at h2
  clear hc hx h
  go_enter Try.func43, Try.ntmps43
  go_wp2_with fail
  go_loopw [3, 8] (fun out t wr => ∃ j : Nat, j ≤ xs.length ∧ t = .int .i64 j ∧ Ext w wr ∧ Hid (Build wr w.heap.size 25 1 out (freshR w.heap.size rowR) (xs.take j))) (fun _ t _ => xs.length - (intOf t).toNat)
  case atStart => exact ⟨0, by omega, rfl, Ext.refl _, Build.nil _ _ _ _ _⟩
  case round =>
    obtain ⟨j, hj, rfl, hE, HB⟩ := hrel
    obtain ⟨wo, rfl⟩ : ∃ wo : World, wo = wr := ⟨_, rfl⟩
    by_cases hlt : j < xs.length
    · obtain ⟨b, off, rfl, hb, hcell⟩ := HC.out (by intro e; simp [e] at hlt)
      obtain ⟨x, hx⟩ : ∃ x, xs[j]? = some x := ⟨xs[j], List.getElem?_eq_getElem hlt⟩
      obtain ⟨u, hu, hcu⟩ := hcell j x hx
      have g1 := hE.cell hcu
      have hxl := HX.out x (List.mem_of_getElem? hx)
      obtain ⟨au, cu, rfl, -, -, -, hub, -⟩ := Ints.open hu
      have HCL := Lib.hid (cloneRow_any x _ wo (Ints.ext hu hE) (by omega))
      have HN : Hid (xs.take (j + 1) = xs.take j ++ [x]) := by unfold Hid; rw [List.take_add_one, hx]; rfl
      have HUB := Lib.hid hub
      have hown := HB.out.lt
      have HOWN := Lib.hid hown
      clear hcell hx hu hcu hub hown
      go_wp2_with fail
      refine HCL.out.mono ?_
      rintro e w2 ⟨r, rfl, hE2, hr⟩
      have HBx := Lib.hid (Build.ext HB.out hE2)
      have hsz := hE.size
      have hE02 : Ext w w2 := hE.trans hE2
      have hszw := hE02.size
      have hone : r.oneCell' = true := by
        rcases hr.2 with ⟨rfl, -⟩ | ⟨g, cap, cur, rfl, -⟩ <;> rfl
      have HR := Lib.hid (Safe.mono (Safe.owns (o := Value.ownBlock u3) hr (by
        cases hv : r.ownBlock with
        | none => exact .inl rfl
        | some g =>
          refine .inr fun e => ?_
          have h3 := (hr.lt g hv).1
          have h4 := (HOWN.out g e.symm).2
          omega)) (P' := fun w' => freshR w.heap.size rowR w' [r] x) (fun w' h => fresh_row (owns_base h hsz) HUB.out))
      have HJ : Hid ((xs.take j).length < 1000000) := by unfold Hid; rw [List.length_take]; omega
      obtain ⟨ar, nr, cr, rfl⟩ : ∃ a n c, r = .slice a n c := by
        rcases hr.2 with ⟨rfl, -⟩ | ⟨g, cap, cur, rfl, -⟩ <;> exact ⟨_, _, _, rfl⟩
      clear hr hone HCL
      go_wp2_with (at_builtin; go_must (refine wpList_append_build _ rfl _ _ 31 rfl w.heap.size 25 (.slice none 0 0) 1 24 Try.underlying31 infoRow rfl (by decide) u3 (freshR w.heap.size rowR) (xs.take j) x #[.slice ar nr cr] 25 rfl HBx.out rfl rfl ?e1 HR.out HJ.out ?e3 hszw ?_))
      case e1 => simp [Value.oneCell']
      case e3 => omega
      intro v' w5 hB5 hg5 hb5 hs5 _
      rw [← HN.out] at hB5
      have HB5 := Lib.hid hB5
      have HE5 := Lib.hid (Below.trans hE02 hb5)
      clear hB5 hg5 hb5
      go_wp2_with fail
      go_roundw
      case rel => exact ⟨j + 1, by omega, by go_num, HE5.out, HB5.out⟩
      case measure => simp [intOf]; omega
    · obtain rfl : j = xs.length := by omega
      go_wp2_with fail
      go_ret
      exact ⟨_, rfl, hE, by have := HB.out; rwa [List.take_of_length_le (Nat.le_refl _)] at this⟩
end Go.Proofs.Ytplcikgmefcfbaa
