/- WedgeLaws holds: for any three drafts it returns true. Condition: the tables of math/bits and strconv and the variables of strconv that its row lists read as the program lays them (tied by the card). -/
import Derived.Test.YtjlkkofmojgipaaGreatDoorWBL
import Derived.Test.YtjlkkofmojgipaaGreatDoorWBM
import Derived.SevenTiedAt
namespace Go.Proofs.YtjlkkofmojgipaaGreatDoor
set_option linter.unusedVariables false
open Go.ChangeShapes Go.WideShapes Go.ChangeAt Go.RowKit

set_option maxRecDepth 100000 in
theorem wedgeLaws_lifted (os : Os) (started : os.Started) (H : Type) (enc : TypeId × Value → H) :
    ReturnsInHanded {} Tryz.checked os 10 .any (fun w args => (Rows.wedgeLawsSpec.pre enc Tryz.prog Tryz.f10 [] false w args ∧ laidMetH Tryz.prog Rows.wedgeLawsRow.laid w) ∧ sizedMet enc Tryz.prog Tryz.f10 (OpenSpec.ofChange Rows.wedgeLawsSpec) false w args)
      (Rows.wedgeLawsSpec.post enc Tryz.prog Tryz.f10 false true false false) := by
  refine returnsInHanded_shape (C := Tryz.checked) (X := fun w _ => laidMetH Tryz.prog Rows.wedgeLawsRow.laid w) (fun _ _ _ hh h => h.of_heap hh) lawOwn started (by kernel_rfl) Tryz.func10
    (ChangeSpec.witness_shaped (enc := enc) (C := Tryz.checked) (os := os) (X := fun w _ => laidMetH Tryz.prog Rows.wedgeLawsRow.laid w) false (World.laidAll Tryz.prog os Rows.wedgeLawsRow.laid) #[.agg #[.int .u8 0, .int .u8 0, .int .i8 0, .int .i8 0, .int .i8 0, .int .i8 0, .int .i8 0, .int .i8 0, .int .u8 0, .int .u8 0, .int .i8 0, .int .i8 0, .int .i8 0, .int .i8 0, .int .i8 0, .int .i8 0, .int .u8 0, .int .u8 0, .int .i8 0, .int .i8 0, .int .i8 0, .int .i8 0, .int .i8 0, .int .i8 0]] 8 (World.laidAll_os _ _ _) (World.shaped_of_ZipB (by kernel_rfl) (by kernel_rfl)) (by kernel_rfl) (by kernel_rfl) (by kernel_rfl) (door_met7 os _)) ?_
  intro W base args ds gs before hval0 hW _ _ hL hSh _
  have hval : ∀ (j : Nat) t v, Tryz.f10.params[j]? = some t → args[j]? = some v → Value.okWide Tryz.prog W .any base t v := hval0
  have hW' := hW
  obtain ⟨p, q, hA0, hV, rfl, hfz, hnd⟩ := hW
  have hA : DataW.TrodAll enc Tryz.prog W 0 (fun _ => true) true Tryz.f10.params.toList args.toList ds p := hA0
  have hAk := hA
  rw [Tryz.params10] at hA hval
  obtain ⟨v0, vs0, d0, ds0, p0, q0, hargs, rfl, rfl, h0, r0⟩ := trodAll_cons hA
  obtain ⟨rfl, rfl, rfl⟩ := trodAll_nil r0
  obtain rfl : args = #[v0] := by cases args; simp_all
  obtain ⟨rfl, rfl⟩ := trodVars_none hV
  obtain ⟨x0, y0, z00, z01, z02, z03, z04, z05, x1, y1, z10, z11, z12, z13, z14, z15, x2, y2, z20, z21, z22, z23, z24, z25, rfl, hx0, hy0, hz0, hx1, hy1, hz1, hx2, hy2, hz2⟩ := open_three10 (hval 0 76 v0 rfl rfl) h0
  clear hA0 hval0
  simp only [List.append_nil] at hW' hAk
  refine (wlaws_walk x0 y0 z00 z01 z02 z03 z04 z05 x1 y1 z10 z11 z12 z13 z14 z15 x2 y2 z20 z21 z22 z23 z24 z25 W hx0 hy0 hz0 hx1 hy1 hz1 hx2 hy2 hz2 (libT_of hL) (pow_lt (libT_of hL).pow)).mono fun e W' ⟨he, hg⟩ => ?_
  subst he
  exact lawPost hW' (by simpa using hAk) rfl (by kernel_rfl) rfl (of_decide_eq_true (by kernel_rfl)) hg

set_option maxHeartbeats 40000000 in
/-- What the row says of the program, fact by fact. -/
theorem wedgeLaws_facts : joinedFacts Tryz.pinned.checked.prog 10 Tryz.f10 Rows.wedgeLawsSpec Rows.wedgeLawsRow = true := by
  unfold joinedFacts
  iterate 31 refine Bool.and_eq_true_iff.mpr ⟨?_, ?_⟩
  all_goals (as_aux_lemma => kernel_rfl)

theorem wedgeLaws_over : Rows.WedgeLawsSaid :=
  OpenClaim.holds_of_wide 10 Tryz.f10 rfl rfl rfl rfl rfl rfl rfl ⟨rfl, rfl, rfl, rfl, rfl⟩ rfl rfl rfl rfl rfl (by kernel_rfl) Tryz.func10 wedgeLaws_facts
    (of_decide_eq_true (by kernel_rfl)) (by unfold Func.isWrapper; first | (rw [if_pos (by decide +kernel)]; kernel_rfl) | (rw [if_neg (by decide +kernel)]; exact ⟨rfl, rfl⟩))
    (fun os started H enc _ => wedgeLaws_lifted os started H enc)

theorem wedgeLaws_holds : Rows.WedgeLawsCardSaid :=
  Claim7.holds_tied_plain_at .later [] Rows.wedgeLawsCard.laidKinds true Rows.wedgeLawsCard.stood.harness true
    wedgeLaws_over (fun _ h => by cases h) (by kernel_rfl) (fun _ h => by cases h) wedgeLaws_row_tie rfl ⟨rfl, rfl⟩ (by kernel_rfl) rfl
    (fun f fn hf hfn => by
      obtain rfl : f = 10 := Option.some.inj ((show Tryz.prog.funcNamed Rows.wedgeLawsRow.func = some 10 by kernel_rfl).symm.trans hf) |>.symm
      obtain rfl : fn = Tryz.f10 := (Option.some.inj (Tryz.func10.symm.trans hfn)).symm
      exact ⟨by kernel_rfl, fun j t ht => by
        rw [Tryz.params10] at ht
        have h3 : t = 76 := by
          have := List.mem_of_getElem? (l := [76]) (i := j) (a := t) (by simpa using ht)
          simp at this
          first | omega | exact this | exact this.symm | (rcases this with h | h | h <;> simp [h]) | (rcases this with h | h <;> simp [h])
        subst h3
        exact (show Tryz.prog.wantsStandIn 76 = false by kernel_rfl)⟩)
    (by kernel_rfl)
#print axioms wedgeLaws_holds
end Go.Proofs.YtjlkkofmojgipaaGreatDoor
