/- WedgeLattices holds: for any draft it returns true. Condition: the tables of math/bits and strconv and the variables of strconv that its row lists read as the program lays them (tied by the card). -/
import Derived.Test.YtjlkkofmojgipaaGreatDoorXBB
import Derived.Test.YtjlkkofmojgipaaGreatDoorXBC
import Derived.SevenTiedAt
set_option linter.unusedVariables false
set_option linter.unusedSimpArgs false
set_option maxRecDepth 1000000
set_option maxHeartbeats 40000000
namespace Go.Proofs.YtjlkkofmojgipaaGreatDoor
open Go.ChangeShapes Go.WideShapes Go.ChangeAt Go.RowKit Go.Proofs.Tryz
theorem V8_ (os : Os) (started : os.Started) (H : Type) (enc : TypeId × Value -> H) :
    ReturnsInHanded {} checked os 7 .any (fun w args => (Rows.wedgeLatticesSpec.pre enc prog f7 [] false w args /\ laidMetH prog Rows.wedgeLatticesRow.laid w) /\ sizedMet enc prog f7 (OpenSpec.ofChange Rows.wedgeLatticesSpec) false w args)
      (Rows.wedgeLatticesSpec.post enc prog f7 false true false false) := by
  refine W4_ (C := checked) (X := fun w _ => laidMetH prog Rows.wedgeLatticesRow.laid w) (fun _ _ _ hh h => h.of_heap hh) Z5Y started (by kernel_rfl) func7
    (ChangeSpec.witness_shaped (enc := enc) (C := checked) (os := os) (X := fun w _ => laidMetH prog Rows.wedgeLatticesRow.laid w) false (World.laidAll prog os Rows.wedgeLatticesRow.laid) #[.agg #[.int .u8 0, .int .u8 0, .int .i8 0, .int .i8 0, .int .i8 0, .int .i8 0, .int .i8 0, .int .i8 0]] 8 (World.laidAll_os _ _ _) (World.shaped_of_ZipB (by kernel_rfl) (by kernel_rfl)) (by kernel_rfl) (by kernel_rfl) (by kernel_rfl) (Z1i os _)) ?_
  intro W base args ds gs before y6 hW _ _ hL OA _;have sX : ∀ (j : Nat) t v, f7.params[j]? = some t -> args[j]? = some v -> Value.okWide prog W .any base t v := y6;have hW' := hW;obtain ⟨p, q, J3, hV, rfl, hfz, EW⟩ := hW;have hA : DataW.TrodAll enc prog W 0 (fun _ => true) true f7.params.toList args.toList ds p := J3;have hAk := hA;rw [params7] at hA sX;obtain ⟨v0, NO, d0, OH, p0, q0, JR, rfl, rfl, h0, r0⟩ := trodAll_cons hA;obtain ⟨rfl, rfl, rfl⟩ := trodAll_nil r0;obtain rfl : args = #[v0] := by cases args; simp_all
  obtain ⟨rfl, rfl⟩ := trodVars_none hV;obtain ⟨x0, y0, Kh, Kg, Kf, Ke, Kd, Kc, rfl, pE, pR, pH⟩ := q6_ (sX 0 49 v0 rfl rfl) h0;clear J3 y6;simp only [List.append_nil] at hW' hAk;refine (Z0S x0 y0 Kh Kg Kf Ke Kd Kc W pE pR pH (Z1Y hL) (Z64 (Z1Y hL).pow)).mono fun e W' ⟨he, hg⟩ => ?_;subst he;exact Z5m hW' (by simpa using hAk) rfl (by kernel_rfl) rfl (of_decide_eq_true (by kernel_rfl)) hg
theorem T1_ : joinedFacts Tryz.pinned.checked.prog 7 f7 Rows.wedgeLatticesSpec Rows.wedgeLatticesRow = true := by
  unfold joinedFacts
  iterate 31 refine Bool.and_eq_true_iff.mpr ⟨?_, ?_⟩
  all_goals (as_aux_lemma => kernel_rfl)
theorem R7_ : Rows.WedgeLatticesSaid :=
  OpenClaim.holds_of_wide 7 f7 rfl rfl rfl rfl rfl rfl rfl ⟨rfl, rfl, rfl, rfl, rfl⟩ rfl rfl rfl rfl rfl (by kernel_rfl) func7 T1_
    (of_decide_eq_true (by kernel_rfl)) (by unfold Func.isWrapper; first | (rw [if_pos (by decide +kernel)]; kernel_rfl) | (rw [if_neg (by decide +kernel)]; exact ⟨rfl, rfl⟩))
    (fun os started H enc _ => V8_ os started H enc)
theorem wedgeLattices_holds : Rows.WedgeLatticesCardSaid :=
  Claim7.holds_tied_plain_at .later [] Rows.wedgeLatticesCard.laidKinds true Rows.wedgeLatticesCard.stood.harness true
    R7_ (fun _ h => by cases h) (by kernel_rfl) (fun _ h => by cases h) wedgeLattices_row_tie rfl ⟨rfl, rfl⟩ (by kernel_rfl) rfl
    (fun f fn hf vg => by
      obtain rfl : f = 7 := oL ((show prog.funcNamed Rows.wedgeLatticesRow.func = some 7 by kernel_rfl).symm.trans hf) |>.symm;obtain rfl : fn = f7 := (oL (func7.symm.trans vg)).symm
      exact ⟨by kernel_rfl, fun j t ht => by
        rw [params7] at ht;have h3 : t = 49 := by
          have := oD (l := [49]) (i := j) (a := t) (by simpa using ht);simp at this
          first | omega | exact this | exact this.symm | (rcases this with h | h | h <;> simp [h]) | (rcases this with h | h <;> simp [h])
        subst h3
        exact (show prog.wantsStandIn 49 = false by kernel_rfl)⟩)
    (by kernel_rfl)
end Go.Proofs.YtjlkkofmojgipaaGreatDoor
