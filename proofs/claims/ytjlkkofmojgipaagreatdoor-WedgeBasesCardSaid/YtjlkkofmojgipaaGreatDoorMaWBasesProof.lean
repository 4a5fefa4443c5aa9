/- WedgeBases holds: for any draft it returns true. Condition: the tables of math/bits and strconv and the variables of strconv that its row lists read as the program lays them (tied by the card). -/
import Derived.Test.YtjlkkofmojgipaaGreatDoorVAV
import Derived.SevenTiedAt
set_option linter.unusedVariables false
set_option linter.unusedSimpArgs false
set_option maxRecDepth 1000000
set_option maxHeartbeats 40000000
namespace Go.Proofs.YtjlkkofmojgipaaGreatDoor
open Go.ChangeShapes Go.WideShapes Go.ChangeAt Go.RowKit Go.Proofs.Tryz
theorem O4_ (os : Os) (started : os.Started) (H : Type) (enc : TypeId × Value -> H) :
    ReturnsInHanded {} checked os 12 .any (fun w args => (Rows.wedgeBasesSpec.pre enc prog f12 [] false w args /\ laidMetH prog Rows.wedgeBasesRow.laid w) /\ sizedMet enc prog f12 (OpenSpec.ofChange Rows.wedgeBasesSpec) false w args)
      (Rows.wedgeBasesSpec.post enc prog f12 false true false false) := by
  refine W3_ (C := checked) (X := fun w _ => laidMetH prog Rows.wedgeBasesRow.laid w) (fun _ _ _ hh h => h.of_heap hh) Z6l started (by kernel_rfl) func12
    (ChangeSpec.witness_shaped (enc := enc) (C := checked) (os := os) (X := fun w _ => laidMetH prog Rows.wedgeBasesRow.laid w) false (World.laidAll prog os Rows.wedgeBasesRow.laid) #[.agg #[.int .u8 0, .int .u8 0, .slice none 0 0]] 8 (World.laidAll_os _ _ _) (World.shaped_of_ZipB (by kernel_rfl) (by kernel_rfl)) (by kernel_rfl) (by kernel_rfl) (by kernel_rfl) (Z1Q os _)) ?_
  intro W base args ds gs before zL hW _ _ hL NL _;have tC : ∀ (j : Nat) t v, f12.params[j]? = some t -> args[j]? = some v -> Value.okWide prog W .any base t v := zL;have hW' := hW;obtain ⟨p, q, JT, hV, rfl, hfz, Mw⟩ := hW;have hA : DataW.TrodAll enc prog W 0 (fun _ => true) true f12.params.toList args.toList ds p := JT;have hAk := hA;rw [params12] at hA tC;obtain ⟨v0, Mb, d0, NQ, p0, q0, Ip, rfl, rfl, h0, r0⟩ := trodAll_cons hA;obtain ⟨rfl, rfl, rfl⟩ := trodAll_nil r0;obtain rfl : args = #[v0] := by cases args; simp_all
  obtain ⟨rfl, rfl⟩ := trodVars_none hV;obtain ⟨x0, y0, Jv, Lt, rfl, pG, ph, FZ⟩ := Z0X (fun _ => rfl) (tC 0 81 v0 rfl rfl) h0;clear JT zL;simp only [List.append_nil] at hW' hAk;refine (f0_ x0 y0 Jv Lt W pG ph FZ (Z2A hL) (Z6r (Z2A hL).pow)).mono fun e W' ⟨he, hg⟩ => ?_;subst he;exact Z5H hW' (by simpa using hAk) rfl (by kernel_rfl) rfl (of_decide_eq_true (by kernel_rfl)) hg
theorem M8_ : joinedFacts Tryz.pinned.checked.prog 12 f12 Rows.wedgeBasesSpec Rows.wedgeBasesRow = true := by
  unfold joinedFacts
  iterate 31 refine Bool.and_eq_true_iff.mpr ⟨?_, ?_⟩
  all_goals (as_aux_lemma => kernel_rfl)
theorem G5_ : Rows.WedgeBasesSaid :=
  OpenClaim.holds_of_wide 12 f12 rfl rfl rfl rfl rfl rfl rfl ⟨rfl, rfl, rfl, rfl, rfl⟩ rfl rfl rfl rfl rfl (by kernel_rfl) func12 M8_
    (of_decide_eq_true (by kernel_rfl)) (by unfold Func.isWrapper; first | (rw [if_pos (by decide +kernel)]; kernel_rfl) | (rw [if_neg (by decide +kernel)]; exact ⟨rfl, rfl⟩))
    (fun os started H enc _ => O4_ os started H enc)
theorem wedgeBases_holds : Rows.WedgeBasesCardSaid :=
  Claim7.holds_tied_plain_at .later [] Rows.wedgeBasesCard.laidKinds true Rows.wedgeBasesCard.stood.harness true
    G5_ (fun _ h => by cases h) (by kernel_rfl) (fun _ h => by cases h) wedgeBases_row_tie rfl ⟨rfl, rfl⟩ (by kernel_rfl) rfl
    (fun f fn hf vw => by
      obtain rfl : f = 12 := oM ((show prog.funcNamed Rows.wedgeBasesRow.func = some 12 by kernel_rfl).symm.trans hf) |>.symm;obtain rfl : fn = f12 := (oM (func12.symm.trans vw)).symm
      exact ⟨by kernel_rfl, fun j t ht => by
        rw [params12] at ht;have h3 : t = 81 := by
          have := oE (l := [81]) (i := j) (a := t) (by simpa using ht);simp at this
          first | omega | exact this | exact this.symm | (rcases this with h | h | h <;> simp [h]) | (rcases this with h | h <;> simp [h])
        subst h3
        exact (show prog.wantsStandIn 81 = false by kernel_rfl)⟩)
    (by kernel_rfl)
end Go.Proofs.YtjlkkofmojgipaaGreatDoor
