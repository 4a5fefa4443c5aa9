/- Merged: ClassProof. -/
import Derived.Test.YtielnneclcekbaaGreatDoorQBW
import Derived.Test.YtielnneclcekbaaGreatDoorQBX
import Derived.Test.YtielnneclcekbaaGreatDoorQBY
import Derived.SevenTiedAt
/- LatticeClasses holds: for any plan and any two arrays it returns true. Condition: the tables of math/bits and strconv and the variables of strconv that its row lists read as the program lays them (tied by the card). -/
namespace Go.Proofs.YtielnneclcekbaaGreatDoor
set_option linter.unusedVariables false
open Go.ChangeShapes Go.WideShapes Go.ChangeAt Go.RowKit

set_option maxRecDepth 100000 in
theorem latticeClasses_lifted (os : Os) (started : os.Started) (H : Type) (enc : TypeId × Value → H) :
    ReturnsInHanded {} Tryz.checked os 6 .any (fun w args => (Rows.latticeClassesSpec.pre enc Tryz.prog Tryz.f6 [] false w args ∧ laidMetH Tryz.prog Rows.latticeChecksRow.laid w) ∧ sizedMet enc Tryz.prog Tryz.f6 (OpenSpec.ofChange Rows.latticeClassesSpec) false w args)
      (Rows.latticeClassesSpec.post enc Tryz.prog Tryz.f6 false true false false) := by
  refine returnsInHanded_shape (C := Tryz.checked) (X := fun w _ => laidMetH Tryz.prog Rows.latticeChecksRow.laid w) (fun _ _ _ hh h => h.of_heap hh) lawOwn started (by kernel_rfl) Tryz.func6
    (ChangeSpec.witness_shaped (enc := enc) (C := Tryz.checked) (os := os) (X := fun w _ => laidMetH Tryz.prog Rows.latticeChecksRow.laid w) false (World.laidAll Tryz.prog os Rows.latticeChecksRow.laid) #[.agg #[.int .u8 0, .slice none 0 0], .agg #[.int .i8 0, .int .i8 0, .int .i8 0, .int .i8 0], .agg #[.int .i8 0, .int .i8 0, .int .i8 0, .int .i8 0]] 8 (World.laidAll_os _ _ _) (World.shaped_of_ZipB (by kernel_rfl) (by kernel_rfl)) (by kernel_rfl) (by kernel_rfl) (by kernel_rfl) (door_met7 os _)) ?_
  intro W base args ds gs before hval0 hW _ _ hL hSh _
  have hval : ∀ (j : Nat) t v, Tryz.f6.params[j]? = some t → args[j]? = some v → Value.okWide Tryz.prog W .any base t v := hval0
  have hW' := hW
  obtain ⟨p, q, hA0, hV, rfl, hfz, hnd⟩ := hW
  have hA : DataW.TrodAll enc Tryz.prog W 0 (fun _ => true) true Tryz.f6.params.toList args.toList ds p := hA0
  have hAk := hA
  rw [Tryz.params6] at hA hval
  obtain ⟨v0, vs0, d0, ds0, p0, q0, hargs, rfl, rfl, h0, r0⟩ := trodAll_cons hA
  obtain ⟨v1, vs1, d1, ds1, p1, q1, rfl, rfl, rfl, h1, r1⟩ := trodAll_cons r0
  obtain ⟨v2, vs2, d2, ds2, p2, q2, rfl, rfl, rfl, h2, r2⟩ := trodAll_cons r1
  obtain ⟨rfl, rfl, rfl⟩ := trodAll_nil r2
  obtain rfl : args = #[v0, v1, v2] := by cases args; simp_all
  obtain ⟨rfl, rfl⟩ := trodVars_none hV
  obtain ⟨c0, u0, xss0, rfl, hc0, hx0⟩ := open_plan9 (hval 0 39 v0 rfl rfl) h0
  obtain ⟨y1, rfl, hl1, hb1⟩ := open_four9 (hval 1 60 v1 rfl rfl) h1
  obtain ⟨y2, rfl, hl2, hb2⟩ := open_four9 (hval 2 60 v2 rfl rfl) h2
  clear hA0 hval0
  simp only [List.append_nil] at hW' hAk
  refine (classes_walk c0 hc0.1 hc0.2 xss0 u0 y1 y2 hl1 hl2 hb1 hb2 W hx0 (libT_of hL) (pow_lt (libT_of hL).pow)).mono fun e W' ⟨he, hg⟩ => ?_
  subst he
  exact lawPost hW' (by simpa using hAk) rfl (by kernel_rfl) rfl (of_decide_eq_true (by kernel_rfl)) hg

theorem latticeClasses_over : Rows.LatticeClassesSaid :=
  OpenClaim.holds_of_wide 6 Tryz.f6 rfl rfl rfl rfl rfl rfl rfl ⟨rfl, rfl, rfl, rfl, rfl⟩ rfl rfl rfl rfl rfl (by kernel_rfl) Tryz.func6 (by kernel_rfl)
    (of_decide_eq_true (by kernel_rfl)) (by unfold Func.isWrapper; first | (rw [if_pos (by decide +kernel)]; kernel_rfl) | (rw [if_neg (by decide +kernel)]; exact ⟨rfl, rfl⟩))
    (fun os started H enc _ => latticeClasses_lifted os started H enc)

theorem latticeClasses_holds : Rows.LatticeClassesCardSaid :=
  Claim7.holds_tied_plain_at .later [] Rows.latticeClassesCard.laidKinds true Rows.latticeClassesCard.stood.harness true
    latticeClasses_over (fun _ h => by cases h) (by kernel_rfl) (fun _ h => by cases h) latticeClasses_row_tie rfl ⟨rfl, rfl⟩ (by kernel_rfl) rfl
    (fun f fn hf hfn => by
      obtain rfl : f = 6 := Option.some.inj ((show Tryz.prog.funcNamed Rows.latticeClassesRow.func = some 6 by kernel_rfl).symm.trans hf) |>.symm
      obtain rfl : fn = Tryz.f6 := (Option.some.inj (Tryz.func6.symm.trans hfn)).symm
      exact ⟨by kernel_rfl, fun j t ht => by
        rw [Tryz.params6] at ht
        have h3 : t = 60 ∨ t = 39 := by
          have := List.mem_of_getElem? (l := [39, 60, 60]) (i := j) (a := t) (by simpa using ht)
          simp at this
          first | omega | exact this | exact this.symm | (rcases this with h | h | h <;> simp [h]) | (rcases this with h | h <;> simp [h])
        rcases h3 with rfl | rfl
        · exact (show Tryz.prog.wantsStandIn 60 = false by kernel_rfl)
        · exact (show Tryz.prog.wantsStandIn 39 = false by kernel_rfl)⟩)
    (by kernel_rfl)
#print axioms latticeClasses_holds
end Go.Proofs.YtielnneclcekbaaGreatDoor
