/- Merged: FourIn. -/
import Derived.Test.YtpeinobepiodaaaGreatDoorGZ
import Derived.Laws.IdiomArrays
/- An array of four int8 that came in. -/
namespace Go.Proofs.YtpeinobepiodaaaGreatDoor
set_option linter.unusedVariables false
set_option linter.unusedSimpArgs false
open Go.ChangeShapes Go.WideShapes Go.ChangeAt Go.RowKit

theorem cellsFour : Tryz.prog.cellsOf 79 = 4 := by kernel_rfl
set_option maxRecDepth 100000 in
theorem open_four {H : Type} {enc : TypeId × Value → H} {W : World} {r : Reach} {b0 base : Nat} {spare : Nat → Bool} {held : Bool} {v : Value} {d : DataW H} {ps : List MemPlace}
    (hval : Value.okWide Tryz.prog W r b0 79 v) (hd : DataW.Trod enc Tryz.prog W base spare held 79 v d ps) :
    ∃ a0 a1 a2 a3, v = .agg #[.int .i8 a0, .int .i8 a1, .int .i8 a2, .int .i8 a3] ∧ ∀ x ∈ [a0, a1, a2, a3], -128 ≤ x ∧ x ≤ 127 := by
  obtain ⟨cs, rfl, hs⟩ : ∃ cs, v = .agg cs ∧ cs.size = Tryz.prog.cellsOf 79 := by
    simp only [Value.okWide, Tryz.underlying79] at hval
    obtain ⟨cs, h1, h2, _⟩ := hval
    exact ⟨cs, h1, h2⟩
  rw [cellsFour] at hs
  obtain ⟨fuel, hf⟩ := hd
  obtain ⟨a, b, c, e, rfl⟩ : ∃ a b c e, cs = #[a, b, c, e] := by
    match cs, hs with
    | ⟨[a, b, c, e]⟩, _ => exact ⟨a, b, c, e, rfl⟩
  obtain ⟨z0, z1, z2, z3, n, -, k0, k1, k2, k3⟩ := trod_array4 Tryz.underlying79 cellsInt8 (show DataW.trod enc Tryz.prog W base spare held fuel 79 [a, b, c, e] = _ from hf)
  obtain ⟨y0, e0, -, w0⟩ := DataW.trod_int Tryz.underlying78 k0
  obtain ⟨y1, e1, -, w1⟩ := DataW.trod_int Tryz.underlying78 k1
  obtain ⟨y2, e2, -, w2⟩ := DataW.trod_int Tryz.underlying78 k2
  obtain ⟨y3, e3, -, w3⟩ := DataW.trod_int Tryz.underlying78 k3
  obtain rfl : a = .int .i8 y0 := by simpa using e0
  obtain rfl : b = .int .i8 y1 := by simpa using e1
  obtain rfl : c = .int .i8 y2 := by simpa using e2
  obtain rfl : e = .int .i8 y3 := by simpa using e3
  refine ⟨y0, y1, y2, y3, rfl, fun x hx => ?_⟩
  have h0 := bounds_i8 w0; have h1 := bounds_i8 w1; have h2 := bounds_i8 w2; have h3 := bounds_i8 w3
  simp at hx
  rcases hx with rfl | rfl | rfl | rfl <;> assumption
end Go.Proofs.YtpeinobepiodaaaGreatDoor
