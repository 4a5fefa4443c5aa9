/- Merged: LatCard, LatLib, WedLib, Flat, MatIn, Draft10In. -/
import Derived.Test.YtjlkkofmojgipaaGreatDoorZBO
import Derived.Test.YtjlkkofmojgipaaGreatDoorZAD
import Derived.LaidMore
import Derived.LaidLaws
import Derived.MakeChecks
import Derived.Lib.LaidTab
import Derived.Stop.Joined
import Derived.Stop.LaidErr
import Derived.Lay
import Derived.Test.YtjlkkofmojgipaaGreatDoorTie
import Derived.Test.YtjlkkofmojgipaaGreatDoorCards
import Derived.Test.YtjlkkofmojgipaaGreatDoorZBE
import Derived.Test.YtjlkkofmojgipaaGreatDoorZAV
import Derived.WalkKit
import Derived.ProofKit
import Derived.OpenShut
import Derived.ChangeSlices
import Derived.Deep.Slices
import Derived.Laws.IdiomArrays
/- What the laid tables give a walk of chapter 09, and the witness's world. -/
namespace Go.Proofs.YtjlkkofmojgipaaGreatDoor
set_option linter.unusedVariables false
set_option linter.unusedSimpArgs false
open Go.ChangeShapes Go.WideShapes Go.ChangeAt Go.RowKit

/-- What the rows list as laid. -/
abbrev laid9 : List (String × DataW Unit) := [("math/bits.deBruijn32tab", Rows.laid_math_bits_deBruijn32tab), ("math/bits.deBruijn64tab", Rows.laid_math_bits_deBruijn64tab), ("internal/strconv.uint64pow10", Rows.laid_internal_strconv_uint64pow10), ("strconv.ErrRange", Rows.laid_strconv_ErrRange), ("strconv.ErrSyntax", Rows.laid_strconv_ErrSyntax)]
theorem pow10_of_laid {W : World} (h : laidMetH Tryz.prog laid9 W) : Pow10 W := by
  rw [MakeChecks.laidMetH_plain _ _ _ (by kernel_rfl)] at h
  have h2 := laidMet.tail (laidMet.tail h)
  exact Lib.tabIs_of_head (g := 4) (t := 266) (e := 204) (n := 20) (by kernel_rfl) (by kernel_rfl) (by kernel_rfl) (by kernel_rfl) (by kernel_rfl) (by kernel_rfl) h2
theorem returnsInHanded_shape {H : Type} {enc : TypeId × Value → H} {a : Assume} {C : Checked} {os : Os} {f : FuncId} {fn : Func} {s : ChangeSpec} {conds : List PathCond} {apart fresh handsOn again : Bool} {X : World → Array Value → Prop}
    (hX : ∀ (w w' : World) (args : Array Value), w.heap = w'.heap → X w args → X w' args)
    (own : ownKnob C.prog.godebug = none) (started : os.Started) (noInit : C.prog.inits.idxOf? f = none) (hfn : C.prog.funcs[f]? = some fn)
    (witness : ∃ (w : World) (tape : Tape) (i : Input), w.os = os ∧ (w.forCall tape i).Shaped C.prog ∧ i.vars = [] ∧ Input.okWide C.prog (w.forCall tape i) .any w.heap.size f i ∧
      ((s.pre enc C.prog fn conds apart (w.forCall tape i).memory i.args ∧ X (w.forCall tape i).memory i.args) ∧ sizedMet enc C.prog fn (OpenSpec.ofChange s) apart (w.forCall tape i).memory i.args) ∧ a.holds C.prog (lone (Frame.enter C.prog f i.args .normal) [] (w.forCall tape i)))
    (contract : ∀ (W : World) (base : Nat) (args : Array Value) (ds gs : List (DataW H)) (before : List MemPlace),
      (∀ (j : Nat) t v, fn.params[j]? = some t → args[j]? = some v → Value.okWide C.prog W .any base t v) →
      DataW.Whole enc C.prog fn.params.toList s.vars apart W args.toList ds gs before →
      conds.all (PathCond.test C.prog ⟨fn.params.toList, ds, s.plain.varTypes C.prog, gs⟩) = true →
      (DataW.weightsEach C.prog (fn.params.toList ++ s.plain.varTypes C.prog) (ds ++ gs)).all (· ≤ reachBytes) = true → X W args →
      W.ShapedOpen C.prog →
      a.holds C.prog (lone (Frame.enter C.prog f args .normal) [] W) →
      Calls C.prog f args W fun e W' => ∃ v, e = .returned v ∧ s.post enc C.prog fn apart fresh handsOn again W args v W') :
    ReturnsInHanded a C os f .any (fun w args => (s.pre enc C.prog fn conds apart w args ∧ X w args) ∧ sizedMet enc C.prog fn (OpenSpec.ofChange s) apart w args) (s.post enc C.prog fn apart fresh handsOn again) := by
  refine returnsInHanded_of_calls own started noInit witness ?_
  intro w tape i _ hsh _ hok hpre hholds
  obtain ⟨_, _, _, fn', hfn', _, _, _, _, hval⟩ := hok
  have e : fn' = fn := Option.some.inj (hfn'.symm.trans hfn)
  subst e
  obtain ⟨⟨⟨ds, gs, before, hw, hc⟩, hx⟩, hz⟩ := hpre
  have hw' := DataW.Whole.of_heap (w' := w.forCall tape i) (by rfl) hw
  refine (contract (w.forCall tape i) w.heap.size i.args ds gs before hval hw' hc (hz.weights hw) (hX _ _ _ (by rfl) hx) hsh hholds).mono fun e W' ⟨v, he, hp⟩ => ?_
  subst he
  exact ChangeSpec.post_blind hp

theorem door_met7 (os : Os) (args : Array Value) : laidMetH Tryz.prog laid9 ((World.laidAll Tryz.prog os laid9).forCall (fun _ _ => 0) ⟨#[], args, []⟩).memory := by
  rw [MakeChecks.laidMetH_plain _ _ _ (by kernel_rfl)]; exact laidMet_laidAll _ (by kernel_rfl) (by kernel_rfl)
end Go.Proofs.YtjlkkofmojgipaaGreatDoor
/- What the laid variables give a walk of chapter 09 that reads numbers of any size: LibT. -/
namespace Go.Proofs.YtjlkkofmojgipaaGreatDoor
set_option linter.unusedVariables false
set_option linter.unusedSimpArgs false
open Go.ChangeShapes Go.WideShapes Go.ChangeAt Go.RowKit

theorem errRow (u : TypeId) (h : Tryz.prog.typeName? 3 u = some "*errors.errorString") : u = 269 :=
  typeName_ptr_named (nm := "errors.errorString") (by rw [show "*" ++ "errors.errorString" = "*errors.errorString" by decide]; kernel_rfl) (by kernel_rfl) (by decide) u (by rw [show "*" ++ "errors.errorString" = "*errors.errorString" by decide]; exact h)
theorem libT_of {W : World} (h : laidMetH Tryz.prog laid9 W) : LibT W := by
  have hp := pow10_of_laid h
  rw [MakeChecks.laidMetH_plain _ _ _ (by kernel_rfl)] at h
  have h2 := laidMet.tail (laidMet.tail h)
  refine ⟨hp, ?_⟩
  have h4 := laidMet.tail h2
  obtain ⟨a, s, hv, -⟩ := laid_sentinel (g := 3) (ti := 176) (tp := 269) (te := 271) (ts := 9) (ms := _) (f := _) h4 (by kernel_rfl) (by kernel_rfl) Tryz.underlying176 errRow Tryz.underlying269 Tryz.underlying271 rfl rfl Tryz.underlying9 (by kernel_rfl) (by kernel_rfl)
  have hc := World.var?_cell (show Tryz.prog.globalNamed "strconv.ErrRange" = some 3 by kernel_rfl) hv 0
  exact ⟨_, _, by simpa using hc⟩
theorem pow_lt {W : World} (h : Pow10 W) : 4 < W.heap.size := by
  unfold Pow10 Lib.TabIs at h
  have hg : Tryz.prog.globalNamed "internal/strconv.uint64pow10" = some 4 := by kernel_rfl
  by_cases hlt : 4 < W.heap.size
  · exact hlt
  · simp [World.var?, hg, Array.getElem?_eq_none (show W.heap.size ≤ 4 by omega)] at h
end Go.Proofs.YtjlkkofmojgipaaGreatDoor
/- What the laid variables give a walk of chapter 10: Bruijn. -/
namespace Go.Proofs.YtjlkkofmojgipaaGreatDoor
set_option linter.unusedVariables false
set_option linter.unusedSimpArgs false
open Go.ChangeShapes Go.WideShapes Go.ChangeAt Go.RowKit

end Go.Proofs.YtjlkkofmojgipaaGreatDoor
/- A value of a type made of integers alone (structs and arrays of them): each cell is an integer of its kind. No program is named here. -/
namespace Go.Proofs.YtjlkkofmojgipaaGreatDoor
set_option linter.unusedVariables false
set_option linter.unusedSimpArgs false
open Go.ChangeShapes Go.WideShapes Go.ChangeAt Go.RowKit

/-- The kind of cell j of a type: an integer kind. -/
def cellKind (P : Program) : Nat → TypeId → Nat → Option IntKind
  | 0, _, _ => none
  | fuel + 1, t, j => match P.underlying t with
    | some (.int k) => if j = 0 then some k else none
    | some (.struct fs) => (fs.toList.find? fun f => decide (f.offset ≤ j) && decide (j < f.offset + P.cellsOf f.type)).bind fun f => cellKind P fuel f.type (j - f.offset)
    | some (.array n e) => if j / P.cellsOf e < n then cellKind P fuel e (j % P.cellsOf e) else none
    | _ => none

theorem flat_cells {H : Type} {enc : TypeId × Value → H} {P : Program} {w : World} {base : Nat} {spare : Nat → Bool} {held : Bool} : ∀ (fuel : Nat) (t : TypeId) (j : Nat) (k : IntKind) (m : Nat) (cs : List Value) (x : DataW H × List MemPlace),
    cellKind P fuel t j = some k → DataW.trod enc P w base spare held m t cs = some x → ∃ n, cs[j]? = some (.int k n) ∧ (Lit.int k n).wf = true
  | 0, _, _, _, _, _, _, h, _ => by simp [cellKind] at h
  | fuel + 1, t, j, k, m, cs, x, h, hx => by
    unfold cellKind at h
    split at h
    · rename_i k' ht
      split at h
      · rename_i hj
        simp at h; subst h; subst hj
        obtain ⟨n, rfl, _, hw⟩ := DataW.trod_int ht hx
        exact ⟨n, rfl, hw⟩
      · simp at h
    · rename_i fs ht
      obtain ⟨f, hf, hk⟩ := Option.bind_eq_some_iff.1 h
      have hp := List.find?_some hf
      simp only [Bool.and_eq_true, decide_eq_true_eq] at hp
      obtain ⟨i, hi⟩ := List.getElem?_of_mem (List.mem_of_find?_eq_some hf)
      obtain ⟨xs, n, rfl, _, _, hl, hall⟩ := DataW.trod_struct ht hx
      have hi' : fs[i]? = some f := by simpa using hi
      have hr := hall i f hi'
      have hlt : i < xs.length := by rw [hl]; exact (Array.getElem?_eq_some_iff.1 hi').1
      rw [List.getElem?_eq_getElem hlt] at hr
      obtain ⟨n', hc, hw⟩ := flat_cells fuel f.type (j - f.offset) k n _ _ hk hr
      refine ⟨n', ?_, hw⟩
      rw [List.getElem?_take, if_pos (by omega), List.getElem?_drop] at hc
      rwa [show f.offset + (j - f.offset) = j by omega] at hc
    · rename_i n e ht
      split at h
      · rename_i hj
        obtain ⟨xs, q, rfl, _, _, hl, hall⟩ := DataW.trod_array ht hx
        have hr := hall (j / P.cellsOf e) hj
        have hlt : j / P.cellsOf e < xs.length := by omega
        rw [List.getElem?_eq_getElem hlt] at hr
        obtain ⟨n', hc, hw⟩ := flat_cells fuel e (j % P.cellsOf e) k q _ _ h hr
        refine ⟨n', ?_, hw⟩
        have hlt2 : j % P.cellsOf e < P.cellsOf e := by
          by_cases h0 : P.cellsOf e = 0
          · rw [h0] at hc
            simp at hc
          · exact Nat.mod_lt _ (by omega)
        rw [List.getElem?_take, if_pos hlt2, List.getElem?_drop] at hc
        rwa [show j / P.cellsOf e * P.cellsOf e + j % P.cellsOf e = j by rw [Nat.mul_comm]; exact Nat.div_add_mod _ _] at hc
      · simp at h
    · simp at h

end Go.Proofs.YtjlkkofmojgipaaGreatDoor
/- A matrix that came in (cuts without package row). -/
namespace Go.Proofs.YtjlkkofmojgipaaGreatDoor
set_option linter.unusedVariables false
set_option linter.unusedSimpArgs false
open Go.ChangeShapes Go.WideShapes Go.ChangeAt Go.RowKit

end Go.Proofs.YtjlkkofmojgipaaGreatDoor
/- A draft of a product that came in; four int8 that came in. -/
namespace Go.Proofs.YtjlkkofmojgipaaGreatDoor
set_option linter.unusedVariables false
set_option linter.unusedSimpArgs false
open Go.ChangeShapes Go.WideShapes Go.ChangeAt Go.RowKit

theorem cellsDraft10 : Tryz.prog.cellsOf 49 = 8 := by kernel_rfl
theorem kindsDraft10_eq : (List.range 8).map (cellKind Tryz.prog 5 49) = ([IntKind.u8, .u8, .i8, .i8, .i8, .i8, .i8, .i8] : List IntKind).map some := by kernel_rfl
theorem cellsFour10 : Tryz.prog.cellsOf 50 = 4 := by kernel_rfl
theorem kindsFour10_eq : (List.range 4).map (cellKind Tryz.prog 5 50) = ([IntKind.i8, .i8, .i8, .i8] : List IntKind).map some := by kernel_rfl
theorem kinds_of {T : TypeId} {m : Nat} {l : List IntKind} (h : (List.range m).map (cellKind Tryz.prog 5 T) = l.map some) {j : Nat} (hj : j < m) {k : IntKind} (hk : l[j]? = some k) : cellKind Tryz.prog 5 T j = some k := by
  have e := congrArg (fun l => l[j]?) h
  simp only [List.getElem?_map, List.getElem?_range hj, hk, Option.map_some, Option.some.injEq] at e
  exact e
set_option maxRecDepth 100000 in
theorem open_draft10 {H : Type} {enc : TypeId × Value → H} {W : World} {r : Reach} {b0 base : Nat} {spare : Nat → Bool} {held : Bool} {v : Value} {d : DataW H} {ps : List MemPlace}
    (hval : Value.okWide Tryz.prog W r b0 49 v) (hd : DataW.Trod enc Tryz.prog W base spare held 49 v d ps) :
    ∃ x y z0 z1 z2 z3 z4 z5 : Int, v = .agg #[.int .u8 x, .int .u8 y, .int .i8 z0, .int .i8 z1, .int .i8 z2, .int .i8 z3, .int .i8 z4, .int .i8 z5] ∧ (0 ≤ x ∧ x ≤ 255) ∧ (0 ≤ y ∧ y ≤ 255) ∧ ∀ a ∈ [z0, z1, z2, z3, z4, z5], -128 ≤ a ∧ a ≤ 127 := by
  obtain ⟨cs, rfl, hs⟩ := okWide_struct Tryz.underlying49 hval
  rw [cellsDraft10] at hs
  obtain ⟨fuel, hf⟩ := hd
  obtain ⟨a, b, c0, c1, c2, c3, c4, c5, rfl⟩ : ∃ a b c0 c1 c2 c3 c4 c5, cs = #[a, b, c0, c1, c2, c3, c4, c5] := by
    match cs, hs with
    | ⟨[a, b, c0, c1, c2, c3, c4, c5]⟩, _ => exact ⟨a, b, c0, c1, c2, c3, c4, c5, rfl⟩
  obtain ⟨x, h0, w0⟩ := flat_cells 5 _ 0 _ _ _ _ (kinds_of kindsDraft10_eq (by decide) rfl) hf
  obtain ⟨y, h1, w1⟩ := flat_cells 5 _ 1 _ _ _ _ (kinds_of kindsDraft10_eq (by decide) rfl) hf
  obtain ⟨z0, h2, w2⟩ := flat_cells 5 _ 2 _ _ _ _ (kinds_of kindsDraft10_eq (by decide) rfl) hf
  obtain ⟨z1, h3, w3⟩ := flat_cells 5 _ 3 _ _ _ _ (kinds_of kindsDraft10_eq (by decide) rfl) hf
  obtain ⟨z2, h4, w4⟩ := flat_cells 5 _ 4 _ _ _ _ (kinds_of kindsDraft10_eq (by decide) rfl) hf
  obtain ⟨z3, h5, w5⟩ := flat_cells 5 _ 5 _ _ _ _ (kinds_of kindsDraft10_eq (by decide) rfl) hf
  obtain ⟨z4, h6, w6⟩ := flat_cells 5 _ 6 _ _ _ _ (kinds_of kindsDraft10_eq (by decide) rfl) hf
  obtain ⟨z5, h7, w7⟩ := flat_cells 5 _ 7 _ _ _ _ (kinds_of kindsDraft10_eq (by decide) rfl) hf
  obtain rfl : a = .int .u8 x := Option.some.inj (show some a = some _ from h0)
  obtain rfl : b = .int .u8 y := Option.some.inj (show some b = some _ from h1)
  obtain rfl : c0 = .int .i8 z0 := Option.some.inj (show some c0 = some _ from h2)
  obtain rfl : c1 = .int .i8 z1 := Option.some.inj (show some c1 = some _ from h3)
  obtain rfl : c2 = .int .i8 z2 := Option.some.inj (show some c2 = some _ from h4)
  obtain rfl : c3 = .int .i8 z3 := Option.some.inj (show some c3 = some _ from h5)
  obtain rfl : c4 = .int .i8 z4 := Option.some.inj (show some c4 = some _ from h6)
  obtain rfl : c5 = .int .i8 z5 := Option.some.inj (show some c5 = some _ from h7)
  refine ⟨x, y, z0, z1, z2, z3, z4, z5, rfl, bounds_u8 w0, bounds_u8 w1, fun e he => ?_⟩
  have g2 := bounds_i8 w2; have g3 := bounds_i8 w3; have g4 := bounds_i8 w4; have g5 := bounds_i8 w5; have g6 := bounds_i8 w6; have g7 := bounds_i8 w7
  simp only [List.mem_cons, List.not_mem_nil, or_false] at he
  rcases he with rfl | rfl | rfl | rfl | rfl | rfl <;> assumption
set_option maxRecDepth 100000 in
theorem open_four10 {H : Type} {enc : TypeId × Value → H} {W : World} {r : Reach} {b0 base : Nat} {spare : Nat → Bool} {held : Bool} {v : Value} {d : DataW H} {ps : List MemPlace}
    (hval : Value.okWide Tryz.prog W r b0 50 v) (hd : DataW.Trod enc Tryz.prog W base spare held 50 v d ps) :
    ∃ q0 q1 q2 q3 : Int, v = .agg #[.int .i8 q0, .int .i8 q1, .int .i8 q2, .int .i8 q3] ∧ ∀ a ∈ [q0, q1, q2, q3], -128 ≤ a ∧ a ≤ 127 := by
  obtain ⟨cs, rfl, hs⟩ : ∃ cs, v = .agg cs ∧ cs.size = Tryz.prog.cellsOf 50 := by
    simp only [Value.okWide, Tryz.underlying50] at hval
    obtain ⟨cs, h1, h2, _⟩ := hval
    exact ⟨cs, h1, h2⟩
  rw [cellsFour10] at hs
  obtain ⟨fuel, hf⟩ := hd
  obtain ⟨c0, c1, c2, c3, rfl⟩ : ∃ c0 c1 c2 c3, cs = #[c0, c1, c2, c3] := by
    match cs, hs with
    | ⟨[c0, c1, c2, c3]⟩, _ => exact ⟨c0, c1, c2, c3, rfl⟩
  obtain ⟨q0, h0, w0⟩ := flat_cells 5 _ 0 _ _ _ _ (kinds_of kindsFour10_eq (by decide) rfl) hf
  obtain ⟨q1, h1, w1⟩ := flat_cells 5 _ 1 _ _ _ _ (kinds_of kindsFour10_eq (by decide) rfl) hf
  obtain ⟨q2, h2, w2⟩ := flat_cells 5 _ 2 _ _ _ _ (kinds_of kindsFour10_eq (by decide) rfl) hf
  obtain ⟨q3, h3, w3⟩ := flat_cells 5 _ 3 _ _ _ _ (kinds_of kindsFour10_eq (by decide) rfl) hf
  obtain rfl : c0 = .int .i8 q0 := Option.some.inj (show some c0 = some _ from h0)
  obtain rfl : c1 = .int .i8 q1 := Option.some.inj (show some c1 = some _ from h1)
  obtain rfl : c2 = .int .i8 q2 := Option.some.inj (show some c2 = some _ from h2)
  obtain rfl : c3 = .int .i8 q3 := Option.some.inj (show some c3 = some _ from h3)
  refine ⟨q0, q1, q2, q3, rfl, fun e he => ?_⟩
  have g0 := bounds_i8 w0; have g1 := bounds_i8 w1; have g2 := bounds_i8 w2; have g3 := bounds_i8 w3
  simp only [List.mem_cons, List.not_mem_nil, or_false] at he
  rcases he with rfl | rfl | rfl | rfl <;> assumption
end Go.Proofs.YtjlkkofmojgipaaGreatDoor
