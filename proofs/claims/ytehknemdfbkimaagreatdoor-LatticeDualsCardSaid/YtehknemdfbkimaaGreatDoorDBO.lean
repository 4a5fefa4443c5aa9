/- Merged: LawPost, Args, LatCard, LatLib, MatInL, Plan9In, DualProof. -/
import Derived.Test.YtehknemdfbkimaaGreatDoorRows
import Derived.WalkKit
import Derived.ProofKit
import Derived.OpenShut
import Derived.Test.YtehknemdfbkimaaGreatDoorDAA
import Derived.ChangeSlices
import Derived.Test.YtehknemdfbkimaaGreatDoorDAD
import Derived.LaidMore
import Derived.LaidLaws
import Derived.MakeChecks
import Derived.Lib.LaidTab
import Derived.Stop.Joined
import Derived.Stop.LaidErr
import Derived.Lay
import Derived.Test.YtehknemdfbkimaaGreatDoorTie
import Derived.Test.YtehknemdfbkimaaGreatDoorCards
import Derived.Test.YtehknemdfbkimaaGreatDoorDAR
import Derived.Test.YtehknemdfbkimaaGreatDoorDAJ
import Derived.Deep.Slices
import Derived.Test.YtehknemdfbkimaaGreatDoorDBE
import Derived.Laws.IdiomArrays
import Derived.Test.YtehknemdfbkimaaGreatDoorDBN
import Derived.SevenTiedAt
/- What a statement's row asks of the end of a call, out of: it returned true, and all that lay in memory lies unturned. -/
namespace Go.Proofs.YtehknemdfbkimaaGreatDoor
set_option linter.unusedVariables false
set_option linter.unusedSimpArgs false
open Go.ChangeShapes Go.WideShapes Go.ChangeAt Go.RowKit

theorem lawOwn : ownKnob Tryz.prog.godebug = none := by kernel_rfl
theorem lawLaid : laidOutB Tryz.prog = true := by kernel_rfl

theorem trodAll_below {H : Type} {enc : TypeId × Value → H} {P : Program} (hl : laidOutB P = true) {W W' : World} (hb : Below W.heap.size W W') :
    ∀ (ts : List TypeId) (vs : List Value) (ds : List (DataW H)) (ps : List MemPlace), (∀ t ∈ ts, P.readableRec t = true ∧ t < P.types.size) →
      DataW.TrodAll enc P W 0 (fun _ => true) true ts vs ds ps → (∀ x ∈ ps, x.block < W.heap.size) → DataW.TrodAll enc P W' 0 (fun b => decide (b < W.heap.size)) true ts vs ds ps
  | [], [], [], ps, _, h, _ => h
  | t :: ts, v :: vs, d :: ds, ps, hr, h, hlt => by
    obtain ⟨p, p', h1, h2, rfl⟩ := h
    exact ⟨p, p', Below.trod hl (hr t (by simp)).1 (hr t (by simp)).2 h1 hb (fun x hx => hlt x (by simp [hx])), trodAll_below hl hb ts vs ds p' (fun t ht => hr t (by simp [ht])) h2 (fun x hx => hlt x (by simp [hx])), rfl⟩
  | [], v :: vs, _, _, _, h, _ => absurd h (by simp [DataW.TrodAll])
  | [], [], d :: ds, _, _, h, _ => absurd h (by simp [DataW.TrodAll])
  | t :: ts, [], _, _, _, h, _ => absurd h (by simp [DataW.TrodAll])
  | t :: ts, v :: vs, [], _, _, h, _ => absurd h (by simp [DataW.TrodAll])

/-- The row's end for a statement that answers true and leaves what it was given alone. -/
theorem lawPost {H : Type} {enc : TypeId × Value → H} {f : Func} {s : ChangeSpec} {W W' : World} {args : Array Value} {ds : List (DataW H)} {before : List MemPlace}
    (hW : DataW.Whole enc Tryz.prog f.params.toList s.vars false W args.toList ds [] before) (hA : DataW.TrodAll enc Tryz.prog W 0 (fun _ => true) true f.params.toList args.toList ds before)
    (hv : s.vars = []) (hres : f.resultTypes = #[4]) (hfn : s.fn H (ds ++ []) = { results := [.lit (.bool true)], args := ds }) (hr : ∀ t ∈ f.params.toList, Tryz.prog.readableRec t = true ∧ t < Tryz.prog.types.size) (hb : Below W.heap.size W W') :
    ∃ v, Ending.returned (.bool true) = Ending.returned v ∧ ChangeSpec.post enc Tryz.prog f s false true false false W args v W' := by
  refine ⟨_, rfl, ds, [], before, [], before, [], hW, ?_, ?_, ?_, ?_, fun h => by cases h⟩
  · rw [hfn, hres]
    exact trodAll_cons_mk (shut_bool Tryz.underlying4 _) trodAll_mk0
  · rw [hfn]
    exact trodAll_below lawLaid hb _ _ _ _ hr hA (fun x hx => by simpa using hW.lt x hx)
  · rw [hfn, hv]; rfl
  · exact hb.frame _
end Go.Proofs.YtehknemdfbkimaaGreatDoor
/- Arguments that came in: slices of integers. -/
namespace Go.Proofs.YtehknemdfbkimaaGreatDoor
set_option linter.unusedVariables false
set_option linter.unusedSimpArgs false
open Go.ChangeShapes Go.WideShapes Go.ChangeAt Go.RowKit

end Go.Proofs.YtehknemdfbkimaaGreatDoor
/- What the laid tables give a walk of chapter 09, and the witness's world. -/
namespace Go.Proofs.YtehknemdfbkimaaGreatDoor
set_option linter.unusedVariables false
set_option linter.unusedSimpArgs false
open Go.ChangeShapes Go.WideShapes Go.ChangeAt Go.RowKit

/-- What the rows list as laid. -/
abbrev laid9 : List (String × DataW Unit) := [("math/bits.deBruijn32tab", Rows.laid_math_bits_deBruijn32tab), ("math/bits.deBruijn64tab", Rows.laid_math_bits_deBruijn64tab), ("internal/strconv.uint64pow10", Rows.laid_internal_strconv_uint64pow10), ("strconv.ErrRange", Rows.laid_strconv_ErrRange), ("strconv.ErrSyntax", Rows.laid_strconv_ErrSyntax)]
theorem pow10_of_laid {W : World} (h : laidMetH Tryz.prog laid9 W) : Pow10 W := by
  rw [MakeChecks.laidMetH_plain _ _ _ (by kernel_rfl)] at h
  have h2 := laidMet.tail (laidMet.tail h)
  exact Lib.tabIs_of_head (g := 0) (t := 247) (e := 205) (n := 20) (by kernel_rfl) (by kernel_rfl) (by kernel_rfl) (by kernel_rfl) (by kernel_rfl) (by kernel_rfl) h2
theorem returnsInHanded_shape {H : Type} {enc : TypeId × Value → H} {a : Assume} {C : Checked} {os : Os} {f : FuncId} {fn : Func} {s : ChangeSpec} {conds : List PathCond} {apart fresh handsOn again : Bool} {X : World → Array Value → Prop}
    (hX : ∀ (w w' : World) (args : Array Value), w.heap = w'.heap → X w args → X w' args)
    (own : ownKnob C.prog.godebug = none) (started : os.Started) (noInit : C.prog.inits.idxOf? f = none) (hfn : C.prog.funcs[f]? = some fn)
    (witness : ∃ (w : World) (tape : Tape) (i : Input), w.os = os ∧ (w.forCall tape i).Shaped C.prog ∧ i.vars = [] ∧ Input.okWide C.prog (w.forCall tape i) .any w.heap.size f i ∧
      ((s.pre enc C.prog fn conds apart (w.forCall tape i).memory i.args ∧ X (w.forCall tape i).memory i.args) ∧ sizedMet enc C.prog fn (OpenSpec.ofChange s) apart (w.forCall tape i).memory i.args) ∧ a.holds C.prog (lone (Frame.enter C.prog f i.args .normal) [] (w.forCall tape i)))
    (contract : ∀ (W : World) (base : Nat) (args : Array Value) (ds gs : List (DataW H)) (before : List MemPlace),
      (∀ (j : Nat) t v, fn.params[j]? = some t → args[j]? = some v → Value.okWide C.prog W .any base t v) →
      DataW.Whole enc C.prog fn.params.toList s.vars apart W args.toList ds gs before →
      conds.all (PathCond.test C.prog ⟨fn.params.toList, ds, s.plain.varTypes C.prog, gs⟩) = true →
      (DataW.weightsEach C.prog (fn.params.toList ++ s.plain.varTypes C.prog) (ds ++ gs)).all (· ≤ reachBytes) = true → X W args →
      W.ShapedOpen C.prog →
      a.holds C.prog (lone (Frame.enter C.prog f args .normal) [] W) →
      Calls C.prog f args W fun e W' => ∃ v, e = .returned v ∧ s.post enc C.prog fn apart fresh handsOn again W args v W') :
    ReturnsInHanded a C os f .any (fun w args => (s.pre enc C.prog fn conds apart w args ∧ X w args) ∧ sizedMet enc C.prog fn (OpenSpec.ofChange s) apart w args) (s.post enc C.prog fn apart fresh handsOn again) := by
  refine returnsInHanded_of_calls own started noInit witness ?_
  intro w tape i _ hsh _ hok hpre hholds
  obtain ⟨_, _, _, fn', hfn', _, _, _, _, hval⟩ := hok
  have e : fn' = fn := Option.some.inj (hfn'.symm.trans hfn)
  subst e
  obtain ⟨⟨⟨ds, gs, before, hw, hc⟩, hx⟩, hz⟩ := hpre
  have hw' := DataW.Whole.of_heap (w' := w.forCall tape i) (by rfl) hw
  refine (contract (w.forCall tape i) w.heap.size i.args ds gs before hval hw' hc (hz.weights hw) (hX _ _ _ (by rfl) hx) hsh hholds).mono fun e W' ⟨v, he, hp⟩ => ?_
  subst he
  exact ChangeSpec.post_blind hp

theorem door_met7 (os : Os) (args : Array Value) : laidMetH Tryz.prog laid9 ((World.laidAll Tryz.prog os laid9).forCall (fun _ _ => 0) ⟨#[], args, []⟩).memory := by
  rw [MakeChecks.laidMetH_plain _ _ _ (by kernel_rfl)]; exact laidMet_laidAll _ (by kernel_rfl) (by kernel_rfl)
end Go.Proofs.YtehknemdfbkimaaGreatDoor
/- What the laid variables give a walk of chapter 09 that reads numbers of any size: LibT. -/
namespace Go.Proofs.YtehknemdfbkimaaGreatDoor
set_option linter.unusedVariables false
set_option linter.unusedSimpArgs false
open Go.ChangeShapes Go.WideShapes Go.ChangeAt Go.RowKit

theorem errRow (u : TypeId) (h : Tryz.prog.typeName? 3 u = some "*errors.errorString") : u = 258 :=
  typeName_ptr_named (nm := "errors.errorString") (by rw [show "*" ++ "errors.errorString" = "*errors.errorString" by decide]; kernel_rfl) (by kernel_rfl) (by decide) u (by rw [show "*" ++ "errors.errorString" = "*errors.errorString" by decide]; exact h)
theorem libT_of {W : World} (h : laidMetH Tryz.prog laid9 W) : LibT W := by
  have hp := pow10_of_laid h
  rw [MakeChecks.laidMetH_plain _ _ _ (by kernel_rfl)] at h
  have h2 := laidMet.tail (laidMet.tail h)
  refine ⟨hp, ?_⟩
  have h4 := laidMet.tail h2
  obtain ⟨a, s, hv, -⟩ := laid_sentinel (g := 3) (ti := 140) (tp := 258) (te := 260) (ts := 9) (ms := _) (f := _) h4 (by kernel_rfl) (by kernel_rfl) Tryz.underlying140 errRow Tryz.underlying258 Tryz.underlying260 rfl rfl Tryz.underlying9 (by kernel_rfl) (by kernel_rfl)
  have hc := World.var?_cell (show Tryz.prog.globalNamed "strconv.ErrRange" = some 3 by kernel_rfl) hv 0
  exact ⟨_, _, by simpa using hc⟩
theorem pow_lt {W : World} (h : Pow10 W) : 0 < W.heap.size := by
  unfold Pow10 Lib.TabIs at h
  have hg : Tryz.prog.globalNamed "internal/strconv.uint64pow10" = some 0 := by kernel_rfl
  by_cases hlt : 0 < W.heap.size
  · exact hlt
  · simp [World.var?, hg, Array.getElem?_eq_none (show W.heap.size ≤ 0 by omega)] at h
end Go.Proofs.YtehknemdfbkimaaGreatDoor
/- A matrix that came in (cuts that hold package row). -/
namespace Go.Proofs.YtehknemdfbkimaaGreatDoor
set_option linter.unusedVariables false
set_option linter.unusedSimpArgs false
open Go.ChangeShapes Go.WideShapes Go.ChangeAt Go.RowKit

end Go.Proofs.YtehknemdfbkimaaGreatDoor
/- A plan of chapter 09 that came in; an array of four int8 that came in. -/
namespace Go.Proofs.YtehknemdfbkimaaGreatDoor
set_option linter.unusedVariables false
set_option linter.unusedSimpArgs false
open Go.ChangeShapes Go.WideShapes Go.ChangeAt Go.RowKit

theorem cellsI8L : Tryz.prog.cellsOf 53 = 1 := by kernel_rfl
theorem cellsU8L : Tryz.prog.cellsOf 5 = 1 := by kernel_rfl
theorem cellsFourL : Tryz.prog.cellsOf 76 = 4 := by kernel_rfl
theorem cellsFoursL : Tryz.prog.cellsOf 22 = 1 := by kernel_rfl
theorem cellsPlan9 : Tryz.prog.cellsOf 24 = 2 := by kernel_rfl
set_option maxRecDepth 100000 in
/-- Four cells that came in. -/
theorem four_cells {H : Type} {enc : TypeId × Value → H} {W : World} {base : Nat} {spare : Nat → Bool} {held : Bool} {fuel : Nat} {cs : List Value} {y : DataW H × List MemPlace} (hl : cs.length = 4)
    (hf : DataW.trod enc Tryz.prog W base spare held fuel 76 cs = some y) : ∃ x : List Int, cs = x.map (Value.int .i8) ∧ x.length = 4 ∧ ∀ a ∈ x, -128 ≤ a ∧ a ≤ 127 := by
  obtain ⟨a, b, c, e, rfl⟩ : ∃ a b c e, cs = [a, b, c, e] := by
    match cs, hl with
    | [a, b, c, e], _ => exact ⟨a, b, c, e, rfl⟩
  obtain ⟨z0, z1, z2, z3, n, -, k0, k1, k2, k3⟩ := trod_array4 Tryz.underlying76 cellsI8L hf
  obtain ⟨y0, e0, -, w0⟩ := DataW.trod_int Tryz.underlying53 k0
  obtain ⟨y1, e1, -, w1⟩ := DataW.trod_int Tryz.underlying53 k1
  obtain ⟨y2, e2, -, w2⟩ := DataW.trod_int Tryz.underlying53 k2
  obtain ⟨y3, e3, -, w3⟩ := DataW.trod_int Tryz.underlying53 k3
  obtain rfl : a = .int .i8 y0 := by simpa using e0
  obtain rfl : b = .int .i8 y1 := by simpa using e1
  obtain rfl : c = .int .i8 y2 := by simpa using e2
  obtain rfl : e = .int .i8 y3 := by simpa using e3
  refine ⟨[y0, y1, y2, y3], rfl, rfl, fun x hx => ?_⟩
  have h0 := bounds_i8 w0; have h1 := bounds_i8 w1; have h2 := bounds_i8 w2; have h3 := bounds_i8 w3
  simp at hx
  rcases hx with rfl | rfl | rfl | rfl <;> assumption
theorem flatten4 {us : List (List Value)} (h : ∀ u ∈ us, u.length = 4) (j : Nat) (k : Nat) (hk : k < 4) : us.flatten[4 * j + k]? = (us[j]?).bind (·[k]?) := by
  induction us generalizing j with
  | nil => simp
  | cons u l ih =>
    have hu := h u (by simp)
    rw [List.flatten_cons]
    cases j with
    | zero => rw [List.getElem?_append_left (by omega)]; simp
    | succ j =>
      rw [List.getElem?_append_right (by omega), show 4 * (j + 1) + k - u.length = 4 * j + k by omega, ih (fun x hx => h x (by simp [hx])) j]
      simp
set_option maxRecDepth 100000 in
/-- A cell that came in and holds a slice of such arrays. -/
theorem fours_cell {H : Type} {enc : TypeId × Value → H} {W : World} {base : Nat} {spare : Nat → Bool} {held : Bool} {c0 : Value} {x : DataW H × List MemPlace} {fuel : Nat}
    (hf : DataW.trod enc Tryz.prog W base spare held fuel 22 [c0] = some x) : ∃ xss, Fours W c0 xss := by
  rcases Go.Deep.open_slice Tryz.underlying22 hf with ⟨hcs, hx⟩ | ⟨a, len, cap, m, n, D, Pl, hcs, _, hl, hm, hmm, hx, hV⟩
  · obtain rfl : c0 = .slice none 0 0 := by simpa using hcs
    exact ⟨[], [], rfl, by simp, ⟨none, 0, rfl, Nat.le_refl _, Nat.zero_le _, fun _ => rfl, fun h => absurd rfl h⟩, by simp⟩
  · obtain rfl : c0 = .slice (some a) len cap := by simpa using hcs
    have hml : len ≤ m := by rw [hmm]; split <;> omega
    rw [cellsFourL] at hV
    have hXe : ∃ X : Nat → List Int, ∀ i, i < m → (∀ k, k < 4 → W.cell? ((a.add (i * 4)).add k) = ((X i).map (Value.int .i8))[k]?) ∧ (X i).length = 4 ∧ ∀ z ∈ X i, -128 ≤ z ∧ z ≤ 127 := by
      have : ∀ i, i < m → ∃ x : List Int, (∀ k, k < 4 → W.cell? ((a.add (i * 4)).add k) = (x.map (Value.int .i8))[k]?) ∧ x.length = 4 ∧ ∀ z ∈ x, -128 ≤ z ∧ z ≤ 127 := by
        intro i hi
        obtain ⟨cs', h1, h2⟩ := hV i hi
        obtain ⟨-, h3, h4⟩ := World.cells?_some h1
        obtain ⟨x, h5, h6, h7⟩ := four_cells h3 h2
        exact ⟨x, fun k hk => by rw [h4 k hk, h5], h6, h7⟩
      refine ⟨fun i => if h : i < m then Classical.choose (this i h) else [], fun i h => ?_⟩
      simp only [h, ↓reduceDIte]
      exact Classical.choose_spec (this i h)
    obtain ⟨X, hX⟩ := hXe
    have hus : ∀ u ∈ (List.range len).map (fun i => (X i).map (Value.int .i8)), u.length = 4 := by
      intro u hu
      obtain ⟨i, hi, rfl⟩ := List.mem_map.1 hu
      rw [List.length_map]; exact (hX i (by have := List.mem_range.1 hi; omega)).2.1
    refine ⟨(List.range len).map X, (List.range len).map fun i => (X i).map (Value.int .i8), by simp, hus, ?_, ?_⟩
    · refine ⟨some a, cap, by simp, by simpa using hl, hm, (fun h => by cases h), fun hne => ?_⟩
      have hpos : 0 < len := by
        rcases Nat.eq_zero_or_pos len with h0 | h0
        · subst h0; simp at hne
        · exact h0
      have h0 := (hX 0 (by omega)).1 0 (by omega)
      have h04 := (hX 0 (by omega)).2.1
      rw [Go.Deep.add_add, List.getElem?_map, List.getElem?_eq_getElem (by omega)] at h0
      have h00 : W.cell? a = some (.int .i8 (X 0)[0]) := by simpa [Addr.add] using h0
      have hs : a.spot = none := by
        cases hsp2 : a.spot with
        | none => rfl
        | some s =>
          unfold World.cell? at h00
          rw [hsp2] at h00
          split at h00 <;> simp at h00
      refine ⟨a.block, a.off, by rw [← hs], lt_of_cell h00, fun j u hu => ?_⟩
      have hj4 : j = 4 * (j / 4) + j % 4 := by omega
      rw [hj4, flatten4 hus (j / 4) (j % 4) (by omega)] at hu
      obtain ⟨u0, h1, h2⟩ := Option.bind_eq_some_iff.1 hu
      rw [List.getElem?_map] at h1
      by_cases hj : j / 4 < len
      · rw [List.getElem?_range hj] at h1
        simp at h1
        subst h1
        have hc2 := (hX (j / 4) (by omega)).1 (j % 4) (by omega)
        rw [h2, Go.Deep.add_add, show j / 4 * 4 + j % 4 = j by omega] at hc2
        unfold Addr.add at hc2
        by_cases hj0 : j = 0
        · subst hj0
          rw [if_pos rfl] at hc2
          have ha : a = ⟨a.block, a.off + 0, none⟩ := by cases a; simp only at hs; subst hs; rfl
          rw [ha] at hc2; exact hc2
        · rw [if_neg hj0] at hc2; exact hc2
      · rw [List.getElem?_eq_none (by simpa using hj)] at h1; cases h1
    · intro j u x hu hx
      rw [List.getElem?_map] at hu hx
      by_cases hj : j < len
      · rw [List.getElem?_range hj] at hu hx
        simp at hu hx
        subst hu; subst hx
        exact ⟨rfl, (hX j (by omega)).2⟩
      · rw [List.getElem?_eq_none (by simpa using hj)] at hu; cases hu
set_option maxRecDepth 100000 in
/-- A plan that came in. -/
theorem open_plan9 {H : Type} {enc : TypeId × Value → H} {W : World} {r : Reach} {b0 base : Nat} {spare : Nat → Bool} {held : Bool} {v : Value} {d : DataW H} {ps : List MemPlace}
    (hval : Value.okWide Tryz.prog W r b0 24 v) (hd : DataW.Trod enc Tryz.prog W base spare held 24 v d ps) :
    ∃ c u xss, v = .agg #[.int .u8 c, u] ∧ (0 ≤ c ∧ c ≤ 255) ∧ Fours W u xss := by
  obtain ⟨cs, rfl, hs⟩ := okWide_struct Tryz.underlying24 hval
  obtain ⟨fuel, hf⟩ := hd
  rw [cellsPlan9] at hs
  obtain ⟨a, b, rfl⟩ : ∃ a b, cs = #[a, b] := by
    match cs, hs with
    | ⟨[a, b]⟩, _ => exact ⟨a, b, rfl⟩
  obtain ⟨xs, n, -, -, hl, hlen, hall⟩ := DataW.trod_struct Tryz.underlying24 hf
  have h0 := hall 0 _ rfl
  have h1 := hall 1 _ rfl
  have hx : xs.length = 2 := hlen
  rw [List.getElem?_eq_getElem (by omega)] at h0 h1
  have k0 : DataW.trod enc Tryz.prog W base spare held n 5 [a] = some xs[0] := by
    rw [← h0]
    show _ = DataW.trod enc Tryz.prog W base spare held n 5 (([a, b].drop 0).take (Tryz.prog.cellsOf 5))
    rw [cellsU8L]; rfl
  have k1 : DataW.trod enc Tryz.prog W base spare held n 22 [b] = some xs[1] := by
    rw [← h1]
    show _ = DataW.trod enc Tryz.prog W base spare held n 22 (([a, b].drop 1).take (Tryz.prog.cellsOf 22))
    rw [cellsFoursL]; rfl
  obtain ⟨y0, e0, -, w0⟩ := DataW.trod_int Tryz.underlying5 k0
  obtain ⟨xss, hxs⟩ := fours_cell k1
  obtain rfl : a = .int .u8 y0 := by simpa using e0
  exact ⟨y0, b, xss, rfl, bounds_u8 w0, hxs⟩
end Go.Proofs.YtehknemdfbkimaaGreatDoor
/- LatticeDuals holds: for any two plans it returns true. Condition: the tables of math/bits and strconv and the variables of strconv that its row lists read as the program lays them (tied by the card). -/
namespace Go.Proofs.YtehknemdfbkimaaGreatDoor
set_option linter.unusedVariables false
open Go.ChangeShapes Go.WideShapes Go.ChangeAt Go.RowKit

set_option maxRecDepth 100000 in
theorem latticeDuals_lifted (os : Os) (started : os.Started) (H : Type) (enc : TypeId × Value → H) :
    ReturnsInHanded {} Tryz.checked os 6 .any (fun w args => (Rows.latticeDualsSpec.pre enc Tryz.prog Tryz.f6 [] false w args ∧ laidMetH Tryz.prog Rows.latticeDualsRow.laid w) ∧ sizedMet enc Tryz.prog Tryz.f6 (OpenSpec.ofChange Rows.latticeDualsSpec) false w args)
      (Rows.latticeDualsSpec.post enc Tryz.prog Tryz.f6 false true false false) := by
  refine returnsInHanded_shape (C := Tryz.checked) (X := fun w _ => laidMetH Tryz.prog Rows.latticeDualsRow.laid w) (fun _ _ _ hh h => h.of_heap hh) lawOwn started (by kernel_rfl) Tryz.func6
    (ChangeSpec.witness_shaped (enc := enc) (C := Tryz.checked) (os := os) (X := fun w _ => laidMetH Tryz.prog Rows.latticeDualsRow.laid w) false (World.laidAll Tryz.prog os Rows.latticeDualsRow.laid) #[.agg #[.int .u8 0, .slice none 0 0], .agg #[.int .u8 0, .slice none 0 0]] 8 (World.laidAll_os _ _ _) (World.shaped_of_ZipB (by kernel_rfl) (by kernel_rfl)) (by kernel_rfl) (by kernel_rfl) (by kernel_rfl) (door_met7 os _)) ?_
  intro W base args ds gs before hval0 hW _ _ hL hSh _
  have hval : ∀ (j : Nat) t v, Tryz.f6.params[j]? = some t → args[j]? = some v → Value.okWide Tryz.prog W .any base t v := hval0
  have hW' := hW
  obtain ⟨p, q, hA0, hV, rfl, hfz, hnd⟩ := hW
  have hA : DataW.TrodAll enc Tryz.prog W 0 (fun _ => true) true Tryz.f6.params.toList args.toList ds p := hA0
  have hAk := hA
  rw [Tryz.params6] at hA hval
  obtain ⟨v0, vs0, d0, ds0, p0, q0, hargs, rfl, rfl, h0, r0⟩ := trodAll_cons hA
  obtain ⟨v1, vs1, d1, ds1, p1, q1, rfl, rfl, rfl, h1, r1⟩ := trodAll_cons r0
  obtain ⟨rfl, rfl, rfl⟩ := trodAll_nil r1
  obtain rfl : args = #[v0, v1] := by cases args; simp_all
  obtain ⟨rfl, rfl⟩ := trodVars_none hV
  obtain ⟨c0, u0, xss0, rfl, hc0, hx0⟩ := open_plan9 (hval 0 24 v0 rfl rfl) h0
  obtain ⟨c1, u1, xss1, rfl, hc1, hx1⟩ := open_plan9 (hval 1 24 v1 rfl rfl) h1
  clear hA0 hval0
  simp only [List.append_nil] at hW' hAk
  refine (duals_walk c0 c1 hc0.1 hc0.2 xss0 xss1 u0 u1 W hx0 hx1 (libT_of hL) (pow_lt (libT_of hL).pow)).mono fun e W' ⟨he, hg⟩ => ?_
  subst he
  exact lawPost hW' (by simpa using hAk) rfl (by kernel_rfl) rfl (of_decide_eq_true (by kernel_rfl)) hg

set_option maxHeartbeats 40000000 in
/-- What the row says of the program, fact by fact. -/
theorem latticeDuals_facts : joinedFacts Tryz.pinned.checked.prog 6 Tryz.f6 Rows.latticeDualsSpec Rows.latticeDualsRow = true := by
  unfold joinedFacts
  iterate 31 refine Bool.and_eq_true_iff.mpr ⟨?_, ?_⟩
  all_goals (as_aux_lemma => kernel_rfl)

theorem latticeDuals_over : Rows.LatticeDualsSaid :=
  OpenClaim.holds_of_wide 6 Tryz.f6 rfl rfl rfl rfl rfl rfl rfl ⟨rfl, rfl, rfl, rfl, rfl⟩ rfl rfl rfl rfl rfl (by kernel_rfl) Tryz.func6 latticeDuals_facts
    (of_decide_eq_true (by kernel_rfl)) (by unfold Func.isWrapper; first | (rw [if_pos (by decide +kernel)]; kernel_rfl) | (rw [if_neg (by decide +kernel)]; exact ⟨rfl, rfl⟩))
    (fun os started H enc _ => latticeDuals_lifted os started H enc)

theorem latticeDuals_holds : Rows.LatticeDualsCardSaid :=
  Claim7.holds_tied_plain_at .later [] Rows.latticeDualsCard.laidKinds true Rows.latticeDualsCard.stood.harness true
    latticeDuals_over (fun _ h => by cases h) (by kernel_rfl) (fun _ h => by cases h) latticeDuals_row_tie rfl ⟨rfl, rfl⟩ (by kernel_rfl) rfl
    (fun f fn hf hfn => by
      obtain rfl : f = 6 := Option.some.inj ((show Tryz.prog.funcNamed Rows.latticeDualsRow.func = some 6 by kernel_rfl).symm.trans hf) |>.symm
      obtain rfl : fn = Tryz.f6 := (Option.some.inj (Tryz.func6.symm.trans hfn)).symm
      exact ⟨by kernel_rfl, fun j t ht => by
        rw [Tryz.params6] at ht
        have h3 : t = 24 := by
          have := List.mem_of_getElem? (l := [24, 24]) (i := j) (a := t) (by simpa using ht)
          simp at this
          first | omega | exact this | exact this.symm | (rcases this with h | h | h <;> simp [h]) | (rcases this with h | h <;> simp [h])
        subst h3
        exact (show Tryz.prog.wantsStandIn 24 = false by kernel_rfl)⟩)
    (by kernel_rfl)
#print axioms latticeDuals_holds
end Go.Proofs.YtehknemdfbkimaaGreatDoor
