/- Merged: TEndP, LawPost, Args, MatInL, LatCard, LatLib. -/
import Derived.Test.YtjihfabhgcfjnaaGreatDoorUBJ
import Derived.Test.YtjihfabhgcfjnaaGreatDoorUBI
import Derived.Test.YtjihfabhgcfjnaaGreatDoorRows
import Derived.WalkKit
import Derived.ProofKit
import Derived.OpenShut
import Derived.Test.YtjihfabhgcfjnaaGreatDoorUAA
import Derived.ChangeSlices
import Derived.Test.YtjihfabhgcfjnaaGreatDoorUAR
import Derived.Deep.Slices
import Derived.Test.YtjihfabhgcfjnaaGreatDoorUAD
import Derived.LaidMore
import Derived.LaidLaws
import Derived.MakeChecks
import Derived.Lib.LaidTab
import Derived.Stop.Joined
import Derived.Stop.LaidErr
import Derived.Lay
import Derived.Test.YtjihfabhgcfjnaaGreatDoorTie
import Derived.Test.YtjihfabhgcfjnaaGreatDoorCards
import Derived.Test.YtjihfabhgcfjnaaGreatDoorUAX
/- The reference's Identity; the temperaments of no rows; temperament.Just and Trivial. Printed by gen/tend.py. -/
namespace Go.Proofs.YtjihfabhgcfjnaaGreatDoor
set_option linter.unusedVariables false
set_option linter.unusedSimpArgs false
open Go.RowKit

def idM (n i : Nat) : List (List Int) := (List.range i).map fun k => (List.replicate n (0 : Int)).set k 1
theorem idM_len (n i : Nat) : (idM n i).length = i := by simp [idM]
/-- The temperaments of no rows. -/
theorem ends_right {n : Nat} (h1 : 1 ≤ n) (h6 : n ≤ 6) : ∃ F, FromD n F [] [] (idM n n) [] ∧ ∀ P : List Int, primesE P = 0 → P.length = n → RightT n F P [] (idM n n) ∧ RightT n F P (idM n n) [] := by
  have key : ∀ k : Nat, 1 ≤ k → k ≤ 6 → (latE k [] = 0 ∧ formO k 30 k [] = some [] ∧ chkE k [] = 0 ∧ chkE k (idM k k) = 0 ∧ kerS 30 k [] = some (idM k k) ∧ kerS 30 k (idM k k) = some []) := by
    intro k a b
    have hc : k = 1 ∨ k = 2 ∨ k = 3 ∨ k = 4 ∨ k = 5 ∨ k = 6 := by omega
    rcases hc with h | h | h | h | h | h <;> (subst h; decide +kernel)
  obtain ⟨k1, k2, k3, k4, k5, k6⟩ := key n h1 h6
  have hb : ∀ x ∈ idM n n, RowLe 1000000000 x ∧ x.length = n := fun x hx => by
    unfold idM at hx
    obtain ⟨i, -, rfl⟩ := List.mem_map.1 hx
    refine ⟨fun y hy => ?_, by simp⟩
    rcases List.mem_or_eq_of_mem_set hy with h | h
    · rw [(List.mem_replicate.1 h).2]; decide
    · rw [h]; decide
  have h0 : ∀ x ∈ ([] : List (List Int)), RowLe 1000000000 x ∧ x.length = n := fun x hx => by cases hx
  have hl := idM_len n n
  exact ⟨30, ⟨h1, h6, k1, k2, ⟨by simp, h0⟩, k3, k5, k6, by omega, by simp, hb, h0⟩, fun P hP hPl => ⟨⟨h1, h6, hP, hPl, k3, k5, k6, by simp, by omega, h0, hb⟩, ⟨h1, h6, hP, hPl, k4, k6, k5, by omega, by simp, hb, h0⟩⟩⟩

set_option maxRecDepth 100000 in
set_option maxHeartbeats 4000000 in
theorem just_any (n F : Nat) (P : List Int) (vp : Value) (w : World) (hP : Ints w vp P) (hE : primesE P = 0) (hPl : P.length = n) (hD : FromD n F [] [] (idM n n) []) (hlib : LibT w) (hp : 2 < w.heap.size) :
    Calls Tryz.prog 16 #[vp] w fun e w' => ∃ u, e = .returned (.tuple #[u, .int .i64 0]) ∧ TempV w' u P [] (idM n n) ∧ Ext w w' := by
  have HFR := Lib.hid (fun W (hW : Ext w W) => fromCommas_any n F P [] [] (idM n n) [] vp (.slice none 0 0) W (hP.ext hW) (rows_nil W) hE hPl hD (hlib.ext hW) (Nat.lt_of_lt_of_le hp hW.size))
  obtain ⟨ap, cp, rfl, -⟩ := hP.open
  rw [hPl] at HFR ⊢
  clear hP hE hD hlib hp hPl
  go_enter Tryz.func16, Tryz.ntmps16
  obtain ⟨W1, hW1, hE1, hs1, hb1⟩ := tp_new w (.slice none 0 0) (.slice none 0 0) (.slice none 0 0)
  have HB1 := Lib.hid hb1; have HE1 := Lib.hid hE1; have HS1 := Lib.hid hs1
  clear hE1 hs1 hb1
  go_wp2_with fail
  refine (HFR.out _ HE1.out).mono ?_
  rintro e w2 ⟨u, rfl, hu, hE2⟩
  have HB2 := Lib.hid (block_ext HB1.out hE2)
  have HE2 := Lib.hid (HE1.out.trans hE2)
  have HU := Lib.hid hu
  obtain ⟨p, c, m, rfl, hvp, hvc, hvm⟩ := hu.now
  obtain ⟨a1, c1, rfl, -⟩ := hvp.open
  obtain ⟨a2, c2, rfl, -⟩ := inCell.open hvc
  obtain ⟨a3, c3, rfl, -⟩ := inCell.open hvm
  clear hE2 hu HFR HB1 HE1 hW1 hvp hvc hvm
  obtain ⟨b0, b1, b2, bf⟩ := tp_block HB2.out
  have f0 := bf 0; have f1 := bf 1; have f2 := bf 2
  clear bf
  generalize hk1 : P.length = k1 at HU ⊢
  generalize hk2 : ([] : List (List Int)).length = k2 at HU ⊢
  generalize hk3 : ((idM n n) : List (List Int)).length = k3 at HU ⊢
  clear hk1 hk2 hk3
  go_wp2_with fail
  have hkA := tp_store HB2.out (.slice a1 k1 c1) (.slice a2 k2 c2) (.slice a3 k3 c3)
  refine bodyPost_ret (results_rowtmp (by rfl) _ _ w.heap.size 58 #[.slice a1 k1 c1, .slice a2 k2 c2, .slice a3 k3 c3] (0, 0) _ (by rfl) hkA Tryz.underlying58 (by rfl) (by kernel_rfl)) (by rfl) ?_
  have hG : ∀ (x y z : Value), GrownS (· < W1.heap.size) w2 (((w2.setCell ⟨w.heap.size, 0, none⟩ x).setCell ⟨w.heap.size, 1, none⟩ y).setCell ⟨w.heap.size, 2, none⟩ z) := fun x y z => by
    have hlt : w.heap.size < W1.heap.size := by have := HS1.out; omega
    exact (((GrownS.refl _ w2).setCell (g := w.heap.size) hlt 0 x).setCell (g := w.heap.size) hlt 1 y).setCell (g := w.heap.size) hlt 2 z
  exact ⟨_, rfl, HU.out _ (hG _ _ _), ext_tp HE2.out (Nat.le_refl _) _ _ _⟩

end Go.Proofs.YtjihfabhgcfjnaaGreatDoor
/- What a statement's row asks of the end of a call, out of: it returned true, and all that lay in memory lies unturned. -/
namespace Go.Proofs.YtjihfabhgcfjnaaGreatDoor
set_option linter.unusedVariables false
set_option linter.unusedSimpArgs false
open Go.ChangeShapes Go.WideShapes Go.ChangeAt Go.RowKit

theorem lawOwn : ownKnob Tryz.prog.godebug = none := by kernel_rfl
theorem lawLaid : laidOutB Tryz.prog = true := by kernel_rfl

theorem trodAll_below {H : Type} {enc : TypeId × Value → H} {P : Program} (hl : laidOutB P = true) {W W' : World} (hb : Below W.heap.size W W') :
    ∀ (ts : List TypeId) (vs : List Value) (ds : List (DataW H)) (ps : List MemPlace), (∀ t ∈ ts, P.readableRec t = true ∧ t < P.types.size) →
      DataW.TrodAll enc P W 0 (fun _ => true) true ts vs ds ps → (∀ x ∈ ps, x.block < W.heap.size) → DataW.TrodAll enc P W' 0 (fun b => decide (b < W.heap.size)) true ts vs ds ps
  | [], [], [], ps, _, h, _ => h
  | t :: ts, v :: vs, d :: ds, ps, hr, h, hlt => by
    obtain ⟨p, p', h1, h2, rfl⟩ := h
    exact ⟨p, p', Below.trod hl (hr t (by simp)).1 (hr t (by simp)).2 h1 hb (fun x hx => hlt x (by simp [hx])), trodAll_below hl hb ts vs ds p' (fun t ht => hr t (by simp [ht])) h2 (fun x hx => hlt x (by simp [hx])), rfl⟩
  | [], v :: vs, _, _, _, h, _ => absurd h (by simp [DataW.TrodAll])
  | [], [], d :: ds, _, _, h, _ => absurd h (by simp [DataW.TrodAll])
  | t :: ts, [], _, _, _, h, _ => absurd h (by simp [DataW.TrodAll])
  | t :: ts, v :: vs, [], _, _, h, _ => absurd h (by simp [DataW.TrodAll])

/-- The row's end for a statement that answers true and leaves what it was given alone. -/
theorem lawPost {H : Type} {enc : TypeId × Value → H} {f : Func} {s : ChangeSpec} {W W' : World} {args : Array Value} {ds : List (DataW H)} {before : List MemPlace}
    (hW : DataW.Whole enc Tryz.prog f.params.toList s.vars false W args.toList ds [] before) (hA : DataW.TrodAll enc Tryz.prog W 0 (fun _ => true) true f.params.toList args.toList ds before)
    (hv : s.vars = []) (hres : f.resultTypes = #[4]) (hfn : s.fn H (ds ++ []) = { results := [.lit (.bool true)], args := ds }) (hr : ∀ t ∈ f.params.toList, Tryz.prog.readableRec t = true ∧ t < Tryz.prog.types.size) (hb : Below W.heap.size W W') :
    ∃ v, Ending.returned (.bool true) = Ending.returned v ∧ ChangeSpec.post enc Tryz.prog f s false true false false W args v W' := by
  refine ⟨_, rfl, ds, [], before, [], before, [], hW, ?_, ?_, ?_, ?_, fun h => by cases h⟩
  · rw [hfn, hres]
    exact trodAll_cons_mk (shut_bool Tryz.underlying4 _) trodAll_mk0
  · rw [hfn]
    exact trodAll_below lawLaid hb _ _ _ _ hr hA (fun x hx => by simpa using hW.lt x hx)
  · rw [hfn, hv]; rfl
  · exact hb.frame _
end Go.Proofs.YtjihfabhgcfjnaaGreatDoor
/- Arguments that came in: slices of integers. -/
namespace Go.Proofs.YtjihfabhgcfjnaaGreatDoor
set_option linter.unusedVariables false
set_option linter.unusedSimpArgs false
open Go.ChangeShapes Go.WideShapes Go.ChangeAt Go.RowKit

theorem ints_nil (W : World) : Ints W (.slice none 0 0) [] :=
  ⟨[], rfl, by simp, ⟨none, 0, rfl, Nat.le_refl _, Nat.zero_le _, fun _ => rfl, fun h => absurd rfl h⟩, by simp⟩

end Go.Proofs.YtjihfabhgcfjnaaGreatDoor
/- A matrix that came in (cuts that hold package row). -/
namespace Go.Proofs.YtjihfabhgcfjnaaGreatDoor
set_option linter.unusedVariables false
set_option linter.unusedSimpArgs false
open Go.ChangeShapes Go.WideShapes Go.ChangeAt Go.RowKit

theorem cellsRow : Tryz.prog.cellsOf 37 = 1 := by kernel_rfl

/-- A cell that came in and holds a slice of ints. -/
theorem ints_cell {H : Type} {enc : TypeId × Value → H} {W : World} {base : Nat} {spare : Nat → Bool} {held : Bool} {c : Value} {x : DataW H × List MemPlace} {fuel : Nat} {t e : TypeId} {P : Program}
    (ht : P.underlying t = some (.slice e)) (he : P.underlying e = some (.int .i64)) (hc : P.cellsOf e = 1) (hsp : ∀ b, spare b = true)
    (hf : DataW.trod enc P W base spare held fuel t [c] = some x) : ∃ xs, Ints W c xs := by
  rcases open_ints ht he hc hf with ⟨hcs, hx⟩ | ⟨a, len0, cap0, zs, hcs, _, hl, hm, hz, hx, hcell, hwz⟩
  · obtain rfl : c = .slice none 0 0 := by simpa using hcs
    exact ⟨[], ints_nil W⟩
  · obtain rfl : c = .slice (some a) len0 cap0 := by simpa using hcs
    rw [hsp, if_pos rfl] at hz
    have hlen : (zs.take len0).length = len0 := by rw [List.length_take]; omega
    refine ⟨zs.take len0, (zs.take len0).map fun x => [Value.int .i64 x], by simp, (by intro u hu; obtain ⟨x, _, rfl⟩ := List.mem_map.1 hu; rfl), ?_, ?_⟩
    · rw [flatten_one]
      refine ⟨some a, cap0, by rw [hlen], by rw [hlen]; exact hl, hm, (fun h => by cases h), fun hne => ?_⟩
      have hpos : 0 < len0 := by
        rcases Nat.eq_zero_or_pos len0 with h0 | h0
        · subst h0; simp at hne
        · exact h0
      have h0 := hcell 0 (by omega)
      have hs : a.spot = none := by
        cases hsp2 : a.spot with
        | none => rfl
        | some s =>
          have : W.cell? a = some (.int .i64 (zs.getD 0 0)) := by simpa [Addr.add] using h0
          unfold World.cell? at this
          rw [hsp2] at this
          split at this <;> simp at this
      refine ⟨a.block, a.off, by rw [← hs], lt_of_cell (by simpa [Addr.add] using h0), fun j u hu => ?_⟩
      rw [List.getElem?_map] at hu
      cases hj : (zs.take len0)[j]? with
      | none => simp [hj] at hu
      | some x =>
        simp [hj] at hu
        subst hu
        have hjl : j < len0 := by have := (List.getElem?_eq_some_iff.1 hj).1; omega
        have hc2 := hcell j (by omega)
        rw [List.getElem?_take, if_pos hjl] at hj
        rw [List.getD_eq_getElem?_getD, hj] at hc2
        unfold Addr.add at hc2
        by_cases hj0 : j = 0
        · subst hj0
          rw [if_pos rfl] at hc2
          have ha : a = ⟨a.block, a.off + 0, none⟩ := by cases a; simp only at hs; subst hs; rfl
          rw [ha] at hc2; exact hc2
        · rw [if_neg hj0] at hc2; exact hc2
    · intro j u x hu hx
      simp only [List.getElem?_map, hx, Option.map_some, Option.some.injEq] at hu
      refine ⟨hu.symm, ?_⟩
      have := hwz x (List.mem_of_mem_take (List.mem_of_getElem? hx))
      exact bounds_i64 this

end Go.Proofs.YtjihfabhgcfjnaaGreatDoor
/- What the laid tables give a walk of chapter 09, and the witness's world. -/
namespace Go.Proofs.YtjihfabhgcfjnaaGreatDoor
set_option linter.unusedVariables false
set_option linter.unusedSimpArgs false
open Go.ChangeShapes Go.WideShapes Go.ChangeAt Go.RowKit

/-- What the rows list as laid. -/
abbrev laid9 : List (String × DataW Unit) := [("math/bits.deBruijn32tab", Rows.laid_math_bits_deBruijn32tab), ("math/bits.deBruijn64tab", Rows.laid_math_bits_deBruijn64tab), ("internal/strconv.uint64pow10", Rows.laid_internal_strconv_uint64pow10), ("strconv.ErrRange", Rows.laid_strconv_ErrRange), ("strconv.ErrSyntax", Rows.laid_strconv_ErrSyntax)]
theorem cellsInt : Tryz.prog.cellsOf 3 = 1 := by kernel_rfl
theorem pow10_of_laid {W : World} (h : laidMetH Tryz.prog laid9 W) : Pow10 W := by
  rw [MakeChecks.laidMetH_plain _ _ _ (by kernel_rfl)] at h
  have h2 := laidMet.tail (laidMet.tail h)
  exact Lib.tabIs_of_head (g := 2) (t := 270) (e := 221) (n := 20) (by kernel_rfl) (by kernel_rfl) (by kernel_rfl) (by kernel_rfl) (by kernel_rfl) (by kernel_rfl) h2
theorem returnsInHanded_shape {H : Type} {enc : TypeId × Value → H} {a : Assume} {C : Checked} {os : Os} {f : FuncId} {fn : Func} {s : ChangeSpec} {conds : List PathCond} {apart fresh handsOn again : Bool} {X : World → Array Value → Prop}
    (hX : ∀ (w w' : World) (args : Array Value), w.heap = w'.heap → X w args → X w' args)
    (own : ownKnob C.prog.godebug = none) (started : os.Started) (noInit : C.prog.inits.idxOf? f = none) (hfn : C.prog.funcs[f]? = some fn)
    (witness : ∃ (w : World) (tape : Tape) (i : Input), w.os = os ∧ (w.forCall tape i).Shaped C.prog ∧ i.vars = [] ∧ Input.okWide C.prog (w.forCall tape i) .any w.heap.size f i ∧
      ((s.pre enc C.prog fn conds apart (w.forCall tape i).memory i.args ∧ X (w.forCall tape i).memory i.args) ∧ sizedMet enc C.prog fn (OpenSpec.ofChange s) apart (w.forCall tape i).memory i.args) ∧ a.holds C.prog (lone (Frame.enter C.prog f i.args .normal) [] (w.forCall tape i)))
    (contract : ∀ (W : World) (base : Nat) (args : Array Value) (ds gs : List (DataW H)) (before : List MemPlace),
      (∀ (j : Nat) t v, fn.params[j]? = some t → args[j]? = some v → Value.okWide C.prog W .any base t v) →
      DataW.Whole enc C.prog fn.params.toList s.vars apart W args.toList ds gs before →
      conds.all (PathCond.test C.prog ⟨fn.params.toList, ds, s.plain.varTypes C.prog, gs⟩) = true →
      (DataW.weightsEach C.prog (fn.params.toList ++ s.plain.varTypes C.prog) (ds ++ gs)).all (· ≤ reachBytes) = true → X W args →
      W.ShapedOpen C.prog →
      a.holds C.prog (lone (Frame.enter C.prog f args .normal) [] W) →
      Calls C.prog f args W fun e W' => ∃ v, e = .returned v ∧ s.post enc C.prog fn apart fresh handsOn again W args v W') :
    ReturnsInHanded a C os f .any (fun w args => (s.pre enc C.prog fn conds apart w args ∧ X w args) ∧ sizedMet enc C.prog fn (OpenSpec.ofChange s) apart w args) (s.post enc C.prog fn apart fresh handsOn again) := by
  refine returnsInHanded_of_calls own started noInit witness ?_
  intro w tape i _ hsh _ hok hpre hholds
  obtain ⟨_, _, _, fn', hfn', _, _, _, _, hval⟩ := hok
  have e : fn' = fn := Option.some.inj (hfn'.symm.trans hfn)
  subst e
  obtain ⟨⟨⟨ds, gs, before, hw, hc⟩, hx⟩, hz⟩ := hpre
  have hw' := DataW.Whole.of_heap (w' := w.forCall tape i) (by rfl) hw
  refine (contract (w.forCall tape i) w.heap.size i.args ds gs before hval hw' hc (hz.weights hw) (hX _ _ _ (by rfl) hx) hsh hholds).mono fun e W' ⟨v, he, hp⟩ => ?_
  subst he
  exact ChangeSpec.post_blind hp

theorem door_met7 (os : Os) (args : Array Value) : laidMetH Tryz.prog laid9 ((World.laidAll Tryz.prog os laid9).forCall (fun _ _ => 0) ⟨#[], args, []⟩).memory := by
  rw [MakeChecks.laidMetH_plain _ _ _ (by kernel_rfl)]; exact laidMet_laidAll _ (by kernel_rfl) (by kernel_rfl)
end Go.Proofs.YtjihfabhgcfjnaaGreatDoor
/- What the laid variables give a walk of chapter 09 that reads numbers of any size: LibT. -/
namespace Go.Proofs.YtjihfabhgcfjnaaGreatDoor
set_option linter.unusedVariables false
set_option linter.unusedSimpArgs false
open Go.ChangeShapes Go.WideShapes Go.ChangeAt Go.RowKit

theorem errRow (u : TypeId) (h : Tryz.prog.typeName? 3 u = some "*errors.errorString") : u = 275 :=
  typeName_ptr_named (nm := "errors.errorString") (by rw [show "*" ++ "errors.errorString" = "*errors.errorString" by decide]; kernel_rfl) (by kernel_rfl) (by decide) u (by rw [show "*" ++ "errors.errorString" = "*errors.errorString" by decide]; exact h)
theorem libT_of {W : World} (h : laidMetH Tryz.prog laid9 W) : LibT W := by
  have hp := pow10_of_laid h
  rw [MakeChecks.laidMetH_plain _ _ _ (by kernel_rfl)] at h
  have h2 := laidMet.tail (laidMet.tail h)
  refine ⟨hp, ?_⟩
  have h4 := laidMet.tail h2
  obtain ⟨a, s, hv, -⟩ := laid_sentinel (g := 1) (ti := 218) (tp := 275) (te := 277) (ts := 9) (ms := _) (f := _) h4 (by kernel_rfl) (by kernel_rfl) Tryz.underlying218 errRow Tryz.underlying275 Tryz.underlying277 rfl rfl Tryz.underlying9 (by kernel_rfl) (by kernel_rfl)
  have hc := World.var?_cell (show Tryz.prog.globalNamed "strconv.ErrRange" = some 1 by kernel_rfl) hv 0
  exact ⟨_, _, by simpa using hc⟩
theorem pow_lt {W : World} (h : Pow10 W) : 2 < W.heap.size := by
  unfold Pow10 Lib.TabIs at h
  have hg : Tryz.prog.globalNamed "internal/strconv.uint64pow10" = some 2 := by kernel_rfl
  by_cases hlt : 2 < W.heap.size
  · exact hlt
  · simp [World.var?, hg, Array.getElem?_eq_none (show W.heap.size ≤ 2 by omega)] at h
end Go.Proofs.YtjihfabhgcfjnaaGreatDoor
