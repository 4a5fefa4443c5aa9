/- What a statement's row asks of the end of a call, out of: it returned true, and all that lay in memory lies unturned. -/
import Derived.Test.YtplcikgmefcfbaaRows
import Derived.WalkKit
import Derived.ProofKit
import Derived.OpenShut
namespace Go.Proofs.Ytplcikgmefcfbaa
set_option linter.unusedVariables false
set_option linter.unusedSimpArgs false
open Go.ChangeShapes Go.WideShapes Go.ChangeAt Go.RowKit

theorem lawOwn : ownKnob Try.prog.godebug = none := by kernel_rfl
theorem lawLaid : laidOutB Try.prog = true := by kernel_rfl

theorem trodAll_below {H : Type} {enc : TypeId × Value → H} {P : Program} (hl : laidOutB P = true) {W W' : World} (hb : Below W.heap.size W W') :
    ∀ (ts : List TypeId) (vs : List Value) (ds : List (DataW H)) (ps : List MemPlace), (∀ t ∈ ts, P.readableRec t = true ∧ t < P.types.size) →
      DataW.TrodAll enc P W 0 (fun _ => true) true ts vs ds ps → (∀ x ∈ ps, x.block < W.heap.size) → DataW.TrodAll enc P W' 0 (fun b => decide (b < W.heap.size)) true ts vs ds ps
  | [], [], [], ps, _, h, _ => h
  | t :: ts, v :: vs, d :: ds, ps, hr, h, hlt => by
    obtain ⟨p, p', h1, h2, rfl⟩ := h
    exact ⟨p, p', Below.trod hl (hr t (by simp)).1 (hr t (by simp)).2 h1 hb (fun x hx => hlt x (by simp [hx])), trodAll_below hl hb ts vs ds p' (fun t ht => hr t (by simp [ht])) h2 (fun x hx => hlt x (by simp [hx])), rfl⟩
  | [], v :: vs, _, _, _, h, _ => absurd h (by simp [DataW.TrodAll])
  | [], [], d :: ds, _, _, h, _ => absurd h (by simp [DataW.TrodAll])
  | t :: ts, [], _, _, _, h, _ => absurd h (by simp [DataW.TrodAll])
  | t :: ts, v :: vs, [], _, _, h, _ => absurd h (by simp [DataW.TrodAll])

/-- The row's end for a statement that answers true and leaves what it was given alone. -/
theorem lawPost {H : Type} {enc : TypeId × Value → H} {f : Func} {s : ChangeSpec} {W W' : World} {args : Array Value} {ds : List (DataW H)} {before : List MemPlace}
    (hW : DataW.Whole enc Try.prog f.params.toList s.vars false W args.toList ds [] before) (hA : DataW.TrodAll enc Try.prog W 0 (fun _ => true) true f.params.toList args.toList ds before)
    (hv : s.vars = []) (hres : f.resultTypes = #[4]) (hfn : s.fn H (ds ++ []) = { results := [.lit (.bool true)], args := ds }) (hr : ∀ t ∈ f.params.toList, Try.prog.readableRec t = true ∧ t < Try.prog.types.size) (hb : Below W.heap.size W W') :
    ∃ v, Ending.returned (.bool true) = Ending.returned v ∧ ChangeSpec.post enc Try.prog f s false true false false W args v W' := by
  refine ⟨_, rfl, ds, [], before, [], before, [], hW, ?_, ?_, ?_, ?_, fun h => by cases h⟩
  · rw [hfn, hres]
    exact trodAll_cons_mk (shut_bool Try.underlying4 _) trodAll_mk0
  · rw [hfn]
    exact trodAll_below lawLaid hb _ _ _ _ hr hA (fun x hx => by simpa using hW.lt x hx)
  · rw [hfn, hv]; rfl
  · exact hb.frame _
end Go.Proofs.Ytplcikgmefcfbaa
