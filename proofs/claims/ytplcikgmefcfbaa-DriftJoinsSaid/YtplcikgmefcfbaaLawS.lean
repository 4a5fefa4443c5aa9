/- Links written out, safe from what is appended elsewhere. -/
import Derived.Test.YtplcikgmefcfbaaDriftB
import Derived.Test.YtplcikgmefcfbaaBuildS
namespace Go.Proofs.Ytplcikgmefcfbaa
set_option linter.unusedVariables false
set_option linter.unusedSimpArgs false
open Go.RowKit
theorem SafeS.linksLit {w : World} {S : Nat → Prop} {n : Nat} (hS : ∀ b, S b → b < w.heap.size) (hn : n = w.heap.size) (xs : List (Int × Int)) (T : TypeId) (m : Nat) (hm : m = xs.length) (hl : xs.length ≤ maxLen) (hb : ∀ x ∈ xs, (-9223372036854775808 ≤ x.1 ∧ x.1 ≤ 9223372036854775807) ∧ (-9223372036854775808 ≤ x.2 ∧ x.2 ≤ 9223372036854775807))
    (C : Array Value) (hC : C = (xs.map fun x => [Value.int .i64 x.1, Value.int .i64 x.2]).flatten.toArray) : SafeS (w.alloc (.cells C T)) S fun w' => Links w' (.slice (some ⟨n, 0, none⟩) m m) xs := by
  subst hn; subst hm; subst hC
  refine SafeS.listAt (xs.map fun x => [Value.int .i64 x.1, Value.int .i64 x.2]) (by simp) (by intro u hu; obtain ⟨x, _, rfl⟩ := List.mem_map.1 hu; rfl) ?_ ?_
  · exact SafeS.seq (S := S) (SeqAt.lit w _ xs.length T hl) (fun hb => by have := hS _ hb; omega)
  · intro j u x hu hx
    simp only [List.getElem?_map, hx, Option.map_some, Option.some.injEq] at hu
    exact fun _ _ => ⟨hu.symm, hb x (List.mem_of_getElem? hx)⟩
end Go.Proofs.Ytplcikgmefcfbaa
