/- Merged: Behind. -/
import Derived.Test.YtielnneclcekbaaGreatDoorQAZ
/- The rows of a matrix that begin with zeros, cut: the loop of behind (its rows, before they are brought into normal form). -/
namespace Go.Proofs.YtielnneclcekbaaGreatDoor
set_option linter.unusedVariables false
set_option linter.unusedSimpArgs false
open Go.RowKit

theorem MatB.take {w : World} {g0 : Nat} {tags : List (Nat × Nat × Nat)} {m : List (List Int)} (h : MatB w g0 tags m) (d : Nat) : MatB w g0 (tags.take d) (m.take d) := by
  refine ⟨by rw [List.length_take, List.length_take, h.len], h.lt, h.free, fun i t r ht hr => ?_, ?_⟩
  · have hi : i < d := by
      have := (List.getElem?_eq_some_iff.1 ht).1
      rw [List.length_take] at this; omega
    rw [List.getElem?_take_of_lt hi] at ht hr
    exact h.row i t r ht hr
  · have hn := List.nodup_cons.1 h.nodup
    rw [List.nodup_cons]
    have hs : ((tags.take d).map (·.1)).Sublist (tags.map (·.1)) := (List.take_sublist d tags).map _
    exact ⟨fun hm => hn.1 (hs.subset hm), hn.2.sublist hs⟩
/-- A row without its first cells. -/
theorem RowB.drop {w : World} {g o : Nat} {xs : List Int} (h : RowB w g o xs) (k : Nat) : RowB w g (o + k) (xs.drop k) :=
  ⟨h.lt, fun j x hx => by
    rw [List.getElem?_drop] at hx
    rw [Nat.add_assoc]; exact h.cell (k + j) x hx, h.free⟩
def cutT (k : Nat) (t : Nat × Nat × Nat) : Nat × Nat × Nat := (t.1, t.2.1 + k, t.2.2 - k)
theorem behindL_snoc (k : Nat) (m : List (List Int)) (r : List Int) : behindL k (m ++ [r]) = behindL k m ++ (if (k : Int) ≤ leadL r then [r.drop k] else []) := by
  unfold behindL
  rw [List.filter_append, List.map_append]
  congr 1
  by_cases h : (k : Int) ≤ leadL r <;> simp [h]
end Go.Proofs.YtielnneclcekbaaGreatDoor
