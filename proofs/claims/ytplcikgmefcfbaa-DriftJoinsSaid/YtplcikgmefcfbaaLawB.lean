/- Contracts of example and known. -/
import Derived.Test.YtplcikgmefcfbaaLawA
namespace Go.Proofs.Ytplcikgmefcfbaa
set_option linter.unusedVariables false
set_option linter.unusedSimpArgs false
open Go.RowKit

def exWk : Wk := { primes := [2, 3, 5], chords := [[[0, 0, 0], [-1, 1, 0]], [[0, 0, 0], [-1, 1, 0]], [[0, 0, 0], [-1, 1, 0]]], links := [[(1, 0), (0, 0)], [(1, 0)]] }

set_option maxRecDepth 100000 in
set_option maxHeartbeats 1000000 in
theorem example_any (w : World) : Calls Try.prog 29 #[] w fun e w' => ∃ v, e = .returned v ∧ Ext w w' ∧ WalkAt w' v exWk := by
  go_enter Try.func29, Try.ntmps29
  go_wp2
  have f1 : Ints _ (.slice (some ⟨w.heap.size + 1, 0, none⟩) 3 3) [0, 0, 0] := Ints.litAt (w := w.alloc (.cells #[.slice (some ⟨w.heap.size + 1 + 1 + 1 + 1, 0, none⟩) 3 3, .slice (some ⟨w.heap.size + 1 + 1 + 1 + 1 + 1, 0, none⟩) 3 3, .slice (some ⟨w.heap.size + 1 + 1 + 1 + 1 + 1 + 1 + 1 + 1, 0, none⟩) 2 2] 30)) (by simp) [0, 0, 0] 3 3 rfl (by simp [maxLen]) (by simp) #[.int .i64 0, .int .i64 0, .int .i64 0] rfl
  generalize hW1 : w.alloc (.cells #[.slice (some ⟨w.heap.size + 1 + 1 + 1 + 1, 0, none⟩) 3 3, .slice (some ⟨w.heap.size + 1 + 1 + 1 + 1 + 1, 0, none⟩) 3 3, .slice (some ⟨w.heap.size + 1 + 1 + 1 + 1 + 1 + 1 + 1 + 1, 0, none⟩) 2 2] 30) = W1 at *
  have s1 : W1.heap.size = w.heap.size + 1 := by rw [← hW1]; simp
  have x1 : Ext w W1 := by rw [← hW1]; exact Ext.alloc _ _
  have c0 : W1.cell? ⟨w.heap.size, 0, none⟩ = some (.slice (some ⟨w.heap.size + 1 + 1 + 1 + 1, 0, none⟩) 3 3) := by rw [← hW1]; simp
  have c1 : W1.cell? ⟨w.heap.size, 1, none⟩ = some (.slice (some ⟨w.heap.size + 1 + 1 + 1 + 1 + 1, 0, none⟩) 3 3) := by rw [← hW1]; simp
  have c2 : W1.cell? ⟨w.heap.size, 2, none⟩ = some (.slice (some ⟨w.heap.size + 1 + 1 + 1 + 1 + 1 + 1 + 1 + 1, 0, none⟩) 2 2) := by rw [← hW1]; simp
  clear hW1
  generalize hW2 : W1.alloc (.cells #[.int .i64 0, .int .i64 0, .int .i64 0] 3) = W2 at *
  have s2 : W2.heap.size = w.heap.size + 1 + 1 := by rw [← hW2]; simp [s1]
  have x2 : Ext W1 W2 := by rw [← hW2]; exact Ext.alloc _ _
  clear hW2
  have f2 : Ints _ (.slice (some ⟨w.heap.size + 1 + 1, 0, none⟩) 3 3) [-1, 1, 0] := Ints.litAt (w := W2) s2.symm [-1, 1, 0] 3 3 rfl (by simp [maxLen]) (by simp) #[.int .i64 (-1), .int .i64 1, .int .i64 0] rfl
  generalize hW3 : W2.alloc (.cells #[.int .i64 (-1), .int .i64 1, .int .i64 0] 3) = W3 at *
  have s3 : W3.heap.size = w.heap.size + 1 + 1 + 1 := by rw [← hW3]; simp [s2]
  have x3 : Ext W2 W3 := by rw [← hW3]; exact Ext.alloc _ _
  clear hW3
  have f3 : Rows2 _ (.slice (some ⟨w.heap.size + 1 + 1 + 1, 0, none⟩) 2 2) [[0, 0, 0], [-1, 1, 0]] := ListAt.litAt (R := Ints) (fun _ _ _ _ he h => ListAt.ext intR.mono h he) (w := W3) s3.symm [.slice (some ⟨w.heap.size + 1, 0, none⟩) 3 3, .slice (some ⟨w.heap.size + 1 + 1, 0, none⟩) 3 3] [[0, 0, 0], [-1, 1, 0]] 25 2 rfl rfl (by simp [maxLen]) _ rfl (by
    intro a u z hu hz
    match a with
    | 0 => simp at hu hz; subst hu; subst hz; exact f1.ext x3
    | 1 => simp at hu hz; subst hu; subst hz; exact f2
    | a + 2 => simp at hu)
  generalize hW4 : W3.alloc (.cells [Value.slice (some ⟨w.heap.size + 1, 0, none⟩) 3 3, .slice (some ⟨w.heap.size + 1 + 1, 0, none⟩) 3 3].toArray 25) = W4 at *
  have s4 : W4.heap.size = w.heap.size + 1 + 1 + 1 + 1 := by rw [← hW4]; simp [s3]
  have x4 : Ext W3 W4 := by rw [← hW4]; exact Ext.alloc _ _
  clear hW4
  have f4 : Ints _ (.slice (some ⟨w.heap.size + 1 + 1 + 1 + 1, 0, none⟩) 3 3) [2, 3, 5] := Ints.litAt (w := W4) s4.symm [2, 3, 5] 3 3 rfl (by simp [maxLen]) (by simp) #[.int .i64 2, .int .i64 3, .int .i64 5] rfl
  generalize hW5 : W4.alloc (.cells #[.int .i64 2, .int .i64 3, .int .i64 5] 3) = W5 at *
  have s5 : W5.heap.size = w.heap.size + 1 + 1 + 1 + 1 + 1 := by rw [← hW5]; simp [s4]
  have x5 : Ext W4 W5 := by rw [← hW5]; exact Ext.alloc _ _
  clear hW5
  have f5 : Chords _ (.slice (some ⟨w.heap.size + 1 + 1 + 1 + 1 + 1, 0, none⟩) 3 3) exWk.chords := ListAt.litAt (R := Rows2) (fun _ _ _ _ he h => Rows2.ext h he) (w := W5) s5.symm [.slice (some ⟨w.heap.size + 1 + 1 + 1, 0, none⟩) 2 2, .slice (some ⟨w.heap.size + 1 + 1 + 1, 0, none⟩) 2 2, .slice (some ⟨w.heap.size + 1 + 1 + 1, 0, none⟩) 2 2] exWk.chords 31 3 rfl rfl (by simp [maxLen, exWk]) _ rfl (by
    intro a u z hu hz
    match a with
    | 0 => simp [exWk] at hu hz; subst hu; subst hz; exact f3.ext x5
    | 1 => simp [exWk] at hu hz; subst hu; subst hz; exact f3.ext x5
    | 2 => simp [exWk] at hu hz; subst hu; subst hz; exact f3.ext x5
    | a + 3 => simp at hu)
  generalize hW6 : W5.alloc (.cells [Value.slice (some ⟨w.heap.size + 1 + 1 + 1, 0, none⟩) 2 2, .slice (some ⟨w.heap.size + 1 + 1 + 1, 0, none⟩) 2 2, .slice (some ⟨w.heap.size + 1 + 1 + 1, 0, none⟩) 2 2].toArray 31) = W6 at *
  have s6 : W6.heap.size = w.heap.size + 1 + 1 + 1 + 1 + 1 + 1 := by rw [← hW6]; simp [s5]
  have x6 : Ext W5 W6 := by rw [← hW6]; exact Ext.alloc _ _
  clear hW6
  have f6 : Links _ (.slice (some ⟨w.heap.size + 1 + 1 + 1 + 1 + 1 + 1, 0, none⟩) 2 2) [(1, 0), (0, 0)] := Links.litAt (w := W6) s6.symm [(1, 0), (0, 0)] 33 2 rfl (by simp [maxLen]) (by simp) #[.int .i64 1, .int .i64 0, .int .i64 0, .int .i64 0] rfl
  generalize hW7 : W6.alloc (.cells #[.int .i64 1, .int .i64 0, .int .i64 0, .int .i64 0] 33) = W7 at *
  have s7 : W7.heap.size = w.heap.size + 1 + 1 + 1 + 1 + 1 + 1 + 1 := by rw [← hW7]; simp [s6]
  have x7 : Ext W6 W7 := by rw [← hW7]; exact Ext.alloc _ _
  clear hW7
  have f7 : Links _ (.slice (some ⟨w.heap.size + 1 + 1 + 1 + 1 + 1 + 1 + 1, 0, none⟩) 1 1) [(1, 0)] := Links.litAt (w := W7) s7.symm [(1, 0)] 33 1 rfl (by simp [maxLen]) (by simp) #[.int .i64 1, .int .i64 0] rfl
  generalize hW8 : W7.alloc (.cells #[.int .i64 1, .int .i64 0] 33) = W8 at *
  have s8 : W8.heap.size = w.heap.size + 1 + 1 + 1 + 1 + 1 + 1 + 1 + 1 := by rw [← hW8]; simp [s7]
  have x8 : Ext W7 W8 := by rw [← hW8]; exact Ext.alloc _ _
  clear hW8
  have f8 : Links2 _ (.slice (some ⟨w.heap.size + 1 + 1 + 1 + 1 + 1 + 1 + 1 + 1, 0, none⟩) 2 2) exWk.links := ListAt.litAt (R := Links) (fun _ _ _ _ he h => Links.ext h he) (w := W8) s8.symm [.slice (some ⟨w.heap.size + 1 + 1 + 1 + 1 + 1 + 1, 0, none⟩) 2 2, .slice (some ⟨w.heap.size + 1 + 1 + 1 + 1 + 1 + 1 + 1, 0, none⟩) 1 1] exWk.links 34 2 rfl rfl (by simp [maxLen, exWk]) _ rfl (by
    intro a u z hu hz
    match a with
    | 0 => simp [exWk] at hu hz; subst hu; subst hz; exact f6.ext x8
    | 1 => simp [exWk] at hu hz; subst hu; subst hz; exact f7
    | a + 2 => simp at hu)
  generalize hW9 : W8.alloc (.cells [Value.slice (some ⟨w.heap.size + 1 + 1 + 1 + 1 + 1 + 1, 0, none⟩) 2 2, .slice (some ⟨w.heap.size + 1 + 1 + 1 + 1 + 1 + 1 + 1, 0, none⟩) 1 1].toArray 34) = W9 at *
  have x9 : Ext W8 W9 := by rw [← hW9]; exact Ext.alloc _ _
  clear hW9
  have x59 : Ext W5 W9 := x6.trans (x7.trans (x8.trans x9))
  have x19 : Ext W1 W9 := x2.trans (x3.trans (x4.trans (x5.trans x59)))
  have d0 := x19.cell c0; have d1 := x19.cell c1; have d2 := x19.cell c2
  clear c0 c1 c2 s1 s2 s3 s4 s5 s6 s7 s8
  refine bodyPost_ret (v := .agg #[.slice (some ⟨w.heap.size + 1 + 1 + 1 + 1, 0, none⟩) 3 3, .slice (some ⟨w.heap.size + 1 + 1 + 1 + 1 + 1, 0, none⟩) 3 3, .slice (some ⟨w.heap.size + 1 + 1 + 1 + 1 + 1 + 1 + 1 + 1, 0, none⟩) 2 2]) ?_ rfl ⟨_, rfl, x1.trans x19, ⟨_, _, _, rfl, f4.ext x59, f5.ext (x7.trans (x8.trans x9)), f8⟩⟩
  simp [results, Try.results29, go_sem, d0, d1, d2]
end Go.Proofs.Ytplcikgmefcfbaa
