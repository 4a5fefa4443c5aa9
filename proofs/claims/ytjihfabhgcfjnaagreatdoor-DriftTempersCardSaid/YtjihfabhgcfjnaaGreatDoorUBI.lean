/- Merged: LawB, LawC, Ref9, Known9, Rows9, RowF, TmpK. -/
import Derived.Test.YtjihfabhgcfjnaaGreatDoorUAL
import Derived.Test.YtjihfabhgcfjnaaGreatDoorUAW
import Derived.Test.YtjihfabhgcfjnaaGreatDoorUBE
import Derived.Test.YtjihfabhgcfjnaaGreatDoorUBG
/- Contracts of example and known. -/
namespace Go.Proofs.YtjihfabhgcfjnaaGreatDoor
set_option linter.unusedVariables false
set_option linter.unusedSimpArgs false
open Go.RowKit

def exWk : Wk := { primes := [2, 3, 5], chords := [[[0, 0, 0], [-1, 1, 0]], [[0, 0, 0], [-1, 1, 0]], [[0, 0, 0], [-1, 1, 0]]], links := [[(1, 0), (0, 0)], [(1, 0)]] }

set_option maxRecDepth 100000 in
set_option maxHeartbeats 1000000 in
theorem example_any (w : World) : Calls Tryz.prog 39 #[] w fun e w' => ∃ v, e = .returned v ∧ Ext w w' ∧ WalkAt w' v exWk := by
  go_enter Tryz.func39, Tryz.ntmps39
  go_wp2
  have f1 : Ints _ (.slice (some ⟨w.heap.size + 1, 0, none⟩) 3 3) [0, 0, 0] := Ints.litAt (w := w.alloc (.cells #[.slice (some ⟨w.heap.size + 1 + 1 + 1 + 1, 0, none⟩) 3 3, .slice (some ⟨w.heap.size + 1 + 1 + 1 + 1 + 1, 0, none⟩) 3 3, .slice (some ⟨w.heap.size + 1 + 1 + 1 + 1 + 1 + 1 + 1 + 1, 0, none⟩) 2 2] 55)) (by simp) [0, 0, 0] 3 3 rfl (by simp [maxLen]) (by simp) #[.int .i64 0, .int .i64 0, .int .i64 0] rfl
  generalize hW1 : w.alloc (.cells #[.slice (some ⟨w.heap.size + 1 + 1 + 1 + 1, 0, none⟩) 3 3, .slice (some ⟨w.heap.size + 1 + 1 + 1 + 1 + 1, 0, none⟩) 3 3, .slice (some ⟨w.heap.size + 1 + 1 + 1 + 1 + 1 + 1 + 1 + 1, 0, none⟩) 2 2] 55) = W1 at *
  have s1 : W1.heap.size = w.heap.size + 1 := by rw [← hW1]; simp
  have x1 : Ext w W1 := by rw [← hW1]; exact Ext.alloc _ _
  have c0 : W1.cell? ⟨w.heap.size, 0, none⟩ = some (.slice (some ⟨w.heap.size + 1 + 1 + 1 + 1, 0, none⟩) 3 3) := by rw [← hW1]; simp
  have c1 : W1.cell? ⟨w.heap.size, 1, none⟩ = some (.slice (some ⟨w.heap.size + 1 + 1 + 1 + 1 + 1, 0, none⟩) 3 3) := by rw [← hW1]; simp
  have c2 : W1.cell? ⟨w.heap.size, 2, none⟩ = some (.slice (some ⟨w.heap.size + 1 + 1 + 1 + 1 + 1 + 1 + 1 + 1, 0, none⟩) 2 2) := by rw [← hW1]; simp
  clear hW1
  generalize hW2 : W1.alloc (.cells #[.int .i64 0, .int .i64 0, .int .i64 0] 3) = W2 at *
  have s2 : W2.heap.size = w.heap.size + 1 + 1 := by rw [← hW2]; simp [s1]
  have x2 : Ext W1 W2 := by rw [← hW2]; exact Ext.alloc _ _
  clear hW2
  have f2 : Ints _ (.slice (some ⟨w.heap.size + 1 + 1, 0, none⟩) 3 3) [-1, 1, 0] := Ints.litAt (w := W2) s2.symm [-1, 1, 0] 3 3 rfl (by simp [maxLen]) (by simp) #[.int .i64 (-1), .int .i64 1, .int .i64 0] rfl
  generalize hW3 : W2.alloc (.cells #[.int .i64 (-1), .int .i64 1, .int .i64 0] 3) = W3 at *
  have s3 : W3.heap.size = w.heap.size + 1 + 1 + 1 := by rw [← hW3]; simp [s2]
  have x3 : Ext W2 W3 := by rw [← hW3]; exact Ext.alloc _ _
  clear hW3
  have f3 : Rows2 _ (.slice (some ⟨w.heap.size + 1 + 1 + 1, 0, none⟩) 2 2) [[0, 0, 0], [-1, 1, 0]] := ListAt.litAt (R := Ints) (fun _ _ _ _ he h => ListAt.ext intR.mono h he) (w := W3) s3.symm [.slice (some ⟨w.heap.size + 1, 0, none⟩) 3 3, .slice (some ⟨w.heap.size + 1 + 1, 0, none⟩) 3 3] [[0, 0, 0], [-1, 1, 0]] 37 2 rfl rfl (by simp [maxLen]) _ rfl (by
    intro a u z hu hz
    match a with
    | 0 => simp at hu hz; subst hu; subst hz; exact f1.ext x3
    | 1 => simp at hu hz; subst hu; subst hz; exact f2
    | a + 2 => simp at hu)
  generalize hW4 : W3.alloc (.cells [Value.slice (some ⟨w.heap.size + 1, 0, none⟩) 3 3, .slice (some ⟨w.heap.size + 1 + 1, 0, none⟩) 3 3].toArray 37) = W4 at *
  have s4 : W4.heap.size = w.heap.size + 1 + 1 + 1 + 1 := by rw [← hW4]; simp [s3]
  have x4 : Ext W3 W4 := by rw [← hW4]; exact Ext.alloc _ _
  clear hW4
  have f4 : Ints _ (.slice (some ⟨w.heap.size + 1 + 1 + 1 + 1, 0, none⟩) 3 3) [2, 3, 5] := Ints.litAt (w := W4) s4.symm [2, 3, 5] 3 3 rfl (by simp [maxLen]) (by simp) #[.int .i64 2, .int .i64 3, .int .i64 5] rfl
  generalize hW5 : W4.alloc (.cells #[.int .i64 2, .int .i64 3, .int .i64 5] 3) = W5 at *
  have s5 : W5.heap.size = w.heap.size + 1 + 1 + 1 + 1 + 1 := by rw [← hW5]; simp [s4]
  have x5 : Ext W4 W5 := by rw [← hW5]; exact Ext.alloc _ _
  clear hW5
  have f5 : Chords _ (.slice (some ⟨w.heap.size + 1 + 1 + 1 + 1 + 1, 0, none⟩) 3 3) exWk.chords := ListAt.litAt (R := Rows2) (fun _ _ _ _ he h => Rows2.ext h he) (w := W5) s5.symm [.slice (some ⟨w.heap.size + 1 + 1 + 1, 0, none⟩) 2 2, .slice (some ⟨w.heap.size + 1 + 1 + 1, 0, none⟩) 2 2, .slice (some ⟨w.heap.size + 1 + 1 + 1, 0, none⟩) 2 2] exWk.chords 28 3 rfl rfl (by simp [maxLen, exWk]) _ rfl (by
    intro a u z hu hz
    match a with
    | 0 => simp [exWk] at hu hz; subst hu; subst hz; exact f3.ext x5
    | 1 => simp [exWk] at hu hz; subst hu; subst hz; exact f3.ext x5
    | 2 => simp [exWk] at hu hz; subst hu; subst hz; exact f3.ext x5
    | a + 3 => simp at hu)
  generalize hW6 : W5.alloc (.cells [Value.slice (some ⟨w.heap.size + 1 + 1 + 1, 0, none⟩) 2 2, .slice (some ⟨w.heap.size + 1 + 1 + 1, 0, none⟩) 2 2, .slice (some ⟨w.heap.size + 1 + 1 + 1, 0, none⟩) 2 2].toArray 28) = W6 at *
  have s6 : W6.heap.size = w.heap.size + 1 + 1 + 1 + 1 + 1 + 1 := by rw [← hW6]; simp [s5]
  have x6 : Ext W5 W6 := by rw [← hW6]; exact Ext.alloc _ _
  clear hW6
  have f6 : Links _ (.slice (some ⟨w.heap.size + 1 + 1 + 1 + 1 + 1 + 1, 0, none⟩) 2 2) [(1, 0), (0, 0)] := Links.litAt (w := W6) s6.symm [(1, 0), (0, 0)] 114 2 rfl (by simp [maxLen]) (by simp) #[.int .i64 1, .int .i64 0, .int .i64 0, .int .i64 0] rfl
  generalize hW7 : W6.alloc (.cells #[.int .i64 1, .int .i64 0, .int .i64 0, .int .i64 0] 114) = W7 at *
  have s7 : W7.heap.size = w.heap.size + 1 + 1 + 1 + 1 + 1 + 1 + 1 := by rw [← hW7]; simp [s6]
  have x7 : Ext W6 W7 := by rw [← hW7]; exact Ext.alloc _ _
  clear hW7
  have f7 : Links _ (.slice (some ⟨w.heap.size + 1 + 1 + 1 + 1 + 1 + 1 + 1, 0, none⟩) 1 1) [(1, 0)] := Links.litAt (w := W7) s7.symm [(1, 0)] 114 1 rfl (by simp [maxLen]) (by simp) #[.int .i64 1, .int .i64 0] rfl
  generalize hW8 : W7.alloc (.cells #[.int .i64 1, .int .i64 0] 114) = W8 at *
  have s8 : W8.heap.size = w.heap.size + 1 + 1 + 1 + 1 + 1 + 1 + 1 + 1 := by rw [← hW8]; simp [s7]
  have x8 : Ext W7 W8 := by rw [← hW8]; exact Ext.alloc _ _
  clear hW8
  have f8 : Links2 _ (.slice (some ⟨w.heap.size + 1 + 1 + 1 + 1 + 1 + 1 + 1 + 1, 0, none⟩) 2 2) exWk.links := ListAt.litAt (R := Links) (fun _ _ _ _ he h => Links.ext h he) (w := W8) s8.symm [.slice (some ⟨w.heap.size + 1 + 1 + 1 + 1 + 1 + 1, 0, none⟩) 2 2, .slice (some ⟨w.heap.size + 1 + 1 + 1 + 1 + 1 + 1 + 1, 0, none⟩) 1 1] exWk.links 112 2 rfl rfl (by simp [maxLen, exWk]) _ rfl (by
    intro a u z hu hz
    match a with
    | 0 => simp [exWk] at hu hz; subst hu; subst hz; exact f6.ext x8
    | 1 => simp [exWk] at hu hz; subst hu; subst hz; exact f7
    | a + 2 => simp at hu)
  generalize hW9 : W8.alloc (.cells [Value.slice (some ⟨w.heap.size + 1 + 1 + 1 + 1 + 1 + 1, 0, none⟩) 2 2, .slice (some ⟨w.heap.size + 1 + 1 + 1 + 1 + 1 + 1 + 1, 0, none⟩) 1 1].toArray 112) = W9 at *
  have x9 : Ext W8 W9 := by rw [← hW9]; exact Ext.alloc _ _
  clear hW9
  have x59 : Ext W5 W9 := x6.trans (x7.trans (x8.trans x9))
  have x19 : Ext W1 W9 := x2.trans (x3.trans (x4.trans (x5.trans x59)))
  have d0 := x19.cell c0; have d1 := x19.cell c1; have d2 := x19.cell c2
  clear c0 c1 c2 s1 s2 s3 s4 s5 s6 s7 s8
  refine bodyPost_ret (v := .agg #[.slice (some ⟨w.heap.size + 1 + 1 + 1 + 1, 0, none⟩) 3 3, .slice (some ⟨w.heap.size + 1 + 1 + 1 + 1 + 1, 0, none⟩) 3 3, .slice (some ⟨w.heap.size + 1 + 1 + 1 + 1 + 1 + 1 + 1 + 1, 0, none⟩) 2 2]) ?_ rfl ⟨_, rfl, x1.trans x19, ⟨_, _, _, rfl, f4.ext x59, f5.ext (x7.trans (x8.trans x9)), f8⟩⟩
  simp [results, Tryz.results39, go_sem, d0, d1, d2]
end Go.Proofs.YtjihfabhgcfjnaaGreatDoor
/- Contract of known: the examples of the chapter hold. -/
namespace Go.Proofs.YtjihfabhgcfjnaaGreatDoor
set_option linter.unusedVariables false
set_option linter.unusedSimpArgs false
open Go.RowKit

theorem exRoots : rootsE exWk = 0 ∧ rootsOf exWk exWk.links.length = [[0, 0, 0], [-1, 1, 0], [-2, 2, 0]] := by decide +kernel
theorem exDrift : driftE exWk = 0 ∧ driftOf exWk = [-2, 2, 0] := by decide +kernel
theorem exStrains : strainsE exWk = 0 ∧ strainsTo exWk exWk.links.length = [(0, 1, [1, -1, 0])] := by decide +kernel

set_option maxRecDepth 100000 in
set_option maxHeartbeats 4000000 in
theorem known_any (w : World) : Calls Tryz.prog 13 #[] w fun e w' => e = .returned (.bool true) ∧ Ext w w' := by
  go_enter Tryz.func13, Tryz.ntmps13
  go_wp2_with fail
  refine (example_any w).mono ?_
  rintro e w1 ⟨v, rfl, hE1, hv⟩
  have HV := Lib.hid hv
  obtain ⟨vp, vc, vl, rfl, p1, p2, p3⟩ := hv
  obtain ⟨ap, cp, rfl, -, -, -, -, -⟩ := p1.open
  obtain ⟨ac, cc, rfl, -, -, -, -⟩ := inCell.open p2
  obtain ⟨al, cl, rfl, -, -, -, -⟩ := inCell.open p3
  obtain ⟨W, hW, hE, hsz, b0, b1, b2⟩ := box_walk w1 (.slice ap exWk.primes.length cp) (.slice ac exWk.chords.length cc) (.slice al exWk.links.length cl) 55
  clear p1 p2 p3
  go_wp2_with fail
  clear hW
  have HV1 := Lib.hid (HV.out.ext hE)
  clear HV
  refine (Roots_any exWk _ W HV1.out).mono ?_
  rintro e w2 ⟨r, rfl, hE2, hr, -⟩
  have hr := hr exRoots.1
  rw [exRoots.1]
  rw [exRoots.2] at hr
  have HR := Lib.hid hr
  have HV2 := Lib.hid (HV1.out.ext hE2)
  have d0 := hE2.cell b0; have d1 := hE2.cell b1; have d2 := hE2.cell b2
  clear b0 b1 b2 HV1 hr
  go_wp2_with fail
  refine (Drift_any exWk _ w2 HV2.out).mono ?_
  rintro e w3 ⟨d, rfl, hE3, hd, -⟩
  have hd := hd exDrift.1
  rw [exDrift.1]
  rw [exDrift.2] at hd
  have HD := Lib.hid hd
  have HV3 := Lib.hid (HV2.out.ext hE3)
  have b0 := hE3.cell d0; have b1 := hE3.cell d1; have b2 := hE3.cell d2
  clear d0 d1 d2 HV2 hd
  go_wp2_with fail
  refine (Strains_any exWk _ w3 HV3.out).mono ?_
  rintro e w4 ⟨s, rfl, hE4, hs, -⟩
  have hs := hs exStrains.1
  rw [exStrains.1]
  rw [exStrains.2] at hs
  have hr := Rows2.ext HR.out (hE3.trans hE4)
  have hd := Ints.ext HD.out hE4
  have hE04 : Ext w w4 := hE1.trans (hE.trans (hE2.trans (hE3.trans hE4)))
  clear b0 b1 b2 HV3 HR HD hE1 hE hE2 hE3 hE4
  obtain ⟨a, c, rfl, hlc, hmc, -, hcell⟩ := inCell.open hr
  obtain ⟨br, offr, rfl, hbr, hcell⟩ := hcell (by simp)
  obtain ⟨v1, hv1, hc1⟩ := hcell 1 [-1, 1, 0] rfl
  obtain ⟨a1, c1, rfl, -, -, -, -, -⟩ := hv1.open
  obtain ⟨ad, cd, rfl, -, -, -, -, -⟩ := hd.open
  obtain ⟨as1, cs, rfl, hls, hms, -, -⟩ := ListAt.open hs
  obtain ⟨-, -, -, hcs⟩ := Strs.cells hs
  obtain ⟨bs, offs, rfl, hbs, hcs⟩ := hcs (by simp)
  obtain ⟨vs, hvs, s0, s1, s2⟩ := hcs 0 _ rfl
  obtain ⟨a2, c2, rfl, -, -, -, -, -⟩ := hvs.open
  simp only [Nat.zero_mul, Nat.add_zero] at s0 s1 s2
  have H1 := Lib.hid hv1; have H2 := Lib.hid hd; have H3 := Lib.hid hvs
  simp only [List.length_cons, List.length_nil, Nat.zero_add, Nat.reduceAdd] at hlc hls hc1 s2 ⊢
  unfold maxLen at hmc hms
  clear hcell hcs hv1 hd hvs hs hr
  go_wp2_with fail
  refine (equalRow_any [-1, 1, 0] [-1, 1, 0] _ _ _ (H1.out.ext (Ext.alloc _ _)) (Ints.litAt rfl [-1, 1, 0] _ 3 rfl (by simp [maxLen]) (by simp) _ rfl)).mono ?_
  rintro e w5 ⟨rfl, hE5⟩
  rw [show ([-1, 1, 0] : List Int) == [-1, 1, 0] from rfl]
  have hE45 : Ext w4 w5 := (Ext.alloc _ _).trans hE5
  clear hE5
  go_wp2_with fail
  refine (equalRow_any [-2, 2, 0] [-2, 2, 0] _ _ _ (H2.out.ext (hE45.trans (Ext.alloc _ _))) (Ints.litAt rfl [-2, 2, 0] _ 3 rfl (by simp [maxLen]) (by simp) _ rfl)).mono ?_
  rintro e w6 ⟨rfl, hE6⟩
  rw [show ([-2, 2, 0] : List Int) == [-2, 2, 0] from rfl]
  have hE46 : Ext w4 w6 := hE45.trans ((Ext.alloc _ _).trans hE6)
  have t0 := hE46.cell s0; have t1 := hE46.cell s1; have t2 := hE46.cell s2
  clear hE6 hE45 s0 s1 s2 hc1
  go_wp2_with fail
  refine (equalRow_any [1, -1, 0] [1, -1, 0] _ _ _ (H3.out.ext (hE46.trans (Ext.alloc _ _))) (Ints.litAt rfl [1, -1, 0] _ 3 rfl (by simp [maxLen]) (by simp) _ rfl)).mono ?_
  rintro e w7 ⟨rfl, hE7⟩
  rw [show ([1, -1, 0] : List Int) == [1, -1, 0] from rfl]
  have hE47 : Ext w w7 := hE04.trans (hE46.trans ((Ext.alloc _ _).trans hE7))
  clear hE7 hE46 hE04
  go_wp2_with fail
  go_ret
  exact ⟨rfl, hE47⟩
end Go.Proofs.YtjihfabhgcfjnaaGreatDoor
/- Contracts of the references of chapters 05 and 09 and of law 09's small functions: Check, Lead, Equal, checkRows, check, equal, none, short. -/
namespace Go.Proofs.YtjihfabhgcfjnaaGreatDoor
set_option linter.unusedVariables false
set_option linter.unusedSimpArgs false
open Go.RowKit

end Go.Proofs.YtjihfabhgcfjnaaGreatDoor
/- Chapter 09's examples in law 09: known. -/
namespace Go.Proofs.YtjihfabhgcfjnaaGreatDoor
set_option linter.unusedVariables false
set_option linter.unusedSimpArgs false
open Go.RowKit

theorem LsR.fits {cols : Nat} {m : List (List Int)} {w w' : World} {e : Ending} (h : LsR cols m w e w') (hf : (m.all fun r => r.all fit9B) = true) : ∃ a c, e = .returned (.tuple #[.agg #[.int .i64 cols, .slice a m.length c], .int .i64 0]) ∧ Rows2 w' (.slice a m.length c) m ∧ Ext w w' := by
  obtain ⟨h1, h2⟩ := h
  rw [if_pos hf] at h1
  obtain ⟨v, rfl, hs⟩ := h1
  obtain ⟨a, c, rfl, -, -, -, -⟩ := inCell.open hs.now
  exact ⟨a, c, rfl, hs.now, h2⟩

end Go.Proofs.YtjihfabhgcfjnaaGreatDoor
/- Contract of schismalaw09.Rows: the rows of a plan. -/
namespace Go.Proofs.YtjihfabhgcfjnaaGreatDoor
set_option linter.unusedVariables false
set_option linter.unusedSimpArgs false
open Go.RowKit

/-- A row of four small numbers, in four cells. -/
def four8 (_ : World) (u : List Value) (x : List Int) : Prop := u = x.map (Value.int .i8) ∧ x.length = 4 ∧ ∀ a ∈ x, -128 ≤ a ∧ a ≤ 127
theorem four8.mono : Mono four8 := fun _ _ _ _ _ h => h
abbrev Fours (w : World) (v : Value) (xss : List (List Int)) : Prop := ListAt 4 four8 w v xss
theorem Fours.ext {w w' : World} {v : Value} {xss : List (List Int)} (h : Fours w v xss) (he : Ext w w') : Fours w' v xss := ListAt.ext four8.mono h he
/-- A row of a plan. -/
def row9 (n : Nat) (x : List Int) : List Int := (x.take n).map fun a => a.tmod 10
theorem row9_len {n : Nat} {x : List Int} (h : n ≤ x.length) : (row9 n x).length = n := by unfold row9; rw [List.length_map, List.length_take]; omega
theorem row9_succ {k : Nat} {x : List Int} {y : Int} (h : x[k]? = some y) : row9 (k + 1) x = row9 k x ++ [y.tmod 10] := by unfold row9; rw [List.take_add_one, h, List.map_append]; rfl
end Go.Proofs.YtjihfabhgcfjnaaGreatDoor
/- Rows of ints in blocks of their own, that a loop fills; law 09's fits. -/
namespace Go.Proofs.YtjihfabhgcfjnaaGreatDoor
set_option linter.unusedVariables false
set_option linter.unusedSimpArgs false
open Go.RowKit

/-- A row of ints at a block. -/
structure RowF (w : World) (g : Nat) (xs : List Int) : Prop where
  lt : g < w.heap.size
  cell : ∀ (j : Nat) x, xs[j]? = some x → w.cell? ⟨g, j, none⟩ = some (.int .i64 x)
  free : ∀ j, w.frozen? ⟨g, j, none⟩ = false
theorem RowF.same {w w' : World} {g : Nat} {xs : List Int} (h : RowF w g xs) (hs : w.heap.size ≤ w'.heap.size) (hg : w'.heap[g]? = w.heap[g]?) : RowF w' g xs :=
  ⟨Nat.lt_of_lt_of_le h.lt hs, fun j x hx => by rw [← h.cell j x hx]; unfold World.cell?; simp only [hg], fun j => by rw [← h.free j]; unfold World.frozen?; simp only [hg]⟩
theorem RowF.ext {w w' : World} {g : Nat} {xs : List Int} (h : RowF w g xs) (he : Ext w w') : RowF w' g xs := h.same he.size (he.block g h.lt)
theorem RowF.other {w : World} {g b i : Nat} {xs : List Int} (h : RowF w g xs) (hne : g ≠ b) (y : Value) : RowF (w.setCell ⟨b, i, none⟩ y) g xs :=
  h.same (by simp [World.setCell]) (Below.heap_setCell _ _ _ _ hne)
theorem RowF.set {w : World} {g : Nat} {xs : List Int} (h : RowF w g xs) (k : Nat) (hk : k < xs.length) (y : Int) : RowF (w.setCell ⟨g, k, none⟩ (.int .i64 y)) g (xs.set k y) := by
  refine ⟨by simp only [World.setCell, Array.size_modify]; exact h.lt, fun j x hj => ?_, fun j => ?_⟩
  · rw [List.getElem?_set] at hj
    by_cases e : k = j
    · subst e
      rw [if_pos rfl, if_pos hk] at hj
      cases hj
      exact World.cell?_setCell_same w _ _ (h.cell k _ (List.getElem?_eq_getElem hk))
    · rw [if_neg e] at hj
      rw [World.cell?_setCell_other _ _ _ _ (by intro e2; simp only [Addr.mk.injEq] at e2; omega)]
      exact h.cell j x hj
  · rw [← h.free j]; exact World.frozen?_setCell ..
theorem RowF.ints {w : World} {g m : Nat} {xs : List Int} (h : RowF w g xs) (hm : xs.length ≤ m) (hm2 : m ≤ maxLen) (hb : ∀ x ∈ xs, -9223372036854775808 ≤ x ∧ x ≤ 9223372036854775807) : Ints w (.slice (some ⟨g, 0, none⟩) xs.length m) xs := by
  refine ⟨xs.map fun x => [Value.int .i64 x], by simp, by intro u hu; obtain ⟨x, _, rfl⟩ := List.mem_map.1 hu; rfl, ?_, fun j u x hu hx => ?_⟩
  · refine ⟨some ⟨g, 0, none⟩, m, rfl, hm, hm2, (fun e => by cases e), fun _ => ⟨g, 0, rfl, h.lt, fun j u hu => ?_⟩⟩
    rw [flatten_one, List.getElem?_map] at hu
    cases hx : xs[j]? with
    | none => rw [hx] at hu; cases hu
    | some x => rw [hx] at hu; cases hu; rw [Nat.zero_add]; exact h.cell j x hx
  · rw [List.getElem?_map, hx] at hu
    cases hu
    exact ⟨rfl, hb x (List.mem_of_getElem? hx)⟩

end Go.Proofs.YtjihfabhgcfjnaaGreatDoor
/- Contracts of laws 12 and 18: Primes, Interval, build. -/
namespace Go.Proofs.YtjihfabhgcfjnaaGreatDoor
set_option linter.unusedVariables false
set_option linter.unusedSimpArgs false
open Go.RowKit

/-- One of ten lists of primes. -/
def primes12 (c : Nat) : List Int := match c with | 0 => [2, 3, 5] | 1 => [2, 3, 5, 7] | 2 => [2, 3] | 3 => [2, 3, 7] | 4 => [2, 5, 7] | 5 => [3, 5, 7] | 6 => [2, 3, 5, 11] | 7 => [2] | 8 => [2, 3, 7, 13] | _ => [3, 5, 7, 13]
theorem primes12_ok (c : Nat) : primesE (primes12 c) = 0 ∧ 1 ≤ (primes12 c).length ∧ (primes12 c).length ≤ 4 := by
  match c with
  | 0 => decide +kernel
  | 1 => decide +kernel
  | 2 => decide +kernel
  | 3 => decide +kernel
  | 4 => decide +kernel
  | 5 => decide +kernel
  | 6 => decide +kernel
  | 7 => decide +kernel
  | 8 => decide +kernel
  | _ + 9 => exact (by decide +kernel : primesE [3, 5, 7, 13] = 0 ∧ 1 ≤ [3, 5, 7, 13].length ∧ [3, 5, 7, 13].length ≤ 4)

/-- Several objects are made, one behind another. -/
def allocs (w : World) : List Obj → World
  | [] => w
  | o :: l => allocs (w.alloc o) l
theorem allocs_ext : ∀ (l : List Obj) (w : World), Ext w (allocs w l)
  | [], w => Ext.refl w
  | o :: l, w => (Ext.alloc w o).trans (allocs_ext l (w.alloc o))
theorem allocs_get : ∀ (l : List Obj) (w : World) (i : Nat) (o : Obj), l[i]? = some o → (allocs w l).heap[w.heap.size + i]? = some o
  | [], w, i, o, h => by simp at h
  | x :: l, w, 0, o, h => by
    simp at h; subst h
    exact block_ext (heap_alloc_new w x) (allocs_ext l (w.alloc x))
  | x :: l, w, i + 1, o, h => by
    have := allocs_get l (w.alloc x) i o (by simpa using h)
    rw [show (w.alloc x).heap.size = w.heap.size + 1 by simp] at this
    rw [show w.heap.size + (i + 1) = w.heap.size + 1 + i by omega]; exact this
theorem ints_block {W : World} {S : Nat → Prop} {B : Nat} {xs : List Int} (h : W.heap[B]? = some (.cells (xs.map (Value.int .i64)).toArray 3 (0, 0))) (hS : ¬ S B) (hl : xs.length ≤ maxLen) (hb : ∀ x ∈ xs, -9223372036854775808 ≤ x ∧ x ≤ 9223372036854775807) :
    SafeS W S fun W => Ints W (.slice (some ⟨B, 0, none⟩) xs.length xs.length) xs := fun W' hG => by
  have h' := (hG.block B (block_lt h) hS).trans h
  exact RowF.ints ⟨block_lt h', fun j x hx => by rw [block_cell h' j]; simp [hx], fun j => block_free h' j⟩ (Nat.le_refl _) hl hb
def primObjs (w : World) : List Obj := [.cells #[.int .i64 2, .int .i64 3, .int .i64 5] 3, .cells #[.int .i64 2, .int .i64 3, .int .i64 5, .int .i64 7] 3, .cells #[.int .i64 2, .int .i64 3] 3, .cells #[.int .i64 2, .int .i64 3, .int .i64 7] 3, .cells #[.int .i64 2, .int .i64 5, .int .i64 7] 3, .cells #[.int .i64 3, .int .i64 5, .int .i64 7] 3, .cells #[.int .i64 2, .int .i64 3, .int .i64 5, .int .i64 11] 3, .cells #[.int .i64 2] 3, .cells #[.int .i64 2, .int .i64 3, .int .i64 7, .int .i64 13] 3, .cells #[.int .i64 3, .int .i64 5, .int .i64 7, .int .i64 13] 3, .cells #[.slice (some ⟨w.heap.size, 0, none⟩) 3 3, .slice (some ⟨w.heap.size + 1, 0, none⟩) 4 4, .slice (some ⟨w.heap.size + 1 + 1, 0, none⟩) 2 2, .slice (some ⟨w.heap.size + 1 + 1 + 1, 0, none⟩) 3 3, .slice (some ⟨w.heap.size + 1 + 1 + 1 + 1, 0, none⟩) 3 3, .slice (some ⟨w.heap.size + 1 + 1 + 1 + 1 + 1, 0, none⟩) 3 3, .slice (some ⟨w.heap.size + 1 + 1 + 1 + 1 + 1 + 1, 0, none⟩) 4 4, .slice (some ⟨w.heap.size + 1 + 1 + 1 + 1 + 1 + 1 + 1, 0, none⟩) 1 1, .slice (some ⟨w.heap.size + 1 + 1 + 1 + 1 + 1 + 1 + 1 + 1, 0, none⟩) 4 4, .slice (some ⟨w.heap.size + 1 + 1 + 1 + 1 + 1 + 1 + 1 + 1 + 1, 0, none⟩) 4 4] 51]
theorem prim_end (w : World) (k : Nat) (hk : k ≤ 9) (ho : (primObjs w)[k]? = some (.cells ((primes12 k).map (Value.int .i64)).toArray 3)) (hb : ∀ x ∈ primes12 k, -9223372036854775808 ≤ x ∧ x ≤ 9223372036854775807) :
    ∃ a cp, Ending.returned (.slice (some ⟨w.heap.size + k, 0, none⟩) (primes12 k).length (primes12 k).length) = .returned (.slice a (primes12 k).length cp) ∧ SafeS (allocs w (primObjs w)) (· < w.heap.size) (fun W => Ints W (.slice a (primes12 k).length cp) (primes12 k)) ∧ Ext w (allocs w (primObjs w)) :=
  ⟨_, _, rfl, ints_block (allocs_get _ w k _ ho) (by omega) (by have := (primes12_ok k).2.2; unfold maxLen; omega) hb, allocs_ext _ w⟩

set_option maxRecDepth 100000 in
set_option maxHeartbeats 8000000 in
theorem primes12_any (c : Int) (hc0 : 0 ≤ c) (hc1 : c ≤ 255) (w : World) :
    Calls Tryz.prog 113 #[.int .u8 c] w fun e w' => ∃ a cp, e = .returned (.slice a (primes12 (c % 10).toNat).length cp) ∧ SafeS w' (· < w.heap.size) (fun W => Ints W (.slice a (primes12 (c % 10).toNat).length cp) (primes12 (c % 10).toNat)) ∧ Ext w w' := by
  have hm : c.tmod 10 = c % 10 := by rw [Int.tmod_eq_emod_of_nonneg hc0]
  obtain ⟨k, hk, hk9⟩ : ∃ k : Nat, c % 10 = (k : Int) ∧ k ≤ 9 := ⟨(c % 10).toNat, by omega, by omega⟩
  rw [hk] at hm ⊢
  rw [Int.toNat_natCast]
  have hw : IntKind.wrap .i64 c = c := by rw [IntKind.wrap_i64]; omega
  clear hk
  have hcase : k = 0 ∨ k = 1 ∨ k = 2 ∨ k = 3 ∨ k = 4 ∨ k = 5 ∨ k = 6 ∨ k = 7 ∨ k = 8 ∨ k = 9 := by omega
  rcases hcase with rfl | rfl | rfl | rfl | rfl | rfl | rfl | rfl | rfl | rfl
  · go_enter Tryz.func113, Tryz.ntmps113
    go_wp2_with fail
    go_ret
    exact prim_end w 0 (by decide) rfl (by decide)
  · go_enter Tryz.func113, Tryz.ntmps113
    go_wp2_with fail
    go_ret
    exact prim_end w 1 (by decide) rfl (by decide)
  · go_enter Tryz.func113, Tryz.ntmps113
    go_wp2_with fail
    go_ret
    exact prim_end w 2 (by decide) rfl (by decide)
  · go_enter Tryz.func113, Tryz.ntmps113
    go_wp2_with fail
    go_ret
    exact prim_end w 3 (by decide) rfl (by decide)
  · go_enter Tryz.func113, Tryz.ntmps113
    go_wp2_with fail
    go_ret
    exact prim_end w 4 (by decide) rfl (by decide)
  · go_enter Tryz.func113, Tryz.ntmps113
    go_wp2_with fail
    go_ret
    exact prim_end w 5 (by decide) rfl (by decide)
  · go_enter Tryz.func113, Tryz.ntmps113
    go_wp2_with fail
    go_ret
    exact prim_end w 6 (by decide) rfl (by decide)
  · go_enter Tryz.func113, Tryz.ntmps113
    go_wp2_with fail
    go_ret
    exact prim_end w 7 (by decide) rfl (by decide)
  · go_enter Tryz.func113, Tryz.ntmps113
    go_wp2_with fail
    go_ret
    exact prim_end w 8 (by decide) rfl (by decide)
  · go_enter Tryz.func113, Tryz.ntmps113
    go_wp2_with fail
    go_ret
    exact prim_end w 9 (by decide) rfl (by decide)
end Go.Proofs.YtjihfabhgcfjnaaGreatDoor
