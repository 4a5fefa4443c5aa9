/- Contract of the law's same at two walks that are alike; of empty. -/
import Derived.Test.YtplcikgmefcfbaaEqLinks
import Derived.Test.YtplcikgmefcfbaaDriftG
namespace Go.Proofs.Ytplcikgmefcfbaa
set_option linter.unusedVariables false
set_option linter.unusedSimpArgs false
open Go.RowKit

theorem same1_any (xs ys : List (Int × Int)) (u v : Value) (w : World) (h : Links w u xs) (k : Links w v ys) :
    Calls Try.prog 48 #[u, v] w fun e w' => e = .returned (.bool (xs == ys)) ∧ Ext w w' := by
  have HE := Lib.hid (equalLinks_any xs ys u v w h k)
  clear h k
  go_enter Try.func48, Try.ntmps48
  go_wp2_with fail
  refine HE.out.mono ?_
  rintro e w' ⟨rfl, hE⟩
  go_wp2_with fail
  go_ret
  exact ⟨rfl, hE⟩

set_option maxRecDepth 100000 in
set_option maxHeartbeats 1000000 in
theorem same_any (k : Wk) (u v : Value) (w : World) (h : WalkAt w u k) (h' : WalkAt w v k) :
    Calls Try.prog 22 #[u, v] w fun e w' => e = .returned (.bool true) ∧ Ext w w' := by
  obtain ⟨vp, vc, vl, rfl, p1, p2, p3⟩ := h
  obtain ⟨up, uc, ul, rfl, q1, q2, q3⟩ := h'
  obtain ⟨w1, hW1, hE1, hsz1, b0, b1, b2⟩ := box_walk w vp vc vl 30
  obtain ⟨w2, hW2, hE2, hsz2, c0, c1, c2⟩ := box_walk w1 up uc ul 30
  have hs1 : w1.heap.size = w.heap.size + 1 := by rw [← hW1]; simp
  rw [hs1] at c0 c1 c2
  have d0 := hE2.cell b0; have d1 := hE2.cell b1; have d2 := hE2.cell b2
  have hE12 := hE1.trans hE2
  have A1 := Lib.hid (fun W' (he : Ext w2 W') => equalPrimes_any k.primes k.primes vp up W' (Ints.ext p1 (hE12.trans he)) (Ints.ext q1 (hE12.trans he)))
  have A2 := Lib.hid (fun W' (he : Ext w2 W') => equalFuncChords_any (R := Rows2) (fun _ _ _ _ he h => Rows2.ext h he) k.chords k.chords vc uc 16 #[] (· == ·) W' (Chords.ext p2 (hE12.trans he)) (Chords.ext q2 (hE12.trans he)) (enters_of Try.func16 (by kernel_rfl) rfl) (fun W x y a b _ _ _ ha hb => rowsEqual_any x y a b W ha hb))
  have A3 := Lib.hid (fun W' (he : Ext w2 W') => equalFuncLinks2_any (R := Links) (fun _ _ _ _ he h => Links.ext h he) k.links k.links vl ul 48 #[] (· == ·) W' (Links2.ext p3 (hE12.trans he)) (Links2.ext q3 (hE12.trans he)) (enters_of Try.func48 (by kernel_rfl) rfl) (fun W x y a b _ _ _ ha hb => same1_any x y a b W ha hb))
  clear p1 p2 p3 q1 q2 q3 b0 b1 b2
  go_enter Try.func22, Try.ntmps22
  go_wp2_with fail
  clear hW1 hW2
  refine (A1.out _ (Ext.refl _)).mono ?_
  rintro e w3 ⟨rfl, hE3⟩
  rw [beq_self_eq_true]
  have e0 := hE3.cell c0; have e1 := hE3.cell c1; have e2 := hE3.cell c2; have e3 := hE3.cell d0; have e4 := hE3.cell d1; have e5 := hE3.cell d2
  clear c0 c1 c2 d0 d1 d2
  go_wp2_with fail
  refine (A2.out _ hE3).mono ?_
  rintro e w4 ⟨rfl, hE4⟩
  rw [eqBy_beq, beq_self_eq_true]
  have c0 := hE4.cell e0; have c1 := hE4.cell e1; have c2 := hE4.cell e2; have d0 := hE4.cell e3; have d1 := hE4.cell e4; have d2 := hE4.cell e5
  clear e0 e1 e2 e3 e4 e5
  go_wp2_with fail
  refine (A3.out _ (hE3.trans hE4)).mono ?_
  rintro e w5 ⟨rfl, hE5⟩
  rw [eqBy_beq, beq_self_eq_true]
  go_wp2_with fail
  go_ret
  exact ⟨rfl, hE12.trans (hE3.trans (hE4.trans hE5))⟩
end Go.Proofs.Ytplcikgmefcfbaa
