/- Merged: HermZ, Make9, DualC. -/
import Derived.Test.YtjihfabhgcfjnaaGreatDoorRAAJ
import Derived.Test.YtjihfabhgcfjnaaGreatDoorRAAA
import Derived.Test.YtjihfabhgcfjnaaGreatDoorQAZ
import Derived.Test.YtjihfabhgcfjnaaGreatDoorQAQ
import Derived.Test.YtjihfabhgcfjnaaGreatDoorRAAD
/- The Hermite form of reference 09, of whatever small rows. -/
namespace Go.Proofs.YtjihfabhgcfjnaaGreatDoor
set_option linter.unusedVariables false
set_option linter.unusedSimpArgs false
open Go.RowKit

theorem hform_nil (n : Nat) : HForm n [] (fun _ => 0) := ⟨fun i hi => by simp at hi, ⟨fun i hi => by simp at hi, fun i j _ hj => by simp at hj, fun i hi => by simp at hi, fun i hi => by simp at hi, fun i j _ hj => by simp at hj, fun i _ hi => by simp at hi⟩⟩
theorem rows2_nil (w : World) : Rows2 w (.slice none 0 0) [] := ⟨[], rfl, by simp, ⟨none, 0, rfl, Nat.le_refl _, Nat.zero_le _, fun _ => rfl, fun h => absurd rfl h⟩, by simp⟩
theorem hform_le {n : Nat} {R : List (List Int)} {ps : Nat → Nat} (h : HForm n R ps) : R.length ≤ n := by
  have key : ∀ i, i < R.length → i ≤ ps i := by
    intro i
    induction i with
    | zero => intro _; omega
    | succ i ih => intro hi; have h1 := ih (by omega); have h2 := h.2.mono i (i + 1) (by omega) hi; omega
  rcases Nat.eq_zero_or_pos R.length with h0 | h0
  · omega
  · have h1 := key (R.length - 1) (by omega)
    have h2 := h.2.lt (R.length - 1) (by omega)
    omega
set_option maxRecDepth 100000 in
theorem copied9_nil (n : Nat) (v : Value) (w : World) (h : Rows2 w v []) (hn : n ≤ 1000) :
    Calls Tryz.prog 100 #[v, .int .i64 n] w fun e w' => e = .returned (.slice none 0 0) ∧ Ext w w' := by
  obtain ⟨a, c, rfl, h1, h2, -, hc⟩ := inCell.open h
  unfold maxLen at h2
  clear h hc
  simp only [List.length_nil] at h1 ⊢
  go_enter Tryz.func100, Tryz.ntmps100
  go_wp2_with fail
  go_loopw [5, 6] (fun out t wr => out = .slice none 0 0 ∧ t = .int .i64 0 ∧ w = wr) (fun _ _ _ => 0)
  case atStart => exact ⟨rfl, rfl, rfl⟩
  case round =>
    obtain ⟨rfl, rfl, rfl⟩ := hrel
    go_wp2_with fail
    go_ret
    exact ⟨rfl, Ext.refl _⟩
set_option maxRecDepth 100000 in
theorem hermite9_nil (n : Nat) (v : Value) (w : World) (hn : n ≤ 1000) (hcp : Calls Tryz.prog 100 #[v, .int .i64 n] w fun e w' => e = .returned (.slice none 0 0) ∧ Ext w w') :
    Calls Tryz.prog 48 #[v, .int .i64 n] w fun e w' => e = .returned (.slice none 0 0) ∧ Ext w w' := by
  have HCP := Lib.hid hcp
  clear hcp
  go_enter Tryz.func48, Tryz.ntmps48
  go_wp2_with fail
  refine HCP.out.mono ?_
  rintro e w1 ⟨rfl, hE1⟩
  have HE1 := Lib.hid hE1
  clear hE1 HCP
  go_wp2_with fail
  go_loopw [6, 7] (fun sd sc wr => sd = .int .i64 0 ∧ sc = .int .i64 0 ∧ w1 = wr) (fun _ _ _ => 0)
  case atStart => exact ⟨rfl, rfl, rfl⟩
  case round =>
    obtain ⟨rfl, rfl, rfl⟩ := hrel
    by_cases hc : 0 < n
    · go_wp2_with fail
      go_ret
      exact ⟨rfl, HE1.out⟩
    · obtain rfl : n = 0 := by omega
      go_wp2_with fail
      go_ret
      exact ⟨rfl, HE1.out⟩
/-- The Hermite form of small rows. -/
theorem hermite9_safe (n N : Nat) (xss : List (List Int)) (v : Value) (w : World) (h : Rows2 w v xss) (hrow : ∀ xs ∈ xss, xs.length = n) (hn : n ≤ 1000) (hlen : xss.length ≤ 1000) (hN : 1 ≤ N) (hN2 : N ≤ 4000000000000000000) (hb : ∀ xs ∈ xss, RowLe N xs) (hZ : Zn N (n - 1) ≤ 4000000000000000000)
    (hF : ∀ k, k ≤ n → k * facN N k ≤ 9223372036854775807) :
    Calls Tryz.prog 48 #[v, .int .i64 n] w fun e w' => ∃ (u : Value) (R : List (List Int)) (ps : Nat → Nat), e = .returned u ∧ HForm n R ps ∧ SpEq n (RowsFrom 0 xss) (RowsFrom 0 R) ∧ SafeS w' (· < w.heap.size) (fun W => Rows2 W u R) ∧ Ext w w' := by
  have hcp := copied9_any n xss v w h hlen hrow hn
  have hw : Wid n xss := fun i hi => hrow _ (rowE_mem hi)
  have hbi : ∀ i, i < xss.length → RowLe N (rowE_ xss i) := fun i hi => hb _ (rowE_mem hi)
  by_cases h0 : xss = []
  · subst h0
    refine (hermite9_nil n v w hn (copied9_nil n v w h hn)).mono ?_
    · rintro e w' ⟨rfl, hE⟩
      exact ⟨_, [], _, rfl, hform_nil n, SpEq.refl _ _, (fun W _ => rows2_nil W), hE⟩
  · refine (hermite9_at n N xss v w (hcp.mono ?_) hw hn hlen hN hN2 hbi hZ).mono ?_
    · rintro e w' ⟨v', tags, rfl, hR, hv, hE⟩
      rcases hv with ⟨-, h1⟩ | ⟨g, c, rfl⟩
      · exact absurd h1 h0
      · obtain ⟨m1, m2, m3, m4⟩ := hR.mat (Nat.le_refl _)
        exact ⟨g, c, tags, rfl, m1, m2, m3, m4, hE⟩
    · rintro e w' ⟨u, m, d, ps, g0, cap, rfl, hH, hS, ⟨rfl, tags', hM, hd, hc1, hc2, hbb⟩, hE⟩
      have hl : (m.take d).length = d := by rw [List.length_take]; omega
      have hbd := form_bound (N := N) hH hw hbi hS
      refine ⟨_, m.take d, ps, rfl, hH, hS, fun W hG => (hM.same hG.size fun b hb => hG.block b (hM.blt hb) fun hk => by have := hbb b hb; omega).rows2 hd hc1 hc2 (fun i hi x hx => ?_), hE⟩
      have h1 := hbd i (by rw [hl]; exact hi)
      rw [rowE_take hi] at h1
      have h2 := h1 x hx
      have h3 := hF (m.take d).length ?_
      · omega
      · exact hform_le hH
end Go.Proofs.YtjihfabhgcfjnaaGreatDoor

/- Contract of law 09's Make: the lattice of a plan. -/
namespace Go.Proofs.YtjihfabhgcfjnaaGreatDoor
set_option linter.unusedVariables false
set_option linter.unusedSimpArgs false
open Go.RowKit

theorem SpEq.symm9 {n : Nat} {S T : List Int → Prop} (h : SpEq n S T) : SpEq n T S := ⟨h.2, h.1⟩
theorem znP {n : Nat} (hn : n ≤ 4) : Zn 9 (n - 1) ≤ 4000000000000000000 := by
  have hc : n - 1 = 0 ∨ n - 1 = 1 ∨ n - 1 = 2 ∨ n - 1 = 3 := by omega
  rcases hc with h | h | h | h <;> rw [h] <;> decide
theorem facP {n : Nat} (hn : n ≤ 4) : ∀ k, k ≤ n → k * facN 9 k ≤ 9223372036854775807 := by
  intro k hk
  have hc : k = 0 ∨ k = 1 ∨ k = 2 ∨ k = 3 ∨ k = 4 := by omega
  rcases hc with h | h | h | h | h <;> rw [h] <;> decide
theorem foursP_len {w : World} {v : Value} {xss : List (List Int)} (h : Fours w v xss) : ∀ x ∈ xss, x.length = 4 := by
  obtain ⟨us, h1, _, _, h7⟩ := h
  intro x hx
  obtain ⟨j, hj⟩ := List.getElem?_of_mem hx
  have hlt : j < us.length := by rw [h1]; exact (List.getElem?_eq_some_iff.1 hj).1
  exact (h7 j us[j] x (List.getElem?_eq_getElem hlt) hj).2.1
theorem rowsP_ok {n : Nat} {xss : List (List Int)} (hn : n ≤ 4) (h : ∀ x ∈ xss, x.length = 4) : (rows9 n xss).length ≤ 4 ∧ ∀ r ∈ rows9 n xss, r.length = n ∧ RowLe 9 r := by
  refine ⟨by unfold rows9 rowsT; rw [List.length_map, List.length_take]; omega, fun r hr => ?_⟩
  obtain ⟨x, hx, rfl⟩ := List.mem_map.1 hr
  refine ⟨row9_len (by rw [h x (List.mem_of_mem_take hx)]; exact hn), fun y hy => ?_⟩
  obtain ⟨z, -, rfl⟩ := List.mem_map.1 hy
  have := tmod_bd z 10 (by decide)
  omega

set_option maxRecDepth 100000 in
set_option maxHeartbeats 4000000 in
theorem make9_any (c : Int) (hc0 : 0 ≤ c) (hc1 : c ≤ 255) (n : Nat) (hn : 1 + c % 4 = (n : Int)) (hn4 : n ≤ 4) (xss : List (List Int)) (v : Value) (w : World) (h : Fours w v xss) :
    Calls Tryz.prog 9 #[.agg #[.int .u8 c, v]] w fun e w' => ∃ (u : Value) (R : List (List Int)) (ps : Nat → Nat), e = .returned (.agg #[.int .i64 n, u]) ∧ PlanF n (rows9 n xss) R ps ∧ SafeS w' (· < w.heap.size) (fun W => Rows2 W u R) ∧ Ext w w' := by
  have hrr := rowsP_ok hn4 (foursP_len h)
  have HRW := Lib.hid (fun W (hW : Ext w W) => rows9_any c hc0 hc1 xss v W (h.ext hW))
  rw [hn, Int.toNat_natCast] at HRW
  obtain ⟨F, R, ps, -, f2, f3, f4, f5, f6, -⟩ := plan_form n (rows9 n xss) (by omega) hrr.1 (fun r hr => (hrr.2 r hr).1) (fun r hr => (hrr.2 r hr).2)
  have HPF : Hid (PlanF n (rows9 n xss) R ps) := ⟨by omega, fun r hr => (hrr.2 r hr).1, fun r hr => (hrr.2 r hr).2, f2, f3, f4, f5, f6⟩
  have HHE := Lib.hid (fun W u (hu : Rows2 W u (rows9 n xss)) => hermite9_safe n 9 (rows9 n xss) u W hu (fun r hr => (hrr.2 r hr).1) (by omega) (by have := hrr.1; omega) (by decide) (by decide) (fun r hr => (hrr.2 r hr).2) (znP hn4) (facP hn4))
  obtain ⟨a, cp, rfl, -⟩ := ListAt.open h
  clear f2 f3 f4 f5 f6 hrr h
  go_enter Tryz.func9, Tryz.ntmps9
  go_wp2_with fail
  obtain ⟨W1, hW1⟩ : ∃ W1, w.alloc (Obj.cells #[Value.int IntKind.u8 c, Value.slice a xss.length cp] 24) = W1 := ⟨_, rfl⟩
  have hb0 : W1.heap[w.heap.size]? = some (.cells #[.int .u8 c, .slice a xss.length cp] 24 (0, 0)) := by rw [← hW1]; exact block_new _ _ _
  have hE1 : Ext w W1 := by rw [← hW1]; exact Ext.alloc _ _
  have hs1 : W1.heap.size = w.heap.size + 1 := by rw [← hW1]; simp
  rw [hW1]
  obtain ⟨W2, hW2, hE2, hs2, hb2⟩ := lat_new W1 (.int .i64 0) (.slice none 0 0)
  rw [hW2]
  rw [hs1] at hb2
  have HB0 := Lib.hid (block_ext hb0 hE2); have HB2 := Lib.hid hb2; have HE2 := Lib.hid (hE1.trans hE2)
  have HS2 : Hid (W2.heap.size = w.heap.size + 2) := by unfold Hid; omega
  clear hW1 hW2 hb0 hE1 hs1 hE2 hs2 hb2
  refine (HRW.out _ HE2.out).mono ?_
  rintro e w3 ⟨u, rfl, hu, hE3⟩
  have HE3 := Lib.hid (HE2.out.trans hE3); have HB3 := Lib.hid (block_ext HB2.out hE3); have HU3 := Lib.hid hu
  have HZ3 : Hid (w.heap.size + 2 ≤ w3.heap.size) := by unfold Hid; have := hE3.size; have := HS2.out; omega
  obtain ⟨a3, c3, rfl, -⟩ := ListAt.open hu
  clear hE3 hu HRW HB0 HB2 HS2 HE2
  go_wp2_with fail
  refine (HHE.out _ _ HU3.out).mono ?_
  rintro e w4 ⟨u4, R4, ps4, rfl, hH4, hS4, hR4, hE4⟩
  obtain rfl : R4 = R := hform_unique hH4 HPF.out.form (SpEq.trans (SpEq.symm9 hS4) HPF.out.span)
  obtain ⟨a4, c4, rfl, -⟩ := ListAt.open hR4.now
  have HE4 := Lib.hid (HE3.out.trans hE4); have HB4 := Lib.hid (block_ext HB3.out hE4); have HR4 := Lib.hid hR4
  clear hE4 hR4 hH4 hS4 HHE HU3 HB3 HE3
  obtain ⟨b0, b1, bf⟩ := lat_block HB4.out
  have f0 := bf 0; have f1 := bf 1
  clear bf
  go_wp2_with fail
  have hkA := lat_store HB4.out (.int .i64 n) (.slice a4 R4.length c4)
  refine bodyPost_ret (results_cell_row (by rfl) _ _ (w.heap.size + 1) 31 #[.int .i64 n, .slice a4 R4.length c4] (0, 0) _ (by rfl) hkA Tryz.underlying31 (by rfl) (by kernel_rfl)) (by rfl) ?_
  have hlt : w.heap.size + 1 < w3.heap.size := by have := HZ3.out; omega
  refine ⟨_, R4, ps, rfl, HPF.out, HR4.out.grow (((GrownS.refl _ w4).setCell (g := w.heap.size + 1) hlt 0 _).setCell (g := w.heap.size + 1) hlt 1 _) (fun k hk => .inl (by omega)), ext_lat HE4.out (Nat.le_succ _) _ _⟩
end Go.Proofs.YtjihfabhgcfjnaaGreatDoor
/- Law 09: the functions of package lattice at the lattices of two plans, as LatticeDuals needs them. -/
namespace Go.Proofs.YtjihfabhgcfjnaaGreatDoor
set_option linter.unusedVariables false
set_option linter.unusedSimpArgs false
open Go.RowKit

section
variable {n F : Nat} {m1 m2 R T U A B O S H : List (List Int)} {ps qs : Nat → Nat} (hn1 : 1 ≤ n) (hn : n ≤ 4) (P1 : PlanF n m1 R ps) (P2 : PlanF n m2 T qs) (D : DualsF n F R T U A B O S H) (W : World) (hl : LibT W) (hb : 2 < W.heap.size)
set_option linter.unusedSectionVars false
include hn1 hn P1 P2 D hl hb
end
/-- Make, as a plan's form that is known. -/
theorem make9_as {c : Int} (hc0 : 0 ≤ c) (hc1 : c ≤ 255) {n : Nat} (hn : 1 + c % 4 = (n : Int)) (hn4 : n ≤ 4) {xss R : List (List Int)} {ps : Nat → Nat} (P : PlanF n (rows9 n xss) R ps) (v : Value) (w : World) (h : Fours w v xss) :
    Calls Tryz.prog 9 #[.agg #[.int .u8 c, v]] w fun e w' => ∃ a k, e = .returned (.agg #[.int .i64 n, .slice a R.length k]) ∧ SafeS w' (· < w.heap.size) (fun W => Rows2 W (.slice a R.length k) R) ∧ Ext w w' := by
  refine (make9_any c hc0 hc1 n hn hn4 xss v w h).mono fun e w' ⟨u, R', ps', h1, h2, h3, h4⟩ => ?_
  obtain rfl : R' = R := hform_unique h2.form P.form (h2.span.symm.trans P.span)
  obtain ⟨a, k, rfl, -⟩ := inCell.open h3.now
  exact ⟨a, k, h1, h3, h4⟩
theorem planF_of {n : Nat} (hn1 : 1 ≤ n) (hn4 : n ≤ 4) {w : World} {v : Value} {xss : List (List Int)} (h : Fours w v xss) : ∃ R ps, PlanF n (rows9 n xss) R ps := by
  have hrr := rowsP_ok hn4 (foursP_len h)
  obtain ⟨F, R, ps, -, f2, f3, f4, f5, f6, -⟩ := plan_form n (rows9 n xss) (by omega) hrr.1 (fun r hr => (hrr.2 r hr).1) (fun r hr => (hrr.2 r hr).2)
  exact ⟨R, ps, by omega, fun r hr => (hrr.2 r hr).1, fun r hr => (hrr.2 r hr).2, f2, f3, f4, f5, f6⟩
end Go.Proofs.YtjihfabhgcfjnaaGreatDoor
