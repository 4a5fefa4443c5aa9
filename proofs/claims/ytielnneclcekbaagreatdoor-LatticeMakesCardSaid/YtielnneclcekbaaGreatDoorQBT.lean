/- Merged: HermZ. -/
import Derived.Test.YtielnneclcekbaaGreatDoorQBS
/- The Hermite form of reference 09, of whatever small rows. -/
namespace Go.Proofs.YtielnneclcekbaaGreatDoor
set_option linter.unusedVariables false
set_option linter.unusedSimpArgs false
open Go.RowKit

theorem hform_nil (n : Nat) : HForm n [] (fun _ => 0) := ⟨fun i hi => by simp at hi, ⟨fun i hi => by simp at hi, fun i j _ hj => by simp at hj, fun i hi => by simp at hi, fun i hi => by simp at hi, fun i j _ hj => by simp at hj, fun i _ hi => by simp at hi⟩⟩
theorem rows2_nil (w : World) : Rows2 w (.slice none 0 0) [] := ⟨[], rfl, by simp, ⟨none, 0, rfl, Nat.le_refl _, Nat.zero_le _, fun _ => rfl, fun h => absurd rfl h⟩, by simp⟩
theorem hform_le {n : Nat} {R : List (List Int)} {ps : Nat → Nat} (h : HForm n R ps) : R.length ≤ n := by
  have key : ∀ i, i < R.length → i ≤ ps i := by
    intro i
    induction i with
    | zero => intro _; omega
    | succ i ih => intro hi; have h1 := ih (by omega); have h2 := h.2.mono i (i + 1) (by omega) hi; omega
  rcases Nat.eq_zero_or_pos R.length with h0 | h0
  · omega
  · have h1 := key (R.length - 1) (by omega)
    have h2 := h.2.lt (R.length - 1) (by omega)
    omega
set_option maxRecDepth 100000 in
theorem copied9_nil (n : Nat) (v : Value) (w : World) (h : Rows2 w v []) (hn : n ≤ 1000) :
    Calls Tryz.prog 48 #[v, .int .i64 n] w fun e w' => e = .returned (.slice none 0 0) ∧ Ext w w' := by
  obtain ⟨a, c, rfl, h1, h2, -, hc⟩ := inCell.open h
  unfold maxLen at h2
  clear h hc
  simp only [List.length_nil] at h1 ⊢
  go_enter Tryz.func48, Tryz.ntmps48
  go_wp2_with fail
  go_loopw [5, 6] (fun out t wr => out = .slice none 0 0 ∧ t = .int .i64 0 ∧ w = wr) (fun _ _ _ => 0)
  case atStart => exact ⟨rfl, rfl, rfl⟩
  case round =>
    obtain ⟨rfl, rfl, rfl⟩ := hrel
    go_wp2_with fail
    go_ret
    exact ⟨rfl, Ext.refl _⟩
set_option maxRecDepth 100000 in
theorem hermite9_nil (n : Nat) (v : Value) (w : World) (hn : n ≤ 1000) (hcp : Calls Tryz.prog 48 #[v, .int .i64 n] w fun e w' => e = .returned (.slice none 0 0) ∧ Ext w w') :
    Calls Tryz.prog 18 #[v, .int .i64 n] w fun e w' => e = .returned (.slice none 0 0) ∧ Ext w w' := by
  have HCP := Lib.hid hcp
  clear hcp
  go_enter Tryz.func18, Tryz.ntmps18
  go_wp2_with fail
  refine HCP.out.mono ?_
  rintro e w1 ⟨rfl, hE1⟩
  have HE1 := Lib.hid hE1
  clear hE1 HCP
  go_wp2_with fail
  go_loopw [6, 7] (fun sd sc wr => sd = .int .i64 0 ∧ sc = .int .i64 0 ∧ w1 = wr) (fun _ _ _ => 0)
  case atStart => exact ⟨rfl, rfl, rfl⟩
  case round =>
    obtain ⟨rfl, rfl, rfl⟩ := hrel
    by_cases hc : 0 < n
    · go_wp2_with fail
      go_ret
      exact ⟨rfl, HE1.out⟩
    · obtain rfl : n = 0 := by omega
      go_wp2_with fail
      go_ret
      exact ⟨rfl, HE1.out⟩
/-- The Hermite form of small rows. -/
theorem hermite9_any (n N : Nat) (xss : List (List Int)) (v : Value) (w : World) (h : Rows2 w v xss) (hrow : ∀ xs ∈ xss, xs.length = n) (hn : n ≤ 1000) (hlen : xss.length ≤ 1000) (hN : 1 ≤ N) (hN2 : N ≤ 4000000000000000000) (hb : ∀ xs ∈ xss, RowLe N xs) (hZ : Zn N (n - 1) ≤ 4000000000000000000)
    (hF : ∀ k, k ≤ n → k * facN N k ≤ 9223372036854775807) :
    Calls Tryz.prog 18 #[v, .int .i64 n] w fun e w' => ∃ (u : Value) (R : List (List Int)) (ps : Nat → Nat), e = .returned u ∧ HForm n R ps ∧ SpEq n (RowsFrom 0 xss) (RowsFrom 0 R) ∧ Rows2 w' u R ∧ Ext w w' := by
  have hcp := copied9_any n xss v w h hlen hrow hn
  have hw : Wid n xss := fun i hi => hrow _ (rowE_mem hi)
  have hbi : ∀ i, i < xss.length → RowLe N (rowE_ xss i) := fun i hi => hb _ (rowE_mem hi)
  by_cases h0 : xss = []
  · subst h0
    refine (hermite9_nil n v w hn (copied9_nil n v w h hn)).mono ?_
    · rintro e w' ⟨rfl, hE⟩
      exact ⟨_, [], _, rfl, hform_nil n, SpEq.refl _ _, rows2_nil w', hE⟩
  · refine (hermite9_at n N xss v w (hcp.mono ?_) hw hn hlen hN hN2 hbi hZ).mono ?_
    · rintro e w' ⟨v', tags, rfl, hR, hv, hE⟩
      rcases hv with ⟨-, h1⟩ | ⟨g, c, rfl⟩
      · exact absurd h1 h0
      · obtain ⟨m1, m2, m3, m4⟩ := hR.mat (Nat.le_refl _)
        exact ⟨g, c, tags, rfl, m1, m2, m3, m4, hE⟩
    · rintro e w' ⟨u, m, d, ps, g0, cap, rfl, hH, hS, ⟨rfl, tags', hM, hd, hc1, hc2⟩, hE⟩
      have hl : (m.take d).length = d := by rw [List.length_take]; omega
      have hbd := form_bound (N := N) hH hw hbi hS
      refine ⟨_, m.take d, ps, rfl, hH, hS, hM.rows2 hd hc1 hc2 (fun i hi x hx => ?_), hE⟩
      have h1 := hbd i (by rw [hl]; exact hi)
      rw [rowE_take hi] at h1
      have h2 := h1 x hx
      have h3 := hF (m.take d).length ?_
      · omega
      · exact hform_le hH
end Go.Proofs.YtielnneclcekbaaGreatDoor
