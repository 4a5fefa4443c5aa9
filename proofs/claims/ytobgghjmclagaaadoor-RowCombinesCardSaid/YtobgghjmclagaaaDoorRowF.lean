/- Contracts of package row: Zero, Unit. -/
import Derived.Test.YtobgghjmclagaaaDoorRowC
namespace Go.Proofs.YtobgghjmclagaaaDoor
set_option linter.unusedVariables false
set_option linter.unusedSimpArgs false
open Go.RowKit

/-- A new row of m cells in block g. -/
abbrev OwnAt (w : World) (base g m : Nat) (xs : List Int) : Prop := w.ownsRow base 3 1 (.slice (some ⟨g, 0, none⟩) m m) m (xs.map (Value.int .i64))
theorem OwnAt.ints {w : World} {base g m : Nat} {xs : List Int} (h : OwnAt w base g m xs) (hm : m = xs.length) (hb : ∀ x ∈ xs, -9223372036854775808 ≤ x ∧ x ≤ 9223372036854775807) : Ints w (.slice (some ⟨g, 0, none⟩) m m) xs := by
  subst hm; exact Ints.of_owns h hb

theorem zero_bad (n : Int) (w : World) (hn : n < 0 ∨ 64 < n) :
    Calls Tryd.prog 26 #[.int .i64 n] w fun e w' => e = .returned (.tuple #[.slice none 0 0, .int .i64 3]) ∧ w = w' := by
  by_cases h : n < 0
  · go_enter Tryd.func26, Tryd.ntmps26
    go_wp2_with fail
    go_ret2
    exact ⟨rfl, rfl⟩
  · have h2 : 64 < n := by omega
    go_enter Tryd.func26, Tryd.ntmps26
    go_wp2_with fail
    go_ret2
    exact ⟨rfl, rfl⟩

theorem zero_any (m : Nat) (w : World) (hm : m ≤ 64) :
    Calls Tryd.prog 26 #[.int .i64 m] w fun e w' => e = .returned (.tuple #[.slice (some ⟨w.heap.size, 0, none⟩) m m, .int .i64 0]) ∧ Ext w w' ∧ OwnAt w' w.heap.size w.heap.size m (List.replicate m 0) := by
  obtain ⟨i0, hi, hz0, hz1, hz2⟩ := info_parts infoInt
  have HI := Lib.hid hi; have HZ0 := Lib.hid hz0; have HZ1 := Lib.hid hz1; have HZ2 := Lib.hid hz2
  clear hi hz0 hz1 hz2
  have q1 : ¬ (m : Int) < 0 := by omega
  have q2 : ¬ (64 : Int) < (m : Int) := by omega
  go_enter Tryd.func26, Tryd.ntmps26
  go_wp2_with (at_make; refine wpList_make_full _ rfl _ _ 23 rfl w.heap.size 3 i0 (.int .i64 0) 1 Tryd.underlying23 HI.out HZ0.out HZ1.out _ _ _ _ m rfl rfl rfl rfl ?c1 ?c2 ?c3 ?_)
  case c1 => rw [HZ2.out]; omega
  case c2 => unfold maxLen; omega
  intro w3 hown hgrow
  rw [made_ints] at hown
  have HOWN := Lib.hid hown
  have HE3 := Lib.hid (ext_grown hgrow)
  clear hown hgrow
  go_wp2_with fail
  go_ret2
  exact ⟨rfl, HE3.out, HOWN.out⟩

theorem unit_bad (n i : Int) (w : World) (hn : n < 0 ∨ 64 < n) :
    Calls Tryd.prog 27 #[.int .i64 n, .int .i64 i] w fun e w' => e = .returned (.tuple #[.slice none 0 0, .int .i64 3]) ∧ w = w' := by
  have HZ := Lib.hid (zero_bad n w hn)
  clear hn
  go_enter Tryd.func27, Tryd.ntmps27
  go_wp2_with fail
  refine HZ.out.mono ?_
  rintro e w1 ⟨rfl, rfl⟩
  clear HZ
  go_wp2_with fail
  go_ret2
  exact ⟨rfl, rfl⟩

theorem unit_none (m : Nat) (i : Int) (w : World) (hm : m ≤ 64) (hi : i < 0 ∨ (m : Int) ≤ i) :
    Calls Tryd.prog 27 #[.int .i64 m, .int .i64 i] w fun e w' => e = .returned (.tuple #[.slice none 0 0, .int .i64 3]) ∧ Ext w w' := by
  have HZ := Lib.hid (zero_any m w hm)
  by_cases h : i < 0
  · clear hi
    go_enter Tryd.func27, Tryd.ntmps27
    go_wp2_with fail
    refine HZ.out.mono ?_
    rintro e w1 ⟨rfl, hE, hO⟩
    have HE := Lib.hid hE
    clear HZ hE hO
    go_wp2_with fail
    go_ret2
    exact ⟨rfl, HE.out⟩
  · have h2 : (m : Int) ≤ i := by omega
    have h3 : ¬ i < (m : Int) := by omega
    clear hi
    go_enter Tryd.func27, Tryd.ntmps27
    go_wp2_with fail
    refine HZ.out.mono ?_
    rintro e w1 ⟨rfl, hE, hO⟩
    have HE := Lib.hid hE
    clear HZ hE hO
    go_wp2_with fail
    go_ret2
    exact ⟨rfl, HE.out⟩

theorem unit_any (m k : Nat) (w : World) (hm : m ≤ 64) (hk : k < m) :
    Calls Tryd.prog 27 #[.int .i64 m, .int .i64 k] w fun e w' => e = .returned (.tuple #[.slice (some ⟨w.heap.size, 0, none⟩) m m, .int .i64 0]) ∧ Ext w w' ∧ OwnAt w' w.heap.size w.heap.size m ((List.replicate m 0).set k 1) := by
  have HZ := Lib.hid (zero_any m w hm)
  have q1 : ¬ (k : Int) < 0 := by omega
  have q2 : ¬ (m : Int) ≤ (k : Int) := by omega
  have HG : Hid ((List.replicate m (0 : Int))[k]? = some 0) := by unfold Hid; simp [hk]
  go_enter Tryd.func27, Tryd.ntmps27
  go_wp2_with fail
  refine HZ.out.mono ?_
  rintro e w1 ⟨rfl, hE, hO⟩
  obtain ⟨hc, hf⟩ := owns_cell hO HG.out
  have HS := Lib.hid (owns_set hO k 1)
  have HE := Lib.hid (Below.setCell hE (p := ⟨w.heap.size, k, none⟩) (Nat.le_refl _) (.int .i64 1))
  clear HZ hE hO
  go_wp2_with fail
  go_ret2
  exact ⟨rfl, HE.out, HS.out⟩
end Go.Proofs.YtobgghjmclagaaaDoor
