/- Contracts of package row: abs, Content, Primitive. -/
import Derived.Test.YtobgghjmclagaaaDoorRowB
import Derived.WalkLawsBesides
namespace Go.Proofs.YtobgghjmclagaaaDoor
set_option linter.unusedVariables false
set_option linter.unusedSimpArgs false
open Go.RowKit

theorem ret_int {k : IntKind} {a b : Int} (h : a = b) : Ending.returned (.int k a) = .returned (.int k b) := by rw [h]
theorem abs_any (n : Int) (w : World) (h1 : -9223372036854775807 ≤ n) (h2 : n ≤ 9223372036854775807) : Calls Tryd.prog 56 #[.int .i64 n] w fun e w' => e = .returned (.int .i64 (n.natAbs : Int)) ∧ w = w' := by
  have q : IntKind.i64.wrap (-n) = -n := by rw [IntKind.wrap_i64]; omega
  go_enter Tryd.func56, Tryd.ntmps56
  go_wp2
  all_goals (go_ret; exact ⟨ret_int (by omega), rfl⟩)

def gcdS (xs : List Int) : Nat := xs.foldl (fun g x => Nat.gcd g x.natAbs) 0
theorem gcd_step (g x : Nat) : Nat.gcd x (g % x) = Nat.gcd g x := by
  rw [Nat.gcd_comm g x, Nat.gcd_comm x (g % x)]
  exact (Nat.gcd_rec x g).symm
theorem gcdS_snoc (xs : List Int) (x : Int) : gcdS (xs ++ [x]) = Nat.gcd (gcdS xs) x.natAbs := by unfold gcdS; rw [List.foldl_append]; rfl
theorem gcdS_le {A : Nat} : ∀ (xs : List Int) (g : Nat), g ≤ A → (∀ x ∈ xs, x.natAbs ≤ A) → xs.foldl (fun g x => Nat.gcd g x.natAbs) g ≤ A
  | [], g, h, _ => h
  | x :: xs, g, h, hx => by
    refine gcdS_le xs _ ?_ (fun y hy => hx y (by simp [hy]))
    have hxa := hx x (by simp)
    rcases Nat.eq_zero_or_pos g with h0 | h0
    · subst h0; simpa using hxa
    · exact Nat.le_trans (Nat.gcd_le_left _ h0) h

set_option maxRecDepth 100000 in
set_option maxHeartbeats 2000000 in
theorem content_any (xs : List Int) (v : Value) (w : World) (h : Ints w v xs) :
    Calls Tryd.prog 17 #[v] w fun e w' => e = .returned (.tuple #[.int .i64 (if rowE xs = 0 then (gcdS xs : Int) else 0), .int .i64 (rowE xs)]) ∧ Ext w w' := by
  have HCK := Lib.hid (rowCheck_any xs v w h)
  obtain ⟨a, c, rfl, h1, h2, -, -, hc⟩ := h.open
  have HC := Lib.hid hc
  unfold maxLen at h2
  clear h hc
  by_cases he : rowE xs = 0
  · have HOK := Lib.hid ((rowE_zero xs).1 he)
    have h64 := HOK.out.1
    rw [if_pos he, he]
    rw [he] at HCK
    clear he
    go_enter Tryd.func17, Tryd.ntmps17
    go_wp2_with fail
    refine HCK.out.mono ?_
    rintro e w1 ⟨rfl, hE1⟩
    have HE1 := Lib.hid hE1
    clear hE1 HCK
    go_wp2_with fail
    go_loopw [5, 15] (fun g t wr => ∃ j : Nat, j ≤ xs.length ∧ t = .int .i64 j ∧ g = .int .i64 (gcdS (xs.take j) : Int) ∧ Ext w wr) (fun _ t _ => xs.length - (intOf t).toNat)
    case atStart => exact ⟨0, by omega, rfl, rfl, HE1.out⟩
    case round =>
      obtain ⟨j, hj, rfl, rfl, hE⟩ := hrel
      obtain ⟨wo, rfl⟩ : ∃ wo : World, wo = wr := ⟨_, rfl⟩
      by_cases hlt : j < xs.length
      · obtain ⟨b, off, rfl, hb, hcell⟩ := HC.out (by intro e; simp [e] at hlt)
        obtain ⟨x, hx⟩ : ∃ x, xs[j]? = some x := ⟨xs[j], List.getElem?_eq_getElem hlt⟩
        have g1 := hE.cell (hcell j x hx)
        obtain ⟨hx1, hx2⟩ := HOK.out.2 x (List.mem_of_getElem? hx)
        have hgl : gcdS (xs.take j) ≤ 1000000000 := gcdS_le _ 0 (by omega) (fun y hy => by have := HOK.out.2 y (List.mem_of_mem_take hy); omega)
        have HN : Hid (gcdS (xs.take (j + 1)) = Nat.gcd (gcdS (xs.take j)) x.natAbs) := by
          unfold Hid
          rw [List.take_add_one, hx]; exact gcdS_snoc _ _
        obtain ⟨g0, hg0⟩ : ∃ g0, gcdS (xs.take j) = g0 := ⟨_, rfl⟩
        rw [hg0] at hgl HN ⊢
        obtain ⟨x0, hx0, hxl⟩ : ∃ x0, x.natAbs = x0 ∧ x0 ≤ 1000000000 := ⟨_, rfl, by omega⟩
        rw [hx0] at HN
        have HA := Lib.hid (fun W => abs_any x W (by omega) (by omega))
        rw [hx0] at HA
        clear hcell hx hg0 hx0
        go_wp2_with (go_at_call 56; refine (HA.out _).mono ?_; rintro e w' ⟨rfl, rfl⟩)
        go_loopw [5, 7] (fun s5 s7 wr => ∃ g y : Nat, s5 = .int .i64 g ∧ s7 = .int .i64 y ∧ g ≤ 1000000000 ∧ y ≤ 1000000000 ∧ Hid (Nat.gcd g y = Nat.gcd g0 x0) ∧ Ext wo wr) (fun _ s7 _ => (intOf s7).toNat)
        case atStart => exact ⟨g0, x0, rfl, rfl, hgl, hxl, rfl, Ext.refl _⟩
        case round =>
          obtain ⟨g, y, rfl, rfl, hg, hy, HG, hEi⟩ := hrel
          by_cases hy0 : y = 0
          · subst hy0
            have hgg : g = Nat.gcd g0 x0 := by have := HG.out; simpa using this
            have HGG := Lib.hid hgg
            clear hgg
            have hE2 := Ext.trans hE hEi
            go_wp2_with fail
            go_roundw
            case rel => exact ⟨j + 1, by omega, by go_num, by rw [HN.out, ← HGG.out], hE2⟩
            case measure => simp [intOf]; omega
          · have hyp : 0 < y := by omega
            have hb1 : ((y : Int) != 0) = true := by simp; omega
            have hb2 : ((y : Int) == 0) = false := by simp; omega
            have hb3 : ¬ (y : Int) = 0 := by omega
            obtain ⟨m, hm, hmy⟩ : ∃ m : Nat, (g : Int).tmod (y : Int) = (m : Int) ∧ m = g % y := ⟨g % y, by rw [Int.tmod_eq_emod_of_nonneg (by omega)]; exact (Int.natCast_emod g y).symm, rfl⟩
            have hml : m < y := by rw [hmy]; exact Nat.mod_lt _ hyp
            have HG2 : Hid (Nat.gcd y m = Nat.gcd g0 x0) := by unfold Hid; rw [hmy, gcd_step]; exact HG.out
            have q1 : IntKind.i64.wrap (m : Int) = (m : Int) := by rw [IntKind.wrap_i64]; omega
            clear hmy HG
            go_wp2_with fail
            go_quiet (fail)
            go_wp2
            go_roundw
            case rel => exact ⟨y, m, rfl, rfl, hy, by omega, HG2.out, Ext.draws hEi _⟩
            case measure => simp [intOf]; omega
      · obtain rfl : j = xs.length := by omega
        go_wp2_with fail
        go_ret2
        exact ⟨by rw [List.take_of_length_le (Nat.le_refl _)]; rfl, hE⟩
  · have h4 : rowE xs = 4 := (rowE_four xs).resolve_left he
    rw [if_neg he, h4]
    rw [h4] at HCK
    clear he h4
    go_enter Tryd.func17, Tryd.ntmps17
    go_wp2_with fail
    refine HCK.out.mono ?_
    rintro e w1 ⟨rfl, hE1⟩
    have HE1 := Lib.hid hE1
    clear hE1 HCK
    go_wp2_with fail
    go_ret2
    exact ⟨rfl, HE1.out⟩

def primE (xs : List Int) : Int := if rowE xs = 0 then (if gcdS xs = 0 then 17 else 0) else rowE xs

set_option maxRecDepth 100000 in
set_option maxHeartbeats 2000000 in
theorem primitive_any (xs : List Int) (v : Value) (w : World) (h : Ints w v xs) :
    Calls Tryd.prog 18 #[v] w fun e w' => ∃ r, e = .returned (.tuple #[r, .int .i64 (primE xs)]) ∧ Ext w w' ∧ (primE xs = 0 → Ints w' r (xs.map (·.tdiv (gcdS xs : Int)))) ∧ (¬ primE xs = 0 → r = .slice none 0 0) := by
  have HCT := Lib.hid (content_any xs v w h)
  obtain ⟨a, c, rfl, h1, h2, -, -, hc⟩ := h.open
  have HC := Lib.hid hc
  unfold maxLen at h2
  clear h hc
  by_cases he : rowE xs = 0
  · have HOK := Lib.hid ((rowE_zero xs).1 he)
    have h64 := HOK.out.1
    rw [if_pos he, he] at HCT
    have HE0 := Lib.hid he
    clear he
    by_cases hg : gcdS xs = 0
    · have HQ : Hid (primE xs = 17) := by unfold Hid primE; rw [if_pos HE0.out, if_pos hg]
      rw [hg] at HCT
      rw [HQ.out]
      clear hg
      go_enter Tryd.func18, Tryd.ntmps18
      go_wp2_with fail
      refine HCT.out.mono ?_
      rintro e w1 ⟨rfl, hE1⟩
      have HE1 := Lib.hid hE1
      clear hE1 HCT
      go_wp2_with fail
      go_ret2
      exact ⟨_, rfl, HE1.out, by simp, fun _ => rfl⟩
    · have HQ : Hid (primE xs = 0) := by unfold Hid primE; rw [if_pos HE0.out, if_neg hg]
      rw [HQ.out]
      obtain ⟨g, hgg⟩ : ∃ g, gcdS xs = g := ⟨_, rfl⟩
      rw [hgg] at HCT hg ⊢
      have hg0 : 0 < g := by omega
      have hgb : ((g : Int) == 0) = false := by simp; omega
      have hgc : ¬ (g : Int) = 0 := by omega
      have HB : Hid (∀ x ∈ xs, -1000000000 ≤ x.tdiv (g : Int) ∧ x.tdiv (g : Int) ≤ 1000000000) := by
        intro x hx
        have := HOK.out.2 x hx
        have e := Int.natAbs_tdiv x (g : Int)
        have e2 : x.natAbs / (g : Int).natAbs ≤ x.natAbs := Nat.div_le_self _ _
        have e3 : (x.tdiv (g : Int)).natAbs ≤ x.natAbs := by rw [e]; exact e2
        clear e e2
        generalize x.tdiv (g : Int) = q at *
        omega
      obtain ⟨i0, hi, hz0, hz1, hz2⟩ := info_parts infoInt
      have HI := Lib.hid hi; have HZ0 := Lib.hid hz0; have HZ1 := Lib.hid hz1; have HZ2 := Lib.hid hz2
      clear hgg hg hi hz0 hz1 hz2
      go_enter Tryd.func18, Tryd.ntmps18
      go_wp2_with fail
      refine HCT.out.mono ?_
      rintro e w1 ⟨rfl, hE1⟩
      have HE1 := Lib.hid hE1
      clear hE1 HCT
      go_wp2_with (at_make; refine wpList_make_own _ rfl _ _ 23 rfl w1.heap.size 3 i0 (.int .i64 0) 1 Tryd.underlying23 HI.out HZ0.out HZ1.out _ _ _ xs.length rfl rfl rfl ?c1 ?c2 ?c3 ?_)
      case c1 => rw [HZ2.out]; omega
      case c2 => unfold maxLen; omega
      case c3 => exact Nat.le_refl _
      intro w3 hown hgrow
      have HOWN := Lib.hid (owns_base hown HE1.out.size)
      have HE3 := Lib.hid (Ext.trans HE1.out (ext_grown hgrow))
      clear hown hgrow
      go_wp2_with fail
      go_loopw [6, 24] (fun out t wr => ∃ j : Nat, j ≤ xs.length ∧ t = .int .i64 j ∧ Ext w wr ∧ Hid (Build wr w.heap.size 3 1 out intC ((xs.map (·.tdiv (g : Int))).take j))) (fun _ t _ => xs.length - (intOf t).toNat)
      case atStart => exact ⟨0, by omega, rfl, HE3.out, Build.madeInts HOWN.out⟩
      case round =>
        obtain ⟨j, hj, rfl, hE, HBu⟩ := hrel
        by_cases hlt : j < xs.length
        · obtain ⟨b, off, rfl, hb, hcell⟩ := HC.out (by intro e; simp [e] at hlt)
          obtain ⟨x, hx⟩ : ∃ x, xs[j]? = some x := ⟨xs[j], List.getElem?_eq_getElem hlt⟩
          have g1 := hE.cell (hcell j x hx)
          obtain ⟨hx1, hx2⟩ := HB.out x (List.mem_of_getElem? hx)
          obtain ⟨q, hq⟩ : ∃ q, x.tdiv (g : Int) = q := ⟨_, rfl⟩
          have HN : Hid ((xs.map (·.tdiv (g : Int))).take (j + 1) = (xs.map (·.tdiv (g : Int))).take j ++ [q]) := by
            unfold Hid
            rw [List.take_add_one, List.getElem?_map, hx, ← hq]; rfl
          rw [hq] at hx1 hx2
          have q2 : IntKind.i64.wrap q = q := by rw [IntKind.wrap_i64]; omega
          have HJ : Hid (((xs.map (·.tdiv (g : Int))).take j).length < 1000000) := by unfold Hid; rw [List.length_take]; omega
          have hszr := hE.size
          clear hcell hx
          go_wp2_with (at_builtin; go_must (refine wpList_append_build _ rfl _ _ 23 rfl w.heap.size 3 (.int .i64 0) 1 8 Tryd.underlying23 infoInt rfl (by decide) u6 intC ((xs.map (·.tdiv (g : Int))).take j) q #[.int .i64 q] 3 rfl HBu.out rfl rfl ?e1 (fun _ _ => rfl) HJ.out (by decide) hszr ?_))
          case e1 => simp [Value.oneCell']
          intro v' w5 hB5 hg5 hb5 hs5 _
          rw [← HN.out] at hB5
          have HB5 := Lib.hid hB5
          have HE5 := Lib.hid (Below.trans hE hb5)
          clear hB5 hg5 hb5 hq
          go_wp2_with fail
          go_roundw
          case rel => exact ⟨j + 1, by omega, by go_num, HE5.out, HB5.out⟩
          case measure => simp [intOf]; omega
        · obtain rfl : j = xs.length := by omega
          have hI : Ints wr u6 (xs.map (·.tdiv (g : Int))) := by
            have := HBu.out.ints
            rw [List.take_of_length_le (by rw [List.length_map]; omega)] at this
            refine Ints.of_owns this (fun x hx => ?_)
            obtain ⟨y, hy, rfl⟩ := List.mem_map.1 hx
            have := HB.out y hy
            omega
          have HII := Lib.hid hI
          clear hI
          go_wp2_with fail
          go_ret2
          exact ⟨_, rfl, hE, fun _ => HII.out, by simp⟩
  · have h4 : rowE xs = 4 := (rowE_four xs).resolve_left he
    have HQ : Hid (primE xs = 4) := by unfold Hid primE; rw [if_neg he, h4]
    rw [if_neg he, h4] at HCT
    rw [HQ.out]
    clear he h4
    go_enter Tryd.func18, Tryd.ntmps18
    go_wp2_with fail
    refine HCT.out.mono ?_
    rintro e w1 ⟨rfl, hE1⟩
    have HE1 := Lib.hid hE1
    clear hE1 HCT
    go_wp2_with fail
    go_ret2
    exact ⟨_, rfl, HE1.out, by simp, fun _ => rfl⟩
end Go.Proofs.YtobgghjmclagaaaDoor
