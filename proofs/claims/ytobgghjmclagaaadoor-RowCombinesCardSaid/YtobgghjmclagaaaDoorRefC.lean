/- Contracts of the reference of chapter 05: Gcd, Content, Neg, Primitive. -/
import Derived.Test.YtobgghjmclagaaaDoorRefA
import Derived.Test.YtobgghjmclagaaaDoorRowG
namespace Go.Proofs.YtobgghjmclagaaaDoor
set_option linter.unusedVariables false
set_option linter.unusedSimpArgs false
open Go.RowKit

set_option maxRecDepth 100000 in
set_option maxHeartbeats 1000000 in
theorem refGcd_any (g0 x0 : Nat) (w : World) (hgl : g0 ≤ 1000000000) (hxl : x0 ≤ 1000000000) :
    Calls Tryd.prog 59 #[.int .i64 g0, .int .i64 x0] w fun e w' => e = .returned (.int .i64 (Nat.gcd g0 x0 : Nat)) ∧ Ext w w' := by
  go_enter Tryd.func59, Tryd.ntmps59
  go_wp2_with fail
  go_loopw [0, 1] (fun s5 s7 wr => ∃ g y : Nat, s5 = .int .i64 g ∧ s7 = .int .i64 y ∧ g ≤ 1000000000 ∧ y ≤ 1000000000 ∧ Hid (Nat.gcd g y = Nat.gcd g0 x0) ∧ Ext w wr) (fun _ s7 _ => (intOf s7).toNat)
  case atStart => exact ⟨g0, x0, rfl, rfl, hgl, hxl, rfl, Ext.refl _⟩
  case round =>
    obtain ⟨g, y, rfl, rfl, hg, hy, HG, hEi⟩ := hrel
    by_cases hy0 : y = 0
    · subst hy0
      have HQ : Hid (Nat.gcd g0 x0 = g) := by unfold Hid; rw [← HG.out]; simp
      go_wp2_with fail
      go_ret
      exact ⟨ret_int (by rw [HQ.out]), hEi⟩
    · have hyp : 0 < y := by omega
      have hb1 : (0 : Int) < (y : Int) := by omega
      have hb2 : ((y : Int) == 0) = false := by simp; omega
      have hb3 : ¬ (y : Int) = 0 := by omega
      obtain ⟨m, hm, hmy⟩ : ∃ m : Nat, (g : Int).tmod (y : Int) = (m : Int) ∧ m = g % y := ⟨g % y, by rw [Int.tmod_eq_emod_of_nonneg (by omega)]; exact (Int.natCast_emod g y).symm, rfl⟩
      have hml : m < y := by rw [hmy]; exact Nat.mod_lt _ hyp
      have HG2 : Hid (Nat.gcd y m = Nat.gcd g0 x0) := by unfold Hid; rw [hmy, gcd_step]; exact HG.out
      have q1 : IntKind.i64.wrap (m : Int) = (m : Int) := by rw [IntKind.wrap_i64]; omega
      clear hmy HG
      go_wp2_with fail
      go_quiet (fail)
      go_wp2
      go_roundw
      case rel => exact ⟨y, m, rfl, rfl, hy, by omega, HG2.out, Ext.draws hEi _⟩
      case measure => simp [intOf]; omega

set_option maxRecDepth 100000 in
set_option maxHeartbeats 2000000 in
theorem refContent_any (xs : List Int) (v : Value) (w : World) (h : Ints w v xs) (hok : okRow xs) :
    Calls Tryd.prog 20 #[v] w fun e w' => e = .returned (.int .i64 (gcdS xs : Nat)) ∧ Ext w w' := by
  obtain ⟨a, c, rfl, h1, h2, -, -, hc⟩ := h.open
  have HC := Lib.hid hc
  unfold maxLen at h2
  have HOK := Lib.hid hok
  have h64 := HOK.out.1
  clear h hc hok
  go_enter Tryd.func20, Tryd.ntmps20
  go_wp2_with fail
  go_loopw [3, 4] (fun g t wr => ∃ j : Nat, j ≤ xs.length ∧ t = .int .i64 j ∧ g = .int .i64 (gcdS (xs.take j) : Nat) ∧ Ext w wr) (fun _ t _ => xs.length - (intOf t).toNat)
  case atStart => exact ⟨0, by omega, rfl, rfl, Ext.refl _⟩
  case round =>
    obtain ⟨j, hj, rfl, rfl, hE⟩ := hrel
    by_cases hlt : j < xs.length
    · obtain ⟨b, off, rfl, hb, hcell⟩ := HC.out (by intro e; simp [e] at hlt)
      obtain ⟨x, hx⟩ : ∃ x, xs[j]? = some x := ⟨xs[j], List.getElem?_eq_getElem hlt⟩
      have g1 := hE.cell (hcell j x hx)
      obtain ⟨hx1, hx2⟩ := HOK.out.2 x (List.mem_of_getElem? hx)
      have hgl : gcdS (xs.take j) ≤ 1000000000 := gcdS_le _ 0 (by omega) (fun y hy => by have := HOK.out.2 y (List.mem_of_mem_take hy); omega)
      have HN : Hid (gcdS (xs.take (j + 1)) = Nat.gcd (gcdS (xs.take j)) x.natAbs) := by
        unfold Hid
        rw [take_snoc hx]; exact gcdS_snoc _ _
      obtain ⟨g0, hg0⟩ : ∃ g0, gcdS (xs.take j) = g0 := ⟨_, rfl⟩
      rw [hg0] at hgl HN ⊢
      obtain ⟨x0, hx0, hxl⟩ : ∃ x0, x.natAbs = x0 ∧ x0 ≤ 1000000000 := ⟨_, rfl, by omega⟩
      rw [hx0] at HN
      have HA := Lib.hid (fun W => refAbs_any x W (by omega) (by omega))
      rw [hx0] at HA
      have HG := Lib.hid (fun W => refGcd_any g0 x0 W hgl hxl)
      rw [← HN.out] at HG
      clear hcell hx hg0 hx0
      go_wp2_with (go_at_call 39; refine (HA.out _).mono ?_; rintro e w' ⟨rfl, rfl⟩)
      refine (HG.out _).mono ?_
      rintro e w2 ⟨rfl, hE2⟩
      have hE3 := Ext.trans hE hE2
      clear hE2 HG HA
      go_wp2_with fail
      go_roundw
      case rel => exact ⟨j + 1, by omega, by go_num, rfl, hE3⟩
      case measure => simp [intOf]; omega
    · obtain rfl : j = xs.length := by omega
      have HT : Hid (xs.take xs.length = xs) := List.take_of_length_le (Nat.le_refl _)
      rw [HT.out]
      go_wp2_with fail
      go_ret
      exact ⟨rfl, hE⟩

set_option maxRecDepth 100000 in
set_option maxHeartbeats 2000000 in
theorem refNeg_any (xs : List Int) (v : Value) (w : World) (h : Ints w v xs) (hok : okRow xs) :
    Calls Tryd.prog 32 #[v] w fun e w' => ∃ r, e = .returned r ∧ Ext w w' ∧ Ints w' r (xs.map (- ·)) := by
  obtain ⟨a, c, rfl, h1, h2, -, -, hc⟩ := h.open
  have HC := Lib.hid hc
  unfold maxLen at h2
  have HOK := Lib.hid hok
  have h64 := HOK.out.1
  clear h hc hok
  go_enter Tryd.func32, Tryd.ntmps32
  go_wp2_with fail
  go_loopw [3, 4] (fun out t wr => ∃ j : Nat, j ≤ xs.length ∧ t = .int .i64 j ∧ Ext w wr ∧ Hid (Build wr w.heap.size 3 1 out intC ((xs.map (- ·)).take j))) (fun _ t _ => xs.length - (intOf t).toNat)
  case atStart => exact ⟨0, by omega, rfl, Ext.refl _, by unfold Hid; rw [List.take_zero]; exact Build.nil _ _ _ _ _⟩
  case round =>
    obtain ⟨j, hj, rfl, hE, HBu⟩ := hrel
    by_cases hlt : j < xs.length
    · obtain ⟨b, off, rfl, hb, hcell⟩ := HC.out (by intro e; simp [e] at hlt)
      obtain ⟨x, hx⟩ : ∃ x, xs[j]? = some x := ⟨xs[j], List.getElem?_eq_getElem hlt⟩
      have g1 := hE.cell (hcell j x hx)
      obtain ⟨hx1, hx2⟩ := HOK.out.2 x (List.mem_of_getElem? hx)
      have q2 : IntKind.i64.wrap (-x) = -x := by rw [IntKind.wrap_i64]; omega
      have HN : Hid ((xs.map (- ·)).take (j + 1) = (xs.map (- ·)).take j ++ [-x]) := by
        unfold Hid
        rw [List.take_add_one, List.getElem?_map, hx]; rfl
      have HJ : Hid (((xs.map (- ·)).take j).length < 1000000) := by unfold Hid; rw [List.length_take]; omega
      have hszr := hE.size
      clear hcell hx
      go_wp2_with (at_builtin; go_must (refine wpList_append_build _ rfl _ _ 23 rfl w.heap.size 3 (.int .i64 0) 1 8 Tryd.underlying23 infoInt rfl (by decide) u3 intC ((xs.map (- ·)).take j) (-x) #[.int .i64 (-x)] 3 rfl HBu.out rfl rfl ?e1 (fun _ _ => rfl) HJ.out (by decide) hszr ?_))
      case e1 => simp [Value.oneCell']
      intro v' w5 hB5 hg5 hb5 hs5 _
      rw [← HN.out] at hB5
      have HB5 := Lib.hid hB5
      have HE5 := Lib.hid (Below.trans hE hb5)
      clear hB5 hg5 hb5
      go_wp2_with fail
      go_roundw
      case rel => exact ⟨j + 1, by omega, by go_num, HE5.out, HB5.out⟩
      case measure => simp [intOf]; omega
    · obtain rfl : j = xs.length := by omega
      have hI : Ints wr u3 (xs.map (- ·)) := by
        have := HBu.out.ints
        rw [List.take_of_length_le (by rw [List.length_map]; omega)] at this
        refine Ints.of_owns this (fun x hx => ?_)
        obtain ⟨y, hy, rfl⟩ := List.mem_map.1 hx
        have := HOK.out.2 y hy
        omega
      have HII := Lib.hid hI
      clear hI
      go_wp2_with fail
      go_ret
      exact ⟨_, rfl, hE, HII.out⟩

theorem tdiv_bdn (x : Int) (g : Nat) (A : Int) (h1 : -A ≤ x) (h2 : x ≤ A) : -A ≤ x.tdiv (g : Int) ∧ x.tdiv (g : Int) ≤ A := by
  have e := Int.natAbs_tdiv x (g : Int)
  have e2 : x.natAbs / (g : Int).natAbs ≤ x.natAbs := Nat.div_le_self _ _
  have e3 : (x.tdiv (g : Int)).natAbs ≤ x.natAbs := by rw [e]; exact e2
  clear e e2
  generalize x.tdiv (g : Int) = q at *
  omega

set_option maxRecDepth 100000 in
set_option maxHeartbeats 2000000 in
theorem refPrimitive_any (xs : List Int) (v : Value) (w : World) (h : Ints w v xs) (hok : okRow xs) (hg : gcdS xs ≠ 0) :
    Calls Tryd.prog 25 #[v] w fun e w' => ∃ r, e = .returned r ∧ Ext w w' ∧ Ints w' r (xs.map (·.tdiv (gcdS xs : Int))) := by
  have HCT := Lib.hid (refContent_any xs v w h hok)
  obtain ⟨a, c, rfl, h1, h2, -, -, hc⟩ := h.open
  have HC := Lib.hid hc
  unfold maxLen at h2
  have HOK := Lib.hid hok
  have h64 := HOK.out.1
  obtain ⟨g, hgg⟩ : ∃ g, gcdS xs = g := ⟨_, rfl⟩
  rw [hgg] at HCT hg ⊢
  have hg0 : 0 < g := by omega
  have hgb : ((g : Int) == 0) = false := by simp; omega
  have hgc : ¬ (g : Int) = 0 := by omega
  have HB : Hid (∀ x ∈ xs, -1000000000 ≤ x.tdiv (g : Int) ∧ x.tdiv (g : Int) ≤ 1000000000) := fun x hx => tdiv_bdn x g _ (HOK.out.2 x hx).1 (HOK.out.2 x hx).2
  clear h hc hok hgg hg
  go_enter Tryd.func25, Tryd.ntmps25
  go_wp2_with fail
  refine HCT.out.mono ?_
  rintro e w1 ⟨rfl, hE1⟩
  have HE1 := Lib.hid hE1
  clear hE1 HCT
  go_wp2_with fail
  go_loopw [4, 5] (fun out t wr => ∃ j : Nat, j ≤ xs.length ∧ t = .int .i64 j ∧ Ext w wr ∧ Hid (Build wr w.heap.size 3 1 out intC ((xs.map (·.tdiv (g : Int))).take j))) (fun _ t _ => xs.length - (intOf t).toNat)
  case atStart => exact ⟨0, by omega, rfl, HE1.out, by unfold Hid; rw [List.take_zero]; exact Build.nil _ _ _ _ _⟩
  case round =>
    obtain ⟨j, hj, rfl, hE, HBu⟩ := hrel
    by_cases hlt : j < xs.length
    · obtain ⟨b, off, rfl, hb, hcell⟩ := HC.out (by intro e; simp [e] at hlt)
      obtain ⟨x, hx⟩ : ∃ x, xs[j]? = some x := ⟨xs[j], List.getElem?_eq_getElem hlt⟩
      have g1 := hE.cell (hcell j x hx)
      obtain ⟨hx1, hx2⟩ := HB.out x (List.mem_of_getElem? hx)
      obtain ⟨q, hq⟩ : ∃ q, x.tdiv (g : Int) = q := ⟨_, rfl⟩
      have HN : Hid ((xs.map (·.tdiv (g : Int))).take (j + 1) = (xs.map (·.tdiv (g : Int))).take j ++ [q]) := by
        unfold Hid
        rw [List.take_add_one, List.getElem?_map, hx, ← hq]; rfl
      rw [hq] at hx1 hx2
      have q2 : IntKind.i64.wrap q = q := by rw [IntKind.wrap_i64]; omega
      have HJ : Hid (((xs.map (·.tdiv (g : Int))).take j).length < 1000000) := by unfold Hid; rw [List.length_take]; omega
      have hszr := hE.size
      clear hcell hx
      go_wp2_with (at_builtin; go_must (refine wpList_append_build _ rfl _ _ 23 rfl w.heap.size 3 (.int .i64 0) 1 8 Tryd.underlying23 infoInt rfl (by decide) u4 intC ((xs.map (·.tdiv (g : Int))).take j) q #[.int .i64 q] 3 rfl HBu.out rfl rfl ?e1 (fun _ _ => rfl) HJ.out (by decide) hszr ?_))
      case e1 => simp [Value.oneCell']
      intro v' w5 hB5 hg5 hb5 hs5 _
      rw [← HN.out] at hB5
      have HB5 := Lib.hid hB5
      have HE5 := Lib.hid (Below.trans hE hb5)
      clear hB5 hg5 hb5 hq
      go_wp2_with fail
      go_roundw
      case rel => exact ⟨j + 1, by omega, by go_num, HE5.out, HB5.out⟩
      case measure => simp [intOf]; omega
    · obtain rfl : j = xs.length := by omega
      have hI : Ints wr u4 (xs.map (·.tdiv (g : Int))) := by
        have := HBu.out.ints
        rw [List.take_of_length_le (by rw [List.length_map]; omega)] at this
        refine Ints.of_owns this (fun x hx => ?_)
        obtain ⟨y, hy, rfl⟩ := List.mem_map.1 hx
        have := HB.out y hy
        omega
      have HII := Lib.hid hI
      clear hI
      go_wp2_with fail
      go_ret
      exact ⟨_, rfl, hE, HII.out⟩
end Go.Proofs.YtobgghjmclagaaaDoor
