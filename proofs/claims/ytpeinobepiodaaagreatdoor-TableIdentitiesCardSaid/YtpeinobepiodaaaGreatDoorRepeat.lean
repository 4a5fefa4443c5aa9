/- Contracts of slices.Repeat (one rational, some times) and slices.Clone at rows of rationals. -/
import Derived.Test.YtpeinobepiodaaaGreatDoorCopyK
import Derived.Test.YtpeinobepiodaaaGreatDoorRegE
import Derived.Deep.CutRange
import Derived.Test.YtpeinobepiodaaaGreatDoorShelfB
import Derived.Test.YtpeinobepiodaaaGreatDoorTypes
namespace Go.Proofs.YtpeinobepiodaaaGreatDoor
set_option linter.unusedVariables false
set_option linter.unusedSimpArgs false
open Go.RowKit

def repC (q : Rat) (n k : Nat) : List Value := cellsQ (List.replicate k q) ++ List.replicate (2 * (n - k)) (.string ⟨#[]⟩)
theorem repC_len (q : Rat) {n k : Nat} (h : k ≤ n) : (repC q n k).length = n * 2 := by
  unfold repC; rw [List.length_append, cellsQ_len]; simp; omega
theorem repC_all (q : Rat) (n : Nat) : repC q n n = cellsQ (List.replicate n q) := by simp [repC]
theorem repC_zero (q : Rat) (n : Nat) : repC q n 0 = List.replicate (n * 2) (.string ⟨#[]⟩) := by simp [repC, cellsQ, Nat.mul_comm]
theorem repC_copy (q : Rat) {n k m : Nat} (h : k + m ≤ n) : (repC q n k).take (k * 2) ++ cellsQ (List.replicate m q) ++ (repC q n k).drop (k * 2 + (cellsQ (List.replicate m q)).length) = repC q n (k + m) := by
  have h1 : (cellsQ (List.replicate k q)).length = k * 2 := by rw [cellsQ_len]; simp
  unfold repC
  rw [List.take_left' h1, List.drop_append, List.drop_eq_nil_of_le (by omega), h1, List.nil_append, List.drop_replicate, cellsQ_len, List.length_replicate, show k * 2 + m * 2 - k * 2 = m * 2 by omega, show 2 * (n - k) - m * 2 = 2 * (n - (k + m)) by omega, ← List.replicate_append_replicate (n := k) (m := m), cellsQ_append]
theorem repC_src (q : Rat) {n k m : Nat} (hm : m ≤ k) {j : Nat} {v : Value} (h : (cellsQ (List.replicate m q))[j]? = some v) : (repC q n k)[j]? = some v := by
  unfold repC
  have hj := (List.getElem?_eq_some_iff.1 h).1
  rw [cellsQ_len] at hj
  rw [List.getElem?_append_left (by rw [cellsQ_len]; simp at hj ⊢; omega)]
  have e : List.replicate k q = List.replicate m q ++ List.replicate (k - m) q := by rw [List.replicate_append_replicate]; congr 1; omega
  rw [e, cellsQ_append, List.getElem?_append_left (by rw [cellsQ_len]; exact hj)]
  exact h
theorem cellsQ_one (l : List Rat) : ∀ v ∈ cellsQ l, v.oneCell' = true := by
  intro z hz
  unfold cellsQ at hz
  obtain ⟨l, hl, hz⟩ := List.mem_flatten.1 hz
  obtain ⟨q, -, rfl⟩ := List.mem_map.1 hl
  simp only [List.mem_cons, List.not_mem_nil, or_false] at hz
  rcases hz with rfl | rfl <;> rfl
theorem made2 (s : Value) (n : Nat) : (madeCells #[s, s] n).toList = List.replicate n s := by
  apply List.ext_getElem
  · simp [madeCells]
  · intro j h1 h2
    have hj : j < n := by simpa using h2
    simp only [madeCells, Array.toList_map, List.getElem_map, List.getElem_replicate]
    have h3 : j % 2 = 0 ∨ j % 2 = 1 := by omega
    rcases h3 with h3 | h3 <;> simp [h3]
theorem RepBlk.own {B g n : Nat} {w : World} {q : Rat} (h : w.heap[g]? = some (.cells (repC q n n).toArray 81 (0, 0))) (hB : B ≤ g) (hn : n ≤ 1000) : OwnQ B w (.slice (some ⟨g, 0, none⟩) n n) (List.replicate n q) := by
  refine ⟨by rw [cellsQ_len], .inr ⟨g, n, _, by simp, hB, h, by simp, by unfold maxLen; omega, ?_, ?_⟩⟩
  · simp [repC_len q (Nat.le_refl n)]
  · rw [repC_all]
    simp
    rw [List.take_of_length_le (by rw [cellsQ_len]; simp)]

set_option maxRecDepth 100000 in
set_option maxHeartbeats 4000000 in
theorem repeat_any (q : Rat) (n : Nat) (hn : n ≤ 1000) (v : Value) (w : World) (h : Rats w v [q]) :
    Calls Tryz.prog 55 #[v, .int .i64 (n : Int)] w fun e w' => ∃ g, e = .returned (.slice (some ⟨g, 0, none⟩) n n) ∧ OwnQ w.heap.size w' (.slice (some ⟨g, 0, none⟩) n n) (List.replicate n q) ∧ Ext w w' := by
  obtain ⟨i0, hi, hz0, hz1, hz2⟩ := info_parts infoRat
  have HI := Lib.hid hi; have HZ0 := Lib.hid hz0; have HZ1 := Lib.hid hz1; have HZ2 := Lib.hid hz2
  clear hi hz0 hz1 hz2
  obtain ⟨a, c, rfl, h1, h2, -, hc⟩ := h.open
  obtain ⟨b, off, rfl, hb, hcell⟩ := hc (by omega) (by simp)
  have HSRC : Hid (∀ W, Ext w W → ∀ j v, (cellsQ (List.replicate (Nat.min 1 n) q))[j]? = some v → W.cell? ((⟨b, off, none⟩ : Addr).add j) = some v) := fun W hW j v hv => by
    obtain ⟨u, -, rfl, hu⟩ := hcell 0 q rfl
    have hj := (List.getElem?_eq_some_iff.1 hv).1
    rw [cellsQ_len] at hj
    have hn1 : Nat.min 1 n = 1 := by
      have : (List.replicate (Nat.min 1 n) q).length = Nat.min 1 n := by simp
      have h0 : Nat.min 1 n ≤ 1 := Nat.min_le_left _ _
      omega
    rw [hn1] at hv hj
    rw [show (⟨b, off, none⟩ : Addr).add j = ⟨b, off + (0 * 2 + j), none⟩ by unfold Addr.add; split <;> simp_all]
    refine hW.cell ((hu j (by simpa using hj)).trans ?_)
    exact hv
  simp only [List.length_cons, List.length_nil, Nat.zero_add] at h1 ⊢
  clear h hc hcell
  unfold maxLen at h2
  have q1 : ¬ (n : Int) < 0 := by omega
  have HMUL : Hid (∀ W, Calls Tryz.prog 92 #[.int .u64 1, .int .u64 (n : Int)] W fun e w' => e = .returned (.tuple #[.int .u64 0, .int .u64 (n : Int)]) ∧ w' = W) := fun W => by
    have := Tryz.bits_Mul 1 n (by decide) (by omega) W
    rw [Nat.one_mul, Nat.div_eq_of_lt (by omega), Nat.mod_eq_of_lt (by omega)] at this
    exact this
  have q2 : IntKind.u64.wrap (n : Int) = (n : Int) := by rw [IntKind.wrap_u64]; omega
  have q3 : IntKind.i64.wrap (n : Int) = (n : Int) := by rw [IntKind.wrap_i64]; omega
  have q4 : ¬ (9223372036854775807 : Int) < (n : Int) := by omega
  go_enter Tryz.func55, Tryz.ntmps55
  go_wp2_with fail
  refine (HMUL.out _).mono ?_
  rintro e w1 ⟨rfl, rfl⟩
  clear HMUL
  go_wp2_with (at_make; refine wpList_make_full _ rfl _ _ 39 rfl w1.heap.size 81 i0 (.agg #[.string ⟨#[]⟩, .string ⟨#[]⟩]) 2 Tryz.underlying39 HI.out HZ0.out HZ1.out _ _ _ _ n rfl rfl rfl rfl ?c1 ?c2 ?c3 ?_)
  any_goals (first | (rw [HZ2.out]; omega) | (unfold maxLen; omega) | exact Nat.le_refl _)
  intro w3 hown hgrow
  have hs2 : (i0.zero = some (.agg #[.string ⟨#[]⟩, .string ⟨#[]⟩])) := HZ0.out
  have HG3 : Hid (w3.heap[w1.heap.size]? = some (.cells (repC q n 0).toArray 81 (0, 0)) ∧ Ext w1 w3) := by
    refine ⟨?_, ext_grown hgrow⟩
    rcases hown.2 with ⟨hv, -⟩ | ⟨g', cap, cur, hv, -, hg, -, -, h3, h4⟩
    · simp at hv
    · simp only [Value.slice.injEq, Option.some.injEq, Addr.mk.injEq] at hv
      obtain ⟨⟨rfl, -, -⟩, -, rfl⟩ := hv
      rw [hg, repC_zero]
      congr 2
      have h5 : cur.toList = List.replicate (n * 2) (.string ⟨#[]⟩) := by
        rw [List.take_of_length_le (by simp [h3])] at h4
        rw [h4]
        exact made2 _ _
      rw [← h5]
  clear hown hgrow hs2
  have HN2 : Hid ((cellsQ (List.replicate (Nat.min 1 n) q)).length = Nat.min 1 n * 2 ∧ 0 * 2 + (cellsQ (List.replicate (Nat.min 1 n) q)).length ≤ (repC q n 0).toArray.size) := by
    have h0 : Nat.min 1 n ≤ n := Nat.min_le_right _ _
    refine ⟨by rw [cellsQ_len]; simp, ?_⟩
    simp only [List.size_toArray]
    rw [cellsQ_len, repC_len q (Nat.zero_le n)]
    simp; omega
  obtain ⟨k0, hk0⟩ : ∃ k0, k0 = Nat.min 1 n := ⟨_, rfl⟩
  have hk01 : k0 ≤ n := by rw [hk0]; exact Nat.min_le_right _ _
  have hk02 : 0 < n → 0 < k0 := fun h => by rw [hk0]; exact Nat.lt_min.2 ⟨by omega, h⟩
  have HK := Lib.hid (And.intro hk01 hk02)
  have HK0 := Lib.hid hk0
  clear hk0 hk01 hk02
  have HCO : Hid ((((repC q n 0).toArray.toList.take 0) ++ cellsQ (List.replicate (Nat.min 1 n) q) ++ (repC q n 0).toArray.toList.drop (0 + (cellsQ (List.replicate (Nat.min 1 n) q)).length)).toArray = (repC q n k0).toArray) := by
    have := repC_copy q (n := n) (k := 0) (m := k0) (by have := HK.out.1; omega)
    unfold Hid
    rw [HK0.out] at this ⊢
    simpa using congrArg List.toArray this
  obtain ⟨W4, hW4⟩ : ∃ W4, W4 = w3.setRow w1.heap.size (((repC q n 0).toArray.toList.take 0) ++ cellsQ (List.replicate (Nat.min 1 n) q) ++ (repC q n 0).toArray.toList.drop (0 + (cellsQ (List.replicate (Nat.min 1 n) q)).length)).toArray := ⟨_, rfl⟩
  have hcp : (Builtin.copy_ #[39, 39] 3 #[.slice (some ⟨w1.heap.size, 0, none⟩) n n, .slice (some ⟨b, off, none⟩) 1 c]).run Tryz.prog w3 = .ok (.int .i64 (k0 : Int)) W4 := by
    rw [hW4, HK0.out]
    exact run_copyK w3 _ _ _ 81 w1.heap.size 0 n n ⟨b, off, none⟩ 1 c (repC q n 0).toArray 81 (cellsQ (List.replicate (Nat.min 1 n) q)) 2 Tryz.underlying39 (by kernel_rfl) HG3.out.1 HN2.out.1 (HSRC.out _ HG3.out.2) (by have := HN2.out.2; simpa using this) (cellsQ_one _)
  have HG4 : Hid (W4.heap[w1.heap.size]? = some (.cells (repC q n k0).toArray 81 (0, 0)) ∧ Ext w1 W4) := by
    rw [hW4, HCO.out]
    exact ⟨setRow_heap w3 _ _ _ _ _ HG3.out.1, below_setRow HG3.out.2 (Nat.le_refl _) _⟩
  clear hW4 HCO HN2 HSRC HK0
  go_wp2_with fail
  clear hcp
  go_loopw [8] (fun t wr => ∃ k : Nat, k ≤ n ∧ (0 < n → 0 < k) ∧ t = .int .i64 (k : Int) ∧ Hid (wr.heap[w1.heap.size]? = some (.cells (repC q n k).toArray 81 (0, 0)) ∧ Ext w1 wr)) (fun t _ => n - (intOf t).toNat)
  case atStart => exact ⟨k0, HK.out.1, HK.out.2, rfl, HG4.out⟩
  case round =>
    obtain ⟨k, hk, hk0, rfl, HG⟩ := hrel
    obtain ⟨wo, rfl⟩ : ∃ wo : World, wo = wr := ⟨_, rfl⟩
    by_cases hlt : k < n
    · skip
      -- REGION 9
      obtain ⟨m, hm⟩ : ∃ m, m = Nat.min k (n - k) := ⟨_, rfl⟩
      have hm1 : m ≤ k := by rw [hm]; exact Nat.min_le_left _ _
      have hm2 : m ≤ n - k := by rw [hm]; exact Nat.min_le_right _ _
      have hm3 : 0 < m := by rw [hm]; exact Nat.lt_min.2 ⟨hk0 (by omega), by omega⟩
      have HMN : Hid (m = Nat.min k (n - k)) := hm
      have p1 : (k : Int) ≤ (n : Int) := by omega
      have p2 : (0 : Int) ≤ (k : Int) := by omega
      have p3 : IntKind.i64.wrap ((k : Int) + (m : Int)) = (k : Int) + (m : Int) := by rw [IntKind.wrap_i64]; omega
      have hGD : wo.drew.heap[w1.heap.size]? = some (.cells (repC q n k).toArray 81 (0, 0)) := HG.out.1
      obtain ⟨W5, hW5⟩ : ∃ W5, W5 = wo.drew.setRow w1.heap.size (((repC q n k).toArray.toList.take (k * 2)) ++ cellsQ (List.replicate m q) ++ (repC q n k).toArray.toList.drop (k * 2 + (cellsQ (List.replicate m q)).length)).toArray := ⟨_, rfl⟩
      have hcp : (Builtin.copy_ #[39, 39] 3 #[.slice (some ⟨w1.heap.size, k * 2, none⟩) (n - k) (n - k), .slice (some ⟨w1.heap.size, 0, none⟩) k n]).run Tryz.prog wo.drew = .ok (.int .i64 (m : Int)) W5 := by
        rw [hW5, hm]
        exact run_copyK wo.drew _ _ _ 81 w1.heap.size (k * 2) (n - k) (n - k) ⟨w1.heap.size, 0, none⟩ k n (repC q n k).toArray 81 (cellsQ (List.replicate (Nat.min k (n - k)) q)) 2 Tryz.underlying39 (by kernel_rfl) hGD (by rw [cellsQ_len]; simp) (fun j v hv => by
          rw [show (⟨w1.heap.size, 0, none⟩ : Addr).add j = ⟨w1.heap.size, j, none⟩ by unfold Addr.add; split <;> simp_all]
          have := repC_src q (n := n) (k := k) (Nat.min_le_left _ _) hv
          simp only [World.cell?, hGD]
          simpa using this) (by simp only [List.size_toArray]; rw [cellsQ_len, repC_len q hk, List.length_replicate, ← hm]; omega) (cellsQ_one _)
      have HG5 : Hid (W5.heap[w1.heap.size]? = some (.cells (repC q n (k + m)).toArray 81 (0, 0)) ∧ Ext w1 W5) := by
        rw [hW5]
        refine ⟨?_, below_setRow (HG.out.2.trans (Ext.drew _)) (Nat.le_refl _) _⟩
        rw [setRow_heap wo.drew _ _ _ _ _ hGD]
        have := repC_copy q (n := n) (k := k) (m := m) (by omega)
        rw [← this]
      have q5 : (k : Int) < (n : Int) := by omega
      have q6 : ¬ n = k := by omega
      clear hW5 hm hGD
      go_upto_region 9 with (fail)
      refine region_anyE (fun _ => True) 7 (by kernel_rfl) trivial (fun hHeld => ?_)
      refine anyE_takeW (v := ?_) 0 rfl (by kernel_rfl) (by kernel_rfl) (by kernel_rfl) (by decide) (fun _ _ _ h => h) (Or.inl ⟨by rfl, ?_⟩) (by assumption) ?_
      rotate_left
      · ((intro w'); (try go_simp); (try with_reducible rfl))
      (try simp only [Act.put, List.setIfInBounds_toArray, List.set_cons_zero, List.set_cons_succ])
      refine anyE_takeW (v := ?_) 1 rfl (by kernel_rfl) (by kernel_rfl) (by kernel_rfl) (by decide) (fun _ _ _ h => h) (Or.inl ⟨by rfl, ?_⟩) (by assumption) ?_
      rotate_left
      · ((intro w'); (try go_simp); (try with_reducible rfl))
      (try simp only [Act.put, List.setIfInBounds_toArray, List.set_cons_zero, List.set_cons_succ])
      refine anyE_takeW (v := ?_) 2 rfl (by kernel_rfl) (by kernel_rfl) (by kernel_rfl) (by decide) (fun _ _ _ h => h) (Or.inl ⟨by rfl, ?_⟩) (by assumption) ?_
      rotate_left
      · ((intro w'); (try go_simp); (try with_reducible rfl))
      (try simp only [Act.put, List.setIfInBounds_toArray, List.set_cons_zero, List.set_cons_succ])
      refine anyE_takeW (v := ?_) 3 rfl (by kernel_rfl) (by kernel_rfl) (by kernel_rfl) (by decide) (fun _ _ _ h => h) (Or.inl ⟨by rfl, ?_⟩) (by assumption) ?_
      rotate_left
      · ((intro w'); (try go_simp); (try with_reducible rfl))
      (try simp only [Act.put, List.setIfInBounds_toArray, List.set_cons_zero, List.set_cons_succ])
      refine anyE_takeW (v := ?_) 4 rfl (by kernel_rfl) (by kernel_rfl) (by kernel_rfl) (by decide) (fun _ _ _ h => h) (Or.inl ⟨by rfl, ?_⟩) (by assumption) ?_
      rotate_left
      · ((intro w'); (try go_simp); (try with_reducible rfl))
      (try simp only [Act.put, List.setIfInBounds_toArray, List.set_cons_zero, List.set_cons_succ])
      refine anyE_takeW (v := ?_) 5 rfl (by kernel_rfl) (by kernel_rfl) (by kernel_rfl) (by decide) (fun _ _ _ h => h) (Or.inl ⟨by rfl, ?_⟩) (by assumption) ?_
      rotate_left
      · ((intro w'); (try go_simp); (try with_reducible rfl))
      (try simp only [Act.put, List.setIfInBounds_toArray, List.set_cons_zero, List.set_cons_succ])
      refine anyE_takeW (v := ?_) 6 rfl (by kernel_rfl) (by kernel_rfl) (by kernel_rfl) (by decide) (fun _ _ _ h => h) (Or.inl ⟨by rfl, ?_⟩) (by assumption) ?_
      rotate_left
      · ((intro w'); (try go_simp); (try with_reducible rfl))
      (try simp only [Act.put, List.setIfInBounds_toArray, List.set_cons_zero, List.set_cons_succ])
      refine anyE_step 7 (by kernel_rfl) rfl (fun K hK => ?_)
      go_simp
      refine hK.out _ _ trivial (fun hHeld => ?_)
      clear hK K
      (try simp only [Act.put, List.setIfInBounds_toArray, List.set_cons_zero, List.set_cons_succ])
      refine anyE_takeW (v := ?_) 8 rfl (by kernel_rfl) (by kernel_rfl) (by kernel_rfl) (by decide) (fun _ _ _ h => h) (Or.inl ⟨by rfl, ?_⟩) (by assumption) ?_
      rotate_left
      · ((intro w'); (try go_simp); (try with_reducible rfl))
      (try simp only [Act.put, List.setIfInBounds_toArray, List.set_cons_zero, List.set_cons_succ])
      refine anyE_last 9 (by kernel_rfl) (by kernel_rfl) (by kernel_rfl) rfl (fun K hK => ?_)
      go_simp
      refine hK.out _ _ ?_
      clear hK K
      (try simp only [Act.put, List.setIfInBounds_toArray, List.set_cons_zero, List.set_cons_succ])
      clear hcp hHeld
      go_wp2_with fail
      go_roundw
      case rel => exact ⟨k + m, by omega, fun _ => by omega, by go_num, HG5.out⟩
      case measure => simp [intOf]; omega
    · obtain rfl : k = n := by omega
      go_wp2_with fail
      go_ret
      exact ⟨_, rfl, RepBlk.own HG.out.1 (Nat.le_refl _) hn, HG.out.2⟩
end Go.Proofs.YtpeinobepiodaaaGreatDoor
