/- Merged: CopyK, Repeat, MoreT, InvT, SolT. -/
import Derived.Test.YtpeinobepiodaaaGreatDoorGK
import Derived.Laws.CopyRow
import Derived.Laws.CopyOwn
import Derived.Test.YtpeinobepiodaaaGreatDoorGG
import Derived.Deep.CutRange
import Derived.Test.YtpeinobepiodaaaGreatDoorShelfB
import Derived.Test.YtpeinobepiodaaaGreatDoorGA
import Derived.Lib.SliceRun
/- copy at elements of more cells than one. -/
namespace Go.Proofs.YtpeinobepiodaaaGreatDoor
set_option linter.unusedVariables false
set_option linter.unusedSimpArgs false
open Go.RowKit

theorem run_copyK {P : Program} (w : World) (dT sT ty elem : TypeId) (g o dLen dCap : Nat) (a : Addr) (sLen sCap : Nat) (cur : Array Value) (t : TypeId) (cs : List Value) (sz : Nat)
    (hu : P.underlying dT = some (.slice elem)) (hs : (P.info? elem).map (·.size) = some sz)
    (hg : w.heap[g]? = some (.cells cur t (0, 0))) (hn : cs.length = Nat.min sLen dLen * sz)
    (hsrc : ∀ j v, cs[j]? = some v → w.cell? (a.add j) = some v) (hfit : o + cs.length ≤ cur.size) (h1 : ∀ v ∈ cs, v.oneCell' = true) :
    (Builtin.copy_ #[dT, sT] ty #[.slice (some ⟨g, o, none⟩) dLen dCap, .slice (some a) sLen sCap]).run P w =
      .ok (goInt (Nat.min sLen dLen)) (w.setRow g (cur.toList.take o ++ cs ++ cur.toList.drop (o + cs.length)).toArray) := by
  have hl := run_loadCells_list (P := P) w a cs hsrc
  have hst := run_storeCells_at P g o t cs 0 cur w hg (by simpa using hfit) h1
  cases hq : P.info? elem with
  | none => simp [hq] at hs
  | some i =>
    have hi : i.size = sz := by simpa [hq] using hs
    simp [Builtin.copy_, run_underlying hu, Builtin.lenOf, Builtin.firstCells, sizeOf, typeInfo, hq, hi, ← hn, hl, hst]
theorem wp_copyK {P : Program} {w : World} {o : Oper} {a : Act} {K : Act → World → Prop} {Q : Exit → Act → World → Prop} (d s : Operand) (dT sT : TypeId)
    (ho : o.op = .call { callee := .builtin .copy, args := #[d, s], argTypes := #[dT, sT] }) (elem : TypeId) (sz : Nat) (hu : P.underlying dT = some (.slice elem)) (hsz : (P.info? elem).map (·.size) = some sz)
    (g off dLen dCap : Nat) (ad : Addr) (sLen sCap : Nat) (hd : a.eval d = .slice (some ⟨g, off, none⟩) dLen dCap) (hs : a.eval s = .slice (some ad) sLen sCap)
    (cur : Array Value) (t : TypeId) (hg : w.heap[g]? = some (.cells cur t (0, 0))) (cs : List Value) (hn : cs.length = Nat.min sLen dLen * sz)
    (hsrc : ∀ j v, cs[j]? = some v → w.cell? (ad.add j) = some v) (hfit : off + cs.length ≤ cur.size) (h1 : ∀ v ∈ cs, v.oneCell' = true) (m : Nat) (hm : m = Nat.min sLen dLen)
    (h : K (a.put o.dst (goInt m)) (w.setRow g (cur.toList.take off ++ cs ++ cur.toList.drop (off + cs.length)).toArray)) : o.wp P a w K Q := by
  subst hm
  have hrun := run_copyK (P := P) w dT sT o.type elem g off dLen dCap ad sLen sCap cur t cs sz hu hsz hg hn hsrc hfit h1
  unfold Oper.wp
  simp only [execOp, ho, resolve, invoke, builtin, Sem.run_bind, Sem.run_pure, Result.andThen_ok, List.map_toArray, List.map_cons, List.map_nil, hd, hs, hrun]
  exact h
end Go.Proofs.YtpeinobepiodaaaGreatDoor
/- Contracts of slices.Repeat (one rational, some times) and slices.Clone at rows of rationals. -/
namespace Go.Proofs.YtpeinobepiodaaaGreatDoor
set_option linter.unusedVariables false
set_option linter.unusedSimpArgs false
open Go.RowKit

def repC (q : Rat) (n k : Nat) : List Value := cellsQ (List.replicate k q) ++ List.replicate (2 * (n - k)) (.string ⟨#[]⟩)
theorem repC_len (q : Rat) {n k : Nat} (h : k ≤ n) : (repC q n k).length = n * 2 := by
  unfold repC; rw [List.length_append, cellsQ_len]; simp; omega
theorem repC_all (q : Rat) (n : Nat) : repC q n n = cellsQ (List.replicate n q) := by simp [repC]
theorem repC_zero (q : Rat) (n : Nat) : repC q n 0 = List.replicate (n * 2) (.string ⟨#[]⟩) := by simp [repC, cellsQ, Nat.mul_comm]
theorem repC_copy (q : Rat) {n k m : Nat} (h : k + m ≤ n) : (repC q n k).take (k * 2) ++ cellsQ (List.replicate m q) ++ (repC q n k).drop (k * 2 + (cellsQ (List.replicate m q)).length) = repC q n (k + m) := by
  have h1 : (cellsQ (List.replicate k q)).length = k * 2 := by rw [cellsQ_len]; simp
  unfold repC
  rw [List.take_left' h1, List.drop_append, List.drop_eq_nil_of_le (by omega), h1, List.nil_append, List.drop_replicate, cellsQ_len, List.length_replicate, show k * 2 + m * 2 - k * 2 = m * 2 by omega, show 2 * (n - k) - m * 2 = 2 * (n - (k + m)) by omega, ← List.replicate_append_replicate (n := k) (m := m), cellsQ_append]
theorem repC_src (q : Rat) {n k m : Nat} (hm : m ≤ k) {j : Nat} {v : Value} (h : (cellsQ (List.replicate m q))[j]? = some v) : (repC q n k)[j]? = some v := by
  unfold repC
  have hj := (List.getElem?_eq_some_iff.1 h).1
  rw [cellsQ_len] at hj
  rw [List.getElem?_append_left (by rw [cellsQ_len]; simp at hj ⊢; omega)]
  have e : List.replicate k q = List.replicate m q ++ List.replicate (k - m) q := by rw [List.replicate_append_replicate]; congr 1; omega
  rw [e, cellsQ_append, List.getElem?_append_left (by rw [cellsQ_len]; exact hj)]
  exact h
theorem cellsQ_one (l : List Rat) : ∀ v ∈ cellsQ l, v.oneCell' = true := by
  intro z hz
  unfold cellsQ at hz
  obtain ⟨l, hl, hz⟩ := List.mem_flatten.1 hz
  obtain ⟨q, -, rfl⟩ := List.mem_map.1 hl
  simp only [List.mem_cons, List.not_mem_nil, or_false] at hz
  rcases hz with rfl | rfl <;> rfl
theorem made2 (s : Value) (n : Nat) : (madeCells #[s, s] n).toList = List.replicate n s := by
  apply List.ext_getElem
  · simp [madeCells]
  · intro j h1 h2
    have hj : j < n := by simpa using h2
    simp only [madeCells, Array.toList_map, List.getElem_map, List.getElem_replicate]
    have h3 : j % 2 = 0 ∨ j % 2 = 1 := by omega
    rcases h3 with h3 | h3 <;> simp [h3]
theorem RepBlk.own {B g n : Nat} {w : World} {q : Rat} (h : w.heap[g]? = some (.cells (repC q n n).toArray 81 (0, 0))) (hB : B ≤ g) (hn : n ≤ 1000) : OwnQ B w (.slice (some ⟨g, 0, none⟩) n n) (List.replicate n q) := by
  refine ⟨by rw [cellsQ_len], .inr ⟨g, n, _, by simp, hB, h, by simp, by unfold maxLen; omega, ?_, ?_⟩⟩
  · simp [repC_len q (Nat.le_refl n)]
  · rw [repC_all]
    simp
    rw [List.take_of_length_le (by rw [cellsQ_len]; simp)]

set_option maxRecDepth 100000 in
set_option maxHeartbeats 4000000 in
theorem repeat_any (q : Rat) (n : Nat) (hn : n ≤ 1000) (v : Value) (w : World) (h : Rats w v [q]) :
    Calls Tryz.prog 55 #[v, .int .i64 (n : Int)] w fun e w' => ∃ g, e = .returned (.slice (some ⟨g, 0, none⟩) n n) ∧ OwnQ w.heap.size w' (.slice (some ⟨g, 0, none⟩) n n) (List.replicate n q) ∧ Ext w w' := by
  obtain ⟨i0, hi, hz0, hz1, hz2⟩ := info_parts infoRat
  have HI := Lib.hid hi; have HZ0 := Lib.hid hz0; have HZ1 := Lib.hid hz1; have HZ2 := Lib.hid hz2
  clear hi hz0 hz1 hz2
  obtain ⟨a, c, rfl, h1, h2, -, hc⟩ := h.open
  obtain ⟨b, off, rfl, hb, hcell⟩ := hc (by omega) (by simp)
  have HSRC : Hid (∀ W, Ext w W → ∀ j v, (cellsQ (List.replicate (Nat.min 1 n) q))[j]? = some v → W.cell? ((⟨b, off, none⟩ : Addr).add j) = some v) := fun W hW j v hv => by
    obtain ⟨u, -, rfl, hu⟩ := hcell 0 q rfl
    have hj := (List.getElem?_eq_some_iff.1 hv).1
    rw [cellsQ_len] at hj
    have hn1 : Nat.min 1 n = 1 := by
      have : (List.replicate (Nat.min 1 n) q).length = Nat.min 1 n := by simp
      have h0 : Nat.min 1 n ≤ 1 := Nat.min_le_left _ _
      omega
    rw [hn1] at hv hj
    rw [show (⟨b, off, none⟩ : Addr).add j = ⟨b, off + (0 * 2 + j), none⟩ by unfold Addr.add; split <;> simp_all]
    refine hW.cell ((hu j (by simpa using hj)).trans ?_)
    exact hv
  simp only [List.length_cons, List.length_nil, Nat.zero_add] at h1 ⊢
  clear h hc hcell
  unfold maxLen at h2
  have q1 : ¬ (n : Int) < 0 := by omega
  have HMUL : Hid (∀ W, Calls Tryz.prog 92 #[.int .u64 1, .int .u64 (n : Int)] W fun e w' => e = .returned (.tuple #[.int .u64 0, .int .u64 (n : Int)]) ∧ w' = W) := fun W => by
    have := Tryz.bits_Mul 1 n (by decide) (by omega) W
    rw [Nat.one_mul, Nat.div_eq_of_lt (by omega), Nat.mod_eq_of_lt (by omega)] at this
    exact this
  have q2 : IntKind.u64.wrap (n : Int) = (n : Int) := by rw [IntKind.wrap_u64]; omega
  have q3 : IntKind.i64.wrap (n : Int) = (n : Int) := by rw [IntKind.wrap_i64]; omega
  have q4 : ¬ (9223372036854775807 : Int) < (n : Int) := by omega
  go_enter Tryz.func55, Tryz.ntmps55
  go_wp2_with fail
  refine (HMUL.out _).mono ?_
  rintro e w1 ⟨rfl, rfl⟩
  clear HMUL
  go_wp2_with (at_make; refine wpList_make_full _ rfl _ _ 39 rfl w1.heap.size 81 i0 (.agg #[.string ⟨#[]⟩, .string ⟨#[]⟩]) 2 Tryz.underlying39 HI.out HZ0.out HZ1.out _ _ _ _ n rfl rfl rfl rfl ?c1 ?c2 ?c3 ?_)
  any_goals (first | (rw [HZ2.out]; omega) | (unfold maxLen; omega) | exact Nat.le_refl _)
  intro w3 hown hgrow
  have hs2 : (i0.zero = some (.agg #[.string ⟨#[]⟩, .string ⟨#[]⟩])) := HZ0.out
  have HG3 : Hid (w3.heap[w1.heap.size]? = some (.cells (repC q n 0).toArray 81 (0, 0)) ∧ Ext w1 w3) := by
    refine ⟨?_, ext_grown hgrow⟩
    rcases hown.2 with ⟨hv, -⟩ | ⟨g', cap, cur, hv, -, hg, -, -, h3, h4⟩
    · simp at hv
    · simp only [Value.slice.injEq, Option.some.injEq, Addr.mk.injEq] at hv
      obtain ⟨⟨rfl, -, -⟩, -, rfl⟩ := hv
      rw [hg, repC_zero]
      congr 2
      have h5 : cur.toList = List.replicate (n * 2) (.string ⟨#[]⟩) := by
        rw [List.take_of_length_le (by simp [h3])] at h4
        rw [h4]
        exact made2 _ _
      rw [← h5]
  clear hown hgrow hs2
  have HN2 : Hid ((cellsQ (List.replicate (Nat.min 1 n) q)).length = Nat.min 1 n * 2 ∧ 0 * 2 + (cellsQ (List.replicate (Nat.min 1 n) q)).length ≤ (repC q n 0).toArray.size) := by
    have h0 : Nat.min 1 n ≤ n := Nat.min_le_right _ _
    refine ⟨by rw [cellsQ_len]; simp, ?_⟩
    simp only [List.size_toArray]
    rw [cellsQ_len, repC_len q (Nat.zero_le n)]
    simp; omega
  obtain ⟨k0, hk0⟩ : ∃ k0, k0 = Nat.min 1 n := ⟨_, rfl⟩
  have hk01 : k0 ≤ n := by rw [hk0]; exact Nat.min_le_right _ _
  have hk02 : 0 < n → 0 < k0 := fun h => by rw [hk0]; exact Nat.lt_min.2 ⟨by omega, h⟩
  have HK := Lib.hid (And.intro hk01 hk02)
  have HK0 := Lib.hid hk0
  clear hk0 hk01 hk02
  have HCO : Hid ((((repC q n 0).toArray.toList.take 0) ++ cellsQ (List.replicate (Nat.min 1 n) q) ++ (repC q n 0).toArray.toList.drop (0 + (cellsQ (List.replicate (Nat.min 1 n) q)).length)).toArray = (repC q n k0).toArray) := by
    have := repC_copy q (n := n) (k := 0) (m := k0) (by have := HK.out.1; omega)
    unfold Hid
    rw [HK0.out] at this ⊢
    simpa using congrArg List.toArray this
  obtain ⟨W4, hW4⟩ : ∃ W4, W4 = w3.setRow w1.heap.size (((repC q n 0).toArray.toList.take 0) ++ cellsQ (List.replicate (Nat.min 1 n) q) ++ (repC q n 0).toArray.toList.drop (0 + (cellsQ (List.replicate (Nat.min 1 n) q)).length)).toArray := ⟨_, rfl⟩
  have hcp : (Builtin.copy_ #[39, 39] 3 #[.slice (some ⟨w1.heap.size, 0, none⟩) n n, .slice (some ⟨b, off, none⟩) 1 c]).run Tryz.prog w3 = .ok (.int .i64 (k0 : Int)) W4 := by
    rw [hW4, HK0.out]
    exact run_copyK w3 _ _ _ 81 w1.heap.size 0 n n ⟨b, off, none⟩ 1 c (repC q n 0).toArray 81 (cellsQ (List.replicate (Nat.min 1 n) q)) 2 Tryz.underlying39 (by kernel_rfl) HG3.out.1 HN2.out.1 (HSRC.out _ HG3.out.2) (by have := HN2.out.2; simpa using this) (cellsQ_one _)
  have HG4 : Hid (W4.heap[w1.heap.size]? = some (.cells (repC q n k0).toArray 81 (0, 0)) ∧ Ext w1 W4) := by
    rw [hW4, HCO.out]
    exact ⟨setRow_heap w3 _ _ _ _ _ HG3.out.1, below_setRow HG3.out.2 (Nat.le_refl _) _⟩
  clear hW4 HCO HN2 HSRC HK0
  go_wp2_with fail
  clear hcp
  go_loopw [8] (fun t wr => ∃ k : Nat, k ≤ n ∧ (0 < n → 0 < k) ∧ t = .int .i64 (k : Int) ∧ Hid (wr.heap[w1.heap.size]? = some (.cells (repC q n k).toArray 81 (0, 0)) ∧ Ext w1 wr)) (fun t _ => n - (intOf t).toNat)
  case atStart => exact ⟨k0, HK.out.1, HK.out.2, rfl, HG4.out⟩
  case round =>
    obtain ⟨k, hk, hk0, rfl, HG⟩ := hrel
    obtain ⟨wo, rfl⟩ : ∃ wo : World, wo = wr := ⟨_, rfl⟩
    by_cases hlt : k < n
    · skip
      -- REGION 9
      obtain ⟨m, hm⟩ : ∃ m, m = Nat.min k (n - k) := ⟨_, rfl⟩
      have hm1 : m ≤ k := by rw [hm]; exact Nat.min_le_left _ _
      have hm2 : m ≤ n - k := by rw [hm]; exact Nat.min_le_right _ _
      have hm3 : 0 < m := by rw [hm]; exact Nat.lt_min.2 ⟨hk0 (by omega), by omega⟩
      have HMN : Hid (m = Nat.min k (n - k)) := hm
      have p1 : (k : Int) ≤ (n : Int) := by omega
      have p2 : (0 : Int) ≤ (k : Int) := by omega
      have p3 : IntKind.i64.wrap ((k : Int) + (m : Int)) = (k : Int) + (m : Int) := by rw [IntKind.wrap_i64]; omega
      have hGD : wo.drew.heap[w1.heap.size]? = some (.cells (repC q n k).toArray 81 (0, 0)) := HG.out.1
      obtain ⟨W5, hW5⟩ : ∃ W5, W5 = wo.drew.setRow w1.heap.size (((repC q n k).toArray.toList.take (k * 2)) ++ cellsQ (List.replicate m q) ++ (repC q n k).toArray.toList.drop (k * 2 + (cellsQ (List.replicate m q)).length)).toArray := ⟨_, rfl⟩
      have hcp : (Builtin.copy_ #[39, 39] 3 #[.slice (some ⟨w1.heap.size, k * 2, none⟩) (n - k) (n - k), .slice (some ⟨w1.heap.size, 0, none⟩) k n]).run Tryz.prog wo.drew = .ok (.int .i64 (m : Int)) W5 := by
        rw [hW5, hm]
        exact run_copyK wo.drew _ _ _ 81 w1.heap.size (k * 2) (n - k) (n - k) ⟨w1.heap.size, 0, none⟩ k n (repC q n k).toArray 81 (cellsQ (List.replicate (Nat.min k (n - k)) q)) 2 Tryz.underlying39 (by kernel_rfl) hGD (by rw [cellsQ_len]; simp) (fun j v hv => by
          rw [show (⟨w1.heap.size, 0, none⟩ : Addr).add j = ⟨w1.heap.size, j, none⟩ by unfold Addr.add; split <;> simp_all]
          have := repC_src q (n := n) (k := k) (Nat.min_le_left _ _) hv
          simp only [World.cell?, hGD]
          simpa using this) (by simp only [List.size_toArray]; rw [cellsQ_len, repC_len q hk, List.length_replicate, ← hm]; omega) (cellsQ_one _)
      have HG5 : Hid (W5.heap[w1.heap.size]? = some (.cells (repC q n (k + m)).toArray 81 (0, 0)) ∧ Ext w1 W5) := by
        rw [hW5]
        refine ⟨?_, below_setRow (HG.out.2.trans (Ext.drew _)) (Nat.le_refl _) _⟩
        rw [setRow_heap wo.drew _ _ _ _ _ hGD]
        have := repC_copy q (n := n) (k := k) (m := m) (by omega)
        rw [← this]
      have q5 : (k : Int) < (n : Int) := by omega
      have q6 : ¬ n = k := by omega
      clear hW5 hm hGD
      go_upto_region 9 with (fail)
      refine region_anyE (fun _ => True) 7 (by kernel_rfl) trivial (fun hHeld => ?_)
      refine anyE_takeW (v := ?_) 0 rfl (by kernel_rfl) (by kernel_rfl) (by kernel_rfl) (by decide) (fun _ _ _ h => h) (Or.inl ⟨by rfl, ?_⟩) (by assumption) ?_
      rotate_left
      · ((intro w'); (try go_simp); (try with_reducible rfl))
      (try simp only [Act.put, List.setIfInBounds_toArray, List.set_cons_zero, List.set_cons_succ])
      refine anyE_takeW (v := ?_) 1 rfl (by kernel_rfl) (by kernel_rfl) (by kernel_rfl) (by decide) (fun _ _ _ h => h) (Or.inl ⟨by rfl, ?_⟩) (by assumption) ?_
      rotate_left
      · ((intro w'); (try go_simp); (try with_reducible rfl))
      (try simp only [Act.put, List.setIfInBounds_toArray, List.set_cons_zero, List.set_cons_succ])
      refine anyE_takeW (v := ?_) 2 rfl (by kernel_rfl) (by kernel_rfl) (by kernel_rfl) (by decide) (fun _ _ _ h => h) (Or.inl ⟨by rfl, ?_⟩) (by assumption) ?_
      rotate_left
      · ((intro w'); (try go_simp); (try with_reducible rfl))
      (try simp only [Act.put, List.setIfInBounds_toArray, List.set_cons_zero, List.set_cons_succ])
      refine anyE_takeW (v := ?_) 3 rfl (by kernel_rfl) (by kernel_rfl) (by kernel_rfl) (by decide) (fun _ _ _ h => h) (Or.inl ⟨by rfl, ?_⟩) (by assumption) ?_
      rotate_left
      · ((intro w'); (try go_simp); (try with_reducible rfl))
      (try simp only [Act.put, List.setIfInBounds_toArray, List.set_cons_zero, List.set_cons_succ])
      refine anyE_takeW (v := ?_) 4 rfl (by kernel_rfl) (by kernel_rfl) (by kernel_rfl) (by decide) (fun _ _ _ h => h) (Or.inl ⟨by rfl, ?_⟩) (by assumption) ?_
      rotate_left
      · ((intro w'); (try go_simp); (try with_reducible rfl))
      (try simp only [Act.put, List.setIfInBounds_toArray, List.set_cons_zero, List.set_cons_succ])
      refine anyE_takeW (v := ?_) 5 rfl (by kernel_rfl) (by kernel_rfl) (by kernel_rfl) (by decide) (fun _ _ _ h => h) (Or.inl ⟨by rfl, ?_⟩) (by assumption) ?_
      rotate_left
      · ((intro w'); (try go_simp); (try with_reducible rfl))
      (try simp only [Act.put, List.setIfInBounds_toArray, List.set_cons_zero, List.set_cons_succ])
      refine anyE_takeW (v := ?_) 6 rfl (by kernel_rfl) (by kernel_rfl) (by kernel_rfl) (by decide) (fun _ _ _ h => h) (Or.inl ⟨by rfl, ?_⟩) (by assumption) ?_
      rotate_left
      · ((intro w'); (try go_simp); (try with_reducible rfl))
      (try simp only [Act.put, List.setIfInBounds_toArray, List.set_cons_zero, List.set_cons_succ])
      refine anyE_step 7 (by kernel_rfl) rfl (fun K hK => ?_)
      go_simp
      refine hK.out _ _ trivial (fun hHeld => ?_)
      clear hK K
      (try simp only [Act.put, List.setIfInBounds_toArray, List.set_cons_zero, List.set_cons_succ])
      refine anyE_takeW (v := ?_) 8 rfl (by kernel_rfl) (by kernel_rfl) (by kernel_rfl) (by decide) (fun _ _ _ h => h) (Or.inl ⟨by rfl, ?_⟩) (by assumption) ?_
      rotate_left
      · ((intro w'); (try go_simp); (try with_reducible rfl))
      (try simp only [Act.put, List.setIfInBounds_toArray, List.set_cons_zero, List.set_cons_succ])
      refine anyE_last 9 (by kernel_rfl) (by kernel_rfl) (by kernel_rfl) rfl (fun K hK => ?_)
      go_simp
      refine hK.out _ _ ?_
      clear hK K
      (try simp only [Act.put, List.setIfInBounds_toArray, List.set_cons_zero, List.set_cons_succ])
      clear hcp hHeld
      go_wp2_with fail
      go_roundw
      case rel => exact ⟨k + m, by omega, fun _ => by omega, by go_num, HG5.out⟩
      case measure => simp [intOf]; omega
    · obtain rfl : k = n := by omega
      go_wp2_with fail
      go_ret
      exact ⟨_, rfl, RepBlk.own HG.out.1 (Nat.le_refl _) hn, HG.out.2⟩
end Go.Proofs.YtpeinobepiodaaaGreatDoor
/- Contracts of slices.Clone at rows of rationals and of the closures of table.Inverse and Solve. -/
namespace Go.Proofs.YtpeinobepiodaaaGreatDoor
set_option linter.unusedVariables false
set_option linter.unusedSimpArgs false
open Go.RowKit

set_option maxHeartbeats 1000000 in
/-- slices.Clone: a row of the call's own. -/
theorem cloneQ_any (xs : List Rat) (v : Value) (w : World) (h : Rats w v xs) (hlen : xs.length ≤ 100000) :
    Calls Tryz.prog 58 #[v] w fun e w' => ∃ r, e = .returned r ∧ Ext w w' ∧ OwnQ w.heap.size w' r xs := by
  obtain ⟨a, c, hv, h1, h2, h3, -⟩ := id h.open
  subst hv
  cases a with
  | none =>
    have h0 : xs = [] := by have := h3 rfl; exact List.eq_nil_of_length_eq_zero (by omega)
    subst h0
    obtain rfl : c = 0 := h3 rfl
    have heq := fun w => Lib.run_eql_slice_nil (P := Tryz.prog) w 39 81 none 0 0 0 0 Tryz.underlying39
    clear h3 h1 h2 hlen h
    go_enter Tryz.func58, Tryz.ntmps58
    go_wp2
    go_ret
    exact ⟨_, rfl, Ext.refl _, OwnQ.nil _ _⟩
  | some ad =>
    have heq := fun w => Lib.run_eql_slice_nil (P := Tryz.prog) w 39 81 (some ad) xs.length c 0 0 Tryz.underlying39
    have HOWN : Hid (OwnQ w.heap.size (w.alloc (.cells #[] 81)) (.slice (some ⟨w.heap.size, 0, none⟩) 0 0) []) := World.ownsRow_made w #[] 0 (Nat.le_refl _) (Nat.zero_le _) rfl
    have HN := Lib.hid (h.ext (Ext.alloc w (.cells #[] 81)))
    have HS : Hid (w.heap.size ≤ (w.alloc (.cells #[] 81)).heap.size) := by unfold Hid; rw [World.size_alloc]; omega
    have HL : Hid (([] : List Rat).length + xs.length < 1000000) := by unfold Hid; simp; omega
    clear h h3
    go_enter Tryz.func58, Tryz.ntmps58
    go_wp2_with (at_builtin; go_must (refine wpList_append_rats _ rfl _ _ rfl w.heap.size _ _ [] xs rfl HOWN.out rfl HN.out HL.out HS.out ?_))
    intro v' w' hQ hB _
    have HQ := Lib.hid hQ
    have HB : Hid (Ext w w') := Below.trans (Ext.alloc w (.cells #[] 81)) hB
    clear hQ hB
    go_wp2_with fail
    go_ret
    exact ⟨_, rfl, HB.out, HQ.out⟩

/-- The unit row of Inverse's closure. -/
def unitQ (n i : Nat) : List Rat := (List.replicate n (0 : Rat)).set i 1
set_option maxRecDepth 100000 in
set_option maxHeartbeats 4000000 in
theorem inverse1_any (i n B : Nat) (hi : i < n) (hn : n ≤ 1000) (w : World) (hb : w.cell? ⟨B, 0, none⟩ = some (.int .i64 (n : Int))) :
    Calls Tryz.prog 54 #[.int .i64 (i : Int), .pointer (some ⟨B, 0, none⟩)] w fun e w' => ∃ u, e = .returned u ∧ Rats w' u (unitQ n i) ∧ Ext w w' := by
  have HB := Lib.hid hb
  have HZERO : Hid (∀ W, Calls Tryz.prog 56 #[] W fun e w' => e = .returned (.agg #[.string ⟨#[48]⟩, .string ⟨#[49]⟩]) ∧ Ext W w') := fun W => by
    have := tzero_any W
    rw [ratV_zero] at this; exact this
  have HONE : Hid (∀ W, Calls Tryz.prog 57 #[] W fun e w' => e = .returned (.agg #[.string ⟨#[49]⟩, .string ⟨#[49]⟩]) ∧ Ext W w') := fun W => by
    have := tone_any W
    rw [ratV_one] at this; exact this
  go_enter Tryz.func54, Tryz.ntmps54
  go_upto_region 1 with (fail)
  refine region_anyE (fun u => u.cell? ⟨B, 0, none⟩ = some (.int .i64 (n : Int)) ∧ Hid (Ext w u)) 3 (by kernel_rfl) ⟨(Ext.drew w).cell hb, Ext.drew w⟩ (fun hHeld => ?_)
  refine anyE_take (v := ?_) 2 rfl (by kernel_rfl) (by kernel_rfl) (by kernel_rfl) (by kernel_rfl) (by kernel_rfl) (fun _ _ _ h => h) (Or.inl ⟨by rfl, ?_⟩) (by assumption) ?_
  rotate_left
  · ((intro w' hSw); (try dsimp only at hSw); (try go_simp); (try with_reducible rfl))
  (try simp only [Act.put, List.setIfInBounds_toArray, List.set_cons_zero, List.set_cons_succ])
  refine anyE_step 0 (by kernel_rfl) rfl (fun K hK => ?_)
  go_simp
  (go_at_call 56; refine (HZERO.out _).mono ?_)
  rintro e w1 ⟨rfl, hE1⟩
  have HX1 := Lib.hid (Ext.trans hHeld.2.out hE1)
  have hc1 := hE1.cell hHeld.1
  clear hE1
  go_wp2_with fail
  refine hK.out _ _ ⟨hc1, HX1.out⟩ (fun hHeld => ?_)
  clear hK K hc1
  (try simp only [Act.put, List.setIfInBounds_toArray, List.set_cons_zero, List.set_cons_succ])
  refine anyE_step 1 (by kernel_rfl) rfl (fun K hK => ?_)
  go_simp
  obtain ⟨W2, hW2⟩ : ∃ W2, W2 = w1.alloc (.cells #[.string ⟨#[48]⟩, .string ⟨#[49]⟩] 81) := ⟨_, rfl⟩
  have hE2 : Ext w1 W2 := by rw [hW2]; exact Ext.alloc _ _
  have HR2 : Hid (Rats W2 (.slice (some ⟨w1.heap.size, 0, none⟩) 1 1) [0]) := by
    rw [hW2]
    have := Rats.one w1 0 81
    rw [show (0 : Rat).num = 0 from rfl, show (0 : Rat).den = 1 from rfl, intB_zero, numB_one] at this
    exact this
  rw [← hW2]
  have HX2 := Lib.hid (Ext.trans hHeld.2.out hE2)
  have hc2 := hE2.cell hHeld.1
  clear hW2 hE2
  refine hK.out _ _ ⟨hc2, HX2.out⟩ (fun hHeld => ?_)
  clear hK K hc2
  (try simp only [Act.put, List.setIfInBounds_toArray, List.set_cons_zero, List.set_cons_succ])
  refine anyE_step 3 (by kernel_rfl) rfl (fun K hK => ?_)
  go_simp
  (go_at_call 55; refine (repeat_any 0 n hn _ _ HR2.out).mono ?_)
  rintro e w3 ⟨g, rfl, hQ, hE3⟩
  have HQ := Lib.hid hQ
  have HX3 := Lib.hid (Ext.trans hHeld.2.out hE3)
  have HXB := Lib.hid HX2.out.size
  have hc3 := hE3.cell hHeld.1
  clear hQ hE3
  go_wp2_with fail
  refine hK.out _ _ ⟨hc3, HX3.out⟩ (fun hHeld => ?_)
  clear hK K hc3
  (try simp only [Act.put, List.setIfInBounds_toArray, List.set_cons_zero, List.set_cons_succ])
  refine anyE_last 4 (by kernel_rfl) (by kernel_rfl) (by kernel_rfl) rfl (fun K hK => ?_)
  go_simp
  refine hK.out _ _ ?_
  clear hK K hHeld
  (try simp only [Act.put, List.setIfInBounds_toArray, List.set_cons_zero, List.set_cons_succ])
  clear hb
  go_wp2_with fail
  refine (HONE.out _).mono ?_
  rintro e w4 ⟨rfl, hE4⟩
  have hrow := (HQ.out.ext hE4).row
  have HRW := Lib.hid hrow
  have hgl := (HQ.out.lt g (by simp [Value.ownBlock])).1
  have HX4 := Lib.hid (Ext.trans HX3.out hE4)
  have hget : (List.replicate n (0 : Rat))[i]? = some 0 := by simp [hi]
  have d0 := hrow.num i 0 hget
  have d1 := hrow.den i 0 hget
  have f0 := hrow.free (i * 2)
  have f1 := hrow.free (i * 2 + 1)
  have HSET : Hid (RowQ ((w4.setCell ⟨g, i * 2, none⟩ (.string ⟨#[49]⟩)).setCell ⟨g, i * 2 + 1, none⟩ (.string ⟨#[49]⟩)) g (unitQ n i)) := by
    have := hrow.set i (by simp [hi]) 1
    rw [show (1 : Rat).num = 1 from rfl, show (1 : Rat).den = 1 from rfl, intB_one, numB_one] at this
    exact this
  have HXF : Hid (Ext w ((w4.setCell ⟨g, i * 2, none⟩ (.string ⟨#[49]⟩)).setCell ⟨g, i * 2 + 1, none⟩ (.string ⟨#[49]⟩))) := by
    have hg : w.heap.size ≤ g := Nat.le_trans HXB.out hgl
    exact (((HX4.out.grownS (· = g)).store (S := (· = g)) rfl _ _).store (S := (· = g)) rfl _ _).belowE (fun b e => by omega) (Nat.le_refl _)
  have p1 : (0 : Int) ≤ (i : Int) := by omega
  have p2 : (i : Int) < (n : Int) := by omega
  have HLN : Hid ((unitQ n i).length = n) := by unfold Hid unitQ; simp
  clear hE4 hrow hget hgl
  go_wp2_with fail
  go_ret
  have hr := HSET.out.rats (c := n) (by rw [HLN.out]; exact Nat.le_refl _) (by omega)
  rw [HLN.out] at hr
  exact ⟨_, rfl, hr, HXF.out⟩

set_option maxRecDepth 100000 in
set_option maxHeartbeats 2000000 in
theorem solve1_any (xs : List Int) (i B : Nat) (x : Int) (v : Value) (w : World) (hx : xs[i]? = some x) (hv : Ints w v xs) (hb : w.cell? ⟨B, 0, none⟩ = some v) (ht : Pow10 w) :
    Calls Tryz.prog 68 #[.int .i64 (i : Int), .pointer (some ⟨B, 0, none⟩)] w fun e w' => ∃ u, e = .returned u ∧ Rats w' u [(x : Rat)] ∧ Ext w w' := by
  obtain ⟨a, c, rfl, h1, h2, -, hbd, hc⟩ := hv.open
  have hi := (List.getElem?_eq_some_iff.1 hx).1
  obtain ⟨b, off, rfl, hbl, hcell⟩ := hc (by intro e; rw [e] at hi; simp at hi)
  have g1 := hcell i x hx
  obtain ⟨b1, b2⟩ := hbd x (List.mem_of_getElem? hx)
  have HOF := Lib.hid (of_any x w b1 b2 ht)
  have p1 : (0 : Int) ≤ (i : Int) := by omega
  have p2 : (i : Int) < (xs.length : Int) := by omega
  clear hv hc hcell hx ht hbd
  go_enter Tryz.func68, Tryz.ntmps68
  go_wp2_with fail
  refine HOF.out.mono ?_
  rintro e w1 ⟨rfl, hE1⟩
  have HE1 := Lib.hid hE1
  clear hE1 g1 hb
  go_wp2_with fail
  go_ret
  have := Rats.one w1 (x : Rat) 81
  rw [show ((x : Rat)).num = x from rfl, show ((x : Rat)).den = 1 from rfl, numB_one] at this
  exact ⟨_, rfl, this, HE1.out.trans (Ext.alloc _ _)⟩
end Go.Proofs.YtpeinobepiodaaaGreatDoor
/- Contract of table.Inverse. -/
namespace Go.Proofs.YtpeinobepiodaaaGreatDoor
set_option linter.unusedVariables false
set_option linter.unusedSimpArgs false
open Go.RowKit

theorem RowsO.form2 {α : Type} {K : RowKind α} {e : TypeId} {w : World} {ob base : Nat} {u : Value} {tags : List (Nat × Nat)} {m : List (List α)} (h : RowsO K e w ob base u tags m) : ∃ a c, u = .slice a m.length c := by
  rcases h.own.2 with ⟨rfl, hn⟩ | ⟨g, cap, cur, rfl, hb, hg, h1, h2, h3, h4⟩
  · exact ⟨none, 0, by rw [hn]⟩
  · exact ⟨_, cap, rfl⟩
theorem RowQ.ratsDrop {w : World} {g c n : Nat} {l : List Rat} (h : RowQ w g l) (h1 : l.length ≤ c) (h2 : c ≤ 9223372036854775807) (hn : n ≤ l.length) : Rats w (.slice (some ⟨g, n * 2, none⟩) (l.length - n) (c - n)) (l.drop n) := by
  have hl : (l.drop n).length = l.length - n := List.length_drop
  refine ⟨(l.drop n).map fun q : Rat => [Value.string (intB q.num), Value.string (numB q.den)], by simp, ?_, ?_, ?_⟩
  · intro u hu
    obtain ⟨x, -, rfl⟩ := List.mem_map.1 hu
    rfl
  · refine ⟨_, c - n, by rw [hl], by omega, by unfold maxLen; omega, fun e => by simp at e, fun _ => ⟨g, n * 2, rfl, h.lt, fun j u hu => ?_⟩⟩
    have hj : j < (cellsQ (l.drop n)).length := (List.getElem?_eq_some_iff.1 hu).1
    rw [cellsQ_len, hl] at hj
    obtain ⟨q, hq⟩ : ∃ q, (l.drop n)[j / 2]? = some q := ⟨_, List.getElem?_eq_getElem (by omega)⟩
    obtain ⟨e0, e1⟩ := cellsQ_get hq
    rw [List.getElem?_drop] at hq
    by_cases hp : j % 2 = 0
    · rw [show j / 2 * 2 = j by omega] at e0
      have : u = .string (intB q.num) := Option.some.inj (hu.symm.trans e0)
      rw [this, ← h.num _ q hq, show (n + j / 2) * 2 = n * 2 + j by omega]
    · rw [show j / 2 * 2 + 1 = j by omega] at e1
      have : u = .string (numB q.den) := Option.some.inj (hu.symm.trans e1)
      rw [this, ← h.den _ q hq, show (n + j / 2) * 2 + 1 = n * 2 + j by omega]
  · intro j u x hu hx
    rw [List.getElem?_map, hx] at hu
    exact (Option.some.inj hu).symm
theorem RowsO.rats2 {e : TypeId} {w : World} {ob base : Nat} {v : Value} {tags : List (Nat × Nat)} {m : List (List Rat)} (h : RowsO ratK e w ob base v tags m) : Rats2 w v m := by
  have hl := tagQs_len (m := m) h.len
  refine ⟨(tagQs tags m).map fun u => [u], by simp [hl], by simp, ?_, ?_⟩
  · have := SeqAt.of_owns h.own
    rw [flatten_one (fun u : Value => u), List.map_id']
    exact this
  · intro j u x hu hx
    have hj : j < tags.length := by rw [h.len]; exact (List.getElem?_eq_some_iff.1 hx).1
    have ht : tags[j]? = some tags[j] := List.getElem?_eq_getElem hj
    obtain ⟨h1, h2, h3, -, -⟩ := h.row j _ x ht hx
    rw [List.getElem?_map] at hu
    unfold tagQs at hu
    rw [List.getElem?_zipWith, ht, hx] at hu
    simp only [Option.map_some, Option.some.injEq] at hu
    exact ⟨_, hu.symm, RowQ.rats h3 h1 h2⟩
def invM (xss : List (List Int)) : List (List Rat) := rowsTo xss (unitQ xss.length) xss.length
def invR (xss : List (List Int)) : RedSt := redTo (invM xss) xss.length
def invTo (xss : List (List Int)) (i : Nat) : List (List Rat) := ((invR xss).m.take i).map fun r => r.drop xss.length
theorem invTo_succ {xss : List (List Int)} {i : Nat} {r : List Rat} (h : (invR xss).m[i]? = some r) : invTo xss (i + 1) = invTo xss i ++ [r.drop xss.length] := by
  unfold invTo
  rw [List.take_add_one, h, List.map_append]
  rfl
theorem invM_rect {xss : List (List Int)} (h : ∀ r ∈ xss, r.length = xss.length) : Rect (xss.length + xss.length) (invM xss) := by
  intro r hr
  unfold invM rowsTo at hr
  obtain ⟨k, hk, rfl⟩ := List.mem_map.1 hr
  have hk2 : k < xss.length := by simpa using hk
  rw [List.length_append, rowQI_len, List.getD_eq_getElem?_getD, List.getElem?_eq_getElem hk2]
  simp [unitQ]
  exact h _ (List.getElem_mem hk2)

set_option maxRecDepth 100000 in
set_option maxHeartbeats 4000000 in
theorem inverse_any (xss : List (List Int)) (v : Value) (w : World) (h : Rows2 w v xss) (hE : tabE xss = 0) (hpos : 0 < xss.length) (hsq : colsN xss = xss.length) (hok : ∀ c, c < xss.length → AllRS 2500 (redTo (invM xss) c).m ∧ RS 9000 (redTo (invM xss) c).det) (hld : ¬ (invR xss).lead.length < xss.length) (ht : Pow10 w) :
    Calls Tryz.prog 17 #[v] w fun e w' => ∃ r, e = .returned (.tuple #[r, .int .i64 0]) ∧ Rats2 w' r (invTo xss xss.length) ∧ Ext w w' := by
  obtain ⟨hl, hrr⟩ := tabE_zero hE
  have hrl : ∀ r ∈ xss, r.length = xss.length := fun r hr => by rw [(hrr r hr).1, hsq]
  have HCH := Lib.hid (fun W hW => tabCheck_any xss v W (h.ext (w' := W) hW))
  rw [hE] at HCH
  have HCO : Hid (∀ W, Ext w W → Calls Tryz.prog 43 #[v] W fun e w' => e = .returned (.int .i64 (xss.length : Int)) ∧ w' = W) := fun W hW => by
    have := columns_any xss v W (h.ext hW)
    rw [hsq] at this
    exact this.mono fun _ _ ⟨a, b⟩ => ⟨a, b.symm⟩
  have HRO : Hid (∀ W B, Ext w W → W.cell? ⟨B, 0, none⟩ = some (.int .i64 (xss.length : Int)) → Calls Tryz.prog 52 #[v, .func (.func 54) #[] #[.pointer (some ⟨B, 0, none⟩)]] W fun e w' => ∃ u tags, e = .returned u ∧ RowsO ratK 39 w' W.heap.size W.heap.size u tags (invM xss) ∧ Ext W w') := fun W B hW hb => by
    refine rows_any xss v 54 #[.pointer (some ⟨B, 0, none⟩)] (unitQ xss.length) W (h.ext hW) (by omega) (fun r hr => by rw [hrl r hr]; omega) (fun i r hr => ?_) (enters_of Tryz.func54 (by kernel_rfl) rfl) (fun i X hi hX => ?_) (ht.ext hW)
    · have h1 := hrl r (List.mem_of_getElem? hr)
      exact ⟨by omega, by simp [unitQ]; omega⟩
    · exact inverse1_any i xss.length B hi (by omega) X (hX.cell hb)
  have HRE : Hid (∀ u tags W w1, RowsO ratK 39 w1 W.heap.size W.heap.size u tags (invM xss) → Ext w W → Ext W w1 → Calls Tryz.prog 51 #[u, .int .i64 (xss.length : Int)] w1 fun e w' => ∃ v, e = .returned (.tuple #[v, ratV (invR xss).det]) ∧ RedOk W w1 w' u v tags (invM xss) xss.length) := fun u tags W w1 hO hW h1 =>
    reduceRows_any (invM xss) xss.length (xss.length + xss.length) u tags W w1 hO h1 (invM_rect hrl) (by omega) (by omega) (by unfold invM; rw [rowsTo_len]; omega) hok (ht.ext hW) (fun e => by have : (invM xss).length = xss.length := rowsTo_len _ _ _; rw [e] at this; simpa using this.symm)
  have HML : Hid ((invM xss).length = xss.length) := rowsTo_len _ _ _
  have HMNE : Hid (invM xss ≠ []) := fun e => by have := HML.out; rw [e] at this; simp at this; omega
  have HSH : Hid (Rect (xss.length + xss.length) (invR xss).m ∧ (invR xss).m.length = xss.length) := by
    obtain ⟨k1, k2, -⟩ := redTo_shape (invM_rect hrl) xss.length
    exact ⟨k1, by show (redTo (invM xss) xss.length).m.length = _; rw [k2]; exact HML.out⟩
  obtain ⟨a, c, rfl, h1, h2, -, -⟩ := inCell.open h
  obtain ⟨n, hn⟩ : ∃ n, n = xss.length := ⟨_, rfl⟩
  obtain ⟨ld, hld2⟩ : ∃ ld, ld = (invR xss).lead.length := ⟨_, rfl⟩
  have HLD := Lib.hid hld2
  rw [← hld2] at hld
  rw [← hn] at HCH HCO HRO HRE HSH HML h1 hpos hld hl ⊢
  have HN := Lib.hid hn
  unfold maxLen at h2
  have q0 : (0 : Int) < (n : Int) := by omega
  have z0 : decide ((0 : Int) < (n : Int)) = true := decide_eq_true q0
  have z1 : ((n : Int) != (n : Int)) = false := by simp
  have z2 : decide (0 < n) = true := decide_eq_true hpos
  have q1 : ¬ (ld : Int) < (n : Int) := by omega
  have q2 : ¬ ld < n := hld
  clear h hE hok ht hrr hsq hn hrl hld2
  go_enter Tryz.func17, Tryz.ntmps17
  go_wp2_with fail
  refine (HCH.out _ (Ext.refl _)).mono ?_
  rintro e w1 ⟨rfl, hE1⟩
  obtain ⟨W2, hW2⟩ : ∃ W2, W2 = (w1.alloc (.cells #[.int .i64 0] 3)) := ⟨_, rfl⟩
  have hE2 : Ext w1 W2 := by rw [hW2]; exact Ext.alloc _ _
  have hb2 : W2.heap[w1.heap.size]? = some (.cells #[.int .i64 0] 3 (0, 0)) := by rw [hW2]; exact block_new _ _ _
  have c0 := block_cell hb2 0
  have f0 := block_free hb2 0
  simp only [List.getElem?_toArray, List.getElem?_cons_zero] at c0
  have hX3 : Ext w (W2.setCell ⟨w1.heap.size, 0, none⟩ (.int .i64 (n : Int))) := Ext.trans hE1 (((hE2.grownS (· = w1.heap.size)).store (S := (· = w1.heap.size)) rfl 0 _).belowE (fun b e => by omega) (Nat.le_refl _))
  have hb3 := block_set hb2 0 (.int .i64 (n : Int))
  have c3 := block_cell hb3 0
  simp only [List.setIfInBounds_toArray, List.set_cons_zero, List.getElem?_toArray, List.getElem?_cons_zero] at c3
  have HX3 := Lib.hid hX3
  have hW2' := hW2.symm
  clear hE1 hE2 hb2 hX3 hb3 HCH hW2
  go_wp2_with fail
  obtain ⟨W3, hW3⟩ : ∃ W3, W3 = W2.setCell ⟨w1.heap.size, 0, none⟩ (.int .i64 (n : Int)) := ⟨_, rfl⟩
  rw [← hW3] at HX3 c3 ⊢
  clear hW3 c0 f0 hW2'
  go_quiet ((go_at_call 43; exact Calls.quiet_of_same (HCO.out _ (Ext.draws HX3.out _))))
  obtain ⟨wq, hwq⟩ : ∃ wq, wq = W3.drewN nq := ⟨_, rfl⟩
  rw [← hwq]
  have hEQ : Ext W3 wq := by rw [hwq]; exact Ext.drewN _ _
  have HXQ := Lib.hid (Ext.trans HX3.out hEQ)
  have b1 := hEQ.cell c3
  have HB1 := Lib.hid b1
  clear hwq hEQ c3 HX3 HCO
  go_wp2_with fail
  refine (HRO.out _ _ HXQ.out b1).mono ?_
  rintro e w4 ⟨u, tags, rfl, hO, hE4⟩
  obtain ⟨au, cu, hu⟩ := hO.form2
  rw [HML.out] at hu
  have b4 := hE4.cell b1
  have HO := Lib.hid hO; have HE4 := Lib.hid hE4
  subst hu
  clear hO hE4 b1 HRO
  go_wp2_with fail
  refine (HRE.out _ tags wq w4 HO.out HXQ.out HE4.out).mono ?_
  rintro e w5 ⟨vl, rfl, hR⟩
  obtain ⟨av, cv, hv, -, -⟩ := hR.lead.form
  have hv2 : vl = .slice av ld cv := by rw [hv, HLD.out, HN.out]; rfl
  subst hv2
  obtain ⟨d, hd⟩ : ∃ d, d = (invR xss).det := ⟨_, rfl⟩
  rw [← hd]
  rw [show ratV d = .agg #[.string (intB d.num), .string (numB d.den)] from rfl]
  obtain ⟨g, tags', cap, hu, hM, hcp1, hcp2, hlow⟩ := hR.mat HMNE.out
  have HX5 := Lib.hid (Ext.trans HXQ.out hR.ext)
  have HM := Lib.hid hM
  simp only [Value.slice.injEq] at hu
  obtain ⟨rfl, -, rfl⟩ := hu
  rw [HML.out] at hcp1
  obtain ⟨W6, hW6, hE6, hs6, hb6⟩ := box2 w5 (.string ⟨#[]⟩) (.string ⟨#[]⟩) 81
  obtain ⟨r0, r1, rf⟩ := block2_cell hb6
  have f0 := rf 0
  have f1 := rf 1
  have b5 := hR.ext.cell HB1.out
  have HX7 : Hid (Ext w5 ((W6.setCell ⟨w5.heap.size, 0, none⟩ (.string (intB d.num))).setCell ⟨w5.heap.size, 1, none⟩ (.string (numB d.den)))) := ext_set2 hE6 (Nat.le_refl _)
  have b7 := HX7.out.cell b5
  clear hR hv hd rf hb6 hE6 hs6 b4 hM HRE HO HE4 hlow
  go_wp2_with fail
  obtain ⟨W7, hW7⟩ : ∃ W7, W7 = ((W6.setCell ⟨w5.heap.size, 0, none⟩ (.string (intB d.num))).setCell ⟨w5.heap.size, 1, none⟩ (.string (numB d.den))) := ⟨_, rfl⟩
  rw [← hW7] at HX7 b7 ⊢
  have HB7 := Lib.hid b7
  have HM7 : Hid (MatQ W7 g tags' (invR xss).m) := by
    have := HM.out.ext HX7.out
    rw [HN.out] at this
    exact this
  have HXW := Lib.hid (Ext.trans HX5.out HX7.out)
  clear hW7 r0 r1 f0 f1 b5 HX7 HM b7
  go_loopw [42, 9] (fun t u wr => ∃ (i : Nat) (tg : List (Nat × Nat)), i ≤ n ∧ t = .int .i64 i ∧ Ext W7 wr ∧ Hid (RowsO ratK 39 wr W7.heap.size W7.heap.size u tg (invTo xss i))) (fun t _ _ => n - (intOf t).toNat)
  case atStart => exact ⟨0, [], by omega, rfl, Ext.refl _, RowsO.nil _ _ _ _ _⟩
  case round =>
    obtain ⟨i, tg, hin, rfl, hE, HO⟩ := hrel
    obtain ⟨wo, rfl⟩ : ∃ wo : World, wo = wr := ⟨_, rfl⟩
    have HE := Lib.hid hE
    by_cases hlt : i < n
    · obtain ⟨r, hr⟩ : ∃ r, (invR xss).m[i]? = some r := ⟨_, List.getElem?_eq_getElem (by rw [HSH.out.2]; exact hlt)⟩
      obtain ⟨t, ht, c1, l1, l2, hrow, -, -⟩ := HM7.out.get hr
      have hrl := HSH.out.1.get hr
      obtain ⟨L2, hL2⟩ : ∃ L2, L2 = n + n := ⟨_, rfl⟩
      rw [hrl, ← hL2] at c1 l1
      have HSU := Lib.hid (invTo_succ hr)
      rw [← HN.out] at HSU
      have d1 := hE.cell c1
      have d2 := hE.cell HB7.out
      have hcl : Rats wo (.slice (some ⟨t.1, n * 2, none⟩) (L2 - n) (t.2 - n)) (r.drop n) := by
        have := (hrow.ext hE).ratsDrop (c := t.2) (n := n) (by rw [hrl, ← hL2]; exact l1) l2 (by omega)
        rw [hrl, ← hL2] at this
        exact this
      have hdl : (r.drop n).length = n := by rw [List.length_drop, hrl]; omega
      have HDL := Lib.hid hdl
      have HCL : Hid (Calls Tryz.prog 58 #[.slice (some ⟨t.1, n * 2, none⟩) (L2 - n) (t.2 - n)] wo fun e w' => ∃ g2 c2, e = .returned (.slice (some ⟨g2, 0, none⟩) n c2) ∧ Ext wo w' ∧ RowQ w' g2 (r.drop n) ∧ wo.heap.size ≤ g2 ∧ n ≤ c2 ∧ c2 ≤ 9223372036854775807) := by
        refine (cloneQ_any (r.drop n) _ wo hcl (by omega)).mono ?_
        rintro e w' ⟨v, rfl, hX, hQ⟩
        obtain ⟨g2, c2, rfl, k1, k2, k3, k4⟩ := owns_shape hQ (by omega)
        rw [hdl] at k3
        exact ⟨g2, c2, by rw [hdl], hX, hQ.row, k1, k3, k4⟩
      have p1 : ¬ L2 = n := by omega
      have p2 : (n : Int) ≤ (L2 : Int) := by omega
      have p3 : (0 : Int) ≤ (n : Int) := by omega
      have p4 : (i : Int) < (n : Int) := by omega
      have p5 : n ≤ L2 := by omega
      have p6 : n ≤ t.2 := by omega
      have p7 : L2 ≤ t.2 := l1
      clear hr ht c1 hrow hrl hL2 hcl hdl
      go_wp2_with fail
      refine HCL.out.mono ?_
      rintro e w8 ⟨g2, c2, rfl, hX8, hR8, k1, k2, k3⟩
      have HX8 := Lib.hid (Ext.trans hE hX8)
      have HO2 := Lib.hid (HO.out.ext hX8)
      have HR8 := Lib.hid hR8
      have HV : Hid (u9.ownBlock ≠ some g2) := fun e => by have := (HO.out.own.lt _ e).2; omega
      have HNT : Hid (g2 ∉ tg.map (·.1)) := fun e => by have := (HO.out.fresh e).2; omega
      have HSZ : Hid (W7.heap.size ≤ g2 ∧ W7.heap.size ≤ w8.heap.size) := by
        have h1 := hE.size; have h2 := HX8.out.size
        exact ⟨by omega, by omega⟩
      have HLN : Hid ((invTo xss i).length < 1000000) := by unfold Hid invTo; rw [List.length_map, List.length_take]; omega
      have HCP : Hid ((r.drop n).length ≤ c2 ∧ c2 ≤ 9223372036854775807) := ⟨by rw [HDL.out]; exact k2, k3⟩
      clear hX8 hR8 d1 d2 k1 HCL
      go_wp2_with (at_builtin; go_must (refine wpList_append_rowO (K := ratK) (e := 39) Tryz.underlying30 infoRats _ rfl _ _ rfl W7.heap.size W7.heap.size u9 tg (invTo xss i) (g2, c2) (r.drop n) #[.slice (some ⟨g2, 0, none⟩) n c2] 39 rfl HO2.out (by rfl) (by rw [tagQ, HDL.out]) HCP.out.1 HCP.out.2 HR8.out HSZ.out.1 HV.out HNT.out HLN.out HSZ.out.2 ?_))
      intro v' w9 hO9 hb9 _
      rw [← HSU.out] at hO9
      have HO9 := Lib.hid hO9
      have HX9 := Lib.hid (Below.trans HX8.out hb9)
      clear hO9 hb9
      go_wp2_with fail
      go_roundw
      case rel => exact ⟨i + 1, _, by omega, by go_num, HX9.out, HO9.out⟩
      case measure => simp [intOf]; omega
    · obtain rfl : i = n := by omega
      have HRR := Lib.hid HO.out.rats2
      have HXF := Lib.hid (Ext.trans HXW.out hE)
      go_wp2_with fail
      go_ret2
      exact ⟨_, rfl, HRR.out, HXF.out⟩
end Go.Proofs.YtpeinobepiodaaaGreatDoor
/- Contract of table.Solve. -/
namespace Go.Proofs.YtpeinobepiodaaaGreatDoor
set_option linter.unusedVariables false
set_option linter.unusedSimpArgs false
open Go.RowKit

def solM (xss : List (List Int)) (right : List Int) : List (List Rat) := rowsTo xss (fun i => [((right.getD i 0 : Int) : Rat)]) xss.length
def solR (xss : List (List Int)) (right : List Int) : RedSt := redTo (solM xss right) (colsN xss)
/-- A row below the leading ones has something at the right. -/
def solBad (s : RedSt) (n : Nat) : Bool := (s.m.drop s.lead.length).any fun r => decide (r.getD n 0 ≠ 0)
def xTo (s : RedSt) (n : Nat) : Nat → List Rat
  | 0 => List.replicate n 0
  | i + 1 => (xTo s n i).set (s.lead.getD i 0) (elQ s.m i n)
theorem xTo_len (s : RedSt) (n : Nat) : ∀ i, (xTo s n i).length = n
  | 0 => by simp [xTo]
  | i + 1 => by unfold xTo; rw [List.length_set]; exact xTo_len s n i
def solX (s : RedSt) (n : Nat) : List Rat := if solBad s n then [] else xTo s n s.lead.length
def solK (s : RedSt) (n : Nat) : Int := if solBad s n then 3 else if s.lead.length < n then 2 else 1
theorem lead_lt (m : List (List Rat)) : ∀ c, ∀ x ∈ (redTo m c).lead, x < c
  | 0, x, hx => by simp [redTo] at hx
  | c + 1, x, hx => by
    have ih := lead_lt m c
    have hx : x ∈ (stepR c (redTo m c)).lead := hx
    unfold stepR at hx
    simp only at hx
    split at hx
    · have := ih x hx; omega
    · rcases List.mem_append.1 hx with hx | hx
      · have := ih x hx; omega
      · simp at hx; omega
theorem solM_rect {xss : List (List Int)} {right : List Int} {n : Nat} (h : ∀ r ∈ xss, r.length = n) : Rect (n + 1) (solM xss right) := by
  intro r hr
  unfold solM rowsTo at hr
  obtain ⟨k, hk, rfl⟩ := List.mem_map.1 hr
  have hk2 : k < xss.length := by simpa using hk
  rw [List.length_append, rowQI_len, List.getD_eq_getElem?_getD, List.getElem?_eq_getElem hk2]
  simp
  exact h _ (List.getElem_mem hk2)
theorem solBad_at {s : RedSt} {n q : Nat} {r : List Rat} (h : s.m[s.lead.length + q]? = some r) (hr : r.getD n 0 ≠ 0) : solBad s n = true := by
  unfold solBad
  rw [List.any_eq_true]
  exact ⟨r, List.mem_of_getElem? (by rw [List.getElem?_drop]; exact h), by simpa using hr⟩
theorem solBad_none {s : RedSt} {n : Nat} (h : ∀ q r, s.m[s.lead.length + q]? = some r → r.getD n 0 = 0) : solBad s n = false := by
  unfold solBad
  rw [List.any_eq_false]
  intro r hr
  obtain ⟨q, hq⟩ := List.getElem?_of_mem hr
  rw [List.getElem?_drop] at hq
  simpa using h q r hq

set_option maxRecDepth 100000 in
set_option maxHeartbeats 6000000 in
theorem solve_any (xss : List (List Int)) (right : List Int) (v ur : Value) (w : World) (h : Rows2 w v xss) (hk : Ints w ur right) (hE : tabE xss = 0) (hpos : 0 < xss.length) (hlr : right.length = xss.length) (hfit : ∀ x ∈ right, -1000000000 ≤ x ∧ x ≤ 1000000000)
    (hok : ∀ c, c < colsN xss → AllRS 2500 (redTo (solM xss right) c).m ∧ RS 9000 (redTo (solM xss right) c).det) (ht : Pow10 w) :
    Calls Tryz.prog 28 #[v, ur] w fun e w' => ∃ x, e = .returned (.tuple #[x, .int .i64 (solK (solR xss right) (colsN xss)), .int .i64 0]) ∧ Rats w' x (solX (solR xss right) (colsN xss)) ∧ Ext w w' := by
  obtain ⟨hl, hrr⟩ := tabE_zero hE
  have hn12 : colsN xss ≤ 12 := by
    cases xss with
    | nil => simp at hpos
    | cons r l => exact (hrr r (by simp)).2.1
  have hrl : ∀ r ∈ xss, r.length = colsN xss := fun r hr => (hrr r hr).1
  have HCH := Lib.hid (fun W hW => tabCheck_any xss v W (h.ext (w' := W) hW))
  rw [hE] at HCH
  have HCO : Hid (∀ W, Ext w W → Calls Tryz.prog 43 #[v] W fun e w' => e = .returned (.int .i64 (colsN xss : Int)) ∧ w' = W) := fun W hW => (columns_any xss v W (h.ext hW)).mono fun _ _ ⟨a, b⟩ => ⟨a, b.symm⟩
  have HANY : Hid (∀ W, Ext w W → Calls Tryz.prog 66 #[ur, .func (.func 67) #[] #[]] W fun e w' => e = .returned (.bool false) ∧ Ext W w') := fun W hW => by
    have := containsRow_any right ur 67 #[] (fun x => !fitB x) W (hk.ext hW) (enters_of Tryz.func67 (by kernel_rfl) rfl) (fun W x _ _ => (great_any x W).mono fun _ _ ⟨he, hw⟩ => ⟨he, hw ▸ Ext.refl _⟩)
    rw [show right.any (fun x => !fitB x) = false from by
      rw [List.any_eq_false]
      intro x hx
      have := (fitB_iff x).2 (hfit x hx)
      simp [this]] at this
    exact this
  have HRO : Hid (∀ W B, Ext w W → W.cell? ⟨B, 0, none⟩ = some ur → Calls Tryz.prog 52 #[v, .func (.func 68) #[] #[.pointer (some ⟨B, 0, none⟩)]] W fun e w' => ∃ u tags, e = .returned u ∧ RowsO ratK 39 w' W.heap.size W.heap.size u tags (solM xss right) ∧ Ext W w') := fun W B hW hb => by
    refine rows_any xss v 68 #[.pointer (some ⟨B, 0, none⟩)] (fun i => [((right.getD i 0 : Int) : Rat)]) W (h.ext hW) (by omega) (fun r hr => by rw [hrl r hr]; omega) (fun i r hr => ⟨by simp, by simp⟩) (enters_of Tryz.func68 (by kernel_rfl) rfl) (fun i X hi hX => ?_) (ht.ext hW)
    have hx : right[i]? = some (right.getD i 0) := by rw [List.getD_eq_getElem?_getD, List.getElem?_eq_getElem (by omega)]; rfl
    exact solve1_any right i B _ ur X hx ((hk.ext hW).ext hX) (hX.cell hb) ((ht.ext hW).ext hX)
  have HRE : Hid (∀ u tags W w1, RowsO ratK 39 w1 W.heap.size W.heap.size u tags (solM xss right) → Ext w W → Ext W w1 → Calls Tryz.prog 51 #[u, .int .i64 (colsN xss : Int)] w1 fun e w' => ∃ v, e = .returned (.tuple #[v, ratV (solR xss right).det]) ∧ RedOk W w1 w' u v tags (solM xss right) (colsN xss)) := fun u tags W w1 hO hW h1 =>
    reduceRows_any (solM xss right) (colsN xss) (colsN xss + 1) u tags W w1 hO h1 (solM_rect hrl) (by omega) (by omega) (by unfold solM; rw [rowsTo_len]; omega) hok (ht.ext hW) (fun e => by have : (solM xss right).length = xss.length := rowsTo_len _ _ _; rw [e] at this; simp at this; omega)
  have HML : Hid ((solM xss right).length = xss.length) := rowsTo_len _ _ _
  have HMNE : Hid (solM xss right ≠ []) := fun e => by have := HML.out; rw [e] at this; simp at this; omega
  have HSH : Hid (Rect (colsN xss + 1) (solR xss right).m ∧ (solR xss right).m.length = xss.length ∧ (solR xss right).lead.length ≤ xss.length) := by
    obtain ⟨k1, k2, k3⟩ := redTo_shape (solM_rect (right := right) hrl) (colsN xss)
    exact ⟨k1, by show (redTo (solM xss right) (colsN xss)).m.length = _; rw [k2]; exact HML.out, by show (redTo (solM xss right) (colsN xss)).lead.length ≤ _; rw [← HML.out]; exact k3⟩
  have HLT : Hid (∀ x ∈ (solR xss right).lead, x < colsN xss) := lead_lt _ _
  obtain ⟨a, c, rfl, h1, h2, -, -⟩ := inCell.open h
  obtain ⟨ar, cr, rfl, h3, h4, -, -, -⟩ := hk.open
  obtain ⟨L, hL⟩ : ∃ L, L = xss.length := ⟨_, rfl⟩
  obtain ⟨n, hn⟩ : ∃ n, n = colsN xss := ⟨_, rfl⟩
  obtain ⟨s, hs⟩ : ∃ s, s = solR xss right := ⟨_, rfl⟩
  have HS : Hid (s = redTo (solM xss right) n) := by rw [hs, hn]; rfl
  rw [← hs] at HRE HSH HLT ⊢
  rw [← hL] at HCH HCO HSH HML h1 hpos hl
  rw [← hn] at HCO HRE HSH HLT hn12 ⊢
  rw [hlr] at HRO
  rw [hlr, ← hL] at HANY h3 ⊢
  rw [← hL] at HRO
  obtain ⟨ld, hld⟩ : ∃ ld, ld = s.lead.length := ⟨_, rfl⟩
  have HLD := Lib.hid hld
  have hldL : ld ≤ L := by rw [hld]; exact HSH.out.2.2
  unfold maxLen at h2 h4
  have z1 : ((L : Int) != (L : Int)) = false := by simp
  clear h hk hE hok ht hrr hn hL hs hrl hlr hfit hld
  go_enter Tryz.func28, Tryz.ntmps28
  obtain ⟨W1, hW1⟩ : ∃ W1, w.alloc (.cells #[.slice ar L cr] 51) = W1 := ⟨_, rfl⟩
  have hX1 : Ext w W1 := by rw [← hW1]; exact Ext.alloc _ _
  have c1 : W1.cell? ⟨w.heap.size, 0, none⟩ = some (.slice ar L cr) := by rw [← hW1, World.cell?_alloc_new]; rfl
  have HX1 := Lib.hid hX1
  clear hX1
  go_wp2_with fail
  refine (HCH.out _ HX1.out).mono ?_
  rintro e w2 ⟨rfl, hE2⟩
  have c2 := hE2.cell c1
  have HX2 := Lib.hid (Ext.trans HX1.out hE2)
  clear hE2 c1 hW1 HCH
  go_wp2_with fail
  refine (HANY.out _ HX2.out).mono ?_
  rintro e w3 ⟨rfl, hE3⟩
  have c3 := hE3.cell c2
  have HX3 := Lib.hid (Ext.trans HX2.out hE3)
  clear hE3 c2 HANY
  go_wp2_with fail
  refine (HCO.out _ HX3.out).mono ?_
  rintro e w4 ⟨rfl, rfl⟩
  clear HCO
  go_wp2_with fail
  refine (HRO.out _ _ HX3.out c3).mono ?_
  rintro e w5 ⟨u, tags, rfl, hO, hE5⟩
  obtain ⟨au, cu, hu⟩ := hO.form2
  rw [HML.out] at hu
  have HO := Lib.hid hO; have HE5 := Lib.hid hE5
  subst hu
  clear hO hE5 c3 HRO
  go_wp2_with fail
  refine (HRE.out _ tags w4 w5 HO.out HX3.out HE5.out).mono ?_
  rintro e w6 ⟨vl, rfl, hR⟩
  have hRI := hR.lead
  rw [← HS.out] at hRI
  obtain ⟨av, cv, hv, -, -⟩ := hRI.form
  rw [← HLD.out] at hv
  subst hv
  have HLE := Lib.hid hRI
  obtain ⟨d, hd⟩ : ∃ d, d = s.det := ⟨_, rfl⟩
  rw [← hd]
  rw [show ratV d = .agg #[.string (intB d.num), .string (numB d.den)] from rfl]
  obtain ⟨g, tags', cap, hu, hM, hcp1, hcp2, hlow⟩ := hR.mat HMNE.out
  have HX6 := Lib.hid (Ext.trans HX3.out hR.ext)
  rw [← HS.out] at hM
  have HM := Lib.hid hM
  simp only [Value.slice.injEq] at hu
  obtain ⟨rfl, -, rfl⟩ := hu
  rw [HML.out] at hcp1
  obtain ⟨W7, hW7, hE7, hs7, hb7⟩ := box2 w6 (.string ⟨#[]⟩) (.string ⟨#[]⟩) 81
  obtain ⟨r0, r1, rf⟩ := block2_cell hb7
  have f0 := rf 0
  have f1 := rf 1
  have HX8 : Hid (Ext w6 ((W7.setCell ⟨w6.heap.size, 0, none⟩ (.string (intB d.num))).setCell ⟨w6.heap.size, 1, none⟩ (.string (numB d.den)))) := ext_set2 hE7 (Nat.le_refl _)
  have p1 : (ld : Int) ≤ (L : Int) := by omega
  have p2 : (0 : Int) ≤ (ld : Int) := by omega
  clear hR hRI hd rf hb7 hE7 hs7 hM HRE HO HE5 hlow
  go_upto_region 11 with (fail)
  obtain ⟨W9, hW9⟩ : ∃ W9, W9 = ((W7.setCell ⟨w6.heap.size, 0, none⟩ (.string (intB d.num))).setCell ⟨w6.heap.size, 1, none⟩ (.string (numB d.den))) := ⟨_, rfl⟩
  rw [← hW9] at HX8 ⊢
  clear hW9 hW7 r0 r1 f0 f1
  obtain ⟨off, hoff, hoff2⟩ : ∃ off, (if cu = ld then some (⟨g, 0, none⟩ : Addr) else some ⟨g, ld, none⟩) = some ⟨g, off, none⟩ ∧ (ld < cu → off = ld) := by
    by_cases h : cu = ld
    · exact ⟨0, by rw [if_pos h], fun h2 => by omega⟩
    · exact ⟨ld, by rw [if_neg h], fun _ => rfl⟩
  have HOFF := Lib.hid hoff2
  clear hoff2
  have HM9 : Hid (MatQ W9 g tags' s.m) := HM.out.ext HX8.out
  have HL9 : Hid (OwnI w5.heap.size W9 (.slice av ld cv) s.lead) := HLE.out.ext HX8.out
  have HXW := Lib.hid (Ext.trans HX6.out HX8.out)
  have HRC : Hid (s.m.length = L) := HSH.out.2.1
  clear HM HLE HX8
  go_wp2_with fail
  clear hoff
  go_loopw [44] (fun t wr => ∃ q : Nat, q ≤ L - ld ∧ t = .int .i64 (q : Int) ∧ Hid (Ext W9 wr) ∧ Hid (∀ p r, p < q → s.m[ld + p]? = some r → r.getD n 0 = 0)) (fun t _ => (L - ld) - (intOf t).toNat)
  case atStart => exact ⟨0, by omega, rfl, Ext.refl _, fun p r hp => by omega⟩
  case round =>
    obtain ⟨q, hq, rfl, HE, HZ⟩ := hrel
    obtain ⟨wo, rfl⟩ : ∃ wo : World, wo = wr := ⟨_, rfl⟩
    by_cases hlt : q < L - ld
    · obtain rfl : off = ld := HOFF.out (by omega)
      obtain ⟨r, hr⟩ : ∃ r, s.m[off + q]? = some r := ⟨_, List.getElem?_eq_getElem (by rw [HRC.out]; omega)⟩
      obtain ⟨t, ht, c1, l1, l2, hrow, -, -⟩ := HM9.out.get hr
      have hrl := HSH.out.1.get hr
      obtain ⟨x, hx⟩ : ∃ x, r[n]? = some x := ⟨_, List.getElem?_eq_getElem (by omega)⟩
      have hxg : r.getD n 0 = x := by rw [List.getD_eq_getElem?_getD, hx]; rfl
      have d1 := HE.out.cell c1
      have d2 := HE.out.cell (hrow.num n x hx)
      have d3 := HE.out.cell (hrow.den n x hx)
      obtain ⟨R1, hR1⟩ : ∃ R1, R1 = n + 1 := ⟨_, rfl⟩
      rw [hrl, ← hR1] at d1
      have p3 : (n : Int) < (R1 : Int) := by omega
      have p4 : (0 : Int) ≤ (n : Int) := by omega
      have p5 : (q : Int) < ((L - off : Nat) : Int) := by omega
      have HSG : Hid (∀ W, Calls Tryz.prog 70 #[.agg #[.string (intB x.num), .string (numB x.den)]] W fun e w' => e = .returned (.int .i64 x.num.sign) ∧ Ext W w') := fun W => ratSign_any x W
      have hsz := rat_sign_zero x
      have HR0 := Lib.hid hr
      have HXG := Lib.hid hxg
      clear hr ht c1 hrow hrl hx hxg hR1
      obtain ⟨sg, hsg⟩ : ∃ sg, sg = x.num.sign := ⟨_, rfl⟩
      rw [← hsg] at HSG hsz
      by_cases hx0 : x = 0
      · rw [decide_eq_true hx0] at hsz
        have hsz2 : (sg != 0) = false := by simp only [bne, hsz]; rfl
        have HZ2 : Hid (∀ p r, p < q + 1 → s.m[off + p]? = some r → r.getD n 0 = 0) := fun p r' hp hr' => by
          by_cases e : p = q
          · subst e
            obtain rfl : r' = r := Option.some.inj (hr'.symm.trans HR0.out)
            rw [HXG.out]; exact hx0
          · exact HZ.out p r' (by omega) hr'
        clear hx0 hsg HXG HR0
        go_wp2_with fail
        refine (HSG.out _).mono ?_
        rintro e w3 ⟨rfl, hE3⟩
        have HE3 := Lib.hid (Ext.trans HE.out hE3)
        clear hE3 HSG d1 d2 d3
        go_wp2_with fail
        go_roundw
        case rel => exact ⟨q + 1, by omega, by go_num, HE3.out, HZ2.out⟩
        case measure => simp [intOf]; omega
      · rw [decide_eq_false hx0] at hsz
        have hsz2 : (sg != 0) = true := by simp only [bne, hsz]; rfl
        have HBAD : Hid (solBad s n = true) := solBad_at (q := q) (by rw [← HLD.out]; exact HR0.out) (by rw [HXG.out]; exact hx0)
        clear hx0 hsg HXG HR0
        go_wp2_with fail
        refine (HSG.out _).mono ?_
        rintro e w3 ⟨rfl, hE3⟩
        have HE3 := Lib.hid (Ext.trans HE.out hE3)
        clear hE3 HSG d1 d2 d3
        go_wp2_with fail
        go_ret3
        have e1 : solK s n = 3 := by unfold solK; rw [if_pos HBAD.out]
        have e2 : solX s n = [] := by unfold solX; rw [if_pos HBAD.out]
        exact ⟨.slice none 0 0, by rw [e1]; rfl, by rw [e2]; exact Rats.nil _, HXW.out.trans HE3.out⟩
    · have HGOOD : Hid (solBad s n = false) := solBad_none (fun p r hr => HZ.out p r (by
        have := (List.getElem?_eq_some_iff.1 hr).1
        rw [HRC.out, ← HLD.out] at this
        omega) (by rw [HLD.out]; exact hr))
      have HX9 := Lib.hid (Ext.trans HXW.out HE.out)
      go_wp2_with fail
      have HZERO : Hid (∀ W, Calls Tryz.prog 56 #[] W fun e w' => e = .returned (.agg #[.string ⟨#[48]⟩, .string ⟨#[49]⟩]) ∧ Ext W w') := fun W => by
        have := tzero_any W
        rw [ratV_zero] at this; exact this
      refine (HZERO.out _).mono ?_
      rintro e w7 ⟨rfl, hE7⟩
      obtain ⟨Wz, hWz⟩ : ∃ Wz, w7.alloc (.cells #[.string ⟨#[48]⟩, .string ⟨#[49]⟩] 81) = Wz := ⟨_, rfl⟩
      have hEz : Ext w7 Wz := by rw [← hWz]; exact Ext.alloc _ _
      have HRz : Hid (Rats Wz (.slice (some ⟨w7.heap.size, 0, none⟩) 1 1) [0]) := by
        rw [← hWz]
        have := Rats.one w7 0 81
        rw [show (0 : Rat).num = 0 from rfl, show (0 : Rat).den = 1 from rfl, intB_zero, numB_one] at this
        exact this
      have HXz := Lib.hid (Ext.trans HE.out (Ext.trans hE7 hEz))
      clear hE7 hEz HZ HE HZERO
      go_wp2_with fail
      refine (repeat_any 0 n (by omega) _ _ HRz.out).mono ?_
      rintro e w8 ⟨gx, rfl, hQ, hE8⟩
      have hgx := (hQ.lt gx (by simp [Value.ownBlock])).1
      have HRX : Hid (RowQ w8 gx (xTo s n 0)) := hQ.row
      have HX8 := Lib.hid (Ext.trans HXz.out hE8)
      have HGX : Hid (W9.heap.size ≤ gx) := Nat.le_trans HXz.out.size hgx
      clear hQ hE8 hgx hWz HRz HXz
      have HLI : Hid (∀ (i : Nat) x, s.lead[i]? = some x → ∃ b, av = some ⟨b, 0, none⟩ ∧ b < W9.heap.size ∧ W9.cell? ⟨b, i, none⟩ = some (.int .i64 (x : Int))) := by
        intro i x hx
        have hil := (List.getElem?_eq_some_iff.1 hx).1
        obtain ⟨b, cap, hb, k1, k2, -, -⟩ := owns_shape HL9.out (by omega)
        simp only [Value.slice.injEq] at hb
        obtain ⟨rfl, -, rfl⟩ := hb
        have hc := World.ownsRow.cells HL9.out (g := b) (by simp [Value.ownBlock]) i (.int .i64 (x : Int)) (by rw [List.getElem?_map, hx]; rfl)
        rw [show (⟨b, 0, none⟩ : Addr).add i = ⟨b, i, none⟩ by unfold Addr.add; split <;> simp_all] at hc
        exact ⟨b, rfl, k2, hc⟩
      go_wp2_with fail
      go_loopw [61] (fun t wr => ∃ i : Nat, i ≤ ld ∧ t = .int .i64 (i : Int) ∧ Hid (GrownS (· = gx) w8 wr) ∧ Hid (RowQ wr gx (xTo s n i))) (fun t _ => ld - (intOf t).toNat)
      case atStart => exact ⟨0, by omega, rfl, GrownS.refl _ _, HRX.out⟩
      case round =>
        obtain ⟨i, hi, rfl, HG, HR⟩ := hrel
        obtain ⟨wo2, rfl⟩ : ∃ wo2 : World, wo2 = wr := ⟨_, rfl⟩
        have HXO : Hid (Ext W9 wo2) := Below.trans HX8.out (HG.out.belowE (fun b e => by have := HGX.out; omega) HX8.out.size)
        by_cases hlt2 : i < ld
        · obtain ⟨x, hx⟩ : ∃ x, s.lead[i]? = some x := ⟨_, List.getElem?_eq_getElem (by rw [← HLD.out]; exact hlt2)⟩
          have hxn : x < n := HLT.out x (List.mem_of_getElem? hx)
          obtain ⟨b, rfl, hbl, hbc⟩ := HLI.out i x hx
          obtain ⟨r, hr⟩ : ∃ r, s.m[i]? = some r := ⟨_, List.getElem?_eq_getElem (by rw [HRC.out]; omega)⟩
          obtain ⟨t, ht, c1, l1, l2, hrow, -, -⟩ := HM9.out.get hr
          have hrl := HSH.out.1.get hr
          obtain ⟨y, hy⟩ : ∃ y, r[n]? = some y := ⟨_, List.getElem?_eq_getElem (by omega)⟩
          have hel : elQ s.m i n = y := elQ_get (by rw [rowQ_get hr]; exact hy)
          have hgd : s.lead.getD i 0 = x := by rw [List.getD_eq_getElem?_getD, hx]; rfl
          have d1 := HXO.out.cell hbc
          have d2 := HXO.out.cell c1
          have d3 := HXO.out.cell (hrow.num n y hy)
          have d4 := HXO.out.cell (hrow.den n y hy)
          obtain ⟨z0, hz0⟩ : ∃ z0, (xTo s n i)[x]? = some z0 := ⟨_, List.getElem?_eq_getElem (by rw [xTo_len]; exact hxn)⟩
          have d5 := HR.out.num x z0 hz0
          have d6 := HR.out.den x z0 hz0
          have d7 := HR.out.free (x * 2)
          have d8 := HR.out.free (x * 2 + 1)
          have HNX : Hid (RowQ ((wo2.setCell ⟨gx, x * 2, none⟩ (.string (intB y.num))).setCell ⟨gx, x * 2 + 1, none⟩ (.string (numB y.den))) gx (xTo s n (i + 1))) := by
            have := HR.out.set x (by rw [xTo_len]; exact hxn) y
            rw [show xTo s n (i + 1) = (xTo s n i).set (s.lead.getD i 0) (elQ s.m i n) from rfl, hgd, hel]
            exact this
          have HGN : Hid (GrownS (· = gx) w8 ((wo2.setCell ⟨gx, x * 2, none⟩ (.string (intB y.num))).setCell ⟨gx, x * 2 + 1, none⟩ (.string (numB y.den)))) := ((HG.out.store (S := (· = gx)) rfl _ _)).store (S := (· = gx)) rfl _ _
          obtain ⟨R1, hR1⟩ : ∃ R1, R1 = n + 1 := ⟨_, rfl⟩
          rw [hrl, ← hR1] at d2
          have p3 : (n : Int) < (R1 : Int) := by omega
          have p4 : (0 : Int) ≤ (n : Int) := by omega
          have p5 : (i : Int) < (ld : Int) := by omega
          have p6 : (i : Int) < (L : Int) := by omega
          have p7 : (x : Int) < (n : Int) := by omega
          have p8 : (0 : Int) ≤ (x : Int) := by omega
          have p9 : (0 : Int) ≤ (i : Int) := by omega
          clear hx hr ht c1 hrow hrl hy hel hgd hbc hz0 hR1
          go_wp2_with fail
          go_roundw
          case rel => exact ⟨i + 1, by omega, by go_num, HGN.out, HNX.out⟩
          case measure => simp [intOf]; omega
        · obtain rfl : i = ld := by omega
          have hrt := HR.out.rats (c := n) (by rw [xTo_len]; exact Nat.le_refl _) (by omega)
          rw [xTo_len] at hrt
          have e2 : solX s n = xTo s n i := by unfold solX; rw [if_neg (by rw [HGOOD.out]; simp), ← HLD.out]
          rw [← e2] at hrt
          have HRT := Lib.hid hrt
          have HXF := Lib.hid (Ext.trans HXW.out HXO.out)
          clear hrt e2
          by_cases hln : i < n
          · have e1 : Hid (solK s n = 2) := by unfold Hid solK; rw [if_neg (by rw [HGOOD.out]; simp), ← HLD.out, if_pos hln]
            have p9 : (i : Int) < (n : Int) := by omega
            go_wp2_with fail
            go_ret3
            exact ⟨_, by rw [e1.out]; rfl, HRT.out, HXF.out⟩
          · have e1 : Hid (solK s n = 1) := by unfold Hid solK; rw [if_neg (by rw [HGOOD.out]; simp), ← HLD.out, if_neg hln]
            have p9 : ¬ (i : Int) < (n : Int) := by omega
            go_wp2_with fail
            go_ret3
            exact ⟨_, by rw [e1.out]; rfl, HRT.out, HXF.out⟩
end Go.Proofs.YtpeinobepiodaaaGreatDoor
