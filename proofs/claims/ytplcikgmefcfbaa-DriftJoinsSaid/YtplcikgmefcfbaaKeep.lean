/- append: the cells that the slice held stay as they were. No program is named here. -/
import Derived.Test.YtplcikgmefcfbaaBuildS
import Derived.Deep.DeepAppendRoom
import Derived.Deep.AppendLies
namespace Go.Proofs.Ytplcikgmefcfbaa
set_option linter.unusedVariables false
set_option linter.unusedSimpArgs false
open Go.RowKit

theorem run_append_keeps {P : Program} {w w' : World} {v' : Value} (base : Nat) (t ty e : TypeId) (i : TypeInfo) (z : Value) (size bytes : Nat) (ht : P.underlying t = some (.slice e)) (hi : P.info? e = some i) (hz : i.zero = some z)
    (hsize : i.size = size) (hby : i.bytes = bytes)
    (g n cap : Nat) (xs : List Value) (hown : w.ownsRow base e size (.slice (some ⟨g, 0, none⟩) n cap) n xs)
    (a : Addr) (m c : Nat) (news : List Value) (hl : news.length = m * size) (hnews : ∀ j u, news[j]? = some u → w.cell? (a.add j) = some u) (h1 : ∀ u ∈ news, u.oneCell' = true)
    (h63 : n + m ≤ maxLen) (hbytes : (n + m) * bytes ≤ 140737488355328) (hr : (Builtin.append_ #[t, t] ty #[.slice (some ⟨g, 0, none⟩) n cap, .slice (some a) m c]).run P w = .ok v' w') :
    ∀ (j : Nat) u, xs[j]? = some u → w'.cell? ⟨g, j, none⟩ = some u := by
  have hadd : ∀ j, (⟨g, 0, none⟩ : Addr).add j = ⟨g, j, none⟩ := by intro j; unfold Addr.add; split <;> simp_all
  intro j u hu
  by_cases hroom : n + m ≤ cap
  · obtain ⟨w2, hr2, hown2, -⟩ := run_append_own_spare (P := P) w base t ty e i size ht hi hsize g n cap xs hown a m c news hl hnews h1 hroom
    rw [hr2] at hr
    cases hr
    have := hown2.cells (g := g) rfl j u (by rw [List.getElem?_append_left (List.getElem?_eq_some_iff.1 hu).1]; exact hu)
    rwa [hadd] at this
  · subst hsize
    subst hby
    have hsmall : n + m ≤ 9223372036854775807 := by simp only [maxLen] at h63; omega
    have holds : ∀ j u, xs[j]? = some u → w.cell? ((⟨g, 0, none⟩ : Addr).add j) = some u := hown.cells (g := g) rfl
    have hr2 := run_append_grow (P := P) w t ty e i z ht hi hz ⟨g, 0, none⟩ n cap xs hown.1 holds a m c news hl hnews (by omega) (by omega) (growslice_fits (by omega) hbytes)
    rw [hr2] at hr
    cases hr
    have := holds j u hu
    rw [hadd] at this
    exact Ext.cell ((Ext.drew w).trans (Ext.alloc w.drew _)) this

/-- A step of a region that draws its order; what the slice held stays. -/
theorem step_append_keep {P : Program} {α : Type} (w : World) {ops : Array Oper} {o : Oper} {a : Act} {K : Act → World → Prop} {Q : Exit → Act → World → Prop} {E : Prop} (hgd : o.guard = none)
    (s x : Operand) (t : TypeId) (ho : o.op = Op.call { callee := Callee.builtin Builtin.append, args := #[s, x], argTypes := #[t, t] }) (base : Nat) (e : TypeId) (z : Value) (k bytes : Nat)
    (ht : P.underlying t = some (TypeDesc.slice e)) (hinfo : (P.info? e).map (fun i => (i.zero, i.size, i.bytes)) = some (some z, k, bytes)) (hzs : z.cells.size = k) (hk : 0 < k)
    (v : Value) (R : World → List Value → α → Prop) (xs : List α) (y : α) (u : Array Value) (T : TypeId) (hs : a.eval s = v) (hB : Build w base e k v R xs)
    (hx : a.eval x = .slice (some ⟨w.heap.size, 0, none⟩) 1 1) (hu : u.size = k) (h1 : ∀ z ∈ u.toList, z.oneCell' = true) (hR : Safe w v.ownBlock fun w => R w u.toList y)
    (hlen : xs.length < 1000000) (hbytes : bytes ≤ 1000) (hbase : base ≤ w.heap.size)
    (h : ∀ v' w', Build w' base e k v' R (xs ++ [y]) → w.grownBy w' v.ownBlock → Below base w w' → w.heap.size < w'.heap.size → (∀ (g cap : Nat), v = .slice (some ⟨g, 0, none⟩) xs.length cap → ∀ (j : Nat) u, j < xs.length * k → w.cell? ⟨g, j, none⟩ = some u → w'.cell? ⟨g, j, none⟩ = some u) → K (a.put o.dst v') w') :
    if Region.wanted o (yielded ops a.tmps) = true then Oper.wp P o a (w.alloc (.cells u T)) K Q else E := by
  have hw : Region.wanted o (yielded ops a.tmps) = true := by simp [Region.wanted, hgd]
  rw [if_pos hw]
  obtain ⟨i, hi, hz, hsize, hby⟩ := info_parts hinfo
  obtain ⟨us, b1, b2, b3, b4⟩ := hB
  have hadd : ∀ g j, (⟨g, 0, none⟩ : Addr).add j = ⟨g, j, none⟩ := by intro g j; unfold Addr.add; split <;> simp_all
  have hnews : ∀ (j : Nat) q, u.toList[j]? = some q → (w.alloc (.cells u T)).cell? ((⟨w.heap.size, 0, none⟩ : Addr).add j) = some q := by
    intro j q hq
    rw [hadd, World.cell?_alloc_new]
    simpa using hq
  have hm1 : xs.length + 1 ≤ maxLen := by unfold maxLen; omega
  have hm2 : (xs.length + 1) * bytes ≤ 140737488355328 := by
    have : (xs.length + 1) * bytes ≤ 1000000 * 1000 := Nat.mul_le_mul (by omega) hbytes
    omega
  have hown0 : (w.alloc (.cells u T)).ownsRow base e k v xs.length us.flatten := b3.alloc _
  obtain ⟨v', w', hr, hown, hgrow, _, hat⟩ := run_append_own_at (P := P) (w.alloc (.cells u T)) base t o.type e i z k bytes ht hi hz hsize hby hzs hk v xs.length us.flatten hown0 ⟨w.heap.size, 0, none⟩ 1 1 u.toList (by simp [hu]) hnews h1 hm1 hm2 (by simp; omega)
  have hgw : w.grownBy w' v.ownBlock := grown_trans (World.grownBy_alloc w _ v.ownBlock) hgrow
  have safe : ∀ Pr : World → Prop, Safe w v.ownBlock Pr → Safe w' v'.ownBlock Pr := fun Pr hP => Safe.append (Safe.ext hP (Ext.alloc w (.cells u T))) hgrow hat
  have hkeep : ∀ (g cap : Nat), v = .slice (some ⟨g, 0, none⟩) xs.length cap → ∀ (j : Nat) u, j < xs.length * k → w.cell? ⟨g, j, none⟩ = some u → w'.cell? ⟨g, j, none⟩ = some u := by
    intro g cap hv j q hj hc
    subst hv
    have hl : us.flatten.length = xs.length * k := b3.1
    have hq : us.flatten[j]? = some us.flatten[j] := by simp [hl, hj]
    have h0 := b3.cells (g := g) rfl j _ hq
    rw [hadd, hc] at h0
    injection h0 with h0
    rw [h0]
    exact run_append_keeps base t o.type e i z k bytes ht hi hz hsize hby g xs.length cap us.flatten hown0 ⟨w.heap.size, 0, none⟩ 1 1 u.toList (by simp [hu]) hnews h1 hm1 hm2 hr j _ hq
  unfold Oper.wp execOp
  simp only [ho, resolve, invoke, builtin, Sem.run_bind, Sem.run_pure, Result.andThen_ok, List.map_toArray, List.map_cons, List.map_nil, hs, hx, hr]
  refine h v' w' ⟨us ++ [u.toList], by simp [b1], ?_, ?_, ?_⟩ hgw ?_ ?_ hkeep
  · intro q hq
    rcases List.mem_append.1 hq with hq | hq
    · exact b2 q hq
    · rw [List.mem_singleton.1 hq]; simpa using hu
  · rw [flatten_snoc]
    simpa using hown
  · intro j q y' hq hy
    by_cases hj : j < us.length
    · rw [List.getElem?_append_left hj] at hq
      rw [List.getElem?_append_left (by omega)] at hy
      exact safe _ (b4 j q y' hq hy)
    · rw [List.getElem?_append_right (by omega)] at hq
      rw [List.getElem?_append_right (by omega)] at hy
      have e1 : j - us.length = 0 := by
        have := (List.getElem?_eq_some_iff.1 hq).1
        simp at this; omega
      have e2 : j - xs.length = 0 := by omega
      rw [e1] at hq; rw [e2] at hy
      simp at hq hy
      subst hq; subst hy
      exact safe _ hR
  · refine ⟨hgw.os, hgw.tape, hgw.output, hgw.size, fun b hb => hgw.block b (by omega) ?_⟩
    intro e
    have := (b3.lt b e.symm).1
    omega
  · have := hgrow.size
    simp at this
    omega
end Go.Proofs.Ytplcikgmefcfbaa
