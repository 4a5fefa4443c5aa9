/- An append, inside a fence: as outside. No program is named here. -/
import Derived.Test.YtplcikgmefcfbaaTurn
import Derived.Test.YtplcikgmefcfbaaDriftC
namespace Go.Proofs.Ytplcikgmefcfbaa
set_option linter.unusedVariables false
set_option linter.unusedSimpArgs false
open Go.RowKit Go.Shelf

/-- 'out = append(out, x)' inside a fence, at a step of a region: several slices are built at a time. -/
theorem wpIn_append_buildS {F : Fence} {n : Nat} {P : Program} (w : World) {o : Oper} {a : Act} {K : Act → World → Prop} {Q : Exit → Act → World → Prop}
    (s x : Operand) (t : TypeId) (ho : o.op = Op.call { callee := Callee.builtin Builtin.append, args := #[s, x], argTypes := #[t, t] })
    (h : ∀ K' : Act → World → Prop, (∀ a w, K a w → K' a w) → o.wp P a w K' (fun _ _ _ => False)) : o.wpIn F n P a w K Q := by
  have h := h K (fun _ _ h => h)
  unfold Oper.wp execOp at h
  unfold Oper.wpIn
  refine ⟨by simp [Oper.about, ho, resolve, Target.leads, Sem.run_pure], ?_⟩
  rw [Oper.semAt_plain F _ _ (by rw [ho]; intro c hc; cases hc)]
  simp only [ho, execOp, resolve, invoke, builtin, Sem.run_bind, Sem.run_pure, Result.andThen_ok, List.map_toArray, List.map_cons, List.map_nil] at h ⊢
  revert h
  cases hr : (Builtin.append_ #[t, t] o.type #[a.eval s, a.eval x]).run P w with
  | ok v w' => exact fun h => h
  | halt m w' =>
    intro h
    exfalso
    revert h
    cases m <;> simp [Result.andThen, Oper.upon]

theorem run_append_buildS {P : Program} {α : Type} (w : World) (t ty : TypeId) (S : Nat → Prop) (base : Nat) (e : TypeId) (z : Value) (k bytes : Nat)
    (ht : P.underlying t = some (TypeDesc.slice e)) (hinfo : (P.info? e).map (fun i => (i.zero, i.size, i.bytes)) = some (some z, k, bytes)) (hzs : z.cells.size = k) (hk : 0 < k)
    (v : Value) (R : World → List Value → α → Prop) (xs : List α) (y : α) (u : Array Value) (T : TypeId) (hB : BuildS w S base e k v R xs)
    (nb : Nat) (hnb : nb = w.heap.size) (hu : u.size = k) (h1 : ∀ z ∈ u.toList, z.oneCell' = true) (hR : SafeS w S fun w => R w u.toList y)
    (hlen : xs.length < 1000000) (hbytes : bytes ≤ 1000) (hbase : base ≤ w.heap.size) (b00 : Nat) (hb00 : b00 ≤ base) (hok : SOk S b00 w) :
    ∃ v' w' S', (Builtin.append_ #[t, t] ty #[v, .slice (some ⟨nb, 0, none⟩) 1 1]).run P (w.alloc (.cells u T)) = .ok v' w' ∧ SOk S' b00 w' ∧ (∀ b, S b → S' b) ∧ (∀ b, S' b → S b ∨ w.heap.size ≤ b) ∧ (∀ b, w.heap.size ≤ b → b < w'.heap.size → S' b) ∧ BuildS w' S' base e k v' R (xs ++ [y]) ∧ w.grownBy w' v.ownBlock ∧ Below base w w' ∧ w.heap.size < w'.heap.size ∧ (∀ Pr : World → Prop, SafeS w S Pr → SafeS w' S' Pr) := by
  subst hnb
  obtain ⟨i, hi, hz, hsize, hby⟩ := info_parts hinfo
  obtain ⟨b0, us, b1, b2, b3, b4⟩ := hB
  have hadd : ∀ j, (⟨w.heap.size, 0, none⟩ : Addr).add j = ⟨w.heap.size, j, none⟩ := by intro j; unfold Addr.add; split <;> simp_all
  have hnews : ∀ (j : Nat) q, u.toList[j]? = some q → (w.alloc (.cells u T)).cell? ((⟨w.heap.size, 0, none⟩ : Addr).add j) = some q := by
    intro j q hq
    rw [hadd, World.cell?_alloc_new]
    simpa using hq
  have hm1 : xs.length + 1 ≤ maxLen := by unfold maxLen; omega
  have hm2 : (xs.length + 1) * bytes ≤ 140737488355328 := by
    have : (xs.length + 1) * bytes ≤ 1000000 * 1000 := Nat.mul_le_mul (by omega) hbytes
    omega
  obtain ⟨v', w', hr, hown, hgrow, _, hat⟩ := run_append_own_at (P := P) (w.alloc (.cells u T)) base t ty e i z k bytes ht hi hz hsize hby hzs hk v xs.length us.flatten (b3.alloc _) ⟨w.heap.size, 0, none⟩ 1 1 u.toList (by simp [hu]) hnews h1 hm1 hm2 (by simp; omega)
  have hgw : w.grownBy w' v.ownBlock := grown_trans (World.grownBy_alloc w _ v.ownBlock) hgrow
  have hS1 : ∀ b, (S b ∨ w.heap.size ≤ b ∧ b < w'.heap.size) → S b ∨ w.heap.size ≤ b := by
    rintro b (hb | hb)
    · exact .inl hb
    · exact .inr hb.1
  have safe : ∀ Pr : World → Prop, SafeS w S Pr → SafeS w' (fun b => S b ∨ w.heap.size ≤ b ∧ b < w'.heap.size) Pr := fun Pr hP => hP.grow (grownBy_S hgw b0) hS1
  have hok' : SOk (fun b => S b ∨ w.heap.size ≤ b ∧ b < w'.heap.size) b00 w' := by
    rintro b (hb | hb)
    · exact ⟨(hok b hb).1, Nat.lt_of_lt_of_le (hok b hb).2 hgw.size⟩
    · exact ⟨by omega, hb.2⟩
  have hv0 : ∀ b, v'.ownBlock = some b → S b ∨ w.heap.size ≤ b ∧ b < w'.heap.size := by
    intro b hb
    rcases hat with e | e
    · exact .inl (b0 b (e ▸ hb))
    · have h2 := (hown.lt b hb).2
      rw [e] at hb
      simp at hb
      exact .inr ⟨by omega, h2⟩
  refine ⟨v', w', (fun b => S b ∨ w.heap.size ≤ b ∧ b < w'.heap.size), hr, hok', (fun b hb => .inl hb), hS1, (fun b h1 h2 => .inr ⟨h1, h2⟩), ⟨hv0, us ++ [u.toList], by simp [b1], ?_, ?_, ?_⟩, hgw, ?_, ?_, safe⟩
  · intro q hq
    rcases List.mem_append.1 hq with hq | hq
    · exact b2 q hq
    · rw [List.mem_singleton.1 hq]; simpa using hu
  · rw [flatten_snoc]
    simpa using hown
  · intro j q y' hq hy
    by_cases hj : j < us.length
    · rw [List.getElem?_append_left hj] at hq
      rw [List.getElem?_append_left (by omega)] at hy
      exact safe _ (b4 j q y' hq hy)
    · rw [List.getElem?_append_right (by omega)] at hq
      rw [List.getElem?_append_right (by omega)] at hy
      have e1 : j - us.length = 0 := by
        have := (List.getElem?_eq_some_iff.1 hq).1
        simp at this; omega
      have e2 : j - xs.length = 0 := by omega
      rw [e1] at hq; rw [e2] at hy
      simp at hq hy
      subst hq; subst hy
      exact safe _ hR
  · refine ⟨hgw.os, hgw.tape, hgw.output, hgw.size, fun b hb => hgw.block b (by omega) ?_⟩
    intro e
    have := (b3.lt b e.symm).1
    omega
  · have := hgrow.size
    simp at this
    omega

theorem chords_few (p : List Int) : ∀ (cs : List (List (List Int))), chordsE p cs = 0 → ∀ c ∈ cs, 1 ≤ c.length ∧ c.length ≤ 12
  | [], _, c, hc => by simp at hc
  | d :: cs, h, c, hc => by
    rw [chordsE] at h
    by_cases h1 : countE d.length 12 = 0
    · rw [if_pos h1] at h
      by_cases h2 : checkAllE p d = 0
      · rw [if_pos h2] at h
        rcases List.mem_cons.1 hc with rfl | hc
        · unfold countE at h1
          split at h1
          · omega
          · split at h1 <;> omega
        · exact chords_few p cs h c hc
      · rw [if_neg h2] at h; exact absurd h h2
    · rw [if_neg h1] at h; exact absurd h h1
theorem few_notes {k : Wk} (hz : walkE k = 0) (c : List (List Int)) (hc : c ∈ k.chords) : 1 ≤ c.length ∧ c.length ≤ 12 := by
  unfold walkE at hz
  by_cases h1 : primesE k.primes = 0
  · rw [if_pos h1] at hz
    by_cases h2 : countE k.chords.length 64 = 0
    · rw [if_pos h2] at hz
      by_cases h3 : chordsE k.primes k.chords = 0
      · exact chords_few _ _ h3 c hc
      · rw [if_neg h3] at hz; exact absurd hz h3
    · rw [if_neg h2] at hz; exact absurd hz h2
  · rw [if_neg h1] at hz; exact absurd hz h1
end Go.Proofs.Ytplcikgmefcfbaa
