/- Slices that a call builds by appending one element after another. No program is named here. -/
import Derived.Test.YtplcikgmefcfbaaBase
import Derived.Maps.AppendAt
namespace Go.Proofs.Ytplcikgmefcfbaa
set_option linter.unusedVariables false
set_option linter.unusedSimpArgs false
open Go.RowKit

theorem owns_ext {w w' : World} {base : Nat} {e : TypeId} {size : Nat} {v : Value} {n : Nat} {xs : List Value} (h : w.ownsRow base e size v n xs) (he : Ext w w') : w'.ownsRow base e size v n xs := by
  refine h.kept (row := none) ⟨he.os, he.tape, he.output, he.size, fun k hk _ => he.block k hk⟩ ?_
  cases hv : v.ownBlock <;> simp

theorem owns_shape {w : World} {base : Nat} {e : TypeId} {size : Nat} {v : Value} {n : Nat} {xs : List Value} (h : w.ownsRow base e size v n xs) (hn : 0 < n) : ∃ g cap, v = .slice (some ⟨g, 0, none⟩) n cap ∧ base ≤ g ∧ g < w.heap.size ∧ n ≤ cap ∧ cap ≤ maxLen := by
  rcases h.2 with ⟨_, rfl⟩ | ⟨g, cap, cur, rfl, hg, hh, h1, h2, _⟩
  · omega
  · exact ⟨g, cap, rfl, hg, (Array.getElem?_eq_some_iff.1 hh).1, h1, h2⟩

/-- What holds whatever becomes of block o, if the others that lie in w stay. -/
def Safe (w : World) (o : Option Nat) (P : World → Prop) : Prop := ∀ w', w.grownBy w' o → P w'

theorem Safe.now {w : World} {o : Option Nat} {P : World → Prop} (h : Safe w o P) : P w := h w (World.grownBy.refl w o)
theorem grown_trans {a b c : World} {o : Option Nat} (h : a.grownBy b o) (k : b.grownBy c o) : a.grownBy c o :=
  ⟨k.os.trans h.os, k.tape.trans h.tape, k.output.trans h.output, Nat.le_trans h.size k.size, fun i hi ho => (k.block i (Nat.lt_of_lt_of_le hi h.size) ho).trans (h.block i hi ho)⟩
theorem Ext.grown {w w' : World} (h : Ext w w') (o : Option Nat) : w.grownBy w' o := ⟨h.os, h.tape, h.output, h.size, fun k hk _ => h.block k hk⟩
theorem Safe.ext {w w' : World} {o : Option Nat} {P : World → Prop} (h : Safe w o P) (he : Ext w w') : Safe w' o P := fun _ hg => h _ (grown_trans (he.grown o) hg)
theorem Safe.append {w w1 : World} {v v' : Value} {P : World → Prop} (h : Safe w v.ownBlock P) (hg : w.grownBy w1 v.ownBlock) (hat : v'.ownBlock = v.ownBlock ∨ v'.ownBlock = some w.heap.size) : Safe w1 v'.ownBlock P := by
  intro w2 h2
  refine h w2 ⟨h2.os.trans hg.os, h2.tape.trans hg.tape, h2.output.trans hg.output, Nat.le_trans hg.size h2.size, fun i hi ho => ?_⟩
  refine (h2.block i (Nat.lt_of_lt_of_le hi hg.size) ?_).trans (hg.block i hi ho)
  rcases hat with e | e
  · rw [e]; exact ho
  · rw [e]; intro e'; cases e'; omega
theorem Safe.mono {w : World} {o : Option Nat} {P P' : World → Prop} (h : Safe w o P) (hp : ∀ w, P w → P' w) : Safe w o P' := fun w' hg => hp _ (h w' hg)
/-- A row of the call's own in another block. -/
theorem Safe.owns {w : World} {o : Option Nat} {base : Nat} {e : TypeId} {size : Nat} {v : Value} {n : Nat} {xs : List Value} (h : w.ownsRow base e size v n xs) (hne : v.ownBlock = none ∨ v.ownBlock ≠ o) : Safe w o fun w => w.ownsRow base e size v n xs :=
  fun _ hg => h.kept hg hne
/-- What is said of memory alone below a block number, o being beyond it. -/
theorem Safe.below {w0 w : World} {o : Option Nat} {P : World → Prop} (hP : ∀ w', Ext w0 w' → P w') (he : Ext w0 w) (ho : ∀ k, o = some k → w0.heap.size ≤ k) : Safe w o P := by
  intro w' hg
  refine hP w' (Below.trans he (c := w') ⟨hg.os, hg.tape, hg.output, hg.size, fun k hk => hg.block k (Nat.lt_of_lt_of_le hk he.size) ?_⟩)
  intro e
  have := ho k e.symm
  omega

/-- What a call has built so far: a row of its own whose elements of k cells hold xs as R says, whatever it goes on to append. -/
def Build {α : Type} (w : World) (base : Nat) (e : TypeId) (k : Nat) (v : Value) (R : World → List Value → α → Prop) (xs : List α) : Prop :=
  ∃ us : List (List Value), us.length = xs.length ∧ (∀ u ∈ us, u.length = k) ∧ w.ownsRow base e k v xs.length us.flatten ∧
    ∀ (j : Nat) u x, us[j]? = some u → xs[j]? = some x → Safe w v.ownBlock fun w => R w u x

section
variable {α : Type} {w w' : World} {base : Nat} {e : TypeId} {k : Nat} {v : Value} {R : World → List Value → α → Prop} {xs : List α}

theorem Build.nil (w : World) (base : Nat) (e : TypeId) (k : Nat) (R : World → List Value → α → Prop) : Build w base e k (.slice none 0 0) R [] :=
  ⟨[], rfl, by simp, by simpa using World.ownsRow_nil w base e k, by simp⟩

theorem Build.ext (h : Build w base e k v R xs) (he : Ext w w') : Build w' base e k v R xs := by
  obtain ⟨us, h1, h2, h3, h4⟩ := h
  exact ⟨us, h1, h2, owns_ext h3 he, fun j u x hu hx => (h4 j u x hu hx).ext he⟩

theorem Build.list (h : Build w base e k v R xs) : ListAt k R w v xs := by
  obtain ⟨us, h1, h2, h3, h4⟩ := h
  exact ⟨us, h1, h2, SeqAt.of_owns h3, fun j u x hu hx => (h4 j u x hu hx).now⟩

theorem Build.lt (h : Build w base e k v R xs) : ∀ b, v.ownBlock = some b → base ≤ b ∧ b < w.heap.size := by
  obtain ⟨us, h1, h2, h3, h4⟩ := h
  exact h3.lt

theorem Build.mono {R' : World → List Value → α → Prop} (h : Build w base e k v R xs) (hR : ∀ w u x, R w u x → R' w u x) : Build w base e k v R' xs := by
  obtain ⟨us, h1, h2, h3, h4⟩ := h
  exact ⟨us, h1, h2, h3, fun j u x hu hx => (h4 j u x hu hx).mono fun w => hR w u x⟩

/-- Of a fresh slice of capacity n and length 0. -/
theorem Build.made (w : World) (cur : Array Value) (cap : Nat) (hb : base ≤ w.heap.size) (hm : cap ≤ maxLen) (hs : cur.size = cap * k) : Build (w.alloc (.cells cur e)) base e k (.slice (some ⟨w.heap.size, 0, none⟩) 0 cap) R [] :=
  ⟨[], rfl, by simp, by simpa using World.ownsRow_made w cur cap hb hm hs, by simp⟩

/-- Of a slice written out. -/
theorem Build.lit (w : World) (us : List (List Value)) (xs : List α) (hb : base ≤ w.heap.size) (hl : us.length = xs.length) (hk : ∀ u ∈ us, u.length = k) (hn : xs.length ≤ maxLen) (h : ∀ (j : Nat) u x, us[j]? = some u → xs[j]? = some x → ∀ w', Ext w w' → R w' u x) :
    Build (w.alloc (.cells us.flatten.toArray e)) base e k (.slice (some ⟨w.heap.size, 0, none⟩) xs.length xs.length) R xs := by
  have hfl : us.flatten.length = xs.length * k := by
    rw [← hl]; clear hl hn h
    induction us with
    | nil => simp
    | cons u us ih => rw [List.flatten_cons, List.length_append, hk u (by simp), ih (fun u hu => hk u (by simp [hu])), List.length_cons, Nat.succ_mul]; omega
  refine ⟨us, hl, hk, ?_, ?_⟩
  · have := World.ownsRow_lit (e := e) (size := k) w us.flatten.toArray xs.length hb hn (by simpa using hfl)
    simpa using this
  · intro j u x hu hx
    refine Safe.below (w0 := w) (fun w' he => h j u x hu hx w' he) (Ext.alloc _ _) ?_
    intro b hb
    simp [Value.ownBlock] at hb
    omega
end

theorem flatten_snoc {α : Type} (l : List (List α)) (x : List α) : (l ++ [x]).flatten = l.flatten ++ x := by simp

theorem wp_append_own_at {P : Program} (w : World) {o : Oper} {a : Act} {K : Act → World → Prop} {Q : Exit → Act → World → Prop} (s x : Operand) (t : TypeId)
    (ho : o.op = .call { callee := .builtin .append, args := #[s, x], argTypes := #[t, t] })
    (base : Nat) (e : TypeId) (i : TypeInfo) (z : Value) (size bytes : Nat) (ht : P.underlying t = some (.slice e)) (hi : P.info? e = some i) (hz : i.zero = some z)
    (hsize : i.size = size) (hby : i.bytes = bytes) (hzs : z.cells.size = size) (hsz : 0 < size)
    (v : Value) (n : Nat) (xs : List Value) (hs : a.eval s = v) (hown : w.ownsRow base e size v n xs)
    (ad : Addr) (m c : Nat) (news : List Value) (hx : a.eval x = .slice (some ad) m c) (hl : news.length = m * size) (hnews : ∀ (j : Nat) u, news[j]? = some u → w.cell? (ad.add j) = some u) (h1 : ∀ u ∈ news, u.oneCell' = true)
    (h63 : n + m ≤ maxLen) (hbytes : (n + m) * bytes ≤ 140737488355328) (hbase : base ≤ w.heap.size)
    (h : ∀ v' w', w'.ownsRow base e size v' (n + m) (xs ++ news) → w.grownBy w' v.ownBlock → (v' = .slice none 0 0 ↔ v = .slice none 0 0 ∧ m = 0) → (v'.ownBlock = v.ownBlock ∨ v'.ownBlock = some w.heap.size) → K (a.put o.dst v') w') :
    o.wp P a w K Q := by
  obtain ⟨v', w', hr, h2, h3, h4, h5⟩ := run_append_own_at (P := P) w base t o.type e i z size bytes ht hi hz hsize hby hzs hsz v n xs hown ad m c news hl hnews h1 h63 hbytes hbase
  unfold Oper.wp execOp
  simp only [ho, resolve, invoke, builtin, Sem.run_bind, Sem.run_pure, Result.andThen_ok, List.map_toArray, List.map_cons, List.map_nil, hs, hx, hr]
  exact h v' w' h2 h3 h4 h5

/-- 'out = append(out, x)': one element more. -/
theorem wp_append_build {P : Program} {α : Type} (w : World) {o : Oper} {a : Act} {K : Act → World → Prop} {Q : Exit → Act → World → Prop} 
    (s x : Operand) (t : TypeId) (ho : o.op = Op.call { callee := Callee.builtin Builtin.append, args := #[s, x], argTypes := #[t, t] }) (base : Nat) (e : TypeId) (z : Value) (k bytes : Nat)
    (ht : P.underlying t = some (TypeDesc.slice e)) (hinfo : (P.info? e).map (fun i => (i.zero, i.size, i.bytes)) = some (some z, k, bytes)) (hzs : z.cells.size = k) (hk : 0 < k)
    (v : Value) (R : World → List Value → α → Prop) (xs : List α) (y : α) (u : Array Value) (T : TypeId) (hs : a.eval s = v) (hB : Build w base e k v R xs)
    (hx : a.eval x = .slice (some ⟨w.heap.size, 0, none⟩) 1 1) (hu : u.size = k) (h1 : ∀ z ∈ u.toList, z.oneCell' = true) (hR : Safe w v.ownBlock fun w => R w u.toList y)
    (hlen : xs.length < 1000000) (hbytes : bytes ≤ 1000) (hbase : base ≤ w.heap.size)
    (h : ∀ v' w', Build w' base e k v' R (xs ++ [y]) → w.grownBy w' v.ownBlock → Below base w w' → w.heap.size < w'.heap.size → (∀ Pr : World → Prop, Safe w v.ownBlock Pr → Safe w' v'.ownBlock Pr) → K (a.put o.dst v') w') :
    o.wp P a (w.alloc (.cells u T)) K Q := by
  obtain ⟨i, hi, hz, hsize, hby⟩ := info_parts hinfo
  obtain ⟨us, b1, b2, b3, b4⟩ := hB
  have hadd : ∀ j, (⟨w.heap.size, 0, none⟩ : Addr).add j = ⟨w.heap.size, j, none⟩ := by intro j; unfold Addr.add; split <;> simp_all
  refine wp_append_own_at (w.alloc (.cells u T)) s x t ho base e i z k bytes ht hi hz hsize hby hzs hk v xs.length us.flatten hs (b3.alloc _) ⟨w.heap.size, 0, none⟩ 1 1 u.toList hx (by simp [hu]) ?_ h1 ?_ ?_ ?_ ?_
  · intro j q hq
    rw [hadd, World.cell?_alloc_new]
    simpa using hq
  · unfold maxLen; omega
  · have : (xs.length + 1) * bytes ≤ 1000000 * 1000 := Nat.mul_le_mul (by omega) hbytes
    omega
  · simp; omega
  · intro v' w' hown hgrow _ hat
    have hgw : w.grownBy w' v.ownBlock := grown_trans (World.grownBy_alloc w _ v.ownBlock) hgrow
    have safe : ∀ Pr : World → Prop, Safe w v.ownBlock Pr → Safe w' v'.ownBlock Pr := fun Pr hP => Safe.append (Safe.ext hP (Ext.alloc w (.cells u T))) hgrow hat
    refine h v' w' ⟨us ++ [u.toList], by simp [b1], ?_, ?_, ?_⟩ hgw ?_ ?_ safe
    · intro q hq
      rcases List.mem_append.1 hq with hq | hq
      · exact b2 q hq
      · rw [List.mem_singleton.1 hq]; simpa using hu
    · rw [flatten_snoc]
      simpa using hown
    · intro j q y' hq hy
      by_cases hj : j < us.length
      · rw [List.getElem?_append_left hj] at hq
        rw [List.getElem?_append_left (by omega)] at hy
        exact safe _ (b4 j q y' hq hy)
      · rw [List.getElem?_append_right (by omega)] at hq
        rw [List.getElem?_append_right (by omega)] at hy
        have e1 : j - us.length = 0 := by
          have := (List.getElem?_eq_some_iff.1 hq).1
          simp at this; omega
        have e2 : j - xs.length = 0 := by omega
        rw [e1] at hq; rw [e2] at hy
        simp at hq hy
        subst hq; subst hy
        exact safe _ hR
    · refine ⟨hgw.os, hgw.tape, hgw.output, hgw.size, fun b hb => hgw.block b (by omega) ?_⟩
      intro e
      have := (b3.lt b e.symm).1
      omega
    · have := hgrow.size
      simp at this
      omega


theorem wpList_append_build {P : Program} {α : Type} (w : World) {ops : Array Oper} {rest : List Oper} {o : Oper} {a : Act} {Q : Exit → Act → World → Prop} (hgd : o.guard = none)
    (s x : Operand) (t : TypeId) (ho : o.op = Op.call { callee := Callee.builtin Builtin.append, args := #[s, x], argTypes := #[t, t] }) (base : Nat) (e : TypeId) (z : Value) (k bytes : Nat)
    (ht : P.underlying t = some (TypeDesc.slice e)) (hinfo : (P.info? e).map (fun i => (i.zero, i.size, i.bytes)) = some (some z, k, bytes)) (hzs : z.cells.size = k) (hk : 0 < k)
    (v : Value) (R : World → List Value → α → Prop) (xs : List α) (y : α) (u : Array Value) (T : TypeId) (hs : a.eval s = v) (hB : Build w base e k v R xs)
    (hx : a.eval x = .slice (some ⟨w.heap.size, 0, none⟩) 1 1) (hu : u.size = k) (h1 : ∀ z ∈ u.toList, z.oneCell' = true) (hR : Safe w v.ownBlock fun w => R w u.toList y)
    (hlen : xs.length < 1000000) (hbytes : bytes ≤ 1000) (hbase : base ≤ w.heap.size)
    (h : ∀ v' w', Build w' base e k v' R (xs ++ [y]) → w.grownBy w' v.ownBlock → Below base w w' → w.heap.size < w'.heap.size → (∀ Pr : World → Prop, Safe w v.ownBlock Pr → Safe w' v'.ownBlock Pr) → wpList P ops Q rest (a.put o.dst v') w') :
    wpList P ops Q (o :: rest) a (w.alloc (.cells u T)) :=
  wpList_plain hgd fun _ hK => wp_append_build w s x t ho base e z k bytes ht hinfo hzs hk v R xs y u T hs hB hx hu h1 hR hlen hbytes hbase fun v' w' a1 a2 a3 a4 a5 => hK _ _ (h v' w' a1 a2 a3 a4 a5)

/-- The same at a step of a region that draws its order. -/
theorem step_append_build {P : Program} {α : Type} (w : World) {ops : Array Oper} {o : Oper} {a : Act} {K : Act → World → Prop} {Q : Exit → Act → World → Prop} {E : Prop} (hgd : o.guard = none)
    (s x : Operand) (t : TypeId) (ho : o.op = Op.call { callee := Callee.builtin Builtin.append, args := #[s, x], argTypes := #[t, t] }) (base : Nat) (e : TypeId) (z : Value) (k bytes : Nat)
    (ht : P.underlying t = some (TypeDesc.slice e)) (hinfo : (P.info? e).map (fun i => (i.zero, i.size, i.bytes)) = some (some z, k, bytes)) (hzs : z.cells.size = k) (hk : 0 < k)
    (v : Value) (R : World → List Value → α → Prop) (xs : List α) (y : α) (u : Array Value) (T : TypeId) (hs : a.eval s = v) (hB : Build w base e k v R xs)
    (hx : a.eval x = .slice (some ⟨w.heap.size, 0, none⟩) 1 1) (hu : u.size = k) (h1 : ∀ z ∈ u.toList, z.oneCell' = true) (hR : Safe w v.ownBlock fun w => R w u.toList y)
    (hlen : xs.length < 1000000) (hbytes : bytes ≤ 1000) (hbase : base ≤ w.heap.size)
    (h : ∀ v' w', Build w' base e k v' R (xs ++ [y]) → w.grownBy w' v.ownBlock → Below base w w' → w.heap.size < w'.heap.size → (∀ Pr : World → Prop, Safe w v.ownBlock Pr → Safe w' v'.ownBlock Pr) → K (a.put o.dst v') w') :
    if Region.wanted o (yielded ops a.tmps) = true then Oper.wp P o a (w.alloc (.cells u T)) K Q else E := by
  have hw : Region.wanted o (yielded ops a.tmps) = true := by simp [Region.wanted, hgd]
  rw [if_pos hw]
  exact wp_append_build w s x t ho base e z k bytes ht hinfo hzs hk v R xs y u T hs hB hx hu h1 hR hlen hbytes hbase h

end Go.Proofs.Ytplcikgmefcfbaa
