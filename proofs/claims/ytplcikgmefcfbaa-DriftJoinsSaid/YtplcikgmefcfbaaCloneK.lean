/- slices.Clone at chords and links; printed by gen/clonek.py. -/
import Derived.Test.YtplcikgmefcfbaaMake51
import Derived.Test.YtplcikgmefcfbaaCopied
import Derived.Lib.SliceRun
import Derived.WalkSpells
namespace Go.Proofs.Ytplcikgmefcfbaa
set_option linter.unusedVariables false
set_option linter.unusedSimpArgs false
open Go.RowKit

/-- What held in w0 holds: it rests on what lay there. -/
def freshRk {α : Type} (w0 : World) (R : World → List Value → α → Prop) (w : World) (u : List Value) (x : α) : Prop := Ext w0 w → R w u x
theorem freshRk.of {α : Type} {R : World → List Value → α → Prop} (hR : Mono R) {w0 w : World} {u : List Value} {x : α} (h : R w0 u x) (he : Ext w0 w) {o : Option Nat} (ho : ∀ k, o = some k → w0.heap.size ≤ k) : Safe w o fun w' => freshRk w0 R w' u x := fun _ _ h2 => hR _ _ _ _ h2 h
/-- What held in w0, whatever the world is. -/
def constRk {α : Type} (w0 : World) (R : World → List Value → α → Prop) (_ : World) (u : List Value) (x : α) : Prop := R w0 u x
theorem Build.const {α : Type} {R : World → List Value → α → Prop} (hR : Mono R) {w0 w : World} {base : Nat} {e : TypeId} {k : Nat} {v : Value} {xs : List α} (h : Build w base e k v (constRk w0 R) xs) (he : Ext w0 w) : ListAt k R w v xs := by
  obtain ⟨us, h1, h2, h3, h4⟩ := h.list
  exact ⟨us, h1, h2, h3, fun j u x hu hx => hR _ _ _ _ he (h4 j u x hu hx)⟩
theorem Build.const_other {α : Type} {R : World → List Value → α → Prop} {w0 w w' : World} {base : Nat} {e : TypeId} {k : Nat} {v : Value} {xs : List α} (h : Build w base e k v (constRk w0 R) xs) {o : Option Nat} (hg : w.grownBy w' o) (hne : ∀ b, v.ownBlock = some b → o ≠ some b) : Build w' base e k v (constRk w0 R) xs := by
  obtain ⟨us, h1, h2, h3, h4⟩ := h
  exact ⟨us, h1, h2, Safe.owns (o := o) h3 (by
    cases hv : v.ownBlock with
    | none => exact .inl rfl
    | some b => exact .inr fun e => hne b hv e.symm) w' hg, fun j u x hu hx _ _ => (h4 j u x hu hx).now⟩
theorem Build.neBlock {α : Type} {R : World → List Value → α → Prop} {w : World} {base : Nat} {e : TypeId} {k : Nat} {v : Value} {xs : List α} (h : Build w base e k v R xs) {B : Nat} {C : Array Value} {T : TypeId} {fr : Nat × Nat} (hB : w.heap[B]? = some (.cells C T fr)) (hne : e ≠ T) : v.ownBlock ≠ some B := by
  obtain ⟨us, h1, h2, h3, h4⟩ := h
  exact owns_ne_block h3 hB hne
theorem Build.cloned {α : Type} {R : World → List Value → α → Prop} {w0 w : World} {base : Nat} {e : TypeId} {k : Nat} {v : Value} {xs : List α} (h : Build w base e k v (freshRk w0 R) xs) (he : Ext w0 w) (hb : w0.heap.size ≤ base) : Build w base e k v R xs := by
  obtain ⟨us, h1, h2, h3, h4⟩ := h
  refine ⟨us, h1, h2, h3, fun j u x hu hx w' hg => ?_⟩
  refine h4 j u x hu hx w' hg ⟨hg.os.trans he.os, hg.tape.trans he.tape, hg.output.trans he.output, Nat.le_trans he.size hg.size, fun b hb2 => (hg.block b (Nat.lt_of_lt_of_le hb2 he.size) fun e2 => ?_).trans (he.block b hb2)⟩
  have := (h3.lt b e2.symm).1
  omega
theorem flat_len {k : Nat} : ∀ us : List (List Value), (∀ u ∈ us, u.length = k) → us.flatten.length = us.length * k
  | [], _ => by simp
  | u :: us, h => by rw [List.flatten_cons, List.length_append, h u (by simp), flat_len us fun u hu => h u (by simp [hu]), List.length_cons, Nat.succ_mul]; omega
theorem ListAt.oneSlice {α : Type} {k : Nat} {R : World → List Value → α → Prop} {w : World} {v : Value} {xs : List α} (h : ListAt k R w v xs) : v.oneCell' = true := by
  obtain ⟨us, -, -, ⟨a, c, rfl, -⟩, -⟩ := h
  rfl
theorem inCell_one {α : Type} {R : World → Value → α → Prop} (hR : ∀ {w v x}, R w v x → v.oneCell' = true) {w : World} {u : List Value} {x : α} (h : inCell R w u x) : ∀ z ∈ u, z.oneCell' = true := by
  obtain ⟨v, rfl, h⟩ := h
  intro z hz
  rw [List.mem_singleton.1 hz]; exact hR h
theorem linkR_one {w : World} {u : List Value} {x : Int × Int} (h : linkR w u x) : ∀ z ∈ u, z.oneCell' = true := by
  rw [h.1]
  intro z hz
  rcases List.mem_cons.1 hz with rfl | hz
  · rfl
  · rw [List.mem_singleton.1 hz]; rfl

set_option maxRecDepth 100000 in
set_option maxHeartbeats 800000 in
theorem cloneChords0_any (xs : List (List (List Int))) (v : Value) (w0 w : World) (hw0 : Ext w0 w) (h : ListAt 1 chordR w0 v xs) (hlen : xs.length ≤ 1000) :
    Calls Try.prog 27 #[v] w fun e w' => ∃ r, e = .returned r ∧ Ext w w' ∧ Build w' w.heap.size 31 1 r (constRk w0 chordR) xs := by
  have HW0 := Lib.hid hw0
  clear hw0
  obtain ⟨us, u1, u2, u3, u4⟩ := h
  obtain ⟨a, c, rfl, h1, h2, h3, hc⟩ := u3
  obtain ⟨i0, hi, hz0, hz1, hz2⟩ := info_parts infoRows
  have HI := Lib.hid hi; have HZ0 := Lib.hid hz0; have HZ1 := Lib.hid hz1; have HZ2 := Lib.hid hz2
  have HC := Lib.hid hc; have HU1 := Lib.hid u1; have HU2 := Lib.hid u2; have HU4 := Lib.hid u4
  have HFL := Lib.hid (flat_len us u2)
  clear hi hz0 hz1 hz2 hc u1 u2 u4
  unfold maxLen at h2
  cases a with
  | none =>
    have h0 : xs = [] := by have := h3 rfl; exact List.eq_nil_of_length_eq_zero (by omega)
    subst h0
    obtain rfl : c = 0 := h3 rfl
    clear h3 h1 h2 hlen
    have heq := fun w => Lib.run_eql_slice_nil (P := Try.prog) w 27 31 none 0 0 0 0 Try.underlying27
    go_enter Try.func27, Try.ntmps27
    go_wp2
    go_ret
    exact ⟨_, rfl, Ext.refl _, Build.nil _ _ _ _ _⟩
  | some ad =>
    clear h3
    obtain ⟨n, hn⟩ : ∃ n, n = xs.length := ⟨_, rfl⟩
    rw [← hn] at h1 hlen ⊢
    have HN := Lib.hid hn
    have heq := fun w => Lib.run_eql_slice_nil (P := Try.prog) w 27 31 (some ad) n c 0 0 Try.underlying27
    have hown : (w.alloc (.cells #[] 31)).ownsRow w.heap.size 31 1 (.slice (some ⟨w.heap.size, 0, none⟩) 0 0) 0 [] := World.ownsRow_made w #[] 0 (Nat.le_refl _) (Nat.zero_le _) rfl
    have HNEWS : Hid (∀ (j : Nat) (u : Value), us.flatten[j]? = some u → (w.alloc (.cells #[] 31)).cell? (ad.add j) = some u) := by
      intro j u hu
      obtain ⟨b, off, hab, hbw, hcell⟩ := HC.out (by intro e; rw [e] at hu; simp at hu)
      cases hab
      rw [show (⟨b, off, none⟩ : Addr).add j = ⟨b, off + j, none⟩ by unfold Addr.add; split <;> simp_all]
      exact Ext.cell (Ext.alloc w _) (HW0.out.cell (hcell j u hu))
    have HONE : Hid (∀ u ∈ us.flatten, u.oneCell' = true) := by
      intro u hu
      obtain ⟨l, hl, hul⟩ := List.mem_flatten.1 hu
      obtain ⟨j, hj⟩ := List.getElem?_of_mem hl
      have hjl := (List.getElem?_eq_some_iff.1 hj).1
      exact inCell_one ListAt.oneSlice (HU4.out j l (xs[j]'(by rw [← HU1.out]; exact hjl)) hj (List.getElem?_eq_getElem _)) u hul
    have HOWN := Lib.hid hown
    clear hown hn
    go_enter Try.func27, Try.ntmps27
    go_wp2_with (at_builtin; refine wpList_append_own _ rfl _ _ 27 rfl w.heap.size 31 i0 (.slice none 0 0) 1 24 Try.underlying27 HI.out HZ0.out HZ1.out HZ2.out rfl (by decide) _ _ _ rfl HOWN.out ad n c us.flatten rfl ?d1 HNEWS.out ?d2 ?d3 ?d4 ?d5 ?_)
    case d1 => rw [HFL.out, HU1.out, HN.out]
    case d2 => exact HONE.out
    case d3 => unfold maxLen; omega
    case d4 => omega
    case d5 => simp
    intro v' w1 hown' hgrow _
    have HO := Lib.hid hown'
    have HE : Hid (Ext w w1) := Below.grown (Ext.alloc w _) hgrow (by simp) (by intro k hk; simp [Value.ownBlock] at hk; omega)
    clear hown' hgrow
    go_wp2
    go_ret
    refine ⟨v', rfl, HE.out, us, HU1.out, HU2.out, ?_, fun j u x hu hx _ _ => HU4.out j u x hu hx⟩
    have := HO.out
    rw [HN.out] at this
    simpa using this
theorem cloneChords_any (xs : List (List (List Int))) (v : Value) (w : World) (h : ListAt 1 chordR w v xs) (hlen : xs.length ≤ 1000) :
    Calls Try.prog 27 #[v] w fun e w' => ∃ r, e = .returned r ∧ Ext w w' ∧ Build w' w.heap.size 31 1 r (freshRk w chordR) xs :=
  (cloneChords0_any xs v w w (Ext.refl w) h hlen).mono fun e w' ⟨r, h1, h2, h3⟩ => ⟨r, h1, h2, h3.mono fun w2 u x hr he => chordR.mono _ _ _ _ he hr⟩

set_option maxRecDepth 100000 in
set_option maxHeartbeats 800000 in
theorem cloneLinks20_any (xs : List (List (Int × Int))) (v : Value) (w0 w : World) (hw0 : Ext w0 w) (h : ListAt 1 linksR w0 v xs) (hlen : xs.length ≤ 1000) :
    Calls Try.prog 28 #[v] w fun e w' => ∃ r, e = .returned r ∧ Ext w w' ∧ Build w' w.heap.size 34 1 r (constRk w0 linksR) xs := by
  have HW0 := Lib.hid hw0
  clear hw0
  obtain ⟨us, u1, u2, u3, u4⟩ := h
  obtain ⟨a, c, rfl, h1, h2, h3, hc⟩ := u3
  obtain ⟨i0, hi, hz0, hz1, hz2⟩ := info_parts infoLinks
  have HI := Lib.hid hi; have HZ0 := Lib.hid hz0; have HZ1 := Lib.hid hz1; have HZ2 := Lib.hid hz2
  have HC := Lib.hid hc; have HU1 := Lib.hid u1; have HU2 := Lib.hid u2; have HU4 := Lib.hid u4
  have HFL := Lib.hid (flat_len us u2)
  clear hi hz0 hz1 hz2 hc u1 u2 u4
  unfold maxLen at h2
  cases a with
  | none =>
    have h0 : xs = [] := by have := h3 rfl; exact List.eq_nil_of_length_eq_zero (by omega)
    subst h0
    obtain rfl : c = 0 := h3 rfl
    clear h3 h1 h2 hlen
    have heq := fun w => Lib.run_eql_slice_nil (P := Try.prog) w 28 34 none 0 0 0 0 Try.underlying28
    go_enter Try.func28, Try.ntmps28
    go_wp2
    go_ret
    exact ⟨_, rfl, Ext.refl _, Build.nil _ _ _ _ _⟩
  | some ad =>
    clear h3
    obtain ⟨n, hn⟩ : ∃ n, n = xs.length := ⟨_, rfl⟩
    rw [← hn] at h1 hlen ⊢
    have HN := Lib.hid hn
    have heq := fun w => Lib.run_eql_slice_nil (P := Try.prog) w 28 34 (some ad) n c 0 0 Try.underlying28
    have hown : (w.alloc (.cells #[] 34)).ownsRow w.heap.size 34 1 (.slice (some ⟨w.heap.size, 0, none⟩) 0 0) 0 [] := World.ownsRow_made w #[] 0 (Nat.le_refl _) (Nat.zero_le _) rfl
    have HNEWS : Hid (∀ (j : Nat) (u : Value), us.flatten[j]? = some u → (w.alloc (.cells #[] 34)).cell? (ad.add j) = some u) := by
      intro j u hu
      obtain ⟨b, off, hab, hbw, hcell⟩ := HC.out (by intro e; rw [e] at hu; simp at hu)
      cases hab
      rw [show (⟨b, off, none⟩ : Addr).add j = ⟨b, off + j, none⟩ by unfold Addr.add; split <;> simp_all]
      exact Ext.cell (Ext.alloc w _) (HW0.out.cell (hcell j u hu))
    have HONE : Hid (∀ u ∈ us.flatten, u.oneCell' = true) := by
      intro u hu
      obtain ⟨l, hl, hul⟩ := List.mem_flatten.1 hu
      obtain ⟨j, hj⟩ := List.getElem?_of_mem hl
      have hjl := (List.getElem?_eq_some_iff.1 hj).1
      exact inCell_one ListAt.oneSlice (HU4.out j l (xs[j]'(by rw [← HU1.out]; exact hjl)) hj (List.getElem?_eq_getElem _)) u hul
    have HOWN := Lib.hid hown
    clear hown hn
    go_enter Try.func28, Try.ntmps28
    go_wp2_with (at_builtin; refine wpList_append_own _ rfl _ _ 28 rfl w.heap.size 34 i0 (.slice none 0 0) 1 24 Try.underlying28 HI.out HZ0.out HZ1.out HZ2.out rfl (by decide) _ _ _ rfl HOWN.out ad n c us.flatten rfl ?d1 HNEWS.out ?d2 ?d3 ?d4 ?d5 ?_)
    case d1 => rw [HFL.out, HU1.out, HN.out]
    case d2 => exact HONE.out
    case d3 => unfold maxLen; omega
    case d4 => omega
    case d5 => simp
    intro v' w1 hown' hgrow _
    have HO := Lib.hid hown'
    have HE : Hid (Ext w w1) := Below.grown (Ext.alloc w _) hgrow (by simp) (by intro k hk; simp [Value.ownBlock] at hk; omega)
    clear hown' hgrow
    go_wp2
    go_ret
    refine ⟨v', rfl, HE.out, us, HU1.out, HU2.out, ?_, fun j u x hu hx _ _ => HU4.out j u x hu hx⟩
    have := HO.out
    rw [HN.out] at this
    simpa using this
theorem cloneLinks2_any (xs : List (List (Int × Int))) (v : Value) (w : World) (h : ListAt 1 linksR w v xs) (hlen : xs.length ≤ 1000) :
    Calls Try.prog 28 #[v] w fun e w' => ∃ r, e = .returned r ∧ Ext w w' ∧ Build w' w.heap.size 34 1 r (freshRk w linksR) xs :=
  (cloneLinks20_any xs v w w (Ext.refl w) h hlen).mono fun e w' ⟨r, h1, h2, h3⟩ => ⟨r, h1, h2, h3.mono fun w2 u x hr he => linksR.mono _ _ _ _ he hr⟩

set_option maxRecDepth 100000 in
set_option maxHeartbeats 800000 in
theorem cloneLinks0_any (xs : List (Int × Int)) (v : Value) (w0 w : World) (hw0 : Ext w0 w) (h : ListAt 2 linkR w0 v xs) (hlen : xs.length ≤ 1000) :
    Calls Try.prog 54 #[v] w fun e w' => ∃ r, e = .returned r ∧ Ext w w' ∧ Build w' w.heap.size 33 2 r (constRk w0 linkR) xs := by
  have HW0 := Lib.hid hw0
  clear hw0
  obtain ⟨us, u1, u2, u3, u4⟩ := h
  obtain ⟨a, c, rfl, h1, h2, h3, hc⟩ := u3
  obtain ⟨i0, hi, hz0, hz1, hz2⟩ := info_parts infoLink
  have HI := Lib.hid hi; have HZ0 := Lib.hid hz0; have HZ1 := Lib.hid hz1; have HZ2 := Lib.hid hz2
  have HC := Lib.hid hc; have HU1 := Lib.hid u1; have HU2 := Lib.hid u2; have HU4 := Lib.hid u4
  have HFL := Lib.hid (flat_len us u2)
  clear hi hz0 hz1 hz2 hc u1 u2 u4
  unfold maxLen at h2
  cases a with
  | none =>
    have h0 : xs = [] := by have := h3 rfl; exact List.eq_nil_of_length_eq_zero (by omega)
    subst h0
    obtain rfl : c = 0 := h3 rfl
    clear h3 h1 h2 hlen
    have heq := fun w => Lib.run_eql_slice_nil (P := Try.prog) w 34 33 none 0 0 0 0 Try.underlying34
    go_enter Try.func54, Try.ntmps54
    go_wp2
    go_ret
    exact ⟨_, rfl, Ext.refl _, Build.nil _ _ _ _ _⟩
  | some ad =>
    clear h3
    obtain ⟨n, hn⟩ : ∃ n, n = xs.length := ⟨_, rfl⟩
    rw [← hn] at h1 hlen ⊢
    have HN := Lib.hid hn
    have heq := fun w => Lib.run_eql_slice_nil (P := Try.prog) w 34 33 (some ad) n c 0 0 Try.underlying34
    have hown : (w.alloc (.cells #[] 33)).ownsRow w.heap.size 33 2 (.slice (some ⟨w.heap.size, 0, none⟩) 0 0) 0 [] := World.ownsRow_made w #[] 0 (Nat.le_refl _) (Nat.zero_le _) rfl
    have HNEWS : Hid (∀ (j : Nat) (u : Value), us.flatten[j]? = some u → (w.alloc (.cells #[] 33)).cell? (ad.add j) = some u) := by
      intro j u hu
      obtain ⟨b, off, hab, hbw, hcell⟩ := HC.out (by intro e; rw [e] at hu; simp at hu)
      cases hab
      rw [show (⟨b, off, none⟩ : Addr).add j = ⟨b, off + j, none⟩ by unfold Addr.add; split <;> simp_all]
      exact Ext.cell (Ext.alloc w _) (HW0.out.cell (hcell j u hu))
    have HONE : Hid (∀ u ∈ us.flatten, u.oneCell' = true) := by
      intro u hu
      obtain ⟨l, hl, hul⟩ := List.mem_flatten.1 hu
      obtain ⟨j, hj⟩ := List.getElem?_of_mem hl
      have hjl := (List.getElem?_eq_some_iff.1 hj).1
      exact linkR_one (HU4.out j l (xs[j]'(by rw [← HU1.out]; exact hjl)) hj (List.getElem?_eq_getElem _)) u hul
    have HOWN := Lib.hid hown
    clear hown hn
    go_enter Try.func54, Try.ntmps54
    go_wp2_with (at_builtin; refine wpList_append_own _ rfl _ _ 34 rfl w.heap.size 33 i0 (.agg #[.int .i64 0, .int .i64 0]) 2 16 Try.underlying34 HI.out HZ0.out HZ1.out HZ2.out rfl (by decide) _ _ _ rfl HOWN.out ad n c us.flatten rfl ?d1 HNEWS.out ?d2 ?d3 ?d4 ?d5 ?_)
    case d1 => rw [HFL.out, HU1.out, HN.out]
    case d2 => exact HONE.out
    case d3 => unfold maxLen; omega
    case d4 => omega
    case d5 => simp
    intro v' w1 hown' hgrow _
    have HO := Lib.hid hown'
    have HE : Hid (Ext w w1) := Below.grown (Ext.alloc w _) hgrow (by simp) (by intro k hk; simp [Value.ownBlock] at hk; omega)
    clear hown' hgrow
    go_wp2
    go_ret
    refine ⟨v', rfl, HE.out, us, HU1.out, HU2.out, ?_, fun j u x hu hx _ _ => HU4.out j u x hu hx⟩
    have := HO.out
    rw [HN.out] at this
    simpa using this
theorem cloneLinks_any (xs : List (Int × Int)) (v : Value) (w : World) (h : ListAt 2 linkR w v xs) (hlen : xs.length ≤ 1000) :
    Calls Try.prog 54 #[v] w fun e w' => ∃ r, e = .returned r ∧ Ext w w' ∧ Build w' w.heap.size 33 2 r (freshRk w linkR) xs :=
  (cloneLinks0_any xs v w w (Ext.refl w) h hlen).mono fun e w' ⟨r, h1, h2, h3⟩ => ⟨r, h1, h2, h3.mono fun w2 u x hr he => linkR.mono _ _ _ _ he hr⟩
end Go.Proofs.Ytplcikgmefcfbaa
