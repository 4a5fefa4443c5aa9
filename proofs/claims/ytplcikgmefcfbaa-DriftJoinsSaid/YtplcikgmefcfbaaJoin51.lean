/- Contract of drift.Join. -/
import Derived.Test.YtplcikgmefcfbaaConcat
import Derived.Test.YtplcikgmefcfbaaJoinPlain
import Derived.Test.YtplcikgmefcfbaaSlPrimes
import Derived.Test.YtplcikgmefcfbaaEqRows
import Derived.Test.YtplcikgmefcfbaaTurn
import Derived.Test.YtplcikgmefcfbaaTwo
import Derived.Test.YtplcikgmefcfbaaDriftTurns
import Derived.Test.YtplcikgmefcfbaaRegU
namespace Go.Proofs.Ytplcikgmefcfbaa
set_option linter.unusedVariables false
set_option linter.unusedSimpArgs false
open Go.RowKit

/-- A walk in a block. -/
theorem walk_block {w : World} {B : Nat} {x y z : Value} (h : w.heap[B]? = some (.cells #[x, y, z] 30 (0, 0))) : w.cell? ⟨B, 0, none⟩ = some x ∧ w.cell? ⟨B, 1, none⟩ = some y ∧ w.cell? ⟨B, 2, none⟩ = some z ∧ ∀ i, w.frozen? ⟨B, i, none⟩ = false := by
  have c0 := block_cell h 0; have c1 := block_cell h 1; have c2 := block_cell h 2
  simp only [List.getElem?_toArray, List.getElem?_cons_zero, List.getElem?_cons_succ] at c0 c1 c2
  exact ⟨c0, c1, c2, fun i => block_free h i⟩
theorem walk_store {w : World} {B : Nat} {x y z : Value} (h : w.heap[B]? = some (.cells #[x, y, z] 30 (0, 0))) (a b c : Value) : (((w.setCell ⟨B, 0, none⟩ a).setCell ⟨B, 1, none⟩ b).setCell ⟨B, 2, none⟩ c).heap[B]? = some (.cells #[a, b, c] 30 (0, 0)) := by
  have := block_set (block_set (block_set h 0 a) 1 b) 2 c
  simpa using this
theorem walk_new (w : World) (x y z : Value) : ∃ W, w.alloc (.cells #[x, y, z] 30) = W ∧ Ext w W ∧ W.heap.size = w.heap.size + 1 ∧ W.heap[w.heap.size]? = some (.cells #[x, y, z] 30 (0, 0)) := ⟨_, rfl, Ext.alloc _ _, by simp, block_new _ _ _⟩
theorem ext_walk {w W : World} {B : Nat} (hE : Ext w W) (hB : w.heap.size ≤ B) (a b c : Value) : Ext w (((W.setCell ⟨B, 0, none⟩ a).setCell ⟨B, 1, none⟩ b).setCell ⟨B, 2, none⟩ c) :=
  Below.setCell (Below.setCell (Below.setCell hE hB _) hB _) hB _

theorem ListAt.drop1 {α : Type} {R : World → List Value → α → Prop} {w : World} {b o n c oq : Nat} {xs : List α} (h : ListAt 1 R w (.slice (some ⟨b, o, none⟩) n c) xs) (hq : 2 ≤ n → oq = o + 1) (h1 : 1 ≤ n) : ListAt 1 R w (.slice (some ⟨b, oq, none⟩) (n - 1) (c - 1)) (xs.drop 1) := by
  obtain ⟨us, u1, u2, ⟨a, c', hv, g1, g2, g3, g4⟩, u4⟩ := h
  simp only [Value.slice.injEq] at hv
  obtain ⟨rfl, rfl, rfl⟩ := hv
  cases us with
  | nil => simp at u1; omega
  | cons u0 us =>
    have e0 : u0.length = 1 := u2 u0 (by simp)
    refine ⟨us, by rw [List.length_drop, ← u1]; simp, fun u hu => u2 u (by simp [hu]), ⟨_, c - 1, by rw [List.length_drop], by rw [List.length_drop]; omega, Nat.le_trans (Nat.sub_le _ _) g2, fun e => by simp at e, fun hne => ?_⟩, fun j u x hu hx => ?_⟩
    · obtain ⟨b', o', hab, hbl, hcc⟩ := g4 (by intro e; rw [List.flatten_cons] at e; have h9 := (List.append_eq_nil_iff.1 e).1; rw [h9] at e0; simp at e0)
      simp only [Option.some.injEq, Addr.mk.injEq] at hab
      obtain ⟨rfl, rfl, -⟩ := hab
      have hn2 : 2 ≤ xs.length := by
        rw [← u1]
        cases us with
        | nil => exact absurd rfl hne
        | cons _ _ => simp
      refine ⟨b, oq, rfl, hbl, fun j u hu => ?_⟩
      rw [hq hn2, show o + 1 + j = o + (j + 1) by omega]
      refine hcc (j + 1) u ?_
      rw [List.flatten_cons, List.getElem?_append_right (by omega), e0]
      exact hu
    · rw [List.getElem?_drop] at hx
      exact u4 (1 + j) u x (by rw [Nat.add_comm 1 j, List.getElem?_cons_succ]; exact hu) hx
/-- What rests on no block below b. -/
def belowR {α : Type} (b : Nat) (R : World → List Value → α → Prop) (w : World) (u : List Value) (x : α) : Prop := ∀ w', GrownS (fun k => k < b) w w' → R w' u x
theorem belowR.of {α : Type} {R : World → List Value → α → Prop} {b : Nat} {S : Nat → Prop} {w : World} {u : List Value} {x : α} (h : SafeS w (fun k => S k ∨ k < b) fun w' => R w' u x) : SafeS w S fun w' => belowR b R w' u x :=
  fun _ h1 _ h2 => h _ ((h1.weak fun _ _ hk => .inl hk).trans (h2.weak fun _ _ hk => .inr hk))
theorem BuildS.under {α : Type} {R : World → List Value → α → Prop} {w w' : World} {S : Nat → Prop} {base : Nat} {e : TypeId} {k : Nat} {v : Value} {xs : List α} (h : BuildS w S base e k v (belowR base R) xs) (hg : GrownS (fun k => k < base) w w') : ListAt k R w' v xs := by
  obtain ⟨-, us, b1, b2, b3, b4⟩ := h
  refine ⟨us, b1, b2, SeqAt.of_owns (SafeS.owns (S := fun k => k < base) b3 (fun g hg hs => ?_) w' hg), fun j u x hu hx => (b4 j u x hu hx).now w' hg⟩
  have := (b3.lt g hg).1
  omega
theorem rowEqualJ_any (xs ys : List Int) (u v : Value) (w : World) (h : Ints w u xs) (k : Ints w v ys) :
    Calls Try.prog 51 #[u, v] w fun e w' => e = .returned (.bool (xs == ys)) ∧ Ext w w' := by
  have HE := Lib.hid (equalRow_any xs ys u v w h k)
  clear h k
  go_enter Try.func51, Try.ntmps51
  go_wp2_with fail
  refine HE.out.mono ?_
  rintro e w' ⟨rfl, hE⟩
  go_wp2_with fail
  go_ret
  exact ⟨rfl, hE⟩

set_option maxRecDepth 100000 in
set_option maxHeartbeats 4000000 in
theorem Join_any (a b : Wk) (va vb : Value) (w : World) (ha : WalkAt w va a) (hb : WalkAt w vb b) (hfa : FewWk a) (hfb : FewWk b) (hl : a.chords.length + b.chords.length ≤ 20) (lastC firstC : List (List Int)) (hlast : a.chords[a.chords.length - 1]? = some lastC) (hfirst : b.chords[0]? = some firstC) :
    Calls Try.prog 25 #[va, vb] w fun e w' => ∃ u, e = .returned (.tuple #[u, .int .i64 (if lastC == firstC then 0 else 14)]) ∧ Ext w w' ∧ ((lastC == firstC) = true → WalkAt w' u (joinWk a b)) ∧ ((lastC == firstC) = false → u = .agg #[.slice none 0 0, .slice none 0 0, .slice none 0 0]) := by
  have HWA := Lib.hid ha; have HWB := Lib.hid hb
  obtain ⟨vp1, vc1, vl1, rfl, p1, c1, l1⟩ := ha
  obtain ⟨vp2, vc2, vl2, rfl, p2, c2, l2⟩ := hb
  have HCA : Hid (∀ W, Ext w W → Calls Try.prog 30 #[.agg #[vp1, vc1, vl1]] W fun e w' => e = .returned (.int .i64 0) ∧ Ext W w') := fun W hW => by have := check_any a _ W (HWA.out.ext hW); rw [few_walk hfa] at this; exact this
  have HCB : Hid (∀ W, Ext w W → Calls Try.prog 30 #[.agg #[vp2, vc2, vl2]] W fun e w' => e = .returned (.int .i64 0) ∧ Ext W w') := fun W hW => by have := check_any b _ W (HWB.out.ext hW); rw [few_walk hfb] at this; exact this
  have HEP : Hid (∀ W, Ext w W → Calls Try.prog 45 #[vp1, vp2] W fun e w' => e = .returned (.bool true) ∧ Ext W w') := fun W hW => by
    have := equalPrimes_any a.primes b.primes vp1 vp2 W (p1.ext hW) (p2.ext hW)
    rw [hfa.primes, hfb.primes] at this; simpa using this
  obtain ⟨ap1, cp1, rfl, -, -, -, -, -⟩ := p1.open
  obtain ⟨ap2, cp2, rfl, -, -, -, -, -⟩ := p2.open
  obtain ⟨ac1, cc1, rfl, n1, m1, -, k1⟩ := inCell.open c1
  obtain ⟨ac2, cc2, rfl, n2, m2, -, k2⟩ := inCell.open c2
  obtain ⟨al1, cl1, rfl, n3, m3, -, k3⟩ := inCell.open l1
  obtain ⟨al2, cl2, rfl, n4, m4, -, k4⟩ := inCell.open l2
  have s1 := hfa.some; have s2 := hfb.some
  have len1 := hfa.len; have len2 := hfb.len
  obtain ⟨b1, o1, rfl, hb1, kc1⟩ := k1 (by intro e; rw [e] at s1; simp at s1)
  obtain ⟨b2, o2, rfl, hb2, kc2⟩ := k2 (by intro e; rw [e] at s2; simp at s2)
  obtain ⟨x1, hx1, g1⟩ := kc1 _ _ hlast
  obtain ⟨x2, hx2, g2⟩ := kc2 _ _ hfirst
  have HX1 := Lib.hid hx1; have HX2 := Lib.hid hx2
  have HEC : Hid (∀ W, Ext w W → Calls Try.prog 38 #[x1, x2, .func (.func 51) #[] #[]] W fun e w' => e = .returned (.bool (lastC == firstC)) ∧ Ext W w') := fun W hW => by
    have := equalFuncRows_any (R := Ints) (fun _ _ _ _ he h => Ints.ext h he) lastC firstC x1 x2 51 #[] (· == ·) W (Rows2.ext HX1.out hW) (Rows2.ext HX2.out hW) (enters_of Try.func51 (by kernel_rfl) rfl) (fun W x y a b _ _ _ ha hb => rowEqualJ_any x y a b W ha hb)
    rw [eqBy_beq] at this
    exact this
  obtain ⟨ax1, cx1, rfl, -⟩ := inCell.open hx1
  obtain ⟨ax2, cx2, rfl, -⟩ := inCell.open hx2
  obtain ⟨NA, hNA⟩ : ∃ n, n = a.chords.length := ⟨_, rfl⟩
  obtain ⟨NB, hNB⟩ : ∃ n, n = b.chords.length := ⟨_, rfl⟩
  obtain ⟨LA, hLA⟩ : ∃ n, n = a.links.length := ⟨_, rfl⟩
  obtain ⟨LB, hLB⟩ : ∃ n, n = b.links.length := ⟨_, rfl⟩
  obtain ⟨PA, hPA⟩ : ∃ n, n = a.primes.length := ⟨_, rfl⟩
  obtain ⟨PB, hPB⟩ : ∃ n, n = b.primes.length := ⟨_, rfl⟩
  obtain ⟨LC, hLC⟩ : ∃ n, n = lastC.length := ⟨_, rfl⟩
  obtain ⟨FC, hFC⟩ : ∃ n, n = firstC.length := ⟨_, rfl⟩
  have HP1 := Lib.hid p1; have HC1 := Lib.hid c1; have HC2 := Lib.hid c2; have HL1 := Lib.hid l1; have HL2 := Lib.hid l2
  obtain ⟨eq, heq⟩ : ∃ q, q = (lastC == firstC) := ⟨_, rfl⟩
  rw [← heq] at HEC ⊢
  rw [← hNA] at HWA HCA HC1 n1 s1 len1 hl g1 ⊢
  rw [← hNB] at HWB HCB HC2 n2 s2 len2 hl ⊢
  rw [← hLA] at HWA HCA HL1 n3 len1 ⊢
  rw [← hLB] at HWB HCB HL2 n4 len2 ⊢
  rw [← hPA] at HWA HCA HP1 HEP ⊢
  rw [← hPB] at HWB HCB HEP ⊢
  rw [← hLC] at HEC g1
  rw [← hFC] at HEC g2
  have HNA := Lib.hid hNA; have HNB := Lib.hid hNB; have HLA := Lib.hid hLA; have HLB := Lib.hid hLB
  have HG1 := Lib.hid g1; have HG2 := Lib.hid g2
  have HFA := Lib.hid hfa; have HFB := Lib.hid hfb; have HEQ := Lib.hid heq; have HLAST := Lib.hid hlast; have HFIRST := Lib.hid hfirst
  unfold maxLen at m1 m2 m3 m4
  clear p1 p2 c1 c2 l1 l2 k1 k2 k3 k4 kc1 kc2 hx1 hx2 g1 g2 hfa hfb hlast hfirst hNA hNB hLA hLB hPA hPB hLC hFC heq
  go_enter Try.func25, Try.ntmps25
  obtain ⟨W1, hW1, hE1, hs1, hb1'⟩ := walk_new w (.slice ap1 PA cp1) (.slice (some ⟨b1, o1, none⟩) NA cc1) (.slice al1 LA cl1)
  obtain ⟨W2, hW2, hE2, hs2, hb2'⟩ := walk_new W1 (.slice ap2 PB cp2) (.slice (some ⟨b2, o2, none⟩) NB cc2) (.slice al2 LB cl2)
  obtain ⟨W3, hW3, hE3, hs3, hb3'⟩ := walk_new W2 (.slice none 0 0) (.slice none 0 0) (.slice none 0 0)
  obtain ⟨W4, hW4⟩ : ∃ W4, W3.alloc (.cells #[.slice ap1 PA cp1, .slice (some ⟨b1, o1, none⟩) NA cc1, .slice al1 LA cl1, .slice ap2 PB cp2, .slice (some ⟨b2, o2, none⟩) NB cc2, .slice al2 LB cl2] 30) = W4 := ⟨_, rfl⟩
  have hE4 : Ext W3 W4 := by rw [← hW4]; exact Ext.alloc _ _
  have hb4' : W4.heap[W3.heap.size]? = some (.cells #[.slice ap1 PA cp1, .slice (some ⟨b1, o1, none⟩) NA cc1, .slice al1 LA cl1, .slice ap2 PB cp2, .slice (some ⟨b2, o2, none⟩) NB cc2, .slice al2 LB cl2] 30 (0, 0)) := by rw [← hW4]; exact block_new _ _ _
  have HB1 := Lib.hid (block_ext (block_ext (block_ext hb1' hE2) hE3) hE4)
  have HB2 := Lib.hid (block_ext (block_ext hb2' hE3) hE4)
  have HB3 := Lib.hid (block_ext hb3' hE4)
  have HB4 := Lib.hid hb4'
  have HE4 := Lib.hid (hE1.trans (hE2.trans (hE3.trans hE4)))
  obtain ⟨e10, e11, e12, -⟩ := walk_block (block_ext (block_ext hb1' hE2) hE3)
  obtain ⟨e20, e21, e22, -⟩ := walk_block (block_ext hb2' hE3)
  have z2 : W1.heap.size = w.heap.size + 1 := hs1
  have z3 : W2.heap.size = w.heap.size + 1 + 1 := by omega
  have z4 : W3.heap.size = w.heap.size + 1 + 1 + 1 := by omega
  rw [z2] at e20 e21 e22 HB2
  rw [z3] at HB3
  rw [z4] at HB4
  have hz4 : W4.heap.size = w.heap.size + 1 + 1 + 1 + 1 := by rw [← hW4]; simp; omega
  clear hE1 hE2 hE3 hE4 hb1' hb2' hb3' hb4' hs1 hs2 hs3
  go_wp2_with fail
  clear hW1 hW2 hW3 hW4 e10 e11 e12 e20 e21 e22 z2 z3 z4
  go_loopw [18] (fun t wr => ∃ i : Nat, i ≤ 2 ∧ t = .int .i64 i ∧ Hid (Ext W4 wr)) (fun t _ => 2 - (intOf t).toNat)
  case atStart => exact ⟨0, by omega, rfl, Ext.refl _⟩
  case round =>
    obtain ⟨i, hi, rfl, HE⟩ := hrel
    obtain ⟨wo, rfl⟩ : ∃ wo : World, wo = wr := ⟨_, rfl⟩
    by_cases hlt : i < 2
    · have hB := block_ext HB4.out HE.out
      obtain ⟨Wb, hWb, hEb, hsb, hbb⟩ := walk_new wo (.slice none 0 0) (.slice none 0 0) (.slice none 0 0)
      obtain ⟨r0, r1, r2, rf⟩ := walk_block hbb
      have f0 := rf 0; have f1 := rf 1; have f2 := rf 2
      rcases (by omega : i = 0 ∨ i = 1) with rfl | rfl
      case' inl =>
        have d0 := block_cell hB 0; have d1 := block_cell hB 1; have d2 := block_cell hB 2
        have HBS := Lib.hid (walk_store hbb (.slice ap1 PA cp1) (.slice (some ⟨b1, o1, none⟩) NA cc1) (.slice al1 LA cl1))
        have HES := Lib.hid (ext_walk hEb (Nat.le_refl _) (.slice ap1 PA cp1) (.slice (some ⟨b1, o1, none⟩) NA cc1) (.slice al1 LA cl1))
        have HCK := Lib.hid HCA.out
      case' inr =>
        have d0 := block_cell hB 3; have d1 := block_cell hB 4; have d2 := block_cell hB 5
        have HBS := Lib.hid (walk_store hbb (.slice ap2 PB cp2) (.slice (some ⟨b2, o2, none⟩) NB cc2) (.slice al2 LB cl2))
        have HES := Lib.hid (ext_walk hEb (Nat.le_refl _) (.slice ap2 PB cp2) (.slice (some ⟨b2, o2, none⟩) NB cc2) (.slice al2 LB cl2))
        have HCK := Lib.hid HCB.out
      all_goals
        simp only [List.getElem?_toArray, List.getElem?_cons_zero, List.getElem?_cons_succ] at d0 d1 d2
        clear hB rf hbb hEb hsb
        go_wp2_with fail
        refine (HCK.out _ (HE4.out.trans (HE.out.trans HES.out))).mono ?_
        rintro e w7 ⟨rfl, hE7⟩
        have HE7 := Lib.hid (HE.out.trans (HES.out.trans hE7))
        clear hE7
        go_wp2_with fail
        go_roundw
        case rel => first | exact ⟨1, by omega, by first | rfl | go_num, HE7.out⟩ | exact ⟨2, by omega, by first | rfl | go_num, HE7.out⟩
        case measure => simp [intOf]
    · obtain rfl : i = 2 := by omega
      have HE0 := Lib.hid (HE4.out.trans HE.out)
      obtain ⟨y10, y11, y12, -⟩ := walk_block (block_ext HB1.out HE.out)
      obtain ⟨y20, y21, y22, -⟩ := walk_block (block_ext HB2.out HE.out)
      have y1 := HE0.out.cell HG1.out
      have y2 := HE0.out.cell HG2.out
      rw [Nat.add_zero] at y2
      have i1 : IntKind.i64.wrap ((NA : Int) - 1) = (NA : Int) - 1 := by rw [IntKind.wrap_i64]; omega
      have i2 : (0 : Int) ≤ (NA : Int) - 1 := by omega
      have i3 : ((NA : Int) - 1).toNat = NA - 1 := by omega
      have i4 : (NA : Int) - 1 < (NA : Int) := by omega
      have i5 : (0 : Int) < (NB : Int) := by omega
      have i6 : (1 : Int) ≤ (NA : Int) := by omega
      have i7 : 0 < NB := by omega
      go_upto_region 8 with fail
      --<R8
      refine region_anyEUN (fun w' => w'.cell? ⟨w.heap.size, 0, none⟩ = some (.slice ap1 PA cp1) ∧ w'.cell? ⟨w.heap.size + 1, 0, none⟩ = some (.slice ap2 PB cp2) ∧ w'.cell? ⟨w.heap.size, 1, none⟩ = some (.slice (some ⟨b1, o1, none⟩) NA cc1) ∧ w'.cell? ⟨b1, o1 + (NA - 1), none⟩ = some (.slice ax1 LC cx1) ∧ w'.cell? ⟨w.heap.size + 1, 1, none⟩ = some (.slice (some ⟨b2, o2, none⟩) NB cc2) ∧ w'.cell? ⟨b2, o2, none⟩ = some (.slice ax2 FC cx2) ∧ Hid (Ext wo w')) 22 22 (by kernel_rfl) (by kernel_rfl) ⟨(Ext.drew wo).cell y10, (Ext.drew wo).cell y20, (Ext.drew wo).cell y11, (Ext.drew wo).cell y1, (Ext.drew wo).cell y21, (Ext.drew wo).cell y2, Ext.drew wo⟩ (fun ops hO hHeld => ?_)
      have hi := getopN hO 0 (by decide)
      conv at hi => rhs; arg 1; whnf
      refine anyE_takeWUN hO (v := ?_) 0 hi rfl (by kernel_rfl) (by kernel_rfl) (by kernel_rfl) (by decide) (fun _ _ _ h => h) (Or.inl ⟨by rfl, ?_⟩) (by assumption) ?_
      rotate_left
      · ((intro w'); (try go_simp); (try with_reducible rfl))
      clear hi
      (try simp only [Act.put, List.setIfInBounds_toArray, List.set_cons_zero, List.set_cons_succ])
      have hi := getopN hO 1 (by decide)
      conv at hi => rhs; arg 1; whnf
      refine anyE_takeUN hO (v := ?_) 1 hi rfl (by kernel_rfl) (by kernel_rfl) (by kernel_rfl) (by kernel_rfl) (fun _ _ _ h => h) (Or.inl ⟨by rfl, ?_⟩) (by assumption) ?_
      rotate_left
      · ((intro w' hSw); (try dsimp only at hSw); (try go_simp); (try with_reducible rfl))
      clear hi
      (try simp only [Act.put, List.setIfInBounds_toArray, List.set_cons_zero, List.set_cons_succ])
      have hi := getopN hO 2 (by decide)
      conv at hi => rhs; arg 1; whnf
      refine anyE_takeWUN hO (v := ?_) 2 hi rfl (by kernel_rfl) (by kernel_rfl) (by kernel_rfl) (by decide) (fun _ _ _ h => h) (Or.inl ⟨by rfl, ?_⟩) (by assumption) ?_
      rotate_left
      · ((intro w'); (try go_simp); (try with_reducible rfl))
      clear hi
      (try simp only [Act.put, List.setIfInBounds_toArray, List.set_cons_zero, List.set_cons_succ])
      have hi := getopN hO 3 (by decide)
      conv at hi => rhs; arg 1; whnf
      refine anyE_takeUN hO (v := ?_) 3 hi rfl (by kernel_rfl) (by kernel_rfl) (by kernel_rfl) (by kernel_rfl) (fun _ _ _ h => h) (Or.inl ⟨by rfl, ?_⟩) (by assumption) ?_
      rotate_left
      · ((intro w' hSw); (try dsimp only at hSw); (try go_simp); (try with_reducible rfl))
      clear hi
      (try simp only [Act.put, List.setIfInBounds_toArray, List.set_cons_zero, List.set_cons_succ])
      have hi := getopN hO 4 (by decide)
      conv at hi => rhs; arg 1; whnf
      refine anyE_stepUN hO 4 (by kernel_rfl) hi rfl (fun K hK => ?_)
      go_simp
      (go_at_call 45; refine (HEP.out _ (HE0.out.trans hHeld.2.2.2.2.2.2.out)).mono ?_)
      rintro e wz ⟨rfl, hEz⟩
      go_wp2_with fail
      refine hK.out _ _ ⟨(hEz).cell hHeld.1, (hEz).cell hHeld.2.1, (hEz).cell hHeld.2.2.1, (hEz).cell hHeld.2.2.2.1, (hEz).cell hHeld.2.2.2.2.1, (hEz).cell hHeld.2.2.2.2.2.1, Ext.trans hHeld.2.2.2.2.2.2.out (hEz)⟩ (fun hHeld => ?_)
      clear hK K hi
      (try simp only [Act.put, List.setIfInBounds_toArray, List.set_cons_zero, List.set_cons_succ])
      have hi := getopN hO 5 (by decide)
      conv at hi => rhs; arg 1; whnf
      refine anyE_takeWUN hO (v := ?_) 5 hi rfl (by kernel_rfl) (by kernel_rfl) (by kernel_rfl) (by decide) (fun _ _ _ h => h) (Or.inl ⟨by rfl, ?_⟩) (by assumption) ?_
      rotate_left
      · ((intro w'); (try go_simp); (try with_reducible rfl))
      clear hi
      (try simp only [Act.put, List.setIfInBounds_toArray, List.set_cons_zero, List.set_cons_succ])
      have hi := getopN hO 6 (by decide)
      conv at hi => rhs; arg 1; whnf
      refine anyE_takeWUN hO (v := ?_) 6 hi rfl (by kernel_rfl) (by kernel_rfl) (by kernel_rfl) (by decide) (fun _ _ _ h => h) (Or.inl ⟨by rfl, ?_⟩) (by assumption) ?_
      rotate_left
      · ((intro w'); (try go_simp); (try with_reducible rfl))
      clear hi
      (try simp only [Act.put, List.setIfInBounds_toArray, List.set_cons_zero, List.set_cons_succ])
      have hi := getopN hO 7 (by decide)
      conv at hi => rhs; arg 1; whnf
      refine anyE_takeWUN hO (v := ?_) 7 hi rfl (by kernel_rfl) (by kernel_rfl) (by kernel_rfl) (by decide) (fun _ _ _ h => h) (Or.inl ⟨by rfl, ?_⟩) (by assumption) ?_
      rotate_left
      · ((intro w'); (try go_simp); (try with_reducible rfl))
      clear hi
      (try simp only [Act.put, List.setIfInBounds_toArray, List.set_cons_zero, List.set_cons_succ])
      have hi := getopN hO 8 (by decide)
      conv at hi => rhs; arg 1; whnf
      refine anyE_takeUN hO (v := ?_) 8 hi rfl (by kernel_rfl) (by kernel_rfl) (by kernel_rfl) (by kernel_rfl) (fun _ _ _ h => h) (Or.inl ⟨by rfl, ?_⟩) (by assumption) ?_
      rotate_left
      · ((intro w' hSw); (try dsimp only at hSw); (try go_simp); (try with_reducible rfl))
      clear hi
      (try simp only [Act.put, List.setIfInBounds_toArray, List.set_cons_zero, List.set_cons_succ])
      have hi := getopN hO 9 (by decide)
      conv at hi => rhs; arg 1; whnf
      refine anyE_takeWUN hO (v := ?_) 9 hi rfl (by kernel_rfl) (by kernel_rfl) (by kernel_rfl) (by decide) (fun _ _ _ h => h) (Or.inl ⟨by rfl, ?_⟩) (by assumption) ?_
      rotate_left
      · ((intro w'); (try go_simp); (try with_reducible rfl))
      clear hi
      (try simp only [Act.put, List.setIfInBounds_toArray, List.set_cons_zero, List.set_cons_succ])
      have hi := getopN hO 10 (by decide)
      conv at hi => rhs; arg 1; whnf
      refine anyE_takeUN hO (v := ?_) 10 hi rfl (by kernel_rfl) (by kernel_rfl) (by kernel_rfl) (by kernel_rfl) (fun _ _ _ h => h) (Or.inl ⟨by rfl, ?_⟩) (by assumption) ?_
      rotate_left
      · ((intro w' hSw); (try dsimp only at hSw); (try go_simp); (try with_reducible rfl))
      clear hi
      (try simp only [Act.put, List.setIfInBounds_toArray, List.set_cons_zero, List.set_cons_succ])
      have hi := getopN hO 11 (by decide)
      conv at hi => rhs; arg 1; whnf
      refine anyE_takeWUN hO (v := ?_) 11 hi rfl (by kernel_rfl) (by kernel_rfl) (by kernel_rfl) (by decide) (fun _ _ _ h => h) (Or.inl ⟨by rfl, ?_⟩) (by assumption) ?_
      rotate_left
      · ((intro w'); (try go_simp); (try with_reducible rfl))
      clear hi
      (try simp only [Act.put, List.setIfInBounds_toArray, List.set_cons_zero, List.set_cons_succ])
      have hi := getopN hO 12 (by decide)
      conv at hi => rhs; arg 1; whnf
      refine anyE_takeWUN hO (v := ?_) 12 hi rfl (by kernel_rfl) (by kernel_rfl) (by kernel_rfl) (by decide) (fun _ _ _ h => h) (Or.inl ⟨by rfl, ?_⟩) (by assumption) ?_
      rotate_left
      · ((intro w'); (try go_simp); (try with_reducible rfl))
      clear hi
      (try simp only [Act.put, List.setIfInBounds_toArray, List.set_cons_zero, List.set_cons_succ])
      have hi := getopN hO 13 (by decide)
      conv at hi => rhs; arg 1; whnf
      refine anyE_takeWUN hO (v := ?_) 13 hi rfl (by kernel_rfl) (by kernel_rfl) (by kernel_rfl) (by decide) (fun _ _ _ h => h) (Or.inl ⟨by rfl, ?_⟩) (by assumption) ?_
      rotate_left
      · ((intro w'); (try go_simp); (try with_reducible rfl))
      clear hi
      (try simp only [Act.put, List.setIfInBounds_toArray, List.set_cons_zero, List.set_cons_succ])
      have hi := getopN hO 14 (by decide)
      conv at hi => rhs; arg 1; whnf
      refine anyE_takeUN hO (v := ?_) 14 hi rfl (by kernel_rfl) (by kernel_rfl) (by kernel_rfl) (by kernel_rfl) (fun _ _ _ h => h) (Or.inl ⟨by rfl, ?_⟩) (by assumption) ?_
      rotate_left
      · ((intro w' hSw); (try dsimp only at hSw); (try go_simp); (try with_reducible rfl))
      clear hi
      (try simp only [Act.put, List.setIfInBounds_toArray, List.set_cons_zero, List.set_cons_succ])
      have hi := getopN hO 15 (by decide)
      conv at hi => rhs; arg 1; whnf
      refine anyE_takeWUN hO (v := ?_) 15 hi rfl (by kernel_rfl) (by kernel_rfl) (by kernel_rfl) (by decide) (fun _ _ _ h => h) (Or.inl ⟨by rfl, ?_⟩) (by assumption) ?_
      rotate_left
      · ((intro w'); (try go_simp); (try with_reducible rfl))
      clear hi
      (try simp only [Act.put, List.setIfInBounds_toArray, List.set_cons_zero, List.set_cons_succ])
      have hi := getopN hO 16 (by decide)
      conv at hi => rhs; arg 1; whnf
      refine anyE_takeUN hO (v := ?_) 16 hi rfl (by kernel_rfl) (by kernel_rfl) (by kernel_rfl) (by kernel_rfl) (fun _ _ _ h => h) (Or.inl ⟨by rfl, ?_⟩) (by assumption) ?_
      rotate_left
      · ((intro w' hSw); (try dsimp only at hSw); (try go_simp); (try with_reducible rfl))
      clear hi
      (try simp only [Act.put, List.setIfInBounds_toArray, List.set_cons_zero, List.set_cons_succ])
      have hi := getopN hO 17 (by decide)
      conv at hi => rhs; arg 1; whnf
      refine anyE_takeWUN hO (v := ?_) 17 hi rfl (by kernel_rfl) (by kernel_rfl) (by kernel_rfl) (by decide) (fun _ _ _ h => h) (Or.inl ⟨by rfl, ?_⟩) (by assumption) ?_
      rotate_left
      · ((intro w'); (try go_simp); (try with_reducible rfl))
      clear hi
      (try simp only [Act.put, List.setIfInBounds_toArray, List.set_cons_zero, List.set_cons_succ])
      have hi := getopN hO 18 (by decide)
      conv at hi => rhs; arg 1; whnf
      refine anyE_takeUN hO (v := ?_) 18 hi rfl (by kernel_rfl) (by kernel_rfl) (by kernel_rfl) (by kernel_rfl) (fun _ _ _ h => h) (Or.inl ⟨by rfl, ?_⟩) (by assumption) ?_
      rotate_left
      · ((intro w' hSw); (try dsimp only at hSw); (try go_simp); (try with_reducible rfl))
      clear hi
      (try simp only [Act.put, List.setIfInBounds_toArray, List.set_cons_zero, List.set_cons_succ])
      have hi := getopN hO 19 (by decide)
      conv at hi => rhs; arg 1; whnf
      refine anyE_stepUN hO 19 (by kernel_rfl) hi rfl (fun K hK => ?_)
      go_simp
      (go_at_call 38; refine (HEC.out _ (HE0.out.trans hHeld.2.2.2.2.2.2.out)).mono ?_)
      rintro e wy ⟨rfl, hEz⟩
      go_wp2_with fail
      refine hK.out _ _ ⟨(hEz).cell hHeld.1, (hEz).cell hHeld.2.1, (hEz).cell hHeld.2.2.1, (hEz).cell hHeld.2.2.2.1, (hEz).cell hHeld.2.2.2.2.1, (hEz).cell hHeld.2.2.2.2.2.1, Ext.trans hHeld.2.2.2.2.2.2.out (hEz)⟩ (fun hHeld => ?_)
      clear hK K hi
      (try simp only [Act.put, List.setIfInBounds_toArray, List.set_cons_zero, List.set_cons_succ])
      have HWY : Hid (Ext wo wy) := hHeld.2.2.2.2.2.2
      have hi := getopN hO 20 (by decide)
      conv at hi => rhs; arg 1; whnf
      refine anyE_takeWUN hO (v := ?_) 20 hi rfl (by kernel_rfl) (by kernel_rfl) (by kernel_rfl) (by decide) (fun _ _ _ h => h) (Or.inl ⟨by rfl, ?_⟩) (by assumption) ?_
      rotate_left
      · ((intro w'); (try go_simp); (try with_reducible rfl))
      clear hi
      (try simp only [Act.put, List.setIfInBounds_toArray, List.set_cons_zero, List.set_cons_succ])
      have hi := getopN hO 21 (by decide)
      conv at hi => rhs; arg 1; whnf
      refine anyE_lastUN hO 21 (by kernel_rfl) rfl (by kernel_rfl) hi (fun K hK => ?_)
      go_simp
      refine hK.out _ _ (by assumption) ?_
      clear hK K hi hO
      (try simp only [Act.put, List.setIfInBounds_toArray, List.set_cons_zero, List.set_cons_succ])
      -->R8
      have HX8 := Lib.hid (HE0.out.trans HWY.out)
      have q11 := hHeld.2.2.1
      have q21 := hHeld.2.2.2.2.1
      have q10 := hHeld.1
      have q20 := hHeld.2.1
      clear y10 y11 y12 y20 y21 y22 y1 y2 hHeld i1 i2 i3
      have HB3' := Lib.hid (block_ext HB3.out (HE.out.trans HWY.out))
      have HB1' := Lib.hid (block_ext HB1.out (HE.out.trans HWY.out))
      have HB2' := Lib.hid (block_ext HB2.out (HE.out.trans HWY.out))
      obtain ⟨q11', q11b, q12, -⟩ := walk_block HB1'.out
      obtain ⟨q21', q21b, q22, -⟩ := walk_block HB2'.out
      have hsy : w.heap.size + 1 + 1 + 1 + 1 ≤ wy.heap.size := by have := HE.out.size; have := HWY.out.size; omega
      cases eq with
      | false =>
        obtain ⟨r0, r1, r2, rf⟩ := walk_block HB3'.out
        have f0 := rf 0; have f1 := rf 1; have f2 := rf 2
        obtain ⟨t0, t1, t2, -⟩ := walk_block (walk_store HB3'.out (.slice none 0 0) (.slice none 0 0) (.slice none 0 0))
        have HXF := Lib.hid (ext_walk HX8.out (B := w.heap.size + 1 + 1) (by omega) (.slice none 0 0) (.slice none 0 0) (.slice none 0 0))
        clear rf
        go_wp2_with fail
        refine bodyPost_ret (v := .tuple #[.agg #[.slice none 0 0, .slice none 0 0, .slice none 0 0], .int .i64 14]) ?_ rfl ⟨rfl, HXF.out⟩
        simp [results, Try.results25, go_sem, t0, t1, t2]
      | true =>
        have HXY := Lib.hid HX8.out
        have i8 : ¬ (64 : Int) < (NA : Int) + (NB : Int) - 1 := by omega
        have HCP : Hid (Calls Try.prog 41 #[.slice ap1 PA cp1] wy fun e w' => ∃ r, e = .returned r ∧ Ext wy w' ∧ w'.ownsRow wy.heap.size 3 1 r a.primes.length (a.primes.map (Value.int .i64))) := clonePrimes_any a.primes _ wy (HP1.out.ext HX8.out) (by rw [HFA.out.primes]; simp)
        go_wp2_with fail
        refine HCP.out.mono ?_
        rintro e w5 ⟨r, rfl, hE5, hP5⟩
        obtain ⟨ar, cr, hr⟩ : ∃ x c, r = .slice x 3 c := by
          have e3 : a.primes.length = 3 := by rw [HFA.out.primes]; rfl
          obtain ⟨g, c, e1, -⟩ := owns_shape hP5 (by omega)
          exact ⟨_, c, by rw [e1, e3]⟩
        subst hr
        have HP5 := Lib.hid hP5
        have HX5 := Lib.hid (HXY.out.trans hE5)
        have HLY : Hid (w.heap.size + 1 + 1 < wy.heap.size) := by unfold Hid; omega
        have HLW : Hid (w.heap.size + 1 + 1 < w5.heap.size) := Nat.lt_of_lt_of_le HLY.out hE5.size
        have v11 := hE5.cell q11b; have v21 := hE5.cell q21b; have v12 := hE5.cell q12; have v22 := hE5.cell q22
        have HB35 := Lib.hid (block_ext HB3'.out hE5)
        obtain ⟨W6, hW6, hE6, hs6, hb6⟩ := walk_new w5 (.slice none 0 0) (.slice none 0 0) (.slice none 0 0)
        obtain ⟨r0, r1, r2, rf⟩ := walk_block hb6
        have f0 := rf 0; have f1 := rf 1; have f2 := rf 2
        have HB6 := Lib.hid (walk_store hb6 (.slice ar 3 cr) (.slice none 0 0) (.slice none 0 0))
        have HE6 := Lib.hid (ext_walk hE6 (Nat.le_refl _) (.slice ar 3 cr) (.slice none 0 0) (.slice none 0 0))
        clear rf hb6 hE6 hs6 hP5 hE5 q11b q21b q12 q22 q11 q21 q10 q20 q11' q21'
        go_wp2_with fail
        obtain ⟨wj, hwj⟩ : ∃ wj, wj = (((W6.setCell ⟨w5.heap.size, 0, none⟩ (.slice ar 3 cr)).setCell ⟨w5.heap.size, 1, none⟩ (.slice none 0 0)).setCell ⟨w5.heap.size, 2, none⟩ (.slice none 0 0)) := ⟨_, rfl⟩
        rw [← hwj] at HB6 HE6 ⊢
        clear hwj hW6 r0 r1 r2 f0 f1 f2
        have vj12 := v12; have vj22 := v22
        have v11 := HE6.out.cell v11; have v21 := HE6.out.cell v21; have v12 := HE6.out.cell v12; have v22 := HE6.out.cell v22
        have HXJ := Lib.hid (HX5.out.trans HE6.out)
        obtain ⟨oq, hoff, hoq⟩ : ∃ oq, (if cc2 = 1 then (some ⟨b2, o2, none⟩ : Option Addr) else some ⟨b2, o2 + 1, none⟩) = some ⟨b2, oq, none⟩ ∧ (2 ≤ NB → oq = o2 + 1) := by
          by_cases h : cc2 = 1
          · exact ⟨o2, by rw [if_pos h], fun h2 => by omega⟩
          · exact ⟨o2 + 1, by rw [if_neg h], fun _ => rfl⟩
        have HD1 : Hid (Chords w (.slice (some ⟨b2, oq, none⟩) (NB - 1) (cc2 - 1)) (b.chords.drop 1)) := ListAt.drop1 HC2.out hoq (by omega)
        have HLEN : Hid (a.chords.length ≤ 400 ∧ (b.chords.drop 1).length ≤ 400) := ⟨by rw [← HNA.out]; omega, by rw [List.length_drop, ← HNB.out]; omega⟩
        obtain ⟨NJ, hNJ⟩ : ∃ n, n = NA + NB - 1 := ⟨_, rfl⟩
        have HLEN2 : Hid ((a.chords ++ b.chords.drop 1).length = NJ) := by unfold Hid; rw [List.length_append, List.length_drop, ← HNA.out, ← HNB.out]; omega
        have HNJ := Lib.hid hNJ
        have i9 : (1 : Int) ≤ (NB : Int) := by omega
        clear hoq hNJ
        go_upto_region 13 with fail
        --<R13
        refine region_anyE (fun w' => w'.cell? ⟨w.heap.size, 1, none⟩ = some (.slice (some ⟨b1, o1, none⟩) NA cc1) ∧ w'.cell? ⟨w.heap.size + 1, 1, none⟩ = some (.slice (some ⟨b2, o2, none⟩) NB cc2) ∧ Hid (Ext wj w')) 7 (by kernel_rfl) ⟨(Ext.drew wj).cell v11, (Ext.drew wj).cell v21, Ext.drew wj⟩ (fun hHeld => ?_)
        refine anyE_takeW (v := ?_) 0 rfl (by kernel_rfl) (by kernel_rfl) (by kernel_rfl) (by decide) (fun _ _ _ h => h) (Or.inl ⟨by rfl, ?_⟩) (by assumption) ?_
        rotate_left
        · ((intro w'); (try go_simp); (try with_reducible rfl))
        (try simp only [Act.put, List.setIfInBounds_toArray, List.set_cons_zero, List.set_cons_succ])
        refine anyE_take (v := ?_) 1 rfl (by kernel_rfl) (by kernel_rfl) (by kernel_rfl) (by kernel_rfl) (by kernel_rfl) (fun _ _ _ h => h) (Or.inl ⟨by rfl, ?_⟩) (by assumption) ?_
        rotate_left
        · ((intro w' hSw); (try dsimp only at hSw); (try go_simp); (try with_reducible rfl))
        (try simp only [Act.put, List.setIfInBounds_toArray, List.set_cons_zero, List.set_cons_succ])
        refine anyE_takeW (v := ?_) 2 rfl (by kernel_rfl) (by kernel_rfl) (by kernel_rfl) (by decide) (fun _ _ _ h => h) (Or.inl ⟨by rfl, ?_⟩) (by assumption) ?_
        rotate_left
        · ((intro w'); (try go_simp); (try with_reducible rfl))
        (try simp only [Act.put, List.setIfInBounds_toArray, List.set_cons_zero, List.set_cons_succ])
        refine anyE_take (v := ?_) 3 rfl (by kernel_rfl) (by kernel_rfl) (by kernel_rfl) (by kernel_rfl) (by kernel_rfl) (fun _ _ _ h => h) (Or.inl ⟨by rfl, ?_⟩) (by assumption) ?_
        rotate_left
        · ((intro w' hSw); (try dsimp only at hSw); (try go_simp); (try with_reducible rfl))
        (try simp only [Act.put, List.setIfInBounds_toArray, List.set_cons_zero, List.set_cons_succ])
        refine anyE_takeW (v := ?_) 4 rfl (by kernel_rfl) (by kernel_rfl) (by kernel_rfl) (by decide) (fun _ _ _ h => h) (Or.inl ⟨by rfl, ?_⟩) (by assumption) ?_
        rotate_left
        · ((intro w'); (try go_simp); (try with_reducible rfl))
        (try simp only [Act.put, List.setIfInBounds_toArray, List.set_cons_zero, List.set_cons_succ])
        refine anyE_takeW (v := ?_) 8 rfl (by kernel_rfl) (by kernel_rfl) (by kernel_rfl) (by decide) (fun _ _ _ h => h) (Or.inl ⟨by rfl, ?_⟩) (by assumption) ?_
        rotate_left
        · ((intro w'); (try go_simp); (try with_reducible rfl))
        (try simp only [Act.put, List.setIfInBounds_toArray, List.set_cons_zero, List.set_cons_succ])
        refine anyE_step 5 (by kernel_rfl) rfl (fun K hK => ?_)
        go_simp
        obtain ⟨wl, hwl⟩ : ∃ wl, wl = (wj.alloc (.cells #[.slice (some ⟨b1, o1, none⟩) NA cc1, .slice (some ⟨b2, oq, none⟩) (NB - 1) (cc2 - 1)] 27)).drew := ⟨_, rfl⟩
        have hEl : Ext wj.drew wl := by rw [hwl]; exact Ext.alloc wj.drew (.cells #[.slice (some ⟨b1, o1, none⟩) NA cc1, .slice (some ⟨b2, oq, none⟩) (NB - 1) (cc2 - 1)] 27)
        have hbl : wl.heap[wj.heap.size]? = some (.cells #[.slice (some ⟨b1, o1, none⟩) NA cc1, .slice (some ⟨b2, oq, none⟩) (NB - 1) (cc2 - 1)] 27 (0, 0)) := by rw [hwl]; exact block_new wj.drew _ _
        rw [← hwl]
        have l0 := block_cell hbl 0; have l1 := block_cell hbl 1
        simp only [List.getElem?_toArray, List.getElem?_cons_zero, List.getElem?_cons_succ] at l0 l1
        refine hK.out _ _ ⟨(hEl).cell hHeld.1, (hEl).cell hHeld.2.1, Ext.trans hHeld.2.2.out (hEl)⟩ (fun hHeld => ?_)
        clear hK K hwl hbl
        (try simp only [Act.put, List.setIfInBounds_toArray, List.set_cons_zero, List.set_cons_succ])
        refine anyE_step 6 (by kernel_rfl) rfl (fun K hK => ?_)
        go_simp
        (go_at_call 52; refine (concatChords_pin pinR.mono (pinR.one (inCell_one ListAt.oneSlice)) a.chords (b.chords.drop 1) wj.heap.size 2 _ _ wl (ListAt.pin chordR.mono HC1.out (HXJ.out.trans hHeld.2.2.out)) (ListAt.pin chordR.mono HD1.out (HXJ.out.trans hHeld.2.2.out)) l0 l1 HLEN.out.1 HLEN.out.2).mono ?_)
        rintro e wz ⟨r7, rfl, hEz, hB7⟩
        have HWL : Hid (Ext wl wz) := hEz
        obtain ⟨g7, c7, hr7, g71, g72, g73, g74, hc7⟩ := Build.at (hB7.cloned hEz (Nat.le_refl _)) (by rw [HLEN2.out, HNJ.out]; omega)
        rw [HLEN2.out] at hr7 g73
        subst hr7
        have HC7 := Lib.hid hc7
        have hjl := hEl.size
        have HG7 : Hid (wj.heap.size ≤ g7 ∧ g7 < wz.heap.size) := ⟨Nat.le_trans hjl g71, g72⟩
        unfold maxLen at g74
        clear hB7 hc7 hjl g71 g72
        go_wp2_with fail
        refine hK.out _ _ ⟨(hEz).cell hHeld.1, (hEz).cell hHeld.2.1, Ext.trans hHeld.2.2.out (hEz)⟩ (fun hHeld => ?_)
        clear hK K
        (try simp only [Act.put, List.setIfInBounds_toArray, List.set_cons_zero, List.set_cons_succ])
        refine anyE_last 7 (by kernel_rfl) (by kernel_rfl) (by kernel_rfl) rfl (fun K hK => ?_)
        go_simp
        refine hK.out _ _ ?_
        clear hK K
        (try simp only [Act.put, List.setIfInBounds_toArray, List.set_cons_zero, List.set_cons_succ])
        -->R13
        have HWJZ : Hid (Ext wj wz) := hHeld.2.2
        have HJ12 := Lib.hid vj12; have HJ22 := Lib.hid vj22
        clear vj12 vj22 v11 v21 v12 v22 hHeld i9 g73
        have HSZJ : Hid (w5.heap.size < wz.heap.size ∧ w5.heap.size < g7) := by
          have h1 := block_lt HB6.out; have h2 := HG7.out
          exact ⟨by omega, by omega⟩
        obtain ⟨SX, hSX⟩ : ∃ SX : Nat → Prop, SX = fun b => b = w5.heap.size ∨ wz.heap.size ≤ b := ⟨_, rfl⟩
        have HSX : Hid (SX w5.heap.size ∧ ∀ b, wz.heap.size ≤ b → SX b) := by rw [hSX]; exact ⟨.inl rfl, fun b hb => .inr hb⟩
        have HSXG : Hid (¬ SX g7) := by rw [hSX]; have := HSZJ.out; have := HG7.out; rintro (e | e) <;> omega
        have HWZ5 : Hid (Ext wj wz) := HWJZ.out
        have HBZ := Lib.hid (block_ext HB6.out HWZ5.out)
        have HX5Z := Lib.hid (HE6.out.trans HWZ5.out)
        have HXWZ := Lib.hid (HXJ.out.trans HWZ5.out)
        clear hSX
        go_wp2_with fail
        go_loopw [74] (fun t wr => ∃ (i : Nat) (S : Nat → Prop) (vc : Value), t = .int .i64 i ∧ i ≤ NJ ∧ Hid (Ext w5 wr) ∧ Hid (GrownS SX wz wr) ∧ Hid (SOk S w5.heap.size wr) ∧ Hid (S w5.heap.size) ∧ Hid (∀ b, S b → SX b) ∧ Hid (wr.heap[w5.heap.size]? = some (.cells #[.slice ar 3 cr, vc, .slice none 0 0] 30 (0, 0))) ∧ Hid (BuildS wr S w5.heap.size 31 1 vc (belowR w5.heap.size chordR) ((a.chords ++ b.chords.drop 1).take i))) (fun t _ => NJ - (intOf t).toNat)
        case atStart =>
          exact ⟨0, fun b => b = w5.heap.size, .slice none 0 0, rfl, by omega, HX5Z.out, GrownS.refl _ _, fun b hb => by subst hb; exact ⟨Nat.le_refl _, HSZJ.out.1⟩, rfl, fun b hb => by subst hb; exact HSX.out.1, HBZ.out, BuildS.nil _ _ _ _ _ _⟩
        case round =>
          obtain ⟨i, S, vc, rfl, hi, HEr, HGR, HOK, HSB, HSS, HBK, HCH⟩ := hrel
          obtain ⟨wo, rfl⟩ : ∃ wo : World, wo = wr := ⟨_, rfl⟩
          by_cases hlt : i < NJ
          · obtain ⟨x, hx⟩ : ∃ x, (a.chords ++ b.chords.drop 1)[i]? = some x := ⟨_, List.getElem?_eq_getElem (by rw [HLEN2.out]; exact hlt)⟩
            obtain ⟨u, hu, hcu⟩ := HC7.out i x hx
            have gu := HGR.out.cell HG7.out.2 HSXG.out hcu
            have HXWo : Hid (Ext w wo) := HX5.out.trans HEr.out
            obtain ⟨u', e', hux⟩ := hu wo HXWo.out
            simp only [List.cons.injEq, and_true] at e'
            subst e'
            have hok : okChord x := by
              rcases List.mem_append.1 (List.mem_of_getElem? hx) with h | h
              · exact HFA.out.chords x h
              · exact HFB.out.chords x (List.mem_of_mem_drop h)
            have HCPY : Hid (∀ W, Ext wo W → Calls Try.prog 43 #[u] W fun e w' => ∃ r n c, e = .returned (.slice r n c) ∧ Ext W w' ∧ SafeS w' S fun w'' => belowR w5.heap.size chordR w'' [.slice r n c] x) := fun W hW => (copied_any x u W (Rows2.ext hux hW) (by have := hok.2.1; omega) (fun y hy => by have := (hok.2.2 y hy).1; omega)).mono (by
              rintro e w' ⟨r, rfl, hE, hB⟩
              have hF := hB.fresh (fun k => S k ∨ k < w5.heap.size) (fun k hk => .inl (by
                rcases hk with hk | hk
                · exact Nat.lt_of_lt_of_le (HOK.out k hk).2 hW.size
                · exact Nat.lt_of_lt_of_le hk (Nat.le_trans HEr.out.size hW.size)))
              obtain ⟨ar, cr, rfl, -⟩ := ListAt.open hF.now
              exact ⟨_, _, _, rfl, hE, belowR.of (hF.mono fun w'' h => ⟨_, rfl, h⟩)⟩)
            obtain ⟨au, cu, rfl, -⟩ := inCell.open hux
            have htl : ((a.chords ++ b.chords.drop 1).take i).length = i := by rw [List.length_take, HLEN2.out]; omega
            have HTL : Hid (((a.chords ++ b.chords.drop 1).take (i + 1)).length = i + 1) := by unfold Hid; rw [List.length_take, HLEN2.out]; omega
            have HTK : Hid ((a.chords ++ b.chords.drop 1).take i ++ [x] = (a.chords ++ b.chords.drop 1).take (i + 1)) := by unfold Hid; rw [List.take_add_one, hx]; rfl
            obtain ⟨avc, cvc, rfl, hvc1, hvc2, -⟩ := ListAt.open HCH.out.list
            rw [htl] at hvc1 HCH HBK
            have g1 := block_cell HBK.out 1
            simp only [List.getElem?_toArray, List.getElem?_cons_zero, List.getElem?_cons_succ] at g1
            have HI : Hid (((a.chords ++ b.chords.drop 1).take i).length < 1000000) := by unfold Hid; rw [htl]; have := HNJ.out; omega
            have HSZ : Hid (w5.heap.size ≤ wo.heap.size) := HEr.out.size
            have HOWN : Hid (∀ k, (Value.slice avc i cvc).ownBlock = some k → S k) := HCH.out.1
            have j1 : (i : Int) < (NJ : Int) := by omega
            have HLT := Lib.hid hlt
            have j9 : (i : Int) < 1000 := by have := HNJ.out; omega
            have j0 : (0 : Int) ≤ (i : Int) := by omega
            unfold maxLen at hvc2
            clear hx hu hcu hok hux htl
            go_upto_region 16 with fail
            --<R16
            refine region_anyE (fun w' => w'.cell? ⟨w5.heap.size, 1, none⟩ = some (.slice avc i cvc) ∧ Hid (Ext wo w')) 5 (by kernel_rfl) ⟨(Ext.drew wo).cell g1, Ext.drew wo⟩ (fun hHeld => ?_)
            refine anyE_takeW (v := ?_) 0 rfl (by kernel_rfl) (by kernel_rfl) (by kernel_rfl) (by decide) (fun _ _ _ h => h) (Or.inl ⟨by rfl, ?_⟩) (by assumption) ?_
            rotate_left
            · ((intro w'); (try go_simp); (try with_reducible rfl))
            (try simp only [Act.put, List.setIfInBounds_toArray, List.set_cons_zero, List.set_cons_succ])
            refine anyE_take (v := ?_) 1 rfl (by kernel_rfl) (by kernel_rfl) (by kernel_rfl) (by kernel_rfl) (by kernel_rfl) (fun _ _ _ h => h) (Or.inl ⟨by rfl, ?_⟩) (by assumption) ?_
            rotate_left
            · ((intro w' hSw); (try dsimp only at hSw); (try go_simp); (try with_reducible rfl))
            (try simp only [Act.put, List.setIfInBounds_toArray, List.set_cons_zero, List.set_cons_succ])
            refine anyE_takeW (v := ?_) 2 rfl (by kernel_rfl) (by kernel_rfl) (by kernel_rfl) (by decide) (fun _ _ _ h => h) (Or.inl ⟨by rfl, ?_⟩) (by assumption) ?_
            rotate_left
            · ((intro w'); (try go_simp); (try with_reducible rfl))
            (try simp only [Act.put, List.setIfInBounds_toArray, List.set_cons_zero, List.set_cons_succ])
            refine anyE_step 3 (by kernel_rfl) rfl (fun K hK => ?_)
            go_simp
            (go_at_call 43; refine (HCPY.out _ hHeld.2.out).mono ?_)
            rintro e wy ⟨ar3, nr3, cr3, rfl, hEz, hSF⟩
            have HSF := Lib.hid hSF
            clear hSF
            go_wp2_with fail
            refine hK.out _ _ ⟨(hEz).cell hHeld.1, Ext.trans hHeld.2.out (hEz)⟩ (fun hHeld => ?_)
            clear hK K
            (try simp only [Act.put, List.setIfInBounds_toArray, List.set_cons_zero, List.set_cons_succ])
            have HWY : Hid (Ext wo wy) := hHeld.2
            refine anyE_step 4 (by kernel_rfl) rfl (fun K hK => ?_)
            go_simp
            refine hK.out _ _ ⟨(Ext.alloc _ _).cell hHeld.1, Ext.trans hHeld.2.out (Ext.alloc _ _)⟩ (fun hHeld => ?_)
            clear hK K
            (try simp only [Act.put, List.setIfInBounds_toArray, List.set_cons_zero, List.set_cons_succ])
            refine anyE_stepZ 5 (by kernel_rfl) (by kernel_rfl) rfl (fun K hK => ?_)
            refine step_append_buildS wy (by rfl) _ _ 27 (by rfl) S w5.heap.size 31 (.slice none 0 0) 1 24 Try.underlying27 infoRows (by rfl) (by decide) (.slice avc i cvc) (belowR w5.heap.size chordR) ((a.chords ++ b.chords.drop 1).take i) x #[.slice ar3 nr3 cr3] 31 (by rfl) (HCH.out.ext HWY.out) wy.heap.size (by rfl) (by rfl) (by rfl) (by simp [Value.oneCell']) HSF.out HI.out (by decide) (Nat.le_trans HSZ.out HWY.out.size) w5.heap.size (Nat.le_refl _) (HOK.out.grow HWY.out.size) ?_
            intro l' w6 S6 hok6 hS61 hS62 hB6 hg6 hb6 hs6 hsafe6
            obtain ⟨gd, capd, rfl, hgd1, hgd2, hgd3, hgd4⟩ := hB6.shape (by simp)
            rw [HTK.out, HTL.out] at hB6
            rw [HTK.out, HTL.out]
            have HMID := Lib.hid (two_step (i := 1) (HCH.out.ext HWY.out) ((BuildS.nil wo S w5.heap.size 34 1 linksR).ext HWY.out) HSB.out (block_ext HBK.out HWY.out) hok6 hS61 hS62 hB6 hg6 hb6 (show (31 : Nat) ≠ 30 by decide) (show (34 : Nat) ≠ 30 by decide) (show (34 : Nat) ≠ 31 by decide) (Nat.le_refl _))
            have HGR6 : Hid (GrownS SX wz (w6.setCell ⟨w5.heap.size, 1, none⟩ (.slice (some ⟨gd, 0, none⟩) (i + 1) capd))) := HGR.out.trans ((HWY.out.grownS SX).trans ((grownBy_S hg6 (fun k hk => HSS.out _ (HOWN.out k hk))).trans (grownBy_S (grown_setCell _ _ _ _) (fun k hk => by cases hk; exact HSX.out.1))))
            have HSS6 : Hid (∀ b, S6 b → SX b) := fun b hb => by
              rcases hS62 b hb with h | h
              · exact HSS.out b h
              · exact HSX.out.2 b (Nat.le_trans (Nat.le_trans HGR.out.size HWY.out.size) h)
            have kb := block_grown (block_ext HBK.out HWY.out) hg6 ((HCH.out.ext HWY.out).neBlock (block_ext HBK.out HWY.out) (by decide))
            have kf := block_free kb 1
            have kc := block_cell kb 1
            simp only [List.getElem?_toArray, List.getElem?_cons_zero, List.getElem?_cons_succ] at kc
            clear hB6 hg6 hb6 hok6 hS61 hS62 hsafe6 kb hgd1 hgd2
            refine hK.out _ _ ?_
            clear hK K
            (try simp only [Act.put, List.setIfInBounds_toArray, List.set_cons_zero, List.set_cons_succ])
            refine anyE_stepZ 6 (by kernel_rfl) (by kernel_rfl) rfl (fun K hK => ?_)
            go_simp
            refine hK.out _ _ ?_
            clear hK K
            (try simp only [Act.put, List.setIfInBounds_toArray, List.set_cons_zero, List.set_cons_succ])
            refine anyE_last 7 (by kernel_rfl) (by kernel_rfl) (by kernel_rfl) rfl (fun K hK => ?_)
            go_simp
            refine hK.out _ _ ?_
            clear hK K
            (try simp only [Act.put, List.setIfInBounds_toArray, List.set_cons_zero, List.set_cons_succ])
            -->R16
            go_wp2_with fail
            go_roundw
            case rel => exact ⟨i + 1, S6, _, by first | go_num | (have := HNJ.out; have := HLT.out; go_num), HLT.out, Below.trans (Ext.trans HEr.out HWY.out) HMID.out.1, HGR6.out, HMID.out.2.1, HMID.out.2.2.1, HSS6.out, HMID.out.2.2.2.1, HMID.out.2.2.2.2.1⟩
            case measure => have := HLT.out; have := HNJ.out; simp [intOf]; omega
          · obtain rfl : NJ = i := by omega
            rw [List.take_of_length_le (by rw [HLEN2.out]; exact Nat.le_refl _)] at HCH
            have m12 := HEr.out.cell HJ12.out
            have m22 := HEr.out.cell HJ22.out
            go_wp2_with fail
            obtain ⟨W8, hW8⟩ : ∃ W8, W8 = wo.alloc (.cells #[.slice al1 LA cl1, .slice al2 LB cl2] 28) := ⟨_, rfl⟩
            have hE8 : Ext wo W8 := by rw [hW8]; exact Ext.alloc _ _
            have hb8 : W8.heap[wo.heap.size]? = some (.cells #[.slice al1 LA cl1, .slice al2 LB cl2] 28 (0, 0)) := by rw [hW8]; exact block_new _ _ _
            have h8s : W8.heap.size = wo.heap.size + 1 := by rw [hW8]; simp
            rw [← hW8]
            have l0 := block_cell hb8 0; have l1 := block_cell hb8 1
            simp only [List.getElem?_toArray, List.getElem?_cons_zero, List.getElem?_cons_succ] at l0 l1
            have hX8 : Ext w W8 := (HX5.out.trans HEr.out).trans hE8
            obtain ⟨NL, hNL⟩ : ∃ n, n = LA + LB := ⟨_, rfl⟩
            have HNL : Hid ((a.links ++ b.links).length = NL ∧ NL ≤ 20) := ⟨by rw [List.length_append, ← HLA.out, ← HLB.out, hNL], by rw [hNL]; omega⟩
            refine (concatLinks2_pin pinR.mono (pinR.one (inCell_one ListAt.oneSlice)) a.links b.links wo.heap.size 2 _ _ W8 (ListAt.pin linksR.mono HL1.out hX8) (ListAt.pin linksR.mono HL2.out hX8) l0 l1 (by rw [← HLA.out]; omega) (by rw [← HLB.out]; omega)).mono ?_
            rintro e wk ⟨r8, rfl, hE9, hB8⟩
            have hB9 := hB8.cloned hE9 (Nat.le_refl _)
            obtain ⟨ad8, c8, hr8, g83, g84, -, -⟩ := ListAt.open hB9.list
            have HC8 : Hid (0 < NL → ∃ g, ad8 = some ⟨g, 0, none⟩ ∧ wo.heap.size < g ∧ g < wk.heap.size ∧ ∀ (j : Nat) x, (a.links ++ b.links)[j]? = some x → ∃ u, pinR w linksR wk [u] x ∧ wk.cell? ⟨g, j, none⟩ = some u) := fun h0 => by
              obtain ⟨g, c, hr, q1, q2, -, -, hc⟩ := Build.at hB9 (by rw [HNL.out.1]; exact h0)
              rw [hr8] at hr
              simp only [Value.slice.injEq] at hr
              exact ⟨g, hr.1, by omega, q2, hc⟩
            rw [HNL.out.1] at hr8 g83
            subst hr8
            have HEK : Hid (Ext wo wk) := hE8.trans hE9
            obtain ⟨SY, hSY⟩ : ∃ SY : Nat → Prop, SY = fun b => S b ∨ wk.heap.size ≤ b := ⟨_, rfl⟩
            have HSY : Hid (SY w5.heap.size ∧ ∀ b, wk.heap.size ≤ b → SY b) := by rw [hSY]; exact ⟨.inl HSB.out, fun b hb => .inr hb⟩
            have HSYG : Hid (∀ g, wo.heap.size < g → g < wk.heap.size → ¬ SY g) := by
              rw [hSY]; intro g q1 q2 h
              rcases h with h | h
              · have := (HOK.out g h).2; omega
              · omega
            have HSYS : Hid (∀ b, S b → SY b) := by rw [hSY]; exact fun b hb => .inl hb
            unfold maxLen at g84
            clear hSY hNL hE8 hb8 h8s hW8 l0 l1 hX8 hE9 hB8 hB9 m12 m22
            go_wp2_with fail
            go_loopw [93] (fun t wr => ∃ (i : Nat) (S : Nat → Prop) (vl : Value), t = .int .i64 i ∧ i ≤ NL ∧ Hid (Ext w5 wr) ∧ Hid (GrownS SY wk wr) ∧ Hid (SOk S w5.heap.size wr) ∧ Hid (S w5.heap.size) ∧ Hid (∀ b, S b → SY b) ∧ Hid (wr.heap[w5.heap.size]? = some (.cells #[.slice ar 3 cr, vc, vl] 30 (0, 0))) ∧ Hid (BuildS wr S w5.heap.size 31 1 vc (belowR w5.heap.size chordR) (a.chords ++ b.chords.drop 1)) ∧ Hid (BuildS wr S w5.heap.size 34 1 vl (belowR w5.heap.size linksR) ((a.links ++ b.links).take i))) (fun t _ => NL - (intOf t).toNat)
            case atStart =>
              exact ⟨0, S, .slice none 0 0, rfl, by omega, HEr.out.trans HEK.out, GrownS.refl _ _, HOK.out.grow HEK.out.size, HSB.out, HSYS.out, block_ext HBK.out HEK.out, HCH.out.ext HEK.out, BuildS.nil _ _ _ _ _ _⟩
            case round =>
              clear HC7 HG7 HSX HSXG HOK HSB HSS HBK HCH HGR HEr hi
              obtain ⟨i, S, vl, rfl, hi, HEr, HGR, HOK, HSB, HSS, HBK, HCHo, HLK⟩ := hrel
              obtain ⟨wo, rfl⟩ : ∃ wo : World, wo = wr := ⟨_, rfl⟩
              by_cases hlt : i < NL
              · obtain ⟨x, hx⟩ : ∃ x, (a.links ++ b.links)[i]? = some x := ⟨_, List.getElem?_eq_getElem (by rw [HNL.out.1]; exact hlt)⟩
                obtain ⟨g8, rfl, hg8, hg8', hc8⟩ := HC8.out (by omega)
                obtain ⟨u, hu, hcu⟩ := hc8 i x hx
                have gu := HGR.out.cell hg8' (HSYG.out g8 hg8 hg8') hcu
                have HXWo : Hid (Ext w wo) := HX5.out.trans HEr.out
                obtain ⟨u', e', hux⟩ := hu wo HXWo.out
                simp only [List.cons.injEq, and_true] at e'
                subst e'
                have hok : x.length ≤ 2 := by
                  rcases List.mem_append.1 (List.mem_of_getElem? hx) with h | h
                  · obtain ⟨j, hj⟩ := List.getElem?_of_mem h
                    exact (HFA.out.links j x hj).2.1
                  · obtain ⟨j, hj⟩ := List.getElem?_of_mem h
                    exact (HFB.out.links j x hj).2.1
                have HCPY : Hid (∀ W, Ext wo W → Calls Try.prog 54 #[u] W fun e w' => ∃ r n c, e = .returned (.slice r n c) ∧ Ext W w' ∧ SafeS w' S fun w'' => belowR w5.heap.size linksR w'' [.slice r n c] x) := fun W hW => (cloneLinks_any x u W (Links.ext hux hW) (by omega)).mono (by
                  rintro e w' ⟨r, rfl, hE, hB⟩
                  have hF := (hB.cloned hE (Nat.le_refl _)).pure (fun _ _ _ _ h => h) (fun k => S k ∨ k < w5.heap.size) (fun k hk => .inl (by
                    rcases hk with hk | hk
                    · exact Nat.lt_of_lt_of_le (HOK.out k hk).2 hW.size
                    · exact Nat.lt_of_lt_of_le hk (Nat.le_trans HEr.out.size hW.size)))
                  obtain ⟨ar, cr, rfl, -⟩ := ListAt.open hF.now
                  exact ⟨_, _, _, rfl, hE, belowR.of (hF.mono fun w'' h => ⟨_, rfl, h⟩)⟩)
                obtain ⟨au, cu, rfl, -⟩ := ListAt.open hux
                have htl : ((a.links ++ b.links).take i).length = i := by rw [List.length_take, HNL.out.1]; omega
                have HTL : Hid (((a.links ++ b.links).take (i + 1)).length = i + 1) := by unfold Hid; rw [List.length_take, HNL.out.1]; omega
                have HTK : Hid ((a.links ++ b.links).take i ++ [x] = (a.links ++ b.links).take (i + 1)) := by unfold Hid; rw [List.take_add_one, hx]; rfl
                obtain ⟨avl, cvl, rfl, hvc1, hvc2, -⟩ := ListAt.open HLK.out.list
                rw [htl] at hvc1 HLK HBK
                have g1 := block_cell HBK.out 2
                simp only [List.getElem?_toArray, List.getElem?_cons_zero, List.getElem?_cons_succ] at g1
                have HI : Hid (((a.links ++ b.links).take i).length < 1000000) := by unfold Hid; rw [htl]; have := HNL.out.2; omega
                have HSZ : Hid (w5.heap.size ≤ wo.heap.size) := HEr.out.size
                have HOWN : Hid (∀ k, (Value.slice avl i cvl).ownBlock = some k → S k) := HLK.out.1
                have j1 : (i : Int) < (NL : Int) := by omega
                have HLT := Lib.hid hlt
                have j9 : (i : Int) < 1000 := by have := HNL.out; omega
                have j0 : (0 : Int) ≤ (i : Int) := by omega
                unfold maxLen at hvc2
                clear hx hu hcu hok hux htl hc8 hg8
                go_upto_region 21 with fail
                --<R21
                refine region_anyE (fun w' => w'.cell? ⟨w5.heap.size, 2, none⟩ = some (.slice avl i cvl) ∧ Hid (Ext wo w')) 5 (by kernel_rfl) ⟨(Ext.drew wo).cell g1, Ext.drew wo⟩ (fun hHeld => ?_)
                refine anyE_takeW (v := ?_) 0 rfl (by kernel_rfl) (by kernel_rfl) (by kernel_rfl) (by decide) (fun _ _ _ h => h) (Or.inl ⟨by rfl, ?_⟩) (by assumption) ?_
                rotate_left
                · ((intro w'); (try go_simp); (try with_reducible rfl))
                (try simp only [Act.put, List.setIfInBounds_toArray, List.set_cons_zero, List.set_cons_succ])
                refine anyE_take (v := ?_) 1 rfl (by kernel_rfl) (by kernel_rfl) (by kernel_rfl) (by kernel_rfl) (by kernel_rfl) (fun _ _ _ h => h) (Or.inl ⟨by rfl, ?_⟩) (by assumption) ?_
                rotate_left
                · ((intro w' hSw); (try dsimp only at hSw); (try go_simp); (try with_reducible rfl))
                (try simp only [Act.put, List.setIfInBounds_toArray, List.set_cons_zero, List.set_cons_succ])
                refine anyE_takeW (v := ?_) 2 rfl (by kernel_rfl) (by kernel_rfl) (by kernel_rfl) (by decide) (fun _ _ _ h => h) (Or.inl ⟨by rfl, ?_⟩) (by assumption) ?_
                rotate_left
                · ((intro w'); (try go_simp); (try with_reducible rfl))
                (try simp only [Act.put, List.setIfInBounds_toArray, List.set_cons_zero, List.set_cons_succ])
                refine anyE_step 3 (by kernel_rfl) rfl (fun K hK => ?_)
                go_simp
                (go_at_call 54; refine (HCPY.out _ hHeld.2.out).mono ?_)
                rintro e wy ⟨ar3, nr3, cr3, rfl, hEz, hSF⟩
                have HSF := Lib.hid hSF
                clear hSF
                go_wp2_with fail
                refine hK.out _ _ ⟨(hEz).cell hHeld.1, Ext.trans hHeld.2.out (hEz)⟩ (fun hHeld => ?_)
                clear hK K
                (try simp only [Act.put, List.setIfInBounds_toArray, List.set_cons_zero, List.set_cons_succ])
                have HWY : Hid (Ext wo wy) := hHeld.2
                refine anyE_step 4 (by kernel_rfl) rfl (fun K hK => ?_)
                go_simp
                refine hK.out _ _ ⟨(Ext.alloc _ _).cell hHeld.1, Ext.trans hHeld.2.out (Ext.alloc _ _)⟩ (fun hHeld => ?_)
                clear hK K
                (try simp only [Act.put, List.setIfInBounds_toArray, List.set_cons_zero, List.set_cons_succ])
                refine anyE_stepZ 5 (by kernel_rfl) (by kernel_rfl) rfl (fun K hK => ?_)
                refine step_append_buildS wy (by rfl) _ _ 28 (by rfl) S w5.heap.size 34 (.slice none 0 0) 1 24 Try.underlying28 infoLinks (by rfl) (by decide) (.slice avl i cvl) (belowR w5.heap.size linksR) ((a.links ++ b.links).take i) x #[.slice ar3 nr3 cr3] 34 (by rfl) (HLK.out.ext HWY.out) wy.heap.size (by rfl) (by rfl) (by rfl) (by simp [Value.oneCell']) HSF.out HI.out (by decide) (Nat.le_trans HSZ.out HWY.out.size) w5.heap.size (Nat.le_refl _) (HOK.out.grow HWY.out.size) ?_
                intro l' w6 S6 hok6 hS61 hS62 hB6 hg6 hb6 hs6 hsafe6
                obtain ⟨gd, capd, rfl, hgd1, hgd2, hgd3, hgd4⟩ := hB6.shape (by simp)
                rw [HTK.out, HTL.out] at hB6
                rw [HTK.out, HTL.out]
                have HMID := Lib.hid (two_step (i := 2) (HLK.out.ext HWY.out) (HCHo.out.ext HWY.out) HSB.out (block_ext HBK.out HWY.out) hok6 hS61 hS62 hB6 hg6 hb6 (show (34 : Nat) ≠ 30 by decide) (show (31 : Nat) ≠ 30 by decide) (show (31 : Nat) ≠ 34 by decide) (Nat.le_refl _))
                have HGR6 : Hid (GrownS SY wk (w6.setCell ⟨w5.heap.size, 2, none⟩ (.slice (some ⟨gd, 0, none⟩) (i + 1) capd))) := HGR.out.trans ((HWY.out.grownS SY).trans ((grownBy_S hg6 (fun k hk => HSS.out _ (HOWN.out k hk))).trans (grownBy_S (grown_setCell _ _ _ _) (fun k hk => by cases hk; exact HSY.out.1))))
                have HSS6 : Hid (∀ b, S6 b → SY b) := fun b hb => by
                  rcases hS62 b hb with h | h
                  · exact HSS.out b h
                  · exact HSY.out.2 b (Nat.le_trans (Nat.le_trans HGR.out.size HWY.out.size) h)
                have kb := block_grown (block_ext HBK.out HWY.out) hg6 ((HLK.out.ext HWY.out).neBlock (block_ext HBK.out HWY.out) (by decide))
                have kf := block_free kb 2
                have kc := block_cell kb 2
                simp only [List.getElem?_toArray, List.getElem?_cons_zero, List.getElem?_cons_succ] at kc
                clear hB6 hg6 hb6 hok6 hS61 hS62 hsafe6 kb hgd1 hgd2
                refine hK.out _ _ ?_
                clear hK K
                (try simp only [Act.put, List.setIfInBounds_toArray, List.set_cons_zero, List.set_cons_succ])
                refine anyE_stepZ 6 (by kernel_rfl) (by kernel_rfl) rfl (fun K hK => ?_)
                go_simp
                refine hK.out _ _ ?_
                clear hK K
                (try simp only [Act.put, List.setIfInBounds_toArray, List.set_cons_zero, List.set_cons_succ])
                refine anyE_last 7 (by kernel_rfl) (by kernel_rfl) (by kernel_rfl) rfl (fun K hK => ?_)
                go_simp
                refine hK.out _ _ ?_
                clear hK K
                (try simp only [Act.put, List.setIfInBounds_toArray, List.set_cons_zero, List.set_cons_succ])
                -->R21
                go_wp2_with fail
                go_roundw
                case rel => exact ⟨i + 1, S6, _, by go_num, HLT.out, Below.trans (Ext.trans HEr.out HWY.out) HMID.out.1, HGR6.out, HMID.out.2.1, HMID.out.2.2.1, HSS6.out, HMID.out.2.2.2.1, HMID.out.2.2.2.2.2, HMID.out.2.2.2.2.1⟩
                case measure => have := HLT.out; simp [intOf]; omega
              · obtain rfl : NL = i := by omega
                rw [List.take_of_length_le (by rw [HNL.out.1]; exact Nat.le_refl _)] at HLK
                have HB39 := Lib.hid (block_ext HB35.out HEr.out)
                obtain ⟨r0, r1, r2, rf⟩ := walk_block HB39.out
                have f0 := rf 0; have f1 := rf 1; have f2 := rf 2
                obtain ⟨avc, cvc, rfl, -⟩ := ListAt.open HCHo.out.list
                obtain ⟨avl, cvl, rfl, -⟩ := ListAt.open HLK.out.list
                rw [HLEN2.out] at HBK HCHo
                rw [HNL.out.1] at HBK HLK
                obtain ⟨q0, q1, q2, -⟩ := walk_block HBK.out
                obtain ⟨t0, t1, t2, -⟩ := walk_block (walk_store HB39.out (.slice ar 3 cr) (.slice avc NJ cvc) (.slice avl NL cvl))
                clear rf
                go_wp2_with fail
                have HLOW : GrownS (fun k => k < w5.heap.size) wo (((wo.setCell ⟨w.heap.size + 1 + 1, 0, none⟩ (.slice ar 3 cr)).setCell ⟨w.heap.size + 1 + 1, 1, none⟩ (.slice avc NJ cvc)).setCell ⟨w.heap.size + 1 + 1, 2, none⟩ (.slice avl NL cvl)) :=
                  (grownBy_S (grown_setCell _ _ _ _) (fun k hk => by cases hk; exact HLW.out)).trans ((grownBy_S (grown_setCell _ _ _ _) (fun k hk => by cases hk; exact HLW.out)).trans (grownBy_S (grown_setCell _ _ _ _) (fun k hk => by cases hk; exact HLW.out)))
                have HPR : GrownS (fun k => k < wy.heap.size ∨ w5.heap.size ≤ k) w5 (((wo.setCell ⟨w.heap.size + 1 + 1, 0, none⟩ (.slice ar 3 cr)).setCell ⟨w.heap.size + 1 + 1, 1, none⟩ (.slice avc NJ cvc)).setCell ⟨w.heap.size + 1 + 1, 2, none⟩ (.slice avl NL cvl)) :=
                  (HEr.out.grownS _).trans ((grownBy_S (grown_setCell _ _ _ _) (fun k hk => by cases hk; exact .inl HLY.out)).trans ((grownBy_S (grown_setCell _ _ _ _) (fun k hk => by cases hk; exact .inl HLY.out)).trans (grownBy_S (grown_setCell _ _ _ _) (fun k hk => by cases hk; exact .inl HLY.out))))
                have hpo := SafeS.owns (S := fun k => k < wy.heap.size ∨ w5.heap.size ≤ k) HP5.out (fun g hg hs => by have := HP5.out.lt g hg; omega) _ HPR
                refine bodyPost_ret (v := .tuple #[.agg #[.slice ar 3 cr, .slice avc NJ cvc, .slice avl NL cvl], .int .i64 0]) ?_ rfl ⟨_, rfl, ext_walk (HX5.out.trans HEr.out) (by omega) _ _ _, _, _, _, rfl, Ints.of_owns hpo (by show ∀ x ∈ a.primes, _; rw [HFA.out.primes]; decide), HCHo.out.under HLOW, HLK.out.under HLOW⟩
                simp [results, Try.results25, go_sem, t0, t1, t2]
end Go.Proofs.Ytplcikgmefcfbaa
