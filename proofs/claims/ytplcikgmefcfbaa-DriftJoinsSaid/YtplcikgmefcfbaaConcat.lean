/- slices.Concat at chords and lists of links; printed by gen/concat.py. -/
import Derived.Test.YtplcikgmefcfbaaCloneK
import Derived.Lib.AppendZeros
import Derived.Laws.AppendOwnNone
namespace Go.Proofs.Ytplcikgmefcfbaa
set_option linter.unusedVariables false
set_option linter.unusedSimpArgs false
open Go.RowKit

/-- What held of an element in a world w0 and holds in all that come behind it: no world is left in it. -/
def pinR {α : Type} (w0 : World) (R : World → List Value → α → Prop) (_ : World) (u : List Value) (x : α) : Prop := ∀ W, Ext w0 W → R W u x
theorem pinR.mono {α : Type} {w0 : World} {R : World → List Value → α → Prop} : Mono (pinR w0 R) := fun _ _ _ _ _ h => h
theorem pinR.one {α : Type} {w0 : World} {R : World → List Value → α → Prop} (hone : ∀ {w u x}, R w u x → ∀ z ∈ u, z.oneCell' = true) : ∀ {w : World} {u : List Value} {x : α}, pinR w0 R w u x → ∀ z ∈ u, z.oneCell' = true := fun h => hone (h w0 (Ext.refl w0))
theorem ListAt.pin {α : Type} {k : Nat} {R : World → List Value → α → Prop} (hR : Mono R) {w0 w : World} {v : Value} {xs : List α} (h : ListAt k R w0 v xs) (he : Ext w0 w) : ListAt k (pinR w0 R) w v xs := by
  obtain ⟨us, h1, h2, h3, h4⟩ := h
  exact ⟨us, h1, h2, h3.ext he, fun j u x hu hx W hW => hR _ _ _ _ hW (h4 j u x hu hx)⟩
/-- The cells of a slice of one-cell elements in blocks of its own. -/
theorem Build.at {α : Type} {R : World → List Value → α → Prop} {w : World} {base : Nat} {e : TypeId} {v : Value} {xs : List α} (h : Build w base e 1 v R xs) (hx : 0 < xs.length) :
    ∃ g cap, v = .slice (some ⟨g, 0, none⟩) xs.length cap ∧ base ≤ g ∧ g < w.heap.size ∧ xs.length ≤ cap ∧ cap ≤ maxLen ∧ ∀ (j : Nat) x, xs[j]? = some x → ∃ u, R w [u] x ∧ w.cell? ⟨g, j, none⟩ = some u := by
  have hl := h.list
  obtain ⟨us0, -, -, ho, -⟩ := h
  obtain ⟨g, cap, rfl, h1, h2, h3, h4⟩ := owns_shape ho hx
  obtain ⟨a, c, hv, -, -, -, hk⟩ := ListAt.open hl
  cases hv
  obtain ⟨b, off, hb, -, hc⟩ := hk (by decide) (by intro e; simp [e] at hx)
  cases hb
  refine ⟨g, cap, rfl, h1, h2, h3, h4, fun j x hj => ?_⟩
  obtain ⟨u, hu, hr, hcu⟩ := hc j x hj
  match u, hu with
  | [u], _ =>
    refine ⟨u, hr, ?_⟩
    have := hcu 0 (by decide)
    simpa using this
/-- A cell of a block that was not turned. -/
theorem GrownS.cell {S : Nat → Prop} {w w' : World} (h : GrownS S w w') {g i : Nat} {x : Value} (hg : g < w.heap.size) (hS : ¬ S g) (hx : w.cell? ⟨g, i, none⟩ = some x) : w'.cell? ⟨g, i, none⟩ = some x := by
  have := h.block g hg hS
  unfold World.cell? at hx ⊢
  rw [this]; exact hx

/-- 'out = append(out, xs...)', of what lay there. -/
theorem wp_append_manyK {P : Program} {α : Type} {R : World → List Value → α → Prop} (hmo : Mono R) (hone : ∀ {w u x}, R w u x → ∀ z ∈ u, z.oneCell' = true) (w0 w : World) {o : Oper} {a : Act} {K : Act → World → Prop} {Q : Exit → Act → World → Prop}
    (s x : Operand) (t : TypeId) (ho : o.op = Op.call { callee := Callee.builtin Builtin.append, args := #[s, x], argTypes := #[t, t] }) (base : Nat) (e : TypeId) (z : Value) (k bytes : Nat)
    (ht : P.underlying t = some (TypeDesc.slice e)) (hinfo : (P.info? e).map (fun i => (i.zero, i.size, i.bytes)) = some (some z, k, bytes)) (hzs : z.cells.size = k) (hk : 0 < k)
    (v u : Value) (xs ys : List α) (hs : a.eval s = v) (hB : Build w base e k v (freshRk w0 R) xs) (hx : a.eval x = u) (hu : ListAt k R w0 u ys) (he : Ext w0 w) (hb0 : w0.heap.size ≤ base)
    (hlen : xs.length + ys.length < 1000000) (hbytes : bytes ≤ 1000) (hbase : base ≤ w.heap.size)
    (h : ∀ v' w', Build w' base e k v' (freshRk w0 R) (xs ++ ys) → Below base w w' → K (a.put o.dst v') w') :
    o.wp P a w K Q := by
  obtain ⟨i, hi, hz, hsize, hby⟩ := info_parts hinfo
  obtain ⟨us, b1, b2, b3, b4⟩ := hB
  obtain ⟨us2, c1, c2, c3, c4⟩ := hu
  obtain ⟨ad, c, rfl, d1, d2, d3, d4⟩ := c3
  cases ad with
  | none =>
    have h0 : ys = [] := by have := d3 rfl; exact List.eq_nil_of_length_eq_zero (by omega)
    subst h0
    obtain rfl : c = 0 := d3 rfl
    have hrun := run_append_owned_none (P := P) (w := w) base t o.type e i k ht hi v xs.length us.flatten b3
    unfold Oper.wp
    simp only [List.length_nil] at hx
    simp [execOp, ho, resolve, invoke, builtin, hs, hx, hrun, Result.andThen]
    refine h _ _ ?_ ⟨rfl, rfl, rfl, Nat.le_refl _, fun _ _ => rfl⟩
    rw [List.append_nil]
    exact ⟨us, b1, b2, b3, b4⟩
  | some ad =>
    refine wp_append_own_at w s x t ho base e i z k bytes ht hi hz hsize hby hzs hk v xs.length us.flatten hs b3 ad ys.length c us2.flatten hx ?_ ?_ ?_ ?_ ?_ ?_ ?_
    · rw [flat_len us2 c2, c1]
    · intro j q hq
      obtain ⟨b, off, hab, hbw, hcell⟩ := d4 (by intro e; rw [e] at hq; simp at hq)
      cases hab
      rw [show (⟨b, off, none⟩ : Addr).add j = ⟨b, off + j, none⟩ by unfold Addr.add; split <;> simp_all]
      exact he.cell (hcell j q hq)
    · intro q hq
      obtain ⟨l, hl, hul⟩ := List.mem_flatten.1 hq
      obtain ⟨j, hj⟩ := List.getElem?_of_mem hl
      have hjl := (List.getElem?_eq_some_iff.1 hj).1
      exact hone (c4 j l (ys[j]'(by omega)) hj (List.getElem?_eq_getElem _)) q hul
    · unfold maxLen; omega
    · have : (xs.length + ys.length) * bytes ≤ 1000000 * 1000 := Nat.mul_le_mul (by omega) hbytes
      omega
    · exact hbase
    · intro v' w' hown hgrow _ hat
      refine h v' w' ⟨us ++ us2, by simp [b1, c1], ?_, ?_, ?_⟩ ?_
      · intro q hq
        rcases List.mem_append.1 hq with hq | hq
        · exact b2 q hq
        · exact c2 q hq
      · rw [List.flatten_append, List.length_append]; exact hown
      · intro j q y' hq hy
        by_cases hj : j < us.length
        · rw [List.getElem?_append_left hj] at hq
          rw [List.getElem?_append_left (by omega)] at hy
          exact Safe.append (b4 j q y' hq hy) hgrow hat
        · rw [List.getElem?_append_right (by omega)] at hq
          rw [List.getElem?_append_right (by omega)] at hy
          rw [b1] at hq
          exact fun w2 _ h2 => hmo _ _ _ _ h2 (c4 _ q y' hq hy)
      · refine ⟨hgrow.os, hgrow.tape, hgrow.output, hgrow.size, fun b hb => hgrow.block b (by omega) ?_⟩
        intro e
        have := (b3.lt b e.symm).1
        omega
theorem wpList_append_manyK {P : Program} {α : Type} {R : World → List Value → α → Prop} (hmo : Mono R) (hone : ∀ {w u x}, R w u x → ∀ z ∈ u, z.oneCell' = true) (w0 w : World) {ops : Array Oper} {rest : List Oper} {o : Oper} {a : Act} {Q : Exit → Act → World → Prop} (hgd : o.guard = none)
    (s x : Operand) (t : TypeId) (ho : o.op = Op.call { callee := Callee.builtin Builtin.append, args := #[s, x], argTypes := #[t, t] }) (base : Nat) (e : TypeId) (z : Value) (k bytes : Nat)
    (ht : P.underlying t = some (TypeDesc.slice e)) (hinfo : (P.info? e).map (fun i => (i.zero, i.size, i.bytes)) = some (some z, k, bytes)) (hzs : z.cells.size = k) (hk : 0 < k)
    (v u : Value) (xs ys : List α) (hs : a.eval s = v) (hB : Build w base e k v (freshRk w0 R) xs) (hx : a.eval x = u) (hu : ListAt k R w0 u ys) (he : Ext w0 w) (hb0 : w0.heap.size ≤ base)
    (hlen : xs.length + ys.length < 1000000) (hbytes : bytes ≤ 1000) (hbase : base ≤ w.heap.size)
    (h : ∀ v' w', Build w' base e k v' (freshRk w0 R) (xs ++ ys) → Below base w w' → wpList P ops Q rest (a.put o.dst v') w') :
    wpList P ops Q (o :: rest) a w :=
  wpList_plain hgd fun _ hK => wp_append_manyK hmo hone w0 w s x t ho base e z k bytes ht hinfo hzs hk v u xs ys hs hB hx hu he hb0 hlen hbytes hbase fun v' w' a1 a2 => hK _ _ (h v' w' a1 a2)
/-- Nothing in a new block of zeros. -/
theorem grown_none {P : Program} (w : World) (t tn ty e : TypeId) (z : Value) (k bytes : Nat) (kn kn2 : IntKind) (ht : P.underlying t = some (TypeDesc.slice e)) (htn : P.underlying tn = some (.int kn2)) (hinfo : (P.info? e).map (fun i => (i.zero, i.size, i.bytes)) = some (some z, k, bytes)) (hzs : z.cells.size = k) (hk : 0 < k) (hby : bytes ≤ 1000) (n : Nat) (h0 : 0 < n) (hn : n ≤ 1000000) :
    ∃ C w', (Builtin.append_ #[t, tn] ty #[.slice none 0 0, .int kn n]).run P w = .ok (.slice (some ⟨w.heap.size, 0, none⟩) n C) w' ∧ Ext w w' ∧ w'.ownsRow w.heap.size e k (.slice (some ⟨w.heap.size, 0, none⟩) 0 C) 0 [] ∧ n ≤ C ∧ C ≤ 9223372036854775807 := by
  obtain ⟨i, hi, hz, hsize, hbi⟩ := info_parts hinfo
  have h48 : n * i.bytes ≤ 281474976710656 := by
    rw [hbi]
    have := Nat.mul_le_mul hn hby
    omega
  have hr := Lib.run_append_nil_zeros (P := P) w t tn ty e i z kn kn2 ht htn hi hz n h0 (by omega) (by omega) h48
  have hge := grownCap_ge w n 0 e
  have hle := grownCap_le_maxLen w n 0 e (by unfold maxLen; omega)
  unfold maxLen at hle
  refine ⟨_, _, hr, Ext.trans (Ext.drew w) (Ext.alloc _ _), ?_, hge, by omega⟩
  have hsz : (Builtin.zeroCells z.cells n ++ Builtin.zeroCells z.cells (grownCap w n 0 e - n)).size = grownCap w n 0 e * k := by
    rw [Array.size_append, size_zeroCells, size_zeroCells, hzs, ← Nat.add_mul]
    congr 1; omega
  have := World.ownsRow_made (e := e) (size := k) (base := w.heap.size) w.drew (Builtin.zeroCells z.cells n ++ Builtin.zeroCells z.cells (grownCap w n 0 e - n)) (grownCap w n 0 e) (Nat.le_refl _) (by unfold maxLen; omega) hsz
  exact this

set_option maxRecDepth 100000 in
set_option maxHeartbeats 1000000 in
theorem growChords_any (n : Nat) (hn : n ≤ 1000) (w : World) :
    Calls Try.prog 65 #[.slice none 0 0, .int .i64 (n : Int)] w fun e w' => ∃ r, e = .returned r ∧ Ext w w' ∧ w'.ownsRow w.heap.size 31 1 r 0 [] := by
  by_cases h0 : n = 0
  · subst h0
    go_enter Try.func65, Try.ntmps65
    go_wp2_with fail
    go_ret
    exact ⟨_, rfl, Ext.refl _, World.ownsRow_nil _ _ _ _⟩
  · have HG : Hid (∀ (w : World) ty, ∃ C w', (Builtin.append_ #[27, 3] ty #[.slice none 0 0, .int .i64 n]).run Try.prog w = .ok (.slice (some ⟨w.heap.size, 0, none⟩) n C) w' ∧ Ext w w' ∧ w'.ownsRow w.heap.size 31 1 (.slice (some ⟨w.heap.size, 0, none⟩) 0 C) 0 [] ∧ n ≤ C ∧ C ≤ 9223372036854775807) := fun w ty =>
      grown_none w 27 3 ty 31 (.slice none 0 0) 1 24 .i64 .i64 Try.underlying27 Try.underlying3 infoRows rfl (by decide) (by omega) n (by omega) (by omega)
    have q1 : (0 : Int) < (n : Int) := by omega
    have q2 : ¬ (n : Int) < 0 := by omega
    clear h0
    go_enter Try.func65, Try.ntmps65
    obtain ⟨C, w1, hr, hE, hO, hC1, hC2⟩ := HG.out w 27
    have HR := Lib.hid hr; have HE := Lib.hid hE; have HO := Lib.hid hO
    clear hr hE hO HG
    go_wp2_with (at_builtin; refine Lib.wpList_append_run _ rfl _ _ _ _ rfl _ _ rfl rfl _ _ HR.out ?_)
    go_wp2_with fail
    go_ret
    exact ⟨_, rfl, HE.out, HO.out⟩
set_option maxRecDepth 100000 in
set_option maxHeartbeats 2000000 in
theorem concatChords_pin {R : World → List Value → List (List Int) → Prop} (hmo : Mono R) (hone : ∀ {w u x}, R w u x → ∀ z ∈ u, z.oneCell' = true) (xs ys : List (List (List Int))) (b cb : Nat) (u v : Value) (w : World) (hu : ListAt 1 R w u xs) (hv : ListAt 1 R w v ys) (h0 : w.cell? ⟨b, 0, none⟩ = some u) (h1 : w.cell? ⟨b, 1, none⟩ = some v) (hx : xs.length ≤ 400) (hy : ys.length ≤ 400) :
    Calls Try.prog 52 #[.slice (some ⟨b, 0, none⟩) 2 2] w fun e w' => ∃ r, e = .returned r ∧ Ext w w' ∧ Build w' w.heap.size 31 1 r (freshRk w R) (xs ++ ys) := by
  have HU := Lib.hid hu; have HV := Lib.hid hv
  obtain ⟨au, cu, rfl, u1, u2, -, -⟩ := ListAt.open hu
  obtain ⟨av, cv, rfl, v1, v2, -, -⟩ := ListAt.open hv
  have HG : Hid (∀ n : Nat, n ≤ 1000 → Calls Try.prog 65 #[.slice none 0 0, .int .i64 (n : Int)] w fun e w' => ∃ r, e = .returned r ∧ Ext w w' ∧ w'.ownsRow w.heap.size 31 1 r 0 []) := fun n hn => growChords_any n hn w
  obtain ⟨m, hm⟩ : ∃ m, m = xs.length := ⟨_, rfl⟩
  obtain ⟨n, hn⟩ : ∃ n, n = ys.length := ⟨_, rfl⟩
  rw [← hm] at HU u1 h0 hx
  rw [← hn] at HV v1 h1 hy
  have HM := Lib.hid hm; have HN := Lib.hid hn
  unfold maxLen at u2 v2
  clear hu hv hm hn
  have HG0 := Lib.hid h0; have HG1 := Lib.hid h1
  go_enter Try.func52, Try.ntmps52
  go_wp2_with fail
  go_loopw [11, 3] (fun t z wr => w = wr ∧ ((t = .int .i64 0 ∧ z = .int .i64 0) ∨ (t = .int .i64 1 ∧ z = .int .i64 (m : Int)) ∨ (t = .int .i64 2 ∧ z = .int .i64 ((m + n : Nat) : Int)))) (fun t _ _ => 2 - (intOf t).toNat)
  case atStart => exact ⟨by first | rfl | trivial, .inl ⟨rfl, rfl⟩⟩
  case round =>
    obtain ⟨hw, hrel⟩ := hrel
    subst hw
    rcases hrel with ⟨rfl, rfl⟩ | ⟨rfl, rfl⟩ | ⟨rfl, rfl⟩
    · have q : ¬ ((m : Int) < 0) := by omega
      go_wp2_with fail
      go_roundw
      case rel => exact ⟨by first | rfl | trivial, .inr (.inl ⟨rfl, by first | rfl | go_num⟩)⟩
      case measure => simp [intOf]
    · have q : ¬ (((m : Int) + (n : Int)) < 0) := by omega
      go_wp2_with fail
      go_roundw
      case rel => exact ⟨by first | rfl | trivial, .inr (.inr ⟨rfl, by go_num⟩)⟩
      case measure => simp [intOf]
    · go_wp2_with fail
      refine (HG.out (m + n) (by omega)).mono ?_
      rintro e w1 ⟨r, rfl, hE1, hO1⟩
      have HE1 := Lib.hid hE1
      have HB1 : Hid (Build w1 w.heap.size 31 1 r (freshRk w R) []) := ⟨[], rfl, by simp, by simpa using hO1, by simp⟩
      clear hE1 hO1 HG
      have HM1 := Lib.hid hx; have HN1 := Lib.hid hy
      go_wp2_with fail
      go_loopw [27, 6] (fun t acc wr => ∃ (i : Nat) (zs : List (List (List Int))), t = .int .i64 i ∧ Hid (Ext w wr) ∧ Hid (Build wr w.heap.size 31 1 acc (freshRk w R) zs) ∧ ((i = 0 ∧ zs = []) ∨ (i = 1 ∧ zs = xs) ∨ (i = 2 ∧ zs = xs ++ ys))) (fun t _ _ => 2 - (intOf t).toNat)
      case atStart => exact ⟨0, [], rfl, HE1.out, HB1.out, .inl ⟨rfl, rfl⟩⟩
      case round =>
        obtain ⟨i, zs, rfl, HE, HB, hcase⟩ := hrel
        obtain ⟨wo, rfl⟩ : ∃ wo : World, wo = wr := ⟨_, rfl⟩
        have g0 := HE.out.cell HG0.out
        have g1 := HE.out.cell HG1.out
        have HSZ : Hid (w.heap.size ≤ wo.heap.size) := HE.out.size
        rcases hcase with ⟨rfl, rfl⟩ | ⟨rfl, rfl⟩ | ⟨rfl, rfl⟩
        · go_wp2_with (at_builtin; go_must (refine wpList_append_manyK hmo (@hone) w wo rfl _ _ 27 rfl w.heap.size 31 (.slice none 0 0) 1 24 Try.underlying27 infoRows rfl (by decide) u6 (.slice au m cu) [] xs rfl HB.out rfl HU.out HE.out (Nat.le_refl _) ?l1 (by decide) HSZ.out ?_))
          case l1 => have := HM1.out; have := HM.out; simp; omega
          intro v' w6 hB6 hb6
          have HB6 := Lib.hid hB6
          have HX6 : Hid (Ext w w6) := Below.trans HE.out hb6
          clear hB6 hb6
          go_wp2_with fail
          go_roundw
          case rel => exact ⟨1, xs, rfl, HX6.out, HB6.out, .inr (.inl ⟨rfl, rfl⟩)⟩
          case measure => simp [intOf]
        · go_wp2_with (at_builtin; go_must (refine wpList_append_manyK hmo (@hone) w wo rfl _ _ 27 rfl w.heap.size 31 (.slice none 0 0) 1 24 Try.underlying27 infoRows rfl (by decide) u6 (.slice av n cv) zs ys rfl HB.out rfl HV.out HE.out (Nat.le_refl _) ?l1 (by decide) HSZ.out ?_))
          case l1 => have := HM1.out; have := HN1.out; have := HM.out; have := HN.out; omega
          intro v' w6 hB6 hb6
          have HB6 := Lib.hid hB6
          have HX6 : Hid (Ext w w6) := Below.trans HE.out hb6
          clear hB6 hb6
          go_wp2_with fail
          go_roundw
          case rel => exact ⟨2, zs ++ ys, rfl, HX6.out, HB6.out, .inr (.inr ⟨rfl, rfl⟩)⟩
          case measure => simp [intOf]
        · go_wp2_with fail
          go_ret
          exact ⟨_, rfl, HE.out, HB.out⟩
theorem concatChords_any (xs ys : List (List (List Int))) (b cb : Nat) (u v : Value) (w : World) (hu : ListAt 1 chordR w u xs) (hv : ListAt 1 chordR w v ys) (h0 : w.cell? ⟨b, 0, none⟩ = some u) (h1 : w.cell? ⟨b, 1, none⟩ = some v) (hx : xs.length ≤ 400) (hy : ys.length ≤ 400) :
    Calls Try.prog 52 #[.slice (some ⟨b, 0, none⟩) 2 2] w fun e w' => ∃ r, e = .returned r ∧ Ext w w' ∧ Build w' w.heap.size 31 1 r (freshRk w chordR) (xs ++ ys) := concatChords_pin chordR.mono (inCell_one ListAt.oneSlice) xs ys b cb u v w hu hv h0 h1 hx hy

set_option maxRecDepth 100000 in
set_option maxHeartbeats 1000000 in
theorem growLinks2_any (n : Nat) (hn : n ≤ 1000) (w : World) :
    Calls Try.prog 66 #[.slice none 0 0, .int .i64 (n : Int)] w fun e w' => ∃ r, e = .returned r ∧ Ext w w' ∧ w'.ownsRow w.heap.size 34 1 r 0 [] := by
  by_cases h0 : n = 0
  · subst h0
    go_enter Try.func66, Try.ntmps66
    go_wp2_with fail
    go_ret
    exact ⟨_, rfl, Ext.refl _, World.ownsRow_nil _ _ _ _⟩
  · have HG : Hid (∀ (w : World) ty, ∃ C w', (Builtin.append_ #[28, 3] ty #[.slice none 0 0, .int .i64 n]).run Try.prog w = .ok (.slice (some ⟨w.heap.size, 0, none⟩) n C) w' ∧ Ext w w' ∧ w'.ownsRow w.heap.size 34 1 (.slice (some ⟨w.heap.size, 0, none⟩) 0 C) 0 [] ∧ n ≤ C ∧ C ≤ 9223372036854775807) := fun w ty =>
      grown_none w 28 3 ty 34 (.slice none 0 0) 1 24 .i64 .i64 Try.underlying28 Try.underlying3 infoLinks rfl (by decide) (by omega) n (by omega) (by omega)
    have q1 : (0 : Int) < (n : Int) := by omega
    have q2 : ¬ (n : Int) < 0 := by omega
    clear h0
    go_enter Try.func66, Try.ntmps66
    obtain ⟨C, w1, hr, hE, hO, hC1, hC2⟩ := HG.out w 28
    have HR := Lib.hid hr; have HE := Lib.hid hE; have HO := Lib.hid hO
    clear hr hE hO HG
    go_wp2_with (at_builtin; refine Lib.wpList_append_run _ rfl _ _ _ _ rfl _ _ rfl rfl _ _ HR.out ?_)
    go_wp2_with fail
    go_ret
    exact ⟨_, rfl, HE.out, HO.out⟩
set_option maxRecDepth 100000 in
set_option maxHeartbeats 2000000 in
theorem concatLinks2_pin {R : World → List Value → List (Int × Int) → Prop} (hmo : Mono R) (hone : ∀ {w u x}, R w u x → ∀ z ∈ u, z.oneCell' = true) (xs ys : List (List (Int × Int))) (b cb : Nat) (u v : Value) (w : World) (hu : ListAt 1 R w u xs) (hv : ListAt 1 R w v ys) (h0 : w.cell? ⟨b, 0, none⟩ = some u) (h1 : w.cell? ⟨b, 1, none⟩ = some v) (hx : xs.length ≤ 400) (hy : ys.length ≤ 400) :
    Calls Try.prog 53 #[.slice (some ⟨b, 0, none⟩) 2 2] w fun e w' => ∃ r, e = .returned r ∧ Ext w w' ∧ Build w' w.heap.size 34 1 r (freshRk w R) (xs ++ ys) := by
  have HU := Lib.hid hu; have HV := Lib.hid hv
  obtain ⟨au, cu, rfl, u1, u2, -, -⟩ := ListAt.open hu
  obtain ⟨av, cv, rfl, v1, v2, -, -⟩ := ListAt.open hv
  have HG : Hid (∀ n : Nat, n ≤ 1000 → Calls Try.prog 66 #[.slice none 0 0, .int .i64 (n : Int)] w fun e w' => ∃ r, e = .returned r ∧ Ext w w' ∧ w'.ownsRow w.heap.size 34 1 r 0 []) := fun n hn => growLinks2_any n hn w
  obtain ⟨m, hm⟩ : ∃ m, m = xs.length := ⟨_, rfl⟩
  obtain ⟨n, hn⟩ : ∃ n, n = ys.length := ⟨_, rfl⟩
  rw [← hm] at HU u1 h0 hx
  rw [← hn] at HV v1 h1 hy
  have HM := Lib.hid hm; have HN := Lib.hid hn
  unfold maxLen at u2 v2
  clear hu hv hm hn
  have HG0 := Lib.hid h0; have HG1 := Lib.hid h1
  go_enter Try.func53, Try.ntmps53
  go_wp2_with fail
  go_loopw [11, 3] (fun t z wr => w = wr ∧ ((t = .int .i64 0 ∧ z = .int .i64 0) ∨ (t = .int .i64 1 ∧ z = .int .i64 (m : Int)) ∨ (t = .int .i64 2 ∧ z = .int .i64 ((m + n : Nat) : Int)))) (fun t _ _ => 2 - (intOf t).toNat)
  case atStart => exact ⟨by first | rfl | trivial, .inl ⟨rfl, rfl⟩⟩
  case round =>
    obtain ⟨hw, hrel⟩ := hrel
    subst hw
    rcases hrel with ⟨rfl, rfl⟩ | ⟨rfl, rfl⟩ | ⟨rfl, rfl⟩
    · have q : ¬ ((m : Int) < 0) := by omega
      go_wp2_with fail
      go_roundw
      case rel => exact ⟨by first | rfl | trivial, .inr (.inl ⟨rfl, by first | rfl | go_num⟩)⟩
      case measure => simp [intOf]
    · have q : ¬ (((m : Int) + (n : Int)) < 0) := by omega
      go_wp2_with fail
      go_roundw
      case rel => exact ⟨by first | rfl | trivial, .inr (.inr ⟨rfl, by go_num⟩)⟩
      case measure => simp [intOf]
    · go_wp2_with fail
      refine (HG.out (m + n) (by omega)).mono ?_
      rintro e w1 ⟨r, rfl, hE1, hO1⟩
      have HE1 := Lib.hid hE1
      have HB1 : Hid (Build w1 w.heap.size 34 1 r (freshRk w R) []) := ⟨[], rfl, by simp, by simpa using hO1, by simp⟩
      clear hE1 hO1 HG
      have HM1 := Lib.hid hx; have HN1 := Lib.hid hy
      go_wp2_with fail
      go_loopw [27, 6] (fun t acc wr => ∃ (i : Nat) (zs : List (List (Int × Int))), t = .int .i64 i ∧ Hid (Ext w wr) ∧ Hid (Build wr w.heap.size 34 1 acc (freshRk w R) zs) ∧ ((i = 0 ∧ zs = []) ∨ (i = 1 ∧ zs = xs) ∨ (i = 2 ∧ zs = xs ++ ys))) (fun t _ _ => 2 - (intOf t).toNat)
      case atStart => exact ⟨0, [], rfl, HE1.out, HB1.out, .inl ⟨rfl, rfl⟩⟩
      case round =>
        obtain ⟨i, zs, rfl, HE, HB, hcase⟩ := hrel
        obtain ⟨wo, rfl⟩ : ∃ wo : World, wo = wr := ⟨_, rfl⟩
        have g0 := HE.out.cell HG0.out
        have g1 := HE.out.cell HG1.out
        have HSZ : Hid (w.heap.size ≤ wo.heap.size) := HE.out.size
        rcases hcase with ⟨rfl, rfl⟩ | ⟨rfl, rfl⟩ | ⟨rfl, rfl⟩
        · go_wp2_with (at_builtin; go_must (refine wpList_append_manyK hmo (@hone) w wo rfl _ _ 28 rfl w.heap.size 34 (.slice none 0 0) 1 24 Try.underlying28 infoLinks rfl (by decide) u6 (.slice au m cu) [] xs rfl HB.out rfl HU.out HE.out (Nat.le_refl _) ?l1 (by decide) HSZ.out ?_))
          case l1 => have := HM1.out; have := HM.out; simp; omega
          intro v' w6 hB6 hb6
          have HB6 := Lib.hid hB6
          have HX6 : Hid (Ext w w6) := Below.trans HE.out hb6
          clear hB6 hb6
          go_wp2_with fail
          go_roundw
          case rel => exact ⟨1, xs, rfl, HX6.out, HB6.out, .inr (.inl ⟨rfl, rfl⟩)⟩
          case measure => simp [intOf]
        · go_wp2_with (at_builtin; go_must (refine wpList_append_manyK hmo (@hone) w wo rfl _ _ 28 rfl w.heap.size 34 (.slice none 0 0) 1 24 Try.underlying28 infoLinks rfl (by decide) u6 (.slice av n cv) zs ys rfl HB.out rfl HV.out HE.out (Nat.le_refl _) ?l1 (by decide) HSZ.out ?_))
          case l1 => have := HM1.out; have := HN1.out; have := HM.out; have := HN.out; omega
          intro v' w6 hB6 hb6
          have HB6 := Lib.hid hB6
          have HX6 : Hid (Ext w w6) := Below.trans HE.out hb6
          clear hB6 hb6
          go_wp2_with fail
          go_roundw
          case rel => exact ⟨2, zs ++ ys, rfl, HX6.out, HB6.out, .inr (.inr ⟨rfl, rfl⟩)⟩
          case measure => simp [intOf]
        · go_wp2_with fail
          go_ret
          exact ⟨_, rfl, HE.out, HB.out⟩
theorem concatLinks2_any (xs ys : List (List (Int × Int))) (b cb : Nat) (u v : Value) (w : World) (hu : ListAt 1 linksR w u xs) (hv : ListAt 1 linksR w v ys) (h0 : w.cell? ⟨b, 0, none⟩ = some u) (h1 : w.cell? ⟨b, 1, none⟩ = some v) (hx : xs.length ≤ 400) (hy : ys.length ≤ 400) :
    Calls Try.prog 53 #[.slice (some ⟨b, 0, none⟩) 2 2] w fun e w' => ∃ r, e = .returned r ∧ Ext w w' ∧ Build w' w.heap.size 34 1 r (freshRk w linksR) (xs ++ ys) := concatLinks2_pin linksR.mono (inCell_one ListAt.oneSlice) xs ys b cb u v w hu hv h0 h1 hx hy
end Go.Proofs.Ytplcikgmefcfbaa
