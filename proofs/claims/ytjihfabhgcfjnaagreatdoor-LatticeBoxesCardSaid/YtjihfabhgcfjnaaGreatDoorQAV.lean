/- Merged: LatRed. -/
import Derived.Test.YtjihfabhgcfjnaaGreatDoorQAU
/- Contracts of package lattice: pivots, reduce. -/
namespace Go.Proofs.YtjihfabhgcfjnaaGreatDoor
set_option linter.unusedVariables false
set_option linter.unusedSimpArgs false
open Go.RowKit Go.Shelf
attribute [local go_sem] Oper.semAt_some

theorem wp_append_big {o : Oper} {a : Act} {K : Act → World → Prop} {Q : Exit → Act → World → Prop} (F : World) (s x : Operand) (ho : o.op = Op.call { callee := Callee.builtin Builtin.append, args := #[s, x], argTypes := #[159, 159] }) (B : Nat)
    (vo : Value) (L : List Int) (y : Int) (u : Array Value) (T : TypeId) (hs : a.eval s = vo) (hB : F.ownsRow B 125 1 vo L.length (bigV L)) (hx : a.eval x = .slice (some ⟨F.heap.size, 0, none⟩) 1 1) (hu : u = #[.string (intB y)]) (hlen : L.length < 8000000) (hbase : B ≤ F.heap.size)
    (h : ∀ v' w', w'.ownsRow B 125 1 v' (L.length + 1) (bigV L ++ [.string (intB y)]) → (F.alloc (.cells u T)).grownBy w' vo.ownBlock → (v'.ownBlock = vo.ownBlock ∨ v'.ownBlock = some (F.alloc (.cells u T)).heap.size) → K (a.put o.dst v') w') : o.wp Tryz.prog a (F.alloc (.cells u T)) K Q := by
  subst hu
  obtain ⟨i0, hi, hz, hsize, hby⟩ := info_parts infoBig
  have hadd : ∀ j, (⟨F.heap.size, 0, none⟩ : Addr).add j = ⟨F.heap.size, j, none⟩ := by intro j; unfold Addr.add; split <;> simp_all
  refine wp_append_own_at (F.alloc (.cells #[.string (intB y)] T)) s x _ ho B 125 i0 (.string ⟨#[]⟩) 1 16 Tryz.underlying159 hi hz hsize hby rfl (by decide) vo L.length (bigV L) hs (hB.alloc _) ⟨F.heap.size, 0, none⟩ 1 1 [.string (intB y)] hx rfl ?_ ?_ ?_ ?_ ?_ ?_
  · intro j q hq
    rw [hadd, World.cell?_alloc_new]
    simpa using hq
  · intro u hu
    rw [List.mem_singleton.1 hu]; rfl
  · unfold maxLen; omega
  · omega
  · simp; omega
  · intro v' w' hown hgrow _ hat
    exact h v' w' hown hgrow hat
/-- The iterator handed over. -/
theorem pivots_any (n : Int) (xss : List (List Int)) (u : Value) (w : World) (hu : Rows2 w u xss) :
    Calls Tryz.prog 93 #[.agg #[.int .i64 n, u]] w fun e w' => ∃ bL, e = .returned (.func (.func 138) #[] #[.pointer (some ⟨bL, 0, none⟩)]) ∧ w'.heap[bL]? = some (.cells #[.int .i64 n, u] 31 (0, 0)) ∧ Ext w w' := by
  obtain ⟨a, c, rfl, h1, h2, -, hc⟩ := inCell.open hu
  clear hu hc
  go_enter Tryz.func93, Tryz.ntmps93
  go_wp2_with fail
  go_ret
  exact ⟨w.heap.size, rfl, block_new _ _ _, Ext.alloc _ _⟩

theorem results_cells2 {P : Program} {fn : Func} {p q : Tmp} {ty : TypeId} (h : fn.results = #[.cell p ty, .cell q ty]) (tmps : Array Value) (w : World) (g k : Nat) (x y : Value)
    (hp : tmps.getD p undef = .pointer (some ⟨g, 0, none⟩)) (hq : tmps.getD q undef = .pointer (some ⟨k, 0, none⟩)) (hl : ∀ g x, w.cell? ⟨g, 0, none⟩ = some x → (loadVar ty ⟨g, 0, none⟩).run P w = .ok x w) (hg : w.cell? ⟨g, 0, none⟩ = some x) (hk : w.cell? ⟨k, 0, none⟩ = some y) :
    (results fn tmps).run P w = .ok (.tuple #[x, y]) w := by
  have hp' : tmps[p]?.getD undef = .pointer (some ⟨g, 0, none⟩) := by simpa using hp
  have hq' : tmps[q]?.getD undef = .pointer (some ⟨k, 0, none⟩) := by simpa using hq
  simp [results, h, hp', hq', asAddr, hl _ _ hg, hl _ _ hk, Sem.run_bind, Result.andThen]

set_option maxRecDepth 100000 in
set_option maxHeartbeats 4000000 in
theorem reduce_any (n : Int) (xss : List (List Int)) (r R M : List Int) (v vx : Value) (w : World) (h : LatV w v n xss) (hx : Ints w vx r) (hl : r.length ≤ 1000) (hxl : xss.length ≤ 1000) (hlen : ∀ x ∈ xss, x.length = r.length) (hR : redO xss r xss.length = some (R, M)) (ht : Pow10 w) (hb : 2 < w.heap.size) :
    Calls Tryz.prog 99 #[v, vx] w fun e w' => ∃ gr cr vm, e = .returned (.tuple #[.slice (some ⟨gr, 0, none⟩) R.length cr, vm]) ∧ RowB w' gr 0 R ∧ (R.length ≤ cr ∧ cr ≤ maxLen) ∧ w'.ownsRow w.heap.size 125 1 vm M.length (bigV M) ∧ Ext w w' := by
  have HLO := Lib.hid (fun W (hW : Ext w W) => longOf_any r vx W (hx.ext hW) hl (ht.ext hW))
  have HLEN := Lib.hid hlen; have HT := Lib.hid ht; have HB := Lib.hid hb; have HR := Lib.hid hR; have HL := Lib.hid hl
  obtain ⟨u, rfl, hu⟩ := h
  have HPV := Lib.hid (fun W (hW : Ext w W) => pivots_any n xss u W (hu.ext hW))
  have HU := Lib.hid hu
  obtain ⟨a, c, rfl, h1, h2, -, hc⟩ := inCell.open hu
  obtain ⟨ax, cx, rfl, x1, x2, -, -, -⟩ := hx.open
  clear hu hc hx hlen ht hb hR hl
  refine (callsIn_wide (n := 9)).1 ?_
  refine callsIn_of_wp_marks Tryz.func99 rfl trivial ?_ rfl
  simp only [Tryz.ntmps99, List.size_toArray, List.length_cons, List.length_nil, Nat.reduceAdd, Nat.reduceSub, Array.replicate_succ, Array.replicate_zero, List.push_toArray, List.append_toArray, List.nil_append, List.cons_append]
  obtain ⟨W1, hW1, hE1, hs1, hb1⟩ := lat_new w (.int .i64 n) (.slice a xss.length c)
  obtain ⟨W2, hW2⟩ : ∃ W2, W1.alloc (.cells #[.slice none 0 0] 159) = W2 := ⟨_, rfl⟩
  obtain ⟨W3, hW3⟩ : ∃ W3, W2.alloc (.cells #[.slice none 0 0] 159) = W3 := ⟨_, rfl⟩
  have hE2 : Ext W1 W2 := by rw [← hW2]; exact Ext.alloc _ _
  have hE3 : Ext W2 W3 := by rw [← hW3]; exact Ext.alloc _ _
  have hb2 : W2.heap[W1.heap.size]? = some (.cells #[.slice none 0 0] 159 (0, 0)) := by rw [← hW2]; exact block_new _ _ _
  have hb3 : W3.heap[W2.heap.size]? = some (.cells #[.slice none 0 0] 159 (0, 0)) := by rw [← hW3]; exact block_new _ _ _
  have hs2 : W2.heap.size = W1.heap.size + 1 := by rw [← hW2]; simp
  have hs3 : W3.heap.size = W2.heap.size + 1 := by rw [← hW3]; simp
  have z1 : W1.heap.size = w.heap.size + 1 := hs1
  have z2 : W2.heap.size = w.heap.size + 1 + 1 := by omega
  have z3 : W3.heap.size = w.heap.size + 1 + 1 + 1 := by omega
  have HK1 := Lib.hid (block_ext (block_ext hb1 hE2) hE3)
  have HK2 : Hid (W3.heap[w.heap.size + 1]? = some (.cells #[.slice none 0 0] 159 (0, 0))) := by have := block_ext hb2 hE3; rw [z1] at this; exact this
  have HK3 : Hid (W3.heap[w.heap.size + 1 + 1]? = some (.cells #[.slice none 0 0] 159 (0, 0))) := by rw [z2] at hb3; exact hb3
  have HE3 := Lib.hid (hE1.trans (hE2.trans hE3))
  clear hE1 hE2 hE3 hb1 hb2 hb3 hs1 hs2 hs3
  refine wpIn_wide.2 ?_
  go_wp2_with fail
  refine (HLO.out _ HE3.out).mono ?_
  rintro e w4 ⟨g4, c4, rfl, hR4, hg4, hc4, hm4, hE4⟩
  have HE4 := Lib.hid (HE3.out.trans hE4)
  have hk1 := block_ext HK1.out hE4; have hk2 := block_ext HK2.out hE4; have hk3 := block_ext HK3.out hE4
  have n1 : w.heap.size + 1 + 1 + 1 ≤ g4 := by omega
  have HX5 : Hid (Ext w (w4.setCell ⟨w.heap.size + 1, 0, none⟩ (.slice (some ⟨g4, 0, none⟩) r.length c4))) := Below.setCell HE4.out (show w.heap.size ≤ w.heap.size + 1 by omega) _
  have hb4 := block_set hk2 0 (.slice (some ⟨g4, 0, none⟩) r.length c4)
  have gs := grown_setCell w4 (w.heap.size + 1) 0 (.slice (some ⟨g4, 0, none⟩) r.length c4)
  have HB4 : Hid ((w4.setCell ⟨w.heap.size + 1, 0, none⟩ (.slice (some ⟨g4, 0, none⟩) r.length c4)).heap[w.heap.size + 1]? = some (.cells #[.slice (some ⟨g4, 0, none⟩) r.length c4] 159 (0, 0))) := by unfold Hid; simpa using hb4
  have HB1 := Lib.hid (block_grown hk1 gs (fun e => by have := Option.some.inj e; omega))
  have HB5 := Lib.hid (block_grown hk3 gs (fun e => by have := Option.some.inj e; omega))
  have HR5 := Lib.hid (hR4.other (w.heap.size + 1) 0 (.slice (some ⟨g4, 0, none⟩) r.length c4) (by omega))
  have k0 := block_cell hk2 0; have k1 := block_free hk2 0
  simp only [List.getElem?_toArray, List.getElem?_cons_zero, List.getElem?_cons_succ] at k0
  have HG4 := Lib.hid (And.intro n1 (And.intro hc4 hm4))
  have hlt4 : g4 < w4.heap.size := hR4.lt
  have HLT4 := Lib.hid hlt4
  unfold maxLen at hm4
  clear hE4 hR4 hg4 hk1 hk2 hk3 hb4 gs n1 hlt4 HLO
  obtain ⟨e10, e11, -⟩ := lat_block HB1.out
  have hsz5 : (w4.setCell ⟨w.heap.size + 1, 0, none⟩ (.slice (some ⟨g4, 0, none⟩) r.length c4)).heap.size = w4.heap.size := by simp [World.setCell]
  have HSZ5 := Lib.hid hsz5
  clear hsz5
  go_wp2_with fail
  refine (HPV.out _ HX5.out).mono ?_
  rintro e w6 ⟨bL, rfl, hL6, hE6⟩
  have HE6 := Lib.hid (HX5.out.trans hE6)
  have HRI : Hid (RedI w w6 w6.heap.size (w.heap.size + 1) (w.heap.size + 1 + 1) g4 c4 r []) := by
    have hs := hE6.size
    rw [HSZ5.out] at hs
    have h1 := HG4.out.1
    have h2 := HLT4.out
    exact ⟨HE6.out, block_ext HB4.out hE6, HR5.out.ext hE6, ⟨_, block_ext HB5.out hE6, World.ownsRow_nil _ _ _ _, by simp [Value.ownBlock]⟩, ⟨by omega, by omega, by omega⟩, ⟨by omega, by omega, by omega⟩, ⟨by omega, by omega, by omega⟩⟩
  have HL6 := Lib.hid hL6
  have HW6 : Hid (w.heap.size ≤ w6.heap.size) := HE6.out.size
  clear hE6 hL6 e10 e11 HB1 HB4 HB5 HR5 HX5 HK1 HK2 HK3 hW1 hW2 hW3 z1 z2 z3 k0 k1
  go_wp2_with fail
  refine (wpIn_wide (n := 9)).1 ?_
  refine wpIn_rangeMakes rfl (by omega) (gf := 138) (lb := #[.pointer (some ⟨bL, 0, none⟩)]) rfl trivial (enters_of Tryz.func138 (by kernel_rfl) rfl)
    (pivots1_in (9 - 1) (by omega) n xss _ bL w w6 HL6.out HU.out (fun x hx => by rw [HLEN.out x hx]; exact HL.out) HT.out) (fun W h => h)
    (fun i A W args hY => by obtain ⟨x, gx, cx, -, rfl, -⟩ := hY; rfl)
    (fun i W => ∃ s m, redO xss r i = some (s, m) ∧ RedI w W w6.heap.size (w.heap.size + 1) (w.heap.size + 1 + 1) g4 c4 s m) (RedI.ab HW6.out xss r) (fun i A hi => by obtain ⟨s, m, -, h⟩ := hi; exact h.old) ⟨r, [], rfl, HRI.out⟩ ?rounds ?done
  case rounds =>
    rintro i A W args hi ⟨s, m, hred, hRI⟩ hE ⟨x, gx, cq, hx, rfl, hRx, hgx, hcx1, hcx2⟩ ⟨r0, hr0⟩
    have hx' : rowE_ xss i = x := rowE_of hx
    obtain ⟨⟨z1, z2⟩, hz⟩ := redO_some HR.out (i + 1) (by omega)
    obtain ⟨s', m', e1, a1, a2, a3, a4, a5, a6⟩ := redO_step hz
    rw [hred] at e1
    simp only [Option.some.injEq, Prod.mk.injEq] at e1
    obtain ⟨rfl, rfl⟩ := e1
    rw [hx'] at a1 a2 a4 a5 a6
    obtain ⟨b1, b2, b3⟩ := leadL_lt x a1
    simp only at a5 a6
    have hsl := (redO_len hred).1
    have hml := (redO_len hred).2
    have hil : i < xss.length := hi
    obtain ⟨C, hC⟩ : ∃ C, pivC x = C := ⟨_, rfl⟩
    rw [hC] at a2 b1 b2 b3
    unfold mulQ at a5 a6
    rw [hC] at a5 a6
    obtain ⟨sc, hsc⟩ : ∃ sc, s.getD C 0 = sc := ⟨_, rfl⟩
    obtain ⟨xc, hxc⟩ : ∃ xc, x.getD C 0 = xc := ⟨_, rfl⟩
    have hsg : s[C]? = some sc := by rw [← hsc, List.getD_eq_getElem?_getD, List.getElem?_eq_getElem a2]; rfl
    have hxg : x[C]? = some xc := by rw [← hxc, List.getD_eq_getElem?_getD, List.getElem?_eq_getElem b1]; rfl
    rw [hsc, hxc] at a5 a6
    rw [hxc] at b3
    have HDM := Lib.hid (fun V (hV : Ext w V) => divModZ sc xc V (sm_of (List.all_eq_true.1 a3 _ (List.mem_of_getElem? hsg))) (sm_of (List.all_eq_true.1 a4 _ (List.mem_of_getElem? hxg))) b3 (HT.out.ext hV))
    obtain ⟨q, hq⟩ : ∃ q, fdq sc xc = q := ⟨_, rfl⟩
    rw [hq] at a5 a6 HDM
    have HA5 := Lib.hid a5; have HA6 := Lib.hid a6; have HZ := Lib.hid hz; have HML := Lib.hid hml; have HSL := Lib.hid hsl
    have HGX : Hid (gx ≠ w6.heap.size + 1) := fun e => by
      have h1 := hRx.cell C xc hxg
      rw [Nat.zero_add] at h1
      rw [e] at h1
      unfold World.cell? at h1
      rw [hr0] at h1
      simp at h1
    have HRI1 := Lib.hid (hRI.ext HW6.out hE)
    have HRX := Lib.hid hRx; have HGX2 : Hid (g4 ≠ gx) := fun e => by have := hRI.row.lt; omega
    have HCX := Lib.hid (And.intro hcx1 hcx2)
    rw [b2]
    unfold maxLen at hcx2
    have HSG := Lib.hid hsg; have HXG := Lib.hid hxg
    clear hred hRI hE hx hx' hRx hgx hr0 hz a1 a3 a4 a5 a6 b2 b3 hC hsc hxc hq hsg hxg hsl hml hi
    gi_wp2_with fail
    refine ⟨KeepsFrom.refl _ _, ?_⟩
    rintro Wb hgb ⟨r1, hr1⟩ ⟨r2, hr2⟩
    have hRb := HRI1.out.grown HW6.out hgb (fun r e => by cases e; exact ⟨by omega, _, hr1, rfl⟩)
    have hXb := HRX.out.same hgb.size (hgb.block gx HRX.out.lt (fun e => HGX.out (Option.some.inj e)))
    have HRB := Lib.hid hRb; have HXB := Lib.hid hXb
    have t0 := block_cell hRb.h4 0
    have t1 := hRb.row.cell C sc HSG.out
    have t2 := hXb.cell C xc HXG.out
    rw [Nat.zero_add] at t1 t2
    simp only [List.getElem?_toArray, List.getElem?_cons_zero, List.getElem?_cons_succ] at t0
    have HXW : Hid (Ext w Wb) := hRb.old
    have q1 : (C : Int) < (s.length : Int) := by omega
    have q2 : (C : Int) < (x.length : Int) := by omega
    obtain ⟨NS, hNS⟩ : ∃ NS, s.length = NS := ⟨_, rfl⟩
    obtain ⟨NX, hNX⟩ : ∃ NX, x.length = NX := ⟨_, rfl⟩
    rw [hNS] at t0 q1
    rw [hNX] at q2 ⊢
    have HNS := Lib.hid hNS; have HNX := Lib.hid hNX
    rw [hNS] at a2
    rw [hNX] at b1
    clear hRb hXb hgb hr1 hr2 HRI1 HRX HGX hNS hNX hcx1
    gi_wp2_with fail
    --<R5
    refine regionIn_anyE (fun w' => w'.cell? ⟨w.heap.size + 1, 0, none⟩ = some (.slice (some ⟨g4, 0, none⟩) NS c4) ∧ w'.cell? ⟨g4, C, none⟩ = some (.string (intB sc)) ∧ w'.cell? ⟨gx, C, none⟩ = some (.string (intB xc)) ∧ Hid (Ext Wb w')) 15 (by kernel_rfl) (by kernel_rfl) (by rintro ⟨_, _, h⟩; exact absurd (show Exit.outgrown = Exit.normal from h.1) (by simp)) ⟨(Ext.drew Wb).cell t0, (Ext.drew Wb).cell t1, (Ext.drew Wb).cell t2, Ext.drew Wb⟩ (fun hHeld => ?_)
    refine anyE_take (v := ?_) 0 rfl (by kernel_rfl) (by kernel_rfl) (by kernel_rfl) (by kernel_rfl) (by kernel_rfl) (fun _ _ _ h => h) (Or.inl ⟨by rfl, ?_⟩) (by assumption) ?_
    rotate_left
    · ((intro w' hSw); (try dsimp only at hSw); (try go_simp); (try with_reducible rfl))
    (try simp only [Act.put, List.setIfInBounds_toArray, List.set_cons_zero, List.set_cons_succ])
    refine anyE_takeW (v := ?_) 1 rfl (by kernel_rfl) (by kernel_rfl) (by kernel_rfl) (by decide) (fun _ _ _ h => h) (Or.inl ⟨by rfl, ?_⟩) (by assumption) ?_
    rotate_left
    · ((intro w'); (try go_simp); (try with_reducible rfl))
    (try simp only [Act.put, List.setIfInBounds_toArray, List.set_cons_zero, List.set_cons_succ])
    refine anyE_takeW (v := ?_) 2 rfl (by kernel_rfl) (by kernel_rfl) (by kernel_rfl) (by decide) (fun _ _ _ h => h) (Or.inl ⟨by rfl, ?_⟩) (by assumption) ?_
    rotate_left
    · ((intro w'); (try go_simp); (try with_reducible rfl))
    (try simp only [Act.put, List.setIfInBounds_toArray, List.set_cons_zero, List.set_cons_succ])
    refine anyE_take (v := ?_) 3 rfl (by kernel_rfl) (by kernel_rfl) (by kernel_rfl) (by kernel_rfl) (by kernel_rfl) (fun _ _ _ h => h) (Or.inl ⟨by rfl, ?_⟩) (by assumption) ?_
    rotate_left
    · ((intro w' hSw); (try dsimp only at hSw); (try go_simp); (try with_reducible rfl))
    (try simp only [Act.put, List.setIfInBounds_toArray, List.set_cons_zero, List.set_cons_succ])
    refine anyE_takeW (v := ?_) 4 rfl (by kernel_rfl) (by kernel_rfl) (by kernel_rfl) (by decide) (fun _ _ _ h => h) (Or.inl ⟨by rfl, ?_⟩) (by assumption) ?_
    rotate_left
    · ((intro w'); (try go_simp); (try with_reducible rfl))
    (try simp only [Act.put, List.setIfInBounds_toArray, List.set_cons_zero, List.set_cons_succ])
    refine anyE_takeW (v := ?_) 5 rfl (by kernel_rfl) (by kernel_rfl) (by kernel_rfl) (by decide) (fun _ _ _ h => h) (Or.inl ⟨by rfl, ?_⟩) (by assumption) ?_
    rotate_left
    · ((intro w'); (try go_simp); (try with_reducible rfl))
    (try simp only [Act.put, List.setIfInBounds_toArray, List.set_cons_zero, List.set_cons_succ])
    refine anyE_takeW (v := ?_) 6 rfl (by kernel_rfl) (by kernel_rfl) (by kernel_rfl) (by decide) (fun _ _ _ h => h) (Or.inl ⟨by rfl, ?_⟩) (by assumption) ?_
    rotate_left
    · ((intro w'); (try go_simp); (try with_reducible rfl))
    (try simp only [Act.put, List.setIfInBounds_toArray, List.set_cons_zero, List.set_cons_succ])
    refine anyE_take (v := ?_) 7 rfl (by kernel_rfl) (by kernel_rfl) (by kernel_rfl) (by kernel_rfl) (by kernel_rfl) (fun _ _ _ h => h) (Or.inl ⟨by rfl, ?_⟩) (by assumption) ?_
    rotate_left
    · ((intro w' hSw); (try dsimp only at hSw); (try go_simp); (try with_reducible rfl))
    (try simp only [Act.put, List.setIfInBounds_toArray, List.set_cons_zero, List.set_cons_succ])
    refine anyE_step 8 (by kernel_rfl) rfl (fun K hK => ?_)
    go_simp
    (go_at_call 96; refine (HDM.out _ (Ext.trans HXW.out hHeld.2.2.2.out)).mono ?_)
    rintro e wz ⟨rfl, hEz⟩
    go_wp2_with fail
    refine hK.out _ _ ⟨(hEz).cell hHeld.1, (hEz).cell hHeld.2.1, (hEz).cell hHeld.2.2.1, Ext.trans hHeld.2.2.2.out (hEz)⟩ (fun hHeld => ?_)
    clear hK K
    (try simp only [Act.put, List.setIfInBounds_toArray, List.set_cons_zero, List.set_cons_succ])
    refine anyE_takeW (v := ?_) 9 rfl (by kernel_rfl) (by kernel_rfl) (by kernel_rfl) (by decide) (fun _ _ _ h => h) (Or.inl ⟨by rfl, ?_⟩) (by assumption) ?_
    rotate_left
    · ((intro w'); (try go_simp); (try with_reducible rfl))
    (try simp only [Act.put, List.setIfInBounds_toArray, List.set_cons_zero, List.set_cons_succ])
    refine anyE_takeW (v := ?_) 10 rfl (by kernel_rfl) (by kernel_rfl) (by kernel_rfl) (by decide) (fun _ _ _ h => h) (Or.inl ⟨by rfl, ?_⟩) (by assumption) ?_
    rotate_left
    · ((intro w'); (try go_simp); (try with_reducible rfl))
    (try simp only [Act.put, List.setIfInBounds_toArray, List.set_cons_zero, List.set_cons_succ])
    refine anyE_takeW (v := ?_) 11 rfl (by kernel_rfl) (by kernel_rfl) (by kernel_rfl) (by decide) (fun _ _ _ h => h) (Or.inl ⟨by rfl, ?_⟩) (by assumption) ?_
    rotate_left
    · ((intro w'); (try go_simp); (try with_reducible rfl))
    (try simp only [Act.put, List.setIfInBounds_toArray, List.set_cons_zero, List.set_cons_succ])
    refine anyE_takeW (v := ?_) 12 rfl (by kernel_rfl) (by kernel_rfl) (by kernel_rfl) (by decide) (fun _ _ _ h => h) (Or.inl ⟨by rfl, ?_⟩) (by assumption) ?_
    rotate_left
    · ((intro w'); (try go_simp); (try with_reducible rfl))
    (try simp only [Act.put, List.setIfInBounds_toArray, List.set_cons_zero, List.set_cons_succ])
    refine anyE_takeW (v := ?_) 13 rfl (by kernel_rfl) (by kernel_rfl) (by kernel_rfl) (by decide) (fun _ _ _ h => h) (Or.inl ⟨by rfl, ?_⟩) (by assumption) ?_
    rotate_left
    · ((intro w'); (try go_simp); (try with_reducible rfl))
    (try simp only [Act.put, List.setIfInBounds_toArray, List.set_cons_zero, List.set_cons_succ])
    refine anyE_takeW (v := ?_) 14 rfl (by kernel_rfl) (by kernel_rfl) (by kernel_rfl) (by decide) (fun _ _ _ h => h) (Or.inl ⟨by rfl, ?_⟩) (by assumption) ?_
    rotate_left
    · ((intro w'); (try go_simp); (try with_reducible rfl))
    (try simp only [Act.put, List.setIfInBounds_toArray, List.set_cons_zero, List.set_cons_succ])
    refine anyE_last 15 (by kernel_rfl) (by kernel_rfl) (by kernel_rfl) rfl (fun K hK => ?_)
    go_simp
    refine hK.out _ _ ?_
    clear hK K
    (try simp only [Act.put, List.setIfInBounds_toArray, List.set_cons_zero, List.set_cons_succ])
    -->R5
    have HEZ : Hid (Ext Wb wz) := hHeld.2.2.2.out
    have HRZ := Lib.hid (HRB.out.ext HW6.out HEZ.out)
    have HXZ := Lib.hid (HXB.out.ext HEZ.out)
    have u0 := hHeld.1
    clear hHeld t0 t1 t2 hEz HXB HRB
    have HLS : Hid (Calls Tryz.prog 133 #[.slice (some ⟨g4, 0, none⟩) NS c4, .string (intB q), .slice (some ⟨gx, 0, none⟩) NX cq] wz fun e w' => e = .returned (.tuple #[]) ∧ GrownS (· = g4) wz w' ∧ RowB w' g4 0 z1) := by
      have hh := less_any q s x z1 g4 0 c4 gx 0 cq w.heap.size wz HRZ.out.row HXZ.out (fun e => HGX2.out e.symm) HA5.out (by rw [HSL.out]; exact HG4.out.2.1) HG4.out.2.2 HCX.out.1 HCX.out.2 (HT.out.ext HRZ.out.old) HB.out HRZ.out.low.2.2 HRZ.out.old.size
      rw [HNS.out, HNX.out] at hh
      exact hh
    gi_wp2_with fail
    refine ⟨trivial, (CallsIn.inRound _ (callsIn_wide.2 HLS.out)).mono ?_⟩
    rintro e w7 ⟨rfl, hG7, hR7⟩
    have hzl : z1.length = s.length := lessO_len HA5.out
    obtain ⟨hRI7, hKF7⟩ := HRZ.out.less hG7 hR7 hzl
    have HRI7 := Lib.hid hRI7; have HKF7 := Lib.hid (KeepsFrom.trans (⟨HEZ.out.size, fun k o _ ho _ => (HEZ.out.block k (block_lt ho)).trans ho⟩ : KeepsFrom w6.heap.size Wb wz) hKF7)
    obtain ⟨vo, o1, o2, o3⟩ := hRI7.out
    have HO1 := Lib.hid o1; have HO2 := Lib.hid o2; have HO3 := Lib.hid o3
    have u1 := block_cell o1 0; have u2 := block_free o1 0
    simp only [List.getElem?_toArray, List.getElem?_cons_zero, List.getElem?_cons_succ] at u1
    clear hG7 hR7 hRI7 hKF7 o1 o2 o3 u0 HLS HXZ HRZ hzl
    have HML7 : Hid (m.length < 8000000) := by unfold Hid; rw [HML.out]; omega
    have HS7 : Hid (w.heap.size ≤ w7.heap.size) := HRI7.out.old.size
    gi_wp2_with (gi_at_builtin; go_must (refine wpListIn_of_wp rfl (by intro c h; cases h) (fun K hK => ?_); refine wp_append_big w7 _ _ rfl w.heap.size vo m q #[.string (intB q)] 125 (by rfl) HO2.out (by rfl) rfl HML7.out HS7.out ?_))
    intro v' w9 hown' hgrow hat
    obtain ⟨gv, cv', hv'⟩ := ownsRow_succ hown'
    have e1 := Ext.alloc w7 (.cells #[.string (intB q)] 125)
    obtain ⟨hpush, hkf⟩ := HRI7.out.push e1 (block_ext HO1.out e1) (HO2.out.alloc _) HO3.out HW6.out (Nat.lt_of_lt_of_le HRI7.out.row.lt e1.size) hown' hgrow (by rw [World.size_alloc]; exact hat)
    have hk9 := block_grown (block_ext HO1.out e1) hgrow (owns_ne_block HO2.out HO1.out (by decide))
    have u3 := block_cell hk9 0; have u4 := block_free hk9 0
    simp only [List.getElem?_toArray, List.getElem?_cons_zero, List.getElem?_cons_succ] at u3
    subst hv'
    rw [← HA6.out] at hpush
    have HPU := Lib.hid hpush
    have HKF := Lib.hid (KeepsFrom.trans HKF7.out (KeepsFrom.trans (⟨e1.size, fun k o _ ho _ => (e1.block k (block_lt ho)).trans ho⟩ : KeepsFrom w6.heap.size w7 _) hkf))
    clear hpush hkf e1 hown' hgrow hat hk9 u1 u2
    refine hK _ _ ?_
    clear hK K
    gi_wp2_with fail
    exact ⟨HKF.out, z1, z2, HZ.out, HPU.out⟩
  case done =>
    rintro W ⟨s, m, hred, hRI⟩ hD
    have hRR := HR.out
    rw [hred] at hRR
    simp only [Option.some.injEq, Prod.mk.injEq] at hRR
    obtain ⟨rfl, rfl⟩ := hRR
    have HRI2 := Lib.hid hRI; have HD := Lib.hid hD
    have HSL := Lib.hid (redO_len hred).1
    obtain ⟨vo, o1, o2, o3⟩ := hRI.out
    obtain ⟨av, nv, cv, rfl⟩ : ∃ a n c, vo = .slice a n c := by
      rcases o2.2 with ⟨hv, _⟩ | ⟨g, c, _, hv, _⟩
      · exact ⟨_, _, _, hv⟩
      · exact ⟨_, _, _, hv⟩
    have HO1 := Lib.hid o1; have HO2 := Lib.hid o2
    have u0 := block_cell hRI.h4 0; have u1 := block_cell o1 0
    have f0 := block_free hRI.h4 0; have f1 := block_free o1 0
    simp only [List.getElem?_toArray, List.getElem?_cons_zero, List.getElem?_cons_succ] at u0 u1
    clear hred hRI hD o1 o2 o3
    go_wp2_with fail
    go_region
    obtain ⟨X, hX⟩ : ∃ X, X = ((W.setCell ⟨w.heap.size + 1, 0, none⟩ (.slice (some ⟨g4, 0, none⟩) s.length c4)).setCell ⟨w.heap.size + 1 + 1, 0, none⟩ (.slice av nv cv)).drew := ⟨_, rfl⟩
    rw [← hX]
    have l1 : W.grownBy (W.setCell ⟨w.heap.size + 1, 0, none⟩ (.slice (some ⟨g4, 0, none⟩) s.length c4)) (some (w.heap.size + 1)) := grown_setCell _ _ _ _
    have l2 : (W.setCell ⟨w.heap.size + 1, 0, none⟩ (.slice (some ⟨g4, 0, none⟩) s.length c4)).grownBy ((W.setCell ⟨w.heap.size + 1, 0, none⟩ (.slice (some ⟨g4, 0, none⟩) s.length c4)).setCell ⟨w.heap.size + 1 + 1, 0, none⟩ (.slice av nv cv)) (some (w.heap.size + 1 + 1)) := grown_setCell _ _ _ _
    have hne := HRI2.out.ne; have hlow := HRI2.out.low; have hlt := HRI2.out.lt
    have hDX : X.heap[w6.heap.size]? = some (.deferred (some [])) := by
      rw [hX]
      exact block_ext (block_grown (block_grown HD.out l1 (fun e => by have := Option.some.inj e; omega)) l2 (fun e => by have := Option.some.inj e; omega)) (Ext.drew _)
    have hx4 : X.heap[w.heap.size + 1]? = some (.cells #[.slice (some ⟨g4, 0, none⟩) s.length c4] 159 (0, 0)) := by
      have := block_set HRI2.out.h4 0 (.slice (some ⟨g4, 0, none⟩) s.length c4)
      rw [hX]
      refine block_ext (block_grown ?_ l2 (fun e => by have := Option.some.inj e; omega)) (Ext.drew _)
      simpa using this
    have hx5 : X.heap[w.heap.size + 1 + 1]? = some (.cells #[.slice av nv cv] 159 (0, 0)) := by
      have := block_set (block_grown HO1.out l1 (fun e => by have := Option.some.inj e; omega)) 0 (.slice av nv cv)
      rw [hX]
      refine block_ext ?_ (Ext.drew _)
      simpa using this
    have hxr : RowB X g4 0 s := by
      rw [hX]
      exact ((HRI2.out.row.other _ 0 _ (fun e => hne.1 e.symm)).other _ 0 _ (fun e => hne.2.1 e.symm)).ext (Ext.drew _)
    have hxo : X.ownsRow w.heap.size 125 1 (.slice av nv cv) m.length (bigV m) := by
      have p1 : (Value.slice av nv cv).ownBlock ≠ some (w.heap.size + 1) := owns_ne_block HO2.out HRI2.out.h4 (by decide)
      have p2 : (Value.slice av nv cv).ownBlock ≠ some (w.heap.size + 1 + 1) := owns_ne_block HO2.out HO1.out (by decide)
      rw [hX]
      refine owns_ext ((HO2.out.kept l1 ?_).kept l2 ?_) (Ext.drew _)
      · cases hv : (Value.slice av nv cv).ownBlock with
        | none => exact .inl rfl
        | some b => exact .inr fun e => p1 (hv.trans e)
      · cases hv : (Value.slice av nv cv).ownBlock with
        | none => exact .inl rfl
        | some b => exact .inr fun e => p2 (hv.trans e)
    have hxe : Ext w X := by
      rw [hX]
      exact (ext_of_grown (ext_of_grown HRI2.out.old l1 (fun r e => by cases e; omega)) l2 (fun r e => by cases e; omega)).trans (Ext.drew _)
    have HDX := Lib.hid hDX; have HX4 := Lib.hid hx4; have HX5 := Lib.hid hx5; have HXR := Lib.hid hxr; have HXO := Lib.hid hxo; have HXE := Lib.hid hxe
    have HW := Lib.hid hlt
    clear hX l1 l2 hne hlow hlt hDX hx4 hx5 hxr hxo hxe u0 u1 f0 f1
    go_wp2_with fail
    refine ⟨by simp, .inl ⟨_, _, rfl, run_takeDeferred HDX.out, ?_⟩⟩
    have gp := grownBy_putObj' X w6.heap.size (.deferred none)
    refine ⟨_, results_cells2 (ty := 159) rfl _ _ (w.heap.size + 1) (w.heap.size + 1 + 1) (.slice (some ⟨g4, 0, none⟩) s.length c4) (.slice av nv cv) (by rfl) (by rfl) ?lv ?c4 ?c5, ?_⟩
    case lv =>
      intro g x hg
      have hagg : ∀ W : World, (isAgg 159).run Tryz.prog W = .ok false W := fun W => by
        unfold isAgg
        rw [Sem.run_bind, run_underlying Tryz.underlying159 W]
        rfl
      simp [loadVar, Sem.run_bind, hagg, hg, Result.andThen, go_sem]
    case c4 =>
      have := block_cell (block_grown HX4.out gp (fun e => by have := Option.some.inj e; have := HW.out; omega)) 0
      simpa using this
    case c5 =>
      have := block_cell (block_grown HX5.out gp (fun e => by have := Option.some.inj e; have := HW.out; omega)) 0
      simpa using this
    refine ⟨g4, c4, _, rfl, HXR.out.same gp.size (gp.block g4 HXR.out.lt (fun e => by have := Option.some.inj e; have := HW.out; omega)), ⟨by rw [HSL.out]; exact HG4.out.2.1, HG4.out.2.2⟩, ownsRow_putObj HXO.out _ HDX.out rfl, ext_of_grown HXE.out gp (fun r e => by cases e; exact HW6.out)⟩
end Go.Proofs.YtjihfabhgcfjnaaGreatDoor
