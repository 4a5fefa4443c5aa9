/- Merged: DTemT, EqRows, EqStrains. -/
import Derived.Test.YtjihfabhgcfjnaaGreatDoorVBAA
import Derived.Test.YtjihfabhgcfjnaaGreatDoorVBAB
import Derived.Test.YtjihfabhgcfjnaaGreatDoorUBE
import Derived.Laws.CopyOwn
import Derived.Test.YtjihfabhgcfjnaaGreatDoorUAI
import Derived.Test.YtjihfabhgcfjnaaGreatDoorUAK
/- Law 51's temper: whatever it returns is a right temperament. Printed by gen/dtemt.py. -/
namespace Go.Proofs.YtjihfabhgcfjnaaGreatDoor
set_option linter.unusedVariables false
set_option linter.unusedSimpArgs false
open Go.RowKit

/-- A row as one of three columns. -/
def pad3 (c : List Int) : List Int := c.take 3 ++ List.replicate (3 - c.length) 0
theorem pad3_len (c : List Int) : (pad3 c).length = 3 := by unfold pad3; rw [List.length_append, List.length_take, List.length_replicate]; omega
theorem pad3_le {N : Nat} {c : List Int} (h : RowLe N c) : RowLe N (pad3 c) := by
  intro x hx
  unfold pad3 at hx
  rcases List.mem_append.1 hx with hx | hx
  · exact h x (List.mem_of_mem_take hx)
  · rw [(List.mem_replicate.1 hx).2]; simp
theorem fours_len5 {w : World} {v : Value} {xss : List (List Int)} (h : Fours w v xss) : ∀ x ∈ xss, x.length = 4 := by
  obtain ⟨us, h1, _, _, h7⟩ := h
  intro x hx
  obtain ⟨j, hj⟩ := List.getElem?_of_mem hx
  have hlt : j < us.length := by rw [h1]; exact (List.getElem?_eq_some_iff.1 hj).1
  exact (h7 j us[j] x (List.getElem?_eq_getElem hlt) hj).2.1
theorem infoIntSz5 : (Tryz.prog.info? 3).map (·.size) = some 1 := by kernel_rfl
set_option maxRecDepth 100000 in
/-- copy of a row onto three zeros, behind the walk's own steps. -/
theorem copy_pad {Q : Exit → Act → World → Prop} {K : Act → World → Prop} {o : Oper} {a : Act} {ty : TypeId} (w : World) (g n cr : Nat) (ad : Addr) (xs : List Int) (hg : w.heap[g]? = some (.cells #[.int .i64 0, .int .i64 0, .int .i64 0] 3 (0, 0))) (hn : xs.length = n)
    (hsrc : ∀ (j : Nat) x, xs[j]? = some x → w.cell? (ad.add j) = some (.int .i64 x)) (B : Nat) (w0 : World) (hb : Below B w0 w) (hBg : B ≤ g)
    (hK : ∀ w', Hid (w'.heap[g]? = some (.cells ((pad3 xs).map (Value.int .i64)).toArray 3 (0, 0))) → Below B w0 w' → K (a.put o.dst (.int .i64 ((Nat.min n 3 : Nat) : Int))) w') :
    Oper.upon Tryz.prog o a K Q ((Sem.run Tryz.prog (Builtin.copy_ #[37, 37] ty #[.slice (some ⟨g, 0, none⟩) 3 3, .slice (some ad) n cr]) w).andThen fun a w' => Result.ok (Next.value a) w') := by
  have hl : ((xs.take 3).map (Value.int .i64)).length = Nat.min n 3 := by rw [List.length_map, List.length_take, hn]; exact Nat.min_comm _ _
  have hrun := run_copy_row (P := Tryz.prog) w 37 37 ty 3 g 0 3 3 ad n cr #[.int .i64 0, .int .i64 0, .int .i64 0] 3 ((xs.take 3).map (Value.int .i64)) Tryz.underlying37 infoIntSz5 hg hl
    (fun j v hv => by
      rw [List.getElem?_map] at hv
      cases hx : (xs.take 3)[j]? with
      | none => rw [hx] at hv; cases hv
      | some x =>
        rw [hx] at hv
        obtain rfl := Option.some.inj hv
        rw [List.getElem?_take] at hx
        split at hx
        · exact hsrc j x hx
        · cases hx) (by rw [hl]; simp; exact Nat.min_le_right _ _) (fun v hv => by obtain ⟨x, -, rfl⟩ := List.mem_map.1 hv; rfl)
  have h := hK _ (show _ = _ by
    have := setRow_heap w g _ ((#[.int .i64 0, .int .i64 0, .int .i64 0] : Array Value).toList.take 0 ++ (xs.take 3).map (Value.int .i64) ++ (#[.int .i64 0, .int .i64 0, .int .i64 0] : Array Value).toList.drop (0 + ((xs.take 3).map (Value.int .i64)).length)).toArray 3 _ hg
    rw [this, hl]
    congr 2
    unfold pad3
    rw [List.map_append, List.map_replicate, List.take_zero, List.nil_append, hn]
    have e : ∀ k, k ≤ 3 → ([Value.int .i64 0, .int .i64 0, .int .i64 0] : List Value).drop (0 + k) = List.replicate (3 - k) (Value.int .i64 0) := by
      intro k hk
      rcases (by omega : k = 0 ∨ k = 1 ∨ k = 2 ∨ k = 3) with rfl | rfl | rfl | rfl <;> rfl
    show ((xs.take 3).map (Value.int .i64) ++ ([Value.int .i64 0, .int .i64 0, .int .i64 0] : List Value).drop (0 + Nat.min n 3)).toArray = _
    rw [e _ (Nat.min_le_right _ _)]
    congr 3
    omega) (below_setRow hb hBg _)
  have e : (Value.int .i64 ((Nat.min n 3 : Nat) : Int)) = goInt ((xs.take 3).map (Value.int .i64)).length := by rw [hl]; rfl
  rw [e] at h
  rw [hrun]
  exact h
/-- A temperament whose slices lie in new memory, in a box. -/
theorem temp_kept {U : World} {B N n : Nat} {P : List Int} {C M : List (List Int)} {p c m : Value} (h : SafeS U (· < N) fun W => TempV W (.agg #[p, c, m]) P C M) (hB : B < N) (hn : n ≤ N) (x y z : Value) :
    SafeS (((U.setCell ⟨B, 0, none⟩ x).setCell ⟨B, 1, none⟩ y).setCell ⟨B, 2, none⟩ z) (· < n) fun W => TempV W (.agg #[p, c, m]) P C M :=
  h.grow ((((GrownS.refl _ U).setCell (g := B) hB 0 x).setCell (g := B) hB 1 y).setCell (g := B) hB 2 z) fun k hk => .inl (Nat.lt_of_lt_of_le hk hn)

set_option maxRecDepth 100000 in
set_option maxHeartbeats 8000000 in
theorem temper51_any (c : Int) (hc0 : 0 ≤ c) (hc1 : c ≤ 255) (vals alike : Bool) (xss : List (List Int)) (hx3 : xss.length ≤ 3) (v : Value) (w : World) (h : Fours w v xss) (hlib : LibT w) (hp : 2 < w.heap.size) :
    Calls Tryz.prog 23 #[.agg #[.int .u8 c, v, .bool vals], .bool alike] w fun e w' => (∃ u n F P C M, e = .returned u ∧ SafeS w' (· < w.heap.size) (fun W => TempV W u P C M) ∧ RightT n F P C M) ∧ Ext w w' := by
  obtain ⟨n, F0, P, C, M, hP, HR0, HMK, HCB, hn4, hn1⟩ : ∃ n F P C M, Hid (P = primes12 (c % 10).toNat) ∧ Hid (RightT n F P C M) ∧ Hid (∀ W, Ext w W → Calls Tryz.prog 64 #[.agg #[.int .u8 c, v, .bool vals]] W fun e w' => ∃ u, e = .returned u ∧ SafeS w' (· < W.heap.size) (fun W => TempV W u P C M) ∧ Ext W w') ∧ Hid (C.length ≤ 4 ∧ ∀ x ∈ C, RowLe 1000000000 x) ∧ n ≤ 4 ∧ 1 ≤ n := by
    have hpr := primes12_ok (c % 10).toNat
    have h4 : ∀ x ∈ xss, x.length = 4 := fours_len5 h
    obtain ⟨hl18, hr18⟩ := rows18_ok (xss := xss) hpr.2.2 h4 xss.length
    obtain ⟨F, R, A, S, d1, d2, d3, t1, t2⟩ := plan_temp hpr.2.1 hpr.2.2 (by omega) (fun x hx => (hr18 x hx).1) (fun x hx => (hr18 x hx).2) (primes12 (c % 10).toNat) hpr.1 rfl
    have hmk := fun W (hW : Ext w W) => make18S_any c hc0 hc1 _ F _ rfl rfl xss hx3 vals v W (h.ext hW) R A S d1 (hlib.ext hW) (Nat.lt_of_lt_of_le hp hW.size)
    cases vals with
    | false => exact ⟨_, F, _, S, A, rfl, t1.right, hmk, ⟨t1.lC, fun x hx => (t1.bC x hx).1.mono (by decide)⟩, hpr.2.2, hpr.2.1⟩
    | true => exact ⟨_, F, _, A, S, rfl, t2.right, hmk, ⟨t2.lC, fun x hx => (t2.bC x hx).1.mono (by decide)⟩, hpr.2.2, hpr.2.1⟩
  obtain ⟨hC4, hCB⟩ := HCB.out
  have hRT := HR0.out
  have hPl : P.length = n := hRT.pl
  have hCn : ∀ x ∈ C, x.length = n := fun x hx => (hRT.bC x hx).2
  obtain ⟨F1, R, A, S, hG⟩ := from_there (n := 3) (m := C.map pad3) (by decide) (by decide) (by rw [List.length_map]; omega) (fun x hx => by obtain ⟨y, -, rfl⟩ := List.mem_map.1 hx; exact pad3_len y) (fun x hx => by obtain ⟨y, hy, rfl⟩ := List.mem_map.1 hx; exact pad3_le (hCB y hy))
  have HFC := Lib.hid (fun W (hW : Ext w W) vp vm (hvp : Ints W vp [2, 3, 5]) (hvm : Rows2 W vm (C.map pad3)) => fromCommas_gen 3 F1 [2, 3, 5] (C.map pad3) R A S vp vm W hvp hvm (by decide +kernel) rfl hG (hlib.ext hW) (Nat.lt_of_lt_of_le hp hW.size))
  obtain ⟨F2, hD, hRR⟩ := ends_right (n := 3) (by decide) (by decide)
  obtain ⟨hRJ, -⟩ := hRR [2, 3, 5] (by decide +kernel) rfl
  have HJU := Lib.hid (fun W (hW : Ext w W) vp (hv : Ints W vp [2, 3, 5]) => justS_any 3 F2 [2, 3, 5] vp W hv (by decide +kernel) rfl hD (hlib.ext hW) (Nat.lt_of_lt_of_le hp hW.size))
  have HRJ := Lib.hid hRJ
  have HCN := Lib.hid hCn
  obtain ⟨av, cv, rfl, -, -, -, -⟩ := ListAt.open h
  obtain ⟨W1, hW1⟩ : ∃ W1, w.alloc (.cells #[.int .u8 c, .slice av xss.length cv, .bool vals] 73) = W1 := ⟨_, rfl⟩
  have hE1 : Ext w W1 := by rw [← hW1]; exact Ext.alloc _ _
  have hP1 : W1.heap[w.heap.size]? = some (.cells #[.int .u8 c, .slice av xss.length cv, .bool vals] 73 (0, 0)) := by rw [← hW1]; exact block_new _ _ _
  have hs1 : W1.heap.size = w.heap.size + 1 := by rw [← hW1]; simp
  obtain ⟨W2, hW2, hE2, hs2, hb2⟩ := tp_new W1 (.slice none 0 0) (.slice none 0 0) (.slice none 0 0)
  rw [hs1] at hb2 hs2
  have HE2 := Lib.hid (hE1.trans hE2); have HB2 := Lib.hid hb2; have HZ2 := Lib.hid hs2
  obtain ⟨p0, p1, p2⟩ := p18_block (block_ext hP1 hE2)
  clear h hlib hp hG hD hRR hRJ hRT hCn hCB hE1 hE2 hP1 hb2 hs2 HCB hPl
  go_enter Tryz.func23, Tryz.ntmps23
  go_wp2_with fail
  clear hW1 hW2 hs1
  refine (HMK.out _ HE2.out).mono ?_
  rintro e w3 ⟨u, rfl, hu, hE3⟩
  obtain ⟨vp, vc, vm, rfl, hvp, hvc, hvm⟩ := hu.now
  obtain ⟨ap, cp, rfl, -⟩ := hvp.open
  obtain ⟨ac, cc, rfl, hlc, hmc, -, hcl⟩ := inCell.open hvc
  obtain ⟨am, cm, rfl, -⟩ := inCell.open hvm
  unfold maxLen at hmc
  have HU := Lib.hid hu
  have HB3 := Lib.hid (block_ext HB2.out hE3); have HE3 := Lib.hid (HE2.out.trans hE3)
  have HVC := Lib.hid hvc; have HVP := Lib.hid hvp
  have HCL := Lib.hid hcl
  obtain ⟨W5, hW5, hE5, hs5, hb5⟩ := tp_new w3 (.slice ap P.length cp) (.slice ac C.length cc) (.slice am M.length cm)
  have HB35 := Lib.hid (block_ext HB3.out hE5); have HE5 := Lib.hid (HE3.out.trans hE5); have HB5 := Lib.hid hb5
  have HU5 := Lib.hid (HU.out.ext hE5)
  have HX35 := Lib.hid hE5
  obtain ⟨b0, b1, b2, -⟩ := tp_block hb5
  obtain ⟨r0, r1, r2, rf⟩ := tp_block HB35.out
  have f0 := rf 0; have f1 := rf 1; have f2 := rf 2
  clear hE3 hu hvp hvc hvm hE5 hs5 hb5 HMK rf hcl HB3
  cases alike with
  | false =>
    go_wp2_with fail
    clear hW5
    have hkA := tp_store (block_ext HB35.out (Ext.refl W5)) (.slice ap P.length cp) (.slice ac C.length cc) (.slice am M.length cm)
    refine bodyPost_ret (results_cell_row (by rfl) _ _ (w.heap.size + 1) 58 #[.slice ap P.length cp, .slice ac C.length cc, .slice am M.length cm] (0, 0) _ (by rfl) hkA Tryz.underlying58 (by rfl) (by kernel_rfl)) (by rfl) ?_
    exact ⟨⟨_, n, F0, P, C, M, rfl, temp_kept (HU5.out.ext (Ext.refl W5)) (by have := HZ2.out; show w.heap.size + 1 < W2.heap.size; omega) (by have := HZ2.out; omega) _ _ _, HR0.out⟩, ext_tp (HE5.out.trans (Ext.refl W5)) (by omega) _ _ _⟩
  | true =>
  obtain ⟨q, hq⟩ : ∃ q, (P == [2, 3, 5]) = q := ⟨_, rfl⟩
  have HEP := Lib.hid (fun W vp vl (h1 : Ints W vp P) (h2 : Ints W vl [2, 3, 5]) => equalPrimes_any P [2, 3, 5] vp vl W h1 h2)
  rw [hq] at HEP
  clear hq
  go_wp2_with fail
  clear hW5
  have HL := Lib.hid (Ints.lit W5 [2, 3, 5] 3 (by unfold maxLen; decide) (by decide))
  have HEL := Lib.hid (Ext.alloc W5 (.cells (([2, 3, 5] : List Int).map (Value.int .i64)).toArray 3))
  refine (HEP.out _ _ _ (HVP.out.ext (HX35.out.trans HEL.out)) HL.out).mono ?_
  rintro e w6 ⟨rfl, hE6⟩
  have HE56 := Lib.hid (HEL.out.trans hE6)
  clear hE6 HL HEL HEP b0 b1 b2 r0 r1 r2 f0 f1 f2
  obtain ⟨b0, b1, b2, -⟩ := tp_block (block_ext HB5.out HE56.out)
  obtain ⟨r0, r1, r2, rf⟩ := tp_block (block_ext HB35.out HE56.out)
  have f0 := rf 0; have f1 := rf 1; have f2 := rf 2
  clear rf
  cases q with
  | true =>
    go_wp2_with fail
    have hkA := tp_store (block_ext HB35.out HE56.out) (.slice ap P.length cp) (.slice ac C.length cc) (.slice am M.length cm)
    refine bodyPost_ret (results_cell_row (by rfl) _ _ (w.heap.size + 1) 58 #[.slice ap P.length cp, .slice ac C.length cc, .slice am M.length cm] (0, 0) _ (by rfl) hkA Tryz.underlying58 (by rfl) (by kernel_rfl)) (by rfl) ?_
    exact ⟨⟨_, n, F0, P, C, M, rfl, temp_kept (HU5.out.ext HE56.out) (by have := HZ2.out; show w.heap.size + 1 < W2.heap.size; omega) (by have := HZ2.out; omega) _ _ _, HR0.out⟩, ext_tp (HE5.out.trans HE56.out) (by omega) _ _ _⟩
  | false =>
  go_wp2_with fail
  have HE6 := Lib.hid (HE5.out.trans HE56.out)
  go_loopw [26, 6] (fun t so wr => ∃ (i : Nat) (Q : Nat → Prop), i ≤ C.length ∧ t = .int .i64 i ∧ Hid (Ext w6 wr) ∧ Hid (SOk Q w6.heap.size wr) ∧ Hid (∃ a c, so = .slice a i c) ∧ Hid (BuildS wr Q w6.heap.size 37 1 so rowC ((C.take i).map pad3))) (fun t _ _ => C.length - (intOf t).toNat)
  case atStart => exact ⟨0, fun _ => False, by omega, rfl, Ext.refl _, fun b hb => hb.elim, ⟨none, 0, rfl⟩, BuildS.nil _ _ _ _ _ _⟩
  case round =>
    obtain ⟨i, Q, hin, rfl, HE, HOK, HSL, HBu⟩ := hrel
    obtain ⟨wo, rfl⟩ : ∃ wo : World, wo = wr := ⟨_, rfl⟩
    clear b0 b1 b2 r0 r1 r2 f0 f1 f2
    by_cases hlt : i < C.length
    · obtain ⟨bc, oc, rfl, hbc, hcell⟩ := HCL.out (by intro e; simp [e] at hlt)
      obtain ⟨x, hx⟩ : ∃ x, C[i]? = some x := ⟨C[i], List.getElem?_eq_getElem hlt⟩
      obtain ⟨vx, hvx, hcx⟩ := hcell i x hx
      have hxn := HCN.out x (List.mem_of_getElem? hx)
      have HX3 := Lib.hid (HX35.out.trans (HE56.out.trans HE.out))
      have k0 := HX3.out.cell hcx
      have hIx := hvx.ext HX3.out
      obtain ⟨ax, cx, rfl, -, -, -, hxb, hxc⟩ := hIx.open
      obtain ⟨bx, ox, rfl, hbx, hxcell⟩ := hxc (by intro e; rw [e] at hxn; simp at hxn; omega)
      rw [hxn] at k0
      have HXC := Lib.hid hxcell; have HXB := Lib.hid hxb; have HXN := Lib.hid hxn; have HXI := Lib.hid hx
      clear hcell hvx hcx hIx hxc hxcell hxb hxn hx
      obtain ⟨w7, hW7, hE7, hb7⟩ : ∃ w7, wo.alloc (.cells #[.int .i64 0, .int .i64 0, .int .i64 0] 3) = w7 ∧ Ext wo w7 ∧ w7.heap[wo.heap.size]? = some (.cells #[.int .i64 0, .int .i64 0, .int .i64 0] 3 (0, 0)) := ⟨_, rfl, Ext.alloc _ _, block_new _ _ _⟩
      have HE7 := Lib.hid hE7; have HB7 := Lib.hid hb7
      clear hE7 hb7
      obtain ⟨so, cs, rfl⟩ := HSL.out
      go_wp2_with fail
      clear hW7
      refine copy_pad w7 wo.heap.size n cx ⟨bx, ox, none⟩ x HB7.out HXN.out (fun j y hy => by
        have h9 := HE7.out.cell (HXC.out j y hy)
        unfold Addr.add
        by_cases hj : j = 0
        · subst hj; rw [if_pos rfl]; exact h9
        · rw [if_neg hj]; exact h9) wo.heap.size wo HE7.out (Nat.le_refl _) ?_
      intro w8 hb8 hE8
      have HB8 := Lib.hid hb8.out; have HE8 : Hid (Ext wo w8) := hE8
      have hs8 : w6.heap.size ≤ w8.heap.size := Nat.le_trans HE.out.size HE8.out.size
      have hpl : (pad3 x).length = 3 := pad3_len x
      have HSF : Hid (SafeS w8 Q fun W => rowC W [.slice (some ⟨wo.heap.size, 0, none⟩) 3 3] (pad3 x)) := by
        have h1 := ints_block (S := Q) HB8.out (fun hs => by have := (HOK.out _ hs).2; omega) (by rw [hpl]; unfold maxLen; omega) (fun y hy => by
          unfold pad3 at hy
          rcases List.mem_append.1 hy with hy | hy
          · exact HXB.out y (List.mem_of_mem_take hy)
          · rw [(List.mem_replicate.1 hy).2]; omega)
        rw [hpl] at h1
        exact h1.mono fun W h => ⟨_, rfl, h⟩
      have HB9 := Lib.hid (HBu.out.ext HE8.out)
      have HOK9 := Lib.hid (HOK.out.grow HE8.out.size)
      have HEx := Lib.hid (HE.out.trans HE8.out)
      have HN : Hid ((C.take (i + 1)).map pad3 = (C.take i).map pad3 ++ [pad3 x]) := by
        unfold Hid; rw [List.take_add_one, HXI.out, List.map_append]; rfl
      have HJL : Hid (((C.take i).map pad3).length = i) := by unfold Hid; rw [List.length_map, List.length_take]; omega
      have HJ : Hid (((C.take i).map pad3).length < 1000000) := by unfold Hid; rw [HJL.out]; omega
      obtain ⟨L, hL⟩ : ∃ L, (C.take i).map pad3 = L := ⟨_, rfl⟩
      obtain ⟨y, hy⟩ : ∃ y, pad3 x = y := ⟨_, rfl⟩
      rw [hL] at HB9 HJ HJL HN
      rw [hy] at HSF HN
      clear hb8 hE8 hpl HBu HOK hL hy
      go_wp2_with (at_builtin; go_must (refine wpList_append_buildS _ rfl _ _ 29 rfl Q w6.heap.size 37 (.slice none 0 0) 1 24 Tryz.underlying29 infoRow rfl (by decide) (.slice so i cs) rowC L y #[.slice (some ⟨wo.heap.size, 0, none⟩) 3 3] 37 rfl HB9.out w8.heap.size rfl rfl rfl ?a1 HSF.out HJ.out (by decide) hs8 w6.heap.size (Nat.le_refl _) HOK9.out ?_))
      case a1 => simp [Value.oneCell']
      intro v' w9 Q9 hok9 hS91 hS92 hB9 hg9 hb9 hs9 hsafe9
      have HV : Hid (∃ a c, v' = .slice a (i + 1) c) := by
        obtain ⟨gv, cv2, hv, -⟩ := hB9.shape (by simp)
        refine ⟨some ⟨gv, 0, none⟩, cv2, ?_⟩
        rw [hv, List.length_append, HJL.out]; rfl
      rw [← HN.out] at hB9
      have HB10 := Lib.hid hB9
      have HOK10 := Lib.hid hok9
      have HX10 := Lib.hid (Below.trans HEx.out hb9)
      clear hok9 hS91 hS92 hB9 hg9 hb9 hs9 hsafe9
      go_wp2_with fail
      go_roundw
      case rel => exact ⟨i + 1, Q9, by omega, by go_num, HX10.out, HOK10.out, HV, HB10.out⟩
      case measure => simp [intOf]; omega
    · obtain rfl : i = C.length := by omega
      obtain ⟨so, cs, rfl⟩ := HSL.out
      have hRL := HBu.out.list
      rw [List.take_length] at hRL
      have HRL := Lib.hid hRL
      have HEo := Lib.hid (HE6.out.trans HE.out)
      have HBo := Lib.hid (block_ext HB35.out (HE56.out.trans HE.out))
      clear hRL HBu HOK HSL
      go_wp2_with fail
      have HL := Lib.hid (Ints.lit wo [2, 3, 5] 3 (by unfold maxLen; decide) (by decide))
      have HEL := Lib.hid (Ext.alloc wo (.cells (([2, 3, 5] : List Int).map (Value.int .i64)).toArray 3))
      have HZo : Hid (w.heap.size + 1 < wo.heap.size) := block_lt HBo.out
      refine (HFC.out _ (HEo.out.trans HEL.out) _ _ HL.out (Rows2.ext HRL.out HEL.out)).mono ?_
      rintro e w7 ⟨hE7, hres⟩
      have HE7 := Lib.hid (HEo.out.trans (HEL.out.trans hE7))
      have HB7 := Lib.hid (block_ext HBo.out (HEL.out.trans hE7))
      have HZ7 := Lib.hid (HEL.out.trans hE7).size
      clear hE7 HL HRL HFC HBo HEo
      rcases hres with ⟨u7, F7, rfl, hu7, hR7⟩ | rfl
      · obtain ⟨vp7, vc7, vm7, rfl, hp7, hc7, hm7⟩ := hu7.now
        obtain ⟨a1, c1, rfl, -⟩ := hp7.open
        obtain ⟨a2, c2, rfl, -⟩ := inCell.open hc7
        obtain ⟨a3, c3, rfl, -⟩ := inCell.open hm7
        have HU7 := Lib.hid hu7; have HR7 := Lib.hid hR7
        clear hu7 hR7 hp7 hc7 hm7
        have hl3 : ([2, 3, 5] : List Int).length = 3 := rfl
        rw [hl3] at HU7 ⊢
        obtain ⟨V8, hV8, hXV, hsV, hbV⟩ := tp_new w7 (.slice none 0 0) (.slice none 0 0) (.slice none 0 0)
        obtain ⟨d0, d1, d2, df⟩ := tp_block hbV
        have g0 := df 0; have g1 := df 1; have g2 := df 2
        have HB8 := Lib.hid (tp_store hbV (.slice a1 3 c1) (.slice a2 S.length c2) (.slice a3 A.length c3))
        have HX8 := Lib.hid (ext_tp hXV (Nat.le_refl _) (.slice a1 3 c1) (.slice a2 S.length c2) (.slice a3 A.length c3))
        clear hXV hsV hbV df
        obtain ⟨w8, hU8⟩ : ∃ U, ((V8.setCell ⟨w7.heap.size, 0, none⟩ (.slice a1 3 c1)).setCell ⟨w7.heap.size, 1, none⟩ (.slice a2 S.length c2)).setCell ⟨w7.heap.size, 2, none⟩ (.slice a3 A.length c3) = U := ⟨_, rfl⟩
        rw [hU8] at HB8 HX8
        have HB48 := Lib.hid (block_ext HB7.out HX8.out)
        obtain ⟨e0, e1, e2, -⟩ := tp_block HB8.out
        obtain ⟨r0, r1, r2, rf⟩ := tp_block HB48.out
        have f0 := rf 0; have f1 := rf 1; have f2 := rf 2
        clear rf
        have HU8 := Lib.hid (HU7.out.ext HX8.out)
        go_wp2_with fail
        clear hU8 hV8 r0 r1 r2 f0 f1 f2
        have hkA := tp_store HB48.out (.slice a1 3 c1) (.slice a2 S.length c2) (.slice a3 A.length c3)
        refine bodyPost_ret (results_cell_row (by rfl) _ _ (w.heap.size + 1) 58 #[.slice a1 3 c1, .slice a2 S.length c2, .slice a3 A.length c3] (0, 0) _ (by rfl) hkA Tryz.underlying58 (by rfl) (by kernel_rfl)) (by rfl) ?_
        exact ⟨⟨_, 3, F7, [2, 3, 5], S, A, rfl, temp_kept HU8.out (by have h1 := HZo.out; have h2 := HEL.out.size; omega) (by have h1 := HZo.out; have h2 := HEL.out.size; omega) _ _ _, HR7.out⟩, ext_tp (HE7.out.trans HX8.out) (by omega) _ _ _⟩
      · have hl3 : True := trivial
        obtain ⟨V8, hV8, hXV, hsV, hbV⟩ := tp_new w7 (.slice none 0 0) (.slice none 0 0) (.slice none 0 0)
        obtain ⟨d0, d1, d2, df⟩ := tp_block hbV
        have g0 := df 0; have g1 := df 1; have g2 := df 2
        have HB8 := Lib.hid (tp_store hbV (.slice none 0 0) (.slice none 0 0) (.slice none 0 0))
        have HX8 := Lib.hid (ext_tp hXV (Nat.le_refl _) (.slice none 0 0) (.slice none 0 0) (.slice none 0 0))
        clear hXV hsV hbV df
        obtain ⟨w8, hU8⟩ : ∃ U, ((V8.setCell ⟨w7.heap.size, 0, none⟩ (.slice none 0 0)).setCell ⟨w7.heap.size, 1, none⟩ (.slice none 0 0)).setCell ⟨w7.heap.size, 2, none⟩ (.slice none 0 0) = U := ⟨_, rfl⟩
        rw [hU8] at HB8 HX8
        have HB48 := Lib.hid (block_ext HB7.out HX8.out)
        obtain ⟨e0, e1, e2, -⟩ := tp_block HB8.out
        obtain ⟨r0, r1, r2, rf⟩ := tp_block HB48.out
        have f0 := rf 0; have f1 := rf 1; have f2 := rf 2
        clear rf
        go_wp2_with fail
        clear hU8 hV8 r0 r1 r2 f0 f1 f2 d0 d1 d2 g0 g1 g2
        have HL := Lib.hid (Ints.lit w8 [2, 3, 5] 3 (by unfold maxLen; decide) (by decide))
        have HEL8 := Lib.hid (Ext.alloc w8 (.cells (([2, 3, 5] : List Int).map (Value.int .i64)).toArray 3))
        refine (HJU.out _ (HE7.out.trans (HX8.out.trans HEL8.out)) _ HL.out).mono ?_
        rintro e w9 ⟨u9, rfl, hu9, hE9⟩
        obtain ⟨vp7, vc7, vm7, rfl, hp7, hc7, hm7⟩ := hu9.now
        obtain ⟨a1, c1, rfl, -⟩ := hp7.open
        obtain ⟨a2, c2, rfl, -⟩ := inCell.open hc7
        obtain ⟨a3, c3, rfl, -⟩ := inCell.open hm7
        have hl3 : ([2, 3, 5] : List Int).length = 3 := rfl
        have hi3 : (idM 3 3).length = 3 := rfl
        have HU9 := Lib.hid hu9
        rw [hl3, hi3, List.length_nil] at HU9 ⊢
        have HX89 := Lib.hid (HEL8.out.trans hE9)
        have HB49 := Lib.hid (block_ext HB48.out HX89.out); have HB89 := Lib.hid (block_ext HB8.out HX89.out)
        have HZ9 := Lib.hid (block_lt HB8.out); have HZ4 := Lib.hid (block_lt HB48.out)
        clear hu9 hp7 hc7 hm7 hE9 hl3 hi3 HL
        obtain ⟨d0, d1, d2, df⟩ := tp_block HB89.out
        have g0 := df 0; have g1 := df 1; have g2 := df 2
        have HST := Lib.hid (tp_store HB89.out (.slice a1 3 c1) (.slice a2 0 c2) (.slice a3 3 c3))
        obtain ⟨wA, hWA⟩ : ∃ U, ((w9.setCell ⟨w7.heap.size, 0, none⟩ (.slice a1 3 c1)).setCell ⟨w7.heap.size, 1, none⟩ (.slice a2 0 c2)).setCell ⟨w7.heap.size, 2, none⟩ (.slice a3 3 c3) = U := ⟨_, rfl⟩
        rw [hWA] at HST
        have HGA : Hid (GrownS (· = w7.heap.size) w9 wA) := by
          rw [← hWA]
          exact (((GrownS.refl (fun k => k = w7.heap.size) w9).setCell (g := w7.heap.size) rfl 0 _).setCell (g := w7.heap.size) rfl 1 _).setCell (g := w7.heap.size) rfl 2 _
        have HB4A : Hid (wA.heap[w.heap.size + 1]? = some (.cells #[.slice none 0 0, .slice none 0 0, .slice none 0 0] 58 (0, 0))) := (HGA.out.block _ (block_lt HB49.out) (by have h1 := HZo.out; have h2 := HZ7.out; omega)).trans HB49.out
        have HUA : Hid (SafeS wA (· < w8.heap.size) fun W => TempV W (.agg #[.slice a1 3 c1, .slice a2 0 c2, .slice a3 3 c3]) [2, 3, 5] [] (idM 3 3)) := HU9.out.grow (HGA.out.weak fun k _ hk => by have h1 := HZ9.out; have h2 := HEL8.out.size; have hk : k = w7.heap.size := hk; show k < _; omega) (fun k hk => .inl (by have h2 := HEL8.out.size; have hk : k < w8.heap.size := hk; show k < _; omega))
        have HEA : Hid (Ext w wA) := by
          rw [← hWA]
          exact ext_tp (HE7.out.trans (HX8.out.trans HX89.out)) (by have h1 := HZo.out; have h2 := HZ7.out; omega) _ _ _
        obtain ⟨e0, e1, e2, -⟩ := tp_block HST.out
        obtain ⟨r0, r1, r2, rf⟩ := tp_block HB4A.out
        have f0 := rf 0; have f1 := rf 1; have f2 := rf 2
        clear rf df
        go_wp2_with fail
        clear hWA
        have hkA := tp_store HB4A.out (.slice a1 3 c1) (.slice a2 0 c2) (.slice a3 3 c3)
        refine bodyPost_ret (results_cell_row (by rfl) _ _ (w.heap.size + 1) 58 #[.slice a1 3 c1, .slice a2 0 c2, .slice a3 3 c3] (0, 0) _ (by rfl) hkA Tryz.underlying58 (by rfl) (by kernel_rfl)) (by rfl) ?_
        exact ⟨⟨_, 3, F2, [2, 3, 5], [], idM 3 3, rfl, temp_kept HUA.out HZ4.out (by have := HZ4.out; omega) _ _ _, HRJ.out⟩, ext_tp HEA.out (by omega) _ _ _⟩
end Go.Proofs.YtjihfabhgcfjnaaGreatDoor
/- Contracts of slices.EqualFunc, rowsEqual. -/
namespace Go.Proofs.YtjihfabhgcfjnaaGreatDoor
set_option linter.unusedVariables false
set_option linter.unusedSimpArgs false
open Go.RowKit

end Go.Proofs.YtjihfabhgcfjnaaGreatDoor
/- Contracts of slices.EqualFunc at strains and of DriftFollows's function. -/
namespace Go.Proofs.YtjihfabhgcfjnaaGreatDoor
set_option linter.unusedVariables false
set_option linter.unusedSimpArgs false
open Go.RowKit

theorem Strs.open {w : World} {v : Value} {xs : List (Nat × Nat × List Int)} (h : Strs w v xs) :
    ∃ (a : Option Addr) (cap : Nat), v = .slice a xs.length cap ∧ xs.length ≤ cap ∧ cap ≤ maxLen ∧ (a = none → cap = 0) ∧
      (xs ≠ [] → ∃ b off, a = some ⟨b, off, none⟩ ∧ b < w.heap.size ∧ ∀ (j : Nat) x, xs[j]? = some x → ∃ u, Ints w u x.2.2 ∧ w.cell? ⟨b, off + j * 3, none⟩ = some (.int .i64 x.1) ∧ w.cell? ⟨b, off + j * 3 + 1, none⟩ = some (.int .i64 x.2.1) ∧ w.cell? ⟨b, off + j * 3 + 2, none⟩ = some u) := by
  obtain ⟨a, cap, hv, h1, h2, h3, h4⟩ := ListAt.open h
  refine ⟨a, cap, hv, h1, h2, h3, fun hx => ?_⟩
  obtain ⟨b, off, ha, hb, hc⟩ := h4 (by omega) hx
  refine ⟨b, off, ha, hb, fun j x hj => ?_⟩
  obtain ⟨u, _, ⟨v', rfl, hv'⟩, hcell⟩ := hc j x hj
  have e0 := hcell 0 (by omega)
  have e1 := hcell 1 (by omega)
  have e2 := hcell 2 (by omega)
  exact ⟨v', hv', by simpa using e0, by rw [Nat.add_assoc]; simpa using e1, by rw [Nat.add_assoc]; simpa using e2⟩

end Go.Proofs.YtjihfabhgcfjnaaGreatDoor
