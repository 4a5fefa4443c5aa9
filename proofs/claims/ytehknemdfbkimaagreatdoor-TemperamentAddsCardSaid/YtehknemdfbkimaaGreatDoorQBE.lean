/- Merged: TmpM, TmpT. -/
import Derived.Test.YtehknemdfbkimaaGreatDoorQBD
import Derived.Test.YtehknemdfbkimaaGreatDoorShelfB
import Derived.Lib.Builder
import Derived.Lib.AppendStr
/- Contract of law 18: Make: the temperament of a plan. -/
namespace Go.Proofs.YtehknemdfbkimaaGreatDoor
set_option linter.unusedVariables false
set_option linter.unusedSimpArgs false
open Go.RowKit

/-- The rows of a plan over n primes. -/
def rows18 (n i : Nat) (xss : List (List Int)) : List (List Int) := (xss.take i).map (row9 n)
theorem rows18_ok {n : Nat} {xss : List (List Int)} (hn : n ≤ 4) (h : ∀ x ∈ xss, x.length = 4) (i : Nat) : (rows18 n i xss).length ≤ i ∧ ∀ r ∈ rows18 n i xss, r.length = n ∧ RowLe 9 r := by
  refine ⟨by unfold rows18; rw [List.length_map, List.length_take]; omega, fun r hr => ?_⟩
  obtain ⟨x, hx, rfl⟩ := List.mem_map.1 hr
  refine ⟨row9_len (by rw [h x (List.mem_of_mem_take hx)]; exact hn), fun y hy => ?_⟩
  have := row9_bd y hy
  omega
/-- The temperament of few small rows: the forms of its commas and of its mapping. -/
structure TempF (n F : Nat) (P : List Int) (m C M : List (List Int)) (vals : Bool) : Prop where
  right : RightT n F P C M
  left : RightT n F P M C
  hC : ∃ ps, HForm n C ps
  hM : ∃ ps, HForm n M ps
  spC : ∀ v, Sp n (RowsFrom 0 C) v ↔ if vals then Ann n m v else Sat n m v
  spM : ∀ v, Sp n (RowsFrom 0 M) v ↔ if vals then Sat n m v else Ann n m v
  rank : M.length + C.length = n
  lC : C.length ≤ 4
  lM : M.length ≤ 4
  bC : ∀ x ∈ C, RowLe 629856 x ∧ x.length = n
  bM : ∀ x ∈ M, RowLe 629856 x ∧ x.length = n
theorem sat_iff {n : Nat} {m B : List (List Int)} (hs : SpEq n (RowsFrom 0 m) (RowsFrom 0 B)) (v : List Int) : Sat n m v ↔ Sat n B v :=
  ⟨fun ⟨h, D, h1, h2⟩ => ⟨h, D, h1, (hs.iff _).1 h2⟩, fun ⟨h, D, h1, h2⟩ => ⟨h, D, h1, (hs.iff _).2 h2⟩⟩
theorem chk_of {n : Nat} {C : List (List Int)} {ps : Nat → Nat} (hn : n ≤ 4) (h : HForm n C ps) (hl : C.length ≤ 4) (hb : ∀ x ∈ C, RowLe 629856 x ∧ x.length = n) : latE n C = 0 ∧ chkE n C = 0 := by
  have hl0 : latE n C = 0 := by
    unfold latE
    rw [if_neg (by omega), if_neg (by omega)]
    exact allE_of fun r hr => ⟨okRow_of (by have := (hb r hr).2; omega) ((hb r hr).1.mono (by decide)), (hb r hr).2⟩
  exact ⟨hl0, by unfold chkE; rw [if_pos hl0, if_pos (hform_herm h)]⟩
theorem form_self {n : Nat} {C : List (List Int)} {ps : Nat → Nat} (hn : n ≤ 4) (h : HForm n C ps) (hl : C.length ≤ 4) (hb : ∀ x ∈ C, RowLe 629856 x ∧ x.length = n) : ∃ F, formO n F n C = some C := by
  obtain ⟨F', R', ps', g1, g2, g3, -, g5⟩ := form_all n 4 6 C (fun x hx => (hb x hx).2) (fun x hx => (hb x hx).1.mono (by decide)) (.inl hl) (by decide) (by decide)
  exact ⟨F', by rw [g1, hform_unique g3 h g5.symm]⟩
/-- The rows of a plan: their form, its annihilator, its saturation, as FromCommas and FromMapping need them; and those of the results again. -/
theorem plan_temp {n : Nat} {m : List (List Int)} (hn1 : 1 ≤ n) (hn : n ≤ 4) (hm : m.length ≤ 4) (hw : ∀ x ∈ m, x.length = n) (h9 : ∀ x ∈ m, RowLe 9 x) (P : List Int) (hP : primesE P = 0) (hPl : P.length = n) :
    ∃ F R A S, FromD n F m R A S ∧ FromD n F S S A S ∧ FromD n F A A S A ∧ TempF n F P m S A false ∧ TempF n F P m A S true := by
  obtain ⟨F1, R, ps, f1, f2, f3, f4, f5, f6, -⟩ := plan_form n m (by omega) hm hw h9
  obtain ⟨F2, A, S, d⟩ := plan_dual hn hw h9 f2 f5
  obtain ⟨qa, hA⟩ := d.fA
  obtain ⟨qs, hS⟩ := d.fS
  have lA := hform_len hA; have lS := hform_len hS
  have cA := chk_of hn hA (by omega) d.bA
  have cS := chk_of hn hS (by omega) d.bS
  obtain ⟨F3, hFS⟩ := form_self hn hS (by omega) d.bS
  obtain ⟨F4, hFA⟩ := form_self hn hA (by omega) d.bA
  have hWm : Wid n m := fun i hi => hw _ (rowE_mem hi)
  have hlat : latE n m = 0 := by
    unfold latE
    rw [if_neg (by omega), if_neg (by omega)]
    exact allE_of fun r hr => ⟨okRow_of (by have := hw r hr; omega) ((h9 r hr).mono (by decide)), hw r hr⟩
  have kR := kerS_mono (F' := F1 + F2 + F3 + F4) (by omega) d.kR
  have kA := kerS_mono (F' := F1 + F2 + F3 + F4) (by omega) d.kA
  have kS := kerS_mono (F' := F1 + F2 + F3 + F4) (by omega) d.kS
  have gA : ∀ x ∈ A, RowLe 1000000000 x ∧ x.length = n := fun x hx => ⟨(d.bA x hx).1.mono (by decide), (d.bA x hx).2⟩
  have gS : ∀ x ∈ S, RowLe 1000000000 x ∧ x.length = n := fun x hx => ⟨(d.bS x hx).1.mono (by decide), (d.bS x hx).2⟩
  have gR : ∀ x ∈ R, RowLe 1000000000 x ∧ x.length = n := fun x hx => ⟨(f4 x hx).1.mono (by decide), (f4 x hx).2⟩
  have hn6 : n ≤ 6 := by omega
  have rS : RightT n (F1 + F2 + F3 + F4) P S A := ⟨hn1, hn6, hP, hPl, cS.2, kS, kA, by omega, by omega, gS, gA⟩
  have rA : RightT n (F1 + F2 + F3 + F4) P A S := ⟨hn1, hn6, hP, hPl, cA.2, kA, kS, by omega, by omega, gA, gS⟩
  have sS : ∀ v, Sp n (RowsFrom 0 S) v ↔ Sat n m v := fun v => (d.spS v).trans (sat_iff f5 v).symm
  have sA : ∀ v, Sp n (RowsFrom 0 A) v ↔ Ann n m v := fun v => (d.spA v).trans (ann_iff hWm f2.1 f5 v).symm
  refine ⟨F1 + F2 + F3 + F4, R, A, S, ⟨hn1, hn6, hlat, formO_mono (by omega) f1, ⟨by omega, gR⟩, f6, kR, kA, by omega, by omega, gA, gS⟩,
    ⟨hn1, hn6, cS.1, formO_mono (by omega) hFS, ⟨by omega, gS⟩, cS.2, kS, kA, by omega, by omega, gA, gS⟩,
    ⟨hn1, hn6, cA.1, formO_mono (by omega) hFA, ⟨by omega, gA⟩, cA.2, kA, kS, by omega, by omega, gS, gA⟩,
    ⟨rS, rA, ⟨qs, hS⟩, ⟨qa, hA⟩, sS, sA, d.rS, by omega, by omega, d.bS, d.bA⟩, ⟨rA, rS, ⟨qa, hA⟩, ⟨qs, hS⟩, sA, sS, by have := d.rS; omega, by omega, by omega, d.bA, d.bS⟩⟩

set_option maxRecDepth 100000 in
set_option maxHeartbeats 8000000 in
theorem make18_any (c : Int) (hc0 : 0 ≤ c) (hc1 : c ≤ 255) (n F : Nat) (P : List Int) (hP : P = primes12 (c % 10).toNat) (hn : P.length = n) (xss : List (List Int)) (hx3 : xss.length ≤ 3) (vals : Bool) (v : Value) (w : World) (h : Fours w v xss)
    (R A S : List (List Int)) (hD : FromD n F (rows18 n xss.length xss) R A S) (hlib : LibT w) (hp : 0 < w.heap.size) :
    Calls Tryz.prog 39 #[.agg #[.int .u8 c, v, .bool vals]] w fun e w' => ∃ u, e = .returned u ∧ TempV w' u P (if vals then A else S) (if vals then S else A) ∧ Ext w w' := by
  have HPR := Lib.hid (fun W => primes12_any c hc0 hc1 W)
  rw [← hP, hn] at HPR
  have hpe := (primes12_ok (c % 10).toNat).1
  rw [← hP] at hpe
  have hn4 : n ≤ 4 := by have := (primes12_ok (c % 10).toNat).2.2; rw [← hP, hn] at this; exact this
  have HIN := Lib.hid (fun W vp (hvp : Ints W vp P) (x : List Int) (h4 : x.length = 4) (hb : ∀ a ∈ x, -128 ≤ a ∧ a ≤ 127) => interval12_any n P x vp W hvp hn hn4 h4 hb)
  have HBD := Lib.hid (fun W (hW : Ext w W) T vp v (hT : ∀ k, T k → k < W.heap.size) (hP : SafeS W T fun W => Ints W vp P) (h : Rows2 W v (rows18 n xss.length xss)) => build_any n F P (rows18 n xss.length xss) R A S vals T vp v W hT hP h hpe hn hD (hlib.ext hW) (Nat.lt_of_lt_of_le hp hW.size))
  obtain ⟨a, cp, rfl, hx1, hx2, hxl, hx4⟩ := ListAt.open h
  have HX := Lib.hid hx4
  unfold maxLen at hx2
  obtain ⟨C, hC⟩ : ∃ C, (if vals = true then A else S) = C := ⟨_, rfl⟩
  obtain ⟨M, hM⟩ : ∃ M, (if vals = true then S else A) = M := ⟨_, rfl⟩
  rw [hC, hM] at HBD ⊢
  clear hx4 h hlib hp hD hpe hP hC hM
  go_enter Tryz.func39, Tryz.ntmps39
  go_wp2_with fail
  obtain ⟨W1, hW1⟩ : ∃ W1, w.alloc (.cells #[.int .u8 c, .slice a xss.length cp, .bool vals] 61) = W1 := ⟨_, rfl⟩
  have hb0 : W1.heap[w.heap.size]? = some (.cells #[.int .u8 c, .slice a xss.length cp, .bool vals] 61 (0, 0)) := by rw [← hW1]; exact block_new _ _ _
  have hE1 : Ext w W1 := by rw [← hW1]; exact Ext.alloc _ _
  have hs1 : W1.heap.size = w.heap.size + 1 := by rw [← hW1]; simp
  rw [hW1]
  obtain ⟨W2, hW2, hE2, hs2, hb2⟩ := tp_new W1 (.slice none 0 0) (.slice none 0 0) (.slice none 0 0)
  rw [hW2]
  rw [hs1] at hb2
  have HB0 := Lib.hid (block_ext hb0 hE2); have HB2 := Lib.hid hb2; have HE2 := Lib.hid (hE1.trans hE2)
  have HS2 : Hid (W2.heap.size = w.heap.size + 2) := by unfold Hid; omega
  clear hW1 hW2 hb0 hE1 hs1 hE2 hs2 hb2
  have p0 := block_cell HB0.out 0; have p1 := block_cell HB0.out 1; have p2 := block_cell HB0.out 2
  simp only [List.getElem?_toArray, List.getElem?_cons_zero, List.getElem?_cons_succ] at p0 p1 p2
  go_wp2_with fail
  refine (HPR.out _).mono ?_
  rintro e w3 ⟨ap, cpp, rfl, hpr, hE3⟩
  have HE3 := Lib.hid (HE2.out.trans hE3); have HB03 := Lib.hid (block_ext HB0.out hE3); have HB23 := Lib.hid (block_ext HB2.out hE3)
  have HPS := Lib.hid (hpr.low (S' := (· < w.heap.size + 2)) fun k hk => by have := HS2.out; omega)
  have HZ3 : Hid (w.heap.size + 2 ≤ w3.heap.size) := by unfold Hid; have := hE3.size; have := HS2.out; omega
  clear hE3 hpr HPR p0 p1 p2
  go_wp2_with fail
  go_loopw [4, 5] (fun so t wr => ∃ (i : Nat) (Q : Nat → Prop), i ≤ xss.length ∧ t = .int .i64 i ∧ Hid (Ext w3 wr) ∧ Hid (SOk Q w3.heap.size wr) ∧ Hid (∃ a c, so = .slice a i c) ∧ Hid (BuildS wr Q w3.heap.size 39 1 so rowC (rows18 n i xss))) (fun _ t _ => xss.length - (intOf t).toNat)
  case atStart => exact ⟨0, fun _ => False, by omega, rfl, Ext.refl _, fun b hb => hb.elim, ⟨none, 0, rfl⟩, BuildS.nil _ _ _ _ _ _⟩
  case round =>
    obtain ⟨i, Q, hi, rfl, HE, HOK, HSL, HBu⟩ := hrel
    obtain ⟨wo, rfl⟩ : ∃ wo : World, wo = wr := ⟨_, rfl⟩
    have HB0o := Lib.hid (block_ext HB03.out HE.out)
    have p0 := block_cell HB0o.out 0; have p1 := block_cell HB0o.out 1; have p2 := block_cell HB0o.out 2
    simp only [List.getElem?_toArray, List.getElem?_cons_zero, List.getElem?_cons_succ] at p0 p1 p2
    by_cases hlt : i < xss.length
    · have hi3 : i < 3 := by omega
      obtain ⟨b, off, rfl, hb, hcell⟩ := HX.out (by omega) (by intro e; rw [e] at hlt; simp at hlt)
      obtain ⟨x, hx⟩ : ∃ x, xss[i]? = some x := ⟨xss[i], List.getElem?_eq_getElem hlt⟩
      obtain ⟨u, hu, ⟨rfl, hx4, hxb⟩, hc⟩ := hcell i x hx
      obtain ⟨x0, x1, x2, x3, rfl⟩ : ∃ a b c d, x = [a, b, c, d] := by
        match x, hx4 with
        | [a, b, c, d], _ => exact ⟨a, b, c, d, rfl⟩
      have g0 := (HE3.out.trans HE.out).cell (hc 0 (by omega)); have g1 := (HE3.out.trans HE.out).cell (hc 1 (by omega))
      have g2 := (HE3.out.trans HE.out).cell (hc 2 (by omega)); have g3 := (HE3.out.trans HE.out).cell (hc 3 (by omega))
      rw [← Nat.add_assoc] at g0 g1 g2 g3
      rw [Nat.add_zero] at g0
      have HIV := Lib.hid (HIN.out wo _ (HPS.out.now.ext HE.out) [x0, x1, x2, x3] rfl hxb)
      have HN : Hid (rows18 n (i + 1) xss = rows18 n i xss ++ [row9 n [x0, x1, x2, x3]]) := by unfold Hid rows18; rw [List.take_add_one, hx, List.map_append]; rfl
      have HJL : Hid ((rows18 n i xss).length = i) := by unfold Hid rows18; rw [List.length_map, List.length_take]; omega
      have HJ : Hid ((rows18 n i xss).length < 1000000) := by unfold Hid; rw [HJL.out]; omega
      have HRL : Hid ((row9 n [x0, x1, x2, x3]).length = n) := row9_len (by simpa using hn4)
      clear hcell hc hx hu hxb
      go_wp2_with fail
      refine HIV.out.mono ?_
      rintro e w5 ⟨ar, cr, rfl, hO, hE5⟩
      have HSF : Hid (SafeS w5 Q fun W => rowC W [.slice ar n cr] (row9 n [x0, x1, x2, x3])) := (SafeS.owns hO (fun k hk hs => by have := (hO.lt k hk).1; have := (HOK.out k hs).2; omega)).mono (fun W h => ⟨_, rfl, Ints.of_owns (by rw [HRL.out]; exact h) (fun y hy => by have := row9_bd y hy; omega)⟩)
      have HB5 := Lib.hid (HBu.out.ext hE5)
      have HOK5 := Lib.hid (HOK.out.grow hE5.size)
      have HE5 := Lib.hid (HE.out.trans hE5)
      have hs5 := HE5.out.size
      clear hO hE5 HIV HBu HOK p0 p1 p2 g0 g1 g2 g3
      go_wp2_with (at_builtin; go_must (refine wpList_append_buildS _ rfl _ _ 28 rfl Q w3.heap.size 39 (.slice none 0 0) 1 24 Tryz.underlying28 infoRow rfl (by decide) u4 rowC (rows18 n i xss) (row9 n [x0, x1, x2, x3]) #[.slice ar n cr] 39 rfl HB5.out _ rfl rfl rfl ?a1 HSF.out HJ.out (by decide) hs5 w3.heap.size (Nat.le_refl _) HOK5.out ?_))
      case a1 => simp [Value.oneCell']
      intro v' w6 Q6 hok6 hS61 hS62 hB6 hg6 hb6 hs6 hsafe6
      have HV : Hid (∃ a c, v' = .slice a (i + 1) c) := by
        obtain ⟨gv, cv, hv, -⟩ := hB6.shape (by simp)
        refine ⟨some ⟨gv, 0, none⟩, cv, ?_⟩
        rw [hv, List.length_append, HJL.out]; rfl
      rw [← HN.out] at hB6
      have HB6 := Lib.hid hB6
      have HOK6 := Lib.hid hok6
      have HX6 := Lib.hid (Below.trans HE5.out hb6)
      clear hok6 hS61 hS62 hB6 hg6 hb6 hs6 hsafe6
      go_wp2_with fail
      go_roundw
      case rel => exact ⟨i + 1, Q6, by omega, by go_num, HX6.out, HOK6.out, HV, HB6.out⟩
      case measure => simp [intOf]; omega
    · obtain rfl : i = xss.length := by omega
      obtain ⟨sa, cs, rfl⟩ := HSL.out
      have HRS : Hid (Rows2 wo (.slice sa xss.length cs) (rows18 n xss.length xss)) := HBu.out.list
      have HE4 := Lib.hid (HE3.out.trans HE.out)
      have HB2o := Lib.hid (block_ext HB23.out HE.out)
      have HBI := Lib.hid (HBD.out wo HE4.out (· < w.heap.size + 2) _ _ (fun k hk => by have := HZ3.out; have := HE.out.size; omega) (HPS.out.ext HE.out) HRS.out)
      clear HIN HBu HOK HBD HSL
      go_wp2_with fail
      refine HBI.out.mono ?_
      rintro e w6 ⟨u6, rfl, hu6, hE6⟩
      obtain ⟨vp6, vc6, vm6, rfl, o1, o2, o3⟩ := hu6.now
      obtain ⟨ap6, lp6, cp6, rfl⟩ : ∃ a l c, vp6 = .slice a l c := by obtain ⟨a, c, h, -⟩ := o1.open; exact ⟨a, _, c, h⟩
      obtain ⟨ac6, lc6, cc6, rfl⟩ : ∃ a l c, vc6 = .slice a l c := by obtain ⟨a, c, h, -⟩ := inCell.open o2; exact ⟨a, _, c, h⟩
      obtain ⟨am6, lm6, cm6, rfl⟩ : ∃ a l c, vm6 = .slice a l c := by obtain ⟨a, c, h, -⟩ := inCell.open o3; exact ⟨a, _, c, h⟩
      have HE6 := Lib.hid (HE4.out.trans hE6); have HB6 := Lib.hid (block_ext HB2o.out hE6); have HU6 := Lib.hid hu6
      clear hE6 hu6 HBI HB2o p0 p1 p2 o1 o2 o3
      obtain ⟨V1, hV1, hX1, hs1, hb1⟩ := tp_new w6 (.slice none 0 0) (.slice none 0 0) (.slice none 0 0)
      obtain ⟨r0, r1, r2, rf⟩ := tp_block hb1
      have f0 := rf 0; have f1 := rf 1; have f2 := rf 2
      have HB7 := Lib.hid (tp_store hb1 (.slice ap6 lp6 cp6) (.slice ac6 lc6 cc6) (.slice am6 lm6 cm6))
      have HXU := Lib.hid (ext_tp hX1 (Nat.le_refl _) (.slice ap6 lp6 cp6) (.slice ac6 lc6 cc6) (.slice am6 lm6 cm6))
      clear hX1 hs1 hb1 rf
      obtain ⟨U1, hU1⟩ : ∃ U1, ((V1.setCell ⟨w6.heap.size, 0, none⟩ (.slice ap6 lp6 cp6)).setCell ⟨w6.heap.size, 1, none⟩ (.slice ac6 lc6 cc6)).setCell ⟨w6.heap.size, 2, none⟩ (.slice am6 lm6 cm6) = U1 := ⟨_, rfl⟩
      rw [hU1] at HB7 HXU
      obtain ⟨s0, s1, s2, -⟩ := tp_block HB7.out
      have HB8 := Lib.hid (block_ext HB6.out HXU.out)
      obtain ⟨t0, t1, t2, tf⟩ := tp_block HB8.out
      have g0 := tf 0; have g1 := tf 1; have g2 := tf 2
      have HU7 := Lib.hid (HU6.out.ext HXU.out)
      have HE7 := Lib.hid (HE6.out.trans HXU.out)
      clear tf
      go_wp2_with fail
      clear hU1 hV1 r0 r1 r2 f0 f1 f2
      have hkA := tp_store HB8.out (.slice ap6 lp6 cp6) (.slice ac6 lc6 cc6) (.slice am6 lm6 cm6)
      refine bodyPost_ret (results_cell_row (by rfl) _ _ (w.heap.size + 1) 65 #[.slice ap6 lp6 cp6, .slice ac6 lc6 cc6, .slice am6 lm6 cm6] (0, 0) _ (by rfl) hkA Tryz.underlying65 (by rfl) (by kernel_rfl)) (by rfl) ?_
      have hG : ∀ (x y z : Value), GrownS (· < w.heap.size + 2) U1 (((U1.setCell ⟨w.heap.size + 1, 0, none⟩ x).setCell ⟨w.heap.size + 1, 1, none⟩ y).setCell ⟨w.heap.size + 1, 2, none⟩ z) := fun x y z => by
        have hlt : w.heap.size + 1 < w.heap.size + 2 := by omega
        exact (((GrownS.refl _ U1).setCell (g := w.heap.size + 1) hlt 0 x).setCell (g := w.heap.size + 1) hlt 1 y).setCell (g := w.heap.size + 1) hlt 2 z
      exact ⟨_, rfl, HU7.out _ (hG _ _ _), ext_tp HE7.out (Nat.le_succ _) _ _ _⟩
end Go.Proofs.YtehknemdfbkimaaGreatDoor
/- The text builder of package strings, as this program holds it: WriteString, WriteByte, String. -/
namespace Go.Proofs.YtehknemdfbkimaaGreatDoor
set_option linter.unusedVariables false
set_option linter.unusedSimpArgs false
open Go.RowKit

/-- Blocks of other types stay as they are. -/
def KeepsT (w w' : World) : Prop := ∀ (k : Nat) (C : Array Value) (T : TypeId) (fr : Nat × Nat), w.heap[k]? = some (.cells C T fr) → T ≠ 5 → T ≠ 138 → w'.heap[k]? = some (.cells C T fr)
theorem KeepsT.refl (w : World) : KeepsT w w := fun _ _ _ _ h _ _ => h
theorem KeepsT.trans {a b c : World} (h : KeepsT a b) (k : KeepsT b c) : KeepsT a c := fun i C T fr hi h1 h2 => k i C T fr (h i C T fr hi h1 h2) h1 h2
theorem KeepsT.ext {a b : World} (h : Ext a b) : KeepsT a b := fun i C T fr hi _ _ => block_ext hi h
theorem KeepsT.set {w : World} {b i : Nat} {x : Value} {C : Array Value} {fr : Nat × Nat} (h : w.heap[b]? = some (.cells C 138 fr)) : KeepsT w (w.setCell ⟨b, i, none⟩ x) := fun k C' T fr' hk _ h2 => by
  have hne : k ≠ b := fun e => by subst e; rw [h] at hk; cases hk; exact h2 rfl
  exact (setCell_heap_other _ _ _ _ _ hne).trans hk
abbrev TB (b : Nat) (bs : List Value) (B : Nat) (w : World) : Prop := Lib.IsBuilder 138 5 B b bs w
theorem builderSize : (Tryz.prog.info? 138).map (·.size) = some 2 := by kernel_rfl
set_option maxRecDepth 100000 in
set_option maxHeartbeats 1000000 in
theorem copyCheck_used (b : Nat) (w : World) (h0 : w.cell? ⟨b, 0, none⟩ = some (.pointer (some ⟨b, 0, none⟩))) :
    Calls Tryz.prog 154 #[.pointer (some ⟨b, 0, none⟩)] w fun e w' => e = .returned (.tuple #[]) ∧ w = w' := by
  obtain ⟨j, hj, -⟩ := Option.map_eq_some_iff.1 builderSize
  go_enter Tryz.func154, Tryz.ntmps154
  go_wp2
  rw [Lib.run_neq_ptr_same w _ Tryz.underlying135 hj]
  go_wp2
  go_end0
  exact ⟨rfl, rfl⟩
set_option maxRecDepth 100000 in
set_option maxHeartbeats 1000000 in
theorem copyCheck_fresh (b : Nat) (w : World) (h0 : w.cell? ⟨b, 0, none⟩ = some (.pointer none)) (hsh : w.shape? b = some (138, 2)) (hfz : w.frozen? ⟨b, 0, none⟩ = false) :
    Calls Tryz.prog 154 #[.pointer (some ⟨b, 0, none⟩)] w fun e w' => e = .returned (.tuple #[]) ∧ w' = w.setCell ⟨b, 0, none⟩ (.pointer (some ⟨b, 0, none⟩)) := by
  obtain ⟨j, hj, hjs⟩ := Option.map_eq_some_iff.1 builderSize
  go_enter Tryz.func154, Tryz.ntmps154
  go_wp2
  rw [Lib.run_to_unsafe w ⟨b, 0, none⟩ Tryz.underlying135 Tryz.underlying222 hj (by rw [hjs]; decide) hsh (Nat.zero_lt_succ 1)]
  simp only [Result.andThen]
  rw [Oper.upon_value]
  go_wp2
  rw [run_callFunc_extern Tryz.func193 (by kernel_rfl) (by kernel_rfl) (by kernel_rfl) (e := Extern.AbiNoEscape.same) (by kernel_rfl)]
  rw [Lib.run_noEscape]
  simp only [Result.andThen]
  rw [Oper.upon_value]
  go_wp2
  rw [Lib.run_from_unsafe w ⟨b, 0, none⟩ Tryz.underlying222 Tryz.underlying135 hj hsh (by kernel_rfl)]
  simp only [Result.andThen]
  rw [Oper.upon_value]
  go_wp2
  go_end0
  exact ⟨rfl, rfl⟩
theorem copyCheck_any (B b : Nat) (bs : List Value) (w : World) (h : TB b bs B w) :
    Calls Tryz.prog 154 #[.pointer (some ⟨b, 0, none⟩)] w fun e w' => e = .returned (.tuple #[]) ∧ Lib.BuilderAt 138 5 B b (.pointer (some ⟨b, 0, none⟩)) bs w' ∧ Below B w w' ∧ KeepsT w w' := by
  rcases h with h | h
  · refine (copyCheck_fresh b w h.cell0 h.shape h.frozen0).mono ?_
    rintro e w' ⟨h1, rfl⟩
    obtain ⟨v, hb, -⟩ := h.2
    exact ⟨h1, h.used _, (Below.refl B w).setCell (p := ⟨b, 0, none⟩) h.1 _, KeepsT.set hb⟩
  · refine (copyCheck_used b w h.cell0).mono ?_
    rintro e w' ⟨h1, rfl⟩
    exact ⟨h1, h, Below.refl B _, KeepsT.refl _⟩
theorem infoByte8 : (Tryz.prog.info? 5).map (fun i => (i.zero, i.size, i.bytes)) = some (some (.int .u8 0), 1, 1) := by kernel_rfl
set_option maxRecDepth 100000 in
set_option maxHeartbeats 4000000 in
theorem writeString_any (B b : Nat) (bs : List Value) (s : ByteArray) (w : World) (h : TB b bs B w) (hlen : bs.length + s.size ≤ 1000000000) (hBw : B ≤ w.heap.size) :
    Calls Tryz.prog 99 #[.pointer (some ⟨b, 0, none⟩), .string s] w fun e w' => e = .returned (.tuple #[.int .i64 s.size, .nilIface]) ∧ TB b (bs ++ Lib.strCells s) B w' ∧ Below B w w' ∧ KeepsT w w' := by
  obtain ⟨i0, hi, hz0, hz1, hz2⟩ := info_parts infoByte8
  have HI := Lib.hid hi; have HZ0 := Lib.hid hz0; have HZ1 := Lib.hid hz1; have HZ2 := Lib.hid hz2
  have HCC := Lib.hid (copyCheck_any B b bs w h)
  clear hi hz0 hz1 hz2 h
  go_enter Tryz.func99, Tryz.ntmps99
  go_wp2_with fail
  refine HCC.out.mono ?_
  rintro e w1 ⟨rfl, h1, hb1, hkt⟩
  have HKT := Lib.hid hkt
  obtain ⟨hB, v, hbk, hown, hne⟩ := h1
  have HBK := Lib.hid hbk; have HOW := Lib.hid hown; have HNE := Lib.hid hne; have HB1 := Lib.hid hb1
  have c1 : w1.cell? ⟨b, 1, none⟩ = some v := by rw [Lib.cell_of_heap hbk]; rfl
  have c0 : w1.cell? ⟨b, 0, none⟩ = some (.pointer (some ⟨b, 0, none⟩)) := by rw [Lib.cell_of_heap hbk]; rfl
  have hs1 : B ≤ w1.heap.size := Nat.le_trans hBw hb1.size
  clear hbk hown hne hb1 HCC hkt
  go_wp2_with (at_builtin; refine Lib.wpList_append_own_string _ rfl _ _ 136 9 rfl B 5 i0 Tryz.underlying136 Tryz.underlying9 HI.out HZ0.out HZ1.out HZ2.out _ _ _ rfl HOW.out s rfl ?c3 ?c4 ?c5 ?_)
  case c3 => unfold maxLen; omega
  case c4 => omega
  case c5 => exact hs1
  intro v' w2 hown' hgrow _
  have hlt : b < w1.heap.size := block_lt HBK.out
  have hb2 : w2.heap[b]? = some (.cells #[.pointer (some ⟨b, 0, none⟩), v] 138 (0, 0)) := by
    rw [hgrow.block b hlt (fun e => HNE.out e.symm)]; exact HBK.out
  have d1 : w2.cell? ⟨b, 1, none⟩ = some v := by rw [Lib.cell_of_heap hb2]; rfl
  have f1 : w2.frozen? ⟨b, 1, none⟩ = false := Lib.frozen_of_heap hb2 1
  obtain ⟨ao, n', cap, rfl⟩ : ∃ ao n' cap, v' = .slice ao n' cap := by
    rcases hown'.2 with ⟨hv, _⟩ | ⟨g, cap, cur, hv, _⟩
    · exact ⟨_, _, _, hv⟩
    · exact ⟨_, _, _, hv⟩
  have HP : Hid (TB b (bs ++ Lib.strCells s) B (w2.setCell ⟨b, 1, none⟩ (.slice ao n' cap))) := .inr (Lib.BuilderAt.put hB hb2 (bs' := bs ++ Lib.strCells s) (by simpa [Lib.strCells_length] using hown') (by decide))
  have HK2 : Hid (KeepsT w (w2.setCell ⟨b, 1, none⟩ (.slice ao n' cap))) := HKT.out.trans (KeepsT.trans (b := w2) (fun k C T fr hk h1 h2 => (hgrow.block k (block_lt hk) (fun e => owns_ne_block HOW.out hk (fun e2 => h1 e2.symm) e.symm)).trans hk) (KeepsT.set hb2))
  have HX : Hid (Below B w (w2.setCell ⟨b, 1, none⟩ (.slice ao n' cap))) := (HB1.out.grown hgrow hs1 (fun k hk => (HOW.out.lt k hk).1)).setCell (p := ⟨b, 1, none⟩) hB _
  clear hown' hgrow hb2
  go_wp2_with fail
  go_ret2
  exact ⟨rfl, HP.out, HX.out, HK2.out⟩
set_option maxRecDepth 100000 in
set_option maxHeartbeats 4000000 in
theorem writeByte_any (B b : Nat) (bs : List Value) (c : Int) (w : World) (h : TB b bs B w) (hlen : bs.length + 1 ≤ 1000000000) (hBw : B ≤ w.heap.size) :
    Calls Tryz.prog 101 #[.pointer (some ⟨b, 0, none⟩), .int .u8 c] w fun e w' => e = .returned .nilIface ∧ TB b (bs ++ [.int .u8 c]) B w' ∧ Below B w w' ∧ KeepsT w w' := by
  obtain ⟨i0, hi, hz0, hz1, hz2⟩ := info_parts infoByte8
  have HI := Lib.hid hi; have HZ0 := Lib.hid hz0; have HZ1 := Lib.hid hz1; have HZ2 := Lib.hid hz2
  have HCC := Lib.hid (copyCheck_any B b bs w h)
  clear hi hz0 hz1 hz2 h
  go_enter Tryz.func101, Tryz.ntmps101
  go_wp2_with fail
  refine HCC.out.mono ?_
  rintro e w1 ⟨rfl, h1, hb1, hkt⟩
  have HKT := Lib.hid hkt
  obtain ⟨hB, v, hbk, hown, hne⟩ := h1
  have HBK := Lib.hid hbk; have HOW := Lib.hid hown; have HNE := Lib.hid hne; have HB1 := Lib.hid hb1
  have c1 : w1.cell? ⟨b, 1, none⟩ = some v := by rw [Lib.cell_of_heap hbk]; rfl
  have c0 : w1.cell? ⟨b, 0, none⟩ = some (.pointer (some ⟨b, 0, none⟩)) := by rw [Lib.cell_of_heap hbk]; rfl
  have hs1 : B ≤ w1.heap.size := Nat.le_trans hBw hb1.size
  clear hbk hown hne hb1 HCC hkt
  go_wp2_with (at_builtin; refine wpList_append_own _ rfl _ _ 136 rfl B 5 i0 (.int .u8 0) 1 1 Tryz.underlying136 HI.out HZ0.out HZ1.out HZ2.out rfl (by decide) _ _ _ rfl (HOW.out.alloc _) ⟨w1.heap.size, 0, none⟩ 1 1 [.int .u8 c] rfl rfl ?c1 ?c2 ?c3 ?c4 ?c5 ?_)
  case c1 =>
    intro j u hj
    match j, hj with
    | 0, hj => simp at hj; subst hj; simp [Addr.add]
  case c2 => intro u hu; simp at hu; subst hu; rfl
  case c3 => unfold maxLen; omega
  case c4 => omega
  case c5 => simp; omega
  intro v' w2 hown' hgrow _
  have hlt : b < w1.heap.size := block_lt HBK.out
  have hb2 : w2.heap[b]? = some (.cells #[.pointer (some ⟨b, 0, none⟩), v] 138 (0, 0)) := by
    rw [hgrow.block b (by simp; omega) (fun e => HNE.out e.symm), Lib.alloc_old w1 _ b hlt]; exact HBK.out
  have d1 : w2.cell? ⟨b, 1, none⟩ = some v := by rw [Lib.cell_of_heap hb2]; rfl
  have f1 : w2.frozen? ⟨b, 1, none⟩ = false := Lib.frozen_of_heap hb2 1
  obtain ⟨ao, n', cap, rfl⟩ : ∃ ao n' cap, v' = .slice ao n' cap := by
    rcases hown'.2 with ⟨hv, _⟩ | ⟨g, cap, cur, hv, _⟩
    · exact ⟨_, _, _, hv⟩
    · exact ⟨_, _, _, hv⟩
  have HP : Hid (TB b (bs ++ [.int .u8 c]) B (w2.setCell ⟨b, 1, none⟩ (.slice ao n' cap))) := .inr (Lib.BuilderAt.put hB hb2 (bs' := bs ++ [.int .u8 c]) (by simpa using hown') (by decide))
  have HK2 : Hid (KeepsT w (w2.setCell ⟨b, 1, none⟩ (.slice ao n' cap))) := HKT.out.trans (KeepsT.trans (b := w2) (fun k C T fr hk h1 h2 => (hgrow.block k (by have := block_lt hk; simp; omega) (fun e => owns_ne_block HOW.out hk (fun e2 => h1 e2.symm) e.symm)).trans (by rw [Lib.alloc_old w1 _ k (block_lt hk)]; exact hk)) (KeepsT.set hb2))
  have HX : Hid (Below B w (w2.setCell ⟨b, 1, none⟩ (.slice ao n' cap))) := ((HB1.out.alloc hs1 _).grown hgrow (by simp; omega) (fun k hk => (HOW.out.lt k hk).1)).setCell (p := ⟨b, 1, none⟩) hB _
  clear hown' hgrow hb2
  go_wp2_with fail
  go_ret
  exact ⟨rfl, HP.out, HX.out, HK2.out⟩
/-- A builder that holds a text. -/
def TBy (b : Nat) (L : List UInt8) (B : Nat) (w : World) : Prop := TB b (Lib.byteCells L) B w
theorem byteCells_app (a b : List UInt8) : Lib.byteCells (a ++ b) = Lib.byteCells a ++ Lib.byteCells b := by unfold Lib.byteCells; rw [List.map_append]
theorem writeS_any (B b : Nat) (L l : List UInt8) (w : World) (h : TBy b L B w) (hlen : L.length + l.length ≤ 1000000000) (hBw : B ≤ w.heap.size) :
    Calls Tryz.prog 99 #[.pointer (some ⟨b, 0, none⟩), .string ⟨l.toArray⟩] w fun e w' => ∃ v, e = .returned (.tuple #[.int .i64 v, .nilIface]) ∧ TBy b (L ++ l) B w' ∧ Below B w w' ∧ KeepsT w w' :=
  (writeString_any B b (Lib.byteCells L) ⟨l.toArray⟩ w h (by rw [Lib.byteCells_length]; show _ + l.toArray.size ≤ _; simpa using hlen) hBw).mono fun e w' ⟨h1, h2, h3, h4⟩ => ⟨_, h1, by unfold TBy; rw [byteCells_app, ← Lib.strCells_toArray]; exact h2, h3, h4⟩
theorem writeB_any (B b : Nat) (L : List UInt8) (w : World) (h : TBy b L B w) (hlen : L.length + 1 ≤ 1000000000) (hBw : B ≤ w.heap.size) :
    Calls Tryz.prog 101 #[.pointer (some ⟨b, 0, none⟩), .int .u8 32] w fun e w' => e = .returned .nilIface ∧ TBy b (L ++ [32]) B w' ∧ Below B w w' ∧ KeepsT w w' :=
  (writeByte_any B b (Lib.byteCells L) 32 w h (by rw [Lib.byteCells_length]; exact hlen) hBw).mono fun e w' ⟨h1, h2, h3, h4⟩ => ⟨h1, by unfold TBy; rw [byteCells_app]; exact h2, h3, h4⟩
theorem TBy.ext {b B : Nat} {L : List UInt8} {w w' : World} (h : TBy b L B w) (he : Ext w w') : TBy b L B w' := by
  have key : ∀ p, Lib.BuilderAt 138 5 B b p (Lib.byteCells L) w → Lib.BuilderAt 138 5 B b p (Lib.byteCells L) w' := fun p ⟨h1, v, h2, h3, h4⟩ => ⟨h1, v, block_ext h2 he, owns_ext h3 he, h4⟩
  rcases h with h | h
  · exact .inl (key _ h)
  · exact .inr (key _ h)
theorem textOf_any (B b : Nat) (L : List UInt8) (w : World) (h : TBy b L B w) (hBw : B ≤ w.heap.size) :
    Calls Tryz.prog 102 #[.pointer (some ⟨b, 0, none⟩)] w fun e w' => e = .returned (.string ⟨L.toArray⟩) ∧ Below B w w' :=
  Tryz.Builder_String_any B b L w h hBw
end Go.Proofs.YtehknemdfbkimaaGreatDoor
