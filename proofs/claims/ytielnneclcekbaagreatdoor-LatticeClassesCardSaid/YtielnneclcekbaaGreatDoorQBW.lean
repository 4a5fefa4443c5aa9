/- Merged: ClassW. -/
import Derived.Test.YtielnneclcekbaaGreatDoorQBV
import Derived.Test.YtielnneclcekbaaGreatDoorQBU
import Derived.Test.YtielnneclcekbaaGreatDoorQBS
import Derived.Test.YtielnneclcekbaaGreatDoorQBT
/- The walk of LatticeClasses. -/
namespace Go.Proofs.YtielnneclcekbaaGreatDoor
set_option linter.unusedVariables false
set_option linter.unusedSimpArgs false
open Go.RowKit

theorem fours_len {w : World} {v : Value} {xss : List (List Int)} (h : Fours w v xss) : ∀ x ∈ xss, x.length = 4 := by
  obtain ⟨us, h1, _, _, h7⟩ := h
  intro x hx
  obtain ⟨j, hj⟩ := List.getElem?_of_mem hx
  have hlt : j < us.length := by rw [h1]; exact (List.getElem?_eq_some_iff.1 hj).1
  exact (h7 j us[j] x (List.getElem?_eq_getElem hlt) hj).2.1
theorem rows9_ok {n : Nat} {xss : List (List Int)} (hn : n ≤ 4) (h : ∀ x ∈ xss, x.length = 4) : (rows9 n xss).length ≤ 4 ∧ ∀ r ∈ rows9 n xss, r.length = n ∧ RowLe 9 r := by
  refine ⟨by unfold rows9 rowsT; rw [List.length_map, List.length_take]; omega, fun r hr => ?_⟩
  obtain ⟨x, hx, rfl⟩ := List.mem_map.1 hr
  refine ⟨row9_len (by rw [h x (List.mem_of_mem_take hx)]; exact hn), fun y hy => ?_⟩
  obtain ⟨z, -, rfl⟩ := List.mem_map.1 hy
  have := tmod_bd z 10 (by decide)
  omega
theorem latE_of {n : Nat} {R : List (List Int)} (hn : n ≤ 12) (hl : R.length ≤ 12) (h : ∀ r ∈ R, r.length = n ∧ RowLe 1000000000 r) : latE n R = 0 := by
  unfold latE
  rw [if_neg (by omega), if_neg (by omega)]
  exact allE_of fun r hr => ⟨okRow_of (by have := (h r hr).1; omega) (h r hr).2, (h r hr).1⟩
/-- Of, where the form is known and small. -/
theorem of_plan (n F : Nat) (xss R : List (List Int)) (v : Value) (w : World) (h : Rows2 w v xss) (hn : n ≤ 12) (hx : xss.length ≤ 12) (hxr : ∀ r ∈ xss, r.length = n ∧ RowLe 1000000000 r) (hF : formO n F n xss = some R) (hR : R.length ≤ 12) (hRr : ∀ r ∈ R, r.length = n ∧ RowLe 1000000000 r) (hlib : LibT w) (hb : 2 < w.heap.size) :
    Calls Tryz.prog 12 #[.int .i64 n, v] w fun e w' => ∃ u, e = .returned (.tuple #[.agg #[.int .i64 n, u], .int .i64 0]) ∧ Rows2 w' u R ∧ Ext w w' := by
  refine (of_any' n F xss R v w h (latE_of hn hx hxr) hF (fun r hr => all_smB (hRr r hr).2) (fun r hr => by have := (hRr r hr).1; omega) (by omega) hlib hb).mono fun e w' he => ?_
  unfold LsR at he
  have hfit : (R.all fun r => r.all fit9B) = true := by
    rw [List.all_eq_true]; intro r hr; rw [List.all_eq_true]; intro x hx
    have := (hRr r hr).2 x hx
    unfold fit9B; simp; omega
  rw [if_pos hfit] at he
  obtain ⟨⟨u, h1, h2⟩, h3⟩ := he
  exact ⟨u, h1, h2.now, h3⟩

theorem getD_bd {x : List Int} (h : ∀ a ∈ x, -128 ≤ a ∧ a ≤ 127) (i : Nat) : -128 ≤ x.getD i 0 ∧ x.getD i 0 ≤ 127 := by
  rw [List.getD_eq_getElem?_getD]
  cases e : x[i]? with
  | none => simp
  | some a => exact h a (List.mem_of_getElem? e)
set_option maxRecDepth 100000 in
set_option maxHeartbeats 40000000 in
theorem classes_walk (c : Int) (hc0 : 0 ≤ c) (hc1 : c ≤ 255) (xss : List (List Int)) (v : Value) (x y : List Int) (hx : x.length = 4) (hy : y.length = 4) (hxb : ∀ a ∈ x, -128 ≤ a ∧ a ≤ 127) (hyb : ∀ a ∈ y, -128 ≤ a ∧ a ≤ 127) (w : World) (h : Fours w v xss) (hlib : LibT w) (hb : 2 < w.heap.size) :
    Calls Tryz.prog 6 #[.agg #[.int .u8 c, v], .agg (x.map (Value.int .i8)).toArray, .agg (y.map (Value.int .i8)).toArray] w fun e w' => e = .returned (.bool true) ∧ Ext w w' := by
  obtain ⟨n, hn, hn1, hn2⟩ : ∃ n : Nat, 1 + c % 4 = (n : Int) ∧ 1 ≤ n ∧ n ≤ 4 := ⟨(1 + c % 4).toNat, by omega, by omega, by omega⟩
  have HKN := Lib.hid (fun W (hW : Ext w W) => known9_any W (hlib.ext hW) (Nat.lt_of_lt_of_le hb hW.size))
  have HRW := Lib.hid (fun W (hW : Ext w W) => rows9_any c hc0 hc1 xss v W (h.ext hW))
  rw [hn, Int.toNat_natCast] at HRW
  obtain ⟨x0, x1, x2, x3, rfl⟩ : ∃ a b c d, x = [a, b, c, d] := by
    match x, hx with
    | [a, b, c, d], _ => exact ⟨a, b, c, d, rfl⟩
  obtain ⟨y0, y1, y2, y3, rfl⟩ : ∃ a b c d, y = [a, b, c, d] := by
    match y, hy with
    | [a, b, c, d], _ => exact ⟨a, b, c, d, rfl⟩
  have hrr := rows9_ok (n := n) hn2 (fours_len h)
  obtain ⟨F, R, ps, f1, f2, f3, f4, f5, f6, F', f7⟩ := plan_form n (rows9 n xss) (by omega) hrr.1 (fun r hr => (hrr.2 r hr).1) (fun r hr => (hrr.2 r hr).2)
  have hRr : ∀ r ∈ R, r.length = n ∧ RowLe 1000000000 r := fun r hr => ⟨(f4 r hr).2, (f4 r hr).1.mono (by decide)⟩
  have HOF := Lib.hid (fun W (hW : Ext w W) u (hu : Rows2 W u (rows9 n xss)) => of_plan n F (rows9 n xss) R u W hu (by omega) (Nat.le_trans hrr.1 (by decide)) (fun r hr => ⟨(hrr.2 r hr).1, (hrr.2 r hr).2.mono (by decide)⟩) f1 (by omega) hRr (hlib.ext hW) (Nat.lt_of_lt_of_le hb hW.size))
  have HOG := Lib.hid (fun W (hW : Ext w W) u (hu : Rows2 W u R) => of_plan n F' R R u W hu (by omega) (by omega) hRr f7 (by omega) hRr (hlib.ext hW) (Nat.lt_of_lt_of_le hb hW.size))
  have HPF0 : Hid (PlanF n (rows9 n xss) R ps) := ⟨by omega, fun r hr => (hrr.2 r hr).1, fun r hr => (hrr.2 r hr).2, f2, f3, f4, f5, f6⟩
  clear f1 f7 hrr hRr
  obtain ⟨a, cp, rfl, hx1, hx2, hx3, hx4⟩ := ListAt.open h
  have HFT := Lib.hid (fun W (hW : Ext w W) => (fits9_any (.int .u8 c) (.int .u8 c) a a xss.length xss.length cp cp W))
  unfold maxLen at hx2
  obtain ⟨FT, hFT⟩ : ∃ b, (decide (xss.length ≤ 4) && decide (xss.length ≤ 4)) = b := ⟨_, rfl⟩
  rw [hFT] at HFT
  have HLIB : Hid (∀ W, Ext w W → LibT W ∧ 2 < W.heap.size) := fun W hW => ⟨hlib.ext hW, Nat.lt_of_lt_of_le hb hW.size⟩
  clear hx4 h hb hlib
  go_enter Tryz.func6, Tryz.ntmps6
  go_wp2_with fail
  obtain ⟨W0, hW0⟩ : ∃ W0, W0 = (((w.alloc (.cells #[.int .u8 c, .slice a xss.length cp] 39)).alloc (.cells #[.int .i8 x0, .int .i8 x1, .int .i8 x2, .int .i8 x3] 60)).alloc (.cells #[.int .i8 y0, .int .i8 y1, .int .i8 y2, .int .i8 y3] 60)) := ⟨_, rfl⟩
  have HE0 : Hid (Ext w W0) := by rw [hW0]; exact (Ext.alloc _ _).trans ((Ext.alloc _ _).trans (Ext.alloc _ _))
  have HP0 : Hid (W0.heap[w.heap.size]? = some (.cells #[.int .u8 c, .slice a xss.length cp] 39 (0, 0))) := by rw [hW0]; exact block_ext (block_ext (block_new _ _ _) (Ext.alloc _ _)) (Ext.alloc _ _)
  have HX0 : Hid (W0.heap[w.heap.size + 1]? = some (.cells #[.int .i8 x0, .int .i8 x1, .int .i8 x2, .int .i8 x3] 60 (0, 0))) := by
    rw [hW0]; exact block_ext (by have := block_new (w.alloc (.cells #[.int .u8 c, .slice a xss.length cp] 39)) #[.int .i8 x0, .int .i8 x1, .int .i8 x2, .int .i8 x3] 60; simpa using this) (Ext.alloc _ _)
  have HY0 : Hid (W0.heap[w.heap.size + 1 + 1]? = some (.cells #[.int .i8 y0, .int .i8 y1, .int .i8 y2, .int .i8 y3] 60 (0, 0))) := by
    unfold Hid; rw [hW0]; have := block_new ((w.alloc (.cells #[.int .u8 c, .slice a xss.length cp] 39)).alloc (.cells #[.int .i8 x0, .int .i8 x1, .int .i8 x2, .int .i8 x3] 60)) #[.int .i8 y0, .int .i8 y1, .int .i8 y2, .int .i8 y3] 60; simpa using this
  rw [← hW0]
  clear hW0
  refine (HKN.out _ HE0.out).mono ?_
  rintro e w1 ⟨rfl, hE1⟩
  have HE1 := Lib.hid (HE0.out.trans hE1)
  have HP1 := Lib.hid (block_ext HP0.out hE1); have HX1 := Lib.hid (block_ext HX0.out hE1); have HY1 := Lib.hid (block_ext HY0.out hE1)
  have p0 := block_cell HP1.out 0; have p1 := block_cell HP1.out 1
  simp only [List.getElem?_toArray, List.getElem?_cons_zero, List.getElem?_cons_succ] at p0 p1
  clear hE1 HE0 HP0 HX0 HY0
  go_wp2_with fail
  refine (HFT.out _ HE1.out).mono ?_
  rintro e w2 ⟨rfl, hE2⟩
  have HE2 := Lib.hid (HE1.out.trans hE2)
  have HP2 := Lib.hid (block_ext HP1.out hE2); have HX2 := Lib.hid (block_ext HX1.out hE2); have HY2 := Lib.hid (block_ext HY1.out hE2)
  clear hE2 HE1 HP1 HX1 HY1 p0 p1 HFT
  have p0 := block_cell HP2.out 0; have p1 := block_cell HP2.out 1
  simp only [List.getElem?_toArray, List.getElem?_cons_zero, List.getElem?_cons_succ] at p0 p1
  cases FT with
  | false =>
    clear hFT
    go_wp2_with fail
    refine (HKN.out _ HE2.out).mono ?_
    rintro e w3 ⟨rfl, hE3⟩
    have HE3 := Lib.hid (HE2.out.trans hE3)
    clear hE3 HKN
    go_wp2_with fail
    go_ret
    exact ⟨rfl, HE3.out⟩
  | true =>
  have hx4 : xss.length ≤ 4 := by simpa using hFT
  clear hFT HKN
  go_wp2_with fail
  refine (HRW.out _ HE2.out).mono ?_
  rintro e w3 ⟨u, rfl, hu, hE3⟩
  have HE3 := Lib.hid (HE2.out.trans hE3)
  have HP3 := Lib.hid (block_ext HP2.out hE3); have HX3 := Lib.hid (block_ext HX2.out hE3); have HY3 := Lib.hid (block_ext HY2.out hE3)
  have HU := Lib.hid hu
  clear hE3 HE2 HP2 HX2 HY2 p0 p1 HRW hu
  go_wp2_with fail
  refine (HOF.out _ HE3.out _ HU.out).mono ?_
  rintro e w4 ⟨u4, rfl, hu4, hE4⟩
  obtain ⟨a4, c4, rfl, -⟩ := ListAt.open hu4
  have HE4 := Lib.hid (HE3.out.trans hE4)
  have HX4 := Lib.hid (block_ext HX3.out hE4); have HY4 := Lib.hid (block_ext HY3.out hE4)
  have HU4 := Lib.hid hu4
  clear hE4 HE3 HP3 HX3 HY3 HOF hu4 HU
  obtain ⟨V1, hV1, hX1, hs1, hb1⟩ := lat_new w4 (.int .i64 0) (.slice none 0 0)
  obtain ⟨r0, r1, rf⟩ := lat_block hb1
  have f0 := rf 0; have f1 := rf 1
  have HB1 := Lib.hid (lat_store hb1 (.int .i64 n) (.slice a4 R.length c4))
  have HXU := Lib.hid (ext_lat hX1 (Nat.le_refl _) (.int .i64 n) (.slice a4 R.length c4))
  clear hX1 hs1 hb1 rf
  obtain ⟨U1, hU1⟩ : ∃ U1, (V1.setCell ⟨w4.heap.size, 0, none⟩ (.int .i64 n)).setCell ⟨w4.heap.size, 1, none⟩ (.slice a4 R.length c4) = U1 := ⟨_, rfl⟩
  rw [hU1] at HB1 HXU
  obtain ⟨s0, s1, -⟩ := lat_block HB1.out
  have HEU1 := Lib.hid (HE4.out.trans HXU.out)
  have HRU1 := Lib.hid (HU4.out.ext HXU.out)
  have HXU1 := Lib.hid (block_ext HX4.out HXU.out); have HYU1 := Lib.hid (block_ext HY4.out HXU.out)
  go_wp2_with fail
  clear hU1 hV1 r0 r1 f0 f1 HE4 HX4 HY4 HU4
  refine (HOG.out _ HEU1.out _ HRU1.out).mono ?_
  rintro e w5 ⟨u5, rfl, hu5, hE5⟩
  obtain ⟨a5, c5, rfl, -⟩ := ListAt.open hu5
  have HE5 := Lib.hid (HEU1.out.trans hE5)
  have HB5 := Lib.hid (block_ext HB1.out hE5)
  have HL5 := Lib.hid (HRU1.out.ext hE5)
  have HX5 := Lib.hid (block_ext HXU1.out hE5); have HY5 := Lib.hid (block_ext HYU1.out hE5)
  have HU5 := Lib.hid hu5
  clear hE5 HOG hu5 s0 s1 HEU1 HRU1 HXU1 HYU1 HB1 HXU
  obtain ⟨V2, hV2, hX2, hs2, hb2⟩ := lat_new w5 (.int .i64 0) (.slice none 0 0)
  obtain ⟨r0, r1, rf⟩ := lat_block hb2
  have f0 := rf 0; have f1 := rf 1
  have HB6 := Lib.hid (lat_store hb2 (.int .i64 n) (.slice a5 R.length c5))
  have HXU := Lib.hid (ext_lat hX2 (Nat.le_refl _) (.int .i64 n) (.slice a5 R.length c5))
  clear hX2 hs2 hb2 rf
  obtain ⟨U2, hU2⟩ : ∃ U2, (V2.setCell ⟨w5.heap.size, 0, none⟩ (.int .i64 n)).setCell ⟨w5.heap.size, 1, none⟩ (.slice a5 R.length c5) = U2 := ⟨_, rfl⟩
  rw [hU2] at HB6 HXU
  have HE6 := Lib.hid (HE5.out.trans HXU.out)
  have HL6 := Lib.hid (HL5.out.ext HXU.out)
  have HA6 := Lib.hid (HU5.out.ext HXU.out)
  have HB56 := Lib.hid (block_ext HB5.out HXU.out)
  have HX6 := Lib.hid (block_ext HX5.out HXU.out); have HY6 := Lib.hid (block_ext HY5.out HXU.out)
  clear HE5 HB5 HL5 HX5 HY5 HU5
  go_wp2_with fail
  go_cut [13, 14, 15] from 52 to 57 (fun sa sb sd wx => ∃ (ga gb gd : Nat), sa = .slice (some ⟨ga, 0, none⟩) n n ∧ sb = .slice (some ⟨gb, 0, none⟩) n n ∧ sd = .slice (some ⟨gd, 0, none⟩) n n ∧ Hid (ga ≠ gb ∧ ga ≠ gd ∧ gb ≠ gd) ∧ Hid (U2.heap.size ≤ ga ∧ U2.heap.size ≤ gb ∧ U2.heap.size ≤ gd) ∧ Hid (RowF wx ga (List.replicate n 0)) ∧ Hid (RowF wx gb (List.replicate n 0)) ∧ Hid (RowF wx gd (List.replicate n 0)) ∧ Hid (Ext U2 wx))
  case first =>
    --<R6
    refine region_anyEV (fun w' => Hid (Ext U2 w')) 9 9 (by kernel_rfl) (by kernel_rfl) (Ext.drew U2) (fun ops hO hHeld => ?_)
    have HSd : Hid (U2.heap.size ≤ U2.drew.heap.size) := (Ext.drew U2).size
    generalize U2.drew = wd at hHeld HSd ⊢
    have hi := getopN hO 0 (by decide)
    conv at hi => rhs; arg 1; whnf
    refine anyE_takeWV hO (v := ?_) 0 hi (by kernel_rfl) (by kernel_rfl) (by kernel_rfl) (by kernel_rfl) (fun _ _ _ h => h) (Or.inl ⟨by rfl, ?_⟩) (by assumption) ?_
    rotate_left
    · ((intro w'); (try go_simp); (try with_reducible rfl))
    clear hi
    (try simp only [Act.put, List.setIfInBounds_toArray, List.set_cons_zero, List.set_cons_succ])
    have hi := getopN hO 2 (by decide)
    conv at hi => rhs; arg 1; whnf
    refine anyE_takeWV hO (v := ?_) 2 hi (by kernel_rfl) (by kernel_rfl) (by kernel_rfl) (by kernel_rfl) (fun _ _ _ h => h) (Or.inl ⟨by rfl, ?_⟩) (by assumption) ?_
    rotate_left
    · ((intro w'); (try go_simp); (try with_reducible rfl))
    clear hi
    (try simp only [Act.put, List.setIfInBounds_toArray, List.set_cons_zero, List.set_cons_succ])
    have hi := getopN hO 4 (by decide)
    conv at hi => rhs; arg 1; whnf
    refine anyE_takeWV hO (v := ?_) 4 hi (by kernel_rfl) (by kernel_rfl) (by kernel_rfl) (by kernel_rfl) (fun _ _ _ h => h) (Or.inl ⟨by rfl, ?_⟩) (by assumption) ?_
    rotate_left
    · ((intro w'); (try go_simp); (try with_reducible rfl))
    clear hi
    (try simp only [Act.put, List.setIfInBounds_toArray, List.set_cons_zero, List.set_cons_succ])
    have hi1 := getopN hO 1 (by decide)
    conv at hi1 => rhs; arg 1; whnf
    have hi3 := getopN hO 3 (by decide)
    conv at hi3 => rhs; arg 1; whnf
    have hi5 := getopN hO 5 (by decide)
    conv at hi5 => rhs; arg 1; whnf
    refine anyE_fork3V hO 1 3 5 (by kernel_rfl) hi1 hi3 hi5 (fun K hK => ?_) (fun K hK => ?_) (fun K hK => ?_)
    · clear hi1 hi3 hi5
      go_simp
      refine make_up wd n (by omega) ?_
      intro v0 hR hlt hEz
      have HLa : Hid (wd.heap.size < v0.heap.size) := hlt; have HS0 : Hid (wd.heap.size ≤ v0.heap.size) := hEz.size
      have HRa := Lib.hid hR
      refine hK.out _ _ (Lib.hid (Ext.trans hHeld.out hEz)) (fun hHeld => ?_)
      clear hK K hEz hR hlt
      (try simp only [Act.put, List.setIfInBounds_toArray, List.set_cons_zero, List.set_cons_succ])
      have hi := getopN hO 6 (by decide)
      conv at hi => rhs; arg 1; whnf
      refine anyE_takeWV hO (v := ?_) 6 hi (by kernel_rfl) (by kernel_rfl) (by kernel_rfl) (by kernel_rfl) (fun _ _ _ h => h) (Or.inl ⟨by rfl, ?_⟩) (by assumption) ?_
      rotate_left
      · ((intro w'); (try go_simp); (try with_reducible rfl))
      clear hi
      (try simp only [Act.put, List.setIfInBounds_toArray, List.set_cons_zero, List.set_cons_succ])
      have hi3 := getopN hO 3 (by decide)
      conv at hi3 => rhs; arg 1; whnf
      have hi5 := getopN hO 5 (by decide)
      conv at hi5 => rhs; arg 1; whnf
      refine anyE_fork2V hO 3 5 (by kernel_rfl) hi3 hi5 (fun K hK => ?_) (fun K hK => ?_)
      · clear hi3 hi5
        go_simp
        refine make_up v0 n (by omega) ?_
        intro v1 hR hlt hEz
        have HLb : Hid (v0.heap.size < v1.heap.size) := hlt; have HS1 : Hid (v0.heap.size ≤ v1.heap.size) := hEz.size
        have HRa := Lib.hid (HRa.out.ext hEz)
        have HRb := Lib.hid hR
        refine hK.out _ _ (Lib.hid (Ext.trans hHeld.out hEz)) (fun hHeld => ?_)
        clear hK K hEz hR hlt
        (try simp only [Act.put, List.setIfInBounds_toArray, List.set_cons_zero, List.set_cons_succ])
        have hi := getopN hO 7 (by decide)
        conv at hi => rhs; arg 1; whnf
        refine anyE_takeWV hO (v := ?_) 7 hi (by kernel_rfl) (by kernel_rfl) (by kernel_rfl) (by kernel_rfl) (fun _ _ _ h => h) (Or.inl ⟨by rfl, ?_⟩) (by assumption) ?_
        rotate_left
        · ((intro w'); (try go_simp); (try with_reducible rfl))
        clear hi
        (try simp only [Act.put, List.setIfInBounds_toArray, List.set_cons_zero, List.set_cons_succ])
        have hi := getopN hO 5 (by decide)
        conv at hi => rhs; arg 1; whnf
        refine anyE_stepV hO 5 (by kernel_rfl) hi (fun K hK => ?_)
        clear hi
        go_simp
        refine make_up v1 n (by omega) ?_
        intro v2 hR hlt hEz
        have HLd : Hid (v1.heap.size < v2.heap.size) := hlt; have HS2 : Hid (v1.heap.size ≤ v2.heap.size) := hEz.size
        have HRa := Lib.hid (HRa.out.ext hEz)
        have HRb := Lib.hid (HRb.out.ext hEz)
        have HRd := Lib.hid hR
        refine hK.out _ _ (Lib.hid (Ext.trans hHeld.out hEz)) (fun hHeld => ?_)
        clear hK K hEz hR hlt
        (try simp only [Act.put, List.setIfInBounds_toArray, List.set_cons_zero, List.set_cons_succ])
        have hi := getopN hO 8 (by decide)
        conv at hi => rhs; arg 1; whnf
        refine anyE_lastV hO 8 (by kernel_rfl) (by kernel_rfl) hi (fun K hK => ?_)
        go_simp
        refine hK.out _ _ hHeld ?_
        clear hK K hi hO
        (try simp only [Act.put, List.setIfInBounds_toArray, List.set_cons_zero, List.set_cons_succ])
        go_wp2_with fail
        go_meet
        have la := HLa.out; have lb := HLb.out; have ld := HLd.out; have ls := HSd.out
        have hs0 := HS0.out; have hs1 := HS1.out; have hs2 := HS2.out
        exact ⟨wd.heap.size, v0.heap.size, v1.heap.size, rfl, rfl, rfl, ⟨by omega, by omega, by omega⟩, ⟨by omega, by omega, by omega⟩, HRa, HRb, HRd, hHeld⟩
      · clear hi3 hi5
        go_simp
        refine make_up v0 n (by omega) ?_
        intro v1 hR hlt hEz
        have HLd : Hid (v0.heap.size < v1.heap.size) := hlt; have HS1 : Hid (v0.heap.size ≤ v1.heap.size) := hEz.size
        have HRa := Lib.hid (HRa.out.ext hEz)
        have HRd := Lib.hid hR
        refine hK.out _ _ (Lib.hid (Ext.trans hHeld.out hEz)) (fun hHeld => ?_)
        clear hK K hEz hR hlt
        (try simp only [Act.put, List.setIfInBounds_toArray, List.set_cons_zero, List.set_cons_succ])
        have hi := getopN hO 3 (by decide)
        conv at hi => rhs; arg 1; whnf
        refine anyE_stepV hO 3 (by kernel_rfl) hi (fun K hK => ?_)
        clear hi
        go_simp
        refine make_up v1 n (by omega) ?_
        intro v2 hR hlt hEz
        have HLb : Hid (v1.heap.size < v2.heap.size) := hlt; have HS2 : Hid (v1.heap.size ≤ v2.heap.size) := hEz.size
        have HRa := Lib.hid (HRa.out.ext hEz)
        have HRd := Lib.hid (HRd.out.ext hEz)
        have HRb := Lib.hid hR
        refine hK.out _ _ (Lib.hid (Ext.trans hHeld.out hEz)) (fun hHeld => ?_)
        clear hK K hEz hR hlt
        (try simp only [Act.put, List.setIfInBounds_toArray, List.set_cons_zero, List.set_cons_succ])
        have hi := getopN hO 7 (by decide)
        conv at hi => rhs; arg 1; whnf
        refine anyE_takeWV hO (v := ?_) 7 hi (by kernel_rfl) (by kernel_rfl) (by kernel_rfl) (by kernel_rfl) (fun _ _ _ h => h) (Or.inl ⟨by rfl, ?_⟩) (by assumption) ?_
        rotate_left
        · ((intro w'); (try go_simp); (try with_reducible rfl))
        clear hi
        (try simp only [Act.put, List.setIfInBounds_toArray, List.set_cons_zero, List.set_cons_succ])
        have hi := getopN hO 8 (by decide)
        conv at hi => rhs; arg 1; whnf
        refine anyE_lastV hO 8 (by kernel_rfl) (by kernel_rfl) hi (fun K hK => ?_)
        go_simp
        refine hK.out _ _ hHeld ?_
        clear hK K hi hO
        (try simp only [Act.put, List.setIfInBounds_toArray, List.set_cons_zero, List.set_cons_succ])
        go_wp2_with fail
        go_meet
        have la := HLa.out; have lb := HLb.out; have ld := HLd.out; have ls := HSd.out
        have hs0 := HS0.out; have hs1 := HS1.out; have hs2 := HS2.out
        exact ⟨wd.heap.size, v1.heap.size, v0.heap.size, rfl, rfl, rfl, ⟨by omega, by omega, by omega⟩, ⟨by omega, by omega, by omega⟩, HRa, HRb, HRd, hHeld⟩
    · clear hi1 hi3 hi5
      go_simp
      refine make_up wd n (by omega) ?_
      intro v0 hR hlt hEz
      have HLb : Hid (wd.heap.size < v0.heap.size) := hlt; have HS0 : Hid (wd.heap.size ≤ v0.heap.size) := hEz.size
      have HRb := Lib.hid hR
      refine hK.out _ _ (Lib.hid (Ext.trans hHeld.out hEz)) (fun hHeld => ?_)
      clear hK K hEz hR hlt
      (try simp only [Act.put, List.setIfInBounds_toArray, List.set_cons_zero, List.set_cons_succ])
      have hi1 := getopN hO 1 (by decide)
      conv at hi1 => rhs; arg 1; whnf
      have hi5 := getopN hO 5 (by decide)
      conv at hi5 => rhs; arg 1; whnf
      refine anyE_fork2V hO 1 5 (by kernel_rfl) hi1 hi5 (fun K hK => ?_) (fun K hK => ?_)
      · clear hi1 hi5
        go_simp
        refine make_up v0 n (by omega) ?_
        intro v1 hR hlt hEz
        have HLa : Hid (v0.heap.size < v1.heap.size) := hlt; have HS1 : Hid (v0.heap.size ≤ v1.heap.size) := hEz.size
        have HRb := Lib.hid (HRb.out.ext hEz)
        have HRa := Lib.hid hR
        refine hK.out _ _ (Lib.hid (Ext.trans hHeld.out hEz)) (fun hHeld => ?_)
        clear hK K hEz hR hlt
        (try simp only [Act.put, List.setIfInBounds_toArray, List.set_cons_zero, List.set_cons_succ])
        have hi := getopN hO 6 (by decide)
        conv at hi => rhs; arg 1; whnf
        refine anyE_takeWV hO (v := ?_) 6 hi (by kernel_rfl) (by kernel_rfl) (by kernel_rfl) (by kernel_rfl) (fun _ _ _ h => h) (Or.inl ⟨by rfl, ?_⟩) (by assumption) ?_
        rotate_left
        · ((intro w'); (try go_simp); (try with_reducible rfl))
        clear hi
        (try simp only [Act.put, List.setIfInBounds_toArray, List.set_cons_zero, List.set_cons_succ])
        have hi := getopN hO 7 (by decide)
        conv at hi => rhs; arg 1; whnf
        refine anyE_takeWV hO (v := ?_) 7 hi (by kernel_rfl) (by kernel_rfl) (by kernel_rfl) (by kernel_rfl) (fun _ _ _ h => h) (Or.inl ⟨by rfl, ?_⟩) (by assumption) ?_
        rotate_left
        · ((intro w'); (try go_simp); (try with_reducible rfl))
        clear hi
        (try simp only [Act.put, List.setIfInBounds_toArray, List.set_cons_zero, List.set_cons_succ])
        have hi := getopN hO 5 (by decide)
        conv at hi => rhs; arg 1; whnf
        refine anyE_stepV hO 5 (by kernel_rfl) hi (fun K hK => ?_)
        clear hi
        go_simp
        refine make_up v1 n (by omega) ?_
        intro v2 hR hlt hEz
        have HLd : Hid (v1.heap.size < v2.heap.size) := hlt; have HS2 : Hid (v1.heap.size ≤ v2.heap.size) := hEz.size
        have HRb := Lib.hid (HRb.out.ext hEz)
        have HRa := Lib.hid (HRa.out.ext hEz)
        have HRd := Lib.hid hR
        refine hK.out _ _ (Lib.hid (Ext.trans hHeld.out hEz)) (fun hHeld => ?_)
        clear hK K hEz hR hlt
        (try simp only [Act.put, List.setIfInBounds_toArray, List.set_cons_zero, List.set_cons_succ])
        have hi := getopN hO 8 (by decide)
        conv at hi => rhs; arg 1; whnf
        refine anyE_lastV hO 8 (by kernel_rfl) (by kernel_rfl) hi (fun K hK => ?_)
        go_simp
        refine hK.out _ _ hHeld ?_
        clear hK K hi hO
        (try simp only [Act.put, List.setIfInBounds_toArray, List.set_cons_zero, List.set_cons_succ])
        go_wp2_with fail
        go_meet
        have la := HLa.out; have lb := HLb.out; have ld := HLd.out; have ls := HSd.out
        have hs0 := HS0.out; have hs1 := HS1.out; have hs2 := HS2.out
        exact ⟨v0.heap.size, wd.heap.size, v1.heap.size, rfl, rfl, rfl, ⟨by omega, by omega, by omega⟩, ⟨by omega, by omega, by omega⟩, HRa, HRb, HRd, hHeld⟩
      · clear hi1 hi5
        go_simp
        refine make_up v0 n (by omega) ?_
        intro v1 hR hlt hEz
        have HLd : Hid (v0.heap.size < v1.heap.size) := hlt; have HS1 : Hid (v0.heap.size ≤ v1.heap.size) := hEz.size
        have HRb := Lib.hid (HRb.out.ext hEz)
        have HRd := Lib.hid hR
        refine hK.out _ _ (Lib.hid (Ext.trans hHeld.out hEz)) (fun hHeld => ?_)
        clear hK K hEz hR hlt
        (try simp only [Act.put, List.setIfInBounds_toArray, List.set_cons_zero, List.set_cons_succ])
        have hi := getopN hO 1 (by decide)
        conv at hi => rhs; arg 1; whnf
        refine anyE_stepV hO 1 (by kernel_rfl) hi (fun K hK => ?_)
        clear hi
        go_simp
        refine make_up v1 n (by omega) ?_
        intro v2 hR hlt hEz
        have HLa : Hid (v1.heap.size < v2.heap.size) := hlt; have HS2 : Hid (v1.heap.size ≤ v2.heap.size) := hEz.size
        have HRb := Lib.hid (HRb.out.ext hEz)
        have HRd := Lib.hid (HRd.out.ext hEz)
        have HRa := Lib.hid hR
        refine hK.out _ _ (Lib.hid (Ext.trans hHeld.out hEz)) (fun hHeld => ?_)
        clear hK K hEz hR hlt
        (try simp only [Act.put, List.setIfInBounds_toArray, List.set_cons_zero, List.set_cons_succ])
        have hi := getopN hO 6 (by decide)
        conv at hi => rhs; arg 1; whnf
        refine anyE_takeWV hO (v := ?_) 6 hi (by kernel_rfl) (by kernel_rfl) (by kernel_rfl) (by kernel_rfl) (fun _ _ _ h => h) (Or.inl ⟨by rfl, ?_⟩) (by assumption) ?_
        rotate_left
        · ((intro w'); (try go_simp); (try with_reducible rfl))
        clear hi
        (try simp only [Act.put, List.setIfInBounds_toArray, List.set_cons_zero, List.set_cons_succ])
        have hi := getopN hO 7 (by decide)
        conv at hi => rhs; arg 1; whnf
        refine anyE_takeWV hO (v := ?_) 7 hi (by kernel_rfl) (by kernel_rfl) (by kernel_rfl) (by kernel_rfl) (fun _ _ _ h => h) (Or.inl ⟨by rfl, ?_⟩) (by assumption) ?_
        rotate_left
        · ((intro w'); (try go_simp); (try with_reducible rfl))
        clear hi
        (try simp only [Act.put, List.setIfInBounds_toArray, List.set_cons_zero, List.set_cons_succ])
        have hi := getopN hO 8 (by decide)
        conv at hi => rhs; arg 1; whnf
        refine anyE_lastV hO 8 (by kernel_rfl) (by kernel_rfl) hi (fun K hK => ?_)
        go_simp
        refine hK.out _ _ hHeld ?_
        clear hK K hi hO
        (try simp only [Act.put, List.setIfInBounds_toArray, List.set_cons_zero, List.set_cons_succ])
        go_wp2_with fail
        go_meet
        have la := HLa.out; have lb := HLb.out; have ld := HLd.out; have ls := HSd.out
        have hs0 := HS0.out; have hs1 := HS1.out; have hs2 := HS2.out
        exact ⟨v1.heap.size, wd.heap.size, v0.heap.size, rfl, rfl, rfl, ⟨by omega, by omega, by omega⟩, ⟨by omega, by omega, by omega⟩, HRa, HRb, HRd, hHeld⟩
    · clear hi1 hi3 hi5
      go_simp
      refine make_up wd n (by omega) ?_
      intro v0 hR hlt hEz
      have HLd : Hid (wd.heap.size < v0.heap.size) := hlt; have HS0 : Hid (wd.heap.size ≤ v0.heap.size) := hEz.size
      have HRd := Lib.hid hR
      refine hK.out _ _ (Lib.hid (Ext.trans hHeld.out hEz)) (fun hHeld => ?_)
      clear hK K hEz hR hlt
      (try simp only [Act.put, List.setIfInBounds_toArray, List.set_cons_zero, List.set_cons_succ])
      have hi1 := getopN hO 1 (by decide)
      conv at hi1 => rhs; arg 1; whnf
      have hi3 := getopN hO 3 (by decide)
      conv at hi3 => rhs; arg 1; whnf
      refine anyE_fork2V hO 1 3 (by kernel_rfl) hi1 hi3 (fun K hK => ?_) (fun K hK => ?_)
      · clear hi1 hi3
        go_simp
        refine make_up v0 n (by omega) ?_
        intro v1 hR hlt hEz
        have HLa : Hid (v0.heap.size < v1.heap.size) := hlt; have HS1 : Hid (v0.heap.size ≤ v1.heap.size) := hEz.size
        have HRd := Lib.hid (HRd.out.ext hEz)
        have HRa := Lib.hid hR
        refine hK.out _ _ (Lib.hid (Ext.trans hHeld.out hEz)) (fun hHeld => ?_)
        clear hK K hEz hR hlt
        (try simp only [Act.put, List.setIfInBounds_toArray, List.set_cons_zero, List.set_cons_succ])
        have hi := getopN hO 6 (by decide)
        conv at hi => rhs; arg 1; whnf
        refine anyE_takeWV hO (v := ?_) 6 hi (by kernel_rfl) (by kernel_rfl) (by kernel_rfl) (by kernel_rfl) (fun _ _ _ h => h) (Or.inl ⟨by rfl, ?_⟩) (by assumption) ?_
        rotate_left
        · ((intro w'); (try go_simp); (try with_reducible rfl))
        clear hi
        (try simp only [Act.put, List.setIfInBounds_toArray, List.set_cons_zero, List.set_cons_succ])
        have hi := getopN hO 3 (by decide)
        conv at hi => rhs; arg 1; whnf
        refine anyE_stepV hO 3 (by kernel_rfl) hi (fun K hK => ?_)
        clear hi
        go_simp
        refine make_up v1 n (by omega) ?_
        intro v2 hR hlt hEz
        have HLb : Hid (v1.heap.size < v2.heap.size) := hlt; have HS2 : Hid (v1.heap.size ≤ v2.heap.size) := hEz.size
        have HRd := Lib.hid (HRd.out.ext hEz)
        have HRa := Lib.hid (HRa.out.ext hEz)
        have HRb := Lib.hid hR
        refine hK.out _ _ (Lib.hid (Ext.trans hHeld.out hEz)) (fun hHeld => ?_)
        clear hK K hEz hR hlt
        (try simp only [Act.put, List.setIfInBounds_toArray, List.set_cons_zero, List.set_cons_succ])
        have hi := getopN hO 7 (by decide)
        conv at hi => rhs; arg 1; whnf
        refine anyE_takeWV hO (v := ?_) 7 hi (by kernel_rfl) (by kernel_rfl) (by kernel_rfl) (by kernel_rfl) (fun _ _ _ h => h) (Or.inl ⟨by rfl, ?_⟩) (by assumption) ?_
        rotate_left
        · ((intro w'); (try go_simp); (try with_reducible rfl))
        clear hi
        (try simp only [Act.put, List.setIfInBounds_toArray, List.set_cons_zero, List.set_cons_succ])
        have hi := getopN hO 8 (by decide)
        conv at hi => rhs; arg 1; whnf
        refine anyE_lastV hO 8 (by kernel_rfl) (by kernel_rfl) hi (fun K hK => ?_)
        go_simp
        refine hK.out _ _ hHeld ?_
        clear hK K hi hO
        (try simp only [Act.put, List.setIfInBounds_toArray, List.set_cons_zero, List.set_cons_succ])
        go_wp2_with fail
        go_meet
        have la := HLa.out; have lb := HLb.out; have ld := HLd.out; have ls := HSd.out
        have hs0 := HS0.out; have hs1 := HS1.out; have hs2 := HS2.out
        exact ⟨v0.heap.size, v1.heap.size, wd.heap.size, rfl, rfl, rfl, ⟨by omega, by omega, by omega⟩, ⟨by omega, by omega, by omega⟩, HRa, HRb, HRd, hHeld⟩
      · clear hi1 hi3
        go_simp
        refine make_up v0 n (by omega) ?_
        intro v1 hR hlt hEz
        have HLb : Hid (v0.heap.size < v1.heap.size) := hlt; have HS1 : Hid (v0.heap.size ≤ v1.heap.size) := hEz.size
        have HRd := Lib.hid (HRd.out.ext hEz)
        have HRb := Lib.hid hR
        refine hK.out _ _ (Lib.hid (Ext.trans hHeld.out hEz)) (fun hHeld => ?_)
        clear hK K hEz hR hlt
        (try simp only [Act.put, List.setIfInBounds_toArray, List.set_cons_zero, List.set_cons_succ])
        have hi := getopN hO 1 (by decide)
        conv at hi => rhs; arg 1; whnf
        refine anyE_stepV hO 1 (by kernel_rfl) hi (fun K hK => ?_)
        clear hi
        go_simp
        refine make_up v1 n (by omega) ?_
        intro v2 hR hlt hEz
        have HLa : Hid (v1.heap.size < v2.heap.size) := hlt; have HS2 : Hid (v1.heap.size ≤ v2.heap.size) := hEz.size
        have HRd := Lib.hid (HRd.out.ext hEz)
        have HRb := Lib.hid (HRb.out.ext hEz)
        have HRa := Lib.hid hR
        refine hK.out _ _ (Lib.hid (Ext.trans hHeld.out hEz)) (fun hHeld => ?_)
        clear hK K hEz hR hlt
        (try simp only [Act.put, List.setIfInBounds_toArray, List.set_cons_zero, List.set_cons_succ])
        have hi := getopN hO 6 (by decide)
        conv at hi => rhs; arg 1; whnf
        refine anyE_takeWV hO (v := ?_) 6 hi (by kernel_rfl) (by kernel_rfl) (by kernel_rfl) (by kernel_rfl) (fun _ _ _ h => h) (Or.inl ⟨by rfl, ?_⟩) (by assumption) ?_
        rotate_left
        · ((intro w'); (try go_simp); (try with_reducible rfl))
        clear hi
        (try simp only [Act.put, List.setIfInBounds_toArray, List.set_cons_zero, List.set_cons_succ])
        have hi := getopN hO 7 (by decide)
        conv at hi => rhs; arg 1; whnf
        refine anyE_takeWV hO (v := ?_) 7 hi (by kernel_rfl) (by kernel_rfl) (by kernel_rfl) (by kernel_rfl) (fun _ _ _ h => h) (Or.inl ⟨by rfl, ?_⟩) (by assumption) ?_
        rotate_left
        · ((intro w'); (try go_simp); (try with_reducible rfl))
        clear hi
        (try simp only [Act.put, List.setIfInBounds_toArray, List.set_cons_zero, List.set_cons_succ])
        have hi := getopN hO 8 (by decide)
        conv at hi => rhs; arg 1; whnf
        refine anyE_lastV hO 8 (by kernel_rfl) (by kernel_rfl) hi (fun K hK => ?_)
        go_simp
        refine hK.out _ _ hHeld ?_
        clear hK K hi hO
        (try simp only [Act.put, List.setIfInBounds_toArray, List.set_cons_zero, List.set_cons_succ])
        go_wp2_with fail
        go_meet
        have la := HLa.out; have lb := HLb.out; have ld := HLd.out; have ls := HSd.out
        have hs0 := HS0.out; have hs1 := HS1.out; have hs2 := HS2.out
        exact ⟨v1.heap.size, v0.heap.size, wd.heap.size, rfl, rfl, rfl, ⟨by omega, by omega, by omega⟩, ⟨by omega, by omega, by omega⟩, HRa, HRb, HRd, hHeld⟩
    -->R6
  case rest =>
  obtain ⟨ga, gb, gd, rfl, rfl, rfl, HNE, HGE, HRA, HRB, HRD, HEC⟩ := hcut
  have HEcc := Lib.hid (HE6.out.trans HEC.out)
  have HXB : Hid (∀ i, -128 ≤ [x0, x1, x2, x3].getD i 0 ∧ [x0, x1, x2, x3].getD i 0 ≤ 127) := fun i => getD_bd hxb i
  have HYB : Hid (∀ i, -128 ≤ [y0, y1, y2, y3].getD i 0 ∧ [y0, y1, y2, y3].getD i 0 ≤ 127) := fun i => getD_bd hyb i
  clear hU2 r0 r1 f0 f1 HXU
  obtain ⟨X, hX⟩ : ∃ X, X = [x0, x1, x2, x3] := ⟨_, rfl⟩
  obtain ⟨Y, hY⟩ : ∃ Y, Y = [y0, y1, y2, y3] := ⟨_, rfl⟩
  rw [← hX] at HXB; rw [← hY] at HYB
  have HXl : Hid (X.length = 4) := by rw [hX]; rfl
  have HYl : Hid (Y.length = 4) := by rw [hY]; rfl
  have HXC : Hid (∀ W, Ext U2 W → ∀ i, i < 4 → W.cell? ⟨w.heap.size + 1, i, none⟩ = some (.int .i8 (X.getD i 0))) := fun W hW i hi => by
    rw [hX]; exact i8_cell (x := [x0, x1, x2, x3]) (block_ext HX6.out hW) i hi
  have HYC : Hid (∀ W, Ext U2 W → ∀ i, i < 4 → W.cell? ⟨w.heap.size + 1 + 1, i, none⟩ = some (.int .i8 (Y.getD i 0))) := fun W hW i hi => by
    rw [hY]; exact i8_cell (x := [y0, y1, y2, y3]) (block_ext HY6.out hW) i hi
  have HDl : Hid ((lessL 1 X Y).length = 4) := by unfold Hid; rw [lessL_len]; exact HXl.out
  have HDD : Hid (∀ i, (lessL 1 X Y).getD i 0 = X.getD i 0 - Y.getD i 0) := fun i => by rw [lessL_getD 1 (by rw [HXl.out, HYl.out])]; omega
  have HLT : Hid (w.heap.size + 1 + 1 < U2.heap.size) := block_lt HY6.out
  clear HX6 HY6
  go_wp2_with fail
  go_loopw [16] (fun t wr => ∃ i : Nat, i ≤ n ∧ t = .int .i64 i ∧ Hid (Ext U2 wr) ∧ Hid (RowF wr ga (fillL X n i)) ∧ Hid (RowF wr gb (fillL Y n i)) ∧ Hid (RowF wr gd (fillL (lessL 1 X Y) n i))) (fun t _ => n - (intOf t).toNat)
  case atStart => exact ⟨0, by omega, rfl, HEC.out, by rw [fillL_zero]; exact HRA.out, by rw [fillL_zero]; exact HRB.out, by rw [fillL_zero]; exact HRD.out⟩
  case round =>
    clear HRA HRB HRD HEC HEcc
    obtain ⟨i, hin, rfl, HE, HA, HB, HD⟩ := hrel
    obtain ⟨wo, rfl⟩ : ∃ wo : World, wo = wr := ⟨_, rfl⟩
    by_cases hlt : i < n
    · have cx := HXC.out wo HE.out i (by omega)
      have cy := HYC.out wo HE.out i (by omega)
      have bx := HXB.out i; have by' := HYB.out i
      have HEX := Lib.hid (fillL_set (x := X) (n := n) (i := i) (by rw [HXl.out]; omega) hlt)
      have HEY := Lib.hid (fillL_set (x := Y) (n := n) (i := i) (by rw [HYl.out]; omega) hlt)
      have HED := Lib.hid (fillL_set (x := lessL 1 X Y) (n := n) (i := i) (by rw [HDl.out]; omega) hlt)
      have HLX := Lib.hid (fillL_len (x := X) (n := n) (i := i) (by rw [HXl.out]; omega) hin)
      have HLY := Lib.hid (fillL_len (x := Y) (n := n) (i := i) (by rw [HYl.out]; omega) hin)
      have HLD := Lib.hid (fillL_len (x := lessL 1 X Y) (n := n) (i := i) (by rw [HDl.out]; omega) hin)
      rw [HDD.out] at HED
      obtain ⟨xi, hxi⟩ : ∃ xi, X.getD i 0 = xi := ⟨_, rfl⟩
      obtain ⟨yi, hyi⟩ : ∃ yi, Y.getD i 0 = yi := ⟨_, rfl⟩
      rw [hxi] at cx bx HEX HED; rw [hyi] at cy by' HEY HED
      have HEd : Hid (Ext wo wo.drew) := Ext.drew wo
      have HAd := Lib.hid (HA.out.ext HEd.out); have HBd := Lib.hid (HB.out.ext HEd.out); have HDd := Lib.hid (HD.out.ext HEd.out)
      have HE' := Lib.hid (HE.out.trans HEd.out)
      have cxd := HEd.out.cell cx; have cyd := HEd.out.cell cy
      obtain ⟨wd, hwd⟩ : ∃ wd, wo.drew = wd := ⟨_, rfl⟩
      rw [hwd] at HEd HAd HBd HDd HE' cxd cyd
      have fa := HAd.out.free i; have fb := HBd.out.free i; have fd := HDd.out.free i
      obtain ⟨ea, hea⟩ : ∃ e, (fillL X n i)[i]? = some e := ⟨_, List.getElem?_eq_getElem (by rw [HLX.out]; exact hlt)⟩
      have ca := HAd.out.cell i ea hea
      obtain ⟨eb, heb⟩ : ∃ e, (fillL Y n i)[i]? = some e := ⟨_, List.getElem?_eq_getElem (by rw [HLY.out]; exact hlt)⟩
      have cb := HBd.out.cell i eb heb
      obtain ⟨ed, hed⟩ : ∃ e, (fillL (lessL 1 X Y) n i)[i]? = some e := ⟨_, List.getElem?_eq_getElem (by rw [HLD.out]; exact hlt)⟩
      have cd := HDd.out.cell i ed hed
      clear hea heb hed
      have hga : ga ≠ w.heap.size + 1 ∧ ga ≠ w.heap.size + 1 + 1 ∧ gb ≠ w.heap.size + 1 ∧ gb ≠ w.heap.size + 1 + 1 ∧ gd ≠ w.heap.size + 1 ∧ gd ≠ w.heap.size + 1 + 1 := by
        have h1 := HLT.out; obtain ⟨h2, h3, h4⟩ := HGE.out
        exact ⟨by omega, by omega, by omega, by omega, by omega, by omega⟩
      obtain ⟨n1, n2, n3⟩ := HNE.out
      obtain ⟨g1, g2, g3, g4, g5, g6⟩ := hga
      clear hxi hyi
      have i4 : ((i : Nat) : Int) < 4 := by omega
      have iN : ((i : Nat) : Int) < (n : Int) := by omega
      go_upto_region 10 with fail
      --<R10
      refine region_anyEV (fun w' => w'.cell? ⟨w.heap.size + 1, i, none⟩ = some (.int .i8 xi) ∧ w'.cell? ⟨w.heap.size + 1 + 1, i, none⟩ = some (.int .i8 yi)) 29 29 (by kernel_rfl) (by kernel_rfl) ⟨by rw [hwd]; exact cxd, by rw [hwd]; exact cyd⟩ (fun ops hO hHeld => ?_)
      rw [hwd] at hHeld ⊢
      have hi := getopN hO 0 (by decide)
      conv at hi => rhs; arg 1; whnf
      refine anyE_takeWV hO (v := ?_) 0 hi (by kernel_rfl) (by kernel_rfl) (by kernel_rfl) (by kernel_rfl) (fun _ _ _ h => h) (Or.inl ⟨by rfl, ?_⟩) (by assumption) ?_
      rotate_left
      · ((intro w'); (try go_simp); (try with_reducible rfl))
      clear hi
      (try simp only [Act.put, List.setIfInBounds_toArray, List.set_cons_zero, List.set_cons_succ])
      have hi := getopN hO 1 (by decide)
      conv at hi => rhs; arg 1; whnf
      refine anyE_takeWV hO (v := ?_) 1 hi (by kernel_rfl) (by kernel_rfl) (by kernel_rfl) (by kernel_rfl) (fun _ _ _ h => h) (Or.inl ⟨by rfl, ?_⟩) (by assumption) ?_
      rotate_left
      · ((intro w'); (try go_simp); (try with_reducible rfl))
      clear hi
      (try simp only [Act.put, List.setIfInBounds_toArray, List.set_cons_zero, List.set_cons_succ])
      have hi := getopN hO 2 (by decide)
      conv at hi => rhs; arg 1; whnf
      refine anyE_takeWV hO (v := ?_) 2 hi (by kernel_rfl) (by kernel_rfl) (by kernel_rfl) (by kernel_rfl) (fun _ _ _ h => h) (Or.inl ⟨by rfl, ?_⟩) (by assumption) ?_
      rotate_left
      · ((intro w'); (try go_simp); (try with_reducible rfl))
      clear hi
      (try simp only [Act.put, List.setIfInBounds_toArray, List.set_cons_zero, List.set_cons_succ])
      have hi := getopN hO 3 (by decide)
      conv at hi => rhs; arg 1; whnf
      refine anyE_takeWV hO (v := ?_) 3 hi (by kernel_rfl) (by kernel_rfl) (by kernel_rfl) (by kernel_rfl) (fun _ _ _ h => h) (Or.inl ⟨by rfl, ?_⟩) (by assumption) ?_
      rotate_left
      · ((intro w'); (try go_simp); (try with_reducible rfl))
      clear hi
      (try simp only [Act.put, List.setIfInBounds_toArray, List.set_cons_zero, List.set_cons_succ])
      have hi := getopN hO 4 (by decide)
      conv at hi => rhs; arg 1; whnf
      refine anyE_takeWV hO (v := ?_) 4 hi (by kernel_rfl) (by kernel_rfl) (by kernel_rfl) (by kernel_rfl) (fun _ _ _ h => h) (Or.inl ⟨by rfl, ?_⟩) (by assumption) ?_
      rotate_left
      · ((intro w'); (try go_simp); (try with_reducible rfl))
      clear hi
      (try simp only [Act.put, List.setIfInBounds_toArray, List.set_cons_zero, List.set_cons_succ])
      have hi := getopN hO 5 (by decide)
      conv at hi => rhs; arg 1; whnf
      refine anyE_takeWV hO (v := ?_) 5 hi (by kernel_rfl) (by kernel_rfl) (by kernel_rfl) (by kernel_rfl) (fun _ _ _ h => h) (Or.inl ⟨by rfl, ?_⟩) (by assumption) ?_
      rotate_left
      · ((intro w'); (try go_simp); (try with_reducible rfl))
      clear hi
      (try simp only [Act.put, List.setIfInBounds_toArray, List.set_cons_zero, List.set_cons_succ])
      have hi := getopN hO 6 (by decide)
      conv at hi => rhs; arg 1; whnf
      refine anyE_takeWV hO (v := ?_) 6 hi (by kernel_rfl) (by kernel_rfl) (by kernel_rfl) (by kernel_rfl) (fun _ _ _ h => h) (Or.inl ⟨by rfl, ?_⟩) (by assumption) ?_
      rotate_left
      · ((intro w'); (try go_simp); (try with_reducible rfl))
      clear hi
      (try simp only [Act.put, List.setIfInBounds_toArray, List.set_cons_zero, List.set_cons_succ])
      have hi := getopN hO 7 (by decide)
      conv at hi => rhs; arg 1; whnf
      refine anyE_takeWV hO (v := ?_) 7 hi (by kernel_rfl) (by kernel_rfl) (by kernel_rfl) (by kernel_rfl) (fun _ _ _ h => h) (Or.inl ⟨by rfl, ?_⟩) (by assumption) ?_
      rotate_left
      · ((intro w'); (try go_simp); (try with_reducible rfl))
      clear hi
      (try simp only [Act.put, List.setIfInBounds_toArray, List.set_cons_zero, List.set_cons_succ])
      have hi := getopN hO 8 (by decide)
      conv at hi => rhs; arg 1; whnf
      refine anyE_takeV hO (v := ?_) 8 hi (by kernel_rfl) (by kernel_rfl) (by kernel_rfl) (by kernel_rfl) (fun _ _ _ h => h) (Or.inl ⟨by rfl, ?_⟩) (by assumption) ?_
      rotate_left
      · ((intro w' hSw); (try dsimp only at hSw); (try go_simp); (try with_reducible rfl))
      clear hi
      (try simp only [Act.put, List.setIfInBounds_toArray, List.set_cons_zero, List.set_cons_succ])
      have hi := getopN hO 9 (by decide)
      conv at hi => rhs; arg 1; whnf
      refine anyE_takeWV hO (v := ?_) 9 hi (by kernel_rfl) (by kernel_rfl) (by kernel_rfl) (by kernel_rfl) (fun _ _ _ h => h) (Or.inl ⟨by rfl, ?_⟩) (by assumption) ?_
      rotate_left
      · ((intro w'); (try go_simp); (try with_reducible rfl))
      clear hi
      (try simp only [Act.put, List.setIfInBounds_toArray, List.set_cons_zero, List.set_cons_succ])
      have hi := getopN hO 10 (by decide)
      conv at hi => rhs; arg 1; whnf
      refine anyE_takeWV hO (v := ?_) 10 hi (by kernel_rfl) (by kernel_rfl) (by kernel_rfl) (by kernel_rfl) (fun _ _ _ h => h) (Or.inl ⟨by rfl, ?_⟩) (by assumption) ?_
      rotate_left
      · ((intro w'); (try go_simp); (try with_reducible rfl))
      clear hi
      (try simp only [Act.put, List.setIfInBounds_toArray, List.set_cons_zero, List.set_cons_succ])
      have hi := getopN hO 11 (by decide)
      conv at hi => rhs; arg 1; whnf
      refine anyE_takeWV hO (v := ?_) 11 hi (by kernel_rfl) (by kernel_rfl) (by kernel_rfl) (by kernel_rfl) (fun _ _ _ h => h) (Or.inl ⟨by rfl, ?_⟩) (by assumption) ?_
      rotate_left
      · ((intro w'); (try go_simp); (try with_reducible rfl))
      clear hi
      (try simp only [Act.put, List.setIfInBounds_toArray, List.set_cons_zero, List.set_cons_succ])
      have hi := getopN hO 12 (by decide)
      conv at hi => rhs; arg 1; whnf
      refine anyE_takeV hO (v := ?_) 12 hi (by kernel_rfl) (by kernel_rfl) (by kernel_rfl) (by kernel_rfl) (fun _ _ _ h => h) (Or.inl ⟨by rfl, ?_⟩) (by assumption) ?_
      rotate_left
      · ((intro w' hSw); (try dsimp only at hSw); (try go_simp); (try with_reducible rfl))
      clear hi
      (try simp only [Act.put, List.setIfInBounds_toArray, List.set_cons_zero, List.set_cons_succ])
      have hi := getopN hO 13 (by decide)
      conv at hi => rhs; arg 1; whnf
      refine anyE_takeWV hO (v := ?_) 13 hi (by kernel_rfl) (by kernel_rfl) (by kernel_rfl) (by kernel_rfl) (fun _ _ _ h => h) (Or.inl ⟨by rfl, ?_⟩) (by assumption) ?_
      rotate_left
      · ((intro w'); (try go_simp); (try with_reducible rfl))
      clear hi
      (try simp only [Act.put, List.setIfInBounds_toArray, List.set_cons_zero, List.set_cons_succ])
      have hi := getopN hO 14 (by decide)
      conv at hi => rhs; arg 1; whnf
      refine anyE_takeWV hO (v := ?_) 14 hi (by kernel_rfl) (by kernel_rfl) (by kernel_rfl) (by kernel_rfl) (fun _ _ _ h => h) (Or.inl ⟨by rfl, ?_⟩) (by assumption) ?_
      rotate_left
      · ((intro w'); (try go_simp); (try with_reducible rfl))
      clear hi
      (try simp only [Act.put, List.setIfInBounds_toArray, List.set_cons_zero, List.set_cons_succ])
      have hi := getopN hO 15 (by decide)
      conv at hi => rhs; arg 1; whnf
      refine anyE_takeWV hO (v := ?_) 15 hi (by kernel_rfl) (by kernel_rfl) (by kernel_rfl) (by kernel_rfl) (fun _ _ _ h => h) (Or.inl ⟨by rfl, ?_⟩) (by assumption) ?_
      rotate_left
      · ((intro w'); (try go_simp); (try with_reducible rfl))
      clear hi
      (try simp only [Act.put, List.setIfInBounds_toArray, List.set_cons_zero, List.set_cons_succ])
      have hi := getopN hO 16 (by decide)
      conv at hi => rhs; arg 1; whnf
      refine anyE_takeV hO (v := ?_) 16 hi (by kernel_rfl) (by kernel_rfl) (by kernel_rfl) (by kernel_rfl) (fun _ _ _ h => h) (Or.inl ⟨by rfl, ?_⟩) (by assumption) ?_
      rotate_left
      · ((intro w' hSw); (try dsimp only at hSw); (try go_simp); (try with_reducible rfl))
      clear hi
      (try simp only [Act.put, List.setIfInBounds_toArray, List.set_cons_zero, List.set_cons_succ])
      have hi := getopN hO 17 (by decide)
      conv at hi => rhs; arg 1; whnf
      refine anyE_takeWV hO (v := ?_) 17 hi (by kernel_rfl) (by kernel_rfl) (by kernel_rfl) (by kernel_rfl) (fun _ _ _ h => h) (Or.inl ⟨by rfl, ?_⟩) (by assumption) ?_
      rotate_left
      · ((intro w'); (try go_simp); (try with_reducible rfl))
      clear hi
      (try simp only [Act.put, List.setIfInBounds_toArray, List.set_cons_zero, List.set_cons_succ])
      have hi := getopN hO 18 (by decide)
      conv at hi => rhs; arg 1; whnf
      refine anyE_takeWV hO (v := ?_) 18 hi (by kernel_rfl) (by kernel_rfl) (by kernel_rfl) (by kernel_rfl) (fun _ _ _ h => h) (Or.inl ⟨by rfl, ?_⟩) (by assumption) ?_
      rotate_left
      · ((intro w'); (try go_simp); (try with_reducible rfl))
      clear hi
      (try simp only [Act.put, List.setIfInBounds_toArray, List.set_cons_zero, List.set_cons_succ])
      have hi := getopN hO 19 (by decide)
      conv at hi => rhs; arg 1; whnf
      refine anyE_takeWV hO (v := ?_) 19 hi (by kernel_rfl) (by kernel_rfl) (by kernel_rfl) (by kernel_rfl) (fun _ _ _ h => h) (Or.inl ⟨by rfl, ?_⟩) (by assumption) ?_
      rotate_left
      · ((intro w'); (try go_simp); (try with_reducible rfl))
      clear hi
      (try simp only [Act.put, List.setIfInBounds_toArray, List.set_cons_zero, List.set_cons_succ])
      have hi := getopN hO 20 (by decide)
      conv at hi => rhs; arg 1; whnf
      refine anyE_takeV hO (v := ?_) 20 hi (by kernel_rfl) (by kernel_rfl) (by kernel_rfl) (by kernel_rfl) (fun _ _ _ h => h) (Or.inl ⟨by rfl, ?_⟩) (by assumption) ?_
      rotate_left
      · ((intro w' hSw); (try dsimp only at hSw); (try go_simp); (try with_reducible rfl))
      clear hi
      (try simp only [Act.put, List.setIfInBounds_toArray, List.set_cons_zero, List.set_cons_succ])
      have hi := getopN hO 21 (by decide)
      conv at hi => rhs; arg 1; whnf
      refine anyE_takeWV hO (v := ?_) 21 hi (by kernel_rfl) (by kernel_rfl) (by kernel_rfl) (by kernel_rfl) (fun _ _ _ h => h) (Or.inl ⟨by rfl, ?_⟩) (by assumption) ?_
      rotate_left
      · ((intro w'); (try go_simp); (try with_reducible rfl))
      clear hi
      (try simp only [Act.put, List.setIfInBounds_toArray, List.set_cons_zero, List.set_cons_succ])
      have hi := getopN hO 22 (by decide)
      conv at hi => rhs; arg 1; whnf
      refine anyE_takeWV hO (v := ?_) 22 hi (by kernel_rfl) (by kernel_rfl) (by kernel_rfl) (by kernel_rfl) (fun _ _ _ h => h) (Or.inl ⟨by rfl, ?_⟩) (by assumption) ?_
      rotate_left
      · ((intro w'); (try go_simp); (try with_reducible rfl))
      clear hi
      (try simp only [Act.put, List.setIfInBounds_toArray, List.set_cons_zero, List.set_cons_succ])
      have hi := getopN hO 23 (by decide)
      conv at hi => rhs; arg 1; whnf
      refine anyE_takeWV hO (v := ?_) 23 hi (by kernel_rfl) (by kernel_rfl) (by kernel_rfl) (by kernel_rfl) (fun _ _ _ h => h) (Or.inl ⟨by rfl, ?_⟩) (by assumption) ?_
      rotate_left
      · ((intro w'); (try go_simp); (try with_reducible rfl))
      clear hi
      (try simp only [Act.put, List.setIfInBounds_toArray, List.set_cons_zero, List.set_cons_succ])
      have hi := getopN hO 24 (by decide)
      conv at hi => rhs; arg 1; whnf
      refine anyE_stepV hO 24 (by kernel_rfl) hi (fun K hK => ?_)
      go_simp
      refine hK.out _ _ ⟨(World.cell?_setCell_other _ _ _ _ (by intro e; simp only [Addr.mk.injEq] at e; omega)).trans hHeld.1, (World.cell?_setCell_other _ _ _ _ (by intro e; simp only [Addr.mk.injEq] at e; omega)).trans hHeld.2⟩ (fun hHeld => ?_)
      clear hK K hi
      (try simp only [Act.put, List.setIfInBounds_toArray, List.set_cons_zero, List.set_cons_succ])
      have hi := getopN hO 25 (by decide)
      conv at hi => rhs; arg 1; whnf
      refine anyE_takeWV hO (v := ?_) 25 hi (by kernel_rfl) (by kernel_rfl) (by kernel_rfl) (by kernel_rfl) (fun _ _ _ h => h) (Or.inl ⟨by rfl, ?_⟩) (by assumption) ?_
      rotate_left
      · ((intro w'); (try go_simp); (try with_reducible rfl))
      clear hi
      (try simp only [Act.put, List.setIfInBounds_toArray, List.set_cons_zero, List.set_cons_succ])
      have hi := getopN hO 26 (by decide)
      conv at hi => rhs; arg 1; whnf
      refine anyE_stepV hO 26 (by kernel_rfl) hi (fun K hK => ?_)
      go_simp
      refine hK.out _ _ ⟨(World.cell?_setCell_other _ _ _ _ (by intro e; simp only [Addr.mk.injEq] at e; omega)).trans hHeld.1, (World.cell?_setCell_other _ _ _ _ (by intro e; simp only [Addr.mk.injEq] at e; omega)).trans hHeld.2⟩ (fun hHeld => ?_)
      clear hK K hi
      (try simp only [Act.put, List.setIfInBounds_toArray, List.set_cons_zero, List.set_cons_succ])
      have hi := getopN hO 27 (by decide)
      conv at hi => rhs; arg 1; whnf
      refine anyE_takeWV hO (v := ?_) 27 hi (by kernel_rfl) (by kernel_rfl) (by kernel_rfl) (by kernel_rfl) (fun _ _ _ h => h) (Or.inl ⟨by rfl, ?_⟩) (by assumption) ?_
      rotate_left
      · ((intro w'); (try go_simp); (try with_reducible rfl))
      clear hi
      (try simp only [Act.put, List.setIfInBounds_toArray, List.set_cons_zero, List.set_cons_succ])
      have hi := getopN hO 28 (by decide)
      conv at hi => rhs; arg 1; whnf
      refine anyE_lastV hO 28 (by kernel_rfl) (by kernel_rfl) hi (fun K hK => ?_)
      go_simp
      refine hK.out _ _ ⟨(World.cell?_setCell_other _ _ _ _ (by intro e; simp only [Addr.mk.injEq] at e; omega)).trans hHeld.1, (World.cell?_setCell_other _ _ _ _ (by intro e; simp only [Addr.mk.injEq] at e; omega)).trans hHeld.2⟩ ?_
      clear hK K hi hO
      (try simp only [Act.put, List.setIfInBounds_toArray, List.set_cons_zero, List.set_cons_succ])
      have HR1 := HAd.out.set i (by rw [HLX.out]; exact hlt) xi
      rw [HEX.out] at HR1
      have HR2 := (HBd.out.other (i := i) (fun e => n1 e.symm) (.int .i64 xi)).set i (by rw [HLY.out]; exact hlt) yi
      rw [HEY.out] at HR2
      have HR3 := ((HDd.out.other (i := i) (fun e => n2 e.symm) (.int .i64 xi)).other (i := i) (fun e => n3 e.symm) (.int .i64 yi)).set i (by rw [HLD.out]; exact hlt) (xi - yi)
      rw [HED.out] at HR3
      have HR1' := Lib.hid ((HR1.other (i := i) n1 (.int .i64 yi)).other (i := i) n2 (.int .i64 (xi - yi)))
      have HR2' := Lib.hid (HR2.other (i := i) n3 (.int .i64 (xi - yi)))
      have HR3' := Lib.hid HR3
      have HEE : Hid (Ext U2 (((wd.setCell ⟨ga, i, none⟩ (.int .i64 xi)).setCell ⟨gb, i, none⟩ (.int .i64 yi)).setCell ⟨gd, i, none⟩ (.int .i64 (xi - yi)))) := Below.setCell (Below.setCell (Below.setCell HE'.out HGE.out.1 _) HGE.out.2.1 _) HGE.out.2.2 _
      clear HR1 HR2 HR3
      go_wp2_with fail
      go_roundw
      case rel => exact ⟨i + 1, by omega, by go_num, HEE.out, HR1'.out, HR2'.out, HR3'.out⟩
      case measure => simp [intOf]; omega
      -->R10
    · obtain rfl : i = n := by omega
      have hA := HA.out; have hB := HB.out; have hD := HD.out
      rw [fillL_all] at hA hB hD
      have HEo := Lib.hid (HE6.out.trans HE.out)
      have lx : (X.take i).length = i := by rw [List.length_take, HXl.out]; omega
      have ly : (Y.take i).length = i := by rw [List.length_take, HYl.out]; omega
      have ld : ((lessL 1 X Y).take i).length = i := by rw [List.length_take, HDl.out]; omega
      have bx := take_bd' i HXB.out
      have by' := take_bd' i HYB.out
      have bd := lessL_take_bd i HXB.out HYB.out HDD.out
      have HIA := Lib.hid (hA.ints' lx (by omega) bx); have HIB := Lib.hid (hB.ints' ly (by omega) by'); have HID := Lib.hid (hD.ints' ld (by omega) bd)
      obtain ⟨s1, p1, b1, C1⟩ := repr_plan HPF0.out lx bx
      obtain ⟨s2, p2, b2, C2⟩ := repr_plan HPF0.out ly by'
      obtain ⟨s3, p3, C3⟩ := contains_plan HPF0.out ld bd
      obtain ⟨s4, p4, b4, C4⟩ := repr_plan HPF0.out (x := List.replicate i 0) (by simp) (fun a ha => by rw [List.eq_of_mem_replicate ha]; simp)
      have HC1 := Lib.hid C1; have HC2 := Lib.hid C2; have HC3 := Lib.hid C3; have HC4 := Lib.hid C4
      have HLAW : Hid ((s1 == s2) = decide (leadL s3 < 0)) := class_law f2 lx ly (lessL_take 1 i X Y) p1 p2 p3
      have HZER : Hid (s4 = List.replicate i 0) := zero_law f2 p4
      have HBx := Lib.hid (block_ext HB56.out HE.out)
      have HLV : Hid (LatV wo (.agg #[.int .i64 (i : Int), .slice a4 R.length c4]) i R) := ⟨_, rfl, HL6.out.ext HE.out⟩
      have HBy := Lib.hid (block_ext HB6.out HE.out)
      have HLW : Hid (LatV wo (.agg #[.int .i64 (i : Int), .slice a5 R.length c5]) i R) := ⟨_, rfl, HA6.out.ext HE.out⟩
      have HLI : Hid (∀ W, Ext wo W → LibT W ∧ 2 < W.heap.size) := fun W hW => HLIB.out W (HEo.out.trans hW)
      clear hA hB hD lx ly ld bx by' bd p1 p2 p3 p4 b4 C1 C2 C3 C4 HE HA HB HD HXB HYB HDD HXl HYl HDl HXC HYC
      obtain ⟨l0, l1, -⟩ := lat_block HBx.out
      go_wp2_with fail
      have HRF := Lib.hid (Ext.refl wo)
      refine (HC1.out _ _ _ HLV.out HIA.out (HLI.out _ HRF.out).1 (HLI.out _ HRF.out).2).mono ?_
      rintro e w6 ⟨r1, rfl, hr1, hE6⟩
      have HE6' := Lib.hid hE6
      have HR1 := Lib.hid hr1
      have HBx1 := Lib.hid (block_ext HBx.out hE6)
      obtain ⟨k0, k1, -⟩ := lat_block HBx1.out
      clear hE6 hr1 l0 l1
      go_wp2_with fail
      refine (HC2.out _ _ _ (HLV.out.ext HE6'.out) (HIB.out.ext HE6'.out) (HLI.out _ HE6'.out).1 (HLI.out _ HE6'.out).2).mono ?_
      rintro e w7 ⟨r2, rfl, hr2, hE7⟩
      have HE7 := Lib.hid (HE6'.out.trans hE7)
      have HR1' := Lib.hid (HR1.out.ext hE7)
      have HR2 := Lib.hid hr2
      have HBx2 := Lib.hid (block_ext HBx1.out hE7)
      obtain ⟨l0, l1, -⟩ := lat_block HBx2.out
      clear hE7 hr2 k0 k1
      go_wp2_with fail
      refine (HC3.out _ _ _ (HLV.out.ext HE7.out) (HID.out.ext HE7.out) (HLI.out _ HE7.out).1 (HLI.out _ HE7.out).2).mono ?_
      rintro e w8 ⟨rfl, hE8⟩
      have HE8 := Lib.hid (HE7.out.trans hE8)
      have HR1x := Lib.hid (HR1'.out.ext hE8)
      have HR2x := Lib.hid (HR2.out.ext hE8)
      have HBx3 := Lib.hid (block_ext HBx2.out hE8)
      clear hE8 l0 l1 HR1 HR1' HR2 HBx HBx1 HBx2 HIA HIB HID HC1 HC2 HC3 HE6' HE7
      go_upto_region 14 with fail
      --<R14
      refine region_anyEV (fun w' => w'.heap[w4.heap.size]? = some (.cells #[.int .i64 (i : Int), .slice a4 R.length c4] 27 (0, 0)) ∧ Hid (Ext wo w') ∧ Hid (Ext w8 w')) 9 9 (by kernel_rfl) (by kernel_rfl) ⟨block_ext HBx3.out (Ext.drew w8), HE8.out.trans (Ext.drew w8), Ext.drew w8⟩ (fun ops hO hHeld => ?_)
      generalize w8.drew = wd at hHeld ⊢
      have hi := getopN hO 0 (by decide)
      conv at hi => rhs; arg 1; whnf
      refine anyE_takeV hO 0 hi (by kernel_rfl) (by kernel_rfl) (by kernel_rfl) (by kernel_rfl) (fun _ _ _ h => h) (yields_load_row 27 _ rfl rfl w4.heap.size rfl _ #[.int .i64 (i : Int), .slice a4 R.length c4] (0, 0) _ (fun w' h => h.1) Tryz.underlying27 rfl (by kernel_rfl)) (by assumption) ?_
      clear hi
      (try simp only [Act.put, List.setIfInBounds_toArray, List.set_cons_zero, List.set_cons_succ])
      have hi := getopN hO 1 (by decide)
      conv at hi => rhs; arg 1; whnf
      refine anyE_takeWV hO (v := ?_) 1 hi (by kernel_rfl) (by kernel_rfl) (by kernel_rfl) (by kernel_rfl) (fun _ _ _ h => h) (Or.inl ⟨by rfl, ?_⟩) (by assumption) ?_
      rotate_left
      · ((intro w'); (try go_simp); (try with_reducible rfl))
      clear hi
      (try simp only [Act.put, List.setIfInBounds_toArray, List.set_cons_zero, List.set_cons_succ])
      have hi := getopN hO 2 (by decide)
      conv at hi => rhs; arg 1; whnf
      refine anyE_stepV hO 2 (by kernel_rfl) hi (fun K hK => ?_)
      clear hi
      go_simp
      refine make_up wd i (by omega) ?_
      intro v0 hR hlt hEz
      have HZR := Lib.hid (RowF.ints' (m := i) hR (List.length_replicate ..) (by omega) (fun a ha => by rw [List.eq_of_mem_replicate ha]; simp))
      refine hK.out _ _ ⟨block_ext hHeld.1 hEz, Lib.hid (Ext.trans hHeld.2.1.out hEz), Lib.hid (Ext.trans hHeld.2.2.out hEz)⟩ (fun hHeld => ?_)
      clear hK K hEz hR hlt
      (try simp only [Act.put, List.setIfInBounds_toArray, List.set_cons_zero, List.set_cons_succ])
      have hi := getopN hO 3 (by decide)
      conv at hi => rhs; arg 1; whnf
      refine anyE_stepV hO 3 (by kernel_rfl) hi (fun K hK => ?_)
      clear hi
      go_simp
      (go_at_call 29; refine (HC4.out _ _ _ (HLV.out.ext hHeld.2.1.out) HZR.out (HLI.out _ hHeld.2.1.out).1 (HLI.out _ hHeld.2.1.out).2).mono ?_)
      rintro e v1 ⟨r4, rfl, hr4, hEz⟩
      go_wp2_with fail
      refine hK.out _ _ ⟨block_ext hHeld.1 hEz, Lib.hid (Ext.trans hHeld.2.1.out hEz), Lib.hid (Ext.trans hHeld.2.2.out hEz)⟩ (fun hHeld => ?_)
      have HR4 := Lib.hid hr4
      clear hK K hEz hr4
      (try simp only [Act.put, List.setIfInBounds_toArray, List.set_cons_zero, List.set_cons_succ])
      have hi := getopN hO 4 (by decide)
      conv at hi => rhs; arg 1; whnf
      refine anyE_takeWV hO (v := ?_) 4 hi (by kernel_rfl) (by kernel_rfl) (by kernel_rfl) (by kernel_rfl) (fun _ _ _ h => h) (Or.inl ⟨by rfl, ?_⟩) (by assumption) ?_
      rotate_left
      · ((intro w'); (try go_simp); (try with_reducible rfl))
      clear hi
      (try simp only [Act.put, List.setIfInBounds_toArray, List.set_cons_zero, List.set_cons_succ])
      have hi := getopN hO 5 (by decide)
      conv at hi => rhs; arg 1; whnf
      refine anyE_takeWV hO (v := ?_) 5 hi (by kernel_rfl) (by kernel_rfl) (by kernel_rfl) (by kernel_rfl) (fun _ _ _ h => h) (Or.inl ⟨by rfl, ?_⟩) (by assumption) ?_
      rotate_left
      · ((intro w'); (try go_simp); (try with_reducible rfl))
      clear hi
      (try simp only [Act.put, List.setIfInBounds_toArray, List.set_cons_zero, List.set_cons_succ])
      have hi := getopN hO 6 (by decide)
      conv at hi => rhs; arg 1; whnf
      refine anyE_takeWV hO (v := ?_) 6 hi (by kernel_rfl) (by kernel_rfl) (by kernel_rfl) (by kernel_rfl) (fun _ _ _ h => h) (Or.inl ⟨by rfl, ?_⟩) (by assumption) ?_
      rotate_left
      · ((intro w'); (try go_simp); (try with_reducible rfl))
      clear hi
      (try simp only [Act.put, List.setIfInBounds_toArray, List.set_cons_zero, List.set_cons_succ])
      have hi := getopN hO 7 (by decide)
      conv at hi => rhs; arg 1; whnf
      refine anyE_takeWV hO (v := ?_) 7 hi (by kernel_rfl) (by kernel_rfl) (by kernel_rfl) (by kernel_rfl) (fun _ _ _ h => h) (Or.inl ⟨by rfl, ?_⟩) (by assumption) ?_
      rotate_left
      · ((intro w'); (try go_simp); (try with_reducible rfl))
      clear hi
      (try simp only [Act.put, List.setIfInBounds_toArray, List.set_cons_zero, List.set_cons_succ])
      have hi := getopN hO 8 (by decide)
      conv at hi => rhs; arg 1; whnf
      refine anyE_lastV hO 8 (by kernel_rfl) (by kernel_rfl) hi (fun K hK => ?_)
      go_simp
      refine hK.out _ _ hHeld ?_
      clear hK K hi hO
      (try simp only [Act.put, List.setIfInBounds_toArray, List.set_cons_zero, List.set_cons_succ])
      -->R14
      have HEv := hHeld.2.1
      have HE8v := hHeld.2.2
      obtain ⟨q0, q1, -⟩ := lat_block hHeld.1
      obtain ⟨m0, m1, -⟩ := lat_block (block_ext HBy.out hHeld.2.1.out)
      have HLVv := Lib.hid (HLV.out.ext HEv.out)
      have HLWv := Lib.hid (HLW.out.ext HEv.out)
      have HEQ : Hid ((decide ((i : Int) = (i : Int)) && R == R) = true) := by unfold Hid; simp
      have HZ0 : Hid ((!s4.any (· != 0)) = true) := by unfold Hid; rw [HZER.out]; simp
      have HX8 : Hid (Ext w8 v1) := HE8v
      have HR1v := Lib.hid (HR1x.out.ext HX8.out); have HR2v := Lib.hid (HR2x.out.ext HX8.out)
      obtain ⟨bb, hbb⟩ : ∃ bb, decide (leadL s3 < 0) = bb := ⟨_, rfl⟩
      rw [hbb] at HLAW
      rw [hbb]
      have HCE := Lib.hid (latEqual_any i i R R _ _ v1 HLWv.out HLVv.out)
      rw [HEQ.out] at HCE
      clear hbb hHeld HLV HLW HBx3 HBy
      cases bb <;>
      · go_wp2_with fail
        refine HCE.out.mono ?_
        rintro e v2 ⟨rfl, hE2⟩
        have HV2 := Lib.hid (HEv.out.trans hE2)
        have HRE := Lib.hid (rowEqual_any s1 s2 r1 r2 v2 (HR1v.out.ext hE2) (HR2v.out.ext hE2))
        rw [HLAW.out] at HRE
        have HR4' := Lib.hid (HR4.out.ext hE2)
        clear hE2
        go_wp2_with fail
        refine HRE.out.mono ?_
        rintro e v3 ⟨rfl, hE3⟩
        have HV3 := Lib.hid (HV2.out.trans hE3)
        have HIZ := Lib.hid (isZero_any s4 r4 v3 (HR4'.out.ext hE3))
        rw [HZ0.out] at HIZ
        clear hE3
        go_wp2_with fail
        refine HIZ.out.mono ?_
        rintro e v4 ⟨rfl, hE4⟩
        have HV4 := Lib.hid (HEo.out.trans (HV3.out.trans hE4))
        clear hE4
        go_wp2_with fail
        go_ret
        exact ⟨rfl, HV4.out⟩
end Go.Proofs.YtielnneclcekbaaGreatDoor
