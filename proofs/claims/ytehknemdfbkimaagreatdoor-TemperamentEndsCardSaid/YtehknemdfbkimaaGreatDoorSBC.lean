/- Merged: Eq6, TmpN. -/
import Derived.Test.YtehknemdfbkimaaGreatDoorSAM
import Derived.Deep.CutRange
import Derived.Deep.RegionHeld3
import Derived.Test.YtehknemdfbkimaaGreatDoorSBB
import Derived.Test.YtehknemdfbkimaaGreatDoorSAX
/- Contracts of the reference's EqualRows and Equal (chapter 06). -/
namespace Go.Proofs.YtehknemdfbkimaaGreatDoor
set_option linter.unusedVariables false
set_option linter.unusedSimpArgs false
open Go.RowKit

theorem list_eq_of_get {α : Type} {xs ys : List α} (hl : xs.length = ys.length) (h : ∀ i, i < xs.length → xs[i]? = ys[i]?) : xs = ys := by
  apply List.ext_getElem?
  intro i
  by_cases hi : i < xs.length
  · exact h i hi
  · rw [List.getElem?_eq_none (by omega), List.getElem?_eq_none (by omega)]

set_option maxRecDepth 100000 in
set_option maxHeartbeats 1000000 in
theorem refEqRows_any (xs ys : List Int) (u v : Value) (w : World) (h : Ints w u xs) (k : Ints w v ys) :
    Calls Tryz.prog 63 #[u, v] w fun e w' => e = .returned (.bool (xs == ys)) ∧ Ext w w' := by
  obtain ⟨a, c, rfl, hx1, hx2, -, -, hx⟩ := h.open
  obtain ⟨a', c', rfl, hy1, hy2, -, -, hy⟩ := k.open
  clear h k
  unfold maxLen at hx2 hy2
  by_cases hl : xs.length = ys.length
  · have HX := Lib.hid hx; have HY := Lib.hid hy; have HL := Lib.hid hl
    have hb : ((xs.length : Int) != (ys.length : Int)) = false := by rw [hl]; simp
    clear hx hy
    go_enter Tryz.func63, Tryz.ntmps63
    go_wp2
    go_loopw [5] (fun t wr => ∃ j : Nat, j ≤ xs.length ∧ t = .int .i64 j ∧ Hid (∀ i, i < j → xs[i]? = ys[i]?) ∧ Ext w wr) (fun t _ => xs.length - (intOf t).toNat)
    case atStart => exact ⟨0, by omega, rfl, fun i hi => by omega, Ext.refl _⟩
    case round =>
      obtain ⟨j, hj, rfl, HP, hE⟩ := hrel
      by_cases hlt : j < xs.length
      · obtain ⟨b, off, rfl, hb1, hc1⟩ := HX.out (by intro e; rw [e] at hlt; simp at hlt)
        obtain ⟨b', off', rfl, hb2, hc2⟩ := HY.out (by intro e; have h0 := HL.out; rw [e] at h0; simp only [List.length_nil] at h0; omega)
        obtain ⟨x, hx⟩ : ∃ x, xs[j]? = some x := ⟨xs[j], List.getElem?_eq_getElem hlt⟩
        obtain ⟨y, hy⟩ : ∃ y, ys[j]? = some y := ⟨ys[j]'(by omega), List.getElem?_eq_getElem _⟩
        have g1 := hE.cell (hc1 j x hx)
        have g2 := hE.cell (hc2 j y hy)
        have hjy : j < ys.length := by omega
        clear hc1 hc2
        by_cases hxy : x = y
        · have hb3 : (x != y) = false := by rw [hxy]; simp
          have HP2 : Hid (∀ i, i < j + 1 → xs[i]? = ys[i]?) := fun i hi => by
            by_cases e : i = j
            · rw [e, hx, hy, hxy]
            · exact HP.out i (by omega)
          clear hx hy hxy
          go_wp2
          go_quiet (fail)
          go_wp2
          go_roundw
          case rel => exact ⟨j + 1, by omega, by go_num, HP2.out, Ext.draws hE _⟩
          case measure => simp [intOf]; omega
        · have hb3 : (x != y) = true := by simpa using hxy
          have HQ : Hid ((xs == ys) = false) := by
            unfold Hid
            rw [beq_eq_false_iff_ne]
            intro e
            rw [e, hy] at hx
            exact hxy (Option.some.inj hx).symm
          clear hx hy hxy
          go_wp2
          go_quiet (fail)
          go_wp2
          go_ret
          exact ⟨by rw [HQ.out]; rfl, Ext.draws hE _⟩
      · have HQ : Hid ((xs == ys) = true) := by
          unfold Hid
          rw [beq_iff_eq]
          exact list_eq_of_get HL.out fun i hi => HP.out i (by omega)
        go_wp2
        go_ret
        exact ⟨by rw [HQ.out]; rfl, hE⟩
  · have hb : ((xs.length : Int) != (ys.length : Int)) = true := by simp; omega
    have HQ : Hid ((xs == ys) = false) := by
      unfold Hid
      rw [beq_eq_false_iff_ne]
      intro e; exact hl (by rw [e])
    clear hx hy hl
    go_enter Tryz.func63, Tryz.ntmps63
    go_wp2
    go_ret
    exact ⟨by rw [HQ.out]; rfl, Ext.refl _⟩

set_option maxRecDepth 100000 in
set_option maxHeartbeats 1000000 in
theorem refEqual6_any (xs ys : List (List Int)) (u v : Value) (w : World) (h : Rows2 w u xs) (k : Rows2 w v ys) :
    Calls Tryz.prog 117 #[u, v] w fun e w' => e = .returned (.bool (xs == ys)) ∧ Ext w w' := by
  obtain ⟨a, c, rfl, hx1, hx2, -, hx⟩ := inCell.open h
  obtain ⟨a', c', rfl, hy1, hy2, -, hy⟩ := inCell.open k
  clear h k
  unfold maxLen at hx2 hy2
  by_cases hl : xs.length = ys.length
  · have HX := Lib.hid hx; have HY := Lib.hid hy; have HL := Lib.hid hl
    have hb : ((xs.length : Int) != (ys.length : Int)) = false := by rw [hl]; simp
    clear hx hy hl
    go_enter Tryz.func117, Tryz.ntmps117
    go_wp2
    go_loopw [5] (fun t wr => ∃ j : Nat, j ≤ xs.length ∧ t = .int .i64 j ∧ Hid (∀ i, i < j → xs[i]? = ys[i]?) ∧ Ext w wr) (fun t _ => xs.length - (intOf t).toNat)
    case atStart => exact ⟨0, by omega, rfl, fun i hi => by omega, Ext.refl _⟩
    case round =>
      obtain ⟨j, hj, rfl, HP, hE⟩ := hrel
      obtain ⟨wj, rfl⟩ : ∃ wj : World, wj = wr := ⟨_, rfl⟩
      by_cases hlt : j < xs.length
      · obtain ⟨b, off, rfl, hb1, hc1⟩ := HX.out (by intro e; rw [e] at hlt; simp at hlt)
        obtain ⟨b', off', rfl, hb2, hc2⟩ := HY.out (by intro e; have h0 := HL.out; rw [e] at h0; simp only [List.length_nil] at h0; omega)
        obtain ⟨x, hx⟩ : ∃ x, xs[j]? = some x := ⟨xs[j], List.getElem?_eq_getElem hlt⟩
        obtain ⟨y, hy⟩ : ∃ y, ys[j]? = some y := ⟨ys[j]'(by have := HL.out; omega), List.getElem?_eq_getElem _⟩
        obtain ⟨p, hp, k1⟩ := hc1 j x hx
        obtain ⟨q, hq, k2⟩ := hc2 j y hy
        have g1 := hE.cell k1
        have g2 := hE.cell k2
        have HC : Hid (∀ W, Ext wj W → Calls Tryz.prog 63 #[p, q] W fun e w' => e = .returned (.bool (x == y)) ∧ Ext W w') := fun W hW => refEqRows_any x y p q W (hp.ext (hE.trans hW)) (hq.ext (hE.trans hW))
        have hjy : j < ys.length := by have := HL.out; omega
        have HXY : Hid ((x == y) = true → ∀ i, i < j + 1 → xs[i]? = ys[i]?) := fun hxy i hi => by
          by_cases e : i = j
          · rw [e, hx, hy, beq_iff_eq.1 hxy]
          · exact HP.out i (by omega)
        have HNE : Hid ((x == y) = false → (xs == ys) = false) := fun hxy => by
          rw [beq_eq_false_iff_ne] at hxy ⊢
          intro e
          rw [e, hy] at hx
          exact hxy (Option.some.inj hx).symm
        obtain ⟨bb, hbb⟩ : ∃ b, b = (x == y) := ⟨_, rfl⟩
        rw [← hbb] at HC HXY HNE
        clear hc1 hc2 hx hy hp hq k1 k2 hbb
        have HE0 : Hid (Ext wj wj.drew) := Ext.drew wj
        go_upto_region 6 with fail
        go_cut [26] from 17 to 25 (fun s wx => s = .bool (!bb) ∧ Hid (Ext wj wx))
        case first =>
          go_region_held3 (fun w' => w'.cell? ⟨b, off + j, none⟩ = some p ∧ w'.cell? ⟨b', off' + j, none⟩ = some q ∧ Hid (Ext wj w'))
            (first | exact ⟨z1, z2, z3⟩ | exact ⟨g1, g2, HE0⟩ | go_keep)
            (first | (go_at_call 63; refine (HC.out _ (Hid.out (p := Ext wj _) (by assumption))).mono ?_; rintro e w5 ⟨rfl, hE5⟩; have z1 := hE5.cell (a := ⟨b, off + j, none⟩) (v := p) (by assumption); have z2 := hE5.cell (a := ⟨b', off' + j, none⟩) (v := q) (by assumption); have z3 : Hid (Ext wj w5) := Ext.trans (Hid.out (p := Ext wj _) (by assumption)) hE5))
          all_goals (go_wp2_with fail; go_meet; exact ⟨rfl, by assumption⟩)
        case rest =>
          obtain ⟨rfl, HX5⟩ := hcut
          cases bb
          · have HQ := HNE.out rfl
            have HQ2 := Lib.hid HQ
            clear HQ HNE HXY HC
            go_wp2
            go_ret
            exact ⟨by rw [HQ2.out]; rfl, hE.trans HX5.out⟩
          · have HP2 := Lib.hid (HXY.out rfl)
            clear HNE HXY HC
            go_wp2
            go_roundw
            case rel => exact ⟨j + 1, by omega, by go_num, HP2.out, hE.trans HX5.out⟩
            case measure => simp [intOf]; omega
      · have HQ : Hid ((xs == ys) = true) := by
          unfold Hid
          rw [beq_iff_eq]
          exact list_eq_of_get HL.out fun i hi => HP.out i (by omega)
        go_wp2
        go_ret
        exact ⟨by rw [HQ.out]; rfl, hE⟩
  · have hb : ((xs.length : Int) != (ys.length : Int)) = true := by simp; omega
    have HQ : Hid ((xs == ys) = false) := by
      unfold Hid
      rw [beq_eq_false_iff_ne]
      intro e; exact hl (by rw [e])
    clear hx hy hl
    go_enter Tryz.func117, Tryz.ntmps117
    go_wp2
    go_ret
    exact ⟨by rw [HQ.out]; rfl, Ext.refl _⟩
end Go.Proofs.YtehknemdfbkimaaGreatDoor
/- Law 18: same, meantone, Fits, known. Printed by gen/tmpn.py. -/
namespace Go.Proofs.YtehknemdfbkimaaGreatDoor
set_option linter.unusedVariables false
set_option linter.unusedSimpArgs false
open Go.RowKit

theorem ints_new (w : World) (S : Nat → Prop) (hS : ∀ b, S b → b < w.heap.size) (xs : List Int) (hb : ∀ x ∈ xs, -9223372036854775808 ≤ x ∧ x ≤ 9223372036854775807) (hl : xs.length ≤ 100) (C : Array Value) (hC : C = (xs.map (Value.int .i64)).toArray) (m : Nat) (hm : m = xs.length) :
    ∃ W, w.alloc (.cells C 3) = W ∧ Ext w W ∧ w.heap.size < W.heap.size ∧ SafeS W S fun W => Ints W (.slice (some ⟨w.heap.size, 0, none⟩) m m) xs := by
  subst hC; subst hm
  exact ⟨_, rfl, Ext.alloc _ _, by simp, SafeS.intsLit hS rfl xs _ _ rfl (by unfold maxLen; omega) hb _ rfl⟩
theorem rows1_new (w : World) (S : Nat → Prop) (hS : ∀ b, S b → b < w.heap.size) (u : Value) (x : List Int) (hu : SafeS w S fun W => Ints W u x) :
    ∃ W, w.alloc (.cells #[u] 39) = W ∧ Ext w W ∧ w.heap.size < W.heap.size ∧ SafeS W S fun W => Rows2 W (.slice (some ⟨w.heap.size, 0, none⟩) 1 1) [x] :=
  ⟨_, rfl, Ext.alloc _ _, by simp, SafeS.lit hS rfl [u] [x] _ 1 rfl rfl (by simp [maxLen]) _ rfl (fun j a y ha hy => by
    match j with
    | 0 => simp at ha hy; subst ha; subst hy; exact hu
    | j + 1 => simp at ha)⟩
theorem rows2_new (w : World) (S : Nat → Prop) (hS : ∀ b, S b → b < w.heap.size) (u v : Value) (x y : List Int) (hu : SafeS w S fun W => Ints W u x) (hv : SafeS w S fun W => Ints W v y) :
    ∃ W, w.alloc (.cells #[u, v] 39) = W ∧ Ext w W ∧ w.heap.size < W.heap.size ∧ SafeS W S fun W => Rows2 W (.slice (some ⟨w.heap.size, 0, none⟩) 2 2) [x, y] :=
  ⟨_, rfl, Ext.alloc _ _, by simp, SafeS.lit hS rfl [u, v] [x, y] _ 2 rfl rfl (by simp [maxLen]) _ rfl (fun j a z ha hz => by
    match j with
    | 0 => simp at ha hz; subst ha; subst hz; exact hu
    | 1 => simp at ha hz; subst ha; subst hz; exact hv
    | j + 2 => simp at ha)⟩

/-- The chapter's examples. -/
abbrev mP : List Int := [2, 3, 5]
abbrev mC : List (List Int) := [[4, -4, 1]]
abbrev mM : List (List Int) := [[1, 0, -4], [0, 1, 4]]
theorem m_bC : ∀ x ∈ mC, RowLe 1000000000 x ∧ x.length = 3 := by unfold RowLe; decide +kernel
theorem m_bM : ∀ x ∈ mM, RowLe 1000000000 x ∧ x.length = 3 := by unfold RowLe; decide +kernel
theorem m_b2 : ∀ x ∈ ([[8, -8, 2]] : List (List Int)), RowLe 1000000000 x ∧ x.length = 3 := by unfold RowLe; decide +kernel
theorem mD1 : FromD 3 20 [[-4, 4, -1]] mC mM mC := ⟨by decide, by decide, by decide +kernel, by decide +kernel, ⟨by decide, m_bC⟩, by decide +kernel, by decide +kernel, by decide +kernel, by decide, by decide, m_bM, m_bC⟩
theorem mD2 : FromD 3 20 [[12, 19, 28], [19, 30, 44]] mM mC mM := ⟨by decide, by decide, by decide +kernel, by decide +kernel, ⟨by decide, m_bM⟩, by decide +kernel, by decide +kernel, by decide +kernel, by decide, by decide, m_bC, m_bM⟩
theorem mD3 : FromD 3 20 [[-8, 8, -2]] [[8, -8, 2]] mM mC := ⟨by decide, by decide, by decide +kernel, by decide +kernel, ⟨by decide, m_b2⟩, by decide +kernel, by decide +kernel, by decide +kernel, by decide, by decide, m_bM, m_bC⟩
theorem mPr : primesE mP = 0 := by decide +kernel
theorem mR : RightT 3 20 mP mC mM := ⟨by decide, by decide, mPr, rfl, by decide +kernel, by decide +kernel, by decide +kernel, by decide, by decide, m_bC, m_bM⟩
theorem mTem : temL mM [-2, 0, 1] 3 = [-6, 4] ∧ ([-6, 4] : List Int).all fit9B = true ∧ allE 3 [[-2, 0, 1]] = 0 := by decide +kernel
theorem itoa_dig (k : Nat) (h : k < 10) : Lib.itoa (k : Int) = [UInt8.ofNat (48 + k)] := by
  unfold Lib.itoa
  rw [if_neg (by omega), Int.toNat_natCast, Lib.decDigits_one h]
theorem mText : (tempS mP mC mM).toArray = #[50, 46, 51, 46, 53, 44, 32, 99, 111, 109, 109, 97, 115, 32, 91, 52, 32, 45, 52, 32, 49, 62, 44, 32, 109, 97, 112, 112, 105, 110, 103, 32, 60, 49, 32, 48, 32, 45, 52, 93, 32, 60, 48, 32, 49, 32, 52, 93] := by
  have h0 := itoa_dig 0 (by decide)
  have h1 := itoa_dig 1 (by decide)
  have h2 := itoa_dig 2 (by decide)
  have h3 := itoa_dig 3 (by decide)
  have h4 := itoa_dig 4 (by decide)
  have h5 := itoa_dig 5 (by decide)
  have h6 : Lib.itoa (-4) = [45, 52] := by
    unfold Lib.itoa
    rw [if_pos (by decide), show (-4 : Int).natAbs = 4 from rfl, Lib.decDigits_one (by decide)]; rfl
  have g0 : Lib.itoa 0 = [48] := h0
  have g1 : Lib.itoa 1 = [49] := h1
  have g2 : Lib.itoa 2 = [50] := h2
  have g3 : Lib.itoa 3 = [51] := h3
  have g4 : Lib.itoa 4 = [52] := h4
  have g5 : Lib.itoa 5 = [53] := h5
  have e1 : primeS mP = [50, 46, 51, 46, 53] := by
    unfold primeS
    rw [show mP.map Lib.itoa = [Lib.itoa 2, Lib.itoa 3, Lib.itoa 5] from rfl, g2, g3, g5]; rfl
  have e2 : partS true mC = [91, 52, 32, 45, 52, 32, 49, 62] := by
    unfold partS
    rw [if_neg (by decide), rowsTx_one]
    unfold textS rowS
    rw [if_pos rfl, show ([4, -4, 1] : List Int).map Lib.itoa = [Lib.itoa 4, Lib.itoa (-4), Lib.itoa 1] from rfl, g4, h6, g1]; rfl
  have e3 : partS false mM = [60, 49, 32, 48, 32, 45, 52, 93, 32, 60, 48, 32, 49, 32, 52, 93] := by
    have t1 : textS [1, 0, -4] false = [60, 49, 32, 48, 32, 45, 52, 93] := by
      unfold textS rowS
      rw [if_neg (by decide), show ([1, 0, -4] : List Int).map Lib.itoa = [Lib.itoa 1, Lib.itoa 0, Lib.itoa (-4)] from rfl, g1, g0, h6]; rfl
    have t2 : textS [0, 1, 4] false = [60, 48, 32, 49, 32, 52, 93] := by
      unfold textS rowS
      rw [if_neg (by decide), show ([0, 1, 4] : List Int).map Lib.itoa = [Lib.itoa 0, Lib.itoa 1, Lib.itoa 4] from rfl, g0, g1, g4]; rfl
    unfold partS
    rw [if_neg (by decide), show rowsTx false mM = textS [1, 0, -4] false ++ (32 :: textS [0, 1, 4] false ++ []) from rfl, t1, t2]
    rfl
  unfold tempS
  rw [e1, e2, e3]
  rfl

set_option maxRecDepth 100000 in
set_option maxHeartbeats 8000000 in
theorem same18_any (P P' : List Int) (C C' M M' : List (List Int)) (v u : Value) (w : World) (h : TempV w v P C M) (k : TempV w u P' C' M') :
    Calls Tryz.prog 58 #[v, u] w fun e w' => e = .returned (.bool (P == P' && (C == C' && M == M'))) ∧ Ext w w' := by
  obtain ⟨p, c, m, rfl, hp, hc, hm⟩ := h
  obtain ⟨q, d, r, rfl, hq, hd, hr⟩ := k
  have H1 := Lib.hid (fun W (hW : Ext w W) => refEqRows_any P P' p q W (hp.ext hW) (hq.ext hW))
  have H2 := Lib.hid (fun W (hW : Ext w W) => refEqual6_any C C' c d W (hc.ext hW) (hd.ext hW))
  have H3 := Lib.hid (fun W (hW : Ext w W) => refEqual6_any M M' m r W (hm.ext hW) (hr.ext hW))
  obtain ⟨a1, c1, rfl, -⟩ := hp.open
  obtain ⟨a2, c2, rfl, -⟩ := inCell.open hc
  obtain ⟨a3, c3, rfl, -⟩ := inCell.open hm
  obtain ⟨a4, c4, rfl, -⟩ := hq.open
  obtain ⟨a5, c5, rfl, -⟩ := inCell.open hd
  obtain ⟨a6, c6, rfl, -⟩ := inCell.open hr
  obtain ⟨B1, hB1⟩ : ∃ B, (P == P') = B := ⟨_, rfl⟩
  obtain ⟨B2, hB2⟩ : ∃ B, (C == C') = B := ⟨_, rfl⟩
  obtain ⟨B3, hB3⟩ : ∃ B, (M == M') = B := ⟨_, rfl⟩
  rw [hB1] at H1 ⊢
  rw [hB2] at H2 ⊢
  rw [hB3] at H3 ⊢
  clear hp hc hm hq hd hr hB1 hB2 hB3
  go_enter Tryz.func58, Tryz.ntmps58
  obtain ⟨W1, hW1, hE1, hs1, hb1⟩ := tp_new w (.slice a1 P.length c1) (.slice a2 C.length c2) (.slice a3 M.length c3)
  obtain ⟨W2, hW2, hE2, hs2, hb2⟩ := tp_new W1 (.slice a4 P'.length c4) (.slice a5 C'.length c5) (.slice a6 M'.length c6)
  have HB1 := Lib.hid (block_ext hb1 hE2); have HB2 := Lib.hid hb2; have HE2 := Lib.hid (hE1.trans hE2)
  obtain ⟨x0, x1, x2, -⟩ := tp_block HB1.out
  obtain ⟨y0, y1, y2, -⟩ := tp_block HB2.out
  clear hE1 hs1 hb1 hE2 hs2 hb2
  go_wp2_with fail
  refine (H1.out _ HE2.out).mono ?_
  rintro e w3 ⟨rfl, hE3⟩
  have HB13 := Lib.hid (block_ext HB1.out hE3); have HB23 := Lib.hid (block_ext HB2.out hE3); have HE3 := Lib.hid (HE2.out.trans hE3)
  clear hE3 H1 HB1 HB2 HE2 x0 x1 x2 y0 y1 y2 hW1 hW2
  obtain ⟨x0, x1, x2, -⟩ := tp_block HB13.out
  obtain ⟨y0, y1, y2, -⟩ := tp_block HB23.out
  cases B1
  · go_wp2_with fail
    go_ret
    exact ⟨rfl, HE3.out⟩
  · go_wp2_with fail
    refine (H2.out _ HE3.out).mono ?_
    rintro e w4 ⟨rfl, hE4⟩
    have HB14 := Lib.hid (block_ext HB13.out hE4); have HB24 := Lib.hid (block_ext HB23.out hE4); have HE4 := Lib.hid (HE3.out.trans hE4)
    clear hE4 H2 HB13 HB23 HE3 x0 x1 x2 y0 y1 y2
    obtain ⟨x0, x1, x2, -⟩ := tp_block HB14.out
    obtain ⟨y0, y1, y2, -⟩ := tp_block HB24.out
    cases B2
    · go_wp2_with fail
      go_ret
      exact ⟨rfl, HE4.out⟩
    · go_wp2_with fail
      refine (H3.out _ HE4.out).mono ?_
      rintro e w5 ⟨rfl, hE5⟩
      have HE5 := Lib.hid (HE4.out.trans hE5)
      clear hE5 H3 HB14 HB24 HE4 x0 x1 x2 y0 y1 y2
      cases B3
      · go_wp2_with fail
        go_ret
        exact ⟨rfl, HE5.out⟩
      · go_wp2_with fail
        go_ret
        exact ⟨rfl, HE5.out⟩

set_option maxRecDepth 100000 in
set_option maxHeartbeats 8000000 in
theorem meantone_any (w : World) : Calls Tryz.prog 68 #[] w fun e w' => ∃ u, e = .returned u ∧ TempV w' u mP mC mM ∧ Ext w w' := by
  go_enter Tryz.func68, Tryz.ntmps68
  obtain ⟨W1, hW1, hE1, hs1, hb1⟩ := tp_new w (.slice none 0 0) (.slice none 0 0) (.slice none 0 0)
  obtain ⟨A1, hA1, hX1, hZ1, hI1⟩ := ints_new W1 (· < W1.heap.size) (fun b h => h) [2, 3, 5] (by decide) (by decide) #[.int .i64 2, .int .i64 3, .int .i64 5] rfl 3 rfl
  obtain ⟨A2, hA2, hX2, hZ2, hI2⟩ := ints_new A1 (· < W1.heap.size) (fun b h => Nat.lt_of_lt_of_le h hX1.size) [4, -4, 1] (by decide) (by decide) #[.int .i64 4, .int .i64 (-4), .int .i64 1] rfl 3 rfl
  obtain ⟨A3, hA3, hX3, hZ3, hI3⟩ := rows1_new A2 (· < W1.heap.size) (fun b h => Nat.lt_of_lt_of_le h (hX1.trans hX2).size) (.slice (some ⟨A1.heap.size, 0, none⟩) 3 3) [4, -4, 1] hI2
  obtain ⟨A4, hA4, hX4, hZ4, hI4⟩ := ints_new A3 (· < W1.heap.size) (fun b h => Nat.lt_of_lt_of_le h ((hX1.trans hX2).trans hX3).size) [1, 0, -4] (by decide) (by decide) #[.int .i64 1, .int .i64 0, .int .i64 (-4)] rfl 3 rfl
  obtain ⟨A5, hA5, hX5, hZ5, hI5⟩ := ints_new A4 (· < W1.heap.size) (fun b h => Nat.lt_of_lt_of_le h (((hX1.trans hX2).trans hX3).trans hX4).size) [0, 1, 4] (by decide) (by decide) #[.int .i64 0, .int .i64 1, .int .i64 4] rfl 3 rfl
  obtain ⟨A6, hA6, hX6, hZ6, hI6⟩ := rows2_new A5 (· < W1.heap.size) (fun b h => Nat.lt_of_lt_of_le h ((((hX1.trans hX2).trans hX3).trans hX4).trans hX5).size) (.slice (some ⟨A3.heap.size, 0, none⟩) 3 3) (.slice (some ⟨A4.heap.size, 0, none⟩) 3 3) [1, 0, -4] [0, 1, 4] (hI4.ext hX5) hI5
  have HI1 := Lib.hid (hI1.ext (((((hX2).trans hX3).trans hX4).trans hX5).trans hX6))
  have HI3 := Lib.hid (hI3.ext (((hX4).trans hX5).trans hX6))
  have HI6 := Lib.hid hI6
  have HEA := Lib.hid ((((((hX1).trans hX2).trans hX3).trans hX4).trans hX5).trans hX6)
  have HEW := Lib.hid (hE1.trans HEA.out)
  have HB := Lib.hid (block_ext hb1 HEA.out)
  have HS1 := Lib.hid hs1
  clear hI1 hI2 hI3 hI4 hI5 hI6 hX1 hX2 hX3 hX4 hX5 hX6 hZ1 hZ2 hZ3 hZ4 hZ5 hZ6 hE1 hs1 hb1
  obtain ⟨b0, b1, b2, bf⟩ := tp_block HB.out
  have f0 := bf 0; have f1 := bf 1; have f2 := bf 2
  clear bf
  go_wp2_with fail
  have hkA := tp_store HB.out (.slice (some ⟨W1.heap.size, 0, none⟩) 3 3) (.slice (some ⟨A2.heap.size, 0, none⟩) 1 1) (.slice (some ⟨A5.heap.size, 0, none⟩) 2 2)
  refine bodyPost_ret (results_cell_row (by rfl) _ _ w.heap.size 65 #[.slice (some ⟨W1.heap.size, 0, none⟩) 3 3, .slice (some ⟨A2.heap.size, 0, none⟩) 1 1, .slice (some ⟨A5.heap.size, 0, none⟩) 2 2] (0, 0) _ (by rfl) hkA Tryz.underlying65 (by rfl) (by kernel_rfl)) (by rfl) ?_
  have hG : ∀ (x y z : Value), GrownS (· < W1.heap.size) A6 (((A6.setCell ⟨w.heap.size, 0, none⟩ x).setCell ⟨w.heap.size, 1, none⟩ y).setCell ⟨w.heap.size, 2, none⟩ z) := fun x y z => by
    have hlt : w.heap.size < W1.heap.size := by have := HS1.out; omega
    exact (((GrownS.refl _ A6).setCell (g := w.heap.size) hlt 0 x).setCell (g := w.heap.size) hlt 1 y).setCell (g := w.heap.size) hlt 2 z
  have hlow : ∀ k, k < w.heap.size → k < W1.heap.size ∨ A6.heap.size ≤ k := fun k hk => .inl (by have := HS1.out; omega)
  refine ⟨_, rfl, ⟨_, _, _, rfl, ?_, ?_, ?_⟩, ext_tp HEW.out (Nat.le_refl _) _ _ _⟩
  · exact (HI1.out.grow (hG _ _ _) hlow).now
  · exact (HI3.out.grow (hG _ _ _) hlow).now
  · exact (HI6.out.grow (hG _ _ _) hlow).now

end Go.Proofs.YtehknemdfbkimaaGreatDoor
