/- Merged: LatB, WholeSub, WholeZ. -/
import Derived.Test.YtielnneclcekbaaGreatDoorQAO
import Derived.Test.YtielnneclcekbaaGreatDoorQAE
import Derived.Test.YtielnneclcekbaaGreatDoorQAF
/- Contract of lattice.checkBoth. -/
namespace Go.Proofs.YtielnneclcekbaaGreatDoor
set_option linter.unusedVariables false
set_option linter.unusedSimpArgs false
open Go.RowKit

theorem lat_block {w : World} {B : Nat} {x y : Value} (h : w.heap[B]? = some (.cells #[x, y] 27 (0, 0))) : w.cell? ⟨B, 0, none⟩ = some x ∧ w.cell? ⟨B, 1, none⟩ = some y ∧ ∀ i, w.frozen? ⟨B, i, none⟩ = false := by
  have c0 := block_cell h 0; have c1 := block_cell h 1
  simp only [List.getElem?_toArray, List.getElem?_cons_zero, List.getElem?_cons_succ] at c0 c1
  exact ⟨c0, c1, fun i => block_free h i⟩
theorem lat_store {w : World} {B : Nat} {x y : Value} (h : w.heap[B]? = some (.cells #[x, y] 27 (0, 0))) (a b : Value) : ((w.setCell ⟨B, 0, none⟩ a).setCell ⟨B, 1, none⟩ b).heap[B]? = some (.cells #[a, b] 27 (0, 0)) := by
  have := block_set (block_set h 0 a) 1 b
  simpa using this
theorem lat_new (w : World) (x y : Value) : ∃ W, w.alloc (.cells #[x, y] 27) = W ∧ Ext w W ∧ W.heap.size = w.heap.size + 1 ∧ W.heap[w.heap.size]? = some (.cells #[x, y] 27 (0, 0)) := ⟨_, rfl, Ext.alloc _ _, by simp, block_new _ _ _⟩
theorem ext_lat {w W : World} {B : Nat} (hE : Ext w W) (hB : w.heap.size ≤ B) (a b : Value) : Ext w ((W.setCell ⟨B, 0, none⟩ a).setCell ⟨B, 1, none⟩ b) :=
  Below.setCell (Below.setCell hE hB _) hB _

def bothE (n : Int) (xss : List (List Int)) (k : Int) (yss : List (List Int)) : Int :=
  if chkE n xss = 0 then (if chkE k yss = 0 then (if n = k then 0 else 5) else chkE k yss) else chkE n xss

set_option maxRecDepth 100000 in
set_option maxHeartbeats 4000000 in
theorem checkBoth_any (n k : Int) (xss yss : List (List Int)) (v u : Value) (w : World) (h : LatV w v n xss) (h' : LatV w u k yss) :
    Calls Tryz.prog 67 #[v, u] w fun e w' => e = .returned (.int .i64 (bothE n xss k yss)) ∧ Ext w w' := by
  have HCA := Lib.hid (fun W (hW : Ext w W) => latChk_any n xss v W (h.ext hW))
  have HCB := Lib.hid (fun W (hW : Ext w W) => latChk_any k yss u W (h'.ext hW))
  obtain ⟨v1, rfl, hv⟩ := h
  obtain ⟨u1, rfl, hu⟩ := h'
  obtain ⟨a, c, rfl, h1, h2, -, hc⟩ := inCell.open hv
  obtain ⟨a', c', rfl, k1, k2, -, kc⟩ := inCell.open hu
  clear hv hu hc kc
  obtain ⟨NX, hNX⟩ : ∃ NX, xss.length = NX := ⟨_, rfl⟩
  obtain ⟨NY, hNY⟩ : ∃ NY, yss.length = NY := ⟨_, rfl⟩
  obtain ⟨E, hE⟩ : ∃ E, chkE n xss = E := ⟨_, rfl⟩
  obtain ⟨F, hF⟩ : ∃ F, chkE k yss = F := ⟨_, rfl⟩
  obtain ⟨G, hG⟩ : ∃ G, bothE n xss k yss = G := ⟨_, rfl⟩
  have HV : Hid (G = if E = 0 then (if F = 0 then (if n = k then 0 else 5) else F) else E) := by unfold Hid; rw [← hG, ← hE, ← hF]; rfl
  rw [hE, hNX] at HCA
  rw [hF, hNY] at HCB
  rw [hG, hNX, hNY]
  clear hE hF hG hNX hNY h1 k1
  go_enter Tryz.func67, Tryz.ntmps67
  obtain ⟨W1, hW1, hE1, hs1, hb1'⟩ := lat_new w (.int .i64 n) (.slice a NX c)
  obtain ⟨W2, hW2, hE2, hs2, hb2'⟩ := lat_new W1 (.int .i64 k) (.slice a' NY c')
  obtain ⟨W3, hW3⟩ : ∃ W3, W2.alloc (.cells #[.int .i64 n, .slice a NX c, .int .i64 k, .slice a' NY c'] 27) = W3 := ⟨_, rfl⟩
  have hE3 : Ext W2 W3 := by rw [← hW3]; exact Ext.alloc _ _
  have hb3' : W3.heap[W2.heap.size]? = some (.cells #[.int .i64 n, .slice a NX c, .int .i64 k, .slice a' NY c'] 27 (0, 0)) := by rw [← hW3]; exact block_new _ _ _
  have HB1 := Lib.hid (block_ext (block_ext hb1' hE2) hE3)
  have HB2 := Lib.hid (block_ext hb2' hE3)
  have HB3 := Lib.hid hb3'
  have HE3 := Lib.hid (hE1.trans (hE2.trans hE3))
  obtain ⟨e10, e11, -⟩ := lat_block (block_ext hb1' hE2)
  obtain ⟨e20, e21, -⟩ := lat_block hb2'
  have z2 : W1.heap.size = w.heap.size + 1 := hs1
  have z3 : W2.heap.size = w.heap.size + 1 + 1 := by omega
  rw [z2] at e20 e21 HB2
  rw [z3] at HB3
  clear hE1 hE2 hE3 hb1' hb2' hb3' hs1 hs2
  go_wp2_with fail
  clear hW1 hW2 hW3 e10 e11 e20 e21 z2
  go_loopw [12] (fun t wr => ∃ i : Nat, i ≤ 2 ∧ t = .int .i64 i ∧ Hid (Ext W3 wr) ∧ Hid (0 < i → E = 0) ∧ Hid (1 < i → F = 0)) (fun t _ => 2 - (intOf t).toNat)
  case atStart => exact ⟨0, by omega, rfl, Ext.refl _, fun h => by omega, fun h => by omega⟩
  case round =>
    obtain ⟨i, hi, rfl, HE, HI1, HI2⟩ := hrel
    obtain ⟨wo, rfl⟩ : ∃ wo : World, wo = wr := ⟨_, rfl⟩
    by_cases hlt : i < 2
    · have hB := block_ext HB3.out HE.out
      obtain ⟨Wb, hWb, hEb, hsb, hbb⟩ := lat_new wo (.int .i64 0) (.slice none 0 0)
      obtain ⟨r0, r1, rf⟩ := lat_block hbb
      have f0 := rf 0; have f1 := rf 1
      obtain ⟨D, hD⟩ : ∃ D : Int, D = if i = 0 then E else F := ⟨_, rfl⟩
      have HG : Hid (D ≠ 0 → G = D) := by
        intro h0
        rw [hD] at h0 ⊢
        by_cases hi0 : i = 0
        · rw [if_pos hi0] at h0 ⊢; rw [HV.out, if_neg h0]
        · rw [if_neg hi0] at h0 ⊢
          rw [HV.out, if_pos (HI1.out (by omega)), if_neg h0]
      have HN1 : Hid (D = 0 → 0 < i + 1 → E = 0) := by
        intro h0 _
        rw [hD] at h0
        by_cases hi0 : i = 0
        · rw [if_pos hi0] at h0; exact h0
        · exact HI1.out (by omega)
      have HN2 : Hid (D = 0 → 1 < i + 1 → F = 0) := by
        intro h0 _
        rw [hD, if_neg (by omega)] at h0; exact h0
      clear HI1 HI2
      rcases (by omega : i = 0 ∨ i = 1) with rfl | rfl
      case' inl =>
        have d0 := block_cell hB 0; have d1 := block_cell hB 1
        have HBS := Lib.hid (lat_store hbb (.int .i64 n) (.slice a NX c))
        have HES := Lib.hid (ext_lat hEb (Nat.le_refl _) (.int .i64 n) (.slice a NX c))
        obtain rfl : D = E := hD
        have HCK := Lib.hid HCA.out
      case' inr =>
        have d0 := block_cell hB 2; have d1 := block_cell hB 3
        have HBS := Lib.hid (lat_store hbb (.int .i64 k) (.slice a' NY c'))
        have HES := Lib.hid (ext_lat hEb (Nat.le_refl _) (.int .i64 k) (.slice a' NY c'))
        obtain rfl : D = F := hD
        have HCK := Lib.hid HCB.out
      all_goals
        simp only [List.getElem?_toArray, List.getElem?_cons_zero, List.getElem?_cons_succ] at d0 d1
        clear hB rf hbb hEb hsb
        try clear hD
        by_cases hD0 : D = 0
        · have HN1' := Lib.hid (HN1.out hD0)
          have HN2' := Lib.hid (HN2.out hD0)
          have HD0 := Lib.hid hD0
          clear HN1 HN2 HG
          rw [hD0] at HCK
          clear hD0
          go_wp2_with fail
          refine (HCK.out _ (HE3.out.trans (HE.out.trans HES.out))).mono ?_
          rintro e w7 ⟨rfl, hE7⟩
          have HE7 := Lib.hid (HE.out.trans (HES.out.trans hE7))
          clear hE7
          go_wp2_with fail
          go_roundw
          case rel => first | exact ⟨1, by omega, by first | rfl | go_num, HE7.out, HN1'.out, HN2'.out⟩ | exact ⟨2, by omega, by first | rfl | go_num, HE7.out, HN1'.out, HN2'.out⟩
          case measure => simp [intOf]
        · have HG' := Lib.hid (HG.out hD0)
          clear HN1 HN2 HG
          go_wp2_with fail
          refine (HCK.out _ (HE3.out.trans (HE.out.trans HES.out))).mono ?_
          rintro e w7 ⟨rfl, hE7⟩
          have HE7 := Lib.hid (HE.out.trans (HES.out.trans hE7))
          clear hE7
          go_wp2_with fail
          go_ret
          exact ⟨by rw [HG'.out]; rfl, HE3.out.trans HE7.out⟩
    · obtain rfl : i = 2 := by omega
      have HE0 := Lib.hid (HE3.out.trans HE.out)
      have hG : G = if n = k then 0 else 5 := by rw [HV.out, if_pos (HI1.out (by omega)), if_pos (HI2.out (by omega))]
      have e0 := block_cell (block_ext HB1.out HE.out) 0
      have e1 := block_cell (block_ext HB2.out HE.out) 0
      simp only [List.getElem?_toArray, List.getElem?_cons_zero, List.getElem?_cons_succ] at e0 e1
      by_cases hnk : n = k
      · have HG2 : Hid (G = 0) := by rw [if_pos hnk] at hG; exact hG
        clear hG
        go_wp2_with fail
        go_ret
        exact ⟨by rw [HG2.out]; rfl, HE0.out⟩
      · have HG2 : Hid (G = 5) := by rw [if_neg hnk] at hG; exact hG
        clear hG
        go_wp2_with fail
        go_ret
        exact ⟨by rw [HG2.out]; rfl, HE0.out⟩
end Go.Proofs.YtielnneclcekbaaGreatDoor
/- Contract of whole.Sub at integers of any size. -/
namespace Go.Proofs.YtielnneclcekbaaGreatDoor
set_option linter.unusedVariables false
set_option linter.unusedSimpArgs false
open Go.RowKit

set_option maxRecDepth 100000 in
set_option maxHeartbeats 400000 in
theorem subI_any (x y : Int) (w : World) (hx : (intB x).size ≤ 2800000000) (hy : (intB y).size ≤ 2800000000) (ht : Pow10 w) :
    Calls Tryz.prog 103 #[.string (intB x), .string (intB y)] w fun e w' => e = .returned (.string (intB (x - y))) ∧ Ext w w' := by
  have HN := Lib.hid (neg_any y w (by omega))
  have hny : (intB (-y)).size ≤ 2900000000 := by
    have h1 := intB_size_le (-y)
    have h2 := natAbs_le y
    rw [Int.natAbs_neg] at h1
    omega
  have HA : Hid (∀ W, Ext w W → Calls Tryz.prog 124 #[.string (intB x), .string (intB (-y))] W fun e w' => e = .returned (.string (intB (x + -y))) ∧ Ext W w') := fun W hE => addI_any x (-y) W (by omega) hny (ht.ext hE)
  rw [show x + -y = x - y by omega] at HA
  clear ht hx hy hny
  go_enter Tryz.func103, Tryz.ntmps103
  go_wp2_with fail
  refine HN.out.mono ?_
  rintro e w0 ⟨rfl, hE0⟩
  have HE0 := Lib.hid hE0
  clear HN hE0
  go_wp2_with fail
  refine (HA.out _ HE0.out).mono ?_
  rintro e w1 ⟨rfl, hE1⟩
  have HE1 := Lib.hid (Ext.trans HE0.out hE1)
  clear hE1 HA
  go_wp2_with fail
  go_ret
  exact ⟨rfl, HE1.out⟩
end Go.Proofs.YtielnneclcekbaaGreatDoor
/- Package whole at the numbers of the lattice's forms: bounds on their sizes; contracts handed on. -/
namespace Go.Proofs.YtielnneclcekbaaGreatDoor
set_option linter.unusedVariables false
set_option linter.unusedSimpArgs false
open Go.RowKit

def Sz (n : Int) : Prop := (numB n.natAbs).size ≤ 1000000000
def Sz9 (n : Int) : Prop := (numB n.natAbs).size ≤ 400000000
theorem sm_of {n : Int} (h : smB n = true) : Sz n := (smB_iff n).1 h
theorem sm9_of {n : Int} (h : sm9B n = true) : Sz9 n := (sm9B_iff n).1 h
theorem Sz.size {n : Int} (h : Sz n) : (intB n).size ≤ 1000000001 := by
  unfold Sz at h; have := intB_size_le n; omega
theorem Sz9.size {n : Int} (h : Sz9 n) : (intB n).size ≤ 400000001 := by
  unfold Sz9 at h; have := intB_size_le n; omega
theorem Sz.natAbs {n : Int} (h : Sz n) : Sz (n.natAbs : Int) := by
  unfold Sz at h ⊢; rw [Int.natAbs_natCast]; exact h
theorem Sz.neg {n : Int} (h : Sz n) : Sz (-n) := by
  unfold Sz at h ⊢; rw [Int.natAbs_neg]; exact h
theorem mul_size (x y : Int) : (intB (x * y)).size ≤ (intB x).size + (intB y).size + 1 := by
  have h1 := intB_size_le (x * y)
  have h2 := natAbs_le x
  have h3 := natAbs_le y
  have h4 := num_mul_size x.natAbs y.natAbs
  rw [Int.natAbs_mul] at h1
  omega
theorem mulZ (x y : Int) (w : World) (hx : Sz9 x) (hy : Sz9 y) (ht : Pow10 w) :
    Calls Tryz.prog 54 #[.string (intB x), .string (intB y)] w fun e w' => e = .returned (.string (intB (x * y))) ∧ Ext w w' :=
  mulI_any x y w (by have := hx.size; omega) (by have := hy.size; omega) ht
theorem subZ (x y : Int) (w : World) (hx : Sz x) (hy : (intB y).size ≤ 1000000001) (ht : Pow10 w) :
    Calls Tryz.prog 103 #[.string (intB x), .string (intB y)] w fun e w' => e = .returned (.string (intB (x - y))) ∧ Ext w w' :=
  subI_any x y w (by have := hx.size; omega) (by omega) ht
theorem divModZ (x y : Int) (w : World) (hx : Sz x) (hy : Sz y) (h0 : y ≠ 0) (ht : Pow10 w) :
    Calls Tryz.prog 56 #[.string (intB x), .string (intB y)] w fun e w' => e = .returned (.tuple #[.string (intB (fdq x y)), .string (intB (fdr x y)), .int .i64 0]) ∧ Ext w w' :=
  divModI_any x y w (by have := hx.size; omega) (by have := hy.size; omega) h0 ht
theorem sign_cmp (x y : Int) (h : x.sign ≠ y.sign) : (x.sign < y.sign ↔ x < y) ∧ x ≠ y := by
  rcases Int.lt_trichotomy x 0 with hx | hx | hx <;> rcases Int.lt_trichotomy y 0 with hy | hy | hy
  all_goals first
    | (rw [Int.sign_eq_neg_one_of_neg hx] at h ⊢) | (rw [hx] at h ⊢; rw [show (0 : Int).sign = 0 from rfl] at h ⊢) | (rw [Int.sign_eq_one_of_pos hx] at h ⊢)
  all_goals first
    | (rw [Int.sign_eq_neg_one_of_neg hy] at h ⊢) | (rw [hy] at h ⊢; rw [show (0 : Int).sign = 0 from rfl] at h ⊢) | (rw [Int.sign_eq_one_of_pos hy] at h ⊢)
  all_goals first | (exact absurd rfl h) | omega
def cmpI (x y : Int) : Int := if x < y then -1 else if x = y then 0 else 1
end Go.Proofs.YtielnneclcekbaaGreatDoor
