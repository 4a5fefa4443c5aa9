/- Merged: TmpP, TTexts, TTextsW, LawPost. -/
import Derived.Test.YtehknemdfbkimaaGreatDoorQBQ
import Derived.Test.YtehknemdfbkimaaGreatDoorRows
import Derived.WalkKit
import Derived.ProofKit
import Derived.OpenShut
/- Law 18, plain: the temperament of a plan; what its functions answer. -/
namespace Go.Proofs.YtehknemdfbkimaaGreatDoor
set_option linter.unusedVariables false
set_option linter.unusedSimpArgs false
open Go.RowKit

theorem plan18 {n : Nat} {m : List (List Int)} (hn1 : 1 ≤ n) (hn : n ≤ 4) (hm : m.length ≤ 4) (hw : ∀ x ∈ m, x.length = n) (h9 : ∀ x ∈ m, RowLe 9 x) (P : List Int) (hP : primesE P = 0) (hPl : P.length = n) (vals : Bool) :
    ∃ F R A S C M, FromD n F m R A S ∧ (if vals then A else S) = C ∧ (if vals then S else A) = M ∧ FromD n F C C M C ∧ FromD n F M M C M ∧ TempF n F P m C M vals := by
  obtain ⟨F, R, A, S, h1, h2, h3, h4, h5⟩ := plan_temp hn1 hn hm hw h9 P hP hPl
  cases vals
  · exact ⟨F, R, A, S, S, A, h1, rfl, rfl, h2, h3, h4⟩
  · exact ⟨F, R, A, S, A, S, h1, rfl, rfl, h3, h2, h5⟩
theorem orth_of {n : Nat} {m : List (List Int)} (hm : Wid n m) {u v : List Int} (hv : Sat n m v) (hu : Ann n m u) : dotZ u v n = 0 := by
  obtain ⟨hl, D, hD, hs⟩ := hv
  have h := ann_sp hm hs hu
  rw [dotZ_comm, dotZ_smul] at h
  rcases Int.mul_eq_zero.1 h with h | h
  · exact absurd h hD
  · exact h
theorem sp_row {n : Nat} {C : List (List Int)} {x : List Int} (hx : x ∈ C) : Sp n (RowsFrom 0 C) x := by
  obtain ⟨i, hi, rfl⟩ := mem_rowE hx
  exact .mem ⟨i, Nat.zero_le _, hi, rfl⟩
/-- The commas are tempered out. -/
theorem comma_out {n F : Nat} {P : List Int} {m C M : List (List Int)} {vals : Bool} (hm : Wid n m) (hT : TempF n F P m C M vals) {x : List Int} (hx : x ∈ C) : (temL M x n).any (· != 0) = false := by
  rw [List.any_eq_false]
  intro y hy
  obtain ⟨r, hr, rfl⟩ := List.mem_map.1 hy
  have h1 := (hT.spC x).1 (sp_row hx)
  have h2 := (hT.spM r).1 (sp_row hr)
  have : dotZ x r n = 0 := by
    cases vals
    · simp only [Bool.false_eq_true, if_false] at h1 h2
      rw [dotZ_comm]
      exact orth_of hm h1 h2
    · simp only [if_true] at h1 h2
      exact orth_of hm h2 h1
  simp [this]
theorem row18_all {n : Nat} {B : List (List Int)} (hn : n ≤ 4) (hB : ∀ x ∈ B, RowLe 629856 x ∧ x.length = n) {x : List Int} (hx : x ∈ B) : allE n [x] = 0 :=
  allE_of fun r hr => by
    obtain rfl : r = x := by simpa using hr
    exact ⟨okRow_of (by have := (hB r hx).2; omega) ((hB r hx).1.mono (by decide)), (hB r hx).2⟩
/-- A plan's box. -/
theorem p18_block {w : World} {B : Nat} {x y z : Value} (h : w.heap[B]? = some (.cells #[x, y, z] 61 (0, 0))) : w.cell? ⟨B, 0, none⟩ = some x ∧ w.cell? ⟨B, 1, none⟩ = some y ∧ w.cell? ⟨B, 2, none⟩ = some z := by
  have h0 := block_cell h 0; have h1 := block_cell h 1; have h2 := block_cell h 2
  simp only [List.getElem?_toArray, List.getElem?_cons_zero, List.getElem?_cons_succ] at h0 h1 h2
  exact ⟨h0, h1, h2⟩
end Go.Proofs.YtehknemdfbkimaaGreatDoor
/- Law 18: texts. -/
namespace Go.Proofs.YtehknemdfbkimaaGreatDoor
set_option linter.unusedVariables false
set_option linter.unusedSimpArgs false
open Go.RowKit

theorem primes12_bd (c : Nat) : ∀ x ∈ primes12 c, -1000000000 ≤ x ∧ x ≤ 1000000000 := by
  unfold primes12
  split <;> decide
theorem val_text {a b : ByteArray} (h : a.data.toList = b.data.toList) : Value.string a = Value.string b := by
  have : a = b := by
    cases a; cases b
    simp only at h
    rw [ByteArray.mk.injEq]
    exact Array.toList_inj.1 h
  rw [this]
set_option maxRecDepth 100000 in
set_option maxHeartbeats 2000000 in
theorem texts18_any (m : List (List Int)) (ket : Bool) (v : Value) (w : World) (h : Rows2 w v m) (hok : ∀ r ∈ m, okRow r) (h4 : m.length ≤ 4) (ht : Pow10 w) :
    Calls Tryz.prog 42 #[v, .bool ket] w fun e w' => e = .returned (.string ⟨(partS ket m).toArray⟩) ∧ Ext w w' := by
  obtain ⟨a, c, rfl, h1, h2, -, hc⟩ := inCell.open h
  have HC := Lib.hid hc; have HOK := Lib.hid hok; have HT := Lib.hid ht
  unfold maxLen at h2
  clear h hc hok ht
  by_cases h0 : m.length = 0
  · have hm : m = [] := List.eq_nil_of_length_eq_zero h0
    subst hm
    have hz : ((([] : List (List Int)).length : Int) == 0) = true := rfl
    clear HC HOK HT h0
    go_enter Tryz.func42, Tryz.ntmps42
    go_wp2_with fail
    go_ret
    exact ⟨rfl, Ext.refl _⟩
  · have hz : ((m.length : Int) == 0) = false := beq_false_of_ne (by omega)
    have HP : Hid (partS ket m = rowsTx ket m) := by unfold Hid partS; rw [if_neg (by intro e; rw [e] at h0; exact h0 rfl)]
    rw [HP.out]
    go_enter Tryz.func42, Tryz.ntmps42
    go_wp2_with fail
    go_loopw [5, 6] (fun s t wr => ∃ j : Nat, j ≤ m.length ∧ t = .int .i64 j ∧ s = .string ⟨(rowsTx ket (m.take j)).toArray⟩ ∧ Hid (Ext w wr)) (fun _ t _ => m.length - (intOf t).toNat)
    case atStart => exact ⟨0, by omega, rfl, rfl, Ext.refl _⟩
    case round =>
      obtain ⟨j, hj, rfl, rfl, HE⟩ := hrel
      obtain ⟨wo, rfl⟩ : ∃ wo : World, wo = wr := ⟨_, rfl⟩
      by_cases hlt : j < m.length
      · obtain ⟨b, off, rfl, hb, hcell⟩ := HC.out (by intro e; simp [e] at hlt)
        obtain ⟨r, hr⟩ : ∃ r, m[j]? = some r := ⟨m[j], List.getElem?_eq_getElem hlt⟩
        obtain ⟨vr, hvr, hcr⟩ := hcell j r hr
        have g1 := HE.out.cell hcr
        have hro := HOK.out r (List.mem_of_getElem? hr)
        have htx := rtext_any r ket vr wo (hvr.ext HE.out) (HT.out.ext HE.out)
        rw [if_pos ((rowE_zero r).2 hro), (rowE_zero r).2 hro] at htx
        have HTX := Lib.hid htx
        have hrl := textS_len hro ket
        have hN : m.take (j + 1) = m.take j ++ [r] := by rw [List.take_add_one, hr]; rfl
        have hl := rowsTx_len ket (m.take j) fun x hx => HOK.out x (List.mem_of_mem_take hx)
        rw [List.length_take] at hl
        have HN : Hid (rowsTx ket (m.take (j + 1)) = if j = 0 then textS r ket else rowsTx ket (m.take j) ++ ([32] ++ textS r ket)) := by
          unfold Hid
          rw [hN]
          split
          · rename_i h; subst h; rw [List.take_zero, List.nil_append, rowsTx_one]
          · rename_i h; rw [rowsTx_snoc _ _ _ (by intro e; have := congrArg List.length e; simp only [List.length_take, List.length_nil] at this; omega)]
        obtain ⟨T, hT⟩ : ∃ T, textS r ket = T := ⟨_, rfl⟩
        obtain ⟨L, hL⟩ : ∃ L, rowsTx ket (m.take j) = L := ⟨_, rfl⟩
        have hL0 : j = 0 → L = [] := fun e => by rw [← hL, e]; rfl
        rw [hT] at HTX HN hrl
        rw [hL] at HN hl ⊢
        obtain ⟨ar, cr, rfl, -⟩ := hvr.open
        have z1 : ¬ 9223372036854775807 < L.length + 1 := by omega
        have z2 : ¬ 9223372036854775807 < L.length + 1 + T.length := by omega
        have z3 : ¬ 9223372036854775807 < L.length + T.length := by omega
        clear hcell hvr hcr hr htx hro hN hT hL hl hrl hz h0
        by_cases hk0 : j = 0
        · obtain rfl := hL0 hk0
          rw [if_pos hk0] at HN
          subst hk0
          rw [Nat.add_zero] at g1
          have z4 : ¬ 9223372036854775807 < T.length := by simpa using z3
          clear hL0 z1 z2 z3
          go_wp2_with fail
          refine HTX.out.mono ?_
          rintro e w6 ⟨rfl, hE6⟩
          have HE6 := Lib.hid (HE.out.trans hE6)
          clear hE6 HTX g1
          go_wp2_with fail
          go_roundw
          case rel => exact ⟨1, by omega, by go_num, by rw [HN.out]; exact val_text (by simp), HE6.out⟩
          case measure => simp [intOf]; omega
        · have hk1 : 0 < j := by omega
          rw [if_neg hk0] at HN
          clear hL0 hk0
          go_wp2_with fail
          refine HTX.out.mono ?_
          rintro e w6 ⟨rfl, hE6⟩
          have HE6 := Lib.hid (HE.out.trans hE6)
          clear hE6 HTX g1
          go_wp2_with fail
          go_roundw
          case rel => exact ⟨j + 1, by omega, by go_num, by rw [HN.out]; exact val_text (by simp), HE6.out⟩
          case measure => simp [intOf]; omega
      · obtain rfl : j = m.length := by omega
        rw [List.take_length]
        clear hz h0
        go_wp2_with fail
        go_ret
        exact ⟨rfl, HE.out⟩
end Go.Proofs.YtehknemdfbkimaaGreatDoor
/- The walk of TemperamentTexts. Printed by gen/tmptx.py. -/
namespace Go.Proofs.YtehknemdfbkimaaGreatDoor
set_option linter.unusedVariables false
set_option linter.unusedSimpArgs false
open Go.RowKit

set_option maxRecDepth 100000 in
set_option maxHeartbeats 4000000 in
theorem texts_walk (c : Int) (hc0 : 0 ≤ c) (hc1 : c ≤ 255) (vals : Bool) (xss : List (List Int)) (v : Value) (w : World) (h : Fours w v xss) (hlib : LibT w) (hp : 0 < w.heap.size) :
    Calls Tryz.prog 7 #[.agg #[.int .u8 c, v, .bool vals]] w fun e w' => e = .returned (.bool true) ∧ Ext w w' := by
  obtain ⟨P, hP⟩ : ∃ P, P = primes12 (c % 10).toNat := ⟨_, rfl⟩
  obtain ⟨n, hn⟩ : ∃ n, P.length = n := ⟨_, rfl⟩
  obtain ⟨hpr, hn1, hn4⟩ := primes12_ok (c % 10).toNat
  have hpb := primes12_bd (c % 10).toNat
  rw [← hP] at hpr hn1 hn4 hpb
  rw [hn] at hn1 hn4
  have HKN := Lib.hid (fun W (hW : Ext w W) => known18_any W (hlib.ext hW) (Nat.lt_of_lt_of_le hp hW.size))
  have HFI := Lib.hid (fun W (hW : Ext w W) => fits18_any c vals xss v W (h.ext hW))
  have hx4 : ∀ x ∈ xss, x.length = 4 := fun x hx => by
    obtain ⟨a, cp, rfl, k1, k2, kl, k4⟩ := ListAt.open h
    obtain ⟨j, hj⟩ := List.getElem?_of_mem hx
    obtain ⟨b, off, rfl, hb, hcell⟩ := k4 (by decide) (by intro e; rw [e] at hj; simp at hj)
    obtain ⟨u, hu, ⟨rfl, hx4, hxb⟩, hc⟩ := hcell j x hj
    exact hx4
  obtain ⟨hm1, hm2⟩ := rows18_ok hn4 hx4 xss.length
  have hsh := h
  obtain ⟨a, cp, rfl, hxx1, hxx2, -⟩ := ListAt.open hsh
  unfold maxLen at hxx2
  obtain ⟨FT, hFT⟩ : ∃ b, decide (xss.length ≤ 3) = b := ⟨_, rfl⟩
  rw [hFT] at HFI
  cases FT with
  | false =>
    clear hm1 hm2 hx4 hsh h hlib hp hFT hpr hn1 hn4 hP hpb
    subst hn
    go_enter Tryz.func7, Tryz.ntmps7
    obtain ⟨W0, hW0⟩ : ∃ W0, w.alloc (.cells #[.int .u8 c, .slice a xss.length cp, .bool vals] 61) = W0 := ⟨_, rfl⟩
    have HE0 : Hid (Ext w W0) := by rw [← hW0]; exact Ext.alloc _ _
    have HP0 : Hid (W0.heap[w.heap.size]? = some (.cells #[.int .u8 c, .slice a xss.length cp, .bool vals] 61 (0, 0))) := by rw [← hW0]; exact block_new _ _ _
    go_wp2_with fail
    clear hW0
    refine (HKN.out _ HE0.out).mono ?_
    rintro e w1 ⟨rfl, hE1⟩
    have HE1 := Lib.hid (HE0.out.trans hE1)
    have HP1 := Lib.hid (block_ext HP0.out hE1)
    obtain ⟨p0, p1, p2⟩ := p18_block HP1.out
    clear hE1 HE0 HP0
    go_wp2_with fail
    refine (HFI.out _ HE1.out).mono ?_
    rintro e w2 ⟨rfl, hE2⟩
    have HE2 := Lib.hid (HE1.out.trans hE2)
    clear hE2 HE1 HFI
    go_wp2_with fail
    refine (HKN.out _ HE2.out).mono ?_
    rintro e w3 ⟨rfl, hE3⟩
    have HE3 := Lib.hid (HE2.out.trans hE3)
    clear hE3 HKN
    go_wp2_with fail
    go_ret
    exact ⟨rfl, HE3.out⟩
  | true =>
  have hx3 : xss.length ≤ 3 := of_decide_eq_true hFT
  obtain ⟨F, R, A, S, C, M, hD, hC, hM, hDC, hDM, hT⟩ := plan18 hn1 hn4 (by omega) (fun x hx => (hm2 x hx).1) (fun x hx => (hm2 x hx).2) P hpr hn vals
  have HWm : Wid n (rows18 n xss.length xss) := fun i hi => (hm2 _ (rowE_mem hi)).1
  have HMK := Lib.hid (fun W (hW : Ext w W) => make18_any c hc0 hc1 n F P hP hn xss hx3 vals _ W (h.ext hW) R A S hD (hlib.ext hW) (Nat.lt_of_lt_of_le hp hW.size))
  rw [hC, hM] at HMK
  have hRT := hT.right
  have hlC : C.length ≤ 4 := hRT.lC
  have hlM : M.length ≤ 4 := hRT.lM
  have hoC : ∀ r ∈ C, okRow r := fun r hr => okRow_of (by have := (hRT.bC r hr).2; omega) ((hRT.bC r hr).1.mono (by decide))
  have hoM : ∀ r ∈ M, okRow r := fun r hr => okRow_of (by have := (hRT.bM r hr).2; omega) ((hRT.bM r hr).1.mono (by decide))
  have HTX : Hid (∀ W v, Ext w W → TempV W v P C M → Calls Tryz.prog 40 #[v] W fun e w' => e = .returned (.tuple #[.string ⟨(primeS P ++ [44, 32, 99, 111, 109, 109, 97, 115, 32] ++ partS true C ++ [44, 32, 109, 97, 112, 112, 105, 110, 103, 32] ++ partS false M).toArray⟩, .int .i64 0]) ∧ Ext W w') := fun W v hW hv => ttext_any n F P C M v W hv hRT hpb (hlib.ext hW) (Nat.lt_of_lt_of_le hp hW.size)
  have HPT : Hid (∀ W v, Ext w W → Ints W v P → Calls Tryz.prog 41 #[v] W fun e w' => e = .returned (.tuple #[.string ⟨(primeS P).toArray⟩, .int .i64 0]) ∧ Ext W w') := fun W v hW hv => primeText_any P v W hv (hlib.pow.ext hW) hpr hpb (by omega)
  have HC1 : Hid (∀ W v, Ext w W → Rows2 W v C → Calls Tryz.prog 42 #[v, .bool true] W fun e w' => e = .returned (.string ⟨(partS true C).toArray⟩) ∧ Ext W w') := fun W v hW hv => texts18_any C true v W hv hoC hlC (hlib.pow.ext hW)
  have HM1 : Hid (∀ W v, Ext w W → Rows2 W v M → Calls Tryz.prog 42 #[v, .bool false] W fun e w' => e = .returned (.string ⟨(partS false M).toArray⟩) ∧ Ext W w') := fun W v hW hv => texts18_any M false v W hv hoM hlM (hlib.pow.ext hW)
  have hs1 := primeS_len hpb
  have hs2 := partS_len true C hoC hlC
  have hs3 := partS_len false M hoM hlM
  obtain ⟨X1, hX1⟩ : ∃ X, primeS P = X := ⟨_, rfl⟩
  obtain ⟨X2, hX2⟩ : ∃ X, partS true C = X := ⟨_, rfl⟩
  obtain ⟨X3, hX3⟩ : ∃ X, partS false M = X := ⟨_, rfl⟩
  rw [hX1, hX2, hX3] at HTX
  rw [hX1] at HPT hs1
  rw [hX2] at HC1 hs2
  rw [hX3] at HM1 hs3
  have hs1 : X1.length ≤ 48 := by omega
  clear hX1 hX2 hX3
  clear hm1 hm2 hx4 hsh h hlib hp hFT hpr hP hD hDC hDM hT HWm hRT hC hM hn1 hpb hoC hoM
  subst hn
  go_enter Tryz.func7, Tryz.ntmps7
  obtain ⟨W0, hW0⟩ : ∃ W0, w.alloc (.cells #[.int .u8 c, .slice a xss.length cp, .bool vals] 61) = W0 := ⟨_, rfl⟩
  have HE0 : Hid (Ext w W0) := by rw [← hW0]; exact Ext.alloc _ _
  have HP0 : Hid (W0.heap[w.heap.size]? = some (.cells #[.int .u8 c, .slice a xss.length cp, .bool vals] 61 (0, 0))) := by rw [← hW0]; exact block_new _ _ _
  go_wp2_with fail
  clear hW0
  refine (HKN.out _ HE0.out).mono ?_
  rintro e w1 ⟨rfl, hE1⟩
  have HE1 := Lib.hid (HE0.out.trans hE1)
  have HP1 := Lib.hid (block_ext HP0.out hE1)
  obtain ⟨p0, p1, p2⟩ := p18_block HP1.out
  clear hE1 HE0 HP0
  go_wp2_with fail
  refine (HFI.out _ HE1.out).mono ?_
  rintro e w2 ⟨rfl, hE2⟩
  have HE2 := Lib.hid (HE1.out.trans hE2)
  have HP2 := Lib.hid (block_ext HP1.out hE2)
  clear hE2 HE1 HFI HP1 p0 p1 p2
  obtain ⟨p0, p1, p2⟩ := p18_block HP2.out
  go_wp2_with fail
  refine (HMK.out _ HE2.out).mono ?_
  rintro e w3 ⟨u, rfl, hS, hE⟩
  have HEC3 := Lib.hid (HE2.out.trans hE)
  clear hE HE2 HP2 HMK p0 p1 p2
  obtain ⟨p3, c3, m3, rfl, hvp, hvc, hvm⟩ := hS
  have HTV3 : Hid (TempV w3 (.agg #[p3, c3, m3]) P C M) := ⟨_, _, _, rfl, hvp, hvc, hvm⟩
  obtain ⟨ap3, kp3, rfl, -⟩ := hvp.open
  obtain ⟨ac3, kc3, rfl, -⟩ := inCell.open hvc
  obtain ⟨am3, km3, rfl, -⟩ := inCell.open hvm
  clear hvp hvc hvm
  obtain ⟨V3, hV3, hXV, hsV, hbV⟩ := tp_new w3 (.slice none 0 0) (.slice none 0 0) (.slice none 0 0)
  obtain ⟨r0, r1, r2, rf⟩ := tp_block hbV
  have f0 := rf 0; have f1 := rf 1; have f2 := rf 2
  have HB3 := Lib.hid (tp_store hbV (.slice ap3 P.length kp3) (.slice ac3 C.length kc3) (.slice am3 M.length km3))
  have HXU3 := Lib.hid (ext_tp hXV (Nat.le_refl _) (.slice ap3 P.length kp3) (.slice ac3 C.length kc3) (.slice am3 M.length km3))
  clear hXV hsV hbV rf
  obtain ⟨U3, hU3⟩ : ∃ U, ((V3.setCell ⟨w3.heap.size, 0, none⟩ (.slice ap3 P.length kp3)).setCell ⟨w3.heap.size, 1, none⟩ (.slice ac3 C.length kc3)).setCell ⟨w3.heap.size, 2, none⟩ (.slice am3 M.length km3) = U := ⟨_, rfl⟩
  rw [hU3] at HB3 HXU3
  have HE3 := Lib.hid (HEC3.out.trans HXU3.out)
  have HTV3 := Lib.hid (HTV3.out.ext HXU3.out)
  clear HXU3 HEC3
  obtain ⟨s0, s1, s2, -⟩ := tp_block HB3.out
  go_wp2_with fail
  clear hU3 hV3 r0 r1 r2 f0 f1 f2 s0 s1 s2
  refine (HTX.out _ _ HE3.out HTV3.out).mono ?_
  rintro e w4 ⟨rfl, hE⟩
  have HE4 := Lib.hid (HE3.out.trans hE)
  have HB3 := Lib.hid (block_ext HB3.out hE); have HTV3 := Lib.hid (HTV3.out.ext hE)
  clear hE
  obtain ⟨q0, q1, q2, hqe, hq0, hq1, hq2⟩ := HTV3.out
  simp only [Value.agg.injEq, Array.mk.injEq, List.cons.injEq, and_true] at hqe
  obtain ⟨rfl, rfl, rfl⟩ := hqe
  obtain ⟨s0, s1, s2, -⟩ := tp_block HB3.out
  have HQ1 := Lib.hid hq1; have HQ2 := Lib.hid hq2
  go_wp2_with fail
  refine (HPT.out _ _ HE4.out hq0).mono ?_
  rintro e w5 ⟨rfl, hE⟩
  have HE5 := Lib.hid (HE4.out.trans hE)
  have HB3 := Lib.hid (block_ext HB3.out hE)
  have HQ1 := Lib.hid (HQ1.out.ext hE); have HQ2 := Lib.hid (HQ2.out.ext hE)
  clear hE s0 s1 s2 hq0 hq1 hq2
  obtain ⟨b3, hb3⟩ : ∃ b, w3.heap.size = b := ⟨_, rfl⟩
  rw [hb3] at HB3
  obtain ⟨s0, s1, s2, -⟩ := tp_block HB3.out
  have z1 : ¬ 9223372036854775807 < X1.length + 9 := by omega
  have z2 : ¬ 9223372036854775807 < X1.length + 9 + X2.length := by omega
  have z3 : ¬ 9223372036854775807 < X1.length + 9 + X2.length + 10 := by omega
  have z4 : ¬ 9223372036854775807 < X1.length + 9 + X2.length + 10 + X3.length := by omega
  go_upto_region 6 with fail
  clear hb3
  refine region_anyEV (fun w' => w'.cell? ⟨b3, 1, none⟩ = some (.slice ac3 C.length kc3) ∧ w'.cell? ⟨b3, 2, none⟩ = some (.slice am3 M.length km3) ∧ Hid (Ext w5 w')) 22 22 (by kernel_rfl) (by kernel_rfl) ⟨(Ext.drew w5).cell s1, (Ext.drew w5).cell s2, Ext.drew w5⟩ (fun ops hO hHeld => ?_)
  generalize w5.drew = wd at hHeld ⊢
  have hi := getopN hO 0 (by decide)
  conv at hi => rhs; arg 1; whnf
  refine anyE_takeWV hO (v := ?_) 0 hi (by kernel_rfl) (by kernel_rfl) (by kernel_rfl) (by kernel_rfl) (fun _ _ _ h => h) (Or.inl ⟨by rfl, ?_⟩) (by assumption) ?_
  rotate_left
  · ((intro w'); (try go_simp); (try with_reducible rfl))
  clear hi
  (try simp only [Act.put, List.setIfInBounds_toArray, List.set_cons_zero, List.set_cons_succ])
  have hi := getopN hO 1 (by decide)
  conv at hi => rhs; arg 1; whnf
  refine anyE_takeWV hO (v := ?_) 1 hi (by kernel_rfl) (by kernel_rfl) (by kernel_rfl) (by kernel_rfl) (fun _ _ _ h => h) (Or.inl ⟨by rfl, ?_⟩) (by assumption) ?_
  rotate_left
  · ((intro w'); (try go_simp); (try with_reducible rfl))
  clear hi
  (try simp only [Act.put, List.setIfInBounds_toArray, List.set_cons_zero, List.set_cons_succ])
  have hi := getopN hO 2 (by decide)
  conv at hi => rhs; arg 1; whnf
  refine anyE_takeWV hO (v := ?_) 2 hi (by kernel_rfl) (by kernel_rfl) (by kernel_rfl) (by kernel_rfl) (fun _ _ _ h => h) (Or.inl ⟨by rfl, ?_⟩) (by assumption) ?_
  rotate_left
  · ((intro w'); (try go_simp); (try with_reducible rfl))
  clear hi
  (try simp only [Act.put, List.setIfInBounds_toArray, List.set_cons_zero, List.set_cons_succ])
  have hi := getopN hO 3 (by decide)
  conv at hi => rhs; arg 1; whnf
  refine anyE_takeWV hO (v := ?_) 3 hi (by kernel_rfl) (by kernel_rfl) (by kernel_rfl) (by kernel_rfl) (fun _ _ _ h => h) (Or.inl ⟨by rfl, ?_⟩) (by assumption) ?_
  rotate_left
  · ((intro w'); (try go_simp); (try with_reducible rfl))
  clear hi
  (try simp only [Act.put, List.setIfInBounds_toArray, List.set_cons_zero, List.set_cons_succ])
  have hi := getopN hO 4 (by decide)
  conv at hi => rhs; arg 1; whnf
  refine anyE_takeWV hO (v := ?_) 4 hi (by kernel_rfl) (by kernel_rfl) (by kernel_rfl) (by kernel_rfl) (fun _ _ _ h => h) (Or.inl ⟨by rfl, ?_⟩) (by assumption) ?_
  rotate_left
  · ((intro w'); (try go_simp); (try with_reducible rfl))
  clear hi
  (try simp only [Act.put, List.setIfInBounds_toArray, List.set_cons_zero, List.set_cons_succ])
  have hi := getopN hO 5 (by decide)
  conv at hi => rhs; arg 1; whnf
  refine anyE_takeWV hO (v := ?_) 5 hi (by kernel_rfl) (by kernel_rfl) (by kernel_rfl) (by kernel_rfl) (fun _ _ _ h => h) (Or.inl ⟨by rfl, ?_⟩) (by assumption) ?_
  rotate_left
  · ((intro w'); (try go_simp); (try with_reducible rfl))
  clear hi
  (try simp only [Act.put, List.setIfInBounds_toArray, List.set_cons_zero, List.set_cons_succ])
  have hi := getopN hO 6 (by decide)
  conv at hi => rhs; arg 1; whnf
  refine anyE_takeWV hO (v := ?_) 6 hi (by kernel_rfl) (by kernel_rfl) (by kernel_rfl) (by kernel_rfl) (fun _ _ _ h => h) (Or.inl ⟨by rfl, ?_⟩) (by assumption) ?_
  rotate_left
  · ((intro w'); (try go_simp); (try with_reducible rfl))
  clear hi
  (try simp only [Act.put, List.setIfInBounds_toArray, List.set_cons_zero, List.set_cons_succ])
  have hi := getopN hO 7 (by decide)
  conv at hi => rhs; arg 1; whnf
  refine anyE_takeWV hO (v := ?_) 7 hi (by kernel_rfl) (by kernel_rfl) (by kernel_rfl) (by kernel_rfl) (fun _ _ _ h => h) (Or.inl ⟨by rfl, ?_⟩) (by assumption) ?_
  rotate_left
  · ((intro w'); (try go_simp); (try with_reducible rfl))
  clear hi
  (try simp only [Act.put, List.setIfInBounds_toArray, List.set_cons_zero, List.set_cons_succ])
  have hi := getopN hO 8 (by decide)
  conv at hi => rhs; arg 1; whnf
  refine anyE_takeWV hO (v := ?_) 8 hi (by kernel_rfl) (by kernel_rfl) (by kernel_rfl) (by kernel_rfl) (fun _ _ _ h => h) (Or.inl ⟨by rfl, ?_⟩) (by assumption) ?_
  rotate_left
  · ((intro w'); (try go_simp); (try with_reducible rfl))
  clear hi
  (try simp only [Act.put, List.setIfInBounds_toArray, List.set_cons_zero, List.set_cons_succ])
  have hi := getopN hO 9 (by decide)
  conv at hi => rhs; arg 1; whnf
  refine anyE_takeWV hO (v := ?_) 9 hi (by kernel_rfl) (by kernel_rfl) (by kernel_rfl) (by kernel_rfl) (fun _ _ _ h => h) (Or.inl ⟨by rfl, ?_⟩) (by assumption) ?_
  rotate_left
  · ((intro w'); (try go_simp); (try with_reducible rfl))
  clear hi
  (try simp only [Act.put, List.setIfInBounds_toArray, List.set_cons_zero, List.set_cons_succ])
  have hi := getopN hO 10 (by decide)
  conv at hi => rhs; arg 1; whnf
  refine anyE_takeWV hO (v := ?_) 10 hi (by kernel_rfl) (by kernel_rfl) (by kernel_rfl) (by kernel_rfl) (fun _ _ _ h => h) (Or.inl ⟨by rfl, ?_⟩) (by assumption) ?_
  rotate_left
  · ((intro w'); (try go_simp); (try with_reducible rfl))
  clear hi
  (try simp only [Act.put, List.setIfInBounds_toArray, List.set_cons_zero, List.set_cons_succ])
  have hi := getopN hO 11 (by decide)
  conv at hi => rhs; arg 1; whnf
  refine anyE_takeV hO (v := ?_) 11 hi (by kernel_rfl) (by kernel_rfl) (by kernel_rfl) (by kernel_rfl) (fun _ _ _ h => h) (Or.inl ⟨by rfl, ?_⟩) (by assumption) ?_
  rotate_left
  · ((intro w' hSw); (try dsimp only at hSw); (try go_simp); (try with_reducible rfl))
  clear hi
  (try simp only [Act.put, List.setIfInBounds_toArray, List.set_cons_zero, List.set_cons_succ])
  have hi := getopN hO 15 (by decide)
  conv at hi => rhs; arg 1; whnf
  refine anyE_takeWV hO (v := ?_) 15 hi (by kernel_rfl) (by kernel_rfl) (by kernel_rfl) (by kernel_rfl) (fun _ _ _ h => h) (Or.inl ⟨by rfl, ?_⟩) (by assumption) ?_
  rotate_left
  · ((intro w'); (try go_simp); (try with_reducible rfl))
  clear hi
  (try simp only [Act.put, List.setIfInBounds_toArray, List.set_cons_zero, List.set_cons_succ])
  have hi := getopN hO 16 (by decide)
  conv at hi => rhs; arg 1; whnf
  refine anyE_takeV hO (v := ?_) 16 hi (by kernel_rfl) (by kernel_rfl) (by kernel_rfl) (by kernel_rfl) (fun _ _ _ h => h) (Or.inl ⟨by rfl, ?_⟩) (by assumption) ?_
  rotate_left
  · ((intro w' hSw); (try dsimp only at hSw); (try go_simp); (try with_reducible rfl))
  clear hi
  (try simp only [Act.put, List.setIfInBounds_toArray, List.set_cons_zero, List.set_cons_succ])
  have hi := getopN hO 12 (by decide)
  conv at hi => rhs; arg 1; whnf
  refine anyE_stepV hO 12 (by kernel_rfl) hi (fun K hK => ?_)
  go_simp
  (go_at_call 42; refine (HC1.out _ _ (Ext.trans HE5.out (hHeld.2.2.out)) (HQ1.out.ext (hHeld.2.2.out))).mono ?_)
  rintro e w41 ⟨rfl, hEz⟩
  go_wp2_with fail
  refine hK.out _ _ ⟨(hEz).cell hHeld.1, (hEz).cell hHeld.2.1, Ext.trans hHeld.2.2.out (hEz)⟩ (fun hHeld => ?_)
  clear hK K hi
  (try simp only [Act.put, List.setIfInBounds_toArray, List.set_cons_zero, List.set_cons_succ])
  have hi := getopN hO 13 (by decide)
  conv at hi => rhs; arg 1; whnf
  refine anyE_takeWV hO (v := ?_) 13 hi (by kernel_rfl) (by kernel_rfl) (by kernel_rfl) (by kernel_rfl) (fun _ _ _ h => h) (Or.inl ⟨by rfl, ?_⟩) (by assumption) ?_
  rotate_left
  · ((intro w'); (try go_simp); (try with_reducible rfl))
  clear hi
  (try simp only [Act.put, List.setIfInBounds_toArray, List.set_cons_zero, List.set_cons_succ])
  have hi := getopN hO 14 (by decide)
  conv at hi => rhs; arg 1; whnf
  refine anyE_takeWV hO (v := ?_) 14 hi (by kernel_rfl) (by kernel_rfl) (by kernel_rfl) (by kernel_rfl) (fun _ _ _ h => h) (Or.inl ⟨by rfl, ?_⟩) (by assumption) ?_
  rotate_left
  · ((intro w'); (try go_simp); (try with_reducible rfl))
  clear hi
  (try simp only [Act.put, List.setIfInBounds_toArray, List.set_cons_zero, List.set_cons_succ])
  have hi := getopN hO 17 (by decide)
  conv at hi => rhs; arg 1; whnf
  refine anyE_stepV hO 17 (by kernel_rfl) hi (fun K hK => ?_)
  go_simp
  (go_at_call 42; refine (HM1.out _ _ (Ext.trans HE5.out (hHeld.2.2.out)) (HQ2.out.ext (hHeld.2.2.out))).mono ?_)
  rintro e w46 ⟨rfl, hEz⟩
  go_wp2_with fail
  refine hK.out _ _ ⟨(hEz).cell hHeld.1, (hEz).cell hHeld.2.1, Ext.trans hHeld.2.2.out (hEz)⟩ (fun hHeld => ?_)
  clear hK K hi
  (try simp only [Act.put, List.setIfInBounds_toArray, List.set_cons_zero, List.set_cons_succ])
  have hi := getopN hO 18 (by decide)
  conv at hi => rhs; arg 1; whnf
  refine anyE_takeWV hO (v := ?_) 18 hi (by kernel_rfl) (by kernel_rfl) (by kernel_rfl) (by kernel_rfl) (fun _ _ _ h => h) (Or.inl ⟨by rfl, ?_⟩) (by assumption) ?_
  rotate_left
  · ((intro w'); (try go_simp); (try with_reducible rfl))
  clear hi
  (try simp only [Act.put, List.setIfInBounds_toArray, List.set_cons_zero, List.set_cons_succ])
  have hi := getopN hO 19 (by decide)
  conv at hi => rhs; arg 1; whnf
  refine anyE_takeWV hO (v := ?_) 19 hi (by kernel_rfl) (by kernel_rfl) (by kernel_rfl) (by kernel_rfl) (fun _ _ _ h => h) (Or.inl ⟨by rfl, ?_⟩) (by assumption) ?_
  rotate_left
  · ((intro w'); (try go_simp); (try with_reducible rfl))
  clear hi
  (try simp only [Act.put, List.setIfInBounds_toArray, List.set_cons_zero, List.set_cons_succ])
  have hi := getopN hO 20 (by decide)
  conv at hi => rhs; arg 1; whnf
  refine anyE_takeWV hO (v := ?_) 20 hi (by kernel_rfl) (by kernel_rfl) (by kernel_rfl) (by kernel_rfl) (fun _ _ _ h => h) (Or.inl ⟨by rfl, ?_⟩) (by assumption) ?_
  rotate_left
  · ((intro w'); (try go_simp); (try with_reducible rfl))
  clear hi
  (try simp only [Act.put, List.setIfInBounds_toArray, List.set_cons_zero, List.set_cons_succ])
  have HZ := Lib.hid (hHeld.2.2.out)
  have hi := getopN hO 21 (by decide)
  conv at hi => rhs; arg 1; whnf
  refine anyE_lastV hO 21 (by kernel_rfl) (by kernel_rfl) hi (fun K hK => ?_)
  go_simp
  refine hK.out _ _ (by assumption) ?_
  clear hK K hi hO
  (try simp only [Act.put, List.setIfInBounds_toArray, List.set_cons_zero, List.set_cons_succ])
  go_wp2_with fail
  go_ret
  refine ⟨congrArg Ending.returned (congrArg Value.bool (a₂ := true) ?_), HE5.out.trans HZ.out⟩
  rw [beq_iff_eq]
  rw [Lib.toList_data]
  simp
end Go.Proofs.YtehknemdfbkimaaGreatDoor
/- What a statement's row asks of the end of a call, out of: it returned true, and all that lay in memory lies unturned. -/
namespace Go.Proofs.YtehknemdfbkimaaGreatDoor
set_option linter.unusedVariables false
set_option linter.unusedSimpArgs false
open Go.ChangeShapes Go.WideShapes Go.ChangeAt Go.RowKit

theorem lawOwn : ownKnob Tryz.prog.godebug = none := by kernel_rfl
theorem lawLaid : laidOutB Tryz.prog = true := by kernel_rfl

theorem trodAll_below {H : Type} {enc : TypeId × Value → H} {P : Program} (hl : laidOutB P = true) {W W' : World} (hb : Below W.heap.size W W') :
    ∀ (ts : List TypeId) (vs : List Value) (ds : List (DataW H)) (ps : List MemPlace), (∀ t ∈ ts, P.readableRec t = true ∧ t < P.types.size) →
      DataW.TrodAll enc P W 0 (fun _ => true) true ts vs ds ps → (∀ x ∈ ps, x.block < W.heap.size) → DataW.TrodAll enc P W' 0 (fun b => decide (b < W.heap.size)) true ts vs ds ps
  | [], [], [], ps, _, h, _ => h
  | t :: ts, v :: vs, d :: ds, ps, hr, h, hlt => by
    obtain ⟨p, p', h1, h2, rfl⟩ := h
    exact ⟨p, p', Below.trod hl (hr t (by simp)).1 (hr t (by simp)).2 h1 hb (fun x hx => hlt x (by simp [hx])), trodAll_below hl hb ts vs ds p' (fun t ht => hr t (by simp [ht])) h2 (fun x hx => hlt x (by simp [hx])), rfl⟩
  | [], v :: vs, _, _, _, h, _ => absurd h (by simp [DataW.TrodAll])
  | [], [], d :: ds, _, _, h, _ => absurd h (by simp [DataW.TrodAll])
  | t :: ts, [], _, _, _, h, _ => absurd h (by simp [DataW.TrodAll])
  | t :: ts, v :: vs, [], _, _, h, _ => absurd h (by simp [DataW.TrodAll])

/-- The row's end for a statement that answers true and leaves what it was given alone. -/
theorem lawPost {H : Type} {enc : TypeId × Value → H} {f : Func} {s : ChangeSpec} {W W' : World} {args : Array Value} {ds : List (DataW H)} {before : List MemPlace}
    (hW : DataW.Whole enc Tryz.prog f.params.toList s.vars false W args.toList ds [] before) (hA : DataW.TrodAll enc Tryz.prog W 0 (fun _ => true) true f.params.toList args.toList ds before)
    (hv : s.vars = []) (hres : f.resultTypes = #[4]) (hfn : s.fn H (ds ++ []) = { results := [.lit (.bool true)], args := ds }) (hr : ∀ t ∈ f.params.toList, Tryz.prog.readableRec t = true ∧ t < Tryz.prog.types.size) (hb : Below W.heap.size W W') :
    ∃ v, Ending.returned (.bool true) = Ending.returned v ∧ ChangeSpec.post enc Tryz.prog f s false true false false W args v W' := by
  refine ⟨_, rfl, ds, [], before, [], before, [], hW, ?_, ?_, ?_, ?_, fun h => by cases h⟩
  · rw [hfn, hres]
    exact trodAll_cons_mk (shut_bool Tryz.underlying4 _) trodAll_mk0
  · rw [hfn]
    exact trodAll_below lawLaid hb _ _ _ _ hr hA (fun x hx => by simpa using hW.lt x hx)
  · rw [hfn, hv]; rfl
  · exact hb.frame _
end Go.Proofs.YtehknemdfbkimaaGreatDoor
