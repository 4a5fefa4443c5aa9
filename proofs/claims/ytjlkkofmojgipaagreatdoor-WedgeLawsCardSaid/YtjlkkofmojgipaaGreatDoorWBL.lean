import Derived.Test.YtjlkkofmojgipaaGreatDoorWBI
import Derived.Test.YtjlkkofmojgipaaGreatDoorWBJ
import Derived.Test.YtjlkkofmojgipaaGreatDoorWBK
namespace Go.Proofs.YtjlkkofmojgipaaGreatDoor
set_option linter.unusedVariables false
set_option linter.unusedSimpArgs false
open Go.RowKit
theorem prod_open {n ka kb ks la lb ls:Nat} {A B D:List Int} {a a':Option Addr} {c c':Nat} (hn:n<5) (hA:RightM n ka A) (hB:RightM n kb B) (hk:ka+kb≤n) (hD:prodL n ka kb A B=D) (hl:D.length=ls) (hs:ka+kb=ks) (W:World) (h:ListAt 1 numC W (.slice a la c) A) (h':ListAt 1 numC W (.slice a' lb c') B) (ht:Pow10 W) :
  Calls Tryz.prog 42 #[.agg #[.int .i64 n,.int .i64 ka,.slice a la c],.agg #[.int .i64 n,.int .i64 kb,.slice a' lb c']] W fun e w'=>∃ a c,e=.returned (.tuple #[.agg #[.int .i64 n,.int .i64 ks,.slice a ls c],.int .i64 0])∧ListAt 1 numC w' (.slice a ls c) D∧Ext W w' :=
 (prodM_any (by omega) hA hB hk _ _ W ⟨_,rfl,h⟩ ⟨_,rfl,h'⟩ ht).mono fun e w' ⟨y,h1,h2,h3⟩=>by
  obtain ⟨a,c,rfl,h4⟩:=multi_open h3
  rw [hD,hl] at h4
  rw [hD,hl,hs] at h1
  exact ⟨a,c,h1,h4,h2⟩
set_option maxRecDepth 100000 in
set_option maxHeartbeats 8000000 in
theorem wlaws_walk (x0 y0 z00 z01 z02 z03 z04 z05 x1 y1 z10 z11 z12 z13 z14 z15 x2 y2 z20 z21 z22 z23 z24 z25 : Int) (w : World) (hx0 : 0 ≤ x0 ∧ x0 ≤ 255) (hy0 : 0 ≤ y0 ∧ y0 ≤ 255) (hz0 : ∀ a ∈ [z00, z01, z02, z03, z04, z05], -128 ≤ a ∧ a ≤ 127) (hx1 : 0 ≤ x1 ∧ x1 ≤ 255) (hy1 : 0 ≤ y1 ∧ y1 ≤ 255) (hz1 : ∀ a ∈ [z10, z11, z12, z13, z14, z15], -128 ≤ a ∧ a ≤ 127) (hx2 : 0 ≤ x2 ∧ x2 ≤ 255) (hy2 : 0 ≤ y2 ∧ y2 ≤ 255) (hz2 : ∀ a ∈ [z20, z21, z22, z23, z24, z25], -128 ≤ a ∧ a ≤ 127) (hlib : LibT w) (hb : 4 < w.heap.size) :
    Calls Tryz.prog 10 #[.agg #[.int .u8 x0, .int .u8 y0, .int .i8 z00, .int .i8 z01, .int .i8 z02, .int .i8 z03, .int .i8 z04, .int .i8 z05, .int .u8 x1, .int .u8 y1, .int .i8 z10, .int .i8 z11, .int .i8 z12, .int .i8 z13, .int .i8 z14, .int .i8 z15, .int .u8 x2, .int .u8 y2, .int .i8 z20, .int .i8 z21, .int .i8 z22, .int .i8 z23, .int .i8 z24, .int .i8 z25]] w fun e w' => e = .returned (.bool true) ∧ Ext w w' := by
  obtain ⟨n, hn⟩ : ∃ n : Nat, (n : Int) = x0.tmod 5 := ⟨(x0.tmod 5).toNat, by rw [Int.toNat_of_nonneg (Int.tmod_nonneg _ hx0.1)]⟩
  have hn5 : n < 5 := by have := Int.tmod_lt_of_pos x0 (show (0 : Int) < 5 by decide); omega
  obtain ⟨k0, hk0⟩ : ∃ k : Nat, (k : Int) = y0.tmod ((n : Int) + 1) := ⟨(y0.tmod ((n : Int) + 1)).toNat, by rw [Int.toNat_of_nonneg (Int.tmod_nonneg _ hy0.1)]⟩
  have hkn0 : k0 ≤ n := by
    have h1 := Int.tmod_lt_of_pos y0 (show 0 < (n : Int) + 1 by omega)
    omega
  obtain ⟨N0, hN0⟩ : ∃ N, (allW n k0).length = N := ⟨_, rfl⟩
  have h60 := allW_six n hn5 k0 (by omega)
  rw [hN0] at h60
  obtain ⟨X0, hX0⟩ : ∃ X, [z00, z01, z02, z03, z04, z05].take N0 = X := ⟨_, rfl⟩
  have hXl0 : X0.length = N0 := by rw [← hX0, List.length_take]; simp; omega
  have hXb0 : ∀ a ∈ X0, a.natAbs ≤ 128 := fun a ha => by
    rw [← hX0] at ha
    have := hz0 a (List.mem_of_mem_take ha); omega
  have HMK0 : Hid (∀ W, Ext w W → Calls Tryz.prog 27 #[.agg #[.int .u8 x0, .int .u8 y0, .int .i8 z00, .int .i8 z01, .int .i8 z02, .int .i8 z03, .int .i8 z04, .int .i8 z05], .int .i64 n] W fun e w' => ∃ a c, e = .returned (.agg #[.int .i64 n, .int .i64 k0, .slice a N0 c]) ∧ ListAt 1 numC w' (.slice a N0 c) X0 ∧ Ext W w') := fun W hW => by
    have h9 := make10_any x0 y0 n z00 z01 z02 z03 z04 z05 n k0 hx0 hy0 hz0 hn5 (.inl rfl) hk0 W (hlib.pow.ext hW)
    rw [hN0, hX0] at h9; exact h9
  obtain ⟨k1, hk1⟩ : ∃ k : Nat, (k : Int) = y1.tmod ((n : Int) + 1) := ⟨(y1.tmod ((n : Int) + 1)).toNat, by rw [Int.toNat_of_nonneg (Int.tmod_nonneg _ hy1.1)]⟩
  have hkn1 : k1 ≤ n := by
    have h1 := Int.tmod_lt_of_pos y1 (show 0 < (n : Int) + 1 by omega)
    omega
  obtain ⟨N1, hN1⟩ : ∃ N, (allW n k1).length = N := ⟨_, rfl⟩
  have h61 := allW_six n hn5 k1 (by omega)
  rw [hN1] at h61
  obtain ⟨X1, hX1⟩ : ∃ X, [z10, z11, z12, z13, z14, z15].take N1 = X := ⟨_, rfl⟩
  have hXl1 : X1.length = N1 := by rw [← hX1, List.length_take]; simp; omega
  have hXb1 : ∀ a ∈ X1, a.natAbs ≤ 128 := fun a ha => by
    rw [← hX1] at ha
    have := hz1 a (List.mem_of_mem_take ha); omega
  have HMK1 : Hid (∀ W, Ext w W → Calls Tryz.prog 27 #[.agg #[.int .u8 x1, .int .u8 y1, .int .i8 z10, .int .i8 z11, .int .i8 z12, .int .i8 z13, .int .i8 z14, .int .i8 z15], .int .i64 n] W fun e w' => ∃ a c, e = .returned (.agg #[.int .i64 n, .int .i64 k1, .slice a N1 c]) ∧ ListAt 1 numC w' (.slice a N1 c) X1 ∧ Ext W w') := fun W hW => by
    have h9 := make10_any x1 y1 n z10 z11 z12 z13 z14 z15 n k1 hx1 hy1 hz1 hn5 (.inl rfl) hk1 W (hlib.pow.ext hW)
    rw [hN1, hX1] at h9; exact h9
  obtain ⟨k2, hk2⟩ : ∃ k : Nat, (k : Int) = y2.tmod ((n : Int) + 1) := ⟨(y2.tmod ((n : Int) + 1)).toNat, by rw [Int.toNat_of_nonneg (Int.tmod_nonneg _ hy2.1)]⟩
  have hkn2 : k2 ≤ n := by
    have h1 := Int.tmod_lt_of_pos y2 (show 0 < (n : Int) + 1 by omega)
    omega
  obtain ⟨N2, hN2⟩ : ∃ N, (allW n k2).length = N := ⟨_, rfl⟩
  have h62 := allW_six n hn5 k2 (by omega)
  rw [hN2] at h62
  obtain ⟨X2, hX2⟩ : ∃ X, [z20, z21, z22, z23, z24, z25].take N2 = X := ⟨_, rfl⟩
  have hXl2 : X2.length = N2 := by rw [← hX2, List.length_take]; simp; omega
  have hXb2 : ∀ a ∈ X2, a.natAbs ≤ 128 := fun a ha => by
    rw [← hX2] at ha
    have := hz2 a (List.mem_of_mem_take ha); omega
  have HMK2 : Hid (∀ W, Ext w W → Calls Tryz.prog 27 #[.agg #[.int .u8 x2, .int .u8 y2, .int .i8 z20, .int .i8 z21, .int .i8 z22, .int .i8 z23, .int .i8 z24, .int .i8 z25], .int .i64 n] W fun e w' => ∃ a c, e = .returned (.agg #[.int .i64 n, .int .i64 k2, .slice a N2 c]) ∧ ListAt 1 numC w' (.slice a N2 c) X2 ∧ Ext W w') := fun W hW => by
    have h9 := make10_any x2 y2 n z20 z21 z22 z23 z24 z25 n k2 hx2 hy2 hz2 hn5 (.inl rfl) hk2 W (hlib.pow.ext hW)
    rw [hN2, hX2] at h9; exact h9
  have e0 : x0 % 5 = (n : Int) := by rw [hn, Int.tmod_eq_emod_of_nonneg hx0.1]
  have HKN : Hid (∀ W, Ext w W → Calls Tryz.prog 13 #[] W fun e w' => e = .returned (.bool true) ∧ Ext W w') := fun W hW => known10_any W (hlib.ext hW) (Nat.lt_of_lt_of_le hb hW.size)
  have hr0 := right_of hn5 hkn0 (by rw [hXl0, hN0]) hXb0 (by decide)
  have hr1 := right_of hn5 hkn1 (by rw [hXl1, hN1]) hXb1 (by decide)
  have hr2 := right_of hn5 hkn2 (by rw [hXl2, hN2]) hXb2 (by decide)
  obtain ⟨PA, hPA⟩ : ∃ L, prodL n k0 k1 X0 X1 = L := ⟨_, rfl⟩
  obtain ⟨PB, hPB⟩ : ∃ L, prodL n (k0 + k1) k2 PA X2 = L := ⟨_, rfl⟩
  obtain ⟨PC, hPC⟩ : ∃ L, prodL n k1 k2 X1 X2 = L := ⟨_, rfl⟩
  obtain ⟨PK, hPK⟩ : ∃ L, prodL n k1 k0 X1 X0 = L := ⟨_, rfl⟩
  obtain ⟨NA, hNA⟩ : ∃ N, (allW n (k0 + k1)).length = N := ⟨_, rfl⟩
  obtain ⟨NB, hNB⟩ : ∃ N, (allW n (k0 + k1 + k2)).length = N := ⟨_, rfl⟩
  obtain ⟨NC, hNC⟩ : ∃ N, (allW n (k1 + k2)).length = N := ⟨_, rfl⟩
  have hlA : PA.length = NA := by rw [← hPA, prodL_len, hNA]
  have hlB : PB.length = NB := by rw [← hPB, prodL_len, hNB]
  have hlC : PC.length = NC := by rw [← hPC, prodL_len, hNC]
  have hlK : PK.length = NA := by rw [← hPK, prodL_len, Nat.add_comm k1 k0, hNA]
  have hbA : ∀ a ∈ PA, a.natAbs ≤ 36 * (128 * 128) := by rw [← hPA]; exact prodL_small hn5 hkn0 hkn1 hXb0 hXb1
  have hbC : ∀ a ∈ PC, a.natAbs ≤ 36 * (128 * 128) := by rw [← hPC]; exact prodL_small hn5 hkn1 hkn2 hXb1 hXb2
  have hbK : ∀ a ∈ PK, a.natAbs ≤ 36 * (128 * 128) := by rw [← hPK]; exact prodL_small hn5 hkn1 hkn0 hXb1 hXb0
  obtain ⟨ga, hga⟩ : ∃ s, k0 + k1 = s := ⟨_, rfl⟩
  obtain ⟨gt, hgt⟩ : ∃ s, k0 + k1 + k2 = s := ⟨_, rfl⟩
  obtain ⟨gc, hgc⟩ : ∃ s, k1 + k2 = s := ⟨_, rfl⟩
  have HP1 : k0 + k1 + k2 ≤ n → Hid (∀ W a c a' c', Ext w W → ListAt 1 numC W (.slice a N0 c) X0 → ListAt 1 numC W (.slice a' N1 c') X1 → Calls Tryz.prog 42 #[.agg #[.int .i64 n, .int .i64 k0, .slice a N0 c], .agg #[.int .i64 n, .int .i64 k1, .slice a' N1 c']] W fun e w' => ∃ a c, e = .returned (.tuple #[.agg #[.int .i64 n, .int .i64 ga, .slice a NA c], .int .i64 0]) ∧ ListAt 1 numC w' (.slice a NA c) PA ∧ Ext W w') := fun h3 W a c a' c' hW h h' => prod_open hn5 hr0 hr1 (by omega) hPA hlA hga W h h' (hlib.pow.ext hW)
  have HP2 : k0 + k1 + k2 ≤ n → Hid (∀ W a c a' c', Ext w W → ListAt 1 numC W (.slice a NA c) PA → ListAt 1 numC W (.slice a' N2 c') X2 → Calls Tryz.prog 42 #[.agg #[.int .i64 n, .int .i64 ga, .slice a NA c], .agg #[.int .i64 n, .int .i64 k2, .slice a' N2 c']] W fun e w' => ∃ a c, e = .returned (.tuple #[.agg #[.int .i64 n, .int .i64 gt, .slice a NB c], .int .i64 0]) ∧ ListAt 1 numC w' (.slice a NB c) PB ∧ Ext W w') := fun h3 W a c a' c' hW h h' => prod_open hn5 (right_of hn5 (by omega) (by rw [hlA, ← hga, hNA]) hbA (by decide)) hr2 (by omega) (by rw [← hga]; exact hPB) hlB (by omega) W h h' (hlib.pow.ext hW)
  have HP3 : k0 + k1 + k2 ≤ n → Hid (∀ W a c a' c', Ext w W → ListAt 1 numC W (.slice a N1 c) X1 → ListAt 1 numC W (.slice a' N2 c') X2 → Calls Tryz.prog 42 #[.agg #[.int .i64 n, .int .i64 k1, .slice a N1 c], .agg #[.int .i64 n, .int .i64 k2, .slice a' N2 c']] W fun e w' => ∃ a c, e = .returned (.tuple #[.agg #[.int .i64 n, .int .i64 gc, .slice a NC c], .int .i64 0]) ∧ ListAt 1 numC w' (.slice a NC c) PC ∧ Ext W w') := fun h3 W a c a' c' hW h h' => prod_open hn5 hr1 hr2 (by omega) hPC hlC hgc W h h' (hlib.pow.ext hW)
  have HP4 : k0 + k1 + k2 ≤ n → Hid (∀ W a c a' c', Ext w W → ListAt 1 numC W (.slice a N0 c) X0 → ListAt 1 numC W (.slice a' NC c') PC → Calls Tryz.prog 42 #[.agg #[.int .i64 n, .int .i64 k0, .slice a N0 c], .agg #[.int .i64 n, .int .i64 gc, .slice a' NC c']] W fun e w' => ∃ a c, e = .returned (.tuple #[.agg #[.int .i64 n, .int .i64 gt, .slice a NB c], .int .i64 0]) ∧ ListAt 1 numC w' (.slice a NB c) PB ∧ Ext W w') := fun h3 W a c a' c' hW h h' => prod_open hn5 hr0 (right_of hn5 (by omega) (by rw [hlC, ← hgc, hNC]) hbC (by decide)) (by omega) (by rw [← hgc, ← hPC, ← prod_assoc hn5 h3, hPA, hPB]) hlB (by omega) W h h' (hlib.pow.ext hW)
  have HP5 : k0 + k1 + k2 ≤ n → Hid (∀ W a c a' c', Ext w W → ListAt 1 numC W (.slice a N1 c) X1 → ListAt 1 numC W (.slice a' N0 c') X0 → Calls Tryz.prog 42 #[.agg #[.int .i64 n, .int .i64 k1, .slice a N1 c], .agg #[.int .i64 n, .int .i64 k0, .slice a' N0 c']] W fun e w' => ∃ a c, e = .returned (.tuple #[.agg #[.int .i64 n, .int .i64 ga, .slice a NA c], .int .i64 0]) ∧ ListAt 1 numC w' (.slice a NA c) PK ∧ Ext W w') := fun h3 W a c a' c' hW h h' => prod_open hn5 hr1 hr0 (by omega) hPK hlK (by omega) W h h' (hlib.pow.ext hW)
  obtain ⟨o, ho⟩ : ∃ o, decide (k0 * k1 % 2 = 1) = o := ⟨_, rfl⟩
  have HFL : Hid (k0 + k1 + k2 ≤ n → PA = PK.map fun x => sgnI x o) := fun h3 => by
    refine ext_getD (by rw [hlA, List.length_map, hlK]) fun q hq => ?_
    have h9 := prod_flip hn5 (a := k0) (b := k1) (by omega) X0 X1 q (by rw [hNA, ← hlA]; exact hq)
    rw [hPA, hPK] at h9
    rw [h9]
    obtain ⟨y, hy⟩ : ∃ y, PK[q]? = some y := ⟨_, List.getElem?_eq_getElem (by rw [hlK, ← hlA]; exact hq)⟩
    rw [getD_of hy, getD_of (x := sgnI y o) (by rw [List.getElem?_map, hy]; rfl), sgnI_mul, ← ho]
    by_cases h1 : k0 * k1 % 2 = 1
    · rw [if_pos h1, decide_eq_true h1]; rfl
    · rw [if_neg h1, decide_eq_false h1]; rfl
  have HNG : Hid (∀ a ∈ PK, ∀ W, Calls Tryz.prog 29 #[.string (intB a)] W fun e w' => e = .returned (.string (intB (-a))) ∧ Ext W w') := fun a ha W => neg_any a W (by
    have h1 := hbK a ha
    have h9 := size_abs9 (x := a) (by omega); omega)
  have hpar := kd_parity k0 (by omega) k1 (by omega)
  rw [ho] at hpar
  obtain ⟨kd, hkd⟩ : ∃ kd, k0 * k1 = kd := ⟨_, rfl⟩
  have hkd16 : kd ≤ 16 := by rw [← hkd]; exact Nat.mul_le_mul (show k0 ≤ 4 by omega) (show k1 ≤ 4 by omega)
  have e2 : (k0 : Int) * (k1 : Int) = (kd : Int) := by rw [← hkd, Int.natCast_mul]
  have e2' : IntKind.i64.wrap ((k0 : Int) * (k1 : Int)) = (kd : Int) := by rw [e2, IntKind.wrap_i64]; omega
  rw [hkd] at hpar
  obtain ⟨tm, htm⟩ : ∃ tm, (kd : Int).tmod 2 = tm := ⟨_, rfl⟩
  rw [htm] at hpar
  have e3 : IntKind.i64.wrap ((k0 : Int) + (k1 : Int)) = (ga : Int) := by rw [IntKind.wrap_i64]; omega
  have e4 : IntKind.i64.wrap ((ga : Int) + (k2 : Int)) = (gt : Int) := by rw [IntKind.wrap_i64]; omega
  have HGT := Lib.hid hgt; have HGA := Lib.hid hga; have HGC := Lib.hid hgc
  have HLA := Lib.hid hlA; have HLB := Lib.hid hlB; have HLK := Lib.hid hlK
  clear hr0 hr1 hr2 hPA hPB hPC hPK hNA hNB hNC hlA hlB hlC hlK hbA hbC hbK ho hkd hkd16 e2 hga hgt hgc
  obtain ⟨w1, hw1, hE1, hs1, hb1⟩ := boxD w #[.int .u8 x0, .int .u8 y0, .int .i8 z00, .int .i8 z01, .int .i8 z02, .int .i8 z03, .int .i8 z04, .int .i8 z05, .int .u8 x1, .int .u8 y1, .int .i8 z10, .int .i8 z11, .int .i8 z12, .int .i8 z13, .int .i8 z14, .int .i8 z15, .int .u8 x2, .int .u8 y2, .int .i8 z20, .int .i8 z21, .int .i8 z22, .int .i8 z23, .int .i8 z24, .int .i8 z25] 76
  have HE1 := Lib.hid hE1
  have HBA := Lib.hid hb1
  have e0a : x0.tmod 5 = (n : Int) := hn.symm
  clear hb1 hE1 hs1 hn hk0 hk1 hk2
  go_enter Tryz.func10, Tryz.ntmps10
  go_wp2_with fail
  refine (HKN.out w1 HE1.out).mono ?_
  rintro e w3 ⟨rfl, hE3⟩
  have HX3 : Hid (Ext w1 w3) := hE3
  have HE3 : Hid (Ext w w3) := HE1.out.trans hE3
  have HBA3 := Lib.hid (block_ext HBA.out hE3)
  have s0 := block_cell HBA3.out 0
  simp only [List.getElem?_toArray, List.getElem?_cons_succ, List.getElem?_cons_zero] at s0
  clear hE3 HKN hw1
  go_upto_region 4 with fail
  refine region_anyEV (fun w' => Hid (w'.heap[w.heap.size]? = some (.cells #[.int .u8 x0, .int .u8 y0, .int .i8 z00, .int .i8 z01, .int .i8 z02, .int .i8 z03, .int .i8 z04, .int .i8 z05, .int .u8 x1, .int .u8 y1, .int .i8 z10, .int .i8 z11, .int .i8 z12, .int .i8 z13, .int .i8 z14, .int .i8 z15, .int .u8 x2, .int .u8 y2, .int .i8 z20, .int .i8 z21, .int .i8 z22, .int .i8 z23, .int .i8 z24, .int .i8 z25] 76 (0, 0))) ∧ Hid (Ext w3 w')) 18 18 (by kernel_rfl) (by kernel_rfl) ⟨block_ext HBA3.out (Ext.drew w3), Ext.drew w3⟩ (fun ops hO hHeld => ?_)
  have hi := getopN hO 0 (by decide)
  conv at hi => rhs; arg 1; whnf
  refine anyE_takeWV hO (v := ?_) 0 hi (by kernel_rfl) (by kernel_rfl) (by kernel_rfl) (by kernel_rfl) (fun _ _ _ h => h) (Or.inl ⟨by rfl, ?_⟩) (by assumption) ?_
  rotate_left
  · ((intro w'); (try go_simp); (try with_reducible rfl))
  clear hi
  (try simp only [Act.put, List.setIfInBounds_toArray, List.set_cons_zero, List.set_cons_succ])
  have hi := getopN hO 1 (by decide)
  conv at hi => rhs; arg 1; whnf
  refine anyE_takeV hO (v := ?_) 1 hi (by kernel_rfl) (by kernel_rfl) (by kernel_rfl) (by kernel_rfl) (fun _ _ _ h => h) (Or.inl ⟨by rfl, ?_⟩) (by assumption) ?_
  rotate_left
  · ((intro w' hSw); (try dsimp only at hSw); have sb := block_cell hSw.1.out; (try go_simp); (try with_reducible rfl))
  clear hi
  (try simp only [Act.put, List.setIfInBounds_toArray, List.set_cons_zero, List.set_cons_succ])
  have hi := getopN hO 2 (by decide)
  conv at hi => rhs; arg 1; whnf
  refine anyE_takeWV hO (v := ?_) 2 hi (by kernel_rfl) (by kernel_rfl) (by kernel_rfl) (by kernel_rfl) (fun _ _ _ h => h) (Or.inl ⟨by rfl, ?_⟩) (by assumption) ?_
  rotate_left
  · ((intro w'); (try go_simp); (try with_reducible rfl))
  clear hi
  (try simp only [Act.put, List.setIfInBounds_toArray, List.set_cons_zero, List.set_cons_succ])
  have hi := getopN hO 4 (by decide)
  conv at hi => rhs; arg 1; whnf
  refine anyE_takeWV hO (v := ?_) 4 hi (by kernel_rfl) (by kernel_rfl) (by kernel_rfl) (by kernel_rfl) (fun _ _ _ h => h) (Or.inl ⟨by rfl, ?_⟩) (by assumption) ?_
  rotate_left
  · ((intro w'); (try go_simp); (try with_reducible rfl))
  clear hi
  (try simp only [Act.put, List.setIfInBounds_toArray, List.set_cons_zero, List.set_cons_succ])
  have hi := getopN hO 5 (by decide)
  conv at hi => rhs; arg 1; whnf
  refine anyE_takeV hO (v := ?_) 5 hi (by kernel_rfl) (by kernel_rfl) (by kernel_rfl) (by kernel_rfl) (fun _ _ _ h => h) (Or.inl ⟨by rfl, ?_⟩) (by assumption) ?_
  rotate_left
  · ((intro w' hSw); (try dsimp only at hSw); have sb := block_cell hSw.1.out; (try go_simp); (try with_reducible rfl))
  clear hi
  (try simp only [Act.put, List.setIfInBounds_toArray, List.set_cons_zero, List.set_cons_succ])
  have hi := getopN hO 6 (by decide)
  conv at hi => rhs; arg 1; whnf
  refine anyE_takeWV hO (v := ?_) 6 hi (by kernel_rfl) (by kernel_rfl) (by kernel_rfl) (by kernel_rfl) (fun _ _ _ h => h) (Or.inl ⟨by rfl, ?_⟩) (by assumption) ?_
  rotate_left
  · ((intro w'); (try go_simp); (try with_reducible rfl))
  clear hi
  (try simp only [Act.put, List.setIfInBounds_toArray, List.set_cons_zero, List.set_cons_succ])
  have hi := getopN hO 8 (by decide)
  conv at hi => rhs; arg 1; whnf
  refine anyE_takeWV hO (v := ?_) 8 hi (by kernel_rfl) (by kernel_rfl) (by kernel_rfl) (by kernel_rfl) (fun _ _ _ h => h) (Or.inl ⟨by rfl, ?_⟩) (by assumption) ?_
  rotate_left
  · ((intro w'); (try go_simp); (try with_reducible rfl))
  clear hi
  (try simp only [Act.put, List.setIfInBounds_toArray, List.set_cons_zero, List.set_cons_succ])
  have hi := getopN hO 9 (by decide)
  conv at hi => rhs; arg 1; whnf
  refine anyE_takeV hO (v := ?_) 9 hi (by kernel_rfl) (by kernel_rfl) (by kernel_rfl) (by kernel_rfl) (fun _ _ _ h => h) (Or.inl ⟨by rfl, ?_⟩) (by assumption) ?_
  rotate_left
  · ((intro w' hSw); (try dsimp only at hSw); have sb := block_cell hSw.1.out; (try go_simp); (try with_reducible rfl))
  clear hi
  (try simp only [Act.put, List.setIfInBounds_toArray, List.set_cons_zero, List.set_cons_succ])
  have hi := getopN hO 10 (by decide)
  conv at hi => rhs; arg 1; whnf
  refine anyE_takeWV hO (v := ?_) 10 hi (by kernel_rfl) (by kernel_rfl) (by kernel_rfl) (by kernel_rfl) (fun _ _ _ h => h) (Or.inl ⟨by rfl, ?_⟩) (by assumption) ?_
  rotate_left
  · ((intro w'); (try go_simp); (try with_reducible rfl))
  clear hi
  (try simp only [Act.put, List.setIfInBounds_toArray, List.set_cons_zero, List.set_cons_succ])
  have HSIX : Hid (∀ c0 c1 c2 d0 d1 d2, sixB .any ops c0 c1 c2 d0 d1 d2 = true) := by
    unfold Hid
    rw [show ops = _ from hO]
    intro c0 c1 c2 d0 d1 d2
    cases c0 <;> cases c1 <;> cases c2 <;> cases d0 <;> cases d1 <;> cases d2 <;> kernel_rfl
  refine anyE_name (fun a0 ha0 => ?_)
  have ex0 : Hid (∀ s, (ch6 a0 29 33 37 4 5 6 s).eval (.tmp 27) = .agg #[.int .u8 x0, .int .u8 y0, .int .i8 z00, .int .i8 z01, .int .i8 z02, .int .i8 z03, .int .i8 z04, .int .i8 z05]) := fun s => (ch6_eval (by decide) (by decide) (by decide) (by decide) (by decide) (by decide)).trans (by rw [ha0]; simp [Act.eval])
  have ey0 : Hid (∀ s, (ch6 a0 29 33 37 4 5 6 s).eval (.tmp 28) = .int .i64 n) := fun s => (ch6_eval (by decide) (by decide) (by decide) (by decide) (by decide) (by decide)).trans (by rw [ha0]; simp [Act.eval])
  have ex1 : Hid (∀ s, (ch6 a0 29 33 37 4 5 6 s).eval (.tmp 31) = .agg #[.int .u8 x1, .int .u8 y1, .int .i8 z10, .int .i8 z11, .int .i8 z12, .int .i8 z13, .int .i8 z14, .int .i8 z15]) := fun s => (ch6_eval (by decide) (by decide) (by decide) (by decide) (by decide) (by decide)).trans (by rw [ha0]; simp [Act.eval])
  have ey1 : Hid (∀ s, (ch6 a0 29 33 37 4 5 6 s).eval (.tmp 32) = .int .i64 n) := fun s => (ch6_eval (by decide) (by decide) (by decide) (by decide) (by decide) (by decide)).trans (by rw [ha0]; simp [Act.eval])
  have ex2 : Hid (∀ s, (ch6 a0 29 33 37 4 5 6 s).eval (.tmp 35) = .agg #[.int .u8 x2, .int .u8 y2, .int .i8 z20, .int .i8 z21, .int .i8 z22, .int .i8 z23, .int .i8 z24, .int .i8 z25]) := fun s => (ch6_eval (by decide) (by decide) (by decide) (by decide) (by decide) (by decide)).trans (by rw [ha0]; simp [Act.eval])
  have ey2 : Hid (∀ s, (ch6 a0 29 33 37 4 5 6 s).eval (.tmp 36) = .int .i64 n) := fun s => (ch6_eval (by decide) (by decide) (by decide) (by decide) (by decide) (by decide)).trans (by rw [ha0]; simp [Act.eval])
  refine anyE_phase (fun l b u => ∃ s : SixS, l = sixL s.c0 s.c1 s.c2 s.d0 s.d1 s.d2 ∧ b = (ch6 a0 29 33 37 4 5 6 s) ∧ Hid (Six3 w3 n k0 N0 X0 k1 N1 X1 k2 N2 X2 s u)) 3 ?hS ?hne ?hstep ?hend 6 _ a0 _ (by kernel_rfl) ⟨⟨false, false, false, false, false, false, a0.tmps.getD 29 undef, a0.tmps.getD 33 undef, a0.tmps.getD 37 undef, a0.tmps.getD 4 undef, a0.tmps.getD 5 undef, a0.tmps.getD 6 undef⟩, rfl, ch6_start.symm, Six3.start (Ext.drew w3)⟩
  case hS =>
    rintro l b u ⟨s, rfl, rfl, H⟩
    exact ⟨block_ext HBA3.out H.out.ext, H.out.ext⟩
  case hne =>
    rintro l b u ⟨s, rfl, rfl, H⟩ hc
    exact six_ready (HSIX.out s.c0 s.c1 s.c2 s.d0 s.d1 s.d2) hc
  case hstep =>
    rintro l b u i o ⟨s, rfl, rfl, H⟩ hc hi ho K hK
    have hin := hi
    rcases six_in (HSIX.out s.c0 s.c1 s.c2 s.d0 s.d1 s.d2) H.out.ch1 H.out.ch2 hc i hin with ⟨rfl, hs⟩ | ⟨rfl, hs⟩ | ⟨rfl, hs⟩ | ⟨rfl, hs⟩ | ⟨rfl, hs⟩ | ⟨rfl, hs⟩
    · clear hin hi hc
      have hi := getopN hO 3 (by decide)
      conv at hi => rhs; arg 1; whnf
      obtain rfl := Option.some.inj (ho.symm.trans hi)
      clear hi ho
      rw [if_pos (by rfl)]
      refine wp_call2 27 _ _ _ rfl (enters_of Tryz.func27 (by kernel_rfl) rfl) (ex0.out s) (ey0.out s) ((HMK0.out u (HE3.out.trans H.out.ext)).mono ?_)
      rintro e u2 ⟨aa, ac, rfl, hR2, hE2⟩
      exact ⟨_, rfl, hK.out _ _ ⟨{ s with c0 := true, r0 := .agg #[.int .i64 n, .int .i64 k0, .slice aa N0 ac] }, rfl, ch6_0 (by decide) (by decide) (by decide) (by decide) (by decide), H.out.call0 hs hR2 hE2⟩⟩
    · clear hin hi hc
      have hi := getopN hO 7 (by decide)
      conv at hi => rhs; arg 1; whnf
      obtain rfl := Option.some.inj (ho.symm.trans hi)
      clear hi ho
      rw [if_pos (by rfl)]
      refine wp_call2 27 _ _ _ rfl (enters_of Tryz.func27 (by kernel_rfl) rfl) (ex1.out s) (ey1.out s) ((HMK1.out u (HE3.out.trans H.out.ext)).mono ?_)
      rintro e u2 ⟨aa, ac, rfl, hR2, hE2⟩
      exact ⟨_, rfl, hK.out _ _ ⟨{ s with c1 := true, r1 := .agg #[.int .i64 n, .int .i64 k1, .slice aa N1 ac] }, rfl, ch6_1 (by decide) (by decide) (by decide) (by decide), H.out.call1 hs hR2 hE2⟩⟩
    · clear hin hi hc
      have hi := getopN hO 11 (by decide)
      conv at hi => rhs; arg 1; whnf
      obtain rfl := Option.some.inj (ho.symm.trans hi)
      clear hi ho
      rw [if_pos (by rfl)]
      refine wp_call2 27 _ _ _ rfl (enters_of Tryz.func27 (by kernel_rfl) rfl) (ex2.out s) (ey2.out s) ((HMK2.out u (HE3.out.trans H.out.ext)).mono ?_)
      rintro e u2 ⟨aa, ac, rfl, hR2, hE2⟩
      exact ⟨_, rfl, hK.out _ _ ⟨{ s with c2 := true, r2 := .agg #[.int .i64 n, .int .i64 k2, .slice aa N2 ac] }, rfl, ch6_2 (by decide) (by decide) (by decide), H.out.call2 hs hR2 hE2⟩⟩
    · clear hin hi hc
      have hi := getopN hO 12 (by decide)
      conv at hi => rhs; arg 1; whnf
      obtain rfl := Option.some.inj (ho.symm.trans hi)
      clear hi ho
      rw [if_pos (by rfl)]
      obtain ⟨b9, hb9⟩ : ∃ b, ch6 a0 29 33 37 4 5 6 s = b := ⟨_, rfl⟩
      rw [hb9]
      go_simp
      refine hK.out _ _ ⟨{ s with d0 := true, p0 := .pointer (some ⟨u.heap.size, 0, none⟩) }, rfl, ?_, H.out.box0 hs⟩
      rw [← hb9]
      exact ch6_3 (by decide) (by decide)
    · clear hin hi hc
      have hi := getopN hO 13 (by decide)
      conv at hi => rhs; arg 1; whnf
      obtain rfl := Option.some.inj (ho.symm.trans hi)
      clear hi ho
      rw [if_pos (by rfl)]
      obtain ⟨b9, hb9⟩ : ∃ b, ch6 a0 29 33 37 4 5 6 s = b := ⟨_, rfl⟩
      rw [hb9]
      go_simp
      refine hK.out _ _ ⟨{ s with d1 := true, p1 := .pointer (some ⟨u.heap.size, 0, none⟩) }, rfl, ?_, H.out.box1 hs⟩
      rw [← hb9]
      exact ch6_4 (by decide)
    · clear hin hi hc
      have hi := getopN hO 14 (by decide)
      conv at hi => rhs; arg 1; whnf
      obtain rfl := Option.some.inj (ho.symm.trans hi)
      clear hi ho
      rw [if_pos (by rfl)]
      obtain ⟨b9, hb9⟩ : ∃ b, ch6 a0 29 33 37 4 5 6 s = b := ⟨_, rfl⟩
      rw [hb9]
      go_simp
      refine hK.out _ _ ⟨{ s with d2 := true, p2 := .pointer (some ⟨u.heap.size, 0, none⟩) }, rfl, ?_, H.out.box2 hs⟩
      rw [← hb9]
      exact ch6_5
  case hend =>
    rintro l b u ⟨⟨c0, c1, c2, d0, d1, d2, r0, r1, r2, p0, p1, p2⟩, rfl, rfl, H⟩ hc
    obtain ⟨rfl, rfl, rfl, rfl, rfl, rfl⟩ := six_all c0 c1 c2 d0 d1 d2 hc
    obtain ⟨g0, g1, g2, aX, cX, aY, cY, aZ, cZ, rfl, rfl, rfl, rfl, rfl, rfl, HF⟩ := H.out.all
    clear hc H ex0 ex1 ex2 ey0 ey1 ey2 HMK0 HMK1 HMK2 HSIX
    unfold ch6
    rw [ha0]
    simp only [Act.put, List.setIfInBounds_toArray, List.set_cons_zero, List.set_cons_succ]
    clear ha0
    obtain ⟨HS9, HL0u, HL1u, HL2u⟩ := HF
    have HB0u := Lib.hid HS9.out.b0; have HB1u := Lib.hid HS9.out.b1; have HB2u := Lib.hid HS9.out.b2
    have r0 := block_cell HB0u.out
    have f0 := block_free HB0u.out
    have hi := getopN hO 15 (by decide)
    conv at hi => rhs; arg 1; whnf
    refine anyE_stepV hO 15 (by kernel_rfl) hi (fun K hK => ?_)
    go_simp
    generalize hwa : World.setCell _ _ _ = ua
    have HXua : Hid (Ext w3 ua) := by rw [← hwa]; exact multi_ext HS9.out.ext HS9.out.l0 _ _ _
    have HB0ua : Hid (ua.heap[g0]? = some (.cells #[.int .i64 n, .int .i64 k0, .slice aX N0 cX] 31 (0, 0))) := by rw [← hwa]; exact multi_store HB0u.out _ _ _
    have HB1ua : Hid (ua.heap[g1]? = some (.cells #[.int .i64 0, .int .i64 0, .slice none 0 0] 31 (0, 0))) := by rw [← hwa]; exact block_grown HB1u.out (multi_grown _ _ _ _ _) (fun e => HS9.out.n01 (by cases e; rfl))
    have HB2ua : Hid (ua.heap[g2]? = some (.cells #[.int .i64 0, .int .i64 0, .slice none 0 0] 31 (0, 0))) := by rw [← hwa]; exact block_grown HB2u.out (multi_grown _ _ _ _ _) (fun e => HS9.out.n02 (by cases e; rfl))
    have HL0ua : Hid (ListAt 1 numC ua (.slice aX N0 cX) X0) := by rw [← hwa]; exact nums_set HL0u.out HB0u.out (multi_nostr 0 0) (multi_grown _ _ _ _ _)
    have HL1ua : Hid (ListAt 1 numC ua (.slice aY N1 cY) X1) := by rw [← hwa]; exact nums_set HL1u.out HB0u.out (multi_nostr 0 0) (multi_grown _ _ _ _ _)
    have HL2ua : Hid (ListAt 1 numC ua (.slice aZ N2 cZ) X2) := by rw [← hwa]; exact nums_set HL2u.out HB0u.out (multi_nostr 0 0) (multi_grown _ _ _ _ _)
    clear hwa r0 f0
    have r0 := block_cell HB1ua.out
    have f0 := block_free HB1ua.out
    refine hK.out _ _ ⟨block_ext HBA3.out HXua.out, HXua.out⟩ (fun hHeld => ?_)
    clear hK K hi
    have hi := getopN hO 16 (by decide)
    conv at hi => rhs; arg 1; whnf
    refine anyE_stepV hO 16 (by kernel_rfl) hi (fun K hK => ?_)
    go_simp
    generalize hwa : World.setCell _ _ _ = ub
    have HXub : Hid (Ext w3 ub) := by rw [← hwa]; exact multi_ext HXua.out HS9.out.l1 _ _ _
    have HB0ub : Hid (ub.heap[g0]? = some (.cells #[.int .i64 n, .int .i64 k0, .slice aX N0 cX] 31 (0, 0))) := by rw [← hwa]; exact block_grown HB0ua.out (multi_grown _ _ _ _ _) (fun e => HS9.out.n01 (by cases e; rfl))
    have HB1ub : Hid (ub.heap[g1]? = some (.cells #[.int .i64 n, .int .i64 k1, .slice aY N1 cY] 31 (0, 0))) := by rw [← hwa]; exact multi_store HB1ua.out _ _ _
    have HB2ub : Hid (ub.heap[g2]? = some (.cells #[.int .i64 0, .int .i64 0, .slice none 0 0] 31 (0, 0))) := by rw [← hwa]; exact block_grown HB2ua.out (multi_grown _ _ _ _ _) (fun e => HS9.out.n12 (by cases e; rfl))
    have HL0ub : Hid (ListAt 1 numC ub (.slice aX N0 cX) X0) := by rw [← hwa]; exact nums_set HL0ua.out HB1ua.out (multi_nostr 0 0) (multi_grown _ _ _ _ _)
    have HL1ub : Hid (ListAt 1 numC ub (.slice aY N1 cY) X1) := by rw [← hwa]; exact nums_set HL1ua.out HB1ua.out (multi_nostr 0 0) (multi_grown _ _ _ _ _)
    have HL2ub : Hid (ListAt 1 numC ub (.slice aZ N2 cZ) X2) := by rw [← hwa]; exact nums_set HL2ua.out HB1ua.out (multi_nostr 0 0) (multi_grown _ _ _ _ _)
    clear hwa r0 f0
    have r0 := block_cell HB2ub.out
    have f0 := block_free HB2ub.out
    refine hK.out _ _ ⟨block_ext HBA3.out HXub.out, HXub.out⟩ (fun hHeld => ?_)
    clear hK K hi
    have hi := getopN hO 17 (by decide)
    conv at hi => rhs; arg 1; whnf
    refine anyE_lastV hO 17 (by kernel_rfl) (by kernel_rfl) hi (fun K hK => ?_)
    go_simp
    generalize hwa : World.setCell _ _ _ = uc
    have HXuc : Hid (Ext w3 uc) := by rw [← hwa]; exact multi_ext HXub.out HS9.out.l2 _ _ _
    have HB0uc : Hid (uc.heap[g0]? = some (.cells #[.int .i64 n, .int .i64 k0, .slice aX N0 cX] 31 (0, 0))) := by rw [← hwa]; exact block_grown HB0ub.out (multi_grown _ _ _ _ _) (fun e => HS9.out.n02 (by cases e; rfl))
    have HB1uc : Hid (uc.heap[g1]? = some (.cells #[.int .i64 n, .int .i64 k1, .slice aY N1 cY] 31 (0, 0))) := by rw [← hwa]; exact block_grown HB1ub.out (multi_grown _ _ _ _ _) (fun e => HS9.out.n12 (by cases e; rfl))
    have HB2uc : Hid (uc.heap[g2]? = some (.cells #[.int .i64 n, .int .i64 k2, .slice aZ N2 cZ] 31 (0, 0))) := by rw [← hwa]; exact multi_store HB2ub.out _ _ _
    have HL0uc : Hid (ListAt 1 numC uc (.slice aX N0 cX) X0) := by rw [← hwa]; exact nums_set HL0ub.out HB2ub.out (multi_nostr 0 0) (multi_grown _ _ _ _ _)
    have HL1uc : Hid (ListAt 1 numC uc (.slice aY N1 cY) X1) := by rw [← hwa]; exact nums_set HL1ub.out HB2ub.out (multi_nostr 0 0) (multi_grown _ _ _ _ _)
    have HL2uc : Hid (ListAt 1 numC uc (.slice aZ N2 cZ) X2) := by rw [← hwa]; exact nums_set HL2ub.out HB2ub.out (multi_nostr 0 0) (multi_grown _ _ _ _ _)
    clear hwa r0 f0
    refine hK.out _ _ ⟨block_ext HBA3.out HXuc.out, HXuc.out⟩ ?_
    clear hK K hi
    clear hO hHeld
    (try clear r0); (try clear f0)
    have HEuc : Hid (Ext w uc) := HE3.out.trans HXuc.out
    have t0 := block_cell HB0uc.out 1; have t1 := block_cell HB1uc.out 1; have t2 := block_cell HB2uc.out 1
    simp only [List.getElem?_toArray, List.getElem?_cons_succ, List.getElem?_cons_zero] at t0 t1 t2
    by_cases h3 : k0 + k1 + k2 ≤ n
    rotate_left
    · have q1 : (n : Int) < (gt : Int) := by have hgt9 : k0 + k1 + k2 = gt := HGT.out; omega
      have q2 := decide_eq_true q1
      clear h3
      go_wp2_with fail
      go_ret
      exact ⟨rfl, HEuc.out⟩
    have q1 : ¬ (n : Int) < (gt : Int) := by have hgt9 : k0 + k1 + k2 = gt := HGT.out; omega
    have q2 := decide_eq_false q1
    have s1 := block_cell HB0uc.out; have s2 := block_cell HB1uc.out
    go_wp2_with fail
    clear s1 s2
    (try clear r0 f0)
    (try clear hU0 hV0)
    refine ((HP1 h3).out uc _ _ _ _ HEuc.out HL0uc.out HL1uc.out).mono ?_
    rintro e v1 ⟨a1, c1, rfl, hR, hE⟩
    have HEv1 : Hid (Ext uc v1) := hE
    have HL_a_v1 := Lib.hid hR
    clear hR hE
    obtain ⟨V1, hV1, hX1, hs1, hb1⟩ := boxM v1 (.int .i64 0) (.int .i64 0) (.slice none 0 0)
    have r0 := block_cell hb1
    have f0 := block_free hb1
    have HB1 := Lib.hid (multi_store hb1 (.int .i64 n) (.int .i64 ga) (.slice a1 NA c1))
    have HX1 := Lib.hid (multi_ext (B := v1.heap.size) hX1 (Nat.le_refl _) (.int .i64 n) (.int .i64 ga) (.slice a1 NA c1))
    obtain ⟨U1, hU1⟩ : ∃ U, ((V1.setCell ⟨v1.heap.size, 0, none⟩ (.int .i64 n)).setCell ⟨v1.heap.size, 1, none⟩ (.int .i64 ga)).setCell ⟨v1.heap.size, 2, none⟩ (.slice a1 NA c1) = U := ⟨_, rfl⟩
    rw [hU1] at HB1 HX1
    clear hX1 hs1 hb1
    have HE_1 : Hid (Ext uc U1) := HEv1.out.trans HX1.out
    have HEW_1 : Hid (Ext w U1) := HEuc.out.trans HE_1.out
    have HB_x_U1 := Lib.hid (block_ext HB0uc.out HE_1.out)
    have HB_y_U1 := Lib.hid (block_ext HB1uc.out HE_1.out)
    have HB_z_U1 := Lib.hid (block_ext HB2uc.out HE_1.out)
    have HL_x_U1 := Lib.hid (ListAt.ext numC.mono' HL0uc.out HE_1.out)
    have HL_y_U1 := Lib.hid (ListAt.ext numC.mono' HL1uc.out HE_1.out)
    have HL_z_U1 := Lib.hid (ListAt.ext numC.mono' HL2uc.out HE_1.out)
    have HL_a_U1 := Lib.hid (ListAt.ext numC.mono' HL_a_v1.out HX1.out)
    have s1 := block_cell HB1.out; have s2 := block_cell HB_z_U1.out
    go_wp2_with fail
    clear s1 s2
    (try clear r0 f0)
    (try clear hU1 hV1)
    refine ((HP2 h3).out U1 _ _ _ _ HEW_1.out HL_a_U1.out HL_z_U1.out).mono ?_
    rintro e v2 ⟨a2, c2, rfl, hR, hE⟩
    have HEv2 : Hid (Ext U1 v2) := hE
    have HL_b_v2 := Lib.hid hR
    clear hR hE
    obtain ⟨V2, hV2, hX2, hs2, hb2⟩ := boxM v2 (.int .i64 0) (.int .i64 0) (.slice none 0 0)
    have r0 := block_cell hb2
    have f0 := block_free hb2
    have HB2 := Lib.hid (multi_store hb2 (.int .i64 n) (.int .i64 gt) (.slice a2 NB c2))
    have HX2 := Lib.hid (multi_ext (B := v2.heap.size) hX2 (Nat.le_refl _) (.int .i64 n) (.int .i64 gt) (.slice a2 NB c2))
    obtain ⟨U2, hU2⟩ : ∃ U, ((V2.setCell ⟨v2.heap.size, 0, none⟩ (.int .i64 n)).setCell ⟨v2.heap.size, 1, none⟩ (.int .i64 gt)).setCell ⟨v2.heap.size, 2, none⟩ (.slice a2 NB c2) = U := ⟨_, rfl⟩
    rw [hU2] at HB2 HX2
    clear hX2 hs2 hb2
    have HE_2 : Hid (Ext U1 U2) := HEv2.out.trans HX2.out
    have HEW_2 : Hid (Ext w U2) := HEW_1.out.trans HE_2.out
    have HB_x_U2 := Lib.hid (block_ext HB_x_U1.out HE_2.out)
    have HB_y_U2 := Lib.hid (block_ext HB_y_U1.out HE_2.out)
    have HB_z_U2 := Lib.hid (block_ext HB_z_U1.out HE_2.out)
    have HB_a_U2 := Lib.hid (block_ext HB1.out HE_2.out)
    have HL_x_U2 := Lib.hid (ListAt.ext numC.mono' HL_x_U1.out HE_2.out)
    have HL_y_U2 := Lib.hid (ListAt.ext numC.mono' HL_y_U1.out HE_2.out)
    have HL_z_U2 := Lib.hid (ListAt.ext numC.mono' HL_z_U1.out HE_2.out)
    have HL_a_U2 := Lib.hid (ListAt.ext numC.mono' HL_a_U1.out HE_2.out)
    have HL_b_U2 := Lib.hid (ListAt.ext numC.mono' HL_b_v2.out HX2.out)
    have s1 := block_cell HB_y_U2.out; have s2 := block_cell HB_z_U2.out
    go_wp2_with fail
    clear s1 s2
    (try clear r0 f0)
    (try clear hU2 hV2)
    refine ((HP3 h3).out U2 _ _ _ _ HEW_2.out HL_y_U2.out HL_z_U2.out).mono ?_
    rintro e v3 ⟨a3, c3, rfl, hR, hE⟩
    have HEv3 : Hid (Ext U2 v3) := hE
    have HL_c_v3 := Lib.hid hR
    clear hR hE
    obtain ⟨V3, hV3, hX3, hs3, hb3⟩ := boxM v3 (.int .i64 0) (.int .i64 0) (.slice none 0 0)
    have r0 := block_cell hb3
    have f0 := block_free hb3
    have HB3 := Lib.hid (multi_store hb3 (.int .i64 n) (.int .i64 gc) (.slice a3 NC c3))
    have HX3 := Lib.hid (multi_ext (B := v3.heap.size) hX3 (Nat.le_refl _) (.int .i64 n) (.int .i64 gc) (.slice a3 NC c3))
    obtain ⟨U3, hU3⟩ : ∃ U, ((V3.setCell ⟨v3.heap.size, 0, none⟩ (.int .i64 n)).setCell ⟨v3.heap.size, 1, none⟩ (.int .i64 gc)).setCell ⟨v3.heap.size, 2, none⟩ (.slice a3 NC c3) = U := ⟨_, rfl⟩
    rw [hU3] at HB3 HX3
    clear hX3 hs3 hb3
    have HE_3 : Hid (Ext U2 U3) := HEv3.out.trans HX3.out
    have HEW_3 : Hid (Ext w U3) := HEW_2.out.trans HE_3.out
    have HB_x_U3 := Lib.hid (block_ext HB_x_U2.out HE_3.out)
    have HB_y_U3 := Lib.hid (block_ext HB_y_U2.out HE_3.out)
    have HB_z_U3 := Lib.hid (block_ext HB_z_U2.out HE_3.out)
    have HB_a_U3 := Lib.hid (block_ext HB_a_U2.out HE_3.out)
    have HB_b_U3 := Lib.hid (block_ext HB2.out HE_3.out)
    have HL_x_U3 := Lib.hid (ListAt.ext numC.mono' HL_x_U2.out HE_3.out)
    have HL_y_U3 := Lib.hid (ListAt.ext numC.mono' HL_y_U2.out HE_3.out)
    have HL_z_U3 := Lib.hid (ListAt.ext numC.mono' HL_z_U2.out HE_3.out)
    have HL_a_U3 := Lib.hid (ListAt.ext numC.mono' HL_a_U2.out HE_3.out)
    have HL_b_U3 := Lib.hid (ListAt.ext numC.mono' HL_b_U2.out HE_3.out)
    have HL_c_U3 := Lib.hid (ListAt.ext numC.mono' HL_c_v3.out HX3.out)
    have s1 := block_cell HB_x_U3.out; have s2 := block_cell HB3.out
    go_wp2_with fail
    clear s1 s2
    (try clear r0 f0)
    (try clear hU3 hV3)
    refine ((HP4 h3).out U3 _ _ _ _ HEW_3.out HL_x_U3.out HL_c_U3.out).mono ?_
    rintro e v4 ⟨a4, c4, rfl, hR, hE⟩
    have HEv4 : Hid (Ext U3 v4) := hE
    have HL_d_v4 := Lib.hid hR
    clear hR hE
    obtain ⟨V4, hV4, hX4, hs4, hb4⟩ := boxM v4 (.int .i64 0) (.int .i64 0) (.slice none 0 0)
    have r0 := block_cell hb4
    have f0 := block_free hb4
    have HB4 := Lib.hid (multi_store hb4 (.int .i64 n) (.int .i64 gt) (.slice a4 NB c4))
    have HX4 := Lib.hid (multi_ext (B := v4.heap.size) hX4 (Nat.le_refl _) (.int .i64 n) (.int .i64 gt) (.slice a4 NB c4))
    obtain ⟨U4, hU4⟩ : ∃ U, ((V4.setCell ⟨v4.heap.size, 0, none⟩ (.int .i64 n)).setCell ⟨v4.heap.size, 1, none⟩ (.int .i64 gt)).setCell ⟨v4.heap.size, 2, none⟩ (.slice a4 NB c4) = U := ⟨_, rfl⟩
    rw [hU4] at HB4 HX4
    clear hX4 hs4 hb4
    have HE_4 : Hid (Ext U3 U4) := HEv4.out.trans HX4.out
    have HEW_4 : Hid (Ext w U4) := HEW_3.out.trans HE_4.out
    have HB_x_U4 := Lib.hid (block_ext HB_x_U3.out HE_4.out)
    have HB_y_U4 := Lib.hid (block_ext HB_y_U3.out HE_4.out)
    have HB_a_U4 := Lib.hid (block_ext HB_a_U3.out HE_4.out)
    have HB_b_U4 := Lib.hid (block_ext HB_b_U3.out HE_4.out)
    have HL_x_U4 := Lib.hid (ListAt.ext numC.mono' HL_x_U3.out HE_4.out)
    have HL_y_U4 := Lib.hid (ListAt.ext numC.mono' HL_y_U3.out HE_4.out)
    have HL_a_U4 := Lib.hid (ListAt.ext numC.mono' HL_a_U3.out HE_4.out)
    have HL_b_U4 := Lib.hid (ListAt.ext numC.mono' HL_b_U3.out HE_4.out)
    have HL_d_U4 := Lib.hid (ListAt.ext numC.mono' HL_d_v4.out HX4.out)
    have s1 := block_cell HB_y_U4.out; have s2 := block_cell HB_x_U4.out
    go_wp2_with fail
    clear s1 s2
    (try clear r0 f0)
    (try clear hU4 hV4)
    refine ((HP5 h3).out U4 _ _ _ _ HEW_4.out HL_y_U4.out HL_x_U4.out).mono ?_
    rintro e v5 ⟨a5, c5, rfl, hR, hE⟩
    have HEv5 : Hid (Ext U4 v5) := hE
    have HL_k_v5 := Lib.hid hR
    clear hR hE
    obtain ⟨V5, hV5, hX5, hs5, hb5⟩ := boxM v5 (.int .i64 0) (.int .i64 0) (.slice none 0 0)
    have r0 := block_cell hb5
    have f0 := block_free hb5
    have HB5 := Lib.hid (multi_store hb5 (.int .i64 n) (.int .i64 ga) (.slice a5 NA c5))
    have HX5 := Lib.hid (multi_ext (B := v5.heap.size) hX5 (Nat.le_refl _) (.int .i64 n) (.int .i64 ga) (.slice a5 NA c5))
    obtain ⟨U5, hU5⟩ : ∃ U, ((V5.setCell ⟨v5.heap.size, 0, none⟩ (.int .i64 n)).setCell ⟨v5.heap.size, 1, none⟩ (.int .i64 ga)).setCell ⟨v5.heap.size, 2, none⟩ (.slice a5 NA c5) = U := ⟨_, rfl⟩
    rw [hU5] at HB5 HX5
    clear hX5 hs5 hb5
    have HE_5 : Hid (Ext U4 U5) := HEv5.out.trans HX5.out
    have HEW_5 : Hid (Ext w U5) := HEW_4.out.trans HE_5.out
    have HB_x_U5 := Lib.hid (block_ext HB_x_U4.out HE_5.out)
    have HB_y_U5 := Lib.hid (block_ext HB_y_U4.out HE_5.out)
    have HB_a_U5 := Lib.hid (block_ext HB_a_U4.out HE_5.out)
    have HB_b_U5 := Lib.hid (block_ext HB_b_U4.out HE_5.out)
    have HB_d_U5 := Lib.hid (block_ext HB4.out HE_5.out)
    have HL_a_U5 := Lib.hid (ListAt.ext numC.mono' HL_a_U4.out HE_5.out)
    have HL_b_U5 := Lib.hid (ListAt.ext numC.mono' HL_b_U4.out HE_5.out)
    have HL_d_U5 := Lib.hid (ListAt.ext numC.mono' HL_d_U4.out HE_5.out)
    have HL_k_U5 := Lib.hid (ListAt.ext numC.mono' HL_k_v5.out HX5.out)
    have s1 := block_cell HB_b_U5.out; have s2 := block_cell HB_d_U5.out
    have t0 := block_cell HB_a_U5.out 2; have t1 := block_cell HB5.out 2
    simp only [List.getElem?_toArray, List.getElem?_cons_succ, List.getElem?_cons_zero] at t0 t1
    have HEQ : Hid (∀ W, Ext U5 W → Calls Tryz.prog 46 #[.agg #[.int .i64 n, .int .i64 gt, .slice a2 NB c2], .agg #[.int .i64 n, .int .i64 gt, .slice a4 NB c4]] W fun e w' => e = .returned (.bool true) ∧ Ext W w') := fun W hW => by
      have h9 := equalM_any n gt PB n gt PB _ _ W ⟨_, rfl, ListAt.ext numC.mono' HL_b_U5.out hW⟩ ⟨_, rfl, ListAt.ext numC.mono' HL_d_U5.out hW⟩
      rw [show equalM n gt PB n gt PB = true by unfold equalM; simp] at h9
      exact h9
    go_wp2_with fail
    clear s1 s2
    (try clear r0 f0)
    (try clear hU5 hV5)
    refine (HEQ.out _ (by first | exact Ext.refl _ | exact Ext.drew _)).mono ?_
    rintro e v6 ⟨rfl, hE6⟩
    have HE6 : Hid (Ext U5 v6) := hE6
    have t0' := hE6.cell t0; have t1' := hE6.cell t1
    clear t0 t1 hE6 HEQ
    have hvz := ListAt.ext numC.mono' HL_a_U5.out HE6.out
    rw [HFL.out h3] at hvz
    obtain ⟨ax, cx, hvx, hx1, hx2, -, hcx⟩ := inCell.open (BigL.of_nums (ListAt.ext numC.mono' HL_k_U5.out HE6.out))
    obtain ⟨az, cz, hvz2, hz1, hz2, -, hcz⟩ := inCell.open (BigL.of_nums hvz)
    rw [HLK.out] at hvx hx1
    rw [List.length_map, HLK.out] at hvz2 hz1
    simp only [Value.slice.injEq] at hvx hvz2
    obtain ⟨rfl, -, rfl⟩ := hvx
    obtain ⟨rfl, -, rfl⟩ := hvz2
    unfold maxLen at hx2 hz2
    have HCX := Lib.hid hcx; have HCZ := Lib.hid hcz
    have HBX6 := Lib.hid (block_ext HB_x_U5.out HE6.out); have HBY6 := Lib.hid (block_ext HB_y_U5.out HE6.out)
    have HBA6 := Lib.hid (block_ext HB_a_U5.out HE6.out); have HBK6 := Lib.hid (block_ext HB5.out HE6.out)
    have HEW6 : Hid (Ext w v6) := HEW_5.out.trans HE6.out
    clear hcx hcz hvz
    go_wp2_with fail
    clear t0' t1'
    go_loopw [17] (fun t wr => ∃ i : Nat, i ≤ NA ∧ t = .int .i64 (i : Int) ∧ Hid (Ext v6 wr)) (fun t _ => NA + 1 - (intOf t).toNat)
    case atStart => exact ⟨0, by omega, by simp, by first | exact Ext.refl _ | exact Ext.drew _⟩
    case round =>
      obtain ⟨i, hi, rfl, HY⟩ := hrel
      obtain ⟨wo, rfl⟩ : ∃ wo : World, wo = wr := ⟨_, rfl⟩
      have t0 := block_cell (block_ext HBX6.out HY.out) 1; have t1 := block_cell (block_ext HBY6.out HY.out) 1; have t2 := block_cell (block_ext HBK6.out HY.out) 2; have t3 := block_cell (block_ext HBA6.out HY.out) 2
      simp only [List.getElem?_toArray, List.getElem?_cons_succ, List.getElem?_cons_zero] at t0 t1 t2 t3
      by_cases hlt : i < NA
      · obtain ⟨a, ha⟩ : ∃ a, PK[i]? = some a := ⟨PK[i]'(by rw [HLK.out]; exact hlt), List.getElem?_eq_getElem _⟩
        obtain ⟨bx, ox, rfl, -, hcell⟩ := HCX.out (by intro e; rw [e] at ha; simp at ha)
        obtain ⟨bz, oz, rfl, -, hcell3⟩ := HCZ.out (by intro e; have := List.map_eq_nil_iff.1 e; rw [this] at ha; simp at ha)
        obtain ⟨u1, hu1, g1⟩ := hcell i a ha
        obtain rfl : u1 = .string (intB a) := hu1
        obtain ⟨u3, hu3, g3⟩ := hcell3 i (sgnI a o) (by rw [List.getElem?_map, ha]; rfl)
        obtain rfl : u3 = .string (intB (sgnI a o)) := hu3
        have g1 := HY.out.cell g1
        have g3 := HY.out.cell g3
        have HNA := Lib.hid (HNG.out a (List.mem_of_getElem? ha))
        clear hcell hcell3 ha
        have hin : (i : Int) < (NA : Int) := by omega
        cases o with
        | true =>
          have hs : sgnI a true = -a := rfl
          rw [hs] at g3
          clear hs
          go_wp2_with fail
          refine (HNA.out _).mono ?_
          rintro e w7 ⟨rfl, hE7⟩
          have HY7 : Hid (Ext v6 w7) := HY.out.trans hE7
          have g3' := hE7.cell g3
          have t3' := hE7.cell t3
          clear hE7 HNA g1 g3 t0 t1 t2 t3
          go_wp2_with fail
          go_roundw
          case rel => exact ⟨i + 1, by omega, by go_num, HY7.out⟩
          case measure => simp [intOf]; omega
        | false =>
          have hs : sgnI a false = a := rfl
          rw [hs] at g3
          clear hs HNA
          go_wp2_with fail
          go_roundw
          case rel => exact ⟨i + 1, by omega, by go_num, HY.out⟩
          case measure => simp [intOf]; omega
      · obtain rfl : i = NA := by omega
        go_wp2_with fail
        go_ret
        exact ⟨rfl, HEW6.out.trans HY.out⟩
end Go.Proofs.YtjlkkofmojgipaaGreatDoor
