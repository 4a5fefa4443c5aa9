import Derived.Test.YtjlkkofmojgipaaGreatDoorPAV
import Derived.Test.YtjlkkofmojgipaaGreatDoorPAX
import Derived.Test.YtjlkkofmojgipaaGreatDoorPAE
import Derived.Test.YtjlkkofmojgipaaGreatDoorPAN
namespace Go.Proofs.YtjlkkofmojgipaaGreatDoor
set_option linter.unusedVariables false
set_option linter.unusedSimpArgs false
open Go.RowKit Go.Maps
theorem int1_any (n:Int) (w:World):Calls Tryz.prog 58 #[.int .i64 n] w fun e w'=>e=.returned (.bool (!fitB n))∧w=w':=by
 by_cases h:n≤1000000000
 ·by_cases h2:-1000000000≤n
  ·go_enter Tryz.func58,Tryz.ntmps58
   go_wp2
   go_ret
   exact ⟨by simp [fitB,h,h2];try omega,rfl⟩
  ·go_enter Tryz.func58,Tryz.ntmps58
   go_wp2
   go_ret
   exact ⟨by simp [fitB,h,h2];try omega,rfl⟩
 ·go_enter Tryz.func58,Tryz.ntmps58
  go_wp2
  go_ret
  exact ⟨by simp [fitB,h];try omega,rfl⟩
theorem intTo_le {n k:Nat} {X r:List Int} {M:Nat} (hX:∀ x∈X,x.natAbs≤M) (hr:∀ x∈r,x.natAbs≤1000000000) (s:Nat):∀ i,(intTo n k X r s i).natAbs≤i*(1000000000*M)
 | 0=>by simp [intTo]
 | i+1=>by
  have ih:=intTo_le (n:=n) (k:=k) hX hr s i
  rw [intTo,Nat.succ_mul]
  split
  ·omega
  ·have h1:=AbsLe.getD (N:=M) hX (placeW n k (s ||| (1 <<< i)))
   have h2:=AbsLe.getD (N:=1000000000) hr i
   have h3:=Nat.mul_le_mul h2 h1
   have h4:=sgnI_abs (r.getD i 0*X.getD (placeW n k (s ||| (1 <<< i))) 0) (oddW (1 <<< i) s)
   rw [Int.natAbs_mul] at h4
   omega
theorem size_of_abs {x:Int} {K:Nat} (h:x.natAbs<10^K) (hK:1≤K):(intB x).size≤K+1:=by
 have h1:=numB_size_le x.natAbs K h hK
 have h2:=intB_size_le x
 omega
theorem intTo_size {n k:Nat} {X r:List Int} (hX:Digits400 X) (hr:∀ x∈r,x.natAbs≤1000000000) (s i:Nat) (hi:i≤7):(intB (intTo n k X r s i)).size≤500:=by
 have h9:=intTo_le (n:=n) (k:=k) (M:=10^400) (fun x hx=>Nat.le_of_lt (hX x hx)) hr s i
 have h11:=Nat.mul_le_mul_right (1000000000*10^400) hi
 have h12:7*(1000000000*10^400)<10^450:=by decide +kernel
 exact Nat.le_trans (size_of_abs (Nat.lt_of_le_of_lt (Nat.le_trans h9 h11) h12) (by decide)) (by decide)
theorem mul_dig {x y:Int} (hx:x.natAbs≤1000000000) (hy:y.natAbs<10^400):(x*y).natAbs<10^450:=by
 have h12:1000000000*10^400<10^450:=by decide +kernel
 rw [Int.natAbs_mul]
 exact Nat.lt_of_le_of_lt (Nat.mul_le_mul hx (Nat.le_of_lt hy)) h12
theorem dig450 {x:Int} (h:x.natAbs<10^450):(intB x).size≤1000:=Nat.le_trans (size_of_abs h (by decide)) (by decide)
def inMB (n k:Nat):Bool:=(allW n k).all fun s=>(List.range n).all fun i=>s.testBit i || decide ((s ||| (1 <<< i))∈allW n (k+1))
theorem inM_all:∀ n,n<7→∀ k,k<n→inMB n k=true:=by decide +kernel
theorem in_mem {n k s i:Nat} (hn:n<7) (hk:k<n) (hs:s∈allW n k) (hi:i<n) (hb:s.testBit i=false):(s ||| (1 <<< i))∈allW n (k+1):=by
 have h:=List.all_eq_true.1 (List.all_eq_true.1 (inM_all n hn k hk) s hs) i (List.mem_range.2 hi)
 rw [hb,Bool.false_or,decide_eq_true_eq] at h;exact h
set_option maxRecDepth 100000 in
set_option maxHeartbeats 600000 in
theorem intM_any {n k : Nat} {X r : List Int} (hn : n < 7) (hR : RightM n k X) (hk1 : 1 ≤ k) (hrl : r.length = n) (hfit : r.any (fun x => !fitB x) = false) (u v : Value) (w : World) (h : MultiV w u n k X) (hv : Ints w v r) (ht : Pow10 w) :
    Calls Tryz.prog 25 #[u, v] w fun e w' => ∃ y, e = .returned (.tuple #[y, .int .i64 0]) ∧ Ext w w' ∧ MultiV w' y n (k - 1) (intL n k X r) := by
  have HCK : Hid (∀ W, Ext w W → Calls Tryz.prog 47 #[u] W fun e w' => e = .returned (.int .i64 0) ∧ Ext W w') := fun W hW => checkR_any hR u W (h.ext hW)
  have HANY : Hid (∀ W, Ext w W → Calls Tryz.prog 57 #[v, .func (.func 58) #[] #[]] W fun e w' => e = .returned (.bool false) ∧ Ext W w') := fun W hW => by
    have h9 := containsRow_any r v 58 #[] (fun x => !fitB x) W (hv.ext hW) (enters_of Tryz.func58 (by kernel_rfl) rfl) (fun W x _ _ => (int1_any x W).mono fun _ _ ⟨he, hw⟩ => ⟨he, hw ▸ Ext.refl _⟩)
    rw [hfit] at h9; exact h9
  have hfit2 : ∀ x ∈ r, fitB x = true := fun x hx => by
    have := List.any_eq_false.1 hfit x hx
    simpa using this
  have HFIT : Hid (∀ x ∈ r, x.natAbs ≤ 1000000000) := fun x hx => by
    have := (fitB_iff x).1 (hfit2 x hx); omega
  obtain ⟨ur, rfl, hr⟩ := h
  obtain ⟨a, c, rfl, h1, h2, -, hc⟩ := inCell.open (BigL.of_nums hr)
  unfold maxLen at h2
  obtain ⟨av, cv, rfl, v1, v2, v3⟩ := hv.open
  have HVV := Lib.hid hv
  have HV3 := Lib.hid v3
  unfold maxLen at v2
  have HC := Lib.hid hc
  have hkn := hR.kn
  have HLEN := Lib.hid hR.len
  have HDG := Lib.hid hR.dig
  have HT := Lib.hid ht
  obtain ⟨mx, hmx⟩ : ∃ m, X.length = m := ⟨_, rfl⟩
  have HMX := Lib.hid hmx
  have HRL := Lib.hid hrl
  rw [hmx] at h1 HCK ⊢
  rw [hrl] at v1 HANY ⊢
  obtain ⟨w1, hw1, hE1, hs1, hb1⟩ := boxM w (.int .i64 n) (.int .i64 k) (.slice a mx c)
  obtain ⟨w2, hw2, hE2, hs2, hb2⟩ := boxM w1 (.int .i64 0) (.int .i64 0) (.slice none 0 0)
  have HE2 := Lib.hid (hE1.trans hE2)
  have HB1 := Lib.hid (block_ext hb1 hE2); have HB2 := Lib.hid hb2
  have HS1 : Hid (w1.heap.size = w.heap.size + 1) := hs1
  have HS2 : Hid (w2.heap.size = w1.heap.size + 1) := hs2
  have k1 := block_cell HB1.out
  have HN := Lib.hid hn
  have HK1 := Lib.hid hk1
  have hk0 : ((k : Int) == 0) = false := by simp; omega
  obtain ⟨d, hd⟩ : ∃ d, k - 1 = d := ⟨_, rfl⟩
  have HD := Lib.hid hd
  have e1 : IntKind.i64.wrap ((k : Int) - 1) = (d : Int) := by rw [IntKind.wrap_i64]; omega
  have hdn : d ≤ n := by omega
  obtain ⟨D, hD⟩ : ∃ D, intL n k X r = D := ⟨_, rfl⟩
  have HDM : Hid (D = (allW n d).map fun s : Nat => intTo n k X r s n) := by unfold Hid; rw [← hD, ← hd]; rfl
  rw [hD, hd]
  clear hD hd
  clear hb1 hb2 hE1 hE2 hr hc hs2 hR hmx hv v3 ht hfit hfit2 hrl
  go_enter Tryz.func25, Tryz.ntmps25
  go_wp2_with fail
  refine (HCK.out w2 HE2.out).mono ?_
  rintro e w2b ⟨rfl, h2b⟩
  have HE2b : Hid (Ext w w2b) := HE2.out.trans h2b
  have HB12 := Lib.hid (block_ext HB1.out h2b)
  have HB22 := Lib.hid (block_ext HB2.out h2b)
  have HS2b : Hid (w1.heap.size < w2b.heap.size ∧ w.heap.size < w2b.heap.size ∧ w.heap.size < w1.heap.size) := by have := h2b.size; have := HS2.out; have := HS1.out; unfold Hid; omega
  have d0 := block_cell HB12.out 0; have d1 := block_cell HB12.out 1
  simp only [List.getElem?_toArray, List.getElem?_cons_succ, List.getElem?_cons_zero] at d0 d1
  clear h2b HCK k1 hw1 hw2
  go_wp2_with fail
  refine (HANY.out w2b HE2b.out).mono ?_
  rintro e w3 ⟨rfl, h3⟩
  have HE3 : Hid (Ext w w3) := HE2b.out.trans h3
  have HB13 := Lib.hid (block_ext HB12.out h3)
  have HB23 := Lib.hid (block_ext HB22.out h3)
  have HS3 : Hid (w1.heap.size < w3.heap.size ∧ w.heap.size < w3.heap.size ∧ w.heap.size < w1.heap.size) := by have := h3.size; have := HS2b.out; unfold Hid; omega
  obtain ⟨w4, hw4, hE4, hs4, hb4⟩ := boxM w3 (.int .i64 0) (.int .i64 0) (.slice none 0 0)
  have HE4 := Lib.hid hE4; have HB4 := Lib.hid hb4
  clear d0 d1
  have d0 := block_cell HB13.out 0; have d1 := block_cell HB13.out 1
  simp only [List.getElem?_toArray, List.getElem?_cons_succ, List.getElem?_cons_zero] at d0 d1
  have f4 := block_free hb4
  have k4 := block_cell hb4
  clear h3 HANY hE4 hs4 hb4 hk0
  go_upto_region 11 with fail
  generalize hw9 : World.setCell _ _ _ = w5
  have HB5 : Hid (w5.heap[w3.heap.size]? = some (.cells #[.int .i64 n, .int .i64 d, .slice none 0 0] 31 (0, 0))) := by rw [← hw9]; exact multi_store HB4.out _ _ _
  have hE5 : Ext w3 w5 := by rw [← hw9]; exact multi_ext HE4.out (Nat.le_refl _) _ _ _
  have HE5 : Hid (Ext w w5) := HE3.out.trans hE5
  have HB15 := Lib.hid (block_ext HB13.out hE5)
  have HB25 := Lib.hid (block_ext HB23.out hE5)
  clear hw9 hw4 k4 f4 d0 d1
  have d0 := block_cell HB15.out 0; have d1 := block_cell HB15.out 1
  simp only [List.getElem?_toArray, List.getElem?_cons_succ, List.getElem?_cons_zero] at d0 d1
  have HPL : Hid (∀ W, Calls Tryz.prog 59 #[.int .i64 n, .int .i64 k] W fun e w' => ∃ v, e = .returned v ∧ Ext W w' ∧ PlacesM w' v n k) := fun W => places_any n k HN.out hkn W
  have HAL : Hid (∀ W, Calls Tryz.prog 60 #[.int .i64 n, .int .i64 d] W (UintsR (allW n d) W)) := fun W => all_any n d (by have := HN.out; omega) hdn W
  clear hE5
  go_wp2_with fail
  refine (HPL.out w5).mono ?_
  rintro e w6 ⟨v6, rfl, h6, hP6⟩
  obtain ⟨b6, N6, rfl, hI6⟩ := hP6
  have HP6 : Hid (PlacesM w6 (.map (some b6)) n k) := ⟨b6, N6, rfl, hI6⟩
  have HE6 : Hid (Ext w5 w6) := h6
  have HB6 := Lib.hid (block_ext HB5.out h6)
  clear d0 d1
  have d0 := block_cell HB6.out 0; have d1 := block_cell HB6.out 1
  simp only [List.getElem?_toArray, List.getElem?_cons_succ, List.getElem?_cons_zero] at d0 d1
  clear h6 hI6 HPL
  go_wp2_with fail
  refine (HAL.out w6).mono ?_
  rintro e w7 ⟨v7, rfl, h7, hU⟩
  obtain ⟨a7, c7, rfl, hc1, hc2, hcx⟩ := hU.open
  unfold maxLen at hc2
  have HCX := Lib.hid hcx
  have HP7 := Lib.hid (HP6.out.ext h7)
  have HB7 := Lib.hid (block_ext HB6.out h7)
  have HE7 : Hid (Ext w w7) := (HE5.out.trans HE6.out).trans h7
  have HB17 := Lib.hid (block_ext HB15.out (HE6.out.trans h7))
  have HB27 := Lib.hid (block_ext HB25.out (HE6.out.trans h7))
  have HBL : Hid (w3.heap.size < w7.heap.size) := block_lt HB7.out
  have HLT : Hid (∀ s ∈ allW n d, s < 4096) := allW_lt (by have := HN.out; omega) hdn
  have HIN : Hid (∀ s ∈ allW n d, ∀ i, i < n → s.testBit i = false → (s ||| (1 <<< i)) ∈ allW n k ∧ (s ||| (1 <<< i)) < 4096 ∧ placeW n k (s ||| (1 <<< i)) < mx) := fun s hs i hi hb => by
    have h1 := in_mem HN.out (by have := HK1.out; have := HD.out; omega) hs hi hb
    rw [show d + 1 = k by have := HK1.out; have := HD.out; omega] at h1
    refine ⟨h1, allW_lt (by have := HN.out; omega) hkn _ h1, ?_⟩
    rw [← HMX.out, HLEN.out]; exact (place_get HN.out hkn h1).2
  have HBD : Hid (∀ s i, i ≤ n → (intB (intTo n k X r s i)).size ≤ 500) := fun s i hi => intTo_size HDG.out HFIT.out s i (by have := HN.out; omega)
  obtain ⟨L, hL⟩ : ∃ L, allW n d = L := ⟨_, rfl⟩
  rw [hL] at HCX HLT HIN hc1 HDM ⊢
  obtain ⟨N, hN⟩ : ∃ N, L.length = N := ⟨_, rfl⟩
  have HNN := Lib.hid hN
  have HLL : Hid (∀ i, (D.take i).length < 1000000) := by
    intro i
    have h1 := allW_len (n := n) (k := d) (by have := HN.out; omega) hdn
    rw [HDM.out, List.length_take, List.length_map, ← hL]; omega
  rw [hN] at hc1 ⊢
  clear hN hL h7 hU hcx d0 d1 HAL hkn hdn
  go_wp2_with fail
  go_loopw [50] (fun t wr => ∃ i : Nat, i ≤ N ∧ t = .int .i64 (i : Int) ∧ Hid (GrownS (· = w3.heap.size) w7 wr) ∧ Hid (∃ so, wr.heap[w3.heap.size]? = some (.cells #[.int .i64 n, .int .i64 d, so] 31 (0, 0)) ∧ Build wr w7.heap.size 53 1 so numC (D.take i))) (fun t _ => N + 1 - (intOf t).toNat)
  case atStart => exact ⟨0, by omega, by simp, GrownS.refl _ _, _, HB7.out, Build.nil _ _ _ _ _⟩
  case round =>
    obtain ⟨i, hi, rfl, HG, HBB⟩ := hrel
    obtain ⟨wo, rfl⟩ : ∃ wo : World, wo = wr := ⟨_, rfl⟩
    by_cases hlt : i < N
    · obtain ⟨s, hs⟩ : ∃ s, L[i]? = some s := by
        rw [← HNN.out] at hlt
        exact ⟨_, List.getElem?_eq_getElem hlt⟩
      have hsm := List.mem_of_getElem? hs
      obtain ⟨b7, o7, rfl, hb7, hcell⟩ := HCX.out (by intro e; rw [e] at hs; simp at hs)
      have hc7 := hcell i s hs
      have hne7 : b7 ≠ w3.heap.size := by
        rintro rfl
        have := block_cell HB7.out (o7 + i)
        rw [hc7] at this
        exact multi_nou64 this
      have hcs := HG.out.cell hc7 hne7
      have hs46 := HLT.out s hsm
      have HINS := Lib.hid (HIN.out s hsm)
      have HPR := Lib.hid (HP7.out.grownS HG.out HB7.out)
      have HZ : Hid (D.take (i + 1) = D.take i ++ [intTo n k X r s n]) := by
        unfold Hid
        rw [List.take_add_one, HDM.out, List.getElem?_map, hs]; rfl
      have z2' := HG.out.cell (block_cell HB17.out 2) (by have := HS3.out; omega)
      (try simp only [List.getElem?_toArray, List.getElem?_cons_succ, List.getElem?_cons_zero] at z2')
      have HZ2 := Lib.hid z2'
      have HEO : Hid (Ext w wo) := ext_grownS HE7.out HG.out (fun j hj e => by have := HS3.out; omega)
      obtain ⟨so, hBK, hBU⟩ := HBB.out
      have HBK := Lib.hid hBK; have HBU := Lib.hid hBU
      have HSB := Lib.hid (HBD.out s)
      have h48 : intB (intTo n k X r s 0) = ⟨#[48]⟩ := by rw [intTo]; decide +kernel
      have HS48 := Lib.hid h48
      clear hs hsm hcell hc7 hne7 hb7 z2' hBK hBU HBB h48
      go_wp2_with fail
      go_loopw [11, 56] (fun o t wr => ∃ j : Nat, j ≤ n ∧ t = .int .i64 (j : Int) ∧ o = .string (intB (intTo n k X r s j)) ∧ Hid (Ext wo wr)) (fun _ t _ => n + 1 - (intOf t).toNat)
      case atStart => exact ⟨0, by omega, by simp, by rw [HS48.out], Ext.refl _⟩
      case round =>
        obtain ⟨j, hj, rfl, rfl, HX⟩ := hrel
        obtain ⟨wp, rfl⟩ : ∃ wp : World, wp = wr := ⟨_, rfl⟩
        by_cases hjl : j < n
        · as_aux_lemma =>
          obtain ⟨x, hx⟩ : ∃ x, r[j]? = some x := ⟨_, List.getElem?_eq_getElem (by rw [HRL.out]; exact hjl)⟩
          obtain ⟨bv, ov, rfl, -, hcv⟩ := HV3.out.2.2 (by intro e; rw [e] at hx; simp at hx)
          have g1 := HX.out.cell (HEO.out.cell (hcv j x hx))
          have hxm := HFIT.out x (List.mem_of_getElem? hx)
          have f1 : (s : Int) / 2 ^ j = ((s / 2 ^ j : Nat) : Int) := by rw [Int.natCast_ediv, Int.natCast_pow]; rfl
          have f2 := bit_andW (i := j) hs46
          obtain ⟨q, hq⟩ : ∃ q, s / 2 ^ j = q := ⟨_, rfl⟩
          rw [hq] at f1 f2
          have c4' : 0 ≤ (j : Int) := by omega
          have c5' : (j : Int) ≤ 64 := by have := HN.out; omega
          have hrx : r.getD j 0 = x := by rw [List.getD_eq_getElem?_getD, hx]; rfl
          have HSJ := HSB.out j (by omega)
          cases htb : s.testBit j with
          | true =>
            rw [htb, if_pos rfl] at f2
            have HNX : Hid (intTo n k X r s (j + 1) = intTo n k X r s j) := by unfold Hid; rw [intTo, if_pos htb]
            clear htb hq hcv hx hrx hxm
            go_wp2_with fail
            go_roundw
            case rel => exact ⟨j + 1, by omega, by go_num, by rw [HNX.out], HX.out⟩
            case measure => simp [intOf]; omega
          | false =>
            rw [htb, if_neg (by decide)] at f2
            have HNX : Hid (intTo n k X r s (j + 1) = intTo n k X r s j + sgnI (r.getD j 0 * X.getD (placeW n k (s ||| (1 <<< j))) 0) (oddW (1 <<< j) s)) := by unfold Hid; rw [intTo, if_neg (by rw [htb]; decide)]
            obtain ⟨hin, hr46, hpm⟩ := HINS.out j hjl htb
            have hi64 := one_shl j (by have := HN.out; omega)
            have e1 := hi64.1
            have hb46 := hi64.2
            obtain ⟨bi, hbi⟩ : ∃ bi, 1 <<< j = bi := ⟨_, rfl⟩
            rw [hbi] at e1 hb46 hin hr46 hpm HNX
            have e3 := bits_or_u64_nat s bi (by omega) (by omega)
            obtain ⟨rs, hrs⟩ : ∃ rs, s ||| bi = rs := ⟨_, rfl⟩
            rw [hrs] at HNX hin e3 hr46 hpm
            have HOD : Hid (∀ W, Calls Tryz.prog 65 #[.int .u64 (bi : Int), .int .u64 (s : Int)] W fun e w' => e = .returned (.bool (oddW bi s)) ∧ Ext W w') := fun W => oddE_any bi s hb46 hs46 W
            have HLK : Hid (∀ W, Ext wp W → (Instr.lookup 96 (.map (some b6)) (.int .u64 (rs : Int)) false).run Tryz.prog W = .ok (.int .i64 ((placeW n k rs : Nat) : Int)) W) := fun W hW => ((HPR.out.ext (HX.out.trans hW))).run hin hr46
            obtain ⟨p, hp⟩ : ∃ p, placeW n k rs = p := ⟨_, rfl⟩
            rw [hp] at hpm HLK HNX
            obtain ⟨y, hy⟩ : ∃ y, X[p]? = some y := ⟨_, List.getElem?_eq_getElem (by rw [HMX.out]; exact hpm)⟩
            rw [show X.getD p 0 = y by rw [List.getD_eq_getElem?_getD, hy]; rfl, hrx] at HNX
            obtain ⟨o, ho⟩ : ∃ o, oddW bi s = o := ⟨_, rfl⟩
            rw [ho] at HOD HNX
            obtain ⟨bx, ox, rfl, hbx, hcx⟩ := HC.out (by intro e; rw [e] at hy; simp at hy)
            obtain ⟨z9, e9, g9⟩ := hcx p y hy
            obtain rfl : z9 = .string (intB y) := e9
            have hdy := HDG.out y (List.mem_of_getElem? hy)
            have hdm := mul_dig hxm hdy
            have hszm := dig450 hdm
            have hszs := dig450 (x := sgnI (x * y) o) (by rw [sgnI_abs]; exact hdm)
            have hszy := (digits_size hdy).2
            have hszx := size_of_abs (x := x) (K := 10) (by have : (10 : Nat) ^ 10 = 10000000000 := by decide
                                                            omega) (by decide)
            clear hdm hdy
            have HOF : Hid (∀ W, Ext wp W → Calls Tryz.prog 64 #[.int .i64 x] W fun e w' => e = .returned (.string (intB x)) ∧ Ext W w') := fun W hW => of_any x W (by omega) (by omega) (HT.out.ext (HEO.out.trans (HX.out.trans hW)))
            have HMU : Hid (∀ W, Ext wp W → Calls Tryz.prog 63 #[.string (intB x), .string (intB y)] W fun e w' => e = .returned (.string (intB (x * y))) ∧ Ext W w') := fun W hW => mulI_any x y W (by omega) (by omega) (HT.out.ext (HEO.out.trans (HX.out.trans hW)))
            have HSG : Hid (∀ W, Calls Tryz.prog 62 #[.string (intB (x * y)), .bool o] W fun e w' => e = .returned (.string (intB (sgnI (x * y) o))) ∧ Ext W w') := fun W => signed_any (x * y) o W (by omega)
            have HAD : Hid (∀ W, Ext wp W → Calls Tryz.prog 61 #[.string (intB (intTo n k X r s j)), .string (intB (sgnI (x * y) o))] W fun e w' => e = .returned (.string (intB (intTo n k X r s (j + 1)))) ∧ Ext W w') := fun W hW => by
              rw [HNX.out]
              exact addI_any _ _ W (by omega) (by omega) (HT.out.ext (HEO.out.trans (HX.out.trans hW)))
            obtain ⟨s1, hs1'⟩ : ∃ z, intB (intTo n k X r s j) = z := ⟨_, rfl⟩
            obtain ⟨s2, hs2'⟩ : ∃ z, intB (intTo n k X r s (j + 1)) = z := ⟨_, rfl⟩
            obtain ⟨s3, hs3'⟩ : ∃ z, intB (x * y) = z := ⟨_, rfl⟩
            obtain ⟨s4, hs4'⟩ : ∃ z, intB (sgnI (x * y) o) = z := ⟨_, rfl⟩
            obtain ⟨s5, hs5'⟩ : ∃ z, intB x = z := ⟨_, rfl⟩
            rw [hs5'] at HOF HMU
            rw [hs3'] at HMU HSG
            rw [hs4'] at HSG HAD
            rw [hs1', hs2'] at HAD
            rw [hs1']
            have HS2' := Lib.hid hs2'
            have z3 := HX.out.cell (HEO.out.cell g9)
            have z2 := HX.out.cell HZ2.out
            have hpx : (p : Int) < (mx : Int) := by omega
            have HX9 := HX
            clear htb hin hrs hp hy ho hcx g9 hbx hi64 hbi hq hcv hx hrx hxm hszm hszs hszy hszx hs1' hs2' hs3' hs4' hs5' HSJ
            go_upto_region 20 with fail
            refine region_anyEV (fun w' => w'.cell? ⟨w.heap.size, 2, none⟩ = some (.slice (some ⟨bx, ox, none⟩) mx c) ∧ w'.cell? ⟨bx, ox + p, none⟩ = some (.string (intB y)) ∧ Hid (Ext wp w')) 21 21 (by kernel_rfl) (by kernel_rfl) ⟨(Ext.drew wp).cell z2, (Ext.drew wp).cell z3, Ext.drew wp⟩ (fun ops hO hHeld => ?_)
            have hi := getopN hO 0 (by decide)
            conv at hi => rhs; arg 1; whnf
            refine anyE_takeWV hO (v := ?_) 0 hi (by kernel_rfl) (by kernel_rfl) (by kernel_rfl) (by kernel_rfl) (fun _ _ _ h => h) (Or.inl ⟨by rfl, ?_⟩) (by assumption) ?_
            rotate_left
            · ((intro w'); (try go_simp); (try with_reducible rfl))
            clear hi
            (try simp only [Act.put, List.setIfInBounds_toArray, List.set_cons_zero, List.set_cons_succ])
            have hi := getopN hO 1 (by decide)
            conv at hi => rhs; arg 1; whnf
            refine anyE_takeWV hO (v := ?_) 1 hi (by kernel_rfl) (by kernel_rfl) (by kernel_rfl) (by kernel_rfl) (fun _ _ _ h => h) (Or.inl ⟨by rfl, ?_⟩) (by assumption) ?_
            rotate_left
            · ((intro w'); (try go_simp); (try with_reducible rfl))
            clear hi
            (try simp only [Act.put, List.setIfInBounds_toArray, List.set_cons_zero, List.set_cons_succ])
            have hi := getopN hO 3 (by decide)
            conv at hi => rhs; arg 1; whnf
            refine anyE_takeWV hO (v := ?_) 3 hi (by kernel_rfl) (by kernel_rfl) (by kernel_rfl) (by kernel_rfl) (fun _ _ _ h => h) (Or.inl ⟨by rfl, ?_⟩) (by assumption) ?_
            rotate_left
            · ((intro w'); (try go_simp); (try with_reducible rfl))
            clear hi
            (try simp only [Act.put, List.setIfInBounds_toArray, List.set_cons_zero, List.set_cons_succ])
            have hi := getopN hO 4 (by decide)
            conv at hi => rhs; arg 1; whnf
            refine anyE_takeV hO (v := ?_) 4 hi (by kernel_rfl) (by kernel_rfl) (by kernel_rfl) (by kernel_rfl) (fun _ _ _ h => h) (Or.inl ⟨by rfl, ?_⟩) (by assumption) ?_
            rotate_left
            · ((intro w' hSw); (try dsimp only at hSw); (try go_simp); (try with_reducible rfl))
            clear hi
            (try simp only [Act.put, List.setIfInBounds_toArray, List.set_cons_zero, List.set_cons_succ])
            have hi := getopN hO 5 (by decide)
            conv at hi => rhs; arg 1; whnf
            refine anyE_takeWV hO (v := ?_) 5 hi (by kernel_rfl) (by kernel_rfl) (by kernel_rfl) (by kernel_rfl) (fun _ _ _ h => h) (Or.inl ⟨by rfl, ?_⟩) (by assumption) ?_
            rotate_left
            · ((intro w'); (try go_simp); (try with_reducible rfl))
            clear hi
            (try simp only [Act.put, List.setIfInBounds_toArray, List.set_cons_zero, List.set_cons_succ])
            have hi := getopN hO 6 (by decide)
            conv at hi => rhs; arg 1; whnf
            refine anyE_takeWV hO (v := ?_) 6 hi (by kernel_rfl) (by kernel_rfl) (by kernel_rfl) (by kernel_rfl) (fun _ _ _ h => h) (Or.inl ⟨by rfl, ?_⟩) (by assumption) ?_
            rotate_left
            · ((intro w'); (try go_simp); (try with_reducible rfl))
            clear hi
            (try simp only [Act.put, List.setIfInBounds_toArray, List.set_cons_zero, List.set_cons_succ])
            have hi := getopN hO 7 (by decide)
            conv at hi => rhs; arg 1; whnf
            refine anyE_takeWV hO (v := ?_) 7 hi (by kernel_rfl) (by kernel_rfl) (by kernel_rfl) (by kernel_rfl) (fun _ _ _ h => h) (Or.inl ⟨by rfl, ?_⟩) (by assumption) ?_
            rotate_left
            · ((intro w'); (try go_simp); (try with_reducible rfl))
            clear hi
            (try simp only [Act.put, List.setIfInBounds_toArray, List.set_cons_zero, List.set_cons_succ])
            have hi := getopN hO 8 (by decide)
            conv at hi => rhs; arg 1; whnf
            refine anyE_takeWV hO (v := ?_) 8 hi (by kernel_rfl) (by kernel_rfl) (by kernel_rfl) (by kernel_rfl) (fun _ _ _ h => h) (Or.inl ⟨by rfl, ?_⟩) (by assumption) ?_
            rotate_left
            · ((intro w'); (try go_simp); (try with_reducible rfl))
            clear hi
            (try simp only [Act.put, List.setIfInBounds_toArray, List.set_cons_zero, List.set_cons_succ])
            have hi := getopN hO 9 (by decide)
            conv at hi => rhs; arg 1; whnf
            refine anyE_takeWV hO (v := ?_) 9 hi (by kernel_rfl) (by kernel_rfl) (by kernel_rfl) (by kernel_rfl) (fun _ _ _ h => h) (Or.inl ⟨by rfl, ?_⟩) (by assumption) ?_
            rotate_left
            · ((intro w'); (try go_simp); (try with_reducible rfl))
            clear hi
            (try simp only [Act.put, List.setIfInBounds_toArray, List.set_cons_zero, List.set_cons_succ])
            have hi := getopN hO 10 (by decide)
            conv at hi => rhs; arg 1; whnf
            refine anyE_takeV hO (v := .int .i64 (p : Int)) 10 hi (by kernel_rfl) (by kernel_rfl) (by kernel_rfl) (by kernel_rfl) (fun _ _ _ h => h) (Or.inl ⟨by rfl, ?_⟩) (by assumption) ?_
            · (intro w' hSw; (try dsimp only at hSw); have hlk := HLK.out w' (hSw.2.2.out); go_simp; (try with_reducible rfl))
            clear hi
            (try simp only [Act.put, List.setIfInBounds_toArray, List.set_cons_zero, List.set_cons_succ])
            have hi := getopN hO 11 (by decide)
            conv at hi => rhs; arg 1; whnf
            refine anyE_takeWV hO (v := ?_) 11 hi (by kernel_rfl) (by kernel_rfl) (by kernel_rfl) (by kernel_rfl) (fun _ _ _ h => h) (Or.inl ⟨by rfl, ?_⟩) (by assumption) ?_
            rotate_left
            · ((intro w'); (try go_simp); (try with_reducible rfl))
            clear hi
            (try simp only [Act.put, List.setIfInBounds_toArray, List.set_cons_zero, List.set_cons_succ])
            have hi := getopN hO 12 (by decide)
            conv at hi => rhs; arg 1; whnf
            refine anyE_takeV hO (v := ?_) 12 hi (by kernel_rfl) (by kernel_rfl) (by kernel_rfl) (by kernel_rfl) (fun _ _ _ h => h) (Or.inl ⟨by rfl, ?_⟩) (by assumption) ?_
            rotate_left
            · ((intro w' hSw); (try dsimp only at hSw); (try go_simp); (try with_reducible rfl))
            clear hi
            (try simp only [Act.put, List.setIfInBounds_toArray, List.set_cons_zero, List.set_cons_succ])
            have hi := getopN hO 14 (by decide)
            conv at hi => rhs; arg 1; whnf
            refine anyE_takeWV hO (v := ?_) 14 hi (by kernel_rfl) (by kernel_rfl) (by kernel_rfl) (by kernel_rfl) (fun _ _ _ h => h) (Or.inl ⟨by rfl, ?_⟩) (by assumption) ?_
            rotate_left
            · ((intro w'); (try go_simp); (try with_reducible rfl))
            clear hi
            (try simp only [Act.put, List.setIfInBounds_toArray, List.set_cons_zero, List.set_cons_succ])
            have hi := getopN hO 15 (by decide)
            conv at hi => rhs; arg 1; whnf
            refine anyE_takeWV hO (v := ?_) 15 hi (by kernel_rfl) (by kernel_rfl) (by kernel_rfl) (by kernel_rfl) (fun _ _ _ h => h) (Or.inl ⟨by rfl, ?_⟩) (by assumption) ?_
            rotate_left
            · ((intro w'); (try go_simp); (try with_reducible rfl))
            clear hi
            (try simp only [Act.put, List.setIfInBounds_toArray, List.set_cons_zero, List.set_cons_succ])
            have hi := getopN hO 16 (by decide)
            conv at hi => rhs; arg 1; whnf
            refine anyE_takeWV hO (v := ?_) 16 hi (by kernel_rfl) (by kernel_rfl) (by kernel_rfl) (by kernel_rfl) (fun _ _ _ h => h) (Or.inl ⟨by rfl, ?_⟩) (by assumption) ?_
            rotate_left
            · ((intro w'); (try go_simp); (try with_reducible rfl))
            clear hi
            (try simp only [Act.put, List.setIfInBounds_toArray, List.set_cons_zero, List.set_cons_succ])
            have hi := getopN hO 2 (by decide)
            conv at hi => rhs; arg 1; whnf
            refine anyE_stepV hO 2 (by kernel_rfl) hi (fun K hK => ?_)
            go_simp
            (go_at_call 64; refine (HOF.out _ (hHeld.2.2.out)).mono ?_)
            rintro e wz ⟨rfl, hEz⟩
            go_wp2_with fail
            refine hK.out _ _ ⟨(hEz).cell hHeld.1, (hEz).cell hHeld.2.1, Ext.trans hHeld.2.2.out (hEz)⟩ (fun hHeld => ?_)
            clear hK K hi
            (try simp only [Act.put, List.setIfInBounds_toArray, List.set_cons_zero, List.set_cons_succ])
            have hi := getopN hO 13 (by decide)
            conv at hi => rhs; arg 1; whnf
            refine anyE_stepV hO 13 (by kernel_rfl) hi (fun K hK => ?_)
            go_simp
            (go_at_call 63; refine (HMU.out _ (hHeld.2.2.out)).mono ?_)
            rintro e wz ⟨rfl, hEz⟩
            go_wp2_with fail
            refine hK.out _ _ ⟨(hEz).cell hHeld.1, (hEz).cell hHeld.2.1, Ext.trans hHeld.2.2.out (hEz)⟩ (fun hHeld => ?_)
            clear hK K hi
            (try simp only [Act.put, List.setIfInBounds_toArray, List.set_cons_zero, List.set_cons_succ])
            have hi := getopN hO 17 (by decide)
            conv at hi => rhs; arg 1; whnf
            refine anyE_stepV hO 17 (by kernel_rfl) hi (fun K hK => ?_)
            go_simp
            (go_at_call 65; refine (HOD.out _).mono ?_)
            rintro e wz ⟨rfl, hEz⟩
            go_wp2_with fail
            refine hK.out _ _ ⟨(hEz).cell hHeld.1, (hEz).cell hHeld.2.1, Ext.trans hHeld.2.2.out (hEz)⟩ (fun hHeld => ?_)
            clear hK K hi
            (try simp only [Act.put, List.setIfInBounds_toArray, List.set_cons_zero, List.set_cons_succ])
            have hi := getopN hO 18 (by decide)
            conv at hi => rhs; arg 1; whnf
            refine anyE_stepV hO 18 (by kernel_rfl) hi (fun K hK => ?_)
            go_simp
            (go_at_call 62; refine (HSG.out _).mono ?_)
            rintro e wz ⟨rfl, hEz⟩
            go_wp2_with fail
            refine hK.out _ _ ⟨(hEz).cell hHeld.1, (hEz).cell hHeld.2.1, Ext.trans hHeld.2.2.out (hEz)⟩ (fun hHeld => ?_)
            clear hK K hi
            (try simp only [Act.put, List.setIfInBounds_toArray, List.set_cons_zero, List.set_cons_succ])
            have hi := getopN hO 19 (by decide)
            conv at hi => rhs; arg 1; whnf
            refine anyE_stepV hO 19 (by kernel_rfl) hi (fun K hK => ?_)
            go_simp
            (go_at_call 61; refine (HAD.out _ (hHeld.2.2.out)).mono ?_)
            rintro e wy ⟨rfl, hEz⟩
            go_wp2_with fail
            refine hK.out _ _ ⟨(hEz).cell hHeld.1, (hEz).cell hHeld.2.1, Ext.trans hHeld.2.2.out (hEz)⟩ (fun hHeld => ?_)
            clear hK K hi
            (try simp only [Act.put, List.setIfInBounds_toArray, List.set_cons_zero, List.set_cons_succ])
            have HWY : Hid (Ext wp wy) := hHeld.2.2
            have hi := getopN hO 20 (by decide)
            conv at hi => rhs; arg 1; whnf
            refine anyE_lastV hO 20 (by kernel_rfl) (by kernel_rfl) hi (fun K hK => ?_)
            go_simp
            refine hK.out _ _ (by assumption) ?_
            clear hK K hi hO
            (try simp only [Act.put, List.setIfInBounds_toArray, List.set_cons_zero, List.set_cons_succ])
            go_wp2_with fail
            go_roundw
            case rel => exact ⟨j + 1, by omega, by go_num, by rw [HS2'.out], HX9.out.trans HWY.out⟩
            case measure => simp [intOf]; omega
        · obtain rfl : j = n := by omega
          as_aux_lemma =>
          obtain ⟨z, hz⟩ : ∃ z, intTo j k X r s j = z := ⟨_, rfl⟩
          rw [hz] at HZ ⊢
          have HST := HZ
          have HBU2 := Lib.hid (HBU.out.ext HX.out)
          obtain ⟨ao, co, rfl, -⟩ := ListAt.open HBU.out.list
          obtain ⟨m, hm⟩ : ∃ m, (D.take i).length = m := ⟨_, rfl⟩
          have hBK2 := block_ext HBK.out HX.out
          have HLi := Lib.hid (HLL.out i)
          rw [hm] at HBU2 hBK2
          have HBK2 := Lib.hid hBK2
          have z1 := block_cell hBK2 2
          simp only [List.getElem?_toArray, List.getElem?_cons_succ, List.getElem?_cons_zero] at z1
          have HSZ : Hid (w7.heap.size ≤ wp.heap.size) := Nat.le_trans HG.out.size HX.out.size
          have HGX : Hid (GrownS (· = w3.heap.size) w7 wp) := HG.out.ext HX.out
          clear hz hm hBK2 HBU HBK
          go_wp2_with (at_builtin; go_must (refine wpList_append_build _ rfl _ _ 29 rfl w7.heap.size 53 (.string ⟨#[]⟩) 1 16 Tryz.underlying29 infoBigI rfl (by decide) (.slice ao m co) numC (D.take i) z #[.string (intB z)] 53 rfl HBU2.out rfl rfl ?e1 (fun _ _ => rfl) HLi.out (by decide) HSZ.out ?_))
          case e1 => simp [Value.oneCell']
          intro v' w6b hB6 hg6 hb6 hs6 _
          rw [← HST.out] at hB6
          have HB6 := Lib.hid hB6
          have HG6 : Hid (GrownS (· = w3.heap.size) w7 w6b) := HGX.out.thenBelow hb6 (Nat.le_refl _)
          have HK6 := Lib.hid ((Below.block hb6 w3.heap.size HBL.out).trans HBK2.out)
          obtain ⟨a6, c6, rfl, -⟩ := ListAt.open hB6.list
          obtain ⟨m6, hm6⟩ : ∃ m, (D.take (i + 1)).length = m := ⟨_, rfl⟩
          rw [hm6] at HB6 ⊢
          clear hm6
          have k6 := block_cell HK6.out
          have f6 := block_free HK6.out
          clear hB6 hg6 hb6 z1
          go_wp2_with fail
          go_roundw
          case rel => exact ⟨i + 1, by omega, by go_num, HG6.out.trans (grownBy_S (grown_setCell _ _ _ _) (fun k hk => by cases hk; rfl)), _, block_set HK6.out 2 _, HB6.out.boxAt HBL.out 2 _⟩
          case measure => simp [intOf]; omega
    · obtain rfl : i = N := by omega
      obtain ⟨so, hBK, hBU⟩ := HBB.out
      have hTA : D.take i = D := by
        refine List.take_of_length_le ?_
        rw [HDM.out, List.length_map, HNN.out]; exact Nat.le_refl _
      rw [hTA] at hBU
      obtain ⟨ao, co, rfl, -⟩ := ListAt.open hBU.list
      have HF := Lib.hid hBU.list
      have HE9 : Hid (Ext w wo) := ext_grownS HE7.out HG.out (fun j hj e => by have := HS3.out; omega)
      have HB29 : Hid (wo.heap[w.heap.size + 1]? = some (.cells #[.int .i64 0, .int .i64 0, .slice none 0 0] 31 (0, 0))) := by
        unfold Hid
        rw [← HS1.out, ← HB27.out]
        exact HG.out.block _ (block_lt HB27.out) (by have := HS3.out; omega)
      obtain ⟨m, hm⟩ : ∃ m, D.length = m := ⟨_, rfl⟩
      rw [hm] at hBK HF
      have kk := block_cell hBK
      have f9 := block_free HB29.out
      have k9 := block_cell HB29.out
      clear hBK hBU HBB hTA
      go_wp2_with fail
      have hb7 := multi_store HB29.out (.int .i64 n) (.int .i64 d) (.slice ao m co)
      refine bodyPost_ret (results_cell_tmp (by rfl) _ _ (w.heap.size + 1) 31 #[.int .i64 n, .int .i64 d, .slice ao m co] (0, 0) _ (.int .i64 0) (by rfl) (by rfl) hb7 Tryz.underlying31 (by rfl) (by kernel_rfl)) (by rfl) ⟨_, rfl, multi_ext HE9.out (by omega) _ _ _, _, rfl, ?_⟩
      exact nums_set HF.out HB29.out (multi_nostr 0 0) (multi_grown _ _ _ _ _)
end Go.Proofs.YtjlkkofmojgipaaGreatDoor
