import Derived.Test.YtjlkkofmojgipaaGreatDoorPBB
import Derived.Test.YtjlkkofmojgipaaGreatDoorPBC
import Derived.Test.YtjlkkofmojgipaaGreatDoorPAX
namespace Go.Proofs.YtjlkkofmojgipaaGreatDoor
set_option linter.unusedVariables false
set_option linter.unusedSimpArgs false
open Go.RowKit Go.Maps
def ResW (w:World) (base:Nat) (v:Value) (R:List (List Int)):Prop :=
 ∃ a c,v=.slice a R.length c∧R.length≤c∧c≤maxLen∧(R=[]∨∃ g tags,a=some ⟨g,0,none⟩∧MatB w g tags R∧∀ b,blocksOf g tags b→base≤b)
theorem RowB.dropW {w:World} {g o:Nat} {xs:List Int} (h:RowB w g o xs) (k:Nat):RowB w g (o+k) (xs.drop k) :=
 ⟨h.lt,fun j x hx=>by
  rw [List.getElem?_drop] at hx
  rw [Nat.add_assoc];exact h.cell (k+j) x hx,h.free⟩
theorem nums_lit1 (w:World):ListAt 1 numC (w.alloc (.cells #[.string ⟨#[48]⟩] 53)) (.slice (some ⟨w.heap.size,0,none⟩) 1 1) [0]:=by
 refine ⟨[[.string ⟨#[48]⟩]],rfl,by simp,⟨some ⟨w.heap.size,0,none⟩,1,rfl,Nat.le_refl _,by unfold maxLen;omega,(fun h=>by cases h),fun _=>⟨w.heap.size,0,rfl,by simp,fun j u hu=>?_⟩⟩,?_⟩
 ·have hj:j=0:=by have:=(List.getElem?_eq_some_iff.1 hu).1;simpa using this
  subst hj
  rw [World.cell?_alloc_new];exact hu
 ·intro j u x hu hx
  have hj:j=0:=by have:=(List.getElem?_eq_some_iff.1 hu).1;simpa using this
  subst hj
  simp only [List.getElem?_cons_zero,Option.some.injEq] at hu hx
  subst hu;subst hx
  show [Value.string ⟨#[48]⟩]=[Value.string (intB 0)]
  rw [show intB 0=⟨#[48]⟩ by decide +kernel]
def outMB (n k:Nat):Bool:=(allW n (k+1)).all fun s=>(List.range n).all fun i=>!(s.testBit i) || decide ((s ^^^ (1 <<< i))∈allW n k)
theorem outM_all:∀ n,n<7→∀ k,k<n→outMB n k=true:=by decide +kernel
theorem out_mem {n k s i:Nat} (hn:n<7) (hk:k<n) (hs:s∈allW n (k+1)) (hi:i<n) (hb:s.testBit i=true):(s ^^^ (1 <<< i))∈allW n k:=by
 have h:=List.all_eq_true.1 (List.all_eq_true.1 (outM_all n hn k hk) s hs) i (List.mem_range.2 hi)
 rw [hb,Bool.not_true,Bool.false_or,decide_eq_true_eq] at h;exact h
def outBB:Bool:=(List.range 6).all fun i=>(List.range 64).all fun s=>!(s.testBit i) || decide (s &&& (18446744073709551615-(1 <<< i))=s ^^^ (1 <<< i))
theorem outB_all:outBB=true:=by decide +kernel
theorem out_bits {i s:Nat} (hi:i<6) (hs:s<64) (hb:s.testBit i=true):s &&& (18446744073709551615-(1 <<< i))=s ^^^ (1 <<< i):=by
 have h:=List.all_eq_true.1 (List.all_eq_true.1 outB_all i (List.mem_range.2 hi)) s (List.mem_range.2 hs)
 rw [hb,Bool.not_true,Bool.false_or,decide_eq_true_eq] at h;exact h
theorem kerM_len (n k:Nat) (X:List Int):(kerM n k X).length=n:=by unfold kerM;rw [List.length_map,List.length_range]
theorem kerRow_len (n k:Nat) (X:List Int) (i:Nat):(kerRow n k X i).length=(kerSets n k).length+n:=by unfold kerRow unitL;simp
theorem kerM_row {n k i:Nat} {X:List Int} (hi:i<n):(kerM n k X).take (i+1)=(kerM n k X).take i++[kerRow n k X i]:=by
 unfold kerM
 rw [← List.map_take,← List.map_take,List.take_add_one,List.map_append,List.getElem?_range hi];rfl
theorem kerSets_len {n k:Nat} (hn:n≤12) (hk:k≤n):(kerSets n k).length≤924:=by
 unfold kerSets
 split
 ·simp
 ·exact allW_len hn (by omega)
theorem kernW_some {F n k:Nat} {X:List Int} {R:List (List Int)} (h:kernW F n k X=some R):∃ m d,kerCols ((kerSets n k).length+n) F (kerM n k X) (kerSets n k).length=some (m,d)∧R=(m.drop d).map (·.drop (kerSets n k).length):=by
 unfold kernW at h
 cases hc:kerCols ((kerSets n k).length+n) F (kerM n k X) (kerSets n k).length with
 | none=>rw [hc] at h;cases h
 | some z =>
  obtain ⟨m,d⟩:=z
  rw [hc] at h
  exact ⟨m,d,rfl,(Option.some.inj h).symm⟩
theorem colW_ok {n c d F:Nat} {m:List (List Int)} {R:List (List Int)×Bool} (h:colW n c d F m=some R):okM n m=true:=by
 cases F with
 | zero=>cases h
 | succ F =>
  rw [colW_succ] at h
  by_cases hk:okM n m=true
  ·exact hk
  ·rw [if_neg hk] at h;cases h
theorem colW_lens {n c d:Nat}:∀ {F:Nat} {m m':List (List Int)} {p:Bool},colW n c d F m=some (m',p)→∀ i,i<m'.length→(rowE_ m' i).length=n
 | 0,_,_,_,h=>by cases h
 | F+1,m,m',p,h=>by
  intro i hi
  have hok:=colW_ok h
  rw [colW_succ,if_pos hok] at h
  cases hb:bestO c d m (m.length-d) with
  | none =>
   rw [hb] at h
   simp only [Option.some.injEq,Prod.mk.injEq] at h
   obtain ⟨rfl,rfl⟩:=h
   exact (okM_row hok i hi).1
  | some a =>
   rw [hb] at h
   simp only at h
   cases hdn:downO c d (swapL m d a) (m.length-(d+1)) with
   | none=>rw [hdn] at h;cases h
   | some r =>
    obtain ⟨m2,b⟩:=r
    rw [hdn] at h
    have hdl:d<m.length:=by
     by_cases e:d<m.length
     ·exact e
     ·rw [show m.length-d=0 by omega] at hb;cases hb
    obtain ⟨k1,k2,k3⟩:=downO_keep hdn (by rw [swapL_len];omega)
    cases b with
    | false =>
     simp only [Option.some.injEq,Prod.mk.injEq] at h
     obtain ⟨rfl,rfl⟩:=h
     rw [k3 i]
     exact (okM_row (okM_swap hok d a) i (by rw [← k1];exact hi)).1
    | true=>exact colW_lens (F:=F) h i hi
theorem kerCols_lens {N F:Nat} {m:List (List Int)} (hm:∀ i,i<m.length→(rowE_ m i).length=N):∀ (C:Nat) {m1:List (List Int)} {d:Nat},kerCols N F m C=some (m1,d)→∀ i,i<m1.length→(rowE_ m1 i).length=N
 | 0,m1,d,h=>by
  have h:some (m,0)=some (m1,d):=h
  simp only [Option.some.injEq,Prod.mk.injEq] at h
  obtain ⟨rfl,rfl⟩:=h
  exact hm
 | C+1,m1,d,h=>by
  rw [kerCols_succ] at h
  cases hc:kerCols N F m C with
  | none=>rw [hc] at h;cases h
  | some z =>
   obtain ⟨m0,d0⟩:=z
   rw [hc] at h
   simp only at h
   cases hw:colW N C d0 F m0 with
   | none=>rw [hw] at h;cases h
   | some r =>
    obtain ⟨m2,p⟩:=r
    rw [hw] at h
    simp only [Option.some.injEq,Prod.mk.injEq] at h
    obtain ⟨rfl,-⟩:=h
    exact colW_lens hw
theorem kerM_lens (n k:Nat) (X:List Int):∀ i,i<(kerM n k X).length→(rowE_ (kerM n k X) i).length=(kerSets n k).length+n:=by
 intro i hi
 have hg:(kerM n k X)[i]?=some (kerRow n k X i):=by
  rw [kerM_len] at hi
  unfold kerM;rw [List.getElem?_map,List.getElem?_range hi];rfl
 rw [rowE_of hg];exact kerRow_len n k X i
theorem cutL_step {m:List (List Int)} {d S j:Nat} (hj:d+j<m.length):((m.drop d).map (·.drop S)).take (j+1)=((m.drop d).map (·.drop S)).take j++[(rowE_ m (d+j)).drop S]:=by
 rw [List.take_add_one,List.getElem?_map,List.getElem?_drop,rowE_get hj];rfl
def cutW (k:Nat) (t:Nat×Nat×Nat):Nat×Nat×Nat:=(t.1,t.2.1+k,t.2.2-k)
theorem cutT_step {tags:List (Nat×Nat×Nat)} {d S j:Nat} {t:Nat×Nat×Nat} (h:tags[d+j]?=some t):((tags.drop d).map (cutW S)).take (j+1)=((tags.drop d).map (cutW S)).take j++[cutW S t]:=by
 rw [List.take_add_one,List.getElem?_map,List.getElem?_drop,h];rfl
theorem cutT_fresh {w:World} {g:Nat} {tags:List (Nat×Nat×Nat)} {m:List (List Int)} (h:MatB w g tags m) {d S j:Nat} {t:Nat×Nat×Nat} (ht:tags[d+j]?=some t):(cutW S t).1∉(((tags.drop d).map (cutW S)).take j).map (·.1):=by
 intro hm
 obtain ⟨s,hs,e⟩:=List.mem_map.1 hm
 obtain ⟨i,hi⟩:=List.getElem?_of_mem hs
 have hij:i<j:=by
  have:=(List.getElem?_eq_some_iff.1 hi).1
  rw [List.length_take] at this;omega
 rw [List.getElem?_take_of_lt hij,List.getElem?_map,List.getElem?_drop] at hi
 cases hq:tags[d+i]? with
 | none=>rw [hq] at hi;cases hi
 | some q =>
  rw [hq] at hi
  obtain rfl:=Option.some.inj hi
  exact h.apart ht hq (by omega) e.symm
set_option maxRecDepth 1000000 in
set_option maxHeartbeats 40000000 in
theorem kernelM_any (F : Nat) {n k : Nat} {X : List Int} (hn : n < 7) (hn1 : 1 ≤ n) (hR : RightM n k X) (u : Value) (w : World) (h : MultiV w u n k X) (R : List (List Int)) (hK : kernW F n k X = some R) (ht : Pow10 w) (hb : 4 < w.heap.size) :
    Calls Tryz.prog 80 #[u] w fun e w' => ∃ v, e = .returned v ∧ ResW w' w.heap.size v R ∧ Ext w w' := by
  obtain ⟨r, rfl, hr⟩ := h
  obtain ⟨a, c, rfl, h1, h2, -, hc⟩ := inCell.open (BigL.of_nums hr)
  unfold maxLen at h2
  have HC := Lib.hid hc
  have hkn := hR.kn
  have HLEN := Lib.hid hR.len
  have HDG := Lib.hid hR.dig
  have HT := Lib.hid ht; have HPB := Lib.hid hb
  obtain ⟨mf, df, hkc, hRE⟩ := kernW_some hK
  have HKC := Lib.hid hkc; have HRE := Lib.hid hRE
  obtain ⟨mx, hmx⟩ : ∃ m, X.length = m := ⟨_, rfl⟩
  have HMX := Lib.hid hmx
  rw [hmx] at h1 ⊢
  obtain ⟨w1, hw1, hE1, hs1, hb1⟩ := boxM w (.int .i64 n) (.int .i64 k) (.slice a mx c)
  have HE1 := Lib.hid hE1
  have HB1 := Lib.hid hb1
  have k1 := block_cell hb1
  have HN := Lib.hid hn
  obtain ⟨js, hjs⟩ : ∃ js, js = if k = n then n else k + 1 := ⟨_, rfl⟩
  have hjn : js ≤ n := by rw [hjs]; split <;> omega
  have HJS := Lib.hid hjs
  have hmin : min ((k : Int) + 1) (n : Int) = (js : Int) := by rw [hjs]; split <;> omega
  have hmin2 : min (n : Int) ((k : Int) + 1) = (js : Int) := by rw [Int.min_comm]; exact hmin
  have hkw : IntKind.i64.wrap ((k : Int) + 1) = (k : Int) + 1 := by rw [IntKind.wrap_i64]; omega
  have HAL : Hid (∀ W, Calls Tryz.prog 60 #[.int .i64 n, .int .i64 js] W (UintsR (allW n js) W)) := fun W => all_any n js (by omega) hjn W
  have HPL : Hid (∀ W, Calls Tryz.prog 59 #[.int .i64 n, .int .i64 k] W fun e w' => ∃ v, e = .returned v ∧ Ext W w' ∧ PlacesM w' v n k) := fun W => places_any n k hn hkn W
  have HKN := Lib.hid hkn
  clear hb1 hE1 hr hc hs1 hR hmx ht hb hK hkc hRE hjs
  go_enter Tryz.func80, Tryz.ntmps80
  go_wp2_with fail
  refine (HAL.out w1).mono ?_
  rintro e w2 ⟨v2, rfl, h2, hU⟩
  obtain ⟨a2, c2, rfl, hc1, hc2, hcx⟩ := hU.open
  have HU := Lib.hid hU
  have HE2 : Hid (Ext w w2) := HE1.out.trans h2
  have HB2 := Lib.hid (block_ext HB1.out h2)
  have d0 := block_cell HB2.out 0; have d1 := block_cell HB2.out 1
  simp only [List.getElem?_toArray, List.getElem?_cons_succ, List.getElem?_cons_zero] at d0 d1
  clear h2 hU hcx hc1 hc2 HAL k1 hw1
  obtain ⟨ln2, hln2⟩ : ∃ l, (allW n js).length = l := ⟨_, rfl⟩
  rw [hln2] at HU ⊢
  have HLN2 := Lib.hid hln2
  clear hln2 hmin hmin2 hkw
  obtain ⟨S, hS⟩ : ∃ S, (kerSets n k).length = S := ⟨_, rfl⟩
  have HS := Lib.hid hS
  rw [hS] at HKC HRE
  have hS9 : S ≤ 924 := by rw [← hS]; exact kerSets_len (by omega) hkn
  go_upto_if 31 with fail
  go_cut [4] from 32 to 32 (fun s4 wx => ∃ a4 c4, s4 = .slice a4 S c4 ∧ wx = w2 ∧ Hid (Uints w2 (.slice a4 S c4) (kerSets n k)))
  case first =>
    by_cases hkk : k = n
    · have q0 : ((k : Int) == (n : Int)) = true := by rw [hkk]; simp
      have HKS : Hid (kerSets n k = []) := if_pos hkk
      have hS0 : S = 0 := by rw [← hS, HKS.out]; rfl
      subst hS0
      clear hkk
      go_wp2_with fail
      go_meet
      refine ⟨none, 0, rfl, rfl, ?_⟩
      unfold Hid; rw [HKS.out]
      exact ⟨[], rfl, by simp, ⟨none, 0, rfl, Nat.le_refl _, Nat.zero_le _, fun _ => rfl, fun h => absurd rfl h⟩, by simp⟩
    · have q0 : ((k : Int) == (n : Int)) = false := by simp; omega
      have HKS : Hid (kerSets n k = allW n js) := by unfold Hid kerSets; rw [if_neg hkk, HJS.out, if_neg hkk]
      have hS0 : S = ln2 := by rw [← hS, HKS.out]; exact HLN2.out
      subst hS0
      clear hkk
      go_wp2_with fail
      go_meet
      exact ⟨a2, c2, rfl, rfl, by unfold Hid; rw [HKS.out]; exact HU.out⟩
  case rest =>
  obtain ⟨a4, c4, rfl, hwx, HU4⟩ := hcut
  obtain rfl := hwx.symm
  clear HU HLN2 HJS hjn
  go_wp2_with fail
  refine (HPL.out _).mono ?_
  rintro e w3 ⟨v3, rfl, h3, hP3⟩
  obtain ⟨b3, N3, rfl, hI3⟩ := hP3
  have HP3 : Hid (PlacesM w3 (.map (some b3)) n k) := ⟨b3, N3, rfl, hI3⟩
  have HE3 : Hid (Ext w w3) := HE2.out.trans h3
  have HB3 := Lib.hid (block_ext HB2.out h3)
  have HU3 := Lib.hid (HU4.out.ext h3)
  obtain ⟨L, hL⟩ : ∃ L, kerSets n k = L := ⟨_, rfl⟩
  have HLK : Hid (∀ s ∈ L, s < 2 ^ n ∧ s < 4096 ∧ ∀ i, i < n → s.testBit i = true → (s ^^^ (1 <<< i)) ∈ allW n k) := by
    intro s hs
    rw [← hL] at hs
    unfold kerSets at hs
    by_cases hkk : k = n
    · rw [if_pos hkk] at hs; cases hs
    · rw [if_neg hkk] at hs
      have hn9 := HN.out; have hk9 := HKN.out
      exact ⟨allW_two (by omega) (by omega) s hs, allW_lt (by omega) (by omega) s hs, fun i hi hb => out_mem hn9 (by omega) hs hi hb⟩
  have HLS : Hid (L.length = S) := by unfold Hid; rw [← hL]; exact hS
  have HLL := Lib.hid hL
  rw [hL] at HU3
  obtain ⟨a9, c9, hv9, hc1, hc2, hcx⟩ := HU3.out.open
  have hv9' := hv9
  rw [HLS.out] at hv9' hc1
  simp only [Value.slice.injEq] at hv9'
  obtain ⟨rfl, -, rfl⟩ := hv9'
  unfold maxLen at hc2
  have HCX := Lib.hid hcx
  clear h3 hI3 HPL HU4 hcx hv9 hL hS d0 d1
  go_wp2_with fail
  go_loopw [6, 37] (fun out t wr => ∃ (i : Nat) (tagsO : List (Nat × Nat × Nat)), i ≤ n ∧ t = .int .i64 i ∧ Ext w3 wr ∧ Hid (LinesB wr w3.heap.size w3.heap.size out tagsO ((kerM n k X).take i)) ∧ Hid (out = .slice none 0 0 ∧ i = 0 ∨ ∃ g q, out = .slice (some ⟨g, 0, none⟩) i q)) (fun _ t _ => n - (intOf t).toNat)
  case atStart => exact ⟨0, [], by omega, rfl, Ext.refl _, LinesB.nil _ _ _, .inl ⟨rfl, rfl⟩⟩
  case round =>
    obtain ⟨i, tagsO, hi, rfl, hE, HL, HV⟩ := hrel
    obtain ⟨wo, rfl⟩ : ∃ wo : World, wo = wr := ⟨_, rfl⟩
    have HE := Lib.hid hE
    by_cases hlt : i < n
    · skip
      have hi64 := one_shl i (by have := HN.out; omega)
      have e1 := hi64.1
      have hb46 := hi64.2
      have c4' : 0 ≤ (i : Int) := by omega
      have c5' : (i : Int) ≤ 64 := by have := HN.out; omega
      have HROW := Lib.hid (kerM_row (k := k) (X := X) hlt)
      clear hE hi64
      obtain ⟨bi, hbi⟩ : ∃ bi, 1 <<< i = bi := ⟨_, rfl⟩
      rw [hbi] at e1 hb46
      have HBI := Lib.hid hbi
      clear hbi
      go_wp2_with fail
      go_loopw [8, 42] (fun r t wq => ∃ j : Nat, j ≤ S ∧ t = .int .i64 j ∧ Ext wo wq ∧ Hid (Build wq wo.heap.size 53 1 r numC ((L.map (kerCell n k X i)).take j))) (fun _ t _ => S - (intOf t).toNat)
      case atStart => exact ⟨0, by omega, rfl, Ext.refl _, Build.nil _ _ _ _ _⟩
      case round =>
        obtain ⟨j, hj, rfl, hEq, HBu⟩ := hrel
        obtain ⟨wp, rfl⟩ : ∃ wp : World, wp = wr := ⟨_, rfl⟩
        have HEq := Lib.hid hEq
        by_cases hjl : j < S
        · skip
          obtain ⟨s, hs⟩ : ∃ s, L[j]? = some s := ⟨L[j]'(by rw [HLS.out]; exact hjl), List.getElem?_eq_getElem _⟩
          obtain ⟨b7, o7, rfl, hb7, hcell⟩ := HCX.out (by intro e; rw [e] at hs; simp at hs)
          have g1 := HEq.out.cell (HE.out.cell (hcell j s hs))
          obtain ⟨hs2, hs46, hsm⟩ := HLK.out s (List.mem_of_getElem? hs)
          have HNX : Hid ((L.map (kerCell n k X i)).take (j + 1) = (L.map (kerCell n k X i)).take j ++ [kerCell n k X i s]) := by
            unfold Hid; rw [List.take_add_one, List.getElem?_map, hs]; rfl
          have HJ : Hid (((L.map (kerCell n k X i)).take j).length < 1000000) := by unfold Hid; rw [List.length_take]; omega
          have f1 : (s : Int) / 2 ^ i = ((s / 2 ^ i : Nat) : Int) := by rw [Int.natCast_ediv, Int.natCast_pow]; rfl
          have f2 := bit_andW (i := i) hs46
          obtain ⟨q, hq⟩ : ∃ q, s / 2 ^ i = q := ⟨_, rfl⟩
          rw [hq] at f1 f2
          obtain ⟨bb, hbb⟩ : ∃ bb : Int, (if s.testBit i = true then 1 else 0) = bb := ⟨_, rfl⟩
          rw [hbb] at f2
          have HBBT := Lib.hid hbb
          clear hbb
          obtain ⟨x, hx⟩ : ∃ x, kerCell n k X i s = x := ⟨_, rfl⟩
          rw [hx] at HNX
          have hszq := hEq.size
          have HSM := Lib.hid hsm
          clear hcell hs hq hb7 hsm hEq
          go_upto_if 50 with fail
          go_cut [11, 12] from 51 to 66 (fun s11 s12 wx => s11 = .string (intB x) ∧ Hid (Ext wp wx))
          case first =>
            cases htb : s.testBit i with
            | false =>
              have hbb := HBBT.out
              rw [htb, if_neg (by decide)] at hbb
              subst hbb
              have HX0 : Hid (intB x = ⟨#[48]⟩) := by
                unfold Hid; rw [← hx, kerCell_out htb]; decide +kernel
              clear hx htb
              go_wp2_with fail
              go_meet
              exact ⟨by rw [HX0.out], Ext.refl _⟩
            | true =>
              have hbb := HBBT.out
              rw [htb, if_pos rfl] at hbb
              subst hbb
              rw [kerCell_set htb] at hx
              have hin := HSM.out i hlt htb
              have h64 : s < 64 := Nat.lt_of_lt_of_le hs2 (by have : 2 ^ n ≤ 2 ^ 6 := Nat.pow_le_pow_right (by decide) (by have := HN.out; omega)
                                                              simpa using this)
              have hob := out_bits (i := i) (by have := HN.out; omega) h64 htb
              rw [HBI.out] at hob
              have e3 := u64_andNot_nat s bi (by omega) (by omega)
              rw [hob] at e3
              have hr46 := allW_lt (n := n) (k := k) (by have := HN.out; omega) HKN.out _ hin
              have hpm := (place_get HN.out HKN.out hin).2
              rw [← HLEN.out, HMX.out] at hpm
              rw [HBI.out] at hx hin
              obtain ⟨rs, hrs⟩ : ∃ rs, s ^^^ bi = rs := ⟨_, rfl⟩
              rw [HBI.out] at hr46 hpm
              rw [hrs] at hx hin e3 hr46 hpm
              have HOD : Hid (∀ W, Calls Tryz.prog 65 #[.int .u64 (bi : Int), .int .u64 (rs : Int)] W fun e w' => e = .returned (.bool (oddW bi rs)) ∧ Ext W w') := fun W => oddE_any bi rs hb46 hr46 W
              have HLK2 : Hid (∀ W, Ext wp W → (Instr.lookup 96 (.map (some b3)) (.int .u64 (rs : Int)) false).run Tryz.prog W = .ok (.int .i64 ((placeW n k rs : Nat) : Int)) W) := fun W hW => (HP3.out.ext ((HE.out.trans HEq.out).trans hW)).run hin hr46
              obtain ⟨p, hp⟩ : ∃ p, placeW n k rs = p := ⟨_, rfl⟩
              rw [hp] at hpm HLK2 hx
              obtain ⟨y, hy⟩ : ∃ y, X[p]? = some y := ⟨_, List.getElem?_eq_getElem (by rw [HMX.out]; exact hpm)⟩
              rw [show X.getD p 0 = y by rw [List.getD_eq_getElem?_getD, hy]; rfl] at hx
              obtain ⟨o, ho⟩ : ∃ o, oddW bi rs = o := ⟨_, rfl⟩
              rw [ho] at HOD hx
              obtain ⟨bx, ox, rfl, hbx, hcx⟩ := HC.out (by intro e; rw [e] at hy; simp at hy)
              obtain ⟨z9, e9, g9⟩ := hcx p y hy
              obtain rfl : z9 = .string (intB y) := e9
              have hdy := HDG.out y (List.mem_of_getElem? hy)
              have HSG : Hid (∀ W, Calls Tryz.prog 62 #[.string (intB y), .bool o] W fun e w' => e = .returned (.string (intB (sgnI y o))) ∧ Ext W w') := fun W => signed_any y o W (by have := (digits_size hdy).2; omega)
              rw [hx] at HSG
              have HLK := HLK2
              have z3 := HEq.out.cell (HE.out.cell (HE3.out.cell g9))
              have z2 := HEq.out.cell (HE.out.cell (block_cell HB3.out 2))
              (try simp only [List.getElem?_toArray, List.getElem?_cons_succ, List.getElem?_cons_zero] at z2)
              have hpx : (p : Int) < (mx : Int) := by omega
              clear hob htb hin hrs hp hy ho hcx g9 hdy hx hbx h64 HLK2
              go_upto_region 17 with fail
              refine region_anyE (fun w' => w'.cell? ⟨w.heap.size, 2, none⟩ = some (.slice (some ⟨bx, ox, none⟩) mx c) ∧ w'.cell? ⟨bx, ox + p, none⟩ = some (.string (intB y)) ∧ Hid (Ext wp w')) 12 (by kernel_rfl) ⟨(Ext.drew wp).cell z2, (Ext.drew wp).cell z3, Ext.drew wp⟩ (fun hHeld => ?_)
              refine anyE_takeW (v := ?_) 0 rfl (by kernel_rfl) (by kernel_rfl) (by kernel_rfl) (by decide) (fun _ _ _ h => h) (Or.inl ⟨by rfl, ?_⟩) (by assumption) ?_
              rotate_left
              · ((intro w'); (try go_simp); (try with_reducible rfl))
              (try simp only [Act.put, List.setIfInBounds_toArray, List.set_cons_zero, List.set_cons_succ])
              refine anyE_take (v := ?_) 1 rfl (by kernel_rfl) (by kernel_rfl) (by kernel_rfl) (by kernel_rfl) (by kernel_rfl) (fun _ _ _ h => h) (Or.inl ⟨by rfl, ?_⟩) (by assumption) ?_
              rotate_left
              · ((intro w' hSw); (try dsimp only at hSw); (try go_simp); (try with_reducible rfl))
              (try simp only [Act.put, List.setIfInBounds_toArray, List.set_cons_zero, List.set_cons_succ])
              refine anyE_takeW (v := ?_) 2 rfl (by kernel_rfl) (by kernel_rfl) (by kernel_rfl) (by decide) (fun _ _ _ h => h) (Or.inl ⟨by rfl, ?_⟩) (by assumption) ?_
              rotate_left
              · ((intro w'); (try go_simp); (try with_reducible rfl))
              (try simp only [Act.put, List.setIfInBounds_toArray, List.set_cons_zero, List.set_cons_succ])
              refine anyE_takeW (v := ?_) 3 rfl (by kernel_rfl) (by kernel_rfl) (by kernel_rfl) (by decide) (fun _ _ _ h => h) (Or.inl ⟨by rfl, ?_⟩) (by assumption) ?_
              rotate_left
              · ((intro w'); (try go_simp); (try with_reducible rfl))
              (try simp only [Act.put, List.setIfInBounds_toArray, List.set_cons_zero, List.set_cons_succ])
              refine anyE_take (v := .int .i64 (p : Int)) 4 rfl (by kernel_rfl) (by kernel_rfl) (by kernel_rfl) (by kernel_rfl) (by kernel_rfl) (fun _ _ _ h => h) (Or.inl ⟨by rfl, ?_⟩) (by assumption) ?_
              · (intro w' hSw; (try dsimp only at hSw); have hlk := HLK.out w' (hSw.2.2.out); go_simp; (try with_reducible rfl))
              (try simp only [Act.put, List.setIfInBounds_toArray, List.set_cons_zero, List.set_cons_succ])
              refine anyE_takeW (v := ?_) 5 rfl (by kernel_rfl) (by kernel_rfl) (by kernel_rfl) (by decide) (fun _ _ _ h => h) (Or.inl ⟨by rfl, ?_⟩) (by assumption) ?_
              rotate_left
              · ((intro w'); (try go_simp); (try with_reducible rfl))
              (try simp only [Act.put, List.setIfInBounds_toArray, List.set_cons_zero, List.set_cons_succ])
              refine anyE_take (v := ?_) 6 rfl (by kernel_rfl) (by kernel_rfl) (by kernel_rfl) (by kernel_rfl) (by kernel_rfl) (fun _ _ _ h => h) (Or.inl ⟨by rfl, ?_⟩) (by assumption) ?_
              rotate_left
              · ((intro w' hSw); (try dsimp only at hSw); (try go_simp); (try with_reducible rfl))
              (try simp only [Act.put, List.setIfInBounds_toArray, List.set_cons_zero, List.set_cons_succ])
              refine anyE_takeW (v := ?_) 7 rfl (by kernel_rfl) (by kernel_rfl) (by kernel_rfl) (by decide) (fun _ _ _ h => h) (Or.inl ⟨by rfl, ?_⟩) (by assumption) ?_
              rotate_left
              · ((intro w'); (try go_simp); (try with_reducible rfl))
              (try simp only [Act.put, List.setIfInBounds_toArray, List.set_cons_zero, List.set_cons_succ])
              refine anyE_takeW (v := ?_) 8 rfl (by kernel_rfl) (by kernel_rfl) (by kernel_rfl) (by decide) (fun _ _ _ h => h) (Or.inl ⟨by rfl, ?_⟩) (by assumption) ?_
              rotate_left
              · ((intro w'); (try go_simp); (try with_reducible rfl))
              (try simp only [Act.put, List.setIfInBounds_toArray, List.set_cons_zero, List.set_cons_succ])
              refine anyE_takeW (v := ?_) 9 rfl (by kernel_rfl) (by kernel_rfl) (by kernel_rfl) (by decide) (fun _ _ _ h => h) (Or.inl ⟨by rfl, ?_⟩) (by assumption) ?_
              rotate_left
              · ((intro w'); (try go_simp); (try with_reducible rfl))
              (try simp only [Act.put, List.setIfInBounds_toArray, List.set_cons_zero, List.set_cons_succ])
              refine anyE_step 10 (by kernel_rfl) rfl (fun K hK => ?_)
              go_simp
              (go_at_call 65; refine (HOD.out _).mono ?_)
              rintro e wz ⟨rfl, hEz⟩
              go_wp2_with fail
              refine hK.out _ _ ⟨(hEz).cell hHeld.1, (hEz).cell hHeld.2.1, Ext.trans hHeld.2.2.out (hEz)⟩ (fun hHeld => ?_)
              clear hK K
              (try simp only [Act.put, List.setIfInBounds_toArray, List.set_cons_zero, List.set_cons_succ])
              refine anyE_step 11 (by kernel_rfl) rfl (fun K hK => ?_)
              go_simp
              (go_at_call 62; refine (HSG.out _).mono ?_)
              rintro e wy ⟨rfl, hEz⟩
              go_wp2_with fail
              refine hK.out _ _ ⟨(hEz).cell hHeld.1, (hEz).cell hHeld.2.1, Ext.trans hHeld.2.2.out (hEz)⟩ (fun hHeld => ?_)
              clear hK K
              (try simp only [Act.put, List.setIfInBounds_toArray, List.set_cons_zero, List.set_cons_succ])
              have HWY : Hid (Ext wp wy) := hHeld.2.2
              refine anyE_last 12 (by kernel_rfl) (by kernel_rfl) (by kernel_rfl) rfl (fun K hK => ?_)
              go_simp
              refine hK.out _ _ ?_
              clear hK K
              (try simp only [Act.put, List.setIfInBounds_toArray, List.set_cons_zero, List.set_cons_succ])
              go_wp2_with fail
              go_meet
              exact ⟨rfl, HWY.out⟩
          case rest =>
          obtain ⟨rfl, HE5⟩ := hcut
          clear f1 f2
          obtain ⟨w5, rfl⟩ : ∃ w5 : World, w5 = wc := ⟨_, rfl⟩
          have HB5 := Lib.hid (HBu.out.ext HE5.out)
          have hs5 : wo.heap.size ≤ w5.heap.size := Nat.le_trans hszq HE5.out.size
          go_wp2_with (at_builtin; go_must (refine wpList_append_build _ rfl _ _ 119 rfl wo.heap.size 53 (.string ⟨#[]⟩) 1 16 Tryz.underlying119 infoBigI rfl (by decide) u8 numC ((L.map (kerCell n k X i)).take j) x #[.string (intB x)] 53 rfl HB5.out rfl rfl ?e1 (fun _ _ => rfl) HJ.out (by decide) hs5 ?_))
          case e1 => simp [Value.oneCell']
          intro v' w6 hB6 hg6 hb6 hs6 _
          rw [← HNX.out] at hB6
          have HB6 := Lib.hid hB6
          have HX6 := Lib.hid (Below.trans (HEq.out.trans HE5.out) hb6)
          clear hB6 hg6 hb6
          go_wp2_with fail
          go_roundw
          case rel => exact ⟨j + 1, by omega, by go_num, HX6.out, HB6.out⟩
          case measure => simp [intOf]; omega
        · obtain rfl : j = S := by omega
          have hB := HBu.out
          rw [List.take_of_length_le (by rw [List.length_map, HLS.out]; exact Nat.le_refl _)] at hB
          have HBL := Lib.hid hB
          have HRP : Hid (∀ W v, ListAt 1 numC W v [0] → Calls Tryz.prog 89 #[v, .int .i64 (n : Int)] W fun e w' => ∃ g, e = .returned (.slice (some ⟨g, 0, none⟩) n n) ∧ w'.heap[g]? = some (.cells (repI 0 n n).toArray 53 (0, 0)) ∧ W.heap.size ≤ g ∧ Ext W w') := fun W v hv => repeatI_any 0 n (by have := HN.out; omega) v W hv
          obtain ⟨wl, hwl⟩ : ∃ wl, wp.alloc (.cells #[.string ⟨#[48]⟩] 53) = wl := ⟨_, rfl⟩
          have HLIT := Lib.hid (nums_lit1 wp)
          rw [hwl] at HLIT
          have HEl : Hid (Ext wp wl) := by rw [← hwl]; exact Ext.alloc _ _
          clear hB HBu hEq
          go_wp2_with fail
          refine (HRP.out _ _ HLIT.out).mono ?_
          rintro e w5 ⟨gz, rfl, hbz, hgz, h5⟩
          have hRz : RowB w5 gz 0 (List.replicate n 0) := (rep_strs 0 n rfl).row (by simp) hbz
          have h49 : intB 1 = ⟨#[49]⟩ := by decide +kernel
          have hE2 : Ext wp w5 := HEl.out.trans h5
          have hgz2 : wp.heap.size ≤ gz := Nat.le_trans HEl.out.size hgz
          have HE3b : Hid (Ext wp (w5.setCell ⟨gz, i, none⟩ (.string (intB 1)))) := hE2.setCell hgz2 _
          have hRS := hRz.set i (by simpa using hlt) 1
          have gz1 := hRz.cell i 0 (by rw [List.getElem?_replicate, if_pos hlt])
          have gz2 := hRz.free i
          rw [Nat.zero_add] at gz1 hRS
          rw [h49] at HE3b hRS
          have HRZ := Lib.hid hRS
          have HB3b := Lib.hid (HBL.out.ext HE3b.out)
          have hs3 := HE3b.out.size
          have hs0 := HE.out.size
          have hs1 := HEq.out.size
          clear hRz hRS hE2 h5 HRP hwl HLIT hbz
          go_wp2_with (at_builtin; go_must (refine wpList_append_nums _ rfl _ _ rfl wo.heap.size u8 _ _ rfl HB3b.out gz n n ?n1 rfl HRZ.out ?n2 hn1 ?n3 ?_))
          case n1 => simp
          case n2 => rw [List.length_map, HLS.out]; have := HN.out; omega
          case n3 => omega
          intro w4 gr cr hR4 hgr hcr hcr2 hb4
          have HR4 : Hid (RowB w4 gr 0 (kerRow n k X i)) := by unfold Hid kerRow unitL; rw [HLL.out]; exact hR4
          have HE4 := Lib.hid (Below.trans (Ext.trans HEq.out HE3b.out) hb4)
          have HEX := Lib.hid (Ext.trans HE.out HE4.out)
          have HL4 := Lib.hid (HL.out.ext HE4.out)
          have hszr := HEX.out.size
          have HLN : Hid ((kerRow n k X i).length = j + n) := by unfold Hid; rw [kerRow_len, HLL.out, HLS.out]
          have HJ : Hid (((kerM n k X).take i).length = i) := by unfold Hid; rw [List.length_take, kerM_len]; omega
          have HV1 : Hid (u6.ownBlock ≠ some gr) := fun e => by have := (HL.out.own.lt gr e).2; omega
          have HN1 : Hid (gr ∉ tagsO.map (·.1)) := fun hm => by
            obtain ⟨t, ht, e⟩ := List.mem_map.1 hm
            obtain ⟨i9, hi9⟩ := List.getElem?_of_mem ht
            have hl : i9 < ((kerM n k X).take i).length := by rw [← HL.out.len]; exact (List.getElem?_eq_some_iff.1 hi9).1
            have := (HL.out.row i9 t _ hi9 (List.getElem?_eq_getElem hl)).2.2.1.lt
            omega
          (try rw [List.length_map] at hcr)
          (try rw [List.length_map])
          rw [HLS.out] at hcr ⊢
          have HE0 : Hid (#[Value.slice (some ⟨gr, 0, none⟩) (j + n) cr] = #[tagW (gr, 0, cr) (kerRow n k X i).length]) := by unfold Hid tagW; rw [HLN.out]
          have HCR : Hid ((kerRow n k X i).length ≤ cr) := by
            unfold Hid; rw [HLN.out]; exact hcr
          have HGR : Hid (w3.heap.size ≤ gr) := by unfold Hid; omega
          have HJ6 : Hid (((kerM n k X).take i).length < 1000000) := by unfold Hid; rw [HJ.out]; have := HN.out; omega
          clear hR4 hb4 hcr
          go_wp2_with (at_builtin; go_must (refine wpList_append_line _ rfl _ _ rfl w3.heap.size w3.heap.size u6 tagsO ((kerM n k X).take i) (gr, 0, cr) (kerRow n k X i) #[.slice (some ⟨gr, 0, none⟩) (j + n) cr] 119 rfl HL4.out rfl HE0.out HCR.out hcr2 HR4.out HGR.out HV1.out HN1.out HJ6.out hszr ?_))
          intro v' w6 hB6 hb6 hv6
          have hB6 : LinesB w6 w3.heap.size w3.heap.size v' (tagsO ++ [(gr, 0, cr)]) ((kerM n k X).take (i + 1)) := by rw [HROW.out]; exact hB6
          have HB6 := Lib.hid hB6
          have HX6 := Lib.hid (Below.trans HEX.out hb6)
          have HV6 : Hid (v' = .slice none 0 0 ∧ i + 1 = 0 ∨ ∃ g q, v' = .slice (some ⟨g, 0, none⟩) (i + 1) q) := by
            obtain ⟨g, q, hv⟩ := hv6.out
            refine .inr ⟨g, q, ?_⟩
            have hj9 := HJ.out
            rw [List.length_take] at hj9
            rw [hv]; first | rw [HJ.out] | rw [hj9] | (simp only [List.length_take]; rw [hj9])
          clear hB6 hb6 hv6
          go_wp2_with fail
          go_roundw
          case rel => exact ⟨i + 1, _, by omega, by go_num, HX6.out, HB6.out, HV6.out⟩
          case measure => simp [intOf]; omega
    · obtain rfl : i = n := by omega
      skip
      have hL := HL.out
      rw [List.take_of_length_le (by rw [kerM_len]; exact Nat.le_refl _)] at hL
      rcases HV.out with ⟨-, h0⟩ | ⟨g, cc, rfl⟩
      · omega
      have hwl : (kerM i k X).length = i := kerM_len i k X
      have hL2 : LinesB wo w3.heap.size w3.heap.size (.slice (some ⟨g, 0, none⟩) (kerM i k X).length cc) tagsO (kerM i k X) := by
        rw [hwl]; exact hL
      obtain ⟨hMM, hc2', hc3', hbb⟩ := hL2.mat (Nat.le_refl _)
      rw [hwl] at hc2'
      have HMM := Lib.hid hMM
      have HBB := Lib.hid hbb
      have hszw := HE.out.size
      have hszw3 := HE3.out.size
      have HGG : Hid (w3.heap.size ≤ g) := hbb g (List.mem_cons_self ..)
      have HCC : Hid (i ≤ cc ∧ cc ≤ maxLen) := ⟨hc2', hc3'⟩
      unfold maxLen at hc3'
      clear hL hL2 HL HV hMM hbb hE
      go_wp2_with fail
      go_loopw [14, 87] (fun s14 t wr => ∃ (c d : Nat) (m1 : List (List Int)) (tags1 : List (Nat × Nat × Nat)), c ≤ S ∧ d ≤ i ∧ t = .int .i64 c ∧ s14 = .int .i64 d ∧ Hid (GrownS (· = g) wo wr) ∧ Hid (MatB wr g tags1 m1) ∧ Hid (kerCols (S + i) F (kerM i k X) c = some (m1, d)) ∧ Hid (∀ t ∈ tags1, w3.heap.size ≤ t.1)) (fun _ t _ => S - (intOf t).toNat)
      case atStart => exact ⟨0, 0, _, tagsO, by omega, by omega, rfl, rfl, GrownS.refl _ _, HMM.out, rfl, fun t ht => HBB.out t.1 (List.mem_cons_of_mem _ (List.mem_map.2 ⟨t, ht, rfl⟩))⟩
      case round =>
        obtain ⟨c, d, m1, tags1, hcS, hdi, rfl, rfl, HG, HM1, HK1, HT1⟩ := hrel
        obtain ⟨wp, rfl⟩ : ∃ wp : World, wp = wr := ⟨_, rfl⟩
        have hml := kerCols_len c HK1.out
        rw [hwl] at hml
        by_cases hcl : c < S
        · obtain ⟨z, hz⟩ := kerCols_some HKC.out (c + 1) (by omega)
          rw [kerCols_succ, HK1.out] at hz
          simp only at hz
          cases hcw : colW (S + i) c d F m1 with
          | none => rw [hcw] at hz; cases hz
          | some y =>
          obtain ⟨m2, p⟩ := y
          rw [hcw] at hz
          have hK2 : kerCols (S + i) F (kerM i k X) (c + 1) = some (m2, if p then d + 1 else d) := by rw [kerCols_succ, HK1.out]; simp only; rw [hcw]
          have HK2 := Lib.hid hK2
          have hd2 := (colW_len hcw (by omega))
          have hPW : Pow10 wp := (HT.out.ext (HE3.out.trans HE.out)).below (HG.out.below (base := w3.heap.size) HE.out.size (fun q hq => by rw [hq]; exact HGG.out)) (by have := HPB.out; have := HE3.out.size; omega)
          have HCO := Lib.hid (column_any (S + i) F c d m1 tags1 g cc wp (m2, p) HM1.out hcw (by rw [hml.1]; exact HCC.out.1) HCC.out.2 (by rw [hml.1]; exact hdi) (by omega) (by omega) hPW (by have := HPB.out; have := HE3.out.size; have := HGG.out; omega))
          rw [hml.1] at HCO hd2
          have HD2 : Hid (m2.length = i ∧ (p = true → d < i)) := ⟨hd2.1, hd2.2.1⟩
          clear hz hcw hK2 hd2 hml hPW
          go_wp2_with fail
          refine HCO.out.mono ?_
          rintro e w5 ⟨tags5, rfl, hM5, hT5, hG5⟩
          have HM5 := Lib.hid hM5
          have HG5 : Hid (GrownS (· = g) wo w5) := HG.out.trans hG5
          have HT5 : Hid (∀ t ∈ tags5, w3.heap.size ≤ t.1) := fun t ht => by
            rcases hT5 t ht with e | e
            · exact HT1.out t e
            · have := HG.out.size; omega
          clear hM5 hT5 hG5 HCO HM1 HT1 HK1
          cases p with
          | false =>
            go_wp2_with fail
            go_roundw
            case rel => exact ⟨c + 1, d, m2, tags5, by omega, by omega, by go_num, rfl, HG5.out, HM5.out, HK2.out, HT5.out⟩
            case measure => simp [intOf]; omega
          | true =>
            have hdl := HD2.out.2 rfl
            go_wp2_with fail
            go_roundw
            case rel => exact ⟨c + 1, d + 1, m2, tags5, by omega, by omega, by go_num, by go_num, HG5.out, HM5.out, HK2.out, HT5.out⟩
            case measure => simp [intOf]; omega
        · obtain rfl : c = S := by omega
          have hk9 := HK1.out
          rw [HKC.out] at hk9
          simp only [Option.some.injEq, Prod.mk.injEq] at hk9
          obtain ⟨rfl, rfl⟩ := hk9
          obtain ⟨w8, hw8⟩ : ∃ w8, w8 = wp := ⟨_, rfl⟩
          obtain rfl := hw8
          obtain ⟨ld, hld⟩ : ∃ ld, i - df = ld := ⟨_, rfl⟩
          have hml1 : mf.length = i := hml.1
          have HRL : Hid (R.length = ld) := by unfold Hid; rw [HRE.out, List.length_map, List.length_drop, hml1]; exact hld
          obtain ⟨cd, hcd⟩ : ∃ cd, cc - df = cd := ⟨_, rfl⟩
          obtain ⟨oq, hoff, hoq⟩ : ∃ oq, (if cc = df then (some ⟨g, 0, none⟩ : Option Addr) else some ⟨g, df, none⟩) = some ⟨g, oq, none⟩ ∧ (df < i → oq = df) := by
            by_cases hcq : cc = df
            · exact ⟨0, if_pos hcq, fun h => by have := HCC.out.1; omega⟩
            · exact ⟨df, if_neg hcq, fun _ => rfl⟩
          have HOQ := Lib.hid hoq
          have c71 : (df : Int) ≤ (i : Int) := by omega
          have c72 : (df : Int) ≤ (cc : Int) := by have := HCC.out.1; omega
          have c73 : (0 : Int) ≤ (df : Int) := by omega
          have hdcc : df ≤ cc := by have := HCC.out.1; omega
          have HOK2 : Hid (∀ j, j < i → (rowE_ mf j).length = c + i) := by
            have h9 := kerCols_lens (N := c + i) (F := F) (m := kerM i k X) (fun j hj => by rw [kerM_lens i k X j hj, HLL.out, HLS.out]) c HKC.out
            rw [hml1] at h9; exact h9
          have HML : Hid (mf.length = i) := hml1
          have HE8 : Hid (Ext w w8) := by
            have h8 : Below w3.heap.size wo w8 := HG.out.below (base := w3.heap.size) HE.out.size (fun q hq => by rw [hq]; exact HGG.out)
            exact Below.trans (HE3.out.trans HE.out) (Below.mono h8 HE3.out.size)
          have HS8 : Hid (w3.heap.size ≤ w8.heap.size) := Nat.le_trans HE.out.size HG.out.size
          have HW3 : Hid (w.heap.size ≤ w3.heap.size) := HE3.out.size
          obtain ⟨MM, hMM⟩ : ∃ MM, (mf.drop df).map (·.drop c) = MM := ⟨_, rfl⟩
          obtain ⟨TT, hTT⟩ : ∃ TT, (tags1.drop df).map (cutW c) = TT := ⟨_, rfl⟩
          have HNXA : Hid (∀ j, df + j < mf.length → MM.take (j + 1) = MM.take j ++ [(rowE_ mf (df + j)).drop c]) := fun j hj => by rw [← hMM]; exact cutL_step hj
          have HNTA : Hid (∀ j t, tags1[df + j]? = some t → TT.take (j + 1) = TT.take j ++ [cutW c t]) := fun j t ht => by rw [← hTT]; exact cutT_step ht
          have HFRA : Hid (∀ j t, tags1[df + j]? = some t → (cutW c t).1 ∉ (TT.take j).map (·.1)) := fun j t ht => by rw [← hTT]; exact cutT_fresh HM1.out ht
          have HMLA : Hid (MM.length = ld) := by unfold Hid; rw [← hMM, List.length_map, List.length_drop, HML.out]; exact hld
          have HMMR : Hid (MM = R) := by unfold Hid; rw [← hMM]; exact HRE.out.symm
          clear hoq hml hml1 HG HKC HK1 hMM hTT HRE
          go_wp2_with fail
          go_loopw [16, 101] (fun out t wr => ∃ (j : Nat), j ≤ ld ∧ t = .int .i64 j ∧ Hid (Ext w8 wr) ∧ Hid (LinesB wr w8.heap.size w3.heap.size out (TT.take j) (MM.take j)) ∧ Hid (out = .slice none 0 0 ∧ j = 0 ∨ ∃ g q, out = .slice (some ⟨g, 0, none⟩) j q)) (fun _ t _ => ld - (intOf t).toNat)
          case atStart => exact ⟨0, by omega, rfl, Ext.refl _, LinesB.nil _ _ _, .inl ⟨rfl, rfl⟩⟩
          case round =>
            obtain ⟨j, hj, rfl, HX, HL, HV⟩ := hrel
            obtain ⟨wq, rfl⟩ : ∃ wq : World, wq = wr := ⟨_, rfl⟩
            by_cases hjl : j < ld
            · obtain ⟨t, ht, c1, c2, c3, c4, c5⟩ := (HM1.out.ext HX.out).get (df + j) (by rw [HML.out]; omega)
              have ht8 := HT1.out t (List.mem_of_getElem? ht)
              have hob : t.1 < w8.heap.size := HM1.out.blt (List.mem_cons_of_mem _ (List.mem_map.2 ⟨t, List.mem_of_getElem? ht, rfl⟩))
              obtain rfl : oq = df := HOQ.out (by omega)
              rw [HOK2.out (oq + j) (by omega)] at c1 c2
              have HNX := Lib.hid (HNXA.out j (by rw [HML.out]; omega))
              have HNT := Lib.hid (HNTA.out j _ ht)
              have HFR := Lib.hid (HFRA.out j _ ht)
              have HRW : Hid (RowB wq (cutW c t).1 (cutW c t).2.1 ((rowE_ mf (oq + j)).drop c)) := c4.dropW c
              have HRLN : Hid (((rowE_ mf (oq + j)).drop c).length = i) := by unfold Hid; rw [List.length_drop, HOK2.out (oq + j) (by omega)]; omega
              have HCW : Hid (i ≤ (cutW c t).2.2 ∧ (cutW c t).2.2 ≤ maxLen) := by
                have h9 : (cutW c t).2.2 = t.2.2 - c := rfl
                unfold Hid; rw [h9]; omega
              have HVB : Hid (u16.ownBlock ≠ some (cutW c t).1) := fun e => by
                have h9 := (HL.out.own.lt _ e).1
                have h10 : (cutW c t).1 = t.1 := rfl
                omega
              have HBS : Hid (w3.heap.size ≤ (cutW c t).1) := ht8
              have HJL : Hid ((MM.take j).length = j) := by unfold Hid; rw [List.length_take, HMLA.out]; omega
              have HJL6 : Hid ((MM.take j).length < 1000000) := by unfold Hid; rw [HJL.out]; have := HN.out; omega
              obtain ⟨bt, ot, ct⟩ := t
              simp only at c1 c2 c3
              have hct1 : ¬ ct = c := by omega
              have hct2 : (c : Int) ≤ ((c + i : Nat) : Int) := by omega
              have hct3 : (c : Int) ≤ (ct : Int) := by omega
              have HE0 : Hid (#[Value.slice (some ⟨bt, ot + c, none⟩) i (ct - c)] = #[tagW (cutW c (bt, ot, ct)) ((rowE_ mf (oq + j)).drop c).length]) := by unfold Hid tagW; rw [HRLN.out]; rfl
              have HR1 : Hid (((rowE_ mf (oq + j)).drop c).length ≤ (cutW c (bt, ot, ct)).2.2) := by unfold Hid; rw [HRLN.out]; exact HCW.out.1
              unfold maxLen at c3
              have hszr : w8.heap.size ≤ wq.heap.size := HX.out.size
              have c9 : c + i - c = i := by omega
              have hjn : (j : Int) < (ld : Int) := by omega
              obtain ⟨rj, hrj⟩ : ∃ rj, (rowE_ mf (oq + j)).drop c = rj := ⟨_, rfl⟩
              rw [hrj] at HNX HRW HRLN HE0 HR1
              clear ht c4 c5 ht8 hob hrj
              go_wp2_with (at_builtin; go_must (refine wpList_append_line _ rfl _ _ rfl w8.heap.size w3.heap.size u16 (TT.take j) (MM.take j) (cutW c (bt, ot, ct)) rj #[.slice (some ⟨bt, ot + c, none⟩) i (ct - c)] 119 rfl HL.out rfl HE0.out HR1.out HCW.out.2 HRW.out HBS.out HVB.out HFR.out HJL6.out hszr ?_))
              intro v' w5 hB5 hb5 hv5
              rw [← HNX.out, ← HNT.out] at hB5
              have HB5 := Lib.hid hB5
              have HX5 : Hid (Ext w8 w5) := Below.trans HX.out hb5
              have HV5 : Hid (v' = .slice none 0 0 ∧ j + 1 = 0 ∨ ∃ g q, v' = .slice (some ⟨g, 0, none⟩) (j + 1) q) := by
                obtain ⟨g, q, hv⟩ := hv5.out
                refine .inr ⟨g, q, ?_⟩
                have hj9 := HJL.out
                rw [List.length_take] at hj9
                rw [hv]; first | rw [HJL.out] | rw [hj9] | (simp only [List.length_take]; rw [hj9])
              clear hB5 hb5 hv5
              go_wp2_with fail
              go_roundw
              case rel => exact ⟨j + 1, by omega, by go_num, HX5.out, HB5.out, HV5.out⟩
              case measure => simp [intOf]; omega
            · obtain rfl : j = ld := by omega
              have HF : Hid (ResW wq w.heap.size u16 R) := by
                have hL := HL.out
                have e1 : MM.take j = R := by
                  rw [HMMR.out]; exact List.take_of_length_le (by rw [HRL.out]; exact Nat.le_refl _)
                rw [e1] at hL
                rcases HV.out with ⟨hv, h0⟩ | ⟨gq, q, hv⟩
                · refine ⟨none, 0, by rw [hv, HRL.out, h0], by rw [HRL.out, h0]; exact Nat.le_refl _, Nat.zero_le _, .inl (List.eq_nil_of_length_eq_zero (by rw [HRL.out]; exact h0))⟩
                · rw [hv] at hL
                  have hL3 : LinesB wq w8.heap.size w3.heap.size (.slice (some ⟨gq, 0, none⟩) R.length q) (TT.take j) R := by rw [HRL.out]; exact hL
                  obtain ⟨m1, m2, m3, m4⟩ := hL3.mat HS8.out
                  exact ⟨_, q, by rw [hv, HRL.out], m2, m3, .inr ⟨gq, _, rfl, m1, fun b hb => Nat.le_trans HW3.out (m4 b hb)⟩⟩
              have HE9 : Hid (Ext w wq) := HE8.out.trans HX.out
              clear HL HV
              go_wp2_with fail
              go_ret
              exact ⟨_, rfl, HF.out, HE9.out⟩
end Go.Proofs.YtjlkkofmojgipaaGreatDoor
