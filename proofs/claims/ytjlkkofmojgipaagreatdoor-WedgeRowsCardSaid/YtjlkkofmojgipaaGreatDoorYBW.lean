import Derived.Test.YtjlkkofmojgipaaGreatDoorYBV
import Derived.Test.YtjlkkofmojgipaaGreatDoorYBT
import Derived.Test.YtjlkkofmojgipaaGreatDoorYBU
import Derived.Test.YtjlkkofmojgipaaGreatDoorYAV
import Derived.Test.YtjlkkofmojgipaaGreatDoorYAM
namespace Go.Proofs.YtjlkkofmojgipaaGreatDoor
set_option linter.unusedVariables false
set_option linter.unusedSimpArgs false
open Go.RowKit
set_option maxRecDepth 100000 in
theorem elim0_any (a:Option Addr) (l cp n:Nat) (w:World) (h0:n=0∨l=0) :
  Calls Tryz.prog 84 #[.slice a l cp,.int .i64 n] w fun e w'=>e=.returned (.tuple #[.slice none 0 0,.string ⟨#[49]⟩,.bool false])∧Ext w w':=by
 rcases h0 with rfl | rfl
 ·go_enter Tryz.func84,Tryz.ntmps84
  go_wp2_with fail
  go_loopw [10,7,8,9] (fun t p la od wr=>t=.int .i64 0∧p=.slice none 0 0∧la=.string ⟨#[49]⟩∧od=.bool false∧wr=w) (fun t _ _ _ _=>0)
  case atStart=>exact ⟨rfl,rfl,rfl,rfl,rfl⟩
  case round =>
   obtain ⟨rfl,rfl,rfl,rfl,rfl⟩:=hrel
   go_wp2_with fail
   go_ret3
   exact ⟨rfl,Ext.refl _⟩
 ·by_cases hn:n=0
  ·subst hn
   go_enter Tryz.func84,Tryz.ntmps84
   go_wp2_with fail
   go_loopw [10,7,8,9] (fun t p la od wr=>t=.int .i64 0∧p=.slice none 0 0∧la=.string ⟨#[49]⟩∧od=.bool false∧wr=w) (fun t _ _ _ _=>0)
   case atStart=>exact ⟨rfl,rfl,rfl,rfl,rfl⟩
   case round =>
    obtain ⟨rfl,rfl,rfl,rfl,rfl⟩:=hrel
    go_wp2_with fail
    go_ret3
    exact ⟨rfl,Ext.refl _⟩
  ·have z1:(0:Int)<(n:Int):=by omega
   go_enter Tryz.func84,Tryz.ntmps84
   go_wp2_with fail
   go_loopw [10,7,8,9] (fun t p la od wr=>t=.int .i64 0∧p=.slice none 0 0∧la=.string ⟨#[49]⟩∧od=.bool false∧wr=w) (fun t _ _ _ _=>0)
   case atStart=>exact ⟨rfl,rfl,rfl,rfl,rfl⟩
   case round =>
    obtain ⟨rfl,rfl,rfl,rfl,rfl⟩:=hrel
    go_wp2_with fail
    go_ret3
    exact ⟨rfl,Ext.refl _⟩
theorem tab_rectI {xss:List (List Int)} (hE:tabE xss=0):RectI (colsN xss) xss:=fun r hr=>((tabE_zero hE).2 r hr).1
theorem tab_le9 {xss:List (List Int)} (hE:tabE xss=0) (i j:Nat):IntLe 1000000000 (elQ (matQ xss) i j):=matQ_el (fun r hr a ha=>((tabE_zero hE).2 r hr).2.2 a ha) i j
theorem elimB_any (xss:List (List Int)) (u:Value) (tags:List (Nat×Nat)) (n B:Nat) (wb w:World) (hE:tabE xss=0) (hn:n≤colsN xss) (hpos:0<xss.length) (hO:RowsO numK 29 w B B u tags xss) (hwb:Ext wb w) (ht:Pow10 wb) (hB:wb.heap.size≤B) :
  Calls Tryz.prog 84 #[u,.int .i64 n] w fun e w'=>∃ v,e=.returned (.tuple #[v,.string (intB (barTo xss n).last),.bool (barTo xss n).odd])∧OwnI w.heap.size w' v (barTo xss n).lead∧Ext wb w':=by
 obtain ⟨hl,hrr⟩:=tabE_zero hE
 have hc12:colsN xss≤12:=by
  cases xss with
  | nil=>simp at hpos
  | cons r l=>exact (hrr r (by simp)).2.1
 rcases hO.own.2 with ⟨hv,h0⟩ | ⟨g,cap,cur,hv,-⟩
 ·omega
 ·subst hv
  obtain ⟨hM,h1,h2,h3⟩:=hO.matN (Nat.le_refl _)
  refine (elim_any xss g cap n (colsN xss) tags wb w hM (tab_rectI hE) hn (by omega) (by omega) h1 h2 (elOK_of (tab_rectI hE) hl (tab_le9 hE) n) hwb ht (fun b hb=>Nat.le_trans hB (h3 b hb))).mono ?_
  rintro e w' ⟨v,tags',g1,g2,g3,g4,g5⟩
  exact ⟨v,g1,g2,Below.trans hwb (g5.belowE (B:=wb.heap.size) (fun b hb=>Nat.le_trans hB (h3 b hb)) hwb.size)⟩
set_option maxRecDepth 100000 in
set_option maxHeartbeats 2000000 in
theorem refDet_any (xss : List (List Int)) (v : Value) (w : World) (h : Rows2 w v xss) (hE : tabE xss = 0) (hsq : colsN xss = xss.length) (ht : Pow10 w) :
    Calls Tryz.prog 112 #[v] w fun e w' => e = .returned (.string (intB (refDetI xss))) ∧ Ext w w' := by
  have HT := Lib.hid ht
  obtain ⟨hl, hrr⟩ := tabE_zero hE
  obtain ⟨a, c, rfl, h1, h2, -, -⟩ := inCell.open h
  unfold maxLen at h2
  by_cases hp : xss.length = 0
  · obtain rfl : xss = [] := List.length_eq_zero_iff.1 hp
    have HB : Hid (Calls Tryz.prog 97 #[.slice a 0 c] w fun e w' => ∃ b d, e = .returned (.slice b 0 d) ∧ Ext w w') := by
      refine (big_any [] 1 _ w h (by simp) (by omega) (by simp) (by omega) (by simp) ht).mono ?_
      rintro e w' ⟨u, tags, rfl, hO, hX⟩
      rcases hO.own.2 with ⟨hv, h0⟩ | ⟨g, cap, cur, hv, -⟩
      · exact ⟨none, 0, by rw [hv], hX⟩
      · exact ⟨_, cap, by rw [hv]; rfl, hX⟩
    clear h ht hE hrr
    go_enter Tryz.func112, Tryz.ntmps112
    go_wp2_with fail
    refine HB.out.mono ?_
    rintro e w1 ⟨b, d, rfl, hE1⟩
    have HE1 := Lib.hid hE1
    clear hE1
    go_wp2_with fail
    refine (elim0_any b 0 d 0 _ (.inl rfl)).mono ?_
    rintro e w2 ⟨rfl, hE2⟩
    have HE2 := Lib.hid (HE1.out.trans hE2)
    clear hE2
    go_wp2_with fail
    go_ret
    exact ⟨by rw [show intB (refDetI []) = ⟨#[49]⟩ by decide +kernel]; rfl, HE2.out⟩
  · have hpos : 0 < xss.length := by omega
    obtain ⟨L, hL⟩ : ∃ L, L = xss.length := ⟨_, rfl⟩
    have HB := Lib.hid (big_any xss (colsN xss) _ w h (tab_rectI hE) (by omega) (by omega) (by omega) (fun r hr => (hrr r hr).2.2) ht)
    have HEL : Hid (∀ u tags W, RowsO numK 29 W w.heap.size w.heap.size u tags xss → Ext w W → Calls Tryz.prog 84 #[u, .int .i64 L] W fun e w' => ∃ v, e = .returned (.tuple #[v, .string (intB (barTo xss L).last), .bool (barTo xss L).odd]) ∧ OwnI W.heap.size w' v (barTo xss L).lead ∧ Ext w w') := fun u tags W hO hW =>
      elimB_any xss u tags L w.heap.size w W hE (by omega) hpos hO hW ht (Nat.le_refl _)
    have HNG : Hid (∀ W, Calls Tryz.prog 72 #[.string (intB (barTo xss L).last)] W fun e w' => e = .returned (.string (intB (-(barTo xss L).last))) ∧ W = w') := fun W =>
      rNeg_any _ W (by have := (elOK_of (tab_rectI hE) hl (tab_le9 hE) L).lsz L (Nat.le_refl _); omega)
    have HRD : Hid (refDetI xss = if (barTo xss L).lead.length < L then 0 else if (barTo xss L).odd then - (barTo xss L).last else (barTo xss L).last) := by unfold Hid refDetI; rw [← hL]
    obtain ⟨la, hla⟩ : ∃ z, z = (barTo xss L).last := ⟨_, rfl⟩
    obtain ⟨od, hod⟩ : ∃ z, z = (barTo xss L).odd := ⟨_, rfl⟩
    obtain ⟨ld, hld⟩ : ∃ z, z = (barTo xss L).lead := ⟨_, rfl⟩
    obtain ⟨rd, hrd⟩ : ∃ z, z = refDetI xss := ⟨_, rfl⟩
    rw [← hla, ← hod, ← hld] at HEL HRD
    rw [← hla] at HNG
    rw [← hrd] at HRD ⊢
    rw [← hL] at h1 HB ⊢
    clear h ht hE hrr hla hod hld hrd hL
    go_enter Tryz.func112, Tryz.ntmps112
    go_wp2_with fail
    refine HB.out.mono ?_
    rintro e w1 ⟨u, tags, rfl, hO, hE1⟩
    have HO := Lib.hid hO; have HE1 := Lib.hid hE1
    clear hE1 hO
    go_wp2_with fail
    refine (HEL.out _ _ _ HO.out HE1.out).mono ?_
    rintro e w2 ⟨lv, rfl, hlv, hE2⟩
    have HE2 := Lib.hid hE2
    obtain ⟨al, cl, hlv', l1, l2⟩ := hlv.form
    subst hlv'
    clear hE2 hlv
    by_cases h3 : ld.length < L
    · have HR2 : Hid (rd = 0) := by unfold Hid; rw [HRD.out, if_pos h3]
      have z1 : (ld.length : Int) < (L : Int) := by omega
      clear h3
      go_wp2_with fail
      go_ret
      exact ⟨by rw [HR2.out, show intB 0 = ⟨#[48]⟩ by decide +kernel]; rfl, HE2.out⟩
    · have z1 : ¬ (ld.length : Int) < (L : Int) := by omega
      have HR2 := HRD.out
      rw [if_neg h3] at HR2
      have HR2 := Lib.hid HR2
      clear h3
      cases od with
      | true =>
        go_wp2_with fail
        refine (HNG.out _).mono ?_
        rintro e w3 ⟨rfl, rfl⟩
        go_wp2_with fail
        go_ret
        exact ⟨by rw [HR2.out]; rfl, HE2.out⟩
      | false =>
        go_wp2_with fail
        go_ret
        exact ⟨by rw [HR2.out]; rfl, HE2.out⟩
theorem partI_bdR {xss:List (List Int)} (hE:tabE xss=0) (R S:List Nat):∀ r∈partI xss R S,∀ x∈r,-9223372036854775808≤x∧x≤(9223372036854775807:Int):=fun r hr x hx=>by
 have:=part_fit hE R S r hr x hx;omega
theorem castS_get {L:List (List Nat)} {i:Nat} {S:List Nat} (h:L[i]?=some S):(castS L)[i]?=some (S.map fun x:Nat=>(x:Int)):=by unfold castS;rw [List.getElem?_map,h];rfl
theorem minAB_lenB (xss:List (List Int)) (k:Nat) (A B:List (List Nat)) (i j:Nat):(minAB xss k A B i j).length≤A.length*B.length+B.length:=by
 unfold minAB
 rw [List.length_append]
 have h1:((A.take i).flatMap fun R=>B.map fun S=>minorOf xss k R S).length≤A.length*B.length:=by
  rw [length_flatMap_const _ B.length (fun R=>by simp)]
  exact Nat.mul_le_mul_right _ (by rw [List.length_take];omega)
 refine Nat.add_le_add h1 ?_
 cases A[i]? with
 | none=>simp
 | some R=>simp only [List.length_map,List.length_take];omega
theorem choose_924:∀ n,n<13→∀ k,k<13→chooseS n k≤924:=by decide +kernel
set_option maxRecDepth 100000 in
set_option maxHeartbeats 4000000 in
theorem refMinors_any (xss:List (List Int)) (k:Nat) (v:Value) (w:World) (h:Rows2 w v xss) (hE:tabE xss=0) (hk1:k≤xss.length) (hk2:k≤colsN xss) (ht:Pow10 w) :
  Calls Tryz.prog 55 #[v,.int .i64 (k:Int)] w fun e w'=>∃ u,e=.returned u∧ListAt 1 numC w' u (minorsS xss k)∧Ext w w':=by
 have HT:=Lib.hid ht
 obtain ⟨hl,hrr⟩:=tabE_zero hE
 have hc12:colsN xss≤12:=by
  cases xss with
  | nil=>show 0≤12;omega
  | cons r l=>exact (hrr r (by simp)).2.1
 obtain ⟨A,hA⟩:∃ A,A=setsL xss.length k:=⟨_,rfl⟩
 obtain ⟨B,hB⟩:∃ B,B=setsL (colsN xss) k:=⟨_,rfl⟩
 have HMS:Hid (minorsS xss k=minAB xss k A B A.length 0):=by unfold Hid;rw [minAB_end,hA,hB];rfl
 obtain ⟨s1,s1c,-⟩:=sets_ok hl hk1
 have s1l:=choose_924 xss.length (by omega) k (by omega)
 rw [s1c] at s1l
 obtain ⟨s2,s2c,-⟩:=sets_ok hc12 hk2
 have s2l:=choose_924 (colsN xss) (by omega) k (by omega)
 rw [s2c] at s2l
 rw [← hA] at s1 s1l
 rw [← hB] at s2 s2l
 have HSA:Hid (∀ W,Calls Tryz.prog 33 #[.int .i64 (xss.length:Int),.int .i64 (k:Int)] W fun e w'=>∃ v,e=.returned v∧Rows2 w' v (castS A)∧Ext W w'):=fun W=>by rw [hA];exact refSets_any _ _ hl hk1 W
 have HSB:Hid (∀ W,Calls Tryz.prog 33 #[.int .i64 (colsN xss:Int),.int .i64 (k:Int)] W fun e w'=>∃ v,e=.returned v∧Rows2 w' v (castS B)∧Ext W w'):=fun W=>by rw [hB];exact refSets_any _ _ hc12 hk2 W
 have HCO:Hid (∀ W,Ext w W→Calls Tryz.prog 98 #[v] W fun e w'=>e=.returned (.int .i64 (colsN xss:Int))∧W=w'):=fun W hW=>refCols_any xss v W (h.ext hW)
 have HMI:Hid (∀ R∈A,∀ S∈B,tabE (partI xss R S)=0∧colsN (partI xss R S)=(partI xss R S).length∧refDetI (partI xss R S)=minorOf xss k R S):=fun R hR S hS =>
  ⟨part_tab hE (s1.len R hR) (s2.len S hS) (by omega),part_cols (s1.len R hR) (s2.len S hS),ref_minor hE (s1.len R hR) (s2.len S hS)⟩
 have HPAR:Hid (∀ R∈A,∀ S∈B,∀ vr vc W,Ext w W→Ints W vr (R.map fun x:Nat=>(x:Int))→Ints W vc (S.map fun x:Nat=>(x:Int))→Calls Tryz.prog 113 #[v,vr,vc] W fun e w'=>∃ u tags,e=.returned u∧RowsO intK 27 w' W.heap.size W.heap.size u tags (partI xss R S)∧Ext W w'):=fun R hR S hS vr vc W hW h1 h2 =>
  part_any xss R S (colsN xss) v vr vc W (h.ext hW) h1 h2 (by rw [s1.len R hR];omega) (by rw [s2.len S hS];omega) (s1.lt R hR) (s2.lt S hS) (fun r hr=>(hrr r hr).1) (by omega) (by omega)
 have HBDS:Hid (∀ R S,∀ r∈partI xss R S,∀ x∈r,-9223372036854775808≤x∧x≤(9223372036854775807:Int)):=fun R S=>partI_bdR hE R S
 have HLEN:Hid ((∀ R∈A,R.length=k)∧(∀ S∈B,S.length=k)∧A.length≤924∧B.length≤924):=⟨s1.len,s2.len,by omega,by omega⟩
 obtain ⟨a,c,rfl,x1,x2,-,-⟩:=inCell.open h
 unfold maxLen at x2
 obtain ⟨n,hn⟩:∃ n,n=xss.length:=⟨_,rfl⟩
 obtain ⟨m,hm⟩:∃ m,m=colsN xss:=⟨_,rfl⟩
 obtain ⟨MS,hMS⟩:∃ M,M=minorsS xss k:=⟨_,rfl⟩
 rw [← hMS] at HMS ⊢
 rw [← hn] at HSA HCO HPAR x1 ⊢
 rw [← hm] at HSB HCO
 clear h hE ht hrr hA hB s1 s2 s1l s2l s1c s2c hn hm hMS hk1 hk2
 go_enter Tryz.func55,Tryz.ntmps55
 go_wp2_with fail
 refine (HSA.out _).mono ?_
 rintro e w1 ⟨vA,rfl,hRA,hE1⟩
 have HRA1:=Lib.hid hRA;have HE1:=Lib.hid hE1
 clear hRA hE1
 go_wp2_with fail
 refine (HCO.out _ HE1.out).mono ?_
 rintro e w1' ⟨rfl,rfl⟩
 go_wp2_with fail
 refine (HSB.out _).mono ?_
 rintro e w2 ⟨vB,rfl,hRB,hE2⟩
 have HRA:=Lib.hid (HRA1.out.ext hE2)
 have HE2:=Lib.hid (HE1.out.trans hE2)
 obtain ⟨aA,cA,rfl,a1,a2,-,ha⟩:=inCell.open HRA.out
 obtain ⟨aB,cB,rfl,b1,b2,-,hb⟩:=inCell.open hRB
 have HA:=Lib.hid ha;have HB:=Lib.hid hb
 have hca:(castS A).length=A.length:=by simp [castS]
 have hcb:(castS B).length=B.length:=by simp [castS]
 rw [hca] at a1 ⊢
 rw [hcb] at b1 ⊢
 unfold maxLen at a2 b2
 clear hE2 hRB ha hb HRA1 hca hcb HSA HSB HCO
 obtain ⟨na,hna⟩:∃ n,n=A.length:=⟨_,rfl⟩
 obtain ⟨nb,hnb⟩:∃ n,n=B.length:=⟨_,rfl⟩
 have HNA:=Lib.hid hna;have HNB:=Lib.hid hnb
 rw [← hna] at a1 ⊢
 rw [← hnb] at b1 ⊢
 clear hna hnb
 go_wp2_with fail
 go_loopw [8,5] (fun t o wr=>∃ i:Nat,i≤na∧t=.int .i64 i∧Hid (Ext w2 wr)∧Hid (Build wr w2.heap.size 53 1 o numC (minAB xss k A B i 0))) (fun t _ _=>na-(intOf t).toNat)
 case atStart=>exact ⟨0,by omega,rfl,Ext.refl _,by rw [minAB_zero];exact Build.nil _ _ _ _ _⟩
 case round =>
  obtain ⟨i,hi,rfl,HEO,HBO⟩:=hrel
  obtain ⟨wo,rfl⟩:∃ wo:World,wo=wr:=⟨_,rfl⟩
  by_cases hlt:i<na
  ·obtain ⟨rr,hrr⟩:∃ y,A[i]?=some y:=⟨A[i]'(by rw [← HNA.out];exact hlt),List.getElem?_eq_getElem _⟩
   have HRM:Hid (rr∈A):=List.mem_of_getElem? hrr
   obtain ⟨ba,oa,rfl,-,hac⟩:=HA.out (by intro e;have:=congrArg List.length e;simp [castS] at this;have:=HNA.out;rw [‹A=[]›] at this;simp at this;omega)
   obtain ⟨vrr,hvr,hcr⟩:=hac i _ (castS_get hrr)
   obtain ⟨arr,crr,rfl,r1,r2,-,-,-⟩:=hvr.open
   have HVR:=Lib.hid hvr;have HCR:=Lib.hid hcr
   have hrl:(rr.map fun x:Nat=>(x:Int)).length=k:=by rw [List.length_map];exact HLEN.out.1 rr HRM.out
   rw [hrl] at HVR HCR r1
   have HROW:=Lib.hid (minAB_row (xss:=xss) (k:=k) (B:=B) hrr)
   have HGR:=Lib.hid hrr
   unfold maxLen at r2
   clear hac hvr hcr hrr hrl
   have hin:(i:Int)<(na:Int):=by omega
   go_wp2_with fail
   go_loopw [9,5] (fun t o wr=>∃ j:Nat,j≤nb∧t=.int .i64 j∧Hid (Ext w2 wr)∧Hid (Build wr w2.heap.size 53 1 o numC (minAB xss k A B i j))) (fun t _ _=>nb-(intOf t).toNat)
   case atStart=>exact ⟨0,by omega,rfl,HEO.out,HBO.out⟩
   case round =>
    obtain ⟨j,hj,rfl,HEI,HBI⟩:=hrel
    obtain ⟨wi,rfl⟩:∃ wi:World,wi=wr:=⟨_,rfl⟩
    by_cases hjl:j<nb
    ·obtain ⟨cc,hcc⟩:∃ y,B[j]?=some y:=⟨B[j]'(by rw [← HNB.out];exact hjl),List.getElem?_eq_getElem _⟩
     have HCM:Hid (cc∈B):=List.mem_of_getElem? hcc
     obtain ⟨bb,ob,rfl,-,hbc⟩:=HB.out (by intro e;have:=congrArg List.length e;simp [castS] at this;have:=HNB.out;rw [‹B=[]›] at this;simp at this;omega)
     obtain ⟨vcc,hvc,hcc2⟩:=hbc j _ (castS_get hcc)
     obtain ⟨acc,ccc,rfl,c1,c2,-,-,-⟩:=hvc.open
     have hcl:(cc.map fun x:Nat=>(x:Int)).length=k:=by rw [List.length_map];exact HLEN.out.2.1 cc HCM.out
     rw [hcl] at hvc hcc2 c1
     have HVC:=Lib.hid hvc
     have g1:=HEI.out.cell HCR.out
     have g2:=HEI.out.cell hcc2
     have HST:=Lib.hid (minAB_step (xss:=xss) (k:=k) HGR.out hcc)
     obtain ⟨m1,m2,m3⟩:=HMI.out rr HRM.out cc HCM.out
     have HM1:=Lib.hid m1;have HM2:=Lib.hid m2
     have HPB:=Lib.hid (HBDS.out rr cc)
     have HPA:Hid (∀ W,Ext wi W→Calls Tryz.prog 113 #[.slice a n c,.slice arr k crr,.slice acc k ccc] W fun e w'=>∃ u tags,e=.returned u∧RowsO intK 27 w' W.heap.size W.heap.size u tags (partI xss rr cc)∧Ext W w'):=fun W hW =>
      HPAR.out rr HRM.out cc HCM.out _ _ W ((HE2.out.trans HEI.out).trans hW) (HVR.out.ext (HEI.out.trans hW)) (HVC.out.ext (HEI.out.trans hW))
     have HDE:Hid (∀ u W,Rows2 W u (partI xss rr cc)→Ext wi W→Calls Tryz.prog 112 #[u] W fun e w'=>e=.returned (.string (intB (minorOf xss k rr cc)))∧Ext W w'):=fun u W hu hW=>by
      have:=refDet_any (partI xss rr cc) u W hu HM1.out HM2.out (HT.out.ext ((HE2.out.trans HEI.out).trans hW))
      rw [m3] at this;exact this
     have HLL:Hid ((minAB xss k A B i j).length<1000000):=by
      have:=minAB_lenB xss k A B i j
      have h2:=Nat.mul_le_mul HLEN.out.2.2.1 HLEN.out.2.2.2
      have:=HLEN.out.2.2
      unfold Hid;omega
     have HSZ:Hid (w2.heap.size≤wi.heap.size):=HEI.out.size
     have hjn:(j:Int)<(nb:Int):=by omega
     unfold maxLen at c2
     clear hcc hbc hvc hcc2 hcl m1 m2 m3
     go_upto_region 9 with fail
     refine region_anyE (fun w'=>w'.cell? ⟨ba,oa+i,none⟩=some (.slice arr k crr)∧w'.cell? ⟨bb,ob+j,none⟩=some (.slice acc k ccc)∧Hid (Ext wi w')) 13 (by kernel_rfl) ⟨(Ext.drew wi).cell g1,(Ext.drew wi).cell g2,Ext.drew wi⟩ (fun hHeld=>?_)
     refine anyE_takeW (v:=?_) 0 rfl (by kernel_rfl) (by kernel_rfl) (by kernel_rfl) (by decide) (fun _ _ _ h=>h) (Or.inl ⟨by rfl,?_⟩) (by assumption) ?_
     rotate_left
     ·((intro w');(try go_simp);(try with_reducible rfl))
     (try simp only [Act.put,List.setIfInBounds_toArray,List.set_cons_zero,List.set_cons_succ])
     refine anyE_takeW (v:=?_) 1 rfl (by kernel_rfl) (by kernel_rfl) (by kernel_rfl) (by decide) (fun _ _ _ h=>h) (Or.inl ⟨by rfl,?_⟩) (by assumption) ?_
     rotate_left
     ·((intro w');(try go_simp);(try with_reducible rfl))
     (try simp only [Act.put,List.setIfInBounds_toArray,List.set_cons_zero,List.set_cons_succ])
     refine anyE_takeW (v:=?_) 2 rfl (by kernel_rfl) (by kernel_rfl) (by kernel_rfl) (by decide) (fun _ _ _ h=>h) (Or.inl ⟨by rfl,?_⟩) (by assumption) ?_
     rotate_left
     ·((intro w');(try go_simp);(try with_reducible rfl))
     (try simp only [Act.put,List.setIfInBounds_toArray,List.set_cons_zero,List.set_cons_succ])
     refine anyE_takeW (v:=?_) 3 rfl (by kernel_rfl) (by kernel_rfl) (by kernel_rfl) (by decide) (fun _ _ _ h=>h) (Or.inl ⟨by rfl,?_⟩) (by assumption) ?_
     rotate_left
     ·((intro w');(try go_simp);(try with_reducible rfl))
     (try simp only [Act.put,List.setIfInBounds_toArray,List.set_cons_zero,List.set_cons_succ])
     refine anyE_takeW (v:=?_) 4 rfl (by kernel_rfl) (by kernel_rfl) (by kernel_rfl) (by decide) (fun _ _ _ h=>h) (Or.inl ⟨by rfl,?_⟩) (by assumption) ?_
     rotate_left
     ·((intro w');(try go_simp);(try with_reducible rfl))
     (try simp only [Act.put,List.setIfInBounds_toArray,List.set_cons_zero,List.set_cons_succ])
     refine anyE_take (v:=?_) 5 rfl (by kernel_rfl) (by kernel_rfl) (by kernel_rfl) (by kernel_rfl) (by kernel_rfl) (fun _ _ _ h=>h) (Or.inl ⟨by rfl,?_⟩) (by assumption) ?_
     rotate_left
     ·((intro w' hSw);(try dsimp only at hSw);(try go_simp);(try with_reducible rfl))
     (try simp only [Act.put,List.setIfInBounds_toArray,List.set_cons_zero,List.set_cons_succ])
     refine anyE_takeW (v:=?_) 6 rfl (by kernel_rfl) (by kernel_rfl) (by kernel_rfl) (by decide) (fun _ _ _ h=>h) (Or.inl ⟨by rfl,?_⟩) (by assumption) ?_
     rotate_left
     ·((intro w');(try go_simp);(try with_reducible rfl))
     (try simp only [Act.put,List.setIfInBounds_toArray,List.set_cons_zero,List.set_cons_succ])
     refine anyE_takeW (v:=?_) 7 rfl (by kernel_rfl) (by kernel_rfl) (by kernel_rfl) (by decide) (fun _ _ _ h=>h) (Or.inl ⟨by rfl,?_⟩) (by assumption) ?_
     rotate_left
     ·((intro w');(try go_simp);(try with_reducible rfl))
     (try simp only [Act.put,List.setIfInBounds_toArray,List.set_cons_zero,List.set_cons_succ])
     refine anyE_takeW (v:=?_) 8 rfl (by kernel_rfl) (by kernel_rfl) (by kernel_rfl) (by decide) (fun _ _ _ h=>h) (Or.inl ⟨by rfl,?_⟩) (by assumption) ?_
     rotate_left
     ·((intro w');(try go_simp);(try with_reducible rfl))
     (try simp only [Act.put,List.setIfInBounds_toArray,List.set_cons_zero,List.set_cons_succ])
     refine anyE_take (v:=?_) 9 rfl (by kernel_rfl) (by kernel_rfl) (by kernel_rfl) (by kernel_rfl) (by kernel_rfl) (fun _ _ _ h=>h) (Or.inl ⟨by rfl,?_⟩) (by assumption) ?_
     rotate_left
     ·((intro w' hSw);(try dsimp only at hSw);(try go_simp);(try with_reducible rfl))
     (try simp only [Act.put,List.setIfInBounds_toArray,List.set_cons_zero,List.set_cons_succ])
     refine anyE_step 10 (by kernel_rfl) rfl (fun K hK=>?_)
     go_simp
     (go_at_call 113;refine (HPA.out _ (hHeld.2.2.out)).mono ?_)
     rintro e wz ⟨u1,tg1,rfl,hO1,hEz⟩
     have HO1:=Lib.hid (hO1.rows2 HPB.out)
     clear hO1
     go_wp2_with fail
     refine hK.out _ _ ⟨(hEz).cell hHeld.1,(hEz).cell hHeld.2.1,Ext.trans hHeld.2.2.out (hEz)⟩ (fun hHeld=>?_)
     clear hK K
     (try simp only [Act.put,List.setIfInBounds_toArray,List.set_cons_zero,List.set_cons_succ])
     refine anyE_step 11 (by kernel_rfl) rfl (fun K hK=>?_)
     go_simp
     (go_at_call 112;refine (HDE.out _ _ HO1.out hHeld.2.2.out).mono ?_)
     rintro e wy ⟨rfl,hEz⟩
     go_wp2_with fail
     refine hK.out _ _ ⟨(hEz).cell hHeld.1,(hEz).cell hHeld.2.1,Ext.trans hHeld.2.2.out (hEz)⟩ (fun hHeld=>?_)
     clear hK K
     (try simp only [Act.put,List.setIfInBounds_toArray,List.set_cons_zero,List.set_cons_succ])
     have HWY:Hid (Ext wi wy):=hHeld.2.2
     refine anyE_step 12 (by kernel_rfl) rfl (fun K hK=>?_)
     go_simp
     refine hK.out _ _ ⟨(Ext.alloc _ _).cell hHeld.1,(Ext.alloc _ _).cell hHeld.2.1,Ext.trans hHeld.2.2.out (Ext.alloc _ _)⟩ (fun hHeld=>?_)
     clear hK K
     (try simp only [Act.put,List.setIfInBounds_toArray,List.set_cons_zero,List.set_cons_succ])
     refine anyE_stepZ 13 (by kernel_rfl) (by kernel_rfl) rfl (fun K hK=>?_)
     refine step_append_build wy (by rfl) _ _ 29 (by rfl) w2.heap.size 53 (.string ⟨#[]⟩) 1 16 Tryz.underlying29 infoNum (by rfl) (by decide) u5 numC (minAB xss k A B i j) (minorOf xss k rr cc) #[.string (intB (minorOf xss k rr cc))] 53 (by rfl) (HBI.out.ext (Hid.out (p:=Ext wi wy) (by assumption))) (by rfl) (by rfl) (by simp [Value.oneCell']) (fun _ _=>rfl) HLL.out (by decide) (Nat.le_trans HSZ.out (Hid.out (p:=Ext wi wy) (by assumption)).size) ?_
     intro v' w6 hB6 hg6 hb6 hs6 _
     rw [← HST.out] at hB6
     have HB6:=Lib.hid hB6
     have HX6:Hid (Ext w2 w6):=Below.trans (HEI.out.trans (Hid.out (p:=Ext wi wy) (by assumption))) hb6
     clear hB6 hg6 hb6
     refine hK.out _ _ ?_
     clear hK K
     (try simp only [Act.put,List.setIfInBounds_toArray,List.set_cons_zero,List.set_cons_succ])
     refine anyE_last 14 (by kernel_rfl) (by kernel_rfl) (by kernel_rfl) rfl (fun K hK=>?_)
     go_simp
     refine hK.out _ _ ?_
     clear hK K
     (try simp only [Act.put,List.setIfInBounds_toArray,List.set_cons_zero,List.set_cons_succ])
     go_wp2_with fail
     go_roundw
     case rel=>exact ⟨j+1,by omega,by go_num,HX6.out,HB6.out⟩
     case measure=>simp [intOf];omega
    ·obtain rfl:j=nb:=by omega
     rw [HNB.out,HROW.out] at HBI
     go_wp2_with fail
     go_roundw
     case rel=>exact ⟨i+1,by omega,by go_num,HEI.out,HBI.out⟩
     case measure=>simp [intOf];omega
  ·obtain rfl:i=na:=by omega
   rw [HNA.out,← HMS.out] at HBO
   have HX:=Lib.hid (HE2.out.trans HEO.out)
   go_wp2_with fail
   go_ret
   exact ⟨_,rfl,HBO.out.list,HX.out⟩
end Go.Proofs.YtjlkkofmojgipaaGreatDoor
