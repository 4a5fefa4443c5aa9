import Derived.Test.YtoonaddcfakamaaGreatDoorZAN
import Derived.Test.YtoonaddcfakamaaGreatDoorZAO
import Derived.Test.YtoonaddcfakamaaGreatDoorZAQ
import Derived.Test.YtoonaddcfakamaaGreatDoorZAR
import Derived.Test.YtoonaddcfakamaaGreatDoorZAT
import Derived.Test.YtoonaddcfakamaaGreatDoorRows
import Derived.WalkKit
import Derived.ProofKit
import Derived.OpenShut
import Derived.Test.YtoonaddcfakamaaGreatDoorZAA
import Derived.ChangeSlices
import Derived.Test.YtoonaddcfakamaaGreatDoorZAD
import Derived.LaidMore
import Derived.LaidLaws
import Derived.MakeChecks
import Derived.Lib.LaidTab
import Derived.Stop.Joined
import Derived.Stop.LaidErr
import Derived.Lay
import Derived.Test.YtoonaddcfakamaaGreatDoorTie
import Derived.Test.YtoonaddcfakamaaGreatDoorCards
import Derived.Test.YtoonaddcfakamaaGreatDoorZAH
import Derived.Test.YtoonaddcfakamaaGreatDoorZAG
import Derived.Deep.Slices
import Derived.Test.YtoonaddcfakamaaGreatDoorZAK
import Derived.Laws.IdiomArrays
import Derived.SevenTiedAt
set_option linter.unusedVariables false
set_option linter.unusedSimpArgs false
set_option maxRecDepth 1000000
set_option maxHeartbeats 40000000
namespace Go.Proofs.YtoonaddcfakamaaGreatDoor
open Go.RowKit Go.Proofs.Tryz
theorem d7_ (c:Int) (vO:0<=c) (qU:c<=255) (vals:Bool) (xss:pM) (v:Value) (k:Int) (qt:-128<=k) (hk1:k<=127) (w:World) (h:j8 w v xss) (pT:b9 w) (hp:3<w.heap.size) :
  pI 11 #[.agg #[.int .u8 c,v,.bool vals],.int .i8 k] w (.bool true):=by
 obtain ⟨P,hP⟩:=pL (gF (c%10).toNat);obtain ⟨n,hn⟩:=pK P.length;obtain ⟨tJ,pv,hn4⟩:=X4_ (c%10).toNat;rw [<- hP] at tJ pv hn4;rw [hn] at pv hn4;have HKN:=oZ (fun W (hW:aA w W)=>g4_ W (pT.ext hW) (ov hp hW.size));have HFI:=oZ (fun W (hW:aA w W)=>Z0L c vals xss v W (h.ext hW));have s5:∀ x∈xss,x.length=4:=fun x hx=>by
  obtain ⟨a,cp,rfl,k1,k2,kl,k4⟩:=aN.open h;obtain ⟨j,hj⟩:=List.getElem?_of_mem hx;obtain ⟨b,off,rfl,hb,pP⟩:=k4 (by decide) (by intro e;rw [e] at hj;simp at hj);obtain ⟨u,hu,⟨rfl,s5,hxb⟩,hc⟩:=pP j x hj;exact s5
 obtain ⟨qp,rI⟩:=Z3B hn4 s5 xss.length;have hsh:=h;obtain ⟨a,cp,rfl,Ke,EW,-⟩:=aN.open hsh;unfold maxLen at EW;obtain ⟨FT,EA⟩:=pK (decide (xss.length<=3));rw [EA] at HFI;cases FT with
 | false =>
  clear qp rI s5 hsh h pT hp EA tJ hP pv hn4;subst hn
  go_enter func11,ntmps11
  obtain ⟨W0,Af⟩:=pK (w.alloc (.cells #[.int .u8 c,.slice a xss.length cp,.bool vals] 24));have HE0:Hid (aA w W0):=by rw [<- Af];exact aA.alloc _ _
  have DY:Hid (W0.heap[w.heap.size]?=some (.cells #[.int .u8 c,.slice a xss.length cp,.bool vals] 24 (0,0))):=by rw [<- Af];exact dq _ _ _
  go_wp2_with fail;clear Af;refine (HKN _ HE0).mono ?_;rintro e w1 ⟨rfl,hE1⟩;have HE1:=oZ (HE0.trans hE1);have HP1:=oZ (aF DY hE1);obtain ⟨p0,p1,p2⟩:=G0_ HP1;clear hE1 HE0 DY;go_wp2_with fail;refine q_ (HFI _ HE1) (HE1.trans) ?_;intro w2 HE2;clear HE1 HFI;go_wp2_with fail;refine q_ (HKN _ HE2) (HE2.trans) ?_;intro w3 HE3;clear HKN;go_wp2_with fail;go_ret;exact ⟨rfl,HE3⟩
 | true =>
 have By:xss.length<=3:=of_decide_eq_true EA;obtain ⟨F,R,A,S,C,M,hD,hC,hM,MD,Jn,hT⟩:=Z77 pv hn4 (by omega) (fun x hx=>(rI x hx).1) (fun x hx=>(rI x hx).2) P tJ hn vals;have HMK:=oZ (fun W (hW:aA w W)=>Z0Z c vO qU n F P hP hn xss By vals _ W (h.ext hW) R A S hD (pT.ext hW) (ov hp hW.size));rw [hC,hM] at HMK;have hRT:=hT.right;obtain ⟨X,hX⟩:=pK (an n M.length M);have yp:M.length<=n:=by have:=hT.rank;omega
 have hPP:=Z3Z hn4 (fun x hx=>(rI x hx).1) (fun x hx=>(rI x hx).2) hT;rw [hX] at hPP;have hXb:=hPP.2.1;have wa:X.length=(aO n M.length).length:=by rw [<- hX];unfold an;rw [List.length_map]
 have BS:f_ M M.length=X:=by rw [<- hX];exact g9_ hn4 (fun x hx=>(hT.bM x hx).2) yp
 have C0:X≠[]:=fun e=>by have:=hPP.2.2.2.1;rw [e] at this;exact absurd this (by decide)
 have Ac:X.length<=6:=by
  rw [wa];exact (show ∀ n,n<=4->∀ k,k<=n->(aO n k).length<=6 by decide +kernel) n hn4 _ yp
 have hsum:bw X X.length<=1000000000:=by
  have key:∀ i,i<=X.length->bw X i<=i*157464:=fun i=>by
   induction i with
   | zero=>intro _;exact Int.le_refl _
   | succ i ih =>
    intro hi;have h1:=ih (by omega);have h2:(X.getD i 0).natAbs<=157464:=by
     rw [oe,oc (by omega),Option.getD_some];exact hXb _ (List.getElem_mem _)
    show bw X i+_<=_;omega
  have:=key X.length (oz _);omega
 have HWG:=oZ (fun W (hW:aA w W) v (hv:cP W v P C M)=>B6_ n F P C M X v W hv hRT hn4 yp BS (fun x hx=>ow (hXb x hx) (by decide)) (pT.ext hW) (ov hp hW.size));have JN:cL M=0:=Z0l (n:=n) (by omega) (by have:=hRT.lM;omega) hRT.bM;have HOF:=oZ (fun W (hW:aA w W) vm (hm:aw W vm M)=>Z0p hn4 (fun r hr=>(hRT.bM r hr).2) yp JN X BS vm W hm (pT.pow.ext hW));have JP:mF n M.length X:=⟨by omega,yp,wa,fun x hx=>Nat.lt_of_le_of_lt (hXb x hx) (by decide +kernel)⟩;have HCO:Hid (∀ W a c,aA w W->aN 1 numC W (.slice a X.length c) X->pI 61 #[.agg #[.int .i64 n,.int .i64 M.length,.slice a X.length c]] W (.tuple #[.string ⟨#[49]⟩,.int .i64 0])):=fun W a c hW hl=>by
  have h9:=q8_ JP _ W ⟨_,rfl,hl⟩ (pT.pow.ext hW);rw [hPP.2.2.2.1,show aB ((1:Nat):Int)=⟨#[49]⟩ by decide +kernel] at h9;exact h9
 have HCX:=oZ (fun W (hW:aA w W) v (hv:cP W v P C M)=>U2_ n F P C M X v W hv hRT hn4 yp BS hsum (pT.ext hW) (ov hp hW.size));have J3:Hid (∀ W a c a' c',aN 1 numC W (.slice a X.length c) X->aN 1 numC W (.slice a' X.length c') X->pI 28 #[.agg #[.int .i64 n,.int .i64 M.length,.slice a X.length c],.agg #[.int .i64 n,.int .i64 M.length,.slice a' X.length c']] W (.bool true)):=fun W a c a' c' h1 h2=>by
  have:=Z0K n M.length X n M.length X _ _ W ⟨_,rfl,h1⟩ ⟨_,rfl,h2⟩;rw [show jl n M.length X n M.length X=true by unfold jl;simp] at this;exact this
 have Mc:Hid (∀ W u u',cP W u P C M->cP W u' P C M->pI 27 #[u,u'] W (.bool true)):=fun W u u' k k'=>by
  have:=Z1C P P C C M M u u' W k k';simpa using this
 have Cy:∀ i,i<X.length->(X.getD i 0).natAbs<=157464:=fun i hi=>by
  rw [oe,oc hi,Option.getD_some];exact hXb _ (List.getElem_mem _)
 have wu:Hid (∀ i,i<X.length->∀ W,aA w W->pI 64 #[.string (aB (bw X i)),.string (aB ((X.getD i 0).natAbs:Int))] W (.string (aB (bw X (i+1))))):=fun i hi W hW=>by
  have h1:=nO X (show i+1<=X.length by omega);have h2:=kH X i;have h3:bw X (i+1)=bw X i+((X.getD i 0).natAbs:Int):=rfl;obtain ⟨s,hs⟩:∃ s:Nat,bw X i=(s:Int):=⟨(bw X i).toNat,by omega⟩;rw [h3,hs,eb,eb,show (s:Int)+((X.getD i 0).natAbs:Int)=((s+(X.getD i 0).natAbs:Nat):Int) by omega,eb];exact Q1_ _ _ W (ow (by rw [<- eb];exact jX (by omega)) (by decide:2000<=3000000000)) (ow (by rw [<- eb];exact jX (by omega)) (by decide:2000<=3000000000)) (pT.pow.ext hW)
 have HCM:Hid (∀ i,i<X.length->∀ W,∃ q:Int,(0<q↔dK X i<((X.getD i 0).natAbs:Int))/\pJ 65 #[.string (aB ((X.getD i 0).natAbs:Int)),.string (aB (dK X i))] W (.int .i64 q)):=fun i hi W=>by
  have h1:=nO X (show i+1<=X.length by omega);have h2:=kH X i;have h3:bw X (i+1)=bw X i+((X.getD i 0).natAbs:Int):=rfl;have h4:=H8_ X i;obtain ⟨s,hs⟩:∃ s:Nat,dK X i=(s:Int):=⟨(dK X i).toNat,by omega⟩;refine ⟨cR (X.getD i 0).natAbs s,?_,?_⟩
  ·rw [hs];unfold cR;split;·omega
   ·split <;> omega
  ·rw [hs,eb,eb];exact nZ _ _ W (ow (by rw [<- eb];exact jX (by omega)) (by decide:2000<=10000000000)) (ow (by rw [<- eb];exact jX (by omega)) (by decide:2000<=10000000000))
 have HOK:Hid (∀ W,aA w W->pI 56 #[.int .i64 k] W (.string (aB k))):=fun W hW=>jx k W (by omega) (by omega) (pT.pow.ext hW);have HMU:Hid (∀ i,i<X.length->∀ W,aA w W->pI 66 #[.string (aB (X.getD i 0)),.string (aB k)] W (.string (aB (X.getD i 0*k)))):=fun i hi W hW =>
  jO _ _ W (ow (jX (ow (Cy i hi) (by decide))) (by decide)) (ow (jX (by omega)) (by decide)) (pT.pow.ext hW)
 obtain ⟨m,hm⟩:∃ m:Int,(if k=0 then 1 else k)=m:=⟨_,rfl⟩;have BU:m≠0:=by rw [<- hm];split <;> omega
 have zS:m.natAbs<=128:=by rw [<- hm];split <;> omega
 obtain ⟨qs,hF⟩:=hT.hM;have tc:∀ v,fe n M v->Sp n (aG 0 M) v:=fun v hv=>by
  refine (K8_ hn4 (fun x hx=>(rI x hx).1) (fun x hx=>(rI x hx).2) hT.flip v).2 ⟨hv.1,fun i hi=>?_⟩;have D6:ak n M:=fun i hi=>(hT.bM _ (eM hi)).2
  exact f6_ D6 hv (by
   have h9:=(K8_ hn4 (fun x hx=>(rI x hx).1) (fun x hx=>(rI x hx).2) hT (aD C i)).1 (Z3O (eM hi))
   exact h9)
 obtain ⟨l1,l2,F1,F2,R1,l3,l4,l5⟩:=f1_ (show n<5 by omega) yp hF rfl tc (by rw [hX];exact hXb) BU (ow (Nat.mul_le_mul_right _ zS) (by decide));rw [hX] at l1 l2 l3;have GX:mF n M.length (X.map (m*·)):=⟨by omega,yp,by rw [List.length_map];exact wa,fun x hx=>Nat.lt_of_le_of_lt (l1 x hx) (by decide +kernel)⟩;have KI:Hid (∀ W vp a c,aA w W->aM W vp P->aN 1 numC W (.slice a X.length c) (X.map (m*·))->Calls prog 57 #[vp,.agg #[.int .i64 n,.int .i64 M.length,.slice a X.length c]] W fun e w'=>∃ u',e=.returned (.tuple #[u',.int .i64 0])/\cP w' u' P C M/\aA W w'):=fun W vp a c hW qo hl=>by
  have Ge:gX W (.agg #[.int .i64 n,.int .i64 M.length,.slice a X.length c]) n M.length (X.map (m*·)):=⟨_,rfl,hl⟩;exact v4_ n M.length P (X.map (m*·)) C M vp _ W qo Ge tJ hn (fun W' hW'=>R9_ GX _ W' (Ge.ext hW'))
   (fun W' hW'=>Z6c F1 F2 (by omega) pv GX _ W' (Ge.ext hW') R1 M l2 l3 l4 l5 (fun r hr=>⟨(hT.bM r hr).2,List.all_eq_true.2 fun x hx=>(lH x).2 (by have:=(hT.bM r hr).1 x hx;omega)⟩) (pT.ext (hW.trans hW')) (ov hp (hW.trans hW').size))
   (fun W' vp v hW' h1 h2=>I6_ n F P M M C M vp v W' h1 h2 tJ hn Jn (pT.ext (hW.trans hW')) (ov hp (hW.trans hW').size))
 have HXL:Hid (X.length<=6):=Ac;have HXN:=oZ C0;have HM1:Hid (k=0->m=1):=fun h=>by rw [<- hm,if_pos h]
 have HM2:Hid (k≠0->k=m):=fun h=>by rw [<- hm,if_neg h]
 clear qp rI s5 hsh h pT hp EA tJ hP pv hD MD Jn hT hRT hC hM hX yp hPP hXb wa BS C0 Ac hsum JN JP Cy hm BU zS hF tc l1 l2 l3 l4 l5 GX hn4;subst hn
 go_enter func11,ntmps11
 obtain ⟨W0,Af⟩:=pK (w.alloc (.cells #[.int .u8 c,.slice a xss.length cp,.bool vals] 24));have HE0:Hid (aA w W0):=by rw [<- Af];exact aA.alloc _ _
 have DY:Hid (W0.heap[w.heap.size]?=some (.cells #[.int .u8 c,.slice a xss.length cp,.bool vals] 24 (0,0))):=by rw [<- Af];exact dq _ _ _
 go_wp2_with fail;clear Af;refine (HKN _ HE0).mono ?_;rintro e w1 ⟨rfl,hE1⟩;have HE1:=oZ (HE0.trans hE1);have HP1:=oZ (aF DY hE1);obtain ⟨p0,p1,p2⟩:=G0_ HP1;clear hE1 HE0 DY;go_wp2_with fail;refine (HFI _ HE1).mono ?_;rintro e w2 ⟨rfl,hE2⟩;have HE2:=oZ (HE1.trans hE2);have HP2:=oZ (aF HP1 hE2);clear hE2 HE1 HFI HP1 p0 p1 p2;obtain ⟨p0,p1,p2⟩:=G0_ HP2;go_wp2_with fail;refine (HMK _ HE2).mono ?_;rintro e w3 ⟨u,rfl,hS,hE⟩;have HEC3:=oZ (HE2.trans hE);clear hE HE2 HP2 HMK HKN p0 p1 p2;obtain ⟨p3,c3,m3,rfl,qo,r9,rz⟩:=hS;have HTV3:Hid (cP w3 (.agg #[p3,c3,m3]) P C M):=⟨_,_,_,rfl,qo,r9,rz⟩;obtain ⟨Gy,EN,rfl,-⟩:=qo.open;obtain ⟨G2,ES,rfl,-⟩:=ae.open r9;obtain ⟨G0,EP,rfl,-⟩:=ae.open rz;clear qo r9 rz;obtain ⟨V3,Ag,C1,Ep,AW⟩:=gU w3 (.slice none 0 0) (.slice none 0 0) (.slice none 0 0);obtain ⟨r0,r1,r2,rf⟩:=cU AW;have f0:=rf 0;have f1:=rf 1;have f2:=rf 2;have HB3:=oZ (j6 AW (.slice Gy P.length EN) (.slice G2 C.length ES) (.slice G0 M.length EP));have HXU3:=oZ (jn C1 (oz _) (.slice Gy P.length EN) (.slice G2 C.length ES) (.slice G0 M.length EP));clear C1 Ep AW rf;obtain ⟨U3,vb⟩:=pK (((V3.setCell ⟨w3.heap.size,0,none⟩ (.slice Gy P.length EN)).setCell ⟨w3.heap.size,1,none⟩ (.slice G2 C.length ES)).setCell ⟨w3.heap.size,2,none⟩ (.slice G0 M.length EP));rw [vb] at HB3 HXU3;have HE3:=oZ (HEC3.trans HXU3);have HTV3:=oZ (HTV3.ext HXU3);clear HXU3 HEC3;obtain ⟨s0,s1,s2,-⟩:=cU HB3;go_wp2_with fail;clear vb Ag r0 r1 r2 f0 f1 f2;refine (HWG _ HE3 _ HTV3).mono ?_;rintro e w4 ⟨a4,c4,rfl,hO,hE⟩;obtain ⟨g,cap,ex,hsl,qR,qY,AJ,hbg⟩:=f7_ hO HXN;simp only [Value.slice.injEq,true_and] at hsl;obtain ⟨rfl,rfl⟩:=hsl;obtain ⟨V4,GQ,hX,hs,hb⟩:=kN w4 (.int .i64 0) (.int .i64 0) (.slice none 0 0);have r0:=ah hb;have f0:=cQ hb;have HB4:=oZ (lZ hb (.int .i64 P.length) (.int .i64 M.length) (.slice (some ⟨g,0,none⟩) X.length c4));have hX:=lW (B:=w4.heap.size) hX (oz _) (.int .i64 P.length) (.int .i64 M.length) (.slice (some ⟨g,0,none⟩) X.length c4);obtain ⟨U4,yV⟩:=pK (((V4.setCell ⟨w4.heap.size,0,none⟩ (.int .i64 P.length)).setCell ⟨w4.heap.size,1,none⟩ (.int .i64 M.length)).setCell ⟨w4.heap.size,2,none⟩ (.slice (some ⟨g,0,none⟩) X.length c4));rw [yV] at HB4 hX;have hE:=hE.trans hX;have HX4:Hid (aA U3 U4):=hE;have HG4:=oZ (aF hbg hX);have HGB:Hid (U3.heap.size<=g):=qR;have HGN:Hid (w4.heap.size≠g):=fun e=>by have:=cG hbg;omega
 have Dh:Hid (X.length<=c4/\c4<=maxLen):=⟨qY,AJ⟩;have HL4:=oZ (Z05 HG4 rfl qY AJ);have AU:X.length<=c4:=qY;clear hO hE qR qY AJ hbg hX hs hb HWG s0 s1 s2;obtain ⟨s0,s1,s2,-⟩:=cU (aF HB3 HX4);go_wp2_with fail;clear yV GQ r0 f0;refine (HOF _ (HE3.trans HX4) _ ((F4_ HTV3).2.2.ext HX4)).mono ?_;rintro e w5 ⟨a5,c5,rfl,hO,hE⟩;have hL5:=numC.of_owns hO;obtain ⟨V5,C2,hX,hs,hb⟩:=kN w5 (.int .i64 0) (.int .i64 0) (.slice none 0 0);have r0:=ah hb;have f0:=cQ hb;have HB5:=oZ (lZ hb (.int .i64 P.length) (.int .i64 M.length) (.slice a5 X.length c5));have hX:=lW (B:=w5.heap.size) hX (oz _) (.int .i64 P.length) (.int .i64 M.length) (.slice a5 X.length c5);obtain ⟨U5,ze⟩:=pK (((V5.setCell ⟨w5.heap.size,0,none⟩ (.int .i64 P.length)).setCell ⟨w5.heap.size,1,none⟩ (.int .i64 M.length)).setCell ⟨w5.heap.size,2,none⟩ (.slice a5 X.length c5));rw [ze] at HB5 hX;have hE:=hE.trans hX;have HX5:Hid (aA U4 U5):=hE;have HL5:=oZ (aN.ext numC.mono' hL5 hX);clear hO hL5 hE hX hs hb HOF s0 s1 s2;have x0:=ah (aF HB4 HX5);go_wp2_with fail;clear ze C2 r0 f0 x0;refine (HCO _ _ _ ((HE3.trans HX4).trans HX5) (aN.ext numC.mono' HL4 HX5)).mono ?_;rintro e w6 ⟨rfl,hE⟩;have HX6:Hid (aA U4 w6):=HX5.trans hE;have HB56:=oZ (aF HB5 hE);have HL56:=oZ (aN.ext numC.mono' HL5 hE);clear hE HX5 HB5 HL5 HCO;obtain ⟨s0,s1,s2,-⟩:=cU (aF HB3 (HX4.trans HX6));go_wp2_with fail;refine (HCX _ ((HE3.trans HX4).trans HX6) _ (HTV3.ext (HX4.trans HX6))).mono ?_;rintro e w7 ⟨rfl,hE⟩;have zo:Hid (aA U4 w7):=HX6.trans hE;have HB57:=oZ (aF HB56 hE);have HL57:=oZ (aN.ext numC.mono' HL56 hE);clear hE HX6 HB56 HL56 HCX s0 s1 s2;have x0:=ah (aF HB4 zo);have y0:=ah HB57;go_wp2_with fail;refine (J3 _ _ _ _ _ (aN.ext numC.mono' HL4 zo) HL57).mono ?_;rintro e w8 ⟨rfl,hE⟩;have HX8:Hid (aA U4 w8):=zo.trans hE;have HB8:=oZ (aF HB4 HX8);have HG8:=oZ (aF HG4 HX8);have HE8:Hid (aA U3 w8):=HX4.trans HX8;obtain ⟨bx,hbx⟩:=pK w4.heap.size;clear hE zo HX8 HB57 HL57 J3 x0 y0 HL4 HG4 HB4 HX4;go_wp2_with fail;rw [hbx] at HB8 HGN;clear hbx;have HZ:=oZ o4_
 go_loopw [15,16,17] (fun s q t wr=>∃ i:Nat,i<=X.length/\Hid (s=.string (aB (bw X i)))/\Hid (q=.string (aB (dK X i)))/\t=.int .i64 i/\Hid (aH (·=g) w8 wr)/\Hid (wr.heap[g]?=some (.cells (jh (gD m X i) ex) 92 (0,0)))) (fun _ _ t _=>X.length-(intOf t).toNat)
 case atStart=>exact ⟨0,by omega,by unfold Hid bw;rw [HZ.out],by unfold Hid dK;rw [HZ.out],rfl,aH.refl _ _,by unfold Hid;rw [Z15];exact HG8⟩
 case round =>
  obtain ⟨i,hi,hs,hq,rfl,HG,zu⟩:=hrel;obtain rfl:=hs.out;obtain rfl:=hq.out;obtain ⟨wo,rfl⟩:∃ wo:World,wo=wr:=⟨_,rfl⟩;have DP:Hid (aA U3 wo):=Z2j HE8 HG fun j hj e=>by have:=HGB.out;omega
  have HEo:=oZ (HE3.trans DP);have HBo:=oZ (Z0P HG HB8 HGN);have x0:=ah HBo 2;simp only [pC,o_,o9] at x0;have NC:X.length<=6:=HXL.out;clear hs hq;by_cases hlt:i<X.length
  ·have Ba:X[i]?=some (X.getD i 0):=(by rw [oe,oc hlt,Option.getD_some]);have g1:=ah zu i;rw [D7_ (Z3c Ba)] at g1;have HSU:=oZ (Z14 (c:=m) Ba);have HAB:=oZ (fun W=>nP (X.getD i 0) W);have HA:=oZ (wu i hlt);have HCC:=oZ (HCM i hlt);have HMM:=oZ (HMU i hlt);have wQ:Hid (dK X (i+1)=if dK X i<((X.getD i 0).natAbs:Int) then ((X.getD i 0).natAbs:Int) else dK X i):=rfl;have Mi:Hid ((gD m X i).length=X.length):=Z3d _ _ _;obtain ⟨x,hx⟩:=pK (X.getD i 0);obtain ⟨y,hy⟩:∃ y:Int,((X.getD i 0).natAbs:Int)=y:=⟨_,rfl⟩;obtain ⟨m0,tl⟩:=pK (dK X i);obtain ⟨m1,vL⟩:=pK (dK X (i+1));rw [hy] at HA HCC wQ HAB;rw [tl] at HCC wQ |-;rw [vL] at wQ;rw [hx] at g1 HAB HMM HSU;have HM9:=oZ vL;clear Ba hx hy tl vL;go_wp2_with fail;refine p_ (HAB _) ?_;intro Mx HY;clear HAB;go_wp2_with fail;refine q_ (HA _ (HEo.trans HY)) (HY.trans) ?_;intro zv HY;clear HA;go_wp2_with fail;obtain ⟨q,yi,Jp⟩:=HCC zv;refine r_ Jp ?_;clear Jp HCC;have HGB2:=oZ (aF zu HY);have HB2:=oZ (aF HBo HY);have HG2:=oZ (HG.ext HY);have HEy:=oZ (HEo.trans HY);have x0:=HY.cell x0;have g1:=HY.cell g1;clear HY zu HBo HG HEo DP;have HQ:Hid (m1=if 0<q then y else m0):=by
    unfold Hid;rw [wQ.out];by_cases wD:m0<y;·rw [if_pos wD,if_pos (yi.2 wD)]
    ·rw [if_neg wD,if_neg (fun h=>wD (yi.1 h))]
   clear yi wQ;obtain ⟨m2,rI⟩:=pK ((if 0<q then y else m0));have HQ2:=oZ rI;rw [rI] at HQ;clear rI;have vM:(0<q/\y=m2)\/(¬ 0<q/\m0=m2):=by
    by_cases hq:0<q;·exact .inl ⟨hq,by have:=HQ2.out;rwa [if_pos hq] at this⟩
    ·exact .inr ⟨hq,by have:=HQ2.out;rwa [if_neg hq] at this⟩
   by_cases hk:k=0
   ·have HKM:=oZ (HM1 hk);subst hk;rcases vM with ⟨hq,ry⟩ | ⟨hq,ry⟩
    all_goals
     go_wp2_with fail;go_roundw
     case rel=>exact ⟨i+1,by omega,rfl,by unfold Hid;rw [HM9.out,HQ.out],by go_num,HG2,by unfold Hid;rw [HKM.out,n9_];have:=HGB2.out;rwa [HKM,n9_] at this⟩
     case measure=>simp [intOf];omega
   ·have HKM:=oZ (HM2 hk);have Iu:IntKind.wrap .i64 k=k:=(by rw [IntKind.wrap_i64];omega);rcases vM with ⟨hq,ry⟩ | ⟨hq,ry⟩
    all_goals
     go_upto_region 19 with fail
     refine W6_ (fun w'=>w'.cell? ⟨bx,2,none⟩=some (.slice (some ⟨g,0,none⟩) X.length c4)/\w'.cell? ⟨g,i,none⟩=some (.string (aB x))/\Hid (aA zv w')) 13 14 (by kernel_rfl) (by kernel_rfl) ⟨(aA.drew zv).cell x0,(aA.drew zv).cell g1,aA.drew zv⟩ (fun ops hO pO=>?_);generalize zv.drew=wd at pO |-;have hi:=iJ hO 0 (by decide)
     conv at hi=>rhs;arg 1;whnf
     refine tX hO (v:=?_) 0 hi (Or.inl ⟨by rfl,?_⟩) ?_;rotate_left;·((intro w');(try go_simp);(try with_reducible rfl))
     clear hi
     (try simp only [Act.put,aQ,aR,aS])
     have hi:=iJ hO 1 (by decide)
     conv at hi=>rhs;arg 1;whnf
     refine R7_ hO (v:=?_) 1 [12] hi (by kernel_rfl) (by kernel_rfl) (by kernel_rfl) (by kernel_rfl) (by kernel_rfl) (fun _ _ _ h=>h) (Or.inl ⟨by rfl,?_⟩) (by assumption) ?_;rotate_left;·((intro w' qM);(try dsimp only at qM);(try go_simp);(try with_reducible rfl))
     clear hi
     (try simp only [Act.put,aQ,aR,aS])
     refine rA [2,3] ?_
     iterate 2 (refine rS hO (by decide) fun o h=>?_;(conv at h=>lhs;whnf);subst h;(refine rX hO (v:=?_) (Or.inl ⟨by rfl,?_⟩) ?_;rotate_left;·((intro w');(try go_simp);(try with_reducible rfl)));(try simp only [Act.put,aQ,aR,aS]))
     refine rE ?_;have hi:=iJ hO 4 (by decide)
     conv at hi=>rhs;arg 1;whnf
     refine R7_ hO (v:=?_) 4 [11,7,6] hi (by kernel_rfl) (by kernel_rfl) (by kernel_rfl) (by kernel_rfl) (by kernel_rfl) (fun _ _ _ h=>h) (Or.inl ⟨by rfl,?_⟩) (by assumption) ?_;rotate_left;·((intro w' qM);(try dsimp only at qM);(try go_simp);(try with_reducible rfl))
     clear hi
     (try simp only [Act.put,aQ,aR,aS])
     refine rA [5,6] ?_
     iterate 2 (refine rS hO (by decide) fun o h=>?_;(conv at h=>lhs;whnf);subst h;(refine rX hO (v:=?_) (Or.inl ⟨by rfl,?_⟩) ?_;rotate_left;·((intro w');(try go_simp);(try with_reducible rfl)));(try simp only [Act.put,aQ,aR,aS]))
     refine rE ?_;have hi:=iJ hO 7 (by decide)
     conv at hi=>rhs;arg 1;whnf
     refine R7_ hO (v:=?_) 7 [11] hi (by kernel_rfl) (by kernel_rfl) (by kernel_rfl) (by kernel_rfl) (by kernel_rfl) (fun _ _ _ h=>h) (Or.inl ⟨by rfl,?_⟩) (by assumption) ?_;rotate_left;·((intro w' qM);(try dsimp only at qM);(try go_simp);(try with_reducible rfl))
     clear hi
     (try simp only [Act.put,aQ,aR,aS])
     refine rA [8,9] ?_
     iterate 2 (refine rS hO (by decide) fun o h=>?_;(conv at h=>lhs;whnf);subst h;(refine rX hO (v:=?_) (Or.inl ⟨by rfl,?_⟩) ?_;rotate_left;·((intro w');(try go_simp);(try with_reducible rfl)));(try simp only [Act.put,aQ,aR,aS]))
     refine rE ?_;have hi:=iJ hO 10 (by decide)
     conv at hi=>rhs;arg 1;whnf
     refine V0_ hO 10 (by kernel_rfl) hi (fun K hK=>?_);go_simp
     (go_at_call 56;refine (HOK _ (HEy.trans (pO.2.2))).mono ?_)
     rintro e wz ⟨rfl,pY⟩;go_wp2_with fail;refine hK _ _ ⟨(pY).cell pO.1,(pY).cell pO.2.1,aA.trans pO.2.2 (pY)⟩ (fun pO=>?_);clear hK K hi
     (try simp only [Act.put,aQ,aR,aS])
     have hi:=iJ hO 11 (by decide)
     conv at hi=>rhs;arg 1;whnf
     refine V0_ hO 11 (by kernel_rfl) hi (fun K hK=>?_);go_simp
     (go_at_call 66;refine (HMM _ (HEy.trans (pO.2.2))).mono ?_)
     rintro e wy ⟨rfl,pY⟩;go_wp2_with fail;refine hK _ _ ⟨(pY).cell pO.1,(pY).cell pO.2.1,aA.trans pO.2.2 (pY)⟩ (fun pO=>?_);clear hK K hi
     (try simp only [Act.put,aQ,aR,aS])
     have Ay:Hid (aA zv wy):=pO.2.2.out;have HBY:=oZ (aF HGB2 Ay);have kg:=ah HBY i;have fg:=cQ HBY;have hi:=iJ hO 12 (by decide)
     conv at hi=>rhs;arg 1;whnf
     refine tX hO (v:=?_) 12 hi (Or.inl ⟨by rfl,?_⟩) ?_;rotate_left;·((intro w');(try go_simp);(try with_reducible rfl))
     clear hi
     (try simp only [Act.put,aQ,aR,aS])
     have hi:=iJ hO 13 (by decide)
     conv at hi=>rhs;arg 1;whnf
     refine Z0r hO 13 (by kernel_rfl) (by kernel_rfl) (by kernel_rfl) hi (fun K hK=>?_);go_simp;refine hK _ _ ?_;clear hK K hi hO
     (try simp only [Act.put,aQ,aR,aS])
     go_wp2_with fail;go_roundw
     case rel=>exact ⟨i+1,by omega,rfl,by unfold Hid;rw [HM9.out,HQ.out],by go_num,(HG2.ext Ay).trans (mZ (fT _ _ _ _) (fun k hk=>by cases hk;rfl)),by
      unfold Hid;rw [HSU.out,<- Z0B (by rw [Mi.out];exact hlt),HKM.out]
      exact dr HBY i _⟩
     case measure=>simp [intOf];omega
  ·obtain rfl:i=X.length:=(by omega);have Dd:Hid (aN 1 numC wo (.slice (some ⟨g,0,none⟩) X.length c4) (X.map (m*·))):=by
    have h9:=zu.out;rw [Z3b] at h9;exact Z05 h9 (by simp) (by rw [List.length_map];exact Dh.1) Dh.2
   have x1:=ah HBo;obtain ⟨s0,s1,s2,-⟩:=cU (aF HB3 DP);obtain ⟨sA,IY⟩:=pK (aB (bw X X.length));obtain ⟨sM,IX⟩:=pK (aB (dK X X.length));have HT:=oZ (HTV3.ext DP);have HB3o:=oZ (aF HB3 DP);rw [IY,IX];clear IY IX wu HCM HMU HOK;go_wp2_with fail;refine (KI _ _ _ _ HEo (F4_ HT).1 Dd).mono ?_;rintro e w9 ⟨u9,rfl,hS,hE⟩;have HEC9:=oZ (HEo.trans hE);have HB3:=oZ (aF HB3o hE);have HTV3:=oZ (HT.ext hE);clear hE s0 s1 s2 x0 x1 KI HB3o HT;obtain ⟨p9,c9,m9,rfl,qo,r9,rz⟩:=hS;have HTV9:Hid (cP w9 (.agg #[p9,c9,m9]) P C M):=⟨_,_,_,rfl,qo,r9,rz⟩;obtain ⟨Gx,EM,rfl,-⟩:=qo.open;obtain ⟨G1,ER,rfl,-⟩:=ae.open r9;obtain ⟨Gz,EO,rfl,-⟩:=ae.open rz;clear qo r9 rz;obtain ⟨V9,Lv,C1,Ep,AW⟩:=gU w9 (.slice none 0 0) (.slice none 0 0) (.slice none 0 0);obtain ⟨r0,r1,r2,rf⟩:=cU AW;have f0:=rf 0;have f1:=rf 1;have f2:=rf 2;have HB9:=oZ (j6 AW (.slice Gx P.length EM) (.slice G1 C.length ER) (.slice Gz M.length EO));have HXU9:=oZ (jn C1 (oz _) (.slice Gx P.length EM) (.slice G1 C.length ER) (.slice Gz M.length EO));clear C1 Ep AW rf;obtain ⟨U9,JL⟩:=pK (((V9.setCell ⟨w9.heap.size,0,none⟩ (.slice Gx P.length EM)).setCell ⟨w9.heap.size,1,none⟩ (.slice G1 C.length ER)).setCell ⟨w9.heap.size,2,none⟩ (.slice Gz M.length EO));rw [JL] at HB9 HXU9;have HE9:=oZ (HEC9.trans HXU9);have HTV9:=oZ (HTV9.ext HXU9);have HB3:=oZ (aF HB3 HXU9);have HTV3:=oZ (HTV3.ext HXU9);clear HXU9 HEC9;obtain ⟨s0,s1,s2,-⟩:=cU HB3;obtain ⟨t0,t1,t2,-⟩:=cU HB9;go_wp2_with fail;refine q_ (Mc _ _ _ HTV9 HTV3) (HE9.trans) ?_;intro KO HE;clear JL Lv r0 r1 r2 f0 f1 f2 s0 s1 s2 t0 t1 t2;go_wp2_with fail;go_ret;exact ⟨rfl,HE⟩
end Go.Proofs.YtoonaddcfakamaaGreatDoor
namespace Go.Proofs.YtoonaddcfakamaaGreatDoor
open Go.ChangeShapes Go.WideShapes Go.ChangeAt Go.RowKit Go.Proofs.Tryz
theorem Z74:ownKnob prog.godebug=none:=by kernel_rfl
theorem Z6d:laidOutB prog=true:=by kernel_rfl
theorem S9_ {H:Type} {enc:TypeId×Value->H} {P:Program} (hl:laidOutB P=true) {W W':World} (hb:Below W.heap.size W W') :
  ∀ (ts:List TypeId) (vs:List Value) (ds:List (DataW H)) (ps:List MemPlace),(∀ t∈ts,P.readableRec t=true/\t<P.types.size) ->
   DataW.TrodAll enc P W 0 (fun _=>true) true ts vs ds ps->(∀ x∈ps,x.block<W.heap.size)->DataW.TrodAll enc P W' 0 (fun b=>decide (b<W.heap.size)) true ts vs ds ps
 | [],[],[],ps,_,h,_=>h
 | t::ts,v::vs,d::ds,ps,hr,h,hlt=>by
  obtain ⟨p,p',h1,h2,rfl⟩:=h;exact ⟨p,p',Below.trod hl (hr t (by simp)).1 (hr t (by simp)).2 h1 hb (fun x hx=>hlt x (by simp [hx])),S9_ hl hb ts vs ds p' (fun t ht=>hr t (by simp [ht])) h2 (fun x hx=>hlt x (by simp [hx])),rfl⟩
 | [],v::vs,_,_,_,h,_=>absurd h (by simp [DataW.TrodAll])
 | [],[],d::ds,_,_,h,_=>absurd h (by simp [DataW.TrodAll])
 | t::ts,[],_,_,_,h,_=>absurd h (by simp [DataW.TrodAll])
 | t::ts,v::vs,[],_,_,h,_=>absurd h (by simp [DataW.TrodAll])
theorem Z6e {H:Type} {enc:TypeId×Value->H} {f:Func} {s:ChangeSpec} {W W':World} {args:Array Value} {ds:List (DataW H)} {before:List MemPlace}
  (hW:DataW.Whole enc prog f.params.toList s.vars false W args.toList ds [] before) (hA:DataW.TrodAll enc prog W 0 (fun _=>true) true f.params.toList args.toList ds before)
  (hv:s.vars=[]) (Ew:f.resultTypes=#[4]) (tz:s.fn H (ds++[])={ results:=[.lit (.bool true)],args:=ds }) (hr:∀ t∈f.params.toList,prog.readableRec t=true/\t<prog.types.size) (hb:Below W.heap.size W W') :
  ∃ v,Ending.returned (.bool true)=Ending.returned v/\ChangeSpec.post enc prog f s false true false false W args v W':=by
 refine ⟨_,rfl,ds,[],before,[],before,[],hW,?_,?_,?_,?_,fun h=>by cases h⟩
 ·rw [tz,Ew];exact trodAll_cons_mk (shut_bool underlying4 _) trodAll_mk0
 ·rw [tz];exact S9_ Z6d hb _ _ _ _ hr hA (fun x hx=>by simpa using hW.lt x hx)
 ·rw [tz,hv];rfl
 ·exact hb.frame _
abbrev Z4R : List (String × DataW Unit) := [("math/bits.deBruijn32tab", Rows.laid_math_bits_deBruijn32tab), ("math/bits.deBruijn64tab", Rows.laid_math_bits_deBruijn64tab), ("internal/strconv.uint64pow10", Rows.laid_internal_strconv_uint64pow10), ("strconv.ErrRange", Rows.laid_strconv_ErrRange), ("strconv.ErrSyntax", Rows.laid_strconv_ErrSyntax)]
theorem t1_ {W:World} (h:laidMetH prog Z4R W):ag W:=by
 rw [MakeChecks.laidMetH_plain _ _ _ (by kernel_rfl)] at h;have h2:=laidMet.tail (laidMet.tail h);exact Lib.tabIs_of_head (g:=3) (t:=391) (e:=197) (n:=20) (by kernel_rfl) (by kernel_rfl) (by kernel_rfl) (by kernel_rfl) (by kernel_rfl) (by kernel_rfl) h2
theorem W7_ {H:Type} {enc:TypeId×Value->H} {a:Assume} {C:Checked} {os:Os} {f:FuncId} {fn:Func} {s:ChangeSpec} {conds:List PathCond} {apart fresh handsOn again:Bool} {X:World->Array Value->Prop}
  (hX:∀ (w w':World) (args:Array Value),w.heap=w'.heap->X w args->X w' args)
  (own:ownKnob C.prog.godebug=none) (started:os.Started) (noInit:C.prog.inits.idxOf? f=none) (tz:C.prog.funcs[f]?=some fn)
  (witness:∃ (w:World) (tape:Tape) (i:Input),w.os=os/\(w.forCall tape i).Shaped C.prog/\i.vars=[]/\Input.okWide C.prog (w.forCall tape i) .any w.heap.size f i /\
   ((s.pre enc C.prog fn conds apart (w.forCall tape i).memory i.args/\X (w.forCall tape i).memory i.args)/\sizedMet enc C.prog fn (OpenSpec.ofChange s) apart (w.forCall tape i).memory i.args)/\a.holds C.prog (lone (Frame.enter C.prog f i.args .normal) [] (w.forCall tape i)))
  (contract:∀ (W:World) (base:Nat) (args:Array Value) (ds gs:List (DataW H)) (before:List MemPlace),
   (∀ (j:Nat) t v,fn.params[j]?=some t->args[j]?=some v->Value.okWide C.prog W .any base t v) ->
   DataW.Whole enc C.prog fn.params.toList s.vars apart W args.toList ds gs before ->
   conds.all (PathCond.test C.prog ⟨fn.params.toList,ds,s.plain.varTypes C.prog,gs⟩)=true ->
   (DataW.weightsEach C.prog (fn.params.toList++s.plain.varTypes C.prog) (ds++gs)).all (·<=reachBytes)=true->X W args ->
   W.ShapedOpen C.prog ->
   a.holds C.prog (lone (Frame.enter C.prog f args .normal) [] W) ->
   Calls C.prog f args W fun e W'=>∃ v,e=.returned v/\s.post enc C.prog fn apart fresh handsOn again W args v W') :
  ReturnsInHanded a C os f .any (fun w args=>(s.pre enc C.prog fn conds apart w args/\X w args)/\sizedMet enc C.prog fn (OpenSpec.ofChange s) apart w args) (s.post enc C.prog fn apart fresh handsOn again):=by
 refine returnsInHanded_of_calls own started noInit witness ?_;intro w tape i _ hsh _ hok E2 AP;obtain ⟨_,_,_,fn',Fk,_,_,_,_,vQ⟩:=hok;have e:fn'=fn:=o5 (Fk.symm.trans tz);subst e;obtain ⟨⟨⟨ds,gs,before,hw,hc⟩,hx⟩,hz⟩:=E2;have hw':=DataW.Whole.of_heap (w':=w.forCall tape i) (by rfl) hw;refine (contract (w.forCall tape i) w.heap.size i.args ds gs before vQ hw' hc (hz.weights hw) (hX _ _ _ (by rfl) hx) hsh AP).mono fun e W' ⟨v,he,hp⟩=>?_;subst he;exact ChangeSpec.post_blind hp
theorem Z2a (os:Os) (args:Array Value):laidMetH prog Z4R ((World.laidAll prog os Z4R).forCall (fun _ _=>0) ⟨#[],args,[]⟩).memory:=by
 rw [MakeChecks.laidMetH_plain _ _ _ (by kernel_rfl)];exact laidMet_laidAll _ (by kernel_rfl) (by kernel_rfl)
theorem Z6W (u : TypeId) (h : prog.typeName? 3 u = some "*errors.errorString") : u = 394 :=
 typeName_ptr_named (nm := "errors.errorString") (by rw [show "*" ++ "errors.errorString" = "*errors.errorString" by decide]; kernel_rfl) (by kernel_rfl) (by decide) u (by rw [show "*" ++ "errors.errorString" = "*errors.errorString" by decide]; exact h)
theorem Z30 {W:World} (h:laidMetH prog Z4R W):b9 W:=by
 have hp:=t1_ h;rw [MakeChecks.laidMetH_plain _ _ _ (by kernel_rfl)] at h;have h2:=laidMet.tail (laidMet.tail h);refine ⟨hp,?_⟩;have h4:=laidMet.tail h2;obtain ⟨a,s,hv,-⟩:=laid_sentinel (g:=2) (ti:=222) (tp:=394) (te:=396) (ts:=9) (ms:=_) (f:=_) h4 (by kernel_rfl) (by kernel_rfl) underlying222 Z6W underlying394 underlying396 rfl rfl underlying9 (by kernel_rfl) (by kernel_rfl);have hc := World.var?_cell (show prog.globalNamed "strconv.ErrRange" = some 2 by kernel_rfl) hv 0;exact ⟨_,_,by simpa using hc⟩
theorem Z79 {W:World} (h:ag W):3<W.heap.size:=by
 unfold ag Lib.TabIs at h;have hg : prog.globalNamed "internal/strconv.uint64pow10" = some 3 := by kernel_rfl
 by_cases hlt:3<W.heap.size;·exact hlt
 ·simp [World.var?,hg,Array.getElem?_eq_none (show W.heap.size<=3 by omega)] at h
theorem Z4h:prog.cellsOf 25=1:=by kernel_rfl
theorem Z4i:prog.cellsOf 5=1:=by kernel_rfl
theorem Z0A:prog.cellsOf 26=4:=by kernel_rfl
theorem i6_:prog.cellsOf 22=1:=by kernel_rfl
theorem Z0N {H:Type} {enc:TypeId×Value->H} {W:World} {base:Nat} {spare:Nat->Bool} {held:Bool} {fuel:Nat} {cs:List Value} {y:DataW H×List MemPlace} (hl:cs.length=4)
  (hf:DataW.trod enc prog W base spare held fuel 26 cs=some y):∃ x:pN,cs=x.map (Value.int .i8)/\x.length=4/\∀ a∈x,-128<=a/\a<=127:=by
 obtain ⟨a,b,c,e,rfl⟩:∃ a b c e,cs=[a,b,c,e]:=by
  match cs,hl with
  | [a,b,c,e],_=>exact ⟨a,b,c,e,rfl⟩
 obtain ⟨z0,z1,z2,z3,n,-,k0,k1,k2,k3⟩:=trod_array4 underlying26 Z4h hf;obtain ⟨y0,e0,-,w0⟩:=DataW.trod_int underlying25 k0;obtain ⟨y1,e1,-,w1⟩:=DataW.trod_int underlying25 k1;obtain ⟨y2,e2,-,w2⟩:=DataW.trod_int underlying25 k2;obtain ⟨y3,e3,-,w3⟩:=DataW.trod_int underlying25 k3;obtain rfl:a=.int .i8 y0:=by simpa using e0
 obtain rfl:b=.int .i8 y1:=by simpa using e1
 obtain rfl:c=.int .i8 y2:=by simpa using e2
 obtain rfl:e=.int .i8 y3:=by simpa using e3
 refine ⟨[y0,y1,y2,y3],rfl,rfl,fun x hx=>?_⟩;have h0:=bounds_i8 w0;have h1:=bounds_i8 w1;have h2:=bounds_i8 w2;have h3:=bounds_i8 w3;simp at hx;rcases hx with rfl | rfl | rfl | rfl <;> assumption
theorem Z4y {us:List (List Value)} (h:∀ u∈us,u.length=4) (j:Nat) (k:Nat) (hk:k<4):us.flatten[4*j+k]?=(us[j]?).bind (·[k]?):=by
 induction us generalizing j with
 | nil=>simp
 | cons u l ih =>
  have hu:=h u (by simp);rw [List.flatten_cons];cases j with
  | zero=>rw [o6 (by omega)];simp
  | succ j =>
   rw [o8 (by omega),show 4*(j+1)+k-u.length=4*j+k by omega,ih (fun x hx=>h x (by simp [hx])) j];simp
theorem Z0O {H:Type} {enc:TypeId×Value->H} {W:World} {base:Nat} {spare:Nat->Bool} {held:Bool} {c0:Value} {x:DataW H×List MemPlace} {fuel:Nat}
  (hf:DataW.trod enc prog W base spare held fuel 22 [c0]=some x):∃ xss,j8 W c0 xss:=by
 rcases Go.Deep.open_slice underlying22 hf with ⟨vM,hx⟩ | ⟨a,len,cap,m,n,D,Pl,vM,_,hl,hm,hmm,hx,hV⟩
 ·obtain rfl:c0=.slice none 0 0:=by simpa using vM
  exact ⟨[],[],rfl,by simp,⟨none,0,rfl,oz _,Nat.zero_le _,fun _=>rfl,fun h=>absurd rfl h⟩,by simp⟩
 ·obtain rfl:c0=.slice (some a) len cap:=by simpa using vM
  have hml:len<=m:=by rw [hmm];split <;> omega
  rw [Z0A] at hV;have zd:∃ X:Nat->List Int,∀ i,i<m->(∀ k,k<4->W.cell? ((a.add (i*4)).add k)=((X i).map (Value.int .i8))[k]?)/\(X i).length=4/\∀ z∈X i,-128<=z/\z<=127:=by
   have:∀ i,i<m->∃ x:pN,(∀ k,k<4->W.cell? ((a.add (i*4)).add k)=(x.map (Value.int .i8))[k]?)/\x.length=4/\∀ z∈x,-128<=z/\z<=127:=by
    intro i hi;obtain ⟨cs',h1,h2⟩:=hV i hi;obtain ⟨-,h3,h4⟩:=World.cells?_some h1;obtain ⟨x,h5,h6,h7⟩:=Z0N h3 h2;exact ⟨x,fun k hk=>by rw [h4 k hk,h5],h6,h7⟩
   refine ⟨fun i=>if h:i<m then Classical.choose (this i h) else [],fun i h=>?_⟩;simp only [h,↓reduceDIte];exact Classical.choose_spec (this i h)
  obtain ⟨X,hX⟩:=zd;have yf:∀ u∈(List.range len).map (fun i=>(X i).map (Value.int .i8)),u.length=4:=by
   intro u hu;obtain ⟨i,hi,rfl⟩:=List.mem_map.1 hu;rw [List.length_map];exact (hX i (by have:=List.mem_range.1 hi;omega)).2.1
  refine ⟨(List.range len).map X,(List.range len).map fun i=>(X i).map (Value.int .i8),by simp,yf,?_,?_⟩
  ·refine ⟨some a,cap,by simp,by simpa using hl,hm,(fun h=>by cases h),fun hne=>?_⟩;have hpos:0<len:=by
    rcases Nat.eq_zero_or_pos len with h0 | h0;·subst h0;simp at hne
    ·exact h0
   have h0:=(hX 0 (by omega)).1 0 (by omega);have h04:=(hX 0 (by omega)).2.1;rw [Go.Deep.add_add,oh,oc (by omega)] at h0;have DI:W.cell? a=some (.int .i8 (X 0)[0]):=(by simpa [Addr.add] using h0);have hs:a.spot=none:=by
    cases Eo:a.spot with
    | none=>rfl
    | some s =>
     unfold World.cell? at DI;rw [Eo] at DI
     split at DI <;> simp at DI
   refine ⟨a.block,a.off,by rw [<- hs],A2_ DI,fun j u hu=>?_⟩;have LN:j=4*(j / 4)+j%4:=(by omega);rw [LN,Z4y yf (j / 4) (j%4) (by omega)] at hu;obtain ⟨u0,h1,h2⟩:=Option.bind_eq_some_iff.1 hu;rw [oh] at h1;by_cases hj:j / 4<len
   ·rw [List.getElem?_range hj] at h1;simp at h1;subst h1;have hc2:=(hX (j / 4) (by omega)).1 (j%4) (by omega);rw [h2,Go.Deep.add_add,show j / 4*4+j%4=j by omega] at hc2;unfold Addr.add at hc2;by_cases AN:j=0
    ·subst AN;rw [if_pos rfl] at hc2;have ha:a=⟨a.block,a.off+0,none⟩:=(by cases a;simp only at hs;subst hs;rfl);rw [ha] at hc2;exact hc2
    ·rw [if_neg AN] at hc2;exact hc2
   ·rw [o4 (by simpa using hj)] at h1;cases h1
  ·intro j u x hu hx;rw [oh] at hu hx;by_cases hj:j<len
   ·rw [List.getElem?_range hj] at hu hx;simp at hu hx;subst hu;subst hx;exact ⟨rfl,(hX j (by omega)).2⟩
   ·rw [o4 (by simpa using hj)] at hu;cases hu
theorem i7_:prog.cellsOf 24=3:=by kernel_rfl
theorem i5_:prog.cellsOf 4=1:=by kernel_rfl
theorem f5_ {H:Type} {enc:TypeId×Value->H} {W:World} {r:Reach} {b0 base:Nat} {spare:Nat->Bool} {held:Bool} {v:Value} {d:DataW H} {ps:List MemPlace}
  (vQ:Value.okWide prog W r b0 24 v) (hd:DataW.Trod enc prog W base spare held 24 v d ps) :
  ∃ c u vals xss,v=.agg #[.int .u8 c,u,.bool vals]/\(0<=c/\c<=255)/\j8 W u xss:=by
 obtain ⟨cs,rfl,hs⟩:=okWide_struct underlying24 vQ;obtain ⟨fuel,hf⟩:=hd;rw [i7_] at hs;obtain ⟨a,b,z,rfl⟩:∃ a b z,cs=#[a,b,z]:=by
  match cs,hs with
  | ⟨[a,b,z]⟩,_=>exact ⟨a,b,z,rfl⟩
 obtain ⟨xs,n,-,-,hl,hlen,hall⟩:=DataW.trod_struct underlying24 hf;have h0:=hall 0 _ rfl;have h1:=hall 1 _ rfl;have h2:=hall 2 _ rfl;have hx:xs.length=3:=hlen;rw [oc (by omega)] at h0 h1 h2;have k0:DataW.trod enc prog W base spare held n 5 [a]=some xs[0]:=by
  rw [<- h0];show _=DataW.trod enc prog W base spare held n 5 (([a,b,z].drop 0).take (prog.cellsOf 5));rw [Z4i];rfl
 have k1:DataW.trod enc prog W base spare held n 22 [b]=some xs[1]:=by
  rw [<- h1];show _=DataW.trod enc prog W base spare held n 22 (([a,b,z].drop 1).take (prog.cellsOf 22));rw [i6_];rfl
 have k2:DataW.trod enc prog W base spare held n 4 [z]=some xs[2]:=by
  rw [<- h2];show _=DataW.trod enc prog W base spare held n 4 (([a,b,z].drop 2).take (prog.cellsOf 4));rw [i5_];rfl
 obtain ⟨y0,e0,-,w0⟩:=DataW.trod_int underlying5 k0;obtain ⟨xss,hxs⟩:=Z0O k1;obtain ⟨bb,e2,-⟩:=DataW.trod_bool underlying4 k2;obtain rfl:a=.int .u8 y0:=by simpa using e0
 obtain rfl:z=.bool bb:=by simpa using e2
 exact ⟨y0,b,bb,xss,rfl,bounds_u8 w0,hxs⟩
theorem W2_ (os:Os) (started:os.Started) (H:Type) (enc:TypeId×Value->H) :
  ReturnsInHanded {} checked os 11 .any (fun w args=>(Rows.invariantWedgesSpec.pre enc prog f11 [] false w args/\laidMetH prog Rows.invariantWedgesRow.laid w)/\sizedMet enc prog f11 (OpenSpec.ofChange Rows.invariantWedgesSpec) false w args)
   (Rows.invariantWedgesSpec.post enc prog f11 false true false false):=by
 refine W7_ (C:=checked) (X:=fun w _=>laidMetH prog Rows.invariantWedgesRow.laid w) (fun _ _ _ hh h=>h.of_heap hh) Z74 started (by kernel_rfl) func11
  (ChangeSpec.witness_shaped (enc:=enc) (C:=checked) (os:=os) (X:=fun w _=>laidMetH prog Rows.invariantWedgesRow.laid w) false (World.laidAll prog os Rows.invariantWedgesRow.laid) #[.agg #[.int .u8 0,.slice none 0 0,.bool false],.int .i8 0] 8 (World.laidAll_os _ _ _) (World.shaped_of_ZipB (by kernel_rfl) (by kernel_rfl)) (by kernel_rfl) (by kernel_rfl) (by kernel_rfl) (Z2a os _)) ?_
 intro W base args ds gs before zH hW _ _ hL Nt _;have vQ:∀ (j:Nat) t v,f11.params[j]?=some t->args[j]?=some v->Value.okWide prog W .any base t v:=zH;have hW':=hW;obtain ⟨p,q,Jv,hV,rfl,hfz,NP⟩:=hW;have hA:DataW.TrodAll enc prog W 0 (fun _=>true) true f11.params.toList args.toList ds p:=Jv;have hAk:=hA;rw [params11] at hA vQ;obtain ⟨v0,Mz,d0,N0,p0,q0,JG,rfl,rfl,h0,r0⟩:=trodAll_cons hA;obtain ⟨v1,My,d1,Nz,p1,q1,rfl,rfl,rfl,h1,r1⟩:=trodAll_cons r0;obtain ⟨rfl,rfl,rfl⟩:=trodAll_nil r1;obtain rfl:args=#[v0,v1]:=by cases args;simp_all
 obtain ⟨rfl,rfl⟩:=trodVars_none hV;obtain ⟨c0,u0,b0,EK,rfl,vO,qB⟩:=f5_ (vQ 0 24 v0 rfl rfl) h0;obtain ⟨n1,rfl,rfl,rfl,w1⟩:=open_int underlying25 (vQ 1 25 v1 rfl rfl) h1;clear Jv zH;simp only [List.append_nil] at hW' hAk;refine (d7_ c0 vO.1 vO.2 b0 EK u0 n1 (bounds_i8 w1).1 (bounds_i8 w1).2 W qB (Z30 hL) (Z79 (Z30 hL).pow)).mono fun e W' ⟨he,hg⟩=>?_;subst he;exact Z6e hW' (by simpa using hAk) rfl (by kernel_rfl) rfl (of_decide_eq_true (by kernel_rfl)) hg
theorem W4_:joinedFacts Tryz.pinned.checked.prog 11 f11 Rows.invariantWedgesSpec Rows.invariantWedgesRow=true:=by
 unfold joinedFacts
 iterate 31 refine Bool.and_eq_true_iff.mpr ⟨?_,?_⟩
 all_goals (as_aux_lemma=>kernel_rfl)
theorem U1_:Rows.InvariantWedgesSaid :=
 OpenClaim.holds_of_wide 11 f11 rfl rfl rfl rfl rfl rfl rfl ⟨rfl,rfl,rfl,rfl,rfl⟩ rfl rfl rfl rfl rfl (by kernel_rfl) func11 W4_
  (of_decide_eq_true (by kernel_rfl)) (by unfold Func.isWrapper;first | (rw [if_pos (by decide +kernel)];kernel_rfl) | (rw [if_neg (by decide +kernel)];exact ⟨rfl,rfl⟩))
  (fun os started H enc _=>W2_ os started H enc)
end Go.Proofs.YtoonaddcfakamaaGreatDoor
