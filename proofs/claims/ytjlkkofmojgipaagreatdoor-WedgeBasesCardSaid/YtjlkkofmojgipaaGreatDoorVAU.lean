import Derived.Test.YtjlkkofmojgipaaGreatDoorVAT
import Derived.Deep.Cut
import Derived.Test.YtjlkkofmojgipaaGreatDoorVAK
import Derived.Test.YtjlkkofmojgipaaGreatDoorVAO
import Derived.Test.YtjlkkofmojgipaaGreatDoorVAJ
import Derived.Test.YtjlkkofmojgipaaGreatDoorVAH
import Derived.BigQuiet
import Derived.Maps.OwnSet
import Derived.Test.YtjlkkofmojgipaaGreatDoorVAP
import Derived.Test.YtjlkkofmojgipaaGreatDoorVAE
import Derived.Test.YtjlkkofmojgipaaGreatDoorVAM
import Derived.Laws.Rows
import Derived.Laws.AppendOwnNone
import Derived.Test.YtjlkkofmojgipaaGreatDoorRows
import Derived.WalkKit
import Derived.ProofKit
import Derived.OpenShut
import Derived.Test.YtjlkkofmojgipaaGreatDoorVAA
import Derived.ChangeSlices
import Derived.Test.YtjlkkofmojgipaaGreatDoorVAN
set_option linter.unusedVariables false
set_option linter.unusedSimpArgs false
set_option maxRecDepth 1000000
set_option maxHeartbeats 16000000
namespace Go.Proofs.YtjlkkofmojgipaaGreatDoor
open Go.RowKit Go.Maps Go.Proofs.Tryz
theorem Z3W (m0:oe) (g0 cap0 n C:Nat) (om:List (Nat×Nat)) (wb w:World) (hM:dJ w g0 om m0) (hC:cI C m0) (hn:n<=C) (Bf:C<=1000) (hl:m0.length<=1000) (pk:m0.length<=cap0) (pN:cap0<=9223372036854775807)
  (hok:Z74 m0 n) (tU:aA wb w) (ht:ae wb) (ry:∀ b,bV g0 om b->wb.heap.size<=b) :
  Calls prog 84 #[.slice (some ⟨g0,0,none⟩) m0.length cap0,.int .i64 n] w fun e w'=>∃ v tags,e=.returned (.tuple #[v,.string (aB (bK m0 n).last),.bool (bK m0 n).odd])/\cL w.heap.size w' v (bK m0 n).lead/\dJ w' g0 tags (bK m0 n).m/\(∀ b,bV g0 tags b↔bV g0 om b)/\aG (bV g0 om) w w':=by
 have HM:=oA hM;have HC:=oA hC;have HOK:=oA hok;have HWB:=oA tU;have HT:=oA ht;have HBL:=oA ry;have HSH:=oA (U0_ hC);have G6:Hid (∀ c,c<=n->(bK m0 c).lead.length=m0.length->bK m0 n=bK m0 c):=fun c h1 h2=>by
  have:=E1_ hC h2 (n-c);rw [show c+(n-c)=n by omega] at this;exact this
 obtain ⟨L,hL⟩:=oc m0.length;rw [<- hL] at hl pk HSH G6 |-;have HL:=oA hL;have HBW:Hid (∀ b,bV g0 om b->b<w.heap.size):=fun b hb=>hM.blt hb;have yY:Hid (dK w w g0 w.heap.size om (bK m0 0).m (.slice none 0 0) (bK m0 0).lead om):=⟨hM,cL.nil _ _,fun b=>Iff.rfl,aG.refl _ _,oK _⟩;have HI1:Hid (aB (bK m0 0).last=⟨#[49]⟩/\(bK m0 0).odd=false):=⟨by show aB 1=_;decide +kernel,rfl⟩;clear hM hC hok tU ht ry hL
 go_enter func84,ntmps84
 go_wp2_with fail
 go_loopw [10,7,8,9] (fun t v la od wr=>∃ (c:Nat) (tags:List (Nat×Nat)) (b:ByteArray) (o:Bool),c<=n/\t=.int .i64 c/\la=.string b/\od=.bool o/\Hid (b=aB (bK m0 c).last)/\Hid (o=(bK m0 c).odd)/\Hid (dK w wr g0 w.heap.size om (bK m0 c).m v (bK m0 c).lead tags)) (fun t _ _ _ _=>n-(intOf t).toNat)
 case atStart=>exact ⟨0,om,_,_,by omega,rfl,rfl,rfl,HI1.1.symm,HI1.2.symm,yY⟩
 case round =>
  obtain ⟨c,tags,lb,ob,hc,rfl,rfl,rfl,HLB,Bj,HR⟩:=hrel;obtain ⟨wo,rfl⟩:∃ wo:World,wo=wr:=⟨_,rfl⟩;clear yY HI1;have Jp:Hid (aA wb wo):=Below.trans HWB (HR.grown.belowE (B:=wb.heap.size) HBL HWB.size);obtain ⟨av,cv,hv,hv1,tx⟩:=HR.lead.form;obtain ⟨k,hk⟩:=oc ((bK m0 c).lead.length);rw [<- hk] at hv hv1;have HK:=oA hk;have D3:k<=L:=by rw [hk];exact (HSH c).2.2
  subst hv;clear hk;by_cases hlt:c<n/\k<L
  ·obtain ⟨s6,hkl⟩:=hlt;have z1:(c:Int)<(n:Int):=(by omega);have z2:(k:Int)<(L:Int):=(by omega);obtain ⟨S,hS⟩:=oc (bK m0 c);have HS:=oA hS;rw [<- hS] at HR HK HLB Bj;have qt:Hid (cI C S.m/\S.m.length=L):=(by unfold Hid;rw [hS];exact ⟨(HSH c).1,(HSH c).2.1⟩);have HBG:Hid (∀ b,bV g0 tags b->b<w.heap.size):=fun b hb=>HBW b ((HR.same b).1 hb);clear hS;go_wp2_with fail
   go_loopw [12] (fun t wr=>∃ a:Nat,t=.int .i64 a/\k<=a/\a<=L/\Hid (∀ j,k<=j->j<a->aV S.m j c=0)/\wr=wo) (fun t _=>L-(intOf t).toNat)
   case atStart=>exact ⟨k,rfl,by omega,D3,(fun j h1 h2=>by omega),rfl⟩
   case round =>
    obtain ⟨a,rfl,BU,ze,HZ,rfl⟩:=hrel;obtain ⟨wo,rfl⟩:∃ wo:World,wo=wr:=⟨_,rfl⟩;by_cases pT:a<L
    ·have KU:(a:Int)<(L:Int):=(by omega);obtain ⟨r,hr⟩:∃ r,S.m[a]?=some r:=⟨_,oB (by rw [qt.out.2];exact pT)⟩;obtain ⟨t,ht,c1,h1,h2,hrow,-,-⟩:=HR.mat.get hr;have hrl:=qt.1 r (oE hr);obtain ⟨x,hx⟩:∃ x,r[c]?=some x:=⟨_,oB (by omega)⟩;have g2:=hrow.cell c x hx;have HXE:Hid (aV S.m a c=x):=(by unfold Hid aV;rw [oD (l:=S.m),hr];show r.getD c 0=x;rw [oD,hx];rfl);rw [hrl] at c1 h1;have Im:c<C:=(by omega);have hz:=fV x;clear hr ht hrow hrl hx;by_cases pG:x=0
     ·have HZ2:Hid (∀ j,k<=j->j<a+1->aV S.m j c=0):=fun j h1 h2=>by
       by_cases e:j=a;·rw [e,HXE.out,pG]
       ·exact HZ j h1 (by omega)
      rw [oT pG] at hz;have hz2:(aB x).toList=[48]:=beq_iff_eq.1 hz;clear pG;go_wp2_with fail;go_roundw
      case rel=>exact ⟨a+1,by go_num,by omega,by omega,HZ2,by first | rfl | trivial⟩
      case measure=>simp [intOf];omega
     ·have HX0:=oA pG;rw [oS pG] at hz;have hz2:¬ (aB x).toList=[48]:=fun e=>by rw [e] at hz;exact absurd hz (by decide)
      have yt:((a:Int) == (L:Int))=false:=(by rw [beq_eq_false_iff_ne];omega);clear pG;obtain ⟨bak,sZ⟩:=oZ (((a:Int) != (k:Int)));have HBK:=oA sZ;have AW:k<S.m.length:=(by rw [qt.out.2];exact hkl);have Ai:a<S.m.length:=by rw [qt.out.2];exact pT
      go_upto_if 54 with fail
      go_cut [9] from 55 to 70 (fun s wx=>∃ Dp:Bool,s=.bool Dp/\Hid (Dp=if a=k then ob else !ob)/\Hid (∃ o4,dK w wx g0 w.heap.size om (if a=k then S.m else bE S.m k a) (.slice av k cv) S.lead o4)/\Hid (wo.heap.size<=wx.heap.size))
      case first =>
       by_cases rQ:a=k
       ·have hb:bak=false:=(by rw [<- HBK.out,rQ];simp);have HF:Hid (∃ o4,dK w wo g0 w.heap.size om (if a=k then S.m else bE S.m k a) (.slice av k cv) S.lead o4):=by
         unfold Hid;rw [if_pos rQ];exact ⟨tags,HR⟩
        have HO2:Hid (ob=if a=k then ob else !ob):=(by unfold Hid;rw [if_pos rQ]);clear HBK sZ rQ;subst hb;go_wp2_with fail;go_meet;exact ⟨ob,rfl,HO2,HF,oK _⟩
       ·have hb:bak=true:=(by rw [<- HBK.out];simp;omega);have FB:¬ k=a:=fun e=>rQ e.symm;obtain ⟨s,t',hs,rO,e1,e3,f1,f3,i1,i3,i2,i4,hmid,zW⟩:=HR.swap HBW qt.1 AW Ai;have HF:Hid (∃ o4,dK w ((wo.setCell ⟨g0,k,none⟩ (.slice (some ⟨t'.1,0,none⟩) C t'.2)).setCell ⟨g0,a,none⟩ (.slice (some ⟨s.1,0,none⟩) C s.2)).drew g0 w.heap.size om (if a=k then S.m else bE S.m k a) (.slice av k cv) S.lead o4):=by
         unfold Hid;rw [if_neg rQ];exact ⟨_,hmid.ext (aA.drew _)⟩
        have HF2:Hid (∃ o4,dK w ((wo.setCell ⟨g0,a,none⟩ (.slice (some ⟨s.1,0,none⟩) C s.2)).setCell ⟨g0,k,none⟩ (.slice (some ⟨t'.1,0,none⟩) C t'.2)).drew g0 w.heap.size om (if a=k then S.m else bE S.m k a) (.slice av k cv) S.lead o4):=by
         unfold Hid;rw [if_neg rQ,Z4L];exact ⟨_,zW.ext (aA.drew _)⟩
        have HO2:Hid ((!ob)=if a=k then ob else !ob):=(by unfold Hid;rw [if_neg rQ]);clear rQ;have HSZ:∀ a v b u,Hid (wo.heap.size<=((wo.setCell a v).setCell b u).drew.heap.size):=fun a v b u=>by show wo.heap.size<=((wo.setCell a v).setCell b u).heap.size;rw [db,db];exact oK _
        clear HBK sZ hmid zW hs rO c1 g2 h1 h2;subst hb;go_wp2_with fail
        go_region
        all_goals
         go_wp2_with fail;go_meet;exact ⟨_,rfl,HO2,by first | exact HF | exact HF2,(HSZ _ _ _ _).out⟩
      case rest =>
       obtain ⟨Dp,rfl,HO2,HMM,L9⟩:=hcut;obtain ⟨o4,re⟩:=HMM.out;obtain ⟨m1,hm1⟩:∃ m1,m1=if a=k then S.m else bE S.m k a:=⟨_,rfl⟩
       rw [<- hm1] at re;have HM1:=oA re;have qc:Hid (cI C m1/\m1.length=L):=by
        unfold Hid;rw [hm1];split;·exact qt
        ·exact ⟨qt.1.swp _ _,by rw [h_];exact qt.2⟩
       have HE1:Hid (∀ i j,aV m1 i j=aV S.m (aT k a i) j):=fun i j=>by
        rw [hm1];by_cases e:a=k;·rw [if_pos e,e,lK]
        ·rw [if_neg e];exact k7_ AW Ai i j
       obtain ⟨pv,yf⟩:=oc (aV m1 k c);obtain ⟨d,hd⟩:=oc S.last;have qL:Hid (∀ i j,pv*aV m1 i j-aV m1 i c*aV m1 k j=d*((pv*aV m1 i j-aV m1 i c*aV m1 k j) / d)):=fun i j=>by
        have:=HOK.dvd c a s6 (by rw [<- HS.out,<- HK.out];exact BU) (by rw [<- HL.out];exact pT) (by rw [<- HS.out,HXE.out];exact HX0) (by rw [<- HS.out,<- HK.out];exact HZ) m1 (by rw [<- HS.out,<- HK.out];exact hm1) i j;rw [<- HS.out,<- HK.out,<- yf,<- hd] at this;exact this
       have HNX:Hid (bK m0 (c+1)=⟨dY m1 c k pv d L,S.lead++[c],pv,Dp⟩):=by
        unfold Hid;show ed c (bK m0 c)=_;rw [<- HS.out];unfold ed;simp only;rw [<- HK.out,J3_ BU Ai (by rw [HXE.out];exact HX0.out) HZ.out,if_neg (by rw [qt.out.2];omega),<- hm1,<- yf,<- hd,qc.out.2,HO2.out,Bj.out]
       have DS:Hid (pv=x):=(by unfold Hid;rw [yf,HE1.out,show aT k a k=a by unfold aT;rw [if_pos rfl],HXE.out]);have Lx:Hid (∀ c',c'<=n->∀ i j,(aB (aV (bK m0 c').m i j)).size<=6000):=HOK.sz;have Dj:Hid (d≠0/\(aB d).size<=6000/\lb=aB d):=by
        unfold Hid;rw [hd,HS.out];exact ⟨HOK.ne c hc,HOK.lsz c hc,by rw [HLB.out,HS.out]⟩
       have HSM:Hid (∀ i j,(aB (aV m1 i j)).size<=6000):=fun i j=>by rw [HE1.out,HS.out];exact HOK.sz c hc _ _
       have MA:Hid (∀ i j,(aB (aV (dY m1 c k pv d L) i j)).size<=6000):=fun i j=>by
        have:=HOK.sz (c+1) (by omega) i j;rw [HNX.out] at this;exact this
       have hlb:=Dj.2.2;subst hlb;obtain ⟨rk,hrk⟩:∃ r,m1[k]?=some r:=⟨_,oB (by rw [qc.out.2];exact hkl)⟩;obtain ⟨tk,vA,c2,k1,k2,zQ,-,-⟩:=HM1.mat.get hrk;have hrkl:=qc.1 rk (oE hrk);obtain ⟨pp,hpp⟩:∃ p,rk[c]?=some p:=⟨_,oB (by omega)⟩;have g3:=zQ.cell c pp hpp;have vQ:pp=pv:=by
        rw [yf];unfold aV;rw [oD (l:=m1),hrk];show pp=rk.getD c 0;rw [oD,hpp];rfl
       subst vQ;have MD:Hid (aV m1 k c=pp):=yf.symm;rw [hrkl] at c2 k1;have HRK:Hid (m1[k]?=some rk/\rk.length=C/\o4[k]?=some tk):=⟨hrk,hrkl,vA⟩;have hDS:=HM1.size;have vK:Hid (∀ b,bV g0 o4 b->b<w.heap.size):=fun b hb=>HBW b ((HM1.same b).1 hb);clear re hm1 yf hd hrk vA zQ hrkl hpp HMM HR HOK HE1 DS HXE HX0 HZ Lx hz hz2 g2 c1 h1 h2 yt HBK sZ qt HSH G6 Bj;go_wp2_with fail;clear c2 g3
       go_loopw [14] (fun tv wr=>∃ i:Nat,tv=.int .i64 i/\i<=L/\Hid (dK w wr g0 w.heap.size om (dY m1 c k pp d i) (.slice av k cv) S.lead o4)) (fun tv _=>L-(intOf tv).toNat)
       case atStart=>exact ⟨0,rfl,by omega,HM1⟩
       case round =>
        obtain ⟨i,rfl,FL,HMI⟩:=hrel;obtain ⟨wi,rfl⟩:∃ wi:World,wi=wr:=⟨_,rfl⟩;by_cases hil:i<L
        ·have q5:(i:Int)<(L:Int):=(by omega);by_cases hik:i=k
         ·have hb:((i:Int) == (k:Int))=true:=(by rw [hik];exact beq_self_eq_true _);have sf:Hid (dK w wi g0 w.heap.size om (dY m1 c k pp d (i+1)) (.slice av k cv) S.lead o4):=by
           unfold Hid;rw [show dY m1 c k pp d (i+1)=dY m1 c k pp d i by show (if i=k then _ else _)=_;rw [if_pos hik]];exact HMI
          clear hik;go_wp2_with fail;go_roundw
          case rel=>exact ⟨i+1,by go_num,by omega,sf⟩
          case measure=>simp [intOf];omega
         ·have hb:((i:Int) == (k:Int))=false:=(by rw [beq_eq_false_iff_ne];omega);have HIK:=oA hik;obtain ⟨M,qT⟩:=oc (dY m1 c k pp d i);obtain ⟨ri,qJ⟩:∃ r,m1[i]?=some r:=⟨_,oB (by rw [qc.out.2];exact hil)⟩;have yU:M[i]?=some ri:=(by rw [qT,T3_ m1 c k pp d i i (.inl (oK _))];exact qJ);have JA:M[k]?=some rk:=(by rw [qT,T3_ m1 c k pp d i k (.inr rfl)];exact HRK.1);have zR:kH m1 i=ri:=(by unfold kH;rw [oD,qJ];rfl);have xA:kH m1 k=rk:=(by unfold kH;rw [oD,HRK.out.1];rfl);have hril:=qc.1 ri (oE qJ);obtain ⟨f,hf⟩:∃ f,ri[c]?=some f:=⟨_,oB (by omega)⟩;have BW:aV m1 i c=f:=(by unfold aV;rw [oD (l:=m1),qJ];show ri.getD c 0=f;rw [oD,hf];rfl);have rz:Hid (dY m1 c k pp d (i+1)=M.set i (fi pp f d ri rk)):=by
           unfold Hid;show (if i=k then _ else _)=_;rw [if_neg hik,<- qT,BW,zR,xA]
          rw [<- qT] at HMI;obtain ⟨ti,vh,c5,sy,pg,hrow,-,-⟩:=HMI.mat.get yU;rw [hril] at c5 sy;have g5:=hrow.cell c f hf;have xx:Hid (o4[i]?=some ti):=vh;have HRI:Hid (M[i]?=some ri/\ri.length=C/\M[k]?=some rk/\m1[i]?=some ri/\aV m1 i c=f):=⟨yU,hril,JA,qJ,BW⟩;have HNL:Hid ((fi pp f d ri rk).length=ri.length):=t8_ (by rw [HRK.out.2.1,hril]);clear qT qJ yU JA zR xA hril hf BW vh hrow hik;go_wp2_with fail;clear c5 g5
          go_loopw [16] (fun tv wr=>∃ j:Nat,tv=.int .i64 j/\j<=C/\Hid (dK w wr g0 w.heap.size om (M.set i (cn (fi pp f d ri rk) ri j)) (.slice av k cv) S.lead o4)) (fun tv _=>C-(intOf tv).toNat)
          case atStart=>exact ⟨0,rfl,by omega,by unfold Hid;rw [P7_,nx HRI.out.1];exact HMI⟩
          case round =>
           obtain ⟨j,rfl,Kr,qK⟩:=hrel;obtain ⟨wj,rfl⟩:∃ wj:World,wj=wr:=⟨_,rfl⟩;have hP:(M.set i (cn (fi pp f d ri rk) ri j))[i]?=some (cn (fi pp f d ri rk) ri j):=v4_ HRI.1;have Bc:(M.set i (cn (fi pp f d ri rk) ri j))[k]?=some rk:=(by rw [oW,if_neg HIK.out];exact HRI.2.2.1);have wV:(cn (fi pp f d ri rk) ri j).length=C:=(by rw [H1_ _ _ _ HNL.out];exact HRI.2.1);obtain ⟨t',rO,c5,-,-,hrow,-⟩:=qK.mat.get hP;obtain rfl:ti=t':=oM (xx.symm.trans rO);obtain ⟨t',vi,c6,-,-,rU,-⟩:=qK.mat.get Bc;obtain rfl:tk=t':=oM (HRK.2.2.symm.trans vi);rw [wV] at c5;rw [HRK.out.2.1] at c6;by_cases hj:j<C
           ·have q6:(j:Int)<(C:Int):=(by omega);obtain ⟨u,hu⟩:∃ u,ri[j]?=some u:=⟨_,oB (by rw [HRI.out.2.1];exact hj)⟩;obtain ⟨y,hy⟩:∃ y,rk[j]?=some y:=⟨_,oB (by rw [HRK.out.2.1];exact hj)⟩;have hPu:=H0_ HNL (oK j) hu;have g5:=hrow.cell j u hPu;have g6:=rU.cell j y hy;have Dr:aV m1 i j=u:=(by unfold aV;rw [oD (l:=m1),HRI.out.2.2.2.1];show ri.getD j 0=u;rw [oD,hu];rfl);have qf:aV m1 k j=y:=(by unfold aV;rw [oD (l:=m1),HRK.out.1];show rk.getD j 0=y;rw [oD,hy];rfl);have vQ:aV m1 k c=pp:=MD.out;obtain ⟨z,hz⟩:=oc ((pp*u-f*y) / d);have hdv:=qL i j;rw [Dr,qf,HRI.out.2.2.2.2,<- hz] at hdv;have sL:(aB z).size<=6000:=by
             have:=MA i j;rw [z9_ qc.out.1 c k pp d (by rw [qc.out.2];omega) j L (by rw [qc.out.2];exact oK _) i,if_pos ⟨hil,HIK⟩,Dr,qf,HRI.out.2.2.2.2,<- hz] at this;exact this
            have hs1:=HSM i j;have hs2:=HSM k j;have hs3:=HSM i c;have hs4:=HSM k c;rw [Dr] at hs1;rw [qf] at hs2;rw [HRI.out.2.2.2.2] at hs3;rw [vQ] at hs4;have Bs:Hid (aA wb wj):=Below.trans HWB (qK.grown.belowE (B:=wb.heap.size) HBL HWB.size);have MX:Hid (∀ W,aA wj W->oX 139 #[.string (aB pp),.string (aB u),.string (aB f),.string (aB y),.string (aB d)] W (.string (aB z))):=fun W hW =>
             k0_ pp u f y d z W hs4 hs1 hs3 hs2 Dj.2.1 Dj.1 hdv sL (HT.ext (Bs.trans hW))
            have BT:(fi pp f d ri rk)[j]?=some z:=by
             unfold fi;rw [List.getElem?_zipWith,hu,hy,hz]
            have tT:Hid (∀ W,aA wj W->dK w (W.setCell ⟨ti.1,j,none⟩ (.string (aB z))) g0 w.heap.size om (M.set i (cn (fi pp f d ri rk) ri (j+1))) (.slice av k cv) S.lead o4):=fun W hW=>by
             have hn:=(qK.ext hW).setEl vK xx hP (j:=j) (by rw [wV];exact hj) z;rw [List.set_set,H2_ HNL.out BT] at hn;exact hn
            have HFR:Hid (∀ W,aA wj W->W.frozen? ⟨ti.1,j,none⟩=false):=fun W hW=>(hrow.ext hW).free _;clear rO vi hP Bc wV hrow rU hu hy hPu Dr qf vQ hz hdv sL hs1 hs2 hs3 hs4 BT;go_wp2_with fail;refine jE (fun w'=>w'.cell? ⟨g0,i,none⟩=some (.slice (some ⟨ti.1,0,none⟩) C ti.2)/\w'.cell? ⟨g0,k,none⟩=some (.slice (some ⟨tk.1,0,none⟩) C tk.2)/\w'.cell? ⟨ti.1,j,none⟩=some (.string (aB u))/\w'.cell? ⟨tk.1,j,none⟩=some (.string (aB y))/\Hid (aA wj w')) 24 (by kernel_rfl) ⟨(aA.drew wj).cell c5,(aA.drew wj).cell c6,(aA.drew wj).cell g5,(aA.drew wj).cell g6,aA.drew wj⟩ (fun oh=>?_);refine rA [0,1,2,3,4,5,6,7,8,9,10,11,12,13,14,15,16,17,18,19,20,21] ?_
            iterate 22 ((first|(refine rL (v:=?_) (by rfl) (Or.inl ⟨by rfl,?_⟩) ?_;rotate_left;·((intro w' pO);(try dsimp only at pO);(try go_simp);(try with_reducible rfl)))|(refine rW (v:=?_) (by rfl) (Or.inl ⟨by rfl,?_⟩) ?_;rotate_left;·((intro w');(try go_simp);(try with_reducible rfl))));(try simp only [Act.put,aP,aQ,aR]))
            refine rE ?_;refine dh 22 (by kernel_rfl) rfl (fun K hK=>?_);go_simp
            (go_at_call 139;refine (MX _ oh.2.2.2.2).mono ?_)
            rintro e wz ⟨rfl,ow⟩;go_wp2_with fail;refine hK _ _ (⟨ow.cell oh.1,ow.cell oh.2.1,ow.cell oh.2.2.1,ow.cell oh.2.2.2.1,aA.trans oh.2.2.2.2 ow⟩) (fun oh=>?_);clear hK K
            (try simp only [Act.put,aP,aQ,aR])
            refine tW (v:=?_) 23 rfl (Or.inl ⟨by rfl,?_⟩) ?_;rotate_left;·((intro w');(try go_simp);(try with_reducible rfl))
            (try simp only [Act.put,aP,aQ,aR])
            have z1:=oh.2.2.1;have z4:=HFR _ oh.2.2.2.2;have HM7:=tT _ oh.2.2.2.2;refine fw 24 (by kernel_rfl) (by kernel_rfl) (by kernel_rfl) rfl (fun K hK=>?_);go_simp;refine hK _ _ ?_;clear hK K
            (try simp only [Act.put,aP,aQ,aR])
            go_wp2_with fail;go_roundw
            case rel=>exact ⟨j+1,by go_num,by omega,HM7⟩
            case measure=>simp [intOf];omega
           ·have q6:¬ (j:Int)<(C:Int):=(by omega);have sf:Hid (dK w wj g0 w.heap.size om (dY m1 c k pp d (i+1)) (.slice av k cv) S.lead o4):=by
             have h8:=qK.out;rw [I9_ _ _ _ HNL.out (by rw [HRI.out.2.1];omega)] at h8;unfold Hid;rw [rz.out];exact h8
            clear rO vi hP Bc wV hrow rU;go_wp2_with fail;go_roundw
            case rel=>exact ⟨i+1,by go_num,by omega,sf⟩
            case measure=>simp [intOf];omega
        ·have q5:¬ (i:Int)<(L:Int):=(by omega);have HM3:Hid (dK w wi g0 w.heap.size om (dY m1 c k pp d L) (.slice av k cv) S.lead o4):=by
          have AX:i=L:=(by omega);rw [<- AX];exact HMI
         have HB3:=oA HM3.lead.build;have HLL:Hid (S.lead.length<1000000):=(by unfold Hid;rw [<- HK.out];omega);have hszr:w.heap.size<=wi.heap.size:=HM3.size;go_wp2_with (at_builtin;go_must (refine eM _ rfl _ _ 26 rfl w.heap.size 3 (.int .i64 0) 1 8 underlying26 jy rfl (by decide) (.slice av k cv) nS S.lead c #[.int .i64 c] 3 rfl HB3 rfl rfl ?e1 (fun _ _=>rfl) HLL (by decide) hszr ?_))
         all_goals first | (simp [Value.oneCell'];done) | skip
         intro v' w5 o8 pS hb5 qu _;have HF:=oA (HM3.push vK (oK _) hb5 o8.ownI);clear o8 pS hb5 HB3;go_wp2_with fail;go_roundw
         case rel=>exact ⟨c+1,o4,_,_,by omega,by go_num,rfl,rfl,by rw [HNX.out];exact rfl,by rw [HNX.out];exact rfl,by rw [HNX.out];exact HF⟩
         case measure=>simp [intOf];omega
    ·obtain rfl:a=L:=(by omega);have KU:¬ (a:Int)<(a:Int):=(by omega);have HNX:Hid (bK m0 (c+1)=S):=by
      unfold Hid;show ed c (bK m0 c)=S;rw [<- HS.out];unfold ed;simp only
      rw [D3_ (by rw [<- HK.out,qt.out.2];exact D3) (fun j hj=>by
       by_cases FG:j<a;·exact HZ j (by have:=HK.out;omega) FG
       ·exact y0_ (by rw [qt.out.2];omega)),if_pos rfl]
     go_wp2_with fail;go_roundw
     case rel=>exact ⟨c+1,tags,_,_,by omega,by go_num,rfl,rfl,by rw [HNX.out];exact HLB,by rw [HNX.out];exact Bj,by rw [HNX.out];exact HR⟩
     case measure=>simp [intOf];omega
  ·have zD:Hid (bK m0 n=bK m0 c):=by
    by_cases h1:c<n;·exact G6 c hc (by rw [<- HK.out];omega)
    ·unfold Hid;rw [show c=n by omega]
   by_cases h1:c<n
   ·have z1:(c:Int)<(n:Int):=(by omega);have z2:¬ (k:Int)<(L:Int):=(by omega);clear hlt h1;go_wp2_with fail;go_ret3;exact ⟨_,by rw [zD.out,<- HLB.out,<- Bj.out];rfl,by rw [zD.out];exact ⟨HR.lead,tags,HR.mat,HR.same,HR.grown⟩⟩
   ·have z1:¬ (c:Int)<(n:Int):=(by omega);clear hlt h1;go_wp2_with fail;go_ret3;exact ⟨_,by rw [zD.out,<- HLB.out,<- Bj.out];rfl,by rw [zD.out];exact ⟨HR.lead,tags,HR.mat,HR.same,HR.grown⟩⟩
theorem Z1Y (a:Option Addr) (l cp n:Nat) (w:World) (h0:n=0\/l=0) :
  oX 84 #[.slice a l cp,.int .i64 n] w (.tuple #[.slice none 0 0,.string ⟨#[49]⟩,.bool false]):=by
 rcases h0 with rfl | rfl
 ·go_enter func84,ntmps84
  go_wp2_with fail
  go_loopw [10,7,8,9] (fun t p la od wr=>t=.int .i64 0/\p=.slice none 0 0/\la=.string ⟨#[49]⟩/\od=.bool false/\wr=w) (fun t _ _ _ _=>0)
  case atStart=>exact ⟨rfl,rfl,rfl,rfl,rfl⟩
  case round =>
   obtain ⟨rfl,rfl,rfl,rfl,rfl⟩:=hrel;go_wp2_with fail;go_ret3;exact ⟨rfl,aA.refl _⟩
 ·by_cases hn:n=0
  ·subst hn
   go_enter func84,ntmps84
   go_wp2_with fail
   go_loopw [10,7,8,9] (fun t p la od wr=>t=.int .i64 0/\p=.slice none 0 0/\la=.string ⟨#[49]⟩/\od=.bool false/\wr=w) (fun t _ _ _ _=>0)
   case atStart=>exact ⟨rfl,rfl,rfl,rfl,rfl⟩
   case round =>
    obtain ⟨rfl,rfl,rfl,rfl,rfl⟩:=hrel;go_wp2_with fail;go_ret3;exact ⟨rfl,aA.refl _⟩
  ·have z1:(0:Int)<(n:Int):=by omega
   go_enter func84,ntmps84
   go_wp2_with fail
   go_loopw [10,7,8,9] (fun t p la od wr=>t=.int .i64 0/\p=.slice none 0 0/\la=.string ⟨#[49]⟩/\od=.bool false/\wr=w) (fun t _ _ _ _=>0)
   case atStart=>exact ⟨rfl,rfl,rfl,rfl,rfl⟩
   case round =>
    obtain ⟨rfl,rfl,rfl,rfl,rfl⟩:=hrel;go_wp2_with fail;go_ret3;exact ⟨rfl,aA.refl _⟩
theorem R0_ {xss:oe} (hE:cK xss=0):cI (bZ xss) xss:=fun r hr=>((jd hE).2 r hr).1
theorem Z3r {xss:oe} (hE:cK xss=0) (i j:Nat):bT 1000000000 (aF (bF xss) i j):=i0_ (fun r hr a ha=>((jd hE).2 r hr).2.2 a ha) i j
theorem Z1Z (xss:oe) (u:Value) (tags:List (Nat×Nat)) (n B:Nat) (wb w:World) (hE:cK xss=0) (hn:n<=bZ xss) (hpos:0<xss.length) (hO:bf mF 29 w B B u tags xss) (tU:aA wb w) (ht:ae wb) (hB:wb.heap.size<=B) :
  Calls prog 84 #[u,.int .i64 n] w fun e w'=>∃ v,e=.returned (.tuple #[v,.string (aB (bK xss n).last),.bool (bK xss n).odd])/\cL w.heap.size w' v (bK xss n).lead/\aA wb w':=by
 obtain ⟨hl,qv⟩:=jd hE;have yn:bZ xss<=12:=by
  cases xss with
  | nil=>simp at hpos
  | cons r l=>exact (qv r (by simp)).2.1
 rcases hO.own.2 with ⟨hv,h0⟩ | ⟨g,cap,cur,hv,-⟩
 ·omega
 ·subst hv;obtain ⟨hM,h1,h2,h3⟩:=hO.matN (oK _);refine (Z3W xss g cap n (bZ xss) tags wb w hM (R0_ hE) hn (by omega) (by omega) h1 h2 (Z5t (R0_ hE) hl (Z3r hE) n) tU ht (fun b hb=>oJ hB (h3 b hb))).mono ?_;rintro e w' ⟨v,tags',g1,g2,g3,g4,g5⟩;exact ⟨v,g1,g2,Below.trans tU (g5.belowE (B:=wb.heap.size) (fun b hb=>oJ hB (h3 b hb)) tU.size)⟩
theorem Z7e (w:World) (C:Array Value) (T:TypeId):∃ W,(w.alloc (.cells C T))=W/\aA w W/\W.heap.size=w.heap.size+1/\W.heap[w.heap.size]?=some (.cells C T (0,0)) :=
 ⟨_,rfl,aA.alloc _ _,by simp,fC _ _ _⟩
theorem Z1x:∀ n,n<7->∀ k,k<n+1->0<(aS n k).length:=by decide +kernel
theorem lu {α:Type} {l:List α} {i:Nat} {x:α} (h:l[i]?=some x):l.drop i=x::l.drop (i+1):=by
 obtain ⟨hi,hx⟩:=oC.1 h;rw [List.drop_eq_getElem_cons hi,hx]
theorem Z0P (f:Nat):fJ (f+1) [] []=some []:=rfl
theorem p1_ (f y:Nat) (b:List Nat):fJ (f+2) [] (y::b)=(fJ (f+1) [] b).map (y::·):=rfl
theorem i1_ (f x:Nat) (a:List Nat):fJ (f+2) (x::a) []=(fJ (f+1) a []).map (x::·):=by cases a <;> rfl
theorem i2_ (f x:Nat) (a b:List Nat):fJ (f+1) (x::a) (x::b)=none:=by simp [fJ]
theorem Z2J (f:Nat) {x y:Nat} (a b:List Nat) (h:x<y):fJ (f+1) (x::a) (y::b)=(fJ f a (y::b)).map (x::·):=by
 simp only [fJ];rw [if_neg (by omega),if_pos h]
theorem Z2I (f:Nat) {x y:Nat} (a b:List Nat) (h:y<x):fJ (f+1) (x::a) (y::b)=(fJ f (x::a) b).map (y::·):=by
 simp only [fJ];rw [if_neg (by omega),if_neg (by omega)]
def ef (a b:List Nat) (i k:Nat) (out:List Nat):Prop:=x8_ a b=(fJ (a.length+b.length+1-i-k) (a.drop i) (b.drop k)).map (out++·)
theorem x7_ (out:List Nat) (x:Nat) (o:Option (List Nat)):(o.map (x::·)).map (out++·)=o.map ((out++[x])++·):=by
 cases o <;> simp
theorem ef.start (a b:List Nat):ef a b 0 0 []:=by unfold ef x8_;simp
theorem ef.left {a b out:List Nat} {i k x:Nat} (h:ef a b i k out) (hk:k<=b.length) (hx:a[i]?=some x) (hy:∀ y,b[k]?=some y->x<y):ef a b (i+1) k (out++[x]):=by
 unfold ef at h |-;have hi:=(oC.1 hx).1;have e:=lu hx;rw [h,e];obtain ⟨f,hf⟩:∃ f,a.length+b.length+1-i-k=f+2:=⟨a.length+b.length-1-i-k,by omega⟩;rw [hf,show a.length+b.length+1-(i+1)-k=f+1 by omega];cases hb:b[k]? with
 | none =>
  rw [List.drop_eq_nil_of_le (List.getElem?_eq_none_iff.1 hb),i1_,x7_]
 | some y =>
  rw [lu hb,Z2J _ _ _ (hy y hb),x7_]
theorem ef.right {a b out:List Nat} {i k y:Nat} (h:ef a b i k out) (hi:i<=a.length) (hy:b[k]?=some y) (hx:∀ x,a[i]?=some x->y<x):ef a b i (k+1) (out++[y]):=by
 unfold ef at h |-;have hk:=(oC.1 hy).1;have e:=lu hy;rw [h,e];obtain ⟨f,hf⟩:∃ f,a.length+b.length+1-i-k=f+2:=⟨a.length+b.length-1-i-k,by omega⟩;rw [hf,show a.length+b.length+1-i-(k+1)=f+1 by omega];cases ha:a[i]? with
 | none =>
  rw [List.drop_eq_nil_of_le (List.getElem?_eq_none_iff.1 ha),p1_,x7_]
 | some x =>
  rw [lu ha,Z2I _ _ _ (hx x ha),x7_]
theorem ef.same {a b out:List Nat} {i k x:Nat} (h:ef a b i k out) (hx:a[i]?=some x) (hy:b[k]?=some x):x8_ a b=none:=by
 unfold ef at h;have hi:=(oC.1 hx).1;have hk:=(oC.1 hy).1;obtain ⟨f,hf⟩:∃ f,a.length+b.length+1-i-k=f+1:=⟨a.length+b.length-i-k,by omega⟩;rw [h,hf,lu hx,lu hy,i2_];rfl
theorem ef.done {a b out:List Nat} (h:ef a b a.length b.length out):x8_ a b=some out:=by
 unfold ef at h;rw [h,List.drop_eq_nil_of_le (oK _),List.drop_eq_nil_of_le (oK _),show a.length+b.length+1-a.length-b.length=0+1 by omega,Z0P];simp
theorem ef.len {a b out:List Nat} {i k:Nat} (h:out.length=i+k):out.length<=i+k:=by omega
def lR (w:World) (b N n k:Nat) (L:List Nat):Prop:=∃ D:DataW Unit,w.ownsMap prog 100 (plainElem prog 3) b N D/\IsMap D/\(∀ s∈L,D.atKey (.int .u64 (s:Int)) (.lit (.int .i64 0))=.lit (.int .i64 (b8 n k s:Int)))/\Tidy D/\Maps.size D=L.length/\∀ x:Nat,has D (.int .u64 (x:Int))=true->x∈L
def mc (w:World) (v:Value) (n k:Nat):Prop:=∃ b N,v=.map (some b)/\lR w b N n k (aS n k)
theorem mc.one {w:World} {v:Value} {n k:Nat} (h:mc w v n k):fR w v n k:=by
 obtain ⟨b,N,hv,D,h1,h2,h3,-⟩:=h;exact ⟨b,N,hv,D,h1,h2,h3⟩
theorem lR.ext {w w':World} {b N n k:Nat} {L:List Nat} (h:lR w b N n k L) (he:aA w w'):lR w' b N n k L:=by
 obtain ⟨D,h1,h2⟩:=h;exact ⟨D,h1.kept (he.grown none) (by simp),h2⟩
theorem mc.ext {w w':World} {v:Value} {n k:Nat} (h:mc w v n k) (he:aA w w'):mc w' v n k:=by
 obtain ⟨b,N,hv,h1⟩:=h;exact ⟨b,N,hv,h1.ext he⟩
theorem lR.made (w:World) (n k:Nat):lR (w.alloc (.map #[] 0)) w.heap.size 0 n k []:=⟨.map [],World.ownsMap_made _ _ _ _,⟨_,rfl⟩,(fun s hs=>by cases hs),tidy_empty,rfl,fun x hx=>by cases hx⟩
section
variable {P:Program} {ops O:Array Oper} {Q:Exit->Act->World->Prop} {md:Region.Mode} {S:World->Prop} {z n:Nat}
def Z4Q (md:Region.Mode) (ops:Array Oper) (a i:Nat):Bool:=match ops[a]? with
 | some o=>o.after.any fun e=>Region.binds md e && e.on == i
 | none=>false
def nl (md:Region.Mode) (ops:Array Oper):Nat->List Nat->Nat->Bool
 | a,[],i=>Z4Q md ops a i
 | a,b::bs,i=>Z4Q md ops a b && nl md ops b bs i
theorem B2_:∀ (bs:List Nat) (a i:Nat),nl md ops a bs i=true->gQ md ops (bs.length+1) a i=true
 | [],a,i,h=>by
  unfold nl Z4Q at h;unfold gQ;cases hq:ops[a]? with
  | none=>rw [hq] at h;cases h
  | some o =>
   rw [hq] at h;obtain ⟨e,he,hb⟩:=Array.any_eq_true'.1 h;exact Array.any_eq_true'.2 ⟨e,he,by simp only [Bool.and_eq_true,Bool.or_eq_true] at hb |-;exact ⟨hb.1,Or.inl hb.2⟩⟩
 | b::bs,a,i,h=>by
  unfold nl Z4Q at h;rw [Bool.and_eq_true] at h;have ih:=B2_ bs b i h.2;have h:=h.1;show gQ md ops (bs.length+1+1) a i=true;unfold gQ;cases hq:ops[a]? with
  | none=>rw [hq] at h;cases h
  | some o =>
   rw [hq] at h;obtain ⟨e,he,hb⟩:=Array.any_eq_true'.1 h;simp only [Bool.and_eq_true,beq_iff_eq] at hb;exact Array.any_eq_true'.2 ⟨e,he,by simp only [Bool.and_eq_true,Bool.or_eq_true];exact ⟨hb.1,Or.inr (by rw [hb.2];exact ih)⟩⟩
theorem Z08 (hO:Hid (ops=O)) (i:Nat) (bs:List Nat) {oi:Oper} {v:Value} {f:Nat} {l:Array Bool} {a:Act} {w:World} (hi:ops[i]?=some oi)
  (hs:Region.noSelect O=true) (hc:mv md O l=true) (hf:Region.free md O l i=true) (hr:(Region.ready md O l).contains i=true) (hz:nl md O z bs i=true)
  (hQ:∀ c a w,Q (.panic c) (a.put oi.dst v) w->Q (.panic c) a w) (hy:YieldsIf P O S oi v a) (hS:S w)
  (h:bG P md ops Q S z f (l.setIfInBounds i true) (a.put oi.dst v) w):bG P md ops Q S z (f+1) l a w:=by
 have hO:ops=O:=hO;subst hO;exact F9_ hi (Region.noSelect_spec hs) hQ (B2_ bs z i hz) f l a w (Region.free_spec hi hf) (O8_ hc) (by simpa using hr) hy hS h
theorem Z06 (hO:Hid (ops=O)) (i:Nat) {o:Oper} {f:Nat} {l:Array Bool} {a:Act} {w:World} (hr:Region.ready md O l=[i]) (pX:Region.ready md O (l.setIfInBounds i true)=[]) (hz:(l.setIfInBounds i true).getD z false=true) (ho:ops[i]?=some o)
  (h:∀ K:Act->World->Prop,Shut (∀ b u,Q .normal b u->K b u)->if Region.wanted o (yielded O a.tmps)=true then Oper.wp P o a w K Q else K (a.put o.dst undef) w):bG P md ops Q S z (f+1) l a w:=by
 have hO:ops=O:=hO;subst hO;exact fw i hr pX hz ho h
end
theorem Z63 {x:Int} (h:x=0):((aB x).toList == [48])=true:=by rw [l_,h];rfl
theorem Z62 {x:Int} (h:x≠0):((aB x).toList == [48])=false:=by rw [l_];exact oS h
theorem cP.numsZ {w:World} {g c:Nat} {l:og} (h:cP w g l) (h1:l.length<=c) (h2:c<=9223372036854775807):aH 1 numC w (.slice (some ⟨g,0,none⟩) l.length c) l:=by
 refine ⟨l.map fun n=>[Value.string (aB n)],by simp,by simp,⟨_,c,rfl,h1,by unfold maxLen;omega,fun e=>by simp at e,fun _=>⟨g,0,rfl,h.lt,fun j u hu=>?_⟩⟩,fun j u x hu hx=>?_⟩
 ·rw [di (fun n=>Value.string (aB n)),oF] at hu;cases hx:l[j]? with
  | none=>rw [hx] at hu;cases hu
  | some x =>
   rw [hx] at hu;simp only [Option.map_some,Option.some.injEq] at hu;rw [Nat.zero_add,<- hu];exact h.cell j x hx
 ·rw [oF,hx] at hu;exact (oM hu).symm
def jg (w w':World):Prop:=w.heap.size<=w'.heap.size/\∀ a v,w.cell? a=some v->(∀ s,v≠.string s)->w'.cell? a=some v
theorem jg.refl (w:World):jg w w:=⟨oK _,fun _ _ h _=>h⟩
theorem jg.ext {w w' w'':World} (h:jg w w') (he:aA w' w''):jg w w'':=⟨oJ h.1 he.size,fun a v hv hs=>he.cell (h.2 a v hv hs)⟩
theorem jg.set {w w':World} {g p:Nat} {X:og} {v:ByteArray} (h:jg w w') (hR:cP w' g X) (hp:p<X.length):jg w (w'.setCell ⟨g,p,none⟩ (.string v)):=by
 refine ⟨by rw [db];exact h.1,fun a u hu hs=>?_⟩;have h1:=h.2 a u hu hs;have hne:a≠⟨g,p,none⟩:=by
  rintro rfl;rw [hR.cell p _ (oB hp)] at h1;exact hs _ (oM h1).symm
 rw [World.cell?_setCell_other w' _ _ _ (fun e=>hne e.symm)];exact h1
section
variable {P:Program} {ops:Array Oper} {Q:Exit->Act->World->Prop} {md:Region.Mode} {S:World->Prop} {z:Nat}
theorem Z04 (i j:Nat) {oi oj:Oper} {f:Nat} {l:Array Bool} {a:Act} {w:World} (hr:Region.ready md ops l=[i,j]) (hi:ops[i]?=some oi) (hj:ops[j]?=some oj)
  (h1:∀ K:Act->World->Prop,Shut (∀ b u,S u->(S u->bG P md ops Q S z f (l.setIfInBounds i true) b u)->K b u)->if Region.wanted oi (yielded ops a.tmps)=true then Oper.wp P oi a w K Q else K (a.put oi.dst undef) w)
  (h2:∀ K:Act->World->Prop,Shut (∀ b u,S u->(S u->bG P md ops Q S z f (l.setIfInBounds j true) b u)->K b u)->if Region.wanted oj (yielded ops a.tmps)=true then Oper.wp P oj a w K Q else K (a.put oj.dst undef) w):bG P md ops Q S z (f+1) l a w:=by
 refine ⟨(fun e=>by rw [hr] at e;cases e),fun m hm=>?_⟩;rw [hr] at hm;simp only [List.mem_cons,List.not_mem_nil,or_false] at hm;rcases hm with rfl | rfl;·exact wpOp_step hi fun K hK=>h1 K fun b u hS pL=>hK b u ⟨fun _=>hS,pL hS⟩
 ·exact wpOp_step hj fun K hK=>h2 K fun b u hS pL=>hK b u ⟨fun _=>hS,pL hS⟩
end
section
variable {P:Program} {ops O:Array Oper} {Q:Exit->Act->World->Prop} {md:Region.Mode} {S:World->Prop} {z:Nat}
theorem l3_ (hO:Hid (ops=O)) (i j:Nat) {oi oj:Oper} {f:Nat} {l:Array Bool} {a:Act} {w:World} (hr:Region.ready md O l=[i,j]) (hi:ops[i]?=some oi) (hj:ops[j]?=some oj)
  (h1:∀ K:Act->World->Prop,Shut (∀ b u,S u->(S u->bG P md ops Q S z f (l.setIfInBounds i true) b u)->K b u)->if Region.wanted oi (yielded O a.tmps)=true then Oper.wp P oi a w K Q else K (a.put oi.dst undef) w)
  (h2:∀ K:Act->World->Prop,Shut (∀ b u,S u->(S u->bG P md ops Q S z f (l.setIfInBounds j true) b u)->K b u)->if Region.wanted oj (yielded O a.tmps)=true then Oper.wp P oj a w K Q else K (a.put oj.dst undef) w):bG P md ops Q S z (f+1) l a w:=by
 have hO:ops=O:=hO;subst hO;exact Z04 i j hr hi hj h1 h2
end
structure Z6D (w3:World) (n k l:Nat) (X:og) (g gl cl:Nat) (wx:World):Prop where
 ext:aA w3 wx
 blk:wx.heap[g]?=some (.cells #[.int .i64 n,.int .i64 k,.slice (some ⟨gl,0,none⟩) l cl] 31 (0,0))
 row:cP wx gl X
 ne:gl≠g
 lg:w3.heap.size<=g
 lgl:w3.heap.size<=gl
 lc:l<=cl/\cl<=9223372036854775807
theorem Z0j {n k:Nat} {X:og} (hn:n<7) (hR:fS n k X) (u:Value) (w:World) (h:dO w u n k X) (ht:ae w) :
  Calls prog 44 #[u] w fun e w'=>∃ y,e=.returned (.tuple #[y,.int .i64 0])/\aA w w'/\dO w' y n k (dC X):=by
 have HCH:Hid (∀ W,aA w W->oX 47 #[u] W (.int .i64 0)):=fun W hW=>lh hR u W (h.ext hW);obtain ⟨r,rfl,hr⟩:=h;have HXV:=oA hr;obtain ⟨a,c,rfl,a1,a2,-,ac⟩:=bc.open (eO.of_nums hr);unfold maxLen at a2;have HAC:=oA ac;obtain ⟨l,hl⟩:=oZ X.length;have HL:=oA hl;have sv:0<l:=by rw [<- hl,hR.len];exact Z1x n hn k (by have:=hR.kn;omega)
 have Mz:l<=924:=by rw [<- hl,hR.len];exact lT (by omega) hR.kn
 rw [hl] at a1 HCH HXV |-;have HDG:=oA hR.dig;have HT:=oA ht;obtain ⟨w1,pE,hE1,hs1,hb1⟩:=ep w (.int .i64 n) (.int .i64 k) (.slice a l c);obtain ⟨w2,qU,hE2,hs2,hb2⟩:=ep w1 (.int .i64 0) (.int .i64 0) (.slice none 0 0);have HE2:=oA (hE1.trans hE2);have HB1:=oA (aJ hb1 hE2);have HB2:=oA hb2;have HSZ:Hid (w1.heap.size=w.heap.size+1/\w2.heap.size=w1.heap.size+1):=⟨hs1,hs2⟩;have k1:=aO HB1;clear hb1 hb2 hE1 hE2 hs1 hs2 hr ac hl hR ht hn
 go_enter func44,ntmps44
 go_wp2_with fail;refine (HCH w2 HE2).mono ?_;rintro e w3 ⟨rfl,oz⟩;have HE3:Hid (aA w w3):=HE2.trans oz;have HB13:=oA (aJ HB1 oz);have HB23:=oA (aJ HB2 oz);have c0:=aO HB13 0;have c1:=aO HB13 1;have c2:=aO HB13 2;simp only [oR,oP,oQ] at c0 c1 c2;have rN:Hid (w2.heap.size<=w3.heap.size):=oz.size;clear oz HCH k1 pE qU
 go_upto_region 4 with fail
 go_cut [5] from 16 to 23 (fun t wx=>∃ g gl cl,t=.pointer (some ⟨g,0,none⟩)/\Hid (Z6D w3 n k l X g gl cl wx))
 case first =>
  have Dl:Hid (∀ W,aA w3 W->Calls prog 90 #[.slice a l c] W fun e w'=>∃ r,e=.returned r/\aA W w'/\aU w' W.heap.size 53 1 r numC X):=fun W hW=>Z0n X _ W (aH.ext numC.mono' HXV (HE3.trans hW)) (by rw [HL.out];omega);refine lF (fun w'=>w'.cell? ⟨w.heap.size,0,none⟩=some (.int .i64 n)/\w'.cell? ⟨w.heap.size,1,none⟩=some (.int .i64 k)/\w'.cell? ⟨w.heap.size,2,none⟩=some (.slice a l c)/\Hid (aA w3 w')) 10 10 (by kernel_rfl) (by kernel_rfl) ⟨(aA.drew w3).cell c0,(aA.drew w3).cell c1,(aA.drew w3).cell c2,aA.drew w3⟩ (fun ops hO oh=>?_);refine rA [0,1,2,3,4,5] ?_
  iterate 6 (refine rS hO (by decide) fun o h=>?_;(conv at h=>lhs;whnf);subst h;(refine rY hO (v:=?_) (Or.inl ⟨by rfl,?_⟩) ?_;rotate_left;·((intro w' pO);(try dsimp only at pO);(try go_simp);(try with_reducible rfl)));(try simp only [Act.put,aP,aQ,aR]))
  refine rE ?_;have hi6:=cM hO 6 (by decide)
  conv at hi6=>rhs;arg 1;whnf
  have hi8:=cM hO 8 (by decide)
  conv at hi8=>rhs;arg 1;whnf
  refine l3_ hO 6 8 (by kernel_rfl) hi6 hi8 (fun K hK=>?_) (fun K hK=>?_)
  ·clear hi6 hi8;go_simp
   (go_at_call 90;refine (Dl _ oh.2.2.2).mono ?_)
   rintro e wz ⟨rv,rfl,ow,DE⟩;obtain ⟨gl,cl,rfl,yu,qP,xX,hcm⟩:=cP.of_build DE (by rw [HL.out];exact sv);rw [HL.out] at xX |-;have vF:Hid (aA w3 wz):=oh.2.2.2.trans ow;have HRZ:=oA yu;have HGB:Hid (w3.heap.size<=gl):=qP;have HGC:Hid (l<=cl/\cl<=9223372036854775807):=⟨xX,hcm⟩;have Jk:Hid (gl<wz.heap.size):=yu.lt;clear ow DE yu qP xX hcm;go_wp2_with fail;refine hK _ _ ⟨vF.cell c0,vF.cell c1,vF.cell c2,vF⟩ (fun oh=>?_);clear hK K
   (try simp only [Act.put,aP,aQ,aR])
   have hi:=cM hO 7 (by decide)
   conv at hi=>rhs;arg 1;whnf
   refine tX hO (v:=?_) 7 hi (Or.inl ⟨by rfl,?_⟩) ?_;rotate_left;·((intro w');(try go_simp);(try with_reducible rfl))
   clear hi
   (try simp only [Act.put,aP,aQ,aR])
   have hi:=cM hO 8 (by decide)
   conv at hi=>rhs;arg 1;whnf
   refine gK hO 8 (by kernel_rfl) hi (fun K hK=>?_);go_simp;refine (fun (h:∀ W0,W0=_->K _ W0)=>h _ rfl) (fun wA tV=>?_);have HBA:Hid (wA.heap[wz.heap.size]?=some (.cells #[.int .i64 0,.int .i64 0,.slice none 0 0] 31 (0,0))):=(by rw [tV];exact fC _ _ _);have wJ:Hid (aA w3 wA):=(by rw [tV];exact vF.trans (aA.alloc _ _));have HRA:Hid (cP wA gl X):=(by rw [tV];exact HRZ.ext (aA.alloc _ _));clear tV;refine hK _ _ ⟨wJ.cell c0,wJ.cell c1,wJ.cell c2,wJ⟩ (fun oh=>?_);clear hK K hi
   (try simp only [Act.put,aP,aQ,aR])
   have r9:=aO HBA;have f9:=cD HBA;have hi:=cM hO 9 (by decide)
   conv at hi=>rhs;arg 1;whnf
   refine kR hO 9 (by kernel_rfl) (by kernel_rfl) hi (fun K hK=>?_);go_simp;refine (fun (h:∀ W0,W0=_->K _ W0)=>h _ rfl) (fun wS tV=>?_);have y5:Hid (aA w3 wS):=(by rw [tV];exact eY wJ vF.size _ _ _);have Gl:Hid (Z6D w3 n k l X wz.heap.size gl cl wS):=by
    rw [tV];exact ⟨eY wJ vF.size _ _ _,fL HBA _ _ _,HRA.grown (gj (S:=(·=wz.heap.size)) (j6 _ _ _ _ _) (fun k hk=>by cases hk;rfl)) (fun e=>by have:=Jk.out;omega),fun e=>by have:=Jk.out;omega,vF.size,HGB,HGC⟩
   clear tV;refine hK _ _ ⟨y5.cell c0,y5.cell c1,y5.cell c2,y5⟩ ?_;clear hK K hi hO
   (try simp only [Act.put,aP,aQ,aR])
   go_wp2_with fail;go_meet;exact ⟨_,gl,cl,rfl,Gl⟩
  ·clear hi6 hi8;go_simp;refine (fun (h:∀ W0,W0=_->K _ W0)=>h _ rfl) (fun wA tV=>?_);have HBA:Hid (wA.heap[w3.heap.size]?=some (.cells #[.int .i64 0,.int .i64 0,.slice none 0 0] 31 (0,0))):=(by rw [tV];exact fC w3.drew _ _);have wJ:Hid (aA w3 wA):=(by rw [tV];exact (aA.drew w3).trans (aA.alloc _ _));clear tV;refine hK _ _ ⟨wJ.cell c0,wJ.cell c1,wJ.cell c2,wJ⟩ (fun oh=>?_);clear hK K
   (try simp only [Act.put,aP,aQ,aR])
   have hi:=cM hO 6 (by decide)
   conv at hi=>rhs;arg 1;whnf
   refine gK hO 6 (by kernel_rfl) hi (fun K hK=>?_);go_simp
   (go_at_call 90;refine (Dl _ wJ).mono ?_)
   rintro e wz ⟨rv,rfl,ow,DE⟩;obtain ⟨gl,cl,rfl,yu,qP,xX,hcm⟩:=cP.of_build DE (by rw [HL.out];exact sv);rw [HL.out] at xX |-;have vF:Hid (aA w3 wz):=wJ.trans ow;have HRZ:=oA yu;have HGC:Hid (l<=cl/\cl<=9223372036854775807):=⟨xX,hcm⟩;have HBZ:=oA (aJ HBA ow);have HGB:Hid (w3.heap.size<gl):=(by have h1:=dr HBA;unfold Hid;omega);clear ow DE yu qP xX hcm;go_wp2_with fail;refine hK _ _ ⟨vF.cell c0,vF.cell c1,vF.cell c2,vF⟩ (fun oh=>?_);clear hK K hi
   (try simp only [Act.put,aP,aQ,aR])
   have hi:=cM hO 7 (by decide)
   conv at hi=>rhs;arg 1;whnf
   refine tX hO (v:=?_) 7 hi (Or.inl ⟨by rfl,?_⟩) ?_;rotate_left;·((intro w');(try go_simp);(try with_reducible rfl))
   clear hi
   (try simp only [Act.put,aP,aQ,aR])
   have r9:=aO HBZ;have f9:=cD HBZ;have hi:=cM hO 9 (by decide)
   conv at hi=>rhs;arg 1;whnf
   refine kR hO 9 (by kernel_rfl) (by kernel_rfl) hi (fun K hK=>?_);go_simp;refine (fun (h:∀ W0,W0=_->K _ W0)=>h _ rfl) (fun wS tV=>?_);have y5:Hid (aA w3 wS):=(by rw [tV];exact eY vF (oK _) _ _ _);have Gl:Hid (Z6D w3 n k l X w3.heap.size gl cl wS):=by
    rw [tV];exact ⟨eY vF (oK _) _ _ _,fL HBZ _ _ _,HRZ.grown (gj (S:=(·=w3.heap.size)) (j6 _ _ _ _ _) (fun k hk=>by cases hk;rfl)) (fun e=>by have:=HGB.out;omega),fun e=>by have:=HGB.out;omega,oK _,Nat.le_of_lt HGB,HGC⟩
   clear tV;refine hK _ _ ⟨y5.cell c0,y5.cell c1,y5.cell c2,y5⟩ ?_;clear hK K hi hO
   (try simp only [Act.put,aP,aQ,aR])
   go_wp2_with fail;go_meet;exact ⟨_,gl,cl,rfl,Gl⟩
 case rest =>
 obtain ⟨g,gl,cl,rfl,HP⟩:=hcut;obtain ⟨w4,rfl⟩:∃ w4:World,w4=wc:=⟨_,rfl⟩;have HE4:Hid (aA w w4):=HE3.trans HP.ext;have HB14:=oA (aJ HB13 HP.ext);have HB24:=oA (aJ HB23 HP.ext);have c2:=aO HB14 2;simp only [oR,oP,oQ] at c2;have zy:Hid (w.heap.size<g/\w1.heap.size<g/\w.heap.size<gl/\w1.heap.size<gl/\gl≠g/\w.heap.size<=w1.heap.size):=by have h1:=HP.lg;have h2:=HP.lgl;have h3:=rN.out;have h4:=HSZ.out;have h5:=HP.ne;unfold Hid;omega
 go_wp2_with fail;refine (W0_ X _ w4 (aH.ext numC.mono' HXV HE4) HDG (HT.ext HE4)).mono ?_;rintro e w5 ⟨rfl,o5⟩;have y7:Hid (aA w4 w5):=o5;have HE5:Hid (aA w w5):=HE4.trans o5;have HB15:=oA (aJ HB14 o5);have HB25:=oA (aJ HB24 o5);have HBG:=oA (aJ HP.blk o5);have HRW:=oA (HP.row.ext o5);clear o5 c2;obtain ⟨d,hd⟩:=oZ (bW X);have HD:=oA hd;rw [hd];by_cases hd0:d=0
 ·have sd:((aB (d:Int)).toList == [48])=true:=by rw [l_];exact oT (by omega)
  obtain ⟨ud,BO⟩:=oZ (aB (d:Int));rw [BO] at sd |-;have HCX:Hid (dC X=X):=if_pos (by rw [HD.out];exact hd0);have kk:=aO HBG;have f9:=cD HB25;have k9:=aO HB25;clear BO hd hd0;go_wp2_with fail;have hb7:=fL HB25 (.int .i64 n) (.int .i64 k) (.slice (some ⟨gl,0,none⟩) l cl);refine bodyPost_ret (kG (by rfl) _ _ w1.heap.size 31 #[.int .i64 n,.int .i64 k,.slice (some ⟨gl,0,none⟩) l cl] (0,0) _ (.int .i64 0) (by rfl) (by rfl) hb7 underlying31 (by rfl) (by kernel_rfl)) (by rfl) ⟨_,rfl,eY HE5 zy.2.2.2.2.2 _ _ _,_,rfl,?_⟩;rw [HCX.out];have h9:=(HRW.grown (gj (S:=(·=w1.heap.size)) (j6 w5 w1.heap.size (.int .i64 n) (.int .i64 k) (.slice (some ⟨gl,0,none⟩) l cl)) (fun k hk=>by cases hk;rfl)) (fun e=>by have:=zy.out;omega)).numsZ (c:=cl) (by rw [HL.out];exact HP.lc.1) HP.lc.2;rw [HL.out] at h9;exact h9
 have sd:((aB (d:Int)).toList == [48])=false:=by rw [l_];exact oS (by omega)
 have HD0:=oA hd0;have hbig:=eO.of_nums HXV;obtain ⟨q,x0,hq,pG,AJ⟩:∃ (q:Nat) (x0:Int),X[q]?=some x0/\x0≠0/\∀ (j:Nat) (y:Int),j<q->X[j]?=some y->y=0:=by
  obtain ⟨x,hx,EM⟩:=U9_ (X:=X) (by rw [HD.out];exact hd0);cases hf:X.findIdx? (·≠0) with
  | none =>
   have:=List.findIdx?_eq_none_iff.1 hf x hx;simp at this;exact absurd this EM
  | some q =>
   obtain ⟨h1,h2,h3⟩:=List.findIdx?_eq_some_iff_getElem.1 hf;refine ⟨q,X[q],oB h1,by simpa using h2,fun j y hj hy=>?_⟩;have h4:=h3 j hj;rw [<- (oC.1 hy).2];simpa using h4
 have Ch:kh (fun x:Int=>decide (x≠0)) X=(q:Int):=by
  unfold kh;have hf:X.findIdx? (fun x:Int=>decide (x≠0))=some q:=by
   rw [List.findIdx?_eq_some_iff_getElem];obtain ⟨h1,h2⟩:=oC.1 hq
   exact ⟨h1,by rw [h2];exact oT pG,fun j hj=>by
    have:=AJ j (X[j]'(by omega)) hj (oB _)
    simp [this]⟩
  rw [hf]
 have Db:Hid (oX 91 #[.slice a l c,.func (.func 92) #[] #[]] w5 (.int .i64 (q:Int))):=by
  have h9:=M6_ (R:=Z7b) (fun _ _ _ _ _ h=>h) X (.slice a l c) 92 #[] (fun x=>decide (x≠0)) w5 (aH.ext (fun _ _ _ _ _ h=>h) hbig HE5) (enters_of func92 (by kernel_rfl) rfl) (fun W x v _ _ hv=>by
   have hv:v=.string (aB x):=hv;subst hv
   exact Z0h x W)
  rw [Ch] at h9;exact h9
 have hsg:=Z1d hq pG AJ;obtain ⟨bx,ox,rfl,-,hcell⟩:=HAC (by intro e;rw [e] at hq;simp at hq);obtain ⟨z9,e9,g9⟩:=hcell q x0 hq;obtain rfl:z9=.string (aB x0):=e9;have hql:q<l:=by have:=(oC.1 hq).1;rw [HL.out] at this;exact this
 have CF:(q:Int)<(l:Int):=by omega
 have HQ9:=oA g9;have c2:=aO HB15 2;simp only [oR,oP,oQ] at c2;have Gg:Hid (((aB (d:Int)).toList == [48])=false):=sd;obtain ⟨ud,BO⟩:=oZ (aB (d:Int));have HUD:=oA BO;rw [BO] at sd |-;clear BO hd hd0 hbig Ch hq AJ hcell g9 pG;go_wp2_with fail;refine Db.mono ?_;rintro e w6 ⟨rfl,ou⟩;have Az:Hid (aA w4 w6):=y7.trans ou;have HE6:Hid (aA w w6):=HE5.trans ou;have HB26:=oA (aJ HB25 ou);have HBG6:=oA (aJ HBG ou);have HRW6:=oA (HRW.ext ou);have c2':=ou.cell c2;have g9:=HE6.cell HQ9;clear ou Db c2 sd;have vb:Hid (∀ W,oY 93 #[.string (aB x0)] W (.int .i64 x0.sign)):=fun W=>lH x0 W;obtain ⟨G,hG⟩:=oZ (gC X);have HG:=oA hG;have JM:G.natAbs=d:=by rw [<- hG];unfold gC;rw [HD.out];split <;> simp
 have HGN:=oA JM;have vd:Hid (∀ W,oX 29 #[.string ud] W (.string (aB (-(d:Int))))):=fun W=>by
  rw [<- HUD.out];refine j8 (d:Int) W ?_;have h1:=e5_ HDG;rw [HD.out] at h1;have h2:=(jS (x:=(d:Int)) (by rw [Int.natAbs_natCast];exact h1)).2;omega
 have HGP:Hid (x0.sign<0->aB (-(d:Int))=aB G):=fun h=>by rw [<- HG.out];unfold gC;rw [hsg,if_pos h,HD.out]
 have G4:Hid (¬ x0.sign<0->ud=aB G):=fun h=>by rw [<- HUD.out,<- HG.out];unfold gC;rw [hsg,if_neg h,HD.out]
 obtain ⟨sx,rB⟩:=oZ x0.sign;obtain ⟨ux,hux⟩:=oZ (aB x0);obtain ⟨ug,EV⟩:=oZ (aB G);have HUG:=oA EV;rw [rB,hux] at vb;rw [hux] at g9;rw [rB,EV] at HGP G4;obtain ⟨bs,Af⟩:=oZ (decide (sx<0));have G5:Hid (bs=true->aB (-(d:Int))=ug):=fun h=>HGP (of_decide_eq_true (by rw [Af];exact h));have G3:Hid (bs=false->ud=ug):=fun h=>G4 (of_decide_eq_false (by rw [Af];exact h));clear HGP G4;clear hsg hG JM rB hux EV Gg;go_wp2_with fail;refine (vb w6).mono ?_;rintro e Ma ⟨rfl,zJ⟩;obtain rfl:=zJ;clear vb
 go_upto_if 39 with fail
 go_cut [6] from 40 to 41 (fun t wx=>t=.string ug/\Hid (aA w6 wx))
 case first =>
  cases bs with
  | true =>
   have e9:=G5 rfl;rw [e9] at vd;clear e9;go_wp2_with fail;refine o_ (vd w6) ?_;intro w8 HE8;go_wp2_with fail;go_meet;exact ⟨rfl,HE8⟩
  | false =>
   have e9:=G3 rfl;obtain rfl:=e9;go_wp2_with fail;go_meet;exact ⟨rfl,aA.refl _⟩
 case rest =>
 obtain ⟨rfl,HX7⟩:=hcut;obtain ⟨w7,rfl⟩:∃ w7:World,w7=wc:=⟨_,rfl⟩;have HE7:Hid (aA w w7):=HE6.trans HX7;have HB27:=oA (aJ HB26 HX7);have HBG7:=oA (aJ HBG6 HX7);have HRW7:=oA (HRW6.ext HX7);have HLC:=oA HP.lc;have c5:=aO HBG7 2;simp only [oR,oP,oQ] at c5;have HCL:Hid ((dC X).length=l):=by unfold Hid;rw [e1_,HL.out]
 have GJ:G≠0:=by have:=HGN.out;have:=HD0.out;omega
 have HDM:Hid (∀ x∈X,∀ W,aA w W->Calls prog 94 #[.string (aB x),.string ug] W fun e w'=>∃ m,e=.returned (.tuple #[.string (aB (aN x G)),.string m,.int .i64 0])/\aA W w'):=fun x hx W hW=>by
  have h1:=e5_ HDG;rw [HD.out] at h1;have h2:=(jS (x:=G) (by rw [HGN.out];exact h1)).2;have h3:=(jS (HDG x hx)).2;have h9:=Y8_ x G W (by omega) (by omega) GJ (HT.ext hW);rw [HUG.out] at h9;exact h9.mono fun e w' ⟨e1,e2⟩=>⟨_,e1,e2⟩
 have MW:Hid (∀ (i:Nat) x,X[i]?=some x->(dC X)[i]?=some (aN x G)):=fun i x hx=>by
  unfold dC;rw [if_neg (by rw [HD.out];exact HD0.out),oF,hx,HG.out];rfl
 clear c2' g9 GJ;go_wp2_with fail;clear c5
 go_loopw [45] (fun t wr=>∃ i:Nat,i<=l/\t=.int .i64 (i:Int)/\Hid (aG (·=gl) w7 wr)/\Hid (cP wr gl ((dC X).take i++X.drop i))) (fun t _=>l+1-(intOf t).toNat)
 case atStart=>exact ⟨0,by omega,by simp,aG.refl _ _,HRW7⟩
 case round =>
  obtain ⟨i,hi,rfl,HGR,HRR⟩:=hrel;obtain ⟨wo,rfl⟩:∃ wo:World,wo=wr:=⟨_,rfl⟩;have HBGo:=oA ((HGR.block g (dr HBG7) (fun e=>zy.2.2.2.2.1 e.symm)).trans HBG7);by_cases hlt:i<l
  ·obtain ⟨x,hx⟩:∃ x,X[i]?=some x:=⟨_,oB (by rw [HL.out];exact hlt)⟩;have hin:(i:Int)<(l:Int):=(by omega);have vh:((dC X).take i).length=i:=(by rw [oG,HCL.out];omega);have D7:((dC X).take i++X.drop i)[i]?=some x:=by
    rw [oO (by omega),vh,Nat.sub_self,oU];exact hx
   have z1:=HRR.cell i x D7;have z2:=aO HBGo 2;simp only [oR,oP,oQ] at z2;have BE:Hid (aA w wo):=nN HE7 HGR (fun j hj e=>by have:=zy.out;omega);have HDX:=oA (HDM x (oE hx));have HNX:Hid ((((dC X).take i++X.drop i).set i (aN x G))=(dC X).take (i+1)++X.drop (i+1)):=by
    unfold Hid;have hcx:=MW i x hx;rw [List.set_append_right _ _ (by omega),vh,Nat.sub_self,oH,hcx]
    rw [show X.drop i=x::X.drop (i+1) from by
     obtain ⟨h1,h2⟩:=oC.1 hx
     rw [List.drop_eq_getElem_cons h1,h2]]
    simp
   have HLN:Hid (i<((dC X).take i++X.drop i).length):=(by unfold Hid;rw [oV,List.length_drop,HL.out,vh];omega);obtain ⟨ux',hux⟩:=oZ (aB x);obtain ⟨uq,EU⟩:=oZ (aB (aN x G));have HUQ:=oA EU;rw [hux] at z1 HDX;rw [EU] at HDX;obtain ⟨Y,hY⟩:=oZ ((dC X).take i++X.drop i);rw [hY] at HRR HNX HLN;clear vh D7 hx hux EU hY
   go_upto_region 14 with fail
   refine lF (fun w'=>w'.cell? ⟨g,2,none⟩=some (.slice (some ⟨gl,0,none⟩) l cl)/\Hid (aA wo w')) 11 12 (by kernel_rfl) (by kernel_rfl) ⟨(aA.drew wo).cell z2,aA.drew wo⟩ (fun ops hO oh=>?_);have hi:=cM hO 0 (by decide)
   conv at hi=>rhs;arg 1;whnf
   refine tX hO (v:=?_) 0 hi (Or.inl ⟨by rfl,?_⟩) ?_;rotate_left;·((intro w');(try go_simp);(try with_reducible rfl))
   clear hi
   (try simp only [Act.put,aP,aQ,aR])
   have hi:=cM hO 1 (by decide)
   conv at hi=>rhs;arg 1;whnf
   refine Z08 hO (v:=?_) 1 [10] hi (by kernel_rfl) (by kernel_rfl) (by kernel_rfl) (by kernel_rfl) (by kernel_rfl) (fun _ _ _ h=>h) (Or.inl ⟨by rfl,?_⟩) (by assumption) ?_;rotate_left;·((intro w' pO);(try dsimp only at pO);(try go_simp);(try with_reducible rfl))
   clear hi
   (try simp only [Act.put,aP,aQ,aR])
   refine rA [2,3,4] ?_
   iterate 3 (refine rS hO (by decide) fun o h=>?_;(conv at h=>lhs;whnf);subst h;(refine rX hO (v:=?_) (Or.inl ⟨by rfl,?_⟩) ?_;rotate_left;·((intro w');(try go_simp);(try with_reducible rfl)));(try simp only [Act.put,aP,aQ,aR]))
   refine rE ?_;have hi:=cM hO 5 (by decide)
   conv at hi=>rhs;arg 1;whnf
   refine gK hO 5 (by kernel_rfl) hi (fun K hK=>?_);go_simp
   (go_at_call 94;refine (HDX _ (BE.trans oh.2)).mono ?_)
   rintro e wy ⟨um,rfl,ow⟩;go_wp2_with fail;refine hK _ _ ⟨(ow).cell oh.1,aA.trans oh.2 (ow)⟩ (fun oh=>?_);clear hK K hi
   (try simp only [Act.put,aP,aQ,aR])
   have yX:Hid (aA wo wy):=oh.2;have HRY:=oA (HRR.ext yX);have kz:=HRY.cell i _ (oB HLN);have kg:=HRY.free i;refine rA [6,7,8,9,10] ?_
   iterate 5 (refine rS hO (by decide) fun o h=>?_;(conv at h=>lhs;whnf);subst h;(refine rX hO (v:=?_) (Or.inl ⟨by rfl,?_⟩) ?_;rotate_left;·((intro w');(try go_simp);(try with_reducible rfl)));(try simp only [Act.put,aP,aQ,aR]))
   refine rE ?_;have hi:=cM hO 11 (by decide)
   conv at hi=>rhs;arg 1;whnf
   refine Z06 hO 11 (by kernel_rfl) (by kernel_rfl) (by kernel_rfl) hi (fun K hK=>?_);go_simp;refine hK _ _ ?_;clear hK K hi hO
   (try simp only [Act.put,aP,aQ,aR])
   go_wp2_with fail;go_roundw
   case rel=>exact ⟨i+1,by omega,by go_num,(HGR.ext yX).trans (gj (fU _ _ _ _) (fun k hk=>by cases hk;rfl)),by
    have h9:=HRY.set i HLN (aN x G);rw [HUQ.out,HNX.out] at h9
    exact h9⟩
   case measure=>simp [intOf];omega
  ·obtain rfl:i=l:=(by omega);have HB2o:=oA ((HGR.block w1.heap.size (dr HB27) (fun e=>by have:=zy.out;omega)).trans HB27);have BE:Hid (aA w wo):=nN HE7 HGR (fun j hj e=>by have:=zy.out;omega);have HFN:Hid (cP wo gl (dC X)):=by
    have h9:=HRR.out;rw [List.take_of_length_le (by rw [HCL.out];omega),List.drop_eq_nil_of_le (by rw [HL.out];omega),List.append_nil] at h9;exact h9
   have kk:=aO HBGo;have f9:=cD HB2o;have k9:=aO HB2o;go_wp2_with fail;have hb7:=fL HB2o (.int .i64 n) (.int .i64 k) (.slice (some ⟨gl,0,none⟩) i cl);refine bodyPost_ret (kG (by rfl) _ _ w1.heap.size 31 #[.int .i64 n,.int .i64 k,.slice (some ⟨gl,0,none⟩) i cl] (0,0) _ (.int .i64 0) (by rfl) (by rfl) hb7 underlying31 (by rfl) (by kernel_rfl)) (by rfl) ⟨_,rfl,eY BE zy.2.2.2.2.2 _ _ _,_,rfl,?_⟩;have h9:=(HFN.grown (gj (S:=(·=w1.heap.size)) (j6 wo w1.heap.size (.int .i64 n) (.int .i64 k) (.slice (some ⟨gl,0,none⟩) i cl)) (fun k hk=>by cases hk;rfl)) (fun e=>by have:=zy.out;omega)).numsZ (c:=cl) (by rw [HCL.out];exact HLC.1) HLC.2;rw [HCL.out] at h9;exact h9
def Z68 (_:World) (_:List Value) (_:Unit):Prop:=True
theorem Z3J (xss:oe) (v:Value) (w:World) (h:bN w v xss) (hl:xss.length<=1000) (hr:∀ r∈xss,r.length=0) :
  Calls prog 97 #[v] w fun e w'=>∃ a l c,e=.returned (.slice a l c)/\aA w w':=by
 obtain ⟨a,c,rfl,h1,h2,-,hc⟩:=bc.open h;have HC:=oA hc;have HR:=oA hr;unfold maxLen at h2;clear h hc hr
 go_enter func97,ntmps97
 go_wp2_with fail
 go_loopw [4,3] (fun t v wr=>∃ (i:Nat),i<=xss.length/\t=.int .i64 i/\aA w wr/\Hid (aU wr w.heap.size 29 1 v Z68 (List.replicate i ()))) (fun t _ _=>xss.length-(intOf t).toNat)
 case atStart=>exact ⟨0,by omega,rfl,aA.refl _,aU.nil _ _ _ _ _⟩
 case round =>
  obtain ⟨i,hin,rfl,hE,HB⟩:=hrel;obtain ⟨wo,rfl⟩:∃ wo:World,wo=wr:=⟨_,rfl⟩;have HE:=oA hE;by_cases hlt:i<xss.length
  ·obtain ⟨b,off,rfl,hb,hcell⟩:=HC (by intro e;simp [e] at hlt);obtain ⟨r,hx⟩:∃ x,xss[i]?=some x:=⟨xss[i],oB hlt⟩;obtain ⟨vx,qg,hcx⟩:=hcell i r hx;obtain ⟨ax,cx,rfl,-⟩:=bL.open qg;have vl:r.length=0:=HR r (oE hx);rw [vl] at hcx;have g1:=hE.cell hcx;have HG1:=oA g1;have HST:Hid (List.replicate (i+1) ()=List.replicate i ()++[()]):=List.replicate_succ';have HLL:Hid ((List.replicate i ()).length<1000000):=(by unfold Hid;rw [List.length_replicate];omega);have qu:w.heap.size<=wo.heap.size:=hE.size;clear hcell hx qg hcx vl;go_wp2_with fail;clear g1
   go_loopw [6,5] (fun t v wr=>t=.int .i64 0/\v=.slice none 0 0/\Hid (aA wo wr)) (fun _ _ _=>0)
   case atStart=>exact ⟨rfl,rfl,by first | exact aA.refl _ | exact aA.drew _⟩
   case round =>
    obtain ⟨rfl,rfl,qe⟩:=hrel;obtain ⟨wi,rfl⟩:∃ wi:World,wi=wr:=⟨_,rfl⟩;have HBI:=oA (HB.ext qe);have KO:w.heap.size<=wi.heap.size:=oJ qu qe.size;have g1:=qe.cell HG1;go_wp2_with (at_builtin;go_must (refine eM _ rfl _ _ 122 rfl w.heap.size 29 (.slice none 0 0) 1 24 underlying122 d3_ rfl (by decide) u3 Z68 (List.replicate i ()) () #[.slice none 0 0] 29 rfl HBI rfl rfl ?_ (fun _ _=>trivial) HLL (by decide) KO ?_))
    all_goals first | (simp [Value.oneCell'];done) | skip
    intro v' w6 rC sI hb6 Dt _;rw [<- HST.out] at rC;have HB6:=oA rC;have HX6:Hid (aA w w6):=Below.trans (HE.trans qe) hb6;clear rC sI hb6;go_wp2_with fail;go_roundw
    case rel=>exact ⟨i+1,by omega,by go_num,HX6,HB6⟩
    case measure=>simp [intOf];omega
  ·obtain rfl:i=xss.length:=(by omega);obtain ⟨a5,c5,h5,-⟩:=aH.open HB.list;go_wp2_with fail;go_ret;exact ⟨_,_,_,by rw [<- h5];rfl,HE⟩
theorem Z3I {xss:oe} (hE:cK xss=0):(bK xss (bZ xss)).lead.length=gP xss:=by
 rw [(lZ (K:=1000000000) (by omega) (Z3r hE) (R0_ hE) (bZ xss)).lead];rfl
theorem h7_ (xss:oe) (v:Value) (w:World) (h:bN w v xss) (hE:cK xss=0) (ht:ae w) :
  oX 49 #[v] w (.int .i64 (gP xss:Int)):=by
 obtain ⟨hl,qv⟩:=jd hE;have HCO:Hid (∀ W,aA w W->oY 98 #[v] W (.int .i64 (bZ xss:Int))):=fun W hW=>h6_ xss v W (h.ext hW);by_cases h0:bZ xss=0
 ·have HB:=oA (Z3J xss v w h (by omega) (fun r hr=>by rw [(qv r hr).1,h0]));rw [show gP xss=0 by unfold gP;rw [h0];rfl];rw [h0] at HCO;clear h ht hE qv h0 hl
  go_enter func49,ntmps49
  go_wp2_with fail;refine HB.mono ?_;rintro e w1 ⟨a,l,c,rfl,hE1⟩;have HE1:=oA hE1;clear hE1;go_wp2_with fail;refine q_ (HCO _ HE1) ?_;go_wp2_with fail;refine p_ (Z1Y a l c 0 _ (.inl rfl)) (HE1.trans) ?_;intro w2 HE2;go_wp2_with fail;go_ret;exact ⟨rfl,HE2⟩
 ·have hpos:0<xss.length:=by
   cases xss with
   | nil=>exact absurd rfl h0
   | cons r l=>simp
  have yn:bZ xss<=12:=by
   cases xss with
   | nil=>exact absurd rfl h0
   | cons r l=>exact (qv r (by simp)).2.1
  have HB:=oA (Z5g xss (bZ xss) _ w h (R0_ hE) (by omega) (by omega) (by omega) (fun r hr=>(qv r hr).2.2) ht);obtain ⟨n,hn⟩:=oc (bZ xss);have HEL:Hid (∀ u tags W,bf mF 29 W w.heap.size w.heap.size u tags xss->aA w W->Calls prog 84 #[u,.int .i64 n] W fun e w'=>∃ b o cl al,e=.returned (.tuple #[.slice al (gP xss) cl,.string b,.bool o])/\gP xss<=cl/\cl<=9223372036854775807/\aA w w'):=fun u tags W hO hW =>
   (Z1Z xss u tags n w.heap.size w W hE (by omega) hpos hO hW ht (oK _)).mono fun e w' ⟨v,g1,g2,g3⟩=>by
    obtain ⟨al,cl,e1,e2,e3⟩:=g2.form;rw [hn,Z3I hE] at e1 e2;exact ⟨_,_,cl,al,by rw [g1,e1],e2,e3,g3⟩
  rw [<- hn] at HCO;obtain ⟨rk,hrk⟩:=oc (gP xss);rw [<- hrk] at HEL |-;clear h ht hE qv h0 hl hn hrk yn
  go_enter func49,ntmps49
  go_wp2_with fail;refine HB.mono ?_;rintro e w1 ⟨u,tags,rfl,hO,hE1⟩;have HO:=oA hO;have HE1:=oA hE1;clear hE1 hO;go_wp2_with fail;refine q_ (HCO _ HE1) ?_;go_wp2_with fail;refine (HEL _ _ _ HO HE1).mono ?_;rintro e w2 ⟨b2,o2,cl,al,rfl,l1,l2,hE2⟩;have HE2:=oA hE2;clear hE2;go_wp2_with fail;go_ret;exact ⟨rfl,HE2⟩
end Go.Proofs.YtjlkkofmojgipaaGreatDoor
namespace Go.Proofs.YtjlkkofmojgipaaGreatDoor
open Go.ChangeShapes Go.WideShapes Go.ChangeAt Go.RowKit Go.Proofs.Tryz
theorem Z6l:ownKnob prog.godebug=none:=by kernel_rfl
theorem Z5G:laidOutB prog=true:=by kernel_rfl
theorem R3_ {H:Type} {enc:TypeId×Value->H} {P:Program} (hl:laidOutB P=true) {W W':World} (hb:Below W.heap.size W W') :
  ∀ (ts:List TypeId) (vs:List Value) (ds:List (DataW H)) (ps:List MemPlace),(∀ t∈ts,P.readableRec t=true/\t<P.types.size) ->
   DataW.TrodAll enc P W 0 (fun _=>true) true ts vs ds ps->(∀ x∈ps,x.block<W.heap.size)->DataW.TrodAll enc P W' 0 (fun b=>decide (b<W.heap.size)) true ts vs ds ps
 | [],[],[],ps,_,h,_=>h
 | t::ts,v::vs,d::ds,ps,hr,h,hlt=>by
  obtain ⟨p,p',h1,h2,rfl⟩:=h;exact ⟨p,p',Below.trod hl (hr t (by simp)).1 (hr t (by simp)).2 h1 hb (fun x hx=>hlt x (by simp [hx])),R3_ hl hb ts vs ds p' (fun t ht=>hr t (by simp [ht])) h2 (fun x hx=>hlt x (by simp [hx])),rfl⟩
 | [],v::vs,_,_,_,h,_=>absurd h (by simp [DataW.TrodAll])
 | [],[],d::ds,_,_,h,_=>absurd h (by simp [DataW.TrodAll])
 | t::ts,[],_,_,_,h,_=>absurd h (by simp [DataW.TrodAll])
 | t::ts,v::vs,[],_,_,h,_=>absurd h (by simp [DataW.TrodAll])
theorem Z5H {H:Type} {enc:TypeId×Value->H} {f:Func} {s:ChangeSpec} {W W':World} {args:Array Value} {ds:List (DataW H)} {before:List MemPlace}
  (hW:DataW.Whole enc prog f.params.toList s.vars false W args.toList ds [] before) (hA:DataW.TrodAll enc prog W 0 (fun _=>true) true f.params.toList args.toList ds before)
  (hv:s.vars=[]) (Ek:f.resultTypes=#[4]) (vw:s.fn H (ds++[])={ results:=[.lit (.bool true)],args:=ds }) (hr:∀ t∈f.params.toList,prog.readableRec t=true/\t<prog.types.size) (hb:Below W.heap.size W W') :
  ∃ v,Ending.returned (.bool true)=Ending.returned v/\ChangeSpec.post enc prog f s false true false false W args v W':=by
 refine ⟨_,rfl,ds,[],before,[],before,[],hW,?_,?_,?_,?_,fun h=>by cases h⟩
 ·rw [vw,Ek];exact trodAll_cons_mk (shut_bool underlying4 _) trodAll_mk0
 ·rw [vw];exact R3_ Z5G hb _ _ _ _ hr hA (fun x hx=>by simpa using hW.lt x hx)
 ·rw [vw,hv];rfl
 ·exact hb.frame _
def int8R (_:World) (u:List Value) (x:Int):Prop:=u=[.int .i8 x]/\-128<=x/\x<=127
theorem int8R.mono:iD int8R:=fun _ _ _ _ _ h=>h
abbrev gX (w:World) (v:Value) (xs:og):Prop:=aH 1 int8R w v xs
theorem gX.ext {w w':World} {v:Value} {xs:og} (h:gX w v xs) (he:aA w w'):gX w' v xs:=aH.ext int8R.mono h he
theorem Z1D:prog.cellsOf 46=1:=by kernel_rfl
theorem Z5y (W:World):gX W (.slice none 0 0) [] :=
 ⟨[],rfl,by simp,⟨none,0,rfl,oK _,Nat.zero_le _,fun _=>rfl,fun h=>absurd rfl h⟩,by simp⟩
theorem gX.open {w:World} {v:Value} {xs:og} (h:gX w v xs) :
  ∃ (a:Option Addr) (cap:Nat),v=.slice a xs.length cap/\xs.length<=cap/\cap<=maxLen/\(a=none->cap=0)/\(∀ x∈xs,-128<=x/\x<=127) /\
   (xs≠[]->∃ b off,a=some ⟨b,off,none⟩/\b<w.heap.size/\∀ (j:Nat) x,xs[j]?=some x->w.cell? ⟨b,off+j,none⟩=some (.int .i8 x)):=by
 have hall:∀ x∈xs,-128<=x/\x<=127:=by
  obtain ⟨us,h1,_,_,h7⟩:=h;intro x hx;obtain ⟨j,hj⟩:=List.getElem?_of_mem hx;have hlt:j<us.length:=by rw [h1];exact (oC.1 hj).1
  exact (h7 j us[j] x (by simp [hlt]) hj).2
 obtain ⟨a,cap,hv,h1,h2,h3,h4⟩:=aH.open h;refine ⟨a,cap,hv,h1,h2,h3,hall,fun hx=>?_⟩;obtain ⟨b,off,ha,hb,hc⟩:=h4 (by omega) hx;refine ⟨b,off,ha,hb,fun j x hj=>?_⟩;obtain ⟨u,_,hr,hcell⟩:=hc j x hj;have:=hcell 0 (by omega);rw [hr.1] at this;simpa using this
end Go.Proofs.YtjlkkofmojgipaaGreatDoor
namespace Go.Proofs.YtjlkkofmojgipaaGreatDoor
open Go.RowKit Go.Maps Go.Proofs.Tryz
def fK (es:og) (b c k:Nat):List Int:=(List.range c).map fun j=>if j<k then es.getD (b+j) 0 else 0
theorem S1_ (es:og) (b c k:Nat):(fK es b c k).length=c:=by simp [fK]
theorem Z0T (es:og) (b c:Nat):fK es b c 0=List.replicate c 0:=by
 apply List.ext_getElem;·simp [fK]
 ·intro i h1 h2;simp [fK]
theorem ng (es:og) (b c k i:Nat):(fK es b c k)[i]?=if i<c then some (if i<k then es.getD (b+i) 0 else 0) else none:=by
 unfold fK;rw [oF];by_cases h:i<c;·rw [List.getElem?_range h,if_pos h];rfl
 ·rw [if_neg h,oL (by simp;omega)];rfl
theorem Z2N {es:og} {b c k:Nat} (hk:k<c) {x:Int} (hx:es.getD (b+k) 0=x):(fK es b c k).set k x=fK es b c (k+1):=by
 apply List.ext_getElem?;intro i;rw [oW,ng,ng,S1_];by_cases e:k=i;·subst e;rw [if_pos rfl,if_pos hk,if_pos hk,if_pos (by omega),hx]
 ·rw [if_neg e];by_cases h3:i<k;·rw [if_pos h3,if_pos (show i<k+1 by omega)]
  ·rw [if_neg h3,if_neg (show ¬ i<k+1 by omega)]
theorem Z0S {es:og} {b c k:Nat} (hx:es.getD (b+k) 0=0):fK es b c k=fK es b c (k+1):=by
 apply List.ext_getElem?;intro i;rw [ng,ng];by_cases e:k=i;·subst e;rw [if_neg (show ¬ k<k by omega),if_pos (show k<k+1 by omega),hx]
 ·by_cases h3:i<k;·rw [if_pos h3,if_pos (show i<k+1 by omega)]
  ·rw [if_neg h3,if_neg (show ¬ i<k+1 by omega)]
def ev (es:og) (c i:Nat):oe:=(List.range i).map fun t=>fK es (t*c) c c
theorem Z0L (es:og) (c i:Nat):ev es c (i+1)=ev es c i++[fK es (i*c) c c]:=by
 unfold ev;rw [List.range_succ,List.map_append];rfl
theorem q9_ (es:og) (c i:Nat):(ev es c i).length=i:=by simp [ev]
theorem Z2E (x0 x1:Int) (ve:Value) (es:og) (r c:Nat) (hr:r<=12) (hc:c<=12) (w:World) (h:gX w ve es) :
  Calls prog 48 #[.agg #[.int .u8 x0,.int .u8 x1,ve],.int .i64 (r:Int),.int .i64 (c:Int)] w fun e w'=>∃ v tags,e=.returned v/\bf ko 27 w' (w.heap.size+1) (w.heap.size+1) v tags (ev es c r)/\aA w w':=by
 obtain ⟨i0,hi,pJ,hz1,hz2⟩:=info_parts jy;have HI:=oA hi;have HZ0:=oA pJ;have HZ1:=oA hz1;have HZ2:=oA hz2;clear hi pJ hz1 hz2;obtain ⟨a,cp,rfl,qH,sl,hx3,Hw,Hx⟩:=gX.open h;have HX:=oA Hx;have HBD:=oA Hw;have HR:=oA hr;have HC:=oA hc;have q1:¬ (r:Int)<0:=by omega
 have q2:¬ (c:Int)<0:=by omega
 clear Hx Hw hr h;unfold maxLen at sl
 go_enter func48,ntmps48
 go_wp2_with fail;obtain ⟨W1,qm⟩:=oc (w.alloc (.cells #[.int .u8 x0,.int .u8 x1,.slice a es.length cp] 81));have DK:Hid (aA w W1/\W1.heap.size=w.heap.size+1/\W1.cell? ⟨w.heap.size,2,none⟩=some (.slice a es.length cp)):=by
  rw [qm];exact ⟨aA.alloc _ _,World.size_alloc _ _,by rw [World.cell?_alloc_new];rfl⟩
 rw [<- qm];clear qm
 go_loopw [9,8,7] (fun t n v wr=>∃ (i m:Nat) (tags:List (Nat×Nat)),i<=r/\t=.int .i64 i/\n=.int .i64 m/\Hid (m=i*c)/\Hid (aA W1 wr)/\Hid (bf ko 27 wr (w.heap.size+1) (w.heap.size+1) v tags (ev es c i))) (fun t _ _ _=>r-(intOf t).toNat)
 case atStart=>exact ⟨0,0,[],by omega,rfl,rfl,(by unfold Hid;simp),aA.refl _,bf.nil _ _ _ _ _⟩
 case round =>
  obtain ⟨i,m0,tags,M5,rfl,rfl,ML,HE,HO⟩:=hrel;obtain ⟨wo,rfl⟩:∃ wo:World,wo=wr:=⟨_,rfl⟩;by_cases hlt:i<r
  ·go_wp2_with (at_make;refine wpList_make_full _ rfl _ _ 27 rfl wo.heap.size 3 i0 (.int .i64 0) 1 underlying27 HI HZ0 HZ1 _ _ _ _ c rfl rfl rfl rfl ?c1 ?c2 ?c3 ?_)
   any_goals (first | (rw [HZ2.out];omega) | (unfold maxLen;omega) | exact oK _)
   intro w3 hown oo;rw [I3_] at hown;have HRI:=oA (eS.ofOwn hown);rw [<- Z0T es (i*c)] at HRI;have HE3:=oA (iO oo);clear hown oo;go_wp2_with fail
   go_loopw [11,8] (fun t n wq=>∃ k m:Nat,k<=c/\t=.int .i64 k/\n=.int .i64 m/\Hid (m=i*c+k)/\Hid (aA wo wq)/\Hid (eS wq wo.heap.size (fK es (i*c) c k))) (fun t _ _=>c-(intOf t).toNat)
   case atStart=>exact ⟨0,m0,by omega,rfl,rfl,ML,HE3,HRI⟩
   case round =>
    obtain ⟨k,m,hk,rfl,rfl,HM,HE4,HK⟩:=hrel;obtain ⟨wq,rfl⟩:∃ wq:World,wq=wr:=⟨_,rfl⟩;have g1:=(aA.trans HE HE4).cell DK.2.2;have hmb:m<200:=by
     have h1:i*c<=12*12:=Nat.mul_le_mul (by have:=HR.out;omega) HC;have:=HM.out;have:=HC.out;omega
    by_cases wP:k<c
    ·have vV:(fK es (i*c) c k)[k]?=some 0:=(by rw [ng,if_pos wP,if_neg (by omega)]);have c0:=HK.cell k 0 vV;have f0:=HK.free k;have EK:Hid (m+1=i*c+(k+1)):=(by have:=HM.out;unfold Hid;omega);by_cases hlen:m<es.length
     ·obtain ⟨b,off,rfl,hb,hcell⟩:=HX (by intro e;rw [e] at hlen;simp at hlen);obtain ⟨x,hx⟩:∃ x,es[m]?=some x:=⟨es[m],oB hlen⟩;obtain ⟨b1,b2⟩:=HBD x (oE hx);have g2:=(aA.trans (aA.trans DK.1 HE) HE4).cell (hcell m x hx);have HS:=oA (Z2N (es:=es) (b:=i*c) (k:=k) wP (x:=x) (by rw [<- HM.out,oD,hx];rfl));have HK5:=oA (HK.set k (by rw [S1_];exact wP) x);rw [HS.out] at HK5;have HE5:Hid (aA wo (wq.setCell ⟨wo.heap.size,k,none⟩ (.int .i64 x))):=Below.setCell HE4 (oK _) (.int .i64 x);clear hcell hx vV;go_wp2_with fail;go_roundw
      case rel=>exact ⟨k+1,m+1,by omega,by go_num,by go_num,EK,HE5,HK5⟩
      case measure=>simp [intOf];omega
     ·have HS:=oA (Z0S (es:=es) (b:=i*c) (c:=c) (k:=k) (by rw [<- HM.out,oD,oL (by omega)];rfl));rw [HS.out] at HK;clear vV;go_wp2_with fail;go_roundw
      case rel=>exact ⟨k+1,m+1,by omega,by go_num,by go_num,EK,HE4,HK⟩
      case measure=>simp [intOf];omega
    ·obtain rfl:k=c:=(by omega);have K0:i<12:=(by have:=HR.out;omega);have EK:Hid (m=(i+1)*k):=(by have:=HM.out;unfold Hid;rw [Nat.succ_mul];exact this);have HO4:=oA (HO.ext HE4);have HSZ:Hid (w.heap.size+1<=wo.heap.size/\wo.heap.size<=wq.heap.size):=by
      have:=HE.size;have:=DK.2.1;exact ⟨by omega,HE4.size⟩
     have HV:Hid (u7.ownBlock≠some wo.heap.size):=fun e=>by have:=(HO.own.lt _ e).2;omega
     have HN:Hid (wo.heap.size∉tags.map (·.1)):=fun e=>by have:=(HO.fresh e).2;omega
     have HRL:=oA (S1_ es (i*k) k k);have HLN:Hid ((ev es k i).length<1000000):=(by unfold Hid;rw [q9_];have:=HR.out;omega);go_wp2_with (at_builtin;go_must (refine Z3_ (K:=ko) (e:=27) underlying23 x0_ wq rfl _ _ rfl (w.heap.size+1) (w.heap.size+1) u7 tags (ev es k i) (wo.heap.size,k) (fK es (i*k) k k) _ _ rfl HO4 rfl ?d1 ?d2 ?d3 HK ?d4 HV HN HLN ?d5 ?_))
     case d1=>rw [HRL.out];rfl
     case d2=>rw [HRL.out];exact oK _
     case d3=>have:=HC.out;show k<=_;omega
     case d4=>have:=HSZ.out;show w.heap.size+1<=wo.heap.size;omega
     case d5=>have:=HSZ.out;omega
     intro v' w5 vZ hb5 _;rw [<- Z0L] at vZ;have HO5:=oA vZ;have HX5:Hid (aA W1 w5):=by
      have h2:=DK.2.1;exact Below.trans (aA.trans HE HE4) (by rw [h2];exact hb5)
     clear vZ hb5;go_wp2_with fail;go_roundw
     case rel=>exact ⟨i+1,m,_,by omega,by go_num,rfl,EK,HX5,HO5⟩
     case measure=>simp [intOf];omega
  ·obtain rfl:i=r:=(by omega);have HX2:Hid (aA w wo):=aA.trans DK.1 HE;go_wp2_with fail;go_ret;exact ⟨_,tags,rfl,HO,HX2⟩
theorem Q9_ {es:og} {c r:Nat} (wQ:∀ x∈es,-128<=x/\x<=127):∀ q∈ev es c r,q.length=c/\∀ a∈q,-128<=a/\a<=127:=by
 intro q hq;unfold ev at hq;obtain ⟨t,-,rfl⟩:=List.mem_map.1 hq;refine ⟨S1_ _ _ _ _,fun a ha=>?_⟩;unfold fK at ha;obtain ⟨j,-,rfl⟩:=List.mem_map.1 ha
 split
 ·rw [oD];cases h:es[t*c+j]? with
  | none=>simp
  | some x=>exact wQ x (oE h)
 ·omega
theorem Z0M {e:TypeId} {w:World} {ob base:Nat} {v:Value} {tags:List (Nat×Nat)} {es:og} {c r:Nat} (wQ:∀ x∈es,-128<=x/\x<=127) (h:bf ko e w ob base v tags (ev es c r)):bN w v (ev es c r) :=
 h.rows2 fun q hq a ha=>by have:=(Q9_ wQ q hq).2 a ha;omega
end Go.Proofs.YtjlkkofmojgipaaGreatDoor
