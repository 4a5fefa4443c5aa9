import Derived.Test.YtjlkkofmojgipaaGreatDoorXAN
import Derived.Test.YtjlkkofmojgipaaGreatDoorXAO
import Derived.Test.YtjlkkofmojgipaaGreatDoorXAE
import Derived.Lib.ParseIntBTie
import Derived.OwnWalk
import Derived.Test.YtjlkkofmojgipaaGreatDoorXAA
import Derived.Test.YtjlkkofmojgipaaGreatDoorXAJ
import Derived.Test.YtjlkkofmojgipaaGreatDoorXAF
set_option linter.unusedVariables false
set_option linter.unusedSimpArgs false
set_option maxRecDepth 1000000
set_option maxHeartbeats 40000000
namespace Go.Proofs.YtjlkkofmojgipaaGreatDoor
open Go.RowKit Go.Maps Go.Proofs.Tryz
theorem Z0O {n c d F:Nat} {m m3:List (List Int)} {p:Bool} (h:fI n c d F m=some (m3,p)):(p=false/\dU n c d F m=some (m3,false))\/(p=true/\∃ m2,dU n c d F m=some (m2,true)/\cF n m2=true/\upW c d m2=some m3):=by
 rw [o8_] at h;cases hc:dU n c d F m with
 | none=>rw [hc] at h;cases h
 | some z =>
  obtain ⟨m2,b⟩:=z;rw [hc] at h;cases b with
  | false =>
   simp only [Option.some.injEq,Prod.mk.injEq] at h;obtain ⟨rfl,rfl⟩:=h;exact .inl ⟨rfl,rfl⟩
  | true =>
   simp only at h;by_cases hk:cF n m2=true
   ·rw [if_pos hk] at h;cases hu:upW c d m2 with
    | none=>rw [hu] at h;cases h
    | some m4 =>
     rw [hu] at h;simp only [Option.some.injEq,Prod.mk.injEq] at h;obtain ⟨rfl,rfl⟩:=h;exact .inr ⟨rfl,m2,rfl,hk,hu⟩
   ·rw [if_neg hk] at h;cases h
theorem Z5q {r:List Int} (h:r.all eu=true):(fh r).all eu=true:=by
 unfold fh;rw [List.all_map,List.all_eq_true];rw [List.all_eq_true] at h;intro x hx;have:=(w5_ x).1 (h x hx);show eu (-x)=true;rw [w5_,Int.natAbs_neg];exact this
theorem Z5t {n:Nat} {m:List (List Int)} (h:cF n m=true) (i:Nat) (r:List Int) (h1:r.length=n) (h2:r.all eu=true):cF n (m.set i r)=true:=by
 unfold cF at h |-;rw [List.all_eq_true] at h |-;intro x hx;rcases List.mem_or_eq_of_mem_set hx with hx | hx
 ·exact h x hx
 ·rw [hx,Bool.and_eq_true,decide_eq_true_iff];exact ⟨h1,h2⟩
theorem Z1A (n F:Nat) (m:List (List Int)) (tags:List (Nat×Nat×Nat)) (g0 cap base:Nat) (w:World) (R:List (List Int)×Nat) (hM:bh w g0 tags m) (hok:fv n F n 0 0 m=some R)
  (qb:m.length<=cap) (qa:cap<=maxLen) (hn:n<=1000000) (ht:af w) (hb:4<base) (hg:∀ b,mq g0 tags b->base<=b) (Ab:base<=w.heap.size) :
  Calls prog 81 #[.slice (some ⟨g0,0,none⟩) m.length cap,.int .i64 n] w fun e w'=>∃ tags',e=.returned (.tuple #[])/\bh w' g0 tags' R.1/\R.1.length=m.length/\Below base w w':=by
 have HM:=n8 hM;have HOK:=n8 hok;have HT:=n8 ht;have HB:=n8 hb;have HG0:Hid (base<=g0):=hg g0 (List.mem_cons_self ..);have B9:Hid (∀ W,Below base w W->af W):=fun W hW=>ht.below hW hb;have Hf:Hid (∀ t∈tags,base<=t.1):=fun t ht=>hg t.1 (List.mem_cons_of_mem _ (List.mem_map.2 ⟨t,ht,rfl⟩));unfold maxLen at qa;obtain ⟨L,hL⟩:∃ L,m.length=L:=⟨_,rfl⟩;rw [hL] at qb |-;have HL:=n8 hL;clear hM hok ht hb hg hL
 go_enter func81,ntmps81
 go_wp2_with fail
 go_loopw [4,5] (fun sd sc wr=>∃ (c d:Nat) (m1:List (List Int)) (oo:List (Nat×Nat×Nat)),c<=n/\d<=L/\sc=.int .i64 c/\sd=.int .i64 d/\Hid (Below base w wr)/\Hid (bh wr g0 oo m1)/\Hid (m1.length=L)/\Hid (fv n F (n-c) c d m1=some R)/\Hid (∀ t∈oo,base<=t.1)) (fun _ sc _=>n-(intOf sc).toNat)
 case atStart=>exact ⟨0,0,m,tags,by omega,by omega,rfl,rfl,Below.refl _ _,HM,HL,HOK,Hf⟩
 case round =>
  obtain ⟨c,d,m1,oo,hc,hd,rfl,rfl,HG,HM1,HL1,HC,zg⟩:=hrel;obtain ⟨w2,rfl⟩:∃ w2:World,w2=wr:=⟨_,rfl⟩;by_cases hlt:c<n/\d<L
  ·obtain ⟨Cu,vJ⟩:=hlt;obtain ⟨q,hq⟩:∃ q,n-c=q+1:=⟨n-c-1,by omega⟩;have hC:=HC.out;rw [hq] at hC;unfold fv at hC;rw [if_pos (by rw [HL1.out];exact vJ)] at hC;cases hsw:fI n c d F m1 with
   | none=>rw [hsw] at hC;cases hC
   | some r =>
   obtain ⟨m3,p⟩:=r;rw [hsw] at hC;have rV:Hid (fv n F q (c+1) (if p then d+1 else d) m3=some R):=hC;have HQ:Hid (n-(c+1)=q):=by unfold Hid;omega
   have OD:g0<w2.heap.size:=HM1.lt;have ET:4<g0:=oH HB HG0;have hPW2:=B9 w2 HG;rcases Z0O hsw with ⟨rfl,vL⟩ | ⟨rfl,m2,vL,tS,hup⟩
   ·have HCO:=n8 (Q5_ n F c d m1 oo g0 cap w2 (m3,false) HM1 vL (by rw [HL1.out];exact qb) (by unfold maxLen;exact qa) (by rw [HL1.out];exact hd) Cu hn hPW2 ET);have hcl:=mw vL (by rw [HL1.out];exact hd);rw [HL1.out] at HCO hcl;have HL3:Hid (m3.length=L):=hcl.1;clear hsw hC hq vL hPW2 ET hcl HC;go_wp2_with fail;refine HCO.mono ?_;rintro e w5 ⟨qJ,rfl,zY,zW,zb⟩;have HM5:=n8 zY;have vw:Hid (Below base w w5):=HG.trans (zb.below (base:=base) (by have:=HG0.out;omega) (fun k hk=>by rw [hk];exact HG0));have HT5:Hid (∀ t∈qJ,base<=t.1):=fun t ht=>by
     rcases zW t ht with e | e
     ·exact zg t e
     ·have:=HG0.out;omega
    clear zY zb zW HCO;go_wp2_with fail;go_roundw
    case rel=>exact ⟨c+1,d,m3,qJ,by omega,by omega,by go_num,rfl,vw,HM5,HL3,by unfold Hid;rw [HQ.out];exact rV,HT5⟩
    case measure=>simp [intOf];omega
   ·have HCO:=n8 (Q5_ n F c d m1 oo g0 cap w2 (m2,true) HM1 vL (by rw [HL1.out];exact qb) (by unfold maxLen;exact qa) (by rw [HL1.out];exact hd) Cu hn hPW2 ET);have hcl:=mw vL (by rw [HL1.out];exact hd);rw [HL1.out] at HCO hcl;have HL3:Hid (m2.length=L):=hcl.1;have HOK2:=n8 tS;have HUP:=n8 hup;clear hsw hC hq vL hPW2 ET hcl HC tS hup;go_wp2_with fail;refine HCO.mono ?_;rintro e w5 ⟨qJ,rfl,zY,zW,zb⟩;have HM5:=n8 zY;have vw:Hid (Below base w w5):=HG.trans (zb.below (base:=base) (by have:=HG0.out;omega) (fun k hk=>by rw [hk];exact HG0));have HT5:Hid (∀ t∈qJ,base<=t.1):=fun t ht=>by
     rcases zW t ht with e | e
     ·exact zg t e
     ·have:=HG0.out;omega
    clear zY zb zW HCO;obtain ⟨tp,y8,p1,p2,p3,p6,p4,p5,hsy,hyl,Kt⟩:=HM5.elem HOK2 d c (by rw [HL3.out];exact vJ) Cu;have hys:=(kR HOK2 d (by rw [HL3.out];exact vJ)).2;have HSG:=n8 (fun W=>ns (aF m2 d c) W);have HTP:=n8 y8;have HP4:=n8 p4;have HYS:=n8 hys;have IP:Hid (base<=tp.1):=HT5 tp (oD y8);have Mj:Hid (tp.1≠g0):=p5;obtain ⟨yr,EE⟩:∃ yr,aG m2 d=yr:=⟨_,rfl⟩;obtain ⟨y0,tO⟩:∃ y,aF m2 d c=y:=⟨_,rfl⟩;have yq:Hid (ev c d (if y0<0 then m2.set d (fh yr) else m2) d=some m3):=by
     have:=HUP.out;unfold upW at this;rw [tO,EE] at this;exact this
    rw [EE] at hyl HP4 HYS;rw [tO] at p6 HSG;have HYR:=n8 EE;have HYL:=n8 hyl;unfold maxLen at p3;clear y8 p4 hys EE tO Kt hsy HUP p5;obtain ⟨mN,hmN⟩:∃ mN,(if y0<0 then m2.set d (fh yr) else m2)=mN:=⟨_,rfl⟩;rw [hmN] at yq;have HMN:=n8 hmN;clear hmN;go_wp2_with fail;refine (HSG _).mono ?_;rintro e w' ⟨rfl,rfl⟩;clear HSG
    go_upto_if 37 with fail
    obtain ⟨bn,yg⟩:∃ bn,decide (y0<0)=bn:=⟨_,rfl⟩;rw [yg];have HBN:=n8 yg;clear yg
    go_cut [7] from 38 to 51 (fun s7 wx=>Hid (bh wx g0 qJ mN)/\Hid (Below base w wx))
    case first =>
     as_aux_lemma =>
     cases bn with
     | true =>
      have hneg:=of_decide_eq_true HBN;have CG:Hid (mN=m2.set d (fh yr)):=by unfold Hid;rw [<- HMN.out];exact if_pos hneg
      clear hneg;go_wp2_with fail
      go_loopw [40] (fun t wr=>∃ j:Nat,j<=n/\t=.int .i64 j/\Hid (aP (·=tp.1) w5 wr)/\Hid (bU wr tp.1 tp.2.1 (gW yr j))) (fun t _=>n-(intOf t).toNat)
      case atStart=>exact ⟨0,by omega,rfl,aP.refl _ _,by rw [Z2e];exact HP4⟩
      case round =>
       obtain ⟨j,hj,rfl,IB,CB⟩:=hrel;obtain ⟨wo,rfl⟩:∃ wo:World,wo=wr:=⟨_,rfl⟩;by_cases hjl:j<n
       ·obtain ⟨a,yj⟩:∃ a,yr[j]?=some a:=⟨yr[j]'(by rw [HYL.out];exact hjl),n9 _⟩;have g1:=CB.cell j a (Z42 yr j a yj);have rh:Hid (∀ W,oW 29 #[.string (aD a)] W (.string (aD (-a)))):=fun W=>mD a W (by have:=(j3 (List.all_eq_true.1 HYS a (oD yj))).size;omega);have HSET:Hid (∀ W,aC wo W->bU (W.setCell ⟨tp.1,tp.2.1+j,none⟩ (.string (aD (-a)))) tp.1 tp.2.1 (gW yr (j+1))):=fun W hE=>by
         rw [<- Z44 yr j a yj];exact (CB.ext hE).set j (by rw [Z43,HYL.out];exact hjl) _
        clear yj;go_wp2_with fail;refine (rh _).mono ?_;rintro e w6 ⟨rfl,h6⟩;have HE6:=n8 h6;have g6:=h6.cell g1;have f6:=(CB.ext h6).free (tp.2.1+j);clear h6 rh;go_wp2_with fail;go_roundw
        case rel=>exact ⟨j+1,by omega,by go_num,(IB.ext HE6).setCell rfl _ _,HSET _ HE6⟩
        case measure=>simp [intOf];omega
       ·obtain rfl:j=n:=by omega
        have HF:Hid (bU wo tp.1 tp.2.1 (fh yr)):=by
         unfold Hid;rw [<- Z41 yr j (by rw [HYL.out];exact oJ _)];exact CB
        go_wp2_with fail;go_meet;rw [CG.out];exact ⟨HM5.setRow d (by rw [HL3.out];exact vJ) tp HTP (fh yr) (by rw [HYR.out];unfold fh;rw [List.length_map]) IB HF,vw.trans (IB.below (base:=base) (oI Ab vw.size) (fun k hk=>by rw [hk];exact IP))⟩
     | false =>
      have hneg:=of_decide_eq_false HBN;have CG:Hid (mN=m2):=by unfold Hid;rw [<- HMN.out];exact if_neg hneg
      clear hneg;go_wp2_with fail;go_meet;rw [CG.out];exact ⟨HM5,vw⟩
    case rest =>
    obtain ⟨HM6,HG6⟩:=hcut;obtain ⟨w6,rfl⟩:∃ w6:World,w6=wc:=⟨_,rfl⟩;have hmN:=HMN.out;have HLN:Hid (mN.length=L):=by
     unfold Hid;rw [<- hmN];split
     ·rw [List.length_set];exact HL3
     ·exact HL3
    have BD:Hid (cF n mN=true):=by
     unfold Hid;rw [<- hmN];split
     ·exact Z5t HOK2 d _ (by unfold fh;rw [List.length_map];exact HYL) (Z5q HYS)
     ·exact HOK2
    clear hmN HMN HM5 vw HP4 p6 p1 HYS HYR HOK2;go_wp2_with fail
    go_loopw [53] (fun si wr=>∃ (i4:Nat) (mj:List (List Int)) (tj:List (Nat×Nat×Nat)),i4<=d/\si=.int .i64 i4/\Hid (aP (·=g0) w6 wr)/\Hid (bh wr g0 tj mj)/\Hid (ev c d mN i4=some mj)/\Hid (∀ t∈tj,base<=t.1)/\Hid (tj[d]?=some tp)) (fun si _=>d-(intOf si).toNat)
    case atStart=>exact ⟨0,mN,qJ,by omega,rfl,aP.refl _ _,HM6,rfl,HT5,HTP⟩
    case round =>
     obtain ⟨i4,mj,tj,J6,rfl,wO,qH,ql,A4,HTD⟩:=hrel;obtain ⟨w4,rfl⟩:∃ w4:World,w4=wr:=⟨_,rfl⟩;obtain ⟨BR,y5,ED⟩:=v4_ ql J6 (by rw [HLN.out];omega);have wN:Hid (mj.length=L):=by unfold Hid;rw [BR];exact HLN
     have Dm:Hid (∀ W,aC w4 W->af W):=fun W hW=>(B9 w6 HG6 |>.below (wO.below (base:=base) (oI Ab HG6.size) (fun k hk=>by rw [hk];exact HG0)) HB).ext hW;by_cases J5:i4<d
     ·skip;obtain ⟨z,yM⟩:=Z4H yq (i4+1) (by omega);obtain ⟨mj',nr,e1,pR,rp,e2⟩:=L6_ yM;rw [ql.out] at e1;obtain rfl:=oL e1;have qp:(aG mj i4).length=n/\(aG mj i4).all eu=true:=by
       rw [y5 i4 (by omega)];exact kR BD i4 (by rw [HLN.out];omega)
      have sM:(aG mj d).length=n/\(aG mj d).all eu=true:=by
       rw [y5 d (by omega)];exact kR BD d (by rw [HLN.out];omega)
      have HST:Hid (ev c d mN (i4+1)=some (mj.set i4 nr)):=by unfold Hid;rw [yM,e2]
      have hzz:=e3_ rp (by rw [qp.1,sM.1]) qp.2 sM.2;obtain ⟨rfl,Cg,wY⟩:=hzz;clear yM e1 e2 BR y5 ED rp;obtain ⟨t4,EL,b1,b2,b3,b4,b5⟩:=qH.get i4 (by rw [wN.out];omega);obtain ⟨tp',y8,q1,q2,q3,q4,q5⟩:=qH.get d (by rw [wN.out];omega);obtain rfl:tp=tp':=oL (HTD.symm.trans y8);have ex:(aG mj i4)[c]?=some (aF mj i4 c):=by
       unfold aF;rw [oC,n9 (by rw [qp.1];exact Cu)];rfl
      have ey:(aG mj d)[c]?=some (aF mj d c):=by
       unfold aF;rw [oC,n9 (by rw [sM.1];exact Cu)];rfl
      have b6:=b4.cell c _ ex;have p6:=q4.cell c _ ey;have hsx:Sz (aF mj i4 c):=j3 (List.all_eq_true.1 qp.2 _ (oD ex));have hsy:Sz (aF mj d c):=j3 (List.all_eq_true.1 sM.2 _ (oD ey));have HDM:Hid (∀ W,aC w4 W->oW 94 #[.string (aD (aF mj i4 c)),.string (aD (aF mj d c))] W (.tuple #[.string (aD (aR (aF mj i4 c) (aF mj d c))),.string (aD (bF (aF mj i4 c) (aF mj d c))),.int .i64 0])):=fun W hW=>Z1h (aF mj i4 c) (aF mj d c) W hsx hsy pR (Dm W hW);have wa:∀ a∈aG mj i4,(aD a).size<=2800000000:=fun a ha=>by have:=(j3 (List.all_eq_true.1 qp.2 a ha)).size;omega
      have hll:(aG mj d).length=(aG mj i4).length:=by rw [qp.1,sM.1]
      rw [qp.1] at b1 b2;rw [sM.1] at q1 q2;have sC:Hid (∀ W,aC w4 W->Calls prog 137 #[.slice (some ⟨t4.1,t4.2.1,none⟩) n t4.2.2,.slice (some ⟨tp.1,tp.2.1,none⟩) n tp.2.2,.string (aD (aR (aF mj i4 c) (aF mj d c)))] W fun e w'=>e=.returned (.slice (some ⟨W.heap.size,0,none⟩) n n)/\aC W w'/\bU w' W.heap.size 0 (an (aR (aF mj i4 c) (aF mj d c)) (aG mj i4) (aG mj d))):=fun W hW=>by
       have h9:=N2_ (aR (aF mj i4 c) (aF mj d c)) (aG mj i4) (aG mj d) t4.1 t4.2.1 t4.2.2 tp.1 tp.2.1 tp.2.2 W (b4.ext hW) (q4.ext hW) hll Cg wa wY (by rw [qp.1];exact b2) b3 (by rw [sM.1];exact q2) q3 (by rw [qp.1];exact hn) (Dm W hW);rw [qp.1,sM.1] at h9;exact h9
      have Ak:(an (aR (aF mj i4 c) (aF mj d c)) (aG mj i4) (aG mj d)).length=n:=by rw [ir];exact qp.1
      unfold maxLen at b3;obtain ⟨nr,yW⟩:∃ nr,an (aR (aF mj i4 c) (aF mj d c)) (aG mj i4) (aG mj d)=nr:=⟨_,rfl⟩;rw [yW] at sC Ak HST;obtain ⟨xe,CO⟩:∃ x,aF mj i4 c=x:=⟨_,rfl⟩;obtain ⟨ye,tO⟩:∃ y,aF mj d c=y:=⟨_,rfl⟩;rw [CO] at b6 HDM sC;rw [tO] at p6 HDM sC;have HNL:=n8 Ak;have BE:Hid (i4<mj.length):=by unfold Hid;rw [wN.out];omega
      have Li:(i4:Int)<(L:Int):=by omega
      have f1:=qH.free i4;have HQ4:=n8 q4;have L1:(c:Int)<(n:Int):=by omega
      clear yW CO tO ex ey hsx hsy EL y8 b4 b5 q4 q5 pR qp sM Cg wY wa hll Ak yq BD q1
      go_upto_region 15 with fail
      refine fX (fun w'=>w'.cell? ⟨g0,i4,none⟩=some (.slice (some ⟨t4.1,t4.2.1,none⟩) n t4.2.2)/\w'.cell? ⟨t4.1,t4.2.1+c,none⟩=some (.string (aD xe))/\w'.cell? ⟨tp.1,tp.2.1+c,none⟩=some (.string (aD ye))/\Hid (aC w4 w')) 19 19 (by kernel_rfl) (by kernel_rfl) ⟨(aC.drew w4).cell b1,(aC.drew w4).cell b6,(aC.drew w4).cell p6,aC.drew w4⟩ (fun ops hO oX=>?_);refine rA [0,1,2,3,4,5,6,7,8,9,10] ?_
      iterate 11 (refine rS hO (by decide) fun o h=>?_;(conv at h=>lhs;whnf);subst h;refine rY hO (v:=?_) (Or.inl ⟨by rfl,?_⟩) ?_;rotate_left;·((intro w' oz);(try dsimp only at oz);(try go_simp);(try with_reducible rfl));(try simp only [Act.put,aK,aL,aM]))
      refine rE ?_;have hi:=a8 hO 11 (by decide)
      conv at hi=>rhs;arg 1;whnf
      refine dK hO 11 (by kernel_rfl) hi (fun K hK=>?_);go_simp
      (go_at_call 94;refine (HDM _ (oX.2.2.2)).mono ?_)
      rintro e w5 ⟨rfl,om⟩;go_wp2_with fail;refine hK _ _ ⟨(om).cell oX.1,(om).cell oX.2.1,(om).cell oX.2.2.1,aC.trans oX.2.2.2 (om)⟩ (fun oX=>?_);clear hK K hi
      (try simp only [Act.put,aK,aL,aM])
      refine rA [12,13,14,15,16,17] ?_
      iterate 6 (refine rS hO (by decide) fun o h=>?_;(conv at h=>lhs;whnf);subst h;refine rX hO (v:=?_) (Or.inl ⟨by rfl,?_⟩) ?_;rotate_left;·((intro w');(try go_simp);(try with_reducible rfl));(try simp only [Act.put,aK,aL,aM]))
      refine rE ?_;have HE5:Hid (aC w4 w5):=oX.2.2.2;have hi:=a8 hO 18 (by decide)
      conv at hi=>rhs;arg 1;whnf
      refine fp hO 18 (by kernel_rfl) (by kernel_rfl) hi (fun K hK=>?_);go_simp;refine hK _ _ (by assumption) ?_;clear hK K hi hO
      (try simp only [Act.put,aK,aL,aM])
      have b7:=HE5.cell b1;have HLS5:=n8 (sC w5 HE5);clear HDM sC b1 b6 p6;go_wp2_with fail;refine HLS5.mono ?_;rintro e w8 ⟨rfl,h8,Gm⟩;have HE8:Hid (aC w4 w8):=HE5.trans h8;have HR8:=n8 Gm;have q8:=h8.cell b7;have f8:=(qH.ext HE8).free i4;have HM9:=n8 (qH.newRow i4 BE (w5.heap.size,0,n) nr HE8 Gm HE5.size (by rw [HNL.out];exact oJ _) (by show n<=maxLen;unfold maxLen;omega));rw [HNL.out] at HM9;have HG9:=n8 ((wO.ext HE8).setCell (g:=g0) rfl i4 (.slice (some ⟨w5.heap.size,0,none⟩) n n));have Dh:Hid (∀ t∈tj.set i4 (w5.heap.size,0,n),base<=t.1):=fun t ht=>by
       rcases List.mem_or_eq_of_mem_set ht with h | h
       ·exact A4 t h
       ·rw [h];have h9:=HE5.size;have h10:=wO.size;have h11:=HG6.size;show base<=w5.heap.size;omega
      have Hg:Hid ((tj.set i4 (w5.heap.size,0,n))[d]?=some tp):=by unfold Hid;rw [oV,if_neg (by omega)];exact HTD
      clear h8 Gm b7 HLS5;go_wp2_with fail;go_roundw
      case rel=>exact ⟨i4+1,mj.set i4 nr,_,by omega,by go_num,HG9,HM9,HST,Dh,Hg⟩
      case measure=>simp [intOf];omega
     ·obtain rfl:i4=d:=by omega
      have AK:mj=m3:=by
       have h9:=ql.out;rw [yq.out] at h9;exact (oL h9).symm
      subst AK;have HG7:Hid (Below base w w4):=HG6.trans (wO.below (base:=base) (oI Ab HG6.size) (fun k hk=>by rw [hk];exact HG0));go_wp2_with fail;go_roundw
      case rel=>exact ⟨c+1,i4+1,mj,tj,by omega,by omega,by go_num,by go_num,HG7,qH,wN,by unfold Hid;rw [HQ.out];exact rV,A4⟩
      case measure=>simp [intOf];omega
  ·have hR:(m1,d)=R:=by
    have hC:=HC.out;by_cases vi:c<n
    ·obtain ⟨q,hq⟩:∃ q,n-c=q+1:=⟨n-c-1,by omega⟩;rw [hq] at hC;unfold fv at hC;rw [if_neg (by rw [HL1.out];omega)] at hC;exact oL hC
    ·rw [show n-c=0 by omega] at hC;exact oL hC
   have HF:Hid (bh w2 g0 oo R.1/\R.1.length=L):=by rw [<- hR];exact ⟨HM1,HL1⟩
   clear hR HC HM1 HL1;by_cases vi:c<n
   ·have Ny:¬ d<L:=fun h=>hlt ⟨vi,h⟩;clear hlt;go_wp2_with fail;refine bodyPost_end (results_none rfl _ _ _) rfl ⟨oo,rfl,HF.1,HF.2,HG⟩
   ·clear hlt;go_wp2_with fail;refine bodyPost_end (results_none rfl _ _ _) rfl ⟨oo,rfl,HF.1,HF.2,HG⟩
theorem s6_ (n c:Nat) (a:Option Addr) (w:World) (hn:n<=1000000):oW 81 #[.slice a 0 c,.int .i64 n] w (.tuple #[]):=by
 go_enter func81,ntmps81
 go_wp2_with fail
 go_loopw [4,5] (fun sd sc wr=>sd=.int .i64 0/\sc=.int .i64 0/\w=wr) (fun _ _ _=>0)
 case atStart=>exact ⟨rfl,rfl,rfl⟩
 case round =>
  obtain ⟨rfl,rfl,rfl⟩:=hrel;by_cases h0:0<n
  ·have h1:(0:Int)<(n:Int):=by omega
   go_wp2_with fail;refine bodyPost_end (results_none rfl _ _ _) rfl ⟨rfl,aC.refl _⟩
  ·have h1:¬ (0:Int)<(n:Int):=by omega
   go_wp2_with fail;refine bodyPost_end (results_none rfl _ _ _) rfl ⟨rfl,aC.refl _⟩
def jQ (n:Int):Prop:=-9223372036854775808<=n/\n<=9223372036854775807
instance (n:Int):Decidable (jQ n):=inferInstanceAs (Decidable (_/\_))
def lQ (n:Int):Int:=if jQ n then n else 0
structure iV (w:World):Prop where
 pow:af w
 rng:∃ te pe,w.cell? ⟨3,0,none⟩=some (.iface te pe)
theorem iV.ext {w w':World} (h:iV w) (he:aC w w'):iV w':=by
 obtain ⟨te,pe,hr⟩:=h.rng;exact ⟨h.pow.ext he,⟨te,pe,he.cell hr⟩⟩
theorem G7_ (n:Int) (h:¬ jQ n):Lib.parseIntB 64 (aD n).data.toList=.range:=by
 have:=N8_ (kK n).1 (by rw [(kK n).2];exact h);rw [Lib.parseIntB_64];exact this
theorem q7_ (n:Int) (h:jQ n):Lib.parseIntB 64 (aD n).data.toList=.ok n:=by
 have:=T3_ (kK n).1 (by rw [(kK n).2];exact h);rw [(kK n).2] at this;rw [Lib.parseIntB_64];exact this
theorem Z0I (n:Int) (w:World) (hs:(aD n).size<=2000000000) (ht:iV w) :
  oW 82 #[.string (aD n)] w (.tuple #[.int .i64 (lQ n),.bool (decide (jQ n))]):=by
 by_cases h:jQ n
 ·have HV:Hid (lQ n=n/\decide (jQ n)=true):=⟨by unfold lQ;rw [if_pos h],oS h⟩;have HP:Hid (oW 138 #[.string (aD n),.int .i64 10,.int .i64 64] w (.tuple #[.int .i64 n,.nilIface])) :=
   (strconv_ParseInt_10_at64_ok (aD n) (by omega) n (q7_ n h) w).mono fun e w' ⟨h1,h2⟩=>⟨h1,by
    rcases h2 with rfl | ⟨t,rfl⟩
    ·exact aC.refl _
    ·exact ⟨rfl,rfl,rfl,by rw [Lib.bytesWorld_size];omega,fun j hj=>Lib.bytesWorld_at_old w _ t j hj⟩⟩
  clear h ht
  go_enter func82,ntmps82
  go_wp2_with fail;refine HP.mono ?_;rintro e w1 ⟨rfl,hE1⟩;have HE1:=n8 hE1;clear hE1 HP;go_wp2_with fail;go_ret2;exact ⟨by rw [HV.out.1,HV.out.2];rfl,HE1⟩
 ·have HV:Hid (lQ n=0/\decide (jQ n)=false):=⟨by unfold lQ;rw [if_neg h],oR h⟩;obtain ⟨te,pe,hr⟩:=ht.rng;have HP:=n8 (strconv_ParseInt_10_at64_range (aD n) (by omega) (G7_ n h) _ w hr (.inr ⟨te,pe,rfl⟩));clear h hr ht
  go_enter func82,ntmps82
  go_wp2_with fail;refine HP.mono ?_;rintro e w1 ⟨N,rfl,hN,GW,hE1⟩;have HE1:Hid (aC w w1):=hE1;clear hE1 HP GW;go_wp2_with fail;go_ret2;exact ⟨by rw [HV.out.1,HV.out.2];rfl,HE1⟩
theorem bU.of_owns {w:World} {base:Nat} {e:TypeId} {g cap:Nat} {xs:List Int} (h:w.ownsRow base e 1 (.slice (some ⟨g,0,none⟩) xs.length cap) xs.length (xs.map fun x=>Value.string (aD x))):bU w g 0 xs/\base<=g/\xs.length<=cap/\cap<=maxLen:=by
 have hc:=h.cells (g:=g) (by simp [Value.ownBlock]);have hf:=fun j=>h.frozenAt j;rcases h.2 with ⟨hv,_⟩ | ⟨g',cap',cur,hv,hb,hg,h1,h2,h3,h4⟩
 ·simp at hv
 ·simp only [Value.slice.injEq,Option.some.injEq,Addr.mk.injEq] at hv;obtain ⟨⟨rfl,-,-⟩,-,rfl⟩:=hv;refine ⟨⟨(Array.getElem?_eq_some_iff.1 hg).1,fun j x hx=>?_,fun j=>?_⟩,hb,h1,h2⟩
  ·have:=hc j (.string (aD x)) (by rw [oE,hx];rfl);rw [show (⟨g,0,none⟩:Addr).add j=⟨g,0+j,none⟩ by unfold Addr.add;split <;> simp_all] at this;exact this
  ·exact hf j
def Z6K (_:World) (u:List Value) (x:Int):Prop:=u=[.int .i64 x]
theorem aZ.ints {w:World} {base:Nat} {e:TypeId} {v:Value} {xs:List Int} (h:aZ w base e 1 v Z6K xs):w.ownsRow base e 1 v xs.length (xs.map (Value.int .i64)):=by
 obtain ⟨us,h1,h2,h3,h4⟩:=h;have:us=xs.map fun x=>[Value.int .i64 x]:=by
  apply List.ext_getElem?;intro i;rw [oE];by_cases hi:i<xs.length
  ·have hi2:i<us.length:=by omega
   have:=(h4 i us[i] xs[i] (by simp [hi2]) (by simp [hi])).now;simp only [Z6K] at this;simp [hi,hi2,this]
  ·rw [oK (by omega),oK (by omega)];rfl
 rw [this,eI] at h3;exact h3
def Z3x (n:Int):Bool:=decide (-1000000000<=n) && decide (n<=1000000000)
theorem J0_ (n:Int):Z3x n=true↔-1000000000<=n/\n<=1000000000:=by simp [Z3x]
theorem Z6N {w:World} {B:Nat} {v:Value} {l:List Int} (h:cS B w v l) (hf:l.all Z3x=true):au w v l:=au.of_owns h (fun y hy=>by
 have:=(J0_ y).1 (List.all_eq_true.1 hf y hy);omega)
theorem Z2K {x:Int} (h:x.natAbs<=1000000000):(aD x).size<=12:=by
 have h1:=ix x.natAbs 10 (by have:(10:Nat)^10=10000000000:=(by decide);omega) (by decide);have h2:=eK x;omega
theorem Z04 {n F:Nat} {R Q:List (List Int)} (h:kH n F R=some Q):∃ d,fv n F n 0 0 R=some (Q,d):=by
 unfold kH at h;cases hc:fv n F n 0 0 R with
 | none=>rw [hc] at h;cases h
 | some z =>
  obtain ⟨Q',d⟩:=z;rw [hc] at h;obtain rfl:Q'=Q:=oL h;exact ⟨d,rfl⟩
theorem Z1V (F F2:Nat) {n k:Nat} {X:List Int} (hn:n<7) (qB:1<=n) (hR:eB n k X) (u:Value) (w:World) (h:cL w u n k X) (R Q:List (List Int)) (hz:az X≠0) (hK:ei F n k X=some R) (hk:R.length=k) (hF:kH n F2 R=some Q) (rI:∀ r∈Q,r.length=n/\r.all Z3x=true) (pj:iV w) (hb:4<w.heap.size) :
  Calls prog 36 #[u] w fun e w'=>∃ v,e=.returned (.tuple #[v,.int .i64 0])/\aC w w'/\bQ w' v Q:=by
 have ht:=pj.pow;have HCK:Hid (∀ W,aC w W->oW 47 #[u] W (.int .i64 0)):=fun W hW=>kv hR u W (h.ext hW);have qc:Hid (∀ W,aC w W->oW 79 #[u] W (.bool false)):=fun W hW=>by
  have h9:=n7 hR.dig u W (h.ext hW) (ht.ext hW);rw [oR hz] at h9;exact h9
 have vS:Hid (∀ W,aC w W->Calls prog 80 #[u] W fun e w'=>∃ v,e=.returned v/\Z6h w' W.heap.size v R/\aC W w'):=fun W hW=>U5_ F hn qB hR u W (h.ext hW) R hK (ht.ext hW) (oH hb hW.size);obtain ⟨dF,JM⟩:=Z04 hF;have HCF:=n8 JM;have hkn:=hR.kn;obtain ⟨r,rfl,hr⟩:=h;obtain ⟨a,c,rfl,-⟩:=aI.open hr;obtain ⟨mx,px⟩:∃ m,X.length=m:=⟨_,rfl⟩;rw [px] at HCK qc vS |-;obtain ⟨w1,o4,hE1,hs1,hb1⟩:=eF w (.int .i64 n) (.int .i64 k) (.slice a mx c);have HE1:=n8 hE1;have HB1:=n8 hb1;have k1:=aN hb1;have HRK:=n8 hk;have HLIB:=n8 pj;have HPB:=n8 hb;have HFIT:=n8 rI;clear hb1 hE1 hr hs1 px ht hb hK hR JM pj rI hF hz hk
 go_enter func36,ntmps36
 go_wp2_with fail;refine (HCK w1 HE1).mono ?_;rintro e w2 ⟨rfl,h2⟩;have HE2:Hid (aC w w2):=HE1.trans h2;have HB2:=n8 (aO HB1 h2);have k2:=aN HB2;clear h2 HCK k1 o4;go_wp2_with fail;refine (qc w2 HE2).mono ?_;rintro e w3 ⟨rfl,h3⟩;have HE3:Hid (aC w w3):=HE2.trans h3;have HB3:=n8 (aO HB2 h3);have k3:=aN HB3;clear h3 qc k2;go_wp2_with fail;refine (vS w3 HE3).mono ?_;rintro e w4 ⟨v4,rfl,Bp,h4⟩;have HE4:Hid (aC w w4):=HE3.trans h4;have HB4:=n8 (aO HB3 h4);have k4:=aN HB4;obtain ⟨a4,c4,rfl,r1,r2,r3⟩:=Bp;have A9:Hid (w.heap.size<=w3.heap.size/\w3.heap.size<=w4.heap.size):=⟨HE3.size,h4.size⟩;have hrk:=HRK.out;have x7:((R.length:Int) != (k:Int))=false:=by rw [hrk];simp
 rw [hrk] at r1 x7 |-;clear h4 vS k3;have DU:Calls prog 81 #[.slice a4 k c4,.int .i64 n] w4 fun e w'=>e=.returned (.tuple #[])/\aC w w'/\∃ tagsF,Hid ((Q=[]/\k=0)\/∃ g,a4=some ⟨g,0,none⟩/\bh w' g tagsF Q/\Q.length=k):=by
  rcases r3 with rfl | ⟨g,tags,rfl,hM,re⟩
  ·have rR:k=0:=hrk.symm;have MI:Q=[]:=by
    have h9:=HCF.out;obtain ⟨n',rfl⟩:∃ n',n=n'+1:=⟨n-1,by omega⟩;unfold fv at h9;rw [if_neg (by simp)] at h9;simp only [Option.some.injEq,Prod.mk.injEq] at h9;exact h9.1.symm
   rw [rR];exact (s6_ n c4 a4 w4 (by omega)).mono fun e w' ⟨q1,q2⟩=>⟨q1,HE4.trans q2,[],.inl ⟨MI,rfl⟩⟩
  ·have hf:=Z1A n F2 R tags g c4 w3.heap.size w4 (Q,dF) hM HCF (by rw [hrk];exact r1) r2 (by omega) (HLIB.pow.ext HE4) (by have:=HPB.out;have:=A9.out;omega) re A9.2;rw [hrk] at hf;exact hf.mono fun e w' ⟨tags',q1,q2,q3,q4⟩=>⟨q1,Below.trans HE4 (Below.mono q4 A9.1),tags',.inr ⟨g,rfl,q2,q3⟩⟩
 have HFRM:=n8 DU;unfold maxLen at r2;clear DU r3 hrk;go_wp2_with fail;refine HFRM.mono ?_;rintro e w5 ⟨rfl,h5,tagsF,HQ⟩;have HE5:=n8 h5;have HQL:Hid (Q.length=k):=by
  rcases HQ.out with ⟨h1,h2⟩ | ⟨g,-,-,h3⟩
  ·unfold Hid;rw [h1,h2];rfl
  ·exact h3
 clear h5 HFRM k4;go_wp2_with fail
 go_loopw [6,34] (fun o t wr=>∃ (i:Nat) (v0:Value),i<=k/\o=v0/\t=.int .i64 (i:Int)/\Hid (aC w5 wr)/\Hid (aZ wr w5.heap.size 27 1 v0 rowR (Q.take i))) (fun _ t _=>k+1-(intOf t).toNat)
 case atStart=>exact ⟨0,_,by omega,rfl,by simp,aC.refl _,aZ.nil _ _ _ _ _⟩
 case round =>
  obtain ⟨i,vo,hi,hv,rfl,HX,HBU⟩:=hrel;obtain rfl:=hv.symm;obtain ⟨wo,rfl⟩:∃ wo:World,wo=wr:=⟨_,rfl⟩;by_cases hlt:i<k
  ·obtain ⟨g,hg,hM,-⟩:∃ g,a4=some ⟨g,0,none⟩/\bh w5 g tagsF Q/\Q.length=k:=by
    rcases HQ.out with ⟨-,h2⟩ | h3
    ·omega
    ·exact h3
   obtain ⟨t,ht,c1,c2,c3,c5,-⟩:=hM.get i (by rw [HQL.out];exact hlt);obtain ⟨x5,FL⟩:=HFIT (aG Q i) (oD (gH (by rw [HQL.out];exact hlt)));have HN:Hid (Q.take (i+1)=Q.take i++[aG Q i]):=by
    unfold Hid;rw [oG,gH (by rw [HQL.out];exact hlt)];rfl
   obtain ⟨q,hq⟩:∃ q,aG Q i=q:=⟨_,rfl⟩;rw [hq] at c1 c2 c5 x5 FL HN;rw [x5] at c1 c2;have g1:=HX.cell c1;have HC5:=n8 c5;have HRN:=n8 x5;have HRF:=n8 FL;obtain ⟨bt,ot,ct⟩:=t;simp only at g1 c2 c3;unfold maxLen at c3;subst hg;obtain ⟨wn,Ie⟩:∃ wn,wo.alloc (.cells #[] 3)=wn:=⟨_,rfl⟩;have HO:Hid (cS wo.heap.size wn (.slice (some ⟨wo.heap.size,0,none⟩) 0 0) []):=by rw [<- Ie];exact World.ownsRow_made wo #[] 0 (oJ _) (Nat.zero_le _) rfl
   have NF:Hid (aC wo wn):=by rw [<- Ie];exact aC.alloc _ _
   clear hM ht c1 c5 hq x5 FL;go_wp2_with fail
   go_loopw [9,41] (fun o t wr=>∃ (j:Nat) (v0:Value),j<=n/\o=v0/\t=.int .i64 (j:Int)/\Hid (aC wo wr)/\Hid (cS wo.heap.size wr v0 (q.take j))) (fun _ t _=>n+1-(intOf t).toNat)
   case atStart=>exact ⟨0,_,by omega,rfl,by simp,NF,HO⟩
   case round =>
    obtain ⟨j,v9,hj,wD,rfl,HY,Hr⟩:=hrel;obtain rfl:=wD.symm;obtain ⟨wp,rfl⟩:∃ wp:World,wp=wr:=⟨_,rfl⟩;by_cases hjl:j<n
    ·obtain ⟨x,hx⟩:∃ x,q[j]?=some x:=⟨q[j]'(by rw [HRN.out];exact hjl),n9 _⟩;have g2:=HY.cell (HX.cell (HC5.cell j x hx));have hxf:=List.all_eq_true.1 HRF x (oD hx);obtain ⟨f1,f2⟩:=(J0_ x).1 hxf;have Ed:jQ x:=⟨by omega,by omega⟩;have hsz:(aD x).size<=20:=by
      have h9:=Z2K (x:=x) (by omega);omega
     have hSM:=Z0I x wp (by omega) (HLIB.ext (HE5.trans (HX.trans HY)));rw [show lQ x=x by unfold lQ;rw [if_pos Ed],show decide (jQ x)=true from oS Ed] at hSM;have HSM:=n8 hSM;have HNX:Hid (q.take (j+1)=q.take j++[x]):=by unfold Hid;rw [oG,hx];rfl
     have wN:Hid ((q.take j).length<1000000):=by unfold Hid;rw [oF];omega
     have f3:¬ (1000000000:Int)<x:=by omega
     have f4:¬ x<(-1000000000:Int):=by omega
     clear hx hxf Ed hsz hSM f1 f2;go_wp2_with fail;refine HSM.mono ?_;rintro e w6 ⟨rfl,h6⟩;have KF:Hid (aC wo w6):=HY.trans h6;have HO6:Hid (cS wo.heap.size w6 v9 (q.take j)):=fi Hr h6;have Mq:Hid (wo.heap.size<=w6.heap.size):=KF.size;clear h6 HSM;go_wp2_with (at_builtin;go_must (refine mU rfl w6 _ _ _ underlying27 rfl wo.heap.size v9 (q.take j) x _ _ rfl HO6 rfl rfl ?c2 Mq ?_))
     case c2=>have:=wN.out;omega
     intro v2 w7 Gt Jz;rw [<- HNX.out] at Gt;have HO7:=n8 Gt;have Mg:Hid (aC wo w7):=Below.trans KF Jz;clear Gt Jz;go_wp2_with fail;go_roundw
     case rel=>exact ⟨j+1,v2,by omega,rfl,by go_num,Mg,HO7⟩
     case measure=>simp [intOf];omega
    ·obtain rfl:j=n:=by omega
     have hO:=Hr.out;rw [List.take_of_length_le (by rw [HRN.out];exact oJ _)] at hO;have HO4:=n8 hO;obtain ⟨g4,Ep,E7⟩:∃ g4 c4,v9=.slice g4 q.length c4:=by
      obtain ⟨a9,c9,h9,-⟩:=aI.open (Z6N hO HRF);exact ⟨a9,c9,h9⟩
     subst E7;have HE6:Hid (aC w5 wp):=HX.trans HY;have HB4':=n8 (HBU.ext HY);have HSZ:Hid (w5.heap.size<=wp.heap.size):=HE6.size;have B6:Hid (∀ z,vo.ownBlock=some z->z<wo.heap.size):=fun z hz=>(HBU.lt z hz).2;have B7:Hid (b8 wp vo.ownBlock fun W=>rowR W [Value.slice g4 q.length Ep] q):=by
      refine b8.mono (b8.owns hO ?_) fun W hW=>⟨_,rfl,Z6N (B:=wo.heap.size) hW HRF⟩
      by_cases hn:(Value.slice g4 q.length Ep).ownBlock=none
      ·exact .inl hn
      ·refine .inr fun e=>?_;obtain ⟨z,hz⟩:=Option.ne_none_iff_exists'.1 hn;have h1:=(hO.lt z hz).1;have h2:=B6 z (e▸hz);omega
     have HLL:Hid ((Q.take i).length<1000000):=by unfold Hid;rw [oF];omega
     clear hO Hr HBU;go_wp2_with (at_builtin;go_must (refine ee _ rfl _ _ 23 rfl w5.heap.size 27 (.slice none 0 0) 1 24 underlying23 M8_ rfl (by decide) vo rowR (Q.take i) q #[_] 27 rfl HB4' rfl rfl ?e1 B7 HLL ?e3 HSZ ?_))
     case e1=>simp [Value.oneCell']
     case e3=>omega
     intro v5 w7 o8 pc hb5 rB _;have HE7:Hid (aC w5 w7):=Below.trans HE6 hb5;rw [<- HN.out] at o8;have HB5:=n8 o8;clear o8 pc hb5 rB;go_wp2_with fail;go_roundw
     case rel=>exact ⟨i+1,v5,by omega,rfl,by go_num,HE7,HB5⟩
     case measure=>simp [intOf];omega
  ·obtain rfl:i=k:=by omega
   have HF:=n8 HBU.list;rw [List.take_of_length_le (by rw [HQL.out];exact oJ _)] at HF;have HE9:Hid (aC w wo):=HE5.trans HX;clear HBU;go_wp2_with fail;go_ret2;exact ⟨_,rfl,HE9,HF⟩
theorem Z3Q {n k:Nat} {X:List Int} (hR:eB n k X) (u:Value) (w:World) (h:cL w u n k X) (hz:az X=0) (ht:af w) :
  oW 36 #[u] w (.tuple #[.slice none 0 0,.int .i64 17]):=by
 have HCK:Hid (∀ W,aC w W->oW 47 #[u] W (.int .i64 0)):=fun W hW=>kv hR u W (h.ext hW);have qc:Hid (∀ W,aC w W->oW 79 #[u] W (.bool true)):=fun W hW=>by
  have h9:=n7 hR.dig u W (h.ext hW) (ht.ext hW);rw [oS hz] at h9;exact h9
 have hkn:=hR.kn;obtain ⟨r,rfl,hr⟩:=h;obtain ⟨a,c,rfl,-⟩:=aI.open hr;obtain ⟨mx,px⟩:∃ m,X.length=m:=⟨_,rfl⟩;rw [px] at HCK qc |-;obtain ⟨w1,o4,hE1,hs1,hb1⟩:=eF w (.int .i64 n) (.int .i64 k) (.slice a mx c);have HE1:=n8 hE1;have HB1:=n8 hb1;have k1:=aN hb1;clear hb1 hE1 hr hs1 px ht hR hz
 go_enter func36,ntmps36
 go_wp2_with fail;refine (HCK w1 HE1).mono ?_;rintro e w2 ⟨rfl,h2⟩;have HE2:Hid (aC w w2):=HE1.trans h2;have HB2:=n8 (aO HB1 h2);have k2:=aN HB2;clear h2 HCK k1 o4;go_wp2_with fail;refine (qc w2 HE2).mono ?_;rintro e w3 ⟨rfl,h3⟩;have HE3:Hid (aC w w3):=HE2.trans h3;have HB3:=n8 (aO HB2 h3);have k3:=aN HB3;clear h3 qc k2;go_wp2_with fail;go_ret2;exact ⟨rfl,HE3⟩
theorem Z3P (F:Nat) {n k:Nat} {X:List Int} (hn:n<7) (qB:1<=n) (hR:eB n k X) (u:Value) (w:World) (h:cL w u n k X) (R:List (List Int)) (hz:az X≠0) (hK:ei F n k X=some R) (hk:R.length≠k) (ht:af w) (hb:4<w.heap.size) :
  oW 36 #[u] w (.tuple #[.slice none 0 0,.int .i64 7]):=by
 have HCK:Hid (∀ W,aC w W->oW 47 #[u] W (.int .i64 0)):=fun W hW=>kv hR u W (h.ext hW);have qc:Hid (∀ W,aC w W->oW 79 #[u] W (.bool false)):=fun W hW=>by
  have h9:=n7 hR.dig u W (h.ext hW) (ht.ext hW);rw [oR hz] at h9;exact h9
 have vS:Hid (∀ W,aC w W->Calls prog 80 #[u] W fun e w'=>∃ v,e=.returned v/\Z6h w' W.heap.size v R/\aC W w'):=fun W hW=>U5_ F hn qB hR u W (h.ext hW) R hK (ht.ext hW) (oH hb hW.size);have hkn:=hR.kn;obtain ⟨r,rfl,hr⟩:=h;obtain ⟨a,c,rfl,-⟩:=aI.open hr;obtain ⟨mx,px⟩:∃ m,X.length=m:=⟨_,rfl⟩;rw [px] at HCK qc vS |-;obtain ⟨w1,o4,hE1,hs1,hb1⟩:=eF w (.int .i64 n) (.int .i64 k) (.slice a mx c);have HE1:=n8 hE1;have HB1:=n8 hb1;have k1:=aN hb1;have q1:((R.length:Int) != (k:Int))=true:=bne_iff_ne.2 (by omega);clear hb1 hE1 hr hs1 px ht hb hK hR hz hk
 go_enter func36,ntmps36
 go_wp2_with fail;refine (HCK w1 HE1).mono ?_;rintro e w2 ⟨rfl,h2⟩;have HE2:Hid (aC w w2):=HE1.trans h2;have HB2:=n8 (aO HB1 h2);have k2:=aN HB2;clear h2 HCK k1 o4;go_wp2_with fail;refine (qc w2 HE2).mono ?_;rintro e w3 ⟨rfl,h3⟩;have HE3:Hid (aC w w3):=HE2.trans h3;have HB3:=n8 (aO HB2 h3);have k3:=aN HB3;clear h3 qc k2;go_wp2_with fail;refine (vS w3 HE3).mono ?_;rintro e w4 ⟨v4,rfl,Bp,h4⟩;have HE4:Hid (aC w w4):=HE3.trans h4;have HB4:=n8 (aO HB3 h4);have k4:=aN HB4;obtain ⟨a4,c4,rfl,r1,r2,r3⟩:=Bp;clear h4 vS k3 r3;go_wp2_with fail;go_ret2;exact ⟨rfl,HE4⟩
theorem J6_ {X:List Int} (hR:eB 0 0 X) (u:Value) (w:World) (h:cL w u 0 0 X) :
  oW 80 #[u] w (.slice none 0 0):=by
 obtain ⟨r,rfl,hr⟩:=h;obtain ⟨a,c,rfl,h1,h2,-,hc⟩:=bT.open (eP.of_nums hr);obtain ⟨mx,px⟩:∃ m,X.length=m:=⟨_,rfl⟩;rw [px] at h1 |-;obtain ⟨w1,o4,hE1,hs1,hb1⟩:=eF w (.int .i64 0) (.int .i64 0) (.slice a mx c);have HE1:=n8 hE1;have HB1:=n8 hb1;have k1:=aN hb1;have xx:Hid (∀ W,Calls prog 60 #[.int .i64 0,.int .i64 0] W (mg (aJ 0 0) W)):=fun W=>lg 0 0 (by omega) (by omega) W;have HPL:Hid (∀ W,Calls prog 59 #[.int .i64 0,.int .i64 0] W fun e w'=>∃ v,e=.returned v/\aC W w'/\e_ w' v 0 0):=fun W=>V4_ 0 0 (by omega) (by omega) W;clear hb1 hE1 hr hc hs1 hR px;show Calls prog 80 #[.agg #[.int .i64 0,.int .i64 0,.slice a mx c]] w _
 go_enter func80,ntmps80
 go_wp2_with fail;refine (xx w1).mono ?_;rintro e w2 ⟨v2,rfl,h2,hU⟩;obtain ⟨a2,c2,rfl,pJ,pT,pG⟩:=hU.open;have HE2:Hid (aC w w2):=HE1.trans h2;have HB2:=n8 (aO HB1 h2);have d0:=aN HB2 0;have d1:=aN HB2 1;simp only [oQ,oO,oP] at d0 d1;clear h2 hU pG pJ pT xx k1 o4;obtain ⟨IY,vd⟩:∃ l,(aJ 0 0).length=l:=⟨_,rfl⟩;rw [vd];clear vd;go_wp2_with fail;refine (HPL _).mono ?_;rintro e w3 ⟨v3,rfl,h3,Gr⟩;have HE3:Hid (aC w w3):=HE2.trans h3;clear h3 Gr HPL d0 d1;go_wp2_with fail
 go_loopw [6,37] (fun out t wr=>out=.slice none 0 0/\t=.int .i64 0/\Hid (aC w3 wr)) (fun _ _ _=>0)
 case atStart=>exact ⟨rfl,rfl,aC.refl _⟩
 case round =>
  obtain ⟨rfl,rfl,HY⟩:=hrel;go_wp2_with fail
  go_loopw [14,87] (fun s t wr=>s=.int .i64 0/\t=.int .i64 0/\Hid (aC w3 wr)) (fun _ _ _=>0)
  case atStart=>exact ⟨rfl,rfl,HY⟩
  case round =>
   obtain ⟨rfl,rfl,A0⟩:=hrel;go_wp2_with fail
   go_loopw [16,101] (fun s t wr=>s=.slice none 0 0/\t=.int .i64 0/\Hid (aC w3 wr)) (fun _ _ _=>0)
   case atStart=>exact ⟨rfl,rfl,A0⟩
   case round =>
    obtain ⟨rfl,rfl,HY3⟩:=hrel;go_wp2_with fail;go_ret;exact ⟨rfl,HE3.trans HY3⟩
theorem Z3O {X:List Int} (hR:eB 0 0 X) (hz:az X≠0) (u:Value) (w:World) (h:cL w u 0 0 X) (ht:af w) :
  oW 36 #[u] w (.tuple #[.slice none 0 0,.int .i64 0]):=by
 have HCK:Hid (∀ W,aC w W->oW 47 #[u] W (.int .i64 0)):=fun W hW=>kv hR u W (h.ext hW);have qc:Hid (∀ W,aC w W->oW 79 #[u] W (.bool false)):=fun W hW=>by
  have h9:=n7 hR.dig u W (h.ext hW) (ht.ext hW);rw [oR hz] at h9;exact h9
 have vS:Hid (∀ W,aC w W->oW 80 #[u] W (.slice none 0 0)):=fun W hW=>J6_ hR u W (h.ext hW);obtain ⟨r,rfl,hr⟩:=h;obtain ⟨a,c,rfl,-⟩:=aI.open hr;obtain ⟨mx,px⟩:∃ m,X.length=m:=⟨_,rfl⟩;rw [px] at HCK qc vS |-;obtain ⟨w1,o4,hE1,hs1,hb1⟩:=eF w (.int .i64 0) (.int .i64 0) (.slice a mx c);have HE1:=n8 hE1;have HB1:=n8 hb1;have k1:=aN hb1;clear hb1 hE1 hr hs1 px ht hR hz;show Calls prog 36 #[.agg #[.int .i64 0,.int .i64 0,.slice a mx c]] w _
 go_enter func36,ntmps36
 go_wp2_with fail;refine (HCK w1 HE1).mono ?_;rintro e w2 ⟨rfl,h2⟩;have HE2:Hid (aC w w2):=HE1.trans h2;have HB2:=n8 (aO HB1 h2);have k2:=aN HB2;clear h2 HCK k1 o4;go_wp2_with fail;refine (qc w2 HE2).mono ?_;rintro e w3 ⟨rfl,h3⟩;have HE3:Hid (aC w w3):=HE2.trans h3;have HB3:=n8 (aO HB2 h3);have k3:=aN HB3;clear h3 qc k2;go_wp2_with fail;refine (vS w3 HE3).mono ?_;rintro e w4 ⟨rfl,h4⟩;have HE4:Hid (aC w w4):=HE3.trans h4;have HB4:=n8 (aO HB3 h4);have k4:=aN HB4;clear h4 vS k3;go_wp2_with fail;refine (s6_ 0 0 none w4 (by omega)).mono ?_;rintro e w5 ⟨rfl,h5⟩;have HE5:Hid (aC w w5):=HE4.trans h5;clear h5 k4;go_wp2_with fail
 go_loopw [6,34] (fun o t wr=>o=.slice none 0 0/\t=.int .i64 0/\Hid (aC w5 wr)) (fun _ _ _=>0)
 case atStart=>exact ⟨rfl,rfl,aC.refl _⟩
 case round =>
  obtain ⟨rfl,rfl,HY⟩:=hrel;go_wp2_with fail;go_ret2;exact ⟨rfl,HE5.trans HY⟩
theorem m6_ {X:List Int} (hR:eB 0 0 X) (u:Value) (w:World) (h:cL w u 0 0 X) (ht:af w) :
  oW 35 #[u] w (.tuple #[.bool true,.int .i64 0]):=by
 have h9:=K3_ hR u w h 0 (fun W hW=>(J6_ hR u W (h.ext hW)).mono fun e w' ⟨h1,h2⟩=>⟨none,0,h1,h2⟩) ht;rw [show decide (0=0)=true from rfl,Bool.or_true] at h9;exact h9
def gC (X:List Int):Int:=if cu X<0 then -(az X:Int) else (az X:Int)
def cO (X:List Int):List Int:=if az X=0 then X else X.map fun x=>aR x (gC X)
theorem E1_ {X:List Int}:∀ i,i<=X.length->∀ (j:Nat) x,j<i->X[j]?=some x->cM X i ∣ x.natAbs
 | 0,_,j,x,h,_=>by omega
 | i+1,hi,j,x,h,hx=>by
  obtain ⟨y,hy⟩:∃ y,X[i]?=some y:=⟨_,n9 (by omega)⟩;rw [kD hy];by_cases e:j=i
  ·subst e;rw [hx] at hy;cases hy;exact Nat.gcd_dvd_right _ _
  ·exact Nat.dvd_trans (Nat.gcd_dvd_left _ _) (E1_ i (by omega) j x (by omega) hx)
theorem L9_ {X:List Int} {x:Int} (h:x∈X):∃ z:Int,x=(az X:Int)*z:=by
 obtain ⟨j,hj⟩:=List.getElem?_of_mem h;have h1:=E1_ X.length (oJ _) j x (n_.1 hj).1 hj;have h2:((az X:Nat):Int) ∣ x:=Int.ofNat_dvd_left.2 h1;exact h2
theorem lu {d z:Int} (hd:d≠0):aR (d*z) d=z:=by
 unfold aR;rw [Int.mul_tmod_right,if_neg (by simp),Int.mul_tdiv_cancel_left _ hd]
theorem z3_ {d z:Int} (hd:d≠0):aR (d*z) (-d)=-z:=by
 have:d*z=(-d)*(-z):=by rw [Int.neg_mul_neg]
 rw [this];exact lu (by omega)
theorem Z5E {x:Int} (h:x≠0):x.sign≠0:=fun e=>h (Int.sign_eq_zero_iff_zero.1 e)
theorem O2_ {X:List Int} (h:cu X=0):∀ x∈X,x=0:=by
 intro x hx;unfold cu at h;cases hf:X.find? (·≠0) with
 | none =>
  have:=List.find?_eq_none.1 hf x hx;simpa using this
 | some y =>
  rw [hf] at h;have:=List.find?_some hf;exact absurd h (Z5E (by simpa using this))
theorem B0_ {X:List Int} {i:Nat} (h:cu (X.take i)≠0):cu X=cu (X.take i):=by
 have e:X.find? (·≠0)=((X.take i).find? (·≠0)).or ((X.drop i).find? (·≠0)):=by
  rw [<- List.find?_append,List.take_append_drop]
 unfold cu at h |-;cases hf:(X.take i).find? (·≠0) with
 | none=>rw [hf] at h;exact absurd rfl h
 | some y=>rw [e,hf];rfl
theorem C9_ {X:List Int} {i:Nat} {x:Int} (hx:X[i]?=some x):cu (X.take (i+1))=if cu (X.take i)=0 then x.sign else cu (X.take i):=by
 rw [oG,hx];by_cases h:cu (X.take i)=0
 ·rw [if_pos h];have hall:=O2_ h;have hn:(X.take i).find? (·≠0)=none:=List.find?_eq_none.2 fun y hy=>by simp [hall y hy]
  unfold cu;rw [List.find?_append,hn];by_cases h0:x=0
  ·subst h0;rfl
  ·simp [h0]
 ·rw [if_neg h];have:cu (X.take i++[x])=cu ((X.take i++[x]).take (X.take i).length):=B0_ (by rw [List.take_left'];exact h;rfl);have e2:(X.take i++(some x).toList)=X.take i++[x]:=rfl;rw [e2,this,List.take_left' rfl]
theorem g5_ {X:List Int} {i:Nat} {x:Int} (hx:X[i]?=some x):(cO X)[i]?=some (if cu (X.take (i+1))<0 then -(if az X≠0 then aR x (az X) else x) else (if az X≠0 then aR x (az X) else x)):=by
 unfold cO;by_cases hd:az X=0
 ·have e:(if az X≠0 then aR x (az X) else x)=x:=if_neg (fun e=>e hd);rw [if_pos hd,hx,e];have hz:x=0:=by
   obtain ⟨z,hz⟩:=L9_ (oD hx);rw [hz,hd];simp
  subst hz
  split <;> simp
 ·rw [if_neg hd,oE,hx,if_pos hd];simp only [Option.map_some,Option.some.injEq];have qR:(az X:Int)≠0:=by omega
  obtain ⟨z,hz⟩:=L9_ (oD hx);rw [hz,lu qR];unfold gC;by_cases h0:cu (X.take (i+1))=0
  ·have pE:x=0:=O2_ h0 x (oD (i:=i) (by rw [List.getElem?_take,if_pos (by omega),hx]));have pH:z=0:=by
    rw [pE] at hz;rcases Int.mul_eq_zero.1 hz.symm with h | h
    ·exact absurd h qR
    ·exact h
   subst pH;rw [h0,if_neg (show ¬ (0:Int)<0 by omega),Int.mul_zero];unfold aR;rw [Int.zero_tmod,if_neg (by simp),Int.zero_tdiv]
  ·rw [B0_ h0];by_cases hs:cu (X.take (i+1))<0
   ·rw [if_pos hs,if_pos hs];exact z3_ qR
   ·rw [if_neg hs,if_neg hs];exact lu qR
theorem A1_ (X:List Int):(cO X).length=X.length:=by unfold cO;split <;> simp
theorem Z1c {X:List Int} (h:az X≠0):∃ x∈X,x≠0:=by
 apply Classical.byContradiction;intro hn;have hall:∀ x∈X,x=0:=fun x hx=>Classical.byContradiction fun e=>hn ⟨x,hx,e⟩;apply h;have:∀ i,i<=X.length->cM X i=0:=by
  intro i
  induction i with
  | zero=>intro _;rfl
  | succ i ih =>
   intro hi;obtain ⟨y,hy⟩:∃ y,X[i]?=some y:=⟨_,n9 (by omega)⟩;rw [kD hy,ih (by omega),hall y (oD hy)];rfl
 exact this _ (oJ _)
end Go.Proofs.YtjlkkofmojgipaaGreatDoor
