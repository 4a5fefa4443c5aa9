import Derived.Test.YtoonaddcfakamaaGreatDoorYAJ
import Derived.Test.YtoonaddcfakamaaGreatDoorYAF
import Derived.RegionTactic
import Derived.BigRegion
import Derived.Deep.DeepCutAuto
import Derived.Deep.RegionHeld3
import Derived.StillTail
import Derived.StillTactics
set_option linter.unusedVariables false
set_option linter.unusedSimpArgs false
set_option maxRecDepth 1000000
set_option maxHeartbeats 40000000
namespace Go.Proofs.YtoonaddcfakamaaGreatDoor
open Go.RowKit Go.Proofs.Tryz
def dh (w:World) (g0:Nat) (oW tags:List (Nat×Nat×Nat)) (m:oP):Prop :=
 cF w g0 tags m/\(∀ b,b∈tags.map (·.1)->b∈oW.map (·.1))
def mZ:Option Nat->Value
 | none=>.int .i64 (-1)
 | some a=>.int .i64 a
theorem V3_ (c d:Nat) (m:oP) (k:Nat):bQ c d m (k+1)=match bQ c d m k with
  | none=>if aD m (d+k) c=0 then none else some (d+k)
  | some a=>if aD m (d+k) c≠0/\(aD m (d+k) c).natAbs<(aD m a c).natAbs then some (d+k) else some a:=rfl
theorem b2_ {c d i:Nat} {m:oP} (hi:d<=i) (h:aD m i c=0):bQ c d m (i+1-d)=bQ c d m (i-d):=by
 rw [show i+1-d=(i-d)+1 by omega,V3_,show d+(i-d)=i by omega];cases bQ c d m (i-d) with
 | none=>simp [h]
 | some a=>simp [h]
theorem m7_ {c d i:Nat} {m:oP} (hi:d<=i) (h:aD m i c≠0) (hb:bQ c d m (i-d)=none):bQ c d m (i+1-d)=some i:=by
 rw [show i+1-d=(i-d)+1 by omega,V3_,show d+(i-d)=i by omega,hb];simp [h]
theorem b1_ {c d i a:Nat} {m:oP} (hi:d<=i) (h:aD m i c≠0) (hb:bQ c d m (i-d)=some a):bQ c d m (i+1-d)=if (aD m i c).natAbs<(aD m a c).natAbs then some i else some a:=by
 rw [show i+1-d=(i-d)+1 by omega,V3_,show d+(i-d)=i by omega,hb];simp only;by_cases hl:(aD m i c).natAbs<(aD m a c).natAbs;·rw [if_pos ⟨h,hl⟩,if_pos hl]
 ·rw [if_neg (fun x=>hl x.2),if_neg hl]
theorem y1_ {c d:Nat} {m:oP}:∀ (k a:Nat),bQ c d m k=some a->d<=a/\a<d+k/\aD m a c≠0
 | 0,a,h=>by simp [bQ] at h
 | k+1,a,h=>by
  rw [V3_] at h;cases hb:bQ c d m k with
  | none =>
   rw [hb] at h;simp only at h
   split at h
   ·cases h
   ·rename_i hne;obtain rfl:=oA h;exact ⟨by omega,by omega,hne⟩
  | some b =>
   rw [hb] at h;simp only at h;have ih:=y1_ k b hb
   split at h
   ·rename_i hc;obtain rfl:=oA h;exact ⟨by omega,by omega,hc.1⟩
   ·obtain rfl:=oA h;exact ⟨ih.1,by omega,ih.2.2⟩
theorem dh.elem {w:World} {g0:Nat} {oW tags:List (Nat×Nat×Nat)} {m:oP} (h:dh w g0 oW tags m) {n:Nat} (og:bV n m=true) (i c:Nat) (hi:i<m.length) (hc:c<n) :
  ∃ t:Nat×Nat×Nat,tags[i]?=some t/\w.cell? ⟨g0,i,none⟩=some (.slice (some ⟨t.1,t.2.1,none⟩) n t.2.2)/\n<=t.2.2/\t.2.2<=maxLen/\w.cell? ⟨t.1,t.2.1+c,none⟩=some (.string (aB (aD m i c)))/\an w t.1 t.2.1 (aC m i)/\t.1≠g0/\Sz (aD m i c):=by
 obtain ⟨t,ht,h1,h2,h3,h4,h5⟩:=h.1.get i hi;obtain ⟨hl,hs⟩:=iH og i hi;have o8:c<(aC m i).length:=by omega
 have e:(aC m i)[c]?=some (aD m i c):=by
  unfold aD;rw [nu,ns o8];rfl
 rw [hl] at h1 h2;exact ⟨t,ht,h1,h2,h3,h4.cell c _ e,h4,h5,fu (List.all_eq_true.1 hs _ (nw e))⟩
theorem dh.ext {w w':World} {g0:Nat} {oW tags:List (Nat×Nat×Nat)} {m:oP} (h:dh w g0 oW tags m) (he:aA w w'):dh w' g0 oW tags m:=⟨h.1.ext he,h.2⟩
theorem dh.grownRow {w w':World} {g0:Nat} {oW tags:List (Nat×Nat×Nat)} {m:oP} (h:dh w g0 oW tags m) (i:Nat) (hi:i<m.length) (t:Nat×Nat×Nat) (ht:tags[i]?=some t) (r:oQ) (hr:r.length=(aC m i).length) (hg:aH (·=t.1) w w') (hR:an w' t.1 t.2.1 r):dh w' g0 oW tags (m.set i r) :=
 ⟨h.1.setRow i hi t ht r hr hg hR,h.2⟩
theorem dh.inb {w:World} {g0:Nat} {oW tags:List (Nat×Nat×Nat)} {m:oP} (h:dh w g0 oW tags m) {i:Nat} {t:Nat×Nat×Nat} (ht:tags[i]?=some t):dp g0 oW t.1 :=
 List.mem_cons_of_mem _ (h.2 t.1 (List.mem_map.2 ⟨t,nw ht,rfl⟩))
theorem kN {m:oP} {i c:Nat} (hc:c<(aC m i).length):(aC m i)[c]?=some (aD m i c):=by
 unfold aD;rw [nu,ns hc];rfl
theorem Z50 {n:Nat} {m:oP} (h:bV n m=true) (i:Nat) (r:oQ) (h1:r.length=n) (h2:r.all bX=true):bV n (m.set i r)=true:=by
 unfold bV at h |-;rw [List.all_eq_true] at h |-;intro x hx;rcases List.mem_or_eq_of_mem_set hx with hx | hx;·exact h x hx
 ·rw [hx,Bool.and_eq_true,decide_eq_true_iff];exact ⟨h1,h2⟩
theorem Z4W {r:oQ} (h:r.all bX=true):(ef r).all bX=true:=by
 unfold ef;rw [List.all_map,List.all_eq_true];rw [List.all_eq_true] at h;intro x hx;have:=(v9_ x).1 (h x hx);show bX (-x)=true;rw [v9_,Int.natAbs_neg];exact this
theorem Z2G {c d:Nat} {m m3:oP} {p:Bool} (h:(match dY c d m d with | none=>none | some m4=>some (m4,true))=some (m3,p)):∃ z,dY c d m d=some z/\m3=z/\p=true:=by
 cases hu:dY c d m d with
 | none=>rw [hu] at h;cases h
 | some z =>
  rw [hu] at h;simp only [Option.some.injEq,Prod.mk.injEq] at h;exact ⟨z,rfl,h.1.symm,h.2.symm⟩
theorem Z5s (x y:Int):decide (eT (x.natAbs:Int) (y.natAbs:Int)<0)=decide (x.natAbs<y.natAbs):=by
 unfold eT;by_cases h:x.natAbs<y.natAbs;·rw [if_pos (by omega),oH h];rfl
 ·rw [if_neg (by omega),oG h];split <;> rfl
theorem Z2n {x:Int} (h:Sz x):(aB x).size<=10000000000:=by have:=h.size;omega
theorem Z4q {x:Int} (h:Sz x):Sz (x.natAbs:Int):=h.natAbs
theorem x4_ (n F cols:Nat) (m:oP) (tags:List (Nat×Nat×Nat)) (g0 cap base:Nat) (w:World) (R:oP×Nat) (hM:cF w g0 tags m) (og:dG n F cols 0 0 m=some R)
  (sw:m.length<=cap) (qP:cap<=maxLen) (yG:cols<=n) (vz:n<=1000000) (ht:aZ w) (hb:3<base) (hg:∀ b,dp g0 tags b->base<=b) (rh:base<=w.heap.size) :
  Calls prog 132 #[.slice (some ⟨g0,0,none⟩) m.length cap,.int .i64 cols] w fun e w'=>∃ tags',e=.returned (.slice (some ⟨g0,0,none⟩) R.2 cap)/\dh w' g0 tags tags' R.1/\R.1.length=m.length/\R.2<=m.length/\aH (dp g0 tags) w w':=by
 have HM:=np hM;have HOK:=np og;have HT:=np ht;have HB:=np hb;have HGB:=np hg;unfold maxLen at qP;obtain ⟨L,hL⟩:=oN m.length;rw [hL] at sw |-;have HL:=np hL;clear hM og ht hb hg hL
 go_enter func132,ntmps132
 go_wp2_with fail
 go_loopw [5,6] (fun sd sc wr=>∃ (c d:Nat) (m1:oP) (oc:List (Nat×Nat×Nat)),c<=cols/\d<=L/\sc=.int .i64 c/\sd=.int .i64 d/\aH (dp g0 tags) w wr/\Hid (dh wr g0 tags oc m1)/\Hid (m1.length=L)/\Hid (dG n F (cols-c) c d m1=some R)) (fun _ sc _=>cols-(intOf sc).toNat)
 case atStart=>exact ⟨0,0,m,tags,by omega,by omega,rfl,rfl,aH.refl _ _,⟨HM,fun b h=>h⟩,HL,HOK⟩
 case round =>
  obtain ⟨c,d,m1,oc,hc,hd,rfl,rfl,hG,HFA,HL1,HC⟩:=hrel;obtain ⟨wo,rfl⟩:∃ wo:World,wo=wr:=⟨_,rfl⟩;by_cases hlt:c<cols/\d<L
  ·obtain ⟨Hw,qn⟩:=hlt;obtain ⟨q,hq⟩:∃ q,cols-c=q+1:=⟨cols-c-1,by omega⟩;have hC:=HC.out;rw [hq] at hC;unfold dG at hC;rw [if_pos (by rw [HL1.out];exact qn)] at hC;cases hsw:eI n c d F m1 with
   | none=>rw [hsw] at hC;cases hC
   | some r =>
   obtain ⟨m3,p⟩:=r;rw [hsw] at hC;have HSW:=np hsw;have HC2:Hid (dG n F q (c+1) (if p then d+1 else d) m3=some R):=hC;have HQ:=np hq;have yH:c<n:=(by omega);clear hsw hC hq HC;go_wp2_with fail
   go_loopg [5] F (fun f sd wr=>∃ (m2:oP) (oz:List (Nat×Nat×Nat)),sd=.int .i64 d/\aH (dp g0 tags) w wr/\Hid (dh wr g0 tags oz m2)/\Hid (m2.length=L)/\Hid (eI n c d f m2=some (m3,p)))
   case atStart=>exact ⟨m1,oc,rfl,hG,HFA,HL1,HSW⟩
   case round =>
    clear HFA HL1 HSW hG;obtain ⟨m2,oz,rfl,hG,HFA,HL2,HSW⟩:=hrel;obtain ⟨w2,rfl⟩:∃ w2:World,w2=wr:=⟨_,rfl⟩;cases gk with
    | zero=>exact absurd HSW.out (by unfold eI;simp)
    | succ f =>
    have hS:=HSW.out;unfold eI at hS;by_cases xO:bV n m2=true
    ·rw [if_pos xO,HL2.out] at hS;have HOKM:=np xO;have HS:=np hS;clear hS xO HSW;go_wp2_with fail
     go_loopw [7,8] (fun sa si wr=>∃ i:Nat,d<=i/\i<=L/\si=.int .i64 i/\aA w2 wr/\Hid (sa=mZ (bQ c d m2 (i-d)))) (fun _ si _=>L-(intOf si).toNat)
     case atStart=>exact ⟨d,by omega,by omega,rfl,aA.refl _,by rw [Nat.sub_self];rfl⟩
     case round =>
      obtain ⟨i,su,KR,rfl,hE,HA⟩:=hrel;obtain ⟨w3,rfl⟩:∃ w3:World,w3=wr:=⟨_,rfl⟩;have HA0:=HA;have hA:=HA.out;clear HA;by_cases hil:i<L
      ·as_aux_lemma =>
       obtain ⟨t,ht,k1,k2,k3,k4,k5,k6,k7⟩:=dh.elem (HFA.ext hE) HOKM i c (by rw [HL2.out];exact hil) yH;unfold maxLen at k3;have hz:=jN (aD m2 i c);by_cases he:aD m2 i c=0
       ·rw [oH he] at hz;have HN:Hid (u7=mZ (bQ c d m2 (i+1-d))):=(by unfold Hid;rw [b2_ su he];exact hA);have HE:=np hE;obtain ⟨x,hx⟩:=oN (aD m2 i c);rw [hx] at k4 hz;clear ht k5 k6 k7 hA he hx hE;go_wp2_with fail
        go_quiet (fail)
        go_wp2_with fail;go_roundw
        case rel=>exact ⟨i+1,by omega,by omega,by go_num,aA.draws HE _,HN⟩
        case measure=>simp [intOf];omega
       ·rw [oG he] at hz;cases qy:bQ c d m2 (i-d) with
        | none =>
         rw [qy] at hA;obtain rfl:u7=.int .i64 (-1):=hA;have HN:Hid (Value.int .i64 (i:Int)=mZ (bQ c d m2 (i+1-d))):=(by unfold Hid;rw [m7_ su he qy];rfl);have HE:=np hE;obtain ⟨x,hx⟩:=oN (aD m2 i c);rw [hx] at k4 hz;clear ht k5 k6 k7 he hx hE qy;go_wp2_with fail
         go_quiet (fail)
         go_wp2_with fail;go_roundw
         case rel=>exact ⟨i+1,by omega,by omega,by go_num,aA.draws HE _,HN⟩
         case measure=>simp [intOf];omega
        | some a =>
         rw [qy] at hA;obtain rfl:u7=.int .i64 a:=hA;obtain ⟨xC,ha2,FR⟩:=y1_ _ _ qy;have C5:a<L:=(by omega);obtain ⟨s,hs,l1,l2,l3,l4,l5,l6,l7⟩:=dh.elem (HFA.ext hE) HOKM a c (by rw [HL2.out];exact C5) yH;unfold maxLen at l3;have HNX:=np (b1_ su he qy);have HCM:=np (Z5s (aD m2 i c) (aD m2 a c));have HE:=np hE;obtain ⟨x,hx⟩:=oN (aD m2 i c);obtain ⟨y,hy⟩:=oN (aD m2 a c);rw [hx] at k4 hz k7 HNX HCM;rw [hy] at l4 l7 HNX HCM;have HCQ:=np (fun W=>s1_ (x.natAbs:Int) (y.natAbs:Int) W (Z2n (Z4q k7)) (Z2n (Z4q l7)));clear ht k5 k6 k7 he hx hy hE qy hs l5 l6 l7 xC ha2 FR;by_cases hxy:x.natAbs<y.natAbs
         ·have AD:decide (eT (x.natAbs:Int) (y.natAbs:Int)<0)=true:=(by rw [HCM.out];exact oH hxy);have HN:Hid (Value.int .i64 (i:Int)=mZ (bQ c d m2 (i+1-d))):=(by unfold Hid;rw [HNX.out,if_pos hxy];rfl);clear hxy HNX HCM;go_wp2_with fail
          go_quiet ((first | (go_at_call 63;exact Calls.quiet_of (Z4x _ _)) | (go_at_call 152;exact Calls.quiet_of (HCQ _))))
          go_wp2_with fail;go_roundw
          case rel=>exact ⟨i+1,by omega,by omega,by go_num,aA.draws HE _,HN⟩
          case measure=>simp [intOf];omega
         ·have AD:decide (eT (x.natAbs:Int) (y.natAbs:Int)<0)=false:=(by rw [HCM.out];exact oG hxy);have HN:Hid (Value.int .i64 (a:Int)=mZ (bQ c d m2 (i+1-d))):=(by unfold Hid;rw [HNX.out,if_neg hxy];rfl);clear hxy HNX HCM;go_wp2_with fail
          go_quiet ((first | (go_at_call 63;exact Calls.quiet_of (Z4x _ _)) | (go_at_call 152;exact Calls.quiet_of (HCQ _))))
          go_wp2_with fail;go_roundw
          case rel=>exact ⟨i+1,by omega,by omega,by go_num,aA.draws HE _,HN⟩
          case measure=>simp [intOf];omega
      ·obtain rfl:i=L:=(by omega);clear hA;have hA:=HA0.out;have hS:=HS.out;have HE:=np hE;have HG3:=np (hG.ext hE);have HF3:=np (HFA.ext hE);clear hE hG HFA HS;cases qy:bQ c d m2 (i-d) with
       | none =>
        rw [qy] at hA hS;obtain rfl:u7=.int .i64 (-1):=hA;simp only [Option.some.injEq,Prod.mk.injEq] at hS;obtain ⟨rfl,rfl⟩:=hS;have HC3:Hid (dG n F q (c+1) d m2=some R):=HC2.out;have HQ2:Hid (cols-(c+1)=q):=(by have:=HQ.out;unfold Hid;omega);clear qy HC2 HA0;go_wp2_with fail;go_roundw
        case rel=>exact ⟨c+1,d,m2,oz,by omega,by omega,by go_num,rfl,HG3,HF3,HL2,by unfold Hid;rw [HQ2.out];exact HC3⟩
        case measure=>simp [intOf];omega
       | some a =>
        rw [qy] at hA hS;obtain rfl:u7=.int .i64 a:=hA
        dsimp only at hS
        obtain ⟨xC,ha2,FR⟩:=y1_ _ _ qy;have C5:a<i:=(by omega);obtain ⟨td,yi,c1,c2,c3,c4,c5⟩:=HF3.1.get d (by rw [HL2.out];omega);obtain ⟨ta,yj,e1,e2,e3,e4,e5⟩:=HF3.1.get a (by rw [HL2.out];omega);have fd:=HF3.1.free d;have fa:=HF3.1.free a;have HTD:=np yi;have HTA:=np yj;have HSW1:=np (HF3.1.swap d a (by rw [HL2.out];omega) (by rw [HL2.out];omega) td ta yi yj);have HSd:=np hS;clear hS qy HA0 yi yj c2 c3 c4 c5 e2 e3 e4 e5 ha2 FR
        go_upto_region 12 with fail
        go_cut [] from 29 to 177 (fun wx=>Hid (dh wx g0 tags (bF oz d a) (bF m2 d a))/\Hid (aH (dp g0 tags) w wx))
        case first =>
         as_aux_lemma =>
         have hSub:∀ b,b∈(bF oz d a).map (·.1)->b∈tags.map (·.1):=fun b hb=>by
          rw [n5_] at hb;exact HF3.2 b (G0_ _ _ _ _ hb)
         have HSub:=np hSub;clear hSub;by_cases xB:d=a
         ·subst xB;obtain rfl:td=ta:=oA (HTD.symm.trans HTA)
          go_region
          all_goals (go_wp2_with fail;go_meet;exact ⟨⟨HSW1.ext (aA.drew _),HSub⟩,((HG3.setCell (List.mem_cons_self ..) _ _).setCell (List.mem_cons_self ..) _ _).ext (aA.drew _)⟩)
         ·have KX:¬ a=d:=fun e=>xB e.symm
          go_region
          all_goals (go_wp2_with fail;go_meet;exact ⟨⟨HSW1.ext (aA.drew _),HSub⟩,((HG3.setCell (List.mem_cons_self ..) _ _).setCell (List.mem_cons_self ..) _ _).ext (aA.drew _)⟩)
        case rest =>
         obtain ⟨Gi,HG4⟩:=hcut;have HOKS:=np (Z3J HOKM d a);have tw:Hid ((bF m2 d a).length=i):=(by unfold Hid;rw [nj];exact HL2);have hSd:=HSd.out;have AP:Hid (∀ W,aH (dp g0 tags) w W->aZ W):=fun W hW=>HT.below (hW.below rh HGB) HB;obtain ⟨ms,yx⟩:=oN (bF m2 d a);rw [yx] at Gi HOKS tw hSd;clear yx HSd HSW1 HF3 HG3 c1 e1 fd fa HTD HTA;cases qC:dL c d ms (i-(d+1)) with
         | none=>rw [qC] at hSd;cases hSd
         | some r =>
         obtain ⟨mf,rf⟩:=r;rw [qC] at hSd;have HDN:=np qC;have HSE:=np hSd;clear qC hSd;go_wp2_with fail
         go_loopw [9,10] (fun sr si wr=>∃ (i4:Nat) (mj:oP) (rj:Bool),d+1<=i4/\i4<=i/\si=.int .i64 i4/\sr=.bool rj/\Hid (aH (dp g0 tags) w wr)/\Hid (dh wr g0 tags (bF oz d a) mj)/\Hid (dL c d ms (i4-(d+1))=some (mj,rj))) (fun _ si _=>i-(intOf si).toNat)
         case atStart=>exact ⟨d+1,ms,false,by omega,by omega,by go_num,rfl,HG4,Gi,by unfold Hid;rw [Nat.sub_self];rfl⟩
         case round =>
          obtain ⟨i4,mj,rj,MV,DK,rfl,rfl,r7,py,pt⟩:=hrel;obtain ⟨w4,rfl⟩:∃ w4:World,w4=wr:=⟨_,rfl⟩;obtain ⟨vN,tB,xq⟩:=mw pt (by rw [tw.out];omega);have qz:Hid (mj.length=i):=(by unfold Hid;rw [vN];exact tw);by_cases I5:i4<i
          ·as_aux_lemma =>
           obtain ⟨z,tz⟩:=a1_ HDN (i4+1-(d+1)) (by omega);rw [show i4+1-(d+1)=(i4-(d+1))+1 by omega] at tz;obtain ⟨mj',rj',nr,e1,qH,pS,e2⟩:=V6_ tz;rw [pt.out] at e1;simp only [Option.some.injEq,Prod.mk.injEq] at e1;obtain ⟨rfl,rfl⟩:=e1;rw [show d+1+(i4-(d+1))=i4 by omega] at pS e2;have HXL:Hid ((aC mj i4).length=n/\(aC mj i4).all bX=true):=by
            unfold Hid;rw [tB i4 (by omega)];exact iH HOKS i4 (by rw [tw.out];omega)
           have HYL:Hid ((aC mj d).length=n/\(aC mj d).all bX=true):=by
            unfold Hid;rw [tB d (by omega)];exact iH HOKS d (by rw [tw.out];omega)
           have rT:Hid (dL c d ms (i4+1-(d+1))=some (mj.set i4 nr,rj || decide (bK (aD mj i4 c) (aD mj d c)≠0))):=(by unfold Hid;rw [show i4+1-(d+1)=(i4-(d+1))+1 by omega,tz,e2]);clear tz e2 vN tB xq;obtain ⟨t4,tE,b1,b2,b3,b4,b5⟩:=py.1.get i4 (by rw [qz.out];omega);obtain ⟨tp,vB,p1,p2,p3,p4,p5⟩:=py.1.get d (by rw [qz.out];omega);have hap:=py.1.apart tE vB (by omega);have hb4:=py.inb tE;unfold maxLen at b3 p3;have hbg:=HGB t4.1 hb4;obtain ⟨xr,pL⟩:=oN (aC mj i4);obtain ⟨yr,hyr⟩:=oN (aC mj d);rw [pL] at b1 b2 b4;rw [hyr] at p1 p2 p4;have hxl:xr.length=n:=(by rw [<- pL];exact HXL.1);have hyl:yr.length=n:=(by rw [<- hyr];exact HYL.1);have o7:c<xr.length:=(by omega);have rC:c<yr.length:=(by omega);have ex:xr[c]?=some (aD mj i4 c):=(by rw [<- pL];exact kN (by rw [pL];exact o7));have ey:yr[c]?=some (aD mj d c):=(by rw [<- hyr];exact kN (by rw [hyr];exact rC));have b6:=b4.cell c _ ex;have p6:=p4.cell c _ ey;have sV:Sz (aD mj i4 c):=fu (List.all_eq_true.1 HXL.2 _ (by rw [pL];exact nw ex));have xz:Sz (aD mj d c):=fu (List.all_eq_true.1 HYL.2 _ (by rw [hyr];exact nw ey));have HDM:=np (fun W hW=>mv (aD mj i4 c) (aD mj d c) W sV xz qH hW);rw [pL,hyr] at pS;have HLE:=np pS;have hz:=jN (bK (aD mj i4 c) (aD mj d c));obtain ⟨xe,tD⟩:=oN (aD mj i4 c);obtain ⟨ye,tC⟩:=oN (aD mj d c);rw [tD] at b6 HDM hz HLE;rw [tC] at p6 HDM hz HLE;have HXR:=np pL;have HYR:=np hyr;have HXE:=np tD;have HYE:=np tC;have HT4:=np tE;have HB4:=np b4;have HP4:=np p4;have HXN:=np hxl;have HYN:=np hyl;have hb5:tp.1≠t4.1:=fun e=>hap e.symm;clear pL hyr tD tC ex ey sV xz pS tE vB b4 p4 b5 p5 qH hxl hyl hap hb4
           go_upto_region 17 with fail
           go_cut [11,12] from 87 to 126 (fun sq sr wx=>sq=.string (aB (aQ xe ye))/\sr=.string (aB (bK xe ye))/\Hid (aA w4 wx))
           case first =>
            have HE0:Hid (aA w4 w4.drew):=aA.drew w4
            go_region_held3 (fun w'=>w'.cell? ⟨g0,i4,none⟩=some (.slice (some ⟨t4.1,t4.2.1,none⟩) xr.length t4.2.2)/\w'.cell? ⟨g0,d,none⟩=some (.slice (some ⟨tp.1,tp.2.1,none⟩) yr.length tp.2.2)/\w'.cell? ⟨t4.1,t4.2.1+c,none⟩=some (.string (aB xe))/\w'.cell? ⟨tp.1,tp.2.1+c,none⟩=some (.string (aB ye))/\Hid (aA w4 w'))
             (first | exact ⟨z1,z2,z3,z4,z5⟩ | exact ⟨b1,p1,b6,p6,HE0⟩ | go_keep)
             (first | (go_at_call 112;refine (HDM _ ?_).mono ?_;(exact AP _ (r7.ext (Hid.out (p:=aA w4 _) (by assumption))));rintro e w5 ⟨rfl,oX⟩;have z1:=oX.cell (a:=⟨g0,i4,none⟩) (v:=.slice (some ⟨t4.1,t4.2.1,none⟩) xr.length t4.2.2) (by assumption);have z2:=oX.cell (a:=⟨g0,d,none⟩) (v:=.slice (some ⟨tp.1,tp.2.1,none⟩) yr.length tp.2.2) (by assumption);have z3:=oX.cell (a:=⟨t4.1,t4.2.1+c,none⟩) (v:=.string (aB xe)) (by assumption);have z4:=oX.cell (a:=⟨tp.1,tp.2.1+c,none⟩) (v:=.string (aB ye)) (by assumption);have z5:Hid (aA w4 w5):=aA.trans (Hid.out (p:=aA w4 _) (by assumption)) oX))
            all_goals (go_wp2_with fail;go_meet;exact ⟨rfl,rfl,by assumption⟩)
           case rest =>
           obtain ⟨rfl,rfl,HE5⟩:=hcut;obtain ⟨w5,rfl⟩:∃ w5:World,w5=wc:=⟨_,rfl⟩;have HG5:=np (r7.ext HE5);have b7:=HE5.cell b1;have p7:=HE5.cell p1;clear HDM b1 p1 b6 p6;go_wp2_with fail;refine wp_region_still_tail 9 (by kernel_rfl) (by kernel_rfl) ?_;simp only [List.take_succ_cons,List.take_zero,List.drop_succ_cons,List.drop_zero];change wpStill prog _ w5.drew _ _ _
           repeat still_step
           try refine wpStill_nil ?_
           change wpList _ _ _ _ _ w5.drew;have HE6:Hid (aA w4 w5.drew):=aA.trans HE5 (aA.drew w5);have HG6:Hid (aH (dp g0 tags) w w5.drew):=r7.ext HE6;have wB:base<=w5.drew.heap.size:=n8 rh HG6.size;have HLS:=np (L1_ (aQ xe ye) xr yr nr t4.1 t4.2.1 t4.2.2 tp.1 tp.2.1 tp.2.2 base w5.drew (HB4.ext HE6) (HP4.ext HE6) hb5 HLE b2 (by unfold maxLen;exact b3) p2 (by unfold maxLen;exact p3) (AP _ HG6) HB hbg wB);clear b7 p7;go_wp2_with fail;refine HLS.mono ?_;rintro e w7 ⟨rfl,tS,wG⟩;have AV:Hid (dh w7 g0 tags (bF oz d a) (mj.set i4 nr)):=(py.ext HE6).grownRow i4 (by rw [qz.out];omega) t4 HT4 nr (by rw [HXR.out];exact kY HLE) tS wG;have HG7:Hid (aH (dp g0 tags) w w7):=HG6.trans (tS.weak (fun k hk hk2=>by rw [hk2];exact py.inb HT4));clear HLS tS wG;rw [HXE.out,HYE.out] at rT;by_cases sj:bK xe ye=0
           ·rw [oH sj] at hz;have CS:Hid ((rj || decide (bK xe ye≠0))=rj):=(by unfold Hid;rw [oG (by simp [sj]),Bool.or_false]);rw [CS.out] at rT;clear sj CS;cases rj
            all_goals
             go_wp2_with fail;go_roundw
             case rel=>exact ⟨i4+1,mj.set i4 nr,_,by omega,by omega,by go_num,rfl,HG7,AV,rT⟩
             case measure=>simp [intOf];omega
           ·rw [oG sj] at hz;have CS:Hid ((rj || decide (bK xe ye≠0))=true):=(by unfold Hid;rw [oH sj,Bool.or_true]);rw [CS.out] at rT;clear sj CS;cases rj
            all_goals
             go_wp2_with fail;go_roundw
             case rel=>exact ⟨i4+1,mj.set i4 nr,true,by omega,by omega,by go_num,rfl,HG7,AV,rT⟩
             case measure=>simp [intOf];omega
          ·obtain rfl:i4=i:=(by omega);have BF:mj=mf/\rj=rf:=by
            have:=pt.out;rw [HDN.out] at this;simp only [Option.some.injEq,Prod.mk.injEq] at this;exact ⟨this.1.symm,this.2.symm⟩
           obtain ⟨rfl,rfl⟩:=BF
           as_aux_lemma =>
           obtain ⟨LL,rfl⟩:=oO i4;have MK:d<LL:=(by omega);have hSE:=HSE.out;clear HSE HDN pt vN tB xq tw HOKS Gi HG4;cases rj with
           | true =>
            try dsimp only at hSE
            have HSE2:=np hSE;clear hSE;go_wp2_with fail
            go_roundg f
            case measure=>omega
            case rel=>exact ⟨mj,bF oz d a,rfl,r7,py,qz,HSE2⟩
           | false =>
            try dsimp only at hSE
            by_cases ql:bV n mj=true
            ·rw [if_pos ql] at hSE;obtain ⟨tp,vB,p1,p2,p3,p4,p5⟩:=py.1.get d (by rw [qz.out];omega);have hbp:=py.inb vB;unfold maxLen at p3;have hyl:=(iH ql d (by rw [qz.out];omega)).1;have hys:=(iH ql d (by rw [qz.out];omega)).2;have rC:c<(aC mj d).length:=(by omega);have ey:=kN rC;have p6:=p4.cell c _ ey;have HSG:=np (fun W=>nd (aD mj d c) W);have HP4:=np p4;have HTP:=np vB;have HYS:=np hys;have HYL:=np hyl;obtain ⟨yr,hyr⟩:=oN (aC mj d);obtain ⟨ye,tC⟩:=oN (aD mj d c);rw [hyr] at p1 p2 rC HP4 HYS HYL;rw [tC] at p6 HSG hSE;have HYR:=np hyr;have HOK2:=np ql;have HSE2:=np hSE;clear vB p4 hyl hys ey hyr tC ql hSE;by_cases ou:ye<0
             ·as_aux_lemma =>
              have qK:ye.sign=-1:=Int.sign_eq_neg_one_of_neg ou;have HNG:=np (fun W hW=>Z06 yr tp.1 tp.2.1 tp.2.2 W hW p2 (by unfold maxLen;exact p3) HYS);have HUP0:=HSE2.out;rw [if_pos ou,HYR.out] at HUP0;rw [qK] at HSG;clear ou qK HSE2;go_wp2_with fail;refine (HSG _).mono ?_;rintro e w' ⟨rfl,rfl⟩;clear HSG p6;go_wp2_with fail;refine (HNG _ HP4).mono ?_;rintro e w8 ⟨rfl,Ft,Ic⟩;have HGN:Hid (aH (dp g0 tags) w w8):=r7.trans (Ft.weak (fun k hk hk2=>by rw [hk2];exact hbp));have zl:Hid (dh w8 g0 tags (bF oz d a) (mj.set d (ef yr))):=py.grownRow d (by rw [qz.out];omega) tp HTP (ef yr) (by rw [HYR.out];unfold ef;rw [List.length_map]) Ft Ic;have wW:Hid (bV n (mj.set d (ef yr))=true):=Z50 HOK2 d (ef yr) (by unfold ef;rw [List.length_map];exact HYL) (Z4W HYS);have wZ:Hid ((mj.set d (ef yr)).length=LL):=(by unfold Hid;rw [List.length_set];exact qz);obtain ⟨mN,ER⟩:=oN (mj.set d (ef yr));have HUP:∃ z,dY c d mN d=some z/\m3=z/\p=true:=by
               rw [<- ER];exact Z2G HUP0
              rw [ER] at zl wW wZ;have HFN:=zl;have HOKN:=wW;have HLNX:=wZ;clear ER zl wW wZ HUP0 Ft Ic HNG r7 py qz p1;have wO:Hid (∃ z,dY c d mN d=some z/\m3=z/\p=true):=HUP;obtain ⟨mU,BG,rfl,rfl⟩:=wO.out;have HU:=np BG;have r6:Hid (mN.length=LL):=HLNX;clear BG wO;go_wp2_with fail
              go_loopw [143] (fun si wr=>∃ (i4:Nat) (mj:oP),i4<=d/\si=.int .i64 i4/\Hid (aH (dp g0 tags) w wr)/\Hid (dh wr g0 tags (bF oz d a) mj)/\Hid (dY c d mN i4=some mj)) (fun si _=>d-(intOf si).toNat)
              case atStart=>exact ⟨0,mN,by omega,rfl,HGN,HFN,rfl⟩
              case round =>
               obtain ⟨i4,mj,DK,rfl,r7,py,pt⟩:=hrel;obtain ⟨w4,rfl⟩:∃ w4:World,w4=wr:=⟨_,rfl⟩;obtain ⟨vN,tB,xq⟩:=K1_ pt DK (by rw [r6.out];omega);have qz:Hid (mj.length=LL):=(by unfold Hid;rw [vN];exact r6);by_cases I5:i4<d
               ·obtain ⟨z,tz⟩:=c0_ HU (i4+1) (by omega);have LF:i4<LL:=(by omega);obtain ⟨mj',nr,e1,qH,pS,e2⟩:=nk tz;rw [pt.out] at e1;obtain rfl:=oA e1;have HXL:Hid ((aC mj i4).length=n/\(aC mj i4).all bX=true):=by
                 unfold Hid;rw [tB i4 (by omega)];exact iH HOKN i4 (by rw [r6.out];omega)
                have HYL:Hid ((aC mj d).length=n/\(aC mj d).all bX=true):=by
                 unfold Hid;rw [tB d (by omega)];exact iH HOKN d (by rw [r6.out];omega)
                have rT:Hid (dY c d mN (i4+1)=some (mj.set i4 nr)):=(by unfold Hid;rw [tz,e2]);clear tz e1 e2 vN tB xq;obtain ⟨t4,tE,b1,b2,b3,b4,b5⟩:=py.1.get i4 (by rw [qz.out];omega);obtain ⟨tp,vB,p1,p2,p3,p4,p5⟩:=py.1.get d (by rw [qz.out];omega);have hap:=py.1.apart tE vB (by omega);have hb4:=py.inb tE;unfold maxLen at b3 p3;have hbg:=HGB t4.1 hb4;obtain ⟨xr,pL⟩:=oN (aC mj i4);obtain ⟨yr,hyr⟩:=oN (aC mj d);rw [pL] at b1 b2 b4;rw [hyr] at p1 p2 p4;have hxl:xr.length=n:=(by rw [<- pL];exact HXL.1);have hyl:yr.length=n:=(by rw [<- hyr];exact HYL.1);have o7:c<xr.length:=(by omega);have rC:c<yr.length:=(by omega);have ex:xr[c]?=some (aD mj i4 c):=(by rw [<- pL];exact kN (by rw [pL];exact o7));have ey:yr[c]?=some (aD mj d c):=(by rw [<- hyr];exact kN (by rw [hyr];exact rC));have b6:=b4.cell c _ ex;have p6:=p4.cell c _ ey;have sV:Sz (aD mj i4 c):=fu (List.all_eq_true.1 HXL.2 _ (by rw [pL];exact nw ex));have xz:Sz (aD mj d c):=fu (List.all_eq_true.1 HYL.2 _ (by rw [hyr];exact nw ey));have HDM:=np (fun W hW=>mv (aD mj i4 c) (aD mj d c) W sV xz qH hW);rw [pL,hyr] at pS;have HLE:=np pS;have hz:=jN (bK (aD mj i4 c) (aD mj d c));obtain ⟨xe,tD⟩:=oN (aD mj i4 c);obtain ⟨ye,tC⟩:=oN (aD mj d c);rw [tD] at b6 HDM hz HLE;rw [tC] at p6 HDM hz HLE;have HXR:=np pL;have HYR:=np hyr;have HXE:=np tD;have HYE:=np tC;have HT4:=np tE;have HB4:=np b4;have HP4:=np p4;have HXN:=np hxl;have HYN:=np hyl;have hb5:tp.1≠t4.1:=fun e=>hap e.symm;clear pL hyr tD tC ex ey sV xz pS tE vB b4 p4 b5 p5 qH hxl hyl hap hb4
                go_upto_region 26 with fail
                go_cut [15,16,143] from 143 to 175 (fun sq sr sc wx=>sq=.string (aB (aQ xe ye))/\sr=.string (aB (bK xe ye))/\sc=.int .i64 i4/\Hid (aA w4 wx))
                case first =>
                 have HE0:Hid (aA w4 w4.drew):=aA.drew w4
                 go_region_held3 (fun w'=>w'.cell? ⟨g0,i4,none⟩=some (.slice (some ⟨t4.1,t4.2.1,none⟩) xr.length t4.2.2)/\w'.cell? ⟨g0,d,none⟩=some (.slice (some ⟨tp.1,tp.2.1,none⟩) yr.length tp.2.2)/\w'.cell? ⟨t4.1,t4.2.1+c,none⟩=some (.string (aB xe))/\w'.cell? ⟨tp.1,tp.2.1+c,none⟩=some (.string (aB ye))/\Hid (aA w4 w'))
                  (first | exact ⟨z1,z2,z3,z4,z5⟩ | exact ⟨b1,p1,b6,p6,HE0⟩ | go_keep)
                  (first | (go_at_call 112;refine (HDM _ ?_).mono ?_;(exact AP _ (r7.ext (Hid.out (p:=aA w4 _) (by assumption))));rintro e w5 ⟨rfl,oX⟩;have z1:=oX.cell (a:=⟨g0,i4,none⟩) (v:=.slice (some ⟨t4.1,t4.2.1,none⟩) xr.length t4.2.2) (by assumption);have z2:=oX.cell (a:=⟨g0,d,none⟩) (v:=.slice (some ⟨tp.1,tp.2.1,none⟩) yr.length tp.2.2) (by assumption);have z3:=oX.cell (a:=⟨t4.1,t4.2.1+c,none⟩) (v:=.string (aB xe)) (by assumption);have z4:=oX.cell (a:=⟨tp.1,tp.2.1+c,none⟩) (v:=.string (aB ye)) (by assumption);have z5:Hid (aA w4 w5):=aA.trans (Hid.out (p:=aA w4 _) (by assumption)) oX))
                 all_goals (go_wp2_with fail;go_meet;exact ⟨rfl,rfl,rfl,by assumption⟩)
                case rest =>
                obtain ⟨rfl,rfl,rfl,HE5⟩:=hcut;obtain ⟨w5,rfl⟩:∃ w5:World,w5=wc:=⟨_,rfl⟩;have HG5:=np (r7.ext HE5);have b7:=HE5.cell b1;have p7:=HE5.cell p1;clear HDM b1 p1 b6 p6;go_wp2_with fail;refine wp_region_still_tail 9 (by kernel_rfl) (by kernel_rfl) ?_;simp only [List.take_succ_cons,List.take_zero,List.drop_succ_cons,List.drop_zero];change wpStill prog _ w5.drew _ _ _
                repeat still_step
                try refine wpStill_nil ?_
                change wpList _ _ _ _ _ w5.drew;have HE6:Hid (aA w4 w5.drew):=aA.trans HE5 (aA.drew w5);have HG6:Hid (aH (dp g0 tags) w w5.drew):=r7.ext HE6;have wB:base<=w5.drew.heap.size:=n8 rh HG6.size;have HLS:=np (L1_ (aQ xe ye) xr yr nr t4.1 t4.2.1 t4.2.2 tp.1 tp.2.1 tp.2.2 base w5.drew (HB4.ext HE6) (HP4.ext HE6) hb5 HLE b2 (by unfold maxLen;exact b3) p2 (by unfold maxLen;exact p3) (AP _ HG6) HB hbg wB);clear b7 p7;go_wp2_with fail;refine HLS.mono ?_;rintro e w7 ⟨rfl,tS,wG⟩;have AV:Hid (dh w7 g0 tags (bF oz d a) (mj.set i4 nr)):=(py.ext HE6).grownRow i4 (by rw [qz.out];omega) t4 HT4 nr (by rw [HXR.out];exact kY HLE) tS wG;have HG7:Hid (aH (dp g0 tags) w w7):=HG6.trans (tS.weak (fun k hk hk2=>by rw [hk2];exact py.inb HT4));clear HLS tS wG;go_wp2_with fail;go_roundw
                case rel=>exact ⟨i4+1,mj.set i4 nr,by omega,by go_num,HG7,AV,rT⟩
                case measure=>simp [intOf];omega
               ·obtain rfl:i4=d:=(by omega);have EO:mj=m3:=(by have:=pt.out;rw [HU.out] at this;exact (oA this).symm);subst EO;have HC3:Hid (dG n F q (c+1) (i4+1) mj=some R):=by
                 have h:=HC2.out;rw [if_pos (by first | trivial | rfl)] at h;exact h
                have HQ2:Hid (cols-(c+1)=q):=(by have:=HQ.out;unfold Hid;omega);clear HC2 vN tB xq;go_wp2_with fail;go_roundw
                case rel=>exact ⟨c+1,i4+1,mj,bF oz i4 a,by omega,by omega,by go_num,by go_num,r7,py,qz,by unfold Hid;rw [HQ2.out];exact HC3⟩
                case measure=>simp [intOf];omega
             ·as_aux_lemma =>
              have HUP0:=HSE2.out;rw [if_neg ou] at HUP0;have qK:¬ ye.sign<0:=by
               rcases Int.lt_trichotomy ye 0 with h | h | h;·exact absurd h ou
               ·rw [h];decide
               ·rw [Int.sign_eq_one_of_pos h];decide
              obtain ⟨sg,An⟩:=oN ye.sign;rw [An] at HSG qK;clear ou HSE2 An;go_wp2_with fail;refine (HSG _).mono ?_;rintro e w' ⟨rfl,rfl⟩;clear HSG p6;have HGN:=r7;have HFN:=py;have HOKN:=HOK2;have HLNX:=qz;have HUP:∃ z,dY c d mj d=some z/\m3=z/\p=true:=Z2G HUP0;obtain ⟨mN,rfl⟩:=oO mj;clear HUP0 r7 py qz p1;have wO:Hid (∃ z,dY c d mN d=some z/\m3=z/\p=true):=HUP;obtain ⟨mU,BG,rfl,rfl⟩:=wO.out;have HU:=np BG;have r6:Hid (mN.length=LL):=HLNX;clear BG wO;go_wp2_with fail
              go_loopw [143] (fun si wr=>∃ (i4:Nat) (mj:oP),i4<=d/\si=.int .i64 i4/\Hid (aH (dp g0 tags) w wr)/\Hid (dh wr g0 tags (bF oz d a) mj)/\Hid (dY c d mN i4=some mj)) (fun si _=>d-(intOf si).toNat)
              case atStart=>exact ⟨0,mN,by omega,rfl,HGN,HFN,rfl⟩
              case round =>
               obtain ⟨i4,mj,DK,rfl,r7,py,pt⟩:=hrel;obtain ⟨w4,rfl⟩:∃ w4:World,w4=wr:=⟨_,rfl⟩;obtain ⟨vN,tB,xq⟩:=K1_ pt DK (by rw [r6.out];omega);have qz:Hid (mj.length=LL):=(by unfold Hid;rw [vN];exact r6);by_cases I5:i4<d
               ·obtain ⟨z,tz⟩:=c0_ HU (i4+1) (by omega);have LF:i4<LL:=(by omega);obtain ⟨mj',nr,e1,qH,pS,e2⟩:=nk tz;rw [pt.out] at e1;obtain rfl:=oA e1;have HXL:Hid ((aC mj i4).length=n/\(aC mj i4).all bX=true):=by
                 unfold Hid;rw [tB i4 (by omega)];exact iH HOKN i4 (by rw [r6.out];omega)
                have HYL:Hid ((aC mj d).length=n/\(aC mj d).all bX=true):=by
                 unfold Hid;rw [tB d (by omega)];exact iH HOKN d (by rw [r6.out];omega)
                have rT:Hid (dY c d mN (i4+1)=some (mj.set i4 nr)):=(by unfold Hid;rw [tz,e2]);clear tz e1 e2 vN tB xq;obtain ⟨t4,tE,b1,b2,b3,b4,b5⟩:=py.1.get i4 (by rw [qz.out];omega);obtain ⟨tp,vB,p1,p2,p3,p4,p5⟩:=py.1.get d (by rw [qz.out];omega);have hap:=py.1.apart tE vB (by omega);have hb4:=py.inb tE;unfold maxLen at b3 p3;have hbg:=HGB t4.1 hb4;obtain ⟨xr,pL⟩:=oN (aC mj i4);obtain ⟨yr,hyr⟩:=oN (aC mj d);rw [pL] at b1 b2 b4;rw [hyr] at p1 p2 p4;have hxl:xr.length=n:=(by rw [<- pL];exact HXL.1);have hyl:yr.length=n:=(by rw [<- hyr];exact HYL.1);have o7:c<xr.length:=(by omega);have rC:c<yr.length:=(by omega);have ex:xr[c]?=some (aD mj i4 c):=(by rw [<- pL];exact kN (by rw [pL];exact o7));have ey:yr[c]?=some (aD mj d c):=(by rw [<- hyr];exact kN (by rw [hyr];exact rC));have b6:=b4.cell c _ ex;have p6:=p4.cell c _ ey;have sV:Sz (aD mj i4 c):=fu (List.all_eq_true.1 HXL.2 _ (by rw [pL];exact nw ex));have xz:Sz (aD mj d c):=fu (List.all_eq_true.1 HYL.2 _ (by rw [hyr];exact nw ey));have HDM:=np (fun W hW=>mv (aD mj i4 c) (aD mj d c) W sV xz qH hW);rw [pL,hyr] at pS;have HLE:=np pS;have hz:=jN (bK (aD mj i4 c) (aD mj d c));obtain ⟨xe,tD⟩:=oN (aD mj i4 c);obtain ⟨ye,tC⟩:=oN (aD mj d c);rw [tD] at b6 HDM hz HLE;rw [tC] at p6 HDM hz HLE;have HXR:=np pL;have HYR:=np hyr;have HXE:=np tD;have HYE:=np tC;have HT4:=np tE;have HB4:=np b4;have HP4:=np p4;have HXN:=np hxl;have HYN:=np hyl;have hb5:tp.1≠t4.1:=fun e=>hap e.symm;clear pL hyr tD tC ex ey sV xz pS tE vB b4 p4 b5 p5 qH hxl hyl hap hb4
                go_upto_region 26 with fail
                go_cut [15,16,143] from 143 to 175 (fun sq sr sc wx=>sq=.string (aB (aQ xe ye))/\sr=.string (aB (bK xe ye))/\sc=.int .i64 i4/\Hid (aA w4 wx))
                case first =>
                 have HE0:Hid (aA w4 w4.drew):=aA.drew w4
                 go_region_held3 (fun w'=>w'.cell? ⟨g0,i4,none⟩=some (.slice (some ⟨t4.1,t4.2.1,none⟩) xr.length t4.2.2)/\w'.cell? ⟨g0,d,none⟩=some (.slice (some ⟨tp.1,tp.2.1,none⟩) yr.length tp.2.2)/\w'.cell? ⟨t4.1,t4.2.1+c,none⟩=some (.string (aB xe))/\w'.cell? ⟨tp.1,tp.2.1+c,none⟩=some (.string (aB ye))/\Hid (aA w4 w'))
                  (first | exact ⟨z1,z2,z3,z4,z5⟩ | exact ⟨b1,p1,b6,p6,HE0⟩ | go_keep)
                  (first | (go_at_call 112;refine (HDM _ ?_).mono ?_;(exact AP _ (r7.ext (Hid.out (p:=aA w4 _) (by assumption))));rintro e w5 ⟨rfl,oX⟩;have z1:=oX.cell (a:=⟨g0,i4,none⟩) (v:=.slice (some ⟨t4.1,t4.2.1,none⟩) xr.length t4.2.2) (by assumption);have z2:=oX.cell (a:=⟨g0,d,none⟩) (v:=.slice (some ⟨tp.1,tp.2.1,none⟩) yr.length tp.2.2) (by assumption);have z3:=oX.cell (a:=⟨t4.1,t4.2.1+c,none⟩) (v:=.string (aB xe)) (by assumption);have z4:=oX.cell (a:=⟨tp.1,tp.2.1+c,none⟩) (v:=.string (aB ye)) (by assumption);have z5:Hid (aA w4 w5):=aA.trans (Hid.out (p:=aA w4 _) (by assumption)) oX))
                 all_goals (go_wp2_with fail;go_meet;exact ⟨rfl,rfl,rfl,by assumption⟩)
                case rest =>
                obtain ⟨rfl,rfl,rfl,HE5⟩:=hcut;obtain ⟨w5,rfl⟩:∃ w5:World,w5=wc:=⟨_,rfl⟩;have HG5:=np (r7.ext HE5);have b7:=HE5.cell b1;have p7:=HE5.cell p1;clear HDM b1 p1 b6 p6;go_wp2_with fail;refine wp_region_still_tail 9 (by kernel_rfl) (by kernel_rfl) ?_;simp only [List.take_succ_cons,List.take_zero,List.drop_succ_cons,List.drop_zero];change wpStill prog _ w5.drew _ _ _
                repeat still_step
                try refine wpStill_nil ?_
                change wpList _ _ _ _ _ w5.drew;have HE6:Hid (aA w4 w5.drew):=aA.trans HE5 (aA.drew w5);have HG6:Hid (aH (dp g0 tags) w w5.drew):=r7.ext HE6;have wB:base<=w5.drew.heap.size:=n8 rh HG6.size;have HLS:=np (L1_ (aQ xe ye) xr yr nr t4.1 t4.2.1 t4.2.2 tp.1 tp.2.1 tp.2.2 base w5.drew (HB4.ext HE6) (HP4.ext HE6) hb5 HLE b2 (by unfold maxLen;exact b3) p2 (by unfold maxLen;exact p3) (AP _ HG6) HB hbg wB);clear b7 p7;go_wp2_with fail;refine HLS.mono ?_;rintro e w7 ⟨rfl,tS,wG⟩;have AV:Hid (dh w7 g0 tags (bF oz d a) (mj.set i4 nr)):=(py.ext HE6).grownRow i4 (by rw [qz.out];omega) t4 HT4 nr (by rw [HXR.out];exact kY HLE) tS wG;have HG7:Hid (aH (dp g0 tags) w w7):=HG6.trans (tS.weak (fun k hk hk2=>by rw [hk2];exact py.inb HT4));clear HLS tS wG;go_wp2_with fail;go_roundw
                case rel=>exact ⟨i4+1,mj.set i4 nr,by omega,by go_num,HG7,AV,rT⟩
                case measure=>simp [intOf];omega
               ·obtain rfl:i4=d:=(by omega);have EO:mj=m3:=(by have:=pt.out;rw [HU.out] at this;exact (oA this).symm);subst EO;have HC3:Hid (dG n F q (c+1) (i4+1) mj=some R):=by
                 have h:=HC2.out;rw [if_pos (by first | trivial | rfl)] at h;exact h
                have HQ2:Hid (cols-(c+1)=q):=(by have:=HQ.out;unfold Hid;omega);clear HC2 vN tB xq;go_wp2_with fail;go_roundw
                case rel=>exact ⟨c+1,i4+1,mj,bF oz i4 a,by omega,by omega,by go_num,by go_num,r7,py,qz,by unfold Hid;rw [HQ2.out];exact HC3⟩
                case measure=>simp [intOf];omega
            ·rw [if_neg ql] at hSE;cases hSE
    ·rw [if_neg xO] at hS;cases hS
  ·have HR:Hid (R=(m1,d)):=by
    have:=HC.out;unfold Hid;by_cases h0:cols-c=0;·rw [h0] at this;exact (oA this).symm
    ·obtain ⟨q,hq⟩:∃ q,cols-c=q+1:=⟨cols-c-1,by omega⟩;rw [hq] at this;unfold dG at this;rw [if_neg (by rw [HL1.out];omega)] at this;exact (oA this).symm
   have HG:=np hG;clear hG HC;by_cases Hw:c<cols
   ·have qn:¬ d<L:=fun h=>hlt ⟨Hw,h⟩;clear hlt;go_wp2_with fail;go_ret;rw [HR.out];exact ⟨oc,rfl,HFA,HL1,hd,HG⟩
   ·clear hlt;go_wp2_with fail;go_ret;rw [HR.out];exact ⟨oc,rfl,HFA,HL1,hd,HG⟩
def cG (w:World) (base:Nat) (v:Value) (R:oP):Prop :=
 ∃ a c,v=.slice a R.length c/\R.length<=c/\c<=maxLen/\(R=[]\/∃ g tags,a=some ⟨g,0,none⟩/\cF w g tags R/\∀ b,dp g tags b->base<=b)
theorem b0_ (F cols k:Nat) (m:oP) (tags:List (Nat×Nat×Nat)) (g0 cap base:Nat) (w:World) (R:oP) (hM:cF w g0 tags m) (hrow:bV (k+cols) m=true) (hR:dU cols F cols (dZ k m)=some R)
  (sw:m.length<=cap) (qP:cap<=maxLen) (hm:m.length<=1000) (pc:1<=cols) (Ed:k+cols<=1000) (ht:aZ w) (hb:3<base) (hg:∀ b,dp g0 tags b->base<=b) (rh:base<=w.heap.size) :
  Calls prog 292 #[.slice (some ⟨g0,0,none⟩) m.length cap,.int .i64 k,.int .i64 cols] w fun e w'=>∃ v,e=.returned v/\cG w' base v R/\Below base w w':=by
 have HM:=np hM;have HRW:=np hrow;have HR:=np hR;have HT:=np ht;have HB:=np hb;have HGB:=np hg;unfold maxLen at qP;clear hM hrow hR ht hb hg
 go_enter func292,ntmps292
 go_wp2_with fail
 go_loopw [7,12] (fun out t wr=>∃ (j:Nat) (tagsO:List (Nat×Nat×Nat)),j<=m.length/\t=.int .i64 j/\aA w wr/\Hid (dj wr w.heap.size base out tagsO (dZ k (m.take j)))/\Hid (∀ b,b∈tagsO.map (·.1)->b∈(tags.take j).map (·.1))/\Hid (out=.slice none 0 0/\dZ k (m.take j)=[]\/∃ g c,out=.slice (some ⟨g,0,none⟩) (dZ k (m.take j)).length c)) (fun _ t _=>m.length-(intOf t).toNat)
 case atStart=>exact ⟨0,[],by omega,rfl,aA.refl _,dj.nil _ _ _,by intro b h;simp at h,.inl ⟨rfl,rfl⟩⟩
 case round =>
  obtain ⟨j,tagsO,hj,rfl,hE,HL,pC,HV⟩:=hrel;obtain ⟨wo,rfl⟩:∃ wo:World,wo=wr:=⟨_,rfl⟩;have HE:=np hE;by_cases hlt:j<m.length
  ·obtain ⟨t,xx,c1,c2,c3,c4,c5⟩:=(HM.ext hE).get j hlt;obtain ⟨hxl,hxs⟩:=iH HRW j hlt;obtain ⟨xr,pL⟩:=oN (aC m j);have Hq:m[j]?=some xr:=(by rw [<- pL];exact en hlt);rw [pL] at c1 c2 c4 hxl;have HLD:=np (M9_ xr t.1 t.2.1 t.2.2 wo c4 c2 c3);have HN:Hid (dZ k (m.take (j+1))=dZ k (m.take j)++(if (k:Int)<=bt xr then [xr.drop k] else [])):=by
    unfold Hid;rw [nz,Hq];exact t1_ k _ xr
   have HTJ:=np xx;have CP:Hid (∀ b,b∈(tags.take j).map (·.1)->b∈(tags.take (j+1)).map (·.1)):=fun b hb=>by
    rw [nz,List.map_append];exact List.mem_append_left _ hb
   have HC4:=np c4;have hkl:k<xr.length:=(by omega);have KG:¬ t.2.2=k:=(by omega);have KF:k<=t.2.2:=(by omega);unfold maxLen at c3;have HXL:=np hxl;have Jh:xr.length<=1000:=(by omega);clear xx c4 c5 hxs pL Hq hxl hE;by_cases hle:(k:Int)<=bt xr
   ·rw [if_pos hle] at HN;obtain ⟨ld,qn⟩:=oN (bt xr);rw [qn] at hle HLD;clear qn;go_wp2_with fail;refine HLD.mono ?_;rintro e w2 ⟨rfl,hE2⟩;have HE2:=np (aA.trans HE hE2);have HL2:=np (HL.ext hE2);have HR2:=np ((HC4.ext hE2).drop k);have hszr:=HE2.size;clear hE2 HLD;have FH:dp g0 tags t.1:=List.mem_cons_of_mem _ (List.mem_map.2 ⟨t,nw HTJ,rfl⟩);have wm:t.1<w.heap.size:=HM.blt FH;have HE3:Hid (base<=(jE k t).1):=HGB t.1 FH;have HE4:Hid (u7.ownBlock≠some (jE k t).1):=fun e=>by have:=(HL.own.lt t.1 e).1;omega
    have HE5:Hid ((jE k t).1∉tagsO.map (·.1)):=fun hm=>by
     have h1:=pC t.1 hm;obtain ⟨s,hs,es⟩:=List.mem_map.1 h1;obtain ⟨i,hi⟩:=List.getElem?_of_mem hs;have pO:i<j:=by
      have:=(nt.1 hi).1;rw [ny] at this;omega
     rw [List.getElem?_take_of_lt pO] at hi;exact HM.apart hi HTJ (by omega) es
    have HE6:Hid ((dZ k (m.take j)).length<1000000):=by
     have h1:(dZ k (m.take j)).length<=(m.take j).length:=(by unfold dZ;rw [List.length_map];exact List.length_filter_le _ _);rw [ny] at h1;unfold Hid;omega
    have HE0:Hid (#[Value.slice (some ⟨t.1,t.2.1+k,none⟩) (xr.length-k) (t.2.2-k)]=#[gi (jE k t) (xr.drop k).length]):=(by unfold Hid gi jE;rw [List.length_drop]);have Gl:Hid ((xr.drop k).length<=(jE k t).2.2):=(by show (xr.drop k).length<=t.2.2-k;rw [List.length_drop];omega);have Gk:Hid ((jE k t).2.2<=maxLen):=(by show t.2.2-k<=maxLen;unfold maxLen;omega);clear FH wm;go_wp2_with (at_builtin;go_must (refine Z2_ _ rfl _ _ rfl w.heap.size base u7 tagsO (dZ k (m.take j)) (jE k t) (xr.drop k) #[.slice (some ⟨t.1,t.2.1+k,none⟩) (xr.length-k) (t.2.2-k)] 263 rfl HL2 rfl HE0 Gl Gk HR2 HE3 HE4 HE5 HE6 hszr ?_));intro v' w5 ow hb5 tV;rw [<- HN.out] at ow;have HB5:=np ow;have HX5:=np (Below.trans HE2 hb5);have CM:Hid (∀ b,b∈(tagsO++[jE k t]).map (·.1)->b∈(tags.take (j+1)).map (·.1)):=fun b hb=>by
     rw [List.map_append] at hb;rcases List.mem_append.1 hb with hb | hb;·exact CP b (pC b hb)
     ·simp only [List.map_cons,List.map_nil,List.mem_singleton] at hb;rw [hb];refine List.mem_map.2 ⟨t,?_,rfl⟩;rw [nz,HTJ.out];simp
    have HV5:Hid (v'=.slice none 0 0/\dZ k (m.take (j+1))=[]\/∃ g c,v'=.slice (some ⟨g,0,none⟩) (dZ k (m.take (j+1))).length c):=by
     obtain ⟨g,c,hv⟩:=tV.out;refine .inr ⟨g,c,?_⟩;rw [hv,HN.out,oJ];rfl
    clear ow hb5 tV;go_wp2_with fail;go_roundw
    case rel=>exact ⟨j+1,_,by omega,by go_num,HX5,HB5,CM,HV5⟩
    case measure=>simp [intOf];omega
   ·rw [if_neg hle,List.append_nil] at HN;obtain ⟨ld,qn⟩:=oN (bt xr);rw [qn] at hle HLD;clear qn;go_wp2_with fail;refine HLD.mono ?_;rintro e w2 ⟨rfl,hE2⟩;have HE2:=np (aA.trans HE hE2);have HL2:=np (HL.ext hE2);clear hE2 HLD;rw [<- HN.out] at HL2 HV;go_wp2_with fail;go_roundw
    case rel=>exact ⟨j+1,tagsO,by omega,by go_num,HE2,HL2,fun b hb=>CP b (pC b hb),HV⟩
    case measure=>simp [intOf];omega
  ·obtain rfl:j=m.length:=(by omega);have hL:=HL.out;have hV:=HV.out;rw [List.take_length] at hL hV;have hr:=HR.out;unfold dU at hr;cases o8:dG cols F cols 0 0 (dZ k m) with
   | none=>rw [o8] at hr;cases hr
   | some rr =>
   obtain ⟨mf,d⟩:=rr;rw [o8] at hr;have HRR:Hid (mf.take d=R):=oA hr;have HCL:=np o8;have rN:(dZ k m).length<=m.length:=(by unfold dZ;rw [List.length_map];exact List.length_filter_le _ _);rcases hV with ⟨rfl,BC⟩ | ⟨g,cc,rfl⟩
   ·have HR0:Hid (R=[]):=by
     unfold Hid;rw [<- HRR.out];have h0:=HCL.out;rw [BC] at h0;have:mf=[]:=by
      have hh:dG cols F cols 0 0 []=some ([],0):=by
       cases cols with
       | zero=>rfl
       | succ q=>unfold dG;rw [if_neg (by simp)]
      rw [hh] at h0;simp only [Option.some.injEq,Prod.mk.injEq] at h0;exact h0.1.symm
     rw [this];simp
    have HBW:=np (Below.mono HE rh);clear hL hr o8 HL pC HV hE BC rN;go_wp2_with fail;refine q_ (Z3c cols _) ?_;go_wp2_with fail;go_ret;rw [HR0.out];exact ⟨_,rfl,⟨none,0,rfl,n9 _,Nat.zero_le _,.inl rfl⟩,HBW⟩
   ·obtain ⟨rk,hc2,wA,qE⟩:=hL.mat rh;have HBW:=np (Below.mono HE rh);have HFM:=np (x4_ cols F cols (dZ k m) tagsO g cc base wo (mf,d) rk HCL hc2 wA (n9 _) (by omega) (HT.ext HE) HB qE (n8 rh HE.size));have HC2:=np hc2;have HBB:=np qE;have hszw:=HE.size;clear hL hr o8 HL pC HV hE rk hc2 qE;go_wp2_with fail;refine HFM.mono ?_;rintro e w2 ⟨tags',rfl,xi,rB,q9,hG⟩;have HFA:=np xi;have HB2:Hid (Below base w w2):=Below.trans HBW (hG.below (n8 rh hszw) HBB);have HLE:Hid (d<=mf.length/\mf.length<=cc):=⟨by rw [rB];exact q9,by rw [rB];exact HC2⟩;clear xi hG HFM;go_wp2_with fail;go_ret;refine ⟨.slice (some ⟨g,0,none⟩) d cc,rfl,?_,HB2⟩;have qn:R.length=d:=(by rw [<- HRR.out,ny];have:=HLE.1;omega);refine ⟨some ⟨g,0,none⟩,cc,by rw [qn],by rw [qn];have:=HLE.out;omega,wA,.inr ⟨g,tags'.take d,rfl,by rw [<- HRR.out];exact HFA.1.take d,fun b hb=>?_⟩⟩;rcases List.mem_cons.1 hb with rfl | hb;·exact HBB _ (List.mem_cons_self ..)
    ·obtain ⟨t,ht,rfl⟩:=List.mem_map.1 hb;exact HBB _ (List.mem_cons_of_mem _ (HFA.2 _ (List.mem_map.2 ⟨t,List.mem_of_mem_take ht,rfl⟩)))
theorem Z2K (n:Nat) (w:World) (hn:n<=1000) (ht:aZ w) :
  Calls prog 291 #[.int .i64 n] w fun e w'=>∃ g c,e=.returned (.slice (some ⟨g,0,none⟩) n c)/\an w' g 0 (List.replicate n 0)/\w.heap.size<=g/\n<=c/\c<=maxLen/\aA w w':=by
 obtain ⟨i0,hi,oy,hz1,hz2⟩:=info_parts jK;have HI:=np hi;have HZ0:=np oy;have HZ1:=np hz1;have HZ2:=np hz2;have HT:=np ht;clear hi oy hz1 hz2 ht
 go_enter func291,ntmps291
 go_wp2_with (at_make;refine wpList_make_full _ rfl _ _ 36 rfl w.heap.size 3 i0 (.int .i64 0) 1 underlying36 HI HZ0 HZ1 _ _ _ _ n rfl rfl rfl rfl ?c1 ?c2 ?c3 ?_)
 case c1=>rw [HZ2.out];omega
 case c2=>unfold maxLen;omega
 case c3=>exact n9 _
 intro w1 hown oV;have hE1:=jI oV;have HE1:=np hE1;rw [q3_] at hown;have hrl:(List.replicate n (0:Int)).length=n:=by simp
 have hI:aK w1 (.slice (some ⟨w.heap.size,0,none⟩) n n) (List.replicate n 0):=by
  have h2:=hown;have h3:w1.ownsRow w.heap.size 3 1 (.slice (some ⟨w.heap.size,0,none⟩) n n) (List.replicate n (0:Int)).length ((List.replicate n (0:Int)).map (Value.int .i64)):=by rw [hrl];exact h2
  exact aK.of_owns h3 (fun x hx=>by rw [List.eq_of_mem_replicate hx];omega)
 have HL:=np (V9_ (List.replicate n 0) _ w1 hI (by rw [hrl];exact hn) (HT.ext hE1));rw [hrl] at HL;clear hown oV hE1 hI hrl;go_wp2_with fail;refine HL.mono ?_;rintro e w2 ⟨g,c,rfl,hR,hg,hc,hc2,hE2⟩;have HR:=np hR;have HE2:=np (aA.trans HE1 hE2);have hgs:w.heap.size<=g:=n8 HE1.size hg;clear hR hE2 HL hg;go_wp2_with fail;go_ret;exact ⟨g,c,rfl,HR,hgs,hc,hc2,HE2⟩
theorem P8_ (w:World) {ops:Array Oper} {rest:List Oper} {o:Oper} {a:Act} {Q:Exit->Act->World->Prop} (qB:o.guard=none)
  (s x:Operand) (ho:o.op=Op.call { callee:=Callee.builtin Builtin.append,args:=#[s,x],argTypes:=#[263,263] }) (base:Nat)
  (v:Value) (xs ys:oQ) (hs:a.eval s=v) (hB:aj w base 92 1 v ji xs) (g c n:Nat) (hn:ys.length=n) (hx:a.eval x=.slice (some ⟨g,0,none⟩) n c) (hR:an w g 0 ys)
  (hlen:xs.length+n<1000000) (hpos:1<=n) (od:base<=w.heap.size)
  (h:∀ w' gr cr,an w' gr 0 (xs++ys)->base<=gr->xs.length+n<=cr->cr<=maxLen->Below base w w'->wpList prog ops Q rest (a.put o.dst (.slice (some ⟨gr,0,none⟩) (xs.length+n) cr)) w') :
  wpList prog ops Q (o::rest) a w:=by
 refine wpList_plain qB fun K hK=>?_;subst hn;obtain ⟨i0,hi,hz,oe,pX⟩:=info_parts nE;have pJ:∀ j,(⟨g,0,none⟩:Addr).add j=⟨g,0+j,none⟩:=by intro j;unfold Addr.add;split <;> simp_all
 have hbig:=hB.bigs;refine iw w s x 263 ho base 92 i0 (.string ⟨#[]⟩) 1 16 underlying263 hi hz oe pX rfl (by decide) v xs.length (xs.map fun x=>Value.string (aB x)) hs hbig ⟨g,0,none⟩ ys.length c (ys.map fun x=>Value.string (aB x)) hx (by simp) ?_ ?_ ?_ ?_ od ?_
 ·intro j q hq;rw [nx] at hq;cases hy:ys[j]? with
  | none=>rw [hy] at hq;cases hq
  | some y =>
   rw [hy] at hq;rw [pJ,hR.cell j y hy];exact congrArg some (oA hq)
 ·intro u hu;obtain ⟨y,-,rfl⟩:=List.mem_map.1 hu;rfl
 ·unfold maxLen;omega
 ·omega
 ·intro v' w' hown oV _ qN;have rH:w'.ownsRow base 92 1 v' (xs++ys).length ((xs++ys).map fun x=>Value.string (aB x)):=by
   rw [oJ,List.map_append];exact hown
  obtain ⟨gr,cr,rfl,-⟩:=ei rH (by rw [oJ];omega);obtain ⟨k1,k2,k3,k4⟩:=an.of_owns rH;rw [oJ] at k3;rw [oJ];refine hK _ _ (h w' gr cr k1 k2 k3 k4 ⟨oV.os,oV.tape,oV.output,oV.size,fun b hb=>oV.block b (by omega) ?_⟩);intro e;have:=(hbig.lt b e.symm).1;omega
theorem Z00 (F cols:Nat) (m:oP) (ad:Option Addr) (cap:Nat) (w:World) (R:oP) (hM:m=[]\/∃ g0 tags,ad=some ⟨g0,0,none⟩/\cF w g0 tags m) (hrow:bV cols m=true) (h:oP) (hF:dU (m.length+cols) F (m.length+cols) (bI cols m)=some h) (og:bV (m.length+cols) h=true) (hR:dU cols F cols (dZ m.length h)=some R)
  (sw:m.length<=cap) (qP:cap<=maxLen) (hm:m.length+cols<=1000) (pc:1<=cols) (ht:aZ w) (hb:3<w.heap.size) :
  Calls prog 215 #[.slice ad m.length cap,.int .i64 cols] w fun e w'=>∃ v,e=.returned v/\cG w' w.heap.size v R/\aA w w':=by
 have HM:=np hM;have HRW:=np hrow;have HR:=np hR;have HF:=np hF;have HOK:=np og;have HT:=np ht;have HB:=np hb;unfold maxLen at qP;clear hM hrow hR ht hb hF og
 go_enter func215,ntmps215
 go_wp2_with fail
 go_loopw [5,12] (fun out t wr=>∃ (c:Nat) (tagsO:List (Nat×Nat×Nat)),c<=cols/\t=.int .i64 c/\aA w wr/\Hid (dj wr w.heap.size w.heap.size out tagsO ((bI cols m).take c))/\Hid (out=.slice none 0 0/\c=0\/∃ g k,out=.slice (some ⟨g,0,none⟩) c k)) (fun _ t _=>cols-(intOf t).toNat)
 case atStart=>exact ⟨0,[],by omega,rfl,aA.refl _,dj.nil _ _ _,.inl ⟨rfl,rfl⟩⟩
 case round =>
  obtain ⟨c,tagsO,hc,rfl,hE,HL,HV⟩:=hrel;obtain ⟨wo,rfl⟩:∃ wo:World,wo=wr:=⟨_,rfl⟩;have HE:=np hE;by_cases hlt:c<cols
  ·have Gp:Hid ((bI cols m).take (c+1)=(bI cols m).take c++[m.map (fun r=>r.getD c 0)++(List.replicate cols (0:Int)).set c 1]):=by
    unfold Hid bI;rw [<- List.map_take,<- List.map_take,nz,List.map_append,List.getElem?_range hlt];rfl
   clear hE;go_wp2_with fail
   go_loopw [7,17] (fun r t wq=>∃ i:Nat,i<=m.length/\t=.int .i64 i/\aA wo wq/\Hid (aj wq wo.heap.size 92 1 r ji ((m.map (fun r=>r.getD c 0)).take i))) (fun _ t _=>m.length-(intOf t).toNat)
   case atStart=>exact ⟨0,by omega,rfl,aA.refl _,⟨[],rfl,by simp,World.ownsRow_nil _ _ _ _,by simp⟩⟩
   case round =>
    obtain ⟨i,hi,rfl,B5,pq⟩:=hrel;obtain ⟨wp,rfl⟩:∃ wp:World,wp=wr:=⟨_,rfl⟩;have HEq:=np B5;by_cases hil:i<m.length
    ·obtain ⟨g0,tags,rfl,rk⟩:∃ g0 tags,ad=some ⟨g0,0,none⟩/\cF w g0 tags m:=by
      rcases HM.out with h0 | h0;·rw [h0] at hil;simp at hil
      ·exact h0
     obtain ⟨t,xx,c1,c2,c3,c4,c5⟩:=(rk.ext (aA.trans HE B5)).get i hil;clear rk;obtain ⟨hxl,hxs⟩:=iH HRW i hil;have HN:Hid ((m.map (fun r=>r.getD c 0)).take (i+1)=(m.map (fun r=>r.getD c 0)).take i++[(aC m i).getD c 0]):=by
      unfold Hid;rw [nz,nx,en hil];rfl
     have HJ:Hid (((m.map (fun r=>r.getD c 0)).take i).length<1000000):=(by unfold Hid;rw [ny];omega);obtain ⟨xr,pL⟩:=oN (aC m i);rw [pL] at c1 c2 c4 hxl HN;have o7:c<xr.length:=(by omega);have g2:=c4.cell c (xr.getD c 0) (by rw [nu,ns o7];rfl);obtain ⟨x,hx⟩:=oN (xr.getD c 0);rw [hx] at g2 HN;unfold maxLen at c3;have hszq:=B5.size;clear xx c4 c5 hxs pL hx B5;go_wp2_with (at_builtin;go_must (refine jY _ rfl _ _ 263 rfl wo.heap.size 92 (.string ⟨#[]⟩) 1 16 underlying263 nE rfl (by decide) u7 ji ((m.map (fun r=>r.getD c 0)).take i) x #[.string (aB x)] 92 rfl pq.out rfl rfl ?e1 (fun _ _=>rfl) HJ.out (by decide) hszq ?_))
     case e1=>simp [Value.oneCell']
     intro v' w5 ow qM hb5 hs5 _;have ow:aj w5 wo.heap.size 92 1 v' ji ((m.map (fun r=>r.getD c 0)).take (i+1)):=(by rw [HN.out];exact ow);have HB5:=np ow;have HX5:=np (Below.trans HEq hb5);clear ow qM hb5;go_wp2_with fail;go_roundw
     case rel=>exact ⟨i+1,by omega,by go_num,HX5,HB5⟩
     case measure=>simp [intOf];omega
    ·obtain rfl:i=m.length:=(by omega);have hB:=pq.out;rw [List.take_of_length_le (by simp)] at hB;have HBL:=np hB;have HEL:=np (aA.trans HE HEq);have HLL:=np (HL.ext HEq);have HZ:=np (Z2K cols wp (by omega) (HT.ext HEL));have hs0:=HE.size;have hs1:=HEq.size;clear hB pq B5;go_wp2_with fail;refine HZ.mono ?_;rintro e w2 ⟨gz,cz,rfl,DB,IA,MM,KY,hE2⟩;have zX:aB 1=⟨#[49]⟩:=(by kernel_rfl);have HE3:Hid (aA wp (w2.setCell ⟨gz,c,none⟩ (.string (aB 1)))):=Below.trans hE2 ((aH.setCell (S:=(·=gz)) (aH.ofExt (aA.refl w2)) rfl c (.string (aB 1))).below hE2.size (fun k hk=>by rw [hk];exact IA));have hRS:=DB.set c (by simpa using hlt) 1;have gz1:=DB.cell c 0 (by rw [List.getElem?_replicate,if_pos hlt]);have gz2:=DB.free c;rw [Nat.zero_add] at gz1 hRS;rw [zX] at HE3 hRS;have HRZ:=np hRS;have HB3:=np (HBL.ext HE3);have HL3:=np (HLL.ext HE3);have hs3:=HE3.size;clear DB HZ hRS hE2;go_wp2_with (at_builtin;go_must (refine P8_ _ rfl _ _ rfl wo.heap.size u7 _ _ rfl HB3 gz cz cols ?n1 rfl HRZ ?n2 pc ?n3 ?_))
     case n1=>simp
     case n2=>simp;omega
     case n3=>omega
     intro w4 gr cr xg hgr sW E9 hb4;have HR4:=np xg;have HE4:=np (Below.trans (aA.trans HEq HE3) hb4);have HEX:=np (aA.trans HE HE4);have HL4:=np (HL.ext HE4);have hszr:=HEX.size;have r6:Hid ((m.map (fun r=>r.getD c 0)++(List.replicate cols (0:Int)).set c 1).length=m.length+cols):=(by unfold Hid;simp);have HJ:Hid (((bI cols m).take c).length=c):=(by unfold Hid bI;rw [ny];simp;omega);have HV1:Hid (u5.ownBlock≠some gr):=fun e=>by have:=(HL.own.lt gr e).2;omega
     have HN1:Hid (gr∉tagsO.map (·.1)):=fun hm=>by
      obtain ⟨t,ht,e⟩:=List.mem_map.1 hm;obtain ⟨i,hi⟩:=List.getElem?_of_mem ht;have hl:i<((bI cols m).take c).length:=(by rw [<- HL.out.len];exact (nt.1 hi).1);have:=(HL.row i t _ hi (ns hl)).2.2.1.lt;omega
     have HE0:Hid (#[Value.slice (some ⟨gr,0,none⟩) (m.length+cols) cr]=#[gi (gr,0,cr) (m.map (fun r=>r.getD c 0)++(List.replicate cols (0:Int)).set c 1).length]):=(by unfold Hid gi;rw [r6.out]);have HC:Hid ((m.map (fun r=>r.getD c 0)++(List.replicate cols (0:Int)).set c 1).length<=cr):=by
      unfold Hid;rw [r6.out];simpa using sW
     have HGR:Hid (w.heap.size<=gr):=(by unfold Hid;omega);have LV:Hid (((bI cols m).take c).length<1000000):=(by unfold Hid;rw [HJ.out];omega);clear xg hb4 sW;go_wp2_with (at_builtin;go_must (refine Z2_ _ rfl _ _ rfl w.heap.size w.heap.size u5 tagsO ((bI cols m).take c) (gr,0,cr) (m.map (fun r=>r.getD c 0)++(List.replicate cols (0:Int)).set c 1) #[.slice (some ⟨gr,0,none⟩) (m.length+cols) cr] 263 rfl HL4 rfl HE0 HC E9 HR4 HGR HV1 HN1 LV hszr ?_));intro v' w5 ow hb5 tV;have ow:dj w5 w.heap.size w.heap.size v' (tagsO++[(gr,0,cr)]) ((bI cols m).take (c+1)):=(by rw [Gp.out];exact ow);have HB5:=np ow;have HX5:=np (Below.trans HEX hb5);have HV5:Hid (v'=.slice none 0 0/\c+1=0\/∃ g k,v'=.slice (some ⟨g,0,none⟩) (c+1) k):=by
      obtain ⟨g,k,hv⟩:=tV.out;refine .inr ⟨g,k,?_⟩;have hj:=HJ.out;rw [ny] at hj;rw [hv];first | rw [hj] | rw [HJ.out] | (simp only [ny];rw [hj])
     clear ow hb5 tV;go_wp2_with fail;go_roundw
     case rel=>exact ⟨c+1,_,by omega,by go_num,HX5,HB5,HV5⟩
     case measure=>simp [intOf];omega
  ·obtain rfl:c=cols:=(by omega);have hwl:(bI c m).length=c:=(by unfold bI;simp);have hL:=HL.out;rw [List.take_of_length_le (by omega)] at hL;rcases HV.out with ⟨-,h0⟩ | ⟨g,cc,rfl⟩
   ·omega
   rw [<- hwl] at hL;have hf:=HF.out;unfold dU at hf;cases o8:dG (m.length+c) F (m.length+c) 0 0 (bI c m) with
   | none=>rw [o8] at hf;cases hf
   | some rr =>
   obtain ⟨mf,d⟩:=rr;rw [o8] at hf;have HRR:Hid (mf.take d=h):=oA hf;have zQ:dj wo w.heap.size w.heap.size (.slice (some ⟨g,0,none⟩) (bI c m).length cc) tagsO (bI c m):=by
    rw [hwl] at hL |-;exact hL
   obtain ⟨rk,hc2,wA,qE⟩:=zQ.mat (n9 _);have HFM:=np (x4_ (m.length+c) F (m.length+c) (bI c m) tagsO g cc w.heap.size wo (mf,d) rk o8 hc2 wA (n9 _) (by omega) (HT.ext HE) HB qE HE.size);rw [hwl] at HFM hc2;have HBB:=np qE;have hszw:=HE.size;clear hL zQ hf o8 HL HV hE rk qE;go_wp2_with fail;refine HFM.mono ?_;rintro e w2 ⟨tags',rfl,xi,rB,q9,hG⟩;have HFA:=np xi;have HB2:Hid (aA w w2):=Below.trans HE (hG.below hszw HBB);have hd:h.length=d:=by
    rw [<- HRR.out,ny];have a1:mf.length=c:=rB;have a2:d<=c:=q9;omega
   have a2:d<=c:=q9
   have HBH:=np (b0_ F c m.length h (tags'.take d) g cc w.heap.size w2 R (by rw [<- HRR.out];exact xi.1.take d) HOK HR (by omega) wA (by omega) pc (by omega) (HT.ext HB2) HB (fun b hb=>by
    rcases List.mem_cons.1 hb with rfl | hb;·exact HBB _ (List.mem_cons_self ..)
    ·obtain ⟨t,ht,rfl⟩:=List.mem_map.1 hb
     exact HBB _ (List.mem_cons_of_mem _ (xi.2 _ (List.mem_map.2 ⟨t,List.mem_of_mem_take ht,rfl⟩)))) HB2.size)
   rw [hd] at HBH;clear xi hG HFM;go_wp2_with fail;refine HBH.mono ?_;rintro e w3 ⟨v,rfl,Bn,ot⟩;have HRM:=np Bn;have HB3:Hid (aA w w3):=Below.trans HB2 ot;clear Bn ot HBH;go_wp2_with fail;go_ret;exact ⟨v,rfl,HRM,HB3⟩
end Go.Proofs.YtoonaddcfakamaaGreatDoor
