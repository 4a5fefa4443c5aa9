import Derived.KernelRfl
import Derived.Test.YtoonaddcfakamaaGreatDoorZAH
import Derived.Test.YtoonaddcfakamaaGreatDoorZAF
import Derived.RegionTactic
import Derived.BigRegion
import Derived.Deep.DeepCutAuto
import Derived.Deep.RegionHeld3
import Derived.StillTail
import Derived.StillTactics
import Derived.Sort.QuietIn
set_option linter.unusedVariables false
set_option linter.unusedSimpArgs false
set_option maxRecDepth 1000000
set_option maxHeartbeats 40000000
namespace Go.Proofs.YtoonaddcfakamaaGreatDoor
open Go.RowKit Go.Proofs.Tryz
def dz (w:World) (g0:Nat) (pU tags:List (Nat×Nat×Nat)) (m:pM):Prop :=
 bI w g0 tags m/\(∀ b,b∈tags.map (·.1)->b∈pU.map (·.1))
def nS:Option Nat->Value
 | none=>.int .i64 (-1)
 | some a=>.int .i64 a
theorem V1_ (c d:Nat) (m:pM) (k:Nat):ao c d m (k+1)=match ao c d m k with
  | none=>if aC m (d+k) c=0 then none else some (d+k)
  | some a=>if aC m (d+k) c≠0/\(aC m (d+k) c).natAbs<(aC m a c).natAbs then some (d+k) else some a:=rfl
theorem Z0w {c d i:Nat} {m:pM} (hi:d<=i) (h:aC m i c=0):ao c d m (i+1-d)=ao c d m (i-d):=by
 rw [show i+1-d=(i-d)+1 by omega,V1_,show d+(i-d)=i by omega];cases ao c d m (i-d) with
 | none=>simp [h]
 | some a=>simp [h]
theorem i3_ {c d i:Nat} {m:pM} (hi:d<=i) (h:aC m i c≠0) (hb:ao c d m (i-d)=none):ao c d m (i+1-d)=some i:=by
 rw [show i+1-d=(i-d)+1 by omega,V1_,show d+(i-d)=i by omega,hb];simp [h]
theorem Z0v {c d i a:Nat} {m:pM} (hi:d<=i) (h:aC m i c≠0) (hb:ao c d m (i-d)=some a):ao c d m (i+1-d)=if (aC m i c).natAbs<(aC m a c).natAbs then some i else some a:=by
 rw [show i+1-d=(i-d)+1 by omega,V1_,show d+(i-d)=i by omega,hb];simp only;by_cases hl:(aC m i c).natAbs<(aC m a c).natAbs;·rw [if_pos ⟨h,hl⟩,if_pos hl]
 ·rw [if_neg (fun x=>hl x.2),if_neg hl]
theorem x8_ {c d:Nat} {m:pM}:∀ (k a:Nat),ao c d m k=some a->d<=a/\a<d+k/\aC m a c≠0
 | 0,a,h=>by simp [ao] at h
 | k+1,a,h=>by
  rw [V1_] at h;cases hb:ao c d m k with
  | none =>
   rw [hb] at h;simp only at h
   split at h
   ·cases h
   ·rename_i hne;obtain rfl:=o5 h;exact ⟨by omega,by omega,hne⟩
  | some b =>
   rw [hb] at h;simp only at h;have ih:=x8_ k b hb
   split at h
   ·rename_i hc;obtain rfl:=o5 h;exact ⟨by omega,by omega,hc.1⟩
   ·obtain rfl:=o5 h;exact ⟨ih.1,by omega,ih.2.2⟩
theorem dz.elem {w:World} {g0:Nat} {pU tags:List (Nat×Nat×Nat)} {m:pM} (h:dz w g0 pU tags m) {n:Nat} (hok:bH n m=true) (i c:Nat) (hi:i<m.length) (hc:c<n) :
  ∃ t:Nat×Nat×Nat,tags[i]?=some t/\w.cell? ⟨g0,i,none⟩=some (.slice (some ⟨t.1,t.2.1,none⟩) n t.2.2)/\n<=t.2.2/\t.2.2<=maxLen/\w.cell? ⟨t.1,t.2.1+c,none⟩=some (.string (aB (aC m i c)))/\aW w t.1 t.2.1 (aD m i)/\t.1≠g0/\Sz (aC m i c):=by
 obtain ⟨t,ht,h1,h2,h3,h4,h5⟩:=h.1.get i hi;obtain ⟨hl,hs⟩:=er hok i hi;have hcl:c<(aD m i).length:=by omega
 have e:(aD m i)[c]?=some (aC m i c):=by
  unfold aC;rw [oe,oc hcl];rfl
 rw [hl] at h1 h2;exact ⟨t,ht,h1,h2,h3,h4.cell c _ e,h4,h5,eG (List.all_eq_true.1 hs _ (og e))⟩
theorem dz.ext {w w':World} {g0:Nat} {pU tags:List (Nat×Nat×Nat)} {m:pM} (h:dz w g0 pU tags m) (he:aA w w'):dz w' g0 pU tags m:=⟨h.1.ext he,h.2⟩
theorem dz.grownRow {w w':World} {g0:Nat} {pU tags:List (Nat×Nat×Nat)} {m:pM} (h:dz w g0 pU tags m) (i:Nat) (hi:i<m.length) (t:Nat×Nat×Nat) (ht:tags[i]?=some t) (r:pN) (hr:r.length=(aD m i).length) (hg:aH (·=t.1) w w') (hR:aW w' t.1 t.2.1 r):dz w' g0 pU tags (m.set i r) :=
 ⟨h.1.setRow i hi t ht r hr hg hR,h.2⟩
theorem dz.inb {w:World} {g0:Nat} {pU tags:List (Nat×Nat×Nat)} {m:pM} (h:dz w g0 pU tags m) {i:Nat} {t:Nat×Nat×Nat} (ht:tags[i]?=some t):dU g0 pU t.1 :=
 List.mem_cons_of_mem _ (h.2 t.1 (List.mem_map.2 ⟨t,og ht,rfl⟩))
theorem lK {m:pM} {i c:Nat} (hc:c<(aD m i).length):(aD m i)[c]?=some (aC m i c):=by
 unfold aC;rw [oe,oc hc];rfl
theorem Z6n {n:Nat} {m:pM} (h:bH n m=true) (i:Nat) (r:pN) (h1:r.length=n) (h2:r.all bU=true):bH n (m.set i r)=true:=by
 unfold bH at h |-;rw [List.all_eq_true] at h |-;intro x hx;rcases List.mem_or_eq_of_mem_set hx with hx | hx;·exact h x hx
 ·rw [hx,Bool.and_eq_true,decide_eq_true_iff];exact ⟨h1,h2⟩
theorem Z6i {r:pN} (h:r.all bU=true):(dP r).all bU=true:=by
 unfold dP;rw [List.all_map,List.all_eq_true];rw [List.all_eq_true] at h;intro x hx;have:=(m_ x).1 (h x hx);show bU (-x)=true;rw [m_,Int.natAbs_neg];exact this
theorem Z42 {c d:Nat} {m m3:pM} {p:Bool} (h:(match dC c d m d with | none=>none | some m4=>some (m4,true))=some (m3,p)):∃ z,dC c d m d=some z/\m3=z/\p=true:=by
 cases hu:dC c d m d with
 | none=>rw [hu] at h;cases h
 | some z =>
  rw [hu] at h;simp only [Option.some.injEq,Prod.mk.injEq] at h;exact ⟨z,rfl,h.1.symm,h.2.symm⟩
theorem Z6S (x y:Int):decide (eA (x.natAbs:Int) (y.natAbs:Int)<0)=decide (x.natAbs<y.natAbs):=by
 unfold eA;by_cases h:x.natAbs<y.natAbs;·rw [if_pos (by omega),pE h];rfl
 ·rw [if_neg (by omega),pD h];split <;> rfl
theorem Z3J {x:Int} (h:Sz x):(aB x).size<=10000000000:=by have:=h.size;omega
theorem Z5J {x:Int} (h:Sz x):Sz (x.natAbs:Int):=h.natAbs
theorem v2_ (n F cols:Nat) (m:pM) (tags:List (Nat×Nat×Nat)) (g0 cap base:Nat) (w:World) (R:pM×Nat) (hM:bI w g0 tags m) (hok:cB n F cols 0 0 m=some R)
  (qY:m.length<=cap) (qD:cap<=maxLen) (za:cols<=n) (xl:n<=1000000) (ht:ag w) (hb:3<base) (hg:∀ b,dU g0 tags b->base<=b) (sG:base<=w.heap.size) :
  Calls prog 132 #[.slice (some ⟨g0,0,none⟩) m.length cap,.int .i64 cols] w fun e w'=>∃ tags',e=.returned (.slice (some ⟨g0,0,none⟩) R.2 cap)/\dz w' g0 tags tags' R.1/\R.1.length=m.length/\R.2<=m.length/\aH (dU g0 tags) w w':=by
 have HM:=oZ hM;have HOK:=oZ hok;have HT:=oZ ht;have HB:=oZ hb;have HGB:=oZ hg;unfold maxLen at qD;obtain ⟨L,hL⟩:=pK m.length;rw [hL] at qY |-;have HL:=oZ hL;clear hM hok ht hb hg hL
 go_enter func132,ntmps132
 go_wp2_with fail
 go_loopw [5,6] (fun sd sc wr=>∃ (c d:Nat) (m1:pM) (pW:List (Nat×Nat×Nat)),c<=cols/\d<=L/\sc=.int .i64 c/\sd=.int .i64 d/\aH (dU g0 tags) w wr/\Hid (dz wr g0 tags pW m1)/\Hid (m1.length=L)/\Hid (cB n F (cols-c) c d m1=some R)) (fun _ sc _=>cols-(intOf sc).toNat)
 case atStart=>exact ⟨0,0,m,tags,by omega,by omega,rfl,rfl,aH.refl _ _,⟨HM,fun b h=>h⟩,HL,HOK⟩
 case round =>
  obtain ⟨c,d,m1,pW,hc,hd,rfl,rfl,hG,HFA,HL1,HC⟩:=hrel;obtain ⟨wo,rfl⟩:∃ wo:World,wo=wr:=⟨_,rfl⟩;by_cases hlt:c<cols/\d<L
  ·obtain ⟨zT,qy⟩:=hlt;obtain ⟨q,hq⟩:∃ q,cols-c=q+1:=⟨cols-c-1,by omega⟩;have hC:=HC.out;rw [hq] at hC;unfold cB at hC;rw [if_pos (by rw [HL1.out];exact qy)] at hC;cases hsw:db n c d F m1 with
   | none=>rw [hsw] at hC;cases hC
   | some r =>
   obtain ⟨m3,p⟩:=r;rw [hsw] at hC;have HSW:=oZ hsw;have HC2:Hid (cB n F q (c+1) (if p then d+1 else d) m3=some R):=hC;have HQ:=oZ hq;have vN:c<n:=(by omega);clear hsw hC hq HC;go_wp2_with fail
   go_loopg [5] F (fun f sd wr=>∃ (m2:pM) (pd:List (Nat×Nat×Nat)),sd=.int .i64 d/\aH (dU g0 tags) w wr/\Hid (dz wr g0 tags pd m2)/\Hid (m2.length=L)/\Hid (db n c d f m2=some (m3,p)))
   case atStart=>exact ⟨m1,pW,rfl,hG,HFA,HL1,HSW⟩
   case round =>
    clear HFA HL1 HSW hG;obtain ⟨m2,pd,rfl,hG,HFA,HL2,HSW⟩:=hrel;obtain ⟨w2,rfl⟩:∃ w2:World,w2=wr:=⟨_,rfl⟩;cases gk with
    | zero=>exact absurd HSW.out (by unfold db;simp)
    | succ f =>
    have hS:=HSW.out;unfold db at hS;by_cases s9:bH n m2=true
    ·rw [if_pos s9,HL2.out] at hS;have HOKM:=oZ s9;have HS:=oZ hS;clear hS s9 HSW;go_wp2_with fail
     go_loopw [7,8] (fun sa si wr=>∃ i:Nat,d<=i/\i<=L/\si=.int .i64 i/\aA w2 wr/\Hid (sa=nS (ao c d m2 (i-d)))) (fun _ si _=>L-(intOf si).toNat)
     case atStart=>exact ⟨d,by omega,by omega,rfl,aA.refl _,by rw [Nat.sub_self];rfl⟩
     case round =>
      obtain ⟨i,sV,Iz,rfl,hE,HA⟩:=hrel;obtain ⟨w3,rfl⟩:∃ w3:World,w3=wr:=⟨_,rfl⟩;have HA0:=HA;have hA:=HA.out;clear HA;by_cases hil:i<L
      ·as_aux_lemma =>
       obtain ⟨t,ht,k1,k2,k3,k4,k5,k6,k7⟩:=dz.elem (HFA.ext hE) HOKM i c (by rw [HL2.out];exact hil) vN;unfold maxLen at k3;have hz:=iL (aC m2 i c);by_cases he:aC m2 i c=0
       ·rw [pE he] at hz;have HN:Hid (u7=nS (ao c d m2 (i+1-d))):=(by unfold Hid;rw [Z0w sV he];exact hA);have HE:=oZ hE;obtain ⟨x,hx⟩:=pK (aC m2 i c);rw [hx] at k4 hz;clear ht k5 k6 k7 hA he hx hE;go_wp2_with fail
        go_quiet (fail)
        go_wp2_with fail;go_roundw
        case rel=>exact ⟨i+1,by omega,by omega,by go_num,aA.draws HE _,HN⟩
        case measure=>simp [intOf];omega
       ·rw [pD he] at hz;cases qe:ao c d m2 (i-d) with
        | none =>
         rw [qe] at hA;obtain rfl:u7=.int .i64 (-1):=hA;have HN:Hid (Value.int .i64 (i:Int)=nS (ao c d m2 (i+1-d))):=(by unfold Hid;rw [i3_ sV he qe];rfl);have HE:=oZ hE;obtain ⟨x,hx⟩:=pK (aC m2 i c);rw [hx] at k4 hz;clear ht k5 k6 k7 he hx hE qe;go_wp2_with fail
         go_quiet (fail)
         go_wp2_with fail;go_roundw
         case rel=>exact ⟨i+1,by omega,by omega,by go_num,aA.draws HE _,HN⟩
         case measure=>simp [intOf];omega
        | some a =>
         rw [qe] at hA;obtain rfl:u7=.int .i64 a:=hA;obtain ⟨wK,ha2,AZ⟩:=x8_ _ _ qe;have AY:a<L:=(by omega);obtain ⟨s,hs,l1,l2,l3,l4,l5,l6,l7⟩:=dz.elem (HFA.ext hE) HOKM a c (by rw [HL2.out];exact AY) vN;unfold maxLen at l3;have HNX:=oZ (Z0v sV he qe);have HCM:=oZ (Z6S (aC m2 i c) (aC m2 a c));have HE:=oZ hE;obtain ⟨x,hx⟩:=pK (aC m2 i c);obtain ⟨y,hy⟩:=pK (aC m2 a c);rw [hx] at k4 hz k7 HNX HCM;rw [hy] at l4 l7 HNX HCM;have HCQ:=oZ (fun W=>J5_ (x.natAbs:Int) (y.natAbs:Int) W (Z3J (Z5J k7)) (Z3J (Z5J l7)));clear ht k5 k6 k7 he hx hy hE qe hs l5 l6 l7 wK ha2 AZ;by_cases hxy:x.natAbs<y.natAbs
         ·have zc:decide (eA (x.natAbs:Int) (y.natAbs:Int)<0)=true:=(by rw [HCM.out];exact pE hxy);have HN:Hid (Value.int .i64 (i:Int)=nS (ao c d m2 (i+1-d))):=(by unfold Hid;rw [HNX.out,if_pos hxy];rfl);clear hxy HNX HCM;go_wp2_with fail
          go_quiet ((first | (go_at_call 63;exact Calls.quiet_of (nQ _ _)) | (go_at_call 152;exact Calls.quiet_of (HCQ _))))
          go_wp2_with fail;go_roundw
          case rel=>exact ⟨i+1,by omega,by omega,by go_num,aA.draws HE _,HN⟩
          case measure=>simp [intOf];omega
         ·have zc:decide (eA (x.natAbs:Int) (y.natAbs:Int)<0)=false:=(by rw [HCM.out];exact pD hxy);have HN:Hid (Value.int .i64 (a:Int)=nS (ao c d m2 (i+1-d))):=(by unfold Hid;rw [HNX.out,if_neg hxy];rfl);clear hxy HNX HCM;go_wp2_with fail
          go_quiet ((first | (go_at_call 63;exact Calls.quiet_of (nQ _ _)) | (go_at_call 152;exact Calls.quiet_of (HCQ _))))
          go_wp2_with fail;go_roundw
          case rel=>exact ⟨i+1,by omega,by omega,by go_num,aA.draws HE _,HN⟩
          case measure=>simp [intOf];omega
      ·obtain rfl:i=L:=(by omega);clear hA;have hA:=HA0.out;have hS:=HS.out;have HE:=oZ hE;have HG3:=oZ (hG.ext hE);have HF3:=oZ (HFA.ext hE);clear hE hG HFA HS;cases qe:ao c d m2 (i-d) with
       | none =>
        rw [qe] at hA hS;obtain rfl:u7=.int .i64 (-1):=hA;simp only [Option.some.injEq,Prod.mk.injEq] at hS;obtain ⟨rfl,rfl⟩:=hS;have HC3:Hid (cB n F q (c+1) d m2=some R):=HC2.out;have HQ2:Hid (cols-(c+1)=q):=(by have:=HQ.out;unfold Hid;omega);clear qe HC2 HA0;go_wp2_with fail;go_roundw
        case rel=>exact ⟨c+1,d,m2,pd,by omega,by omega,by go_num,rfl,HG3,HF3,HL2,by unfold Hid;rw [HQ2.out];exact HC3⟩
        case measure=>simp [intOf];omega
       | some a =>
        rw [qe] at hA hS;obtain rfl:u7=.int .i64 a:=hA
        dsimp only at hS
        obtain ⟨wK,ha2,AZ⟩:=x8_ _ _ qe;have AY:a<i:=(by omega);obtain ⟨td,xH,c1,c2,c3,c4,c5⟩:=HF3.1.get d (by rw [HL2.out];omega);obtain ⟨ta,xI,e1,e2,e3,e4,e5⟩:=HF3.1.get a (by rw [HL2.out];omega);have fd:=HF3.1.free d;have fa:=HF3.1.free a;have HTD:=oZ xH;have HTA:=oZ xI;have HSW1:=oZ (HF3.1.swap d a (by rw [HL2.out];omega) (by rw [HL2.out];omega) td ta xH xI);have HSd:=oZ hS;clear hS qe HA0 xH xI c2 c3 c4 c5 e2 e3 e4 e5 ha2 AZ
        go_upto_region 12 with fail
        go_cut [] from 29 to 177 (fun wx=>Hid (dz wx g0 tags (a8 pd d a) (a8 m2 d a))/\Hid (aH (dU g0 tags) w wx))
        case first =>
         as_aux_lemma =>
         have hSub:∀ b,b∈(a8 pd d a).map (·.1)->b∈tags.map (·.1):=fun b hb=>by
          rw [k7_] at hb;exact HF3.2 b (S6_ _ _ _ _ hb)
         have HSub:=oZ hSub;clear hSub;by_cases wG:d=a
         ·subst wG;obtain rfl:td=ta:=o5 (HTD.symm.trans HTA)
          go_region
          all_goals (go_wp2_with fail;go_meet;exact ⟨⟨HSW1.ext (aA.drew _),HSub⟩,((HG3.setCell (List.mem_cons_self ..) _ _).setCell (List.mem_cons_self ..) _ _).ext (aA.drew _)⟩)
         ·have Fy:¬ a=d:=fun e=>wG e.symm
          go_region
          all_goals (go_wp2_with fail;go_meet;exact ⟨⟨HSW1.ext (aA.drew _),HSub⟩,((HG3.setCell (List.mem_cons_self ..) _ _).setCell (List.mem_cons_self ..) _ _).ext (aA.drew _)⟩)
        case rest =>
         obtain ⟨zt,HG4⟩:=hcut;have HOKS:=oZ (u5_ HOKM d a);have rN:Hid ((a8 m2 d a).length=i):=(by unfold Hid;rw [j5];exact HL2);have hSd:=HSd.out;have wh:Hid (∀ W,aH (dU g0 tags) w W->ag W):=fun W hW=>HT.below (hW.below sG HGB) HB;obtain ⟨ms,yT⟩:=pK (a8 m2 d a);rw [yT] at zt HOKS rN hSd;clear yT HSd HSW1 HF3 HG3 c1 e1 fd fa HTD HTA;cases qJ:cH c d ms (i-(d+1)) with
         | none=>rw [qJ] at hSd;cases hSd
         | some r =>
         obtain ⟨mf,rf⟩:=r;rw [qJ] at hSd;have HDN:=oZ qJ;have HSE:=oZ hSd;clear qJ hSd;go_wp2_with fail
         go_loopw [9,10] (fun sr si wr=>∃ (i4:Nat) (mj:pM) (rj:Bool),d+1<=i4/\i4<=i/\si=.int .i64 i4/\sr=.bool rj/\Hid (aH (dU g0 tags) w wr)/\Hid (dz wr g0 tags (a8 pd d a) mj)/\Hid (cH c d ms (i4-(d+1))=some (mj,rj))) (fun _ si _=>i-(intOf si).toNat)
         case atStart=>exact ⟨d+1,ms,false,by omega,by omega,by go_num,rfl,HG4,zt,by unfold Hid;rw [Nat.sub_self];rfl⟩
         case round =>
          obtain ⟨i4,mj,rj,MR,Av,rfl,rfl,q9,rO,qS⟩:=hrel;obtain ⟨w4,rfl⟩:∃ w4:World,w4=wr:=⟨_,rfl⟩;obtain ⟨tF,r8,wA⟩:=kQ qS (by rw [rN.out];omega);have qh:Hid (mj.length=i):=(by unfold Hid;rw [tF];exact rN);by_cases DG:i4<i
          ·as_aux_lemma =>
           obtain ⟨z,sP⟩:=C8_ HDN (i4+1-(d+1)) (by omega);rw [show i4+1-(d+1)=(i4-(d+1))+1 by omega] at sP;obtain ⟨mj',rj',nr,e1,qW,pg,e2⟩:=nn sP;rw [qS.out] at e1;simp only [Option.some.injEq,Prod.mk.injEq] at e1;obtain ⟨rfl,rfl⟩:=e1;rw [show d+1+(i4-(d+1))=i4 by omega] at pg e2;have HXL:Hid ((aD mj i4).length=n/\(aD mj i4).all bU=true):=by
            unfold Hid;rw [r8 i4 (by omega)];exact er HOKS i4 (by rw [rN.out];omega)
           have HYL:Hid ((aD mj d).length=n/\(aD mj d).all bU=true):=by
            unfold Hid;rw [r8 d (by omega)];exact er HOKS d (by rw [rN.out];omega)
           have HST:Hid (cH c d ms (i4+1-(d+1))=some (mj.set i4 nr,rj || decide (bF (aC mj i4 c) (aC mj d c)≠0))):=(by unfold Hid;rw [show i4+1-(d+1)=(i4-(d+1))+1 by omega,sP,e2]);clear sP e2 tF r8 wA;obtain ⟨t4,s6,b1,b2,b3,b4,b5⟩:=rO.1.get i4 (by rw [qh.out];omega);obtain ⟨tp,sQ,p1,p2,p3,p4,p5⟩:=rO.1.get d (by rw [qh.out];omega);have hap:=rO.1.apart s6 sQ (by omega);have hb4:=rO.inb s6;unfold maxLen at b3 p3;have hbg:=HGB t4.1 hb4;obtain ⟨xr,qN⟩:=pK (aD mj i4);obtain ⟨yr,hyr⟩:=pK (aD mj d);rw [qN] at b1 b2 b4;rw [hyr] at p1 p2 p4;have hxl:xr.length=n:=(by rw [<- qN];exact HXL.1);have hyl:yr.length=n:=(by rw [<- hyr];exact HYL.1);have ph:c<xr.length:=(by omega);have sE:c<yr.length:=(by omega);have ex:xr[c]?=some (aC mj i4 c):=(by rw [<- qN];exact lK (by rw [qN];exact ph));have ey:yr[c]?=some (aC mj d c):=(by rw [<- hyr];exact lK (by rw [hyr];exact sE));have b6:=b4.cell c _ ex;have p6:=p4.cell c _ ey;have sK:Sz (aC mj i4 c):=eG (List.all_eq_true.1 HXL.2 _ (by rw [qN];exact og ex));have vK:Sz (aC mj d c):=eG (List.all_eq_true.1 HYL.2 _ (by rw [hyr];exact og ey));have HDM:=oZ (fun W hW=>lB (aC mj i4 c) (aC mj d c) W sK vK qW hW);rw [qN,hyr] at pg;have HLE:=oZ pg;have hz:=iL (bF (aC mj i4 c) (aC mj d c));obtain ⟨xe,sZ⟩:=pK (aC mj i4 c);obtain ⟨ye,rp⟩:=pK (aC mj d c);rw [sZ] at b6 HDM hz HLE;rw [rp] at p6 HDM hz HLE;have HXR:=oZ qN;have HYR:=oZ hyr;have HXE:=oZ sZ;have HYE:=oZ rp;have HT4:=oZ s6;have HB4:=oZ b4;have HP4:=oZ p4;have HXN:=oZ hxl;have HYN:=oZ hyl;have hb5:tp.1≠t4.1:=fun e=>hap e.symm;clear qN hyr sZ rp ex ey sK vK pg s6 sQ b4 p4 b5 p5 qW hxl hyl hap hb4
           go_upto_region 17 with fail
           go_cut [11,12] from 87 to 126 (fun sq sr wx=>sq=.string (aB (aL xe ye))/\sr=.string (aB (bF xe ye))/\Hid (aA w4 wx))
           case first =>
            have HE0:Hid (aA w4 w4.drew):=aA.drew w4
            go_region_held3 (fun w'=>w'.cell? ⟨g0,i4,none⟩=some (.slice (some ⟨t4.1,t4.2.1,none⟩) xr.length t4.2.2)/\w'.cell? ⟨g0,d,none⟩=some (.slice (some ⟨tp.1,tp.2.1,none⟩) yr.length tp.2.2)/\w'.cell? ⟨t4.1,t4.2.1+c,none⟩=some (.string (aB xe))/\w'.cell? ⟨tp.1,tp.2.1+c,none⟩=some (.string (aB ye))/\Hid (aA w4 w'))
             (first | exact ⟨z1,z2,z3,z4,z5⟩ | exact ⟨b1,p1,b6,p6,HE0⟩ | go_keep)
             (first | (go_at_call 112;refine (HDM _ ?_).mono ?_;(exact wh _ (q9.ext (Hid.out (p:=aA w4 _) (by assumption))));rintro e w5 ⟨rfl,pV⟩;have z1:=pV.cell (a:=⟨g0,i4,none⟩) (v:=.slice (some ⟨t4.1,t4.2.1,none⟩) xr.length t4.2.2) (by assumption);have z2:=pV.cell (a:=⟨g0,d,none⟩) (v:=.slice (some ⟨tp.1,tp.2.1,none⟩) yr.length tp.2.2) (by assumption);have z3:=pV.cell (a:=⟨t4.1,t4.2.1+c,none⟩) (v:=.string (aB xe)) (by assumption);have z4:=pV.cell (a:=⟨tp.1,tp.2.1+c,none⟩) (v:=.string (aB ye)) (by assumption);have z5:Hid (aA w4 w5):=aA.trans (Hid.out (p:=aA w4 _) (by assumption)) pV))
            all_goals (go_wp2_with fail;go_meet;exact ⟨rfl,rfl,by assumption⟩)
           case rest =>
           obtain ⟨rfl,rfl,HE5⟩:=hcut;obtain ⟨w5,rfl⟩:∃ w5:World,w5=wc:=⟨_,rfl⟩;have HG5:=oZ (q9.ext HE5);have b7:=HE5.cell b1;have p7:=HE5.cell p1;clear HDM b1 p1 b6 p6;go_wp2_with fail;refine wp_region_still_tail 9 (by kernel_rfl) (by kernel_rfl) ?_;simp only [List.take_succ_cons,List.take_zero,List.drop_succ_cons,List.drop_zero];change wpStill prog _ w5.drew _ _ _
           repeat still_step
           try refine wpStill_nil ?_
           change wpList _ _ _ _ _ w5.drew;have HE6:Hid (aA w4 w5.drew):=aA.trans HE5 (aA.drew w5);have HG6:Hid (aH (dU g0 tags) w w5.drew):=q9.ext HE6;have xo:base<=w5.drew.heap.size:=ow sG HG6.size;have HLS:=oZ (L9_ (aL xe ye) xr yr nr t4.1 t4.2.1 t4.2.2 tp.1 tp.2.1 tp.2.2 base w5.drew (HB4.ext HE6) (HP4.ext HE6) hb5 HLE b2 (by unfold maxLen;exact b3) p2 (by unfold maxLen;exact p3) (wh _ HG6) HB hbg xo);clear b7 p7;go_wp2_with fail;refine HLS.mono ?_;rintro e w7 ⟨rfl,v7,xv⟩;have Bs:Hid (dz w7 g0 tags (a8 pd d a) (mj.set i4 nr)):=(rO.ext HE6).grownRow i4 (by rw [qh.out];omega) t4 HT4 nr (by rw [HXR.out];exact lT HLE) v7 xv;have HG7:Hid (aH (dU g0 tags) w w7):=HG6.trans (v7.weak (fun k hk hk2=>by rw [hk2];exact rO.inb HT4));clear HLS v7 xv;rw [HXE.out,HYE.out] at HST;by_cases sN:bF xe ye=0
           ·rw [pE sN] at hz;have yE:Hid ((rj || decide (bF xe ye≠0))=rj):=(by unfold Hid;rw [pD (by simp [sN]),Bool.or_false]);rw [yE.out] at HST;clear sN yE;cases rj
            all_goals
             go_wp2_with fail;go_roundw
             case rel=>exact ⟨i4+1,mj.set i4 nr,_,by omega,by omega,by go_num,rfl,HG7,Bs,HST⟩
             case measure=>simp [intOf];omega
           ·rw [pD sN] at hz;have yE:Hid ((rj || decide (bF xe ye≠0))=true):=(by unfold Hid;rw [pE sN,Bool.or_true]);rw [yE.out] at HST;clear sN yE;cases rj
            all_goals
             go_wp2_with fail;go_roundw
             case rel=>exact ⟨i4+1,mj.set i4 nr,true,by omega,by omega,by go_num,rfl,HG7,Bs,HST⟩
             case measure=>simp [intOf];omega
          ·obtain rfl:i4=i:=(by omega);have ym:mj=mf/\rj=rf:=by
            have:=qS.out;rw [HDN.out] at this;simp only [Option.some.injEq,Prod.mk.injEq] at this;exact ⟨this.1.symm,this.2.symm⟩
           obtain ⟨rfl,rfl⟩:=ym
           as_aux_lemma =>
           obtain ⟨LL,rfl⟩:=pL i4;have LY:d<LL:=(by omega);have hSE:=HSE.out;clear HSE HDN qS tF r8 wA rN HOKS zt HG4;cases rj with
           | true =>
            try dsimp only at hSE
            have HSE2:=oZ hSE;clear hSE;go_wp2_with fail
            go_roundg f
            case measure=>omega
            case rel=>exact ⟨mj,a8 pd d a,rfl,q9,rO,qh,HSE2⟩
           | false =>
            try dsimp only at hSE
            by_cases rH:bH n mj=true
            ·rw [if_pos rH] at hSE;obtain ⟨tp,sQ,p1,p2,p3,p4,p5⟩:=rO.1.get d (by rw [qh.out];omega);have hbp:=rO.inb sQ;unfold maxLen at p3;have hyl:=(er rH d (by rw [qh.out];omega)).1;have hys:=(er rH d (by rw [qh.out];omega)).2;have sE:c<(aD mj d).length:=(by omega);have ey:=lK sE;have p6:=p4.cell c _ ey;have HSG:=oZ (fun W=>mz (aC mj d c) W);have HP4:=oZ p4;have HTP:=oZ sQ;have HYS:=oZ hys;have HYL:=oZ hyl;obtain ⟨yr,hyr⟩:=pK (aD mj d);obtain ⟨ye,rp⟩:=pK (aC mj d c);rw [hyr] at p1 p2 sE HP4 HYS HYL;rw [rp] at p6 HSG hSE;have HYR:=oZ hyr;have HOK2:=oZ rH;have HSE2:=oZ hSE;clear sQ p4 hyl hys ey hyr rp rH hSE;by_cases hneg:ye<0
             ·as_aux_lemma =>
              have rQ:ye.sign=-1:=Int.sign_eq_neg_one_of_neg hneg;have HNG:=oZ (fun W hW=>Z16 yr tp.1 tp.2.1 tp.2.2 W hW p2 (by unfold maxLen;exact p3) HYS);have HUP0:=HSE2.out;rw [if_pos hneg,HYR.out] at HUP0;rw [rQ] at HSG;clear hneg rQ HSE2;go_wp2_with fail;refine (HSG _).mono ?_;rintro e w' ⟨rfl,rfl⟩;clear HSG p6;go_wp2_with fail;refine (HNG _ HP4).mono ?_;rintro e w8 ⟨rfl,Gk,Bc⟩;have HGN:Hid (aH (dU g0 tags) w w8):=q9.trans (Gk.weak (fun k hk hk2=>by rw [hk2];exact hbp));have BJ:Hid (dz w8 g0 tags (a8 pd d a) (mj.set d (dP yr))):=rO.grownRow d (by rw [qh.out];omega) tp HTP (dP yr) (by rw [HYR.out];unfold dP;rw [List.length_map]) Gk Bc;have yI:Hid (bH n (mj.set d (dP yr))=true):=Z6n HOK2 d (dP yr) (by unfold dP;rw [List.length_map];exact HYL) (Z6i HYS);have yK:Hid ((mj.set d (dP yr)).length=LL):=(by unfold Hid;rw [List.length_set];exact qh);obtain ⟨mN,hmN⟩:=pK (mj.set d (dP yr));have HUP:∃ z,dC c d mN d=some z/\m3=z/\p=true:=by
               rw [<- hmN];exact Z42 HUP0
              rw [hmN] at BJ yI yK;have HFN:=BJ;have HOKN:=yI;have HLNX:=yK;clear hmN BJ yI yK HUP0 Gk Bc HNG q9 rO qh p1;have x7:Hid (∃ z,dC c d mN d=some z/\m3=z/\p=true):=HUP;obtain ⟨mU,Ce,rfl,rfl⟩:=x7.out;have HU:=oZ Ce;have HLN:Hid (mN.length=LL):=HLNX;clear Ce x7;go_wp2_with fail
              go_loopw [143] (fun si wr=>∃ (i4:Nat) (mj:pM),i4<=d/\si=.int .i64 i4/\Hid (aH (dU g0 tags) w wr)/\Hid (dz wr g0 tags (a8 pd d a) mj)/\Hid (dC c d mN i4=some mj)) (fun si _=>d-(intOf si).toNat)
              case atStart=>exact ⟨0,mN,by omega,rfl,HGN,HFN,rfl⟩
              case round =>
               obtain ⟨i4,mj,Av,rfl,q9,rO,qS⟩:=hrel;obtain ⟨w4,rfl⟩:∃ w4:World,w4=wr:=⟨_,rfl⟩;obtain ⟨tF,r8,wA⟩:=oX qS Av (by rw [HLN.out];omega);have qh:Hid (mj.length=LL):=(by unfold Hid;rw [tF];exact HLN);by_cases DG:i4<d
               ·obtain ⟨z,sP⟩:=s6_ HU (i4+1) (by omega);have MS:i4<LL:=(by omega);obtain ⟨mj',nr,e1,qW,pg,e2⟩:=nE sP;rw [qS.out] at e1;obtain rfl:=o5 e1;have HXL:Hid ((aD mj i4).length=n/\(aD mj i4).all bU=true):=by
                 unfold Hid;rw [r8 i4 (by omega)];exact er HOKN i4 (by rw [HLN.out];omega)
                have HYL:Hid ((aD mj d).length=n/\(aD mj d).all bU=true):=by
                 unfold Hid;rw [r8 d (by omega)];exact er HOKN d (by rw [HLN.out];omega)
                have HST:Hid (dC c d mN (i4+1)=some (mj.set i4 nr)):=(by unfold Hid;rw [sP,e2]);clear sP e1 e2 tF r8 wA;obtain ⟨t4,s6,b1,b2,b3,b4,b5⟩:=rO.1.get i4 (by rw [qh.out];omega);obtain ⟨tp,sQ,p1,p2,p3,p4,p5⟩:=rO.1.get d (by rw [qh.out];omega);have hap:=rO.1.apart s6 sQ (by omega);have hb4:=rO.inb s6;unfold maxLen at b3 p3;have hbg:=HGB t4.1 hb4;obtain ⟨xr,qN⟩:=pK (aD mj i4);obtain ⟨yr,hyr⟩:=pK (aD mj d);rw [qN] at b1 b2 b4;rw [hyr] at p1 p2 p4;have hxl:xr.length=n:=(by rw [<- qN];exact HXL.1);have hyl:yr.length=n:=(by rw [<- hyr];exact HYL.1);have ph:c<xr.length:=(by omega);have sE:c<yr.length:=(by omega);have ex:xr[c]?=some (aC mj i4 c):=(by rw [<- qN];exact lK (by rw [qN];exact ph));have ey:yr[c]?=some (aC mj d c):=(by rw [<- hyr];exact lK (by rw [hyr];exact sE));have b6:=b4.cell c _ ex;have p6:=p4.cell c _ ey;have sK:Sz (aC mj i4 c):=eG (List.all_eq_true.1 HXL.2 _ (by rw [qN];exact og ex));have vK:Sz (aC mj d c):=eG (List.all_eq_true.1 HYL.2 _ (by rw [hyr];exact og ey));have HDM:=oZ (fun W hW=>lB (aC mj i4 c) (aC mj d c) W sK vK qW hW);rw [qN,hyr] at pg;have HLE:=oZ pg;have hz:=iL (bF (aC mj i4 c) (aC mj d c));obtain ⟨xe,sZ⟩:=pK (aC mj i4 c);obtain ⟨ye,rp⟩:=pK (aC mj d c);rw [sZ] at b6 HDM hz HLE;rw [rp] at p6 HDM hz HLE;have HXR:=oZ qN;have HYR:=oZ hyr;have HXE:=oZ sZ;have HYE:=oZ rp;have HT4:=oZ s6;have HB4:=oZ b4;have HP4:=oZ p4;have HXN:=oZ hxl;have HYN:=oZ hyl;have hb5:tp.1≠t4.1:=fun e=>hap e.symm;clear qN hyr sZ rp ex ey sK vK pg s6 sQ b4 p4 b5 p5 qW hxl hyl hap hb4
                go_upto_region 26 with fail
                go_cut [15,16,143] from 143 to 175 (fun sq sr sc wx=>sq=.string (aB (aL xe ye))/\sr=.string (aB (bF xe ye))/\sc=.int .i64 i4/\Hid (aA w4 wx))
                case first =>
                 have HE0:Hid (aA w4 w4.drew):=aA.drew w4
                 go_region_held3 (fun w'=>w'.cell? ⟨g0,i4,none⟩=some (.slice (some ⟨t4.1,t4.2.1,none⟩) xr.length t4.2.2)/\w'.cell? ⟨g0,d,none⟩=some (.slice (some ⟨tp.1,tp.2.1,none⟩) yr.length tp.2.2)/\w'.cell? ⟨t4.1,t4.2.1+c,none⟩=some (.string (aB xe))/\w'.cell? ⟨tp.1,tp.2.1+c,none⟩=some (.string (aB ye))/\Hid (aA w4 w'))
                  (first | exact ⟨z1,z2,z3,z4,z5⟩ | exact ⟨b1,p1,b6,p6,HE0⟩ | go_keep)
                  (first | (go_at_call 112;refine (HDM _ ?_).mono ?_;(exact wh _ (q9.ext (Hid.out (p:=aA w4 _) (by assumption))));rintro e w5 ⟨rfl,pV⟩;have z1:=pV.cell (a:=⟨g0,i4,none⟩) (v:=.slice (some ⟨t4.1,t4.2.1,none⟩) xr.length t4.2.2) (by assumption);have z2:=pV.cell (a:=⟨g0,d,none⟩) (v:=.slice (some ⟨tp.1,tp.2.1,none⟩) yr.length tp.2.2) (by assumption);have z3:=pV.cell (a:=⟨t4.1,t4.2.1+c,none⟩) (v:=.string (aB xe)) (by assumption);have z4:=pV.cell (a:=⟨tp.1,tp.2.1+c,none⟩) (v:=.string (aB ye)) (by assumption);have z5:Hid (aA w4 w5):=aA.trans (Hid.out (p:=aA w4 _) (by assumption)) pV))
                 all_goals (go_wp2_with fail;go_meet;exact ⟨rfl,rfl,rfl,by assumption⟩)
                case rest =>
                obtain ⟨rfl,rfl,rfl,HE5⟩:=hcut;obtain ⟨w5,rfl⟩:∃ w5:World,w5=wc:=⟨_,rfl⟩;have HG5:=oZ (q9.ext HE5);have b7:=HE5.cell b1;have p7:=HE5.cell p1;clear HDM b1 p1 b6 p6;go_wp2_with fail;refine wp_region_still_tail 9 (by kernel_rfl) (by kernel_rfl) ?_;simp only [List.take_succ_cons,List.take_zero,List.drop_succ_cons,List.drop_zero];change wpStill prog _ w5.drew _ _ _
                repeat still_step
                try refine wpStill_nil ?_
                change wpList _ _ _ _ _ w5.drew;have HE6:Hid (aA w4 w5.drew):=aA.trans HE5 (aA.drew w5);have HG6:Hid (aH (dU g0 tags) w w5.drew):=q9.ext HE6;have xo:base<=w5.drew.heap.size:=ow sG HG6.size;have HLS:=oZ (L9_ (aL xe ye) xr yr nr t4.1 t4.2.1 t4.2.2 tp.1 tp.2.1 tp.2.2 base w5.drew (HB4.ext HE6) (HP4.ext HE6) hb5 HLE b2 (by unfold maxLen;exact b3) p2 (by unfold maxLen;exact p3) (wh _ HG6) HB hbg xo);clear b7 p7;go_wp2_with fail;refine HLS.mono ?_;rintro e w7 ⟨rfl,v7,xv⟩;have Bs:Hid (dz w7 g0 tags (a8 pd d a) (mj.set i4 nr)):=(rO.ext HE6).grownRow i4 (by rw [qh.out];omega) t4 HT4 nr (by rw [HXR.out];exact lT HLE) v7 xv;have HG7:Hid (aH (dU g0 tags) w w7):=HG6.trans (v7.weak (fun k hk hk2=>by rw [hk2];exact rO.inb HT4));clear HLS v7 xv;go_wp2_with fail;go_roundw
                case rel=>exact ⟨i4+1,mj.set i4 nr,by omega,by go_num,HG7,Bs,HST⟩
                case measure=>simp [intOf];omega
               ·obtain rfl:i4=d:=(by omega);have FG:mj=m3:=(by have:=qS.out;rw [HU.out] at this;exact (o5 this).symm);subst FG;have HC3:Hid (cB n F q (c+1) (i4+1) mj=some R):=by
                 have h:=HC2.out;rw [if_pos (by first | trivial | rfl)] at h;exact h
                have HQ2:Hid (cols-(c+1)=q):=(by have:=HQ.out;unfold Hid;omega);clear HC2 tF r8 wA;go_wp2_with fail;go_roundw
                case rel=>exact ⟨c+1,i4+1,mj,a8 pd i4 a,by omega,by omega,by go_num,by go_num,q9,rO,qh,by unfold Hid;rw [HQ2.out];exact HC3⟩
                case measure=>simp [intOf];omega
             ·as_aux_lemma =>
              have HUP0:=HSE2.out;rw [if_neg hneg] at HUP0;have rQ:¬ ye.sign<0:=by
               rcases Int.lt_trichotomy ye 0 with h | h | h;·exact absurd h hneg
               ·rw [h];decide
               ·rw [Int.sign_eq_one_of_pos h];decide
              obtain ⟨sg,CE⟩:=pK ye.sign;rw [CE] at HSG rQ;clear hneg HSE2 CE;go_wp2_with fail;refine (HSG _).mono ?_;rintro e w' ⟨rfl,rfl⟩;clear HSG p6;have HGN:=q9;have HFN:=rO;have HOKN:=HOK2;have HLNX:=qh;have HUP:∃ z,dC c d mj d=some z/\m3=z/\p=true:=Z42 HUP0;obtain ⟨mN,rfl⟩:=pL mj;clear HUP0 q9 rO qh p1;have x7:Hid (∃ z,dC c d mN d=some z/\m3=z/\p=true):=HUP;obtain ⟨mU,Ce,rfl,rfl⟩:=x7.out;have HU:=oZ Ce;have HLN:Hid (mN.length=LL):=HLNX;clear Ce x7;go_wp2_with fail
              go_loopw [143] (fun si wr=>∃ (i4:Nat) (mj:pM),i4<=d/\si=.int .i64 i4/\Hid (aH (dU g0 tags) w wr)/\Hid (dz wr g0 tags (a8 pd d a) mj)/\Hid (dC c d mN i4=some mj)) (fun si _=>d-(intOf si).toNat)
              case atStart=>exact ⟨0,mN,by omega,rfl,HGN,HFN,rfl⟩
              case round =>
               obtain ⟨i4,mj,Av,rfl,q9,rO,qS⟩:=hrel;obtain ⟨w4,rfl⟩:∃ w4:World,w4=wr:=⟨_,rfl⟩;obtain ⟨tF,r8,wA⟩:=oX qS Av (by rw [HLN.out];omega);have qh:Hid (mj.length=LL):=(by unfold Hid;rw [tF];exact HLN);by_cases DG:i4<d
               ·obtain ⟨z,sP⟩:=s6_ HU (i4+1) (by omega);have MS:i4<LL:=(by omega);obtain ⟨mj',nr,e1,qW,pg,e2⟩:=nE sP;rw [qS.out] at e1;obtain rfl:=o5 e1;have HXL:Hid ((aD mj i4).length=n/\(aD mj i4).all bU=true):=by
                 unfold Hid;rw [r8 i4 (by omega)];exact er HOKN i4 (by rw [HLN.out];omega)
                have HYL:Hid ((aD mj d).length=n/\(aD mj d).all bU=true):=by
                 unfold Hid;rw [r8 d (by omega)];exact er HOKN d (by rw [HLN.out];omega)
                have HST:Hid (dC c d mN (i4+1)=some (mj.set i4 nr)):=(by unfold Hid;rw [sP,e2]);clear sP e1 e2 tF r8 wA;obtain ⟨t4,s6,b1,b2,b3,b4,b5⟩:=rO.1.get i4 (by rw [qh.out];omega);obtain ⟨tp,sQ,p1,p2,p3,p4,p5⟩:=rO.1.get d (by rw [qh.out];omega);have hap:=rO.1.apart s6 sQ (by omega);have hb4:=rO.inb s6;unfold maxLen at b3 p3;have hbg:=HGB t4.1 hb4;obtain ⟨xr,qN⟩:=pK (aD mj i4);obtain ⟨yr,hyr⟩:=pK (aD mj d);rw [qN] at b1 b2 b4;rw [hyr] at p1 p2 p4;have hxl:xr.length=n:=(by rw [<- qN];exact HXL.1);have hyl:yr.length=n:=(by rw [<- hyr];exact HYL.1);have ph:c<xr.length:=(by omega);have sE:c<yr.length:=(by omega);have ex:xr[c]?=some (aC mj i4 c):=(by rw [<- qN];exact lK (by rw [qN];exact ph));have ey:yr[c]?=some (aC mj d c):=(by rw [<- hyr];exact lK (by rw [hyr];exact sE));have b6:=b4.cell c _ ex;have p6:=p4.cell c _ ey;have sK:Sz (aC mj i4 c):=eG (List.all_eq_true.1 HXL.2 _ (by rw [qN];exact og ex));have vK:Sz (aC mj d c):=eG (List.all_eq_true.1 HYL.2 _ (by rw [hyr];exact og ey));have HDM:=oZ (fun W hW=>lB (aC mj i4 c) (aC mj d c) W sK vK qW hW);rw [qN,hyr] at pg;have HLE:=oZ pg;have hz:=iL (bF (aC mj i4 c) (aC mj d c));obtain ⟨xe,sZ⟩:=pK (aC mj i4 c);obtain ⟨ye,rp⟩:=pK (aC mj d c);rw [sZ] at b6 HDM hz HLE;rw [rp] at p6 HDM hz HLE;have HXR:=oZ qN;have HYR:=oZ hyr;have HXE:=oZ sZ;have HYE:=oZ rp;have HT4:=oZ s6;have HB4:=oZ b4;have HP4:=oZ p4;have HXN:=oZ hxl;have HYN:=oZ hyl;have hb5:tp.1≠t4.1:=fun e=>hap e.symm;clear qN hyr sZ rp ex ey sK vK pg s6 sQ b4 p4 b5 p5 qW hxl hyl hap hb4
                go_upto_region 26 with fail
                go_cut [15,16,143] from 143 to 175 (fun sq sr sc wx=>sq=.string (aB (aL xe ye))/\sr=.string (aB (bF xe ye))/\sc=.int .i64 i4/\Hid (aA w4 wx))
                case first =>
                 have HE0:Hid (aA w4 w4.drew):=aA.drew w4
                 go_region_held3 (fun w'=>w'.cell? ⟨g0,i4,none⟩=some (.slice (some ⟨t4.1,t4.2.1,none⟩) xr.length t4.2.2)/\w'.cell? ⟨g0,d,none⟩=some (.slice (some ⟨tp.1,tp.2.1,none⟩) yr.length tp.2.2)/\w'.cell? ⟨t4.1,t4.2.1+c,none⟩=some (.string (aB xe))/\w'.cell? ⟨tp.1,tp.2.1+c,none⟩=some (.string (aB ye))/\Hid (aA w4 w'))
                  (first | exact ⟨z1,z2,z3,z4,z5⟩ | exact ⟨b1,p1,b6,p6,HE0⟩ | go_keep)
                  (first | (go_at_call 112;refine (HDM _ ?_).mono ?_;(exact wh _ (q9.ext (Hid.out (p:=aA w4 _) (by assumption))));rintro e w5 ⟨rfl,pV⟩;have z1:=pV.cell (a:=⟨g0,i4,none⟩) (v:=.slice (some ⟨t4.1,t4.2.1,none⟩) xr.length t4.2.2) (by assumption);have z2:=pV.cell (a:=⟨g0,d,none⟩) (v:=.slice (some ⟨tp.1,tp.2.1,none⟩) yr.length tp.2.2) (by assumption);have z3:=pV.cell (a:=⟨t4.1,t4.2.1+c,none⟩) (v:=.string (aB xe)) (by assumption);have z4:=pV.cell (a:=⟨tp.1,tp.2.1+c,none⟩) (v:=.string (aB ye)) (by assumption);have z5:Hid (aA w4 w5):=aA.trans (Hid.out (p:=aA w4 _) (by assumption)) pV))
                 all_goals (go_wp2_with fail;go_meet;exact ⟨rfl,rfl,rfl,by assumption⟩)
                case rest =>
                obtain ⟨rfl,rfl,rfl,HE5⟩:=hcut;obtain ⟨w5,rfl⟩:∃ w5:World,w5=wc:=⟨_,rfl⟩;have HG5:=oZ (q9.ext HE5);have b7:=HE5.cell b1;have p7:=HE5.cell p1;clear HDM b1 p1 b6 p6;go_wp2_with fail;refine wp_region_still_tail 9 (by kernel_rfl) (by kernel_rfl) ?_;simp only [List.take_succ_cons,List.take_zero,List.drop_succ_cons,List.drop_zero];change wpStill prog _ w5.drew _ _ _
                repeat still_step
                try refine wpStill_nil ?_
                change wpList _ _ _ _ _ w5.drew;have HE6:Hid (aA w4 w5.drew):=aA.trans HE5 (aA.drew w5);have HG6:Hid (aH (dU g0 tags) w w5.drew):=q9.ext HE6;have xo:base<=w5.drew.heap.size:=ow sG HG6.size;have HLS:=oZ (L9_ (aL xe ye) xr yr nr t4.1 t4.2.1 t4.2.2 tp.1 tp.2.1 tp.2.2 base w5.drew (HB4.ext HE6) (HP4.ext HE6) hb5 HLE b2 (by unfold maxLen;exact b3) p2 (by unfold maxLen;exact p3) (wh _ HG6) HB hbg xo);clear b7 p7;go_wp2_with fail;refine HLS.mono ?_;rintro e w7 ⟨rfl,v7,xv⟩;have Bs:Hid (dz w7 g0 tags (a8 pd d a) (mj.set i4 nr)):=(rO.ext HE6).grownRow i4 (by rw [qh.out];omega) t4 HT4 nr (by rw [HXR.out];exact lT HLE) v7 xv;have HG7:Hid (aH (dU g0 tags) w w7):=HG6.trans (v7.weak (fun k hk hk2=>by rw [hk2];exact rO.inb HT4));clear HLS v7 xv;go_wp2_with fail;go_roundw
                case rel=>exact ⟨i4+1,mj.set i4 nr,by omega,by go_num,HG7,Bs,HST⟩
                case measure=>simp [intOf];omega
               ·obtain rfl:i4=d:=(by omega);have FG:mj=m3:=(by have:=qS.out;rw [HU.out] at this;exact (o5 this).symm);subst FG;have HC3:Hid (cB n F q (c+1) (i4+1) mj=some R):=by
                 have h:=HC2.out;rw [if_pos (by first | trivial | rfl)] at h;exact h
                have HQ2:Hid (cols-(c+1)=q):=(by have:=HQ.out;unfold Hid;omega);clear HC2 tF r8 wA;go_wp2_with fail;go_roundw
                case rel=>exact ⟨c+1,i4+1,mj,a8 pd i4 a,by omega,by omega,by go_num,by go_num,q9,rO,qh,by unfold Hid;rw [HQ2.out];exact HC3⟩
                case measure=>simp [intOf];omega
            ·rw [if_neg rH] at hSE;cases hSE
    ·rw [if_neg s9] at hS;cases hS
  ·have HR:Hid (R=(m1,d)):=by
    have:=HC.out;unfold Hid;by_cases h0:cols-c=0;·rw [h0] at this;exact (o5 this).symm
    ·obtain ⟨q,hq⟩:∃ q,cols-c=q+1:=⟨cols-c-1,by omega⟩;rw [hq] at this;unfold cB at this;rw [if_neg (by rw [HL1.out];omega)] at this;exact (o5 this).symm
   have HG:=oZ hG;clear hG HC;by_cases zT:c<cols
   ·have qy:¬ d<L:=fun h=>hlt ⟨zT,h⟩;clear hlt;go_wp2_with fail;go_ret;rw [HR.out];exact ⟨pW,rfl,HFA,HL1,hd,HG⟩
   ·clear hlt;go_wp2_with fail;go_ret;rw [HR.out];exact ⟨pW,rfl,HFA,HL1,hd,HG⟩
def cO (w:World) (base:Nat) (v:Value) (R:pM):Prop :=
 ∃ a c,v=.slice a R.length c/\R.length<=c/\c<=maxLen/\(R=[]\/∃ g tags,a=some ⟨g,0,none⟩/\bI w g tags R/\∀ b,dU g tags b->base<=b)
theorem Z0u (F cols k:Nat) (m:pM) (tags:List (Nat×Nat×Nat)) (g0 cap base:Nat) (w:World) (R:pM) (hM:bI w g0 tags m) (hrow:bH (k+cols) m=true) (hR:dj cols F cols (dp k m)=some R)
  (qY:m.length<=cap) (qD:cap<=maxLen) (hm:m.length<=1000) (qU:1<=cols) (BW:k+cols<=1000) (ht:ag w) (hb:3<base) (hg:∀ b,dU g0 tags b->base<=b) (sG:base<=w.heap.size) :
  Calls prog 292 #[.slice (some ⟨g0,0,none⟩) m.length cap,.int .i64 k,.int .i64 cols] w fun e w'=>∃ v,e=.returned v/\cO w' base v R/\Below base w w':=by
 have HM:=oZ hM;have HRW:=oZ hrow;have HR:=oZ hR;have HT:=oZ ht;have HB:=oZ hb;have HGB:=oZ hg;unfold maxLen at qD;clear hM hrow hR ht hb hg
 go_enter func292,ntmps292
 go_wp2_with fail
 go_loopw [7,12] (fun out t wr=>∃ (j:Nat) (tagsO:List (Nat×Nat×Nat)),j<=m.length/\t=.int .i64 j/\aA w wr/\Hid (eQ wr w.heap.size base out tagsO (dp k (m.take j)))/\Hid (∀ b,b∈tagsO.map (·.1)->b∈(tags.take j).map (·.1))/\Hid (out=.slice none 0 0/\dp k (m.take j)=[]\/∃ g c,out=.slice (some ⟨g,0,none⟩) (dp k (m.take j)).length c)) (fun _ t _=>m.length-(intOf t).toNat)
 case atStart=>exact ⟨0,[],by omega,rfl,aA.refl _,eQ.nil _ _ _,by intro b h;simp at h,.inl ⟨rfl,rfl⟩⟩
 case round =>
  obtain ⟨j,tagsO,hj,rfl,hE,HL,qE,HV⟩:=hrel;obtain ⟨wo,rfl⟩:∃ wo:World,wo=wr:=⟨_,rfl⟩;have HE:=oZ hE;by_cases hlt:j<m.length
  ·obtain ⟨t,zL,c1,c2,c3,c4,c5⟩:=(HM.ext hE).get j hlt;obtain ⟨hxl,hxs⟩:=er HRW j hlt;obtain ⟨xr,qN⟩:=pK (aD m j);have Ip:m[j]?=some xr:=(by rw [<- qN];exact eL hlt);rw [qN] at c1 c2 c4 hxl;have HLD:=oZ (L7_ xr t.1 t.2.1 t.2.2 wo c4 c2 c3);have HN:Hid (dp k (m.take (j+1))=dp k (m.take j)++(if (k:Int)<=ck xr then [xr.drop k] else [])):=by
    unfold Hid;rw [ou,Ip];exact r4_ k _ xr
   have HTJ:=oZ zL;have DU:Hid (∀ b,b∈(tags.take j).map (·.1)->b∈(tags.take (j+1)).map (·.1)):=fun b hb=>by
    rw [ou,List.map_append];exact List.mem_append_left _ hb
   have HC4:=oZ c4;have hkl:k<xr.length:=(by omega);have LD:¬ t.2.2=k:=(by omega);have LC:k<=t.2.2:=(by omega);unfold maxLen at c3;have HXL:=oZ hxl;have Kg:xr.length<=1000:=(by omega);clear zL c4 c5 hxs qN Ip hxl hE;by_cases hle:(k:Int)<=ck xr
   ·rw [if_pos hle] at HN;obtain ⟨ld,qy⟩:=pK (ck xr);rw [qy] at hle HLD;clear qy;go_wp2_with fail;refine HLD.mono ?_;rintro e w2 ⟨rfl,hE2⟩;have HE2:=oZ (aA.trans HE hE2);have HL2:=oZ (HL.ext hE2);have HR2:=oZ ((HC4.ext hE2).drop k);have hszr:=HE2.size;clear hE2 HLD;have GB:dU g0 tags t.1:=List.mem_cons_of_mem _ (List.mem_map.2 ⟨t,og HTJ,rfl⟩);have yQ:t.1<w.heap.size:=HM.blt GB;have HE3:Hid (base<=(ji k t).1):=HGB t.1 GB;have HE4:Hid (u7.ownBlock≠some (ji k t).1):=fun e=>by have:=(HL.own.lt t.1 e).1;omega
    have HE5:Hid ((ji k t).1∉tagsO.map (·.1)):=fun hm=>by
     have h1:=qE t.1 hm;obtain ⟨s,hs,es⟩:=List.mem_map.1 h1;obtain ⟨i,hi⟩:=List.getElem?_of_mem hs;have qH:i<j:=by
      have:=(od.1 hi).1;rw [om] at this;omega
     rw [List.getElem?_take_of_lt qH] at hi;exact HM.apart hi HTJ (by omega) es
    have HE6:Hid ((dp k (m.take j)).length<1000000):=by
     have h1:(dp k (m.take j)).length<=(m.take j).length:=(by unfold dp;rw [List.length_map];exact List.length_filter_le _ _);rw [om] at h1;unfold Hid;omega
    have HE0:Hid (#[Value.slice (some ⟨t.1,t.2.1+k,none⟩) (xr.length-k) (t.2.2-k)]=#[iO (ji k t) (xr.drop k).length]):=(by unfold Hid iO ji;rw [List.length_drop]);have Hx:Hid ((xr.drop k).length<=(ji k t).2.2):=(by show (xr.drop k).length<=t.2.2-k;rw [List.length_drop];omega);have Hw:Hid ((ji k t).2.2<=maxLen):=(by show t.2.2-k<=maxLen;unfold maxLen;omega);clear GB yQ;go_wp2_with (at_builtin;go_must (refine Z2_ _ rfl _ _ rfl w.heap.size base u7 tagsO (dp k (m.take j)) (ji k t) (xr.drop k) #[.slice (some ⟨t.1,t.2.1+k,none⟩) (xr.length-k) (t.2.2-k)] 263 rfl HL2 rfl HE0 Hx Hw HR2 HE3 HE4 HE5 HE6 hszr ?_));intro v' w5 pf hb5 vI;rw [<- HN.out] at pf;have HB5:=oZ pf;have HX5:=oZ (Below.trans HE2 hb5);have DS:Hid (∀ b,b∈(tagsO++[ji k t]).map (·.1)->b∈(tags.take (j+1)).map (·.1)):=fun b hb=>by
     rw [List.map_append] at hb;rcases List.mem_append.1 hb with hb | hb;·exact DU b (qE b hb)
     ·simp only [List.map_cons,List.map_nil,List.mem_singleton] at hb;rw [hb];refine List.mem_map.2 ⟨t,?_,rfl⟩;rw [ou,HTJ.out];simp
    have HV5:Hid (v'=.slice none 0 0/\dp k (m.take (j+1))=[]\/∃ g c,v'=.slice (some ⟨g,0,none⟩) (dp k (m.take (j+1))).length c):=by
     obtain ⟨g,c,hv⟩:=vI.out;refine .inr ⟨g,c,?_⟩;rw [hv,HN.out,pG];rfl
    clear pf hb5 vI;go_wp2_with fail;go_roundw
    case rel=>exact ⟨j+1,_,by omega,by go_num,HX5,HB5,DS,HV5⟩
    case measure=>simp [intOf];omega
   ·rw [if_neg hle,List.append_nil] at HN;obtain ⟨ld,qy⟩:=pK (ck xr);rw [qy] at hle HLD;clear qy;go_wp2_with fail;refine HLD.mono ?_;rintro e w2 ⟨rfl,hE2⟩;have HE2:=oZ (aA.trans HE hE2);have HL2:=oZ (HL.ext hE2);clear hE2 HLD;rw [<- HN.out] at HL2 HV;go_wp2_with fail;go_roundw
    case rel=>exact ⟨j+1,tagsO,by omega,by go_num,HE2,HL2,fun b hb=>DU b (qE b hb),HV⟩
    case measure=>simp [intOf];omega
  ·obtain rfl:j=m.length:=(by omega);have hL:=HL.out;have hV:=HV.out;rw [List.take_length] at hL hV;have hr:=HR.out;unfold dj at hr;cases hcl:cB cols F cols 0 0 (dp k m) with
   | none=>rw [hcl] at hr;cases hr
   | some rr =>
   obtain ⟨mf,d⟩:=rr;rw [hcl] at hr;have HRR:Hid (mf.take d=R):=o5 hr;have HCL:=oZ hcl;have sO:(dp k m).length<=m.length:=(by unfold dp;rw [List.length_map];exact List.length_filter_le _ _);rcases hV with ⟨rfl,Ca⟩ | ⟨g,cc,rfl⟩
   ·have HR0:Hid (R=[]):=by
     unfold Hid;rw [<- HRR.out];have h0:=HCL.out;rw [Ca] at h0;have:mf=[]:=by
      have hh:cB cols F cols 0 0 []=some ([],0):=by
       cases cols with
       | zero=>rfl
       | succ q=>unfold cB;rw [if_neg (by simp)]
      rw [hh] at h0;simp only [Option.some.injEq,Prod.mk.injEq] at h0;exact h0.1.symm
     rw [this];simp
    have HBW:=oZ (Below.mono HE sG);clear hL hr hcl HL qE HV hE Ca sO;go_wp2_with fail;refine r_ (Z4z cols _) ?_;go_wp2_with fail;go_ret;rw [HR0.out];exact ⟨_,rfl,⟨none,0,rfl,oz _,Nat.zero_le _,.inl rfl⟩,HBW⟩
   ·obtain ⟨rU,hc2,xn,hbb⟩:=hL.mat sG;have HBW:=oZ (Below.mono HE sG);have HFM:=oZ (v2_ cols F cols (dp k m) tagsO g cc base wo (mf,d) rU HCL hc2 xn (oz _) (by omega) (HT.ext HE) HB hbb (ow sG HE.size));have HC2:=oZ hc2;have HBB:=oZ hbb;have hszw:=HE.size;clear hL hr hcl HL qE HV hE rU hc2 hbb;go_wp2_with fail;refine HFM.mono ?_;rintro e w2 ⟨tags',rfl,y8,tq,vq,hG⟩;have HFA:=oZ y8;have HB2:Hid (Below base w w2):=Below.trans HBW (hG.below (ow sG hszw) HBB);have HLE:Hid (d<=mf.length/\mf.length<=cc):=⟨by rw [tq];exact vq,by rw [tq];exact HC2⟩;clear y8 hG HFM;go_wp2_with fail;go_ret;refine ⟨.slice (some ⟨g,0,none⟩) d cc,rfl,?_,HB2⟩;have qy:R.length=d:=(by rw [<- HRR.out,om];have:=HLE.1;omega);refine ⟨some ⟨g,0,none⟩,cc,by rw [qy],by rw [qy];have:=HLE.out;omega,xn,.inr ⟨g,tags'.take d,rfl,by rw [<- HRR.out];exact HFA.1.take d,fun b hb=>?_⟩⟩;rcases List.mem_cons.1 hb with rfl | hb;·exact HBB _ (List.mem_cons_self ..)
    ·obtain ⟨t,ht,rfl⟩:=List.mem_map.1 hb;exact HBB _ (List.mem_cons_of_mem _ (HFA.2 _ (List.mem_map.2 ⟨t,List.mem_of_mem_take ht,rfl⟩)))
theorem Z47 (n:Nat) (w:World) (hn:n<=1000) (ht:ag w) :
  Calls prog 291 #[.int .i64 n] w fun e w'=>∃ g c,e=.returned (.slice (some ⟨g,0,none⟩) n c)/\aW w' g 0 (List.replicate n 0)/\w.heap.size<=g/\n<=c/\c<=maxLen/\aA w w':=by
 obtain ⟨i0,hi,pk,hz1,hz2⟩:=info_parts jo;have HI:=oZ hi;have HZ0:=oZ pk;have HZ1:=oZ hz1;have HZ2:=oZ hz2;have HT:=oZ ht;clear hi pk hz1 hz2 ht
 go_enter func291,ntmps291
 go_wp2_with (at_make;refine wpList_make_full _ rfl _ _ 36 rfl w.heap.size 3 i0 (.int .i64 0) 1 underlying36 HI HZ0 HZ1 _ _ _ _ n rfl rfl rfl rfl ?c1 ?c2 ?c3 ?_)
 case c1=>rw [HZ2.out];omega
 case c2=>unfold maxLen;omega
 case c3=>exact oz _
 intro w1 hown pQ;have hE1:=ic pQ;have HE1:=oZ hE1;rw [n2_] at hown;have hrl:(List.replicate n (0:Int)).length=n:=by simp
 have hI:aM w1 (.slice (some ⟨w.heap.size,0,none⟩) n n) (List.replicate n 0):=by
  have h2:=hown;have h3:w1.ownsRow w.heap.size 3 1 (.slice (some ⟨w.heap.size,0,none⟩) n n) (List.replicate n (0:Int)).length ((List.replicate n (0:Int)).map (Value.int .i64)):=by rw [hrl];exact h2
  exact aM.of_owns h3 (fun x hx=>by rw [List.eq_of_mem_replicate hx];omega)
 have HL:=oZ (V7_ (List.replicate n 0) _ w1 hI (by rw [hrl];exact hn) (HT.ext hE1));rw [hrl] at HL;clear hown pQ hE1 hI hrl;go_wp2_with fail;refine HL.mono ?_;rintro e w2 ⟨g,c,rfl,hR,hg,hc,hc2,hE2⟩;have HR:=oZ hR;have HE2:=oZ (aA.trans HE1 hE2);have hgs:w.heap.size<=g:=ow HE1.size hg;clear hR hE2 HL hg;go_wp2_with fail;go_ret;exact ⟨g,c,rfl,HR,hgs,hc,hc2,HE2⟩
theorem O2_ (w:World) {ops:Array Oper} {rest:List Oper} {o:Oper} {a:Act} {Q:Exit->Act->World->Prop} (qj:o.guard=none)
  (s x:Operand) (ho:o.op=Op.call { callee:=Callee.builtin Builtin.append,args:=#[s,x],argTypes:=#[263,263] }) (base:Nat)
  (v:Value) (xs ys:pN) (hs:a.eval s=v) (hB:ai w base 92 1 v kJ xs) (g c n:Nat) (hn:ys.length=n) (hx:a.eval x=.slice (some ⟨g,0,none⟩) n c) (hR:aW w g 0 ys)
  (hlen:xs.length+n<1000000) (hpos:1<=n) (pX:base<=w.heap.size)
  (h:∀ w' gr cr,aW w' gr 0 (xs++ys)->base<=gr->xs.length+n<=cr->cr<=maxLen->Below base w w'->wpList prog ops Q rest (a.put o.dst (.slice (some ⟨gr,0,none⟩) (xs.length+n) cr)) w') :
  wpList prog ops Q (o::rest) a w:=by
 refine wpList_plain qj fun K hK=>?_;subst hn;obtain ⟨i0,hi,hz,pZ,qK⟩:=info_parts ny;have py:∀ j,(⟨g,0,none⟩:Addr).add j=⟨g,0+j,none⟩:=by intro j;unfold Addr.add;split <;> simp_all
 have hbig:=hB.bigs;refine iR w s x 263 ho base 92 i0 (.string ⟨#[]⟩) 1 16 underlying263 hi hz pZ qK rfl (by decide) v xs.length (xs.map fun x=>Value.string (aB x)) hs hbig ⟨g,0,none⟩ ys.length c (ys.map fun x=>Value.string (aB x)) hx (by simp) ?_ ?_ ?_ ?_ pX ?_
 ·intro j q hq;rw [oh] at hq;cases hy:ys[j]? with
  | none=>rw [hy] at hq;cases hq
  | some y =>
   rw [hy] at hq;rw [py,hR.cell j y hy];exact congrArg some (o5 hq)
 ·intro u hu;obtain ⟨y,-,rfl⟩:=List.mem_map.1 hu;rfl
 ·unfold maxLen;omega
 ·omega
 ·intro v' w' hown pQ _ qb;have rG:w'.ownsRow base 92 1 v' (xs++ys).length ((xs++ys).map fun x=>Value.string (aB x)):=by
   rw [pG,List.map_append];exact hown
  obtain ⟨gr,cr,rfl,-⟩:=eu rG (by rw [pG];omega);obtain ⟨k1,k2,k3,k4⟩:=aW.of_owns rG;rw [pG] at k3;rw [pG];refine hK _ _ (h w' gr cr k1 k2 k3 k4 ⟨pQ.os,pQ.tape,pQ.output,pQ.size,fun b hb=>pQ.block b (by omega) ?_⟩);intro e;have:=(hbig.lt b e.symm).1;omega
theorem Z0W (F cols:Nat) (m:pM) (ad:Option Addr) (cap:Nat) (w:World) (R:pM) (hM:m=[]\/∃ g0 tags,ad=some ⟨g0,0,none⟩/\bI w g0 tags m) (hrow:bH cols m=true) (h:pM) (hF:dj (m.length+cols) F (m.length+cols) (bK cols m)=some h) (hok:bH (m.length+cols) h=true) (hR:dj cols F cols (dp m.length h)=some R)
  (qY:m.length<=cap) (qD:cap<=maxLen) (hm:m.length+cols<=1000) (qU:1<=cols) (ht:ag w) (hb:3<w.heap.size) :
  Calls prog 215 #[.slice ad m.length cap,.int .i64 cols] w fun e w'=>∃ v,e=.returned v/\cO w' w.heap.size v R/\aA w w':=by
 have HM:=oZ hM;have HRW:=oZ hrow;have HR:=oZ hR;have HF:=oZ hF;have HOK:=oZ hok;have HT:=oZ ht;have HB:=oZ hb;unfold maxLen at qD;clear hM hrow hR ht hb hF hok
 go_enter func215,ntmps215
 go_wp2_with fail
 go_loopw [5,12] (fun out t wr=>∃ (c:Nat) (tagsO:List (Nat×Nat×Nat)),c<=cols/\t=.int .i64 c/\aA w wr/\Hid (eQ wr w.heap.size w.heap.size out tagsO ((bK cols m).take c))/\Hid (out=.slice none 0 0/\c=0\/∃ g k,out=.slice (some ⟨g,0,none⟩) c k)) (fun _ t _=>cols-(intOf t).toNat)
 case atStart=>exact ⟨0,[],by omega,rfl,aA.refl _,eQ.nil _ _ _,.inl ⟨rfl,rfl⟩⟩
 case round =>
  obtain ⟨c,tagsO,hc,rfl,hE,HL,HV⟩:=hrel;obtain ⟨wo,rfl⟩:∃ wo:World,wo=wr:=⟨_,rfl⟩;have HE:=oZ hE;by_cases hlt:c<cols
  ·have Hz:Hid ((bK cols m).take (c+1)=(bK cols m).take c++[m.map (fun r=>r.getD c 0)++(List.replicate cols (0:Int)).set c 1]):=by
    unfold Hid bK;rw [<- List.map_take,<- List.map_take,ou,List.map_append,List.getElem?_range hlt];rfl
   clear hE;go_wp2_with fail
   go_loopw [7,17] (fun r t wq=>∃ i:Nat,i<=m.length/\t=.int .i64 i/\aA wo wq/\Hid (ai wq wo.heap.size 92 1 r kJ ((m.map (fun r=>r.getD c 0)).take i))) (fun _ t _=>m.length-(intOf t).toNat)
   case atStart=>exact ⟨0,by omega,rfl,aA.refl _,⟨[],rfl,by simp,World.ownsRow_nil _ _ _ _,by simp⟩⟩
   case round =>
    obtain ⟨i,hi,rfl,yY,qi⟩:=hrel;obtain ⟨wp,rfl⟩:∃ wp:World,wp=wr:=⟨_,rfl⟩;have HEq:=oZ yY;by_cases hil:i<m.length
    ·obtain ⟨g0,tags,rfl,rU⟩:∃ g0 tags,ad=some ⟨g0,0,none⟩/\bI w g0 tags m:=by
      rcases HM.out with h0 | h0;·rw [h0] at hil;simp at hil
      ·exact h0
     obtain ⟨t,zL,c1,c2,c3,c4,c5⟩:=(rU.ext (aA.trans HE yY)).get i hil;clear rU;obtain ⟨hxl,hxs⟩:=er HRW i hil;have HN:Hid ((m.map (fun r=>r.getD c 0)).take (i+1)=(m.map (fun r=>r.getD c 0)).take i++[(aD m i).getD c 0]):=by
      unfold Hid;rw [ou,oh,eL hil];rfl
     have HJ:Hid (((m.map (fun r=>r.getD c 0)).take i).length<1000000):=(by unfold Hid;rw [om];omega);obtain ⟨xr,qN⟩:=pK (aD m i);rw [qN] at c1 c2 c4 hxl HN;have ph:c<xr.length:=(by omega);have g2:=c4.cell c (xr.getD c 0) (by rw [oe,oc ph];rfl);obtain ⟨x,hx⟩:=pK (xr.getD c 0);rw [hx] at g2 HN;unfold maxLen at c3;have hszq:=yY.size;clear zL c4 c5 hxs qN hx yY;go_wp2_with (at_builtin;go_must (refine iQ _ rfl _ _ 263 rfl wo.heap.size 92 (.string ⟨#[]⟩) 1 16 underlying263 ny rfl (by decide) u7 kJ ((m.map (fun r=>r.getD c 0)).take i) x #[.string (aB x)] 92 rfl qi.out rfl rfl ?e1 (fun _ _=>rfl) HJ.out (by decide) hszq ?_))
     case e1=>simp [Value.oneCell']
     intro v' w5 pf qz hb5 hs5 _;have pf:ai w5 wo.heap.size 92 1 v' kJ ((m.map (fun r=>r.getD c 0)).take (i+1)):=(by rw [HN.out];exact pf);have HB5:=oZ pf;have HX5:=oZ (Below.trans HEq hb5);clear pf qz hb5;go_wp2_with fail;go_roundw
     case rel=>exact ⟨i+1,by omega,by go_num,HX5,HB5⟩
     case measure=>simp [intOf];omega
    ·obtain rfl:i=m.length:=(by omega);have hB:=qi.out;rw [List.take_of_length_le (by simp)] at hB;have HBL:=oZ hB;have HEL:=oZ (aA.trans HE HEq);have HLL:=oZ (HL.ext HEq);have HZ:=oZ (Z47 cols wp (by omega) (HT.ext HEL));have hs0:=HE.size;have hs1:=HEq.size;clear hB qi yY;go_wp2_with fail;refine HZ.mono ?_;rintro e w2 ⟨gz,cz,rfl,we,D1,Nn,LZ,hE2⟩;have y9:aB 1=⟨#[49]⟩:=(by kernel_rfl);have HE3:Hid (aA wp (w2.setCell ⟨gz,c,none⟩ (.string (aB 1)))):=Below.trans hE2 ((aH.setCell (S:=(·=gz)) (aH.ofExt (aA.refl w2)) rfl c (.string (aB 1))).below hE2.size (fun k hk=>by rw [hk];exact D1));have hRS:=we.set c (by simpa using hlt) 1;have gz1:=we.cell c 0 (by rw [List.getElem?_replicate,if_pos hlt]);have gz2:=we.free c;rw [Nat.zero_add] at gz1 hRS;rw [y9] at HE3 hRS;have HRZ:=oZ hRS;have HB3:=oZ (HBL.ext HE3);have HL3:=oZ (HLL.ext HE3);have hs3:=HE3.size;clear we HZ hRS hE2;go_wp2_with (at_builtin;go_must (refine O2_ _ rfl _ _ rfl wo.heap.size u7 _ _ rfl HB3 gz cz cols ?n1 rfl HRZ ?n2 qU ?n3 ?_))
     case n1=>simp
     case n2=>simp;omega
     case n3=>omega
     intro w4 gr cr wg hgr sW AR hb4;have HR4:=oZ wg;have HE4:=oZ (Below.trans (aA.trans HEq HE3) hb4);have HEX:=oZ (aA.trans HE HE4);have HL4:=oZ (HL.ext HE4);have hszr:=HEX.size;have HLN:Hid ((m.map (fun r=>r.getD c 0)++(List.replicate cols (0:Int)).set c 1).length=m.length+cols):=(by unfold Hid;simp);have HJ:Hid (((bK cols m).take c).length=c):=(by unfold Hid bK;rw [om];simp;omega);have HV1:Hid (u5.ownBlock≠some gr):=fun e=>by have:=(HL.own.lt gr e).2;omega
     have HN1:Hid (gr∉tagsO.map (·.1)):=fun hm=>by
      obtain ⟨t,ht,e⟩:=List.mem_map.1 hm;obtain ⟨i,hi⟩:=List.getElem?_of_mem ht;have hl:i<((bK cols m).take c).length:=(by rw [<- HL.out.len];exact (od.1 hi).1);have:=(HL.row i t _ hi (oc hl)).2.2.1.lt;omega
     have HE0:Hid (#[Value.slice (some ⟨gr,0,none⟩) (m.length+cols) cr]=#[iO (gr,0,cr) (m.map (fun r=>r.getD c 0)++(List.replicate cols (0:Int)).set c 1).length]):=(by unfold Hid iO;rw [HLN.out]);have HC:Hid ((m.map (fun r=>r.getD c 0)++(List.replicate cols (0:Int)).set c 1).length<=cr):=by
      unfold Hid;rw [HLN.out];simpa using sW
     have HGR:Hid (w.heap.size<=gr):=(by unfold Hid;omega);have Ho:Hid (((bK cols m).take c).length<1000000):=(by unfold Hid;rw [HJ.out];omega);clear wg hb4 sW;go_wp2_with (at_builtin;go_must (refine Z2_ _ rfl _ _ rfl w.heap.size w.heap.size u5 tagsO ((bK cols m).take c) (gr,0,cr) (m.map (fun r=>r.getD c 0)++(List.replicate cols (0:Int)).set c 1) #[.slice (some ⟨gr,0,none⟩) (m.length+cols) cr] 263 rfl HL4 rfl HE0 HC AR HR4 HGR HV1 HN1 Ho hszr ?_));intro v' w5 pf hb5 vI;have pf:eQ w5 w.heap.size w.heap.size v' (tagsO++[(gr,0,cr)]) ((bK cols m).take (c+1)):=(by rw [Hz.out];exact pf);have HB5:=oZ pf;have HX5:=oZ (Below.trans HEX hb5);have HV5:Hid (v'=.slice none 0 0/\c+1=0\/∃ g k,v'=.slice (some ⟨g,0,none⟩) (c+1) k):=by
      obtain ⟨g,k,hv⟩:=vI.out;refine .inr ⟨g,k,?_⟩;have hj:=HJ.out;rw [om] at hj;rw [hv];first | rw [hj] | rw [HJ.out] | (simp only [om];rw [hj])
     clear pf hb5 vI;go_wp2_with fail;go_roundw
     case rel=>exact ⟨c+1,_,by omega,by go_num,HX5,HB5,HV5⟩
     case measure=>simp [intOf];omega
  ·obtain rfl:c=cols:=(by omega);have hwl:(bK c m).length=c:=(by unfold bK;simp);have hL:=HL.out;rw [List.take_of_length_le (by omega)] at hL;rcases HV.out with ⟨-,h0⟩ | ⟨g,cc,rfl⟩
   ·omega
   rw [<- hwl] at hL;have hf:=HF.out;unfold dj at hf;cases hcl:cB (m.length+c) F (m.length+c) 0 0 (bK c m) with
   | none=>rw [hcl] at hf;cases hf
   | some rr =>
   obtain ⟨mf,d⟩:=rr;rw [hcl] at hf;have HRR:Hid (mf.take d=h):=o5 hf;have yX:eQ wo w.heap.size w.heap.size (.slice (some ⟨g,0,none⟩) (bK c m).length cc) tagsO (bK c m):=by
    rw [hwl] at hL |-;exact hL
   obtain ⟨rU,hc2,xn,hbb⟩:=yX.mat (oz _);have HFM:=oZ (v2_ (m.length+c) F (m.length+c) (bK c m) tagsO g cc w.heap.size wo (mf,d) rU hcl hc2 xn (oz _) (by omega) (HT.ext HE) HB hbb HE.size);rw [hwl] at HFM hc2;have HBB:=oZ hbb;have hszw:=HE.size;clear hL yX hf hcl HL HV hE rU hbb;go_wp2_with fail;refine HFM.mono ?_;rintro e w2 ⟨tags',rfl,y8,tq,vq,hG⟩;have HFA:=oZ y8;have HB2:Hid (aA w w2):=Below.trans HE (hG.below hszw HBB);have hd:h.length=d:=by
    rw [<- HRR.out,om];have a1:mf.length=c:=tq;have a2:d<=c:=vq;omega
   have a2:d<=c:=vq
   have HBH:=oZ (Z0u F c m.length h (tags'.take d) g cc w.heap.size w2 R (by rw [<- HRR.out];exact y8.1.take d) HOK HR (by omega) xn (by omega) qU (by omega) (HT.ext HB2) HB (fun b hb=>by
    rcases List.mem_cons.1 hb with rfl | hb;·exact HBB _ (List.mem_cons_self ..)
    ·obtain ⟨t,ht,rfl⟩:=List.mem_map.1 hb
     exact HBB _ (List.mem_cons_of_mem _ (y8.2 _ (List.mem_map.2 ⟨t,List.mem_of_mem_take ht,rfl⟩)))) HB2.size)
   rw [hd] at HBH;clear y8 hG HFM;go_wp2_with fail;refine HBH.mono ?_;rintro e w3 ⟨v,rfl,C5,px⟩;have HRM:=oZ C5;have HB3:Hid (aA w w3):=Below.trans HB2 px;clear C5 px HBH;go_wp2_with fail;go_ret;exact ⟨v,rfl,HRM,HB3⟩
theorem cO.ext {w w':World} {base:Nat} {v:Value} {R:pM} (h:cO w base v R) (he:aA w w'):cO w' base v R:=by
 obtain ⟨a,c,h1,h2,h3,h4⟩:=h;refine ⟨a,c,h1,h2,h3,?_⟩;rcases h4 with h4 | ⟨g,tags,h5,h6,h7⟩
 ·exact .inl h4
 ·exact .inr ⟨g,tags,h5,h6.ext he,h7⟩
theorem cO.low {w:World} {base base':Nat} {v:Value} {R:pM} (h:cO w base v R) (hb:base'<=base):cO w base' v R:=by
 obtain ⟨a,c,h1,h2,h3,h4⟩:=h;refine ⟨a,c,h1,h2,h3,?_⟩;rcases h4 with h4 | ⟨g,tags,h5,h6,h7⟩
 ·exact .inl h4
 ·exact .inr ⟨g,tags,h5,h6,fun b ql=>ow hb (h7 b ql)⟩
theorem cO.open {w:World} {base:Nat} {v:Value} {R:pM} (h:cO w base v R):∃ a c,v=.slice a R.length c/\R.length<=c/\c<=maxLen/\(R=[]\/∃ g0 tags,a=some ⟨g0,0,none⟩/\bI w g0 tags R):=by
 obtain ⟨a,c,h1,h2,h3,h4⟩:=h;refine ⟨a,c,h1,h2,h3,?_⟩;rcases h4 with h4 | ⟨g,tags,h5,h6,-⟩
 ·exact .inl h4
 ·exact .inr ⟨g,tags,h5,h6⟩
theorem A1_ (xss:pM) (v:Value) (w:World) (h:aw w v xss) (hlen:xss.length<=1000) (hrow:∀ xs∈xss,xs.length<=1000) (ht:ag w) :
  Calls prog 131 #[v] w fun e w'=>∃ v',e=.returned v'/\cO w' w.heap.size v' xss/\aA w w':=by
 refine (g6_ xss v w h hlen hrow ht).mono fun e w' ⟨v',tags,he,hL,hv,hE⟩=>⟨v',he,?_,hE⟩
 rcases hv with ⟨rfl,rfl⟩ | ⟨g,c,rfl⟩
 ·exact ⟨none,0,rfl,oz _,by unfold maxLen;omega,.inl rfl⟩
 ·obtain ⟨h1,h2,h3,h4⟩:=hL.mat (oz _);exact ⟨_,c,rfl,h2,h3,.inr ⟨g,tags,rfl,h1,h4⟩⟩
theorem Z2s (cols:Nat) (a:Option Addr) (c:Nat) (w:World) :
  pJ 132 #[.slice a 0 c,.int .i64 cols] w (.slice a 0 c):=by
 go_enter func132,ntmps132
 go_wp2_with fail
 go_loop [5,6] (fun sd sc=>sd=.int .i64 0/\sc=.int .i64 0) (fun _ _=>0)
 case atStart=>exact ⟨rfl,rfl⟩
 case round =>
  obtain ⟨rfl,rfl⟩:=hrel;by_cases h:0<cols
  ·go_wp2_with fail;go_ret;exact ⟨rfl,rfl⟩
  ·obtain rfl:cols=0:=(by omega);go_wp2_with fail;go_ret;exact ⟨rfl,rfl⟩
theorem Z21 (n F:Nat):∀ (k c:Nat),cB n F k c 0 []=some ([],0)
 | 0,_=>rfl
 | k+1,c=>by unfold cB;rw [if_neg (by simp)]
theorem Z2q (n F k:Nat):dj n F k []=some []:=by unfold dj;rw [Z21];rfl
theorem Z2r (n F cols:Nat) (m:pM) (v:Value) (base:Nat) (w:World) (R:pM) (hM:cO w base v m) (hok:dj n F cols m=some R)
  (za:cols<=n) (xl:n<=1000000) (ht:ag w) (hb:3<base) (sG:base<=w.heap.size) :
  Calls prog 132 #[v,.int .i64 cols] w fun e w'=>∃ v',e=.returned v'/\cO w' base v' R/\Below base w w':=by
 obtain ⟨a,c,rfl,h2,h3,h4⟩:=hM;rcases h4 with rfl | ⟨g,tags,rfl,h6,h7⟩
 ·rw [Z2q] at hok;obtain rfl:=o5 hok;exact (Z2s cols a c w).mono fun e w' ⟨he,hw⟩=>⟨_,he,⟨a,c,rfl,h2,h3,.inl rfl⟩,hw▸Below.refl _ _⟩
 ·unfold dj at hok;cases hcl:cB n F cols 0 0 m with
  | none=>rw [hcl] at hok;cases hok
  | some rr =>
   obtain ⟨mf,d⟩:=rr;rw [hcl] at hok;obtain rfl:mf.take d=R:=o5 hok;refine (v2_ n F cols m tags g c base w (mf,d) h6 hcl h2 h3 za xl ht hb h7 sG).mono fun e w' ⟨tags',he,hF,hl,hd,hG⟩=>⟨_,he,?_,hG.below sG h7⟩
   have rK:(mf.take d).length=d:=by
    have h1:mf.length=m.length:=hl;have h2:d<=m.length:=hd;rw [om];omega
   refine ⟨_,c,by rw [rK],by rw [rK];exact ow hd h2,h3,.inr ⟨g,tags'.take d,rfl,hF.1.take d,fun b ql=>?_⟩⟩;rcases List.mem_cons.1 ql with rfl | ql;·exact h7 _ (List.mem_cons_self ..)
   ·obtain ⟨t,ht,rfl⟩:=List.mem_map.1 ql;exact h7 _ (List.mem_cons_of_mem _ (hF.2 _ (List.mem_map.2 ⟨t,List.mem_of_mem_take ht,rfl⟩)))
theorem U8_ (cols:Nat) (m:pM) (v:Value) (base:Nat) (w:World) (hM:cO w base v m) (rC:∀ r∈m,r.all bU=true) (hl:∀ r∈m,r.length<=1000)
  (hm:m.length<=1000) (hc:cols<=1000) (pT:b9 w) :
  Calls prog 133 #[v,.int .i64 cols] w (ew cols m w):=by
 obtain ⟨a,c,rfl,h2,h3,h4⟩:=hM.open;exact Z0Y cols m a c w h4 rC hl h2 h3 hm hc pT
theorem g3_ (F cols:Nat) (m:pM) (v:Value) (base:Nat) (w:World) (R:pM) (hM:cO w base v m) (hrow:bH cols m=true) (h:pM) (hF:dj (m.length+cols) F (m.length+cols) (bK cols m)=some h) (hok:bH (m.length+cols) h=true) (hR:dj cols F cols (dp m.length h)=some R)
  (hm:m.length+cols<=1000) (qU:1<=cols) (ht:ag w) (hb:3<w.heap.size) :
  Calls prog 215 #[v,.int .i64 cols] w fun e w'=>∃ v',e=.returned v'/\cO w' w.heap.size v' R/\aA w w':=by
 obtain ⟨a,c,rfl,h2,h3,h4⟩:=hM.open;exact Z0W F cols m a c w R h4 hrow h hF hok hR h2 h3 hm qU ht hb
theorem Z6m (n:Nat) (F:Nat) (xss R:pM) (v:Value) (w:World) (h:aw w v xss) (hE:dJ n xss=0) (hF:dj n F n xss=some R) (rC:∀ r∈R,r.all bU=true) (hl:∀ r∈R,r.length<=1000) (hm:R.length<=1000) (pT:b9 w) (hb:3<w.heap.size) :
  Calls prog 47 #[.int .i64 n,v] w (ew n R w):=by
 have HB:=oZ hb;obtain ⟨e0,e1,e2,e3⟩:=kX hE;have HC:=oZ (fun W (hW:aA w W)=>N2_ xss n v W (h.ext hW));rw [hE] at HC;have HLO:=oZ (fun W (hW:aA w W)=>A1_ xss v W (h.ext hW) (by omega) (fun xs hx=>by have:=(e3 xs hx).2;omega) (pT.pow.ext hW));have HFO:=oZ (fun W v base (hM:cO W base v xss) (hW:aA w W) (hbb:3<base) (sG:base<=W.heap.size)=>Z2r n F n xss v base W R hM hF (oz _) (by omega) (pT.pow.ext hW) hbb sG);have HS:=oZ (fun W v base (hM:cO W base v R) (hW:aA w W)=>U8_ n R v base W hM rC hl hm (by omega) (pT.ext hW));obtain ⟨a,c,rfl,h1,h2,-,hc⟩:=ae.open h;clear h hc hE hF rC hl hm pT e0 e1 e2 e3 hb
 go_enter func47,ntmps47
 obtain ⟨W1,pc,hE1,hs1,hb1⟩:=eC w (.int .i64 0) (.slice none 0 0);have HB1:=oZ hb1;have HE1:=oZ hE1;clear hE1 hb1;go_wp2_with fail;refine (HC _ HE1).mono ?_;rintro e w2 ⟨rfl,hE2⟩;have HE2:=oZ (HE1.trans hE2);have HK2:=oZ (aF HB1 hE2);clear hE2 HC;go_wp2_with fail;refine (HLO _ HE2).mono ?_;rintro e w3 ⟨v3,rfl,xx,pS⟩;have HM3:=oZ xx;have HE3:=oZ (HE2.trans pS);have HK3:=oZ (aF HK2 pS);have tQ:Hid (w.heap.size+1<=w2.heap.size/\w2.heap.size<=w3.heap.size):=⟨by have:=cG HK2;omega,pS.size⟩;clear pS HLO xx;go_wp2_with fail;refine (HFO _ _ w2.heap.size HM3 HE3 (by have:=HB.out;have:=tQ.1;omega) tQ.2).mono ?_;rintro e w4 ⟨v4,rfl,Be,hb4⟩;have HM4:=oZ Be;have HE4:Hid (aA w w4):=Below.trans HE3 (Below.mono hb4 HE2.size);have KH:Hid (w4.heap[w.heap.size]?=some (.cells #[.int .i64 0,.slice none 0 0] 76 (0,0))):=(hb4.block w.heap.size (by have:=tQ.1;omega)).trans HK3;clear Be hb4 HFO;go_wp2_with fail;refine (HS _ _ _ HM4 HE4).mono ?_;rintro e w5 ⟨hr,pV⟩;have HSW:Hid (w.heap.size<w4.heap.size):=cG KH;have HE5:=oZ (HE4.trans pV);have hk5:=aF KH pV;obtain ⟨r0,r1,rf⟩:=bY hk5;have f0:=rf 0;have f1:=rf 1;clear rf HS pV;by_cases hf:(R.all fun r=>r.all dX)=true
 ·rw [if_pos hf] at hr;obtain ⟨u,rfl,hu⟩:=hr;obtain ⟨au,cu,rfl,u1,u2,-,-⟩:=ae.open hu.now;have HU:=oZ hu;have HFF:=oZ hf;have hkA:=fU hk5 (.int .i64 n) (.slice au R.length cu);have HX:=oZ (ei HE5 (oz w.heap.size) (.int .i64 n) (.slice au R.length cu));clear hu hf;go_wp2_with fail;refine bodyPost_ret (jz (by rfl) _ _ w.heap.size 76 #[.int .i64 n,.slice au R.length cu] (0,0) _ (by rfl) hkA underlying76 (by rfl) (by kernel_rfl)) (by rfl) ?_;unfold ew;rw [if_pos HFF.out];refine ⟨⟨_,rfl,?_⟩,HX⟩;refine HU.grow (aH.setCell (aH.setCell (aH.refl _ _) ?_ 0 _) ?_ 1 _) fun k hk=>.inl ?_;·exact HSW
  ·exact HSW
  ·exact Nat.lt_trans hk HSW
 ·rw [if_neg hf] at hr;subst hr;have HFF:=oZ hf;have hkA:=fU hk5 (.int .i64 0) (.slice none 0 0);have HX:=oZ (ei HE5 (oz w.heap.size) (.int .i64 0) (.slice none 0 0));clear hf;go_wp2_with fail;refine bodyPost_ret (jz (by rfl) _ _ w.heap.size 76 #[.int .i64 0,.slice none 0 0] (0,0) _ (by rfl) hkA underlying76 (by rfl) (by kernel_rfl)) (by rfl) ?_;unfold ew;rw [if_neg HFF.out];exact ⟨rfl,HX⟩
end Go.Proofs.YtoonaddcfakamaaGreatDoor
namespace Go.Proofs.YtoonaddcfakamaaGreatDoor
open Go.RowKit Go.Shelf Go.Proofs.Tryz
attribute [local go_sem] Oper.semAt_some
def Z80 (xss:pM) (i:Nat) (A W:World) (args:Array Value):Prop :=
 ∃ x gx cx,xss[i]?=some x/\args=#[.int .i64 (ck x),.slice (some ⟨gx,0,none⟩) x.length cx]/\aW W gx 0 x/\A.heap.size<=gx/\x.length<=cx/\cx<=maxLen
theorem z4_ (k:Nat) (hk:1<=k) (n:Int) (xss:pM) (v:Value) (bL:Nat) (w w6:World) (hL:w6.heap[bL]?=some (.cells #[.int .i64 n,v] 76 (0,0))) (hR:aw w v xss) (hlen:∀ x∈xss,x.length<=1000) (ht:ag w) :
  J0_ Fence.wide k prog 293 #[.pointer (some ⟨bL,0,none⟩)] xss.length (Z80 xss) (fun W=>aA w6 W) (fun W=>aA w W):=by
 intro l J W hW hJ Je hY h0;have HJ:=oZ hJ;have HJX:=oZ Je;have HY:=oZ hY;have H0:=oZ h0;have HLEN:=oZ hlen;have HT:=oZ ht;obtain ⟨a,c,rfl,h1,h2,-,hc⟩:=ae.open hR;have HC:=oZ hc;obtain ⟨e0,e1,-⟩:=bY (aF hL hW);unfold maxLen at h2;clear hL hR hJ Je hY h0 hlen ht hc;refine callsIn_of_wp func293 rfl trivial ?_ rfl;simp only [ntmps293,List.size_toArray,List.length_cons,List.length_nil,Nat.reduceAdd,Nat.reduceSub,Array.replicate_succ,Array.replicate_zero,List.push_toArray,List.append_toArray,List.nil_append,List.cons_append]
 gi_wp2_with fail
 gi_loopw [9] (fun t wr=>∃ i:Nat,i<=xss.length/\t=.int .i64 i/\Hid (J i wr)) (fun t _=>xss.length-(intOf t).toNat)
 case atStart=>exact ⟨0,by omega,rfl,H0⟩
 case round =>
  obtain ⟨i,hi,rfl,Hm⟩:=hrel;obtain ⟨wo,rfl⟩:∃ wo:World,wo=wr:=⟨_,rfl⟩;clear e0 e1;by_cases hlt:i<xss.length
  ·obtain ⟨x,hx⟩:∃ x,xss[i]?=some x:=⟨_,oc hlt⟩;obtain ⟨b,off,rfl,hb,pP⟩:=HC (by intro e;simp [e] at hlt);obtain ⟨vx,qc,ph⟩:=pP i x hx;have HEX:=oZ (HJX i wo Hm);have g1:=HEX.cell ph;have HXL:=oZ (HLEN x (og hx));have HLO:=oZ (V7_ x vx wo (qc.ext HEX) HXL (HT.ext HEX));obtain ⟨ax,cx,rfl,x1,x2,-,-,-⟩:=qc.open;have HX:=oZ hx;unfold maxLen at x2;clear hx pP qc ph
   gi_wp2_with fail
   refine ⟨trivial,(callsIn_wide.2 HLO).mono ?_⟩;rintro e w1 ⟨gx,cg,rfl,r7,hgx,JA,AS,hE1⟩;have HE1:=oZ hE1;have HR1:=oZ r7;have HLD:=oZ (L7_ x gx 0 cg w1 r7 JA AS);have HGX:=oZ hgx;have HCG:=oZ (And.intro JA AS);unfold maxLen at AS;clear hE1 r7 HLO hgx
   gi_wp2_with fail
   refine ⟨trivial,(callsIn_wide.2 HLD).mono ?_⟩;rintro e w2 ⟨rfl,hE2⟩;have HE2:=oZ (aA.trans HE1 hE2);obtain ⟨fn,tmps,assign,body,EV,hR⟩:=HY i wo w2 _ hlt Hm HE2 ⟨x,gx,cg,HX,rfl,HR1.ext hE2,HGX,HCG.1,HCG.2⟩;clear hE2 HLD
   gi_wp2_with fail
   refine hR.mono ?_;rintro e W3 ⟨rfl,DA⟩;have HJ3:=oZ DA;clear hR EV DA
   gi_wp2_with fail
   go_roundw
   case rel=>exact ⟨i+1,by omega,by go_num,HJ3⟩
   case measure=>simp [intOf];omega
  ·obtain rfl:i=xss.length:=by omega
   gi_wp2_with fail
   refine bodyPost_end (results_none rfl _ _ _) rfl ⟨⟨_,rfl⟩,Hm⟩
end Go.Proofs.YtoonaddcfakamaaGreatDoor
namespace Go.Proofs.YtoonaddcfakamaaGreatDoor
open Go.RowKit Go.Proofs.Tryz
section
variable {P:Program} {ops:Array Oper} {Q:Exit->Act->World->Prop} {md:Region.Mode} {S:World->Prop} {z:Nat}
def bQ (P:Program) (md:Region.Mode) (ops:Array Oper) (Q:Exit->Act->World->Prop) (S:World->Prop) (z:Nat):Nat->Array Bool->Act->World->Prop
 | 0,l,a,w=>Region.ready md ops l=[]/\Q .normal a w
 | f+1,l,a,w=>(Region.ready md ops l=[]->Q .normal a w) /\
  ∀ i∈Region.ready md ops l,wpOp P ops Q i (fun b u=>((l.setIfInBounds i true).getD z false=false->S u)/\bQ P md ops Q S z f (l.setIfInBounds i true) b u) a w
theorem x7_:∀ (f:Nat) (l:Array Bool) (a:Act) (w:World),bQ P md ops Q S z f l a w->wpAny P md ops Q f l a w
 | 0,_,_,_,h=>h
 | f+1,l,_,_,h=>⟨h.1,fun i hi=>wpOp_mono (fun b u hb=>x7_ f (l.setIfInBounds i true) b u hb.2) (h.2 i hi)⟩
def mB (md:Region.Mode) (ops:Array Oper) (l:Array Bool):Prop:=∀ j o,ops[j]?=some o->l.getD j false=true->∀ e∈o.after,Region.binds md e=true->l.getD e.on false=true
def nX (md:Region.Mode) (ops:Array Oper) (l:Array Bool):Bool:=(List.range ops.size).all fun j=>!(l.getD j false) || match ops[j]? with
 | some o=>o.after.all fun e=>!(Region.binds md e) || l.getD e.on false
 | none=>true
theorem O4_ {l:Array Bool} (h:nX md ops l=true):mB md ops l:=by
 intro j o ho hl e he hb;have h1:=List.all_eq_true.1 h j (List.mem_range.2 (Array.getElem?_eq_some_iff.1 ho).1);simp only [ho,hl,Bool.not_true,Bool.false_or] at h1;have h2:=Array.all_eq_true_iff_forall_mem.1 h1 e he;simpa [hb] using h2
theorem mB.step {l:Array Bool} (h:mB md ops l) {j:Nat} (hj:j∈Region.ready md ops l):mB md ops (l.setIfInBounds j true):=by
 intro k o ho hl e he hb;by_cases hk:j=k
 ·subst hk;obtain ⟨-,o',Dt,hall⟩:=mem_ready.1 hj;obtain rfl:o'=o:=o5 (Dt.symm.trans ho);exact getD_set_true (hall e he hb)
 ·rw [getD_set_ne false hk] at hl;exact getD_set_true (h k o ho hl e he hb)
def gu (md:Region.Mode) (ops:Array Oper):Nat->Nat->Nat->Bool
 | 0,_,_=>false
 | f+1,a,i=>match ops[a]? with
  | some o=>o.after.any fun e=>Region.binds md e && (e.on == i || gu md ops f e.on i)
  | none=>false
theorem Y0_ {l:Array Bool} (hc:mB md ops l) {i:Nat}:∀ (f a:Nat) (o:Oper),ops[a]?=some o->gu md ops f a i=true->(∀ e∈o.after,Region.binds md e=true->l.getD e.on false=true)->l.getD i false=true
 | 0,_,_,_,h,_=>by cases h
 | f+1,a,o,ho,h,hall=>by
  simp only [gu,ho] at h;obtain ⟨e,he,hb⟩:=Array.any_eq_true'.1 h;simp only [Bool.and_eq_true,Bool.or_eq_true,beq_iff_eq] at hb;have hl:=hall e he hb.1;rcases hb.2 with h1 | h1;·rw [<- h1];exact hl
  ·cases hq:ops[e.on]? with
   | none=>cases f with
    | zero=>cases h1
    | succ f=>simp only [gu,hq] at h1;cases h1
   | some p=>exact Y0_ hc f e.on p hq h1 fun d hd hbd=>hc e.on p hq hl d hd hbd
theorem N8_ {l:Array Bool} {i:Nat} (h:(l.setIfInBounds i true).getD z false=false):l.getD z false=false:=by
 cases e:l.getD z false;·rfl
 ·rw [getD_set_true e] at h;cases h
theorem P4_ {l:Array Bool} {i:Nat} (ui:l.getD i true=false):l.getD i false=false:=by
 by_cases hs:i<l.size;·simp [hs] at ui |-;exact ui
 ·simp [Array.getElem?_eq_none (Nat.le_of_not_lt hs)]
theorem D2_ {i n:Nat} {oi:Oper} {v:Value} (hi:ops[i]?=some oi) (tb:∀ (j:Nat) (o:Oper) cs b,ops[j]?=some o->o.op≠.select cs b)
  (hQ:∀ c a w,Q (.panic c) (a.put oi.dst v) w->Q (.panic c) a w) (hz:gu md ops n z i=true) (f:Nat) :
  ∀ (l:Array Bool) (a:Act) (w:World),
   (∀ j oj,ops[j]?=some oj->j≠i->l.getD j true=false->(∀ e∈oj.after,Region.binds md e=true->e.on≠i)->oi.apart ops oj=true) ->
   mB md ops l->i∈Region.ready md ops l->YieldsIf P ops S oi v a->S w ->
   bQ P md ops Q S z f (l.setIfInBounds i true) (a.put oi.dst v) w->bQ P md ops Q S z (f+1) l a w:=by
 induction f with
 | zero =>
  intro l a w _ _ hr hy hS H;refine ⟨(fun e=>by rw [e] at hr;cases hr),fun j hj=>?_⟩;by_cases e:j=i;·rw [e];exact hy.wpOp hi hS ⟨fun _=>hS,H⟩
  ·have:=ready_mono hj e;rw [H.1] at this;cases this
 | succ f ih =>
  intro l a w qu hcl hr hy hS H;refine ⟨(fun e=>by rw [e] at hr;cases hr),fun j hj=>?_⟩;by_cases e:j=i;·rw [e];exact hy.wpOp hi hS ⟨fun _=>hS,H⟩
  have wE:i≠j:=fun x=>e x.symm;have un:=(mem_ready.1 hj).1;obtain ⟨oj,wX,hall⟩:=(mem_ready.1 hj).2;have ui:=(mem_ready.1 hr).1;have uf:l.getD i false=true->False:=fun hc=>by rw [P4_ ui] at hc;cases hc
  have LH:j≠z:=fun ET=>by
   subst ET;exact uf (Y0_ hcl n j oj wX hz hall)
  have FW:i≠z:=fun ET=>by
   subst ET;obtain ⟨o2,ho2,Cw⟩:=(mem_ready.1 hr).2;exact uf (Y0_ hcl n i o2 ho2 hz Cw)
  have Dl:l.getD z false=false:=by
   cases e2:l.getD z false;·rfl
   ·exfalso;cases hq:ops[z]? with
    | none=>cases n with
     | zero=>cases hz
     | succ n=>simp only [gu,hq] at hz;cases hz
    | some o3=>exact uf (Y0_ hcl n z o3 hq hz fun d hd hbd=>hcl z o3 hq e2 d hd hbd)
  have xN:∀ d∈oj.after,Region.binds md d=true->d.on≠i:=fun d hd hb sV=>uf (by have:=hall d hd hb;rwa [sV] at this);have step:=wpOp_putIf wX (qu j oj wX e un xN) (fun cs b=>tb i oi cs b hi) (fun cs b=>tb j oj cs b wX) hQ hy (H.2 j (ready_mono hj e));refine wpOp_mono (fun b u hb=>?_) step;obtain ⟨ry,vd,qF⟩:=hb;have zg:S u:=vd (by rw [getD_set_ne false LH,getD_set_ne false FW];exact Dl);refine ⟨fun _=>zg,ih (l.setIfInBounds j true) b u (fun k ok hk Cj zJ hn=>?_) (hcl.step hj) (ready_mono hr wE) ry zg ?_⟩
  ·refine qu k ok hk Cj ?_ hn;by_cases zV:j=k;·rw [<- zV];exact un
   ·rw [getD_set_ne true zV] at zJ;exact zJ
  ·rw [Array.setIfInBounds_comm _ _ e];exact qF
theorem i1_ {i:Nat} {oi:Oper} {v:Value} (hi:ops[i]?=some oi) (tb:∀ (j:Nat) (o:Oper) cs b,ops[j]?=some o->o.op≠.select cs b)
  (hQ:∀ c a w,Q (.panic c) (a.put oi.dst v) w->Q (.panic c) a w) (FW:i≠z) (f:Nat) :
  ∀ (l:Array Bool) (a:Act) (w:World),
   (∀ j oj,ops[j]?=some oj->j≠i->l.getD j true=false->(∀ e∈oj.after,Region.binds md e=true->e.on≠i)->oi.apart ops oj=true) ->
   i∈Region.ready md ops l->Yields P ops oi v a->(l.getD z false=false->S w) ->
   bQ P md ops Q S z f (l.setIfInBounds i true) (a.put oi.dst v) w->bQ P md ops Q S z (f+1) l a w:=by
 induction f with
 | zero =>
  intro l a w _ hr hy hS H;refine ⟨(fun e=>by rw [e] at hr;cases hr),fun j hj=>?_⟩;by_cases e:j=i;·rw [e];exact hy.wpOp hi ⟨fun h=>hS (N8_ h),H⟩
  ·have:=ready_mono hj e;rw [H.1] at this;cases this
 | succ f ih =>
  intro l a w qu hr hy hS H;refine ⟨(fun e=>by rw [e] at hr;cases hr),fun j hj=>?_⟩;by_cases e:j=i;·rw [e];exact hy.wpOp hi ⟨fun h=>hS (N8_ h),H⟩
  have wE:i≠j:=fun x=>e x.symm;have un:=(mem_ready.1 hj).1;obtain ⟨oj,wX,hall⟩:=(mem_ready.1 hj).2;have ui:=(mem_ready.1 hr).1;have uf:l.getD i false=true->False:=fun hc=>by rw [P4_ ui] at hc;cases hc
  have xN:∀ d∈oj.after,Region.binds md d=true->d.on≠i:=fun d hd hb sV=>uf (by have:=hall d hd hb;rwa [sV] at this);have step:=wpOp_put wX (qu j oj wX e un xN) (fun cs b=>tb i oi cs b hi) (fun cs b=>tb j oj cs b wX) hQ hy (H.2 j (ready_mono hj e));refine wpOp_mono (fun b u hb=>?_) step;obtain ⟨ry,vd,qF⟩:=hb;have zg:(l.setIfInBounds j true).getD z false=false->S u:=fun h=>vd (by rw [Array.setIfInBounds_comm _ _ wE,getD_set_ne false FW];exact h);refine ⟨zg,ih (l.setIfInBounds j true) b u (fun k ok hk Cj zJ hn=>?_) (ready_mono hr wE) ry zg ?_⟩
  ·refine qu k ok hk Cj ?_ hn;by_cases zV:j=k;·rw [<- zV];exact un
   ·rw [getD_set_ne true zV] at zJ;exact zJ
  ·rw [Array.setIfInBounds_comm _ _ e];exact qF
theorem r2_ (i:Nat) {oi:Oper} {v:Value} {f:Nat} {l:Array Bool} {a:Act} {w:World} (hi:ops[i]?=some oi)
  (hs:Region.noSelect ops=true) (hc:nX md ops l=true) (hf:Region.free md ops l i=true) (hr:(Region.ready md ops l).contains i=true) (hz:gu md ops 40 z i=true)
  (hQ:∀ c a w,Q (.panic c) (a.put oi.dst v) w->Q (.panic c) a w) (hy:YieldsIf P ops S oi v a) (hS:S w)
  (h:bQ P md ops Q S z f (l.setIfInBounds i true) (a.put oi.dst v) w):bQ P md ops Q S z (f+1) l a w :=
 D2_ hi (Region.noSelect_spec hs) hQ hz f l a w (Region.free_spec hi hf) (O4_ hc) (by simpa using hr) hy hS h
theorem R8_ (i:Nat) {oi:Oper} {v:Value} {f:Nat} {l:Array Bool} {a:Act} {w:World} (hi:ops[i]?=some oi)
  (hs:Region.noSelect ops=true) (hf:Region.free md ops l i=true) (hr:(Region.ready md ops l).contains i=true) (hz:i≠z)
  (hQ:∀ c a w,Q (.panic c) (a.put oi.dst v) w->Q (.panic c) a w) (hy:Yields P ops oi v a) (hS:S w)
  (h:bQ P md ops Q S z f (l.setIfInBounds i true) (a.put oi.dst v) w):bQ P md ops Q S z (f+1) l a w :=
 i1_ hi (Region.noSelect_spec hs) hQ hz f l a w (Region.free_spec hi hf) (by simpa using hr) hy (fun _=>hS) h
theorem dH (i:Nat) {o:Oper} {f:Nat} {l:Array Bool} {a:Act} {w:World} (hr:Region.ready md ops l=[i]) (ho:ops[i]?=some o)
  (h:∀ K:Act->World->Prop,Shut (∀ b u,S u->(S u->bQ P md ops Q S z f (l.setIfInBounds i true) b u)->K b u)->if Region.wanted o (yielded ops a.tmps)=true then Oper.wp P o a w K Q else K (a.put o.dst undef) w):bQ P md ops Q S z (f+1) l a w:=by
 refine ⟨(fun e=>by rw [hr] at e;cases e),fun j hj=>?_⟩;obtain rfl:j=i:=by rw [hr] at hj;simpa using hj
 exact wpOp_step ho fun K hK=>h K fun b u hS qF=>hK b u ⟨fun _=>hS,qF hS⟩
theorem D4_ (i:Nat) {o:Oper} {f:Nat} {l:Array Bool} {a:Act} {w:World} (hr:Region.ready md ops l=[i]) (hz:(l.setIfInBounds i true).getD z false=true) (ho:ops[i]?=some o)
  (h:∀ K:Act->World->Prop,Shut (∀ b u,bQ P md ops Q S z f (l.setIfInBounds i true) b u->K b u)->if Region.wanted o (yielded ops a.tmps)=true then Oper.wp P o a w K Q else K (a.put o.dst undef) w):bQ P md ops Q S z (f+1) l a w:=by
 refine ⟨(fun e=>by rw [hr] at e;cases e),fun j hj=>?_⟩;obtain rfl:j=i:=by rw [hr] at hj;simpa using hj
 exact wpOp_step ho fun K hK=>h K fun b u qF=>hK b u ⟨(fun e=>by rw [hz] at e;cases e),qF⟩
theorem fL (i:Nat) {o:Oper} {f:Nat} {l:Array Bool} {a:Act} {w:World} (hr:Region.ready md ops l=[i]) (pn:Region.ready md ops (l.setIfInBounds i true)=[]) (hz:(l.setIfInBounds i true).getD z false=true) (ho:ops[i]?=some o)
  (h:∀ K:Act->World->Prop,Shut (∀ b u,Q .normal b u->K b u)->if Region.wanted o (yielded ops a.tmps)=true then Oper.wp P o a w K Q else K (a.put o.dst undef) w):bQ P md ops Q S z (f+1) l a w:=by
 refine ⟨(fun e=>by rw [hr] at e;cases e),fun j hj=>?_⟩;obtain rfl:j=i:=by rw [hr] at hj;simpa using hj
 refine wpOp_step ho fun K hK=>h K fun b u hq=>hK b u ⟨(fun e=>by rw [hz] at e;cases e),?_⟩;cases f with
 | zero=>exact ⟨pn,hq⟩
 | succ f=>exact ⟨fun _=>hq,by rw [pn];simp⟩
theorem iq (S:World->Prop) (z:Nat) {id:Nat} {a:Act} {w:World} (hm:P.follows .mixedOrders=true) (hS:S w.drew)
  (h:S w.drew->bQ P .any ops Q S z ops.size (Array.replicate ops.size false) a w.drew):(Code.region id ops true).wp P Q a w :=
 wp_region_any hm (x7_ _ _ _ _ (h hS))
end
end Go.Proofs.YtoonaddcfakamaaGreatDoor
namespace Go.Proofs.YtoonaddcfakamaaGreatDoor
open Go.RowKit Go.Shelf Go.Proofs.Tryz
theorem Oper.wpIn_of_wp {P:Program} {l n:Nat} {o:Oper} {a:Act} {w:World} {K:Act->World->Prop} {Q:Exit->Act->World->Prop} (h1:∀ c,o.op≠.defer c) (h:o.wp P a w K Q):o.wpIn (Fence.wide.inRound l) n P a w K Q:=by
 unfold Oper.wp at h;unfold Oper.wpIn;refine ⟨fun _ _=>trivial,?_⟩;rw [show (Fence.wide.inRound l).round=some l from rfl,Oper.semAt_eq _ _ _ h1];generalize (execOp a.eval o).run P w=r at *
 have hd:(Fence.wide.inRound l).depth.isSome=true->1<=n:=fun e=>by simp [Fence.wide] at e
 cases r with
 | ok x w' =>
  cases x with
  | enter f args=>exact ⟨hd,CallsIn.inRound l (callsIn_wide.2 h)⟩
  | row r args =>
   refine ⟨hd,fun c cs _=>?_⟩;obtain ⟨v,w2,hr,hs⟩:=h c cs;exact ⟨v,w2,hr,stepsIn_wide.2 hs⟩
  | _=>first | exact h | exact False.elim h
 | halt x w'=>cases x <;> first | exact h | exact False.elim h
def u4_ (ops:Array Oper):Bool:=ops.all fun o=>match o.op with | .defer _=>false | _=>true
theorem m2_ {ops:Array Oper} (h:u4_ ops=true) {i:Nat} {o:Oper} (hi:ops[i]?=some o):∀ c,o.op≠.defer c:=by
 intro c hc;have:=Array.all_eq_true_iff_forall_mem.1 h o (Array.mem_of_getElem? hi);rw [hc] at this;cases this
theorem D0_ {P:Program} {l n:Nat} {ops:Array Oper} {Q:Exit->Act->World->Prop} (hn:u4_ ops=true) (hq:¬ LetsOut Q) {i:Nat} {K:Act->World->Prop} {a:Act} {w:World} (h:wpOp P ops Q i K a w):wpOpIn (Fence.wide.inRound l) n P ops Q i K a w:=by
 unfold wpOp at h;unfold wpOpIn;cases hi:ops[i]? with
 | none=>simpa [hi] using h
 | some o =>
  simp only [hi] at h |-
  split
  ·rename_i hw;simp only [hw,if_true] at h;rcases h with h | ⟨-,h⟩
   ·exact Oper.wpIn_of_wp (m2_ hn hi) h
   ·exact absurd h hq
  ·rename_i hw;simp only [hw] at h;exact ⟨fun _ _=>trivial,h⟩
theorem W0_ {P:Program} {l n:Nat} {md:Region.Mode} {ops:Array Oper} {Q:Exit->Act->World->Prop} (hn:u4_ ops=true) (hq:¬ LetsOut Q):∀ (f:Nat) (ls:Array Bool) (a:Act) (w:World),wpAny P md ops Q f ls a w->wpAnyIn (Fence.wide.inRound l) n P md ops Q f ls a w
 | 0,ls,a,w,h=>h
 | f+1,ls,a,w,h=>⟨h.1,fun i hi=>D0_ hn hq (wpOp_mono (fun a w k=>W0_ hn hq f _ a w k) (h.2 i hi))⟩
theorem c0_ {P:Program} {ops:Array Oper} {Q:Exit->Act->World->Prop} {md:Region.Mode} {S:World->Prop} {z:Nat} (i j:Nat) {o p:Oper} {f:Nat} {l:Array Bool} {a:Act} {w:World} (hr:Region.ready md ops l=[i,j]) (ho:ops[i]?=some o) (hp:ops[j]?=some p)
  (h1:∀ K:Act->World->Prop,Shut (∀ b u,S u->(S u->bQ P md ops Q S z f (l.setIfInBounds i true) b u)->K b u)->if Region.wanted o (yielded ops a.tmps)=true then Oper.wp P o a w K Q else K (a.put o.dst undef) w)
  (h2:∀ K:Act->World->Prop,Shut (∀ b u,S u->(S u->bQ P md ops Q S z f (l.setIfInBounds j true) b u)->K b u)->if Region.wanted p (yielded ops a.tmps)=true then Oper.wp P p a w K Q else K (a.put p.dst undef) w):bQ P md ops Q S z (f+1) l a w:=by
 refine ⟨(fun e=>by rw [hr] at e;cases e),fun q hq=>?_⟩;rw [hr] at hq;rcases List.mem_cons.1 hq with rfl | hq;·exact wpOp_step ho fun K hK=>h1 K fun b u hS qF=>hK b u ⟨fun _=>hS,qF hS⟩
 ·obtain rfl:q=j:=by simpa using hq
  exact wpOp_step hp fun K hK=>h2 K fun b u hS qF=>hK b u ⟨fun _=>hS,qF hS⟩
theorem Z8_ {P:Program} {l n:Nat} {ops:Array Oper} {Q:Exit->Act->World->Prop} (S:World->Prop) (z:Nat) {id:Nat} {a:Act} {w:World} (hm:P.follows .mixedOrders=true) (hn:u4_ ops=true) (hq:¬ LetsOut Q) (hS:S w.drew)
  (h:S w.drew->bQ P .any ops Q S z ops.size (Array.replicate ops.size false) a w.drew):(Code.region id ops true).wpIn (Fence.wide.inRound l) n P Q a w :=
 wpIn_region_any hm (W0_ hn hq _ _ _ _ (x7_ _ _ _ _ (h hS)))
theorem Z3_ {P:Program} {l n:Nat} {ops:Array Oper} {rest:List Oper} {o:Oper} {a:Act} {w:World} {Q:Exit->Act->World->Prop} (hg:o.guard=none) (hd:∀ c,o.op≠.defer c)
  (h:∀ K:Act->World->Prop,(∀ a w,wpListIn (Fence.wide.inRound l) n P ops Q rest a w->K a w)->o.wp P a w K Q):wpListIn (Fence.wide.inRound l) n P ops Q (o::rest) a w :=
 wpListIn_plain hg fun K hK=>Oper.wpIn_of_wp hd (h K hK)
section
variable {P:Program} {ops O:Array Oper} {Q:Exit->Act->World->Prop} {md:Region.Mode} {S:World->Prop} {z n:Nat}
theorem tW (i:Nat) {oi:Oper} {v:Value} {f:Nat} {l:Array Bool} {a:Act} {w:World} (hi:ops[i]?=some oi) (hy:Yields P ops oi v a) (h:bQ P md ops Q S z f (l.setIfInBounds i true) (a.put oi.dst v) w) (hS:S w:=by assumption) (hs:Region.noSelect ops=true:=by kernel_rfl) (hf:Region.free md ops l i=true:=by kernel_rfl) (hr:(Region.ready md ops l).contains i=true:=by kernel_rfl) (hz:i≠z:=by decide) (hQ:∀ c a w,Q (.panic c) (a.put oi.dst v) w->Q (.panic c) a w:=by exact fun _ _ _ h=>h):bQ P md ops Q S z (f+1) l a w:=R8_ i hi hs hf hr hz hQ hy hS h
theorem tL (i:Nat) {oi:Oper} {v:Value} {f:Nat} {l:Array Bool} {a:Act} {w:World} (hi:ops[i]?=some oi) (hy:YieldsIf P ops S oi v a) (h:bQ P md ops Q S z f (l.setIfInBounds i true) (a.put oi.dst v) w) (hS:S w:=by assumption) (hs:Region.noSelect ops=true:=by kernel_rfl) (hc:nX md ops l=true:=by kernel_rfl) (hf:Region.free md ops l i=true:=by kernel_rfl) (hr:(Region.ready md ops l).contains i=true:=by kernel_rfl) (hz:gu md ops 40 z i=true:=by kernel_rfl) (hQ:∀ c a w,Q (.panic c) (a.put oi.dst v) w->Q (.panic c) a w:=by exact fun _ _ _ h=>h):bQ P md ops Q S z (f+1) l a w:=r2_ i hi hs hc hf hr hz hQ hy hS h
end
section
variable {P:Program} {ops O:Array Oper} {Q:Exit->Act->World->Prop} {md:Region.Mode} {S:World->Prop} {z n:Nat}
def jf (is:List Nat) (p:Prop):Prop:=p
def Z7p (ops:Array Oper) (i:Nat) (oi:Oper) (is:List Nat) (p:Prop):Prop:=ops[i]?=some oi->p
theorem rA (is:List Nat) {p:Prop} (h:jf is p):p:=h
theorem rE {p:Prop} (h:p):jf [] p:=h
theorem rW {i:Nat} {is:List Nat} {oi:Oper} {v:Value} {f:Nat} {l:Array Bool} {a:Act} {w:World} (hi:ops[i]?=some oi) (hy:Yields P ops oi v a) (h:jf is (bQ P md ops Q S z f (l.setIfInBounds i true) (a.put oi.dst v) w)) (hS:S w:=by assumption) (hs:Region.noSelect ops=true:=by kernel_rfl) (hf:Region.free md ops l i=true:=by kernel_rfl) (hr:(Region.ready md ops l).contains i=true:=by kernel_rfl) (hz:i≠z:=by decide) (hQ:∀ c a w,Q (.panic c) (a.put oi.dst v) w->Q (.panic c) a w:=by exact fun _ _ _ h=>h):jf (i::is) (bQ P md ops Q S z (f+1) l a w):=R8_ i hi hs hf hr hz hQ hy hS h
theorem rL {i:Nat} {is:List Nat} {oi:Oper} {v:Value} {f:Nat} {l:Array Bool} {a:Act} {w:World} (hi:ops[i]?=some oi) (hy:YieldsIf P ops S oi v a) (h:jf is (bQ P md ops Q S z f (l.setIfInBounds i true) (a.put oi.dst v) w)) (hS:S w:=by assumption) (hs:Region.noSelect ops=true:=by kernel_rfl) (hc:nX md ops l=true:=by kernel_rfl) (hf:Region.free md ops l i=true:=by kernel_rfl) (hr:(Region.ready md ops l).contains i=true:=by kernel_rfl) (hz:gu md ops 40 z i=true:=by kernel_rfl) (hQ:∀ c a w,Q (.panic c) (a.put oi.dst v) w->Q (.panic c) a w:=by exact fun _ _ _ h=>h):jf (i::is) (bQ P md ops Q S z (f+1) l a w):=r2_ i hi hs hc hf hr hz hQ hy hS h
end
end Go.Proofs.YtoonaddcfakamaaGreatDoor
