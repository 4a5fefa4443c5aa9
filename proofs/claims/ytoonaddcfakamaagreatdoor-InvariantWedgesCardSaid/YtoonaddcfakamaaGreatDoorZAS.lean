import Derived.Test.YtoonaddcfakamaaGreatDoorZAR
import Derived.Test.YtoonaddcfakamaaGreatDoorZAO
import Derived.Test.YtoonaddcfakamaaGreatDoorZAH
import Derived.RegionTactic
import Derived.BigRegion
import Derived.Deep.DeepCutAuto
import Derived.Test.YtoonaddcfakamaaGreatDoorZAQ
import Derived.Test.YtoonaddcfakamaaGreatDoorZAI
import Derived.Deep.CutRange
import Derived.Test.YtoonaddcfakamaaGreatDoorShelfG
set_option linter.unusedVariables false
set_option linter.unusedSimpArgs false
set_option maxRecDepth 1000000
set_option maxHeartbeats 40000000
namespace Go.Proofs.YtoonaddcfakamaaGreatDoor
open Go.RowKit Go.Proofs.Tryz
theorem Z3e {l:List Nat} {i x:Nat} (h:l.Nodup) (hx:x∉l):(l.set i x).Nodup:=by
 rw [List.Nodup,List.pairwise_iff_getElem] at h |-;intro a b ha hb qL;rw [List.length_set] at ha hb;rw [List.getElem_set,List.getElem_set]
 split
 ·split
  ·omega
  ·intro e;exact hx (e▸List.getElem_mem _)
 ·split
  ·intro e;exact hx (e▸List.getElem_mem _)
  ·exact h a b ha hb qL
theorem bI.newRow {w w':World} {g0:Nat} {tags:List (Nat×Nat×Nat)} {m:pM} (h:bI w g0 tags m) (i:Nat) (hi:i<m.length) (t:Nat×Nat×Nat) (r:pN) (he:aA w w') (hR:aW w' t.1 t.2.1 r) (K4:w.heap.size<=t.1) (h1:r.length<=t.2.2) (h2:t.2.2<=maxLen) :
  bI (w'.setCell ⟨g0,i,none⟩ (.slice (some ⟨t.1,t.2.1,none⟩) r.length t.2.2)) g0 (tags.set i t) (m.set i r):=by
 have h':=h.ext he;have hg:g0≠t.1:=by have:=h.lt;omega
 refine ⟨by rw [List.length_set,List.length_set];exact h.len,by rw [oM];exact h'.lt,fun j=>by rw [Y1_];exact h'.free j,fun j s q hs hq=>?_,?_⟩
 ·rw [pH] at hs hq;obtain ⟨t0,B9,vO,-⟩:=h'.get i hi;by_cases hj:i=j
  ·subst hj;rw [if_pos rfl,if_pos (by rw [h.len];exact hi)] at hs;rw [if_pos rfl,if_pos hi] at hq;cases hs;cases hq;exact ⟨World.cell?_setCell_same _ _ _ vO,h1,h2,hR.other _ _ _ (fun e=>hg e.symm)⟩
  ·rw [if_neg hj] at hs hq;obtain ⟨q1,q2,q3,q4⟩:=h'.row j s q hs hq;refine ⟨(World.cell?_setCell_other _ _ _ _ (by intro e;simp only [Addr.mk.injEq] at e;exact hj e.2.1)).trans q1,q2,q3,q4.other _ _ _ ?_⟩;have hl:j<m.length:=(od.1 hq).1;obtain ⟨s',sL,-,-,-,-,hne⟩:=h'.get j hl;obtain rfl:s'=s:=o5 (sL.symm.trans hs);exact hne
 ·rw [List.map_set];have:=h.nodup;rw [List.nodup_cons] at this |-;have FA:t.1∉tags.map (·.1):=fun hm=>by
   have:=h.blt (b:=t.1) (List.mem_cons_of_mem _ hm);omega
  refine ⟨fun hm=>?_,Z3e this.2 FA⟩;rcases List.mem_or_eq_of_mem_set hm with e | e;·exact this.1 e
  ·exact hg e
theorem bI.elem {w:World} {g0:Nat} {tags:List (Nat×Nat×Nat)} {m:pM} (h:bI w g0 tags m) {n:Nat} (hok:bH n m=true) (i c:Nat) (hi:i<m.length) (hc:c<n) :
  ∃ t:Nat×Nat×Nat,tags[i]?=some t/\w.cell? ⟨g0,i,none⟩=some (.slice (some ⟨t.1,t.2.1,none⟩) n t.2.2)/\n<=t.2.2/\t.2.2<=maxLen/\w.cell? ⟨t.1,t.2.1+c,none⟩=some (.string (aB (aC m i c)))/\aW w t.1 t.2.1 (aD m i)/\t.1≠g0/\Sz (aC m i c)/\(aD m i).length=n/\(aD m i)[c]?=some (aC m i c):=by
 obtain ⟨t,ht,h1,h2,h3,h4,h5⟩:=h.get i hi;obtain ⟨hl,hs⟩:=er hok i hi;have hcl:c<(aD m i).length:=by omega
 have e:(aD m i)[c]?=some (aC m i c):=by
  unfold aC;rw [oe,oc hcl];rfl
 rw [hl] at h1 h2;exact ⟨t,ht,h1,h2,h3,h4.cell c _ e,h4,h5,eG (List.all_eq_true.1 hs _ (og e)),hl,e⟩
def nU:Option Nat->Value
 | none=>.int .i64 (-1)
 | some a=>.int .i64 a
theorem V2_ (c d:Nat) (m:pM) (k:Nat):ao c d m (k+1)=match ao c d m k with
  | none=>if aC m (d+k) c=0 then none else some (d+k)
  | some a=>if aC m (d+k) c≠0/\(aC m (d+k) c).natAbs<(aC m a c).natAbs then some (d+k) else some a:=rfl
theorem Z0y {c d i:Nat} {m:pM} (hi:d<=i) (h:aC m i c=0):ao c d m (i+1-d)=ao c d m (i-d):=by
 rw [show i+1-d=(i-d)+1 by omega,V2_,show d+(i-d)=i by omega];cases ao c d m (i-d) with
 | none=>simp [h]
 | some a=>simp [h]
theorem i4_ {c d i:Nat} {m:pM} (hi:d<=i) (h:aC m i c≠0) (hb:ao c d m (i-d)=none):ao c d m (i+1-d)=some i:=by
 rw [show i+1-d=(i-d)+1 by omega,V2_,show d+(i-d)=i by omega,hb];simp [h]
theorem Z0x {c d i a:Nat} {m:pM} (hi:d<=i) (h:aC m i c≠0) (hb:ao c d m (i-d)=some a):ao c d m (i+1-d)=if (aC m i c).natAbs<(aC m a c).natAbs then some i else some a:=by
 rw [show i+1-d=(i-d)+1 by omega,V2_,show d+(i-d)=i by omega,hb];simp only;by_cases hl:(aC m i c).natAbs<(aC m a c).natAbs;·rw [if_pos ⟨h,hl⟩,if_pos hl]
 ·rw [if_neg (fun x=>hl x.2),if_neg hl]
theorem x9_ {c d:Nat} {m:pM}:∀ (k a:Nat),ao c d m k=some a->d<=a/\a<d+k/\aC m a c≠0
 | 0,a,h=>by simp [ao] at h
 | k+1,a,h=>by
  rw [V2_] at h;cases hb:ao c d m k with
  | none =>
   rw [hb] at h;simp only at h
   split at h
   ·cases h
   ·rename_i hne;obtain rfl:=o5 h;exact ⟨by omega,by omega,hne⟩
  | some b =>
   rw [hb] at h;simp only at h;have ih:=x9_ k b hb
   split at h
   ·rename_i hc;obtain rfl:=o5 h;exact ⟨by omega,by omega,hc.1⟩
   ·obtain rfl:=o5 h;exact ⟨ih.1,by omega,ih.2.2⟩
theorem Z5W (x y:Int):decide (eA (x.natAbs:Int) (y.natAbs:Int)<0)=decide (x.natAbs<y.natAbs):=by
 unfold eA;by_cases h:x.natAbs<y.natAbs;·rw [if_pos (by omega),pE h];rfl
 ·rw [if_neg (by omega),pD h];split <;> rfl
theorem Z0j {x:Int} (h:Sz x):(aB x).size<=10000000000:=by have:=h.size;omega
theorem Z6Y (y:Int):aL 0 y=0/\bF 0 y=0:=by unfold aL bF;simp
theorem Z3a {m:pM} {i:Nat} (hi:i<m.length):m.set i (aD m i)=m:=by
 apply List.ext_getElem?;intro j;rw [pH];by_cases h:i=j;·subst h;rw [if_pos rfl,if_pos hi,eL hi]
 ·rw [if_neg h]
theorem Q9_:∀ (r s:pN),s.length=r.length->aU 0 r s=r
 | [],[],_=>rfl
 | a::r,b::s,h=>by rw [aU,Q9_ r s (by simpa using h)];simp
 | [],_::_,h=>by simp at h
 | _::_,[],h=>by simp at h
theorem a4_ {k:Int} {r s r':pN} (h:eS k r s=some r') (hl:s.length=r.length) (hr:r.all bU=true) (hs:s.all bU=true):r'=aU k r s/\(aB k).size<=2800000000/\(∀ b∈s,(aB b).size<=2800000000/\(aB (k*b)).size<=2800000000):=by
 unfold eS at h;by_cases h0:k=0
 ·rw [if_pos h0] at h;subst h0;refine ⟨by rw [Q9_ r s hl];exact (o5 h).symm,by decide +kernel,fun b hb=>?_⟩;have:=(eG (List.all_eq_true.1 hs b hb)).size;rw [Int.zero_mul];exact ⟨by omega,by decide +kernel⟩
 ·rw [if_neg h0] at h;by_cases hc:s.length=r.length/\(fb k && s.all fb && r.all bU)=true
  ·rw [if_pos hc] at h;have h2:=hc.2;rw [Bool.and_eq_true,Bool.and_eq_true] at h2;have hk:=(kh h2.1.1).size;refine ⟨(o5 h).symm,by omega,fun b hb=>?_⟩;have h3:=(kh (List.all_eq_true.1 h2.1.2 b hb)).size;have h4:=a9_ k b;exact ⟨by omega,by omega⟩
  ·rw [if_neg hc] at h;cases h
def nI (tags:List (Nat×Nat×Nat)) (B:Nat) (tags':List (Nat×Nat×Nat)):Prop:=∀ t∈tags',t∈tags\/B<=t.1
theorem Q0_ (n F c d:Nat) (m:pM) (tags:List (Nat×Nat×Nat)) (g0 cap:Nat) (w:World) (R:pM×Bool) (hM:bI w g0 tags m) (hok:dV n c d F m=some R)
  (qY:m.length<=cap) (qD:cap<=maxLen) (hd:d<=m.length) (vN:c<n) (hn:n<=1000000) (ht:ag w) (hb:3<g0) :
  Calls prog 234 #[.slice (some ⟨g0,0,none⟩) m.length cap,.int .i64 d,.int .i64 c] w fun e w'=>∃ tags',e=.returned (.bool R.2)/\bI w' g0 tags' R.1/\nI tags w.heap.size tags'/\aH (·=g0) w w':=by
 have HM:=oZ hM;have HOK:=oZ hok;have HT:=oZ ht;have HB:=oZ hb;have wh:Hid (∀ W,aH (·=g0) w W->ag W):=fun W hW=>ht.below (hW.below (base:=g0) (Nat.le_of_lt hM.lt) (fun k hk=>by rw [hk];exact oz _)) hb;unfold maxLen at qD;obtain ⟨L,hL⟩:=pK m.length;rw [hL] at qY hd |-;have HL:=oZ hL;clear hM hok ht hb hL
 go_enter func234,ntmps234
 go_wp2_with fail
 go_loopg [] F (fun f wr=>∃ (m2:pM) (pd:List (Nat×Nat×Nat)),aH (·=g0) w wr/\Hid (bI wr g0 pd m2)/\Hid (m2.length=L)/\Hid (dV n c d f m2=some R)/\Hid (nI tags w.heap.size pd))
 case atStart=>exact ⟨m,tags,aH.refl _ _,HM,HL,HOK,fun t ht=>.inl ht⟩
 case round =>
  obtain ⟨m2,pd,hG,HFA,HL2,HSW,J5⟩:=hrel;obtain ⟨w2,rfl⟩:∃ w2:World,w2=wr:=⟨_,rfl⟩;cases gk with
  | zero=>exact absurd HSW.out (by unfold dV;simp)
  | succ f =>
  have hS:=HSW.out;rw [jG] at hS;by_cases s9:bH n m2=true
  ·rw [if_pos s9,HL2.out] at hS;have HOKM:=oZ s9;have HS:=oZ hS;clear hS s9 HSW;go_wp2_with fail
   go_loopw [7,8] (fun sa si wr=>∃ i:Nat,d<=i/\i<=L/\si=.int .i64 i/\aA w2 wr/\Hid (sa=nU (ao c d m2 (i-d)))) (fun _ si _=>L-(intOf si).toNat)
   case atStart=>exact ⟨d,by omega,by omega,rfl,aA.refl _,by rw [Nat.sub_self];rfl⟩
   case round =>
    obtain ⟨i,sV,Iz,rfl,hE,HA⟩:=hrel;obtain ⟨w3,rfl⟩:∃ w3:World,w3=wr:=⟨_,rfl⟩;have HA0:=HA;have hA:=HA.out;clear HA;by_cases hil:i<L
    ·as_aux_lemma =>
     obtain ⟨t,ht,k1,k2,k3,k4,k5,k6,k7,-,-⟩:=bI.elem (HFA.ext hE) HOKM i c (by rw [HL2.out];exact hil) vN;unfold maxLen at k3;have hz:=iL (aC m2 i c);by_cases he:aC m2 i c=0
     ·rw [pE he] at hz;have HN:Hid (u7=nU (ao c d m2 (i+1-d))):=(by unfold Hid;rw [Z0y sV he];exact hA);have HE:=oZ hE;obtain ⟨x,hx⟩:=pK (aC m2 i c);rw [hx] at k4 hz;clear ht k5 k6 k7 hA he hx hE;go_wp2_with fail
      go_quiet (fail)
      go_wp2_with fail;go_roundw
      case rel=>exact ⟨i+1,by omega,by omega,by go_num,aA.draws HE _,HN⟩
      case measure=>simp [intOf];omega
     ·rw [pD he] at hz;cases qe:ao c d m2 (i-d) with
      | none =>
       rw [qe] at hA;obtain rfl:u7=.int .i64 (-1):=hA;have HN:Hid (Value.int .i64 (i:Int)=nU (ao c d m2 (i+1-d))):=(by unfold Hid;rw [i4_ sV he qe];rfl);have HE:=oZ hE;obtain ⟨x,hx⟩:=pK (aC m2 i c);rw [hx] at k4 hz;clear ht k5 k6 k7 he hx hE qe;go_wp2_with fail
       go_quiet (fail)
       go_wp2_with fail;go_roundw
       case rel=>exact ⟨i+1,by omega,by omega,by go_num,aA.draws HE _,HN⟩
       case measure=>simp [intOf];omega
      | some a =>
       rw [qe] at hA;obtain rfl:u7=.int .i64 a:=hA;obtain ⟨wK,ha2,AZ⟩:=x9_ _ _ qe;have AY:a<L:=(by omega);obtain ⟨s,hs,l1,l2,l3,l4,l5,l6,l7,-,-⟩:=bI.elem (HFA.ext hE) HOKM a c (by rw [HL2.out];exact AY) vN;unfold maxLen at l3;have HNX:=oZ (Z0x sV he qe);have HCM:=oZ (Z5W (aC m2 i c) (aC m2 a c));have HE:=oZ hE;obtain ⟨x,hx⟩:=pK (aC m2 i c);obtain ⟨y,hy⟩:=pK (aC m2 a c);rw [hx] at k4 hz k7 HNX HCM;rw [hy] at l4 l7 HNX HCM;have HCQ:=oZ (fun W=>J5_ (x.natAbs:Int) (y.natAbs:Int) W (Z0j k7.natAbs) (Z0j l7.natAbs));clear ht k5 k6 k7 he hx hy hE qe hs l5 l6 l7 wK ha2 AZ;by_cases hxy:x.natAbs<y.natAbs
       ·have zc:decide (eA (x.natAbs:Int) (y.natAbs:Int)<0)=true:=(by rw [HCM.out];exact pE hxy);have HN:Hid (Value.int .i64 (i:Int)=nU (ao c d m2 (i+1-d))):=(by unfold Hid;rw [HNX.out,if_pos hxy];rfl);clear hxy HNX HCM;go_wp2_with fail
        go_quiet ((first | (go_at_call 63;exact Calls.quiet_of (nQ _ _)) | (go_at_call 152;exact Calls.quiet_of (HCQ _))))
        go_wp2_with fail;go_roundw
        case rel=>exact ⟨i+1,by omega,by omega,by go_num,aA.draws HE _,HN⟩
        case measure=>simp [intOf];omega
       ·have zc:decide (eA (x.natAbs:Int) (y.natAbs:Int)<0)=false:=(by rw [HCM.out];exact pD hxy);have HN:Hid (Value.int .i64 (a:Int)=nU (ao c d m2 (i+1-d))):=(by unfold Hid;rw [HNX.out,if_neg hxy];rfl);clear hxy HNX HCM;go_wp2_with fail
        go_quiet ((first | (go_at_call 63;exact Calls.quiet_of (nQ _ _)) | (go_at_call 152;exact Calls.quiet_of (HCQ _))))
        go_wp2_with fail;go_roundw
        case rel=>exact ⟨i+1,by omega,by omega,by go_num,aA.draws HE _,HN⟩
        case measure=>simp [intOf];omega
    ·obtain rfl:i=L:=(by omega);clear hA;have hA:=HA0.out;have hS:=HS.out;have HE:=oZ hE;have HG3:=oZ (hG.ext hE);have HF3:=oZ (HFA.ext hE);clear hE hG HFA HS;cases qe:ao c d m2 (i-d) with
     | none =>
      rw [qe] at hA hS;obtain rfl:u7=.int .i64 (-1):=hA;obtain rfl:=o5 hS;clear qe HA0;go_wp2_with fail;go_ret;exact ⟨rfl,pd,HF3,J5,HG3⟩
     | some a =>
      rw [qe] at hA hS;obtain rfl:u7=.int .i64 a:=hA
      dsimp only at hS
      obtain ⟨wK,ha2,AZ⟩:=x9_ _ _ qe;have AY:a<i:=(by omega);obtain ⟨td,xH,c1,c2,c3,c4,c5⟩:=HF3.get d (by rw [HL2.out];omega);obtain ⟨ta,xI,e1,e2,e3,e4,e5⟩:=HF3.get a (by rw [HL2.out];omega);have fd:=HF3.free d;have fa:=HF3.free a;have HTD:=oZ xH;have HTA:=oZ xI;have HSW1:=oZ (HF3.swap d a (by rw [HL2.out];omega) (by rw [HL2.out];omega) td ta xH xI);have HSd:=oZ hS;clear hS qe HA0 xH xI c2 c3 c4 c5 e2 e3 e4 e5 ha2 AZ
      go_upto_region 9 with fail
      go_cut [] from 14 to 129 (fun wx=>Hid (bI wx g0 (a8 pd d a) (a8 m2 d a))/\Hid (aH (·=g0) w wx))
      case first =>
       as_aux_lemma =>
       by_cases wG:d=a
       ·subst wG;obtain rfl:td=ta:=o5 (HTD.symm.trans HTA)
        go_region
        all_goals (go_wp2_with fail;go_meet;exact ⟨HSW1.ext (aA.drew _),((HG3.setCell rfl _ _).setCell rfl _ _).ext (aA.drew _)⟩)
       ·have Fy:¬ a=d:=fun e=>wG e.symm
        go_region
        all_goals (go_wp2_with fail;go_meet;exact ⟨HSW1.ext (aA.drew _),((HG3.setCell rfl _ _).setCell rfl _ _).ext (aA.drew _)⟩)
      case rest =>
       obtain ⟨zt,HG4⟩:=hcut;have HOKS:=oZ (u5_ HOKM d a);have rN:Hid ((a8 m2 d a).length=i):=(by unfold Hid;rw [j5];exact HL2);have DQ:Hid (nI tags w.heap.size (a8 pd d a)):=fun t ht=>J5 t (S6_ _ _ _ _ ht);have hSd:=HSd.out;obtain ⟨ms,yT⟩:=pK (a8 m2 d a);obtain ⟨ts,IT⟩:=pK (a8 pd d a);rw [yT] at zt HOKS rN hSd;rw [IT] at zt DQ;clear yT IT HSd HSW1 HF3 HG3 c1 e1 fd fa HTD HTA;cases qJ:cH c d ms (i-(d+1)) with
       | none=>rw [qJ] at hSd;cases hSd
       | some r =>
       obtain ⟨mf,rf⟩:=r;rw [qJ] at hSd;have HDN:=oZ qJ;have HSE:=oZ hSd;clear qJ hSd;go_wp2_with fail
       go_loopw [9,10] (fun sr si wr=>∃ (i4:Nat) (mj:pM) (rj:Bool) (tj:List (Nat×Nat×Nat)),d+1<=i4/\i4<=i/\si=.int .i64 i4/\sr=.bool (!rj)/\Hid (aH (·=g0) w wr)/\Hid (bI wr g0 tj mj)/\Hid (cH c d ms (i4-(d+1))=some (mj,rj))/\Hid (nI tags w.heap.size tj)) (fun _ si _=>i-(intOf si).toNat)
       case atStart=>exact ⟨d+1,ms,false,ts,by omega,by omega,by go_num,rfl,HG4,zt,by unfold Hid;rw [Nat.sub_self];rfl,DQ⟩
       case round =>
        obtain ⟨i4,mj,rj,tj,MR,Av,rfl,rfl,q9,rV,qS,HTJ⟩:=hrel;obtain ⟨w4,rfl⟩:∃ w4:World,w4=wr:=⟨_,rfl⟩;obtain ⟨tF,r8,wA⟩:=kQ qS (by rw [rN.out];omega);have qh:Hid (mj.length=i):=(by unfold Hid;rw [tF];exact rN);by_cases DG:i4<i
        ·skip;obtain ⟨z,sP⟩:=C8_ HDN (i4+1-(d+1)) (by omega);rw [show i4+1-(d+1)=(i4-(d+1))+1 by omega] at sP;obtain ⟨mj',rj',nr,e1,qW,pg,e2⟩:=nn sP;rw [qS.out] at e1;simp only [Option.some.injEq,Prod.mk.injEq] at e1;obtain ⟨rfl,rfl⟩:=e1;rw [show d+1+(i4-(d+1))=i4 by omega] at pg e2;have ru:(aD mj i4).length=n/\(aD mj i4).all bU=true:=by
          rw [r8 i4 (by omega)];exact er HOKS i4 (by rw [rN.out];omega)
         have tC:(aD mj d).length=n/\(aD mj d).all bU=true:=by
          rw [r8 d (by omega)];exact er HOKS d (by rw [rN.out];omega)
         have HST:Hid (cH c d ms (i4+1-(d+1))=some (mj.set i4 nr,rj || decide (bF (aC mj i4 c) (aC mj d c)≠0))):=(by unfold Hid;rw [show i4+1-(d+1)=(i4-(d+1))+1 by omega,sP,e2]);have hzz:=a4_ pg (by rw [ru.1,tC.1]) ru.2 tC.2;obtain ⟨rfl,CO,xJ⟩:=hzz;clear sP e2 tF r8 wA pg;obtain ⟨t4,s6,b1,b2,b3,b4,b5⟩:=rV.get i4 (by rw [qh.out];omega);obtain ⟨tp,sQ,p1,p2,p3,p4,p5⟩:=rV.get d (by rw [qh.out];omega);have ex:(aD mj i4)[c]?=some (aC mj i4 c):=by
          unfold aC;rw [oe,oc (by rw [ru.1];exact vN)];rfl
         have ey:(aD mj d)[c]?=some (aC mj d c):=by
          unfold aC;rw [oe,oc (by rw [tC.1];exact vN)];rfl
         have b6:=b4.cell c _ ex;have p6:=p4.cell c _ ey;have sK:Sz (aC mj i4 c):=eG (List.all_eq_true.1 ru.2 _ (og ex));have vK:Sz (aC mj d c):=eG (List.all_eq_true.1 tC.2 _ (og ey));have HDM:=oZ (fun W hW=>lB (aC mj i4 c) (aC mj d c) W sK vK qW hW);have hz:=iL (aC mj i4 c);have HNW:=oZ (oC (aL (aC mj i4 c) (aC mj d c)) _ _ c _ _ ex ey);have xK:∀ a∈aD mj i4,(aB a).size<=2800000000:=fun a ha=>by have:=(eG (List.all_eq_true.1 ru.2 a ha)).size;omega
         have hll:(aD mj d).length=(aD mj i4).length:=(by rw [ru.1,tC.1]);rw [ru.1] at b1 b2;rw [tC.1] at p1 p2;have HLS:Hid (∀ W,aA w4 W->Calls prog 235 #[.slice (some ⟨t4.1,t4.2.1,none⟩) n t4.2.2,.slice (some ⟨tp.1,tp.2.1,none⟩) n tp.2.2,.string (aB (aL (aC mj i4 c) (aC mj d c)))] W fun e w'=>e=.returned (.slice (some ⟨W.heap.size,0,none⟩) n n)/\aA W w'/\aW w' W.heap.size 0 (aU (aL (aC mj i4 c) (aC mj d c)) (aD mj i4) (aD mj d))):=fun W hW=>by
          have h9:=N3_ (aL (aC mj i4 c) (aC mj d c)) (aD mj i4) (aD mj d) t4.1 t4.2.1 t4.2.2 tp.1 tp.2.1 tp.2.2 W (b4.ext hW) (p4.ext hW) hll CO xK xJ (by rw [ru.1];exact b2) b3 (by rw [tC.1];exact p2) p3 (by rw [ru.1];exact hn) (wh _ (q9.ext hW));rw [ru.1,tC.1] at h9;exact h9
         have An:(aU (aL (aC mj i4 c) (aC mj d c)) (aD mj i4) (aD mj d)).length=n:=(by rw [eX];exact ru.1);have vz:aC mj i4 c=0->mj.set i4 (aU (aL (aC mj i4 c) (aC mj d c)) (aD mj i4) (aD mj d))=mj:=fun h0=>by
          rw [h0,(Z6Y _).1,Q9_ _ _ hll,Z3a (by rw [qh.out];omega)]
         have hfz:=mW (aC mj i4 c) (aC mj d c);have hfm:=iL (bF (aC mj i4 c) (aC mj d c));unfold maxLen at b3 p3;obtain ⟨nr,CZ⟩:=pK (aU (aL (aC mj i4 c) (aC mj d c)) (aD mj i4) (aD mj d));rw [CZ] at HLS HNW An vz HST;obtain ⟨xe,sZ⟩:=pK (aC mj i4 c);obtain ⟨ye,rp⟩:=pK (aC mj d c);rw [sZ] at b6 HDM hz HNW HLS vz hfz hfm HST;rw [rp] at p6 HDM HNW HLS hfz hfm HST;have HNL:=oZ An;have HSAME:=oZ vz;have HY0:=oZ qW;rw [rp] at HY0;rw [show xe-aL xe ye*ye=bF xe ye by rw [Int.mul_comm];omega] at HNW;have BE:Hid (i4<mj.length):=(by unfold Hid;rw [qh.out];exact DG);have HT4:=oZ s6;have sj:d<i:=(by omega);clear CZ sZ rp ex ey sK vK s6 sQ b4 p4 b5 p5 qW ru tC CO xJ xK hll An vz hfz rN HDN HSE HOKS;by_cases qB:xe=0
         ·have hST:=HST.out;rw [HSAME.out qB,qB,(Z6Y ye).2] at hST;have Hb:Hid (cH c d ms (i4+1-(d+1))=some (mj,rj)):=by
           unfold Hid;rw [hST];simp
          rw [pE qB] at hz;clear hST HST qB HLS HDM HSAME HNW HNL hfm;go_wp2_with fail;go_roundw
          case rel=>exact ⟨i4+1,mj,rj,tj,by omega,by omega,by go_num,rfl,q9,rV,Hb,HTJ⟩
          case measure=>simp [intOf];omega
         ·rw [pD qB] at hz;clear qB HSAME
          go_upto_region 15 with fail
          refine W6_ (fun w'=>w'.cell? ⟨g0,i4,none⟩=some (.slice (some ⟨t4.1,t4.2.1,none⟩) n t4.2.2)/\w'.cell? ⟨t4.1,t4.2.1+c,none⟩=some (.string (aB xe))/\w'.cell? ⟨g0,d,none⟩=some (.slice (some ⟨tp.1,tp.2.1,none⟩) n tp.2.2)/\w'.cell? ⟨tp.1,tp.2.1+c,none⟩=some (.string (aB ye))/\Hid (aA w4 w')) 22 22 (by kernel_rfl) (by kernel_rfl) ⟨(aA.drew w4).cell b1,(aA.drew w4).cell b6,(aA.drew w4).cell p1,(aA.drew w4).cell p6,aA.drew w4⟩ (fun ops hO pO=>?_);refine rA [0,1,2,3,4,5,6,7,8,9,10,11,12,13] ?_
          iterate 14 (refine rS hO (by decide) fun o h=>?_;(conv at h=>lhs;whnf);subst h;(refine rY hO (v:=?_) (Or.inl ⟨by rfl,?_⟩) ?_;rotate_left;·((intro w' qM);(try dsimp only at qM);(try go_simp);(try with_reducible rfl)));(try simp only [Act.put,aQ,aR,aS]))
          refine rE ?_;have hi:=iJ hO 14 (by decide)
          conv at hi=>rhs;arg 1;whnf
          refine V0_ hO 14 (by kernel_rfl) hi (fun K hK=>?_);go_simp
          (go_at_call 112;refine (HDM _ (wh _ (q9.ext (pO.2.2.2.2)))).mono ?_)
          rintro e w5 ⟨rfl,pY⟩;go_wp2_with fail;refine hK _ _ ⟨(pY).cell pO.1,(pY).cell pO.2.1,(pY).cell pO.2.2.1,(pY).cell pO.2.2.2.1,aA.trans pO.2.2.2.2 (pY)⟩ (fun pO=>?_);clear hK K hi
          (try simp only [Act.put,aQ,aR,aS])
          refine rA [15,16,17,18,19,20] ?_
          iterate 6 (refine rS hO (by decide) fun o h=>?_;(conv at h=>lhs;whnf);subst h;(refine rX hO (v:=?_) (Or.inl ⟨by rfl,?_⟩) ?_;rotate_left;·((intro w');(try go_simp);(try with_reducible rfl)));(try simp only [Act.put,aQ,aR,aS]))
          refine rE ?_;have HE5:Hid (aA w4 w5):=pO.2.2.2.2;have hi:=iJ hO 21 (by decide)
          conv at hi=>rhs;arg 1;whnf
          refine D3_ hO 21 (by kernel_rfl) (by kernel_rfl) hi (fun K hK=>?_);go_simp;refine hK _ _ (by assumption) ?_;clear hK K hi hO
          (try simp only [Act.put,aQ,aR,aS])
          go_upto_region 16 with fail
          obtain ⟨w6,EZ⟩:=pL w5;rw [<- EZ];have HE6:Hid (aA w4 w6):=(by rw [EZ];exact HE5);have b7:=HE6.cell b1;have p7:=HE6.cell p1;clear EZ HDM;refine iq (fun w'=>w'.cell? ⟨g0,i4,none⟩=some (.slice (some ⟨t4.1,t4.2.1,none⟩) n t4.2.2)/\w'.cell? ⟨g0,d,none⟩=some (.slice (some ⟨tp.1,tp.2.1,none⟩) n tp.2.2)/\Hid (aA w6 w')) 13 (by kernel_rfl) ⟨(aA.drew w6).cell b7,(aA.drew w6).cell p7,aA.drew w6⟩ (fun pO=>?_);refine rA [0,1,2,3,4,5,6,7,8,9,10] ?_
          iterate 11 ((first|(refine rL (v:=?_) (by rfl) (Or.inl ⟨by rfl,?_⟩) ?_;rotate_left;·((intro w' qM);(try dsimp only at qM);(try go_simp);(try with_reducible rfl)))|(refine rW (v:=?_) (by rfl) (Or.inl ⟨by rfl,?_⟩) ?_;rotate_left;·((intro w');(try go_simp);(try with_reducible rfl))));(try simp only [Act.put,aQ,aR,aS]))
          refine rE ?_;have HE7:Hid (aA w4 w6.drew):=HE6.trans (aA.drew _);refine dH 11 (by kernel_rfl) rfl (fun K hK=>?_);go_simp
          (go_at_call 235;refine (HLS _ HE7).mono ?_)
          rintro e w8 ⟨rfl,pY,we⟩;go_wp2_with fail;refine hK _ _ ⟨(pY).cell pO.1,(pY).cell pO.2.1,aA.trans pO.2.2 (pY)⟩ (fun pO=>?_);clear hK K
          (try simp only [Act.put,aQ,aR,aS])
          refine tW (v:=?_) 12 rfl (Or.inl ⟨by rfl,?_⟩) ?_;rotate_left;·((intro w');(try go_simp);(try with_reducible rfl))
          (try simp only [Act.put,aQ,aR,aS])
          have HE8:Hid (aA w4 w8):=HE6.trans pO.2.2;have q8:=HE8.cell b1;have f8:w8.frozen? ⟨g0,i4,none⟩=false:=(rV.ext HE8).free i4;refine fL 13 (by kernel_rfl) (by kernel_rfl) (by kernel_rfl) rfl (fun K hK=>?_);go_simp;refine hK _ _ ?_;clear hK K
          (try simp only [Act.put,aQ,aR,aS])
          have HRZ:Hid (aW w8 w6.heap.size 0 nr):=we;have HM9:Hid (bI (w8.setCell ⟨g0,i4,none⟩ (.slice (some ⟨w6.heap.size,0,none⟩) n n)) g0 (tj.set i4 (w6.heap.size,0,n)) (mj.set i4 nr)):=by
           have h9:=rV.newRow i4 BE (w6.heap.size,0,n) nr HE8 HRZ HE7.size (by rw [HNL.out];exact oz _) (by show n<=maxLen;unfold maxLen;omega);rw [HNL.out] at h9;exact h9
          have HG9:Hid (aH (·=g0) w (w8.setCell ⟨g0,i4,none⟩ (.slice (some ⟨w6.heap.size,0,none⟩) n n))):=(q9.ext HE8).setCell rfl _ _;have DR:Hid (nI tags w.heap.size (tj.set i4 (w6.heap.size,0,n))):=fun t ht=>by
           rcases List.mem_or_eq_of_mem_set ht with h | h;·exact HTJ t h
           ·rw [h];exact .inr (ow q9.size HE7.size)
          have pP:(w8.setCell ⟨g0,i4,none⟩ (.slice (some ⟨w6.heap.size,0,none⟩) n n)).cell? ⟨w6.heap.size,c,none⟩=some (.string (aB (bF xe ye))):=by
           have h9:=(HRZ.other g0 i4 (.slice (some ⟨w6.heap.size,0,none⟩) n n) (by have:=rV.lt;have:=HE6.size;omega)).cell c _ HNW;rw [Nat.zero_add] at h9;exact h9
          have qg:(w8.setCell ⟨g0,i4,none⟩ (.slice (some ⟨w6.heap.size,0,none⟩) n n)).cell? ⟨g0,i4,none⟩=some (.slice (some ⟨w6.heap.size,0,none⟩) n n):=World.cell?_setCell_same _ _ _ q8;obtain ⟨w9,wC⟩:=pK (w8.setCell ⟨g0,i4,none⟩ (.slice (some ⟨w6.heap.size,0,none⟩) n n));rw [wC] at HM9 HG9 pP qg |-;obtain ⟨gn,I3⟩:=pK w6.heap.size;rw [I3] at pP qg HM9 DR;clear wC I3 q8 f8 b1 p1 b6 p6 b7 p7 HLS HRZ we hz pO;by_cases sN:bF xe ye=0
          ·rw [pE sN] at hfm;have yE:Hid ((rj || decide (bF xe ye≠0))=rj):=(by unfold Hid;rw [pD (by simp [sN]),Bool.or_false]);rw [yE.out] at HST;clear sN yE;cases rj
           all_goals
            go_wp2_with fail;go_roundw
            case rel=>exact ⟨i4+1,mj.set i4 nr,_,_,by omega,by omega,by go_num,rfl,HG9,HM9,HST,DR⟩
            case measure=>simp [intOf];omega
          ·rw [pD sN] at hfm;have yE:Hid ((rj || decide (bF xe ye≠0))=true):=(by unfold Hid;rw [pE sN,Bool.or_true]);rw [yE.out] at HST;clear sN yE;cases rj
           all_goals
            go_wp2_with fail;go_roundw
            case rel=>exact ⟨i4+1,mj.set i4 nr,true,_,by omega,by omega,by go_num,rfl,HG9,HM9,HST,DR⟩
            case measure=>simp [intOf];omega
        ·obtain rfl:i4=i:=(by omega);have ym:mj=mf/\rj=rf:=by
          have:=qS.out;rw [HDN.out] at this;simp only [Option.some.injEq,Prod.mk.injEq] at this;exact ⟨this.1.symm,this.2.symm⟩
         obtain ⟨rfl,rfl⟩:=ym;have hSE:=HSE.out;clear HSE HDN qS tF r8 wA rN HOKS zt HG4;cases rj with
         | true =>
          try dsimp only at hSE
          have HSE2:=oZ hSE;clear hSE;go_wp2_with fail
          go_roundg f
          case measure=>omega
          case rel=>exact ⟨mj,tj,q9,rV,qh,HSE2,HTJ⟩
         | false =>
          try dsimp only at hSE
          obtain rfl:=o5 hSE;clear hSE;go_wp2_with fail;go_ret;exact ⟨rfl,tj,rV,HTJ,q9⟩
  ·rw [if_neg s9] at hS;cases hS
theorem ai.numsB {w:World} {base:Nat} {e:TypeId} {v:Value} {xs:pN} (h:ai w base e 1 v numC xs):w.ownsRow base e 1 v xs.length (xs.map fun x=>Value.string (aB x)):=by
 obtain ⟨us,h1,h2,h3,h4⟩:=h;have:us=xs.map fun x=>[Value.string (aB x)]:=by
  apply List.ext_getElem?;intro i;rw [oh];by_cases hi:i<xs.length
  ·have rD:i<us.length:=(by omega);have:=(h4 i us[i] xs[i] (by simp [rD]) (by simp [hi])).now;simp only [numC] at this;simp [hi,rD,this]
  ·rw [o4 (by omega),o4 (by omega)];rfl
 rw [this,eR (fun x=>Value.string (aB x))] at h3;exact h3
theorem aW.of_ownsW {w:World} {base:Nat} {e:TypeId} {g cap:Nat} {xs:pN} (h:w.ownsRow base e 1 (.slice (some ⟨g,0,none⟩) xs.length cap) xs.length (xs.map fun x=>Value.string (aB x))):aW w g 0 xs/\base<=g/\xs.length<=cap/\cap<=maxLen:=by
 have hc:=h.cells (g:=g) (by simp [Value.ownBlock]);have hf:=fun j=>h.frozenAt j;rcases h.2 with ⟨hv,_⟩ | ⟨g',cap',cur,hv,hb,hg,h1,h2,h3,h4⟩
 ·simp at hv
 ·simp only [Value.slice.injEq,Option.some.injEq,Addr.mk.injEq] at hv;obtain ⟨⟨rfl,-,-⟩,-,rfl⟩:=hv;refine ⟨⟨(Array.getElem?_eq_some_iff.1 hg).1,fun j x hx=>?_,fun j=>?_⟩,hb,h1,h2⟩
  ·have:=hc j (.string (aB x)) (by rw [oh,hx];rfl);rw [show (⟨g,0,none⟩:Addr).add j=⟨g,0+j,none⟩ by unfold Addr.add;split <;> simp_all] at this;exact this
  ·exact hf j
theorem Z4G:(prog.info? 194).map (fun i=>(i.zero,i.size,i.bytes))=some (some (.slice none 0 0),1,24):=by kernel_rfl
def iP (t:Nat×Nat×Nat) (n:Nat):Value:=.slice (some ⟨t.1,t.2.1,none⟩) n t.2.2
def lz (tags:List (Nat×Nat×Nat)) (m:pM):List Value:=List.zipWith (fun t r=>iP t r.length) tags m
structure ec (w:World) (ob base:Nat) (v:Value) (tags:List (Nat×Nat×Nat)) (m:pM):Prop where
 len:tags.length=m.length
 own:w.ownsRow ob 194 1 v m.length (lz tags m)
 row:∀ (i:Nat) t r,tags[i]?=some t->m[i]?=some r->r.length<=t.2.2/\t.2.2<=maxLen/\aW w t.1 t.2.1 r/\base<=t.1/\v.ownBlock≠some t.1
 nodup:(tags.map (·.1)).Nodup
theorem ec.nil (w:World) (ob base:Nat):ec w ob base (.slice none 0 0) [] [] :=
 ⟨rfl,World.ownsRow_nil _ _ _ _,by intro i t r h;simp at h,by simp⟩
theorem ec.ext {w w':World} {ob base:Nat} {v:Value} {tags:List (Nat×Nat×Nat)} {m:pM} (h:ec w ob base v tags m) (he:aA w w'):ec w' ob base v tags m :=
 ⟨h.len,et h.own he,fun i t r ht hr=>by
  obtain ⟨h1,h2,h3,h4,h5⟩:=h.row i t r ht hr
  exact ⟨h1,h2,h3.ext he,h4,h5⟩,h.nodup⟩
theorem ec.snoc {w w':World} {ob base:Nat} {v v':Value} {tags:List (Nat×Nat×Nat)} {m:pM} (h:ec w ob base v tags m) (t:Nat×Nat×Nat) (r:pN) (qm:r.length<=t.2.2) (pn:t.2.2<=maxLen) (hR:aW w t.1 t.2.1 r) (hb:base<=t.1) (hv:v.ownBlock≠some t.1) (hn:t.1∉tags.map (·.1))
  (hown:w'.ownsRow ob 194 1 v' (m.length+1) (lz tags m++[iP t r.length])) (hg:w.grownBy w' v.ownBlock) (qb:v'.ownBlock=v.ownBlock\/∃ b,v'.ownBlock=some b/\w.heap.size<=b) :
  ec w' ob base v' (tags++[t]) (m++[r]):=by
 have pw:∀ (s:Nat×Nat×Nat) q,aW w s.1 s.2.1 q->v.ownBlock≠some s.1->aW w' s.1 s.2.1 q/\v'.ownBlock≠some s.1:=fun s q hs vi=>by
  refine ⟨hs.same hg.size (hg.block s.1 hs.lt vi.symm),fun e=>?_⟩;rcases qb with e2 | ⟨b,e2,e3⟩
  ·exact vi (e2.symm.trans e)
  ·rw [e2] at e;cases e;have:=hs.lt;omega
 refine ⟨by simp [h.len],?_,fun i s q hs hq=>?_,?_⟩
 ·have e:lz (tags++[t]) (m++[r])=lz tags m++[iP t r.length]:=by
   unfold lz;rw [List.zipWith_append h.len];rfl
  rw [e,pG];exact hown
 ·by_cases hi:i<tags.length
  ·rw [o6 hi] at hs;rw [o6 (by rw [<- h.len];exact hi)] at hq;obtain ⟨h1,h2,h3,h4,h5⟩:=h.row i s q hs hq;obtain ⟨k1,k2⟩:=pw s q h3 h5;exact ⟨h1,h2,k1,h4,k2⟩
  ·rw [o8 (by omega)] at hs;rw [o8 (by rw [<- h.len];omega)] at hq;have e1:i-tags.length=0:=(by have:=(od.1 hs).1;simp at this;omega);have e2:i-m.length=0:=(by rw [<- h.len];exact e1);rw [e1] at hs;rw [e2] at hq;simp only [o_,Option.some.injEq] at hs hq;subst hs;subst hq;obtain ⟨k1,k2⟩:=pw t r hR hv;exact ⟨qm,pn,k1,hb,k2⟩
 ·rw [List.map_append,List.nodup_append];refine ⟨h.nodup,by simp,?_⟩;intro a ha b hb2 e;simp only [List.map_cons,List.map_nil,List.mem_singleton] at hb2;subst e;subst hb2;exact hn ha
theorem ec.mat {w:World} {ob base:Nat} {g cap:Nat} {tags:List (Nat×Nat×Nat)} {m:pM} (h:ec w ob base (.slice (some ⟨g,0,none⟩) m.length cap) tags m) (hob:base<=ob) :
  bI w g tags m/\m.length<=cap/\cap<=maxLen/\∀ b,dU g tags b->base<=b:=by
 have hc:=h.own.cells (g:=g) (by simp [Value.ownBlock]);have hf:=fun j=>h.own.frozenAt j;rcases h.own.2 with ⟨hv,_⟩ | ⟨g',cap',cur,hv,hb,hg,h1,h2,h3,h4⟩
 ·simp at hv
 ·simp only [Value.slice.injEq,Option.some.injEq,Addr.mk.injEq] at hv;obtain ⟨⟨rfl,-,-⟩,-,rfl⟩:=hv;refine ⟨⟨h.len,(Array.getElem?_eq_some_iff.1 hg).1,fun j=>hf j,fun i t r ht hr=>?_,?_⟩,h1,h2,fun b hb2=>?_⟩
  ·obtain ⟨k1,k2,k3,k4,k5⟩:=h.row i t r ht hr;refine ⟨?_,k1,k2,k3⟩;have:=hc i (iP t r.length) (by unfold lz;rw [List.getElem?_zipWith,ht,hr]);rw [show (⟨g,0,none⟩:Addr).add i=⟨g,i,none⟩ by unfold Addr.add;split <;> simp_all] at this;exact this
  ·rw [List.nodup_cons];refine ⟨fun hm=>?_,h.nodup⟩;obtain ⟨t,ht,rfl⟩:=List.mem_map.1 hm;obtain ⟨i,hi⟩:=List.getElem?_of_mem ht;have hl:i<m.length:=(by rw [<- h.len];exact (od.1 hi).1);exact (h.row i t m[i] hi (oc hl)).2.2.2.2 rfl
  ·rcases List.mem_cons.1 hb2 with rfl | hb2;·exact ow hob hb
   ·obtain ⟨t,ht,rfl⟩:=List.mem_map.1 hb2;obtain ⟨i,hi⟩:=List.getElem?_of_mem ht;have hl:i<m.length:=(by rw [<- h.len];exact (od.1 hi).1);exact (h.row i t m[i] hi (oc hl)).2.2.2.1
theorem Y2_ (w:World) {ops:Array Oper} {rest:List Oper} {o:Oper} {a:Act} {Q:Exit->Act->World->Prop} (qj:o.guard=none)
  (s x:Operand) (ho:o.op=Op.call { callee:=Callee.builtin Builtin.append,args:=#[s,x],argTypes:=#[191,191] }) (ob base:Nat)
  (v:Value) (tags:List (Nat×Nat×Nat)) (m:pM) (t:Nat×Nat×Nat) (r:pN) (u:Array Value) (T:TypeId) (hs:a.eval s=v) (hB:ec w ob base v tags m)
  (hx:a.eval x=.slice (some ⟨w.heap.size,0,none⟩) 1 1) (hu:u=#[iP t r.length]) (qm:r.length<=t.2.2) (pn:t.2.2<=maxLen) (hR:aW w t.1 t.2.1 r) (hb:base<=t.1) (hv:v.ownBlock≠some t.1) (hn:t.1∉tags.map (·.1))
  (hlen:m.length<1000000) (pX:ob<=w.heap.size)
  (h:∀ v' w',ec w' ob base v' (tags++[t]) (m++[r])->Below ob w w'->Hid (∃ g c,v'=.slice (some ⟨g,0,none⟩) (m.length+1) c)->wpList prog ops Q rest (a.put o.dst v') w') :
  wpList prog ops Q (o::rest) a (w.alloc (.cells u T)):=by
 refine wpList_plain qj fun K hK=>?_;subst hu;obtain ⟨i0,hi,hz,pZ,qK⟩:=info_parts Z4G;have py:∀ j,(⟨w.heap.size,0,none⟩:Addr).add j=⟨w.heap.size,j,none⟩:=by intro j;unfold Addr.add;split <;> simp_all
 have hE:aA w (w.alloc (.cells #[iP t r.length] T)):=aA.alloc _ _;refine iR (w.alloc (.cells #[iP t r.length] T)) s x 191 ho ob 194 i0 (.slice none 0 0) 1 24 underlying191 hi hz pZ qK rfl (by decide) v m.length (lz tags m) hs (et hB.own hE) ⟨w.heap.size,0,none⟩ 1 1 [iP t r.length] hx rfl ?_ ?_ ?_ ?_ ?_ ?_
 ·intro j q hq;rw [py,World.cell?_alloc_new];simpa using hq
 ·intro u hu;rw [List.mem_singleton.1 hu];rfl
 ·unfold maxLen;omega
 ·omega
 ·simp;omega
 ·intro v' w' hown pQ _ qb
  have hLB:=(hB.ext hE).snoc t r qm pn (hR.ext hE) hb hv hn hown pQ (by
   rcases qb with h1 | h1;·exact .inl h1
   ·exact .inr ⟨_,h1,oz _⟩)
  refine hK _ _ (h v' w' hLB ?_ ?_)
  ·have qP:w.grownBy w' v.ownBlock:=gO (hE.grown _) pQ;refine ⟨qP.os,qP.tape,qP.output,qP.size,fun b hb2=>qP.block b (by omega) ?_⟩;intro e;have:=(hB.own.lt b e.symm).1;omega
  ·obtain ⟨g,c,tU,-⟩:=eu hown (by omega);exact ⟨g,c,tU⟩
theorem R2_ (w:World) {ops:Array Oper} {rest:List Oper} {o:Oper} {a:Act} {Q:Exit->Act->World->Prop} (qj:o.guard=none)
  (s x:Operand) (ho:o.op=Op.call { callee:=Callee.builtin Builtin.append,args:=#[s,x],argTypes:=#[194,194] }) (base:Nat)
  (v:Value) (xs ys:pN) (hs:a.eval s=v) (hB:ai w base 92 1 v numC xs) (g c n:Nat) (hn:ys.length=n) (hx:a.eval x=.slice (some ⟨g,0,none⟩) n c) (hR:aW w g 0 ys)
  (hlen:xs.length+n<1000000) (hpos:1<=n) (pX:base<=w.heap.size)
  (h:∀ w' gr cr,aW w' gr 0 (xs++ys)->base<=gr->xs.length+n<=cr->cr<=maxLen->Below base w w'->wpList prog ops Q rest (a.put o.dst (.slice (some ⟨gr,0,none⟩) (xs.length+n) cr)) w') :
  wpList prog ops Q (o::rest) a w:=by
 refine wpList_plain qj fun K hK=>?_;subst hn;obtain ⟨i0,hi,hz,pZ,qK⟩:=info_parts nz;have py:∀ j,(⟨g,0,none⟩:Addr).add j=⟨g,0+j,none⟩:=by intro j;unfold Addr.add;split <;> simp_all
 have hbig:=hB.numsB;refine iR w s x 194 ho base 92 i0 (.string ⟨#[]⟩) 1 16 underlying194 hi hz pZ qK rfl (by decide) v xs.length (xs.map fun x=>Value.string (aB x)) hs hbig ⟨g,0,none⟩ ys.length c (ys.map fun x=>Value.string (aB x)) hx (by simp) ?_ ?_ ?_ ?_ pX ?_
 ·intro j q hq;rw [oh] at hq;cases hy:ys[j]? with
  | none=>rw [hy] at hq;cases hq
  | some y =>
   rw [hy] at hq;rw [py,hR.cell j y hy];exact congrArg some (o5 hq)
 ·intro u hu;obtain ⟨y,-,rfl⟩:=List.mem_map.1 hu;rfl
 ·unfold maxLen;omega
 ·omega
 ·intro v' w' hown pQ _ qb;have rG:w'.ownsRow base 92 1 v' (xs++ys).length ((xs++ys).map fun x=>Value.string (aB x)):=by
   rw [pG,List.map_append];exact hown
  obtain ⟨gr,cr,rfl,-⟩:=eu rG (by rw [pG];omega);obtain ⟨k1,k2,k3,k4⟩:=aW.of_ownsW rG;rw [pG] at k3;rw [pG];refine hK _ _ (h w' gr cr k1 k2 k3 k4 ⟨pQ.os,pQ.tape,pQ.output,pQ.size,fun b hb=>pQ.block b (by omega) ?_⟩);intro e;have:=(hbig.lt b e.symm).1;omega
def dn (l:pN):List Value:=l.map fun x=>.string (aB x)
theorem jZ (l:pN):(dn l).length=l.length:=by unfold dn;simp
theorem k3_ (l:pN):∀ v∈dn l,v.oneCell'=true:=by
 intro v hv;unfold dn at hv;obtain ⟨x,-,rfl⟩:=List.mem_map.1 hv;rfl
theorem oT {q:Int} {m j:Nat} (h:j<m):(dn (List.replicate m q))[j]?=some (.string (aB q)):=by
 unfold dn;rw [oh,List.getElem?_replicate,if_pos h];rfl
def cn (q:Int) (n k:Nat):List Value:=dn (List.replicate k q)++List.replicate (n-k) (.string ⟨#[]⟩)
theorem t7_ (q:Int) {n k:Nat} (h:k<=n):(cn q n k).length=n:=by
 unfold cn;rw [pG,jZ];simp;omega
theorem Z06 (q:Int) (n:Nat):cn q n n=dn (List.replicate n q):=by simp [cn]
theorem Z3x (q:Int) (n:Nat):cn q n 0=List.replicate n (.string ⟨#[]⟩):=by simp [cn,dn]
theorem l6_ (q:Int) {n k m:Nat} (h:k+m<=n):(cn q n k).take k++dn (List.replicate m q)++(cn q n k).drop (k+(dn (List.replicate m q)).length)=cn q n (k+m):=by
 have h1:(dn (List.replicate k q)).length=k:=by rw [jZ];simp
 unfold cn;rw [List.take_left' h1,List.drop_append,List.drop_eq_nil_of_le (by omega),h1,List.nil_append,List.drop_replicate,jZ,List.length_replicate,show k+m-k=m by omega,show n-k-m=n-(k+m) by omega,<- List.replicate_append_replicate (n:=k) (m:=m)];unfold dn;simp
theorem Z5e (q:Int) {n k m:Nat} (hm:m<=k) {j:Nat} {v:Value} (h:(dn (List.replicate m q))[j]?=some v):(cn q n k)[j]?=some v:=by
 unfold cn;have hj:=(od.1 h).1;rw [jZ,List.length_replicate] at hj;rw [o6 (by rw [jZ];simp;omega),oT (by omega)];rw [oT hj] at h;exact h
theorem Z5f (q:Int) (n:Nat) {xs:pN} (h:xs=List.replicate n q):iW (cn q n n) n n xs:=by
 refine ⟨t7_ q (oz n),fun i hi=>⟨aB q,by rw [Z06,oT hi]⟩,fun i x hi hx=>?_⟩;rw [Z06,oT hi];rw [h,List.getElem?_replicate,if_pos hi] at hx;cases hx;rfl
theorem e3_ (q:Int) (n:Nat) (hn:n<=1000) (v:Value) (w:World) (h:aN 1 numC w v [q]) :
  Calls prog 115 #[v,.int .i64 (n:Int)] w fun e w'=>∃ g,e=.returned (.slice (some ⟨g,0,none⟩) n n)/\w'.heap[g]?=some (.cells (cn q n n).toArray 92 (0,0))/\w.heap.size<=g/\aA w w':=by
 obtain ⟨i0,hi,pk,hz1,hz2⟩:=info_parts nz;have HI:=oZ hi;have HZ0:=oZ pk;have HZ1:=oZ hz1;have HZ2:=oZ hz2;clear hi pk hz1 hz2;obtain ⟨a,c,rfl,h1,h2,-,hc⟩:=ae.open (gW.of_nums h);obtain ⟨b,off,rfl,hb,pP⟩:=hc (by simp);have yD:Hid (∀ W,aA w W->∀ j v,(dn (List.replicate (Nat.min 1 n) q))[j]?=some v->W.cell? ((⟨b,off,none⟩:Addr).add j)=some v):=fun W hW j v hv=>by
  obtain ⟨u,hu1,hu⟩:=pP 0 q rfl;obtain rfl:u=.string (aB q):=hu1;have hj:=(od.1 hv).1;rw [jZ,List.length_replicate] at hj;have AH:Nat.min 1 n<=1:=Nat.min_le_left _ _;obtain rfl:j=0:=by omega
  rw [show (⟨b,off,none⟩:Addr).add 0=⟨b,off+0,none⟩ by unfold Addr.add;split <;> simp_all];refine hW.cell (hu.trans ?_);rw [<- hv,oT (by simpa using hj)]
 simp only [List.length_cons,List.length_nil,Nat.zero_add] at h1 |-;clear h hc pP;unfold maxLen at h2;have q1:¬ (n:Int)<0:=by omega
 have sY:Hid (∀ W,Calls prog 213 #[.int .u64 1,.int .u64 (n:Int)] W fun e w'=>e=.returned (.tuple #[.int .u64 0,.int .u64 (n:Int)])/\w'=W):=fun W=>by
  have:=bits_Mul 1 n (by decide) (by omega) W;rw [Nat.one_mul,Nat.div_eq_of_lt (by omega),Nat.mod_eq_of_lt (by omega)] at this;exact this
 have q2:IntKind.u64.wrap (n:Int)=(n:Int):=by rw [IntKind.wrap_u64];omega
 have q3:IntKind.i64.wrap (n:Int)=(n:Int):=by rw [IntKind.wrap_i64];omega
 have q4:¬ (9223372036854775807:Int)<(n:Int):=by omega
 go_enter func115,ntmps115
 go_wp2_with fail;refine (sY _).mono ?_;rintro e w1 ⟨rfl,rfl⟩;clear sY;go_wp2_with (at_make;refine wpList_make_full _ rfl _ _ 48 rfl w1.heap.size 92 i0 (.string ⟨#[]⟩) 1 underlying48 HI HZ0 HZ1 _ _ _ _ n rfl rfl rfl rfl ?c1 ?c2 ?c3 ?_)
 any_goals (first | (rw [HZ2.out];omega) | (unfold maxLen;omega) | exact oz _)
 intro w3 hown pQ;have hs2:(i0.zero=some (.string ⟨#[]⟩)):=HZ0.out;have HG3:Hid (w3.heap[w1.heap.size]?=some (.cells (cn q n 0).toArray 92 (0,0))/\aA w1 w3):=by
  refine ⟨?_,ic pQ⟩;rcases hown.2 with ⟨hv,-⟩ | ⟨g',cap,cur,hv,-,hg,-,-,h3,h4⟩
  ·simp at hv
  ·simp only [Value.slice.injEq,Option.some.injEq,Addr.mk.injEq] at hv;obtain ⟨⟨rfl,-,-⟩,-,rfl⟩:=hv;rw [hg,Z3x];congr 2;have h5:cur.toList=List.replicate n (.string ⟨#[]⟩):=by
    rw [List.take_of_length_le (by simp [h3])] at h4;rw [h4]
    (try rw [Nat.mul_one]);exact n3_ _
   rw [<- h5]
 clear hown pQ hs2;have rF:Hid ((dn (List.replicate (Nat.min 1 n) q)).length=Nat.min 1 n*1/\0+(dn (List.replicate (Nat.min 1 n) q)).length<=(cn q n 0).toArray.size):=by
  have h0:Nat.min 1 n<=n:=Nat.min_le_right _ _;refine ⟨by rw [jZ];simp,?_⟩;simp only [List.size_toArray];rw [jZ,t7_ q (Nat.zero_le n)];simp;omega
 obtain ⟨k0,qt⟩:=pL (Nat.min 1 n);have xY:k0<=n:=by rw [qt];exact Nat.min_le_right _ _
 have xX:0<n->0<k0:=fun h=>by rw [qt];exact Nat.lt_min.2 ⟨by omega,h⟩
 have HK:=oZ (And.intro xY xX);have HK0:=oZ qt;clear qt xY xX;have HCO:Hid ((((cn q n 0).toArray.toList.take 0)++dn (List.replicate (Nat.min 1 n) q)++(cn q n 0).toArray.toList.drop (0+(dn (List.replicate (Nat.min 1 n) q)).length)).toArray=(cn q n k0).toArray):=by
  have:=l6_ q (n:=n) (k:=0) (m:=k0) (by have:=HK.1;omega);unfold Hid;rw [HK0.out] at this |-;simpa using congrArg List.toArray this
 obtain ⟨W4,y6⟩:=pL (w3.setRow w1.heap.size (((cn q n 0).toArray.toList.take 0)++dn (List.replicate (Nat.min 1 n) q)++(cn q n 0).toArray.toList.drop (0+(dn (List.replicate (Nat.min 1 n) q)).length)).toArray);have xj:(Builtin.copy_ #[48,48] 3 #[.slice (some ⟨w1.heap.size,0,none⟩) n n,.slice (some ⟨b,off,none⟩) 1 c]).run prog w3=.ok (.int .i64 (k0:Int)) W4:=by
  rw [y6,HK0.out];exact S3_ w3 _ _ _ 92 w1.heap.size 0 n n ⟨b,off,none⟩ 1 c (cn q n 0).toArray 92 (dn (List.replicate (Nat.min 1 n) q)) 1 underlying48 (by kernel_rfl) HG3.1 rF.1 (yD _ HG3.2) (by have:=rF.2;simpa using this) (k3_ _)
 have HG4:Hid (W4.heap[w1.heap.size]?=some (.cells (cn q n k0).toArray 92 (0,0))/\aA w1 W4):=by
  rw [y6,HCO.out];exact ⟨setRow_heap w3 _ _ _ _ _ HG3.1,below_setRow HG3.2 (oz _) _⟩
 clear y6 HCO rF yD HK0;go_wp2_with fail;clear xj
 go_loopw [8] (fun t wr=>∃ k:Nat,k<=n/\(0<n->0<k)/\t=.int .i64 (k:Int)/\Hid (wr.heap[w1.heap.size]?=some (.cells (cn q n k).toArray 92 (0,0))/\aA w1 wr)) (fun t _=>n-(intOf t).toNat)
 case atStart=>exact ⟨k0,HK.1,HK.2,rfl,HG4⟩
 case round =>
  obtain ⟨k,hk,qt,rfl,HG⟩:=hrel;obtain ⟨wo,rfl⟩:∃ wo:World,wo=wr:=⟨_,rfl⟩;by_cases hlt:k<n
  ·skip;obtain ⟨m,hm⟩:=pL (Nat.min k (n-k));have qp:m<=k:=by rw [hm];exact Nat.min_le_left _ _
   have rI:m<=n-k:=(by rw [hm];exact Nat.min_le_right _ _);have vS:0<m:=(by rw [hm];exact Nat.lt_min.2 ⟨qt (by omega),by omega⟩);have HMN:Hid (m=Nat.min k (n-k)):=hm;have p1:(k:Int)<=(n:Int):=(by omega);have p2:(0:Int)<=(k:Int):=(by omega);have p3:IntKind.i64.wrap ((k:Int)+(m:Int))=(k:Int)+(m:Int):=(by rw [IntKind.wrap_i64];omega);have y7:wo.drew.heap[w1.heap.size]?=some (.cells (cn q n k).toArray 92 (0,0)):=HG.1;obtain ⟨W5,vF⟩:=pL (wo.drew.setRow w1.heap.size (((cn q n k).toArray.toList.take (k))++dn (List.replicate m q)++(cn q n k).toArray.toList.drop (k+(dn (List.replicate m q)).length)).toArray);have xj:(Builtin.copy_ #[48,48] 3 #[.slice (some ⟨w1.heap.size,k,none⟩) (n-k) (n-k),.slice (some ⟨w1.heap.size,0,none⟩) k n]).run prog wo.drew=.ok (.int .i64 (m:Int)) W5:=by
    rw [vF,hm]
    exact S3_ wo.drew _ _ _ 92 w1.heap.size (k) (n-k) (n-k) ⟨w1.heap.size,0,none⟩ k n (cn q n k).toArray 92 (dn (List.replicate (Nat.min k (n-k)) q)) 1 underlying48 (by kernel_rfl) y7 (by rw [jZ];simp) (fun j v hv=>by
     rw [show (⟨w1.heap.size,0,none⟩:Addr).add j=⟨w1.heap.size,j,none⟩ by unfold Addr.add;split <;> simp_all];have:=Z5e q (n:=n) (k:=k) (Nat.min_le_left _ _) hv;simp only [World.cell?,y7]
     simpa using this) (by simp only [List.size_toArray];rw [jZ,t7_ q hk,List.length_replicate,<- hm];omega) (k3_ _)
   have HG5:Hid (W5.heap[w1.heap.size]?=some (.cells (cn q n (k+m)).toArray 92 (0,0))/\aA w1 W5):=by
    rw [vF];refine ⟨?_,below_setRow (HG.2.trans (aA.drew _)) (oz _) _⟩;rw [setRow_heap wo.drew _ _ _ _ _ y7];have:=l6_ q (n:=n) (k:=k) (m:=m) (by omega);rw [<- this]
   have q5:(k:Int)<(n:Int):=(by omega);have q6:¬ n=k:=(by omega);clear vF hm y7
   go_upto_region 9 with (fail)
   refine iq (fun _=>True) 7 (by kernel_rfl) trivial (fun pO=>?_);refine rA [0,1,2,3,4,5,6] ?_
   iterate 7 ((refine rW (v:=?_) (by rfl) (Or.inl ⟨by rfl,?_⟩) ?_;rotate_left;·((intro w');(try go_simp);(try with_reducible rfl)));(try simp only [Act.put,aQ,aR,aS]))
   refine rE ?_;refine dH 7 (by kernel_rfl) rfl (fun K hK=>?_);go_simp;refine hK _ _ trivial (fun pO=>?_);clear hK K
   (try simp only [Act.put,aQ,aR,aS])
   refine tW (v:=?_) 8 rfl (Or.inl ⟨by rfl,?_⟩) ?_;rotate_left;·((intro w');(try go_simp);(try with_reducible rfl))
   (try simp only [Act.put,aQ,aR,aS])
   refine fL 9 (by kernel_rfl) (by kernel_rfl) (by kernel_rfl) rfl (fun K hK=>?_);go_simp;refine hK _ _ ?_;clear hK K
   (try simp only [Act.put,aQ,aR,aS])
   clear xj pO;go_wp2_with fail;go_roundw
   case rel=>exact ⟨k+m,by omega,fun _=>by omega,by go_num,HG5⟩
   case measure=>simp [intOf];omega
  ·obtain rfl:k=n:=(by omega);go_wp2_with fail;go_ret;exact ⟨_,rfl,HG.1,oz _,HG.2⟩
end Go.Proofs.YtoonaddcfakamaaGreatDoor
