import Derived.Test.YtjlkkofmojgipaaGreatDoorVAO
import Derived.Test.YtjlkkofmojgipaaGreatDoorVAF
import Derived.RegionTactic
import Derived.BigRegion
import Derived.Deep.DeepCutAuto
import Derived.Test.YtjlkkofmojgipaaGreatDoorVAJ
import Derived.Laws.CopyRow
import Derived.Laws.CopyOwn
import Derived.Deep.CutRange
import Derived.Test.YtjlkkofmojgipaaGreatDoorShelfB
set_option linter.unusedVariables false
set_option linter.unusedSimpArgs false
set_option maxRecDepth 1000000
set_option maxHeartbeats 40000000
namespace Go.Proofs.YtjlkkofmojgipaaGreatDoor
open Go.RowKit Go.Proofs.Tryz
theorem Z2Q {l:List Nat} {i x:Nat} (h:l.Nodup) (hx:x∉l):(l.set i x).Nodup:=by
 rw [List.Nodup,List.pairwise_iff_getElem] at h |-;intro a b ha hb pZ;rw [List.length_set] at ha hb;rw [List.getElem_set,List.getElem_set]
 split
 ·split
  ·omega
  ·intro e;exact hx (e▸List.getElem_mem _)
 ·split
  ·intro e;exact hx (e▸List.getElem_mem _)
  ·exact h a b ha hb pZ
theorem bM.newRow {w w':World} {g0:Nat} {tags:List (Nat×Nat×Nat)} {m:oe} (h:bM w g0 tags m) (i:Nat) (hi:i<m.length) (t:Nat×Nat×Nat) (r:og) (he:aA w w') (hR:ag w' t.1 t.2.1 r) (Kd:w.heap.size<=t.1) (h1:r.length<=t.2.2) (h2:t.2.2<=maxLen) :
  bM (w'.setCell ⟨g0,i,none⟩ (.slice (some ⟨t.1,t.2.1,none⟩) r.length t.2.2)) g0 (tags.set i t) (m.set i r):=by
 have h':=h.ext he;have hg:g0≠t.1:=by have:=h.lt;omega
 refine ⟨by rw [List.length_set,List.length_set];exact h.len,by rw [nw];exact h'.lt,fun j=>by rw [Y2_];exact h'.free j,fun j s q hs hq=>?_,?_⟩
 ·rw [oW] at hs hq;obtain ⟨t0,B5,vV,-⟩:=h'.get i hi;by_cases hj:i=j
  ·subst hj;rw [if_pos rfl,if_pos (by rw [h.len];exact hi)] at hs;rw [if_pos rfl,if_pos hi] at hq;cases hs;cases hq;exact ⟨World.cell?_setCell_same _ _ _ vV,h1,h2,hR.other _ _ _ (fun e=>hg e.symm)⟩
  ·rw [if_neg hj] at hs hq;obtain ⟨q1,q2,q3,q4⟩:=h'.row j s q hs hq;refine ⟨(World.cell?_setCell_other _ _ _ _ (by intro e;simp only [Addr.mk.injEq] at e;exact hj e.2.1)).trans q1,q2,q3,q4.other _ _ _ ?_⟩;have hl:j<m.length:=(oC.1 hq).1;obtain ⟨s',sE,-,-,-,-,hne⟩:=h'.get j hl;obtain rfl:s'=s:=oM (sE.symm.trans hs);exact hne
 ·rw [List.map_set];have:=h.nodup;rw [List.nodup_cons] at this |-;have Ez:t.1∉tags.map (·.1):=fun hm=>by
   have:=h.blt (b:=t.1) (List.mem_cons_of_mem _ hm);omega
  refine ⟨fun hm=>?_,Z2Q this.2 Ez⟩;rcases List.mem_or_eq_of_mem_set hm with e | e;·exact this.1 e
  ·exact hg e
theorem bM.elem {w:World} {g0:Nat} {tags:List (Nat×Nat×Nat)} {m:oe} (h:bM w g0 tags m) {n:Nat} (hok:bH n m=true) (i c:Nat) (hi:i<m.length) (hc:c<n) :
  ∃ t:Nat×Nat×Nat,tags[i]?=some t/\w.cell? ⟨g0,i,none⟩=some (.slice (some ⟨t.1,t.2.1,none⟩) n t.2.2)/\n<=t.2.2/\t.2.2<=maxLen/\w.cell? ⟨t.1,t.2.1+c,none⟩=some (.string (aB (aC m i c)))/\ag w t.1 t.2.1 (aD m i)/\t.1≠g0/\Sz (aC m i c)/\(aD m i).length=n/\(aD m i)[c]?=some (aC m i c):=by
 obtain ⟨t,ht,h1,h2,h3,h4,h5⟩:=h.get i hi;obtain ⟨hl,hs⟩:=eZ hok i hi;have hcl:c<(aD m i).length:=by omega
 have e:(aD m i)[c]?=some (aC m i c):=by
  unfold aC;rw [oD,oB hcl];rfl
 rw [hl] at h1 h2;exact ⟨t,ht,h1,h2,h3,h4.cell c _ e,h4,h5,ec (List.all_eq_true.1 hs _ (oE e)),hl,e⟩
def mr:Option Nat->Value
 | none=>.int .i64 (-1)
 | some a=>.int .i64 a
theorem W6_ (c d:Nat) (m:oe) (k:Nat):an c d m (k+1)=match an c d m k with
  | none=>if aC m (d+k) c=0 then none else some (d+k)
  | some a=>if aC m (d+k) c≠0/\(aC m (d+k) c).natAbs<(aC m a c).natAbs then some (d+k) else some a:=rfl
theorem Z0f {c d i:Nat} {m:oe} (hi:d<=i) (h:aC m i c=0):an c d m (i+1-d)=an c d m (i-d):=by
 rw [show i+1-d=(i-d)+1 by omega,W6_,show d+(i-d)=i by omega];cases an c d m (i-d) with
 | none=>simp [h]
 | some a=>simp [h]
theorem l7_ {c d i:Nat} {m:oe} (hi:d<=i) (h:aC m i c≠0) (hb:an c d m (i-d)=none):an c d m (i+1-d)=some i:=by
 rw [show i+1-d=(i-d)+1 by omega,W6_,show d+(i-d)=i by omega,hb];simp [h]
theorem Z0e {c d i a:Nat} {m:oe} (hi:d<=i) (h:aC m i c≠0) (hb:an c d m (i-d)=some a):an c d m (i+1-d)=if (aC m i c).natAbs<(aC m a c).natAbs then some i else some a:=by
 rw [show i+1-d=(i-d)+1 by omega,W6_,show d+(i-d)=i by omega,hb];simp only;by_cases hl:(aC m i c).natAbs<(aC m a c).natAbs;·rw [if_pos ⟨h,hl⟩,if_pos hl]
 ·rw [if_neg (fun x=>hl x.2),if_neg hl]
theorem z1_ {c d:Nat} {m:oe}:∀ (k a:Nat),an c d m k=some a->d<=a/\a<d+k/\aC m a c≠0
 | 0,a,h=>by simp [an] at h
 | k+1,a,h=>by
  rw [W6_] at h;cases hb:an c d m k with
  | none =>
   rw [hb] at h;simp only at h
   split at h
   ·cases h
   ·rename_i hne;obtain rfl:=oM h;exact ⟨by omega,by omega,hne⟩
  | some b =>
   rw [hb] at h;simp only at h;have ih:=z1_ k b hb
   split at h
   ·rename_i hc;obtain rfl:=oM h;exact ⟨by omega,by omega,hc.1⟩
   ·obtain rfl:=oM h;exact ⟨ih.1,by omega,ih.2.2⟩
theorem Z5j (x y:Int):decide (fD (x.natAbs:Int) (y.natAbs:Int)<0)=decide (x.natAbs<y.natAbs):=by
 unfold fD;by_cases h:x.natAbs<y.natAbs;·rw [if_pos (by omega),oT h];rfl
 ·rw [if_neg (by omega),oS h];split <;> rfl
theorem a9_ {x:Int} (h:Sz x):(aB x).size<=10000000000:=by have:=h.size;omega
theorem Z6h (y:Int):aN 0 y=0/\aq 0 y=0:=by unfold aN aq;simp
theorem Z2P {m:oe} {i:Nat} (hi:i<m.length):m.set i (aD m i)=m:=by
 apply List.ext_getElem?;intro j;rw [oW];by_cases h:i=j;·subst h;rw [if_pos rfl,if_pos hi,eE hi]
 ·rw [if_neg h]
theorem Q7_:∀ (r s:og),s.length=r.length->aW 0 r s=r
 | [],[],_=>rfl
 | a::r,b::s,h=>by rw [aW,Q7_ r s (by simpa using h)];simp
 | [],_::_,h=>by simp at h
 | _::_,[],h=>by simp at h
theorem c0_ {k:Int} {r s r':og} (h:eV k r s=some r') (hl:s.length=r.length) (hr:r.all bp=true) (hs:s.all bp=true):r'=aW k r s/\(aB k).size<=2800000000/\(∀ b∈s,(aB b).size<=2800000000/\(aB (k*b)).size<=2800000000):=by
 unfold eV at h;by_cases h0:k=0
 ·rw [if_pos h0] at h;subst h0;refine ⟨by rw [Q7_ r s hl];exact (oM h).symm,by decide +kernel,fun b hb=>?_⟩;have:=(ec (List.all_eq_true.1 hs b hb)).size;rw [Int.zero_mul];exact ⟨by omega,by decide +kernel⟩
 ·rw [if_neg h0] at h;by_cases hc:s.length=r.length/\(iZ k && s.all iZ && r.all bp)=true
  ·rw [if_pos hc] at h;have h2:=hc.2;rw [Bool.and_eq_true,Bool.and_eq_true] at h2;have hk:=(a5_ h2.1.1).size;refine ⟨(oM h).symm,by omega,fun b hb=>?_⟩;have h3:=(a5_ (List.all_eq_true.1 h2.1.2 b hb)).size;have h4:=c7_ k b;exact ⟨by omega,by omega⟩
  ·rw [if_neg hc] at h;cases h
def mb (tags:List (Nat×Nat×Nat)) (B:Nat) (tags':List (Nat×Nat×Nat)):Prop:=∀ t∈tags',t∈tags\/B<=t.1
theorem Q3_ (n F c d:Nat) (m:oe) (tags:List (Nat×Nat×Nat)) (g0 cap:Nat) (w:World) (R:oe×Bool) (hM:bM w g0 tags m) (hok:dD n c d F m=some R)
  (pk:m.length<=cap) (pN:cap<=maxLen) (hd:d<=m.length) (s6:c<n) (hn:n<=1000000) (ht:ae w) (hb:4<g0) :
  Calls prog 136 #[.slice (some ⟨g0,0,none⟩) m.length cap,.int .i64 d,.int .i64 c] w fun e w'=>∃ tags',e=.returned (.bool R.2)/\bM w' g0 tags' R.1/\mb tags w.heap.size tags'/\aG (·=g0) w w':=by
 have HM:=oA hM;have HOK:=oA hok;have HT:=oA ht;have HB:=oA hb;have wW:Hid (∀ W,aG (·=g0) w W->ae W):=fun W hW=>ht.below (hW.below (base:=g0) (Nat.le_of_lt hM.lt) (fun k hk=>by rw [hk];exact oK _)) hb;unfold maxLen at pN;obtain ⟨L,hL⟩:=oZ m.length;rw [hL] at pk hd |-;have HL:=oA hL;clear hM hok ht hb hL
 go_enter func136,ntmps136
 go_wp2_with fail
 go_loopg [] F (fun f wr=>∃ (m2:oe) (pC:List (Nat×Nat×Nat)),aG (·=g0) w wr/\Hid (bM wr g0 pC m2)/\Hid (m2.length=L)/\Hid (dD n c d f m2=some R)/\Hid (mb tags w.heap.size pC))
 case atStart=>exact ⟨m,tags,aG.refl _ _,HM,HL,HOK,fun t ht=>.inl ht⟩
 case round =>
  obtain ⟨m2,pC,hG,HFA,HL2,HSW,Jc⟩:=hrel;obtain ⟨w2,rfl⟩:∃ w2:World,w2=wr:=⟨_,rfl⟩;cases gk with
  | zero=>exact absurd HSW.out (by unfold dD;simp)
  | succ f =>
  have hS:=HSW.out;rw [iu] at hS;by_cases sV:bH n m2=true
  ·rw [if_pos sV,HL2.out] at hS;have HOKM:=oA sV;have HS:=oA hS;clear hS sV HSW;go_wp2_with fail
   go_loopw [7,8] (fun sa si wr=>∃ i:Nat,d<=i/\i<=L/\si=.int .i64 i/\aA w2 wr/\Hid (sa=mr (an c d m2 (i-d)))) (fun _ si _=>L-(intOf si).toNat)
   case atStart=>exact ⟨d,by omega,by omega,rfl,aA.refl _,by rw [Nat.sub_self];rfl⟩
   case round =>
    obtain ⟨i,rm,FL,rfl,hE,HA⟩:=hrel;obtain ⟨w3,rfl⟩:∃ w3:World,w3=wr:=⟨_,rfl⟩;have HA0:=HA;have hA:=HA.out;clear HA;by_cases hil:i<L
    ·as_aux_lemma =>
     obtain ⟨t,ht,k1,k2,k3,k4,k5,k6,k7,-,-⟩:=bM.elem (HFA.ext hE) HOKM i c (by rw [HL2.out];exact hil) s6;unfold maxLen at k3;have hz:=fV (aC m2 i c);by_cases he:aC m2 i c=0
     ·rw [oT he] at hz;have HN:Hid (u7=mr (an c d m2 (i+1-d))):=(by unfold Hid;rw [Z0f rm he];exact hA);have HE:=oA hE;obtain ⟨x,hx⟩:=oZ (aC m2 i c);rw [hx] at k4 hz;clear ht k5 k6 k7 hA he hx hE;go_wp2_with fail
      go_quiet (fail)
      go_wp2_with fail;go_roundw
      case rel=>exact ⟨i+1,by omega,by omega,by go_num,aA.draws HE _,HN⟩
      case measure=>simp [intOf];omega
     ·rw [oS he] at hz;cases py:an c d m2 (i-d) with
      | none =>
       rw [py] at hA;obtain rfl:u7=.int .i64 (-1):=hA;have HN:Hid (Value.int .i64 (i:Int)=mr (an c d m2 (i+1-d))):=(by unfold Hid;rw [l7_ rm he py];rfl);have HE:=oA hE;obtain ⟨x,hx⟩:=oZ (aC m2 i c);rw [hx] at k4 hz;clear ht k5 k6 k7 he hx hE py;go_wp2_with fail
       go_quiet (fail)
       go_wp2_with fail;go_roundw
       case rel=>exact ⟨i+1,by omega,by omega,by go_num,aA.draws HE _,HN⟩
       case measure=>simp [intOf];omega
      | some a =>
       rw [py] at hA;obtain rfl:u7=.int .i64 a:=hA;obtain ⟨sB,ha2,Aj⟩:=z1_ _ _ py;have ze:a<L:=(by omega);obtain ⟨s,hs,l1,l2,l3,l4,l5,l6,l7,-,-⟩:=bM.elem (HFA.ext hE) HOKM a c (by rw [HL2.out];exact ze) s6;unfold maxLen at l3;have HNX:=oA (Z0e rm he py);have HCM:=oA (Z5j (aC m2 i c) (aC m2 a c));have HE:=oA hE;obtain ⟨x,hx⟩:=oZ (aC m2 i c);obtain ⟨y,hy⟩:=oZ (aC m2 a c);rw [hx] at k4 hz k7 HNX HCM;rw [hy] at l4 l7 HNX HCM;have HCQ:=oA (fun W=>s0_ (x.natAbs:Int) (y.natAbs:Int) W (a9_ k7.natAbs) (a9_ l7.natAbs));clear ht k5 k6 k7 he hx hy hE py hs l5 l6 l7 sB ha2 Aj;by_cases hxy:x.natAbs<y.natAbs
       ·have wR:decide (fD (x.natAbs:Int) (y.natAbs:Int)<0)=true:=(by rw [HCM.out];exact oT hxy);have HN:Hid (Value.int .i64 (i:Int)=mr (an c d m2 (i+1-d))):=(by unfold Hid;rw [HNX.out,if_pos hxy];rfl);clear hxy HNX HCM;go_wp2_with fail
        go_quiet ((first | (go_at_call 152;exact Calls.quiet_of (mi _ _)) | (go_at_call 151;exact Calls.quiet_of (HCQ _))))
        go_wp2_with fail;go_roundw
        case rel=>exact ⟨i+1,by omega,by omega,by go_num,aA.draws HE _,HN⟩
        case measure=>simp [intOf];omega
       ·have wR:decide (fD (x.natAbs:Int) (y.natAbs:Int)<0)=false:=(by rw [HCM.out];exact oS hxy);have HN:Hid (Value.int .i64 (a:Int)=mr (an c d m2 (i+1-d))):=(by unfold Hid;rw [HNX.out,if_neg hxy];rfl);clear hxy HNX HCM;go_wp2_with fail
        go_quiet ((first | (go_at_call 152;exact Calls.quiet_of (mi _ _)) | (go_at_call 151;exact Calls.quiet_of (HCQ _))))
        go_wp2_with fail;go_roundw
        case rel=>exact ⟨i+1,by omega,by omega,by go_num,aA.draws HE _,HN⟩
        case measure=>simp [intOf];omega
    ·obtain rfl:i=L:=(by omega);clear hA;have hA:=HA0.out;have hS:=HS.out;have HE:=oA hE;have HG3:=oA (hG.ext hE);have HF3:=oA (HFA.ext hE);clear hE hG HFA HS;cases py:an c d m2 (i-d) with
     | none =>
      rw [py] at hA hS;obtain rfl:u7=.int .i64 (-1):=hA;obtain rfl:=oM hS;clear py HA0;go_wp2_with fail;go_ret;exact ⟨rfl,pC,HF3,Jc,HG3⟩
     | some a =>
      rw [py] at hA hS;obtain rfl:u7=.int .i64 a:=hA
      dsimp only at hS
      obtain ⟨sB,ha2,Aj⟩:=z1_ _ _ py;have ze:a<i:=(by omega);obtain ⟨td,we,c1,c2,c3,c4,c5⟩:=HF3.get d (by rw [HL2.out];omega);obtain ⟨ta,wg,e1,e2,e3,e4,e5⟩:=HF3.get a (by rw [HL2.out];omega);have fd:=HF3.free d;have fa:=HF3.free a;have HTD:=oA we;have HTA:=oA wg;have HSW1:=oA (HF3.swap d a (by rw [HL2.out];omega) (by rw [HL2.out];omega) td ta we wg);have HSd:=oA hS;clear hS py HA0 we wg c2 c3 c4 c5 e2 e3 e4 e5 ha2 Aj
      go_upto_region 9 with fail
      go_cut [] from 14 to 129 (fun wx=>Hid (bM wx g0 (a8 pC d a) (a8 m2 d a))/\Hid (aG (·=g0) w wx))
      case first =>
       as_aux_lemma =>
       by_cases vz:d=a
       ·subst vz;obtain rfl:td=ta:=oM (HTD.symm.trans HTA)
        go_region
        all_goals (go_wp2_with fail;go_meet;exact ⟨HSW1.ext (aA.drew _),((HG3.setCell rfl _ _).setCell rfl _ _).ext (aA.drew _)⟩)
       ·have Ff:¬ a=d:=fun e=>vz e.symm
        go_region
        all_goals (go_wp2_with fail;go_meet;exact ⟨HSW1.ext (aA.drew _),((HG3.setCell rfl _ _).setCell rfl _ _).ext (aA.drew _)⟩)
      case rest =>
       obtain ⟨zz,BC⟩:=hcut;have HOKS:=oA (w4_ HOKM d a);have qn:Hid ((a8 m2 d a).length=i):=(by unfold Hid;rw [jc];exact HL2);have DL:Hid (mb tags w.heap.size (a8 pC d a)):=fun t ht=>Jc t (S9_ _ _ _ _ ht);have hSd:=HSd.out;obtain ⟨ms,yP⟩:=oZ (a8 m2 d a);obtain ⟨ts,ID⟩:=oZ (a8 pC d a);rw [yP] at zz HOKS qn hSd;rw [ID] at zz DL;clear yP ID HSd HSW1 HF3 HG3 c1 e1 fd fa HTD HTA;cases pP:cB c d ms (i-(d+1)) with
       | none=>rw [pP] at hSd;cases hSd
       | some r =>
       obtain ⟨mf,rf⟩:=r;rw [pP] at hSd;have HDN:=oA pP;have HSE:=oA hSd;clear pP hSd;go_wp2_with fail
       go_loopw [9,10] (fun sr si wr=>∃ (i4:Nat) (mj:oe) (rj:Bool) (tj:List (Nat×Nat×Nat)),d+1<=i4/\i4<=i/\si=.int .i64 i4/\sr=.bool (!rj)/\Hid (aG (·=g0) w wr)/\Hid (bM wr g0 tj mj)/\Hid (cB c d ms (i4-(d+1))=some (mj,rj))/\Hid (mb tags w.heap.size tj)) (fun _ si _=>i-(intOf si).toNat)
       case atStart=>exact ⟨d+1,ms,false,ts,by omega,by omega,by go_num,rfl,BC,zz,by unfold Hid;rw [Nat.sub_self];rfl,DL⟩
       case round =>
        obtain ⟨i4,mj,rj,tj,Lr,Ax,rfl,rfl,qd,qK,pn,HTJ⟩:=hrel;obtain ⟨w4,rfl⟩:∃ w4:World,w4=wr:=⟨_,rfl⟩;obtain ⟨sj,rR,vf⟩:=jt pn (by rw [qn.out];omega);have qG:Hid (mj.length=i):=(by unfold Hid;rw [sj];exact qn);by_cases DF:i4<i
        ·skip;obtain ⟨z,sA⟩:=D0_ HDN (i4+1-(d+1)) (by omega);rw [show i4+1-(d+1)=(i4-(d+1))+1 by omega] at sA;obtain ⟨mj',rj',nr,e1,ph,pH,e2⟩:=nJ sA;rw [pn.out] at e1;simp only [Option.some.injEq,Prod.mk.injEq] at e1;obtain ⟨rfl,rfl⟩:=e1;rw [show d+1+(i4-(d+1))=i4 by omega] at pH e2;have rM:(aD mj i4).length=n/\(aD mj i4).all bp=true:=by
          rw [rR i4 (by omega)];exact eZ HOKS i4 (by rw [qn.out];omega)
         have se:(aD mj d).length=n/\(aD mj d).all bp=true:=by
          rw [rR d (by omega)];exact eZ HOKS d (by rw [qn.out];omega)
         have HST:Hid (cB c d ms (i4+1-(d+1))=some (mj.set i4 nr,rj || decide (aq (aC mj i4 c) (aC mj d c)≠0))):=(by unfold Hid;rw [show i4+1-(d+1)=(i4-(d+1))+1 by omega,sA,e2]);have hzz:=c0_ pH (by rw [rM.1,se.1]) rM.2 se.2;obtain ⟨rfl,CG,wh⟩:=hzz;clear sA e2 sj rR vf pH;obtain ⟨t4,sU,b1,b2,b3,b4,b5⟩:=qK.get i4 (by rw [qG.out];omega);obtain ⟨tp,sD,p1,p2,p3,p4,p5⟩:=qK.get d (by rw [qG.out];omega);have ex:(aD mj i4)[c]?=some (aC mj i4 c):=by
          unfold aC;rw [oD,oB (by rw [rM.1];exact s6)];rfl
         have ey:(aD mj d)[c]?=some (aC mj d c):=by
          unfold aC;rw [oD,oB (by rw [se.1];exact s6)];rfl
         have b6:=b4.cell c _ ex;have p6:=p4.cell c _ ey;have rB:Sz (aC mj i4 c):=ec (List.all_eq_true.1 rM.2 _ (oE ex));have tc:Sz (aC mj d c):=ec (List.all_eq_true.1 se.2 _ (oE ey));have HDM:=oA (fun W hW=>nI (aC mj i4 c) (aC mj d c) W rB tc ph hW);have hz:=fV (aC mj i4 c);have HNW:=oA (nY (aN (aC mj i4 c) (aC mj d c)) _ _ c _ _ ex ey);have wu:∀ a∈aD mj i4,(aB a).size<=2800000000:=fun a ha=>by have:=(ec (List.all_eq_true.1 rM.2 a ha)).size;omega
         have hll:(aD mj d).length=(aD mj i4).length:=(by rw [rM.1,se.1]);rw [rM.1] at b1 b2;rw [se.1] at p1 p2;have HLS:Hid (∀ W,aA w4 W->Calls prog 137 #[.slice (some ⟨t4.1,t4.2.1,none⟩) n t4.2.2,.slice (some ⟨tp.1,tp.2.1,none⟩) n tp.2.2,.string (aB (aN (aC mj i4 c) (aC mj d c)))] W fun e w'=>e=.returned (.slice (some ⟨W.heap.size,0,none⟩) n n)/\aA W w'/\ag w' W.heap.size 0 (aW (aN (aC mj i4 c) (aC mj d c)) (aD mj i4) (aD mj d))):=fun W hW=>by
          have h9:=N7_ (aN (aC mj i4 c) (aC mj d c)) (aD mj i4) (aD mj d) t4.1 t4.2.1 t4.2.2 tp.1 tp.2.1 tp.2.2 W (b4.ext hW) (p4.ext hW) hll CG wu wh (by rw [rM.1];exact b2) b3 (by rw [se.1];exact p2) p3 (by rw [rM.1];exact hn) (wW _ (qd.ext hW));rw [rM.1,se.1] at h9;exact h9
         have Ao:(aW (aN (aC mj i4 c) (aC mj d c)) (aD mj i4) (aD mj d)).length=n:=(by rw [eU];exact rM.1);have vW:aC mj i4 c=0->mj.set i4 (aW (aN (aC mj i4 c) (aC mj d c)) (aD mj i4) (aD mj d))=mj:=fun h0=>by
          rw [h0,(Z6h _).1,Q7_ _ _ hll,Z2P (by rw [qG.out];omega)]
         have hfz:=lx (aC mj i4 c) (aC mj d c);have hfm:=fV (aq (aC mj i4 c) (aC mj d c));unfold maxLen at b3 p3;obtain ⟨nr,CQ⟩:=oZ (aW (aN (aC mj i4 c) (aC mj d c)) (aD mj i4) (aD mj d));rw [CQ] at HLS HNW Ao vW HST;obtain ⟨xe,tB⟩:=oZ (aC mj i4 c);obtain ⟨ye,qf⟩:=oZ (aC mj d c);rw [tB] at b6 HDM hz HNW HLS vW hfz hfm HST;rw [qf] at p6 HDM HNW HLS hfz hfm HST;have HNL:=oA Ao;have HSAME:=oA vW;have HY0:=oA ph;rw [qf] at HY0;rw [show xe-aN xe ye*ye=aq xe ye by rw [Int.mul_comm];omega] at HNW;have A7:Hid (i4<mj.length):=(by unfold Hid;rw [qG.out];exact DF);have HT4:=oA sU;have sO:d<i:=(by omega);clear CQ tB qf ex ey rB tc sU sD b4 p4 b5 p5 ph rM se CG wh wu hll Ao vW hfz qn HDN HSE HOKS;by_cases pG:xe=0
         ·have hST:=HST.out;rw [HSAME.out pG,pG,(Z6h ye).2] at hST;have x4:Hid (cB c d ms (i4+1-(d+1))=some (mj,rj)):=by
           unfold Hid;rw [hST];simp
          rw [oT pG] at hz;clear hST HST pG HLS HDM HSAME HNW HNL hfm;go_wp2_with fail;go_roundw
          case rel=>exact ⟨i4+1,mj,rj,tj,by omega,by omega,by go_num,rfl,qd,qK,x4,HTJ⟩
          case measure=>simp [intOf];omega
         ·rw [oS pG] at hz;clear pG HSAME
          go_upto_region 15 with fail
          refine lF (fun w'=>w'.cell? ⟨g0,i4,none⟩=some (.slice (some ⟨t4.1,t4.2.1,none⟩) n t4.2.2)/\w'.cell? ⟨t4.1,t4.2.1+c,none⟩=some (.string (aB xe))/\w'.cell? ⟨g0,d,none⟩=some (.slice (some ⟨tp.1,tp.2.1,none⟩) n tp.2.2)/\w'.cell? ⟨tp.1,tp.2.1+c,none⟩=some (.string (aB ye))/\Hid (aA w4 w')) 22 22 (by kernel_rfl) (by kernel_rfl) ⟨(aA.drew w4).cell b1,(aA.drew w4).cell b6,(aA.drew w4).cell p1,(aA.drew w4).cell p6,aA.drew w4⟩ (fun ops hO oh=>?_);refine rA [0,1,2,3,4,5,6,7,8,9,10,11,12,13] ?_
          iterate 14 (refine rS hO (by decide) fun o h=>?_;(conv at h=>lhs;whnf);subst h;(refine rY hO (v:=?_) (Or.inl ⟨by rfl,?_⟩) ?_;rotate_left;·((intro w' pO);(try dsimp only at pO);(try go_simp);(try with_reducible rfl)));(try simp only [Act.put,aP,aQ,aR]))
          refine rE ?_;have hi:=cM hO 14 (by decide)
          conv at hi=>rhs;arg 1;whnf
          refine gK hO 14 (by kernel_rfl) hi (fun K hK=>?_);go_simp
          (go_at_call 94;refine (HDM _ (wW _ (qd.ext (oh.2.2.2.2)))).mono ?_)
          rintro e w5 ⟨rfl,ow⟩;go_wp2_with fail;refine hK _ _ ⟨(ow).cell oh.1,(ow).cell oh.2.1,(ow).cell oh.2.2.1,(ow).cell oh.2.2.2.1,aA.trans oh.2.2.2.2 (ow)⟩ (fun oh=>?_);clear hK K hi
          (try simp only [Act.put,aP,aQ,aR])
          refine rA [15,16,17,18,19,20] ?_
          iterate 6 (refine rS hO (by decide) fun o h=>?_;(conv at h=>lhs;whnf);subst h;(refine rX hO (v:=?_) (Or.inl ⟨by rfl,?_⟩) ?_;rotate_left;·((intro w');(try go_simp);(try with_reducible rfl)));(try simp only [Act.put,aP,aQ,aR]))
          refine rE ?_;have HE5:Hid (aA w4 w5):=oh.2.2.2.2;have hi:=cM hO 21 (by decide)
          conv at hi=>rhs;arg 1;whnf
          refine kR hO 21 (by kernel_rfl) (by kernel_rfl) hi (fun K hK=>?_);go_simp;refine hK _ _ (by assumption) ?_;clear hK K hi hO
          (try simp only [Act.put,aP,aQ,aR])
          go_upto_region 16 with fail
          obtain ⟨w6,zJ⟩:=oc w5;rw [<- zJ];have HE6:Hid (aA w4 w6):=(by rw [zJ];exact HE5);have b7:=HE6.cell b1;have p7:=HE6.cell p1;clear zJ HDM;refine jE (fun w'=>w'.cell? ⟨g0,i4,none⟩=some (.slice (some ⟨t4.1,t4.2.1,none⟩) n t4.2.2)/\w'.cell? ⟨g0,d,none⟩=some (.slice (some ⟨tp.1,tp.2.1,none⟩) n tp.2.2)/\Hid (aA w6 w')) 13 (by kernel_rfl) ⟨(aA.drew w6).cell b7,(aA.drew w6).cell p7,aA.drew w6⟩ (fun oh=>?_);refine rA [0,1,2,3,4,5,6,7,8,9,10] ?_
          iterate 11 ((first|(refine rL (v:=?_) (by rfl) (Or.inl ⟨by rfl,?_⟩) ?_;rotate_left;·((intro w' pO);(try dsimp only at pO);(try go_simp);(try with_reducible rfl)))|(refine rW (v:=?_) (by rfl) (Or.inl ⟨by rfl,?_⟩) ?_;rotate_left;·((intro w');(try go_simp);(try with_reducible rfl))));(try simp only [Act.put,aP,aQ,aR]))
          refine rE ?_;have HE7:Hid (aA w4 w6.drew):=HE6.trans (aA.drew _);refine dh 11 (by kernel_rfl) rfl (fun K hK=>?_);go_simp
          (go_at_call 137;refine (HLS _ HE7).mono ?_)
          rintro e w8 ⟨rfl,ow,wU⟩;go_wp2_with fail;refine hK _ _ ⟨(ow).cell oh.1,(ow).cell oh.2.1,aA.trans oh.2.2 (ow)⟩ (fun oh=>?_);clear hK K
          (try simp only [Act.put,aP,aQ,aR])
          refine tW (v:=?_) 12 rfl (Or.inl ⟨by rfl,?_⟩) ?_;rotate_left;·((intro w');(try go_simp);(try with_reducible rfl))
          (try simp only [Act.put,aP,aQ,aR])
          have HE8:Hid (aA w4 w8):=HE6.trans oh.2.2;have q8:=HE8.cell b1;have f8:w8.frozen? ⟨g0,i4,none⟩=false:=(qK.ext HE8).free i4;refine fw 13 (by kernel_rfl) (by kernel_rfl) (by kernel_rfl) rfl (fun K hK=>?_);go_simp;refine hK _ _ ?_;clear hK K
          (try simp only [Act.put,aP,aQ,aR])
          have HRZ:Hid (ag w8 w6.heap.size 0 nr):=wU;have HM9:Hid (bM (w8.setCell ⟨g0,i4,none⟩ (.slice (some ⟨w6.heap.size,0,none⟩) n n)) g0 (tj.set i4 (w6.heap.size,0,n)) (mj.set i4 nr)):=by
           have h9:=qK.newRow i4 A7 (w6.heap.size,0,n) nr HE8 HRZ HE7.size (by rw [HNL.out];exact oK _) (by show n<=maxLen;unfold maxLen;omega);rw [HNL.out] at h9;exact h9
          have HG9:Hid (aG (·=g0) w (w8.setCell ⟨g0,i4,none⟩ (.slice (some ⟨w6.heap.size,0,none⟩) n n))):=(qd.ext HE8).setCell rfl _ _;have DM:Hid (mb tags w.heap.size (tj.set i4 (w6.heap.size,0,n))):=fun t ht=>by
           rcases List.mem_or_eq_of_mem_set ht with h | h;·exact HTJ t h
           ·rw [h];exact .inr (oJ qd.size HE7.size)
          have hcell:(w8.setCell ⟨g0,i4,none⟩ (.slice (some ⟨w6.heap.size,0,none⟩) n n)).cell? ⟨w6.heap.size,c,none⟩=some (.string (aB (aq xe ye))):=by
           have h9:=(HRZ.other g0 i4 (.slice (some ⟨w6.heap.size,0,none⟩) n n) (by have:=qK.lt;have:=HE6.size;omega)).cell c _ HNW;rw [Nat.zero_add] at h9;exact h9
          have qD:(w8.setCell ⟨g0,i4,none⟩ (.slice (some ⟨w6.heap.size,0,none⟩) n n)).cell? ⟨g0,i4,none⟩=some (.slice (some ⟨w6.heap.size,0,none⟩) n n):=World.cell?_setCell_same _ _ _ q8;obtain ⟨w9,rG⟩:=oZ (w8.setCell ⟨g0,i4,none⟩ (.slice (some ⟨w6.heap.size,0,none⟩) n n));rw [rG] at HM9 HG9 hcell qD |-;obtain ⟨gn,Ie⟩:=oZ w6.heap.size;rw [Ie] at hcell qD HM9 DM;clear rG Ie q8 f8 b1 p1 b6 p6 b7 p7 HLS HRZ wU hz oh;by_cases rK:aq xe ye=0
          ·rw [oT rK] at hfm;have x5:Hid ((rj || decide (aq xe ye≠0))=rj):=(by unfold Hid;rw [oS (by simp [rK]),Bool.or_false]);rw [x5.out] at HST;clear rK x5;cases rj
           all_goals
            go_wp2_with fail;go_roundw
            case rel=>exact ⟨i4+1,mj.set i4 nr,_,_,by omega,by omega,by go_num,rfl,HG9,HM9,HST,DM⟩
            case measure=>simp [intOf];omega
          ·rw [oS rK] at hfm;have x5:Hid ((rj || decide (aq xe ye≠0))=true):=(by unfold Hid;rw [oT rK,Bool.or_true]);rw [x5.out] at HST;clear rK x5;cases rj
           all_goals
            go_wp2_with fail;go_roundw
            case rel=>exact ⟨i4+1,mj.set i4 nr,true,_,by omega,by omega,by go_num,rfl,HG9,HM9,HST,DM⟩
            case measure=>simp [intOf];omega
        ·obtain rfl:i4=i:=(by omega);have yh:mj=mf/\rj=rf:=by
          have:=pn.out;rw [HDN.out] at this;simp only [Option.some.injEq,Prod.mk.injEq] at this;exact ⟨this.1.symm,this.2.symm⟩
         obtain ⟨rfl,rfl⟩:=yh;have hSE:=HSE.out;clear HSE HDN pn sj rR vf qn HOKS zz BC;cases rj with
         | true =>
          try dsimp only at hSE
          have HSE2:=oA hSE;clear hSE;go_wp2_with fail
          go_roundg f
          case measure=>omega
          case rel=>exact ⟨mj,tj,qd,qK,qG,HSE2,HTJ⟩
         | false =>
          try dsimp only at hSE
          obtain rfl:=oM hSE;clear hSE;go_wp2_with fail;go_ret;exact ⟨rfl,tj,qK,HTJ,qd⟩
  ·rw [if_neg sV] at hS;cases hS
theorem aU.numsB {w:World} {base:Nat} {e:TypeId} {v:Value} {xs:og} (h:aU w base e 1 v numC xs):w.ownsRow base e 1 v xs.length (xs.map fun x=>Value.string (aB x)):=by
 obtain ⟨us,h1,h2,h3,h4⟩:=h;have:us=xs.map fun x=>[Value.string (aB x)]:=by
  apply List.ext_getElem?;intro i;rw [oF];by_cases hi:i<xs.length
  ·have pg:i<us.length:=(by omega);have:=(h4 i us[i] xs[i] (by simp [pg]) (by simp [hi])).now;simp only [numC] at this;simp [hi,pg,this]
  ·rw [oL (by omega),oL (by omega)];rfl
 rw [this,di (fun x=>Value.string (aB x))] at h3;exact h3
theorem ag.of_ownsW {w:World} {base:Nat} {e:TypeId} {g cap:Nat} {xs:og} (h:w.ownsRow base e 1 (.slice (some ⟨g,0,none⟩) xs.length cap) xs.length (xs.map fun x=>Value.string (aB x))):ag w g 0 xs/\base<=g/\xs.length<=cap/\cap<=maxLen:=by
 have hc:=h.cells (g:=g) (by simp [Value.ownBlock]);have hf:=fun j=>h.frozenAt j;rcases h.2 with ⟨hv,_⟩ | ⟨g',cap',cur,hv,hb,hg,h1,h2,h3,h4⟩
 ·simp at hv
 ·simp only [Value.slice.injEq,Option.some.injEq,Addr.mk.injEq] at hv;obtain ⟨⟨rfl,-,-⟩,-,rfl⟩:=hv;refine ⟨⟨(Array.getElem?_eq_some_iff.1 hg).1,fun j x hx=>?_,fun j=>?_⟩,hb,h1,h2⟩
  ·have:=hc j (.string (aB x)) (by rw [oF,hx];rfl);rw [show (⟨g,0,none⟩:Addr).add j=⟨g,0+j,none⟩ by unfold Addr.add;split <;> simp_all] at this;exact this
  ·exact hf j
theorem Z45:(prog.info? 119).map (fun i=>(i.zero,i.size,i.bytes))=some (some (.slice none 0 0),1,24):=by kernel_rfl
def iB (t:Nat×Nat×Nat) (n:Nat):Value:=.slice (some ⟨t.1,t.2.1,none⟩) n t.2.2
def lJ (tags:List (Nat×Nat×Nat)) (m:oe):List Value:=List.zipWith (fun t r=>iB t r.length) tags m
structure eP (w:World) (ob base:Nat) (v:Value) (tags:List (Nat×Nat×Nat)) (m:oe):Prop where
 len:tags.length=m.length
 own:w.ownsRow ob 119 1 v m.length (lJ tags m)
 row:∀ (i:Nat) t r,tags[i]?=some t->m[i]?=some r->r.length<=t.2.2/\t.2.2<=maxLen/\ag w t.1 t.2.1 r/\base<=t.1/\v.ownBlock≠some t.1
 nodup:(tags.map (·.1)).Nodup
theorem eP.nil (w:World) (ob base:Nat):eP w ob base (.slice none 0 0) [] [] :=
 ⟨rfl,World.ownsRow_nil _ _ _ _,by intro i t r h;simp at h,by simp⟩
theorem eP.ext {w w':World} {ob base:Nat} {v:Value} {tags:List (Nat×Nat×Nat)} {m:oe} (h:eP w ob base v tags m) (he:aA w w'):eP w' ob base v tags m :=
 ⟨h.len,fN h.own he,fun i t r ht hr=>by
  obtain ⟨h1,h2,h3,h4,h5⟩:=h.row i t r ht hr
  exact ⟨h1,h2,h3.ext he,h4,h5⟩,h.nodup⟩
theorem eP.snoc {w w':World} {ob base:Nat} {v v':Value} {tags:List (Nat×Nat×Nat)} {m:oe} (h:eP w ob base v tags m) (t:Nat×Nat×Nat) (r:og) (qN:r.length<=t.2.2) (pX:t.2.2<=maxLen) (hR:ag w t.1 t.2.1 r) (hb:base<=t.1) (hv:v.ownBlock≠some t.1) (hn:t.1∉tags.map (·.1))
  (hown:w'.ownsRow ob 119 1 v' (m.length+1) (lJ tags m++[iB t r.length])) (hg:w.grownBy w' v.ownBlock) (qF:v'.ownBlock=v.ownBlock\/∃ b,v'.ownBlock=some b/\w.heap.size<=b) :
  eP w' ob base v' (tags++[t]) (m++[r]):=by
 have pQ:∀ (s:Nat×Nat×Nat) q,ag w s.1 s.2.1 q->v.ownBlock≠some s.1->ag w' s.1 s.2.1 q/\v'.ownBlock≠some s.1:=fun s q hs vL=>by
  refine ⟨hs.same hg.size (hg.block s.1 hs.lt vL.symm),fun e=>?_⟩;rcases qF with e2 | ⟨b,e2,e3⟩
  ·exact vL (e2.symm.trans e)
  ·rw [e2] at e;cases e;have:=hs.lt;omega
 refine ⟨by simp [h.len],?_,fun i s q hs hq=>?_,?_⟩
 ·have e:lJ (tags++[t]) (m++[r])=lJ tags m++[iB t r.length]:=by
   unfold lJ;rw [List.zipWith_append h.len];rfl
  rw [e,oV];exact hown
 ·by_cases hi:i<tags.length
  ·rw [oN hi] at hs;rw [oN (by rw [<- h.len];exact hi)] at hq;obtain ⟨h1,h2,h3,h4,h5⟩:=h.row i s q hs hq;obtain ⟨k1,k2⟩:=pQ s q h3 h5;exact ⟨h1,h2,k1,h4,k2⟩
  ·rw [oO (by omega)] at hs;rw [oO (by rw [<- h.len];omega)] at hq;have e1:i-tags.length=0:=(by have:=(oC.1 hs).1;simp at this;omega);have e2:i-m.length=0:=(by rw [<- h.len];exact e1);rw [e1] at hs;rw [e2] at hq;simp only [oQ,Option.some.injEq] at hs hq;subst hs;subst hq;obtain ⟨k1,k2⟩:=pQ t r hR hv;exact ⟨qN,pX,k1,hb,k2⟩
 ·rw [List.map_append,List.nodup_append];refine ⟨h.nodup,by simp,?_⟩;intro a ha b hb2 e;simp only [List.map_cons,List.map_nil,List.mem_singleton] at hb2;subst e;subst hb2;exact hn ha
theorem eP.mat {w:World} {ob base:Nat} {g cap:Nat} {tags:List (Nat×Nat×Nat)} {m:oe} (h:eP w ob base (.slice (some ⟨g,0,none⟩) m.length cap) tags m) (hob:base<=ob) :
  bM w g tags m/\m.length<=cap/\cap<=maxLen/\∀ b,dB g tags b->base<=b:=by
 have hc:=h.own.cells (g:=g) (by simp [Value.ownBlock]);have hf:=fun j=>h.own.frozenAt j;rcases h.own.2 with ⟨hv,_⟩ | ⟨g',cap',cur,hv,hb,hg,h1,h2,h3,h4⟩
 ·simp at hv
 ·simp only [Value.slice.injEq,Option.some.injEq,Addr.mk.injEq] at hv;obtain ⟨⟨rfl,-,-⟩,-,rfl⟩:=hv;refine ⟨⟨h.len,(Array.getElem?_eq_some_iff.1 hg).1,fun j=>hf j,fun i t r ht hr=>?_,?_⟩,h1,h2,fun b hb2=>?_⟩
  ·obtain ⟨k1,k2,k3,k4,k5⟩:=h.row i t r ht hr;refine ⟨?_,k1,k2,k3⟩;have:=hc i (iB t r.length) (by unfold lJ;rw [List.getElem?_zipWith,ht,hr]);rw [show (⟨g,0,none⟩:Addr).add i=⟨g,i,none⟩ by unfold Addr.add;split <;> simp_all] at this;exact this
  ·rw [List.nodup_cons];refine ⟨fun hm=>?_,h.nodup⟩;obtain ⟨t,ht,rfl⟩:=List.mem_map.1 hm;obtain ⟨i,hi⟩:=List.getElem?_of_mem ht;have hl:i<m.length:=(by rw [<- h.len];exact (oC.1 hi).1);exact (h.row i t m[i] hi (oB hl)).2.2.2.2 rfl
  ·rcases List.mem_cons.1 hb2 with rfl | hb2;·exact oJ hob hb
   ·obtain ⟨t,ht,rfl⟩:=List.mem_map.1 hb2;obtain ⟨i,hi⟩:=List.getElem?_of_mem ht;have hl:i<m.length:=(by rw [<- h.len];exact (oC.1 hi).1);exact (h.row i t m[i] hi (oB hl)).2.2.2.1
theorem Y3_ (w:World) {ops:Array Oper} {rest:List Oper} {o:Oper} {a:Act} {Q:Exit->Act->World->Prop} (pq:o.guard=none)
  (s x:Operand) (ho:o.op=Op.call { callee:=Callee.builtin Builtin.append,args:=#[s,x],argTypes:=#[116,116] }) (ob base:Nat)
  (v:Value) (tags:List (Nat×Nat×Nat)) (m:oe) (t:Nat×Nat×Nat) (r:og) (u:Array Value) (T:TypeId) (hs:a.eval s=v) (hB:eP w ob base v tags m)
  (hx:a.eval x=.slice (some ⟨w.heap.size,0,none⟩) 1 1) (hu:u=#[iB t r.length]) (qN:r.length<=t.2.2) (pX:t.2.2<=maxLen) (hR:ag w t.1 t.2.1 r) (hb:base<=t.1) (hv:v.ownBlock≠some t.1) (hn:t.1∉tags.map (·.1))
  (hlen:m.length<1000000) (o6:ob<=w.heap.size)
  (h:∀ v' w',eP w' ob base v' (tags++[t]) (m++[r])->Below ob w w'->Hid (∃ g c,v'=.slice (some ⟨g,0,none⟩) (m.length+1) c)->wpList prog ops Q rest (a.put o.dst v') w') :
  wpList prog ops Q (o::rest) a (w.alloc (.cells u T)):=by
 refine wpList_plain pq fun K hK=>?_;subst hu;obtain ⟨i0,hi,hz,o9,hby⟩:=info_parts Z45;have pU:∀ j,(⟨w.heap.size,0,none⟩:Addr).add j=⟨w.heap.size,j,none⟩:=by intro j;unfold Addr.add;split <;> simp_all
 have hE:aA w (w.alloc (.cells #[iB t r.length] T)):=aA.alloc _ _;refine ig (w.alloc (.cells #[iB t r.length] T)) s x 116 ho ob 119 i0 (.slice none 0 0) 1 24 underlying116 hi hz o9 hby rfl (by decide) v m.length (lJ tags m) hs (fN hB.own hE) ⟨w.heap.size,0,none⟩ 1 1 [iB t r.length] hx rfl ?_ ?_ ?_ ?_ ?_ ?_
 ·intro j q hq;rw [pU,World.cell?_alloc_new];simpa using hq
 ·intro u hu;rw [List.mem_singleton.1 hu];rfl
 ·unfold maxLen;omega
 ·omega
 ·simp;omega
 ·intro v' w' hown oo _ qF
  have hLB:=(hB.ext hE).snoc t r qN pX (hR.ext hE) hb hv hn hown oo (by
   rcases qF with h1 | h1;·exact .inl h1
   ·exact .inr ⟨_,h1,oK _⟩)
  refine hK _ _ (h v' w' hLB ?_ ?_)
  ·have pj:w.grownBy w' v.ownBlock:=gA (hE.grown _) oo;refine ⟨pj.os,pj.tape,pj.output,pj.size,fun b hb2=>pj.block b (by omega) ?_⟩;intro e;have:=(hB.own.lt b e.symm).1;omega
  ·obtain ⟨g,c,tz,-⟩:=gF hown (by omega);exact ⟨g,c,tz⟩
theorem R6_ (w:World) {ops:Array Oper} {rest:List Oper} {o:Oper} {a:Act} {Q:Exit->Act->World->Prop} (pq:o.guard=none)
  (s x:Operand) (ho:o.op=Op.call { callee:=Callee.builtin Builtin.append,args:=#[s,x],argTypes:=#[119,119] }) (base:Nat)
  (v:Value) (xs ys:og) (hs:a.eval s=v) (hB:aU w base 53 1 v numC xs) (g c n:Nat) (hn:ys.length=n) (hx:a.eval x=.slice (some ⟨g,0,none⟩) n c) (hR:ag w g 0 ys)
  (hlen:xs.length+n<1000000) (hpos:1<=n) (o6:base<=w.heap.size)
  (h:∀ w' gr cr,ag w' gr 0 (xs++ys)->base<=gr->xs.length+n<=cr->cr<=maxLen->Below base w w'->wpList prog ops Q rest (a.put o.dst (.slice (some ⟨gr,0,none⟩) (xs.length+n) cr)) w') :
  wpList prog ops Q (o::rest) a w:=by
 refine wpList_plain pq fun K hK=>?_;subst hn;obtain ⟨i0,hi,hz,o9,hby⟩:=info_parts jx;have pU:∀ j,(⟨g,0,none⟩:Addr).add j=⟨g,0+j,none⟩:=by intro j;unfold Addr.add;split <;> simp_all
 have hbig:=hB.numsB;refine ig w s x 119 ho base 53 i0 (.string ⟨#[]⟩) 1 16 underlying119 hi hz o9 hby rfl (by decide) v xs.length (xs.map fun x=>Value.string (aB x)) hs hbig ⟨g,0,none⟩ ys.length c (ys.map fun x=>Value.string (aB x)) hx (by simp) ?_ ?_ ?_ ?_ o6 ?_
 ·intro j q hq;rw [oF] at hq;cases hy:ys[j]? with
  | none=>rw [hy] at hq;cases hq
  | some y =>
   rw [hy] at hq;rw [pU,hR.cell j y hy];exact congrArg some (oM hq)
 ·intro u hu;obtain ⟨y,-,rfl⟩:=List.mem_map.1 hu;rfl
 ·unfold maxLen;omega
 ·omega
 ·intro v' w' hown oo _ qF;have qh:w'.ownsRow base 53 1 v' (xs++ys).length ((xs++ys).map fun x=>Value.string (aB x)):=by
   rw [oV,List.map_append];exact hown
  obtain ⟨gr,cr,rfl,-⟩:=gF qh (by rw [oV];omega);obtain ⟨k1,k2,k3,k4⟩:=ag.of_ownsW qh;rw [oV] at k3;rw [oV];refine hK _ _ (h w' gr cr k1 k2 k3 k4 ⟨oo.os,oo.tape,oo.output,oo.size,fun b hb=>oo.block b (by omega) ?_⟩);intro e;have:=(hbig.lt b e.symm).1;omega
theorem n0_ {P:Program} (w:World) (dT sT ty elem:TypeId) (g o dLen dCap:Nat) (a:Addr) (sLen sCap:Nat) (cur:Array Value) (t:TypeId) (cs:List Value) (sz:Nat)
  (hu:P.underlying dT=some (.slice elem)) (hs:(P.info? elem).map (·.size)=some sz)
  (hg:w.heap[g]?=some (.cells cur t (0,0))) (hn:cs.length=Nat.min sLen dLen*sz)
  (Ed:∀ j v,cs[j]?=some v->w.cell? (a.add j)=some v) (rh:o+cs.length<=cur.size) (h1:∀ v∈cs,v.oneCell'=true) :
  (Builtin.copy_ #[dT,sT] ty #[.slice (some ⟨g,o,none⟩) dLen dCap,.slice (some a) sLen sCap]).run P w =
   .ok (goInt (Nat.min sLen dLen)) (w.setRow g (cur.toList.take o++cs++cur.toList.drop (o+cs.length)).toArray):=by
 have hl:=run_loadCells_list (P:=P) w a cs Ed;have hst:=run_storeCells_at P g o t cs 0 cur w hg (by simpa using rh) h1;cases hq:P.info? elem with
 | none=>simp [hq] at hs
 | some i =>
  have hi:i.size=sz:=by simpa [hq] using hs
  simp [Builtin.copy_,run_underlying hu,Builtin.lenOf,Builtin.firstCells,sizeOf,typeInfo,hq,hi,<- hn,hl,hst]
def dN (l:og):List Value:=l.map fun x=>.string (aB x)
theorem jG (l:og):(dN l).length=l.length:=by unfold dN;simp
theorem n3_ (l:og):∀ v∈dN l,v.oneCell'=true:=by
 intro v hv;unfold dN at hv;obtain ⟨x,-,rfl⟩:=List.mem_map.1 hv;rfl
theorem n6 {q:Int} {m j:Nat} (h:j<m):(dN (List.replicate m q))[j]?=some (.string (aB q)):=by
 unfold dN;rw [oF,List.getElem?_replicate,if_pos h];rfl
def cN (q:Int) (n k:Nat):List Value:=dN (List.replicate k q)++List.replicate (n-k) (.string ⟨#[]⟩)
theorem v0_ (q:Int) {n k:Nat} (h:k<=n):(cN q n k).length=n:=by
 unfold cN;rw [oV,jG];simp;omega
theorem b8_ (q:Int) (n:Nat):cN q n n=dN (List.replicate n q):=by simp [cN]
theorem Z35 (q:Int) (n:Nat):cN q n 0=List.replicate n (.string ⟨#[]⟩):=by simp [cN,dN]
theorem o8_ (q:Int) {n k m:Nat} (h:k+m<=n):(cN q n k).take k++dN (List.replicate m q)++(cN q n k).drop (k+(dN (List.replicate m q)).length)=cN q n (k+m):=by
 have h1:(dN (List.replicate k q)).length=k:=by rw [jG];simp
 unfold cN;rw [List.take_left' h1,List.drop_append,List.drop_eq_nil_of_le (by omega),h1,List.nil_append,List.drop_replicate,jG,List.length_replicate,show k+m-k=m by omega,show n-k-m=n-(k+m) by omega,<- List.replicate_append_replicate (n:=k) (m:=m)];unfold dN;simp
theorem Z4B (q:Int) {n k m:Nat} (hm:m<=k) {j:Nat} {v:Value} (h:(dN (List.replicate m q))[j]?=some v):(cN q n k)[j]?=some v:=by
 unfold cN;have hj:=(oC.1 h).1;rw [jG,List.length_replicate] at hj;rw [oN (by rw [jG];simp;omega),n6 (by omega)];rw [n6 hj] at h;exact h
theorem Z4C (q:Int) (n:Nat) {xs:og} (h:xs=List.replicate n q):iG (cN q n n) n n xs:=by
 refine ⟨v0_ q (oK n),fun i hi=>⟨aB q,by rw [b8_,n6 hi]⟩,fun i x hi hx=>?_⟩;rw [b8_,n6 hi];rw [h,List.getElem?_replicate,if_pos hi] at hx;cases hx;rfl
theorem h8_ (q:Int) (n:Nat) (hn:n<=1000) (v:Value) (w:World) (h:aH 1 numC w v [q]) :
  Calls prog 89 #[v,.int .i64 (n:Int)] w fun e w'=>∃ g,e=.returned (.slice (some ⟨g,0,none⟩) n n)/\w'.heap[g]?=some (.cells (cN q n n).toArray 53 (0,0))/\w.heap.size<=g/\aA w w':=by
 obtain ⟨i0,hi,pJ,hz1,hz2⟩:=info_parts jx;have HI:=oA hi;have HZ0:=oA pJ;have HZ1:=oA hz1;have HZ2:=oA hz2;clear hi pJ hz1 hz2;obtain ⟨a,c,rfl,h1,h2,-,hc⟩:=bc.open (eO.of_nums h);obtain ⟨b,off,rfl,hb,hcell⟩:=hc (by simp);have DO:Hid (∀ W,aA w W->∀ j v,(dN (List.replicate (Nat.min 1 n) q))[j]?=some v->W.cell? ((⟨b,off,none⟩:Addr).add j)=some v):=fun W hW j v hv=>by
  obtain ⟨u,hu1,hu⟩:=hcell 0 q rfl;obtain rfl:u=.string (aB q):=hu1;have hj:=(oC.1 hv).1;rw [jG,List.length_replicate] at hj;have AO:Nat.min 1 n<=1:=Nat.min_le_left _ _;obtain rfl:j=0:=by omega
  rw [show (⟨b,off,none⟩:Addr).add 0=⟨b,off+0,none⟩ by unfold Addr.add;split <;> simp_all];refine hW.cell (hu.trans ?_);rw [<- hv,n6 (by simpa using hj)]
 simp only [List.length_cons,List.length_nil,Nat.zero_add] at h1 |-;clear h hc hcell;unfold maxLen at h2;have q1:¬ (n:Int)<0:=by omega
 have vI:Hid (∀ W,Calls prog 146 #[.int .u64 1,.int .u64 (n:Int)] W fun e w'=>e=.returned (.tuple #[.int .u64 0,.int .u64 (n:Int)])/\w'=W):=fun W=>by
  have:=bits_Mul 1 n (by decide) (by omega) W;rw [Nat.one_mul,Nat.div_eq_of_lt (by omega),Nat.mod_eq_of_lt (by omega)] at this;exact this
 have q2:IntKind.u64.wrap (n:Int)=(n:Int):=by rw [IntKind.wrap_u64];omega
 have q3:IntKind.i64.wrap (n:Int)=(n:Int):=by rw [IntKind.wrap_i64];omega
 have q4:¬ (9223372036854775807:Int)<(n:Int):=by omega
 go_enter func89,ntmps89
 go_wp2_with fail;refine (vI _).mono ?_;rintro e w1 ⟨rfl,rfl⟩;clear vI;go_wp2_with (at_make;refine wpList_make_full _ rfl _ _ 29 rfl w1.heap.size 53 i0 (.string ⟨#[]⟩) 1 underlying29 HI HZ0 HZ1 _ _ _ _ n rfl rfl rfl rfl ?c1 ?c2 ?c3 ?_)
 any_goals (first | (rw [HZ2.out];omega) | (unfold maxLen;omega) | exact oK _)
 intro w3 hown oo;have hs2:(i0.zero=some (.string ⟨#[]⟩)):=HZ0.out;have HG3:Hid (w3.heap[w1.heap.size]?=some (.cells (cN q n 0).toArray 53 (0,0))/\aA w1 w3):=by
  refine ⟨?_,iO oo⟩;rcases hown.2 with ⟨hv,-⟩ | ⟨g',cap,cur,hv,-,hg,-,-,h3,h4⟩
  ·simp at hv
  ·simp only [Value.slice.injEq,Option.some.injEq,Addr.mk.injEq] at hv;obtain ⟨⟨rfl,-,-⟩,-,rfl⟩:=hv;rw [hg,Z35];congr 2;have h5:cur.toList=List.replicate n (.string ⟨#[]⟩):=by
    rw [List.take_of_length_le (by simp [h3])] at h4;rw [h4]
    (try rw [Nat.mul_one]);exact q8_ _
   rw [<- h5]
 clear hown oo hs2;have rD:Hid ((dN (List.replicate (Nat.min 1 n) q)).length=Nat.min 1 n*1/\0+(dN (List.replicate (Nat.min 1 n) q)).length<=(cN q n 0).toArray.size):=by
  have h0:Nat.min 1 n<=n:=Nat.min_le_right _ _;refine ⟨by rw [jG];simp,?_⟩;simp only [List.size_toArray];rw [jG,v0_ q (Nat.zero_le n)];simp;omega
 obtain ⟨k0,rJ⟩:=oc (Nat.min 1 n);have Ce:k0<=n:=by rw [rJ];exact Nat.min_le_right _ _
 have Cd:0<n->0<k0:=fun h=>by rw [rJ];exact Nat.lt_min.2 ⟨by omega,h⟩
 have HK:=oA (And.intro Ce Cd);have HK0:=oA rJ;clear rJ Ce Cd;have HCO:Hid ((((cN q n 0).toArray.toList.take 0)++dN (List.replicate (Nat.min 1 n) q)++(cN q n 0).toArray.toList.drop (0+(dN (List.replicate (Nat.min 1 n) q)).length)).toArray=(cN q n k0).toArray):=by
  have:=o8_ q (n:=n) (k:=0) (m:=k0) (by have:=HK.1;omega);unfold Hid;rw [HK0.out] at this |-;simpa using congrArg List.toArray this
 obtain ⟨W4,C1⟩:=oc (w3.setRow w1.heap.size (((cN q n 0).toArray.toList.take 0)++dN (List.replicate (Nat.min 1 n) q)++(cN q n 0).toArray.toList.drop (0+(dN (List.replicate (Nat.min 1 n) q)).length)).toArray);have Ad:(Builtin.copy_ #[29,29] 3 #[.slice (some ⟨w1.heap.size,0,none⟩) n n,.slice (some ⟨b,off,none⟩) 1 c]).run prog w3=.ok (.int .i64 (k0:Int)) W4:=by
  rw [C1,HK0.out];exact n0_ w3 _ _ _ 53 w1.heap.size 0 n n ⟨b,off,none⟩ 1 c (cN q n 0).toArray 53 (dN (List.replicate (Nat.min 1 n) q)) 1 underlying29 (by kernel_rfl) HG3.1 rD.1 (DO _ HG3.2) (by have:=rD.2;simpa using this) (n3_ _)
 have BC:Hid (W4.heap[w1.heap.size]?=some (.cells (cN q n k0).toArray 53 (0,0))/\aA w1 W4):=by
  rw [C1,HCO.out];exact ⟨setRow_heap w3 _ _ _ _ _ HG3.1,below_setRow HG3.2 (oK _) _⟩
 clear C1 HCO rD DO HK0;go_wp2_with fail;clear Ad
 go_loopw [8] (fun t wr=>∃ k:Nat,k<=n/\(0<n->0<k)/\t=.int .i64 (k:Int)/\Hid (wr.heap[w1.heap.size]?=some (.cells (cN q n k).toArray 53 (0,0))/\aA w1 wr)) (fun t _=>n-(intOf t).toNat)
 case atStart=>exact ⟨k0,HK.1,HK.2,rfl,BC⟩
 case round =>
  obtain ⟨k,hk,rJ,rfl,HG⟩:=hrel;obtain ⟨wo,rfl⟩:∃ wo:World,wo=wr:=⟨_,rfl⟩;by_cases hlt:k<n
  ·skip;obtain ⟨m,hm⟩:=oc (Nat.min k (n-k));have hm1:m<=k:=by rw [hm];exact Nat.min_le_left _ _
   have wO:m<=n-k:=(by rw [hm];exact Nat.min_le_right _ _);have vR:0<m:=(by rw [hm];exact Nat.lt_min.2 ⟨rJ (by omega),by omega⟩);have HMN:Hid (m=Nat.min k (n-k)):=hm;have p1:(k:Int)<=(n:Int):=(by omega);have p2:(0:Int)<=(k:Int):=(by omega);have p3:IntKind.i64.wrap ((k:Int)+(m:Int))=(k:Int)+(m:Int):=(by rw [IntKind.wrap_i64];omega);have EF:wo.drew.heap[w1.heap.size]?=some (.cells (cN q n k).toArray 53 (0,0)):=HG.1;obtain ⟨W5,Am⟩:=oc (wo.drew.setRow w1.heap.size (((cN q n k).toArray.toList.take (k))++dN (List.replicate m q)++(cN q n k).toArray.toList.drop (k+(dN (List.replicate m q)).length)).toArray);have Ad:(Builtin.copy_ #[29,29] 3 #[.slice (some ⟨w1.heap.size,k,none⟩) (n-k) (n-k),.slice (some ⟨w1.heap.size,0,none⟩) k n]).run prog wo.drew=.ok (.int .i64 (m:Int)) W5:=by
    rw [Am,hm]
    exact n0_ wo.drew _ _ _ 53 w1.heap.size (k) (n-k) (n-k) ⟨w1.heap.size,0,none⟩ k n (cN q n k).toArray 53 (dN (List.replicate (Nat.min k (n-k)) q)) 1 underlying29 (by kernel_rfl) EF (by rw [jG];simp) (fun j v hv=>by
     rw [show (⟨w1.heap.size,0,none⟩:Addr).add j=⟨w1.heap.size,j,none⟩ by unfold Addr.add;split <;> simp_all];have:=Z4B q (n:=n) (k:=k) (Nat.min_le_left _ _) hv;simp only [World.cell?,EF]
     simpa using this) (by simp only [List.size_toArray];rw [jG,v0_ q hk,List.length_replicate,<- hm];omega) (n3_ _)
   have HG5:Hid (W5.heap[w1.heap.size]?=some (.cells (cN q n (k+m)).toArray 53 (0,0))/\aA w1 W5):=by
    rw [Am];refine ⟨?_,below_setRow (HG.2.trans (aA.drew _)) (oK _) _⟩;rw [setRow_heap wo.drew _ _ _ _ _ EF];have:=o8_ q (n:=n) (k:=k) (m:=m) (by omega);rw [<- this]
   have q5:(k:Int)<(n:Int):=(by omega);have q6:¬ n=k:=(by omega);clear Am hm EF
   go_upto_region 9 with (fail)
   refine jE (fun _=>True) 7 (by kernel_rfl) trivial (fun oh=>?_);refine rA [0,1,2,3,4,5,6] ?_
   iterate 7 ((refine rW (v:=?_) (by rfl) (Or.inl ⟨by rfl,?_⟩) ?_;rotate_left;·((intro w');(try go_simp);(try with_reducible rfl)));(try simp only [Act.put,aP,aQ,aR]))
   refine rE ?_;refine dh 7 (by kernel_rfl) rfl (fun K hK=>?_);go_simp;refine hK _ _ trivial (fun oh=>?_);clear hK K
   (try simp only [Act.put,aP,aQ,aR])
   refine tW (v:=?_) 8 rfl (Or.inl ⟨by rfl,?_⟩) ?_;rotate_left;·((intro w');(try go_simp);(try with_reducible rfl))
   (try simp only [Act.put,aP,aQ,aR])
   refine fw 9 (by kernel_rfl) (by kernel_rfl) (by kernel_rfl) rfl (fun K hK=>?_);go_simp;refine hK _ _ ?_;clear hK K
   (try simp only [Act.put,aP,aQ,aR])
   clear Ad oh;go_wp2_with fail;go_roundw
   case rel=>exact ⟨k+m,by omega,fun _=>by omega,by go_num,HG5⟩
   case measure=>simp [intOf];omega
  ·obtain rfl:k=n:=(by omega);go_wp2_with fail;go_ret;exact ⟨_,rfl,HG.1,oK _,HG.2⟩
end Go.Proofs.YtjlkkofmojgipaaGreatDoor
