import Derived.Test.YtjlkkofmojgipaaGreatDoorXAM
import Derived.RegionTactic
import Derived.BigRegion
import Derived.Deep.DeepCutAuto
import Derived.Test.YtjlkkofmojgipaaGreatDoorXAG
import Derived.Laws.CopyRow
import Derived.Laws.CopyOwn
import Derived.Test.YtjlkkofmojgipaaGreatDoorXAH
import Derived.Deep.CutRange
import Derived.Test.YtjlkkofmojgipaaGreatDoorShelfB
set_option linter.unusedVariables false
set_option linter.unusedSimpArgs false
set_option maxRecDepth 1000000
set_option maxHeartbeats 40000000
namespace Go.Proofs.YtjlkkofmojgipaaGreatDoor
open Go.RowKit Go.Proofs.Tryz
theorem Z2f {l:List Nat} {i x:Nat} (h:l.Nodup) (hx:x∉l):(l.set i x).Nodup:=by
 rw [List.Nodup,List.pairwise_iff_getElem] at h |-;intro a b ha hb qF;rw [List.length_set] at ha hb;rw [List.getElem_set,List.getElem_set]
 split
 ·split
  ·omega
  ·intro e;exact hx (e▸List.getElem_mem _)
 ·split
  ·intro e;exact hx (e▸List.getElem_mem _)
  ·exact h a b ha hb qF
theorem bh.newRow {w w':World} {g0:Nat} {tags:List (Nat×Nat×Nat)} {m:List (List Int)} (h:bh w g0 tags m) (i:Nat) (hi:i<m.length) (t:Nat×Nat×Nat) (r:List Int) (he:aC w w') (hR:bU w' t.1 t.2.1 r) (LR:w.heap.size<=t.1) (h1:r.length<=t.2.2) (h2:t.2.2<=maxLen) :
  bh (w'.setCell ⟨g0,i,none⟩ (.slice (some ⟨t.1,t.2.1,none⟩) r.length t.2.2)) g0 (tags.set i t) (m.set i r):=by
 have h':=h.ext he;have hg:g0≠t.1:=by have:=h.lt;omega
 refine ⟨by rw [List.length_set,List.length_set];exact h.len,by rw [nh];exact h'.lt,fun j=>by rw [Y1_];exact h'.free j,fun j s q hs hq=>?_,?_⟩
 ·rw [oV] at hs hq;obtain ⟨t0,EN,xR,-⟩:=h'.get i hi;by_cases hj:i=j
  ·subst hj;rw [if_pos rfl,if_pos (by rw [h.len];exact hi)] at hs;rw [if_pos rfl,if_pos hi] at hq;cases hs;cases hq;exact ⟨World.cell?_setCell_same _ _ _ xR,h1,h2,hR.other _ _ _ (fun e=>hg e.symm)⟩
  ·rw [if_neg hj] at hs hq;obtain ⟨q1,q2,q3,q4⟩:=h'.row j s q hs hq;refine ⟨(World.cell?_setCell_other _ _ _ _ (by intro e;simp only [Addr.mk.injEq] at e;exact hj e.2.1)).trans q1,q2,q3,q4.other _ _ _ ?_⟩;have hl:j<m.length:=(n_.1 hq).1;obtain ⟨s',tR,-,-,-,-,hne⟩:=h'.get j hl;obtain rfl:s'=s:=oL (tR.symm.trans hs);exact hne
 ·rw [List.map_set];have:=h.nodup;rw [List.nodup_cons] at this |-;have Fc:t.1∉tags.map (·.1):=fun hm=>by
   have:=h.blt (b:=t.1) (List.mem_cons_of_mem _ hm);omega
  refine ⟨fun hm=>?_,Z2f this.2 Fc⟩;rcases List.mem_or_eq_of_mem_set hm with e | e
  ·exact this.1 e
  ·exact hg e
theorem bh.elem {w:World} {g0:Nat} {tags:List (Nat×Nat×Nat)} {m:List (List Int)} (h:bh w g0 tags m) {n:Nat} (hok:cF n m=true) (i c:Nat) (hi:i<m.length) (hc:c<n) :
  ∃ t:Nat×Nat×Nat,tags[i]?=some t/\w.cell? ⟨g0,i,none⟩=some (.slice (some ⟨t.1,t.2.1,none⟩) n t.2.2)/\n<=t.2.2/\t.2.2<=maxLen/\w.cell? ⟨t.1,t.2.1+c,none⟩=some (.string (aD (aF m i c)))/\bU w t.1 t.2.1 (aG m i)/\t.1≠g0/\Sz (aF m i c)/\(aG m i).length=n/\(aG m i)[c]?=some (aF m i c):=by
 obtain ⟨t,ht,h1,h2,h3,h4,h5⟩:=h.get i hi;obtain ⟨hl,hs⟩:=kR hok i hi;have hcl:c<(aG m i).length:=by omega
 have e:(aG m i)[c]?=some (aF m i c):=by
  unfold aF;rw [oC,n9 hcl];rfl
 rw [hl] at h1 h2;exact ⟨t,ht,h1,h2,h3,h4.cell c _ e,h4,h5,j3 (List.all_eq_true.1 hs _ (oD e)),hl,e⟩
def mn:Option Nat->Value
 | none=>.int .i64 (-1)
 | some a=>.int .i64 a
theorem W7_ (c d:Nat) (m:List (List Int)) (k:Nat):bP c d m (k+1)=match bP c d m k with
  | none=>if aF m (d+k) c=0 then none else some (d+k)
  | some a=>if aF m (d+k) c≠0/\(aF m (d+k) c).natAbs<(aF m a c).natAbs then some (d+k) else some a:=rfl
theorem b9_ {c d i:Nat} {m:List (List Int)} (hi:d<=i) (h:aF m i c=0):bP c d m (i+1-d)=bP c d m (i-d):=by
 rw [show i+1-d=(i-d)+1 by omega,W7_,show d+(i-d)=i by omega];cases bP c d m (i-d) with
 | none=>simp [h]
 | some a=>simp [h]
theorem m1_ {c d i:Nat} {m:List (List Int)} (hi:d<=i) (h:aF m i c≠0) (hb:bP c d m (i-d)=none):bP c d m (i+1-d)=some i:=by
 rw [show i+1-d=(i-d)+1 by omega,W7_,show d+(i-d)=i by omega,hb];simp [h]
theorem b8_ {c d i a:Nat} {m:List (List Int)} (hi:d<=i) (h:aF m i c≠0) (hb:bP c d m (i-d)=some a):bP c d m (i+1-d)=if (aF m i c).natAbs<(aF m a c).natAbs then some i else some a:=by
 rw [show i+1-d=(i-d)+1 by omega,W7_,show d+(i-d)=i by omega,hb];simp only;by_cases hl:(aF m i c).natAbs<(aF m a c).natAbs
 ·rw [if_pos ⟨h,hl⟩,if_pos hl]
 ·rw [if_neg (fun x=>hl x.2),if_neg hl]
theorem B9_ {c d:Nat} {m:List (List Int)}:∀ (k a:Nat),bP c d m k=some a->d<=a/\a<d+k/\aF m a c≠0
 | 0,a,h=>by simp [bP] at h
 | k+1,a,h=>by
  rw [W7_] at h;cases hb:bP c d m k with
  | none =>
   rw [hb] at h;simp only at h
   split at h
   ·cases h
   ·rename_i hne;obtain rfl:=oL h;exact ⟨by omega,by omega,hne⟩
  | some b =>
   rw [hb] at h;simp only at h;have ih:=B9_ k b hb
   split at h
   ·rename_i hc;obtain rfl:=oL h;exact ⟨by omega,by omega,hc.1⟩
   ·obtain rfl:=oL h;exact ⟨ih.1,by omega,ih.2.2⟩
theorem Z56 (x y:Int):decide (gO (x.natAbs:Int) (y.natAbs:Int)<0)=decide (x.natAbs<y.natAbs):=by
 unfold gO;by_cases h:x.natAbs<y.natAbs
 ·rw [if_pos (by omega),oS h];rfl
 ·rw [if_neg (by omega),oR h];split <;> rfl
theorem c7_ {x:Int} (h:Sz x):(aD x).size<=10000000000:=by have:=h.size;omega
theorem Z5U (y:Int):aR 0 y=0/\bF 0 y=0:=by unfold aR bF;simp
theorem Z2c {m:List (List Int)} {i:Nat} (hi:i<m.length):m.set i (aG m i)=m:=by
 apply List.ext_getElem?;intro j;rw [oV];by_cases h:i=j
 ·subst h;rw [if_pos rfl,if_pos hi,gH hi]
 ·rw [if_neg h]
theorem P0_:∀ (r s:List Int),s.length=r.length->an 0 r s=r
 | [],[],_=>rfl
 | a::r,b::s,h=>by rw [an,P0_ r s (by simpa using h)];simp
 | [],_::_,h=>by simp at h
 | _::_,[],h=>by simp at h
theorem e3_ {k:Int} {r s r':List Int} (h:fR k r s=some r') (hl:s.length=r.length) (hr:r.all eu=true) (hs:s.all eu=true):r'=an k r s/\(aD k).size<=2800000000/\(∀ b∈s,(aD b).size<=2800000000/\(aD (k*b)).size<=2800000000):=by
 unfold fR at h;by_cases h0:k=0
 ·rw [if_pos h0] at h;subst h0;refine ⟨by rw [P0_ r s hl];exact (oL h).symm,by decide +kernel,fun b hb=>?_⟩;have:=(j3 (List.all_eq_true.1 hs b hb)).size;rw [Int.zero_mul];exact ⟨by omega,by decide +kernel⟩
 ·rw [if_neg h0] at h;by_cases hc:s.length=r.length/\(j0 k && s.all j0 && r.all eu)=true
  ·rw [if_pos hc] at h;have h2:=hc.2;rw [Bool.and_eq_true,Bool.and_eq_true] at h2;have hk:=(Z4Y h2.1.1).size;refine ⟨(oL h).symm,by omega,fun b hb=>?_⟩;have h3:=(Z4Y (List.all_eq_true.1 h2.1.2 b hb)).size;have h4:=Z3Z k b;exact ⟨by omega,by omega⟩
  ·rw [if_neg hc] at h;cases h
def mY (tags:List (Nat×Nat×Nat)) (B:Nat) (tags':List (Nat×Nat×Nat)):Prop:=∀ t∈tags',t∈tags\/B<=t.1
theorem Q5_ (n F c d:Nat) (m:List (List Int)) (tags:List (Nat×Nat×Nat)) (g0 cap:Nat) (w:World) (R:List (List Int)×Bool) (hM:bh w g0 tags m) (hok:dU n c d F m=some R)
  (qb:m.length<=cap) (qa:cap<=maxLen) (hd:d<=m.length) (vi:c<n) (hn:n<=1000000) (ht:af w) (hb:4<g0) :
  Calls prog 136 #[.slice (some ⟨g0,0,none⟩) m.length cap,.int .i64 d,.int .i64 c] w fun e w'=>∃ tags',e=.returned (.bool R.2)/\bh w' g0 tags' R.1/\mY tags w.heap.size tags'/\aP (·=g0) w w':=by
 have HM:=n8 hM;have HOK:=n8 hok;have HT:=n8 ht;have HB:=n8 hb;have B9:Hid (∀ W,aP (·=g0) w W->af W):=fun W hW=>ht.below (hW.below (base:=g0) (Nat.le_of_lt hM.lt) (fun k hk=>by rw [hk];exact oJ _)) hb;unfold maxLen at qa;obtain ⟨L,hL⟩:∃ L,m.length=L:=⟨_,rfl⟩;rw [hL] at qb hd |-;have HL:=n8 hL;clear hM hok ht hb hL
 go_enter func136,ntmps136
 go_wp2_with fail
 go_loopg [] F (fun f wr=>∃ (m2:List (List Int)) (qz:List (Nat×Nat×Nat)),aP (·=g0) w wr/\Hid (bh wr g0 qz m2)/\Hid (m2.length=L)/\Hid (dU n c d f m2=some R)/\Hid (mY tags w.heap.size qz))
 case atStart=>exact ⟨m,tags,aP.refl _ _,HM,HL,HOK,fun t ht=>.inl ht⟩
 case round =>
  obtain ⟨m2,qz,hG,Ew,HL2,B6,KK⟩:=hrel;obtain ⟨w2,rfl⟩:∃ w2:World,w2=wr:=⟨_,rfl⟩;cases gk with
  | zero=>exact absurd B6.out (by unfold dU;simp)
  | succ f =>
  have hS:=B6.out;rw [jL] at hS;by_cases yV:cF n m2=true
  ·rw [if_pos yV,HL2.out] at hS;have HOKM:=n8 yV;have HS:=n8 hS;clear hS yV B6;go_wp2_with fail
   go_loopw [7,8] (fun sa si wr=>∃ i:Nat,d<=i/\i<=L/\si=.int .i64 i/\aC w2 wr/\Hid (sa=mn (bP c d m2 (i-d)))) (fun _ si _=>L-(intOf si).toNat)
   case atStart=>exact ⟨d,by omega,by omega,rfl,aC.refl _,by rw [Nat.sub_self];rfl⟩
   case round =>
    obtain ⟨i,sH,I7,rfl,hE,HA⟩:=hrel;obtain ⟨w3,rfl⟩:∃ w3:World,w3=wr:=⟨_,rfl⟩;have HA0:=HA;have hA:=HA.out;clear HA;by_cases hil:i<L
    ·as_aux_lemma =>
     obtain ⟨t,ht,k1,k2,k3,k4,k5,k6,k7,-,-⟩:=bh.elem (Ew.ext hE) HOKM i c (by rw [HL2.out];exact hil) vi;unfold maxLen at k3;have hz:=iq (aF m2 i c);by_cases he:aF m2 i c=0
     ·rw [oS he] at hz;have HN:Hid (u7=mn (bP c d m2 (i+1-d))):=by unfold Hid;rw [b9_ sH he];exact hA
      have HE:=n8 hE;obtain ⟨x,hx⟩:∃ x,aF m2 i c=x:=⟨_,rfl⟩;rw [hx] at k4 hz;clear ht k5 k6 k7 hA he hx hE;go_wp2_with fail
      go_quiet (fail)
      go_wp2_with fail;go_roundw
      case rel=>exact ⟨i+1,by omega,by omega,by go_num,aC.draws HE _,HN⟩
      case measure=>simp [intOf];omega
     ·rw [oR he] at hz;cases rT:bP c d m2 (i-d) with
      | none =>
       rw [rT] at hA;obtain rfl:u7=.int .i64 (-1):=hA;have HN:Hid (Value.int .i64 (i:Int)=mn (bP c d m2 (i+1-d))):=by unfold Hid;rw [m1_ sH he rT];rfl
       have HE:=n8 hE;obtain ⟨x,hx⟩:∃ x,aF m2 i c=x:=⟨_,rfl⟩;rw [hx] at k4 hz;clear ht k5 k6 k7 he hx hE rT;go_wp2_with fail
       go_quiet (fail)
       go_wp2_with fail;go_roundw
       case rel=>exact ⟨i+1,by omega,by omega,by go_num,aC.draws HE _,HN⟩
       case measure=>simp [intOf];omega
      | some a =>
       rw [rT] at hA;obtain rfl:u7=.int .i64 a:=hA;obtain ⟨sL,ha2,GZ⟩:=B9_ _ _ rT;have DJ:a<L:=by omega
       obtain ⟨s,hs,l1,l2,l3,l4,l5,l6,l7,-,-⟩:=bh.elem (Ew.ext hE) HOKM a c (by rw [HL2.out];exact DJ) vi;unfold maxLen at l3;have HNX:=n8 (b8_ sH he rT);have HCM:=n8 (Z56 (aF m2 i c) (aF m2 a c));have HE:=n8 hE;obtain ⟨x,hx⟩:∃ x,aF m2 i c=x:=⟨_,rfl⟩;obtain ⟨y,hy⟩:∃ y,aF m2 a c=y:=⟨_,rfl⟩;rw [hx] at k4 hz k7 HNX HCM;rw [hy] at l4 l7 HNX HCM;have HCQ:=n8 (fun W=>Z1b (x.natAbs:Int) (y.natAbs:Int) W (c7_ k7.natAbs) (c7_ l7.natAbs));clear ht k5 k6 k7 he hx hy hE rT hs l5 l6 l7 sL ha2 GZ;by_cases hxy:x.natAbs<y.natAbs
       ·have tG:decide (gO (x.natAbs:Int) (y.natAbs:Int)<0)=true:=by rw [HCM.out];exact oS hxy
        have HN:Hid (Value.int .i64 (i:Int)=mn (bP c d m2 (i+1-d))):=by unfold Hid;rw [HNX.out,if_pos hxy];rfl
        clear hxy HNX HCM;go_wp2_with fail
        go_quiet ((first | (go_at_call 152;exact Calls.quiet_of (Z52 _ _)) | (go_at_call 151;exact Calls.quiet_of (HCQ _))))
        go_wp2_with fail;go_roundw
        case rel=>exact ⟨i+1,by omega,by omega,by go_num,aC.draws HE _,HN⟩
        case measure=>simp [intOf];omega
       ·have tG:decide (gO (x.natAbs:Int) (y.natAbs:Int)<0)=false:=by rw [HCM.out];exact oR hxy
        have HN:Hid (Value.int .i64 (a:Int)=mn (bP c d m2 (i+1-d))):=by unfold Hid;rw [HNX.out,if_neg hxy];rfl
        clear hxy HNX HCM;go_wp2_with fail
        go_quiet ((first | (go_at_call 152;exact Calls.quiet_of (Z52 _ _)) | (go_at_call 151;exact Calls.quiet_of (HCQ _))))
        go_wp2_with fail;go_roundw
        case rel=>exact ⟨i+1,by omega,by omega,by go_num,aC.draws HE _,HN⟩
        case measure=>simp [intOf];omega
    ·obtain rfl:i=L:=by omega
     clear hA;have hA:=HA0.out;have hS:=HS.out;have HE:=n8 hE;have HG3:=n8 (hG.ext hE);have HF3:=n8 (Ew.ext hE);clear hE hG Ew HS;cases rT:bP c d m2 (i-d) with
     | none =>
      rw [rT] at hA hS;obtain rfl:u7=.int .i64 (-1):=hA;obtain rfl:=oL hS;clear rT HA0;go_wp2_with fail;go_ret;exact ⟨rfl,qz,HF3,KK,HG3⟩
     | some a =>
      rw [rT] at hA hS;obtain rfl:u7=.int .i64 a:=hA
      dsimp only at hS
      obtain ⟨sL,ha2,GZ⟩:=B9_ _ _ rT;have DJ:a<i:=by omega
      obtain ⟨td,zw,c1,c2,c3,c4,c5⟩:=HF3.get d (by rw [HL2.out];omega);obtain ⟨ta,zx,e1,e2,e3,e4,e5⟩:=HF3.get a (by rw [HL2.out];omega);have fd:=HF3.free d;have fa:=HF3.free a;have HTD:=n8 zw;have HTA:=n8 zx;have HSW1:=n8 (HF3.swap d a (by rw [HL2.out];omega) (by rw [HL2.out];omega) td ta zw zx);have HSd:=n8 hS;clear hS rT HA0 zw zx c2 c3 c4 c5 e2 e3 e4 e5 ha2 GZ
      go_upto_region 9 with fail
      go_cut [] from 14 to 129 (fun wx=>Hid (bh wx g0 (bR qz d a) (bR m2 d a))/\Hid (aP (·=g0) w wx))
      case first =>
       as_aux_lemma =>
       by_cases yF:d=a
       ·subst yF;obtain rfl:td=ta:=oL (HTD.symm.trans HTA)
        go_region
        all_goals (go_wp2_with fail;go_meet;exact ⟨HSW1.ext (aC.drew _),((HG3.setCell rfl _ _).setCell rfl _ _).ext (aC.drew _)⟩)
       ·have Lv:¬ a=d:=fun e=>yF e.symm
        go_region
        all_goals (go_wp2_with fail;go_meet;exact ⟨HSW1.ext (aC.drew _),((HG3.setCell rfl _ _).setCell rfl _ _).ext (aC.drew _)⟩)
      case rest =>
       obtain ⟨Ex,BI⟩:=hcut;have HOKS:=n8 (d1_ HOKM d a);have tx:Hid ((bR m2 d a).length=i):=by unfold Hid;rw [kd];exact HL2
       have Dg:Hid (mY tags w.heap.size (bR qz d a)):=fun t ht=>KK t (H7_ _ _ _ _ ht);have hSd:=HSd.out;obtain ⟨ms,Cr⟩:∃ ms,bR m2 d a=ms:=⟨_,rfl⟩;obtain ⟨ts,BU⟩:∃ ts,bR qz d a=ts:=⟨_,rfl⟩;rw [Cr] at Ex HOKS tx hSd;rw [BU] at Ex Dg;clear Cr BU HSd HSW1 HF3 HG3 c1 e1 fd fa HTD HTA;cases pI:dA c d ms (i-(d+1)) with
       | none=>rw [pI] at hSd;cases hSd
       | some r =>
       obtain ⟨mf,rf⟩:=r;rw [pI] at hSd;have HDN:=n8 pI;have HSE:=n8 hSd;clear pI hSd;go_wp2_with fail
       go_loopw [9,10] (fun sr si wr=>∃ (i4:Nat) (mj:List (List Int)) (rj:Bool) (tj:List (Nat×Nat×Nat)),d+1<=i4/\i4<=i/\si=.int .i64 i4/\sr=.bool (!rj)/\Hid (aP (·=g0) w wr)/\Hid (bh wr g0 tj mj)/\Hid (dA c d ms (i4-(d+1))=some (mj,rj))/\Hid (mY tags w.heap.size tj)) (fun _ si _=>i-(intOf si).toNat)
       case atStart=>exact ⟨d+1,ms,false,ts,by omega,by omega,by go_num,rfl,BI,Ex,by unfold Hid;rw [Nat.sub_self];rfl,Dg⟩
       case round =>
        obtain ⟨i4,mj,rj,tj,OF,J6,rfl,rfl,wO,qH,ql,A4⟩:=hrel;obtain ⟨w4,rfl⟩:∃ w4:World,w4=wr:=⟨_,rfl⟩;obtain ⟨BR,y5,ED⟩:=ky ql (by rw [tx.out];omega);have wN:Hid (mj.length=i):=by unfold Hid;rw [BR];exact tx
        by_cases J5:i4<i
        ·skip;obtain ⟨z,yM⟩:=Z02 HDN (i4+1-(d+1)) (by omega);rw [show i4+1-(d+1)=(i4-(d+1))+1 by omega] at yM;obtain ⟨mj',rj',nr,e1,pR,rp,e2⟩:=W9_ yM;rw [ql.out] at e1;simp only [Option.some.injEq,Prod.mk.injEq] at e1;obtain ⟨rfl,rfl⟩:=e1;rw [show d+1+(i4-(d+1))=i4 by omega] at rp e2;have qp:(aG mj i4).length=n/\(aG mj i4).all eu=true:=by
          rw [y5 i4 (by omega)];exact kR HOKS i4 (by rw [tx.out];omega)
         have sM:(aG mj d).length=n/\(aG mj d).all eu=true:=by
          rw [y5 d (by omega)];exact kR HOKS d (by rw [tx.out];omega)
         have HST:Hid (dA c d ms (i4+1-(d+1))=some (mj.set i4 nr,rj || decide (bF (aF mj i4 c) (aF mj d c)≠0))):=by unfold Hid;rw [show i4+1-(d+1)=(i4-(d+1))+1 by omega,yM,e2]
         have hzz:=e3_ rp (by rw [qp.1,sM.1]) qp.2 sM.2;obtain ⟨rfl,Cg,wY⟩:=hzz;clear yM e2 BR y5 ED rp;obtain ⟨t4,EL,b1,b2,b3,b4,b5⟩:=qH.get i4 (by rw [wN.out];omega);obtain ⟨tp,y8,p1,p2,p3,p4,p5⟩:=qH.get d (by rw [wN.out];omega);have ex:(aG mj i4)[c]?=some (aF mj i4 c):=by
          unfold aF;rw [oC,n9 (by rw [qp.1];exact vi)];rfl
         have ey:(aG mj d)[c]?=some (aF mj d c):=by
          unfold aF;rw [oC,n9 (by rw [sM.1];exact vi)];rfl
         have b6:=b4.cell c _ ex;have p6:=p4.cell c _ ey;have hsx:Sz (aF mj i4 c):=j3 (List.all_eq_true.1 qp.2 _ (oD ex));have hsy:Sz (aF mj d c):=j3 (List.all_eq_true.1 sM.2 _ (oD ey));have HDM:=n8 (fun W hW=>Z1h (aF mj i4 c) (aF mj d c) W hsx hsy pR hW);have hz:=iq (aF mj i4 c);have HNW:=n8 (S5_ (aR (aF mj i4 c) (aF mj d c)) _ _ c _ _ ex ey);have wa:∀ a∈aG mj i4,(aD a).size<=2800000000:=fun a ha=>by have:=(j3 (List.all_eq_true.1 qp.2 a ha)).size;omega
         have hll:(aG mj d).length=(aG mj i4).length:=by rw [qp.1,sM.1]
         rw [qp.1] at b1 b2;rw [sM.1] at p1 p2;have sC:Hid (∀ W,aC w4 W->Calls prog 137 #[.slice (some ⟨t4.1,t4.2.1,none⟩) n t4.2.2,.slice (some ⟨tp.1,tp.2.1,none⟩) n tp.2.2,.string (aD (aR (aF mj i4 c) (aF mj d c)))] W fun e w'=>e=.returned (.slice (some ⟨W.heap.size,0,none⟩) n n)/\aC W w'/\bU w' W.heap.size 0 (an (aR (aF mj i4 c) (aF mj d c)) (aG mj i4) (aG mj d))):=fun W hW=>by
          have h9:=N2_ (aR (aF mj i4 c) (aF mj d c)) (aG mj i4) (aG mj d) t4.1 t4.2.1 t4.2.2 tp.1 tp.2.1 tp.2.2 W (b4.ext hW) (p4.ext hW) hll Cg wa wY (by rw [qp.1];exact b2) b3 (by rw [sM.1];exact p2) p3 (by rw [qp.1];exact hn) (B9 _ (wO.ext hW));rw [qp.1,sM.1] at h9;exact h9
         have Ak:(an (aR (aF mj i4 c) (aF mj d c)) (aG mj i4) (aG mj d)).length=n:=by rw [ir];exact qp.1
         have vP:aF mj i4 c=0->mj.set i4 (an (aR (aF mj i4 c) (aF mj d c)) (aG mj i4) (aG mj d))=mj:=fun h0=>by
          rw [h0,(Z5U _).1,P0_ _ _ hll,Z2c (by rw [wN.out];omega)]
         have hfz:=lq (aF mj i4 c) (aF mj d c);have hfm:=iq (bF (aF mj i4 c) (aF mj d c));unfold maxLen at b3 p3;obtain ⟨nr,yW⟩:∃ nr,an (aR (aF mj i4 c) (aF mj d c)) (aG mj i4) (aG mj d)=nr:=⟨_,rfl⟩;rw [yW] at sC HNW Ak vP HST;obtain ⟨xe,CO⟩:∃ x,aF mj i4 c=x:=⟨_,rfl⟩;obtain ⟨ye,tO⟩:∃ y,aF mj d c=y:=⟨_,rfl⟩;rw [CO] at b6 HDM hz HNW sC vP hfz hfm HST;rw [tO] at p6 HDM HNW sC hfz hfm HST;have HNL:=n8 Ak;have HSAME:=n8 vP;have HY0:=n8 pR;rw [tO] at HY0;rw [show xe-aR xe ye*ye=bF xe ye by rw [Int.mul_comm];omega] at HNW;have BE:Hid (i4<mj.length):=by unfold Hid;rw [wN.out];exact J5
         have HT4:=n8 EL;have rz:d<i:=by omega
         clear yW CO tO ex ey hsx hsy EL y8 b4 p4 b5 p5 pR qp sM Cg wY wa hll Ak vP hfz tx HDN HSE HOKS;by_cases pE:xe=0
         ·have hST:=HST.out;rw [HSAME.out pE,pE,(Z5U ye).2] at hST;have xj:Hid (dA c d ms (i4+1-(d+1))=some (mj,rj)):=by
           unfold Hid;rw [hST];simp
          rw [oS pE] at hz;clear hST HST pE sC HDM HSAME HNW HNL hfm;go_wp2_with fail;go_roundw
          case rel=>exact ⟨i4+1,mj,rj,tj,by omega,by omega,by go_num,rfl,wO,qH,xj,A4⟩
          case measure=>simp [intOf];omega
         ·rw [oR pE] at hz;clear pE HSAME
          go_upto_region 15 with fail
          refine fX (fun w'=>w'.cell? ⟨g0,i4,none⟩=some (.slice (some ⟨t4.1,t4.2.1,none⟩) n t4.2.2)/\w'.cell? ⟨t4.1,t4.2.1+c,none⟩=some (.string (aD xe))/\w'.cell? ⟨g0,d,none⟩=some (.slice (some ⟨tp.1,tp.2.1,none⟩) n tp.2.2)/\w'.cell? ⟨tp.1,tp.2.1+c,none⟩=some (.string (aD ye))/\Hid (aC w4 w')) 22 22 (by kernel_rfl) (by kernel_rfl) ⟨(aC.drew w4).cell b1,(aC.drew w4).cell b6,(aC.drew w4).cell p1,(aC.drew w4).cell p6,aC.drew w4⟩ (fun ops hO oX=>?_);refine rA [0,1,2,3,4,5,6,7,8,9,10,11,12,13] ?_
          iterate 14 (refine rS hO (by decide) fun o h=>?_;(conv at h=>lhs;whnf);subst h;refine rY hO (v:=?_) (Or.inl ⟨by rfl,?_⟩) ?_;rotate_left;·((intro w' oz);(try dsimp only at oz);(try go_simp);(try with_reducible rfl));(try simp only [Act.put,aK,aL,aM]))
          refine rE ?_;have hi:=a8 hO 14 (by decide)
          conv at hi=>rhs;arg 1;whnf
          refine dK hO 14 (by kernel_rfl) hi (fun K hK=>?_);go_simp
          (go_at_call 94;refine (HDM _ (B9 _ (wO.ext (oX.2.2.2.2)))).mono ?_)
          rintro e w5 ⟨rfl,om⟩;go_wp2_with fail;refine hK _ _ ⟨(om).cell oX.1,(om).cell oX.2.1,(om).cell oX.2.2.1,(om).cell oX.2.2.2.1,aC.trans oX.2.2.2.2 (om)⟩ (fun oX=>?_);clear hK K hi
          (try simp only [Act.put,aK,aL,aM])
          refine rA [15,16,17,18,19,20] ?_
          iterate 6 (refine rS hO (by decide) fun o h=>?_;(conv at h=>lhs;whnf);subst h;refine rX hO (v:=?_) (Or.inl ⟨by rfl,?_⟩) ?_;rotate_left;·((intro w');(try go_simp);(try with_reducible rfl));(try simp only [Act.put,aK,aL,aM]))
          refine rE ?_;have HE5:Hid (aC w4 w5):=oX.2.2.2.2;have hi:=a8 hO 21 (by decide)
          conv at hi=>rhs;arg 1;whnf
          refine fp hO 21 (by kernel_rfl) (by kernel_rfl) hi (fun K hK=>?_);go_simp;refine hK _ _ (by assumption) ?_;clear hK K hi hO
          (try simp only [Act.put,aK,aL,aM])
          go_upto_region 16 with fail
          obtain ⟨w6,BS⟩:∃ w6,w6=w5:=⟨_,rfl⟩;rw [<- BS];have HE6:Hid (aC w4 w6):=by rw [BS];exact HE5
          have b7:=HE6.cell b1;have p7:=HE6.cell p1;clear BS HDM;refine iP (fun w'=>w'.cell? ⟨g0,i4,none⟩=some (.slice (some ⟨t4.1,t4.2.1,none⟩) n t4.2.2)/\w'.cell? ⟨g0,d,none⟩=some (.slice (some ⟨tp.1,tp.2.1,none⟩) n tp.2.2)/\Hid (aC w6 w')) 13 (by kernel_rfl) ⟨(aC.drew w6).cell b7,(aC.drew w6).cell p7,aC.drew w6⟩ (fun oX=>?_);refine rA [0,1,2,3,4,5,6,7,8,9,10] ?_
          iterate 11 ((first|(refine rL (v:=?_) (by rfl) (Or.inl ⟨by rfl,?_⟩) ?_;rotate_left;·((intro w' oz);(try dsimp only at oz);(try go_simp);(try with_reducible rfl)))|(refine rW (v:=?_) (by rfl) (Or.inl ⟨by rfl,?_⟩) ?_;rotate_left;·((intro w');(try go_simp);(try with_reducible rfl))));(try simp only [Act.put,aK,aL,aM]))
          refine rE ?_;have HE7:Hid (aC w4 w6.drew):=HE6.trans (aC.drew _);refine dO 11 (by kernel_rfl) rfl (fun K hK=>?_);go_simp
          (go_at_call 137;refine (sC _ HE7).mono ?_)
          rintro e w8 ⟨rfl,om,Ah⟩;go_wp2_with fail;refine hK _ _ ⟨(om).cell oX.1,(om).cell oX.2.1,aC.trans oX.2.2 (om)⟩ (fun oX=>?_);clear hK K
          (try simp only [Act.put,aK,aL,aM])
          refine tW (v:=?_) 12 rfl (Or.inl ⟨by rfl,?_⟩) ?_;rotate_left
          ·((intro w');(try go_simp);(try with_reducible rfl))
          (try simp only [Act.put,aK,aL,aM])
          have HE8:Hid (aC w4 w8):=HE6.trans oX.2.2;have q8:=HE8.cell b1;have f8:w8.frozen? ⟨g0,i4,none⟩=false:=(qH.ext HE8).free i4;refine fL 13 (by kernel_rfl) (by kernel_rfl) (by kernel_rfl) rfl (fun K hK=>?_);go_simp;refine hK _ _ ?_;clear hK K
          (try simp only [Act.put,aK,aL,aM])
          have HRZ:Hid (bU w8 w6.heap.size 0 nr):=Ah;have HM9:Hid (bh (w8.setCell ⟨g0,i4,none⟩ (.slice (some ⟨w6.heap.size,0,none⟩) n n)) g0 (tj.set i4 (w6.heap.size,0,n)) (mj.set i4 nr)):=by
           have h9:=qH.newRow i4 BE (w6.heap.size,0,n) nr HE8 HRZ HE7.size (by rw [HNL.out];exact oJ _) (by show n<=maxLen;unfold maxLen;omega);rw [HNL.out] at h9;exact h9
          have HG9:Hid (aP (·=g0) w (w8.setCell ⟨g0,i4,none⟩ (.slice (some ⟨w6.heap.size,0,none⟩) n n))):=(wO.ext HE8).setCell rfl _ _;have Dh:Hid (mY tags w.heap.size (tj.set i4 (w6.heap.size,0,n))):=fun t ht=>by
           rcases List.mem_or_eq_of_mem_set ht with h | h
           ·exact A4 t h
           ·rw [h];exact .inr (oI wO.size HE7.size)
          have hcell:(w8.setCell ⟨g0,i4,none⟩ (.slice (some ⟨w6.heap.size,0,none⟩) n n)).cell? ⟨w6.heap.size,c,none⟩=some (.string (aD (bF xe ye))):=by
           have h9:=(HRZ.other g0 i4 (.slice (some ⟨w6.heap.size,0,none⟩) n n) (by have:=qH.lt;have:=HE6.size;omega)).cell c _ HNW;rw [Nat.zero_add] at h9;exact h9
          have pz:(w8.setCell ⟨g0,i4,none⟩ (.slice (some ⟨w6.heap.size,0,none⟩) n n)).cell? ⟨g0,i4,none⟩=some (.slice (some ⟨w6.heap.size,0,none⟩) n n):=World.cell?_setCell_same _ _ _ q8;obtain ⟨w9,pO⟩:∃ w9,w8.setCell ⟨g0,i4,none⟩ (.slice (some ⟨w6.heap.size,0,none⟩) n n)=w9:=⟨_,rfl⟩;rw [pO] at HM9 HG9 hcell pz |-;obtain ⟨gn,JD⟩:∃ gn,w6.heap.size=gn:=⟨_,rfl⟩;rw [JD] at hcell pz HM9 Dh;clear pO JD q8 f8 b1 p1 b6 p6 b7 p7 sC HRZ Ah hz oX;by_cases sU:bF xe ye=0
          ·rw [oS sU] at hfm;have Dk:Hid ((rj || decide (bF xe ye≠0))=rj):=by unfold Hid;rw [oR (by simp [sU]),Bool.or_false]
           rw [Dk.out] at HST;clear sU Dk;cases rj
           all_goals
            go_wp2_with fail;go_roundw
            case rel=>exact ⟨i4+1,mj.set i4 nr,_,_,by omega,by omega,by go_num,rfl,HG9,HM9,HST,Dh⟩
            case measure=>simp [intOf];omega
          ·rw [oR sU] at hfm;have Dk:Hid ((rj || decide (bF xe ye≠0))=true):=by unfold Hid;rw [oS sU,Bool.or_true]
           rw [Dk.out] at HST;clear sU Dk;cases rj
           all_goals
            go_wp2_with fail;go_roundw
            case rel=>exact ⟨i4+1,mj.set i4 nr,true,_,by omega,by omega,by go_num,rfl,HG9,HM9,HST,Dh⟩
            case measure=>simp [intOf];omega
        ·obtain rfl:i4=i:=by omega
         have AK:mj=mf/\rj=rf:=by
          have:=ql.out;rw [HDN.out] at this;simp only [Option.some.injEq,Prod.mk.injEq] at this;exact ⟨this.1.symm,this.2.symm⟩
         obtain ⟨rfl,rfl⟩:=AK;have hSE:=HSE.out;clear HSE HDN ql BR y5 ED tx HOKS Ex BI;cases rj with
         | true =>
          try dsimp only at hSE
          have HSE2:=n8 hSE;clear hSE;go_wp2_with fail
          go_roundg f
          case measure=>omega
          case rel=>exact ⟨mj,tj,wO,qH,wN,HSE2,A4⟩
         | false =>
          try dsimp only at hSE
          obtain rfl:=oL hSE;clear hSE;go_wp2_with fail;go_ret;exact ⟨rfl,tj,qH,A4,wO⟩
  ·rw [if_neg yV] at hS;cases hS
theorem aZ.numsB {w:World} {base:Nat} {e:TypeId} {v:Value} {xs:List Int} (h:aZ w base e 1 v numC xs):w.ownsRow base e 1 v xs.length (xs.map fun x=>Value.string (aD x)):=by
 obtain ⟨us,h1,h2,h3,h4⟩:=h;have:us=xs.map fun x=>[Value.string (aD x)]:=by
  apply List.ext_getElem?;intro i;rw [oE];by_cases hi:i<xs.length
  ·have hi2:i<us.length:=by omega
   have:=(h4 i us[i] xs[i] (by simp [hi2]) (by simp [hi])).now;simp only [numC] at this;simp [hi,hi2,this]
  ·rw [oK (by omega),oK (by omega)];rfl
 rw [this,eI (fun x=>Value.string (aD x))] at h3;exact h3
theorem bU.of_ownsW {w:World} {base:Nat} {e:TypeId} {g cap:Nat} {xs:List Int} (h:w.ownsRow base e 1 (.slice (some ⟨g,0,none⟩) xs.length cap) xs.length (xs.map fun x=>Value.string (aD x))):bU w g 0 xs/\base<=g/\xs.length<=cap/\cap<=maxLen:=by
 have hc:=h.cells (g:=g) (by simp [Value.ownBlock]);have hf:=fun j=>h.frozenAt j;rcases h.2 with ⟨hv,_⟩ | ⟨g',cap',cur,hv,hb,hg,h1,h2,h3,h4⟩
 ·simp at hv
 ·simp only [Value.slice.injEq,Option.some.injEq,Addr.mk.injEq] at hv;obtain ⟨⟨rfl,-,-⟩,-,rfl⟩:=hv;refine ⟨⟨(Array.getElem?_eq_some_iff.1 hg).1,fun j x hx=>?_,fun j=>?_⟩,hb,h1,h2⟩
  ·have:=hc j (.string (aD x)) (by rw [oE,hx];rfl);rw [show (⟨g,0,none⟩:Addr).add j=⟨g,0+j,none⟩ by unfold Addr.add;split <;> simp_all] at this;exact this
  ·exact hf j
theorem Z3F:(prog.info? 119).map (fun i=>(i.zero,i.size,i.bytes))=some (some (.slice none 0 0),1,24):=by kernel_rfl
def iS (t:Nat×Nat×Nat) (n:Nat):Value:=.slice (some ⟨t.1,t.2.1,none⟩) n t.2.2
def lR (tags:List (Nat×Nat×Nat)) (m:List (List Int)):List Value:=List.zipWith (fun t r=>iS t r.length) tags m
structure eQ (w:World) (ob base:Nat) (v:Value) (tags:List (Nat×Nat×Nat)) (m:List (List Int)):Prop where
 len:tags.length=m.length
 own:w.ownsRow ob 119 1 v m.length (lR tags m)
 row:∀ (i:Nat) t r,tags[i]?=some t->m[i]?=some r->r.length<=t.2.2/\t.2.2<=maxLen/\bU w t.1 t.2.1 r/\base<=t.1/\v.ownBlock≠some t.1
 nodup:(tags.map (·.1)).Nodup
theorem eQ.nil (w:World) (ob base:Nat):eQ w ob base (.slice none 0 0) [] [] :=
 ⟨rfl,World.ownsRow_nil _ _ _ _,by intro i t r h;simp at h,by simp⟩
theorem eQ.ext {w w':World} {ob base:Nat} {v:Value} {tags:List (Nat×Nat×Nat)} {m:List (List Int)} (h:eQ w ob base v tags m) (he:aC w w'):eQ w' ob base v tags m :=
 ⟨h.len,fi h.own he,fun i t r ht hr=>by
  obtain ⟨h1,h2,h3,h4,h5⟩:=h.row i t r ht hr
  exact ⟨h1,h2,h3.ext he,h4,h5⟩,h.nodup⟩
theorem eQ.snoc {w w':World} {ob base:Nat} {v v':Value} {tags:List (Nat×Nat×Nat)} {m:List (List Int)} (h:eQ w ob base v tags m) (t:Nat×Nat×Nat) (r:List Int) (qU:r.length<=t.2.2) (ph:t.2.2<=maxLen) (hR:bU w t.1 t.2.1 r) (hb:base<=t.1) (hv:v.ownBlock≠some t.1) (hn:t.1∉tags.map (·.1))
  (hown:w'.ownsRow ob 119 1 v' (m.length+1) (lR tags m++[iS t r.length])) (hg:w.grownBy w' v.ownBlock) (rN:v'.ownBlock=v.ownBlock\/∃ b,v'.ownBlock=some b/\w.heap.size<=b) :
  eQ w' ob base v' (tags++[t]) (m++[r]):=by
 have pX:∀ (s:Nat×Nat×Nat) q,bU w s.1 s.2.1 q->v.ownBlock≠some s.1->bU w' s.1 s.2.1 q/\v'.ownBlock≠some s.1:=fun s q hs wX=>by
  refine ⟨hs.same hg.size (hg.block s.1 hs.lt wX.symm),fun e=>?_⟩;rcases rN with e2 | ⟨b,e2,e3⟩
  ·exact wX (e2.symm.trans e)
  ·rw [e2] at e;cases e;have:=hs.lt;omega
 refine ⟨by simp [h.len],?_,fun i s q hs hq=>?_,?_⟩
 ·have e:lR (tags++[t]) (m++[r])=lR tags m++[iS t r.length]:=by
   unfold lR;rw [List.zipWith_append h.len];rfl
  rw [e,oU];exact hown
 ·by_cases hi:i<tags.length
  ·rw [oM hi] at hs;rw [oM (by rw [<- h.len];exact hi)] at hq;obtain ⟨h1,h2,h3,h4,h5⟩:=h.row i s q hs hq;obtain ⟨k1,k2⟩:=pX s q h3 h5;exact ⟨h1,h2,k1,h4,k2⟩
  ·rw [oN (by omega)] at hs;rw [oN (by rw [<- h.len];omega)] at hq;have e1:i-tags.length=0:=by have:=(n_.1 hs).1;simp at this;omega
   have e2:i-m.length=0:=by rw [<- h.len];exact e1
   rw [e1] at hs;rw [e2] at hq;simp only [oP,Option.some.injEq] at hs hq;subst hs;subst hq;obtain ⟨k1,k2⟩:=pX t r hR hv;exact ⟨qU,ph,k1,hb,k2⟩
 ·rw [List.map_append,List.nodup_append];refine ⟨h.nodup,by simp,?_⟩;intro a ha b hb2 e;simp only [List.map_cons,List.map_nil,List.mem_singleton] at hb2;subst e;subst hb2;exact hn ha
theorem eQ.mat {w:World} {ob base:Nat} {g cap:Nat} {tags:List (Nat×Nat×Nat)} {m:List (List Int)} (h:eQ w ob base (.slice (some ⟨g,0,none⟩) m.length cap) tags m) (hob:base<=ob) :
  bh w g tags m/\m.length<=cap/\cap<=maxLen/\∀ b,mq g tags b->base<=b:=by
 have hc:=h.own.cells (g:=g) (by simp [Value.ownBlock]);have hf:=fun j=>h.own.frozenAt j;rcases h.own.2 with ⟨hv,_⟩ | ⟨g',cap',cur,hv,hb,hg,h1,h2,h3,h4⟩
 ·simp at hv
 ·simp only [Value.slice.injEq,Option.some.injEq,Addr.mk.injEq] at hv;obtain ⟨⟨rfl,-,-⟩,-,rfl⟩:=hv;refine ⟨⟨h.len,(Array.getElem?_eq_some_iff.1 hg).1,fun j=>hf j,fun i t r ht hr=>?_,?_⟩,h1,h2,fun b hb2=>?_⟩
  ·obtain ⟨k1,k2,k3,k4,k5⟩:=h.row i t r ht hr;refine ⟨?_,k1,k2,k3⟩;have:=hc i (iS t r.length) (by unfold lR;rw [List.getElem?_zipWith,ht,hr]);rw [show (⟨g,0,none⟩:Addr).add i=⟨g,i,none⟩ by unfold Addr.add;split <;> simp_all] at this;exact this
  ·rw [List.nodup_cons];refine ⟨fun hm=>?_,h.nodup⟩;obtain ⟨t,ht,rfl⟩:=List.mem_map.1 hm;obtain ⟨i,hi⟩:=List.getElem?_of_mem ht;have hl:i<m.length:=by rw [<- h.len];exact (n_.1 hi).1
   exact (h.row i t m[i] hi (n9 hl)).2.2.2.2 rfl
  ·rcases List.mem_cons.1 hb2 with rfl | hb2
   ·exact oI hob hb
   ·obtain ⟨t,ht,rfl⟩:=List.mem_map.1 hb2;obtain ⟨i,hi⟩:=List.getElem?_of_mem ht;have hl:i<m.length:=by rw [<- h.len];exact (n_.1 hi).1
    exact (h.row i t m[i] hi (n9 hl)).2.2.2.1
theorem Y2_ (w:World) {ops:Array Oper} {rest:List Oper} {o:Oper} {a:Act} {Q:Exit->Act->World->Prop} (pf:o.guard=none)
  (s x:Operand) (ho:o.op=Op.call { callee:=Callee.builtin Builtin.append,args:=#[s,x],argTypes:=#[116,116] }) (ob base:Nat)
  (v:Value) (tags:List (Nat×Nat×Nat)) (m:List (List Int)) (t:Nat×Nat×Nat) (r:List Int) (u:Array Value) (T:TypeId) (hs:a.eval s=v) (hB:eQ w ob base v tags m)
  (hx:a.eval x=.slice (some ⟨w.heap.size,0,none⟩) 1 1) (hu:u=#[iS t r.length]) (qU:r.length<=t.2.2) (ph:t.2.2<=maxLen) (hR:bU w t.1 t.2.1 r) (hb:base<=t.1) (hv:v.ownBlock≠some t.1) (hn:t.1∉tags.map (·.1))
  (hlen:m.length<1000000) (ow:ob<=w.heap.size)
  (h:∀ v' w',eQ w' ob base v' (tags++[t]) (m++[r])->Below ob w w'->Hid (∃ g c,v'=.slice (some ⟨g,0,none⟩) (m.length+1) c)->wpList prog ops Q rest (a.put o.dst v') w') :
  wpList prog ops Q (o::rest) a (w.alloc (.cells u T)):=by
 refine wpList_plain pf fun K hK=>?_;subst hu;obtain ⟨i0,hi,hz,pD,hby⟩:=info_parts Z3F;have qE:∀ j,(⟨w.heap.size,0,none⟩:Addr).add j=⟨w.heap.size,j,none⟩:=by intro j;unfold Addr.add;split <;> simp_all
 have hE:aC w (w.alloc (.cells #[iS t r.length] T)):=aC.alloc _ _;refine jc (w.alloc (.cells #[iS t r.length] T)) s x 116 ho ob 119 i0 (.slice none 0 0) 1 24 underlying116 hi hz pD hby rfl (by decide) v m.length (lR tags m) hs (fi hB.own hE) ⟨w.heap.size,0,none⟩ 1 1 [iS t r.length] hx rfl ?_ ?_ ?_ ?_ ?_ ?_
 ·intro j q hq;rw [qE,World.cell?_alloc_new];simpa using hq
 ·intro u hu;rw [List.mem_singleton.1 hu];rfl
 ·unfold maxLen;omega
 ·omega
 ·simp;omega
 ·intro v' w' hown oe _ rN
  have hLB:=(hB.ext hE).snoc t r qU ph (hR.ext hE) hb hv hn hown oe (by
   rcases rN with h1 | h1
   ·exact .inl h1
   ·exact .inr ⟨_,h1,oJ _⟩)
  refine hK _ _ (h v' w' hLB ?_ ?_)
  ·have qw:w.grownBy w' v.ownBlock:=iI (hE.grown _) oe;refine ⟨qw.os,qw.tape,qw.output,qw.size,fun b hb2=>qw.block b (by omega) ?_⟩;intro e;have:=(hB.own.lt b e.symm).1;omega
  ·obtain ⟨g,c,sG,-⟩:=iz hown (by omega);exact ⟨g,c,sG⟩
theorem R9_ (w:World) {ops:Array Oper} {rest:List Oper} {o:Oper} {a:Act} {Q:Exit->Act->World->Prop} (pf:o.guard=none)
  (s x:Operand) (ho:o.op=Op.call { callee:=Callee.builtin Builtin.append,args:=#[s,x],argTypes:=#[119,119] }) (base:Nat)
  (v:Value) (xs ys:List Int) (hs:a.eval s=v) (hB:aZ w base 53 1 v numC xs) (g c n:Nat) (hn:ys.length=n) (hx:a.eval x=.slice (some ⟨g,0,none⟩) n c) (hR:bU w g 0 ys)
  (hlen:xs.length+n<1000000) (pK:1<=n) (ow:base<=w.heap.size)
  (h:∀ w' gr cr,bU w' gr 0 (xs++ys)->base<=gr->xs.length+n<=cr->cr<=maxLen->Below base w w'->wpList prog ops Q rest (a.put o.dst (.slice (some ⟨gr,0,none⟩) (xs.length+n) cr)) w') :
  wpList prog ops Q (o::rest) a w:=by
 refine wpList_plain pf fun K hK=>?_;subst hn;obtain ⟨i0,hi,hz,pD,hby⟩:=info_parts ik;have qE:∀ j,(⟨g,0,none⟩:Addr).add j=⟨g,0+j,none⟩:=by intro j;unfold Addr.add;split <;> simp_all
 have hbig:=hB.numsB;refine jc w s x 119 ho base 53 i0 (.string ⟨#[]⟩) 1 16 underlying119 hi hz pD hby rfl (by decide) v xs.length (xs.map fun x=>Value.string (aD x)) hs hbig ⟨g,0,none⟩ ys.length c (ys.map fun x=>Value.string (aD x)) hx (by simp) ?_ ?_ ?_ ?_ ow ?_
 ·intro j q hq;rw [oE] at hq;cases hy:ys[j]? with
  | none=>rw [hy] at hq;cases hq
  | some y =>
   rw [hy] at hq;rw [qE,hR.cell j y hy];exact congrArg some (oL hq)
 ·intro u hu;obtain ⟨y,-,rfl⟩:=List.mem_map.1 hu;rfl
 ·unfold maxLen;omega
 ·omega
 ·intro v' w' hown oe _ rN;have rn:w'.ownsRow base 53 1 v' (xs++ys).length ((xs++ys).map fun x=>Value.string (aD x)):=by
   rw [oU,List.map_append];exact hown
  obtain ⟨gr,cr,rfl,-⟩:=iz rn (by rw [oU];omega);obtain ⟨k1,k2,k3,k4⟩:=bU.of_ownsW rn;rw [oU] at k3;rw [oU];refine hK _ _ (h w' gr cr k1 k2 k3 k4 ⟨oe.os,oe.tape,oe.output,oe.size,fun b hb=>oe.block b (by omega) ?_⟩);intro e;have:=(hbig.lt b e.symm).1;omega
theorem o0_ {P:Program} (w:World) (dT sT ty elem:TypeId) (g o dLen dCap:Nat) (a:Addr) (sLen sCap:Nat) (cur:Array Value) (t:TypeId) (cs:List Value) (sz:Nat)
  (hu:P.underlying dT=some (.slice elem)) (hs:(P.info? elem).map (·.size)=some sz)
  (hg:w.heap[g]?=some (.cells cur t (0,0))) (hn:cs.length=Nat.min sLen dLen*sz)
  (FG:∀ j v,cs[j]?=some v->w.cell? (a.add j)=some v) (rI:o+cs.length<=cur.size) (h1:∀ v∈cs,v.oneCell'=true) :
  (Builtin.copy_ #[dT,sT] ty #[.slice (some ⟨g,o,none⟩) dLen dCap,.slice (some a) sLen sCap]).run P w =
   .ok (goInt (Nat.min sLen dLen)) (w.setRow g (cur.toList.take o++cs++cur.toList.drop (o+cs.length)).toArray):=by
 have hl:=run_loadCells_list (P:=P) w a cs FG;have hst:=run_storeCells_at P g o t cs 0 cur w hg (by simpa using rI) h1;cases hq:P.info? elem with
 | none=>simp [hq] at hs
 | some i =>
  have hi:i.size=sz:=by simpa [hq] using hs
  simp [Builtin.copy_,run_underlying hu,Builtin.lenOf,Builtin.firstCells,sizeOf,typeInfo,hq,hi,<- hn,hl,hst]
def dh (l:List Int):List Value:=l.map fun x=>.string (aD x)
theorem jb (l:List Int):(dh l).length=l.length:=by unfold dh;simp
theorem o4_ (l:List Int):∀ v∈dh l,v.oneCell'=true:=by
 intro v hv;unfold dh at hv;obtain ⟨x,-,rfl⟩:=List.mem_map.1 hv;rfl
theorem nt {q:Int} {m j:Nat} (h:j<m):(dh (List.replicate m q))[j]?=some (.string (aD q)):=by
 unfold dh;rw [oE,List.getElem?_replicate,if_pos h];rfl
def c8 (q:Int) (n k:Nat):List Value:=dh (List.replicate k q)++List.replicate (n-k) (.string ⟨#[]⟩)
theorem w0_ (q:Int) {n k:Nat} (h:k<=n):(c8 q n k).length=n:=by
 unfold c8;rw [oU,jb];simp;omega
theorem d5_ (q:Int) (n:Nat):c8 q n n=dh (List.replicate n q):=by simp [c8]
theorem Z2E (q:Int) (n:Nat):c8 q n 0=List.replicate n (.string ⟨#[]⟩):=by simp [c8,dh]
theorem p9_ (q:Int) {n k m:Nat} (h:k+m<=n):(c8 q n k).take k++dh (List.replicate m q)++(c8 q n k).drop (k+(dh (List.replicate m q)).length)=c8 q n (k+m):=by
 have h1:(dh (List.replicate k q)).length=k:=by rw [jb];simp
 unfold c8;rw [List.take_left' h1,List.drop_append,List.drop_eq_nil_of_le (by omega),h1,List.nil_append,List.drop_replicate,jb,List.length_replicate,show k+m-k=m by omega,show n-k-m=n-(k+m) by omega,<- List.replicate_append_replicate (n:=k) (m:=m)];unfold dh;simp
theorem Z4n (q:Int) {n k m:Nat} (hm:m<=k) {j:Nat} {v:Value} (h:(dh (List.replicate m q))[j]?=some v):(c8 q n k)[j]?=some v:=by
 unfold c8;have hj:=(n_.1 h).1;rw [jb,List.length_replicate] at hj;rw [oM (by rw [jb];simp;omega),nt (by omega)];rw [nt hj] at h;exact h
theorem Z4o (q:Int) (n:Nat) {xs:List Int} (h:xs=List.replicate n q):iY (c8 q n n) n n xs:=by
 refine ⟨w0_ q (oJ n),fun i hi=>⟨aD q,by rw [d5_,nt hi]⟩,fun i x hi hx=>?_⟩;rw [d5_,nt hi];rw [h,List.getElem?_replicate,if_pos hi] at hx;cases hx;rfl
theorem j8_ (q:Int) (n:Nat) (hn:n<=1000) (v:Value) (w:World) (h:aI 1 numC w v [q]) :
  Calls prog 89 #[v,.int .i64 (n:Int)] w fun e w'=>∃ g,e=.returned (.slice (some ⟨g,0,none⟩) n n)/\w'.heap[g]?=some (.cells (c8 q n n).toArray 53 (0,0))/\w.heap.size<=g/\aC w w':=by
 obtain ⟨i0,hi,pH,hz1,hz2⟩:=info_parts ik;have HI:=n8 hi;have HZ0:=n8 pH;have HZ1:=n8 hz1;have HZ2:=n8 hz2;clear hi pH hz1 hz2;obtain ⟨a,c,rfl,h1,h2,-,hc⟩:=bT.open (eP.of_nums h);obtain ⟨b,off,rfl,hb,hcell⟩:=hc (by simp);have Di:Hid (∀ W,aC w W->∀ j v,(dh (List.replicate (Nat.min 1 n) q))[j]?=some v->W.cell? ((⟨b,off,none⟩:Addr).add j)=some v):=fun W hW j v hv=>by
  obtain ⟨u,hu1,hu⟩:=hcell 0 q rfl;obtain rfl:u=.string (aD q):=hu1;have hj:=(n_.1 hv).1;rw [jb,List.length_replicate] at hj;have AI:Nat.min 1 n<=1:=Nat.min_le_left _ _;obtain rfl:j=0:=by omega
  rw [show (⟨b,off,none⟩:Addr).add 0=⟨b,off+0,none⟩ by unfold Addr.add;split <;> simp_all];refine hW.cell (hu.trans ?_);rw [<- hv,nt (by simpa using hj)]
 simp only [List.length_cons,List.length_nil,Nat.zero_add] at h1 |-;clear h hc hcell;unfold maxLen at h2;have q1:¬ (n:Int)<0:=by omega
 have tw:Hid (∀ W,Calls prog 146 #[.int .u64 1,.int .u64 (n:Int)] W fun e w'=>e=.returned (.tuple #[.int .u64 0,.int .u64 (n:Int)])/\w'=W):=fun W=>by
  have:=bits_Mul 1 n (by decide) (by omega) W;rw [Nat.one_mul,Nat.div_eq_of_lt (by omega),Nat.mod_eq_of_lt (by omega)] at this;exact this
 have q2:IntKind.u64.wrap (n:Int)=(n:Int):=by rw [IntKind.wrap_u64];omega
 have q3:IntKind.i64.wrap (n:Int)=(n:Int):=by rw [IntKind.wrap_i64];omega
 have q4:¬ (9223372036854775807:Int)<(n:Int):=by omega
 go_enter func89,ntmps89
 go_wp2_with fail;refine (tw _).mono ?_;rintro e w1 ⟨rfl,rfl⟩;clear tw;go_wp2_with (at_make;refine wpList_make_full _ rfl _ _ 29 rfl w1.heap.size 53 i0 (.string ⟨#[]⟩) 1 underlying29 HI HZ0 HZ1 _ _ _ _ n rfl rfl rfl rfl ?c1 ?c2 ?c3 ?_)
 any_goals (first | (rw [HZ2.out];omega) | (unfold maxLen;omega) | exact oJ _)
 intro w3 hown oe;have hs2:(i0.zero=some (.string ⟨#[]⟩)):=HZ0.out;have HG3:Hid (w3.heap[w1.heap.size]?=some (.cells (c8 q n 0).toArray 53 (0,0))/\aC w1 w3):=by
  refine ⟨?_,jm oe⟩;rcases hown.2 with ⟨hv,-⟩ | ⟨g',cap,cur,hv,-,hg,-,-,h3,h4⟩
  ·simp at hv
  ·simp only [Value.slice.injEq,Option.some.injEq,Addr.mk.injEq] at hv;obtain ⟨⟨rfl,-,-⟩,-,rfl⟩:=hv;rw [hg,Z2E];congr 2;have h5:cur.toList=List.replicate n (.string ⟨#[]⟩):=by
    rw [List.take_of_length_le (by simp [h3])] at h4;rw [h4]
    (try rw [Nat.mul_one]);exact r7_ _
   rw [<- h5]
 clear hown oe hs2;have HN2:Hid ((dh (List.replicate (Nat.min 1 n) q)).length=Nat.min 1 n*1/\0+(dh (List.replicate (Nat.min 1 n) q)).length<=(c8 q n 0).toArray.size):=by
  have h0:Nat.min 1 n<=n:=Nat.min_le_right _ _;refine ⟨by rw [jb];simp,?_⟩;simp only [List.size_toArray];rw [jb,w0_ q (Nat.zero_le n)];simp;omega
 obtain ⟨k0,rR⟩:∃ k0,k0=Nat.min 1 n:=⟨_,rfl⟩;have Cy:k0<=n:=by rw [rR];exact Nat.min_le_right _ _
 have Cx:0<n->0<k0:=fun h=>by rw [rR];exact Nat.lt_min.2 ⟨by omega,h⟩
 have HK:=n8 (And.intro Cy Cx);have HK0:=n8 rR;clear rR Cy Cx;have HCO:Hid ((((c8 q n 0).toArray.toList.take 0)++dh (List.replicate (Nat.min 1 n) q)++(c8 q n 0).toArray.toList.drop (0+(dh (List.replicate (Nat.min 1 n) q)).length)).toArray=(c8 q n k0).toArray):=by
  have:=p9_ q (n:=n) (k:=0) (m:=k0) (by have:=HK.1;omega);unfold Hid;rw [HK0.out] at this |-;simpa using congrArg List.toArray this
 obtain ⟨W4,DL⟩:∃ W4,W4=w3.setRow w1.heap.size (((c8 q n 0).toArray.toList.take 0)++dh (List.replicate (Nat.min 1 n) q)++(c8 q n 0).toArray.toList.drop (0+(dh (List.replicate (Nat.min 1 n) q)).length)).toArray:=⟨_,rfl⟩;have AW:(Builtin.copy_ #[29,29] 3 #[.slice (some ⟨w1.heap.size,0,none⟩) n n,.slice (some ⟨b,off,none⟩) 1 c]).run prog w3=.ok (.int .i64 (k0:Int)) W4:=by
  rw [DL,HK0.out];exact o0_ w3 _ _ _ 53 w1.heap.size 0 n n ⟨b,off,none⟩ 1 c (c8 q n 0).toArray 53 (dh (List.replicate (Nat.min 1 n) q)) 1 underlying29 (by kernel_rfl) HG3.1 HN2.1 (Di _ HG3.2) (by have:=HN2.2;simpa using this) (o4_ _)
 have BI:Hid (W4.heap[w1.heap.size]?=some (.cells (c8 q n k0).toArray 53 (0,0))/\aC w1 W4):=by
  rw [DL,HCO.out];exact ⟨setRow_heap w3 _ _ _ _ _ HG3.1,below_setRow HG3.2 (oJ _) _⟩
 clear DL HCO HN2 Di HK0;go_wp2_with fail;clear AW
 go_loopw [8] (fun t wr=>∃ k:Nat,k<=n/\(0<n->0<k)/\t=.int .i64 (k:Int)/\Hid (wr.heap[w1.heap.size]?=some (.cells (c8 q n k).toArray 53 (0,0))/\aC w1 wr)) (fun t _=>n-(intOf t).toNat)
 case atStart=>exact ⟨k0,HK.1,HK.2,rfl,BI⟩
 case round =>
  obtain ⟨k,hk,rR,rfl,HG⟩:=hrel;obtain ⟨wo,rfl⟩:∃ wo:World,wo=wr:=⟨_,rfl⟩;by_cases hlt:k<n
  ·skip;obtain ⟨m,hm⟩:∃ m,m=Nat.min k (n-k):=⟨_,rfl⟩;have hm1:m<=k:=by rw [hm];exact Nat.min_le_left _ _
   have wH:m<=n-k:=by rw [hm];exact Nat.min_le_right _ _
   have vI:0<m:=by rw [hm];exact Nat.lt_min.2 ⟨rR (by omega),by omega⟩
   have HMN:Hid (m=Nat.min k (n-k)):=hm;have p1:(k:Int)<=(n:Int):=by omega
   have p2:(0:Int)<=(k:Int):=by omega
   have p3:IntKind.i64.wrap ((k:Int)+(m:Int))=(k:Int)+(m:Int):=by rw [IntKind.wrap_i64];omega
   have Em:wo.drew.heap[w1.heap.size]?=some (.cells (c8 q n k).toArray 53 (0,0)):=HG.1;obtain ⟨W5,Ag⟩:∃ W5,W5=wo.drew.setRow w1.heap.size (((c8 q n k).toArray.toList.take (k))++dh (List.replicate m q)++(c8 q n k).toArray.toList.drop (k+(dh (List.replicate m q)).length)).toArray:=⟨_,rfl⟩;have AW:(Builtin.copy_ #[29,29] 3 #[.slice (some ⟨w1.heap.size,k,none⟩) (n-k) (n-k),.slice (some ⟨w1.heap.size,0,none⟩) k n]).run prog wo.drew=.ok (.int .i64 (m:Int)) W5:=by
    rw [Ag,hm]
    exact o0_ wo.drew _ _ _ 53 w1.heap.size (k) (n-k) (n-k) ⟨w1.heap.size,0,none⟩ k n (c8 q n k).toArray 53 (dh (List.replicate (Nat.min k (n-k)) q)) 1 underlying29 (by kernel_rfl) Em (by rw [jb];simp) (fun j v hv=>by
     rw [show (⟨w1.heap.size,0,none⟩:Addr).add j=⟨w1.heap.size,j,none⟩ by unfold Addr.add;split <;> simp_all];have:=Z4n q (n:=n) (k:=k) (Nat.min_le_left _ _) hv;simp only [World.cell?,Em]
     simpa using this) (by simp only [List.size_toArray];rw [jb,w0_ q hk,List.length_replicate,<- hm];omega) (o4_ _)
   have vw:Hid (W5.heap[w1.heap.size]?=some (.cells (c8 q n (k+m)).toArray 53 (0,0))/\aC w1 W5):=by
    rw [Ag];refine ⟨?_,below_setRow (HG.2.trans (aC.drew _)) (oJ _) _⟩;rw [setRow_heap wo.drew _ _ _ _ _ Em];have:=p9_ q (n:=n) (k:=k) (m:=m) (by omega);rw [<- this]
   have q5:(k:Int)<(n:Int):=by omega
   have q6:¬ n=k:=by omega
   clear Ag hm Em
   go_upto_region 9 with (fail)
   refine iP (fun _=>True) 7 (by kernel_rfl) trivial (fun oX=>?_);refine rA [0,1,2,3,4,5,6] ?_
   iterate 7 (refine rW (v:=?_) (by rfl) (Or.inl ⟨by rfl,?_⟩) ?_;rotate_left;·((intro w');(try go_simp);(try with_reducible rfl));(try simp only [Act.put,aK,aL,aM]))
   refine rE ?_;refine dO 7 (by kernel_rfl) rfl (fun K hK=>?_);go_simp;refine hK _ _ trivial (fun oX=>?_);clear hK K
   (try simp only [Act.put,aK,aL,aM])
   refine tW (v:=?_) 8 rfl (Or.inl ⟨by rfl,?_⟩) ?_;rotate_left
   ·((intro w');(try go_simp);(try with_reducible rfl))
   (try simp only [Act.put,aK,aL,aM])
   refine fL 9 (by kernel_rfl) (by kernel_rfl) (by kernel_rfl) rfl (fun K hK=>?_);go_simp;refine hK _ _ ?_;clear hK K
   (try simp only [Act.put,aK,aL,aM])
   clear AW oX;go_wp2_with fail;go_roundw
   case rel=>exact ⟨k+m,by omega,fun _=>by omega,by go_num,vw⟩
   case measure=>simp [intOf];omega
  ·obtain rfl:k=n:=by omega
   go_wp2_with fail;go_ret;exact ⟨_,rfl,HG.1,oJ _,HG.2⟩
end Go.Proofs.YtjlkkofmojgipaaGreatDoor
