import Derived.Test.YtoonaddcfakamaaGreatDoorZAP
import Derived.Test.YtoonaddcfakamaaGreatDoorZAO
import Derived.Test.YtoonaddcfakamaaGreatDoorZAG
import Derived.Test.YtoonaddcfakamaaGreatDoorZAJ
import Derived.Test.YtoonaddcfakamaaGreatDoorShelfG
import Derived.Test.YtoonaddcfakamaaGreatDoorZAD
import Derived.WalkSmall
import Derived.Lib.AppendIntMem
import Derived.Lib.Join
import Derived.Test.YtoonaddcfakamaaGreatDoorZAK
import Derived.Test.YtoonaddcfakamaaGreatDoorZAL
import Derived.Test.YtoonaddcfakamaaGreatDoorZAM
import Derived.Laws.CopyRow
import Derived.Laws.CopyOwn
import Derived.Test.YtoonaddcfakamaaGreatDoorZAI
import Derived.Deep.CutRange
import Derived.Test.YtoonaddcfakamaaGreatDoorZAA
import Derived.Lib.SliceRun
import Derived.Laws.AppendOwnNone
import Derived.Test.YtoonaddcfakamaaGreatDoorZAN
set_option linter.unusedVariables false
set_option linter.unusedSimpArgs false
set_option maxRecDepth 1000000
set_option maxHeartbeats 6000000
namespace Go.Proofs.YtoonaddcfakamaaGreatDoor
open Go.RowKit Go.Proofs.Tryz
theorem h9_ (n k:Nat) (X:pN) (c:Int) (i s:Nat):bh n k (X.map (c*·)) i s=c*bh n k X i s:=by
 have h:∀ p,(X.map (c*·)).getD p 0=c*X.getD p 0:=fun p=>by
  rw [oe,oh,oe];cases X[p]? with
  | none=>simp
  | some x=>rfl
 unfold bh
 split
 ·rw [h];unfold dZ;split;·rw [Int.mul_neg]
  ·rfl
 ·simp
theorem p6_ (c:Int) (r v:pN):∀ n,bD (r.map (c*·)) v n=c*bD r v n:=fun n=>by
 rw [fP,fP r v];exact nk v c r n
theorem r1_ {n:Nat} {m:pM} {v:pN}:cV n m v↔v.length=n/\∀ r∈m,bD r v n=0:=by
 constructor
 ·intro h;refine ⟨h.1,fun r hr=>?_⟩;obtain ⟨i,hi,rfl⟩:=jN hr;exact h.2 i hi
 ·intro h;exact ⟨h.1,fun i hi=>h.2 _ (eM hi)⟩
theorem Z5T {n k:Nat} {X:pN} {c:Int} (hc:c≠0) (v:pN):cV n (bz n k (X.map (c*·))) v↔cV n (bz n k X) v:=by
 have e:bz n k (X.map (c*·))=(bz n k X).map fun r=>r.map (c*·):=by
  unfold bz;rw [List.map_map];refine List.map_congr_left fun s _=>?_;show _=((List.range n).map fun i=>bh n k X i s).map (c*·);rw [List.map_map];exact List.map_congr_left fun i _=>h9_ n k X c i s
 rw [r1_,r1_,e];refine and_congr_right fun _=>⟨fun h r hr=>?_,fun h r hr=>?_⟩
 ·have:=h _ (List.mem_map.2 ⟨r,hr,rfl⟩);rw [p6_] at this;exact (Int.mul_eq_zero.1 this).resolve_left hc
 ·obtain ⟨r',wV,rfl⟩:=List.mem_map.1 hr;rw [p6_,h r' wV];simp
theorem Z1n {n k B:Nat} {M:pM} {ms:Nat->Nat} (hn:n<5) (hk:k<=n) (hM:a_ n M ms) (zh:M.length=k) (hs:∀ v,fe n M v->Sp n (aG 0 M) v) (hB:∀ x∈an n k M,x.natAbs<=B) (DE:B<=100000000) :
  ∀ v,Sp n (aG 0 M) v↔cV n (bz n k (an n k M)) v:=by
 have wa:(an n k M).length=(aO n k).length:=by unfold an;rw [List.length_map]
 have h0:=T8_ (by omega) hM (by omega);rw [zh] at h0;have hrow:∀ i,i<k->cV n (bz n k (an n k M)) (aD M i):=fun i hi=>by
  refine ⟨hM.1 i (by omega),fun j hj=>?_⟩;have pn:aD (bz n k (an n k M)) j∈bz n k (an n k M):=eM hj;obtain ⟨r,re⟩:=pK (aD (bz n k (an n k M)) j);rw [re] at pn |-;unfold bz at pn;obtain ⟨s,sL,rfl⟩:=List.mem_map.1 pn;by_cases hkn:k=n;·unfold bN at sL;rw [if_pos hkn] at sL;cases sL
  have hs2:s∈aO n (k+1):=by unfold bN at sL;rw [if_neg hkn] at sL;exact sL
  have h9:=n5_ M (n:=n) (by omega) (by omega) hs2 hi;have h8:((bD ((List.range n).map fun i=>bh n k (an n k M) i s) (aD M i) n:Int):Rat)=0:=by
   rw [nl,<- h9];refine cw fun c hc=>?_;have hg:((List.range n).map fun i=>bh n k (an n k M) i s).getD c 0=bh n k (an n k M) c s:=by
    rw [oe,oh,List.getElem?_range hc];rfl
   rw [hg];by_cases pj:s.testBit c=true
   ·have h7:(an n k M).getD (cl n k (s ^^^ (1 <<< c))) 0=qZ M k (s ^^^ (1 <<< c)):=mr (by omega) (by omega) (L8_ (by omega) (by omega) hs2 hc pj) _;rw [if_pos pj,jJ pj,h7,<- im];unfold dZ aC
    split
    ·rw [Rat.intCast_neg];grind
    ·grind
   ·have su:s.testBit c=false:=(by simpa using pj);rw [if_neg pj,jt su];show _*(0:Rat)=0;grind
  exact Rat.intCast_eq_zero_iff.1 h8
 obtain ⟨b1,b2,b3⟩:=w8_ n hn k hk;have zd:∀ x∈an n k M,x.natAbs<=10^8:=fun x hx=>ow (hB x hx) DE;obtain ⟨F,hF⟩:∃ F,10^eN 8 (bN n k).length<F:=⟨_,Nat.lt_succ_self _⟩;obtain ⟨F2,ve⟩:∃ F,10^(gN n (eN 8 (bN n k).length) 0).1<F:=⟨_,Nat.lt_succ_self _⟩;obtain ⟨R,hR,hK⟩:=g1_ (n:=n) (k:=k) zd hF b1;obtain ⟨l,ps,f1,f2,f3,-,f5⟩:=T7_ (F:=F2) hK.wid hK.bnd (.inr (oz n)) b2 b3 ve hK.free;have yq:∀ v,Sp n (aG 0 l) v↔cV n (bz n k (an n k M)) v:=fun v=>(f5.iff v).symm.trans (hK.ann v);have th:∀ i,i<l.length->∀ r∈bz n k (an n k M),bD r (aD l i) n=0:=fun i hi r hr=>by
  obtain ⟨j,yt⟩:=List.getElem?_of_mem hr;have:=((yq _).1 (.mem (az (Nat.zero_le i) hi))).2 j (od.1 yt).1;rw [eO yt] at this;exact this
 obtain ⟨y,hy,qW⟩:=C1_ h0;have hll:l.length<=k:=by
  by_cases h1:1<=k
  ·refine Z1P (by omega) (by omega) h1 f3 th ?_;obtain ⟨J,hJ,rfl⟩:=List.mem_map.1 hy;refine ⟨J,hJ,?_⟩;have:e8 n k (an n k M) J=qZ M k J:=mr (by omega) (by omega) hJ _;rw [this];exact qW
  ·obtain rfl:k=0:=(by omega);by_cases h2:l.length<=0;·exact h2
   exfalso;have hlt:=f3.2.lt 0 (by omega);have hpos:=f3.2.pos 0 (by omega);have Ar:(an n 0 M).getD 0 0≠0:=by
    obtain ⟨i,hi⟩:=List.getElem?_of_mem hy;have hil:=(od.1 hi).1;rw [wa,(u7_ n hn (ps 0) hlt).2.2.2.1] at hil;obtain rfl:i=0:=(by simpa using hil);rw [oe,hi];exact qW
   have:=a2_ hn Ar (th 0 (by omega)) (ps 0) hlt;unfold aC at hpos;rw [this] at hpos;omega
 have hin:∀ v,Sp n (aG 0 M) v->Sp n (aG 0 l) v:=fun v hv=>hv.mono fun r hr=>by
  obtain ⟨i,-,hi,rfl⟩:=hr;exact (yq _).2 (hrow i (by omega))
 have hpl:=Z5F hM f3 hin;intro v;refine ⟨fun hv=>(yq v).1 (hin v hv),fun hv=>?_⟩;have hv2:=(yq v).2 hv;obtain ⟨q,hq,h9⟩:=t4_ hM f3 hin (by omega) M.length (oz _) v hv2 (fun i hi=>by omega);exact hs v ⟨hv2.len (cT f3.1),q,hq,h9⟩
theorem Z65:∀ k,k<5->ek 9 k<=157464:=by decide +kernel
theorem m4_ {n:Nat} {m S A:pM} {ss qa:Nat->Nat} (hn:n<5) (hS:a_ n S ss) (hA:a_ n A qa) (hm:ak n m) (h9:∀ i,i<m.length->aT 9 (aD m i)) (spS:∀ v,Sp n (aG 0 S) v↔fe n m v)
  (Ly:∀ v,Sp n (aG 0 S) v↔cV n A v) (MJ:∀ v,Sp n (aG 0 A) v↔cV n S v) (hr:A.length+S.length=n) :
  (∀ x∈an n S.length S,x.natAbs<=157464)/\(∀ x∈an n A.length A,x.natAbs<=157464)/\bZ (an n S.length S)=1/\bZ (an n A.length A)=1 /\
   fM (dh n S.length (an n S.length S))=fM (an n A.length A)/\fM (dh n A.length (an n A.length A))=fM (an n S.length S):=by
 have hb:∀ x∈an n S.length S,x.natAbs<=157464:=fun x hx=>ow (Z5g hS hm h9 spS x hx) (Z65 _ (by omega));have e1:n-S.length=A.length:=by omega
 have e2:n-A.length=S.length:=by omega
 obtain ⟨a1,a2,a3,-⟩:=p7_ hn (by omega) rfl hA e1.symm MJ hb (by decide) (T8_ (by omega) hS (by omega));rw [e1] at a1 a2 a3;obtain ⟨b1,b2,-,-⟩:=p7_ hn (by omega) rfl hS e2.symm Ly a3 (by decide) (T8_ (by omega) hA (by omega));rw [e2] at b1 b2;exact ⟨hb,a3,b1,a1,a2,b2⟩
theorem jE.flip {n F:Nat} {P:pN} {m C M:pM} {vals:Bool} (h:jE n F P m C M vals):jE n F P m M C (!vals) where
 right:=h.left
 left:=h.right
 hC:=h.hM
 hM:=h.hC
 spC:=fun v=>by have:=h.spM v;cases vals <;> simpa using this
 spM:=fun v=>by have:=h.spC v;cases vals <;> simpa using this
 rank:=by have:=h.rank;omega
 lC:=h.lM
 lM:=h.lC
 bC:=h.bM
 bM:=h.bC
theorem K8_ {n F:Nat} {P:pN} {m C M:pM} {vals:Bool} (hn:n<=4) (hm:∀ x∈m,x.length=n) (h9:∀ x∈m,aT 9 x) (hT:jE n F P m C M vals) (v:pN):Sp n (aG 0 C) v↔cV n M v :=
 ⟨fun h=>⟨by
  have hC:ak n C:=fun i hi=>(hT.right.bC _ (eM hi)).2
  exact Sp.len (cT hC) h,fun i hi=>Z6q hm hT h (eM hi)⟩,Z6b hn hm h9 hT⟩
theorem Z3Z {n F:Nat} {P:pN} {m C M:pM} {vals:Bool} (hn:n<=4) (hm:∀ x∈m,x.length=n) (h9:∀ x∈m,aT 9 x) (hT:jE n F P m C M vals) :
  (∀ x∈an n C.length C,x.natAbs<=157464)/\(∀ x∈an n M.length M,x.natAbs<=157464)/\bZ (an n C.length C)=1/\bZ (an n M.length M)=1 /\
   fM (dh n C.length (an n C.length C))=fM (an n M.length M)/\fM (dh n M.length (an n M.length M))=fM (an n C.length C):=by
 obtain ⟨ps,hC⟩:=hT.hC;obtain ⟨qs,hM⟩:=hT.hM;have hW:ak n m:=fun i hi=>hm _ (eM hi);have Jw:∀ i,i<m.length->aT 9 (aD m i):=fun i hi=>h9 _ (eM hi);have a1:=K8_ hn hm h9 hT;have a2:=K8_ hn hm h9 hT.flip;have hr:=hT.rank;cases vals;·exact m4_ (by omega) hC hM hW Jw (fun v=>by have:=hT.spC v;simpa using this) a1 a2 hr
 ·obtain ⟨b1,b2,b3,b4,b5,b6⟩:=m4_ (by omega) hM hC hW Jw (fun v=>by have:=hT.spM v;simpa using this) a2 a1 (by omega);exact ⟨b2,b1,b4,b3,b6,b5⟩
theorem f0_:∀ n,n<=4->f_ [] 0=an n 0 []:=by decide +kernel
theorem g9_ {n:Nat} {M:pM} (hn:n<=4) (hM:∀ x∈M,x.length=n) (hl:M.length<=n):f_ M M.length=an n M.length M:=by
 cases M with
 | nil=>exact f0_ n hn
 | cons r M=>exact Z4Y (by omega) hl rfl (hM r (List.mem_cons_self ..))
theorem f1_ {n k B:Nat} {M:pM} {ms:Nat->Nat} (hn:n<5) (hk:k<=n) (hM:a_ n M ms) (zh:M.length=k) (hs:∀ v,fe n M v->Sp n (aG 0 M) v) (hB:∀ x∈an n k M,x.natAbs<=B) {c:Int} (hc:c≠0) (Li:c.natAbs*B<=100000000) :
  (∀ x∈(an n k M).map (c*·),x.natAbs<=100000000)/\bZ ((an n k M).map (c*·))≠0/\∃ F F2 R,jK F n k ((an n k M).map (c*·))=some R/\R.length=k/\lJ n F2 R=some M:=by
 have GM:∀ x∈(an n k M).map (c*·),x.natAbs<=100000000:=fun x hx=>by
  obtain ⟨y,hy,rfl⟩:=List.mem_map.1 hx;rw [Int.natAbs_mul];exact ow (Nat.mul_le_mul_left _ (hB y hy)) Li
 have DE:∀ x∈an n k M,x.natAbs<=100000000:=fun x hx=>by
  have h1:=GM (c*x) (List.mem_map.2 ⟨x,hx,rfl⟩);rw [Int.natAbs_mul] at h1;have h2:0<c.natAbs:=Int.natAbs_pos.2 hc;exact ow (Nat.le_mul_of_pos_left _ h2) h1
 have h0:=T8_ (by omega) hM (by omega);rw [zh] at h0;refine ⟨GM,?_,?_⟩
 ·rw [Y8_];exact fun e=>(Nat.mul_eq_zero.1 e).elim (fun h=>hc (Int.natAbs_eq_zero.1 h)) h0
 obtain ⟨b1,b2,b3⟩:=w8_ n hn k hk;have zd:∀ x∈(an n k M).map (c*·),x.natAbs<=10^8:=GM;obtain ⟨F,hF⟩:∃ F,10^eN 8 (bN n k).length<F:=⟨_,Nat.lt_succ_self _⟩;obtain ⟨F2,ve⟩:∃ F,10^(gN n (eN 8 (bN n k).length) 0).1<F:=⟨_,Nat.lt_succ_self _⟩;obtain ⟨R,hR,hK⟩:=g1_ (n:=n) (k:=k) zd hF b1;obtain ⟨l,ps,f1,f2,f3,-,f5⟩:=T7_ (F:=F2) hK.wid hK.bnd (.inr (oz n)) b2 b3 ve hK.free;have It:∀ v,Sp n (aG 0 l) v↔Sp n (aG 0 M) v:=fun v =>
  ((f5.iff v).symm.trans (hK.ann v)).trans ((Z5T hc v).trans (Z1n hn hk hM zh hs DE (oz _) v).symm)
 have e:l=M:=mb f3 hM ⟨fun r hr=>(It r).1 (.mem hr),fun r hr=>(It r).2 (.mem hr)⟩;subst e;exact ⟨F,F2,R,hR,by omega,f1⟩
def strR (_:World) (u:List Value) (s:ByteArray):Prop:=u=[.string s]
theorem strR.mono:iE strR:=fun _ _ _ _ _ h=>h
theorem B5_:(prog.info? 9).map (fun i=>(i.zero,i.size,i.bytes))=some (some (.string ⟨#[]⟩),1,16):=by kernel_rfl
def eW (n:Int):ByteArray:=⟨(Lib.itoa n).toArray⟩
theorem N4_ (u:Nat) (h:u<=1000000000):Lib.nDigits u<=10:=by
 by_cases h0:u<10;·rw [Lib.nDigits_small h0];omega
 ·rw [Lib.nDigits_big h0];by_cases h1:u / 10<10;·rw [Lib.nDigits_small h1];omega
  ·rw [Lib.nDigits_big h1];by_cases h2:u / 10 / 10<10;·rw [Lib.nDigits_small h2];omega
   ·rw [Lib.nDigits_big h2];by_cases h3:u / 10 / 10 / 10<10;·rw [Lib.nDigits_small h3];omega
    ·rw [Lib.nDigits_big h3];by_cases h4:u / 10 / 10 / 10 / 10<10;·rw [Lib.nDigits_small h4];omega
     ·rw [Lib.nDigits_big h4];by_cases h5:u / 10 / 10 / 10 / 10 / 10<10;·rw [Lib.nDigits_small h5];omega
      ·rw [Lib.nDigits_big h5];by_cases h6:u / 10 / 10 / 10 / 10 / 10 / 10<10;·rw [Lib.nDigits_small h6];omega
       ·rw [Lib.nDigits_big h6];by_cases h7:u / 10 / 10 / 10 / 10 / 10 / 10 / 10<10;·rw [Lib.nDigits_small h7];omega
        ·rw [Lib.nDigits_big h7];by_cases h8:u / 10 / 10 / 10 / 10 / 10 / 10 / 10 / 10<10;·rw [Lib.nDigits_small h8];omega
         ·rw [Lib.nDigits_big h8,Lib.nDigits_small (by omega)];omega
theorem b9_ (n:Int) (h1:-1000000000<=n) (h2:n<=1000000000):1<=(Lib.itoa n).length/\(Lib.itoa n).length<=11:=by
 unfold Lib.itoa
 split
 ·rw [List.length_cons,Lib.decDigits_length];have:=N4_ n.natAbs (by omega);omega
 ·rw [Lib.decDigits_length];have:=N4_ n.toNat (by omega);have:=Lib.nDigits_pos n.toNat;omega
theorem Z2T (A:Nat):∀ xs:List (List UInt8),(∀ x∈xs,x.length<=A)->Lib.lens xs<=A*xs.length
 | [],_=>by simp [Lib.lens]
 | x::xs,h=>by
  have h1:=h x (by simp);have h2:=Z2T A xs (fun y hy=>h y (by simp [hy]));simp only [Lib.lens,List.map_cons,List.sum_cons,List.length_cons,Nat.mul_succ] at h2 |-;omega
theorem a0_ (A:Nat) (sep:List UInt8) (xs:List (List UInt8)) (h:∀ x∈xs,x.length<=A):(Lib.join xs sep).length<=(A+sep.length)*xs.length:=by
 cases xs with
 | nil=>simp [Lib.join,List.intercalate]
 | cons x xs =>
  rw [Lib.join_cons,pG,Lib.joinTail_length];have h1:=h x (by simp);have h2:=Z2T A xs (fun y hy=>h y (by simp [hy]));simp only [List.length_cons,Nat.mul_succ,Nat.add_mul];omega
theorem ai.sl {α:Type} {R:World->List Value->α->Prop} {w:World} {base:Nat} {e:TypeId} {k:Nat} {v:Value} {xs:List α} (h:ai w base e k v R xs):∃ a c,v=.slice a xs.length c:=by
 obtain ⟨us,h1,h2,h3,h4⟩:=h;rcases h3.2 with ⟨rfl,hn⟩ | ⟨g,cap,cur,rfl,-⟩
 ·exact ⟨none,0,by rw [hn]⟩
 ·exact ⟨_,_,rfl⟩
def ir (xs:pN):List UInt8:=Lib.join (xs.map Lib.itoa) [32]
def h_ (xs:pN) (ket:Bool):List UInt8:=if ket then 91::(ir xs++[62]) else 60::(ir xs++[93])
theorem Z07 {a b:ByteArray} {v:Value} (h:a.data.toList=b.data.toList):Ending.returned (.tuple #[.string a,v])=.returned (.tuple #[.string b,v]):=by
 have:a=b:=by
  cases a;cases b;simp only at h;rw [ByteArray.mk.injEq];exact Array.toList_inj.1 h
 rw [this]
theorem Z3D (xs:pN) (ket:Bool) (v:Value) (w:World) (h:aM w v xs) (ht:ag w) :
  pI 176 #[v,.bool ket] w (.tuple #[.string ⟨(if dM xs=0 then h_ xs ket else []).toArray⟩,.int .i64 (dM xs)]):=by
 have HCK:=oZ (W8_ xs v w h);obtain ⟨a,c,rfl,h1,h2,-,-,hc⟩:=h.open;have HC:=oZ hc;have HT:=oZ ht;unfold maxLen at h2;clear h hc ht;by_cases he:dM xs=0
 ·have HOK:=oZ ((oK xs).1 he);have h64:=HOK.1;rw [if_pos he,he];rw [he] at HCK;clear he
  go_enter func176,ntmps176
  go_wp2_with fail;refine p_ HCK ?_;intro w1 HE1;clear HCK;go_wp2_with fail
  go_loopw [7,18] (fun out t wr=>∃ j:Nat,j<=xs.length/\t=.int .i64 j/\aA w wr/\Hid (ai wr w.heap.size 9 1 out strR ((xs.map eW).take j))) (fun _ t _=>xs.length-(intOf t).toNat)
  case atStart=>exact ⟨0,by omega,rfl,HE1,ai.nil _ _ _ _ _⟩
  case round =>
   obtain ⟨j,hj,rfl,hE,qi⟩:=hrel;obtain ⟨wo,rfl⟩:∃ wo:World,wo=wr:=⟨_,rfl⟩;by_cases hlt:j<xs.length
   ·obtain ⟨b,off,rfl,hb,pP⟩:=HC (by intro e;simp [e] at hlt);obtain ⟨x,hx⟩:∃ x,xs[j]?=some x:=⟨xs[j],oc hlt⟩;have g1:=hE.cell (pP j x hx);obtain ⟨qX,tT⟩:=HOK.2 x (og hx);have HN:Hid ((xs.map eW).take (j+1)=(xs.map eW).take j++[eW x]):=by
     unfold Hid;rw [ou,oh,hx];rfl
    have HJ:Hid (((xs.map eW).take j).length<1000000):=(by unfold Hid;rw [om];omega);have HIT:=oZ (strconv_Itoa x (by omega) (by omega) wo (HT.ext hE));clear pP hx;go_wp2_with fail;refine HIT.mono ?_;rintro e w2 ⟨rfl,kk,os,rZ⟩;have hE2:aA wo w2:=(by rw [rZ];exact Lib.below_grow _ wo (oz _) kk os);have HBu2:=oZ (qi.ext hE2);have HE2:=oZ (aA.trans hE hE2);have hszr:=HE2.size;clear hE2 rZ HIT;go_wp2_with (at_builtin;go_must (refine iQ _ rfl _ _ 108 rfl w.heap.size 9 (.string ⟨#[]⟩) 1 16 underlying108 B5_ rfl (by decide) u7 strR ((xs.map eW).take j) (eW x) #[.string (eW x)] 9 rfl HBu2 rfl rfl ?e1 (fun _ _=>rfl) HJ (by decide) hszr ?_))
    case e1=>simp [Value.oneCell']
    intro v' w5 pf qz hb5 hs5 _;rw [<- HN.out] at pf;have HB5:=oZ pf;have HE5:=oZ (Below.trans HE2 hb5);clear pf qz hb5;go_wp2_with fail;go_roundw
    case rel=>exact ⟨j+1,by omega,by go_num,HE5,HB5⟩
    case measure=>simp [intOf];omega
   ·obtain rfl:j=xs.length:=(by omega);have hB:=qi.out;rw [List.take_of_length_le (by rw [List.length_map];omega)] at hB;have HL:Hid ((ir xs).length<=1000):=by
     unfold Hid ir
     have:=a0_ 11 [32] (xs.map Lib.itoa) (by
      intro x hx;obtain ⟨n,hn,rfl⟩:=List.mem_map.1 hx;have:=HOK.2 n hn
      exact (b9_ n this.1 this.2).2)
     simp only [List.length_map,List.length_cons,List.length_nil] at this;omega
    have BI:Hid (pI 178 #[u7,.string ⟨#[32]⟩] wo (.string ⟨(ir xs).toArray⟩)):=by
     by_cases hn:xs.length=0
     ·have qB:xs=[]:=List.eq_nil_of_length_eq_zero hn;subst qB;obtain ⟨aa,cc,rfl⟩:=hB.sl;refine r_ (strings_Join_none aa cc ⟨#[32]⟩ wo) ?_;exact ⟨by simp [ir,Lib.join,List.intercalate],aA.refl _⟩
     ·obtain ⟨us,b1,b2,b3,b4⟩:=id hB;obtain ⟨g,cap,rfl,h5,h6,h7,h8⟩:=eu b3 (by rw [List.length_map];omega);obtain ⟨aa,cc,hv,-,-,-,AU⟩:=aN.open hB.list;obtain ⟨bb,oo,GK,hbb,vW⟩:=AU (by omega) (by intro e;have:=congrArg List.length e;simp at this;exact hn (by simpa using this));subst GK;simp only [Value.slice.injEq,Option.some.injEq,Addr.mk.injEq] at hv;obtain ⟨⟨rfl,rfl,-⟩,-,rfl⟩:=hv;have hmm:(xs.map eW).map (fun s=>s.data.toList)=xs.map Lib.itoa:=by
       rw [List.map_map];apply List.map_congr_left;intro y _;rfl
      have hj:=strings_Join g 0 cap (xs.map eW) ⟨#[32]⟩ wo (fun j x hx=>by
       obtain ⟨u,hu1,hu2,xG⟩:=vW j x hx;have:=xG 0 (by omega);rw [show u=[Value.string x] from hu2] at this
       simpa using this) hbb (by rw [List.length_map];omega) h7 (by
        rw [hmm];have:=HL.out;unfold ir at this;show (Lib.join (xs.map Lib.itoa) [32]).length<=_
        omega)
      rw [hmm] at hj;exact hj
    have HE:=oZ hE;obtain ⟨aa,cc,rfl⟩:=hB.sl;rw [List.length_map] at BI |-;clear hB hE;go_wp2_with fail
    ((with_reducible refine BI.out.mono ?_);rintro e w6 ⟨rfl,pR⟩)
    have HE6:=oZ (aA.trans HE pR);clear pR BI;have hll:=HL.out;have z1:¬ 9223372036854775807<1+(ir xs).length:=(by omega);have z2:¬ 9223372036854775807<1+(ir xs).length+1:=(by omega);cases ket
    ·go_wp2_with fail;go_ret2;exact ⟨Z07 (by simp [h_]),HE6⟩
    ·go_wp2_with fail;go_ret2;exact ⟨Z07 (by simp [h_]),HE6⟩
 ·have h4:dM xs=4:=(l8_ xs).resolve_left he;rw [if_neg he,h4];rw [h4] at HCK;clear he h4
  go_enter func176,ntmps176
  go_wp2_with fail;refine p_ HCK ?_;intro w1 HE1;clear HCK;go_wp2_with fail;go_ret2;exact ⟨rfl,HE1⟩
def jy (xs:pN):List UInt8:=Lib.join (xs.map Lib.itoa) [46]
theorem t3_ (xs:pN) (v:Value) (w:World) (h:aM w v xs) (ht:ag w) (he:eF xs=0) (hb:∀ x∈xs,-1000000000<=x/\x<=1000000000) (h64:xs.length<=64) :
  pI 73 #[v] w (.tuple #[.string ⟨(jy xs).toArray⟩,.int .i64 0]):=by
 have HCK:=oZ (mu xs v w h);rw [he] at HCK;have HOK:=oZ hb;obtain ⟨a,c,rfl,h1,h2,-,-,hc⟩:=h.open;have HC:=oZ hc;have HT:=oZ ht;unfold maxLen at h2;clear h hc ht he hb
 go_enter func73,ntmps73
 go_wp2_with fail;refine r_ HCK ?_;have HE1:Hid (aA w w):=aA.refl w;clear HCK;go_wp2_with fail
 go_loopw [5,15] (fun out t wr=>∃ j:Nat,j<=xs.length/\t=.int .i64 j/\aA w wr/\Hid (ai wr w.heap.size 9 1 out strR ((xs.map eW).take j))) (fun _ t _=>xs.length-(intOf t).toNat)
 case atStart=>exact ⟨0,by omega,rfl,HE1,ai.nil _ _ _ _ _⟩
 case round =>
  obtain ⟨j,hj,rfl,hE,qi⟩:=hrel;obtain ⟨wo,rfl⟩:∃ wo:World,wo=wr:=⟨_,rfl⟩;by_cases hlt:j<xs.length
  ·obtain ⟨b,off,rfl,hb,pP⟩:=HC (by intro e;simp [e] at hlt);obtain ⟨x,hx⟩:∃ x,xs[j]?=some x:=⟨xs[j],oc hlt⟩;have g1:=hE.cell (pP j x hx);obtain ⟨qX,tT⟩:=HOK x (og hx);have HN:Hid ((xs.map eW).take (j+1)=(xs.map eW).take j++[eW x]):=by
    unfold Hid;rw [ou,oh,hx];rfl
   have HJ:Hid (((xs.map eW).take j).length<1000000):=(by unfold Hid;rw [om];omega);have HIT:=oZ (strconv_Itoa x (by omega) (by omega) wo (HT.ext hE));clear pP hx;go_wp2_with fail;refine HIT.mono ?_;rintro e w2 ⟨rfl,kk,os,rZ⟩;have hE2:aA wo w2:=(by rw [rZ];exact Lib.below_grow _ wo (oz _) kk os);have HBu2:=oZ (qi.ext hE2);have HE2:=oZ (aA.trans hE hE2);have hszr:=HE2.size;clear hE2 rZ HIT;go_wp2_with (at_builtin;go_must (refine iQ _ rfl _ _ 108 rfl w.heap.size 9 (.string ⟨#[]⟩) 1 16 underlying108 B5_ rfl (by decide) u5 strR ((xs.map eW).take j) (eW x) #[.string (eW x)] 9 rfl HBu2 rfl rfl ?e1 (fun _ _=>rfl) HJ (by decide) hszr ?_))
   case e1=>simp [Value.oneCell']
   intro v' w5 pf qz hb5 hs5 _;rw [<- HN.out] at pf;have HB5:=oZ pf;have HE5:=oZ (Below.trans HE2 hb5);clear pf qz hb5;go_wp2_with fail;go_roundw
   case rel=>exact ⟨j+1,by omega,by go_num,HE5,HB5⟩
   case measure=>simp [intOf];omega
  ·obtain rfl:j=xs.length:=(by omega);have hB:=qi.out;rw [List.take_of_length_le (by rw [List.length_map];omega)] at hB;have HL:Hid ((jy xs).length<=1000):=by
    unfold Hid jy
    have:=a0_ 11 [46] (xs.map Lib.itoa) (by
     intro x hx;obtain ⟨n,hn,rfl⟩:=List.mem_map.1 hx;have:=HOK n hn
     exact (b9_ n this.1 this.2).2)
    simp only [List.length_map,List.length_cons,List.length_nil] at this;omega
   have BI:Hid (pI 178 #[u5,.string ⟨#[46]⟩] wo (.string ⟨(jy xs).toArray⟩)):=by
    by_cases hn:xs.length=0
    ·have qB:xs=[]:=List.eq_nil_of_length_eq_zero hn;subst qB;obtain ⟨aa,cc,rfl⟩:=hB.sl;refine r_ (strings_Join_none aa cc ⟨#[46]⟩ wo) ?_;exact ⟨by simp [jy,Lib.join,List.intercalate],aA.refl _⟩
    ·obtain ⟨us,b1,b2,b3,b4⟩:=id hB;obtain ⟨g,cap,rfl,h5,h6,h7,h8⟩:=eu b3 (by rw [List.length_map];omega);obtain ⟨aa,cc,hv,-,-,-,AU⟩:=aN.open hB.list;obtain ⟨bb,oo,GK,hbb,vW⟩:=AU (by omega) (by intro e;have:=congrArg List.length e;simp at this;exact hn (by simpa using this));subst GK;simp only [Value.slice.injEq,Option.some.injEq,Addr.mk.injEq] at hv;obtain ⟨⟨rfl,rfl,-⟩,-,rfl⟩:=hv;have hmm:(xs.map eW).map (fun s=>s.data.toList)=xs.map Lib.itoa:=by
      rw [List.map_map];apply List.map_congr_left;intro y _;rfl
     have hj:=strings_Join g 0 cap (xs.map eW) ⟨#[46]⟩ wo (fun j x hx=>by
      obtain ⟨u,hu1,hu2,xG⟩:=vW j x hx;have:=xG 0 (by omega);rw [show u=[Value.string x] from hu2] at this
      simpa using this) hbb (by rw [List.length_map];omega) h7 (by
       rw [hmm];have:=HL.out;unfold jy at this;show (Lib.join (xs.map Lib.itoa) [46]).length<=_
       omega)
     rw [hmm] at hj;exact hj
   have HE:=oZ hE;obtain ⟨aa,cc,rfl⟩:=hB.sl;rw [List.length_map] at BI |-;clear hB hE;go_wp2_with fail
   ((with_reducible refine BI.out.mono ?_);rintro e w6 ⟨rfl,pR⟩)
   have HE6:=oZ (aA.trans HE pR);clear pR BI;go_wp2_with fail;go_ret2;exact ⟨rfl,HE6⟩
def eT (P:pN) (M:pM):Nat->ByteArray
 | 0=>⟨(jy P).toArray⟩
 | i+1=>eT P M i++(⟨#[32]⟩++⟨(h_ (aD M i) false).toArray⟩)
theorem Z2z (n F:Nat) (P:pN) (C M:pM) (v:Value) (w:World) (hV:cP w v P C M) (hR:jB n F P C M) (JW:∀ x∈P,-1000000000<=x/\x<=1000000000) (hsz:∀ i,i<=M.length->(eT P M i).size<=1000000) (pT:b9 w) (hp:3<w.heap.size) :
  pI 71 #[v] w (.tuple #[.string (eT P M M.length),.int .i64 0]):=by
 have HCK:=oZ (fun W (hW:aA w W)=>y9_ n F P C M v W (hV.ext hW) hR (pT.ext hW) (ov hp hW.size));have hn6:=hR.n4;have hpl:=hR.pl;have hM:∀ r∈M,dM r=0:=fun r hr=>(oK r).2 ⟨by have:=(hR.bM r hr).2;omega,fun x hx=>by have:=(hR.bM r hr).1 x hx;omega⟩;obtain ⟨vp,vc,vm,rfl,qo,r9,rz⟩:=hV;have HPT:=oZ (fun W (hW:aA w W)=>t3_ P vp W (qo.ext hW) (pT.pow.ext hW) hR.pr JW (by omega));have HRT:Hid (∀ W r vr,aA w W->aM W vr r->r∈M->pI 176 #[vr,.bool false] W (.tuple #[.string ⟨(h_ r false).toArray⟩,.int .i64 0])):=fun W r vr hW hr hm=>by
  have:=Z3D r false vr W hr (pT.pow.ext hW);rw [hM r hm,if_pos rfl] at this;exact this
 obtain ⟨ap,cp,rfl,-⟩:=qo.open;obtain ⟨ac,cc,rfl,-⟩:=ae.open r9;obtain ⟨am,cm,rfl,h1,h2,-,hc⟩:=ae.open rz;have HC:=oZ hc;have HSZ:=oZ hsz;unfold maxLen at h2;clear qo r9 rz hR pT hp hc hM JW hn6 hpl hsz
 go_enter func71,ntmps71
 obtain ⟨W1,pc,hE1,hs1,hb1⟩:=gU w (.slice ap P.length cp) (.slice ac C.length cc) (.slice am M.length cm);have HE1:=oZ hE1;have HB1:=oZ hb1;obtain ⟨b0,b1,b2,-⟩:=cU hb1;clear hE1 hs1 hb1;go_wp2_with fail;refine (HCK _ HE1).mono ?_;rintro e w2 ⟨rfl,hE2⟩;have HE2:=oZ (HE1.trans hE2);have HB2:=oZ (aF HB1 hE2);clear HCK b0 b1 b2 pc hE2 HE1 HB1;obtain ⟨b0,b1,b2,-⟩:=cU HB2;go_wp2_with fail;refine (HPT _ HE2).mono ?_;rintro e w3 ⟨rfl,pS⟩;have HE3:=oZ (HE2.trans pS);have HB3:=oZ (aF HB2 pS);clear HPT b0 b1 b2 pS HE2 HB2;obtain ⟨b0,b1,b2,-⟩:=cU HB3;go_wp2_with fail;clear b0 b1 b2
 go_loopw [5,28] (fun s t wr=>∃ i:Nat,i<=M.length/\Hid (s=.string (eT P M i))/\t=.int .i64 i/\Hid (aA w3 wr)) (fun _ t _=>M.length-(intOf t).toNat)
 case atStart=>exact ⟨0,by omega,rfl,rfl,aA.refl _⟩
 case round =>
  obtain ⟨i,hi,hs,rfl,HE⟩:=hrel;obtain rfl:=hs.out;obtain ⟨wo,rfl⟩:∃ wo:World,wo=wr:=⟨_,rfl⟩;have HEo:=oZ (HE3.trans HE);clear hs;by_cases hlt:i<M.length
  ·obtain ⟨b,off,rfl,hb,pP⟩:=HC (by intro e;rw [e] at hlt;simp at hlt);obtain ⟨vx,qc,ph⟩:=pP i _ (eL hlt);have hmem:=eM hlt;have HIX:=oZ (qc.ext HEo);obtain ⟨ax,cx,rfl,-⟩:=qc.open;have g1:=HEo.cell ph;have HNX:Hid (eT P M (i+1)=eT P M i++(⟨#[32]⟩++⟨(h_ (aD M i) false).toArray⟩)):=rfl;have HMM:=oZ hmem;obtain ⟨r,hr⟩:=pK (aD M i);obtain ⟨s0,hs0⟩:=pK (eT P M i);rw [hs0] at HNX |-;rw [hr] at HNX HMM HIX g1;clear pP ph qc hmem hr hs0;go_wp2_with fail;refine q_ (HRT _ _ _ HEo HIX HMM) (HE.trans) ?_;intro w6 HE6;clear HE g1 HIX;obtain ⟨tx,IS⟩:∃ tx:ByteArray,(⟨(h_ r false).toArray⟩:ByteArray)=tx:=⟨_,rfl⟩;rw [IS] at HNX |-;have hz1:s0.size+(1+tx.size)<=1000000:=by
    have:=HSZ (i+1) (by omega);rw [HNX.out,ByteArray.size_append,ByteArray.size_append] at this;exact this
   have hz2:¬ (9223372036854775807<1+tx.size):=(by omega);have hz3:¬ (9223372036854775807<s0.size+(1+tx.size)):=(by omega);clear IS hz1;go_wp2_with fail;go_roundw
   case rel=>exact ⟨i+1,by omega,by unfold Hid;rw [HNX.out],by go_num,HE6⟩
   case measure=>simp [intOf];omega
  ·obtain rfl:i=M.length:=(by omega);go_wp2_with fail;go_ret2;exact ⟨rfl,HEo⟩
theorem Z2K (n F:Nat) (P:pN) (m R A S:pM) (vp v:Value) (w:World) (hP:aM w vp P) (h:aw w v m) (hE:eF P=0) (hPl:P.length=n) (hD:fF n F m R A S) (pT:b9 w) (hp:3<w.heap.size) :
  Calls prog 119 #[vp,v] w fun e w'=>∃ a c,e=.returned (.tuple #[.agg #[.int .i64 n,.slice a R.length c],.int .i64 0])/\aZ w' (·<w.heap.size) (fun W=>aw W (.slice a R.length c) R)/\aA w w':=by
 obtain ⟨w1,pt,hE1,hs1,hb1⟩:=eC w (.int .i64 0) (.slice none 0 0);have HPC:=oZ (fun W (hW:aA w W)=>mu P vp W (hP.ext hW));rw [hE] at HPC;have HOF:=oZ (fun W (hW:aA w W)=>f4_ n F m R A S v W (h.ext hW) hD (pT.ext hW) (ov hp hW.size));obtain ⟨ap,cp,rfl,p1,p2,-,-,-⟩:=hP.open;rw [hPl] at HPC |-;obtain ⟨a,c,rfl,-⟩:=ae.open h;have HE1:=oZ hE1;have HB1:=oZ hb1;have HS1:Hid (w.heap.size<w1.heap.size):=by unfold Hid;omega
 clear hP h hE hPl hD pT hp p1 p2 hE1 hb1 hs1
 go_enter func119,ntmps119
 go_wp2_with fail;clear pt;refine r_ (HPC w1 HE1) ?_;clear HPC;go_wp2_with fail;refine (HOF _ HE1).mono ?_;rintro e w2 ⟨u2,rfl,hu2,hE2⟩;obtain ⟨a2,c2,rfl,-⟩:=aN.open hu2.now;have HB2:=oZ (aF HB1 hE2);have HE2:=oZ (HE1.trans hE2);have HU:=oZ hu2;obtain ⟨r0,r1,rf⟩:=bY HB2;have f0:=rf 0;have f1:=rf 1;clear hE2 hu2 HOF HB1 rf;go_wp2_with fail;refine bodyPost_ret (mv (by rfl) _ _ w.heap.size 76 #[.int .i64 n,.slice a2 R.length c2] (0,0) _ (.int .i64 0) (by rfl) (by rfl) (fU HB2 _ _) underlying76 (by rfl) (by kernel_rfl)) (by rfl) ⟨_,_,rfl,?_,?_⟩
 ·have hG:aH (·<w1.heap.size) w2 ((w2.setCell ⟨w.heap.size,0,none⟩ (.int .i64 n)).setCell ⟨w.heap.size,1,none⟩ (.slice a2 R.length c2)) :=
   ((aH.refl _ w2).setCell (g:=w.heap.size) HS1 0 _).setCell (g:=w.heap.size) HS1 1 _
  exact HU.grow hG fun k hk=>.inl (Nat.lt_trans hk HS1)
 ·exact ei HE2 (oz _) _ _
theorem d4_ (n F:Nat) (P:pN) (m R A S:pM) (vp v:Value) (w:World) (hP:aM w vp P) (h:aw w v m) (hE:eF P=0) (hPl:P.length=n) (hD:fF n F m R A S) (q:Int) (HI:∀ W u,aA w W->cM W u n R->pI 120 #[u] W (.tuple #[.int .i64 q,.int .i64 0])) (pT:b9 w) (hp:3<w.heap.size) :
  pI 38 #[vp,v] w (.tuple #[.int .i64 q,.int .i64 0]):=by
 have HO:=oZ (Z2K n F P m R A S vp v w hP h hE hPl hD pT hp);have HIX:=oZ HI;obtain ⟨ap,cp,rfl,-⟩:=hP.open;obtain ⟨a,c,rfl,-⟩:=ae.open h;clear hP h hE hPl hD pT hp HI
 go_enter func38,ntmps38
 go_wp2_with fail;refine HO.mono ?_;rintro e w1 ⟨a1,c1,rfl,hu1,hE1⟩;have HU1:=oZ hu1.now;have HE1:=oZ hE1;clear hE1 hu1 HO;obtain ⟨V1,xu,hX,hs,hb⟩:=eC w1 (.int .i64 0) (.slice none 0 0);obtain ⟨r0,r1,rf⟩:=bY hb;have f0:=rf 0;have f1:=rf 1;have HB1:=oZ (fU hb (.int .i64 n) (.slice a1 R.length c1));have HX1:=oZ (ei hX (oz _) (.int .i64 n) (.slice a1 R.length c1));clear hX hs hb rf;obtain ⟨U1,vG⟩:=pK ((V1.setCell ⟨w1.heap.size,0,none⟩ (.int .i64 n)).setCell ⟨w1.heap.size,1,none⟩ (.slice a1 R.length c1));rw [vG] at HB1 HX1;obtain ⟨s0,s1,-⟩:=bY HB1;have HEU1:=oZ (HE1.trans HX1);have HR1:=oZ (HU1.ext HX1);go_wp2_with fail;clear vG xu r0 r1 f0 f1;refine q_ (HIX _ _ HEU1 ⟨_,rfl,HR1⟩) (HEU1.trans) ?_;intro w2 HE2;clear s0 s1;go_wp2_with fail;go_ret2;exact ⟨rfl,HE2⟩
theorem E0_ (n F:Nat) (P:pN) (m R A S:pM) (vp v:Value) (w:World) (hP:aM w vp P) (h:aw w v m) (hE:eF P=0) (hPl:P.length=n) (hD:fF n F m R A S) (q:Int) (HI:∀ W u,aA w W->cM W u n R->pI 120 #[u] W (.tuple #[.int .i64 q,.int .i64 0])) (pT:b9 w) (hp:3<w.heap.size) :
  pI 39 #[vp,v] w (.tuple #[.int .i64 q,.int .i64 0]):=by
 have HT:=oZ (d4_ n F P m R A S vp v w hP h hE hPl hD q HI pT hp);obtain ⟨ap,cp,rfl,-⟩:=hP.open;obtain ⟨a,c,rfl,-⟩:=ae.open h;clear hP h hE hPl hD pT hp HI
 go_enter func39,ntmps39
 go_wp2_with fail;refine HT.mono ?_;rintro e w1 ⟨rfl,hE1⟩;go_wp2_with fail;go_ret2;exact ⟨rfl,hE1⟩
theorem S3_ {P:Program} (w:World) (dT sT ty elem:TypeId) (g o dLen dCap:Nat) (a:Addr) (sLen sCap:Nat) (cur:Array Value) (t:TypeId) (cs:List Value) (sz:Nat)
  (hu:P.underlying dT=some (.slice elem)) (hs:(P.info? elem).map (·.size)=some sz)
  (hg:w.heap[g]?=some (.cells cur t (0,0))) (hn:cs.length=Nat.min sLen dLen*sz)
  (En:∀ j v,cs[j]?=some v->w.cell? (a.add j)=some v) (rJ:o+cs.length<=cur.size) (h1:∀ v∈cs,v.oneCell'=true) :
  (Builtin.copy_ #[dT,sT] ty #[.slice (some ⟨g,o,none⟩) dLen dCap,.slice (some a) sLen sCap]).run P w =
   .ok (goInt (Nat.min sLen dLen)) (w.setRow g (cur.toList.take o++cs++cur.toList.drop (o+cs.length)).toArray):=by
 have hl:=run_loadCells_list (P:=P) w a cs En;have hst:=run_storeCells_at P g o t cs 0 cur w hg (by simpa using rJ) h1;cases hq:P.info? elem with
 | none=>simp [hq] at hs
 | some i =>
  have hi:i.size=sz:=by simpa [hq] using hs
  simp [Builtin.copy_,run_underlying hu,Builtin.lenOf,Builtin.firstCells,sizeOf,typeInfo,hq,hi,<- hn,hl,hst]
def dL (q:Rat) (n k:Nat):List Value:=bp (List.replicate k q)++List.replicate (2*(n-k)) (.string ⟨#[]⟩)
theorem t6_ (q:Rat) {n k:Nat} (h:k<=n):(dL q n k).length=n*2:=by
 unfold dL;rw [pG,fN];simp;omega
theorem Z5c (q:Rat) (n:Nat):dL q n n=bp (List.replicate n q):=by simp [dL]
theorem Z3w (q:Rat) (n:Nat):dL q n 0=List.replicate (n*2) (.string ⟨#[]⟩):=by simp [dL,bp,Nat.mul_comm]
theorem l5_ (q:Rat) {n k m:Nat} (h:k+m<=n):(dL q n k).take (k*2)++bp (List.replicate m q)++(dL q n k).drop (k*2+(bp (List.replicate m q)).length)=dL q n (k+m):=by
 have h1:(bp (List.replicate k q)).length=k*2:=by rw [fN];simp
 unfold dL;rw [List.take_left' h1,List.drop_append,List.drop_eq_nil_of_le (by omega),h1,List.nil_append,List.drop_replicate,fN,List.length_replicate,show k*2+m*2-k*2=m*2 by omega,show 2*(n-k)-m*2=2*(n-(k+m)) by omega,<- List.replicate_append_replicate (n:=k) (m:=m),Y6_]
theorem Z5d (q:Rat) {n k m:Nat} (hm:m<=k) {j:Nat} {v:Value} (h:(bp (List.replicate m q))[j]?=some v):(dL q n k)[j]?=some v:=by
 unfold dL;have hj:=(od.1 h).1;rw [fN] at hj;rw [o6 (by rw [fN];simp at hj |-;omega)];have e:List.replicate k q=List.replicate m q++List.replicate (k-m) q:=by rw [List.replicate_append_replicate];congr 1;omega
 rw [e,Y6_,o6 (by rw [fN];exact hj)];exact h
theorem D6_ (l:List Rat):∀ v∈bp l,v.oneCell'=true:=by
 intro z hz;unfold bp at hz;obtain ⟨l,hl,hz⟩:=List.mem_flatten.1 hz;obtain ⟨q,-,rfl⟩:=List.mem_map.1 hl;simp only [List.mem_cons,List.not_mem_nil,or_false] at hz;rcases hz with rfl | rfl <;> rfl
theorem Z7G (s:Value) (n:Nat):(madeCells #[s,s] n).toList=List.replicate n s:=by
 apply List.ext_getElem;·simp [madeCells]
 ·intro j h1 h2;have hj:j<n:=by simpa using h2
  simp only [madeCells,Array.toList_map,List.getElem_map,List.getElem_replicate];have h3:j%2=0\/j%2=1:=by omega
  rcases h3 with h3 | h3 <;> simp [h3]
theorem RepBlk.own {B g n:Nat} {w:World} {q:Rat} (h:w.heap[g]?=some (.cells (dL q n n).toArray 246 (0,0))) (hB:B<=g) (hn:n<=1000):dc B w (.slice (some ⟨g,0,none⟩) n n) (List.replicate n q):=by
 refine ⟨by rw [fN],.inr ⟨g,n,_,by simp,hB,h,by simp,by unfold maxLen;omega,?_,?_⟩⟩;·simp [t6_ q (oz n)]
 ·rw [Z5c];simp;rw [List.take_of_length_le (by rw [fN];simp)]
theorem y0_ (q:Rat) (n:Nat) (hn:n<=1000) (v:Value) (w:World) (h:dS w v [q]) :
  Calls prog 297 #[v,.int .i64 (n:Int)] w fun e w'=>∃ g,e=.returned (.slice (some ⟨g,0,none⟩) n n)/\dc w.heap.size w' (.slice (some ⟨g,0,none⟩) n n) (List.replicate n q)/\aA w w':=by
 obtain ⟨i0,hi,pk,hz1,hz2⟩:=info_parts Z2C;have HI:=oZ hi;have HZ0:=oZ pk;have HZ1:=oZ hz1;have HZ2:=oZ hz2;clear hi pk hz1 hz2;obtain ⟨a,c,rfl,h1,h2,-,hc⟩:=h.open;obtain ⟨b,off,rfl,hb,pP⟩:=hc (by omega) (by simp);have yD:Hid (∀ W,aA w W->∀ j v,(bp (List.replicate (Nat.min 1 n) q))[j]?=some v->W.cell? ((⟨b,off,none⟩:Addr).add j)=some v):=fun W hW j v hv=>by
  obtain ⟨u,-,rfl,hu⟩:=pP 0 q rfl;have hj:=(od.1 hv).1;rw [fN] at hj;have pv:Nat.min 1 n=1:=by
   have:(List.replicate (Nat.min 1 n) q).length=Nat.min 1 n:=(by simp);have h0:Nat.min 1 n<=1:=Nat.min_le_left _ _;omega
  rw [pv] at hv hj;rw [show (⟨b,off,none⟩:Addr).add j=⟨b,off+(0*2+j),none⟩ by unfold Addr.add;split <;> simp_all];refine hW.cell ((hu j (by simpa using hj)).trans ?_);exact hv
 simp only [List.length_cons,List.length_nil,Nat.zero_add] at h1 |-;clear h hc pP;unfold maxLen at h2;have q1:¬ (n:Int)<0:=by omega
 have sY:Hid (∀ W,Calls prog 213 #[.int .u64 1,.int .u64 (n:Int)] W fun e w'=>e=.returned (.tuple #[.int .u64 0,.int .u64 (n:Int)])/\w'=W):=fun W=>by
  have:=bits_Mul 1 n (by decide) (by omega) W;rw [Nat.one_mul,Nat.div_eq_of_lt (by omega),Nat.mod_eq_of_lt (by omega)] at this;exact this
 have q2:IntKind.u64.wrap (n:Int)=(n:Int):=by rw [IntKind.wrap_u64];omega
 have q3:IntKind.i64.wrap (n:Int)=(n:Int):=by rw [IntKind.wrap_i64];omega
 have q4:¬ (9223372036854775807:Int)<(n:Int):=by omega
 go_enter func297,ntmps297
 go_wp2_with fail;refine (sY _).mono ?_;rintro e w1 ⟨rfl,rfl⟩;clear sY;go_wp2_with (at_make;refine wpList_make_full _ rfl _ _ 267 rfl w1.heap.size 246 i0 (.agg #[.string ⟨#[]⟩,.string ⟨#[]⟩]) 2 underlying267 HI HZ0 HZ1 _ _ _ _ n rfl rfl rfl rfl ?c1 ?c2 ?c3 ?_)
 any_goals (first | (rw [HZ2.out];omega) | (unfold maxLen;omega) | exact oz _)
 intro w3 hown pQ;have hs2:(i0.zero=some (.agg #[.string ⟨#[]⟩,.string ⟨#[]⟩])):=HZ0.out;have HG3:Hid (w3.heap[w1.heap.size]?=some (.cells (dL q n 0).toArray 246 (0,0))/\aA w1 w3):=by
  refine ⟨?_,ic pQ⟩;rcases hown.2 with ⟨hv,-⟩ | ⟨g',cap,cur,hv,-,hg,-,-,h3,h4⟩
  ·simp at hv
  ·simp only [Value.slice.injEq,Option.some.injEq,Addr.mk.injEq] at hv;obtain ⟨⟨rfl,-,-⟩,-,rfl⟩:=hv;rw [hg,Z3w];congr 2;have h5:cur.toList=List.replicate (n*2) (.string ⟨#[]⟩):=by
    rw [List.take_of_length_le (by simp [h3])] at h4;rw [h4];exact Z7G _ _
   rw [<- h5]
 clear hown pQ hs2;have rF:Hid ((bp (List.replicate (Nat.min 1 n) q)).length=Nat.min 1 n*2/\0*2+(bp (List.replicate (Nat.min 1 n) q)).length<=(dL q n 0).toArray.size):=by
  have h0:Nat.min 1 n<=n:=Nat.min_le_right _ _;refine ⟨by rw [fN];simp,?_⟩;simp only [List.size_toArray];rw [fN,t6_ q (Nat.zero_le n)];simp;omega
 obtain ⟨k0,qt⟩:=pL (Nat.min 1 n);have xY:k0<=n:=by rw [qt];exact Nat.min_le_right _ _
 have xX:0<n->0<k0:=fun h=>by rw [qt];exact Nat.lt_min.2 ⟨by omega,h⟩
 have HK:=oZ (And.intro xY xX);have HK0:=oZ qt;clear qt xY xX;have HCO:Hid ((((dL q n 0).toArray.toList.take 0)++bp (List.replicate (Nat.min 1 n) q)++(dL q n 0).toArray.toList.drop (0+(bp (List.replicate (Nat.min 1 n) q)).length)).toArray=(dL q n k0).toArray):=by
  have:=l5_ q (n:=n) (k:=0) (m:=k0) (by have:=HK.1;omega);unfold Hid;rw [HK0.out] at this |-;simpa using congrArg List.toArray this
 obtain ⟨W4,y6⟩:=pL (w3.setRow w1.heap.size (((dL q n 0).toArray.toList.take 0)++bp (List.replicate (Nat.min 1 n) q)++(dL q n 0).toArray.toList.drop (0+(bp (List.replicate (Nat.min 1 n) q)).length)).toArray);have xj:(Builtin.copy_ #[267,267] 3 #[.slice (some ⟨w1.heap.size,0,none⟩) n n,.slice (some ⟨b,off,none⟩) 1 c]).run prog w3=.ok (.int .i64 (k0:Int)) W4:=by
  rw [y6,HK0.out];exact S3_ w3 _ _ _ 246 w1.heap.size 0 n n ⟨b,off,none⟩ 1 c (dL q n 0).toArray 246 (bp (List.replicate (Nat.min 1 n) q)) 2 underlying267 (by kernel_rfl) HG3.1 rF.1 (yD _ HG3.2) (by have:=rF.2;simpa using this) (D6_ _)
 have HG4:Hid (W4.heap[w1.heap.size]?=some (.cells (dL q n k0).toArray 246 (0,0))/\aA w1 W4):=by
  rw [y6,HCO.out];exact ⟨setRow_heap w3 _ _ _ _ _ HG3.1,below_setRow HG3.2 (oz _) _⟩
 clear y6 HCO rF yD HK0;go_wp2_with fail;clear xj
 go_loopw [8] (fun t wr=>∃ k:Nat,k<=n/\(0<n->0<k)/\t=.int .i64 (k:Int)/\Hid (wr.heap[w1.heap.size]?=some (.cells (dL q n k).toArray 246 (0,0))/\aA w1 wr)) (fun t _=>n-(intOf t).toNat)
 case atStart=>exact ⟨k0,HK.1,HK.2,rfl,HG4⟩
 case round =>
  obtain ⟨k,hk,qt,rfl,HG⟩:=hrel;obtain ⟨wo,rfl⟩:∃ wo:World,wo=wr:=⟨_,rfl⟩;by_cases hlt:k<n
  ·skip;obtain ⟨m,hm⟩:=pL (Nat.min k (n-k));have qp:m<=k:=by rw [hm];exact Nat.min_le_left _ _
   have rI:m<=n-k:=(by rw [hm];exact Nat.min_le_right _ _);have vS:0<m:=(by rw [hm];exact Nat.lt_min.2 ⟨qt (by omega),by omega⟩);have HMN:Hid (m=Nat.min k (n-k)):=hm;have p1:(k:Int)<=(n:Int):=(by omega);have p2:(0:Int)<=(k:Int):=(by omega);have p3:IntKind.i64.wrap ((k:Int)+(m:Int))=(k:Int)+(m:Int):=(by rw [IntKind.wrap_i64];omega);have y7:wo.drew.heap[w1.heap.size]?=some (.cells (dL q n k).toArray 246 (0,0)):=HG.1;obtain ⟨W5,vF⟩:=pL (wo.drew.setRow w1.heap.size (((dL q n k).toArray.toList.take (k*2))++bp (List.replicate m q)++(dL q n k).toArray.toList.drop (k*2+(bp (List.replicate m q)).length)).toArray);have xj:(Builtin.copy_ #[267,267] 3 #[.slice (some ⟨w1.heap.size,k*2,none⟩) (n-k) (n-k),.slice (some ⟨w1.heap.size,0,none⟩) k n]).run prog wo.drew=.ok (.int .i64 (m:Int)) W5:=by
    rw [vF,hm]
    exact S3_ wo.drew _ _ _ 246 w1.heap.size (k*2) (n-k) (n-k) ⟨w1.heap.size,0,none⟩ k n (dL q n k).toArray 246 (bp (List.replicate (Nat.min k (n-k)) q)) 2 underlying267 (by kernel_rfl) y7 (by rw [fN];simp) (fun j v hv=>by
     rw [show (⟨w1.heap.size,0,none⟩:Addr).add j=⟨w1.heap.size,j,none⟩ by unfold Addr.add;split <;> simp_all];have:=Z5d q (n:=n) (k:=k) (Nat.min_le_left _ _) hv;simp only [World.cell?,y7]
     simpa using this) (by simp only [List.size_toArray];rw [fN,t6_ q hk,List.length_replicate,<- hm];omega) (D6_ _)
   have HG5:Hid (W5.heap[w1.heap.size]?=some (.cells (dL q n (k+m)).toArray 246 (0,0))/\aA w1 W5):=by
    rw [vF];refine ⟨?_,below_setRow (HG.2.trans (aA.drew _)) (oz _) _⟩;rw [setRow_heap wo.drew _ _ _ _ _ y7];have:=l5_ q (n:=n) (k:=k) (m:=m) (by omega);rw [<- this]
   have q5:(k:Int)<(n:Int):=(by omega);have q6:¬ n=k:=(by omega);clear vF hm y7
   go_upto_region 9 with (fail)
   refine iq (fun _=>True) 7 (by kernel_rfl) trivial (fun pO=>?_);refine rA [0,1,2,3,4,5,6] ?_
   iterate 7 ((refine rW (v:=?_) (by rfl) (Or.inl ⟨by rfl,?_⟩) ?_;rotate_left;·((intro w');(try go_simp);(try with_reducible rfl)));(try simp only [Act.put,aQ,aR,aS]))
   refine rE ?_;refine dH 7 (by kernel_rfl) rfl (fun K hK=>?_);go_simp;refine hK _ _ trivial (fun pO=>?_);clear hK K
   (try simp only [Act.put,aQ,aR,aS])
   refine tW (v:=?_) 8 rfl (Or.inl ⟨by rfl,?_⟩) ?_;rotate_left;·((intro w');(try go_simp);(try with_reducible rfl))
   (try simp only [Act.put,aQ,aR,aS])
   refine fL 9 (by kernel_rfl) (by kernel_rfl) (by kernel_rfl) rfl (fun K hK=>?_);go_simp;refine hK _ _ ?_;clear hK K
   (try simp only [Act.put,aQ,aR,aS])
   clear xj pO;go_wp2_with fail;go_roundw
   case rel=>exact ⟨k+m,by omega,fun _=>by omega,by go_num,HG5⟩
   case measure=>simp [intOf];omega
  ·obtain rfl:k=n:=(by omega);go_wp2_with fail;go_ret;exact ⟨_,rfl,RepBlk.own HG.1 (oz _) hn,HG.2⟩
theorem Z1r (xs:pN) (i B:Nat) (x:Int) (v:Value) (w:World) (hx:xs[i]?=some x) (hv:aM w v xs) (hb:w.cell? ⟨B,0,none⟩=some v) (ht:ag w) :
  Calls prog 296 #[.int .i64 (i:Int),.pointer (some ⟨B,0,none⟩)] w fun e w'=>∃ u,e=.returned u/\dS w' u [(x:Rat)]/\aA w w':=by
 obtain ⟨a,c,rfl,h1,h2,-,hbd,hc⟩:=hv.open;have hi:=(od.1 hx).1;obtain ⟨b,off,rfl,sO,pP⟩:=hc (by intro e;rw [e] at hi;simp at hi);have g1:=pP i x hx;obtain ⟨b1,b2⟩:=hbd x (og hx);have HOF:=oZ (jx x w b1 b2 ht);have p1:(0:Int)<=(i:Int):=by omega
 have p2:(i:Int)<(xs.length:Int):=by omega
 clear hv hc pP hx ht hbd
 go_enter func296,ntmps296
 go_wp2_with fail;refine p_ HOF ?_;intro w1 HE1;clear g1 hb;go_wp2_with fail;go_ret;have:=dS.one w1 (x:Rat) 246;rw [show ((x:Rat)).num=x from rfl,show ((x:Rat)).den=1 from rfl,ik] at this;exact ⟨_,rfl,this,HE1.trans (aA.alloc _ _)⟩
theorem bu.form2 {α:Type} {K:iG α} {e:TypeId} {w:World} {ob base:Nat} {u:Value} {tags:List (Nat×Nat)} {m:List (List α)} (h:bu K e w ob base u tags m):∃ a c,u=.slice a m.length c:=by
 rcases h.own.2 with ⟨rfl,hn⟩ | ⟨g,cap,cur,rfl,hb,hg,h1,h2,h3,h4⟩
 ·exact ⟨none,0,by rw [hn]⟩
 ·exact ⟨_,cap,rfl⟩
def eP (xss:pM) (right:pN):List (List Rat):=gT xss (fun i=>[((right.getD i 0:Int):Rat)]) xss.length
def jY (xss:pM) (right:pN):fI:=aq (eP xss right) (bP xss)
def ki (s:fI) (n:Nat):Bool:=(s.m.drop s.lead.length).any fun r=>decide (r.getD n 0≠0)
def iS (s:fI) (n:Nat):Nat->List Rat
 | 0=>List.replicate n 0
 | i+1=>(iS s n i).set (s.lead.getD i 0) (aJ s.m i n)
theorem oY (s:fI) (n:Nat):∀ i,(iS s n i).length=n
 | 0=>by simp [iS]
 | i+1=>by unfold iS;rw [List.length_set];exact oY s n i
def nA (s:fI) (n:Nat):List Rat:=if ki s n then [] else iS s n s.lead.length
def kj (s:fI) (n:Nat):Int:=if ki s n then 3 else if s.lead.length<n then 2 else 1
theorem Z2S (m:List (List Rat)):∀ c,∀ x∈(aq m c).lead,x<c
 | 0,x,hx=>by simp [aq] at hx
 | c+1,x,hx=>by
  have ih:=Z2S m c;have hx:x∈(cF c (aq m c)).lead:=hx;unfold cF at hx;simp only at hx
  split at hx
  ·have:=ih x hx;omega
  ·rcases List.mem_append.1 hx with hx | hx;·have:=ih x hx;omega
   ·simp at hx;omega
theorem F0_ {xss:pM} {right:pN} {n:Nat} (h:∀ r∈xss,r.length=n):b_ (n+1) (eP xss right):=by
 intro r hr;unfold eP gT at hr;obtain ⟨k,hk,rfl⟩:=List.mem_map.1 hr;have hk2:k<xss.length:=by simpa using hk
 rw [pG,lq,oe,oc hk2];simp;exact h _ (List.getElem_mem hk2)
theorem Z3L {s:fI} {n q:Nat} {r:List Rat} (h:s.m[s.lead.length+q]?=some r) (hr:r.getD n 0≠0):ki s n=true:=by
 unfold ki;rw [List.any_eq_true];exact ⟨r,og (by rw [pF];exact h),by simpa using hr⟩
theorem d1_ {s:fI} {n:Nat} (h:∀ q r,s.m[s.lead.length+q]?=some r->r.getD n 0=0):ki s n=false:=by
 unfold ki;rw [List.any_eq_false];intro r hr;obtain ⟨q,hq⟩:=List.getElem?_of_mem hr;rw [pF] at hq;simpa using h q r hq
theorem Z3N (xss:pM) (right:pN) (v ur:Value) (w:World) (h:aw w v xss) (hk:aM w ur right) (hE:cL xss=0) (hpos:0<xss.length) (BV:right.length=xss.length) (rJ:∀ x∈right,-1000000000<=x/\x<=1000000000)
  (hok:∀ c,c<bP xss->gK 2500 (aq (eP xss right) c).m/\RS 9000 (aq (eP xss right) c).det) (ht:ag w) :
  Calls prog 220 #[v,ur] w fun e w'=>∃ x,e=.returned (.tuple #[x,.int .i64 (kj (jY xss right) (bP xss)),.int .i64 0])/\dS w' x (nA (jY xss right) (bP xss))/\aA w w':=by
 obtain ⟨hl,re⟩:=ko hE;have FF:bP xss<=12:=by
  cases xss with
  | nil=>simp at hpos
  | cons r l=>exact (re r (by simp)).2.1
 have hrl:∀ r∈xss,r.length=bP xss:=fun r hr=>(re r hr).1;have HCH:=oZ (fun W hW=>nC xss v W (h.ext (w':=W) hW));rw [hE] at HCH;have HCO:Hid (∀ W,aA w W->Calls prog 200 #[v] W fun e w'=>e=.returned (.int .i64 (bP xss:Int))/\w'=W):=fun W hW=>(Y7_ xss v W (h.ext hW)).mono fun _ _ ⟨a,b⟩=>⟨a,b.symm⟩
 have HANY:Hid (∀ W,aA w W->pI 117 #[ur,.func (.func 199) #[] #[]] W (.bool false)):=fun W hW=>by
  have:=Z1_ right ur 199 #[] (fun x=>!dx x) W (hk.ext hW) (enters_of func199 (by kernel_rfl) rfl) (fun W x _ _=>(I7_ x W).mono fun _ _ ⟨he,hw⟩=>⟨he,hw▸aA.refl _⟩)
  rw [show right.any (fun x=>!dx x)=false from by
   rw [List.any_eq_false];intro x hx;have:=(nu x).2 (rJ x hx)
   simp [this]] at this
  exact this
 have zq:Hid (∀ W B,aA w W->W.cell? ⟨B,0,none⟩=some ur->Calls prog 204 #[v,.func (.func 296) #[] #[.pointer (some ⟨B,0,none⟩)]] W fun e w'=>∃ u tags,e=.returned u/\bu jW 267 w' W.heap.size W.heap.size u tags (eP xss right)/\aA W w'):=fun W B hW hb=>by
  refine t9_ xss v 296 #[.pointer (some ⟨B,0,none⟩)] (fun i=>[((right.getD i 0:Int):Rat)]) W (h.ext hW) (by omega) (fun r hr=>by rw [hrl r hr];omega) (fun i r hr=>⟨by simp,by simp⟩) (enters_of func296 (by kernel_rfl) rfl) (fun i X hi hX=>?_) (ht.ext hW);have hx:right[i]?=some (right.getD i 0):=by rw [oe,oc (by omega)];rfl
  exact Z1r right i B _ ur X hx ((hk.ext hW).ext hX) (hX.cell hb) ((ht.ext hW).ext hX)
 have HRE:Hid (∀ u tags W w1,bu jW 267 w1 W.heap.size W.heap.size u tags (eP xss right)->aA w W->aA W w1->Calls prog 203 #[u,.int .i64 (bP xss:Int)] w1 fun e w'=>∃ v,e=.returned (.tuple #[v,bR (jY xss right).det])/\Z6O W w1 w' u v tags (eP xss right) (bP xss)):=fun u tags W w1 hO hW h1 =>
  U3_ (eP xss right) (bP xss) (bP xss+1) u tags W w1 hO h1 (F0_ hrl) (by omega) (by omega) (by unfold eP;rw [oL];omega) hok (ht.ext hW) (fun e=>by have:(eP xss right).length=xss.length:=oL _ _ _;rw [e] at this;simp at this;omega)
 have HML:Hid ((eP xss right).length=xss.length):=oL _ _ _;have Hh:Hid (eP xss right≠[]):=fun e=>by have:=HML.out;rw [e] at this;simp at this;omega
 have HSH:Hid (b_ (bP xss+1) (jY xss right).m/\(jY xss right).m.length=xss.length/\(jY xss right).lead.length<=xss.length):=by
  obtain ⟨k1,k2,k3⟩:=oJ (F0_ (right:=right) hrl) (bP xss);exact ⟨k1,by show (aq (eP xss right) (bP xss)).m.length=_;rw [k2];exact HML,by show (aq (eP xss right) (bP xss)).lead.length<=_;rw [<- HML.out];exact k3⟩
 have HLT:Hid (∀ x∈(jY xss right).lead,x<bP xss):=Z2S _ _;obtain ⟨a,c,rfl,h1,h2,-,-⟩:=ae.open h;obtain ⟨ar,cr,rfl,h3,h4,-,-,-⟩:=hk.open;obtain ⟨L,hL⟩:=pL xss.length;obtain ⟨n,hn⟩:=pL (bP xss);obtain ⟨s,hs⟩:=pL (jY xss right);have HS:Hid (s=aq (eP xss right) n):=by rw [hs,hn];rfl
 rw [<- hs] at HRE HSH HLT |-;rw [<- hL] at HCH HCO HSH HML h1 hpos hl;rw [<- hn] at HCO HRE HSH HLT FF |-;rw [BV] at zq;rw [BV,<- hL] at HANY h3 |-;rw [<- hL] at zq;obtain ⟨ld,qy⟩:=pL s.lead.length;have HLD:=oZ qy;have K8:ld<=L:=by rw [qy];exact HSH.2.2
 unfold maxLen at h2 h4;have z1:((L:Int) != (L:Int))=false:=by simp
 clear h hk hE hok ht re hn hL hs hrl BV rJ qy
 go_enter func220,ntmps220
 obtain ⟨W1,pc⟩:=pK (w.alloc (.cells #[.slice ar L cr] 36));have pz:aA w W1:=by rw [<- pc];exact aA.alloc _ _
 have c1:W1.cell? ⟨w.heap.size,0,none⟩=some (.slice ar L cr):=by rw [<- pc,World.cell?_alloc_new];rfl
 have HX1:=oZ pz;clear pz;go_wp2_with fail;refine (HCH _ HX1).mono ?_;rintro e w2 ⟨rfl,hE2⟩;have c2:=hE2.cell c1;have HX2:=oZ (aA.trans HX1 hE2);clear hE2 c1 pc HCH;go_wp2_with fail;refine (HANY _ HX2).mono ?_;rintro e w3 ⟨rfl,pS⟩;have c3:=pS.cell c2;have HX3:=oZ (aA.trans HX2 pS);clear pS c2 HANY;go_wp2_with fail;refine (HCO _ HX3).mono ?_;rintro e w4 ⟨rfl,rfl⟩;clear HCO;go_wp2_with fail;refine (zq _ _ HX3 c3).mono ?_;rintro e w5 ⟨u,tags,rfl,hO,pV⟩;obtain ⟨au,cu,hu⟩:=hO.form2;rw [HML.out] at hu;have HO:=oZ hO;have HE5:=oZ pV;subst hu;clear hO pV c3 zq;go_wp2_with fail;refine (HRE _ tags w4 w5 HO HX3 HE5).mono ?_;rintro e w6 ⟨vl,rfl,hR⟩;have hRI:=hR.lead;rw [<- HS.out] at hRI;obtain ⟨av,cv,hv,-,-⟩:=hRI.form;rw [<- HLD.out] at hv;subst hv;have HLE:=oZ hRI;obtain ⟨d,hd⟩:=pL s.det;rw [<- hd];rw [show bR d=.agg #[.string (aB d.num),.string (aE d.den)] from rfl];obtain ⟨g,tags',cap,hu,hM,F5,Ld,hlow⟩:=hR.mat Hh;have HX6:=oZ (aA.trans HX3 hR.ext);rw [<- HS.out] at hM;have HM:=oZ hM;simp only [Value.slice.injEq] at hu;obtain ⟨rfl,-,rfl⟩:=hu;rw [HML.out] at F5;obtain ⟨W7,GN,qw,CH,hb7⟩:=dO w6 (.string ⟨#[]⟩) (.string ⟨#[]⟩) 246;obtain ⟨r0,r1,rf⟩:=dI hb7;have f0:=rf 0;have f1:=rf 1;have HX8:Hid (aA w6 ((W7.setCell ⟨w6.heap.size,0,none⟩ (.string (aB d.num))).setCell ⟨w6.heap.size,1,none⟩ (.string (aE d.den)))):=eB qw (oz _);have p1:(ld:Int)<=(L:Int):=by omega
 have p2:(0:Int)<=(ld:Int):=by omega
 clear hR hRI hd rf hb7 qw CH hM HRE HO HE5 hlow
 go_upto_region 11 with (fail)
 obtain ⟨W9,Bb⟩:=pL (((W7.setCell ⟨w6.heap.size,0,none⟩ (.string (aB d.num))).setCell ⟨w6.heap.size,1,none⟩ (.string (aE d.den))));rw [<- Bb] at HX8 |-;clear Bb GN r0 r1 f0 f1;obtain ⟨off,CV,zP⟩:∃ off,(if cu=ld then some (⟨g,0,none⟩:Addr) else some ⟨g,ld,none⟩)=some ⟨g,off,none⟩/\(ld<cu->off=ld):=by
  by_cases h:cu=ld;·exact ⟨0,by rw [if_pos h],fun h2=>by omega⟩
  ·exact ⟨ld,by rw [if_neg h],fun _=>rfl⟩
 have HOFF:=oZ zP;clear zP;have HM9:Hid (c8 W9 g tags' s.m):=HM.ext HX8;have KG:Hid (dR w5.heap.size W9 (.slice av ld cv) s.lead):=HLE.ext HX8;have HXW:=oZ (aA.trans HX6 HX8);have tE:Hid (s.m.length=L):=HSH.2.1;clear HM HLE HX8;go_wp2_with fail;clear CV
 go_loopw [44] (fun t wr=>∃ q:Nat,q<=L-ld/\t=.int .i64 (q:Int)/\Hid (aA W9 wr)/\Hid (∀ p r,p<q->s.m[ld+p]?=some r->r.getD n 0=0)) (fun t _=>(L-ld)-(intOf t).toNat)
 case atStart=>exact ⟨0,by omega,rfl,aA.refl _,fun p r hp=>by omega⟩
 case round =>
  obtain ⟨q,hq,rfl,HE,HZ⟩:=hrel;obtain ⟨wo,rfl⟩:∃ wo:World,wo=wr:=⟨_,rfl⟩;by_cases hlt:q<L-ld
  ·obtain rfl:off=ld:=HOFF (by omega);obtain ⟨r,hr⟩:∃ r,s.m[off+q]?=some r:=⟨_,oc (by rw [tE.out];omega)⟩;obtain ⟨t,ht,c1,l1,l2,hrow,-,-⟩:=HM9.get hr;have hrl:=HSH.1.get hr;obtain ⟨x,hx⟩:∃ x,r[n]?=some x:=⟨_,oc (by omega)⟩;have tG:r.getD n 0=x:=(by rw [oe,hx];rfl);have d1:=HE.cell c1;have d2:=HE.cell (hrow.num n x hx);have d3:=HE.cell (hrow.den n x hx);obtain ⟨R1,r7⟩:=pL (n+1);rw [hrl,<- r7] at d1;have p3:(n:Int)<(R1:Int):=(by omega);have p4:(0:Int)<=(n:Int):=(by omega);have p5:(q:Int)<((L-off:Nat):Int):=(by omega);have HSG:Hid (∀ W,pI 275 #[.agg #[.string (aB x.num),.string (aE x.den)]] W (.int .i64 x.num.sign)):=fun W=>X5_ x W;have hsz:=X6_ x;have HR0:=oZ hr;have HXG:=oZ tG;clear hr ht c1 hrow hrl hx tG r7;obtain ⟨sg,rQ⟩:=pL x.num.sign;rw [<- rQ] at HSG hsz;by_cases qB:x=0
   ·rw [pE qB] at hsz;have z7:(sg != 0)=false:=(by simp only [bne,hsz];rfl);have HZ2:Hid (∀ p r,p<q+1->s.m[off+p]?=some r->r.getD n 0=0):=fun p r' hp wV=>by
     by_cases e:p=q
     ·subst e;obtain rfl:r'=r:=o5 (wV.symm.trans HR0);rw [HXG.out];exact qB
     ·exact HZ p r' (by omega) wV
    clear qB rQ HXG HR0;go_wp2_with fail;refine q_ (HSG _) (aA.trans HE) ?_;intro w3 HE3;clear HSG d1 d2 d3;go_wp2_with fail;go_roundw
    case rel=>exact ⟨q+1,by omega,by go_num,HE3,HZ2⟩
    case measure=>simp [intOf];omega
   ·rw [pD qB] at hsz;have z7:(sg != 0)=true:=(by simp only [bne,hsz];rfl);have Dk:Hid (ki s n=true):=Z3L (q:=q) (by rw [<- HLD.out];exact HR0) (by rw [HXG.out];exact qB);clear qB rQ HXG HR0;go_wp2_with fail;refine q_ (HSG _) (aA.trans HE) ?_;intro w3 HE3;clear HSG d1 d2 d3;go_wp2_with fail;go_ret3;have e1:kj s n=3:=(by unfold kj;rw [if_pos Dk.out]);have e2:nA s n=[]:=(by unfold nA;rw [if_pos Dk.out]);exact ⟨.slice none 0 0,by rw [e1];rfl,by rw [e2];exact dS.nil _,HXW.trans HE3⟩
  ·have yL:Hid (ki s n=false):=d1_ (fun p r hr=>HZ p r (by
    have:=(od.1 hr).1;rw [tE.out,<- HLD.out] at this
    omega) (by rw [HLD.out];exact hr))
   have HX9:=oZ (aA.trans HXW HE);go_wp2_with fail;have rm:Hid (∀ W,pI 276 #[] W (.agg #[.string ⟨#[48]⟩,.string ⟨#[49]⟩])):=fun W=>by
    have:=F6_ W;rw [G4_] at this;exact this
   refine (rm _).mono ?_;rintro e w7 ⟨rfl,qw⟩;obtain ⟨Wz,Ad⟩:=pK (w7.alloc (.cells #[.string ⟨#[48]⟩,.string ⟨#[49]⟩] 246));have pY:aA w7 Wz:=(by rw [<- Ad];exact aA.alloc _ _);have DV:Hid (dS Wz (.slice (some ⟨w7.heap.size,0,none⟩) 1 1) [0]):=by
    rw [<- Ad];have:=dS.one w7 0 246;rw [show (0:Rat).num=0 from rfl,show (0:Rat).den=1 from rfl,H3_,ik] at this;exact this
   have HXz:=oZ (aA.trans HE (aA.trans qw pY));clear qw pY HZ HE rm;go_wp2_with fail;refine (y0_ 0 n (by omega) _ _ DV).mono ?_;rintro e w8 ⟨gx,rfl,hQ,xy⟩;have hgx:=(hQ.lt gx (by simp [Value.ownBlock])).1;have HRX:Hid (d_ w8 gx (iS s n 0)):=hQ.row;have HX8:=oZ (aA.trans HXz xy);have HGX:Hid (W9.heap.size<=gx):=ow HXz.size hgx;clear hQ xy hgx Ad DV HXz;have Mj:Hid (∀ (i:Nat) x,s.lead[i]?=some x->∃ b,av=some ⟨b,0,none⟩/\b<W9.heap.size/\W9.cell? ⟨b,i,none⟩=some (.int .i64 (x:Int))):=by
    intro i x hx;have hil:=(od.1 hx).1;obtain ⟨b,cap,hb,k1,k2,-,-⟩:=eu KG (by omega);simp only [Value.slice.injEq] at hb;obtain ⟨rfl,-,rfl⟩:=hb;have hc:=World.ownsRow.cells KG (g:=b) (by simp [Value.ownBlock]) i (.int .i64 (x:Int)) (by rw [oh,hx];rfl);rw [show (⟨b,0,none⟩:Addr).add i=⟨b,i,none⟩ by unfold Addr.add;split <;> simp_all] at hc;exact ⟨b,rfl,k2,hc⟩
   go_wp2_with fail
   go_loopw [61] (fun t wr=>∃ i:Nat,i<=ld/\t=.int .i64 (i:Int)/\Hid (aH (·=gx) w8 wr)/\Hid (d_ wr gx (iS s n i))) (fun t _=>ld-(intOf t).toNat)
   case atStart=>exact ⟨0,by omega,rfl,aH.refl _ _,HRX⟩
   case round =>
    obtain ⟨i,hi,rfl,HG,HR⟩:=hrel;obtain ⟨Bu,rfl⟩:∃ Bu:World,Bu=wr:=⟨_,rfl⟩;have HXO:Hid (aA W9 Bu):=Below.trans HX8 (HG.belowE (fun b e=>by have:=HGX.out;omega) HX8.size);by_cases hlt2:i<ld
    ·obtain ⟨x,hx⟩:∃ x,s.lead[i]?=some x:=⟨_,oc (by rw [<- HLD.out];exact hlt2)⟩;have Dm:x<n:=HLT x (og hx);obtain ⟨b,rfl,sO,JE⟩:=Mj i x hx;obtain ⟨r,hr⟩:∃ r,s.m[i]?=some r:=⟨_,oc (by rw [tE.out];omega)⟩;obtain ⟨t,ht,c1,l1,l2,hrow,-,-⟩:=HM9.get hr;have hrl:=HSH.1.get hr;obtain ⟨y,hy⟩:∃ y,r[n]?=some y:=⟨_,oc (by omega)⟩;have vV:aJ s.m i n=y:=ns (by rw [lr hr];exact hy);have qj:s.lead.getD i 0=x:=(by rw [oe,hx];rfl);have d1:=HXO.cell JE;have d2:=HXO.cell c1;have d3:=HXO.cell (hrow.num n y hy);have d4:=HXO.cell (hrow.den n y hy);obtain ⟨z0,pk⟩:∃ z0,(iS s n i)[x]?=some z0:=⟨_,oc (by rw [oY];exact Dm)⟩;have d5:=HR.num x z0 pk;have d6:=HR.den x z0 pk;have d7:=HR.free (x*2);have d8:=HR.free (x*2+1);have HNX:Hid (d_ ((Bu.setCell ⟨gx,x*2,none⟩ (.string (aB y.num))).setCell ⟨gx,x*2+1,none⟩ (.string (aE y.den))) gx (iS s n (i+1))):=by
      have:=HR.set x (by rw [oY];exact Dm) y;rw [show iS s n (i+1)=(iS s n i).set (s.lead.getD i 0) (aJ s.m i n) from rfl,qj,vV];exact this
     have HGN:Hid (aH (·=gx) w8 ((Bu.setCell ⟨gx,x*2,none⟩ (.string (aB y.num))).setCell ⟨gx,x*2+1,none⟩ (.string (aE y.den)))):=((HG.store (S:=(·=gx)) rfl _ _)).store (S:=(·=gx)) rfl _ _;obtain ⟨R1,r7⟩:=pL (n+1);rw [hrl,<- r7] at d2;have p3:(n:Int)<(R1:Int):=(by omega);have p4:(0:Int)<=(n:Int):=(by omega);have p5:(i:Int)<(ld:Int):=(by omega);have p6:(i:Int)<(L:Int):=(by omega);have p7:(x:Int)<(n:Int):=(by omega);have p8:(0:Int)<=(x:Int):=(by omega);have p9:(0:Int)<=(i:Int):=(by omega);clear hx hr ht c1 hrow hrl hy vV qj JE pk r7;go_wp2_with fail;go_roundw
     case rel=>exact ⟨i+1,by omega,by go_num,HGN,HNX⟩
     case measure=>simp [intOf];omega
    ·obtain rfl:i=ld:=(by omega);have hrt:=HR.rats (c:=n) (by rw [oY];exact oz _) (by omega);rw [oY] at hrt;have e2:nA s n=iS s n i:=(by unfold nA;rw [if_neg (by rw [yL.out];simp),<- HLD.out]);rw [<- e2] at hrt;have HRT:=oZ hrt;have HXF:=oZ (aA.trans HXW HXO);clear hrt e2;by_cases Ir:i<n
     ·have e1:Hid (kj s n=2):=(by unfold Hid kj;rw [if_neg (by rw [yL.out];simp),<- HLD.out,if_pos Ir]);have p9:(i:Int)<(n:Int):=(by omega);go_wp2_with fail;go_ret3;exact ⟨_,by rw [e1.out];rfl,HRT,HXF⟩
     ·have e1:Hid (kj s n=1):=(by unfold Hid kj;rw [if_neg (by rw [yL.out];simp),<- HLD.out,if_neg Ir]);have p9:¬ (i:Int)<(n:Int):=(by omega);go_wp2_with fail;go_ret3;exact ⟨_,by rw [e1.out];rfl,HRT,HXF⟩
theorem Z1q (v ur:Value) (w:World) (h:aw w v []) (hk:aM w ur []) (ht:ag w) :
  Calls prog 220 #[v,ur] w fun e w'=>∃ x,e=.returned (.tuple #[x,.int .i64 1,.int .i64 0])/\dS w' x []/\aA w w':=by
 have HCH:Hid (∀ W,aA w W->pI 100 #[v] W (.int .i64 0)):=fun W hW=>nC [] v W (h.ext hW);have HCO:Hid (∀ W,aA w W->pJ 200 #[v] W (.int .i64 0)):=fun W hW=>Y7_ [] v W (h.ext hW);have HANY:Hid (∀ W,aA w W->pI 117 #[ur,.func (.func 199) #[] #[]] W (.bool false)):=fun W hW =>
  Z1_ [] ur 199 #[] (fun x=>!dx x) W (hk.ext hW) (enters_of func199 (by kernel_rfl) rfl) (fun W x _ _=>(I7_ x W).mono fun _ _ ⟨he,hw⟩=>⟨he,hw▸aA.refl _⟩)
 have zq:Hid (∀ W B,aA w W->Calls prog 204 #[v,.func (.func 296) #[] #[.pointer (some ⟨B,0,none⟩)]] W fun e w'=>∃ u,e=.returned u/\(∃ a c,u=.slice a 0 c)/\aA W w'):=fun W B hW=>by
  have:=t9_ [] v 296 #[.pointer (some ⟨B,0,none⟩)] (fun i=>[]) W (h.ext hW) (by simp) (fun r hr=>by simp at hr) (fun i r hr=>by simp at hr) (enters_of func296 (by kernel_rfl) rfl) (fun i X hi hX=>by simp at hi) (ht.ext hW);refine this.mono fun e w' ⟨u,tags,g1,g2,g3⟩=>⟨u,g1,?_,g3⟩
  rcases g2.own.2 with ⟨e,hn⟩ | ⟨g,cap,cur,e,-⟩
  ·exact ⟨none,0,e⟩
  ·exact ⟨_,cap,e⟩
 obtain ⟨a,c,rfl,h1,h2,-,-⟩:=ae.open h;obtain ⟨ar,cr,rfl,h3,h4,-,-,-⟩:=hk.open;unfold maxLen at h2 h4;obtain ⟨W1,pc⟩:=pK (w.alloc (.cells #[.slice ar ([]:pN).length cr] 36));have pz:aA w W1:=by rw [<- pc];exact aA.alloc _ _
 have c1:W1.cell? ⟨w.heap.size,0,none⟩=some (.slice ar ([]:pN).length cr):=by rw [<- pc,World.cell?_alloc_new];rfl
 have HX1:=oZ pz;simp only [List.length_nil] at pc c1 HCH HCO HANY zq |-;clear h hk ht pz
 go_enter func220,ntmps220
 go_wp2_with fail;refine (HCH _ HX1).mono ?_;rintro e w2 ⟨rfl,hE2⟩;have c2:=hE2.cell c1;have HX2:=oZ (aA.trans HX1 hE2);clear hE2 c1 pc HCH;go_wp2_with fail;refine q_ (HANY _ HX2) (aA.trans HX2) ?_;intro w3 HX3;clear c2 HANY;go_wp2_with fail;refine r_ (HCO _ HX3) ?_;clear HCO;go_wp2_with fail;refine (zq _ _ HX3).mono ?_;rintro e w5 ⟨u,rfl,⟨au,cu,rfl⟩,pV⟩;have HX5:=oZ (aA.trans HX3 pV);clear pV zq;go_wp2_with fail;refine (G6_ _ _ ⟨_,_,_,rfl⟩).mono ?_;rintro e w6 ⟨rfl,pR⟩;have HX6:=oZ (aA.trans HX5 pR);rw [K1_];obtain ⟨W7,GN,qw,CH,hb7⟩:=dO w6 (.string ⟨#[]⟩) (.string ⟨#[]⟩) 246;obtain ⟨r0,r1,rf⟩:=dI hb7;have f0:=rf 0;have f1:=rf 1;have HX8:Hid (aA w6 ((W7.setCell ⟨w6.heap.size,0,none⟩ (.string ⟨#[49]⟩)).setCell ⟨w6.heap.size,1,none⟩ (.string ⟨#[49]⟩))):=eB qw (oz _);clear pR rf hb7 qw CH
 go_upto_region 11 with (fail)
 obtain ⟨W9,Bb⟩:=pL (((W7.setCell ⟨w6.heap.size,0,none⟩ (.string ⟨#[49]⟩)).setCell ⟨w6.heap.size,1,none⟩ (.string ⟨#[49]⟩)));rw [<- Bb] at HX8 |-;have HXW:=oZ (aA.trans HX6 HX8);clear Bb GN r0 r1 f0 f1;go_wp2_with fail
 go_loopw [44] (fun t wr=>t=.int .i64 0/\Hid (aA W9 wr)) (fun _ _=>0)
 case atStart=>exact ⟨rfl,by first | exact aA.refl _ | exact aA.drew _⟩
 case round =>
  obtain ⟨rfl,HE⟩:=hrel;obtain ⟨wo,rfl⟩:∃ wo:World,wo=wr:=⟨_,rfl⟩;have rm:Hid (∀ W,pI 276 #[] W (.agg #[.string ⟨#[48]⟩,.string ⟨#[49]⟩])):=fun W=>by
   have:=F6_ W;rw [G4_] at this;exact this
  go_wp2_with fail;refine (rm _).mono ?_;rintro e w7 ⟨rfl,qw⟩;obtain ⟨Wz,Ad⟩:=pK (w7.alloc (.cells #[.string ⟨#[48]⟩,.string ⟨#[49]⟩] 246));have pY:aA w7 Wz:=by rw [<- Ad];exact aA.alloc _ _
  have DV:Hid (dS Wz (.slice (some ⟨w7.heap.size,0,none⟩) 1 1) [0]):=by
   rw [<- Ad];have:=dS.one w7 0 246;rw [show (0:Rat).num=0 from rfl,show (0:Rat).den=1 from rfl,H3_,ik] at this;exact this
  have HXz:=oZ (aA.trans HE (aA.trans qw pY));clear qw pY HE rm;go_wp2_with fail;refine (y0_ 0 0 (by omega) _ _ DV).mono ?_;rintro e w8 ⟨gx,rfl,hQ,xy⟩;have HX8':=oZ (HXW.trans (aA.trans HXz xy));clear hQ xy Ad DV HXz;go_wp2_with fail
  go_loopw [61] (fun t wr=>t=.int .i64 0/\Hid (aA w8 wr)) (fun _ _=>0)
  case atStart=>exact ⟨rfl,by first | exact aA.refl _ | exact aA.drew _⟩
  case round =>
   obtain ⟨rfl,HE2⟩:=hrel;obtain ⟨wp,rfl⟩:∃ wp:World,wp=wr:=⟨_,rfl⟩;go_wp2_with fail;go_ret3;exact ⟨_,rfl,⟨[],rfl,by simp,⟨_,0,rfl,oz _,by unfold maxLen;omega,fun _=>rfl,fun h=>absurd rfl h⟩,by simp⟩,HX8'.trans HE2⟩
theorem Z08 {xss:pM} {i j:Nat} {r:pN} (h:xss[i]?=some r):lF xss i j=r.getD j 0:=by
 unfold lF;rw [oe (l:=xss),h];rfl
theorem Z0g (xss:pM) (y:pN):(eP xss y).length=xss.length:=oL _ _ _
theorem Z5j {xss:pM} {y:pN} {i:Nat} {r:pN} (h:xss[i]?=some r):cE (eP xss y) i=dB r++[((y.getD i 0:Int):Rat)]:=by
 refine lr ?_;unfold eP gT;have hi:=(od.1 h).1;rw [oh,List.getElem?_range hi];show some (dB (xss.getD i [])++_)=_;rw [oe (l:=xss),h];rfl
theorem Z6F {xss:pM} {y:pN} {n i j:Nat} (hr:∀ r∈xss,r.length=n) (hi:i<xss.length):aJ (eP xss y) i j=if j<n then ((lF xss i j:Int):Rat) else if j=n then ((y.getD i 0:Int):Rat) else 0:=by
 have h:=oc hi;have hl:=hr _ (List.getElem_mem hi);unfold aJ;rw [Z5j h,oe];by_cases h1:j<n
 ·rw [if_pos h1,o6 (by rw [lq,hl];exact h1)];unfold dB;rw [oh,oc (by omega:j<xss[i].length),Z08 h,oe,oc (by omega:j<xss[i].length)];rfl
 ·rw [if_neg h1,o8 (by rw [lq,hl];omega),lq,hl];by_cases h2:j=n;·subst h2;rw [if_pos rfl,Nat.sub_self];rfl
  ·rw [if_neg h2,o4 (by simp;omega)];rfl
def oS (xss:pM) (y:pN):List Rat:=if xss=[] then [] else nA (jY xss y) (bP xss)
def Z6E (xss:pM) (y:pN):Int:=if xss=[] then 1 else kj (jY xss y) (bP xss)
theorem Z3M {xss:pM} {y:pN} {n:Nat} (hr:∀ r∈xss,r.length=n/\iD r) (hl:xss.length<=12) (hy:iD y) (c:Nat) :
  gK 2500 (aq (eP xss y) c).m/\RS 9000 (aq (eP xss y) c).det:=by
 refine l4_ (F0_ fun r h=>(hr r h).1) (by rw [Z0g];exact hl) (fun i j=>?_) c;by_cases hi:i<xss.length
 ·rw [Z6F (fun r h=>(hr r h).1) hi];have h0:∀ l:pN,iD l->∀ j,(l.getD j 0).natAbs<=1000000000:=by
   intro l hl j;rw [oe];cases h:l[j]? with
   | none=>simp
   | some a=>have:=hl a (og h);simp only [Option.getD_some];omega
  split
  ·refine ⟨_,rfl,?_⟩;rw [Z08 (oc hi)];exact h0 _ (hr _ (List.getElem_mem hi)).2 j
  ·split
   ·exact ⟨_,rfl,h0 y hy i⟩
   ·exact bg.zero _
 ·rw [w9_ (by rw [Z0g];omega)];exact bg.zero _
theorem Z6J {xss:pM} (hE:cL xss=0):∀ r∈xss,iD r:=fun r hr a ha=>by
 have:=(ko hE).2 r hr;exact this.2.2 a ha
theorem Z1s (xss:pM) (right:pN) (v ur:Value) (w:World) (h:aw w v xss) (hk:aM w ur right) (hE:cL xss=0) (BV:right.length=xss.length) (hy:iD right) (ht:ag w) :
  Calls prog 220 #[v,ur] w fun e w'=>∃ x,e=.returned (.tuple #[x,.int .i64 (Z6E xss right),.int .i64 0])/\dS w' x (oS xss right)/\aA w w':=by
 by_cases h0:xss=[]
 ·subst h0;obtain rfl:right=[]:=List.length_eq_zero_iff.1 BV;have:=Z1q v ur w h hk ht;simpa [Z6E,oS] using this
 ·have:=Z3N xss right v ur w h hk hE (List.length_pos_iff.2 h0) BV hy (fun c _=>Z3M (n:=bP xss) (fun r hr=>⟨((ko hE).2 r hr).1,Z6J hE r hr⟩) (ko hE).1 hy c) ht;unfold Z6E oS;rw [if_neg h0,if_neg h0];exact this
def Z7l (a b:Nat):Nat:=a / Nat.gcd a b*b
def gh (xs:List Rat):Nat->Nat
 | 0=>1
 | i+1=>Z7l (gh xs i) (xs.getD i 0).den
theorem mm {u:Nat} (h:u<=1000000000):(aE u).size<=2000:=by
 rw [<- eb];exact Q4_ (n:=(u:Int)) (k:=10) (Nat.lt_of_le_of_lt (show (u:Int).natAbs<=1000000000 by omega) (by decide)) (by decide) (by decide)
theorem Z0F (x y:Nat) (hx:0<x) (hy:0<y) (hxs:x<=1000000000) (hys:y<=1000000000) (w:World) (ht:ag w) :
  pI 298 #[.string (aE x),.string (aE y)] w (.string (aE (Z7l x y))):=by
 have h1:=kd x;have h2:=kd y;rw [pD (by omega)] at h1 h2;have hg:0<Nat.gcd x y:=Nat.gcd_pos_of_pos_left _ hx;have hgx:Nat.gcd x y<=x:=Nat.gcd_le_left _ hx;have HG:=oZ (C3_ x y w (ow (mm hxs) (by decide)) (ow (mm hys) (by decide)) ht);have HD:=oZ (fun W (hW:aA w W)=>Y9_ x (Nat.gcd x y) W (ow (mm hxs) (by decide)) (ow (mm (by omega)) (by decide)) (by omega) (ht.ext hW));have HM:=oZ (fun W (hW:aA w W)=>C4_ (x / Nat.gcd x y) y W (ow (mm (ow (Nat.div_le_self _ _) hxs)) (by decide)) (ow (mm hys) (by decide)) (ht.ext hW));clear hg hgx hxs hys ht hx hy
 go_enter func298,ntmps298
 go_wp2_with fail;refine p_ HG ?_;intro w1 HE1;clear HG;go_wp2_with fail;refine q_ (HD _ HE1) (HE1.trans) ?_;intro w2 HE2;clear HD;go_wp2_with fail;refine q_ (HM _ HE2) (HE2.trans) ?_;intro w3 HE3;clear HM;go_wp2_with fail;go_ret;exact ⟨rfl,HE3⟩
theorem Z6f (x y:Nat) (hx:0<x) (hy:0<y) (hxs:x<=1000000000) (hys:y<=1000000000) (w:World) (ht:ag w) :
  pI 221 #[.string (aE x),.string (aE y)] w (.string (aE (Z7l x y))):=by
 have HA:Hid (∀ (u:Nat) W,pI 63 #[.string (aE u)] W (.string (aE u))):=fun u W=>by
  have:=nP (u:Int) W;rw [show ((((u:Int).natAbs:Nat)):Int)=(u:Int) by omega,eb] at this;exact this
 have HL:=oZ (fun W (hW:aA w W)=>Z0F x y hx hy hxs hys W (ht.ext hW));clear hx hy hxs hys ht
 go_enter func221,ntmps221
 go_wp2_with fail;refine p_ (HA _ _) ?_;intro w1 HE1;go_wp2_with fail;refine q_ (HA _ _) (HE1.trans) ?_;intro w2 HE2;go_wp2_with fail;refine q_ (HL _ HE2) (HE2.trans) ?_;intro w3 HE3;go_wp2_with fail;go_ret;exact ⟨rfl,HE3⟩
theorem Z0S (n:Nat) (R:pM) (r:pN) (xs:List Rat) (v vr:Value) (w:World) (hv:cM w v n R) (hr:aM w vr r) (hE:cL R=0) (Jk:cL (ea R)=0) (hl:r.length=(ea R).length) (rJ:iD r) (hxs:oS (ea R) r=xs)
  (hb:∀ i,i<=xs.length->0<gh xs i/\gh xs i<=1000000000) (hd:∀ i,i<xs.length->0<(xs.getD i 0).den/\(xs.getD i 0).den<=1000000000) (pT:b9 w) (hp:3<w.heap.size) :
  pI 123 #[v,vr] w (.tuple #[.int .i64 (gh xs xs.length:Nat),.int .i64 0]):=by
 obtain ⟨u,rfl,hu⟩:=hv;have HTR:Hid (∀ W,aA w W->Calls prog 192 #[u] W fun e w'=>∃ u,e=.returned (.tuple #[u,.int .i64 0])/\aw w' u (ea R)/\aA W w'):=fun W hW =>
  (Z1z R u W (hu.ext hW) hE).mono fun e w' ⟨u,h1,h2,h3⟩=>⟨u,h1,h2.list,h3⟩
 have J6:Hid (∀ W v,aA w W->aw W v (ea R)->Calls prog 220 #[v,vr] W fun e w'=>∃ x k,e=.returned (.tuple #[x,.int .i64 k,.int .i64 0])/\dS w' x xs/\aA W w'):=fun W v hW h=>by
  have:=Z1s (ea R) r v vr W h (hr.ext hW) Jk hl rJ (pT.pow.ext hW);rw [hxs] at this;exact this.mono fun e w' ⟨x,h1,h2,h3⟩=>⟨x,_,h1,h2,h3⟩
 have HLC:Hid (∀ i,i<xs.length->∀ W,aA w W->pI 221 #[.string (aE (gh xs i)),.string (aE (xs.getD i 0).den)] W (.string (aE (gh xs (i+1))))):=fun i hi W hW =>
  Z6f _ _ (hb i (by omega)).1 (hd i hi).1 (hb i (by omega)).2 (hd i hi).2 W (pT.pow.ext hW)
 have HSH:Hid (∀ W,aA w W->pI 95 #[.string (aE (gh xs xs.length))] W (.tuple #[.int .i64 (gh xs xs.length:Nat),.int .i64 0])):=fun W hW=>by
  have h1:=hb xs.length (oz _);have:=Q6_ ((gh xs xs.length:Nat):Int) W (by omega) (by omega) (pT.ext hW);rw [eb] at this;exact this
 obtain ⟨ar,cr,rfl,-⟩:=hr.open;obtain ⟨a,c,rfl,-⟩:=ae.open hu;have HN1:Hid (aE 1=⟨#[49]⟩):=ik;clear hu hr hE Jk hl rJ hxs hb hd pT hp
 go_enter func123,ntmps123
 obtain ⟨W1,pc,hE1,hs1,hb1⟩:=eC w (.int .i64 n) (.slice a R.length c);have HE1:=oZ hE1;obtain ⟨s0,s1,-⟩:=bY hb1;clear hE1 hs1 hb1;go_wp2_with fail;refine (HTR _ HE1).mono ?_;rintro e w2 ⟨u2,rfl,hu2,hE2⟩;have HE2:=oZ (HE1.trans hE2);clear hE2 HTR HE1 pc s0 s1;have HU2:=oZ hu2;obtain ⟨a2,c2,rfl,-⟩:=ae.open hu2;clear hu2;go_wp2_with fail;refine (J6 _ _ HE2 HU2).mono ?_;rintro e w3 ⟨x3,k3,rfl,By,pS⟩;have HE3:=oZ (HE2.trans pS);clear pS J6 HE2 HU2;obtain ⟨a3,c3,rfl,l1,l2,-,hc⟩:=aN.open By;have HC:=oZ hc;unfold maxLen at l2;clear By hc;go_wp2_with fail
 go_loopw [10,34] (fun s t wr=>∃ i:Nat,i<=xs.length/\Hid (s=.string (aE (gh xs i)))/\t=.int .i64 i/\Hid (aA w3 wr)) (fun _ t _=>xs.length-(intOf t).toNat)
 case atStart=>exact ⟨0,by omega,by unfold Hid gh;rw [HN1.out],rfl,aA.refl _⟩
 case round =>
  obtain ⟨i,hi,hs,rfl,HE⟩:=hrel;obtain rfl:=hs.out;obtain ⟨wo,rfl⟩:∃ wo:World,wo=wr:=⟨_,rfl⟩;clear hs;by_cases hlt:i<xs.length
  ·obtain ⟨b,off,rfl,hb,pP⟩:=HC (by omega) (by intro e;rw [e] at hlt;simp at hlt);obtain ⟨u1,-,rfl,d1⟩:=pP i (xs.getD i 0) (by rw [oe,oc hlt,Option.getD_some]);have HL:=oZ (HLC i hlt);obtain ⟨q,hq⟩:=pK (xs.getD i 0);obtain ⟨m1,qp⟩:=pK (gh xs (i+1));rw [hq] at d1 HL;rw [qp] at HL;have HM1:=oZ qp;have g1:wo.cell? ⟨b,off+i*2,none⟩=some (.string (aB q.num)):=HE.cell (d1 0 (by omega));have g2:wo.cell? ⟨b,off+i*2+1,none⟩=some (.string (aE q.den)):=HE.cell (d1 1 (by omega));obtain ⟨V4,GQ,hE4,Es,hb4⟩:=dO wo (.string ⟨#[]⟩) (.string ⟨#[]⟩) 246;obtain ⟨r0,r1,rf⟩:=dI hb4;have f0:=rf 0;have f1:=rf 1;have HB4:=oZ (kK (a:=.string (aB q.num)) (b:=.string (aE q.den)) hb4);have HX4:Hid (aA wo ((V4.setCell ⟨wo.heap.size,0,none⟩ (.string (aB q.num))).setCell ⟨wo.heap.size,1,none⟩ (.string (aE q.den)))):=eB hE4 (oz _);obtain ⟨U4,yV⟩:=pK ((V4.setCell ⟨wo.heap.size,0,none⟩ (.string (aB q.num))).setCell ⟨wo.heap.size,1,none⟩ (.string (aE q.den)));rw [yV] at HB4 HX4;obtain ⟨s0,s1,-⟩:=dI HB4;have HEU:=oZ (HE.trans HX4);clear pP d1 hq qp hE4 Es hb4 rf HE HX4 hb;go_wp2_with fail;clear yV GQ r0 r1 f0 f1 g1 g2;refine q_ (HL _ (HE3.trans HEU)) (HEU.trans) ?_;intro w5 HE5;clear s0 s1;go_wp2_with fail;go_roundw
   case rel=>exact ⟨i+1,by omega,by unfold Hid;rw [HM1.out],by go_num,HE5⟩
   case measure=>simp [intOf];omega
  ·obtain rfl:i=xs.length:=(by omega);go_wp2_with fail;refine q_ (HSH _ (HE3.trans HE)) ((HE3.trans HE).trans) ?_;intro w9 HE9;clear HSH;go_wp2_with fail;go_ret2;exact ⟨rfl,HE9⟩
theorem h4_ (n F:Nat) (P:pN) (m R A S:pM) (vp v:Value) (w:World) (hP:aM w vp P) (h:aw w v m) (hE:eF P=0) (hPl:P.length=n) (hD:fF n F m R A S) (pT:b9 w) (hp:3<w.heap.size) (x:pN) (SS:pM) (hS:S=x::SS) (s ms:pN) (hc:j3 n R x=0) (sB:fY R x R.length=some (s,ms)) (sb:¬ ck s<0) (q:Int)
  (HO:∀ W u vr,aA w W->cM W u n R->aM W vr x->Calls prog 123 #[u,vr] W fun e w'=>e=.returned (.tuple #[.int .i64 q,.int .i64 0])/\aA W w') :
  Calls prog 40 #[vp,v] w fun e w'=>∃ u,e=.returned (.tuple #[u,.int .i64 q,.int .i64 0])/\aM w' u x/\aA w w':=by
 have HOF:=oZ (Z2K n F P m R A S vp v w hP h hE hPl hD pT hp);have HSA:=oZ (fun W (hW:aA w W) u (hu:cM W u n R)=>K5_ n F R A S u W hu hD.chk hD.n1 hD.n4 hD.kR hD.kA hD.lA hD.lS hD.bS (pT.ext hW) (ov hp hW.size));have HCO:Hid (∀ W u vx,aA w W->cM W u n R->aM W vx x->pI 122 #[u,vx] W (.tuple #[.bool false,.int .i64 0])):=fun W u vx hW hu hx=>by
  have:=q7_ n R x s ms u vx W hu hx hc sB (pT.pow.ext hW) (ov hp hW.size);rw [pD sb] at this;exact this
 have HOR:=oZ HO;subst hS;obtain ⟨ap,cp,rfl,-⟩:=hP.open;obtain ⟨a,c,rfl,-⟩:=ae.open h;clear hP h hE hPl hD pT hp HO hc sB sb
 go_enter func40,ntmps40
 go_wp2_with fail;refine HOF.mono ?_;rintro e w1 ⟨a1,c1,rfl,hu1,hE1⟩;have HU1:=oZ hu1.now;have HE1:=oZ hE1;clear hE1 hu1 HOF;obtain ⟨V1,xu,hX,hs,hb⟩:=eC w1 (.int .i64 0) (.slice none 0 0);obtain ⟨r0,r1,rf⟩:=bY hb;have f0:=rf 0;have f1:=rf 1;have HB1:=oZ (fU hb (.int .i64 n) (.slice a1 R.length c1));have HX1:=oZ (ei hX (oz _) (.int .i64 n) (.slice a1 R.length c1));clear hX hs hb rf;obtain ⟨U1,vG⟩:=pK ((V1.setCell ⟨w1.heap.size,0,none⟩ (.int .i64 n)).setCell ⟨w1.heap.size,1,none⟩ (.slice a1 R.length c1));rw [vG] at HB1 HX1;obtain ⟨s0,s1,-⟩:=bY HB1;have HEU1:=oZ (HE1.trans HX1);have HR1:=oZ (HU1.ext HX1);go_wp2_with fail;clear vG xu r0 r1 f0 f1;refine (HSA _ HEU1 _ ⟨_,rfl,HR1⟩).mono ?_;rintro e w2 ⟨u2,rfl,hu2,hE2⟩;have HE2:=oZ (HEU1.trans hE2);have HB12:=oZ (aF HB1 hE2);have HR2:=oZ (HR1.ext hE2);have hu2:=hu2.now;have HU2:=oZ hu2;obtain ⟨a2,c2,rfl,l1,l2,-,hc⟩:=ae.open hu2;unfold maxLen at l2;clear hE2 s0 s1 HSA;obtain ⟨V2,Ah,hX,hs,hb⟩:=eC w2 (.int .i64 0) (.slice none 0 0);obtain ⟨r0,r1,rf⟩:=bY hb;have f0:=rf 0;have f1:=rf 1;have HB2:=oZ (fU hb (.int .i64 n) (.slice a2 (x::SS).length c2));have HX2:=oZ (ei hX (oz _) (.int .i64 n) (.slice a2 (x::SS).length c2));clear hX hs hb rf;obtain ⟨U2,vw⟩:=pK ((V2.setCell ⟨w2.heap.size,0,none⟩ (.int .i64 n)).setCell ⟨w2.heap.size,1,none⟩ (.slice a2 (x::SS).length c2));rw [vw] at HB2 HX2;obtain ⟨s0,s1,-⟩:=bY HB2;have HEU2:=oZ (HE2.trans HX2);have HB13:=oZ (aF HB12 HX2);have HR3:=oZ (HR2.ext HX2);have HU3:=oZ (HU2.ext HX2);obtain ⟨b,off,rfl,hb,pP⟩:=hc (by simp);obtain ⟨vx,qc,ph⟩:=pP 0 x rfl;have g1:=HX2.cell ph;have HXI:=oZ (qc.ext HX2);obtain ⟨ax,cx,rfl,-⟩:=qc.open;obtain ⟨t0,t1,-⟩:=bY HB13;rw [Nat.add_zero] at g1;have hlen:0<(x::SS).length:=by simp
 obtain ⟨N,hN⟩:=pK ((x::SS).length);obtain ⟨b1,hb1⟩:=pK w1.heap.size;rw [hb1] at HB13 t0 t1 |-;rw [hN] at hlen s1 vw |-;clear pP ph qc hc hu2 HB12 HR2 HU2 hN hb1 hb;go_wp2_with fail;refine wp_loop_once ?_;go_wp2_with fail;clear vw Ah r0 r1 f0 f1;refine (HCO _ _ _ HEU2 ⟨_,rfl,HR3⟩ HXI).mono ?_;rintro e w3 ⟨rfl,pS⟩;have HE3:=oZ (HEU2.trans pS);have HB14:=oZ (aF HB13 pS);have HR4:=oZ (HR3.ext pS);have HX4:=oZ (HXI.ext pS);clear pS HCO HB13 HR3 HXI t0 t1 s0 s1 g1;obtain ⟨t0,t1,-⟩:=bY HB14;go_wp2_with fail;refine (HOR _ _ _ HE3 ⟨_,rfl,HR4⟩ HX4).mono ?_;rintro e w5 ⟨rfl,pV⟩;have HE5:=oZ (HE3.trans pV);have HX5:=oZ (HX4.ext pV);clear pV HOR t0 t1;go_wp2_with fail;go_ret3;exact ⟨_,rfl,HX5,HE5⟩
end Go.Proofs.YtoonaddcfakamaaGreatDoor
