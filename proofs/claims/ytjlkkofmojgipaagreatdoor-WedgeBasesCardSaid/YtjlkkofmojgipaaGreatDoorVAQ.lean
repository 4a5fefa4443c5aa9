import Derived.Test.YtjlkkofmojgipaaGreatDoorVAP
import Derived.Test.YtjlkkofmojgipaaGreatDoorVAO
import Derived.OwnWalk
import Derived.Test.YtjlkkofmojgipaaGreatDoorVAA
import Derived.Test.YtjlkkofmojgipaaGreatDoorVAL
import Derived.Test.YtjlkkofmojgipaaGreatDoorVAM
import Derived.RangeFuncNested
import Derived.RangeFuncBound
import Derived.RangeFuncCalls
import Derived.RangeFuncLeaves
import Derived.Shelf.Abstract
import Derived.Shelf.RegionOpen
import Derived.WalkKit
import Derived.OwnWalkIn
import Derived.TacticsInMore
import Derived.LoopNIn
import Derived.LoopIn
import Derived.RangeFuncBox
import Derived.Test.YtjlkkofmojgipaaGreatDoorVAG
set_option linter.unusedVariables false
set_option linter.unusedSimpArgs false
set_option maxRecDepth 1000000
set_option maxHeartbeats 40000000
namespace Go.Proofs.YtjlkkofmojgipaaGreatDoor
open Go.RowKit Go.Maps Go.Proofs.Tryz
def Z6G (w:World) (base:Nat) (v:Value) (R:oe):Prop :=
 ∃ a c,v=.slice a R.length c/\R.length<=c/\c<=maxLen/\(R=[]\/∃ g tags,a=some ⟨g,0,none⟩/\bM w g tags R/\∀ b,dB g tags b->base<=b)
theorem ag.dropW {w:World} {g o:Nat} {xs:og} (h:ag w g o xs) (k:Nat):ag w g (o+k) (xs.drop k) :=
 ⟨h.lt,fun j x hx=>by
  rw [oU] at hx
  rw [Nat.add_assoc];exact h.cell (k+j) x hx,h.free⟩
theorem Z2R (w:World):aH 1 numC (w.alloc (.cells #[.string ⟨#[48]⟩] 53)) (.slice (some ⟨w.heap.size,0,none⟩) 1 1) [0]:=by
 refine ⟨[[.string ⟨#[48]⟩]],rfl,by simp,⟨some ⟨w.heap.size,0,none⟩,1,rfl,oK _,by unfold maxLen;omega,(fun h=>by cases h),fun _=>⟨w.heap.size,0,rfl,by simp,fun j u hu=>?_⟩⟩,?_⟩
 ·have hj:j=0:=by have:=(oC.1 hu).1;simpa using this
  subst hj;rw [World.cell?_alloc_new];exact hu
 ·intro j u x hu hx;have hj:j=0:=by have:=(oC.1 hu).1;simpa using this
  subst hj;simp only [oQ,Option.some.injEq] at hu hx;subst hu;subst hx;show [Value.string ⟨#[48]⟩]=[Value.string (aB 0)];rw [show aB 0=⟨#[48]⟩ by decide +kernel]
def Z6U (n k:Nat):Bool:=(aS n (k+1)).all fun s=>(List.range n).all fun i=>!(s.testBit i) || decide ((s ^^^ (1 <<< i))∈aS n k)
theorem Z4q:∀ n,n<7->∀ k,k<n->Z6U n k=true:=by decide +kernel
theorem Z5S {n k s i:Nat} (hn:n<7) (hk:k<n) (hs:s∈aS n (k+1)) (hi:i<n) (hb:s.testBit i=true):(s ^^^ (1 <<< i))∈aS n k:=by
 have h:=List.all_eq_true.1 (List.all_eq_true.1 (Z4q n hn k hk) s hs) i (List.mem_range.2 hi);rw [hb,Bool.not_true,Bool.false_or,decide_eq_true_eq] at h;exact h
def Z6T:Bool:=(List.range 6).all fun i=>(List.range 64).all fun s=>!(s.testBit i) || decide (s &&& (18446744073709551615-(1 <<< i))=s ^^^ (1 <<< i))
theorem Z4p:Z6T=true:=by decide +kernel
theorem Z4r {i s:Nat} (hi:i<6) (hs:s<64) (hb:s.testBit i=true):s &&& (18446744073709551615-(1 <<< i))=s ^^^ (1 <<< i):=by
 have h:=List.all_eq_true.1 (List.all_eq_true.1 Z4p i (List.mem_range.2 hi)) s (List.mem_range.2 hs);rw [hb,Bool.not_true,Bool.false_or,decide_eq_true_eq] at h;exact h
theorem L8_ (n k:Nat) (X:og):(bu n k X).length=n:=by unfold bu;rw [List.length_map,List.length_range]
theorem D8_ (n k:Nat) (X:og) (i:Nat):(gB n k X i).length=(bO n k).length+n:=by unfold gB Z4P;simp
theorem Z4c {n k i:Nat} {X:og} (hi:i<n):(bu n k X).take (i+1)=(bu n k X).take i++[gB n k X i]:=by
 unfold bu;rw [<- List.map_take,<- List.map_take,oH,List.map_append,List.getElem?_range hi];rfl
theorem j4_ {n k:Nat} (hn:n<=12) (hk:k<=n):(bO n k).length<=924:=by
 unfold bO
 split
 ·simp
 ·exact lT hn (by omega)
theorem Z0F {F n k:Nat} {X:og} {R:oe} (h:fX F n k X=some R):∃ m d,fW ((bO n k).length+n) F (bu n k X) (bO n k).length=some (m,d)/\R=(m.drop d).map (·.drop (bO n k).length):=by
 unfold fX at h;cases hc:fW ((bO n k).length+n) F (bu n k X) (bO n k).length with
 | none=>rw [hc] at h;cases h
 | some z =>
  obtain ⟨m,d⟩:=z;rw [hc] at h;exact ⟨m,d,rfl,(oM h).symm⟩
theorem Z5k {n c d F:Nat} {m:oe} {R:oe×Bool} (h:dD n c d F m=some R):bH n m=true:=by
 cases F with
 | zero=>cases h
 | succ F =>
  rw [iu] at h;by_cases hk:bH n m=true;·exact hk
  ·rw [if_neg hk] at h;cases h
theorem t6_ {n c d:Nat}:∀ {F:Nat} {m m':oe} {p:Bool},dD n c d F m=some (m',p)->∀ i,i<m'.length->(aD m' i).length=n
 | 0,_,_,_,h=>by cases h
 | F+1,m,m',p,h=>by
  intro i hi;have hok:=Z5k h;rw [iu,if_pos hok] at h;cases hb:an c d m (m.length-d) with
  | none =>
   rw [hb] at h;simp only [Option.some.injEq,Prod.mk.injEq] at h;obtain ⟨rfl,rfl⟩:=h;exact (eZ hok i hi).1
  | some a =>
   rw [hb] at h;simp only at h;cases pP:cB c d (a8 m d a) (m.length-(d+1)) with
   | none=>rw [pP] at h;cases h
   | some r =>
    obtain ⟨m2,b⟩:=r;rw [pP] at h;have hdl:d<m.length:=by
     by_cases e:d<m.length;·exact e
     ·rw [show m.length-d=0 by omega] at hb;cases hb
    obtain ⟨k1,k2,k3⟩:=jt pP (by rw [jc];omega);cases b with
    | false =>
     simp only [Option.some.injEq,Prod.mk.injEq] at h;obtain ⟨rfl,rfl⟩:=h;rw [k3 i];exact (eZ (w4_ hok d a) i (by rw [<- k1];exact hi)).1
    | true=>exact t6_ (F:=F) h i hi
theorem q3_ {N F:Nat} {m:oe} (hm:∀ i,i<m.length->(aD m i).length=N):∀ (C:Nat) {m1:oe} {d:Nat},fW N F m C=some (m1,d)->∀ i,i<m1.length->(aD m1 i).length=N
 | 0,m1,d,h=>by
  have h:some (m,0)=some (m1,d):=h;simp only [Option.some.injEq,Prod.mk.injEq] at h;obtain ⟨rfl,rfl⟩:=h;exact hm
 | C+1,m1,d,h=>by
  rw [j4] at h;cases hc:fW N F m C with
  | none=>rw [hc] at h;cases h
  | some z =>
   obtain ⟨m0,d0⟩:=z;rw [hc] at h;simp only at h;cases hw:dD N C d0 F m0 with
   | none=>rw [hw] at h;cases h
   | some r =>
    obtain ⟨m2,p⟩:=r;rw [hw] at h;simp only [Option.some.injEq,Prod.mk.injEq] at h;obtain ⟨rfl,-⟩:=h;exact t6_ hw
theorem Z2o (n k:Nat) (X:og):∀ i,i<(bu n k X).length->(aD (bu n k X) i).length=(bO n k).length+n:=by
 intro i hi;have hg:(bu n k X)[i]?=some (gB n k X i):=by
  rw [L8_] at hi;unfold bu;rw [oF,List.getElem?_range hi];rfl
 rw [d_ hg];exact D8_ n k X i
theorem Z1M {m:oe} {d S j:Nat} (hj:d+j<m.length):((m.drop d).map (·.drop S)).take (j+1)=((m.drop d).map (·.drop S)).take j++[(aD m (d+j)).drop S]:=by
 rw [oH,oF,oU,eE hj];rfl
def eT (k:Nat) (t:Nat×Nat×Nat):Nat×Nat×Nat:=(t.1,t.2.1+k,t.2.2-k)
theorem Z1N {tags:List (Nat×Nat×Nat)} {d S j:Nat} {t:Nat×Nat×Nat} (h:tags[d+j]?=some t):((tags.drop d).map (eT S)).take (j+1)=((tags.drop d).map (eT S)).take j++[eT S t]:=by
 rw [oH,oF,oU,h];rfl
theorem Z0p {w:World} {g:Nat} {tags:List (Nat×Nat×Nat)} {m:oe} (h:bM w g tags m) {d S j:Nat} {t:Nat×Nat×Nat} (ht:tags[d+j]?=some t):(eT S t).1∉(((tags.drop d).map (eT S)).take j).map (·.1):=by
 intro hm;obtain ⟨s,hs,e⟩:=List.mem_map.1 hm;obtain ⟨i,hi⟩:=List.getElem?_of_mem hs;have pY:i<j:=by
  have:=(oC.1 hi).1;rw [oG] at this;omega
 rw [List.getElem?_take_of_lt pY,oF,oU] at hi;cases hq:tags[d+i]? with
 | none=>rw [hq] at hi;cases hi
 | some q =>
  rw [hq] at hi;obtain rfl:=oM hi;exact h.apart ht hq (by omega) e.symm
theorem I0_ (F:Nat) {n k:Nat} {X:og} (hn:n<7) (qB:1<=n) (hR:fS n k X) (u:Value) (w:World) (h:dO w u n k X) (R:oe) (hK:fX F n k X=some R) (ht:ae w) (hb:4<w.heap.size) :
  Calls prog 80 #[u] w fun e w'=>∃ v,e=.returned v/\Z6G w' w.heap.size v R/\aA w w':=by
 obtain ⟨r,rfl,hr⟩:=h;obtain ⟨a,c,rfl,h1,h2,-,hc⟩:=bc.open (eO.of_nums hr);unfold maxLen at h2;have HC:=oA hc;have hkn:=hR.kn;have HLEN:=oA hR.len;have HDG:=oA hR.dig;have HT:=oA ht;have HPB:=oA hb;obtain ⟨mf,df,wP,I3⟩:=Z0F hK;have HKC:=oA wP;have HRE:=oA I3;obtain ⟨mx,tI⟩:=oZ X.length;have HMX:=oA tI;rw [tI] at h1 |-;obtain ⟨w1,pE,hE1,hs1,hb1⟩:=ep w (.int .i64 n) (.int .i64 k) (.slice a mx c);have HE1:=oA hE1;have HB1:=oA hb1;have k1:=aO hb1;have HN:=oA hn;obtain ⟨js,D4⟩:∃ js,js=if k=n then n else k+1:=⟨_,rfl⟩
 have xT:js<=n:=by rw [D4];split <;> omega
 have HJS:=oA D4;have hmin:min ((k:Int)+1) (n:Int)=(js:Int):=by rw [D4];split <;> omega
 have CX:min (n:Int) ((k:Int)+1)=(js:Int):=by rw [Int.min_comm];exact hmin
 have Kk:IntKind.i64.wrap ((k:Int)+1)=(k:Int)+1:=by rw [IntKind.wrap_i64];omega
 have z7:Hid (∀ W,Calls prog 60 #[.int .i64 n,.int .i64 js] W (f3_ (aS n js) W)):=fun W=>ml n js (by omega) xT W;have HPL:Hid (∀ W,Calls prog 59 #[.int .i64 n,.int .i64 k] W fun e w'=>∃ v,e=.returned v/\aA W w'/\fR w' v n k):=fun W=>P8_ n k hn hkn W;have HKN:=oA hkn;clear hb1 hE1 hr hc hs1 hR tI ht hb hK wP I3 D4
 go_enter func80,ntmps80
 go_wp2_with fail;refine (z7 w1).mono ?_;rintro e w2 ⟨v2,rfl,h2,hU⟩;obtain ⟨a2,c2,rfl,pK,hc2,hcx⟩:=hU.open;have HU:=oA hU;have HE2:Hid (aA w w2):=HE1.trans h2;have HB2:=oA (aJ HB1 h2);have d0:=aO HB2 0;have d1:=aO HB2 1;simp only [oR,oP,oQ] at d0 d1;clear h2 hU hcx pK hc2 z7 k1 pE;obtain ⟨J1,AR⟩:=oZ ((aS n js).length);rw [AR] at HU |-;have HLN2:=oA AR;clear AR hmin CX Kk;obtain ⟨S,hS⟩:=oZ ((bO n k).length);have HS:=oA hS;rw [hS] at HKC HRE;have NM:S<=924:=by rw [<- hS];exact j4_ (by omega) hkn
 go_upto_if 31 with fail
 go_cut [4] from 32 to 32 (fun s4 wx=>∃ a4 c4,s4=.slice a4 S c4/\wx=w2/\Hid (kQ w2 (.slice a4 S c4) (bO n k)))
 case first =>
  by_cases sH:k=n
  ·have q0:((k:Int) == (n:Int))=true:=(by rw [sH];simp);have zv:Hid (bO n k=[]):=if_pos sH;have Fz:S=0:=(by rw [<- hS,zv.out];rfl);subst Fz;clear sH;go_wp2_with fail;go_meet;refine ⟨none,0,rfl,rfl,?_⟩;unfold Hid;rw [zv.out];exact ⟨[],rfl,by simp,⟨none,0,rfl,oK _,Nat.zero_le _,fun _=>rfl,fun h=>absurd rfl h⟩,by simp⟩
  ·have q0:((k:Int) == (n:Int))=false:=(by simp;omega);have zv:Hid (bO n k=aS n js):=(by unfold Hid bO;rw [if_neg sH,HJS.out,if_neg sH]);have Fz:S=J1:=(by rw [<- hS,zv.out];exact HLN2);subst Fz;clear sH;go_wp2_with fail;go_meet;exact ⟨a2,c2,rfl,rfl,by unfold Hid;rw [zv.out];exact HU⟩
 case rest =>
 obtain ⟨a4,c4,rfl,KG,HU4⟩:=hcut;obtain rfl:=KG.symm;clear HU HLN2 HJS xT;go_wp2_with fail;refine (HPL _).mono ?_;rintro e w3 ⟨v3,rfl,h3,LZ⟩;obtain ⟨b3,N3,rfl,JK⟩:=LZ;have MI:Hid (fR w3 (.map (some b3)) n k):=⟨b3,N3,rfl,JK⟩;have HE3:Hid (aA w w3):=HE2.trans h3;have HB3:=oA (aJ HB2 h3);have HU3:=oA (HU4.ext h3);obtain ⟨L,hL⟩:=oZ (bO n k);have HLK:Hid (∀ s∈L,s<2^n/\s<4096/\∀ i,i<n->s.testBit i=true->(s ^^^ (1 <<< i))∈aS n k):=by
  intro s hs;rw [<- hL] at hs;unfold bO at hs;by_cases sH:k=n;·rw [if_pos sH] at hs;cases hs
  ·rw [if_neg sH] at hs;have hn9:=HN.out;have hk9:=HKN.out;exact ⟨f4_ (by omega) (by omega) s hs,lU (by omega) (by omega) s hs,fun i hi hb=>Z5S hn9 (by omega) hs hi hb⟩
 have HLS:Hid (L.length=S):=by unfold Hid;rw [<- hL];exact hS
 have HLL:=oA hL;rw [hL] at HU3;obtain ⟨a9,c9,zM,pK,hc2,hcx⟩:=HU3.open;have hv9':=zM;rw [HLS.out] at hv9' pK;simp only [Value.slice.injEq] at hv9';obtain ⟨rfl,-,rfl⟩:=hv9';unfold maxLen at hc2;have HCX:=oA hcx;clear h3 JK HPL HU4 hcx zM hL hS d0 d1;go_wp2_with fail
 go_loopw [6,37] (fun out t wr=>∃ (i:Nat) (tagsO:List (Nat×Nat×Nat)),i<=n/\t=.int .i64 i/\aA w3 wr/\Hid (eP wr w3.heap.size w3.heap.size out tagsO ((bu n k X).take i))/\Hid (out=.slice none 0 0/\i=0\/∃ g q,out=.slice (some ⟨g,0,none⟩) i q)) (fun _ t _=>n-(intOf t).toNat)
 case atStart=>exact ⟨0,[],by omega,rfl,aA.refl _,eP.nil _ _ _,.inl ⟨rfl,rfl⟩⟩
 case round =>
  obtain ⟨i,tagsO,hi,rfl,hE,HL,HV⟩:=hrel;obtain ⟨wo,rfl⟩:∃ wo:World,wo=wr:=⟨_,rfl⟩;have HE:=oA hE;by_cases hlt:i<n
  ·skip;have hi64:=i7_ i (by have:=HN.out;omega);have e1:=hi64.1;have hb46:=hi64.2;have EI:0<=(i:Int):=by omega
   have Lw:(i:Int)<=64:=(by have:=HN.out;omega);have HROW:=oA (Z4c (k:=k) (X:=X) hlt);clear hE hi64;obtain ⟨bi,BY⟩:=oZ (1 <<< i);rw [BY] at e1 hb46;have HBI:=oA BY;clear BY;go_wp2_with fail
   go_loopw [8,42] (fun r t wq=>∃ j:Nat,j<=S/\t=.int .i64 j/\aA wo wq/\Hid (aU wq wo.heap.size 53 1 r numC ((L.map (cZ n k X i)).take j))) (fun _ t _=>S-(intOf t).toNat)
   case atStart=>exact ⟨0,by omega,rfl,aA.refl _,aU.nil _ _ _ _ _⟩
   case round =>
    obtain ⟨j,hj,rfl,yW,sQ⟩:=hrel;obtain ⟨wp,rfl⟩:∃ wp:World,wp=wr:=⟨_,rfl⟩;have HEq:=oA yW;by_cases hjl:j<S
    ·skip;obtain ⟨s,hs⟩:∃ s,L[j]?=some s:=⟨L[j]'(by rw [HLS.out];exact hjl),oB _⟩;obtain ⟨b7,o7,rfl,hb7,hcell⟩:=HCX (by intro e;rw [e] at hs;simp at hs);have g1:=HEq.cell (HE.cell (hcell j s hs));obtain ⟨hs2,hs46,hsm⟩:=HLK s (oE hs);have HNX:Hid ((L.map (cZ n k X i)).take (j+1)=(L.map (cZ n k X i)).take j++[cZ n k X i s]):=by
      unfold Hid;rw [oH,oF,hs];rfl
     have HJ:Hid (((L.map (cZ n k X i)).take j).length<1000000):=(by unfold Hid;rw [oG];omega);have f1:(s:Int) / 2^i=((s / 2^i:Nat):Int):=(by rw [Int.natCast_ediv,Int.natCast_pow];rfl);have f2:=f9_ (i:=i) hs46;obtain ⟨q,hq⟩:=oZ (s / 2^i);rw [hq] at f1 f2;obtain ⟨bb,hbb⟩:∃ bb:Int,(if s.testBit i=true then 1 else 0)=bb:=⟨_,rfl⟩;rw [hbb] at f2;have HBBT:=oA hbb;clear hbb;obtain ⟨x,hx⟩:=oZ (cZ n k X i s);rw [hx] at HNX;have hszq:=yW.size;have HSM:=oA hsm;clear hcell hs hq hb7 hsm yW
     go_upto_if 50 with fail
     go_cut [11,12] from 51 to 66 (fun J0 Md wx=>J0=.string (aB x)/\Hid (aA wp wx))
     case first =>
      cases htb:s.testBit i with
      | false =>
       have hbb:=HBBT.out;rw [htb,if_neg (by decide)] at hbb;subst hbb;have HX0:Hid (aB x=⟨#[48]⟩):=by
        unfold Hid;rw [<- hx,ku htb];decide +kernel
       clear hx htb;go_wp2_with fail;go_meet;exact ⟨by rw [HX0.out],aA.refl _⟩
      | true =>
       have hbb:=HBBT.out;rw [htb,if_pos rfl] at hbb;subst hbb;rw [j3 htb] at hx;have hin:=HSM i hlt htb;have h64:s<64:=oI hs2 (by have:2^n<=2^6:=Nat.pow_le_pow_right (by decide) (by have:=HN.out;omega);simpa using this);have hob:=Z4r (i:=i) (by have:=HN.out;omega) h64 htb;rw [HBI.out] at hob;have e3:=u64_andNot_nat s bi (by omega) (by omega);rw [hob] at e3;have hr46:=lU (n:=n) (k:=k) (by have:=HN.out;omega) HKN _ hin;have hpm:=(H4_ HN HKN hin).2;rw [<- HLEN.out,HMX.out] at hpm;rw [HBI.out] at hx hin;obtain ⟨rs,rT⟩:=oZ (s ^^^ bi);rw [HBI.out] at hr46 hpm;rw [rT] at hx hin e3 hr46 hpm;have zB:Hid (∀ W,oX 65 #[.int .u64 (bi:Int),.int .u64 (rs:Int)] W (.bool (dz bi rs))):=fun W=>w3_ bi rs hb46 hr46 W;have A8:Hid (∀ W,aA wp W->(Instr.lookup 96 (.map (some b3)) (.int .u64 (rs:Int)) false).run prog W=.ok (.int .i64 ((b8 n k rs:Nat):Int)) W):=fun W hW=>(MI.ext ((HE.trans HEq).trans hW)).run hin hr46;obtain ⟨p,hp⟩:=oZ (b8 n k rs);rw [hp] at hpm A8 hx;obtain ⟨y,hy⟩:∃ y,X[p]?=some y:=⟨_,oB (by rw [HMX.out];exact hpm)⟩;rw [show X.getD p 0=y by rw [oD,hy];rfl] at hx;obtain ⟨o,ho⟩:=oZ (dz bi rs);rw [ho] at zB hx;obtain ⟨bx,ox,rfl,hbx,hcx⟩:=HC (by intro e;rw [e] at hy;simp at hy);obtain ⟨z9,e9,g9⟩:=hcx p y hy;obtain rfl:z9=.string (aB y):=e9;have hdy:=HDG y (oE hy);have HSG:Hid (∀ W,oX 62 #[.string (aB y),.bool o] W (.string (aB (dc y o)))):=fun W=>O1_ y o W (by have:=(jS hdy).2;omega);rw [hx] at HSG;have HLK:=A8;have z3:=HEq.cell (HE.cell (HE3.cell g9));have z2:=HEq.cell (HE.cell (aO HB3 2))
       (try simp only [oR,oP,oQ] at z2)
       have CI:(p:Int)<(mx:Int):=(by omega);clear hob htb hin rT hp hy ho hcx g9 hdy hx hbx h64 A8
       go_upto_region 17 with fail
       refine jE (fun w'=>w'.cell? ⟨w.heap.size,2,none⟩=some (.slice (some ⟨bx,ox,none⟩) mx c)/\w'.cell? ⟨bx,ox+p,none⟩=some (.string (aB y))/\Hid (aA wp w')) 12 (by kernel_rfl) ⟨(aA.drew wp).cell z2,(aA.drew wp).cell z3,aA.drew wp⟩ (fun oh=>?_);refine rA [0,1,2,3] ?_
       iterate 4 ((first|(refine rL (v:=?_) (by rfl) (Or.inl ⟨by rfl,?_⟩) ?_;rotate_left;·((intro w' pO);(try dsimp only at pO);(try go_simp);(try with_reducible rfl)))|(refine rW (v:=?_) (by rfl) (Or.inl ⟨by rfl,?_⟩) ?_;rotate_left;·((intro w');(try go_simp);(try with_reducible rfl))));(try simp only [Act.put,aP,aQ,aR]))
       refine rE ?_;refine tL (v:=.int .i64 (p:Int)) 4 rfl (Or.inl ⟨by rfl,?_⟩) ?_;·(intro w' pO;(try dsimp only at pO);have hlk:=HLK w' (pO.2.2.out);go_simp;(try with_reducible rfl))
       (try simp only [Act.put,aP,aQ,aR])
       refine rA [5,6,7,8,9] ?_
       iterate 5 ((first|(refine rL (v:=?_) (by rfl) (Or.inl ⟨by rfl,?_⟩) ?_;rotate_left;·((intro w' pO);(try dsimp only at pO);(try go_simp);(try with_reducible rfl)))|(refine rW (v:=?_) (by rfl) (Or.inl ⟨by rfl,?_⟩) ?_;rotate_left;·((intro w');(try go_simp);(try with_reducible rfl))));(try simp only [Act.put,aP,aQ,aR]))
       refine rE ?_;refine dh 10 (by kernel_rfl) rfl (fun K hK=>?_);go_simp
       (go_at_call 65;refine (zB _).mono ?_)
       rintro e wz ⟨rfl,ow⟩;go_wp2_with fail;refine hK _ _ ⟨(ow).cell oh.1,(ow).cell oh.2.1,aA.trans oh.2.2 (ow)⟩ (fun oh=>?_);clear hK K
       (try simp only [Act.put,aP,aQ,aR])
       refine dh 11 (by kernel_rfl) rfl (fun K hK=>?_);go_simp
       (go_at_call 62;refine (HSG _).mono ?_)
       rintro e wy ⟨rfl,ow⟩;go_wp2_with fail;refine hK _ _ ⟨(ow).cell oh.1,(ow).cell oh.2.1,aA.trans oh.2.2 (ow)⟩ (fun oh=>?_);clear hK K
       (try simp only [Act.put,aP,aQ,aR])
       have yX:Hid (aA wp wy):=oh.2.2;refine fw 12 (by kernel_rfl) (by kernel_rfl) (by kernel_rfl) rfl (fun K hK=>?_);go_simp;refine hK _ _ ?_;clear hK K
       (try simp only [Act.put,aP,aQ,aR])
       go_wp2_with fail;go_meet;exact ⟨rfl,yX⟩
     case rest =>
     obtain ⟨rfl,HE5⟩:=hcut;clear f1 f2;obtain ⟨w5,rfl⟩:∃ w5:World,w5=wc:=⟨_,rfl⟩;have HB5:=oA (sQ.ext HE5);have qu:wo.heap.size<=w5.heap.size:=oJ hszq HE5.size;go_wp2_with (at_builtin;go_must (refine eM _ rfl _ _ 119 rfl wo.heap.size 53 (.string ⟨#[]⟩) 1 16 underlying119 jx rfl (by decide) u8 numC ((L.map (cZ n k X i)).take j) x #[.string (aB x)] 53 rfl HB5 rfl rfl ?e1 (fun _ _=>rfl) HJ (by decide) qu ?_))
     case e1=>simp [Value.oneCell']
     intro v' w6 rC sI hb6 Dt _;rw [<- HNX.out] at rC;have HB6:=oA rC;have HX6:=oA (Below.trans (HEq.trans HE5) hb6);clear rC sI hb6;go_wp2_with fail;go_roundw
     case rel=>exact ⟨j+1,by omega,by go_num,HX6,HB6⟩
     case measure=>simp [intOf];omega
    ·obtain rfl:j=S:=(by omega);have hB:=sQ.out;rw [List.take_of_length_le (by rw [List.length_map,HLS.out];exact oK _)] at hB;have HBL:=oA hB;have DR:Hid (∀ W v,aH 1 numC W v [0]->Calls prog 89 #[v,.int .i64 (n:Int)] W fun e w'=>∃ g,e=.returned (.slice (some ⟨g,0,none⟩) n n)/\w'.heap[g]?=some (.cells (cN 0 n n).toArray 53 (0,0))/\W.heap.size<=g/\aA W w'):=fun W v hv=>h8_ 0 n (by have:=HN.out;omega) v W hv;obtain ⟨wl,hwl⟩:=oZ (wp.alloc (.cells #[.string ⟨#[48]⟩] 53));have HLIT:=oA (Z2R wp);rw [hwl] at HLIT;have Jm:Hid (aA wp wl):=by rw [<- hwl];exact aA.alloc _ _
     clear hB sQ yW;go_wp2_with fail;refine (DR _ _ HLIT).mono ?_;rintro e w5 ⟨gz,rfl,Io,D6,h5⟩;have wU:ag w5 gz 0 (List.replicate n 0):=(Z4C 0 n rfl).row (by simp) Io;have EG:aB 1=⟨#[49]⟩:=(by decide +kernel);have hE2:aA wp w5:=Jm.trans h5;have Cj:wp.heap.size<=gz:=oJ Jm.size D6;have zH:Hid (aA wp (w5.setCell ⟨gz,i,none⟩ (.string (aB 1)))):=hE2.setCell Cj _;have hRS:=wU.set i (by simpa using hlt) 1;have gz1:=wU.cell i 0 (by rw [List.getElem?_replicate,if_pos hlt]);have gz2:=wU.free i;rw [Nat.zero_add] at gz1 hRS;rw [EG] at zH hRS;have HRZ:=oA hRS;have HB3b:=oA (HBL.ext zH);have hs3:=zH.size;have hs0:=HE.size;have hs1:=HEq.size;clear wU hRS hE2 h5 DR hwl HLIT Io;go_wp2_with (at_builtin;go_must (refine R6_ _ rfl _ _ rfl wo.heap.size u8 _ _ rfl HB3b gz n n ?n1 rfl HRZ ?n2 qB ?n3 ?_))
     case n1=>simp
     case n2=>rw [List.length_map,HLS.out];have:=HN.out;omega
     case n3=>omega
     intro w4 gr cr yv hgr sJ Ac hb4;have HR4:Hid (ag w4 gr 0 (gB n k X i)):=(by unfold Hid gB Z4P;rw [HLL.out];exact yv);have HE4:=oA (Below.trans (aA.trans HEq zH) hb4);have HEX:=oA (aA.trans HE HE4);have HL4:=oA (HL.ext HE4);have hszr:=HEX.size;have HLN:Hid ((gB n k X i).length=j+n):=(by unfold Hid;rw [D8_,HLL.out,HLS.out]);have HJ:Hid (((bu n k X).take i).length=i):=(by unfold Hid;rw [oG,L8_];omega);have HV1:Hid (u6.ownBlock≠some gr):=fun e=>by have:=(HL.own.lt gr e).2;omega
     have HN1:Hid (gr∉tagsO.map (·.1)):=fun hm=>by
      obtain ⟨t,ht,e⟩:=List.mem_map.1 hm;obtain ⟨i9,Ia⟩:=List.getElem?_of_mem ht;have hl:i9<((bu n k X).take i).length:=(by rw [<- HL.out.len];exact (oC.1 Ia).1);have:=(HL.row i9 t _ Ia (oB hl)).2.2.1.lt;omega
     (try rw [List.length_map] at sJ)
     (try rw [List.length_map])
     rw [HLS.out] at sJ |-;have HE0:Hid (#[Value.slice (some ⟨gr,0,none⟩) (j+n) cr]=#[iB (gr,0,cr) (gB n k X i).length]):=(by unfold Hid iB;rw [HLN.out]);have HCR:Hid ((gB n k X i).length<=cr):=by
      unfold Hid;rw [HLN.out];exact sJ
     have HGR:Hid (w3.heap.size<=gr):=(by unfold Hid;omega);have G0:Hid (((bu n k X).take i).length<1000000):=(by unfold Hid;rw [HJ.out];have:=HN.out;omega);clear yv hb4 sJ;go_wp2_with (at_builtin;go_must (refine Y3_ _ rfl _ _ rfl w3.heap.size w3.heap.size u6 tagsO ((bu n k X).take i) (gr,0,cr) (gB n k X i) #[.slice (some ⟨gr,0,none⟩) (j+n) cr] 119 rfl HL4 rfl HE0 HCR Ac HR4 HGR HV1 HN1 G0 hszr ?_));intro v' w6 rC hb6 BN;have rC:eP w6 w3.heap.size w3.heap.size v' (tagsO++[(gr,0,cr)]) ((bu n k X).take (i+1)):=(by rw [HROW.out];exact rC);have HB6:=oA rC;have HX6:=oA (Below.trans HEX hb6);have HV6:Hid (v'=.slice none 0 0/\i+1=0\/∃ g q,v'=.slice (some ⟨g,0,none⟩) (i+1) q):=by
      obtain ⟨g,q,hv⟩:=BN.out;refine .inr ⟨g,q,?_⟩;have hj9:=HJ.out;rw [oG] at hj9;rw [hv];first | rw [HJ.out] | rw [hj9] | (simp only [oG];rw [hj9])
     clear rC hb6 BN;go_wp2_with fail;go_roundw
     case rel=>exact ⟨i+1,_,by omega,by go_num,HX6,HB6,HV6⟩
     case measure=>simp [intOf];omega
  ·obtain rfl:i=n:=(by omega);skip;have hL:=HL.out;rw [List.take_of_length_le (by rw [L8_];exact oK _)] at hL;rcases HV.out with ⟨-,h0⟩ | ⟨g,cc,rfl⟩
   ·omega
   have hwl:(bu i k X).length=i:=L8_ i k X;have yV:eP wo w3.heap.size w3.heap.size (.slice (some ⟨g,0,none⟩) (bu i k X).length cc) tagsO (bu i k X):=by
    rw [hwl];exact hL
   obtain ⟨qT,Ct,Cs,hbb⟩:=yV.mat (oK _);rw [hwl] at Ct;have HMM:=oA qT;have HBB:=oA hbb;have hszw:=HE.size;have hszw3:=HE3.size;have Bn:Hid (w3.heap.size<=g):=hbb g (List.mem_cons_self ..);have HCC:Hid (i<=cc/\cc<=maxLen):=⟨Ct,Cs⟩;unfold maxLen at Cs;clear hL yV HL HV qT hbb hE;go_wp2_with fail
   go_loopw [14,87] (fun Jz t wr=>∃ (c d:Nat) (m1:oe) (o4:List (Nat×Nat×Nat)),c<=S/\d<=i/\t=.int .i64 c/\Jz=.int .i64 d/\Hid (aG (·=g) wo wr)/\Hid (bM wr g o4 m1)/\Hid (fW (S+i) F (bu i k X) c=some (m1,d))/\Hid (∀ t∈o4,w3.heap.size<=t.1)) (fun _ t _=>S-(intOf t).toNat)
   case atStart=>exact ⟨0,0,_,tagsO,by omega,by omega,rfl,rfl,aG.refl _ _,HMM,rfl,fun t ht=>HBB t.1 (List.mem_cons_of_mem _ (List.mem_map.2 ⟨t,ht,rfl⟩))⟩
   case round =>
    obtain ⟨c,d,m1,o4,ND,rm,rfl,rfl,HG,HM1,HK1,zt⟩:=hrel;obtain ⟨wp,rfl⟩:∃ wp:World,wp=wr:=⟨_,rfl⟩;have hml:=J9_ c HK1;rw [hwl] at hml;by_cases hcl:c<S
    ·obtain ⟨z,hz⟩:=q4_ HKC (c+1) (by omega);rw [j4,HK1.out] at hz;simp only at hz;cases vU:dD (S+i) c d F m1 with
     | none=>rw [vU] at hz;cases hz
     | some y =>
     obtain ⟨m2,p⟩:=y;rw [vU] at hz;have JI:fW (S+i) F (bu i k X) (c+1)=some (m2,if p then d+1 else d):=(by rw [j4,HK1.out];simp only;rw [vU]);have HK2:=oA JI;have hd2:=(my vU (by omega));have I7:ae wp:=(HT.ext (HE3.trans HE)).below (HG.below (base:=w3.heap.size) HE.size (fun q hq=>by rw [hq];exact Bn)) (by have:=HPB.out;have:=HE3.size;omega);have HCO:=oA (Q3_ (S+i) F c d m1 o4 g cc wp (m2,p) HM1 vU (by rw [hml.1];exact HCC.1) HCC.2 (by rw [hml.1];exact rm) (by omega) (by omega) I7 (by have:=HPB.out;have:=HE3.size;have:=Bn.out;omega));rw [hml.1] at HCO hd2;have HD2:Hid (m2.length=i/\(p=true->d<i)):=⟨hd2.1,hd2.2.1⟩;clear hz vU JI hd2 hml I7;go_wp2_with fail;refine HCO.mono ?_;rintro e w5 ⟨qM,rfl,zi,zf,zk⟩;have HM5:=oA zi;have HG5:Hid (aG (·=g) wo w5):=HG.trans zk;have HT5:Hid (∀ t∈qM,w3.heap.size<=t.1):=fun t ht=>by
      rcases zf t ht with e | e;·exact zt t e
      ·have:=HG.size;omega
     clear zi zf zk HCO HM1 zt HK1;cases p with
     | false =>
      go_wp2_with fail;go_roundw
      case rel=>exact ⟨c+1,d,m2,qM,by omega,by omega,by go_num,rfl,HG5,HM5,HK2,HT5⟩
      case measure=>simp [intOf];omega
     | true =>
      have hdl:=HD2.2 rfl;go_wp2_with fail;go_roundw
      case rel=>exact ⟨c+1,d+1,m2,qM,by omega,by omega,by go_num,by go_num,HG5,HM5,HK2,HT5⟩
      case measure=>simp [intOf];omega
    ·obtain rfl:c=S:=(by omega);have hk9:=HK1.out;rw [HKC.out] at hk9;simp only [Option.some.injEq,Prod.mk.injEq] at hk9;obtain ⟨rfl,rfl⟩:=hk9;obtain ⟨w8,KH⟩:=oc wp;obtain rfl:=KH;obtain ⟨ld,qw⟩:=oZ (i-df);have yg:mf.length=i:=hml.1;have HRL:Hid (R.length=ld):=(by unfold Hid;rw [HRE.out,List.length_map,List.length_drop,yg];exact qw);obtain ⟨cd,tN⟩:=oZ (cc-df);obtain ⟨oq,Ka,IM⟩:∃ oq,(if cc=df then (some ⟨g,0,none⟩:Option Addr) else some ⟨g,df,none⟩)=some ⟨g,oq,none⟩/\(df<i->oq=df):=by
      by_cases Ii:cc=df;·exact ⟨0,if_pos Ii,fun h=>by have:=HCC.1;omega⟩
      ·exact ⟨df,if_neg Ii,fun _=>rfl⟩
     have HOQ:=oA IM;have NS:(df:Int)<=(i:Int):=(by omega);have c72:(df:Int)<=(cc:Int):=(by have:=HCC.1;omega);have NR:(0:Int)<=(df:Int):=(by omega);have K8:df<=cc:=(by have:=HCC.1;omega);have HOK2:Hid (∀ j,j<i->(aD mf j).length=c+i):=by
      have h9:=q3_ (N:=c+i) (F:=F) (m:=bu i k X) (fun j hj=>by rw [Z2o i k X j hj,HLL.out,HLS.out]) c HKC;rw [yg] at h9;exact h9
     have Gw:Hid (mf.length=i):=yg;have HE8:Hid (aA w w8):=by
      have h8:Below w3.heap.size wo w8:=HG.below (base:=w3.heap.size) HE.size (fun q hq=>by rw [hq];exact Bn);exact Below.trans (HE3.trans HE) (Below.mono h8 HE3.size)
     have MB:Hid (w3.heap.size<=w8.heap.size):=oJ HE.size HG.size;have L0:Hid (w.heap.size<=w3.heap.size):=HE3.size;obtain ⟨MM,qT⟩:=oZ ((mf.drop df).map (·.drop c));obtain ⟨TT,C2⟩:=oZ ((o4.drop df).map (eT c));have Gr:Hid (∀ j,df+j<mf.length->MM.take (j+1)=MM.take j++[(aD mf (df+j)).drop c]):=fun j hj=>by rw [<- qT];exact Z1M hj
     have Gs:Hid (∀ j t,o4[df+j]?=some t->TT.take (j+1)=TT.take j++[eT c t]):=fun j t ht=>by rw [<- C2];exact Z1N ht
     have G7:Hid (∀ j t,o4[df+j]?=some t->(eT c t).1∉(TT.take j).map (·.1)):=fun j t ht=>by rw [<- C2];exact Z0p HM1 ht
     have Gv:Hid (MM.length=ld):=(by unfold Hid;rw [<- qT,List.length_map,List.length_drop,Gw.out];exact qw);have Gu:Hid (MM=R):=(by unfold Hid;rw [<- qT];exact HRE.symm);clear IM hml yg HG HKC HK1 qT C2 HRE;go_wp2_with fail
     go_loopw [16,101] (fun out t wr=>∃ (j:Nat),j<=ld/\t=.int .i64 j/\Hid (aA w8 wr)/\Hid (eP wr w8.heap.size w3.heap.size out (TT.take j) (MM.take j))/\Hid (out=.slice none 0 0/\j=0\/∃ g q,out=.slice (some ⟨g,0,none⟩) j q)) (fun _ t _=>ld-(intOf t).toNat)
     case atStart=>exact ⟨0,by omega,rfl,aA.refl _,eP.nil _ _ _,.inl ⟨rfl,rfl⟩⟩
     case round =>
      obtain ⟨j,hj,rfl,HX,HL,HV⟩:=hrel;obtain ⟨wq,rfl⟩:∃ wq:World,wq=wr:=⟨_,rfl⟩;by_cases hjl:j<ld
      ·obtain ⟨t,ht,c1,c2,c3,c4,c5⟩:=(HM1.ext HX).get (df+j) (by rw [Gw.out];omega);have ht8:=zt t (oE ht);have hob:t.1<w8.heap.size:=HM1.blt (List.mem_cons_of_mem _ (List.mem_map.2 ⟨t,oE ht,rfl⟩));obtain rfl:oq=df:=HOQ (by omega);rw [HOK2.out (oq+j) (by omega)] at c1 c2;have HNX:=oA (Gr j (by rw [Gw.out];omega));have HNT:=oA (Gs j _ ht);have HFR:=oA (G7 j _ ht);have HRW:Hid (ag wq (eT c t).1 (eT c t).2.1 ((aD mf (oq+j)).drop c)):=c4.dropW c;have A4:Hid (((aD mf (oq+j)).drop c).length=i):=(by unfold Hid;rw [List.length_drop,HOK2.out (oq+j) (by omega)];omega);have Js:Hid (i<=(eT c t).2.2/\(eT c t).2.2<=maxLen):=by
        have h9:(eT c t).2.2=t.2.2-c:=rfl;unfold Hid;rw [h9];omega
       have GY:Hid (u16.ownBlock≠some (eT c t).1):=fun e=>by
        have h9:=(HL.own.lt _ e).1;have h10:(eT c t).1=t.1:=rfl;omega
       have HBS:Hid (w3.heap.size<=(eT c t).1):=ht8;have BB:Hid ((MM.take j).length=j):=(by unfold Hid;rw [oG,Gv.out];omega);have Gz:Hid ((MM.take j).length<1000000):=(by unfold Hid;rw [BB.out];have:=HN.out;omega);obtain ⟨bt,ot,ct⟩:=t;simp only at c1 c2 c3;have LF:¬ ct=c:=(by omega);have LD:(c:Int)<=((c+i:Nat):Int):=(by omega);have LC:(c:Int)<=(ct:Int):=(by omega);have HE0:Hid (#[Value.slice (some ⟨bt,ot+c,none⟩) i (ct-c)]=#[iB (eT c (bt,ot,ct)) ((aD mf (oq+j)).drop c).length]):=(by unfold Hid iB;rw [A4.out];rfl);have HR1:Hid (((aD mf (oq+j)).drop c).length<=(eT c (bt,ot,ct)).2.2):=(by unfold Hid;rw [A4.out];exact Js.1);unfold maxLen at c3;have hszr:w8.heap.size<=wq.heap.size:=HX.size;have c9:c+i-c=i:=(by omega);have xT:(j:Int)<(ld:Int):=(by omega);obtain ⟨rj,BR⟩:=oZ ((aD mf (oq+j)).drop c);rw [BR] at HNX HRW A4 HE0 HR1;clear ht c4 c5 ht8 hob BR;go_wp2_with (at_builtin;go_must (refine Y3_ _ rfl _ _ rfl w8.heap.size w3.heap.size u16 (TT.take j) (MM.take j) (eT c (bt,ot,ct)) rj #[.slice (some ⟨bt,ot+c,none⟩) i (ct-c)] 119 rfl HL rfl HE0 HR1 Js.2 HRW HBS GY HFR Gz hszr ?_));intro v' w5 o8 hb5 vg;rw [<- HNX.out,<- HNT.out] at o8;have HB5:=oA o8;have HX5:Hid (aA w8 w5):=Below.trans HX hb5;have HV5:Hid (v'=.slice none 0 0/\j+1=0\/∃ g q,v'=.slice (some ⟨g,0,none⟩) (j+1) q):=by
        obtain ⟨g,q,hv⟩:=vg.out;refine .inr ⟨g,q,?_⟩;have hj9:=BB.out;rw [oG] at hj9;rw [hv];first | rw [BB.out] | rw [hj9] | (simp only [oG];rw [hj9])
       clear o8 hb5 vg;go_wp2_with fail;go_roundw
       case rel=>exact ⟨j+1,by omega,by go_num,HX5,HB5,HV5⟩
       case measure=>simp [intOf];omega
      ·obtain rfl:j=ld:=(by omega);have HF:Hid (Z6G wq w.heap.size u16 R):=by
        have hL:=HL.out;have e1:MM.take j=R:=by
         rw [Gu.out];exact List.take_of_length_le (by rw [HRL.out];exact oK _)
        rw [e1] at hL;rcases HV.out with ⟨hv,h0⟩ | ⟨gq,q,hv⟩
        ·refine ⟨none,0,by rw [hv,HRL.out,h0],by rw [HRL.out,h0];exact oK _,Nat.zero_le _,.inl (List.eq_nil_of_length_eq_zero (by rw [HRL.out];exact h0))⟩
        ·rw [hv] at hL;have C7:eP wq w8.heap.size w3.heap.size (.slice (some ⟨gq,0,none⟩) R.length q) (TT.take j) R:=(by rw [HRL.out];exact hL);obtain ⟨m1,m2,m3,m4⟩:=C7.mat MB;exact ⟨_,q,by rw [hv,HRL.out],m2,m3,.inr ⟨gq,_,rfl,m1,fun b hb=>oJ L0 (m4 b hb)⟩⟩
       have HE9:Hid (aA w wq):=HE8.trans HX;clear HL HV;go_wp2_with fail;go_ret;exact ⟨_,rfl,HF,HE9⟩
def dA (r:og):List Int:=r.map (- ·)
def fb (r:og) (j:Nat):List Int:=(dA r).take j++r.drop j
theorem b0_ (r:og) (j:Nat):(fb r j).length=r.length:=by
 unfold fb dA;rw [oV,oG,List.length_drop,List.length_map];omega
theorem c9_ (r:og) (j:Nat) (a:Int) (h:r[j]?=some a):(fb r j)[j]?=some a:=by
 unfold fb dA;have hj:=(oC.1 h).1;rw [oO (by rw [oG];omega),oG,List.length_map,oU];rw [show j+(j-min j r.length)=j by omega];exact h
theorem b1_ (r:og) (j:Nat) (a:Int) (h:r[j]?=some a):(fb r j).set j (-a)=fb r (j+1):=by
 have hj:=(oC.1 h).1;unfold fb dA;rw [oH,oF,h];have hd:r.drop j=a::r.drop (j+1):=by
  rw [List.drop_eq_getElem_cons hj];congr 1;exact (oC.1 h).2
 rw [hd,List.set_append_right _ _ (by rw [oG];omega),oG,List.length_map,show j-min j r.length=0 by omega];simp
theorem p6_ (r:og):fb r 0=r:=by unfold fb;simp
theorem c8_ (r:og) (j:Nat) (h:r.length<=j):fb r j=dA r:=by
 unfold fb dA;rw [List.take_of_length_le (by rw [List.length_map];exact h),List.drop_eq_nil_of_le h,List.append_nil]
theorem Z0V (r:og) (g o c:Nat) (w:World) (hr:ag w g o r) (hc:r.length<=c) (hc2:c<=maxLen) (hsm:r.all bp=true) :
  Calls prog 154 #[.slice (some ⟨g,o,none⟩) r.length c] w fun e w'=>e=.returned (.tuple #[])/\aG (·=g) w w'/\ag w' g o (dA r):=by
 have HR:=oA hr;have HS:=oA (fun x hx=>ec (List.all_eq_true.1 hsm x hx));unfold maxLen at hc2;clear hr hsm
 go_enter func154,ntmps154
 go_wp2_with fail
 go_loopw [6] (fun t wr=>∃ j:Nat,j<=r.length/\t=.int .i64 j/\aG (·=g) w wr/\Hid (ag wr g o (fb r j))) (fun t _=>r.length-(intOf t).toNat)
 case atStart=>exact ⟨0,by omega,rfl,aG.refl _ _,by rw [p6_];exact HR⟩
 case round =>
  obtain ⟨j,hj,rfl,hG,HP⟩:=hrel;obtain ⟨wo,rfl⟩:∃ wo:World,wo=wr:=⟨_,rfl⟩;by_cases hlt:j<r.length
  ·obtain ⟨a,sb⟩:∃ a,r[j]?=some a:=⟨r[j],oB hlt⟩;have g1:=HP.cell j a (c9_ r j a sb);have HN:Hid (∀ W,oX 29 #[.string (aB a)] W (.string (aB (-a)))):=fun W=>j8 a W (by have:=(HS a (oE sb)).size;omega);have HSET:Hid (∀ W,aA wo W->ag (W.setCell ⟨g,o+j,none⟩ (.string (aB (-a)))) g o (fb r (j+1))):=fun W hE=>by
    rw [<- b1_ r j a sb];exact (HP.ext hE).set j (by rw [b0_];exact hlt) _
   have DS:Hid (∀ W,aA wo W->ag W g o (fb r j)):=fun W hE=>HP.ext hE;have HG:=oA hG;clear sb hG;go_wp2_with fail;refine (HN _).mono ?_;rintro e w5 ⟨rfl,o5⟩;have HE5:=oA o5;have g5:=o5.cell g1;have f5:=(DS _ o5).free (o+j);clear o5;go_wp2_with fail;go_roundw
   case rel=>exact ⟨j+1,by omega,by go_num,(HG.ext HE5).setCell rfl _ _,HSET _ HE5⟩
   case measure=>simp [intOf];omega
  ·have HF:Hid (ag wo g o (dA r)):=by
    unfold Hid;rw [<- c8_ r j (by omega)];exact HP
   have HG:=oA hG;clear hG;go_wp2_with fail;refine bodyPost_end (results_none rfl _ _ _) rfl ⟨rfl,HG,HF⟩
theorem Z2s (x:Int) (w:World):oY 216 #[.string (aB x)] w (.bool (x != 0)):=by
 have hz:=fV x;by_cases h:x=0
 ·rw [oT h] at hz;have HR:Hid ((x != 0)=false):=by unfold Hid;simp [h]
  rw [HR.out];clear h HR
  go_enter func216,ntmps216
  go_wp2_with fail;go_ret;exact ⟨rfl,rfl⟩
 ·rw [oS h] at hz;have HR:Hid ((x != 0)=true):=by unfold Hid;simp [h]
  rw [HR.out];clear h HR
  go_enter func216,ntmps216
  go_wp2_with fail;go_ret;exact ⟨rfl,rfl⟩
theorem y8_ (xs:og) (g o c:Nat) (w:World) (hr:ag w g o xs) (hc:xs.length<=c) (hc2:c<=maxLen) :
  oX 215 #[.slice (some ⟨g,o,none⟩) xs.length c,.func (.func 216) #[] #[]] w (.int .i64 (fG xs)):=by
 have HR:=oA hr;have eg:∀ args w,(callFunc 216 args).run prog w=.ok (.enter 216 args) w:=enters_of func216 (by kernel_rfl) rfl;unfold maxLen at hc2;clear hr
 go_enter func215,ntmps215
 go_wp2
 go_loopw [8] (fun t wr=>∃ pre rest,t=.int .i64 (pre.length:Nat)/\aA w wr/\Hid (xs=pre++rest)/\Hid (∀ x∈pre,(x != 0)=false)) (fun t _=>xs.length-(intOf t).toNat)
 case atStart=>exact ⟨[],xs,rfl,aA.refl _,rfl,by intro x hx;simp at hx⟩
 case round =>
  obtain ⟨pre,rest,rfl,hE,HP,HA⟩:=hrel;have hlen:xs.length=pre.length+rest.length:=by rw [HP.out];simp
  cases rest with
  | nil =>
   have:¬ (pre.length<xs.length):=(by simp at hlen;omega);clear hlen
   go_wp2
   go_ret;have:fG xs=-1:=by
    have:xs.findIdx? (· != 0)=none:=(by rw [HP.out,List.append_nil,List.findIdx?_eq_none_iff];exact HA);unfold fG;rw [this]
   rw [this];exact ⟨rfl,hE⟩
  | cons x rest =>
   have hlt:pre.length<xs.length:=(by simp at hlen;omega);clear hlen;have g1:=hE.cell (HR.cell pre.length x (by rw [HP.out];simp));have hcall:=fun W=>Z2s x W;cases hq:(x != 0) with
   | true =>
    have HRR:Hid (fG xs=pre.length):=by
     unfold Hid fG;rw [HP.out,List.findIdx?_append,(List.findIdx?_eq_none_iff (xs:=pre)).2 HA.out,List.findIdx?_cons,hq];simp
    rw [hq] at hcall;have HCALL:=oA hcall;clear hcall hq;go_wp2_with (go_at_fn 216;refine q_ (HCALL _) ?_);go_ret;rw [HRR.out];exact ⟨rfl,hE⟩
   | false =>
    have BL:Hid (∀ y∈pre++[x],(y != 0)=false):=by
     intro y hy;rcases List.mem_append.1 hy with hy | hy;·exact HA y hy
     ·rw [List.mem_singleton.1 hy];exact hq
    rw [hq] at hcall;have HCALL:=oA hcall;clear hcall hq;go_wp2_with (go_at_fn 216;refine q_ (HCALL _) ?_);go_roundw
    case rel=>exact ⟨pre++[x],rest,by simp,hE,by unfold Hid;rw [HP.out];simp,BL⟩
    case measure=>simp [intOf];omega
theorem Z4f (xs:og) (g o c:Nat) (w:World) (hr:ag w g o xs) (hc:xs.length<=c) (hc2:c<=maxLen) :
  oX 197 #[.slice (some ⟨g,o,none⟩) xs.length c] w (.int .i64 (fG xs)):=by
 have HC:=oA (y8_ xs g o c w hr hc hc2);clear hr
 go_enter func197,ntmps197
 go_wp2_with fail;refine o_ HC ?_;intro w1 HE1;clear HC;go_wp2_with fail;go_ret;exact ⟨rfl,HE1⟩
theorem Z1l {n c d F:Nat} {m m3:oe} {p:Bool} (h:dI n c d F m=some (m3,p)):(p=false/\dD n c d F m=some (m3,false))\/(p=true/\∃ m2,dD n c d F m=some (m2,true)/\bH n m2=true/\upW c d m2=some m3):=by
 rw [n8_] at h;cases hc:dD n c d F m with
 | none=>rw [hc] at h;cases h
 | some z =>
  obtain ⟨m2,b⟩:=z;rw [hc] at h;cases b with
  | false =>
   simp only [Option.some.injEq,Prod.mk.injEq] at h;obtain ⟨rfl,rfl⟩:=h;exact .inl ⟨rfl,rfl⟩
  | true =>
   simp only at h;by_cases hk:bH n m2=true
   ·rw [if_pos hk] at h;cases hu:upW c d m2 with
    | none=>rw [hu] at h;cases h
    | some m4 =>
     rw [hu] at h;simp only [Option.some.injEq,Prod.mk.injEq] at h;obtain ⟨rfl,rfl⟩:=h;exact .inr ⟨rfl,m2,rfl,hk,hu⟩
   ·rw [if_neg hk] at h;cases h
theorem Z5M {r:og} (h:r.all bp=true):(dA r).all bp=true:=by
 unfold dA;rw [List.all_map,List.all_eq_true];rw [List.all_eq_true] at h;intro x hx;have:=(mQ x).1 (h x hx);show bp (-x)=true;rw [mQ,Int.natAbs_neg];exact this
theorem Z5Q {n:Nat} {m:oe} (h:bH n m=true) (i:Nat) (r:og) (h1:r.length=n) (h2:r.all bp=true):bH n (m.set i r)=true:=by
 unfold bH at h |-;rw [List.all_eq_true] at h |-;intro x hx;rcases List.mem_or_eq_of_mem_set hx with hx | hx;·exact h x hx
 ·rw [hx,Bool.and_eq_true,decide_eq_true_iff];exact ⟨h1,h2⟩
theorem Z26 (n F:Nat) (m:oe) (tags:List (Nat×Nat×Nat)) (g0 cap base:Nat) (w:World) (R:oe×Nat) (hM:bM w g0 tags m) (hok:b9 n F n 0 0 m=some R)
  (pk:m.length<=cap) (pN:cap<=maxLen) (hn:n<=1000000) (ht:ae w) (hb:4<base) (hg:∀ b,dB g0 tags b->base<=b) (rP:base<=w.heap.size) :
  Calls prog 81 #[.slice (some ⟨g0,0,none⟩) m.length cap,.int .i64 n] w fun e w'=>∃ tags',e=.returned (.tuple #[])/\bM w' g0 tags' R.1/\R.1.length=m.length/\Below base w w':=by
 have HM:=oA hM;have HOK:=oA hok;have HT:=oA ht;have HB:=oA hb;have zC:Hid (base<=g0):=hg g0 (List.mem_cons_self ..);have wW:Hid (∀ W,Below base w W->ae W):=fun W hW=>ht.below hW hb;have Ga:Hid (∀ t∈tags,base<=t.1):=fun t ht=>hg t.1 (List.mem_cons_of_mem _ (List.mem_map.2 ⟨t,ht,rfl⟩));unfold maxLen at pN;obtain ⟨L,hL⟩:=oZ m.length;rw [hL] at pk |-;have HL:=oA hL;clear hM hok ht hb hg hL
 go_enter func81,ntmps81
 go_wp2_with fail
 go_loopw [4,5] (fun sd sc wr=>∃ (c d:Nat) (m1:oe) (o4:List (Nat×Nat×Nat)),c<=n/\d<=L/\sc=.int .i64 c/\sd=.int .i64 d/\Hid (Below base w wr)/\Hid (bM wr g0 o4 m1)/\Hid (m1.length=L)/\Hid (b9 n F (n-c) c d m1=some R)/\Hid (∀ t∈o4,base<=t.1)) (fun _ sc _=>n-(intOf sc).toNat)
 case atStart=>exact ⟨0,0,m,tags,by omega,by omega,rfl,rfl,Below.refl _ _,HM,HL,HOK,Ga⟩
 case round =>
  obtain ⟨c,d,m1,o4,hc,hd,rfl,rfl,HG,HM1,HL1,HC,zt⟩:=hrel;obtain ⟨w2,rfl⟩:∃ w2:World,w2=wr:=⟨_,rfl⟩;by_cases hlt:c<n/\d<L
  ·obtain ⟨zX,qw⟩:=hlt;obtain ⟨q,hq⟩:∃ q,n-c=q+1:=⟨n-c-1,by omega⟩;have hC:=HC.out;rw [hq] at hC;unfold b9 at hC;rw [if_pos (by rw [HL1.out];exact qw)] at hC;cases hsw:dI n c d F m1 with
   | none=>rw [hsw] at hC;cases hC
   | some r =>
   obtain ⟨m3,p⟩:=r;rw [hsw] at hC;have HC2:Hid (b9 n F q (c+1) (if p then d+1 else d) m3=some R):=hC;have HQ:Hid (n-(c+1)=q):=(by unfold Hid;omega);have GJ:g0<w2.heap.size:=HM1.lt;have Dx:4<g0:=oI HB zC;have hPW2:=wW w2 HG;rcases Z1l hsw with ⟨rfl,vU⟩ | ⟨rfl,m2,vU,qi,hup⟩
   ·have HCO:=oA (Q3_ n F c d m1 o4 g0 cap w2 (m3,false) HM1 vU (by rw [HL1.out];exact pk) (by unfold maxLen;exact pN) (by rw [HL1.out];exact hd) zX hn hPW2 Dx);have hcl:=my vU (by rw [HL1.out];exact hd);rw [HL1.out] at HCO hcl;have HL3:Hid (m3.length=L):=hcl.1;clear hsw hC hq vU hPW2 Dx hcl HC;go_wp2_with fail;refine HCO.mono ?_;rintro e w5 ⟨qM,rfl,zi,zf,zk⟩;have HM5:=oA zi;have HG5:Hid (Below base w w5):=HG.trans (zk.below (base:=base) (by have:=zC.out;omega) (fun k hk=>by rw [hk];exact zC));have HT5:Hid (∀ t∈qM,base<=t.1):=fun t ht=>by
     rcases zf t ht with e | e;·exact zt t e
     ·have:=zC.out;omega
    clear zi zk zf HCO;go_wp2_with fail;go_roundw
    case rel=>exact ⟨c+1,d,m3,qM,by omega,by omega,by go_num,rfl,HG5,HM5,HL3,by unfold Hid;rw [HQ.out];exact HC2,HT5⟩
    case measure=>simp [intOf];omega
   ·have HCO:=oA (Q3_ n F c d m1 o4 g0 cap w2 (m2,true) HM1 vU (by rw [HL1.out];exact pk) (by unfold maxLen;exact pN) (by rw [HL1.out];exact hd) zX hn hPW2 Dx);have hcl:=my vU (by rw [HL1.out];exact hd);rw [HL1.out] at HCO hcl;have HL3:Hid (m2.length=L):=hcl.1;have HOK2:=oA qi;have HUP:=oA hup;clear hsw hC hq vU hPW2 Dx hcl HC qi hup;go_wp2_with fail;refine HCO.mono ?_;rintro e w5 ⟨qM,rfl,zi,zf,zk⟩;have HM5:=oA zi;have HG5:Hid (Below base w w5):=HG.trans (zk.below (base:=base) (by have:=zC.out;omega) (fun k hk=>by rw [hk];exact zC));have HT5:Hid (∀ t∈qM,base<=t.1):=fun t ht=>by
     rcases zf t ht with e | e;·exact zt t e
     ·have:=zC.out;omega
    clear zi zk zf HCO;obtain ⟨tp,sD,p1,p2,p3,p6,p4,p5,tc,hyl,J8⟩:=HM5.elem HOK2 d c (by rw [HL3.out];exact qw) zX;have hys:=(eZ HOK2 d (by rw [HL3.out];exact qw)).2;have HSG:=oA (fun W=>lH (aC m2 d c) W);have HTP:=oA sD;have HP4:=oA p4;have HYS:=oA hys;have Ho:Hid (base<=tp.1):=HT5 tp (oE sD);have L5:Hid (tp.1≠g0):=p5;obtain ⟨yr,qA⟩:=oZ (aD m2 d);obtain ⟨y0,qf⟩:=oZ (aC m2 d c);have y9:Hid (cR c d (if y0<0 then m2.set d (dA yr) else m2) d=some m3):=by
     have:=HUP.out;unfold upW at this;rw [qf,qA] at this;exact this
    rw [qA] at hyl HP4 HYS;rw [qf] at p6 HSG;have HYR:=oA qA;have HYL:=oA hyl;unfold maxLen at p3;clear sD p4 hys qA qf J8 tc HUP p5;obtain ⟨mN,hmN⟩:=oZ ((if y0<0 then m2.set d (dA yr) else m2));rw [hmN] at y9;have HMN:=oA hmN;clear hmN;go_wp2_with fail;refine (HSG _).mono ?_;rintro e w' ⟨rfl,rfl⟩;clear HSG
    go_upto_if 37 with fail
    obtain ⟨bn,yo⟩:=oZ (decide (y0<0));rw [yo];have HBN:=oA yo;clear yo
    go_cut [7] from 38 to 51 (fun s7 wx=>Hid (bM wx g0 qM mN)/\Hid (Below base w wx))
    case first =>
     as_aux_lemma =>
     cases bn with
     | true =>
      have hneg:=of_decide_eq_true HBN;have G1:Hid (mN=m2.set d (dA yr)):=(by unfold Hid;rw [<- HMN.out];exact if_pos hneg);clear hneg;go_wp2_with fail
      go_loopw [40] (fun t wr=>∃ j:Nat,j<=n/\t=.int .i64 j/\Hid (aG (·=tp.1) w5 wr)/\Hid (ag wr tp.1 tp.2.1 (fb yr j))) (fun t _=>n-(intOf t).toNat)
      case atStart=>exact ⟨0,by omega,rfl,aG.refl _ _,by rw [p6_];exact HP4⟩
      case round =>
       obtain ⟨j,hj,rfl,HGN,Bi⟩:=hrel;obtain ⟨wo,rfl⟩:∃ wo:World,wo=wr:=⟨_,rfl⟩;by_cases hjl:j<n
       ·obtain ⟨a,sb⟩:∃ a,yr[j]?=some a:=⟨yr[j]'(by rw [HYL.out];exact hjl),oB _⟩;have g1:=Bi.cell j a (c9_ yr j a sb);have HNG:Hid (∀ W,oX 29 #[.string (aB a)] W (.string (aB (-a)))):=fun W=>j8 a W (by have:=(ec (List.all_eq_true.1 HYS a (oE sb))).size;omega);have HSET:Hid (∀ W,aA wo W->ag (W.setCell ⟨tp.1,tp.2.1+j,none⟩ (.string (aB (-a)))) tp.1 tp.2.1 (fb yr (j+1))):=fun W hE=>by
         rw [<- b1_ yr j a sb];exact (Bi.ext hE).set j (by rw [b0_,HYL.out];exact hjl) _
        clear sb;go_wp2_with fail;refine (HNG _).mono ?_;rintro e w6 ⟨rfl,h6⟩;have HE6:=oA h6;have g6:=h6.cell g1;have f6:=(Bi.ext h6).free (tp.2.1+j);clear h6 HNG;go_wp2_with fail;go_roundw
        case rel=>exact ⟨j+1,by omega,by go_num,(HGN.ext HE6).setCell rfl _ _,HSET _ HE6⟩
        case measure=>simp [intOf];omega
       ·obtain rfl:j=n:=(by omega);have HF:Hid (ag wo tp.1 tp.2.1 (dA yr)):=by
         unfold Hid;rw [<- c8_ yr j (by rw [HYL.out];exact oK _)];exact Bi
        go_wp2_with fail;go_meet;rw [G1.out];exact ⟨HM5.setRow d (by rw [HL3.out];exact qw) tp HTP (dA yr) (by rw [HYR.out];unfold dA;rw [List.length_map]) HGN HF,HG5.trans (HGN.below (base:=base) (oJ rP HG5.size) (fun k hk=>by rw [hk];exact Ho))⟩
     | false =>
      have hneg:=of_decide_eq_false HBN;have G1:Hid (mN=m2):=(by unfold Hid;rw [<- HMN.out];exact if_neg hneg);clear hneg;go_wp2_with fail;go_meet;rw [G1.out];exact ⟨HM5,HG5⟩
    case rest =>
    obtain ⟨HM6,HG6⟩:=hcut;obtain ⟨w6,rfl⟩:∃ w6:World,w6=wc:=⟨_,rfl⟩;have hmN:=HMN.out;have HLN:Hid (mN.length=L):=by
     unfold Hid;rw [<- hmN];split;·rw [List.length_set];exact HL3
     ·exact HL3
    have HOKN:Hid (bH n mN=true):=by
     unfold Hid;rw [<- hmN];split;·exact Z5Q HOK2 d _ (by unfold dA;rw [List.length_map];exact HYL) (Z5M HYS)
     ·exact HOK2
    clear hmN HMN HM5 HG5 HP4 p6 p1 HYS HYR HOK2;go_wp2_with fail
    go_loopw [53] (fun si wr=>∃ (i4:Nat) (mj:oe) (tj:List (Nat×Nat×Nat)),i4<=d/\si=.int .i64 i4/\Hid (aG (·=g0) w6 wr)/\Hid (bM wr g0 tj mj)/\Hid (cR c d mN i4=some mj)/\Hid (∀ t∈tj,base<=t.1)/\Hid (tj[d]?=some tp)) (fun si _=>d-(intOf si).toNat)
    case atStart=>exact ⟨0,mN,qM,by omega,rfl,aG.refl _ _,HM6,rfl,HT5,HTP⟩
    case round =>
     obtain ⟨i4,mj,tj,Ax,rfl,qd,qK,pn,HTJ,HTD⟩:=hrel;obtain ⟨w4,rfl⟩:∃ w4:World,w4=wr:=⟨_,rfl⟩;obtain ⟨sj,rR,vf⟩:=n_ pn Ax (by rw [HLN.out];omega);have qG:Hid (mj.length=L):=(by unfold Hid;rw [sj];exact HLN);have DT:Hid (∀ W,aA w4 W->ae W):=fun W hW=>(wW w6 HG6 |>.below (qd.below (base:=base) (oJ rP HG6.size) (fun k hk=>by rw [hk];exact zC)) HB).ext hW;by_cases DF:i4<d
     ·skip;obtain ⟨z,sA⟩:=u1_ y9 (i4+1) (by omega);obtain ⟨mj',nr,e1,ph,pH,e2⟩:=mY sA;rw [pn.out] at e1;obtain rfl:=oM e1;have rM:(aD mj i4).length=n/\(aD mj i4).all bp=true:=by
       rw [rR i4 (by omega)];exact eZ HOKN i4 (by rw [HLN.out];omega)
      have se:(aD mj d).length=n/\(aD mj d).all bp=true:=by
       rw [rR d (by omega)];exact eZ HOKN d (by rw [HLN.out];omega)
      have HST:Hid (cR c d mN (i4+1)=some (mj.set i4 nr)):=(by unfold Hid;rw [sA,e2]);have hzz:=c0_ pH (by rw [rM.1,se.1]) rM.2 se.2;obtain ⟨rfl,CG,wh⟩:=hzz;clear sA e1 e2 sj rR vf pH;obtain ⟨t4,sU,b1,b2,b3,b4,b5⟩:=qK.get i4 (by rw [qG.out];omega);obtain ⟨tp',sD,q1,q2,q3,q4,q5⟩:=qK.get d (by rw [qG.out];omega);obtain rfl:tp=tp':=oM (HTD.symm.trans sD);have ex:(aD mj i4)[c]?=some (aC mj i4 c):=by
       unfold aC;rw [oD,oB (by rw [rM.1];exact zX)];rfl
      have ey:(aD mj d)[c]?=some (aC mj d c):=by
       unfold aC;rw [oD,oB (by rw [se.1];exact zX)];rfl
      have b6:=b4.cell c _ ex;have p6:=q4.cell c _ ey;have rB:Sz (aC mj i4 c):=ec (List.all_eq_true.1 rM.2 _ (oE ex));have tc:Sz (aC mj d c):=ec (List.all_eq_true.1 se.2 _ (oE ey));have HDM:Hid (∀ W,aA w4 W->oX 94 #[.string (aB (aC mj i4 c)),.string (aB (aC mj d c))] W (.tuple #[.string (aB (aN (aC mj i4 c) (aC mj d c))),.string (aB (aq (aC mj i4 c) (aC mj d c))),.int .i64 0])):=fun W hW=>nI (aC mj i4 c) (aC mj d c) W rB tc ph (DT W hW);have wu:∀ a∈aD mj i4,(aB a).size<=2800000000:=fun a ha=>by have:=(ec (List.all_eq_true.1 rM.2 a ha)).size;omega
      have hll:(aD mj d).length=(aD mj i4).length:=(by rw [rM.1,se.1]);rw [rM.1] at b1 b2;rw [se.1] at q1 q2;have HLS:Hid (∀ W,aA w4 W->Calls prog 137 #[.slice (some ⟨t4.1,t4.2.1,none⟩) n t4.2.2,.slice (some ⟨tp.1,tp.2.1,none⟩) n tp.2.2,.string (aB (aN (aC mj i4 c) (aC mj d c)))] W fun e w'=>e=.returned (.slice (some ⟨W.heap.size,0,none⟩) n n)/\aA W w'/\ag w' W.heap.size 0 (aW (aN (aC mj i4 c) (aC mj d c)) (aD mj i4) (aD mj d))):=fun W hW=>by
       have h9:=N7_ (aN (aC mj i4 c) (aC mj d c)) (aD mj i4) (aD mj d) t4.1 t4.2.1 t4.2.2 tp.1 tp.2.1 tp.2.2 W (b4.ext hW) (q4.ext hW) hll CG wu wh (by rw [rM.1];exact b2) b3 (by rw [se.1];exact q2) q3 (by rw [rM.1];exact hn) (DT W hW);rw [rM.1,se.1] at h9;exact h9
      have Ao:(aW (aN (aC mj i4 c) (aC mj d c)) (aD mj i4) (aD mj d)).length=n:=(by rw [eU];exact rM.1);unfold maxLen at b3;obtain ⟨nr,CQ⟩:=oZ (aW (aN (aC mj i4 c) (aC mj d c)) (aD mj i4) (aD mj d));rw [CQ] at HLS Ao HST;obtain ⟨xe,tB⟩:=oZ (aC mj i4 c);obtain ⟨ye,qf⟩:=oZ (aC mj d c);rw [tB] at b6 HDM HLS;rw [qf] at p6 HDM HLS;have HNL:=oA Ao;have A7:Hid (i4<mj.length):=(by unfold Hid;rw [qG.out];omega);have Ky:(i4:Int)<(L:Int):=(by omega);have f1:=qK.free i4;have HQ4:=oA q4;have LH:(c:Int)<(n:Int):=(by omega);clear CQ tB qf ex ey rB tc sU sD b4 b5 q4 q5 ph rM se CG wh wu hll Ao y9 HOKN q1
      go_upto_region 15 with fail
      refine lF (fun w'=>w'.cell? ⟨g0,i4,none⟩=some (.slice (some ⟨t4.1,t4.2.1,none⟩) n t4.2.2)/\w'.cell? ⟨t4.1,t4.2.1+c,none⟩=some (.string (aB xe))/\w'.cell? ⟨tp.1,tp.2.1+c,none⟩=some (.string (aB ye))/\Hid (aA w4 w')) 19 19 (by kernel_rfl) (by kernel_rfl) ⟨(aA.drew w4).cell b1,(aA.drew w4).cell b6,(aA.drew w4).cell p6,aA.drew w4⟩ (fun ops hO oh=>?_);refine rA [0,1,2,3,4,5,6,7,8,9,10] ?_
      iterate 11 (refine rS hO (by decide) fun o h=>?_;(conv at h=>lhs;whnf);subst h;(refine rY hO (v:=?_) (Or.inl ⟨by rfl,?_⟩) ?_;rotate_left;·((intro w' pO);(try dsimp only at pO);(try go_simp);(try with_reducible rfl)));(try simp only [Act.put,aP,aQ,aR]))
      refine rE ?_;have hi:=cM hO 11 (by decide)
      conv at hi=>rhs;arg 1;whnf
      refine gK hO 11 (by kernel_rfl) hi (fun K hK=>?_);go_simp
      (go_at_call 94;refine (HDM _ (oh.2.2.2)).mono ?_)
      rintro e w5 ⟨rfl,ow⟩;go_wp2_with fail;refine hK _ _ ⟨(ow).cell oh.1,(ow).cell oh.2.1,(ow).cell oh.2.2.1,aA.trans oh.2.2.2 (ow)⟩ (fun oh=>?_);clear hK K hi
      (try simp only [Act.put,aP,aQ,aR])
      refine rA [12,13,14,15,16,17] ?_
      iterate 6 (refine rS hO (by decide) fun o h=>?_;(conv at h=>lhs;whnf);subst h;(refine rX hO (v:=?_) (Or.inl ⟨by rfl,?_⟩) ?_;rotate_left;·((intro w');(try go_simp);(try with_reducible rfl)));(try simp only [Act.put,aP,aQ,aR]))
      refine rE ?_;have HE5:Hid (aA w4 w5):=oh.2.2.2;have hi:=cM hO 18 (by decide)
      conv at hi=>rhs;arg 1;whnf
      refine kR hO 18 (by kernel_rfl) (by kernel_rfl) hi (fun K hK=>?_);go_simp;refine hK _ _ (by assumption) ?_;clear hK K hi hO
      (try simp only [Act.put,aP,aQ,aR])
      have b7:=HE5.cell b1;have HLS5:=oA (HLS w5 HE5);clear HDM HLS b1 b6 p6;go_wp2_with fail;refine HLS5.mono ?_;rintro e w8 ⟨rfl,h8,Bb⟩;have HE8:Hid (aA w4 w8):=HE5.trans h8;have HR8:=oA Bb;have q8:=h8.cell b7;have f8:=(qK.ext HE8).free i4;have HM9:=oA (qK.newRow i4 A7 (w5.heap.size,0,n) nr HE8 Bb HE5.size (by rw [HNL.out];exact oK _) (by show n<=maxLen;unfold maxLen;omega));rw [HNL.out] at HM9;have HG9:=oA ((qd.ext HE8).setCell (g:=g0) rfl i4 (.slice (some ⟨w5.heap.size,0,none⟩) n n));have DM:Hid (∀ t∈tj.set i4 (w5.heap.size,0,n),base<=t.1):=fun t ht=>by
       rcases List.mem_or_eq_of_mem_set ht with h | h;·exact HTJ t h
       ·rw [h];have h9:=HE5.size;have h10:=qd.size;have h11:=HG6.size;show base<=w5.heap.size;omega
      have Gb:Hid ((tj.set i4 (w5.heap.size,0,n))[d]?=some tp):=(by unfold Hid;rw [oW,if_neg (by omega)];exact HTD);clear h8 Bb b7 HLS5;go_wp2_with fail;go_roundw
      case rel=>exact ⟨i4+1,mj.set i4 nr,_,by omega,by go_num,HG9,HM9,HST,DM,Gb⟩
      case measure=>simp [intOf];omega
     ·obtain rfl:i4=d:=(by omega);have yh:mj=m3:=by
       have h9:=pn.out;rw [y9.out] at h9;exact (oM h9).symm
      subst yh;have HG7:Hid (Below base w w4):=HG6.trans (qd.below (base:=base) (oJ rP HG6.size) (fun k hk=>by rw [hk];exact zC));go_wp2_with fail;go_roundw
      case rel=>exact ⟨c+1,i4+1,mj,tj,by omega,by omega,by go_num,by go_num,HG7,qK,qG,by unfold Hid;rw [HQ.out];exact HC2,HTJ⟩
      case measure=>simp [intOf];omega
  ·have hR:(m1,d)=R:=by
    have hC:=HC.out;by_cases s6:c<n
    ·obtain ⟨q,hq⟩:∃ q,n-c=q+1:=⟨n-c-1,by omega⟩;rw [hq] at hC;unfold b9 at hC;rw [if_neg (by rw [HL1.out];omega)] at hC;exact oM hC
    ·rw [show n-c=0 by omega] at hC;exact oM hC
   have HF:Hid (bM w2 g0 o4 R.1/\R.1.length=L):=(by rw [<- hR];exact ⟨HM1,HL1⟩);clear hR HC HM1 HL1;by_cases s6:c<n
   ·have K9:¬ d<L:=fun h=>hlt ⟨s6,h⟩;clear hlt;go_wp2_with fail;refine bodyPost_end (results_none rfl _ _ _) rfl ⟨o4,rfl,HF.1,HF.2,HG⟩
   ·clear hlt;go_wp2_with fail;refine bodyPost_end (results_none rfl _ _ _) rfl ⟨o4,rfl,HF.1,HF.2,HG⟩
theorem Z27 (n c:Nat) (a:Option Addr) (w:World) (hn:n<=1000000):oX 81 #[.slice a 0 c,.int .i64 n] w (.tuple #[]):=by
 go_enter func81,ntmps81
 go_wp2_with fail
 go_loopw [4,5] (fun sd sc wr=>sd=.int .i64 0/\sc=.int .i64 0/\w=wr) (fun _ _ _=>0)
 case atStart=>exact ⟨rfl,rfl,rfl⟩
 case round =>
  obtain ⟨rfl,rfl,rfl⟩:=hrel;by_cases h0:0<n
  ·have h1:(0:Int)<(n:Int):=(by omega);go_wp2_with fail;refine bodyPost_end (results_none rfl _ _ _) rfl ⟨rfl,aA.refl _⟩
  ·have h1:¬ (0:Int)<(n:Int):=(by omega);go_wp2_with fail;refine bodyPost_end (results_none rfl _ _ _) rfl ⟨rfl,aA.refl _⟩
theorem y9_:(prog.info? 53).map (fun i=>(i.zero,i.size,i.bytes))=some (some (.string ⟨#[]⟩),1,16):=by kernel_rfl
def jn (_:World) (u:List Value) (x:Int):Prop:=u=[.string (aB x)]
theorem aU.bigs {w:World} {base:Nat} {e:TypeId} {v:Value} {xs:og} (h:aU w base e 1 v jn xs):w.ownsRow base e 1 v xs.length (xs.map fun x=>Value.string (aB x)):=by
 obtain ⟨us,h1,h2,h3,h4⟩:=h;have:us=xs.map fun x=>[Value.string (aB x)]:=by
  apply List.ext_getElem?;intro i;rw [oF];by_cases hi:i<xs.length
  ·have pg:i<us.length:=(by omega);have:=(h4 i us[i] xs[i] (by simp [pg]) (by simp [hi])).now;simp only [jn] at this;simp [hi,pg,this]
  ·rw [oL (by omega),oL (by omega)];rfl
 rw [this,di (fun x=>Value.string (aB x))] at h3;exact h3
theorem ag.of_owns {w:World} {base:Nat} {e:TypeId} {g cap:Nat} {xs:og} (h:w.ownsRow base e 1 (.slice (some ⟨g,0,none⟩) xs.length cap) xs.length (xs.map fun x=>Value.string (aB x))):ag w g 0 xs/\base<=g/\xs.length<=cap/\cap<=maxLen:=by
 have hc:=h.cells (g:=g) (by simp [Value.ownBlock]);have hf:=fun j=>h.frozenAt j;rcases h.2 with ⟨hv,_⟩ | ⟨g',cap',cur,hv,hb,hg,h1,h2,h3,h4⟩
 ·simp at hv
 ·simp only [Value.slice.injEq,Option.some.injEq,Addr.mk.injEq] at hv;obtain ⟨⟨rfl,-,-⟩,-,rfl⟩:=hv;refine ⟨⟨(Array.getElem?_eq_some_iff.1 hg).1,fun j x hx=>?_,fun j=>?_⟩,hb,h1,h2⟩
  ·have:=hc j (.string (aB x)) (by rw [oF,hx];rfl);rw [show (⟨g,0,none⟩:Addr).add j=⟨g,0+j,none⟩ by unfold Addr.add;split <;> simp_all] at this;exact this
  ·exact hf j
theorem C2_ (xs:og) (v:Value) (w:World) (h:bL w v xs) (hlen:xs.length<=1000) (ht:ae w) :
  Calls prog 150 #[v] w fun e w'=>∃ g c,e=.returned (.slice (some ⟨g,0,none⟩) xs.length c)/\ag w' g 0 xs/\w.heap.size<=g/\xs.length<=c/\c<=maxLen/\aA w w':=by
 obtain ⟨a,c,rfl,h1,h2,-,hbd,hc⟩:=h.open;obtain ⟨i0,hi,pJ,hz1,hz2⟩:=info_parts y9_;have HI:=oA hi;have HZ0:=oA pJ;have HZ1:=oA hz1;have HZ2:=oA hz2;have HC:=oA hc;have HT:=oA ht;have HBD:=oA hbd;unfold maxLen at h2;clear hi pJ hz1 hz2 h hc ht hbd;obtain ⟨n,hn⟩:∃ n:Nat,n=xs.length:=⟨_,rfl⟩
 go_enter func150,ntmps150
 go_wp2_with (at_make;refine wpList_make_own _ rfl _ _ 188 rfl w.heap.size 53 i0 (.string ⟨#[]⟩) 1 underlying188 HI HZ0 HZ1 _ _ _ xs.length rfl rfl rfl ?c1 ?c2 ?c3 ?_)
 case c1=>rw [HZ2.out];omega
 case c2=>unfold maxLen;omega
 case c3=>exact oK _
 intro w1 hown oo;have HE1:=oA (iO oo);have HOWN:=oA hown;clear hown oo;go_wp2_with fail
 go_loopw [3,11] (fun out t wr=>∃ j:Nat,j<=xs.length/\t=.int .i64 j/\aA w wr/\Hid (∃ g cc,out=.slice (some ⟨g,0,none⟩) j cc)/\Hid (aU wr w.heap.size 53 1 out jn (xs.take j))) (fun _ t _=>xs.length-(intOf t).toNat)
 case atStart=>exact ⟨0,by omega,rfl,HE1,⟨_,_,rfl⟩,⟨[],rfl,by simp,HOWN,by simp⟩⟩
 case round =>
  obtain ⟨j,hj,rfl,hE,HSL,sQ⟩:=hrel;obtain ⟨wo,rfl⟩:∃ wo:World,wo=wr:=⟨_,rfl⟩;have HE:=oA hE;by_cases hlt:j<xs.length
  ·obtain ⟨b,off,rfl,hb,hcell⟩:=HC (by intro e;simp [e] at hlt);obtain ⟨x,hx⟩:∃ x,xs[j]?=some x:=⟨xs[j],oB hlt⟩;have g1:=hE.cell (hcell j x hx);obtain ⟨qH,sl⟩:=HBD x (oE hx);have HOF:=oA (j_ x wo qH sl (HT.ext hE));have HN:Hid (xs.take (j+1)=xs.take j++[x]):=(by unfold Hid;rw [oH,hx];rfl);have HJ:Hid ((xs.take j).length<1000000):=(by unfold Hid;rw [oG];omega);have BB:Hid ((xs.take j).length=j):=(by unfold Hid;rw [oG];omega);clear hcell hx hE;go_wp2_with fail;refine HOF.mono ?_;rintro e w2 ⟨rfl,hE2⟩;have HB2:=oA (sQ.ext hE2);have HE2:=oA (aA.trans HE hE2);have hszr:=HE2.size;clear hE2 HOF;go_wp2_with (at_builtin;go_must (refine eM _ rfl _ _ 188 rfl w.heap.size 53 (.string ⟨#[]⟩) 1 16 underlying188 y9_ rfl (by decide) u3 jn (xs.take j) x #[.string (aB x)] 53 rfl HB2 rfl rfl ?e1 (fun _ _=>rfl) HJ (by decide) hszr ?_))
   case e1=>simp [Value.oneCell']
   intro v' w5 o8 pS hb5 qu _;have HV:Hid (∃ g cc,v'=.slice (some ⟨g,0,none⟩) (j+1) cc):=by
    obtain ⟨us,b1,b2,b3,b4⟩:=id o8;obtain ⟨g,cc,hv,-⟩:=gF b3 (by rw [oV];simp);refine ⟨g,cc,?_⟩;rw [hv,oV,BB.out];rfl
   rw [<- HN.out] at o8;have HB5:=oA o8;have HX5:=oA (Below.trans HE2 hb5);clear o8 pS hb5;go_wp2_with fail;go_roundw
   case rel=>exact ⟨j+1,by omega,by go_num,HX5,HV,HB5⟩
   case measure=>simp [intOf];omega
  ·obtain rfl:j=xs.length:=(by omega);obtain ⟨g,cc,rfl⟩:=HSL.out;have hB:=sQ.out;rw [List.take_length] at hB;have HR:=oA (ag.of_owns (aU.bigs hB));clear hB sQ HSL hE;go_wp2_with fail;go_ret;exact ⟨g,cc,rfl,HR.1,HR.2.1,HR.2.2.1,HR.2.2.2,HE⟩
def Z6C (_:World) (u:List Value) (x:Int):Prop:=u=[.int .i64 x]
theorem aU.ints {w:World} {base:Nat} {e:TypeId} {v:Value} {xs:og} (h:aU w base e 1 v Z6C xs):w.ownsRow base e 1 v xs.length (xs.map (Value.int .i64)):=by
 obtain ⟨us,h1,h2,h3,h4⟩:=h;have:us=xs.map fun x=>[Value.int .i64 x]:=by
  apply List.ext_getElem?;intro i;rw [oF];by_cases hi:i<xs.length
  ·have pg:i<us.length:=(by omega);have:=(h4 i us[i] xs[i] (by simp [pg]) (by simp [hi])).now;simp only [Z6C] at this;simp [hi,pg,this]
  ·rw [oL (by omega),oL (by omega)];rfl
 rw [this,di] at h3;exact h3
def eI (n:Int):Bool:=decide (-1000000000<=n) && decide (n<=1000000000)
theorem kY (n:Int):eI n=true↔-1000000000<=n/\n<=1000000000:=by simp [eI]
def kO (xs:og) (w:World) (e:Ending) (w':World):Prop :=
 if xs.all eI=true then ∃ a c,e=.returned (.tuple #[.slice a xs.length c,.int .i64 0])/\bL w' (.slice a xs.length c) xs/\w'.ownsRow w.heap.size 3 1 (.slice a xs.length c) xs.length (xs.map (Value.int .i64))/\aA w w'
 else e=.returned (.tuple #[.slice none 0 0,.int .i64 4])/\aA w w'
theorem Z3d (xs:og) (g o c:Nat) (w:World) (hr:ag w g o xs) (hc:xs.length<=c) (hc2:c<=maxLen) (hlen:xs.length<=1000) (hsm:xs.all bp=true) (pD:fQ w) :
  Calls prog 155 #[.slice (some ⟨g,o,none⟩) xs.length c] w (kO xs w):=by
 obtain ⟨i0,hi,pJ,hz1,hz2⟩:=info_parts jy;have HI:=oA hi;have HZ0:=oA pJ;have HZ1:=oA hz1;have HZ2:=oA hz2;have HR:=oA hr;have HLIB:=oA pD;have HS:=oA (fun x hx=>ec (List.all_eq_true.1 hsm x hx));unfold maxLen at hc2;clear hi pJ hz1 hz2 hr hsm pD
 go_enter func155,ntmps155
 go_wp2_with (at_make;refine wpList_make_own _ rfl _ _ 27 rfl w.heap.size 3 i0 (.int .i64 0) 1 underlying27 HI HZ0 HZ1 _ _ _ xs.length rfl rfl rfl ?c1 ?c2 ?c3 ?_)
 case c1=>rw [HZ2.out];omega
 case c2=>unfold maxLen;omega
 case c3=>exact oK _
 intro w1 hown oo;have HE1:=oA (iO oo);have HOWN:=oA hown;clear hown oo;go_wp2_with fail
 go_loopw [4,14] (fun out t wr=>∃ j:Nat,j<=xs.length/\t=.int .i64 j/\aA w wr/\Hid (∃ g cc,out=.slice (some ⟨g,0,none⟩) j cc)/\Hid (aU wr w.heap.size 3 1 out Z6C (xs.take j))/\Hid ((xs.take j).all eI=true)) (fun _ t _=>xs.length-(intOf t).toNat)
 case atStart=>exact ⟨0,by omega,rfl,HE1,⟨_,_,rfl⟩,⟨[],rfl,by simp,HOWN,by simp⟩,rfl⟩
 case round =>
  obtain ⟨j,hj,rfl,hE,HSL,sQ,Bp⟩:=hrel;obtain ⟨wo,rfl⟩:∃ wo:World,wo=wr:=⟨_,rfl⟩;have HE:=oA hE;by_cases hlt:j<xs.length
  ·obtain ⟨x,hx⟩:∃ x,xs[j]?=some x:=⟨xs[j],oB hlt⟩;have g1:=(HR.ext hE).cell j x hx;have hxm:=oE hx;have hxs:=HS x hxm;have HSG:=oA (A1_ x wo (by have:=hxs.size;omega) (HLIB.ext hE));have HN:Hid (xs.take (j+1)=xs.take j++[x]):=(by unfold Hid;rw [oH,hx];rfl);have HJ:Hid ((xs.take j).length<1000000):=(by unfold Hid;rw [oG];omega);have BB:Hid ((xs.take j).length=j):=(by unfold Hid;rw [oG];omega);by_cases hf:eI x=true
   ·obtain ⟨f1,f2⟩:=(kY x).1 hf;have vD:fj x:=⟨by omega,by omega⟩;have HSY:=HSG;rw [show gT x=x by unfold gT;rw [if_pos vD],show decide (fj x)=true from oT vD] at HSY;clear HSG vD;have HF2:Hid ((xs.take (j+1)).all eI=true):=(by unfold Hid;rw [HN.out,List.all_append,Bp.out];simp [hf]);clear hx hxm hxs hE hf;go_wp2_with fail;refine HSY.mono ?_;rintro e w2 ⟨rfl,hE2⟩;have HB2:=oA (sQ.ext hE2);have HE2:=oA (aA.trans HE hE2);have hszr:=HE2.size;clear hE2 HSY;go_wp2_with (at_builtin;go_must (refine eM _ rfl _ _ 27 rfl w.heap.size 3 (.int .i64 0) 1 8 underlying27 jy rfl (by decide) u4 Z6C (xs.take j) x #[.int .i64 x] 3 rfl HB2 rfl rfl ?e1 (fun _ _=>rfl) HJ (by decide) hszr ?_))
    case e1=>simp [Value.oneCell']
    intro v' w5 o8 pS hb5 qu _;have HV:Hid (∃ g cc,v'=.slice (some ⟨g,0,none⟩) (j+1) cc):=by
     obtain ⟨us,b1,b2,b3,b4⟩:=id o8;obtain ⟨g,cc,hv,-⟩:=gF b3 (by rw [oV];simp);refine ⟨g,cc,?_⟩;rw [hv,oV,BB.out];rfl
    rw [<- HN.out] at o8;have HB5:=oA o8;have HX5:=oA (Below.trans HE2 hb5);clear o8 pS hb5;go_wp2_with fail;go_roundw
    case rel=>exact ⟨j+1,by omega,by go_num,HX5,HV,HB5,HF2⟩
    case measure=>simp [intOf];omega
   ·have HA:Hid (¬ xs.all eI=true):=fun h=>hf (List.all_eq_true.1 h x hxm);have xZ:x < -1000000000\/1000000000<x:=by
     rcases Int.lt_or_le x (-1000000000) with h | h;·exact .inl h
     ·rcases Int.lt_or_le 1000000000 x with h2 | h2;·exact .inr h2
      ·exact absurd ((kY x).2 ⟨h,h2⟩) hf
    by_cases vD:fj x
    ·have HSY:=HSG;rw [show gT x=x by unfold gT;rw [if_pos vD],show decide (fj x)=true from oT vD] at HSY;clear hx hxm hxs hE hf HSG vD;rcases xZ with xZ | xZ
     ·have NA:¬ 1000000000<x:=(by omega);go_wp2_with fail;refine p_ HSY (aA.trans HE) ?_;intro w2 HE2;clear HSY;go_wp2_with fail;go_ret2;unfold kO;rw [if_neg HA.out];exact ⟨rfl,HE2⟩
     ·go_wp2_with fail;refine p_ HSY (aA.trans HE) ?_;intro w2 HE2;clear HSY;go_wp2_with fail;go_ret2;unfold kO;rw [if_neg HA.out];exact ⟨rfl,HE2⟩
    ·have HSY:=HSG;rw [show gT x=0 by unfold gT;rw [if_neg vD],show decide (fj x)=false from oS vD] at HSY;clear hx hxm hxs hE hf HSG vD xZ;go_wp2_with fail;refine p_ HSY (aA.trans HE) ?_;intro w2 HE2;clear HSY;go_wp2_with fail;go_ret2;unfold kO;rw [if_neg HA.out];exact ⟨rfl,HE2⟩
  ·obtain rfl:j=xs.length:=(by omega);obtain ⟨gg,cc,rfl⟩:=HSL.out;have hB:=sQ.out;have hF:=Bp.out;rw [List.take_length] at hB hF;have HO:=oA (aU.ints hB);have HF:=oA hF;clear hB hF sQ HSL Bp hE;go_wp2_with fail;go_ret2;unfold kO;rw [if_pos HF.out];refine ⟨_,cc,rfl,bL.of_owns HO (fun x hx=>?_),HO,HE⟩;have:=(kY x).1 (List.all_eq_true.1 HF x hx);omega
theorem Z40 (cols:Nat) (w:World) :
  oY 101 #[.slice none 0 0,.int .i64 cols] w (.slice none 0 0):=by
 go_enter func101,ntmps101
 go_wp2_with fail
 go_loop [5,6] (fun sd sc=>sd=.int .i64 0/\sc=.int .i64 0) (fun _ _=>0)
 case atStart=>exact ⟨rfl,rfl⟩
 case round =>
  obtain ⟨rfl,rfl⟩:=hrel;by_cases h:0<cols
  ·go_wp2_with fail;go_ret;exact ⟨rfl,rfl⟩
  ·obtain rfl:cols=0:=(by omega);go_wp2_with fail;go_ret;exact ⟨rfl,rfl⟩
theorem Z79 {w:World} {B:Nat} {v:Value} {l:og} (h:fg B w v l) (hf:l.all eI=true):bL w v l:=bL.of_owns h (fun y hy=>by
 have:=(kY y).1 (List.all_eq_true.1 hf y hy);omega)
theorem Z3f {x:Int} (h:x.natAbs<=1000000000):(aB x).size<=12:=by
 have h1:=jB x.natAbs 10 (by have:(10:Nat)^10=10000000000:=(by decide);omega) (by decide);have h2:=er x;omega
theorem Z0z {n F:Nat} {R Q:oe} (h:kZ n F R=some Q):∃ d,b9 n F n 0 0 R=some (Q,d):=by
 unfold kZ at h;cases hc:b9 n F n 0 0 R with
 | none=>rw [hc] at h;cases h
 | some z =>
  obtain ⟨Q',d⟩:=z;rw [hc] at h;obtain rfl:Q'=Q:=oM h;exact ⟨d,rfl⟩
theorem Z2r (F F2:Nat) {n k:Nat} {X:og} (hn:n<7) (qB:1<=n) (hR:fS n k X) (u:Value) (w:World) (h:dO w u n k X) (R Q:oe) (hz:bW X≠0) (hK:fX F n k X=some R) (hk:R.length=k) (hF:kZ n F2 R=some Q) (rh:∀ r∈Q,r.length=n/\r.all eI=true) (pD:fQ w) (hb:4<w.heap.size) :
  Calls prog 36 #[u] w fun e w'=>∃ v,e=.returned (.tuple #[v,.int .i64 0])/\aA w w'/\bN w' v Q:=by
 have ht:=pD.pow;have HCK:Hid (∀ W,aA w W->oX 47 #[u] W (.int .i64 0)):=fun W hW=>lh hR u W (h.ext hW);have zq:Hid (∀ W,aA w W->oX 79 #[u] W (.bool false)):=fun W hW=>by
  have h9:=m8_ hR.dig u W (h.ext hW) (ht.ext hW);rw [oS hz] at h9;exact h9
 have Bl:Hid (∀ W,aA w W->Calls prog 80 #[u] W fun e w'=>∃ v,e=.returned v/\Z6G w' W.heap.size v R/\aA W w'):=fun W hW=>I0_ F hn qB hR u W (h.ext hW) R hK (ht.ext hW) (oI hb hW.size);obtain ⟨dF,Il⟩:=Z0z hF;have HCF:=oA Il;have hkn:=hR.kn;obtain ⟨r,rfl,hr⟩:=h;obtain ⟨a,c,rfl,-⟩:=aH.open hr;obtain ⟨mx,tI⟩:=oZ X.length;rw [tI] at HCK zq Bl |-;obtain ⟨w1,pE,hE1,hs1,hb1⟩:=ep w (.int .i64 n) (.int .i64 k) (.slice a mx c);have HE1:=oA hE1;have HB1:=oA hb1;have k1:=aO hb1;have HRK:=oA hk;have HLIB:=oA pD;have HPB:=oA hb;have HFIT:=oA rh;clear hb1 hE1 hr hs1 tI ht hb hK hR Il pD rh hF hz hk
 go_enter func36,ntmps36
 go_wp2_with fail;refine (HCK w1 HE1).mono ?_;rintro e w2 ⟨rfl,h2⟩;have HE2:Hid (aA w w2):=HE1.trans h2;have HB2:=oA (aJ HB1 h2);have k2:=aO HB2;clear h2 HCK k1 pE;go_wp2_with fail;refine (zq w2 HE2).mono ?_;rintro e w3 ⟨rfl,h3⟩;have HE3:Hid (aA w w3):=HE2.trans h3;have HB3:=oA (aJ HB2 h3);have k3:=aO HB3;clear h3 zq k2;go_wp2_with fail;refine (Bl w3 HE3).mono ?_;rintro e w4 ⟨v4,rfl,LV,h4⟩;have HE4:Hid (aA w w4):=HE3.trans h4;have HB4:=oA (aJ HB3 h4);have k4:=aO HB4;obtain ⟨a4,c4,rfl,r1,r2,r3⟩:=LV;have A3:Hid (w.heap.size<=w3.heap.size/\w3.heap.size<=w4.heap.size):=⟨HE3.size,h4.size⟩;have hrk:=HRK.out;have wL:((R.length:Int) != (k:Int))=false:=by rw [hrk];simp
 rw [hrk] at r1 wL |-;clear h4 Bl k3;have DB:Calls prog 81 #[.slice a4 k c4,.int .i64 n] w4 fun e w'=>e=.returned (.tuple #[])/\aA w w'/\∃ tagsF,Hid ((Q=[]/\k=0)\/∃ g,a4=some ⟨g,0,none⟩/\bM w' g tagsF Q/\Q.length=k):=by
  rcases r3 with rfl | ⟨g,tags,rfl,hM,ry⟩
  ·have rJ:k=0:=hrk.symm;have LX:Q=[]:=by
    have h9:=HCF.out;obtain ⟨n',rfl⟩:∃ n',n=n'+1:=⟨n-1,by omega⟩;unfold b9 at h9;rw [if_neg (by simp)] at h9;simp only [Option.some.injEq,Prod.mk.injEq] at h9;exact h9.1.symm
   rw [rJ];exact (Z27 n c4 a4 w4 (by omega)).mono fun e w' ⟨q1,q2⟩=>⟨q1,HE4.trans q2,[],.inl ⟨LX,rfl⟩⟩
  ·have hf:=Z26 n F2 R tags g c4 w3.heap.size w4 (Q,dF) hM HCF (by rw [hrk];exact r1) r2 (by omega) (HLIB.pow.ext HE4) (by have:=HPB.out;have:=A3.out;omega) ry A3.2;rw [hrk] at hf;exact hf.mono fun e w' ⟨tags',q1,q2,q3,q4⟩=>⟨q1,Below.trans HE4 (Below.mono q4 A3.1),tags',.inr ⟨g,rfl,q2,q3⟩⟩
 have HFRM:=oA DB;unfold maxLen at r2;clear DB r3 hrk;go_wp2_with fail;refine HFRM.mono ?_;rintro e w5 ⟨rfl,h5,tagsF,HQ⟩;have HE5:=oA h5;have EJ:Hid (Q.length=k):=by
  rcases HQ.out with ⟨h1,h2⟩ | ⟨g,-,-,h3⟩
  ·unfold Hid;rw [h1,h2];rfl
  ·exact h3
 clear h5 HFRM k4;go_wp2_with fail
 go_loopw [6,34] (fun o t wr=>∃ (i:Nat) (v0:Value),i<=k/\o=v0/\t=.int .i64 (i:Int)/\Hid (aA w5 wr)/\Hid (aU wr w5.heap.size 27 1 v0 rowR (Q.take i))) (fun _ t _=>k+1-(intOf t).toNat)
 case atStart=>exact ⟨0,_,by omega,rfl,by simp,aA.refl _,aU.nil _ _ _ _ _⟩
 case round =>
  obtain ⟨i,vo,hi,hv,rfl,HX,HBU⟩:=hrel;obtain rfl:=hv.symm;obtain ⟨wo,rfl⟩:∃ wo:World,wo=wr:=⟨_,rfl⟩;by_cases hlt:i<k
  ·obtain ⟨g,hg,hM,-⟩:∃ g,a4=some ⟨g,0,none⟩/\bM w5 g tagsF Q/\Q.length=k:=by
    rcases HQ.out with ⟨-,h2⟩ | h3;·omega
    ·exact h3
   obtain ⟨t,ht,c1,c2,c3,c5,-⟩:=hM.get i (by rw [EJ.out];exact hlt);obtain ⟨yM,Ej⟩:=HFIT (aD Q i) (oE (eE (by rw [EJ.out];exact hlt)));have HN:Hid (Q.take (i+1)=Q.take i++[aD Q i]):=by
    unfold Hid;rw [oH,eE (by rw [EJ.out];exact hlt)];rfl
   obtain ⟨q,hq⟩:=oZ (aD Q i);rw [hq] at c1 c2 c5 yM Ej HN;rw [yM] at c1 c2;have g1:=HX.cell c1;have HC5:=oA c5;have HRN:=oA yM;have HRF:=oA Ej;obtain ⟨bt,ot,ct⟩:=t;simp only at g1 c2 c3;unfold maxLen at c3;subst hg;obtain ⟨wn,Hy⟩:=oZ (wo.alloc (.cells #[] 3));have HO:Hid (fg wo.heap.size wn (.slice (some ⟨wo.heap.size,0,none⟩) 0 0) []):=(by rw [<- Hy];exact World.ownsRow_made wo #[] 0 (oK _) (Nat.zero_le _) rfl);have MT:Hid (aA wo wn):=(by rw [<- Hy];exact aA.alloc _ _);clear hM ht c1 c5 hq yM Ej;go_wp2_with fail
   go_loopw [9,41] (fun o t wr=>∃ (j:Nat) (v0:Value),j<=n/\o=v0/\t=.int .i64 (j:Int)/\Hid (aA wo wr)/\Hid (fg wo.heap.size wr v0 (q.take j))) (fun _ t _=>n+1-(intOf t).toNat)
   case atStart=>exact ⟨0,_,by omega,rfl,by simp,MT,HO⟩
   case round =>
    obtain ⟨j,v9,hj,zM,rfl,HY,Gq⟩:=hrel;obtain rfl:=zM.symm;obtain ⟨wp,rfl⟩:∃ wp:World,wp=wr:=⟨_,rfl⟩;by_cases hjl:j<n
    ·obtain ⟨x,hx⟩:∃ x,q[j]?=some x:=⟨q[j]'(by rw [HRN.out];exact hjl),oB _⟩;have g2:=HY.cell (HX.cell (HC5.cell j x hx));have hxf:=List.all_eq_true.1 HRF x (oE hx);obtain ⟨f1,f2⟩:=(kY x).1 hxf;have vD:fj x:=⟨by omega,by omega⟩;have hsz:(aB x).size<=20:=by
      have h9:=Z3f (x:=x) (by omega);omega
     have hSM:=A1_ x wp (by omega) (HLIB.ext (HE5.trans (HX.trans HY)));rw [show gT x=x by unfold gT;rw [if_pos vD],show decide (fj x)=true from oT vD] at hSM;have HSM:=oA hSM;have HNX:Hid (q.take (j+1)=q.take j++[x]):=(by unfold Hid;rw [oH,hx];rfl);have qG:Hid ((q.take j).length<1000000):=(by unfold Hid;rw [oG];omega);have f3:¬ (1000000000:Int)<x:=(by omega);have f4:¬ x<(-1000000000:Int):=(by omega);clear hx hxf vD hsz hSM f1 f2;go_wp2_with fail;refine HSM.mono ?_;rintro e w6 ⟨rfl,h6⟩;have JZ:Hid (aA wo w6):=HY.trans h6;have HO6:Hid (fg wo.heap.size w6 v9 (q.take j)):=fN Gq h6;have MC:Hid (wo.heap.size<=w6.heap.size):=JZ.size;clear h6 HSM;go_wp2_with (at_builtin;go_must (refine O5_ rfl w6 _ _ _ underlying27 rfl wo.heap.size v9 (q.take j) x _ _ rfl HO6 rfl rfl ?c2 MC ?_))
     case c2=>have:=qG.out;omega
     intro v2 w7 F9 JR;rw [<- HNX.out] at F9;have HO7:=oA F9;have Ly:Hid (aA wo w7):=Below.trans JZ JR;clear F9 JR;go_wp2_with fail;go_roundw
     case rel=>exact ⟨j+1,v2,by omega,rfl,by go_num,Ly,HO7⟩
     case measure=>simp [intOf];omega
    ·obtain rfl:j=n:=(by omega);have hO:=Gq.out;rw [List.take_of_length_le (by rw [HRN.out];exact oK _)] at hO;have HO4:=oA hO;obtain ⟨g4,EI,ES⟩:∃ g4 c4,v9=.slice g4 q.length c4:=by
      obtain ⟨a9,c9,h9,-⟩:=aH.open (Z79 hO HRF);exact ⟨a9,c9,h9⟩
     subst ES;have HE6:Hid (aA w5 wp):=HX.trans HY;have HB4':=oA (HBU.ext HY);have HSZ:Hid (w5.heap.size<=wp.heap.size):=HE6.size;have HSW:Hid (∀ z,vo.ownBlock=some z->z<wo.heap.size):=fun z hz=>(HBU.lt z hz).2;have zu:Hid (bh wp vo.ownBlock fun W=>rowR W [Value.slice g4 q.length EI] q):=by
      refine bh.mono (bh.owns hO ?_) fun W hW=>⟨_,rfl,Z79 (B:=wo.heap.size) hW HRF⟩
      by_cases hn:(Value.slice g4 q.length EI).ownBlock=none;·exact .inl hn
      ·refine .inr fun e=>?_;obtain ⟨z,hz⟩:=Option.ne_none_iff_exists'.1 hn;have h1:=(hO.lt z hz).1;have h2:=HSW z (e▸hz);omega
     have HLL:Hid ((Q.take i).length<1000000):=(by unfold Hid;rw [oG];omega);clear hO Gq HBU;go_wp2_with (at_builtin;go_must (refine eM _ rfl _ _ 23 rfl w5.heap.size 27 (.slice none 0 0) 1 24 underlying23 x0_ rfl (by decide) vo rowR (Q.take i) q #[_] 27 rfl HB4' rfl rfl ?e1 zu HLL ?e3 HSZ ?_))
     case e1=>simp [Value.oneCell']
     case e3=>omega
     intro v5 w7 o8 pS hb5 qu _;have HE7:Hid (aA w5 w7):=Below.trans HE6 hb5;rw [<- HN.out] at o8;have HB5:=oA o8;clear o8 pS hb5 qu;go_wp2_with fail;go_roundw
     case rel=>exact ⟨i+1,v5,by omega,rfl,by go_num,HE7,HB5⟩
     case measure=>simp [intOf];omega
  ·obtain rfl:i=k:=(by omega);have HF:=oA HBU.list;rw [List.take_of_length_le (by rw [EJ.out];exact oK _)] at HF;have HE9:Hid (aA w wo):=HE5.trans HX;clear HBU;go_wp2_with fail;go_ret2;exact ⟨_,rfl,HE9,HF⟩
end Go.Proofs.YtjlkkofmojgipaaGreatDoor
namespace Go.Proofs.YtjlkkofmojgipaaGreatDoor
open Go.RowKit Go.Shelf Go.Proofs.Tryz
def AbR {β:Type} (B:Nat) (J:β->World->Prop):Prop :=
 ∀ s W W' row,J s W->W.grownBy W' row->(∀ r,row=some r->B<=r/\∃ o:Obj,W.heap[r]?=some o/\o.isCells=false)->J s W'
theorem AbR.ext {β:Type} {B:Nat} {J:β->World->Prop} (h:AbR B J) {s:β} {W W':World} (hj:J s W) (he:aA W W'):J s W' :=
 h s W W' none hj ⟨he.os,he.tape,he.output,he.size,fun k hk _=>he.block k hk⟩ (fun r e=>by cases e)
end Go.Proofs.YtjlkkofmojgipaaGreatDoor
namespace Go.Proofs.YtjlkkofmojgipaaGreatDoor
open Go.RowKit Go.Maps Go.Proofs.Tryz
theorem nV {w:World} {B:Nat} {x y:Value} (h:w.heap[B]?=some (.cells #[x,y] 85 (0,0))):w.cell? ⟨B,0,none⟩=some x/\w.cell? ⟨B,1,none⟩=some y/\∀ i,w.frozen? ⟨B,i,none⟩=false:=by
 have c0:=aO h 0;have c1:=aO h 1;simp only [oR,oQ,oP] at c0 c1;exact ⟨c0,c1,fun i=>cD h i⟩
theorem nX {w:World} {B:Nat} {x y:Value} (h:w.heap[B]?=some (.cells #[x,y] 85 (0,0))) (a b:Value):((w.setCell ⟨B,0,none⟩ a).setCell ⟨B,1,none⟩ b).heap[B]?=some (.cells #[a,b] 85 (0,0)):=by
 have:=en (en h 0 a) 1 b;simpa using this
theorem nW (w:World) (x y:Value):∃ W,w.alloc (.cells #[x,y] 85)=W/\aA w W/\W.heap.size=w.heap.size+1/\W.heap[w.heap.size]?=some (.cells #[x,y] 85 (0,0)):=⟨_,rfl,aA.alloc _ _,by simp,fC _ _ _⟩
theorem nO {w W:World} {B:Nat} (hE:aA w W) (hB:w.heap.size<=B) (a b:Value):aA w ((W.setCell ⟨B,0,none⟩ a).setCell ⟨B,1,none⟩ b) :=
 Below.setCell (Below.setCell hE hB _) hB _
end Go.Proofs.YtjlkkofmojgipaaGreatDoor
