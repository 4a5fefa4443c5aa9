import Derived.Test.YtjlkkofmojgipaaGreatDoorXAN
import Derived.Test.YtjlkkofmojgipaaGreatDoorXAL
import Derived.Test.YtjlkkofmojgipaaGreatDoorXAM
set_option linter.unusedVariables false
set_option linter.unusedSimpArgs false
set_option maxRecDepth 1000000
set_option maxHeartbeats 40000000
namespace Go.Proofs.YtjlkkofmojgipaaGreatDoor
open Go.RowKit Go.Maps Go.Proofs.Tryz
def Z6h (w:World) (base:Nat) (v:Value) (R:List (List Int)):Prop :=
 ∃ a c,v=.slice a R.length c/\R.length<=c/\c<=maxLen/\(R=[]\/∃ g tags,a=some ⟨g,0,none⟩/\bh w g tags R/\∀ b,mq g tags b->base<=b)
theorem bU.dropW {w:World} {g o:Nat} {xs:List Int} (h:bU w g o xs) (k:Nat):bU w g (o+k) (xs.drop k) :=
 ⟨h.lt,fun j x hx=>by
  rw [oT] at hx
  rw [Nat.add_assoc];exact h.cell (k+j) x hx,h.free⟩
theorem Z2g (w:World):aI 1 numC (w.alloc (.cells #[.string ⟨#[48]⟩] 53)) (.slice (some ⟨w.heap.size,0,none⟩) 1 1) [0]:=by
 refine ⟨[[.string ⟨#[48]⟩]],rfl,by simp,⟨some ⟨w.heap.size,0,none⟩,1,rfl,oJ _,by unfold maxLen;omega,(fun h=>by cases h),fun _=>⟨w.heap.size,0,rfl,by simp,fun j u hu=>?_⟩⟩,?_⟩
 ·have hj:j=0:=by have:=(n_.1 hu).1;simpa using this
  subst hj;rw [World.cell?_alloc_new];exact hu
 ·intro j u x hu hx;have hj:j=0:=by have:=(n_.1 hu).1;simpa using this
  subst hj;simp only [oP,Option.some.injEq] at hu hx;subst hu;subst hx;show [Value.string ⟨#[48]⟩]=[Value.string (aD 0)];rw [show aD 0=⟨#[48]⟩ by decide +kernel]
def Z6y (n k:Nat):Bool:=(aJ n (k+1)).all fun s=>(List.range n).all fun i=>!(s.testBit i) || decide ((s ^^^ (1 <<< i))∈aJ n k)
theorem Z48:∀ n,n<7->∀ k,k<n->Z6y n k=true:=by decide +kernel
theorem Z5v {n k s i:Nat} (hn:n<7) (hk:k<n) (hs:s∈aJ n (k+1)) (hi:i<n) (hb:s.testBit i=true):(s ^^^ (1 <<< i))∈aJ n k:=by
 have h:=List.all_eq_true.1 (List.all_eq_true.1 (Z48 n hn k hk) s hs) i (List.mem_range.2 hi);rw [hb,Bool.not_true,Bool.false_or,decide_eq_true_eq] at h;exact h
def Z6x:Bool:=(List.range 6).all fun i=>(List.range 64).all fun s=>!(s.testBit i) || decide (s &&& (18446744073709551615-(1 <<< i))=s ^^^ (1 <<< i))
theorem Z47:Z6x=true:=by decide +kernel
theorem Z49 {i s:Nat} (hi:i<6) (hs:s<64) (hb:s.testBit i=true):s &&& (18446744073709551615-(1 <<< i))=s ^^^ (1 <<< i):=by
 have h:=List.all_eq_true.1 (List.all_eq_true.1 Z47 i (List.mem_range.2 hi)) s (List.mem_range.2 hs);rw [hb,Bool.not_true,Bool.false_or,decide_eq_true_eq] at h;exact h
theorem L0_ (n k:Nat) (X:List Int):(cE n k X).length=n:=by unfold cE;rw [List.length_map,List.length_range]
theorem D2_ (n k:Nat) (X:List Int) (i:Nat):(gF n k X i).length=(bG n k).length+n:=by unfold gF cW;simp
theorem Z3M {n k i:Nat} {X:List Int} (hi:i<n):(cE n k X).take (i+1)=(cE n k X).take i++[gF n k X i]:=by
 unfold cE;rw [<- List.map_take,<- List.map_take,oG,List.map_append,List.getElem?_range hi];rfl
theorem l7_ {n k:Nat} (hn:n<=12) (hk:k<=n):(bG n k).length<=924:=by
 unfold bG
 split
 ·simp
 ·exact jI hn (by omega)
theorem Z0a {F n k:Nat} {X:List Int} {R:List (List Int)} (h:ei F n k X=some R):∃ m d,fP ((bG n k).length+n) F (cE n k X) (bG n k).length=some (m,d)/\R=(m.drop d).map (·.drop (bG n k).length):=by
 unfold ei at h;cases hc:fP ((bG n k).length+n) F (cE n k X) (bG n k).length with
 | none=>rw [hc] at h;cases h
 | some z =>
  obtain ⟨m,d⟩:=z;rw [hc] at h;exact ⟨m,d,rfl,(oL h).symm⟩
theorem Z57 {n c d F:Nat} {m:List (List Int)} {R:List (List Int)×Bool} (h:dU n c d F m=some R):cF n m=true:=by
 cases F with
 | zero=>cases h
 | succ F =>
  rw [jL] at h;by_cases hk:cF n m=true
  ·exact hk
  ·rw [if_neg hk] at h;cases h
theorem u6_ {n c d:Nat}:∀ {F:Nat} {m m':List (List Int)} {p:Bool},dU n c d F m=some (m',p)->∀ i,i<m'.length->(aG m' i).length=n
 | 0,_,_,_,h=>by cases h
 | F+1,m,m',p,h=>by
  intro i hi;have hok:=Z57 h;rw [jL,if_pos hok] at h;cases hb:bP c d m (m.length-d) with
  | none =>
   rw [hb] at h;simp only [Option.some.injEq,Prod.mk.injEq] at h;obtain ⟨rfl,rfl⟩:=h;exact (kR hok i hi).1
  | some a =>
   rw [hb] at h;simp only at h;cases pI:dA c d (bR m d a) (m.length-(d+1)) with
   | none=>rw [pI] at h;cases h
   | some r =>
    obtain ⟨m2,b⟩:=r;rw [pI] at h;have hdl:d<m.length:=by
     by_cases e:d<m.length
     ·exact e
     ·rw [show m.length-d=0 by omega] at hb;cases hb
    obtain ⟨k1,k2,k3⟩:=ky pI (by rw [kd];omega);cases b with
    | false =>
     simp only [Option.some.injEq,Prod.mk.injEq] at h;obtain ⟨rfl,rfl⟩:=h;rw [k3 i];exact (kR (d1_ hok d a) i (by rw [<- k1];exact hi)).1
    | true=>exact u6_ (F:=F) h i hi
theorem r2_ {N F:Nat} {m:List (List Int)} (hm:∀ i,i<m.length->(aG m i).length=N):∀ (C:Nat) {m1:List (List Int)} {d:Nat},fP N F m C=some (m1,d)->∀ i,i<m1.length->(aG m1 i).length=N
 | 0,m1,d,h=>by
  have h:some (m,0)=some (m1,d):=h;simp only [Option.some.injEq,Prod.mk.injEq] at h;obtain ⟨rfl,rfl⟩:=h;exact hm
 | C+1,m1,d,h=>by
  rw [kN] at h;cases hc:fP N F m C with
  | none=>rw [hc] at h;cases h
  | some z =>
   obtain ⟨m0,d0⟩:=z;rw [hc] at h;simp only at h;cases hw:dU N C d0 F m0 with
   | none=>rw [hw] at h;cases h
   | some r =>
    obtain ⟨m2,p⟩:=r;rw [hw] at h;simp only [Option.some.injEq,Prod.mk.injEq] at h;obtain ⟨rfl,-⟩:=h;exact u6_ hw
theorem Z1S (n k:Nat) (X:List Int):∀ i,i<(cE n k X).length->(aG (cE n k X) i).length=(bG n k).length+n:=by
 intro i hi;have hg:(cE n k X)[i]?=some (gF n k X i):=by
  rw [L0_] at hi;unfold cE;rw [oE,List.getElem?_range hi];rfl
 rw [gj hg];exact D2_ n k X i
theorem Z1d {m:List (List Int)} {d S j:Nat} (hj:d+j<m.length):((m.drop d).map (·.drop S)).take (j+1)=((m.drop d).map (·.drop S)).take j++[(aG m (d+j)).drop S]:=by
 rw [oG,oE,oT,gH hj];rfl
def eV (k:Nat) (t:Nat×Nat×Nat):Nat×Nat×Nat:=(t.1,t.2.1+k,t.2.2-k)
theorem Z1e {tags:List (Nat×Nat×Nat)} {d S j:Nat} {t:Nat×Nat×Nat} (h:tags[d+j]?=some t):((tags.drop d).map (eV S)).take (j+1)=((tags.drop d).map (eV S)).take j++[eV S t]:=by
 rw [oG,oE,oT,h];rfl
theorem a3_ {w:World} {g:Nat} {tags:List (Nat×Nat×Nat)} {m:List (List Int)} (h:bh w g tags m) {d S j:Nat} {t:Nat×Nat×Nat} (ht:tags[d+j]?=some t):(eV S t).1∉(((tags.drop d).map (eV S)).take j).map (·.1):=by
 intro hm;obtain ⟨s,hs,e⟩:=List.mem_map.1 hm;obtain ⟨i,hi⟩:=List.getElem?_of_mem hs;have qK:i<j:=by
  have:=(n_.1 hi).1;rw [oF] at this;omega
 rw [List.getElem?_take_of_lt qK,oE,oT] at hi;cases hq:tags[d+i]? with
 | none=>rw [hq] at hi;cases hi
 | some q =>
  rw [hq] at hi;obtain rfl:=oL hi;exact h.apart ht hq (by omega) e.symm
theorem U5_ (F:Nat) {n k:Nat} {X:List Int} (hn:n<7) (qB:1<=n) (hR:eB n k X) (u:Value) (w:World) (h:cL w u n k X) (R:List (List Int)) (hK:ei F n k X=some R) (ht:af w) (hb:4<w.heap.size) :
  Calls prog 80 #[u] w fun e w'=>∃ v,e=.returned v/\Z6h w' w.heap.size v R/\aC w w':=by
 obtain ⟨r,rfl,hr⟩:=h;obtain ⟨a,c,rfl,h1,h2,-,hc⟩:=bT.open (eP.of_nums hr);unfold maxLen at h2;have HC:=n8 hc;have hkn:=hR.kn;have HLEN:=n8 hR.len;have HDG:=n8 hR.dig;have HT:=n8 ht;have HPB:=n8 hb;obtain ⟨mf,df,xL,Jc⟩:=Z0a hK;have HKC:=n8 xL;have HRE:=n8 Jc;obtain ⟨mx,px⟩:∃ m,X.length=m:=⟨_,rfl⟩;have HMX:=n8 px;rw [px] at h1 |-;obtain ⟨w1,o4,hE1,hs1,hb1⟩:=eF w (.int .i64 n) (.int .i64 k) (.slice a mx c);have HE1:=n8 hE1;have HB1:=n8 hb1;have k1:=aN hb1;have HN:=n8 hn;obtain ⟨js,Ea⟩:∃ js,js=if k=n then n else k+1:=⟨_,rfl⟩
 have wI:js<=n:=by rw [Ea];split <;> omega
 have HJS:=n8 Ea;have hmin:min ((k:Int)+1) (n:Int)=(js:Int):=by rw [Ea];split <;> omega
 have Cs:min (n:Int) ((k:Int)+1)=(js:Int):=by rw [Int.min_comm];exact hmin
 have LW:IntKind.i64.wrap ((k:Int)+1)=(k:Int)+1:=by rw [IntKind.wrap_i64];omega
 have xx:Hid (∀ W,Calls prog 60 #[.int .i64 n,.int .i64 js] W (mg (aJ n js) W)):=fun W=>lg n js (by omega) wI W;have HPL:Hid (∀ W,Calls prog 59 #[.int .i64 n,.int .i64 k] W fun e w'=>∃ v,e=.returned v/\aC W w'/\e_ w' v n k):=fun W=>V4_ n k hn hkn W;have HKN:=n8 hkn;clear hb1 hE1 hr hc hs1 hR px ht hb hK xL Jc Ea
 go_enter func80,ntmps80
 go_wp2_with fail;refine (xx w1).mono ?_;rintro e w2 ⟨v2,rfl,h2,hU⟩;obtain ⟨a2,c2,rfl,pJ,pT,pG⟩:=hU.open;have HU:=n8 hU;have HE2:Hid (aC w w2):=HE1.trans h2;have HB2:=n8 (aO HB1 h2);have d0:=aN HB2 0;have d1:=aN HB2 1;simp only [oQ,oO,oP] at d0 d1;clear h2 hU pG pJ pT xx k1 o4;obtain ⟨IY,vd⟩:∃ l,(aJ n js).length=l:=⟨_,rfl⟩;rw [vd] at HU |-;have HLN2:=n8 vd;clear vd hmin Cs LW;obtain ⟨S,hS⟩:∃ S,(bG n k).length=S:=⟨_,rfl⟩;have HS:=n8 hS;rw [hS] at HKC HRE;have OB:S<=924:=by rw [<- hS];exact l7_ (by omega) hkn
 go_upto_if 31 with fail
 go_cut [4] from 32 to 32 (fun s4 wx=>∃ a4 c4,s4=.slice a4 S c4/\wx=w2/\Hid (ko w2 (.slice a4 S c4) (bG n k)))
 case first =>
  by_cases vf:k=n
  ·have q0:((k:Int) == (n:Int))=true:=by rw [vf];simp
   have zm:Hid (bG n k=[]):=if_pos vf;have Gj:S=0:=by rw [<- hS,zm.out];rfl
   subst Gj;clear vf;go_wp2_with fail;go_meet;refine ⟨none,0,rfl,rfl,?_⟩;unfold Hid;rw [zm.out];exact ⟨[],rfl,by simp,⟨none,0,rfl,oJ _,Nat.zero_le _,fun _=>rfl,fun h=>absurd rfl h⟩,by simp⟩
  ·have q0:((k:Int) == (n:Int))=false:=by simp;omega
   have zm:Hid (bG n k=aJ n js):=by unfold Hid bG;rw [if_neg vf,HJS.out,if_neg vf]
   have Gj:S=IY:=by rw [<- hS,zm.out];exact HLN2
   subst Gj;clear vf;go_wp2_with fail;go_meet;exact ⟨a2,c2,rfl,rfl,by unfold Hid;rw [zm.out];exact HU⟩
 case rest =>
 obtain ⟨a4,c4,rfl,wV,KI⟩:=hcut;obtain rfl:=wV.symm;clear HU HLN2 HJS wI;go_wp2_with fail;refine (HPL _).mono ?_;rintro e w3 ⟨v3,rfl,h3,Gr⟩;obtain ⟨b3,N3,rfl,DT⟩:=Gr;have HP3:Hid (e_ w3 (.map (some b3)) n k):=⟨b3,N3,rfl,DT⟩;have HE3:Hid (aC w w3):=HE2.trans h3;have HB3:=n8 (aO HB2 h3);have HU3:=n8 (KI.ext h3);obtain ⟨L,hL⟩:∃ L,bG n k=L:=⟨_,rfl⟩;have HLK:Hid (∀ s∈L,s<2^n/\s<4096/\∀ i,i<n->s.testBit i=true->(s ^^^ (1 <<< i))∈aJ n k):=by
  intro s hs;rw [<- hL] at hs;unfold bG at hs;by_cases vf:k=n
  ·rw [if_pos vf] at hs;cases hs
  ·rw [if_neg vf] at hs;have hn9:=HN.out;have hk9:=HKN.out;exact ⟨h6_ (by omega) (by omega) s hs,lf (by omega) (by omega) s hs,fun i hi hb=>Z5v hn9 (by omega) hs hi hb⟩
 have sC:Hid (L.length=S):=by unfold Hid;rw [<- hL];exact hS
 have HLL:=n8 hL;rw [hL] at HU3;obtain ⟨a9,c9,wD,pJ,pT,pG⟩:=HU3.open;have hv9':=wD;rw [sC.out] at hv9' pJ;simp only [Value.slice.injEq] at hv9';obtain ⟨rfl,-,rfl⟩:=hv9';unfold maxLen at pT;have HCX:=n8 pG;clear h3 DT HPL KI pG wD hL hS d0 d1;go_wp2_with fail
 go_loopw [6,37] (fun out t wr=>∃ (i:Nat) (tagsO:List (Nat×Nat×Nat)),i<=n/\t=.int .i64 i/\aC w3 wr/\Hid (eQ wr w3.heap.size w3.heap.size out tagsO ((cE n k X).take i))/\Hid (out=.slice none 0 0/\i=0\/∃ g q,out=.slice (some ⟨g,0,none⟩) i q)) (fun _ t _=>n-(intOf t).toNat)
 case atStart=>exact ⟨0,[],by omega,rfl,aC.refl _,eQ.nil _ _ _,.inl ⟨rfl,rfl⟩⟩
 case round =>
  obtain ⟨i,tagsO,hi,rfl,hE,HL,HV⟩:=hrel;obtain ⟨wo,rfl⟩:∃ wo:World,wo=wr:=⟨_,rfl⟩;have HE:=n8 hE;by_cases hlt:i<n
  ·skip;have hi64:=k7_ i (by have:=HN.out;omega);have e1:=hi64.1;have hb46:=hi64.2;have Ep:0<=(i:Int):=by omega
   have Me:(i:Int)<=64:=by have:=HN.out;omega
   have HROW:=n8 (Z3M (k:=k) (X:=X) hlt);clear hE hi64;obtain ⟨bi,Bi⟩:∃ bi,1 <<< i=bi:=⟨_,rfl⟩;rw [Bi] at e1 hb46;have HBI:=n8 Bi;clear Bi;go_wp2_with fail
   go_loopw [8,42] (fun r t wq=>∃ j:Nat,j<=S/\t=.int .i64 j/\aC wo wq/\Hid (aZ wq wo.heap.size 53 1 r numC ((L.map (cn n k X i)).take j))) (fun _ t _=>S-(intOf t).toNat)
   case atStart=>exact ⟨0,by omega,rfl,aC.refl _,aZ.nil _ _ _ _ _⟩
   case round =>
    obtain ⟨j,hj,rfl,tJ,IN⟩:=hrel;obtain ⟨wp,rfl⟩:∃ wp:World,wp=wr:=⟨_,rfl⟩;have HEq:=n8 tJ;by_cases hjl:j<S
    ·skip;obtain ⟨s,hs⟩:∃ s,L[j]?=some s:=⟨L[j]'(by rw [sC.out];exact hjl),n9 _⟩;obtain ⟨b7,o7,rfl,hb7,hcell⟩:=HCX (by intro e;rw [e] at hs;simp at hs);have g1:=HEq.cell (HE.cell (hcell j s hs));obtain ⟨hs2,hs46,hsm⟩:=HLK s (oD hs);have HNX:Hid ((L.map (cn n k X i)).take (j+1)=(L.map (cn n k X i)).take j++[cn n k X i s]):=by
      unfold Hid;rw [oG,oE,hs];rfl
     have HJ:Hid (((L.map (cn n k X i)).take j).length<1000000):=by unfold Hid;rw [oF];omega
     have f1:(s:Int) / 2^i=((s / 2^i:Nat):Int):=by rw [Int.natCast_ediv,Int.natCast_pow];rfl
     have f2:=g3_ (i:=i) hs46;obtain ⟨q,hq⟩:∃ q,s / 2^i=q:=⟨_,rfl⟩;rw [hq] at f1 f2;obtain ⟨bb,hbb⟩:∃ bb:Int,(if s.testBit i=true then 1 else 0)=bb:=⟨_,rfl⟩;rw [hbb] at f2;have HBBT:=n8 hbb;clear hbb;obtain ⟨x,hx⟩:∃ x,cn n k X i s=x:=⟨_,rfl⟩;rw [hx] at HNX;have hszq:=tJ.size;have HSM:=n8 hsm;clear hcell hs hq hb7 hsm tJ
     go_upto_if 50 with fail
     go_cut [11,12] from 51 to 66 (fun Kn NQ wx=>Kn=.string (aD x)/\Hid (aC wp wx))
     case first =>
      cases htb:s.testBit i with
      | false =>
       have hbb:=HBBT.out;rw [htb,if_neg (by decide)] at hbb;subst hbb;have HX0:Hid (aD x=⟨#[48]⟩):=by
        unfold Hid;rw [<- hx,lG htb];decide +kernel
       clear hx htb;go_wp2_with fail;go_meet;exact ⟨by rw [HX0.out],aC.refl _⟩
      | true =>
       have hbb:=HBBT.out;rw [htb,if_pos rfl] at hbb;subst hbb;rw [kM htb] at hx;have hin:=HSM i hlt htb;have h64:s<64:=oH hs2 (by have:2^n<=2^6:=Nat.pow_le_pow_right (by decide) (by have:=HN.out;omega);simpa using this);have hob:=Z49 (i:=i) (by have:=HN.out;omega) h64 htb;rw [HBI.out] at hob;have e3:=u64_andNot_nat s bi (by omega) (by omega);rw [hob] at e3;have hr46:=lf (n:=n) (k:=k) (by have:=HN.out;omega) HKN _ hin;have hpm:=(S8_ HN HKN hin).2;rw [<- HLEN.out,HMX.out] at hpm;rw [HBI.out] at hx hin;obtain ⟨rs,qo⟩:∃ rs,s ^^^ bi=rs:=⟨_,rfl⟩;rw [HBI.out] at hr46 hpm;rw [qo] at hx hin e3 hr46 hpm;have xn:Hid (∀ W,oW 65 #[.int .u64 (bi:Int),.int .u64 (rs:Int)] W (.bool (cK bi rs))):=fun W=>y9_ bi rs hb46 hr46 W;have BF:Hid (∀ W,aC wp W->(Instr.lookup 96 (.map (some b3)) (.int .u64 (rs:Int)) false).run prog W=.ok (.int .i64 ((be n k rs:Nat):Int)) W):=fun W hW=>(HP3.ext ((HE.trans HEq).trans hW)).run hin hr46;obtain ⟨p,hp⟩:∃ p,be n k rs=p:=⟨_,rfl⟩;rw [hp] at hpm BF hx;obtain ⟨y,hy⟩:∃ y,X[p]?=some y:=⟨_,n9 (by rw [HMX.out];exact hpm)⟩;rw [show X.getD p 0=y by rw [oC,hy];rfl] at hx;obtain ⟨o,ho⟩:∃ o,cK bi rs=o:=⟨_,rfl⟩;rw [ho] at xn hx;obtain ⟨bx,ox,rfl,hbx,pG⟩:=HC (by intro e;rw [e] at hy;simp at hy);obtain ⟨z9,e9,g9⟩:=pG p y hy;obtain rfl:z9=.string (aD y):=e9;have hdy:=HDG y (oD hy);have HSG:Hid (∀ W,oW 62 #[.string (aD y),.bool o] W (.string (aD (bu y o)))):=fun W=>O3_ y o W (by have:=(fw hdy).2;omega);rw [hx] at HSG;have HLK:=BF;have z3:=HEq.cell (HE.cell (HE3.cell g9));have z2:=HEq.cell (HE.cell (aN HB3 2))
       (try simp only [oQ,oO,oP] at z2)
       have BY:(p:Int)<(mx:Int):=by omega
       clear hob htb hin qo hp hy ho pG g9 hdy hx hbx h64 BF
       go_upto_region 17 with fail
       refine iP (fun w'=>w'.cell? ⟨w.heap.size,2,none⟩=some (.slice (some ⟨bx,ox,none⟩) mx c)/\w'.cell? ⟨bx,ox+p,none⟩=some (.string (aD y))/\Hid (aC wp w')) 12 (by kernel_rfl) ⟨(aC.drew wp).cell z2,(aC.drew wp).cell z3,aC.drew wp⟩ (fun oX=>?_);refine rA [0,1,2,3] ?_
       iterate 4 ((first|(refine rL (v:=?_) (by rfl) (Or.inl ⟨by rfl,?_⟩) ?_;rotate_left;·((intro w' oz);(try dsimp only at oz);(try go_simp);(try with_reducible rfl)))|(refine rW (v:=?_) (by rfl) (Or.inl ⟨by rfl,?_⟩) ?_;rotate_left;·((intro w');(try go_simp);(try with_reducible rfl))));(try simp only [Act.put,aK,aL,aM]))
       refine rE ?_;refine tL (v:=.int .i64 (p:Int)) 4 rfl (Or.inl ⟨by rfl,?_⟩) ?_
       ·(intro w' oz;(try dsimp only at oz);have hlk:=HLK w' (oz.2.2.out);go_simp;(try with_reducible rfl))
       (try simp only [Act.put,aK,aL,aM])
       refine rA [5,6,7,8,9] ?_
       iterate 5 ((first|(refine rL (v:=?_) (by rfl) (Or.inl ⟨by rfl,?_⟩) ?_;rotate_left;·((intro w' oz);(try dsimp only at oz);(try go_simp);(try with_reducible rfl)))|(refine rW (v:=?_) (by rfl) (Or.inl ⟨by rfl,?_⟩) ?_;rotate_left;·((intro w');(try go_simp);(try with_reducible rfl))));(try simp only [Act.put,aK,aL,aM]))
       refine rE ?_;refine dO 10 (by kernel_rfl) rfl (fun K hK=>?_);go_simp
       (go_at_call 65;refine (xn _).mono ?_)
       rintro e wz ⟨rfl,om⟩;go_wp2_with fail;refine hK _ _ ⟨(om).cell oX.1,(om).cell oX.2.1,aC.trans oX.2.2 (om)⟩ (fun oX=>?_);clear hK K
       (try simp only [Act.put,aK,aL,aM])
       refine dO 11 (by kernel_rfl) rfl (fun K hK=>?_);go_simp
       (go_at_call 62;refine (HSG _).mono ?_)
       rintro e wy ⟨rfl,om⟩;go_wp2_with fail;refine hK _ _ ⟨(om).cell oX.1,(om).cell oX.2.1,aC.trans oX.2.2 (om)⟩ (fun oX=>?_);clear hK K
       (try simp only [Act.put,aK,aL,aM])
       have qs:Hid (aC wp wy):=oX.2.2;refine fL 12 (by kernel_rfl) (by kernel_rfl) (by kernel_rfl) rfl (fun K hK=>?_);go_simp;refine hK _ _ ?_;clear hK K
       (try simp only [Act.put,aK,aL,aM])
       go_wp2_with fail;go_meet;exact ⟨rfl,qs⟩
     case rest =>
     obtain ⟨rfl,HE5⟩:=hcut;clear f1 f2;obtain ⟨w5,rfl⟩:∃ w5:World,w5=wc:=⟨_,rfl⟩;have HB5:=n8 (IN.ext HE5);have rB:wo.heap.size<=w5.heap.size:=oI hszq HE5.size;go_wp2_with (at_builtin;go_must (refine ee _ rfl _ _ 119 rfl wo.heap.size 53 (.string ⟨#[]⟩) 1 16 underlying119 ik rfl (by decide) u8 numC ((L.map (cn n k X i)).take j) x #[.string (aD x)] 53 rfl HB5 rfl rfl ?e1 (fun _ _=>rfl) HJ (by decide) rB ?_))
     case e1=>simp [Value.oneCell']
     intro v' w6 pF qW hb6 zD _;rw [<- HNX.out] at pF;have HB6:=n8 pF;have HX6:=n8 (Below.trans (HEq.trans HE5) hb6);clear pF qW hb6;go_wp2_with fail;go_roundw
     case rel=>exact ⟨j+1,by omega,by go_num,HX6,HB6⟩
     case measure=>simp [intOf];omega
    ·obtain rfl:j=S:=by omega
     have hB:=IN.out;rw [List.take_of_length_le (by rw [List.length_map,sC.out];exact oJ _)] at hB;have HBL:=n8 hB;have Dj:Hid (∀ W v,aI 1 numC W v [0]->Calls prog 89 #[v,.int .i64 (n:Int)] W fun e w'=>∃ g,e=.returned (.slice (some ⟨g,0,none⟩) n n)/\w'.heap[g]?=some (.cells (c8 0 n n).toArray 53 (0,0))/\W.heap.size<=g/\aC W w'):=fun W v hv=>j8_ 0 n (by have:=HN.out;omega) v W hv;obtain ⟨wl,hwl⟩:∃ wl,wp.alloc (.cells #[.string ⟨#[48]⟩] 53)=wl:=⟨_,rfl⟩;have HLIT:=n8 (Z2g wp);rw [hwl] at HLIT;have KW:Hid (aC wp wl):=by rw [<- hwl];exact aC.alloc _ _
     clear hB IN tJ;go_wp2_with fail;refine (Dj _ _ HLIT).mono ?_;rintro e w5 ⟨gz,rfl,zV,JA,h5⟩;have Ah:bU w5 gz 0 (List.replicate n 0):=(Z4o 0 n rfl).row (by simp) zV;have J7:aD 1=⟨#[49]⟩:=by decide +kernel
     have oY:aC wp w5:=KW.trans h5;have C1:wp.heap.size<=gz:=oI KW.size JA;have yx:Hid (aC wp (w5.setCell ⟨gz,i,none⟩ (.string (aD 1)))):=oY.setCell C1 _;have hRS:=Ah.set i (by simpa using hlt) 1;have gz1:=Ah.cell i 0 (by rw [List.getElem?_replicate,if_pos hlt]);have gz2:=Ah.free i;rw [Nat.zero_add] at gz1 hRS;rw [J7] at yx hRS;have HRZ:=n8 hRS;have HB3b:=n8 (HBL.ext yx);have hs3:=yx.size;have hs0:=HE.size;have hs1:=HEq.size;clear Ah hRS oY h5 Dj hwl HLIT zV;go_wp2_with (at_builtin;go_must (refine R9_ _ rfl _ _ rfl wo.heap.size u8 _ _ rfl HB3b gz n n ?n1 rfl HRZ ?n2 qB ?n3 ?_))
     case n1=>simp
     case n2=>rw [List.length_map,sC.out];have:=HN.out;omega
     case n3=>omega
     intro w4 gr cr Bq hgr sJ GN th;have HR4:Hid (bU w4 gr 0 (gF n k X i)):=by unfold Hid gF cW;rw [HLL.out];exact Bq
     have HE4:=n8 (Below.trans (aC.trans HEq yx) th);have HEX:=n8 (aC.trans HE HE4);have HL4:=n8 (HL.ext HE4);have hszr:=HEX.size;have HLN:Hid ((gF n k X i).length=j+n):=by unfold Hid;rw [D2_,HLL.out,sC.out]
     have HJ:Hid (((cE n k X).take i).length=i):=by unfold Hid;rw [oF,L0_];omega
     have HV1:Hid (u6.ownBlock≠some gr):=fun e=>by have:=(HL.own.lt gr e).2;omega
     have HN1:Hid (gr∉tagsO.map (·.1)):=fun hm=>by
      obtain ⟨t,ht,e⟩:=List.mem_map.1 hm;obtain ⟨i9,I8⟩:=List.getElem?_of_mem ht;have hl:i9<((cE n k X).take i).length:=by rw [<- HL.out.len];exact (n_.1 I8).1
      have:=(HL.row i9 t _ I8 (n9 hl)).2.2.1.lt;omega
     (try rw [List.length_map] at sJ)
     (try rw [List.length_map])
     rw [sC.out] at sJ |-;have HE0:Hid (#[Value.slice (some ⟨gr,0,none⟩) (j+n) cr]=#[iS (gr,0,cr) (gF n k X i).length]):=by unfold Hid iS;rw [HLN.out]
     have HCR:Hid ((gF n k X i).length<=cr):=by
      unfold Hid;rw [HLN.out];exact sJ
     have HGR:Hid (w3.heap.size<=gr):=by unfold Hid;omega
     have M6:Hid (((cE n k X).take i).length<1000000):=by unfold Hid;rw [HJ.out];have:=HN.out;omega
     clear Bq th sJ;go_wp2_with (at_builtin;go_must (refine Y2_ _ rfl _ _ rfl w3.heap.size w3.heap.size u6 tagsO ((cE n k X).take i) (gr,0,cr) (gF n k X i) #[.slice (some ⟨gr,0,none⟩) (j+n) cr] 119 rfl HL4 rfl HE0 HCR GN HR4 HGR HV1 HN1 M6 hszr ?_));intro v' w6 pF hb6 BT;have pF:eQ w6 w3.heap.size w3.heap.size v' (tagsO++[(gr,0,cr)]) ((cE n k X).take (i+1)):=by rw [HROW.out];exact pF
     have HB6:=n8 pF;have HX6:=n8 (Below.trans HEX hb6);have HV6:Hid (v'=.slice none 0 0/\i+1=0\/∃ g q,v'=.slice (some ⟨g,0,none⟩) (i+1) q):=by
      obtain ⟨g,q,hv⟩:=BT.out;refine .inr ⟨g,q,?_⟩;have hj9:=HJ.out;rw [oF] at hj9;rw [hv];first | rw [HJ.out] | rw [hj9] | (simp only [oF];rw [hj9])
     clear pF hb6 BT;go_wp2_with fail;go_roundw
     case rel=>exact ⟨i+1,_,by omega,by go_num,HX6,HB6,HV6⟩
     case measure=>simp [intOf];omega
  ·obtain rfl:i=n:=by omega
   skip;have hL:=HL.out;rw [List.take_of_length_le (by rw [L0_];exact oJ _)] at hL;rcases HV.out with ⟨-,h0⟩ | ⟨g,cc,rfl⟩
   ·omega
   have hwl:(cE i k X).length=i:=L0_ i k X;have hL2:eQ wo w3.heap.size w3.heap.size (.slice (some ⟨g,0,none⟩) (cE i k X).length cc) tagsO (cE i k X):=by
    rw [hwl];exact hL
   obtain ⟨sB,DB,DA,hbb⟩:=hL2.mat (oJ _);rw [hwl] at DB;have HMM:=n8 sB;have HBB:=n8 hbb;have hszw:=HE.size;have hszw3:=HE3.size;have CH:Hid (w3.heap.size<=g):=hbb g (List.mem_cons_self ..);have HCC:Hid (i<=cc/\cc<=maxLen):=⟨DB,DA⟩;unfold maxLen at DA;clear hL hL2 HL HV sB hbb hE;go_wp2_with fail
   go_loopw [14,87] (fun Km t wr=>∃ (c d:Nat) (m1:List (List Int)) (oo:List (Nat×Nat×Nat)),c<=S/\d<=i/\t=.int .i64 c/\Km=.int .i64 d/\Hid (aP (·=g) wo wr)/\Hid (bh wr g oo m1)/\Hid (fP (S+i) F (cE i k X) c=some (m1,d))/\Hid (∀ t∈oo,w3.heap.size<=t.1)) (fun _ t _=>S-(intOf t).toNat)
   case atStart=>exact ⟨0,0,_,tagsO,by omega,by omega,rfl,rfl,aP.refl _ _,HMM,rfl,fun t ht=>HBB t.1 (List.mem_cons_of_mem _ (List.mem_map.2 ⟨t,ht,rfl⟩))⟩
   case round =>
    obtain ⟨c,d,m1,oo,Nz,sH,rfl,rfl,HG,HM1,HK1,zg⟩:=hrel;obtain ⟨wp,rfl⟩:∃ wp:World,wp=wr:=⟨_,rfl⟩;have hml:=J5_ c HK1;rw [hwl] at hml;by_cases hcl:c<S
    ·obtain ⟨z,hz⟩:=r3_ HKC (c+1) (by omega);rw [kN,HK1.out] at hz;simp only at hz;cases vL:dU (S+i) c d F m1 with
     | none=>rw [vL] at hz;cases hz
     | some y =>
     obtain ⟨m2,p⟩:=y;rw [vL] at hz;have Jp:fP (S+i) F (cE i k X) (c+1)=some (m2,if p then d+1 else d):=by rw [kN,HK1.out];simp only;rw [vL]
     have HK2:=n8 Jp;have hd2:=(mw vL (by omega));have Jj:af wp:=(HT.ext (HE3.trans HE)).below (HG.below (base:=w3.heap.size) HE.size (fun q hq=>by rw [hq];exact CH)) (by have:=HPB.out;have:=HE3.size;omega);have HCO:=n8 (Q5_ (S+i) F c d m1 oo g cc wp (m2,p) HM1 vL (by rw [hml.1];exact HCC.1) HCC.2 (by rw [hml.1];exact sH) (by omega) (by omega) Jj (by have:=HPB.out;have:=HE3.size;have:=CH.out;omega));rw [hml.1] at HCO hd2;have HD2:Hid (m2.length=i/\(p=true->d<i)):=⟨hd2.1,hd2.2.1⟩;clear hz vL Jp hd2 hml Jj;go_wp2_with fail;refine HCO.mono ?_;rintro e w5 ⟨qJ,rfl,zY,zW,zb⟩;have HM5:=n8 zY;have vw:Hid (aP (·=g) wo w5):=HG.trans zb;have HT5:Hid (∀ t∈qJ,w3.heap.size<=t.1):=fun t ht=>by
      rcases zW t ht with e | e
      ·exact zg t e
      ·have:=HG.size;omega
     clear zY zW zb HCO HM1 zg HK1;cases p with
     | false =>
      go_wp2_with fail;go_roundw
      case rel=>exact ⟨c+1,d,m2,qJ,by omega,by omega,by go_num,rfl,vw,HM5,HK2,HT5⟩
      case measure=>simp [intOf];omega
     | true =>
      have hdl:=HD2.2 rfl;go_wp2_with fail;go_roundw
      case rel=>exact ⟨c+1,d+1,m2,qJ,by omega,by omega,by go_num,by go_num,vw,HM5,HK2,HT5⟩
      case measure=>simp [intOf];omega
    ·obtain rfl:c=S:=by omega
     have hk9:=HK1.out;rw [HKC.out] at hk9;simp only [Option.some.injEq,Prod.mk.injEq] at hk9;obtain ⟨rfl,rfl⟩:=hk9;obtain ⟨w8,K3⟩:∃ w8,w8=wp:=⟨_,rfl⟩;obtain rfl:=K3;obtain ⟨ld,vJ⟩:∃ ld,i-df=ld:=⟨_,rfl⟩;have yX:mf.length=i:=hml.1;have HRL:Hid (R.length=ld):=by unfold Hid;rw [HRE.out,List.length_map,List.length_drop,yX];exact vJ
     obtain ⟨cd,sv⟩:∃ cd,cc-df=cd:=⟨_,rfl⟩;obtain ⟨oq,LM,Iy⟩:∃ oq,(if cc=df then (some ⟨g,0,none⟩:Option Addr) else some ⟨g,df,none⟩)=some ⟨g,oq,none⟩/\(df<i->oq=df):=by
      by_cases JJ:cc=df
      ·exact ⟨0,if_pos JJ,fun h=>by have:=HCC.1;omega⟩
      ·exact ⟨df,if_neg JJ,fun _=>rfl⟩
     have HOQ:=n8 Iy;have OM:(df:Int)<=(i:Int):=by omega
     have c72:(df:Int)<=(cc:Int):=by have:=HCC.1;omega
     have OL:(0:Int)<=(df:Int):=by omega
     have Lu:df<=cc:=by have:=HCC.1;omega
     have HOK2:Hid (∀ j,j<i->(aG mf j).length=c+i):=by
      have h9:=r2_ (N:=c+i) (F:=F) (m:=cE i k X) (fun j hj=>by rw [Z1S i k X j hj,HLL.out,sC.out]) c HKC;rw [yX] at h9;exact h9
     have Hw:Hid (mf.length=i):=yX;have HE8:Hid (aC w w8):=by
      have h8:Below w3.heap.size wo w8:=HG.below (base:=w3.heap.size) HE.size (fun q hq=>by rw [hq];exact CH);exact Below.trans (HE3.trans HE) (Below.mono h8 HE3.size)
     have Mo:Hid (w3.heap.size<=w8.heap.size):=oI HE.size HG.size;have HW3:Hid (w.heap.size<=w3.heap.size):=HE3.size;obtain ⟨MM,sB⟩:∃ MM,(mf.drop df).map (·.drop c)=MM:=⟨_,rfl⟩;obtain ⟨TT,Gf⟩:∃ TT,(oo.drop df).map (eV c)=TT:=⟨_,rfl⟩;have Hs:Hid (∀ j,df+j<mf.length->MM.take (j+1)=MM.take j++[(aG mf (df+j)).drop c]):=fun j hj=>by rw [<- sB];exact Z1d hj
     have Ht:Hid (∀ j t,oo[df+j]?=some t->TT.take (j+1)=TT.take j++[eV c t]):=fun j t ht=>by rw [<- Gf];exact Z1e ht
     have ID:Hid (∀ j t,oo[df+j]?=some t->(eV c t).1∉(TT.take j).map (·.1)):=fun j t ht=>by rw [<- Gf];exact a3_ HM1 ht
     have Hv:Hid (MM.length=ld):=by unfold Hid;rw [<- sB,List.length_map,List.length_drop,Hw.out];exact vJ
     have Hu:Hid (MM=R):=by unfold Hid;rw [<- sB];exact HRE.symm
     clear Iy hml yX HG HKC HK1 sB Gf HRE;go_wp2_with fail
     go_loopw [16,101] (fun out t wr=>∃ (j:Nat),j<=ld/\t=.int .i64 j/\Hid (aC w8 wr)/\Hid (eQ wr w8.heap.size w3.heap.size out (TT.take j) (MM.take j))/\Hid (out=.slice none 0 0/\j=0\/∃ g q,out=.slice (some ⟨g,0,none⟩) j q)) (fun _ t _=>ld-(intOf t).toNat)
     case atStart=>exact ⟨0,by omega,rfl,aC.refl _,eQ.nil _ _ _,.inl ⟨rfl,rfl⟩⟩
     case round =>
      obtain ⟨j,hj,rfl,HX,HL,HV⟩:=hrel;obtain ⟨wq,rfl⟩:∃ wq:World,wq=wr:=⟨_,rfl⟩;by_cases hjl:j<ld
      ·obtain ⟨t,ht,c1,c2,c3,c4,c5⟩:=(HM1.ext HX).get (df+j) (by rw [Hw.out];omega);have ht8:=zg t (oD ht);have hob:t.1<w8.heap.size:=HM1.blt (List.mem_cons_of_mem _ (List.mem_map.2 ⟨t,oD ht,rfl⟩));obtain rfl:oq=df:=HOQ (by omega);rw [HOK2.out (oq+j) (by omega)] at c1 c2;have HNX:=n8 (Hs j (by rw [Hw.out];omega));have HNT:=n8 (Ht j _ ht);have HFR:=n8 (ID j _ ht);have HRW:Hid (bU wq (eV c t).1 (eV c t).2.1 ((aG mf (oq+j)).drop c)):=c4.dropW c;have BA:Hid (((aG mf (oq+j)).drop c).length=i):=by unfold Hid;rw [List.length_drop,HOK2.out (oq+j) (by omega)];omega
       have Kb:Hid (i<=(eV c t).2.2/\(eV c t).2.2<=maxLen):=by
        have h9:(eV c t).2.2=t.2.2-c:=rfl;unfold Hid;rw [h9];omega
       have Df:Hid (u16.ownBlock≠some (eV c t).1):=fun e=>by
        have h9:=(HL.own.lt _ e).1;have h10:(eV c t).1=t.1:=rfl;omega
       have HBS:Hid (w3.heap.size<=(eV c t).1):=ht8;have H9:Hid ((MM.take j).length=j):=by unfold Hid;rw [oF,Hv.out];omega
       have H7:Hid ((MM.take j).length<1000000):=by unfold Hid;rw [H9.out];have:=HN.out;omega
       obtain ⟨bt,ot,ct⟩:=t;simp only at c1 c2 c3;have Lz:¬ ct=c:=by omega
       have Ly:(c:Int)<=((c+i:Nat):Int):=by omega
       have Lx:(c:Int)<=(ct:Int):=by omega
       have HE0:Hid (#[Value.slice (some ⟨bt,ot+c,none⟩) i (ct-c)]=#[iS (eV c (bt,ot,ct)) ((aG mf (oq+j)).drop c).length]):=by unfold Hid iS;rw [BA.out];rfl
       have HR1:Hid (((aG mf (oq+j)).drop c).length<=(eV c (bt,ot,ct)).2.2):=by unfold Hid;rw [BA.out];exact Kb.1
       unfold maxLen at c3;have hszr:w8.heap.size<=wq.heap.size:=HX.size;have c9:c+i-c=i:=by omega
       have wI:(j:Int)<(ld:Int):=by omega
       obtain ⟨rj,BW⟩:∃ rj,(aG mf (oq+j)).drop c=rj:=⟨_,rfl⟩;rw [BW] at HNX HRW BA HE0 HR1;clear ht c4 c5 ht8 hob BW;go_wp2_with (at_builtin;go_must (refine Y2_ _ rfl _ _ rfl w8.heap.size w3.heap.size u16 (TT.take j) (MM.take j) (eV c (bt,ot,ct)) rj #[.slice (some ⟨bt,ot+c,none⟩) i (ct-c)] 119 rfl HL rfl HE0 HR1 Kb.2 HRW HBS Df HFR H7 hszr ?_));intro v' w5 o8 hb5 EI;rw [<- HNX.out,<- HNT.out] at o8;have HB5:=n8 o8;have HX5:Hid (aC w8 w5):=Below.trans HX hb5;have Mh:Hid (v'=.slice none 0 0/\j+1=0\/∃ g q,v'=.slice (some ⟨g,0,none⟩) (j+1) q):=by
        obtain ⟨g,q,hv⟩:=EI.out;refine .inr ⟨g,q,?_⟩;have hj9:=H9.out;rw [oF] at hj9;rw [hv];first | rw [H9.out] | rw [hj9] | (simp only [oF];rw [hj9])
       clear o8 hb5 EI;go_wp2_with fail;go_roundw
       case rel=>exact ⟨j+1,by omega,by go_num,HX5,HB5,Mh⟩
       case measure=>simp [intOf];omega
      ·obtain rfl:j=ld:=by omega
       have HF:Hid (Z6h wq w.heap.size u16 R):=by
        have hL:=HL.out;have e1:MM.take j=R:=by
         rw [Hu.out];exact List.take_of_length_le (by rw [HRL.out];exact oJ _)
        rw [e1] at hL;rcases HV.out with ⟨hv,h0⟩ | ⟨gq,q,hv⟩
        ·refine ⟨none,0,by rw [hv,HRL.out,h0],by rw [HRL.out,h0];exact oJ _,Nat.zero_le _,.inl (List.eq_nil_of_length_eq_zero (by rw [HRL.out];exact h0))⟩
        ·rw [hv] at hL;have hL3:eQ wq w8.heap.size w3.heap.size (.slice (some ⟨gq,0,none⟩) R.length q) (TT.take j) R:=by rw [HRL.out];exact hL
         obtain ⟨m1,m2,m3,m4⟩:=hL3.mat Mo;exact ⟨_,q,by rw [hv,HRL.out],m2,m3,.inr ⟨gq,_,rfl,m1,fun b hb=>oI HW3 (m4 b hb)⟩⟩
       have HE9:Hid (aC w wq):=HE8.trans HX;clear HL HV;go_wp2_with fail;go_ret;exact ⟨_,rfl,HF,HE9⟩
theorem K3_ {n k:Nat} {X:List Int} (hR:eB n k X) (u:Value) (w:World) (h:cL w u n k X) (lr:Nat) (vS:Hid (∀ W,aC w W->Calls prog 80 #[u] W fun e w'=>∃ a4 c4,e=.returned (.slice a4 lr c4)/\aC W w')) (ht:af w) :
  oW 35 #[u] w (.tuple #[.bool (decide (az X=0) || decide (lr=k)),.int .i64 0]):=by
 have HCK:Hid (∀ W,aC w W->oW 47 #[u] W (.int .i64 0)):=fun W hW=>kv hR u W (h.ext hW);have qc:Hid (∀ W,aC w W->oW 79 #[u] W (.bool (decide (az X=0)))):=fun W hW=>n7 hR.dig u W (h.ext hW) (ht.ext hW);obtain ⟨r,rfl,hr⟩:=h;obtain ⟨a,c,rfl,-⟩:=aI.open hr;obtain ⟨mx,px⟩:∃ m,X.length=m:=⟨_,rfl⟩;rw [px] at HCK qc vS |-;obtain ⟨w1,o4,hE1,hs1,hb1⟩:=eF w (.int .i64 n) (.int .i64 k) (.slice a mx c);have HE1:=n8 hE1;have HB1:=n8 hb1;have k1:=aN hb1;have hbb:((lr:Int) == (k:Int))=decide (lr=k):=by
  by_cases e:lr=k
  ·subst e;simp
  ·rw [oR e];exact beq_eq_false_iff_ne.2 (by omega)
 obtain ⟨b2,hb2⟩:∃ b,decide (lr=k)=b:=⟨_,rfl⟩;obtain ⟨b1,hb1'⟩:∃ b,decide (az X=0)=b:=⟨_,rfl⟩;rw [hb1'] at qc |-;rw [hb2] at hbb |-;clear hb1 hE1 hr hs1 px hb2 hb1' ht hR
 go_enter func35,ntmps35
 go_wp2_with fail;refine (HCK w1 HE1).mono ?_;rintro e w2 ⟨rfl,h2⟩;have HE2:Hid (aC w w2):=HE1.trans h2;have hb2:=aO HB1 h2;have d0:=aN hb2 0;have d1:=aN hb2 1;have d2:=aN hb2 2;simp only [oQ,oO,oP] at d0 d1 d2;clear h2 HCK k1 o4 hb2
 go_upto_region 4 with fail
 cases b1 with
 | true =>
  refine fX (fun w'=>w'.cell? ⟨w.heap.size,0,none⟩=some (.int .i64 n)/\w'.cell? ⟨w.heap.size,1,none⟩=some (.int .i64 k)/\w'.cell? ⟨w.heap.size,2,none⟩=some (.slice a mx c)/\Hid (aC w2 w')) 12 12 (by kernel_rfl) (by kernel_rfl) ⟨(aC.drew w2).cell d0,(aC.drew w2).cell d1,(aC.drew w2).cell d2,aC.drew w2⟩ (fun ops hO oX=>?_);have hi:=a8 hO 0 (by decide)
  conv at hi=>rhs;arg 1;whnf
  refine tY hO (v:=?_) 0 hi (Or.inl ⟨by rfl,?_⟩) ?_;rotate_left
  ·((intro w' oz);(try dsimp only at oz);(try go_simp);(try with_reducible rfl))
  clear hi
  (try simp only [Act.put,aK,aL,aM])
  have hi:=a8 hO 1 (by decide)
  conv at hi=>rhs;arg 1;whnf
  refine dK hO 1 (by kernel_rfl) hi (fun K hK=>?_);go_simp
  (go_at_call 79;refine (qc _ (HE2.trans oX.2.2.2)).mono ?_)
  rintro e wz ⟨rfl,om⟩;go_wp2_with fail;refine hK _ _ ⟨(om).cell oX.1,(om).cell oX.2.1,(om).cell oX.2.2.1,aC.trans oX.2.2.2 (om)⟩ (fun oX=>?_);clear hK K hi
  (try simp only [Act.put,aK,aL,aM])
  refine rA [2,3,4,5,6,7,8,9,10] ?_
  iterate 9 (refine rS hO (by decide) fun o h=>?_;(conv at h=>lhs;whnf);subst h;(first|(refine rX hO (v:=?_) (Or.inl ⟨by rfl,?_⟩) ?_;rotate_left;·((intro w');(try go_simp);(try with_reducible rfl)))|(refine rX hO (v:=undef) (Or.inr ⟨by rfl,rfl⟩) ?_));(try simp only [Act.put,aK,aL,aM]))
  refine rE ?_;have z4:Hid (aC w2 _):=oX.2.2.2;have hi:=a8 hO 11 (by decide)
  conv at hi=>rhs;arg 1;whnf
  refine fp hO 11 (by kernel_rfl) (by kernel_rfl) hi (fun K hK=>?_);go_simp;refine hK _ _ (by assumption) ?_;clear hK K hi hO
  (try simp only [Act.put,aK,aL,aM])
  go_wp2_with fail;go_ret2;exact ⟨rfl,HE2.trans z4.out⟩
 | false =>
  refine fX (fun w'=>w'.cell? ⟨w.heap.size,0,none⟩=some (.int .i64 n)/\w'.cell? ⟨w.heap.size,1,none⟩=some (.int .i64 k)/\w'.cell? ⟨w.heap.size,2,none⟩=some (.slice a mx c)/\Hid (aC w2 w')) 12 12 (by kernel_rfl) (by kernel_rfl) ⟨(aC.drew w2).cell d0,(aC.drew w2).cell d1,(aC.drew w2).cell d2,aC.drew w2⟩ (fun ops hO oX=>?_);have hi:=a8 hO 0 (by decide)
  conv at hi=>rhs;arg 1;whnf
  refine tY hO (v:=?_) 0 hi (Or.inl ⟨by rfl,?_⟩) ?_;rotate_left
  ·((intro w' oz);(try dsimp only at oz);(try go_simp);(try with_reducible rfl))
  clear hi
  (try simp only [Act.put,aK,aL,aM])
  have hi:=a8 hO 1 (by decide)
  conv at hi=>rhs;arg 1;whnf
  refine dK hO 1 (by kernel_rfl) hi (fun K hK=>?_);go_simp
  (go_at_call 79;refine (qc _ (HE2.trans oX.2.2.2)).mono ?_)
  rintro e wz ⟨rfl,om⟩;go_wp2_with fail;refine hK _ _ ⟨(om).cell oX.1,(om).cell oX.2.1,(om).cell oX.2.2.1,aC.trans oX.2.2.2 (om)⟩ (fun oX=>?_);clear hK K hi
  (try simp only [Act.put,aK,aL,aM])
  refine rA [2,3,6,7] ?_
  iterate 4 (refine rS hO (by decide) fun o h=>?_;(conv at h=>lhs;whnf);subst h;refine rY hO (v:=?_) (Or.inl ⟨by rfl,?_⟩) ?_;rotate_left;·((intro w' oz);(try dsimp only at oz);(try go_simp);(try with_reducible rfl));(try simp only [Act.put,aK,aL,aM]))
  refine rE ?_;have hi:=a8 hO 4 (by decide)
  conv at hi=>rhs;arg 1;whnf
  refine dK hO 4 (by kernel_rfl) hi (fun K hK=>?_);go_simp
  (go_at_call 80;refine (vS _ (HE2.trans oX.2.2.2)).mono ?_)
  rintro e wy ⟨a6,c6,rfl,om⟩;go_wp2_with fail;refine hK _ _ ⟨(om).cell oX.1,(om).cell oX.2.1,(om).cell oX.2.2.1,aC.trans oX.2.2.2 (om)⟩ (fun oX=>?_);clear hK K hi
  (try simp only [Act.put,aK,aL,aM])
  refine rA [5,8,9,10] ?_
  iterate 4 (refine rS hO (by decide) fun o h=>?_;(conv at h=>lhs;whnf);subst h;refine rX hO (v:=?_) (Or.inl ⟨by rfl,?_⟩) ?_;rotate_left;·((intro w');(try go_simp);(try with_reducible rfl));(try simp only [Act.put,aK,aL,aM]))
  refine rE ?_;have z4:Hid (aC w2 _):=oX.2.2.2;have hi:=a8 hO 11 (by decide)
  conv at hi=>rhs;arg 1;whnf
  refine fp hO 11 (by kernel_rfl) (by kernel_rfl) hi (fun K hK=>?_);go_simp;refine hK _ _ (by assumption) ?_;clear hK K hi hO
  (try simp only [Act.put,aK,aL,aM])
  go_wp2_with fail;go_ret2;refine ⟨?_,HE2.trans z4.out⟩
  first | rfl | (rw [<- hbb];rfl) | (simp [hbb])
theorem K4_ (F:Nat) {n k:Nat} {X:List Int} (hn:n<7) (qB:1<=n) (hR:eB n k X) (u:Value) (w:World) (h:cL w u n k X) (R:List (List Int)) (hK:ei F n k X=some R) (ht:af w) (hb:4<w.heap.size) :
  oW 35 #[u] w (.tuple #[.bool (decide (az X=0) || decide (R.length=k)),.int .i64 0]) :=
 K3_ hR u w h R.length (fun W hW=>(U5_ F hn qB hR u W (h.ext hW) R hK (ht.ext hW) (oH hb hW.size)).mono fun e w' ⟨v,h1,h2,h3⟩=>by
  obtain ⟨a4,c4,rfl,-⟩:=h2
  exact ⟨a4,c4,h1,h3⟩) ht
def fh (r:List Int):List Int:=r.map (- ·)
def gW (r:List Int) (j:Nat):List Int:=(fh r).take j++r.drop j
theorem Z43 (r:List Int) (j:Nat):(gW r j).length=r.length:=by
 unfold gW fh;rw [oU,oF,List.length_drop,List.length_map];omega
theorem Z42 (r:List Int) (j:Nat) (a:Int) (h:r[j]?=some a):(gW r j)[j]?=some a:=by
 unfold gW fh;have hj:=(n_.1 h).1;rw [oN (by rw [oF];omega),oF,List.length_map,oT];rw [show j+(j-min j r.length)=j by omega];exact h
theorem Z44 (r:List Int) (j:Nat) (a:Int) (h:r[j]?=some a):(gW r j).set j (-a)=gW r (j+1):=by
 have hj:=(n_.1 h).1;unfold gW fh;rw [oG,oE,h];have hd:r.drop j=a::r.drop (j+1):=by
  rw [List.drop_eq_getElem_cons hj];congr 1;exact (n_.1 h).2
 rw [hd,List.set_append_right _ _ (by rw [oF];omega),oF,List.length_map,show j-min j r.length=0 by omega];simp
theorem Z2e (r:List Int):gW r 0=r:=by unfold gW;simp
theorem Z41 (r:List Int) (j:Nat) (h:r.length<=j):gW r j=fh r:=by
 unfold gW fh;rw [List.take_of_length_le (by rw [List.length_map];exact h),List.drop_eq_nil_of_le h,List.append_nil]
end Go.Proofs.YtjlkkofmojgipaaGreatDoor
