import Derived.Test.YtoonaddcfakamaaGreatDoorZAS
import Derived.Test.YtoonaddcfakamaaGreatDoorZAH
import Derived.Test.YtoonaddcfakamaaGreatDoorZAN
import Derived.Test.YtoonaddcfakamaaGreatDoorZAK
set_option linter.unusedVariables false
set_option linter.unusedSimpArgs false
set_option maxRecDepth 1000000
set_option maxHeartbeats 40000000
namespace Go.Proofs.YtoonaddcfakamaaGreatDoor
open Go.RowKit Go.Maps Go.Proofs.Tryz
def Z7o (w:World) (base:Nat) (v:Value) (R:pM):Prop :=
 ∃ a c,v=.slice a R.length c/\R.length<=c/\c<=maxLen/\(R=[]\/∃ g tags,a=some ⟨g,0,none⟩/\bI w g tags R/\∀ b,dU g tags b->base<=b)
theorem aW.dropW {w:World} {g o:Nat} {xs:pN} (h:aW w g o xs) (k:Nat):aW w g (o+k) (xs.drop k) :=
 ⟨h.lt,fun j x hx=>by
  rw [pF] at hx
  rw [Nat.add_assoc];exact h.cell (k+j) x hx,h.free⟩
theorem Z3f (w:World):aN 1 numC (w.alloc (.cells #[.string ⟨#[48]⟩] 92)) (.slice (some ⟨w.heap.size,0,none⟩) 1 1) [0]:=by
 refine ⟨[[.string ⟨#[48]⟩]],rfl,by simp,⟨some ⟨w.heap.size,0,none⟩,1,rfl,oz _,by unfold maxLen;omega,(fun h=>by cases h),fun _=>⟨w.heap.size,0,rfl,by simp,fun j u hu=>?_⟩⟩,?_⟩
 ·have hj:j=0:=by have:=(od.1 hu).1;simpa using this
  subst hj;rw [World.cell?_alloc_new];exact hu
 ·intro j u x hu hx;have hj:j=0:=by have:=(od.1 hu).1;simpa using this
  subst hj;simp only [o_,Option.some.injEq] at hu hx;subst hu;subst hx;show [Value.string ⟨#[48]⟩]=[Value.string (aB 0)];rw [show aB 0=⟨#[48]⟩ by decide +kernel]
def Z7K (n k:Nat):Bool:=(aO n (k+1)).all fun s=>(List.range n).all fun i=>!(s.testBit i) || decide ((s ^^^ (1 <<< i))∈aO n k)
theorem Z54:∀ n,n<7->∀ k,k<n->Z7K n k=true:=by decide +kernel
theorem Z6r {n k s i:Nat} (hn:n<7) (hk:k<n) (hs:s∈aO n (k+1)) (hi:i<n) (hb:s.testBit i=true):(s ^^^ (1 <<< i))∈aO n k:=by
 have h:=List.all_eq_true.1 (List.all_eq_true.1 (Z54 n hn k hk) s hs) i (List.mem_range.2 hi);rw [hb,Bool.not_true,Bool.false_or,decide_eq_true_eq] at h;exact h
def Z7J:Bool:=(List.range 6).all fun i=>(List.range 64).all fun s=>!(s.testBit i) || decide (s &&& (18446744073709551615-(1 <<< i))=s ^^^ (1 <<< i))
theorem Z53:Z7J=true:=by decide +kernel
theorem Z55 {i s:Nat} (hi:i<6) (hs:s<64) (hb:s.testBit i=true):s &&& (18446744073709551615-(1 <<< i))=s ^^^ (1 <<< i):=by
 have h:=List.all_eq_true.1 (List.all_eq_true.1 Z53 i (List.mem_range.2 hi)) s (List.mem_range.2 hs);rw [hb,Bool.not_true,Bool.false_or,decide_eq_true_eq] at h;exact h
theorem L6_ (n k:Nat) (X:pN):(cJ n k X).length=n:=by unfold cJ;rw [List.length_map,List.length_range]
theorem B7_ (n k:Nat) (X:pN) (i:Nat):(iM n k X i).length=(bN n k).length+n:=by unfold iM Z5q;simp
theorem Z4P {n k i:Nat} {X:pN} (hi:i<n):(cJ n k X).take (i+1)=(cJ n k X).take i++[iM n k X i]:=by
 unfold cJ;rw [<- List.map_take,<- List.map_take,ou,List.map_append,List.getElem?_range hi];rfl
theorem g0_ {n k:Nat} (hn:n<=12) (hk:k<=n):(bN n k).length<=924:=by
 unfold bN
 split
 ·simp
 ·exact x3_ hn (by omega)
theorem Z0V {F n k:Nat} {X:pN} {R:pM} (h:jK F n k X=some R):∃ m d,fi ((bN n k).length+n) F (cJ n k X) (bN n k).length=some (m,d)/\R=(m.drop d).map (·.drop (bN n k).length):=by
 unfold jK at h;cases hc:fi ((bN n k).length+n) F (cJ n k X) (bN n k).length with
 | none=>rw [hc] at h;cases h
 | some z =>
  obtain ⟨m,d⟩:=z;rw [hc] at h;exact ⟨m,d,rfl,(o5 h).symm⟩
theorem Z5Y {n c d F:Nat} {m:pM} {R:pM×Bool} (h:dV n c d F m=some R):bH n m=true:=by
 cases F with
 | zero=>cases h
 | succ F =>
  rw [jG] at h;by_cases hk:bH n m=true;·exact hk
  ·rw [if_neg hk] at h;cases h
theorem q3_ {n c d:Nat}:∀ {F:Nat} {m m':pM} {p:Bool},dV n c d F m=some (m',p)->∀ i,i<m'.length->(aD m' i).length=n
 | 0,_,_,_,h=>by cases h
 | F+1,m,m',p,h=>by
  intro i hi;have hok:=Z5Y h;rw [jG,if_pos hok] at h;cases hb:ao c d m (m.length-d) with
  | none =>
   rw [hb] at h;simp only [Option.some.injEq,Prod.mk.injEq] at h;obtain ⟨rfl,rfl⟩:=h;exact (er hok i hi).1
  | some a =>
   rw [hb] at h;simp only at h;cases qJ:cH c d (a8 m d a) (m.length-(d+1)) with
   | none=>rw [qJ] at h;cases h
   | some r =>
    obtain ⟨m2,b⟩:=r;rw [qJ] at h;have hdl:d<m.length:=by
     by_cases e:d<m.length;·exact e
     ·rw [show m.length-d=0 by omega] at hb;cases hb
    obtain ⟨k1,k2,k3⟩:=kQ qJ (by rw [j5];omega);cases b with
    | false =>
     simp only [Option.some.injEq,Prod.mk.injEq] at h;obtain ⟨rfl,rfl⟩:=h;rw [k3 i];exact (er (u5_ hok d a) i (by rw [<- k1];exact hi)).1
    | true=>exact q3_ (F:=F) h i hi
theorem o7_ {N F:Nat} {m:pM} (hm:∀ i,i<m.length->(aD m i).length=N):∀ (C:Nat) {m1:pM} {d:Nat},fi N F m C=some (m1,d)->∀ i,i<m1.length->(aD m1 i).length=N
 | 0,m1,d,h=>by
  have h:some (m,0)=some (m1,d):=h;simp only [Option.some.injEq,Prod.mk.injEq] at h;obtain ⟨rfl,rfl⟩:=h;exact hm
 | C+1,m1,d,h=>by
  rw [kW] at h;cases hc:fi N F m C with
  | none=>rw [hc] at h;cases h
  | some z =>
   obtain ⟨m0,d0⟩:=z;rw [hc] at h;simp only at h;cases hw:dV N C d0 F m0 with
   | none=>rw [hw] at h;cases h
   | some r =>
    obtain ⟨m2,p⟩:=r;rw [hw] at h;simp only [Option.some.injEq,Prod.mk.injEq] at h;obtain ⟨rfl,-⟩:=h;exact q3_ hw
theorem Z2O (n k:Nat) (X:pN):∀ i,i<(cJ n k X).length->(aD (cJ n k X) i).length=(bN n k).length+n:=by
 intro i hi;have hg:(cJ n k X)[i]?=some (iM n k X i):=by
  rw [L6_] at hi;unfold cJ;rw [oh,List.getElem?_range hi];rfl
 rw [eO hg];exact B7_ n k X i
theorem Z23 {m:pM} {d S j:Nat} (hj:d+j<m.length):((m.drop d).map (·.drop S)).take (j+1)=((m.drop d).map (·.drop S)).take j++[(aD m (d+j)).drop S]:=by
 rw [ou,oh,pF,eL hj];rfl
def ef (k:Nat) (t:Nat×Nat×Nat):Nat×Nat×Nat:=(t.1,t.2.1+k,t.2.2-k)
theorem Z24 {tags:List (Nat×Nat×Nat)} {d S j:Nat} {t:Nat×Nat×Nat} (h:tags[d+j]?=some t):((tags.drop d).map (ef S)).take (j+1)=((tags.drop d).map (ef S)).take j++[ef S t]:=by
 rw [ou,oh,pF,h];rfl
theorem Z0E {w:World} {g:Nat} {tags:List (Nat×Nat×Nat)} {m:pM} (h:bI w g tags m) {d S j:Nat} {t:Nat×Nat×Nat} (ht:tags[d+j]?=some t):(ef S t).1∉(((tags.drop d).map (ef S)).take j).map (·.1):=by
 intro hm;obtain ⟨s,hs,e⟩:=List.mem_map.1 hm;obtain ⟨i,hi⟩:=List.getElem?_of_mem hs;have qH:i<j:=by
  have:=(od.1 hi).1;rw [om] at this;omega
 rw [List.getElem?_take_of_lt qH,oh,pF] at hi;cases hq:tags[d+i]? with
 | none=>rw [hq] at hi;cases hi
 | some q =>
  rw [hq] at hi;obtain rfl:=o5 hi;exact h.apart ht hq (by omega) e.symm
theorem g2_ (F:Nat) {n k:Nat} {X:pN} (hn:n<7) (pv:1<=n) (hR:mF n k X) (u:Value) (w:World) (h:gX w u n k X) (R:pM) (hK:jK F n k X=some R) (ht:ag w) (hb:3<w.heap.size) :
  Calls prog 150 #[u] w fun e w'=>∃ v,e=.returned v/\Z7o w' w.heap.size v R/\aA w w':=by
 obtain ⟨r,rfl,hr⟩:=h;obtain ⟨a,c,rfl,h1,h2,-,hc⟩:=ae.open (gW.of_nums hr);unfold maxLen at h2;have HC:=oZ hc;have hkn:=hR.kn;have HLEN:=oZ hR.len;have HDG:=oZ hR.dig;have HT:=oZ ht;have HPB:=oZ hb;obtain ⟨mf,df,BW,JQ⟩:=Z0V hK;have HKC:=oZ BW;have HRE:=oZ JQ;obtain ⟨mx,BR⟩:=pK X.length;have HMX:=oZ BR;rw [BR] at h1 |-;obtain ⟨w1,pt,hE1,hs1,hb1⟩:=kN w (.int .i64 n) (.int .i64 k) (.slice a mx c);have HE1:=oZ hE1;have HB1:=oZ hb1;have k1:=ah hb1;have HN:=oZ hn;obtain ⟨js,Dw⟩:∃ js,js=if k=n then n else k+1:=⟨_,rfl⟩
 have xZ:js<=n:=by rw [Dw];split <;> omega
 have HJS:=oZ Dw;have hmin:min ((k:Int)+1) (n:Int)=(js:Int):=by rw [Dw];split <;> omega
 have Cd:min (n:Int) ((k:Int)+1)=(js:Int):=by rw [Int.min_comm];exact hmin
 have Iu:IntKind.i64.wrap ((k:Int)+1)=(k:Int)+1:=by rw [IntKind.wrap_i64];omega
 have KN:Hid (∀ W,Calls prog 103 #[.int .i64 n,.int .i64 js] W (Z5t (aO n js) W)):=fun W=>j8_ n js (by omega) xZ W;have HPL:Hid (∀ W,Calls prog 102 #[.int .i64 n,.int .i64 k] W fun e w'=>∃ v,e=.returned v/\aA W w'/\iU w' v n k):=fun W=>Z1c n k hn hkn W;have HKN:=oZ hkn;clear hb1 hE1 hr hc hs1 hR BR ht hb hK BW JQ Dw
 go_enter func150,ntmps150
 go_wp2_with fail;refine (KN w1).mono ?_;rintro e w2 ⟨v2,rfl,h2,hU⟩;obtain ⟨a2,c2,rfl,qU,hc2,ph⟩:=hU.open;have HU:=oZ hU;have HE2:Hid (aA w w2):=HE1.trans h2;have HB2:=oZ (aF HB1 h2);have d0:=ah HB2 0;have d1:=ah HB2 1;simp only [pC,o9,o_] at d0 d1;clear h2 hU ph qU hc2 KN k1 pt;obtain ⟨KY,AM⟩:=pK ((aO n js).length);rw [AM] at HU |-;have HLN2:=oZ AM;clear AM hmin Cd Iu;obtain ⟨S,hS⟩:=pK ((bN n k).length);have HS:=oZ hS;rw [hS] at HKC HRE;have Nu:S<=924:=by rw [<- hS];exact g0_ (by omega) hkn
 go_upto_if 31 with fail
 go_cut [4] from 32 to 32 (fun s4 wx=>∃ a4 c4,s4=.slice a4 S c4/\wx=w2/\Hid (ky w2 (.slice a4 S c4) (bN n k)))
 case first =>
  by_cases tM:k=n
  ·have q0:((k:Int) == (n:Int))=true:=(by rw [tM];simp);have De:Hid (bN n k=[]):=if_pos tM;have GW:S=0:=(by rw [<- hS,De.out];rfl);subst GW;clear tM;go_wp2_with fail;go_meet;refine ⟨none,0,rfl,rfl,?_⟩;unfold Hid;rw [De.out];exact ⟨[],rfl,by simp,⟨none,0,rfl,oz _,Nat.zero_le _,fun _=>rfl,fun h=>absurd rfl h⟩,by simp⟩
  ·have q0:((k:Int) == (n:Int))=false:=(by simp;omega);have De:Hid (bN n k=aO n js):=(by unfold Hid bN;rw [if_neg tM,HJS.out,if_neg tM]);have GW:S=KY:=(by rw [<- hS,De.out];exact HLN2);subst GW;clear tM;go_wp2_with fail;go_meet;exact ⟨a2,c2,rfl,rfl,by unfold Hid;rw [De.out];exact HU⟩
 case rest =>
 obtain ⟨a4,c4,rfl,Kh,HU4⟩:=hcut;obtain rfl:=Kh.symm;clear HU HLN2 HJS xZ;go_wp2_with fail;refine (HPL _).mono ?_;rintro e w3 ⟨v3,rfl,h3,L1⟩;obtain ⟨b3,N3,rfl,zj⟩:=L1;have HP3:Hid (iU w3 (.map (some b3)) n k):=⟨b3,N3,rfl,zj⟩;have HE3:Hid (aA w w3):=HE2.trans h3;have HB3:=oZ (aF HB2 h3);have HU3:=oZ (HU4.ext h3);obtain ⟨L,hL⟩:=pK (bN n k);have HLK:Hid (∀ s∈L,s<2^n/\s<4096/\∀ i,i<n->s.testBit i=true->(s ^^^ (1 <<< i))∈aO n k):=by
  intro s hs;rw [<- hL] at hs;unfold bN at hs;by_cases tM:k=n;·rw [if_pos tM] at hs;cases hs
  ·rw [if_neg tM] at hs;have hn9:=HN.out;have hk9:=HKN.out;exact ⟨Z4b (by omega) (by omega) s hs,j7_ (by omega) (by omega) s hs,fun i hi hb=>Z6r hn9 (by omega) hs hi hb⟩
 have HLS:Hid (L.length=S):=by unfold Hid;rw [<- hL];exact hS
 have HLL:=oZ hL;rw [hL] at HU3;obtain ⟨a9,c9,BN,qU,hc2,ph⟩:=HU3.open;have hv9':=BN;rw [HLS.out] at hv9' qU;simp only [Value.slice.injEq] at hv9';obtain ⟨rfl,-,rfl⟩:=hv9';unfold maxLen at hc2;have HCX:=oZ ph;clear h3 zj HPL HU4 ph BN hL hS d0 d1;go_wp2_with fail
 go_loopw [6,37] (fun out t wr=>∃ (i:Nat) (tagsO:List (Nat×Nat×Nat)),i<=n/\t=.int .i64 i/\aA w3 wr/\Hid (ec wr w3.heap.size w3.heap.size out tagsO ((cJ n k X).take i))/\Hid (out=.slice none 0 0/\i=0\/∃ g q,out=.slice (some ⟨g,0,none⟩) i q)) (fun _ t _=>n-(intOf t).toNat)
 case atStart=>exact ⟨0,[],by omega,rfl,aA.refl _,ec.nil _ _ _,.inl ⟨rfl,rfl⟩⟩
 case round =>
  obtain ⟨i,tagsO,hi,rfl,hE,HL,HV⟩:=hrel;obtain ⟨wo,rfl⟩:∃ wo:World,wo=wr:=⟨_,rfl⟩;have HE:=oZ hE;by_cases hlt:i<n
  ·skip;have hi64:=Z3h i (by have:=HN.out;omega);have e1:=hi64.1;have hb46:=hi64.2;have Gw:0<=(i:Int):=by omega
   have N4:(i:Int)<=64:=(by have:=HN.out;omega);have HROW:=oZ (Z4P (k:=k) (X:=X) hlt);clear hE hi64;obtain ⟨bi,GD⟩:=pK (1 <<< i);rw [GD] at e1 hb46;have HBI:=oZ GD;clear GD;go_wp2_with fail
   go_loopw [8,42] (fun r t wq=>∃ j:Nat,j<=S/\t=.int .i64 j/\aA wo wq/\Hid (ai wq wo.heap.size 92 1 r numC ((L.map (bh n k X i)).take j))) (fun _ t _=>S-(intOf t).toNat)
   case atStart=>exact ⟨0,by omega,rfl,aA.refl _,ai.nil _ _ _ _ _⟩
   case round =>
    obtain ⟨j,hj,rfl,yY,qi⟩:=hrel;obtain ⟨wp,rfl⟩:∃ wp:World,wp=wr:=⟨_,rfl⟩;have HEq:=oZ yY;by_cases hjl:j<S
    ·skip;obtain ⟨s,hs⟩:∃ s,L[j]?=some s:=⟨L[j]'(by rw [HLS.out];exact hjl),oc _⟩;obtain ⟨b7,o7,rfl,hb7,pP⟩:=HCX (by intro e;rw [e] at hs;simp at hs);have g1:=HEq.cell (HE.cell (pP j s hs));obtain ⟨hs2,Er,rC⟩:=HLK s (og hs);have HNX:Hid ((L.map (bh n k X i)).take (j+1)=(L.map (bh n k X i)).take j++[bh n k X i s]):=by
      unfold Hid;rw [ou,oh,hs];rfl
     have HJ:Hid (((L.map (bh n k X i)).take j).length<1000000):=(by unfold Hid;rw [om];omega);have f1:(s:Int) / 2^i=((s / 2^i:Nat):Int):=(by rw [Int.natCast_ediv,Int.natCast_pow];rfl);have f2:=Z4d (i:=i) Er;obtain ⟨q,hq⟩:=pK (s / 2^i);rw [hq] at f1 f2;obtain ⟨bb,hbb⟩:∃ bb:Int,(if s.testBit i=true then 1 else 0)=bb:=⟨_,rfl⟩;rw [hbb] at f2;have HBBT:=oZ hbb;clear hbb;obtain ⟨x,hx⟩:=pK (bh n k X i s);rw [hx] at HNX;have hszq:=yY.size;have HSM:=oZ rC;clear pP hs hq hb7 rC yY
     go_upto_if 50 with fail
     go_cut [11,12] from 51 to 66 (fun KW M3 wx=>KW=.string (aB x)/\Hid (aA wp wx))
     case first =>
      cases htb:s.testBit i with
      | false =>
       have hbb:=HBBT.out;rw [htb,if_neg (by decide)] at hbb;subst hbb;have HX0:Hid (aB x=⟨#[48]⟩):=by
        unfold Hid;rw [<- hx,jt htb];decide +kernel
       clear hx htb;go_wp2_with fail;go_meet;exact ⟨by rw [HX0.out],aA.refl _⟩
      | true =>
       have hbb:=HBBT.out;rw [htb,if_pos rfl] at hbb;subst hbb;rw [jJ htb] at hx;have hin:=HSM i hlt htb;have h64:s<64:=ov hs2 (by have:2^n<=2^6:=Nat.pow_le_pow_right (by decide) (by have:=HN.out;omega);simpa using this);have hob:=Z55 (i:=i) (by have:=HN.out;omega) h64 htb;rw [HBI.out] at hob;have e3:=u64_andNot_nat s bi (by omega) (by omega);rw [hob] at e3;have hr46:=j7_ (n:=n) (k:=k) (by have:=HN.out;omega) HKN _ hin;have hpm:=(Z3n HN HKN hin).2;rw [<- HLEN.out,HMX.out] at hpm;rw [HBI.out] at hx hin;obtain ⟨rs,vR⟩:=pK (s ^^^ bi);rw [HBI.out] at hr46 hpm;rw [vR] at hx hin e3 hr46 hpm;have KD:Hid (∀ W,pI 105 #[.int .u64 (bi:Int),.int .u64 (rs:Int)] W (.bool (ep bi rs))):=fun W=>Z51 bi rs hb46 hr46 W;have BG:Hid (∀ W,aA wp W->(Instr.lookup 146 (.map (some b3)) (.int .u64 (rs:Int)) false).run prog W=.ok (.int .i64 ((cl n k rs:Nat):Int)) W):=fun W hW=>(HP3.ext ((HE.trans HEq).trans hW)).run hin hr46;obtain ⟨p,hp⟩:=pK (cl n k rs);rw [hp] at hpm BG hx;obtain ⟨y,hy⟩:∃ y,X[p]?=some y:=⟨_,oc (by rw [HMX.out];exact hpm)⟩;rw [show X.getD p 0=y by rw [oe,hy];rfl] at hx;obtain ⟨o,ho⟩:=pK (ep bi rs);rw [ho] at KD hx;obtain ⟨bx,ox,rfl,hbx,ph⟩:=HC (by intro e;rw [e] at hy;simp at hy);obtain ⟨z9,e9,g9⟩:=ph p y hy;obtain rfl:z9=.string (aB y):=e9;have hdy:=HDG y (og hy);have HSG:Hid (∀ W,pI 104 #[.string (aB y),.bool o] W (.string (aB (dZ y o)))):=fun W=>Z1p y o W (by have:=(X0_ hdy).2;omega);rw [hx] at HSG;have HLK:=BG;have z3:=HEq.cell (HE.cell (HE3.cell g9));have z2:=HEq.cell (HE.cell (ah HB3 2))
       (try simp only [pC,o9,o_] at z2)
       have E1:(p:Int)<(mx:Int):=(by omega);clear hob htb hin vR hp hy ho ph g9 hdy hx hbx h64 BG
       go_upto_region 17 with fail
       refine iq (fun w'=>w'.cell? ⟨w.heap.size,2,none⟩=some (.slice (some ⟨bx,ox,none⟩) mx c)/\w'.cell? ⟨bx,ox+p,none⟩=some (.string (aB y))/\Hid (aA wp w')) 12 (by kernel_rfl) ⟨(aA.drew wp).cell z2,(aA.drew wp).cell z3,aA.drew wp⟩ (fun pO=>?_);refine rA [0,1,2,3] ?_
       iterate 4 ((first|(refine rL (v:=?_) (by rfl) (Or.inl ⟨by rfl,?_⟩) ?_;rotate_left;·((intro w' qM);(try dsimp only at qM);(try go_simp);(try with_reducible rfl)))|(refine rW (v:=?_) (by rfl) (Or.inl ⟨by rfl,?_⟩) ?_;rotate_left;·((intro w');(try go_simp);(try with_reducible rfl))));(try simp only [Act.put,aQ,aR,aS]))
       refine rE ?_;refine tL (v:=.int .i64 (p:Int)) 4 rfl (Or.inl ⟨by rfl,?_⟩) ?_;·(intro w' qM;(try dsimp only at qM);have hlk:=HLK w' (qM.2.2.out);go_simp;(try with_reducible rfl))
       (try simp only [Act.put,aQ,aR,aS])
       refine rA [5,6,7,8,9] ?_
       iterate 5 ((first|(refine rL (v:=?_) (by rfl) (Or.inl ⟨by rfl,?_⟩) ?_;rotate_left;·((intro w' qM);(try dsimp only at qM);(try go_simp);(try with_reducible rfl)))|(refine rW (v:=?_) (by rfl) (Or.inl ⟨by rfl,?_⟩) ?_;rotate_left;·((intro w');(try go_simp);(try with_reducible rfl))));(try simp only [Act.put,aQ,aR,aS]))
       refine rE ?_;refine dH 10 (by kernel_rfl) rfl (fun K hK=>?_);go_simp
       (go_at_call 105;refine (KD _).mono ?_)
       rintro e wz ⟨rfl,pY⟩;go_wp2_with fail;refine hK _ _ ⟨(pY).cell pO.1,(pY).cell pO.2.1,aA.trans pO.2.2 (pY)⟩ (fun pO=>?_);clear hK K
       (try simp only [Act.put,aQ,aR,aS])
       refine dH 11 (by kernel_rfl) rfl (fun K hK=>?_);go_simp
       (go_at_call 104;refine (HSG _).mono ?_)
       rintro e wy ⟨rfl,pY⟩;go_wp2_with fail;refine hK _ _ ⟨(pY).cell pO.1,(pY).cell pO.2.1,aA.trans pO.2.2 (pY)⟩ (fun pO=>?_);clear hK K
       (try simp only [Act.put,aQ,aR,aS])
       have Ay:Hid (aA wp wy):=pO.2.2;refine fL 12 (by kernel_rfl) (by kernel_rfl) (by kernel_rfl) rfl (fun K hK=>?_);go_simp;refine hK _ _ ?_;clear hK K
       (try simp only [Act.put,aQ,aR,aS])
       go_wp2_with fail;go_meet;exact ⟨rfl,Ay⟩
     case rest =>
     obtain ⟨rfl,HE5⟩:=hcut;clear f1 f2;obtain ⟨w5,rfl⟩:∃ w5:World,w5=wc:=⟨_,rfl⟩;have HB5:=oZ (qi.ext HE5);have hs5:wo.heap.size<=w5.heap.size:=ow hszq HE5.size;go_wp2_with (at_builtin;go_must (refine iQ _ rfl _ _ 194 rfl wo.heap.size 92 (.string ⟨#[]⟩) 1 16 underlying194 nz rfl (by decide) u8 numC ((L.map (bh n k X i)).take j) x #[.string (aB x)] 92 rfl HB5 rfl rfl ?e1 (fun _ _=>rfl) HJ (by decide) hs5 ?_))
     case e1=>simp [Value.oneCell']
     intro v' w6 rl sU hb6 CI _;rw [<- HNX.out] at rl;have HB6:=oZ rl;have HX6:=oZ (Below.trans (HEq.trans HE5) hb6);clear rl sU hb6;go_wp2_with fail;go_roundw
     case rel=>exact ⟨j+1,by omega,by go_num,HX6,HB6⟩
     case measure=>simp [intOf];omega
    ·obtain rfl:j=S:=(by omega);have hB:=qi.out;rw [List.take_of_length_le (by rw [List.length_map,HLS.out];exact oz _)] at hB;have HBL:=oZ hB;have J7:Hid (∀ W v,aN 1 numC W v [0]->Calls prog 115 #[v,.int .i64 (n:Int)] W fun e w'=>∃ g,e=.returned (.slice (some ⟨g,0,none⟩) n n)/\w'.heap[g]?=some (.cells (cn 0 n n).toArray 92 (0,0))/\W.heap.size<=g/\aA W w'):=fun W v hv=>e3_ 0 n (by have:=HN.out;omega) v W hv;obtain ⟨wl,hwl⟩:=pK (wp.alloc (.cells #[.string ⟨#[48]⟩] 92));have HLIT:=oZ (Z3f wp);rw [hwl] at HLIT;have KK:Hid (aA wp wl):=by rw [<- hwl];exact aA.alloc _ _
     clear hB qi yY;go_wp2_with fail;refine (J7 _ _ HLIT).mono ?_;rintro e w5 ⟨gz,rfl,hbz,D1,h5⟩;have we:aW w5 gz 0 (List.replicate n 0):=(Z5f 0 n rfl).row (by simp) hbz;have y9:aB 1=⟨#[49]⟩:=(by decide +kernel);have hE2:aA wp w5:=KK.trans h5;have Cm:wp.heap.size<=gz:=ow KK.size D1;have zE:Hid (aA wp (w5.setCell ⟨gz,i,none⟩ (.string (aB 1)))):=hE2.setCell Cm _;have hRS:=we.set i (by simpa using hlt) 1;have gz1:=we.cell i 0 (by rw [List.getElem?_replicate,if_pos hlt]);have gz2:=we.free i;rw [Nat.zero_add] at gz1 hRS;rw [y9] at zE hRS;have HRZ:=oZ hRS;have HB3b:=oZ (HBL.ext zE);have hs3:=zE.size;have hs0:=HE.size;have hs1:=HEq.size;clear we hRS hE2 h5 J7 hwl HLIT hbz;go_wp2_with (at_builtin;go_must (refine R2_ _ rfl _ _ rfl wo.heap.size u8 _ _ rfl HB3b gz n n ?n1 rfl HRZ ?n2 pv ?n3 ?_))
     case n1=>simp
     case n2=>rw [List.length_map,HLS.out];have:=HN.out;omega
     case n3=>omega
     intro w4 gr cr wg hgr sW AR hb4;have HR4:Hid (aW w4 gr 0 (iM n k X i)):=(by unfold Hid iM Z5q;rw [HLL.out];exact wg);have HE4:=oZ (Below.trans (aA.trans HEq zE) hb4);have HEX:=oZ (aA.trans HE HE4);have HL4:=oZ (HL.ext HE4);have hszr:=HEX.size;have HLN:Hid ((iM n k X i).length=j+n):=(by unfold Hid;rw [B7_,HLL.out,HLS.out]);have HJ:Hid (((cJ n k X).take i).length=i):=(by unfold Hid;rw [om,L6_];omega);have HV1:Hid (u6.ownBlock≠some gr):=fun e=>by have:=(HL.own.lt gr e).2;omega
     have HN1:Hid (gr∉tagsO.map (·.1)):=fun hm=>by
      obtain ⟨t,ht,e⟩:=List.mem_map.1 hm;obtain ⟨i9,I0⟩:=List.getElem?_of_mem ht;have hl:i9<((cJ n k X).take i).length:=(by rw [<- HL.out.len];exact (od.1 I0).1);have:=(HL.row i9 t _ I0 (oc hl)).2.2.1.lt;omega
     (try rw [List.length_map] at sW)
     (try rw [List.length_map])
     rw [HLS.out] at sW |-;have HE0:Hid (#[Value.slice (some ⟨gr,0,none⟩) (j+n) cr]=#[iP (gr,0,cr) (iM n k X i).length]):=(by unfold Hid iP;rw [HLN.out]);have HCR:Hid ((iM n k X i).length<=cr):=by
      unfold Hid;rw [HLN.out];exact sW
     have HGR:Hid (w3.heap.size<=gr):=(by unfold Hid;omega);have Ho:Hid (((cJ n k X).take i).length<1000000):=(by unfold Hid;rw [HJ.out];have:=HN.out;omega);clear wg hb4 sW;go_wp2_with (at_builtin;go_must (refine Y2_ _ rfl _ _ rfl w3.heap.size w3.heap.size u6 tagsO ((cJ n k X).take i) (gr,0,cr) (iM n k X i) #[.slice (some ⟨gr,0,none⟩) (j+n) cr] 194 rfl HL4 rfl HE0 HCR AR HR4 HGR HV1 HN1 Ho hszr ?_));intro v' w6 rl hb6 IL;have rl:ec w6 w3.heap.size w3.heap.size v' (tagsO++[(gr,0,cr)]) ((cJ n k X).take (i+1)):=(by rw [HROW.out];exact rl);have HB6:=oZ rl;have HX6:=oZ (Below.trans HEX hb6);have HV6:Hid (v'=.slice none 0 0/\i+1=0\/∃ g q,v'=.slice (some ⟨g,0,none⟩) (i+1) q):=by
      obtain ⟨g,q,hv⟩:=IL.out;refine .inr ⟨g,q,?_⟩;have hj9:=HJ.out;rw [om] at hj9;rw [hv];first | rw [HJ.out] | rw [hj9] | (simp only [om];rw [hj9])
     clear rl hb6 IL;go_wp2_with fail;go_roundw
     case rel=>exact ⟨i+1,_,by omega,by go_num,HX6,HB6,HV6⟩
     case measure=>simp [intOf];omega
  ·obtain rfl:i=n:=(by omega);skip;have hL:=HL.out;rw [List.take_of_length_le (by rw [L6_];exact oz _)] at hL;rcases HV.out with ⟨-,h0⟩ | ⟨g,cc,rfl⟩
   ·omega
   have hwl:(cJ i k X).length=i:=L6_ i k X;have yX:ec wo w3.heap.size w3.heap.size (.slice (some ⟨g,0,none⟩) (cJ i k X).length cc) tagsO (cJ i k X):=by
    rw [hwl];exact hL
   obtain ⟨rU,Ct,Cs,hbb⟩:=yX.mat (oz _);rw [hwl] at Ct;have HMM:=oZ rU;have HBB:=oZ hbb;have hszw:=HE.size;have hszw3:=HE3.size;have Bq:Hid (w3.heap.size<=g):=hbb g (List.mem_cons_self ..);have HCC:Hid (i<=cc/\cc<=maxLen):=⟨Ct,Cs⟩;unfold maxLen at Cs;clear hL yX HL HV rU hbb hE;go_wp2_with fail
   go_loopw [14,87] (fun KV t wr=>∃ (c d:Nat) (m1:pM) (pW:List (Nat×Nat×Nat)),c<=S/\d<=i/\t=.int .i64 c/\KV=.int .i64 d/\Hid (aH (·=g) wo wr)/\Hid (bI wr g pW m1)/\Hid (fi (S+i) F (cJ i k X) c=some (m1,d))/\Hid (∀ t∈pW,w3.heap.size<=t.1)) (fun _ t _=>S-(intOf t).toNat)
   case atStart=>exact ⟨0,0,_,tagsO,by omega,by omega,rfl,rfl,aH.refl _ _,HMM,rfl,fun t ht=>HBB t.1 (List.mem_cons_of_mem _ (List.mem_map.2 ⟨t,ht,rfl⟩))⟩
   case round =>
    obtain ⟨c,d,m1,pW,No,sV,rfl,rfl,HG,HM1,HK1,HT1⟩:=hrel;obtain ⟨wp,rfl⟩:∃ wp:World,wp=wr:=⟨_,rfl⟩;have hml:=H5_ c HK1;rw [hwl] at hml;by_cases hcl:c<S
    ·obtain ⟨z,hz⟩:=o8_ HKC (c+1) (by omega);rw [kW,HK1.out] at hz;simp only at hz;cases vv:dV (S+i) c d F m1 with
     | none=>rw [vv] at hz;cases hz
     | some y =>
     obtain ⟨m2,p⟩:=y;rw [vv] at hz;have Jd:fi (S+i) F (cJ i k X) (c+1)=some (m2,if p then d+1 else d):=(by rw [kW,HK1.out];simp only;rw [vv]);have HK2:=oZ Jd;have hd2:=(nY vv (by omega));have JX:ag wp:=(HT.ext (HE3.trans HE)).below (HG.below (base:=w3.heap.size) HE.size (fun q hq=>by rw [hq];exact Bq)) (by have:=HPB.out;have:=HE3.size;omega);have HCO:=oZ (Q0_ (S+i) F c d m1 pW g cc wp (m2,p) HM1 vv (by rw [hml.1];exact HCC.1) HCC.2 (by rw [hml.1];exact sV) (by omega) (by omega) JX (by have:=HPB.out;have:=HE3.size;have:=Bq.out;omega));rw [hml.1] at HCO hd2;have HD2:Hid (m2.length=i/\(p=true->d<i)):=⟨hd2.1,hd2.2.1⟩;clear hz vv Jd hd2 hml JX;go_wp2_with fail;refine HCO.mono ?_;rintro e w5 ⟨qn,rfl,zi,zf,zk⟩;have HM5:=oZ zi;have HG5:Hid (aH (·=g) wo w5):=HG.trans zk;have x9:Hid (∀ t∈qn,w3.heap.size<=t.1):=fun t ht=>by
      rcases zf t ht with e | e;·exact HT1 t e
      ·have:=HG.size;omega
     clear zi zf zk HCO HM1 HT1 HK1;cases p with
     | false =>
      go_wp2_with fail;go_roundw
      case rel=>exact ⟨c+1,d,m2,qn,by omega,by omega,by go_num,rfl,HG5,HM5,HK2,x9⟩
      case measure=>simp [intOf];omega
     | true =>
      have hdl:=HD2.2 rfl;go_wp2_with fail;go_roundw
      case rel=>exact ⟨c+1,d+1,m2,qn,by omega,by omega,by go_num,by go_num,HG5,HM5,HK2,x9⟩
      case measure=>simp [intOf];omega
    ·obtain rfl:c=S:=(by omega);have hk9:=HK1.out;rw [HKC.out] at hk9;simp only [Option.some.injEq,Prod.mk.injEq] at hk9;obtain ⟨rfl,rfl⟩:=hk9;obtain ⟨w8,Ki⟩:=pL wp;obtain rfl:=Ki;obtain ⟨ld,qy⟩:=pK (i-df);have yk:mf.length=i:=hml.1;have HRL:Hid (R.length=ld):=(by unfold Hid;rw [HRE.out,List.length_map,List.length_drop,yk];exact qy);obtain ⟨cd,vD⟩:=pK (cc-df);obtain ⟨oq,CV,Ih⟩:∃ oq,(if cc=df then (some ⟨g,0,none⟩:Option Addr) else some ⟨g,df,none⟩)=some ⟨g,oq,none⟩/\(df<i->oq=df):=by
      by_cases I8:cc=df;·exact ⟨0,if_pos I8,fun h=>by have:=HCC.1;omega⟩
      ·exact ⟨df,if_neg I8,fun _=>rfl⟩
     have HOQ:=oZ Ih;have N2:(df:Int)<=(i:Int):=(by omega);have c72:(df:Int)<=(cc:Int):=(by have:=HCC.1;omega);have N1:(0:Int)<=(df:Int):=(by omega);have LX:df<=cc:=(by have:=HCC.1;omega);have HOK2:Hid (∀ j,j<i->(aD mf j).length=c+i):=by
      have h9:=o7_ (N:=c+i) (F:=F) (m:=cJ i k X) (fun j hj=>by rw [Z2O i k X j hj,HLL.out,HLS.out]) c HKC;rw [yk] at h9;exact h9
     have HML:Hid (mf.length=i):=yk;have HE8:Hid (aA w w8):=by
      have h8:Below w3.heap.size wo w8:=HG.below (base:=w3.heap.size) HE.size (fun q hq=>by rw [hq];exact Bq);exact Below.trans (HE3.trans HE) (Below.mono h8 HE3.size)
     have Md:Hid (w3.heap.size<=w8.heap.size):=ow HE.size HG.size;have MY:Hid (w.heap.size<=w3.heap.size):=HE3.size;obtain ⟨MM,rU⟩:=pK ((mf.drop df).map (·.drop c));obtain ⟨TT,C3⟩:=pK ((pW.drop df).map (ef c));have He:Hid (∀ j,df+j<mf.length->MM.take (j+1)=MM.take j++[(aD mf (df+j)).drop c]):=fun j hj=>by rw [<- rU];exact Z23 hj
     have Hf:Hid (∀ j t,pW[df+j]?=some t->TT.take (j+1)=TT.take j++[ef c t]):=fun j t ht=>by rw [<- C3];exact Z24 ht
     have Ht:Hid (∀ j t,pW[df+j]?=some t->(ef c t).1∉(TT.take j).map (·.1)):=fun j t ht=>by rw [<- C3];exact Z0E HM1 ht
     have Hj:Hid (MM.length=ld):=(by unfold Hid;rw [<- rU,List.length_map,List.length_drop,HML.out];exact qy);have Hi:Hid (MM=R):=(by unfold Hid;rw [<- rU];exact HRE.symm);clear Ih hml yk HG HKC HK1 rU C3 HRE;go_wp2_with fail
     go_loopw [16,101] (fun out t wr=>∃ (j:Nat),j<=ld/\t=.int .i64 j/\Hid (aA w8 wr)/\Hid (ec wr w8.heap.size w3.heap.size out (TT.take j) (MM.take j))/\Hid (out=.slice none 0 0/\j=0\/∃ g q,out=.slice (some ⟨g,0,none⟩) j q)) (fun _ t _=>ld-(intOf t).toNat)
     case atStart=>exact ⟨0,by omega,rfl,aA.refl _,ec.nil _ _ _,.inl ⟨rfl,rfl⟩⟩
     case round =>
      obtain ⟨j,hj,rfl,HX,HL,HV⟩:=hrel;obtain ⟨wq,rfl⟩:∃ wq:World,wq=wr:=⟨_,rfl⟩;by_cases hjl:j<ld
      ·obtain ⟨t,ht,c1,c2,c3,c4,c5⟩:=(HM1.ext HX).get (df+j) (by rw [HML.out];omega);have ht8:=HT1 t (og ht);have hob:t.1<w8.heap.size:=HM1.blt (List.mem_cons_of_mem _ (List.mem_map.2 ⟨t,og ht,rfl⟩));obtain rfl:oq=df:=HOQ (by omega);rw [HOK2.out (oq+j) (by omega)] at c1 c2;have HNX:=oZ (He j (by rw [HML.out];omega));have HNT:=oZ (Hf j _ ht);have HFR:=oZ (Ht j _ ht);have HRW:Hid (aW wq (ef c t).1 (ef c t).2.1 ((aD mf (oq+j)).drop c)):=c4.dropW c;have BB:Hid (((aD mf (oq+j)).drop c).length=i):=(by unfold Hid;rw [List.length_drop,HOK2.out (oq+j) (by omega)];omega);have KM:Hid (i<=(ef c t).2.2/\(ef c t).2.2<=maxLen):=by
        have h9:(ef c t).2.2=t.2.2-c:=rfl;unfold Hid;rw [h9];omega
       have G5:Hid (u16.ownBlock≠some (ef c t).1):=fun e=>by
        have h9:=(HL.own.lt _ e).1;have h10:(ef c t).1=t.1:=rfl;omega
       have HBS:Hid (w3.heap.size<=(ef c t).1):=ht8;have wR:Hid ((MM.take j).length=j):=(by unfold Hid;rw [om,Hj.out];omega);have Hn:Hid ((MM.take j).length<1000000):=(by unfold Hid;rw [wR.out];have:=HN.out;omega);obtain ⟨bt,ot,ct⟩:=t;simp only at c1 c2 c3;have Lc:¬ ct=c:=(by omega);have Lb:(c:Int)<=((c+i:Nat):Int):=(by omega);have La:(c:Int)<=(ct:Int):=(by omega);have HE0:Hid (#[Value.slice (some ⟨bt,ot+c,none⟩) i (ct-c)]=#[iP (ef c (bt,ot,ct)) ((aD mf (oq+j)).drop c).length]):=(by unfold Hid iP;rw [BB.out];rfl);have HR1:Hid (((aD mf (oq+j)).drop c).length<=(ef c (bt,ot,ct)).2.2):=(by unfold Hid;rw [BB.out];exact KM.1);unfold maxLen at c3;have hszr:w8.heap.size<=wq.heap.size:=HX.size;have c9:c+i-c=i:=(by omega);have xZ:(j:Int)<(ld:Int):=(by omega);obtain ⟨rj,BO⟩:=pK ((aD mf (oq+j)).drop c);rw [BO] at HNX HRW BB HE0 HR1;clear ht c4 c5 ht8 hob BO;go_wp2_with (at_builtin;go_must (refine Y2_ _ rfl _ _ rfl w8.heap.size w3.heap.size u16 (TT.take j) (MM.take j) (ef c (bt,ot,ct)) rj #[.slice (some ⟨bt,ot+c,none⟩) i (ct-c)] 194 rfl HL rfl HE0 HR1 KM.2 HRW HBS G5 HFR Hn hszr ?_));intro v' w5 pf hb5 vI;rw [<- HNX.out,<- HNT.out] at pf;have HB5:=oZ pf;have HX5:Hid (aA w8 w5):=Below.trans HX hb5;have HV5:Hid (v'=.slice none 0 0/\j+1=0\/∃ g q,v'=.slice (some ⟨g,0,none⟩) (j+1) q):=by
        obtain ⟨g,q,hv⟩:=vI.out;refine .inr ⟨g,q,?_⟩;have hj9:=wR.out;rw [om] at hj9;rw [hv];first | rw [wR.out] | rw [hj9] | (simp only [om];rw [hj9])
       clear pf hb5 vI;go_wp2_with fail;go_roundw
       case rel=>exact ⟨j+1,by omega,by go_num,HX5,HB5,HV5⟩
       case measure=>simp [intOf];omega
      ·obtain rfl:j=ld:=(by omega);have HF:Hid (Z7o wq w.heap.size u16 R):=by
        have hL:=HL.out;have e1:MM.take j=R:=by
         rw [Hi.out];exact List.take_of_length_le (by rw [HRL.out];exact oz _)
        rw [e1] at hL;rcases HV.out with ⟨hv,h0⟩ | ⟨gq,q,hv⟩
        ·refine ⟨none,0,by rw [hv,HRL.out,h0],by rw [HRL.out,h0];exact oz _,Nat.zero_le _,.inl (List.eq_nil_of_length_eq_zero (by rw [HRL.out];exact h0))⟩
        ·rw [hv] at hL;have L5:ec wq w8.heap.size w3.heap.size (.slice (some ⟨gq,0,none⟩) R.length q) (TT.take j) R:=(by rw [HRL.out];exact hL);obtain ⟨m1,m2,m3,m4⟩:=L5.mat Md;exact ⟨_,q,by rw [hv,HRL.out],m2,m3,.inr ⟨gq,_,rfl,m1,fun b hb=>ow MY (m4 b hb)⟩⟩
       have HE9:Hid (aA w wq):=HE8.trans HX;clear HL HV;go_wp2_with fail;go_ret;exact ⟨_,rfl,HF,HE9⟩
theorem Z1y {n c d F:Nat} {m m3:pM} {p:Bool} (h:db n c d F m=some (m3,p)):(p=false/\dV n c d F m=some (m3,false))\/(p=true/\∃ m2,dV n c d F m=some (m2,true)/\bH n m2=true/\upW c d m2=some m3):=by
 rw [k8_] at h;cases hc:dV n c d F m with
 | none=>rw [hc] at h;cases h
 | some z =>
  obtain ⟨m2,b⟩:=z;rw [hc] at h;cases b with
  | false =>
   simp only [Option.some.injEq,Prod.mk.injEq] at h;obtain ⟨rfl,rfl⟩:=h;exact .inl ⟨rfl,rfl⟩
  | true =>
   simp only at h;by_cases hk:bH n m2=true
   ·rw [if_pos hk] at h;cases hu:upW c d m2 with
    | none=>rw [hu] at h;cases h
    | some m4 =>
     rw [hu] at h;simp only [Option.some.injEq,Prod.mk.injEq] at h;obtain ⟨rfl,rfl⟩:=h;exact .inr ⟨rfl,m2,rfl,hk,hu⟩
   ·rw [if_neg hk] at h;cases h
theorem Z6j {r:pN} (h:r.all bU=true):(dP r).all bU=true:=by
 unfold dP;rw [List.all_map,List.all_eq_true];rw [List.all_eq_true] at h;intro x hx;have:=(m_ x).1 (h x hx);show bU (-x)=true;rw [m_,Int.natAbs_neg];exact this
theorem Z6o {n:Nat} {m:pM} (h:bH n m=true) (i:Nat) (r:pN) (h1:r.length=n) (h2:r.all bU=true):bH n (m.set i r)=true:=by
 unfold bH at h |-;rw [List.all_eq_true] at h |-;intro x hx;rcases List.mem_or_eq_of_mem_set hx with hx | hx;·exact h x hx
 ·rw [hx,Bool.and_eq_true,decide_eq_true_iff];exact ⟨h1,h2⟩
theorem Z2o (n F:Nat) (m:pM) (tags:List (Nat×Nat×Nat)) (g0 cap base:Nat) (w:World) (R:pM×Nat) (hM:bI w g0 tags m) (hok:cB n F n 0 0 m=some R)
  (qY:m.length<=cap) (qD:cap<=maxLen) (hn:n<=1000000) (ht:ag w) (hb:3<base) (hg:∀ b,dU g0 tags b->base<=b) (sG:base<=w.heap.size) :
  Calls prog 151 #[.slice (some ⟨g0,0,none⟩) m.length cap,.int .i64 n] w fun e w'=>∃ tags',e=.returned (.tuple #[])/\bI w' g0 tags' R.1/\R.1.length=m.length/\Below base w w':=by
 have HM:=oZ hM;have HOK:=oZ hok;have HT:=oZ ht;have HB:=oZ hb;have zD:Hid (base<=g0):=hg g0 (List.mem_cons_self ..);have wh:Hid (∀ W,Below base w W->ag W):=fun W hW=>ht.below hW hb;have G8:Hid (∀ t∈tags,base<=t.1):=fun t ht=>hg t.1 (List.mem_cons_of_mem _ (List.mem_map.2 ⟨t,ht,rfl⟩));unfold maxLen at qD;obtain ⟨L,hL⟩:=pK m.length;rw [hL] at qY |-;have HL:=oZ hL;clear hM hok ht hb hg hL
 go_enter func151,ntmps151
 go_wp2_with fail
 go_loopw [4,5] (fun sd sc wr=>∃ (c d:Nat) (m1:pM) (pW:List (Nat×Nat×Nat)),c<=n/\d<=L/\sc=.int .i64 c/\sd=.int .i64 d/\Hid (Below base w wr)/\Hid (bI wr g0 pW m1)/\Hid (m1.length=L)/\Hid (cB n F (n-c) c d m1=some R)/\Hid (∀ t∈pW,base<=t.1)) (fun _ sc _=>n-(intOf sc).toNat)
 case atStart=>exact ⟨0,0,m,tags,by omega,by omega,rfl,rfl,Below.refl _ _,HM,HL,HOK,G8⟩
 case round =>
  obtain ⟨c,d,m1,pW,hc,hd,rfl,rfl,HG,HM1,HL1,HC,HT1⟩:=hrel;obtain ⟨w2,rfl⟩:∃ w2:World,w2=wr:=⟨_,rfl⟩;by_cases hlt:c<n/\d<L
  ·obtain ⟨zT,qy⟩:=hlt;obtain ⟨q,hq⟩:∃ q,n-c=q+1:=⟨n-c-1,by omega⟩;have hC:=HC.out;rw [hq] at hC;unfold cB at hC;rw [if_pos (by rw [HL1.out];exact qy)] at hC;cases hsw:db n c d F m1 with
   | none=>rw [hsw] at hC;cases hC
   | some r =>
   obtain ⟨m3,p⟩:=r;rw [hsw] at hC;have HC2:Hid (cB n F q (c+1) (if p then d+1 else d) m3=some R):=hC;have HQ:Hid (n-(c+1)=q):=(by unfold Hid;omega);have Nx:g0<w2.heap.size:=HM1.lt;have Dr:3<g0:=ov HB zD;have hPW2:=wh w2 HG;rcases Z1y hsw with ⟨rfl,vv⟩ | ⟨rfl,m2,vv,rH,hup⟩
   ·have HCO:=oZ (Q0_ n F c d m1 pW g0 cap w2 (m3,false) HM1 vv (by rw [HL1.out];exact qY) (by unfold maxLen;exact qD) (by rw [HL1.out];exact hd) zT hn hPW2 Dr);have hcl:=nY vv (by rw [HL1.out];exact hd);rw [HL1.out] at HCO hcl;have HL3:Hid (m3.length=L):=hcl.1;clear hsw hC hq vv hPW2 Dr hcl HC;go_wp2_with fail;refine HCO.mono ?_;rintro e w5 ⟨qn,rfl,zi,zf,zk⟩;have HM5:=oZ zi;have HG5:Hid (Below base w w5):=HG.trans (zk.below (base:=base) (by have:=zD.out;omega) (fun k hk=>by rw [hk];exact zD));have x9:Hid (∀ t∈qn,base<=t.1):=fun t ht=>by
     rcases zf t ht with e | e;·exact HT1 t e
     ·have:=zD.out;omega
    clear zi zk zf HCO;go_wp2_with fail;go_roundw
    case rel=>exact ⟨c+1,d,m3,qn,by omega,by omega,by go_num,rfl,HG5,HM5,HL3,by unfold Hid;rw [HQ.out];exact HC2,x9⟩
    case measure=>simp [intOf];omega
   ·have HCO:=oZ (Q0_ n F c d m1 pW g0 cap w2 (m2,true) HM1 vv (by rw [HL1.out];exact qY) (by unfold maxLen;exact qD) (by rw [HL1.out];exact hd) zT hn hPW2 Dr);have hcl:=nY vv (by rw [HL1.out];exact hd);rw [HL1.out] at HCO hcl;have HL3:Hid (m2.length=L):=hcl.1;have HOK2:=oZ rH;have HUP:=oZ hup;clear hsw hC hq vv hPW2 Dr hcl HC rH hup;go_wp2_with fail;refine HCO.mono ?_;rintro e w5 ⟨qn,rfl,zi,zf,zk⟩;have HM5:=oZ zi;have HG5:Hid (Below base w w5):=HG.trans (zk.below (base:=base) (by have:=zD.out;omega) (fun k hk=>by rw [hk];exact zD));have x9:Hid (∀ t∈qn,base<=t.1):=fun t ht=>by
     rcases zf t ht with e | e;·exact HT1 t e
     ·have:=zD.out;omega
    clear zi zk zf HCO;obtain ⟨tp,sQ,p1,p2,p3,p6,p4,p5,vK,hyl,Kc⟩:=HM5.elem HOK2 d c (by rw [HL3.out];exact qy) zT;have hys:=(er HOK2 d (by rw [HL3.out];exact qy)).2;have HSG:=oZ (fun W=>mz (aC m2 d c) W);have HTP:=oZ sQ;have HP4:=oZ p4;have HYS:=oZ hys;have H7:Hid (base<=tp.1):=x9 tp (og sQ);have Mb:Hid (tp.1≠g0):=p5;obtain ⟨yr,hyr⟩:=pK (aD m2 d);obtain ⟨y0,rp⟩:=pK (aC m2 d c);have zC:Hid (dC c d (if y0<0 then m2.set d (dP yr) else m2) d=some m3):=by
     have:=HUP.out;unfold upW at this;rw [rp,hyr] at this;exact this
    rw [hyr] at hyl HP4 HYS;rw [rp] at p6 HSG;have HYR:=oZ hyr;have HYL:=oZ hyl;unfold maxLen at p3;clear sQ p4 hys hyr rp Kc vK HUP p5;obtain ⟨mN,hmN⟩:=pK ((if y0<0 then m2.set d (dP yr) else m2));rw [hmN] at zC;have HMN:=oZ hmN;clear hmN;go_wp2_with fail;refine (HSG _).mono ?_;rintro e w' ⟨rfl,rfl⟩;clear HSG
    go_upto_if 37 with fail
    obtain ⟨bn,yy⟩:=pK (decide (y0<0));rw [yy];have HBN:=oZ yy;clear yy
    go_cut [7] from 38 to 51 (fun s7 wx=>Hid (bI wx g0 qn mN)/\Hid (Below base w wx))
    case first =>
     as_aux_lemma =>
     cases bn with
     | true =>
      have hneg:=of_decide_eq_true HBN;have Hp:Hid (mN=m2.set d (dP yr)):=(by unfold Hid;rw [<- HMN.out];exact if_pos hneg);clear hneg;go_wp2_with fail
      go_loopw [40] (fun t wr=>∃ j:Nat,j<=n/\t=.int .i64 j/\Hid (aH (·=tp.1) w5 wr)/\Hid (aW wr tp.1 tp.2.1 (fm yr j))) (fun t _=>n-(intOf t).toNat)
      case atStart=>exact ⟨0,by omega,rfl,aH.refl _ _,by rw [m1_];exact HP4⟩
      case round =>
       obtain ⟨j,hj,rfl,HGN,Bl⟩:=hrel;obtain ⟨wo,rfl⟩:∃ wo:World,wo=wr:=⟨_,rfl⟩;by_cases hjl:j<n
       ·obtain ⟨a,tB⟩:∃ a,yr[j]?=some a:=⟨yr[j]'(by rw [HYL.out];exact hjl),oc _⟩;have g1:=Bl.cell j a (Z01 yr j a tB);have HNG:Hid (∀ W,pI 111 #[.string (aB a)] W (.string (aB (-a)))):=fun W=>lf a W (by have:=(eG (List.all_eq_true.1 HYS a (og tB))).size;omega);have HSET:Hid (∀ W,aA wo W->aW (W.setCell ⟨tp.1,tp.2.1+j,none⟩ (.string (aB (-a)))) tp.1 tp.2.1 (fm yr (j+1))):=fun W hE=>by
         rw [<- Z03 yr j a tB];exact (Bl.ext hE).set j (by rw [Z02,HYL.out];exact hjl) _
        clear tB;go_wp2_with fail;refine (HNG _).mono ?_;rintro e w6 ⟨rfl,h6⟩;have HE6:=oZ h6;have g6:=h6.cell g1;have f6:=(Bl.ext h6).free (tp.2.1+j);clear h6 HNG;go_wp2_with fail;go_roundw
        case rel=>exact ⟨j+1,by omega,by go_num,(HGN.ext HE6).setCell rfl _ _,HSET _ HE6⟩
        case measure=>simp [intOf];omega
       ·obtain rfl:j=n:=(by omega);have HF:Hid (aW wo tp.1 tp.2.1 (dP yr)):=by
         unfold Hid;rw [<- Z00 yr j (by rw [HYL.out];exact oz _)];exact Bl
        go_wp2_with fail;go_meet;rw [Hp.out];exact ⟨HM5.setRow d (by rw [HL3.out];exact qy) tp HTP (dP yr) (by rw [HYR.out];unfold dP;rw [List.length_map]) HGN HF,HG5.trans (HGN.below (base:=base) (ow sG HG5.size) (fun k hk=>by rw [hk];exact H7))⟩
     | false =>
      have hneg:=of_decide_eq_false HBN;have Hp:Hid (mN=m2):=(by unfold Hid;rw [<- HMN.out];exact if_neg hneg);clear hneg;go_wp2_with fail;go_meet;rw [Hp.out];exact ⟨HM5,HG5⟩
    case rest =>
    obtain ⟨HM6,HG6⟩:=hcut;obtain ⟨w6,rfl⟩:∃ w6:World,w6=wc:=⟨_,rfl⟩;have hmN:=HMN.out;have HLN:Hid (mN.length=L):=by
     unfold Hid;rw [<- hmN];split;·rw [List.length_set];exact HL3
     ·exact HL3
    have HOKN:Hid (bH n mN=true):=by
     unfold Hid;rw [<- hmN];split;·exact Z6o HOK2 d _ (by unfold dP;rw [List.length_map];exact HYL) (Z6j HYS)
     ·exact HOK2
    clear hmN HMN HM5 HG5 HP4 p6 p1 HYS HYR HOK2;go_wp2_with fail
    go_loopw [53] (fun si wr=>∃ (i4:Nat) (mj:pM) (tj:List (Nat×Nat×Nat)),i4<=d/\si=.int .i64 i4/\Hid (aH (·=g0) w6 wr)/\Hid (bI wr g0 tj mj)/\Hid (dC c d mN i4=some mj)/\Hid (∀ t∈tj,base<=t.1)/\Hid (tj[d]?=some tp)) (fun si _=>d-(intOf si).toNat)
    case atStart=>exact ⟨0,mN,qn,by omega,rfl,aH.refl _ _,HM6,rfl,x9,HTP⟩
    case round =>
     obtain ⟨i4,mj,tj,Av,rfl,q9,rV,qS,HTJ,HTD⟩:=hrel;obtain ⟨w4,rfl⟩:∃ w4:World,w4=wr:=⟨_,rfl⟩;obtain ⟨tF,r8,wA⟩:=oX qS Av (by rw [HLN.out];omega);have qh:Hid (mj.length=L):=(by unfold Hid;rw [tF];exact HLN);have DW:Hid (∀ W,aA w4 W->ag W):=fun W hW=>(wh w6 HG6 |>.below (q9.below (base:=base) (ow sG HG6.size) (fun k hk=>by rw [hk];exact zD)) HB).ext hW;by_cases DG:i4<d
     ·skip;obtain ⟨z,sP⟩:=s6_ zC (i4+1) (by omega);obtain ⟨mj',nr,e1,qW,pg,e2⟩:=nE sP;rw [qS.out] at e1;obtain rfl:=o5 e1;have ru:(aD mj i4).length=n/\(aD mj i4).all bU=true:=by
       rw [r8 i4 (by omega)];exact er HOKN i4 (by rw [HLN.out];omega)
      have tC:(aD mj d).length=n/\(aD mj d).all bU=true:=by
       rw [r8 d (by omega)];exact er HOKN d (by rw [HLN.out];omega)
      have HST:Hid (dC c d mN (i4+1)=some (mj.set i4 nr)):=(by unfold Hid;rw [sP,e2]);have hzz:=a4_ pg (by rw [ru.1,tC.1]) ru.2 tC.2;obtain ⟨rfl,CO,xJ⟩:=hzz;clear sP e1 e2 tF r8 wA pg;obtain ⟨t4,s6,b1,b2,b3,b4,b5⟩:=rV.get i4 (by rw [qh.out];omega);obtain ⟨tp',sQ,q1,q2,q3,q4,q5⟩:=rV.get d (by rw [qh.out];omega);obtain rfl:tp=tp':=o5 (HTD.symm.trans sQ);have ex:(aD mj i4)[c]?=some (aC mj i4 c):=by
       unfold aC;rw [oe,oc (by rw [ru.1];exact zT)];rfl
      have ey:(aD mj d)[c]?=some (aC mj d c):=by
       unfold aC;rw [oe,oc (by rw [tC.1];exact zT)];rfl
      have b6:=b4.cell c _ ex;have p6:=q4.cell c _ ey;have sK:Sz (aC mj i4 c):=eG (List.all_eq_true.1 ru.2 _ (og ex));have vK:Sz (aC mj d c):=eG (List.all_eq_true.1 tC.2 _ (og ey));have HDM:Hid (∀ W,aA w4 W->pI 112 #[.string (aB (aC mj i4 c)),.string (aB (aC mj d c))] W (.tuple #[.string (aB (aL (aC mj i4 c) (aC mj d c))),.string (aB (bF (aC mj i4 c) (aC mj d c))),.int .i64 0])):=fun W hW=>lB (aC mj i4 c) (aC mj d c) W sK vK qW (DW W hW);have xK:∀ a∈aD mj i4,(aB a).size<=2800000000:=fun a ha=>by have:=(eG (List.all_eq_true.1 ru.2 a ha)).size;omega
      have hll:(aD mj d).length=(aD mj i4).length:=(by rw [ru.1,tC.1]);rw [ru.1] at b1 b2;rw [tC.1] at q1 q2;have HLS:Hid (∀ W,aA w4 W->Calls prog 235 #[.slice (some ⟨t4.1,t4.2.1,none⟩) n t4.2.2,.slice (some ⟨tp.1,tp.2.1,none⟩) n tp.2.2,.string (aB (aL (aC mj i4 c) (aC mj d c)))] W fun e w'=>e=.returned (.slice (some ⟨W.heap.size,0,none⟩) n n)/\aA W w'/\aW w' W.heap.size 0 (aU (aL (aC mj i4 c) (aC mj d c)) (aD mj i4) (aD mj d))):=fun W hW=>by
       have h9:=N3_ (aL (aC mj i4 c) (aC mj d c)) (aD mj i4) (aD mj d) t4.1 t4.2.1 t4.2.2 tp.1 tp.2.1 tp.2.2 W (b4.ext hW) (q4.ext hW) hll CO xK xJ (by rw [ru.1];exact b2) b3 (by rw [tC.1];exact q2) q3 (by rw [ru.1];exact hn) (DW W hW);rw [ru.1,tC.1] at h9;exact h9
      have An:(aU (aL (aC mj i4 c) (aC mj d c)) (aD mj i4) (aD mj d)).length=n:=(by rw [eX];exact ru.1);unfold maxLen at b3;obtain ⟨nr,CZ⟩:=pK (aU (aL (aC mj i4 c) (aC mj d c)) (aD mj i4) (aD mj d));rw [CZ] at HLS An HST;obtain ⟨xe,sZ⟩:=pK (aC mj i4 c);obtain ⟨ye,rp⟩:=pK (aC mj d c);rw [sZ] at b6 HDM HLS;rw [rp] at p6 HDM HLS;have HNL:=oZ An;have BE:Hid (i4<mj.length):=(by unfold Hid;rw [qh.out];omega);have LR:(i4:Int)<(L:Int):=(by omega);have f1:=rV.free i4;have HQ4:=oZ q4;have Lf:(c:Int)<(n:Int):=(by omega);clear CZ sZ rp ex ey sK vK s6 sQ b4 b5 q4 q5 qW ru tC CO xJ xK hll An zC HOKN q1
      go_upto_region 15 with fail
      refine W6_ (fun w'=>w'.cell? ⟨g0,i4,none⟩=some (.slice (some ⟨t4.1,t4.2.1,none⟩) n t4.2.2)/\w'.cell? ⟨t4.1,t4.2.1+c,none⟩=some (.string (aB xe))/\w'.cell? ⟨tp.1,tp.2.1+c,none⟩=some (.string (aB ye))/\Hid (aA w4 w')) 19 19 (by kernel_rfl) (by kernel_rfl) ⟨(aA.drew w4).cell b1,(aA.drew w4).cell b6,(aA.drew w4).cell p6,aA.drew w4⟩ (fun ops hO pO=>?_);refine rA [0,1,2,3,4,5,6,7,8,9,10] ?_
      iterate 11 (refine rS hO (by decide) fun o h=>?_;(conv at h=>lhs;whnf);subst h;(refine rY hO (v:=?_) (Or.inl ⟨by rfl,?_⟩) ?_;rotate_left;·((intro w' qM);(try dsimp only at qM);(try go_simp);(try with_reducible rfl)));(try simp only [Act.put,aQ,aR,aS]))
      refine rE ?_;have hi:=iJ hO 11 (by decide)
      conv at hi=>rhs;arg 1;whnf
      refine V0_ hO 11 (by kernel_rfl) hi (fun K hK=>?_);go_simp
      (go_at_call 112;refine (HDM _ (pO.2.2.2)).mono ?_)
      rintro e w5 ⟨rfl,pY⟩;go_wp2_with fail;refine hK _ _ ⟨(pY).cell pO.1,(pY).cell pO.2.1,(pY).cell pO.2.2.1,aA.trans pO.2.2.2 (pY)⟩ (fun pO=>?_);clear hK K hi
      (try simp only [Act.put,aQ,aR,aS])
      refine rA [12,13,14,15,16,17] ?_
      iterate 6 (refine rS hO (by decide) fun o h=>?_;(conv at h=>lhs;whnf);subst h;(refine rX hO (v:=?_) (Or.inl ⟨by rfl,?_⟩) ?_;rotate_left;·((intro w');(try go_simp);(try with_reducible rfl)));(try simp only [Act.put,aQ,aR,aS]))
      refine rE ?_;have HE5:Hid (aA w4 w5):=pO.2.2.2;have hi:=iJ hO 18 (by decide)
      conv at hi=>rhs;arg 1;whnf
      refine D3_ hO 18 (by kernel_rfl) (by kernel_rfl) hi (fun K hK=>?_);go_simp;refine hK _ _ (by assumption) ?_;clear hK K hi hO
      (try simp only [Act.put,aQ,aR,aS])
      have b7:=HE5.cell b1;have HLS5:=oZ (HLS w5 HE5);clear HDM HLS b1 b6 p6;go_wp2_with fail;refine HLS5.mono ?_;rintro e w8 ⟨rfl,h8,Bc⟩;have HE8:Hid (aA w4 w8):=HE5.trans h8;have HR8:=oZ Bc;have q8:=h8.cell b7;have f8:=(rV.ext HE8).free i4;have HM9:=oZ (rV.newRow i4 BE (w5.heap.size,0,n) nr HE8 Bc HE5.size (by rw [HNL.out];exact oz _) (by show n<=maxLen;unfold maxLen;omega));rw [HNL.out] at HM9;have HG9:=oZ ((q9.ext HE8).setCell (g:=g0) rfl i4 (.slice (some ⟨w5.heap.size,0,none⟩) n n));have DR:Hid (∀ t∈tj.set i4 (w5.heap.size,0,n),base<=t.1):=fun t ht=>by
       rcases List.mem_or_eq_of_mem_set ht with h | h;·exact HTJ t h
       ·rw [h];have h9:=HE5.size;have h10:=q9.size;have h11:=HG6.size;show base<=w5.heap.size;omega
      have G9:Hid ((tj.set i4 (w5.heap.size,0,n))[d]?=some tp):=(by unfold Hid;rw [pH,if_neg (by omega)];exact HTD);clear h8 Bc b7 HLS5;go_wp2_with fail;go_roundw
      case rel=>exact ⟨i4+1,mj.set i4 nr,_,by omega,by go_num,HG9,HM9,HST,DR,G9⟩
      case measure=>simp [intOf];omega
     ·obtain rfl:i4=d:=(by omega);have ym:mj=m3:=by
       have h9:=qS.out;rw [zC.out] at h9;exact (o5 h9).symm
      subst ym;have HG7:Hid (Below base w w4):=HG6.trans (q9.below (base:=base) (ow sG HG6.size) (fun k hk=>by rw [hk];exact zD));go_wp2_with fail;go_roundw
      case rel=>exact ⟨c+1,i4+1,mj,tj,by omega,by omega,by go_num,by go_num,HG7,rV,qh,by unfold Hid;rw [HQ.out];exact HC2,HTJ⟩
      case measure=>simp [intOf];omega
  ·have hR:(m1,d)=R:=by
    have hC:=HC.out;by_cases vN:c<n
    ·obtain ⟨q,hq⟩:∃ q,n-c=q+1:=⟨n-c-1,by omega⟩;rw [hq] at hC;unfold cB at hC;rw [if_neg (by rw [HL1.out];omega)] at hC;exact o5 hC
    ·rw [show n-c=0 by omega] at hC;exact o5 hC
   have HF:Hid (bI w2 g0 pW R.1/\R.1.length=L):=(by rw [<- hR];exact ⟨HM1,HL1⟩);clear hR HC HM1 HL1;by_cases vN:c<n
   ·have LY:¬ d<L:=fun h=>hlt ⟨vN,h⟩;clear hlt;go_wp2_with fail;refine bodyPost_end (results_none rfl _ _ _) rfl ⟨pW,rfl,HF.1,HF.2,HG⟩
   ·clear hlt;go_wp2_with fail;refine bodyPost_end (results_none rfl _ _ _) rfl ⟨pW,rfl,HF.1,HF.2,HG⟩
theorem Z2p (n c:Nat) (a:Option Addr) (w:World) (hn:n<=1000000):pI 151 #[.slice a 0 c,.int .i64 n] w (.tuple #[]):=by
 go_enter func151,ntmps151
 go_wp2_with fail
 go_loopw [4,5] (fun sd sc wr=>sd=.int .i64 0/\sc=.int .i64 0/\w=wr) (fun _ _ _=>0)
 case atStart=>exact ⟨rfl,rfl,rfl⟩
 case round =>
  obtain ⟨rfl,rfl,rfl⟩:=hrel;by_cases h0:0<n
  ·have h1:(0:Int)<(n:Int):=(by omega);go_wp2_with fail;refine bodyPost_end (results_none rfl _ _ _) rfl ⟨rfl,aA.refl _⟩
  ·have h1:¬ (0:Int)<(n:Int):=(by omega);go_wp2_with fail;refine bodyPost_end (results_none rfl _ _ _) rfl ⟨rfl,aA.refl _⟩
theorem Z7X {w:World} {B:Nat} {v:Value} {l:pN} (h:fu B w v l) (hf:l.all dX=true):aM w v l:=aM.of_owns h (fun y hy=>by
 have:=(lH y).1 (List.all_eq_true.1 hf y hy);omega)
theorem Z3F {x:Int} (h:x.natAbs<=1000000000):(aB x).size<=12:=by
 have h1:=kZ x.natAbs 10 (by have:(10:Nat)^10=10000000000:=(by decide);omega) (by decide);have h2:=fx x;omega
theorem Z0M {n F:Nat} {R Q:pM} (h:lJ n F R=some Q):∃ d,cB n F n 0 0 R=some (Q,d):=by
 unfold lJ at h;cases hc:cB n F n 0 0 R with
 | none=>rw [hc] at h;cases h
 | some z =>
  obtain ⟨Q',d⟩:=z;rw [hc] at h;obtain rfl:Q'=Q:=o5 h;exact ⟨d,rfl⟩
theorem Z6c (F F2:Nat) {n k:Nat} {X:pN} (hn:n<7) (pv:1<=n) (hR:mF n k X) (u:Value) (w:World) (h:gX w u n k X) (R Q:pM) (hz:bZ X≠0) (hK:jK F n k X=some R) (hk:R.length=k) (hF:lJ n F2 R=some Q) (rJ:∀ r∈Q,r.length=n/\r.all dX=true) (pT:b9 w) (hb:3<w.heap.size) :
  Calls prog 59 #[u] w fun e w'=>∃ v,e=.returned (.tuple #[v,.int .i64 0])/\aA w w'/\aw w' v Q:=by
 have ht:=pT.pow;have HCK:Hid (∀ W,aA w W->pI 58 #[u] W (.int .i64 0)):=fun W hW=>R9_ hR u W (h.ext hW);have G3:Hid (∀ W,aA w W->pI 149 #[u] W (.bool false)):=fun W hW=>by
  have h9:=Z46 hR.dig u W (h.ext hW) (ht.ext hW);rw [pD hz] at h9;exact h9
 have Hl:Hid (∀ W,aA w W->Calls prog 150 #[u] W fun e w'=>∃ v,e=.returned v/\Z7o w' W.heap.size v R/\aA W w'):=fun W hW=>g2_ F hn pv hR u W (h.ext hW) R hK (ht.ext hW) (ov hb hW.size);obtain ⟨dF,JD⟩:=Z0M hF;have HCF:=oZ JD;have hkn:=hR.kn;obtain ⟨r,rfl,hr⟩:=h;obtain ⟨a,c,rfl,-⟩:=aN.open hr;obtain ⟨mx,BR⟩:=pK X.length;rw [BR] at HCK G3 Hl |-;obtain ⟨w1,pt,hE1,hs1,hb1⟩:=kN w (.int .i64 n) (.int .i64 k) (.slice a mx c);have HE1:=oZ hE1;have HB1:=oZ hb1;have k1:=ah hb1;have HRK:=oZ hk;have HLIB:=oZ pT;have HPB:=oZ hb;have HFIT:=oZ rJ;clear hb1 hE1 hr hs1 BR ht hb hK hR JD pT rJ hF hz hk
 go_enter func59,ntmps59
 go_wp2_with fail;refine (HCK w1 HE1).mono ?_;rintro e w2 ⟨rfl,h2⟩;have HE2:Hid (aA w w2):=HE1.trans h2;have HB2:=oZ (aF HB1 h2);have k2:=ah HB2;clear h2 HCK k1 pt;go_wp2_with fail;refine (G3 w2 HE2).mono ?_;rintro e w3 ⟨rfl,h3⟩;have HE3:Hid (aA w w3):=HE2.trans h3;have HB3:=oZ (aF HB2 h3);have k3:=ah HB3;clear h3 G3 k2;go_wp2_with fail;refine (Hl w3 HE3).mono ?_;rintro e w4 ⟨v4,rfl,Lz,h4⟩;have HE4:Hid (aA w w4):=HE3.trans h4;have HB4:=oZ (aF HB3 h4);have k4:=ah HB4;obtain ⟨a4,c4,rfl,r1,r2,r3⟩:=Lz;have BA:Hid (w.heap.size<=w3.heap.size/\w3.heap.size<=w4.heap.size):=⟨HE3.size,h4.size⟩;have hrk:=HRK.out;have tl:((R.length:Int) != (k:Int))=false:=by rw [hrk];simp
 rw [hrk] at r1 tl |-;clear h4 Hl k3;have DD:Calls prog 151 #[.slice a4 k c4,.int .i64 n] w4 fun e w'=>e=.returned (.tuple #[])/\aA w w'/\∃ tagsF,Hid ((Q=[]/\k=0)\/∃ g,a4=some ⟨g,0,none⟩/\bI w' g tagsF Q/\Q.length=k):=by
  rcases r3 with rfl | ⟨g,tags,rfl,hM,sO⟩
  ·have qt:k=0:=hrk.symm;have D7:Q=[]:=by
    have h9:=HCF.out;obtain ⟨n',rfl⟩:∃ n',n=n'+1:=⟨n-1,by omega⟩;unfold cB at h9;rw [if_neg (by simp)] at h9;simp only [Option.some.injEq,Prod.mk.injEq] at h9;exact h9.1.symm
   rw [qt];exact (Z2p n c4 a4 w4 (by omega)).mono fun e w' ⟨q1,q2⟩=>⟨q1,HE4.trans q2,[],.inl ⟨D7,rfl⟩⟩
  ·have hf:=Z2o n F2 R tags g c4 w3.heap.size w4 (Q,dF) hM HCF (by rw [hrk];exact r1) r2 (by omega) (HLIB.pow.ext HE4) (by have:=HPB.out;have:=BA.out;omega) sO BA.2;rw [hrk] at hf;exact hf.mono fun e w' ⟨tags',q1,q2,q3,q4⟩=>⟨q1,Below.trans HE4 (Below.mono q4 BA.1),tags',.inr ⟨g,rfl,q2,q3⟩⟩
 have HFRM:=oZ DD;unfold maxLen at r2;clear DD r3 hrk;go_wp2_with fail;refine HFRM.mono ?_;rintro e w5 ⟨rfl,h5,tagsF,HQ⟩;have HE5:=oZ h5;have EF:Hid (Q.length=k):=by
  rcases HQ.out with ⟨h1,h2⟩ | ⟨g,-,-,h3⟩
  ·unfold Hid;rw [h1,h2];rfl
  ·exact h3
 clear h5 HFRM k4;go_wp2_with fail
 go_loopw [6,34] (fun o t wr=>∃ (i:Nat) (v0:Value),i<=k/\o=v0/\t=.int .i64 (i:Int)/\Hid (aA w5 wr)/\Hid (ai wr w5.heap.size 36 1 v0 rowR (Q.take i))) (fun _ t _=>k+1-(intOf t).toNat)
 case atStart=>exact ⟨0,_,by omega,rfl,by simp,aA.refl _,ai.nil _ _ _ _ _⟩
 case round =>
  obtain ⟨i,vo,hi,hv,rfl,HX,Di⟩:=hrel;obtain rfl:=hv.symm;obtain ⟨wo,rfl⟩:∃ wo:World,wo=wr:=⟨_,rfl⟩;by_cases hlt:i<k
  ·obtain ⟨g,hg,hM,-⟩:∃ g,a4=some ⟨g,0,none⟩/\bI w5 g tagsF Q/\Q.length=k:=by
    rcases HQ.out with ⟨-,h2⟩ | h3;·omega
    ·exact h3
   obtain ⟨t,ht,c1,c2,c3,c5,-⟩:=hM.get i (by rw [EF.out];exact hlt);obtain ⟨yh,Ev⟩:=HFIT (aD Q i) (og (eL (by rw [EF.out];exact hlt)));have HN:Hid (Q.take (i+1)=Q.take i++[aD Q i]):=by
    unfold Hid;rw [ou,eL (by rw [EF.out];exact hlt)];rfl
   obtain ⟨q,hq⟩:=pK (aD Q i);rw [hq] at c1 c2 c5 yh Ev HN;rw [yh] at c1 c2;have g1:=HX.cell c1;have HC5:=oZ c5;have HRN:=oZ yh;have HRF:=oZ Ev;obtain ⟨bt,ot,ct⟩:=t;simp only at g1 c2 c3;unfold maxLen at c3;subst hg;obtain ⟨wn,IH⟩:=pK (wo.alloc (.cells #[] 3));have HO:Hid (fu wo.heap.size wn (.slice (some ⟨wo.heap.size,0,none⟩) 0 0) []):=(by rw [<- IH];exact World.ownsRow_made wo #[] 0 (oz _) (Nat.zero_le _) rfl);have Mr:Hid (aA wo wn):=(by rw [<- IH];exact aA.alloc _ _);clear hM ht c1 c5 hq yh Ev;go_wp2_with fail
   go_loopw [9,41] (fun o t wr=>∃ (j:Nat) (v0:Value),j<=n/\o=v0/\t=.int .i64 (j:Int)/\Hid (aA wo wr)/\Hid (fu wo.heap.size wr v0 (q.take j))) (fun _ t _=>n+1-(intOf t).toNat)
   case atStart=>exact ⟨0,_,by omega,rfl,by simp,Mr,HO⟩
   case round =>
    obtain ⟨j,v9,hj,BN,rfl,HY,Hd⟩:=hrel;obtain rfl:=BN.symm;obtain ⟨wp,rfl⟩:∃ wp:World,wp=wr:=⟨_,rfl⟩;by_cases hjl:j<n
    ·obtain ⟨x,hx⟩:∃ x,q[j]?=some x:=⟨q[j]'(by rw [HRN.out];exact hjl),oc _⟩;have g2:=HY.cell (HX.cell (HC5.cell j x hx));have hxf:=List.all_eq_true.1 HRF x (og hx);obtain ⟨f1,f2⟩:=(lH x).1 hxf;have vU:fh x:=⟨by omega,by omega⟩;have hsz:(aB x).size<=20:=by
      have h9:=Z3F (x:=x) (by omega);omega
     have hSM:=P9_ x wp (by omega) (HLIB.ext (HE5.trans (HX.trans HY)));rw [show gH x=x by unfold gH;rw [if_pos vU],show decide (fh x)=true from pE vU] at hSM;have HSM:=oZ hSM;have HNX:Hid (q.take (j+1)=q.take j++[x]):=(by unfold Hid;rw [ou,hx];rfl);have qh:Hid ((q.take j).length<1000000):=(by unfold Hid;rw [om];omega);have f3:¬ (1000000000:Int)<x:=(by omega);have f4:¬ x<(-1000000000:Int):=(by omega);clear hx hxf vU hsz hSM f1 f2;go_wp2_with fail;refine HSM.mono ?_;rintro e w6 ⟨rfl,h6⟩;have J0:Hid (aA wo w6):=HY.trans h6;have HO6:Hid (fu wo.heap.size w6 v9 (q.take j)):=et Hd h6;have tP:Hid (wo.heap.size<=w6.heap.size):=J0.size;clear h6 HSM;go_wp2_with (at_builtin;go_must (refine O1_ rfl w6 _ _ _ underlying36 rfl wo.heap.size v9 (q.take j) x _ _ rfl HO6 rfl rfl ?c2 tP ?_))
     case c2=>have:=qh.out;omega
     intro v2 w7 Gc Js;rw [<- HNX.out] at Gc;have HO7:=oZ Gc;have MW:Hid (aA wo w7):=Below.trans J0 Js;clear Gc Js;go_wp2_with fail;go_roundw
     case rel=>exact ⟨j+1,v2,by omega,rfl,by go_num,MW,HO7⟩
     case measure=>simp [intOf];omega
    ·obtain rfl:j=n:=(by omega);have hO:=Hd.out;rw [List.take_of_length_le (by rw [HRN.out];exact oz _)] at hO;have HO4:=oZ hO;obtain ⟨g4,Gw,Eb⟩:∃ g4 c4,v9=.slice g4 q.length c4:=by
      obtain ⟨a9,c9,h9,-⟩:=aN.open (Z7X hO HRF);exact ⟨a9,c9,h9⟩
     subst Eb;have HE6:Hid (aA w5 wp):=HX.trans HY;have HB4':=oZ (Di.ext HY);have HSZ:Hid (w5.heap.size<=wp.heap.size):=HE6.size;have HSW:Hid (∀ z,vo.ownBlock=some z->z<wo.heap.size):=fun z hz=>(Di.lt z hz).2;have HSF:Hid (bj wp vo.ownBlock fun W=>rowR W [Value.slice g4 q.length Gw] q):=by
      refine bj.mono (bj.owns hO ?_) fun W hW=>⟨_,rfl,Z7X (B:=wo.heap.size) hW HRF⟩
      by_cases hn:(Value.slice g4 q.length Gw).ownBlock=none;·exact .inl hn
      ·refine .inr fun e=>?_;obtain ⟨z,hz⟩:=Option.ne_none_iff_exists'.1 hn;have h1:=(hO.lt z hz).1;have h2:=HSW z (e▸hz);omega
     have HLL:Hid ((Q.take i).length<1000000):=(by unfold Hid;rw [om];omega);clear hO Hd Di;go_wp2_with (at_builtin;go_must (refine iQ _ rfl _ _ 32 rfl w5.heap.size 36 (.slice none 0 0) 1 24 underlying32 v6_ rfl (by decide) vo rowR (Q.take i) q #[_] 36 rfl HB4' rfl rfl ?e1 HSF HLL ?e3 HSZ ?_))
     case e1=>simp [Value.oneCell']
     case e3=>omega
     intro v5 w7 pf qz hb5 hs5 _;have HE7:Hid (aA w5 w7):=Below.trans HE6 hb5;rw [<- HN.out] at pf;have HB5:=oZ pf;clear pf qz hb5 hs5;go_wp2_with fail;go_roundw
     case rel=>exact ⟨i+1,v5,by omega,rfl,by go_num,HE7,HB5⟩
     case measure=>simp [intOf];omega
  ·obtain rfl:i=k:=(by omega);have HF:=oZ Di.list;rw [List.take_of_length_le (by rw [EF.out];exact oz _)] at HF;have HE9:Hid (aA w wo):=HE5.trans HX;clear Di;go_wp2_with fail;go_ret2;exact ⟨_,rfl,HE9,HF⟩
theorem Z1C (P P':pN) (C C' M M':pM) (v u:Value) (w:World) (h:cP w v P C M) (k:cP w u P' C' M') :
  pI 27 #[v,u] w (.bool (P == P' && (C == C' && M == M'))):=by
 obtain ⟨p,c,m,rfl,hp,hc,hm⟩:=h;obtain ⟨q,d,r,rfl,hq,hd,hr⟩:=k;have H1:=oZ (fun W (hW:aA w W)=>I4_ P P' p q W (hp.ext hW) (hq.ext hW));have H2:=oZ (fun W (hW:aA w W)=>F5_ C C' c d W (hc.ext hW) (hd.ext hW));have H3:=oZ (fun W (hW:aA w W)=>F5_ M M' m r W (hm.ext hW) (hr.ext hW));obtain ⟨a1,c1,rfl,-⟩:=hp.open;obtain ⟨a2,c2,rfl,-⟩:=ae.open hc;obtain ⟨a3,c3,rfl,-⟩:=ae.open hm;obtain ⟨a4,c4,rfl,-⟩:=hq.open;obtain ⟨a5,c5,rfl,-⟩:=ae.open hd;obtain ⟨a6,c6,rfl,-⟩:=ae.open hr;obtain ⟨B1,DF⟩:=pK ((P == P'));obtain ⟨B2,x5⟩:=pK ((C == C'));obtain ⟨B3,Jt⟩:=pK ((M == M'));rw [DF] at H1 |-;rw [x5] at H2 |-;rw [Jt] at H3 |-;clear hp hc hm hq hd hr DF x5 Jt
 go_enter func27,ntmps27
 obtain ⟨W1,pc,hE1,hs1,hb1⟩:=gU w (.slice a1 P.length c1) (.slice a2 C.length c2) (.slice a3 M.length c3);obtain ⟨W2,qv,hE2,hs2,hb2⟩:=gU W1 (.slice a4 P'.length c4) (.slice a5 C'.length c5) (.slice a6 M'.length c6);have HB1:=oZ (aF hb1 hE2);have HB2:=oZ hb2;have HE2:=oZ (hE1.trans hE2);obtain ⟨x0,x1,x2,-⟩:=cU HB1;obtain ⟨y0,y1,y2,-⟩:=cU HB2;clear hE1 hs1 hb1 hE2 hs2 hb2;go_wp2_with fail;refine (H1 _ HE2).mono ?_;rintro e w3 ⟨rfl,pS⟩;have HB13:=oZ (aF HB1 pS);have HB23:=oZ (aF HB2 pS);have HE3:=oZ (HE2.trans pS);clear pS H1 HB1 HB2 HE2 x0 x1 x2 y0 y1 y2 pc qv;obtain ⟨x0,x1,x2,-⟩:=cU HB13;obtain ⟨y0,y1,y2,-⟩:=cU HB23;cases B1
 ·go_wp2_with fail;go_ret;exact ⟨rfl,HE3⟩
 ·go_wp2_with fail;refine (H2 _ HE3).mono ?_;rintro e w4 ⟨rfl,hE4⟩;have HB14:=oZ (aF HB13 hE4);have HB24:=oZ (aF HB23 hE4);have HE4:=oZ (HE3.trans hE4);clear hE4 H2 HB13 HB23 HE3 x0 x1 x2 y0 y1 y2;obtain ⟨x0,x1,x2,-⟩:=cU HB14;obtain ⟨y0,y1,y2,-⟩:=cU HB24;cases B2
  ·go_wp2_with fail;go_ret;exact ⟨rfl,HE4⟩
  ·go_wp2_with fail;refine q_ (H3 _ HE4) (HE4.trans) ?_;intro w5 HE5;clear H3 HB14 HB24 HE4 x0 x1 x2 y0 y1 y2;cases B3
   ·go_wp2_with fail;go_ret;exact ⟨rfl,HE5⟩
   ·go_wp2_with fail;go_ret;exact ⟨rfl,HE5⟩
section
variable {P:Program} {ops O:Array Oper} {Q:Exit->Act->World->Prop} {md:Region.Mode} {S:World->Prop} {z n:Nat}
def Z5r (md:Region.Mode) (ops:Array Oper) (a i:Nat):Bool:=match ops[a]? with
 | some o=>o.after.any fun e=>Region.binds md e && e.on == i
 | none=>false
def oI (md:Region.Mode) (ops:Array Oper):Nat->List Nat->Nat->Bool
 | a,[],i=>Z5r md ops a i
 | a,b::bs,i=>Z5r md ops a b && oI md ops b bs i
theorem z1_:∀ (bs:List Nat) (a i:Nat),oI md ops a bs i=true->gu md ops (bs.length+1) a i=true
 | [],a,i,h=>by
  unfold oI Z5r at h;unfold gu;cases hq:ops[a]? with
  | none=>rw [hq] at h;cases h
  | some o =>
   rw [hq] at h;obtain ⟨e,he,hb⟩:=Array.any_eq_true'.1 h;exact Array.any_eq_true'.2 ⟨e,he,by simp only [Bool.and_eq_true,Bool.or_eq_true] at hb |-;exact ⟨hb.1,Or.inl hb.2⟩⟩
 | b::bs,a,i,h=>by
  unfold oI Z5r at h;rw [Bool.and_eq_true] at h;have ih:=z1_ bs b i h.2;have h:=h.1;show gu md ops (bs.length+1+1) a i=true;unfold gu;cases hq:ops[a]? with
  | none=>rw [hq] at h;cases h
  | some o =>
   rw [hq] at h;obtain ⟨e,he,hb⟩:=Array.any_eq_true'.1 h;simp only [Bool.and_eq_true,beq_iff_eq] at hb;exact Array.any_eq_true'.2 ⟨e,he,by simp only [Bool.and_eq_true,Bool.or_eq_true];exact ⟨hb.1,Or.inr (by rw [hb.2];exact ih)⟩⟩
theorem R7_ (hO:Hid (ops=O)) (i:Nat) (bs:List Nat) {oi:Oper} {v:Value} {f:Nat} {l:Array Bool} {a:Act} {w:World} (hi:ops[i]?=some oi)
  (hs:Region.noSelect O=true) (hc:nX md O l=true) (hf:Region.free md O l i=true) (hr:(Region.ready md O l).contains i=true) (hz:oI md O z bs i=true)
  (hQ:∀ c a w,Q (.panic c) (a.put oi.dst v) w->Q (.panic c) a w) (hy:YieldsIf P O S oi v a) (hS:S w)
  (h:bQ P md ops Q S z f (l.setIfInBounds i true) (a.put oi.dst v) w):bQ P md ops Q S z (f+1) l a w:=by
 have hO:ops=O:=hO;subst hO;exact D2_ hi (Region.noSelect_spec hs) hQ (z1_ bs z i hz) f l a w (Region.free_spec hi hf) (O4_ hc) (by simpa using hr) hy hS h
theorem Z0r (hO:Hid (ops=O)) (i:Nat) {o:Oper} {f:Nat} {l:Array Bool} {a:Act} {w:World} (hr:Region.ready md O l=[i]) (pn:Region.ready md O (l.setIfInBounds i true)=[]) (hz:(l.setIfInBounds i true).getD z false=true) (ho:ops[i]?=some o)
  (h:∀ K:Act->World->Prop,Shut (∀ b u,Q .normal b u->K b u)->if Region.wanted o (yielded O a.tmps)=true then Oper.wp P o a w K Q else K (a.put o.dst undef) w):bQ P md ops Q S z (f+1) l a w:=by
 have hO:ops=O:=hO;subst hO;exact fL i hr pn hz ho h
end
end Go.Proofs.YtoonaddcfakamaaGreatDoor
