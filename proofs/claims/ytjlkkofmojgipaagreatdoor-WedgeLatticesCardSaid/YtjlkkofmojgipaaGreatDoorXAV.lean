import Derived.Test.YtjlkkofmojgipaaGreatDoorXAU
import Derived.Test.YtjlkkofmojgipaaGreatDoorXAT
import Derived.Test.YtjlkkofmojgipaaGreatDoorXAL
import Derived.Test.YtjlkkofmojgipaaGreatDoorXAH
import Derived.Test.YtjlkkofmojgipaaGreatDoorXAQ
import Derived.Test.YtjlkkofmojgipaaGreatDoorXAS
import Derived.Test.YtjlkkofmojgipaaGreatDoorXAP
set_option linter.unusedVariables false
set_option linter.unusedSimpArgs false
set_option maxRecDepth 1000000
set_option maxHeartbeats 4000000
namespace Go.Proofs.YtjlkkofmojgipaaGreatDoor
open Go.RowKit Go.Proofs.Tryz
theorem Z1r (a:Option Addr) (l cp n:Nat) (w:World) (h0:n=0\/l=0) :
  oW 84 #[.slice a l cp,.int .i64 n] w (.tuple #[.slice none 0 0,.string ⟨#[49]⟩,.bool false]):=by
 rcases h0 with rfl | rfl
 ·go_enter func84,ntmps84
  go_wp2_with fail
  go_loopw [10,7,8,9] (fun t p la od wr=>t=.int .i64 0/\p=.slice none 0 0/\la=.string ⟨#[49]⟩/\od=.bool false/\wr=w) (fun t _ _ _ _=>0)
  case atStart=>exact ⟨rfl,rfl,rfl,rfl,rfl⟩
  case round =>
   obtain ⟨rfl,rfl,rfl,rfl,rfl⟩:=hrel;go_wp2_with fail;go_ret3;exact ⟨rfl,aC.refl _⟩
 ·by_cases hn:n=0
  ·subst hn
   go_enter func84,ntmps84
   go_wp2_with fail
   go_loopw [10,7,8,9] (fun t p la od wr=>t=.int .i64 0/\p=.slice none 0 0/\la=.string ⟨#[49]⟩/\od=.bool false/\wr=w) (fun t _ _ _ _=>0)
   case atStart=>exact ⟨rfl,rfl,rfl,rfl,rfl⟩
   case round =>
    obtain ⟨rfl,rfl,rfl,rfl,rfl⟩:=hrel;go_wp2_with fail;go_ret3;exact ⟨rfl,aC.refl _⟩
  ·have z1:(0:Int)<(n:Int):=by omega
   go_enter func84,ntmps84
   go_wp2_with fail
   go_loopw [10,7,8,9] (fun t p la od wr=>t=.int .i64 0/\p=.slice none 0 0/\la=.string ⟨#[49]⟩/\od=.bool false/\wr=w) (fun t _ _ _ _=>0)
   case atStart=>exact ⟨rfl,rfl,rfl,rfl,rfl⟩
   case round =>
    obtain ⟨rfl,rfl,rfl,rfl,rfl⟩:=hrel;go_wp2_with fail;go_ret3;exact ⟨rfl,aC.refl _⟩
theorem mR {xss:List (List Int)} (hE:bw xss=0):cT (bY xss) xss:=fun r hr=>((ke hE).2 r hr).1
theorem i9_ {xss:List (List Int)} (hE:bw xss=0) (i j:Nat):bX 1000000000 (aH (bJ xss) i j):=y5_ (fun r hr a ha=>((ke hE).2 r hr).2.2 a ha) i j
theorem s2_ (xss:List (List Int)) (u:Value) (tags:List (Nat×Nat)) (n B:Nat) (wb w:World) (hE:bw xss=0) (hn:n<=bY xss) (pK:0<xss.length) (hO:bO jv 29 w B B u tags xss) (tC:aC wb w) (ht:af wb) (hB:wb.heap.size<=B) :
  Calls prog 84 #[u,.int .i64 n] w fun e w'=>∃ v,e=.returned (.tuple #[v,.string (aD (aw xss n).last),.bool (aw xss n).odd])/\ck w.heap.size w' v (aw xss n).lead/\aC wb w':=by
 obtain ⟨hl,qN⟩:=ke hE;have Aa:bY xss<=12:=by
  cases xss with
  | nil=>simp at pK
  | cons r l=>exact (qN r (by simp)).2.1
 rcases hO.own.2 with ⟨hv,h0⟩ | ⟨g,cap,cur,hv,-⟩
 ·omega
 ·subst hv;obtain ⟨hM,h1,h2,h3⟩:=hO.matN (oJ _);refine (Z3s xss g cap n (bY xss) tags wb w hM (mR hE) hn (by omega) (by omega) h1 h2 (Z1p (mR hE) hl (i9_ hE) n) tC ht (fun b hb=>oI hB (h3 b hb))).mono ?_;rintro e w' ⟨v,tags',g1,g2,g3,g4,g5⟩;exact ⟨v,g1,g2,Below.trans tC (g5.belowE (B:=wb.heap.size) (fun b hb=>oI hB (h3 b hb)) tC.size)⟩
theorem Z0F (xss:List (List Int)) (v:Value) (w:World) (h:bQ w v xss) (hE:bw xss=0) (Nb:bY xss=xss.length) (ht:af w) :
  oW 112 #[v] w (.string (aD (jz xss))):=by
 have HT:=n8 ht;obtain ⟨hl,qN⟩:=ke hE;obtain ⟨a,c,rfl,h1,h2,-,-⟩:=bT.open h;unfold maxLen at h2;by_cases hp:xss.length=0
 ·obtain rfl:xss=[]:=List.length_eq_zero_iff.1 hp;have HB:Hid (Calls prog 97 #[.slice a 0 c] w fun e w'=>∃ b d,e=.returned (.slice b 0 d)/\aC w w'):=by
   refine (Z15 [] 1 _ w h (by simp) (by omega) (by simp) (by omega) (by simp) ht).mono ?_;rintro e w' ⟨u,tags,rfl,hO,hX⟩;rcases hO.own.2 with ⟨hv,h0⟩ | ⟨g,cap,cur,hv,-⟩
   ·exact ⟨none,0,by rw [hv],hX⟩
   ·exact ⟨_,cap,by rw [hv];rfl,hX⟩
  clear h ht hE qN
  go_enter func112,ntmps112
  go_wp2_with fail;refine HB.mono ?_;rintro e w1 ⟨b,d,rfl,hE1⟩;have HE1:=n8 hE1;clear hE1;go_wp2_with fail;refine (Z1r b 0 d 0 _ (.inl rfl)).mono ?_;rintro e w2 ⟨rfl,oY⟩;have HE2:=n8 (HE1.trans oY);clear oY;go_wp2_with fail;go_ret;exact ⟨by rw [show aD (jz [])=⟨#[49]⟩ by decide +kernel];rfl,HE2⟩
 ·have pK:0<xss.length:=by omega
  obtain ⟨L,hL⟩:∃ L,L=xss.length:=⟨_,rfl⟩;have HB:=n8 (Z15 xss (bY xss) _ w h (mR hE) (by omega) (by omega) (by omega) (fun r hr=>(qN r hr).2.2) ht);have HEL:Hid (∀ u tags W,bO jv 29 W w.heap.size w.heap.size u tags xss->aC w W->Calls prog 84 #[u,.int .i64 L] W fun e w'=>∃ v,e=.returned (.tuple #[v,.string (aD (aw xss L).last),.bool (aw xss L).odd])/\ck W.heap.size w' v (aw xss L).lead/\aC w w'):=fun u tags W hO hW =>
   s2_ xss u tags L w.heap.size w W hE (by omega) pK hO hW ht (oJ _)
  have rh:Hid (∀ W,Calls prog 72 #[.string (aD (aw xss L).last)] W fun e w'=>e=.returned (.string (aD (-(aw xss L).last)))/\W=w'):=fun W =>
   nW _ W (by have:=(Z1p (mR hE) hl (i9_ hE) L).lsz L (oJ _);omega)
  have B8:Hid (jz xss=if (aw xss L).lead.length<L then 0 else if (aw xss L).odd then-(aw xss L).last else (aw xss L).last):=by unfold Hid jz;rw [<- hL]
  obtain ⟨la,qV⟩:∃ z,z=(aw xss L).last:=⟨_,rfl⟩;obtain ⟨od,Iz⟩:∃ z,z=(aw xss L).odd:=⟨_,rfl⟩;obtain ⟨ld,vJ⟩:∃ z,z=(aw xss L).lead:=⟨_,rfl⟩;obtain ⟨rd,zH⟩:∃ z,z=jz xss:=⟨_,rfl⟩;rw [<- qV,<- Iz,<- vJ] at HEL B8;rw [<- qV] at rh;rw [<- zH] at B8 |-;rw [<- hL] at h1 HB |-;clear h ht hE qN qV Iz vJ zH hL
  go_enter func112,ntmps112
  go_wp2_with fail;refine HB.mono ?_;rintro e w1 ⟨u,tags,rfl,hO,hE1⟩;have HO:=n8 hO;have HE1:=n8 hE1;clear hE1 hO;go_wp2_with fail;refine (HEL _ _ _ HO HE1).mono ?_;rintro e w2 ⟨lv,rfl,EY,oY⟩;have HE2:=n8 oY;obtain ⟨al,cl,Fl,l1,l2⟩:=EY.form;subst Fl;clear oY EY;by_cases h3:ld.length<L
  ·have HR2:Hid (rd=0):=by unfold Hid;rw [B8.out,if_pos h3]
   have z1:(ld.length:Int)<(L:Int):=by omega
   clear h3;go_wp2_with fail;go_ret;exact ⟨by rw [HR2.out,show aD 0=⟨#[48]⟩ by decide +kernel];rfl,HE2⟩
  ·have z1:¬ (ld.length:Int)<(L:Int):=by omega
   have HR2:=B8.out;rw [if_neg h3] at HR2;have HR2:=n8 HR2;clear h3;cases od with
   | true =>
    go_wp2_with fail;refine (rh _).mono ?_;rintro e w3 ⟨rfl,rfl⟩;go_wp2_with fail;go_ret;exact ⟨by rw [HR2.out];rfl,HE2⟩
   | false =>
    go_wp2_with fail;go_ret;exact ⟨by rw [HR2.out];rfl,HE2⟩
theorem Z2k {xss:List (List Int)} (hE:bw xss=0) (R S:List Nat):∀ r∈bM xss R S,∀ x∈r,-9223372036854775808<=x/\x<=(9223372036854775807:Int):=fun r hr x hx=>by
 have:=L1_ hE R S r hr x hx;omega
theorem u3_ {L:List (List Nat)} {i:Nat} {S:List Nat} (h:L[i]?=some S):(bV L)[i]?=some (S.map fun x:Nat=>(x:Int)):=by unfold bV;rw [oE,h];rfl
theorem Z0i (xss:List (List Int)) (k:Nat) (A B:List (List Nat)) (i j:Nat):(fG xss k A B i j).length<=A.length*B.length+B.length:=by
 unfold fG;rw [oU];have h1:((A.take i).flatMap fun R=>B.map fun S=>ea xss k R S).length<=A.length*B.length:=by
  rw [Z1_ _ B.length (fun R=>by simp)];exact Nat.mul_le_mul_right _ (by rw [oF];omega)
 refine Nat.add_le_add h1 ?_;cases A[i]? with
 | none=>simp
 | some R=>simp only [List.length_map,oF];omega
theorem F9_:∀ n,n<13->∀ k,k<13->eU n k<=924:=by decide +kernel
theorem x8_ (xss:List (List Int)) (k:Nat) (v:Value) (w:World) (h:bQ w v xss) (hE:bw xss=0) (rq:k<=xss.length) (hk2:k<=bY xss) (ht:af w) :
  Calls prog 55 #[v,.int .i64 (k:Int)] w fun e w'=>∃ u,e=.returned u/\aI 1 numC w' u (dQ xss k)/\aC w w':=by
 have HT:=n8 ht;obtain ⟨hl,qN⟩:=ke hE;have Aa:bY xss<=12:=by
  cases xss with
  | nil=>show 0<=12;omega
  | cons r l=>exact (qN r (by simp)).2.1
 obtain ⟨A,hA⟩:∃ A,A=bH xss.length k:=⟨_,rfl⟩;obtain ⟨B,hB⟩:∃ B,B=bH (bY xss) k:=⟨_,rfl⟩;have Et:Hid (dQ xss k=fG xss k A B A.length 0):=by unfold Hid;rw [Z25,hA,hB];rfl
 obtain ⟨s1,s1c,-⟩:=jY hl rq;have s1l:=F9_ xss.length (by omega) k (by omega);rw [s1c] at s1l;obtain ⟨s2,s2c,-⟩:=jY Aa hk2;have s2l:=F9_ (bY xss) (by omega) k (by omega);rw [s2c] at s2l;rw [<- hA] at s1 s1l;rw [<- hB] at s2 s2l;have vR:Hid (∀ W,Calls prog 33 #[.int .i64 (xss.length:Int),.int .i64 (k:Int)] W fun e w'=>∃ v,e=.returned v/\bQ w' v (bV A)/\aC W w'):=fun W=>by rw [hA];exact nd _ _ hl rq W
 have HSB:Hid (∀ W,Calls prog 33 #[.int .i64 (bY xss:Int),.int .i64 (k:Int)] W fun e w'=>∃ v,e=.returned v/\bQ w' v (bV B)/\aC W w'):=fun W=>by rw [hB];exact nd _ _ Aa hk2 W
 have HCO:Hid (∀ W,aC w W->Calls prog 98 #[v] W fun e w'=>e=.returned (.int .i64 (bY xss:Int))/\W=w'):=fun W hW=>j6_ xss v W (h.ext hW);have HMI:Hid (∀ R∈A,∀ S∈B,bw (bM xss R S)=0/\bY (bM xss R S)=(bM xss R S).length/\jz (bM xss R S)=ea xss k R S):=fun R hR S hS =>
  ⟨Z4g hE (s1.len R hR) (s2.len S hS) (by omega),Z2l (s1.len R hR) (s2.len S hS),Z2D hE (s1.len R hR) (s2.len S hS)⟩
 have Dp:Hid (∀ R∈A,∀ S∈B,∀ vr vc W,aC w W->au W vr (R.map fun x:Nat=>(x:Int))->au W vc (S.map fun x:Nat=>(x:Int))->Calls prog 113 #[v,vr,vc] W fun e w'=>∃ u tags,e=.returned u/\bO gE 27 w' W.heap.size W.heap.size u tags (bM xss R S)/\aC W w'):=fun R hR S hS vr vc W hW h1 h2 =>
  Z4f xss R S (bY xss) v vr vc W (h.ext hW) h1 h2 (by rw [s1.len R hR];omega) (by rw [s2.len S hS];omega) (s1.lt R hR) (s2.lt S hS) (fun r hr=>(qN r hr).1) (by omega) (by omega)
 have IT:Hid (∀ R S,∀ r∈bM xss R S,∀ x∈r,-9223372036854775808<=x/\x<=(9223372036854775807:Int)):=fun R S=>Z2k hE R S;have HLEN:Hid ((∀ R∈A,R.length=k)/\(∀ S∈B,S.length=k)/\A.length<=924/\B.length<=924):=⟨s1.len,s2.len,by omega,by omega⟩;obtain ⟨a,c,rfl,x1,x2,-,-⟩:=bT.open h;unfold maxLen at x2;obtain ⟨n,hn⟩:∃ n,n=xss.length:=⟨_,rfl⟩;obtain ⟨m,hm⟩:∃ m,m=bY xss:=⟨_,rfl⟩;obtain ⟨MS,DR⟩:∃ M,M=dQ xss k:=⟨_,rfl⟩;rw [<- DR] at Et |-;rw [<- hn] at vR HCO Dp x1 |-;rw [<- hm] at HSB HCO;clear h hE ht qN hA hB s1 s2 s1l s2l s1c s2c hn hm DR rq hk2
 go_enter func55,ntmps55
 go_wp2_with fail;refine (vR _).mono ?_;rintro e w1 ⟨vA,rfl,Jf,hE1⟩;have HRA1:=n8 Jf;have HE1:=n8 hE1;clear Jf hE1;go_wp2_with fail;refine (HCO _ HE1).mono ?_;rintro e NN ⟨rfl,rfl⟩;go_wp2_with fail;refine (HSB _).mono ?_;rintro e w2 ⟨vB,rfl,Je,oY⟩;have HRA:=n8 (HRA1.ext oY);have HE2:=n8 (HE1.trans oY);obtain ⟨aA,cA,rfl,a1,a2,-,ha⟩:=bT.open HRA;obtain ⟨aB,cB,rfl,b1,b2,-,hb⟩:=bT.open Je;have HA:=n8 ha;have HB:=n8 hb;have sV:(bV A).length=A.length:=by simp [bV]
 have tG:(bV B).length=B.length:=by simp [bV]
 rw [sV] at a1 |-;rw [tG] at b1 |-;unfold maxLen at a2 b2;clear oY Je ha hb HRA1 sV tG vR HSB HCO;obtain ⟨na,Fh⟩:∃ n,n=A.length:=⟨_,rfl⟩;obtain ⟨nb,Fg⟩:∃ n,n=B.length:=⟨_,rfl⟩;have HNA:=n8 Fh;have HNB:=n8 Fg;rw [<- Fh] at a1 |-;rw [<- Fg] at b1 |-;clear Fh Fg;go_wp2_with fail
 go_loopw [8,5] (fun t o wr=>∃ i:Nat,i<=na/\t=.int .i64 i/\Hid (aC w2 wr)/\Hid (aZ wr w2.heap.size 53 1 o numC (fG xss k A B i 0))) (fun t _ _=>na-(intOf t).toNat)
 case atStart=>exact ⟨0,by omega,rfl,aC.refl _,by rw [Z0k];exact aZ.nil _ _ _ _ _⟩
 case round =>
  obtain ⟨i,hi,rfl,rl,HBO⟩:=hrel;obtain ⟨wo,rfl⟩:∃ wo:World,wo=wr:=⟨_,rfl⟩;by_cases hlt:i<na
  ·obtain ⟨rr,qN⟩:∃ y,A[i]?=some y:=⟨A[i]'(by rw [<- HNA.out];exact hlt),n9 _⟩;have HRM:Hid (rr∈A):=oD qN;obtain ⟨ba,oa,rfl,-,JT⟩:=HA (by intro e;have:=congrArg List.length e;simp [bV] at this;have:=HNA.out;rw [‹A=[]›] at this;simp at this;omega);obtain ⟨vrr,qu,sJ⟩:=JT i _ (u3_ qN);obtain ⟨arr,crr,rfl,r1,r2,-,-,-⟩:=qu.open;have HVR:=n8 qu;have HCR:=n8 sJ;have hrl:(rr.map fun x:Nat=>(x:Int)).length=k:=by rw [List.length_map];exact HLEN.1 rr HRM
   rw [hrl] at HVR HCR r1;have HROW:=n8 (Z26 (xss:=xss) (k:=k) (B:=B) qN);have HGR:=n8 qN;unfold maxLen at r2;clear JT qu sJ qN hrl;have hin:(i:Int)<(na:Int):=by omega
   go_wp2_with fail
   go_loopw [9,5] (fun t o wr=>∃ j:Nat,j<=nb/\t=.int .i64 j/\Hid (aC w2 wr)/\Hid (aZ wr w2.heap.size 53 1 o numC (fG xss k A B i j))) (fun t _ _=>nb-(intOf t).toNat)
   case atStart=>exact ⟨0,by omega,rfl,rl,HBO⟩
   case round =>
    obtain ⟨j,hj,rfl,pU,HBI⟩:=hrel;obtain ⟨wi,rfl⟩:∃ wi:World,wi=wr:=⟨_,rfl⟩;by_cases hjl:j<nb
    ·obtain ⟨cc,pd⟩:∃ y,B[j]?=some y:=⟨B[j]'(by rw [<- HNB.out];exact hjl),n9 _⟩;have HCM:Hid (cc∈B):=oD pd;obtain ⟨bb,ob,rfl,-,JP⟩:=HB (by intro e;have:=congrArg List.length e;simp [bV] at this;have:=HNB.out;rw [‹B=[]›] at this;simp at this;omega);obtain ⟨vcc,EG,AZ⟩:=JP j _ (u3_ pd);obtain ⟨acc,ccc,rfl,c1,c2,-,-,-⟩:=EG.open;have hcl:(cc.map fun x:Nat=>(x:Int)).length=k:=by rw [List.length_map];exact HLEN.2.1 cc HCM
     rw [hcl] at EG AZ c1;have HVC:=n8 EG;have g1:=pU.cell HCR;have g2:=pU.cell AZ;have HST:=n8 (Z0j (xss:=xss) (k:=k) HGR pd);obtain ⟨m1,m2,m3⟩:=HMI rr HRM cc HCM;have HM1:=n8 m1;have HM2:=n8 m2;have HPB:=n8 (IT rr cc);have HPA:Hid (∀ W,aC wi W->Calls prog 113 #[.slice a n c,.slice arr k crr,.slice acc k ccc] W fun e w'=>∃ u tags,e=.returned u/\bO gE 27 w' W.heap.size W.heap.size u tags (bM xss rr cc)/\aC W w'):=fun W hW =>
      Dp rr HRM cc HCM _ _ W ((HE2.trans pU).trans hW) (HVR.ext (pU.trans hW)) (HVC.ext (pU.trans hW))
     have CM:Hid (∀ u W,bQ W u (bM xss rr cc)->aC wi W->oW 112 #[u] W (.string (aD (ea xss k rr cc)))):=fun u W hu hW=>by
      have:=Z0F (bM xss rr cc) u W hu HM1 HM2 (HT.ext ((HE2.trans pU).trans hW));rw [m3] at this;exact this
     have HLL:Hid ((fG xss k A B i j).length<1000000):=by
      have:=Z0i xss k A B i j;have h2:=Nat.mul_le_mul HLEN.2.2.1 HLEN.2.2.2;have:=HLEN.2.2;unfold Hid;omega
     have HSZ:Hid (w2.heap.size<=wi.heap.size):=pU.size;have wI:(j:Int)<(nb:Int):=by omega
     unfold maxLen at c2;clear pd JP EG AZ hcl m1 m2 m3
     go_upto_region 9 with fail
     refine iP (fun w'=>w'.cell? ⟨ba,oa+i,none⟩=some (.slice arr k crr)/\w'.cell? ⟨bb,ob+j,none⟩=some (.slice acc k ccc)/\Hid (aC wi w')) 13 (by kernel_rfl) ⟨(aC.drew wi).cell g1,(aC.drew wi).cell g2,aC.drew wi⟩ (fun oX=>?_);refine rA [0,1,2,3,4,5,6,7,8,9] ?_
     iterate 10 ((first|(refine rL (v:=?_) (by rfl) (Or.inl ⟨by rfl,?_⟩) ?_;rotate_left;·((intro w' oz);(try dsimp only at oz);(try go_simp);(try with_reducible rfl)))|(refine rW (v:=?_) (by rfl) (Or.inl ⟨by rfl,?_⟩) ?_;rotate_left;·((intro w');(try go_simp);(try with_reducible rfl))));(try simp only [Act.put,aK,aL,aM]))
     refine rE ?_;refine dO 10 (by kernel_rfl) rfl (fun K hK=>?_);go_simp
     (go_at_call 113;refine (HPA _ (oX.2.2)).mono ?_)
     rintro e wz ⟨u1,IW,rfl,xW,om⟩;have HO1:=n8 (xW.rows2 HPB);clear xW;go_wp2_with fail;refine hK _ _ ⟨(om).cell oX.1,(om).cell oX.2.1,aC.trans oX.2.2 (om)⟩ (fun oX=>?_);clear hK K
     (try simp only [Act.put,aK,aL,aM])
     refine dO 11 (by kernel_rfl) rfl (fun K hK=>?_);go_simp
     (go_at_call 112;refine (CM _ _ HO1 oX.2.2).mono ?_)
     rintro e wy ⟨rfl,om⟩;go_wp2_with fail;refine hK _ _ ⟨(om).cell oX.1,(om).cell oX.2.1,aC.trans oX.2.2 (om)⟩ (fun oX=>?_);clear hK K
     (try simp only [Act.put,aK,aL,aM])
     have qs:Hid (aC wi wy):=oX.2.2;refine dO 12 (by kernel_rfl) rfl (fun K hK=>?_);go_simp;refine hK _ _ ⟨(aC.alloc _ _).cell oX.1,(aC.alloc _ _).cell oX.2.1,aC.trans oX.2.2 (aC.alloc _ _)⟩ (fun oX=>?_);clear hK K
     (try simp only [Act.put,aK,aL,aM])
     refine lh 13 (by kernel_rfl) (by kernel_rfl) rfl (fun K hK=>?_);refine Z3_ wy (by rfl) _ _ 29 (by rfl) w2.heap.size 53 (.string ⟨#[]⟩) 1 16 underlying29 Z1K (by rfl) (by decide) u5 numC (fG xss k A B i j) (ea xss k rr cc) #[.string (aD (ea xss k rr cc))] 53 (by rfl) (HBI.ext (Hid.out (p:=aC wi wy) (by assumption))) (by rfl) (by rfl) (by simp [Value.oneCell']) (fun _ _=>rfl) HLL (by decide) (oI HSZ (Hid.out (p:=aC wi wy) (by assumption)).size) ?_;intro v' w6 pF qW hb6 zD _;rw [<- HST.out] at pF;have HB6:=n8 pF;have HX6:Hid (aC w2 w6):=Below.trans (pU.trans (Hid.out (p:=aC wi wy) (by assumption))) hb6;clear pF qW hb6;refine hK _ _ ?_;clear hK K
     (try simp only [Act.put,aK,aL,aM])
     refine fL 14 (by kernel_rfl) (by kernel_rfl) (by kernel_rfl) rfl (fun K hK=>?_);go_simp;refine hK _ _ ?_;clear hK K
     (try simp only [Act.put,aK,aL,aM])
     go_wp2_with fail;go_roundw
     case rel=>exact ⟨j+1,by omega,by go_num,HX6,HB6⟩
     case measure=>simp [intOf];omega
    ·obtain rfl:j=nb:=by omega
     rw [HNB.out,HROW.out] at HBI;go_wp2_with fail;go_roundw
     case rel=>exact ⟨i+1,by omega,by go_num,pU,HBI⟩
     case measure=>simp [intOf];omega
  ·obtain rfl:i=na:=by omega
   rw [HNA.out,<- Et.out] at HBO;have HX:=n8 (HE2.trans rl);go_wp2_with fail;go_ret;exact ⟨_,rfl,HBO.list,HX⟩
theorem eT (w:World) (x y z:Value):∃ W,(w.alloc (.cells #[x,y,z] 37))=W/\aC w W/\W.heap.size=w.heap.size+1/\W.heap[w.heap.size]?=some (.cells #[x,y,z] 37 (0,0)) :=
 ⟨_,rfl,aC.alloc _ _,by simp,ic _ _ _⟩
theorem gu {w:World} {B:Nat} {x y z:Value} {T:TypeId} (h:w.heap[B]?=some (.cells #[x,y,z] T (0,0))) (a b c:Value):(((w.setCell ⟨B,0,none⟩ a).setCell ⟨B,1,none⟩ b).setCell ⟨B,2,none⟩ c).heap[B]?=some (.cells #[a,b,c] T (0,0)):=by
 have:=fA (fA (fA h 0 a) 1 b) 2 c;simpa using this
theorem J9_ (n k:Int) (a:Option Addr) (l c:Nat) (w:World) :
  oW 18 #[.agg #[.int .i64 n,.int .i64 k,.slice a l c]] w (.agg #[.int .i64 n,.int .i64 k,.slice a l c]):=by
 obtain ⟨w1,o4,hE1,hs1,hb1⟩:=eT w (.int .i64 n) (.int .i64 k) (.slice a l c);obtain ⟨w2,pZ,oY,hs2,hb2⟩:=eF w1 (.int .i64 0) (.int .i64 0) (.slice none 0 0);have HE2:=n8 (hE1.trans oY);have HB1:=n8 (aO hb1 oY);have k1:=aN HB1;have HS1:Hid (w1.heap.size=w.heap.size+1):=hs1;have hb3:=gV hb2 (.int .i64 n) (.int .i64 k) (.slice a l c);rw [hs1] at hb3;have HB3:=n8 hb3;have hb2':=hb2;rw [hs1] at hb2';have k2:=aN hb2';have f2:=cD hb2';clear hb1 hE1 oY hs2 hb2 hb2' hb3
 go_enter func18,ntmps18
 go_wp2_with fail;refine bodyPost_ret (results_cell_row (by rfl) _ _ (w.heap.size+1) 31 #[.int .i64 n,.int .i64 k,.slice a l c] (0,0) _ (by rfl) HB3 underlying31 (by rfl) (by kernel_rfl)) (by rfl) ⟨rfl,dW HE2 (by omega) _ _ _⟩
theorem U7_ (n k:Int) (a:Option Addr) (l c:Nat) (w:World) :
  oW 23 #[.agg #[.int .i64 n,.int .i64 k,.slice a l c]] w (.agg #[.int .i64 n,.int .i64 k,.slice a l c]):=by
 obtain ⟨w1,o4,hE1,hs1,hb1⟩:=eF w (.int .i64 n) (.int .i64 k) (.slice a l c);obtain ⟨w2,pZ,oY,hs2,hb2⟩:=eT w1 (.int .i64 0) (.int .i64 0) (.slice none 0 0);have HE2:=n8 (hE1.trans oY);have HB1:=n8 (aO hb1 oY);have k1:=aN HB1;have HS1:Hid (w1.heap.size=w.heap.size+1):=hs1;have hb3:=gu hb2 (.int .i64 n) (.int .i64 k) (.slice a l c);rw [hs1] at hb3;have HB3:=n8 hb3;have hb2':=hb2;rw [hs1] at hb2';have k2:=aN hb2';have f2:=cD hb2';clear hb1 hE1 oY hs2 hb2 hb2' hb3
 go_enter func23,ntmps23
 go_wp2_with fail;refine bodyPost_ret (results_cell_row (by rfl) _ _ (w.heap.size+1) 37 #[.int .i64 n,.int .i64 k,.slice a l c] (0,0) _ (by rfl) HB3 underlying37 (by rfl) (by kernel_rfl)) (by rfl) ⟨rfl,dW HE2 (by omega) _ _ _⟩
theorem H2_ (xss:List (List Int)) (n:Nat) (v:Value) (w:World) (h:bQ w v xss) (hE:bw xss=0) (hc:∀ r∈xss,r.length=n) (hk:xss.length<=n) (ht:af w) :
  Calls prog 19 #[v,.int .i64 n] w fun e w'=>∃ a c,e=.returned (.agg #[.int .i64 n,.int .i64 xss.length,.slice a (dQ xss xss.length).length c])/\aI 1 numC w' (.slice a (dQ xss xss.length).length c) (dQ xss xss.length)/\aC w w':=by
 obtain ⟨w1,o4,hE1,hs1,hb1⟩:=eT w (.int .i64 0) (.int .i64 0) (.slice none 0 0);have HE1:=n8 hE1;have HB1:=n8 hb1;have k1:=aN hb1;have f1:=cD hb1;have HV:=n8 h;obtain ⟨av,cv,rfl,v1,v2,-,-⟩:=bT.open h;unfold maxLen at v2;by_cases hx:xss=[]
 ·subst hx;have HL:Hid (aI 1 numC (w1.alloc (.cells #[.string ⟨#[49]⟩] 53)) (.slice (some ⟨w1.heap.size,0,none⟩) 1 1) [1]):=nT w1 [1] _ _ 1 (by simp [Z68.2.1]) rfl (by decide);obtain ⟨w2,pZ⟩:∃ L,w1.alloc (.cells #[.string ⟨#[49]⟩] 53)=L:=⟨_,rfl⟩;have HE2:Hid (aC w1 w2):=by rw [<- pZ];exact aC.alloc _ _
  rw [pZ] at HL;have HB2:=n8 (aO HB1 HE2);have k2:=aN HB2;have f2:=cD HB2;have hm:dQ [] 0=[1]:=Z0n;have HM:=n8 hm;rw [hs1] at HL;have hb3:=gu HB2 (.int .i64 n) (.int .i64 0) (.slice (some ⟨w.heap.size+1,0,none⟩) 1 1);have HB3:=n8 hb3;have HS1:Hid (w1.heap.size=w.heap.size+1):=hs1;have HE0:Hid (aC w w2):=HE1.trans HE2;clear hb1 hE1 hb3 hm k1 f1 h hE hc ht
  go_enter func19,ntmps19
  go_wp2_with fail;rw [HM.out];refine bodyPost_ret (results_cell_row (by rfl) _ _ w.heap.size 37 #[.int .i64 n,.int .i64 0,.slice (some ⟨w.heap.size+1,0,none⟩) 1 1] (0,0) _ (by rfl) HB3 underlying37 (by rfl) (by kernel_rfl)) (by rfl) ⟨_,_,rfl,gZ HL HB2 (gU 0 0) (en _ _ _ _ _),dW HE0 (oJ _) _ _ _⟩
 ·have rq:xss.length<=bY xss:=by
   cases xss with
   | nil=>exact absurd rfl hx
   | cons r l=>show _<=r.length;rw [hc r (List.mem_cons_self ..)];exact hk
  have HMI:Hid (∀ W,aC w W->Calls prog 55 #[.slice av xss.length cv,.int .i64 (xss.length:Int)] W fun e w'=>∃ u,e=.returned u/\aI 1 numC w' u (dQ xss xss.length)/\aC W w'):=fun W hW=>x8_ xss xss.length _ W (HV.ext hW) hE (oJ _) rq (ht.ext hW);have yZ:((xss.length:Int) == 0)=false:=by
   have:xss.length≠0:=fun e=>hx (List.eq_nil_of_length_eq_zero e);simp;exact hx
  obtain ⟨MS,DR⟩:∃ M,dQ xss xss.length=M:=⟨_,rfl⟩;rw [DR] at HMI |-;obtain ⟨k,hk9⟩:∃ k,xss.length=k:=⟨_,rfl⟩;rw [hk9] at HMI yZ |-;obtain ⟨lm,zN⟩:∃ l,MS.length=l:=⟨_,rfl⟩;have HLM:=n8 zN;rw [zN];clear hb1 hE1 h hE hc ht DR hk rq hx v1 hk9 HV zN
  go_enter func19,ntmps19
  go_wp2_with fail;refine (HMI _ HE1).mono ?_;rintro e w3 ⟨u,rfl,hu,oh⟩;have HU:=n8 hu;obtain ⟨a3,c3,rfl,-⟩:=aI.open hu;have HE3:Hid (aC w w3):=HE1.trans oh;have HB3:=n8 (aO HB1 oh);have k3:=aN HB3;have f3:=cD HB3;rw [HLM.out] at HU |-;have HB4:=n8 (gu HB3 (.int .i64 n) (.int .i64 k) (.slice a3 lm c3));clear oh hu HMI k1 f1;go_wp2_with fail;refine bodyPost_ret (results_cell_row (by rfl) _ _ w.heap.size 37 #[.int .i64 n,.int .i64 k,.slice a3 lm c3] (0,0) _ (by rfl) HB4 underlying37 (by rfl) (by kernel_rfl)) (by rfl) ⟨_,_,rfl,gZ HU HB3 (gU 0 0) (en _ _ _ _ _),dW HE3 (oJ _) _ _ _⟩
theorem H6_ {n k:Nat} (hn:n<7) (hk:k<=n):mP (aJ n k)=bV (bH n k):=by
 rw [<- nj hn hk];unfold mP bV bC;rw [List.map_map];rfl
theorem h5_:∀ n,n<5->∀ k,k<n+1->(aJ n k).length<=6:=by decide +kernel
theorem Z6J (w:World) (C:Array Value) (T:TypeId):∃ W,(w.alloc (.cells C T))=W/\aC w W/\W.heap.size=w.heap.size+1/\W.heap[w.heap.size]?=some (.cells C T (0,0)) :=
 ⟨_,rfl,aC.alloc _ _,by simp,ic _ _ _⟩
theorem Z0d (x y dim:Int) (z0 z1 z2 z3 z4 z5:Int) (n k:Nat) (hx:0<=x/\x<=255) (hy:0<=y/\y<=255) (hz:∀ a∈[z0,z1,z2,z3,z4,z5],-128<=a/\a<=127) (hn:n<5) (vh:dim=n\/(dim=-1/\x.tmod 5=n)) (hk:(k:Int)=y.tmod ((n:Int)+1)) (w:World) (ht:af w) :
  Calls prog 27 #[.agg #[.int .u8 x,.int .u8 y,.int .i8 z0,.int .i8 z1,.int .i8 z2,.int .i8 z3,.int .i8 z4,.int .i8 z5],.int .i64 dim] w fun e w'=>∃ a c,e=.returned (.agg #[.int .i64 n,.int .i64 k,.slice a (aJ n k).length c])/\aI 1 numC w' (.slice a (aJ n k).length c) ([z0,z1,z2,z3,z4,z5].take (aJ n k).length)/\aC w w':=by
 have hkn:k<=n:=by
  have h1:=Int.tmod_lt_of_pos y (show 0<(n:Int)+1 by omega);omega
 have h6:=h5_ n hn k (by omega);obtain ⟨N,hN⟩:∃ N,(aJ n k).length=N:=⟨_,rfl⟩;have HZB:=n8 hz;have HSE:Hid (∀ W,Calls prog 33 #[.int .i64 (n:Int),.int .i64 (k:Int)] W fun e w'=>∃ a c,e=.returned (.slice a N c)/\aC W w'):=fun W=>(nd n k (by omega) hkn W).mono fun e w' ⟨v,h1,h2,h3⟩=>by
  rw [<- H6_ (by omega) hkn] at h2;obtain ⟨a,c,rfl,-⟩:=aI.open h2;have hl:(mP (aJ n k)).length=N:=by unfold mP;rw [List.length_map];exact hN
  rw [hl] at h1;exact ⟨a,c,h1,h3⟩
 rw [hN] at h6 |-;have HT:=n8 ht;obtain ⟨w1,o4,hE1,hs1,hb1⟩:=Z6J w #[.int .u8 x,.int .u8 y,.int .i8 z0,.int .i8 z1,.int .i8 z2,.int .i8 z3,.int .i8 z4,.int .i8 z5] 49;obtain ⟨w2,pZ,oY,hs2,hb2⟩:=eF w1 (.int .i64 0) (.int .i64 0) (.slice none 0 0);have HE2:=n8 (hE1.trans oY);have HB1:=n8 (aO hb1 oY);have HB2:=n8 hb2;have HS1:Hid (w1.heap.size=w.heap.size+1):=hs1;have HS2:Hid (w2.heap.size=w1.heap.size+1):=hs2;obtain ⟨D,hD⟩:∃ D,[z0,z1,z2,z3,z4,z5]=D:=⟨_,rfl⟩;have NI:Hid (∀ W,aC w2 W->∀ i y',D[i]?=some y'->W.cell? ⟨w.heap.size,2+i,none⟩=some (.int .i8 y')):=fun W hW i y' hi=>by
  rw [aN (aO HB1.out hW),<- Option.map_some (f:=Value.int .i8),<- hi,<- hD]
  match i with
  | 0=>rfl
  | 1=>rfl
  | 2=>rfl
  | 3=>rfl
  | 4=>rfl
  | 5=>rfl
  | i+6=>simp;try omega
 have HD6:Hid (D.length=6):=by unfold Hid;rw [<- hD];rfl
 rw [hD] at HZB |-;have c0:=aN HB1 0;have c1:=aN HB1 1;simp only [oQ,oO,oP] at c0 c1;have e1:IntKind.i64.wrap ((n:Int)+1)=(n:Int)+1:=by rw [IntKind.wrap_i64];omega
 have e2:y.tmod ((n:Int)+1)=(k:Int):=hk.symm;have e3:((n:Int)+1 == 0)=false:=by simp;omega
 have OG:¬ (n:Int)+1=0:=by omega
 obtain ⟨w3,hw3,oh,hs3,hb3⟩:=eF w2 (.int .i64 0) (.int .i64 0) (.slice none 0 0);have HE3:=n8 oh;have HB3:=n8 hb3;have f3:=cD hb3;have k3:=aN hb3;clear hb1 hb2 hE1 oY hs2 hN hD hz hk ht oh hs3 hb3
 go_enter func27,ntmps27
 go_upto_if 9 with fail
 go_cut [1] from 10 to 13 (fun s1 wx=>s1=.int .i64 n/\wx=w2)
 case first =>
  rcases vh with vh | ⟨vh,hxm⟩
  ·subst vh;have q1:¬ (n:Int)<0:=by omega
   go_wp2_with fail;go_meet;exact ⟨rfl,rfl⟩
  ·subst vh;have q1:IntKind.u8.wrap (x.tmod 5)=(n:Int):=by rw [hxm,IntKind.wrap_u8];omega
   have q2:IntKind.i64.wrap (n:Int)=(n:Int):=by rw [IntKind.wrap_i64];omega
   go_wp2_with fail;go_meet;exact ⟨rfl,rfl⟩
 case rest =>
 obtain ⟨rfl,wV⟩:=hcut;obtain rfl:=wV.symm;clear o4 pZ vh
 go_upto_region 4 with fail
 generalize pO:World.setCell _ _ _=w5;have HB5:Hid (w5.heap[w2.heap.size]?=some (.cells #[.int .i64 n,.int .i64 k,.slice none 0 0] 31 (0,0))):=by rw [<- pO];exact gV HB3 _ _ _
 have ou:aC w2 w5:=by rw [<- pO];exact dW HE3 (oJ _) _ _ _
 have HX25:=n8 ou;have HE5:Hid (aC w w5):=HE2.trans ou;have HB25:=n8 (aO HB2 ou);clear pO hw3 k3 f3 c0 c1 ou;obtain ⟨w3,zr⟩:∃ w3,w3=w2:=⟨_,rfl⟩;have HW3:=n8 zr;have d0:=aN HB5 0;have d1:=aN HB5 1;simp only [oQ,oO,oP] at d0 d1;rw [<- zr] at HB5 d0 d1 |-;clear zr;go_wp2_with fail;refine (HSE w5).mono ?_;rintro e w7 ⟨a7,c7,rfl,h7⟩;have Hc:Hid (aC w2 w7):=HX25.trans h7;have HE7:Hid (aC w w7):=HE5.trans h7;have HB7:=n8 (aO HB5 h7);have HB27:=n8 (aO HB25 h7);have HBL:Hid (w3.heap.size<w7.heap.size):=dS HB7;have HS3:Hid (w1.heap.size<w3.heap.size/\w.heap.size<w3.heap.size/\w.heap.size<w1.heap.size):=by rw [HW3.out];have:=HS2.out;have:=HS1.out;unfold Hid;omega
 have HDM:Hid (∀ i,(D.take i).length<1000000):=by intro i;rw [oF,HD6.out];omega
 clear h7 HSE d0 d1;go_wp2_with fail
 go_loopw [7] (fun t wr=>∃ i:Nat,i<=N/\t=.int .i64 (i:Int)/\Hid (aP (·=w3.heap.size) w7 wr)/\Hid (∃ so,wr.heap[w3.heap.size]?=some (.cells #[.int .i64 n,.int .i64 k,so] 31 (0,0))/\aZ wr w7.heap.size 53 1 so numC (D.take i))) (fun t _=>N+1-(intOf t).toNat)
 case atStart=>exact ⟨0,by omega,by simp,aP.refl _ _,_,HB7,aZ.nil _ _ _ _ _⟩
 case round =>
  obtain ⟨i,hi,rfl,HG,HBB⟩:=hrel;by_cases hlt:i<N
  ·obtain ⟨y',EF⟩:∃ y',D[i]?=some y':=⟨D[i]'(by rw [HD6.out];omega),n9 _⟩;have hyb:=HZB y' (oD EF);have hst:D.take (i+1)=D.take i++[y']:=by rw [oG,EF];rfl
   have HST:=n8 hst;have z2:=HG.cell (NI w7 Hc i y' EF) (by have:=HS3.out;omega);have HOF:Hid (∀ W,aC wr W->oW 69 #[.int .i64 y'] W (.string (aD y'))):=fun W hW=>mI y' W (by omega) (by omega) (HT.ext ((jP HE7 HG (fun j hj e=>by have:=HS3.out;omega)).trans hW));obtain ⟨so,o5,pC⟩:=HBB.out;obtain ⟨ao,co,rfl,-⟩:=aI.open pC.list;obtain ⟨m,hm⟩:∃ m,(D.take i).length=m:=⟨_,rfl⟩;rw [hm] at o5 pC;have HBK:=n8 o5;have HB:=n8 pC;have z1:=aN o5 2;simp only [oQ,oO,oP] at z1;have sP:Hid ((D.take i).length<1000000):=HDM i;have HSZ:Hid (w7.heap.size<=wr.heap.size):=HG.size;have e5:(i:Int).tmod 6=(i:Int):=Int.tmod_eq_of_lt (by omega) (by omega);have e6:IntKind.i64.wrap y'=y':=by rw [IntKind.wrap_i64];omega
   have Ns:i<6:=by omega
   have Lh:(i:Int)<6:=by omega
   obtain ⟨y,E3⟩:∃ y,y=y':=⟨_,rfl⟩;obtain rfl:=E3;clear EF hyb hst o5 pC hm HBB
   go_upto_region 8 with fail
   refine iP (fun w'=>w'.cell? ⟨w3.heap.size,2,none⟩=some (.slice ao m co)/\w'.cell? ⟨w.heap.size,2+i,none⟩=some (.int .i8 y)/\Hid (aC wr w')) 10 (by kernel_rfl) ⟨(aC.drew wr).cell z1,(aC.drew wr).cell z2,aC.drew wr⟩ (fun oX=>?_);refine rA [0,1,2,3,4,5,6,7] ?_
   iterate 8 ((first|(refine rL (v:=?_) (by rfl) (Or.inl ⟨by rfl,?_⟩) ?_;rotate_left;·((intro w' oz);(try dsimp only at oz);(try go_simp);(try with_reducible rfl)))|(refine rW (v:=?_) (by rfl) (Or.inl ⟨by rfl,?_⟩) ?_;rotate_left;·((intro w');(try go_simp);(try with_reducible rfl))));(try simp only [Act.put,aK,aL,aM]))
   refine rE ?_;refine dO 8 (by kernel_rfl) rfl (fun K hK=>?_);go_simp
   (go_at_call 69;refine (HOF _ (oX.2.2)).mono ?_)
   rintro e wy ⟨rfl,om⟩;go_wp2_with fail;refine hK _ _ ⟨(om).cell oX.1,(om).cell oX.2.1,aC.trans oX.2.2 (om)⟩ (fun oX=>?_);clear hK K
   (try simp only [Act.put,aK,aL,aM])
   have qs:Hid (aC wr wy):=oX.2.2;refine dO 9 (by kernel_rfl) rfl (fun K hK=>?_);go_simp;refine hK _ _ ⟨(aC.alloc _ _).cell oX.1,(aC.alloc _ _).cell oX.2.1,aC.trans oX.2.2 (aC.alloc _ _)⟩ (fun oX=>?_);clear hK K
   (try simp only [Act.put,aK,aL,aM])
   refine lh 10 (by kernel_rfl) (by kernel_rfl) rfl (fun K hK=>?_);refine Z3_ wy (by rfl) _ _ 29 (by rfl) w7.heap.size 53 (.string ⟨#[]⟩) 1 16 underlying29 ik (by rfl) (by decide) (.slice ao m co) numC (D.take i) y #[.string (aD y)] 53 (by rfl) (HB.ext qs) (by rfl) (by rfl) (by simp [Value.oneCell']) (fun _ _=>rfl) sP (by decide) (oI HSZ qs.size) ?_;intro v' w6 pF qW hb6 zD _;rw [<- HST.out] at pF;have HB6:=n8 pF;have HG6:Hid (aP (·=w3.heap.size) w7 w6):=(HG.ext qs).thenBelow hb6 (oJ _);have HK6:=n8 ((Below.block hb6 w3.heap.size HBL).trans (aO HBK qs));obtain ⟨a6,c6,rfl,-⟩:=aI.open pF.list;obtain ⟨m6,sl⟩:∃ m,(D.take (i+1)).length=m:=⟨_,rfl⟩;rw [sl] at HB6 |-;clear sl pF qW hb6;have k6:=aN HK6;have f6:=cD HK6;refine hK _ _ ?_;clear hK K
   (try simp only [Act.put,aK,aL,aM])
   refine lh 11 (by kernel_rfl) (by kernel_rfl) rfl (fun K hK=>?_);go_simp;refine hK _ _ ?_;clear hK K
   (try simp only [Act.put,aK,aL,aM])
   refine fL 12 (by kernel_rfl) (by kernel_rfl) (by kernel_rfl) rfl (fun K hK=>?_);go_simp;refine hK _ _ ?_;clear hK K
   (try simp only [Act.put,aK,aL,aM])
   go_wp2_with fail;go_roundw
   case rel=>exact ⟨i+1,by omega,by go_num,HG6.trans (f_ (eJ _ _ _ _) (fun k hk=>by cases hk;rfl)),_,fA HK6 2 _,HB6.boxAt HBL 2 _⟩
   case measure=>simp [intOf];omega
  ·obtain rfl:i=N:=by omega
   obtain ⟨so,o5,pC⟩:=HBB.out;obtain ⟨ao,co,rfl,-⟩:=aI.open pC.list;have hml:(D.take i).length=i:=by rw [oF,HD6.out];omega
   rw [hml] at o5 pC;have HF:=n8 pC.list;have HE9:Hid (aC w wr):=jP HE7 HG (fun j hj e=>by have:=HS3.out;omega);have qd:Hid (wr.heap[w.heap.size+1]?=some (.cells #[.int .i64 0,.int .i64 0,.slice none 0 0] 31 (0,0))):=by
    unfold Hid;rw [<- HS1.out,<- HB27.out];exact HG.block _ (dS HB27) (by have:=HS3.out;omega)
   have kk:=aN o5;have f9:=cD qd;have k9:=aN qd;clear o5 pC HBB hml;go_wp2_with fail;have hb7:=gV qd (.int .i64 n) (.int .i64 k) (.slice ao i co);refine bodyPost_ret (results_cell_row (by rfl) _ _ (w.heap.size+1) 31 #[.int .i64 n,.int .i64 k,.slice ao i co] (0,0) _ (by rfl) hb7 underlying31 (by rfl) (by kernel_rfl)) (by rfl) ⟨_,_,rfl,gZ HF qd (gU 0 0) (en _ _ _ _ _),dW HE9 (by omega) _ _ _⟩
theorem v7_:∀ n,n<7->∀ k,k<n+1->0<(aJ n k).length:=by decide +kernel
theorem x9_ (n k:Nat) (hn:n<7) (hk:k<=n) (w:World) :
  Calls prog 66 #[.int .i64 n,.int .i64 k] w fun e w'=>∃ g c,e=.returned (.agg #[.int .i64 n,.int .i64 k,.slice (some ⟨g,0,none⟩) (aJ n k).length c])/\dJ w' g (List.replicate (aJ n k).length 0)/\w.heap.size<g/\g<w'.heap.size/\(aJ n k).length<=c/\c<=9223372036854775807/\aC w w':=by
 obtain ⟨N,hN⟩:∃ N,(aJ n k).length=N:=⟨_,rfl⟩;have hNp:=v7_ n hn k (by omega);have hN9:=jI (n:=n) (k:=k) (by omega) hk;rw [hN] at hNp hN9 |-;have HSE:Hid (∀ W,Calls prog 33 #[.int .i64 (n:Int),.int .i64 (k:Int)] W fun e w'=>∃ a c,e=.returned (.slice a N c)/\aC W w'):=fun W=>(nd n k (by omega) hk W).mono fun e w' ⟨v,h1,h2,h3⟩=>by
  rw [<- H6_ (by omega) hk] at h2;obtain ⟨a,c,rfl,-⟩:=aI.open h2;have hl:(mP (aJ n k)).length=N:=by unfold mP;rw [List.length_map];exact hN
  rw [hl] at h1;exact ⟨a,c,h1,h3⟩
 obtain ⟨w1,o4,hE1,hs1,hb1⟩:=eT w (.int .i64 0) (.int .i64 0) (.slice none 0 0);obtain ⟨w2,pZ,oY,hs2,hb2⟩:=eT w1 (.int .i64 0) (.int .i64 0) (.slice none 0 0);have HE2:=n8 oY;have HB1:=n8 hb1;have HB2:=n8 hb2;have HE1:=n8 hE1;have HS1:Hid (w1.heap.size=w.heap.size+1):=hs1;have f2:=cD hb2;have k2:=aN hb2;clear hb1 hb2 hE1 oY hs2 hN hn hk hs1
 go_enter func66,ntmps66
 go_upto_region 2 with fail
 generalize pO:World.setCell _ _ _=w5;have HB5:Hid (w5.heap[w1.heap.size]?=some (.cells #[.int .i64 n,.int .i64 k,.slice none 0 0] 37 (0,0))):=by rw [<- pO];exact gu HB2 _ _ _
 have HX25:Hid (aC w1 w5):=by rw [<- pO];exact dW HE2 (oJ _) _ _ _
 have HE5:Hid (aC w w5):=HE1.trans HX25;have HB15:=n8 (aO HB1 HX25);obtain ⟨b2,hb2⟩:∃ b,w1.heap.size=b:=⟨_,rfl⟩;clear pO pZ k2 f2 o4;rw [hb2] at HB5 HS1;go_wp2_with fail;refine (HSE w5).mono ?_;rintro e w7 ⟨a7,c7,rfl,h7⟩;have HE7:Hid (aC w w7):=HE5.trans h7;have HB7:=n8 (aO HB5 h7);have HB17:=n8 (aO HB15 h7);have HBL:Hid (b2<w7.heap.size):=dS HB7;clear h7 HSE;go_wp2_with fail
 (try rw [hb2])
 clear hb2
 go_loopw [7] (fun t wr=>∃ i:Nat,i<=N/\t=.int .i64 (i:Int)/\Hid (aP (·=b2) w7 wr)/\Hid (∃ so,wr.heap[b2]?=some (.cells #[.int .i64 n,.int .i64 k,so] 37 (0,0))/\aZ wr w7.heap.size 53 1 so numC (List.replicate i 0))) (fun t _=>N+1-(intOf t).toNat)
 case atStart=>exact ⟨0,by omega,by simp,aP.refl _ _,_,HB7,aZ.nil _ _ _ _ _⟩
 case round =>
  obtain ⟨i,hi,rfl,HG,HBB⟩:=hrel;by_cases hlt:i<N
  ·have hst:List.replicate (i+1) (0:Int)=List.replicate i 0++[0]:=List.replicate_succ';have HST:=n8 hst;obtain ⟨so,o5,pC⟩:=HBB.out;obtain ⟨ao,co,rfl,-⟩:=aI.open pC.list;obtain ⟨L,hL⟩:∃ L,List.replicate i (0:Int)=L:=⟨_,rfl⟩;have zZ:L.length=i:=by rw [<- hL,List.length_replicate]
   rw [hL] at o5 pC HST;rw [zZ] at o5 pC;have HBK:=n8 o5;have HB:=n8 pC;have z1:=aN o5;have sP:Hid (L.length<1000000):=by unfold Hid;omega
   have HSZ:Hid (w7.heap.size<=wr.heap.size):=HG.size;clear hst o5 pC hL zZ HBB;go_wp2_with (at_builtin;go_must (refine ee wr rfl _ _ 29 rfl w7.heap.size 53 (.string ⟨#[]⟩) 1 16 underlying29 ik rfl (by decide) (.slice ao i co) numC L (0:Int) #[.string ⟨#[48]⟩] 53 rfl HB rfl rfl ?c1 ?c2 sP (by decide) HSZ ?_))
   case c1=>simp [Value.oneCell']
   case c2=>exact fun _ _=>by show [Value.string ⟨#[48]⟩]=[.string (aD 0)];rw [show aD 0=⟨#[48]⟩ by decide +kernel]
   intro v' w6 pF qW hb6 zD _;rw [<- HST.out] at pF;have HB6:=n8 pF;have HG6:Hid (aP (·=b2) w7 w6):=HG.thenBelow hb6 (oJ _);have HK6:=n8 ((Below.block hb6 b2 HBL).trans HBK);obtain ⟨a6,c6,rfl,-⟩:=aI.open pF.list;obtain ⟨m6,sl⟩:∃ m,(List.replicate (i+1) (0:Int)).length=m:=⟨_,rfl⟩;rw [sl] at HB6 |-;clear sl pF qW hb6;have k6:=aN HK6;have f6:=cD HK6;go_wp2_with fail;go_roundw
   case rel=>exact ⟨i+1,by omega,by go_num,HG6.trans (f_ (eJ _ _ _ _) (fun k hk=>by cases hk;rfl)),_,fA HK6 2 _,HB6.boxAt HBL 2 _⟩
   case measure=>simp [intOf];omega
  ·obtain rfl:i=N:=by omega
   obtain ⟨so,o5,pC⟩:=HBB.out;obtain ⟨g,c,Ir,hRN,qe,yB,hcm⟩:=dJ.of_build pC (by rw [List.length_replicate];exact hNp);rw [List.length_replicate] at Ir yB;subst Ir;have HE9:Hid (aC w wr):=jP HE7 HG (fun j hj e=>by have:=HS1.out;omega);have BO:Hid (wr.heap[w.heap.size]?=some (.cells #[.int .i64 0,.int .i64 0,.slice none 0 0] 37 (0,0))):=by
    unfold Hid;rw [<- HB17.out];exact HG.block _ (dS HB17) (by have:=HS1.out;omega)
   have HRN:=n8 hRN;have HGB:=n8 qe;have HGC:=n8 yB;have HCM:=n8 hcm;have hgl:Hid (w.heap.size<g):=by unfold Hid;have:=HBL.out;have:=HS1.out;omega
   have kk:=aN o5;have f9:=cD BO;have k9:=aN BO;clear o5 pC HBB hRN qe yB hcm;go_wp2_with fail;have hb7:=gu BO (.int .i64 n) (.int .i64 k) (.slice (some ⟨g,0,none⟩) i c);refine bodyPost_ret (results_cell_row (by rfl) _ _ w.heap.size 37 #[.int .i64 n,.int .i64 k,.slice (some ⟨g,0,none⟩) i c] (0,0) _ (by rfl) hb7 underlying37 (by rfl) (by kernel_rfl)) (by rfl) ⟨g,c,rfl,HRN.grown (f_ (S:=(·=w.heap.size)) (en _ _ _ _ _) (fun k hk=>by cases hk;rfl)) (fun e=>by have:=hgl.out;omega),hgl.out,oH HRN.lt (en wr w.heap.size _ _ _).size,HGC,HCM,dW HE9 (oJ _) _ _ _⟩
theorem Z6_ (n k:Int) (X:List Int) (r:Value) (w:World) (h:aI 1 numC w r X) (hd:iB X) (ht:af w) :
  oW 41 #[.agg #[.int .i64 n,.int .i64 k,r]] w (.string (aD (az X:Int))):=by
 obtain ⟨a,c,rfl,h1,h2,-,hc⟩:=bT.open (eP.of_nums h);unfold maxLen at h2;have HC:=n8 hc;have HT:=n8 ht;have HDG:=n8 hd;obtain ⟨m,hm⟩:∃ m,X.length=m:=⟨_,rfl⟩;have HL:=n8 hm;rw [hm] at h1 |-;obtain ⟨w1,o4,hE1,hs1,hb1⟩:=eT w (.int .i64 n) (.int .i64 k) (.slice a m c);have HB:=n8 hb1;have HE1:=n8 hE1;have k1:=aN hb1;have hz:aD ((cM X 0:Nat):Int)=⟨#[48]⟩:=by
  rw [show cM X 0=0 from rfl];decide +kernel
 have HZ:=n8 hz;clear hb1 hE1 hs1 h hc hm hd ht hz
 go_enter func41,ntmps41
 go_wp2_with fail;clear k1 o4
 go_loopw [3,4] (fun s t wr=>∃ j:Nat,j<=m/\s=.string (aD (cM X j:Int))/\t=.int .i64 j/\Hid (aC w1 wr)) (fun _ t _=>m+1-(intOf t).toNat)
 case atStart=>exact ⟨0,by omega,by rw [HZ.out],rfl,by first | exact aC.refl _ | exact aC.drew _⟩
 case round =>
  obtain ⟨j,hj,rfl,rfl,HX⟩:=hrel;have k1:=aN (aO HB HX);by_cases hlt:j<m
  ·obtain ⟨x,hx⟩:∃ x,X[j]?=some x:=⟨_,n9 (by have:=HL.out;omega)⟩;obtain ⟨b,off,rfl,hb,hcell⟩:=HC (by intro e;rw [e] at hx;simp at hx);obtain ⟨z9,e1,g1⟩:=hcell j x hx;obtain rfl:z9=.string (aD x):=e1;have g1:=HX.cell (HE1.cell g1);have q1:(j:Int)<(m:Int):=by omega
   have h2:((cM X j:Nat):Int).natAbs<10^400:=by
    rw [Int.natAbs_natCast];exact K0_ (Nat.pow_pos (by decide)) HDG (by rw [HL.out];exact hj)
   have h9:=Z2w ((cM X j:Nat):Int) x wr (by have:=(fw h2).2;omega) (by have:=(fw (HDG x (oD hx))).2;omega) (HT.ext (HE1.trans HX));rw [Int.natAbs_natCast,<- kD hx] at h9;have h8:aE (cM X (j+1))=aD ((cM X (j+1):Nat):Int):=by rw [dC _ (by omega),Int.toNat_natCast]
   rw [h8] at h9;have HG:=n8 h9;obtain ⟨u1,hu1⟩:∃ u,aD ((cM X j:Nat):Int)=u:=⟨_,rfl⟩;obtain ⟨u2,yS⟩:∃ u,aD ((cM X (j+1):Nat):Int)=u:=⟨_,rfl⟩;obtain ⟨u3,zv⟩:∃ u,aD x=u:=⟨_,rfl⟩;have HU2:=n8 yS;rw [hu1,yS,zv] at HG;rw [hu1];rw [zv] at g1;clear hcell hx hb h2 h9 h8 hu1 yS zv;go_wp2_with fail;refine HG.mono ?_;rintro e w7 ⟨rfl,h7⟩;have HX7:Hid (aC w1 w7):=HX.trans h7;clear h7 HG;go_wp2_with fail;go_roundw
   case rel=>exact ⟨j+1,by omega,by rw [HU2.out],by go_num,HX7⟩
   case measure=>simp [intOf];omega
  ·obtain rfl:j=m:=by omega
   have HV:Hid (az X=cM X j):=by unfold Hid az;rw [HL.out]
   obtain ⟨u1,hu1⟩:∃ u,aD ((cM X j:Nat):Int)=u:=⟨_,rfl⟩;have HU1:=n8 hu1;rw [hu1];clear hu1;go_wp2_with fail;go_ret;exact ⟨by rw [HV.out,HU1.out];rfl,HE1.trans HX⟩
theorem Z3u (x d:Int) (hd:d≠0):(aD (aR x d)).size<=(aD x).size+2:=by
 have h1:(aR x d).natAbs<=x.natAbs+1:=by
  have h2:(x.tdiv d).natAbs<=x.natAbs:=by rw [Int.natAbs_tdiv];exact Nat.div_le_self _ _
  unfold aR
  split <;> omega
 have h3:=eK (aR x d);have h4:=gY h1;have h5:=Z9_ x.natAbs 1;have h6:(aE 1).size=1:=by decide +kernel
 have h7:=iw x;have h8:1<=(aE x.natAbs).size:=by rw [dz];exact Lib.nDigits_pos _
 by_cases h0:0<=aR x d
 ·rw [dC _ h0];have e:(aR x d).toNat=(aR x d).natAbs:=by omega
  rw [e];omega
 ·omega
theorem I9_ {n k:Nat} {X:List Int} (hX:iB X) (Gb:0<X.length) (tH:X.length<=924) (hd0:az X=0) (r:Value) (w:World) (h:aI 1 numC w r X) (ht:af w) :
  Calls prog 40 #[.agg #[.int .i64 n,.int .i64 k,r]] w fun e w'=>∃ y,e=.returned y/\aC w w'/\cL w' y n k (cO X):=by
 have HV:=n8 h;obtain ⟨a,c,rfl,h1,h2,-,hc⟩:=bT.open (eP.of_nums h);unfold maxLen at h2;have HC:=n8 hc;have HT:=n8 ht;have HDG:=n8 hX;obtain ⟨m,hm⟩:∃ m,X.length=m:=⟨_,rfl⟩;have HL:=n8 hm;rw [hm] at h1 Gb tH HV |-;obtain ⟨w1,o4,hE1,hs1,hb1⟩:=eT w (.int .i64 n) (.int .i64 k) (.slice a m c);obtain ⟨w2,pZ,oY,hs2,hb2⟩:=eT w1 (.int .i64 0) (.int .i64 0) (.slice none 0 0);obtain ⟨w3,hw3,oh,hs3,hb3⟩:=eT w2 (.int .i64 0) (.int .i64 0) (.slice none 0 0);have HE2:=n8 (hE1.trans oY);have HE3:=n8 oh;have HB1:=n8 (aO hb1 oY);have HB2:=n8 hb2;have HB3:=n8 hb3;have HSZ:Hid (w1.heap.size=w.heap.size+1/\w2.heap.size=w1.heap.size+1):=⟨hs1,hs2⟩;have c0:=aN HB1 0;have c1:=aN HB1 1;simp only [oQ,oO,oP] at c0 c1;have f3:=cD hb3;have k3:=aN hb3;have HCL:Hid ((cO X).length=m):=by unfold Hid;rw [A1_,HL.out]
 have HS0:Hid (cu (X.take 0)=0):=rfl;clear hb1 hb2 hb3 hE1 oY oh hs1 hs2 hs3 h hc hm hX ht
 go_enter func40,ntmps40
 go_upto_region 2 with fail
 generalize pO:World.setCell _ _ _=w5;have HB5:Hid (w5.heap[w2.heap.size]?=some (.cells #[.int .i64 n,.int .i64 k,.slice none 0 0] 37 (0,0))):=by rw [<- pO];exact gu HB3 _ _ _
 have HX25:Hid (aC w2 w5):=by rw [<- pO];exact dW HE3 (oJ _) _ _ _
 have HE5:Hid (aC w w5):=HE2.trans HX25;have HB15:=n8 (aO HB1 HX25);have HB25:=n8 (aO HB2 HX25);have k1:=aN HB15;clear pO hw3 k3 f3 c0 c1 o4 pZ;go_wp2_with fail;refine (Z6_ n k X _ w5 (aI.ext numC.mono' HV HE5) HDG (HT.ext HE5)).mono ?_;rintro e w7 ⟨rfl,h7⟩;have HE7:Hid (aC w w7):=HE5.trans h7;have HB17:=n8 (aO HB15 h7);have HB27:=n8 (aO HB25 h7);have HB7:=n8 (aO HB5 h7);have HBL:Hid (w2.heap.size<w7.heap.size):=dS HB7;obtain ⟨d,hd⟩:∃ d,az X=d:=⟨_,rfl⟩;have HD:=n8 hd;rw [hd] at hd0 |-;have HD0:=n8 hd0;have GJ:((aD (d:Int)).toList == [48])=true:=by rw [lz];exact oS (by omega)
 obtain ⟨ud,zu⟩:∃ u,aD (d:Int)=u:=⟨_,rfl⟩;have HUD:=n8 zu;rw [zu] at GJ |-;obtain ⟨b3,hb3⟩:∃ b,w2.heap.size=b:=⟨_,rfl⟩;rw [hb3] at HB7 HBL HB5;have HSB:Hid (w.heap.size<b3/\w1.heap.size<b3/\w.heap.size<=w1.heap.size):=by have:=HSZ.out;unfold Hid;omega
 clear h7 k1 hd zu hd0;go_wp2_with fail
 (try rw [hb3])
 clear hb3
 go_loopw [5,6,7] (fun s t o wr=>∃ (i:Nat) (v7:Value),i<=m/\s=.int .i64 (cu (X.take i))/\t=.int .i64 (i:Int)/\o=v7/\Hid (aP (·=b3) w7 wr)/\Hid (∃ so,wr.heap[b3]?=some (.cells #[.int .i64 n,.int .i64 k,so] 37 (0,0))/\aZ wr w7.heap.size 53 1 so numC ((cO X).take i))) (fun _ t _ _=>m+1-(intOf t).toNat)
 case atStart=>exact ⟨0,_,by omega,by rw [HS0.out],by simp,rfl,aP.refl _ _,_,HB7,aZ.nil _ _ _ _ _⟩
 case round =>
  obtain ⟨i,v7,hi,rfl,rfl,tD,HG,HBB⟩:=hrel;obtain rfl:=tD.symm;obtain ⟨wo,rfl⟩:∃ wo:World,wo=wr:=⟨_,rfl⟩;have CK:Hid (aC w wo):=jP HE7 HG (fun j hj e=>by have:=HSB.out;omega);have HB1o:=n8 ((HG.block w.heap.size (dS HB17) (by have:=HSB.out;omega)).trans HB17);have z1:=aN HB1o 2;simp only [oQ,oO,oP] at z1;by_cases hlt:i<m
  ·obtain ⟨x,hx⟩:∃ x,X[i]?=some x:=⟨_,n9 (by rw [HL.out];exact hlt)⟩;have hin:(i:Int)<(m:Int):=by omega
   obtain ⟨bx,ox,rfl,-,hcell⟩:=HC (by intro e;rw [e] at hx;simp at hx);obtain ⟨z9,e9,g9⟩:=hcell i x hx;obtain rfl:z9=.string (aD x):=e9;have g9:=CK.cell g9;have hst:=C9_ hx;have hcg:=g5_ hx;rw [HD.out] at hcg;obtain ⟨s0,hs0⟩:∃ s,cu (X.take i)=s:=⟨_,rfl⟩;obtain ⟨s1,hs1⟩:∃ s,cu (X.take (i+1))=s:=⟨_,rfl⟩;have HS1:=n8 hs1;rw [hs0,hs1] at hst;rw [hs1] at hcg;rw [hs0];obtain ⟨y,hy⟩:∃ y,x=y:=⟨_,rfl⟩;have tc:(cO X)[i]?=some (if s1<0 then -y else y):=by rw [hcg];rw [show (if d≠0 then aR x (d:Int) else x)=y from (if_neg (fun e=>e HD0.out)).trans hy]
   obtain ⟨z,hz⟩:∃ z,(if s1<0 then -y else y)=z:=⟨_,rfl⟩;rw [hz] at tc;have ym:(cO X).take (i+1)=(cO X).take i++[z]:=by rw [oG,tc];rfl
   have HTK:=n8 ym;have hdx:=HDG x (oD hx);have wU:(aD y).size<=1000000:=by
    rw [<- hy];have h5:=(fw hdx).2;omega
   have HSG:Hid (∀ W,Calls prog 86 #[.string (aD x)] W fun e w'=>e=.returned (.int .i64 x.sign)/\W=w'):=fun W=>nY x W;have rh:Hid (∀ W,Calls prog 72 #[.string (aD y)] W fun e w'=>e=.returned (.string (aD (-y)))/\W=w'):=fun W=>nW y W wU;obtain ⟨bz,zV⟩:∃ b,(s0 == 0)=b:=⟨_,rfl⟩;obtain ⟨bs,yG⟩:∃ b,decide (s1<0)=b:=⟨_,rfl⟩;have HZ1:Hid (bz=true->x.sign=s1):=fun e=>by rw [hst,if_pos (beq_iff_eq.1 (zV.trans e))]
   have HZ0:Hid (bz=false->s0=s1):=fun e=>by rw [hst,if_neg (beq_eq_false_iff_ne.1 (zV.trans e))]
   have HN1:Hid (bs=true->aD (-y)=aD z):=fun e=>by rw [<- hz,if_pos (of_decide_eq_true (yG.trans e))]
   have yt:Hid (bs=false->aD y=aD z):=fun e=>by rw [<- hz,if_neg (of_decide_eq_false (yG.trans e))]
   obtain ⟨ux,hux⟩:∃ u,aD x=u:=⟨_,rfl⟩;obtain ⟨uy,huy⟩:∃ u,aD y=u:=⟨_,rfl⟩;obtain ⟨uz,zs⟩:∃ u,aD z=u:=⟨_,rfl⟩;have HUZ:=n8 zs;obtain ⟨sx,hsx⟩:∃ s,x.sign=s:=⟨_,rfl⟩;rw [hux] at g9 HSG;rw [hsx] at HSG HZ1;rw [huy] at rh yt;rw [zs] at HN1 yt;have vp:Hid (ux=uy):=by unfold Hid;rw [<- hux,<- huy,hy]
   clear hcell hst hs0 hs1 hcg hy tc hz ym hdx wU hux huy zs hsx hx
   go_upto_if 28 with fail
   go_cut [5] from 29 to 30 (fun t wx=>t=.int .i64 s1/\wx=wo)
   case first =>
    cases bz with
    | true =>
     have e9:=HZ1 rfl;rw [e9] at HSG;clear e9;go_wp2_with fail;refine (HSG wo).mono ?_;rintro e w8 ⟨rfl,rfl⟩;go_wp2_with fail;go_meet;exact ⟨rfl,rfl⟩
    | false =>
     have e9:=HZ0 rfl;obtain rfl:=e9;go_wp2_with fail;go_meet;exact ⟨rfl,rfl⟩
   case rest =>
   obtain ⟨rfl,wV⟩:=hcut;obtain rfl:=wV.symm;clear HSG HZ1 HZ0
   go_upto_if 40 with fail
   obtain rfl:=vp.out;obtain ⟨wq,qM⟩:∃ wq:World,wq=wo:=⟨_,rfl⟩;have HQ:Hid (aC wo wq):=by rw [qM];exact aC.refl _
   rw [<- qM];clear qM
   go_cut [7] from 41 to 42 (fun t wx=>t=.string uz/\wx=wq)
   case first =>
    cases bs with
    | true =>
     have e9:=HN1 rfl;rw [e9] at rh;clear e9;go_wp2_with fail;refine (rh wq).mono ?_;rintro e w8 ⟨rfl,rfl⟩;go_wp2_with fail;go_meet;exact ⟨rfl,rfl⟩
    | false =>
     have e9:=yt rfl;obtain rfl:=e9;go_wp2_with fail;go_meet;exact ⟨rfl,rfl⟩
   case rest =>
   obtain ⟨rfl,wV⟩:=hcut;obtain rfl:=wV.symm;clear rh HN1 yt;obtain ⟨so,o5,pC⟩:=HBB.out;obtain ⟨ao,co,rfl,-⟩:=aI.open pC.list;obtain ⟨L9,Am⟩:∃ L,(cO X).take i=L:=⟨_,rfl⟩;have zZ:L9.length=i:=by rw [<- Am,oF,HCL.out];omega
   rw [Am] at o5 pC HTK;rw [zZ] at o5 pC;have HBK:=n8 (aO o5 HQ);have HB:=n8 (pC.ext HQ);have z1:=aN HBK;have sP:Hid (L9.length<1000000):=by unfold Hid;omega
   have Dy:Hid (aP (·=b3) w7 wq):=HG.ext HQ;have A5:Hid (w7.heap.size<=wq.heap.size):=Dy.size;clear o5 pC Am zZ HBB;go_wp2_with (at_builtin;go_must (refine ee wq rfl _ _ 29 rfl w7.heap.size 53 (.string ⟨#[]⟩) 1 16 underlying29 ik rfl (by decide) (.slice ao i co) numC L9 z #[.string uz] 53 rfl HB rfl rfl ?c1 ?c2 sP (by decide) A5 ?_))
   case c1=>simp [Value.oneCell']
   case c2=>exact fun _ _=>by show [Value.string uz]=[.string (aD z)];rw [HUZ.out]
   intro v' w6 pF qW hb6 zD _;rw [<- HTK.out] at pF;have HB6:=n8 pF;have HG6:Hid (aP (·=b3) w7 w6):=Dy.thenBelow hb6 (oJ _);have HK6:=n8 ((Below.block hb6 b3 HBL).trans HBK);obtain ⟨a6,c6,rfl,-⟩:=aI.open pF.list;obtain ⟨m6,sl⟩:∃ m,((cO X).take (i+1)).length=m:=⟨_,rfl⟩;rw [sl] at HB6 |-;clear sl pF qW hb6;have k6:=aN HK6;have f6:=cD HK6;go_wp2_with fail;go_roundw
   case rel=>exact ⟨i+1,_,by omega,by rw [HS1.out],by go_num,rfl,HG6.trans (f_ (eJ _ _ _ _) (fun k hk=>by cases hk;rfl)),_,fA HK6 2 _,HB6.boxAt HBL 2 _⟩
   case measure=>simp [intOf];omega
  ·obtain rfl:i=m:=by omega
   obtain ⟨so,o5,pC⟩:=HBB.out;rw [List.take_of_length_le (by rw [HCL.out];omega)] at pC;obtain ⟨ao,co,rfl,-⟩:=aI.open pC.list;rw [HCL.out] at o5 pC;have HF:=n8 pC.list;have HB2o:=n8 ((HG.block w1.heap.size (dS HB27) (by have:=HSB.out;omega)).trans HB27);have kk:=aN o5;have f9:=cD HB2o;have k9:=aN HB2o;clear o5 pC HBB;go_wp2_with fail;have hb7:=gu HB2o (.int .i64 n) (.int .i64 k) (.slice ao i co);refine bodyPost_ret (results_cell_row (by rfl) _ _ w1.heap.size 37 #[.int .i64 n,.int .i64 k,.slice ao i co] (0,0) _ (by rfl) hb7 underlying37 (by rfl) (by kernel_rfl)) (by rfl) ⟨_,rfl,dW CK HSB.2.2 _ _ _,_,rfl,?_⟩;exact gZ HF HB2o (gU 0 0) (en _ _ _ _ _)
theorem F0_ {n k:Nat} {X:List Int} (hX:iB X) (Gb:0<X.length) (tH:X.length<=924) (hd0:az X≠0) (r:Value) (w:World) (h:aI 1 numC w r X) (ht:af w) :
  Calls prog 40 #[.agg #[.int .i64 n,.int .i64 k,r]] w fun e w'=>∃ y,e=.returned y/\aC w w'/\cL w' y n k (cO X):=by
 have HV:=n8 h;obtain ⟨a,c,rfl,h1,h2,-,hc⟩:=bT.open (eP.of_nums h);unfold maxLen at h2;have HC:=n8 hc;have HT:=n8 ht;have HDG:=n8 hX;obtain ⟨m,hm⟩:∃ m,X.length=m:=⟨_,rfl⟩;have HL:=n8 hm;rw [hm] at h1 Gb tH HV |-;obtain ⟨w1,o4,hE1,hs1,hb1⟩:=eT w (.int .i64 n) (.int .i64 k) (.slice a m c);obtain ⟨w2,pZ,oY,hs2,hb2⟩:=eT w1 (.int .i64 0) (.int .i64 0) (.slice none 0 0);obtain ⟨w3,hw3,oh,hs3,hb3⟩:=eT w2 (.int .i64 0) (.int .i64 0) (.slice none 0 0);have HE2:=n8 (hE1.trans oY);have HE3:=n8 oh;have HB1:=n8 (aO hb1 oY);have HB2:=n8 hb2;have HB3:=n8 hb3;have HSZ:Hid (w1.heap.size=w.heap.size+1/\w2.heap.size=w1.heap.size+1):=⟨hs1,hs2⟩;have c0:=aN HB1 0;have c1:=aN HB1 1;simp only [oQ,oO,oP] at c0 c1;have f3:=cD hb3;have k3:=aN hb3;have HCL:Hid ((cO X).length=m):=by unfold Hid;rw [A1_,HL.out]
 have HS0:Hid (cu (X.take 0)=0):=rfl;clear hb1 hb2 hb3 hE1 oY oh hs1 hs2 hs3 h hc hm hX ht
 go_enter func40,ntmps40
 go_upto_region 2 with fail
 generalize pO:World.setCell _ _ _=w5;have HB5:Hid (w5.heap[w2.heap.size]?=some (.cells #[.int .i64 n,.int .i64 k,.slice none 0 0] 37 (0,0))):=by rw [<- pO];exact gu HB3 _ _ _
 have HX25:Hid (aC w2 w5):=by rw [<- pO];exact dW HE3 (oJ _) _ _ _
 have HE5:Hid (aC w w5):=HE2.trans HX25;have HB15:=n8 (aO HB1 HX25);have HB25:=n8 (aO HB2 HX25);have k1:=aN HB15;clear pO hw3 k3 f3 c0 c1 o4 pZ;go_wp2_with fail;refine (Z6_ n k X _ w5 (aI.ext numC.mono' HV HE5) HDG (HT.ext HE5)).mono ?_;rintro e w7 ⟨rfl,h7⟩;have HE7:Hid (aC w w7):=HE5.trans h7;have HB17:=n8 (aO HB15 h7);have HB27:=n8 (aO HB25 h7);have HB7:=n8 (aO HB5 h7);have HBL:Hid (w2.heap.size<w7.heap.size):=dS HB7;obtain ⟨d,hd⟩:∃ d,az X=d:=⟨_,rfl⟩;have HD:=n8 hd;rw [hd] at hd0 |-;have HD0:=n8 hd0;have GJ:((aD (d:Int)).toList == [48])=false:=by rw [lz];exact oR (by omega)
 obtain ⟨ud,zu⟩:∃ u,aD (d:Int)=u:=⟨_,rfl⟩;have HUD:=n8 zu;rw [zu] at GJ |-;obtain ⟨b3,hb3⟩:∃ b,w2.heap.size=b:=⟨_,rfl⟩;rw [hb3] at HB7 HBL HB5;have HSB:Hid (w.heap.size<b3/\w1.heap.size<b3/\w.heap.size<=w1.heap.size):=by have:=HSZ.out;unfold Hid;omega
 clear h7 k1 hd zu hd0;go_wp2_with fail
 (try rw [hb3])
 clear hb3
 go_loopw [5,6,7] (fun s t o wr=>∃ (i:Nat) (v7:Value),i<=m/\s=.int .i64 (cu (X.take i))/\t=.int .i64 (i:Int)/\o=v7/\Hid (aP (·=b3) w7 wr)/\Hid (∃ so,wr.heap[b3]?=some (.cells #[.int .i64 n,.int .i64 k,so] 37 (0,0))/\aZ wr w7.heap.size 53 1 so numC ((cO X).take i))) (fun _ t _ _=>m+1-(intOf t).toNat)
 case atStart=>exact ⟨0,_,by omega,by rw [HS0.out],by simp,rfl,aP.refl _ _,_,HB7,aZ.nil _ _ _ _ _⟩
 case round =>
  obtain ⟨i,v7,hi,rfl,rfl,tD,HG,HBB⟩:=hrel;obtain rfl:=tD.symm;obtain ⟨wo,rfl⟩:∃ wo:World,wo=wr:=⟨_,rfl⟩;have CK:Hid (aC w wo):=jP HE7 HG (fun j hj e=>by have:=HSB.out;omega);have HB1o:=n8 ((HG.block w.heap.size (dS HB17) (by have:=HSB.out;omega)).trans HB17);have z1:=aN HB1o 2;simp only [oQ,oO,oP] at z1;by_cases hlt:i<m
  ·obtain ⟨x,hx⟩:∃ x,X[i]?=some x:=⟨_,n9 (by rw [HL.out];exact hlt)⟩;have hin:(i:Int)<(m:Int):=by omega
   obtain ⟨bx,ox,rfl,-,hcell⟩:=HC (by intro e;rw [e] at hx;simp at hx);obtain ⟨z9,e9,g9⟩:=hcell i x hx;obtain rfl:z9=.string (aD x):=e9;have g9:=CK.cell g9;have hst:=C9_ hx;have hcg:=g5_ hx;rw [HD.out] at hcg;obtain ⟨s0,hs0⟩:∃ s,cu (X.take i)=s:=⟨_,rfl⟩;obtain ⟨s1,hs1⟩:∃ s,cu (X.take (i+1))=s:=⟨_,rfl⟩;have HS1:=n8 hs1;rw [hs0,hs1] at hst;rw [hs1] at hcg;rw [hs0];obtain ⟨y,hy⟩:∃ y,aR x (d:Int)=y:=⟨_,rfl⟩;have tc:(cO X)[i]?=some (if s1<0 then -y else y):=by rw [hcg];rw [show (if d≠0 then aR x (d:Int) else x)=y from (if_pos HD0.out).trans hy]
   obtain ⟨z,hz⟩:∃ z,(if s1<0 then -y else y)=z:=⟨_,rfl⟩;rw [hz] at tc;have ym:(cO X).take (i+1)=(cO X).take i++[z]:=by rw [oG,tc];rfl
   have HTK:=n8 ym;have hdx:=HDG x (oD hx);have wU:(aD y).size<=1000000:=by
    rw [<- hy];have h5:=(fw hdx).2;have h6:=Z3u x (d:Int) (by have:=HD0.out;omega);omega
   have HSG:Hid (∀ W,Calls prog 86 #[.string (aD x)] W fun e w'=>e=.returned (.int .i64 x.sign)/\W=w'):=fun W=>nY x W;have hd9:=Z3l HDG;rw [HD.out] at hd9;have h8:=(fw (x:=(d:Int)) (by rw [Int.natAbs_natCast];exact hd9)).2;have As:∀ W,aC w W->Calls prog 87 #[.string (aD x),.string (aD (d:Int))] W fun e w'=>e=.returned (.tuple #[.string (aD (aR x (d:Int))),.string (aD (bF x (d:Int)))])/\aC W w':=fun W hW=>W2_ x (d:Int) W (by have:=(fw hdx).2;omega) (by omega) (by have:=HD0.out;omega) (HT.ext hW);rw [hy] at As;obtain ⟨um,CU⟩:∃ u,aD (bF x (d:Int))=u:=⟨_,rfl⟩;have HDM:=n8 As;rw [CU,HUD.out] at HDM;clear hd9 h8 As CU;have rh:Hid (∀ W,Calls prog 72 #[.string (aD y)] W fun e w'=>e=.returned (.string (aD (-y)))/\W=w'):=fun W=>nW y W wU;obtain ⟨bz,zV⟩:∃ b,(s0 == 0)=b:=⟨_,rfl⟩;obtain ⟨bs,yG⟩:∃ b,decide (s1<0)=b:=⟨_,rfl⟩;have HZ1:Hid (bz=true->x.sign=s1):=fun e=>by rw [hst,if_pos (beq_iff_eq.1 (zV.trans e))]
   have HZ0:Hid (bz=false->s0=s1):=fun e=>by rw [hst,if_neg (beq_eq_false_iff_ne.1 (zV.trans e))]
   have HN1:Hid (bs=true->aD (-y)=aD z):=fun e=>by rw [<- hz,if_pos (of_decide_eq_true (yG.trans e))]
   have yt:Hid (bs=false->aD y=aD z):=fun e=>by rw [<- hz,if_neg (of_decide_eq_false (yG.trans e))]
   obtain ⟨ux,hux⟩:∃ u,aD x=u:=⟨_,rfl⟩;obtain ⟨uy,huy⟩:∃ u,aD y=u:=⟨_,rfl⟩;obtain ⟨uz,zs⟩:∃ u,aD z=u:=⟨_,rfl⟩;have HUZ:=n8 zs;obtain ⟨sx,hsx⟩:∃ s,x.sign=s:=⟨_,rfl⟩;rw [hux] at g9 HSG;rw [hsx] at HSG HZ1;rw [hux,huy] at HDM;rw [huy] at rh yt;rw [zs] at HN1 yt;clear hcell hst hs0 hs1 hcg hy tc hz ym hdx wU hux huy zs hsx hx
   go_upto_if 28 with fail
   go_cut [5] from 29 to 30 (fun t wx=>t=.int .i64 s1/\wx=wo)
   case first =>
    cases bz with
    | true =>
     have e9:=HZ1 rfl;rw [e9] at HSG;clear e9;go_wp2_with fail;refine (HSG wo).mono ?_;rintro e w8 ⟨rfl,rfl⟩;go_wp2_with fail;go_meet;exact ⟨rfl,rfl⟩
    | false =>
     have e9:=HZ0 rfl;obtain rfl:=e9;go_wp2_with fail;go_meet;exact ⟨rfl,rfl⟩
   case rest =>
   obtain ⟨rfl,wV⟩:=hcut;obtain rfl:=wV.symm;clear HSG HZ1 HZ0;go_wp2_with fail;refine (HDM wo CK).mono ?_;rintro e wq ⟨rfl,tJ⟩;have HQ:Hid (aC wo wq):=tJ;clear tJ HDM
   go_upto_if 40 with fail
   go_cut [7] from 41 to 42 (fun t wx=>t=.string uz/\wx=wq)
   case first =>
    cases bs with
    | true =>
     have e9:=HN1 rfl;rw [e9] at rh;clear e9;go_wp2_with fail;refine (rh wq).mono ?_;rintro e w8 ⟨rfl,rfl⟩;go_wp2_with fail;go_meet;exact ⟨rfl,rfl⟩
    | false =>
     have e9:=yt rfl;obtain rfl:=e9;go_wp2_with fail;go_meet;exact ⟨rfl,rfl⟩
   case rest =>
   obtain ⟨rfl,wV⟩:=hcut;obtain rfl:=wV.symm;clear rh HN1 yt;obtain ⟨so,o5,pC⟩:=HBB.out;obtain ⟨ao,co,rfl,-⟩:=aI.open pC.list;obtain ⟨L9,Am⟩:∃ L,(cO X).take i=L:=⟨_,rfl⟩;have zZ:L9.length=i:=by rw [<- Am,oF,HCL.out];omega
   rw [Am] at o5 pC HTK;rw [zZ] at o5 pC;have HBK:=n8 (aO o5 HQ);have HB:=n8 (pC.ext HQ);have z1:=aN HBK;have sP:Hid (L9.length<1000000):=by unfold Hid;omega
   have Dy:Hid (aP (·=b3) w7 wq):=HG.ext HQ;have A5:Hid (w7.heap.size<=wq.heap.size):=Dy.size;clear o5 pC Am zZ HBB;go_wp2_with (at_builtin;go_must (refine ee wq rfl _ _ 29 rfl w7.heap.size 53 (.string ⟨#[]⟩) 1 16 underlying29 ik rfl (by decide) (.slice ao i co) numC L9 z #[.string uz] 53 rfl HB rfl rfl ?c1 ?c2 sP (by decide) A5 ?_))
   case c1=>simp [Value.oneCell']
   case c2=>exact fun _ _=>by show [Value.string uz]=[.string (aD z)];rw [HUZ.out]
   intro v' w6 pF qW hb6 zD _;rw [<- HTK.out] at pF;have HB6:=n8 pF;have HG6:Hid (aP (·=b3) w7 w6):=Dy.thenBelow hb6 (oJ _);have HK6:=n8 ((Below.block hb6 b3 HBL).trans HBK);obtain ⟨a6,c6,rfl,-⟩:=aI.open pF.list;obtain ⟨m6,sl⟩:∃ m,((cO X).take (i+1)).length=m:=⟨_,rfl⟩;rw [sl] at HB6 |-;clear sl pF qW hb6;have k6:=aN HK6;have f6:=cD HK6;go_wp2_with fail;go_roundw
   case rel=>exact ⟨i+1,_,by omega,by rw [HS1.out],by go_num,rfl,HG6.trans (f_ (eJ _ _ _ _) (fun k hk=>by cases hk;rfl)),_,fA HK6 2 _,HB6.boxAt HBL 2 _⟩
   case measure=>simp [intOf];omega
  ·obtain rfl:i=m:=by omega
   obtain ⟨so,o5,pC⟩:=HBB.out;rw [List.take_of_length_le (by rw [HCL.out];omega)] at pC;obtain ⟨ao,co,rfl,-⟩:=aI.open pC.list;rw [HCL.out] at o5 pC;have HF:=n8 pC.list;have HB2o:=n8 ((HG.block w1.heap.size (dS HB27) (by have:=HSB.out;omega)).trans HB27);have kk:=aN o5;have f9:=cD HB2o;have k9:=aN HB2o;clear o5 pC HBB;go_wp2_with fail;have hb7:=gu HB2o (.int .i64 n) (.int .i64 k) (.slice ao i co);refine bodyPost_ret (results_cell_row (by rfl) _ _ w1.heap.size 37 #[.int .i64 n,.int .i64 k,.slice ao i co] (0,0) _ (by rfl) hb7 underlying37 (by rfl) (by kernel_rfl)) (by rfl) ⟨_,rfl,dW CK HSB.2.2 _ _ _,_,rfl,?_⟩;exact gZ HF HB2o (gU 0 0) (en _ _ _ _ _)
theorem U1_ {n k:Nat} {X:List Int} (hn:n<7) (hR:eB n k X) (r:Value) (w:World) (h:aI 1 numC w r X) (ht:af w) :
  Calls prog 40 #[.agg #[.int .i64 n,.int .i64 k,r]] w fun e w'=>∃ y,e=.returned y/\aC w w'/\cL w' y n k (cO X):=by
 have hp:0<X.length:=by rw [hR.len];exact v7_ n hn k (by have:=hR.kn;omega)
 have hl:X.length<=924:=by rw [hR.len];exact jI (by omega) hR.kn
 by_cases hd:az X=0
 ·exact I9_ hR.dig hp hl hd r w h ht
 ·exact F0_ hR.dig hp hl hd r w h ht
end Go.Proofs.YtjlkkofmojgipaaGreatDoor
