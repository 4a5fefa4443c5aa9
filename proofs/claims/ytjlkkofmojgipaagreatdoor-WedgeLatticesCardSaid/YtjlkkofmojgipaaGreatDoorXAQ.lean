import Derived.Test.YtjlkkofmojgipaaGreatDoorXAL
import Derived.Test.YtjlkkofmojgipaaGreatDoorXAM
import Derived.Test.YtjlkkofmojgipaaGreatDoorXAE
import Derived.Test.YtjlkkofmojgipaaGreatDoorXAJ
import Derived.Test.YtjlkkofmojgipaaGreatDoorXAG
import Derived.Test.YtjlkkofmojgipaaGreatDoorXAF
set_option linter.unusedVariables false
set_option linter.unusedSimpArgs false
set_option maxRecDepth 1000000
set_option maxHeartbeats 4000000
namespace Go.Proofs.YtjlkkofmojgipaaGreatDoor
open Go.RowKit Go.Maps Go.Proofs.Tryz
theorem Z3J (n:Int) (w:World):Calls prog 58 #[.int .i64 n] w fun e w'=>e=.returned (.bool (!dB n))/\w=w':=by
 by_cases h:n<=1000000000
 ·by_cases h2:-1000000000<=n
  ·go_enter func58,ntmps58
   go_wp2
   go_ret;exact ⟨by simp [dB,h,h2];try omega,rfl⟩
  ·go_enter func58,ntmps58
   go_wp2
   go_ret;exact ⟨by simp [dB,h,h2];try omega,rfl⟩
 ·go_enter func58,ntmps58
  go_wp2
  go_ret;exact ⟨by simp [dB,h];try omega,rfl⟩
theorem f7_ {n k:Nat} {X r:List Int} {M:Nat} (hX:∀ x∈X,x.natAbs<=M) (hr:∀ x∈r,x.natAbs<=1000000000) (s:Nat):∀ i,(dy n k X r s i).natAbs<=i*(1000000000*M)
 | 0=>by simp [dy]
 | i+1=>by
  have ih:=f7_ (n:=n) (k:=k) hX hr s i;rw [dy,Nat.succ_mul]
  split
  ·omega
  ·have h1:=eA.getD (N:=M) hX (be n k (s ||| (1 <<< i)));have h2:=eA.getD (N:=1000000000) hr i;have h3:=Nat.mul_le_mul h2 h1;have h4:=mQ (r.getD i 0*X.getD (be n k (s ||| (1 <<< i))) 0) (cK (1 <<< i) s);rw [Int.natAbs_mul] at h4;omega
theorem U9_ {x:Int} {K:Nat} (h:x.natAbs<10^K) (hK:1<=K):(aD x).size<=K+1:=by
 have h1:=ix x.natAbs K h hK;have h2:=eK x;omega
theorem Z08 {n k:Nat} {X r:List Int} (hX:iB X) (hr:∀ x∈r,x.natAbs<=1000000000) (s i:Nat) (hi:i<=7):(aD (dy n k X r s i)).size<=500:=by
 have h9:=f7_ (n:=n) (k:=k) (M:=10^400) (fun x hx=>Nat.le_of_lt (hX x hx)) hr s i;have h11:=Nat.mul_le_mul_right (1000000000*10^400) hi;have Eo:7*(1000000000*10^400)<10^450:=by decide +kernel
 exact oI (U9_ (Nat.lt_of_le_of_lt (oI h9 h11) Eo) (by decide)) (by decide)
theorem Z5p {x y:Int} (hx:x.natAbs<=1000000000) (hy:y.natAbs<10^400):(x*y).natAbs<10^450:=by
 have Eo:1000000000*10^400<10^450:=by decide +kernel
 rw [Int.natAbs_mul];exact Nat.lt_of_le_of_lt (Nat.mul_le_mul hx (Nat.le_of_lt hy)) Eo
theorem Z4O {x:Int} (h:x.natAbs<10^450):(aD x).size<=1000:=oI (U9_ h (by decide)) (by decide)
def Z6T (n k:Nat):Bool:=(aJ n k).all fun s=>(List.range n).all fun i=>s.testBit i || decide ((s ||| (1 <<< i))∈aJ n (k+1))
theorem Z5h:∀ n,n<7->∀ k,k<n->Z6T n k=true:=by decide +kernel
theorem Z5W {n k s i:Nat} (hn:n<7) (hk:k<n) (hs:s∈aJ n k) (hi:i<n) (hb:s.testBit i=false):(s ||| (1 <<< i))∈aJ n (k+1):=by
 have h:=List.all_eq_true.1 (List.all_eq_true.1 (Z5h n hn k hk) s hs) i (List.mem_range.2 hi);rw [hb,Bool.false_or,decide_eq_true_eq] at h;exact h
theorem Z3K {n k:Nat} {X r:List Int} (hn:n<7) (hR:eB n k X) (rq:1<=k) (hrl:r.length=n) (rI:r.any (fun x=>!dB x)=false) (u v:Value) (w:World) (h:cL w u n k X) (hv:au w v r) (ht:af w) :
  Calls prog 25 #[u,v] w fun e w'=>∃ y,e=.returned (.tuple #[y,.int .i64 0])/\aC w w'/\cL w' y n (k-1) (Z6p n k X r):=by
 have HCK:Hid (∀ W,aC w W->oW 47 #[u] W (.int .i64 0)):=fun W hW=>kv hR u W (h.ext hW);have HANY:Hid (∀ W,aC w W->oW 57 #[v,.func (.func 58) #[] #[]] W (.bool false)):=fun W hW=>by
  have h9:=W0_ r v 58 #[] (fun x=>!dB x) W (hv.ext hW) (enters_of func58 (by kernel_rfl) rfl) (fun W x _ _=>(Z3J x W).mono fun _ _ ⟨he,hw⟩=>⟨he,hw▸aC.refl _⟩);rw [rI] at h9;exact h9
 have zT:∀ x∈r,dB x=true:=fun x hx=>by
  have:=List.any_eq_false.1 rI x hx;simpa using this
 have HFIT:Hid (∀ x∈r,x.natAbs<=1000000000):=fun x hx=>by
  have:=(z5_ x).1 (zT x hx);omega
 obtain ⟨ur,rfl,hr⟩:=h;obtain ⟨a,c,rfl,h1,h2,-,hc⟩:=bT.open (eP.of_nums hr);unfold maxLen at h2;obtain ⟨av,cv,rfl,v1,v2,v3⟩:=hv.open;have HVV:=n8 hv;have HV3:=n8 v3;unfold maxLen at v2;have HC:=n8 hc;have hkn:=hR.kn;have HLEN:=n8 hR.len;have HDG:=n8 hR.dig;have HT:=n8 ht;obtain ⟨mx,px⟩:∃ m,X.length=m:=⟨_,rfl⟩;have HMX:=n8 px;have HRL:=n8 hrl;rw [px] at h1 HCK |-;rw [hrl] at v1 HANY |-;obtain ⟨w1,o4,hE1,hs1,hb1⟩:=eF w (.int .i64 n) (.int .i64 k) (.slice a mx c);obtain ⟨w2,pZ,oY,hs2,hb2⟩:=eF w1 (.int .i64 0) (.int .i64 0) (.slice none 0 0);have HE2:=n8 (hE1.trans oY);have HB1:=n8 (aO hb1 oY);have HB2:=n8 hb2;have HS1:Hid (w1.heap.size=w.heap.size+1):=hs1;have HS2:Hid (w2.heap.size=w1.heap.size+1):=hs2;have k1:=aN HB1;have HN:=n8 hn;have HK1:=n8 rq;have rR:((k:Int) == 0)=false:=by simp;omega
 obtain ⟨d,hd⟩:∃ d,k-1=d:=⟨_,rfl⟩;have HD:=n8 hd;have e1:IntKind.i64.wrap ((k:Int)-1)=(d:Int):=by rw [IntKind.wrap_i64];omega
 have pI:d<=n:=by omega
 obtain ⟨D,hD⟩:∃ D,Z6p n k X r=D:=⟨_,rfl⟩;have HDM:Hid (D=(aJ n d).map fun s:Nat=>dy n k X r s n):=by unfold Hid;rw [<- hD,<- hd];rfl
 rw [hD,hd];clear hD hd;clear hb1 hb2 hE1 oY hr hc hs2 hR px hv v3 ht rI zT hrl
 go_enter func25,ntmps25
 go_wp2_with fail;refine (HCK w2 HE2).mono ?_;rintro e w2b ⟨rfl,DZ⟩;have D5:Hid (aC w w2b):=HE2.trans DZ;have HB12:=n8 (aO HB1 DZ);have HB22:=n8 (aO HB2 DZ);have Hk:Hid (w1.heap.size<w2b.heap.size/\w.heap.size<w2b.heap.size/\w.heap.size<w1.heap.size):=by have:=DZ.size;have:=HS2.out;have:=HS1.out;unfold Hid;omega
 have d0:=aN HB12 0;have d1:=aN HB12 1;simp only [oQ,oO,oP] at d0 d1;clear DZ HCK k1 o4 pZ;go_wp2_with fail;refine (HANY w2b D5).mono ?_;rintro e w3 ⟨rfl,h3⟩;have HE3:Hid (aC w w3):=D5.trans h3;have HB13:=n8 (aO HB12 h3);have HB23:=n8 (aO HB22 h3);have HS3:Hid (w1.heap.size<w3.heap.size/\w.heap.size<w3.heap.size/\w.heap.size<w1.heap.size):=by have:=h3.size;have:=Hk.out;unfold Hid;omega
 obtain ⟨w4,hw4,hE4,hs4,th⟩:=eF w3 (.int .i64 0) (.int .i64 0) (.slice none 0 0);have HE4:=n8 hE4;have HB4:=n8 th;clear d0 d1;have d0:=aN HB13 0;have d1:=aN HB13 1;simp only [oQ,oO,oP] at d0 d1;have f4:=cD th;have k4:=aN th;clear h3 HANY hE4 hs4 th rR
 go_upto_region 11 with fail
 generalize pO:World.setCell _ _ _=w5;have HB5:Hid (w5.heap[w3.heap.size]?=some (.cells #[.int .i64 n,.int .i64 d,.slice none 0 0] 31 (0,0))):=by rw [<- pO];exact gV HB4 _ _ _
 have ou:aC w3 w5:=by rw [<- pO];exact dW HE4 (oJ _) _ _ _
 have HE5:Hid (aC w w5):=HE3.trans ou;have HB15:=n8 (aO HB13 ou);have HB25:=n8 (aO HB23 ou);clear pO hw4 k4 f4 d0 d1;have d0:=aN HB15 0;have d1:=aN HB15 1;simp only [oQ,oO,oP] at d0 d1;have HPL:Hid (∀ W,Calls prog 59 #[.int .i64 n,.int .i64 k] W fun e w'=>∃ v,e=.returned v/\aC W w'/\e_ w' v n k):=fun W=>V4_ n k HN hkn W;have xx:Hid (∀ W,Calls prog 60 #[.int .i64 n,.int .i64 d] W (mg (aJ n d) W)):=fun W=>lg n d (by have:=HN.out;omega) pI W;clear ou;go_wp2_with fail;refine (HPL w5).mono ?_;rintro e w6 ⟨v6,rfl,h6,Gq⟩;obtain ⟨b6,N6,rfl,DS⟩:=Gq;have Hp:Hid (e_ w6 (.map (some b6)) n k):=⟨b6,N6,rfl,DS⟩;have HE6:Hid (aC w5 w6):=h6;have HB6:=n8 (aO HB5 h6);clear d0 d1;have d0:=aN HB6 0;have d1:=aN HB6 1;simp only [oQ,oO,oP] at d0 d1;clear h6 DS HPL;go_wp2_with fail;refine (xx w6).mono ?_;rintro e w7 ⟨v7,rfl,h7,hU⟩;obtain ⟨a7,c7,rfl,pJ,pT,pG⟩:=hU.open;unfold maxLen at pT;have HCX:=n8 pG;have HP7:=n8 (Hp.ext h7);have HB7:=n8 (aO HB6 h7);have HE7:Hid (aC w w7):=(HE5.trans HE6).trans h7;have HB17:=n8 (aO HB15 (HE6.trans h7));have HB27:=n8 (aO HB25 (HE6.trans h7));have HBL:Hid (w3.heap.size<w7.heap.size):=dS HB7;have HLT:Hid (∀ s∈aJ n d,s<4096):=lf (by have:=HN.out;omega) pI;have Dx:Hid (∀ s∈aJ n d,∀ i,i<n->s.testBit i=false->(s ||| (1 <<< i))∈aJ n k/\(s ||| (1 <<< i))<4096/\be n k (s ||| (1 <<< i))<mx):=fun s hs i hi hb=>by
  have h1:=Z5W HN (by have:=HK1.out;have:=HD.out;omega) hs hi hb;rw [show d+1=k by have:=HK1.out;have:=HD.out;omega] at h1;refine ⟨h1,lf (by have:=HN.out;omega) hkn _ h1,?_⟩;rw [<- HMX.out,HLEN.out];exact (S8_ HN hkn h1).2
 have HBD:Hid (∀ s i,i<=n->(aD (dy n k X r s i)).size<=500):=fun s i hi=>Z08 HDG HFIT s i (by have:=HN.out;omega);obtain ⟨L,hL⟩:∃ L,aJ n d=L:=⟨_,rfl⟩;rw [hL] at HCX HLT Dx pJ HDM |-;obtain ⟨N,hN⟩:∃ N,L.length=N:=⟨_,rfl⟩;have HNN:=n8 hN;have HLL:Hid (∀ i,(D.take i).length<1000000):=by
  intro i;have h1:=jI (n:=n) (k:=d) (by have:=HN.out;omega) pI;rw [HDM.out,oF,List.length_map,<- hL];omega
 rw [hN] at pJ |-;clear hN hL h7 hU pG d0 d1 xx hkn pI;go_wp2_with fail
 go_loopw [50] (fun t wr=>∃ i:Nat,i<=N/\t=.int .i64 (i:Int)/\Hid (aP (·=w3.heap.size) w7 wr)/\Hid (∃ so,wr.heap[w3.heap.size]?=some (.cells #[.int .i64 n,.int .i64 d,so] 31 (0,0))/\aZ wr w7.heap.size 53 1 so numC (D.take i))) (fun t _=>N+1-(intOf t).toNat)
 case atStart=>exact ⟨0,by omega,by simp,aP.refl _ _,_,HB7,aZ.nil _ _ _ _ _⟩
 case round =>
  obtain ⟨i,hi,rfl,HG,HBB⟩:=hrel;obtain ⟨wo,rfl⟩:∃ wo:World,wo=wr:=⟨_,rfl⟩;by_cases hlt:i<N
  ·obtain ⟨s,hs⟩:∃ s,L[i]?=some s:=by
    rw [<- HNN.out] at hlt;exact ⟨_,n9 hlt⟩
   have hsm:=oD hs;obtain ⟨b7,o7,rfl,hb7,hcell⟩:=HCX (by intro e;rw [e] at hs;simp at hs);have hc7:=hcell i s hs;have xA:b7≠w3.heap.size:=by
    rintro rfl;have:=aN HB7 (o7+i);rw [hc7] at this;exact I0_ this
   have hcs:=HG.cell hc7 xA;have hs46:=HLT s hsm;have HINS:=n8 (Dx s hsm);have HPR:=n8 (HP7.grownS HG HB7);have HZ:Hid (D.take (i+1)=D.take i++[dy n k X r s n]):=by
    unfold Hid;rw [oG,HDM.out,oE,hs];rfl
   have z2':=HG.cell (aN HB17 2) (by have:=HS3.out;omega)
   (try simp only [oQ,oO,oP] at z2')
   have HZ2:=n8 z2';have rl:Hid (aC w wo):=jP HE7 HG (fun j hj e=>by have:=HS3.out;omega);obtain ⟨so,o5,pC⟩:=HBB.out;have HBK:=n8 o5;have HBU:=n8 pC;have HSB:=n8 (HBD s);have Av:aD (dy n k X r s 0)=⟨#[48]⟩:=by rw [dy];decide +kernel
   have HS48:=n8 Av;clear hs hsm hcell hc7 xA hb7 z2' o5 pC HBB Av;go_wp2_with fail
   go_loopw [11,56] (fun o t wr=>∃ j:Nat,j<=n/\t=.int .i64 (j:Int)/\o=.string (aD (dy n k X r s j))/\Hid (aC wo wr)) (fun _ t _=>n+1-(intOf t).toNat)
   case atStart=>exact ⟨0,by omega,by simp,by rw [HS48.out],aC.refl _⟩
   case round =>
    obtain ⟨j,hj,rfl,rfl,HX⟩:=hrel;obtain ⟨wp,rfl⟩:∃ wp:World,wp=wr:=⟨_,rfl⟩;by_cases hjl:j<n
    ·as_aux_lemma =>
     obtain ⟨x,hx⟩:∃ x,r[j]?=some x:=⟨_,n9 (by rw [HRL.out];exact hjl)⟩;obtain ⟨bv,ov,rfl,-,hcv⟩:=HV3.2.2 (by intro e;rw [e] at hx;simp at hx);have g1:=HX.cell (rl.cell (hcv j x hx));have hxm:=HFIT x (oD hx);have f1:(s:Int) / 2^j=((s / 2^j:Nat):Int):=by rw [Int.natCast_ediv,Int.natCast_pow];rfl
     have f2:=g3_ (i:=j) hs46;obtain ⟨q,hq⟩:∃ q,s / 2^j=q:=⟨_,rfl⟩;rw [hq] at f1 f2;have Ep:0<=(j:Int):=by omega
     have Me:(j:Int)<=64:=by have:=HN.out;omega
     have EO:r.getD j 0=x:=by rw [oC,hx];rfl
     have HSJ:=HSB j (by omega);cases htb:s.testBit j with
     | true =>
      rw [htb,if_pos rfl] at f2;have HNX:Hid (dy n k X r s (j+1)=dy n k X r s j):=by unfold Hid;rw [dy,if_pos htb]
      clear htb hq hcv hx EO hxm;go_wp2_with fail;go_roundw
      case rel=>exact ⟨j+1,by omega,by go_num,by rw [HNX.out],HX⟩
      case measure=>simp [intOf];omega
     | false =>
      rw [htb,if_neg (by decide)] at f2;have HNX:Hid (dy n k X r s (j+1)=dy n k X r s j+bu (r.getD j 0*X.getD (be n k (s ||| (1 <<< j))) 0) (cK (1 <<< j) s)):=by unfold Hid;rw [dy,if_neg (by rw [htb];decide)]
      obtain ⟨hin,hr46,hpm⟩:=HINS j hjl htb;have hi64:=k7_ j (by have:=HN.out;omega);have e1:=hi64.1;have hb46:=hi64.2;obtain ⟨bi,Bi⟩:∃ bi,1 <<< j=bi:=⟨_,rfl⟩;rw [Bi] at e1 hb46 hin hr46 hpm HNX;have e3:=bits_or_u64_nat s bi (by omega) (by omega);obtain ⟨rs,qo⟩:∃ rs,s ||| bi=rs:=⟨_,rfl⟩;rw [qo] at HNX hin e3 hr46 hpm;have xn:Hid (∀ W,oW 65 #[.int .u64 (bi:Int),.int .u64 (s:Int)] W (.bool (cK bi s))):=fun W=>y9_ bi s hb46 hs46 W;have HLK:Hid (∀ W,aC wp W->(Instr.lookup 96 (.map (some b6)) (.int .u64 (rs:Int)) false).run prog W=.ok (.int .i64 ((be n k rs:Nat):Int)) W):=fun W hW=>((HPR.ext (HX.trans hW))).run hin hr46;obtain ⟨p,hp⟩:∃ p,be n k rs=p:=⟨_,rfl⟩;rw [hp] at hpm HLK HNX;obtain ⟨y,hy⟩:∃ y,X[p]?=some y:=⟨_,n9 (by rw [HMX.out];exact hpm)⟩;rw [show X.getD p 0=y by rw [oC,hy];rfl,EO] at HNX;obtain ⟨o,ho⟩:∃ o,cK bi s=o:=⟨_,rfl⟩;rw [ho] at xn HNX;obtain ⟨bx,ox,rfl,hbx,pG⟩:=HC (by intro e;rw [e] at hy;simp at hy);obtain ⟨z9,e9,g9⟩:=pG p y hy;obtain rfl:z9=.string (aD y):=e9;have hdy:=HDG y (oD hy);have hdm:=Z5p hxm hdy;have hszm:=Z4O hdm;have hszs:=Z4O (x:=bu (x*y) o) (by rw [mQ];exact hdm);have hszy:=(fw hdy).2;have hszx:=U9_ (x:=x) (K:=10) (by have:(10:Nat)^10=10000000000:=(by decide);omega) (by decide);clear hdm hdy;have HOF:Hid (∀ W,aC wp W->oW 64 #[.int .i64 x] W (.string (aD x))):=fun W hW=>lJ x W (by omega) (by omega) (HT.ext (rl.trans (HX.trans hW)));have yu:Hid (∀ W,aC wp W->oW 63 #[.string (aD x),.string (aD y)] W (.string (aD (x*y)))):=fun W hW=>ju x y W (by omega) (by omega) (HT.ext (rl.trans (HX.trans hW)));have HSG:Hid (∀ W,oW 62 #[.string (aD (x*y)),.bool o] W (.string (aD (bu (x*y) o)))):=fun W=>O3_ (x*y) o W (by omega);have HAD:Hid (∀ W,aC wp W->oW 61 #[.string (aD (dy n k X r s j)),.string (aD (bu (x*y) o))] W (.string (aD (dy n k X r s (j+1))))):=fun W hW=>by
       rw [HNX.out];exact M2_ _ _ W (by omega) (by omega) (HT.ext (rl.trans (HX.trans hW)))
      obtain ⟨s1,AA⟩:∃ z,aD (dy n k X r s j)=z:=⟨_,rfl⟩;obtain ⟨s2,zz⟩:∃ z,aD (dy n k X r s (j+1))=z:=⟨_,rfl⟩;obtain ⟨s3,Cc⟩:∃ z,aD (x*y)=z:=⟨_,rfl⟩;obtain ⟨s4,Cb⟩:∃ z,aD (bu (x*y) o)=z:=⟨_,rfl⟩;obtain ⟨s5,Ca⟩:∃ z,aD x=z:=⟨_,rfl⟩;rw [Ca] at HOF yu;rw [Cc] at yu HSG;rw [Cb] at HSG HAD;rw [AA,zz] at HAD;rw [AA];have HS2':=n8 zz;have z3:=HX.cell (rl.cell g9);have z2:=HX.cell HZ2;have BY:(p:Int)<(mx:Int):=by omega
      have HX9:=HX;clear htb hin qo hp hy ho pG g9 hbx hi64 Bi hq hcv hx EO hxm hszm hszs hszy hszx AA zz Cc Cb Ca HSJ
      go_upto_region 20 with fail
      refine fX (fun w'=>w'.cell? ⟨w.heap.size,2,none⟩=some (.slice (some ⟨bx,ox,none⟩) mx c)/\w'.cell? ⟨bx,ox+p,none⟩=some (.string (aD y))/\Hid (aC wp w')) 21 21 (by kernel_rfl) (by kernel_rfl) ⟨(aC.drew wp).cell z2,(aC.drew wp).cell z3,aC.drew wp⟩ (fun ops hO oX=>?_);refine rA [0,1,3,4,5,6,7,8,9] ?_
      iterate 9 (refine rS hO (by decide) fun o h=>?_;(conv at h=>lhs;whnf);subst h;(refine rY hO (v:=?_) (Or.inl ⟨by rfl,?_⟩) ?_;rotate_left;·((intro w' oz);(try dsimp only at oz);(try go_simp);(try with_reducible rfl)));(try simp only [Act.put,aK,aL,aM]))
      refine rE ?_;have hi:=a8 hO 10 (by decide)
      conv at hi=>rhs;arg 1;whnf
      refine tY hO (v:=.int .i64 (p:Int)) 10 hi (Or.inl ⟨by rfl,?_⟩) ?_
      ·(intro w' oz;(try dsimp only at oz);have hlk:=HLK w' (oz.2.2.out);go_simp;(try with_reducible rfl))
      clear hi
      (try simp only [Act.put,aK,aL,aM])
      refine rA [11,12,14,15,16] ?_
      iterate 5 (refine rS hO (by decide) fun o h=>?_;(conv at h=>lhs;whnf);subst h;(refine rY hO (v:=?_) (Or.inl ⟨by rfl,?_⟩) ?_;rotate_left;·((intro w' oz);(try dsimp only at oz);(try go_simp);(try with_reducible rfl)));(try simp only [Act.put,aK,aL,aM]))
      refine rE ?_;have hi:=a8 hO 2 (by decide)
      conv at hi=>rhs;arg 1;whnf
      refine dK hO 2 (by kernel_rfl) hi (fun K hK=>?_);go_simp
      (go_at_call 64;refine (HOF _ (oX.2.2)).mono ?_)
      rintro e wz ⟨rfl,om⟩;go_wp2_with fail;refine hK _ _ ⟨(om).cell oX.1,(om).cell oX.2.1,aC.trans oX.2.2 (om)⟩ (fun oX=>?_);clear hK K hi
      (try simp only [Act.put,aK,aL,aM])
      have hi:=a8 hO 13 (by decide)
      conv at hi=>rhs;arg 1;whnf
      refine dK hO 13 (by kernel_rfl) hi (fun K hK=>?_);go_simp
      (go_at_call 63;refine (yu _ (oX.2.2)).mono ?_)
      rintro e wz ⟨rfl,om⟩;go_wp2_with fail;refine hK _ _ ⟨(om).cell oX.1,(om).cell oX.2.1,aC.trans oX.2.2 (om)⟩ (fun oX=>?_);clear hK K hi
      (try simp only [Act.put,aK,aL,aM])
      have hi:=a8 hO 17 (by decide)
      conv at hi=>rhs;arg 1;whnf
      refine dK hO 17 (by kernel_rfl) hi (fun K hK=>?_);go_simp
      (go_at_call 65;refine (xn _).mono ?_)
      rintro e wz ⟨rfl,om⟩;go_wp2_with fail;refine hK _ _ ⟨(om).cell oX.1,(om).cell oX.2.1,aC.trans oX.2.2 (om)⟩ (fun oX=>?_);clear hK K hi
      (try simp only [Act.put,aK,aL,aM])
      have hi:=a8 hO 18 (by decide)
      conv at hi=>rhs;arg 1;whnf
      refine dK hO 18 (by kernel_rfl) hi (fun K hK=>?_);go_simp
      (go_at_call 62;refine (HSG _).mono ?_)
      rintro e wz ⟨rfl,om⟩;go_wp2_with fail;refine hK _ _ ⟨(om).cell oX.1,(om).cell oX.2.1,aC.trans oX.2.2 (om)⟩ (fun oX=>?_);clear hK K hi
      (try simp only [Act.put,aK,aL,aM])
      have hi:=a8 hO 19 (by decide)
      conv at hi=>rhs;arg 1;whnf
      refine dK hO 19 (by kernel_rfl) hi (fun K hK=>?_);go_simp
      (go_at_call 61;refine (HAD _ (oX.2.2)).mono ?_)
      rintro e wy ⟨rfl,om⟩;go_wp2_with fail;refine hK _ _ ⟨(om).cell oX.1,(om).cell oX.2.1,aC.trans oX.2.2 (om)⟩ (fun oX=>?_);clear hK K hi
      (try simp only [Act.put,aK,aL,aM])
      have qs:Hid (aC wp wy):=oX.2.2;have hi:=a8 hO 20 (by decide)
      conv at hi=>rhs;arg 1;whnf
      refine fp hO 20 (by kernel_rfl) (by kernel_rfl) hi (fun K hK=>?_);go_simp;refine hK _ _ (by assumption) ?_;clear hK K hi hO
      (try simp only [Act.put,aK,aL,aM])
      go_wp2_with fail;go_roundw
      case rel=>exact ⟨j+1,by omega,by go_num,by rw [HS2'.out],HX9.trans qs⟩
      case measure=>simp [intOf];omega
    ·obtain rfl:j=n:=by omega
     as_aux_lemma =>
     obtain ⟨z,hz⟩:∃ z,dy j k X r s j=z:=⟨_,rfl⟩;rw [hz] at HZ |-;have HST:=HZ;have HBU2:=n8 (HBU.ext HX);obtain ⟨ao,co,rfl,-⟩:=aI.open HBU.list;obtain ⟨m,hm⟩:∃ m,(D.take i).length=m:=⟨_,rfl⟩;have hBK2:=aO HBK HX;have HLi:=n8 (HLL i);rw [hm] at HBU2 hBK2;have HBK2:=n8 hBK2;have z1:=aN hBK2 2;simp only [oQ,oO,oP] at z1;have HSZ:Hid (w7.heap.size<=wp.heap.size):=oI HG.size HX.size;have NA:Hid (aP (·=w3.heap.size) w7 wp):=HG.ext HX;clear hz hm hBK2 HBU HBK;go_wp2_with (at_builtin;go_must (refine ee _ rfl _ _ 29 rfl w7.heap.size 53 (.string ⟨#[]⟩) 1 16 underlying29 ik rfl (by decide) (.slice ao m co) numC (D.take i) z #[.string (aD z)] 53 rfl HBU2 rfl rfl ?e1 (fun _ _=>rfl) HLi (by decide) HSZ ?_))
     case e1=>simp [Value.oneCell']
     intro v' w6b pF qW hb6 zD _;rw [<- HST.out] at pF;have HB6:=n8 pF;have HG6:Hid (aP (·=w3.heap.size) w7 w6b):=NA.thenBelow hb6 (oJ _);have HK6:=n8 ((Below.block hb6 w3.heap.size HBL).trans HBK2);obtain ⟨a6,c6,rfl,-⟩:=aI.open pF.list;obtain ⟨m6,sl⟩:∃ m,(D.take (i+1)).length=m:=⟨_,rfl⟩;rw [sl] at HB6 |-;clear sl;have k6:=aN HK6;have f6:=cD HK6;clear pF qW hb6 z1;go_wp2_with fail;go_roundw
     case rel=>exact ⟨i+1,by omega,by go_num,HG6.trans (f_ (eJ _ _ _ _) (fun k hk=>by cases hk;rfl)),_,fA HK6 2 _,HB6.boxAt HBL 2 _⟩
     case measure=>simp [intOf];omega
  ·obtain rfl:i=N:=by omega
   obtain ⟨so,o5,pC⟩:=HBB.out;have DN:D.take i=D:=by
    refine List.take_of_length_le ?_;rw [HDM.out,List.length_map,HNN.out];exact oJ _
   rw [DN] at pC;obtain ⟨ao,co,rfl,-⟩:=aI.open pC.list;have HF:=n8 pC.list;have HE9:Hid (aC w wo):=jP HE7 HG (fun j hj e=>by have:=HS3.out;omega);have qd:Hid (wo.heap[w.heap.size+1]?=some (.cells #[.int .i64 0,.int .i64 0,.slice none 0 0] 31 (0,0))):=by
    unfold Hid;rw [<- HS1.out,<- HB27.out];exact HG.block _ (dS HB27) (by have:=HS3.out;omega)
   obtain ⟨m,hm⟩:∃ m,D.length=m:=⟨_,rfl⟩;rw [hm] at o5 HF;have kk:=aN o5;have f9:=cD qd;have k9:=aN qd;clear o5 pC HBB DN;go_wp2_with fail;have hb7:=gV qd (.int .i64 n) (.int .i64 d) (.slice ao m co);refine bodyPost_ret (nf (by rfl) _ _ (w.heap.size+1) 31 #[.int .i64 n,.int .i64 d,.slice ao m co] (0,0) _ (.int .i64 0) (by rfl) (by rfl) hb7 underlying31 (by rfl) (by kernel_rfl)) (by rfl) ⟨_,rfl,dW HE9 (by omega) _ _ _,_,rfl,?_⟩;exact gZ HF qd (gU 0 0) (en _ _ _ _ _)
theorem Z1l {n k:Nat} {X:List Int} (hn:n<7) (hR:eB n k X) (u:Value) (w:World) (h:cL w u n k X) :
  Calls prog 28 #[u] w fun e w'=>∃ r,e=.returned (.tuple #[r,.int .i64 0])/\aC w w'/\cL w' r n (n-k) (Z5d n k X):=by
 have HCK:Hid (∀ W,aC w W->oW 47 #[u] W (.int .i64 0)):=fun W hW=>kv hR u W (h.ext hW);obtain ⟨r,rfl,hr⟩:=h;obtain ⟨a,c,rfl,h1,h2,-,hc⟩:=bT.open (eP.of_nums hr);unfold maxLen at h2;have HC:=n8 hc;have hkn:=hR.kn;have HLEN:=n8 hR.len;have HDG:=n8 hR.dig;obtain ⟨mx,px⟩:∃ m,X.length=m:=⟨_,rfl⟩;have HMX:=n8 px;rw [px] at h1 HCK |-;obtain ⟨w1,o4,hE1,hs1,hb1⟩:=eF w (.int .i64 n) (.int .i64 k) (.slice a mx c);obtain ⟨w2,pZ,oY,hs2,hb2⟩:=eF w1 (.int .i64 0) (.int .i64 0) (.slice none 0 0);have HE2:=n8 (hE1.trans oY);have HB1:=n8 (aO hb1 oY);have HB2:=n8 hb2;have HS1:Hid (w1.heap.size=w.heap.size+1):=hs1;have HS2:Hid (w2.heap.size=w1.heap.size+1):=hs2;have k1:=aN HB1;have HN:=n8 hn;obtain ⟨d,hd⟩:∃ d,n-k=d:=⟨_,rfl⟩;have HD:=n8 hd;have e1:IntKind.i64.wrap ((n:Int)-(k:Int))=(d:Int):=by rw [IntKind.wrap_i64];omega
 have pI:d<=n:=by omega
 obtain ⟨D,hD⟩:∃ D,Z5d n k X=D:=⟨_,rfl⟩;have HDM:Hid (D=(aJ n d).map fun s:Nat=>bu (X.getD (be n k (ec n s)) 0) (cK (ec n s) s)):=by unfold Hid;rw [<- hD,<- hd];rfl
 rw [hD,hd];clear hb1 hb2 hE1 oY hr hc hs2 hR px hD hd
 go_enter func28,ntmps28
 go_wp2_with fail;refine (HCK w2 HE2).mono ?_;rintro e w3 ⟨rfl,h3⟩;have HE3:Hid (aC w w3):=HE2.trans h3;have HB13:=n8 (aO HB1 h3);have HB23:=n8 (aO HB2 h3);have HS3:Hid (w1.heap.size<w3.heap.size/\w.heap.size<w3.heap.size/\w.heap.size<w1.heap.size):=by have:=h3.size;have:=HS2.out;have:=HS1.out;unfold Hid;omega
 obtain ⟨w4,hw4,hE4,hs4,th⟩:=eF w3 (.int .i64 0) (.int .i64 0) (.slice none 0 0);have HE4:=n8 hE4;have HB4:=n8 th;have d0:=aN HB13 0;have d1:=aN HB13 1;simp only [oQ,oO,oP] at d0 d1;have f4:=cD th;have k4:=aN th;clear h3 HCK k1 o4 pZ hE4 hs4 th
 go_upto_region 5 with fail
 generalize pO:World.setCell _ _ _=w5;have HB5:Hid (w5.heap[w3.heap.size]?=some (.cells #[.int .i64 n,.int .i64 d,.slice none 0 0] 31 (0,0))):=by rw [<- pO];exact gV HB4 _ _ _
 have ou:aC w3 w5:=by rw [<- pO];exact dW HE4 (oJ _) _ _ _
 have HE5:Hid (aC w w5):=HE3.trans ou;have HB15:=n8 (aO HB13 ou);have HB25:=n8 (aO HB23 ou);clear pO hw4 k4 f4 d0 d1;have d0:=aN HB15 0;have d1:=aN HB15 1;simp only [oQ,oO,oP] at d0 d1;have HPL:Hid (∀ W,Calls prog 59 #[.int .i64 n,.int .i64 k] W fun e w'=>∃ v,e=.returned v/\aC W w'/\e_ w' v n k):=fun W=>V4_ n k HN hkn W;have xx:Hid (∀ W,Calls prog 60 #[.int .i64 n,.int .i64 d] W (mg (aJ n d) W)):=fun W=>lg n d (by have:=HN.out;omega) pI W;clear ou;go_wp2_with fail;refine (HPL w5).mono ?_;rintro e w6 ⟨v6,rfl,h6,Gq⟩;obtain ⟨b6,N6,rfl,DS⟩:=Gq;have Hp:Hid (e_ w6 (.map (some b6)) n k):=⟨b6,N6,rfl,DS⟩;have HE6:Hid (aC w5 w6):=h6;have HB6:=n8 (aO HB5 h6);clear d0 d1;have d0:=aN HB6 0;have d1:=aN HB6 1;simp only [oQ,oO,oP] at d0 d1;clear h6 DS HPL;go_wp2_with fail;refine (xx w6).mono ?_;rintro e w7 ⟨v7,rfl,h7,hU⟩;obtain ⟨a7,c7,rfl,pJ,pT,pG⟩:=hU.open;unfold maxLen at pT;have HCX:=n8 pG;have HP7:=n8 (Hp.ext h7);have HB7:=n8 (aO HB6 h7);have HE7:Hid (aC w w7):=(HE5.trans HE6).trans h7;have HB17:=n8 (aO HB15 (HE6.trans h7));have HB27:=n8 (aO HB25 (HE6.trans h7));have HBL:Hid (w3.heap.size<w7.heap.size):=dS HB7;have HLT:Hid (∀ s∈aJ n d,s<2^n):=h6_ (by have:=HN.out;omega) pI;have HRG:Hid (∀ s∈aJ n d,ec n s∈aJ n k):=fun s hs=>(Z4q (k:=k) HN hkn (by rw [HD.out];exact hs)).1;have Mv:Hid (∀ s∈aJ n k,be n k s<mx):=fun s hs=>by rw [<- HMX.out,HLEN.out];exact (S8_ HN hkn hs).2
 obtain ⟨q,hq⟩:∃ q,2^n=q:=⟨_,rfl⟩;have hsh:=Z2J (n:=n) (by have:=HN.out;omega);have HRB:Hid (∀ s:Nat,s<2^n->bits .andNot .u64 ((2^n-1:Nat):Int) (s:Int)=((ec n s:Nat):Int)):=fun s hs=>Z2F HN hs;have HR46:Hid (∀ s∈aJ n k,s<4096):=lf (by have:=HN.out;omega) hkn;rw [hq] at HRB hsh HLT;obtain ⟨qq,Iu⟩:∃ qq,q-1=qq:=⟨_,rfl⟩;rw [Iu] at HRB;have e2:=hsh.1;have e3:IntKind.u64.wrap ((q:Int)-1)=(qq:Int):=by have:=hsh.2;rw [IntKind.wrap_u64];omega
 have Ch:q<=4096:=hsh.2.1;have HQ:=n8 Ch;have c4:0<=(n:Int):=by omega
 have c5:(n:Int)<=64:=by have:=HN.out;omega
 obtain ⟨L,hL⟩:∃ L,aJ n d=L:=⟨_,rfl⟩;rw [hL] at HCX HLT HRG pJ HDM |-;obtain ⟨N,hN⟩:∃ N,L.length=N:=⟨_,rfl⟩;have HNN:=n8 hN;have HLL:Hid (∀ i,(D.take i).length<1000000):=by
  intro i;have h1:=jI (n:=n) (k:=d) (by have:=HN.out;omega) pI;rw [HDM.out,oF,List.length_map,<- hL];omega
 rw [hN] at pJ |-;clear hq hsh Iu hN hL Ch h7 hU pG d0 d1 xx hkn pI;go_wp2_with fail
 go_loopw [35] (fun t wr=>∃ i:Nat,i<=N/\t=.int .i64 (i:Int)/\Hid (aP (·=w3.heap.size) w7 wr)/\Hid (∃ so,wr.heap[w3.heap.size]?=some (.cells #[.int .i64 n,.int .i64 d,so] 31 (0,0))/\aZ wr w7.heap.size 53 1 so numC (D.take i))) (fun t _=>N+1-(intOf t).toNat)
 case atStart=>exact ⟨0,by omega,by simp,aP.refl _ _,_,HB7,aZ.nil _ _ _ _ _⟩
 case round =>
  obtain ⟨i,hi,rfl,HG,HBB⟩:=hrel;by_cases hlt:i<N
  ·obtain ⟨s,hs⟩:∃ s,L[i]?=some s:=by
    rw [<- HNN.out] at hlt;exact ⟨_,n9 hlt⟩
   have hsm:=oD hs;obtain ⟨b7,o7,rfl,hb7,hcell⟩:=HCX (by intro e;rw [e] at hs;simp at hs);have hc7:=hcell i s hs;have xA:b7≠w3.heap.size:=by
    rintro rfl;have:=aN HB7 (o7+i);rw [hc7] at this;exact I0_ this
   have hcs:=HG.cell hc7 xA;have hslt:=HLT s hsm;have e4:=HRB s (by assumption);have hrm:=HRG s hsm;have hr46:=HR46 _ hrm;have hpm:=Mv _ hrm;have xn:Hid (∀ W,oW 65 #[.int .u64 ((ec n s:Nat):Int),.int .u64 (s:Int)] W (.bool (cK (ec n s) s))):=fun W=>y9_ _ s hr46 (by have:=HQ.out;omega) W;have HPR:=n8 (HP7.grownS HG HB7);have HLK:Hid (∀ W,aC wr W->(Instr.lookup 96 (.map (some b6)) (.int .u64 ((ec n s:Nat):Int)) false).run prog W=.ok (.int .i64 ((be n k (ec n s):Nat):Int)) W):=fun W hW=>(HPR.ext hW).run hrm hr46;have HZ:Hid (D.take (i+1)=D.take i++[bu (X.getD (be n k (ec n s)) 0) (cK (ec n s) s)]):=by
    unfold Hid;rw [oG,HDM.out,oE,hs];rfl
   obtain ⟨rs,qo⟩:∃ rs,ec n s=rs:=⟨_,rfl⟩;rw [qo] at e4 hpm xn HLK HZ;obtain ⟨p,hp⟩:∃ p,be n k rs=p:=⟨_,rfl⟩;rw [hp] at hpm HLK HZ;obtain ⟨y,hy⟩:∃ y,X[p]?=some y:=⟨_,n9 (by rw [HMX.out];exact hpm)⟩;rw [show X.getD p 0=y by rw [oC,hy];rfl] at HZ;obtain ⟨o,ho⟩:∃ o,cK rs s=o:=⟨_,rfl⟩;rw [ho] at xn HZ;obtain ⟨bx,ox,rfl,hbx,pG⟩:=HC (by intro e;rw [e] at hy;simp at hy);obtain ⟨z9,e9,g9⟩:=pG p y hy;obtain rfl:z9=.string (aD y):=e9;have hdy:=HDG y (oD hy);have HSG:Hid (∀ W,oW 62 #[.string (aD y),.bool o] W (.string (aD (bu y o)))):=fun W=>O3_ y o W (by have:=(fw hdy).2;omega);obtain ⟨z,hz⟩:∃ z,bu y o=z:=⟨_,rfl⟩;rw [hz] at HSG HZ;have HST:Hid (D.take (i+1)=D.take i++[z]):=HZ;have hLi:=HLL i;have z3:=HG.cell (HE7.cell g9) (by have:=HS3.out;omega);have z2:=HG.cell (aN HB17 2) (by have:=HS3.out;omega)
   (try simp only [oQ,oO,oP] at z2)
   obtain ⟨so,o5,pC⟩:=HBB.out;obtain ⟨ao,co,rfl,-⟩:=aI.open pC.list;obtain ⟨m,hm⟩:∃ m,(D.take i).length=m:=⟨_,rfl⟩;rw [hm] at o5 pC hLi;have HMM:=n8 hm;have HBK:=n8 o5;have HB:=n8 pC;have z1:=aN o5 2;simp only [oQ,oO,oP] at z1;have sP:Hid ((D.take i).length<1000000):=HLL i;have HSZ:Hid (w7.heap.size<=wr.heap.size):=HG.size;have BY:(p:Int)<(mx:Int):=by omega
   have hd0:=aN HB17 0;have z4:=HG.cell (aN HB17 0) (by have:=HS3.out;omega)
   (try simp only [oQ,oO,oP] at z4)
   clear hs hsm hcell hc7 xA hrm hr46 qo hp hy pG g9 hdy hz o5 pC hbx hb7 ho hm hLi hd0 HZ HBB
   go_upto_region 10 with fail
   refine iP (fun w'=>w'.cell? ⟨w3.heap.size,2,none⟩=some (.slice ao m co)/\w'.cell? ⟨w.heap.size,2,none⟩=some (.slice (some ⟨bx,ox,none⟩) mx c)/\w'.cell? ⟨bx,ox+p,none⟩=some (.string (aD y))/\Hid (aC wr w')) 14 (by kernel_rfl) ⟨(aC.drew wr).cell z1,(aC.drew wr).cell z2,(aC.drew wr).cell z3,aC.drew wr⟩ (fun oX=>?_);refine rA [0,1,2,3,4,5] ?_
   iterate 6 ((first|(refine rL (v:=?_) (by rfl) (Or.inl ⟨by rfl,?_⟩) ?_;rotate_left;·((intro w' oz);(try dsimp only at oz);(try go_simp);(try with_reducible rfl)))|(refine rW (v:=?_) (by rfl) (Or.inl ⟨by rfl,?_⟩) ?_;rotate_left;·((intro w');(try go_simp);(try with_reducible rfl))));(try simp only [Act.put,aK,aL,aM]))
   refine rE ?_;refine tL (v:=.int .i64 (p:Int)) 6 rfl (Or.inl ⟨by rfl,?_⟩) ?_
   ·(intro w' oz;(try dsimp only at oz);have hlk:=HLK w' (oz.2.2.2.out);go_simp;(try with_reducible rfl))
   (try simp only [Act.put,aK,aL,aM])
   refine rA [7,8,9,10] ?_
   iterate 4 ((first|(refine rL (v:=?_) (by rfl) (Or.inl ⟨by rfl,?_⟩) ?_;rotate_left;·((intro w' oz);(try dsimp only at oz);(try go_simp);(try with_reducible rfl)))|(refine rW (v:=?_) (by rfl) (Or.inl ⟨by rfl,?_⟩) ?_;rotate_left;·((intro w');(try go_simp);(try with_reducible rfl))));(try simp only [Act.put,aK,aL,aM]))
   refine rE ?_;refine dO 11 (by kernel_rfl) rfl (fun K hK=>?_);go_simp
   (go_at_call 65;refine (xn _).mono ?_)
   rintro e wz ⟨rfl,om⟩;go_wp2_with fail;refine hK _ _ ⟨(om).cell oX.1,(om).cell oX.2.1,(om).cell oX.2.2.1,aC.trans oX.2.2.2 (om)⟩ (fun oX=>?_);clear hK K
   (try simp only [Act.put,aK,aL,aM])
   refine dO 12 (by kernel_rfl) rfl (fun K hK=>?_);go_simp
   (go_at_call 62;refine (HSG _).mono ?_)
   rintro e wy ⟨rfl,om⟩;go_wp2_with fail;refine hK _ _ ⟨(om).cell oX.1,(om).cell oX.2.1,(om).cell oX.2.2.1,aC.trans oX.2.2.2 (om)⟩ (fun oX=>?_);clear hK K
   (try simp only [Act.put,aK,aL,aM])
   have qs:Hid (aC wr wy):=oX.2.2.2;refine dO 13 (by kernel_rfl) rfl (fun K hK=>?_);go_simp;refine hK _ _ ⟨(aC.alloc _ _).cell oX.1,(aC.alloc _ _).cell oX.2.1,(aC.alloc _ _).cell oX.2.2.1,aC.trans oX.2.2.2 (aC.alloc _ _)⟩ (fun oX=>?_);clear hK K
   (try simp only [Act.put,aK,aL,aM])
   refine lh 14 (by kernel_rfl) (by kernel_rfl) rfl (fun K hK=>?_);refine Z3_ wy (by rfl) _ _ 29 (by rfl) w7.heap.size 53 (.string ⟨#[]⟩) 1 16 underlying29 ik (by rfl) (by decide) (.slice ao m co) numC (D.take i) z #[.string (aD z)] 53 (by rfl) (HB.ext (Hid.out (p:=aC wr wy) (by assumption))) (by rfl) (by rfl) (by simp [Value.oneCell']) (fun _ _=>rfl) sP (by decide) (oI HSZ (Hid.out (p:=aC wr wy) (by assumption)).size) ?_;intro v' w6 pF qW hb6 zD _;rw [<- HST.out] at pF;have HB6:=n8 pF;have HG6:Hid (aP (·=w3.heap.size) w7 w6):=(HG.ext (Hid.out (p:=aC wr wy) (by assumption))).thenBelow hb6 (oJ _);have HK6:=n8 ((Below.block hb6 w3.heap.size HBL).trans (aO HBK (Hid.out (p:=aC wr wy) (by assumption))));obtain ⟨a6,c6,rfl,-⟩:=aI.open pF.list;obtain ⟨m6,sl⟩:∃ m,(D.take (i+1)).length=m:=⟨_,rfl⟩;rw [sl] at HB6 |-;clear sl pF qW hb6;have k6:=aN HK6;have f6:=cD HK6;refine hK _ _ ?_;clear hK K
   (try simp only [Act.put,aK,aL,aM])
   refine lh 15 (by kernel_rfl) (by kernel_rfl) rfl (fun K hK=>?_);go_simp;refine hK _ _ ?_;clear hK K
   (try simp only [Act.put,aK,aL,aM])
   refine fL 16 (by kernel_rfl) (by kernel_rfl) (by kernel_rfl) rfl (fun K hK=>?_);go_simp;refine hK _ _ ?_;clear hK K
   (try simp only [Act.put,aK,aL,aM])
   go_wp2_with fail;go_roundw
   case rel=>exact ⟨i+1,by omega,by go_num,HG6.trans (f_ (eJ _ _ _ _) (fun k hk=>by cases hk;rfl)),_,fA HK6 2 _,HB6.boxAt HBL 2 _⟩
   case measure=>simp [intOf];omega
  ·obtain rfl:i=N:=by omega
   obtain ⟨so,o5,pC⟩:=HBB.out;have DN:D.take i=D:=by
    refine List.take_of_length_le ?_;rw [HDM.out,List.length_map,HNN.out];exact oJ _
   rw [DN] at pC;obtain ⟨ao,co,rfl,-⟩:=aI.open pC.list;have HF:=n8 pC.list;have HE9:Hid (aC w wr):=jP HE7 HG (fun j hj e=>by have:=HS3.out;omega);have qd:Hid (wr.heap[w.heap.size+1]?=some (.cells #[.int .i64 0,.int .i64 0,.slice none 0 0] 31 (0,0))):=by
    unfold Hid;rw [<- HS1.out,<- HB27.out];exact HG.block _ (dS HB27) (by have:=HS3.out;omega)
   obtain ⟨m,hm⟩:∃ m,D.length=m:=⟨_,rfl⟩;rw [hm] at o5 HF;have kk:=aN o5;have f9:=cD qd;have k9:=aN qd;clear o5 pC HBB DN;go_wp2_with fail;have hb7:=gV qd (.int .i64 n) (.int .i64 d) (.slice ao m co);refine bodyPost_ret (nf (by rfl) _ _ (w.heap.size+1) 31 #[.int .i64 n,.int .i64 d,.slice ao m co] (0,0) _ (.int .i64 0) (by rfl) (by rfl) hb7 underlying31 (by rfl) (by kernel_rfl)) (by rfl) ⟨_,rfl,dW HE9 (by omega) _ _ _,_,rfl,?_⟩;exact gZ HF qd (gU 0 0) (en _ _ _ _ _)
structure dJ (w:World) (g:Nat) (xs:List Int):Prop where
 lt:g<w.heap.size
 cell:∀ (j:Nat) x,xs[j]?=some x->w.cell? ⟨g,j,none⟩=some (.string (aD x))
 free:∀ j,w.frozen? ⟨g,j,none⟩=false
theorem dJ.same {w w':World} {g:Nat} {xs:List Int} (h:dJ w g xs) (hs:w.heap.size<=w'.heap.size) (hg:w'.heap[g]?=w.heap[g]?):dJ w' g xs :=
 ⟨oH h.lt hs,fun j x hx=>(jK hg _).trans (h.cell j x hx),fun j=>(k_ hg j).trans (h.free j)⟩
theorem dJ.ext {w w':World} {g:Nat} {xs:List Int} (h:dJ w g xs) (he:aC w w'):dJ w' g xs:=h.same he.size (he.block g h.lt)
theorem dJ.grown {w w':World} {S:Nat->Prop} {g:Nat} {xs:List Int} (h:dJ w g xs) (hg:aP S w w') (hS:¬ S g):dJ w' g xs:=h.same hg.size (hg.block g h.lt hS)
theorem dJ.set {w:World} {g:Nat} {xs:List Int} (h:dJ w g xs) (k:Nat) (hk:k<xs.length) (y:Int):dJ (w.setCell ⟨g,k,none⟩ (.string (aD y))) g (xs.set k y):=by
 refine ⟨by rw [dX];exact h.lt,fun j x hx=>?_,fun j=>by rw [kI];exact h.free j⟩;rw [oV] at hx;by_cases hj:k=j
 ·subst hj;rw [if_pos rfl,if_pos hk] at hx;cases hx;exact World.cell?_setCell_same w _ _ (h.cell k xs[k] (n9 hk))
 ·rw [if_neg hj] at hx;rw [World.cell?_setCell_other w _ _ _ (by intro e;simp only [Addr.mk.injEq] at e;omega)];exact h.cell j x hx
def jv:gL Int:=⟨dJ,fun h=>h.lt,fun h hs hg=>h.same hs hg⟩
structure dR (w:World) (g0:Nat) (tags:List (Nat×Nat)) (m:List (List Int)):Prop where
 len:tags.length=m.length
 lt:g0<w.heap.size
 free:∀ j,w.frozen? ⟨g0,j,none⟩=false
 row:∀ (i:Nat) t r,tags[i]?=some t->m[i]?=some r->w.cell? ⟨g0,i,none⟩=some (.slice (some ⟨t.1,0,none⟩) r.length t.2)/\r.length<=t.2/\t.2<=9223372036854775807/\dJ w t.1 r
 nodup:(g0::tags.map (·.1)).Nodup
theorem dR.same {w w':World} {g0:Nat} {tags:List (Nat×Nat)} {m:List (List Int)} (h:dR w g0 tags m) (hs:w.heap.size<=w'.heap.size) (hb:∀ b,bZ g0 tags b->w'.heap[b]?=w.heap[b]?):dR w' g0 tags m:=by
 have h0:=hb g0 (List.mem_cons_self ..);refine ⟨h.len,oH h.lt hs,fun j=>(k_ h0 j).trans (h.free j),fun i t r ht hr=>?_,h.nodup⟩;obtain ⟨h1,h2,h3,h4⟩:=h.row i t r ht hr;exact ⟨(jK h0 i).trans h1,h2,h3,h4.same hs (hb t.1 (List.mem_cons_of_mem _ (List.mem_map.2 ⟨t,oD ht,rfl⟩)))⟩
theorem dR.blt {w:World} {g0:Nat} {tags:List (Nat×Nat)} {m:List (List Int)} (h:dR w g0 tags m) {b:Nat} (hb:bZ g0 tags b):b<w.heap.size:=by
 rcases List.mem_cons.1 hb with rfl | hb
 ·exact h.lt
 ·obtain ⟨t,ht,rfl⟩:=List.mem_map.1 hb;obtain ⟨i,hi⟩:=List.getElem?_of_mem ht;have hl:i<m.length:=by rw [<- h.len];exact (n_.1 hi).1
  exact (h.row i t m[i] hi (n9 hl)).2.2.2.lt
theorem dR.ext {w w':World} {g0:Nat} {tags:List (Nat×Nat)} {m:List (List Int)} (h:dR w g0 tags m) (he:aC w w'):dR w' g0 tags m :=
 h.same he.size fun b hb=>he.block b (h.blt hb)
theorem dR.grown {w w':World} {S:Nat->Prop} {g0:Nat} {tags:List (Nat×Nat)} {m:List (List Int)} (h:dR w g0 tags m) (hg:aP S w w') (hS:∀ b,bZ g0 tags b->¬ S b):dR w' g0 tags m :=
 h.same hg.size fun b hb=>hg.block b (h.blt hb) (hS b hb)
theorem dR.get {w:World} {g0:Nat} {tags:List (Nat×Nat)} {m:List (List Int)} (h:dR w g0 tags m) {i:Nat} {r:List Int} (hr:m[i]?=some r) :
  ∃ t,tags[i]?=some t/\w.cell? ⟨g0,i,none⟩=some (.slice (some ⟨t.1,0,none⟩) r.length t.2)/\r.length<=t.2/\t.2<=9223372036854775807/\dJ w t.1 r/\t.1≠g0/\bZ g0 tags t.1:=by
 have hi:=(n_.1 hr).1;have hl:i<tags.length:=by rw [h.len];exact hi
 have:=h.row i tags[i] r (n9 hl) hr;refine ⟨tags[i],n9 hl,this.1,this.2.1,this.2.2.1,this.2.2.2,?_,List.mem_cons_of_mem _ (List.mem_map.2 ⟨tags[i],List.getElem_mem hl,rfl⟩)⟩;have hn:=(List.nodup_cons.1 h.nodup).1;intro e2;exact hn (List.mem_map.2 ⟨tags[i],List.getElem_mem hl,e2⟩)
theorem dR.apart {w:World} {g0:Nat} {tags:List (Nat×Nat)} {m:List (List Int)} (h:dR w g0 tags m) {i j:Nat} {s t:Nat×Nat} (hs:tags[i]?=some s) (ht:tags[j]?=some t) (qK:i≠j):s.1≠t.1:=by
 have hn:=(List.nodup_cons.1 h.nodup).2;intro e;have h1:(tags.map (·.1))[i]?=some s.1:=by rw [oE,hs];rfl
 have h2:(tags.map (·.1))[j]?=some s.1:=by rw [oE,ht,e];rfl
 obtain ⟨l1,e1⟩:=n_.1 h1;obtain ⟨l2,e2⟩:=n_.1 h2;exact qK ((List.getElem_inj hn).1 (e1.trans e2.symm))
theorem dR.setRow {w w':World} {g0:Nat} {tags:List (Nat×Nat)} {m:List (List Int)} (h:dR w g0 tags m) {i:Nat} {t:Nat×Nat} {r r0:List Int} (ht:tags[i]?=some t) (x6:m[i]?=some r0) (hr:r.length=r0.length) (hg:aP (·=t.1) w w') (hR:dJ w' t.1 r):dR w' g0 tags (m.set i r):=by
 have hi:=(n_.1 x6).1;obtain ⟨t',qv,-,-,-,-,hne,-⟩:=h.get x6;obtain rfl:t'=t:=oL (qv.symm.trans ht);have h0:=hg.block g0 h.lt (fun e=>hne e.symm);refine ⟨by rw [List.length_set];exact h.len,oH h.lt hg.size,fun j=>(k_ h0 j).trans (h.free j),fun j s q hs hq=>?_,h.nodup⟩;rw [oV] at hq;by_cases hj:i=j
 ·subst hj;rw [if_pos rfl,if_pos hi] at hq;cases hq;obtain rfl:s=t':=oL (hs.symm.trans ht);obtain ⟨h1,h2,h3,h4⟩:=h.row i s r0 hs x6;rw [<- hr] at h1 h2;exact ⟨(jK h0 i).trans h1,h2,h3,hR⟩
 ·rw [if_neg hj] at hq;obtain ⟨h1,h2,h3,h4⟩:=h.row j s q hs hq;exact ⟨(jK h0 j).trans h1,h2,h3,h4.grown hg (h.apart hs ht (fun e=>hj e.symm))⟩
theorem dR.swap {w:World} {g0:Nat} {tags:List (Nat×Nat)} {m:List (List Int)} (h:dR w g0 tags m) {i j:Nat} {s t:Nat×Nat} {p q:List Int} (hs:tags[i]?=some s) (ht:tags[j]?=some t) (hp:m[i]?=some p) (hq:m[j]?=some q) :
  dR ((w.setCell ⟨g0,i,none⟩ (.slice (some ⟨t.1,0,none⟩) q.length t.2)).setCell ⟨g0,j,none⟩ (.slice (some ⟨s.1,0,none⟩) p.length s.2)) g0 (bK tags i j) (bK m i j):=by
 have hgr:aP (·=g0) w ((w.setCell ⟨g0,i,none⟩ (.slice (some ⟨t.1,0,none⟩) q.length t.2)).setCell ⟨g0,j,none⟩ (.slice (some ⟨s.1,0,none⟩) p.length s.2)):=((aP.refl (·=g0) w).store (S:=(·=g0)) rfl _ _).store (S:=(·=g0)) rfl _ _;have ci:=(h.row i s p hs hp).1;have cj:=(h.row j t q ht hq).1;refine ⟨by rw [iQ,iQ];exact h.len,by rw [dX,dX];exact h.lt,fun k=>by rw [kI,kI];exact h.free k,fun k u r hu hr=>?_,?_⟩
 ·rw [fJ hs ht] at hu;rw [fJ hp hq] at hr;have hrow:∀ (k:Nat) u r,tags[k]?=some u->m[k]?=some r->dJ ((w.setCell ⟨g0,i,none⟩ (.slice (some ⟨t.1,0,none⟩) q.length t.2)).setCell ⟨g0,j,none⟩ (.slice (some ⟨s.1,0,none⟩) p.length s.2)) u.1 r:=by
   intro k u r hu hr;obtain ⟨u',FA,-,-,-,hR,hne,-⟩:=h.get hr;obtain rfl:u'=u:=oL (FA.symm.trans hu);exact hR.grown hgr hne
  by_cases e1:k=j
  ·subst e1;rw [if_pos rfl] at hu hr;cases hu;cases hr;obtain ⟨_,h2,h3,_⟩:=h.row i s p hs hp;refine ⟨?_,h2,h3,hrow i s p hs hp⟩;by_cases e2:i=k
   ·subst e2;exact World.cell?_setCell_same _ _ _ (World.cell?_setCell_same w _ _ ci)
   ·exact World.cell?_setCell_same _ _ _ ((World.cell?_setCell_other _ _ _ _ (by intro e;simp only [Addr.mk.injEq] at e;omega)).trans cj)
  ·rw [if_neg e1] at hu hr;by_cases e2:k=i
   ·subst e2;rw [if_pos rfl] at hu hr;cases hu;cases hr;obtain ⟨_,h2,h3,_⟩:=h.row j t q ht hq;refine ⟨?_,h2,h3,hrow j t q ht hq⟩;rw [World.cell?_setCell_other _ _ _ _ (by intro e;simp only [Addr.mk.injEq] at e;omega)];exact World.cell?_setCell_same w _ _ ci
   ·rw [if_neg e2] at hu hr;obtain ⟨h1,h2,h3,_⟩:=h.row k u r hu hr;refine ⟨?_,h2,h3,hrow k u r hu hr⟩;rw [World.cell?_setCell_other _ _ _ _ (by intro e;simp only [Addr.mk.injEq] at e;omega),World.cell?_setCell_other _ _ _ _ (by intro e;simp only [Addr.mk.injEq] at e;omega)];exact h1
 ·have hn:=List.nodup_cons.1 h.nodup;rw [Z2Y];refine List.nodup_cons.2 ⟨?_,n0_ hn.2 i j⟩;intro hm;refine hn.1 ?_;obtain ⟨k,hk⟩:=List.getElem?_of_mem hm;have a1:(tags.map (·.1))[i]?=some s.1:=by rw [oE,hs];rfl
  have a2:(tags.map (·.1))[j]?=some t.1:=by rw [oE,ht];rfl
  rw [fJ a1 a2] at hk;by_cases e1:k=j
  ·rw [if_pos e1] at hk;cases hk;exact oD a1
  ·rw [if_neg e1] at hk;by_cases e2:k=i
   ·rw [if_pos e2] at hk;cases hk;exact oD a2
   ·rw [if_neg e2] at hk;exact oD hk
theorem bO.matN {e:TypeId} {w:World} {ob base:Nat} {g cap:Nat} {tags:List (Nat×Nat)} {m:List (List Int)} (h:bO jv e w ob base (.slice (some ⟨g,0,none⟩) m.length cap) tags m) (hob:base<=ob) :
  dR w g tags m/\m.length<=cap/\cap<=9223372036854775807/\∀ b,bZ g tags b->base<=b:=by
 obtain ⟨h1,h2,h3,h4,h5,h6,h7⟩:=h.parts;refine ⟨⟨h.len,h2,h3,h4,h5⟩,h6,h7,fun b hb=>?_⟩;rcases List.mem_cons.1 hb with rfl | hb
 ·exact oI hob h1
 ·exact (h.fresh hb).1
theorem nY (n:Int) (w:World) :
  Calls prog 86 #[.string (aD n)] w fun e w'=>e=.returned (.int .i64 n.sign)/\w=w':=by
 have hp0:0<(aD n).size:=lD n;have hz:=iq n;by_cases h0:n=0
 ·rw [oS h0] at hz;have HR:Hid (n.sign=0):=by unfold Hid;rw [h0];rfl
  rw [HR.out];clear h0 HR
  go_enter func86,ntmps86
  go_wp2_with fail;go_ret;exact ⟨rfl,rfl⟩
 ·rw [oR h0] at hz;by_cases h:n<0
  ·have q:=nR n h hp0;have HR:Hid (n.sign=-1):=Int.sign_eq_neg_one_of_neg h;rw [HR.out];clear h0 h HR
   go_enter func86,ntmps86
   go_wp2_with fail;go_ret;exact ⟨rfl,rfl⟩
  ·have q:=nE (aD n) n.toNat (dC n (by omega)) hp0;have HR:Hid (n.sign=1):=Int.sign_eq_one_of_pos (by omega);rw [HR.out];clear h0 h HR
   go_enter func86,ntmps86
   go_wp2_with fail;go_ret;exact ⟨rfl,rfl⟩
theorem mI (n:Int) (w:World) (h1:-9223372036854775808<=n) (h2:n<=9223372036854775807) (ht:af w) :
  oW 69 #[.int .i64 n] w (.string (aD n)):=by
 have HA:=n8 (l9 n w h1 h2 ht);clear ht
 go_enter func69,ntmps69
 go_wp2_with fail;refine HA.mono ?_;rintro e w1 ⟨rfl,hE1⟩;have HE1:=n8 hE1;clear hE1 HA;go_wp2_with fail;go_ret;exact ⟨rfl,HE1⟩
theorem jx (n:Int) (w:World) :
  Calls prog 115 #[.string (aD n)] w fun e w'=>e=.returned (.string (aE n.natAbs))/\w=w':=by
 have hp0:0<(aD n).size:=lD n;have rF:(0:Int)<((aD n).size:Int):=by omega
 by_cases h:n<0
 ·have q:=nR n h hp0;have HT:=n8 (y7_ n h);have hp1:(1:Int)<=((aD n).size:Int):=by omega
  have hp2:1<=(aD n).size:=hp0;clear h
  go_enter func115,ntmps115
  go_wp2_with fail;go_ret;exact ⟨by rw [<- HT.out];rfl,rfl⟩
 ·have q:=nE (aD n) n.toNat (dC n (by omega)) hp0;have HR:Hid (aD n=aE n.natAbs):=by unfold Hid;rw [dC n (by omega)];congr 1;omega
  clear h
  go_enter func115,ntmps115
  go_wp2_with fail;go_ret;exact ⟨by rw [<- HR.out];rfl,rfl⟩
structure km (s:ByteArray) (i0 u:Nat):Prop where
 size:i0<=s.size
 digs:(s.data.toList.drop i0).all cI=true
 val:ak 0 (s.data.toList.drop i0)=u
def jX (s:ByteArray) (i0 i:Nat):Nat:=ak 0 ((s.data.toList.drop i0).take (i-i0))
theorem Z2s {s:ByteArray} {i0 i:Nat} (h0:i0<=i) (hi:i<s.size):jX s i0 (i+1)=jX s i0 i*10+(s[i].toNat-48):=by
 unfold jX;have h1:(s.data.toList.drop i0)[i-i0]?=some s[i]:=by
  rw [oT,show i0+(i-i0)=i by omega];exact kt s i hi
 rw [show i+1-i0=(i-i0)+1 by omega,oG,h1,jk];rfl
theorem km.dig {s:ByteArray} {i0 u:Nat} (h:km s i0 u) {i:Nat} (h0:i0<=i) (hi:i<s.size):48<=s[i].toNat/\s[i].toNat<=57:=by
 have h1:(s.data.toList.drop i0)[i-i0]?=some s[i]:=by
  rw [oT,show i0+(i-i0)=i by omega];exact kt s i hi
 exact of_decide_eq_true (List.all_eq_true.1 h.digs _ (oD h1))
theorem km.le {s:ByteArray} {i0 u:Nat} (h:km s i0 u) (i:Nat):jX s i0 i<=u:=by
 have hs:s.data.toList.drop i0=(s.data.toList.drop i0).take (i-i0)++(s.data.toList.drop i0).drop (i-i0):=(List.take_append_drop _ _).symm;rw [<- h.val,hs,jk];unfold jX;exact t7_ _ _
theorem km.all {s:ByteArray} {i0 u:Nat} (h:km s i0 u):jX s i0 s.size=u:=by
 unfold jX;rw [List.take_of_length_le (by rw [List.length_drop,<- Lib.size_eq];omega)];exact h.val
theorem Z4P (u:Nat):Lib.decDigits u≠[]:=by
 have h:=(lF (u:Int)).2.2.2;have e:Lib.itoa (u:Int)=Lib.decDigits u:=by unfold Lib.itoa;rw [if_neg (by omega)];rfl
 rwa [e] at h
theorem U3_ (u:Nat):ak 0 (Lib.decDigits u)=u:=by
 have h:=(lF (u:Int)).2.1;have e:Lib.itoa (u:Int)=Lib.decDigits u:=by unfold Lib.itoa;rw [if_neg (by omega)];rfl
 rw [e] at h;have hd:=gP u;cases hl:Lib.decDigits u with
 | nil=>have:=Z4P u;rw [hl] at this;exact absurd rfl this
 | cons c r =>
  rw [hl] at h hd;have hc:cI c=true:=by simp only [List.all_cons,Bool.and_eq_true] at hd;exact hd.1
  have hne:c≠45:=by intro e;rw [e] at hc;revert hc;decide
  rw [V3_ hne] at h;exact Int.ofNat.inj h
theorem Z4G (n:Int):km (aD n) (if n<0 then 1 else 0) n.natAbs:=by
 by_cases h:n<0
 ·rw [if_pos h];have hl:(aD n).data.toList.drop 1=Lib.decDigits n.natAbs:=by rw [lC n h,ep];rfl
  exact ⟨by have:=lD n;omega,by rw [hl];exact gP _,by rw [hl];exact U3_ _⟩
 ·rw [if_neg h];have hl:(aD n).data.toList.drop 0=Lib.decDigits n.natAbs:=by rw [dC n (by omega),ep,List.drop_zero];congr 1;omega
  exact ⟨Nat.zero_le _,by rw [hl];exact gP _,by rw [hl];exact U3_ _⟩
theorem Z0v (n:Int) (w:World) (hn:-1000000000000000000<n/\n<1000000000000000000) :
  oW 178 #[.string (aD n)] w (.tuple #[.int .i64 n,.bool true]):=by
 have HT:=n8 (Z4G n);have hp0:0<(aD n).size:=lD n;have rF:(0:Int)<((aD n).size:Int):=by omega
 obtain ⟨u,hu⟩:∃ u,u=n.natAbs:=⟨_,rfl⟩;rw [<- hu] at HT;have yR:u<1000000000000000000:=by omega
 have hsz:(aD n).size<=19:=by
  have h1:=eK n;have h2:=ix n.natAbs 18 (by rw [show (10:Nat)^18=1000000000000000000 by decide];omega) (by omega);omega
 by_cases h:n<0
 case' pos =>
  rw [if_pos h] at HT;have q:=nR n h hp0;have hs2:2<=(aD n).size:=by
   rw [jq n h];have:0<(aE n.natAbs).size:=by rw [Lib.size_eq,ep];exact List.length_pos_iff.2 (Z4P _)
   omega
  have q2:((1:Int) == ((aD n).size:Int))=false:=by rw [beq_eq_false_iff_ne];omega
  have Fa:n=-(u:Int):=by omega
  obtain ⟨i0,wJ⟩:∃ i0:Nat,i0=1:=⟨1,rfl⟩
 case' neg =>
  rw [if_neg h] at HT;have q:=nE (aD n) n.toNat (dC n (by omega)) hp0;have q2:((0:Int) == ((aD n).size:Int))=false:=by rw [beq_eq_false_iff_ne];omega
  have Fa:n=(u:Int):=by omega
  obtain ⟨i0,wJ⟩:∃ i0:Nat,i0=0:=⟨0,rfl⟩
 all_goals
  have HI:=n8 wJ;have HNU:=n8 Fa;rw [<- wJ] at HT;clear h hu wJ Fa;generalize aD n=s at *
  go_enter func178,ntmps178
  go_wp2_with fail;clear q q2
  go_loopw [5,7] (fun t v wr=>∃ i:Nat,i0<=i/\i<=s.size/\t=.int .i64 (i:Int)/\v=.int .i64 (-(jX s i0 i:Int))/\aC w wr) (fun t _ _=>s.size-(intOf t).toNat)
  case atStart=>exact ⟨i0,oJ _,HT.size,by rw [HI.out];rfl,by unfold jX;rw [Nat.sub_self];rfl,by first | exact aC.refl _ | exact aC.drew _⟩
  case round =>
   obtain ⟨i,sR,hi2,rfl,rfl,hE⟩:=hrel;by_cases hlt:i<s.size
   ·obtain ⟨Md,Mc⟩:=HT.dig sR hlt;have hsu:=Z2s sR hlt;have hle:=HT.le (i+1);obtain ⟨z,hz⟩:∃ z:Nat,s[i].toNat=z+48:=⟨s[i].toNat-48,by omega⟩;obtain ⟨p,hp⟩:∃ p,p=jX s i0 i:=⟨_,rfl⟩;rw [hz,<- hp,show z+48-48=z by omega] at hsu;have HSU:=n8 hsu;rw [hsu] at hle;rw [<- hp];have e1:(s[i].toNat:Int)=(z:Int)+48:=by rw [hz];rfl
    have e2:IntKind.i64.wrap ((z:Int)+48-48)=(z:Int):=by rw [IntKind.wrap_i64];omega
    have e3:¬ (9:Int)<(z:Int):=by omega
    have e4:IntKind.i64.wrap (-9223372036854775808+(z:Int))=-9223372036854775808+(z:Int):=by rw [IntKind.wrap_i64];omega
    obtain ⟨dq,Lt⟩:∃ dq,(-9223372036854775808+(z:Int)).tdiv 10=dq:=⟨_,rfl⟩;have ry:dq<=-900000000000000000/\-1000000000000000000<=dq:=by
     have hneg:-9223372036854775808+(z:Int)=-(9223372036854775808-(z:Int)):=by omega
     rw [hneg,Int.neg_tdiv,Int.tdiv_eq_ediv_of_nonneg (by omega)] at Lt;omega
    have e5:IntKind.i64.wrap dq=dq:=by rw [IntKind.wrap_i64];omega
    have e6:¬ (-(p:Int))<dq:=by omega
    have e7:IntKind.i64.wrap (-(p:Int)*10)=-(p:Int)*10:=by rw [IntKind.wrap_i64];omega
    have e8:IntKind.i64.wrap (-(p:Int)*10-(z:Int))=-(p:Int)*10-(z:Int):=by rw [IntKind.wrap_i64];omega
    have z1:=oR e3;have z2:=oR e6;clear hz hp hsu Md Mc;have e9:IntKind.i64.wrap ((i:Int)+1)=(i:Int)+1:=by rw [IntKind.wrap_i64];omega
    go_wp2_with fail;go_roundw
    case rel=>exact ⟨i+1,by omega,by omega,by go_num,by rw [HSU.out];congr 1;omega,by first | exact hE | trivial⟩
    case measure=>simp [intOf];omega
   ·obtain rfl:i=s.size:=by omega
    rw [HT.out.all];have e1:((-(u:Int)) == -9223372036854775808)=false:=by rw [beq_eq_false_iff_ne];omega
    have e2:IntKind.i64.wrap (0 - -(u:Int))=(u:Int):=by rw [IntKind.wrap_i64];omega
    go_wp2_with fail;go_ret2;exact ⟨by rw [HNU.out];first | rfl | simp,by first | exact hE | trivial⟩
theorem nX (n:Int) (w:World) (hn:-1000000000000000000<n/\n<1000000000000000000) :
  oW 126 #[.string (aD n)] w (.tuple #[.int .i64 n,.bool true]):=by
 have HD:=n8 (jx n w);have HS:=n8 (fun W=>Z0v n W hn);have hsz:=ix n.natAbs 18 (by rw [show (10:Nat)^18=1000000000000000000 by decide];omega) (by omega);have hz:¬ (18:Int)<((aE n.natAbs).size:Int):=by omega
 clear hn
 go_enter func126,ntmps126
 go_wp2_with fail;refine HD.mono ?_;rintro e w1 ⟨rfl,rfl⟩;go_wp2_with fail;refine (HS _).mono ?_;rintro e w2 ⟨rfl,hE⟩;have HE:=n8 hE;clear hE HS HD;go_wp2_with fail;go_ret2;exact ⟨rfl,HE⟩
theorem d3_ (n:Int) (w:World) :
  oW 145 #[.string (aD n)] w (.string (aE n.natAbs)):=by
 have HD:=n8 (jx n w)
 go_enter func145,ntmps145
 go_wp2_with fail;refine HD.mono ?_;rintro e w1 ⟨rfl,rfl⟩;go_wp2_with fail;go_ret;exact ⟨rfl,aC.refl _⟩
theorem Z2v (x y:Int) (w:World) (hx:-1000000000000000000<x/\x<1000000000000000000) (hy:-1000000000000000000<y/\y<1000000000000000000) (h0:y≠0) (ht:af w) :
  oW 87 #[.string (aD x),.string (aD y)] w (.tuple #[.string (aD (aR x y)),.string (aD (bF x y))]):=by
 have HT:=n8 ht;have hz:=iq y;rw [oR h0] at hz;obtain ⟨pq,rQ⟩:=id hx;obtain ⟨rm,qg⟩:=id hy;have H1:=n8 (nX x w hx);have H2:Hid (∀ W,oW 126 #[.string (aD y)] W (.tuple #[.int .i64 y,.bool true])):=fun W=>nX y W hy;have hrl:=mT x y h0;have hql:=v0_ x y;have wF:(aR x y).natAbs<=1000000000000000001:=by have:=nH x y;omega
 have qU:(bF x y).natAbs<=1000000000000000001:=by
  rcases Int.lt_trichotomy y 0 with h | h | h
  ·have:=ly x y h;omega
  ·exact absurd h h0
  ·have:=kG x y h;omega
 have H3:Hid (∀ W,aC w W->oW 69 #[.int .i64 (aR x y)] W (.string (aD (aR x y)))):=fun W hE=>mI _ W (by omega) (by omega) (HT.ext hE);have H4:Hid (∀ W,aC w W->oW 69 #[.int .i64 (bF x y)] W (.string (aD (bF x y)))):=fun W hE=>mI _ W (by omega) (by omega) (HT.ext hE);have hyb:(y == 0)=false:=beq_eq_false_iff_ne.2 h0;have pn:Hid (aR x y=if x.tmod y≠0/\decide (x.tmod y<0)≠decide (y<0) then x.tdiv y-1 else x.tdiv y):=rfl;have HFR:Hid (bF x y=if x.tmod y≠0/\decide (x.tmod y<0)≠decide (y<0) then x.tmod y+y else x.tmod y):=rfl;obtain ⟨fq,C5⟩:∃ q,q=aR x y:=⟨_,rfl⟩;obtain ⟨fr,yD⟩:∃ r,r=bF x y:=⟨_,rfl⟩;rw [<- C5] at H3 pn wF |-;rw [<- yD] at H4 HFR qU |-;obtain ⟨q,hq⟩:∃ q,x.tdiv y=q:=⟨_,rfl⟩;obtain ⟨r,hr⟩:∃ r,x.tmod y=r:=⟨_,rfl⟩;rw [hq] at pn hql;rw [hr] at HFR pn hrl;have e1:IntKind.i64.wrap q=q:=IntWalk.i64_in _ (by omega);have pR:¬ y=0:=h0;clear ht C5 yD h0;by_cases c0:r=0
 ·have k0:(r != 0)=false:=by simp [c0]
  rw [if_neg (by simp [c0])] at pn HFR;rw [pn.out] at H3 |-;rw [HFR.out] at H4 |-;clear pn HFR c0
  go_enter func87,ntmps87
  go_wp2_with fail;refine H1.mono ?_;rintro e w1 ⟨rfl,hE1⟩;have HE1:=n8 hE1;clear hE1 H1;go_wp2_with fail;refine (H2 _).mono ?_;rintro e w2 ⟨rfl,oY⟩;have HE2:=n8 (aC.trans HE1 oY);clear oY H2;go_wp2_with fail
  go_quiet (fail)
  go_wp2_with fail;refine (H3 _ (aC.draws HE2 _)).mono ?_;rintro e w3 ⟨rfl,oh⟩;have HE3:=n8 (aC.trans (aC.draws HE2 _) oh);clear oh H3;go_wp2_with fail;refine (H4 _ HE3).mono ?_;rintro e w4 ⟨rfl,hE4⟩;have HE4:=n8 (aC.trans HE3 hE4);clear hE4 H4;go_wp2_with fail;go_ret2;exact ⟨rfl,HE4⟩
 ·have k0:(r != 0)=true:=by simpa using c0
  by_cases c1:r<0
  ·by_cases c2:y<0
   ·have k5:decide (r<0)=true:=oS c1;have k6:decide (y<0)=true:=oS c2;have k7:(!decide (r<0))=false:=by rw [k5];rfl
    have k8:(!decide (y<0))=false:=by rw [k6];rfl
    rw [if_neg (by rw [oS c1,oS c2];simp)] at pn HFR;rw [pn.out] at H3 |-;rw [HFR.out] at H4 |-;clear pn HFR c0
    go_enter func87,ntmps87
    go_wp2_with fail;refine H1.mono ?_;rintro e w1 ⟨rfl,hE1⟩;have HE1:=n8 hE1;clear hE1 H1;go_wp2_with fail;refine (H2 _).mono ?_;rintro e w2 ⟨rfl,oY⟩;have HE2:=n8 (aC.trans HE1 oY);clear oY H2;go_wp2_with fail
    go_quiet (fail)
    go_wp2_with fail;refine (H3 _ (aC.draws HE2 _)).mono ?_;rintro e w3 ⟨rfl,oh⟩;have HE3:=n8 (aC.trans (aC.draws HE2 _) oh);clear oh H3;go_wp2_with fail;refine (H4 _ HE3).mono ?_;rintro e w4 ⟨rfl,hE4⟩;have HE4:=n8 (aC.trans HE3 hE4);clear hE4 H4;go_wp2_with fail;go_ret2;exact ⟨rfl,HE4⟩
   ·have k5:decide (r<0)=true:=oS c1;have k6:decide (y<0)=false:=oR c2;have k7:(!decide (r<0))=false:=by rw [k5];rfl
    have k8:(!decide (y<0))=true:=by rw [k6];rfl
    rw [if_pos ⟨c0,by rw [oS c1,oR c2];simp⟩] at pn HFR;rw [pn.out] at H3 |- wF;rw [HFR.out] at H4 |- qU;clear pn HFR c0
    go_enter func87,ntmps87
    go_wp2_with fail;refine H1.mono ?_;rintro e w1 ⟨rfl,hE1⟩;have HE1:=n8 hE1;clear hE1 H1;go_wp2_with fail;refine (H2 _).mono ?_;rintro e w2 ⟨rfl,oY⟩;have HE2:=n8 (aC.trans HE1 oY);clear oY H2;go_wp2_with fail
    go_quiet (fail)
    go_wp2_with fail;refine (H3 _ (aC.draws HE2 _)).mono ?_;rintro e w3 ⟨rfl,oh⟩;have HE3:=n8 (aC.trans (aC.draws HE2 _) oh);clear oh H3;go_wp2_with fail;refine (H4 _ HE3).mono ?_;rintro e w4 ⟨rfl,hE4⟩;have HE4:=n8 (aC.trans HE3 hE4);clear hE4 H4;go_wp2_with fail;go_ret2;exact ⟨rfl,HE4⟩
  ·by_cases c2:y<0
   ·have k5:decide (r<0)=false:=oR c1;have k6:decide (y<0)=true:=oS c2;have k7:(!decide (r<0))=true:=by rw [k5];rfl
    have k8:(!decide (y<0))=false:=by rw [k6];rfl
    rw [if_pos ⟨c0,by rw [oR c1,oS c2];simp⟩] at pn HFR;rw [pn.out] at H3 |- wF;rw [HFR.out] at H4 |- qU;clear pn HFR c0
    go_enter func87,ntmps87
    go_wp2_with fail;refine H1.mono ?_;rintro e w1 ⟨rfl,hE1⟩;have HE1:=n8 hE1;clear hE1 H1;go_wp2_with fail;refine (H2 _).mono ?_;rintro e w2 ⟨rfl,oY⟩;have HE2:=n8 (aC.trans HE1 oY);clear oY H2;go_wp2_with fail
    go_quiet (fail)
    go_wp2_with fail;refine (H3 _ (aC.draws HE2 _)).mono ?_;rintro e w3 ⟨rfl,oh⟩;have HE3:=n8 (aC.trans (aC.draws HE2 _) oh);clear oh H3;go_wp2_with fail;refine (H4 _ HE3).mono ?_;rintro e w4 ⟨rfl,hE4⟩;have HE4:=n8 (aC.trans HE3 hE4);clear hE4 H4;go_wp2_with fail;go_ret2;exact ⟨rfl,HE4⟩
   ·have k5:decide (r<0)=false:=oR c1;have k6:decide (y<0)=false:=oR c2;have k7:(!decide (r<0))=true:=by rw [k5];rfl
    have k8:(!decide (y<0))=true:=by rw [k6];rfl
    rw [if_neg (by rw [oR c1,oR c2];simp)] at pn HFR;rw [pn.out] at H3 |-;rw [HFR.out] at H4 |-;clear pn HFR c0
    go_enter func87,ntmps87
    go_wp2_with fail;refine H1.mono ?_;rintro e w1 ⟨rfl,hE1⟩;have HE1:=n8 hE1;clear hE1 H1;go_wp2_with fail;refine (H2 _).mono ?_;rintro e w2 ⟨rfl,oY⟩;have HE2:=n8 (aC.trans HE1 oY);clear oY H2;go_wp2_with fail
    go_quiet (fail)
    go_wp2_with fail;refine (H3 _ (aC.draws HE2 _)).mono ?_;rintro e w3 ⟨rfl,oh⟩;have HE3:=n8 (aC.trans (aC.draws HE2 _) oh);clear oh H3;go_wp2_with fail;refine (H4 _ HE3).mono ?_;rintro e w4 ⟨rfl,hE4⟩;have HE4:=n8 (aC.trans HE3 hE4);clear hE4 H4;go_wp2_with fail;go_ret2;exact ⟨rfl,HE4⟩
end Go.Proofs.YtjlkkofmojgipaaGreatDoor
