import Derived.Test.YtoonaddcfakamaaGreatDoorZAB
import Derived.Test.YtoonaddcfakamaaGreatDoorZAD
import Derived.WalkLawsBesides
import Derived.WalkSmall
import Derived.Test.YtoonaddcfakamaaGreatDoorZAC
import Derived.Lib.AppendIntMem
set_option linter.unusedVariables false
set_option linter.unusedSimpArgs false
set_option maxRecDepth 1000000
set_option maxHeartbeats 4000000
namespace Go.Proofs.YtoonaddcfakamaaGreatDoor
open Go.RowKit Go.Proofs.Tryz
def aL (x y:Int):Int:=if x.tmod y≠0/\decide (x.tmod y<0)≠decide (y<0) then x.tdiv y-1 else x.tdiv y
def bF (x y:Int):Int:=if x.tmod y≠0/\decide (x.tmod y<0)≠decide (y<0) then x.tmod y+y else x.tmod y
theorem mW (x y:Int):x=y*aL x y+bF x y:=by
 have h:y*x.tdiv y+x.tmod y=x:=by first | exact Int.mul_tdiv_add_tmod x y | (rw [Int.add_comm];exact Int.tmod_add_mul_tdiv x y)
 unfold aL bF
 split
 ·rw [Int.mul_sub,Int.mul_one];omega
 ·omega
theorem s4_ (x y:Int) (hy:y≠0):(x.tmod y).natAbs<y.natAbs:=by
 rw [Int.natAbs_tmod];exact Nat.mod_lt _ (by omega)
theorem Z3Y (x y:Int):(x.tdiv y).natAbs<=x.natAbs:=by
 rw [Int.natAbs_tdiv];exact Nat.div_le_self _ _
theorem lG (x y:Int) (hy:0<y):0<=bF x y/\bF x y<y:=by
 have h:=s4_ x y (by omega);unfold bF;by_cases h0:x.tmod y=0;·rw [if_neg (by simp [h0])];omega
 ·by_cases h1:x.tmod y<0;·rw [if_pos ⟨h0,by rw [pE h1,pD (show ¬ y<0 by omega)];simp⟩];omega
  ·rw [if_neg (by rw [pD h1,pD (show ¬ y<0 by omega)];simp)];omega
theorem nt (x y:Int) (hy:y<0):y<bF x y/\bF x y<=0:=by
 have h:=s4_ x y (by omega);unfold bF;by_cases h0:x.tmod y=0;·rw [if_neg (by simp [h0])];omega
 ·by_cases h1:x.tmod y<0;·rw [if_neg (by rw [pE h1,pE hy];simp)];omega
  ·rw [if_pos ⟨h0,by rw [pD h1,pE hy];simp⟩];omega
theorem b4_ (x y:Int):(aL x y).natAbs<=x.natAbs+1:=by
 have:=Z3Y x y;unfold aL;split <;> omega
theorem S7_ (u v:Nat):(u:Int).tdiv (v:Int)=((u / v:Nat):Int):=by
 rw [Int.tdiv_eq_ediv_of_nonneg (by omega)];exact (Int.natCast_ediv _ _).symm
theorem S8_ (u v:Nat):(u:Int).tmod (v:Int)=((u%v:Nat):Int):=by
 rw [Int.tmod_eq_emod_of_nonneg (by omega)];exact (Int.natCast_emod _ _).symm
def sgn (b:Bool) (u:Nat):Int:=if b then -(u:Int) else u
theorem oP (n:Int):sgn (decide (n<0)) n.natAbs=n:=by
 unfold sgn;by_cases h:n<0;·rw [pE h,if_pos rfl];omega
 ·rw [pD h,if_neg Bool.false_ne_true];omega
theorem oO (u:Nat):sgn false u=u:=rfl
theorem oQ (u:Nat):sgn true u=-(u:Int):=rfl
theorem Z5I {p:Bool} {x:Int} (h:p=decide (x<0)):x=sgn p x.natAbs:=by rw [h,oP]
theorem Z6X (x y:Int) (hy:y≠0) {p q:Bool} (hp:p=decide (x<0)) (hq:q=decide (y<0)) :
  aL x y=sgn (p != q) (if (p != q)=true/\x.natAbs%y.natAbs≠0 then x.natAbs / y.natAbs+1 else x.natAbs / y.natAbs) /\
  bF x y=sgn q (if (p != q)=true/\x.natAbs%y.natAbs≠0 then y.natAbs-x.natAbs%y.natAbs else x.natAbs%y.natAbs):=by
 have ex:=Z5I hp;have ey:=Z5I hq;have hv:0<y.natAbs:=by omega
 have yP:y<0↔q=true:=by rw [hq];simp
 generalize x.natAbs=u at *
 generalize y.natAbs=v at *
 have hr:=Nat.mod_lt u hv;unfold aL bF;have Kd:decide (y<0)=q:=hq.symm;rw [Kd];cases p <;> cases q
 all_goals
  simp only [oO,oQ] at ex ey;subst ex;subst ey
 ·rw [S7_,S8_];generalize u%v=R at *
  generalize u / v=Q at *
  have h1:decide ((R:Int)<0)=false:=pD (by omega);simp [h1,sgn]
 ·rw [Int.tdiv_neg,Int.tmod_neg,S7_,S8_];generalize u%v=R at *
  generalize u / v=Q at *
  have h1:decide ((R:Int)<0)=false:=pD (by omega);rw [h1];by_cases h0:R=0;·simp [h0,sgn]
  ·simp [h0,sgn];omega
 ·rw [Int.neg_tdiv,Int.neg_tmod,S7_,S8_];generalize u%v=R at *
  generalize u / v=Q at *
  by_cases h0:R=0;·simp [h0,sgn]
  ·have h1:decide (-(R:Int)<0)=true:=pE (by omega);rw [h1];simp [h0,sgn];omega
 ·rw [Int.neg_tdiv,Int.neg_tmod,Int.tdiv_neg,Int.tmod_neg,S7_,S8_];generalize u%v=R at *
  generalize u / v=Q at *
  by_cases h0:R=0;·simp [h0,sgn]
  ·have h1:decide (-(R:Int)<0)=true:=pE (by omega);rw [h1];simp [h0,sgn]
def Sm (n:Int):Prop:=-100000000000000000<n/\n<100000000000000000
theorem Sm.of {n:Int} {b:Int} (h1:-b<=n) (h2:n<=b) (hb:b<100000000000000000):Sm n:=⟨by omega,by omega⟩
theorem Z78:(10:Nat)^17=100000000000000000:=by decide
theorem S1_ (n:Int):1<=(aB n).size:=by
 rw [Lib.size_eq,S0_];exact List.length_pos_iff.2 (n8 n).2.2.2
theorem lP (n:Int) (h:n<0):(aB n).size=(aE n.natAbs).size+1:=by
 rw [Lib.size_eq,L4_ n h,Lib.size_eq];rfl
theorem Sm.size {n:Int} (h:Sm n):(aB n).size<=18:=by
 by_cases h0:n<0
 ·rw [lP n h0];have:=kZ n.natAbs 17 (by rw [Z78];have:=h.1;omega) (by omega);omega
 ·rw [fw n (by omega)];have:=kZ n.toNat 17 (by rw [Z78];have:=h.2;omega) (by omega);omega
theorem Z04 (n:Int) (h:n<0) (hp:0<(aB n).size):(((aB n)[0].toNat:Int) == 45)=true:=by
 have hb:=mL (aB n) 0 hp;rw [L4_ n h] at hb;simp only [o_,Option.some.injEq] at hb;rw [<- hb];rfl
theorem c8_ (s:ByteArray) (u:Nat) (hs:s=aE u) (hp:0<s.size):((s[0].toNat:Int) == 45)=false:=by
 subst hs;have hb:=mL (aE u) 0 hp;rw [jw] at hb;have hd:=List.all_eq_true.1 (mV u) _ (og hb);have hc:48<=(aE u)[0].toNat/\(aE u)[0].toNat<=57:=of_decide_eq_true hd;rw [beq_eq_false_iff_ne];omega
theorem Z50 (n:Int) (h:n<0):(aB n).extract 1 (aB n).size=aE n.natAbs:=by
 apply Z1V;rw [Lib.extract_data,L4_ n h,List.drop_succ_cons,List.drop_zero];refine List.take_of_length_le ?_;have:=lP n h;rw [<- Lib.size_eq];omega
theorem iL (n:Int):((aB n).toList == [48])=decide (n=0):=by
 rw [H2_,show ([48]:List UInt8)=Lib.itoa 0 by unfold Lib.itoa;rw [if_neg (by omega),Lib.decDigits_one (by decide)];rfl,Z2M]
theorem s2_ (n:Int) (w:World) :
  Calls prog 153 #[.string (aB n)] w fun e w'=>e=.returned (.tuple #[.bool (decide (n<0)),.string (aE n.natAbs)])/\∃ k,w'=w.drewN k:=by
 have hp:=S1_ n;have sD:(0:Int)<((aB n).size:Int):=by omega
 have hp0:0<(aB n).size:=hp;by_cases h:n<0
 ·have q:=Z04 n h hp0;have t:=Z50 n h;have HD:Hid (decide (n<0)=true):=pE h;obtain ⟨m,hm⟩:=pL (aE n.natAbs);rw [<- hm] at t |-;rw [HD.out];clear h hm HD
  go_enter func153,ntmps153
  go_wp2_with fail
  go_quiet (fail)
  go_wp2_with fail;go_ret2;exact ⟨rfl,_,rfl⟩
 ·have q:=c8_ (aB n) n.toNat (fw n (by omega)) hp0;have HD:Hid (decide (n<0)=false):=pD h;have HM:Hid (aE n.natAbs=aB n):=by unfold Hid;rw [fw n (by omega)];congr 1;omega
  rw [HD.out,HM.out];clear h HD HM
  go_enter func153,ntmps153
  go_wp2_with fail;go_ret2;exact ⟨rfl,0,rfl⟩
theorem km (n:Int) (w:World) :
  pI 153 #[.string (aB n)] w (.tuple #[.bool (decide (n<0)),.string (aE n.natAbs)]) :=
 (s2_ n w).mono fun _ _ ⟨h,k,hw⟩=>⟨h,hw▸aA.drewN _ _⟩
theorem L5_ (b:Bool) (u:Nat) (w:World) (hu:(aE u).size<=10000000000) :
  pJ 161 #[.bool b,.string (aE u)] w (.string (aB (sgn b u))):=by
 have hz:=kd u;have z1:¬ 9223372036854775807<1+(aE u).size:=by omega
 cases b with
 | false =>
  have HR:Hid (aB (sgn false u)=aE u):=by unfold Hid sgn;rw [if_neg Bool.false_ne_true,fw _ (by omega)];congr 1
  rw [HR.out];clear HR hz
  go_enter func161,ntmps161
  go_wp2_with fail;go_ret;exact ⟨rfl,rfl⟩
 | true =>
  by_cases h0:u=0
  ·rw [pE h0] at hz;have HR:Hid (aB (sgn true u)=aE u):=(by unfold Hid sgn;rw [if_pos rfl,fw _ (by omega)];congr 1;omega);rw [HR.out];clear HR h0
   go_enter func161,ntmps161
   go_wp2_with fail;go_ret;exact ⟨rfl,rfl⟩
  ·rw [pD h0] at hz;have HR:Hid ((aB (sgn true u)).data=#[45]++(aE u).data):=by
    unfold Hid sgn;rw [if_pos rfl];apply Array.toList_inj.1;rw [L4_ _ (by omega)];simp
   clear h0
   go_enter func161,ntmps161
   go_wp2_with fail;go_ret;exact ⟨Z6y (by rw [HR.out];simp),rfl⟩
theorem mz (n:Int) (w:World) :
  pJ 110 #[.string (aB n)] w (.int .i64 n.sign):=by
 have hp0:0<(aB n).size:=S1_ n;have hz:=iL n;by_cases h0:n=0
 ·rw [pE h0] at hz;have HR:Hid (n.sign=0):=by unfold Hid;rw [h0];rfl
  rw [HR.out];clear h0 HR
  go_enter func110,ntmps110
  go_wp2_with fail;go_ret;exact ⟨rfl,rfl⟩
 ·rw [pD h0] at hz;by_cases h:n<0
  ·have q:=Z04 n h hp0;have HR:Hid (n.sign=-1):=Int.sign_eq_neg_one_of_neg h;rw [HR.out];clear h0 h HR
   go_enter func110,ntmps110
   go_wp2_with fail;go_ret;exact ⟨rfl,rfl⟩
  ·have q:=c8_ (aB n) n.toNat (fw n (by omega)) hp0;have HR:Hid (n.sign=1):=Int.sign_eq_one_of_pos (by omega);rw [HR.out];clear h0 h HR
   go_enter func110,ntmps110
   go_wp2_with fail;go_ret;exact ⟨rfl,rfl⟩
theorem lf (n:Int) (w:World) (hs:(aB n).size<=10000000000) :
  pI 111 #[.string (aB n)] w (.string (aB (-n))):=by
 have hu:(aE n.natAbs).size<=10000000000:=by
  by_cases h:n<0;·have:=lP n h;omega
  ·rw [fw n (by omega)] at hs;rw [show n.natAbs=n.toNat by omega];exact hs
 have H1:=oZ (km n w);have H2:Hid (∀ W,pJ 161 #[.bool (!decide (n<0)),.string (aE n.natAbs)] W (.string (aB (sgn (!decide (n<0)) n.natAbs)))):=fun W=>L5_ (!decide (n<0)) n.natAbs W hu;have HR:Hid (aB (sgn (!decide (n<0)) n.natAbs)=aB (-n)):=by
  unfold Hid;congr 1;unfold sgn;by_cases h:n<0;·rw [pE h];simp;omega
  ·rw [pD h];simp;omega
 rw [HR.out] at H2;obtain ⟨b,hb⟩:=pL (decide (n<0));rw [<- hb] at H1 H2;clear hb HR
 go_enter func111,ntmps111
 go_wp2_with fail;refine H1.mono ?_;rintro e w1 ⟨rfl,hE1⟩;have HE1:=oZ hE1;clear H1 hE1;go_wp2_with fail;refine r_ (H2 _) ?_;clear H2;go_wp2_with fail;go_ret;exact ⟨rfl,HE1⟩
theorem nQ (n:Int) (w:World) :
  Calls prog 63 #[.string (aB n)] w fun e w'=>e=.returned (.string (aB (n.natAbs:Int)))/\∃ k,w'=w.drewN k:=by
 have H1:=oZ (s2_ n w);have HR:Hid (aB (n.natAbs:Int)=aE n.natAbs):=by unfold Hid;rw [fw _ (by omega)];congr 1
 rw [HR.out];clear HR
 go_enter func63,ntmps63
 go_wp2_with fail;refine H1.mono ?_;rintro e w1 ⟨rfl,k,rfl⟩;clear H1;go_wp2_with fail;go_ret;exact ⟨rfl,_,rfl⟩
theorem nP (n:Int) (w:World) :
  pI 63 #[.string (aB n)] w (.string (aB (n.natAbs:Int))) :=
 (nQ n w).mono fun _ _ ⟨h,k,hw⟩=>⟨h,hw▸aA.drewN _ _⟩
theorem kU (n:Int):kP (aB n).data.toList=true/\iN (aB n).data.toList=n:=by
 rw [S0_];exact ⟨(n8 n).1,(n8 n).2.1⟩
theorem c1_ (n:Int) (w:World) (h1:-9223372036854775808<=n) (h2:n<=9223372036854775807) (hs:(aB n).size<=10000000000) :
  pI 175 #[.string (aB n)] w (.tuple #[.int .i64 n,.nilIface]) :=
 (strconv_Atoi_ok (aB n) (by omega) n (by
  have:=T1_ (kU n).1 (by rw [(kU n).2];exact ⟨h1,h2⟩);rw [(kU n).2] at this
  exact this) w).mono fun e w' ⟨h1,h2⟩=>⟨h1,by
  rcases h2 with rfl | ⟨t,rfl⟩
  ·exact aA.refl _
  ·exact ⟨rfl,rfl,rfl,by rw [Lib.bytesWorld_size];omega,fun j hj=>Lib.bytesWorld_at_old w _ t j hj⟩⟩
theorem v7_ (n:Int) (w:World) (h1:-9223372036854775808<=n) (h2:n<=9223372036854775807) (ht:ag w) :
  pI 146 #[.int .i64 n] w (.string (aB n)) :=
 (strconv_Itoa n h1 h2 w ht).mono fun e w' ⟨h,kk,os,hw⟩=>⟨h,by rw [hw];exact Lib.below_grow _ w (oz _) kk os⟩
theorem fW (n:Int) (k:Nat) (w:World) (h1:-9223372036854775808<=n) (h2:n<=9223372036854775807) (hs:(aB n).size<=k) (hk:k<=1000) :
  pI 160 #[.string (aB n),.int .i64 k] w (.tuple #[.int .i64 n,.bool true]):=by
 have sL:¬ (k:Int)<((aB n).size:Int):=by omega
 have HA:=oZ (c1_ n w h1 h2 (by omega))
 go_enter func160,ntmps160
 go_wp2_with fail;refine p_ HA ?_;intro w1 HE1;clear HA;go_wp2_with fail
 go_quiet (fail)
 go_wp2_with fail;go_ret2;exact ⟨rfl,aA.draws HE1 _⟩
theorem fV (n:Int) (k:Nat) (w:World) (hs:k<(aB n).size) :
  pJ 160 #[.string (aB n),.int .i64 k] w (.tuple #[.int .i64 0,.bool false]):=by
 have sL:(k:Int)<((aB n).size:Int):=by omega
 go_enter func160,ntmps160
 go_wp2_with fail;go_ret2;exact ⟨rfl,rfl⟩
theorem jx (n:Int) (w:World) (h1:-9223372036854775808<=n) (h2:n<=9223372036854775807) (ht:ag w) :
  pI 56 #[.int .i64 n] w (.string (aB n)):=by
 have HA:=oZ (v7_ n w h1 h2 ht);clear ht
 go_enter func56,ntmps56
 go_wp2_with fail;refine p_ HA ?_;intro w1 HE1;clear HA;go_wp2_with fail;go_ret;exact ⟨rfl,HE1⟩
theorem mi {a b A B:Int} (h1:-A<a) (h2:a<A) (h3:-B<b) (h4:b<B) (hA:0<=A) (hB:0<=B):-(A*B)<=a*b/\a*b<=A*B:=by
 have k1:a.natAbs<=A.natAbs:=by omega
 have k2:b.natAbs<=B.natAbs:=by omega
 have k3:(a*b).natAbs<=A.natAbs*B.natAbs:=by rw [Int.natAbs_mul];exact Nat.mul_le_mul k1 k2
 have k4:A.natAbs*B.natAbs=(A*B).natAbs:=(Int.natAbs_mul A B).symm;have k5:0<=A*B:=Int.mul_nonneg hA hB;omega
theorem eE (n:Int):(aE n.natAbs).size<=(aB n).size:=by
 by_cases h:n<0;·have:=lP n h;omega
 ·rw [fw n (by omega),show n.natAbs=n.toNat by omega];exact oz _
theorem fx (n:Int):(aB n).size<=(aE n.natAbs).size+1:=by
 by_cases h:n<0;·rw [lP n h];exact oz _
 ·rw [fw n (by omega),show n.natAbs=n.toNat by omega];omega
theorem lQ {n:Int} (h:(aB n).size<=18):-1000000000000000000<n/\n<1000000000000000000:=by
 have:=il (u:=n.natAbs) (by have:=eE n;omega);omega
theorem M8_ (x y:Int) (w:World) (hx:(aB x).size<=2900000000) (hy:(aB y).size<=2900000000) (ht:ag w) :
  pI 116 #[.string (aB x),.string (aB y)] w (.string (aB (x+y))):=by
 have HT:=oZ ht;clear ht;by_cases hs:(aB x).size<=18/\(aB y).size<=18
 ·obtain ⟨qX,tT⟩:=lQ hs.1;obtain ⟨wB,ry⟩:=lQ hs.2;have H1:=oZ (fW x 18 w (by omega) (by omega) hs.1 (by omega));have H2:Hid (∀ W,pI 160 #[.string (aB y),.int .i64 18] W (.tuple #[.int .i64 y,.bool true])):=fun W=>fW y 18 W (by omega) (by omega) hs.2 (by omega);have H3:Hid (∀ W,aA w W->pI 56 #[.int .i64 (x+y)] W (.string (aB (x+y)))):=fun W hE=>jx (x+y) W (by omega) (by omega) (HT.ext hE);clear hs
  go_enter func116,ntmps116
  go_wp2_with fail;refine p_ H1 ?_;intro w1 HE1;clear H1;go_wp2_with fail;refine q_ (H2 _) (aA.trans HE1) ?_;intro w2 HE2;clear H2;go_wp2_with fail;refine q_ (H3 _ HE2) (aA.trans HE2) ?_;intro w3 HE3;clear H3;go_wp2_with fail;go_ret;exact ⟨rfl,HE3⟩
 ·have hax:=eE x;have hay:=eE y;have HS1:Hid (∀ W,pI 153 #[.string (aB x)] W (.tuple #[.bool (decide (x<0)),.string (aE x.natAbs)])):=fun W=>km x W;have HS2:Hid (∀ W,pI 153 #[.string (aB y)] W (.tuple #[.bool (decide (y<0)),.string (aE y.natAbs)])):=fun W=>km y W;obtain ⟨u,hu⟩:=pL x.natAbs;obtain ⟨v,hv⟩:=pL y.natAbs;rw [<- hu] at HS1 hax;rw [<- hv] at HS2 hay;have HADD:Hid (∀ W,aA w W->pI 64 #[.string (aE u),.string (aE v)] W (.string (aE (u+v)))):=fun W hE=>Q1_ u v W (by omega) (by omega) (HT.ext hE);have yM:Hid (∀ W,pJ 65 #[.string (aE u),.string (aE v)] W (.int .i64 (cR u v))):=fun W=>nZ u v W (by omega) (by omega);have yB:Hid (v<=u->∀ W,aA w W->pI 211 #[.string (aE u),.string (aE v)] W (.tuple #[.string (aE (u-v)),.int .i64 0])):=fun hle W hE=>Q2_ u v W (by omega) (by omega) hle (HT.ext hE);have yA:Hid (u<=v->∀ W,aA w W->pI 211 #[.string (aE v),.string (aE u)] W (.tuple #[.string (aE (v-u)),.int .i64 0])):=fun hle W hE=>Q2_ v u W (by omega) (by omega) hle (HT.ext hE);have hsum:=W5_ u v;have HJ:Hid (∀ (b:Bool) (n:Nat),n<=u+v->∀ W,pJ 161 #[.bool b,.string (aE n)] W (.string (aB (sgn b n)))):=fun b n hn W=>L5_ b n W (by have:=jQ hn;omega);have N5:Hid (u=x.natAbs/\v=y.natAbs):=⟨hu,hv⟩;have qC:((aB x).size<=18/\18<(aB y).size)\/18<(aB x).size:=by omega
  have HX:Hid ((aB x).size<=18->-1000000000000000000<x/\x<1000000000000000000):=fun h=>lQ h;obtain ⟨p,hp⟩:=pL (decide (x<0));obtain ⟨q,hq⟩:=pL (decide (y<0));rw [<- hp] at HS1;rw [<- hq] at HS2;have Bj:Hid (x=sgn p u/\y=sgn q v):=by
   unfold Hid;rw [hp,hq,hu,hv,oP,oP];exact ⟨rfl,rfl⟩
  clear hu hv hs hax hay hsum hp hq;rcases qC with ⟨hs1,hs2⟩ | hs1
  case' inl =>
   have H1:=oZ (fW x 18 w (by have:=HX hs1;omega) (by have:=HX hs1;omega) hs1 (by omega));have H2:Hid (∀ W,pJ 160 #[.string (aB y),.int .i64 18] W (.tuple #[.int .i64 0,.bool false])):=fun W=>fV y 18 W hs2;clear hs1 hs2
   go_enter func116,ntmps116
   go_wp2_with fail;refine p_ H1 ?_;intro w1 HE1;clear H1;go_wp2_with fail;refine r_ (H2 _) ?_;clear H2
  case' inr =>
   have H1:Hid (∀ W,pJ 160 #[.string (aB x),.int .i64 18] W (.tuple #[.int .i64 0,.bool false])):=fun W=>fV x 18 W hs1;clear hs1
   go_enter func116,ntmps116
   go_wp2_with fail;refine r_ (H1 _) ?_;have HE1:=oZ (aA.refl w);clear H1
  all_goals
   go_wp2_with fail;refine q_ (HS1 _) (aA.trans HE1) ?_;intro w2 HE2;clear HS1;go_wp2_with fail;refine q_ (HS2 _) (aA.trans HE2) ?_;intro w3 HE3;clear HS2;by_cases yS:p=q
   ·have hb:(p == q)=true:=(by simp [yS]);have HR:Hid (sgn p (u+v)=x+y):=by
     unfold Hid;rw [Bj.out.1,Bj.out.2,yS];cases q <;> simp only [oO,oQ] <;> omega
    have HJ1:=oZ (HJ p (u+v) (oz _));rw [HR.out] at HJ1;clear yS;go_wp2_with fail;refine q_ (HADD _ HE3) (aA.trans HE3) ?_;intro w4 HE4;go_wp2_with fail;refine r_ (HJ1 _) ?_;clear HJ1;go_wp2_with fail;go_ret;exact ⟨rfl,HE4⟩
   ·have hb:(p == q)=false:=(by simpa using yS);obtain ⟨cm,hcm⟩:=pL (cR u v);rw [<- hcm] at yM;by_cases Dn:u<v
    ·have hcl:cm<0:=(by rw [hcm,w2_ Dn];omega);have HR:Hid (sgn q (v-u)=x+y):=by
      unfold Hid;rw [Bj.out.1,Bj.out.2];revert yS;cases p <;> cases q <;> simp only [oO,oQ] <;> intro h <;> first | omega | exact absurd trivial h
     have HJ1:=oZ (HJ q (v-u) (by omega));rw [HR.out] at HJ1;have HSB:=oZ (yA (by omega));clear yS hcm Dn yB yA;go_wp2_with fail;refine r_ (yM _) ?_;clear yM;go_wp2_with fail;refine q_ (HSB _ HE3) (aA.trans HE3) ?_;intro w4 HE4;clear HSB;go_wp2_with fail;refine r_ (HJ1 _) ?_;clear HJ1;go_wp2_with fail;go_ret;exact ⟨rfl,HE4⟩
    ·have hcl:¬ cm<0:=by rw [hcm];unfold cR;rw [if_neg Dn];split <;> omega
     have HR:Hid (sgn p (u-v)=x+y):=by
      unfold Hid;rw [Bj.out.1,Bj.out.2];revert yS;cases p <;> cases q <;> simp only [oO,oQ] <;> intro h <;> first | omega | exact absurd trivial h
     have HJ1:=oZ (HJ p (u-v) (by omega));rw [HR.out] at HJ1;have HSB:=oZ (yB (by omega));clear yS hcm Dn yB yA;go_wp2_with fail;refine r_ (yM _) ?_;clear yM;go_wp2_with fail;refine q_ (HSB _ HE3) (aA.trans HE3) ?_;intro w4 HE4;clear HSB;go_wp2_with fail;refine r_ (HJ1 _) ?_;clear HJ1;go_wp2_with fail;go_ret;exact ⟨rfl,HE4⟩
theorem jO (x y:Int) (w:World) (hx:(aB x).size<=2900000000) (hy:(aB y).size<=2900000000) (ht:ag w) :
  pI 66 #[.string (aB x),.string (aB y)] w (.string (aB (x*y))):=by
 have HT:=oZ ht;clear ht;by_cases hs:(aB x).size<=9/\(aB y).size<=9
 ·have hb:∀ {n:Int},(aB n).size<=9->-1000000000<n/\n<1000000000:=by
   intro n h;have h1:=eE n;have h2:n.natAbs<1000000000:=by
    have h3:=Lib.lt_pow_nDigits n.natAbs;rw [fC] at h1;have h4:10^Lib.nDigits n.natAbs<=10^9:=Nat.pow_le_pow_right (by omega) (by omega);rw [show (10:Nat)^9=1000000000 by decide] at h4;omega
   omega
  obtain ⟨qX,tT⟩:=hb hs.1;obtain ⟨wB,ry⟩:=hb hs.2;have hm:=mi qX tT wB ry (by omega) (by omega);obtain ⟨m,hmm⟩:=pL (x*y);rw [<- hmm] at hm |-;have yl:x*y=m:=hmm.symm;have H1:=oZ (fW x 9 w (by omega) (by omega) hs.1 (by omega));have H2:Hid (∀ W,pI 160 #[.string (aB y),.int .i64 9] W (.tuple #[.int .i64 y,.bool true])):=fun W=>fW y 9 W (by omega) (by omega) hs.2 (by omega);have qp:-1000000000000000000<=m:=by omega
  have rI:m<=1000000000000000000:=by omega
  have H3:Hid (∀ W,aA w W->pI 56 #[.int .i64 m] W (.string (aB m))):=fun W hE=>jx m W (by omega) (by omega) (HT.ext hE);clear hs hb hm hmm
  go_enter func66,ntmps66
  go_wp2_with fail;refine p_ H1 ?_;intro w1 HE1;clear H1;go_wp2_with fail;refine q_ (H2 _) (aA.trans HE1) ?_;intro w2 HE2;clear H2;go_wp2_with fail;refine q_ (H3 _ HE2) (aA.trans HE2) ?_;intro w3 HE3;clear H3;go_wp2_with fail;go_ret;exact ⟨rfl,HE3⟩
 ·have hax:=eE x;have hay:=eE y;have HS1:Hid (∀ W,pI 153 #[.string (aB x)] W (.tuple #[.bool (decide (x<0)),.string (aE x.natAbs)])):=fun W=>km x W;have HS2:Hid (∀ W,pI 153 #[.string (aB y)] W (.tuple #[.bool (decide (y<0)),.string (aE y.natAbs)])):=fun W=>km y W;obtain ⟨u,hu⟩:=pL x.natAbs;obtain ⟨v,hv⟩:=pL y.natAbs;rw [<- hu] at HS1 hax;rw [<- hv] at HS2 hay;have sY:Hid (∀ W,aA w W->pI 162 #[.string (aE u),.string (aE v)] W (.string (aE (u*v)))):=fun W hE=>C4_ u v W (by omega) (by omega) (HT.ext hE);have hprod:=oG u v;obtain ⟨p,hp⟩:=pL (decide (x<0));obtain ⟨q,hq⟩:=pL (decide (y<0));rw [<- hp] at HS1;rw [<- hq] at HS2;have hR:sgn (p != q) (u*v)=x*y:=by
   have e1:x=sgn p u:=(by rw [hp,hu,oP]);have e2:y=sgn q v:=(by rw [hq,hv,oP]);rw [e1,e2];cases p <;> cases q <;> simp [oO,oQ,Int.neg_mul,Int.mul_neg]
  have HJ:Hid (∀ W,pJ 161 #[.bool (p != q),.string (aE (u*v))] W (.string (aB (x*y)))):=fun W=>by
   rw [<- hR];exact L5_ (p != q) (u*v) W (by omega)
  have qC:((aB x).size<=9/\9<(aB y).size)\/9<(aB x).size:=by omega
  have HX:Hid ((aB x).size<=9->-1000000000000000000<x/\x<1000000000000000000):=fun h=>lQ (by omega);clear hu hv hs hax hay hprod hp hq hR;rcases qC with ⟨hs1,hs2⟩ | hs1
  case' inl =>
   have H1:=oZ (fW x 9 w (by have:=HX hs1;omega) (by have:=HX hs1;omega) hs1 (by omega));have H2:Hid (∀ W,pJ 160 #[.string (aB y),.int .i64 9] W (.tuple #[.int .i64 0,.bool false])):=fun W=>fV y 9 W hs2;clear hs1 hs2
   go_enter func66,ntmps66
   go_wp2_with fail;refine p_ H1 ?_;intro w1 HE1;clear H1;go_wp2_with fail;refine r_ (H2 _) ?_;clear H2
  case' inr =>
   have H1:Hid (∀ W,pJ 160 #[.string (aB x),.int .i64 9] W (.tuple #[.int .i64 0,.bool false])):=fun W=>fV x 9 W hs1;clear hs1
   go_enter func66,ntmps66
   go_wp2_with fail;refine r_ (H1 _) ?_;have HE1:=oZ (aA.refl w);clear H1
  all_goals
   go_wp2_with fail;refine q_ (HS1 _) (aA.trans HE1) ?_;intro w2 HE2;clear HS1;go_wp2_with fail;refine q_ (HS2 _) (aA.trans HE2) ?_;intro w3 HE3;clear HS2;go_wp2_with fail;refine q_ (sY _ HE3) (aA.trans HE3) ?_;intro w4 HE4;go_wp2_with fail;refine r_ (HJ _) ?_;clear HJ;go_wp2_with fail;go_ret;exact ⟨rfl,HE4⟩
theorem Z4o (x y:Int) (w:World) (hx:(aB x).size<=18) (hy:(aB y).size<=18) (h0:y≠0) (ht:ag w) :
  pI 112 #[.string (aB x),.string (aB y)] w (.tuple #[.string (aB (aL x y)),.string (aB (bF x y)),.int .i64 0]):=by
 have HT:=oZ ht;have hz:=iL y;rw [pD h0] at hz;obtain ⟨qX,tT⟩:=lQ hx;obtain ⟨wB,ry⟩:=lQ hy;have H1:=oZ (fW x 18 w (by omega) (by omega) hx (by omega));have H2:Hid (∀ W,pI 160 #[.string (aB y),.int .i64 18] W (.tuple #[.int .i64 y,.bool true])):=fun W=>fW y 18 W (by omega) (by omega) hy (by omega);have hrl:=s4_ x y h0;have hql:=Z3Y x y;have vL:(aL x y).natAbs<=1000000000000000001:=by have:=b4_ x y;omega
 have qm:(bF x y).natAbs<=1000000000000000001:=by
  rcases Int.lt_trichotomy y 0 with h | h | h;·have:=nt x y h;omega
  ·exact absurd h h0
  ·have:=lG x y h;omega
 have H3:Hid (∀ W,aA w W->pI 56 #[.int .i64 (aL x y)] W (.string (aB (aL x y)))):=fun W hE=>jx _ W (by omega) (by omega) (HT.ext hE);have H4:Hid (∀ W,aA w W->pI 56 #[.int .i64 (bF x y)] W (.string (aB (bF x y)))):=fun W hE=>jx _ W (by omega) (by omega) (HT.ext hE);have hyb:(y == 0)=false:=beq_eq_false_iff_ne.2 h0;have tR:Hid (aL x y=if x.tmod y≠0/\decide (x.tmod y<0)≠decide (y<0) then x.tdiv y-1 else x.tdiv y):=rfl;have HFR:Hid (bF x y=if x.tmod y≠0/\decide (x.tmod y<0)≠decide (y<0) then x.tmod y+y else x.tmod y):=rfl;obtain ⟨fq,I6⟩:=pL (aL x y);obtain ⟨fr,D2⟩:=pL (bF x y);rw [<- I6] at H3 tR vL |-;rw [<- D2] at H4 HFR qm |-;obtain ⟨q,hq⟩:=pK (x.tdiv y);obtain ⟨r,hr⟩:=pK (x.tmod y);rw [hq] at tR hql;rw [hr] at HFR tR hrl;have e1:IntKind.i64.wrap q=q:=IntWalk.i64_in _ (by omega);have qW:¬ y=0:=h0;clear ht I6 D2 h0;by_cases c0:r=0
 ·have k0:(r != 0)=false:=by simp [c0]
  rw [if_neg (by simp [c0])] at tR HFR;rw [tR.out] at H3 |-;rw [HFR.out] at H4 |-;clear tR HFR c0
  go_enter func112,ntmps112
  go_wp2_with fail;refine p_ H1 ?_;intro w1 HE1;clear H1;go_wp2_with fail;refine q_ (H2 _) (aA.trans HE1) ?_;intro w2 HE2;clear H2;go_wp2_with fail
  go_quiet (fail)
  go_wp2_with fail;refine q_ (H3 _ (aA.draws HE2 _)) (aA.trans (aA.draws HE2 _)) ?_;intro w3 HE3;clear H3;go_wp2_with fail;refine q_ (H4 _ HE3) (aA.trans HE3) ?_;intro w4 HE4;clear H4;go_wp2_with fail;go_ret3;exact ⟨rfl,HE4⟩
 ·have k0:(r != 0)=true:=by simpa using c0
  by_cases c1:r<0
  ·by_cases c2:y<0
   ·have k5:decide (r<0)=true:=pE c1;have k6:decide (y<0)=true:=pE c2;have k7:(!decide (r<0))=false:=(by rw [k5];rfl);have k8:(!decide (y<0))=false:=(by rw [k6];rfl);rw [if_neg (by rw [pE c1,pE c2];simp)] at tR HFR;rw [tR.out] at H3 |-;rw [HFR.out] at H4 |-;clear tR HFR c0
    go_enter func112,ntmps112
    go_wp2_with fail;refine p_ H1 ?_;intro w1 HE1;clear H1;go_wp2_with fail;refine q_ (H2 _) (aA.trans HE1) ?_;intro w2 HE2;clear H2;go_wp2_with fail
    go_quiet (fail)
    go_wp2_with fail;refine q_ (H3 _ (aA.draws HE2 _)) (aA.trans (aA.draws HE2 _)) ?_;intro w3 HE3;clear H3;go_wp2_with fail;refine q_ (H4 _ HE3) (aA.trans HE3) ?_;intro w4 HE4;clear H4;go_wp2_with fail;go_ret3;exact ⟨rfl,HE4⟩
   ·have k5:decide (r<0)=true:=pE c1;have k6:decide (y<0)=false:=pD c2;have k7:(!decide (r<0))=false:=(by rw [k5];rfl);have k8:(!decide (y<0))=true:=(by rw [k6];rfl);rw [if_pos ⟨c0,by rw [pE c1,pD c2];simp⟩] at tR HFR;rw [tR.out] at H3 |- vL;rw [HFR.out] at H4 |- qm;clear tR HFR c0
    go_enter func112,ntmps112
    go_wp2_with fail;refine p_ H1 ?_;intro w1 HE1;clear H1;go_wp2_with fail;refine q_ (H2 _) (aA.trans HE1) ?_;intro w2 HE2;clear H2;go_wp2_with fail
    go_quiet (fail)
    go_wp2_with fail;refine q_ (H3 _ (aA.draws HE2 _)) (aA.trans (aA.draws HE2 _)) ?_;intro w3 HE3;clear H3;go_wp2_with fail;refine q_ (H4 _ HE3) (aA.trans HE3) ?_;intro w4 HE4;clear H4;go_wp2_with fail;go_ret3;exact ⟨rfl,HE4⟩
  ·by_cases c2:y<0
   ·have k5:decide (r<0)=false:=pD c1;have k6:decide (y<0)=true:=pE c2;have k7:(!decide (r<0))=true:=(by rw [k5];rfl);have k8:(!decide (y<0))=false:=(by rw [k6];rfl);rw [if_pos ⟨c0,by rw [pD c1,pE c2];simp⟩] at tR HFR;rw [tR.out] at H3 |- vL;rw [HFR.out] at H4 |- qm;clear tR HFR c0
    go_enter func112,ntmps112
    go_wp2_with fail;refine p_ H1 ?_;intro w1 HE1;clear H1;go_wp2_with fail;refine q_ (H2 _) (aA.trans HE1) ?_;intro w2 HE2;clear H2;go_wp2_with fail
    go_quiet (fail)
    go_wp2_with fail;refine q_ (H3 _ (aA.draws HE2 _)) (aA.trans (aA.draws HE2 _)) ?_;intro w3 HE3;clear H3;go_wp2_with fail;refine q_ (H4 _ HE3) (aA.trans HE3) ?_;intro w4 HE4;clear H4;go_wp2_with fail;go_ret3;exact ⟨rfl,HE4⟩
   ·have k5:decide (r<0)=false:=pD c1;have k6:decide (y<0)=false:=pD c2;have k7:(!decide (r<0))=true:=(by rw [k5];rfl);have k8:(!decide (y<0))=true:=(by rw [k6];rfl);rw [if_neg (by rw [pD c1,pD c2];simp)] at tR HFR;rw [tR.out] at H3 |-;rw [HFR.out] at H4 |-;clear tR HFR c0
    go_enter func112,ntmps112
    go_wp2_with fail;refine p_ H1 ?_;intro w1 HE1;clear H1;go_wp2_with fail;refine q_ (H2 _) (aA.trans HE1) ?_;intro w2 HE2;clear H2;go_wp2_with fail
    go_quiet (fail)
    go_wp2_with fail;refine q_ (H3 _ (aA.draws HE2 _)) (aA.trans (aA.draws HE2 _)) ?_;intro w3 HE3;clear H3;go_wp2_with fail;refine q_ (H4 _ HE3) (aA.trans HE3) ?_;intro w4 HE4;clear H4;go_wp2_with fail;go_ret3;exact ⟨rfl,HE4⟩
theorem U5_ (x y:Int) (w:World) (hx:(aB x).size<=2800000000) (hy:(aB y).size<=2800000000) (h0:y≠0) (ht:ag w) :
  pI 112 #[.string (aB x),.string (aB y)] w (.tuple #[.string (aB (aL x y)),.string (aB (bF x y)),.int .i64 0]):=by
 by_cases hs:(aB x).size<=18/\(aB y).size<=18;·exact Z4o x y w hs.1 hs.2 h0 ht
 have HT:=oZ ht;clear ht;have hz:=iL y;rw [pD h0] at hz;have hax:=eE x;have hay:=eE y;have HS1:Hid (∀ W,pI 153 #[.string (aB x)] W (.tuple #[.bool (decide (x<0)),.string (aE x.natAbs)])):=fun W=>km x W;have HS2:Hid (∀ W,pI 153 #[.string (aB y)] W (.tuple #[.bool (decide (y<0)),.string (aE y.natAbs)])):=fun W=>km y W;obtain ⟨p,hp⟩:=pL (decide (x<0));obtain ⟨q,hq⟩:=pL (decide (y<0));have hfd:=Z6X x y h0 hp hq;rw [<- hp] at HS1;rw [<- hq] at HS2;have vJ:y.natAbs≠0:=by omega
 obtain ⟨u,hu⟩:=pL x.natAbs;obtain ⟨v,hv⟩:=pL y.natAbs;rw [<- hu] at HS1 hax hfd;rw [<- hv] at HS2 hay hfd vJ;have rB:Hid (∀ W,aA w W->pI 210 #[.string (aE u),.string (aE v)] W (.tuple #[.string (aE (u / v)),.string (aE (u%v)),.int .i64 0])):=fun W hE=>Y9_ u v W (by omega) (by omega) vJ (HT.ext hE);have wW:(aE (u / v)).size<=2800000000:=ow (jQ (Nat.div_le_self _ _)) (by omega);have Et:u%v<v:=Nat.mod_lt _ (by omega);have vR:(aE (u%v)).size<=2800000000:=ow (jQ (Nat.le_of_lt Et)) (by omega);have pv:(aE 1).size<=2800000000:=by
  have:=Lib.nDigits_small (show 1<10 by omega);rw [fC,this];omega
 have Jb:aE 1=⟨#[49]⟩:=by unfold aE;rw [Lib.decDigits_one (by omega)];rfl
 have hq1s:=W5_ (u / v) 1;have Au:∀ W,aA w W->Calls prog 64 #[.string (aE (u / v)),.string (aE 1)] W fun e w'=>e=.returned (.string (aE (u / v+1)))/\aA W w':=fun W hE=>Q1_ (u / v) 1 W (by omega) (by omega) (HT.ext hE);rw [Jb] at Au;have HADD:=oZ Au;have qE:Hid (∀ W,aA w W->pI 211 #[.string (aE v),.string (aE (u%v))] W (.tuple #[.string (aE (v-u%v)),.int .i64 0])):=fun W hE=>Q2_ v (u%v) W (by omega) (by omega) (Nat.le_of_lt Et) (HT.ext hE);have tH:(aE (v-u%v)).size<=2800000000:=ow (jQ (Nat.sub_le _ _)) (by omega);have HJ:Hid (∀ (b:Bool) (n:Nat),(aE n).size<=10000000000->∀ W,pJ 161 #[.bool b,.string (aE n)] W (.string (aB (sgn b n)))):=fun b n hn W=>L5_ b n W hn;have hrz:=kd (u%v);obtain ⟨Q,hQ⟩:=pL (u / v);obtain ⟨R,hR⟩:=pL (u%v);rw [<- hQ] at hfd rB wW hq1s HADD;rw [<- hR] at hfd rB vR qE tH hrz;have qC:((aB x).size<=18/\18<(aB y).size)\/18<(aB x).size:=by omega
 have HX:Hid ((aB x).size<=18->-1000000000000000000<x/\x<1000000000000000000):=fun h=>lQ h;obtain ⟨F1,Jj⟩:=pL (aL x y);obtain ⟨F2,ve⟩:=pL (bF x y);rw [<- Jj,<- ve] at hfd |-;have HFD:=oZ hfd;have HSZ:Hid ((aE Q).size<=10000000000/\(aE (Q+1)).size<=10000000000/\(aE R).size<=10000000000/\(aE (v-R)).size<=10000000000):=⟨by omega,by omega,by omega,by omega⟩;clear hu hv hs hax hay hp hq hfd vJ wW Et vR pv Jb hq1s Au tH hQ hR Jj ve;rcases p with _ | _ <;> rcases q with _ | _
 ·have hf:=HFD.out;rw [if_neg (by simp),if_neg (by simp)] at hf;have HJ1:=oZ (HJ false Q HSZ.1);have HJ2:=oZ (HJ false R HSZ.2.2.1);rw [show sgn false Q=F1 from hf.1.symm] at HJ1;rw [show sgn false R=F2 from hf.2.symm] at HJ2;clear hf HFD hrz;rcases qC with ⟨hs1,hs2⟩ | hs1
  ·have H1:=oZ (fW x 18 w (by have:=HX hs1;omega) (by have:=HX hs1;omega) hs1 (by omega));have H2:Hid (∀ W,pJ 160 #[.string (aB y),.int .i64 18] W (.tuple #[.int .i64 0,.bool false])):=fun W=>fV y 18 W hs2;clear hs1 hs2
   go_enter func112,ntmps112
   go_wp2_with fail;refine p_ H1 ?_;intro w1 HE1;clear H1;go_wp2_with fail;refine r_ (H2 _) ?_;clear H2;go_wp2_with fail;refine q_ (HS1 _) (aA.trans HE1) ?_;intro w2 HE2;clear HS1;go_wp2_with fail;refine q_ (HS2 _) (aA.trans HE2) ?_;intro w3 HE3;clear HS2;go_wp2_with fail;refine q_ (rB _ HE3) (aA.trans HE3) ?_;intro w4 HE4;clear rB;go_wp2_with fail;refine r_ (HJ1 _) ?_;clear HJ1;go_wp2_with fail;refine r_ (HJ2 _) ?_;clear HJ2;go_wp2_with fail;go_ret3;exact ⟨rfl,HE4⟩
  ·have H1:Hid (∀ W,pJ 160 #[.string (aB x),.int .i64 18] W (.tuple #[.int .i64 0,.bool false])):=fun W=>fV x 18 W hs1;clear hs1
   go_enter func112,ntmps112
   go_wp2_with fail;refine r_ (H1 _) ?_;have HE1:=oZ (aA.refl w);clear H1;go_wp2_with fail;refine q_ (HS1 _) (aA.trans HE1) ?_;intro w2 HE2;clear HS1;go_wp2_with fail;refine q_ (HS2 _) (aA.trans HE2) ?_;intro w3 HE3;clear HS2;go_wp2_with fail;refine q_ (rB _ HE3) (aA.trans HE3) ?_;intro w4 HE4;clear rB;go_wp2_with fail;refine r_ (HJ1 _) ?_;clear HJ1;go_wp2_with fail;refine r_ (HJ2 _) ?_;clear HJ2;go_wp2_with fail;go_ret3;exact ⟨rfl,HE4⟩
 ·by_cases vH:R=0
  ·have hf:=HFD.out;rw [if_neg (by simp [vH]),if_neg (by simp [vH])] at hf;have HJ1:=oZ (HJ true Q HSZ.1);have HJ2:=oZ (HJ true R HSZ.2.2.1);rw [show sgn true Q=F1 from hf.1.symm] at HJ1;rw [show sgn true R=F2 from hf.2.symm] at HJ2;rw [pE vH] at hrz;clear hf HFD vH;rcases qC with ⟨hs1,hs2⟩ | hs1
   ·have H1:=oZ (fW x 18 w (by have:=HX hs1;omega) (by have:=HX hs1;omega) hs1 (by omega));have H2:Hid (∀ W,pJ 160 #[.string (aB y),.int .i64 18] W (.tuple #[.int .i64 0,.bool false])):=fun W=>fV y 18 W hs2;clear hs1 hs2
    go_enter func112,ntmps112
    go_wp2_with fail;refine p_ H1 ?_;intro w1 HE1;clear H1;go_wp2_with fail;refine r_ (H2 _) ?_;clear H2;go_wp2_with fail;refine q_ (HS1 _) (aA.trans HE1) ?_;intro w2 HE2;clear HS1;go_wp2_with fail;refine q_ (HS2 _) (aA.trans HE2) ?_;intro w3 HE3;clear HS2;go_wp2_with fail;refine q_ (rB _ HE3) (aA.trans HE3) ?_;intro w4 HE4;clear rB;go_wp2_with fail;refine r_ (HJ1 _) ?_;clear HJ1;go_wp2_with fail;refine r_ (HJ2 _) ?_;clear HJ2;go_wp2_with fail;go_ret3;exact ⟨rfl,HE4⟩
   ·have H1:Hid (∀ W,pJ 160 #[.string (aB x),.int .i64 18] W (.tuple #[.int .i64 0,.bool false])):=fun W=>fV x 18 W hs1;clear hs1
    go_enter func112,ntmps112
    go_wp2_with fail;refine r_ (H1 _) ?_;have HE1:=oZ (aA.refl w);clear H1;go_wp2_with fail;refine q_ (HS1 _) (aA.trans HE1) ?_;intro w2 HE2;clear HS1;go_wp2_with fail;refine q_ (HS2 _) (aA.trans HE2) ?_;intro w3 HE3;clear HS2;go_wp2_with fail;refine q_ (rB _ HE3) (aA.trans HE3) ?_;intro w4 HE4;clear rB;go_wp2_with fail;refine r_ (HJ1 _) ?_;clear HJ1;go_wp2_with fail;refine r_ (HJ2 _) ?_;clear HJ2;go_wp2_with fail;go_ret3;exact ⟨rfl,HE4⟩
  ·have hf:=HFD.out;rw [if_pos ⟨rfl,vH⟩,if_pos ⟨rfl,vH⟩] at hf;have HJ1:=oZ (HJ true (Q+1) HSZ.2.1);have HJ2:=oZ (HJ true (v-R) HSZ.2.2.2);rw [show sgn true (Q+1)=F1 from hf.1.symm] at HJ1;rw [show sgn true (v-R)=F2 from hf.2.symm] at HJ2;rw [pD vH] at hrz;clear hf HFD vH;rcases qC with ⟨hs1,hs2⟩ | hs1
   ·have H1:=oZ (fW x 18 w (by have:=HX hs1;omega) (by have:=HX hs1;omega) hs1 (by omega));have H2:Hid (∀ W,pJ 160 #[.string (aB y),.int .i64 18] W (.tuple #[.int .i64 0,.bool false])):=fun W=>fV y 18 W hs2;clear hs1 hs2
    go_enter func112,ntmps112
    go_wp2_with fail;refine p_ H1 ?_;intro w1 HE1;clear H1;go_wp2_with fail;refine r_ (H2 _) ?_;clear H2;go_wp2_with fail;refine q_ (HS1 _) (aA.trans HE1) ?_;intro w2 HE2;clear HS1;go_wp2_with fail;refine q_ (HS2 _) (aA.trans HE2) ?_;intro w3 HE3;clear HS2;go_wp2_with fail;refine q_ (rB _ HE3) (aA.trans HE3) ?_;intro w4 HE4;clear rB;go_wp2_with fail;refine q_ (HADD _ HE4) (aA.trans HE4) ?_;intro w5 HE5;clear HADD;go_wp2_with fail;refine q_ (qE _ HE5) (aA.trans HE5) ?_;intro w6 HE6;clear qE;go_wp2_with fail;refine r_ (HJ1 _) ?_;clear HJ1;go_wp2_with fail;refine r_ (HJ2 _) ?_;clear HJ2;go_wp2_with fail;go_ret3;exact ⟨rfl,HE6⟩
   ·have H1:Hid (∀ W,pJ 160 #[.string (aB x),.int .i64 18] W (.tuple #[.int .i64 0,.bool false])):=fun W=>fV x 18 W hs1;clear hs1
    go_enter func112,ntmps112
    go_wp2_with fail;refine r_ (H1 _) ?_;have HE1:=oZ (aA.refl w);clear H1;go_wp2_with fail;refine q_ (HS1 _) (aA.trans HE1) ?_;intro w2 HE2;clear HS1;go_wp2_with fail;refine q_ (HS2 _) (aA.trans HE2) ?_;intro w3 HE3;clear HS2;go_wp2_with fail;refine q_ (rB _ HE3) (aA.trans HE3) ?_;intro w4 HE4;clear rB;go_wp2_with fail;refine q_ (HADD _ HE4) (aA.trans HE4) ?_;intro w5 HE5;clear HADD;go_wp2_with fail;refine q_ (qE _ HE5) (aA.trans HE5) ?_;intro w6 HE6;clear qE;go_wp2_with fail;refine r_ (HJ1 _) ?_;clear HJ1;go_wp2_with fail;refine r_ (HJ2 _) ?_;clear HJ2;go_wp2_with fail;go_ret3;exact ⟨rfl,HE6⟩
 ·by_cases vH:R=0
  ·have hf:=HFD.out;rw [if_neg (by simp [vH]),if_neg (by simp [vH])] at hf;have HJ1:=oZ (HJ true Q HSZ.1);have HJ2:=oZ (HJ false R HSZ.2.2.1);rw [show sgn true Q=F1 from hf.1.symm] at HJ1;rw [show sgn false R=F2 from hf.2.symm] at HJ2;rw [pE vH] at hrz;clear hf HFD vH;rcases qC with ⟨hs1,hs2⟩ | hs1
   ·have H1:=oZ (fW x 18 w (by have:=HX hs1;omega) (by have:=HX hs1;omega) hs1 (by omega));have H2:Hid (∀ W,pJ 160 #[.string (aB y),.int .i64 18] W (.tuple #[.int .i64 0,.bool false])):=fun W=>fV y 18 W hs2;clear hs1 hs2
    go_enter func112,ntmps112
    go_wp2_with fail;refine p_ H1 ?_;intro w1 HE1;clear H1;go_wp2_with fail;refine r_ (H2 _) ?_;clear H2;go_wp2_with fail;refine q_ (HS1 _) (aA.trans HE1) ?_;intro w2 HE2;clear HS1;go_wp2_with fail;refine q_ (HS2 _) (aA.trans HE2) ?_;intro w3 HE3;clear HS2;go_wp2_with fail;refine q_ (rB _ HE3) (aA.trans HE3) ?_;intro w4 HE4;clear rB;go_wp2_with fail;refine r_ (HJ1 _) ?_;clear HJ1;go_wp2_with fail;refine r_ (HJ2 _) ?_;clear HJ2;go_wp2_with fail;go_ret3;exact ⟨rfl,HE4⟩
   ·have H1:Hid (∀ W,pJ 160 #[.string (aB x),.int .i64 18] W (.tuple #[.int .i64 0,.bool false])):=fun W=>fV x 18 W hs1;clear hs1
    go_enter func112,ntmps112
    go_wp2_with fail;refine r_ (H1 _) ?_;have HE1:=oZ (aA.refl w);clear H1;go_wp2_with fail;refine q_ (HS1 _) (aA.trans HE1) ?_;intro w2 HE2;clear HS1;go_wp2_with fail;refine q_ (HS2 _) (aA.trans HE2) ?_;intro w3 HE3;clear HS2;go_wp2_with fail;refine q_ (rB _ HE3) (aA.trans HE3) ?_;intro w4 HE4;clear rB;go_wp2_with fail;refine r_ (HJ1 _) ?_;clear HJ1;go_wp2_with fail;refine r_ (HJ2 _) ?_;clear HJ2;go_wp2_with fail;go_ret3;exact ⟨rfl,HE4⟩
  ·have hf:=HFD.out;rw [if_pos ⟨rfl,vH⟩,if_pos ⟨rfl,vH⟩] at hf;have HJ1:=oZ (HJ true (Q+1) HSZ.2.1);have HJ2:=oZ (HJ false (v-R) HSZ.2.2.2);rw [show sgn true (Q+1)=F1 from hf.1.symm] at HJ1;rw [show sgn false (v-R)=F2 from hf.2.symm] at HJ2;rw [pD vH] at hrz;clear hf HFD vH;rcases qC with ⟨hs1,hs2⟩ | hs1
   ·have H1:=oZ (fW x 18 w (by have:=HX hs1;omega) (by have:=HX hs1;omega) hs1 (by omega));have H2:Hid (∀ W,pJ 160 #[.string (aB y),.int .i64 18] W (.tuple #[.int .i64 0,.bool false])):=fun W=>fV y 18 W hs2;clear hs1 hs2
    go_enter func112,ntmps112
    go_wp2_with fail;refine p_ H1 ?_;intro w1 HE1;clear H1;go_wp2_with fail;refine r_ (H2 _) ?_;clear H2;go_wp2_with fail;refine q_ (HS1 _) (aA.trans HE1) ?_;intro w2 HE2;clear HS1;go_wp2_with fail;refine q_ (HS2 _) (aA.trans HE2) ?_;intro w3 HE3;clear HS2;go_wp2_with fail;refine q_ (rB _ HE3) (aA.trans HE3) ?_;intro w4 HE4;clear rB;go_wp2_with fail;refine q_ (HADD _ HE4) (aA.trans HE4) ?_;intro w5 HE5;clear HADD;go_wp2_with fail;refine q_ (qE _ HE5) (aA.trans HE5) ?_;intro w6 HE6;clear qE;go_wp2_with fail;refine r_ (HJ1 _) ?_;clear HJ1;go_wp2_with fail;refine r_ (HJ2 _) ?_;clear HJ2;go_wp2_with fail;go_ret3;exact ⟨rfl,HE6⟩
   ·have H1:Hid (∀ W,pJ 160 #[.string (aB x),.int .i64 18] W (.tuple #[.int .i64 0,.bool false])):=fun W=>fV x 18 W hs1;clear hs1
    go_enter func112,ntmps112
    go_wp2_with fail;refine r_ (H1 _) ?_;have HE1:=oZ (aA.refl w);clear H1;go_wp2_with fail;refine q_ (HS1 _) (aA.trans HE1) ?_;intro w2 HE2;clear HS1;go_wp2_with fail;refine q_ (HS2 _) (aA.trans HE2) ?_;intro w3 HE3;clear HS2;go_wp2_with fail;refine q_ (rB _ HE3) (aA.trans HE3) ?_;intro w4 HE4;clear rB;go_wp2_with fail;refine q_ (HADD _ HE4) (aA.trans HE4) ?_;intro w5 HE5;clear HADD;go_wp2_with fail;refine q_ (qE _ HE5) (aA.trans HE5) ?_;intro w6 HE6;clear qE;go_wp2_with fail;refine r_ (HJ1 _) ?_;clear HJ1;go_wp2_with fail;refine r_ (HJ2 _) ?_;clear HJ2;go_wp2_with fail;go_ret3;exact ⟨rfl,HE6⟩
 ·have hf:=HFD.out;rw [if_neg (by simp),if_neg (by simp)] at hf;have HJ1:=oZ (HJ false Q HSZ.1);have HJ2:=oZ (HJ true R HSZ.2.2.1);rw [show sgn false Q=F1 from hf.1.symm] at HJ1;rw [show sgn true R=F2 from hf.2.symm] at HJ2;clear hf HFD hrz;rcases qC with ⟨hs1,hs2⟩ | hs1
  ·have H1:=oZ (fW x 18 w (by have:=HX hs1;omega) (by have:=HX hs1;omega) hs1 (by omega));have H2:Hid (∀ W,pJ 160 #[.string (aB y),.int .i64 18] W (.tuple #[.int .i64 0,.bool false])):=fun W=>fV y 18 W hs2;clear hs1 hs2
   go_enter func112,ntmps112
   go_wp2_with fail;refine p_ H1 ?_;intro w1 HE1;clear H1;go_wp2_with fail;refine r_ (H2 _) ?_;clear H2;go_wp2_with fail;refine q_ (HS1 _) (aA.trans HE1) ?_;intro w2 HE2;clear HS1;go_wp2_with fail;refine q_ (HS2 _) (aA.trans HE2) ?_;intro w3 HE3;clear HS2;go_wp2_with fail;refine q_ (rB _ HE3) (aA.trans HE3) ?_;intro w4 HE4;clear rB;go_wp2_with fail;refine r_ (HJ1 _) ?_;clear HJ1;go_wp2_with fail;refine r_ (HJ2 _) ?_;clear HJ2;go_wp2_with fail;go_ret3;exact ⟨rfl,HE4⟩
  ·have H1:Hid (∀ W,pJ 160 #[.string (aB x),.int .i64 18] W (.tuple #[.int .i64 0,.bool false])):=fun W=>fV x 18 W hs1;clear hs1
   go_enter func112,ntmps112
   go_wp2_with fail;refine r_ (H1 _) ?_;have HE1:=oZ (aA.refl w);clear H1;go_wp2_with fail;refine q_ (HS1 _) (aA.trans HE1) ?_;intro w2 HE2;clear HS1;go_wp2_with fail;refine q_ (HS2 _) (aA.trans HE2) ?_;intro w3 HE3;clear HS2;go_wp2_with fail;refine q_ (rB _ HE3) (aA.trans HE3) ?_;intro w4 HE4;clear rB;go_wp2_with fail;refine r_ (HJ1 _) ?_;clear HJ1;go_wp2_with fail;refine r_ (HJ2 _) ?_;clear HJ2;go_wp2_with fail;go_ret3;exact ⟨rfl,HE4⟩
end Go.Proofs.YtoonaddcfakamaaGreatDoor
