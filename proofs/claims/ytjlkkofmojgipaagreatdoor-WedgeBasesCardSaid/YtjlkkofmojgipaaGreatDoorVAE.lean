import Derived.Test.YtjlkkofmojgipaaGreatDoorVAB
import Derived.Test.YtjlkkofmojgipaaGreatDoorVAD
import Derived.WalkLawsBesides
import Derived.WalkSmall
import Derived.Test.YtjlkkofmojgipaaGreatDoorVAC
import Derived.Lib.AppendIntMem
set_option linter.unusedVariables false
set_option linter.unusedSimpArgs false
set_option maxRecDepth 1000000
set_option maxHeartbeats 4000000
namespace Go.Proofs.YtjlkkofmojgipaaGreatDoor
open Go.RowKit Go.Proofs.Tryz
def aN (x y:Int):Int:=if x.tmod y≠0/\decide (x.tmod y<0)≠decide (y<0) then x.tdiv y-1 else x.tdiv y
def aq (x y:Int):Int:=if x.tmod y≠0/\decide (x.tmod y<0)≠decide (y<0) then x.tmod y+y else x.tmod y
theorem lx (x y:Int):x=y*aN x y+aq x y:=by
 have h:y*x.tdiv y+x.tmod y=x:=by first | exact Int.mul_tdiv_add_tmod x y | (rw [Int.add_comm];exact Int.tmod_add_mul_tdiv x y)
 unfold aN aq
 split
 ·rw [Int.mul_sub,Int.mul_one];omega
 ·omega
theorem mX (x y:Int) (hy:y≠0):(x.tmod y).natAbs<y.natAbs:=by
 rw [Int.natAbs_tmod];exact Nat.mod_lt _ (by omega)
theorem u0_ (x y:Int):(x.tdiv y).natAbs<=x.natAbs:=by
 rw [Int.natAbs_tdiv];exact Nat.div_le_self _ _
theorem jv (x y:Int) (hy:0<y):0<=aq x y/\aq x y<y:=by
 have h:=mX x y (by omega);unfold aq;by_cases h0:x.tmod y=0;·rw [if_neg (by simp [h0])];omega
 ·by_cases h1:x.tmod y<0;·rw [if_pos ⟨h0,by rw [oT h1,oS (show ¬ y<0 by omega)];simp⟩];omega
  ·rw [if_neg (by rw [oS h1,oS (show ¬ y<0 by omega)];simp)];omega
theorem lz (x y:Int) (hy:y<0):y<aq x y/\aq x y<=0:=by
 have h:=mX x y (by omega);unfold aq;by_cases h0:x.tmod y=0;·rw [if_neg (by simp [h0])];omega
 ·by_cases h1:x.tmod y<0;·rw [if_neg (by rw [oT h1,oT hy];simp)];omega
  ·rw [if_pos ⟨h0,by rw [oS h1,oT hy];simp⟩];omega
theorem nP (x y:Int):(aN x y).natAbs<=x.natAbs+1:=by
 have:=u0_ x y;unfold aN;split <;> omega
theorem R1_ (u v:Nat):(u:Int).tdiv (v:Int)=((u / v:Nat):Int):=by
 rw [Int.tdiv_eq_ediv_of_nonneg (by omega)];exact (Int.natCast_ediv _ _).symm
theorem R2_ (u v:Nat):(u:Int).tmod (v:Int)=((u%v:Nat):Int):=by
 rw [Int.tmod_eq_emod_of_nonneg (by omega)];exact (Int.natCast_emod _ _).symm
def sgn (b:Bool) (u:Nat):Int:=if b then -(u:Int) else u
theorem nz (n:Int):sgn (decide (n<0)) n.natAbs=n:=by
 unfold sgn;by_cases h:n<0;·rw [oT h,if_pos rfl];omega
 ·rw [oS h,if_neg Bool.false_ne_true];omega
theorem ny (u:Nat):sgn false u=u:=rfl
theorem n5 (u:Nat):sgn true u=-(u:Int):=rfl
theorem Z56 {p:Bool} {x:Int} (h:p=decide (x<0)):x=sgn p x.natAbs:=by rw [h,nz]
theorem Z6g (x y:Int) (hy:y≠0) {p q:Bool} (hp:p=decide (x<0)) (hq:q=decide (y<0)) :
  aN x y=sgn (p != q) (if (p != q)=true/\x.natAbs%y.natAbs≠0 then x.natAbs / y.natAbs+1 else x.natAbs / y.natAbs) /\
  aq x y=sgn q (if (p != q)=true/\x.natAbs%y.natAbs≠0 then y.natAbs-x.natAbs%y.natAbs else x.natAbs%y.natAbs):=by
 have ex:=Z56 hp;have ey:=Z56 hq;have hv:0<y.natAbs:=by omega
 have yJ:y<0↔q=true:=by rw [hq];simp
 generalize x.natAbs=u at *
 generalize y.natAbs=v at *
 have hr:=Nat.mod_lt u hv;unfold aN aq;have J9:decide (y<0)=q:=hq.symm;rw [J9];cases p <;> cases q
 all_goals
  simp only [ny,n5] at ex ey;subst ex;subst ey
 ·rw [R1_,R2_];generalize u%v=R at *
  generalize u / v=Q at *
  have h1:decide ((R:Int)<0)=false:=oS (by omega);simp [h1,sgn]
 ·rw [Int.tdiv_neg,Int.tmod_neg,R1_,R2_];generalize u%v=R at *
  generalize u / v=Q at *
  have h1:decide ((R:Int)<0)=false:=oS (by omega);rw [h1];by_cases h0:R=0;·simp [h0,sgn]
  ·simp [h0,sgn];omega
 ·rw [Int.neg_tdiv,Int.neg_tmod,R1_,R2_];generalize u%v=R at *
  generalize u / v=Q at *
  by_cases h0:R=0;·simp [h0,sgn]
  ·have h1:decide (-(R:Int)<0)=true:=oT (by omega);rw [h1];simp [h0,sgn];omega
 ·rw [Int.neg_tdiv,Int.neg_tmod,Int.tdiv_neg,Int.tmod_neg,R1_,R2_];generalize u%v=R at *
  generalize u / v=Q at *
  by_cases h0:R=0;·simp [h0,sgn]
  ·have h1:decide (-(R:Int)<0)=true:=oT (by omega);rw [h1];simp [h0,sgn]
def Sm (n:Int):Prop:=-100000000000000000<n/\n<100000000000000000
theorem Sm.of {n:Int} {b:Int} (h1:-b<=n) (h2:n<=b) (hb:b<100000000000000000):Sm n:=⟨by omega,by omega⟩
theorem Z6q:(10:Nat)^17=100000000000000000:=by decide
theorem km (n:Int):1<=(aB n).size:=by
 rw [Lib.size_eq,T8_];exact List.length_pos_iff.2 (kt n).2.2.2
theorem jW (n:Int) (h:n<0):(aB n).size=(aE n.natAbs).size+1:=by
 rw [Lib.size_eq,kj n h,Lib.size_eq];rfl
theorem Sm.size {n:Int} (h:Sm n):(aB n).size<=18:=by
 by_cases h0:n<0
 ·rw [jW n h0];have:=jB n.natAbs 17 (by rw [Z6q];have:=h.1;omega) (by omega);omega
 ·rw [c_ n (by omega)];have:=jB n.toNat 17 (by rw [Z6q];have:=h.2;omega) (by omega);omega
theorem ni (n:Int) (h:n<0) (hp:0<(aB n).size):(((aB n)[0].toNat:Int) == 45)=true:=by
 have hb:=kU (aB n) 0 hp;rw [kj n h] at hb;simp only [oQ,Option.some.injEq] at hb;rw [<- hb];rfl
theorem nH (s:ByteArray) (u:Nat) (hs:s=aE u) (hp:0<s.size):((s[0].toNat:Int) == 45)=false:=by
 subst hs;have hb:=kU (aE u) 0 hp;rw [fM] at hb;have hd:=List.all_eq_true.1 (gL u) _ (oE hb);have hc:48<=(aE u)[0].toNat/\(aE u)[0].toNat<=57:=of_decide_eq_true hd;rw [beq_eq_false_iff_ne];omega
theorem w1_ (n:Int) (h:n<0):(aB n).extract 1 (aB n).size=aE n.natAbs:=by
 apply Z1C;rw [Lib.extract_data,kj n h,List.drop_succ_cons,List.drop_zero];refine List.take_of_length_le ?_;have:=jW n h;rw [<- Lib.size_eq];omega
theorem fV (n:Int):((aB n).toList == [48])=decide (n=0):=by
 rw [J7_,show ([48]:List UInt8)=Lib.itoa 0 by unfold Lib.itoa;rw [if_neg (by omega),Lib.decDigits_one (by decide)];rfl,Z2n]
theorem v7_ (n:Int) (w:World) :
  Calls prog 74 #[.string (aB n)] w fun e w'=>e=.returned (.tuple #[.bool (decide (n<0)),.string (aE n.natAbs)])/\∃ k,w'=w.drewN k:=by
 have hp:=km n;have rZ:(0:Int)<((aB n).size:Int):=by omega
 have hp0:0<(aB n).size:=hp;by_cases h:n<0
 ·have q:=ni n h hp0;have t:=w1_ n h;have HD:Hid (decide (n<0)=true):=oT h;obtain ⟨m,hm⟩:=oc (aE n.natAbs);rw [<- hm] at t |-;rw [HD.out];clear h hm HD
  go_enter func74,ntmps74
  go_wp2_with fail
  go_quiet (fail)
  go_wp2_with fail;go_ret2;exact ⟨rfl,_,rfl⟩
 ·have q:=nH (aB n) n.toNat (c_ n (by omega)) hp0;have HD:Hid (decide (n<0)=false):=oS h;have HM:Hid (aE n.natAbs=aB n):=by unfold Hid;rw [c_ n (by omega)];congr 1;omega
  rw [HD.out,HM.out];clear h HD HM
  go_enter func74,ntmps74
  go_wp2_with fail;go_ret2;exact ⟨rfl,0,rfl⟩
theorem kI (n:Int) (w:World) :
  oX 74 #[.string (aB n)] w (.tuple #[.bool (decide (n<0)),.string (aE n.natAbs)]) :=
 (v7_ n w).mono fun _ _ ⟨h,k,hw⟩=>⟨h,hw▸aA.drewN _ _⟩
theorem L7_ (b:Bool) (u:Nat) (w:World) (hu:(aE u).size<=10000000000) :
  oY 75 #[.bool b,.string (aE u)] w (.string (aB (sgn b u))):=by
 have hz:=mG u;have z1:¬ 9223372036854775807<1+(aE u).size:=by omega
 cases b with
 | false =>
  have HR:Hid (aB (sgn false u)=aE u):=by unfold Hid sgn;rw [if_neg Bool.false_ne_true,c_ _ (by omega)];congr 1
  rw [HR.out];clear HR hz
  go_enter func75,ntmps75
  go_wp2_with fail;go_ret;exact ⟨rfl,rfl⟩
 | true =>
  by_cases h0:u=0
  ·rw [oT h0] at hz;have HR:Hid (aB (sgn true u)=aE u):=(by unfold Hid sgn;rw [if_pos rfl,c_ _ (by omega)];congr 1;omega);rw [HR.out];clear HR h0
   go_enter func75,ntmps75
   go_wp2_with fail;go_ret;exact ⟨rfl,rfl⟩
  ·rw [oS h0] at hz;have HR:Hid ((aB (sgn true u)).data=#[45]++(aE u).data):=by
    unfold Hid sgn;rw [if_pos rfl];apply Array.toList_inj.1;rw [kj _ (by omega)];simp
   clear h0
   go_enter func75,ntmps75
   go_wp2_with fail;go_ret;exact ⟨Z5Z (by rw [HR.out];simp),rfl⟩
theorem lH (n:Int) (w:World) :
  oY 93 #[.string (aB n)] w (.int .i64 n.sign):=by
 have hp0:0<(aB n).size:=km n;have hz:=fV n;by_cases h0:n=0
 ·rw [oT h0] at hz;have HR:Hid (n.sign=0):=by unfold Hid;rw [h0];rfl
  rw [HR.out];clear h0 HR
  go_enter func93,ntmps93
  go_wp2_with fail;go_ret;exact ⟨rfl,rfl⟩
 ·rw [oS h0] at hz;by_cases h:n<0
  ·have q:=ni n h hp0;have HR:Hid (n.sign=-1):=Int.sign_eq_neg_one_of_neg h;rw [HR.out];clear h0 h HR
   go_enter func93,ntmps93
   go_wp2_with fail;go_ret;exact ⟨rfl,rfl⟩
  ·have q:=nH (aB n) n.toNat (c_ n (by omega)) hp0;have HR:Hid (n.sign=1):=Int.sign_eq_one_of_pos (by omega);rw [HR.out];clear h0 h HR
   go_enter func93,ntmps93
   go_wp2_with fail;go_ret;exact ⟨rfl,rfl⟩
theorem j8 (n:Int) (w:World) (hs:(aB n).size<=10000000000) :
  oX 29 #[.string (aB n)] w (.string (aB (-n))):=by
 have hu:(aE n.natAbs).size<=10000000000:=by
  by_cases h:n<0;·have:=jW n h;omega
  ·rw [c_ n (by omega)] at hs;rw [show n.natAbs=n.toNat by omega];exact hs
 have H1:=oA (kI n w);have H2:Hid (∀ W,oY 75 #[.bool (!decide (n<0)),.string (aE n.natAbs)] W (.string (aB (sgn (!decide (n<0)) n.natAbs)))):=fun W=>L7_ (!decide (n<0)) n.natAbs W hu;have HR:Hid (aB (sgn (!decide (n<0)) n.natAbs)=aB (-n)):=by
  unfold Hid;congr 1;unfold sgn;by_cases h:n<0;·rw [oT h];simp;omega
  ·rw [oS h];simp;omega
 rw [HR.out] at H2;obtain ⟨b,hb⟩:=oc (decide (n<0));rw [<- hb] at H1 H2;clear hb HR
 go_enter func29,ntmps29
 go_wp2_with fail;refine H1.mono ?_;rintro e w1 ⟨rfl,hE1⟩;have HE1:=oA hE1;clear H1 hE1;go_wp2_with fail;refine q_ (H2 _) ?_;clear H2;go_wp2_with fail;go_ret;exact ⟨rfl,HE1⟩
theorem mi (n:Int) (w:World) :
  Calls prog 152 #[.string (aB n)] w fun e w'=>e=.returned (.string (aB (n.natAbs:Int)))/\∃ k,w'=w.drewN k:=by
 have H1:=oA (v7_ n w);have HR:Hid (aB (n.natAbs:Int)=aE n.natAbs):=by unfold Hid;rw [c_ _ (by omega)];congr 1
 rw [HR.out];clear HR
 go_enter func152,ntmps152
 go_wp2_with fail;refine H1.mono ?_;rintro e w1 ⟨rfl,k,rfl⟩;clear H1;go_wp2_with fail;go_ret;exact ⟨rfl,_,rfl⟩
theorem Z1t (n:Int) (w:World) :
  oX 152 #[.string (aB n)] w (.string (aB (n.natAbs:Int))) :=
 (mi n w).mono fun _ _ ⟨h,k,hw⟩=>⟨h,hw▸aA.drewN _ _⟩
theorem jz (n:Int):jr (aB n).data.toList=true/\gw (aB n).data.toList=n:=by
 rw [T8_];exact ⟨(kt n).1,(kt n).2.1⟩
theorem f6_ (n:Int) (w:World) (h1:-9223372036854775808<=n) (h2:n<=9223372036854775807) (hs:(aB n).size<=10000000000) :
  oX 166 #[.string (aB n)] w (.tuple #[.int .i64 n,.nilIface]) :=
 (strconv_Atoi_ok (aB n) (by omega) n (by
  have:=U7_ (jz n).1 (by rw [(jz n).2];exact ⟨h1,h2⟩);rw [(jz n).2] at this
  exact this) w).mono fun e w' ⟨h1,h2⟩=>⟨h1,by
  rcases h2 with rfl | ⟨t,rfl⟩
  ·exact aA.refl _
  ·exact ⟨rfl,rfl,rfl,by rw [Lib.bytesWorld_size];omega,fun j hj=>Lib.bytesWorld_at_old w _ t j hj⟩⟩
theorem mA (n:Int) (w:World) (h1:-9223372036854775808<=n) (h2:n<=9223372036854775807) (ht:ae w) :
  oX 124 #[.int .i64 n] w (.string (aB n)) :=
 (strconv_Itoa n h1 h2 w ht).mono fun e w' ⟨h,kk,os,hw⟩=>⟨h,by rw [hw];exact Lib.below_grow _ w (oK _) kk os⟩
theorem fI (n:Int) (k:Nat) (w:World) (h1:-9223372036854775808<=n) (h2:n<=9223372036854775807) (hs:(aB n).size<=k) (hk:k<=1000) :
  oX 119 #[.string (aB n),.int .i64 k] w (.tuple #[.int .i64 n,.bool true]):=by
 have sE:¬ (k:Int)<((aB n).size:Int):=by omega
 have HA:=oA (f6_ n w h1 h2 (by omega))
 go_enter func119,ntmps119
 go_wp2_with fail;refine o_ HA ?_;intro w1 HE1;clear HA;go_wp2_with fail
 go_quiet (fail)
 go_wp2_with fail;go_ret2;exact ⟨rfl,aA.draws HE1 _⟩
theorem fH (n:Int) (k:Nat) (w:World) (hs:k<(aB n).size) :
  oY 119 #[.string (aB n),.int .i64 k] w (.tuple #[.int .i64 0,.bool false]):=by
 have sE:(k:Int)<((aB n).size:Int):=by omega
 go_enter func119,ntmps119
 go_wp2_with fail;go_ret2;exact ⟨rfl,rfl⟩
theorem j_ (n:Int) (w:World) (h1:-9223372036854775808<=n) (h2:n<=9223372036854775807) (ht:ae w) :
  oX 64 #[.int .i64 n] w (.string (aB n)):=by
 have HA:=oA (mA n w h1 h2 ht);clear ht
 go_enter func64,ntmps64
 go_wp2_with fail;refine o_ HA ?_;intro w1 HE1;clear HA;go_wp2_with fail;go_ret;exact ⟨rfl,HE1⟩
theorem mD {a b A B:Int} (h1:-A<a) (h2:a<A) (h3:-B<b) (h4:b<B) (hA:0<=A) (hB:0<=B):-(A*B)<=a*b/\a*b<=A*B:=by
 have k1:a.natAbs<=A.natAbs:=by omega
 have k2:b.natAbs<=B.natAbs:=by omega
 have k3:(a*b).natAbs<=A.natAbs*B.natAbs:=by rw [Int.natAbs_mul];exact Nat.mul_le_mul k1 k2
 have k4:A.natAbs*B.natAbs=(A*B).natAbs:=(Int.natAbs_mul A B).symm;have k5:0<=A*B:=Int.mul_nonneg hA hB;omega
theorem dm (n:Int):(aE n.natAbs).size<=(aB n).size:=by
 by_cases h:n<0;·have:=jW n h;omega
 ·rw [c_ n (by omega),show n.natAbs=n.toNat by omega];exact oK _
theorem er (n:Int):(aB n).size<=(aE n.natAbs).size+1:=by
 by_cases h:n<0;·rw [jW n h];exact oK _
 ·rw [c_ n (by omega),show n.natAbs=n.toNat by omega];omega
theorem ks {n:Int} (h:(aB n).size<=18):-1000000000000000000<n/\n<1000000000000000000:=by
 have:=iW (u:=n.natAbs) (by have:=dm n;omega);omega
theorem L0_ (x y:Int) (w:World) (hx:(aB x).size<=2900000000) (hy:(aB y).size<=2900000000) (ht:ae w) :
  oX 61 #[.string (aB x),.string (aB y)] w (.string (aB (x+y))):=by
 have HT:=oA ht;clear ht;by_cases hs:(aB x).size<=18/\(aB y).size<=18
 ·obtain ⟨qH,sl⟩:=ks hs.1;obtain ⟨tA,qz⟩:=ks hs.2;have H1:=oA (fI x 18 w (by omega) (by omega) hs.1 (by omega));have H2:Hid (∀ W,oX 119 #[.string (aB y),.int .i64 18] W (.tuple #[.int .i64 y,.bool true])):=fun W=>fI y 18 W (by omega) (by omega) hs.2 (by omega);have H3:Hid (∀ W,aA w W->oX 64 #[.int .i64 (x+y)] W (.string (aB (x+y)))):=fun W hE=>j_ (x+y) W (by omega) (by omega) (HT.ext hE);clear hs
  go_enter func61,ntmps61
  go_wp2_with fail;refine o_ H1 ?_;intro w1 HE1;clear H1;go_wp2_with fail;refine p_ (H2 _) (aA.trans HE1) ?_;intro w2 HE2;clear H2;go_wp2_with fail;refine p_ (H3 _ HE2) (aA.trans HE2) ?_;intro w3 HE3;clear H3;go_wp2_with fail;go_ret;exact ⟨rfl,HE3⟩
 ·have hax:=dm x;have hay:=dm y;have HS1:Hid (∀ W,oX 74 #[.string (aB x)] W (.tuple #[.bool (decide (x<0)),.string (aE x.natAbs)])):=fun W=>kI x W;have HS2:Hid (∀ W,oX 74 #[.string (aB y)] W (.tuple #[.bool (decide (y<0)),.string (aE y.natAbs)])):=fun W=>kI y W;obtain ⟨u,hu⟩:=oc x.natAbs;obtain ⟨v,hv⟩:=oc y.natAbs;rw [<- hu] at HS1 hax;rw [<- hv] at HS2 hay;have HADD:Hid (∀ W,aA w W->oX 120 #[.string (aE u),.string (aE v)] W (.string (aE (u+v)))):=fun W hE=>E5_ u v W (by omega) (by omega) (HT.ext hE);have yF:Hid (∀ W,oY 121 #[.string (aE u),.string (aE v)] W (.int .i64 (bg u v))):=fun W=>Z4_ u v W (by omega) (by omega);have x3:Hid (v<=u->∀ W,aA w W->oX 122 #[.string (aE u),.string (aE v)] W (.tuple #[.string (aE (u-v)),.int .i64 0])):=fun hle W hE=>Q4_ u v W (by omega) (by omega) hle (HT.ext hE);have xz:Hid (u<=v->∀ W,aA w W->oX 122 #[.string (aE v),.string (aE u)] W (.tuple #[.string (aE (v-u)),.int .i64 0])):=fun hle W hE=>Q4_ v u W (by omega) (by omega) hle (HT.ext hE);have hsum:=W2_ u v;have HJ:Hid (∀ (b:Bool) (n:Nat),n<=u+v->∀ W,oY 75 #[.bool b,.string (aE n)] W (.string (aB (sgn b n)))):=fun b n hn W=>L7_ b n W (by have:=iV hn;omega);have NT:Hid (u=x.natAbs/\v=y.natAbs):=⟨hu,hv⟩;have pt:((aB x).size<=18/\18<(aB y).size)\/18<(aB x).size:=by omega
  have HX:Hid ((aB x).size<=18->-1000000000000000000<x/\x<1000000000000000000):=fun h=>ks h;obtain ⟨p,hp⟩:=oc (decide (x<0));obtain ⟨q,hq⟩:=oc (decide (y<0));rw [<- hp] at HS1;rw [<- hq] at HS2;have Bh:Hid (x=sgn p u/\y=sgn q v):=by
   unfold Hid;rw [hp,hq,hu,hv,nz,nz];exact ⟨rfl,rfl⟩
  clear hu hv hs hax hay hsum hp hq;rcases pt with ⟨hs1,hs2⟩ | hs1
  case' inl =>
   have H1:=oA (fI x 18 w (by have:=HX hs1;omega) (by have:=HX hs1;omega) hs1 (by omega));have H2:Hid (∀ W,oY 119 #[.string (aB y),.int .i64 18] W (.tuple #[.int .i64 0,.bool false])):=fun W=>fH y 18 W hs2;clear hs1 hs2
   go_enter func61,ntmps61
   go_wp2_with fail;refine o_ H1 ?_;intro w1 HE1;clear H1;go_wp2_with fail;refine q_ (H2 _) ?_;clear H2
  case' inr =>
   have H1:Hid (∀ W,oY 119 #[.string (aB x),.int .i64 18] W (.tuple #[.int .i64 0,.bool false])):=fun W=>fH x 18 W hs1;clear hs1
   go_enter func61,ntmps61
   go_wp2_with fail;refine q_ (H1 _) ?_;have HE1:=oA (aA.refl w);clear H1
  all_goals
   go_wp2_with fail;refine p_ (HS1 _) (aA.trans HE1) ?_;intro w2 HE2;clear HS1;go_wp2_with fail;refine p_ (HS2 _) (aA.trans HE2) ?_;intro w3 HE3;clear HS2;by_cases yN:p=q
   ·have hb:(p == q)=true:=(by simp [yN]);have HR:Hid (sgn p (u+v)=x+y):=by
     unfold Hid;rw [Bh.out.1,Bh.out.2,yN];cases q <;> simp only [ny,n5] <;> omega
    have HJ1:=oA (HJ p (u+v) (oK _));rw [HR.out] at HJ1;clear yN;go_wp2_with fail;refine p_ (HADD _ HE3) (aA.trans HE3) ?_;intro w4 HE4;go_wp2_with fail;refine q_ (HJ1 _) ?_;clear HJ1;go_wp2_with fail;go_ret;exact ⟨rfl,HE4⟩
   ·have hb:(p == q)=false:=(by simpa using yN);obtain ⟨cm,hcm⟩:=oc (bg u v);rw [<- hcm] at yF;by_cases Dq:u<v
    ·have hcl:cm<0:=(by rw [hcm,kW Dq];omega);have HR:Hid (sgn q (v-u)=x+y):=by
      unfold Hid;rw [Bh.out.1,Bh.out.2];revert yN;cases p <;> cases q <;> simp only [ny,n5] <;> intro h <;> first | omega | exact absurd trivial h
     have HJ1:=oA (HJ q (v-u) (by omega));rw [HR.out] at HJ1;have HSB:=oA (xz (by omega));clear yN hcm Dq x3 xz;go_wp2_with fail;refine q_ (yF _) ?_;clear yF;go_wp2_with fail;refine p_ (HSB _ HE3) (aA.trans HE3) ?_;intro w4 HE4;clear HSB;go_wp2_with fail;refine q_ (HJ1 _) ?_;clear HJ1;go_wp2_with fail;go_ret;exact ⟨rfl,HE4⟩
    ·have hcl:¬ cm<0:=by rw [hcm];unfold bg;rw [if_neg Dq];split <;> omega
     have HR:Hid (sgn p (u-v)=x+y):=by
      unfold Hid;rw [Bh.out.1,Bh.out.2];revert yN;cases p <;> cases q <;> simp only [ny,n5] <;> intro h <;> first | omega | exact absurd trivial h
     have HJ1:=oA (HJ p (u-v) (by omega));rw [HR.out] at HJ1;have HSB:=oA (x3 (by omega));clear yN hcm Dq x3 xz;go_wp2_with fail;refine q_ (yF _) ?_;clear yF;go_wp2_with fail;refine p_ (HSB _ HE3) (aA.trans HE3) ?_;intro w4 HE4;clear HSB;go_wp2_with fail;refine q_ (HJ1 _) ?_;clear HJ1;go_wp2_with fail;go_ret;exact ⟨rfl,HE4⟩
theorem i_ (x y:Int) (w:World) (hx:(aB x).size<=2900000000) (hy:(aB y).size<=2900000000) (ht:ae w) :
  oX 63 #[.string (aB x),.string (aB y)] w (.string (aB (x*y))):=by
 have HT:=oA ht;clear ht;by_cases hs:(aB x).size<=9/\(aB y).size<=9
 ·have hb:∀ {n:Int},(aB n).size<=9->-1000000000<n/\n<1000000000:=by
   intro n h;have h1:=dm n;have h2:n.natAbs<1000000000:=by
    have h3:=Lib.lt_pow_nDigits n.natAbs;rw [dn] at h1;have h4:10^Lib.nDigits n.natAbs<=10^9:=Nat.pow_le_pow_right (by omega) (by omega);rw [show (10:Nat)^9=1000000000 by decide] at h4;omega
   omega
  obtain ⟨qH,sl⟩:=hb hs.1;obtain ⟨tA,qz⟩:=hb hs.2;have hm:=mD qH sl tA qz (by omega) (by omega);obtain ⟨m,hmm⟩:=oc (x*y);rw [<- hmm] at hm |-;have xM:x*y=m:=hmm.symm;have H1:=oA (fI x 9 w (by omega) (by omega) hs.1 (by omega));have H2:Hid (∀ W,oX 119 #[.string (aB y),.int .i64 9] W (.tuple #[.int .i64 y,.bool true])):=fun W=>fI y 9 W (by omega) (by omega) hs.2 (by omega);have hm1:-1000000000000000000<=m:=by omega
  have wO:m<=1000000000000000000:=by omega
  have H3:Hid (∀ W,aA w W->oX 64 #[.int .i64 m] W (.string (aB m))):=fun W hE=>j_ m W (by omega) (by omega) (HT.ext hE);clear hs hb hm hmm
  go_enter func63,ntmps63
  go_wp2_with fail;refine o_ H1 ?_;intro w1 HE1;clear H1;go_wp2_with fail;refine p_ (H2 _) (aA.trans HE1) ?_;intro w2 HE2;clear H2;go_wp2_with fail;refine p_ (H3 _ HE2) (aA.trans HE2) ?_;intro w3 HE3;clear H3;go_wp2_with fail;go_ret;exact ⟨rfl,HE3⟩
 ·have hax:=dm x;have hay:=dm y;have HS1:Hid (∀ W,oX 74 #[.string (aB x)] W (.tuple #[.bool (decide (x<0)),.string (aE x.natAbs)])):=fun W=>kI x W;have HS2:Hid (∀ W,oX 74 #[.string (aB y)] W (.tuple #[.bool (decide (y<0)),.string (aE y.natAbs)])):=fun W=>kI y W;obtain ⟨u,hu⟩:=oc x.natAbs;obtain ⟨v,hv⟩:=oc y.natAbs;rw [<- hu] at HS1 hax;rw [<- hv] at HS2 hay;have vI:Hid (∀ W,aA w W->oX 123 #[.string (aE u),.string (aE v)] W (.string (aE (u*v)))):=fun W hE=>Z0r u v W (by omega) (by omega) (HT.ext hE);have hprod:=nj u v;obtain ⟨p,hp⟩:=oc (decide (x<0));obtain ⟨q,hq⟩:=oc (decide (y<0));rw [<- hp] at HS1;rw [<- hq] at HS2;have hR:sgn (p != q) (u*v)=x*y:=by
   have e1:x=sgn p u:=(by rw [hp,hu,nz]);have e2:y=sgn q v:=(by rw [hq,hv,nz]);rw [e1,e2];cases p <;> cases q <;> simp [ny,n5,Int.neg_mul,Int.mul_neg]
  have HJ:Hid (∀ W,oY 75 #[.bool (p != q),.string (aE (u*v))] W (.string (aB (x*y)))):=fun W=>by
   rw [<- hR];exact L7_ (p != q) (u*v) W (by omega)
  have pt:((aB x).size<=9/\9<(aB y).size)\/9<(aB x).size:=by omega
  have HX:Hid ((aB x).size<=9->-1000000000000000000<x/\x<1000000000000000000):=fun h=>ks (by omega);clear hu hv hs hax hay hprod hp hq hR;rcases pt with ⟨hs1,hs2⟩ | hs1
  case' inl =>
   have H1:=oA (fI x 9 w (by have:=HX hs1;omega) (by have:=HX hs1;omega) hs1 (by omega));have H2:Hid (∀ W,oY 119 #[.string (aB y),.int .i64 9] W (.tuple #[.int .i64 0,.bool false])):=fun W=>fH y 9 W hs2;clear hs1 hs2
   go_enter func63,ntmps63
   go_wp2_with fail;refine o_ H1 ?_;intro w1 HE1;clear H1;go_wp2_with fail;refine q_ (H2 _) ?_;clear H2
  case' inr =>
   have H1:Hid (∀ W,oY 119 #[.string (aB x),.int .i64 9] W (.tuple #[.int .i64 0,.bool false])):=fun W=>fH x 9 W hs1;clear hs1
   go_enter func63,ntmps63
   go_wp2_with fail;refine q_ (H1 _) ?_;have HE1:=oA (aA.refl w);clear H1
  all_goals
   go_wp2_with fail;refine p_ (HS1 _) (aA.trans HE1) ?_;intro w2 HE2;clear HS1;go_wp2_with fail;refine p_ (HS2 _) (aA.trans HE2) ?_;intro w3 HE3;clear HS2;go_wp2_with fail;refine p_ (vI _ HE3) (aA.trans HE3) ?_;intro w4 HE4;go_wp2_with fail;refine q_ (HJ _) ?_;clear HJ;go_wp2_with fail;go_ret;exact ⟨rfl,HE4⟩
theorem Z3R (x y:Int) (w:World) (hx:(aB x).size<=18) (hy:(aB y).size<=18) (h0:y≠0) (ht:ae w) :
  oX 94 #[.string (aB x),.string (aB y)] w (.tuple #[.string (aB (aN x y)),.string (aB (aq x y)),.int .i64 0]):=by
 have HT:=oA ht;have hz:=fV y;rw [oS h0] at hz;obtain ⟨qH,sl⟩:=ks hx;obtain ⟨tA,qz⟩:=ks hy;have H1:=oA (fI x 18 w (by omega) (by omega) hx (by omega));have H2:Hid (∀ W,oX 119 #[.string (aB y),.int .i64 18] W (.tuple #[.int .i64 y,.bool true])):=fun W=>fI y 18 W (by omega) (by omega) hy (by omega);have hrl:=mX x y h0;have hql:=u0_ x y;have vP:(aN x y).natAbs<=1000000000000000001:=by have:=nP x y;omega
 have qN:(aq x y).natAbs<=1000000000000000001:=by
  rcases Int.lt_trichotomy y 0 with h | h | h;·have:=lz x y h;omega
  ·exact absurd h h0
  ·have:=jv x y h;omega
 have H3:Hid (∀ W,aA w W->oX 64 #[.int .i64 (aN x y)] W (.string (aB (aN x y)))):=fun W hE=>j_ _ W (by omega) (by omega) (HT.ext hE);have H4:Hid (∀ W,aA w W->oX 64 #[.int .i64 (aq x y)] W (.string (aB (aq x y)))):=fun W hE=>j_ _ W (by omega) (by omega) (HT.ext hE);have hyb:(y == 0)=false:=beq_eq_false_iff_ne.2 h0;have pw:Hid (aN x y=if x.tmod y≠0/\decide (x.tmod y<0)≠decide (y<0) then x.tdiv y-1 else x.tdiv y):=rfl;have HFR:Hid (aq x y=if x.tmod y≠0/\decide (x.tmod y<0)≠decide (y<0) then x.tmod y+y else x.tmod y):=rfl;obtain ⟨fq,Cn⟩:=oc (aN x y);obtain ⟨fr,Aa⟩:=oc (aq x y);rw [<- Cn] at H3 pw vP |-;rw [<- Aa] at H4 HFR qN |-;obtain ⟨q,hq⟩:=oZ (x.tdiv y);obtain ⟨r,hr⟩:=oZ (x.tmod y);rw [hq] at pw hql;rw [hr] at HFR pw hrl;have e1:IntKind.i64.wrap q=q:=IntWalk.i64_in _ (by omega);have ph:¬ y=0:=h0;clear ht Cn Aa h0;by_cases c0:r=0
 ·have k0:(r != 0)=false:=by simp [c0]
  rw [if_neg (by simp [c0])] at pw HFR;rw [pw.out] at H3 |-;rw [HFR.out] at H4 |-;clear pw HFR c0
  go_enter func94,ntmps94
  go_wp2_with fail;refine o_ H1 ?_;intro w1 HE1;clear H1;go_wp2_with fail;refine p_ (H2 _) (aA.trans HE1) ?_;intro w2 HE2;clear H2;go_wp2_with fail
  go_quiet (fail)
  go_wp2_with fail;refine p_ (H3 _ (aA.draws HE2 _)) (aA.trans (aA.draws HE2 _)) ?_;intro w3 HE3;clear H3;go_wp2_with fail;refine p_ (H4 _ HE3) (aA.trans HE3) ?_;intro w4 HE4;clear H4;go_wp2_with fail;go_ret3;exact ⟨rfl,HE4⟩
 ·have k0:(r != 0)=true:=by simpa using c0
  by_cases c1:r<0
  ·by_cases c2:y<0
   ·have k5:decide (r<0)=true:=oT c1;have k6:decide (y<0)=true:=oT c2;have k7:(!decide (r<0))=false:=(by rw [k5];rfl);have k8:(!decide (y<0))=false:=(by rw [k6];rfl);rw [if_neg (by rw [oT c1,oT c2];simp)] at pw HFR;rw [pw.out] at H3 |-;rw [HFR.out] at H4 |-;clear pw HFR c0
    go_enter func94,ntmps94
    go_wp2_with fail;refine o_ H1 ?_;intro w1 HE1;clear H1;go_wp2_with fail;refine p_ (H2 _) (aA.trans HE1) ?_;intro w2 HE2;clear H2;go_wp2_with fail
    go_quiet (fail)
    go_wp2_with fail;refine p_ (H3 _ (aA.draws HE2 _)) (aA.trans (aA.draws HE2 _)) ?_;intro w3 HE3;clear H3;go_wp2_with fail;refine p_ (H4 _ HE3) (aA.trans HE3) ?_;intro w4 HE4;clear H4;go_wp2_with fail;go_ret3;exact ⟨rfl,HE4⟩
   ·have k5:decide (r<0)=true:=oT c1;have k6:decide (y<0)=false:=oS c2;have k7:(!decide (r<0))=false:=(by rw [k5];rfl);have k8:(!decide (y<0))=true:=(by rw [k6];rfl);rw [if_pos ⟨c0,by rw [oT c1,oS c2];simp⟩] at pw HFR;rw [pw.out] at H3 |- vP;rw [HFR.out] at H4 |- qN;clear pw HFR c0
    go_enter func94,ntmps94
    go_wp2_with fail;refine o_ H1 ?_;intro w1 HE1;clear H1;go_wp2_with fail;refine p_ (H2 _) (aA.trans HE1) ?_;intro w2 HE2;clear H2;go_wp2_with fail
    go_quiet (fail)
    go_wp2_with fail;refine p_ (H3 _ (aA.draws HE2 _)) (aA.trans (aA.draws HE2 _)) ?_;intro w3 HE3;clear H3;go_wp2_with fail;refine p_ (H4 _ HE3) (aA.trans HE3) ?_;intro w4 HE4;clear H4;go_wp2_with fail;go_ret3;exact ⟨rfl,HE4⟩
  ·by_cases c2:y<0
   ·have k5:decide (r<0)=false:=oS c1;have k6:decide (y<0)=true:=oT c2;have k7:(!decide (r<0))=true:=(by rw [k5];rfl);have k8:(!decide (y<0))=false:=(by rw [k6];rfl);rw [if_pos ⟨c0,by rw [oS c1,oT c2];simp⟩] at pw HFR;rw [pw.out] at H3 |- vP;rw [HFR.out] at H4 |- qN;clear pw HFR c0
    go_enter func94,ntmps94
    go_wp2_with fail;refine o_ H1 ?_;intro w1 HE1;clear H1;go_wp2_with fail;refine p_ (H2 _) (aA.trans HE1) ?_;intro w2 HE2;clear H2;go_wp2_with fail
    go_quiet (fail)
    go_wp2_with fail;refine p_ (H3 _ (aA.draws HE2 _)) (aA.trans (aA.draws HE2 _)) ?_;intro w3 HE3;clear H3;go_wp2_with fail;refine p_ (H4 _ HE3) (aA.trans HE3) ?_;intro w4 HE4;clear H4;go_wp2_with fail;go_ret3;exact ⟨rfl,HE4⟩
   ·have k5:decide (r<0)=false:=oS c1;have k6:decide (y<0)=false:=oS c2;have k7:(!decide (r<0))=true:=(by rw [k5];rfl);have k8:(!decide (y<0))=true:=(by rw [k6];rfl);rw [if_neg (by rw [oS c1,oS c2];simp)] at pw HFR;rw [pw.out] at H3 |-;rw [HFR.out] at H4 |-;clear pw HFR c0
    go_enter func94,ntmps94
    go_wp2_with fail;refine o_ H1 ?_;intro w1 HE1;clear H1;go_wp2_with fail;refine p_ (H2 _) (aA.trans HE1) ?_;intro w2 HE2;clear H2;go_wp2_with fail
    go_quiet (fail)
    go_wp2_with fail;refine p_ (H3 _ (aA.draws HE2 _)) (aA.trans (aA.draws HE2 _)) ?_;intro w3 HE3;clear H3;go_wp2_with fail;refine p_ (H4 _ HE3) (aA.trans HE3) ?_;intro w4 HE4;clear H4;go_wp2_with fail;go_ret3;exact ⟨rfl,HE4⟩
theorem Y8_ (x y:Int) (w:World) (hx:(aB x).size<=2800000000) (hy:(aB y).size<=2800000000) (h0:y≠0) (ht:ae w) :
  oX 94 #[.string (aB x),.string (aB y)] w (.tuple #[.string (aB (aN x y)),.string (aB (aq x y)),.int .i64 0]):=by
 by_cases hs:(aB x).size<=18/\(aB y).size<=18;·exact Z3R x y w hs.1 hs.2 h0 ht
 have HT:=oA ht;clear ht;have hz:=fV y;rw [oS h0] at hz;have hax:=dm x;have hay:=dm y;have HS1:Hid (∀ W,oX 74 #[.string (aB x)] W (.tuple #[.bool (decide (x<0)),.string (aE x.natAbs)])):=fun W=>kI x W;have HS2:Hid (∀ W,oX 74 #[.string (aB y)] W (.tuple #[.bool (decide (y<0)),.string (aE y.natAbs)])):=fun W=>kI y W;obtain ⟨p,hp⟩:=oc (decide (x<0));obtain ⟨q,hq⟩:=oc (decide (y<0));have hfd:=Z6g x y h0 hp hq;rw [<- hp] at HS1;rw [<- hq] at HS2;have tZ:y.natAbs≠0:=by omega
 obtain ⟨u,hu⟩:=oc x.natAbs;obtain ⟨v,hv⟩:=oc y.natAbs;rw [<- hu] at HS1 hax hfd;rw [<- hv] at HS2 hay hfd tZ;have qL:Hid (∀ W,aA w W->oX 147 #[.string (aE u),.string (aE v)] W (.tuple #[.string (aE (u / v)),.string (aE (u%v)),.int .i64 0])):=fun W hE=>T0_ u v W (by omega) (by omega) tZ (HT.ext hE);have vO:(aE (u / v)).size<=2800000000:=oJ (iV (Nat.div_le_self _ _)) (by omega);have Eg:u%v<v:=Nat.mod_lt _ (by omega);have rT:(aE (u%v)).size<=2800000000:=oJ (iV (Nat.le_of_lt Eg)) (by omega);have qB:(aE 1).size<=2800000000:=by
  have:=Lib.nDigits_small (show 1<10 by omega);rw [dn,this];omega
 have I9:aE 1=⟨#[49]⟩:=by unfold aE;rw [Lib.decDigits_one (by omega)];rfl
 have hq1s:=W2_ (u / v) 1;have Aw:∀ W,aA w W->Calls prog 120 #[.string (aE (u / v)),.string (aE 1)] W fun e w'=>e=.returned (.string (aE (u / v+1)))/\aA W w':=fun W hE=>E5_ (u / v) 1 W (by omega) (by omega) (HT.ext hE);rw [I9] at Aw;have HADD:=oA Aw;have pI:Hid (∀ W,aA w W->oX 122 #[.string (aE v),.string (aE (u%v))] W (.tuple #[.string (aE (v-u%v)),.int .i64 0])):=fun W hE=>Q4_ v (u%v) W (by omega) (by omega) (Nat.le_of_lt Eg) (HT.ext hE);have sn:(aE (v-u%v)).size<=2800000000:=oJ (iV (Nat.sub_le _ _)) (by omega);have HJ:Hid (∀ (b:Bool) (n:Nat),(aE n).size<=10000000000->∀ W,oY 75 #[.bool b,.string (aE n)] W (.string (aB (sgn b n)))):=fun b n hn W=>L7_ b n W hn;have hrz:=mG (u%v);obtain ⟨Q,hQ⟩:=oc (u / v);obtain ⟨R,hR⟩:=oc (u%v);rw [<- hQ] at hfd qL vO hq1s HADD;rw [<- hR] at hfd qL rT pI sn hrz;have pt:((aB x).size<=18/\18<(aB y).size)\/18<(aB x).size:=by omega
 have HX:Hid ((aB x).size<=18->-1000000000000000000<x/\x<1000000000000000000):=fun h=>ks h;obtain ⟨F1,JN⟩:=oc (aN x y);obtain ⟨F2,xq⟩:=oc (aq x y);rw [<- JN,<- xq] at hfd |-;have HFD:=oA hfd;have HSZ:Hid ((aE Q).size<=10000000000/\(aE (Q+1)).size<=10000000000/\(aE R).size<=10000000000/\(aE (v-R)).size<=10000000000):=⟨by omega,by omega,by omega,by omega⟩;clear hu hv hs hax hay hp hq hfd tZ vO Eg rT qB I9 hq1s Aw sn hQ hR JN xq;rcases p with _ | _ <;> rcases q with _ | _
 ·have hf:=HFD.out;rw [if_neg (by simp),if_neg (by simp)] at hf;have HJ1:=oA (HJ false Q HSZ.1);have HJ2:=oA (HJ false R HSZ.2.2.1);rw [show sgn false Q=F1 from hf.1.symm] at HJ1;rw [show sgn false R=F2 from hf.2.symm] at HJ2;clear hf HFD hrz;rcases pt with ⟨hs1,hs2⟩ | hs1
  ·have H1:=oA (fI x 18 w (by have:=HX hs1;omega) (by have:=HX hs1;omega) hs1 (by omega));have H2:Hid (∀ W,oY 119 #[.string (aB y),.int .i64 18] W (.tuple #[.int .i64 0,.bool false])):=fun W=>fH y 18 W hs2;clear hs1 hs2
   go_enter func94,ntmps94
   go_wp2_with fail;refine o_ H1 ?_;intro w1 HE1;clear H1;go_wp2_with fail;refine q_ (H2 _) ?_;clear H2;go_wp2_with fail;refine p_ (HS1 _) (aA.trans HE1) ?_;intro w2 HE2;clear HS1;go_wp2_with fail;refine p_ (HS2 _) (aA.trans HE2) ?_;intro w3 HE3;clear HS2;go_wp2_with fail;refine p_ (qL _ HE3) (aA.trans HE3) ?_;intro w4 HE4;clear qL;go_wp2_with fail;refine q_ (HJ1 _) ?_;clear HJ1;go_wp2_with fail;refine q_ (HJ2 _) ?_;clear HJ2;go_wp2_with fail;go_ret3;exact ⟨rfl,HE4⟩
  ·have H1:Hid (∀ W,oY 119 #[.string (aB x),.int .i64 18] W (.tuple #[.int .i64 0,.bool false])):=fun W=>fH x 18 W hs1;clear hs1
   go_enter func94,ntmps94
   go_wp2_with fail;refine q_ (H1 _) ?_;have HE1:=oA (aA.refl w);clear H1;go_wp2_with fail;refine p_ (HS1 _) (aA.trans HE1) ?_;intro w2 HE2;clear HS1;go_wp2_with fail;refine p_ (HS2 _) (aA.trans HE2) ?_;intro w3 HE3;clear HS2;go_wp2_with fail;refine p_ (qL _ HE3) (aA.trans HE3) ?_;intro w4 HE4;clear qL;go_wp2_with fail;refine q_ (HJ1 _) ?_;clear HJ1;go_wp2_with fail;refine q_ (HJ2 _) ?_;clear HJ2;go_wp2_with fail;go_ret3;exact ⟨rfl,HE4⟩
 ·by_cases sK:R=0
  ·have hf:=HFD.out;rw [if_neg (by simp [sK]),if_neg (by simp [sK])] at hf;have HJ1:=oA (HJ true Q HSZ.1);have HJ2:=oA (HJ true R HSZ.2.2.1);rw [show sgn true Q=F1 from hf.1.symm] at HJ1;rw [show sgn true R=F2 from hf.2.symm] at HJ2;rw [oT sK] at hrz;clear hf HFD sK;rcases pt with ⟨hs1,hs2⟩ | hs1
   ·have H1:=oA (fI x 18 w (by have:=HX hs1;omega) (by have:=HX hs1;omega) hs1 (by omega));have H2:Hid (∀ W,oY 119 #[.string (aB y),.int .i64 18] W (.tuple #[.int .i64 0,.bool false])):=fun W=>fH y 18 W hs2;clear hs1 hs2
    go_enter func94,ntmps94
    go_wp2_with fail;refine o_ H1 ?_;intro w1 HE1;clear H1;go_wp2_with fail;refine q_ (H2 _) ?_;clear H2;go_wp2_with fail;refine p_ (HS1 _) (aA.trans HE1) ?_;intro w2 HE2;clear HS1;go_wp2_with fail;refine p_ (HS2 _) (aA.trans HE2) ?_;intro w3 HE3;clear HS2;go_wp2_with fail;refine p_ (qL _ HE3) (aA.trans HE3) ?_;intro w4 HE4;clear qL;go_wp2_with fail;refine q_ (HJ1 _) ?_;clear HJ1;go_wp2_with fail;refine q_ (HJ2 _) ?_;clear HJ2;go_wp2_with fail;go_ret3;exact ⟨rfl,HE4⟩
   ·have H1:Hid (∀ W,oY 119 #[.string (aB x),.int .i64 18] W (.tuple #[.int .i64 0,.bool false])):=fun W=>fH x 18 W hs1;clear hs1
    go_enter func94,ntmps94
    go_wp2_with fail;refine q_ (H1 _) ?_;have HE1:=oA (aA.refl w);clear H1;go_wp2_with fail;refine p_ (HS1 _) (aA.trans HE1) ?_;intro w2 HE2;clear HS1;go_wp2_with fail;refine p_ (HS2 _) (aA.trans HE2) ?_;intro w3 HE3;clear HS2;go_wp2_with fail;refine p_ (qL _ HE3) (aA.trans HE3) ?_;intro w4 HE4;clear qL;go_wp2_with fail;refine q_ (HJ1 _) ?_;clear HJ1;go_wp2_with fail;refine q_ (HJ2 _) ?_;clear HJ2;go_wp2_with fail;go_ret3;exact ⟨rfl,HE4⟩
  ·have hf:=HFD.out;rw [if_pos ⟨rfl,sK⟩,if_pos ⟨rfl,sK⟩] at hf;have HJ1:=oA (HJ true (Q+1) HSZ.2.1);have HJ2:=oA (HJ true (v-R) HSZ.2.2.2);rw [show sgn true (Q+1)=F1 from hf.1.symm] at HJ1;rw [show sgn true (v-R)=F2 from hf.2.symm] at HJ2;rw [oS sK] at hrz;clear hf HFD sK;rcases pt with ⟨hs1,hs2⟩ | hs1
   ·have H1:=oA (fI x 18 w (by have:=HX hs1;omega) (by have:=HX hs1;omega) hs1 (by omega));have H2:Hid (∀ W,oY 119 #[.string (aB y),.int .i64 18] W (.tuple #[.int .i64 0,.bool false])):=fun W=>fH y 18 W hs2;clear hs1 hs2
    go_enter func94,ntmps94
    go_wp2_with fail;refine o_ H1 ?_;intro w1 HE1;clear H1;go_wp2_with fail;refine q_ (H2 _) ?_;clear H2;go_wp2_with fail;refine p_ (HS1 _) (aA.trans HE1) ?_;intro w2 HE2;clear HS1;go_wp2_with fail;refine p_ (HS2 _) (aA.trans HE2) ?_;intro w3 HE3;clear HS2;go_wp2_with fail;refine p_ (qL _ HE3) (aA.trans HE3) ?_;intro w4 HE4;clear qL;go_wp2_with fail;refine p_ (HADD _ HE4) (aA.trans HE4) ?_;intro w5 HE5;clear HADD;go_wp2_with fail;refine p_ (pI _ HE5) (aA.trans HE5) ?_;intro w6 HE6;clear pI;go_wp2_with fail;refine q_ (HJ1 _) ?_;clear HJ1;go_wp2_with fail;refine q_ (HJ2 _) ?_;clear HJ2;go_wp2_with fail;go_ret3;exact ⟨rfl,HE6⟩
   ·have H1:Hid (∀ W,oY 119 #[.string (aB x),.int .i64 18] W (.tuple #[.int .i64 0,.bool false])):=fun W=>fH x 18 W hs1;clear hs1
    go_enter func94,ntmps94
    go_wp2_with fail;refine q_ (H1 _) ?_;have HE1:=oA (aA.refl w);clear H1;go_wp2_with fail;refine p_ (HS1 _) (aA.trans HE1) ?_;intro w2 HE2;clear HS1;go_wp2_with fail;refine p_ (HS2 _) (aA.trans HE2) ?_;intro w3 HE3;clear HS2;go_wp2_with fail;refine p_ (qL _ HE3) (aA.trans HE3) ?_;intro w4 HE4;clear qL;go_wp2_with fail;refine p_ (HADD _ HE4) (aA.trans HE4) ?_;intro w5 HE5;clear HADD;go_wp2_with fail;refine p_ (pI _ HE5) (aA.trans HE5) ?_;intro w6 HE6;clear pI;go_wp2_with fail;refine q_ (HJ1 _) ?_;clear HJ1;go_wp2_with fail;refine q_ (HJ2 _) ?_;clear HJ2;go_wp2_with fail;go_ret3;exact ⟨rfl,HE6⟩
 ·by_cases sK:R=0
  ·have hf:=HFD.out;rw [if_neg (by simp [sK]),if_neg (by simp [sK])] at hf;have HJ1:=oA (HJ true Q HSZ.1);have HJ2:=oA (HJ false R HSZ.2.2.1);rw [show sgn true Q=F1 from hf.1.symm] at HJ1;rw [show sgn false R=F2 from hf.2.symm] at HJ2;rw [oT sK] at hrz;clear hf HFD sK;rcases pt with ⟨hs1,hs2⟩ | hs1
   ·have H1:=oA (fI x 18 w (by have:=HX hs1;omega) (by have:=HX hs1;omega) hs1 (by omega));have H2:Hid (∀ W,oY 119 #[.string (aB y),.int .i64 18] W (.tuple #[.int .i64 0,.bool false])):=fun W=>fH y 18 W hs2;clear hs1 hs2
    go_enter func94,ntmps94
    go_wp2_with fail;refine o_ H1 ?_;intro w1 HE1;clear H1;go_wp2_with fail;refine q_ (H2 _) ?_;clear H2;go_wp2_with fail;refine p_ (HS1 _) (aA.trans HE1) ?_;intro w2 HE2;clear HS1;go_wp2_with fail;refine p_ (HS2 _) (aA.trans HE2) ?_;intro w3 HE3;clear HS2;go_wp2_with fail;refine p_ (qL _ HE3) (aA.trans HE3) ?_;intro w4 HE4;clear qL;go_wp2_with fail;refine q_ (HJ1 _) ?_;clear HJ1;go_wp2_with fail;refine q_ (HJ2 _) ?_;clear HJ2;go_wp2_with fail;go_ret3;exact ⟨rfl,HE4⟩
   ·have H1:Hid (∀ W,oY 119 #[.string (aB x),.int .i64 18] W (.tuple #[.int .i64 0,.bool false])):=fun W=>fH x 18 W hs1;clear hs1
    go_enter func94,ntmps94
    go_wp2_with fail;refine q_ (H1 _) ?_;have HE1:=oA (aA.refl w);clear H1;go_wp2_with fail;refine p_ (HS1 _) (aA.trans HE1) ?_;intro w2 HE2;clear HS1;go_wp2_with fail;refine p_ (HS2 _) (aA.trans HE2) ?_;intro w3 HE3;clear HS2;go_wp2_with fail;refine p_ (qL _ HE3) (aA.trans HE3) ?_;intro w4 HE4;clear qL;go_wp2_with fail;refine q_ (HJ1 _) ?_;clear HJ1;go_wp2_with fail;refine q_ (HJ2 _) ?_;clear HJ2;go_wp2_with fail;go_ret3;exact ⟨rfl,HE4⟩
  ·have hf:=HFD.out;rw [if_pos ⟨rfl,sK⟩,if_pos ⟨rfl,sK⟩] at hf;have HJ1:=oA (HJ true (Q+1) HSZ.2.1);have HJ2:=oA (HJ false (v-R) HSZ.2.2.2);rw [show sgn true (Q+1)=F1 from hf.1.symm] at HJ1;rw [show sgn false (v-R)=F2 from hf.2.symm] at HJ2;rw [oS sK] at hrz;clear hf HFD sK;rcases pt with ⟨hs1,hs2⟩ | hs1
   ·have H1:=oA (fI x 18 w (by have:=HX hs1;omega) (by have:=HX hs1;omega) hs1 (by omega));have H2:Hid (∀ W,oY 119 #[.string (aB y),.int .i64 18] W (.tuple #[.int .i64 0,.bool false])):=fun W=>fH y 18 W hs2;clear hs1 hs2
    go_enter func94,ntmps94
    go_wp2_with fail;refine o_ H1 ?_;intro w1 HE1;clear H1;go_wp2_with fail;refine q_ (H2 _) ?_;clear H2;go_wp2_with fail;refine p_ (HS1 _) (aA.trans HE1) ?_;intro w2 HE2;clear HS1;go_wp2_with fail;refine p_ (HS2 _) (aA.trans HE2) ?_;intro w3 HE3;clear HS2;go_wp2_with fail;refine p_ (qL _ HE3) (aA.trans HE3) ?_;intro w4 HE4;clear qL;go_wp2_with fail;refine p_ (HADD _ HE4) (aA.trans HE4) ?_;intro w5 HE5;clear HADD;go_wp2_with fail;refine p_ (pI _ HE5) (aA.trans HE5) ?_;intro w6 HE6;clear pI;go_wp2_with fail;refine q_ (HJ1 _) ?_;clear HJ1;go_wp2_with fail;refine q_ (HJ2 _) ?_;clear HJ2;go_wp2_with fail;go_ret3;exact ⟨rfl,HE6⟩
   ·have H1:Hid (∀ W,oY 119 #[.string (aB x),.int .i64 18] W (.tuple #[.int .i64 0,.bool false])):=fun W=>fH x 18 W hs1;clear hs1
    go_enter func94,ntmps94
    go_wp2_with fail;refine q_ (H1 _) ?_;have HE1:=oA (aA.refl w);clear H1;go_wp2_with fail;refine p_ (HS1 _) (aA.trans HE1) ?_;intro w2 HE2;clear HS1;go_wp2_with fail;refine p_ (HS2 _) (aA.trans HE2) ?_;intro w3 HE3;clear HS2;go_wp2_with fail;refine p_ (qL _ HE3) (aA.trans HE3) ?_;intro w4 HE4;clear qL;go_wp2_with fail;refine p_ (HADD _ HE4) (aA.trans HE4) ?_;intro w5 HE5;clear HADD;go_wp2_with fail;refine p_ (pI _ HE5) (aA.trans HE5) ?_;intro w6 HE6;clear pI;go_wp2_with fail;refine q_ (HJ1 _) ?_;clear HJ1;go_wp2_with fail;refine q_ (HJ2 _) ?_;clear HJ2;go_wp2_with fail;go_ret3;exact ⟨rfl,HE6⟩
 ·have hf:=HFD.out;rw [if_neg (by simp),if_neg (by simp)] at hf;have HJ1:=oA (HJ false Q HSZ.1);have HJ2:=oA (HJ true R HSZ.2.2.1);rw [show sgn false Q=F1 from hf.1.symm] at HJ1;rw [show sgn true R=F2 from hf.2.symm] at HJ2;clear hf HFD hrz;rcases pt with ⟨hs1,hs2⟩ | hs1
  ·have H1:=oA (fI x 18 w (by have:=HX hs1;omega) (by have:=HX hs1;omega) hs1 (by omega));have H2:Hid (∀ W,oY 119 #[.string (aB y),.int .i64 18] W (.tuple #[.int .i64 0,.bool false])):=fun W=>fH y 18 W hs2;clear hs1 hs2
   go_enter func94,ntmps94
   go_wp2_with fail;refine o_ H1 ?_;intro w1 HE1;clear H1;go_wp2_with fail;refine q_ (H2 _) ?_;clear H2;go_wp2_with fail;refine p_ (HS1 _) (aA.trans HE1) ?_;intro w2 HE2;clear HS1;go_wp2_with fail;refine p_ (HS2 _) (aA.trans HE2) ?_;intro w3 HE3;clear HS2;go_wp2_with fail;refine p_ (qL _ HE3) (aA.trans HE3) ?_;intro w4 HE4;clear qL;go_wp2_with fail;refine q_ (HJ1 _) ?_;clear HJ1;go_wp2_with fail;refine q_ (HJ2 _) ?_;clear HJ2;go_wp2_with fail;go_ret3;exact ⟨rfl,HE4⟩
  ·have H1:Hid (∀ W,oY 119 #[.string (aB x),.int .i64 18] W (.tuple #[.int .i64 0,.bool false])):=fun W=>fH x 18 W hs1;clear hs1
   go_enter func94,ntmps94
   go_wp2_with fail;refine q_ (H1 _) ?_;have HE1:=oA (aA.refl w);clear H1;go_wp2_with fail;refine p_ (HS1 _) (aA.trans HE1) ?_;intro w2 HE2;clear HS1;go_wp2_with fail;refine p_ (HS2 _) (aA.trans HE2) ?_;intro w3 HE3;clear HS2;go_wp2_with fail;refine p_ (qL _ HE3) (aA.trans HE3) ?_;intro w4 HE4;clear qL;go_wp2_with fail;refine q_ (HJ1 _) ?_;clear HJ1;go_wp2_with fail;refine q_ (HJ2 _) ?_;clear HJ2;go_wp2_with fail;go_ret3;exact ⟨rfl,HE4⟩
end Go.Proofs.YtjlkkofmojgipaaGreatDoor
