import Derived.Test.YtoonaddcfakamaaGreatDoorYAB
import Derived.Test.YtoonaddcfakamaaGreatDoorYAD
import Derived.WalkLawsBesides
import Derived.WalkSmall
import Derived.Test.YtoonaddcfakamaaGreatDoorYAC
import Derived.Lib.AppendIntMem
set_option linter.unusedVariables false
set_option linter.unusedSimpArgs false
set_option maxRecDepth 1000000
set_option maxHeartbeats 4000000
namespace Go.Proofs.YtoonaddcfakamaaGreatDoor
open Go.RowKit Go.Proofs.Tryz
def aQ (x y:Int):Int:=if x.tmod y≠0/\decide (x.tmod y<0)≠decide (y<0) then x.tdiv y-1 else x.tdiv y
def bK (x y:Int):Int:=if x.tmod y≠0/\decide (x.tmod y<0)≠decide (y<0) then x.tmod y+y else x.tmod y
theorem lZ (x y:Int):x=y*aQ x y+bK x y:=by
 have h:y*x.tdiv y+x.tmod y=x:=by first | exact Int.mul_tdiv_add_tmod x y | (rw [Int.add_comm];exact Int.tmod_add_mul_tdiv x y)
 unfold aQ bK
 split
 ·rw [Int.mul_sub,Int.mul_one];omega
 ·omega
theorem u3_ (x y:Int) (hy:y≠0):(x.tmod y).natAbs<y.natAbs:=by
 rw [Int.natAbs_tmod];exact Nat.mod_lt _ (by omega)
theorem Z2C (x y:Int):(x.tdiv y).natAbs<=x.natAbs:=by
 rw [Int.natAbs_tdiv];exact Nat.div_le_self _ _
theorem jn (x y:Int) (hy:0<y):0<=bK x y/\bK x y<y:=by
 have h:=u3_ x y (by omega);unfold bK;by_cases h0:x.tmod y=0;·rw [if_neg (by simp [h0])];omega
 ·by_cases h1:x.tmod y<0;·rw [if_pos ⟨h0,by rw [oH h1,oG (show ¬ y<0 by omega)];simp⟩];omega
  ·rw [if_neg (by rw [oG h1,oG (show ¬ y<0 by omega)];simp)];omega
theorem m_ (x y:Int) (hy:y<0):y<bK x y/\bK x y<=0:=by
 have h:=u3_ x y (by omega);unfold bK;by_cases h0:x.tmod y=0;·rw [if_neg (by simp [h0])];omega
 ·by_cases h1:x.tmod y<0;·rw [if_neg (by rw [oH h1,oH hy];simp)];omega
  ·rw [if_pos ⟨h0,by rw [oG h1,oH hy];simp⟩];omega
theorem mz (x y:Int):(aQ x y).natAbs<=x.natAbs+1:=by
 have:=Z2C x y;unfold aQ;split <;> omega
theorem S9_ (u v:Nat):(u:Int).tdiv (v:Int)=((u / v:Nat):Int):=by
 rw [Int.tdiv_eq_ediv_of_nonneg (by omega)];exact (Int.natCast_ediv _ _).symm
theorem R1_ (u v:Nat):(u:Int).tmod (v:Int)=((u%v:Nat):Int):=by
 rw [Int.tmod_eq_emod_of_nonneg (by omega)];exact (Int.natCast_emod _ _).symm
def sgn (b:Bool) (u:Nat):Int:=if b then -(u:Int) else u
theorem na (n:Int):sgn (decide (n<0)) n.natAbs=n:=by
 unfold sgn;by_cases h:n<0;·rw [oH h,if_pos rfl];omega
 ·rw [oG h,if_neg Bool.false_ne_true];omega
theorem nZ (u:Nat):sgn false u=u:=rfl
theorem nc (u:Nat):sgn true u=-(u:Int):=rfl
theorem Z4p {p:Bool} {x:Int} (h:p=decide (x<0)):x=sgn p x.natAbs:=by rw [h,na]
theorem Z5x (x y:Int) (hy:y≠0) {p q:Bool} (hp:p=decide (x<0)) (hq:q=decide (y<0)) :
  aQ x y=sgn (p != q) (if (p != q)=true/\x.natAbs%y.natAbs≠0 then x.natAbs / y.natAbs+1 else x.natAbs / y.natAbs) /\
  bK x y=sgn q (if (p != q)=true/\x.natAbs%y.natAbs≠0 then y.natAbs-x.natAbs%y.natAbs else x.natAbs%y.natAbs):=by
 have ex:=Z4p hp;have ey:=Z4p hq;have hv:0<y.natAbs:=by omega
 have wh:y<0↔q=true:=by rw [hq];simp
 generalize x.natAbs=u at *
 generalize y.natAbs=v at *
 have hr:=Nat.mod_lt u hv;unfold aQ bK;have Jd:decide (y<0)=q:=hq.symm;rw [Jd];cases p <;> cases q
 all_goals
  simp only [nZ,nc] at ex ey;subst ex;subst ey
 ·rw [S9_,R1_];generalize u%v=R at *
  generalize u / v=Q at *
  have h1:decide ((R:Int)<0)=false:=oG (by omega);simp [h1,sgn]
 ·rw [Int.tdiv_neg,Int.tmod_neg,S9_,R1_];generalize u%v=R at *
  generalize u / v=Q at *
  have h1:decide ((R:Int)<0)=false:=oG (by omega);rw [h1];by_cases h0:R=0;·simp [h0,sgn]
  ·simp [h0,sgn];omega
 ·rw [Int.neg_tdiv,Int.neg_tmod,S9_,R1_];generalize u%v=R at *
  generalize u / v=Q at *
  by_cases h0:R=0;·simp [h0,sgn]
  ·have h1:decide (-(R:Int)<0)=true:=oH (by omega);rw [h1];simp [h0,sgn];omega
 ·rw [Int.neg_tdiv,Int.neg_tmod,Int.tdiv_neg,Int.tmod_neg,S9_,R1_];generalize u%v=R at *
  generalize u / v=Q at *
  by_cases h0:R=0;·simp [h0,sgn]
  ·have h1:decide (-(R:Int)<0)=true:=oH (by omega);rw [h1];simp [h0,sgn]
def Sm (n:Int):Prop:=-100000000000000000<n/\n<100000000000000000
theorem Sm.of {n:Int} {b:Int} (h1:-b<=n) (h2:n<=b) (hb:b<100000000000000000):Sm n:=⟨by omega,by omega⟩
theorem Z5H:(10:Nat)^17=100000000000000000:=by decide
theorem S4_ (n:Int):1<=(aB n).size:=by
 rw [Lib.size_eq,S3_];exact List.length_pos_iff.2 (nG n).2.2.2
theorem kT (n:Int) (h:n<0):(aB n).size=(aE n.natAbs).size+1:=by
 rw [Lib.size_eq,M7_ n h,Lib.size_eq];rfl
theorem Sm.size {n:Int} (h:Sm n):(aB n).size<=18:=by
 by_cases h0:n<0
 ·rw [kT n h0];have:=lr n.natAbs 17 (by rw [Z5H];have:=h.1;omega) (by omega);omega
 ·rw [fX n (by omega)];have:=lr n.toNat 17 (by rw [Z5H];have:=h.2;omega) (by omega);omega
theorem e3_ (n:Int) (h:n<0) (hp:0<(aB n).size):(((aB n)[0].toNat:Int) == 45)=true:=by
 have hb:=T5_ (aB n) 0 hp;rw [M7_ n h] at hb;simp only [oE,Option.some.injEq] at hb;rw [<- hb];rfl
theorem g3_ (s:ByteArray) (u:Nat) (hs:s=aE u) (hp:0<s.size):((s[0].toNat:Int) == 45)=false:=by
 subst hs;have hb:=T5_ (aE u) 0 hp;rw [jT] at hb;have hd:=List.all_eq_true.1 (lV u) _ (nw hb);have hc:48<=(aE u)[0].toNat/\(aE u)[0].toNat<=57:=of_decide_eq_true hd;rw [beq_eq_false_iff_ne];omega
theorem Z3I (n:Int) (h:n<0):(aB n).extract 1 (aB n).size=aE n.natAbs:=by
 apply Z0M;rw [Lib.extract_data,M7_ n h,List.drop_succ_cons,List.drop_zero];refine List.take_of_length_le ?_;have:=kT n h;rw [<- Lib.size_eq];omega
theorem jN (n:Int):((aB n).toList == [48])=decide (n=0):=by
 rw [I2_,show ([48]:List UInt8)=Lib.itoa 0 by unfold Lib.itoa;rw [if_neg (by omega),Lib.decDigits_one (by decide)];rfl,Z1y]
theorem u0_ (n:Int) (w:World) :
  Calls prog 153 #[.string (aB n)] w fun e w'=>e=.returned (.tuple #[.bool (decide (n<0)),.string (aE n.natAbs)])/\∃ k,w'=w.drewN k:=by
 have hp:=S4_ n;have qj:(0:Int)<((aB n).size:Int):=by omega
 have hp0:0<(aB n).size:=hp;by_cases h:n<0
 ·have q:=e3_ n h hp0;have t:=Z3I n h;have HD:Hid (decide (n<0)=true):=oH h;obtain ⟨m,hm⟩:=oO (aE n.natAbs);rw [<- hm] at t |-;rw [HD.out];clear h hm HD
  go_enter func153,ntmps153
  go_wp2_with fail
  go_quiet (fail)
  go_wp2_with fail;go_ret2;exact ⟨rfl,_,rfl⟩
 ·have q:=g3_ (aB n) n.toNat (fX n (by omega)) hp0;have HD:Hid (decide (n<0)=false):=oG h;have HM:Hid (aE n.natAbs=aB n):=by unfold Hid;rw [fX n (by omega)];congr 1;omega
  rw [HD.out,HM.out];clear h HD HM
  go_enter func153,ntmps153
  go_wp2_with fail;go_ret2;exact ⟨rfl,0,rfl⟩
theorem ky (n:Int) (w:World) :
  oL 153 #[.string (aB n)] w (.tuple #[.bool (decide (n<0)),.string (aE n.natAbs)]) :=
 (u0_ n w).mono fun _ _ ⟨h,k,hw⟩=>⟨h,hw▸aA.drewN _ _⟩
theorem M8_ (b:Bool) (u:Nat) (w:World) (hu:(aE u).size<=10000000000) :
  oM 161 #[.bool b,.string (aE u)] w (.string (aB (sgn b u))):=by
 have hz:=jy u;have z1:¬ 9223372036854775807<1+(aE u).size:=by omega
 cases b with
 | false =>
  have HR:Hid (aB (sgn false u)=aE u):=by unfold Hid sgn;rw [if_neg Bool.false_ne_true,fX _ (by omega)];congr 1
  rw [HR.out];clear HR hz
  go_enter func161,ntmps161
  go_wp2_with fail;go_ret;exact ⟨rfl,rfl⟩
 | true =>
  by_cases h0:u=0
  ·rw [oH h0] at hz;have HR:Hid (aB (sgn true u)=aE u):=(by unfold Hid sgn;rw [if_pos rfl,fX _ (by omega)];congr 1;omega);rw [HR.out];clear HR h0
   go_enter func161,ntmps161
   go_wp2_with fail;go_ret;exact ⟨rfl,rfl⟩
  ·rw [oG h0] at hz;have HR:Hid ((aB (sgn true u)).data=#[45]++(aE u).data):=by
    unfold Hid sgn;rw [if_pos rfl];apply Array.toList_inj.1;rw [M7_ _ (by omega)];simp
   clear h0
   go_enter func161,ntmps161
   go_wp2_with fail;go_ret;exact ⟨Z58 (by rw [HR.out];simp),rfl⟩
theorem nd (n:Int) (w:World) :
  oM 110 #[.string (aB n)] w (.int .i64 n.sign):=by
 have hp0:0<(aB n).size:=S4_ n;have hz:=jN n;by_cases h0:n=0
 ·rw [oH h0] at hz;have HR:Hid (n.sign=0):=by unfold Hid;rw [h0];rfl
  rw [HR.out];clear h0 HR
  go_enter func110,ntmps110
  go_wp2_with fail;go_ret;exact ⟨rfl,rfl⟩
 ·rw [oG h0] at hz;by_cases h:n<0
  ·have q:=e3_ n h hp0;have HR:Hid (n.sign=-1):=Int.sign_eq_neg_one_of_neg h;rw [HR.out];clear h0 h HR
   go_enter func110,ntmps110
   go_wp2_with fail;go_ret;exact ⟨rfl,rfl⟩
  ·have q:=g3_ (aB n) n.toNat (fX n (by omega)) hp0;have HR:Hid (n.sign=1):=Int.sign_eq_one_of_pos (by omega);rw [HR.out];clear h0 h HR
   go_enter func110,ntmps110
   go_wp2_with fail;go_ret;exact ⟨rfl,rfl⟩
theorem nP (n:Int) (w:World) (hs:(aB n).size<=10000000000) :
  oL 111 #[.string (aB n)] w (.string (aB (-n))):=by
 have hu:(aE n.natAbs).size<=10000000000:=by
  by_cases h:n<0;·have:=kT n h;omega
  ·rw [fX n (by omega)] at hs;rw [show n.natAbs=n.toNat by omega];exact hs
 have H1:=np (ky n w);have H2:Hid (∀ W,oM 161 #[.bool (!decide (n<0)),.string (aE n.natAbs)] W (.string (aB (sgn (!decide (n<0)) n.natAbs)))):=fun W=>M8_ (!decide (n<0)) n.natAbs W hu;have HR:Hid (aB (sgn (!decide (n<0)) n.natAbs)=aB (-n)):=by
  unfold Hid;congr 1;unfold sgn;by_cases h:n<0;·rw [oH h];simp;omega
  ·rw [oG h];simp;omega
 rw [HR.out] at H2;obtain ⟨b,hb⟩:=oO (decide (n<0));rw [<- hb] at H1 H2;clear hb HR
 go_enter func111,ntmps111
 go_wp2_with fail;refine H1.mono ?_;rintro e w1 ⟨rfl,hE1⟩;have HE1:=np hE1;clear H1 hE1;go_wp2_with fail;refine q_ (H2 _) ?_;clear H2;go_wp2_with fail;go_ret;exact ⟨rfl,HE1⟩
theorem Z4x (n:Int) (w:World) :
  Calls prog 63 #[.string (aB n)] w fun e w'=>e=.returned (.string (aB (n.natAbs:Int)))/\∃ k,w'=w.drewN k:=by
 have H1:=np (u0_ n w);have HR:Hid (aB (n.natAbs:Int)=aE n.natAbs):=by unfold Hid;rw [fX _ (by omega)];congr 1
 rw [HR.out];clear HR
 go_enter func63,ntmps63
 go_wp2_with fail;refine H1.mono ?_;rintro e w1 ⟨rfl,k,rfl⟩;clear H1;go_wp2_with fail;go_ret;exact ⟨rfl,_,rfl⟩
theorem z5_ (n:Int) (w:World) :
  oL 63 #[.string (aB n)] w (.string (aB (n.natAbs:Int))) :=
 (Z4x n w).mono fun _ _ ⟨h,k,hw⟩=>⟨h,hw▸aA.drewN _ _⟩
theorem jq (n:Int):jl (aB n).data.toList=true/\gh (aB n).data.toList=n:=by
 rw [S3_];exact ⟨(nG n).1,(nG n).2.1⟩
theorem h7_ (n:Int) (w:World) (h1:-9223372036854775808<=n) (h2:n<=9223372036854775807) (hs:(aB n).size<=10000000000) :
  oL 175 #[.string (aB n)] w (.tuple #[.int .i64 n,.nilIface]) :=
 (strconv_Atoi_ok (aB n) (by omega) n (by
  have:=T4_ (jq n).1 (by rw [(jq n).2];exact ⟨h1,h2⟩);rw [(jq n).2] at this
  exact this) w).mono fun e w' ⟨h1,h2⟩=>⟨h1,by
  rcases h2 with rfl | ⟨t,rfl⟩
  ·exact aA.refl _
  ·exact ⟨rfl,rfl,rfl,by rw [Lib.bytesWorld_size];omega,fun j hj=>Lib.bytesWorld_at_old w _ t j hj⟩⟩
theorem x7_ (n:Int) (w:World) (h1:-9223372036854775808<=n) (h2:n<=9223372036854775807) (ht:aZ w) :
  oL 146 #[.int .i64 n] w (.string (aB n)) :=
 (strconv_Itoa n h1 h2 w ht).mono fun e w' ⟨h,kk,os,hw⟩=>⟨h,by rw [hw];exact Lib.below_grow _ w (n9 _) kk os⟩
theorem fE (n:Int) (k:Nat) (w:World) (h1:-9223372036854775808<=n) (h2:n<=9223372036854775807) (hs:(aB n).size<=k) (hk:k<=1000) :
  oL 160 #[.string (aB n),.int .i64 k] w (.tuple #[.int .i64 n,.bool true]):=by
 have tZ:¬ (k:Int)<((aB n).size:Int):=by omega
 have HA:=np (h7_ n w h1 h2 (by omega))
 go_enter func160,ntmps160
 go_wp2_with fail;refine o_ HA ?_;intro w1 HE1;clear HA;go_wp2_with fail
 go_quiet (fail)
 go_wp2_with fail;go_ret2;exact ⟨rfl,aA.draws HE1 _⟩
theorem fD (n:Int) (k:Nat) (w:World) (hs:k<(aB n).size) :
  oM 160 #[.string (aB n),.int .i64 k] w (.tuple #[.int .i64 0,.bool false]):=by
 have tZ:(k:Int)<((aB n).size:Int):=by omega
 go_enter func160,ntmps160
 go_wp2_with fail;go_ret2;exact ⟨rfl,rfl⟩
theorem j0 (n:Int) (w:World) (h1:-9223372036854775808<=n) (h2:n<=9223372036854775807) (ht:aZ w) :
  oL 56 #[.int .i64 n] w (.string (aB n)):=by
 have HA:=np (x7_ n w h1 h2 ht);clear ht
 go_enter func56,ntmps56
 go_wp2_with fail;refine o_ HA ?_;intro w1 HE1;clear HA;go_wp2_with fail;go_ret;exact ⟨rfl,HE1⟩
theorem ln {a b A B:Int} (h1:-A<a) (h2:a<A) (h3:-B<b) (h4:b<B) (hA:0<=A) (hB:0<=B):-(A*B)<=a*b/\a*b<=A*B:=by
 have k1:a.natAbs<=A.natAbs:=by omega
 have k2:b.natAbs<=B.natAbs:=by omega
 have k3:(a*b).natAbs<=A.natAbs*B.natAbs:=by rw [Int.natAbs_mul];exact Nat.mul_le_mul k1 k2
 have k4:A.natAbs*B.natAbs=(A*B).natAbs:=(Int.natAbs_mul A B).symm;have k5:0<=A*B:=Int.mul_nonneg hA hB;omega
theorem dw (n:Int):(aE n.natAbs).size<=(aB n).size:=by
 by_cases h:n<0;·have:=kT n h;omega
 ·rw [fX n (by omega),show n.natAbs=n.toNat by omega];exact n9 _
theorem gB (n:Int):(aB n).size<=(aE n.natAbs).size+1:=by
 by_cases h:n<0;·rw [kT n h];exact n9 _
 ·rw [fX n (by omega),show n.natAbs=n.toNat by omega];omega
theorem kU {n:Int} (h:(aB n).size<=18):-1000000000000000000<n/\n<1000000000000000000:=by
 have:=iG (u:=n.natAbs) (by have:=dw n;omega);omega
theorem M1_ (x y:Int) (w:World) (hx:(aB x).size<=2900000000) (hy:(aB y).size<=2900000000) (ht:aZ w) :
  oL 116 #[.string (aB x),.string (aB y)] w (.string (aB (x+y))):=by
 have HT:=np ht;clear ht;by_cases hs:(aB x).size<=18/\(aB y).size<=18
 ·obtain ⟨pM,r9⟩:=kU hs.1;obtain ⟨tT,rF⟩:=kU hs.2;have H1:=np (fE x 18 w (by omega) (by omega) hs.1 (by omega));have H2:Hid (∀ W,oL 160 #[.string (aB y),.int .i64 18] W (.tuple #[.int .i64 y,.bool true])):=fun W=>fE y 18 W (by omega) (by omega) hs.2 (by omega);have H3:Hid (∀ W,aA w W->oL 56 #[.int .i64 (x+y)] W (.string (aB (x+y)))):=fun W hE=>j0 (x+y) W (by omega) (by omega) (HT.ext hE);clear hs
  go_enter func116,ntmps116
  go_wp2_with fail;refine o_ H1 ?_;intro w1 HE1;clear H1;go_wp2_with fail;refine p_ (H2 _) (aA.trans HE1) ?_;intro w2 HE2;clear H2;go_wp2_with fail;refine p_ (H3 _ HE2) (aA.trans HE2) ?_;intro w3 HE3;clear H3;go_wp2_with fail;go_ret;exact ⟨rfl,HE3⟩
 ·have hax:=dw x;have hay:=dw y;have HS1:Hid (∀ W,oL 153 #[.string (aB x)] W (.tuple #[.bool (decide (x<0)),.string (aE x.natAbs)])):=fun W=>ky x W;have HS2:Hid (∀ W,oL 153 #[.string (aB y)] W (.tuple #[.bool (decide (y<0)),.string (aE y.natAbs)])):=fun W=>ky y W;obtain ⟨u,hu⟩:=oO x.natAbs;obtain ⟨v,hv⟩:=oO y.natAbs;rw [<- hu] at HS1 hax;rw [<- hv] at HS2 hay;have HADD:Hid (∀ W,aA w W->oL 64 #[.string (aE u),.string (aE v)] W (.string (aE (u+v)))):=fun W hE=>E9_ u v W (by omega) (by omega) (HT.ext hE);have we:Hid (∀ W,oM 65 #[.string (aE u),.string (aE v)] W (.int .i64 (cW u v))):=fun W=>Z3_ u v W (by omega) (by omega);have wR:Hid (v<=u->∀ W,aA w W->oL 211 #[.string (aE u),.string (aE v)] W (.tuple #[.string (aE (u-v)),.int .i64 0])):=fun hle W hE=>R8_ u v W (by omega) (by omega) hle (HT.ext hE);have wQ:Hid (u<=v->∀ W,aA w W->oL 211 #[.string (aE v),.string (aE u)] W (.tuple #[.string (aE (v-u)),.int .i64 0])):=fun hle W hE=>R8_ v u W (by omega) (by omega) hle (HT.ext hE);have hsum:=W8_ u v;have HJ:Hid (∀ (b:Bool) (n:Nat),n<=u+v->∀ W,oM 161 #[.bool b,.string (aE n)] W (.string (aB (sgn b n)))):=fun b n hn W=>M8_ b n W (by have:=ib hn;omega);have MY:Hid (u=x.natAbs/\v=y.natAbs):=⟨hu,hv⟩;have o9:((aB x).size<=18/\18<(aB y).size)\/18<(aB x).size:=by omega
  have HX:Hid ((aB x).size<=18->-1000000000000000000<x/\x<1000000000000000000):=fun h=>kU h;obtain ⟨p,hp⟩:=oO (decide (x<0));obtain ⟨q,hq⟩:=oO (decide (y<0));rw [<- hp] at HS1;rw [<- hq] at HS2;have AQ:Hid (x=sgn p u/\y=sgn q v):=by
   unfold Hid;rw [hp,hq,hu,hv,na,na];exact ⟨rfl,rfl⟩
  clear hu hv hs hax hay hsum hp hq;rcases o9 with ⟨hs1,hs2⟩ | hs1
  case' inl =>
   have H1:=np (fE x 18 w (by have:=HX hs1;omega) (by have:=HX hs1;omega) hs1 (by omega));have H2:Hid (∀ W,oM 160 #[.string (aB y),.int .i64 18] W (.tuple #[.int .i64 0,.bool false])):=fun W=>fD y 18 W hs2;clear hs1 hs2
   go_enter func116,ntmps116
   go_wp2_with fail;refine o_ H1 ?_;intro w1 HE1;clear H1;go_wp2_with fail;refine q_ (H2 _) ?_;clear H2
  case' inr =>
   have H1:Hid (∀ W,oM 160 #[.string (aB x),.int .i64 18] W (.tuple #[.int .i64 0,.bool false])):=fun W=>fD x 18 W hs1;clear hs1
   go_enter func116,ntmps116
   go_wp2_with fail;refine q_ (H1 _) ?_;have HE1:=np (aA.refl w);clear H1
  all_goals
   go_wp2_with fail;refine p_ (HS1 _) (aA.trans HE1) ?_;intro w2 HE2;clear HS1;go_wp2_with fail;refine p_ (HS2 _) (aA.trans HE2) ?_;intro w3 HE3;clear HS2;by_cases wu:p=q
   ·have hb:(p == q)=true:=(by simp [wu]);have HR:Hid (sgn p (u+v)=x+y):=by
     unfold Hid;rw [AQ.out.1,AQ.out.2,wu];cases q <;> simp only [nZ,nc] <;> omega
    have HJ1:=np (HJ p (u+v) (n9 _));rw [HR.out] at HJ1;clear wu;go_wp2_with fail;refine p_ (HADD _ HE3) (aA.trans HE3) ?_;intro w4 HE4;go_wp2_with fail;refine q_ (HJ1 _) ?_;clear HJ1;go_wp2_with fail;go_ret;exact ⟨rfl,HE4⟩
   ·have hb:(p == q)=false:=(by simpa using wu);obtain ⟨cm,hcm⟩:=oO (cW u v);rw [<- hcm] at we;by_cases Cl:u<v
    ·have o8:cm<0:=(by rw [hcm,y5_ Cl];omega);have HR:Hid (sgn q (v-u)=x+y):=by
      unfold Hid;rw [AQ.out.1,AQ.out.2];revert wu;cases p <;> cases q <;> simp only [nZ,nc] <;> intro h <;> first | omega | exact absurd trivial h
     have HJ1:=np (HJ q (v-u) (by omega));rw [HR.out] at HJ1;have HSB:=np (wQ (by omega));clear wu hcm Cl wR wQ;go_wp2_with fail;refine q_ (we _) ?_;clear we;go_wp2_with fail;refine p_ (HSB _ HE3) (aA.trans HE3) ?_;intro w4 HE4;clear HSB;go_wp2_with fail;refine q_ (HJ1 _) ?_;clear HJ1;go_wp2_with fail;go_ret;exact ⟨rfl,HE4⟩
    ·have o8:¬ cm<0:=by rw [hcm];unfold cW;rw [if_neg Cl];split <;> omega
     have HR:Hid (sgn p (u-v)=x+y):=by
      unfold Hid;rw [AQ.out.1,AQ.out.2];revert wu;cases p <;> cases q <;> simp only [nZ,nc] <;> intro h <;> first | omega | exact absurd trivial h
     have HJ1:=np (HJ p (u-v) (by omega));rw [HR.out] at HJ1;have HSB:=np (wR (by omega));clear wu hcm Cl wR wQ;go_wp2_with fail;refine q_ (we _) ?_;clear we;go_wp2_with fail;refine p_ (HSB _ HE3) (aA.trans HE3) ?_;intro w4 HE4;clear HSB;go_wp2_with fail;refine q_ (HJ1 _) ?_;clear HJ1;go_wp2_with fail;go_ret;exact ⟨rfl,HE4⟩
theorem jv (x y:Int) (w:World) (hx:(aB x).size<=2900000000) (hy:(aB y).size<=2900000000) (ht:aZ w) :
  oL 66 #[.string (aB x),.string (aB y)] w (.string (aB (x*y))):=by
 have HT:=np ht;clear ht;by_cases hs:(aB x).size<=9/\(aB y).size<=9
 ·have hb:∀ {n:Int},(aB n).size<=9->-1000000000<n/\n<1000000000:=by
   intro n h;have h1:=dw n;have h2:n.natAbs<1000000000:=by
    have h3:=Lib.lt_pow_nDigits n.natAbs;rw [eh] at h1;have h4:10^Lib.nDigits n.natAbs<=10^9:=Nat.pow_le_pow_right (by omega) (by omega);rw [show (10:Nat)^9=1000000000 by decide] at h4;omega
   omega
  obtain ⟨pM,r9⟩:=hb hs.1;obtain ⟨tT,rF⟩:=hb hs.2;have hm:=ln pM r9 tT rF (by omega) (by omega);obtain ⟨m,hmm⟩:=oO (x*y);rw [<- hmm] at hm |-;have xQ:x*y=m:=hmm.symm;have H1:=np (fE x 9 w (by omega) (by omega) hs.1 (by omega));have H2:Hid (∀ W,oL 160 #[.string (aB y),.int .i64 9] W (.tuple #[.int .i64 y,.bool true])):=fun W=>fE y 9 W (by omega) (by omega) hs.2 (by omega);have ph:-1000000000000000000<=m:=by omega
  have qm:m<=1000000000000000000:=by omega
  have H3:Hid (∀ W,aA w W->oL 56 #[.int .i64 m] W (.string (aB m))):=fun W hE=>j0 m W (by omega) (by omega) (HT.ext hE);clear hs hb hm hmm
  go_enter func66,ntmps66
  go_wp2_with fail;refine o_ H1 ?_;intro w1 HE1;clear H1;go_wp2_with fail;refine p_ (H2 _) (aA.trans HE1) ?_;intro w2 HE2;clear H2;go_wp2_with fail;refine p_ (H3 _ HE2) (aA.trans HE2) ?_;intro w3 HE3;clear H3;go_wp2_with fail;go_ret;exact ⟨rfl,HE3⟩
 ·have hax:=dw x;have hay:=dw y;have HS1:Hid (∀ W,oL 153 #[.string (aB x)] W (.tuple #[.bool (decide (x<0)),.string (aE x.natAbs)])):=fun W=>ky x W;have HS2:Hid (∀ W,oL 153 #[.string (aB y)] W (.tuple #[.bool (decide (y<0)),.string (aE y.natAbs)])):=fun W=>ky y W;obtain ⟨u,hu⟩:=oO x.natAbs;obtain ⟨v,hv⟩:=oO y.natAbs;rw [<- hu] at HS1 hax;rw [<- hv] at HS2 hay;have tA:Hid (∀ W,aA w W->oL 162 #[.string (aE u),.string (aE v)] W (.string (aE (u*v)))):=fun W hE=>D1_ u v W (by omega) (by omega) (HT.ext hE);have hprod:=nQ u v;obtain ⟨p,hp⟩:=oO (decide (x<0));obtain ⟨q,hq⟩:=oO (decide (y<0));rw [<- hp] at HS1;rw [<- hq] at HS2;have hR:sgn (p != q) (u*v)=x*y:=by
   have e1:x=sgn p u:=(by rw [hp,hu,na]);have e2:y=sgn q v:=(by rw [hq,hv,na]);rw [e1,e2];cases p <;> cases q <;> simp [nZ,nc,Int.neg_mul,Int.mul_neg]
  have HJ:Hid (∀ W,oM 161 #[.bool (p != q),.string (aE (u*v))] W (.string (aB (x*y)))):=fun W=>by
   rw [<- hR];exact M8_ (p != q) (u*v) W (by omega)
  have o9:((aB x).size<=9/\9<(aB y).size)\/9<(aB x).size:=by omega
  have HX:Hid ((aB x).size<=9->-1000000000000000000<x/\x<1000000000000000000):=fun h=>kU (by omega);clear hu hv hs hax hay hprod hp hq hR;rcases o9 with ⟨hs1,hs2⟩ | hs1
  case' inl =>
   have H1:=np (fE x 9 w (by have:=HX hs1;omega) (by have:=HX hs1;omega) hs1 (by omega));have H2:Hid (∀ W,oM 160 #[.string (aB y),.int .i64 9] W (.tuple #[.int .i64 0,.bool false])):=fun W=>fD y 9 W hs2;clear hs1 hs2
   go_enter func66,ntmps66
   go_wp2_with fail;refine o_ H1 ?_;intro w1 HE1;clear H1;go_wp2_with fail;refine q_ (H2 _) ?_;clear H2
  case' inr =>
   have H1:Hid (∀ W,oM 160 #[.string (aB x),.int .i64 9] W (.tuple #[.int .i64 0,.bool false])):=fun W=>fD x 9 W hs1;clear hs1
   go_enter func66,ntmps66
   go_wp2_with fail;refine q_ (H1 _) ?_;have HE1:=np (aA.refl w);clear H1
  all_goals
   go_wp2_with fail;refine p_ (HS1 _) (aA.trans HE1) ?_;intro w2 HE2;clear HS1;go_wp2_with fail;refine p_ (HS2 _) (aA.trans HE2) ?_;intro w3 HE3;clear HS2;go_wp2_with fail;refine p_ (tA _ HE3) (aA.trans HE3) ?_;intro w4 HE4;go_wp2_with fail;refine q_ (HJ _) ?_;clear HJ;go_wp2_with fail;go_ret;exact ⟨rfl,HE4⟩
theorem Z30 (x y:Int) (w:World) (hx:(aB x).size<=18) (hy:(aB y).size<=18) (h0:y≠0) (ht:aZ w) :
  oL 112 #[.string (aB x),.string (aB y)] w (.tuple #[.string (aB (aQ x y)),.string (aB (bK x y)),.int .i64 0]):=by
 have HT:=np ht;have hz:=jN y;rw [oG h0] at hz;obtain ⟨pM,r9⟩:=kU hx;obtain ⟨tT,rF⟩:=kU hy;have H1:=np (fE x 18 w (by omega) (by omega) hx (by omega));have H2:Hid (∀ W,oL 160 #[.string (aB y),.int .i64 18] W (.tuple #[.int .i64 y,.bool true])):=fun W=>fE y 18 W (by omega) (by omega) hy (by omega);have hrl:=u3_ x y h0;have hql:=Z2C x y;have vF:(aQ x y).natAbs<=1000000000000000001:=by have:=mz x y;omega
 have pv:(bK x y).natAbs<=1000000000000000001:=by
  rcases Int.lt_trichotomy y 0 with h | h | h;·have:=m_ x y h;omega
  ·exact absurd h h0
  ·have:=jn x y h;omega
 have H3:Hid (∀ W,aA w W->oL 56 #[.int .i64 (aQ x y)] W (.string (aB (aQ x y)))):=fun W hE=>j0 _ W (by omega) (by omega) (HT.ext hE);have H4:Hid (∀ W,aA w W->oL 56 #[.int .i64 (bK x y)] W (.string (aB (bK x y)))):=fun W hE=>j0 _ W (by omega) (by omega) (HT.ext hE);have hyb:(y == 0)=false:=beq_eq_false_iff_ne.2 h0;have r8:Hid (aQ x y=if x.tmod y≠0/\decide (x.tmod y<0)≠decide (y<0) then x.tdiv y-1 else x.tdiv y):=rfl;have HFR:Hid (bK x y=if x.tmod y≠0/\decide (x.tmod y<0)≠decide (y<0) then x.tmod y+y else x.tmod y):=rfl;obtain ⟨fq,IF⟩:=oO (aQ x y);obtain ⟨fr,C2⟩:=oO (bK x y);rw [<- IF] at H3 r8 vF |-;rw [<- C2] at H4 HFR pv |-;obtain ⟨q,hq⟩:=oN (x.tdiv y);obtain ⟨r,hr⟩:=oN (x.tmod y);rw [hq] at r8 hql;rw [hr] at HFR r8 hrl;have e1:IntKind.i64.wrap q=q:=IntWalk.i64_in _ (by omega);have qH:¬ y=0:=h0;clear ht IF C2 h0;by_cases c0:r=0
 ·have k0:(r != 0)=false:=by simp [c0]
  rw [if_neg (by simp [c0])] at r8 HFR;rw [r8.out] at H3 |-;rw [HFR.out] at H4 |-;clear r8 HFR c0
  go_enter func112,ntmps112
  go_wp2_with fail;refine o_ H1 ?_;intro w1 HE1;clear H1;go_wp2_with fail;refine p_ (H2 _) (aA.trans HE1) ?_;intro w2 HE2;clear H2;go_wp2_with fail
  go_quiet (fail)
  go_wp2_with fail;refine p_ (H3 _ (aA.draws HE2 _)) (aA.trans (aA.draws HE2 _)) ?_;intro w3 HE3;clear H3;go_wp2_with fail;refine p_ (H4 _ HE3) (aA.trans HE3) ?_;intro w4 HE4;clear H4;go_wp2_with fail;go_ret3;exact ⟨rfl,HE4⟩
 ·have k0:(r != 0)=true:=by simpa using c0
  by_cases c1:r<0
  ·by_cases c2:y<0
   ·have k5:decide (r<0)=true:=oH c1;have k6:decide (y<0)=true:=oH c2;have k7:(!decide (r<0))=false:=(by rw [k5];rfl);have k8:(!decide (y<0))=false:=(by rw [k6];rfl);rw [if_neg (by rw [oH c1,oH c2];simp)] at r8 HFR;rw [r8.out] at H3 |-;rw [HFR.out] at H4 |-;clear r8 HFR c0
    go_enter func112,ntmps112
    go_wp2_with fail;refine o_ H1 ?_;intro w1 HE1;clear H1;go_wp2_with fail;refine p_ (H2 _) (aA.trans HE1) ?_;intro w2 HE2;clear H2;go_wp2_with fail
    go_quiet (fail)
    go_wp2_with fail;refine p_ (H3 _ (aA.draws HE2 _)) (aA.trans (aA.draws HE2 _)) ?_;intro w3 HE3;clear H3;go_wp2_with fail;refine p_ (H4 _ HE3) (aA.trans HE3) ?_;intro w4 HE4;clear H4;go_wp2_with fail;go_ret3;exact ⟨rfl,HE4⟩
   ·have k5:decide (r<0)=true:=oH c1;have k6:decide (y<0)=false:=oG c2;have k7:(!decide (r<0))=false:=(by rw [k5];rfl);have k8:(!decide (y<0))=true:=(by rw [k6];rfl);rw [if_pos ⟨c0,by rw [oH c1,oG c2];simp⟩] at r8 HFR;rw [r8.out] at H3 |- vF;rw [HFR.out] at H4 |- pv;clear r8 HFR c0
    go_enter func112,ntmps112
    go_wp2_with fail;refine o_ H1 ?_;intro w1 HE1;clear H1;go_wp2_with fail;refine p_ (H2 _) (aA.trans HE1) ?_;intro w2 HE2;clear H2;go_wp2_with fail
    go_quiet (fail)
    go_wp2_with fail;refine p_ (H3 _ (aA.draws HE2 _)) (aA.trans (aA.draws HE2 _)) ?_;intro w3 HE3;clear H3;go_wp2_with fail;refine p_ (H4 _ HE3) (aA.trans HE3) ?_;intro w4 HE4;clear H4;go_wp2_with fail;go_ret3;exact ⟨rfl,HE4⟩
  ·by_cases c2:y<0
   ·have k5:decide (r<0)=false:=oG c1;have k6:decide (y<0)=true:=oH c2;have k7:(!decide (r<0))=true:=(by rw [k5];rfl);have k8:(!decide (y<0))=false:=(by rw [k6];rfl);rw [if_pos ⟨c0,by rw [oG c1,oH c2];simp⟩] at r8 HFR;rw [r8.out] at H3 |- vF;rw [HFR.out] at H4 |- pv;clear r8 HFR c0
    go_enter func112,ntmps112
    go_wp2_with fail;refine o_ H1 ?_;intro w1 HE1;clear H1;go_wp2_with fail;refine p_ (H2 _) (aA.trans HE1) ?_;intro w2 HE2;clear H2;go_wp2_with fail
    go_quiet (fail)
    go_wp2_with fail;refine p_ (H3 _ (aA.draws HE2 _)) (aA.trans (aA.draws HE2 _)) ?_;intro w3 HE3;clear H3;go_wp2_with fail;refine p_ (H4 _ HE3) (aA.trans HE3) ?_;intro w4 HE4;clear H4;go_wp2_with fail;go_ret3;exact ⟨rfl,HE4⟩
   ·have k5:decide (r<0)=false:=oG c1;have k6:decide (y<0)=false:=oG c2;have k7:(!decide (r<0))=true:=(by rw [k5];rfl);have k8:(!decide (y<0))=true:=(by rw [k6];rfl);rw [if_neg (by rw [oG c1,oG c2];simp)] at r8 HFR;rw [r8.out] at H3 |-;rw [HFR.out] at H4 |-;clear r8 HFR c0
    go_enter func112,ntmps112
    go_wp2_with fail;refine o_ H1 ?_;intro w1 HE1;clear H1;go_wp2_with fail;refine p_ (H2 _) (aA.trans HE1) ?_;intro w2 HE2;clear H2;go_wp2_with fail
    go_quiet (fail)
    go_wp2_with fail;refine p_ (H3 _ (aA.draws HE2 _)) (aA.trans (aA.draws HE2 _)) ?_;intro w3 HE3;clear H3;go_wp2_with fail;refine p_ (H4 _ HE3) (aA.trans HE3) ?_;intro w4 HE4;clear H4;go_wp2_with fail;go_ret3;exact ⟨rfl,HE4⟩
theorem U8_ (x y:Int) (w:World) (hx:(aB x).size<=2800000000) (hy:(aB y).size<=2800000000) (h0:y≠0) (ht:aZ w) :
  oL 112 #[.string (aB x),.string (aB y)] w (.tuple #[.string (aB (aQ x y)),.string (aB (bK x y)),.int .i64 0]):=by
 by_cases hs:(aB x).size<=18/\(aB y).size<=18;·exact Z30 x y w hs.1 hs.2 h0 ht
 have HT:=np ht;clear ht;have hz:=jN y;rw [oG h0] at hz;have hax:=dw x;have hay:=dw y;have HS1:Hid (∀ W,oL 153 #[.string (aB x)] W (.tuple #[.bool (decide (x<0)),.string (aE x.natAbs)])):=fun W=>ky x W;have HS2:Hid (∀ W,oL 153 #[.string (aB y)] W (.tuple #[.bool (decide (y<0)),.string (aE y.natAbs)])):=fun W=>ky y W;obtain ⟨p,hp⟩:=oO (decide (x<0));obtain ⟨q,hq⟩:=oO (decide (y<0));have hfd:=Z5x x y h0 hp hq;rw [<- hp] at HS1;rw [<- hq] at HS2;have tX:y.natAbs≠0:=by omega
 obtain ⟨u,hu⟩:=oO x.natAbs;obtain ⟨v,hv⟩:=oO y.natAbs;rw [<- hu] at HS1 hax hfd;rw [<- hv] at HS2 hay hfd tX;have pn:Hid (∀ W,aA w W->oL 210 #[.string (aE u),.string (aE v)] W (.tuple #[.string (aE (u / v)),.string (aE (u%v)),.int .i64 0])):=fun W hE=>Y9_ u v W (by omega) (by omega) tX (HT.ext hE);have vE:(aE (u / v)).size<=2800000000:=n8 (ib (Nat.div_le_self _ _)) (by omega);have D4:u%v<v:=Nat.mod_lt _ (by omega);have xM:(aE (u%v)).size<=2800000000:=n8 (ib (Nat.le_of_lt D4)) (by omega);have o4:(aE 1).size<=2800000000:=by
  have:=Lib.nDigits_small (show 1<10 by omega);rw [eh,this];omega
 have Im:aE 1=⟨#[49]⟩:=by unfold aE;rw [Lib.decDigits_one (by omega)];rfl
 have hq1s:=W8_ (u / v) 1;have zW:∀ W,aA w W->Calls prog 64 #[.string (aE (u / v)),.string (aE 1)] W fun e w'=>e=.returned (.string (aE (u / v+1)))/\aA W w':=fun W hE=>E9_ (u / v) 1 W (by omega) (by omega) (HT.ext hE);rw [Im] at zW;have HADD:=np zW;have pC:Hid (∀ W,aA w W->oL 211 #[.string (aE v),.string (aE (u%v))] W (.tuple #[.string (aE (v-u%v)),.int .i64 0])):=fun W hE=>R8_ v (u%v) W (by omega) (by omega) (Nat.le_of_lt D4) (HT.ext hE);have rn:(aE (v-u%v)).size<=2800000000:=n8 (ib (Nat.sub_le _ _)) (by omega);have HJ:Hid (∀ (b:Bool) (n:Nat),(aE n).size<=10000000000->∀ W,oM 161 #[.bool b,.string (aE n)] W (.string (aB (sgn b n)))):=fun b n hn W=>M8_ b n W hn;have hrz:=jy (u%v);obtain ⟨Q,hQ⟩:=oO (u / v);obtain ⟨R,hR⟩:=oO (u%v);rw [<- hQ] at hfd pn vE hq1s HADD;rw [<- hR] at hfd pn xM pC rn hrz;have o9:((aB x).size<=18/\18<(aB y).size)\/18<(aB x).size:=by omega
 have HX:Hid ((aB x).size<=18->-1000000000000000000<x/\x<1000000000000000000):=fun h=>kU h;obtain ⟨F1,Is⟩:=oO (aQ x y);obtain ⟨F2,wJ⟩:=oO (bK x y);rw [<- Is,<- wJ] at hfd |-;have HFD:=np hfd;have HSZ:Hid ((aE Q).size<=10000000000/\(aE (Q+1)).size<=10000000000/\(aE R).size<=10000000000/\(aE (v-R)).size<=10000000000):=⟨by omega,by omega,by omega,by omega⟩;clear hu hv hs hax hay hp hq hfd tX vE D4 xM o4 Im hq1s zW rn hQ hR Is wJ;rcases p with _ | _ <;> rcases q with _ | _
 ·have hf:=HFD.out;rw [if_neg (by simp),if_neg (by simp)] at hf;have HJ1:=np (HJ false Q HSZ.1);have HJ2:=np (HJ false R HSZ.2.2.1);rw [show sgn false Q=F1 from hf.1.symm] at HJ1;rw [show sgn false R=F2 from hf.2.symm] at HJ2;clear hf HFD hrz;rcases o9 with ⟨hs1,hs2⟩ | hs1
  ·have H1:=np (fE x 18 w (by have:=HX hs1;omega) (by have:=HX hs1;omega) hs1 (by omega));have H2:Hid (∀ W,oM 160 #[.string (aB y),.int .i64 18] W (.tuple #[.int .i64 0,.bool false])):=fun W=>fD y 18 W hs2;clear hs1 hs2
   go_enter func112,ntmps112
   go_wp2_with fail;refine o_ H1 ?_;intro w1 HE1;clear H1;go_wp2_with fail;refine q_ (H2 _) ?_;clear H2;go_wp2_with fail;refine p_ (HS1 _) (aA.trans HE1) ?_;intro w2 HE2;clear HS1;go_wp2_with fail;refine p_ (HS2 _) (aA.trans HE2) ?_;intro w3 HE3;clear HS2;go_wp2_with fail;refine p_ (pn _ HE3) (aA.trans HE3) ?_;intro w4 HE4;clear pn;go_wp2_with fail;refine q_ (HJ1 _) ?_;clear HJ1;go_wp2_with fail;refine q_ (HJ2 _) ?_;clear HJ2;go_wp2_with fail;go_ret3;exact ⟨rfl,HE4⟩
  ·have H1:Hid (∀ W,oM 160 #[.string (aB x),.int .i64 18] W (.tuple #[.int .i64 0,.bool false])):=fun W=>fD x 18 W hs1;clear hs1
   go_enter func112,ntmps112
   go_wp2_with fail;refine q_ (H1 _) ?_;have HE1:=np (aA.refl w);clear H1;go_wp2_with fail;refine p_ (HS1 _) (aA.trans HE1) ?_;intro w2 HE2;clear HS1;go_wp2_with fail;refine p_ (HS2 _) (aA.trans HE2) ?_;intro w3 HE3;clear HS2;go_wp2_with fail;refine p_ (pn _ HE3) (aA.trans HE3) ?_;intro w4 HE4;clear pn;go_wp2_with fail;refine q_ (HJ1 _) ?_;clear HJ1;go_wp2_with fail;refine q_ (HJ2 _) ?_;clear HJ2;go_wp2_with fail;go_ret3;exact ⟨rfl,HE4⟩
 ·by_cases sP:R=0
  ·have hf:=HFD.out;rw [if_neg (by simp [sP]),if_neg (by simp [sP])] at hf;have HJ1:=np (HJ true Q HSZ.1);have HJ2:=np (HJ true R HSZ.2.2.1);rw [show sgn true Q=F1 from hf.1.symm] at HJ1;rw [show sgn true R=F2 from hf.2.symm] at HJ2;rw [oH sP] at hrz;clear hf HFD sP;rcases o9 with ⟨hs1,hs2⟩ | hs1
   ·have H1:=np (fE x 18 w (by have:=HX hs1;omega) (by have:=HX hs1;omega) hs1 (by omega));have H2:Hid (∀ W,oM 160 #[.string (aB y),.int .i64 18] W (.tuple #[.int .i64 0,.bool false])):=fun W=>fD y 18 W hs2;clear hs1 hs2
    go_enter func112,ntmps112
    go_wp2_with fail;refine o_ H1 ?_;intro w1 HE1;clear H1;go_wp2_with fail;refine q_ (H2 _) ?_;clear H2;go_wp2_with fail;refine p_ (HS1 _) (aA.trans HE1) ?_;intro w2 HE2;clear HS1;go_wp2_with fail;refine p_ (HS2 _) (aA.trans HE2) ?_;intro w3 HE3;clear HS2;go_wp2_with fail;refine p_ (pn _ HE3) (aA.trans HE3) ?_;intro w4 HE4;clear pn;go_wp2_with fail;refine q_ (HJ1 _) ?_;clear HJ1;go_wp2_with fail;refine q_ (HJ2 _) ?_;clear HJ2;go_wp2_with fail;go_ret3;exact ⟨rfl,HE4⟩
   ·have H1:Hid (∀ W,oM 160 #[.string (aB x),.int .i64 18] W (.tuple #[.int .i64 0,.bool false])):=fun W=>fD x 18 W hs1;clear hs1
    go_enter func112,ntmps112
    go_wp2_with fail;refine q_ (H1 _) ?_;have HE1:=np (aA.refl w);clear H1;go_wp2_with fail;refine p_ (HS1 _) (aA.trans HE1) ?_;intro w2 HE2;clear HS1;go_wp2_with fail;refine p_ (HS2 _) (aA.trans HE2) ?_;intro w3 HE3;clear HS2;go_wp2_with fail;refine p_ (pn _ HE3) (aA.trans HE3) ?_;intro w4 HE4;clear pn;go_wp2_with fail;refine q_ (HJ1 _) ?_;clear HJ1;go_wp2_with fail;refine q_ (HJ2 _) ?_;clear HJ2;go_wp2_with fail;go_ret3;exact ⟨rfl,HE4⟩
  ·have hf:=HFD.out;rw [if_pos ⟨rfl,sP⟩,if_pos ⟨rfl,sP⟩] at hf;have HJ1:=np (HJ true (Q+1) HSZ.2.1);have HJ2:=np (HJ true (v-R) HSZ.2.2.2);rw [show sgn true (Q+1)=F1 from hf.1.symm] at HJ1;rw [show sgn true (v-R)=F2 from hf.2.symm] at HJ2;rw [oG sP] at hrz;clear hf HFD sP;rcases o9 with ⟨hs1,hs2⟩ | hs1
   ·have H1:=np (fE x 18 w (by have:=HX hs1;omega) (by have:=HX hs1;omega) hs1 (by omega));have H2:Hid (∀ W,oM 160 #[.string (aB y),.int .i64 18] W (.tuple #[.int .i64 0,.bool false])):=fun W=>fD y 18 W hs2;clear hs1 hs2
    go_enter func112,ntmps112
    go_wp2_with fail;refine o_ H1 ?_;intro w1 HE1;clear H1;go_wp2_with fail;refine q_ (H2 _) ?_;clear H2;go_wp2_with fail;refine p_ (HS1 _) (aA.trans HE1) ?_;intro w2 HE2;clear HS1;go_wp2_with fail;refine p_ (HS2 _) (aA.trans HE2) ?_;intro w3 HE3;clear HS2;go_wp2_with fail;refine p_ (pn _ HE3) (aA.trans HE3) ?_;intro w4 HE4;clear pn;go_wp2_with fail;refine p_ (HADD _ HE4) (aA.trans HE4) ?_;intro w5 HE5;clear HADD;go_wp2_with fail;refine p_ (pC _ HE5) (aA.trans HE5) ?_;intro w6 HE6;clear pC;go_wp2_with fail;refine q_ (HJ1 _) ?_;clear HJ1;go_wp2_with fail;refine q_ (HJ2 _) ?_;clear HJ2;go_wp2_with fail;go_ret3;exact ⟨rfl,HE6⟩
   ·have H1:Hid (∀ W,oM 160 #[.string (aB x),.int .i64 18] W (.tuple #[.int .i64 0,.bool false])):=fun W=>fD x 18 W hs1;clear hs1
    go_enter func112,ntmps112
    go_wp2_with fail;refine q_ (H1 _) ?_;have HE1:=np (aA.refl w);clear H1;go_wp2_with fail;refine p_ (HS1 _) (aA.trans HE1) ?_;intro w2 HE2;clear HS1;go_wp2_with fail;refine p_ (HS2 _) (aA.trans HE2) ?_;intro w3 HE3;clear HS2;go_wp2_with fail;refine p_ (pn _ HE3) (aA.trans HE3) ?_;intro w4 HE4;clear pn;go_wp2_with fail;refine p_ (HADD _ HE4) (aA.trans HE4) ?_;intro w5 HE5;clear HADD;go_wp2_with fail;refine p_ (pC _ HE5) (aA.trans HE5) ?_;intro w6 HE6;clear pC;go_wp2_with fail;refine q_ (HJ1 _) ?_;clear HJ1;go_wp2_with fail;refine q_ (HJ2 _) ?_;clear HJ2;go_wp2_with fail;go_ret3;exact ⟨rfl,HE6⟩
 ·by_cases sP:R=0
  ·have hf:=HFD.out;rw [if_neg (by simp [sP]),if_neg (by simp [sP])] at hf;have HJ1:=np (HJ true Q HSZ.1);have HJ2:=np (HJ false R HSZ.2.2.1);rw [show sgn true Q=F1 from hf.1.symm] at HJ1;rw [show sgn false R=F2 from hf.2.symm] at HJ2;rw [oH sP] at hrz;clear hf HFD sP;rcases o9 with ⟨hs1,hs2⟩ | hs1
   ·have H1:=np (fE x 18 w (by have:=HX hs1;omega) (by have:=HX hs1;omega) hs1 (by omega));have H2:Hid (∀ W,oM 160 #[.string (aB y),.int .i64 18] W (.tuple #[.int .i64 0,.bool false])):=fun W=>fD y 18 W hs2;clear hs1 hs2
    go_enter func112,ntmps112
    go_wp2_with fail;refine o_ H1 ?_;intro w1 HE1;clear H1;go_wp2_with fail;refine q_ (H2 _) ?_;clear H2;go_wp2_with fail;refine p_ (HS1 _) (aA.trans HE1) ?_;intro w2 HE2;clear HS1;go_wp2_with fail;refine p_ (HS2 _) (aA.trans HE2) ?_;intro w3 HE3;clear HS2;go_wp2_with fail;refine p_ (pn _ HE3) (aA.trans HE3) ?_;intro w4 HE4;clear pn;go_wp2_with fail;refine q_ (HJ1 _) ?_;clear HJ1;go_wp2_with fail;refine q_ (HJ2 _) ?_;clear HJ2;go_wp2_with fail;go_ret3;exact ⟨rfl,HE4⟩
   ·have H1:Hid (∀ W,oM 160 #[.string (aB x),.int .i64 18] W (.tuple #[.int .i64 0,.bool false])):=fun W=>fD x 18 W hs1;clear hs1
    go_enter func112,ntmps112
    go_wp2_with fail;refine q_ (H1 _) ?_;have HE1:=np (aA.refl w);clear H1;go_wp2_with fail;refine p_ (HS1 _) (aA.trans HE1) ?_;intro w2 HE2;clear HS1;go_wp2_with fail;refine p_ (HS2 _) (aA.trans HE2) ?_;intro w3 HE3;clear HS2;go_wp2_with fail;refine p_ (pn _ HE3) (aA.trans HE3) ?_;intro w4 HE4;clear pn;go_wp2_with fail;refine q_ (HJ1 _) ?_;clear HJ1;go_wp2_with fail;refine q_ (HJ2 _) ?_;clear HJ2;go_wp2_with fail;go_ret3;exact ⟨rfl,HE4⟩
  ·have hf:=HFD.out;rw [if_pos ⟨rfl,sP⟩,if_pos ⟨rfl,sP⟩] at hf;have HJ1:=np (HJ true (Q+1) HSZ.2.1);have HJ2:=np (HJ false (v-R) HSZ.2.2.2);rw [show sgn true (Q+1)=F1 from hf.1.symm] at HJ1;rw [show sgn false (v-R)=F2 from hf.2.symm] at HJ2;rw [oG sP] at hrz;clear hf HFD sP;rcases o9 with ⟨hs1,hs2⟩ | hs1
   ·have H1:=np (fE x 18 w (by have:=HX hs1;omega) (by have:=HX hs1;omega) hs1 (by omega));have H2:Hid (∀ W,oM 160 #[.string (aB y),.int .i64 18] W (.tuple #[.int .i64 0,.bool false])):=fun W=>fD y 18 W hs2;clear hs1 hs2
    go_enter func112,ntmps112
    go_wp2_with fail;refine o_ H1 ?_;intro w1 HE1;clear H1;go_wp2_with fail;refine q_ (H2 _) ?_;clear H2;go_wp2_with fail;refine p_ (HS1 _) (aA.trans HE1) ?_;intro w2 HE2;clear HS1;go_wp2_with fail;refine p_ (HS2 _) (aA.trans HE2) ?_;intro w3 HE3;clear HS2;go_wp2_with fail;refine p_ (pn _ HE3) (aA.trans HE3) ?_;intro w4 HE4;clear pn;go_wp2_with fail;refine p_ (HADD _ HE4) (aA.trans HE4) ?_;intro w5 HE5;clear HADD;go_wp2_with fail;refine p_ (pC _ HE5) (aA.trans HE5) ?_;intro w6 HE6;clear pC;go_wp2_with fail;refine q_ (HJ1 _) ?_;clear HJ1;go_wp2_with fail;refine q_ (HJ2 _) ?_;clear HJ2;go_wp2_with fail;go_ret3;exact ⟨rfl,HE6⟩
   ·have H1:Hid (∀ W,oM 160 #[.string (aB x),.int .i64 18] W (.tuple #[.int .i64 0,.bool false])):=fun W=>fD x 18 W hs1;clear hs1
    go_enter func112,ntmps112
    go_wp2_with fail;refine q_ (H1 _) ?_;have HE1:=np (aA.refl w);clear H1;go_wp2_with fail;refine p_ (HS1 _) (aA.trans HE1) ?_;intro w2 HE2;clear HS1;go_wp2_with fail;refine p_ (HS2 _) (aA.trans HE2) ?_;intro w3 HE3;clear HS2;go_wp2_with fail;refine p_ (pn _ HE3) (aA.trans HE3) ?_;intro w4 HE4;clear pn;go_wp2_with fail;refine p_ (HADD _ HE4) (aA.trans HE4) ?_;intro w5 HE5;clear HADD;go_wp2_with fail;refine p_ (pC _ HE5) (aA.trans HE5) ?_;intro w6 HE6;clear pC;go_wp2_with fail;refine q_ (HJ1 _) ?_;clear HJ1;go_wp2_with fail;refine q_ (HJ2 _) ?_;clear HJ2;go_wp2_with fail;go_ret3;exact ⟨rfl,HE6⟩
 ·have hf:=HFD.out;rw [if_neg (by simp),if_neg (by simp)] at hf;have HJ1:=np (HJ false Q HSZ.1);have HJ2:=np (HJ true R HSZ.2.2.1);rw [show sgn false Q=F1 from hf.1.symm] at HJ1;rw [show sgn true R=F2 from hf.2.symm] at HJ2;clear hf HFD hrz;rcases o9 with ⟨hs1,hs2⟩ | hs1
  ·have H1:=np (fE x 18 w (by have:=HX hs1;omega) (by have:=HX hs1;omega) hs1 (by omega));have H2:Hid (∀ W,oM 160 #[.string (aB y),.int .i64 18] W (.tuple #[.int .i64 0,.bool false])):=fun W=>fD y 18 W hs2;clear hs1 hs2
   go_enter func112,ntmps112
   go_wp2_with fail;refine o_ H1 ?_;intro w1 HE1;clear H1;go_wp2_with fail;refine q_ (H2 _) ?_;clear H2;go_wp2_with fail;refine p_ (HS1 _) (aA.trans HE1) ?_;intro w2 HE2;clear HS1;go_wp2_with fail;refine p_ (HS2 _) (aA.trans HE2) ?_;intro w3 HE3;clear HS2;go_wp2_with fail;refine p_ (pn _ HE3) (aA.trans HE3) ?_;intro w4 HE4;clear pn;go_wp2_with fail;refine q_ (HJ1 _) ?_;clear HJ1;go_wp2_with fail;refine q_ (HJ2 _) ?_;clear HJ2;go_wp2_with fail;go_ret3;exact ⟨rfl,HE4⟩
  ·have H1:Hid (∀ W,oM 160 #[.string (aB x),.int .i64 18] W (.tuple #[.int .i64 0,.bool false])):=fun W=>fD x 18 W hs1;clear hs1
   go_enter func112,ntmps112
   go_wp2_with fail;refine q_ (H1 _) ?_;have HE1:=np (aA.refl w);clear H1;go_wp2_with fail;refine p_ (HS1 _) (aA.trans HE1) ?_;intro w2 HE2;clear HS1;go_wp2_with fail;refine p_ (HS2 _) (aA.trans HE2) ?_;intro w3 HE3;clear HS2;go_wp2_with fail;refine p_ (pn _ HE3) (aA.trans HE3) ?_;intro w4 HE4;clear pn;go_wp2_with fail;refine q_ (HJ1 _) ?_;clear HJ1;go_wp2_with fail;refine q_ (HJ2 _) ?_;clear HJ2;go_wp2_with fail;go_ret3;exact ⟨rfl,HE4⟩
end Go.Proofs.YtoonaddcfakamaaGreatDoor
