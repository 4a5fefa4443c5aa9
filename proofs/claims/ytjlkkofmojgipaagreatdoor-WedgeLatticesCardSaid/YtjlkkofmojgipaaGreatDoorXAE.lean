import Derived.Test.YtjlkkofmojgipaaGreatDoorXAB
import Derived.Test.YtjlkkofmojgipaaGreatDoorXAD
import Derived.WalkLawsBesides
import Derived.WalkSmall
import Derived.Test.YtjlkkofmojgipaaGreatDoorXAC
import Derived.Lib.AppendIntMem
set_option linter.unusedVariables false
set_option linter.unusedSimpArgs false
set_option maxRecDepth 1000000
set_option maxHeartbeats 4000000
namespace Go.Proofs.YtjlkkofmojgipaaGreatDoor
open Go.RowKit Go.Proofs.Tryz
def aR (x y:Int):Int:=if x.tmod y≠0/\decide (x.tmod y<0)≠decide (y<0) then x.tdiv y-1 else x.tdiv y
def bF (x y:Int):Int:=if x.tmod y≠0/\decide (x.tmod y<0)≠decide (y<0) then x.tmod y+y else x.tmod y
theorem lq (x y:Int):x=y*aR x y+bF x y:=by
 have h:y*x.tdiv y+x.tmod y=x:=by first | exact Int.mul_tdiv_add_tmod x y | (rw [Int.add_comm];exact Int.tmod_add_mul_tdiv x y)
 unfold aR bF
 split
 ·rw [Int.mul_sub,Int.mul_one];omega
 ·omega
theorem mT (x y:Int) (hy:y≠0):(x.tmod y).natAbs<y.natAbs:=by
 rw [Int.natAbs_tmod];exact Nat.mod_lt _ (by omega)
theorem v0_ (x y:Int):(x.tdiv y).natAbs<=x.natAbs:=by
 rw [Int.natAbs_tdiv];exact Nat.div_le_self _ _
theorem kG (x y:Int) (hy:0<y):0<=bF x y/\bF x y<y:=by
 have h:=mT x y (by omega);unfold bF;by_cases h0:x.tmod y=0
 ·rw [if_neg (by simp [h0])];omega
 ·by_cases h1:x.tmod y<0
  ·rw [if_pos ⟨h0,by rw [oS h1,oR (show ¬ y<0 by omega)];simp⟩];omega
  ·rw [if_neg (by rw [oR h1,oR (show ¬ y<0 by omega)];simp)];omega
theorem ly (x y:Int) (hy:y<0):y<bF x y/\bF x y<=0:=by
 have h:=mT x y (by omega);unfold bF;by_cases h0:x.tmod y=0
 ·rw [if_neg (by simp [h0])];omega
 ·by_cases h1:x.tmod y<0
  ·rw [if_neg (by rw [oS h1,oS hy];simp)];omega
  ·rw [if_pos ⟨h0,by rw [oR h1,oS hy];simp⟩];omega
theorem nH (x y:Int):(aR x y).natAbs<=x.natAbs+1:=by
 have:=v0_ x y;unfold aR;split <;> omega
theorem R5_ (u v:Nat):(u:Int).tdiv (v:Int)=((u / v:Nat):Int):=by
 rw [Int.tdiv_eq_ediv_of_nonneg (by omega)];exact (Int.natCast_ediv _ _).symm
theorem nz (u v:Nat):(u:Int).tmod (v:Int)=((u%v:Nat):Int):=by
 rw [Int.tmod_eq_emod_of_nonneg (by omega)];exact (Int.natCast_emod _ _).symm
def sgn (b:Bool) (u:Nat):Int:=if b then -(u:Int) else u
theorem nl (n:Int):sgn (decide (n<0)) n.natAbs=n:=by
 unfold sgn;by_cases h:n<0
 ·rw [oS h,if_pos rfl];omega
 ·rw [oR h,if_neg Bool.false_ne_true];omega
theorem nk (u:Nat):sgn false u=u:=rfl
theorem np (u:Nat):sgn true u=-(u:Int):=rfl
theorem Z4X {p:Bool} {x:Int} (h:p=decide (x<0)):x=sgn p x.natAbs:=by rw [h,nl]
theorem Z5T (x y:Int) (hy:y≠0) {p q:Bool} (hp:p=decide (x<0)) (hq:q=decide (y<0)) :
  aR x y=sgn (p != q) (if (p != q)=true/\x.natAbs%y.natAbs≠0 then x.natAbs / y.natAbs+1 else x.natAbs / y.natAbs) /\
  bF x y=sgn q (if (p != q)=true/\x.natAbs%y.natAbs≠0 then y.natAbs-x.natAbs%y.natAbs else x.natAbs%y.natAbs):=by
 have ex:=Z4X hp;have ey:=Z4X hq;have hv:0<y.natAbs:=by omega
 have xy:y<0↔q=true:=by rw [hq];simp
 generalize x.natAbs=u at *
 generalize y.natAbs=v at *
 have hr:=Nat.mod_lt u hv;unfold aR bF;have Ku:decide (y<0)=q:=hq.symm;rw [Ku];cases p <;> cases q
 all_goals
  simp only [nk,np] at ex ey;subst ex;subst ey
 ·rw [R5_,nz];generalize u%v=R at *
  generalize u / v=Q at *
  have h1:decide ((R:Int)<0)=false:=oR (by omega);simp [h1,sgn]
 ·rw [Int.tdiv_neg,Int.tmod_neg,R5_,nz];generalize u%v=R at *
  generalize u / v=Q at *
  have h1:decide ((R:Int)<0)=false:=oR (by omega);rw [h1];by_cases h0:R=0
  ·simp [h0,sgn]
  ·simp [h0,sgn];omega
 ·rw [Int.neg_tdiv,Int.neg_tmod,R5_,nz];generalize u%v=R at *
  generalize u / v=Q at *
  by_cases h0:R=0
  ·simp [h0,sgn]
  ·have h1:decide (-(R:Int)<0)=true:=oS (by omega);rw [h1];simp [h0,sgn];omega
 ·rw [Int.neg_tdiv,Int.neg_tmod,Int.tdiv_neg,Int.tmod_neg,R5_,nz];generalize u%v=R at *
  generalize u / v=Q at *
  by_cases h0:R=0
  ·simp [h0,sgn]
  ·have h1:decide (-(R:Int)<0)=true:=oS (by omega);rw [h1];simp [h0,sgn]
def Sm (n:Int):Prop:=-100000000000000000<n/\n<100000000000000000
theorem Sm.of {n:Int} {b:Int} (h1:-b<=n) (h2:n<=b) (hb:b<100000000000000000):Sm n:=⟨by omega,by omega⟩
theorem Z63:(10:Nat)^17=100000000000000000:=by decide
theorem lD (n:Int):1<=(aD n).size:=by
 rw [Lib.size_eq,S2_];exact List.length_pos_iff.2 (lF n).2.2.2
theorem jq (n:Int) (h:n<0):(aD n).size=(aE n.natAbs).size+1:=by
 rw [Lib.size_eq,lC n h,Lib.size_eq];rfl
theorem Sm.size {n:Int} (h:Sm n):(aD n).size<=18:=by
 by_cases h0:n<0
 ·rw [jq n h0];have:=ix n.natAbs 17 (by rw [Z63];have:=h.1;omega) (by omega);omega
 ·rw [dC n (by omega)];have:=ix n.toNat 17 (by rw [Z63];have:=h.2;omega) (by omega);omega
theorem nR (n:Int) (h:n<0) (hp:0<(aD n).size):(((aD n)[0].toNat:Int) == 45)=true:=by
 have hb:=kt (aD n) 0 hp;rw [lC n h] at hb;simp only [oP,Option.some.injEq] at hb;rw [<- hb];rfl
theorem nE (s:ByteArray) (u:Nat) (hs:s=aE u) (hp:0<s.size):((s[0].toNat:Int) == 45)=false:=by
 subst hs;have hb:=kt (aE u) 0 hp;rw [ep] at hb;have hd:=List.all_eq_true.1 (gP u) _ (oD hb);have hc:48<=(aE u)[0].toNat/\(aE u)[0].toNat<=57:=of_decide_eq_true hd;rw [beq_eq_false_iff_ne];omega
theorem y7_ (n:Int) (h:n<0):(aD n).extract 1 (aD n).size=aE n.natAbs:=by
 apply Z17;rw [Lib.extract_data,lC n h,List.drop_succ_cons,List.drop_zero];refine List.take_of_length_le ?_;have:=jq n h;rw [<- Lib.size_eq];omega
theorem iq (n:Int):((aD n).toList == [48])=decide (n=0):=by
 rw [J3_,show ([48]:List UInt8)=Lib.itoa 0 by unfold Lib.itoa;rw [if_neg (by omega),Lib.decDigits_one (by decide)];rfl,Z1R]
theorem w6_ (n:Int) (w:World) :
  Calls prog 74 #[.string (aD n)] w fun e w'=>e=.returned (.tuple #[.bool (decide (n<0)),.string (aE n.natAbs)])/\∃ k,w'=w.drewN k:=by
 have hp:=lD n;have rF:(0:Int)<((aD n).size:Int):=by omega
 have hp0:0<(aD n).size:=hp;by_cases h:n<0
 ·have q:=nR n h hp0;have t:=y7_ n h;have HD:Hid (decide (n<0)=true):=oS h;obtain ⟨m,hm⟩:∃ m,m=aE n.natAbs:=⟨_,rfl⟩;rw [<- hm] at t |-;rw [HD.out];clear h hm HD
  go_enter func74,ntmps74
  go_wp2_with fail
  go_quiet (fail)
  go_wp2_with fail;go_ret2;exact ⟨rfl,_,rfl⟩
 ·have q:=nE (aD n) n.toNat (dC n (by omega)) hp0;have HD:Hid (decide (n<0)=false):=oR h;have HM:Hid (aE n.natAbs=aD n):=by unfold Hid;rw [dC n (by omega)];congr 1;omega
  rw [HD.out,HM.out];clear h HD HM
  go_enter func74,ntmps74
  go_wp2_with fail;go_ret2;exact ⟨rfl,0,rfl⟩
theorem kY (n:Int) (w:World) :
  oW 74 #[.string (aD n)] w (.tuple #[.bool (decide (n<0)),.string (aE n.natAbs)]) :=
 (w6_ n w).mono fun _ _ ⟨h,k,hw⟩=>⟨h,hw▸aC.drewN _ _⟩
theorem M9_ (b:Bool) (u:Nat) (w:World) (hu:(aE u).size<=10000000000) :
  Calls prog 75 #[.bool b,.string (aE u)] w fun e w'=>e=.returned (.string (aD (sgn b u)))/\w=w':=by
 have hz:=mE u;have z1:¬ 9223372036854775807<1+(aE u).size:=by omega
 cases b with
 | false =>
  have HR:Hid (aD (sgn false u)=aE u):=by unfold Hid sgn;rw [if_neg Bool.false_ne_true,dC _ (by omega)];congr 1
  rw [HR.out];clear HR hz
  go_enter func75,ntmps75
  go_wp2_with fail;go_ret;exact ⟨rfl,rfl⟩
 | true =>
  by_cases h0:u=0
  ·rw [oS h0] at hz;have HR:Hid (aD (sgn true u)=aE u):=by unfold Hid sgn;rw [if_pos rfl,dC _ (by omega)];congr 1;omega
   rw [HR.out];clear HR h0
   go_enter func75,ntmps75
   go_wp2_with fail;go_ret;exact ⟨rfl,rfl⟩
  ·rw [oR h0] at hz;have HR:Hid ((aD (sgn true u)).data=#[45]++(aE u).data):=by
    unfold Hid sgn;rw [if_pos rfl];apply Array.toList_inj.1;rw [lC _ (by omega)];simp
   clear h0
   go_enter func75,ntmps75
   go_wp2_with fail;go_ret;exact ⟨Z5B (by rw [HR.out];simp),rfl⟩
theorem ns (n:Int) (w:World) :
  Calls prog 93 #[.string (aD n)] w fun e w'=>e=.returned (.int .i64 n.sign)/\w=w':=by
 have hp0:0<(aD n).size:=lD n;have hz:=iq n;by_cases h0:n=0
 ·rw [oS h0] at hz;have HR:Hid (n.sign=0):=by unfold Hid;rw [h0];rfl
  rw [HR.out];clear h0 HR
  go_enter func93,ntmps93
  go_wp2_with fail;go_ret;exact ⟨rfl,rfl⟩
 ·rw [oR h0] at hz;by_cases h:n<0
  ·have q:=nR n h hp0;have HR:Hid (n.sign=-1):=Int.sign_eq_neg_one_of_neg h;rw [HR.out];clear h0 h HR
   go_enter func93,ntmps93
   go_wp2_with fail;go_ret;exact ⟨rfl,rfl⟩
  ·have q:=nE (aD n) n.toNat (dC n (by omega)) hp0;have HR:Hid (n.sign=1):=Int.sign_eq_one_of_pos (by omega);rw [HR.out];clear h0 h HR
   go_enter func93,ntmps93
   go_wp2_with fail;go_ret;exact ⟨rfl,rfl⟩
theorem mD (n:Int) (w:World) (hs:(aD n).size<=10000000000) :
  oW 29 #[.string (aD n)] w (.string (aD (-n))):=by
 have hu:(aE n.natAbs).size<=10000000000:=by
  by_cases h:n<0
  ·have:=jq n h;omega
  ·rw [dC n (by omega)] at hs;rw [show n.natAbs=n.toNat by omega];exact hs
 have H1:=n8 (kY n w);have H2:Hid (∀ W,Calls prog 75 #[.bool (!decide (n<0)),.string (aE n.natAbs)] W fun e w'=>e=.returned (.string (aD (sgn (!decide (n<0)) n.natAbs)))/\W=w'):=fun W=>M9_ (!decide (n<0)) n.natAbs W hu;have HR:Hid (aD (sgn (!decide (n<0)) n.natAbs)=aD (-n)):=by
  unfold Hid;congr 1;unfold sgn;by_cases h:n<0
  ·rw [oS h];simp;omega
  ·rw [oR h];simp;omega
 rw [HR.out] at H2;obtain ⟨b,hb⟩:∃ b,b=decide (n<0):=⟨_,rfl⟩;rw [<- hb] at H1 H2;clear hb HR
 go_enter func29,ntmps29
 go_wp2_with fail;refine H1.mono ?_;rintro e w1 ⟨rfl,hE1⟩;have HE1:=n8 hE1;clear H1 hE1;go_wp2_with fail;refine (H2 _).mono ?_;rintro e w' ⟨rfl,rfl⟩;clear H2;go_wp2_with fail;go_ret;exact ⟨rfl,HE1⟩
theorem Z52 (n:Int) (w:World) :
  Calls prog 152 #[.string (aD n)] w fun e w'=>e=.returned (.string (aD (n.natAbs:Int)))/\∃ k,w'=w.drewN k:=by
 have H1:=n8 (w6_ n w);have HR:Hid (aD (n.natAbs:Int)=aE n.natAbs):=by unfold Hid;rw [dC _ (by omega)];congr 1
 rw [HR.out];clear HR
 go_enter func152,ntmps152
 go_wp2_with fail;refine H1.mono ?_;rintro e w1 ⟨rfl,k,rfl⟩;clear H1;go_wp2_with fail;go_ret;exact ⟨rfl,_,rfl⟩
theorem Z0W (n:Int) (w:World) :
  oW 152 #[.string (aD n)] w (.string (aD (n.natAbs:Int))) :=
 (Z52 n w).mono fun _ _ ⟨h,k,hw⟩=>⟨h,hw▸aC.drewN _ _⟩
theorem kK (n:Int):kB (aD n).data.toList=true/\iM (aD n).data.toList=n:=by
 rw [S2_];exact ⟨(lF n).1,(lF n).2.1⟩
theorem h8_ (n:Int) (w:World) (h1:-9223372036854775808<=n) (h2:n<=9223372036854775807) (hs:(aD n).size<=10000000000) :
  oW 166 #[.string (aD n)] w (.tuple #[.int .i64 n,.nilIface]) :=
 (strconv_Atoi_ok (aD n) (by omega) n (by
  have:=T3_ (kK n).1 (by rw [(kK n).2];exact ⟨h1,h2⟩);rw [(kK n).2] at this
  exact this) w).mono fun e w' ⟨h1,h2⟩=>⟨h1,by
  rcases h2 with rfl | ⟨t,rfl⟩
  ·exact aC.refl _
  ·exact ⟨rfl,rfl,rfl,by rw [Lib.bytesWorld_size];omega,fun j hj=>Lib.bytesWorld_at_old w _ t j hj⟩⟩
theorem l9 (n:Int) (w:World) (h1:-9223372036854775808<=n) (h2:n<=9223372036854775807) (ht:af w) :
  oW 124 #[.int .i64 n] w (.string (aD n)) :=
 (strconv_Itoa n h1 h2 w ht).mono fun e w' ⟨h,kk,os,hw⟩=>⟨h,by rw [hw];exact Lib.below_grow _ w (oJ _) kk os⟩
theorem fE (n:Int) (k:Nat) (w:World) (h1:-9223372036854775808<=n) (h2:n<=9223372036854775807) (hs:(aD n).size<=k) (hk:k<=1000) :
  oW 119 #[.string (aD n),.int .i64 k] w (.tuple #[.int .i64 n,.bool true]):=by
 have tR:¬ (k:Int)<((aD n).size:Int):=by omega
 have HA:=n8 (h8_ n w h1 h2 (by omega))
 go_enter func119,ntmps119
 go_wp2_with fail;refine HA.mono ?_;rintro e w1 ⟨rfl,hE1⟩;have HE1:=n8 hE1;clear hE1 HA;go_wp2_with fail
 go_quiet (fail)
 go_wp2_with fail;go_ret2;exact ⟨rfl,aC.draws HE1 _⟩
theorem fD (n:Int) (k:Nat) (w:World) (hs:k<(aD n).size) :
  Calls prog 119 #[.string (aD n),.int .i64 k] w fun e w'=>e=.returned (.tuple #[.int .i64 0,.bool false])/\w=w':=by
 have tR:(k:Int)<((aD n).size:Int):=by omega
 go_enter func119,ntmps119
 go_wp2_with fail;go_ret2;exact ⟨rfl,rfl⟩
theorem lJ (n:Int) (w:World) (h1:-9223372036854775808<=n) (h2:n<=9223372036854775807) (ht:af w) :
  oW 64 #[.int .i64 n] w (.string (aD n)):=by
 have HA:=n8 (l9 n w h1 h2 ht);clear ht
 go_enter func64,ntmps64
 go_wp2_with fail;refine HA.mono ?_;rintro e w1 ⟨rfl,hE1⟩;have HE1:=n8 hE1;clear hE1 HA;go_wp2_with fail;go_ret;exact ⟨rfl,HE1⟩
theorem mB {a b A B:Int} (h1:-A<a) (h2:a<A) (h3:-B<b) (h4:b<B) (hA:0<=A) (hB:0<=B):-(A*B)<=a*b/\a*b<=A*B:=by
 have k1:a.natAbs<=A.natAbs:=by omega
 have k2:b.natAbs<=B.natAbs:=by omega
 have k3:(a*b).natAbs<=A.natAbs*B.natAbs:=by rw [Int.natAbs_mul];exact Nat.mul_le_mul k1 k2
 have k4:A.natAbs*B.natAbs=(A*B).natAbs:=(Int.natAbs_mul A B).symm;have k5:0<=A*B:=Int.mul_nonneg hA hB;omega
theorem d_ (n:Int):(aE n.natAbs).size<=(aD n).size:=by
 by_cases h:n<0
 ·have:=jq n h;omega
 ·rw [dC n (by omega),show n.natAbs=n.toNat by omega];exact oJ _
theorem eK (n:Int):(aD n).size<=(aE n.natAbs).size+1:=by
 by_cases h:n<0
 ·rw [jq n h];exact oJ _
 ·rw [dC n (by omega),show n.natAbs=n.toNat by omega];omega
theorem lE {n:Int} (h:(aD n).size<=18):-1000000000000000000<n/\n<1000000000000000000:=by
 have:=iy (u:=n.natAbs) (by have:=d_ n;omega);omega
theorem M2_ (x y:Int) (w:World) (hx:(aD x).size<=2900000000) (hy:(aD y).size<=2900000000) (ht:af w) :
  oW 61 #[.string (aD x),.string (aD y)] w (.string (aD (x+y))):=by
 have HT:=n8 ht;clear ht;by_cases hs:(aD x).size<=18/\(aD y).size<=18
 ·obtain ⟨pq,rQ⟩:=lE hs.1;obtain ⟨rm,qg⟩:=lE hs.2;have H1:=n8 (fE x 18 w (by omega) (by omega) hs.1 (by omega));have H2:Hid (∀ W,oW 119 #[.string (aD y),.int .i64 18] W (.tuple #[.int .i64 y,.bool true])):=fun W=>fE y 18 W (by omega) (by omega) hs.2 (by omega);have H3:Hid (∀ W,aC w W->oW 64 #[.int .i64 (x+y)] W (.string (aD (x+y)))):=fun W hE=>lJ (x+y) W (by omega) (by omega) (HT.ext hE);clear hs
  go_enter func61,ntmps61
  go_wp2_with fail;refine H1.mono ?_;rintro e w1 ⟨rfl,hE1⟩;have HE1:=n8 hE1;clear hE1 H1;go_wp2_with fail;refine (H2 _).mono ?_;rintro e w2 ⟨rfl,oY⟩;have HE2:=n8 (aC.trans HE1 oY);clear oY H2;go_wp2_with fail;refine (H3 _ HE2).mono ?_;rintro e w3 ⟨rfl,oh⟩;have HE3:=n8 (aC.trans HE2 oh);clear oh H3;go_wp2_with fail;go_ret;exact ⟨rfl,HE3⟩
 ·have hax:=d_ x;have hay:=d_ y;have HS1:Hid (∀ W,oW 74 #[.string (aD x)] W (.tuple #[.bool (decide (x<0)),.string (aE x.natAbs)])):=fun W=>kY x W;have HS2:Hid (∀ W,oW 74 #[.string (aD y)] W (.tuple #[.bool (decide (y<0)),.string (aE y.natAbs)])):=fun W=>kY y W;obtain ⟨u,hu⟩:∃ u,u=x.natAbs:=⟨_,rfl⟩;obtain ⟨v,hv⟩:∃ v,v=y.natAbs:=⟨_,rfl⟩;rw [<- hu] at HS1 hax;rw [<- hv] at HS2 hay;have HADD:Hid (∀ W,aC w W->oW 120 #[.string (aE u),.string (aE v)] W (.string (aE (u+v)))):=fun W hE=>E2_ u v W (by omega) (by omega) (HT.ext hE);have xu:Hid (∀ W,Calls prog 121 #[.string (aE u),.string (aE v)] W fun e w'=>e=.returned (.int .i64 (bj u v))/\W=w'):=fun W=>Z4_ u v W (by omega) (by omega);have xi:Hid (v<=u->∀ W,aC w W->oW 122 #[.string (aE u),.string (aE v)] W (.tuple #[.string (aE (u-v)),.int .i64 0])):=fun hle W hE=>Q6_ u v W (by omega) (by omega) hle (HT.ext hE);have xh:Hid (u<=v->∀ W,aC w W->oW 122 #[.string (aE v),.string (aE u)] W (.tuple #[.string (aE (v-u)),.int .i64 0])):=fun hle W hE=>Q6_ v u W (by omega) (by omega) hle (HT.ext hE);have hsum:=Z9_ u v;have HJ:Hid (∀ (b:Bool) (n:Nat),n<=u+v->∀ W,Calls prog 75 #[.bool b,.string (aE n)] W fun e w'=>e=.returned (.string (aD (sgn b n)))/\W=w'):=fun b n hn W=>M9_ b n W (by have:=gY hn;omega);have OR:Hid (u=x.natAbs/\v=y.natAbs):=⟨hu,hv⟩;have pg:((aD x).size<=18/\18<(aD y).size)\/18<(aD x).size:=by omega
  have HX:Hid ((aD x).size<=18->-1000000000000000000<x/\x<1000000000000000000):=fun h=>lE h;obtain ⟨p,hp⟩:∃ p,p=decide (x<0):=⟨_,rfl⟩;obtain ⟨q,hq⟩:∃ q,q=decide (y<0):=⟨_,rfl⟩;rw [<- hp] at HS1;rw [<- hq] at HS2;have CA:Hid (x=sgn p u/\y=sgn q v):=by
   unfold Hid;rw [hp,hq,hu,hv,nl,nl];exact ⟨rfl,rfl⟩
  clear hu hv hs hax hay hsum hp hq;rcases pg with ⟨hs1,hs2⟩ | hs1
  case' inl =>
   have H1:=n8 (fE x 18 w (by have:=HX hs1;omega) (by have:=HX hs1;omega) hs1 (by omega));have H2:Hid (∀ W,Calls prog 119 #[.string (aD y),.int .i64 18] W fun e w'=>e=.returned (.tuple #[.int .i64 0,.bool false])/\W=w'):=fun W=>fD y 18 W hs2;clear hs1 hs2
   go_enter func61,ntmps61
   go_wp2_with fail;refine H1.mono ?_;rintro e w1 ⟨rfl,hE1⟩;have HE1:=n8 hE1;clear hE1 H1;go_wp2_with fail;refine (H2 _).mono ?_;rintro e w' ⟨rfl,rfl⟩;clear H2
  case' inr =>
   have H1:Hid (∀ W,Calls prog 119 #[.string (aD x),.int .i64 18] W fun e w'=>e=.returned (.tuple #[.int .i64 0,.bool false])/\W=w'):=fun W=>fD x 18 W hs1;clear hs1
   go_enter func61,ntmps61
   go_wp2_with fail;refine (H1 _).mono ?_;rintro e w' ⟨rfl,rfl⟩;have HE1:=n8 (aC.refl w);clear H1
  all_goals
   go_wp2_with fail;refine (HS1 _).mono ?_;rintro e w2 ⟨rfl,oY⟩;have HE2:=n8 (aC.trans HE1 oY);clear oY HS1;go_wp2_with fail;refine (HS2 _).mono ?_;rintro e w3 ⟨rfl,oh⟩;have HE3:=n8 (aC.trans HE2 oh);clear oh HS2;by_cases x8:p=q
   ·have hb:(p == q)=true:=by simp [x8]
    have HR:Hid (sgn p (u+v)=x+y):=by
     unfold Hid;rw [CA.out.1,CA.out.2,x8];cases q <;> simp only [nk,np] <;> omega
    have HJ1:=n8 (HJ p (u+v) (oJ _));rw [HR.out] at HJ1;clear x8;go_wp2_with fail;refine (HADD _ HE3).mono ?_;rintro e w4 ⟨rfl,hE4⟩;have HE4:=n8 (aC.trans HE3 hE4);clear hE4;go_wp2_with fail;refine (HJ1 _).mono ?_;rintro e w' ⟨rfl,rfl⟩;clear HJ1;go_wp2_with fail;go_ret;exact ⟨rfl,HE4⟩
   ·have hb:(p == q)=false:=by simpa using x8
    obtain ⟨cm,hcm⟩:∃ cm,cm=bj u v:=⟨_,rfl⟩;rw [<- hcm] at xu;by_cases EJ:u<v
    ·have hcl:cm<0:=by rw [hcm,kx EJ];omega
     have HR:Hid (sgn q (v-u)=x+y):=by
      unfold Hid;rw [CA.out.1,CA.out.2];revert x8;cases p <;> cases q <;> simp only [nk,np] <;> intro h <;> first | omega | exact absurd trivial h
     have HJ1:=n8 (HJ q (v-u) (by omega));rw [HR.out] at HJ1;have HSB:=n8 (xh (by omega));clear x8 hcm EJ xi xh;go_wp2_with fail;refine (xu _).mono ?_;rintro e w' ⟨rfl,rfl⟩;clear xu;go_wp2_with fail;refine (HSB _ HE3).mono ?_;rintro e w4 ⟨rfl,hE4⟩;have HE4:=n8 (aC.trans HE3 hE4);clear hE4 HSB;go_wp2_with fail;refine (HJ1 _).mono ?_;rintro e w' ⟨rfl,rfl⟩;clear HJ1;go_wp2_with fail;go_ret;exact ⟨rfl,HE4⟩
    ·have hcl:¬ cm<0:=by rw [hcm];unfold bj;rw [if_neg EJ];split <;> omega
     have HR:Hid (sgn p (u-v)=x+y):=by
      unfold Hid;rw [CA.out.1,CA.out.2];revert x8;cases p <;> cases q <;> simp only [nk,np] <;> intro h <;> first | omega | exact absurd trivial h
     have HJ1:=n8 (HJ p (u-v) (by omega));rw [HR.out] at HJ1;have HSB:=n8 (xi (by omega));clear x8 hcm EJ xi xh;go_wp2_with fail;refine (xu _).mono ?_;rintro e w' ⟨rfl,rfl⟩;clear xu;go_wp2_with fail;refine (HSB _ HE3).mono ?_;rintro e w4 ⟨rfl,hE4⟩;have HE4:=n8 (aC.trans HE3 hE4);clear hE4 HSB;go_wp2_with fail;refine (HJ1 _).mono ?_;rintro e w' ⟨rfl,rfl⟩;clear HJ1;go_wp2_with fail;go_ret;exact ⟨rfl,HE4⟩
theorem ju (x y:Int) (w:World) (hx:(aD x).size<=2900000000) (hy:(aD y).size<=2900000000) (ht:af w) :
  oW 63 #[.string (aD x),.string (aD y)] w (.string (aD (x*y))):=by
 have HT:=n8 ht;clear ht;by_cases hs:(aD x).size<=9/\(aD y).size<=9
 ·have hb:∀ {n:Int},(aD n).size<=9->-1000000000<n/\n<1000000000:=by
   intro n h;have h1:=d_ n;have h2:n.natAbs<1000000000:=by
    have h3:=Lib.lt_pow_nDigits n.natAbs;rw [dz] at h1;have h4:10^Lib.nDigits n.natAbs<=10^9:=Nat.pow_le_pow_right (by omega) (by omega);rw [show (10:Nat)^9=1000000000 by decide] at h4;omega
   omega
  obtain ⟨pq,rQ⟩:=hb hs.1;obtain ⟨rm,qg⟩:=hb hs.2;have hm:=mB pq rQ rm qg (by omega) (by omega);obtain ⟨m,hmm⟩:∃ m,m=x*y:=⟨_,rfl⟩;rw [<- hmm] at hm |-;have xF:x*y=m:=hmm.symm;have H1:=n8 (fE x 9 w (by omega) (by omega) hs.1 (by omega));have H2:Hid (∀ W,oW 119 #[.string (aD y),.int .i64 9] W (.tuple #[.int .i64 y,.bool true])):=fun W=>fE y 9 W (by omega) (by omega) hs.2 (by omega);have hm1:-1000000000000000000<=m:=by omega
  have wH:m<=1000000000000000000:=by omega
  have H3:Hid (∀ W,aC w W->oW 64 #[.int .i64 m] W (.string (aD m))):=fun W hE=>lJ m W (by omega) (by omega) (HT.ext hE);clear hs hb hm hmm
  go_enter func63,ntmps63
  go_wp2_with fail;refine H1.mono ?_;rintro e w1 ⟨rfl,hE1⟩;have HE1:=n8 hE1;clear hE1 H1;go_wp2_with fail;refine (H2 _).mono ?_;rintro e w2 ⟨rfl,oY⟩;have HE2:=n8 (aC.trans HE1 oY);clear oY H2;go_wp2_with fail;refine (H3 _ HE2).mono ?_;rintro e w3 ⟨rfl,oh⟩;have HE3:=n8 (aC.trans HE2 oh);clear oh H3;go_wp2_with fail;go_ret;exact ⟨rfl,HE3⟩
 ·have hax:=d_ x;have hay:=d_ y;have HS1:Hid (∀ W,oW 74 #[.string (aD x)] W (.tuple #[.bool (decide (x<0)),.string (aE x.natAbs)])):=fun W=>kY x W;have HS2:Hid (∀ W,oW 74 #[.string (aD y)] W (.tuple #[.bool (decide (y<0)),.string (aE y.natAbs)])):=fun W=>kY y W;obtain ⟨u,hu⟩:∃ u,u=x.natAbs:=⟨_,rfl⟩;obtain ⟨v,hv⟩:∃ v,v=y.natAbs:=⟨_,rfl⟩;rw [<- hu] at HS1 hax;rw [<- hv] at HS2 hay;have tw:Hid (∀ W,aC w W->oW 123 #[.string (aE u),.string (aE v)] W (.string (aE (u*v)))):=fun W hE=>a5_ u v W (by omega) (by omega) (HT.ext hE);have hprod:=nS u v;obtain ⟨p,hp⟩:∃ p,p=decide (x<0):=⟨_,rfl⟩;obtain ⟨q,hq⟩:∃ q,q=decide (y<0):=⟨_,rfl⟩;rw [<- hp] at HS1;rw [<- hq] at HS2;have hR:sgn (p != q) (u*v)=x*y:=by
   have e1:x=sgn p u:=by rw [hp,hu,nl]
   have e2:y=sgn q v:=by rw [hq,hv,nl]
   rw [e1,e2];cases p <;> cases q <;> simp [nk,np,Int.neg_mul,Int.mul_neg]
  have HJ:Hid (∀ W,Calls prog 75 #[.bool (p != q),.string (aE (u*v))] W fun e w'=>e=.returned (.string (aD (x*y)))/\W=w'):=fun W=>by
   rw [<- hR];exact M9_ (p != q) (u*v) W (by omega)
  have pg:((aD x).size<=9/\9<(aD y).size)\/9<(aD x).size:=by omega
  have HX:Hid ((aD x).size<=9->-1000000000000000000<x/\x<1000000000000000000):=fun h=>lE (by omega);clear hu hv hs hax hay hprod hp hq hR;rcases pg with ⟨hs1,hs2⟩ | hs1
  case' inl =>
   have H1:=n8 (fE x 9 w (by have:=HX hs1;omega) (by have:=HX hs1;omega) hs1 (by omega));have H2:Hid (∀ W,Calls prog 119 #[.string (aD y),.int .i64 9] W fun e w'=>e=.returned (.tuple #[.int .i64 0,.bool false])/\W=w'):=fun W=>fD y 9 W hs2;clear hs1 hs2
   go_enter func63,ntmps63
   go_wp2_with fail;refine H1.mono ?_;rintro e w1 ⟨rfl,hE1⟩;have HE1:=n8 hE1;clear hE1 H1;go_wp2_with fail;refine (H2 _).mono ?_;rintro e w' ⟨rfl,rfl⟩;clear H2
  case' inr =>
   have H1:Hid (∀ W,Calls prog 119 #[.string (aD x),.int .i64 9] W fun e w'=>e=.returned (.tuple #[.int .i64 0,.bool false])/\W=w'):=fun W=>fD x 9 W hs1;clear hs1
   go_enter func63,ntmps63
   go_wp2_with fail;refine (H1 _).mono ?_;rintro e w' ⟨rfl,rfl⟩;have HE1:=n8 (aC.refl w);clear H1
  all_goals
   go_wp2_with fail;refine (HS1 _).mono ?_;rintro e w2 ⟨rfl,oY⟩;have HE2:=n8 (aC.trans HE1 oY);clear oY HS1;go_wp2_with fail;refine (HS2 _).mono ?_;rintro e w3 ⟨rfl,oh⟩;have HE3:=n8 (aC.trans HE2 oh);clear oh HS2;go_wp2_with fail;refine (tw _ HE3).mono ?_;rintro e w4 ⟨rfl,hE4⟩;have HE4:=n8 (aC.trans HE3 hE4);clear hE4;go_wp2_with fail;refine (HJ _).mono ?_;rintro e w' ⟨rfl,rfl⟩;clear HJ;go_wp2_with fail;go_ret;exact ⟨rfl,HE4⟩
theorem Z3n (x y:Int) (w:World) (hx:(aD x).size<=18) (hy:(aD y).size<=18) (h0:y≠0) (ht:af w) :
  oW 94 #[.string (aD x),.string (aD y)] w (.tuple #[.string (aD (aR x y)),.string (aD (bF x y)),.int .i64 0]):=by
 have HT:=n8 ht;have hz:=iq y;rw [oR h0] at hz;obtain ⟨pq,rQ⟩:=lE hx;obtain ⟨rm,qg⟩:=lE hy;have H1:=n8 (fE x 18 w (by omega) (by omega) hx (by omega));have H2:Hid (∀ W,oW 119 #[.string (aD y),.int .i64 18] W (.tuple #[.int .i64 y,.bool true])):=fun W=>fE y 18 W (by omega) (by omega) hy (by omega);have hrl:=mT x y h0;have hql:=v0_ x y;have wF:(aR x y).natAbs<=1000000000000000001:=by have:=nH x y;omega
 have qU:(bF x y).natAbs<=1000000000000000001:=by
  rcases Int.lt_trichotomy y 0 with h | h | h
  ·have:=ly x y h;omega
  ·exact absurd h h0
  ·have:=kG x y h;omega
 have H3:Hid (∀ W,aC w W->oW 64 #[.int .i64 (aR x y)] W (.string (aD (aR x y)))):=fun W hE=>lJ _ W (by omega) (by omega) (HT.ext hE);have H4:Hid (∀ W,aC w W->oW 64 #[.int .i64 (bF x y)] W (.string (aD (bF x y)))):=fun W hE=>lJ _ W (by omega) (by omega) (HT.ext hE);have hyb:(y == 0)=false:=beq_eq_false_iff_ne.2 h0;have pn:Hid (aR x y=if x.tmod y≠0/\decide (x.tmod y<0)≠decide (y<0) then x.tdiv y-1 else x.tdiv y):=rfl;have HFR:Hid (bF x y=if x.tmod y≠0/\decide (x.tmod y<0)≠decide (y<0) then x.tmod y+y else x.tmod y):=rfl;obtain ⟨fq,C5⟩:∃ q,q=aR x y:=⟨_,rfl⟩;obtain ⟨fr,yD⟩:∃ r,r=bF x y:=⟨_,rfl⟩;rw [<- C5] at H3 pn wF |-;rw [<- yD] at H4 HFR qU |-;obtain ⟨q,hq⟩:∃ q,x.tdiv y=q:=⟨_,rfl⟩;obtain ⟨r,hr⟩:∃ r,x.tmod y=r:=⟨_,rfl⟩;rw [hq] at pn hql;rw [hr] at HFR pn hrl;have e1:IntKind.i64.wrap q=q:=IntWalk.i64_in _ (by omega);have pR:¬ y=0:=h0;clear ht C5 yD h0;by_cases c0:r=0
 ·have k0:(r != 0)=false:=by simp [c0]
  rw [if_neg (by simp [c0])] at pn HFR;rw [pn.out] at H3 |-;rw [HFR.out] at H4 |-;clear pn HFR c0
  go_enter func94,ntmps94
  go_wp2_with fail;refine H1.mono ?_;rintro e w1 ⟨rfl,hE1⟩;have HE1:=n8 hE1;clear hE1 H1;go_wp2_with fail;refine (H2 _).mono ?_;rintro e w2 ⟨rfl,oY⟩;have HE2:=n8 (aC.trans HE1 oY);clear oY H2;go_wp2_with fail
  go_quiet (fail)
  go_wp2_with fail;refine (H3 _ (aC.draws HE2 _)).mono ?_;rintro e w3 ⟨rfl,oh⟩;have HE3:=n8 (aC.trans (aC.draws HE2 _) oh);clear oh H3;go_wp2_with fail;refine (H4 _ HE3).mono ?_;rintro e w4 ⟨rfl,hE4⟩;have HE4:=n8 (aC.trans HE3 hE4);clear hE4 H4;go_wp2_with fail;go_ret3;exact ⟨rfl,HE4⟩
 ·have k0:(r != 0)=true:=by simpa using c0
  by_cases c1:r<0
  ·by_cases c2:y<0
   ·have k5:decide (r<0)=true:=oS c1;have k6:decide (y<0)=true:=oS c2;have k7:(!decide (r<0))=false:=by rw [k5];rfl
    have k8:(!decide (y<0))=false:=by rw [k6];rfl
    rw [if_neg (by rw [oS c1,oS c2];simp)] at pn HFR;rw [pn.out] at H3 |-;rw [HFR.out] at H4 |-;clear pn HFR c0
    go_enter func94,ntmps94
    go_wp2_with fail;refine H1.mono ?_;rintro e w1 ⟨rfl,hE1⟩;have HE1:=n8 hE1;clear hE1 H1;go_wp2_with fail;refine (H2 _).mono ?_;rintro e w2 ⟨rfl,oY⟩;have HE2:=n8 (aC.trans HE1 oY);clear oY H2;go_wp2_with fail
    go_quiet (fail)
    go_wp2_with fail;refine (H3 _ (aC.draws HE2 _)).mono ?_;rintro e w3 ⟨rfl,oh⟩;have HE3:=n8 (aC.trans (aC.draws HE2 _) oh);clear oh H3;go_wp2_with fail;refine (H4 _ HE3).mono ?_;rintro e w4 ⟨rfl,hE4⟩;have HE4:=n8 (aC.trans HE3 hE4);clear hE4 H4;go_wp2_with fail;go_ret3;exact ⟨rfl,HE4⟩
   ·have k5:decide (r<0)=true:=oS c1;have k6:decide (y<0)=false:=oR c2;have k7:(!decide (r<0))=false:=by rw [k5];rfl
    have k8:(!decide (y<0))=true:=by rw [k6];rfl
    rw [if_pos ⟨c0,by rw [oS c1,oR c2];simp⟩] at pn HFR;rw [pn.out] at H3 |- wF;rw [HFR.out] at H4 |- qU;clear pn HFR c0
    go_enter func94,ntmps94
    go_wp2_with fail;refine H1.mono ?_;rintro e w1 ⟨rfl,hE1⟩;have HE1:=n8 hE1;clear hE1 H1;go_wp2_with fail;refine (H2 _).mono ?_;rintro e w2 ⟨rfl,oY⟩;have HE2:=n8 (aC.trans HE1 oY);clear oY H2;go_wp2_with fail
    go_quiet (fail)
    go_wp2_with fail;refine (H3 _ (aC.draws HE2 _)).mono ?_;rintro e w3 ⟨rfl,oh⟩;have HE3:=n8 (aC.trans (aC.draws HE2 _) oh);clear oh H3;go_wp2_with fail;refine (H4 _ HE3).mono ?_;rintro e w4 ⟨rfl,hE4⟩;have HE4:=n8 (aC.trans HE3 hE4);clear hE4 H4;go_wp2_with fail;go_ret3;exact ⟨rfl,HE4⟩
  ·by_cases c2:y<0
   ·have k5:decide (r<0)=false:=oR c1;have k6:decide (y<0)=true:=oS c2;have k7:(!decide (r<0))=true:=by rw [k5];rfl
    have k8:(!decide (y<0))=false:=by rw [k6];rfl
    rw [if_pos ⟨c0,by rw [oR c1,oS c2];simp⟩] at pn HFR;rw [pn.out] at H3 |- wF;rw [HFR.out] at H4 |- qU;clear pn HFR c0
    go_enter func94,ntmps94
    go_wp2_with fail;refine H1.mono ?_;rintro e w1 ⟨rfl,hE1⟩;have HE1:=n8 hE1;clear hE1 H1;go_wp2_with fail;refine (H2 _).mono ?_;rintro e w2 ⟨rfl,oY⟩;have HE2:=n8 (aC.trans HE1 oY);clear oY H2;go_wp2_with fail
    go_quiet (fail)
    go_wp2_with fail;refine (H3 _ (aC.draws HE2 _)).mono ?_;rintro e w3 ⟨rfl,oh⟩;have HE3:=n8 (aC.trans (aC.draws HE2 _) oh);clear oh H3;go_wp2_with fail;refine (H4 _ HE3).mono ?_;rintro e w4 ⟨rfl,hE4⟩;have HE4:=n8 (aC.trans HE3 hE4);clear hE4 H4;go_wp2_with fail;go_ret3;exact ⟨rfl,HE4⟩
   ·have k5:decide (r<0)=false:=oR c1;have k6:decide (y<0)=false:=oR c2;have k7:(!decide (r<0))=true:=by rw [k5];rfl
    have k8:(!decide (y<0))=true:=by rw [k6];rfl
    rw [if_neg (by rw [oR c1,oR c2];simp)] at pn HFR;rw [pn.out] at H3 |-;rw [HFR.out] at H4 |-;clear pn HFR c0
    go_enter func94,ntmps94
    go_wp2_with fail;refine H1.mono ?_;rintro e w1 ⟨rfl,hE1⟩;have HE1:=n8 hE1;clear hE1 H1;go_wp2_with fail;refine (H2 _).mono ?_;rintro e w2 ⟨rfl,oY⟩;have HE2:=n8 (aC.trans HE1 oY);clear oY H2;go_wp2_with fail
    go_quiet (fail)
    go_wp2_with fail;refine (H3 _ (aC.draws HE2 _)).mono ?_;rintro e w3 ⟨rfl,oh⟩;have HE3:=n8 (aC.trans (aC.draws HE2 _) oh);clear oh H3;go_wp2_with fail;refine (H4 _ HE3).mono ?_;rintro e w4 ⟨rfl,hE4⟩;have HE4:=n8 (aC.trans HE3 hE4);clear hE4 H4;go_wp2_with fail;go_ret3;exact ⟨rfl,HE4⟩
theorem U4_ (x y:Int) (w:World) (hx:(aD x).size<=2800000000) (hy:(aD y).size<=2800000000) (h0:y≠0) (ht:af w) :
  oW 94 #[.string (aD x),.string (aD y)] w (.tuple #[.string (aD (aR x y)),.string (aD (bF x y)),.int .i64 0]):=by
 by_cases hs:(aD x).size<=18/\(aD y).size<=18
 ·exact Z3n x y w hs.1 hs.2 h0 ht
 have HT:=n8 ht;clear ht;have hz:=iq y;rw [oR h0] at hz;have hax:=d_ x;have hay:=d_ y;have HS1:Hid (∀ W,oW 74 #[.string (aD x)] W (.tuple #[.bool (decide (x<0)),.string (aE x.natAbs)])):=fun W=>kY x W;have HS2:Hid (∀ W,oW 74 #[.string (aD y)] W (.tuple #[.bool (decide (y<0)),.string (aE y.natAbs)])):=fun W=>kY y W;obtain ⟨p,hp⟩:∃ p,p=decide (x<0):=⟨_,rfl⟩;obtain ⟨q,hq⟩:∃ q,q=decide (y<0):=⟨_,rfl⟩;have hfd:=Z5T x y h0 hp hq;rw [<- hp] at HS1;rw [<- hq] at HS2;have sF:y.natAbs≠0:=by omega
 obtain ⟨u,hu⟩:∃ u,u=x.natAbs:=⟨_,rfl⟩;obtain ⟨v,hv⟩:∃ v,v=y.natAbs:=⟨_,rfl⟩;rw [<- hu] at HS1 hax hfd;rw [<- hv] at HS2 hay hfd sF;have qI:Hid (∀ W,aC w W->oW 147 #[.string (aE u),.string (aE v)] W (.tuple #[.string (aE (u / v)),.string (aE (u%v)),.int .i64 0])):=fun W hE=>T4_ u v W (by omega) (by omega) sF (HT.ext hE);have ER:(aE (u / v)).size<=2800000000:=oI (gY (Nat.div_le_self _ _)) (by omega);have FH:u%v<v:=Nat.mod_lt _ (by omega);have qo:(aE (u%v)).size<=2800000000:=oI (gY (Nat.le_of_lt FH)) (by omega);have qB:(aE 1).size<=2800000000:=by
  have:=Lib.nDigits_small (show 1<10 by omega);rw [dz,this];omega
 have Bs:aE 1=⟨#[49]⟩:=by unfold aE;rw [Lib.decDigits_one (by omega)];rfl
 have hq1s:=Z9_ (u / v) 1;have Au:∀ W,aC w W->Calls prog 120 #[.string (aE (u / v)),.string (aE 1)] W fun e w'=>e=.returned (.string (aE (u / v+1)))/\aC W w':=fun W hE=>E2_ (u / v) 1 W (by omega) (by omega) (HT.ext hE);rw [Bs] at Au;have HADD:=n8 Au;have pS:Hid (∀ W,aC w W->oW 122 #[.string (aE v),.string (aE (u%v))] W (.tuple #[.string (aE (v-u%v)),.int .i64 0])):=fun W hE=>Q6_ v (u%v) W (by omega) (by omega) (Nat.le_of_lt FH) (HT.ext hE);have qu:(aE (v-u%v)).size<=2800000000:=oI (gY (Nat.sub_le _ _)) (by omega);have HJ:Hid (∀ (b:Bool) (n:Nat),(aE n).size<=10000000000->∀ W,Calls prog 75 #[.bool b,.string (aE n)] W fun e w'=>e=.returned (.string (aD (sgn b n)))/\W=w'):=fun b n hn W=>M9_ b n W hn;have hrz:=mE (u%v);obtain ⟨Q,hQ⟩:∃ Q,Q=u / v:=⟨_,rfl⟩;obtain ⟨R,hR⟩:∃ R,R=u%v:=⟨_,rfl⟩;rw [<- hQ] at hfd qI ER hq1s HADD;rw [<- hR] at hfd qI qo pS qu hrz;have pg:((aD x).size<=18/\18<(aD y).size)\/18<(aD x).size:=by omega
 have HX:Hid ((aD x).size<=18->-1000000000000000000<x/\x<1000000000000000000):=fun h=>lE h;obtain ⟨F1,Js⟩:∃ F,F=aR x y:=⟨_,rfl⟩;obtain ⟨F2,yI⟩:∃ F,F=bF x y:=⟨_,rfl⟩;rw [<- Js,<- yI] at hfd |-;have HFD:=n8 hfd;have HSZ:Hid ((aE Q).size<=10000000000/\(aE (Q+1)).size<=10000000000/\(aE R).size<=10000000000/\(aE (v-R)).size<=10000000000):=⟨by omega,by omega,by omega,by omega⟩;clear hu hv hs hax hay hp hq hfd sF ER FH qo qB Bs hq1s Au qu hQ hR Js yI;rcases p with _ | _ <;> rcases q with _ | _
 ·have hf:=HFD.out;rw [if_neg (by simp),if_neg (by simp)] at hf;have HJ1:=n8 (HJ false Q HSZ.1);have HJ2:=n8 (HJ false R HSZ.2.2.1);rw [show sgn false Q=F1 from hf.1.symm] at HJ1;rw [show sgn false R=F2 from hf.2.symm] at HJ2;clear hf HFD hrz;rcases pg with ⟨hs1,hs2⟩ | hs1
  ·have H1:=n8 (fE x 18 w (by have:=HX hs1;omega) (by have:=HX hs1;omega) hs1 (by omega));have H2:Hid (∀ W,Calls prog 119 #[.string (aD y),.int .i64 18] W fun e w'=>e=.returned (.tuple #[.int .i64 0,.bool false])/\W=w'):=fun W=>fD y 18 W hs2;clear hs1 hs2
   go_enter func94,ntmps94
   go_wp2_with fail;refine H1.mono ?_;rintro e w1 ⟨rfl,hE1⟩;have HE1:=n8 hE1;clear hE1 H1;go_wp2_with fail;refine (H2 _).mono ?_;rintro e w' ⟨rfl,rfl⟩;clear H2;go_wp2_with fail;refine (HS1 _).mono ?_;rintro e w2 ⟨rfl,oY⟩;have HE2:=n8 (aC.trans HE1 oY);clear oY HS1;go_wp2_with fail;refine (HS2 _).mono ?_;rintro e w3 ⟨rfl,oh⟩;have HE3:=n8 (aC.trans HE2 oh);clear oh HS2;go_wp2_with fail;refine (qI _ HE3).mono ?_;rintro e w4 ⟨rfl,hE4⟩;have HE4:=n8 (aC.trans HE3 hE4);clear hE4 qI;go_wp2_with fail;refine (HJ1 _).mono ?_;rintro e w' ⟨rfl,rfl⟩;clear HJ1;go_wp2_with fail;refine (HJ2 _).mono ?_;rintro e w' ⟨rfl,rfl⟩;clear HJ2;go_wp2_with fail;go_ret3;exact ⟨rfl,HE4⟩
  ·have H1:Hid (∀ W,Calls prog 119 #[.string (aD x),.int .i64 18] W fun e w'=>e=.returned (.tuple #[.int .i64 0,.bool false])/\W=w'):=fun W=>fD x 18 W hs1;clear hs1
   go_enter func94,ntmps94
   go_wp2_with fail;refine (H1 _).mono ?_;rintro e w' ⟨rfl,rfl⟩;have HE1:=n8 (aC.refl w);clear H1;go_wp2_with fail;refine (HS1 _).mono ?_;rintro e w2 ⟨rfl,oY⟩;have HE2:=n8 (aC.trans HE1 oY);clear oY HS1;go_wp2_with fail;refine (HS2 _).mono ?_;rintro e w3 ⟨rfl,oh⟩;have HE3:=n8 (aC.trans HE2 oh);clear oh HS2;go_wp2_with fail;refine (qI _ HE3).mono ?_;rintro e w4 ⟨rfl,hE4⟩;have HE4:=n8 (aC.trans HE3 hE4);clear hE4 qI;go_wp2_with fail;refine (HJ1 _).mono ?_;rintro e w' ⟨rfl,rfl⟩;clear HJ1;go_wp2_with fail;refine (HJ2 _).mono ?_;rintro e w' ⟨rfl,rfl⟩;clear HJ2;go_wp2_with fail;go_ret3;exact ⟨rfl,HE4⟩
 ·by_cases s6:R=0
  ·have hf:=HFD.out;rw [if_neg (by simp [s6]),if_neg (by simp [s6])] at hf;have HJ1:=n8 (HJ true Q HSZ.1);have HJ2:=n8 (HJ true R HSZ.2.2.1);rw [show sgn true Q=F1 from hf.1.symm] at HJ1;rw [show sgn true R=F2 from hf.2.symm] at HJ2;rw [oS s6] at hrz;clear hf HFD s6;rcases pg with ⟨hs1,hs2⟩ | hs1
   ·have H1:=n8 (fE x 18 w (by have:=HX hs1;omega) (by have:=HX hs1;omega) hs1 (by omega));have H2:Hid (∀ W,Calls prog 119 #[.string (aD y),.int .i64 18] W fun e w'=>e=.returned (.tuple #[.int .i64 0,.bool false])/\W=w'):=fun W=>fD y 18 W hs2;clear hs1 hs2
    go_enter func94,ntmps94
    go_wp2_with fail;refine H1.mono ?_;rintro e w1 ⟨rfl,hE1⟩;have HE1:=n8 hE1;clear hE1 H1;go_wp2_with fail;refine (H2 _).mono ?_;rintro e w' ⟨rfl,rfl⟩;clear H2;go_wp2_with fail;refine (HS1 _).mono ?_;rintro e w2 ⟨rfl,oY⟩;have HE2:=n8 (aC.trans HE1 oY);clear oY HS1;go_wp2_with fail;refine (HS2 _).mono ?_;rintro e w3 ⟨rfl,oh⟩;have HE3:=n8 (aC.trans HE2 oh);clear oh HS2;go_wp2_with fail;refine (qI _ HE3).mono ?_;rintro e w4 ⟨rfl,hE4⟩;have HE4:=n8 (aC.trans HE3 hE4);clear hE4 qI;go_wp2_with fail;refine (HJ1 _).mono ?_;rintro e w' ⟨rfl,rfl⟩;clear HJ1;go_wp2_with fail;refine (HJ2 _).mono ?_;rintro e w' ⟨rfl,rfl⟩;clear HJ2;go_wp2_with fail;go_ret3;exact ⟨rfl,HE4⟩
   ·have H1:Hid (∀ W,Calls prog 119 #[.string (aD x),.int .i64 18] W fun e w'=>e=.returned (.tuple #[.int .i64 0,.bool false])/\W=w'):=fun W=>fD x 18 W hs1;clear hs1
    go_enter func94,ntmps94
    go_wp2_with fail;refine (H1 _).mono ?_;rintro e w' ⟨rfl,rfl⟩;have HE1:=n8 (aC.refl w);clear H1;go_wp2_with fail;refine (HS1 _).mono ?_;rintro e w2 ⟨rfl,oY⟩;have HE2:=n8 (aC.trans HE1 oY);clear oY HS1;go_wp2_with fail;refine (HS2 _).mono ?_;rintro e w3 ⟨rfl,oh⟩;have HE3:=n8 (aC.trans HE2 oh);clear oh HS2;go_wp2_with fail;refine (qI _ HE3).mono ?_;rintro e w4 ⟨rfl,hE4⟩;have HE4:=n8 (aC.trans HE3 hE4);clear hE4 qI;go_wp2_with fail;refine (HJ1 _).mono ?_;rintro e w' ⟨rfl,rfl⟩;clear HJ1;go_wp2_with fail;refine (HJ2 _).mono ?_;rintro e w' ⟨rfl,rfl⟩;clear HJ2;go_wp2_with fail;go_ret3;exact ⟨rfl,HE4⟩
  ·have hf:=HFD.out;rw [if_pos ⟨rfl,s6⟩,if_pos ⟨rfl,s6⟩] at hf;have HJ1:=n8 (HJ true (Q+1) HSZ.2.1);have HJ2:=n8 (HJ true (v-R) HSZ.2.2.2);rw [show sgn true (Q+1)=F1 from hf.1.symm] at HJ1;rw [show sgn true (v-R)=F2 from hf.2.symm] at HJ2;rw [oR s6] at hrz;clear hf HFD s6;rcases pg with ⟨hs1,hs2⟩ | hs1
   ·have H1:=n8 (fE x 18 w (by have:=HX hs1;omega) (by have:=HX hs1;omega) hs1 (by omega));have H2:Hid (∀ W,Calls prog 119 #[.string (aD y),.int .i64 18] W fun e w'=>e=.returned (.tuple #[.int .i64 0,.bool false])/\W=w'):=fun W=>fD y 18 W hs2;clear hs1 hs2
    go_enter func94,ntmps94
    go_wp2_with fail;refine H1.mono ?_;rintro e w1 ⟨rfl,hE1⟩;have HE1:=n8 hE1;clear hE1 H1;go_wp2_with fail;refine (H2 _).mono ?_;rintro e w' ⟨rfl,rfl⟩;clear H2;go_wp2_with fail;refine (HS1 _).mono ?_;rintro e w2 ⟨rfl,oY⟩;have HE2:=n8 (aC.trans HE1 oY);clear oY HS1;go_wp2_with fail;refine (HS2 _).mono ?_;rintro e w3 ⟨rfl,oh⟩;have HE3:=n8 (aC.trans HE2 oh);clear oh HS2;go_wp2_with fail;refine (qI _ HE3).mono ?_;rintro e w4 ⟨rfl,hE4⟩;have HE4:=n8 (aC.trans HE3 hE4);clear hE4 qI;go_wp2_with fail;refine (HADD _ HE4).mono ?_;rintro e w5 ⟨rfl,ou⟩;have HE5:=n8 (aC.trans HE4 ou);clear ou HADD;go_wp2_with fail;refine (pS _ HE5).mono ?_;rintro e w6 ⟨rfl,og⟩;have HE6:=n8 (aC.trans HE5 og);clear og pS;go_wp2_with fail;refine (HJ1 _).mono ?_;rintro e w' ⟨rfl,rfl⟩;clear HJ1;go_wp2_with fail;refine (HJ2 _).mono ?_;rintro e w' ⟨rfl,rfl⟩;clear HJ2;go_wp2_with fail;go_ret3;exact ⟨rfl,HE6⟩
   ·have H1:Hid (∀ W,Calls prog 119 #[.string (aD x),.int .i64 18] W fun e w'=>e=.returned (.tuple #[.int .i64 0,.bool false])/\W=w'):=fun W=>fD x 18 W hs1;clear hs1
    go_enter func94,ntmps94
    go_wp2_with fail;refine (H1 _).mono ?_;rintro e w' ⟨rfl,rfl⟩;have HE1:=n8 (aC.refl w);clear H1;go_wp2_with fail;refine (HS1 _).mono ?_;rintro e w2 ⟨rfl,oY⟩;have HE2:=n8 (aC.trans HE1 oY);clear oY HS1;go_wp2_with fail;refine (HS2 _).mono ?_;rintro e w3 ⟨rfl,oh⟩;have HE3:=n8 (aC.trans HE2 oh);clear oh HS2;go_wp2_with fail;refine (qI _ HE3).mono ?_;rintro e w4 ⟨rfl,hE4⟩;have HE4:=n8 (aC.trans HE3 hE4);clear hE4 qI;go_wp2_with fail;refine (HADD _ HE4).mono ?_;rintro e w5 ⟨rfl,ou⟩;have HE5:=n8 (aC.trans HE4 ou);clear ou HADD;go_wp2_with fail;refine (pS _ HE5).mono ?_;rintro e w6 ⟨rfl,og⟩;have HE6:=n8 (aC.trans HE5 og);clear og pS;go_wp2_with fail;refine (HJ1 _).mono ?_;rintro e w' ⟨rfl,rfl⟩;clear HJ1;go_wp2_with fail;refine (HJ2 _).mono ?_;rintro e w' ⟨rfl,rfl⟩;clear HJ2;go_wp2_with fail;go_ret3;exact ⟨rfl,HE6⟩
 ·by_cases s6:R=0
  ·have hf:=HFD.out;rw [if_neg (by simp [s6]),if_neg (by simp [s6])] at hf;have HJ1:=n8 (HJ true Q HSZ.1);have HJ2:=n8 (HJ false R HSZ.2.2.1);rw [show sgn true Q=F1 from hf.1.symm] at HJ1;rw [show sgn false R=F2 from hf.2.symm] at HJ2;rw [oS s6] at hrz;clear hf HFD s6;rcases pg with ⟨hs1,hs2⟩ | hs1
   ·have H1:=n8 (fE x 18 w (by have:=HX hs1;omega) (by have:=HX hs1;omega) hs1 (by omega));have H2:Hid (∀ W,Calls prog 119 #[.string (aD y),.int .i64 18] W fun e w'=>e=.returned (.tuple #[.int .i64 0,.bool false])/\W=w'):=fun W=>fD y 18 W hs2;clear hs1 hs2
    go_enter func94,ntmps94
    go_wp2_with fail;refine H1.mono ?_;rintro e w1 ⟨rfl,hE1⟩;have HE1:=n8 hE1;clear hE1 H1;go_wp2_with fail;refine (H2 _).mono ?_;rintro e w' ⟨rfl,rfl⟩;clear H2;go_wp2_with fail;refine (HS1 _).mono ?_;rintro e w2 ⟨rfl,oY⟩;have HE2:=n8 (aC.trans HE1 oY);clear oY HS1;go_wp2_with fail;refine (HS2 _).mono ?_;rintro e w3 ⟨rfl,oh⟩;have HE3:=n8 (aC.trans HE2 oh);clear oh HS2;go_wp2_with fail;refine (qI _ HE3).mono ?_;rintro e w4 ⟨rfl,hE4⟩;have HE4:=n8 (aC.trans HE3 hE4);clear hE4 qI;go_wp2_with fail;refine (HJ1 _).mono ?_;rintro e w' ⟨rfl,rfl⟩;clear HJ1;go_wp2_with fail;refine (HJ2 _).mono ?_;rintro e w' ⟨rfl,rfl⟩;clear HJ2;go_wp2_with fail;go_ret3;exact ⟨rfl,HE4⟩
   ·have H1:Hid (∀ W,Calls prog 119 #[.string (aD x),.int .i64 18] W fun e w'=>e=.returned (.tuple #[.int .i64 0,.bool false])/\W=w'):=fun W=>fD x 18 W hs1;clear hs1
    go_enter func94,ntmps94
    go_wp2_with fail;refine (H1 _).mono ?_;rintro e w' ⟨rfl,rfl⟩;have HE1:=n8 (aC.refl w);clear H1;go_wp2_with fail;refine (HS1 _).mono ?_;rintro e w2 ⟨rfl,oY⟩;have HE2:=n8 (aC.trans HE1 oY);clear oY HS1;go_wp2_with fail;refine (HS2 _).mono ?_;rintro e w3 ⟨rfl,oh⟩;have HE3:=n8 (aC.trans HE2 oh);clear oh HS2;go_wp2_with fail;refine (qI _ HE3).mono ?_;rintro e w4 ⟨rfl,hE4⟩;have HE4:=n8 (aC.trans HE3 hE4);clear hE4 qI;go_wp2_with fail;refine (HJ1 _).mono ?_;rintro e w' ⟨rfl,rfl⟩;clear HJ1;go_wp2_with fail;refine (HJ2 _).mono ?_;rintro e w' ⟨rfl,rfl⟩;clear HJ2;go_wp2_with fail;go_ret3;exact ⟨rfl,HE4⟩
  ·have hf:=HFD.out;rw [if_pos ⟨rfl,s6⟩,if_pos ⟨rfl,s6⟩] at hf;have HJ1:=n8 (HJ true (Q+1) HSZ.2.1);have HJ2:=n8 (HJ false (v-R) HSZ.2.2.2);rw [show sgn true (Q+1)=F1 from hf.1.symm] at HJ1;rw [show sgn false (v-R)=F2 from hf.2.symm] at HJ2;rw [oR s6] at hrz;clear hf HFD s6;rcases pg with ⟨hs1,hs2⟩ | hs1
   ·have H1:=n8 (fE x 18 w (by have:=HX hs1;omega) (by have:=HX hs1;omega) hs1 (by omega));have H2:Hid (∀ W,Calls prog 119 #[.string (aD y),.int .i64 18] W fun e w'=>e=.returned (.tuple #[.int .i64 0,.bool false])/\W=w'):=fun W=>fD y 18 W hs2;clear hs1 hs2
    go_enter func94,ntmps94
    go_wp2_with fail;refine H1.mono ?_;rintro e w1 ⟨rfl,hE1⟩;have HE1:=n8 hE1;clear hE1 H1;go_wp2_with fail;refine (H2 _).mono ?_;rintro e w' ⟨rfl,rfl⟩;clear H2;go_wp2_with fail;refine (HS1 _).mono ?_;rintro e w2 ⟨rfl,oY⟩;have HE2:=n8 (aC.trans HE1 oY);clear oY HS1;go_wp2_with fail;refine (HS2 _).mono ?_;rintro e w3 ⟨rfl,oh⟩;have HE3:=n8 (aC.trans HE2 oh);clear oh HS2;go_wp2_with fail;refine (qI _ HE3).mono ?_;rintro e w4 ⟨rfl,hE4⟩;have HE4:=n8 (aC.trans HE3 hE4);clear hE4 qI;go_wp2_with fail;refine (HADD _ HE4).mono ?_;rintro e w5 ⟨rfl,ou⟩;have HE5:=n8 (aC.trans HE4 ou);clear ou HADD;go_wp2_with fail;refine (pS _ HE5).mono ?_;rintro e w6 ⟨rfl,og⟩;have HE6:=n8 (aC.trans HE5 og);clear og pS;go_wp2_with fail;refine (HJ1 _).mono ?_;rintro e w' ⟨rfl,rfl⟩;clear HJ1;go_wp2_with fail;refine (HJ2 _).mono ?_;rintro e w' ⟨rfl,rfl⟩;clear HJ2;go_wp2_with fail;go_ret3;exact ⟨rfl,HE6⟩
   ·have H1:Hid (∀ W,Calls prog 119 #[.string (aD x),.int .i64 18] W fun e w'=>e=.returned (.tuple #[.int .i64 0,.bool false])/\W=w'):=fun W=>fD x 18 W hs1;clear hs1
    go_enter func94,ntmps94
    go_wp2_with fail;refine (H1 _).mono ?_;rintro e w' ⟨rfl,rfl⟩;have HE1:=n8 (aC.refl w);clear H1;go_wp2_with fail;refine (HS1 _).mono ?_;rintro e w2 ⟨rfl,oY⟩;have HE2:=n8 (aC.trans HE1 oY);clear oY HS1;go_wp2_with fail;refine (HS2 _).mono ?_;rintro e w3 ⟨rfl,oh⟩;have HE3:=n8 (aC.trans HE2 oh);clear oh HS2;go_wp2_with fail;refine (qI _ HE3).mono ?_;rintro e w4 ⟨rfl,hE4⟩;have HE4:=n8 (aC.trans HE3 hE4);clear hE4 qI;go_wp2_with fail;refine (HADD _ HE4).mono ?_;rintro e w5 ⟨rfl,ou⟩;have HE5:=n8 (aC.trans HE4 ou);clear ou HADD;go_wp2_with fail;refine (pS _ HE5).mono ?_;rintro e w6 ⟨rfl,og⟩;have HE6:=n8 (aC.trans HE5 og);clear og pS;go_wp2_with fail;refine (HJ1 _).mono ?_;rintro e w' ⟨rfl,rfl⟩;clear HJ1;go_wp2_with fail;refine (HJ2 _).mono ?_;rintro e w' ⟨rfl,rfl⟩;clear HJ2;go_wp2_with fail;go_ret3;exact ⟨rfl,HE6⟩
 ·have hf:=HFD.out;rw [if_neg (by simp),if_neg (by simp)] at hf;have HJ1:=n8 (HJ false Q HSZ.1);have HJ2:=n8 (HJ true R HSZ.2.2.1);rw [show sgn false Q=F1 from hf.1.symm] at HJ1;rw [show sgn true R=F2 from hf.2.symm] at HJ2;clear hf HFD hrz;rcases pg with ⟨hs1,hs2⟩ | hs1
  ·have H1:=n8 (fE x 18 w (by have:=HX hs1;omega) (by have:=HX hs1;omega) hs1 (by omega));have H2:Hid (∀ W,Calls prog 119 #[.string (aD y),.int .i64 18] W fun e w'=>e=.returned (.tuple #[.int .i64 0,.bool false])/\W=w'):=fun W=>fD y 18 W hs2;clear hs1 hs2
   go_enter func94,ntmps94
   go_wp2_with fail;refine H1.mono ?_;rintro e w1 ⟨rfl,hE1⟩;have HE1:=n8 hE1;clear hE1 H1;go_wp2_with fail;refine (H2 _).mono ?_;rintro e w' ⟨rfl,rfl⟩;clear H2;go_wp2_with fail;refine (HS1 _).mono ?_;rintro e w2 ⟨rfl,oY⟩;have HE2:=n8 (aC.trans HE1 oY);clear oY HS1;go_wp2_with fail;refine (HS2 _).mono ?_;rintro e w3 ⟨rfl,oh⟩;have HE3:=n8 (aC.trans HE2 oh);clear oh HS2;go_wp2_with fail;refine (qI _ HE3).mono ?_;rintro e w4 ⟨rfl,hE4⟩;have HE4:=n8 (aC.trans HE3 hE4);clear hE4 qI;go_wp2_with fail;refine (HJ1 _).mono ?_;rintro e w' ⟨rfl,rfl⟩;clear HJ1;go_wp2_with fail;refine (HJ2 _).mono ?_;rintro e w' ⟨rfl,rfl⟩;clear HJ2;go_wp2_with fail;go_ret3;exact ⟨rfl,HE4⟩
  ·have H1:Hid (∀ W,Calls prog 119 #[.string (aD x),.int .i64 18] W fun e w'=>e=.returned (.tuple #[.int .i64 0,.bool false])/\W=w'):=fun W=>fD x 18 W hs1;clear hs1
   go_enter func94,ntmps94
   go_wp2_with fail;refine (H1 _).mono ?_;rintro e w' ⟨rfl,rfl⟩;have HE1:=n8 (aC.refl w);clear H1;go_wp2_with fail;refine (HS1 _).mono ?_;rintro e w2 ⟨rfl,oY⟩;have HE2:=n8 (aC.trans HE1 oY);clear oY HS1;go_wp2_with fail;refine (HS2 _).mono ?_;rintro e w3 ⟨rfl,oh⟩;have HE3:=n8 (aC.trans HE2 oh);clear oh HS2;go_wp2_with fail;refine (qI _ HE3).mono ?_;rintro e w4 ⟨rfl,hE4⟩;have HE4:=n8 (aC.trans HE3 hE4);clear hE4 qI;go_wp2_with fail;refine (HJ1 _).mono ?_;rintro e w' ⟨rfl,rfl⟩;clear HJ1;go_wp2_with fail;refine (HJ2 _).mono ?_;rintro e w' ⟨rfl,rfl⟩;clear HJ2;go_wp2_with fail;go_ret3;exact ⟨rfl,HE4⟩
end Go.Proofs.YtjlkkofmojgipaaGreatDoor
