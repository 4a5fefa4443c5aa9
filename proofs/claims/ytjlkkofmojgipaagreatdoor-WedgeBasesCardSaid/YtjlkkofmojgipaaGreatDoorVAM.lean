import Derived.Test.YtjlkkofmojgipaaGreatDoorVAL
import Derived.Test.YtjlkkofmojgipaaGreatDoorVAJ
import Derived.Deep.CutRange
import Derived.Deep.RegionHeld3
import Derived.Test.YtjlkkofmojgipaaGreatDoorVAG
import Derived.Test.YtjlkkofmojgipaaGreatDoorVAK
import Derived.RangeFuncNested
import Derived.RangeFuncBound
import Derived.RangeFuncCalls
import Derived.RangeFuncLeaves
import Derived.Shelf.Abstract
import Derived.Shelf.RegionOpen
import Derived.WalkKit
import Derived.OwnWalkIn
import Derived.TacticsInMore
import Derived.LoopNIn
import Derived.LoopIn
import Derived.RangeFuncBox
import Derived.Test.YtjlkkofmojgipaaGreatDoorVAA
import Derived.Test.YtjlkkofmojgipaaGreatDoorVAF
import Derived.Sort.QuietIn
import Derived.Test.YtjlkkofmojgipaaGreatDoorVAI
set_option linter.unusedVariables false
set_option linter.unusedSimpArgs false
set_option maxRecDepth 1000000
set_option maxHeartbeats 4000000
namespace Go.Proofs.YtjlkkofmojgipaaGreatDoor
open Go.RowKit Go.Proofs.Tryz
theorem mL (u:Nat) (w:World) (hs:(aE u).size<=400000) :
  Calls prog 130 #[.string (aE u)] w fun e w'=>∃ v l,e=.returned v/\Hid (a_ w.heap.size w' v l/\ah l/\lv l=u/\l.length<=(aE u).size)/\aA w w':=by
 have h:=Z12 (aE u) w (by rw [fM];exact gL _) hs;rw [fM,fy] at h;exact h
theorem j7 (n:Int):(aE n.natAbs).size<=(aB n).size:=by
 by_cases h:n<0;·rw [jW n h];omega
 ·rw [c_ n (by omega)];have:n.natAbs=n.toNat:=by omega
  rw [this];exact oK _
theorem b4_ (x y:Int) (w:World) (hx:(aB x).size<=15000) (hy:(aB y).size<=15000) (ht:ae w) :
  oX 73 #[.string (aB x),.string (aB y)] w (.string (aB (x+y))):=by
 have HT:=oA ht;have hux:=j7 x;have huy:=j7 y;have H1:=oA (X3_ x w (by omega));have H2:Hid (∀ W,oX 126 #[.string (aB y)] W (.tuple #[.int .i64 (g_ y),.bool (ez y)])):=fun W=>X3_ y W (by omega);by_cases hsm:x.natAbs<1000000000000000000/\y.natAbs<1000000000000000000
 ·have b1:ez x=true:=oT hsm.1;have b2:ez y=true:=oT hsm.2;have v1:g_ x=x:=if_pos hsm.1;have v2:g_ y=y:=if_pos hsm.2;rw [b1,v1] at H1;rw [b2,v2] at H2;have H3:Hid (∀ W,aA w W->oX 69 #[.int .i64 (x+y)] W (.string (aB (x+y)))):=fun W hE=>nn _ W (by omega) (by omega) (HT.ext hE);have k1:-2000000000000000000<x+y:=by omega
  have k2:x+y<2000000000000000000:=by omega
  clear b1 b2 v1 v2 hsm ht
  go_enter func73,ntmps73
  go_wp2_with fail;refine o_ H1 ?_;intro w1 HE1;clear H1;go_wp2_with fail;refine p_ (H2 _) (aA.trans HE1) ?_;intro w2 HE2;clear H2;go_wp2_with fail;refine p_ (H3 _ HE2) (aA.trans HE2) ?_;intro w3 HE3;clear H3;go_wp2_with fail;go_ret;exact ⟨rfl,HE3⟩
 ·have hbb:ez x=false\/(ez x=true/\ez y=false):=by
   unfold ez;by_cases h1:x.natAbs<1000000000000000000;·exact .inr ⟨oT h1,oS (fun h2=>hsm ⟨h1,h2⟩)⟩
   ·exact .inl (oS h1)
  obtain ⟨vx,qg⟩:=oc (g_ x);obtain ⟨vy,zK⟩:=oc (g_ y);rw [<- qg] at H1;rw [<- zK] at H2;have HDX:Hid (∀ W,oY 115 #[.string (aB x)] W (.string (aE x.natAbs))):=fun W=>kE x W;have BI:Hid (∀ W,oY 115 #[.string (aB y)] W (.string (aE y.natAbs))):=fun W=>kE y W;obtain ⟨s1,hs1⟩:=oc (cQ x);obtain ⟨s2,hs2⟩:=oc (cQ y);have vb:Hid (∀ W,oY 128 #[.string (aB x)] W (.int .i64 s1)):=fun W=>by rw [hs1];exact mJ x W
  have HSY:Hid (∀ W,oY 128 #[.string (aB y)] W (.int .i64 s2)):=fun W=>by rw [hs2];exact mJ y W
  have HF1:Hid (s1=s2->dM (decide (s1<0)) (x.natAbs+y.natAbs)=x+y):=by
   intro e;rw [hs1,hs2] at e;rw [hs1];unfold cQ at e |-;unfold dM;by_cases h1:x<0 <;> by_cases h2:y<0 <;> simp [h1,h2] at e |- <;> omega
  have HF2:Hid (s1≠s2->y.natAbs<=x.natAbs->dM (decide (s1<0)) (x.natAbs-y.natAbs)=x+y):=by
   intro e;rw [hs1,hs2] at e;rw [hs1];unfold cQ at e |-;unfold dM;by_cases h1:x<0 <;> by_cases h2:y<0 <;> simp [h1,h2] at e |- <;> omega
  have HF3:Hid (s1≠s2->x.natAbs<=y.natAbs->dM (decide (s2<0)) (y.natAbs-x.natAbs)=x+y):=by
   intro e;rw [hs1,hs2] at e;rw [hs2];unfold cQ at e |-;unfold dM;by_cases h1:x<0 <;> by_cases h2:y<0 <;> simp [h1,h2] at e |- <;> omega
  clear hsm ht qg zK hs1 hs2;rcases hbb with hb | ⟨hb,hb2⟩
  case' inl =>
   rw [hb] at H1;obtain ⟨by',hby⟩:=oc (ez y);rw [<- hby] at H2;clear hb hby
  case' inr =>
   rw [hb] at H1;rw [hb2] at H2;clear hb hb2
  all_goals
   go_enter func73,ntmps73
   go_wp2_with fail;refine o_ H1 ?_;intro w1 HE1;clear H1;go_wp2_with fail;refine p_ (H2 _) (aA.trans HE1) ?_;intro w2 HE2;clear H2;go_wp2_with fail;refine q_ (HDX _) ?_;go_wp2_with fail;refine (mL _ _ (by omega)).mono ?_;rintro e w3 ⟨r3,l3,rfl,xE,oz⟩;have HR3:=oA xE;have HE3:=oA (aA.trans HE2 oz);clear xE oz;go_wp2_with fail;refine q_ (BI _) ?_;go_wp2_with fail;refine (mL _ _ (by omega)).mono ?_;rintro e w4 ⟨r4,l4,rfl,vN,hE4⟩;have HR4:=oA vN;have HE4:=oA (aA.trans HE3 hE4);have HA3:=oA ((HR3.out.out.1.at).ext hE4);have yj:l3.length<=15000:=by have:=HR3.out.out.2.2.2;omega
   have AT:l4.length<=15000:=(by have:=HR4.out.out.2.2.2;omega);clear vN hE4;go_wp2_with fail;refine q_ (vb _) ?_;go_wp2_with fail;refine q_ (HSY _) ?_;by_cases rH:s1=s2
   ·have q1:(s1 == s2)=true:=(by rw [rH];exact beq_self_eq_true _);have HR:=oA (HF1 rH);clear rH HF1 HF2 HF3;go_wp2_with fail;refine q_ (vb _) ?_;go_wp2_with fail;refine (Z31 l3 l4 _ _ _ HA3 HR4.out.out.1.at HR3.out.out.2.1.1 HR4.out.out.2.1.1 (by omega) (by omega)).mono ?_;rintro e w5 ⟨r5,l5,rfl,tG,o5⟩;have HE5:=oA (aA.trans HE4 o5);have HSG:=oA (mK _ (decide (s1<0)) l5 r5 w5 tG.out.1 tG.out.2.1 (by have:=tG.out.2.2.2;omega) (HT.ext HE5));rw [tG.out.2.2.1,HR3.out.out.2.2.1,HR4.out.out.2.2.1,HR.out] at HSG;clear tG o5;go_wp2_with fail;refine p_ HSG (aA.trans HE5) ?_;intro w6 HE6;go_wp2_with fail;go_ret;exact ⟨rfl,HE6⟩
   ·have q1:(s1 == s2)=false:=(by rw [beq_eq_false_iff_ne];exact rH);have HR2:=oA (HF2 rH);have HR3':=oA (HF3 rH);clear rH HF1 HF2 HF3;go_wp2_with fail;refine (B3_ l3 l4 _ _ _ HA3 HR4.out.out.1.at HR3.out.out.2.1 HR4.out.out.2.1 (by omega) (by omega)).mono ?_;rintro e w5 ⟨rfl,o5⟩;have HE5:=oA (aA.trans HE4 o5);have HX5:=oA o5;rw [HR3.out.out.2.2.1,HR4.out.out.2.2.1];clear o5;by_cases hle:y.natAbs<=x.natAbs
    ·have hc:0<=bg x.natAbs y.natAbs:=by
      unfold bg;rw [if_neg (by omega)];split <;> omega
     have HR:=oA (HR2 hle);have HLE:=oA hle;obtain ⟨c,qX⟩:=oc (bg x.natAbs y.natAbs);rw [<- qX] at hc |-;clear qX hle;go_wp2_with fail;refine q_ (vb _) ?_;go_wp2_with fail;refine (P9_ l3 l4 _ _ _ (HA3.ext HX5) ((HR4.out.out.1.at).ext HX5) HR3.out.out.2.1 HR4.out.out.2.1 (by rw [HR3.out.out.2.2.1,HR4.out.out.2.2.1];exact HLE) (by omega)).mono ?_;rintro e w6 ⟨r6,l6,rfl,vM,ou⟩;have HE6:=oA (aA.trans HE5 ou);have HSG:=oA (mK _ (decide (s1<0)) l6 r6 w6 vM.out.1 vM.out.2.1.1 (by have:=vM.out.2.2.2;omega) (HT.ext HE6));rw [vM.out.2.2.1,HR3.out.out.2.2.1,HR4.out.out.2.2.1,HR.out] at HSG;clear vM ou;go_wp2_with fail;refine p_ HSG (aA.trans HE6) ?_;intro w7 HE7;go_wp2_with fail;go_ret;exact ⟨rfl,HE7⟩
    ·have hc:¬ 0<=bg x.natAbs y.natAbs:=(by rw [kW (by omega)];omega);have HR:=oA (HR3' (by omega));have HLE:Hid (x.natAbs<=y.natAbs):=(by unfold Hid;omega);obtain ⟨c,qX⟩:=oc (bg x.natAbs y.natAbs);rw [<- qX] at hc |-;clear qX hle;go_wp2_with fail;refine q_ (HSY _) ?_;go_wp2_with fail;refine (P9_ l4 l3 _ _ _ ((HR4.out.out.1.at).ext HX5) (HA3.ext HX5) HR4.out.out.2.1 HR3.out.out.2.1 (by rw [HR3.out.out.2.2.1,HR4.out.out.2.2.1];exact HLE) (by omega)).mono ?_;rintro e w6 ⟨r6,l6,rfl,vM,ou⟩;have HE6:=oA (aA.trans HE5 ou);have HSG:=oA (mK _ (decide (s2<0)) l6 r6 w6 vM.out.1 vM.out.2.1.1 (by have:=vM.out.2.2.2;omega) (HT.ext HE6));rw [vM.out.2.2.1,HR3.out.out.2.2.1,HR4.out.out.2.2.1,HR.out] at HSG;clear vM ou;go_wp2_with fail;refine p_ HSG (aA.trans HE6) ?_;intro w7 HE7;go_wp2_with fail;go_ret;exact ⟨rfl,HE7⟩
theorem b6_ (x y:Int) (w:World) (hx:(aB x).size<=15000) (hy:(aB y).size<=14000) (ht:ae w) :
  oX 144 #[.string (aB x),.string (aB y)] w (.string (aB (x-y))):=by
 have HN:=oA (Z4z y w (by omega));have yO:(aB (-y)).size<=15000:=by
  have h1:=er (-y);have h2:=j7 y;rw [Int.natAbs_neg] at h1;omega
 have HA:=oA (b4_ x (-y) w hx yO ht);rw [<- Int.sub_eq_add_neg] at HA;clear ht
 go_enter func144,ntmps144
 go_wp2_with fail;refine q_ HN ?_;go_wp2_with fail;refine o_ HA ?_;intro w2 HE2;go_wp2_with fail;go_ret;exact ⟨rfl,HE2⟩
theorem b5_ (x y:Int) (w:World) (hx:(aB x).size<=15000) (hy:(aB y).size<=15000) (ht:ae w) :
  oX 68 #[.string (aB x),.string (aB y)] w (.string (aB (x*y))):=by
 have HT:=oA ht;have hux:=j7 x;have huy:=j7 y;have HDX:Hid (∀ W,oY 115 #[.string (aB x)] W (.string (aE x.natAbs))):=fun W=>kE x W;have BI:Hid (∀ W,oY 115 #[.string (aB y)] W (.string (aE y.natAbs))):=fun W=>kE y W;by_cases hsm:(aE x.natAbs).size+(aE y.natAbs).size<=18
 ·have hX:=Lib.lt_pow_nDigits x.natAbs;have hY:=Lib.lt_pow_nDigits y.natAbs;have hsm':=hsm;rw [dn,dn] at hsm';have hpp:x.natAbs*y.natAbs<10^18:=by
   have h1:x.natAbs*y.natAbs<10^Lib.nDigits x.natAbs*10^Lib.nDigits y.natAbs:=Nat.mul_lt_mul'' hX hY;rw [<- Nat.pow_add] at h1;exact oI h1 (Nat.pow_le_pow_right (by omega) hsm')
  rw [show (10:Nat)^18=1000000000000000000 by decide,<- Int.natAbs_mul] at hpp;have KE:x.natAbs<1000000000000000000:=by
   have:10^Lib.nDigits x.natAbs<=10^18:=Nat.pow_le_pow_right (by omega) (by omega);rw [show (10:Nat)^18=1000000000000000000 by decide] at this;omega
  have KA:y.natAbs<1000000000000000000:=by
   have:10^Lib.nDigits y.natAbs<=10^18:=Nat.pow_le_pow_right (by omega) (by omega);rw [show (10:Nat)^18=1000000000000000000 by decide] at this;omega
  have H1:Hid (∀ W,oX 126 #[.string (aB x)] W (.tuple #[.int .i64 x,.bool true])):=fun W=>np x W (by omega);have H2:Hid (∀ W,oX 126 #[.string (aB y)] W (.tuple #[.int .i64 y,.bool true])):=fun W=>np y W (by omega);obtain ⟨z,hz⟩:=oZ (x*y);rw [hz] at hpp |-;have H3:Hid (∀ W,aA w W->oX 69 #[.int .i64 z] W (.string (aB z))):=fun W hE=>nn _ W (by omega) (by omega) (HT.ext hE);have hsz:((aE x.natAbs).size:Int)+((aE y.natAbs).size:Int)<=18:=by omega
  have k1:-1000000000000000000<z:=by omega
  have k2:z<1000000000000000000:=by omega
  have e1:IntKind.i64.wrap z=z:=by rw [IntKind.wrap_i64];omega
  clear hX hY hsm' hpp hsm
  go_enter func68,ntmps68
  go_wp2_with fail;refine q_ (HDX _) ?_;go_wp2_with fail;refine q_ (BI _) ?_;go_wp2_with fail;refine o_ (H1 _) ?_;intro w1 HE1;clear H1;go_wp2_with fail;refine p_ (H2 _) (aA.trans HE1) ?_;intro w2 HE2;clear H2;go_wp2_with fail;refine p_ (H3 _ HE2) (aA.trans HE2) ?_;intro w3 HE3;clear H3;go_wp2_with fail;go_ret;exact ⟨rfl,HE3⟩
 ·have hsz:¬ ((aE x.natAbs).size:Int)+((aE y.natAbs).size:Int)<=18:=by omega
  obtain ⟨s1,hs1⟩:=oc (cQ x);obtain ⟨s2,hs2⟩:=oc (cQ y);have vb:Hid (∀ W,oY 128 #[.string (aB x)] W (.int .i64 s1)):=fun W=>by rw [hs1];exact mJ x W
  have HSY:Hid (∀ W,oY 128 #[.string (aB y)] W (.int .i64 s2)):=fun W=>by rw [hs2];exact mJ y W
  have HF:Hid (dM (s1 != s2) (x.natAbs*y.natAbs)=x*y):=by
   unfold Hid;rw [hs1,hs2];unfold cQ dM;have e:((x.natAbs*y.natAbs:Nat):Int)=((x.natAbs:Int)*(y.natAbs:Int)):=Int.natCast_mul _ _;by_cases h1:x<0 <;> by_cases h2:y<0
   ·have e1:x=-(x.natAbs:Int):=(by omega);have e2:y=-(y.natAbs:Int):=(by omega);simp only [h1,h2,if_true,bne_self_eq_false,Bool.false_eq_true,if_false,e];rw (occs:=.pos [2]) [e1]
    conv=>rhs;rw [e2]
    rw [Int.neg_mul_neg]
   ·have e1:x=-(x.natAbs:Int):=(by omega);have e2:y=(y.natAbs:Int):=(by omega);have e3:((-1:Int) != 1)=true:=(by decide);simp only [h1,h2,if_true,if_false,e,e3];rw (occs:=.pos [2]) [e1]
    conv=>rhs;rw [e2]
    rw [Int.neg_mul]
   ·have e1:x=(x.natAbs:Int):=(by omega);have e2:y=-(y.natAbs:Int):=(by omega);have e3:((1:Int) != -1)=true:=(by decide);simp only [h1,h2,if_true,if_false,e,e3];rw (occs:=.pos [2]) [e1]
    conv=>rhs;rw [e2]
    rw [Int.mul_neg]
   ·have e1:x=(x.natAbs:Int):=(by omega);have e2:y=(y.natAbs:Int):=(by omega);simp only [h1,h2,if_false,bne_self_eq_false,Bool.false_eq_true,e];rw (occs:=.pos [2]) [e1]
    conv=>rhs;rw [e2]
  clear hsm hs1 hs2
  go_enter func68,ntmps68
  go_wp2_with fail;refine q_ (HDX _) ?_;go_wp2_with fail;refine q_ (BI _) ?_;go_wp2_with fail;refine q_ (vb _) ?_;go_wp2_with fail;refine q_ (HSY _) ?_;go_wp2_with fail;refine q_ (HDX _) ?_;go_wp2_with fail;refine (mL _ _ (by omega)).mono ?_;rintro e w3 ⟨r3,l3,rfl,xE,oz⟩;have HR3:=oA xE;have HE3:=oA oz;clear xE oz;go_wp2_with fail;refine q_ (BI _) ?_;go_wp2_with fail;refine (mL _ _ (by omega)).mono ?_;rintro e w4 ⟨r4,l4,rfl,vN,hE4⟩;have HR4:=oA vN;have HE4:=oA (aA.trans HE3 hE4);have HA3:=oA ((HR3.out.out.1.at).ext hE4);have yj:l3.length<=15000:=by have:=HR3.out.out.2.2.2;omega
  have AT:l4.length<=15000:=by have:=HR4.out.out.2.2.2;omega
  clear vN hE4;go_wp2_with fail;refine (O0_ l3 l4 _ _ _ HA3 HR4.out.out.1.at HR3.out.out.2.1.1 HR4.out.out.2.1.1 (by omega) (by omega)).mono ?_;rintro e w5 ⟨r5,l5,rfl,tG,o5⟩;have HE5:=oA (aA.trans HE4 o5);have HSG:=oA (mK _ (s1 != s2) l5 r5 w5 tG.out.1 tG.out.2.1.1 (by have:=tG.out.2.2.2;omega) (HT.ext HE5));rw [tG.out.2.2.1,HR3.out.out.2.2.1,HR4.out.out.2.2.1,HF.out] at HSG;clear tG o5;go_wp2_with fail;refine p_ HSG (aA.trans HE5) ?_;intro w6 HE6;go_wp2_with fail;go_ret;exact ⟨rfl,HE6⟩
theorem x0_:(prog.info? 27).map (fun i=>(i.zero,i.size,i.bytes))=some (some (.slice none 0 0),1,24):=by kernel_rfl
theorem eS.ofOwn {w:World} {B g n c:Nat} {xs:og} (h:w.ownsRow B 3 1 (.slice (some ⟨g,0,none⟩) n c) n (xs.map (Value.int .i64 ·))):eS w g xs:=by
 have hl:=h.lt g (by simp [Value.ownBlock]);have hc:=h.cells (g:=g) (by simp [Value.ownBlock]);refine ⟨hl.2,fun j x hx=>?_,fun j=>h.frozenAt j⟩;have:=hc j (.int .i64 x) (by rw [oF,hx];rfl);rw [show (⟨g,0,none⟩:Addr).add j=⟨g,j,none⟩ by unfold Addr.add;split <;> simp_all] at this;exact this
theorem eS.set {w:World} {g:Nat} {xs:og} (h:eS w g xs) (k:Nat) (hk:k<xs.length) (y:Int):eS (w.setCell ⟨g,k,none⟩ (.int .i64 y)) g (xs.set k y):=by
 refine ⟨by rw [db];exact h.lt,fun j x hj=>?_,fun j=>by rw [jw];exact h.free j⟩;rw [oW] at hj;by_cases e:k=j
 ·subst e;rw [if_pos rfl,if_pos hk] at hj;cases hj;exact World.cell?_setCell_same w _ _ (h.cell k _ (oB hk))
 ·rw [if_neg e] at hj;rw [World.cell?_setCell_other _ _ _ _ (by intro e2;simp only [Addr.mk.injEq] at e2;omega)];exact h.cell j x hj
theorem eS.ext {w w':World} {g:Nat} {xs:og} (h:eS w g xs) (he:aA w w'):eS w' g xs:=h.same he.size (he.block g h.lt)
theorem V8_ {α:Type} {xs ys:List α} (hl:xs.length=ys.length) (h:∀ i,i<xs.length->xs[i]?=ys[i]?):xs=ys:=by
 apply List.ext_getElem?;intro i;by_cases hi:i<xs.length;·exact h i hi
 ·rw [oL (by omega),oL (by omega)]
theorem w9_ (xs ys:og) (u v:Value) (w:World) (h:bL w u xs) (k:bL w v ys) :
  oX 34 #[u,v] w (.bool (xs == ys)):=by
 obtain ⟨a,c,rfl,qH,sl,-,-,hx⟩:=h.open;obtain ⟨a',c',rfl,tA,qz,-,-,hy⟩:=k.open;clear h k;unfold maxLen at sl qz;by_cases hl:xs.length=ys.length
 ·have HX:=oA hx;have HY:=oA hy;have HL:=oA hl;have hb:((xs.length:Int) != (ys.length:Int))=false:=by rw [hl];simp
  clear hx hy
  go_enter func34,ntmps34
  go_wp2
  go_loopw [5] (fun t wr=>∃ j:Nat,j<=xs.length/\t=.int .i64 j/\Hid (∀ i,i<j->xs[i]?=ys[i]?)/\aA w wr) (fun t _=>xs.length-(intOf t).toNat)
  case atStart=>exact ⟨0,by omega,rfl,fun i hi=>by omega,aA.refl _⟩
  case round =>
   obtain ⟨j,hj,rfl,HP,hE⟩:=hrel;by_cases hlt:j<xs.length
   ·obtain ⟨b,off,rfl,hb1,pK⟩:=HX (by intro e;rw [e] at hlt;simp at hlt);obtain ⟨b',off',rfl,hb2,hc2⟩:=HY (by intro e;have h0:=HL.out;rw [e] at h0;simp only [List.length_nil] at h0;omega);obtain ⟨x,hx⟩:∃ x,xs[j]?=some x:=⟨xs[j],oB hlt⟩;obtain ⟨y,hy⟩:∃ y,ys[j]?=some y:=⟨ys[j]'(by omega),oB _⟩;have g1:=hE.cell (pK j x hx);have g2:=hE.cell (hc2 j y hy);have Ko:j<ys.length:=(by omega);clear pK hc2;by_cases hxy:x=y
    ·have pf:(x != y)=false:=(by rw [hxy];simp);have HP2:Hid (∀ i,i<j+1->xs[i]?=ys[i]?):=fun i hi=>by
      by_cases e:i=j;·rw [e,hx,hy,hxy]
      ·exact HP i (by omega)
     clear hx hy hxy
     go_wp2
     go_quiet (fail)
     go_wp2
     go_roundw
     case rel=>exact ⟨j+1,by omega,by go_num,HP2,aA.draws hE _⟩
     case measure=>simp [intOf];omega
    ·have pf:(x != y)=true:=(by simpa using hxy);have HQ:Hid ((xs == ys)=false):=by
      unfold Hid;rw [beq_eq_false_iff_ne];intro e;rw [e,hy] at hx;exact hxy (oM hx).symm
     clear hx hy hxy
     go_wp2
     go_quiet (fail)
     go_wp2
     go_ret;exact ⟨by rw [HQ.out];rfl,aA.draws hE _⟩
   ·have HQ:Hid ((xs == ys)=true):=by
     unfold Hid;rw [beq_iff_eq];exact V8_ HL fun i hi=>HP i (by omega)
    go_wp2
    go_ret;exact ⟨by rw [HQ.out];rfl,hE⟩
 ·have hb:((xs.length:Int) != (ys.length:Int))=true:=by simp;omega
  have HQ:Hid ((xs == ys)=false):=by
   unfold Hid;rw [beq_eq_false_iff_ne];intro e;exact hl (by rw [e])
  clear hx hy hl
  go_enter func34,ntmps34
  go_wp2
  go_ret;exact ⟨by rw [HQ.out];rfl,aA.refl _⟩
theorem S4_ (xs ys:oe) (u v:Value) (w:World) (h:bN w u xs) (k:bN w v ys) :
  oX 52 #[u,v] w (.bool (xs == ys)):=by
 obtain ⟨a,c,rfl,qH,sl,-,hx⟩:=bc.open h;obtain ⟨a',c',rfl,tA,qz,-,hy⟩:=bc.open k;clear h k;unfold maxLen at sl qz;by_cases hl:xs.length=ys.length
 ·have HX:=oA hx;have HY:=oA hy;have HL:=oA hl;have hb:((xs.length:Int) != (ys.length:Int))=false:=by rw [hl];simp
  clear hx hy hl
  go_enter func52,ntmps52
  go_wp2
  go_loopw [5] (fun t wr=>∃ j:Nat,j<=xs.length/\t=.int .i64 j/\Hid (∀ i,i<j->xs[i]?=ys[i]?)/\aA w wr) (fun t _=>xs.length-(intOf t).toNat)
  case atStart=>exact ⟨0,by omega,rfl,fun i hi=>by omega,aA.refl _⟩
  case round =>
   obtain ⟨j,hj,rfl,HP,hE⟩:=hrel;obtain ⟨wj,rfl⟩:∃ wj:World,wj=wr:=⟨_,rfl⟩;by_cases hlt:j<xs.length
   ·obtain ⟨b,off,rfl,hb1,pK⟩:=HX (by intro e;rw [e] at hlt;simp at hlt);obtain ⟨b',off',rfl,hb2,hc2⟩:=HY (by intro e;have h0:=HL.out;rw [e] at h0;simp only [List.length_nil] at h0;omega);obtain ⟨x,hx⟩:∃ x,xs[j]?=some x:=⟨xs[j],oB hlt⟩;obtain ⟨y,hy⟩:∃ y,ys[j]?=some y:=⟨ys[j]'(by have:=HL.out;omega),oB _⟩;obtain ⟨p,hp,k1⟩:=pK j x hx;obtain ⟨q,hq,k2⟩:=hc2 j y hy;have g1:=hE.cell k1;have g2:=hE.cell k2;have HC:Hid (∀ W,aA wj W->oX 34 #[p,q] W (.bool (x == y))):=fun W hW=>w9_ x y p q W (hp.ext (hE.trans hW)) (hq.ext (hE.trans hW));have Ko:j<ys.length:=by have:=HL.out;omega
    have xu:Hid ((x == y)=true->∀ i,i<j+1->xs[i]?=ys[i]?):=fun hxy i hi=>by
     by_cases e:i=j;·rw [e,hx,hy,beq_iff_eq.1 hxy]
     ·exact HP i (by omega)
    have vd:Hid ((x == y)=false->(xs == ys)=false):=fun hxy=>by
     rw [beq_eq_false_iff_ne] at hxy |-;intro e;rw [e,hy] at hx;exact hxy (oM hx).symm
    obtain ⟨bb,hbb⟩:=oc ((x == y));rw [<- hbb] at HC xu vd;clear pK hc2 hx hy hp hq k1 k2 hbb;have HE0:Hid (aA wj wj.drew):=aA.drew wj
    go_upto_region 6 with fail
    go_cut [26] from 17 to 25 (fun s wx=>s=.bool (!bb)/\Hid (aA wj wx))
    case first =>
     go_region_held3 (fun w'=>w'.cell? ⟨b,off+j,none⟩=some p/\w'.cell? ⟨b',off'+j,none⟩=some q/\Hid (aA wj w'))
      (first | exact ⟨z1,z2,z3⟩ | exact ⟨g1,g2,HE0⟩ | go_keep)
      (first | (go_at_call 34;refine (HC _ (Hid.out (p:=aA wj _) (by assumption))).mono ?_;rintro e w5 ⟨rfl,o5⟩;have z1:=o5.cell (a:=⟨b,off+j,none⟩) (v:=p) (by assumption);have z2:=o5.cell (a:=⟨b',off'+j,none⟩) (v:=q) (by assumption);have z3:Hid (aA wj w5):=aA.trans (Hid.out (p:=aA wj _) (by assumption)) o5))
     all_goals (go_wp2_with fail;go_meet;exact ⟨rfl,by assumption⟩)
    case rest =>
     obtain ⟨rfl,HX5⟩:=hcut;cases bb
     ·have HQ:=vd rfl;have HQ2:=oA HQ;clear HQ vd xu HC
      go_wp2
      go_ret;exact ⟨by rw [HQ2.out];rfl,hE.trans HX5⟩
     ·have HP2:=oA (xu rfl);clear vd xu HC
      go_wp2
      go_roundw
      case rel=>exact ⟨j+1,by omega,by go_num,HP2,hE.trans HX5⟩
      case measure=>simp [intOf];omega
   ·have HQ:Hid ((xs == ys)=true):=by
     unfold Hid;rw [beq_iff_eq];exact V8_ HL fun i hi=>HP i (by omega)
    go_wp2
    go_ret;exact ⟨by rw [HQ.out];rfl,hE⟩
 ·have hb:((xs.length:Int) != (ys.length:Int))=true:=by simp;omega
  have HQ:Hid ((xs == ys)=false):=by
   unfold Hid;rw [beq_eq_false_iff_ne];intro e;exact hl (by rw [e])
  clear hx hy hl
  go_enter func52,ntmps52
  go_wp2
  go_ret;exact ⟨by rw [HQ.out];rfl,aA.refl _⟩
def Z4m (xss:oe):Nat:=xss.foldl (fun m r=>max m r.length) 0
def Z7h (xss:oe):Prop:=(xss.length<=4/\Z4m xss<=5)\/(12<=xss.length/\xss.length<=14/\Z4m xss<=2)\/(xss.length<=2/\11<=Z4m xss/\Z4m xss<=14)
instance (xss:oe):Decidable (Z7h xss):=inferInstanceAs (Decidable (_\/_))
theorem h6_ (xss:oe) (v:Value) (w:World) (h:bN w v xss) :
  oY 98 #[v] w (.int .i64 (bZ xss:Int)):=by
 obtain ⟨a,c,rfl,h1,h2,-,hc⟩:=bc.open h;clear h;cases xss with
 | nil =>
  go_enter func98,ntmps98
  go_wp2_with fail;go_ret;exact ⟨rfl,rfl⟩
 | cons r l =>
  obtain ⟨b,off,rfl,hb,hcell⟩:=hc (by simp);obtain ⟨vx,qg,hcx⟩:=hcell 0 r rfl;rw [Nat.add_zero] at hcx;obtain ⟨ax,cx,rfl,-,-,-,-,-⟩:=bL.open qg;have hz:(((r::l).length:Int) == 0)=false:=by rw [beq_eq_false_iff_ne,List.length_cons];omega
  have hp:(0:Int)<((r::l).length:Int):=by rw [List.length_cons];omega
  have HCN:Hid (bZ (r::l)=r.length):=rfl;obtain ⟨n,hn⟩:=oc ((r::l).length);rw [<- hn] at hz hp |-;rw [HCN.out];clear hc hcell qg h1 hn
  go_enter func98,ntmps98
  go_wp2_with fail;go_ret;exact ⟨rfl,rfl⟩
def Z6B (x:og):Prop:=∀ a∈x,-1000000000<=a/\a<=1000000000
end Go.Proofs.YtjlkkofmojgipaaGreatDoor
namespace Go.Proofs.YtjlkkofmojgipaaGreatDoor
open Go.RowKit Go.Shelf Go.Proofs.Tryz
structure ff (T:TypeId) (A B:World):Prop where
 size:A.heap.size<=B.heap.size
 same:∀ (b:Nat) C fr,A.heap[b]?=some (.cells C T fr)->B.heap[b]?=some (.cells C T fr)
theorem ff.refl (T:TypeId) (A:World):ff T A A:=⟨oK _,fun _ _ _ h=>h⟩
theorem ff.trans {T:TypeId} {A B C:World} (h:ff T A B) (k:ff T B C):ff T A C:=⟨oJ h.size k.size,fun b C fr hb=>k.same b C fr (h.same b C fr hb)⟩
def AbT {β:Type} (B:Nat) (T:TypeId) (J:β->World->Prop):Prop :=
 ∀ s W W' row,J s W->W.grownBy W' row->(∀ r,row=some r->B<=r/\∃ o:Obj,W.heap[r]?=some o/\(o.isCells=false\/∃ C fr,o=.cells C T fr))->J s W'
def AbC {β:Type} (B:Nat) (T:TypeId) (J:β->World->Prop):Prop :=
 ∀ s W W' row,J s W->W.grownBy W' row->(∀ r,row=some r->B<=r/\∃ C fr,W.heap[r]?=some (.cells C T fr))->J s W'
structure jM (T:TypeId) (W:World) (v:Value) (s:List Nat):Prop where
 at_:∃ g C fr,v=.slice (some ⟨g,0,none⟩) s.length s.length/\W.heap[g]?=some (.cells C T fr)/\∀ (j:Nat) x,s[j]?=some x->W.cell? ⟨g,j,none⟩=some (.int .i64 (x:Int))
theorem jM.keep {T:TypeId} {W W':World} {v:Value} {s:List Nat} (h:jM T W v s) (hk:ff T W W'):jM T W' v s:=by
 obtain ⟨g,C,fr,h1,h2,h3⟩:=h.at_;refine ⟨g,C,fr,h1,hk.same g C fr h2,fun j x hx=>?_⟩;have hb:W'.heap[g]?=W.heap[g]?:=(hk.same g C fr h2).trans h2.symm;have:=h3 j x hx;unfold World.cell? at this |-;rw [hb];exact this
def jh (F:Fence) (n:Nat) (P:Program) (g:Nat) (lb:Array Value) (T:TypeId) (L:List (List Nat)) (w:World):Prop :=
 ∀ (l:Nat) (J:Nat->World->Prop) (W:World),Below w.heap.size w W->AbC W.heap.size T J ->
  (∀ i s v W1,L[i]?=some s->J i W1->jM T W1 v s->YieldAt F (n-1) P l #[v] W1 fun e W'=>e=.returned (.bool true)/\J (i+1) W'/\ff T W1 W') ->
  J 0 W->CallsIn F n P g (#[.func (.yield l) #[] #[]]++lb) W fun e W'=>(∃ v,e=.returned v)/\J L.length W'
theorem jh.inRound {F:Fence} {n:Nat} {P:Program} {g:Nat} {lb:Array Value} {T:TypeId} {L:List (List Nat)} {w:World} (l:Nat) (h:jh F n P g lb T L w):jh (F.inRound l) n P g lb T L w:=h
def fm (fn:FuncId) (tmps:Array Value) (ps:Array Tmp) (assign body:Code) (dd:Nat) (st:LoopState):Loop:={ state:=st,pending:=none,fn:=fn,tmps:=tmps,params:=ps,assign:=assign,body:=body,defers:=dd }
theorem q2_ {B:Nat} {T:TypeId} {W:World} {l:Nat} {r:Loop} (hl:W.heap[l]?=some (.loop r)) (o:Obj):ff T W (W.putObj l o) :=
 ⟨by simp,fun b C fr hb=>by
  rw [World.putObj_heap_other];·exact hb
  ·intro e;subst e;rw [hl] at hb;simp at hb⟩
theorem J8_ {T:TypeId} {W W':World} {row:Option Nat} (hg:W.grownBy W' row) {k:Nat} {o:Obj} (hk:W.heap[k]?=some o) (ho:o.isCells=false) (hr:∀ r,row=some r->∃ C fr,W.heap[r]?=some (.cells C T fr)):W'.heap[k]?=some o:=by
 refine (hg.block k (Array.getElem?_eq_some_iff.1 hk).1 fun e=>?_).trans hk;obtain ⟨C,fr,h⟩:=hr k e.symm;rw [hk] at h;cases h;simp [Obj.isCells] at ho
def A6_ (F:Fence) (n:Nat) (P:Program) (l B:Nat) (T:TypeId) (L:List (List Nat)) (I:Nat->World->Prop) (ps:Array Tmp) (tmps:Array Value) (assign body:Code):Prop :=
 ∀ i s v W,L[i]?=some s->I i W->jM T W v s->(∃ r,W.heap[l]?=some (.loop r)) ->
  assign.wpIn (F.inRound l) n P (Exit.then (fun a' Wa=>KeepsFrom B W Wa/\ff T W Wa /\
   ∀ Wb,Wa.grownBy Wb (some l)->(∃ r,Wa.heap[l]?=some (.loop r))->(∃ r,Wb.heap[l]?=some (.loop r))->ff T Wa Wb ->
    body.wpIn (F.inRound l) n P (fun e _ W3=>e=.normal/\KeepsFrom B Wb W3/\ff T Wb W3/\I (i+1) W3) a' Wb) (fun _ _ _=>False))
   { tmps:=(ps.zip #[v]).foldl (fun t (p,u)=>t.setIfInBounds p u) tmps,defers:=[] } W
theorem H8_ {F:Fence} {n:Nat} {P:Program} {gf:Nat} {lb:Array Value} {T:TypeId} {L:List (List Nat)} {w0 W1:World} {l B dd:Nat} {fn:FuncId} {tmps:Array Value} {ps:Array Tmp} {assign body:Code} {I:Nat->World->Prop}
  (vw:F.fn fn) (wm:jh F n P gf lb T L w0) (hb1:Below w0.heap.size w0 W1) (hps:ps.size=1) (hB:B<=l) (Lp:B<=W1.heap.size) (hl:W1.heap[l]?=some (.loop (fm fn tmps ps assign body dd .ready)))
  (eD:Option Nat) (hD:∀ D,eD=some D->D≠l/\B<=D/\W1.heap[D]?=some (.deferred (some []))) (hI:AbT B T I) (h0:I 0 W1)
  (rV:A6_ F (n-1) P l B T L I ps tmps assign body) :
  CallsIn F n P gf (#[.func (.yield l) #[] #[]]++lb) W1 fun e W'=>(∃ v,e=.returned v)/\I L.length W'/\W'.heap[l]?=some (.loop (fm fn tmps ps assign body dd .ready))/\∀ D,eD=some D->W'.heap[D]?=some (.deferred (some [])):=by
 refine wm l (fun i W=>I i W/\W.heap[l]?=some (.loop (fm fn tmps ps assign body dd .ready))/\∀ D,eD=some D->W.heap[D]?=some (.deferred (some []))) W1 hb1 ?_ ?_ ⟨h0,hl,fun D e=>(hD D e).2.2⟩
 ·rintro i A A' row ⟨k1,k2,k3⟩ hg hr;refine ⟨hI i A A' row k1 hg (fun r e=>?_),J8_ hg k2 rfl (fun r e=>(hr r e).2),fun D e=>J8_ hg (k3 D e) rfl (fun r e=>(hr r e).2)⟩;obtain ⟨h1,C,fr,h2⟩:=hr r e;exact ⟨oJ Lp h1,_,h2,.inr ⟨C,fr,rfl⟩⟩
 ·rintro i s v W hs ⟨k1,k2,k3⟩ hv;have hy:=run_yield (P:=P) (args:=#[v]) k2 (by simp [fm,hps]);refine ⟨fn,_,assign,body,hy,roundIn_of_wpIn vw (wpIn_mono (rV i s v W hs k1 hv ⟨_,k2⟩) ?_)⟩;rintro e a' Wa hp;cases e with
  | normal =>
   obtain ⟨p1,p2,p3⟩:=hp;have m2:=p1.same _ _ hB k2 rfl;have m3:∀ D,eD=some D->Wa.heap[D]?=some (.deferred (some [])):=fun D e=>p1.same _ _ (hD D e).2.1 (k3 D e) rfl;have hlt:l<Wa.heap.size:=(Array.getElem?_eq_some_iff.1 m2).1;refine ⟨_,run_beginRound m2 rfl,?_⟩;have b2:(Wa.putObj l (.loop { fm fn tmps ps assign body dd .ready with state:=.busy })).heap[l]?=some (.loop { fm fn tmps ps assign body dd .ready with state:=.busy }):=World.putObj_heap_same hlt;have b3:∀ D,eD=some D->(Wa.putObj l (.loop { fm fn tmps ps assign body dd .ready with state:=.busy })).heap[D]?=some (.deferred (some [])):=fun D e=>(World.putObj_heap_other (hD D e).1).trans (m3 D e);have bk:=q2_ (B:=B) (T:=T) m2 (.loop { fm fn tmps ps assign body dd .ready with state:=.busy });refine wpIn_mono (p3 _ (grownBy_putObj' Wa l _) ⟨_,m2⟩ ⟨_,b2⟩ bk) ?_;rintro e a3 W3 ⟨rfl,q1,q2,q3⟩;have c2:=q1.same _ _ hB b2 rfl;have c3:∀ D,eD=some D->W3.heap[D]?=some (.deferred (some [])):=fun D e=>q1.same _ _ (hD D e).2.1 (b3 D e) rfl;have hr:=run_endRound (P:=P) none c2;have E7:l<W3.heap.size:=(Array.getElem?_eq_some_iff.1 c2).1;refine ⟨_,_,hr,rfl,⟨?_,?_,fun D e=>(World.putObj_heap_other (hD D e).1).trans (c3 D e)⟩,?_⟩;·exact hI _ _ _ _ q3 (grownBy_putObj' W3 l _) (fun r e=>by cases e;exact ⟨hB,_,c2,.inl rfl⟩)
   ·rw [World.putObj_heap_same E7];rfl
   ·exact p2.trans (bk.trans (q2.trans (q2_ (B:=B) c2 _)))
  | _=>exact hp.elim
theorem F7_ {F:Fence} {n:Nat} {P:Program} {g:Operand} {ps:Array Tmp} {assign body:Code} {Q:Exit->Act->World->Prop} {a:Act} {w:World}
  (Ei:F.round=none) (h1:1<=n) {gf:Nat} {lb:Array Value} (hg:a.eval g=.func (.func gf) #[] lb) (GK:F.fn gf) (eg:∀ args w,(callFunc gf args).run P w=.ok (.enter gf args) w)
  {T:TypeId} {L:List (List Nat)} {w0:World} (wm:jh F (n-1) P gf lb T L w0) (tO:Below w0.heap.size w0 w) (hps:ps.size=1) (I:Nat->World->Prop) (hI:AbT w.heap.size T I) (h0:I 0 w)
  (rV:A6_ F (n-1-1) P (w.heap.size+1) w.heap.size T L I ps a.tmps assign body)
  (xa:∀ W,I L.length W->W.heap[w.heap.size]?=some (.deferred (some []))->Q .normal { a with defers:={ target:=.collected w.heap.size,args:=#[] }::a.defers } W) :
  (Code.rangeFunc g ps assign body).wpIn F n P Q a w:=by
 refine wpIn_rangeFunc ?_;intro fn vw;rw [Ei];obtain ⟨W1,qm⟩:=oZ ((w.alloc (.deferred (some []))).alloc (.loop (fm fn a.tmps ps assign body w.heap.size .ready)));have xo:W1.heap[w.heap.size+1]?=some (.loop (fm fn a.tmps ps assign body w.heap.size .ready)):=by
  rw [<- qm];have:=World.alloc_heap_new (w.alloc (.deferred (some []))) (.loop (fm fn a.tmps ps assign body w.heap.size .ready));rwa [World.size_alloc] at this
 have Lg:W1.heap[w.heap.size]?=some (.deferred (some [])):=by
  rw [<- qm];exact (Below.heap_alloc _ _ _ (by simp)).trans (World.alloc_heap_new w _)
 have qH:Below w.heap.size w W1:=by
  rw [<- qm];exact ((Below.refl _ w).alloc (oK _) _).alloc (by simp) _
 have Be:I 0 W1:=hI 0 w W1 none h0 ⟨qH.os,qH.tape,qH.output,qH.size,fun k hk _=>qH.block k hk⟩ (fun r e=>by cases e)
 refine ⟨w.heap.size+1,[{ target:=.collected w.heap.size,args:=#[] }],W1,{ target:=.fn (.func gf) lb,args:=#[.func (.yield (w.heap.size+1)) #[] #[]] },W1,gf,
  #[.func (.yield (w.heap.size+1)) #[] #[]]++lb,W1,?_,?_,?_,?_,fun _=>h1,?_⟩
 ·rw [<- qm];exact run_enterLoop_outer _ _ _ _ _
 ·simp only [resolve,hg];simp [go_sem]
 ·intro f' Cp;simp [Target.leads] at Cp;subst Cp;exact GK
 ·simp [invoke,go_sem,eg]
 ·refine (H8_ vw wm (tO.trans (qH.mono tO.size)) hps (by omega) qH.size xo (some w.heap.size) (fun D e=>by cases e;exact ⟨by omega,oK _,Lg⟩) hI Be rV).mono ?_;rintro e W2 ⟨⟨v,rfl⟩,hi,hl,hk⟩;refine ⟨none,_,by have:=run_endLoop (P:=P) hl (by simp [fm]);exact this,xa _ (hI _ _ _ _ hi (grownBy_putObj' W2 _ _) (fun r e=>by cases e;exact ⟨by omega,_,hl,.inl rfl⟩)) ((World.putObj_heap_other (by omega)).trans (hk _ rfl))⟩
theorem G7_ {F:Fence} {n:Nat} {P:Program} {g:Operand} {ps:Array Tmp} {assign body:Code} {Q:Exit->Act->World->Prop} {a:Act} {w:World}
  {l₀:Nat} {r₀:Loop} (Ei:F.round=some l₀) (hl₀:w.heap[l₀]?=some (.loop r₀)) (h1:1<=n) {gf:Nat} {lb:Array Value} (hg:a.eval g=.func (.func gf) #[] lb) (GK:F.fn gf) (eg:∀ args w,(callFunc gf args).run P w=.ok (.enter gf args) w)
  {T:TypeId} {L:List (List Nat)} {w0:World} (wm:jh F (n-1) P gf lb T L w0) (tO:Below w0.heap.size w0 w) (hps:ps.size=1) (I:Nat->World->Prop) (hI:AbT w.heap.size T I) (h0:I 0 w)
  (rV:A6_ F (n-1-1) P w.heap.size w.heap.size T L I ps a.tmps assign body)
  (xa:∀ W,I L.length W->Q .normal a W) :
  (Code.rangeFunc g ps assign body).wpIn F n P Q a w:=by
 refine wpIn_rangeFunc ?_;intro fn vw;rw [Ei];obtain ⟨W1,qm⟩:=oZ (w.alloc (.loop (fm fn a.tmps ps assign body r₀.defers .ready)));have xo:W1.heap[w.heap.size]?=some (.loop (fm fn a.tmps ps assign body r₀.defers .ready)):=by rw [<- qm];exact World.alloc_heap_new w _
 have qH:Below w.heap.size w W1:=by
  rw [<- qm];exact (Below.refl _ w).alloc (oK _) _
 have Be:I 0 W1:=hI 0 w W1 none h0 ⟨qH.os,qH.tape,qH.output,qH.size,fun k hk _=>qH.block k hk⟩ (fun r e=>by cases e)
 refine ⟨w.heap.size,[],W1,{ target:=.fn (.func gf) lb,args:=#[.func (.yield w.heap.size) #[] #[]] },W1,gf,
  #[.func (.yield w.heap.size) #[] #[]]++lb,W1,?_,?_,?_,?_,fun _=>h1,?_⟩
 ·rw [<- qm];exact run_enterLoop_inner hl₀ _ _ _ _ _
 ·simp only [resolve,hg];simp [go_sem]
 ·intro f' Cp;simp [Target.leads] at Cp;subst Cp;exact GK
 ·simp [invoke,go_sem,eg]
 ·refine (H8_ vw wm (tO.trans (qH.mono tO.size)) hps (oK _) qH.size xo none (fun D e=>by cases e) hI Be rV).mono ?_;rintro e W2 ⟨⟨v,rfl⟩,hi,hl,-⟩;refine ⟨none,_,by have:=run_endLoop (P:=P) hl (by simp [fm]);exact this,xa _ (hI _ _ _ _ hi (grownBy_putObj' W2 _ _) (fun r e=>by cases e;exact ⟨oK _,_,hl,.inl rfl⟩))⟩
attribute [local go_sem] Oper.semAt_some
theorem R5_ {F:Fence} {n:Nat} {P:Program} (w:World) {ops:Array Oper} {rest:List Oper} {o:Oper} {a:Act} {Q:Exit->Act->World->Prop}
  (hg:o.guard=none) (l c:Operand) (t:TypeId) (Ev:o.op=Op.makeSlice t l c)
  (base:Nat) (e:TypeId) (i:TypeInfo) (z:Value) (size:Nat) (h1:P.underlying t=some (.slice e)) (h2:P.info? e=some i) (h3:i.zero=some z) (h4:i.size=size)
  (kl kc:IntKind) (L C:Int) (m:Nat) (hl:a.eval l=.int kl L) (hc:a.eval c=.int kc C) (hL:L=(m:Int)) (hC:C=(m:Int)) (b2:i.bytes*m<=281474976710656) (b3:m<=maxLen) (b4:base<=w.heap.size)
  (hK:∀ w',w'.ownsRow base e size (.slice (some ⟨w.heap.size,0,none⟩) m m) m (madeCells z.cells (m*size)).toList->w.grownBy w' none->wpListIn F n P ops Q rest (a.put o.dst (.slice (some ⟨w.heap.size,0,none⟩) m m)) w') :
  wpListIn F n P ops Q (o::rest) a w:=by
 refine wpListIn_plain hg fun K Lh=>?_;obtain ⟨w',AH,r1,r2⟩:=run_make_full (P:=P) w base t e i z size h1 h2 h3 h4 kl kc m b2 b3 b4;subst hL;subst hC;unfold Oper.wpIn;refine ⟨?_,?_⟩;·simp [Oper.about,Ev]
 ·rw [Oper.semAt_plain F _ _ (by rw [Ev];intro c qp;cases qp)];simp [execOp,Ev,hl,hc,AH,Result.andThen];exact Lh _ _ (hK w' r1 r2)
def mE (l:List Nat):List Value:=l.map fun x:Nat=>Value.int .i64 (x:Int)
structure cT (J:Nat->World->Prop) (i:Nat) (B g k N B1 B2:Nat) (wr:World) (cur:List Nat):Prop where
 j:J i wr
 own:wr.ownsRow B 3 1 (.slice (some ⟨g,0,none⟩) k k) k (mE cur)
 b1:Boxed wr B1 3 (.int .i64 (k:Int))
 b2:Boxed wr B2 3 (.int .i64 (N:Int))
 lt1:B1<B
 lt2:B2<B
theorem cT.len {J:Nat->World->Prop} {i B g k N B1 B2:Nat} {wr:World} {cur:List Nat} (h:cT J i B g k N B1 B2 wr cur):cur.length=k:=by
 have:=h.own.1;unfold mE at this;rw [List.length_map] at this;omega
theorem cT.block {J:Nat->World->Prop} {i B g k N B1 B2:Nat} {wr:World} {cur:List Nat} (h:cT J i B g k N B1 B2 wr cur):∃ C,wr.heap[g]?=some (.cells C 3 (0,0))/\B<=g:=by
 rcases h.own.2 with ⟨hv,_⟩ | ⟨g',cap,C,hv,hb,hg,_⟩
 ·simp at hv
 ·simp only [Value.slice.injEq,Option.some.injEq,Addr.mk.injEq] at hv;obtain ⟨⟨rfl,-,-⟩,-,-⟩:=hv;exact ⟨C,hg,hb⟩
theorem cT.cell {J:Nat->World->Prop} {i B g k N B1 B2:Nat} {wr:World} {cur:List Nat} (h:cT J i B g k N B1 B2 wr cur) {j x:Nat} (hx:cur[j]?=some x):wr.cell? ⟨g,j,none⟩=some (.int .i64 (x:Int))/\wr.frozen? ⟨g,j,none⟩=false:=by
 have hj:=(oC.1 hx).1;have hl:=h.len;exact ⟨(h.own.cellAt j (by omega)).trans (by simp [mE,hx]),h.own.frozenAt j⟩
theorem cT.set {J:Nat->World->Prop} {i B g k N B1 B2:Nat} {wr:World} {cur:List Nat} (h:cT J i B g k N B1 B2 wr cur) (hJ:AbC B 3 J) (j x:Nat):cT J i B g k N B1 B2 (wr.setCell ⟨g,j,none⟩ (.int .i64 (x:Int))) (cur.set j x):=by
 obtain ⟨C,hC,hB⟩:=h.block;have hg:=fU wr g j (.int .i64 (x:Int));have h1:=h.lt1;have h2:=h.lt2;refine ⟨hJ i wr _ _ h.j hg (fun r e=>by cases e;exact ⟨hB,C,_,hC⟩),?_,h.b1.kept hg (fun e=>by simp at e;omega),h.b2.kept hg (fun e=>by simp at e;omega),h.lt1,h.lt2⟩;unfold mE;rw [List.map_set];exact (h.own.stored j _).1
theorem cT.setAt {J:Nat->World->Prop} {i B g k N B1 B2:Nat} {wr:World} {cur:List Nat} (h:cT J i B g k N B1 B2 wr cur):jM 3 wr (.slice (some ⟨g,0,none⟩) k k) cur:=by
 obtain ⟨C,hC,hB⟩:=h.block;have hl:=h.len;exact ⟨g,C,(0,0),by rw [hl],hC,fun j x hx=>(h.cell hx).1⟩
theorem cT.round {J:Nat->World->Prop} {i B g k N B1 B2:Nat} {wr w':World} {cur:List Nat} (h:cT J i B g k N B1 B2 wr cur) (hj:J (i+1) w') (hk:ff 3 wr w'):cT J (i+1) B g k N B1 B2 w' cur:=by
 refine ⟨hj,⟨h.own.1,?_⟩,hk.same _ _ _ h.b1,hk.same _ _ _ h.b2,h.lt1,h.lt2⟩;rcases h.own.2 with h' | ⟨g',cap,C,hv,hb,hg,rest⟩
 ·exact .inl h'
 ·exact .inr ⟨g',cap,C,hv,hb,hk.same _ _ _ hg,rest⟩
theorem cT.drawn {J:Nat->World->Prop} {i B g k N B1 B2:Nat} {wr:World} {cur:List Nat} (h:cT J i B g k N B1 B2 wr cur) (hJ:AbC B 3 J) (n:Nat):cT J i B g k N B1 B2 (wr.drewN n) cur:=by
 have hg:wr.grownBy (wr.drewN n) none:=(aA.drewN wr n).grown none;exact ⟨hJ i wr _ none h.j hg (fun r e=>by cases e),h.own.kept hg (by simp [Value.ownBlock]),h.b1.kept hg (by simp),h.b2.kept hg (by simp),h.lt1,h.lt2⟩
def Z6J (w:World) (g k:Nat):Nat:=ix ((List.range k).map fun j=>match w.cell? ⟨g,j,none⟩ with | some (.int _ x)=>x.toNat | _=>0)
theorem cT.enc {J:Nat->World->Prop} {i B g k N B1 B2:Nat} {wr:World} {cur:List Nat} (h:cT J i B g k N B1 B2 wr cur):Z6J wr g k=ix cur:=by
 unfold Z6J;congr 1;have hl:=h.len;apply List.ext_getElem;·simp [hl]
 ·intro j h1 h2;rw [List.getElem_map,List.getElem_range,(h.cell (oB h2)).1];simp
def iQ (k i:Nat):List Nat:=List.range i++List.replicate (k-i) 0
theorem Z2k {k i:Nat} (h:i<k):(iQ k i).set i i=iQ k (i+1):=by
 unfold iQ;rw [List.set_append_right i i (by simp),List.length_range,show i-i=0 by omega,show k-i=(k-(i+1))+1 by omega,List.replicate_succ,List.set_cons_zero,List.range_succ,List.append_assoc];rfl
theorem Z2j {k i:Nat} (h:i<k):(iQ k i)[i]?=some 0:=by
 unfold iQ;rw [oO (by simp),List.length_range,show i-i=0 by omega,show k-i=(k-(i+1))+1 by omega,List.replicate_succ];rfl
theorem Z2i (k:Nat):iQ k k=List.range k:=by simp [iQ]
def fl (s:List Nat) (k i j:Nat):List Nat:=s.take i++((List.range (j-i)).map fun q=>s.getD i 0+1+q)++s.drop j
theorem Z4j {s:List Nat} {k i j:Nat} (hs:s.length=k) (pY:i<=j) (hj:j<=k):(fl s k i j).length=k:=by
 unfold fl;simp [hs];omega
theorem Z0Q {s:List Nat} {k i:Nat} (hs:s.length=k) (hi:i<k):s.set i (s.getD i 0+1)=fl s k i (i+1):=by
 unfold fl;rw [show i+1-i=1 by omega];apply List.ext_getElem?;intro q;rw [oW];by_cases e:i=q
 ·subst e;rw [if_pos rfl,if_pos (by omega),List.append_assoc,oO (by simp;omega),oG,show i-min i s.length=0 by omega];rfl
 ·rw [if_neg e,List.append_assoc];by_cases hq:q<i;·rw [oN (by simp;omega),List.getElem?_take,if_pos hq]
  ·rw [oO (by simp;omega),oG,show q-min i s.length=(q-i-1)+1 by omega];simp [oU];congr 1;omega
theorem Z4i {s:List Nat} {k i j:Nat} (hs:s.length=k) (pY:i<j) (hj:j<=k):(fl s k i j)[j-1]?=some (s.getD i 0+(j-i)):=by
 unfold fl;rw [List.append_assoc,oO (by simp;omega),oG,oN (by simp;omega),show j-1-min i s.length=j-i-1 by omega,oF,List.getElem?_range (by omega)];simp;omega
theorem Z4k {s:List Nat} {k i j:Nat} (hs:s.length=k) (pY:i<j) (hj:j<k):∃ x,(fl s k i j)[j]?=some x:=by
 have:=Z4j (s:=s) (k:=k) (i:=i) (j:=j) hs (by omega) (by omega);exact ⟨_,oB (by omega)⟩
theorem Z4l {s:List Nat} {k i j:Nat} (hs:s.length=k) (pY:i<j) (hj:j<k):(fl s k i j).set j (s.getD i 0+(j-i)+1)=fl s k i (j+1):=by
 unfold fl;have h1:(s.take i++((List.range (j-i)).map fun q=>s.getD i 0+1+q)).length=j:=by simp;omega
 rw [List.set_append_right _ _ (by omega),h1,show j-j=0 by omega,List.drop_eq_getElem_cons (by omega),List.set_cons_zero,show j+1-i=(j-i)+1 by omega,List.range_succ,List.map_append,List.append_assoc,List.append_assoc,List.append_assoc];simp;omega
theorem Z4h {s:List Nat} {n k i:Nat} (hs:s.length=k) (ht:ie n k s k=some i):j9 n k s=some (fl s k i k):=by
 unfold j9 fl;rw [ht,List.drop_eq_nil_of_le (by omega),List.append_nil]
theorem a0_ (n:Nat) (hn:1<=n) (N k:Nat) (M4:k<=N) (hN:N<=12) (L:List (List Nat)) (hL:Z67 N k L) (B1 B2:Nat) (w:World) (h1:Boxed w B1 3 (.int .i64 (k:Int))) (h2:Boxed w B2 3 (.int .i64 (N:Int))) :
  jh Fence.wide n prog 158 #[.pointer (some ⟨B1,0,none⟩),.pointer (some ⟨B2,0,none⟩)] 3 L w:=by
 intro l J W hW hJ hY h0;obtain ⟨i0,hi,pJ,hz1,hz2⟩:=info_parts jy;have HI:=oA hi;have HZ0:=oA pJ;have HZ1:=oA hz1;have HZ2:=oA hz2;have hb1:Boxed W B1 3 (.int .i64 (k:Int)):=(hW.block B1 h1.lt).trans h1;have hb2:Boxed W B2 3 (.int .i64 (N:Int)):=(hW.block B2 h2.lt).trans h2;have HB1:=oA hb1;have HB2:=oA hb2;have HJ:=oA hJ;have HY:=oA hY;have H0:=oA h0;have HL:=oA hL;have c1:=hb1.cell;clear hi pJ hz1 hz2 h1 h2 hb1 hb2 hJ hY h0 hW;refine callsIn_of_wp func158 rfl trivial ?_ rfl;simp only [ntmps158,List.size_toArray,List.length_cons,List.length_nil,Nat.reduceAdd,Nat.reduceSub,Array.replicate_succ,Array.replicate_zero,List.push_toArray,List.append_toArray,List.nil_append,List.cons_append]
 gi_wp2_with (gi_at_make;refine R5_ _ rfl _ _ 26 rfl W.heap.size 3 i0 (.int .i64 0) 1 underlying26 HI HZ0 HZ1 _ _ _ _ k rfl rfl rfl rfl ?c1 ?c2 ?c3 ?_)
 any_goals (first | (rw [HZ2.out];omega) | (unfold maxLen;omega) | exact oK _)
 intro w3 hown oo;rw [I3_] at hown;have HS0:Hid (cT J 0 W.heap.size W.heap.size k N B1 B2 w3 (iQ k 0)):=by
  refine ⟨HJ 0 W w3 none H0 oo (fun r e=>by cases e),?_,HB1.kept oo (by simp),HB2.kept oo (by simp),HB1.lt,HB2.lt⟩;have e:mE (iQ k 0)=(List.replicate (k*1) (0:Int)).map (Value.int .i64):=by simp [mE,iQ]
  rw [e];simpa using hown
 clear hown oo c1
 gi_wp2_with fail
 gi_loopw [12] (fun t wr=>∃ i:Nat,i<=k/\t=.int .i64 i/\Hid (cT J 0 W.heap.size W.heap.size k N B1 B2 wr (iQ k i))) (fun t _=>k-(intOf t).toNat)
 case atStart=>exact ⟨0,by omega,rfl,HS0⟩
 case round =>
  obtain ⟨i,hik,rfl,HS⟩:=hrel;by_cases hlt:i<k
  ·obtain ⟨c0,f0⟩:=HS.cell (Z2j hlt);have HN:=oA (HS.set HJ i i);rw [Z2k hlt] at HN
   gi_wp2_with fail
   go_roundw
   case rel=>exact ⟨i+1,by omega,by go_num,HN⟩
   case measure=>simp [intOf];omega
  ·obtain rfl:i=k:=(by omega);rw [Z2i] at HS;clear HS0
   gi_wp2_with fail
   gi_loopw [6] (fun t wr=>∃ (q:Nat) (s:List Nat),L[q]?=some s/\Hid (cT J q W.heap.size W.heap.size i N B1 B2 wr s)) (fun _ wr=>1000000000000000000-Z6J wr W.heap.size i)
   case atStart=>exact ⟨0,_,HL.head,HS⟩
   case round =>
    obtain ⟨q,s,hq,HT⟩:=hrel;have HQ:=oA hq;have HEN:=oA HT.enc;have HBD:=oA (HL.bd s (oE hq));have hsl:=HL.len s (oE hq);have HSL:=oA hsl;have e1:=HT.b1.cell;have e2:=HT.b2.cell;obtain ⟨fn,tmps,assign,body,J6,hR⟩:=HY q s _ wr hq HT.j HT.setAt;have hle:(i:Int)<=(N:Int):=(by omega);clear hsl hq
    gi_wp2_with fail
    refine hR.mono ?_;rintro e W3 ⟨rfl,JJ,FE⟩;have HT3:=oA (HT.round JJ FE);have d1:=HT3.b1.cell;have d2:=HT3.b2.cell;clear hR J6 e1 e2 JJ FE;have p1:IntKind.i64.wrap ((i:Int)-1)=(i:Int)-1:=(by rw [IntKind.wrap_i64];omega);have p2:IntKind.i64.wrap ((N:Int)-(i:Int))=(N:Int)-(i:Int):=(by rw [IntKind.wrap_i64];omega);have GZ:Hid (∀ m,cT J (q+1) W.heap.size W.heap.size i N B1 B2 (W3.drewN m) s):=fun m=>HT3.drawn HJ m
    gi_wp2_with fail
    gi_loopw [6] (fun t wr=>∃ (r:Nat) (x:Int),r<=i/\t=.int .i64 x/\x=(r:Int)-1/\Hid (cT J (q+1) W.heap.size W.heap.size i N B1 B2 wr s)/\Hid (ie N i s i=ie N i s r)) (fun t _=>(intOf t+1).toNat)
    case atStart=>exact ⟨i,(i:Int)-1,oK _,rfl,rfl,HT3,rfl⟩
    case round =>
     obtain ⟨r,x,qJ,rfl,hx,HT4,xx⟩:=hrel;clear d1 d2 p1;have e1:=HT4.b1.cell;have e2:=HT4.b2.cell;have HTD:Hid (∀ m,cT J (q+1) W.heap.size W.heap.size i N B1 B2 (wr.drewN m) s):=fun m=>HT4.drawn HJ m;cases r with
     | zero =>
      obtain rfl:x=-1:=(by omega);have HEND:Hid (q+1=L.length):=by
       have h1:j9 N i s=none:=by
        unfold j9;have:ie N i s i=none:=xx.out;rw [this]
       have h2:=HL.next q s HQ
       rw [h1] at h2;have h3:=List.getElem?_eq_none_iff.1 h2.symm;have h4:=(oC.1 HQ).1;unfold Hid;omega
      clear hx
      gi_wp2_with fail
      gi_quiet (fail)
      gi_wp2_with fail
      refine bodyPost_ret (results_none rfl _ _ _) rfl ⟨⟨_,rfl⟩,?_⟩;rw [<- HEND.out];exact (HTD _).j
     | succ r =>
      obtain rfl:x=(r:Int):=(by omega);have rT:r<s.length:=(by rw [HSL.out];omega);obtain ⟨v,hv⟩:∃ v,s[r]?=some v:=⟨_,oB rT⟩;have hvN:=HL.lt s (oE HQ) v (oE hv);obtain ⟨g1,g2⟩:=HT4.cell hv;have HV:=oA hv;have pq:s.getD r 0=v:=(by rw [oD,hv];rfl);have HGD:=oA pq;have p3:IntKind.i64.wrap ((N:Int)-(i:Int)+(r:Int))=(N:Int)-(i:Int)+(r:Int):=(by rw [IntKind.wrap_i64];omega);have p4:(0:Int)<=(r:Int):=(by omega);have p5:(r:Int)<(i:Int):=(by omega);by_cases sn:v+i=N+r
      ·have hq:((v:Int) == (N:Int)-(i:Int)+(r:Int))=true:=(by rw [beq_iff_eq];omega);have HT5:Hid (ie N i s i=ie N i s r):=by
        unfold Hid;rw [xx.out];show (if s.getD r 0+i=N+r then ie N i s r else some r)=_;rw [pq,if_pos sn]
       have p6:IntKind.i64.wrap ((r:Int)-1)=(r:Int)-1:=(by rw [IntKind.wrap_i64];omega);clear hx hv pq sn rT xx
       gi_wp2_with fail
       gi_quiet (fail)
       gi_wp2_with fail
       go_roundw
       case rel=>exact ⟨r,(r:Int)-1,by omega,by go_num,rfl,HTD _,HT5⟩
       case measure=>simp [intOf] <;> omega
      ·have hq:((v:Int) == (N:Int)-(i:Int)+(r:Int))=false:=(by rw [beq_eq_false_iff_ne];omega);have HT5:Hid (ie N i s i=some r):=by
        unfold Hid;rw [xx.out];show (if s.getD r 0+i=N+r then ie N i s r else some r)=_;rw [pq,if_neg sn]
       have p6:¬ (r:Int)<0:=(by omega);have p7:IntKind.i64.wrap ((v:Int)+1)=(v:Int)+1:=(by rw [IntKind.wrap_i64];omega);have p8:IntKind.i64.wrap ((r:Int)+1)=(r:Int)+1:=(by rw [IntKind.wrap_i64];omega);have HSET:Hid (∀ m,cT J (q+1) W.heap.size W.heap.size i N B1 B2 ((wr.drewN m).setCell ⟨W.heap.size,r,none⟩ (.int .i64 ((v:Int)+1))) (fl s i r (r+1))):=fun m=>by
        have:=(HTD m).set HJ r (v+1);rw [<- pq,Z0Q HSL.out (by omega),pq] at this;exact this
       clear hx hv pq sn rT xx
       gi_wp2_with fail
       gi_quiet (fail)
       gi_wp2_with fail
       gi_loopw [7] (fun t wr=>∃ j:Nat,r<j/\j<=i/\t=.int .i64 (j:Int)/\Hid (cT J (q+1) W.heap.size W.heap.size i N B1 B2 wr (fl s i r j))) (fun t _=>i-(intOf t).toNat)
       case atStart=>exact ⟨r+1,by omega,by omega,by go_num,HSET _⟩
       case round =>
        obtain ⟨j,BR,vu,rfl,Bg⟩:=hrel;clear g1 g2 e1 e2;have e1:=Bg.b1.cell;by_cases hlt2:j<i
        ·obtain ⟨y,hy⟩:=Z4k (s:=s) HSL BR hlt2;have hz:=Z4i (s:=s) HSL BR vu;obtain ⟨g1,g2⟩:=Bg.cell hy;obtain ⟨g3,g4⟩:=Bg.cell hz;have hb1:=HL.lt s (oE HQ) v (oE HV);have HN:=oA (Bg.set HJ j (s.getD r 0+(j-r)+1));rw [Z4l HSL.out BR hlt2] at HN;obtain ⟨z,hzz⟩:=oc (s.getD r 0+(j-r));rw [<- hzz] at g3 HN;have hzb:z<100:=(by rw [hzz,HGD.out];omega);have rD:Hid (cT J (q+1) W.heap.size W.heap.size i N B1 B2 (wr.setCell ⟨W.heap.size,j,none⟩ (.int .i64 ((z:Int)+1))) (fl s i r (j+1))):=HN.out;have p9:IntKind.i64.wrap ((z:Int)+1)=(z:Int)+1:=(by rw [IntKind.wrap_i64];omega);have Mi:IntKind.i64.wrap ((j:Int)-1)=((j-1:Nat):Int):=(by rw [IntKind.wrap_i64];omega);have Mh:IntKind.i64.wrap ((j:Int)+1)=(j:Int)+1:=(by rw [IntKind.wrap_i64];omega);have Mg:(0:Int)<=((j-1:Nat):Int):=(by omega);have Mf:((j-1:Nat):Int)<(i:Int):=(by omega);have Me:(j:Int)<(i:Int):=(by omega);clear hy hz hzz HN
         gi_wp2_with fail
         go_roundw
         case rel=>exact ⟨j+1,by omega,by omega,by go_num,rD⟩
         case measure=>simp [intOf] <;> omega
        ·obtain rfl:j=i:=(by omega);have hnx:=HL.next q s HQ
         rw [Z4h HSL.out HT5.out] at hnx;have HNX:=oA hnx.symm;have HUP:=oA (HL.up q s _ HQ hnx.symm);have HE6:=oA Bg.enc;clear hnx
         gi_wp2_with fail
         go_roundw
         case rel=>exact ⟨q+1,_,HNX,Bg⟩
         case measure =>
          have a1:=HEN.out;have a2:=HE6.out;have a3:=HUP.out;have a4:=HBD.out;omega
theorem Oper.wpIn_of_wp {P:Program} {l n:Nat} {o:Oper} {a:Act} {w:World} {K:Act->World->Prop} {Q:Exit->Act->World->Prop} (h1:∀ c,o.op≠.defer c) (h:o.wp P a w K Q):o.wpIn (Fence.wide.inRound l) n P a w K Q:=by
 unfold Oper.wp at h;unfold Oper.wpIn;refine ⟨fun _ _=>trivial,?_⟩;rw [show (Fence.wide.inRound l).round=some l from rfl,Oper.semAt_eq _ _ _ h1];generalize (execOp a.eval o).run P w=r at *
 have hd:(Fence.wide.inRound l).depth.isSome=true->1<=n:=fun e=>by simp [Fence.wide] at e
 cases r with
 | ok x w' =>
  cases x with
  | enter f args=>exact ⟨hd,CallsIn.inRound l (callsIn_wide.2 h)⟩
  | row r args =>
   refine ⟨hd,fun c cs _=>?_⟩;obtain ⟨v,w2,hr,hs⟩:=h c cs;exact ⟨v,w2,hr,stepsIn_wide.2 hs⟩
  | _=>first | exact h | exact False.elim h
 | halt x w'=>cases x <;> first | exact h | exact False.elim h
def w2_ (ops:Array Oper):Bool:=ops.all fun o=>match o.op with | .defer _=>false | _=>true
theorem p7_ {ops:Array Oper} (h:w2_ ops=true) {i:Nat} {o:Oper} (hi:ops[i]?=some o):∀ c,o.op≠.defer c:=by
 intro c hc;have:=Array.all_eq_true_iff_forall_mem.1 h o (Array.mem_of_getElem? hi);rw [hc] at this;cases this
theorem F8_ {P:Program} {l n:Nat} {ops:Array Oper} {Q:Exit->Act->World->Prop} (hn:w2_ ops=true) (hq:¬ LetsOut Q) {i:Nat} {K:Act->World->Prop} {a:Act} {w:World} (h:wpOp P ops Q i K a w):wpOpIn (Fence.wide.inRound l) n P ops Q i K a w:=by
 unfold wpOp at h;unfold wpOpIn;cases hi:ops[i]? with
 | none=>simpa [hi] using h
 | some o =>
  simp only [hi] at h |-
  split
  ·rename_i hw;simp only [hw,if_true] at h;rcases h with h | ⟨-,h⟩
   ·exact Oper.wpIn_of_wp (p7_ hn hi) h
   ·exact absurd h hq
  ·rename_i hw;simp only [hw] at h;exact ⟨fun _ _=>trivial,h⟩
theorem X6_ {P:Program} {l n:Nat} {md:Region.Mode} {ops:Array Oper} {Q:Exit->Act->World->Prop} (hn:w2_ ops=true) (hq:¬ LetsOut Q):∀ (f:Nat) (ls:Array Bool) (a:Act) (w:World),wpAny P md ops Q f ls a w->wpAnyIn (Fence.wide.inRound l) n P md ops Q f ls a w
 | 0,ls,a,w,h=>h
 | f+1,ls,a,w,h=>⟨h.1,fun i hi=>F8_ hn hq (wpOp_mono (fun a w k=>X6_ hn hq f _ a w k) (h.2 i hi))⟩
theorem f5_ {P:Program} {ops:Array Oper} {Q:Exit->Act->World->Prop} {md:Region.Mode} {S:World->Prop} {z:Nat} (i j:Nat) {o p:Oper} {f:Nat} {l:Array Bool} {a:Act} {w:World} (hr:Region.ready md ops l=[i,j]) (ho:ops[i]?=some o) (hp:ops[j]?=some p)
  (h1:∀ K:Act->World->Prop,Shut (∀ b u,S u->(S u->bG P md ops Q S z f (l.setIfInBounds i true) b u)->K b u)->if Region.wanted o (yielded ops a.tmps)=true then Oper.wp P o a w K Q else K (a.put o.dst undef) w)
  (h2:∀ K:Act->World->Prop,Shut (∀ b u,S u->(S u->bG P md ops Q S z f (l.setIfInBounds j true) b u)->K b u)->if Region.wanted p (yielded ops a.tmps)=true then Oper.wp P p a w K Q else K (a.put p.dst undef) w):bG P md ops Q S z (f+1) l a w:=by
 refine ⟨(fun e=>by rw [hr] at e;cases e),fun q hq=>?_⟩;rw [hr] at hq;rcases List.mem_cons.1 hq with rfl | hq;·exact wpOp_step ho fun K hK=>h1 K fun b u hS pL=>hK b u ⟨fun _=>hS,pL hS⟩
 ·obtain rfl:q=j:=by simpa using hq
  exact wpOp_step hp fun K hK=>h2 K fun b u hS pL=>hK b u ⟨fun _=>hS,pL hS⟩
theorem S5_ {P:Program} {l n:Nat} {ops:Array Oper} {Q:Exit->Act->World->Prop} (S:World->Prop) (z:Nat) {id:Nat} {a:Act} {w:World} (hm:P.follows .mixedOrders=true) (hn:w2_ ops=true) (hq:¬ LetsOut Q) (hS:S w.drew)
  (h:S w.drew->bG P .any ops Q S z ops.size (Array.replicate ops.size false) a w.drew):(Code.region id ops true).wpIn (Fence.wide.inRound l) n P Q a w :=
 wpIn_region_any hm (X6_ hn hq _ _ _ _ (A9_ _ _ _ _ (h hS)))
theorem Y5_ {P:Program} {l n:Nat} {ops:Array Oper} {rest:List Oper} {o:Oper} {a:Act} {w:World} {Q:Exit->Act->World->Prop} (hg:o.guard=none) (hd:∀ c,o.op≠.defer c)
  (h:∀ K:Act->World->Prop,(∀ a w,wpListIn (Fence.wide.inRound l) n P ops Q rest a w->K a w)->o.wp P a w K Q):wpListIn (Fence.wide.inRound l) n P ops Q (o::rest) a w :=
 wpListIn_plain hg fun K hK=>Oper.wpIn_of_wp hd (h K hK)
end Go.Proofs.YtjlkkofmojgipaaGreatDoor
namespace Go.Proofs.YtjlkkofmojgipaaGreatDoor
open Go.RowKit Go.Proofs.Tryz
theorem eS.ints {w:World} {g c:Nat} {xs:og} (h:eS w g xs) (h1:xs.length<=c) (h2:c<=9223372036854775807) (hb:∀ x∈xs,-9223372036854775808<=x/\x<=9223372036854775807):bL w (.slice (some ⟨g,0,none⟩) xs.length c) xs:=by
 refine ⟨xs.map fun x=>[Value.int .i64 x],by simp,by simp,?_,?_⟩
 ·rw [di];refine ⟨_,c,rfl,h1,by unfold maxLen;omega,fun e=>by simp at e,fun _=>⟨g,0,rfl,h.lt,fun j u hu=>?_⟩⟩;rw [oF] at hu;obtain ⟨x,hx,rfl⟩:=Option.map_eq_some_iff.1 hu;rw [Nat.zero_add];exact h.cell j x hx
 ·intro j u x hu hx;simp only [oF,hx,Option.map_some,Option.some.injEq] at hu;exact ⟨hu.symm,hb x (oE hx)⟩
theorem bf.rows2 {e:TypeId} {w:World} {ob base:Nat} {v:Value} {tags:List (Nat×Nat)} {m:oe} (h:bf ko e w ob base v tags m) (hb:∀ r∈m,∀ x∈r,-9223372036854775808<=x/\x<=9223372036854775807):bN w v m:=by
 have hl:=Z3s (m:=m) h.len;refine ⟨(ic tags m).map fun u=>[u],by simp [hl],by simp,?_,?_⟩
 ·have:=dQ.of_owns h.own;rw [di (fun u:Value=>u),List.map_id'];exact this
 ·intro j u x hu hx;have hj:j<tags.length:=by rw [h.len];exact (oC.1 hx).1
  have ht:tags[j]?=some tags[j]:=oB hj;obtain ⟨h1,h2,h3,-,-⟩:=h.row j _ x ht hx;rw [oF] at hu;unfold ic at hu;rw [List.getElem?_zipWith,ht,hx] at hu;simp only [Option.map_some,Option.some.injEq] at hu;exact ⟨_,hu.symm,eS.ints h3 h1 h2 (hb x (oE hx))⟩
def cF (m:oe) (R C:List Nat):oe:=R.map fun i=>C.map fun j=>(m.getD i []).getD j 0
theorem lB (m:oe) (R C:List Nat):(cF m R C).length=R.length:=by simp [cF]
theorem P6_ (m:oe) (R C:List Nat):bY C.length (bF (cF m R C)):=by
 intro r hr;unfold bF cF at hr;obtain ⟨q,hq,rfl⟩:=List.mem_map.1 hr;obtain ⟨i,-,rfl⟩:=List.mem_map.1 hq;simp [cw]
theorem Z5U {m:oe} {R C:List Nat} {i j a b:Nat} (hi:R[i]?=some a) (hj:C[j]?=some b):aF (bF (cF m R C)) i j=(((m.getD a []).getD b 0:Int):Rat):=by
 refine y1_ ?_;rw [nu (r:=cw (C.map fun j=>(m.getD a []).getD j 0))];·simp [cw,hj]
 ·simp [bF,cF,hi]
end Go.Proofs.YtjlkkofmojgipaaGreatDoor
namespace Go.Proofs.YtjlkkofmojgipaaGreatDoor
open Go.RowKit Go.Shelf Go.Proofs.Tryz
theorem E2_ (n k:Nat) (w:World) (hn:n<=12) (hk:k<=n) :
  oY 107 #[.int .i64 (n:Int),.int .i64 (k:Int)] w (.int .i64 (du n k:Int)):=by
 have HB:Hid (∀ i,i<=k->du n i<=1000):=fun i hi=>by
  obtain ⟨-,h1,h2⟩:=lG (n:=n) (k:=i) hn (by omega);omega
 go_enter func107,ntmps107
 go_wp2
 go_loopw [8,5] (fun t v wr=>∃ i:Nat,i<=k/\t=.int .i64 (i:Int)/\v=.int .i64 (du n i:Int)/\w=wr) (fun t _ _=>k-(intOf t).toNat)
 case atStart=>exact ⟨0,by omega,rfl,rfl,rfl⟩
 case round =>
  obtain ⟨i,hi,rfl,rfl,rfl⟩:=hrel;by_cases hlt:i<k
  ·have hb:=HB i hi;obtain ⟨c,hc⟩:=oc (du n i);have hnx:du n (i+1)=c*(n-i) / (i+1):=(by rw [hc];rfl);rw [<- hc] at hb |-;have hmb:c*(n-i)<=1000*12:=Nat.mul_le_mul hb (by omega);have e1:(c:Int)*((n:Int)-(i:Int))=((c*(n-i):Nat):Int):=by
    rw [Int.natCast_mul,Int.ofNat_sub (show i<=n by omega)]
   have p1:IntKind.i64.wrap ((n:Int)-(i:Int))=(n:Int)-(i:Int):=(by rw [IntKind.wrap_i64];omega);have p2:IntKind.i64.wrap ((c:Int)*((n:Int)-(i:Int)))=((c*(n-i):Nat):Int):=(by rw [e1,IntKind.wrap_i64];omega);have p3:IntKind.i64.wrap ((i:Int)+1)=(i:Int)+1:=(by rw [IntKind.wrap_i64];omega);have p4:((((c*(n-i):Nat):Int)).tdiv ((i:Int)+1))=(du n (i+1):Int):=by
    rw [hnx];rfl
   have hle:du n (i+1)<=12000:=by
    rw [hnx];exact oJ (Nat.div_le_self _ _) hmb
   have p5:wrap64 (du n (i+1):Int)=(du n (i+1):Int):=(by unfold wrap64;omega);have p6:((i:Int)+1 == 0)=false:=(by rw [beq_eq_false_iff_ne];omega);have p7:¬ ((i:Int)+1=0):=(by omega);clear hc hnx e1 hmb hle hb
   go_wp2
   go_roundw
   case rel=>refine ⟨i+1,by omega,by go_num,by rw [<- Int.natCast_mul,p4];exact congrArg _ p5,by first | rfl | trivial⟩
   case measure=>simp [intOf];omega
  ·obtain rfl:i=k:=by omega
   go_wp2
   go_ret;exact ⟨rfl,rfl⟩
theorem a1_ (n k:Int) (w:World) :
  Calls prog 108 #[.int .i64 n,.int .i64 k] w fun e w'=>e=.returned (.func (.func 158) #[] #[.pointer (some ⟨w.heap.size+1,0,none⟩),.pointer (some ⟨w.heap.size,0,none⟩)])/\w'=(w.alloc (.cells #[.int .i64 n] 3)).alloc (.cells #[.int .i64 k] 3):=by
 go_enter func108,ntmps108
 go_wp2
 go_ret;exact ⟨rfl,rfl⟩
def fg (B:Nat) (w:World) (v:Value) (l:og):Prop:=w.ownsRow B 3 1 v l.length (l.map (Value.int .i64 ·))
theorem fg.ext {B:Nat} {w w':World} {v:Value} {l:og} (h:fg B w v l) (he:aA w w'):fg B w' v l:=fN h he
theorem R7_ {o:Oper} {a:Act} {K:Act->World->Prop} {Q:Exit->Act->World->Prop} (w:World) (s x:Operand) (T2:TypeId) (AD:prog.underlying T2=some (TypeDesc.slice 3)) (ho:o.op=Op.call { callee:=Callee.builtin Builtin.append,args:=#[s,x],argTypes:=#[T2,T2] }) (B:Nat)
  (v:Value) (l:og) (y:Int) (u:Array Value) (T:TypeId) (hs:a.eval s=v) (hB:fg B w v l) (hx:a.eval x=.slice (some ⟨w.heap.size,0,none⟩) 1 1) (hu:u=#[.int .i64 y]) (hlen:l.length<1000000) (o6:B<=w.heap.size)
  (h:∀ v' w',fg B w' v' (l++[y])->Below B w w'->K (a.put o.dst v') w'):o.wp prog a (w.alloc (.cells u T)) K Q:=by
 subst hu;obtain ⟨i0,hi,hz,o9,hby⟩:=info_parts jy;have pU:∀ j,(⟨w.heap.size,0,none⟩:Addr).add j=⟨w.heap.size,j,none⟩:=by intro j;unfold Addr.add;split <;> simp_all
 have hE:aA w (w.alloc (.cells #[.int .i64 y] T)):=aA.alloc _ _;refine ig (w.alloc (.cells #[.int .i64 y] T)) s x T2 ho B 3 i0 (.int .i64 0) 1 8 AD hi hz o9 hby rfl (by decide) v l.length (l.map (Value.int .i64 ·)) hs (hB.ext hE) ⟨w.heap.size,0,none⟩ 1 1 [.int .i64 y] hx rfl ?_ ?_ ?_ ?_ ?_ ?_
 ·intro j q hq;rw [pU,World.cell?_alloc_new];simpa using hq
 ·intro u hu;rw [List.mem_singleton.1 hu];rfl
 ·unfold maxLen;omega
 ·omega
 ·simp;omega
 ·intro v' w' hown oo _ qF;have qh:fg B w' v' (l++[y]):=by
   unfold fg;rw [oV,List.map_append];exact hown
  have pj:w.grownBy w' v.ownBlock:=gA (hE.grown _) oo;refine h v' w' qh ⟨pj.os,pj.tape,pj.output,pj.size,fun b hb=>pj.block b (by omega) fun e=>?_⟩;have:=(World.ownsRow.lt hB b e.symm).1;omega
def jF (l:og):List Value:=l.map fun n=>Value.string (aB n)
def numC (_:World) (u:List Value) (n:Int):Prop:=u=[.string (aB n)]
theorem numC.mono:iD numC:=fun _ _ _ _ _ h=>h
theorem numC.of_owns {w:World} {B:Nat} {v:Value} {L:og} (h:w.ownsRow B 53 1 v L.length (jF L)):aH 1 numC w v L:=by
 refine ⟨L.map fun n:Int=>[Value.string (aB n)],by simp,by simp,?_,?_⟩
 ·rw [di (fun n:Int=>Value.string (aB n))];exact dQ.of_owns h
 ·intro j u x hu hx;rw [oF,hx] at hu;exact (oM hu).symm
theorem jx:(prog.info? 53).map (fun i=>(i.zero,i.size,i.bytes))=some (some (.string ⟨#[]⟩),1,16):=by kernel_rfl
theorem u2_ {o:Oper} {a:Act} {K:Act->World->Prop} {Q:Exit->Act->World->Prop} (F:World) (s x:Operand) (ho:o.op=Op.call { callee:=Callee.builtin Builtin.append,args:=#[s,x],argTypes:=#[29,29] }) (B:Nat)
  (vo:Value) (L:og) (y:Int) (u:Array Value) (T:TypeId) (hs:a.eval s=vo) (hB:F.ownsRow B 53 1 vo L.length (jF L)) (hx:a.eval x=.slice (some ⟨F.heap.size,0,none⟩) 1 1) (hu:u=#[.string (aB y)]) (hlen:L.length<8000000) (o6:B<=F.heap.size)
  (h:∀ v' w',w'.ownsRow B 53 1 v' (L.length+1) (jF L++[.string (aB y)])->(F.alloc (.cells u T)).grownBy w' vo.ownBlock->K (a.put o.dst v') w'):o.wp prog a (F.alloc (.cells u T)) K Q:=by
 subst hu;obtain ⟨i0,hi,hz,o9,hby⟩:=info_parts jx;have pU:∀ j,(⟨F.heap.size,0,none⟩:Addr).add j=⟨F.heap.size,j,none⟩:=by intro j;unfold Addr.add;split <;> simp_all
 refine ig (F.alloc (.cells #[.string (aB y)] T)) s x _ ho B 53 i0 (.string ⟨#[]⟩) 1 16 underlying29 hi hz o9 hby rfl (by decide) vo L.length (jF L) hs (hB.alloc _) ⟨F.heap.size,0,none⟩ 1 1 [.string (aB y)] hx rfl ?_ ?_ ?_ ?_ ?_ ?_
 ·intro j q hq;rw [pU,World.cell?_alloc_new];simpa using hq
 ·intro u hu;rw [List.mem_singleton.1 hu];rfl
 ·unfold maxLen;omega
 ·omega
 ·simp;omega
 ·intro v' w' hown oo _ _;exact h v' w' hown oo
theorem Z5_ {α β:Type} (f:α->List β) (c:Nat) (h:∀ x,(f x).length=c):∀ l:List α,(l.flatMap f).length=l.length*c
 | []=>by simp
 | x::l=>by rw [List.flatMap_cons,oV,h,Z5_ f c h l,List.length_cons,Nat.succ_mul];omega
structure fB (w W:World) (Bm Bk Bo:Nat) (vm:Value) (k:Nat) (L:og):Prop where
 bm:Boxed W Bm 23 vm
 bk:Boxed W Bk 3 (.int .i64 (k:Int))
 out:∃ vo,Boxed W Bo 29 vo/\W.ownsRow w.heap.size 53 1 vo L.length (jF L)
 old:aA w W
 low:w.heap.size<=Bo/\w.heap.size<=Bm/\w.heap.size<=Bk
theorem Y7_ {W W':World} {B:Nat} {t:TypeId} {v:Value} {row:Option Nat} (h:Boxed W B t v) (hg:W.grownBy W' row) (hr:row≠some B):Boxed W' B t v:=h.kept hg (fun e=>hr (by first | exact e.symm | exact e | simpa using e.symm))
theorem fB.grown {w W W':World} {Bm Bk Bo:Nat} {vm:Value} {k:Nat} {L:og} (h:fB w W Bm Bk Bo vm k L) {row:Option Nat} (hg:W.grownBy W' row) (h1:row≠some Bm) (h2:row≠some Bk) (h3:row≠some Bo) (h4:∀ r,row=some r->w.heap.size<=r/\∀ C fr,W.heap[r]?≠some (.cells C 53 fr)):fB w W' Bm Bk Bo vm k L:=by
 obtain ⟨vo,ho,hown⟩:=h.out;refine ⟨Y7_ h.bm hg h1,Y7_ h.bk hg h2,⟨vo,Y7_ ho hg h3,hown.kept hg ?_⟩,?_,h.low⟩
 ·cases row with
  | none=>cases hv:vo.ownBlock <;> simp
  | some r =>
   refine .inr fun e=>?_;rcases hown.2 with ⟨rfl,-⟩ | ⟨g,cap,cur,rfl,-,sM,-⟩
   ·simp [Value.ownBlock] at e
   ·simp only [Value.ownBlock,Option.some.injEq] at e;subst e;exact (h4 g rfl).2 _ _ sM
 ·refine Below.trans h.old ⟨hg.os,hg.tape,hg.output,hg.size,fun b hb=>hg.block b (oI hb h.old.size) fun e=>?_⟩;have:=(h4 b e.symm).1;omega
theorem fB.ext {w W W':World} {Bm Bk Bo:Nat} {vm:Value} {k:Nat} {L:og} (h:fB w W Bm Bk Bo vm k L) (he:aA W W'):fB w W' Bm Bk Bo vm k L :=
 h.grown (he.grown none) (by simp) (by simp) (by simp) (fun r e=>by cases e)
structure cO (n0 Bo:Nat) (A B:World):Prop where
 os:B.os=A.os
 tape:B.tape=A.tape
 output:B.output=A.output
 size:A.heap.size<=B.heap.size
 block:∀ b,b<A.heap.size->(b<n0\/(b≠Bo/\∀ C fr,A.heap[b]?≠some (.cells C 53 fr)))->B.heap[b]?=A.heap[b]?
theorem cO.refl (n0 Bo:Nat) (A:World):cO n0 Bo A A:=⟨rfl,rfl,rfl,oK _,fun _ _ _=>rfl⟩
theorem cO.trans {n0 Bo:Nat} {A B C:World} (h:cO n0 Bo A B) (g:cO n0 Bo B C):cO n0 Bo A C :=
 ⟨g.os.trans h.os,g.tape.trans h.tape,g.output.trans h.output,oJ h.size g.size,fun b hb hc=>by
  have e:=h.block b hb hc;refine (g.block b (oI hb h.size) ?_).trans e;rcases hc with hc | ⟨h1,h2⟩
  ·exact .inl hc
  ·exact .inr ⟨h1,by rw [e];exact h2⟩⟩
theorem cO.grown {n0 Bo:Nat} {A B:World} {row:Option Nat} (hg:A.grownBy B row) (hr:∀ r,row=some r->r<A.heap.size->n0<=r/\(r=Bo\/∃ C fr,A.heap[r]?=some (.cells C 53 fr))):cO n0 Bo A B :=
 ⟨hg.os,hg.tape,hg.output,hg.size,fun b hb hc=>hg.block b hb fun e=>by
  obtain ⟨h1,h2⟩:=hr b e.symm hb;rcases hc with hc | ⟨k1,k2⟩
  ·omega
  ·rcases h2 with h2 | ⟨C,fr,h2⟩
   ·exact k1 h2
   ·exact k2 C fr h2⟩
theorem cO.ext {n0 Bo:Nat} {A B:World} (h:aA A B):cO n0 Bo A B:=⟨h.os,h.tape,h.output,h.size,fun b hb _=>h.block b hb⟩
theorem cO.later {n0 Bo:Nat} {A B C:World} (h:cO n0 Bo A B) {row:Option Nat} (hg:B.grownBy C row) (hr:∀ r,row=some r->A.heap.size<=r):cO n0 Bo A C :=
 ⟨hg.os.trans h.os,hg.tape.trans h.tape,hg.output.trans h.output,oJ h.size hg.size,fun b hb hc=>(hg.block b (oI hb h.size) (fun e=>by have:=hr b e.symm;omega)).trans (h.block b hb hc)⟩
theorem jM.cells {T:TypeId} {W:World} {g n:Nat} {s:List Nat} (h:jM T W (.slice (some ⟨g,0,none⟩) n n) s) {j x:Nat} (hx:s[j]?=some x):W.cell? ⟨g,j,none⟩=some (.int .i64 (x:Int)):=by
 obtain ⟨g',C,fr,hv,-,hc⟩:=h.at_;simp only [Value.slice.injEq,Option.some.injEq,Addr.mk.injEq] at hv;obtain ⟨⟨rfl,-,-⟩,-,-⟩:=hv;exact hc j x hx
def fc (xs:og) (C:List Nat) (q:Nat):List Int:=(C.take q).map fun y=>xs.getD y 0
theorem Z10 {xs:og} {C:List Nat} {q y:Nat} {z:Int} (hy:C[q]?=some y) (hz:xs[y]?=some z):fc xs C (q+1)=fc xs C q++[z]:=by
 unfold fc;rw [oH,hy,List.map_append];simp [hz]
theorem o1_ {xs:og} {C:List Nat} {q:Nat} (h:q<=C.length):(fc xs C q).length=q:=by
 unfold fc;simp;omega
theorem Z2U {m:oe} {xs:og} {C:List Nat} {x k:Nat} (h:C.length=k) (hx:m.getD x []=xs):fc xs C k=C.map fun j=>(m.getD x []).getD j 0:=by
 unfold fc;rw [hx,<- h,List.take_length]
theorem Z4u {m:oe} {R C:List Nat} (h:∀ r∈m,∀ x∈r,-1000000000<=x/\x<=(1000000000:Int)):∀ r∈cF m R C,∀ x∈r,-1000000000<=x/\x<=(1000000000:Int):=by
 intro r hr x hx;unfold cF at hr;obtain ⟨i,-,rfl⟩:=List.mem_map.1 hr;obtain ⟨j,-,rfl⟩:=List.mem_map.1 hx;rw [oD,oD];cases hi:m[i]? with
 | none=>simp
 | some q =>
  cases hj:q[j]? with
  | none=>simp [hj]
  | some y=>simpa [hj] using h q (oE hi) y (oE hj)
theorem o0_ {m:oe} {R C:List Nat}:∀ r∈cF m R C,r.length=C.length:=by
 intro r hr;unfold cF at hr;obtain ⟨i,-,rfl⟩:=List.mem_map.1 hr;simp
theorem Z0Z {m:oe} {R C:List Nat} {p x:Nat} (h:R[p]?=some x):cF m (R.take (p+1)) C=cF m (R.take p) C++[C.map fun j=>(m.getD x []).getD j 0]:=by
 unfold cF;rw [oH,h,List.map_append];rfl
theorem cO.keepT {n0 Bo:Nat} {A B:World} (h:cO n0 Bo A B) (hB:∀ C fr,A.heap[Bo]?≠some (.cells C 3 fr)):ff 3 A B :=
 ⟨h.size,fun b C fr hb=>(h.block b (dr hb) (.inr ⟨fun e=>hB C fr (by rw [<- e];exact hb),fun C' fr' e=>(by rw [hb] at e;simp at e)⟩)).trans hb⟩
theorem cO.keepF {n0 Bo B0:Nat} {A B:World} (h:cO n0 Bo A B) (hB:∀ o:Obj,A.heap[Bo]?=some o->o.isCells=true):KeepsFrom B0 A B :=
 ⟨h.size,fun b o _ hb ho=>(h.block b (dr hb) (.inr ⟨fun e=>(by rw [e] at hb;rw [hB o hb] at ho;cases ho),fun C' fr' e=>(by rw [hb] at e;cases e;simp [Obj.isCells] at ho)⟩)).trans hb⟩
theorem fB.box {w W:World} {Bm Bk Bo:Nat} {vm:Value} {k:Nat} {L:og} (h:fB w W Bm Bk Bo vm k L):(∀ C fr,W.heap[Bo]?≠some (.cells C 3 fr))/\∀ o:Obj,W.heap[Bo]?=some o->o.isCells=true:=by
 obtain ⟨vo,ho,-⟩:=h.out;have ho2:W.heap[Bo]?=some (.cells #[vo] 29 (0,0)):=ho;refine ⟨fun C fr e=>?_,fun o e=>?_⟩;·rw [ho2] at e;simp at e
 ·rw [ho2] at e;cases e;rfl
theorem fB.push {w F w1:World} {Bm Bk Bo:Nat} {vm:Value} {k:Nat} {L:og} (h:fB w F Bm Bk Bo vm k L) {vo v':Value} {tmp:Obj} (py:Boxed F Bo 29 vo) (hown:F.ownsRow w.heap.size 53 1 vo L.length (jF L)) (x:Int)
  (qO:w1.ownsRow w.heap.size 53 1 v' (L.length+1) (jF L++[.string (aB x)])) (oo:(F.alloc tmp).grownBy w1 vo.ownBlock) (h1:Bm≠Bo) (h2:Bk≠Bo) :
  fB w (w1.setCell ⟨Bo,0,none⟩ v') Bm Bk Bo vm k (L++[x])/\cO w.heap.size Bo F (w1.setCell ⟨Bo,0,none⟩ v')/\w1.cell? ⟨Bo,0,none⟩=some vo/\w1.frozen? ⟨Bo,0,none⟩=false:=by
 obtain ⟨hv1,tx,pX,hk2,hb2⟩:=py.appended (by decide) hown h.old.size h.low.1 qO oo;have b1:Boxed w1 Bm 23 vm:=(h.bm.alloc tmp).kept oo (h.bm.not_row (by decide) hown);have b2:Boxed w1 Bk 3 (.int .i64 (k:Int)):=(h.bk.alloc tmp).kept oo (h.bk.not_row (by decide) hown);refine ⟨⟨b1.other h1 v',b2.other h2 v',⟨v',tx,?_⟩,Below.trans h.old hb2,h.low⟩,?_,hv1.cell,hv1.frozen⟩
 ·rw [oV,show jF (L++[x])=jF L++[.string (aB x)] from by simp [jF]];exact pX
 ·refine ((cO.ext (aA.alloc F tmp)).trans (cO.grown oo fun r e hlt=>?_)).trans (cO.grown (fU w1 Bo 0 v') fun r e hlt=>?_)
  ·rcases hown.2 with ⟨rfl,-⟩ | ⟨g,cap,cur,rfl,hg1,sM,-⟩
   ·simp [Value.ownBlock] at e
   ·simp only [Value.ownBlock,Option.some.injEq] at e;subst e;exact ⟨hg1,.inr ⟨_,_,aJ sM (aA.alloc F tmp)⟩⟩
  ·have e:=oM e;subst e;exact ⟨h.low.1,.inl rfl⟩
end Go.Proofs.YtjlkkofmojgipaaGreatDoor
