import Derived.Test.YtoonaddcfakamaaGreatDoorYAE
import Derived.Test.YtoonaddcfakamaaGreatDoorYAN
import Derived.Laws.Rows
import Derived.Deep.RegionHeld3
import Derived.Deep.DrawnRows
set_option linter.unusedVariables false
set_option linter.unusedSimpArgs false
set_option maxRecDepth 1000000
set_option maxHeartbeats 4000000
namespace Go.Proofs.YtoonaddcfakamaaGreatDoor
open Go.RowKit Go.Proofs.Tryz
theorem Z4M (u v:Nat) (w:World) (hu:u<1000000000000000000) (hv:v<1000000000000000000) :
  oL 283 #[.int .i64 u,.int .i64 v] w (.int .i64 (Nat.gcd u v:Nat)):=by
 go_enter func283,ntmps283
 go_wp2_with fail
 go_loopw [0,1] (fun a b wr=>∃ x y:Nat,a=.int .i64 x/\b=.int .i64 y/\x<1000000000000000000/\y<1000000000000000000/\Hid (Nat.gcd x y=Nat.gcd u v)/\Hid (aA w wr)) (fun _ b _=>(intOf b).toNat)
 case atStart=>exact ⟨u,v,rfl,rfl,hu,hv,rfl,aA.refl _⟩
 case round =>
  obtain ⟨x,y,rfl,rfl,hx,hy,HG,HE⟩:=hrel;obtain ⟨wo,rfl⟩:∃ wo:World,wo=wr:=⟨_,rfl⟩;by_cases qH:y=0
  ·have HF:Hid (x=Nat.gcd u v):=(by unfold Hid;rw [<- HG.out,qH,Nat.gcd_zero_right]);subst qH;go_wp2_with fail;go_ret;exact ⟨by rw [<- HF.out];rfl,HE⟩
  ·have HG2:Hid (Nat.gcd y (x%y)=Nat.gcd u v):=by
    unfold Hid;rw [<- HG.out,Nat.gcd_comm y (x%y),<- Nat.gcd_rec,Nat.gcd_comm]
   obtain ⟨r,hr⟩:=oO (x%y);rw [<- hr] at HG2;have Js:r<y:=(by rw [hr];exact Nat.mod_lt _ (by omega));have xQ:(x:Int)%(y:Int)=(r:Int):=(by rw [hr];exact (Int.natCast_emod _ _).symm);have EP:(x:Int).tmod (y:Int)=(r:Int):=(by rw [Int.tmod_eq_emod_of_nonneg (by omega),xQ]);have Ja:((y:Int) == 0)=false:=(by rw [beq_eq_false_iff_ne];omega);have Dh:((y:Int) != 0)=true:=(by simp;omega);have JZ:¬ (y:Int)=0:=(by omega);clear hr;go_wp2_with fail
   go_quiet (fail)
   go_wp2_with fail;go_roundw
   case rel=>exact ⟨y,r,rfl,rfl,hy,by omega,HG2,aA.draws HE _⟩
   case measure=>simp [intOf];omega
theorem Z3e (x y:Int) (w:World) (hx:(aB x).size<=2800000000) (hy:(aB y).size<=2800000000) (ht:aZ w) :
  oL 209 #[.string (aB x),.string (aB y)] w (.string (aE (Nat.gcd x.natAbs y.natAbs))):=by
 have HT:=np ht;clear ht;have hax:=dw x;have hay:=dw y;have eb:∀ n:Nat,aB (n:Int)=aE n:=fun n=>by rw [fX _ (by omega)];rfl
 have hA1:=z5_ x w;have hA2:=fun W=>z5_ y W;rw [eb] at hA1;simp only [eb] at hA2;have HA1:=np hA1;have xI:Hid (∀ W,oL 63 #[.string (aB y)] W (.string (aE y.natAbs))):=hA2;obtain ⟨u,hu⟩:=oO x.natAbs;obtain ⟨v,hv⟩:=oO y.natAbs;rw [<- hu] at HA1 hax |-;rw [<- hv] at xI hay |-;clear hA1 hA2 hu hv;by_cases hs:(aE u).size<=18/\(aE v).size<=18
 ·have hu1:=iG hs.1;have hv1:=iG hs.2;have h1:∀ W,Calls prog 160 #[.string (aB (u:Int)),.int .i64 18] W fun e w'=>e=.returned (.tuple #[.int .i64 (u:Int),.bool true])/\aA W w':=fun W=>fE (u:Int) 18 W (by omega) (by omega) (by rw [eb];exact hs.1) (by omega);have h2:∀ W,Calls prog 160 #[.string (aB (v:Int)),.int .i64 18] W fun e w'=>e=.returned (.tuple #[.int .i64 (v:Int),.bool true])/\aA W w':=fun W=>fE (v:Int) 18 W (by omega) (by omega) (by rw [eb];exact hs.2) (by omega);rw [eb] at h1 h2;have H1:=np h1;have H2:=np h2;have HG:=np (fun W=>Z4M u v W hu1 hv1);have hg:Nat.gcd u v<=u+v:=by
   by_cases h0:u=0;·rw [h0,Nat.gcd_zero_left];omega
   ·have:=Nat.gcd_le_left v (Nat.pos_of_ne_zero h0);omega
  obtain ⟨gg,rJ⟩:=oO (Nat.gcd u v);rw [<- rJ] at HG hg |-;have hO:∀ W,aA w W->Calls prog 56 #[.int .i64 (gg:Int)] W fun e w'=>e=.returned (.string (aB (gg:Int)))/\aA W w':=fun W hE=>j0 (gg:Int) W (by omega) (by omega) (HT.ext hE);rw [eb] at hO;have HO:=np hO;clear h1 h2 hO hs rJ eb
  go_enter func209,ntmps209
  go_wp2_with fail;refine o_ HA1 ?_;intro w1 HE1;clear HA1;go_wp2_with fail;refine p_ (xI _) (aA.trans HE1) ?_;intro w2 HE2;clear xI;go_wp2_with fail;refine p_ (H1 _) (aA.trans HE2) ?_;intro w3 HE3;clear H1;go_wp2_with fail;refine p_ (H2 _) (aA.trans HE3) ?_;intro w4 HE4;clear H2;go_wp2_with fail;refine p_ (HG _) (aA.trans HE4) ?_;intro w5 HE5;clear HG;go_wp2_with fail;refine p_ (HO _ HE5) (aA.trans HE5) ?_;intro w6 HE6;clear HO;go_wp2_with fail;go_ret;exact ⟨rfl,HE6⟩
 ·have HG:Hid (∀ W,aA w W->oL 284 #[.string (aE u),.string (aE v)] W (.string (aE (Nat.gcd u v)))):=fun W hE=>D0_ u v W (by omega) (by omega) (HT.ext hE);have o9:((aE u).size<=18/\18<(aE v).size)\/18<(aE u).size:=by omega
  have HY:Hid ((aE u).size<=18->∀ W,oL 160 #[.string (aE u),.int .i64 18] W (.tuple #[.int .i64 (u:Int),.bool true])):=by
   intro h W;have hb:=iG h;have:=fE (u:Int) 18 W (by omega) (by omega) (by rw [eb];exact h) (by omega);rw [eb] at this;exact this
  have JK:Hid (∀ n:Nat,18<(aE n).size->∀ W,oM 160 #[.string (aE n),.int .i64 18] W (.tuple #[.int .i64 0,.bool false])):=by
   intro n h W;have:=fD (n:Int) 18 W (by rw [eb];exact h);rw [eb] at this;exact this
  clear hs eb;rcases o9 with ⟨hs1,hs2⟩ | hs1
  case' inl =>
   have H1:=np (HY hs1);have H2:=np (JK v hs2);clear hs1 hs2
   go_enter func209,ntmps209
   go_wp2_with fail;refine o_ HA1 ?_;intro w1 HE1;clear HA1;go_wp2_with fail;refine p_ (xI _) (aA.trans HE1) ?_;intro w2 HE2;clear xI;go_wp2_with fail;refine p_ (H1 _) (aA.trans HE2) ?_;intro w3 HE3;clear H1;go_wp2_with fail;refine q_ (H2 _) ?_;clear H2
  case' inr =>
   have H1:=np (JK u hs1);clear hs1
   go_enter func209,ntmps209
   go_wp2_with fail;refine o_ HA1 ?_;intro w1 HE1;clear HA1;go_wp2_with fail;refine p_ (xI _) (aA.trans HE1) ?_;intro w2 HE3;clear xI;go_wp2_with fail;refine q_ (H1 _) ?_;clear H1
  all_goals
   go_wp2_with fail;refine p_ (HG _ HE3) (aA.trans HE3) ?_;intro w5 HE5;clear HG;go_wp2_with fail;go_ret;exact ⟨rfl,HE5⟩
def bN (q:Rat):Value:=.agg #[.string (aB q.num),.string (aE q.den)]
def RS (k:Nat) (q:Rat):Prop:=(aB q.num).size<=k/\(aE q.den).size<=k
theorem RS.mono {k m:Nat} {q:Rat} (h:RS k q) (hk:k<=m):RS m q:=⟨n8 h.1 hk,n8 h.2 hk⟩
theorem eb (n:Nat):aB (n:Int)=aE n:=by rw [fX _ (by omega)];rfl
theorem X1_ (n:Int) (d:Nat) (hd:d≠0):(mkRat n d).num=n / (n.natAbs.gcd d:Nat)/\(mkRat n d).den=d / n.natAbs.gcd d:=by
 rw [<- Rat.normalize_eq_mkRat hd,Rat.normalize_eq hd];exact ⟨rfl,rfl⟩
theorem D3_ (n:Int) (d:Nat):Rat.divInt n (d:Int)=mkRat n d:=rfl
theorem D2_ (n:Int) (d:Nat) (hd:d≠0):Rat.divInt n (-(d:Int))=mkRat (-n) d:=by
 obtain ⟨m,rfl⟩:∃ m,d=m+1:=⟨d-1,by omega⟩;rw [<- Rat.normalize_eq_mkRat hd];rfl
theorem Z19 (x y:Int) (hy:0<y):aQ x y=x / y:=by
 have h1:=lZ x y;have h2:=jn x y hy;have h3:=Int.mul_ediv_add_emod x y;have h4:=Int.emod_nonneg x (show y≠0 by omega);have h5:=Int.emod_lt_of_pos x hy;generalize aQ x y=q at *
 generalize bK x y=r at *
 generalize x / y=q' at *
 generalize x%y=r' at *
 have h6:y*(q-q')=r'-r:=by rw [Int.mul_sub];omega
 rcases Int.lt_trichotomy q q' with h | h | h
 ·have:y*(q-q')<=y*(-1):=Int.mul_le_mul_of_nonneg_left (by omega) (by omega);omega
 ·exact h
 ·have:y*1<=y*(q-q'):=Int.mul_le_mul_of_nonneg_left (by omega) (by omega);omega
theorem j1_ (u:Nat):((aE u).toList == [49])=decide (u=1):=by
 rw [jx,show ([49]:List UInt8)=Lib.decDigits 1 by rw [Lib.decDigits_one (by omega)];rfl,J0_]
theorem X4_ (q:Rat) (w:World) :
  oL 275 #[bN q] w (.int .i64 q.num.sign):=by
 have HS:=np (fun W=>nd q.num W);unfold bN
 go_enter func275,ntmps275
 go_wp2_with fail;refine q_ (HS _) ?_;go_wp2_with fail;go_ret;exact ⟨rfl,aA.alloc _ _⟩
theorem dF (w:World) (x y:Value) (T:TypeId):∃ W,(w.alloc (.cells #[x,y] T))=W/\aA w W/\W.heap.size=w.heap.size+1/\W.heap[w.heap.size]?=some (.cells #[x,y] T (0,0)) :=
 ⟨_,rfl,aA.alloc _ _,by simp,dE _ _ _⟩
theorem cw {w:World} {B:Nat} {x y:Value} {T:TypeId} (h:w.heap[B]?=some (.cells #[x,y] T (0,0))):w.cell? ⟨B,0,none⟩=some x/\w.cell? ⟨B,1,none⟩=some y/\(∀ i,w.frozen? ⟨B,i,none⟩=false) :=
 ⟨ag h 0,ag h 1,cO h⟩
theorem jj {w:World} {B:Nat} {x y a b:Value} {T:TypeId} (h:w.heap[B]?=some (.cells #[x,y] T (0,0))):((w.setCell ⟨B,0,none⟩ a).setCell ⟨B,1,none⟩ b).heap[B]?=some (.cells #[a,b] T (0,0)):=by
 have h1:=d_ h 0 a;have h2:=d_ h1 1 b;simpa using h2
theorem A0_ (q:Rat) (w:World) (h:RS 28000 q) :
  oL 277 #[bN q] w (bN (-q)):=by
 have HN:Hid (∀ W,oL 111 #[.string (aB q.num)] W (.string (aB (-q).num))):=fun W=>by
  have:=nP q.num W (by have:=h.1;omega);rw [Rat.neg_num];exact this
 have hd:(-q).den=q.den:=rfl;unfold bN;rw [hd];obtain ⟨n,hn⟩:=oO (aB q.num);obtain ⟨d,tc⟩:=oO (aE q.den);obtain ⟨m,hm⟩:=oO (aB (-q).num);rw [<- hn,<- hm] at HN;rw [<- hn,<- tc,<- hm];clear hn tc hm hd h;obtain ⟨W1,oZ,hE1,hs1,hb1⟩:=dF w (.string n) (.string d) 246;obtain ⟨W2,pg,hE2,hs2,oY⟩:=dF W1 (.string ⟨#[]⟩) (.string ⟨#[]⟩) 246;have hb1':=aF hb1 hE2;obtain ⟨c0,c1,-⟩:=cw hb1';obtain ⟨r0,r1,rf⟩:=cw oY;have HB2:=np oY;have HE:=np (hE1.trans hE2);have HS1:=np hs1;have HC:Hid (∀ W,aA W2.drew W->W.cell? ⟨w.heap.size,0,none⟩=some (.string n)/\W.cell? ⟨w.heap.size,1,none⟩=some (.string d)/\W.cell? ⟨W1.heap.size,0,none⟩=some (.string ⟨#[]⟩)/\W.cell? ⟨W1.heap.size,1,none⟩=some (.string ⟨#[]⟩)/\(∀ i,W.frozen? ⟨W1.heap.size,i,none⟩=false)):=fun W hW =>
  ⟨hW.cell (by simpa using c0),hW.cell (by simpa using c1),hW.cell (by simpa using r0),hW.cell (by simpa using r1),(cw (aF (w:=W2.drew) oY hW)).2.2⟩
 clear hE1 hE2 hb1 oY hb1' hs1 hs2
 go_enter func277,ntmps277
 go_wp2_with fail
 go_region_with (go_at_call 111;refine (HN _).mono ?_;rintro e w5 ⟨rfl,oX⟩;obtain ⟨d0,d1,t0,t1,tf⟩:=HC _ oX;have tf0:=tf 0;have tf1:=tf 1;have HE5:=np oX;clear oX tf)
 all_goals
  have hb5:=jj (a:=.string m) (b:=.string d) (aF (w:=W2.drew) HB2 HE5);go_wp2_with fail;refine bodyPost_ret (results_cell_row (by rfl) _ _ W1.heap.size 246 #[.string m,.string d] (0,0) _ (by rfl) hb5 underlying246 (by rfl) (by kernel_rfl)) (by rfl) ⟨rfl,?_⟩;exact Below.setCell (Below.setCell ((HE.trans (aA.drew _)).trans HE5) (p:=⟨W1.heap.size,0,none⟩) (by have:=HS1.out;show w.heap.size<=W1.heap.size;omega) _) (p:=⟨W1.heap.size,1,none⟩) (by have:=HS1.out;show w.heap.size<=W1.heap.size;omega) _
theorem Z15 (N:Int) (g:Nat):(aB (N / (g:Int))).size<=(aB N).size:=by
 by_cases h:N<0
 ·have h1:=gB (N / (g:Int));have h2:=kT N h;have h3:(N / (g:Int)).natAbs<=N.natAbs:=Int.natAbs_ediv_le_natAbs N (g:Int);have:=ib h3;omega
 ·have h0:0<=N / (g:Int):=Int.ediv_nonneg (by omega) (by omega);rw [fX _ h0,fX N (by omega)];refine ib ?_;have h3:(N / (g:Int)).natAbs<=N.natAbs:=Int.natAbs_ediv_le_natAbs N (g:Int);omega
theorem Q9_ (n d:Int) (w:World) (hd:d≠0) (hn:(aB n).size<=27000) (MJ:(aB d).size<=27000) (ht:aZ w) :
  oL 338 #[.string (aB n),.string (aB d)] w (bN (Rat.divInt n d)):=by
 have HT:=np ht;clear ht;obtain ⟨W1,oZ,hE1,hs1,hb1⟩:=dF w (.string ⟨#[]⟩) (.string ⟨#[]⟩) 246;obtain ⟨r0,r1,rf⟩:=cw hb1;have HB1:=np hb1;have HE:=np hE1;have HC:Hid (∀ W,aA W1 W->W.cell? ⟨w.heap.size,0,none⟩=some (.string ⟨#[]⟩)/\W.cell? ⟨w.heap.size,1,none⟩=some (.string ⟨#[]⟩)/\(∀ i,W.frozen? ⟨w.heap.size,i,none⟩=false)):=fun W hW =>
  ⟨hW.cell r0,hW.cell r1,(cw (aF hb1 hW)).2.2⟩
 have HSG:=np (nd d W1);obtain ⟨N,D,hN,hD,xF,Lt,Lu,hq⟩:∃ (N:Int) (D:Nat),(if d<0 then N=-n else N=n)/\(if d<0 then d=-(D:Int) else d=(D:Int))/\D≠0/\(aB N).size<=27001/\(aE D).size<=27001/\Rat.divInt n d=mkRat N D:=by
  have h1:=gB (-n);have h2:=dw n;have h3:=dw d;rw [Int.natAbs_neg] at h1;by_cases h:d<0
  ·refine ⟨-n,d.natAbs,by rw [if_pos h],by rw [if_pos h];omega,by omega,by omega,by omega,?_⟩;rw [<- D2_ n d.natAbs (by omega)];congr 1;omega
  ·refine ⟨n,d.natAbs,by rw [if_neg h],by rw [if_neg h];omega,by omega,by omega,by omega,?_⟩;rw [<- D3_ n d.natAbs];congr 1;omega
 obtain ⟨hp1,hp2⟩:=X1_ N D xF;rw [hq];unfold bN;rw [hp1,hp2];obtain ⟨g,hg⟩:=oO (N.natAbs.gcd D);rw [<- hg];have IC:0<g:=by rw [hg];exact Nat.gcd_pos_of_pos_right _ (by omega)
 have IE:g<=D:=by rw [hg];exact Nat.gcd_le_right _ (by omega)
 have hgs:=ib IE;have Fs:∀ W,aA w W->Calls prog 209 #[.string (aB N),.string (aB (D:Int))] W fun e w'=>e=.returned (.string (aE g))/\aA W w':=fun W hW=>by
  have:=Z3e N (D:Int) W (by omega) (by rw [eb];omega) (HT.ext hW);rw [show (D:Int).natAbs=D from rfl,<- hg] at this;exact this
 have F5:∀ W,aA w W->Calls prog 112 #[.string (aB N),.string (aB (g:Int))] W fun e w'=>e=.returned (.tuple #[.string (aB (aQ N (g:Int))),.string (aB (bK N (g:Int))),.int .i64 0])/\aA W w':=fun W hW=>U8_ N (g:Int) W (by omega) (by rw [eb];omega) (by omega) (HT.ext hW);have F0:∀ W,aA w W->Calls prog 112 #[.string (aB (D:Int)),.string (aB (g:Int))] W fun e w'=>e=.returned (.tuple #[.string (aB (aQ (D:Int) (g:Int))),.string (aB (bK (D:Int) (g:Int))),.int .i64 0])/\aA W w':=fun W hW=>U8_ (D:Int) (g:Int) W (by rw [eb];omega) (by rw [eb];omega) (by omega) (HT.ext hW);have BQ:(0:Int)<(g:Int):=by omega
 have Iu:aQ (D:Int) (g:Int)=((D / g:Nat):Int):=by rw [Z19 _ _ BQ];exact (Int.natCast_ediv _ _).symm
 rw [Z19 N _ BQ,eb] at F5;rw [Iu,eb,eb,eb] at F0;rw [eb] at Fs;have HGC:=np Fs;have HD1:=np F5;have HD2:=np F0;have HG1:Hid (g=1->N / (g:Int)=N/\D / g=D):=fun h=>by rw [h];exact ⟨Int.ediv_one N,Nat.div_one D⟩
 have hz:=j1_ g;obtain ⟨FN,zR⟩:=oO (N / (g:Int));obtain ⟨FD,zS⟩:=oO (D / g);rw [<- zR] at HD1 HG1 |-;rw [<- zS] at HD2 HG1 |-;clear hg IC IE hgs Fs F5 F0 BQ Iu hp1 hp2 hq r0 r1 rf hb1 hE1 hs1 zR zS;have HX:Hid (w.heap.size<=w.heap.size):=n9 _;by_cases ou:d<0
 case' pos =>
  rw [if_pos ou] at hN hD;have qK:d.sign<0:=by rw [Int.sign_eq_neg_one_of_neg ou];omega
  have HN1:Hid (∀ W,oL 111 #[.string (aB n)] W (.string (aB N))):=fun W=>by rw [hN];exact nP n W (by omega)
  have pY:Hid (∀ W,oL 111 #[.string (aB d)] W (.string (aE D))):=fun W=>by
   have:=nP d W (by omega);rw [show -d=(D:Int) by omega,eb] at this;exact this
  obtain ⟨sg,sB⟩:=oO d.sign;rw [<- sB] at HSG qK;clear hN hD ou sB
  go_enter func338,ntmps338
  go_wp2_with fail;refine q_ HSG ?_;clear HSG;go_wp2_with fail;refine o_ (HN1 _) ?_;intro w2 HE2;clear HN1;go_wp2_with fail;refine p_ (pY _) (aA.trans HE2) ?_;intro w3 HE3;clear pY
 case' neg =>
  rw [if_neg ou] at hN hD;have qK:¬ d.sign<0:=by rw [Int.sign_eq_one_of_pos (by omega)];omega
  obtain ⟨sg,sB⟩:=oO d.sign;rw [<- sB] at HSG qK;rw [hD,eb] at HSG |-;rw [<- hN];clear hN hD ou sB
  go_enter func338,ntmps338
  go_wp2_with fail;refine q_ HSG ?_;clear HSG;have HE3:=np (aA.refl W1)
 all_goals
  by_cases hg1:g=1
  ·rw [oH hg1] at hz;have HQ:=np (HG1 hg1);clear hg1;go_wp2_with fail;refine (HGC _ (HE.trans HE3)).mono ?_;rintro e w4 ⟨rfl,hE4⟩;have HE4:=np (aA.trans HE3 hE4);obtain ⟨t0,t1,tf⟩:=HC _ HE4;have tf0:=tf 0;have tf1:=tf 1;have hb5:=jj (a:=.string (aB N)) (b:=.string (aE D)) (aF HB1 HE4);clear hE4 tf HGC;go_wp2_with fail;refine bodyPost_ret (results_cell_row (by rfl) _ _ w.heap.size 246 #[.string (aB N),.string (aE D)] (0,0) _ (by rfl) hb5 underlying246 (by rfl) (by kernel_rfl)) (by rfl) ⟨by rw [HQ.out.1,HQ.out.2],?_⟩;exact Below.setCell (Below.setCell (HE.trans HE4) (p:=⟨w.heap.size,0,none⟩) (n9 _) _) (p:=⟨w.heap.size,1,none⟩) (n9 _) _
  ·rw [oG hg1] at hz;clear hg1;go_wp2_with fail;refine p_ (HGC _ (HE.trans HE3)) (aA.trans HE3) ?_;intro w4 HE4;clear HGC;go_wp2_with fail;refine p_ (HD1 _ (HE.trans HE4)) (aA.trans HE4) ?_;intro w5 HE5;clear HD1;go_wp2_with fail;refine (HD2 _ (HE.trans HE5)).mono ?_;rintro e w6 ⟨rfl,oU⟩;have HE6:=np (aA.trans HE5 oU);obtain ⟨t0,t1,tf⟩:=HC _ HE6;have tf0:=tf 0;have tf1:=tf 1;have hb5:=jj (a:=.string (aB FN)) (b:=.string (aE FD)) (aF HB1 HE6);clear oU tf HD2;go_wp2_with fail;refine bodyPost_ret (results_cell_row (by rfl) _ _ w.heap.size 246 #[.string (aB FN),.string (aE FD)] (0,0) _ (by rfl) hb5 underlying246 (by rfl) (by kernel_rfl)) (by rfl) ⟨rfl,?_⟩;exact Below.setCell (Below.setCell (HE.trans HE6) (p:=⟨w.heap.size,0,none⟩) (n9 _) _) (p:=⟨w.heap.size,1,none⟩) (n9 _) _
theorem jM {n:Int} (h:(aB n).size<=9):-1000000000<n/\n<1000000000:=by
 have h1:=dw n;have h3:=Lib.lt_pow_nDigits n.natAbs;rw [eh] at h1;have h4:10^Lib.nDigits n.natAbs<=10^9:=Nat.pow_le_pow_right (by omega) (by omega);rw [show (10:Nat)^9=1000000000 by decide] at h4;omega
theorem J5_ (n:Int) (w:World) (hs:(aB n).size<=9) :
  oL 362 #[.string (aB n)] w (.tuple #[.int .i64 n,.bool true]):=by
 have hb:=jM hs;have tZ:¬ (9:Int)<((aB n).size:Int):=by omega
 have HA:=np (h7_ n w (by omega) (by omega) (by omega))
 go_enter func362,ntmps362
 go_wp2_with fail;refine o_ HA ?_;intro w1 HE1;clear HA;go_wp2_with fail
 go_quiet (fail)
 go_wp2_with fail;go_ret2;exact ⟨rfl,aA.draws HE1 _⟩
theorem D8_ (n:Int) (w:World) (hs:9<(aB n).size) :
  oL 362 #[.string (aB n)] w (.tuple #[.int .i64 0,.bool false]):=by
 have tZ:(9:Int)<((aB n).size:Int):=by omega
 go_enter func362,ntmps362
 go_wp2_with fail;go_ret2;exact ⟨rfl,aA.refl _⟩
theorem T9_ (q:Rat) (w:World) :
  Calls prog 336 #[bN q] w fun e w'=>∃ a b,e=.returned (.tuple #[.int .i64 a,.int .i64 b,.bool (decide ((aB q.num).size<=9) && decide ((aE q.den).size<=9))])/\Hid ((aB q.num).size<=9/\(aE q.den).size<=9->a=q.num/\b=q.den)/\aA w w':=by
 have tr:∀ W,∃ a,Calls prog 362 #[.string (aB q.num)] W fun e w'=>e=.returned (.tuple #[.int .i64 a,.bool (decide ((aB q.num).size<=9))])/\(aA W w'/\((aB q.num).size<=9->a=q.num)):=by
  intro W;by_cases h:(aB q.num).size<=9
  ·refine ⟨q.num,(J5_ q.num W h).mono fun e w' ⟨h1,h2⟩=>⟨?_,h2,fun _=>rfl⟩⟩;rw [h1,oH h]
  ·refine ⟨0,(D8_ q.num W (by omega)).mono fun e w' ⟨h1,h2⟩=>⟨?_,h2,fun h'=>absurd h' h⟩⟩;rw [h1,oG h]
 have zQ:∀ W,∃ a,Calls prog 362 #[.string (aE q.den)] W fun e w'=>e=.returned (.tuple #[.int .i64 a,.bool (decide ((aE q.den).size<=9))])/\(aA W w'/\((aE q.den).size<=9->a=q.den)):=by
  intro W;rw [<- eb];by_cases h:(aB (q.den:Int)).size<=9
  ·refine ⟨q.den,(J5_ q.den W h).mono fun e w' ⟨h1,h2⟩=>⟨?_,h2,fun _=>rfl⟩⟩;rw [h1,oH h]
  ·refine ⟨0,(D8_ q.den W (by omega)).mono fun e w' ⟨h1,h2⟩=>⟨?_,h2,fun h'=>absurd h' h⟩⟩;rw [h1,oG h]
 unfold bN;obtain ⟨n,hn⟩:=oO (aB q.num);obtain ⟨d,tc⟩:=oO (aE q.den);rw [<- hn] at tr;rw [<- tc] at zQ;rw [<- hn,<- tc];obtain ⟨b1,hb1⟩:=oO (decide (n.size<=9));obtain ⟨b2,oY⟩:=oO (decide (d.size<=9));rw [<- hb1] at tr |-;rw [<- oY] at zQ |-;have HL1:=np tr;have HL2:=np zQ;clear hn tc tr zQ hb1 oY;obtain ⟨W1,oZ,hE1,hs1,qE⟩:=dF w (.string n) (.string d) 246;obtain ⟨c0,c1,-⟩:=cw qE;have HE1:=np hE1;have HC:Hid (∀ W,aA W1 W->W.cell? ⟨w.heap.size,0,none⟩=some (.string n)/\W.cell? ⟨w.heap.size,1,none⟩=some (.string d)):=fun W hW=>⟨hW.cell c0,hW.cell c1⟩
 clear hE1 hs1 qE
 go_enter func336,ntmps336
 go_wp2_with fail;obtain ⟨a,hA⟩:=HL1 W1;refine hA.mono ?_;rintro e w2 ⟨rfl,hx⟩;have HX2:=np hx;obtain ⟨d0,d1⟩:=HC _ hx.1;clear hA hx c0 c1;go_wp2_with fail;obtain ⟨b,hB⟩:=HL2 w2;refine hB.mono ?_;rintro e w3 ⟨rfl,hx⟩;have HX3:=np hx;clear hB hx d0 d1;cases b1 <;> cases b2
 all_goals
  go_wp2_with fail;go_ret3;exact ⟨a,b,rfl,fun h=>⟨HX2.2 h.1,HX3.2 h.2⟩,(HE1.trans HX2.1).trans HX3.1⟩
theorem I9_ (a b:Int):Nat.gcd b.natAbs (a.tmod b).natAbs=Nat.gcd a.natAbs b.natAbs:=by
 rw [Int.natAbs_tmod,Nat.gcd_comm b.natAbs,<- Nat.gcd_rec,Nat.gcd_comm]
theorem Z46 (n:Int) (g:Nat) (h:(g:Int) ∣ n):n.tdiv (g:Int)=n / (g:Int):=by
 obtain ⟨k,rfl⟩:=h;by_cases hg:g=0;·subst hg;simp
 ·rw [Int.mul_tdiv_cancel_left _ (by omega),Int.mul_ediv_cancel_left _ (by omega)]
theorem Z1b (n:Int) (d:Nat) (w:World) (o4:-4000000000000000000<=n) (pk:n<=4000000000000000000) (E7:0<d) (hd:d<=4000000000000000000) (ht:aZ w) :
  oL 337 #[.int .i64 n,.int .i64 d] w (bN (mkRat n d)):=by
 have HT:=np ht;clear ht;obtain ⟨hp1,hp2⟩:=X1_ n d (by omega);unfold bN;rw [hp1,hp2];obtain ⟨g,hg⟩:=oO (n.natAbs.gcd d);rw [<- hg];have IC:0<g:=by rw [hg];exact Nat.gcd_pos_of_pos_right _ E7
 have qB:g<=d:=by rw [hg];exact Nat.gcd_le_right _ E7
 have qC:(g:Int) ∣ n:=by rw [hg];exact Int.ofNat_dvd_left.2 (Nat.gcd_dvd_left _ _)
 obtain ⟨FN,zR⟩:=oO (n / (g:Int));obtain ⟨FD,zS⟩:=oO (d / g);rw [<- zR,<- zS];have q1:n.tdiv (g:Int)=FN:=by rw [zR,Z46 n g qC]
 have q2:(d:Int) / (g:Int)=(FD:Int):=by rw [zS];exact (Int.natCast_ediv _ _).symm
 have Gs:(d:Int).tdiv (g:Int)=(FD:Int):=by rw [Int.tdiv_eq_ediv_of_nonneg (by omega),q2]
 have Fu:-4000000000000000000<=FN/\FN<=4000000000000000000:=by
  have:FN.natAbs<=n.natAbs:=by rw [zR];exact Int.natAbs_ediv_le_natAbs n (g:Int)
  omega
 have K4:FD<=4000000000000000000:=by
  have:FD<=d:=by rw [zS];exact Nat.div_le_self _ _
  omega
 obtain ⟨MH,BT⟩:=Fu;have e1:IntKind.i64.wrap FN=FN:=IntWalk.i64_in _ (by omega);have e2:IntKind.i64.wrap (FD:Int)=(FD:Int):=IntWalk.i64_in _ (by omega);have rQ:∀ W,aA w W->Calls prog 146 #[.int .i64 FN] W fun e w'=>e=.returned (.string (aB FN))/\aA W w':=fun W hE=>x7_ FN W (by omega) (by omega) (HT.ext hE);have AJ:∀ W,aA w W->Calls prog 146 #[.int .i64 (FD:Int)] W fun e w'=>e=.returned (.string (aB (FD:Int)))/\aA W w':=fun W hE=>x7_ (FD:Int) W (by omega) (by omega) (HT.ext hE);rw [eb] at AJ;have HI1:=np rQ;have HI2:=np AJ;have HG:=np hg;obtain ⟨W1,oZ,hE1,hs1,hb1⟩:=dF w (.string ⟨#[]⟩) (.string ⟨#[]⟩) 246;obtain ⟨r0,r1,rf⟩:=cw hb1;have HB1:=np hb1;have HE:=np hE1;have HC:Hid (∀ W,aA W1 W->W.cell? ⟨w.heap.size,0,none⟩=some (.string ⟨#[]⟩)/\W.cell? ⟨w.heap.size,1,none⟩=some (.string ⟨#[]⟩)/\(∀ i,W.frozen? ⟨w.heap.size,i,none⟩=false)):=fun W hW =>
  ⟨hW.cell r0,hW.cell r1,(cw (aF hb1 hW)).2.2⟩
 have HQ:Hid (n.tdiv (g:Int)=FN/\(d:Int) / (g:Int)=(FD:Int)/\(d:Int).tdiv (g:Int)=(FD:Int)/\IntKind.i64.wrap FN=FN/\IntKind.i64.wrap (FD:Int)=(FD:Int)):=⟨q1,q2,Gs,e1,e2⟩;clear hp1 hp2 hg qC rQ AJ zR zS q1 q2 Gs e1 e2 hE1 hs1 hb1 r0 r1 rf
 go_enter func337,ntmps337
 go_wp2_with fail
 go_loopw [5,6] (fun a b wr=>∃ x y:Int,a=.int .i64 x/\b=.int .i64 y/\-4000000000000000000<=x/\x<=4000000000000000000/\-4000000000000000000<=y/\y<=4000000000000000000/\Hid (Nat.gcd x.natAbs y.natAbs=g)/\Hid (aA W1 wr)) (fun _ b _=>(intOf b).natAbs)
 case atStart=>exact ⟨n,d,rfl,rfl,o4,pk,by omega,by omega,by rw [HG.out];rfl,aA.refl _⟩
 case round =>
  obtain ⟨x,y,rfl,rfl,pM,r9,tT,rF,JO,JP⟩:=hrel;obtain ⟨wo,rfl⟩:∃ wo:World,wo=wr:=⟨_,rfl⟩;by_cases qH:y=0
  ·have hgx:x.natAbs=g:=(by have:=JO.out;rw [qH] at this;simpa using this);subst qH;have Jg:(x<0/\x=-(g:Int))\/(¬ x<0/\x=(g:Int)):=(by omega);have IA:((g:Int) == 0)=false:=(by rw [beq_eq_false_iff_ne];omega);have KS:¬ (g:Int)=0:=(by omega);clear hgx;obtain ⟨q1,q2,q3,q4,q5⟩:=HQ.out;have HEd:=np (aA.trans JP (aA.drew wo));rcases Jg with ⟨ou,rm⟩ | ⟨ou,rm⟩
   case' inl =>
    have J5:-x=(g:Int):=(by omega);clear rm
   case' inr =>
    subst rm;have J5:True:=trivial
   all_goals
    go_wp2_with fail
    go_region_with (first
     | (go_at_call 146;with_reducible refine (HI1.out _ (HE.out.trans HEd.out)).mono ?_;rintro e w5 ⟨rfl,oX⟩;have HE2:=HEd;clear HEd;have HEd:=np (aA.trans HE2.out oX);obtain ⟨t0,t1,tf⟩:=HC.out _ HEd.out;have tf0:=tf 0;have tf1:=tf 1;clear oX HE2 tf)
     | (go_at_call 146;with_reducible refine (HI2.out _ (HE.out.trans HEd.out)).mono ?_;rintro e w5 ⟨rfl,oX⟩;have HE2:=HEd;clear HEd;have HEd:=np (aA.trans HE2.out oX);obtain ⟨t0,t1,tf⟩:=HC.out _ HEd.out;have tf0:=tf 0;have tf1:=tf 1;clear oX HE2 tf))
    all_goals
     have hb5:=jj (a:=.string (aB FN)) (b:=.string (aE FD)) (aF HB1 HEd);go_wp2_with fail;refine bodyPost_ret (results_cell_row (by rfl) _ _ w.heap.size 246 #[.string (aB FN),.string (aE FD)] (0,0) _ (by rfl) hb5 underlying246 (by rfl) (by kernel_rfl)) (by rfl) ⟨rfl,?_⟩;exact Below.setCell (Below.setCell (HE.trans HEd) (p:=⟨w.heap.size,0,none⟩) (n9 _) _) (p:=⟨w.heap.size,1,none⟩) (n9 _) _
  ·obtain ⟨r,hr⟩:=oO (x.tmod y);have Js:r.natAbs<y.natAbs:=(by rw [hr];exact u3_ x y qH);have HG2:Hid (Nat.gcd y.natAbs r.natAbs=g):=(by unfold Hid;rw [hr,I9_];exact JO);have qY:x.tmod y=r:=hr.symm;have Ja:(y == 0)=false:=(by rw [beq_eq_false_iff_ne];exact qH);have Dh:(y != 0)=true:=(by simpa using qH);clear hr;go_wp2_with fail
   go_quiet (fail)
   go_wp2_with fail;go_roundw
   case rel=>exact ⟨y,r,rfl,rfl,tT,rF,by omega,by omega,HG2,aA.draws JP _⟩
   case measure=>simp [intOf];omega
theorem jr (x y:Int):(aB (x*y)).size<=(aB x).size+(aB y).size+1:=by
 have h1:=gB (x*y);have h2:=dw x;have h3:=dw y;have h4:=nQ x.natAbs y.natAbs;rw [<- Int.natAbs_mul] at h4;omega
theorem r7_ (x y:Int):(aB (x+y)).size<=max (aB x).size (aB y).size+2:=by
 have h1:=gB (x+y);have h2:=dw x;have h3:=dw y;have h4:=W8_ x.natAbs y.natAbs;have h5:=ib (Int.natAbs_add_le x y);omega
def aU (B:Nat) (w:World):Prop:=∃ a b,w.heap[B]?=some (.cells #[a,b] 246 (0,0))
theorem aU.ext {B:Nat} {w w':World} (h:aU B w) (he:aA w w'):aU B w':=by
 obtain ⟨a,b,h⟩:=h;exact ⟨a,b,aF h he⟩
theorem aU.set2 {B:Nat} {w:World} {x y:Value} (h:aU B w):aU B ((w.setCell ⟨B,0,none⟩ x).setCell ⟨B,1,none⟩ y):=by
 obtain ⟨a,b,h⟩:=h;exact ⟨x,y,jj h⟩
theorem aU.res {B:Nat} {w:World} {x y:Value} (h:aU B w):((w.setCell ⟨B,0,none⟩ x).setCell ⟨B,1,none⟩ y).heap[B]?=some (.cells #[x,y] 246 (0,0)):=by
 obtain ⟨a,b,h⟩:=h;exact jj h
theorem aU.open {B:Nat} {w:World} (h:aU B w):∃ a b,w.cell? ⟨B,0,none⟩=some a/\w.cell? ⟨B,1,none⟩=some b/\w.frozen? ⟨B,0,none⟩=false/\w.frozen? ⟨B,1,none⟩=false:=by
 obtain ⟨a,b,h⟩:=h;obtain ⟨c0,c1,cf⟩:=cw h;exact ⟨a,b,c0,c1,cf 0,cf 1⟩
theorem da {w:World} {B g i:Nat} {x y v:Value} (hne:g≠B) (h:w.cell? ⟨g,i,none⟩=some v):((w.setCell ⟨B,0,none⟩ x).setCell ⟨B,1,none⟩ y).cell? ⟨g,i,none⟩=some v:=by
 rw [World.cell?_setCell_other _ _ _ _ (by intro e;simp only [Addr.mk.injEq] at e;exact hne e.1.symm),World.cell?_setCell_other _ _ _ _ (by intro e;simp only [Addr.mk.injEq] at e;exact hne e.1.symm)];exact h
theorem dq {w W:World} {B:Nat} {x y:Value} (h:aA w W) (hB:w.heap.size<=B):aA w ((W.setCell ⟨B,0,none⟩ x).setCell ⟨B,1,none⟩ y) :=
 Below.setCell (Below.setCell h (p:=⟨B,0,none⟩) hB _) (p:=⟨B,1,none⟩) hB _
theorem Z0h (x y:Rat):Rat.divInt (x.num*y.num) ((x.den:Int)*(y.den:Int))=x*y:=by
 rw [Rat.mul_def',<- Int.natCast_mul];rfl
theorem Z0g (x y:Rat):Rat.divInt (x.num*(y.den:Int)) ((x.den:Int)*y.num)=x / y:=by
 rw [Rat.div_def,Rat.inv_def,<- Rat.divInt_mul_divInt,Rat.num_divInt_den]
theorem B9_ (x y:Rat) (w:World) (hx:RS 13000 x) (hy:RS 13000 y) (ht:aZ w) :
  oL 278 #[bN x,bN y] w (bN (x*y)):=by
 have HT:=np ht;clear ht;obtain ⟨W1,oZ,hE1,hs1,hb1⟩:=dF w (.string (aB x.num)) (.string (aE x.den)) 246;obtain ⟨W2,pg,hE2,hs2,oY⟩:=dF W1 (.string (aB y.num)) (.string (aE y.den)) 246;obtain ⟨W3,rO,oT,hs3,ot⟩:=dF W2 (.string ⟨#[]⟩) (.string ⟨#[]⟩) 246;have hb1':=aF hb1 (hE2.trans oT);have hb2':=aF oY oT;have HE:=np ((hE1.trans hE2).trans oT);have HR:Hid (w.heap.size<=W2.heap.size):=by unfold Hid;omega
 have HN1:Hid (w.heap.size≠W2.heap.size):=by unfold Hid;omega
 have pY:Hid (W1.heap.size≠W2.heap.size):=by unfold Hid;omega
 have HC:Hid (∀ W,aA W3 W->W.cell? ⟨w.heap.size,0,none⟩=some (.string (aB x.num))/\W.cell? ⟨w.heap.size,1,none⟩=some (.string (aE x.den))/\W.cell? ⟨W1.heap.size,0,none⟩=some (.string (aB y.num))/\W.cell? ⟨W1.heap.size,1,none⟩=some (.string (aE y.den))/\W.cell? ⟨W2.heap.size,0,none⟩=some (.string ⟨#[]⟩)/\W.cell? ⟨W2.heap.size,1,none⟩=some (.string ⟨#[]⟩)/\W.frozen? ⟨W2.heap.size,0,none⟩=false/\W.frozen? ⟨W2.heap.size,1,none⟩=false/\W.heap[W2.heap.size]?=some (.cells #[.string ⟨#[]⟩,.string ⟨#[]⟩] 246 (0,0))):=fun W hW=>by
  obtain ⟨a0,a1,-⟩:=cw (aF hb1' hW);obtain ⟨b0,b1,-⟩:=cw (aF hb2' hW);obtain ⟨c0,c1,cf⟩:=cw (aF ot hW);exact ⟨a0,a1,b0,b1,c0,c1,cf 0,cf 1,aF ot hW⟩
 have HB1:Hid (∀ W,Calls prog 336 #[bN x] W fun e w'=>∃ a b,e=.returned (.tuple #[.int .i64 a,.int .i64 b,.bool (decide ((aB x.num).size<=9) && decide ((aE x.den).size<=9))])/\Hid ((aB x.num).size<=9/\(aE x.den).size<=9->a=x.num/\b=x.den)/\aA W w'):=fun W=>T9_ x W;have HB2:Hid (∀ W,Calls prog 336 #[bN y] W fun e w'=>∃ a b,e=.returned (.tuple #[.int .i64 a,.int .i64 b,.bool (decide ((aB y.num).size<=9) && decide ((aE y.den).size<=9))])/\Hid ((aB y.num).size<=9/\(aE y.den).size<=9->a=y.num/\b=y.den)/\aA W w'):=fun W=>T9_ y W;obtain ⟨bx,hbx⟩:=oO ((decide ((aB x.num).size<=9) && decide ((aE x.den).size<=9)));obtain ⟨by',pX⟩:=oO ((decide ((aB y.num).size<=9) && decide ((aE y.den).size<=9)));rw [<- hbx] at HB1;rw [<- pX] at HB2;have HBX:Hid (bx=true->(aB x.num).size<=9/\(aE x.den).size<=9):=by
  intro h;rw [hbx,Bool.and_eq_true,decide_eq_true_iff,decide_eq_true_iff] at h;exact h
 have yT:Hid (by'=true->(aB y.num).size<=9/\(aE y.den).size<=9):=by
  intro h;rw [pX,Bool.and_eq_true,decide_eq_true_iff,decide_eq_true_iff] at h;exact h
 have tq:∀ W,aA w W->Calls prog 66 #[.string (aB x.num),.string (aB y.num)] W fun e w'=>e=.returned (.string (aB (x.num*y.num)))/\aA W w':=fun W hW=>jv _ _ W (by have:=hx.1;omega) (by have:=hy.1;omega) (HT.ext hW);have qR:∀ W,aA w W->Calls prog 66 #[.string (aE x.den),.string (aE y.den)] W fun e w'=>e=.returned (.string (aB ((x.den:Int)*(y.den:Int))))/\aA W w':=fun W hW=>by
  have:=jv (x.den:Int) (y.den:Int) W (by rw [eb];have:=hx.2;omega) (by rw [eb];have:=hy.2;omega) (HT.ext hW);rw [eb,eb] at this;exact this
 have hL:∀ W,aA w W->Calls prog 338 #[.string (aB (x.num*y.num)),.string (aB ((x.den:Int)*(y.den:Int)))] W fun e w'=>e=.returned (bN (x*y))/\aA W w':=fun W hW=>by
  rw [<- Z0h];have h1:=jr x.num y.num;have h2:=jr (x.den:Int) (y.den:Int);rw [eb x.den,eb y.den] at h2;have h3:=hx.1;have h4:=hx.2;have h5:=hy.1;have h6:=hy.2;exact Q9_ _ _ W (by rw [<- Int.natCast_mul];have:=Nat.mul_ne_zero x.den_nz y.den_nz;omega) (by omega) (by omega) (HT.ext hW)
 have HM1:=np tq;have HM2:=np qR;have HL:=np hL;have HOF:Hid ((aB x.num).size<=9/\(aE x.den).size<=9->(aB y.num).size<=9/\(aE y.den).size<=9->∃ (p:Int) (q:Int),x.num*y.num=p/\(x.den:Int)*(y.den:Int)=q/\-1000000000000000000<=p/\p<=1000000000000000000/\-1000000000000000000<=q/\q<=1000000000000000000/\∀ W,aA w W->oL 337 #[.int .i64 p,.int .i64 q] W (bN (x*y))):=by
  intro h1 h2;have a1:=jM h1.1;have a2:=jM (n:=(x.den:Int)) (by rw [eb];exact h1.2);have a3:=jM h2.1;have a4:=jM (n:=(y.den:Int)) (by rw [eb];exact h2.2);have m1:=ln a1.1 a1.2 a3.1 a3.2 (by omega) (by omega);have m2:=ln a2.1 a2.2 a4.1 a4.2 (by omega) (by omega);refine ⟨_,_,rfl,rfl,by omega,by omega,by omega,by omega,fun W hW=>?_⟩;have E1:0<x.den*y.den:=Nat.mul_pos x.den_pos y.den_pos;rw [<- Int.natCast_mul] at m2 |-;have:=Z1b (x.num*y.num) (x.den*y.den) W (by omega) (by omega) E1 (by omega) (HT.ext hW);rw [Rat.mul_def'];exact this
 have pI:∀ q:Rat,bN q=.agg #[.string (aB q.num),.string (aE q.den)]:=fun _=>rfl;have HV:Hid (∀ q:Rat,bN q=.agg #[.string (aB q.num),.string (aE q.den)]):=pI;obtain ⟨Z,hZ⟩:=oO (x*y);rw [<- hZ] at HL HOF |-;rw [pI x] at HB1 |-;rw [pI y] at HB2 |-;rw [pI Z] at HL HOF |-;clear hE1 hE2 oT hs1 hs2 hs3 hb1 oY ot hb1' hb2' hbx pX tq qR hL pI hZ hx hy HV;obtain ⟨n1,o4⟩:=oO (aB x.num);obtain ⟨d1,qD⟩:=oO (aE x.den);obtain ⟨n2,pk⟩:=oO (aB y.num);obtain ⟨d2,pW⟩:=oO (aE y.den);obtain ⟨n3,va⟩:=oO (aB (x.num*y.num));obtain ⟨d3,vw⟩:=oO (aB ((x.den:Int)*(y.den:Int)));obtain ⟨n4,hn4⟩:=oO (aB Z.num);obtain ⟨d4,re⟩:=oO (aE Z.den);rw [<- o4,<- pk,<- va] at HM1;rw [<- qD,<- pW,<- vw] at HM2;rw [<- va,<- vw,<- hn4,<- re] at HL;rw [<- hn4,<- re] at HOF |-;rw [<- o4,<- qD,<- pk,<- pW] at HC |-;rw [<- o4,<- qD] at oZ;rw [<- pk,<- pW] at pg;rw [<- o4,<- qD] at HB1 HBX HOF;rw [<- pk,<- pW] at HB2 yT HOF;clear o4 qD pk pW va vw hn4 re;obtain ⟨c0,c1,c2,c3,c4,c5,c6,c7,-⟩:=HC W3 (aA.refl _)
 go_enter func278,ntmps278
 go_wp2_with fail;refine (HB1 _).mono ?_;rintro e w4 ⟨a,b,rfl,pU,hE4⟩;have HAB:=pU;have HE4:=np hE4;obtain ⟨d0,I8,I7,d3,I6,d5,d6,d7,-⟩:=HC _ hE4;clear pU hE4 HB1 c0 c1 c2 c3 c4 c5 c6 c7;cases bx
 ·clear HB2 HOF HAB d0 I8 I7 d3 I6 d5 d6 d7;go_wp2_with fail;have HX3:=np (aA.trans (aA.trans HE HE4) (aA.drew _));obtain ⟨y1,y2,y3,y4,-,-,-,-,yb⟩:=HC _ (aA.trans HE4 (aA.drew _));have HB3:Hid (aU W2.heap.size (w4).drew):=⟨_,_,yb⟩;clear yb
  go_region_held3 (fun w'=>w'.cell? ⟨w.heap.size,0,none⟩=some (.string n1)/\w'.cell? ⟨w.heap.size,1,none⟩=some (.string d1)/\w'.cell? ⟨W1.heap.size,0,none⟩=some (.string n2)/\w'.cell? ⟨W1.heap.size,1,none⟩=some (.string d2)/\Hid (aA w w')/\Hid (aU W2.heap.size w'))
   (first | exact ⟨z1,z2,z3,z4,z5,z6⟩ | exact ⟨da HN1 z1,da HN1 z2,da pY z3,da pY z4,np (dq z5.out HR),np z6.out.set2⟩ | exact ⟨y1,y2,y3,y4,HX3,HB3⟩ | go_keep)
   (first
    | (go_at_call 66;have hc:=HM1 _ (Hid.out (p:=aA w _) (by assumption));with_reducible refine hc.mono ?_;clear hc;rintro e w6 ⟨rfl,oU⟩;have q1:=oU.cell (a:=⟨w.heap.size,0,none⟩) (v:=.string n1) (by assumption);have q2:=oU.cell (a:=⟨w.heap.size,1,none⟩) (v:=.string d1) (by assumption);have q3:=oU.cell (a:=⟨W1.heap.size,0,none⟩) (v:=.string n2) (by assumption);have q4:=oU.cell (a:=⟨W1.heap.size,1,none⟩) (v:=.string d2) (by assumption);have q5:=np (aA.trans (Hid.out (p:=aA w _) (by assumption)) oU);have q6:=np (aU.ext (Hid.out (p:=aU W2.heap.size _) (by assumption)) oU);(try clear z1 z2 z3 z4 z5 z6 t0 t1 f0 f1);have z1:=q1;have z2:=q2;have z3:=q3;have z4:=q4;have z5:=q5;have z6:=q6;obtain ⟨r0,r1,t0,t1,f0,f1⟩:=z6.out.open;clear oU q1 q2 q3 q4 q5 q6)
    | (go_at_call 66;have hc:=HM2 _ (Hid.out (p:=aA w _) (by assumption));with_reducible refine hc.mono ?_;clear hc;rintro e w6 ⟨rfl,oU⟩;have q1:=oU.cell (a:=⟨w.heap.size,0,none⟩) (v:=.string n1) (by assumption);have q2:=oU.cell (a:=⟨w.heap.size,1,none⟩) (v:=.string d1) (by assumption);have q3:=oU.cell (a:=⟨W1.heap.size,0,none⟩) (v:=.string n2) (by assumption);have q4:=oU.cell (a:=⟨W1.heap.size,1,none⟩) (v:=.string d2) (by assumption);have q5:=np (aA.trans (Hid.out (p:=aA w _) (by assumption)) oU);have q6:=np (aU.ext (Hid.out (p:=aU W2.heap.size _) (by assumption)) oU);(try clear z1 z2 z3 z4 z5 z6 t0 t1 f0 f1);have z1:=q1;have z2:=q2;have z3:=q3;have z4:=q4;have z5:=q5;have z6:=q6;obtain ⟨r0,r1,t0,t1,f0,f1⟩:=z6.out.open;clear oU q1 q2 q3 q4 q5 q6)
    | (go_at_call 338;have hc:=HL _ (Hid.out (p:=aA w _) (by assumption));with_reducible refine hc.mono ?_;clear hc;rintro e w6 ⟨rfl,oU⟩;have q1:=oU.cell (a:=⟨w.heap.size,0,none⟩) (v:=.string n1) (by assumption);have q2:=oU.cell (a:=⟨w.heap.size,1,none⟩) (v:=.string d1) (by assumption);have q3:=oU.cell (a:=⟨W1.heap.size,0,none⟩) (v:=.string n2) (by assumption);have q4:=oU.cell (a:=⟨W1.heap.size,1,none⟩) (v:=.string d2) (by assumption);have q5:=np (aA.trans (Hid.out (p:=aA w _) (by assumption)) oU);have q6:=np (aU.ext (Hid.out (p:=aU W2.heap.size _) (by assumption)) oU);(try clear z1 z2 z3 z4 z5 z6 t0 t1 f0 f1);have z1:=q1;have z2:=q2;have z3:=q3;have z4:=q4;have z5:=q5;have z6:=q6;obtain ⟨r0,r1,t0,t1,f0,f1⟩:=z6.out.open;clear oU q1 q2 q3 q4 q5 q6))
  all_goals
   have hb7:=aU.res (x:=.string n4) (y:=.string d4) z6.out;go_wp2_with fail;refine bodyPost_ret (results_cell_row (by rfl) _ _ W2.heap.size 246 #[.string n4,.string d4] (0,0) _ (by rfl) hb7 underlying246 (by rfl) (by kernel_rfl)) (by rfl) ⟨rfl,?_⟩;exact dq z5.out HR
 ·go_wp2_with fail;refine (HB2 _).mono ?_;rintro e w5 ⟨c,d,rfl,sX,oX⟩;have HCD:=sX;have HE5:=np (aA.trans HE4 oX);clear sX oX HB2 d0 I8 I7 d3 I6 d5 d6 d7;cases by'
  ·clear HOF HAB HCD;go_wp2_with fail;have HX3:=np (aA.trans (aA.trans HE HE5) (aA.drew _));obtain ⟨y1,y2,y3,y4,-,-,-,-,yb⟩:=HC _ (aA.trans HE5 (aA.drew _));have HB3:Hid (aU W2.heap.size (w5).drew):=⟨_,_,yb⟩;clear yb
   go_region_held3 (fun w'=>w'.cell? ⟨w.heap.size,0,none⟩=some (.string n1)/\w'.cell? ⟨w.heap.size,1,none⟩=some (.string d1)/\w'.cell? ⟨W1.heap.size,0,none⟩=some (.string n2)/\w'.cell? ⟨W1.heap.size,1,none⟩=some (.string d2)/\Hid (aA w w')/\Hid (aU W2.heap.size w'))
    (first | exact ⟨z1,z2,z3,z4,z5,z6⟩ | exact ⟨da HN1 z1,da HN1 z2,da pY z3,da pY z4,np (dq z5.out HR),np z6.out.set2⟩ | exact ⟨y1,y2,y3,y4,HX3,HB3⟩ | go_keep)
    (first
     | (go_at_call 66;have hc:=HM1 _ (Hid.out (p:=aA w _) (by assumption));with_reducible refine hc.mono ?_;clear hc;rintro e w6 ⟨rfl,oU⟩;have q1:=oU.cell (a:=⟨w.heap.size,0,none⟩) (v:=.string n1) (by assumption);have q2:=oU.cell (a:=⟨w.heap.size,1,none⟩) (v:=.string d1) (by assumption);have q3:=oU.cell (a:=⟨W1.heap.size,0,none⟩) (v:=.string n2) (by assumption);have q4:=oU.cell (a:=⟨W1.heap.size,1,none⟩) (v:=.string d2) (by assumption);have q5:=np (aA.trans (Hid.out (p:=aA w _) (by assumption)) oU);have q6:=np (aU.ext (Hid.out (p:=aU W2.heap.size _) (by assumption)) oU);(try clear z1 z2 z3 z4 z5 z6 t0 t1 f0 f1);have z1:=q1;have z2:=q2;have z3:=q3;have z4:=q4;have z5:=q5;have z6:=q6;obtain ⟨r0,r1,t0,t1,f0,f1⟩:=z6.out.open;clear oU q1 q2 q3 q4 q5 q6)
     | (go_at_call 66;have hc:=HM2 _ (Hid.out (p:=aA w _) (by assumption));with_reducible refine hc.mono ?_;clear hc;rintro e w6 ⟨rfl,oU⟩;have q1:=oU.cell (a:=⟨w.heap.size,0,none⟩) (v:=.string n1) (by assumption);have q2:=oU.cell (a:=⟨w.heap.size,1,none⟩) (v:=.string d1) (by assumption);have q3:=oU.cell (a:=⟨W1.heap.size,0,none⟩) (v:=.string n2) (by assumption);have q4:=oU.cell (a:=⟨W1.heap.size,1,none⟩) (v:=.string d2) (by assumption);have q5:=np (aA.trans (Hid.out (p:=aA w _) (by assumption)) oU);have q6:=np (aU.ext (Hid.out (p:=aU W2.heap.size _) (by assumption)) oU);(try clear z1 z2 z3 z4 z5 z6 t0 t1 f0 f1);have z1:=q1;have z2:=q2;have z3:=q3;have z4:=q4;have z5:=q5;have z6:=q6;obtain ⟨r0,r1,t0,t1,f0,f1⟩:=z6.out.open;clear oU q1 q2 q3 q4 q5 q6)
     | (go_at_call 338;have hc:=HL _ (Hid.out (p:=aA w _) (by assumption));with_reducible refine hc.mono ?_;clear hc;rintro e w6 ⟨rfl,oU⟩;have q1:=oU.cell (a:=⟨w.heap.size,0,none⟩) (v:=.string n1) (by assumption);have q2:=oU.cell (a:=⟨w.heap.size,1,none⟩) (v:=.string d1) (by assumption);have q3:=oU.cell (a:=⟨W1.heap.size,0,none⟩) (v:=.string n2) (by assumption);have q4:=oU.cell (a:=⟨W1.heap.size,1,none⟩) (v:=.string d2) (by assumption);have q5:=np (aA.trans (Hid.out (p:=aA w _) (by assumption)) oU);have q6:=np (aU.ext (Hid.out (p:=aU W2.heap.size _) (by assumption)) oU);(try clear z1 z2 z3 z4 z5 z6 t0 t1 f0 f1);have z1:=q1;have z2:=q2;have z3:=q3;have z4:=q4;have z5:=q5;have z6:=q6;obtain ⟨r0,r1,t0,t1,f0,f1⟩:=z6.out.open;clear oU q1 q2 q3 q4 q5 q6))
   all_goals
    have hb7:=aU.res (x:=.string n4) (y:=.string d4) z6.out;go_wp2_with fail;refine bodyPost_ret (results_cell_row (by rfl) _ _ W2.heap.size 246 #[.string n4,.string d4] (0,0) _ (by rfl) hb7 underlying246 (by rfl) (by kernel_rfl)) (by rfl) ⟨rfl,?_⟩;exact dq z5.out HR
  ·obtain ⟨ha,hb⟩:=HAB (HBX (by first | rfl | trivial));obtain ⟨hc,hd⟩:=HCD (yT (by first | rfl | trivial));obtain ⟨p,q,hp,hq,p1,p2,q1,q2,A8⟩:=HOF (HBX (by first | rfl | trivial)) (yT (by first | rfl | trivial));have HO:=np A8;have qj:a*c=p:=(by rw [ha,hc];exact hp);have zr:b*d=q:=(by rw [hb,hd];exact hq);clear ha hb hc hd hp hq A8 HAB HCD HOF HM1 HM2 HL;go_wp2_with fail;refine (HO _ (HE.trans HE5)).mono ?_;rintro e w6 ⟨rfl,oU⟩;have HE6:=np (aA.trans HE5 oU);obtain ⟨-,-,-,-,-,-,-,-,yb⟩:=HC _ HE6;have z6:Hid (aU W2.heap.size w6):=⟨_,_,yb⟩;obtain ⟨r0,r1,t0,t1,f0,f1⟩:=z6.out.open;clear oU HO yb;have hb7:=aU.res (x:=.string n4) (y:=.string d4) z6.out;go_wp2_with fail;refine bodyPost_ret (results_cell_row (by rfl) _ _ W2.heap.size 246 #[.string n4,.string d4] (0,0) _ (by rfl) hb7 underlying246 (by rfl) (by kernel_rfl)) (by rfl) ⟨rfl,?_⟩;exact dq (HE.trans HE6) HR
theorem nW {P:Program} {fn:Func} {p s:Tmp} {ty:TypeId} (h:fn.results=#[.cell p ty,.tmp s]) (tmps:Array Value) (w:World) (g:Nat) (t:TypeId) (cs:Array Value) (fr:Nat×Nat) (d:TypeDesc) (v:Value)
  (hp:tmps.getD p undef=.pointer (some ⟨g,0,none⟩)) (hs:tmps.getD s undef=v) (hg:w.heap[g]?=some (.cells cs t fr))
  (hu:P.underlying ty=some d) (hd:(match d with | .struct _ | .array _ _=>true | _=>false)=true) (hi:(P.info? ty).map (·.size)=some cs.size) :
  (results fn tmps).run P w=.ok (.tuple #[.agg cs,v]) w:=by
 have qj:tmps[p]?.getD undef=.pointer (some ⟨g,0,none⟩):=by simpa using hp
 have tZ:tmps[s]?.getD undef=v:=by simpa using hs
 simp [results,h,qj,tZ,asAddr,run_loadVar_row w g t ty cs fr d hg hu hd hi]
theorem Z0d (x y:Rat) (w:World) (hx:RS 13000 x) (hy:RS 13000 y) (qH:y≠0) (ht:aZ w) :
  oL 279 #[bN x,bN y] w (.tuple #[bN (x / y),.int .i64 0]):=by
 have HT:=np ht;clear ht;obtain ⟨W1,oZ,hE1,hs1,hb1⟩:=dF w (.string (aB x.num)) (.string (aE x.den)) 246;obtain ⟨W2,pg,hE2,hs2,oY⟩:=dF W1 (.string (aB y.num)) (.string (aE y.den)) 246;obtain ⟨W3,rO,oT,hs3,ot⟩:=dF W2 (.string ⟨#[]⟩) (.string ⟨#[]⟩) 246;have hb1':=aF hb1 (hE2.trans oT);have hb2':=aF oY oT;have HE:=np ((hE1.trans hE2).trans oT);have HR:Hid (w.heap.size<=W2.heap.size):=by unfold Hid;omega
 have HN1:Hid (w.heap.size≠W2.heap.size):=by unfold Hid;omega
 have pY:Hid (W1.heap.size≠W2.heap.size):=by unfold Hid;omega
 have HC:Hid (∀ W,aA W3 W->W.cell? ⟨w.heap.size,0,none⟩=some (.string (aB x.num))/\W.cell? ⟨w.heap.size,1,none⟩=some (.string (aE x.den))/\W.cell? ⟨W1.heap.size,0,none⟩=some (.string (aB y.num))/\W.cell? ⟨W1.heap.size,1,none⟩=some (.string (aE y.den))/\W.cell? ⟨W2.heap.size,0,none⟩=some (.string ⟨#[]⟩)/\W.cell? ⟨W2.heap.size,1,none⟩=some (.string ⟨#[]⟩)/\W.frozen? ⟨W2.heap.size,0,none⟩=false/\W.frozen? ⟨W2.heap.size,1,none⟩=false/\W.heap[W2.heap.size]?=some (.cells #[.string ⟨#[]⟩,.string ⟨#[]⟩] 246 (0,0))):=fun W hW=>by
  obtain ⟨a0,a1,-⟩:=cw (aF hb1' hW);obtain ⟨b0,b1,-⟩:=cw (aF hb2' hW);obtain ⟨c0,c1,cf⟩:=cw (aF ot hW);exact ⟨a0,a1,b0,b1,c0,c1,cf 0,cf 1,aF ot hW⟩
 have hSG:=fun W=>X4_ y W;have wh:y.num≠0:=fun h=>qH (Rat.num_eq_zero.1 h);have qK:(y.num.sign == 0)=false:=by rw [beq_eq_false_iff_ne];exact fun h=>wh (Int.sign_eq_zero_iff_zero.1 h)
 have tq:∀ W,aA w W->Calls prog 66 #[.string (aB x.num),.string (aE y.den)] W fun e w'=>e=.returned (.string (aB (x.num*(y.den:Int))))/\aA W w':=fun W hW=>by
  have:=jv x.num (y.den:Int) W (by have:=hx.1;omega) (by rw [eb];have:=hy.2;omega) (HT.ext hW);rw [eb] at this;exact this
 have qR:∀ W,aA w W->Calls prog 66 #[.string (aE x.den),.string (aB y.num)] W fun e w'=>e=.returned (.string (aB ((x.den:Int)*y.num)))/\aA W w':=fun W hW=>by
  have:=jv (x.den:Int) y.num W (by rw [eb];have:=hx.2;omega) (by have:=hy.1;omega) (HT.ext hW);rw [eb] at this;exact this
 have hL:∀ W,aA w W->Calls prog 338 #[.string (aB (x.num*(y.den:Int))),.string (aB ((x.den:Int)*y.num))] W fun e w'=>e=.returned (bN (x / y))/\aA W w':=fun W hW=>by
  rw [<- Z0g];have h1:=jr x.num (y.den:Int);have h2:=jr (x.den:Int) y.num;rw [eb y.den] at h1;rw [eb x.den] at h2;have h3:=hx.1;have h4:=hx.2;have h5:=hy.1;have h6:=hy.2;exact Q9_ _ _ W (Int.mul_ne_zero (by have:=x.den_nz;omega) wh) (by omega) (by omega) (HT.ext hW)
 have HM1:=np tq;have HM2:=np qR;have HL:=np hL;have HSG:=np hSG;have pI:∀ q:Rat,bN q=.agg #[.string (aB q.num),.string (aE q.den)]:=fun _=>rfl;obtain ⟨Z,hZ⟩:=oO (x / y);obtain ⟨sg,sB⟩:=oO y.num.sign;rw [<- hZ] at HL |-;rw [<- sB] at HSG qK;rw [pI x];rw [pI y] at HSG |-;rw [pI Z] at HL |-;clear hE1 hE2 oT hs1 hs2 hs3 hb1 oY ot hb1' hb2' tq qR hL hSG pI hx hy qH wh sB;obtain ⟨n1,o4⟩:=oO (aB x.num);obtain ⟨d1,qD⟩:=oO (aE x.den);obtain ⟨n2,pk⟩:=oO (aB y.num);obtain ⟨d2,pW⟩:=oO (aE y.den);obtain ⟨n4,hn4⟩:=oO (aB Z.num);obtain ⟨d4,re⟩:=oO (aE Z.den);obtain ⟨n3,va⟩:=oO (aB (x.num*(y.den:Int)));obtain ⟨d3,vw⟩:=oO (aB ((x.den:Int)*y.num));rw [<- o4,<- pW,<- va] at HM1;rw [<- qD,<- pk,<- vw] at HM2;rw [<- va,<- vw,<- hn4,<- re] at HL;rw [<- hn4,<- re];rw [<- o4,<- qD,<- pk,<- pW] at HC |-;rw [<- o4,<- qD] at oZ;rw [<- pk,<- pW] at pg HSG;clear o4 qD pk pW va vw hn4 re hZ;obtain ⟨c0,c1,c2,c3,c4,c5,c6,c7,-⟩:=HC W3 (aA.refl _)
 go_enter func279,ntmps279
 go_wp2_with fail;refine o_ (HSG _) ?_;intro w4 HE4;clear HSG c0 c1 c2 c3 c4 c5 c6 c7;go_wp2_with fail;have HX3:=np (aA.trans (aA.trans HE HE4) (aA.drew _));obtain ⟨y1,y2,y3,y4,-,-,-,-,yb⟩:=HC _ (aA.trans HE4 (aA.drew _));have HB3:Hid (aU W2.heap.size (w4).drew):=⟨_,_,yb⟩;clear yb
 go_region_held3 (fun w'=>w'.cell? ⟨w.heap.size,0,none⟩=some (.string n1)/\w'.cell? ⟨w.heap.size,1,none⟩=some (.string d1)/\w'.cell? ⟨W1.heap.size,0,none⟩=some (.string n2)/\w'.cell? ⟨W1.heap.size,1,none⟩=some (.string d2)/\Hid (aA w w')/\Hid (aU W2.heap.size w'))
  (first | exact ⟨z1,z2,z3,z4,z5,z6⟩ | exact ⟨da HN1 z1,da HN1 z2,da pY z3,da pY z4,np (dq z5.out HR),np z6.out.set2⟩ | exact ⟨y1,y2,y3,y4,HX3,HB3⟩ | go_keep)
  (first
   | (go_at_call 66;have hc:=HM1 _ (Hid.out (p:=aA w _) (by assumption));with_reducible refine hc.mono ?_;clear hc;rintro e w6 ⟨rfl,oU⟩;have q1:=oU.cell (a:=⟨w.heap.size,0,none⟩) (v:=.string n1) (by assumption);have q2:=oU.cell (a:=⟨w.heap.size,1,none⟩) (v:=.string d1) (by assumption);have q3:=oU.cell (a:=⟨W1.heap.size,0,none⟩) (v:=.string n2) (by assumption);have q4:=oU.cell (a:=⟨W1.heap.size,1,none⟩) (v:=.string d2) (by assumption);have q5:=np (aA.trans (Hid.out (p:=aA w _) (by assumption)) oU);have q6:=np (aU.ext (Hid.out (p:=aU W2.heap.size _) (by assumption)) oU);(try clear z1 z2 z3 z4 z5 z6 t0 t1 f0 f1);have z1:=q1;have z2:=q2;have z3:=q3;have z4:=q4;have z5:=q5;have z6:=q6;obtain ⟨r0,r1,t0,t1,f0,f1⟩:=z6.out.open;clear oU q1 q2 q3 q4 q5 q6)
   | (go_at_call 66;have hc:=HM2 _ (Hid.out (p:=aA w _) (by assumption));with_reducible refine hc.mono ?_;clear hc;rintro e w6 ⟨rfl,oU⟩;have q1:=oU.cell (a:=⟨w.heap.size,0,none⟩) (v:=.string n1) (by assumption);have q2:=oU.cell (a:=⟨w.heap.size,1,none⟩) (v:=.string d1) (by assumption);have q3:=oU.cell (a:=⟨W1.heap.size,0,none⟩) (v:=.string n2) (by assumption);have q4:=oU.cell (a:=⟨W1.heap.size,1,none⟩) (v:=.string d2) (by assumption);have q5:=np (aA.trans (Hid.out (p:=aA w _) (by assumption)) oU);have q6:=np (aU.ext (Hid.out (p:=aU W2.heap.size _) (by assumption)) oU);(try clear z1 z2 z3 z4 z5 z6 t0 t1 f0 f1);have z1:=q1;have z2:=q2;have z3:=q3;have z4:=q4;have z5:=q5;have z6:=q6;obtain ⟨r0,r1,t0,t1,f0,f1⟩:=z6.out.open;clear oU q1 q2 q3 q4 q5 q6)
   | (go_at_call 338;have hc:=HL _ (Hid.out (p:=aA w _) (by assumption));with_reducible refine hc.mono ?_;clear hc;rintro e w6 ⟨rfl,oU⟩;have q1:=oU.cell (a:=⟨w.heap.size,0,none⟩) (v:=.string n1) (by assumption);have q2:=oU.cell (a:=⟨w.heap.size,1,none⟩) (v:=.string d1) (by assumption);have q3:=oU.cell (a:=⟨W1.heap.size,0,none⟩) (v:=.string n2) (by assumption);have q4:=oU.cell (a:=⟨W1.heap.size,1,none⟩) (v:=.string d2) (by assumption);have q5:=np (aA.trans (Hid.out (p:=aA w _) (by assumption)) oU);have q6:=np (aU.ext (Hid.out (p:=aU W2.heap.size _) (by assumption)) oU);(try clear z1 z2 z3 z4 z5 z6 t0 t1 f0 f1);have z1:=q1;have z2:=q2;have z3:=q3;have z4:=q4;have z5:=q5;have z6:=q6;obtain ⟨r0,r1,t0,t1,f0,f1⟩:=z6.out.open;clear oU q1 q2 q3 q4 q5 q6))
 all_goals
  have hb7:=aU.res (x:=.string n4) (y:=.string d4) z6.out;go_wp2_with fail;refine bodyPost_ret (nW (by rfl) _ _ W2.heap.size 246 #[.string n4,.string d4] (0,0) _ (.int .i64 0) (by rfl) (by rfl) hb7 underlying246 (by rfl) (by kernel_rfl)) (by rfl) ⟨rfl,?_⟩;exact dq z5.out HR
end Go.Proofs.YtoonaddcfakamaaGreatDoor
