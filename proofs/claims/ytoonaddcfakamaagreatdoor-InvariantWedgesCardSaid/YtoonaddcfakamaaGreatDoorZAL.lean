import Derived.Test.YtoonaddcfakamaaGreatDoorZAK
import Derived.Laws.Rows
import Derived.Deep.RegionHeld3
import Derived.Deep.DrawnRows
import Derived.Test.YtoonaddcfakamaaGreatDoorZAA
set_option linter.unusedVariables false
set_option linter.unusedSimpArgs false
set_option maxRecDepth 1000000
set_option maxHeartbeats 8000000
namespace Go.Proofs.YtoonaddcfakamaaGreatDoor
open Go.RowKit Go.Proofs.Tryz
def bR (q:Rat):Value:=.agg #[.string (aB q.num),.string (aE q.den)]
def RS (k:Nat) (q:Rat):Prop:=(aB q.num).size<=k/\(aE q.den).size<=k
theorem RS.mono {k m:Nat} {q:Rat} (h:RS k q) (hk:k<=m):RS m q:=⟨ow h.1 hk,ow h.2 hk⟩
theorem eb (n:Nat):aB (n:Int)=aE n:=by rw [fw _ (by omega)];rfl
theorem X2_ (n:Int) (d:Nat) (hd:d≠0):(mkRat n d).num=n / (n.natAbs.gcd d:Nat)/\(mkRat n d).den=d / n.natAbs.gcd d:=by
 rw [<- Rat.normalize_eq_mkRat hd,Rat.normalize_eq hd];exact ⟨rfl,rfl⟩
theorem C6_ (n:Int) (d:Nat):Rat.divInt n (d:Int)=mkRat n d:=rfl
theorem C5_ (n:Int) (d:Nat) (hd:d≠0):Rat.divInt n (-(d:Int))=mkRat (-n) d:=by
 obtain ⟨m,rfl⟩:∃ m,d=m+1:=⟨d-1,by omega⟩;rw [<- Rat.normalize_eq_mkRat hd];rfl
theorem Z2l (x y:Int) (hy:0<y):aL x y=x / y:=by
 have h1:=mW x y;have h2:=lG x y hy;have h3:=Int.mul_ediv_add_emod x y;have h4:=Int.emod_nonneg x (show y≠0 by omega);have h5:=Int.emod_lt_of_pos x hy;generalize aL x y=q at *
 generalize bF x y=r at *
 generalize x / y=q' at *
 generalize x%y=r' at *
 have h6:y*(q-q')=r'-r:=by rw [Int.mul_sub];omega
 rcases Int.lt_trichotomy q q' with h | h | h
 ·have:y*(q-q')<=y*(-1):=Int.mul_le_mul_of_nonneg_left (by omega) (by omega);omega
 ·exact h
 ·have:y*1<=y*(q-q'):=Int.mul_le_mul_of_nonneg_left (by omega) (by omega);omega
theorem f3_ (u:Nat):((aE u).toList == [49])=decide (u=1):=by
 rw [jP,show ([49]:List UInt8)=Lib.decDigits 1 by rw [Lib.decDigits_one (by omega)];rfl,T4_]
theorem X5_ (q:Rat) (w:World) :
  pI 275 #[bR q] w (.int .i64 q.num.sign):=by
 have HS:=oZ (fun W=>mz q.num W);unfold bR
 go_enter func275,ntmps275
 go_wp2_with fail;refine r_ (HS _) ?_;go_wp2_with fail;go_ret;exact ⟨rfl,aA.alloc _ _⟩
theorem dO (w:World) (x y:Value) (T:TypeId):∃ W,(w.alloc (.cells #[x,y] T))=W/\aA w W/\W.heap.size=w.heap.size+1/\W.heap[w.heap.size]?=some (.cells #[x,y] T (0,0)) :=
 ⟨_,rfl,aA.alloc _ _,by simp,dq _ _ _⟩
theorem dI {w:World} {B:Nat} {x y:Value} {T:TypeId} (h:w.heap[B]?=some (.cells #[x,y] T (0,0))):w.cell? ⟨B,0,none⟩=some x/\w.cell? ⟨B,1,none⟩=some y/\(∀ i,w.frozen? ⟨B,i,none⟩=false) :=
 ⟨ah h 0,ah h 1,cQ h⟩
theorem kK {w:World} {B:Nat} {x y a b:Value} {T:TypeId} (h:w.heap[B]?=some (.cells #[x,y] T (0,0))):((w.setCell ⟨B,0,none⟩ a).setCell ⟨B,1,none⟩ b).heap[B]?=some (.cells #[a,b] T (0,0)):=by
 have h1:=dr h 0 a;have h2:=dr h1 1 b;simpa using h2
theorem z9_ (q:Rat) (w:World) (h:RS 28000 q) :
  pI 277 #[bR q] w (bR (-q)):=by
 have HN:Hid (∀ W,pI 111 #[.string (aB q.num)] W (.string (aB (-q).num))):=fun W=>by
  have:=lf q.num W (by have:=h.1;omega);rw [Rat.neg_num];exact this
 have hd:(-q).den=q.den:=rfl;unfold bR;rw [hd];obtain ⟨n,hn⟩:=pL (aB q.num);obtain ⟨d,wF⟩:=pL (aE q.den);obtain ⟨m,hm⟩:=pL (aB (-q).num);rw [<- hn,<- hm] at HN;rw [<- hn,<- wF,<- hm];clear hn wF hm hd h;obtain ⟨W1,pc,hE1,hs1,hb1⟩:=dO w (.string n) (.string d) 246;obtain ⟨W2,qv,hE2,hs2,hb2⟩:=dO W1 (.string ⟨#[]⟩) (.string ⟨#[]⟩) 246;have hb1':=aF hb1 hE2;obtain ⟨c0,c1,-⟩:=dI hb1';obtain ⟨r0,r1,rf⟩:=dI hb2;have HB2:=oZ hb2;have HE:=oZ (hE1.trans hE2);have HS1:=oZ hs1;have HC:Hid (∀ W,aA W2.drew W->W.cell? ⟨w.heap.size,0,none⟩=some (.string n)/\W.cell? ⟨w.heap.size,1,none⟩=some (.string d)/\W.cell? ⟨W1.heap.size,0,none⟩=some (.string ⟨#[]⟩)/\W.cell? ⟨W1.heap.size,1,none⟩=some (.string ⟨#[]⟩)/\(∀ i,W.frozen? ⟨W1.heap.size,i,none⟩=false)):=fun W hW =>
  ⟨hW.cell (by simpa using c0),hW.cell (by simpa using c1),hW.cell (by simpa using r0),hW.cell (by simpa using r1),(dI (aF (w:=W2.drew) hb2 hW)).2.2⟩
 clear hE1 hE2 hb1 hb2 hb1' hs1 hs2
 go_enter func277,ntmps277
 go_wp2_with fail
 go_region_with (go_at_call 111;refine (HN _).mono ?_;rintro e w5 ⟨rfl,pV⟩;obtain ⟨d0,d1,t0,t1,tf⟩:=HC _ pV;have tf0:=tf 0;have tf1:=tf 1;have HE5:=oZ pV;clear pV tf)
 all_goals
  have hb5:=kK (a:=.string m) (b:=.string d) (aF (w:=W2.drew) HB2 HE5);go_wp2_with fail;refine bodyPost_ret (results_cell_row (by rfl) _ _ W1.heap.size 246 #[.string m,.string d] (0,0) _ (by rfl) hb5 underlying246 (by rfl) (by kernel_rfl)) (by rfl) ⟨rfl,?_⟩;exact Below.setCell (Below.setCell ((HE.trans (aA.drew _)).trans HE5) (p:=⟨W1.heap.size,0,none⟩) (by have:=HS1.out;show w.heap.size<=W1.heap.size;omega) _) (p:=⟨W1.heap.size,1,none⟩) (by have:=HS1.out;show w.heap.size<=W1.heap.size;omega) _
theorem Z2g (N:Int) (g:Nat):(aB (N / (g:Int))).size<=(aB N).size:=by
 by_cases h:N<0
 ·have h1:=fx (N / (g:Int));have h2:=lP N h;have h3:(N / (g:Int)).natAbs<=N.natAbs:=Int.natAbs_ediv_le_natAbs N (g:Int);have:=jQ h3;omega
 ·have h0:0<=N / (g:Int):=Int.ediv_nonneg (by omega) (by omega);rw [fw _ h0,fw N (by omega)];refine jQ ?_;have h3:(N / (g:Int)).natAbs<=N.natAbs:=Int.natAbs_ediv_le_natAbs N (g:Int);omega
theorem P1_ (n d:Int) (w:World) (hd:d≠0) (hn:(aB n).size<=27000) (Nk:(aB d).size<=27000) (ht:ag w) :
  pI 338 #[.string (aB n),.string (aB d)] w (bR (Rat.divInt n d)):=by
 have HT:=oZ ht;clear ht;obtain ⟨W1,pc,hE1,hs1,hb1⟩:=dO w (.string ⟨#[]⟩) (.string ⟨#[]⟩) 246;obtain ⟨r0,r1,rf⟩:=dI hb1;have HB1:=oZ hb1;have HE:=oZ hE1;have HC:Hid (∀ W,aA W1 W->W.cell? ⟨w.heap.size,0,none⟩=some (.string ⟨#[]⟩)/\W.cell? ⟨w.heap.size,1,none⟩=some (.string ⟨#[]⟩)/\(∀ i,W.frozen? ⟨w.heap.size,i,none⟩=false)):=fun W hW =>
  ⟨hW.cell r0,hW.cell r1,(dI (aF hb1 hW)).2.2⟩
 have HSG:=oZ (mz d W1);obtain ⟨N,D,hN,hD,Gs,NH,NI,hq⟩:∃ (N:Int) (D:Nat),(if d<0 then N=-n else N=n)/\(if d<0 then d=-(D:Int) else d=(D:Int))/\D≠0/\(aB N).size<=27001/\(aE D).size<=27001/\Rat.divInt n d=mkRat N D:=by
  have h1:=fx (-n);have h2:=eE n;have h3:=eE d;rw [Int.natAbs_neg] at h1;by_cases h:d<0
  ·refine ⟨-n,d.natAbs,by rw [if_pos h],by rw [if_pos h];omega,by omega,by omega,by omega,?_⟩;rw [<- C5_ n d.natAbs (by omega)];congr 1;omega
  ·refine ⟨n,d.natAbs,by rw [if_neg h],by rw [if_neg h];omega,by omega,by omega,by omega,?_⟩;rw [<- C6_ n d.natAbs];congr 1;omega
 obtain ⟨hp1,hp2⟩:=X2_ N D Gs;rw [hq];unfold bR;rw [hp1,hp2];obtain ⟨g,hg⟩:=pL (N.natAbs.gcd D);rw [<- hg];have I2:0<g:=by rw [hg];exact Nat.gcd_pos_of_pos_right _ (by omega)
 have I5:g<=D:=by rw [hg];exact Nat.gcd_le_right _ (by omega)
 have hgs:=jQ I5;have Gj:∀ W,aA w W->Calls prog 209 #[.string (aB N),.string (aB (D:Int))] W fun e w'=>e=.returned (.string (aE g))/\aA W w':=fun W hW=>by
  have:=b6_ N (D:Int) W (by omega) (by rw [eb];omega) (HT.ext hW);rw [show (D:Int).natAbs=D from rfl,<- hg] at this;exact this
 have Gr:∀ W,aA w W->Calls prog 112 #[.string (aB N),.string (aB (g:Int))] W fun e w'=>e=.returned (.tuple #[.string (aB (aL N (g:Int))),.string (aB (bF N (g:Int))),.int .i64 0])/\aA W w':=fun W hW=>U5_ N (g:Int) W (by omega) (by rw [eb];omega) (by omega) (HT.ext hW);have Gq:∀ W,aA w W->Calls prog 112 #[.string (aB (D:Int)),.string (aB (g:Int))] W fun e w'=>e=.returned (.tuple #[.string (aB (aL (D:Int) (g:Int))),.string (aB (bF (D:Int) (g:Int))),.int .i64 0])/\aA W w':=fun W hW=>U5_ (D:Int) (g:Int) W (by rw [eb];omega) (by rw [eb];omega) (by omega) (HT.ext hW);have Cn:(0:Int)<(g:Int):=by omega
 have Jl:aL (D:Int) (g:Int)=((D / g:Nat):Int):=by rw [Z2l _ _ Cn];exact (Int.natCast_ediv _ _).symm
 rw [Z2l N _ Cn,eb] at Gr;rw [Jl,eb,eb,eb] at Gq;rw [eb] at Gj;have HGC:=oZ Gj;have HD1:=oZ Gr;have HD2:=oZ Gq;have Hs:Hid (g=1->N / (g:Int)=N/\D / g=D):=fun h=>by rw [h];exact ⟨Int.ediv_one N,Nat.div_one D⟩
 have hz:=f3_ g;obtain ⟨FN,Ao⟩:=pL (N / (g:Int));obtain ⟨FD,Ap⟩:=pL (D / g);rw [<- Ao] at HD1 Hs |-;rw [<- Ap] at HD2 Hs |-;clear hg I2 I5 hgs Gj Gr Gq Cn Jl hp1 hp2 hq r0 r1 rf hb1 hE1 hs1 Ao Ap;have HX:Hid (w.heap.size<=w.heap.size):=oz _;by_cases hneg:d<0
 case' pos =>
  rw [if_pos hneg] at hN hD;have rQ:d.sign<0:=by rw [Int.sign_eq_neg_one_of_neg hneg];omega
  have HN1:Hid (∀ W,pI 111 #[.string (aB n)] W (.string (aB N))):=fun W=>by rw [hN];exact lf n W (by omega)
  have rF:Hid (∀ W,pI 111 #[.string (aB d)] W (.string (aE D))):=fun W=>by
   have:=lf d W (by omega);rw [show -d=(D:Int) by omega,eb] at this;exact this
  obtain ⟨sg,tZ⟩:=pL d.sign;rw [<- tZ] at HSG rQ;clear hN hD hneg tZ
  go_enter func338,ntmps338
  go_wp2_with fail;refine r_ HSG ?_;clear HSG;go_wp2_with fail;refine p_ (HN1 _) ?_;intro w2 HE2;clear HN1;go_wp2_with fail;refine q_ (rF _) (aA.trans HE2) ?_;intro w3 HE3;clear rF
 case' neg =>
  rw [if_neg hneg] at hN hD;have rQ:¬ d.sign<0:=by rw [Int.sign_eq_one_of_pos (by omega)];omega
  obtain ⟨sg,tZ⟩:=pL d.sign;rw [<- tZ] at HSG rQ;rw [hD,eb] at HSG |-;rw [<- hN];clear hN hD hneg tZ
  go_enter func338,ntmps338
  go_wp2_with fail;refine r_ HSG ?_;clear HSG;have HE3:=oZ (aA.refl W1)
 all_goals
  by_cases hg1:g=1
  ·rw [pE hg1] at hz;have HQ:=oZ (Hs hg1);clear hg1;go_wp2_with fail;refine (HGC _ (HE.trans HE3)).mono ?_;rintro e w4 ⟨rfl,hE4⟩;have HE4:=oZ (aA.trans HE3 hE4);obtain ⟨t0,t1,tf⟩:=HC _ HE4;have tf0:=tf 0;have tf1:=tf 1;have hb5:=kK (a:=.string (aB N)) (b:=.string (aE D)) (aF HB1 HE4);clear hE4 tf HGC;go_wp2_with fail;refine bodyPost_ret (results_cell_row (by rfl) _ _ w.heap.size 246 #[.string (aB N),.string (aE D)] (0,0) _ (by rfl) hb5 underlying246 (by rfl) (by kernel_rfl)) (by rfl) ⟨by rw [HQ.out.1,HQ.out.2],?_⟩;exact Below.setCell (Below.setCell (HE.trans HE4) (p:=⟨w.heap.size,0,none⟩) (oz _) _) (p:=⟨w.heap.size,1,none⟩) (oz _) _
  ·rw [pD hg1] at hz;clear hg1;go_wp2_with fail;refine q_ (HGC _ (HE.trans HE3)) (aA.trans HE3) ?_;intro w4 HE4;clear HGC;go_wp2_with fail;refine q_ (HD1 _ (HE.trans HE4)) (aA.trans HE4) ?_;intro w5 HE5;clear HD1;go_wp2_with fail;refine (HD2 _ (HE.trans HE5)).mono ?_;rintro e w6 ⟨rfl,pR⟩;have HE6:=oZ (aA.trans HE5 pR);obtain ⟨t0,t1,tf⟩:=HC _ HE6;have tf0:=tf 0;have tf1:=tf 1;have hb5:=kK (a:=.string (aB FN)) (b:=.string (aE FD)) (aF HB1 HE6);clear pR tf HD2;go_wp2_with fail;refine bodyPost_ret (results_cell_row (by rfl) _ _ w.heap.size 246 #[.string (aB FN),.string (aE FD)] (0,0) _ (by rfl) hb5 underlying246 (by rfl) (by kernel_rfl)) (by rfl) ⟨rfl,?_⟩;exact Below.setCell (Below.setCell (HE.trans HE6) (p:=⟨w.heap.size,0,none⟩) (oz _) _) (p:=⟨w.heap.size,1,none⟩) (oz _) _
theorem jr {n:Int} (h:(aB n).size<=9):-1000000000<n/\n<1000000000:=by
 have h1:=eE n;have h3:=Lib.lt_pow_nDigits n.natAbs;rw [fC] at h1;have h4:10^Lib.nDigits n.natAbs<=10^9:=Nat.pow_le_pow_right (by omega) (by omega);rw [show (10:Nat)^9=1000000000 by decide] at h4;omega
theorem I5_ (n:Int) (w:World) (hs:(aB n).size<=9) :
  pI 362 #[.string (aB n)] w (.tuple #[.int .i64 n,.bool true]):=by
 have hb:=jr hs;have sL:¬ (9:Int)<((aB n).size:Int):=by omega
 have HA:=oZ (c1_ n w (by omega) (by omega) (by omega))
 go_enter func362,ntmps362
 go_wp2_with fail;refine p_ HA ?_;intro w1 HE1;clear HA;go_wp2_with fail
 go_quiet (fail)
 go_wp2_with fail;go_ret2;exact ⟨rfl,aA.draws HE1 _⟩
theorem B1_ (n:Int) (w:World) (hs:9<(aB n).size) :
  pI 362 #[.string (aB n)] w (.tuple #[.int .i64 0,.bool false]):=by
 have sL:(9:Int)<((aB n).size:Int):=by omega
 go_enter func362,ntmps362
 go_wp2_with fail;go_ret2;exact ⟨rfl,aA.refl _⟩
theorem T5_ (q:Rat) (w:World) :
  Calls prog 336 #[bR q] w fun e w'=>∃ a b,e=.returned (.tuple #[.int .i64 a,.int .i64 b,.bool (decide ((aB q.num).size<=9) && decide ((aE q.den).size<=9))])/\Hid ((aB q.num).size<=9/\(aE q.den).size<=9->a=q.num/\b=q.den)/\aA w w':=by
 have wM:∀ W,∃ a,Calls prog 362 #[.string (aB q.num)] W fun e w'=>e=.returned (.tuple #[.int .i64 a,.bool (decide ((aB q.num).size<=9))])/\(aA W w'/\((aB q.num).size<=9->a=q.num)):=by
  intro W;by_cases h:(aB q.num).size<=9
  ·refine ⟨q.num,(I5_ q.num W h).mono fun e w' ⟨h1,h2⟩=>⟨?_,h2,fun _=>rfl⟩⟩;rw [h1,pE h]
  ·refine ⟨0,(B1_ q.num W (by omega)).mono fun e w' ⟨h1,h2⟩=>⟨?_,h2,fun h'=>absurd h' h⟩⟩;rw [h1,pD h]
 have yX:∀ W,∃ a,Calls prog 362 #[.string (aE q.den)] W fun e w'=>e=.returned (.tuple #[.int .i64 a,.bool (decide ((aE q.den).size<=9))])/\(aA W w'/\((aE q.den).size<=9->a=q.den)):=by
  intro W;rw [<- eb];by_cases h:(aB (q.den:Int)).size<=9
  ·refine ⟨q.den,(I5_ q.den W h).mono fun e w' ⟨h1,h2⟩=>⟨?_,h2,fun _=>rfl⟩⟩;rw [h1,pE h]
  ·refine ⟨0,(B1_ q.den W (by omega)).mono fun e w' ⟨h1,h2⟩=>⟨?_,h2,fun h'=>absurd h' h⟩⟩;rw [h1,pD h]
 unfold bR;obtain ⟨n,hn⟩:=pL (aB q.num);obtain ⟨d,wF⟩:=pL (aE q.den);rw [<- hn] at wM;rw [<- wF] at yX;rw [<- hn,<- wF];obtain ⟨b1,hb1⟩:=pL (decide (n.size<=9));obtain ⟨b2,hb2⟩:=pL (decide (d.size<=9));rw [<- hb1] at wM |-;rw [<- hb2] at yX |-;have HL1:=oZ wM;have HL2:=oZ yX;clear hn wF wM yX hb1 hb2;obtain ⟨W1,pc,hE1,hs1,hbb⟩:=dO w (.string n) (.string d) 246;obtain ⟨c0,c1,-⟩:=dI hbb;have HE1:=oZ hE1;have HC:Hid (∀ W,aA W1 W->W.cell? ⟨w.heap.size,0,none⟩=some (.string n)/\W.cell? ⟨w.heap.size,1,none⟩=some (.string d)):=fun W hW=>⟨hW.cell c0,hW.cell c1⟩
 clear hE1 hs1 hbb
 go_enter func336,ntmps336
 go_wp2_with fail;obtain ⟨a,hA⟩:=HL1 W1;refine hA.mono ?_;rintro e w2 ⟨rfl,hx⟩;have HX2:=oZ hx;obtain ⟨d0,d1⟩:=HC _ hx.1;clear hA hx c0 c1;go_wp2_with fail;obtain ⟨b,hB⟩:=HL2 w2;refine hB.mono ?_;rintro e w3 ⟨rfl,hx⟩;have HX3:=oZ hx;clear hB hx d0 d1;cases b1 <;> cases b2
 all_goals
  go_wp2_with fail;go_ret3;exact ⟨a,b,rfl,fun h=>⟨HX2.2 h.1,HX3.2 h.2⟩,(HE1.trans HX2.1).trans HX3.1⟩
theorem H9_ (a b:Int):Nat.gcd b.natAbs (a.tmod b).natAbs=Nat.gcd a.natAbs b.natAbs:=by
 rw [Int.natAbs_tmod,Nat.gcd_comm b.natAbs,<- Nat.gcd_rec,Nat.gcd_comm]
theorem Z5p (n:Int) (g:Nat) (h:(g:Int) ∣ n):n.tdiv (g:Int)=n / (g:Int):=by
 obtain ⟨k,rfl⟩:=h;by_cases hg:g=0;·subst hg;simp
 ·rw [Int.mul_tdiv_cancel_left _ (by omega),Int.mul_ediv_cancel_left _ (by omega)]
theorem Z2n (n:Int) (d:Nat) (w:World) (pv:-4000000000000000000<=n) (qx:n<=4000000000000000000) (I7:0<d) (hd:d<=4000000000000000000) (ht:ag w) :
  pI 337 #[.int .i64 n,.int .i64 d] w (bR (mkRat n d)):=by
 have HT:=oZ ht;clear ht;obtain ⟨hp1,hp2⟩:=X2_ n d (by omega);unfold bR;rw [hp1,hp2];obtain ⟨g,hg⟩:=pL (n.natAbs.gcd d);rw [<- hg];have I2:0<g:=by rw [hg];exact Nat.gcd_pos_of_pos_right _ I7
 have qj:g<=d:=by rw [hg];exact Nat.gcd_le_right _ I7
 have qJ:(g:Int) ∣ n:=by rw [hg];exact Int.ofNat_dvd_left.2 (Nat.gcd_dvd_left _ _)
 obtain ⟨FN,Ao⟩:=pL (n / (g:Int));obtain ⟨FD,Ap⟩:=pL (d / g);rw [<- Ao,<- Ap];have q1:n.tdiv (g:Int)=FN:=by rw [Ao,Z5p n g qJ]
 have q2:(d:Int) / (g:Int)=(FD:Int):=by rw [Ap];exact (Int.natCast_ediv _ _).symm
 have IA:(d:Int).tdiv (g:Int)=(FD:Int):=by rw [Int.tdiv_eq_ediv_of_nonneg (by omega),q2]
 have Gl:-4000000000000000000<=FN/\FN<=4000000000000000000:=by
  have:FN.natAbs<=n.natAbs:=by rw [Ao];exact Int.natAbs_ediv_le_natAbs n (g:Int)
  omega
 have MB:FD<=4000000000000000000:=by
  have:FD<=d:=by rw [Ap];exact Nat.div_le_self _ _
  omega
 obtain ⟨Ni,Cq⟩:=Gl;have e1:IntKind.i64.wrap FN=FN:=IntWalk.i64_in _ (by omega);have e2:IntKind.i64.wrap (FD:Int)=(FD:Int):=IntWalk.i64_in _ (by omega);have sw:∀ W,aA w W->Calls prog 146 #[.int .i64 FN] W fun e w'=>e=.returned (.string (aB FN))/\aA W w':=fun W hE=>v7_ FN W (by omega) (by omega) (HT.ext hE);have Bf:∀ W,aA w W->Calls prog 146 #[.int .i64 (FD:Int)] W fun e w'=>e=.returned (.string (aB (FD:Int)))/\aA W w':=fun W hE=>v7_ (FD:Int) W (by omega) (by omega) (HT.ext hE);rw [eb] at Bf;have HI1:=oZ sw;have HI2:=oZ Bf;have HG:=oZ hg;obtain ⟨W1,pc,hE1,hs1,hb1⟩:=dO w (.string ⟨#[]⟩) (.string ⟨#[]⟩) 246;obtain ⟨r0,r1,rf⟩:=dI hb1;have HB1:=oZ hb1;have HE:=oZ hE1;have HC:Hid (∀ W,aA W1 W->W.cell? ⟨w.heap.size,0,none⟩=some (.string ⟨#[]⟩)/\W.cell? ⟨w.heap.size,1,none⟩=some (.string ⟨#[]⟩)/\(∀ i,W.frozen? ⟨w.heap.size,i,none⟩=false)):=fun W hW =>
  ⟨hW.cell r0,hW.cell r1,(dI (aF hb1 hW)).2.2⟩
 have HQ:Hid (n.tdiv (g:Int)=FN/\(d:Int) / (g:Int)=(FD:Int)/\(d:Int).tdiv (g:Int)=(FD:Int)/\IntKind.i64.wrap FN=FN/\IntKind.i64.wrap (FD:Int)=(FD:Int)):=⟨q1,q2,IA,e1,e2⟩;clear hp1 hp2 hg qJ sw Bf Ao Ap q1 q2 IA e1 e2 hE1 hs1 hb1 r0 r1 rf
 go_enter func337,ntmps337
 go_wp2_with fail
 go_loopw [5,6] (fun a b wr=>∃ x y:Int,a=.int .i64 x/\b=.int .i64 y/\-4000000000000000000<=x/\x<=4000000000000000000/\-4000000000000000000<=y/\y<=4000000000000000000/\Hid (Nat.gcd x.natAbs y.natAbs=g)/\Hid (aA W1 wr)) (fun _ b _=>(intOf b).natAbs)
 case atStart=>exact ⟨n,d,rfl,rfl,pv,qx,by omega,by omega,by rw [HG.out];rfl,aA.refl _⟩
 case round =>
  obtain ⟨x,y,rfl,rfl,qX,tT,wB,ry,Bq,KJ⟩:=hrel;obtain ⟨wo,rfl⟩:∃ wo:World,wo=wr:=⟨_,rfl⟩;by_cases qW:y=0
  ·have hgx:x.natAbs=g:=(by have:=Bq.out;rw [qW] at this;simpa using this);subst qW;have Kf:(x<0/\x=-(g:Int))\/(¬ x<0/\x=(g:Int)):=(by omega);have D1:((g:Int) == 0)=false:=(by rw [beq_eq_false_iff_ne];omega);have Cm:¬ (g:Int)=0:=(by omega);clear hgx;obtain ⟨q1,q2,q3,q4,q5⟩:=HQ.out;have HEd:=oZ (aA.trans KJ (aA.drew wo));rcases Kf with ⟨hneg,tG⟩ | ⟨hneg,tG⟩
   case' inl =>
    have K3:-x=(g:Int):=(by omega);clear tG
   case' inr =>
    subst tG;have K3:True:=trivial
   all_goals
    go_wp2_with fail
    go_region_with (first
     | (go_at_call 146;with_reducible refine (HI1.out _ (HE.out.trans HEd.out)).mono ?_;rintro e w5 ⟨rfl,pV⟩;have HE2:=HEd;clear HEd;have HEd:=oZ (aA.trans HE2.out pV);obtain ⟨t0,t1,tf⟩:=HC.out _ HEd.out;have tf0:=tf 0;have tf1:=tf 1;clear pV HE2 tf)
     | (go_at_call 146;with_reducible refine (HI2.out _ (HE.out.trans HEd.out)).mono ?_;rintro e w5 ⟨rfl,pV⟩;have HE2:=HEd;clear HEd;have HEd:=oZ (aA.trans HE2.out pV);obtain ⟨t0,t1,tf⟩:=HC.out _ HEd.out;have tf0:=tf 0;have tf1:=tf 1;clear pV HE2 tf))
    all_goals
     have hb5:=kK (a:=.string (aB FN)) (b:=.string (aE FD)) (aF HB1 HEd);go_wp2_with fail;refine bodyPost_ret (results_cell_row (by rfl) _ _ w.heap.size 246 #[.string (aB FN),.string (aE FD)] (0,0) _ (by rfl) hb5 underlying246 (by rfl) (by kernel_rfl)) (by rfl) ⟨rfl,?_⟩;exact Below.setCell (Below.setCell (HE.trans HEd) (p:=⟨w.heap.size,0,none⟩) (oz _) _) (p:=⟨w.heap.size,1,none⟩) (oz _) _
  ·obtain ⟨r,hr⟩:=pL (x.tmod y);have Kr:r.natAbs<y.natAbs:=(by rw [hr];exact s4_ x y qW);have HG2:Hid (Nat.gcd y.natAbs r.natAbs=g):=(by unfold Hid;rw [hr,H9_];exact Bq);have r6:x.tmod y=r:=hr.symm;have Ka:(y == 0)=false:=(by rw [beq_eq_false_iff_ne];exact qW);have EU:(y != 0)=true:=(by simpa using qW);clear hr;go_wp2_with fail
   go_quiet (fail)
   go_wp2_with fail;go_roundw
   case rel=>exact ⟨y,r,rfl,rfl,wB,ry,by omega,by omega,HG2,aA.draws KJ _⟩
   case measure=>simp [intOf];omega
theorem kV (x y:Int):(aB (x*y)).size<=(aB x).size+(aB y).size+1:=by
 have h1:=fx (x*y);have h2:=eE x;have h3:=eE y;have h4:=oG x.natAbs y.natAbs;rw [<- Int.natAbs_mul] at h4;omega
theorem o5_ (x y:Int):(aB (x+y)).size<=max (aB x).size (aB y).size+2:=by
 have h1:=fx (x+y);have h2:=eE x;have h3:=eE y;have h4:=W5_ x.natAbs y.natAbs;have h5:=jQ (Int.natAbs_add_le x y);omega
def af (B:Nat) (w:World):Prop:=∃ a b,w.heap[B]?=some (.cells #[a,b] 246 (0,0))
theorem af.ext {B:Nat} {w w':World} (h:af B w) (he:aA w w'):af B w':=by
 obtain ⟨a,b,h⟩:=h;exact ⟨a,b,aF h he⟩
theorem af.set2 {B:Nat} {w:World} {x y:Value} (h:af B w):af B ((w.setCell ⟨B,0,none⟩ x).setCell ⟨B,1,none⟩ y):=by
 obtain ⟨a,b,h⟩:=h;exact ⟨x,y,kK h⟩
theorem af.res {B:Nat} {w:World} {x y:Value} (h:af B w):((w.setCell ⟨B,0,none⟩ x).setCell ⟨B,1,none⟩ y).heap[B]?=some (.cells #[x,y] 246 (0,0)):=by
 obtain ⟨a,b,h⟩:=h;exact kK h
theorem af.open {B:Nat} {w:World} (h:af B w):∃ a b,w.cell? ⟨B,0,none⟩=some a/\w.cell? ⟨B,1,none⟩=some b/\w.frozen? ⟨B,0,none⟩=false/\w.frozen? ⟨B,1,none⟩=false:=by
 obtain ⟨a,b,h⟩:=h;obtain ⟨c0,c1,cf⟩:=dI h;exact ⟨a,b,c0,c1,cf 0,cf 1⟩
theorem du {w:World} {B g i:Nat} {x y v:Value} (hne:g≠B) (h:w.cell? ⟨g,i,none⟩=some v):((w.setCell ⟨B,0,none⟩ x).setCell ⟨B,1,none⟩ y).cell? ⟨g,i,none⟩=some v:=by
 rw [World.cell?_setCell_other _ _ _ _ (by intro e;simp only [Addr.mk.injEq] at e;exact hne e.1.symm),World.cell?_setCell_other _ _ _ _ (by intro e;simp only [Addr.mk.injEq] at e;exact hne e.1.symm)];exact h
theorem eB {w W:World} {B:Nat} {x y:Value} (h:aA w W) (hB:w.heap.size<=B):aA w ((W.setCell ⟨B,0,none⟩ x).setCell ⟨B,1,none⟩ y) :=
 Below.setCell (Below.setCell h (p:=⟨B,0,none⟩) hB _) (p:=⟨B,1,none⟩) hB _
theorem Z1j (x y:Rat):Rat.divInt (x.num*y.num) ((x.den:Int)*(y.den:Int))=x*y:=by
 rw [Rat.mul_def',<- Int.natCast_mul];rfl
theorem Z1i (x y:Rat):Rat.divInt (x.num*(y.den:Int)) ((x.den:Int)*y.num)=x / y:=by
 rw [Rat.div_def,Rat.inv_def,<- Rat.divInt_mul_divInt,Rat.num_divInt_den]
theorem z8_ (x y:Rat) (w:World) (hx:RS 13000 x) (hy:RS 13000 y) (ht:ag w) :
  pI 278 #[bR x,bR y] w (bR (x*y)):=by
 have HT:=oZ ht;clear ht;obtain ⟨W1,pc,hE1,hs1,hb1⟩:=dO w (.string (aB x.num)) (.string (aE x.den)) 246;obtain ⟨W2,qv,hE2,hs2,hb2⟩:=dO W1 (.string (aB y.num)) (.string (aE y.den)) 246;obtain ⟨W3,vP,pS,hs3,px⟩:=dO W2 (.string ⟨#[]⟩) (.string ⟨#[]⟩) 246;have hb1':=aF hb1 (hE2.trans pS);have hb2':=aF hb2 pS;have HE:=oZ ((hE1.trans hE2).trans pS);have HR:Hid (w.heap.size<=W2.heap.size):=by unfold Hid;omega
 have HN1:Hid (w.heap.size≠W2.heap.size):=by unfold Hid;omega
 have rF:Hid (W1.heap.size≠W2.heap.size):=by unfold Hid;omega
 have HC:Hid (∀ W,aA W3 W->W.cell? ⟨w.heap.size,0,none⟩=some (.string (aB x.num))/\W.cell? ⟨w.heap.size,1,none⟩=some (.string (aE x.den))/\W.cell? ⟨W1.heap.size,0,none⟩=some (.string (aB y.num))/\W.cell? ⟨W1.heap.size,1,none⟩=some (.string (aE y.den))/\W.cell? ⟨W2.heap.size,0,none⟩=some (.string ⟨#[]⟩)/\W.cell? ⟨W2.heap.size,1,none⟩=some (.string ⟨#[]⟩)/\W.frozen? ⟨W2.heap.size,0,none⟩=false/\W.frozen? ⟨W2.heap.size,1,none⟩=false/\W.heap[W2.heap.size]?=some (.cells #[.string ⟨#[]⟩,.string ⟨#[]⟩] 246 (0,0))):=fun W hW=>by
  obtain ⟨a0,a1,-⟩:=dI (aF hb1' hW);obtain ⟨b0,b1,-⟩:=dI (aF hb2' hW);obtain ⟨c0,c1,cf⟩:=dI (aF px hW);exact ⟨a0,a1,b0,b1,c0,c1,cf 0,cf 1,aF px hW⟩
 have HB1:Hid (∀ W,Calls prog 336 #[bR x] W fun e w'=>∃ a b,e=.returned (.tuple #[.int .i64 a,.int .i64 b,.bool (decide ((aB x.num).size<=9) && decide ((aE x.den).size<=9))])/\Hid ((aB x.num).size<=9/\(aE x.den).size<=9->a=x.num/\b=x.den)/\aA W w'):=fun W=>T5_ x W;have HB2:Hid (∀ W,Calls prog 336 #[bR y] W fun e w'=>∃ a b,e=.returned (.tuple #[.int .i64 a,.int .i64 b,.bool (decide ((aB y.num).size<=9) && decide ((aE y.den).size<=9))])/\Hid ((aB y.num).size<=9/\(aE y.den).size<=9->a=y.num/\b=y.den)/\aA W w'):=fun W=>T5_ y W;obtain ⟨bx,hbx⟩:=pL ((decide ((aB x.num).size<=9) && decide ((aE x.den).size<=9)));obtain ⟨by',qK⟩:=pL ((decide ((aB y.num).size<=9) && decide ((aE y.den).size<=9)));rw [<- hbx] at HB1;rw [<- qK] at HB2;have HBX:Hid (bx=true->(aB x.num).size<=9/\(aE x.den).size<=9):=by
  intro h;rw [hbx,Bool.and_eq_true,decide_eq_true_iff,decide_eq_true_iff] at h;exact h
 have HBY:Hid (by'=true->(aB y.num).size<=9/\(aE y.den).size<=9):=by
  intro h;rw [qK,Bool.and_eq_true,decide_eq_true_iff,decide_eq_true_iff] at h;exact h
 have wL:∀ W,aA w W->Calls prog 66 #[.string (aB x.num),.string (aB y.num)] W fun e w'=>e=.returned (.string (aB (x.num*y.num)))/\aA W w':=fun W hW=>jO _ _ W (by have:=hx.1;omega) (by have:=hy.1;omega) (HT.ext hW);have rk:∀ W,aA w W->Calls prog 66 #[.string (aE x.den),.string (aE y.den)] W fun e w'=>e=.returned (.string (aB ((x.den:Int)*(y.den:Int))))/\aA W w':=fun W hW=>by
  have:=jO (x.den:Int) (y.den:Int) W (by rw [eb];have:=hx.2;omega) (by rw [eb];have:=hy.2;omega) (HT.ext hW);rw [eb,eb] at this;exact this
 have hL:∀ W,aA w W->Calls prog 338 #[.string (aB (x.num*y.num)),.string (aB ((x.den:Int)*(y.den:Int)))] W fun e w'=>e=.returned (bR (x*y))/\aA W w':=fun W hW=>by
  rw [<- Z1j];have h1:=kV x.num y.num;have h2:=kV (x.den:Int) (y.den:Int);rw [eb x.den,eb y.den] at h2;have h3:=hx.1;have h4:=hx.2;have h5:=hy.1;have h6:=hy.2;exact P1_ _ _ W (by rw [<- Int.natCast_mul];have:=Nat.mul_ne_zero x.den_nz y.den_nz;omega) (by omega) (by omega) (HT.ext hW)
 have HM1:=oZ wL;have HM2:=oZ rk;have HL:=oZ hL;have HOF:Hid ((aB x.num).size<=9/\(aE x.den).size<=9->(aB y.num).size<=9/\(aE y.den).size<=9->∃ (p:Int) (q:Int),x.num*y.num=p/\(x.den:Int)*(y.den:Int)=q/\-1000000000000000000<=p/\p<=1000000000000000000/\-1000000000000000000<=q/\q<=1000000000000000000/\∀ W,aA w W->pI 337 #[.int .i64 p,.int .i64 q] W (bR (x*y))):=by
  intro h1 h2;have a1:=jr h1.1;have a2:=jr (n:=(x.den:Int)) (by rw [eb];exact h1.2);have a3:=jr h2.1;have a4:=jr (n:=(y.den:Int)) (by rw [eb];exact h2.2);have m1:=mi a1.1 a1.2 a3.1 a3.2 (by omega) (by omega);have m2:=mi a2.1 a2.2 a4.1 a4.2 (by omega) (by omega);refine ⟨_,_,rfl,rfl,by omega,by omega,by omega,by omega,fun W hW=>?_⟩;have Fs:0<x.den*y.den:=Nat.mul_pos x.den_pos y.den_pos;rw [<- Int.natCast_mul] at m2 |-;have:=Z2n (x.num*y.num) (x.den*y.den) W (by omega) (by omega) Fs (by omega) (HT.ext hW);rw [Rat.mul_def'];exact this
 have qI:∀ q:Rat,bR q=.agg #[.string (aB q.num),.string (aE q.den)]:=fun _=>rfl;have HV:Hid (∀ q:Rat,bR q=.agg #[.string (aB q.num),.string (aE q.den)]):=qI;obtain ⟨Z,hZ⟩:=pL (x*y);rw [<- hZ] at HL HOF |-;rw [qI x] at HB1 |-;rw [qI y] at HB2 |-;rw [qI Z] at HL HOF |-;clear hE1 hE2 pS hs1 hs2 hs3 hb1 hb2 px hb1' hb2' hbx qK wL rk hL qI hZ hx hy HV;obtain ⟨n1,pv⟩:=pL (aB x.num);obtain ⟨d1,rT⟩:=pL (aE x.den);obtain ⟨n2,qx⟩:=pL (aB y.num);obtain ⟨d2,hd2⟩:=pL (aE y.den);obtain ⟨n3,xP⟩:=pL (aB (x.num*y.num));obtain ⟨d3,xi⟩:=pL (aB ((x.den:Int)*(y.den:Int)));obtain ⟨n4,hn4⟩:=pL (aB Z.num);obtain ⟨d4,sj⟩:=pL (aE Z.den);rw [<- pv,<- qx,<- xP] at HM1;rw [<- rT,<- hd2,<- xi] at HM2;rw [<- xP,<- xi,<- hn4,<- sj] at HL;rw [<- hn4,<- sj] at HOF |-;rw [<- pv,<- rT,<- qx,<- hd2] at HC |-;rw [<- pv,<- rT] at pc;rw [<- qx,<- hd2] at qv;rw [<- pv,<- rT] at HB1 HBX HOF;rw [<- qx,<- hd2] at HB2 HBY HOF;clear pv rT qx hd2 xP xi hn4 sj;obtain ⟨c0,c1,c2,c3,c4,c5,c6,c7,-⟩:=HC W3 (aA.refl _)
 go_enter func278,ntmps278
 go_wp2_with fail;refine (HB1 _).mono ?_;rintro e w4 ⟨a,b,rfl,qL,hE4⟩;have HAB:=qL;have HE4:=oZ hE4;obtain ⟨d0,Jz,Jy,d3,Jx,d5,d6,d7,-⟩:=HC _ hE4;clear qL hE4 HB1 c0 c1 c2 c3 c4 c5 c6 c7;cases bx
 ·clear HB2 HOF HAB d0 Jz Jy d3 Jx d5 d6 d7;go_wp2_with fail;have HX3:=oZ (aA.trans (aA.trans HE HE4) (aA.drew _));obtain ⟨y1,y2,y3,y4,-,-,-,-,yb⟩:=HC _ (aA.trans HE4 (aA.drew _));have HB3:Hid (af W2.heap.size (w4).drew):=⟨_,_,yb⟩;clear yb
  go_region_held3 (fun w'=>w'.cell? ⟨w.heap.size,0,none⟩=some (.string n1)/\w'.cell? ⟨w.heap.size,1,none⟩=some (.string d1)/\w'.cell? ⟨W1.heap.size,0,none⟩=some (.string n2)/\w'.cell? ⟨W1.heap.size,1,none⟩=some (.string d2)/\Hid (aA w w')/\Hid (af W2.heap.size w'))
   (first | exact ⟨z1,z2,z3,z4,z5,z6⟩ | exact ⟨du HN1 z1,du HN1 z2,du rF z3,du rF z4,oZ (eB z5.out HR),oZ z6.out.set2⟩ | exact ⟨y1,y2,y3,y4,HX3,HB3⟩ | go_keep)
   (first
    | (go_at_call 66;have hc:=HM1 _ (Hid.out (p:=aA w _) (by assumption));with_reducible refine hc.mono ?_;clear hc;rintro e w6 ⟨rfl,pR⟩;have q1:=pR.cell (a:=⟨w.heap.size,0,none⟩) (v:=.string n1) (by assumption);have q2:=pR.cell (a:=⟨w.heap.size,1,none⟩) (v:=.string d1) (by assumption);have q3:=pR.cell (a:=⟨W1.heap.size,0,none⟩) (v:=.string n2) (by assumption);have q4:=pR.cell (a:=⟨W1.heap.size,1,none⟩) (v:=.string d2) (by assumption);have q5:=oZ (aA.trans (Hid.out (p:=aA w _) (by assumption)) pR);have q6:=oZ (af.ext (Hid.out (p:=af W2.heap.size _) (by assumption)) pR);(try clear z1 z2 z3 z4 z5 z6 t0 t1 f0 f1);have z1:=q1;have z2:=q2;have z3:=q3;have z4:=q4;have z5:=q5;have z6:=q6;obtain ⟨r0,r1,t0,t1,f0,f1⟩:=z6.out.open;clear pR q1 q2 q3 q4 q5 q6)
    | (go_at_call 66;have hc:=HM2 _ (Hid.out (p:=aA w _) (by assumption));with_reducible refine hc.mono ?_;clear hc;rintro e w6 ⟨rfl,pR⟩;have q1:=pR.cell (a:=⟨w.heap.size,0,none⟩) (v:=.string n1) (by assumption);have q2:=pR.cell (a:=⟨w.heap.size,1,none⟩) (v:=.string d1) (by assumption);have q3:=pR.cell (a:=⟨W1.heap.size,0,none⟩) (v:=.string n2) (by assumption);have q4:=pR.cell (a:=⟨W1.heap.size,1,none⟩) (v:=.string d2) (by assumption);have q5:=oZ (aA.trans (Hid.out (p:=aA w _) (by assumption)) pR);have q6:=oZ (af.ext (Hid.out (p:=af W2.heap.size _) (by assumption)) pR);(try clear z1 z2 z3 z4 z5 z6 t0 t1 f0 f1);have z1:=q1;have z2:=q2;have z3:=q3;have z4:=q4;have z5:=q5;have z6:=q6;obtain ⟨r0,r1,t0,t1,f0,f1⟩:=z6.out.open;clear pR q1 q2 q3 q4 q5 q6)
    | (go_at_call 338;have hc:=HL _ (Hid.out (p:=aA w _) (by assumption));with_reducible refine hc.mono ?_;clear hc;rintro e w6 ⟨rfl,pR⟩;have q1:=pR.cell (a:=⟨w.heap.size,0,none⟩) (v:=.string n1) (by assumption);have q2:=pR.cell (a:=⟨w.heap.size,1,none⟩) (v:=.string d1) (by assumption);have q3:=pR.cell (a:=⟨W1.heap.size,0,none⟩) (v:=.string n2) (by assumption);have q4:=pR.cell (a:=⟨W1.heap.size,1,none⟩) (v:=.string d2) (by assumption);have q5:=oZ (aA.trans (Hid.out (p:=aA w _) (by assumption)) pR);have q6:=oZ (af.ext (Hid.out (p:=af W2.heap.size _) (by assumption)) pR);(try clear z1 z2 z3 z4 z5 z6 t0 t1 f0 f1);have z1:=q1;have z2:=q2;have z3:=q3;have z4:=q4;have z5:=q5;have z6:=q6;obtain ⟨r0,r1,t0,t1,f0,f1⟩:=z6.out.open;clear pR q1 q2 q3 q4 q5 q6))
  all_goals
   have hb7:=af.res (x:=.string n4) (y:=.string d4) z6.out;go_wp2_with fail;refine bodyPost_ret (results_cell_row (by rfl) _ _ W2.heap.size 246 #[.string n4,.string d4] (0,0) _ (by rfl) hb7 underlying246 (by rfl) (by kernel_rfl)) (by rfl) ⟨rfl,?_⟩;exact eB z5.out HR
 ·go_wp2_with fail;refine (HB2 _).mono ?_;rintro e w5 ⟨c,d,rfl,vD,pV⟩;have HCD:=vD;have HE5:=oZ (aA.trans HE4 pV);clear vD pV HB2 d0 Jz Jy d3 Jx d5 d6 d7;cases by'
  ·clear HOF HAB HCD;go_wp2_with fail;have HX3:=oZ (aA.trans (aA.trans HE HE5) (aA.drew _));obtain ⟨y1,y2,y3,y4,-,-,-,-,yb⟩:=HC _ (aA.trans HE5 (aA.drew _));have HB3:Hid (af W2.heap.size (w5).drew):=⟨_,_,yb⟩;clear yb
   go_region_held3 (fun w'=>w'.cell? ⟨w.heap.size,0,none⟩=some (.string n1)/\w'.cell? ⟨w.heap.size,1,none⟩=some (.string d1)/\w'.cell? ⟨W1.heap.size,0,none⟩=some (.string n2)/\w'.cell? ⟨W1.heap.size,1,none⟩=some (.string d2)/\Hid (aA w w')/\Hid (af W2.heap.size w'))
    (first | exact ⟨z1,z2,z3,z4,z5,z6⟩ | exact ⟨du HN1 z1,du HN1 z2,du rF z3,du rF z4,oZ (eB z5.out HR),oZ z6.out.set2⟩ | exact ⟨y1,y2,y3,y4,HX3,HB3⟩ | go_keep)
    (first
     | (go_at_call 66;have hc:=HM1 _ (Hid.out (p:=aA w _) (by assumption));with_reducible refine hc.mono ?_;clear hc;rintro e w6 ⟨rfl,pR⟩;have q1:=pR.cell (a:=⟨w.heap.size,0,none⟩) (v:=.string n1) (by assumption);have q2:=pR.cell (a:=⟨w.heap.size,1,none⟩) (v:=.string d1) (by assumption);have q3:=pR.cell (a:=⟨W1.heap.size,0,none⟩) (v:=.string n2) (by assumption);have q4:=pR.cell (a:=⟨W1.heap.size,1,none⟩) (v:=.string d2) (by assumption);have q5:=oZ (aA.trans (Hid.out (p:=aA w _) (by assumption)) pR);have q6:=oZ (af.ext (Hid.out (p:=af W2.heap.size _) (by assumption)) pR);(try clear z1 z2 z3 z4 z5 z6 t0 t1 f0 f1);have z1:=q1;have z2:=q2;have z3:=q3;have z4:=q4;have z5:=q5;have z6:=q6;obtain ⟨r0,r1,t0,t1,f0,f1⟩:=z6.out.open;clear pR q1 q2 q3 q4 q5 q6)
     | (go_at_call 66;have hc:=HM2 _ (Hid.out (p:=aA w _) (by assumption));with_reducible refine hc.mono ?_;clear hc;rintro e w6 ⟨rfl,pR⟩;have q1:=pR.cell (a:=⟨w.heap.size,0,none⟩) (v:=.string n1) (by assumption);have q2:=pR.cell (a:=⟨w.heap.size,1,none⟩) (v:=.string d1) (by assumption);have q3:=pR.cell (a:=⟨W1.heap.size,0,none⟩) (v:=.string n2) (by assumption);have q4:=pR.cell (a:=⟨W1.heap.size,1,none⟩) (v:=.string d2) (by assumption);have q5:=oZ (aA.trans (Hid.out (p:=aA w _) (by assumption)) pR);have q6:=oZ (af.ext (Hid.out (p:=af W2.heap.size _) (by assumption)) pR);(try clear z1 z2 z3 z4 z5 z6 t0 t1 f0 f1);have z1:=q1;have z2:=q2;have z3:=q3;have z4:=q4;have z5:=q5;have z6:=q6;obtain ⟨r0,r1,t0,t1,f0,f1⟩:=z6.out.open;clear pR q1 q2 q3 q4 q5 q6)
     | (go_at_call 338;have hc:=HL _ (Hid.out (p:=aA w _) (by assumption));with_reducible refine hc.mono ?_;clear hc;rintro e w6 ⟨rfl,pR⟩;have q1:=pR.cell (a:=⟨w.heap.size,0,none⟩) (v:=.string n1) (by assumption);have q2:=pR.cell (a:=⟨w.heap.size,1,none⟩) (v:=.string d1) (by assumption);have q3:=pR.cell (a:=⟨W1.heap.size,0,none⟩) (v:=.string n2) (by assumption);have q4:=pR.cell (a:=⟨W1.heap.size,1,none⟩) (v:=.string d2) (by assumption);have q5:=oZ (aA.trans (Hid.out (p:=aA w _) (by assumption)) pR);have q6:=oZ (af.ext (Hid.out (p:=af W2.heap.size _) (by assumption)) pR);(try clear z1 z2 z3 z4 z5 z6 t0 t1 f0 f1);have z1:=q1;have z2:=q2;have z3:=q3;have z4:=q4;have z5:=q5;have z6:=q6;obtain ⟨r0,r1,t0,t1,f0,f1⟩:=z6.out.open;clear pR q1 q2 q3 q4 q5 q6))
   all_goals
    have hb7:=af.res (x:=.string n4) (y:=.string d4) z6.out;go_wp2_with fail;refine bodyPost_ret (results_cell_row (by rfl) _ _ W2.heap.size 246 #[.string n4,.string d4] (0,0) _ (by rfl) hb7 underlying246 (by rfl) (by kernel_rfl)) (by rfl) ⟨rfl,?_⟩;exact eB z5.out HR
  ·obtain ⟨ha,hb⟩:=HAB (HBX (by first | rfl | trivial));obtain ⟨hc,hd⟩:=HCD (HBY (by first | rfl | trivial));obtain ⟨p,q,hp,hq,p1,p2,q1,q2,CW⟩:=HOF (HBX (by first | rfl | trivial)) (HBY (by first | rfl | trivial));have HO:=oZ CW;have sD:a*c=p:=(by rw [ha,hc];exact hp);have E0:b*d=q:=(by rw [hb,hd];exact hq);clear ha hb hc hd hp hq CW HAB HCD HOF HM1 HM2 HL;go_wp2_with fail;refine (HO _ (HE.trans HE5)).mono ?_;rintro e w6 ⟨rfl,pR⟩;have HE6:=oZ (aA.trans HE5 pR);obtain ⟨-,-,-,-,-,-,-,-,yb⟩:=HC _ HE6;have z6:Hid (af W2.heap.size w6):=⟨_,_,yb⟩;obtain ⟨r0,r1,t0,t1,f0,f1⟩:=z6.out.open;clear pR HO yb;have hb7:=af.res (x:=.string n4) (y:=.string d4) z6.out;go_wp2_with fail;refine bodyPost_ret (results_cell_row (by rfl) _ _ W2.heap.size 246 #[.string n4,.string d4] (0,0) _ (by rfl) hb7 underlying246 (by rfl) (by kernel_rfl)) (by rfl) ⟨rfl,?_⟩;exact eB (HE.trans HE6) HR
theorem mv {P:Program} {fn:Func} {p s:Tmp} {ty:TypeId} (h:fn.results=#[.cell p ty,.tmp s]) (tmps:Array Value) (w:World) (g:Nat) (t:TypeId) (cs:Array Value) (fr:Nat×Nat) (d:TypeDesc) (v:Value)
  (hp:tmps.getD p undef=.pointer (some ⟨g,0,none⟩)) (hs:tmps.getD s undef=v) (hg:w.heap[g]?=some (.cells cs t fr))
  (hu:P.underlying ty=some d) (hd:(match d with | .struct _ | .array _ _=>true | _=>false)=true) (hi:(P.info? ty).map (·.size)=some cs.size) :
  (results fn tmps).run P w=.ok (.tuple #[.agg cs,v]) w:=by
 have sD:tmps[p]?.getD undef=.pointer (some ⟨g,0,none⟩):=by simpa using hp
 have sL:tmps[s]?.getD undef=v:=by simpa using hs
 simp [results,h,sD,sL,asAddr,run_loadVar_row w g t ty cs fr d hg hu hd hi]
theorem Z1f (x y:Rat) (w:World) (hx:RS 13000 x) (hy:RS 13000 y) (qW:y≠0) (ht:ag w) :
  pI 279 #[bR x,bR y] w (.tuple #[bR (x / y),.int .i64 0]):=by
 have HT:=oZ ht;clear ht;obtain ⟨W1,pc,hE1,hs1,hb1⟩:=dO w (.string (aB x.num)) (.string (aE x.den)) 246;obtain ⟨W2,qv,hE2,hs2,hb2⟩:=dO W1 (.string (aB y.num)) (.string (aE y.den)) 246;obtain ⟨W3,vP,pS,hs3,px⟩:=dO W2 (.string ⟨#[]⟩) (.string ⟨#[]⟩) 246;have hb1':=aF hb1 (hE2.trans pS);have hb2':=aF hb2 pS;have HE:=oZ ((hE1.trans hE2).trans pS);have HR:Hid (w.heap.size<=W2.heap.size):=by unfold Hid;omega
 have HN1:Hid (w.heap.size≠W2.heap.size):=by unfold Hid;omega
 have rF:Hid (W1.heap.size≠W2.heap.size):=by unfold Hid;omega
 have HC:Hid (∀ W,aA W3 W->W.cell? ⟨w.heap.size,0,none⟩=some (.string (aB x.num))/\W.cell? ⟨w.heap.size,1,none⟩=some (.string (aE x.den))/\W.cell? ⟨W1.heap.size,0,none⟩=some (.string (aB y.num))/\W.cell? ⟨W1.heap.size,1,none⟩=some (.string (aE y.den))/\W.cell? ⟨W2.heap.size,0,none⟩=some (.string ⟨#[]⟩)/\W.cell? ⟨W2.heap.size,1,none⟩=some (.string ⟨#[]⟩)/\W.frozen? ⟨W2.heap.size,0,none⟩=false/\W.frozen? ⟨W2.heap.size,1,none⟩=false/\W.heap[W2.heap.size]?=some (.cells #[.string ⟨#[]⟩,.string ⟨#[]⟩] 246 (0,0))):=fun W hW=>by
  obtain ⟨a0,a1,-⟩:=dI (aF hb1' hW);obtain ⟨b0,b1,-⟩:=dI (aF hb2' hW);obtain ⟨c0,c1,cf⟩:=dI (aF px hW);exact ⟨a0,a1,b0,b1,c0,c1,cf 0,cf 1,aF px hW⟩
 have hSG:=fun W=>X5_ y W;have yP:y.num≠0:=fun h=>qW (Rat.num_eq_zero.1 h);have rQ:(y.num.sign == 0)=false:=by rw [beq_eq_false_iff_ne];exact fun h=>yP (Int.sign_eq_zero_iff_zero.1 h)
 have wL:∀ W,aA w W->Calls prog 66 #[.string (aB x.num),.string (aE y.den)] W fun e w'=>e=.returned (.string (aB (x.num*(y.den:Int))))/\aA W w':=fun W hW=>by
  have:=jO x.num (y.den:Int) W (by have:=hx.1;omega) (by rw [eb];have:=hy.2;omega) (HT.ext hW);rw [eb] at this;exact this
 have rk:∀ W,aA w W->Calls prog 66 #[.string (aE x.den),.string (aB y.num)] W fun e w'=>e=.returned (.string (aB ((x.den:Int)*y.num)))/\aA W w':=fun W hW=>by
  have:=jO (x.den:Int) y.num W (by rw [eb];have:=hx.2;omega) (by have:=hy.1;omega) (HT.ext hW);rw [eb] at this;exact this
 have hL:∀ W,aA w W->Calls prog 338 #[.string (aB (x.num*(y.den:Int))),.string (aB ((x.den:Int)*y.num))] W fun e w'=>e=.returned (bR (x / y))/\aA W w':=fun W hW=>by
  rw [<- Z1i];have h1:=kV x.num (y.den:Int);have h2:=kV (x.den:Int) y.num;rw [eb y.den] at h1;rw [eb x.den] at h2;have h3:=hx.1;have h4:=hx.2;have h5:=hy.1;have h6:=hy.2;exact P1_ _ _ W (Int.mul_ne_zero (by have:=x.den_nz;omega) yP) (by omega) (by omega) (HT.ext hW)
 have HM1:=oZ wL;have HM2:=oZ rk;have HL:=oZ hL;have HSG:=oZ hSG;have qI:∀ q:Rat,bR q=.agg #[.string (aB q.num),.string (aE q.den)]:=fun _=>rfl;obtain ⟨Z,hZ⟩:=pL (x / y);obtain ⟨sg,tZ⟩:=pL y.num.sign;rw [<- hZ] at HL |-;rw [<- tZ] at HSG rQ;rw [qI x];rw [qI y] at HSG |-;rw [qI Z] at HL |-;clear hE1 hE2 pS hs1 hs2 hs3 hb1 hb2 px hb1' hb2' wL rk hL hSG qI hx hy qW yP tZ;obtain ⟨n1,pv⟩:=pL (aB x.num);obtain ⟨d1,rT⟩:=pL (aE x.den);obtain ⟨n2,qx⟩:=pL (aB y.num);obtain ⟨d2,hd2⟩:=pL (aE y.den);obtain ⟨n4,hn4⟩:=pL (aB Z.num);obtain ⟨d4,sj⟩:=pL (aE Z.den);obtain ⟨n3,xP⟩:=pL (aB (x.num*(y.den:Int)));obtain ⟨d3,xi⟩:=pL (aB ((x.den:Int)*y.num));rw [<- pv,<- hd2,<- xP] at HM1;rw [<- rT,<- qx,<- xi] at HM2;rw [<- xP,<- xi,<- hn4,<- sj] at HL;rw [<- hn4,<- sj];rw [<- pv,<- rT,<- qx,<- hd2] at HC |-;rw [<- pv,<- rT] at pc;rw [<- qx,<- hd2] at qv HSG;clear pv rT qx hd2 xP xi hn4 sj hZ;obtain ⟨c0,c1,c2,c3,c4,c5,c6,c7,-⟩:=HC W3 (aA.refl _)
 go_enter func279,ntmps279
 go_wp2_with fail;refine p_ (HSG _) ?_;intro w4 HE4;clear HSG c0 c1 c2 c3 c4 c5 c6 c7;go_wp2_with fail;have HX3:=oZ (aA.trans (aA.trans HE HE4) (aA.drew _));obtain ⟨y1,y2,y3,y4,-,-,-,-,yb⟩:=HC _ (aA.trans HE4 (aA.drew _));have HB3:Hid (af W2.heap.size (w4).drew):=⟨_,_,yb⟩;clear yb
 go_region_held3 (fun w'=>w'.cell? ⟨w.heap.size,0,none⟩=some (.string n1)/\w'.cell? ⟨w.heap.size,1,none⟩=some (.string d1)/\w'.cell? ⟨W1.heap.size,0,none⟩=some (.string n2)/\w'.cell? ⟨W1.heap.size,1,none⟩=some (.string d2)/\Hid (aA w w')/\Hid (af W2.heap.size w'))
  (first | exact ⟨z1,z2,z3,z4,z5,z6⟩ | exact ⟨du HN1 z1,du HN1 z2,du rF z3,du rF z4,oZ (eB z5.out HR),oZ z6.out.set2⟩ | exact ⟨y1,y2,y3,y4,HX3,HB3⟩ | go_keep)
  (first
   | (go_at_call 66;have hc:=HM1 _ (Hid.out (p:=aA w _) (by assumption));with_reducible refine hc.mono ?_;clear hc;rintro e w6 ⟨rfl,pR⟩;have q1:=pR.cell (a:=⟨w.heap.size,0,none⟩) (v:=.string n1) (by assumption);have q2:=pR.cell (a:=⟨w.heap.size,1,none⟩) (v:=.string d1) (by assumption);have q3:=pR.cell (a:=⟨W1.heap.size,0,none⟩) (v:=.string n2) (by assumption);have q4:=pR.cell (a:=⟨W1.heap.size,1,none⟩) (v:=.string d2) (by assumption);have q5:=oZ (aA.trans (Hid.out (p:=aA w _) (by assumption)) pR);have q6:=oZ (af.ext (Hid.out (p:=af W2.heap.size _) (by assumption)) pR);(try clear z1 z2 z3 z4 z5 z6 t0 t1 f0 f1);have z1:=q1;have z2:=q2;have z3:=q3;have z4:=q4;have z5:=q5;have z6:=q6;obtain ⟨r0,r1,t0,t1,f0,f1⟩:=z6.out.open;clear pR q1 q2 q3 q4 q5 q6)
   | (go_at_call 66;have hc:=HM2 _ (Hid.out (p:=aA w _) (by assumption));with_reducible refine hc.mono ?_;clear hc;rintro e w6 ⟨rfl,pR⟩;have q1:=pR.cell (a:=⟨w.heap.size,0,none⟩) (v:=.string n1) (by assumption);have q2:=pR.cell (a:=⟨w.heap.size,1,none⟩) (v:=.string d1) (by assumption);have q3:=pR.cell (a:=⟨W1.heap.size,0,none⟩) (v:=.string n2) (by assumption);have q4:=pR.cell (a:=⟨W1.heap.size,1,none⟩) (v:=.string d2) (by assumption);have q5:=oZ (aA.trans (Hid.out (p:=aA w _) (by assumption)) pR);have q6:=oZ (af.ext (Hid.out (p:=af W2.heap.size _) (by assumption)) pR);(try clear z1 z2 z3 z4 z5 z6 t0 t1 f0 f1);have z1:=q1;have z2:=q2;have z3:=q3;have z4:=q4;have z5:=q5;have z6:=q6;obtain ⟨r0,r1,t0,t1,f0,f1⟩:=z6.out.open;clear pR q1 q2 q3 q4 q5 q6)
   | (go_at_call 338;have hc:=HL _ (Hid.out (p:=aA w _) (by assumption));with_reducible refine hc.mono ?_;clear hc;rintro e w6 ⟨rfl,pR⟩;have q1:=pR.cell (a:=⟨w.heap.size,0,none⟩) (v:=.string n1) (by assumption);have q2:=pR.cell (a:=⟨w.heap.size,1,none⟩) (v:=.string d1) (by assumption);have q3:=pR.cell (a:=⟨W1.heap.size,0,none⟩) (v:=.string n2) (by assumption);have q4:=pR.cell (a:=⟨W1.heap.size,1,none⟩) (v:=.string d2) (by assumption);have q5:=oZ (aA.trans (Hid.out (p:=aA w _) (by assumption)) pR);have q6:=oZ (af.ext (Hid.out (p:=af W2.heap.size _) (by assumption)) pR);(try clear z1 z2 z3 z4 z5 z6 t0 t1 f0 f1);have z1:=q1;have z2:=q2;have z3:=q3;have z4:=q4;have z5:=q5;have z6:=q6;obtain ⟨r0,r1,t0,t1,f0,f1⟩:=z6.out.open;clear pR q1 q2 q3 q4 q5 q6))
 all_goals
  have hb7:=af.res (x:=.string n4) (y:=.string d4) z6.out;go_wp2_with fail;refine bodyPost_ret (mv (by rfl) _ _ W2.heap.size 246 #[.string n4,.string d4] (0,0) _ (.int .i64 0) (by rfl) (by rfl) hb7 underlying246 (by rfl) (by kernel_rfl)) (by rfl) ⟨rfl,?_⟩;exact eB z5.out HR
theorem Z1h (x y:Rat):Rat.divInt (x.num*(y.den:Int)+y.num*(x.den:Int)) ((x.den:Int)*(y.den:Int))=x+y:=by
 rw [Rat.add_def',<- Int.natCast_mul];rfl
theorem e0_ (x y:Rat) (hx:x.den=1) (hy:y.den=1):(x+y).num=x.num+y.num/\(x+y).den=1:=by
 rw [Rat.add_def',hx,hy];obtain ⟨h1,h2⟩:=X2_ (x.num*((1:Nat):Int)+y.num*((1:Nat):Int)) (1*1) (by omega);rw [h1,h2];simp
theorem Z1e (x y:Rat) (w:World) (hx:RS 12000 x) (hy:RS 12000 y) (ht:ag w) :
  pI 339 #[bR x,bR y] w (bR (x+y)):=by
 have HT:=oZ ht;clear ht;obtain ⟨W1,pc,hE1,hs1,hb1⟩:=dO w (.string (aB x.num)) (.string (aE x.den)) 246;obtain ⟨W2,qv,hE2,hs2,hb2⟩:=dO W1 (.string (aB y.num)) (.string (aE y.den)) 246;obtain ⟨W3,vP,pS,hs3,px⟩:=dO W2 (.string ⟨#[]⟩) (.string ⟨#[]⟩) 246;have hb1':=aF hb1 (hE2.trans pS);have hb2':=aF hb2 pS;have HE:=oZ ((hE1.trans hE2).trans pS);have HR:Hid (w.heap.size<=W2.heap.size):=by unfold Hid;omega
 have HN1:Hid (w.heap.size≠W2.heap.size):=by unfold Hid;omega
 have rF:Hid (W1.heap.size≠W2.heap.size):=by unfold Hid;omega
 have HC:Hid (∀ W,aA W3 W->W.cell? ⟨w.heap.size,0,none⟩=some (.string (aB x.num))/\W.cell? ⟨w.heap.size,1,none⟩=some (.string (aE x.den))/\W.cell? ⟨W1.heap.size,0,none⟩=some (.string (aB y.num))/\W.cell? ⟨W1.heap.size,1,none⟩=some (.string (aE y.den))/\W.cell? ⟨W2.heap.size,0,none⟩=some (.string ⟨#[]⟩)/\W.cell? ⟨W2.heap.size,1,none⟩=some (.string ⟨#[]⟩)/\W.frozen? ⟨W2.heap.size,0,none⟩=false/\W.frozen? ⟨W2.heap.size,1,none⟩=false/\W.heap[W2.heap.size]?=some (.cells #[.string ⟨#[]⟩,.string ⟨#[]⟩] 246 (0,0))):=fun W hW=>by
  obtain ⟨a0,a1,-⟩:=dI (aF hb1' hW);obtain ⟨b0,b1,-⟩:=dI (aF hb2' hW);obtain ⟨c0,c1,cf⟩:=dI (aF px hW);exact ⟨a0,a1,b0,b1,c0,c1,cf 0,cf 1,aF px hW⟩
 have HB1:Hid (∀ W,Calls prog 336 #[bR x] W fun e w'=>∃ a b,e=.returned (.tuple #[.int .i64 a,.int .i64 b,.bool (decide ((aB x.num).size<=9) && decide ((aE x.den).size<=9))])/\Hid ((aB x.num).size<=9/\(aE x.den).size<=9->a=x.num/\b=x.den)/\aA W w'):=fun W=>T5_ x W;have HB2:Hid (∀ W,Calls prog 336 #[bR y] W fun e w'=>∃ a b,e=.returned (.tuple #[.int .i64 a,.int .i64 b,.bool (decide ((aB y.num).size<=9) && decide ((aE y.den).size<=9))])/\Hid ((aB y.num).size<=9/\(aE y.den).size<=9->a=y.num/\b=y.den)/\aA W w'):=fun W=>T5_ y W;obtain ⟨bx,hbx⟩:=pL ((decide ((aB x.num).size<=9) && decide ((aE x.den).size<=9)));obtain ⟨by',qK⟩:=pL ((decide ((aB y.num).size<=9) && decide ((aE y.den).size<=9)));rw [<- hbx] at HB1;rw [<- qK] at HB2;have HBX:Hid (bx=true->(aB x.num).size<=9/\(aE x.den).size<=9):=by
  intro h;rw [hbx,Bool.and_eq_true,decide_eq_true_iff,decide_eq_true_iff] at h;exact h
 have HBY:Hid (by'=true->(aB y.num).size<=9/\(aE y.den).size<=9):=by
  intro h;rw [qK,Bool.and_eq_true,decide_eq_true_iff,decide_eq_true_iff] at h;exact h
 have h3:=hx.1;have h4:=hx.2;have h5:=hy.1;have h6:=hy.2;have wL:∀ W,aA w W->Calls prog 66 #[.string (aB x.num),.string (aE y.den)] W fun e w'=>e=.returned (.string (aB (x.num*(y.den:Int))))/\aA W w':=fun W hW=>by
  have:=jO x.num (y.den:Int) W (by omega) (by rw [eb];omega) (HT.ext hW);rw [eb] at this;exact this
 have rk:∀ W,aA w W->Calls prog 66 #[.string (aB y.num),.string (aE x.den)] W fun e w'=>e=.returned (.string (aB (y.num*(x.den:Int))))/\aA W w':=fun W hW=>by
  have:=jO y.num (x.den:Int) W (by omega) (by rw [eb];omega) (HT.ext hW);rw [eb] at this;exact this
 have xx:∀ W,aA w W->Calls prog 66 #[.string (aE x.den),.string (aE y.den)] W fun e w'=>e=.returned (.string (aB ((x.den:Int)*(y.den:Int))))/\aA W w':=fun W hW=>by
  have:=jO (x.den:Int) (y.den:Int) W (by rw [eb];omega) (by rw [eb];omega) (HT.ext hW);rw [eb,eb] at this;exact this
 have s1:=kV x.num (y.den:Int);have s2:=kV y.num (x.den:Int);have s3:=kV (x.den:Int) (y.den:Int);rw [eb y.den] at s1;rw [eb x.den] at s2;rw [eb x.den,eb y.den] at s3;have s4:=o5_ (x.num*(y.den:Int)) (y.num*(x.den:Int));have hA:∀ W,aA w W->Calls prog 116 #[.string (aB (x.num*(y.den:Int))),.string (aB (y.num*(x.den:Int)))] W fun e w'=>e=.returned (.string (aB (x.num*(y.den:Int)+y.num*(x.den:Int))))/\aA W w':=fun W hW=>M8_ _ _ W (by omega) (by omega) (HT.ext hW);have hL:∀ W,aA w W->Calls prog 338 #[.string (aB (x.num*(y.den:Int)+y.num*(x.den:Int))),.string (aB ((x.den:Int)*(y.den:Int)))] W fun e w'=>e=.returned (bR (x+y))/\aA W w':=fun W hW=>by
  rw [<- Z1h];exact P1_ _ _ W (by rw [<- Int.natCast_mul];have:=Nat.mul_ne_zero x.den_nz y.den_nz;omega) (by omega) (by omega) (HT.ext hW)
 have hS:∀ W,aA w W->Calls prog 116 #[.string (aB x.num),.string (aB y.num)] W fun e w'=>e=.returned (.string (aB (x.num+y.num)))/\aA W w':=fun W hW=>M8_ _ _ W (by omega) (by omega) (HT.ext hW);have HM1:=oZ wL;have HM2:=oZ rk;have HM3:=oZ xx;have HA:=oZ hA;have HL:=oZ hL;have HS:=oZ hS;have HOF:Hid ((aB x.num).size<=9/\(aE x.den).size<=9->(aB y.num).size<=9/\(aE y.den).size<=9->∃ (p1 p2 q:Int),x.num*(y.den:Int)=p1/\y.num*(x.den:Int)=p2/\(x.den:Int)*(y.den:Int)=q/\-1000000000000000000<=p1/\p1<=1000000000000000000/\-1000000000000000000<=p2/\p2<=1000000000000000000/\-1000000000000000000<=q/\q<=1000000000000000000/\∀ W,aA w W->pI 337 #[.int .i64 (p1+p2),.int .i64 q] W (bR (x+y))):=by
  intro h1 h2;have a1:=jr h1.1;have a2:=jr (n:=(x.den:Int)) (by rw [eb];exact h1.2);have a3:=jr h2.1;have a4:=jr (n:=(y.den:Int)) (by rw [eb];exact h2.2);have m1:=mi a1.1 a1.2 a4.1 a4.2 (by omega) (by omega);have m2:=mi a3.1 a3.2 a2.1 a2.2 (by omega) (by omega);have m3:=mi a2.1 a2.2 a4.1 a4.2 (by omega) (by omega);refine ⟨_,_,_,rfl,rfl,rfl,by omega,by omega,by omega,by omega,by omega,by omega,fun W hW=>?_⟩;have Fs:0<x.den*y.den:=Nat.mul_pos x.den_pos y.den_pos;rw [<- Int.natCast_mul] at m3 |-;have:=Z2n (x.num*(y.den:Int)+y.num*(x.den:Int)) (x.den*y.den) W (by omega) (by omega) Fs (by omega) (HT.ext hW);rw [Rat.add_def'];exact this
 have ho1:=f3_ x.den;have ho2:=f3_ y.den;have yH:Hid (x.den=1->y.den=1->aB (x.num+y.num)=aB (x+y).num/\aE (x+y).den=⟨#[49]⟩):=fun h1 h2=>by
  obtain ⟨e1,e2⟩:=e0_ x y h1 h2;rw [e1,e2];exact ⟨rfl,by unfold aE;rw [Lib.decDigits_one (by omega)];rfl⟩
 have qI:∀ q:Rat,bR q=.agg #[.string (aB q.num),.string (aE q.den)]:=fun _=>rfl;obtain ⟨o1,AF⟩:=pL (decide (x.den=1));obtain ⟨o2,AE⟩:=pL (decide (y.den=1));rw [<- AF] at ho1;rw [<- AE] at ho2;have yG:Hid (o1=true->o2=true->x.den=1/\y.den=1):=fun h1 h2=>⟨of_decide_eq_true (AF▸h1),of_decide_eq_true (AE▸h2)⟩
 obtain ⟨Z,hZ⟩:=pL (x+y);rw [<- hZ] at HL HOF yH |-;rw [qI x] at HB1 |-;rw [qI y] at HB2 |-;rw [qI Z] at HL HOF |-;clear hE1 hE2 pS hs1 hs2 hs3 hb1 hb2 px hb1' hb2' hbx qK wL rk xx hA hL hS qI hx hy h3 h4 h5 h6 s1 s2 s3 s4 AF AE hZ;obtain ⟨n1,pv⟩:=pL (aB x.num);obtain ⟨d1,rT⟩:=pL (aE x.den);obtain ⟨n2,qx⟩:=pL (aB y.num);obtain ⟨d2,hd2⟩:=pL (aE y.den);obtain ⟨n4,hn4⟩:=pL (aB Z.num);obtain ⟨d4,sj⟩:=pL (aE Z.den);obtain ⟨m1,qp⟩:=pL (aB (x.num*(y.den:Int)));obtain ⟨m2,rI⟩:=pL (aB (y.num*(x.den:Int)));obtain ⟨m3,vS⟩:=pL (aB ((x.den:Int)*(y.den:Int)));obtain ⟨m4,BT⟩:=pL (aB (x.num*(y.den:Int)+y.num*(x.den:Int)));obtain ⟨m5,FI⟩:=pL (aB (x.num+y.num));rw [<- pv,<- hd2,<- qp] at HM1;rw [<- qx,<- rT,<- rI] at HM2;rw [<- rT,<- hd2,<- vS] at HM3;rw [<- qp,<- rI,<- BT] at HA;rw [<- BT,<- vS,<- hn4,<- sj] at HL;rw [<- pv,<- qx,<- FI] at HS;rw [<- FI,<- hn4,<- sj] at yH;rw [<- hn4,<- sj] at HOF |-;rw [<- pv,<- rT,<- qx,<- hd2] at HC |-;rw [<- pv,<- rT] at pc HB1 HBX HOF;rw [<- qx,<- hd2] at qv HB2 HBY HOF;rw [<- rT] at ho1;rw [<- hd2] at ho2;clear pv rT qx hd2 hn4 sj qp rI vS BT FI;obtain ⟨c0,c1,c2,c3,c4,c5,c6,c7,cb⟩:=HC W3 (aA.refl _);by_cases sR:o1=true/\o2=true
 ·obtain ⟨h1,h2⟩:=sR;obtain ⟨k1,k2⟩:=yG h1 h2;obtain ⟨e5,e4⟩:=yH k1 k2;rw [h1] at ho1;rw [h2] at ho2;rw [e5] at HS;rw [e4];have Jr:af W2.heap.size W3:=⟨_,_,cb⟩;have HBL:=oZ Jr;clear h1 h2 k1 k2 e5 e4 cb Jr HM1 HM2 HM3 HA HL HOF HB1 HB2 HBX HBY yH yG
  go_enter func339,ntmps339
  go_wp2_with fail;refine (HS _ HE).mono ?_;rintro e w6 ⟨rfl,pR⟩;have HE6:=oZ (aA.trans HE pR);have z6:=oZ (HBL.ext pR);obtain ⟨r0,r1,t0,t1,f0,f1⟩:=z6.out.open;clear pR HS c0 c1 c2 c3 c4 c5 c6 c7;have hb7:=af.res (x:=.string n4) (y:=.string ⟨#[49]⟩) z6.out;go_wp2_with fail;refine bodyPost_ret (results_cell_row (by rfl) _ _ W2.heap.size 246 #[.string n4,.string ⟨#[49]⟩] (0,0) _ (by rfl) hb7 underlying246 (by rfl) (by kernel_rfl)) (by rfl) ⟨rfl,?_⟩;exact eB HE6 HR
 ·have CS:o1=false\/(o1=true/\o2=false):=by
   cases o1;·exact .inl rfl
   ·cases o2;·exact .inr ⟨rfl,rfl⟩
    ·exact absurd ⟨rfl,rfl⟩ sR
  clear sR yH yG HS cb;rcases CS with h1 | ⟨h1,h2⟩
  case' inl =>
   rw [h1] at ho1;clear h1 ho2
  case' inr =>
   rw [h1] at ho1;rw [h2] at ho2;clear h1 h2
  all_goals
   go_enter func339,ntmps339
   go_wp2_with fail;refine (HB1 _).mono ?_;rintro e w4 ⟨a,b,rfl,qL,hE4⟩;have HAB:=qL;have HE4:=oZ hE4;obtain ⟨u0,u1,u2,u3,u4,u5,u6,u7,-⟩:=HC _ hE4;clear qL hE4 HB1 c0 c1 c2 c3 c4 c5 c6 c7;cases bx
   ·clear HB2 HOF HAB u0 u1 u2 u3 u4 u5 u6 u7;go_wp2_with fail;have HX3:=oZ (aA.trans (aA.trans HE HE4) (aA.drew _));obtain ⟨y1,y2,y3,y4,-,-,-,-,yb⟩:=HC _ (aA.trans HE4 (aA.drew _));have HB3:Hid (af W2.heap.size (w4).drew):=⟨_,_,yb⟩;clear yb
    go_region_held3 (fun w'=>w'.cell? ⟨w.heap.size,0,none⟩=some (.string n1)/\w'.cell? ⟨w.heap.size,1,none⟩=some (.string d1)/\w'.cell? ⟨W1.heap.size,0,none⟩=some (.string n2)/\w'.cell? ⟨W1.heap.size,1,none⟩=some (.string d2)/\Hid (aA w w')/\Hid (af W2.heap.size w'))
     (first | exact ⟨z1,z2,z3,z4,z5,z6⟩ | exact ⟨du HN1 z1,du HN1 z2,du rF z3,du rF z4,oZ (eB z5.out HR),oZ z6.out.set2⟩ | exact ⟨y1,y2,y3,y4,HX3,HB3⟩ | go_keep)
     (first
      | (go_at_call 66;have hc:=HM1 _ (Hid.out (p:=aA w _) (by assumption));with_reducible refine hc.mono ?_;clear hc;rintro e w6 ⟨rfl,pR⟩;have q1:=pR.cell (a:=⟨w.heap.size,0,none⟩) (v:=.string n1) (by assumption);have q2:=pR.cell (a:=⟨w.heap.size,1,none⟩) (v:=.string d1) (by assumption);have q3:=pR.cell (a:=⟨W1.heap.size,0,none⟩) (v:=.string n2) (by assumption);have q4:=pR.cell (a:=⟨W1.heap.size,1,none⟩) (v:=.string d2) (by assumption);have q5:=oZ (aA.trans (Hid.out (p:=aA w _) (by assumption)) pR);have q6:=oZ (af.ext (Hid.out (p:=af W2.heap.size _) (by assumption)) pR);(try clear z1 z2 z3 z4 z5 z6 t0 t1 f0 f1);have z1:=q1;have z2:=q2;have z3:=q3;have z4:=q4;have z5:=q5;have z6:=q6;obtain ⟨r0,r1,t0,t1,f0,f1⟩:=z6.out.open;clear pR q1 q2 q3 q4 q5 q6)
      | (go_at_call 66;have hc:=HM2 _ (Hid.out (p:=aA w _) (by assumption));with_reducible refine hc.mono ?_;clear hc;rintro e w6 ⟨rfl,pR⟩;have q1:=pR.cell (a:=⟨w.heap.size,0,none⟩) (v:=.string n1) (by assumption);have q2:=pR.cell (a:=⟨w.heap.size,1,none⟩) (v:=.string d1) (by assumption);have q3:=pR.cell (a:=⟨W1.heap.size,0,none⟩) (v:=.string n2) (by assumption);have q4:=pR.cell (a:=⟨W1.heap.size,1,none⟩) (v:=.string d2) (by assumption);have q5:=oZ (aA.trans (Hid.out (p:=aA w _) (by assumption)) pR);have q6:=oZ (af.ext (Hid.out (p:=af W2.heap.size _) (by assumption)) pR);(try clear z1 z2 z3 z4 z5 z6 t0 t1 f0 f1);have z1:=q1;have z2:=q2;have z3:=q3;have z4:=q4;have z5:=q5;have z6:=q6;obtain ⟨r0,r1,t0,t1,f0,f1⟩:=z6.out.open;clear pR q1 q2 q3 q4 q5 q6)
      | (go_at_call 66;have hc:=HM3 _ (Hid.out (p:=aA w _) (by assumption));with_reducible refine hc.mono ?_;clear hc;rintro e w6 ⟨rfl,pR⟩;have q1:=pR.cell (a:=⟨w.heap.size,0,none⟩) (v:=.string n1) (by assumption);have q2:=pR.cell (a:=⟨w.heap.size,1,none⟩) (v:=.string d1) (by assumption);have q3:=pR.cell (a:=⟨W1.heap.size,0,none⟩) (v:=.string n2) (by assumption);have q4:=pR.cell (a:=⟨W1.heap.size,1,none⟩) (v:=.string d2) (by assumption);have q5:=oZ (aA.trans (Hid.out (p:=aA w _) (by assumption)) pR);have q6:=oZ (af.ext (Hid.out (p:=af W2.heap.size _) (by assumption)) pR);(try clear z1 z2 z3 z4 z5 z6 t0 t1 f0 f1);have z1:=q1;have z2:=q2;have z3:=q3;have z4:=q4;have z5:=q5;have z6:=q6;obtain ⟨r0,r1,t0,t1,f0,f1⟩:=z6.out.open;clear pR q1 q2 q3 q4 q5 q6)
      | (go_at_call 116;have hc:=HA _ (Hid.out (p:=aA w _) (by assumption));with_reducible refine hc.mono ?_;clear hc;rintro e w6 ⟨rfl,pR⟩;have q1:=pR.cell (a:=⟨w.heap.size,0,none⟩) (v:=.string n1) (by assumption);have q2:=pR.cell (a:=⟨w.heap.size,1,none⟩) (v:=.string d1) (by assumption);have q3:=pR.cell (a:=⟨W1.heap.size,0,none⟩) (v:=.string n2) (by assumption);have q4:=pR.cell (a:=⟨W1.heap.size,1,none⟩) (v:=.string d2) (by assumption);have q5:=oZ (aA.trans (Hid.out (p:=aA w _) (by assumption)) pR);have q6:=oZ (af.ext (Hid.out (p:=af W2.heap.size _) (by assumption)) pR);(try clear z1 z2 z3 z4 z5 z6 t0 t1 f0 f1);have z1:=q1;have z2:=q2;have z3:=q3;have z4:=q4;have z5:=q5;have z6:=q6;obtain ⟨r0,r1,t0,t1,f0,f1⟩:=z6.out.open;clear pR q1 q2 q3 q4 q5 q6)
      | (go_at_call 338;have hc:=HL _ (Hid.out (p:=aA w _) (by assumption));with_reducible refine hc.mono ?_;clear hc;rintro e w6 ⟨rfl,pR⟩;have q1:=pR.cell (a:=⟨w.heap.size,0,none⟩) (v:=.string n1) (by assumption);have q2:=pR.cell (a:=⟨w.heap.size,1,none⟩) (v:=.string d1) (by assumption);have q3:=pR.cell (a:=⟨W1.heap.size,0,none⟩) (v:=.string n2) (by assumption);have q4:=pR.cell (a:=⟨W1.heap.size,1,none⟩) (v:=.string d2) (by assumption);have q5:=oZ (aA.trans (Hid.out (p:=aA w _) (by assumption)) pR);have q6:=oZ (af.ext (Hid.out (p:=af W2.heap.size _) (by assumption)) pR);(try clear z1 z2 z3 z4 z5 z6 t0 t1 f0 f1);have z1:=q1;have z2:=q2;have z3:=q3;have z4:=q4;have z5:=q5;have z6:=q6;obtain ⟨r0,r1,t0,t1,f0,f1⟩:=z6.out.open;clear pR q1 q2 q3 q4 q5 q6))
    all_goals
     have hb7:=af.res (x:=.string n4) (y:=.string d4) z6.out;go_wp2_with fail;refine bodyPost_ret (results_cell_row (by rfl) _ _ W2.heap.size 246 #[.string n4,.string d4] (0,0) _ (by rfl) hb7 underlying246 (by rfl) (by kernel_rfl)) (by rfl) ⟨rfl,?_⟩;exact eB z5.out HR
   ·go_wp2_with fail;refine (HB2 _).mono ?_;rintro e w5 ⟨c,d,rfl,vD,pV⟩;have HCD:=vD;have HE5:=oZ (aA.trans HE4 pV);clear vD pV HB2 u0 u1 u2 u3 u4 u5 u6 u7;cases by'
    ·clear HOF HAB HCD;go_wp2_with fail;have HX3:=oZ (aA.trans (aA.trans HE HE5) (aA.drew _));obtain ⟨y1,y2,y3,y4,-,-,-,-,yb⟩:=HC _ (aA.trans HE5 (aA.drew _));have HB3:Hid (af W2.heap.size (w5).drew):=⟨_,_,yb⟩;clear yb
     go_region_held3 (fun w'=>w'.cell? ⟨w.heap.size,0,none⟩=some (.string n1)/\w'.cell? ⟨w.heap.size,1,none⟩=some (.string d1)/\w'.cell? ⟨W1.heap.size,0,none⟩=some (.string n2)/\w'.cell? ⟨W1.heap.size,1,none⟩=some (.string d2)/\Hid (aA w w')/\Hid (af W2.heap.size w'))
      (first | exact ⟨z1,z2,z3,z4,z5,z6⟩ | exact ⟨du HN1 z1,du HN1 z2,du rF z3,du rF z4,oZ (eB z5.out HR),oZ z6.out.set2⟩ | exact ⟨y1,y2,y3,y4,HX3,HB3⟩ | go_keep)
      (first
       | (go_at_call 66;have hc:=HM1 _ (Hid.out (p:=aA w _) (by assumption));with_reducible refine hc.mono ?_;clear hc;rintro e w6 ⟨rfl,pR⟩;have q1:=pR.cell (a:=⟨w.heap.size,0,none⟩) (v:=.string n1) (by assumption);have q2:=pR.cell (a:=⟨w.heap.size,1,none⟩) (v:=.string d1) (by assumption);have q3:=pR.cell (a:=⟨W1.heap.size,0,none⟩) (v:=.string n2) (by assumption);have q4:=pR.cell (a:=⟨W1.heap.size,1,none⟩) (v:=.string d2) (by assumption);have q5:=oZ (aA.trans (Hid.out (p:=aA w _) (by assumption)) pR);have q6:=oZ (af.ext (Hid.out (p:=af W2.heap.size _) (by assumption)) pR);(try clear z1 z2 z3 z4 z5 z6 t0 t1 f0 f1);have z1:=q1;have z2:=q2;have z3:=q3;have z4:=q4;have z5:=q5;have z6:=q6;obtain ⟨r0,r1,t0,t1,f0,f1⟩:=z6.out.open;clear pR q1 q2 q3 q4 q5 q6)
       | (go_at_call 66;have hc:=HM2 _ (Hid.out (p:=aA w _) (by assumption));with_reducible refine hc.mono ?_;clear hc;rintro e w6 ⟨rfl,pR⟩;have q1:=pR.cell (a:=⟨w.heap.size,0,none⟩) (v:=.string n1) (by assumption);have q2:=pR.cell (a:=⟨w.heap.size,1,none⟩) (v:=.string d1) (by assumption);have q3:=pR.cell (a:=⟨W1.heap.size,0,none⟩) (v:=.string n2) (by assumption);have q4:=pR.cell (a:=⟨W1.heap.size,1,none⟩) (v:=.string d2) (by assumption);have q5:=oZ (aA.trans (Hid.out (p:=aA w _) (by assumption)) pR);have q6:=oZ (af.ext (Hid.out (p:=af W2.heap.size _) (by assumption)) pR);(try clear z1 z2 z3 z4 z5 z6 t0 t1 f0 f1);have z1:=q1;have z2:=q2;have z3:=q3;have z4:=q4;have z5:=q5;have z6:=q6;obtain ⟨r0,r1,t0,t1,f0,f1⟩:=z6.out.open;clear pR q1 q2 q3 q4 q5 q6)
       | (go_at_call 66;have hc:=HM3 _ (Hid.out (p:=aA w _) (by assumption));with_reducible refine hc.mono ?_;clear hc;rintro e w6 ⟨rfl,pR⟩;have q1:=pR.cell (a:=⟨w.heap.size,0,none⟩) (v:=.string n1) (by assumption);have q2:=pR.cell (a:=⟨w.heap.size,1,none⟩) (v:=.string d1) (by assumption);have q3:=pR.cell (a:=⟨W1.heap.size,0,none⟩) (v:=.string n2) (by assumption);have q4:=pR.cell (a:=⟨W1.heap.size,1,none⟩) (v:=.string d2) (by assumption);have q5:=oZ (aA.trans (Hid.out (p:=aA w _) (by assumption)) pR);have q6:=oZ (af.ext (Hid.out (p:=af W2.heap.size _) (by assumption)) pR);(try clear z1 z2 z3 z4 z5 z6 t0 t1 f0 f1);have z1:=q1;have z2:=q2;have z3:=q3;have z4:=q4;have z5:=q5;have z6:=q6;obtain ⟨r0,r1,t0,t1,f0,f1⟩:=z6.out.open;clear pR q1 q2 q3 q4 q5 q6)
       | (go_at_call 116;have hc:=HA _ (Hid.out (p:=aA w _) (by assumption));with_reducible refine hc.mono ?_;clear hc;rintro e w6 ⟨rfl,pR⟩;have q1:=pR.cell (a:=⟨w.heap.size,0,none⟩) (v:=.string n1) (by assumption);have q2:=pR.cell (a:=⟨w.heap.size,1,none⟩) (v:=.string d1) (by assumption);have q3:=pR.cell (a:=⟨W1.heap.size,0,none⟩) (v:=.string n2) (by assumption);have q4:=pR.cell (a:=⟨W1.heap.size,1,none⟩) (v:=.string d2) (by assumption);have q5:=oZ (aA.trans (Hid.out (p:=aA w _) (by assumption)) pR);have q6:=oZ (af.ext (Hid.out (p:=af W2.heap.size _) (by assumption)) pR);(try clear z1 z2 z3 z4 z5 z6 t0 t1 f0 f1);have z1:=q1;have z2:=q2;have z3:=q3;have z4:=q4;have z5:=q5;have z6:=q6;obtain ⟨r0,r1,t0,t1,f0,f1⟩:=z6.out.open;clear pR q1 q2 q3 q4 q5 q6)
       | (go_at_call 338;have hc:=HL _ (Hid.out (p:=aA w _) (by assumption));with_reducible refine hc.mono ?_;clear hc;rintro e w6 ⟨rfl,pR⟩;have q1:=pR.cell (a:=⟨w.heap.size,0,none⟩) (v:=.string n1) (by assumption);have q2:=pR.cell (a:=⟨w.heap.size,1,none⟩) (v:=.string d1) (by assumption);have q3:=pR.cell (a:=⟨W1.heap.size,0,none⟩) (v:=.string n2) (by assumption);have q4:=pR.cell (a:=⟨W1.heap.size,1,none⟩) (v:=.string d2) (by assumption);have q5:=oZ (aA.trans (Hid.out (p:=aA w _) (by assumption)) pR);have q6:=oZ (af.ext (Hid.out (p:=af W2.heap.size _) (by assumption)) pR);(try clear z1 z2 z3 z4 z5 z6 t0 t1 f0 f1);have z1:=q1;have z2:=q2;have z3:=q3;have z4:=q4;have z5:=q5;have z6:=q6;obtain ⟨r0,r1,t0,t1,f0,f1⟩:=z6.out.open;clear pR q1 q2 q3 q4 q5 q6))
     all_goals
      have hb7:=af.res (x:=.string n4) (y:=.string d4) z6.out;go_wp2_with fail;refine bodyPost_ret (results_cell_row (by rfl) _ _ W2.heap.size 246 #[.string n4,.string d4] (0,0) _ (by rfl) hb7 underlying246 (by rfl) (by kernel_rfl)) (by rfl) ⟨rfl,?_⟩;exact eB z5.out HR
    ·obtain ⟨ha,hb⟩:=HAB (HBX (by first | rfl | trivial));obtain ⟨hc,hd⟩:=HCD (HBY (by first | rfl | trivial));obtain ⟨p1,p2,q,hp1,hp2,hq,b1,b2,b3,b4,b5,b6,CW⟩:=HOF (HBX (by first | rfl | trivial)) (HBY (by first | rfl | trivial));have HO:=oZ CW;have K1:a*d=p1:=(by rw [ha,hd];exact hp1);have K0:c*b=p2:=(by rw [hc,hb];exact hp2);have E0:b*d=q:=(by rw [hb,hd];exact hq);clear ha hb hc hd hp1 hp2 hq CW HAB HCD HOF HM1 HM2 HM3 HA HL;go_wp2_with fail;refine (HO _ (HE.trans HE5)).mono ?_;rintro e w6 ⟨rfl,pR⟩;have HE6:=oZ (aA.trans HE5 pR);obtain ⟨-,-,-,-,-,-,-,-,yb⟩:=HC _ HE6;have z6:Hid (af W2.heap.size w6):=⟨_,_,yb⟩;obtain ⟨r0,r1,t0,t1,f0,f1⟩:=z6.out.open;clear pR HO yb;have hb7:=af.res (x:=.string n4) (y:=.string d4) z6.out;go_wp2_with fail;refine bodyPost_ret (results_cell_row (by rfl) _ _ W2.heap.size 246 #[.string n4,.string d4] (0,0) _ (by rfl) hb7 underlying246 (by rfl) (by kernel_rfl)) (by rfl) ⟨rfl,?_⟩;exact eB (HE.trans HE6) HR
theorem Z1g (x y:Rat) (w:World) (hx:RS 11000 x) (hy:RS 11000 y) (ht:ag w) :
  pI 280 #[bR x,bR y] w (bR (x-y)):=by
 have HT:=oZ ht;clear ht;obtain ⟨W1,pc,hE1,hs1,hb1⟩:=dO w (.string (aB x.num)) (.string (aE x.den)) 246;obtain ⟨W2,qv,hE2,hs2,hb2⟩:=dO W1 (.string (aB y.num)) (.string (aE y.den)) 246;obtain ⟨W3,vP,pS,hs3,px⟩:=dO W2 (.string ⟨#[]⟩) (.string ⟨#[]⟩) 246;have hb1':=aF hb1 (hE2.trans pS);have hb2':=aF hb2 pS;have HE:=oZ ((hE1.trans hE2).trans pS);have HR:Hid (w.heap.size<=W2.heap.size):=by unfold Hid;omega
 have HN1:Hid (w.heap.size≠W2.heap.size):=by unfold Hid;omega
 have rF:Hid (W1.heap.size≠W2.heap.size):=by unfold Hid;omega
 have HC:Hid (∀ W,aA W3 W->W.cell? ⟨w.heap.size,0,none⟩=some (.string (aB x.num))/\W.cell? ⟨w.heap.size,1,none⟩=some (.string (aE x.den))/\W.cell? ⟨W1.heap.size,0,none⟩=some (.string (aB y.num))/\W.cell? ⟨W1.heap.size,1,none⟩=some (.string (aE y.den))/\W.cell? ⟨W2.heap.size,0,none⟩=some (.string ⟨#[]⟩)/\W.cell? ⟨W2.heap.size,1,none⟩=some (.string ⟨#[]⟩)/\W.frozen? ⟨W2.heap.size,0,none⟩=false/\W.frozen? ⟨W2.heap.size,1,none⟩=false/\W.heap[W2.heap.size]?=some (.cells #[.string ⟨#[]⟩,.string ⟨#[]⟩] 246 (0,0))):=fun W hW=>by
  obtain ⟨a0,a1,-⟩:=dI (aF hb1' hW);obtain ⟨b0,b1,-⟩:=dI (aF hb2' hW);obtain ⟨c0,c1,cf⟩:=dI (aF px hW);exact ⟨a0,a1,b0,b1,c0,c1,cf 0,cf 1,aF px hW⟩
 have zQ:RS 12000 (-y):=by
  refine ⟨?_,by show (aE y.den).size<=12000;have:=hy.2;omega⟩;have h1:=fx (-y.num);have h2:=eE y.num;rw [Int.natAbs_neg] at h1;rw [Rat.neg_num];have:=hy.1;omega
 have HNG:Hid (∀ W,aA w W->pI 277 #[bR y] W (bR (-y))):=fun W _=>z9_ y W (hy.mono (by omega));have wu:Hid (∀ W,aA w W->pI 339 #[bR x,bR (-y)] W (bR (x-y))):=fun W hW=>by
  have:=Z1e x (-y) W (hx.mono (by omega)) zQ (HT.ext hW);rw [<- Rat.sub_eq_add_neg] at this;exact this
 have qI:∀ q:Rat,bR q=.agg #[.string (aB q.num),.string (aE q.den)]:=fun _=>rfl;obtain ⟨Z,hZ⟩:=pL (x-y);obtain ⟨V,hV⟩:=pL (bR (-y));rw [<- hZ] at wu |-;rw [<- hV] at HNG wu;have J4:Hid (V=.agg #[.string (aB (-y).num),.string (aE (-y).den)]):=hV;rw [J4.out] at HNG wu;rw [qI x] at wu |-;rw [qI y] at HNG |-;rw [qI Z] at wu |-;clear hE1 hE2 pS hs1 hs2 hs3 hb1 hb2 px hb1' hb2' qI hx hy zQ hV J4;obtain ⟨n1,pv⟩:=pL (aB x.num);obtain ⟨d1,rT⟩:=pL (aE x.den);obtain ⟨n2,qx⟩:=pL (aB y.num);obtain ⟨d2,hd2⟩:=pL (aE y.den);obtain ⟨n4,hn4⟩:=pL (aB Z.num);obtain ⟨d4,sj⟩:=pL (aE Z.den);obtain ⟨n3,xP⟩:=pL (aB (-y).num);obtain ⟨d3,xi⟩:=pL (aE (-y).den);rw [<- qx,<- hd2,<- xP,<- xi] at HNG;rw [<- pv,<- rT,<- xP,<- xi,<- hn4,<- sj] at wu;rw [<- hn4,<- sj];rw [<- pv,<- rT,<- qx,<- hd2] at HC |-;rw [<- pv,<- rT] at pc;rw [<- qx,<- hd2] at qv;clear pv rT qx hd2 xP xi hn4 sj hZ;obtain ⟨c0,c1,c2,c3,c4,c5,c6,c7,-⟩:=HC W3 (aA.refl _)
 go_enter func280,ntmps280
 go_wp2_with fail;have HRF:=oZ (aA.refl W3);have HX3:=oZ (aA.trans (aA.trans HE HRF) (aA.drew _));obtain ⟨y1,y2,y3,y4,-,-,-,-,yb⟩:=HC _ (aA.trans HRF (aA.drew _));have HB3:Hid (af W2.heap.size (W3).drew):=⟨_,_,yb⟩;clear yb
 go_region_held3 (fun w'=>w'.cell? ⟨w.heap.size,0,none⟩=some (.string n1)/\w'.cell? ⟨w.heap.size,1,none⟩=some (.string d1)/\w'.cell? ⟨W1.heap.size,0,none⟩=some (.string n2)/\w'.cell? ⟨W1.heap.size,1,none⟩=some (.string d2)/\Hid (aA w w')/\Hid (af W2.heap.size w'))
  (first | exact ⟨z1,z2,z3,z4,z5,z6⟩ | exact ⟨du HN1 z1,du HN1 z2,du rF z3,du rF z4,oZ (eB z5.out HR),oZ z6.out.set2⟩ | exact ⟨y1,y2,y3,y4,HX3,HB3⟩ | go_keep)
  (first
   | (go_at_call 277;have hc:=HNG _ (Hid.out (p:=aA w _) (by assumption));with_reducible refine hc.mono ?_;clear hc;rintro e w6 ⟨rfl,pR⟩;have q1:=pR.cell (a:=⟨w.heap.size,0,none⟩) (v:=.string n1) (by assumption);have q2:=pR.cell (a:=⟨w.heap.size,1,none⟩) (v:=.string d1) (by assumption);have q3:=pR.cell (a:=⟨W1.heap.size,0,none⟩) (v:=.string n2) (by assumption);have q4:=pR.cell (a:=⟨W1.heap.size,1,none⟩) (v:=.string d2) (by assumption);have q5:=oZ (aA.trans (Hid.out (p:=aA w _) (by assumption)) pR);have q6:=oZ (af.ext (Hid.out (p:=af W2.heap.size _) (by assumption)) pR);(try clear z1 z2 z3 z4 z5 z6 t0 t1 f0 f1);have z1:=q1;have z2:=q2;have z3:=q3;have z4:=q4;have z5:=q5;have z6:=q6;obtain ⟨r0,r1,t0,t1,f0,f1⟩:=z6.out.open;clear pR q1 q2 q3 q4 q5 q6)
   | (go_at_call 339;have hc:=wu _ (Hid.out (p:=aA w _) (by assumption));with_reducible refine hc.mono ?_;clear hc;rintro e w6 ⟨rfl,pR⟩;have q1:=pR.cell (a:=⟨w.heap.size,0,none⟩) (v:=.string n1) (by assumption);have q2:=pR.cell (a:=⟨w.heap.size,1,none⟩) (v:=.string d1) (by assumption);have q3:=pR.cell (a:=⟨W1.heap.size,0,none⟩) (v:=.string n2) (by assumption);have q4:=pR.cell (a:=⟨W1.heap.size,1,none⟩) (v:=.string d2) (by assumption);have q5:=oZ (aA.trans (Hid.out (p:=aA w _) (by assumption)) pR);have q6:=oZ (af.ext (Hid.out (p:=af W2.heap.size _) (by assumption)) pR);(try clear z1 z2 z3 z4 z5 z6 t0 t1 f0 f1);have z1:=q1;have z2:=q2;have z3:=q3;have z4:=q4;have z5:=q5;have z6:=q6;obtain ⟨r0,r1,t0,t1,f0,f1⟩:=z6.out.open;clear pR q1 q2 q3 q4 q5 q6))
 all_goals
  have hb7:=af.res (x:=.string n4) (y:=.string d4) z6.out;go_wp2_with fail;refine bodyPost_ret (results_cell_row (by rfl) _ _ W2.heap.size 246 #[.string n4,.string d4] (0,0) _ (by rfl) hb7 underlying246 (by rfl) (by kernel_rfl)) (by rfl) ⟨rfl,?_⟩;exact eB z5.out HR
theorem mO {w w':World} {g:Nat} (h:w'.heap[g]?=w.heap[g]?) (j:Nat):w'.cell? ⟨g,j,none⟩=w.cell? ⟨g,j,none⟩:=by
 simp [World.cell?,h]
theorem Z7_ {w w':World} {g:Nat} (h:w'.heap[g]?=w.heap[g]?) (j:Nat):w'.frozen? ⟨g,j,none⟩=w.frozen? ⟨g,j,none⟩:=by
 simp [World.frozen?,h]
theorem g_ (w:World) (a:Addr) (v:Value):(w.setCell a v).heap.size=w.heap.size:=by simp [World.setCell]
structure d_ (w:World) (g:Nat) (xs:List Rat):Prop where
 lt:g<w.heap.size
 num:∀ (j:Nat) x,xs[j]?=some x->w.cell? ⟨g,j*2,none⟩=some (.string (aB x.num))
 den:∀ (j:Nat) x,xs[j]?=some x->w.cell? ⟨g,j*2+1,none⟩=some (.string (aE x.den))
 free:∀ j,w.frozen? ⟨g,j,none⟩=false
theorem d_.same {w w':World} {g:Nat} {xs:List Rat} (h:d_ w g xs) (hs:w.heap.size<=w'.heap.size) (hg:w'.heap[g]?=w.heap[g]?):d_ w' g xs :=
 ⟨ov h.lt hs,fun j x hx=>(mO hg _).trans (h.num j x hx),fun j x hx=>(mO hg _).trans (h.den j x hx),fun j=>(Z7_ hg j).trans (h.free j)⟩
theorem d_.ext {w w':World} {g:Nat} {xs:List Rat} (h:d_ w g xs) (he:aA w w'):d_ w' g xs:=h.same he.size (he.block g h.lt)
theorem d_.grown {w w':World} {S:Nat->Prop} {g:Nat} {xs:List Rat} (h:d_ w g xs) (hg:aH S w w') (hS:¬ S g):d_ w' g xs:=h.same hg.size (hg.block g h.lt hS)
theorem nx (w:World) (g i j:Nat) (v:Value):(w.setCell ⟨g,i,none⟩ v).frozen? ⟨g,j,none⟩=w.frozen? ⟨g,j,none⟩:=by
 exact World.frozen?_setCell ..
theorem d_.set {w : World} {g : Nat} {xs : List Rat} (h : d_ w g xs) (k : Nat) (hk : k < xs.length) (y : Rat) :
    d_ ((w.setCell ⟨g, k * 2, none⟩ (.string (aB y.num))).setCell ⟨g, k * 2 + 1, none⟩ (.string (aE y.den))) g (xs.set k y) := by
  have hx : xs[k]? = some xs[k] := oc hk;have c0 := h.num k _ hx;have c1 := h.den k _ hx;refine ⟨by rw [g_, g_]; exact h.lt, fun j x hj => ?_, fun j x hj => ?_, fun j => by rw [nx, nx]; exact h.free j⟩
  all_goals
    rw [pH] at hj;by_cases e : k = j
    · subst e
      rw [if_pos rfl, if_pos hk] at hj;cases hj
      first
        | (rw [World.cell?_setCell_other _ _ _ _ (by intro e; simp only [Addr.mk.injEq] at e; omega)]
           exact World.cell?_setCell_same w _ _ c0)
        | (refine World.cell?_setCell_same _ _ (v := .string (aE xs[k].den)) _ ?_
           rw [World.cell?_setCell_other _ _ _ _ (by intro e; simp only [Addr.mk.injEq] at e; omega)]
           exact c1)
        | (exact World.cell?_setCell_same _ _ _ ((World.cell?_setCell_other _ _ _ _ (by intro e; simp only [Addr.mk.injEq] at e; omega)).trans c1))
    · rw [if_neg e] at hj
      rw [World.cell?_setCell_other _ _ _ _ (by intro e; simp only [Addr.mk.injEq] at e; omega), World.cell?_setCell_other _ _ _ _ (by intro e; simp only [Addr.mk.injEq] at e; omega)]
      first | exact h.num j x hj | exact h.den j x hj
structure c8 (w:World) (g0:Nat) (tags:List (Nat×Nat)) (m:List (List Rat)):Prop where
 len:tags.length=m.length
 lt:g0<w.heap.size
 free:∀ j,w.frozen? ⟨g0,j,none⟩=false
 row:∀ (i:Nat) t r,tags[i]?=some t->m[i]?=some r->w.cell? ⟨g0,i,none⟩=some (.slice (some ⟨t.1,0,none⟩) r.length t.2)/\r.length<=t.2/\t.2<=9223372036854775807/\d_ w t.1 r
 nodup:(g0::tags.map (·.1)).Nodup
def dA (g0:Nat) (tags:List (Nat×Nat)) (b:Nat):Prop:=b∈g0::tags.map (·.1)
theorem c8.same {w w':World} {g0:Nat} {tags:List (Nat×Nat)} {m:List (List Rat)} (h:c8 w g0 tags m) (hs:w.heap.size<=w'.heap.size) (hb:∀ b,dA g0 tags b->w'.heap[b]?=w.heap[b]?):c8 w' g0 tags m:=by
 have h0:=hb g0 (List.mem_cons_self ..);refine ⟨h.len,ov h.lt hs,fun j=>(Z7_ h0 j).trans (h.free j),fun i t r ht hr=>?_,h.nodup⟩;obtain ⟨h1,h2,h3,h4⟩:=h.row i t r ht hr;exact ⟨(mO h0 i).trans h1,h2,h3,h4.same hs (hb t.1 (List.mem_cons_of_mem _ (List.mem_map.2 ⟨t,og ht,rfl⟩)))⟩
theorem c8.blt {w:World} {g0:Nat} {tags:List (Nat×Nat)} {m:List (List Rat)} (h:c8 w g0 tags m) {b:Nat} (hb:dA g0 tags b):b<w.heap.size:=by
 rcases List.mem_cons.1 hb with rfl | hb;·exact h.lt
 ·obtain ⟨t,ht,rfl⟩:=List.mem_map.1 hb;obtain ⟨i,hi⟩:=List.getElem?_of_mem ht;have hl:i<m.length:=by rw [<- h.len];exact (od.1 hi).1
  exact (h.row i t m[i] hi (oc hl)).2.2.2.lt
theorem c8.ext {w w':World} {g0:Nat} {tags:List (Nat×Nat)} {m:List (List Rat)} (h:c8 w g0 tags m) (he:aA w w'):c8 w' g0 tags m :=
 h.same he.size fun b hb=>he.block b (h.blt hb)
theorem c8.grown {w w':World} {S:Nat->Prop} {g0:Nat} {tags:List (Nat×Nat)} {m:List (List Rat)} (h:c8 w g0 tags m) (hg:aH S w w') (hS:∀ b,dA g0 tags b->¬ S b):c8 w' g0 tags m :=
 h.same hg.size fun b hb=>hg.block b (h.blt hb) (hS b hb)
theorem c8.get {w:World} {g0:Nat} {tags:List (Nat×Nat)} {m:List (List Rat)} (h:c8 w g0 tags m) {i:Nat} {r:List Rat} (hr:m[i]?=some r) :
  ∃ t,tags[i]?=some t/\w.cell? ⟨g0,i,none⟩=some (.slice (some ⟨t.1,0,none⟩) r.length t.2)/\r.length<=t.2/\t.2<=9223372036854775807/\d_ w t.1 r/\t.1≠g0/\dA g0 tags t.1:=by
 have hi:=(od.1 hr).1;have hl:i<tags.length:=by rw [h.len];exact hi
 have:=h.row i tags[i] r (oc hl) hr;refine ⟨tags[i],oc hl,this.1,this.2.1,this.2.2.1,this.2.2.2,?_,List.mem_cons_of_mem _ (List.mem_map.2 ⟨tags[i],List.getElem_mem hl,rfl⟩)⟩;have hn:=(List.nodup_cons.1 h.nodup).1;intro e2;exact hn (List.mem_map.2 ⟨tags[i],List.getElem_mem hl,e2⟩)
theorem c8.apart {w:World} {g0:Nat} {tags:List (Nat×Nat)} {m:List (List Rat)} (h:c8 w g0 tags m) {i j:Nat} {s t:Nat×Nat} (hs:tags[i]?=some s) (ht:tags[j]?=some t) (qH:i≠j):s.1≠t.1:=by
 have hn:=(List.nodup_cons.1 h.nodup).2;intro e;have h1:(tags.map (·.1))[i]?=some s.1:=by rw [oh,hs];rfl
 have h2:(tags.map (·.1))[j]?=some s.1:=by rw [oh,ht,e];rfl
 obtain ⟨l1,e1⟩:=od.1 h1;obtain ⟨l2,e2⟩:=od.1 h2;exact qH ((List.getElem_inj hn).1 (e1.trans e2.symm))
theorem c8.setRow {w w':World} {g0:Nat} {tags:List (Nat×Nat)} {m:List (List Rat)} (h:c8 w g0 tags m) {i:Nat} {t:Nat×Nat} {r r0:List Rat} (ht:tags[i]?=some t) (wU:m[i]?=some r0) (hr:r.length=r0.length) (hg:aH (·=t.1) w w') (hR:d_ w' t.1 r):c8 w' g0 tags (m.set i r):=by
 have hi:=(od.1 wU).1;obtain ⟨t',vj,-,-,-,-,hne,-⟩:=h.get wU;obtain rfl:t'=t:=o5 (vj.symm.trans ht);have h0:=hg.block g0 h.lt (fun e=>hne e.symm);refine ⟨by rw [List.length_set];exact h.len,ov h.lt hg.size,fun j=>(Z7_ h0 j).trans (h.free j),fun j s q hs hq=>?_,h.nodup⟩;rw [pH] at hq;by_cases hj:i=j
 ·subst hj;rw [if_pos rfl,if_pos hi] at hq;cases hq;obtain rfl:s=t':=o5 (hs.symm.trans ht);obtain ⟨h1,h2,h3,h4⟩:=h.row i s r0 hs wU;rw [<- hr] at h1 h2;exact ⟨(mO h0 i).trans h1,h2,h3,hR⟩
 ·rw [if_neg hj] at hq;obtain ⟨h1,h2,h3,h4⟩:=h.row j s q hs hq;exact ⟨(mO h0 j).trans h1,h2,h3,h4.grown hg (h.apart hs ht (fun e=>hj e.symm))⟩
def b8 {α:Type} (l:List α) (i j:Nat):List α:=match l[i]?,l[j]? with
 | some a,some b=>(l.set i b).set j a
 | _,_=>l
theorem nB {α:Type} (l:List α) (i j:Nat):(b8 l i j).length=l.length:=by
 unfold b8;split <;> simp
theorem iw {α:Type} {l:List α} {i j:Nat} {a b:α} (hi:l[i]?=some a) (hj:l[j]?=some b) (k:Nat):(b8 l i j)[k]?=if k=j then some a else if k=i then some b else l[k]?:=by
 have h1:=(od.1 hi).1;have h2:=(od.1 hj).1;unfold b8;rw [hi,hj];show ((l.set i b).set j a)[k]?=_;rw [pH,pH,List.length_set];by_cases e1:j=k;·subst e1;simp [h2]
 ·by_cases e2:i=k;·subst e2;simp [e1,h1,Ne.symm e1]
  ·simp [e1,e2,Ne.symm e1,Ne.symm e2]
theorem Z6H {α β:Type} (f:α->β) (l:List α) (i j:Nat):(b8 l i j).map f=b8 (l.map f) i j:=by
 unfold b8;rw [oh,oh];cases l[i]? <;> cases l[j]? <;> simp [List.map_set]
theorem Z3V {α:Type} {l:List α} (h:l.Nodup) (i j:Nat):(b8 l i j).Nodup:=by
 by_cases hb:i<l.length/\j<l.length
 ·obtain ⟨h1,h2⟩:=hb;have hi:l[i]?=some l[i]:=oc h1;have hj:l[j]?=some l[j]:=oc h2;have inj:∀ p q,p<l.length->q<l.length->l[p]?=l[q]?->p=q:=by
   intro p q hp hq e;rw [oc hp,oc hq] at e;exact (List.getElem_inj h).1 (o5 e)
  refine List.pairwise_iff_getElem.2 fun p q hp0 tl yS e0=>?_;have e:(b8 l i j)[p]?=(b8 l i j)[q]?:=by rw [oc hp0,oc tl,e0]
  have hq:q<l.length:=by rw [nB] at tl;exact tl
  rw [iw hi hj,iw hi hj,<- hi,<- hj] at e;have hp:p<l.length:=by omega
  have rQ:∀ k,(if k=j then l[i]? else if k=i then l[j]? else l[k]?)=l[if k=j then i else if k=i then j else k]?:=by
   intro k;by_cases a:k=j;·rw [if_pos a,if_pos a]
   ·rw [if_neg a,if_neg a];by_cases b:k=i;·rw [if_pos b,if_pos b]
    ·rw [if_neg b,if_neg b]
  have hsl:∀ k,k<l.length->(if k=j then i else if k=i then j else k)<l.length:=by
   intro k hk;by_cases a:k=j;·rw [if_pos a];exact h1
   ·rw [if_neg a];by_cases b:k=i;·rw [if_pos b];exact h2
    ·rw [if_neg b];exact hk
  rw [rQ,rQ] at e;have e2:=inj _ _ (hsl p hp) (hsl q hq) e;have key:∀ k,(if k=j then i else if k=i then j else k)=i/\k=j\/(if k=j then i else if k=i then j else k)=j/\k=i\/(if k=j then i else if k=i then j else k)=k/\k≠j/\k≠i:=by
   intro k;by_cases a:k=j;·left;exact ⟨if_pos a,a⟩
   ·by_cases b:k=i;·right;left;exact ⟨by rw [if_neg a,if_pos b],b⟩
    ·right;right;exact ⟨by rw [if_neg a,if_neg b],a,b⟩
  have kp:=key p;have kq:=key q;generalize (if p=j then i else if p=i then j else p)=P at *
  generalize (if q=j then i else if q=i then j else q)=Q at *
  omega
 ·have:b8 l i j=l:=by
   unfold b8;by_cases h1:i<l.length;·rw [oc h1,o4 (show l.length<=j by omega)]
   ·rw [o4 (show l.length<=i by omega)]
  rw [this];exact h
theorem c8.swap {w:World} {g0:Nat} {tags:List (Nat×Nat)} {m:List (List Rat)} (h:c8 w g0 tags m) {i j:Nat} {s t:Nat×Nat} {p q:List Rat} (hs:tags[i]?=some s) (ht:tags[j]?=some t) (hp:m[i]?=some p) (hq:m[j]?=some q) :
  c8 ((w.setCell ⟨g0,i,none⟩ (.slice (some ⟨t.1,0,none⟩) q.length t.2)).setCell ⟨g0,j,none⟩ (.slice (some ⟨s.1,0,none⟩) p.length s.2)) g0 (b8 tags i j) (b8 m i j):=by
 have hgr:aH (·=g0) w ((w.setCell ⟨g0,i,none⟩ (.slice (some ⟨t.1,0,none⟩) q.length t.2)).setCell ⟨g0,j,none⟩ (.slice (some ⟨s.1,0,none⟩) p.length s.2)):=((aH.refl (·=g0) w).store (S:=(·=g0)) rfl _ _).store (S:=(·=g0)) rfl _ _;have ci:=(h.row i s p hs hp).1;have cj:=(h.row j t q ht hq).1;refine ⟨by rw [nB,nB];exact h.len,by rw [g_,g_];exact h.lt,fun k=>by rw [nx,nx];exact h.free k,fun k u r hu hr=>?_,?_⟩
 ·rw [iw hs ht] at hu;rw [iw hp hq] at hr;have hrow:∀ (k:Nat) u r,tags[k]?=some u->m[k]?=some r->d_ ((w.setCell ⟨g0,i,none⟩ (.slice (some ⟨t.1,0,none⟩) q.length t.2)).setCell ⟨g0,j,none⟩ (.slice (some ⟨s.1,0,none⟩) p.length s.2)) u.1 r:=by
   intro k u r hu hr;obtain ⟨u',Km,-,-,-,hR,hne,-⟩:=h.get hr;obtain rfl:u'=u:=o5 (Km.symm.trans hu);exact hR.grown hgr hne
  by_cases e1:k=j
  ·subst e1;rw [if_pos rfl] at hu hr;cases hu;cases hr;obtain ⟨_,h2,h3,_⟩:=h.row i s p hs hp;refine ⟨?_,h2,h3,hrow i s p hs hp⟩;by_cases e2:i=k
   ·subst e2;exact World.cell?_setCell_same _ _ _ (World.cell?_setCell_same w _ _ ci)
   ·exact World.cell?_setCell_same _ _ _ ((World.cell?_setCell_other _ _ _ _ (by intro e;simp only [Addr.mk.injEq] at e;omega)).trans cj)
  ·rw [if_neg e1] at hu hr;by_cases e2:k=i
   ·subst e2;rw [if_pos rfl] at hu hr;cases hu;cases hr;obtain ⟨_,h2,h3,_⟩:=h.row j t q ht hq;refine ⟨?_,h2,h3,hrow j t q ht hq⟩;rw [World.cell?_setCell_other _ _ _ _ (by intro e;simp only [Addr.mk.injEq] at e;omega)];exact World.cell?_setCell_same w _ _ ci
   ·rw [if_neg e2] at hu hr;obtain ⟨h1,h2,h3,_⟩:=h.row k u r hu hr;refine ⟨?_,h2,h3,hrow k u r hu hr⟩;rw [World.cell?_setCell_other _ _ _ _ (by intro e;simp only [Addr.mk.injEq] at e;omega),World.cell?_setCell_other _ _ _ _ (by intro e;simp only [Addr.mk.injEq] at e;omega)];exact h1
 ·have hn:=List.nodup_cons.1 h.nodup;rw [Z6H];refine List.nodup_cons.2 ⟨?_,Z3V hn.2 i j⟩;intro hm;refine hn.1 ?_;obtain ⟨k,hk⟩:=List.getElem?_of_mem hm;have a1:(tags.map (·.1))[i]?=some s.1:=by rw [oh,hs];rfl
  have a2:(tags.map (·.1))[j]?=some t.1:=by rw [oh,ht];rfl
  rw [iw a1 a2] at hk;by_cases e1:k=j;·rw [if_pos e1] at hk;cases hk;exact og a1
  ·rw [if_neg e1] at hk;by_cases e2:k=i;·rw [if_pos e2] at hk;cases hk;exact og a2
   ·rw [if_neg e2] at hk;exact og hk
theorem y7_ {g0:Nat} {tags:List (Nat×Nat)} {i j b:Nat} {s t:Nat×Nat} (hs:tags[i]?=some s) (ht:tags[j]?=some t):dA g0 (b8 tags i j) b↔dA g0 tags b:=by
 have key:∀ x:Nat×Nat,x∈b8 tags i j↔x∈tags:=by
  intro x;constructor
  ·intro hm;obtain ⟨k,hk⟩:=List.getElem?_of_mem hm;rw [iw hs ht] at hk;by_cases e1:k=j;·rw [if_pos e1] at hk;cases hk;exact og hs
   ·rw [if_neg e1] at hk;by_cases e2:k=i;·rw [if_pos e2] at hk;cases hk;exact og ht
    ·rw [if_neg e2] at hk;exact og hk
  ·intro hm;obtain ⟨k,hk⟩:=List.getElem?_of_mem hm;by_cases e1:k=i
   ·subst e1;rw [hs] at hk;cases hk;exact og (by rw [iw hs ht,if_pos rfl]:(b8 tags k j)[j]?=some s)
   ·by_cases e2:k=j
    ·subst e2;rw [ht] at hk;cases hk;exact og (by rw [iw hs ht,if_neg (Ne.symm e1),if_pos rfl]:(b8 tags i k)[i]?=some t)
    ·exact og (by rw [iw hs ht,if_neg e2,if_neg e1];exact hk:(b8 tags i j)[k]?=some x)
 unfold dA;simp only [List.mem_cons,List.mem_map,key]
structure iG (α:Type) where
 R:World->Nat->List α->Prop
 lt:∀ {w g r},R w g r->g<w.heap.size
 same:∀ {w w' g r},R w g r->w.heap.size<=w'.heap.size->w'.heap[g]?=w.heap[g]?->R w' g r
def jW:iG Rat:=⟨d_,fun h=>h.lt,fun h hs hg=>h.same hs hg⟩
structure fK (w:World) (g:Nat) (xs:pN):Prop where
 lt:g<w.heap.size
 cell:∀ (j:Nat) x,xs[j]?=some x->w.cell? ⟨g,j,none⟩=some (.int .i64 x)
 free:∀ j,w.frozen? ⟨g,j,none⟩=false
theorem fK.same {w w':World} {g:Nat} {xs:pN} (h:fK w g xs) (hs:w.heap.size<=w'.heap.size) (hg:w'.heap[g]?=w.heap[g]?):fK w' g xs :=
 ⟨ov h.lt hs,fun j x hx=>(mO hg _).trans (h.cell j x hx),fun j=>(Z7_ hg j).trans (h.free j)⟩
def Z7u:iG Int:=⟨fK,fun h=>h.lt,fun h hs hg=>h.same hs hg⟩
def ja (t:Nat×Nat) (n:Nat):Value:=.slice (some ⟨t.1,0,none⟩) n t.2
def iz {α:Type} (tags:List (Nat×Nat)) (m:List (List α)):List Value:=List.zipWith (fun t r=>ja t r.length) tags m
structure bu {α:Type} (K:iG α) (e:TypeId) (w:World) (ob base:Nat) (v:Value) (tags:List (Nat×Nat)) (m:List (List α)):Prop where
 len:tags.length=m.length
 own:w.ownsRow ob e 1 v m.length (iz tags m)
 row:∀ (i:Nat) t r,tags[i]?=some t->m[i]?=some r->r.length<=t.2/\t.2<=9223372036854775807/\K.R w t.1 r/\base<=t.1/\v.ownBlock≠some t.1
 nodup:(tags.map (·.1)).Nodup
theorem Z3W {α:Type} {tags:List (Nat×Nat)} {m:List (List α)} (h:tags.length=m.length):(iz tags m).length=m.length:=by
 unfold iz;rw [List.length_zipWith,h];omega
theorem bu.nil {α:Type} (K:iG α) (e:TypeId) (w:World) (ob base:Nat):bu K e w ob base (.slice none 0 0) [] [] :=
 ⟨rfl,World.ownsRow_nil _ _ _ _,by intro i t r h;simp at h,by simp⟩
theorem bu.ext {α:Type} {K:iG α} {e:TypeId} {w w':World} {ob base:Nat} {v:Value} {tags:List (Nat×Nat)} {m:List (List α)} (h:bu K e w ob base v tags m) (he:aA w w'):bu K e w' ob base v tags m :=
 ⟨h.len,et h.own he,fun i t r ht hr=>by
  obtain ⟨h1,h2,h3,h4,h5⟩:=h.row i t r ht hr
  exact ⟨h1,h2,K.same h3 he.size (he.block _ (K.lt h3)),h4,h5⟩,h.nodup⟩
theorem bu.fresh {α:Type} {K:iG α} {e:TypeId} {w:World} {ob base:Nat} {v:Value} {tags:List (Nat×Nat)} {m:List (List α)} (h:bu K e w ob base v tags m) {b:Nat} (hb:b∈tags.map (·.1)):base<=b/\b<w.heap.size:=by
 obtain ⟨t,ht,rfl⟩:=List.mem_map.1 hb;obtain ⟨i,hi⟩:=List.getElem?_of_mem ht;have hl:i<m.length:=by rw [<- h.len];exact (od.1 hi).1
 obtain ⟨h1,h2,h3,h4,h5⟩:=h.row i t m[i] hi (oc hl);exact ⟨h4,K.lt h3⟩
theorem bu.snoc {α:Type} {K:iG α} {e:TypeId} {w w':World} {ob base:Nat} {v v':Value} {tags:List (Nat×Nat)} {m:List (List α)} (h:bu K e w ob base v tags m) (t:Nat×Nat) (r:List α) (qm:r.length<=t.2) (pn:t.2<=9223372036854775807) (hR:K.R w t.1 r) (hb:base<=t.1) (hv:v.ownBlock≠some t.1) (hn:t.1∉tags.map (·.1))
  (hown:w'.ownsRow ob e 1 v' (m.length+1) (iz tags m++[ja t r.length])) (hg:w.grownBy w' v.ownBlock) (qb:v'.ownBlock=v.ownBlock\/∃ b,v'.ownBlock=some b/\w.heap.size<=b) :
  bu K e w' ob base v' (tags++[t]) (m++[r]):=by
 have pw:∀ (s:Nat×Nat) q,K.R w s.1 q->v.ownBlock≠some s.1->K.R w' s.1 q/\v'.ownBlock≠some s.1:=fun s q hs vi=>by
  refine ⟨K.same hs hg.size (hg.block s.1 (K.lt hs) vi.symm),fun e=>?_⟩;rcases qb with e2 | ⟨b,e2,e3⟩
  ·exact vi (e2.symm.trans e)
  ·rw [e2] at e;cases e;have:=K.lt hs;omega
 refine ⟨by simp [h.len],?_,fun i s q hs hq=>?_,?_⟩
 ·have e:iz (tags++[t]) (m++[r])=iz tags m++[ja t r.length]:=by
   unfold iz;rw [List.zipWith_append h.len];rfl
  rw [e,pG];exact hown
 ·by_cases hi:i<tags.length
  ·rw [o6 hi] at hs;rw [o6 (by rw [<- h.len];exact hi)] at hq;obtain ⟨h1,h2,h3,h4,h5⟩:=h.row i s q hs hq;obtain ⟨k1,k2⟩:=pw s q h3 h5;exact ⟨h1,h2,k1,h4,k2⟩
  ·rw [o8 (by omega)] at hs;rw [o8 (by rw [<- h.len];omega)] at hq;have e1:i-tags.length=0:=(by have:=(od.1 hs).1;simp at this;omega);have e2:i-m.length=0:=(by rw [<- h.len];exact e1);rw [e1] at hs;rw [e2] at hq;simp only [o_,Option.some.injEq] at hs hq;subst hs;subst hq;obtain ⟨k1,k2⟩:=pw t r hR hv;exact ⟨qm,pn,k1,hb,k2⟩
 ·rw [List.map_append,List.nodup_append];refine ⟨h.nodup,by simp,?_⟩;intro a ha b hb2 e;simp only [List.map_cons,List.map_nil,List.mem_singleton] at hb2;subst e;subst hb2;exact hn ha
theorem bu.parts {α:Type} {K:iG α} {e:TypeId} {w:World} {ob base:Nat} {g cap:Nat} {tags:List (Nat×Nat)} {m:List (List α)} (h:bu K e w ob base (.slice (some ⟨g,0,none⟩) m.length cap) tags m) :
  ob<=g/\g<w.heap.size/\(∀ j,w.frozen? ⟨g,j,none⟩=false)/\(∀ (i:Nat) t r,tags[i]?=some t->m[i]?=some r->w.cell? ⟨g,i,none⟩=some (.slice (some ⟨t.1,0,none⟩) r.length t.2)/\r.length<=t.2/\t.2<=9223372036854775807/\K.R w t.1 r)/\(g::tags.map (·.1)).Nodup/\m.length<=cap/\cap<=9223372036854775807:=by
 have hc:=h.own.cells (g:=g) (by simp [Value.ownBlock]);have hf:=fun j=>h.own.frozenAt j;rcases h.own.2 with ⟨hv,_⟩ | ⟨g',cap',cur,hv,hb,hg,h1,h2,h3,h4⟩
 ·simp at hv
 ·simp only [Value.slice.injEq,Option.some.injEq,Addr.mk.injEq] at hv;obtain ⟨⟨rfl,-,-⟩,-,rfl⟩:=hv;refine ⟨hb,(Array.getElem?_eq_some_iff.1 hg).1,fun j=>hf j,fun i t r ht hr=>?_,?_,h1,h2⟩
  ·obtain ⟨k1,k2,k3,k4,k5⟩:=h.row i t r ht hr;refine ⟨?_,k1,k2,k3⟩;have:=hc i (ja t r.length) (by unfold iz;rw [List.getElem?_zipWith,ht,hr]);rw [show (⟨g,0,none⟩:Addr).add i=⟨g,i,none⟩ by unfold Addr.add;split <;> simp_all] at this;exact this
  ·rw [List.nodup_cons];refine ⟨fun hm=>?_,h.nodup⟩;obtain ⟨t,ht,rfl⟩:=List.mem_map.1 hm;obtain ⟨i,hi⟩:=List.getElem?_of_mem ht;have hl:i<m.length:=(by rw [<- h.len];exact (od.1 hi).1);exact (h.row i t m[i] hi (oc hl)).2.2.2.2 rfl
theorem bu.matQ {e:TypeId} {w:World} {ob base:Nat} {g cap:Nat} {tags:List (Nat×Nat)} {m:List (List Rat)} (h:bu jW e w ob base (.slice (some ⟨g,0,none⟩) m.length cap) tags m) (hob:base<=ob) :
  c8 w g tags m/\m.length<=cap/\cap<=9223372036854775807/\∀ b,dA g tags b->base<=b:=by
 obtain ⟨h1,h2,h3,h4,h5,h6,h7⟩:=h.parts;refine ⟨⟨h.len,h2,h3,h4,h5⟩,h6,h7,fun b hb=>?_⟩;rcases List.mem_cons.1 hb with rfl | hb;·exact ow hob h1
 ·exact (h.fresh hb).1
theorem U4_ {α:Type} {K:iG α} {e:TypeId} {T2:TypeId} (zz:prog.underlying T2=some (TypeDesc.slice e)) (qG:(prog.info? e).map (fun i=>(i.zero,i.size,i.bytes))=some (some (.slice none 0 0),1,24)) (w:World) {o:Oper} {a:Act} {Q:Exit->Act->World->Prop} {L:Act->World->Prop}
  (s x:Operand) (ho:o.op=Op.call { callee:=Callee.builtin Builtin.append,args:=#[s,x],argTypes:=#[T2,T2] }) (ob base:Nat)
  (v:Value) (tags:List (Nat×Nat)) (m:List (List α)) (t:Nat×Nat) (r:List α) (u:Array Value) (T:TypeId) (hs:a.eval s=v) (hB:bu K e w ob base v tags m)
  (hx:a.eval x=.slice (some ⟨w.heap.size,0,none⟩) 1 1) (hu:u=#[ja t r.length]) (qm:r.length<=t.2) (pn:t.2<=9223372036854775807) (hR:K.R w t.1 r) (hb:base<=t.1) (hv:v.ownBlock≠some t.1) (hn:t.1∉tags.map (·.1))
  (hlen:m.length<1000000) (pX:ob<=w.heap.size)
  (h:∀ v' w',bu K e w' ob base v' (tags++[t]) (m++[r])->Below ob w w'->Hid (∃ g c,v'=.slice (some ⟨g,0,none⟩) (m.length+1) c)->L (a.put o.dst v') w') :
  Oper.wp prog o a (w.alloc (.cells u T)) L Q:=by
 subst hu;obtain ⟨i0,hi,hz,pZ,qK⟩:=info_parts qG;have py:∀ j,(⟨w.heap.size,0,none⟩:Addr).add j=⟨w.heap.size,j,none⟩:=by intro j;unfold Addr.add;split <;> simp_all
 have hE:aA w (w.alloc (.cells #[ja t r.length] T)):=aA.alloc _ _;refine iR (w.alloc (.cells #[ja t r.length] T)) s x T2 ho ob e i0 (.slice none 0 0) 1 24 zz hi hz pZ qK rfl (by decide) v m.length (iz tags m) hs (et hB.own hE) ⟨w.heap.size,0,none⟩ 1 1 [ja t r.length] hx rfl ?_ ?_ ?_ ?_ ?_ ?_
 ·intro j q hq;rw [py,World.cell?_alloc_new];simpa using hq
 ·intro u hu;rw [List.mem_singleton.1 hu];rfl
 ·unfold maxLen;omega
 ·omega
 ·simp;omega
 ·intro v' w' hown pQ _ qb
  have hLB:=(hB.ext hE).snoc t r qm pn (K.same hR hE.size (hE.block _ (K.lt hR))) hb hv hn hown pQ (by
   rcases qb with h1 | h1;·exact .inl h1
   ·exact .inr ⟨_,h1,oz _⟩)
  refine h v' w' hLB ?_ ?_
  ·have qP:w.grownBy w' v.ownBlock:=gO (hE.grown _) pQ;refine ⟨qP.os,qP.tape,qP.output,qP.size,fun b hb2=>qP.block b (by omega) ?_⟩;intro e;have:=(hB.own.lt b e.symm).1;omega
  ·obtain ⟨g,c,tU,-⟩:=eu hown (by omega);exact ⟨g,c,tU⟩
theorem R3_ {α:Type} {K:iG α} {e:TypeId} {T2:TypeId} (zz:prog.underlying T2=some (TypeDesc.slice e)) (qG:(prog.info? e).map (fun i=>(i.zero,i.size,i.bytes))=some (some (.slice none 0 0),1,24)) (w:World) {ops:Array Oper} {rest:List Oper} {o:Oper} {a:Act} {Q:Exit->Act->World->Prop} (qj:o.guard=none)
  (s x:Operand) (ho:o.op=Op.call { callee:=Callee.builtin Builtin.append,args:=#[s,x],argTypes:=#[T2,T2] }) (ob base:Nat)
  (v:Value) (tags:List (Nat×Nat)) (m:List (List α)) (t:Nat×Nat) (r:List α) (u:Array Value) (T:TypeId) (hs:a.eval s=v) (hB:bu K e w ob base v tags m)
  (hx:a.eval x=.slice (some ⟨w.heap.size,0,none⟩) 1 1) (hu:u=#[ja t r.length]) (qm:r.length<=t.2) (pn:t.2<=9223372036854775807) (hR:K.R w t.1 r) (hb:base<=t.1) (hv:v.ownBlock≠some t.1) (hn:t.1∉tags.map (·.1))
  (hlen:m.length<1000000) (pX:ob<=w.heap.size)
  (h:∀ v' w',bu K e w' ob base v' (tags++[t]) (m++[r])->Below ob w w'->Hid (∃ g c,v'=.slice (some ⟨g,0,none⟩) (m.length+1) c)->wpList prog ops Q rest (a.put o.dst v') w') :
  wpList prog ops Q (o::rest) a (w.alloc (.cells u T)) :=
 wpList_plain qj fun _ hK=>U4_ zz qG w s x ho ob base v tags m t r u T hs hB hx hu qm pn hR hb hv hn hlen pX fun v' w' a1 a2 a3=>hK _ _ (h v' w' a1 a2 a3)
end Go.Proofs.YtoonaddcfakamaaGreatDoor
