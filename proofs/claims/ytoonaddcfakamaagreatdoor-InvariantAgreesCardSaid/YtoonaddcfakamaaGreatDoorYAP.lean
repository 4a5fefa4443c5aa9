import Derived.Test.YtoonaddcfakamaaGreatDoorYAO
import Derived.Test.YtoonaddcfakamaaGreatDoorYAA
import Derived.Laws.AppendOwnNone
set_option linter.unusedVariables false
set_option linter.unusedSimpArgs false
set_option maxRecDepth 1000000
set_option maxHeartbeats 8000000
namespace Go.Proofs.YtoonaddcfakamaaGreatDoor
open Go.RowKit Go.Proofs.Tryz
theorem Z0f (x y:Rat):Rat.divInt (x.num*(y.den:Int)+y.num*(x.den:Int)) ((x.den:Int)*(y.den:Int))=x+y:=by
 rw [Rat.add_def',<- Int.natCast_mul];rfl
theorem j5_ (x y:Rat) (hx:x.den=1) (hy:y.den=1):(x+y).num=x.num+y.num/\(x+y).den=1:=by
 rw [Rat.add_def',hx,hy];obtain ⟨h1,h2⟩:=X1_ (x.num*((1:Nat):Int)+y.num*((1:Nat):Int)) (1*1) (by omega);rw [h1,h2];simp
theorem Z0c (x y:Rat) (w:World) (hx:RS 12000 x) (hy:RS 12000 y) (ht:aZ w) :
  oL 339 #[bN x,bN y] w (bN (x+y)):=by
 have HT:=np ht;clear ht;obtain ⟨W1,oZ,hE1,hs1,hb1⟩:=dF w (.string (aB x.num)) (.string (aE x.den)) 246;obtain ⟨W2,pg,hE2,hs2,oY⟩:=dF W1 (.string (aB y.num)) (.string (aE y.den)) 246;obtain ⟨W3,rO,oT,hs3,ot⟩:=dF W2 (.string ⟨#[]⟩) (.string ⟨#[]⟩) 246;have hb1':=aF hb1 (hE2.trans oT);have hb2':=aF oY oT;have HE:=np ((hE1.trans hE2).trans oT);have HR:Hid (w.heap.size<=W2.heap.size):=by unfold Hid;omega
 have HN1:Hid (w.heap.size≠W2.heap.size):=by unfold Hid;omega
 have pY:Hid (W1.heap.size≠W2.heap.size):=by unfold Hid;omega
 have HC:Hid (∀ W,aA W3 W->W.cell? ⟨w.heap.size,0,none⟩=some (.string (aB x.num))/\W.cell? ⟨w.heap.size,1,none⟩=some (.string (aE x.den))/\W.cell? ⟨W1.heap.size,0,none⟩=some (.string (aB y.num))/\W.cell? ⟨W1.heap.size,1,none⟩=some (.string (aE y.den))/\W.cell? ⟨W2.heap.size,0,none⟩=some (.string ⟨#[]⟩)/\W.cell? ⟨W2.heap.size,1,none⟩=some (.string ⟨#[]⟩)/\W.frozen? ⟨W2.heap.size,0,none⟩=false/\W.frozen? ⟨W2.heap.size,1,none⟩=false/\W.heap[W2.heap.size]?=some (.cells #[.string ⟨#[]⟩,.string ⟨#[]⟩] 246 (0,0))):=fun W hW=>by
  obtain ⟨a0,a1,-⟩:=cw (aF hb1' hW);obtain ⟨b0,b1,-⟩:=cw (aF hb2' hW);obtain ⟨c0,c1,cf⟩:=cw (aF ot hW);exact ⟨a0,a1,b0,b1,c0,c1,cf 0,cf 1,aF ot hW⟩
 have HB1:Hid (∀ W,Calls prog 336 #[bN x] W fun e w'=>∃ a b,e=.returned (.tuple #[.int .i64 a,.int .i64 b,.bool (decide ((aB x.num).size<=9) && decide ((aE x.den).size<=9))])/\Hid ((aB x.num).size<=9/\(aE x.den).size<=9->a=x.num/\b=x.den)/\aA W w'):=fun W=>T9_ x W;have HB2:Hid (∀ W,Calls prog 336 #[bN y] W fun e w'=>∃ a b,e=.returned (.tuple #[.int .i64 a,.int .i64 b,.bool (decide ((aB y.num).size<=9) && decide ((aE y.den).size<=9))])/\Hid ((aB y.num).size<=9/\(aE y.den).size<=9->a=y.num/\b=y.den)/\aA W w'):=fun W=>T9_ y W;obtain ⟨bx,hbx⟩:=oO ((decide ((aB x.num).size<=9) && decide ((aE x.den).size<=9)));obtain ⟨by',pX⟩:=oO ((decide ((aB y.num).size<=9) && decide ((aE y.den).size<=9)));rw [<- hbx] at HB1;rw [<- pX] at HB2;have HBX:Hid (bx=true->(aB x.num).size<=9/\(aE x.den).size<=9):=by
  intro h;rw [hbx,Bool.and_eq_true,decide_eq_true_iff,decide_eq_true_iff] at h;exact h
 have yT:Hid (by'=true->(aB y.num).size<=9/\(aE y.den).size<=9):=by
  intro h;rw [pX,Bool.and_eq_true,decide_eq_true_iff,decide_eq_true_iff] at h;exact h
 have h3:=hx.1;have h4:=hx.2;have h5:=hy.1;have h6:=hy.2;have tq:∀ W,aA w W->Calls prog 66 #[.string (aB x.num),.string (aE y.den)] W fun e w'=>e=.returned (.string (aB (x.num*(y.den:Int))))/\aA W w':=fun W hW=>by
  have:=jv x.num (y.den:Int) W (by omega) (by rw [eb];omega) (HT.ext hW);rw [eb] at this;exact this
 have qR:∀ W,aA w W->Calls prog 66 #[.string (aB y.num),.string (aE x.den)] W fun e w'=>e=.returned (.string (aB (y.num*(x.den:Int))))/\aA W w':=fun W hW=>by
  have:=jv y.num (x.den:Int) W (by omega) (by rw [eb];omega) (HT.ext hW);rw [eb] at this;exact this
 have wI:∀ W,aA w W->Calls prog 66 #[.string (aE x.den),.string (aE y.den)] W fun e w'=>e=.returned (.string (aB ((x.den:Int)*(y.den:Int))))/\aA W w':=fun W hW=>by
  have:=jv (x.den:Int) (y.den:Int) W (by rw [eb];omega) (by rw [eb];omega) (HT.ext hW);rw [eb,eb] at this;exact this
 have s1:=jr x.num (y.den:Int);have s2:=jr y.num (x.den:Int);have s3:=jr (x.den:Int) (y.den:Int);rw [eb y.den] at s1;rw [eb x.den] at s2;rw [eb x.den,eb y.den] at s3;have s4:=r7_ (x.num*(y.den:Int)) (y.num*(x.den:Int));have hA:∀ W,aA w W->Calls prog 116 #[.string (aB (x.num*(y.den:Int))),.string (aB (y.num*(x.den:Int)))] W fun e w'=>e=.returned (.string (aB (x.num*(y.den:Int)+y.num*(x.den:Int))))/\aA W w':=fun W hW=>M1_ _ _ W (by omega) (by omega) (HT.ext hW);have hL:∀ W,aA w W->Calls prog 338 #[.string (aB (x.num*(y.den:Int)+y.num*(x.den:Int))),.string (aB ((x.den:Int)*(y.den:Int)))] W fun e w'=>e=.returned (bN (x+y))/\aA W w':=fun W hW=>by
  rw [<- Z0f];exact Q9_ _ _ W (by rw [<- Int.natCast_mul];have:=Nat.mul_ne_zero x.den_nz y.den_nz;omega) (by omega) (by omega) (HT.ext hW)
 have hS:∀ W,aA w W->Calls prog 116 #[.string (aB x.num),.string (aB y.num)] W fun e w'=>e=.returned (.string (aB (x.num+y.num)))/\aA W w':=fun W hW=>M1_ _ _ W (by omega) (by omega) (HT.ext hW);have HM1:=np tq;have HM2:=np qR;have HM3:=np wI;have HA:=np hA;have HL:=np hL;have HS:=np hS;have HOF:Hid ((aB x.num).size<=9/\(aE x.den).size<=9->(aB y.num).size<=9/\(aE y.den).size<=9->∃ (p1 p2 q:Int),x.num*(y.den:Int)=p1/\y.num*(x.den:Int)=p2/\(x.den:Int)*(y.den:Int)=q/\-1000000000000000000<=p1/\p1<=1000000000000000000/\-1000000000000000000<=p2/\p2<=1000000000000000000/\-1000000000000000000<=q/\q<=1000000000000000000/\∀ W,aA w W->oL 337 #[.int .i64 (p1+p2),.int .i64 q] W (bN (x+y))):=by
  intro h1 h2;have a1:=jM h1.1;have a2:=jM (n:=(x.den:Int)) (by rw [eb];exact h1.2);have a3:=jM h2.1;have a4:=jM (n:=(y.den:Int)) (by rw [eb];exact h2.2);have m1:=ln a1.1 a1.2 a4.1 a4.2 (by omega) (by omega);have m2:=ln a3.1 a3.2 a2.1 a2.2 (by omega) (by omega);have m3:=ln a2.1 a2.2 a4.1 a4.2 (by omega) (by omega);refine ⟨_,_,_,rfl,rfl,rfl,by omega,by omega,by omega,by omega,by omega,by omega,fun W hW=>?_⟩;have E1:0<x.den*y.den:=Nat.mul_pos x.den_pos y.den_pos;rw [<- Int.natCast_mul] at m3 |-;have:=Z1b (x.num*(y.den:Int)+y.num*(x.den:Int)) (x.den*y.den) W (by omega) (by omega) E1 (by omega) (HT.ext hW);rw [Rat.add_def'];exact this
 have ho1:=j1_ x.den;have ho2:=j1_ y.den;have wV:Hid (x.den=1->y.den=1->aB (x.num+y.num)=aB (x+y).num/\aE (x+y).den=⟨#[49]⟩):=fun h1 h2=>by
  obtain ⟨e1,e2⟩:=j5_ x y h1 h2;rw [e1,e2];exact ⟨rfl,by unfold aE;rw [Lib.decDigits_one (by omega)];rfl⟩
 have pI:∀ q:Rat,bN q=.agg #[.string (aB q.num),.string (aE q.den)]:=fun _=>rfl;obtain ⟨o1,yt⟩:=oO (decide (x.den=1));obtain ⟨o2,yq⟩:=oO (decide (y.den=1));rw [<- yt] at ho1;rw [<- yq] at ho2;have wU:Hid (o1=true->o2=true->x.den=1/\y.den=1):=fun h1 h2=>⟨of_decide_eq_true (yt▸h1),of_decide_eq_true (yq▸h2)⟩
 obtain ⟨Z,hZ⟩:=oO (x+y);rw [<- hZ] at HL HOF wV |-;rw [pI x] at HB1 |-;rw [pI y] at HB2 |-;rw [pI Z] at HL HOF |-;clear hE1 hE2 oT hs1 hs2 hs3 hb1 oY ot hb1' hb2' hbx pX tq qR wI hA hL hS pI hx hy h3 h4 h5 h6 s1 s2 s3 s4 yt yq hZ;obtain ⟨n1,o4⟩:=oO (aB x.num);obtain ⟨d1,qD⟩:=oO (aE x.den);obtain ⟨n2,pk⟩:=oO (aB y.num);obtain ⟨d2,pW⟩:=oO (aE y.den);obtain ⟨n4,hn4⟩:=oO (aB Z.num);obtain ⟨d4,re⟩:=oO (aE Z.den);obtain ⟨m1,ph⟩:=oO (aB (x.num*(y.den:Int)));obtain ⟨m2,qm⟩:=oO (aB (y.num*(x.den:Int)));obtain ⟨m3,tI⟩:=oO (aB ((x.den:Int)*(y.den:Int)));obtain ⟨m4,zu⟩:=oO (aB (x.num*(y.den:Int)+y.num*(x.den:Int)));obtain ⟨m5,ES⟩:=oO (aB (x.num+y.num));rw [<- o4,<- pW,<- ph] at HM1;rw [<- pk,<- qD,<- qm] at HM2;rw [<- qD,<- pW,<- tI] at HM3;rw [<- ph,<- qm,<- zu] at HA;rw [<- zu,<- tI,<- hn4,<- re] at HL;rw [<- o4,<- pk,<- ES] at HS;rw [<- ES,<- hn4,<- re] at wV;rw [<- hn4,<- re] at HOF |-;rw [<- o4,<- qD,<- pk,<- pW] at HC |-;rw [<- o4,<- qD] at oZ HB1 HBX HOF;rw [<- pk,<- pW] at pg HB2 yT HOF;rw [<- qD] at ho1;rw [<- pW] at ho2;clear o4 qD pk pW hn4 re ph qm tI zu ES;obtain ⟨c0,c1,c2,c3,c4,c5,c6,c7,cb⟩:=HC W3 (aA.refl _);by_cases q8:o1=true/\o2=true
 ·obtain ⟨h1,h2⟩:=q8;obtain ⟨k1,k2⟩:=wU h1 h2;obtain ⟨e5,e4⟩:=wV k1 k2;rw [h1] at ho1;rw [h2] at ho2;rw [e5] at HS;rw [e4];have I1:aU W2.heap.size W3:=⟨_,_,cb⟩;have HBL:=np I1;clear h1 h2 k1 k2 e5 e4 cb I1 HM1 HM2 HM3 HA HL HOF HB1 HB2 HBX yT wV wU
  go_enter func339,ntmps339
  go_wp2_with fail;refine (HS _ HE).mono ?_;rintro e w6 ⟨rfl,oU⟩;have HE6:=np (aA.trans HE oU);have z6:=np (HBL.ext oU);obtain ⟨r0,r1,t0,t1,f0,f1⟩:=z6.out.open;clear oU HS c0 c1 c2 c3 c4 c5 c6 c7;have hb7:=aU.res (x:=.string n4) (y:=.string ⟨#[49]⟩) z6.out;go_wp2_with fail;refine bodyPost_ret (results_cell_row (by rfl) _ _ W2.heap.size 246 #[.string n4,.string ⟨#[49]⟩] (0,0) _ (by rfl) hb7 underlying246 (by rfl) (by kernel_rfl)) (by rfl) ⟨rfl,?_⟩;exact dq HE6 HR
 ·have Az:o1=false\/(o1=true/\o2=false):=by
   cases o1;·exact .inl rfl
   ·cases o2;·exact .inr ⟨rfl,rfl⟩
    ·exact absurd ⟨rfl,rfl⟩ q8
  clear q8 wV wU HS cb;rcases Az with h1 | ⟨h1,h2⟩
  case' inl =>
   rw [h1] at ho1;clear h1 ho2
  case' inr =>
   rw [h1] at ho1;rw [h2] at ho2;clear h1 h2
  all_goals
   go_enter func339,ntmps339
   go_wp2_with fail;refine (HB1 _).mono ?_;rintro e w4 ⟨a,b,rfl,pU,hE4⟩;have HAB:=pU;have HE4:=np hE4;obtain ⟨u0,u1,u2,u3,u4,u5,u6,u7,-⟩:=HC _ hE4;clear pU hE4 HB1 c0 c1 c2 c3 c4 c5 c6 c7;cases bx
   ·clear HB2 HOF HAB u0 u1 u2 u3 u4 u5 u6 u7;go_wp2_with fail;have HX3:=np (aA.trans (aA.trans HE HE4) (aA.drew _));obtain ⟨y1,y2,y3,y4,-,-,-,-,yb⟩:=HC _ (aA.trans HE4 (aA.drew _));have HB3:Hid (aU W2.heap.size (w4).drew):=⟨_,_,yb⟩;clear yb
    go_region_held3 (fun w'=>w'.cell? ⟨w.heap.size,0,none⟩=some (.string n1)/\w'.cell? ⟨w.heap.size,1,none⟩=some (.string d1)/\w'.cell? ⟨W1.heap.size,0,none⟩=some (.string n2)/\w'.cell? ⟨W1.heap.size,1,none⟩=some (.string d2)/\Hid (aA w w')/\Hid (aU W2.heap.size w'))
     (first | exact ⟨z1,z2,z3,z4,z5,z6⟩ | exact ⟨da HN1 z1,da HN1 z2,da pY z3,da pY z4,np (dq z5.out HR),np z6.out.set2⟩ | exact ⟨y1,y2,y3,y4,HX3,HB3⟩ | go_keep)
     (first
      | (go_at_call 66;have hc:=HM1 _ (Hid.out (p:=aA w _) (by assumption));with_reducible refine hc.mono ?_;clear hc;rintro e w6 ⟨rfl,oU⟩;have q1:=oU.cell (a:=⟨w.heap.size,0,none⟩) (v:=.string n1) (by assumption);have q2:=oU.cell (a:=⟨w.heap.size,1,none⟩) (v:=.string d1) (by assumption);have q3:=oU.cell (a:=⟨W1.heap.size,0,none⟩) (v:=.string n2) (by assumption);have q4:=oU.cell (a:=⟨W1.heap.size,1,none⟩) (v:=.string d2) (by assumption);have q5:=np (aA.trans (Hid.out (p:=aA w _) (by assumption)) oU);have q6:=np (aU.ext (Hid.out (p:=aU W2.heap.size _) (by assumption)) oU);(try clear z1 z2 z3 z4 z5 z6 t0 t1 f0 f1);have z1:=q1;have z2:=q2;have z3:=q3;have z4:=q4;have z5:=q5;have z6:=q6;obtain ⟨r0,r1,t0,t1,f0,f1⟩:=z6.out.open;clear oU q1 q2 q3 q4 q5 q6)
      | (go_at_call 66;have hc:=HM2 _ (Hid.out (p:=aA w _) (by assumption));with_reducible refine hc.mono ?_;clear hc;rintro e w6 ⟨rfl,oU⟩;have q1:=oU.cell (a:=⟨w.heap.size,0,none⟩) (v:=.string n1) (by assumption);have q2:=oU.cell (a:=⟨w.heap.size,1,none⟩) (v:=.string d1) (by assumption);have q3:=oU.cell (a:=⟨W1.heap.size,0,none⟩) (v:=.string n2) (by assumption);have q4:=oU.cell (a:=⟨W1.heap.size,1,none⟩) (v:=.string d2) (by assumption);have q5:=np (aA.trans (Hid.out (p:=aA w _) (by assumption)) oU);have q6:=np (aU.ext (Hid.out (p:=aU W2.heap.size _) (by assumption)) oU);(try clear z1 z2 z3 z4 z5 z6 t0 t1 f0 f1);have z1:=q1;have z2:=q2;have z3:=q3;have z4:=q4;have z5:=q5;have z6:=q6;obtain ⟨r0,r1,t0,t1,f0,f1⟩:=z6.out.open;clear oU q1 q2 q3 q4 q5 q6)
      | (go_at_call 66;have hc:=HM3 _ (Hid.out (p:=aA w _) (by assumption));with_reducible refine hc.mono ?_;clear hc;rintro e w6 ⟨rfl,oU⟩;have q1:=oU.cell (a:=⟨w.heap.size,0,none⟩) (v:=.string n1) (by assumption);have q2:=oU.cell (a:=⟨w.heap.size,1,none⟩) (v:=.string d1) (by assumption);have q3:=oU.cell (a:=⟨W1.heap.size,0,none⟩) (v:=.string n2) (by assumption);have q4:=oU.cell (a:=⟨W1.heap.size,1,none⟩) (v:=.string d2) (by assumption);have q5:=np (aA.trans (Hid.out (p:=aA w _) (by assumption)) oU);have q6:=np (aU.ext (Hid.out (p:=aU W2.heap.size _) (by assumption)) oU);(try clear z1 z2 z3 z4 z5 z6 t0 t1 f0 f1);have z1:=q1;have z2:=q2;have z3:=q3;have z4:=q4;have z5:=q5;have z6:=q6;obtain ⟨r0,r1,t0,t1,f0,f1⟩:=z6.out.open;clear oU q1 q2 q3 q4 q5 q6)
      | (go_at_call 116;have hc:=HA _ (Hid.out (p:=aA w _) (by assumption));with_reducible refine hc.mono ?_;clear hc;rintro e w6 ⟨rfl,oU⟩;have q1:=oU.cell (a:=⟨w.heap.size,0,none⟩) (v:=.string n1) (by assumption);have q2:=oU.cell (a:=⟨w.heap.size,1,none⟩) (v:=.string d1) (by assumption);have q3:=oU.cell (a:=⟨W1.heap.size,0,none⟩) (v:=.string n2) (by assumption);have q4:=oU.cell (a:=⟨W1.heap.size,1,none⟩) (v:=.string d2) (by assumption);have q5:=np (aA.trans (Hid.out (p:=aA w _) (by assumption)) oU);have q6:=np (aU.ext (Hid.out (p:=aU W2.heap.size _) (by assumption)) oU);(try clear z1 z2 z3 z4 z5 z6 t0 t1 f0 f1);have z1:=q1;have z2:=q2;have z3:=q3;have z4:=q4;have z5:=q5;have z6:=q6;obtain ⟨r0,r1,t0,t1,f0,f1⟩:=z6.out.open;clear oU q1 q2 q3 q4 q5 q6)
      | (go_at_call 338;have hc:=HL _ (Hid.out (p:=aA w _) (by assumption));with_reducible refine hc.mono ?_;clear hc;rintro e w6 ⟨rfl,oU⟩;have q1:=oU.cell (a:=⟨w.heap.size,0,none⟩) (v:=.string n1) (by assumption);have q2:=oU.cell (a:=⟨w.heap.size,1,none⟩) (v:=.string d1) (by assumption);have q3:=oU.cell (a:=⟨W1.heap.size,0,none⟩) (v:=.string n2) (by assumption);have q4:=oU.cell (a:=⟨W1.heap.size,1,none⟩) (v:=.string d2) (by assumption);have q5:=np (aA.trans (Hid.out (p:=aA w _) (by assumption)) oU);have q6:=np (aU.ext (Hid.out (p:=aU W2.heap.size _) (by assumption)) oU);(try clear z1 z2 z3 z4 z5 z6 t0 t1 f0 f1);have z1:=q1;have z2:=q2;have z3:=q3;have z4:=q4;have z5:=q5;have z6:=q6;obtain ⟨r0,r1,t0,t1,f0,f1⟩:=z6.out.open;clear oU q1 q2 q3 q4 q5 q6))
    all_goals
     have hb7:=aU.res (x:=.string n4) (y:=.string d4) z6.out;go_wp2_with fail;refine bodyPost_ret (results_cell_row (by rfl) _ _ W2.heap.size 246 #[.string n4,.string d4] (0,0) _ (by rfl) hb7 underlying246 (by rfl) (by kernel_rfl)) (by rfl) ⟨rfl,?_⟩;exact dq z5.out HR
   ·go_wp2_with fail;refine (HB2 _).mono ?_;rintro e w5 ⟨c,d,rfl,sX,oX⟩;have HCD:=sX;have HE5:=np (aA.trans HE4 oX);clear sX oX HB2 u0 u1 u2 u3 u4 u5 u6 u7;cases by'
    ·clear HOF HAB HCD;go_wp2_with fail;have HX3:=np (aA.trans (aA.trans HE HE5) (aA.drew _));obtain ⟨y1,y2,y3,y4,-,-,-,-,yb⟩:=HC _ (aA.trans HE5 (aA.drew _));have HB3:Hid (aU W2.heap.size (w5).drew):=⟨_,_,yb⟩;clear yb
     go_region_held3 (fun w'=>w'.cell? ⟨w.heap.size,0,none⟩=some (.string n1)/\w'.cell? ⟨w.heap.size,1,none⟩=some (.string d1)/\w'.cell? ⟨W1.heap.size,0,none⟩=some (.string n2)/\w'.cell? ⟨W1.heap.size,1,none⟩=some (.string d2)/\Hid (aA w w')/\Hid (aU W2.heap.size w'))
      (first | exact ⟨z1,z2,z3,z4,z5,z6⟩ | exact ⟨da HN1 z1,da HN1 z2,da pY z3,da pY z4,np (dq z5.out HR),np z6.out.set2⟩ | exact ⟨y1,y2,y3,y4,HX3,HB3⟩ | go_keep)
      (first
       | (go_at_call 66;have hc:=HM1 _ (Hid.out (p:=aA w _) (by assumption));with_reducible refine hc.mono ?_;clear hc;rintro e w6 ⟨rfl,oU⟩;have q1:=oU.cell (a:=⟨w.heap.size,0,none⟩) (v:=.string n1) (by assumption);have q2:=oU.cell (a:=⟨w.heap.size,1,none⟩) (v:=.string d1) (by assumption);have q3:=oU.cell (a:=⟨W1.heap.size,0,none⟩) (v:=.string n2) (by assumption);have q4:=oU.cell (a:=⟨W1.heap.size,1,none⟩) (v:=.string d2) (by assumption);have q5:=np (aA.trans (Hid.out (p:=aA w _) (by assumption)) oU);have q6:=np (aU.ext (Hid.out (p:=aU W2.heap.size _) (by assumption)) oU);(try clear z1 z2 z3 z4 z5 z6 t0 t1 f0 f1);have z1:=q1;have z2:=q2;have z3:=q3;have z4:=q4;have z5:=q5;have z6:=q6;obtain ⟨r0,r1,t0,t1,f0,f1⟩:=z6.out.open;clear oU q1 q2 q3 q4 q5 q6)
       | (go_at_call 66;have hc:=HM2 _ (Hid.out (p:=aA w _) (by assumption));with_reducible refine hc.mono ?_;clear hc;rintro e w6 ⟨rfl,oU⟩;have q1:=oU.cell (a:=⟨w.heap.size,0,none⟩) (v:=.string n1) (by assumption);have q2:=oU.cell (a:=⟨w.heap.size,1,none⟩) (v:=.string d1) (by assumption);have q3:=oU.cell (a:=⟨W1.heap.size,0,none⟩) (v:=.string n2) (by assumption);have q4:=oU.cell (a:=⟨W1.heap.size,1,none⟩) (v:=.string d2) (by assumption);have q5:=np (aA.trans (Hid.out (p:=aA w _) (by assumption)) oU);have q6:=np (aU.ext (Hid.out (p:=aU W2.heap.size _) (by assumption)) oU);(try clear z1 z2 z3 z4 z5 z6 t0 t1 f0 f1);have z1:=q1;have z2:=q2;have z3:=q3;have z4:=q4;have z5:=q5;have z6:=q6;obtain ⟨r0,r1,t0,t1,f0,f1⟩:=z6.out.open;clear oU q1 q2 q3 q4 q5 q6)
       | (go_at_call 66;have hc:=HM3 _ (Hid.out (p:=aA w _) (by assumption));with_reducible refine hc.mono ?_;clear hc;rintro e w6 ⟨rfl,oU⟩;have q1:=oU.cell (a:=⟨w.heap.size,0,none⟩) (v:=.string n1) (by assumption);have q2:=oU.cell (a:=⟨w.heap.size,1,none⟩) (v:=.string d1) (by assumption);have q3:=oU.cell (a:=⟨W1.heap.size,0,none⟩) (v:=.string n2) (by assumption);have q4:=oU.cell (a:=⟨W1.heap.size,1,none⟩) (v:=.string d2) (by assumption);have q5:=np (aA.trans (Hid.out (p:=aA w _) (by assumption)) oU);have q6:=np (aU.ext (Hid.out (p:=aU W2.heap.size _) (by assumption)) oU);(try clear z1 z2 z3 z4 z5 z6 t0 t1 f0 f1);have z1:=q1;have z2:=q2;have z3:=q3;have z4:=q4;have z5:=q5;have z6:=q6;obtain ⟨r0,r1,t0,t1,f0,f1⟩:=z6.out.open;clear oU q1 q2 q3 q4 q5 q6)
       | (go_at_call 116;have hc:=HA _ (Hid.out (p:=aA w _) (by assumption));with_reducible refine hc.mono ?_;clear hc;rintro e w6 ⟨rfl,oU⟩;have q1:=oU.cell (a:=⟨w.heap.size,0,none⟩) (v:=.string n1) (by assumption);have q2:=oU.cell (a:=⟨w.heap.size,1,none⟩) (v:=.string d1) (by assumption);have q3:=oU.cell (a:=⟨W1.heap.size,0,none⟩) (v:=.string n2) (by assumption);have q4:=oU.cell (a:=⟨W1.heap.size,1,none⟩) (v:=.string d2) (by assumption);have q5:=np (aA.trans (Hid.out (p:=aA w _) (by assumption)) oU);have q6:=np (aU.ext (Hid.out (p:=aU W2.heap.size _) (by assumption)) oU);(try clear z1 z2 z3 z4 z5 z6 t0 t1 f0 f1);have z1:=q1;have z2:=q2;have z3:=q3;have z4:=q4;have z5:=q5;have z6:=q6;obtain ⟨r0,r1,t0,t1,f0,f1⟩:=z6.out.open;clear oU q1 q2 q3 q4 q5 q6)
       | (go_at_call 338;have hc:=HL _ (Hid.out (p:=aA w _) (by assumption));with_reducible refine hc.mono ?_;clear hc;rintro e w6 ⟨rfl,oU⟩;have q1:=oU.cell (a:=⟨w.heap.size,0,none⟩) (v:=.string n1) (by assumption);have q2:=oU.cell (a:=⟨w.heap.size,1,none⟩) (v:=.string d1) (by assumption);have q3:=oU.cell (a:=⟨W1.heap.size,0,none⟩) (v:=.string n2) (by assumption);have q4:=oU.cell (a:=⟨W1.heap.size,1,none⟩) (v:=.string d2) (by assumption);have q5:=np (aA.trans (Hid.out (p:=aA w _) (by assumption)) oU);have q6:=np (aU.ext (Hid.out (p:=aU W2.heap.size _) (by assumption)) oU);(try clear z1 z2 z3 z4 z5 z6 t0 t1 f0 f1);have z1:=q1;have z2:=q2;have z3:=q3;have z4:=q4;have z5:=q5;have z6:=q6;obtain ⟨r0,r1,t0,t1,f0,f1⟩:=z6.out.open;clear oU q1 q2 q3 q4 q5 q6))
     all_goals
      have hb7:=aU.res (x:=.string n4) (y:=.string d4) z6.out;go_wp2_with fail;refine bodyPost_ret (results_cell_row (by rfl) _ _ W2.heap.size 246 #[.string n4,.string d4] (0,0) _ (by rfl) hb7 underlying246 (by rfl) (by kernel_rfl)) (by rfl) ⟨rfl,?_⟩;exact dq z5.out HR
    ·obtain ⟨ha,hb⟩:=HAB (HBX (by first | rfl | trivial));obtain ⟨hc,hd⟩:=HCD (yT (by first | rfl | trivial));obtain ⟨p1,p2,q,hp1,hp2,hq,b1,b2,b3,b4,b5,b6,A8⟩:=HOF (HBX (by first | rfl | trivial)) (yT (by first | rfl | trivial));have HO:=np A8;have J2:a*d=p1:=(by rw [ha,hd];exact hp1);have J1:c*b=p2:=(by rw [hc,hb];exact hp2);have zr:b*d=q:=(by rw [hb,hd];exact hq);clear ha hb hc hd hp1 hp2 hq A8 HAB HCD HOF HM1 HM2 HM3 HA HL;go_wp2_with fail;refine (HO _ (HE.trans HE5)).mono ?_;rintro e w6 ⟨rfl,oU⟩;have HE6:=np (aA.trans HE5 oU);obtain ⟨-,-,-,-,-,-,-,-,yb⟩:=HC _ HE6;have z6:Hid (aU W2.heap.size w6):=⟨_,_,yb⟩;obtain ⟨r0,r1,t0,t1,f0,f1⟩:=z6.out.open;clear oU HO yb;have hb7:=aU.res (x:=.string n4) (y:=.string d4) z6.out;go_wp2_with fail;refine bodyPost_ret (results_cell_row (by rfl) _ _ W2.heap.size 246 #[.string n4,.string d4] (0,0) _ (by rfl) hb7 underlying246 (by rfl) (by kernel_rfl)) (by rfl) ⟨rfl,?_⟩;exact dq (HE.trans HE6) HR
theorem Z0e (x y:Rat) (w:World) (hx:RS 11000 x) (hy:RS 11000 y) (ht:aZ w) :
  oL 280 #[bN x,bN y] w (bN (x-y)):=by
 have HT:=np ht;clear ht;obtain ⟨W1,oZ,hE1,hs1,hb1⟩:=dF w (.string (aB x.num)) (.string (aE x.den)) 246;obtain ⟨W2,pg,hE2,hs2,oY⟩:=dF W1 (.string (aB y.num)) (.string (aE y.den)) 246;obtain ⟨W3,rO,oT,hs3,ot⟩:=dF W2 (.string ⟨#[]⟩) (.string ⟨#[]⟩) 246;have hb1':=aF hb1 (hE2.trans oT);have hb2':=aF oY oT;have HE:=np ((hE1.trans hE2).trans oT);have HR:Hid (w.heap.size<=W2.heap.size):=by unfold Hid;omega
 have HN1:Hid (w.heap.size≠W2.heap.size):=by unfold Hid;omega
 have pY:Hid (W1.heap.size≠W2.heap.size):=by unfold Hid;omega
 have HC:Hid (∀ W,aA W3 W->W.cell? ⟨w.heap.size,0,none⟩=some (.string (aB x.num))/\W.cell? ⟨w.heap.size,1,none⟩=some (.string (aE x.den))/\W.cell? ⟨W1.heap.size,0,none⟩=some (.string (aB y.num))/\W.cell? ⟨W1.heap.size,1,none⟩=some (.string (aE y.den))/\W.cell? ⟨W2.heap.size,0,none⟩=some (.string ⟨#[]⟩)/\W.cell? ⟨W2.heap.size,1,none⟩=some (.string ⟨#[]⟩)/\W.frozen? ⟨W2.heap.size,0,none⟩=false/\W.frozen? ⟨W2.heap.size,1,none⟩=false/\W.heap[W2.heap.size]?=some (.cells #[.string ⟨#[]⟩,.string ⟨#[]⟩] 246 (0,0))):=fun W hW=>by
  obtain ⟨a0,a1,-⟩:=cw (aF hb1' hW);obtain ⟨b0,b1,-⟩:=cw (aF hb2' hW);obtain ⟨c0,c1,cf⟩:=cw (aF ot hW);exact ⟨a0,a1,b0,b1,c0,c1,cf 0,cf 1,aF ot hW⟩
 have x7:RS 12000 (-y):=by
  refine ⟨?_,by show (aE y.den).size<=12000;have:=hy.2;omega⟩;have h1:=gB (-y.num);have h2:=dw y.num;rw [Int.natAbs_neg] at h1;rw [Rat.neg_num];have:=hy.1;omega
 have HNG:Hid (∀ W,aA w W->oL 277 #[bN y] W (bN (-y))):=fun W _=>A0_ y W (hy.mono (by omega));have xp:Hid (∀ W,aA w W->oL 339 #[bN x,bN (-y)] W (bN (x-y))):=fun W hW=>by
  have:=Z0c x (-y) W (hx.mono (by omega)) x7 (HT.ext hW);rw [<- Rat.sub_eq_add_neg] at this;exact this
 have pI:∀ q:Rat,bN q=.agg #[.string (aB q.num),.string (aE q.den)]:=fun _=>rfl;obtain ⟨Z,hZ⟩:=oO (x-y);obtain ⟨V,hV⟩:=oO (bN (-y));rw [<- hZ] at xp |-;rw [<- hV] at HNG xp;have JD:Hid (V=.agg #[.string (aB (-y).num),.string (aE (-y).den)]):=hV;rw [JD.out] at HNG xp;rw [pI x] at xp |-;rw [pI y] at HNG |-;rw [pI Z] at xp |-;clear hE1 hE2 oT hs1 hs2 hs3 hb1 oY ot hb1' hb2' pI hx hy x7 hV JD;obtain ⟨n1,o4⟩:=oO (aB x.num);obtain ⟨d1,qD⟩:=oO (aE x.den);obtain ⟨n2,pk⟩:=oO (aB y.num);obtain ⟨d2,pW⟩:=oO (aE y.den);obtain ⟨n4,hn4⟩:=oO (aB Z.num);obtain ⟨d4,re⟩:=oO (aE Z.den);obtain ⟨n3,va⟩:=oO (aB (-y).num);obtain ⟨d3,vw⟩:=oO (aE (-y).den);rw [<- pk,<- pW,<- va,<- vw] at HNG;rw [<- o4,<- qD,<- va,<- vw,<- hn4,<- re] at xp;rw [<- hn4,<- re];rw [<- o4,<- qD,<- pk,<- pW] at HC |-;rw [<- o4,<- qD] at oZ;rw [<- pk,<- pW] at pg;clear o4 qD pk pW va vw hn4 re hZ;obtain ⟨c0,c1,c2,c3,c4,c5,c6,c7,-⟩:=HC W3 (aA.refl _)
 go_enter func280,ntmps280
 go_wp2_with fail;have HRF:=np (aA.refl W3);have HX3:=np (aA.trans (aA.trans HE HRF) (aA.drew _));obtain ⟨y1,y2,y3,y4,-,-,-,-,yb⟩:=HC _ (aA.trans HRF (aA.drew _));have HB3:Hid (aU W2.heap.size (W3).drew):=⟨_,_,yb⟩;clear yb
 go_region_held3 (fun w'=>w'.cell? ⟨w.heap.size,0,none⟩=some (.string n1)/\w'.cell? ⟨w.heap.size,1,none⟩=some (.string d1)/\w'.cell? ⟨W1.heap.size,0,none⟩=some (.string n2)/\w'.cell? ⟨W1.heap.size,1,none⟩=some (.string d2)/\Hid (aA w w')/\Hid (aU W2.heap.size w'))
  (first | exact ⟨z1,z2,z3,z4,z5,z6⟩ | exact ⟨da HN1 z1,da HN1 z2,da pY z3,da pY z4,np (dq z5.out HR),np z6.out.set2⟩ | exact ⟨y1,y2,y3,y4,HX3,HB3⟩ | go_keep)
  (first
   | (go_at_call 277;have hc:=HNG _ (Hid.out (p:=aA w _) (by assumption));with_reducible refine hc.mono ?_;clear hc;rintro e w6 ⟨rfl,oU⟩;have q1:=oU.cell (a:=⟨w.heap.size,0,none⟩) (v:=.string n1) (by assumption);have q2:=oU.cell (a:=⟨w.heap.size,1,none⟩) (v:=.string d1) (by assumption);have q3:=oU.cell (a:=⟨W1.heap.size,0,none⟩) (v:=.string n2) (by assumption);have q4:=oU.cell (a:=⟨W1.heap.size,1,none⟩) (v:=.string d2) (by assumption);have q5:=np (aA.trans (Hid.out (p:=aA w _) (by assumption)) oU);have q6:=np (aU.ext (Hid.out (p:=aU W2.heap.size _) (by assumption)) oU);(try clear z1 z2 z3 z4 z5 z6 t0 t1 f0 f1);have z1:=q1;have z2:=q2;have z3:=q3;have z4:=q4;have z5:=q5;have z6:=q6;obtain ⟨r0,r1,t0,t1,f0,f1⟩:=z6.out.open;clear oU q1 q2 q3 q4 q5 q6)
   | (go_at_call 339;have hc:=xp _ (Hid.out (p:=aA w _) (by assumption));with_reducible refine hc.mono ?_;clear hc;rintro e w6 ⟨rfl,oU⟩;have q1:=oU.cell (a:=⟨w.heap.size,0,none⟩) (v:=.string n1) (by assumption);have q2:=oU.cell (a:=⟨w.heap.size,1,none⟩) (v:=.string d1) (by assumption);have q3:=oU.cell (a:=⟨W1.heap.size,0,none⟩) (v:=.string n2) (by assumption);have q4:=oU.cell (a:=⟨W1.heap.size,1,none⟩) (v:=.string d2) (by assumption);have q5:=np (aA.trans (Hid.out (p:=aA w _) (by assumption)) oU);have q6:=np (aU.ext (Hid.out (p:=aU W2.heap.size _) (by assumption)) oU);(try clear z1 z2 z3 z4 z5 z6 t0 t1 f0 f1);have z1:=q1;have z2:=q2;have z3:=q3;have z4:=q4;have z5:=q5;have z6:=q6;obtain ⟨r0,r1,t0,t1,f0,f1⟩:=z6.out.open;clear oU q1 q2 q3 q4 q5 q6))
 all_goals
  have hb7:=aU.res (x:=.string n4) (y:=.string d4) z6.out;go_wp2_with fail;refine bodyPost_ret (results_cell_row (by rfl) _ _ W2.heap.size 246 #[.string n4,.string d4] (0,0) _ (by rfl) hb7 underlying246 (by rfl) (by kernel_rfl)) (by rfl) ⟨rfl,?_⟩;exact dq z5.out HR
theorem lQ {w w':World} {g:Nat} (h:w'.heap[g]?=w.heap[g]?) (j:Nat):w'.cell? ⟨g,j,none⟩=w.cell? ⟨g,j,none⟩:=by
 simp [World.cell?,h]
theorem Z9_ {w w':World} {g:Nat} (h:w'.heap[g]?=w.heap[g]?) (j:Nat):w'.frozen? ⟨g,j,none⟩=w.frozen? ⟨g,j,none⟩:=by
 simp [World.frozen?,h]
theorem gJ (w:World) (a:Addr) (v:Value):(w.setCell a v).heap.size=w.heap.size:=by simp [World.setCell]
structure dm (w:World) (g:Nat) (xs:List Rat):Prop where
 lt:g<w.heap.size
 num:∀ (j:Nat) x,xs[j]?=some x->w.cell? ⟨g,j*2,none⟩=some (.string (aB x.num))
 den:∀ (j:Nat) x,xs[j]?=some x->w.cell? ⟨g,j*2+1,none⟩=some (.string (aE x.den))
 free:∀ j,w.frozen? ⟨g,j,none⟩=false
theorem dm.same {w w':World} {g:Nat} {xs:List Rat} (h:dm w g xs) (hs:w.heap.size<=w'.heap.size) (hg:w'.heap[g]?=w.heap[g]?):dm w' g xs :=
 ⟨n7 h.lt hs,fun j x hx=>(lQ hg _).trans (h.num j x hx),fun j x hx=>(lQ hg _).trans (h.den j x hx),fun j=>(Z9_ hg j).trans (h.free j)⟩
theorem dm.ext {w w':World} {g:Nat} {xs:List Rat} (h:dm w g xs) (he:aA w w'):dm w' g xs:=h.same he.size (he.block g h.lt)
theorem dm.grown {w w':World} {S:Nat->Prop} {g:Nat} {xs:List Rat} (h:dm w g xs) (hg:aH S w w') (hS:¬ S g):dm w' g xs:=h.same hg.size (hg.block g h.lt hS)
theorem nC (w:World) (g i j:Nat) (v:Value):(w.setCell ⟨g,i,none⟩ v).frozen? ⟨g,j,none⟩=w.frozen? ⟨g,j,none⟩:=by
 exact World.frozen?_setCell ..
theorem dm.set {w : World} {g : Nat} {xs : List Rat} (h : dm w g xs) (k : Nat) (hk : k < xs.length) (y : Rat) :
    dm ((w.setCell ⟨g, k * 2, none⟩ (.string (aB y.num))).setCell ⟨g, k * 2 + 1, none⟩ (.string (aE y.den))) g (xs.set k y) := by
  have hx : xs[k]? = some xs[k] := ns hk;have c0 := h.num k _ hx;have c1 := h.den k _ hx;refine ⟨by rw [gJ, gJ]; exact h.lt, fun j x hj => ?_, fun j x hj => ?_, fun j => by rw [nC, nC]; exact h.free j⟩
  all_goals
    rw [oK] at hj;by_cases e : k = j
    · subst e
      rw [if_pos rfl, if_pos hk] at hj;cases hj
      first
        | (rw [World.cell?_setCell_other _ _ _ _ (by intro e; simp only [Addr.mk.injEq] at e; omega)]
           exact World.cell?_setCell_same w _ _ c0)
        | (refine World.cell?_setCell_same _ _ (v := .string (aE xs[k].den)) _ ?_
           rw [World.cell?_setCell_other _ _ _ _ (by intro e; simp only [Addr.mk.injEq] at e; omega)]
           exact c1)
        | (exact World.cell?_setCell_same _ _ _ ((World.cell?_setCell_other _ _ _ _ (by intro e; simp only [Addr.mk.injEq] at e; omega)).trans c1))
    · rw [if_neg e] at hj
      rw [World.cell?_setCell_other _ _ _ _ (by intro e; simp only [Addr.mk.injEq] at e; omega), World.cell?_setCell_other _ _ _ _ (by intro e; simp only [Addr.mk.injEq] at e; omega)]
      first | exact h.num j x hj | exact h.den j x hj
structure cT (w:World) (g0:Nat) (tags:List (Nat×Nat)) (m:List (List Rat)):Prop where
 len:tags.length=m.length
 lt:g0<w.heap.size
 free:∀ j,w.frozen? ⟨g0,j,none⟩=false
 row:∀ (i:Nat) t r,tags[i]?=some t->m[i]?=some r->w.cell? ⟨g0,i,none⟩=some (.slice (some ⟨t.1,0,none⟩) r.length t.2)/\r.length<=t.2/\t.2<=9223372036854775807/\dm w t.1 r
 nodup:(g0::tags.map (·.1)).Nodup
def cV (g0:Nat) (tags:List (Nat×Nat)) (b:Nat):Prop:=b∈g0::tags.map (·.1)
theorem cT.same {w w':World} {g0:Nat} {tags:List (Nat×Nat)} {m:List (List Rat)} (h:cT w g0 tags m) (hs:w.heap.size<=w'.heap.size) (hb:∀ b,cV g0 tags b->w'.heap[b]?=w.heap[b]?):cT w' g0 tags m:=by
 have h0:=hb g0 (List.mem_cons_self ..);refine ⟨h.len,n7 h.lt hs,fun j=>(Z9_ h0 j).trans (h.free j),fun i t r ht hr=>?_,h.nodup⟩;obtain ⟨h1,h2,h3,h4⟩:=h.row i t r ht hr;exact ⟨(lQ h0 i).trans h1,h2,h3,h4.same hs (hb t.1 (List.mem_cons_of_mem _ (List.mem_map.2 ⟨t,nw ht,rfl⟩)))⟩
theorem cT.blt {w:World} {g0:Nat} {tags:List (Nat×Nat)} {m:List (List Rat)} (h:cT w g0 tags m) {b:Nat} (hb:cV g0 tags b):b<w.heap.size:=by
 rcases List.mem_cons.1 hb with rfl | hb;·exact h.lt
 ·obtain ⟨t,ht,rfl⟩:=List.mem_map.1 hb;obtain ⟨i,hi⟩:=List.getElem?_of_mem ht;have hl:i<m.length:=by rw [<- h.len];exact (nt.1 hi).1
  exact (h.row i t m[i] hi (ns hl)).2.2.2.lt
theorem cT.ext {w w':World} {g0:Nat} {tags:List (Nat×Nat)} {m:List (List Rat)} (h:cT w g0 tags m) (he:aA w w'):cT w' g0 tags m :=
 h.same he.size fun b hb=>he.block b (h.blt hb)
theorem cT.grown {w w':World} {S:Nat->Prop} {g0:Nat} {tags:List (Nat×Nat)} {m:List (List Rat)} (h:cT w g0 tags m) (hg:aH S w w') (hS:∀ b,cV g0 tags b->¬ S b):cT w' g0 tags m :=
 h.same hg.size fun b hb=>hg.block b (h.blt hb) (hS b hb)
theorem cT.get {w:World} {g0:Nat} {tags:List (Nat×Nat)} {m:List (List Rat)} (h:cT w g0 tags m) {i:Nat} {r:List Rat} (hr:m[i]?=some r) :
  ∃ t,tags[i]?=some t/\w.cell? ⟨g0,i,none⟩=some (.slice (some ⟨t.1,0,none⟩) r.length t.2)/\r.length<=t.2/\t.2<=9223372036854775807/\dm w t.1 r/\t.1≠g0/\cV g0 tags t.1:=by
 have hi:=(nt.1 hr).1;have hl:i<tags.length:=by rw [h.len];exact hi
 have:=h.row i tags[i] r (ns hl) hr;refine ⟨tags[i],ns hl,this.1,this.2.1,this.2.2.1,this.2.2.2,?_,List.mem_cons_of_mem _ (List.mem_map.2 ⟨tags[i],List.getElem_mem hl,rfl⟩)⟩;have hn:=(List.nodup_cons.1 h.nodup).1;intro e2;exact hn (List.mem_map.2 ⟨tags[i],List.getElem_mem hl,e2⟩)
theorem cT.apart {w:World} {g0:Nat} {tags:List (Nat×Nat)} {m:List (List Rat)} (h:cT w g0 tags m) {i j:Nat} {s t:Nat×Nat} (hs:tags[i]?=some s) (ht:tags[j]?=some t) (pO:i≠j):s.1≠t.1:=by
 have hn:=(List.nodup_cons.1 h.nodup).2;intro e;have h1:(tags.map (·.1))[i]?=some s.1:=by rw [nx,hs];rfl
 have h2:(tags.map (·.1))[j]?=some s.1:=by rw [nx,ht,e];rfl
 obtain ⟨l1,e1⟩:=nt.1 h1;obtain ⟨l2,e2⟩:=nt.1 h2;exact pO ((List.getElem_inj hn).1 (e1.trans e2.symm))
theorem cT.setRow {w w':World} {g0:Nat} {tags:List (Nat×Nat)} {m:List (List Rat)} (h:cT w g0 tags m) {i:Nat} {t:Nat×Nat} {r r0:List Rat} (ht:tags[i]?=some t) (vD:m[i]?=some r0) (hr:r.length=r0.length) (hg:aH (·=t.1) w w') (hR:dm w' t.1 r):cT w' g0 tags (m.set i r):=by
 have hi:=(nt.1 vD).1;obtain ⟨t',tF,-,-,-,-,hne,-⟩:=h.get vD;obtain rfl:t'=t:=oA (tF.symm.trans ht);have h0:=hg.block g0 h.lt (fun e=>hne e.symm);refine ⟨by rw [List.length_set];exact h.len,n7 h.lt hg.size,fun j=>(Z9_ h0 j).trans (h.free j),fun j s q hs hq=>?_,h.nodup⟩;rw [oK] at hq;by_cases hj:i=j
 ·subst hj;rw [if_pos rfl,if_pos hi] at hq;cases hq;obtain rfl:s=t':=oA (hs.symm.trans ht);obtain ⟨h1,h2,h3,h4⟩:=h.row i s r0 hs vD;rw [<- hr] at h1 h2;exact ⟨(lQ h0 i).trans h1,h2,h3,hR⟩
 ·rw [if_neg hj] at hq;obtain ⟨h1,h2,h3,h4⟩:=h.row j s q hs hq;exact ⟨(lQ h0 j).trans h1,h2,h3,h4.grown hg (h.apart hs ht (fun e=>hj e.symm))⟩
def bu {α:Type} (l:List α) (i j:Nat):List α:=match l[i]?,l[j]? with
 | some a,some b=>(l.set i b).set j a
 | _,_=>l
theorem mE {α:Type} (l:List α) (i j:Nat):(bu l i j).length=l.length:=by
 unfold bu;split <;> simp
theorem iM {α:Type} {l:List α} {i j:Nat} {a b:α} (hi:l[i]?=some a) (hj:l[j]?=some b) (k:Nat):(bu l i j)[k]?=if k=j then some a else if k=i then some b else l[k]?:=by
 have h1:=(nt.1 hi).1;have h2:=(nt.1 hj).1;unfold bu;rw [hi,hj];show ((l.set i b).set j a)[k]?=_;rw [oK,oK,List.length_set];by_cases e1:j=k;·subst e1;simp [h2]
 ·by_cases e2:i=k;·subst e2;simp [e1,h1,Ne.symm e1]
  ·simp [e1,e2,Ne.symm e1,Ne.symm e2]
theorem Z5h {α β:Type} (f:α->β) (l:List α) (i j:Nat):(bu l i j).map f=bu (l.map f) i j:=by
 unfold bu;rw [nx,nx];cases l[i]? <;> cases l[j]? <;> simp [List.map_set]
theorem Z2z {α:Type} {l:List α} (h:l.Nodup) (i j:Nat):(bu l i j).Nodup:=by
 by_cases hb:i<l.length/\j<l.length
 ·obtain ⟨h1,h2⟩:=hb;have hi:l[i]?=some l[i]:=ns h1;have hj:l[j]?=some l[j]:=ns h2;have inj:∀ p q,p<l.length->q<l.length->l[p]?=l[q]?->p=q:=by
   intro p q hp hq e;rw [ns hp,ns hq] at e;exact (List.getElem_inj h).1 (oA e)
  refine List.pairwise_iff_getElem.2 fun p q hp0 vG wu e0=>?_;have e:(bu l i j)[p]?=(bu l i j)[q]?:=by rw [ns hp0,ns vG,e0]
  have hq:q<l.length:=by rw [mE] at vG;exact vG
  rw [iM hi hj,iM hi hj,<- hi,<- hj] at e;have hp:p<l.length:=by omega
  have qK:∀ k,(if k=j then l[i]? else if k=i then l[j]? else l[k]?)=l[if k=j then i else if k=i then j else k]?:=by
   intro k;by_cases a:k=j;·rw [if_pos a,if_pos a]
   ·rw [if_neg a,if_neg a];by_cases b:k=i;·rw [if_pos b,if_pos b]
    ·rw [if_neg b,if_neg b]
  have hsl:∀ k,k<l.length->(if k=j then i else if k=i then j else k)<l.length:=by
   intro k hk;by_cases a:k=j;·rw [if_pos a];exact h1
   ·rw [if_neg a];by_cases b:k=i;·rw [if_pos b];exact h2
    ·rw [if_neg b];exact hk
  rw [qK,qK] at e;have e2:=inj _ _ (hsl p hp) (hsl q hq) e;have key:∀ k,(if k=j then i else if k=i then j else k)=i/\k=j\/(if k=j then i else if k=i then j else k)=j/\k=i\/(if k=j then i else if k=i then j else k)=k/\k≠j/\k≠i:=by
   intro k;by_cases a:k=j;·left;exact ⟨if_pos a,a⟩
   ·by_cases b:k=i;·right;left;exact ⟨by rw [if_neg a,if_pos b],b⟩
    ·right;right;exact ⟨by rw [if_neg a,if_neg b],a,b⟩
  have kp:=key p;have kq:=key q;generalize (if p=j then i else if p=i then j else p)=P at *
  generalize (if q=j then i else if q=i then j else q)=Q at *
  omega
 ·have:bu l i j=l:=by
   unfold bu;by_cases h1:i<l.length;·rw [ns h1,n_ (show l.length<=j by omega)]
   ·rw [n_ (show l.length<=i by omega)]
  rw [this];exact h
theorem cT.swap {w:World} {g0:Nat} {tags:List (Nat×Nat)} {m:List (List Rat)} (h:cT w g0 tags m) {i j:Nat} {s t:Nat×Nat} {p q:List Rat} (hs:tags[i]?=some s) (ht:tags[j]?=some t) (hp:m[i]?=some p) (hq:m[j]?=some q) :
  cT ((w.setCell ⟨g0,i,none⟩ (.slice (some ⟨t.1,0,none⟩) q.length t.2)).setCell ⟨g0,j,none⟩ (.slice (some ⟨s.1,0,none⟩) p.length s.2)) g0 (bu tags i j) (bu m i j):=by
 have hgr:aH (·=g0) w ((w.setCell ⟨g0,i,none⟩ (.slice (some ⟨t.1,0,none⟩) q.length t.2)).setCell ⟨g0,j,none⟩ (.slice (some ⟨s.1,0,none⟩) p.length s.2)):=((aH.refl (·=g0) w).store (S:=(·=g0)) rfl _ _).store (S:=(·=g0)) rfl _ _;have ci:=(h.row i s p hs hp).1;have cj:=(h.row j t q ht hq).1;refine ⟨by rw [mE,mE];exact h.len,by rw [gJ,gJ];exact h.lt,fun k=>by rw [nC,nC];exact h.free k,fun k u r hu hr=>?_,?_⟩
 ·rw [iM hs ht] at hu;rw [iM hp hq] at hr;have hrow:∀ (k:Nat) u r,tags[k]?=some u->m[k]?=some r->dm ((w.setCell ⟨g0,i,none⟩ (.slice (some ⟨t.1,0,none⟩) q.length t.2)).setCell ⟨g0,j,none⟩ (.slice (some ⟨s.1,0,none⟩) p.length s.2)) u.1 r:=by
   intro k u r hu hr;obtain ⟨u',Ai,-,-,-,hR,hne,-⟩:=h.get hr;obtain rfl:u'=u:=oA (Ai.symm.trans hu);exact hR.grown hgr hne
  by_cases e1:k=j
  ·subst e1;rw [if_pos rfl] at hu hr;cases hu;cases hr;obtain ⟨_,h2,h3,_⟩:=h.row i s p hs hp;refine ⟨?_,h2,h3,hrow i s p hs hp⟩;by_cases e2:i=k
   ·subst e2;exact World.cell?_setCell_same _ _ _ (World.cell?_setCell_same w _ _ ci)
   ·exact World.cell?_setCell_same _ _ _ ((World.cell?_setCell_other _ _ _ _ (by intro e;simp only [Addr.mk.injEq] at e;omega)).trans cj)
  ·rw [if_neg e1] at hu hr;by_cases e2:k=i
   ·subst e2;rw [if_pos rfl] at hu hr;cases hu;cases hr;obtain ⟨_,h2,h3,_⟩:=h.row j t q ht hq;refine ⟨?_,h2,h3,hrow j t q ht hq⟩;rw [World.cell?_setCell_other _ _ _ _ (by intro e;simp only [Addr.mk.injEq] at e;omega)];exact World.cell?_setCell_same w _ _ ci
   ·rw [if_neg e2] at hu hr;obtain ⟨h1,h2,h3,_⟩:=h.row k u r hu hr;refine ⟨?_,h2,h3,hrow k u r hu hr⟩;rw [World.cell?_setCell_other _ _ _ _ (by intro e;simp only [Addr.mk.injEq] at e;omega),World.cell?_setCell_other _ _ _ _ (by intro e;simp only [Addr.mk.injEq] at e;omega)];exact h1
 ·have hn:=List.nodup_cons.1 h.nodup;rw [Z5h];refine List.nodup_cons.2 ⟨?_,Z2z hn.2 i j⟩;intro hm;refine hn.1 ?_;obtain ⟨k,hk⟩:=List.getElem?_of_mem hm;have a1:(tags.map (·.1))[i]?=some s.1:=by rw [nx,hs];rfl
  have a2:(tags.map (·.1))[j]?=some t.1:=by rw [nx,ht];rfl
  rw [iM a1 a2] at hk;by_cases e1:k=j;·rw [if_pos e1] at hk;cases hk;exact nw a1
  ·rw [if_neg e1] at hk;by_cases e2:k=i;·rw [if_pos e2] at hk;cases hk;exact nw a2
   ·rw [if_neg e2] at hk;exact nw hk
theorem A9_ {g0:Nat} {tags:List (Nat×Nat)} {i j b:Nat} {s t:Nat×Nat} (hs:tags[i]?=some s) (ht:tags[j]?=some t):cV g0 (bu tags i j) b↔cV g0 tags b:=by
 have key:∀ x:Nat×Nat,x∈bu tags i j↔x∈tags:=by
  intro x;constructor
  ·intro hm;obtain ⟨k,hk⟩:=List.getElem?_of_mem hm;rw [iM hs ht] at hk;by_cases e1:k=j;·rw [if_pos e1] at hk;cases hk;exact nw hs
   ·rw [if_neg e1] at hk;by_cases e2:k=i;·rw [if_pos e2] at hk;cases hk;exact nw ht
    ·rw [if_neg e2] at hk;exact nw hk
  ·intro hm;obtain ⟨k,hk⟩:=List.getElem?_of_mem hm;by_cases e1:k=i
   ·subst e1;rw [hs] at hk;cases hk;exact nw (by rw [iM hs ht,if_pos rfl]:(bu tags k j)[j]?=some s)
   ·by_cases e2:k=j
    ·subst e2;rw [ht] at hk;cases hk;exact nw (by rw [iM hs ht,if_neg (Ne.symm e1),if_pos rfl]:(bu tags i k)[i]?=some t)
    ·exact nw (by rw [iM hs ht,if_neg e2,if_neg e1];exact hk:(bu tags i j)[k]?=some x)
 unfold cV;simp only [List.mem_cons,List.mem_map,key]
structure gV (α:Type) where
 R:World->Nat->List α->Prop
 lt:∀ {w g r},R w g r->g<w.heap.size
 same:∀ {w w' g r},R w g r->w.heap.size<=w'.heap.size->w'.heap[g]?=w.heap[g]?->R w' g r
def iq:gV Rat:=⟨dm,fun h=>h.lt,fun h hs hg=>h.same hs hg⟩
structure ew (w:World) (g:Nat) (xs:oQ):Prop where
 lt:g<w.heap.size
 cell:∀ (j:Nat) x,xs[j]?=some x->w.cell? ⟨g,j,none⟩=some (.int .i64 x)
 free:∀ j,w.frozen? ⟨g,j,none⟩=false
theorem ew.same {w w':World} {g:Nat} {xs:oQ} (h:ew w g xs) (hs:w.heap.size<=w'.heap.size) (hg:w'.heap[g]?=w.heap[g]?):ew w' g xs :=
 ⟨n7 h.lt hs,fun j x hx=>(lQ hg _).trans (h.cell j x hx),fun j=>(Z9_ hg j).trans (h.free j)⟩
def Z62:gV Int:=⟨ew,fun h=>h.lt,fun h hs hg=>h.same hs hg⟩
def iv (t:Nat×Nat) (n:Nat):Value:=.slice (some ⟨t.1,0,none⟩) n t.2
def iO {α:Type} (tags:List (Nat×Nat)) (m:List (List α)):List Value:=List.zipWith (fun t r=>iv t r.length) tags m
structure bp {α:Type} (K:gV α) (e:TypeId) (w:World) (ob base:Nat) (v:Value) (tags:List (Nat×Nat)) (m:List (List α)):Prop where
 len:tags.length=m.length
 own:w.ownsRow ob e 1 v m.length (iO tags m)
 row:∀ (i:Nat) t r,tags[i]?=some t->m[i]?=some r->r.length<=t.2/\t.2<=9223372036854775807/\K.R w t.1 r/\base<=t.1/\v.ownBlock≠some t.1
 nodup:(tags.map (·.1)).Nodup
theorem Z2A {α:Type} {tags:List (Nat×Nat)} {m:List (List α)} (h:tags.length=m.length):(iO tags m).length=m.length:=by
 unfold iO;rw [List.length_zipWith,h];omega
theorem bp.nil {α:Type} (K:gV α) (e:TypeId) (w:World) (ob base:Nat):bp K e w ob base (.slice none 0 0) [] [] :=
 ⟨rfl,World.ownsRow_nil _ _ _ _,by intro i t r h;simp at h,by simp⟩
theorem bp.ext {α:Type} {K:gV α} {e:TypeId} {w w':World} {ob base:Nat} {v:Value} {tags:List (Nat×Nat)} {m:List (List α)} (h:bp K e w ob base v tags m) (he:aA w w'):bp K e w' ob base v tags m :=
 ⟨h.len,fN h.own he,fun i t r ht hr=>by
  obtain ⟨h1,h2,h3,h4,h5⟩:=h.row i t r ht hr
  exact ⟨h1,h2,K.same h3 he.size (he.block _ (K.lt h3)),h4,h5⟩,h.nodup⟩
theorem bp.fresh {α:Type} {K:gV α} {e:TypeId} {w:World} {ob base:Nat} {v:Value} {tags:List (Nat×Nat)} {m:List (List α)} (h:bp K e w ob base v tags m) {b:Nat} (hb:b∈tags.map (·.1)):base<=b/\b<w.heap.size:=by
 obtain ⟨t,ht,rfl⟩:=List.mem_map.1 hb;obtain ⟨i,hi⟩:=List.getElem?_of_mem ht;have hl:i<m.length:=by rw [<- h.len];exact (nt.1 hi).1
 obtain ⟨h1,h2,h3,h4,h5⟩:=h.row i t m[i] hi (ns hl);exact ⟨h4,K.lt h3⟩
theorem bp.snoc {α:Type} {K:gV α} {e:TypeId} {w w':World} {ob base:Nat} {v v':Value} {tags:List (Nat×Nat)} {m:List (List α)} (h:bp K e w ob base v tags m) (t:Nat×Nat) (r:List α) (pv:r.length<=t.2) (pF:t.2<=9223372036854775807) (hR:K.R w t.1 r) (hb:base<=t.1) (hv:v.ownBlock≠some t.1) (hn:t.1∉tags.map (·.1))
  (hown:w'.ownsRow ob e 1 v' (m.length+1) (iO tags m++[iv t r.length])) (hg:w.grownBy w' v.ownBlock) (qN:v'.ownBlock=v.ownBlock\/∃ b,v'.ownBlock=some b/\w.heap.size<=b) :
  bp K e w' ob base v' (tags++[t]) (m++[r]):=by
 have pG:∀ (s:Nat×Nat) q,K.R w s.1 q->v.ownBlock≠some s.1->K.R w' s.1 q/\v'.ownBlock≠some s.1:=fun s q hs vR=>by
  refine ⟨K.same hs hg.size (hg.block s.1 (K.lt hs) vR.symm),fun e=>?_⟩;rcases qN with e2 | ⟨b,e2,e3⟩
  ·exact vR (e2.symm.trans e)
  ·rw [e2] at e;cases e;have:=K.lt hs;omega
 refine ⟨by simp [h.len],?_,fun i s q hs hq=>?_,?_⟩
 ·have e:iO (tags++[t]) (m++[r])=iO tags m++[iv t r.length]:=by
   unfold iO;rw [List.zipWith_append h.len];rfl
  rw [e,oJ];exact hown
 ·by_cases hi:i<tags.length
  ·rw [oB hi] at hs;rw [oB (by rw [<- h.len];exact hi)] at hq;obtain ⟨h1,h2,h3,h4,h5⟩:=h.row i s q hs hq;obtain ⟨k1,k2⟩:=pG s q h3 h5;exact ⟨h1,h2,k1,h4,k2⟩
  ·rw [oC (by omega)] at hs;rw [oC (by rw [<- h.len];omega)] at hq;have e1:i-tags.length=0:=(by have:=(nt.1 hs).1;simp at this;omega);have e2:i-m.length=0:=(by rw [<- h.len];exact e1);rw [e1] at hs;rw [e2] at hq;simp only [oE,Option.some.injEq] at hs hq;subst hs;subst hq;obtain ⟨k1,k2⟩:=pG t r hR hv;exact ⟨pv,pF,k1,hb,k2⟩
 ·rw [List.map_append,List.nodup_append];refine ⟨h.nodup,by simp,?_⟩;intro a ha b oY e;simp only [List.map_cons,List.map_nil,List.mem_singleton] at oY;subst e;subst oY;exact hn ha
theorem bp.parts {α:Type} {K:gV α} {e:TypeId} {w:World} {ob base:Nat} {g cap:Nat} {tags:List (Nat×Nat)} {m:List (List α)} (h:bp K e w ob base (.slice (some ⟨g,0,none⟩) m.length cap) tags m) :
  ob<=g/\g<w.heap.size/\(∀ j,w.frozen? ⟨g,j,none⟩=false)/\(∀ (i:Nat) t r,tags[i]?=some t->m[i]?=some r->w.cell? ⟨g,i,none⟩=some (.slice (some ⟨t.1,0,none⟩) r.length t.2)/\r.length<=t.2/\t.2<=9223372036854775807/\K.R w t.1 r)/\(g::tags.map (·.1)).Nodup/\m.length<=cap/\cap<=9223372036854775807:=by
 have hc:=h.own.cells (g:=g) (by simp [Value.ownBlock]);have hf:=fun j=>h.own.frozenAt j;rcases h.own.2 with ⟨hv,_⟩ | ⟨g',cap',cur,hv,hb,hg,h1,h2,h3,h4⟩
 ·simp at hv
 ·simp only [Value.slice.injEq,Option.some.injEq,Addr.mk.injEq] at hv;obtain ⟨⟨rfl,-,-⟩,-,rfl⟩:=hv;refine ⟨hb,(Array.getElem?_eq_some_iff.1 hg).1,fun j=>hf j,fun i t r ht hr=>?_,?_,h1,h2⟩
  ·obtain ⟨k1,k2,k3,k4,k5⟩:=h.row i t r ht hr;refine ⟨?_,k1,k2,k3⟩;have:=hc i (iv t r.length) (by unfold iO;rw [List.getElem?_zipWith,ht,hr]);rw [show (⟨g,0,none⟩:Addr).add i=⟨g,i,none⟩ by unfold Addr.add;split <;> simp_all] at this;exact this
  ·rw [List.nodup_cons];refine ⟨fun hm=>?_,h.nodup⟩;obtain ⟨t,ht,rfl⟩:=List.mem_map.1 hm;obtain ⟨i,hi⟩:=List.getElem?_of_mem ht;have hl:i<m.length:=(by rw [<- h.len];exact (nt.1 hi).1);exact (h.row i t m[i] hi (ns hl)).2.2.2.2 rfl
theorem bp.matQ {e:TypeId} {w:World} {ob base:Nat} {g cap:Nat} {tags:List (Nat×Nat)} {m:List (List Rat)} (h:bp iq e w ob base (.slice (some ⟨g,0,none⟩) m.length cap) tags m) (yp:base<=ob) :
  cT w g tags m/\m.length<=cap/\cap<=9223372036854775807/\∀ b,cV g tags b->base<=b:=by
 obtain ⟨h1,h2,h3,h4,h5,h6,h7⟩:=h.parts;refine ⟨⟨h.len,h2,h3,h4,h5⟩,h6,h7,fun b hb=>?_⟩;rcases List.mem_cons.1 hb with rfl | hb;·exact n8 yp h1
 ·exact (h.fresh hb).1
theorem U6_ {α:Type} {K:gV α} {e:TypeId} {T2:TypeId} (Ak:prog.underlying T2=some (TypeDesc.slice e)) (pH:(prog.info? e).map (fun i=>(i.zero,i.size,i.bytes))=some (some (.slice none 0 0),1,24)) (w:World) {o:Oper} {a:Act} {Q:Exit->Act->World->Prop} {L:Act->World->Prop}
  (s x:Operand) (ho:o.op=Op.call { callee:=Callee.builtin Builtin.append,args:=#[s,x],argTypes:=#[T2,T2] }) (ob base:Nat)
  (v:Value) (tags:List (Nat×Nat)) (m:List (List α)) (t:Nat×Nat) (r:List α) (u:Array Value) (T:TypeId) (hs:a.eval s=v) (hB:bp K e w ob base v tags m)
  (hx:a.eval x=.slice (some ⟨w.heap.size,0,none⟩) 1 1) (hu:u=#[iv t r.length]) (pv:r.length<=t.2) (pF:t.2<=9223372036854775807) (hR:K.R w t.1 r) (hb:base<=t.1) (hv:v.ownBlock≠some t.1) (hn:t.1∉tags.map (·.1))
  (hlen:m.length<1000000) (od:ob<=w.heap.size)
  (h:∀ v' w',bp K e w' ob base v' (tags++[t]) (m++[r])->Below ob w w'->Hid (∃ g c,v'=.slice (some ⟨g,0,none⟩) (m.length+1) c)->L (a.put o.dst v') w') :
  Oper.wp prog o a (w.alloc (.cells u T)) L Q:=by
 subst hu;obtain ⟨i0,hi,hz,oe,pX⟩:=info_parts pH;have pJ:∀ j,(⟨w.heap.size,0,none⟩:Addr).add j=⟨w.heap.size,j,none⟩:=by intro j;unfold Addr.add;split <;> simp_all
 have hE:aA w (w.alloc (.cells #[iv t r.length] T)):=aA.alloc _ _;refine iw (w.alloc (.cells #[iv t r.length] T)) s x T2 ho ob e i0 (.slice none 0 0) 1 24 Ak hi hz oe pX rfl (by decide) v m.length (iO tags m) hs (fN hB.own hE) ⟨w.heap.size,0,none⟩ 1 1 [iv t r.length] hx rfl ?_ ?_ ?_ ?_ ?_ ?_
 ·intro j q hq;rw [pJ,World.cell?_alloc_new];simpa using hq
 ·intro u hu;rw [List.mem_singleton.1 hu];rfl
 ·unfold maxLen;omega
 ·omega
 ·simp;omega
 ·intro v' w' hown oV _ qN
  have hLB:=(hB.ext hE).snoc t r pv pF (K.same hR hE.size (hE.block _ (K.lt hR))) hb hv hn hown oV (by
   rcases qN with h1 | h1;·exact .inl h1
   ·exact .inr ⟨_,h1,n9 _⟩)
  refine h v' w' hLB ?_ ?_
  ·have pf:w.grownBy w' v.ownBlock:=fm (hE.grown _) oV;refine ⟨pf.os,pf.tape,pf.output,pf.size,fun b oY=>pf.block b (by omega) ?_⟩;intro e;have:=(hB.own.lt b e.symm).1;omega
  ·obtain ⟨g,c,qg,-⟩:=ei hown (by omega);exact ⟨g,c,qg⟩
theorem R5_ {α:Type} {K:gV α} {e:TypeId} {T2:TypeId} (Ak:prog.underlying T2=some (TypeDesc.slice e)) (pH:(prog.info? e).map (fun i=>(i.zero,i.size,i.bytes))=some (some (.slice none 0 0),1,24)) (w:World) {ops:Array Oper} {rest:List Oper} {o:Oper} {a:Act} {Q:Exit->Act->World->Prop} (qB:o.guard=none)
  (s x:Operand) (ho:o.op=Op.call { callee:=Callee.builtin Builtin.append,args:=#[s,x],argTypes:=#[T2,T2] }) (ob base:Nat)
  (v:Value) (tags:List (Nat×Nat)) (m:List (List α)) (t:Nat×Nat) (r:List α) (u:Array Value) (T:TypeId) (hs:a.eval s=v) (hB:bp K e w ob base v tags m)
  (hx:a.eval x=.slice (some ⟨w.heap.size,0,none⟩) 1 1) (hu:u=#[iv t r.length]) (pv:r.length<=t.2) (pF:t.2<=9223372036854775807) (hR:K.R w t.1 r) (hb:base<=t.1) (hv:v.ownBlock≠some t.1) (hn:t.1∉tags.map (·.1))
  (hlen:m.length<1000000) (od:ob<=w.heap.size)
  (h:∀ v' w',bp K e w' ob base v' (tags++[t]) (m++[r])->Below ob w w'->Hid (∃ g c,v'=.slice (some ⟨g,0,none⟩) (m.length+1) c)->wpList prog ops Q rest (a.put o.dst v') w') :
  wpList prog ops Q (o::rest) a (w.alloc (.cells u T)) :=
 wpList_plain qB fun _ hK=>U6_ Ak pH w s x ho ob base v tags m t r u T hs hB hx hu pv pF hR hb hv hn hlen od fun v' w' a1 a2 a3=>hK _ _ (h v' w' a1 a2 a3)
theorem Z1p:(prog.info? 246).map (fun i=>(i.zero,i.size,i.bytes))=some (some (.agg #[.string ⟨#[]⟩,.string ⟨#[]⟩]),2,32):=by kernel_rfl
theorem Z3l:(prog.info? 267).map (fun i=>(i.zero,i.size,i.bytes))=some (some (.slice none 0 0),1,24):=by kernel_rfl
def ratR (_:World) (u:List Value) (q:Rat):Prop:=u=[.string (aB q.num),.string (aE q.den)]
theorem ratR.mono:gT ratR:=fun _ _ _ _ _ h=>h
abbrev dJ (w:World) (v:Value) (xs:List Rat):Prop:=aR 2 ratR w v xs
theorem dJ.ext {w w':World} {v:Value} {xs:List Rat} (h:dJ w v xs) (he:aA w w'):dJ w' v xs:=aR.ext ratR.mono h he
def bn (l:List Rat):List Value:=(l.map fun q:Rat=>[Value.string (aB q.num),Value.string (aE q.den)]).flatten
theorem Y7_ (a b:List Rat):bn (a++b)=bn a++bn b:=by simp [bn]
theorem e8:∀ l:List Rat,(bn l).length=l.length*2
 | []=>rfl
 | q::l=>by
  have h:=e8 l;unfold bn at h |-;rw [List.map_cons,List.flatten_cons,oJ,h];simp;omega
theorem V4_ {l:List Rat} {j:Nat} {q:Rat} (h:l[j]?=some q):(bn l)[j*2]?=some (.string (aB q.num))/\(bn l)[j*2+1]?=some (.string (aE q.den)):=by
 have hk:∀ u∈(l.map fun q:Rat=>[Value.string (aB q.num),Value.string (aE q.den)]),u.length=2:=by
  intro u hu;obtain ⟨x,-,rfl⟩:=List.mem_map.1 hu;rfl
 have hm:(l.map fun q:Rat=>[Value.string (aB q.num),Value.string (aE q.den)])[j]?=some [Value.string (aB q.num),Value.string (aE q.den)]:=by rw [nx,h];rfl
 have h0:=X0_ _ j 0 _ hk hm (by omega);have h1:=X0_ _ j 1 _ hk hm (by omega);exact ⟨h0,h1⟩
def dQ (B:Nat) (w:World) (v:Value) (l:List Rat):Prop:=w.ownsRow B 246 2 v l.length (bn l)
theorem dQ.nil (B:Nat) (w:World):dQ B w (.slice none 0 0) []:=World.ownsRow_nil w B 246 2
theorem dQ.ext {B:Nat} {w w':World} {v:Value} {l:List Rat} (h:dQ B w v l) (he:aA w w'):dQ B w' v l:=fN h he
theorem dQ.lt {B:Nat} {w:World} {v:Value} {l:List Rat} (h:dQ B w v l):∀ b,v.ownBlock=some b->B<=b/\b<w.heap.size:=World.ownsRow.lt h
theorem dQ.form {B:Nat} {w:World} {v:Value} {l:List Rat} (h:dQ B w v l):∃ a cap,v=.slice a l.length cap/\l.length<=cap/\cap<=9223372036854775807:=by
 rcases h.2 with ⟨rfl,hn⟩ | ⟨g,cap,cur,rfl,hb,hg,h1,h2,h3,h4⟩
 ·exact ⟨none,0,by rw [hn],by omega,by omega⟩
 ·exact ⟨_,cap,rfl,h1,h2⟩
theorem dQ.low {B B':Nat} {w:World} {v:Value} {l:List Rat} (h:dQ B w v l) (hb:B'<=B):dQ B' w v l:=by
 refine ⟨h.1,?_⟩;rcases h.2 with h' | ⟨g,cap,cur,rfl,hg,rest⟩
 ·exact .inl h'
 ·exact .inr ⟨g,cap,cur,rfl,n8 hb hg,rest⟩
theorem dQ.row {B g n c:Nat} {w:World} {l:List Rat} (h:dQ B w (.slice (some ⟨g,0,none⟩) n c) l):dm w g l:=by
 obtain rfl:n=l.length:=by
  obtain ⟨a,cap,hv,-⟩:=h.form;simp only [Value.slice.injEq] at hv;exact hv.2.1
 have hl:=h.lt g (by simp [Value.ownBlock]);have hc:=World.ownsRow.cells h (g:=g) (by simp [Value.ownBlock]);have pJ:∀ j,(⟨g,0,none⟩:Addr).add j=⟨g,j,none⟩:=fun j=>by unfold Addr.add;split <;> simp_all
 refine ⟨hl.2,fun j x hx=>?_,fun j x hx=>?_,fun j=>World.ownsRow.frozenAt h j⟩
 ·have:=hc (j*2) _ (V4_ hx).1;rw [pJ] at this;exact this
 ·have:=hc (j*2+1) _ (V4_ hx).2;rw [pJ] at this;exact this
theorem dQ.rats {B:Nat} {w:World} {v:Value} {l:List Rat} (h:dQ B w v l):dJ w v l:=by
 refine ⟨l.map fun q:Rat=>[Value.string (aB q.num),Value.string (aE q.den)],by simp,?_,show dD w v l.length (bn l) from dD.of_owns (show w.ownsRow B 246 2 v l.length (bn l) from h),?_⟩
 ·intro u hu;obtain ⟨x,-,rfl⟩:=List.mem_map.1 hu;rfl
 ·intro j u x hu hx;rw [nx,hx] at hu;exact (oA hu).symm
theorem dm.rats {w:World} {g c:Nat} {l:List Rat} (h:dm w g l) (h1:l.length<=c) (h2:c<=9223372036854775807):dJ w (.slice (some ⟨g,0,none⟩) l.length c) l:=by
 refine ⟨l.map fun q:Rat=>[Value.string (aB q.num),Value.string (aE q.den)],by simp,?_,?_,?_⟩
 ·intro u hu;obtain ⟨x,-,rfl⟩:=List.mem_map.1 hu;rfl
 ·refine ⟨_,c,rfl,h1,by unfold maxLen;omega,fun e=>by simp at e,fun _=>⟨g,0,rfl,h.lt,fun j u hu=>?_⟩⟩;rw [Nat.zero_add];have hj:j<(bn l).length:=(nt.1 hu).1;rw [e8] at hj;obtain ⟨q,hq⟩:∃ q,l[j / 2]?=some q:=⟨_,ns (by omega)⟩;obtain ⟨e0,e1⟩:=V4_ hq;by_cases hp:j%2=0
  ·rw [show j / 2*2=j by omega] at e0;have:u=.string (aB q.num):=oA (hu.symm.trans e0);rw [this,<- h.num _ q hq,show j / 2*2=j by omega]
  ·rw [show j / 2*2+1=j by omega] at e1;have:u=.string (aE q.den):=oA (hu.symm.trans e1);rw [this,<- h.den _ q hq,show j / 2*2+1=j by omega]
 ·intro j u x hu hx;rw [nx,hx] at hu;exact (oA hu).symm
theorem dJ.one (w:World) (q:Rat) (T:TypeId):dJ (w.alloc (.cells #[.string (aB q.num),.string (aE q.den)] T)) (.slice (some ⟨w.heap.size,0,none⟩) 1 1) [q]:=by
 refine ⟨[[.string (aB q.num),.string (aE q.den)]],rfl,by simp,?_,?_⟩;·exact dD.lit w [.string (aB q.num),.string (aE q.den)] 1 T (by unfold maxLen;omega)
 ·intro j u x hu hx;cases j with
  | zero =>
   simp only [oE,Option.some.injEq] at hu hx;subst hu;subst hx;rfl
  | succ j=>simp at hu
theorem Y4_ (W:World) {ops:Array Oper} {rest:List Oper} {o:Oper} {a:Act} {Q:Exit->Act->World->Prop} (qB:o.guard=none)
  (s x:Operand) (ho:o.op=Op.call { callee:=Callee.builtin Builtin.append,args:=#[s,x],argTypes:=#[267,267] }) (B:Nat)
  (v u:Value) (xs ys:List Rat) (hs:a.eval s=v) (hB:dQ B W v xs) (hx:a.eval x=u) (hu:dJ W u ys) (hlen:xs.length+ys.length<1000000) (od:B<=W.heap.size)
  (h:∀ v' w',dQ B w' v' (xs++ys)->Below B W w'->W.grownBy w' v.ownBlock->wpList prog ops Q rest (a.put o.dst v') w') :
  wpList prog ops Q (o::rest) a W:=by
 obtain ⟨i0,hi,hz,oe,pX⟩:=info_parts Z1p;obtain ⟨ad,c,rfl,h1,h2,h3,h4⟩:=hu.open
 have FK:∀ w',W.grownBy w' v.ownBlock->Below B W w':=fun w' hg=>⟨hg.os,hg.tape,hg.output,hg.size,fun b hb=>hg.block b (by omega) fun e=>by
  have:=(hB.lt b e.symm).1
  omega⟩
 cases ad with
 | none =>
  obtain rfl:c=0:=h3 rfl;obtain rfl:ys=[]:=List.eq_nil_of_length_eq_zero (by omega);rw [List.append_nil] at h;refine wpList_append_own_none qB s x _ ho B 246 i0 2 underlying267 hi v xs.length (bn xs) hs hB hx ?_;exact h v W hB (Below.refl _ _) (World.grownBy.refl _ _)
 | some ad =>
  refine wpList_plain qB fun K hK=>?_;refine iw W s x _ ho B 246 i0 (.agg #[.string ⟨#[]⟩,.string ⟨#[]⟩]) 2 32 underlying267 hi hz oe pX rfl (by decide) v xs.length (bn xs) hs hB ad ys.length c (bn ys) hx (e8 ys) ?_ ?_ ?_ ?_ od ?_
  ·intro j q hq;have hj:j<(bn ys).length:=(nt.1 hq).1;rw [e8] at hj;obtain ⟨b,off,e,hb,hc⟩:=h4 (by omega) (by intro e;rw [e] at hj;simp at hj);cases e;obtain ⟨r,hr⟩:∃ r,ys[j / 2]?=some r:=⟨_,ns (by omega)⟩;obtain ⟨cs,-,rfl,th⟩:=hc _ r hr;have h0:=th 0 (by omega);have h1:=th 1 (by omega);obtain ⟨e0,e1⟩:=V4_ hr;rw [show (⟨b,off,none⟩:Addr).add j=⟨b,off+j,none⟩ by unfold Addr.add;split <;> simp_all];by_cases hp:j%2=0
   ·rw [show j / 2*2=j by omega] at e0;rw [show off+(j / 2*2+0)=off+j by omega] at h0;rw [h0,<- hq,e0];rfl
   ·rw [show j / 2*2+1=j by omega] at e1;rw [show off+(j / 2*2+1)=off+j by omega] at h1;rw [h1,<- hq,e1];rfl
  ·intro z hz;unfold bn at hz;obtain ⟨l,hl,hz⟩:=List.mem_flatten.1 hz;obtain ⟨q,-,rfl⟩:=List.mem_map.1 hl;simp only [List.mem_cons,List.not_mem_nil,or_false] at hz;rcases hz with rfl | rfl <;> rfl
  ·unfold maxLen;omega
  ·omega
  ·intro v' w' hown oV _ qN;have rH:dQ B w' v' (xs++ys):=by
    unfold dQ;rw [oJ,Y7_];exact hown
   exact hK _ _ (h v' w' rH (FK w' oV) oV)
def cC (m:List (List Rat)) (i:Nat):List Rat:=m.getD i []
def aJ (m:List (List Rat)) (i c:Nat):Rat:=(cC m i).getD c 0
theorem ku {m:List (List Rat)} {i:Nat} {r:List Rat} (h:m[i]?=some r):cC m i=r:=by
 unfold cC;rw [nu,h];rfl
theorem gZ {m:List (List Rat)} {i:Nat} (h:i<m.length):m[i]?=some (cC m i):=by
 rw [ku (ns h)];exact ns h
theorem my {m:List (List Rat)} {i c:Nat} {x:Rat} (h:(cC m i)[c]?=some x):aJ m i c=x:=by
 unfold aJ;rw [nu,h];rfl
def fC (m:List (List Rat)) (c:Nat):Nat->Nat->Nat
 | 0,a=>a
 | f+1,a=>if aJ m a c=0 then fC m c f (a+1) else a
theorem x3_ (m:List (List Rat)) (c:Nat):∀ (f a b:Nat),a<=b->b<=a+f->(∀ j,a<=j->j<b->aJ m j c=0)->(b<a+f->aJ m b c≠0)->fC m c f a=b
 | 0,a,b,h1,h2,_,_=>by show a=b;omega
 | f+1,a,b,h1,h2,h3,h4=>by
  unfold fC;by_cases pU:a=b
  ·subst pU;rw [if_neg (h4 (by omega))]
  ·rw [if_pos (h3 a (n9 _) (by omega))];exact x3_ m c f (a+1) b (by omega) (by omega) (fun j hj hb=>h3 j (by omega) hb) (fun hb=>h4 (by omega))
def eG {α:Type} (new old:List α) (j:Nat):List α:=new.take j++old.drop j
theorem B2_ {α:Type} (new old:List α):eG new old 0=old:=by simp [eG]
theorem p6_ {α:Type} (new old:List α) (j:Nat) (h:new.length=old.length):(eG new old j).length=old.length:=by
 unfold eG;rw [oJ,ny,List.length_drop];omega
theorem p4_ {α:Type} (new old:List α) (j:Nat) (h:new.length=old.length) (hj:old.length<=j):eG new old j=new:=by
 unfold eG;rw [List.take_of_length_le (by omega),List.drop_eq_nil_of_le hj,List.append_nil]
theorem p5_ {α:Type} {new old:List α} {j k:Nat} {a:α} (h:new.length=old.length) (hk:j<=k) (ho:old[k]?=some a):(eG new old j)[k]?=some a:=by
 have hl:=(nt.1 ho).1;unfold eG;rw [oC (by rw [ny];omega),ny,oI,show j+(k-min j new.length)=k by omega];exact ho
theorem p7_ {α:Type} {new old:List α} {j:Nat} {a:α} (h:new.length=old.length) (hn:new[j]?=some a):(eG new old j).set j a=eG new old (j+1):=by
 have hl:=(nt.1 hn).1;have hj:j<old.length:=by omega
 unfold eG;rw [nz,hn,List.set_append_right _ _ (by rw [ny];omega),ny,show j-min j new.length=0 by omega];have e:=List.drop_eq_getElem_cons hj;rw [e,List.set_cons_zero,List.append_assoc];rfl
def dK (r:List Rat) (q:Rat):List Rat:=r.map (· / q)
def fh (r s:List Rat) (f:Rat):List Rat:=List.zipWith (fun x y=>x-f*y) r s
theorem b9_ {r:List Rat} {q x:Rat} {j:Nat} (h:r[j]?=some x):(dK r q)[j]?=some (x / q):=by
 simp [dK,h]
theorem Z0s {r s:List Rat} {f x y:Rat} {j:Nat} (h:r[j]?=some x) (h':s[j]?=some y):(fh r s f)[j]?=some (x-f*y):=by
 simp [fh,List.getElem?_zipWith,h,h']
theorem V5_ (r:List Rat) (q:Rat):(dK r q).length=r.length:=by simp [dK]
theorem A6_ (r s:List Rat) (f:Rat) (h:s.length=r.length):(fh r s f).length=r.length:=by simp [fh,h]
def iA (p:List Rat) (c k i:Nat) (r:List Rat):List Rat:=if i=k\/r.getD c 0=0 then r else fh r p (r.getD c 0)
def dS (m:List (List Rat)) (p:List Rat) (c k:Nat):Nat->List (List Rat)
 | 0=>m
 | j+1=>(dS m p c k j).set j (iA p c k j (cC (dS m p c k j) j))
theorem jm (m:List (List Rat)) (p:List Rat) (c k j:Nat):(dS m p c k j).length=m.length:=by
 induction j with
 | zero=>rfl
 | succ j ih=>show ((dS m p c k j).set j _).length=_;rw [List.length_set,ih]
theorem V7_ (m:List (List Rat)) (p:List Rat) (c k:Nat):∀ (j i:Nat),j<=i->(dS m p c k j)[i]?=m[i]?
 | 0,i,_=>rfl
 | j+1,i,h=>by
  show ((dS m p c k j).set j _)[i]?=_;rw [oK,if_neg (by omega)];exact V7_ m p c k j i (by omega)
theorem Z17 {p:List Rat} {c k i:Nat} {r:List Rat} (h:p.length=r.length):(iA p c k i r).length=r.length:=by
 unfold iA;split;·rfl
 ·exact A6_ _ _ _ h
theorem O3_ (m:List (List Rat)) (p:List Rat) (c k:Nat):∀ j,(dS m p c k j)[k]?=m[k]?
 | 0=>rfl
 | j+1=>by
  show ((dS m p c k j).set j _)[k]?=_;by_cases h:j=k
  ·subst h;rw [oK,if_pos rfl];have e:=V7_ m p c j j j (n9 _);by_cases hl:j<m.length
   ·rw [if_pos (by rw [jm];exact hl)];unfold iA;rw [if_pos (.inl rfl)];rw [<- e];exact (gZ (by rw [jm];exact hl)).symm
   ·rw [if_neg (by rw [jm];exact hl),n_ (by omega)]
  ·rw [oK,if_neg h];exact O3_ m p c k j
structure eu where
 m:List (List Rat)
 lead:List Nat
 det:Rat
def cD (c:Nat) (s:eu):eu :=
 let k:=s.lead.length
 let a:=fC s.m c (s.m.length-k) k
 if a=s.m.length then ⟨s.m,s.lead,0⟩
 else
  let m1:=if a=k then s.m else bu s.m k a
  let d1:=if a=k then s.det else -s.det
  let f:=aJ m1 k c
  let m2:=m1.set k (dK (cC m1 k) f)
  ⟨dS m2 (dK (cC m1 k) f) c k m2.length,s.lead++[c],d1*f⟩
def ah (m:List (List Rat)):Nat->eu
 | 0=>⟨m,[],1⟩
 | c+1=>cD c (ah m c)
def bw (C:Nat) (m:List (List Rat)):Prop:=∀ r∈m,r.length=C
theorem bw.get {C:Nat} {m:List (List Rat)} (h:bw C m) {i:Nat} {r:List Rat} (hr:m[i]?=some r):r.length=C:=h r (nw hr)
theorem bw.set {C:Nat} {m:List (List Rat)} (h:bw C m) (i:Nat) {r:List Rat} (hr:r.length=C):bw C (m.set i r):=fun q hq=>by
 rcases List.mem_or_eq_of_mem_set hq with hq | rfl;·exact h q hq
 ·exact hr
theorem bw.swp {C:Nat} {m:List (List Rat)} (h:bw C m) (i j:Nat):bw C (bu m i j):=by
 unfold Proofs.YtoonaddcfakamaaGreatDoor.bu
 split
 ·rename_i a b ha hb;exact (h.set i (h.get hb)).set j (h.get ha)
 ·exact h
theorem bw.elim {C:Nat} {m:List (List Rat)} (h:bw C m) {p:List Rat} (hp:p.length=C) (c k:Nat):∀ j,j<=m.length->bw C (dS m p c k j)
 | 0,_=>h
 | j+1,hj=>by
  have ih:=bw.elim h hp c k j (by omega);have hr:=ih.get (gZ (m:=dS m p c k j) (i:=j) (by rw [jm];omega));exact ih.set j (by rw [Z17 (by rw [hp,hr])];exact hr)
theorem i6_ {C c : Nat} {s : eu} (h : bw C s.m) (hk : s.lead.length <= s.m.length) : bw C (cD c s).m /\ (cD c s).m.length = s.m.length /\ (cD c s).lead.length <= s.m.length := by
  unfold cD;simp only;by_cases ha : fC s.m c (s.m.length - s.lead.length) s.lead.length = s.m.length;· rw [if_pos ha]; exact ⟨h, rfl, hk⟩
  · rw [if_neg ha]
    have ph : ∀ a, bw C (if a = s.lead.length then s.m else Proofs.YtoonaddcfakamaaGreatDoor.bu s.m s.lead.length a) /\ (if a = s.lead.length then s.m else Proofs.YtoonaddcfakamaaGreatDoor.bu s.m s.lead.length a).length = s.m.length := by
      intro a; split;· exact ⟨h, rfl⟩
      · exact ⟨h.swp _ _, mE _ _ _⟩
    have y7 : ∀ f a, fC s.m c f a <= a + f := by
      intro f
      induction f with
      | zero => intro a; exact n9 _
      | succ f ih => intro a; unfold fC; split
                     · have := ih (a + 1); omega
                     · omega
    have hlt : s.lead.length < s.m.length := by
      false_or_by_contra
      rename_i hn;have e : s.m.length - s.lead.length = 0 := by omega
      rw [e] at ha;exact ha (by show s.lead.length = _; omega)
    generalize fC s.m c (s.m.length - s.lead.length) s.lead.length = a at *
    obtain ⟨r1, r2⟩ := ph a;generalize (if a = s.lead.length then s.m else Proofs.YtoonaddcfakamaaGreatDoor.bu s.m s.lead.length a) = m1 at *
    have hr := r1.get (gZ (m := m1) (i := s.lead.length) (by omega));have hd : (dK (cC m1 s.lead.length) (aJ m1 s.lead.length c)).length = C := by rw [V5_, hr]
    refine ⟨(r1.set _ hd).elim hd c _ _ (n9 _), by rw [jm, List.length_set, r2], by rw [oJ]; simp; omega⟩
theorem nV {C:Nat} {m:List (List Rat)} (h:bw C m):∀ c,bw C (ah m c).m/\(ah m c).m.length=m.length/\(ah m c).lead.length<=m.length
 | 0=>⟨h,rfl,Nat.zero_le _⟩
 | c+1=>by
  obtain ⟨h1,h2,h3⟩:=nV h c;obtain ⟨k1,k2,k3⟩:=i6_ (c:=c) h1 (by omega);exact ⟨k1,by show (cD c (ah m c)).m.length=_;omega,by show (cD c (ah m c)).lead.length<=_;omega⟩
def fi (K:Nat) (m:List (List Rat)):Prop:=∀ r∈m,∀ x∈r,RS K x
theorem fi.get {K:Nat} {m:List (List Rat)} (h:fi K m) {i j:Nat} {r:List Rat} {x:Rat} (hr:m[i]?=some r) (hx:r[j]?=some x):RS K x:=h r (nw hr) x (nw hx)
theorem fi.swp {K:Nat} {m:List (List Rat)} (h:fi K m) (i j:Nat):fi K (Proofs.YtoonaddcfakamaaGreatDoor.bu m i j):=by
 unfold Proofs.YtoonaddcfakamaaGreatDoor.bu
 split
 ·rename_i a b ha hb;intro r hr x hx;rcases List.mem_or_eq_of_mem_set hr with hr | rfl
  ·rcases List.mem_or_eq_of_mem_set hr with hr | rfl;·exact h r hr x hx
   ·exact h _ (nw hb) x hx
  ·exact h _ (nw ha) x hx
 ·exact h
theorem P0_ (n:Int) (d:Nat) (hd:d≠0):(aB (mkRat n d).num).size<=(aB n).size/\(aE (mkRat n d).den).size<=(aE d).size:=by
 obtain ⟨h1,h2⟩:=X1_ n d hd;rw [h1,h2];exact ⟨Z15 _ _,ib (Nat.div_le_self _ _)⟩
theorem Z4j {K L:Nat} {x y:Rat} (hx:RS K x) (hy:RS L y):RS (K+L+1) (x*y):=by
 have h:=P0_ (x.num*y.num) (x.den*y.den) (Nat.mul_ne_zero x.den_nz y.den_nz);rw [<- Rat.mul_def'] at h;have h1:=jr x.num y.num;have h2:=nQ x.den y.den;have a1:=hx.1;have a2:=hx.2;have a3:=hy.1;have a4:=hy.2;exact ⟨by omega,by omega⟩
theorem Z5z {K:Nat} {y:Rat} (hy:RS K y) (h0:y≠0):RS (K+1) y⁻¹:=by
 rw [Rat.inv_def];have hn:y.num≠0:=fun h=>h0 (Rat.num_eq_zero.1 h);have a3:=hy.1;have a4:=hy.2;have hs1:=gB (-(y.den:Int));have hs2:=dw y.num;rw [Int.natAbs_neg] at hs1;have e2:(y.den:Int).natAbs=y.den:=rfl;rw [e2] at hs1;by_cases h:y.num<0
 ·have e:y.num=-(y.num.natAbs:Int):=by omega
  rw [e,D2_ _ _ (by omega)];have:=P0_ (-(y.den:Int)) y.num.natAbs (by omega);exact ⟨by omega,by omega⟩
 ·have e:y.num=(y.num.natAbs:Int):=by omega
  rw [e,D3_];have:=P0_ (y.den:Int) y.num.natAbs (by omega);rw [eb] at this;exact ⟨by omega,by omega⟩
theorem Z4c {K L:Nat} {x y:Rat} (hx:RS K x) (hy:RS L y) (h0:y≠0):RS (K+L+2) (x / y):=by
 rw [Rat.div_def];exact (Z4j hx (Z5z hy h0)).mono (by omega)
theorem Z5E {K:Nat} {y:Rat} (hy:RS K y):RS (K+1) (-y):=by
 refine ⟨?_,by show (aE y.den).size<=_;have:=hy.2;omega⟩;have h1:=gB (-y.num);have h2:=dw y.num;rw [Int.natAbs_neg] at h1;rw [Rat.neg_num];have:=hy.1;omega
end Go.Proofs.YtoonaddcfakamaaGreatDoor
