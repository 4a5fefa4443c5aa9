import Derived.Test.YtjlkkofmojgipaaGreatDoorVAH
import Derived.Test.YtjlkkofmojgipaaGreatDoorVAG
set_option linter.unusedVariables false
set_option linter.unusedSimpArgs false
set_option maxRecDepth 1000000
set_option maxHeartbeats 8000000
namespace Go.Proofs.YtjlkkofmojgipaaGreatDoor
open Go.RowKit Go.Proofs.Tryz
theorem kG {P:Program} {fn:Func} {p s:Tmp} {ty:TypeId} (h:fn.results=#[.cell p ty,.tmp s]) (tmps:Array Value) (w:World) (g:Nat) (t:TypeId) (cs:Array Value) (fr:Nat×Nat) (d:TypeDesc) (v:Value)
  (hp:tmps.getD p undef=.pointer (some ⟨g,0,none⟩)) (hs:tmps.getD s undef=v) (hg:w.heap[g]?=some (.cells cs t fr))
  (hu:P.underlying ty=some d) (hd:(match d with | .struct _ | .array _ _=>true | _=>false)=true) (hi:(P.info? ty).map (·.size)=some cs.size) :
  (results fn tmps).run P w=.ok (.tuple #[.agg cs,v]) w:=by
 have rZ:tmps[p]?.getD undef=.pointer (some ⟨g,0,none⟩):=by simpa using hp
 have sE:tmps[s]?.getD undef=v:=by simpa using hs
 simp [results,h,rZ,sE,asAddr,run_loadVar_row w g t ty cs fr d hg hu hd hi]
theorem Z15 (x y:Rat) (w:World) (hx:RS 13000 x) (hy:RS 13000 y) (ph:y≠0) (ht:ae w) :
  oX 164 #[bR x,bR y] w (.tuple #[bR (x / y),.int .i64 0]):=by
 have HT:=oA ht;clear ht;obtain ⟨W1,qm,hE1,hs1,hb1⟩:=dU w (.string (aB x.num)) (.string (aE x.den)) 152;obtain ⟨W2,tl,hE2,hs2,hb2⟩:=dU W1 (.string (aB y.num)) (.string (aE y.den)) 152;obtain ⟨W3,xl,oz,hs3,pf⟩:=dU W2 (.string ⟨#[]⟩) (.string ⟨#[]⟩) 152;have hb1':=aJ hb1 (hE2.trans oz);have hb2':=aJ hb2 oz;have HE:=oA ((hE1.trans hE2).trans oz);have HR:Hid (w.heap.size<=W2.heap.size):=by unfold Hid;omega
 have HN1:Hid (w.heap.size≠W2.heap.size):=by unfold Hid;omega
 have rD:Hid (W1.heap.size≠W2.heap.size):=by unfold Hid;omega
 have HC:Hid (∀ W,aA W3 W->W.cell? ⟨w.heap.size,0,none⟩=some (.string (aB x.num))/\W.cell? ⟨w.heap.size,1,none⟩=some (.string (aE x.den))/\W.cell? ⟨W1.heap.size,0,none⟩=some (.string (aB y.num))/\W.cell? ⟨W1.heap.size,1,none⟩=some (.string (aE y.den))/\W.cell? ⟨W2.heap.size,0,none⟩=some (.string ⟨#[]⟩)/\W.cell? ⟨W2.heap.size,1,none⟩=some (.string ⟨#[]⟩)/\W.frozen? ⟨W2.heap.size,0,none⟩=false/\W.frozen? ⟨W2.heap.size,1,none⟩=false/\W.heap[W2.heap.size]?=some (.cells #[.string ⟨#[]⟩,.string ⟨#[]⟩] 152 (0,0))):=fun W hW=>by
  obtain ⟨a0,a1,-⟩:=dS (aJ hb1' hW);obtain ⟨b0,b1,-⟩:=dS (aJ hb2' hW);obtain ⟨c0,c1,cf⟩:=dS (aJ pf hW);exact ⟨a0,a1,b0,b1,c0,c1,cf 0,cf 1,aJ pf hW⟩
 have hSG:=fun W=>U4_ y W;have yJ:y.num≠0:=fun h=>ph (Rat.num_eq_zero.1 h);have hsg:(y.num.sign == 0)=false:=by rw [beq_eq_false_iff_ne];exact fun h=>yJ (Int.sign_eq_zero_iff_zero.1 h)
 have wI:∀ W,aA w W->Calls prog 63 #[.string (aB x.num),.string (aE y.den)] W fun e w'=>e=.returned (.string (aB (x.num*(y.den:Int))))/\aA W w':=fun W hW=>by
  have:=i_ x.num (y.den:Int) W (by have:=hx.1;omega) (by rw [eb];have:=hy.2;omega) (HT.ext hW);rw [eb] at this;exact this
 have sC:∀ W,aA w W->Calls prog 63 #[.string (aE x.den),.string (aB y.num)] W fun e w'=>e=.returned (.string (aB ((x.den:Int)*y.num)))/\aA W w':=fun W hW=>by
  have:=i_ (x.den:Int) y.num W (by rw [eb];have:=hx.2;omega) (by have:=hy.1;omega) (HT.ext hW);rw [eb] at this;exact this
 have hL:∀ W,aA w W->Calls prog 200 #[.string (aB (x.num*(y.den:Int))),.string (aB ((x.den:Int)*y.num))] W fun e w'=>e=.returned (bR (x / y))/\aA W w':=fun W hW=>by
  rw [<- Z18];have h1:=iR x.num (y.den:Int);have h2:=iR (x.den:Int) y.num;rw [eb y.den] at h1;rw [eb x.den] at h2;have h3:=hx.1;have h4:=hx.2;have h5:=hy.1;have h6:=hy.2;exact Q8_ _ _ W (Int.mul_ne_zero (by have:=x.den_nz;omega) yJ) (by omega) (by omega) (HT.ext hW)
 have HM1:=oA wI;have HM2:=oA sC;have HL:=oA hL;have HSG:=oA hSG;have pd:∀ q:Rat,bR q=.agg #[.string (aB q.num),.string (aE q.den)]:=fun _=>rfl;obtain ⟨Z,hZ⟩:=oc (x / y);obtain ⟨sg,tE⟩:=oc y.num.sign;rw [<- hZ] at HL |-;rw [<- tE] at HSG hsg;rw [pd x];rw [pd y] at HSG |-;rw [pd Z] at HL |-;clear hE1 hE2 oz hs1 hs2 hs3 hb1 hb2 pf hb1' hb2' wI sC hL hSG pd hx hy ph yJ tE;obtain ⟨n1,qB⟩:=oc (aB x.num);obtain ⟨d1,qx⟩:=oc (aE x.den);obtain ⟨n2,qV⟩:=oc (aB y.num);obtain ⟨d2,hd2⟩:=oc (aE y.den);obtain ⟨n4,th⟩:=oc (aB Z.num);obtain ⟨d4,sO⟩:=oc (aE Z.den);obtain ⟨n3,xK⟩:=oc (aB (x.num*(y.den:Int)));obtain ⟨d3,xd⟩:=oc (aB ((x.den:Int)*y.num));rw [<- qB,<- hd2,<- xK] at HM1;rw [<- qx,<- qV,<- xd] at HM2;rw [<- xK,<- xd,<- th,<- sO] at HL;rw [<- th,<- sO];rw [<- qB,<- qx,<- qV,<- hd2] at HC |-;rw [<- qB,<- qx] at qm;rw [<- qV,<- hd2] at tl HSG;clear qB qx qV hd2 xK xd th sO hZ;obtain ⟨c0,c1,c2,c3,c4,c5,c6,c7,-⟩:=HC W3 (aA.refl _)
 go_enter func164,ntmps164
 go_wp2_with fail;refine o_ (HSG _) ?_;intro w4 HE4;clear HSG c0 c1 c2 c3 c4 c5 c6 c7;go_wp2_with fail;have HX3:=oA (aA.trans (aA.trans HE HE4) (aA.drew _));obtain ⟨y1,y2,y3,y4,-,-,-,-,yb⟩:=HC _ (aA.trans HE4 (aA.drew _));have HB3:Hid (af W2.heap.size (w4).drew):=⟨_,_,yb⟩;clear yb
 go_region_held3 (fun w'=>w'.cell? ⟨w.heap.size,0,none⟩=some (.string n1)/\w'.cell? ⟨w.heap.size,1,none⟩=some (.string d1)/\w'.cell? ⟨W1.heap.size,0,none⟩=some (.string n2)/\w'.cell? ⟨W1.heap.size,1,none⟩=some (.string d2)/\Hid (aA w w')/\Hid (af W2.heap.size w'))
  (first | exact ⟨z1,z2,z3,z4,z5,z6⟩ | exact ⟨dV HN1 z1,dV HN1 z2,dV rD z3,dV rD z4,oA (eH z5.out HR),oA z6.out.set2⟩ | exact ⟨y1,y2,y3,y4,HX3,HB3⟩ | go_keep)
  (first
   | (go_at_call 63;have hc:=HM1 _ (Hid.out (p:=aA w _) (by assumption));with_reducible refine hc.mono ?_;clear hc;rintro e w6 ⟨rfl,ou⟩;have q1:=ou.cell (a:=⟨w.heap.size,0,none⟩) (v:=.string n1) (by assumption);have q2:=ou.cell (a:=⟨w.heap.size,1,none⟩) (v:=.string d1) (by assumption);have q3:=ou.cell (a:=⟨W1.heap.size,0,none⟩) (v:=.string n2) (by assumption);have q4:=ou.cell (a:=⟨W1.heap.size,1,none⟩) (v:=.string d2) (by assumption);have q5:=oA (aA.trans (Hid.out (p:=aA w _) (by assumption)) ou);have q6:=oA (af.ext (Hid.out (p:=af W2.heap.size _) (by assumption)) ou);(try clear z1 z2 z3 z4 z5 z6 t0 t1 f0 f1);have z1:=q1;have z2:=q2;have z3:=q3;have z4:=q4;have z5:=q5;have z6:=q6;obtain ⟨r0,r1,t0,t1,f0,f1⟩:=z6.out.open;clear ou q1 q2 q3 q4 q5 q6)
   | (go_at_call 63;have hc:=HM2 _ (Hid.out (p:=aA w _) (by assumption));with_reducible refine hc.mono ?_;clear hc;rintro e w6 ⟨rfl,ou⟩;have q1:=ou.cell (a:=⟨w.heap.size,0,none⟩) (v:=.string n1) (by assumption);have q2:=ou.cell (a:=⟨w.heap.size,1,none⟩) (v:=.string d1) (by assumption);have q3:=ou.cell (a:=⟨W1.heap.size,0,none⟩) (v:=.string n2) (by assumption);have q4:=ou.cell (a:=⟨W1.heap.size,1,none⟩) (v:=.string d2) (by assumption);have q5:=oA (aA.trans (Hid.out (p:=aA w _) (by assumption)) ou);have q6:=oA (af.ext (Hid.out (p:=af W2.heap.size _) (by assumption)) ou);(try clear z1 z2 z3 z4 z5 z6 t0 t1 f0 f1);have z1:=q1;have z2:=q2;have z3:=q3;have z4:=q4;have z5:=q5;have z6:=q6;obtain ⟨r0,r1,t0,t1,f0,f1⟩:=z6.out.open;clear ou q1 q2 q3 q4 q5 q6)
   | (go_at_call 200;have hc:=HL _ (Hid.out (p:=aA w _) (by assumption));with_reducible refine hc.mono ?_;clear hc;rintro e w6 ⟨rfl,ou⟩;have q1:=ou.cell (a:=⟨w.heap.size,0,none⟩) (v:=.string n1) (by assumption);have q2:=ou.cell (a:=⟨w.heap.size,1,none⟩) (v:=.string d1) (by assumption);have q3:=ou.cell (a:=⟨W1.heap.size,0,none⟩) (v:=.string n2) (by assumption);have q4:=ou.cell (a:=⟨W1.heap.size,1,none⟩) (v:=.string d2) (by assumption);have q5:=oA (aA.trans (Hid.out (p:=aA w _) (by assumption)) ou);have q6:=oA (af.ext (Hid.out (p:=af W2.heap.size _) (by assumption)) ou);(try clear z1 z2 z3 z4 z5 z6 t0 t1 f0 f1);have z1:=q1;have z2:=q2;have z3:=q3;have z4:=q4;have z5:=q5;have z6:=q6;obtain ⟨r0,r1,t0,t1,f0,f1⟩:=z6.out.open;clear ou q1 q2 q3 q4 q5 q6))
 all_goals
  have hb7:=af.res (x:=.string n4) (y:=.string d4) z6.out;go_wp2_with fail;refine bodyPost_ret (kG (by rfl) _ _ W2.heap.size 152 #[.string n4,.string d4] (0,0) _ (.int .i64 0) (by rfl) (by rfl) hb7 underlying152 (by rfl) (by kernel_rfl)) (by rfl) ⟨rfl,?_⟩;exact eH z5.out HR
theorem Z17 (x y:Rat):Rat.divInt (x.num*(y.den:Int)+y.num*(x.den:Int)) ((x.den:Int)*(y.den:Int))=x+y:=by
 rw [Rat.add_def',<- Int.natCast_mul];rfl
theorem h3_ (x y:Rat) (hx:x.den=1) (hy:y.den=1):(x+y).num=x.num+y.num/\(x+y).den=1:=by
 rw [Rat.add_def',hx,hy];obtain ⟨h1,h2⟩:=X0_ (x.num*((1:Nat):Int)+y.num*((1:Nat):Int)) (1*1) (by omega);rw [h1,h2];simp
theorem Z14 (x y:Rat) (w:World) (hx:RS 12000 x) (hy:RS 12000 y) (ht:ae w) :
  oX 201 #[bR x,bR y] w (bR (x+y)):=by
 have HT:=oA ht;clear ht;obtain ⟨W1,qm,hE1,hs1,hb1⟩:=dU w (.string (aB x.num)) (.string (aE x.den)) 152;obtain ⟨W2,tl,hE2,hs2,hb2⟩:=dU W1 (.string (aB y.num)) (.string (aE y.den)) 152;obtain ⟨W3,xl,oz,hs3,pf⟩:=dU W2 (.string ⟨#[]⟩) (.string ⟨#[]⟩) 152;have hb1':=aJ hb1 (hE2.trans oz);have hb2':=aJ hb2 oz;have HE:=oA ((hE1.trans hE2).trans oz);have HR:Hid (w.heap.size<=W2.heap.size):=by unfold Hid;omega
 have HN1:Hid (w.heap.size≠W2.heap.size):=by unfold Hid;omega
 have rD:Hid (W1.heap.size≠W2.heap.size):=by unfold Hid;omega
 have HC:Hid (∀ W,aA W3 W->W.cell? ⟨w.heap.size,0,none⟩=some (.string (aB x.num))/\W.cell? ⟨w.heap.size,1,none⟩=some (.string (aE x.den))/\W.cell? ⟨W1.heap.size,0,none⟩=some (.string (aB y.num))/\W.cell? ⟨W1.heap.size,1,none⟩=some (.string (aE y.den))/\W.cell? ⟨W2.heap.size,0,none⟩=some (.string ⟨#[]⟩)/\W.cell? ⟨W2.heap.size,1,none⟩=some (.string ⟨#[]⟩)/\W.frozen? ⟨W2.heap.size,0,none⟩=false/\W.frozen? ⟨W2.heap.size,1,none⟩=false/\W.heap[W2.heap.size]?=some (.cells #[.string ⟨#[]⟩,.string ⟨#[]⟩] 152 (0,0))):=fun W hW=>by
  obtain ⟨a0,a1,-⟩:=dS (aJ hb1' hW);obtain ⟨b0,b1,-⟩:=dS (aJ hb2' hW);obtain ⟨c0,c1,cf⟩:=dS (aJ pf hW);exact ⟨a0,a1,b0,b1,c0,c1,cf 0,cf 1,aJ pf hW⟩
 have HB1:Hid (∀ W,Calls prog 198 #[bR x] W fun e w'=>∃ a b,e=.returned (.tuple #[.int .i64 a,.int .i64 b,.bool (decide ((aB x.num).size<=9) && decide ((aE x.den).size<=9))])/\Hid ((aB x.num).size<=9/\(aE x.den).size<=9->a=x.num/\b=x.den)/\aA W w'):=fun W=>T5_ x W;have HB2:Hid (∀ W,Calls prog 198 #[bR y] W fun e w'=>∃ a b,e=.returned (.tuple #[.int .i64 a,.int .i64 b,.bool (decide ((aB y.num).size<=9) && decide ((aE y.den).size<=9))])/\Hid ((aB y.num).size<=9/\(aE y.den).size<=9->a=y.num/\b=y.den)/\aA W w'):=fun W=>T5_ y W;obtain ⟨bx,hbx⟩:=oc ((decide ((aB x.num).size<=9) && decide ((aE x.den).size<=9)));obtain ⟨by',hby⟩:=oc ((decide ((aB y.num).size<=9) && decide ((aE y.den).size<=9)));rw [<- hbx] at HB1;rw [<- hby] at HB2;have HBX:Hid (bx=true->(aB x.num).size<=9/\(aE x.den).size<=9):=by
  intro h;rw [hbx,Bool.and_eq_true,decide_eq_true_iff,decide_eq_true_iff] at h;exact h
 have HBY:Hid (by'=true->(aB y.num).size<=9/\(aE y.den).size<=9):=by
  intro h;rw [hby,Bool.and_eq_true,decide_eq_true_iff,decide_eq_true_iff] at h;exact h
 have h3:=hx.1;have h4:=hx.2;have h5:=hy.1;have h6:=hy.2;have wI:∀ W,aA w W->Calls prog 63 #[.string (aB x.num),.string (aE y.den)] W fun e w'=>e=.returned (.string (aB (x.num*(y.den:Int))))/\aA W w':=fun W hW=>by
  have:=i_ x.num (y.den:Int) W (by omega) (by rw [eb];omega) (HT.ext hW);rw [eb] at this;exact this
 have sC:∀ W,aA w W->Calls prog 63 #[.string (aB y.num),.string (aE x.den)] W fun e w'=>e=.returned (.string (aB (y.num*(x.den:Int))))/\aA W w':=fun W hW=>by
  have:=i_ y.num (x.den:Int) W (by omega) (by rw [eb];omega) (HT.ext hW);rw [eb] at this;exact this
 have Ap:∀ W,aA w W->Calls prog 63 #[.string (aE x.den),.string (aE y.den)] W fun e w'=>e=.returned (.string (aB ((x.den:Int)*(y.den:Int))))/\aA W w':=fun W hW=>by
  have:=i_ (x.den:Int) (y.den:Int) W (by rw [eb];omega) (by rw [eb];omega) (HT.ext hW);rw [eb,eb] at this;exact this
 have s1:=iR x.num (y.den:Int);have s2:=iR y.num (x.den:Int);have s3:=iR (x.den:Int) (y.den:Int);rw [eb y.den] at s1;rw [eb x.den] at s2;rw [eb x.den,eb y.den] at s3;have s4:=q1_ (x.num*(y.den:Int)) (y.num*(x.den:Int));have hA:∀ W,aA w W->Calls prog 61 #[.string (aB (x.num*(y.den:Int))),.string (aB (y.num*(x.den:Int)))] W fun e w'=>e=.returned (.string (aB (x.num*(y.den:Int)+y.num*(x.den:Int))))/\aA W w':=fun W hW=>L0_ _ _ W (by omega) (by omega) (HT.ext hW);have hL:∀ W,aA w W->Calls prog 200 #[.string (aB (x.num*(y.den:Int)+y.num*(x.den:Int))),.string (aB ((x.den:Int)*(y.den:Int)))] W fun e w'=>e=.returned (bR (x+y))/\aA W w':=fun W hW=>by
  rw [<- Z17];exact Q8_ _ _ W (by rw [<- Int.natCast_mul];have:=Nat.mul_ne_zero x.den_nz y.den_nz;omega) (by omega) (by omega) (HT.ext hW)
 have hS:∀ W,aA w W->Calls prog 61 #[.string (aB x.num),.string (aB y.num)] W fun e w'=>e=.returned (.string (aB (x.num+y.num)))/\aA W w':=fun W hW=>L0_ _ _ W (by omega) (by omega) (HT.ext hW);have HM1:=oA wI;have HM2:=oA sC;have HM3:=oA Ap;have HA:=oA hA;have HL:=oA hL;have HS:=oA hS;have HOF:Hid ((aB x.num).size<=9/\(aE x.den).size<=9->(aB y.num).size<=9/\(aE y.den).size<=9->∃ (p1 p2 q:Int),x.num*(y.den:Int)=p1/\y.num*(x.den:Int)=p2/\(x.den:Int)*(y.den:Int)=q/\-1000000000000000000<=p1/\p1<=1000000000000000000/\-1000000000000000000<=p2/\p2<=1000000000000000000/\-1000000000000000000<=q/\q<=1000000000000000000/\∀ W,aA w W->oX 199 #[.int .i64 (p1+p2),.int .i64 q] W (bR (x+y))):=by
  intro h1 h2;have a1:=jV h1.1;have a2:=jV (n:=(x.den:Int)) (by rw [eb];exact h1.2);have a3:=jV h2.1;have a4:=jV (n:=(y.den:Int)) (by rw [eb];exact h2.2);have m1:=mD a1.1 a1.2 a4.1 a4.2 (by omega) (by omega);have m2:=mD a3.1 a3.2 a2.1 a2.2 (by omega) (by omega);have m3:=mD a2.1 a2.2 a4.1 a4.2 (by omega) (by omega);refine ⟨_,_,_,rfl,rfl,rfl,by omega,by omega,by omega,by omega,by omega,by omega,fun W hW=>?_⟩;have Fc:0<x.den*y.den:=Nat.mul_pos x.den_pos y.den_pos;rw [<- Int.natCast_mul] at m3 |-;have:=Z25 (x.num*(y.den:Int)+y.num*(x.den:Int)) (x.den*y.den) W (by omega) (by omega) Fc (by omega) (HT.ext hW);rw [Rat.add_def'];exact this
 have ho1:=i6_ x.den;have ho2:=i6_ y.den;have vH:Hid (x.den=1->y.den=1->aB (x.num+y.num)=aB (x+y).num/\aE (x+y).den=⟨#[49]⟩):=fun h1 h2=>by
  obtain ⟨e1,e2⟩:=h3_ x y h1 h2;rw [e1,e2];exact ⟨rfl,by unfold aE;rw [Lib.decDigits_one (by omega)];rfl⟩
 have pd:∀ q:Rat,bR q=.agg #[.string (aB q.num),.string (aE q.den)]:=fun _=>rfl;obtain ⟨o1,AN⟩:=oc (decide (x.den=1));obtain ⟨o2,AM⟩:=oc (decide (y.den=1));rw [<- AN] at ho1;rw [<- AM] at ho2;have x6:Hid (o1=true->o2=true->x.den=1/\y.den=1):=fun h1 h2=>⟨of_decide_eq_true (AN▸h1),of_decide_eq_true (AM▸h2)⟩
 obtain ⟨Z,hZ⟩:=oc (x+y);rw [<- hZ] at HL HOF vH |-;rw [pd x] at HB1 |-;rw [pd y] at HB2 |-;rw [pd Z] at HL HOF |-;clear hE1 hE2 oz hs1 hs2 hs3 hb1 hb2 pf hb1' hb2' hbx hby wI sC Ap hA hL hS pd hx hy h3 h4 h5 h6 s1 s2 s3 s4 AN AM hZ;obtain ⟨n1,qB⟩:=oc (aB x.num);obtain ⟨d1,qx⟩:=oc (aE x.den);obtain ⟨n2,qV⟩:=oc (aB y.num);obtain ⟨d2,hd2⟩:=oc (aE y.den);obtain ⟨n4,th⟩:=oc (aB Z.num);obtain ⟨d4,sO⟩:=oc (aE Z.den);obtain ⟨m1,hm1⟩:=oc (aB (x.num*(y.den:Int)));obtain ⟨m2,wO⟩:=oc (aB (y.num*(x.den:Int)));obtain ⟨m3,vR⟩:=oc (aB ((x.den:Int)*(y.den:Int)));obtain ⟨m4,wN⟩:=oc (aB (x.num*(y.den:Int)+y.num*(x.den:Int)));obtain ⟨m5,E5⟩:=oc (aB (x.num+y.num));rw [<- qB,<- hd2,<- hm1] at HM1;rw [<- qV,<- qx,<- wO] at HM2;rw [<- qx,<- hd2,<- vR] at HM3;rw [<- hm1,<- wO,<- wN] at HA;rw [<- wN,<- vR,<- th,<- sO] at HL;rw [<- qB,<- qV,<- E5] at HS;rw [<- E5,<- th,<- sO] at vH;rw [<- th,<- sO] at HOF |-;rw [<- qB,<- qx,<- qV,<- hd2] at HC |-;rw [<- qB,<- qx] at qm HB1 HBX HOF;rw [<- qV,<- hd2] at tl HB2 HBY HOF;rw [<- qx] at ho1;rw [<- hd2] at ho2;clear qB qx qV hd2 th sO hm1 wO vR wN E5;obtain ⟨c0,c1,c2,c3,c4,c5,c6,c7,cb⟩:=HC W3 (aA.refl _);by_cases sF:o1=true/\o2=true
 ·obtain ⟨h1,h2⟩:=sF;obtain ⟨k1,k2⟩:=x6 h1 h2;obtain ⟨e5,e4⟩:=vH k1 k2;rw [h1] at ho1;rw [h2] at ho2;rw [e5] at HS;rw [e4];have JQ:af W2.heap.size W3:=⟨_,_,cb⟩;have HBL:=oA JQ;clear h1 h2 k1 k2 e5 e4 cb JQ HM1 HM2 HM3 HA HL HOF HB1 HB2 HBX HBY vH x6
  go_enter func201,ntmps201
  go_wp2_with fail;refine (HS _ HE).mono ?_;rintro e w6 ⟨rfl,ou⟩;have HE6:=oA (aA.trans HE ou);have z6:=oA (HBL.ext ou);obtain ⟨r0,r1,t0,t1,f0,f1⟩:=z6.out.open;clear ou HS c0 c1 c2 c3 c4 c5 c6 c7;have hb7:=af.res (x:=.string n4) (y:=.string ⟨#[49]⟩) z6.out;go_wp2_with fail;refine bodyPost_ret (results_cell_row (by rfl) _ _ W2.heap.size 152 #[.string n4,.string ⟨#[49]⟩] (0,0) _ (by rfl) hb7 underlying152 (by rfl) (by kernel_rfl)) (by rfl) ⟨rfl,?_⟩;exact eH HE6 HR
 ·have CL:o1=false\/(o1=true/\o2=false):=by
   cases o1;·exact .inl rfl
   ·cases o2;·exact .inr ⟨rfl,rfl⟩
    ·exact absurd ⟨rfl,rfl⟩ sF
  clear sF vH x6 HS cb;rcases CL with h1 | ⟨h1,h2⟩
  case' inl =>
   rw [h1] at ho1;clear h1 ho2
  case' inr =>
   rw [h1] at ho1;rw [h2] at ho2;clear h1 h2
  all_goals
   go_enter func201,ntmps201
   go_wp2_with fail;refine (HB1 _).mono ?_;rintro e w4 ⟨a,b,rfl,pZ,hE4⟩;have HAB:=pZ;have HE4:=oA hE4;obtain ⟨u0,u1,u2,u3,u4,u5,u6,u7,-⟩:=HC _ hE4;clear pZ hE4 HB1 c0 c1 c2 c3 c4 c5 c6 c7;cases bx
   ·clear HB2 HOF HAB u0 u1 u2 u3 u4 u5 u6 u7;go_wp2_with fail;have HX3:=oA (aA.trans (aA.trans HE HE4) (aA.drew _));obtain ⟨y1,y2,y3,y4,-,-,-,-,yb⟩:=HC _ (aA.trans HE4 (aA.drew _));have HB3:Hid (af W2.heap.size (w4).drew):=⟨_,_,yb⟩;clear yb
    go_region_held3 (fun w'=>w'.cell? ⟨w.heap.size,0,none⟩=some (.string n1)/\w'.cell? ⟨w.heap.size,1,none⟩=some (.string d1)/\w'.cell? ⟨W1.heap.size,0,none⟩=some (.string n2)/\w'.cell? ⟨W1.heap.size,1,none⟩=some (.string d2)/\Hid (aA w w')/\Hid (af W2.heap.size w'))
     (first | exact ⟨z1,z2,z3,z4,z5,z6⟩ | exact ⟨dV HN1 z1,dV HN1 z2,dV rD z3,dV rD z4,oA (eH z5.out HR),oA z6.out.set2⟩ | exact ⟨y1,y2,y3,y4,HX3,HB3⟩ | go_keep)
     (first
      | (go_at_call 63;have hc:=HM1 _ (Hid.out (p:=aA w _) (by assumption));with_reducible refine hc.mono ?_;clear hc;rintro e w6 ⟨rfl,ou⟩;have q1:=ou.cell (a:=⟨w.heap.size,0,none⟩) (v:=.string n1) (by assumption);have q2:=ou.cell (a:=⟨w.heap.size,1,none⟩) (v:=.string d1) (by assumption);have q3:=ou.cell (a:=⟨W1.heap.size,0,none⟩) (v:=.string n2) (by assumption);have q4:=ou.cell (a:=⟨W1.heap.size,1,none⟩) (v:=.string d2) (by assumption);have q5:=oA (aA.trans (Hid.out (p:=aA w _) (by assumption)) ou);have q6:=oA (af.ext (Hid.out (p:=af W2.heap.size _) (by assumption)) ou);(try clear z1 z2 z3 z4 z5 z6 t0 t1 f0 f1);have z1:=q1;have z2:=q2;have z3:=q3;have z4:=q4;have z5:=q5;have z6:=q6;obtain ⟨r0,r1,t0,t1,f0,f1⟩:=z6.out.open;clear ou q1 q2 q3 q4 q5 q6)
      | (go_at_call 63;have hc:=HM2 _ (Hid.out (p:=aA w _) (by assumption));with_reducible refine hc.mono ?_;clear hc;rintro e w6 ⟨rfl,ou⟩;have q1:=ou.cell (a:=⟨w.heap.size,0,none⟩) (v:=.string n1) (by assumption);have q2:=ou.cell (a:=⟨w.heap.size,1,none⟩) (v:=.string d1) (by assumption);have q3:=ou.cell (a:=⟨W1.heap.size,0,none⟩) (v:=.string n2) (by assumption);have q4:=ou.cell (a:=⟨W1.heap.size,1,none⟩) (v:=.string d2) (by assumption);have q5:=oA (aA.trans (Hid.out (p:=aA w _) (by assumption)) ou);have q6:=oA (af.ext (Hid.out (p:=af W2.heap.size _) (by assumption)) ou);(try clear z1 z2 z3 z4 z5 z6 t0 t1 f0 f1);have z1:=q1;have z2:=q2;have z3:=q3;have z4:=q4;have z5:=q5;have z6:=q6;obtain ⟨r0,r1,t0,t1,f0,f1⟩:=z6.out.open;clear ou q1 q2 q3 q4 q5 q6)
      | (go_at_call 63;have hc:=HM3 _ (Hid.out (p:=aA w _) (by assumption));with_reducible refine hc.mono ?_;clear hc;rintro e w6 ⟨rfl,ou⟩;have q1:=ou.cell (a:=⟨w.heap.size,0,none⟩) (v:=.string n1) (by assumption);have q2:=ou.cell (a:=⟨w.heap.size,1,none⟩) (v:=.string d1) (by assumption);have q3:=ou.cell (a:=⟨W1.heap.size,0,none⟩) (v:=.string n2) (by assumption);have q4:=ou.cell (a:=⟨W1.heap.size,1,none⟩) (v:=.string d2) (by assumption);have q5:=oA (aA.trans (Hid.out (p:=aA w _) (by assumption)) ou);have q6:=oA (af.ext (Hid.out (p:=af W2.heap.size _) (by assumption)) ou);(try clear z1 z2 z3 z4 z5 z6 t0 t1 f0 f1);have z1:=q1;have z2:=q2;have z3:=q3;have z4:=q4;have z5:=q5;have z6:=q6;obtain ⟨r0,r1,t0,t1,f0,f1⟩:=z6.out.open;clear ou q1 q2 q3 q4 q5 q6)
      | (go_at_call 61;have hc:=HA _ (Hid.out (p:=aA w _) (by assumption));with_reducible refine hc.mono ?_;clear hc;rintro e w6 ⟨rfl,ou⟩;have q1:=ou.cell (a:=⟨w.heap.size,0,none⟩) (v:=.string n1) (by assumption);have q2:=ou.cell (a:=⟨w.heap.size,1,none⟩) (v:=.string d1) (by assumption);have q3:=ou.cell (a:=⟨W1.heap.size,0,none⟩) (v:=.string n2) (by assumption);have q4:=ou.cell (a:=⟨W1.heap.size,1,none⟩) (v:=.string d2) (by assumption);have q5:=oA (aA.trans (Hid.out (p:=aA w _) (by assumption)) ou);have q6:=oA (af.ext (Hid.out (p:=af W2.heap.size _) (by assumption)) ou);(try clear z1 z2 z3 z4 z5 z6 t0 t1 f0 f1);have z1:=q1;have z2:=q2;have z3:=q3;have z4:=q4;have z5:=q5;have z6:=q6;obtain ⟨r0,r1,t0,t1,f0,f1⟩:=z6.out.open;clear ou q1 q2 q3 q4 q5 q6)
      | (go_at_call 200;have hc:=HL _ (Hid.out (p:=aA w _) (by assumption));with_reducible refine hc.mono ?_;clear hc;rintro e w6 ⟨rfl,ou⟩;have q1:=ou.cell (a:=⟨w.heap.size,0,none⟩) (v:=.string n1) (by assumption);have q2:=ou.cell (a:=⟨w.heap.size,1,none⟩) (v:=.string d1) (by assumption);have q3:=ou.cell (a:=⟨W1.heap.size,0,none⟩) (v:=.string n2) (by assumption);have q4:=ou.cell (a:=⟨W1.heap.size,1,none⟩) (v:=.string d2) (by assumption);have q5:=oA (aA.trans (Hid.out (p:=aA w _) (by assumption)) ou);have q6:=oA (af.ext (Hid.out (p:=af W2.heap.size _) (by assumption)) ou);(try clear z1 z2 z3 z4 z5 z6 t0 t1 f0 f1);have z1:=q1;have z2:=q2;have z3:=q3;have z4:=q4;have z5:=q5;have z6:=q6;obtain ⟨r0,r1,t0,t1,f0,f1⟩:=z6.out.open;clear ou q1 q2 q3 q4 q5 q6))
    all_goals
     have hb7:=af.res (x:=.string n4) (y:=.string d4) z6.out;go_wp2_with fail;refine bodyPost_ret (results_cell_row (by rfl) _ _ W2.heap.size 152 #[.string n4,.string d4] (0,0) _ (by rfl) hb7 underlying152 (by rfl) (by kernel_rfl)) (by rfl) ⟨rfl,?_⟩;exact eH z5.out HR
   ·go_wp2_with fail;refine (HB2 _).mono ?_;rintro e w5 ⟨c,d,rfl,tN,o5⟩;have HCD:=tN;have HE5:=oA (aA.trans HE4 o5);clear tN o5 HB2 u0 u1 u2 u3 u4 u5 u6 u7;cases by'
    ·clear HOF HAB HCD;go_wp2_with fail;have HX3:=oA (aA.trans (aA.trans HE HE5) (aA.drew _));obtain ⟨y1,y2,y3,y4,-,-,-,-,yb⟩:=HC _ (aA.trans HE5 (aA.drew _));have HB3:Hid (af W2.heap.size (w5).drew):=⟨_,_,yb⟩;clear yb
     go_region_held3 (fun w'=>w'.cell? ⟨w.heap.size,0,none⟩=some (.string n1)/\w'.cell? ⟨w.heap.size,1,none⟩=some (.string d1)/\w'.cell? ⟨W1.heap.size,0,none⟩=some (.string n2)/\w'.cell? ⟨W1.heap.size,1,none⟩=some (.string d2)/\Hid (aA w w')/\Hid (af W2.heap.size w'))
      (first | exact ⟨z1,z2,z3,z4,z5,z6⟩ | exact ⟨dV HN1 z1,dV HN1 z2,dV rD z3,dV rD z4,oA (eH z5.out HR),oA z6.out.set2⟩ | exact ⟨y1,y2,y3,y4,HX3,HB3⟩ | go_keep)
      (first
       | (go_at_call 63;have hc:=HM1 _ (Hid.out (p:=aA w _) (by assumption));with_reducible refine hc.mono ?_;clear hc;rintro e w6 ⟨rfl,ou⟩;have q1:=ou.cell (a:=⟨w.heap.size,0,none⟩) (v:=.string n1) (by assumption);have q2:=ou.cell (a:=⟨w.heap.size,1,none⟩) (v:=.string d1) (by assumption);have q3:=ou.cell (a:=⟨W1.heap.size,0,none⟩) (v:=.string n2) (by assumption);have q4:=ou.cell (a:=⟨W1.heap.size,1,none⟩) (v:=.string d2) (by assumption);have q5:=oA (aA.trans (Hid.out (p:=aA w _) (by assumption)) ou);have q6:=oA (af.ext (Hid.out (p:=af W2.heap.size _) (by assumption)) ou);(try clear z1 z2 z3 z4 z5 z6 t0 t1 f0 f1);have z1:=q1;have z2:=q2;have z3:=q3;have z4:=q4;have z5:=q5;have z6:=q6;obtain ⟨r0,r1,t0,t1,f0,f1⟩:=z6.out.open;clear ou q1 q2 q3 q4 q5 q6)
       | (go_at_call 63;have hc:=HM2 _ (Hid.out (p:=aA w _) (by assumption));with_reducible refine hc.mono ?_;clear hc;rintro e w6 ⟨rfl,ou⟩;have q1:=ou.cell (a:=⟨w.heap.size,0,none⟩) (v:=.string n1) (by assumption);have q2:=ou.cell (a:=⟨w.heap.size,1,none⟩) (v:=.string d1) (by assumption);have q3:=ou.cell (a:=⟨W1.heap.size,0,none⟩) (v:=.string n2) (by assumption);have q4:=ou.cell (a:=⟨W1.heap.size,1,none⟩) (v:=.string d2) (by assumption);have q5:=oA (aA.trans (Hid.out (p:=aA w _) (by assumption)) ou);have q6:=oA (af.ext (Hid.out (p:=af W2.heap.size _) (by assumption)) ou);(try clear z1 z2 z3 z4 z5 z6 t0 t1 f0 f1);have z1:=q1;have z2:=q2;have z3:=q3;have z4:=q4;have z5:=q5;have z6:=q6;obtain ⟨r0,r1,t0,t1,f0,f1⟩:=z6.out.open;clear ou q1 q2 q3 q4 q5 q6)
       | (go_at_call 63;have hc:=HM3 _ (Hid.out (p:=aA w _) (by assumption));with_reducible refine hc.mono ?_;clear hc;rintro e w6 ⟨rfl,ou⟩;have q1:=ou.cell (a:=⟨w.heap.size,0,none⟩) (v:=.string n1) (by assumption);have q2:=ou.cell (a:=⟨w.heap.size,1,none⟩) (v:=.string d1) (by assumption);have q3:=ou.cell (a:=⟨W1.heap.size,0,none⟩) (v:=.string n2) (by assumption);have q4:=ou.cell (a:=⟨W1.heap.size,1,none⟩) (v:=.string d2) (by assumption);have q5:=oA (aA.trans (Hid.out (p:=aA w _) (by assumption)) ou);have q6:=oA (af.ext (Hid.out (p:=af W2.heap.size _) (by assumption)) ou);(try clear z1 z2 z3 z4 z5 z6 t0 t1 f0 f1);have z1:=q1;have z2:=q2;have z3:=q3;have z4:=q4;have z5:=q5;have z6:=q6;obtain ⟨r0,r1,t0,t1,f0,f1⟩:=z6.out.open;clear ou q1 q2 q3 q4 q5 q6)
       | (go_at_call 61;have hc:=HA _ (Hid.out (p:=aA w _) (by assumption));with_reducible refine hc.mono ?_;clear hc;rintro e w6 ⟨rfl,ou⟩;have q1:=ou.cell (a:=⟨w.heap.size,0,none⟩) (v:=.string n1) (by assumption);have q2:=ou.cell (a:=⟨w.heap.size,1,none⟩) (v:=.string d1) (by assumption);have q3:=ou.cell (a:=⟨W1.heap.size,0,none⟩) (v:=.string n2) (by assumption);have q4:=ou.cell (a:=⟨W1.heap.size,1,none⟩) (v:=.string d2) (by assumption);have q5:=oA (aA.trans (Hid.out (p:=aA w _) (by assumption)) ou);have q6:=oA (af.ext (Hid.out (p:=af W2.heap.size _) (by assumption)) ou);(try clear z1 z2 z3 z4 z5 z6 t0 t1 f0 f1);have z1:=q1;have z2:=q2;have z3:=q3;have z4:=q4;have z5:=q5;have z6:=q6;obtain ⟨r0,r1,t0,t1,f0,f1⟩:=z6.out.open;clear ou q1 q2 q3 q4 q5 q6)
       | (go_at_call 200;have hc:=HL _ (Hid.out (p:=aA w _) (by assumption));with_reducible refine hc.mono ?_;clear hc;rintro e w6 ⟨rfl,ou⟩;have q1:=ou.cell (a:=⟨w.heap.size,0,none⟩) (v:=.string n1) (by assumption);have q2:=ou.cell (a:=⟨w.heap.size,1,none⟩) (v:=.string d1) (by assumption);have q3:=ou.cell (a:=⟨W1.heap.size,0,none⟩) (v:=.string n2) (by assumption);have q4:=ou.cell (a:=⟨W1.heap.size,1,none⟩) (v:=.string d2) (by assumption);have q5:=oA (aA.trans (Hid.out (p:=aA w _) (by assumption)) ou);have q6:=oA (af.ext (Hid.out (p:=af W2.heap.size _) (by assumption)) ou);(try clear z1 z2 z3 z4 z5 z6 t0 t1 f0 f1);have z1:=q1;have z2:=q2;have z3:=q3;have z4:=q4;have z5:=q5;have z6:=q6;obtain ⟨r0,r1,t0,t1,f0,f1⟩:=z6.out.open;clear ou q1 q2 q3 q4 q5 q6))
     all_goals
      have hb7:=af.res (x:=.string n4) (y:=.string d4) z6.out;go_wp2_with fail;refine bodyPost_ret (results_cell_row (by rfl) _ _ W2.heap.size 152 #[.string n4,.string d4] (0,0) _ (by rfl) hb7 underlying152 (by rfl) (by kernel_rfl)) (by rfl) ⟨rfl,?_⟩;exact eH z5.out HR
    ·obtain ⟨ha,hb⟩:=HAB (HBX (by first | rfl | trivial));obtain ⟨hc,hd⟩:=HCD (HBY (by first | rfl | trivial));obtain ⟨p1,p2,q,hp1,hp2,hq,b1,b2,b3,b4,b5,b6,CN⟩:=HOF (HBX (by first | rfl | trivial)) (HBY (by first | rfl | trivial));have HO:=oA CN;have KZ:a*d=p1:=(by rw [ha,hd];exact hp1);have KY:c*b=p2:=(by rw [hc,hb];exact hp2);have KV:b*d=q:=(by rw [hb,hd];exact hq);clear ha hb hc hd hp1 hp2 hq CN HAB HCD HOF HM1 HM2 HM3 HA HL;go_wp2_with fail;refine (HO _ (HE.trans HE5)).mono ?_;rintro e w6 ⟨rfl,ou⟩;have HE6:=oA (aA.trans HE5 ou);obtain ⟨-,-,-,-,-,-,-,-,yb⟩:=HC _ HE6;have z6:Hid (af W2.heap.size w6):=⟨_,_,yb⟩;obtain ⟨r0,r1,t0,t1,f0,f1⟩:=z6.out.open;clear ou HO yb;have hb7:=af.res (x:=.string n4) (y:=.string d4) z6.out;go_wp2_with fail;refine bodyPost_ret (results_cell_row (by rfl) _ _ W2.heap.size 152 #[.string n4,.string d4] (0,0) _ (by rfl) hb7 underlying152 (by rfl) (by kernel_rfl)) (by rfl) ⟨rfl,?_⟩;exact eH (HE.trans HE6) HR
theorem Z16 (x y:Rat) (w:World) (hx:RS 11000 x) (hy:RS 11000 y) (ht:ae w) :
  oX 165 #[bR x,bR y] w (bR (x-y)):=by
 have HT:=oA ht;clear ht;obtain ⟨W1,qm,hE1,hs1,hb1⟩:=dU w (.string (aB x.num)) (.string (aE x.den)) 152;obtain ⟨W2,tl,hE2,hs2,hb2⟩:=dU W1 (.string (aB y.num)) (.string (aE y.den)) 152;obtain ⟨W3,xl,oz,hs3,pf⟩:=dU W2 (.string ⟨#[]⟩) (.string ⟨#[]⟩) 152;have hb1':=aJ hb1 (hE2.trans oz);have hb2':=aJ hb2 oz;have HE:=oA ((hE1.trans hE2).trans oz);have HR:Hid (w.heap.size<=W2.heap.size):=by unfold Hid;omega
 have HN1:Hid (w.heap.size≠W2.heap.size):=by unfold Hid;omega
 have rD:Hid (W1.heap.size≠W2.heap.size):=by unfold Hid;omega
 have HC:Hid (∀ W,aA W3 W->W.cell? ⟨w.heap.size,0,none⟩=some (.string (aB x.num))/\W.cell? ⟨w.heap.size,1,none⟩=some (.string (aE x.den))/\W.cell? ⟨W1.heap.size,0,none⟩=some (.string (aB y.num))/\W.cell? ⟨W1.heap.size,1,none⟩=some (.string (aE y.den))/\W.cell? ⟨W2.heap.size,0,none⟩=some (.string ⟨#[]⟩)/\W.cell? ⟨W2.heap.size,1,none⟩=some (.string ⟨#[]⟩)/\W.frozen? ⟨W2.heap.size,0,none⟩=false/\W.frozen? ⟨W2.heap.size,1,none⟩=false/\W.heap[W2.heap.size]?=some (.cells #[.string ⟨#[]⟩,.string ⟨#[]⟩] 152 (0,0))):=fun W hW=>by
  obtain ⟨a0,a1,-⟩:=dS (aJ hb1' hW);obtain ⟨b0,b1,-⟩:=dS (aJ hb2' hW);obtain ⟨c0,c1,cf⟩:=dS (aJ pf hW);exact ⟨a0,a1,b0,b1,c0,c1,cf 0,cf 1,aJ pf hW⟩
 have yO:RS 12000 (-y):=by
  refine ⟨?_,by show (aE y.den).size<=12000;have:=hy.2;omega⟩;have h1:=er (-y.num);have h2:=dm y.num;rw [Int.natAbs_neg] at h1;rw [Rat.neg_num];have:=hy.1;omega
 have HNG:Hid (∀ W,aA w W->oX 162 #[bR y] W (bR (-y))):=fun W _=>B6_ y W (hy.mono (by omega));have yI:Hid (∀ W,aA w W->oX 201 #[bR x,bR (-y)] W (bR (x-y))):=fun W hW=>by
  have:=Z14 x (-y) W (hx.mono (by omega)) yO (HT.ext hW);rw [<- Rat.sub_eq_add_neg] at this;exact this
 have pd:∀ q:Rat,bR q=.agg #[.string (aB q.num),.string (aE q.den)]:=fun _=>rfl;obtain ⟨Z,hZ⟩:=oc (x-y);obtain ⟨V,hV⟩:=oc (bR (-y));rw [<- hZ] at yI |-;rw [<- hV] at HNG yI;have HVV:Hid (V=.agg #[.string (aB (-y).num),.string (aE (-y).den)]):=hV;rw [HVV.out] at HNG yI;rw [pd x] at yI |-;rw [pd y] at HNG |-;rw [pd Z] at yI |-;clear hE1 hE2 oz hs1 hs2 hs3 hb1 hb2 pf hb1' hb2' pd hx hy yO hV HVV;obtain ⟨n1,qB⟩:=oc (aB x.num);obtain ⟨d1,qx⟩:=oc (aE x.den);obtain ⟨n2,qV⟩:=oc (aB y.num);obtain ⟨d2,hd2⟩:=oc (aE y.den);obtain ⟨n4,th⟩:=oc (aB Z.num);obtain ⟨d4,sO⟩:=oc (aE Z.den);obtain ⟨n3,xK⟩:=oc (aB (-y).num);obtain ⟨d3,xd⟩:=oc (aE (-y).den);rw [<- qV,<- hd2,<- xK,<- xd] at HNG;rw [<- qB,<- qx,<- xK,<- xd,<- th,<- sO] at yI;rw [<- th,<- sO];rw [<- qB,<- qx,<- qV,<- hd2] at HC |-;rw [<- qB,<- qx] at qm;rw [<- qV,<- hd2] at tl;clear qB qx qV hd2 xK xd th sO hZ;obtain ⟨c0,c1,c2,c3,c4,c5,c6,c7,-⟩:=HC W3 (aA.refl _)
 go_enter func165,ntmps165
 go_wp2_with fail;have HRF:=oA (aA.refl W3);have HX3:=oA (aA.trans (aA.trans HE HRF) (aA.drew _));obtain ⟨y1,y2,y3,y4,-,-,-,-,yb⟩:=HC _ (aA.trans HRF (aA.drew _));have HB3:Hid (af W2.heap.size (W3).drew):=⟨_,_,yb⟩;clear yb
 go_region_held3 (fun w'=>w'.cell? ⟨w.heap.size,0,none⟩=some (.string n1)/\w'.cell? ⟨w.heap.size,1,none⟩=some (.string d1)/\w'.cell? ⟨W1.heap.size,0,none⟩=some (.string n2)/\w'.cell? ⟨W1.heap.size,1,none⟩=some (.string d2)/\Hid (aA w w')/\Hid (af W2.heap.size w'))
  (first | exact ⟨z1,z2,z3,z4,z5,z6⟩ | exact ⟨dV HN1 z1,dV HN1 z2,dV rD z3,dV rD z4,oA (eH z5.out HR),oA z6.out.set2⟩ | exact ⟨y1,y2,y3,y4,HX3,HB3⟩ | go_keep)
  (first
   | (go_at_call 162;have hc:=HNG _ (Hid.out (p:=aA w _) (by assumption));with_reducible refine hc.mono ?_;clear hc;rintro e w6 ⟨rfl,ou⟩;have q1:=ou.cell (a:=⟨w.heap.size,0,none⟩) (v:=.string n1) (by assumption);have q2:=ou.cell (a:=⟨w.heap.size,1,none⟩) (v:=.string d1) (by assumption);have q3:=ou.cell (a:=⟨W1.heap.size,0,none⟩) (v:=.string n2) (by assumption);have q4:=ou.cell (a:=⟨W1.heap.size,1,none⟩) (v:=.string d2) (by assumption);have q5:=oA (aA.trans (Hid.out (p:=aA w _) (by assumption)) ou);have q6:=oA (af.ext (Hid.out (p:=af W2.heap.size _) (by assumption)) ou);(try clear z1 z2 z3 z4 z5 z6 t0 t1 f0 f1);have z1:=q1;have z2:=q2;have z3:=q3;have z4:=q4;have z5:=q5;have z6:=q6;obtain ⟨r0,r1,t0,t1,f0,f1⟩:=z6.out.open;clear ou q1 q2 q3 q4 q5 q6)
   | (go_at_call 201;have hc:=yI _ (Hid.out (p:=aA w _) (by assumption));with_reducible refine hc.mono ?_;clear hc;rintro e w6 ⟨rfl,ou⟩;have q1:=ou.cell (a:=⟨w.heap.size,0,none⟩) (v:=.string n1) (by assumption);have q2:=ou.cell (a:=⟨w.heap.size,1,none⟩) (v:=.string d1) (by assumption);have q3:=ou.cell (a:=⟨W1.heap.size,0,none⟩) (v:=.string n2) (by assumption);have q4:=ou.cell (a:=⟨W1.heap.size,1,none⟩) (v:=.string d2) (by assumption);have q5:=oA (aA.trans (Hid.out (p:=aA w _) (by assumption)) ou);have q6:=oA (af.ext (Hid.out (p:=af W2.heap.size _) (by assumption)) ou);(try clear z1 z2 z3 z4 z5 z6 t0 t1 f0 f1);have z1:=q1;have z2:=q2;have z3:=q3;have z4:=q4;have z5:=q5;have z6:=q6;obtain ⟨r0,r1,t0,t1,f0,f1⟩:=z6.out.open;clear ou q1 q2 q3 q4 q5 q6))
 all_goals
  have hb7:=af.res (x:=.string n4) (y:=.string d4) z6.out;go_wp2_with fail;refine bodyPost_ret (results_cell_row (by rfl) _ _ W2.heap.size 152 #[.string n4,.string d4] (0,0) _ (by rfl) hb7 underlying152 (by rfl) (by kernel_rfl)) (by rfl) ⟨rfl,?_⟩;exact eH z5.out HR
theorem ir {w w':World} {g:Nat} (h:w'.heap[g]?=w.heap[g]?) (j:Nat):w'.cell? ⟨g,j,none⟩=w.cell? ⟨g,j,none⟩:=by
 simp [World.cell?,h]
theorem kd {w w':World} {g:Nat} (h:w'.heap[g]?=w.heap[g]?) (j:Nat):w'.frozen? ⟨g,j,none⟩=w.frozen? ⟨g,j,none⟩:=by
 simp [World.frozen?,h]
theorem db (w:World) (a:Addr) (v:Value):(w.setCell a v).heap.size=w.heap.size:=by simp [World.setCell]
structure eh (w:World) (g:Nat) (xs:List Rat):Prop where
 lt:g<w.heap.size
 num:∀ (j:Nat) x,xs[j]?=some x->w.cell? ⟨g,j*2,none⟩=some (.string (aB x.num))
 den:∀ (j:Nat) x,xs[j]?=some x->w.cell? ⟨g,j*2+1,none⟩=some (.string (aE x.den))
 free:∀ j,w.frozen? ⟨g,j,none⟩=false
theorem eh.same {w w':World} {g:Nat} {xs:List Rat} (h:eh w g xs) (hs:w.heap.size<=w'.heap.size) (hg:w'.heap[g]?=w.heap[g]?):eh w' g xs :=
 ⟨oI h.lt hs,fun j x hx=>(ir hg _).trans (h.num j x hx),fun j x hx=>(ir hg _).trans (h.den j x hx),fun j=>(kd hg j).trans (h.free j)⟩
theorem eh.ext {w w':World} {g:Nat} {xs:List Rat} (h:eh w g xs) (he:aA w w'):eh w' g xs:=h.same he.size (he.block g h.lt)
theorem eh.grown {w w':World} {S:Nat->Prop} {g:Nat} {xs:List Rat} (h:eh w g xs) (hg:aG S w w') (hS:¬ S g):eh w' g xs:=h.same hg.size (hg.block g h.lt hS)
theorem jw (w:World) (g i j:Nat) (v:Value):(w.setCell ⟨g,i,none⟩ v).frozen? ⟨g,j,none⟩=w.frozen? ⟨g,j,none⟩:=by
 exact World.frozen?_setCell ..
theorem eh.set {w : World} {g : Nat} {xs : List Rat} (h : eh w g xs) (k : Nat) (hk : k < xs.length) (y : Rat) :
    eh ((w.setCell ⟨g, k * 2, none⟩ (.string (aB y.num))).setCell ⟨g, k * 2 + 1, none⟩ (.string (aE y.den))) g (xs.set k y) := by
  have hx : xs[k]? = some xs[k] := oB hk;have c0 := h.num k _ hx;have c1 := h.den k _ hx;refine ⟨by rw [db, db]; exact h.lt, fun j x hj => ?_, fun j x hj => ?_, fun j => by rw [jw, jw]; exact h.free j⟩
  all_goals
    rw [oW] at hj;by_cases e : k = j
    · subst e
      rw [if_pos rfl, if_pos hk] at hj;cases hj
      first
        | (rw [World.cell?_setCell_other _ _ _ _ (by intro e; simp only [Addr.mk.injEq] at e; omega)]
           exact World.cell?_setCell_same w _ _ c0)
        | (refine World.cell?_setCell_same _ _ (v := .string (aE xs[k].den)) _ ?_
           rw [World.cell?_setCell_other _ _ _ _ (by intro e; simp only [Addr.mk.injEq] at e; omega)]
           exact c1)
        | (exact World.cell?_setCell_same _ _ _ ((World.cell?_setCell_other _ _ _ _ (by intro e; simp only [Addr.mk.injEq] at e; omega)).trans c1))
    · rw [if_neg e] at hj
      rw [World.cell?_setCell_other _ _ _ _ (by intro e; simp only [Addr.mk.injEq] at e; omega), World.cell?_setCell_other _ _ _ _ (by intro e; simp only [Addr.mk.injEq] at e; omega)]
      first | exact h.num j x hj | exact h.den j x hj
structure cU (w:World) (g0:Nat) (tags:List (Nat×Nat)) (m:List (List Rat)):Prop where
 len:tags.length=m.length
 lt:g0<w.heap.size
 free:∀ j,w.frozen? ⟨g0,j,none⟩=false
 row:∀ (i:Nat) t r,tags[i]?=some t->m[i]?=some r->w.cell? ⟨g0,i,none⟩=some (.slice (some ⟨t.1,0,none⟩) r.length t.2)/\r.length<=t.2/\t.2<=9223372036854775807/\eh w t.1 r
 nodup:(g0::tags.map (·.1)).Nodup
def bV (g0:Nat) (tags:List (Nat×Nat)) (b:Nat):Prop:=b∈g0::tags.map (·.1)
theorem cU.same {w w':World} {g0:Nat} {tags:List (Nat×Nat)} {m:List (List Rat)} (h:cU w g0 tags m) (hs:w.heap.size<=w'.heap.size) (hb:∀ b,bV g0 tags b->w'.heap[b]?=w.heap[b]?):cU w' g0 tags m:=by
 have h0:=hb g0 (List.mem_cons_self ..);refine ⟨h.len,oI h.lt hs,fun j=>(kd h0 j).trans (h.free j),fun i t r ht hr=>?_,h.nodup⟩;obtain ⟨h1,h2,h3,h4⟩:=h.row i t r ht hr;exact ⟨(ir h0 i).trans h1,h2,h3,h4.same hs (hb t.1 (List.mem_cons_of_mem _ (List.mem_map.2 ⟨t,oE ht,rfl⟩)))⟩
theorem cU.blt {w:World} {g0:Nat} {tags:List (Nat×Nat)} {m:List (List Rat)} (h:cU w g0 tags m) {b:Nat} (hb:bV g0 tags b):b<w.heap.size:=by
 rcases List.mem_cons.1 hb with rfl | hb;·exact h.lt
 ·obtain ⟨t,ht,rfl⟩:=List.mem_map.1 hb;obtain ⟨i,hi⟩:=List.getElem?_of_mem ht;have hl:i<m.length:=by rw [<- h.len];exact (oC.1 hi).1
  exact (h.row i t m[i] hi (oB hl)).2.2.2.lt
theorem cU.ext {w w':World} {g0:Nat} {tags:List (Nat×Nat)} {m:List (List Rat)} (h:cU w g0 tags m) (he:aA w w'):cU w' g0 tags m :=
 h.same he.size fun b hb=>he.block b (h.blt hb)
theorem cU.grown {w w':World} {S:Nat->Prop} {g0:Nat} {tags:List (Nat×Nat)} {m:List (List Rat)} (h:cU w g0 tags m) (hg:aG S w w') (hS:∀ b,bV g0 tags b->¬ S b):cU w' g0 tags m :=
 h.same hg.size fun b hb=>hg.block b (h.blt hb) (hS b hb)
theorem cU.get {w:World} {g0:Nat} {tags:List (Nat×Nat)} {m:List (List Rat)} (h:cU w g0 tags m) {i:Nat} {r:List Rat} (hr:m[i]?=some r) :
  ∃ t,tags[i]?=some t/\w.cell? ⟨g0,i,none⟩=some (.slice (some ⟨t.1,0,none⟩) r.length t.2)/\r.length<=t.2/\t.2<=9223372036854775807/\eh w t.1 r/\t.1≠g0/\bV g0 tags t.1:=by
 have hi:=(oC.1 hr).1;have hl:i<tags.length:=by rw [h.len];exact hi
 have:=h.row i tags[i] r (oB hl) hr;refine ⟨tags[i],oB hl,this.1,this.2.1,this.2.2.1,this.2.2.2,?_,List.mem_cons_of_mem _ (List.mem_map.2 ⟨tags[i],List.getElem_mem hl,rfl⟩)⟩;have hn:=(List.nodup_cons.1 h.nodup).1;intro e2;exact hn (List.mem_map.2 ⟨tags[i],List.getElem_mem hl,e2⟩)
theorem cU.apart {w:World} {g0:Nat} {tags:List (Nat×Nat)} {m:List (List Rat)} (h:cU w g0 tags m) {i j:Nat} {s t:Nat×Nat} (hs:tags[i]?=some s) (ht:tags[j]?=some t) (pY:i≠j):s.1≠t.1:=by
 have hn:=(List.nodup_cons.1 h.nodup).2;intro e;have h1:(tags.map (·.1))[i]?=some s.1:=by rw [oF,hs];rfl
 have h2:(tags.map (·.1))[j]?=some s.1:=by rw [oF,ht,e];rfl
 obtain ⟨l1,e1⟩:=oC.1 h1;obtain ⟨l2,e2⟩:=oC.1 h2;exact pY ((List.getElem_inj hn).1 (e1.trans e2.symm))
theorem cU.setRow {w w':World} {g0:Nat} {tags:List (Nat×Nat)} {m:List (List Rat)} (h:cU w g0 tags m) {i:Nat} {t:Nat×Nat} {r r0:List Rat} (ht:tags[i]?=some t) (vl:m[i]?=some r0) (hr:r.length=r0.length) (hg:aG (·=t.1) w w') (hR:eh w' t.1 r):cU w' g0 tags (m.set i r):=by
 have hi:=(oC.1 vl).1;obtain ⟨t',rO,-,-,-,-,hne,-⟩:=h.get vl;obtain rfl:t'=t:=oM (rO.symm.trans ht);have h0:=hg.block g0 h.lt (fun e=>hne e.symm);refine ⟨by rw [List.length_set];exact h.len,oI h.lt hg.size,fun j=>(kd h0 j).trans (h.free j),fun j s q hs hq=>?_,h.nodup⟩;rw [oW] at hq;by_cases hj:i=j
 ·subst hj;rw [if_pos rfl,if_pos hi] at hq;cases hq;obtain rfl:s=t':=oM (hs.symm.trans ht);obtain ⟨h1,h2,h3,h4⟩:=h.row i s r0 hs vl;rw [<- hr] at h1 h2;exact ⟨(ir h0 i).trans h1,h2,h3,hR⟩
 ·rw [if_neg hj] at hq;obtain ⟨h1,h2,h3,h4⟩:=h.row j s q hs hq;exact ⟨(ir h0 j).trans h1,h2,h3,h4.grown hg (h.apart hs ht (fun e=>hj e.symm))⟩
def bE {α:Type} (l:List α) (i j:Nat):List α:=match l[i]?,l[j]? with
 | some a,some b=>(l.set i b).set j a
 | _,_=>l
theorem h_ {α:Type} (l:List α) (i j:Nat):(bE l i j).length=l.length:=by
 unfold bE;split <;> simp
theorem fO {α:Type} {l:List α} {i j:Nat} {a b:α} (hi:l[i]?=some a) (hj:l[j]?=some b) (k:Nat):(bE l i j)[k]?=if k=j then some a else if k=i then some b else l[k]?:=by
 have h1:=(oC.1 hi).1;have h2:=(oC.1 hj).1;unfold bE;rw [hi,hj];show ((l.set i b).set j a)[k]?=_;rw [oW,oW,List.length_set];by_cases e1:j=k;·subst e1;simp [h2]
 ·by_cases e2:i=k;·subst e2;simp [e1,h1,Ne.symm e1]
  ·simp [e1,e2,Ne.symm e1,Ne.symm e2]
theorem Z3p {α β:Type} (f:α->β) (l:List α) (i j:Nat):(bE l i j).map f=bE (l.map f) i j:=by
 unfold bE;rw [oF,oF];cases l[i]? <;> cases l[j]? <;> simp [List.map_set]
theorem m0_ {α:Type} {l:List α} (h:l.Nodup) (i j:Nat):(bE l i j).Nodup:=by
 by_cases hb:i<l.length/\j<l.length
 ·obtain ⟨h1,h2⟩:=hb;have hi:l[i]?=some l[i]:=oB h1;have hj:l[j]?=some l[j]:=oB h2;have inj:∀ p q,p<l.length->q<l.length->l[p]?=l[q]?->p=q:=by
   intro p q hp hq e;rw [oB hp,oB hq] at e;exact (List.getElem_inj h).1 (oM e)
  refine List.pairwise_iff_getElem.2 fun p q hp0 wL yN e0=>?_;have e:(bE l i j)[p]?=(bE l i j)[q]?:=by rw [oB hp0,oB wL,e0]
  have hq:q<l.length:=by rw [h_] at wL;exact wL
  rw [fO hi hj,fO hi hj,<- hi,<- hj] at e;have hp:p<l.length:=by omega
  have hsg:∀ k,(if k=j then l[i]? else if k=i then l[j]? else l[k]?)=l[if k=j then i else if k=i then j else k]?:=by
   intro k;by_cases a:k=j;·rw [if_pos a,if_pos a]
   ·rw [if_neg a,if_neg a];by_cases b:k=i;·rw [if_pos b,if_pos b]
    ·rw [if_neg b,if_neg b]
  have hsl:∀ k,k<l.length->(if k=j then i else if k=i then j else k)<l.length:=by
   intro k hk;by_cases a:k=j;·rw [if_pos a];exact h1
   ·rw [if_neg a];by_cases b:k=i;·rw [if_pos b];exact h2
    ·rw [if_neg b];exact hk
  rw [hsg,hsg] at e;have e2:=inj _ _ (hsl p hp) (hsl q hq) e;have key:∀ k,(if k=j then i else if k=i then j else k)=i/\k=j\/(if k=j then i else if k=i then j else k)=j/\k=i\/(if k=j then i else if k=i then j else k)=k/\k≠j/\k≠i:=by
   intro k;by_cases a:k=j;·left;exact ⟨if_pos a,a⟩
   ·by_cases b:k=i;·right;left;exact ⟨by rw [if_neg a,if_pos b],b⟩
    ·right;right;exact ⟨by rw [if_neg a,if_neg b],a,b⟩
  have kp:=key p;have kq:=key q;generalize (if p=j then i else if p=i then j else p)=P at *
  generalize (if q=j then i else if q=i then j else q)=Q at *
  omega
 ·have:bE l i j=l:=by
   unfold bE;by_cases h1:i<l.length;·rw [oB h1,oL (show l.length<=j by omega)]
   ·rw [oL (show l.length<=i by omega)]
  rw [this];exact h
theorem cU.swap {w:World} {g0:Nat} {tags:List (Nat×Nat)} {m:List (List Rat)} (h:cU w g0 tags m) {i j:Nat} {s t:Nat×Nat} {p q:List Rat} (hs:tags[i]?=some s) (ht:tags[j]?=some t) (hp:m[i]?=some p) (hq:m[j]?=some q) :
  cU ((w.setCell ⟨g0,i,none⟩ (.slice (some ⟨t.1,0,none⟩) q.length t.2)).setCell ⟨g0,j,none⟩ (.slice (some ⟨s.1,0,none⟩) p.length s.2)) g0 (bE tags i j) (bE m i j):=by
 have hgr:aG (·=g0) w ((w.setCell ⟨g0,i,none⟩ (.slice (some ⟨t.1,0,none⟩) q.length t.2)).setCell ⟨g0,j,none⟩ (.slice (some ⟨s.1,0,none⟩) p.length s.2)):=((aG.refl (·=g0) w).store (S:=(·=g0)) rfl _ _).store (S:=(·=g0)) rfl _ _;have ci:=(h.row i s p hs hp).1;have cj:=(h.row j t q ht hq).1;refine ⟨by rw [h_,h_];exact h.len,by rw [db,db];exact h.lt,fun k=>by rw [jw,jw];exact h.free k,fun k u r hu hr=>?_,?_⟩
 ·rw [fO hs ht] at hu;rw [fO hp hq] at hr;have hrow:∀ (k:Nat) u r,tags[k]?=some u->m[k]?=some r->eh ((w.setCell ⟨g0,i,none⟩ (.slice (some ⟨t.1,0,none⟩) q.length t.2)).setCell ⟨g0,j,none⟩ (.slice (some ⟨s.1,0,none⟩) p.length s.2)) u.1 r:=by
   intro k u r hu hr;obtain ⟨u',EX,-,-,-,hR,hne,-⟩:=h.get hr;obtain rfl:u'=u:=oM (EX.symm.trans hu);exact hR.grown hgr hne
  by_cases e1:k=j
  ·subst e1;rw [if_pos rfl] at hu hr;cases hu;cases hr;obtain ⟨_,h2,h3,_⟩:=h.row i s p hs hp;refine ⟨?_,h2,h3,hrow i s p hs hp⟩;by_cases e2:i=k
   ·subst e2;exact World.cell?_setCell_same _ _ _ (World.cell?_setCell_same w _ _ ci)
   ·exact World.cell?_setCell_same _ _ _ ((World.cell?_setCell_other _ _ _ _ (by intro e;simp only [Addr.mk.injEq] at e;omega)).trans cj)
  ·rw [if_neg e1] at hu hr;by_cases e2:k=i
   ·subst e2;rw [if_pos rfl] at hu hr;cases hu;cases hr;obtain ⟨_,h2,h3,_⟩:=h.row j t q ht hq;refine ⟨?_,h2,h3,hrow j t q ht hq⟩;rw [World.cell?_setCell_other _ _ _ _ (by intro e;simp only [Addr.mk.injEq] at e;omega)];exact World.cell?_setCell_same w _ _ ci
   ·rw [if_neg e2] at hu hr;obtain ⟨h1,h2,h3,_⟩:=h.row k u r hu hr;refine ⟨?_,h2,h3,hrow k u r hu hr⟩;rw [World.cell?_setCell_other _ _ _ _ (by intro e;simp only [Addr.mk.injEq] at e;omega),World.cell?_setCell_other _ _ _ _ (by intro e;simp only [Addr.mk.injEq] at e;omega)];exact h1
 ·have hn:=List.nodup_cons.1 h.nodup;rw [Z3p];refine List.nodup_cons.2 ⟨?_,m0_ hn.2 i j⟩;intro hm;refine hn.1 ?_;obtain ⟨k,hk⟩:=List.getElem?_of_mem hm;have a1:(tags.map (·.1))[i]?=some s.1:=by rw [oF,hs];rfl
  have a2:(tags.map (·.1))[j]?=some t.1:=by rw [oF,ht];rfl
  rw [fO a1 a2] at hk;by_cases e1:k=j;·rw [if_pos e1] at hk;cases hk;exact oE a1
  ·rw [if_neg e1] at hk;by_cases e2:k=i;·rw [if_pos e2] at hk;cases hk;exact oE a2
   ·rw [if_neg e2] at hk;exact oE hk
theorem V5_ {g0:Nat} {tags:List (Nat×Nat)} {i j b:Nat} {s t:Nat×Nat} (hs:tags[i]?=some s) (ht:tags[j]?=some t):bV g0 (bE tags i j) b↔bV g0 tags b:=by
 have key:∀ x:Nat×Nat,x∈bE tags i j↔x∈tags:=by
  intro x;constructor
  ·intro hm;obtain ⟨k,hk⟩:=List.getElem?_of_mem hm;rw [fO hs ht] at hk;by_cases e1:k=j;·rw [if_pos e1] at hk;cases hk;exact oE hs
   ·rw [if_neg e1] at hk;by_cases e2:k=i;·rw [if_pos e2] at hk;cases hk;exact oE ht
    ·rw [if_neg e2] at hk;exact oE hk
  ·intro hm;obtain ⟨k,hk⟩:=List.getElem?_of_mem hm;by_cases e1:k=i
   ·subst e1;rw [hs] at hk;cases hk;exact oE (by rw [fO hs ht,if_pos rfl]:(bE tags k j)[j]?=some s)
   ·by_cases e2:k=j
    ·subst e2;rw [ht] at hk;cases hk;exact oE (by rw [fO hs ht,if_neg (Ne.symm e1),if_pos rfl]:(bE tags i k)[i]?=some t)
    ·exact oE (by rw [fO hs ht,if_neg e2,if_neg e1];exact hk:(bE tags i j)[k]?=some x)
 unfold bV;simp only [List.mem_cons,List.mem_map,key]
def cC (m:List (List Rat)) (i:Nat):List Rat:=m.getD i []
def aF (m:List (List Rat)) (i c:Nat):Rat:=(cC m i).getD c 0
theorem nu {m:List (List Rat)} {i:Nat} {r:List Rat} (h:m[i]?=some r):cC m i=r:=by
 unfold cC;rw [oD,h];rfl
theorem gi {m:List (List Rat)} {i:Nat} (h:i<m.length):m[i]?=some (cC m i):=by
 rw [nu (oB h)];exact oB h
theorem y1_ {m:List (List Rat)} {i c:Nat} {x:Rat} (h:(cC m i)[c]?=some x):aF m i c=x:=by
 unfold aF;rw [oD,h];rfl
def fF (m:List (List Rat)) (c:Nat):Nat->Nat->Nat
 | 0,a=>a
 | f+1,a=>if aF m a c=0 then fF m c f (a+1) else a
theorem y3_ (m:List (List Rat)) (c:Nat):∀ (f a b:Nat),a<=b->b<=a+f->(∀ j,a<=j->j<b->aF m j c=0)->(b<a+f->aF m b c≠0)->fF m c f a=b
 | 0,a,b,h1,h2,_,_=>by show a=b;omega
 | f+1,a,b,h1,h2,h3,h4=>by
  unfold fF;by_cases pZ:a=b
  ·subst pZ;rw [if_neg (h4 (by omega))]
  ·rw [if_pos (h3 a (oK _) (by omega))];exact y3_ m c f (a+1) b (by omega) (by omega) (fun j hj hb=>h3 j (by omega) hb) (fun hb=>h4 (by omega))
def cn {α:Type} (new old:List α) (j:Nat):List α:=new.take j++old.drop j
theorem P7_ {α:Type} (new old:List α):cn new old 0=old:=by simp [cn]
theorem H1_ {α:Type} (new old:List α) (j:Nat) (h:new.length=old.length):(cn new old j).length=old.length:=by
 unfold cn;rw [oV,oG,List.length_drop];omega
theorem I9_ {α:Type} (new old:List α) (j:Nat) (h:new.length=old.length) (hj:old.length<=j):cn new old j=new:=by
 unfold cn;rw [List.take_of_length_le (by omega),List.drop_eq_nil_of_le hj,List.append_nil]
theorem H0_ {α:Type} {new old:List α} {j k:Nat} {a:α} (h:new.length=old.length) (hk:j<=k) (ho:old[k]?=some a):(cn new old j)[k]?=some a:=by
 have hl:=(oC.1 ho).1;unfold cn;rw [oO (by rw [oG];omega),oG,oU,show j+(k-min j new.length)=k by omega];exact ho
theorem H2_ {α:Type} {new old:List α} {j:Nat} {a:α} (h:new.length=old.length) (hn:new[j]?=some a):(cn new old j).set j a=cn new old (j+1):=by
 have hl:=(oC.1 hn).1;have hj:j<old.length:=by omega
 unfold cn;rw [oH,hn,List.set_append_right _ _ (by rw [oG];omega),oG,show j-min j new.length=0 by omega];have e:=List.drop_eq_getElem_cons hj;rw [e,List.set_cons_zero,List.append_assoc];rfl
def dE (r:List Rat) (q:Rat):List Rat:=r.map (· / q)
def fp (r s:List Rat) (f:Rat):List Rat:=List.zipWith (fun x y=>x-f*y) r s
theorem Z0w {r:List Rat} {q x:Rat} {j:Nat} (h:r[j]?=some x):(dE r q)[j]?=some (x / q):=by
 simp [dE,h]
theorem Z1j {r s:List Rat} {f x y:Rat} {j:Nat} (h:r[j]?=some x) (h':s[j]?=some y):(fp r s f)[j]?=some (x-f*y):=by
 simp [fp,List.getElem?_zipWith,h,h']
theorem W7_ (r:List Rat) (q:Rat):(dE r q).length=r.length:=by simp [dE]
theorem A2_ (r s:List Rat) (f:Rat) (h:s.length=r.length):(fp r s f).length=r.length:=by simp [fp,h]
def iN (p:List Rat) (c k i:Nat) (r:List Rat):List Rat:=if i=k\/r.getD c 0=0 then r else fp r p (r.getD c 0)
def dL (m:List (List Rat)) (p:List Rat) (c k:Nat):Nat->List (List Rat)
 | 0=>m
 | j+1=>(dL m p c k j).set j (iN p c k j (cC (dL m p c k j) j))
theorem ju (m:List (List Rat)) (p:List Rat) (c k j:Nat):(dL m p c k j).length=m.length:=by
 induction j with
 | zero=>rfl
 | succ j ih=>show ((dL m p c k j).set j _).length=_;rw [List.length_set,ih]
theorem W8_ (m:List (List Rat)) (p:List Rat) (c k:Nat):∀ (j i:Nat),j<=i->(dL m p c k j)[i]?=m[i]?
 | 0,i,_=>rfl
 | j+1,i,h=>by
  show ((dL m p c k j).set j _)[i]?=_;rw [oW,if_neg (by omega)];exact W8_ m p c k j i (by omega)
theorem Z20 {p:List Rat} {c k i:Nat} {r:List Rat} (h:p.length=r.length):(iN p c k i r).length=r.length:=by
 unfold iN;split;·rfl
 ·exact A2_ _ _ _ h
theorem N2_ (m:List (List Rat)) (p:List Rat) (c k:Nat):∀ j,(dL m p c k j)[k]?=m[k]?
 | 0=>rfl
 | j+1=>by
  show ((dL m p c k j).set j _)[k]?=_;by_cases h:j=k
  ·subst h;rw [oW,if_pos rfl];have e:=W8_ m p c j j j (oK _);by_cases hl:j<m.length
   ·rw [if_pos (by rw [ju];exact hl)];unfold iN;rw [if_pos (.inl rfl)];rw [<- e];exact (gi (by rw [ju];exact hl)).symm
   ·rw [if_neg (by rw [ju];exact hl),oL (by omega)]
  ·rw [oW,if_neg h];exact N2_ m p c k j
structure fh where
 m:List (List Rat)
 lead:List Nat
 det:Rat
def bC (c:Nat) (s:fh):fh :=
 let k:=s.lead.length
 let a:=fF s.m c (s.m.length-k) k
 if a=s.m.length then ⟨s.m,s.lead,0⟩
 else
  let m1:=if a=k then s.m else bE s.m k a
  let d1:=if a=k then s.det else -s.det
  let f:=aF m1 k c
  let m2:=m1.set k (dE (cC m1 k) f)
  ⟨dL m2 (dE (cC m1 k) f) c k m2.length,s.lead++[c],d1*f⟩
def ai (m:List (List Rat)):Nat->fh
 | 0=>⟨m,[],1⟩
 | c+1=>bC c (ai m c)
def bY (C:Nat) (m:List (List Rat)):Prop:=∀ r∈m,r.length=C
theorem bY.get {C:Nat} {m:List (List Rat)} (h:bY C m) {i:Nat} {r:List Rat} (hr:m[i]?=some r):r.length=C:=h r (oE hr)
theorem bY.set {C:Nat} {m:List (List Rat)} (h:bY C m) (i:Nat) {r:List Rat} (hr:r.length=C):bY C (m.set i r):=fun q hq=>by
 rcases List.mem_or_eq_of_mem_set hq with hq | rfl;·exact h q hq
 ·exact hr
theorem bY.swp {C:Nat} {m:List (List Rat)} (h:bY C m) (i j:Nat):bY C (bE m i j):=by
 unfold Proofs.YtjlkkofmojgipaaGreatDoor.bE
 split
 ·rename_i a b ha hb;exact (h.set i (h.get hb)).set j (h.get ha)
 ·exact h
theorem bY.elim {C:Nat} {m:List (List Rat)} (h:bY C m) {p:List Rat} (hp:p.length=C) (c k:Nat):∀ j,j<=m.length->bY C (dL m p c k j)
 | 0,_=>h
 | j+1,hj=>by
  have ih:=bY.elim h hp c k j (by omega);have hr:=ih.get (gi (m:=dL m p c k j) (i:=j) (by rw [ju];omega));exact ih.set j (by rw [Z20 (by rw [hp,hr])];exact hr)
theorem g7_ {C c : Nat} {s : fh} (h : bY C s.m) (hk : s.lead.length <= s.m.length) : bY C (bC c s).m /\ (bC c s).m.length = s.m.length /\ (bC c s).lead.length <= s.m.length := by
  unfold bC;simp only;by_cases ha : fF s.m c (s.m.length - s.lead.length) s.lead.length = s.m.length;· rw [if_pos ha]; exact ⟨h, rfl, hk⟩
  · rw [if_neg ha]
    have hm1 : ∀ a, bY C (if a = s.lead.length then s.m else Proofs.YtjlkkofmojgipaaGreatDoor.bE s.m s.lead.length a) /\ (if a = s.lead.length then s.m else Proofs.YtjlkkofmojgipaaGreatDoor.bE s.m s.lead.length a).length = s.m.length := by
      intro a; split;· exact ⟨h, rfl⟩
      · exact ⟨h.swp _ _, h_ _ _ _⟩
    have yl : ∀ f a, fF s.m c f a <= a + f := by
      intro f
      induction f with
      | zero => intro a; exact oK _
      | succ f ih => intro a; unfold fF; split
                     · have := ih (a + 1); omega
                     · omega
    have hlt : s.lead.length < s.m.length := by
      false_or_by_contra
      rename_i hn;have e : s.m.length - s.lead.length = 0 := by omega
      rw [e] at ha;exact ha (by show s.lead.length = _; omega)
    generalize fF s.m c (s.m.length - s.lead.length) s.lead.length = a at *
    obtain ⟨r1, r2⟩ := hm1 a;generalize (if a = s.lead.length then s.m else Proofs.YtjlkkofmojgipaaGreatDoor.bE s.m s.lead.length a) = m1 at *
    have hr := r1.get (gi (m := m1) (i := s.lead.length) (by omega));have hd : (dE (cC m1 s.lead.length) (aF m1 s.lead.length c)).length = C := by rw [W7_, hr]
    refine ⟨(r1.set _ hd).elim hd c _ _ (oK _), by rw [ju, List.length_set, r2], by rw [oV]; simp; omega⟩
theorem lE {C:Nat} {m:List (List Rat)} (h:bY C m):∀ c,bY C (ai m c).m/\(ai m c).m.length=m.length/\(ai m c).lead.length<=m.length
 | 0=>⟨h,rfl,Nat.zero_le _⟩
 | c+1=>by
  obtain ⟨h1,h2,h3⟩:=lE h c;obtain ⟨k1,k2,k3⟩:=g7_ (c:=c) h1 (by omega);exact ⟨k1,by show (bC c (ai m c)).m.length=_;omega,by show (bC c (ai m c)).lead.length<=_;omega⟩
def gV (K:Nat) (m:List (List Rat)):Prop:=∀ r∈m,∀ x∈r,RS K x
theorem gV.get {K:Nat} {m:List (List Rat)} (h:gV K m) {i j:Nat} {r:List Rat} {x:Rat} (hr:m[i]?=some r) (hx:r[j]?=some x):RS K x:=h r (oE hr) x (oE hx)
theorem gV.swp {K:Nat} {m:List (List Rat)} (h:gV K m) (i j:Nat):gV K (Proofs.YtjlkkofmojgipaaGreatDoor.bE m i j):=by
 unfold Proofs.YtjlkkofmojgipaaGreatDoor.bE
 split
 ·rename_i a b ha hb;intro r hr x hx;rcases List.mem_or_eq_of_mem_set hr with hr | rfl
  ·rcases List.mem_or_eq_of_mem_set hr with hr | rfl;·exact h r hr x hx
   ·exact h _ (oE hb) x hx
  ·exact h _ (oE ha) x hx
 ·exact h
theorem P1_ (n:Int) (d:Nat) (hd:d≠0):(aB (mkRat n d).num).size<=(aB n).size/\(aE (mkRat n d).den).size<=(aE d).size:=by
 obtain ⟨h1,h2⟩:=X0_ n d hd;rw [h1,h2];exact ⟨Z1W _ _,iV (Nat.div_le_self _ _)⟩
theorem Z52 {K L:Nat} {x y:Rat} (hx:RS K x) (hy:RS L y):RS (K+L+1) (x*y):=by
 have h:=P1_ (x.num*y.num) (x.den*y.den) (Nat.mul_ne_zero x.den_nz y.den_nz);rw [<- Rat.mul_def'] at h;have h1:=iR x.num y.num;have h2:=nj x.den y.den;have a1:=hx.1;have a2:=hx.2;have a3:=hy.1;have a4:=hy.2;exact ⟨by omega,by omega⟩
theorem Z6k {K:Nat} {y:Rat} (hy:RS K y) (h0:y≠0):RS (K+1) y⁻¹:=by
 rw [Rat.inv_def];have hn:y.num≠0:=fun h=>h0 (Rat.num_eq_zero.1 h);have a3:=hy.1;have a4:=hy.2;have hs1:=er (-(y.den:Int));have hs2:=dm y.num;rw [Int.natAbs_neg] at hs1;have e2:(y.den:Int).natAbs=y.den:=rfl;rw [e2] at hs1;by_cases h:y.num<0
 ·have e:y.num=-(y.num.natAbs:Int):=by omega
  rw [e,E7_ _ _ (by omega)];have:=P1_ (-(y.den:Int)) y.num.natAbs (by omega);exact ⟨by omega,by omega⟩
 ·have e:y.num=(y.num.natAbs:Int):=by omega
  rw [e,E8_];have:=P1_ (y.den:Int) y.num.natAbs (by omega);rw [eb] at this;exact ⟨by omega,by omega⟩
theorem Z4X {K L:Nat} {x y:Rat} (hx:RS K x) (hy:RS L y) (h0:y≠0):RS (K+L+2) (x / y):=by
 rw [Rat.div_def];exact (Z52 hx (Z6k hy h0)).mono (by omega)
theorem Z6n {K:Nat} {y:Rat} (hy:RS K y):RS (K+1) (-y):=by
 refine ⟨?_,by show (aE y.den).size<=_;have:=hy.2;omega⟩;have h1:=er (-y.num);have h2:=dm y.num;rw [Int.natAbs_neg] at h1;rw [Rat.neg_num];have:=hy.1;omega
def cw (r:og):List Rat:=r.map fun x:Int=>(x:Rat)
theorem S6_ (r:og):(cw r).length=r.length:=by simp [cw]
def bF (m:oe):List (List Rat):=m.map cw
theorem j5 (m:oe):(bF m).length=m.length:=by simp [bF]
structure mh (m:List (List Rat)):Prop where
 val:∀ i j,aF m i j=0\/aF m i j=1
 one:∀ i i' j,aF m i j=1->aF m i' j=1->i=i'
theorem nM {m:List (List Rat)} {i c:Nat} (h:m.length<=i):aF m i c=0:=by
 unfold aF cC;rw [oD (l:=m),oL h];simp
theorem k8_ {m:List (List Rat)} {a b:Nat} (ha:a<m.length) (hb:b<m.length) (i j:Nat):aF (bE m a b) i j=aF m (if i=b then a else if i=a then b else i) j:=by
 unfold aF cC;rw [oD (l:=bE m a b),oD (l:=m),fO (oB ha) (oB hb)];by_cases h1:i=b;·rw [if_pos h1,if_pos h1,oB ha]
 ·rw [if_neg h1,if_neg h1];by_cases h2:i=a;·rw [if_pos h2,if_pos h2,oB hb]
  ·rw [if_neg h2,if_neg h2]
theorem mh.swp {m:List (List Rat)} (h:mh m) {a b:Nat} (ha:a<m.length) (hb:b<m.length):mh (Proofs.YtjlkkofmojgipaaGreatDoor.bE m a b):=by
 refine ⟨fun i j=>by rw [k8_ ha hb];exact h.val _ _,fun i i' j h1 h2=>?_⟩;rw [k8_ ha hb] at h1 h2;have e:=h.one _ _ _ h1 h2
 repeat' split at e
 all_goals omega
theorem D4_ (m:List (List Rat)) (c:Nat):∀ (f a:Nat),a<=fF m c f a/\fF m c f a<=a+f/\(∀ j,a<=j->j<fF m c f a->aF m j c=0)/\(fF m c f a<a+f->aF m (fF m c f a) c≠0)
 | 0,a=>⟨oK _,oK _,fun j h1 h2=>by have:j<a:=h2;omega,fun h=>by have:a<a+0:=h;omega⟩
 | f+1,a=>by
  unfold fF;by_cases h:aF m a c=0
  ·rw [if_pos h];obtain ⟨h1,h2,h3,h4⟩:=D4_ m c f (a+1);refine ⟨by omega,by omega,fun j Kt xU=>?_,fun hh=>h4 (by omega)⟩;by_cases e:j=a;·rw [e];exact h
   ·exact h3 j (by omega) xU
  ·rw [if_neg h];exact ⟨oK _,by omega,fun j h1 h2=>by omega,fun _=>h⟩
theorem mh.rs {m:List (List Rat)} (h:mh m):gV 2500 m:=by
 intro r hr x hx;obtain ⟨i,hi⟩:=List.getElem?_of_mem hr;obtain ⟨j,hj⟩:=List.getElem?_of_mem hx;have e:aF m i j=x:=y1_ (by rw [nu hi];exact hj);have hs:(aB 1).size<=2/\(aB 0).size<=2/\(aE 1).size<=2:=by
  unfold aB aE Lib.itoa;rw [if_neg (by omega),if_neg (by omega),show (1:Int).toNat=1 from rfl,show (0:Int).toNat=0 from rfl,Lib.decDigits_one (by omega),Lib.decDigits_one (by omega)];exact ⟨by decide,by decide,by decide⟩
 rcases h.val i j with h0 | h0
 ·rw [<- e,h0];exact ⟨oJ hs.2.1 (by omega),oJ hs.2.2 (by omega)⟩
 ·rw [<- e,h0];exact ⟨oJ hs.1 (by omega),oJ hs.2.2 (by omega)⟩
theorem b9_ {m:List (List Rat)} {k:Nat} (r:List Rat) (hk:k<m.length) (i:Nat):cC (m.set k r) i=if i=k then r else cC m i:=by
 unfold cC;rw [oD,oW];by_cases h:i=k;·subst h;rw [if_pos rfl,if_pos rfl,if_pos hk];rfl
 ·rw [if_neg (by omega),if_neg h,oD]
theorem r3_ (r:List Rat) (q:Rat) (x:Nat):(dE r q).getD x 0=r.getD x 0 / q:=by
 unfold dE;rw [oD,oD,oF];cases r[x]? with
 | none=>show (0:Rat)=0 / q;rw [Rat.div_def,Rat.zero_mul]
 | some y=>rfl
theorem Z3l {r s:List Rat} (f:Rat) (h:s.length=r.length) (x:Nat):(fp r s f).getD x 0=r.getD x 0-f*s.getD x 0:=by
 unfold fp;rw [oD,oD,oD,List.getElem?_zipWith];by_cases hx:x<r.length;·rw [oB hx,oB (by omega:x<s.length)];rfl
 ·rw [oL (by omega:r.length<=x),oL (by omega:s.length<=x)];show (0:Rat)=0-f*0;grind
theorem Z3V {p:List Rat} {c k i:Nat} {r:List Rat} (h:p.length=r.length) (x:Nat):(iN p c k i r).getD x 0=if i=k then r.getD x 0 else r.getD x 0-r.getD c 0*p.getD x 0:=by
 unfold iN;by_cases hi:i=k;·rw [if_pos (.inl hi),if_pos hi]
 ·rw [if_neg hi];by_cases h0:r.getD c 0=0;·rw [if_pos (.inr h0),h0];grind
  ·rw [if_neg (by simp [hi];exact h0),Z3l _ h]
theorem r5_ {C:Nat} {m:List (List Rat)} {p:List Rat} {c k:Nat} (hR:bY C m) (hp:p.length=C) (x:Nat) :
  ∀ j,j<=m.length->∀ i,aF (dL m p c k j) i x=if i<j/\i≠k then aF m i x-aF m i c*p.getD x 0 else aF m i x
 | 0,_,i=>by rw [if_neg (by omega)];rfl
 | j+1,hj,i=>by
  have ih:=r5_ (c:=c) (k:=k) hR hp x j (by omega) i;show aF ((dL m p c k j).set j (iN p c k j (cC (dL m p c k j) j))) i x=_;have hrow:cC (dL m p c k j) j=cC m j:=by
   unfold cC;rw [oD,W8_ m p c k j j (oK _),<- oD]
  have hl:p.length=(cC m j).length:=by rw [hp];exact (hR.get (gi (by omega))).symm
  unfold aF at ih |-;rw [b9_ _ (by rw [ju];omega),hrow];by_cases e:i=j
  ·subst e;rw [if_pos rfl,Z3V hl];by_cases h:i=k;·rw [if_pos h,if_neg (by simp [h])]
   ·rw [if_neg h,if_pos ⟨by omega,h⟩]
  ·rw [if_neg e,ih];by_cases h:i<j/\i≠k;·rw [if_pos h,if_pos ⟨by omega,h.2⟩]
   ·rw [if_neg h,if_neg (by rintro ⟨h1,h2⟩;exact h ⟨by omega,h2⟩)]
theorem lK (r i:Nat):aT r r i=i:=by unfold aT;repeat' split <;> try omega
theorem v8_ {C c:Nat} {s:fh} (hR:bY C s.m) (hk:s.lead.length<=s.m.length) :
  (bC c s=⟨s.m,s.lead,0⟩/\∀ i,s.lead.length<=i->aF s.m i c=0) \/
  ∃ a,s.lead.length<=a/\a<s.m.length/\aF s.m a c≠0/\(∀ j,s.lead.length<=j->j<a->aF s.m j c=0) /\
   (bC c s).lead=s.lead++[c]/\(bC c s).m.length=s.m.length/\(bC c s).det=(if a=s.lead.length then s.det else -s.det)*aF s.m a c /\
   ∀ i j,aF (bC c s).m i j=if i=s.lead.length then aF s.m a j / aF s.m a c else aF s.m (aT s.lead.length a i) j-aF s.m (aT s.lead.length a i) c*(aF s.m a j / aF s.m a c):=by
 obtain ⟨h1,h2,h3,h4⟩:=D4_ s.m c (s.m.length-s.lead.length) s.lead.length;unfold bC;simp only;generalize ha:fF s.m c (s.m.length-s.lead.length) s.lead.length=a at *
 by_cases e:a=s.m.length
 ·refine .inl ⟨by rw [if_pos e],fun i hi=>?_⟩;by_cases hl:i<s.m.length;·exact h3 i hi (by omega)
  ·exact nM (by omega)
 ·rw [if_neg e];have pT:a<s.m.length:=by omega
  have hne:=h4 (by omega);refine .inr ⟨a,h1,pT,hne,h3,rfl,?_⟩;have hm1:∀ i j,aF (if a=s.lead.length then s.m else bE s.m s.lead.length a) i j=aF s.m (aT s.lead.length a i) j:=by
   intro i j;by_cases hr:a=s.lead.length;·rw [if_pos hr,hr,lK]
   ·rw [if_neg hr,k8_ (by omega) pT];congr 1;unfold aT;repeat' split <;> try omega
  have xm:bY C (if a=s.lead.length then s.m else bE s.m s.lead.length a):=by
   split
   ·exact hR
   ·exact hR.swp _ _
  have xo:(if a=s.lead.length then s.m else bE s.m s.lead.length a).length=s.m.length:=by
   split
   ·rfl
   ·exact h_ _ _ _
  generalize (if a=s.lead.length then s.m else bE s.m s.lead.length a)=m1 at *
  have ht:aT s.lead.length a s.lead.length=a:=by unfold aT;rw [if_pos rfl]
  have hf:aF m1 s.lead.length c=aF s.m a c:=by rw [hm1,ht]
  rw [hf];have hrl:=xm.get (gi (m:=m1) (i:=s.lead.length) (by omega));have hdl:(dE (cC m1 s.lead.length) (aF s.m a c)).length=C:=by rw [W7_,hrl]
  have hR2:=xm.set s.lead.length hdl;refine ⟨by rw [ju,List.length_set,xo],rfl,fun i j=>?_⟩;rw [r5_ hR2 hdl j _ (oK _) i];have qW:∀ i j,aF (m1.set s.lead.length (dE (cC m1 s.lead.length) (aF s.m a c))) i j=if i=s.lead.length then aF s.m a j / aF s.m a c else aF s.m (aT s.lead.length a i) j:=by
   intro i j;unfold aF at hm1 |-;rw [b9_ _ (by omega)];by_cases hi:i=s.lead.length;·rw [if_pos hi,if_pos hi,r3_,hm1,ht]
   ·rw [if_neg hi,if_neg hi,hm1]
  have Dy:(dE (cC m1 s.lead.length) (aF s.m a c)).getD j 0=aF s.m a j / aF s.m a c:=by
   rw [r3_];show aF m1 s.lead.length j / _=_;rw [hm1,ht]
  rw [Dy,qW,qW,List.length_set,xo];by_cases hi:i=s.lead.length;·rw [if_pos hi,if_neg (by rintro ⟨-,h⟩;exact h hi),if_pos hi]
  ·rw [if_neg hi,if_neg hi,if_neg hi];by_cases hil:i<s.m.length;·rw [if_pos ⟨hil,hi⟩]
   ·rw [if_neg (by rintro ⟨h,-⟩;exact hil h)];have:aT s.lead.length a i=i:=(by unfold aT;rw [if_neg hi,if_neg (by omega)]);rw [this,nM (by omega:s.m.length<=i),nM (by omega:s.m.length<=i)];grind
structure gZ (R:Nat) (f:(Nat->Nat->Rat)->Rat):Prop where
 congr:∀ M N:Nat->Nat->Rat,(∀ a b,a<R->M a b=N a b)->f M=f N
 swap:∀ (M:Nat->Nat->Rat) i j,i<j->j<R->f (fun a b=>M (aT i j a) b)=- f M
 scale:∀ (M:Nat->Nat->Rat) r c,r<R->f (b_ M r fun b=>c*M r b)=c*f M
 add:∀ (M:Nat->Nat->Rat) r s c,r<R->s<R->r≠s->f (b_ M r fun b=>M r b+c*M s b)=f M
theorem gZ.zero {R:Nat} {f:(Nat->Nat->Rat)->Rat} (h:gZ R f) {M:Nat->Nat->Rat} {r:Nat} (hr:r<R) (h0:∀ b,M r b=0):f M=0:=by
 have h1:=h.scale M r 0 hr;have:b_ M r (fun b=>0*M r b)=M:=by
  funext a b;unfold b_;split;·rename_i e;rw [e,h0 b];grind
  ·rfl
 rw [this] at h1;rw [h1];grind
theorem gZ.elim {R:Nat} {f:(Nat->Nat->Rat)->Rat} (h:gZ R f) (M:Nat->Nat->Rat) {r:Nat} (hr:r<R) (g:Nat->Rat) :
  ∀ t,t<=R->f (fun a b=>if a<t/\a≠r then M a b+g a*M r b else M a b)=f M
 | 0,_=>by
  congr 1
 | t+1,ht=>by
  by_cases e:t=r
  ·rw [<- gZ.elim h M hr g t (by omega)];congr 1;funext a b;have:(a<t+1/\a≠r)=(a<t/\a≠r):=propext ⟨fun h=>⟨by omega,h.2⟩,fun h=>⟨by omega,h.2⟩⟩;simp only [this]
  ·rw [<- gZ.elim h M hr g t (by omega)];rw [<- h.add (fun a b=>if a<t/\a≠r then M a b+g a*M r b else M a b) t r (g t) (by omega) hr e];congr 1;funext a b;by_cases ha:a=t
   ·subst ha;simp [b_,e]
   ·have:(a<t+1/\a≠r)=(a<t/\a≠r):=propext ⟨fun h=>⟨by omega,h.2⟩,fun h=>⟨by omega,h.2⟩⟩;simp only [b_,ha,if_false,this]
theorem gZ.pivot {R:Nat} {f:(Nat->Nat->Rat)->Rat} (h:gZ R f) {M N:Nat->Nat->Rat} {r a c:Nat} (hr:r<=a) (ha:a<R) (hne:M a c≠0)
  (hN:∀ i j,N i j=if i=r then M a j / M a c else M (aT r a i) j-M (aT r a i) c*(M a j / M a c)):f M=(if a=r then 1 else -1)*M a c*f N:=by
 obtain ⟨q,hq⟩:=oc (M a c);have ht:aT r a r=a:=by unfold aT;rw [if_pos rfl]
 obtain ⟨M1,wI⟩:∃ M1:Nat->Nat->Rat,M1=fun i j=>M (aT r a i) j:=⟨_,rfl⟩;obtain ⟨M2,sC⟩:∃ M2:Nat->Nat->Rat,M2=b_ M1 r fun b=>q⁻¹*M1 r b:=⟨_,rfl⟩;have h1:f M=(if a=r then 1 else -1)*f M1:=by
  by_cases e:a=r
  ·subst e;rw [if_pos rfl,wI];have:(fun i j=>M (aT a a i) j)=M:=(by funext i j;rw [lK]);rw [this];grind
  ·rw [if_neg e,wI,h.swap M r a (by omega) ha];grind
 have h2:f M2=q⁻¹*f M1:=by rw [sC];exact h.scale _ _ _ (by omega)
 have h3:=h.elim M2 (r:=r) (by omega) (fun i=>- M2 i c) R (oK _);have h4:f N=f M2:=by
  rw [<- h3];refine h.congr _ _ fun i j hi=>?_;have e2:∀ j,M2 r j=M a j / q:=fun j=>by rw [sC];unfold b_;rw [if_pos rfl,wI];show q⁻¹*M (aT r a r) j=_;rw [ht,Rat.div_def];grind
  rw [hN];by_cases e:i=r
  ·subst e;rw [if_pos rfl,if_neg (by rintro ⟨-,h⟩;exact h rfl),e2,hq]
  ·have e3:∀ j,M2 i j=M (aT r a i) j:=fun j=>by rw [sC];unfold b_;rw [if_neg e,wI]
   rw [if_neg e,if_pos ⟨hi,e⟩,e3,e3,e2,hq];grind
 rw [h4,h2,h1,<- hq];have:q*q⁻¹=1:=Rat.mul_inv_cancel q (by rw [hq];exact hne);grind
def aw (l:List Nat) (j:Nat):Nat:=l.getD j 0
theorem d6_ {l:List Nat} {c j:Nat} (h:j<l.length):aw (l++[c]) j=aw l j:=by
 unfold aw;rw [oD,oN h,<- oD]
theorem d5_ (l:List Nat) (c:Nat):aw (l++[c]) l.length=c:=by
 unfold aw;rw [oD];simp
structure gJ (R:Nat) (A:Nat->Nat->Rat) (c:Nat) (s:fh) (ρ:Nat->Nat) (sg x:Rat):Prop where
 len:s.m.length=R
 rle:s.lead.length<=R
 rlc:s.lead.length<=c
 klt:∀ l,l<s.lead.length->aw s.lead l<c
 full:s.lead.length=c->∀ l,l<c->aw s.lead l=l
 unit:∀ i l,l<s.lead.length->aF s.m i (aw s.lead l)=if i=l then 1 else 0
 zero:∀ i j,s.lead.length<=i->j<c->aF s.m i j=0
 rho:∀ i,i<R->ρ i<R
 sur:∀ i,i<R->∃ i',i'<R/\ρ i'=i
 span:∀ i j,i<R->A (ρ i) j=(if i<s.lead.length then 0 else aF s.m i j)+aI s.lead.length fun l=>aF s.m l j*A (ρ i) (aw s.lead l)
 dne:aL s.lead.length (fun a b=>A (ρ a) (aw s.lead b))≠0
 form:∀ f,gZ R f->f A=x*f (aF s.m)
 det:s.det=if s.lead.length=c then x else 0
 sgn:sg=1\/sg=-1
 sgf:∀ f,gZ R f->f (fun a b=>A (ρ a) b)=sg*f A
 xD:x=sg*aL s.lead.length fun a b=>A (ρ a) (aw s.lead b)
theorem gJ.big {R:Nat} {A:Nat->Nat->Rat} {c:Nat} {s:fh} {ρ:Nat->Nat} {sg x:Rat} (h:gJ R A c s ρ sg x) {i j:Nat} (hi:s.lead.length<=i) (Kx:i<R) :
  aL (s.lead.length+1) (fun a b=>A (if a<s.lead.length then ρ a else ρ i) (if b<s.lead.length then aw s.lead b else j))=aF s.m i j*aL s.lead.length fun a b=>A (ρ a) (aw s.lead b):=by
 generalize hr:s.lead.length=r at *
 have e:aL (r+1) (fun a b=>A (if a<r then ρ a else ρ i) (if b<r then aw s.lead b else j))=aL (r+1) (fun a b=>if b=r then (if a<r then 0 else aF s.m i j)+aI r (fun l=>aF s.m l j*A (if a<r then ρ a else ρ i) (aw s.lead l)) else A (if a<r then ρ a else ρ i) (aw s.lead b)):=by
  refine cA fun a b ha hb=>?_;by_cases e:b=r
  ·subst e;rw [if_neg (Nat.lt_irrefl b),if_pos rfl];by_cases e2:a<b
   ·rw [if_pos e2,if_pos e2];have:=h.span a j (by have:=h.rle;omega);rw [hr,if_pos e2] at this;exact this
   ·rw [if_neg e2,if_neg e2];have:=h.span i j Kx;rw [hr,if_neg (by omega)] at this;exact this
  ·rw [if_pos (show b<r by omega),if_neg e]
 rw [e,nE _ (by omega)];have h0:aI r (fun l=>aF s.m l j*aL (r+1) (fun a b=>if b=r then A (if a<r then ρ a else ρ i) (aw s.lead l) else A (if a<r then ρ a else ρ i) (aw s.lead b)))=0:=by
  rw [<- n8 r];refine cG fun l hl=>?_;rw [nD (i:=l) (j:=r) (by omega) (by omega) (by omega) (fun b hb=>by rw [if_neg (by omega),if_pos rfl])];grind
 rw [h0,T1_ (fun a ha=>by rw [if_pos rfl,if_pos ha])];rw [if_pos rfl,if_neg (by omega)];have:aL r (fun a b=>if b=r then (if a<r then 0 else aF s.m i j) else A (if a<r then ρ a else ρ i) (aw s.lead b))=aL r fun a b=>A (ρ a) (aw s.lead b):=cA fun a b ha hb=>by rw [if_neg (by omega),if_pos ha]
 rw [this];grind
theorem gJ.small {R:Nat} {A:Nat->Nat->Rat} {c:Nat} {s:fh} {ρ:Nat->Nat} {sg x:Rat} (h:gJ R A c s ρ sg x) {i j:Nat} (hi:i<s.lead.length) :
  aL s.lead.length (fun a b=>A (ρ a) (if b=i then j else aw s.lead b))=aF s.m i j*aL s.lead.length fun a b=>A (ρ a) (aw s.lead b):=by
 generalize hr:s.lead.length=r at *
 have e:aL r (fun a b=>A (ρ a) (if b=i then j else aw s.lead b))=aL r (fun a b=>if b=i then (0:Rat)+aI r (fun l=>aF s.m l j*A (ρ a) (aw s.lead l)) else A (ρ a) (aw s.lead b)):=by
  refine cA fun a b ha hb=>?_;by_cases e:b=i
  ·rw [if_pos e,if_pos e];have:=h.span a j (by have:=h.rle;omega);rw [hr,if_pos ha] at this;exact this
  ·rw [if_neg e,if_neg e]
 rw [e,nE _ hi (fun _=>0)];have h0:aL r (fun a b=>if b=i then (0:Rat) else A (ρ a) (aw s.lead b))=0:=by
  rw [<- dw];exact iM hi (fun b hb=>by rw [if_pos rfl])
 rw [h0,n7 hi (fun l hl hne=>by
  rw [nD (i:=l) (j:=i) hl hi hne (fun b hb=>by rw [if_neg hne,if_pos rfl])];grind)]
 have:aL r (fun a b=>if b=i then A (ρ a) (aw s.lead i) else A (ρ a) (aw s.lead b))=aL r fun a b=>A (ρ a) (aw s.lead b):=cA fun a b ha hb=>by
  split
  ·rename_i e;rw [e]
  ·rfl
 rw [this];grind
theorem o7_ {C:Nat} (m:List (List Rat)) (hR:bY C m):gJ m.length (aF m) 0 (ai m 0) (fun i=>i) 1 1 where
 len:=rfl
 rle:=Nat.zero_le _
 rlc:=oK _
 klt:=fun l hl=>by exact absurd hl (by show ¬ l<0;omega)
 full:=fun _ l hl=>by omega
 unit:=fun i l hl=>by exact absurd hl (by show ¬ l<0;omega)
 zero:=fun i j _ hj=>by omega
 rho:=fun i hi=>hi
 sur:=fun i hi=>⟨i,hi,rfl⟩
 span:=fun i j hi=>by
  show aF m i j=(if i<0 then 0 else aF m i j)+(0:Rat);rw [if_neg (by omega)];grind
 dne:=by show (1:Rat)≠0;decide
 form:=fun f hf=>by show f (aF m)=1*f (aF m);grind
 det:=rfl
 sgn:=.inl rfl
 sgf:=fun f hf=>by grind
 xD:=by show (1:Rat)=1*1;grind
theorem Z33 {C c:Nat} {R:Nat} {A:Nat->Nat->Rat} {s:fh} {ρ:Nat->Nat} {sg x:Rat} (h:gJ R A c s ρ sg x) (hR:bY C s.m) :
  ∃ ρ' sg' x',gJ R A (c+1) (bC c s) ρ' sg' x':=by
 rcases v8_ (c:=c) hR (by rw [h.len];exact h.rle) with ⟨e,hz⟩ | ⟨a,sB,ha2,hne,rl,pW,hlen,tK,qW⟩
 ·rw [e];refine ⟨ρ,sg,x,h.len,h.rle,Nat.le_succ_of_le h.rlc,fun l hl=>Nat.lt_succ_of_lt (h.klt l hl),fun hc=>?_,h.unit,fun i j hi hj=>?_,h.rho,h.sur,h.span,h.dne,h.form,?_,h.sgn,h.sgf,h.xD⟩
  ·have:=h.rlc;have qp:s.lead.length=c+1:=hc;omega
  ·by_cases e:j=c;·rw [e];exact hz i hi
   ·exact h.zero i j hi (by omega)
  ·show (0:Rat)=if s.lead.length=c+1 then x else 0
   rw [if_neg (by have:=h.rlc;omega)]
 ·rw [h.len] at ha2;have hL:(bC c s).lead.length=s.lead.length+1:=by rw [pW];simp
  have qC:∀ l,l<s.lead.length->aw (bC c s).lead l=aw s.lead l:=fun l hl=>by rw [pW];exact d6_ hl
  have pc:aw (bC c s).lead s.lead.length=c:=by rw [pW];exact d5_ _ _
  have hbig:=h.big (i:=a) (j:=c) sB ha2;generalize hr:s.lead.length=r at *
  have yL:aT r a r=a:=by unfold aT;rw [if_pos rfl]
  have tb:∀ i,i<r->aT r a i=i:=fun i hi=>by unfold aT;rw [if_neg (by omega),if_neg (by omega)]
  have B4:∀ i,r<=i->r<=aT r a i:=fun i hi=>by unfold aT;repeat' split <;> try omega
  have yc:∀ i,i<R->aT r a i<R:=fun i hi=>by unfold aT;repeat' split <;> try omega
  have yK:∀ i,aT r a (aT r a i)=i:=fun i=>by unfold aT;repeat' split <;> try omega
  have hdiv:aF s.m a c / aF s.m a c=1:=by rw [Rat.div_def];exact Rat.mul_inv_cancel _ hne
  have rQ:∀ l,l<r->aF s.m a (aw s.lead l)=0:=fun l hl=>by rw [h.unit a l (by omega),if_neg (by omega)]
  have tD:∀ i l,l<r+1->aF (bC c s).m i (aw (bC c s).lead l)=if i=l then 1 else 0:=by
   intro i l hl;by_cases e:l=r
   ·subst e;rw [pc,qW];by_cases e2:i=l;·rw [if_pos e2,if_pos e2,hdiv]
    ·rw [if_neg e2,if_neg e2,hdiv];grind
   ·rw [qC l (by omega),qW,rQ l (by omega)];by_cases e2:i=r;·rw [if_pos e2,if_neg (by omega),Rat.div_def,Rat.zero_mul]
    ·rw [if_neg e2,h.unit _ l (by omega),Rat.div_def,Rat.zero_mul];by_cases e3:i=l;·rw [if_pos e3,if_pos (by rw [e3];exact tb l (by omega))];grind
     ·rw [if_neg e3,if_neg (by intro e4;have h5:=yK i;rw [e4,tb l (by omega)] at h5;exact e3 h5.symm)];grind
  have hD:aL (r+1) (fun i b=>A (ρ (aT r a i)) (aw (bC c s).lead b))=aF s.m a c*aL r fun a b=>A (ρ a) (aw s.lead b):=by
   rw [<- hbig];refine cA fun i b hi hb=>?_;have e1:ρ (aT r a i)=if i<r then ρ i else ρ a:=by
    by_cases e:i<r;·rw [if_pos e,tb i e]
    ·rw [if_neg e,show i=r by omega,yL]
   have e2:aw (bC c s).lead b=if b<r then aw s.lead b else c:=by
    by_cases e:b<r;·rw [if_pos e,qC b e]
    ·rw [if_neg e,show b=r by omega,pc]
   rw [e1,e2]
  refine ⟨fun i=>ρ (aT r a i),(if a=r then 1 else -1)*sg,x*((if a=r then 1 else -1)*aF s.m a c),by rw [hlen,h.len],by rw [hL];omega,by rw [hL];have:=h.rlc;omega,?_,?_,?_,?_,?_,?_,?_,?_,?_,?_,?_,?_,?_⟩
  ·intro l hl;rw [hL] at hl;by_cases e:l=r;·rw [e,pc];omega
   ·rw [qC l (by omega)];have:=h.klt l (by omega);omega
  ·intro hc l hl;rw [hL] at hc;by_cases e:l=r;·rw [e,pc];omega
   ·rw [qC l (by omega)];exact h.full (by omega) l (by omega)
  ·rw [hL];exact tD
  ·intro i j hi hj;rw [hL] at hi;by_cases e:j=c
   ·have:=tD i r (by omega);rw [pc,if_neg (by omega)] at this;rw [e];exact this
   ·rw [qW,if_neg (by omega),h.zero (aT r a i) j (by have:=B4 i (by omega);omega) (by omega),h.zero a j (by omega) (by omega),Rat.div_def,Rat.zero_mul];grind
  ·intro i hi;exact h.rho _ (yc i hi)
  ·intro i hi;obtain ⟨i',h1,h2⟩:=h.sur i hi;exact ⟨aT r a i',yc i' h1,by rw [yK];exact h2⟩
  ·intro i j hi;have h1:=h.span (aT r a i) j (yc i hi);have h2:=h.span (aT r a i) c (yc i hi);rw [hL];show A (ρ (aT r a i)) j=_+(aI r (fun l=>aF (bC c s).m l j*A (ρ (aT r a i)) (aw (bC c s).lead l))+aF (bC c s).m r j*A (ρ (aT r a i)) (aw (bC c s).lead r));rw [pc];rw [hr] at h1 h2;have e1:aI r (fun l=>aF (bC c s).m l j*A (ρ (aT r a i)) (aw (bC c s).lead l))=aI r (fun l=>aF s.m l j*A (ρ (aT r a i)) (aw s.lead l))+- (aF s.m a j / aF s.m a c)*aI r (fun l=>aF s.m l c*A (ρ (aT r a i)) (aw s.lead l)):=by
    rw [<- ia,<- mV];refine cG fun l hl=>?_;rw [qC l hl,qW,if_neg (by omega),tb l hl];grind
   rw [e1,qW r j,if_pos rfl,qW i j];have hlt:(aT r a i<r)=(i<r):=by
    apply propext;constructor
    ·intro h;by_cases e:i<r;·exact e
     ·have:=B4 i (by omega);omega
    ·intro h;rw [tb i h];exact h
   simp only [hlt] at h1 h2;by_cases e:i<r
   ·rw [if_pos e] at h1 h2;rw [if_pos (by omega),h1,h2];grind
   ·rw [if_neg e] at h1 h2;by_cases e2:i=r
    ·rw [e2,yL] at h1 h2;rw [if_pos (by omega),e2,yL,h1,h2];have:aF s.m a j / aF s.m a c*aF s.m a c=aF s.m a j:=(by rw [Rat.div_def,Rat.mul_assoc,Rat.inv_mul_cancel _ hne,Rat.mul_one]);grind
    ·rw [if_neg (by omega),if_neg e2,h1,h2];grind
  ·rw [hL,hD];intro h0;rcases Rat.mul_eq_zero.1 h0 with h0 | h0;·exact hne h0
   ·exact h.dne (by rw [hr];exact h0)
  ·intro f hf;rw [h.form f hf,hf.pivot sB ha2 hne qW];grind
  ·rw [tK,h.det,hL,hr];by_cases e:r=c;·rw [if_pos e,if_pos (show r+1=c+1 by omega)];split <;> grind
   ·rw [if_neg e,if_neg (show ¬ r+1=c+1 by omega)];split <;> grind
  ·rcases h.sgn with e | e <;> rw [e] <;> split <;> first | (left;grind) | (right;grind)
  ·intro f hf;by_cases e:a=r
   ·rw [if_pos e,e];have:(fun i b=>A (ρ (aT r r i)) b)=fun i b=>A (ρ i) b:=by funext i b;rw [lK]
    rw [this,h.sgf f hf];grind
   ·rw [if_neg e,hf.swap (fun i b=>A (ρ i) b) r a (by omega) ha2,h.sgf f hf];grind
  ·rw [hL,hD,h.xD,hr];grind
theorem ns {C:Nat} (m:List (List Rat)) (hR:bY C m):∀ c,∃ ρ sg x,gJ m.length (aF m) c (ai m c) ρ sg x
 | 0=>⟨_,_,_,o7_ m hR⟩
 | c+1=>by
  obtain ⟨ρ,sg,x,h⟩:=ns m hR c;exact Z33 h (lE hR c).1
def bT (K:Nat) (x:Rat):Prop:=∃ z:Int,x=(z:Rat)/\z.natAbs<=K
theorem bT.mono {K L:Nat} {x:Rat} (h:bT K x) (hk:K<=L):bT L x:=by
 obtain ⟨z,h1,h2⟩:=h;exact ⟨z,h1,by omega⟩
theorem bT.zero (K:Nat):bT K 0:=⟨0,by simp,by simp⟩
theorem bT.add {K L:Nat} {x y:Rat} (h:bT K x) (k:bT L y):bT (K+L) (x+y):=by
 obtain ⟨z,rfl,h2⟩:=h;obtain ⟨z',rfl,k2⟩:=k;exact ⟨z+z',by rw [Rat.intCast_add],by omega⟩
theorem bT.mul {K L:Nat} {x y:Rat} (h:bT K x) (k:bT L y):bT (K*L) (x*y):=by
 obtain ⟨z,rfl,h2⟩:=h;obtain ⟨z',rfl,k2⟩:=k;exact ⟨z*z',by rw [Rat.intCast_mul],by rw [Int.natAbs_mul];exact Nat.mul_le_mul h2 k2⟩
theorem bT.sgn (i:Nat):bT 1 (dG i):=by
 unfold dG;split;·exact ⟨1,by simp,by simp⟩
 ·exact ⟨-1,by simp,by simp⟩
theorem bT.sum {K n:Nat} {f:Nat->Rat} (h:∀ i,i<n->bT K (f i)):bT (n*K) (aI n f):=by
 induction n with
 | zero=>exact (bT.zero _)
 | succ n ih =>
  have:=(ih fun i hi=>h i (by omega)).add (h n (by omega));rw [Nat.succ_mul];exact this
def dX (K:Nat):Nat->Nat
 | 0=>1
 | n+1=>(n+1)*(K*dX K n)
theorem L4_ {K n:Nat} {M:Nat->Nat->Rat} (h:∀ a b,bT K (M a b)):bT (dX K n) (aL n M):=by
 induction n generalizing M with
 | zero=>exact ⟨1,by simp [aL],by simp [dX]⟩
 | succ n ih =>
  show bT ((n+1)*(K*dX K n)) (aI (n+1) _);refine bT.sum fun i hi=>?_;have h1:=((bT.sgn i).mul (h i 0)).mul (ih (M:=fun a b=>M (sk i a) (b+1)) fun a b=>h _ _);rw [Nat.one_mul] at h1;exact h1
theorem nG {K : Nat} (hK : 1 <= K) {a b : Nat} (h : a <= b) : dX K a <= dX K b := by
  induction b with
  | zero => have : a = 0 := by omega
            subst this; exact oK _
  | succ b ih =>
    by_cases e : a = b + 1;· subst e; exact oK _
    · have h1 := ih (by omega)
      show _ <= (b + 1) * (K * dX K b);have h2 : 1 * dX K b <= K * dX K b := Nat.mul_le_mul_right _ hK;have h3 : 1 * (K * dX K b) <= (b + 1) * (K * dX K b) := Nat.mul_le_mul_right _ (by omega);omega
theorem Z5o:dX 1000000000 13<10^130:=by decide +kernel
theorem bT.rs {x:Rat} (h:bT (dX 1000000000 13) x):RS 131 x:=by
 obtain ⟨z,rfl,h2⟩:=h;have h3:=Nat.lt_of_le_of_lt h2 Z5o;refine ⟨?_,?_⟩
 ·show (aB ((z:Rat)).num).size<=131;rw [show ((z:Rat)).num=z from rfl];have h4:=er z;have h5:=jB z.natAbs 130 h3 (by omega);omega
 ·show (aE ((z:Rat)).den).size<=131;rw [show ((z:Rat)).den=1 from rfl,dn,Lib.nDigits_small (by omega)];omega
theorem Z34 {C:Nat} {m:List (List Rat)} (hR:bY C m) (hl:m.length<=12) (hm:∀ i j,bT 1000000000 (aF m i j)) (c:Nat):gV 2500 (ai m c).m/\RS 9000 (ai m c).det:=by
 obtain ⟨ρ,sg,x,h⟩:=ns m hR c;have KR:(ai m c).lead.length<=12:=by have:=h.rle;omega
 have hint:∀ (k:Nat) (f g:Nat->Nat),k<=13->bT (dX 1000000000 13) (aL k fun a b=>aF m (f a) (g b)):=fun k f g hk =>
  (L4_ (fun a b=>hm _ _)).mono (nG (by omega) hk)
 have hD:bT (dX 1000000000 13) (aL (ai m c).lead.length fun a b=>aF m (ρ a) (aw (ai m c).lead b)):=hint _ _ _ (by omega);have hne:=h.dne;have qW:∀ i j,i<m.length->RS 300 (aF (ai m c).m i j):=by
  intro i j hi;have hN:bT (dX 1000000000 13) (aF (ai m c).m i j*aL (ai m c).lead.length fun a b=>aF m (ρ a) (aw (ai m c).lead b)):=by
   by_cases e:i<(ai m c).lead.length
   ·rw [<- h.small e];exact hint _ ρ (fun b=>if b=i then j else aw (ai m c).lead b) (by omega)
   ·rw [<- h.big (by omega) hi];exact hint _ (fun a=>if a<(ai m c).lead.length then ρ a else ρ i) (fun b=>if b<(ai m c).lead.length then aw (ai m c).lead b else j) (by omega)
  generalize (aL (ai m c).lead.length fun a b=>aF m (ρ a) (aw (ai m c).lead b))=D at *
  generalize aF (ai m c).m i j=g at *
  have e:g=(g*D) / D:=by rw [Rat.div_def,Rat.mul_assoc,Rat.mul_inv_cancel _ hne,Rat.mul_one]
  rw [e];exact (Z4X hN.rs hD.rs hne).mono (by omega)
 have hsh:=lE hR c;refine ⟨fun r hr q hq=>?_,?_⟩
 ·obtain ⟨i,hi⟩:=List.getElem?_of_mem hr;obtain ⟨j,hj⟩:=List.getElem?_of_mem hq;have hil:=(oC.1 hi).1;have:=qW i j (by omega);unfold aF at this;rw [nu hi,oD,hj] at this;exact RS.mono this (by omega)
 ·rw [h.det]
  split
  ·rw [h.xD];rcases h.sgn with e | e
   ·rw [e,Rat.one_mul];exact hD.rs.mono (by omega)
   ·rw [e];have:bT (1*dX 1000000000 13) ((-1:Rat)*aL (ai m c).lead.length fun a b=>aF m (ρ a) (aw (ai m c).lead b)):=bT.mul ⟨-1,by simp,by simp⟩ hD;rw [Nat.one_mul] at this;exact this.rs.mono (by omega)
  ·exact (bT.zero _).rs.mono (by omega)
theorem i0_ {xss:oe} (h:∀ r∈xss,∀ a∈r,-1000000000<=a/\a<=1000000000) (i j:Nat):bT 1000000000 (aF (bF xss) i j):=by
 unfold aF cC bF;rw [oD (l:=xss.map cw),oF];cases hi:xss[i]? with
 | none=>exact bT.zero _
 | some r =>
  show bT _ ((cw r).getD j 0);unfold cw;rw [oD,oF];cases hj:r[j]? with
  | none=>exact bT.zero _
  | some a =>
   have:=h r (oE hi) a (oE hj);exact ⟨a,rfl,by omega⟩
def aV (xss:oe) (i j:Nat):Int:=(xss.getD i []).getD j 0
theorem nf (xss:oe) (i j:Nat):aF (bF xss) i j=(aV xss i j:Rat):=by
 unfold aF cC bF aV;rw [oD (l:=xss.map cw),oF,oD (l:=xss)];cases hi:xss[i]? with
 | none=>simp
 | some r =>
  show (cw r).getD j 0=((r.getD j 0:Int):Rat);unfold cw;rw [oD,oF,oD];cases hj:r[j]? with
  | none=>simp
  | some a=>rfl
end Go.Proofs.YtjlkkofmojgipaaGreatDoor
