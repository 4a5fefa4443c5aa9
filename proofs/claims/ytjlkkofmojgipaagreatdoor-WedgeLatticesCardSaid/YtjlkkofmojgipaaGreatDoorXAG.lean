import Derived.Test.YtjlkkofmojgipaaGreatDoorXAF
import Derived.Test.YtjlkkofmojgipaaGreatDoorXAA
import Derived.Laws.AppendOwnNone
set_option linter.unusedVariables false
set_option linter.unusedSimpArgs false
set_option maxRecDepth 1000000
set_option maxHeartbeats 8000000
namespace Go.Proofs.YtjlkkofmojgipaaGreatDoor
open Go.RowKit Go.Proofs.Tryz
theorem nf {P:Program} {fn:Func} {p s:Tmp} {ty:TypeId} (h:fn.results=#[.cell p ty,.tmp s]) (tmps:Array Value) (w:World) (g:Nat) (t:TypeId) (cs:Array Value) (fr:Nat×Nat) (d:TypeDesc) (v:Value)
  (hp:tmps.getD p undef=.pointer (some ⟨g,0,none⟩)) (hs:tmps.getD s undef=v) (hg:w.heap[g]?=some (.cells cs t fr))
  (hu:P.underlying ty=some d) (hd:(match d with | .struct _ | .array _ _=>true | _=>false)=true) (hi:(P.info? ty).map (·.size)=some cs.size) :
  (results fn tmps).run P w=.ok (.tuple #[.agg cs,v]) w:=by
 have rF:tmps[p]?.getD undef=.pointer (some ⟨g,0,none⟩):=by simpa using hp
 have tR:tmps[s]?.getD undef=v:=by simpa using hs
 simp [results,h,rF,tR,asAddr,run_loadVar_row w g t ty cs fr d hg hu hd hi]
theorem Z0z (x y:Rat) (w:World) (hx:RS 13000 x) (hy:RS 13000 y) (pR:y≠0) (ht:af w) :
  oW 164 #[bW x,bW y] w (.tuple #[bW (x / y),.int .i64 0]):=by
 have HT:=n8 ht;clear ht;obtain ⟨W1,rU,hE1,hs1,hb1⟩:=dr w (.string (aD x.num)) (.string (aE x.den)) 152;obtain ⟨W2,vO,oY,hs2,hb2⟩:=dr W1 (.string (aD y.num)) (.string (aE y.den)) 152;obtain ⟨W3,xU,oh,hs3,hb3⟩:=dr W2 (.string ⟨#[]⟩) (.string ⟨#[]⟩) 152;have hb1':=aO hb1 (oY.trans oh);have hb2':=aO hb2 oh;have HE:=n8 ((hE1.trans oY).trans oh);have HR:Hid (w.heap.size<=W2.heap.size):=by unfold Hid;omega
 have HN1:Hid (w.heap.size≠W2.heap.size):=by unfold Hid;omega
 have HN2:Hid (W1.heap.size≠W2.heap.size):=by unfold Hid;omega
 have HC:Hid (∀ W,aC W3 W->W.cell? ⟨w.heap.size,0,none⟩=some (.string (aD x.num))/\W.cell? ⟨w.heap.size,1,none⟩=some (.string (aE x.den))/\W.cell? ⟨W1.heap.size,0,none⟩=some (.string (aD y.num))/\W.cell? ⟨W1.heap.size,1,none⟩=some (.string (aE y.den))/\W.cell? ⟨W2.heap.size,0,none⟩=some (.string ⟨#[]⟩)/\W.cell? ⟨W2.heap.size,1,none⟩=some (.string ⟨#[]⟩)/\W.frozen? ⟨W2.heap.size,0,none⟩=false/\W.frozen? ⟨W2.heap.size,1,none⟩=false/\W.heap[W2.heap.size]?=some (.cells #[.string ⟨#[]⟩,.string ⟨#[]⟩] 152 (0,0))):=fun W hW=>by
  obtain ⟨a0,a1,-⟩:=dp (aO hb1' hW);obtain ⟨b0,b1,-⟩:=dp (aO hb2' hW);obtain ⟨c0,c1,cf⟩:=dp (aO hb3 hW);exact ⟨a0,a1,b0,b1,c0,c1,cf 0,cf 1,aO hb3 hW⟩
 have hSG:=fun W=>U8_ y W;have xy:y.num≠0:=fun h=>pR (Rat.num_eq_zero.1 h);have vE:(y.num.sign == 0)=false:=by rw [beq_eq_false_iff_ne];exact fun h=>xy (Int.sign_eq_zero_iff_zero.1 h)
 have tl:∀ W,aC w W->Calls prog 63 #[.string (aD x.num),.string (aE y.den)] W fun e w'=>e=.returned (.string (aD (x.num*(y.den:Int))))/\aC W w':=fun W hW=>by
  have:=ju x.num (y.den:Int) W (by have:=hx.1;omega) (by rw [eb];have:=hy.2;omega) (HT.ext hW);rw [eb] at this;exact this
 have rO:∀ W,aC w W->Calls prog 63 #[.string (aE x.den),.string (aD y.num)] W fun e w'=>e=.returned (.string (aD ((x.den:Int)*y.num)))/\aC W w':=fun W hW=>by
  have:=ju (x.den:Int) y.num W (by rw [eb];have:=hx.2;omega) (by have:=hy.1;omega) (HT.ext hW);rw [eb] at this;exact this
 have hL:∀ W,aC w W->Calls prog 200 #[.string (aD (x.num*(y.den:Int))),.string (aD ((x.den:Int)*y.num))] W fun e w'=>e=.returned (bW (x / y))/\aC W w':=fun W hW=>by
  rw [<- Z0C];have h1:=im x.num (y.den:Int);have h2:=im (x.den:Int) y.num;rw [eb y.den] at h1;rw [eb x.den] at h2;have h3:=hx.1;have h4:=hx.2;have h5:=hy.1;have h6:=hy.2;exact P1_ _ _ W (Int.mul_ne_zero (by have:=x.den_nz;omega) xy) (by omega) (by omega) (HT.ext hW)
 have HM1:=n8 tl;have HM2:=n8 rO;have HL:=n8 hL;have HSG:=n8 hSG;have pY:∀ q:Rat,bW q=.agg #[.string (aD q.num),.string (aE q.den)]:=fun _=>rfl;obtain ⟨Z,hZ⟩:∃ Z,Z=x / y:=⟨_,rfl⟩;obtain ⟨sg,se⟩:∃ sg,sg=y.num.sign:=⟨_,rfl⟩;rw [<- hZ] at HL |-;rw [<- se] at HSG vE;rw [pY x];rw [pY y] at HSG |-;rw [pY Z] at HL |-;clear hE1 oY oh hs1 hs2 hs3 hb1 hb2 hb3 hb1' hb2' tl rO hL hSG pY hx hy pR xy se;obtain ⟨n1,qB⟩:∃ n,n=aD x.num:=⟨_,rfl⟩;obtain ⟨d1,qf⟩:∃ n,n=aE x.den:=⟨_,rfl⟩;obtain ⟨n2,qO⟩:∃ n,n=aD y.num:=⟨_,rfl⟩;obtain ⟨d2,hd2⟩:∃ n,n=aE y.den:=⟨_,rfl⟩;obtain ⟨n4,tE⟩:∃ n,n=aD Z.num:=⟨_,rfl⟩;obtain ⟨d4,rz⟩:∃ n,n=aE Z.den:=⟨_,rfl⟩;obtain ⟨n3,xC⟩:∃ n,n=aD (x.num*(y.den:Int)):=⟨_,rfl⟩;obtain ⟨d3,wK⟩:∃ n,n=aD ((x.den:Int)*y.num):=⟨_,rfl⟩;rw [<- qB,<- hd2,<- xC] at HM1;rw [<- qf,<- qO,<- wK] at HM2;rw [<- xC,<- wK,<- tE,<- rz] at HL;rw [<- tE,<- rz];rw [<- qB,<- qf,<- qO,<- hd2] at HC |-;rw [<- qB,<- qf] at rU;rw [<- qO,<- hd2] at vO HSG;clear qB qf qO hd2 xC wK tE rz hZ;obtain ⟨c0,c1,c2,c3,c4,c5,c6,c7,-⟩:=HC W3 (aC.refl _)
 go_enter func164,ntmps164
 go_wp2_with fail;refine (HSG _).mono ?_;rintro e w4 ⟨rfl,hE4⟩;have HE4:=n8 hE4;clear hE4 HSG c0 c1 c2 c3 c4 c5 c6 c7;go_wp2_with fail;have HX3:=n8 (aC.trans (aC.trans HE HE4) (aC.drew _));obtain ⟨y1,y2,y3,y4,-,-,-,-,yb⟩:=HC _ (aC.trans HE4 (aC.drew _));have HB3:Hid (ah W2.heap.size (w4).drew):=⟨_,_,yb⟩;clear yb
 go_region_held3 (fun w'=>w'.cell? ⟨w.heap.size,0,none⟩=some (.string n1)/\w'.cell? ⟨w.heap.size,1,none⟩=some (.string d1)/\w'.cell? ⟨W1.heap.size,0,none⟩=some (.string n2)/\w'.cell? ⟨W1.heap.size,1,none⟩=some (.string d2)/\Hid (aC w w')/\Hid (ah W2.heap.size w'))
  (first | exact ⟨z1,z2,z3,z4,z5,z6⟩ | exact ⟨du HN1 z1,du HN1 z2,du HN2 z3,du HN2 z4,n8 (eH z5.out HR),n8 z6.out.set2⟩ | exact ⟨y1,y2,y3,y4,HX3,HB3⟩ | go_keep)
  (first
   | (go_at_call 63;have hc:=HM1 _ (Hid.out (p:=aC w _) (by assumption));with_reducible refine hc.mono ?_;clear hc;rintro e w6 ⟨rfl,og⟩;have q1:=og.cell (a:=⟨w.heap.size,0,none⟩) (v:=.string n1) (by assumption);have q2:=og.cell (a:=⟨w.heap.size,1,none⟩) (v:=.string d1) (by assumption);have q3:=og.cell (a:=⟨W1.heap.size,0,none⟩) (v:=.string n2) (by assumption);have q4:=og.cell (a:=⟨W1.heap.size,1,none⟩) (v:=.string d2) (by assumption);have q5:=n8 (aC.trans (Hid.out (p:=aC w _) (by assumption)) og);have q6:=n8 (ah.ext (Hid.out (p:=ah W2.heap.size _) (by assumption)) og);(try clear z1 z2 z3 z4 z5 z6 t0 t1 f0 f1);have z1:=q1;have z2:=q2;have z3:=q3;have z4:=q4;have z5:=q5;have z6:=q6;obtain ⟨r0,r1,t0,t1,f0,f1⟩:=z6.out.open;clear og q1 q2 q3 q4 q5 q6)
   | (go_at_call 63;have hc:=HM2 _ (Hid.out (p:=aC w _) (by assumption));with_reducible refine hc.mono ?_;clear hc;rintro e w6 ⟨rfl,og⟩;have q1:=og.cell (a:=⟨w.heap.size,0,none⟩) (v:=.string n1) (by assumption);have q2:=og.cell (a:=⟨w.heap.size,1,none⟩) (v:=.string d1) (by assumption);have q3:=og.cell (a:=⟨W1.heap.size,0,none⟩) (v:=.string n2) (by assumption);have q4:=og.cell (a:=⟨W1.heap.size,1,none⟩) (v:=.string d2) (by assumption);have q5:=n8 (aC.trans (Hid.out (p:=aC w _) (by assumption)) og);have q6:=n8 (ah.ext (Hid.out (p:=ah W2.heap.size _) (by assumption)) og);(try clear z1 z2 z3 z4 z5 z6 t0 t1 f0 f1);have z1:=q1;have z2:=q2;have z3:=q3;have z4:=q4;have z5:=q5;have z6:=q6;obtain ⟨r0,r1,t0,t1,f0,f1⟩:=z6.out.open;clear og q1 q2 q3 q4 q5 q6)
   | (go_at_call 200;have hc:=HL _ (Hid.out (p:=aC w _) (by assumption));with_reducible refine hc.mono ?_;clear hc;rintro e w6 ⟨rfl,og⟩;have q1:=og.cell (a:=⟨w.heap.size,0,none⟩) (v:=.string n1) (by assumption);have q2:=og.cell (a:=⟨w.heap.size,1,none⟩) (v:=.string d1) (by assumption);have q3:=og.cell (a:=⟨W1.heap.size,0,none⟩) (v:=.string n2) (by assumption);have q4:=og.cell (a:=⟨W1.heap.size,1,none⟩) (v:=.string d2) (by assumption);have q5:=n8 (aC.trans (Hid.out (p:=aC w _) (by assumption)) og);have q6:=n8 (ah.ext (Hid.out (p:=ah W2.heap.size _) (by assumption)) og);(try clear z1 z2 z3 z4 z5 z6 t0 t1 f0 f1);have z1:=q1;have z2:=q2;have z3:=q3;have z4:=q4;have z5:=q5;have z6:=q6;obtain ⟨r0,r1,t0,t1,f0,f1⟩:=z6.out.open;clear og q1 q2 q3 q4 q5 q6))
 all_goals
  have hb7:=ah.res (x:=.string n4) (y:=.string d4) z6.out;go_wp2_with fail;refine bodyPost_ret (nf (by rfl) _ _ W2.heap.size 152 #[.string n4,.string d4] (0,0) _ (.int .i64 0) (by rfl) (by rfl) hb7 underlying152 (by rfl) (by kernel_rfl)) (by rfl) ⟨rfl,?_⟩;exact eH z5.out HR
theorem Z0B (x y:Rat):Rat.divInt (x.num*(y.den:Int)+y.num*(x.den:Int)) ((x.den:Int)*(y.den:Int))=x+y:=by
 rw [Rat.add_def',<- Int.natCast_mul];rfl
theorem j3_ (x y:Rat) (hx:x.den=1) (hy:y.den=1):(x+y).num=x.num+y.num/\(x+y).den=1:=by
 rw [Rat.add_def',hx,hy];obtain ⟨h1,h2⟩:=X2_ (x.num*((1:Nat):Int)+y.num*((1:Nat):Int)) (1*1) (by omega);rw [h1,h2];simp
theorem Z0y (x y:Rat) (w:World) (hx:RS 12000 x) (hy:RS 12000 y) (ht:af w) :
  oW 201 #[bW x,bW y] w (bW (x+y)):=by
 have HT:=n8 ht;clear ht;obtain ⟨W1,rU,hE1,hs1,hb1⟩:=dr w (.string (aD x.num)) (.string (aE x.den)) 152;obtain ⟨W2,vO,oY,hs2,hb2⟩:=dr W1 (.string (aD y.num)) (.string (aE y.den)) 152;obtain ⟨W3,xU,oh,hs3,hb3⟩:=dr W2 (.string ⟨#[]⟩) (.string ⟨#[]⟩) 152;have hb1':=aO hb1 (oY.trans oh);have hb2':=aO hb2 oh;have HE:=n8 ((hE1.trans oY).trans oh);have HR:Hid (w.heap.size<=W2.heap.size):=by unfold Hid;omega
 have HN1:Hid (w.heap.size≠W2.heap.size):=by unfold Hid;omega
 have HN2:Hid (W1.heap.size≠W2.heap.size):=by unfold Hid;omega
 have HC:Hid (∀ W,aC W3 W->W.cell? ⟨w.heap.size,0,none⟩=some (.string (aD x.num))/\W.cell? ⟨w.heap.size,1,none⟩=some (.string (aE x.den))/\W.cell? ⟨W1.heap.size,0,none⟩=some (.string (aD y.num))/\W.cell? ⟨W1.heap.size,1,none⟩=some (.string (aE y.den))/\W.cell? ⟨W2.heap.size,0,none⟩=some (.string ⟨#[]⟩)/\W.cell? ⟨W2.heap.size,1,none⟩=some (.string ⟨#[]⟩)/\W.frozen? ⟨W2.heap.size,0,none⟩=false/\W.frozen? ⟨W2.heap.size,1,none⟩=false/\W.heap[W2.heap.size]?=some (.cells #[.string ⟨#[]⟩,.string ⟨#[]⟩] 152 (0,0))):=fun W hW=>by
  obtain ⟨a0,a1,-⟩:=dp (aO hb1' hW);obtain ⟨b0,b1,-⟩:=dp (aO hb2' hW);obtain ⟨c0,c1,cf⟩:=dp (aO hb3 hW);exact ⟨a0,a1,b0,b1,c0,c1,cf 0,cf 1,aO hb3 hW⟩
 have HB1:Hid (∀ W,Calls prog 198 #[bW x] W fun e w'=>∃ a b,e=.returned (.tuple #[.int .i64 a,.int .i64 b,.bool (decide ((aD x.num).size<=9) && decide ((aE x.den).size<=9))])/\Hid ((aD x.num).size<=9/\(aE x.den).size<=9->a=x.num/\b=x.den)/\aC W w'):=fun W=>S0_ x W;have HB2:Hid (∀ W,Calls prog 198 #[bW y] W fun e w'=>∃ a b,e=.returned (.tuple #[.int .i64 a,.int .i64 b,.bool (decide ((aD y.num).size<=9) && decide ((aE y.den).size<=9))])/\Hid ((aD y.num).size<=9/\(aE y.den).size<=9->a=y.num/\b=y.den)/\aC W w'):=fun W=>S0_ y W;obtain ⟨bx,hbx⟩:∃ b,b=(decide ((aD x.num).size<=9) && decide ((aE x.den).size<=9)):=⟨_,rfl⟩;obtain ⟨by',hby⟩:∃ b,b=(decide ((aD y.num).size<=9) && decide ((aE y.den).size<=9)):=⟨_,rfl⟩;rw [<- hbx] at HB1;rw [<- hby] at HB2;have vT:Hid (bx=true->(aD x.num).size<=9/\(aE x.den).size<=9):=by
  intro h;rw [hbx,Bool.and_eq_true,decide_eq_true_iff,decide_eq_true_iff] at h;exact h
 have zp:Hid (by'=true->(aD y.num).size<=9/\(aE y.den).size<=9):=by
  intro h;rw [hby,Bool.and_eq_true,decide_eq_true_iff,decide_eq_true_iff] at h;exact h
 have h3:=hx.1;have h4:=hx.2;have h5:=hy.1;have h6:=hy.2;have tl:∀ W,aC w W->Calls prog 63 #[.string (aD x.num),.string (aE y.den)] W fun e w'=>e=.returned (.string (aD (x.num*(y.den:Int))))/\aC W w':=fun W hW=>by
  have:=ju x.num (y.den:Int) W (by omega) (by rw [eb];omega) (HT.ext hW);rw [eb] at this;exact this
 have rO:∀ W,aC w W->Calls prog 63 #[.string (aD y.num),.string (aE x.den)] W fun e w'=>e=.returned (.string (aD (y.num*(x.den:Int))))/\aC W w':=fun W hW=>by
  have:=ju y.num (x.den:Int) W (by omega) (by rw [eb];omega) (HT.ext hW);rw [eb] at this;exact this
 have Jn:∀ W,aC w W->Calls prog 63 #[.string (aE x.den),.string (aE y.den)] W fun e w'=>e=.returned (.string (aD ((x.den:Int)*(y.den:Int))))/\aC W w':=fun W hW=>by
  have:=ju (x.den:Int) (y.den:Int) W (by rw [eb];omega) (by rw [eb];omega) (HT.ext hW);rw [eb,eb] at this;exact this
 have s1:=im x.num (y.den:Int);have s2:=im y.num (x.den:Int);have s3:=im (x.den:Int) (y.den:Int);rw [eb y.den] at s1;rw [eb x.den] at s2;rw [eb x.den,eb y.den] at s3;have s4:=r0_ (x.num*(y.den:Int)) (y.num*(x.den:Int));have hA:∀ W,aC w W->Calls prog 61 #[.string (aD (x.num*(y.den:Int))),.string (aD (y.num*(x.den:Int)))] W fun e w'=>e=.returned (.string (aD (x.num*(y.den:Int)+y.num*(x.den:Int))))/\aC W w':=fun W hW=>M2_ _ _ W (by omega) (by omega) (HT.ext hW);have hL:∀ W,aC w W->Calls prog 200 #[.string (aD (x.num*(y.den:Int)+y.num*(x.den:Int))),.string (aD ((x.den:Int)*(y.den:Int)))] W fun e w'=>e=.returned (bW (x+y))/\aC W w':=fun W hW=>by
  rw [<- Z0B];exact P1_ _ _ W (by rw [<- Int.natCast_mul];have:=Nat.mul_ne_zero x.den_nz y.den_nz;omega) (by omega) (by omega) (HT.ext hW)
 have hS:∀ W,aC w W->Calls prog 61 #[.string (aD x.num),.string (aD y.num)] W fun e w'=>e=.returned (.string (aD (x.num+y.num)))/\aC W w':=fun W hW=>M2_ _ _ W (by omega) (by omega) (HT.ext hW);have HM1:=n8 tl;have HM2:=n8 rO;have HM3:=n8 Jn;have HA:=n8 hA;have HL:=n8 hL;have HS:=n8 hS;have HOF:Hid ((aD x.num).size<=9/\(aE x.den).size<=9->(aD y.num).size<=9/\(aE y.den).size<=9->∃ (p1 p2 q:Int),x.num*(y.den:Int)=p1/\y.num*(x.den:Int)=p2/\(x.den:Int)*(y.den:Int)=q/\-1000000000000000000<=p1/\p1<=1000000000000000000/\-1000000000000000000<=p2/\p2<=1000000000000000000/\-1000000000000000000<=q/\q<=1000000000000000000/\∀ W,aC w W->oW 199 #[.int .i64 (p1+p2),.int .i64 q] W (bW (x+y))):=by
  intro h1 h2;have a1:=jo h1.1;have a2:=jo (n:=(x.den:Int)) (by rw [eb];exact h1.2);have a3:=jo h2.1;have a4:=jo (n:=(y.den:Int)) (by rw [eb];exact h2.2);have m1:=mB a1.1 a1.2 a4.1 a4.2 (by omega) (by omega);have m2:=mB a3.1 a3.2 a2.1 a2.2 (by omega) (by omega);have m3:=mB a2.1 a2.2 a4.1 a4.2 (by omega) (by omega);refine ⟨_,_,_,rfl,rfl,rfl,by omega,by omega,by omega,by omega,by omega,by omega,fun W hW=>?_⟩;have GK:0<x.den*y.den:=Nat.mul_pos x.den_pos y.den_pos;rw [<- Int.natCast_mul] at m3 |-;have:=Z1y (x.num*(y.den:Int)+y.num*(x.den:Int)) (x.den*y.den) W (by omega) (by omega) GK (by omega) (HT.ext hW);rw [Rat.add_def'];exact this
 have ho1:=k6_ x.den;have ho2:=k6_ y.den;have xl:Hid (x.den=1->y.den=1->aD (x.num+y.num)=aD (x+y).num/\aE (x+y).den=⟨#[49]⟩):=fun h1 h2=>by
  obtain ⟨e1,e2⟩:=j3_ x y h1 h2;rw [e1,e2];exact ⟨rfl,by unfold aE;rw [Lib.decDigits_one (by omega)];rfl⟩
 have pY:∀ q:Rat,bW q=.agg #[.string (aD q.num),.string (aE q.den)]:=fun _=>rfl;obtain ⟨o1,AG⟩:∃ o,o=decide (x.den=1):=⟨_,rfl⟩;obtain ⟨o2,AF⟩:∃ o,o=decide (y.den=1):=⟨_,rfl⟩;rw [<- AG] at ho1;rw [<- AF] at ho2;have xk:Hid (o1=true->o2=true->x.den=1/\y.den=1):=fun h1 h2=>⟨of_decide_eq_true (AG▸h1),of_decide_eq_true (AF▸h2)⟩
 obtain ⟨Z,hZ⟩:∃ Z,Z=x+y:=⟨_,rfl⟩;rw [<- hZ] at HL HOF xl |-;rw [pY x] at HB1 |-;rw [pY y] at HB2 |-;rw [pY Z] at HL HOF |-;clear hE1 oY oh hs1 hs2 hs3 hb1 hb2 hb3 hb1' hb2' hbx hby tl rO Jn hA hL hS pY hx hy h3 h4 h5 h6 s1 s2 s3 s4 AG AF hZ;obtain ⟨n1,qB⟩:∃ n,n=aD x.num:=⟨_,rfl⟩;obtain ⟨d1,qf⟩:∃ n,n=aE x.den:=⟨_,rfl⟩;obtain ⟨n2,qO⟩:∃ n,n=aD y.num:=⟨_,rfl⟩;obtain ⟨d2,hd2⟩:∃ n,n=aE y.den:=⟨_,rfl⟩;obtain ⟨n4,tE⟩:∃ n,n=aD Z.num:=⟨_,rfl⟩;obtain ⟨d4,rz⟩:∃ n,n=aE Z.den:=⟨_,rfl⟩;obtain ⟨m1,hm1⟩:∃ n,n=aD (x.num*(y.den:Int)):=⟨_,rfl⟩;obtain ⟨m2,wH⟩:∃ n,n=aD (y.num*(x.den:Int)):=⟨_,rfl⟩;obtain ⟨m3,vI⟩:∃ n,n=aD ((x.den:Int)*(y.den:Int)):=⟨_,rfl⟩;obtain ⟨m4,Fk⟩:∃ n,n=aD (x.num*(y.den:Int)+y.num*(x.den:Int)):=⟨_,rfl⟩;obtain ⟨m5,Fj⟩:∃ n,n=aD (x.num+y.num):=⟨_,rfl⟩;rw [<- qB,<- hd2,<- hm1] at HM1;rw [<- qO,<- qf,<- wH] at HM2;rw [<- qf,<- hd2,<- vI] at HM3;rw [<- hm1,<- wH,<- Fk] at HA;rw [<- Fk,<- vI,<- tE,<- rz] at HL;rw [<- qB,<- qO,<- Fj] at HS;rw [<- Fj,<- tE,<- rz] at xl;rw [<- tE,<- rz] at HOF |-;rw [<- qB,<- qf,<- qO,<- hd2] at HC |-;rw [<- qB,<- qf] at rU HB1 vT HOF;rw [<- qO,<- hd2] at vO HB2 zp HOF;rw [<- qf] at ho1;rw [<- hd2] at ho2;clear qB qf qO hd2 tE rz hm1 wH vI Fk Fj;obtain ⟨c0,c1,c2,c3,c4,c5,c6,c7,cb⟩:=HC W3 (aC.refl _);by_cases rZ:o1=true/\o2=true
 ·obtain ⟨h1,h2⟩:=rZ;obtain ⟨k1,k2⟩:=xk h1 h2;obtain ⟨e5,e4⟩:=xl k1 k2;rw [h1] at ho1;rw [h2] at ho2;rw [e5] at HS;rw [e4];have Jy:ah W2.heap.size W3:=⟨_,_,cb⟩;have HBL:=n8 Jy;clear h1 h2 k1 k2 e5 e4 cb Jy HM1 HM2 HM3 HA HL HOF HB1 HB2 vT zp xl xk
  go_enter func201,ntmps201
  go_wp2_with fail;refine (HS _ HE).mono ?_;rintro e w6 ⟨rfl,og⟩;have HE6:=n8 (aC.trans HE og);have z6:=n8 (HBL.ext og);obtain ⟨r0,r1,t0,t1,f0,f1⟩:=z6.out.open;clear og HS c0 c1 c2 c3 c4 c5 c6 c7;have hb7:=ah.res (x:=.string n4) (y:=.string ⟨#[49]⟩) z6.out;go_wp2_with fail;refine bodyPost_ret (results_cell_row (by rfl) _ _ W2.heap.size 152 #[.string n4,.string ⟨#[49]⟩] (0,0) _ (by rfl) hb7 underlying152 (by rfl) (by kernel_rfl)) (by rfl) ⟨rfl,?_⟩;exact eH HE6 HR
 ·have Ck:o1=false\/(o1=true/\o2=false):=by
   cases o1
   ·exact .inl rfl
   ·cases o2
    ·exact .inr ⟨rfl,rfl⟩
    ·exact absurd ⟨rfl,rfl⟩ rZ
  clear rZ xl xk HS cb;rcases Ck with h1 | ⟨h1,h2⟩
  case' inl =>
   rw [h1] at ho1;clear h1 ho2
  case' inr =>
   rw [h1] at ho1;rw [h2] at ho2;clear h1 h2
  all_goals
   go_enter func201,ntmps201
   go_wp2_with fail;refine (HB1 _).mono ?_;rintro e w4 ⟨a,b,rfl,qF,hE4⟩;have HAB:=qF;have HE4:=n8 hE4;obtain ⟨u0,u1,u2,u3,u4,u5,u6,u7,-⟩:=HC _ hE4;clear qF hE4 HB1 c0 c1 c2 c3 c4 c5 c6 c7;cases bx
   ·clear HB2 HOF HAB u0 u1 u2 u3 u4 u5 u6 u7;go_wp2_with fail;have HX3:=n8 (aC.trans (aC.trans HE HE4) (aC.drew _));obtain ⟨y1,y2,y3,y4,-,-,-,-,yb⟩:=HC _ (aC.trans HE4 (aC.drew _));have HB3:Hid (ah W2.heap.size (w4).drew):=⟨_,_,yb⟩;clear yb
    go_region_held3 (fun w'=>w'.cell? ⟨w.heap.size,0,none⟩=some (.string n1)/\w'.cell? ⟨w.heap.size,1,none⟩=some (.string d1)/\w'.cell? ⟨W1.heap.size,0,none⟩=some (.string n2)/\w'.cell? ⟨W1.heap.size,1,none⟩=some (.string d2)/\Hid (aC w w')/\Hid (ah W2.heap.size w'))
     (first | exact ⟨z1,z2,z3,z4,z5,z6⟩ | exact ⟨du HN1 z1,du HN1 z2,du HN2 z3,du HN2 z4,n8 (eH z5.out HR),n8 z6.out.set2⟩ | exact ⟨y1,y2,y3,y4,HX3,HB3⟩ | go_keep)
     (first
      | (go_at_call 63;have hc:=HM1 _ (Hid.out (p:=aC w _) (by assumption));with_reducible refine hc.mono ?_;clear hc;rintro e w6 ⟨rfl,og⟩;have q1:=og.cell (a:=⟨w.heap.size,0,none⟩) (v:=.string n1) (by assumption);have q2:=og.cell (a:=⟨w.heap.size,1,none⟩) (v:=.string d1) (by assumption);have q3:=og.cell (a:=⟨W1.heap.size,0,none⟩) (v:=.string n2) (by assumption);have q4:=og.cell (a:=⟨W1.heap.size,1,none⟩) (v:=.string d2) (by assumption);have q5:=n8 (aC.trans (Hid.out (p:=aC w _) (by assumption)) og);have q6:=n8 (ah.ext (Hid.out (p:=ah W2.heap.size _) (by assumption)) og);(try clear z1 z2 z3 z4 z5 z6 t0 t1 f0 f1);have z1:=q1;have z2:=q2;have z3:=q3;have z4:=q4;have z5:=q5;have z6:=q6;obtain ⟨r0,r1,t0,t1,f0,f1⟩:=z6.out.open;clear og q1 q2 q3 q4 q5 q6)
      | (go_at_call 63;have hc:=HM2 _ (Hid.out (p:=aC w _) (by assumption));with_reducible refine hc.mono ?_;clear hc;rintro e w6 ⟨rfl,og⟩;have q1:=og.cell (a:=⟨w.heap.size,0,none⟩) (v:=.string n1) (by assumption);have q2:=og.cell (a:=⟨w.heap.size,1,none⟩) (v:=.string d1) (by assumption);have q3:=og.cell (a:=⟨W1.heap.size,0,none⟩) (v:=.string n2) (by assumption);have q4:=og.cell (a:=⟨W1.heap.size,1,none⟩) (v:=.string d2) (by assumption);have q5:=n8 (aC.trans (Hid.out (p:=aC w _) (by assumption)) og);have q6:=n8 (ah.ext (Hid.out (p:=ah W2.heap.size _) (by assumption)) og);(try clear z1 z2 z3 z4 z5 z6 t0 t1 f0 f1);have z1:=q1;have z2:=q2;have z3:=q3;have z4:=q4;have z5:=q5;have z6:=q6;obtain ⟨r0,r1,t0,t1,f0,f1⟩:=z6.out.open;clear og q1 q2 q3 q4 q5 q6)
      | (go_at_call 63;have hc:=HM3 _ (Hid.out (p:=aC w _) (by assumption));with_reducible refine hc.mono ?_;clear hc;rintro e w6 ⟨rfl,og⟩;have q1:=og.cell (a:=⟨w.heap.size,0,none⟩) (v:=.string n1) (by assumption);have q2:=og.cell (a:=⟨w.heap.size,1,none⟩) (v:=.string d1) (by assumption);have q3:=og.cell (a:=⟨W1.heap.size,0,none⟩) (v:=.string n2) (by assumption);have q4:=og.cell (a:=⟨W1.heap.size,1,none⟩) (v:=.string d2) (by assumption);have q5:=n8 (aC.trans (Hid.out (p:=aC w _) (by assumption)) og);have q6:=n8 (ah.ext (Hid.out (p:=ah W2.heap.size _) (by assumption)) og);(try clear z1 z2 z3 z4 z5 z6 t0 t1 f0 f1);have z1:=q1;have z2:=q2;have z3:=q3;have z4:=q4;have z5:=q5;have z6:=q6;obtain ⟨r0,r1,t0,t1,f0,f1⟩:=z6.out.open;clear og q1 q2 q3 q4 q5 q6)
      | (go_at_call 61;have hc:=HA _ (Hid.out (p:=aC w _) (by assumption));with_reducible refine hc.mono ?_;clear hc;rintro e w6 ⟨rfl,og⟩;have q1:=og.cell (a:=⟨w.heap.size,0,none⟩) (v:=.string n1) (by assumption);have q2:=og.cell (a:=⟨w.heap.size,1,none⟩) (v:=.string d1) (by assumption);have q3:=og.cell (a:=⟨W1.heap.size,0,none⟩) (v:=.string n2) (by assumption);have q4:=og.cell (a:=⟨W1.heap.size,1,none⟩) (v:=.string d2) (by assumption);have q5:=n8 (aC.trans (Hid.out (p:=aC w _) (by assumption)) og);have q6:=n8 (ah.ext (Hid.out (p:=ah W2.heap.size _) (by assumption)) og);(try clear z1 z2 z3 z4 z5 z6 t0 t1 f0 f1);have z1:=q1;have z2:=q2;have z3:=q3;have z4:=q4;have z5:=q5;have z6:=q6;obtain ⟨r0,r1,t0,t1,f0,f1⟩:=z6.out.open;clear og q1 q2 q3 q4 q5 q6)
      | (go_at_call 200;have hc:=HL _ (Hid.out (p:=aC w _) (by assumption));with_reducible refine hc.mono ?_;clear hc;rintro e w6 ⟨rfl,og⟩;have q1:=og.cell (a:=⟨w.heap.size,0,none⟩) (v:=.string n1) (by assumption);have q2:=og.cell (a:=⟨w.heap.size,1,none⟩) (v:=.string d1) (by assumption);have q3:=og.cell (a:=⟨W1.heap.size,0,none⟩) (v:=.string n2) (by assumption);have q4:=og.cell (a:=⟨W1.heap.size,1,none⟩) (v:=.string d2) (by assumption);have q5:=n8 (aC.trans (Hid.out (p:=aC w _) (by assumption)) og);have q6:=n8 (ah.ext (Hid.out (p:=ah W2.heap.size _) (by assumption)) og);(try clear z1 z2 z3 z4 z5 z6 t0 t1 f0 f1);have z1:=q1;have z2:=q2;have z3:=q3;have z4:=q4;have z5:=q5;have z6:=q6;obtain ⟨r0,r1,t0,t1,f0,f1⟩:=z6.out.open;clear og q1 q2 q3 q4 q5 q6))
    all_goals
     have hb7:=ah.res (x:=.string n4) (y:=.string d4) z6.out;go_wp2_with fail;refine bodyPost_ret (results_cell_row (by rfl) _ _ W2.heap.size 152 #[.string n4,.string d4] (0,0) _ (by rfl) hb7 underlying152 (by rfl) (by kernel_rfl)) (by rfl) ⟨rfl,?_⟩;exact eH z5.out HR
   ·go_wp2_with fail;refine (HB2 _).mono ?_;rintro e w5 ⟨c,d,rfl,sv,ou⟩;have HCD:=sv;have HE5:=n8 (aC.trans HE4 ou);clear sv ou HB2 u0 u1 u2 u3 u4 u5 u6 u7;cases by'
    ·clear HOF HAB HCD;go_wp2_with fail;have HX3:=n8 (aC.trans (aC.trans HE HE5) (aC.drew _));obtain ⟨y1,y2,y3,y4,-,-,-,-,yb⟩:=HC _ (aC.trans HE5 (aC.drew _));have HB3:Hid (ah W2.heap.size (w5).drew):=⟨_,_,yb⟩;clear yb
     go_region_held3 (fun w'=>w'.cell? ⟨w.heap.size,0,none⟩=some (.string n1)/\w'.cell? ⟨w.heap.size,1,none⟩=some (.string d1)/\w'.cell? ⟨W1.heap.size,0,none⟩=some (.string n2)/\w'.cell? ⟨W1.heap.size,1,none⟩=some (.string d2)/\Hid (aC w w')/\Hid (ah W2.heap.size w'))
      (first | exact ⟨z1,z2,z3,z4,z5,z6⟩ | exact ⟨du HN1 z1,du HN1 z2,du HN2 z3,du HN2 z4,n8 (eH z5.out HR),n8 z6.out.set2⟩ | exact ⟨y1,y2,y3,y4,HX3,HB3⟩ | go_keep)
      (first
       | (go_at_call 63;have hc:=HM1 _ (Hid.out (p:=aC w _) (by assumption));with_reducible refine hc.mono ?_;clear hc;rintro e w6 ⟨rfl,og⟩;have q1:=og.cell (a:=⟨w.heap.size,0,none⟩) (v:=.string n1) (by assumption);have q2:=og.cell (a:=⟨w.heap.size,1,none⟩) (v:=.string d1) (by assumption);have q3:=og.cell (a:=⟨W1.heap.size,0,none⟩) (v:=.string n2) (by assumption);have q4:=og.cell (a:=⟨W1.heap.size,1,none⟩) (v:=.string d2) (by assumption);have q5:=n8 (aC.trans (Hid.out (p:=aC w _) (by assumption)) og);have q6:=n8 (ah.ext (Hid.out (p:=ah W2.heap.size _) (by assumption)) og);(try clear z1 z2 z3 z4 z5 z6 t0 t1 f0 f1);have z1:=q1;have z2:=q2;have z3:=q3;have z4:=q4;have z5:=q5;have z6:=q6;obtain ⟨r0,r1,t0,t1,f0,f1⟩:=z6.out.open;clear og q1 q2 q3 q4 q5 q6)
       | (go_at_call 63;have hc:=HM2 _ (Hid.out (p:=aC w _) (by assumption));with_reducible refine hc.mono ?_;clear hc;rintro e w6 ⟨rfl,og⟩;have q1:=og.cell (a:=⟨w.heap.size,0,none⟩) (v:=.string n1) (by assumption);have q2:=og.cell (a:=⟨w.heap.size,1,none⟩) (v:=.string d1) (by assumption);have q3:=og.cell (a:=⟨W1.heap.size,0,none⟩) (v:=.string n2) (by assumption);have q4:=og.cell (a:=⟨W1.heap.size,1,none⟩) (v:=.string d2) (by assumption);have q5:=n8 (aC.trans (Hid.out (p:=aC w _) (by assumption)) og);have q6:=n8 (ah.ext (Hid.out (p:=ah W2.heap.size _) (by assumption)) og);(try clear z1 z2 z3 z4 z5 z6 t0 t1 f0 f1);have z1:=q1;have z2:=q2;have z3:=q3;have z4:=q4;have z5:=q5;have z6:=q6;obtain ⟨r0,r1,t0,t1,f0,f1⟩:=z6.out.open;clear og q1 q2 q3 q4 q5 q6)
       | (go_at_call 63;have hc:=HM3 _ (Hid.out (p:=aC w _) (by assumption));with_reducible refine hc.mono ?_;clear hc;rintro e w6 ⟨rfl,og⟩;have q1:=og.cell (a:=⟨w.heap.size,0,none⟩) (v:=.string n1) (by assumption);have q2:=og.cell (a:=⟨w.heap.size,1,none⟩) (v:=.string d1) (by assumption);have q3:=og.cell (a:=⟨W1.heap.size,0,none⟩) (v:=.string n2) (by assumption);have q4:=og.cell (a:=⟨W1.heap.size,1,none⟩) (v:=.string d2) (by assumption);have q5:=n8 (aC.trans (Hid.out (p:=aC w _) (by assumption)) og);have q6:=n8 (ah.ext (Hid.out (p:=ah W2.heap.size _) (by assumption)) og);(try clear z1 z2 z3 z4 z5 z6 t0 t1 f0 f1);have z1:=q1;have z2:=q2;have z3:=q3;have z4:=q4;have z5:=q5;have z6:=q6;obtain ⟨r0,r1,t0,t1,f0,f1⟩:=z6.out.open;clear og q1 q2 q3 q4 q5 q6)
       | (go_at_call 61;have hc:=HA _ (Hid.out (p:=aC w _) (by assumption));with_reducible refine hc.mono ?_;clear hc;rintro e w6 ⟨rfl,og⟩;have q1:=og.cell (a:=⟨w.heap.size,0,none⟩) (v:=.string n1) (by assumption);have q2:=og.cell (a:=⟨w.heap.size,1,none⟩) (v:=.string d1) (by assumption);have q3:=og.cell (a:=⟨W1.heap.size,0,none⟩) (v:=.string n2) (by assumption);have q4:=og.cell (a:=⟨W1.heap.size,1,none⟩) (v:=.string d2) (by assumption);have q5:=n8 (aC.trans (Hid.out (p:=aC w _) (by assumption)) og);have q6:=n8 (ah.ext (Hid.out (p:=ah W2.heap.size _) (by assumption)) og);(try clear z1 z2 z3 z4 z5 z6 t0 t1 f0 f1);have z1:=q1;have z2:=q2;have z3:=q3;have z4:=q4;have z5:=q5;have z6:=q6;obtain ⟨r0,r1,t0,t1,f0,f1⟩:=z6.out.open;clear og q1 q2 q3 q4 q5 q6)
       | (go_at_call 200;have hc:=HL _ (Hid.out (p:=aC w _) (by assumption));with_reducible refine hc.mono ?_;clear hc;rintro e w6 ⟨rfl,og⟩;have q1:=og.cell (a:=⟨w.heap.size,0,none⟩) (v:=.string n1) (by assumption);have q2:=og.cell (a:=⟨w.heap.size,1,none⟩) (v:=.string d1) (by assumption);have q3:=og.cell (a:=⟨W1.heap.size,0,none⟩) (v:=.string n2) (by assumption);have q4:=og.cell (a:=⟨W1.heap.size,1,none⟩) (v:=.string d2) (by assumption);have q5:=n8 (aC.trans (Hid.out (p:=aC w _) (by assumption)) og);have q6:=n8 (ah.ext (Hid.out (p:=ah W2.heap.size _) (by assumption)) og);(try clear z1 z2 z3 z4 z5 z6 t0 t1 f0 f1);have z1:=q1;have z2:=q2;have z3:=q3;have z4:=q4;have z5:=q5;have z6:=q6;obtain ⟨r0,r1,t0,t1,f0,f1⟩:=z6.out.open;clear og q1 q2 q3 q4 q5 q6))
     all_goals
      have hb7:=ah.res (x:=.string n4) (y:=.string d4) z6.out;go_wp2_with fail;refine bodyPost_ret (results_cell_row (by rfl) _ _ W2.heap.size 152 #[.string n4,.string d4] (0,0) _ (by rfl) hb7 underlying152 (by rfl) (by kernel_rfl)) (by rfl) ⟨rfl,?_⟩;exact eH z5.out HR
    ·obtain ⟨ha,hb⟩:=HAB (vT (by first | rfl | trivial));obtain ⟨hc,hd⟩:=HCD (zp (by first | rfl | trivial));obtain ⟨p1,p2,q,hp1,hp2,hq,b1,b2,b3,b4,b5,b6,Cl⟩:=HOF (vT (by first | rfl | trivial)) (zp (by first | rfl | trivial));have HO:=n8 Cl;have LL:a*d=p1:=by rw [ha,hd];exact hp1
     have LK:c*b=p2:=by rw [hc,hb];exact hp2
     have LG:b*d=q:=by rw [hb,hd];exact hq
     clear ha hb hc hd hp1 hp2 hq Cl HAB HCD HOF HM1 HM2 HM3 HA HL;go_wp2_with fail;refine (HO _ (HE.trans HE5)).mono ?_;rintro e w6 ⟨rfl,og⟩;have HE6:=n8 (aC.trans HE5 og);obtain ⟨-,-,-,-,-,-,-,-,yb⟩:=HC _ HE6;have z6:Hid (ah W2.heap.size w6):=⟨_,_,yb⟩;obtain ⟨r0,r1,t0,t1,f0,f1⟩:=z6.out.open;clear og HO yb;have hb7:=ah.res (x:=.string n4) (y:=.string d4) z6.out;go_wp2_with fail;refine bodyPost_ret (results_cell_row (by rfl) _ _ W2.heap.size 152 #[.string n4,.string d4] (0,0) _ (by rfl) hb7 underlying152 (by rfl) (by kernel_rfl)) (by rfl) ⟨rfl,?_⟩;exact eH (HE.trans HE6) HR
theorem Z0A (x y:Rat) (w:World) (hx:RS 11000 x) (hy:RS 11000 y) (ht:af w) :
  oW 165 #[bW x,bW y] w (bW (x-y)):=by
 have HT:=n8 ht;clear ht;obtain ⟨W1,rU,hE1,hs1,hb1⟩:=dr w (.string (aD x.num)) (.string (aE x.den)) 152;obtain ⟨W2,vO,oY,hs2,hb2⟩:=dr W1 (.string (aD y.num)) (.string (aE y.den)) 152;obtain ⟨W3,xU,oh,hs3,hb3⟩:=dr W2 (.string ⟨#[]⟩) (.string ⟨#[]⟩) 152;have hb1':=aO hb1 (oY.trans oh);have hb2':=aO hb2 oh;have HE:=n8 ((hE1.trans oY).trans oh);have HR:Hid (w.heap.size<=W2.heap.size):=by unfold Hid;omega
 have HN1:Hid (w.heap.size≠W2.heap.size):=by unfold Hid;omega
 have HN2:Hid (W1.heap.size≠W2.heap.size):=by unfold Hid;omega
 have HC:Hid (∀ W,aC W3 W->W.cell? ⟨w.heap.size,0,none⟩=some (.string (aD x.num))/\W.cell? ⟨w.heap.size,1,none⟩=some (.string (aE x.den))/\W.cell? ⟨W1.heap.size,0,none⟩=some (.string (aD y.num))/\W.cell? ⟨W1.heap.size,1,none⟩=some (.string (aE y.den))/\W.cell? ⟨W2.heap.size,0,none⟩=some (.string ⟨#[]⟩)/\W.cell? ⟨W2.heap.size,1,none⟩=some (.string ⟨#[]⟩)/\W.frozen? ⟨W2.heap.size,0,none⟩=false/\W.frozen? ⟨W2.heap.size,1,none⟩=false/\W.heap[W2.heap.size]?=some (.cells #[.string ⟨#[]⟩,.string ⟨#[]⟩] 152 (0,0))):=fun W hW=>by
  obtain ⟨a0,a1,-⟩:=dp (aO hb1' hW);obtain ⟨b0,b1,-⟩:=dp (aO hb2' hW);obtain ⟨c0,c1,cf⟩:=dp (aO hb3 hW);exact ⟨a0,a1,b0,b1,c0,c1,cf 0,cf 1,aO hb3 hW⟩
 have vZ:RS 12000 (-y):=by
  refine ⟨?_,by show (aE y.den).size<=12000;have:=hy.2;omega⟩;have h1:=eK (-y.num);have h2:=d_ y.num;rw [Int.natAbs_neg] at h1;rw [Rat.neg_num];have:=hy.1;omega
 have rh:Hid (∀ W,aC w W->oW 162 #[bW y] W (bW (-y))):=fun W _=>C6_ y W (hy.mono (by omega));have HAD:Hid (∀ W,aC w W->oW 201 #[bW x,bW (-y)] W (bW (x-y))):=fun W hW=>by
  have:=Z0y x (-y) W (hx.mono (by omega)) vZ (HT.ext hW);rw [<- Rat.sub_eq_add_neg] at this;exact this
 have pY:∀ q:Rat,bW q=.agg #[.string (aD q.num),.string (aE q.den)]:=fun _=>rfl;obtain ⟨Z,hZ⟩:∃ Z,Z=x-y:=⟨_,rfl⟩;obtain ⟨V,hV⟩:∃ V,V=bW (-y):=⟨_,rfl⟩;rw [<- hZ] at HAD |-;rw [<- hV] at rh HAD;have HVV:Hid (V=.agg #[.string (aD (-y).num),.string (aE (-y).den)]):=hV;rw [HVV.out] at rh HAD;rw [pY x] at HAD |-;rw [pY y] at rh |-;rw [pY Z] at HAD |-;clear hE1 oY oh hs1 hs2 hs3 hb1 hb2 hb3 hb1' hb2' pY hx hy vZ hV HVV;obtain ⟨n1,qB⟩:∃ n,n=aD x.num:=⟨_,rfl⟩;obtain ⟨d1,qf⟩:∃ n,n=aE x.den:=⟨_,rfl⟩;obtain ⟨n2,qO⟩:∃ n,n=aD y.num:=⟨_,rfl⟩;obtain ⟨d2,hd2⟩:∃ n,n=aE y.den:=⟨_,rfl⟩;obtain ⟨n4,tE⟩:∃ n,n=aD Z.num:=⟨_,rfl⟩;obtain ⟨d4,rz⟩:∃ n,n=aE Z.den:=⟨_,rfl⟩;obtain ⟨n3,xC⟩:∃ n,n=aD (-y).num:=⟨_,rfl⟩;obtain ⟨d3,wK⟩:∃ n,n=aE (-y).den:=⟨_,rfl⟩;rw [<- qO,<- hd2,<- xC,<- wK] at rh;rw [<- qB,<- qf,<- xC,<- wK,<- tE,<- rz] at HAD;rw [<- tE,<- rz];rw [<- qB,<- qf,<- qO,<- hd2] at HC |-;rw [<- qB,<- qf] at rU;rw [<- qO,<- hd2] at vO;clear qB qf qO hd2 xC wK tE rz hZ;obtain ⟨c0,c1,c2,c3,c4,c5,c6,c7,-⟩:=HC W3 (aC.refl _)
 go_enter func165,ntmps165
 go_wp2_with fail;have HRF:=n8 (aC.refl W3);have HX3:=n8 (aC.trans (aC.trans HE HRF) (aC.drew _));obtain ⟨y1,y2,y3,y4,-,-,-,-,yb⟩:=HC _ (aC.trans HRF (aC.drew _));have HB3:Hid (ah W2.heap.size (W3).drew):=⟨_,_,yb⟩;clear yb
 go_region_held3 (fun w'=>w'.cell? ⟨w.heap.size,0,none⟩=some (.string n1)/\w'.cell? ⟨w.heap.size,1,none⟩=some (.string d1)/\w'.cell? ⟨W1.heap.size,0,none⟩=some (.string n2)/\w'.cell? ⟨W1.heap.size,1,none⟩=some (.string d2)/\Hid (aC w w')/\Hid (ah W2.heap.size w'))
  (first | exact ⟨z1,z2,z3,z4,z5,z6⟩ | exact ⟨du HN1 z1,du HN1 z2,du HN2 z3,du HN2 z4,n8 (eH z5.out HR),n8 z6.out.set2⟩ | exact ⟨y1,y2,y3,y4,HX3,HB3⟩ | go_keep)
  (first
   | (go_at_call 162;have hc:=rh _ (Hid.out (p:=aC w _) (by assumption));with_reducible refine hc.mono ?_;clear hc;rintro e w6 ⟨rfl,og⟩;have q1:=og.cell (a:=⟨w.heap.size,0,none⟩) (v:=.string n1) (by assumption);have q2:=og.cell (a:=⟨w.heap.size,1,none⟩) (v:=.string d1) (by assumption);have q3:=og.cell (a:=⟨W1.heap.size,0,none⟩) (v:=.string n2) (by assumption);have q4:=og.cell (a:=⟨W1.heap.size,1,none⟩) (v:=.string d2) (by assumption);have q5:=n8 (aC.trans (Hid.out (p:=aC w _) (by assumption)) og);have q6:=n8 (ah.ext (Hid.out (p:=ah W2.heap.size _) (by assumption)) og);(try clear z1 z2 z3 z4 z5 z6 t0 t1 f0 f1);have z1:=q1;have z2:=q2;have z3:=q3;have z4:=q4;have z5:=q5;have z6:=q6;obtain ⟨r0,r1,t0,t1,f0,f1⟩:=z6.out.open;clear og q1 q2 q3 q4 q5 q6)
   | (go_at_call 201;have hc:=HAD _ (Hid.out (p:=aC w _) (by assumption));with_reducible refine hc.mono ?_;clear hc;rintro e w6 ⟨rfl,og⟩;have q1:=og.cell (a:=⟨w.heap.size,0,none⟩) (v:=.string n1) (by assumption);have q2:=og.cell (a:=⟨w.heap.size,1,none⟩) (v:=.string d1) (by assumption);have q3:=og.cell (a:=⟨W1.heap.size,0,none⟩) (v:=.string n2) (by assumption);have q4:=og.cell (a:=⟨W1.heap.size,1,none⟩) (v:=.string d2) (by assumption);have q5:=n8 (aC.trans (Hid.out (p:=aC w _) (by assumption)) og);have q6:=n8 (ah.ext (Hid.out (p:=ah W2.heap.size _) (by assumption)) og);(try clear z1 z2 z3 z4 z5 z6 t0 t1 f0 f1);have z1:=q1;have z2:=q2;have z3:=q3;have z4:=q4;have z5:=q5;have z6:=q6;obtain ⟨r0,r1,t0,t1,f0,f1⟩:=z6.out.open;clear og q1 q2 q3 q4 q5 q6))
 all_goals
  have hb7:=ah.res (x:=.string n4) (y:=.string d4) z6.out;go_wp2_with fail;refine bodyPost_ret (results_cell_row (by rfl) _ _ W2.heap.size 152 #[.string n4,.string d4] (0,0) _ (by rfl) hb7 underlying152 (by rfl) (by kernel_rfl)) (by rfl) ⟨rfl,?_⟩;exact eH z5.out HR
theorem jK {w w':World} {g:Nat} (h:w'.heap[g]?=w.heap[g]?) (j:Nat):w'.cell? ⟨g,j,none⟩=w.cell? ⟨g,j,none⟩:=by
 simp [World.cell?,h]
theorem k_ {w w':World} {g:Nat} (h:w'.heap[g]?=w.heap[g]?) (j:Nat):w'.frozen? ⟨g,j,none⟩=w.frozen? ⟨g,j,none⟩:=by
 simp [World.frozen?,h]
theorem dX (w:World) (a:Addr) (v:Value):(w.setCell a v).heap.size=w.heap.size:=by simp [World.setCell]
structure eh (w:World) (g:Nat) (xs:List Rat):Prop where
 lt:g<w.heap.size
 num:∀ (j:Nat) x,xs[j]?=some x->w.cell? ⟨g,j*2,none⟩=some (.string (aD x.num))
 den:∀ (j:Nat) x,xs[j]?=some x->w.cell? ⟨g,j*2+1,none⟩=some (.string (aE x.den))
 free:∀ j,w.frozen? ⟨g,j,none⟩=false
theorem eh.same {w w':World} {g:Nat} {xs:List Rat} (h:eh w g xs) (hs:w.heap.size<=w'.heap.size) (hg:w'.heap[g]?=w.heap[g]?):eh w' g xs :=
 ⟨oH h.lt hs,fun j x hx=>(jK hg _).trans (h.num j x hx),fun j x hx=>(jK hg _).trans (h.den j x hx),fun j=>(k_ hg j).trans (h.free j)⟩
theorem eh.ext {w w':World} {g:Nat} {xs:List Rat} (h:eh w g xs) (he:aC w w'):eh w' g xs:=h.same he.size (he.block g h.lt)
theorem eh.grown {w w':World} {S:Nat->Prop} {g:Nat} {xs:List Rat} (h:eh w g xs) (hg:aP S w w') (hS:¬ S g):eh w' g xs:=h.same hg.size (hg.block g h.lt hS)
theorem kI (w:World) (g i j:Nat) (v:Value):(w.setCell ⟨g,i,none⟩ v).frozen? ⟨g,j,none⟩=w.frozen? ⟨g,j,none⟩:=by
 exact World.frozen?_setCell ..
theorem eh.set {w : World} {g : Nat} {xs : List Rat} (h : eh w g xs) (k : Nat) (hk : k < xs.length) (y : Rat) :
    eh ((w.setCell ⟨g, k * 2, none⟩ (.string (aD y.num))).setCell ⟨g, k * 2 + 1, none⟩ (.string (aE y.den))) g (xs.set k y) := by
  have hx : xs[k]? = some xs[k] := n9 hk;have c0 := h.num k _ hx;have c1 := h.den k _ hx;refine ⟨by rw [dX, dX]; exact h.lt, fun j x hj => ?_, fun j x hj => ?_, fun j => by rw [kI, kI]; exact h.free j⟩
  all_goals
    rw [oV] at hj;by_cases e : k = j
    · subst e
      rw [if_pos rfl, if_pos hk] at hj;cases hj
      first
        | (rw [World.cell?_setCell_other _ _ _ _ (by intro e; simp only [Addr.mk.injEq] at e; omega)]
           exact World.cell?_setCell_same w _ _ c0)
        | (refine World.cell?_setCell_same _ _ (v := .string (aE xs[k].den)) _ ?_
           rw [World.cell?_setCell_other _ _ _ _ (by intro e; simp only [Addr.mk.injEq] at e; omega)]
           exact c1)
        | (exact World.cell?_setCell_same _ _ _ ((World.cell?_setCell_other _ _ _ _ (by intro e; simp only [Addr.mk.injEq] at e; omega)).trans c1))
    · rw [if_neg e] at hj
      rw [World.cell?_setCell_other _ _ _ _ (by intro e; simp only [Addr.mk.injEq] at e; omega), World.cell?_setCell_other _ _ _ _ (by intro e; simp only [Addr.mk.injEq] at e; omega)]
      first | exact h.num j x hj | exact h.den j x hj
structure dH (w:World) (g0:Nat) (tags:List (Nat×Nat)) (m:List (List Rat)):Prop where
 len:tags.length=m.length
 lt:g0<w.heap.size
 free:∀ j,w.frozen? ⟨g0,j,none⟩=false
 row:∀ (i:Nat) t r,tags[i]?=some t->m[i]?=some r->w.cell? ⟨g0,i,none⟩=some (.slice (some ⟨t.1,0,none⟩) r.length t.2)/\r.length<=t.2/\t.2<=9223372036854775807/\eh w t.1 r
 nodup:(g0::tags.map (·.1)).Nodup
def bZ (g0:Nat) (tags:List (Nat×Nat)) (b:Nat):Prop:=b∈g0::tags.map (·.1)
theorem dH.same {w w':World} {g0:Nat} {tags:List (Nat×Nat)} {m:List (List Rat)} (h:dH w g0 tags m) (hs:w.heap.size<=w'.heap.size) (hb:∀ b,bZ g0 tags b->w'.heap[b]?=w.heap[b]?):dH w' g0 tags m:=by
 have h0:=hb g0 (List.mem_cons_self ..);refine ⟨h.len,oH h.lt hs,fun j=>(k_ h0 j).trans (h.free j),fun i t r ht hr=>?_,h.nodup⟩;obtain ⟨h1,h2,h3,h4⟩:=h.row i t r ht hr;exact ⟨(jK h0 i).trans h1,h2,h3,h4.same hs (hb t.1 (List.mem_cons_of_mem _ (List.mem_map.2 ⟨t,oD ht,rfl⟩)))⟩
theorem dH.blt {w:World} {g0:Nat} {tags:List (Nat×Nat)} {m:List (List Rat)} (h:dH w g0 tags m) {b:Nat} (hb:bZ g0 tags b):b<w.heap.size:=by
 rcases List.mem_cons.1 hb with rfl | hb
 ·exact h.lt
 ·obtain ⟨t,ht,rfl⟩:=List.mem_map.1 hb;obtain ⟨i,hi⟩:=List.getElem?_of_mem ht;have hl:i<m.length:=by rw [<- h.len];exact (n_.1 hi).1
  exact (h.row i t m[i] hi (n9 hl)).2.2.2.lt
theorem dH.ext {w w':World} {g0:Nat} {tags:List (Nat×Nat)} {m:List (List Rat)} (h:dH w g0 tags m) (he:aC w w'):dH w' g0 tags m :=
 h.same he.size fun b hb=>he.block b (h.blt hb)
theorem dH.grown {w w':World} {S:Nat->Prop} {g0:Nat} {tags:List (Nat×Nat)} {m:List (List Rat)} (h:dH w g0 tags m) (hg:aP S w w') (hS:∀ b,bZ g0 tags b->¬ S b):dH w' g0 tags m :=
 h.same hg.size fun b hb=>hg.block b (h.blt hb) (hS b hb)
theorem dH.get {w:World} {g0:Nat} {tags:List (Nat×Nat)} {m:List (List Rat)} (h:dH w g0 tags m) {i:Nat} {r:List Rat} (hr:m[i]?=some r) :
  ∃ t,tags[i]?=some t/\w.cell? ⟨g0,i,none⟩=some (.slice (some ⟨t.1,0,none⟩) r.length t.2)/\r.length<=t.2/\t.2<=9223372036854775807/\eh w t.1 r/\t.1≠g0/\bZ g0 tags t.1:=by
 have hi:=(n_.1 hr).1;have hl:i<tags.length:=by rw [h.len];exact hi
 have:=h.row i tags[i] r (n9 hl) hr;refine ⟨tags[i],n9 hl,this.1,this.2.1,this.2.2.1,this.2.2.2,?_,List.mem_cons_of_mem _ (List.mem_map.2 ⟨tags[i],List.getElem_mem hl,rfl⟩)⟩;have hn:=(List.nodup_cons.1 h.nodup).1;intro e2;exact hn (List.mem_map.2 ⟨tags[i],List.getElem_mem hl,e2⟩)
theorem dH.apart {w:World} {g0:Nat} {tags:List (Nat×Nat)} {m:List (List Rat)} (h:dH w g0 tags m) {i j:Nat} {s t:Nat×Nat} (hs:tags[i]?=some s) (ht:tags[j]?=some t) (qK:i≠j):s.1≠t.1:=by
 have hn:=(List.nodup_cons.1 h.nodup).2;intro e;have h1:(tags.map (·.1))[i]?=some s.1:=by rw [oE,hs];rfl
 have h2:(tags.map (·.1))[j]?=some s.1:=by rw [oE,ht,e];rfl
 obtain ⟨l1,e1⟩:=n_.1 h1;obtain ⟨l2,e2⟩:=n_.1 h2;exact qK ((List.getElem_inj hn).1 (e1.trans e2.symm))
theorem dH.setRow {w w':World} {g0:Nat} {tags:List (Nat×Nat)} {m:List (List Rat)} (h:dH w g0 tags m) {i:Nat} {t:Nat×Nat} {r r0:List Rat} (ht:tags[i]?=some t) (x6:m[i]?=some r0) (hr:r.length=r0.length) (hg:aP (·=t.1) w w') (hR:eh w' t.1 r):dH w' g0 tags (m.set i r):=by
 have hi:=(n_.1 x6).1;obtain ⟨t',qv,-,-,-,-,hne,-⟩:=h.get x6;obtain rfl:t'=t:=oL (qv.symm.trans ht);have h0:=hg.block g0 h.lt (fun e=>hne e.symm);refine ⟨by rw [List.length_set];exact h.len,oH h.lt hg.size,fun j=>(k_ h0 j).trans (h.free j),fun j s q hs hq=>?_,h.nodup⟩;rw [oV] at hq;by_cases hj:i=j
 ·subst hj;rw [if_pos rfl,if_pos hi] at hq;cases hq;obtain rfl:s=t':=oL (hs.symm.trans ht);obtain ⟨h1,h2,h3,h4⟩:=h.row i s r0 hs x6;rw [<- hr] at h1 h2;exact ⟨(jK h0 i).trans h1,h2,h3,hR⟩
 ·rw [if_neg hj] at hq;obtain ⟨h1,h2,h3,h4⟩:=h.row j s q hs hq;exact ⟨(jK h0 j).trans h1,h2,h3,h4.grown hg (h.apart hs ht (fun e=>hj e.symm))⟩
def bK {α:Type} (l:List α) (i j:Nat):List α:=match l[i]?,l[j]? with
 | some a,some b=>(l.set i b).set j a
 | _,_=>l
theorem iQ {α:Type} (l:List α) (i j:Nat):(bK l i j).length=l.length:=by
 unfold bK;split <;> simp
theorem fJ {α:Type} {l:List α} {i j:Nat} {a b:α} (hi:l[i]?=some a) (hj:l[j]?=some b) (k:Nat):(bK l i j)[k]?=if k=j then some a else if k=i then some b else l[k]?:=by
 have h1:=(n_.1 hi).1;have h2:=(n_.1 hj).1;unfold bK;rw [hi,hj];show ((l.set i b).set j a)[k]?=_;rw [oV,oV,List.length_set];by_cases e1:j=k
 ·subst e1;simp [h2]
 ·by_cases e2:i=k
  ·subst e2;simp [e1,h1,Ne.symm e1]
  ·simp [e1,e2,Ne.symm e1,Ne.symm e2]
theorem Z2Y {α β:Type} (f:α->β) (l:List α) (i j:Nat):(bK l i j).map f=bK (l.map f) i j:=by
 unfold bK;rw [oE,oE];cases l[i]? <;> cases l[j]? <;> simp [List.map_set]
theorem n0_ {α:Type} {l:List α} (h:l.Nodup) (i j:Nat):(bK l i j).Nodup:=by
 by_cases hb:i<l.length/\j<l.length
 ·obtain ⟨h1,h2⟩:=hb;have hi:l[i]?=some l[i]:=n9 h1;have hj:l[j]?=some l[j]:=n9 h2;have inj:∀ p q,p<l.length->q<l.length->l[p]?=l[q]?->p=q:=by
   intro p q hp hq e;rw [n9 hp,n9 hq] at e;exact (List.getElem_inj h).1 (oL e)
  refine List.pairwise_iff_getElem.2 fun p q hp0 x7 x8 e0=>?_;have e:(bK l i j)[p]?=(bK l i j)[q]?:=by rw [n9 hp0,n9 x7,e0]
  have hq:q<l.length:=by rw [iQ] at x7;exact x7
  rw [fJ hi hj,fJ hi hj,<- hi,<- hj] at e;have hp:p<l.length:=by omega
  have vE:∀ k,(if k=j then l[i]? else if k=i then l[j]? else l[k]?)=l[if k=j then i else if k=i then j else k]?:=by
   intro k;by_cases a:k=j
   ·rw [if_pos a,if_pos a]
   ·rw [if_neg a,if_neg a];by_cases b:k=i
    ·rw [if_pos b,if_pos b]
    ·rw [if_neg b,if_neg b]
  have hsl:∀ k,k<l.length->(if k=j then i else if k=i then j else k)<l.length:=by
   intro k hk;by_cases a:k=j
   ·rw [if_pos a];exact h1
   ·rw [if_neg a];by_cases b:k=i
    ·rw [if_pos b];exact h2
    ·rw [if_neg b];exact hk
  rw [vE,vE] at e;have e2:=inj _ _ (hsl p hp) (hsl q hq) e;have key:∀ k,(if k=j then i else if k=i then j else k)=i/\k=j\/(if k=j then i else if k=i then j else k)=j/\k=i\/(if k=j then i else if k=i then j else k)=k/\k≠j/\k≠i:=by
   intro k;by_cases a:k=j
   ·left;exact ⟨if_pos a,a⟩
   ·by_cases b:k=i
    ·right;left;exact ⟨by rw [if_neg a,if_pos b],b⟩
    ·right;right;exact ⟨by rw [if_neg a,if_neg b],a,b⟩
  have kp:=key p;have kq:=key q;generalize (if p=j then i else if p=i then j else p)=P at *
  generalize (if q=j then i else if q=i then j else q)=Q at *
  omega
 ·have:bK l i j=l:=by
   unfold bK;by_cases h1:i<l.length
   ·rw [n9 h1,oK (show l.length<=j by omega)]
   ·rw [oK (show l.length<=i by omega)]
  rw [this];exact h
theorem dH.swap {w:World} {g0:Nat} {tags:List (Nat×Nat)} {m:List (List Rat)} (h:dH w g0 tags m) {i j:Nat} {s t:Nat×Nat} {p q:List Rat} (hs:tags[i]?=some s) (ht:tags[j]?=some t) (hp:m[i]?=some p) (hq:m[j]?=some q) :
  dH ((w.setCell ⟨g0,i,none⟩ (.slice (some ⟨t.1,0,none⟩) q.length t.2)).setCell ⟨g0,j,none⟩ (.slice (some ⟨s.1,0,none⟩) p.length s.2)) g0 (bK tags i j) (bK m i j):=by
 have hgr:aP (·=g0) w ((w.setCell ⟨g0,i,none⟩ (.slice (some ⟨t.1,0,none⟩) q.length t.2)).setCell ⟨g0,j,none⟩ (.slice (some ⟨s.1,0,none⟩) p.length s.2)):=((aP.refl (·=g0) w).store (S:=(·=g0)) rfl _ _).store (S:=(·=g0)) rfl _ _;have ci:=(h.row i s p hs hp).1;have cj:=(h.row j t q ht hq).1;refine ⟨by rw [iQ,iQ];exact h.len,by rw [dX,dX];exact h.lt,fun k=>by rw [kI,kI];exact h.free k,fun k u r hu hr=>?_,?_⟩
 ·rw [fJ hs ht] at hu;rw [fJ hp hq] at hr;have hrow:∀ (k:Nat) u r,tags[k]?=some u->m[k]?=some r->eh ((w.setCell ⟨g0,i,none⟩ (.slice (some ⟨t.1,0,none⟩) q.length t.2)).setCell ⟨g0,j,none⟩ (.slice (some ⟨s.1,0,none⟩) p.length s.2)) u.1 r:=by
   intro k u r hu hr;obtain ⟨u',FA,-,-,-,hR,hne,-⟩:=h.get hr;obtain rfl:u'=u:=oL (FA.symm.trans hu);exact hR.grown hgr hne
  by_cases e1:k=j
  ·subst e1;rw [if_pos rfl] at hu hr;cases hu;cases hr;obtain ⟨_,h2,h3,_⟩:=h.row i s p hs hp;refine ⟨?_,h2,h3,hrow i s p hs hp⟩;by_cases e2:i=k
   ·subst e2;exact World.cell?_setCell_same _ _ _ (World.cell?_setCell_same w _ _ ci)
   ·exact World.cell?_setCell_same _ _ _ ((World.cell?_setCell_other _ _ _ _ (by intro e;simp only [Addr.mk.injEq] at e;omega)).trans cj)
  ·rw [if_neg e1] at hu hr;by_cases e2:k=i
   ·subst e2;rw [if_pos rfl] at hu hr;cases hu;cases hr;obtain ⟨_,h2,h3,_⟩:=h.row j t q ht hq;refine ⟨?_,h2,h3,hrow j t q ht hq⟩;rw [World.cell?_setCell_other _ _ _ _ (by intro e;simp only [Addr.mk.injEq] at e;omega)];exact World.cell?_setCell_same w _ _ ci
   ·rw [if_neg e2] at hu hr;obtain ⟨h1,h2,h3,_⟩:=h.row k u r hu hr;refine ⟨?_,h2,h3,hrow k u r hu hr⟩;rw [World.cell?_setCell_other _ _ _ _ (by intro e;simp only [Addr.mk.injEq] at e;omega),World.cell?_setCell_other _ _ _ _ (by intro e;simp only [Addr.mk.injEq] at e;omega)];exact h1
 ·have hn:=List.nodup_cons.1 h.nodup;rw [Z2Y];refine List.nodup_cons.2 ⟨?_,n0_ hn.2 i j⟩;intro hm;refine hn.1 ?_;obtain ⟨k,hk⟩:=List.getElem?_of_mem hm;have a1:(tags.map (·.1))[i]?=some s.1:=by rw [oE,hs];rfl
  have a2:(tags.map (·.1))[j]?=some t.1:=by rw [oE,ht];rfl
  rw [fJ a1 a2] at hk;by_cases e1:k=j
  ·rw [if_pos e1] at hk;cases hk;exact oD a1
  ·rw [if_neg e1] at hk;by_cases e2:k=i
   ·rw [if_pos e2] at hk;cases hk;exact oD a2
   ·rw [if_neg e2] at hk;exact oD hk
theorem V7_ {g0:Nat} {tags:List (Nat×Nat)} {i j b:Nat} {s t:Nat×Nat} (hs:tags[i]?=some s) (ht:tags[j]?=some t):bZ g0 (bK tags i j) b↔bZ g0 tags b:=by
 have key:∀ x:Nat×Nat,x∈bK tags i j↔x∈tags:=by
  intro x;constructor
  ·intro hm;obtain ⟨k,hk⟩:=List.getElem?_of_mem hm;rw [fJ hs ht] at hk;by_cases e1:k=j
   ·rw [if_pos e1] at hk;cases hk;exact oD hs
   ·rw [if_neg e1] at hk;by_cases e2:k=i
    ·rw [if_pos e2] at hk;cases hk;exact oD ht
    ·rw [if_neg e2] at hk;exact oD hk
  ·intro hm;obtain ⟨k,hk⟩:=List.getElem?_of_mem hm;by_cases e1:k=i
   ·subst e1;rw [hs] at hk;cases hk;exact oD (by rw [fJ hs ht,if_pos rfl]:(bK tags k j)[j]?=some s)
   ·by_cases e2:k=j
    ·subst e2;rw [ht] at hk;cases hk;exact oD (by rw [fJ hs ht,if_neg (Ne.symm e1),if_pos rfl]:(bK tags i k)[i]?=some t)
    ·exact oD (by rw [fJ hs ht,if_neg e2,if_neg e1];exact hk:(bK tags i j)[k]?=some x)
 unfold bZ;simp only [List.mem_cons,List.mem_map,key]
structure gL (α:Type) where
 R:World->Nat->List α->Prop
 lt:∀ {w g r},R w g r->g<w.heap.size
 same:∀ {w w' g r},R w g r->w.heap.size<=w'.heap.size->w'.heap[g]?=w.heap[g]?->R w' g r
def kU:gL Rat:=⟨eh,fun h=>h.lt,fun h hs hg=>h.same hs hg⟩
structure eE (w:World) (g:Nat) (xs:List Int):Prop where
 lt:g<w.heap.size
 cell:∀ (j:Nat) x,xs[j]?=some x->w.cell? ⟨g,j,none⟩=some (.int .i64 x)
 free:∀ j,w.frozen? ⟨g,j,none⟩=false
theorem eE.same {w w':World} {g:Nat} {xs:List Int} (h:eE w g xs) (hs:w.heap.size<=w'.heap.size) (hg:w'.heap[g]?=w.heap[g]?):eE w' g xs :=
 ⟨oH h.lt hs,fun j x hx=>(jK hg _).trans (h.cell j x hx),fun j=>(k_ hg j).trans (h.free j)⟩
def gE:gL Int:=⟨eE,fun h=>h.lt,fun h hs hg=>h.same hs hg⟩
def iR (t:Nat×Nat) (n:Nat):Value:=.slice (some ⟨t.1,0,none⟩) n t.2
def jB {α:Type} (tags:List (Nat×Nat)) (m:List (List α)):List Value:=List.zipWith (fun t r=>iR t r.length) tags m
structure bO {α:Type} (K:gL α) (e:TypeId) (w:World) (ob base:Nat) (v:Value) (tags:List (Nat×Nat)) (m:List (List α)):Prop where
 len:tags.length=m.length
 own:w.ownsRow ob e 1 v m.length (jB tags m)
 row:∀ (i:Nat) t r,tags[i]?=some t->m[i]?=some r->r.length<=t.2/\t.2<=9223372036854775807/\K.R w t.1 r/\base<=t.1/\v.ownBlock≠some t.1
 nodup:(tags.map (·.1)).Nodup
theorem Z2Z {α:Type} {tags:List (Nat×Nat)} {m:List (List α)} (h:tags.length=m.length):(jB tags m).length=m.length:=by
 unfold jB;rw [List.length_zipWith,h];omega
theorem bO.nil {α:Type} (K:gL α) (e:TypeId) (w:World) (ob base:Nat):bO K e w ob base (.slice none 0 0) [] [] :=
 ⟨rfl,World.ownsRow_nil _ _ _ _,by intro i t r h;simp at h,by simp⟩
theorem bO.ext {α:Type} {K:gL α} {e:TypeId} {w w':World} {ob base:Nat} {v:Value} {tags:List (Nat×Nat)} {m:List (List α)} (h:bO K e w ob base v tags m) (he:aC w w'):bO K e w' ob base v tags m :=
 ⟨h.len,fi h.own he,fun i t r ht hr=>by
  obtain ⟨h1,h2,h3,h4,h5⟩:=h.row i t r ht hr
  exact ⟨h1,h2,K.same h3 he.size (he.block _ (K.lt h3)),h4,h5⟩,h.nodup⟩
theorem bO.fresh {α:Type} {K:gL α} {e:TypeId} {w:World} {ob base:Nat} {v:Value} {tags:List (Nat×Nat)} {m:List (List α)} (h:bO K e w ob base v tags m) {b:Nat} (hb:b∈tags.map (·.1)):base<=b/\b<w.heap.size:=by
 obtain ⟨t,ht,rfl⟩:=List.mem_map.1 hb;obtain ⟨i,hi⟩:=List.getElem?_of_mem ht;have hl:i<m.length:=by rw [<- h.len];exact (n_.1 hi).1
 obtain ⟨h1,h2,h3,h4,h5⟩:=h.row i t m[i] hi (n9 hl);exact ⟨h4,K.lt h3⟩
theorem bO.snoc {α:Type} {K:gL α} {e:TypeId} {w w':World} {ob base:Nat} {v v':Value} {tags:List (Nat×Nat)} {m:List (List α)} (h:bO K e w ob base v tags m) (t:Nat×Nat) (r:List α) (qU:r.length<=t.2) (ph:t.2<=9223372036854775807) (hR:K.R w t.1 r) (hb:base<=t.1) (hv:v.ownBlock≠some t.1) (hn:t.1∉tags.map (·.1))
  (hown:w'.ownsRow ob e 1 v' (m.length+1) (jB tags m++[iR t r.length])) (hg:w.grownBy w' v.ownBlock) (rN:v'.ownBlock=v.ownBlock\/∃ b,v'.ownBlock=some b/\w.heap.size<=b) :
  bO K e w' ob base v' (tags++[t]) (m++[r]):=by
 have pX:∀ (s:Nat×Nat) q,K.R w s.1 q->v.ownBlock≠some s.1->K.R w' s.1 q/\v'.ownBlock≠some s.1:=fun s q hs wX=>by
  refine ⟨K.same hs hg.size (hg.block s.1 (K.lt hs) wX.symm),fun e=>?_⟩;rcases rN with e2 | ⟨b,e2,e3⟩
  ·exact wX (e2.symm.trans e)
  ·rw [e2] at e;cases e;have:=K.lt hs;omega
 refine ⟨by simp [h.len],?_,fun i s q hs hq=>?_,?_⟩
 ·have e:jB (tags++[t]) (m++[r])=jB tags m++[iR t r.length]:=by
   unfold jB;rw [List.zipWith_append h.len];rfl
  rw [e,oU];exact hown
 ·by_cases hi:i<tags.length
  ·rw [oM hi] at hs;rw [oM (by rw [<- h.len];exact hi)] at hq;obtain ⟨h1,h2,h3,h4,h5⟩:=h.row i s q hs hq;obtain ⟨k1,k2⟩:=pX s q h3 h5;exact ⟨h1,h2,k1,h4,k2⟩
  ·rw [oN (by omega)] at hs;rw [oN (by rw [<- h.len];omega)] at hq;have e1:i-tags.length=0:=by have:=(n_.1 hs).1;simp at this;omega
   have e2:i-m.length=0:=by rw [<- h.len];exact e1
   rw [e1] at hs;rw [e2] at hq;simp only [oP,Option.some.injEq] at hs hq;subst hs;subst hq;obtain ⟨k1,k2⟩:=pX t r hR hv;exact ⟨qU,ph,k1,hb,k2⟩
 ·rw [List.map_append,List.nodup_append];refine ⟨h.nodup,by simp,?_⟩;intro a ha b hb2 e;simp only [List.map_cons,List.map_nil,List.mem_singleton] at hb2;subst e;subst hb2;exact hn ha
theorem bO.parts {α:Type} {K:gL α} {e:TypeId} {w:World} {ob base:Nat} {g cap:Nat} {tags:List (Nat×Nat)} {m:List (List α)} (h:bO K e w ob base (.slice (some ⟨g,0,none⟩) m.length cap) tags m) :
  ob<=g/\g<w.heap.size/\(∀ j,w.frozen? ⟨g,j,none⟩=false)/\(∀ (i:Nat) t r,tags[i]?=some t->m[i]?=some r->w.cell? ⟨g,i,none⟩=some (.slice (some ⟨t.1,0,none⟩) r.length t.2)/\r.length<=t.2/\t.2<=9223372036854775807/\K.R w t.1 r)/\(g::tags.map (·.1)).Nodup/\m.length<=cap/\cap<=9223372036854775807:=by
 have hc:=h.own.cells (g:=g) (by simp [Value.ownBlock]);have hf:=fun j=>h.own.frozenAt j;rcases h.own.2 with ⟨hv,_⟩ | ⟨g',cap',cur,hv,hb,hg,h1,h2,h3,h4⟩
 ·simp at hv
 ·simp only [Value.slice.injEq,Option.some.injEq,Addr.mk.injEq] at hv;obtain ⟨⟨rfl,-,-⟩,-,rfl⟩:=hv;refine ⟨hb,(Array.getElem?_eq_some_iff.1 hg).1,fun j=>hf j,fun i t r ht hr=>?_,?_,h1,h2⟩
  ·obtain ⟨k1,k2,k3,k4,k5⟩:=h.row i t r ht hr;refine ⟨?_,k1,k2,k3⟩;have:=hc i (iR t r.length) (by unfold jB;rw [List.getElem?_zipWith,ht,hr]);rw [show (⟨g,0,none⟩:Addr).add i=⟨g,i,none⟩ by unfold Addr.add;split <;> simp_all] at this;exact this
  ·rw [List.nodup_cons];refine ⟨fun hm=>?_,h.nodup⟩;obtain ⟨t,ht,rfl⟩:=List.mem_map.1 hm;obtain ⟨i,hi⟩:=List.getElem?_of_mem ht;have hl:i<m.length:=by rw [<- h.len];exact (n_.1 hi).1
   exact (h.row i t m[i] hi (n9 hl)).2.2.2.2 rfl
theorem bO.matQ {e:TypeId} {w:World} {ob base:Nat} {g cap:Nat} {tags:List (Nat×Nat)} {m:List (List Rat)} (h:bO kU e w ob base (.slice (some ⟨g,0,none⟩) m.length cap) tags m) (hob:base<=ob) :
  dH w g tags m/\m.length<=cap/\cap<=9223372036854775807/\∀ b,bZ g tags b->base<=b:=by
 obtain ⟨h1,h2,h3,h4,h5,h6,h7⟩:=h.parts;refine ⟨⟨h.len,h2,h3,h4,h5⟩,h6,h7,fun b hb=>?_⟩;rcases List.mem_cons.1 hb with rfl | hb
 ·exact oI hob h1
 ·exact (h.fresh hb).1
theorem Y5_ {α:Type} {K:gL α} {e:TypeId} {T2:TypeId} (wE:prog.underlying T2=some (TypeDesc.slice e)) (pL:(prog.info? e).map (fun i=>(i.zero,i.size,i.bytes))=some (some (.slice none 0 0),1,24)) (w:World) {o:Oper} {a:Act} {Q:Exit->Act->World->Prop} {L:Act->World->Prop}
  (s x:Operand) (ho:o.op=Op.call { callee:=Callee.builtin Builtin.append,args:=#[s,x],argTypes:=#[T2,T2] }) (ob base:Nat)
  (v:Value) (tags:List (Nat×Nat)) (m:List (List α)) (t:Nat×Nat) (r:List α) (u:Array Value) (T:TypeId) (hs:a.eval s=v) (hB:bO K e w ob base v tags m)
  (hx:a.eval x=.slice (some ⟨w.heap.size,0,none⟩) 1 1) (hu:u=#[iR t r.length]) (qU:r.length<=t.2) (ph:t.2<=9223372036854775807) (hR:K.R w t.1 r) (hb:base<=t.1) (hv:v.ownBlock≠some t.1) (hn:t.1∉tags.map (·.1))
  (hlen:m.length<1000000) (ow:ob<=w.heap.size)
  (h:∀ v' w',bO K e w' ob base v' (tags++[t]) (m++[r])->Below ob w w'->Hid (∃ g c,v'=.slice (some ⟨g,0,none⟩) (m.length+1) c)->L (a.put o.dst v') w') :
  Oper.wp prog o a (w.alloc (.cells u T)) L Q:=by
 subst hu;obtain ⟨i0,hi,hz,pD,hby⟩:=info_parts pL;have qE:∀ j,(⟨w.heap.size,0,none⟩:Addr).add j=⟨w.heap.size,j,none⟩:=by intro j;unfold Addr.add;split <;> simp_all
 have hE:aC w (w.alloc (.cells #[iR t r.length] T)):=aC.alloc _ _;refine jc (w.alloc (.cells #[iR t r.length] T)) s x T2 ho ob e i0 (.slice none 0 0) 1 24 wE hi hz pD hby rfl (by decide) v m.length (jB tags m) hs (fi hB.own hE) ⟨w.heap.size,0,none⟩ 1 1 [iR t r.length] hx rfl ?_ ?_ ?_ ?_ ?_ ?_
 ·intro j q hq;rw [qE,World.cell?_alloc_new];simpa using hq
 ·intro u hu;rw [List.mem_singleton.1 hu];rfl
 ·unfold maxLen;omega
 ·omega
 ·simp;omega
 ·intro v' w' hown oe _ rN
  have hLB:=(hB.ext hE).snoc t r qU ph (K.same hR hE.size (hE.block _ (K.lt hR))) hb hv hn hown oe (by
   rcases rN with h1 | h1
   ·exact .inl h1
   ·exact .inr ⟨_,h1,oJ _⟩)
  refine h v' w' hLB ?_ ?_
  ·have qw:w.grownBy w' v.ownBlock:=iI (hE.grown _) oe;refine ⟨qw.os,qw.tape,qw.output,qw.size,fun b hb2=>qw.block b (by omega) ?_⟩;intro e;have:=(hB.own.lt b e.symm).1;omega
  ·obtain ⟨g,c,sG,-⟩:=iz hown (by omega);exact ⟨g,c,sG⟩
theorem n6 {α:Type} {K:gL α} {e:TypeId} {T2:TypeId} (wE:prog.underlying T2=some (TypeDesc.slice e)) (pL:(prog.info? e).map (fun i=>(i.zero,i.size,i.bytes))=some (some (.slice none 0 0),1,24)) (w:World) {ops:Array Oper} {rest:List Oper} {o:Oper} {a:Act} {Q:Exit->Act->World->Prop} (pf:o.guard=none)
  (s x:Operand) (ho:o.op=Op.call { callee:=Callee.builtin Builtin.append,args:=#[s,x],argTypes:=#[T2,T2] }) (ob base:Nat)
  (v:Value) (tags:List (Nat×Nat)) (m:List (List α)) (t:Nat×Nat) (r:List α) (u:Array Value) (T:TypeId) (hs:a.eval s=v) (hB:bO K e w ob base v tags m)
  (hx:a.eval x=.slice (some ⟨w.heap.size,0,none⟩) 1 1) (hu:u=#[iR t r.length]) (qU:r.length<=t.2) (ph:t.2<=9223372036854775807) (hR:K.R w t.1 r) (hb:base<=t.1) (hv:v.ownBlock≠some t.1) (hn:t.1∉tags.map (·.1))
  (hlen:m.length<1000000) (ow:ob<=w.heap.size)
  (h:∀ v' w',bO K e w' ob base v' (tags++[t]) (m++[r])->Below ob w w'->Hid (∃ g c,v'=.slice (some ⟨g,0,none⟩) (m.length+1) c)->wpList prog ops Q rest (a.put o.dst v') w') :
  wpList prog ops Q (o::rest) a (w.alloc (.cells u T)) :=
 wpList_plain pf fun _ hK=>Y5_ wE pL w s x ho ob base v tags m t r u T hs hB hx hu qU ph hR hb hv hn hlen ow fun v' w' a1 a2 a3=>hK _ _ (h v' w' a1 a2 a3)
theorem Z5i:(prog.info? 152).map (fun i=>(i.zero,i.size,i.bytes))=some (some (.agg #[.string ⟨#[]⟩,.string ⟨#[]⟩]),2,32):=by kernel_rfl
theorem Z3G:(prog.info? 197).map (fun i=>(i.zero,i.size,i.bytes))=some (some (.slice none 0 0),1,24):=by kernel_rfl
def ratR (_:World) (u:List Value) (q:Rat):Prop:=u=[.string (aD q.num),.string (aE q.den)]
theorem ratR.mono:jF ratR:=fun _ _ _ _ _ h=>h
abbrev iE (w:World) (v:Value) (xs:List Rat):Prop:=aI 2 ratR w v xs
theorem iE.ext {w w':World} {v:Value} {xs:List Rat} (h:iE w v xs) (he:aC w w'):iE w' v xs:=aI.ext ratR.mono h he
def fu (l:List Rat):List Value:=(l.map fun q:Rat=>[Value.string (aD q.num),Value.string (aE q.den)]).flatten
theorem A4_ (a b:List Rat):fu (a++b)=fu a++fu b:=by simp [fu]
theorem Q4_:∀ l:List Rat,(fu l).length=l.length*2
 | []=>rfl
 | q::l=>by
  have h:=Q4_ l;unfold fu at h |-;rw [List.map_cons,List.flatten_cons,oU,h];simp;omega
theorem Q3_ {l:List Rat} {j:Nat} {q:Rat} (h:l[j]?=some q):(fu l)[j*2]?=some (.string (aD q.num))/\(fu l)[j*2+1]?=some (.string (aE q.den)):=by
 have hk:∀ u∈(l.map fun q:Rat=>[Value.string (aD q.num),Value.string (aE q.den)]),u.length=2:=by
  intro u hu;obtain ⟨x,-,rfl⟩:=List.mem_map.1 hu;rfl
 have hm:(l.map fun q:Rat=>[Value.string (aD q.num),Value.string (aE q.den)])[j]?=some [Value.string (aD q.num),Value.string (aE q.den)]:=by rw [oE,h];rfl
 have h0:=X1_ _ j 0 _ hk hm (by omega);have h1:=X1_ _ j 1 _ hk hm (by omega);exact ⟨h0,h1⟩
def eC (B:Nat) (w:World) (v:Value) (l:List Rat):Prop:=w.ownsRow B 152 2 v l.length (fu l)
theorem eC.nil (B:Nat) (w:World):eC B w (.slice none 0 0) []:=World.ownsRow_nil w B 152 2
theorem eC.ext {B:Nat} {w w':World} {v:Value} {l:List Rat} (h:eC B w v l) (he:aC w w'):eC B w' v l:=fi h he
theorem eC.lt {B:Nat} {w:World} {v:Value} {l:List Rat} (h:eC B w v l):∀ b,v.ownBlock=some b->B<=b/\b<w.heap.size:=World.ownsRow.lt h
theorem eC.form {B:Nat} {w:World} {v:Value} {l:List Rat} (h:eC B w v l):∃ a cap,v=.slice a l.length cap/\l.length<=cap/\cap<=9223372036854775807:=by
 rcases h.2 with ⟨rfl,hn⟩ | ⟨g,cap,cur,rfl,hb,hg,h1,h2,h3,h4⟩
 ·exact ⟨none,0,by rw [hn],by omega,by omega⟩
 ·exact ⟨_,cap,rfl,h1,h2⟩
theorem eC.low {B B':Nat} {w:World} {v:Value} {l:List Rat} (h:eC B w v l) (hb:B'<=B):eC B' w v l:=by
 refine ⟨h.1,?_⟩;rcases h.2 with h' | ⟨g,cap,cur,rfl,hg,rest⟩
 ·exact .inl h'
 ·exact .inr ⟨g,cap,cur,rfl,oI hb hg,rest⟩
theorem eC.row {B g n c:Nat} {w:World} {l:List Rat} (h:eC B w (.slice (some ⟨g,0,none⟩) n c) l):eh w g l:=by
 obtain rfl:n=l.length:=by
  obtain ⟨a,cap,hv,-⟩:=h.form;simp only [Value.slice.injEq] at hv;exact hv.2.1
 have hl:=h.lt g (by simp [Value.ownBlock]);have hc:=World.ownsRow.cells h (g:=g) (by simp [Value.ownBlock]);have qE:∀ j,(⟨g,0,none⟩:Addr).add j=⟨g,j,none⟩:=fun j=>by unfold Addr.add;split <;> simp_all
 refine ⟨hl.2,fun j x hx=>?_,fun j x hx=>?_,fun j=>World.ownsRow.frozenAt h j⟩
 ·have:=hc (j*2) _ (Q3_ hx).1;rw [qE] at this;exact this
 ·have:=hc (j*2+1) _ (Q3_ hx).2;rw [qE] at this;exact this
theorem iE.one (w:World) (q:Rat) (T:TypeId):iE (w.alloc (.cells #[.string (aD q.num),.string (aE q.den)] T)) (.slice (some ⟨w.heap.size,0,none⟩) 1 1) [q]:=by
 refine ⟨[[.string (aD q.num),.string (aE q.den)]],rfl,by simp,?_,?_⟩
 ·exact dn.lit w [.string (aD q.num),.string (aE q.den)] 1 T (by unfold maxLen;omega)
 ·intro j u x hu hx;cases j with
  | zero =>
   simp only [oP,Option.some.injEq] at hu hx;subst hu;subst hx;rfl
  | succ j=>simp at hu
theorem Y3_ (W:World) {ops:Array Oper} {rest:List Oper} {o:Oper} {a:Act} {Q:Exit->Act->World->Prop} (pf:o.guard=none)
  (s x:Operand) (ho:o.op=Op.call { callee:=Callee.builtin Builtin.append,args:=#[s,x],argTypes:=#[197,197] }) (B:Nat)
  (v u:Value) (xs ys:List Rat) (hs:a.eval s=v) (hB:eC B W v xs) (hx:a.eval x=u) (hu:iE W u ys) (hlen:xs.length+ys.length<1000000) (ow:B<=W.heap.size)
  (h:∀ v' w',eC B w' v' (xs++ys)->Below B W w'->W.grownBy w' v.ownBlock->wpList prog ops Q rest (a.put o.dst v') w') :
  wpList prog ops Q (o::rest) a W:=by
 obtain ⟨i0,hi,hz,pD,hby⟩:=info_parts Z5i;obtain ⟨ad,c,rfl,h1,h2,h3,h4⟩:=hu.open
 have GY:∀ w',W.grownBy w' v.ownBlock->Below B W w':=fun w' hg=>⟨hg.os,hg.tape,hg.output,hg.size,fun b hb=>hg.block b (by omega) fun e=>by
  have:=(hB.lt b e.symm).1
  omega⟩
 cases ad with
 | none =>
  obtain rfl:c=0:=h3 rfl;obtain rfl:ys=[]:=List.eq_nil_of_length_eq_zero (by omega);rw [List.append_nil] at h;refine wpList_append_own_none pf s x _ ho B 152 i0 2 underlying197 hi v xs.length (fu xs) hs hB hx ?_;exact h v W hB (Below.refl _ _) (World.grownBy.refl _ _)
 | some ad =>
  refine wpList_plain pf fun K hK=>?_;refine jc W s x _ ho B 152 i0 (.agg #[.string ⟨#[]⟩,.string ⟨#[]⟩]) 2 32 underlying197 hi hz pD hby rfl (by decide) v xs.length (fu xs) hs hB ad ys.length c (fu ys) hx (Q4_ ys) ?_ ?_ ?_ ?_ ow ?_
  ·intro j q hq;have hj:j<(fu ys).length:=(n_.1 hq).1;rw [Q4_] at hj;obtain ⟨b,off,e,hb,hc⟩:=h4 (by omega) (by intro e;rw [e] at hj;simp at hj);cases e;obtain ⟨r,hr⟩:∃ r,ys[j / 2]?=some r:=⟨_,n9 (by omega)⟩;obtain ⟨cs,-,rfl,hcs⟩:=hc _ r hr;have h0:=hcs 0 (by omega);have h1:=hcs 1 (by omega);obtain ⟨e0,e1⟩:=Q3_ hr;rw [show (⟨b,off,none⟩:Addr).add j=⟨b,off+j,none⟩ by unfold Addr.add;split <;> simp_all];by_cases hp:j%2=0
   ·rw [show j / 2*2=j by omega] at e0;rw [show off+(j / 2*2+0)=off+j by omega] at h0;rw [h0,<- hq,e0];rfl
   ·rw [show j / 2*2+1=j by omega] at e1;rw [show off+(j / 2*2+1)=off+j by omega] at h1;rw [h1,<- hq,e1];rfl
  ·intro z hz;unfold fu at hz;obtain ⟨l,hl,hz⟩:=List.mem_flatten.1 hz;obtain ⟨q,-,rfl⟩:=List.mem_map.1 hl;simp only [List.mem_cons,List.not_mem_nil,or_false] at hz;rcases hz with rfl | rfl <;> rfl
  ·unfold maxLen;omega
  ·omega
  ·intro v' w' hown oe _ rN;have rn:eC B w' v' (xs++ys):=by
    unfold eC;rw [oU,A4_];exact hown
   exact hK _ _ (h v' w' rn (GY w' oe) oe)
end Go.Proofs.YtjlkkofmojgipaaGreatDoor
