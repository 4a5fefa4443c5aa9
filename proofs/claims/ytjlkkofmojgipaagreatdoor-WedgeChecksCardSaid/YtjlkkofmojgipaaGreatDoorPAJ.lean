import Derived.Test.YtjlkkofmojgipaaGreatDoorPAI
namespace Go.Proofs.YtjlkkofmojgipaaGreatDoor
set_option linter.unusedVariables false
set_option linter.unusedSimpArgs false
open Go.RowKit
theorem rat_add_eq (x y:Rat):Rat.divInt (x.num*(y.den:Int)+y.num*(x.den:Int)) ((x.den:Int)*(y.den:Int))=x+y:=by
 rw [Rat.add_def',← Int.natCast_mul];rfl
theorem rat_add_one (x y:Rat) (hx:x.den=1) (hy:y.den=1):(x+y).num=x.num+y.num∧(x+y).den=1:=by
 rw [Rat.add_def',hx,hy]
 obtain ⟨h1,h2⟩:=mkRat_parts (x.num*((1:Nat):Int)+y.num*((1:Nat):Int)) (1*1) (by omega)
 rw [h1,h2]
 simp
set_option maxRecDepth 100000 in
set_option maxHeartbeats 8000000 in
theorem ratAdd_any (x y:Rat) (w:World) (hx:RS 12000 x) (hy:RS 12000 y) (ht:Pow10 w) :
  Calls Tryz.prog 201 #[ratV x,ratV y] w fun e w'=>e=.returned (ratV (x+y))∧Ext w w':=by
 have HT:=Lib.hid ht
 clear ht
 obtain ⟨W1,hW1,hE1,hs1,hb1⟩:=box2 w (.string (intB x.num)) (.string (numB x.den)) 152
 obtain ⟨W2,hW2,hE2,hs2,hb2⟩:=box2 W1 (.string (intB y.num)) (.string (numB y.den)) 152
 obtain ⟨W3,hW3,hE3,hs3,hb3⟩:=box2 W2 (.string ⟨#[]⟩) (.string ⟨#[]⟩) 152
 have hb1':=block_ext hb1 (hE2.trans hE3)
 have hb2':=block_ext hb2 hE3
 have HE:=Lib.hid ((hE1.trans hE2).trans hE3)
 have HR:Hid (w.heap.size≤W2.heap.size):=by unfold Hid;omega
 have HN1:Hid (w.heap.size≠W2.heap.size):=by unfold Hid;omega
 have HN2:Hid (W1.heap.size≠W2.heap.size):=by unfold Hid;omega
 have HC:Hid (∀ W,Ext W3 W→W.cell? ⟨w.heap.size,0,none⟩=some (.string (intB x.num))∧W.cell? ⟨w.heap.size,1,none⟩=some (.string (numB x.den))∧W.cell? ⟨W1.heap.size,0,none⟩=some (.string (intB y.num))∧W.cell? ⟨W1.heap.size,1,none⟩=some (.string (numB y.den))∧W.cell? ⟨W2.heap.size,0,none⟩=some (.string ⟨#[]⟩)∧W.cell? ⟨W2.heap.size,1,none⟩=some (.string ⟨#[]⟩)∧W.frozen? ⟨W2.heap.size,0,none⟩=false∧W.frozen? ⟨W2.heap.size,1,none⟩=false∧W.heap[W2.heap.size]?=some (.cells #[.string ⟨#[]⟩,.string ⟨#[]⟩] 152 (0,0))):=fun W hW=>by
  obtain ⟨a0,a1,-⟩:=block2_cell (block_ext hb1' hW)
  obtain ⟨b0,b1,-⟩:=block2_cell (block_ext hb2' hW)
  obtain ⟨c0,c1,cf⟩:=block2_cell (block_ext hb3 hW)
  exact ⟨a0,a1,b0,b1,c0,c1,cf 0,cf 1,block_ext hb3 hW⟩
 have HB1:Hid (∀ W,Calls Tryz.prog 198 #[ratV x] W fun e w'=>∃ a b,e=.returned (.tuple #[.int .i64 a,.int .i64 b,.bool (decide ((intB x.num).size≤9) && decide ((numB x.den).size≤9))])∧Hid ((intB x.num).size≤9∧(numB x.den).size≤9→a=x.num∧b=x.den)∧Ext W w'):=fun W=>fboth_any x W
 have HB2:Hid (∀ W,Calls Tryz.prog 198 #[ratV y] W fun e w'=>∃ a b,e=.returned (.tuple #[.int .i64 a,.int .i64 b,.bool (decide ((intB y.num).size≤9) && decide ((numB y.den).size≤9))])∧Hid ((intB y.num).size≤9∧(numB y.den).size≤9→a=y.num∧b=y.den)∧Ext W w'):=fun W=>fboth_any y W
 obtain ⟨bx,hbx⟩:∃ b,b=(decide ((intB x.num).size≤9) && decide ((numB x.den).size≤9)):=⟨_,rfl⟩
 obtain ⟨by',hby⟩:∃ b,b=(decide ((intB y.num).size≤9) && decide ((numB y.den).size≤9)):=⟨_,rfl⟩
 rw [← hbx] at HB1
 rw [← hby] at HB2
 have HBX:Hid (bx=true→(intB x.num).size≤9∧(numB x.den).size≤9):=by
  intro h;rw [hbx,Bool.and_eq_true,decide_eq_true_iff,decide_eq_true_iff] at h;exact h
 have HBY:Hid (by'=true→(intB y.num).size≤9∧(numB y.den).size≤9):=by
  intro h;rw [hby,Bool.and_eq_true,decide_eq_true_iff,decide_eq_true_iff] at h;exact h
 have h3:=hx.1;have h4:=hx.2;have h5:=hy.1;have h6:=hy.2
 have hM1:∀ W,Ext w W→Calls Tryz.prog 63 #[.string (intB x.num),.string (numB y.den)] W fun e w'=>e=.returned (.string (intB (x.num*(y.den:Int))))∧Ext W w':=fun W hW=>by
  have:=mulI_any x.num (y.den:Int) W (by omega) (by rw [eb];omega) (HT.out.ext hW)
  rw [eb] at this
  exact this
 have hM2:∀ W,Ext w W→Calls Tryz.prog 63 #[.string (intB y.num),.string (numB x.den)] W fun e w'=>e=.returned (.string (intB (y.num*(x.den:Int))))∧Ext W w':=fun W hW=>by
  have:=mulI_any y.num (x.den:Int) W (by omega) (by rw [eb];omega) (HT.out.ext hW)
  rw [eb] at this
  exact this
 have hM3:∀ W,Ext w W→Calls Tryz.prog 63 #[.string (numB x.den),.string (numB y.den)] W fun e w'=>e=.returned (.string (intB ((x.den:Int)*(y.den:Int))))∧Ext W w':=fun W hW=>by
  have:=mulI_any (x.den:Int) (y.den:Int) W (by rw [eb];omega) (by rw [eb];omega) (HT.out.ext hW)
  rw [eb,eb] at this
  exact this
 have s1:=int_mul_size x.num (y.den:Int)
 have s2:=int_mul_size y.num (x.den:Int)
 have s3:=int_mul_size (x.den:Int) (y.den:Int)
 rw [eb y.den] at s1
 rw [eb x.den] at s2
 rw [eb x.den,eb y.den] at s3
 have s4:=int_add_size (x.num*(y.den:Int)) (y.num*(x.den:Int))
 have hA:∀ W,Ext w W→Calls Tryz.prog 61 #[.string (intB (x.num*(y.den:Int))),.string (intB (y.num*(x.den:Int)))] W fun e w'=>e=.returned (.string (intB (x.num*(y.den:Int)+y.num*(x.den:Int))))∧Ext W w':=fun W hW=>addI_any _ _ W (by omega) (by omega) (HT.out.ext hW)
 have hL:∀ W,Ext w W→Calls Tryz.prog 200 #[.string (intB (x.num*(y.den:Int)+y.num*(x.den:Int))),.string (intB ((x.den:Int)*(y.den:Int)))] W fun e w'=>e=.returned (ratV (x+y))∧Ext W w':=fun W hW=>by
  rw [← rat_add_eq]
  exact lowest_any _ _ W (by rw [← Int.natCast_mul];have:=Nat.mul_ne_zero x.den_nz y.den_nz;omega) (by omega) (by omega) (HT.out.ext hW)
 have hS:∀ W,Ext w W→Calls Tryz.prog 61 #[.string (intB x.num),.string (intB y.num)] W fun e w'=>e=.returned (.string (intB (x.num+y.num)))∧Ext W w':=fun W hW=>addI_any _ _ W (by omega) (by omega) (HT.out.ext hW)
 have HM1:=Lib.hid hM1;have HM2:=Lib.hid hM2;have HM3:=Lib.hid hM3;have HA:=Lib.hid hA;have HL:=Lib.hid hL;have HS:=Lib.hid hS
 have HOF:Hid ((intB x.num).size≤9∧(numB x.den).size≤9→(intB y.num).size≤9∧(numB y.den).size≤9→∃ (p1 p2 q:Int),x.num*(y.den:Int)=p1∧y.num*(x.den:Int)=p2∧(x.den:Int)*(y.den:Int)=q∧-1000000000000000000≤p1∧p1≤1000000000000000000∧-1000000000000000000≤p2∧p2≤1000000000000000000∧-1000000000000000000≤q∧q≤1000000000000000000∧∀ W,Ext w W→Calls Tryz.prog 199 #[.int .i64 (p1+p2),.int .i64 q] W fun e w'=>e=.returned (ratV (x+y))∧Ext W w'):=by
  intro h1 h2
  have a1:=int9 h1.1
  have a2:=int9 (n:=(x.den:Int)) (by rw [eb];exact h1.2)
  have a3:=int9 h2.1
  have a4:=int9 (n:=(y.den:Int)) (by rw [eb];exact h2.2)
  have m1:=mul_bd a1.1 a1.2 a4.1 a4.2 (by omega) (by omega)
  have m2:=mul_bd a3.1 a3.2 a2.1 a2.2 (by omega) (by omega)
  have m3:=mul_bd a2.1 a2.2 a4.1 a4.2 (by omega) (by omega)
  refine ⟨_,_,_,rfl,rfl,rfl,by omega,by omega,by omega,by omega,by omega,by omega,fun W hW=>?_⟩
  have hdp:0<x.den*y.den:=Nat.mul_pos x.den_pos y.den_pos
  rw [← Int.natCast_mul] at m3 ⊢
  have:=fof_any (x.num*(y.den:Int)+y.num*(x.den:Int)) (x.den*y.den) W (by omega) (by omega) hdp (by omega) (HT.out.ext hW)
  rw [Rat.add_def']
  exact this
 have ho1:=num_one x.den
 have ho2:=num_one y.den
 have HONE:Hid (x.den=1→y.den=1→intB (x.num+y.num)=intB (x+y).num∧numB (x+y).den=⟨#[49]⟩):=fun h1 h2=>by
  obtain ⟨e1,e2⟩:=rat_add_one x y h1 h2
  rw [e1,e2]
  exact ⟨rfl,by unfold numB;rw [Lib.decDigits_one (by omega)];rfl⟩
 have heta:∀ q:Rat,ratV q=.agg #[.string (intB q.num),.string (numB q.den)]:=fun _=>rfl
 obtain ⟨o1,ho1'⟩:∃ o,o=decide (x.den=1):=⟨_,rfl⟩
 obtain ⟨o2,ho2'⟩:∃ o,o=decide (y.den=1):=⟨_,rfl⟩
 rw [← ho1'] at ho1
 rw [← ho2'] at ho2
 have HONE2:Hid (o1=true→o2=true→x.den=1∧y.den=1):=fun h1 h2=>⟨of_decide_eq_true (ho1'▸h1),of_decide_eq_true (ho2'▸h2)⟩
 obtain ⟨Z,hZ⟩:∃ Z,Z=x+y:=⟨_,rfl⟩
 rw [← hZ] at HL HOF HONE ⊢
 rw [heta x] at HB1 ⊢
 rw [heta y] at HB2 ⊢
 rw [heta Z] at HL HOF ⊢
 clear hE1 hE2 hE3 hs1 hs2 hs3 hb1 hb2 hb3 hb1' hb2' hbx hby hM1 hM2 hM3 hA hL hS heta hx hy h3 h4 h5 h6 s1 s2 s3 s4 ho1' ho2' hZ
 obtain ⟨n1,hn1⟩:∃ n,n=intB x.num:=⟨_,rfl⟩
 obtain ⟨d1,hd1⟩:∃ n,n=numB x.den:=⟨_,rfl⟩
 obtain ⟨n2,hn2⟩:∃ n,n=intB y.num:=⟨_,rfl⟩
 obtain ⟨d2,hd2⟩:∃ n,n=numB y.den:=⟨_,rfl⟩
 obtain ⟨n4,hn4⟩:∃ n,n=intB Z.num:=⟨_,rfl⟩
 obtain ⟨d4,hd4⟩:∃ n,n=numB Z.den:=⟨_,rfl⟩
 obtain ⟨m1,hm1⟩:∃ n,n=intB (x.num*(y.den:Int)):=⟨_,rfl⟩
 obtain ⟨m2,hm2⟩:∃ n,n=intB (y.num*(x.den:Int)):=⟨_,rfl⟩
 obtain ⟨m3,hm3⟩:∃ n,n=intB ((x.den:Int)*(y.den:Int)):=⟨_,rfl⟩
 obtain ⟨m4,hm4⟩:∃ n,n=intB (x.num*(y.den:Int)+y.num*(x.den:Int)):=⟨_,rfl⟩
 obtain ⟨m5,hm5⟩:∃ n,n=intB (x.num+y.num):=⟨_,rfl⟩
 rw [← hn1,← hd2,← hm1] at HM1
 rw [← hn2,← hd1,← hm2] at HM2
 rw [← hd1,← hd2,← hm3] at HM3
 rw [← hm1,← hm2,← hm4] at HA
 rw [← hm4,← hm3,← hn4,← hd4] at HL
 rw [← hn1,← hn2,← hm5] at HS
 rw [← hm5,← hn4,← hd4] at HONE
 rw [← hn4,← hd4] at HOF ⊢
 rw [← hn1,← hd1,← hn2,← hd2] at HC ⊢
 rw [← hn1,← hd1] at hW1 HB1 HBX HOF
 rw [← hn2,← hd2] at hW2 HB2 HBY HOF
 rw [← hd1] at ho1
 rw [← hd2] at ho2
 clear hn1 hd1 hn2 hd2 hn4 hd4 hm1 hm2 hm3 hm4 hm5
 obtain ⟨c0,c1,c2,c3,c4,c5,c6,c7,cb⟩:=HC.out W3 (Ext.refl _)
 by_cases hone:o1=true∧o2=true
 ·obtain ⟨h1,h2⟩:=hone
  obtain ⟨k1,k2⟩:=HONE2.out h1 h2
  obtain ⟨e5,e4⟩:=HONE.out k1 k2
  rw [h1] at ho1
  rw [h2] at ho2
  rw [e5] at HS
  rw [e4]
  have hBL:BlkR W2.heap.size W3:=⟨_,_,cb⟩
  have HBL:=Lib.hid hBL
  clear h1 h2 k1 k2 e5 e4 cb hBL HM1 HM2 HM3 HA HL HOF HB1 HB2 HBX HBY HONE HONE2
  go_enter Tryz.func201,Tryz.ntmps201
  go_wp2_with fail
  refine (HS.out _ HE.out).mono ?_
  rintro e w6 ⟨rfl,hE6⟩
  have HE6:=Lib.hid (Ext.trans HE.out hE6)
  have z6:=Lib.hid (HBL.out.ext hE6)
  obtain ⟨r0,r1,t0,t1,f0,f1⟩:=z6.out.open
  clear hE6 HS c0 c1 c2 c3 c4 c5 c6 c7
  have hb7:=BlkR.res (x:=.string n4) (y:=.string ⟨#[49]⟩) z6.out
  go_wp2_with fail
  refine bodyPost_ret (results_cell_row (by rfl) _ _ W2.heap.size 152 #[.string n4,.string ⟨#[49]⟩] (0,0) _ (by rfl) hb7 Tryz.underlying152 (by rfl) (by kernel_rfl)) (by rfl) ⟨rfl,?_⟩
  exact ext_set2 HE6.out HR.out
 ·have hone':o1=false∨(o1=true∧o2=false):=by
   cases o1
   ·exact .inl rfl
   ·cases o2
    ·exact .inr ⟨rfl,rfl⟩
    ·exact absurd ⟨rfl,rfl⟩ hone
  clear hone HONE HONE2 HS cb
  rcases hone' with h1 | ⟨h1,h2⟩
  case' inl =>
   rw [h1] at ho1
   clear h1 ho2
  case' inr =>
   rw [h1] at ho1
   rw [h2] at ho2
   clear h1 h2
  all_goals
   go_enter Tryz.func201,Tryz.ntmps201
   go_wp2_with fail
   refine (HB1.out _).mono ?_
   rintro e w4 ⟨a,b,rfl,hab,hE4⟩
   have HAB:=hab
   have HE4:=Lib.hid hE4
   obtain ⟨u0,u1,u2,u3,u4,u5,u6,u7,-⟩:=HC.out _ hE4
   clear hab hE4 HB1 c0 c1 c2 c3 c4 c5 c6 c7
   cases bx
   ·clear HB2 HOF HAB u0 u1 u2 u3 u4 u5 u6 u7
    go_wp2_with fail
    have HX3:=Lib.hid (Ext.trans (Ext.trans HE.out HE4.out) (Ext.drew _))
    obtain ⟨y1,y2,y3,y4,-,-,-,-,yb⟩:=HC.out _ (Ext.trans HE4.out (Ext.drew _))
    have HB3:Hid (BlkR W2.heap.size (w4).drew):=⟨_,_,yb⟩
    clear yb
    go_region_held3 (fun w'=>w'.cell? ⟨w.heap.size,0,none⟩=some (.string n1)∧w'.cell? ⟨w.heap.size,1,none⟩=some (.string d1)∧w'.cell? ⟨W1.heap.size,0,none⟩=some (.string n2)∧w'.cell? ⟨W1.heap.size,1,none⟩=some (.string d2)∧Hid (Ext w w')∧Hid (BlkR W2.heap.size w'))
     (first | exact ⟨z1,z2,z3,z4,z5,z6⟩ | exact ⟨cell_set2 HN1.out z1,cell_set2 HN1.out z2,cell_set2 HN2.out z3,cell_set2 HN2.out z4,Lib.hid (ext_set2 z5.out HR.out),Lib.hid z6.out.set2⟩ | exact ⟨y1,y2,y3,y4,HX3,HB3⟩ | go_keep)
     (first
      | (go_at_call 63;have hc:=HM1.out _ (Hid.out (p:=Ext w _) (by assumption));with_reducible refine hc.mono ?_;clear hc;rintro e w6 ⟨rfl,hE6⟩;have q1:=hE6.cell (a:=⟨w.heap.size,0,none⟩) (v:=.string n1) (by assumption);have q2:=hE6.cell (a:=⟨w.heap.size,1,none⟩) (v:=.string d1) (by assumption);have q3:=hE6.cell (a:=⟨W1.heap.size,0,none⟩) (v:=.string n2) (by assumption);have q4:=hE6.cell (a:=⟨W1.heap.size,1,none⟩) (v:=.string d2) (by assumption);have q5:=Lib.hid (Ext.trans (Hid.out (p:=Ext w _) (by assumption)) hE6);have q6:=Lib.hid (BlkR.ext (Hid.out (p:=BlkR W2.heap.size _) (by assumption)) hE6);(try clear z1 z2 z3 z4 z5 z6 t0 t1 f0 f1);have z1:=q1;have z2:=q2;have z3:=q3;have z4:=q4;have z5:=q5;have z6:=q6;obtain ⟨r0,r1,t0,t1,f0,f1⟩:=z6.out.open;clear hE6 q1 q2 q3 q4 q5 q6)
      | (go_at_call 63;have hc:=HM2.out _ (Hid.out (p:=Ext w _) (by assumption));with_reducible refine hc.mono ?_;clear hc;rintro e w6 ⟨rfl,hE6⟩;have q1:=hE6.cell (a:=⟨w.heap.size,0,none⟩) (v:=.string n1) (by assumption);have q2:=hE6.cell (a:=⟨w.heap.size,1,none⟩) (v:=.string d1) (by assumption);have q3:=hE6.cell (a:=⟨W1.heap.size,0,none⟩) (v:=.string n2) (by assumption);have q4:=hE6.cell (a:=⟨W1.heap.size,1,none⟩) (v:=.string d2) (by assumption);have q5:=Lib.hid (Ext.trans (Hid.out (p:=Ext w _) (by assumption)) hE6);have q6:=Lib.hid (BlkR.ext (Hid.out (p:=BlkR W2.heap.size _) (by assumption)) hE6);(try clear z1 z2 z3 z4 z5 z6 t0 t1 f0 f1);have z1:=q1;have z2:=q2;have z3:=q3;have z4:=q4;have z5:=q5;have z6:=q6;obtain ⟨r0,r1,t0,t1,f0,f1⟩:=z6.out.open;clear hE6 q1 q2 q3 q4 q5 q6)
      | (go_at_call 63;have hc:=HM3.out _ (Hid.out (p:=Ext w _) (by assumption));with_reducible refine hc.mono ?_;clear hc;rintro e w6 ⟨rfl,hE6⟩;have q1:=hE6.cell (a:=⟨w.heap.size,0,none⟩) (v:=.string n1) (by assumption);have q2:=hE6.cell (a:=⟨w.heap.size,1,none⟩) (v:=.string d1) (by assumption);have q3:=hE6.cell (a:=⟨W1.heap.size,0,none⟩) (v:=.string n2) (by assumption);have q4:=hE6.cell (a:=⟨W1.heap.size,1,none⟩) (v:=.string d2) (by assumption);have q5:=Lib.hid (Ext.trans (Hid.out (p:=Ext w _) (by assumption)) hE6);have q6:=Lib.hid (BlkR.ext (Hid.out (p:=BlkR W2.heap.size _) (by assumption)) hE6);(try clear z1 z2 z3 z4 z5 z6 t0 t1 f0 f1);have z1:=q1;have z2:=q2;have z3:=q3;have z4:=q4;have z5:=q5;have z6:=q6;obtain ⟨r0,r1,t0,t1,f0,f1⟩:=z6.out.open;clear hE6 q1 q2 q3 q4 q5 q6)
      | (go_at_call 61;have hc:=HA.out _ (Hid.out (p:=Ext w _) (by assumption));with_reducible refine hc.mono ?_;clear hc;rintro e w6 ⟨rfl,hE6⟩;have q1:=hE6.cell (a:=⟨w.heap.size,0,none⟩) (v:=.string n1) (by assumption);have q2:=hE6.cell (a:=⟨w.heap.size,1,none⟩) (v:=.string d1) (by assumption);have q3:=hE6.cell (a:=⟨W1.heap.size,0,none⟩) (v:=.string n2) (by assumption);have q4:=hE6.cell (a:=⟨W1.heap.size,1,none⟩) (v:=.string d2) (by assumption);have q5:=Lib.hid (Ext.trans (Hid.out (p:=Ext w _) (by assumption)) hE6);have q6:=Lib.hid (BlkR.ext (Hid.out (p:=BlkR W2.heap.size _) (by assumption)) hE6);(try clear z1 z2 z3 z4 z5 z6 t0 t1 f0 f1);have z1:=q1;have z2:=q2;have z3:=q3;have z4:=q4;have z5:=q5;have z6:=q6;obtain ⟨r0,r1,t0,t1,f0,f1⟩:=z6.out.open;clear hE6 q1 q2 q3 q4 q5 q6)
      | (go_at_call 200;have hc:=HL.out _ (Hid.out (p:=Ext w _) (by assumption));with_reducible refine hc.mono ?_;clear hc;rintro e w6 ⟨rfl,hE6⟩;have q1:=hE6.cell (a:=⟨w.heap.size,0,none⟩) (v:=.string n1) (by assumption);have q2:=hE6.cell (a:=⟨w.heap.size,1,none⟩) (v:=.string d1) (by assumption);have q3:=hE6.cell (a:=⟨W1.heap.size,0,none⟩) (v:=.string n2) (by assumption);have q4:=hE6.cell (a:=⟨W1.heap.size,1,none⟩) (v:=.string d2) (by assumption);have q5:=Lib.hid (Ext.trans (Hid.out (p:=Ext w _) (by assumption)) hE6);have q6:=Lib.hid (BlkR.ext (Hid.out (p:=BlkR W2.heap.size _) (by assumption)) hE6);(try clear z1 z2 z3 z4 z5 z6 t0 t1 f0 f1);have z1:=q1;have z2:=q2;have z3:=q3;have z4:=q4;have z5:=q5;have z6:=q6;obtain ⟨r0,r1,t0,t1,f0,f1⟩:=z6.out.open;clear hE6 q1 q2 q3 q4 q5 q6))
    all_goals
     have hb7:=BlkR.res (x:=.string n4) (y:=.string d4) z6.out
     go_wp2_with fail
     refine bodyPost_ret (results_cell_row (by rfl) _ _ W2.heap.size 152 #[.string n4,.string d4] (0,0) _ (by rfl) hb7 Tryz.underlying152 (by rfl) (by kernel_rfl)) (by rfl) ⟨rfl,?_⟩
     exact ext_set2 z5.out HR.out
   ·go_wp2_with fail
    refine (HB2.out _).mono ?_
    rintro e w5 ⟨c,d,rfl,hcd,hE5⟩
    have HCD:=hcd
    have HE5:=Lib.hid (Ext.trans HE4.out hE5)
    clear hcd hE5 HB2 u0 u1 u2 u3 u4 u5 u6 u7
    cases by'
    ·clear HOF HAB HCD
     go_wp2_with fail
     have HX3:=Lib.hid (Ext.trans (Ext.trans HE.out HE5.out) (Ext.drew _))
     obtain ⟨y1,y2,y3,y4,-,-,-,-,yb⟩:=HC.out _ (Ext.trans HE5.out (Ext.drew _))
     have HB3:Hid (BlkR W2.heap.size (w5).drew):=⟨_,_,yb⟩
     clear yb
     go_region_held3 (fun w'=>w'.cell? ⟨w.heap.size,0,none⟩=some (.string n1)∧w'.cell? ⟨w.heap.size,1,none⟩=some (.string d1)∧w'.cell? ⟨W1.heap.size,0,none⟩=some (.string n2)∧w'.cell? ⟨W1.heap.size,1,none⟩=some (.string d2)∧Hid (Ext w w')∧Hid (BlkR W2.heap.size w'))
      (first | exact ⟨z1,z2,z3,z4,z5,z6⟩ | exact ⟨cell_set2 HN1.out z1,cell_set2 HN1.out z2,cell_set2 HN2.out z3,cell_set2 HN2.out z4,Lib.hid (ext_set2 z5.out HR.out),Lib.hid z6.out.set2⟩ | exact ⟨y1,y2,y3,y4,HX3,HB3⟩ | go_keep)
      (first
       | (go_at_call 63;have hc:=HM1.out _ (Hid.out (p:=Ext w _) (by assumption));with_reducible refine hc.mono ?_;clear hc;rintro e w6 ⟨rfl,hE6⟩;have q1:=hE6.cell (a:=⟨w.heap.size,0,none⟩) (v:=.string n1) (by assumption);have q2:=hE6.cell (a:=⟨w.heap.size,1,none⟩) (v:=.string d1) (by assumption);have q3:=hE6.cell (a:=⟨W1.heap.size,0,none⟩) (v:=.string n2) (by assumption);have q4:=hE6.cell (a:=⟨W1.heap.size,1,none⟩) (v:=.string d2) (by assumption);have q5:=Lib.hid (Ext.trans (Hid.out (p:=Ext w _) (by assumption)) hE6);have q6:=Lib.hid (BlkR.ext (Hid.out (p:=BlkR W2.heap.size _) (by assumption)) hE6);(try clear z1 z2 z3 z4 z5 z6 t0 t1 f0 f1);have z1:=q1;have z2:=q2;have z3:=q3;have z4:=q4;have z5:=q5;have z6:=q6;obtain ⟨r0,r1,t0,t1,f0,f1⟩:=z6.out.open;clear hE6 q1 q2 q3 q4 q5 q6)
       | (go_at_call 63;have hc:=HM2.out _ (Hid.out (p:=Ext w _) (by assumption));with_reducible refine hc.mono ?_;clear hc;rintro e w6 ⟨rfl,hE6⟩;have q1:=hE6.cell (a:=⟨w.heap.size,0,none⟩) (v:=.string n1) (by assumption);have q2:=hE6.cell (a:=⟨w.heap.size,1,none⟩) (v:=.string d1) (by assumption);have q3:=hE6.cell (a:=⟨W1.heap.size,0,none⟩) (v:=.string n2) (by assumption);have q4:=hE6.cell (a:=⟨W1.heap.size,1,none⟩) (v:=.string d2) (by assumption);have q5:=Lib.hid (Ext.trans (Hid.out (p:=Ext w _) (by assumption)) hE6);have q6:=Lib.hid (BlkR.ext (Hid.out (p:=BlkR W2.heap.size _) (by assumption)) hE6);(try clear z1 z2 z3 z4 z5 z6 t0 t1 f0 f1);have z1:=q1;have z2:=q2;have z3:=q3;have z4:=q4;have z5:=q5;have z6:=q6;obtain ⟨r0,r1,t0,t1,f0,f1⟩:=z6.out.open;clear hE6 q1 q2 q3 q4 q5 q6)
       | (go_at_call 63;have hc:=HM3.out _ (Hid.out (p:=Ext w _) (by assumption));with_reducible refine hc.mono ?_;clear hc;rintro e w6 ⟨rfl,hE6⟩;have q1:=hE6.cell (a:=⟨w.heap.size,0,none⟩) (v:=.string n1) (by assumption);have q2:=hE6.cell (a:=⟨w.heap.size,1,none⟩) (v:=.string d1) (by assumption);have q3:=hE6.cell (a:=⟨W1.heap.size,0,none⟩) (v:=.string n2) (by assumption);have q4:=hE6.cell (a:=⟨W1.heap.size,1,none⟩) (v:=.string d2) (by assumption);have q5:=Lib.hid (Ext.trans (Hid.out (p:=Ext w _) (by assumption)) hE6);have q6:=Lib.hid (BlkR.ext (Hid.out (p:=BlkR W2.heap.size _) (by assumption)) hE6);(try clear z1 z2 z3 z4 z5 z6 t0 t1 f0 f1);have z1:=q1;have z2:=q2;have z3:=q3;have z4:=q4;have z5:=q5;have z6:=q6;obtain ⟨r0,r1,t0,t1,f0,f1⟩:=z6.out.open;clear hE6 q1 q2 q3 q4 q5 q6)
       | (go_at_call 61;have hc:=HA.out _ (Hid.out (p:=Ext w _) (by assumption));with_reducible refine hc.mono ?_;clear hc;rintro e w6 ⟨rfl,hE6⟩;have q1:=hE6.cell (a:=⟨w.heap.size,0,none⟩) (v:=.string n1) (by assumption);have q2:=hE6.cell (a:=⟨w.heap.size,1,none⟩) (v:=.string d1) (by assumption);have q3:=hE6.cell (a:=⟨W1.heap.size,0,none⟩) (v:=.string n2) (by assumption);have q4:=hE6.cell (a:=⟨W1.heap.size,1,none⟩) (v:=.string d2) (by assumption);have q5:=Lib.hid (Ext.trans (Hid.out (p:=Ext w _) (by assumption)) hE6);have q6:=Lib.hid (BlkR.ext (Hid.out (p:=BlkR W2.heap.size _) (by assumption)) hE6);(try clear z1 z2 z3 z4 z5 z6 t0 t1 f0 f1);have z1:=q1;have z2:=q2;have z3:=q3;have z4:=q4;have z5:=q5;have z6:=q6;obtain ⟨r0,r1,t0,t1,f0,f1⟩:=z6.out.open;clear hE6 q1 q2 q3 q4 q5 q6)
       | (go_at_call 200;have hc:=HL.out _ (Hid.out (p:=Ext w _) (by assumption));with_reducible refine hc.mono ?_;clear hc;rintro e w6 ⟨rfl,hE6⟩;have q1:=hE6.cell (a:=⟨w.heap.size,0,none⟩) (v:=.string n1) (by assumption);have q2:=hE6.cell (a:=⟨w.heap.size,1,none⟩) (v:=.string d1) (by assumption);have q3:=hE6.cell (a:=⟨W1.heap.size,0,none⟩) (v:=.string n2) (by assumption);have q4:=hE6.cell (a:=⟨W1.heap.size,1,none⟩) (v:=.string d2) (by assumption);have q5:=Lib.hid (Ext.trans (Hid.out (p:=Ext w _) (by assumption)) hE6);have q6:=Lib.hid (BlkR.ext (Hid.out (p:=BlkR W2.heap.size _) (by assumption)) hE6);(try clear z1 z2 z3 z4 z5 z6 t0 t1 f0 f1);have z1:=q1;have z2:=q2;have z3:=q3;have z4:=q4;have z5:=q5;have z6:=q6;obtain ⟨r0,r1,t0,t1,f0,f1⟩:=z6.out.open;clear hE6 q1 q2 q3 q4 q5 q6))
     all_goals
      have hb7:=BlkR.res (x:=.string n4) (y:=.string d4) z6.out
      go_wp2_with fail
      refine bodyPost_ret (results_cell_row (by rfl) _ _ W2.heap.size 152 #[.string n4,.string d4] (0,0) _ (by rfl) hb7 Tryz.underlying152 (by rfl) (by kernel_rfl)) (by rfl) ⟨rfl,?_⟩
      exact ext_set2 z5.out HR.out
    ·obtain ⟨ha,hb⟩:=HAB.out (HBX.out (by first | rfl | trivial))
     obtain ⟨hc,hd⟩:=HCD.out (HBY.out (by first | rfl | trivial))
     obtain ⟨p1,p2,q,hp1,hp2,hq,b1,b2,b3,b4,b5,b6,hof⟩:=HOF.out (HBX.out (by first | rfl | trivial)) (HBY.out (by first | rfl | trivial))
     have HO:=Lib.hid hof
     have hp1':a*d=p1:=by rw [ha,hd];exact hp1
     have hp2':c*b=p2:=by rw [hc,hb];exact hp2
     have hq':b*d=q:=by rw [hb,hd];exact hq
     clear ha hb hc hd hp1 hp2 hq hof HAB HCD HOF HM1 HM2 HM3 HA HL
     go_wp2_with fail
     refine (HO.out _ (HE.out.trans HE5.out)).mono ?_
     rintro e w6 ⟨rfl,hE6⟩
     have HE6:=Lib.hid (Ext.trans HE5.out hE6)
     obtain ⟨-,-,-,-,-,-,-,-,yb⟩:=HC.out _ HE6.out
     have z6:Hid (BlkR W2.heap.size w6):=⟨_,_,yb⟩
     obtain ⟨r0,r1,t0,t1,f0,f1⟩:=z6.out.open
     clear hE6 HO yb
     have hb7:=BlkR.res (x:=.string n4) (y:=.string d4) z6.out
     go_wp2_with fail
     refine bodyPost_ret (results_cell_row (by rfl) _ _ W2.heap.size 152 #[.string n4,.string d4] (0,0) _ (by rfl) hb7 Tryz.underlying152 (by rfl) (by kernel_rfl)) (by rfl) ⟨rfl,?_⟩
     exact ext_set2 (HE.out.trans HE6.out) HR.out
set_option maxRecDepth 100000 in
set_option maxHeartbeats 2000000 in
theorem ratSub_any (x y:Rat) (w:World) (hx:RS 11000 x) (hy:RS 11000 y) (ht:Pow10 w) :
  Calls Tryz.prog 165 #[ratV x,ratV y] w fun e w'=>e=.returned (ratV (x-y))∧Ext w w':=by
 have HT:=Lib.hid ht
 clear ht
 obtain ⟨W1,hW1,hE1,hs1,hb1⟩:=box2 w (.string (intB x.num)) (.string (numB x.den)) 152
 obtain ⟨W2,hW2,hE2,hs2,hb2⟩:=box2 W1 (.string (intB y.num)) (.string (numB y.den)) 152
 obtain ⟨W3,hW3,hE3,hs3,hb3⟩:=box2 W2 (.string ⟨#[]⟩) (.string ⟨#[]⟩) 152
 have hb1':=block_ext hb1 (hE2.trans hE3)
 have hb2':=block_ext hb2 hE3
 have HE:=Lib.hid ((hE1.trans hE2).trans hE3)
 have HR:Hid (w.heap.size≤W2.heap.size):=by unfold Hid;omega
 have HN1:Hid (w.heap.size≠W2.heap.size):=by unfold Hid;omega
 have HN2:Hid (W1.heap.size≠W2.heap.size):=by unfold Hid;omega
 have HC:Hid (∀ W,Ext W3 W→W.cell? ⟨w.heap.size,0,none⟩=some (.string (intB x.num))∧W.cell? ⟨w.heap.size,1,none⟩=some (.string (numB x.den))∧W.cell? ⟨W1.heap.size,0,none⟩=some (.string (intB y.num))∧W.cell? ⟨W1.heap.size,1,none⟩=some (.string (numB y.den))∧W.cell? ⟨W2.heap.size,0,none⟩=some (.string ⟨#[]⟩)∧W.cell? ⟨W2.heap.size,1,none⟩=some (.string ⟨#[]⟩)∧W.frozen? ⟨W2.heap.size,0,none⟩=false∧W.frozen? ⟨W2.heap.size,1,none⟩=false∧W.heap[W2.heap.size]?=some (.cells #[.string ⟨#[]⟩,.string ⟨#[]⟩] 152 (0,0))):=fun W hW=>by
  obtain ⟨a0,a1,-⟩:=block2_cell (block_ext hb1' hW)
  obtain ⟨b0,b1,-⟩:=block2_cell (block_ext hb2' hW)
  obtain ⟨c0,c1,cf⟩:=block2_cell (block_ext hb3 hW)
  exact ⟨a0,a1,b0,b1,c0,c1,cf 0,cf 1,block_ext hb3 hW⟩
 have hny:RS 12000 (-y):=by
  refine ⟨?_,by show (numB y.den).size≤12000;have:=hy.2;omega⟩
  have h1:=intB_size_le (-y.num)
  have h2:=natAbs_le y.num
  rw [Int.natAbs_neg] at h1
  rw [Rat.neg_num]
  have:=hy.1
  omega
 have HNG:Hid (∀ W,Ext w W→Calls Tryz.prog 162 #[ratV y] W fun e w'=>e=.returned (ratV (-y))∧Ext W w'):=fun W _=>ratNeg_any y W (hy.mono (by omega))
 have HAD:Hid (∀ W,Ext w W→Calls Tryz.prog 201 #[ratV x,ratV (-y)] W fun e w'=>e=.returned (ratV (x-y))∧Ext W w'):=fun W hW=>by
  have:=ratAdd_any x (-y) W (hx.mono (by omega)) hny (HT.out.ext hW)
  rw [← Rat.sub_eq_add_neg] at this
  exact this
 have heta:∀ q:Rat,ratV q=.agg #[.string (intB q.num),.string (numB q.den)]:=fun _=>rfl
 obtain ⟨Z,hZ⟩:∃ Z,Z=x-y:=⟨_,rfl⟩
 obtain ⟨V,hV⟩:∃ V,V=ratV (-y):=⟨_,rfl⟩
 rw [← hZ] at HAD ⊢
 rw [← hV] at HNG HAD
 have HVV:Hid (V=.agg #[.string (intB (-y).num),.string (numB (-y).den)]):=hV
 rw [HVV.out] at HNG HAD
 rw [heta x] at HAD ⊢
 rw [heta y] at HNG ⊢
 rw [heta Z] at HAD ⊢
 clear hE1 hE2 hE3 hs1 hs2 hs3 hb1 hb2 hb3 hb1' hb2' heta hx hy hny hV HVV
 obtain ⟨n1,hn1⟩:∃ n,n=intB x.num:=⟨_,rfl⟩
 obtain ⟨d1,hd1⟩:∃ n,n=numB x.den:=⟨_,rfl⟩
 obtain ⟨n2,hn2⟩:∃ n,n=intB y.num:=⟨_,rfl⟩
 obtain ⟨d2,hd2⟩:∃ n,n=numB y.den:=⟨_,rfl⟩
 obtain ⟨n4,hn4⟩:∃ n,n=intB Z.num:=⟨_,rfl⟩
 obtain ⟨d4,hd4⟩:∃ n,n=numB Z.den:=⟨_,rfl⟩
 obtain ⟨n3,hn3⟩:∃ n,n=intB (-y).num:=⟨_,rfl⟩
 obtain ⟨d3,hd3⟩:∃ n,n=numB (-y).den:=⟨_,rfl⟩
 rw [← hn2,← hd2,← hn3,← hd3] at HNG
 rw [← hn1,← hd1,← hn3,← hd3,← hn4,← hd4] at HAD
 rw [← hn4,← hd4]
 rw [← hn1,← hd1,← hn2,← hd2] at HC ⊢
 rw [← hn1,← hd1] at hW1
 rw [← hn2,← hd2] at hW2
 clear hn1 hd1 hn2 hd2 hn3 hd3 hn4 hd4 hZ
 obtain ⟨c0,c1,c2,c3,c4,c5,c6,c7,-⟩:=HC.out W3 (Ext.refl _)
 go_enter Tryz.func165,Tryz.ntmps165
 go_wp2_with fail
 have HRF:=Lib.hid (Ext.refl W3)
 have HX3:=Lib.hid (Ext.trans (Ext.trans HE.out HRF.out) (Ext.drew _))
 obtain ⟨y1,y2,y3,y4,-,-,-,-,yb⟩:=HC.out _ (Ext.trans HRF.out (Ext.drew _))
 have HB3:Hid (BlkR W2.heap.size (W3).drew):=⟨_,_,yb⟩
 clear yb
 go_region_held3 (fun w'=>w'.cell? ⟨w.heap.size,0,none⟩=some (.string n1)∧w'.cell? ⟨w.heap.size,1,none⟩=some (.string d1)∧w'.cell? ⟨W1.heap.size,0,none⟩=some (.string n2)∧w'.cell? ⟨W1.heap.size,1,none⟩=some (.string d2)∧Hid (Ext w w')∧Hid (BlkR W2.heap.size w'))
  (first | exact ⟨z1,z2,z3,z4,z5,z6⟩ | exact ⟨cell_set2 HN1.out z1,cell_set2 HN1.out z2,cell_set2 HN2.out z3,cell_set2 HN2.out z4,Lib.hid (ext_set2 z5.out HR.out),Lib.hid z6.out.set2⟩ | exact ⟨y1,y2,y3,y4,HX3,HB3⟩ | go_keep)
  (first
   | (go_at_call 162;have hc:=HNG.out _ (Hid.out (p:=Ext w _) (by assumption));with_reducible refine hc.mono ?_;clear hc;rintro e w6 ⟨rfl,hE6⟩;have q1:=hE6.cell (a:=⟨w.heap.size,0,none⟩) (v:=.string n1) (by assumption);have q2:=hE6.cell (a:=⟨w.heap.size,1,none⟩) (v:=.string d1) (by assumption);have q3:=hE6.cell (a:=⟨W1.heap.size,0,none⟩) (v:=.string n2) (by assumption);have q4:=hE6.cell (a:=⟨W1.heap.size,1,none⟩) (v:=.string d2) (by assumption);have q5:=Lib.hid (Ext.trans (Hid.out (p:=Ext w _) (by assumption)) hE6);have q6:=Lib.hid (BlkR.ext (Hid.out (p:=BlkR W2.heap.size _) (by assumption)) hE6);(try clear z1 z2 z3 z4 z5 z6 t0 t1 f0 f1);have z1:=q1;have z2:=q2;have z3:=q3;have z4:=q4;have z5:=q5;have z6:=q6;obtain ⟨r0,r1,t0,t1,f0,f1⟩:=z6.out.open;clear hE6 q1 q2 q3 q4 q5 q6)
   | (go_at_call 201;have hc:=HAD.out _ (Hid.out (p:=Ext w _) (by assumption));with_reducible refine hc.mono ?_;clear hc;rintro e w6 ⟨rfl,hE6⟩;have q1:=hE6.cell (a:=⟨w.heap.size,0,none⟩) (v:=.string n1) (by assumption);have q2:=hE6.cell (a:=⟨w.heap.size,1,none⟩) (v:=.string d1) (by assumption);have q3:=hE6.cell (a:=⟨W1.heap.size,0,none⟩) (v:=.string n2) (by assumption);have q4:=hE6.cell (a:=⟨W1.heap.size,1,none⟩) (v:=.string d2) (by assumption);have q5:=Lib.hid (Ext.trans (Hid.out (p:=Ext w _) (by assumption)) hE6);have q6:=Lib.hid (BlkR.ext (Hid.out (p:=BlkR W2.heap.size _) (by assumption)) hE6);(try clear z1 z2 z3 z4 z5 z6 t0 t1 f0 f1);have z1:=q1;have z2:=q2;have z3:=q3;have z4:=q4;have z5:=q5;have z6:=q6;obtain ⟨r0,r1,t0,t1,f0,f1⟩:=z6.out.open;clear hE6 q1 q2 q3 q4 q5 q6))
 all_goals
  have hb7:=BlkR.res (x:=.string n4) (y:=.string d4) z6.out
  go_wp2_with fail
  refine bodyPost_ret (results_cell_row (by rfl) _ _ W2.heap.size 152 #[.string n4,.string d4] (0,0) _ (by rfl) hb7 Tryz.underlying152 (by rfl) (by kernel_rfl)) (by rfl) ⟨rfl,?_⟩
  exact ext_set2 z5.out HR.out
end Go.Proofs.YtjlkkofmojgipaaGreatDoor
