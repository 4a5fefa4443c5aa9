import Derived.Test.YtjlkkofmojgipaaGreatDoorPAG
namespace Go.Proofs.YtjlkkofmojgipaaGreatDoor
set_option linter.unusedVariables false
set_option linter.unusedSimpArgs false
open Go.RowKit
theorem natAbs_tmod_gcd (a b:Int):Nat.gcd b.natAbs (a.tmod b).natAbs=Nat.gcd a.natAbs b.natAbs:=by
 rw [Int.natAbs_tmod,Nat.gcd_comm b.natAbs,← Nat.gcd_rec,Nat.gcd_comm]
theorem tdiv_dvd (n:Int) (g:Nat) (h:(g:Int) ∣ n):n.tdiv (g:Int)=n / (g:Int):=by
 obtain ⟨k,rfl⟩:=h
 by_cases hg:g=0
 ·subst hg;simp
 ·rw [Int.mul_tdiv_cancel_left _ (by omega),Int.mul_ediv_cancel_left _ (by omega)]
set_option maxRecDepth 100000 in
set_option maxHeartbeats 4000000 in
theorem fof_any (n:Int) (d:Nat) (w:World) (hn1:-4000000000000000000≤n) (hn2:n≤4000000000000000000) (hd0:0<d) (hd:d≤4000000000000000000) (ht:Pow10 w) :
  Calls Tryz.prog 199 #[.int .i64 n,.int .i64 d] w fun e w'=>e=.returned (ratV (mkRat n d))∧Ext w w':=by
 have HT:=Lib.hid ht
 clear ht
 obtain ⟨hp1,hp2⟩:=mkRat_parts n d (by omega)
 unfold ratV
 rw [hp1,hp2]
 obtain ⟨g,hg⟩:∃ g,g=n.natAbs.gcd d:=⟨_,rfl⟩
 rw [← hg]
 have hgp:0<g:=by rw [hg];exact Nat.gcd_pos_of_pos_right _ hd0
 have hgd:g≤d:=by rw [hg];exact Nat.gcd_le_right _ hd0
 have hdn:(g:Int) ∣ n:=by rw [hg];exact Int.ofNat_dvd_left.2 (Nat.gcd_dvd_left _ _)
 obtain ⟨FN,hFN⟩:∃ FN,FN=n / (g:Int):=⟨_,rfl⟩
 obtain ⟨FD,hFD⟩:∃ FD,FD=d / g:=⟨_,rfl⟩
 rw [← hFN,← hFD]
 have q1:n.tdiv (g:Int)=FN:=by rw [hFN,tdiv_dvd n g hdn]
 have q2:(d:Int) / (g:Int)=(FD:Int):=by rw [hFD];exact (Int.natCast_ediv _ _).symm
 have q2':(d:Int).tdiv (g:Int)=(FD:Int):=by rw [Int.tdiv_eq_ediv_of_nonneg (by omega),q2]
 have hFNb:-4000000000000000000≤FN∧FN≤4000000000000000000:=by
  have:FN.natAbs≤n.natAbs:=by rw [hFN];exact Int.natAbs_ediv_le_natAbs n (g:Int)
  omega
 have hFDb:FD≤4000000000000000000:=by
  have:FD≤d:=by rw [hFD];exact Nat.div_le_self _ _
  omega
 obtain ⟨hf1,hf2⟩:=hFNb
 have e1:IntKind.i64.wrap FN=FN:=IntWalk.i64_in _ (by omega)
 have e2:IntKind.i64.wrap (FD:Int)=(FD:Int):=IntWalk.i64_in _ (by omega)
 have hI1:∀ W,Ext w W→Calls Tryz.prog 124 #[.int .i64 FN] W fun e w'=>e=.returned (.string (intB FN))∧Ext W w':=fun W hE=>itoa_int FN W (by omega) (by omega) (HT.out.ext hE)
 have hI2:∀ W,Ext w W→Calls Tryz.prog 124 #[.int .i64 (FD:Int)] W fun e w'=>e=.returned (.string (intB (FD:Int)))∧Ext W w':=fun W hE=>itoa_int (FD:Int) W (by omega) (by omega) (HT.out.ext hE)
 rw [eb] at hI2
 have HI1:=Lib.hid hI1;have HI2:=Lib.hid hI2
 have HG:=Lib.hid hg
 obtain ⟨W1,hW1,hE1,hs1,hb1⟩:=box2 w (.string ⟨#[]⟩) (.string ⟨#[]⟩) 152
 obtain ⟨r0,r1,rf⟩:=block2_cell hb1
 have HB1:=Lib.hid hb1
 have HE:=Lib.hid hE1
 have HC:Hid (∀ W,Ext W1 W→W.cell? ⟨w.heap.size,0,none⟩=some (.string ⟨#[]⟩)∧W.cell? ⟨w.heap.size,1,none⟩=some (.string ⟨#[]⟩)∧(∀ i,W.frozen? ⟨w.heap.size,i,none⟩=false)):=fun W hW =>
  ⟨hW.cell r0,hW.cell r1,(block2_cell (block_ext hb1 hW)).2.2⟩
 have HQ:Hid (n.tdiv (g:Int)=FN∧(d:Int) / (g:Int)=(FD:Int)∧(d:Int).tdiv (g:Int)=(FD:Int)∧IntKind.i64.wrap FN=FN∧IntKind.i64.wrap (FD:Int)=(FD:Int)):=⟨q1,q2,q2',e1,e2⟩
 clear hp1 hp2 hg hdn hI1 hI2 hFN hFD q1 q2 q2' e1 e2 hE1 hs1 hb1 r0 r1 rf
 go_enter Tryz.func199,Tryz.ntmps199
 go_wp2_with fail
 go_loopw [5,6] (fun a b wr=>∃ x y:Int,a=.int .i64 x∧b=.int .i64 y∧-4000000000000000000≤x∧x≤4000000000000000000∧-4000000000000000000≤y∧y≤4000000000000000000∧Hid (Nat.gcd x.natAbs y.natAbs=g)∧Hid (Ext W1 wr)) (fun _ b _=>(intOf b).natAbs)
 case atStart=>exact ⟨n,d,rfl,rfl,hn1,hn2,by omega,by omega,by rw [HG.out];rfl,Ext.refl _⟩
 case round =>
  obtain ⟨x,y,rfl,rfl,hx1,hx2,hy1,hy2,HGG,HEw⟩:=hrel
  obtain ⟨wo,rfl⟩:∃ wo:World,wo=wr:=⟨_,rfl⟩
  by_cases hy0:y=0
  ·have hgx:x.natAbs=g:=by have:=HGG.out;rw [hy0] at this;simpa using this
   subst hy0
   have hxx:(x<0∧x=-(g:Int))∨(¬ x<0∧x=(g:Int)):=by omega
   have hgz:((g:Int) == 0)=false:=by rw [beq_eq_false_iff_ne];omega
   have hgz2:¬ (g:Int)=0:=by omega
   clear hgx
   obtain ⟨q1,q2,q3,q4,q5⟩:=HQ.out
   have HEd:=Lib.hid (Ext.trans HEw.out (Ext.drew wo))
   rcases hxx with ⟨hneg,hxg⟩ | ⟨hneg,hxg⟩
   case' inl =>
    have hng:-x=(g:Int):=by omega
    clear hxg
   case' inr =>
    subst hxg
    have hng:True:=trivial
   all_goals
    go_wp2_with fail
    go_region_with (first
     | (go_at_call 124;with_reducible refine (HI1.out _ (HE.out.trans HEd.out)).mono ?_;rintro e w5 ⟨rfl,hE5⟩;have HE2:=HEd;clear HEd;have HEd:=Lib.hid (Ext.trans HE2.out hE5);obtain ⟨t0,t1,tf⟩:=HC.out _ HEd.out;have tf0:=tf 0;have tf1:=tf 1;clear hE5 HE2 tf)
     | (go_at_call 124;with_reducible refine (HI2.out _ (HE.out.trans HEd.out)).mono ?_;rintro e w5 ⟨rfl,hE5⟩;have HE2:=HEd;clear HEd;have HEd:=Lib.hid (Ext.trans HE2.out hE5);obtain ⟨t0,t1,tf⟩:=HC.out _ HEd.out;have tf0:=tf 0;have tf1:=tf 1;clear hE5 HE2 tf))
    all_goals
     have hb5:=block2_set (a:=.string (intB FN)) (b:=.string (numB FD)) (block_ext HB1.out HEd.out)
     go_wp2_with fail
     refine bodyPost_ret (results_cell_row (by rfl) _ _ w.heap.size 152 #[.string (intB FN),.string (numB FD)] (0,0) _ (by rfl) hb5 Tryz.underlying152 (by rfl) (by kernel_rfl)) (by rfl) ⟨rfl,?_⟩
     exact Below.setCell (Below.setCell (HE.out.trans HEd.out) (p:=⟨w.heap.size,0,none⟩) (Nat.le_refl _) _) (p:=⟨w.heap.size,1,none⟩) (Nat.le_refl _) _
  ·obtain ⟨r,hr⟩:∃ r,r=x.tmod y:=⟨_,rfl⟩
   have hry:r.natAbs<y.natAbs:=by rw [hr];exact tmod_lt x y hy0
   have HG2:Hid (Nat.gcd y.natAbs r.natAbs=g):=by unfold Hid;rw [hr,natAbs_tmod_gcd];exact HGG.out
   have hri:x.tmod y=r:=hr.symm
   have hyz:(y == 0)=false:=by rw [beq_eq_false_iff_ne];exact hy0
   have hyz1:(y != 0)=true:=by simpa using hy0
   clear hr
   go_wp2_with fail
   go_quiet (fail)
   go_wp2_with fail
   go_roundw
   case rel=>exact ⟨y,r,rfl,rfl,hy1,hy2,by omega,by omega,HG2.out,Ext.draws HEw.out _⟩
   case measure=>simp [intOf];omega
theorem int_mul_size (x y:Int):(intB (x*y)).size≤(intB x).size+(intB y).size+1:=by
 have h1:=intB_size_le (x*y)
 have h2:=natAbs_le x
 have h3:=natAbs_le y
 have h4:=num_mul_size x.natAbs y.natAbs
 rw [← Int.natAbs_mul] at h4
 omega
theorem int_add_size (x y:Int):(intB (x+y)).size≤max (intB x).size (intB y).size+2:=by
 have h1:=intB_size_le (x+y)
 have h2:=natAbs_le x
 have h3:=natAbs_le y
 have h4:=num_add_size x.natAbs y.natAbs
 have h5:=num_le_mono (Int.natAbs_add_le x y)
 omega
def BlkR (B:Nat) (w:World):Prop:=∃ a b,w.heap[B]?=some (.cells #[a,b] 152 (0,0))
theorem BlkR.ext {B:Nat} {w w':World} (h:BlkR B w) (he:Ext w w'):BlkR B w':=by
 obtain ⟨a,b,h⟩:=h;exact ⟨a,b,block_ext h he⟩
theorem BlkR.set2 {B:Nat} {w:World} {x y:Value} (h:BlkR B w):BlkR B ((w.setCell ⟨B,0,none⟩ x).setCell ⟨B,1,none⟩ y):=by
 obtain ⟨a,b,h⟩:=h;exact ⟨x,y,block2_set h⟩
theorem BlkR.res {B:Nat} {w:World} {x y:Value} (h:BlkR B w):((w.setCell ⟨B,0,none⟩ x).setCell ⟨B,1,none⟩ y).heap[B]?=some (.cells #[x,y] 152 (0,0)):=by
 obtain ⟨a,b,h⟩:=h;exact block2_set h
theorem BlkR.open {B:Nat} {w:World} (h:BlkR B w):∃ a b,w.cell? ⟨B,0,none⟩=some a∧w.cell? ⟨B,1,none⟩=some b∧w.frozen? ⟨B,0,none⟩=false∧w.frozen? ⟨B,1,none⟩=false:=by
 obtain ⟨a,b,h⟩:=h
 obtain ⟨c0,c1,cf⟩:=block2_cell h
 exact ⟨a,b,c0,c1,cf 0,cf 1⟩
theorem cell_set2 {w:World} {B g i:Nat} {x y v:Value} (hne:g≠B) (h:w.cell? ⟨g,i,none⟩=some v):((w.setCell ⟨B,0,none⟩ x).setCell ⟨B,1,none⟩ y).cell? ⟨g,i,none⟩=some v:=by
 rw [World.cell?_setCell_other _ _ _ _ (by intro e;simp only [Addr.mk.injEq] at e;exact hne e.1.symm),World.cell?_setCell_other _ _ _ _ (by intro e;simp only [Addr.mk.injEq] at e;exact hne e.1.symm)]
 exact h
theorem ext_set2 {w W:World} {B:Nat} {x y:Value} (h:Ext w W) (hB:w.heap.size≤B):Ext w ((W.setCell ⟨B,0,none⟩ x).setCell ⟨B,1,none⟩ y) :=
 Below.setCell (Below.setCell h (p:=⟨B,0,none⟩) hB _) (p:=⟨B,1,none⟩) hB _
theorem rat_mul_eq (x y:Rat):Rat.divInt (x.num*y.num) ((x.den:Int)*(y.den:Int))=x*y:=by
 rw [Rat.mul_def',← Int.natCast_mul];rfl
theorem rat_div_eq (x y:Rat):Rat.divInt (x.num*(y.den:Int)) ((x.den:Int)*y.num)=x / y:=by
 rw [Rat.div_def,Rat.inv_def,← Rat.divInt_mul_divInt,Rat.num_divInt_den]
set_option maxRecDepth 100000 in
set_option maxHeartbeats 4000000 in
theorem ratMul_any (x y:Rat) (w:World) (hx:RS 13000 x) (hy:RS 13000 y) (ht:Pow10 w) :
  Calls Tryz.prog 163 #[ratV x,ratV y] w fun e w'=>e=.returned (ratV (x*y))∧Ext w w':=by
 have HT:=Lib.hid ht
 clear ht
 obtain ⟨W1,hW1,hE1,hs1,hb1⟩:=box2 w (.string (intB x.num)) (.string (numB x.den)) 152
 obtain ⟨W2,hW2,hE2,hs2,hb2⟩:=box2 W1 (.string (intB y.num)) (.string (numB y.den)) 152
 obtain ⟨W3,hW3,hE3,hs3,hb3⟩:=box2 W2 (.string ⟨#[]⟩) (.string ⟨#[]⟩) 152
 have hb1':=block_ext hb1 (hE2.trans hE3)
 have hb2':=block_ext hb2 hE3
 have HE:=Lib.hid ((hE1.trans hE2).trans hE3)
 have HR:Hid (w.heap.size≤W2.heap.size):=by unfold Hid;omega
 have HN1:Hid (w.heap.size≠W2.heap.size):=by unfold Hid;omega
 have HN2:Hid (W1.heap.size≠W2.heap.size):=by unfold Hid;omega
 have HC:Hid (∀ W,Ext W3 W→W.cell? ⟨w.heap.size,0,none⟩=some (.string (intB x.num))∧W.cell? ⟨w.heap.size,1,none⟩=some (.string (numB x.den))∧W.cell? ⟨W1.heap.size,0,none⟩=some (.string (intB y.num))∧W.cell? ⟨W1.heap.size,1,none⟩=some (.string (numB y.den))∧W.cell? ⟨W2.heap.size,0,none⟩=some (.string ⟨#[]⟩)∧W.cell? ⟨W2.heap.size,1,none⟩=some (.string ⟨#[]⟩)∧W.frozen? ⟨W2.heap.size,0,none⟩=false∧W.frozen? ⟨W2.heap.size,1,none⟩=false∧W.heap[W2.heap.size]?=some (.cells #[.string ⟨#[]⟩,.string ⟨#[]⟩] 152 (0,0))):=fun W hW=>by
  obtain ⟨a0,a1,-⟩:=block2_cell (block_ext hb1' hW)
  obtain ⟨b0,b1,-⟩:=block2_cell (block_ext hb2' hW)
  obtain ⟨c0,c1,cf⟩:=block2_cell (block_ext hb3 hW)
  exact ⟨a0,a1,b0,b1,c0,c1,cf 0,cf 1,block_ext hb3 hW⟩
 have HB1:Hid (∀ W,Calls Tryz.prog 198 #[ratV x] W fun e w'=>∃ a b,e=.returned (.tuple #[.int .i64 a,.int .i64 b,.bool (decide ((intB x.num).size≤9) && decide ((numB x.den).size≤9))])∧Hid ((intB x.num).size≤9∧(numB x.den).size≤9→a=x.num∧b=x.den)∧Ext W w'):=fun W=>fboth_any x W
 have HB2:Hid (∀ W,Calls Tryz.prog 198 #[ratV y] W fun e w'=>∃ a b,e=.returned (.tuple #[.int .i64 a,.int .i64 b,.bool (decide ((intB y.num).size≤9) && decide ((numB y.den).size≤9))])∧Hid ((intB y.num).size≤9∧(numB y.den).size≤9→a=y.num∧b=y.den)∧Ext W w'):=fun W=>fboth_any y W
 obtain ⟨bx,hbx⟩:∃ b,b=(decide ((intB x.num).size≤9) && decide ((numB x.den).size≤9)):=⟨_,rfl⟩
 obtain ⟨by',hby⟩:∃ b,b=(decide ((intB y.num).size≤9) && decide ((numB y.den).size≤9)):=⟨_,rfl⟩
 rw [← hbx] at HB1
 rw [← hby] at HB2
 have HBX:Hid (bx=true→(intB x.num).size≤9∧(numB x.den).size≤9):=by
  intro h;rw [hbx,Bool.and_eq_true,decide_eq_true_iff,decide_eq_true_iff] at h;exact h
 have HBY:Hid (by'=true→(intB y.num).size≤9∧(numB y.den).size≤9):=by
  intro h;rw [hby,Bool.and_eq_true,decide_eq_true_iff,decide_eq_true_iff] at h;exact h
 have hM1:∀ W,Ext w W→Calls Tryz.prog 63 #[.string (intB x.num),.string (intB y.num)] W fun e w'=>e=.returned (.string (intB (x.num*y.num)))∧Ext W w':=fun W hW=>mulI_any _ _ W (by have:=hx.1;omega) (by have:=hy.1;omega) (HT.out.ext hW)
 have hM2:∀ W,Ext w W→Calls Tryz.prog 63 #[.string (numB x.den),.string (numB y.den)] W fun e w'=>e=.returned (.string (intB ((x.den:Int)*(y.den:Int))))∧Ext W w':=fun W hW=>by
  have:=mulI_any (x.den:Int) (y.den:Int) W (by rw [eb];have:=hx.2;omega) (by rw [eb];have:=hy.2;omega) (HT.out.ext hW)
  rw [eb,eb] at this
  exact this
 have hL:∀ W,Ext w W→Calls Tryz.prog 200 #[.string (intB (x.num*y.num)),.string (intB ((x.den:Int)*(y.den:Int)))] W fun e w'=>e=.returned (ratV (x*y))∧Ext W w':=fun W hW=>by
  rw [← rat_mul_eq]
  have h1:=int_mul_size x.num y.num
  have h2:=int_mul_size (x.den:Int) (y.den:Int)
  rw [eb x.den,eb y.den] at h2
  have h3:=hx.1;have h4:=hx.2;have h5:=hy.1;have h6:=hy.2
  exact lowest_any _ _ W (by rw [← Int.natCast_mul];have:=Nat.mul_ne_zero x.den_nz y.den_nz;omega) (by omega) (by omega) (HT.out.ext hW)
 have HM1:=Lib.hid hM1;have HM2:=Lib.hid hM2;have HL:=Lib.hid hL
 have HOF:Hid ((intB x.num).size≤9∧(numB x.den).size≤9→(intB y.num).size≤9∧(numB y.den).size≤9→∃ (p:Int) (q:Int),x.num*y.num=p∧(x.den:Int)*(y.den:Int)=q∧-1000000000000000000≤p∧p≤1000000000000000000∧-1000000000000000000≤q∧q≤1000000000000000000∧∀ W,Ext w W→Calls Tryz.prog 199 #[.int .i64 p,.int .i64 q] W fun e w'=>e=.returned (ratV (x*y))∧Ext W w'):=by
  intro h1 h2
  have a1:=int9 h1.1
  have a2:=int9 (n:=(x.den:Int)) (by rw [eb];exact h1.2)
  have a3:=int9 h2.1
  have a4:=int9 (n:=(y.den:Int)) (by rw [eb];exact h2.2)
  have m1:=mul_bd a1.1 a1.2 a3.1 a3.2 (by omega) (by omega)
  have m2:=mul_bd a2.1 a2.2 a4.1 a4.2 (by omega) (by omega)
  refine ⟨_,_,rfl,rfl,by omega,by omega,by omega,by omega,fun W hW=>?_⟩
  have hdp:0<x.den*y.den:=Nat.mul_pos x.den_pos y.den_pos
  rw [← Int.natCast_mul] at m2 ⊢
  have:=fof_any (x.num*y.num) (x.den*y.den) W (by omega) (by omega) hdp (by omega) (HT.out.ext hW)
  rw [Rat.mul_def']
  exact this
 have heta:∀ q:Rat,ratV q=.agg #[.string (intB q.num),.string (numB q.den)]:=fun _=>rfl
 have HV:Hid (∀ q:Rat,ratV q=.agg #[.string (intB q.num),.string (numB q.den)]):=heta
 obtain ⟨Z,hZ⟩:∃ Z,Z=x*y:=⟨_,rfl⟩
 rw [← hZ] at HL HOF ⊢
 rw [heta x] at HB1 ⊢
 rw [heta y] at HB2 ⊢
 rw [heta Z] at HL HOF ⊢
 clear hE1 hE2 hE3 hs1 hs2 hs3 hb1 hb2 hb3 hb1' hb2' hbx hby hM1 hM2 hL heta hZ hx hy HV
 obtain ⟨n1,hn1⟩:∃ n,n=intB x.num:=⟨_,rfl⟩
 obtain ⟨d1,hd1⟩:∃ n,n=numB x.den:=⟨_,rfl⟩
 obtain ⟨n2,hn2⟩:∃ n,n=intB y.num:=⟨_,rfl⟩
 obtain ⟨d2,hd2⟩:∃ n,n=numB y.den:=⟨_,rfl⟩
 obtain ⟨n3,hn3⟩:∃ n,n=intB (x.num*y.num):=⟨_,rfl⟩
 obtain ⟨d3,hd3⟩:∃ n,n=intB ((x.den:Int)*(y.den:Int)):=⟨_,rfl⟩
 obtain ⟨n4,hn4⟩:∃ n,n=intB Z.num:=⟨_,rfl⟩
 obtain ⟨d4,hd4⟩:∃ n,n=numB Z.den:=⟨_,rfl⟩
 rw [← hn1,← hn2,← hn3] at HM1
 rw [← hd1,← hd2,← hd3] at HM2
 rw [← hn3,← hd3,← hn4,← hd4] at HL
 rw [← hn4,← hd4] at HOF ⊢
 rw [← hn1,← hd1,← hn2,← hd2] at HC ⊢
 rw [← hn1,← hd1] at hW1
 rw [← hn2,← hd2] at hW2
 rw [← hn1,← hd1] at HB1 HBX HOF
 rw [← hn2,← hd2] at HB2 HBY HOF
 clear hn1 hd1 hn2 hd2 hn3 hd3 hn4 hd4
 obtain ⟨c0,c1,c2,c3,c4,c5,c6,c7,-⟩:=HC.out W3 (Ext.refl _)
 go_enter Tryz.func163,Tryz.ntmps163
 go_wp2_with fail
 refine (HB1.out _).mono ?_
 rintro e w4 ⟨a,b,rfl,hab,hE4⟩
 have HAB:=hab
 have HE4:=Lib.hid hE4
 obtain ⟨d0,d1',d2',d3,d4',d5,d6,d7,-⟩:=HC.out _ hE4
 clear hab hE4 HB1 c0 c1 c2 c3 c4 c5 c6 c7
 cases bx
 ·clear HB2 HOF HAB d0 d1' d2' d3 d4' d5 d6 d7
  go_wp2_with fail
  have HX3:=Lib.hid (Ext.trans (Ext.trans HE.out HE4.out) (Ext.drew _))
  obtain ⟨y1,y2,y3,y4,-,-,-,-,yb⟩:=HC.out _ (Ext.trans HE4.out (Ext.drew _))
  have HB3:Hid (BlkR W2.heap.size (w4).drew):=⟨_,_,yb⟩
  clear yb
  go_region_held3 (fun w'=>w'.cell? ⟨w.heap.size,0,none⟩=some (.string n1)∧w'.cell? ⟨w.heap.size,1,none⟩=some (.string d1)∧w'.cell? ⟨W1.heap.size,0,none⟩=some (.string n2)∧w'.cell? ⟨W1.heap.size,1,none⟩=some (.string d2)∧Hid (Ext w w')∧Hid (BlkR W2.heap.size w'))
   (first | exact ⟨z1,z2,z3,z4,z5,z6⟩ | exact ⟨cell_set2 HN1.out z1,cell_set2 HN1.out z2,cell_set2 HN2.out z3,cell_set2 HN2.out z4,Lib.hid (ext_set2 z5.out HR.out),Lib.hid z6.out.set2⟩ | exact ⟨y1,y2,y3,y4,HX3,HB3⟩ | go_keep)
   (first
    | (go_at_call 63;have hc:=HM1.out _ (Hid.out (p:=Ext w _) (by assumption));with_reducible refine hc.mono ?_;clear hc;rintro e w6 ⟨rfl,hE6⟩;have q1:=hE6.cell (a:=⟨w.heap.size,0,none⟩) (v:=.string n1) (by assumption);have q2:=hE6.cell (a:=⟨w.heap.size,1,none⟩) (v:=.string d1) (by assumption);have q3:=hE6.cell (a:=⟨W1.heap.size,0,none⟩) (v:=.string n2) (by assumption);have q4:=hE6.cell (a:=⟨W1.heap.size,1,none⟩) (v:=.string d2) (by assumption);have q5:=Lib.hid (Ext.trans (Hid.out (p:=Ext w _) (by assumption)) hE6);have q6:=Lib.hid (BlkR.ext (Hid.out (p:=BlkR W2.heap.size _) (by assumption)) hE6);(try clear z1 z2 z3 z4 z5 z6 t0 t1 f0 f1);have z1:=q1;have z2:=q2;have z3:=q3;have z4:=q4;have z5:=q5;have z6:=q6;obtain ⟨r0,r1,t0,t1,f0,f1⟩:=z6.out.open;clear hE6 q1 q2 q3 q4 q5 q6)
    | (go_at_call 63;have hc:=HM2.out _ (Hid.out (p:=Ext w _) (by assumption));with_reducible refine hc.mono ?_;clear hc;rintro e w6 ⟨rfl,hE6⟩;have q1:=hE6.cell (a:=⟨w.heap.size,0,none⟩) (v:=.string n1) (by assumption);have q2:=hE6.cell (a:=⟨w.heap.size,1,none⟩) (v:=.string d1) (by assumption);have q3:=hE6.cell (a:=⟨W1.heap.size,0,none⟩) (v:=.string n2) (by assumption);have q4:=hE6.cell (a:=⟨W1.heap.size,1,none⟩) (v:=.string d2) (by assumption);have q5:=Lib.hid (Ext.trans (Hid.out (p:=Ext w _) (by assumption)) hE6);have q6:=Lib.hid (BlkR.ext (Hid.out (p:=BlkR W2.heap.size _) (by assumption)) hE6);(try clear z1 z2 z3 z4 z5 z6 t0 t1 f0 f1);have z1:=q1;have z2:=q2;have z3:=q3;have z4:=q4;have z5:=q5;have z6:=q6;obtain ⟨r0,r1,t0,t1,f0,f1⟩:=z6.out.open;clear hE6 q1 q2 q3 q4 q5 q6)
    | (go_at_call 200;have hc:=HL.out _ (Hid.out (p:=Ext w _) (by assumption));with_reducible refine hc.mono ?_;clear hc;rintro e w6 ⟨rfl,hE6⟩;have q1:=hE6.cell (a:=⟨w.heap.size,0,none⟩) (v:=.string n1) (by assumption);have q2:=hE6.cell (a:=⟨w.heap.size,1,none⟩) (v:=.string d1) (by assumption);have q3:=hE6.cell (a:=⟨W1.heap.size,0,none⟩) (v:=.string n2) (by assumption);have q4:=hE6.cell (a:=⟨W1.heap.size,1,none⟩) (v:=.string d2) (by assumption);have q5:=Lib.hid (Ext.trans (Hid.out (p:=Ext w _) (by assumption)) hE6);have q6:=Lib.hid (BlkR.ext (Hid.out (p:=BlkR W2.heap.size _) (by assumption)) hE6);(try clear z1 z2 z3 z4 z5 z6 t0 t1 f0 f1);have z1:=q1;have z2:=q2;have z3:=q3;have z4:=q4;have z5:=q5;have z6:=q6;obtain ⟨r0,r1,t0,t1,f0,f1⟩:=z6.out.open;clear hE6 q1 q2 q3 q4 q5 q6))
  all_goals
   have hb7:=BlkR.res (x:=.string n4) (y:=.string d4) z6.out
   go_wp2_with fail
   refine bodyPost_ret (results_cell_row (by rfl) _ _ W2.heap.size 152 #[.string n4,.string d4] (0,0) _ (by rfl) hb7 Tryz.underlying152 (by rfl) (by kernel_rfl)) (by rfl) ⟨rfl,?_⟩
   exact ext_set2 z5.out HR.out
 ·go_wp2_with fail
  refine (HB2.out _).mono ?_
  rintro e w5 ⟨c,d,rfl,hcd,hE5⟩
  have HCD:=hcd
  have HE5:=Lib.hid (Ext.trans HE4.out hE5)
  clear hcd hE5 HB2 d0 d1' d2' d3 d4' d5 d6 d7
  cases by'
  ·clear HOF HAB HCD
   go_wp2_with fail
   have HX3:=Lib.hid (Ext.trans (Ext.trans HE.out HE5.out) (Ext.drew _))
   obtain ⟨y1,y2,y3,y4,-,-,-,-,yb⟩:=HC.out _ (Ext.trans HE5.out (Ext.drew _))
   have HB3:Hid (BlkR W2.heap.size (w5).drew):=⟨_,_,yb⟩
   clear yb
   go_region_held3 (fun w'=>w'.cell? ⟨w.heap.size,0,none⟩=some (.string n1)∧w'.cell? ⟨w.heap.size,1,none⟩=some (.string d1)∧w'.cell? ⟨W1.heap.size,0,none⟩=some (.string n2)∧w'.cell? ⟨W1.heap.size,1,none⟩=some (.string d2)∧Hid (Ext w w')∧Hid (BlkR W2.heap.size w'))
    (first | exact ⟨z1,z2,z3,z4,z5,z6⟩ | exact ⟨cell_set2 HN1.out z1,cell_set2 HN1.out z2,cell_set2 HN2.out z3,cell_set2 HN2.out z4,Lib.hid (ext_set2 z5.out HR.out),Lib.hid z6.out.set2⟩ | exact ⟨y1,y2,y3,y4,HX3,HB3⟩ | go_keep)
    (first
     | (go_at_call 63;have hc:=HM1.out _ (Hid.out (p:=Ext w _) (by assumption));with_reducible refine hc.mono ?_;clear hc;rintro e w6 ⟨rfl,hE6⟩;have q1:=hE6.cell (a:=⟨w.heap.size,0,none⟩) (v:=.string n1) (by assumption);have q2:=hE6.cell (a:=⟨w.heap.size,1,none⟩) (v:=.string d1) (by assumption);have q3:=hE6.cell (a:=⟨W1.heap.size,0,none⟩) (v:=.string n2) (by assumption);have q4:=hE6.cell (a:=⟨W1.heap.size,1,none⟩) (v:=.string d2) (by assumption);have q5:=Lib.hid (Ext.trans (Hid.out (p:=Ext w _) (by assumption)) hE6);have q6:=Lib.hid (BlkR.ext (Hid.out (p:=BlkR W2.heap.size _) (by assumption)) hE6);(try clear z1 z2 z3 z4 z5 z6 t0 t1 f0 f1);have z1:=q1;have z2:=q2;have z3:=q3;have z4:=q4;have z5:=q5;have z6:=q6;obtain ⟨r0,r1,t0,t1,f0,f1⟩:=z6.out.open;clear hE6 q1 q2 q3 q4 q5 q6)
     | (go_at_call 63;have hc:=HM2.out _ (Hid.out (p:=Ext w _) (by assumption));with_reducible refine hc.mono ?_;clear hc;rintro e w6 ⟨rfl,hE6⟩;have q1:=hE6.cell (a:=⟨w.heap.size,0,none⟩) (v:=.string n1) (by assumption);have q2:=hE6.cell (a:=⟨w.heap.size,1,none⟩) (v:=.string d1) (by assumption);have q3:=hE6.cell (a:=⟨W1.heap.size,0,none⟩) (v:=.string n2) (by assumption);have q4:=hE6.cell (a:=⟨W1.heap.size,1,none⟩) (v:=.string d2) (by assumption);have q5:=Lib.hid (Ext.trans (Hid.out (p:=Ext w _) (by assumption)) hE6);have q6:=Lib.hid (BlkR.ext (Hid.out (p:=BlkR W2.heap.size _) (by assumption)) hE6);(try clear z1 z2 z3 z4 z5 z6 t0 t1 f0 f1);have z1:=q1;have z2:=q2;have z3:=q3;have z4:=q4;have z5:=q5;have z6:=q6;obtain ⟨r0,r1,t0,t1,f0,f1⟩:=z6.out.open;clear hE6 q1 q2 q3 q4 q5 q6)
     | (go_at_call 200;have hc:=HL.out _ (Hid.out (p:=Ext w _) (by assumption));with_reducible refine hc.mono ?_;clear hc;rintro e w6 ⟨rfl,hE6⟩;have q1:=hE6.cell (a:=⟨w.heap.size,0,none⟩) (v:=.string n1) (by assumption);have q2:=hE6.cell (a:=⟨w.heap.size,1,none⟩) (v:=.string d1) (by assumption);have q3:=hE6.cell (a:=⟨W1.heap.size,0,none⟩) (v:=.string n2) (by assumption);have q4:=hE6.cell (a:=⟨W1.heap.size,1,none⟩) (v:=.string d2) (by assumption);have q5:=Lib.hid (Ext.trans (Hid.out (p:=Ext w _) (by assumption)) hE6);have q6:=Lib.hid (BlkR.ext (Hid.out (p:=BlkR W2.heap.size _) (by assumption)) hE6);(try clear z1 z2 z3 z4 z5 z6 t0 t1 f0 f1);have z1:=q1;have z2:=q2;have z3:=q3;have z4:=q4;have z5:=q5;have z6:=q6;obtain ⟨r0,r1,t0,t1,f0,f1⟩:=z6.out.open;clear hE6 q1 q2 q3 q4 q5 q6))
   all_goals
    have hb7:=BlkR.res (x:=.string n4) (y:=.string d4) z6.out
    go_wp2_with fail
    refine bodyPost_ret (results_cell_row (by rfl) _ _ W2.heap.size 152 #[.string n4,.string d4] (0,0) _ (by rfl) hb7 Tryz.underlying152 (by rfl) (by kernel_rfl)) (by rfl) ⟨rfl,?_⟩
    exact ext_set2 z5.out HR.out
  ·obtain ⟨ha,hb⟩:=HAB.out (HBX.out (by first | rfl | trivial))
   obtain ⟨hc,hd⟩:=HCD.out (HBY.out (by first | rfl | trivial))
   obtain ⟨p,q,hp,hq,p1,p2,q1,q2,hof⟩:=HOF.out (HBX.out (by first | rfl | trivial)) (HBY.out (by first | rfl | trivial))
   have HO:=Lib.hid hof
   have hp':a*c=p:=by rw [ha,hc];exact hp
   have hq':b*d=q:=by rw [hb,hd];exact hq
   clear ha hb hc hd hp hq hof HAB HCD HOF HM1 HM2 HL
   go_wp2_with fail
   refine (HO.out _ (HE.out.trans HE5.out)).mono ?_
   rintro e w6 ⟨rfl,hE6⟩
   have HE6:=Lib.hid (Ext.trans HE5.out hE6)
   obtain ⟨-,-,-,-,-,-,-,-,yb⟩:=HC.out _ HE6.out
   have z6:Hid (BlkR W2.heap.size w6):=⟨_,_,yb⟩
   obtain ⟨r0,r1,t0,t1,f0,f1⟩:=z6.out.open
   clear hE6 HO yb
   have hb7:=BlkR.res (x:=.string n4) (y:=.string d4) z6.out
   go_wp2_with fail
   refine bodyPost_ret (results_cell_row (by rfl) _ _ W2.heap.size 152 #[.string n4,.string d4] (0,0) _ (by rfl) hb7 Tryz.underlying152 (by rfl) (by kernel_rfl)) (by rfl) ⟨rfl,?_⟩
   exact ext_set2 (HE.out.trans HE6.out) HR.out
end Go.Proofs.YtjlkkofmojgipaaGreatDoor
