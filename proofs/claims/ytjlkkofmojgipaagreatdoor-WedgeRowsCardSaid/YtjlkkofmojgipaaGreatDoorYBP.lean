import Derived.Test.YtjlkkofmojgipaaGreatDoorYBO
import Derived.Test.YtjlkkofmojgipaaGreatDoorYBN
import Derived.Test.YtjlkkofmojgipaaGreatDoorYAR
import Derived.Test.YtjlkkofmojgipaaGreatDoorYAO
import Derived.Test.YtjlkkofmojgipaaGreatDoorYAP
namespace Go.Proofs.YtjlkkofmojgipaaGreatDoor
set_option linter.unusedVariables false
set_option linter.unusedSimpArgs false
open Go.RowKit
theorem sdJ_nat (u:Nat):sdJ (u:Int)=1:=if_neg (by omega)
theorem sdJ_neg {u:Nat} (h:u≠0):sdJ (-(u:Int))=-1:=if_pos (by omega)
theorem tdiv_sg (x y:Int):sgJ (sdJ x != sdJ y) (x.natAbs / y.natAbs)=x.tdiv y:=by
 obtain ⟨u,rfl | rfl⟩:=x.eq_nat_or_neg <;> obtain ⟨v,rfl | rfl⟩:=y.eq_nat_or_neg
 ·rw [sdJ_nat,sdJ_nat,Int.natAbs_natCast,Int.natAbs_natCast,← Int.ofNat_tdiv];rfl
 ·rw [Int.natAbs_neg,Int.natAbs_natCast,Int.natAbs_natCast,Int.tdiv_neg,← Int.ofNat_tdiv]
  by_cases hv:v=0
  ·subst hv;simp [sgJ]
  ·rw [sdJ_nat,sdJ_neg hv];rfl
 ·rw [Int.natAbs_neg,Int.natAbs_natCast,Int.natAbs_natCast,Int.neg_tdiv,← Int.ofNat_tdiv]
  by_cases hu:u=0
  ·subst hu;simp [sgJ]
  ·rw [sdJ_nat,sdJ_neg hu];rfl
 ·rw [Int.natAbs_neg,Int.natAbs_neg,Int.natAbs_natCast,Int.natAbs_natCast,Int.neg_tdiv_neg,← Int.ofNat_tdiv]
  by_cases hu:u=0
  ·subst hu;simp [sgJ]
  ·by_cases hv:v=0
   ·subst hv;simp [sgJ]
   ·rw [sdJ_neg hu,sdJ_neg hv];rfl
theorem tmod_sg (x y:Int):sgJ (decide (sdJ x<0)) (x.natAbs%y.natAbs)=x.tmod y:=by
 have hy:x.tmod y=x.tmod (y.natAbs:Int):=by
  rcases Int.natAbs_eq y with h | h
  ·rw [← h]
  ·rw [h,Int.tmod_neg,Int.natAbs_neg,Int.natAbs_natCast]
 rw [hy]
 generalize y.natAbs=v
 obtain ⟨u,rfl | rfl⟩:=x.eq_nat_or_neg <;> unfold sgJ sdJ
 ·rw [if_neg (show ¬ (u:Int)<0 by omega),if_neg (by decide),Int.natAbs_natCast,← Int.ofNat_tmod]
 ·rw [Int.natAbs_neg,Int.natAbs_natCast,Int.neg_tmod,← Int.ofNat_tmod]
  by_cases hu:u=0
  ·subst hu;simp
  ·rw [if_pos (show -(u:Int)<0 by omega),if_pos (by decide)]
theorem fd_sg (x y:Int) (h0:y≠0):(x.tmod y≠0∧sdJ x≠sdJ y→fdq x y=x.tdiv y-1∧fdr x y=x.tmod y+y)∧(¬ (x.tmod y≠0∧sdJ x≠sdJ y)→fdq x y=x.tdiv y∧fdr x y=x.tmod y):=by
 have key:x.tmod y≠0→((decide (x.tmod y<0)≠decide (y<0))↔sdJ x≠sdJ y):=by
  intro hr
  have hs:=tmod_sg x y
  unfold sgJ sdJ at hs
  unfold sdJ
  by_cases h1:x<0
  ·rw [if_pos h1,if_pos (by decide)] at hs
   have h3:x.tmod y<0:=by omega
   by_cases h2:y<0 <;> simp [h1,h2,h3]
  ·rw [if_neg h1,if_neg (by decide)] at hs
   have h3:¬ x.tmod y<0:=by omega
   by_cases h2:y<0 <;> simp [h1,h2,h3]
 unfold fdq fdr
 constructor
 ·rintro ⟨h1,h2⟩
  have:=(key h1).2 h2
  rw [if_pos ⟨h1,this⟩,if_pos ⟨h1,this⟩]
  exact ⟨rfl,rfl⟩
 ·intro h
  have:¬ (x.tmod y≠0∧decide (x.tmod y<0)≠decide (y<0)):=fun ⟨h1,h2⟩=>h ⟨h1,(key h1).1 h2⟩
  rw [if_neg this,if_neg this]
  exact ⟨rfl,rfl⟩
theorem int_size_mono {x y:Int} (h:x.natAbs≤y.natAbs):(intB x).size≤(intB y).size+1:=by
 have h1:=intB_size_le x
 have h2:=num_le_mono h
 have h3:=nat_size_le y
 omega
set_option maxRecDepth 100000 in
set_option maxHeartbeats 4000000 in
theorem rDivModG_any (x y:Int) (w:World) (hx:(intB x).size≤13000) (hy:(intB y).size≤13000) (h0:y≠0) (ht:Pow10 w) :
  Calls Tryz.prog 87 #[.string (intB x),.string (intB y)] w fun e w'=>e=.returned (.tuple #[.string (intB (fdq x y)),.string (intB (fdr x y))])∧Ext w w':=by
 by_cases hsm:x.natAbs<1000000000000000000∧y.natAbs<1000000000000000000
 ·exact rDivMod18 x y w (by omega) (by omega) h0 ht
 have HT:=Lib.hid ht
 have hux:=nat_size_le x
 have huy:=nat_size_le y
 have H1:=Lib.hid (rQuickG_any x w (by omega))
 have H2:Hid (∀ W,Calls Tryz.prog 126 #[.string (intB y)] W fun e w'=>e=.returned (.tuple #[.int .i64 (qkV y),.bool (qkB y)])∧Ext W w'):=fun W=>rQuickG_any y W (by omega)
 have hbb:qkB x=false∨(qkB x=true∧qkB y=false):=by
  unfold qkB
  by_cases h1:x.natAbs<1000000000000000000
  ·exact .inr ⟨decide_eq_true h1,decide_eq_false (fun h2=>hsm ⟨h1,h2⟩)⟩
  ·exact .inl (decide_eq_false h1)
 obtain ⟨vx,hvx⟩:∃ v,v=qkV x:=⟨_,rfl⟩
 obtain ⟨vy,hvy⟩:∃ v,v=qkV y:=⟨_,rfl⟩
 rw [← hvx] at H1
 rw [← hvy] at H2
 have HDX:Hid (∀ W,Calls Tryz.prog 115 #[.string (intB x)] W fun e w'=>e=.returned (.string (numB x.natAbs))∧W=w'):=fun W=>rDigits_any x W
 have HDY:Hid (∀ W,Calls Tryz.prog 115 #[.string (intB y)] W fun e w'=>e=.returned (.string (numB y.natAbs))∧W=w'):=fun W=>rDigits_any y W
 obtain ⟨s1,hs1⟩:∃ s,s=sdJ x:=⟨_,rfl⟩
 obtain ⟨s2,hs2⟩:∃ s,s=sdJ y:=⟨_,rfl⟩
 have HSX:Hid (∀ W,Calls Tryz.prog 128 #[.string (intB x)] W fun e w'=>e=.returned (.int .i64 s1)∧W=w'):=fun W=>by rw [hs1];exact rSide_any x W
 have HSY:Hid (∀ W,Calls Tryz.prog 128 #[.string (intB y)] W fun e w'=>e=.returned (.int .i64 s2)∧W=w'):=fun W=>by rw [hs2];exact rSide_any y W
 have HQ:Hid (sgJ (s1 != s2) (x.natAbs / y.natAbs)=x.tdiv y):=by unfold Hid;rw [hs1,hs2];exact tdiv_sg x y
 have HR:Hid (sgJ (decide (s1<0)) (x.natAbs%y.natAbs)=x.tmod y):=by unfold Hid;rw [hs1];exact tmod_sg x y
 obtain ⟨hf1,hf2⟩:=fd_sg x y h0
 rw [← hs1,← hs2] at hf1 hf2
 have hqs:(intB (x.tdiv y)).size≤13001:=by
  have:=int_size_mono (tdiv_le x y)
  omega
 have hrs:(intB (x.tmod y)).size≤13001:=by
  have h1:=tmod_lt x y h0
  have:=int_size_mono (show (x.tmod y).natAbs≤y.natAbs by omega)
  omega
 have HZ:=Lib.hid (int_zero (x.tmod y))
 obtain ⟨tq,htq⟩:∃ t,t=x.tdiv y:=⟨_,rfl⟩
 obtain ⟨tr,htr⟩:∃ t,t=x.tmod y:=⟨_,rfl⟩
 rw [← htq] at HQ hf1 hf2 hqs
 rw [← htr] at HR hf1 hf2 hrs HZ
 have HF1:=Lib.hid hf1;have HF2:=Lib.hid hf2
 have HSUB:Hid (∀ W,Ext w W→Calls Tryz.prog 144 #[.string (intB tq),.string ⟨#[49]⟩] W fun e w'=>e=.returned (.string (intB (tq-1)))∧Ext W w'):=fun W hW=>by
  have:=rSub_any tq 1 W (by omega) (by decide +kernel) (HT.out.ext hW)
  rw [show intB 1=⟨#[49]⟩ by decide +kernel] at this
  exact this
 have HADD:Hid (∀ W,Ext w W→Calls Tryz.prog 73 #[.string (intB tr),.string (intB y)] W fun e w'=>e=.returned (.string (intB (tr+y)))∧Ext W w'):=fun W hW=>rAdd_any tr y W (by omega) (by omega) (HT.out.ext hW)
 have hy0:0<y.natAbs:=by omega
 clear hsm ht hvx hvy hs1 hs2 htq htr hf1 hf2 h0
 rcases hbb with hb | ⟨hb,hb2⟩
 case' inl =>
  rw [hb] at H1
  obtain ⟨by',hby⟩:∃ b,b=qkB y:=⟨_,rfl⟩
  rw [← hby] at H2
  clear hb hby
 case' inr =>
  rw [hb] at H1
  rw [hb2] at H2
  clear hb hb2
 all_goals
  go_enter Tryz.func87,Tryz.ntmps87
  go_wp2_with fail
  refine H1.out.mono ?_
  rintro e w1 ⟨rfl,hE1⟩
  have HE1:=Lib.hid hE1
  clear hE1 H1
  go_wp2_with fail
  refine (H2.out _).mono ?_
  rintro e w2 ⟨rfl,hE2⟩
  have HE2:=Lib.hid (Ext.trans HE1.out hE2)
  clear hE2 H2
  go_wp2_with fail
  refine (HDX.out _).mono ?_
  rintro e w3 ⟨rfl,rfl⟩
  go_wp2_with fail
  refine (rSplitI_any _ _ (by omega)).mono ?_
  rintro e w3 ⟨r3,l3,rfl,hr3,hE3⟩
  have HR3:=Lib.hid hr3
  have HE3:=Lib.hid (Ext.trans HE2.out hE3)
  clear hr3 hE3
  go_wp2_with fail
  refine (HDY.out _).mono ?_
  rintro e w4 ⟨rfl,rfl⟩
  go_wp2_with fail
  refine (rSplitI_any _ _ (by omega)).mono ?_
  rintro e w4 ⟨r4,l4,rfl,hr4,hE4⟩
  have HR4:=Lib.hid hr4
  have HE4:=Lib.hid (Ext.trans HE3.out hE4)
  have HA3:=Lib.hid ((HR3.out.out.1.at).ext hE4)
  have hl3:l3.length≤15000:=by have:=HR3.out.out.2.2.2;omega
  have hl4:l4.length≤15000:=by have:=HR4.out.out.2.2.2;omega
  clear hr4 hE4
  go_wp2_with fail
  refine (rDivide_any l3 l4 _ _ _ HA3.out HR4.out.out.1.at HR3.out.out.2.1.1 HR4.out.out.2.1 (by rw [HR4.out.out.2.2.1];exact hy0) (by omega) (by omega)).mono ?_
  rintro e w5 ⟨r5,r6,l5,l6,rfl,hr5,hE5⟩
  have HR5:=Lib.hid hr5.out
  have HE5:=Lib.hid (Ext.trans HE4.out hE5)
  clear hr5 hE5
  go_wp2_with fail
  refine (HSX.out _).mono ?_
  rintro e w6 ⟨rfl,rfl⟩
  go_wp2_with fail
  refine (HSY.out _).mono ?_
  rintro e w6 ⟨rfl,rfl⟩
  obtain ⟨q1,q2,q3,q4,q5,q6,q7,q8⟩:=HR5.out
  have HSG:=Lib.hid (rSigned_any _ (s1 != s2) l5 r5 w5 q1 q2.1 (by omega) (HT.out.ext HE5.out))
  rw [q3,HR3.out.out.2.2.1,HR4.out.out.2.2.1,HQ.out] at HSG
  have HSG2:Hid (∀ W,Ext w5 W→Calls Tryz.prog 127 #[.bool (decide (s1<0)),r6] W fun e w'=>e=.returned (.string (intB tr))∧Ext W w'):=fun W hW=>by
   have:=rSigned_any w4.heap.size (decide (s1<0)) l6 r6 W (owns_ext q5 hW) q6.1 (by omega) (HT.out.ext (HE5.out.trans hW))
   rw [q7,HR3.out.out.2.2.1,HR4.out.out.2.2.1,HR.out] at this
   exact this
  clear q1 q2 q3 q4 q5 q6 q7 q8
  go_wp2_with fail
  refine HSG.out.mono ?_
  rintro e w6 ⟨rfl,hE6⟩
  have HE6:=Lib.hid hE6
  clear hE6
  go_wp2_with fail
  refine (HSX.out _).mono ?_
  rintro e w7 ⟨rfl,rfl⟩
  go_wp2_with fail
  refine (HSG2.out _ HE6.out).mono ?_
  rintro e w7 ⟨rfl,hE7⟩
  have HE7:=Lib.hid (Ext.trans HE5.out (Ext.trans HE6.out hE7))
  have hz:=HZ.out
  clear hE7
  by_cases hc:tr≠0∧s1≠s2
  ·have hz2:¬ (intB tr).toList=[48]:=fun e=>by rw [e] at hz;exact hc.1 (of_decide_eq_true hz.symm)
   have hz4:((intB tr).toList == [48])=false:=by rw [hz];exact decide_eq_false hc.1
   have hs:¬ s1=s2:=hc.2
   have hs2:(s1 != s2)=true:=by rw [bne_iff_ne];exact hc.2
   obtain ⟨g1,g2⟩:=HF1.out hc
   have HG:=Lib.hid (And.intro g1 g2)
   clear hc g1 g2 HF1 HF2 hz
   go_wp2_with fail
   refine (HSX.out _).mono ?_
   rintro e w8 ⟨rfl,rfl⟩
   go_wp2_with fail
   refine (HSY.out _).mono ?_
   rintro e w8 ⟨rfl,rfl⟩
   go_wp2_with fail
   refine (HSUB.out _ HE7.out).mono ?_
   rintro e w8 ⟨rfl,hE8⟩
   have HE8:=Lib.hid (Ext.trans HE7.out hE8)
   clear hE8
   go_wp2_with fail
   refine (HADD.out _ HE8.out).mono ?_
   rintro e w9 ⟨rfl,hE9⟩
   have HE9:=Lib.hid (Ext.trans HE8.out hE9)
   clear hE9
   go_wp2_with fail
   go_ret2
   exact ⟨by rw [HG.out.1,HG.out.2];rfl,HE9.out⟩
  ·obtain ⟨g1,g2⟩:=HF2.out hc
   have HG:=Lib.hid (And.intro g1 g2)
   by_cases h0:tr=0
   ·have hz2:(intB tr).toList=[48]:=by rw [decide_eq_true h0] at hz;exact beq_iff_eq.1 hz
    clear hc g1 g2 HF1 HF2 hz h0
    go_wp2_with fail
    go_ret2
    exact ⟨by rw [HG.out.1,HG.out.2];rfl,HE7.out⟩
   ·have hz2:¬ (intB tr).toList=[48]:=fun e=>by rw [e] at hz;exact h0 (of_decide_eq_true hz.symm)
    have hs:(s1 != s2)=false:=by
     have:s1=s2:=by
      false_or_by_contra
      rename_i h
      exact hc ⟨h0,h⟩
     rw [this];simp
    clear hc g1 g2 HF1 HF2 hz h0
    go_wp2_with fail
    refine (HSX.out _).mono ?_
    rintro e w8 ⟨rfl,rfl⟩
    go_wp2_with fail
    refine (HSY.out _).mono ?_
    rintro e w8 ⟨rfl,rfl⟩
    go_wp2_with fail
    go_ret2
    exact ⟨by rw [HG.out.1,HG.out.2];rfl,HE7.out⟩
theorem fdq_exact {d:Int} (z:Int) (hd:d≠0):fdq (d*z) d=z:=by
 unfold fdq
 rw [Int.mul_tmod_right,if_neg (by simp)]
 exact Int.mul_tdiv_cancel_left z hd
set_option maxRecDepth 100000 in
set_option maxHeartbeats 1000000 in
theorem combine_any (a x b y d z:Int) (w:World) (ha:(intB a).size≤6000) (hx:(intB x).size≤6000) (hb:(intB b).size≤6000) (hy:(intB y).size≤6000) (hd:(intB d).size≤6000) (h0:d≠0) (hz:a*x-b*y=d*z) (hzs:(intB z).size≤6000) (ht:Pow10 w) :
  Calls Tryz.prog 139 #[.string (intB a),.string (intB x),.string (intB b),.string (intB y),.string (intB d)] w fun e w'=>e=.returned (.string (intB z))∧Ext w w':=by
 have HT:=Lib.hid ht
 have s1:=int_mul_size a x
 have s2:=int_mul_size b y
 have s3:=int_mul_size d z
 have H1:=Lib.hid (rMul_any a x w (by omega) (by omega) ht)
 have H2:Hid (∀ W,Ext w W→Calls Tryz.prog 68 #[.string (intB b),.string (intB y)] W fun e w'=>e=.returned (.string (intB (b*y)))∧Ext W w'):=fun W hW=>rMul_any b y W (by omega) (by omega) (HT.out.ext hW)
 have H3:Hid (∀ W,Ext w W→Calls Tryz.prog 144 #[.string (intB (a*x)),.string (intB (b*y))] W fun e w'=>e=.returned (.string (intB (d*z)))∧Ext W w'):=fun W hW=>by
  have:=rSub_any (a*x) (b*y) W (by omega) (by omega) (HT.out.ext hW)
  rw [hz] at this
  exact this
 have H4:Hid (∀ W,Ext w W→Calls Tryz.prog 87 #[.string (intB (d*z)),.string (intB d)] W fun e w'=>∃ r,e=.returned (.tuple #[.string (intB z),.string r])∧Ext W w'):=fun W hW=>by
  have:=rDivModG_any (d*z) d W (by omega) (by omega) h0 (HT.out.ext hW)
  rw [fdq_exact z h0] at this
  exact this.mono fun _ _ ⟨g1,g2⟩=>⟨_,g1,g2⟩
 obtain ⟨p,hp⟩:∃ p,p=intB (a*x):=⟨_,rfl⟩
 obtain ⟨q,hq⟩:∃ q,q=intB (b*y):=⟨_,rfl⟩
 obtain ⟨m,hm⟩:∃ m,m=intB (d*z):=⟨_,rfl⟩
 rw [← hp] at H1 H3
 rw [← hq] at H2 H3
 rw [← hm] at H3 H4
 clear s1 s2 s3 hp hq hm hz ht ha hx hb hy hd hzs h0
 go_enter Tryz.func139,Tryz.ntmps139
 go_wp2_with fail
 refine H1.out.mono ?_
 rintro e w1 ⟨rfl,hE1⟩
 have HE1:=Lib.hid hE1
 clear hE1
 go_wp2_with fail
 refine (H2.out _ HE1.out).mono ?_
 rintro e w2 ⟨rfl,hE2⟩
 have HE2:=Lib.hid (HE1.out.trans hE2)
 clear hE2
 go_wp2_with fail
 refine (H3.out _ HE2.out).mono ?_
 rintro e w3 ⟨rfl,hE3⟩
 have HE3:=Lib.hid (HE2.out.trans hE3)
 clear hE3
 go_wp2_with fail
 refine (H4.out _ HE3.out).mono ?_
 rintro e w4 ⟨r,rfl,hE4⟩
 have HE4:=Lib.hid (HE3.out.trans hE4)
 clear hE4
 go_wp2_with fail
 go_ret
 exact ⟨rfl,HE4.out⟩
theorem fits_any (n:Int) (w:World):Calls Tryz.prog 24 #[.int .i64 n] w fun e w'=>e=.returned (.bool (fitB n))∧w=w':=by
 by_cases h:n≤1000000000
 ·by_cases h2:-1000000000≤n
  ·go_enter Tryz.func24,Tryz.ntmps24
   go_wp2
   go_ret
   exact ⟨by simp [fitB,h,h2];try omega,rfl⟩
  ·go_enter Tryz.func24,Tryz.ntmps24
   go_wp2
   go_ret
   exact ⟨by simp [fitB,h,h2];try omega,rfl⟩
 ·go_enter Tryz.func24,Tryz.ntmps24
  go_wp2
  go_ret
  exact ⟨by simp [fitB,h];try omega,rfl⟩
def mostL (xss:List (List Int)):Nat:=xss.foldl (fun m r=>max m r.length) 0
def fewP (xss:List (List Int)):Prop:=(xss.length≤4∧mostL xss≤5)∨(12≤xss.length∧xss.length≤14∧mostL xss≤2)∨(xss.length≤2∧11≤mostL xss∧mostL xss≤14)
instance (xss:List (List Int)):Decidable (fewP xss):=inferInstanceAs (Decidable (_∨_))
theorem any_drop {xs:List Int} {k:Nat} {x:Int} (f:Int→Bool) (h:xs[k]?=some x):(xs.drop k).any f=(f x || (xs.drop (k+1)).any f):=by
 rw [drop_cons h,List.any_cons]
set_option maxRecDepth 100000 in
set_option maxHeartbeats 2000000 in
theorem refCheck_any (xss : List (List Int)) (v : Value) (w : World) (h : Rows2 w v xss) :
    Calls Tryz.prog 14 #[v] w fun e w' => e = .returned (.int .i64 (tabE xss)) ∧ Ext w w' := by
  obtain ⟨a, c, rfl, h1, h2, -, hc⟩ := inCell.open h
  have HC := Lib.hid hc
  unfold maxLen at h2
  clear h hc
  by_cases hl : 12 < xss.length
  · have HT : Hid (tabE xss = 4) := by unfold Hid tabE; rw [if_pos hl]
    have hl' : (12 : Int) < (xss.length : Int) := by omega
    go_enter Tryz.func14, Tryz.ntmps14
    go_wp2_with fail
    go_ret
    exact ⟨by rw [HT.out]; rfl, Ext.refl _⟩
  · have HT : Hid (tabE xss = tabR (xss.headD []).length xss) := by unfold Hid tabE; rw [if_neg hl]
    have hl' : ¬ (12 : Int) < (xss.length : Int) := by omega
    obtain ⟨n, hn⟩ : ∃ n, n = (xss.headD []).length := ⟨_, rfl⟩
    rw [← hn] at HT
    have HN := Lib.hid hn
    clear hn
    go_enter Tryz.func14, Tryz.ntmps14
    go_wp2_with fail
    go_loopw [3] (fun t wr => ∃ j : Nat, j ≤ xss.length ∧ t = .int .i64 j ∧ Ext w wr ∧ Hid (tabE xss = tabR n (xss.drop j))) (fun t _ => xss.length - (intOf t).toNat)
    case atStart => exact ⟨0, by omega, rfl, Ext.refl _, HT.out⟩
    case round =>
      obtain ⟨j, hj, rfl, hE, HD⟩ := hrel
      obtain ⟨wo, rfl⟩ : ∃ wo : World, wo = wr := ⟨_, rfl⟩
      have HE := Lib.hid hE
      by_cases hlt : j < xss.length
      · obtain ⟨b, off, rfl, hb, hcell⟩ := HC.out (by intro e; simp [e] at hlt)
        obtain ⟨xs, hx⟩ : ∃ x, xss[j]? = some x := ⟨xss[j], List.getElem?_eq_getElem hlt⟩
        obtain ⟨ys, hy⟩ : ∃ y, xss[0]? = some y := ⟨xss[0]'(by omega), List.getElem?_eq_getElem _⟩
        have hny : ys.length = n := by
          rw [HN.out]
          cases xss with
          | nil => simp at hlt
          | cons z t => simp at hy; rw [hy]; rfl
        obtain ⟨vx, hvx, hcx⟩ := hcell j xs hx
        obtain ⟨vy, hvy, hcy⟩ := hcell 0 ys hy
        rw [Nat.add_zero] at hcy
        obtain ⟨ax, cx, rfl, -, hx2, -, -, hxc⟩ := Ints.open hvx
        obtain ⟨ay, cy, rfl, -, -, -, -, -⟩ := Ints.open hvy
        rw [hny] at hcy
        have HG1 : Hid (∀ W, Ext w W → W.cell? ⟨b, off + j, none⟩ = some (.slice ax xs.length cx)) := fun W hW => hW.cell hcx
        have HG2 : Hid (∀ W, Ext w W → W.cell? ⟨b, off, none⟩ = some (.slice ay n cy)) := fun W hW => hW.cell hcy
        have HXC := Lib.hid hxc
        have g1 := HG1.out _ hE
        have g2 := HG2.out _ hE
        have HDS : Hid (tabE xss = if 12 < xs.length then 4 else if xs.length = n then (if xs.any (fun x => !fitB x) then 4 else tabR n (xss.drop (j + 1))) else 5) := by
          unfold Hid; rw [HD.out, drop_cons hx]; rfl
        have hpos : 0 < xss.length := by omega
        unfold maxLen at hx2
        clear hcell hx hy hny hvx hvy hcx hcy hE hxc
        by_cases q1 : 12 < xs.length
        · have q2 : (12 : Int) < (xs.length : Int) := by omega
          rw [if_pos q1] at HDS
          go_wp2_with fail
          go_ret
          exact ⟨by rw [HDS.out]; rfl, HE.out⟩
        · have q2 : ¬ (12 : Int) < (xs.length : Int) := by omega
          rw [if_neg q1] at HDS
          by_cases q3 : xs.length = n
          · rw [if_pos q3] at HDS
            have q4 : ((xs.length : Int) != (n : Int)) = false := by simp [q3]
            clear q3
            go_wp2_with fail
            go_quiet (fail)
            go_wp2_with fail
            have hsz : ∀ kk, Ext w (wo.drewN kk) := fun kk => Ext.draws HE.out kk
            clear g1 g2
            go_loopw [4] (fun t wr => ∃ k : Nat, k ≤ xs.length ∧ t = .int .i64 k ∧ Hid (Ext w wr) ∧ Hid (xs.any (fun x => !fitB x) = (xs.drop k).any (fun x => !fitB x))) (fun t _ => xs.length - (intOf t).toNat)
            case atStart => exact ⟨0, by omega, rfl, by first | exact HE.out | exact hsz _ | exact Ext.draws HE.out _ | exact HE.out.trans (Ext.drew _), rfl⟩
            case round =>
              obtain ⟨k, hk, rfl, HEI, HA⟩ := hrel
              obtain ⟨wi, rfl⟩ : ∃ wi : World, wi = wr := ⟨_, rfl⟩
              have g1 := HG1.out _ HEI.out
              by_cases hkl : k < xs.length
              · obtain ⟨b2, o2, rfl, hb2, hc2⟩ := HXC.out (by intro e; rw [e] at hkl; simp at hkl)
                obtain ⟨x, hx⟩ : ∃ x, xs[k]? = some x := ⟨xs[k], List.getElem?_eq_getElem hkl⟩
                have g3 := HEI.out.cell (hc2 k x hx)
                have HAD := Lib.hid (any_drop (fun x => !fitB x) hx)
                have HFI : Hid (∀ W, Calls Tryz.prog 24 #[.int .i64 x] W fun e w' => e = .returned (.bool (fitB x)) ∧ W = w') := fun W => fits_any x W
                clear hc2 hx
                cases hf : fitB x with
                | true =>
                  rw [hf] at HAD HFI
                  have HA2 : Hid (xs.any (fun x => !fitB x) = (xs.drop (k + 1)).any (fun x => !fitB x)) := by unfold Hid; rw [HA.out, HAD.out]; rfl
                  go_wp2_with fail
                  refine (HFI.out _).mono ?_
                  rintro e w1 ⟨rfl, rfl⟩
                  go_wp2_with fail
                  go_roundw
                  case rel => exact ⟨k + 1, by omega, by go_num, HEI.out, HA2.out⟩
                  case measure => simp [intOf]; omega
                | false =>
                  rw [hf] at HAD HFI
                  have HA2 : Hid (tabE xss = 4) := by unfold Hid; rw [HDS.out, if_pos (by rw [HA.out, HAD.out]; rfl)]
                  go_wp2_with fail
                  refine (HFI.out _).mono ?_
                  rintro e w1 ⟨rfl, rfl⟩
                  go_wp2_with fail
                  go_ret
                  exact ⟨by rw [HA2.out]; rfl, HEI.out⟩
              · obtain rfl : k = xs.length := by omega
                have HA2 : Hid (tabE xss = tabR n (xss.drop (j + 1))) := by unfold Hid; rw [HDS.out, if_neg (by rw [HA.out, List.drop_length]; simp)]
                go_wp2_with fail
                go_roundw
                case rel => exact ⟨j + 1, by omega, by go_num, HEI.out, HA2.out⟩
                case measure => simp [intOf]; omega
          · rw [if_neg q3] at HDS
            have q4 : ((xs.length : Int) != (n : Int)) = true := by simp; omega
            clear q3
            go_wp2_with fail
            go_quiet (fail)
            go_wp2_with fail
            go_ret
            exact ⟨by rw [HDS.out]; rfl, by first | exact HE.out | exact Ext.draws HE.out _ | exact HE.out.trans (Ext.drew _)⟩
      · obtain rfl : j = xss.length := by omega
        have HF : Hid (tabE xss = 0) := by unfold Hid; rw [HD.out, List.drop_length]; rfl
        clear HD hE
        go_wp2_with fail
        go_ret
        exact ⟨by rw [HF.out]; rfl, HE.out⟩
theorem refCols_any (xss : List (List Int)) (v : Value) (w : World) (h : Rows2 w v xss) :
    Calls Tryz.prog 98 #[v] w fun e w' => e = .returned (.int .i64 (colsN xss : Int)) ∧ w = w' := by
  obtain ⟨a, c, rfl, h1, h2, -, hc⟩ := inCell.open h
  clear h
  cases xss with
  | nil =>
    go_enter Tryz.func98, Tryz.ntmps98
    go_wp2_with fail
    go_ret
    exact ⟨rfl, rfl⟩
  | cons r l =>
    obtain ⟨b, off, rfl, hb, hcell⟩ := hc (by simp)
    obtain ⟨vx, hvx, hcx⟩ := hcell 0 r rfl
    rw [Nat.add_zero] at hcx
    obtain ⟨ax, cx, rfl, -, -, -, -, -⟩ := Ints.open hvx
    have hz : (((r :: l).length : Int) == 0) = false := by rw [beq_eq_false_iff_ne, List.length_cons]; omega
    have hp : (0 : Int) < ((r :: l).length : Int) := by rw [List.length_cons]; omega
    have HCN : Hid (colsN (r :: l) = r.length) := rfl
    obtain ⟨n, hn⟩ : ∃ n, n = (r :: l).length := ⟨_, rfl⟩
    rw [← hn] at hz hp ⊢
    rw [HCN.out]
    clear hc hcell hvx h1 hn
    go_enter Tryz.func98, Tryz.ntmps98
    go_wp2_with fail
    go_ret
    exact ⟨rfl, rfl⟩
def Fit9 (x:List Int):Prop:=∀ a∈x,-1000000000≤a∧a≤1000000000
end Go.Proofs.YtjlkkofmojgipaaGreatDoor
