import Derived.Test.YtjlkkofmojgipaaGreatDoorTBJ
import Derived.Test.YtjlkkofmojgipaaGreatDoorTAP
import Derived.Test.YtjlkkofmojgipaaGreatDoorTAN
import Derived.Test.YtjlkkofmojgipaaGreatDoorTBE
import Derived.Test.YtjlkkofmojgipaaGreatDoorTAQ
namespace Go.Proofs.YtjlkkofmojgipaaGreatDoor
set_option linter.unusedVariables false
set_option linter.unusedSimpArgs false
open Go.RowKit
theorem sdJ_nat (u:Nat):sdJ (u:Int)=1:=if_neg (by omega)
theorem sdJ_neg {u:Nat} (h:u≠0):sdJ (-(u:Int))=-1:=if_pos (by omega)
theorem tdiv_sg (x y:Int):sgJ (sdJ x != sdJ y) (x.natAbs / y.natAbs)=x.tdiv y:=by
 obtain ⟨u,rfl | rfl⟩:=x.eq_nat_or_neg <;> obtain ⟨v,rfl | rfl⟩:=y.eq_nat_or_neg
 ·rw [sdJ_nat,sdJ_nat,Int.natAbs_natCast,Int.natAbs_natCast,← Int.ofNat_tdiv];rfl
 ·rw [Int.natAbs_neg,Int.natAbs_natCast,Int.natAbs_natCast,Int.tdiv_neg,← Int.ofNat_tdiv]
  by_cases hv:v=0
  ·subst hv;simp [sgJ]
  ·rw [sdJ_nat,sdJ_neg hv];rfl
 ·rw [Int.natAbs_neg,Int.natAbs_natCast,Int.natAbs_natCast,Int.neg_tdiv,← Int.ofNat_tdiv]
  by_cases hu:u=0
  ·subst hu;simp [sgJ]
  ·rw [sdJ_nat,sdJ_neg hu];rfl
 ·rw [Int.natAbs_neg,Int.natAbs_neg,Int.natAbs_natCast,Int.natAbs_natCast,Int.neg_tdiv_neg,← Int.ofNat_tdiv]
  by_cases hu:u=0
  ·subst hu;simp [sgJ]
  ·by_cases hv:v=0
   ·subst hv;simp [sgJ]
   ·rw [sdJ_neg hu,sdJ_neg hv];rfl
theorem tmod_sg (x y:Int):sgJ (decide (sdJ x<0)) (x.natAbs%y.natAbs)=x.tmod y:=by
 have hy:x.tmod y=x.tmod (y.natAbs:Int):=by
  rcases Int.natAbs_eq y with h | h
  ·rw [← h]
  ·rw [h,Int.tmod_neg,Int.natAbs_neg,Int.natAbs_natCast]
 rw [hy]
 generalize y.natAbs=v
 obtain ⟨u,rfl | rfl⟩:=x.eq_nat_or_neg <;> unfold sgJ sdJ
 ·rw [if_neg (show ¬ (u:Int)<0 by omega),if_neg (by decide),Int.natAbs_natCast,← Int.ofNat_tmod]
 ·rw [Int.natAbs_neg,Int.natAbs_natCast,Int.neg_tmod,← Int.ofNat_tmod]
  by_cases hu:u=0
  ·subst hu;simp
  ·rw [if_pos (show -(u:Int)<0 by omega),if_pos (by decide)]
theorem fd_sg (x y:Int) (h0:y≠0):(x.tmod y≠0∧sdJ x≠sdJ y→fdq x y=x.tdiv y-1∧fdr x y=x.tmod y+y)∧(¬ (x.tmod y≠0∧sdJ x≠sdJ y)→fdq x y=x.tdiv y∧fdr x y=x.tmod y):=by
 have key:x.tmod y≠0→((decide (x.tmod y<0)≠decide (y<0))↔sdJ x≠sdJ y):=by
  intro hr
  have hs:=tmod_sg x y
  unfold sgJ sdJ at hs
  unfold sdJ
  by_cases h1:x<0
  ·rw [if_pos h1,if_pos (by decide)] at hs
   have h3:x.tmod y<0:=by omega
   by_cases h2:y<0 <;> simp [h1,h2,h3]
  ·rw [if_neg h1,if_neg (by decide)] at hs
   have h3:¬ x.tmod y<0:=by omega
   by_cases h2:y<0 <;> simp [h1,h2,h3]
 unfold fdq fdr
 constructor
 ·rintro ⟨h1,h2⟩
  have:=(key h1).2 h2
  rw [if_pos ⟨h1,this⟩,if_pos ⟨h1,this⟩]
  exact ⟨rfl,rfl⟩
 ·intro h
  have:¬ (x.tmod y≠0∧decide (x.tmod y<0)≠decide (y<0)):=fun ⟨h1,h2⟩=>h ⟨h1,(key h1).1 h2⟩
  rw [if_neg this,if_neg this]
  exact ⟨rfl,rfl⟩
theorem int_size_mono {x y:Int} (h:x.natAbs≤y.natAbs):(intB x).size≤(intB y).size+1:=by
 have h1:=intB_size_le x
 have h2:=num_le_mono h
 have h3:=nat_size_le y
 omega
set_option maxRecDepth 100000 in
set_option maxHeartbeats 4000000 in
theorem rDivModG_any (x y:Int) (w:World) (hx:(intB x).size≤13000) (hy:(intB y).size≤13000) (h0:y≠0) (ht:Pow10 w) :
  Calls Tryz.prog 87 #[.string (intB x),.string (intB y)] w fun e w'=>e=.returned (.tuple #[.string (intB (fdq x y)),.string (intB (fdr x y))])∧Ext w w':=by
 by_cases hsm:x.natAbs<1000000000000000000∧y.natAbs<1000000000000000000
 ·exact rDivMod18 x y w (by omega) (by omega) h0 ht
 have HT:=Lib.hid ht
 have hux:=nat_size_le x
 have huy:=nat_size_le y
 have H1:=Lib.hid (rQuickG_any x w (by omega))
 have H2:Hid (∀ W,Calls Tryz.prog 126 #[.string (intB y)] W fun e w'=>e=.returned (.tuple #[.int .i64 (qkV y),.bool (qkB y)])∧Ext W w'):=fun W=>rQuickG_any y W (by omega)
 have hbb:qkB x=false∨(qkB x=true∧qkB y=false):=by
  unfold qkB
  by_cases h1:x.natAbs<1000000000000000000
  ·exact .inr ⟨decide_eq_true h1,decide_eq_false (fun h2=>hsm ⟨h1,h2⟩)⟩
  ·exact .inl (decide_eq_false h1)
 obtain ⟨vx,hvx⟩:∃ v,v=qkV x:=⟨_,rfl⟩
 obtain ⟨vy,hvy⟩:∃ v,v=qkV y:=⟨_,rfl⟩
 rw [← hvx] at H1
 rw [← hvy] at H2
 have HDX:Hid (∀ W,Calls Tryz.prog 115 #[.string (intB x)] W fun e w'=>e=.returned (.string (numB x.natAbs))∧W=w'):=fun W=>rDigits_any x W
 have HDY:Hid (∀ W,Calls Tryz.prog 115 #[.string (intB y)] W fun e w'=>e=.returned (.string (numB y.natAbs))∧W=w'):=fun W=>rDigits_any y W
 obtain ⟨s1,hs1⟩:∃ s,s=sdJ x:=⟨_,rfl⟩
 obtain ⟨s2,hs2⟩:∃ s,s=sdJ y:=⟨_,rfl⟩
 have HSX:Hid (∀ W,Calls Tryz.prog 128 #[.string (intB x)] W fun e w'=>e=.returned (.int .i64 s1)∧W=w'):=fun W=>by rw [hs1];exact rSide_any x W
 have HSY:Hid (∀ W,Calls Tryz.prog 128 #[.string (intB y)] W fun e w'=>e=.returned (.int .i64 s2)∧W=w'):=fun W=>by rw [hs2];exact rSide_any y W
 have HQ:Hid (sgJ (s1 != s2) (x.natAbs / y.natAbs)=x.tdiv y):=by unfold Hid;rw [hs1,hs2];exact tdiv_sg x y
 have HR:Hid (sgJ (decide (s1<0)) (x.natAbs%y.natAbs)=x.tmod y):=by unfold Hid;rw [hs1];exact tmod_sg x y
 obtain ⟨hf1,hf2⟩:=fd_sg x y h0
 rw [← hs1,← hs2] at hf1 hf2
 have hqs:(intB (x.tdiv y)).size≤13001:=by
  have:=int_size_mono (tdiv_le x y)
  omega
 have hrs:(intB (x.tmod y)).size≤13001:=by
  have h1:=tmod_lt x y h0
  have:=int_size_mono (show (x.tmod y).natAbs≤y.natAbs by omega)
  omega
 have HZ:=Lib.hid (int_zero (x.tmod y))
 obtain ⟨tq,htq⟩:∃ t,t=x.tdiv y:=⟨_,rfl⟩
 obtain ⟨tr,htr⟩:∃ t,t=x.tmod y:=⟨_,rfl⟩
 rw [← htq] at HQ hf1 hf2 hqs
 rw [← htr] at HR hf1 hf2 hrs HZ
 have HF1:=Lib.hid hf1;have HF2:=Lib.hid hf2
 have HSUB:Hid (∀ W,Ext w W→Calls Tryz.prog 144 #[.string (intB tq),.string ⟨#[49]⟩] W fun e w'=>e=.returned (.string (intB (tq-1)))∧Ext W w'):=fun W hW=>by
  have:=rSub_any tq 1 W (by omega) (by decide +kernel) (HT.out.ext hW)
  rw [show intB 1=⟨#[49]⟩ by decide +kernel] at this
  exact this
 have HADD:Hid (∀ W,Ext w W→Calls Tryz.prog 73 #[.string (intB tr),.string (intB y)] W fun e w'=>e=.returned (.string (intB (tr+y)))∧Ext W w'):=fun W hW=>rAdd_any tr y W (by omega) (by omega) (HT.out.ext hW)
 have hy0:0<y.natAbs:=by omega
 clear hsm ht hvx hvy hs1 hs2 htq htr hf1 hf2 h0
 rcases hbb with hb | ⟨hb,hb2⟩
 case' inl =>
  rw [hb] at H1
  obtain ⟨by',hby⟩:∃ b,b=qkB y:=⟨_,rfl⟩
  rw [← hby] at H2
  clear hb hby
 case' inr =>
  rw [hb] at H1
  rw [hb2] at H2
  clear hb hb2
 all_goals
  go_enter Tryz.func87,Tryz.ntmps87
  go_wp2_with fail
  refine H1.out.mono ?_
  rintro e w1 ⟨rfl,hE1⟩
  have HE1:=Lib.hid hE1
  clear hE1 H1
  go_wp2_with fail
  refine (H2.out _).mono ?_
  rintro e w2 ⟨rfl,hE2⟩
  have HE2:=Lib.hid (Ext.trans HE1.out hE2)
  clear hE2 H2
  go_wp2_with fail
  refine (HDX.out _).mono ?_
  rintro e w3 ⟨rfl,rfl⟩
  go_wp2_with fail
  refine (rSplitI_any _ _ (by omega)).mono ?_
  rintro e w3 ⟨r3,l3,rfl,hr3,hE3⟩
  have HR3:=Lib.hid hr3
  have HE3:=Lib.hid (Ext.trans HE2.out hE3)
  clear hr3 hE3
  go_wp2_with fail
  refine (HDY.out _).mono ?_
  rintro e w4 ⟨rfl,rfl⟩
  go_wp2_with fail
  refine (rSplitI_any _ _ (by omega)).mono ?_
  rintro e w4 ⟨r4,l4,rfl,hr4,hE4⟩
  have HR4:=Lib.hid hr4
  have HE4:=Lib.hid (Ext.trans HE3.out hE4)
  have HA3:=Lib.hid ((HR3.out.out.1.at).ext hE4)
  have hl3:l3.length≤15000:=by have:=HR3.out.out.2.2.2;omega
  have hl4:l4.length≤15000:=by have:=HR4.out.out.2.2.2;omega
  clear hr4 hE4
  go_wp2_with fail
  refine (rDivide_any l3 l4 _ _ _ HA3.out HR4.out.out.1.at HR3.out.out.2.1.1 HR4.out.out.2.1 (by rw [HR4.out.out.2.2.1];exact hy0) (by omega) (by omega)).mono ?_
  rintro e w5 ⟨r5,r6,l5,l6,rfl,hr5,hE5⟩
  have HR5:=Lib.hid hr5.out
  have HE5:=Lib.hid (Ext.trans HE4.out hE5)
  clear hr5 hE5
  go_wp2_with fail
  refine (HSX.out _).mono ?_
  rintro e w6 ⟨rfl,rfl⟩
  go_wp2_with fail
  refine (HSY.out _).mono ?_
  rintro e w6 ⟨rfl,rfl⟩
  obtain ⟨q1,q2,q3,q4,q5,q6,q7,q8⟩:=HR5.out
  have HSG:=Lib.hid (rSigned_any _ (s1 != s2) l5 r5 w5 q1 q2.1 (by omega) (HT.out.ext HE5.out))
  rw [q3,HR3.out.out.2.2.1,HR4.out.out.2.2.1,HQ.out] at HSG
  have HSG2:Hid (∀ W,Ext w5 W→Calls Tryz.prog 127 #[.bool (decide (s1<0)),r6] W fun e w'=>e=.returned (.string (intB tr))∧Ext W w'):=fun W hW=>by
   have:=rSigned_any w4.heap.size (decide (s1<0)) l6 r6 W (owns_ext q5 hW) q6.1 (by omega) (HT.out.ext (HE5.out.trans hW))
   rw [q7,HR3.out.out.2.2.1,HR4.out.out.2.2.1,HR.out] at this
   exact this
  clear q1 q2 q3 q4 q5 q6 q7 q8
  go_wp2_with fail
  refine HSG.out.mono ?_
  rintro e w6 ⟨rfl,hE6⟩
  have HE6:=Lib.hid hE6
  clear hE6
  go_wp2_with fail
  refine (HSX.out _).mono ?_
  rintro e w7 ⟨rfl,rfl⟩
  go_wp2_with fail
  refine (HSG2.out _ HE6.out).mono ?_
  rintro e w7 ⟨rfl,hE7⟩
  have HE7:=Lib.hid (Ext.trans HE5.out (Ext.trans HE6.out hE7))
  have hz:=HZ.out
  clear hE7
  by_cases hc:tr≠0∧s1≠s2
  ·have hz2:¬ (intB tr).toList=[48]:=fun e=>by rw [e] at hz;exact hc.1 (of_decide_eq_true hz.symm)
   have hz4:((intB tr).toList == [48])=false:=by rw [hz];exact decide_eq_false hc.1
   have hs:¬ s1=s2:=hc.2
   have hs2:(s1 != s2)=true:=by rw [bne_iff_ne];exact hc.2
   obtain ⟨g1,g2⟩:=HF1.out hc
   have HG:=Lib.hid (And.intro g1 g2)
   clear hc g1 g2 HF1 HF2 hz
   go_wp2_with fail
   refine (HSX.out _).mono ?_
   rintro e w8 ⟨rfl,rfl⟩
   go_wp2_with fail
   refine (HSY.out _).mono ?_
   rintro e w8 ⟨rfl,rfl⟩
   go_wp2_with fail
   refine (HSUB.out _ HE7.out).mono ?_
   rintro e w8 ⟨rfl,hE8⟩
   have HE8:=Lib.hid (Ext.trans HE7.out hE8)
   clear hE8
   go_wp2_with fail
   refine (HADD.out _ HE8.out).mono ?_
   rintro e w9 ⟨rfl,hE9⟩
   have HE9:=Lib.hid (Ext.trans HE8.out hE9)
   clear hE9
   go_wp2_with fail
   go_ret2
   exact ⟨by rw [HG.out.1,HG.out.2];rfl,HE9.out⟩
  ·obtain ⟨g1,g2⟩:=HF2.out hc
   have HG:=Lib.hid (And.intro g1 g2)
   by_cases h0:tr=0
   ·have hz2:(intB tr).toList=[48]:=by rw [decide_eq_true h0] at hz;exact beq_iff_eq.1 hz
    clear hc g1 g2 HF1 HF2 hz h0
    go_wp2_with fail
    go_ret2
    exact ⟨by rw [HG.out.1,HG.out.2];rfl,HE7.out⟩
   ·have hz2:¬ (intB tr).toList=[48]:=fun e=>by rw [e] at hz;exact h0 (of_decide_eq_true hz.symm)
    have hs:(s1 != s2)=false:=by
     have:s1=s2:=by
      false_or_by_contra
      rename_i h
      exact hc ⟨h0,h⟩
     rw [this];simp
    clear hc g1 g2 HF1 HF2 hz h0
    go_wp2_with fail
    refine (HSX.out _).mono ?_
    rintro e w8 ⟨rfl,rfl⟩
    go_wp2_with fail
    refine (HSY.out _).mono ?_
    rintro e w8 ⟨rfl,rfl⟩
    go_wp2_with fail
    go_ret2
    exact ⟨by rw [HG.out.1,HG.out.2];rfl,HE7.out⟩
set_option maxRecDepth 100000 in
set_option maxHeartbeats 1000000 in
theorem rGcdG_any (a b:Int) (w:World) (ha:(intB a).size≤13000) (hb:(intB b).size≤13000) (ht:Pow10 w) :
  Calls Tryz.prog 88 #[.string (intB a),.string (intB b)] w fun e w'=>e=.returned (.string (numB (Nat.gcd a.natAbs b.natAbs)))∧Ext w w':=by
 have HA:=Lib.hid (rAbs_any a w)
 have HB:=Lib.hid (fun W=>rAbs_any b W)
 have HT:=Lib.hid ht
 obtain ⟨u,hu⟩:∃ u,u=a.natAbs:=⟨_,rfl⟩
 obtain ⟨v,hv⟩:∃ v,v=b.natAbs:=⟨_,rfl⟩
 rw [← hu] at HA ⊢
 rw [← hv] at HB ⊢
 have hub:(numB u).size≤13000:=by rw [hu];have:=nat_size_le a;omega
 have hvb:(numB v).size≤13000:=by rw [hv];have:=nat_size_le b;omega
 clear ht hu hv ha hb
 go_enter Tryz.func88,Tryz.ntmps88
 go_wp2_with fail
 refine HA.out.mono ?_
 rintro e w1 ⟨rfl,hE1⟩
 have HE1:=Lib.hid hE1
 clear hE1 HA
 go_wp2_with fail
 refine (HB.out _).mono ?_
 rintro e w2 ⟨rfl,hE2⟩
 have HE2:=Lib.hid (Ext.trans HE1.out hE2)
 clear hE2 HB
 go_wp2_with fail
 go_loopw [0,1] (fun s t wr=>∃ x y:Nat,s=.string (numB x)∧t=.string (numB y)∧(numB x).size≤13000∧(numB y).size≤13000∧Hid (Nat.gcd x y=Nat.gcd u v)∧Hid (Ext w wr)) (fun _ t _=>valS t)
 case atStart=>exact ⟨u,v,rfl,rfl,hub,hvb,rfl,HE2.out⟩
 case round =>
  obtain ⟨x,y,rfl,rfl,hx,hy,HG,HE⟩:=hrel
  obtain ⟨wo,rfl⟩:∃ wo:World,wo=wr:=⟨_,rfl⟩
  have hz:=nat_zero y
  by_cases hy0:y=0
  ·have HF:Hid (x=Nat.gcd u v):=by unfold Hid;rw [← HG.out,hy0,Nat.gcd_zero_right]
   rw [decide_eq_true hy0] at hz
   have hz2:((numB y).toList != [48])=false:=by simp only [bne,hz];rfl
   clear hy0
   go_wp2_with fail
   go_ret
   exact ⟨by rw [← HF.out];rfl,HE.out⟩
  ·rw [decide_eq_false hy0] at hz
   have hz2:((numB y).toList != [48])=true:=by simp only [bne,hz];rfl
   have HG2:Hid (Nat.gcd y (x%y)=Nat.gcd u v):=by
    unfold Hid;rw [← HG.out,Nat.gcd_comm y (x%y),← Nat.gcd_rec,Nat.gcd_comm]
   have hdm:=rDivModG_any (x:Int) (y:Int) wo (by rw [eb];exact hx) (by rw [eb];exact hy) (by omega) (HT.out.ext HE.out)
   rw [eb,eb] at hdm
   have hfr:fdr (x:Int) (y:Int)=((x%y:Nat):Int):=by
    unfold fdr
    rw [tmod_cast,if_neg]
    rintro ⟨-,h⟩
    exact h (by rw [decide_eq_false (by omega),decide_eq_false (by omega)])
   rw [hfr,eb] at hdm
   have HDM:=Lib.hid hdm
   obtain ⟨r,hr⟩:∃ r,r=x%y:=⟨_,rfl⟩
   rw [← hr] at HG2 HDM
   have hry:r<y:=by rw [hr];exact Nat.mod_lt _ (by omega)
   have hrs:(numB r).size≤13000:=Nat.le_trans (num_le_mono (Nat.le_of_lt hry)) hy
   have HVR:=Lib.hid (And.intro (valS_num r) (valS_num y))
   clear hr hdm hfr hy0
   go_wp2_with fail
   refine HDM.out.mono ?_
   rintro e w3 ⟨rfl,hE3⟩
   have HE3:=Lib.hid (Ext.trans HE.out hE3)
   clear hE3 HDM
   go_wp2_with fail
   go_roundw
   case rel=>exact ⟨y,r,rfl,rfl,hy,hrs,HG2.out,HE3.out⟩
   case measure =>
    have h1:=HVR.out.1;have h2:=HVR.out.2
    first | (rw [h1,h2];exact hry) | (simp only [h1,h2];exact hry)
def mostL (xss:List (List Int)):Nat:=xss.foldl (fun m r=>max m r.length) 0
def fewP (xss:List (List Int)):Prop:=(xss.length≤4∧mostL xss≤5)∨(12≤xss.length∧xss.length≤14∧mostL xss≤2)∨(xss.length≤2∧11≤mostL xss∧mostL xss≤14)
instance (xss:List (List Int)):Decidable (fewP xss):=inferInstanceAs (Decidable (_∨_))
theorem Build.strV {w:World} {base:Nat} {e:TypeId} {v:Value} {xs:List Int} (h:Build w base e 1 v numC xs):w.ownsRow base e 1 v xs.length (xs.map fun x=>Value.string (intB x)):=by
 obtain ⟨us,h1,h2,h3,h4⟩:=h
 have:us=xs.map fun x=>[Value.string (intB x)]:=by
  apply List.ext_getElem?
  intro i
  rw [List.getElem?_map]
  by_cases hi:i<xs.length
  ·have hi2:i<us.length:=by omega
   have:=(h4 i us[i] xs[i] (by simp [hi2]) (by simp [hi])).now
   simp only [numC] at this
   simp [hi,hi2,this]
  ·rw [List.getElem?_eq_none (by omega),List.getElem?_eq_none (by omega)];rfl
 rw [this,flatten_one (fun x=>Value.string (intB x))] at h3
 exact h3
theorem RowN.of_build {w:World} {base:Nat} {e:TypeId} {v:Value} {xs:List Int} (h:Build w base e 1 v numC xs) (hne:0<xs.length) :
  ∃ g cap,v=.slice (some ⟨g,0,none⟩) xs.length cap∧RowN w g xs∧base≤g∧xs.length≤cap∧cap≤9223372036854775807:=by
 have hs:=h.strV
 have hc:=fun g hg=>hs.cells (g:=g) hg
 have hs0:=hs
 rcases hs.2 with ⟨hv,h0⟩ | ⟨g,cap,cur,hv,hb,hg,h1,h2,h3,h4⟩
 ·omega
 ·subst hv
  refine ⟨g,cap,rfl,⟨(Array.getElem?_eq_some_iff.1 hg).1,fun j x hx=>?_,fun j=>hs0.frozenAt j⟩,hb,h1,h2⟩
  have:=hc g (by simp [Value.ownBlock]) j (.string (intB x)) (by rw [List.getElem?_map,hx];rfl)
  rw [show (⟨g,0,none⟩:Addr).add j=⟨g,j,none⟩ by unfold Addr.add;split <;> simp_all] at this
  exact this
end Go.Proofs.YtjlkkofmojgipaaGreatDoor
namespace Go.Proofs.YtjlkkofmojgipaaGreatDoor
set_option linter.unusedVariables false
set_option linter.unusedSimpArgs false
def sk (i a:Nat):Nat:=if a<i then a else a+1
def sumQ:Nat→(Nat→Rat)→Rat
 | 0,_=>0
 | n+1,f=>sumQ n f+f n
def sgnQ (i:Nat):Rat:=if i%2=0 then 1 else -1
def detF:Nat→(Nat→Nat→Rat)→Rat
 | 0,_=>1
 | n+1,M=>sumQ (n+1) fun i=>sgnQ i*M i 0*detF n fun a b=>M (sk i a) (b+1)
theorem sumQ_congr {n:Nat} {f g:Nat→Rat} (h:∀ i,i<n→f i=g i):sumQ n f=sumQ n g:=by
 induction n with
 | zero=>rfl
 | succ n ih=>show sumQ n f+f n=sumQ n g+g n;rw [ih (fun i hi=>h i (by omega)),h n (by omega)]
theorem sumQ_zero (n:Nat):sumQ n (fun _=>0)=0:=by
 induction n with
 | zero=>rfl
 | succ n ih=>show sumQ n _+0=0;rw [ih];grind
theorem sumQ_add (n:Nat) (f g:Nat→Rat):sumQ n (fun i=>f i+g i)=sumQ n f+sumQ n g:=by
 induction n with
 | zero=>show (0:Rat)=0+0;grind
 | succ n ih=>show sumQ n _+(f n+g n)=(sumQ n f+f n)+(sumQ n g+g n);rw [ih];grind
theorem sumQ_mul (n:Nat) (c:Rat) (f:Nat→Rat):sumQ n (fun i=>c*f i)=c*sumQ n f:=by
 induction n with
 | zero=>show (0:Rat)=c*0;grind
 | succ n ih=>show sumQ n _+c*f n=c*(sumQ n f+f n);rw [ih];grind
theorem sumQ_neg (n:Nat) (f:Nat→Rat):sumQ n (fun i=>- f i)=- sumQ n f:=by
 have:=sumQ_mul n (-1) f
 rw [show (-1:Rat)*sumQ n f=- sumQ n f by grind] at this
 rw [← this]
 exact sumQ_congr fun i _=>by grind
theorem sumQ_comm (n m:Nat) (f:Nat→Nat→Rat):sumQ n (fun i=>sumQ m (fun j=>f i j))=sumQ m (fun j=>sumQ n (fun i=>f i j)):=by
 induction n with
 | zero=>show (0:Rat)=sumQ m (fun _=>0);rw [sumQ_zero]
 | succ n ih =>
  show sumQ n _+sumQ m (fun j=>f n j)=sumQ m (fun j=>sumQ n (fun i=>f i j)+f n j)
  rw [ih,sumQ_add]
theorem sumQ_head (n:Nat) (f:Nat→Rat):sumQ (n+1) f=f 0+sumQ n (fun i=>f (i+1)):=by
 induction n with
 | zero=>show (0:Rat)+f 0=f 0+0;grind
 | succ n ih =>
  show sumQ (n+1) f+f (n+1)=f 0+(sumQ n (fun i=>f (i+1))+f (n+1))
  rw [ih];grind
theorem sumQ_one {n k:Nat} {f:Nat→Rat} (hk:k<n) (h:∀ i,i<n→i≠k→f i=0):sumQ n f=f k:=by
 induction n with
 | zero=>omega
 | succ n ih =>
  show sumQ n f+f n=f k
  by_cases e:k=n
  ·subst e
   have:sumQ k f=sumQ k (fun _=>0):=sumQ_congr fun i hi=>h i (by omega) (by omega)
   rw [this,sumQ_zero];grind
  ·rw [ih (by omega) (fun i hi hn=>h i (by omega) hn),h n (by omega) (by omega)];grind
def trI (r i:Nat):Nat:=if i=r then r+1 else if i=r+1 then r else i
theorem sumQ_tr {n r:Nat} (hr:r+1<n) (f:Nat→Rat):sumQ n (fun i=>f (trI r i))=sumQ n f:=by
 induction n with
 | zero=>omega
 | succ n ih =>
  show sumQ n _+f (trI r n)=sumQ n f+f n
  by_cases e:r+1=n
  ·subst e
   show (sumQ r _+f (trI r r))+f (trI r (r+1))=(sumQ r f+f r)+f (r+1)
   have h1:sumQ r (fun i=>f (trI r i))=sumQ r f:=sumQ_congr fun i hi=>by unfold trI;rw [if_neg (by omega),if_neg (by omega)]
   have h2:trI r r=r+1:=by unfold trI;rw [if_pos rfl]
   have h3:trI r (r+1)=r:=by unfold trI;rw [if_neg (by omega),if_pos rfl]
   rw [h1,h2,h3];grind
  ·have h1:trI r n=n:=by unfold trI;rw [if_neg (by omega),if_neg (by omega)]
   rw [ih (by omega),h1]
theorem sgnQ_succ (i:Nat):sgnQ (i+1)=- sgnQ i:=by
 unfold sgnQ
 by_cases h:i%2=0
 ·rw [if_pos h,if_neg (by omega)]
 ·rw [if_neg h,if_pos (by omega)];grind
theorem detF_congr {n:Nat} {M N:Nat→Nat→Rat} (h:∀ a b,a<n→b<n→M a b=N a b):detF n M=detF n N:=by
 induction n generalizing M N with
 | zero=>rfl
 | succ n ih =>
  show sumQ (n+1) _=sumQ (n+1) _
  refine sumQ_congr fun i hi=>?_
  rw [h i 0 hi (by omega),ih (M:=fun a b=>M (sk i a) (b+1)) (N:=fun a b=>N (sk i a) (b+1)) (fun a b ha hb=>h _ _ (by unfold sk;split <;> omega) (by omega))]
def updR (M:Nat→Nat→Rat) (r:Nat) (u:Nat→Rat):Nat→Nat→Rat:=fun a b=>if a=r then u b else M a b
theorem updR_sk_same (M:Nat→Nat→Rat) (r:Nat) (u:Nat→Rat):(fun a b=>updR M r u (sk r a) (b+1))=fun a b=>M (sk r a) (b+1):=by
 funext a b;unfold updR sk;rw [if_neg (by split <;> omega)]
theorem updR_sk {M:Nat→Nat→Rat} {r i:Nat} (u:Nat→Rat) (h:i≠r):(fun a b=>updR M r u (sk i a) (b+1))=updR (fun a b=>M (sk i a) (b+1)) (if r<i then r else r-1) (fun b=>u (b+1)):=by
 funext a b;unfold updR sk
 show (if (if a<i then a else a+1)=r then u (b+1) else M (if a<i then a else a+1) (b+1))=if a=(if r<i then r else r-1) then u (b+1) else M (if a<i then a else a+1) (b+1)
 have:((if a<i then a else a+1)=r)=(a=(if r<i then r else r-1)):=by
  apply propext
  by_cases h1:r<i <;> by_cases h2:a<i <;> simp only [h1,h2,if_true,if_false] <;> omega
 simp only [this]
theorem detF_row {n:Nat} (M:Nat→Nat→Rat) {r:Nat} (hr:r<n) (u v:Nat→Rat) (c:Rat) :
  detF n (updR M r fun b=>u b+c*v b)=detF n (updR M r u)+c*detF n (updR M r v):=by
 induction n generalizing M r u v with
 | zero=>omega
 | succ n ih =>
  show sumQ (n+1) _=sumQ (n+1) _+c*sumQ (n+1) _
  rw [← sumQ_mul,← sumQ_add]
  refine sumQ_congr fun i hi=>?_
  by_cases e:i=r
  ·subst e
   simp only [updR_sk_same]
   have h:∀ u,updR M i u i 0=u 0:=fun u=>by unfold updR;rw [if_pos rfl]
   rw [h,h,h];grind
  ·have h:∀ u,updR M r u i 0=M i 0:=fun u=>by unfold updR;rw [if_neg e]
   rw [h,h,h,updR_sk _ e,updR_sk _ e,updR_sk _ e,ih _ (by split <;> omega)]
   grind
theorem detF_adj {n:Nat} (M:Nat→Nat→Rat) {r:Nat} (hr:r+1<n):detF n (fun a b=>M (trI r a) b)=- detF n M:=by
 induction n generalizing M r with
 | zero=>omega
 | succ n ih =>
  show sumQ (n+1) _=- sumQ (n+1) _
  rw [← sumQ_tr hr,← sumQ_neg]
  refine sumQ_congr fun i hi=>?_
  have hrr:trI r (trI r i)=i:=by unfold trI;repeat' split <;> try omega
  show sgnQ (trI r i)*M (trI r (trI r i)) 0*detF n (fun a b=>M (trI r (sk (trI r i) a)) (b+1))=-(sgnQ i*M i 0*detF n fun a b=>M (sk i a) (b+1))
  rw [hrr]
  by_cases e1:i=r
  ·subst e1
   have h1:trI i i=i+1:=by unfold trI;rw [if_pos rfl]
   rw [h1,sgnQ_succ]
   have:(fun a b=>M (trI i (sk (i+1) a)) (b+1))=fun a b=>M (sk i a) (b+1):=by
    funext a b;congr 1;unfold trI sk;repeat' split <;> try omega
   rw [this];grind
  ·by_cases e2:i=r+1
   ·subst e2
    have h1:trI r (r+1)=r:=by unfold trI;rw [if_neg (by omega),if_pos rfl]
    rw [h1,sgnQ_succ]
    have:(fun a b=>M (trI r (sk r a)) (b+1))=fun a b=>M (sk (r+1) a) (b+1):=by
     funext a b;congr 1;unfold trI sk;repeat' split <;> try omega
    rw [this];grind
   ·have h1:trI r i=i:=by unfold trI;rw [if_neg e1,if_neg e2]
    rw [h1]
    have:(fun a b=>M (trI r (sk i a)) (b+1))=fun a b=>(fun a b=>M (sk i a) (b+1)) (trI (if r<i then r else r-1) a) b:=by
     funext a b;congr 1;unfold trI sk;repeat' split <;> try omega
    rw [this]
    have e:=ih (fun a b=>M (sk i a) (b+1)) (r:=if r<i then r else r-1) (by split <;> omega)
    rw [e]
    grind
def trJ (i j a:Nat):Nat:=if a=i then j else if a=j then i else a
theorem detF_swap {n:Nat} (M:Nat→Nat→Rat) {i j:Nat} (hij:i<j) (hj:j<n):detF n (fun a b=>M (trJ i j a) b)=- detF n M:=by
 obtain ⟨d,rfl⟩:∃ d,j=i+1+d:=⟨j-i-1,by omega⟩
 clear hij
 induction d generalizing M with
 | zero =>
  have:(fun a b=>M (trJ i (i+1+0) a) b)=fun a b=>M (trI i a) b:=by
   funext a b;congr 1
  rw [this];exact detF_adj M hj
 | succ d ih =>
  have:(fun a b=>M (trJ i (i+1+(d+1)) a) b)=fun a b=>(fun a b=>(fun a b=>M (trI (i+1+d) a) b) (trJ i (i+1+d) a) b) (trI (i+1+d) a) b:=by
   funext a b;congr 1;unfold trJ trI;repeat' split <;> try omega
  rw [this]
  have e1:=detF_adj (n:=n) (fun a b=>(fun a b=>M (trI (i+1+d) a) b) (trJ i (i+1+d) a) b) (r:=i+1+d) (by omega)
  have e2:=ih (fun a b=>M (trI (i+1+d) a) b) (by omega)
  have e3:=detF_adj (n:=n) M (r:=i+1+d) (by omega)
  rw [e1,e2,e3]
  grind
theorem rat_neg_self {x:Rat} (h:x=-x):x=0:=by
 have:x+x=0:=by rw [show x+x=x-(-x) by grind,← h];grind
 have:2*x=0:=by grind
 grind
theorem detF_eq {n:Nat} {M:Nat→Nat→Rat} {i j:Nat} (hi:i<n) (hj:j<n) (hne:i≠j) (h:∀ b,b<n→M i b=M j b):detF n M=0:=by
 have key:∀ i j,i<j→j<n→(∀ b,b<n→M i b=M j b)→detF n M=0:=by
  intro i j hij hj h
  have h1:=detF_swap M hij hj
  have h2:detF n (fun a b=>M (trJ i j a) b)=detF n M:=detF_congr fun a b ha hb=>by
   unfold trJ
   split
   ·rename_i e;rw [e,h b hb]
   ·split
    ·rename_i e;rw [e,h b hb]
    ·rfl
  rw [h2] at h1
  exact rat_neg_self h1
 rcases Nat.lt_or_gt_of_ne hne with e | e
 ·exact key i j e hj h
 ·exact key j i e hi (fun b hb=>(h b hb).symm)
theorem detF_zero_row {n:Nat} {M:Nat→Nat→Rat} {r:Nat} (hr:r<n) (h:∀ b,b<n→M r b=0):detF n M=0:=by
 have h1:=detF_row M hr (fun _=>0) (fun _=>0) (-1)
 have h2:detF n (updR M r fun _=>0)=detF n M:=detF_congr fun a b ha hb=>by
  unfold updR;split
  ·rename_i e;rw [e,h b hb]
  ·rfl
 rw [show (fun b:Nat=>(0:Rat)+-1*0)=fun _=>0 by funext b;grind,h2] at h1
 grind
def detG:Nat→(Nat→Nat→Rat)→Rat
 | 0,_=>1
 | n+1,M=>sumQ (n+1) fun j=>sgnQ j*M 0 j*detG n fun a b=>M (a+1) (sk j b)
theorem detG_tr (n:Nat) (M:Nat→Nat→Rat):detG n M=detF n fun a b=>M b a:=by
 induction n generalizing M with
 | zero=>rfl
 | succ n ih =>
  show sumQ (n+1) _=sumQ (n+1) _
  refine sumQ_congr fun i hi=>?_
  rw [ih]
theorem sk_succ_zero (i:Nat):sk (i+1) 0=0:=by unfold sk;rw [if_pos (by omega)]
theorem sk_succ (i a:Nat):sk (i+1) (a+1)=sk i a+1:=by
 unfold sk;by_cases h:a<i
 ·rw [if_pos h,if_pos (by omega)]
 ·rw [if_neg h,if_neg (by omega)]
theorem detF_eq_detG:∀ (n:Nat) (M:Nat→Nat→Rat),detF n M=detG n M∧detF (n+1) M=detG (n+1) M
 | 0,M=>⟨rfl,rfl⟩
 | n+1,M=>by
  refine ⟨(detF_eq_detG n M).2,?_⟩
  have h1:detF (n+2) M=sgnQ 0*M 0 0*detF (n+1) (fun a b=>M (a+1) (b+1))+sumQ (n+1) fun i=>sumQ (n+1) fun j=>sgnQ (i+1)*M (i+1) 0*(sgnQ j*M 0 (j+1)*detF n (fun a b=>M (sk i a+1) (sk j b+1))):=by
   show sumQ (n+2) _=_
   rw [sumQ_head]
   congr 1
   refine sumQ_congr fun i hi=>?_
   rw [sumQ_mul]
   congr 1
   rw [(detF_eq_detG n _).2]
   show sumQ (n+1) _=sumQ (n+1) _
   refine sumQ_congr fun j hj=>?_
   rw [← (detF_eq_detG n _).1]
   simp only [sk_succ,sk_succ_zero]
  have h2:detG (n+2) M=sgnQ 0*M 0 0*detG (n+1) (fun a b=>M (a+1) (b+1))+sumQ (n+1) fun j=>sumQ (n+1) fun i=>sgnQ (j+1)*M 0 (j+1)*(sgnQ i*M (i+1) 0*detF n (fun a b=>M (sk i a+1) (sk j b+1))):=by
   show sumQ (n+2) _=_
   rw [sumQ_head]
   congr 1
   refine sumQ_congr fun j hj=>?_
   rw [sumQ_mul]
   congr 1
   rw [← (detF_eq_detG n _).2]
   show sumQ (n+1) _=sumQ (n+1) _
   refine sumQ_congr fun i hi=>?_
   simp only [sk_succ,sk_succ_zero]
  rw [h1,h2,← (detF_eq_detG n _).2]
  congr 1
  rw [sumQ_comm]
  refine sumQ_congr fun j hj=>sumQ_congr fun i hi=>?_
  rw [sgnQ_succ,sgnQ_succ];grind
theorem detF_tr (n:Nat) (M:Nat→Nat→Rat):detF n (fun a b=>M b a)=detF n M:=by
 rw [← detG_tr,(detF_eq_detG n M).1]
theorem detF_last {n:Nat} {M:Nat→Nat→Rat} (h:∀ a,a<n→M a n=0):detF (n+1) M=M n n*detF n M:=by
 induction n generalizing M with
 | zero=>show (0:Rat)+sgnQ 0*M 0 0*1=M 0 0*1;unfold sgnQ;rw [if_pos rfl];grind
 | succ n ih =>
  show sumQ (n+1) _+sgnQ (n+1)*M (n+1) 0*detF (n+1) (fun a b=>M (sk (n+1) a) (b+1))=M (n+1) (n+1)*sumQ (n+1) _
  have h0:detF (n+1) (fun a b=>M (sk (n+1) a) (b+1))=0:=by
   rw [← detF_tr]
   refine detF_zero_row (r:=n) (by omega) fun b hb=>?_
   show M (sk (n+1) b) (n+1)=0
   exact h _ (by unfold sk;rw [if_pos hb];exact hb)
  rw [h0,← sumQ_mul]
  rw [show ∀ x y:Rat,x+y*0=x by intros;grind]
  refine sumQ_congr fun i hi=>?_
  rw [ih (M:=fun a b=>M (sk i a) (b+1)) (fun a ha=>h _ (by unfold sk;split <;> omega))]
  have:sk i n=n+1:=by unfold sk;rw [if_neg (by omega)]
  simp only [this]
  grind
theorem detF_col {n:Nat} (M:Nat→Nat→Rat) {r:Nat} (hr:r<n) (u v:Nat→Rat) (c:Rat) :
  detF n (fun a b=>if b=r then u a+c*v a else M a b)=detF n (fun a b=>if b=r then u a else M a b)+c*detF n (fun a b=>if b=r then v a else M a b):=by
 have h:=detF_row (fun a b=>M b a) hr u v c
 rw [← detF_tr,← detF_tr n (fun a b=>if b=r then u a else M a b),← detF_tr n (fun a b=>if b=r then v a else M a b)]
 exact h
theorem detF_col_eq {n:Nat} {M:Nat→Nat→Rat} {i j:Nat} (hi:i<n) (hj:j<n) (hne:i≠j) (h:∀ b,b<n→M b i=M b j):detF n M=0:=by
 rw [← detF_tr];exact detF_eq hi hj hne h
theorem detF_col_sum {n:Nat} (M:Nat→Nat→Rat) {r:Nat} (hr:r<n) (u:Nat→Rat) (m:Nat) (f:Nat→Rat) (v:Nat→Nat→Rat) :
  detF n (fun a b=>if b=r then u a+sumQ m (fun l=>f l*v l a) else M a b)=detF n (fun a b=>if b=r then u a else M a b)+sumQ m (fun l=>f l*detF n (fun a b=>if b=r then v l a else M a b)):=by
 induction m with
 | zero =>
  show detF n (fun a b=>if b=r then u a+0 else M a b)=_+(0:Rat)
  rw [show (fun a b=>if b=r then u a+0 else M a b)=fun a b=>if b=r then u a else M a b by funext a b;split <;> grind]
  grind
 | succ m ih =>
  show detF n (fun a b=>if b=r then u a+(sumQ m (fun l=>f l*v l a)+f m*v m a) else M a b)=_+(sumQ m _+f m*_)
  rw [show (fun a b=>if b=r then u a+(sumQ m (fun l=>f l*v l a)+f m*v m a) else M a b)=fun a b=>if b=r then (u a+sumQ m (fun l=>f l*v l a))+f m*v m a else M a b by funext a b;split <;> grind]
  rw [detF_col M hr (fun a=>u a+sumQ m (fun l=>f l*v l a)) (v m) (f m),ih]
  grind
end Go.Proofs.YtjlkkofmojgipaaGreatDoor
