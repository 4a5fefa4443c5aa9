import Derived.Test.YtjlkkofmojgipaaGreatDoorPBJ
import Derived.Test.YtjlkkofmojgipaaGreatDoorPBG
import Derived.Test.YtjlkkofmojgipaaGreatDoorPAL
import Derived.Test.YtjlkkofmojgipaaGreatDoorPAM
import Derived.Test.YtjlkkofmojgipaaGreatDoorPAP
import Derived.Test.YtjlkkofmojgipaaGreatDoorPAN
import Derived.Test.YtjlkkofmojgipaaGreatDoorPAQ
namespace Go.Proofs.YtjlkkofmojgipaaGreatDoor
set_option linter.unusedVariables false
set_option linter.unusedSimpArgs false
open Go.RowKit
theorem rSplitI_any (u:Nat) (w:World) (hs:(numB u).size≤400000) :
  Calls Tryz.prog 130 #[.string (numB u)] w fun e w'=>∃ v l,e=.returned v∧Hid (OwnJ w.heap.size w' v l∧Can l∧lv l=u∧l.length≤(numB u).size)∧Ext w w':=by
 have h:=rSplit_any (numB u) w (by rw [numB_data];exact digits_all _) hs
 rw [numB_data,digits_val] at h
 exact h
theorem nat_size_le (n:Int):(numB n.natAbs).size≤(intB n).size:=by
 by_cases h:n<0
 ·rw [intB_size_neg n h];omega
 ·rw [intB_pos n (by omega)]
  have:n.natAbs=n.toNat:=by omega
  rw [this];exact Nat.le_refl _
set_option maxRecDepth 100000 in
set_option maxHeartbeats 4000000 in
theorem rAdd_any (x y:Int) (w:World) (hx:(intB x).size≤15000) (hy:(intB y).size≤15000) (ht:Pow10 w) :
  Calls Tryz.prog 73 #[.string (intB x),.string (intB y)] w fun e w'=>e=.returned (.string (intB (x+y)))∧Ext w w':=by
 have HT:=Lib.hid ht
 have hux:=nat_size_le x
 have huy:=nat_size_le y
 have H1:=Lib.hid (rQuickG_any x w (by omega))
 have H2:Hid (∀ W,Calls Tryz.prog 126 #[.string (intB y)] W fun e w'=>e=.returned (.tuple #[.int .i64 (qkV y),.bool (qkB y)])∧Ext W w'):=fun W=>rQuickG_any y W (by omega)
 by_cases hsm:x.natAbs<1000000000000000000∧y.natAbs<1000000000000000000
 ·have b1:qkB x=true:=decide_eq_true hsm.1
  have b2:qkB y=true:=decide_eq_true hsm.2
  have v1:qkV x=x:=if_pos hsm.1
  have v2:qkV y=y:=if_pos hsm.2
  rw [b1,v1] at H1
  rw [b2,v2] at H2
  have H3:Hid (∀ W,Ext w W→Calls Tryz.prog 69 #[.int .i64 (x+y)] W fun e w'=>e=.returned (.string (intB (x+y)))∧Ext W w'):=fun W hE=>rOf_any _ W (by omega) (by omega) (HT.out.ext hE)
  have k1:-2000000000000000000<x+y:=by omega
  have k2:x+y<2000000000000000000:=by omega
  clear b1 b2 v1 v2 hsm ht
  go_enter Tryz.func73,Tryz.ntmps73
  go_wp2_with fail
  refine H1.out.mono ?_
  rintro e w1 ⟨rfl,hE1⟩
  have HE1:=Lib.hid hE1
  clear hE1 H1
  go_wp2_with fail
  refine (H2.out _).mono ?_
  rintro e w2 ⟨rfl,hE2⟩
  have HE2:=Lib.hid (Ext.trans HE1.out hE2)
  clear hE2 H2
  go_wp2_with fail
  refine (H3.out _ HE2.out).mono ?_
  rintro e w3 ⟨rfl,hE3⟩
  have HE3:=Lib.hid (Ext.trans HE2.out hE3)
  clear hE3 H3
  go_wp2_with fail
  go_ret
  exact ⟨rfl,HE3.out⟩
 ·have hbb:qkB x=false∨(qkB x=true∧qkB y=false):=by
   unfold qkB
   by_cases h1:x.natAbs<1000000000000000000
   ·exact .inr ⟨decide_eq_true h1,decide_eq_false (fun h2=>hsm ⟨h1,h2⟩)⟩
   ·exact .inl (decide_eq_false h1)
  obtain ⟨vx,hvx⟩:∃ v,v=qkV x:=⟨_,rfl⟩
  obtain ⟨vy,hvy⟩:∃ v,v=qkV y:=⟨_,rfl⟩
  rw [← hvx] at H1
  rw [← hvy] at H2
  have HDX:Hid (∀ W,Calls Tryz.prog 115 #[.string (intB x)] W fun e w'=>e=.returned (.string (numB x.natAbs))∧W=w'):=fun W=>rDigits_any x W
  have HDY:Hid (∀ W,Calls Tryz.prog 115 #[.string (intB y)] W fun e w'=>e=.returned (.string (numB y.natAbs))∧W=w'):=fun W=>rDigits_any y W
  obtain ⟨s1,hs1⟩:∃ s,s=sdJ x:=⟨_,rfl⟩
  obtain ⟨s2,hs2⟩:∃ s,s=sdJ y:=⟨_,rfl⟩
  have HSX:Hid (∀ W,Calls Tryz.prog 128 #[.string (intB x)] W fun e w'=>e=.returned (.int .i64 s1)∧W=w'):=fun W=>by rw [hs1];exact rSide_any x W
  have HSY:Hid (∀ W,Calls Tryz.prog 128 #[.string (intB y)] W fun e w'=>e=.returned (.int .i64 s2)∧W=w'):=fun W=>by rw [hs2];exact rSide_any y W
  have HF1:Hid (s1=s2→sgJ (decide (s1<0)) (x.natAbs+y.natAbs)=x+y):=by
   intro e
   rw [hs1,hs2] at e
   rw [hs1]
   unfold sdJ at e ⊢
   unfold sgJ
   by_cases h1:x<0 <;> by_cases h2:y<0 <;> simp [h1,h2] at e ⊢ <;> omega
  have HF2:Hid (s1≠s2→y.natAbs≤x.natAbs→sgJ (decide (s1<0)) (x.natAbs-y.natAbs)=x+y):=by
   intro e
   rw [hs1,hs2] at e
   rw [hs1]
   unfold sdJ at e ⊢
   unfold sgJ
   by_cases h1:x<0 <;> by_cases h2:y<0 <;> simp [h1,h2] at e ⊢ <;> omega
  have HF3:Hid (s1≠s2→x.natAbs≤y.natAbs→sgJ (decide (s2<0)) (y.natAbs-x.natAbs)=x+y):=by
   intro e
   rw [hs1,hs2] at e
   rw [hs2]
   unfold sdJ at e ⊢
   unfold sgJ
   by_cases h1:x<0 <;> by_cases h2:y<0 <;> simp [h1,h2] at e ⊢ <;> omega
  clear hsm ht hvx hvy hs1 hs2
  rcases hbb with hb | ⟨hb,hb2⟩
  case' inl =>
   rw [hb] at H1
   obtain ⟨by',hby⟩:∃ b,b=qkB y:=⟨_,rfl⟩
   rw [← hby] at H2
   clear hb hby
  case' inr =>
   rw [hb] at H1
   rw [hb2] at H2
   clear hb hb2
  all_goals
   go_enter Tryz.func73,Tryz.ntmps73
   go_wp2_with fail
   refine H1.out.mono ?_
   rintro e w1 ⟨rfl,hE1⟩
   have HE1:=Lib.hid hE1
   clear hE1 H1
   go_wp2_with fail
   refine (H2.out _).mono ?_
   rintro e w2 ⟨rfl,hE2⟩
   have HE2:=Lib.hid (Ext.trans HE1.out hE2)
   clear hE2 H2
   go_wp2_with fail
   refine (HDX.out _).mono ?_
   rintro e w3 ⟨rfl,rfl⟩
   go_wp2_with fail
   refine (rSplitI_any _ _ (by omega)).mono ?_
   rintro e w3 ⟨r3,l3,rfl,hr3,hE3⟩
   have HR3:=Lib.hid hr3
   have HE3:=Lib.hid (Ext.trans HE2.out hE3)
   clear hr3 hE3
   go_wp2_with fail
   refine (HDY.out _).mono ?_
   rintro e w4 ⟨rfl,rfl⟩
   go_wp2_with fail
   refine (rSplitI_any _ _ (by omega)).mono ?_
   rintro e w4 ⟨r4,l4,rfl,hr4,hE4⟩
   have HR4:=Lib.hid hr4
   have HE4:=Lib.hid (Ext.trans HE3.out hE4)
   have HA3:=Lib.hid ((HR3.out.out.1.at).ext hE4)
   have hl3:l3.length≤15000:=by have:=HR3.out.out.2.2.2;omega
   have hl4:l4.length≤15000:=by have:=HR4.out.out.2.2.2;omega
   clear hr4 hE4
   go_wp2_with fail
   refine (HSX.out _).mono ?_
   rintro e w5 ⟨rfl,rfl⟩
   go_wp2_with fail
   refine (HSY.out _).mono ?_
   rintro e w5 ⟨rfl,rfl⟩
   by_cases hss:s1=s2
   ·have q1:(s1 == s2)=true:=by rw [hss];exact beq_self_eq_true _
    have HR:=Lib.hid (HF1.out hss)
    clear hss HF1 HF2 HF3
    go_wp2_with fail
    refine (HSX.out _).mono ?_
    rintro e w5 ⟨rfl,rfl⟩
    go_wp2_with fail
    refine (rPlus_any l3 l4 _ _ _ HA3.out HR4.out.out.1.at HR3.out.out.2.1.1 HR4.out.out.2.1.1 (by omega) (by omega)).mono ?_
    rintro e w5 ⟨r5,l5,rfl,hr5,hE5⟩
    have HE5:=Lib.hid (Ext.trans HE4.out hE5)
    have HSG:=Lib.hid (rSigned_any _ (decide (s1<0)) l5 r5 w5 hr5.out.1 hr5.out.2.1 (by have:=hr5.out.2.2.2;omega) (HT.out.ext HE5.out))
    rw [hr5.out.2.2.1,HR3.out.out.2.2.1,HR4.out.out.2.2.1,HR.out] at HSG
    clear hr5 hE5
    go_wp2_with fail
    refine HSG.out.mono ?_
    rintro e w6 ⟨rfl,hE6⟩
    have HE6:=Lib.hid (Ext.trans HE5.out hE6)
    clear hE6
    go_wp2_with fail
    go_ret
    exact ⟨rfl,HE6.out⟩
   ·have q1:(s1 == s2)=false:=by rw [beq_eq_false_iff_ne];exact hss
    have HR2:=Lib.hid (HF2.out hss)
    have HR3':=Lib.hid (HF3.out hss)
    clear hss HF1 HF2 HF3
    go_wp2_with fail
    refine (rOrder_any l3 l4 _ _ _ HA3.out HR4.out.out.1.at HR3.out.out.2.1 HR4.out.out.2.1 (by omega) (by omega)).mono ?_
    rintro e w5 ⟨rfl,hE5⟩
    have HE5:=Lib.hid (Ext.trans HE4.out hE5)
    have HX5:=Lib.hid hE5
    rw [HR3.out.out.2.2.1,HR4.out.out.2.2.1]
    clear hE5
    by_cases hle:y.natAbs≤x.natAbs
    ·have hc:0≤cmpN x.natAbs y.natAbs:=by
      unfold cmpN;rw [if_neg (by omega)];split <;> omega
     have HR:=Lib.hid (HR2.out hle)
     have HLE:=Lib.hid hle
     obtain ⟨c,hcc⟩:∃ c,c=cmpN x.natAbs y.natAbs:=⟨_,rfl⟩
     rw [← hcc] at hc ⊢
     clear hcc hle
     go_wp2_with fail
     refine (HSX.out _).mono ?_
     rintro e w6 ⟨rfl,rfl⟩
     go_wp2_with fail
     refine (rMinus_any l3 l4 _ _ _ (HA3.out.ext HX5.out) ((HR4.out.out.1.at).ext HX5.out) HR3.out.out.2.1 HR4.out.out.2.1 (by rw [HR3.out.out.2.2.1,HR4.out.out.2.2.1];exact HLE.out) (by omega)).mono ?_
     rintro e w6 ⟨r6,l6,rfl,hr6,hE6⟩
     have HE6:=Lib.hid (Ext.trans HE5.out hE6)
     have HSG:=Lib.hid (rSigned_any _ (decide (s1<0)) l6 r6 w6 hr6.out.1 hr6.out.2.1.1 (by have:=hr6.out.2.2.2;omega) (HT.out.ext HE6.out))
     rw [hr6.out.2.2.1,HR3.out.out.2.2.1,HR4.out.out.2.2.1,HR.out] at HSG
     clear hr6 hE6
     go_wp2_with fail
     refine HSG.out.mono ?_
     rintro e w7 ⟨rfl,hE7⟩
     have HE7:=Lib.hid (Ext.trans HE6.out hE7)
     clear hE7
     go_wp2_with fail
     go_ret
     exact ⟨rfl,HE7.out⟩
    ·have hc:¬ 0≤cmpN x.natAbs y.natAbs:=by rw [cmpN_lt (by omega)];omega
     have HR:=Lib.hid (HR3'.out (by omega))
     have HLE:Hid (x.natAbs≤y.natAbs):=by unfold Hid;omega
     obtain ⟨c,hcc⟩:∃ c,c=cmpN x.natAbs y.natAbs:=⟨_,rfl⟩
     rw [← hcc] at hc ⊢
     clear hcc hle
     go_wp2_with fail
     refine (HSY.out _).mono ?_
     rintro e w6 ⟨rfl,rfl⟩
     go_wp2_with fail
     refine (rMinus_any l4 l3 _ _ _ ((HR4.out.out.1.at).ext HX5.out) (HA3.out.ext HX5.out) HR4.out.out.2.1 HR3.out.out.2.1 (by rw [HR3.out.out.2.2.1,HR4.out.out.2.2.1];exact HLE.out) (by omega)).mono ?_
     rintro e w6 ⟨r6,l6,rfl,hr6,hE6⟩
     have HE6:=Lib.hid (Ext.trans HE5.out hE6)
     have HSG:=Lib.hid (rSigned_any _ (decide (s2<0)) l6 r6 w6 hr6.out.1 hr6.out.2.1.1 (by have:=hr6.out.2.2.2;omega) (HT.out.ext HE6.out))
     rw [hr6.out.2.2.1,HR3.out.out.2.2.1,HR4.out.out.2.2.1,HR.out] at HSG
     clear hr6 hE6
     go_wp2_with fail
     refine HSG.out.mono ?_
     rintro e w7 ⟨rfl,hE7⟩
     have HE7:=Lib.hid (Ext.trans HE6.out hE7)
     clear hE7
     go_wp2_with fail
     go_ret
     exact ⟨rfl,HE7.out⟩
set_option maxRecDepth 100000 in
set_option maxHeartbeats 4000000 in
theorem rMul_any (x y:Int) (w:World) (hx:(intB x).size≤15000) (hy:(intB y).size≤15000) (ht:Pow10 w) :
  Calls Tryz.prog 68 #[.string (intB x),.string (intB y)] w fun e w'=>e=.returned (.string (intB (x*y)))∧Ext w w':=by
 have HT:=Lib.hid ht
 have hux:=nat_size_le x
 have huy:=nat_size_le y
 have HDX:Hid (∀ W,Calls Tryz.prog 115 #[.string (intB x)] W fun e w'=>e=.returned (.string (numB x.natAbs))∧W=w'):=fun W=>rDigits_any x W
 have HDY:Hid (∀ W,Calls Tryz.prog 115 #[.string (intB y)] W fun e w'=>e=.returned (.string (numB y.natAbs))∧W=w'):=fun W=>rDigits_any y W
 by_cases hsm:(numB x.natAbs).size+(numB y.natAbs).size≤18
 ·have hX:=Lib.lt_pow_nDigits x.natAbs
  have hY:=Lib.lt_pow_nDigits y.natAbs
  have hsm':=hsm
  rw [numB_size,numB_size] at hsm'
  have hpp:x.natAbs*y.natAbs<10^18:=by
   have h1:x.natAbs*y.natAbs<10^Lib.nDigits x.natAbs*10^Lib.nDigits y.natAbs:=Nat.mul_lt_mul'' hX hY
   rw [← Nat.pow_add] at h1
   exact Nat.lt_of_lt_of_le h1 (Nat.pow_le_pow_right (by omega) hsm')
  rw [show (10:Nat)^18=1000000000000000000 by decide,← Int.natAbs_mul] at hpp
  have hx18:x.natAbs<1000000000000000000:=by
   have:10^Lib.nDigits x.natAbs≤10^18:=Nat.pow_le_pow_right (by omega) (by omega)
   rw [show (10:Nat)^18=1000000000000000000 by decide] at this
   omega
  have hy18:y.natAbs<1000000000000000000:=by
   have:10^Lib.nDigits y.natAbs≤10^18:=Nat.pow_le_pow_right (by omega) (by omega)
   rw [show (10:Nat)^18=1000000000000000000 by decide] at this
   omega
  have H1:Hid (∀ W,Calls Tryz.prog 126 #[.string (intB x)] W fun e w'=>e=.returned (.tuple #[.int .i64 x,.bool true])∧Ext W w'):=fun W=>rQuick_any x W (by omega)
  have H2:Hid (∀ W,Calls Tryz.prog 126 #[.string (intB y)] W fun e w'=>e=.returned (.tuple #[.int .i64 y,.bool true])∧Ext W w'):=fun W=>rQuick_any y W (by omega)
  obtain ⟨z,hz⟩:∃ z,x*y=z:=⟨_,rfl⟩
  rw [hz] at hpp ⊢
  have H3:Hid (∀ W,Ext w W→Calls Tryz.prog 69 #[.int .i64 z] W fun e w'=>e=.returned (.string (intB z))∧Ext W w'):=fun W hE=>rOf_any _ W (by omega) (by omega) (HT.out.ext hE)
  have hsz:((numB x.natAbs).size:Int)+((numB y.natAbs).size:Int)≤18:=by omega
  have k1:-1000000000000000000<z:=by omega
  have k2:z<1000000000000000000:=by omega
  have e1:IntKind.i64.wrap z=z:=by rw [IntKind.wrap_i64];omega
  clear hX hY hsm' hpp hsm
  go_enter Tryz.func68,Tryz.ntmps68
  go_wp2_with fail
  refine (HDX.out _).mono ?_
  rintro e w1 ⟨rfl,rfl⟩
  go_wp2_with fail
  refine (HDY.out _).mono ?_
  rintro e w1 ⟨rfl,rfl⟩
  go_wp2_with fail
  refine (H1.out _).mono ?_
  rintro e w1 ⟨rfl,hE1⟩
  have HE1:=Lib.hid hE1
  clear hE1 H1
  go_wp2_with fail
  refine (H2.out _).mono ?_
  rintro e w2 ⟨rfl,hE2⟩
  have HE2:=Lib.hid (Ext.trans HE1.out hE2)
  clear hE2 H2
  go_wp2_with fail
  refine (H3.out _ HE2.out).mono ?_
  rintro e w3 ⟨rfl,hE3⟩
  have HE3:=Lib.hid (Ext.trans HE2.out hE3)
  clear hE3 H3
  go_wp2_with fail
  go_ret
  exact ⟨rfl,HE3.out⟩
 ·have hsz:¬ ((numB x.natAbs).size:Int)+((numB y.natAbs).size:Int)≤18:=by omega
  obtain ⟨s1,hs1⟩:∃ s,s=sdJ x:=⟨_,rfl⟩
  obtain ⟨s2,hs2⟩:∃ s,s=sdJ y:=⟨_,rfl⟩
  have HSX:Hid (∀ W,Calls Tryz.prog 128 #[.string (intB x)] W fun e w'=>e=.returned (.int .i64 s1)∧W=w'):=fun W=>by rw [hs1];exact rSide_any x W
  have HSY:Hid (∀ W,Calls Tryz.prog 128 #[.string (intB y)] W fun e w'=>e=.returned (.int .i64 s2)∧W=w'):=fun W=>by rw [hs2];exact rSide_any y W
  have HF:Hid (sgJ (s1 != s2) (x.natAbs*y.natAbs)=x*y):=by
   unfold Hid
   rw [hs1,hs2]
   unfold sdJ sgJ
   have e:((x.natAbs*y.natAbs:Nat):Int)=((x.natAbs:Int)*(y.natAbs:Int)):=Int.natCast_mul _ _
   by_cases h1:x<0 <;> by_cases h2:y<0
   ·have e1:x=-(x.natAbs:Int):=by omega
    have e2:y=-(y.natAbs:Int):=by omega
    simp only [h1,h2,if_true,bne_self_eq_false,Bool.false_eq_true,if_false,e]
    rw (occs:=.pos [2]) [e1]
    conv=>rhs;rw [e2]
    rw [Int.neg_mul_neg]
   ·have e1:x=-(x.natAbs:Int):=by omega
    have e2:y=(y.natAbs:Int):=by omega
    have e3:((-1:Int) != 1)=true:=by decide
    simp only [h1,h2,if_true,if_false,e,e3]
    rw (occs:=.pos [2]) [e1]
    conv=>rhs;rw [e2]
    rw [Int.neg_mul]
   ·have e1:x=(x.natAbs:Int):=by omega
    have e2:y=-(y.natAbs:Int):=by omega
    have e3:((1:Int) != -1)=true:=by decide
    simp only [h1,h2,if_true,if_false,e,e3]
    rw (occs:=.pos [2]) [e1]
    conv=>rhs;rw [e2]
    rw [Int.mul_neg]
   ·have e1:x=(x.natAbs:Int):=by omega
    have e2:y=(y.natAbs:Int):=by omega
    simp only [h1,h2,if_false,bne_self_eq_false,Bool.false_eq_true,e]
    rw (occs:=.pos [2]) [e1]
    conv=>rhs;rw [e2]
  clear hsm hs1 hs2
  go_enter Tryz.func68,Tryz.ntmps68
  go_wp2_with fail
  refine (HDX.out _).mono ?_
  rintro e w1 ⟨rfl,rfl⟩
  go_wp2_with fail
  refine (HDY.out _).mono ?_
  rintro e w1 ⟨rfl,rfl⟩
  go_wp2_with fail
  refine (HSX.out _).mono ?_
  rintro e w1 ⟨rfl,rfl⟩
  go_wp2_with fail
  refine (HSY.out _).mono ?_
  rintro e w1 ⟨rfl,rfl⟩
  go_wp2_with fail
  refine (HDX.out _).mono ?_
  rintro e w1 ⟨rfl,rfl⟩
  go_wp2_with fail
  refine (rSplitI_any _ _ (by omega)).mono ?_
  rintro e w3 ⟨r3,l3,rfl,hr3,hE3⟩
  have HR3:=Lib.hid hr3
  have HE3:=Lib.hid hE3
  clear hr3 hE3
  go_wp2_with fail
  refine (HDY.out _).mono ?_
  rintro e w1 ⟨rfl,rfl⟩
  go_wp2_with fail
  refine (rSplitI_any _ _ (by omega)).mono ?_
  rintro e w4 ⟨r4,l4,rfl,hr4,hE4⟩
  have HR4:=Lib.hid hr4
  have HE4:=Lib.hid (Ext.trans HE3.out hE4)
  have HA3:=Lib.hid ((HR3.out.out.1.at).ext hE4)
  have hl3:l3.length≤15000:=by have:=HR3.out.out.2.2.2;omega
  have hl4:l4.length≤15000:=by have:=HR4.out.out.2.2.2;omega
  clear hr4 hE4
  go_wp2_with fail
  refine (rTimes_any l3 l4 _ _ _ HA3.out HR4.out.out.1.at HR3.out.out.2.1.1 HR4.out.out.2.1.1 (by omega) (by omega)).mono ?_
  rintro e w5 ⟨r5,l5,rfl,hr5,hE5⟩
  have HE5:=Lib.hid (Ext.trans HE4.out hE5)
  have HSG:=Lib.hid (rSigned_any _ (s1 != s2) l5 r5 w5 hr5.out.1 hr5.out.2.1.1 (by have:=hr5.out.2.2.2;omega) (HT.out.ext HE5.out))
  rw [hr5.out.2.2.1,HR3.out.out.2.2.1,HR4.out.out.2.2.1,HF.out] at HSG
  clear hr5 hE5
  go_wp2_with fail
  refine HSG.out.mono ?_
  rintro e w6 ⟨rfl,hE6⟩
  have HE6:=Lib.hid (Ext.trans HE5.out hE6)
  clear hE6
  go_wp2_with fail
  go_ret
  exact ⟨rfl,HE6.out⟩
theorem fits_any (n:Int) (w:World):Calls Tryz.prog 24 #[.int .i64 n] w fun e w'=>e=.returned (.bool (fitB n))∧w=w':=by
 by_cases h:n≤1000000000
 ·by_cases h2:-1000000000≤n
  ·go_enter Tryz.func24,Tryz.ntmps24
   go_wp2
   go_ret
   exact ⟨by simp [fitB,h,h2];try omega,rfl⟩
  ·go_enter Tryz.func24,Tryz.ntmps24
   go_wp2
   go_ret
   exact ⟨by simp [fitB,h,h2];try omega,rfl⟩
 ·go_enter Tryz.func24,Tryz.ntmps24
  go_wp2
  go_ret
  exact ⟨by simp [fitB,h];try omega,rfl⟩
def mostL (xss:List (List Int)):Nat:=xss.foldl (fun m r=>max m r.length) 0
def fewP (xss:List (List Int)):Prop:=(xss.length≤4∧mostL xss≤5)∨(12≤xss.length∧xss.length≤14∧mostL xss≤2)∨(xss.length≤2∧11≤mostL xss∧mostL xss≤14)
instance (xss:List (List Int)):Decidable (fewP xss):=inferInstanceAs (Decidable (_∨_))
theorem Build.strV {w:World} {base:Nat} {e:TypeId} {v:Value} {xs:List Int} (h:Build w base e 1 v numC xs):w.ownsRow base e 1 v xs.length (xs.map fun x=>Value.string (intB x)):=by
 obtain ⟨us,h1,h2,h3,h4⟩:=h
 have:us=xs.map fun x=>[Value.string (intB x)]:=by
  apply List.ext_getElem?
  intro i
  rw [List.getElem?_map]
  by_cases hi:i<xs.length
  ·have hi2:i<us.length:=by omega
   have:=(h4 i us[i] xs[i] (by simp [hi2]) (by simp [hi])).now
   simp only [numC] at this
   simp [hi,hi2,this]
  ·rw [List.getElem?_eq_none (by omega),List.getElem?_eq_none (by omega)];rfl
 rw [this,flatten_one (fun x=>Value.string (intB x))] at h3
 exact h3
theorem RowN.of_build {w:World} {base:Nat} {e:TypeId} {v:Value} {xs:List Int} (h:Build w base e 1 v numC xs) (hne:0<xs.length) :
  ∃ g cap,v=.slice (some ⟨g,0,none⟩) xs.length cap∧RowN w g xs∧base≤g∧xs.length≤cap∧cap≤9223372036854775807:=by
 have hs:=h.strV
 have hc:=fun g hg=>hs.cells (g:=g) hg
 have hs0:=hs
 rcases hs.2 with ⟨hv,h0⟩ | ⟨g,cap,cur,hv,hb,hg,h1,h2,h3,h4⟩
 ·omega
 ·subst hv
  refine ⟨g,cap,rfl,⟨(Array.getElem?_eq_some_iff.1 hg).1,fun j x hx=>?_,fun j=>hs0.frozenAt j⟩,hb,h1,h2⟩
  have:=hc g (by simp [Value.ownBlock]) j (.string (intB x)) (by rw [List.getElem?_map,hx];rfl)
  rw [show (⟨g,0,none⟩:Addr).add j=⟨g,j,none⟩ by unfold Addr.add;split <;> simp_all] at this
  exact this
end Go.Proofs.YtjlkkofmojgipaaGreatDoor
