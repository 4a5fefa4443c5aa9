import Derived.Test.YtjlkkofmojgipaaGreatDoorTAE
import Derived.Test.YtjlkkofmojgipaaGreatDoorTAG
import Derived.Test.YtjlkkofmojgipaaGreatDoorTAB
namespace Go.Proofs.YtjlkkofmojgipaaGreatDoor
set_option linter.unusedVariables false
set_option linter.unusedSimpArgs false
open Go.RowKit
set_option maxRecDepth 100000 in
set_option maxHeartbeats 400000 in
theorem rSign_any (n:Int) (w:World) :
  Calls Tryz.prog 86 #[.string (intB n)] w fun e w'=>e=.returned (.int .i64 n.sign)∧w=w':=by
 have hp0:0<(intB n).size:=intB_size_pos n
 have hz:=int_zero n
 by_cases h0:n=0
 ·rw [decide_eq_true h0] at hz
  have HR:Hid (n.sign=0):=by unfold Hid;rw [h0];rfl
  rw [HR.out]
  clear h0 HR
  go_enter Tryz.func86,Tryz.ntmps86
  go_wp2_with fail
  go_ret
  exact ⟨rfl,rfl⟩
 ·rw [decide_eq_false h0] at hz
  by_cases h:n<0
  ·have q:=neg_head n h hp0
   have HR:Hid (n.sign=-1):=Int.sign_eq_neg_one_of_neg h
   rw [HR.out]
   clear h0 h HR
   go_enter Tryz.func86,Tryz.ntmps86
   go_wp2_with fail
   go_ret
   exact ⟨rfl,rfl⟩
  ·have q:=dig_head (intB n) n.toNat (intB_pos n (by omega)) hp0
   have HR:Hid (n.sign=1):=Int.sign_eq_one_of_pos (by omega)
   rw [HR.out]
   clear h0 h HR
   go_enter Tryz.func86,Tryz.ntmps86
   go_wp2_with fail
   go_ret
   exact ⟨rfl,rfl⟩
set_option maxRecDepth 100000 in
theorem rOf_any (n:Int) (w:World) (h1:-9223372036854775808≤n) (h2:n≤9223372036854775807) (ht:Pow10 w) :
  Calls Tryz.prog 69 #[.int .i64 n] w fun e w'=>e=.returned (.string (intB n))∧Ext w w':=by
 have HA:=Lib.hid (itoa_int n w h1 h2 ht)
 clear ht
 go_enter Tryz.func69,Tryz.ntmps69
 go_wp2_with fail
 refine HA.out.mono ?_
 rintro e w1 ⟨rfl,hE1⟩
 have HE1:=Lib.hid hE1
 clear hE1 HA
 go_wp2_with fail
 go_ret
 exact ⟨rfl,HE1.out⟩
set_option maxRecDepth 100000 in
set_option maxHeartbeats 400000 in
theorem rDigits_any (n:Int) (w:World) :
  Calls Tryz.prog 115 #[.string (intB n)] w fun e w'=>e=.returned (.string (numB n.natAbs))∧w=w':=by
 have hp0:0<(intB n).size:=intB_size_pos n
 have hp':(0:Int)<((intB n).size:Int):=by omega
 by_cases h:n<0
 ·have q:=neg_head n h hp0
  have HT:=Lib.hid (neg_tail n h)
  have hp1:(1:Int)≤((intB n).size:Int):=by omega
  have hp2:1≤(intB n).size:=hp0
  clear h
  go_enter Tryz.func115,Tryz.ntmps115
  go_wp2_with fail
  go_ret
  exact ⟨by rw [← HT.out];rfl,rfl⟩
 ·have q:=dig_head (intB n) n.toNat (intB_pos n (by omega)) hp0
  have HR:Hid (intB n=numB n.natAbs):=by unfold Hid;rw [intB_pos n (by omega)];congr 1;omega
  clear h
  go_enter Tryz.func115,Tryz.ntmps115
  go_wp2_with fail
  go_ret
  exact ⟨by rw [← HR.out];rfl,rfl⟩
structure TextAt (s:ByteArray) (i0 u:Nat):Prop where
 size:i0≤s.size
 digs:(s.data.toList.drop i0).all isDig=true
 val:decV 0 (s.data.toList.drop i0)=u
def preV (s:ByteArray) (i0 i:Nat):Nat:=decV 0 ((s.data.toList.drop i0).take (i-i0))
theorem preV_succ {s:ByteArray} {i0 i:Nat} (h0:i0≤i) (hi:i<s.size):preV s i0 (i+1)=preV s i0 i*10+(s[i].toNat-48):=by
 unfold preV
 have h1:(s.data.toList.drop i0)[i-i0]?=some s[i]:=by
  rw [List.getElem?_drop,show i0+(i-i0)=i by omega]
  exact bytes_get s i hi
 rw [show i+1-i0=(i-i0)+1 by omega,List.take_add_one,h1,decV_append]
 rfl
theorem TextAt.dig {s:ByteArray} {i0 u:Nat} (h:TextAt s i0 u) {i:Nat} (h0:i0≤i) (hi:i<s.size):48≤s[i].toNat∧s[i].toNat≤57:=by
 have h1:(s.data.toList.drop i0)[i-i0]?=some s[i]:=by
  rw [List.getElem?_drop,show i0+(i-i0)=i by omega]
  exact bytes_get s i hi
 exact of_decide_eq_true (List.all_eq_true.1 h.digs _ (List.mem_of_getElem? h1))
theorem TextAt.le {s:ByteArray} {i0 u:Nat} (h:TextAt s i0 u) (i:Nat):preV s i0 i≤u:=by
 have hs:s.data.toList.drop i0=(s.data.toList.drop i0).take (i-i0)++(s.data.toList.drop i0).drop (i-i0):=(List.take_append_drop _ _).symm
 rw [← h.val,hs,decV_append]
 unfold preV
 exact decV_self _ _
theorem TextAt.all {s:ByteArray} {i0 u:Nat} (h:TextAt s i0 u):preV s i0 s.size=u:=by
 unfold preV
 rw [List.take_of_length_le (by rw [List.length_drop,← Lib.size_eq];omega)]
 exact h.val
theorem dig_ne (u:Nat):Lib.decDigits u≠[]:=by
 have h:=(itoa_canon (u:Int)).2.2.2
 have e:Lib.itoa (u:Int)=Lib.decDigits u:=by unfold Lib.itoa;rw [if_neg (by omega)];rfl
 rwa [e] at h
theorem decV_digits (u:Nat):decV 0 (Lib.decDigits u)=u:=by
 have h:=(itoa_canon (u:Int)).2.1
 have e:Lib.itoa (u:Int)=Lib.decDigits u:=by unfold Lib.itoa;rw [if_neg (by omega)];rfl
 rw [e] at h
 have hd:=digits_all u
 cases hl:Lib.decDigits u with
 | nil=>have:=dig_ne u;rw [hl] at this;exact absurd rfl this
 | cons c r =>
  rw [hl] at h hd
  have hc:isDig c=true:=by simp only [List.all_cons,Bool.and_eq_true] at hd;exact hd.1
  have hne:c≠45:=by intro e;rw [e] at hc;revert hc;decide
  rw [numS_other hne] at h
  exact Int.ofNat.inj h
theorem text_int (n:Int):TextAt (intB n) (if n<0 then 1 else 0) n.natAbs:=by
 by_cases h:n<0
 ·rw [if_pos h]
  have hl:(intB n).data.toList.drop 1=Lib.decDigits n.natAbs:=by rw [intB_neg n h,numB_data];rfl
  exact ⟨by have:=intB_size_pos n;omega,by rw [hl];exact digits_all _,by rw [hl];exact decV_digits _⟩
 ·rw [if_neg h]
  have hl:(intB n).data.toList.drop 0=Lib.decDigits n.natAbs:=by rw [intB_pos n (by omega),numB_data,List.drop_zero];congr 1;omega
  exact ⟨Nat.zero_le _,by rw [hl];exact digits_all _,by rw [hl];exact decV_digits _⟩
set_option maxRecDepth 100000 in
set_option maxHeartbeats 2000000 in
theorem rSmall_any (n:Int) (w:World) (hn:-1000000000000000000<n∧n<1000000000000000000) :
  Calls Tryz.prog 178 #[.string (intB n)] w fun e w'=>e=.returned (.tuple #[.int .i64 n,.bool true])∧Ext w w':=by
 have HT:=Lib.hid (text_int n)
 have hp0:0<(intB n).size:=intB_size_pos n
 have hp':(0:Int)<((intB n).size:Int):=by omega
 obtain ⟨u,hu⟩:∃ u,u=n.natAbs:=⟨_,rfl⟩
 rw [← hu] at HT
 have hub:u<1000000000000000000:=by omega
 have hsz:(intB n).size≤19:=by
  have h1:=intB_size_le n
  have h2:=numB_size_le n.natAbs 18 (by rw [show (10:Nat)^18=1000000000000000000 by decide];omega) (by omega)
  omega
 by_cases h:n<0
 case' pos =>
  rw [if_pos h] at HT
  have q:=neg_head n h hp0
  have hs2:2≤(intB n).size:=by
   rw [intB_size_neg n h]
   have:0<(numB n.natAbs).size:=by rw [Lib.size_eq,numB_data];exact List.length_pos_iff.2 (dig_ne _)
   omega
  have q2:((1:Int) == ((intB n).size:Int))=false:=by rw [beq_eq_false_iff_ne];omega
  have hnu:n=-(u:Int):=by omega
  obtain ⟨i0,hi0⟩:∃ i0:Nat,i0=1:=⟨1,rfl⟩
 case' neg =>
  rw [if_neg h] at HT
  have q:=dig_head (intB n) n.toNat (intB_pos n (by omega)) hp0
  have q2:((0:Int) == ((intB n).size:Int))=false:=by rw [beq_eq_false_iff_ne];omega
  have hnu:n=(u:Int):=by omega
  obtain ⟨i0,hi0⟩:∃ i0:Nat,i0=0:=⟨0,rfl⟩
 all_goals
  have HI:=Lib.hid hi0
  have HNU:=Lib.hid hnu
  rw [← hi0] at HT
  clear h hu hi0 hnu
  generalize intB n=s at *
  go_enter Tryz.func178,Tryz.ntmps178
  go_wp2_with fail
  clear q q2
  go_loopw [5,7] (fun t v wr=>∃ i:Nat,i0≤i∧i≤s.size∧t=.int .i64 (i:Int)∧v=.int .i64 (-(preV s i0 i:Int))∧Ext w wr) (fun t _ _=>s.size-(intOf t).toNat)
  case atStart=>exact ⟨i0,Nat.le_refl _,HT.out.size,by rw [HI.out];rfl,by unfold preV;rw [Nat.sub_self];rfl,by first | exact Ext.refl _ | exact Ext.drew _⟩
  case round =>
   obtain ⟨i,hi1,hi2,rfl,rfl,hE⟩:=hrel
   by_cases hlt:i<s.size
   ·obtain ⟨dg1,dg2⟩:=HT.out.dig hi1 hlt
    have hsu:=preV_succ hi1 hlt
    have hle:=HT.out.le (i+1)
    obtain ⟨z,hz⟩:∃ z:Nat,s[i].toNat=z+48:=⟨s[i].toNat-48,by omega⟩
    obtain ⟨p,hp⟩:∃ p,p=preV s i0 i:=⟨_,rfl⟩
    rw [hz,← hp,show z+48-48=z by omega] at hsu
    have HSU:=Lib.hid hsu
    rw [hsu] at hle
    rw [← hp]
    have e1:(s[i].toNat:Int)=(z:Int)+48:=by rw [hz];rfl
    have e2:IntKind.i64.wrap ((z:Int)+48-48)=(z:Int):=by rw [IntKind.wrap_i64];omega
    have e3:¬ (9:Int)<(z:Int):=by omega
    have e4:IntKind.i64.wrap (-9223372036854775808+(z:Int))=-9223372036854775808+(z:Int):=by rw [IntKind.wrap_i64];omega
    obtain ⟨dq,hdq⟩:∃ dq,(-9223372036854775808+(z:Int)).tdiv 10=dq:=⟨_,rfl⟩
    have hdb:dq≤-900000000000000000∧-1000000000000000000≤dq:=by
     have hneg:-9223372036854775808+(z:Int)=-(9223372036854775808-(z:Int)):=by omega
     rw [hneg,Int.neg_tdiv,Int.tdiv_eq_ediv_of_nonneg (by omega)] at hdq
     omega
    have e5:IntKind.i64.wrap dq=dq:=by rw [IntKind.wrap_i64];omega
    have e6:¬ (-(p:Int))<dq:=by omega
    have e7:IntKind.i64.wrap (-(p:Int)*10)=-(p:Int)*10:=by rw [IntKind.wrap_i64];omega
    have e8:IntKind.i64.wrap (-(p:Int)*10-(z:Int))=-(p:Int)*10-(z:Int):=by rw [IntKind.wrap_i64];omega
    have z1:=decide_eq_false e3
    have z2:=decide_eq_false e6
    clear hz hp hsu dg1 dg2
    have e9:IntKind.i64.wrap ((i:Int)+1)=(i:Int)+1:=by rw [IntKind.wrap_i64];omega
    go_wp2_with fail
    go_roundw
    case rel=>exact ⟨i+1,by omega,by omega,by go_num,by rw [HSU.out];congr 1;omega,by first | exact hE | trivial⟩
    case measure=>simp [intOf];omega
   ·obtain rfl:i=s.size:=by omega
    rw [HT.out.all]
    have e1:((-(u:Int)) == -9223372036854775808)=false:=by rw [beq_eq_false_iff_ne];omega
    have e2:IntKind.i64.wrap (0 - -(u:Int))=(u:Int):=by rw [IntKind.wrap_i64];omega
    go_wp2_with fail
    go_ret2
    exact ⟨by rw [HNU.out];first | rfl | simp,by first | exact hE | trivial⟩
set_option maxRecDepth 100000 in
theorem rQuick_any (n:Int) (w:World) (hn:-1000000000000000000<n∧n<1000000000000000000) :
  Calls Tryz.prog 126 #[.string (intB n)] w fun e w'=>e=.returned (.tuple #[.int .i64 n,.bool true])∧Ext w w':=by
 have HD:=Lib.hid (rDigits_any n w)
 have HS:=Lib.hid (fun W=>rSmall_any n W hn)
 have hsz:=numB_size_le n.natAbs 18 (by rw [show (10:Nat)^18=1000000000000000000 by decide];omega) (by omega)
 have hz:¬ (18:Int)<((numB n.natAbs).size:Int):=by omega
 clear hn
 go_enter Tryz.func126,Tryz.ntmps126
 go_wp2_with fail
 refine HD.out.mono ?_
 rintro e w1 ⟨rfl,rfl⟩
 go_wp2_with fail
 refine (HS.out _).mono ?_
 rintro e w2 ⟨rfl,hE⟩
 have HE:=Lib.hid hE
 clear hE HS HD
 go_wp2_with fail
 go_ret2
 exact ⟨rfl,HE.out⟩
set_option maxRecDepth 100000 in
theorem rAbs_any (n:Int) (w:World) :
  Calls Tryz.prog 145 #[.string (intB n)] w fun e w'=>e=.returned (.string (numB n.natAbs))∧Ext w w':=by
 have HD:=Lib.hid (rDigits_any n w)
 go_enter Tryz.func145,Tryz.ntmps145
 go_wp2_with fail
 refine HD.out.mono ?_
 rintro e w1 ⟨rfl,rfl⟩
 go_wp2_with fail
 go_ret
 exact ⟨rfl,Ext.refl _⟩
set_option maxRecDepth 100000 in
set_option maxHeartbeats 800000 in
theorem rDivMod18 (x y:Int) (w:World) (hx:-1000000000000000000<x∧x<1000000000000000000) (hy:-1000000000000000000<y∧y<1000000000000000000) (h0:y≠0) (ht:Pow10 w) :
  Calls Tryz.prog 87 #[.string (intB x),.string (intB y)] w fun e w'=>e=.returned (.tuple #[.string (intB (fdq x y)),.string (intB (fdr x y))])∧Ext w w':=by
 have HT:=Lib.hid ht
 have hz:=int_zero y
 rw [decide_eq_false h0] at hz
 obtain ⟨hx1,hx2⟩:=id hx
 obtain ⟨hy1,hy2⟩:=id hy
 have H1:=Lib.hid (rQuick_any x w hx)
 have H2:Hid (∀ W,Calls Tryz.prog 126 #[.string (intB y)] W fun e w'=>e=.returned (.tuple #[.int .i64 y,.bool true])∧Ext W w'):=fun W=>rQuick_any y W hy
 have hrl:=tmod_lt x y h0
 have hql:=tdiv_le x y
 have hq1:(fdq x y).natAbs≤1000000000000000001:=by have:=fdq_bd x y;omega
 have hr1:(fdr x y).natAbs≤1000000000000000001:=by
  rcases Int.lt_trichotomy y 0 with h | h | h
  ·have:=fdr_neg x y h;omega
  ·exact absurd h h0
  ·have:=fdr_pos x y h;omega
 have H3:Hid (∀ W,Ext w W→Calls Tryz.prog 69 #[.int .i64 (fdq x y)] W fun e w'=>e=.returned (.string (intB (fdq x y)))∧Ext W w'):=fun W hE=>rOf_any _ W (by omega) (by omega) (HT.out.ext hE)
 have H4:Hid (∀ W,Ext w W→Calls Tryz.prog 69 #[.int .i64 (fdr x y)] W fun e w'=>e=.returned (.string (intB (fdr x y)))∧Ext W w'):=fun W hE=>rOf_any _ W (by omega) (by omega) (HT.out.ext hE)
 have hyb:(y == 0)=false:=beq_eq_false_iff_ne.2 h0
 have HFQ:Hid (fdq x y=if x.tmod y≠0∧decide (x.tmod y<0)≠decide (y<0) then x.tdiv y-1 else x.tdiv y):=rfl
 have HFR:Hid (fdr x y=if x.tmod y≠0∧decide (x.tmod y<0)≠decide (y<0) then x.tmod y+y else x.tmod y):=rfl
 obtain ⟨fq,hfq⟩:∃ q,q=fdq x y:=⟨_,rfl⟩
 obtain ⟨fr,hfr⟩:∃ r,r=fdr x y:=⟨_,rfl⟩
 rw [← hfq] at H3 HFQ hq1 ⊢
 rw [← hfr] at H4 HFR hr1 ⊢
 obtain ⟨q,hq⟩:∃ q,x.tdiv y=q:=⟨_,rfl⟩
 obtain ⟨r,hr⟩:∃ r,x.tmod y=r:=⟨_,rfl⟩
 rw [hq] at HFQ hql
 rw [hr] at HFR HFQ hrl
 have e1:IntKind.i64.wrap q=q:=IntWalk.i64_in _ (by omega)
 have hy0:¬ y=0:=h0
 clear ht hfq hfr h0
 by_cases c0:r=0
 ·have k0:(r != 0)=false:=by simp [c0]
  rw [if_neg (by simp [c0])] at HFQ HFR
  rw [HFQ.out] at H3 ⊢
  rw [HFR.out] at H4 ⊢
  clear HFQ HFR c0
  go_enter Tryz.func87,Tryz.ntmps87
  go_wp2_with fail
  refine H1.out.mono ?_
  rintro e w1 ⟨rfl,hE1⟩
  have HE1:=Lib.hid hE1
  clear hE1 H1
  go_wp2_with fail
  refine (H2.out _).mono ?_
  rintro e w2 ⟨rfl,hE2⟩
  have HE2:=Lib.hid (Ext.trans HE1.out hE2)
  clear hE2 H2
  go_wp2_with fail
  go_quiet (fail)
  go_wp2_with fail
  refine (H3.out _ (Ext.draws HE2.out _)).mono ?_
  rintro e w3 ⟨rfl,hE3⟩
  have HE3:=Lib.hid (Ext.trans (Ext.draws HE2.out _) hE3)
  clear hE3 H3
  go_wp2_with fail
  refine (H4.out _ HE3.out).mono ?_
  rintro e w4 ⟨rfl,hE4⟩
  have HE4:=Lib.hid (Ext.trans HE3.out hE4)
  clear hE4 H4
  go_wp2_with fail
  go_ret2
  exact ⟨rfl,HE4.out⟩
 ·have k0:(r != 0)=true:=by simpa using c0
  by_cases c1:r<0
  ·by_cases c2:y<0
   ·have k5:decide (r<0)=true:=decide_eq_true c1
    have k6:decide (y<0)=true:=decide_eq_true c2
    have k7:(!decide (r<0))=false:=by rw [k5];rfl
    have k8:(!decide (y<0))=false:=by rw [k6];rfl
    rw [if_neg (by rw [decide_eq_true c1,decide_eq_true c2];simp)] at HFQ HFR
    rw [HFQ.out] at H3 ⊢
    rw [HFR.out] at H4 ⊢
    clear HFQ HFR c0
    go_enter Tryz.func87,Tryz.ntmps87
    go_wp2_with fail
    refine H1.out.mono ?_
    rintro e w1 ⟨rfl,hE1⟩
    have HE1:=Lib.hid hE1
    clear hE1 H1
    go_wp2_with fail
    refine (H2.out _).mono ?_
    rintro e w2 ⟨rfl,hE2⟩
    have HE2:=Lib.hid (Ext.trans HE1.out hE2)
    clear hE2 H2
    go_wp2_with fail
    go_quiet (fail)
    go_wp2_with fail
    refine (H3.out _ (Ext.draws HE2.out _)).mono ?_
    rintro e w3 ⟨rfl,hE3⟩
    have HE3:=Lib.hid (Ext.trans (Ext.draws HE2.out _) hE3)
    clear hE3 H3
    go_wp2_with fail
    refine (H4.out _ HE3.out).mono ?_
    rintro e w4 ⟨rfl,hE4⟩
    have HE4:=Lib.hid (Ext.trans HE3.out hE4)
    clear hE4 H4
    go_wp2_with fail
    go_ret2
    exact ⟨rfl,HE4.out⟩
   ·have k5:decide (r<0)=true:=decide_eq_true c1
    have k6:decide (y<0)=false:=decide_eq_false c2
    have k7:(!decide (r<0))=false:=by rw [k5];rfl
    have k8:(!decide (y<0))=true:=by rw [k6];rfl
    rw [if_pos ⟨c0,by rw [decide_eq_true c1,decide_eq_false c2];simp⟩] at HFQ HFR
    rw [HFQ.out] at H3 ⊢ hq1
    rw [HFR.out] at H4 ⊢ hr1
    clear HFQ HFR c0
    go_enter Tryz.func87,Tryz.ntmps87
    go_wp2_with fail
    refine H1.out.mono ?_
    rintro e w1 ⟨rfl,hE1⟩
    have HE1:=Lib.hid hE1
    clear hE1 H1
    go_wp2_with fail
    refine (H2.out _).mono ?_
    rintro e w2 ⟨rfl,hE2⟩
    have HE2:=Lib.hid (Ext.trans HE1.out hE2)
    clear hE2 H2
    go_wp2_with fail
    go_quiet (fail)
    go_wp2_with fail
    refine (H3.out _ (Ext.draws HE2.out _)).mono ?_
    rintro e w3 ⟨rfl,hE3⟩
    have HE3:=Lib.hid (Ext.trans (Ext.draws HE2.out _) hE3)
    clear hE3 H3
    go_wp2_with fail
    refine (H4.out _ HE3.out).mono ?_
    rintro e w4 ⟨rfl,hE4⟩
    have HE4:=Lib.hid (Ext.trans HE3.out hE4)
    clear hE4 H4
    go_wp2_with fail
    go_ret2
    exact ⟨rfl,HE4.out⟩
  ·by_cases c2:y<0
   ·have k5:decide (r<0)=false:=decide_eq_false c1
    have k6:decide (y<0)=true:=decide_eq_true c2
    have k7:(!decide (r<0))=true:=by rw [k5];rfl
    have k8:(!decide (y<0))=false:=by rw [k6];rfl
    rw [if_pos ⟨c0,by rw [decide_eq_false c1,decide_eq_true c2];simp⟩] at HFQ HFR
    rw [HFQ.out] at H3 ⊢ hq1
    rw [HFR.out] at H4 ⊢ hr1
    clear HFQ HFR c0
    go_enter Tryz.func87,Tryz.ntmps87
    go_wp2_with fail
    refine H1.out.mono ?_
    rintro e w1 ⟨rfl,hE1⟩
    have HE1:=Lib.hid hE1
    clear hE1 H1
    go_wp2_with fail
    refine (H2.out _).mono ?_
    rintro e w2 ⟨rfl,hE2⟩
    have HE2:=Lib.hid (Ext.trans HE1.out hE2)
    clear hE2 H2
    go_wp2_with fail
    go_quiet (fail)
    go_wp2_with fail
    refine (H3.out _ (Ext.draws HE2.out _)).mono ?_
    rintro e w3 ⟨rfl,hE3⟩
    have HE3:=Lib.hid (Ext.trans (Ext.draws HE2.out _) hE3)
    clear hE3 H3
    go_wp2_with fail
    refine (H4.out _ HE3.out).mono ?_
    rintro e w4 ⟨rfl,hE4⟩
    have HE4:=Lib.hid (Ext.trans HE3.out hE4)
    clear hE4 H4
    go_wp2_with fail
    go_ret2
    exact ⟨rfl,HE4.out⟩
   ·have k5:decide (r<0)=false:=decide_eq_false c1
    have k6:decide (y<0)=false:=decide_eq_false c2
    have k7:(!decide (r<0))=true:=by rw [k5];rfl
    have k8:(!decide (y<0))=true:=by rw [k6];rfl
    rw [if_neg (by rw [decide_eq_false c1,decide_eq_false c2];simp)] at HFQ HFR
    rw [HFQ.out] at H3 ⊢
    rw [HFR.out] at H4 ⊢
    clear HFQ HFR c0
    go_enter Tryz.func87,Tryz.ntmps87
    go_wp2_with fail
    refine H1.out.mono ?_
    rintro e w1 ⟨rfl,hE1⟩
    have HE1:=Lib.hid hE1
    clear hE1 H1
    go_wp2_with fail
    refine (H2.out _).mono ?_
    rintro e w2 ⟨rfl,hE2⟩
    have HE2:=Lib.hid (Ext.trans HE1.out hE2)
    clear hE2 H2
    go_wp2_with fail
    go_quiet (fail)
    go_wp2_with fail
    refine (H3.out _ (Ext.draws HE2.out _)).mono ?_
    rintro e w3 ⟨rfl,hE3⟩
    have HE3:=Lib.hid (Ext.trans (Ext.draws HE2.out _) hE3)
    clear hE3 H3
    go_wp2_with fail
    refine (H4.out _ HE3.out).mono ?_
    rintro e w4 ⟨rfl,hE4⟩
    have HE4:=Lib.hid (Ext.trans HE3.out hE4)
    clear hE4 H4
    go_wp2_with fail
    go_ret2
    exact ⟨rfl,HE4.out⟩
end Go.Proofs.YtjlkkofmojgipaaGreatDoor
namespace Go.Proofs.YtjlkkofmojgipaaGreatDoor
set_option linter.unusedVariables false
set_option linter.unusedSimpArgs false
def pieceJ (p:List Nat) (i:Nat):Nat:=p.getD i 0
theorem pieceJ_get {p:List Nat} {i x:Nat} (h:p[i]?=some x):pieceJ p i=x:=by
 unfold pieceJ;rw [List.getD_eq_getElem?_getD,h];rfl
theorem pieceJ_out {p:List Nat} {i:Nat} (h:p.length≤i):pieceJ p i=0:=by
 unfold pieceJ;rw [List.getD_eq_getElem?_getD,List.getElem?_eq_none h];rfl
theorem pieceJ_lt {p:List Nat} (h:Pcs p) (i:Nat):pieceJ p i<1000000000:=by
 by_cases hi:i<p.length
 ·rw [pieceJ_get (List.getElem?_eq_getElem hi)];exact h _ (List.getElem_mem hi)
 ·rw [pieceJ_out (by omega)];omega
theorem lv_take_piece (p:List Nat) (i:Nat):lv (p.take (i+1))=lv (p.take i)+pB i*pieceJ p i:=by
 by_cases hi:i<p.length
 ·have h:=List.getElem?_eq_getElem hi
  rw [lv_take_succ h,pieceJ_get h]
 ·rw [pieceJ_out (by omega),List.take_of_length_le (by omega),List.take_of_length_le (by omega)];rfl
theorem lv_snoc (l:List Nat) (x:Nat):lv (l++[x])=lv l+pB l.length*x:=by
 rw [lv_append,lv_cons,lv_nil,Nat.mul_zero,Nat.add_zero]
structure PlusJ (p q:List Nat) (i c:Nat) (L:List Nat):Prop where
 len:L.length=i
 pcs:Pcs L
 le:c≤1
 val:lv L+c*pB i=lv (p.take i)+lv (q.take i)
theorem PlusJ.start (p q:List Nat):PlusJ p q 0 0 []:=⟨rfl,Pcs.nil,by omega,by simp [lv_nil]⟩
theorem PlusJ.step {p q L:List Nat} {i c s:Nat} (h:PlusJ p q i c L) (hp:Pcs p) (hq:Pcs q) (hs:s=c+pieceJ p i+pieceJ q i):PlusJ p q (i+1) (s / 1000000000) (L++[s%1000000000]):=by
 have h1:=pieceJ_lt hp i
 have h2:=pieceJ_lt hq i
 have h3:=h.le
 refine ⟨by rw [List.length_append,h.len];rfl,h.pcs.append (Pcs.cons (by omega) Pcs.nil),by omega,?_⟩
 rw [lv_snoc,h.len,lv_take_piece,lv_take_piece,pB_succ]
 have hv:=h.val
 have e:=Nat.div_add_mod s 1000000000
 generalize s / 1000000000=d at *
 generalize s%1000000000=m at *
 subst hs
 generalize lv L=A at *
 generalize pB i=P at *
 grind
theorem PlusJ.done {p q L:List Nat} {i:Nat} (h:PlusJ p q i 0 L) (h1:p.length≤i) (h2:q.length≤i):lv L=lv p+lv q:=by
 have:=h.val
 rw [List.take_of_length_le h1,List.take_of_length_le h2,Nat.zero_mul,Nat.add_zero] at this
 exact this
structure MinusJ (p q:List Nat) (i b:Nat) (L:List Nat):Prop where
 len:L.length=i
 pcs:Pcs L
 le:b≤1
 val:lv L+lv (q.take i)=lv (p.take i)+b*pB i
theorem MinusJ.start (p q:List Nat):MinusJ p q 0 0 []:=⟨rfl,Pcs.nil,by omega,by simp [lv_nil]⟩
theorem MinusJ.step {p q L:List Nat} {i b x b':Nat} (h:MinusJ p q i b L) (hx:x<1000000000) (hb:b'≤1) (he:x+pieceJ q i+b=pieceJ p i+b'*1000000000):MinusJ p q (i+1) b' (L++[x]):=by
 refine ⟨by rw [List.length_append,h.len];rfl,h.pcs.append (Pcs.cons hx Pcs.nil),hb,?_⟩
 rw [lv_snoc,h.len,lv_take_piece,lv_take_piece,pB_succ]
 have hv:=h.val
 have h2:pB i*(x+pieceJ q i+b)=pB i*(pieceJ p i+b'*1000000000):=by rw [he]
 generalize pB i=P at *
 grind
theorem MinusJ.done {p q L:List Nat} {b:Nat} (h:MinusJ p q p.length b L) (hp:Pcs p) (hq:q.length≤p.length) (hl:lv q≤lv p):lv L=lv p-lv q∧b=0:=by
 have hv:=h.val
 rw [List.take_of_length_le (Nat.le_refl _),List.take_of_length_le hq] at hv
 have h1:=lv_lt h.pcs
 rw [h.len] at h1
 have h2:=h.le
 have hb:b=0:=by
  false_or_by_contra
  have:b=1:=by omega
  subst this
  omega
 subst hb
 omega
structure TimJ (p q:List Nat) (i:Nat) (L:List Nat):Prop where
 len:L.length=p.length+q.length+1
 pcs:Pcs L
 val:lv L=lv (p.take i)*lv q
structure TimJK (p q:List Nat) (i x k c:Nat) (L:List Nat):Prop where
 len:L.length=p.length+q.length+1
 pcs:Pcs L
 lt:c<1000000000
 val:lv L+c*pB (i+k)=lv (p.take i)*lv q+x*(lv (q.take k)*pB i)
theorem TimJ.start (p q:List Nat):TimJ p q 0 (List.replicate (p.length+q.length+1) 0) :=
 ⟨by simp,Pcs.zeros _,by rw [lv_zeros,List.take_zero,lv_nil,Nat.zero_mul]⟩
theorem TimJ.enter {p q L:List Nat} {i:Nat} (x:Nat) (h:TimJ p q i L):TimJK p q i x 0 0 L :=
 ⟨h.len,h.pcs,by omega,by rw [h.val,List.take_zero,lv_nil];simp⟩
theorem TimJK.room {p q L:List Nat} {i x k c:Nat} (h:TimJK p q i x k c L) (hp:Pcs p) (hq:Pcs q) (hx:p[i]?=some x) (hk:k<q.length∨0<c):i+k<p.length+q.length+1:=by
 have hi:=(List.getElem?_eq_some_iff.1 hx).1
 rcases hk with hk | hk
 ·omega
 ·false_or_by_contra
  rename_i hn
  have h1:=lv_lt hp
  have h2:=lv_lt hq
  have h3:=lv_take_le p (i+1)
  rw [lv_take_succ hx] at h3
  have h4:=lv_take_le q k
  have h5:lv (p.take i)*lv q+x*(lv (q.take k)*pB i)≤lv p*lv q:=by
   have h6:x*(lv (q.take k)*pB i)≤(pB i*x)*lv q:=by
    have:=Nat.mul_le_mul_left (pB i*x) h4
    have e:x*(lv (q.take k)*pB i)=pB i*x*lv (q.take k):=by grind
    omega
   have h7:=Nat.mul_le_mul_right (lv q) h3
   rw [Nat.add_mul] at h7
   omega
  have h8:lv p*lv q<pB (p.length+q.length):=by rw [pB_add];exact Nat.mul_lt_mul'' h1 h2
  have h9:pB (p.length+q.length)≤pB (i+k):=pB_mono (by omega)
  have h10:1*pB (i+k)≤c*pB (i+k):=Nat.mul_le_mul_right _ hk
  have hv:=h.val
  omega
theorem TimJK.step {p q L:List Nat} {i x k c a y c':Nat} (h:TimJK p q i x k c L) (ha:L[i+k]?=some a) (hx:x<1000000000) (hq:Pcs q) (hc:c'=c+a+x*pieceJ q k) (hy:y=c'%1000000000) :
  TimJK p q i x (k+1) (c' / 1000000000) (L.set (i+k) y):=by
 have h1:=h.lt
 have h2:=h.pcs.get ha
 have h3:=pieceJ_lt hq k
 have h4:x*pieceJ q k≤999999999*999999999:=Nat.mul_le_mul (by omega) (by omega)
 refine ⟨by rw [List.length_set];exact h.len,h.pcs.set _ _ (by omega),by omega,?_⟩
 exact times_round (P:=pB (i+k)) (P':=pB (i+k+1)) (c:=c) (x:=a) (y:=y) (ab:=x*pieceJ q k) (acc2:=x*(lv (q.take (k+1))*pB i)) (pB_succ _) h.val hc hy (lv_set y ha) (by
   rw [lv_take_piece,pB_add];grind)
theorem TimJK.leave {p q L:List Nat} {i x k:Nat} (h:TimJK p q i x k 0 L) (hk:q.length≤k) (hx:p[i]?=some x):TimJ p q (i+1) L:=by
 refine ⟨h.len,h.pcs,?_⟩
 have h2:=h.val
 rw [List.take_of_length_le hk,Nat.zero_mul,Nat.add_zero] at h2
 rw [h2,lv_take_succ hx]
 grind
structure DivJ (p q:List Nat) (i:Nat) (L:List Nat) (R:Nat):Prop where
 len:L.length=p.length
 pcs:Pcs L
 low:∀ j,j<i→L[j]?=some 0∨p.length≤j
 val:lv (p.drop i)=lv (L.drop i)*lv q+R
 lt:R<lv q
theorem DivJ.start (p q:List Nat) (hq:0<lv q):DivJ p q p.length (List.replicate p.length 0) 0 :=
 ⟨by simp,Pcs.zeros _,fun j hj=>.inl (by rw [List.getElem?_replicate,if_pos hj]),by rw [List.drop_length,List.drop_eq_nil_of_le (by simp)];simp [lv_nil],hq⟩
theorem DivJ.step {p q L:List Nat} {i R x d:Nat} (h:DivJ p q (i+1) L R) (hx:p[i]?=some x) (hp:Pcs p) (hd:d=(x+1000000000*R) / lv q) :
  DivJ p q i (L.set i d) ((x+1000000000*R)-d*lv q)∧d<1000000000∧d*lv q≤x+1000000000*R:=by
 have hi:=(List.getElem?_eq_some_iff.1 hx).1
 have hxb:=hp.get hx
 have hlt:=h.lt
 have h0:0<lv q:=by omega
 have hdb:d<1000000000:=by
  rw [hd,Nat.div_lt_iff_lt_mul h0]
  have:(R+1)*1000000000≤lv q*1000000000:=Nat.mul_le_mul_right _ hlt
  omega
 have e:=Nat.div_add_mod (x+1000000000*R) (lv q)
 have e2:=Nat.mod_lt (x+1000000000*R) h0
 rw [← hd] at e
 have e3:lv q*d=d*lv q:=Nat.mul_comm _ _
 refine ⟨⟨by rw [List.length_set];exact h.len,h.pcs.set _ _ hdb,fun j hj=>?_,?_,by omega⟩,hdb,by omega⟩
 ·rw [List.getElem?_set,if_neg (by omega)]
  exact h.low j (by omega)
 ·have hL:(L.set i d)[i]?=some d:=by rw [List.getElem?_set,if_pos rfl,if_pos (by rw [h.len];exact hi)]
  rw [lv_drop_succ hx,lv_drop_succ hL,List.drop_set_of_lt (by omega),h.val,Nat.add_mul]
  have:1000000000*lv (L.drop (i+1))*lv q=1000000000*(lv (L.drop (i+1))*lv q):=Nat.mul_assoc _ _ _
  omega
theorem DivJ.done {p q L:List Nat} {R:Nat} (h:DivJ p q 0 L R):lv L=lv p / lv q∧R=lv p%lv q:=by
 have hv:=h.val
 rw [List.drop_zero,List.drop_zero] at hv
 have hlt:=h.lt
 rw [hv,Nat.mul_comm]
 constructor
 ·rw [Nat.mul_add_div (by omega),Nat.div_eq_of_lt hlt];rfl
 ·rw [Nat.mul_add_mod,Nat.mod_eq_of_lt hlt]
theorem dig_head_ne {u:Nat} (h:0<u):(Lib.decDigits u).head?≠some 48∨(Lib.decDigits u).length=1:=by
 by_cases h1:(Lib.decDigits u).length=1
 ·exact .inr h1
 ·refine .inl fun e=>?_
  have hv:=digits_val u
  have hlen:=Lib.decDigits_length u
  cases hl:Lib.decDigits u with
  | nil=>rw [hl] at e;cases e
  | cons c r =>
   rw [hl] at e hv hlen
   simp only [List.head?_cons,Option.some.injEq] at e
   subst e
   have ha:=digits_all u
   rw [hl,List.all_cons,Bool.and_eq_true] at ha
   rw [decV_cons] at hv
   have h3:=decV_lt r (0*10+((48:UInt8).toNat-48)) ha.2
   rw [hv] at h3
   have h4:=nDigits_ge u (by omega)
   rw [← hlen,List.length_cons] at h4
   have:(0*10+((48:UInt8).toNat-48)+1)*10^r.length=10^r.length:=by
    rw [show (0*10+((48:UInt8).toNat-48)+1)=1 from rfl,Nat.one_mul]
   rw [this] at h3
   rw [Nat.add_sub_cancel] at h4
   omega
def padJ (x:Nat):List UInt8:=List.replicate (9-(Lib.decDigits x).length) 48++Lib.decDigits x
theorem decV_zeros (n a:Nat):decV 0 (List.replicate n 48)=0:=by
 induction n with
 | zero=>rfl
 | succ n ih=>rw [List.replicate_succ,decV_cons];exact ih
theorem padJ_len {x:Nat} (h:x<1000000000):(padJ x).length=9:=by
 unfold padJ
 rw [List.length_append,List.length_replicate,Lib.decDigits_length]
 have:=nDigits_le x 9 (by rw [show (10:Nat)^9=1000000000 by decide];exact h) (by omega)
 omega
theorem padJ_val (x:Nat):decV 0 (padJ x)=x:=by
 unfold padJ
 rw [decV_append,decV_zeros _ 0]
 exact digits_val x
theorem digits_pad {y x:Nat} (hy:0<y) (hx:x<1000000000):Lib.decDigits (x+1000000000*y)=Lib.decDigits y++padJ x:=by
 have hne:Lib.decDigits y≠[]:=by
  intro e
  have:=Lib.decDigits_length y
  rw [e] at this
  have:=Lib.nDigits_pos y
  simp at *;omega
 have hall:(Lib.decDigits y++padJ x).all isDig=true:=by
  rw [List.all_append,digits_all,Bool.true_and]
  unfold padJ
  rw [List.all_append,digits_all,Bool.and_true,List.all_eq_true]
  intro c hc
  have:=(List.mem_replicate.1 hc).2
  subst this
  decide
 have hval:decV 0 (Lib.decDigits y++padJ x)=x+1000000000*y:=by
  rw [decV_append,digits_val,decV_add,padJ_val,padJ_len hx]
  rw [show (10:Nat)^9=1000000000 by decide];omega
 rw [← hval]
 refine (num_unique hall (by simp [hne]) ?_).symm
 refine .inl fun e=>?_
 have h48:(Lib.decDigits y).head?=some 48:=by
  cases hl:Lib.decDigits y with
  | nil=>exact absurd hl hne
  | cons c r=>rw [hl] at e;simpa using e
 rcases dig_head_ne hy with h | h
 ·exact h h48
 ·cases hl:Lib.decDigits y with
  | nil=>exact absurd hl hne
  | cons c r =>
   rw [hl] at h h48
   have hr:r=[]:=by simpa using h
   subst hr
   simp only [List.head?_cons,Option.some.injEq] at h48
   subst h48
   have:=digits_val y
   rw [hl] at this
   revert this
   show 0=y→False
   omega
end Go.Proofs.YtjlkkofmojgipaaGreatDoor
