import Derived.Test.YtjlkkofmojgipaaGreatDoorPAE
import Derived.Test.YtjlkkofmojgipaaGreatDoorPAS
import Derived.Deep.RegionHeld3
import Derived.Test.YtjlkkofmojgipaaGreatDoorPAG
namespace Go.Proofs.YtjlkkofmojgipaaGreatDoor
set_option linter.unusedVariables false
set_option linter.unusedSimpArgs false
open Go.RowKit
set_option maxRecDepth 100000 in
set_option maxHeartbeats 400000 in
theorem rSign_any (n:Int) (w:World) :
  Calls Tryz.prog 86 #[.string (intB n)] w fun e w'=>e=.returned (.int .i64 n.sign)∧w=w':=by
 have hp0:0<(intB n).size:=intB_size_pos n
 have hz:=int_zero n
 by_cases h0:n=0
 ·rw [decide_eq_true h0] at hz
  have HR:Hid (n.sign=0):=by unfold Hid;rw [h0];rfl
  rw [HR.out]
  clear h0 HR
  go_enter Tryz.func86,Tryz.ntmps86
  go_wp2_with fail
  go_ret
  exact ⟨rfl,rfl⟩
 ·rw [decide_eq_false h0] at hz
  by_cases h:n<0
  ·have q:=neg_head n h hp0
   have HR:Hid (n.sign=-1):=Int.sign_eq_neg_one_of_neg h
   rw [HR.out]
   clear h0 h HR
   go_enter Tryz.func86,Tryz.ntmps86
   go_wp2_with fail
   go_ret
   exact ⟨rfl,rfl⟩
  ·have q:=dig_head (intB n) n.toNat (intB_pos n (by omega)) hp0
   have HR:Hid (n.sign=1):=Int.sign_eq_one_of_pos (by omega)
   rw [HR.out]
   clear h0 h HR
   go_enter Tryz.func86,Tryz.ntmps86
   go_wp2_with fail
   go_ret
   exact ⟨rfl,rfl⟩
set_option maxRecDepth 100000 in
theorem rOf_any (n:Int) (w:World) (h1:-9223372036854775808≤n) (h2:n≤9223372036854775807) (ht:Pow10 w) :
  Calls Tryz.prog 69 #[.int .i64 n] w fun e w'=>e=.returned (.string (intB n))∧Ext w w':=by
 have HA:=Lib.hid (itoa_int n w h1 h2 ht)
 clear ht
 go_enter Tryz.func69,Tryz.ntmps69
 go_wp2_with fail
 refine HA.out.mono ?_
 rintro e w1 ⟨rfl,hE1⟩
 have HE1:=Lib.hid hE1
 clear hE1 HA
 go_wp2_with fail
 go_ret
 exact ⟨rfl,HE1.out⟩
set_option maxRecDepth 100000 in
set_option maxHeartbeats 400000 in
theorem rDigits_any (n:Int) (w:World) :
  Calls Tryz.prog 115 #[.string (intB n)] w fun e w'=>e=.returned (.string (numB n.natAbs))∧w=w':=by
 have hp0:0<(intB n).size:=intB_size_pos n
 have hp':(0:Int)<((intB n).size:Int):=by omega
 by_cases h:n<0
 ·have q:=neg_head n h hp0
  have HT:=Lib.hid (neg_tail n h)
  have hp1:(1:Int)≤((intB n).size:Int):=by omega
  have hp2:1≤(intB n).size:=hp0
  clear h
  go_enter Tryz.func115,Tryz.ntmps115
  go_wp2_with fail
  go_ret
  exact ⟨by rw [← HT.out];rfl,rfl⟩
 ·have q:=dig_head (intB n) n.toNat (intB_pos n (by omega)) hp0
  have HR:Hid (intB n=numB n.natAbs):=by unfold Hid;rw [intB_pos n (by omega)];congr 1;omega
  clear h
  go_enter Tryz.func115,Tryz.ntmps115
  go_wp2_with fail
  go_ret
  exact ⟨by rw [← HR.out];rfl,rfl⟩
structure TextAt (s:ByteArray) (i0 u:Nat):Prop where
 size:i0≤s.size
 digs:(s.data.toList.drop i0).all isDig=true
 val:decV 0 (s.data.toList.drop i0)=u
def preV (s:ByteArray) (i0 i:Nat):Nat:=decV 0 ((s.data.toList.drop i0).take (i-i0))
theorem preV_succ {s:ByteArray} {i0 i:Nat} (h0:i0≤i) (hi:i<s.size):preV s i0 (i+1)=preV s i0 i*10+(s[i].toNat-48):=by
 unfold preV
 have h1:(s.data.toList.drop i0)[i-i0]?=some s[i]:=by
  rw [List.getElem?_drop,show i0+(i-i0)=i by omega]
  exact bytes_get s i hi
 rw [show i+1-i0=(i-i0)+1 by omega,List.take_add_one,h1,decV_append]
 rfl
theorem TextAt.dig {s:ByteArray} {i0 u:Nat} (h:TextAt s i0 u) {i:Nat} (h0:i0≤i) (hi:i<s.size):48≤s[i].toNat∧s[i].toNat≤57:=by
 have h1:(s.data.toList.drop i0)[i-i0]?=some s[i]:=by
  rw [List.getElem?_drop,show i0+(i-i0)=i by omega]
  exact bytes_get s i hi
 exact of_decide_eq_true (List.all_eq_true.1 h.digs _ (List.mem_of_getElem? h1))
theorem TextAt.le {s:ByteArray} {i0 u:Nat} (h:TextAt s i0 u) (i:Nat):preV s i0 i≤u:=by
 have hs:s.data.toList.drop i0=(s.data.toList.drop i0).take (i-i0)++(s.data.toList.drop i0).drop (i-i0):=(List.take_append_drop _ _).symm
 rw [← h.val,hs,decV_append]
 unfold preV
 exact decV_self _ _
theorem TextAt.all {s:ByteArray} {i0 u:Nat} (h:TextAt s i0 u):preV s i0 s.size=u:=by
 unfold preV
 rw [List.take_of_length_le (by rw [List.length_drop,← Lib.size_eq];omega)]
 exact h.val
theorem dig_ne (u:Nat):Lib.decDigits u≠[]:=by
 have h:=(itoa_canon (u:Int)).2.2.2
 have e:Lib.itoa (u:Int)=Lib.decDigits u:=by unfold Lib.itoa;rw [if_neg (by omega)];rfl
 rwa [e] at h
theorem decV_digits (u:Nat):decV 0 (Lib.decDigits u)=u:=by
 have h:=(itoa_canon (u:Int)).2.1
 have e:Lib.itoa (u:Int)=Lib.decDigits u:=by unfold Lib.itoa;rw [if_neg (by omega)];rfl
 rw [e] at h
 have hd:=digits_all u
 cases hl:Lib.decDigits u with
 | nil=>have:=dig_ne u;rw [hl] at this;exact absurd rfl this
 | cons c r =>
  rw [hl] at h hd
  have hc:isDig c=true:=by simp only [List.all_cons,Bool.and_eq_true] at hd;exact hd.1
  have hne:c≠45:=by intro e;rw [e] at hc;revert hc;decide
  rw [numS_other hne] at h
  exact Int.ofNat.inj h
theorem text_int (n:Int):TextAt (intB n) (if n<0 then 1 else 0) n.natAbs:=by
 by_cases h:n<0
 ·rw [if_pos h]
  have hl:(intB n).data.toList.drop 1=Lib.decDigits n.natAbs:=by rw [intB_neg n h,numB_data];rfl
  exact ⟨by have:=intB_size_pos n;omega,by rw [hl];exact digits_all _,by rw [hl];exact decV_digits _⟩
 ·rw [if_neg h]
  have hl:(intB n).data.toList.drop 0=Lib.decDigits n.natAbs:=by rw [intB_pos n (by omega),numB_data,List.drop_zero];congr 1;omega
  exact ⟨Nat.zero_le _,by rw [hl];exact digits_all _,by rw [hl];exact decV_digits _⟩
set_option maxRecDepth 100000 in
set_option maxHeartbeats 2000000 in
theorem rSmall_any (n:Int) (w:World) (hn:-1000000000000000000<n∧n<1000000000000000000) :
  Calls Tryz.prog 178 #[.string (intB n)] w fun e w'=>e=.returned (.tuple #[.int .i64 n,.bool true])∧Ext w w':=by
 have HT:=Lib.hid (text_int n)
 have hp0:0<(intB n).size:=intB_size_pos n
 have hp':(0:Int)<((intB n).size:Int):=by omega
 obtain ⟨u,hu⟩:∃ u,u=n.natAbs:=⟨_,rfl⟩
 rw [← hu] at HT
 have hub:u<1000000000000000000:=by omega
 have hsz:(intB n).size≤19:=by
  have h1:=intB_size_le n
  have h2:=numB_size_le n.natAbs 18 (by rw [show (10:Nat)^18=1000000000000000000 by decide];omega) (by omega)
  omega
 by_cases h:n<0
 case' pos =>
  rw [if_pos h] at HT
  have q:=neg_head n h hp0
  have hs2:2≤(intB n).size:=by
   rw [intB_size_neg n h]
   have:0<(numB n.natAbs).size:=by rw [Lib.size_eq,numB_data];exact List.length_pos_iff.2 (dig_ne _)
   omega
  have q2:((1:Int) == ((intB n).size:Int))=false:=by rw [beq_eq_false_iff_ne];omega
  have hnu:n=-(u:Int):=by omega
  obtain ⟨i0,hi0⟩:∃ i0:Nat,i0=1:=⟨1,rfl⟩
 case' neg =>
  rw [if_neg h] at HT
  have q:=dig_head (intB n) n.toNat (intB_pos n (by omega)) hp0
  have q2:((0:Int) == ((intB n).size:Int))=false:=by rw [beq_eq_false_iff_ne];omega
  have hnu:n=(u:Int):=by omega
  obtain ⟨i0,hi0⟩:∃ i0:Nat,i0=0:=⟨0,rfl⟩
 all_goals
  have HI:=Lib.hid hi0
  have HNU:=Lib.hid hnu
  rw [← hi0] at HT
  clear h hu hi0 hnu
  generalize intB n=s at *
  go_enter Tryz.func178,Tryz.ntmps178
  go_wp2_with fail
  clear q q2
  go_loopw [5,7] (fun t v wr=>∃ i:Nat,i0≤i∧i≤s.size∧t=.int .i64 (i:Int)∧v=.int .i64 (-(preV s i0 i:Int))∧Ext w wr) (fun t _ _=>s.size-(intOf t).toNat)
  case atStart=>exact ⟨i0,Nat.le_refl _,HT.out.size,by rw [HI.out];rfl,by unfold preV;rw [Nat.sub_self];rfl,by first | exact Ext.refl _ | exact Ext.drew _⟩
  case round =>
   obtain ⟨i,hi1,hi2,rfl,rfl,hE⟩:=hrel
   by_cases hlt:i<s.size
   ·obtain ⟨dg1,dg2⟩:=HT.out.dig hi1 hlt
    have hsu:=preV_succ hi1 hlt
    have hle:=HT.out.le (i+1)
    obtain ⟨z,hz⟩:∃ z:Nat,s[i].toNat=z+48:=⟨s[i].toNat-48,by omega⟩
    obtain ⟨p,hp⟩:∃ p,p=preV s i0 i:=⟨_,rfl⟩
    rw [hz,← hp,show z+48-48=z by omega] at hsu
    have HSU:=Lib.hid hsu
    rw [hsu] at hle
    rw [← hp]
    have e1:(s[i].toNat:Int)=(z:Int)+48:=by rw [hz];rfl
    have e2:IntKind.i64.wrap ((z:Int)+48-48)=(z:Int):=by rw [IntKind.wrap_i64];omega
    have e3:¬ (9:Int)<(z:Int):=by omega
    have e4:IntKind.i64.wrap (-9223372036854775808+(z:Int))=-9223372036854775808+(z:Int):=by rw [IntKind.wrap_i64];omega
    obtain ⟨dq,hdq⟩:∃ dq,(-9223372036854775808+(z:Int)).tdiv 10=dq:=⟨_,rfl⟩
    have hdb:dq≤-900000000000000000∧-1000000000000000000≤dq:=by
     have hneg:-9223372036854775808+(z:Int)=-(9223372036854775808-(z:Int)):=by omega
     rw [hneg,Int.neg_tdiv,Int.tdiv_eq_ediv_of_nonneg (by omega)] at hdq
     omega
    have e5:IntKind.i64.wrap dq=dq:=by rw [IntKind.wrap_i64];omega
    have e6:¬ (-(p:Int))<dq:=by omega
    have e7:IntKind.i64.wrap (-(p:Int)*10)=-(p:Int)*10:=by rw [IntKind.wrap_i64];omega
    have e8:IntKind.i64.wrap (-(p:Int)*10-(z:Int))=-(p:Int)*10-(z:Int):=by rw [IntKind.wrap_i64];omega
    have z1:=decide_eq_false e3
    have z2:=decide_eq_false e6
    clear hz hp hsu dg1 dg2
    have e9:IntKind.i64.wrap ((i:Int)+1)=(i:Int)+1:=by rw [IntKind.wrap_i64];omega
    go_wp2_with fail
    go_roundw
    case rel=>exact ⟨i+1,by omega,by omega,by go_num,by rw [HSU.out];congr 1;omega,by first | exact hE | trivial⟩
    case measure=>simp [intOf];omega
   ·obtain rfl:i=s.size:=by omega
    rw [HT.out.all]
    have e1:((-(u:Int)) == -9223372036854775808)=false:=by rw [beq_eq_false_iff_ne];omega
    have e2:IntKind.i64.wrap (0 - -(u:Int))=(u:Int):=by rw [IntKind.wrap_i64];omega
    go_wp2_with fail
    go_ret2
    exact ⟨by rw [HNU.out];first | rfl | simp,by first | exact hE | trivial⟩
set_option maxRecDepth 100000 in
theorem rQuick_any (n:Int) (w:World) (hn:-1000000000000000000<n∧n<1000000000000000000) :
  Calls Tryz.prog 126 #[.string (intB n)] w fun e w'=>e=.returned (.tuple #[.int .i64 n,.bool true])∧Ext w w':=by
 have HD:=Lib.hid (rDigits_any n w)
 have HS:=Lib.hid (fun W=>rSmall_any n W hn)
 have hsz:=numB_size_le n.natAbs 18 (by rw [show (10:Nat)^18=1000000000000000000 by decide];omega) (by omega)
 have hz:¬ (18:Int)<((numB n.natAbs).size:Int):=by omega
 clear hn
 go_enter Tryz.func126,Tryz.ntmps126
 go_wp2_with fail
 refine HD.out.mono ?_
 rintro e w1 ⟨rfl,rfl⟩
 go_wp2_with fail
 refine (HS.out _).mono ?_
 rintro e w2 ⟨rfl,hE⟩
 have HE:=Lib.hid hE
 clear hE HS HD
 go_wp2_with fail
 go_ret2
 exact ⟨rfl,HE.out⟩
def minusB (a:ByteArray):Bool:=decide (a.data.toList.head?=some 45)
def magB (a:ByteArray):ByteArray:=if minusB a=true then a.extract 1 a.size else a
def rightB (a:ByteArray):Bool:=!(minusB a && (magB a).toList == [48]) && canonD (magB a).data.toList && decide ((magB a).size≤400)
def wE (a:ByteArray):Int:=if rightB a=true then 0 else 2
theorem magB_size (a:ByteArray):(magB a).size≤a.size:=by
 unfold magB
 split
 ·rw [Lib.size_eq,Lib.extract_data]
  simp only [List.length_take,List.length_drop]
  rw [← Lib.size_eq];omega
 ·exact Nat.le_refl _
theorem minus_head {a:ByteArray} (hp:0<a.size):(((a[0]'hp).toNat:Int) == 45)=minusB a:=by
 have hb:=bytes_get a 0 hp
 unfold minusB
 rw [List.head?_eq_getElem?,hb,Bool.eq_iff_iff,beq_iff_eq,decide_eq_true_eq,Option.some.injEq,← UInt8.toNat_inj]
 show _↔_=45
 omega
theorem minus_nil {a:ByteArray} (hp:¬ 0<a.size):minusB a=false:=by
 have:a.data.toList=[]:=List.length_eq_zero_iff.1 (by rw [← Lib.size_eq];omega)
 unfold minusB;rw [this];rfl
set_option maxRecDepth 100000 in
set_option maxHeartbeats 400000 in
theorem splitT_any (a:ByteArray) (w:World) (ha:a.size≤100000) :
  Calls Tryz.prog 74 #[.string a] w fun e w'=>e=.returned (.tuple #[.bool (minusB a),.string (magB a)])∧Ext w w':=by
 by_cases hp:0<a.size
 ·have hp':(0:Int)<(a.size:Int):=by omega
  have q:=minus_head hp
  by_cases h:minusB a=true
  ·have HM:Hid (magB a=a.extract 1 a.size):=if_pos h
   have HV:Hid (minusB a=true):=h
   rw [h] at q
   rw [HM.out,HV.out]
   obtain ⟨m,hm⟩:∃ m,a.extract 1 a.size=m:=⟨_,rfl⟩
   have t:=hm
   rw [hm]
   clear h hm HM HV
   go_enter Tryz.func74,Tryz.ntmps74
   go_wp2_with fail
   go_quiet (fail)
   go_wp2_with fail
   go_ret2
   exact ⟨rfl,Ext.drewN _ _⟩
  ·have HM:Hid (magB a=a):=if_neg h
   have hf:minusB a=false:=by simpa using h
   have HV:Hid (minusB a=false):=hf
   rw [hf] at q
   rw [HM.out,HV.out]
   clear h hf HM HV
   go_enter Tryz.func74,Tryz.ntmps74
   go_wp2_with fail
   go_ret2
   exact ⟨rfl,Ext.drewN _ 0⟩
 ·have hf:=minus_nil hp
  have HM:Hid (magB a=a):=if_neg (by rw [hf];decide)
  have HV:Hid (minusB a=false):=hf
  have q1:¬ (0:Int)<(a.size:Int):=by omega
  rw [HM.out,HV.out]
  clear hf HM HV hp
  go_enter Tryz.func74,Tryz.ntmps74
  go_wp2_with fail
  go_ret2
  exact ⟨rfl,Ext.drewN _ 0⟩
set_option maxRecDepth 100000 in
set_option maxHeartbeats 1000000 in
theorem wholeCheckT_any (a:ByteArray) (w:World) (ha:a.size≤100000) :
  Calls Tryz.prog 96 #[.string a] w fun e w'=>e=.returned (.int .i64 (wE a))∧Ext w w':=by
 have HS:=Lib.hid (splitT_any a w ha)
 have hms:=magB_size a
 have HC:Hid (∀ W,Calls Tryz.prog 148 #[.string (magB a)] W fun e w'=>e=.returned (.int .i64 (decE (magB a).data.toList))∧Ext W w'):=fun W=>decCheck_any (magB a) W (by omega)
 have HW:Hid (wE a=if minusB a=true∧((magB a).toList == [48])=true then 2 else decE (magB a).data.toList):=by
  unfold Hid wE rightB decE
  rw [← Lib.size_eq]
  by_cases h4:(magB a).size≤400 <;> cases minusB a <;> cases ((magB a).toList == [48]) <;> cases canonD (magB a).data.toList <;> simp [h4]
 obtain ⟨d,hd⟩:∃ d,magB a=d:=⟨_,rfl⟩
 rw [hd] at HS HC HW
 obtain ⟨x,hx⟩:∃ x,decE d.data.toList=x:=⟨_,rfl⟩
 have hx2:x=0∨x=2:=by rw [← hx];unfold decE;split <;> simp
 rw [hx] at HC HW
 clear hms hd hx ha
 by_cases hm:minusB a=true
 ·rw [hm] at HS HW
  by_cases hz:(d.toList == [48])=true
  ·have HV:Hid (wE a=2):=by unfold Hid;rw [HW.out,if_pos ⟨rfl,hz⟩]
   go_enter Tryz.func96,Tryz.ntmps96
   go_wp2_with fail
   refine HS.out.mono ?_
   rintro e w2 ⟨rfl,hE2⟩
   have HE2:=Lib.hid hE2
   clear hE2 HS HC
   go_wp2_with fail
   go_ret
   exact ⟨by rw [HV.out];rfl,HE2.out⟩
  ·have hz':(d.toList == [48])=false:=by simpa using hz
   have HV:Hid (wE a=x):=by unfold Hid;rw [HW.out,if_neg (fun e=>hz e.2)]
   clear hz HW hm
   rcases hx2 with rfl | rfl
   all_goals
    go_enter Tryz.func96,Tryz.ntmps96
    go_wp2_with fail
    refine HS.out.mono ?_
    rintro e w2 ⟨rfl,hE2⟩
    have HE2:=Lib.hid hE2
    clear hE2 HS
    go_wp2_with fail
    refine (HC.out w2).mono ?_
    rintro e w3 ⟨rfl,hE3⟩
    have HE3:Hid (Ext w w3):=HE2.out.trans hE3
    clear hE3 HC
    go_wp2_with fail
    go_ret
    exact ⟨by rw [HV.out];rfl,HE3.out⟩
 ·have hf:minusB a=false:=by simpa using hm
  rw [hf] at HS HW
  have HV:Hid (wE a=x):=by unfold Hid;rw [HW.out,if_neg (fun e=>by cases e.1)]
  clear HW hm hf
  rcases hx2 with rfl | rfl
  all_goals
   go_enter Tryz.func96,Tryz.ntmps96
   go_wp2_with fail
   refine HS.out.mono ?_
   rintro e w2 ⟨rfl,hE2⟩
   have HE2:=Lib.hid hE2
   clear hE2 HS
   go_wp2_with fail
   refine (HC.out w2).mono ?_
   rintro e w3 ⟨rfl,hE3⟩
   have HE3:Hid (Ext w w3):=HE2.out.trans hE3
   clear hE3 HC
   go_wp2_with fail
   go_ret
   exact ⟨by rw [HV.out];rfl,HE3.out⟩
set_option maxRecDepth 100000 in
set_option maxHeartbeats 400000 in
theorem rDigitsT_any (a:ByteArray) (w:World) (ha:a.size≤100000) :
  Calls Tryz.prog 115 #[.string a] w fun e w'=>e=.returned (.string (magB a))∧w=w':=by
 by_cases hp:0<a.size
 ·have hp':(0:Int)<(a.size:Int):=by omega
  have hp1:(1:Int)≤(a.size:Int):=by omega
  have q:=minus_head hp
  by_cases h:minusB a=true
  ·have HM:Hid (magB a=a.extract 1 a.size):=if_pos h
   rw [h] at q
   clear h
   go_enter Tryz.func115,Tryz.ntmps115
   go_wp2_with fail
   go_ret
   exact ⟨by rw [HM.out];rfl,rfl⟩
  ·have HM:Hid (magB a=a):=if_neg h
   have hf:minusB a=false:=by simpa using h
   rw [hf] at q
   clear h hf
   go_enter Tryz.func115,Tryz.ntmps115
   go_wp2_with fail
   go_ret
   exact ⟨by rw [HM.out];rfl,rfl⟩
 ·have hf:=minus_nil hp
  have HM:Hid (magB a=a):=if_neg (by rw [hf];decide)
  have q1:¬ (0:Int)<(a.size:Int):=by omega
  clear hf hp
  go_enter Tryz.func115,Tryz.ntmps115
  go_wp2_with fail
  go_ret
  exact ⟨by rw [HM.out];rfl,rfl⟩
theorem canonD_num' {a:ByteArray} (h:canonD a.data.toList=true):∃ u:Nat,a=numB u∧u<10^a.size:=by
 unfold canonD at h
 simp only [Bool.and_eq_true,Bool.or_eq_true,decide_eq_true_eq] at h
 obtain ⟨h1,h2⟩:=h
 have hne:a.data.toList≠[]:=by
  intro e;rw [e] at h2;simp at h2
 have hu:=num_unique h1 hne (by rcases h2 with h2 | h2;exact .inr h2;exact .inl h2.2)
 refine ⟨decV 0 a.data.toList,bytes_ext (by rw [numB_data];exact hu),?_⟩
 have h3:=decV_lt a.data.toList 0 h1
 rw [← Lib.size_eq] at h3
 omega
theorem ltpow9 {u a b:Nat} (hu:u<10^a) (h:a≤b):u<10^b:=Nat.lt_of_lt_of_le hu (Nat.pow_le_pow_right (by decide) h)
theorem right_int {a:ByteArray} (h:rightB a=true):∃ x:Int,a=intB x∧x.natAbs<10^400∧x.natAbs<10^a.size:=by
 unfold rightB at h
 simp only [Bool.and_eq_true,decide_eq_true_eq,Bool.not_eq_true'] at h
 obtain ⟨⟨h1,h2⟩,h3⟩:=h
 obtain ⟨u,hu,hlt⟩:=canonD_num' h2
 have h4:u<10^400:=ltpow9 (a:=(magB a).size) (b:=400) hlt h3
 have h5:u<10^a.size:=ltpow9 hlt (magB_size a)
 by_cases hm:minusB a=true
 ·refine ⟨-(u:Int),?_,by rw [Int.natAbs_neg,Int.natAbs_natCast];exact h4,by rw [Int.natAbs_neg,Int.natAbs_natCast];exact h5⟩
  have hM:magB a=a.extract 1 a.size:=if_pos hm
  have hu0:u≠0:=by
   intro e
   rw [hm,hu,e,numB_list,show Lib.decDigits 0=[48] by rw [Lib.decDigits_one (by omega)];rfl] at h1
   simp at h1
  apply bytes_ext
  rw [intB_neg _ (by omega),Int.natAbs_neg,Int.natAbs_natCast,← hu,hM,Lib.extract_data]
  unfold minusB at hm
  rw [decide_eq_true_eq] at hm
  have hsz:a.size=a.data.toList.length:=Lib.size_eq a
  cases hl:a.data.toList with
  | nil=>rw [hl] at hm;simp at hm
  | cons c r =>
   rw [hl] at hm hsz
   simp only [List.head?_cons,Option.some.injEq] at hm
   subst hm
   rw [hsz,List.length_cons]
   simp
 ·refine ⟨(u:Int),?_,by rw [Int.natAbs_natCast];exact h4,by rw [Int.natAbs_natCast];exact h5⟩
  have hM:magB a=a:=if_neg hm
  rw [intB_pos _ (by omega),Int.toNat_natCast,← hu,hM]
set_option maxRecDepth 100000 in
set_option maxHeartbeats 4000000 in
theorem checkM_any (n k:Nat) (X:List Int) (u:Value) (w:World) (h:MultiV w u n k X) (hn:n≤12) (hk:k≤n) (hl:X.length=(allW n k).length) (hd:∀ x∈X,(numB x.natAbs).size≤400) :
  Calls Tryz.prog 47 #[u] w fun e w'=>e=.returned (.int .i64 0)∧Ext w w':=by
 obtain ⟨r,rfl,hr⟩:=h
 obtain ⟨a,c,rfl,h1,h2,-,hc⟩:=inCell.open (BigL.of_nums hr)
 unfold maxLen at h2
 obtain ⟨w1,hw1⟩:∃ w1,w.alloc (.cells #[.int .i64 n,.int .i64 k,.slice a X.length c] 31)=w1:=⟨_,rfl⟩
 have hb1:w1.heap[w.heap.size]?=some (.cells #[.int .i64 n,.int .i64 k,.slice a X.length c] 31 (0,0)):=by rw [← hw1];exact block_new w _ _
 have hE1:Ext w w1:=by rw [← hw1];exact Ext.alloc _ _
 have hG:=checkGrade_any n k w1
 rw [gradeS_ok hn hk] at hG
 have HG:=Lib.hid hG
 have HW:Hid (∀ x∈X,∀ W,Calls Tryz.prog 96 #[.string (intB x)] W fun e w'=>e=.returned (.int .i64 0)∧Ext W w'):=fun x hx W=>wholeCheck_any x W (hd x hx)
 have HC:=Lib.hid hc
 have k1:=block_cell hb1
 have HB:=Lib.hid hb1
 have HE1:=Lib.hid hE1
 obtain ⟨m,hm⟩:∃ m,(allW n k).length=m:=⟨_,rfl⟩
 rw [hm] at hl
 have HL:=Lib.hid hl;have HM:=Lib.hid hm
 have HA:Hid (∀ W,Calls Tryz.prog 60 #[.int .i64 n,.int .i64 k] W fun e w'=>∃ a6 c6,e=.returned (.slice a6 m c6)∧Ext W w'):=fun W=>(all_any n k hn hk W).mono fun e w' ⟨v,h1,h2,h3⟩=>by
  obtain ⟨a6,c6,rfl,-⟩:=h3.open
  rw [hm] at h1
  exact ⟨a6,c6,h1,h2⟩
 rw [hl] at k1 h1 HB hw1 ⊢
 clear hb1 hE1 hr hc hG hd hl hm
 go_enter Tryz.func47,Tryz.ntmps47
 go_wp2_with fail
 refine HG.out.mono ?_
 rintro e w2 ⟨rfl,hE2⟩
 have hb2:=block_ext HB.out hE2
 have d0:=block_cell hb2 0;have d1:=block_cell hb2 1;have d2:=block_cell hb2 2
 simp only [List.getElem?_toArray,List.getElem?_cons_succ,List.getElem?_cons_zero] at d0 d1 d2
 have HE2:Hid (Ext w w2):=HE1.out.trans hE2
 clear hE2 HG k1 hw1 hb2
 go_wp2_with fail
 have z1:w2.drew.cell? ⟨w.heap.size,0,none⟩=some (.int .i64 n):=d0
 have z2:w2.drew.cell? ⟨w.heap.size,1,none⟩=some (.int .i64 k):=d1
 have z3:w2.drew.cell? ⟨w.heap.size,2,none⟩=some (.slice a m c):=d2
 have z4:Hid (Ext w w2.drew):=HE2.out.trans (Ext.drew _)
 clear d0 d1 d2
 go_region_held3 (fun w'=>w'.cell? ⟨w.heap.size,0,none⟩=some (.int .i64 n)∧w'.cell? ⟨w.heap.size,1,none⟩=some (.int .i64 k)∧w'.cell? ⟨w.heap.size,2,none⟩=some (.slice a m c)∧Hid (Ext w w'))
  (first | exact ⟨z1,z2,z3,z4⟩ | go_keep)
  (first
   | (go_at_call 60;with_reducible refine (HA.out _).mono ?_;rintro e w6 ⟨a6,c6,rfl,hE6⟩;have q1:=hE6.cell (a:=⟨w.heap.size,0,none⟩) (v:=.int .i64 n) (by assumption);have q2:=hE6.cell (a:=⟨w.heap.size,1,none⟩) (v:=.int .i64 k) (by assumption);have q3:=hE6.cell (a:=⟨w.heap.size,2,none⟩) (v:=.slice a m c) (by assumption);have q4:=Lib.hid (Ext.trans (Hid.out (p:=Ext w _) (by assumption)) hE6);(try clear z1 z2 z3 z4);have z1:=q1;have z2:=q2;have z3:=q3;have z4:=q4;clear hE6 q1 q2 q3 q4))
 all_goals
  go_wp2_with fail
  have Z3:=Lib.hid z3
  clear z1 z2 z3
  go_loopw [28] (fun t wr=>∃ j:Nat,j≤m∧t=.int .i64 j∧Hid (Ext w wr)∧Hid (wr.cell? ⟨w.heap.size,2,none⟩=some (.slice a m c))) (fun t _=>m+1-(intOf t).toNat)
  case atStart=>exact ⟨0,by omega,rfl,z4.out,Z3.out⟩
  case round =>
   obtain ⟨j,hj,rfl,HX,HD⟩:=hrel
   by_cases hlt:j<m
   ·obtain ⟨x,hx⟩:∃ x,X[j]?=some x:=⟨_,List.getElem?_eq_getElem (by have:=HL.out;omega)⟩
    obtain ⟨b,off,rfl,hb,hcell⟩:=HC.out (by intro e;rw [e] at hx;simp at hx)
    obtain ⟨z9,e1,g1⟩:=hcell j x hx
    obtain rfl:z9=.string (intB x):=e1
    have g1:=HX.out.cell g1
    have q1:(j:Int)<(m:Int):=by omega
    have HK:=Lib.hid (HW.out x (List.mem_of_getElem? hx))
    clear hcell hx hb
    go_wp2_with fail
    refine (HK.out _).mono ?_
    rintro e w7 ⟨rfl,h7⟩
    have HX7:Hid (Ext w w7):=HX.out.trans h7
    have HD7:=Lib.hid (h7.cell HD.out)
    clear h7 HK
    go_wp2_with fail
    go_roundw
    case rel=>exact ⟨j+1,by omega,by go_num,HX7.out,HD7.out⟩
    case measure=>simp [intOf];omega
   ·obtain rfl:j=m:=by omega
    go_wp2_with fail
    go_ret
    exact ⟨rfl,HX.out⟩
theorem contTo_le (X:List Int) {B:Nat} (hB:∀ x∈X,x.natAbs≤B):∀ i,i≤X.length→contTo X i≤B
 | 0,_=>by simp [contTo]
 | i+1,h=>by
  obtain ⟨x,hx⟩:∃ x,X[i]?=some x:=⟨_,List.getElem?_eq_getElem (by omega)⟩
  rw [contTo_succ hx]
  have h1:=contTo_le X hB i (by omega)
  have h2:=hB x (List.mem_of_getElem? hx)
  by_cases h0:contTo X i=0
  ·rw [h0,Nat.gcd_zero_left];exact h2
  ·exact Nat.le_trans (Nat.gcd_le_left _ (by omega)) h1
set_option maxRecDepth 100000 in
set_option maxHeartbeats 2000000 in
theorem content_any (X:List Int) (v:Value) (w:World) (h:ListAt 1 numC w v X) (HG:Hid (∀ i x,X[i]?=some x→∀ W,Ext w W→Calls Tryz.prog 134 #[.string (intB (contTo X i:Int)),.string (intB x)] W fun e w'=>e=.returned (.string (intB (contTo X (i+1):Int)))∧Ext W w')) :
  Calls Tryz.prog 76 #[v] w fun e w'=>e=.returned (.string (intB (contL X:Int)))∧Ext w w':=by
 obtain ⟨a,c,rfl,h1,h2,-,hc⟩:=inCell.open (BigL.of_nums h)
 unfold maxLen at h2
 have HC:=Lib.hid hc
 clear h hc
 obtain ⟨m,hm⟩:∃ m,X.length=m:=⟨_,rfl⟩
 have HM:=Lib.hid hm
 have HL:Hid (contL X=contTo X m):=by unfold Hid contL;rw [hm]
 have HZ:Hid (intB (contTo X 0:Int)=⟨#[48]⟩):=by
  unfold Hid
  show intB 0=_
  decide +kernel
 rw [hm] at h1 ⊢
 clear hm
 go_enter Tryz.func76,Tryz.ntmps76
 go_wp2_with fail
 go_loopw [3,8] (fun o t wr=>∃ j:Nat,j≤m∧t=.int .i64 j∧o=.string (intB (contTo X j:Int))∧Hid (Ext w wr)) (fun _ t _=>m+1-(intOf t).toNat)
 case atStart=>exact ⟨0,by omega,rfl,by rw [HZ.out],Ext.refl _⟩
 case round =>
  obtain ⟨j,hj,rfl,rfl,HX⟩:=hrel
  by_cases hlt:j<m
  ·obtain ⟨x,hx⟩:∃ x,X[j]?=some x:=⟨_,List.getElem?_eq_getElem (by have:=HM.out;omega)⟩
   obtain ⟨b,off,rfl,hb,hcell⟩:=HC.out (by intro e;rw [e] at hx;simp at hx)
   obtain ⟨z9,e1,g1⟩:=hcell j x hx
   obtain rfl:z9=.string (intB x):=e1
   have g1:=HX.out.cell g1
   have q1:(j:Int)<(m:Int):=by omega
   have HK:=Lib.hid (HG.out j x hx wr HX.out)
   obtain ⟨s0,hs0⟩:∃ s,intB (contTo X j:Int)=s:=⟨_,rfl⟩
   obtain ⟨s1,hs1⟩:∃ s,intB (contTo X (j+1):Int)=s:=⟨_,rfl⟩
   have HS1:=Lib.hid hs1
   rw [hs0,hs1] at HK
   rw [hs0]
   clear hcell hx hb hs0 hs1
   go_wp2_with fail
   refine HK.out.mono ?_
   rintro e w7 ⟨rfl,h7⟩
   have HX7:Hid (Ext w w7):=HX.out.trans h7
   clear h7 HK
   go_wp2_with fail
   go_roundw
   case rel=>exact ⟨j+1,by omega,by go_num,by rw [HS1.out],HX7.out⟩
   case measure=>simp [intOf];omega
  ·obtain rfl:j=m:=by omega
   go_wp2_with fail
   go_ret
   exact ⟨by rw [HL.out];rfl,HX.out⟩
theorem contTo_lt {X:List Int} {B:Nat} (h0:0<B) (hB:∀ x∈X,x.natAbs<B) {i:Nat} (hi:i≤X.length):contTo X i<B:=by
 have:=contTo_le X (B:=B-1) (fun x hx=>by have:=hB x hx;omega) i hi
 omega
def Digits400 (X:List Int):Prop:=∀ x∈X,x.natAbs<10^400
theorem digits_size {x:Int} (h:x.natAbs<10^400):(numB x.natAbs).size≤400∧(intB x).size≤401:=by
 have h1:=numB_size_le x.natAbs 400 h (by decide)
 have h2:=intB_size_le x
 exact ⟨h1,by omega⟩
theorem contentI_any (X:List Int) (v:Value) (w:World) (h:ListAt 1 numC w v X) (hd:Digits400 X) (ht:Pow10 w) :
  Calls Tryz.prog 76 #[v] w fun e w'=>e=.returned (.string (intB (contL X:Int)))∧Ext w w':=by
 refine content_any X v w h fun i x hx W hW=>?_
 have h2:((contTo X i:Nat):Int).natAbs<10^400:=by
  rw [Int.natAbs_natCast]
  exact contTo_lt (Nat.pow_pos (by decide)) hd (Nat.le_of_lt (List.getElem?_eq_some_iff.1 hx).1)
 have h3:=gcdI_any (contTo X i:Int) x W (by have:=(digits_size h2).2;omega) (by have:=(digits_size (hd x (List.mem_of_getElem? hx))).2;omega) (ht.ext hW)
 rw [Int.natAbs_natCast,← contTo_succ hx,← eb] at h3
 exact h3
structure RightM (n k:Nat) (X:List Int):Prop where
 n12:n≤12
 kn:k≤n
 len:X.length=(allW n k).length
 dig:Digits400 X
theorem checkR_any {n k:Nat} {X:List Int} (hR:RightM n k X) (u:Value) (w:World) (h:MultiV w u n k X) :
  Calls Tryz.prog 47 #[u] w fun e w'=>e=.returned (.int .i64 0)∧Ext w w' :=
 checkM_any n k X u w h hR.n12 hR.kn hR.len fun x hx=>(digits_size (hR.dig x hx)).1
end Go.Proofs.YtjlkkofmojgipaaGreatDoor
