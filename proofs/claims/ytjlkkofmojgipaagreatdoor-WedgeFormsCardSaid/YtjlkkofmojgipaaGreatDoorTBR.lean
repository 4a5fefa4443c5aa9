import Derived.Test.YtjlkkofmojgipaaGreatDoorTAS
import Derived.Test.YtjlkkofmojgipaaGreatDoorTBF
import Derived.Test.YtjlkkofmojgipaaGreatDoorTAT
import Derived.Test.YtjlkkofmojgipaaGreatDoorTBN
namespace Go.Proofs.YtjlkkofmojgipaaGreatDoor
set_option linter.unusedVariables false
set_option linter.unusedSimpArgs false
open Go.RowKit
def minusB (a:ByteArray):Bool:=decide (a.data.toList.head?=some 45)
def magB (a:ByteArray):ByteArray:=if minusB a=true then a.extract 1 a.size else a
def rightB (a:ByteArray):Bool:=!(minusB a && (magB a).toList == [48]) && canonD (magB a).data.toList && decide ((magB a).size≤400)
theorem magB_size (a:ByteArray):(magB a).size≤a.size:=by
 unfold magB
 split
 ·rw [Lib.size_eq,Lib.extract_data]
  simp only [List.length_take,List.length_drop]
  rw [← Lib.size_eq];omega
 ·exact Nat.le_refl _
theorem minus_head {a:ByteArray} (hp:0<a.size):(((a[0]'hp).toNat:Int) == 45)=minusB a:=by
 have hb:=bytes_get a 0 hp
 unfold minusB
 rw [List.head?_eq_getElem?,hb,Bool.eq_iff_iff,beq_iff_eq,decide_eq_true_eq,Option.some.injEq,← UInt8.toNat_inj]
 show _↔_=45
 omega
theorem minus_nil {a:ByteArray} (hp:¬ 0<a.size):minusB a=false:=by
 have:a.data.toList=[]:=List.length_eq_zero_iff.1 (by rw [← Lib.size_eq];omega)
 unfold minusB;rw [this];rfl
set_option maxRecDepth 100000 in
set_option maxHeartbeats 400000 in
theorem rDigitsT_any (a:ByteArray) (w:World) (ha:a.size≤100000) :
  Calls Tryz.prog 115 #[.string a] w fun e w'=>e=.returned (.string (magB a))∧w=w':=by
 by_cases hp:0<a.size
 ·have hp':(0:Int)<(a.size:Int):=by omega
  have hp1:(1:Int)≤(a.size:Int):=by omega
  have q:=minus_head hp
  by_cases h:minusB a=true
  ·have HM:Hid (magB a=a.extract 1 a.size):=if_pos h
   rw [h] at q
   clear h
   go_enter Tryz.func115,Tryz.ntmps115
   go_wp2_with fail
   go_ret
   exact ⟨by rw [HM.out];rfl,rfl⟩
  ·have HM:Hid (magB a=a):=if_neg h
   have hf:minusB a=false:=by simpa using h
   rw [hf] at q
   clear h hf
   go_enter Tryz.func115,Tryz.ntmps115
   go_wp2_with fail
   go_ret
   exact ⟨by rw [HM.out];rfl,rfl⟩
 ·have hf:=minus_nil hp
  have HM:Hid (magB a=a):=if_neg (by rw [hf];decide)
  have q1:¬ (0:Int)<(a.size:Int):=by omega
  clear hf hp
  go_enter Tryz.func115,Tryz.ntmps115
  go_wp2_with fail
  go_ret
  exact ⟨by rw [HM.out];rfl,rfl⟩
theorem canonD_num' {a:ByteArray} (h:canonD a.data.toList=true):∃ u:Nat,a=numB u∧u<10^a.size:=by
 unfold canonD at h
 simp only [Bool.and_eq_true,Bool.or_eq_true,decide_eq_true_eq] at h
 obtain ⟨h1,h2⟩:=h
 have hne:a.data.toList≠[]:=by
  intro e;rw [e] at h2;simp at h2
 have hu:=num_unique h1 hne (by rcases h2 with h2 | h2;exact .inr h2;exact .inl h2.2)
 refine ⟨decV 0 a.data.toList,bytes_ext (by rw [numB_data];exact hu),?_⟩
 have h3:=decV_lt a.data.toList 0 h1
 rw [← Lib.size_eq] at h3
 omega
theorem ltpow9 {u a b:Nat} (hu:u<10^a) (h:a≤b):u<10^b:=Nat.lt_of_lt_of_le hu (Nat.pow_le_pow_right (by decide) h)
theorem right_int {a:ByteArray} (h:rightB a=true):∃ x:Int,a=intB x∧x.natAbs<10^400∧x.natAbs<10^a.size:=by
 unfold rightB at h
 simp only [Bool.and_eq_true,decide_eq_true_eq,Bool.not_eq_true'] at h
 obtain ⟨⟨h1,h2⟩,h3⟩:=h
 obtain ⟨u,hu,hlt⟩:=canonD_num' h2
 have h4:u<10^400:=ltpow9 (a:=(magB a).size) (b:=400) hlt h3
 have h5:u<10^a.size:=ltpow9 hlt (magB_size a)
 by_cases hm:minusB a=true
 ·refine ⟨-(u:Int),?_,by rw [Int.natAbs_neg,Int.natAbs_natCast];exact h4,by rw [Int.natAbs_neg,Int.natAbs_natCast];exact h5⟩
  have hM:magB a=a.extract 1 a.size:=if_pos hm
  have hu0:u≠0:=by
   intro e
   rw [hm,hu,e,numB_list,show Lib.decDigits 0=[48] by rw [Lib.decDigits_one (by omega)];rfl] at h1
   simp at h1
  apply bytes_ext
  rw [intB_neg _ (by omega),Int.natAbs_neg,Int.natAbs_natCast,← hu,hM,Lib.extract_data]
  unfold minusB at hm
  rw [decide_eq_true_eq] at hm
  have hsz:a.size=a.data.toList.length:=Lib.size_eq a
  cases hl:a.data.toList with
  | nil=>rw [hl] at hm;simp at hm
  | cons c r =>
   rw [hl] at hm hsz
   simp only [List.head?_cons,Option.some.injEq] at hm
   subst hm
   rw [hsz,List.length_cons]
   simp
 ·refine ⟨(u:Int),?_,by rw [Int.natAbs_natCast];exact h4,by rw [Int.natAbs_natCast];exact h5⟩
  have hM:magB a=a:=if_neg hm
  rw [intB_pos _ (by omega),Int.toNat_natCast,← hu,hM]
def canB (a:ByteArray):Bool:=!(minusB a && (magB a).toList == [48]) && canonD (magB a).data.toList
theorem rightB_can (a:ByteArray):rightB a=(canB a && decide ((magB a).size≤400)):=rfl
theorem canonD_bad {l:List UInt8} {c:UInt8} (hc:c∈l) (h:isDig c=false):canonD l=false:=by
 have:l.all isDig=false:=by
  rw [List.all_eq_false];exact ⟨c,hc,by simp [h]⟩
 unfold canonD;rw [this];rfl
set_option maxRecDepth 100000 in
set_option maxHeartbeats 1000000 in
theorem canT_minus (a m:ByteArray) (w:World) (hsz:m.size≤100000) (hp:0<a.size) (q:(((a[0]'hp).toNat:Int) == 45)=true) (t:a.extract 1 a.size=m) (hzf:(m.toList == [48])=false) (HV:Hid (canB a=canonD m.data.toList)) :
  Calls Tryz.prog 114 #[.string a] w fun e w'=>e=.returned (.bool (canB a))∧Ext w w':=by
 have hp':(0:Int)<(a.size:Int):=by omega
 have hp1:(1:Int)≤(a.size:Int):=by omega
 go_enter Tryz.func114,Tryz.ntmps114
 go_wp2_with fail
 clear t q hp' hp1 hzf
 go_loopw [4] (fun t wr=>∃ j:Nat,j≤m.size∧t=.int .i64 j∧Ext w wr∧Hid ((m.data.toList.take j).all isDig=true)) (fun t _=>m.size+1-(intOf t).toNat)
 case atStart=>exact ⟨0,by omega,rfl,by first | exact Ext.refl _ | exact Ext.drew _,rfl⟩
 case round =>
  obtain ⟨j,hj,rfl,hE,HA⟩:=hrel
  have HE:=Lib.hid hE
  by_cases hlt:j<m.size
  ·obtain ⟨c,hc⟩:∃ c,m[j]'hlt=c:=⟨_,rfl⟩
   have hb:=bytes_get m j hlt
   rw [hc] at hb
   have hc8:(c.toNat:Int)≤255:=by have:=c.toNat_lt;omega
   have HT1:Hid ((m.data.toList.take (j+1)).all isDig=(isDig c)):=by
    unfold Hid;rw [List.take_add_one,hb,List.all_append,HA.out];simp
   have HAll:Hid (isDig c=false→canonD m.data.toList=false):=fun h=>canonD_bad (List.mem_of_getElem? hb) h
   have hlt':(j:Int)<(m.size:Int):=by omega
   obtain ⟨z,hz⟩:∃ z:Nat,c.toNat=z:=⟨_,rfl⟩
   have HZ:Hid (isDig c=true↔48≤(z:Int)∧(z:Int)≤57):=by unfold Hid;rw [isDig_iffW,hz]
   have e1:((m[j]'hlt).toNat:Int)=(z:Int):=by rw [hc,hz]
   clear hb hE hz hc8 hc
   by_cases h1:(z:Int)<48
   ·have HF:Hid (canB a=false):=by unfold Hid;rw [HV.out];exact HAll.out (by rw [← Bool.not_eq_true,HZ.out];omega)
    go_wp2_with fail
    go_ret
    exact ⟨by rw [HF.out];rfl,HE.out⟩
   ·by_cases h2:57<(z:Int)
    ·have HF:Hid (canB a=false):=by unfold Hid;rw [HV.out];exact HAll.out (by rw [← Bool.not_eq_true,HZ.out];omega)
     have z1:=decide_eq_false h1;have z2:=decide_eq_true h2
     go_wp2_with fail
     go_ret
     exact ⟨by rw [HF.out];rfl,HE.out⟩
    ·have HD:Hid ((m.data.toList.take (j+1)).all isDig=true):=by
      unfold Hid;rw [HT1.out,HZ.out];omega
     have z1:=decide_eq_false h1;have z2:=decide_eq_false h2
     go_wp2_with fail
     go_roundw
     case rel=>exact ⟨j+1,by omega,by go_num,HE.out,HD⟩
     case measure=>simp [intOf];omega
  ·obtain rfl:j=m.size:=by omega
   have HL:Hid (m.data.toList.length=m.size):=(Lib.size_eq m).symm
   have HAll:Hid (m.data.toList.all isDig=true):=by
    unfold Hid
    have:=HA.out
    rwa [List.take_of_length_le (by rw [← Lib.size_eq];omega)] at this
   clear hE hlt
   by_cases h0:0<m.size
   ·have h0':(0:Int)<(m.size:Int):=by omega
    have hb:=bytes_get m 0 h0
    have HVV:Hid (canB a=(((m[0]'h0).toNat:Int) != 48 || ((m.size:Int) == 1))):=by
     unfold Hid
     rw [HV.out]
     unfold canonD
     have e1:m.data.toList.head?=some (m[0]'h0):=by rw [List.head?_eq_getElem?];exact hb
     rw [HAll.out,HL.out,e1,Bool.true_and,Bool.eq_iff_iff]
     simp only [Bool.or_eq_true,Bool.and_eq_true,bne_iff_ne,beq_iff_eq,ne_eq,Option.some.injEq,decide_eq_true_eq]
     rw [← UInt8.toNat_inj]
     show _∨(_∧¬ ((m[0]'h0).toNat=48))↔_
     omega
    clear hb
    by_cases h4:(((m[0]'h0).toNat:Int) != 48)=true
    ·have HF:Hid (canB a=true):=by unfold Hid;rw [HVV.out,h4];rfl
     go_wp2_with fail
     go_ret
     exact ⟨by rw [HF.out];rfl,HE.out⟩
    ·have h4':(((m[0]'h0).toNat:Int) != 48)=false:=by simpa using h4
     have HF:Hid (canB a=((m.size:Int) == 1)):=by unfold Hid;rw [HVV.out,h4'];rfl
     clear h4
     obtain ⟨sb,hsb⟩:∃ b,((m.size:Int) == 1)=b:=⟨_,rfl⟩
     rw [hsb] at HF
     go_wp2_with fail
     go_ret
     exact ⟨by rw [HF.out];rfl,HE.out⟩
   ·have h0':¬ (0:Int)<(m.size:Int):=by omega
    have HF:Hid (canB a=false):=by unfold Hid;rw [HV.out];unfold canonD;rw [HL.out,show m.size=0 by omega];simp
    go_wp2_with fail
    go_ret
    exact ⟨by rw [HF.out];rfl,HE.out⟩
set_option maxRecDepth 100000 in
set_option maxHeartbeats 1000000 in
theorem canT_plus (a m:ByteArray) (w:World) (hsz:m.size≤100000) (hp:0<m.size) (q:(((m[0]'hp).toNat:Int) == 45)=false) (HV:Hid (canB a=canonD m.data.toList)) :
  Calls Tryz.prog 114 #[.string m] w fun e w'=>e=.returned (.bool (canB a))∧Ext w w':=by
 have hp':(0:Int)<(m.size:Int):=by omega
 go_enter Tryz.func114,Tryz.ntmps114
 go_wp2_with fail
 clear q hp'
 go_loopw [4] (fun t wr=>∃ j:Nat,j≤m.size∧t=.int .i64 j∧Ext w wr∧Hid ((m.data.toList.take j).all isDig=true)) (fun t _=>m.size+1-(intOf t).toNat)
 case atStart=>exact ⟨0,by omega,rfl,by first | exact Ext.refl _ | exact Ext.drew _,rfl⟩
 case round =>
  obtain ⟨j,hj,rfl,hE,HA⟩:=hrel
  have HE:=Lib.hid hE
  by_cases hlt:j<m.size
  ·obtain ⟨c,hc⟩:∃ c,m[j]'hlt=c:=⟨_,rfl⟩
   have hb:=bytes_get m j hlt
   rw [hc] at hb
   have hc8:(c.toNat:Int)≤255:=by have:=c.toNat_lt;omega
   have HT1:Hid ((m.data.toList.take (j+1)).all isDig=(isDig c)):=by
    unfold Hid;rw [List.take_add_one,hb,List.all_append,HA.out];simp
   have HAll:Hid (isDig c=false→canonD m.data.toList=false):=fun h=>canonD_bad (List.mem_of_getElem? hb) h
   have hlt':(j:Int)<(m.size:Int):=by omega
   obtain ⟨z,hz⟩:∃ z:Nat,c.toNat=z:=⟨_,rfl⟩
   have HZ:Hid (isDig c=true↔48≤(z:Int)∧(z:Int)≤57):=by unfold Hid;rw [isDig_iffW,hz]
   have e1:((m[j]'hlt).toNat:Int)=(z:Int):=by rw [hc,hz]
   clear hb hE hz hc8 hc
   by_cases h1:(z:Int)<48
   ·have HF:Hid (canB a=false):=by unfold Hid;rw [HV.out];exact HAll.out (by rw [← Bool.not_eq_true,HZ.out];omega)
    go_wp2_with fail
    go_ret
    exact ⟨by rw [HF.out];rfl,HE.out⟩
   ·by_cases h2:57<(z:Int)
    ·have HF:Hid (canB a=false):=by unfold Hid;rw [HV.out];exact HAll.out (by rw [← Bool.not_eq_true,HZ.out];omega)
     have z1:=decide_eq_false h1;have z2:=decide_eq_true h2
     go_wp2_with fail
     go_ret
     exact ⟨by rw [HF.out];rfl,HE.out⟩
    ·have HD:Hid ((m.data.toList.take (j+1)).all isDig=true):=by
      unfold Hid;rw [HT1.out,HZ.out];omega
     have z1:=decide_eq_false h1;have z2:=decide_eq_false h2
     go_wp2_with fail
     go_roundw
     case rel=>exact ⟨j+1,by omega,by go_num,HE.out,HD⟩
     case measure=>simp [intOf];omega
  ·obtain rfl:j=m.size:=by omega
   have HL:Hid (m.data.toList.length=m.size):=(Lib.size_eq m).symm
   have HAll:Hid (m.data.toList.all isDig=true):=by
    unfold Hid
    have:=HA.out
    rwa [List.take_of_length_le (by rw [← Lib.size_eq];omega)] at this
   clear hE hlt
   by_cases h0:0<m.size
   ·have h0':(0:Int)<(m.size:Int):=by omega
    have hb:=bytes_get m 0 h0
    have HVV:Hid (canB a=(((m[0]'h0).toNat:Int) != 48 || ((m.size:Int) == 1))):=by
     unfold Hid
     rw [HV.out]
     unfold canonD
     have e1:m.data.toList.head?=some (m[0]'h0):=by rw [List.head?_eq_getElem?];exact hb
     rw [HAll.out,HL.out,e1,Bool.true_and,Bool.eq_iff_iff]
     simp only [Bool.or_eq_true,Bool.and_eq_true,bne_iff_ne,beq_iff_eq,ne_eq,Option.some.injEq,decide_eq_true_eq]
     rw [← UInt8.toNat_inj]
     show _∨(_∧¬ ((m[0]'h0).toNat=48))↔_
     omega
    clear hb
    by_cases h4:(((m[0]'h0).toNat:Int) != 48)=true
    ·have HF:Hid (canB a=true):=by unfold Hid;rw [HVV.out,h4];rfl
     go_wp2_with fail
     go_ret
     exact ⟨by rw [HF.out];rfl,HE.out⟩
    ·have h4':(((m[0]'h0).toNat:Int) != 48)=false:=by simpa using h4
     have HF:Hid (canB a=((m.size:Int) == 1)):=by unfold Hid;rw [HVV.out,h4'];rfl
     clear h4
     obtain ⟨sb,hsb⟩:∃ b,((m.size:Int) == 1)=b:=⟨_,rfl⟩
     rw [hsb] at HF
     go_wp2_with fail
     go_ret
     exact ⟨by rw [HF.out];rfl,HE.out⟩
   ·exact absurd hp h0
set_option maxRecDepth 100000 in
set_option maxHeartbeats 1000000 in
theorem canT_nil (a m:ByteArray) (w:World) (hsz:m.size≤100000) (hp:¬ 0<m.size) (HV:Hid (canB a=canonD m.data.toList)) :
  Calls Tryz.prog 114 #[.string m] w fun e w'=>e=.returned (.bool (canB a))∧Ext w w':=by
 have hp':¬ (0:Int)<(m.size:Int):=by omega
 have HF:Hid (canB a=false):=by unfold Hid;rw [HV.out];unfold canonD;rw [← Lib.size_eq,show m.size=0 by omega];simp
 go_enter Tryz.func114,Tryz.ntmps114
 go_wp2_with fail
 go_loopw [4] (fun t wr=>t=.int .i64 0∧Ext w wr) (fun t _=>1)
 case atStart=>exact ⟨rfl,Ext.refl _⟩
 case round =>
  obtain ⟨rfl,hE⟩:=hrel
  have HE:=Lib.hid hE
  go_wp2_with fail
  go_ret
  exact ⟨by rw [HF.out];rfl,HE.out⟩
set_option maxRecDepth 100000 in
set_option maxHeartbeats 1000000 in
theorem rCanonT_any (a:ByteArray) (w:World) (ha:a.size≤100000) :
  Calls Tryz.prog 114 #[.string a] w fun e w'=>e=.returned (.bool (canB a))∧Ext w w':=by
 by_cases hp:0<a.size
 ·have q:=minus_head hp
  by_cases h:minusB a=true
  ·have hm:magB a=a.extract 1 a.size:=if_pos h
   by_cases hz:((magB a).toList == [48])=true
   ·have HV:Hid (canB a=false):=by unfold Hid canB;rw [h,hz];rfl
    have hp':(0:Int)<(a.size:Int):=by omega
    have hp1:(1:Int)≤(a.size:Int):=by omega
    rw [h] at q
    rw [hm] at hz
    obtain ⟨m,t⟩:∃ m,a.extract 1 a.size=m:=⟨_,rfl⟩
    rw [t] at hz
    clear h hm
    go_enter Tryz.func114,Tryz.ntmps114
    go_wp2_with fail
    go_ret
    exact ⟨by first | (rw [HV.out];done) | (rw [HV.out];rfl),Ext.refl _⟩
   ·rw [h] at q
    exact canT_minus a (magB a) w (Nat.le_trans (magB_size a) ha) hp q hm.symm (by simpa using hz) (by unfold Hid canB;rw [h,show ((magB a).toList == [48])=false by simpa using hz];rfl)
  ·have hf:minusB a=false:=by simpa using h
   have hm:magB a=a:=if_neg h
   rw [hf] at q
   exact canT_plus a a w ha hp q (by unfold Hid canB;rw [hf,hm];rfl)
 ·have hf:=minus_nil hp
  have hm:magB a=a:=if_neg (by rw [hf];decide)
  exact canT_nil a a w ha hp (by unfold Hid canB;rw [hf,hm];rfl)
set_option maxRecDepth 100000 in
set_option maxHeartbeats 1000000 in
theorem rRightT_any (a:ByteArray) (w:World) (ha:a.size≤100000) :
  Calls Tryz.prog 56 #[.string a] w fun e w'=>e=.returned (.bool (rightB a))∧Ext w w':=by
 have HC:=Lib.hid (rCanonT_any a w ha)
 have HD:Hid (∀ W,Calls Tryz.prog 115 #[.string a] W fun e w'=>e=.returned (.string (magB a))∧W=w'):=fun W=>rDigitsT_any a W ha
 have HV:=Lib.hid (rightB_can a)
 obtain ⟨m,hm⟩:∃ m,magB a=m:=⟨_,rfl⟩
 rw [hm] at HD HV
 by_cases h:canB a=true
 ·rw [h] at HC HV
  have hdc:decide (m.size≤400)=decide ((m.size:Int)≤400):=by rw [Bool.eq_iff_iff,decide_eq_true_eq,decide_eq_true_eq];omega
  rw [hdc,Bool.true_and] at HV
  clear hdc hm h
  go_enter Tryz.func56,Tryz.ntmps56
  go_wp2_with fail
  refine HC.out.mono ?_
  rintro e w2 ⟨rfl,hE2⟩
  have HE2:=Lib.hid hE2
  clear hE2 HC
  go_wp2_with fail
  refine (HD.out w2).mono ?_
  rintro e w3 ⟨rfl,rfl⟩
  clear HD
  go_wp2_with fail
  go_ret
  exact ⟨by rw [HV.out];rfl,HE2.out⟩
 ·have hf:canB a=false:=by simpa using h
  rw [hf] at HC HV
  clear hf h hm
  go_enter Tryz.func56,Tryz.ntmps56
  go_wp2_with fail
  refine HC.out.mono ?_
  rintro e w2 ⟨rfl,hE2⟩
  have HE2:=Lib.hid hE2
  clear hE2 HC
  go_wp2_with fail
  go_ret
  exact ⟨by rw [HV.out];rfl,HE2.out⟩
def txtR (_:World) (v:Value) (a:ByteArray):Prop:=v=.string a
abbrev Txts (w:World) (v:Value) (L:List ByteArray):Prop:=ListAt 1 (inCell txtR) w v L
theorem txtR.mono':Mono (inCell txtR):=inCell.mono fun _ _ _ _ _ h=>h
theorem Txts.ext {w w':World} {v:Value} {L:List ByteArray} (h:Txts w v L) (he:Ext w w'):Txts w' v L:=ListAt.ext txtR.mono' h he
def TxtV (w:World) (v:Value) (n k:Int) (L:List ByteArray):Prop:=∃ r,v=.agg #[.int .i64 n,.int .i64 k,r]∧Txts w r L
theorem TxtV.ext {w w':World} {v:Value} {n k:Int} {L:List ByteArray} (h:TxtV w v n k L) (he:Ext w w'):TxtV w' v n k L:=by
 obtain ⟨r,h1,h2⟩:=h;exact ⟨r,h1,h2.ext he⟩
def chkX (n k:Int) (L:List ByteArray):Int:=if gradeS n k≠0 then 3 else if L.length≠(allW n.toNat k.toNat).length then 5 else if L.all rightB=true then 0 else 2
theorem gradeS_zero {n k:Int} (h:gradeS n k=0):∃ a b:Nat,n=a∧k=b∧a≤12∧b≤a:=by
 unfold gradeS at h
 split at h
 ·cases h
 ·exact ⟨n.toNat,k.toNat,by omega,by omega,by omega,by omega⟩
theorem chkX_zero {n k:Int} {L:List ByteArray} (h:chkX n k L=0):∃ (a b:Nat) (X:List Int),n=a∧k=b∧a≤12∧b≤a∧L=X.map intB∧X.length=(allW a b).length∧Digits400 X∧∀ s,(∀ t∈L,t.size≤s)→∀ x∈X,x.natAbs<10^s:=by
 unfold chkX at h
 split at h
 ·cases h
 ·rename_i hg
  split at h
  ·cases h
  ·rename_i hl
   split at h
   ·rename_i hr
    obtain ⟨a,b,rfl,rfl,ha,hb⟩:=gradeS_zero (Decidable.not_not.1 hg)
    simp only [Int.toNat_natCast,ne_eq,Decidable.not_not] at hl
    have hex:∀ L:List ByteArray,L.all rightB=true→∃ X:List Int,L=X.map intB∧Digits400 X∧∀ s,(∀ t∈L,t.size≤s)→∀ x∈X,x.natAbs<10^s:=by
     intro L
     induction L with
     | nil=>intro _;exact ⟨[],rfl,fun x hx=>absurd hx List.not_mem_nil,by simp⟩
     | cons t r ih =>
      intro h
      rw [List.all_cons,Bool.and_eq_true] at h
      obtain ⟨x,hx,h4,hs⟩:=right_int h.1
      obtain ⟨X,hX,hX4,hXs⟩:=ih h.2
      refine ⟨x::X,by rw [List.map_cons,← hx,← hX],fun y hy=>?_,fun s hts y hy=>?_⟩
      ·rcases List.mem_cons.1 hy with rfl | hy
       ·exact h4
       ·exact hX4 y hy
      ·rcases List.mem_cons.1 hy with rfl | hy
       ·exact Nat.lt_of_lt_of_le hs (Nat.pow_le_pow_right (by decide) (hts t (by simp)))
       ·exact hXs s (fun t ht=>hts t (List.mem_cons_of_mem _ ht)) y hy
    obtain ⟨X,hX,h4,hs⟩:=hex L hr
    exact ⟨a,b,X,rfl,rfl,ha,hb,hX,by rw [← hl,hX,List.length_map],h4,hs⟩
   ·cases h
theorem txt_list {w:World} {n k:Int} {r:Value} {L:List ByteArray} (h:TxtV w (.agg #[.int .i64 n,.int .i64 k,r]) n k L):Txts w r L:=by
 obtain ⟨r',h1,h2⟩:=h
 simp only [Value.agg.injEq,Array.mk.injEq,List.cons.injEq,true_and,and_true] at h1
 rw [h1];exact h2
theorem txts_nums {w:World} {v:Value} {X:List Int} (h:Txts w v (X.map intB)):ListAt 1 numC w v X:=by
 obtain ⟨us,h1,h2,h3,h4⟩:=h
 rw [List.length_map] at h1 h3
 refine ⟨us,h1,h2,h3,fun j u x hu hx=>?_⟩
 obtain ⟨s,hs,hs2⟩:=h4 j u (intB x) hu (by rw [List.getElem?_map,hx];rfl)
 rw [hs,hs2];rfl
set_option maxRecDepth 100000 in
set_option maxHeartbeats 4000000 in
theorem refChk10_any (n k:Int) (L:List ByteArray) (u:Value) (w:World) (h:TxtV w u n k L) (hs:∀ a∈L,a.size≤100000) :
  Calls Tryz.prog 22 #[u] w fun e w'=>e=.returned (.int .i64 (chkX n k L))∧Ext w w':=by
 obtain ⟨r,rfl,hr⟩:=h
 obtain ⟨a,c,rfl,h1,h2,-,hc⟩:=inCell.open hr
 unfold maxLen at h2
 obtain ⟨w1,hw1,hE1,hsz1,hb1⟩:=boxR w (.int .i64 n) (.int .i64 k) (.slice a L.length c)
 have HW:Hid (∀ x∈L,∀ W,Calls Tryz.prog 56 #[.string x] W fun e w'=>e=.returned (.bool (rightB x))∧Ext W w'):=fun x hx W=>rRightT_any x W (hs x hx)
 have HC:=Lib.hid hc
 have HB:=Lib.hid hb1
 have HE1:=Lib.hid hE1
 have k1:=block_cell hb1
 clear hb1 hE1 hr hc hs hsz1
 by_cases hn0:n<0
 ·have HV:Hid (chkX n k L=3):=if_pos (by rw [show gradeS n k=3 from if_pos (.inl hn0)];decide)
  go_enter Tryz.func22,Tryz.ntmps22
  go_wp2_with fail
  go_ret
  exact ⟨by rw [HV.out];rfl,HE1.out⟩
 by_cases hn1:n > 12
 ·have HV:Hid (chkX n k L=3):=if_pos (by rw [show gradeS n k=3 from if_pos (.inr (.inl hn1))];decide)
  go_enter Tryz.func22,Tryz.ntmps22
  go_wp2_with fail
  go_ret
  exact ⟨by rw [HV.out];rfl,HE1.out⟩
 by_cases hk0:k<0
 ·have HV:Hid (chkX n k L=3):=if_pos (by rw [show gradeS n k=3 from if_pos (.inr (.inr (.inl hk0)))];decide)
  go_enter Tryz.func22,Tryz.ntmps22
  go_wp2_with fail
  go_ret
  exact ⟨by rw [HV.out];rfl,HE1.out⟩
 by_cases hk1:k > n
 ·have HV:Hid (chkX n k L=3):=if_pos (by rw [show gradeS n k=3 from if_pos (.inr (.inr (.inr hk1)))];decide)
  go_enter Tryz.func22,Tryz.ntmps22
  go_wp2_with fail
  go_ret
  exact ⟨by rw [HV.out];rfl,HE1.out⟩
 have hg:gradeS n k=0:=if_neg (by omega)
 obtain ⟨N,K,rfl,rfl,hN,hK⟩:=gradeS_zero hg
 have HV:Hid (chkX N K L=if L.length≠(allW N K).length then 5 else if L.all rightB=true then 0 else 2):=by
  unfold Hid chkX;rw [if_neg (by rw [hg];decide),Int.toNat_natCast,Int.toNat_natCast]
 obtain ⟨m,hm⟩:∃ m,(allW N K).length=m:=⟨_,rfl⟩
 rw [hm] at HV
 have HA:Hid (∀ W,Calls Tryz.prog 33 #[.int .i64 (N:Int),.int .i64 (K:Int)] W fun e w'=>∃ a6 c6,e=.returned (.slice a6 m c6)∧Ext W w'):=fun W=>(refSets_any N K hN hK W).mono fun e w' ⟨v,h1,h2,h3⟩=>by
  obtain ⟨a6,c6,rfl,-⟩:=ListAt.open h2
  have hl:(castS (setsL N K)).length=m:=by unfold castS;rw [List.length_map,← agree_len N (by omega) K (by omega)];exact hm
  rw [hl] at h1
  exact ⟨a6,c6,h1,h3⟩
 have hm9:m≤924:=by rw [← hm];exact allW_len hN hK
 obtain ⟨l,hl⟩:∃ l,L.length=l:=⟨_,rfl⟩
 have HL:Hid (L.length=l):=hl
 rw [hl] at k1 h1 HB hw1 HV ⊢
 have hcmp:((l:Int) != (m:Int))=decide (l≠m):=by rw [Bool.eq_iff_iff,bne_iff_ne,decide_eq_true_eq];omega
 have hk1':¬ (N:Int)<(K:Int):=by omega
 clear hg hl hm
 go_enter Tryz.func22,Tryz.ntmps22
 go_wp2_with fail
 have d0:=k1 0;have d1:=k1 1;have d2:=k1 2
 simp only [List.getElem?_toArray,List.getElem?_cons_succ,List.getElem?_cons_zero] at d0 d1 d2
 have z1:w1.drew.cell? ⟨w.heap.size,0,none⟩=some (.int .i64 N):=d0
 have z2:w1.drew.cell? ⟨w.heap.size,1,none⟩=some (.int .i64 K):=d1
 have z3:w1.drew.cell? ⟨w.heap.size,2,none⟩=some (.slice a l c):=d2
 have z4:Hid (Ext w w1.drew):=HE1.out.trans (Ext.drew _)
 clear d0 d1 d2 k1
 by_cases hlm:l=m
 rotate_left
 ·have HV5:Hid (chkX N K L=5):=by unfold Hid;rw [HV.out,if_pos hlm]
  have hq:((l:Int) != (m:Int))=true:=by rw [hcmp];exact decide_eq_true hlm
  clear hcmp HV hn0 hn1 hk0 hk1 hk1' hw1
  go_region_held3 (fun w'=>w'.cell? ⟨w.heap.size,0,none⟩=some (.int .i64 N)∧w'.cell? ⟨w.heap.size,1,none⟩=some (.int .i64 K)∧w'.cell? ⟨w.heap.size,2,none⟩=some (.slice a l c)∧Hid (Ext w w'))
   (first | exact ⟨z1,z2,z3,z4⟩ | go_keep)
   (first
    | (go_at_call 33;with_reducible refine (HA.out _).mono ?_;rintro e w6 ⟨a6,c6,rfl,hE6⟩;have q1:=hE6.cell (a:=⟨w.heap.size,0,none⟩) (v:=.int .i64 N) (by assumption);have q2:=hE6.cell (a:=⟨w.heap.size,1,none⟩) (v:=.int .i64 K) (by assumption);have q3:=hE6.cell (a:=⟨w.heap.size,2,none⟩) (v:=.slice a l c) (by assumption);have q4:=Lib.hid (Ext.trans (Hid.out (p:=Ext w _) (by assumption)) hE6);(try clear z1 z2 z3 z4);have z1:=q1;have z2:=q2;have z3:=q3;have z4:=q4;clear hE6 q1 q2 q3 q4))
  all_goals
   go_wp2_with fail
   go_ret
   exact ⟨by rw [HV5.out];rfl,z4.out⟩
 have HVR:Hid (chkX N K L=if L.all rightB=true then 0 else 2):=by unfold Hid;rw [HV.out,if_neg (fun e=>e hlm)]
 have hq:((l:Int) != (m:Int))=false:=by rw [hcmp];exact decide_eq_false (fun e=>e hlm)
 clear hcmp HV hn0 hn1 hk0 hk1 hk1' hw1
 obtain rfl:=hlm.symm
 clear hlm
 go_region_held3 (fun w'=>w'.cell? ⟨w.heap.size,0,none⟩=some (.int .i64 N)∧w'.cell? ⟨w.heap.size,1,none⟩=some (.int .i64 K)∧w'.cell? ⟨w.heap.size,2,none⟩=some (.slice a m c)∧Hid (Ext w w'))
  (first | exact ⟨z1,z2,z3,z4⟩ | go_keep)
  (first
   | (go_at_call 33;with_reducible refine (HA.out _).mono ?_;rintro e w6 ⟨a6,c6,rfl,hE6⟩;have q1:=hE6.cell (a:=⟨w.heap.size,0,none⟩) (v:=.int .i64 N) (by assumption);have q2:=hE6.cell (a:=⟨w.heap.size,1,none⟩) (v:=.int .i64 K) (by assumption);have q3:=hE6.cell (a:=⟨w.heap.size,2,none⟩) (v:=.slice a m c) (by assumption);have q4:=Lib.hid (Ext.trans (Hid.out (p:=Ext w _) (by assumption)) hE6);(try clear z1 z2 z3 z4);have z1:=q1;have z2:=q2;have z3:=q3;have z4:=q4;clear hE6 q1 q2 q3 q4))
 all_goals
  go_wp2_with fail
  have Z3:=Lib.hid z3
  clear z1 z2 z3
  go_loopw [3] (fun t wr=>∃ j:Nat,j≤m∧t=.int .i64 j∧Hid (Ext w wr)∧Hid (wr.cell? ⟨w.heap.size,2,none⟩=some (.slice a m c))∧Hid ((L.take j).all rightB=true)) (fun t _=>m+1-(intOf t).toNat)
  case atStart=>exact ⟨0,by omega,rfl,z4.out,Z3.out,by first | rfl | trivial⟩
  case round =>
   obtain ⟨j,hj,rfl,HX,HD,HR⟩:=hrel
   have z3:=HD.out
   by_cases hlt:j<m
   ·obtain ⟨x,hx⟩:∃ x,L[j]?=some x:=⟨_,List.getElem?_eq_getElem (by have:=HL.out;omega)⟩
    obtain ⟨b,off,rfl,hb,hcell⟩:=HC.out (by intro e;rw [e] at hx;simp at hx)
    obtain ⟨z9,e1,g1⟩:=hcell j x hx
    obtain rfl:z9=.string x:=e1
    have g1:=HX.out.cell g1
    have q1:(j:Int)<(m:Int):=by omega
    have HK:=Lib.hid (HW.out x (List.mem_of_getElem? hx))
    have HXX:=Lib.hid hx
    clear hcell hx hb
    by_cases hri:rightB x=true
    ·rw [hri] at HK
     have HRI:=Lib.hid hri
     clear hri
     go_wp2_with fail
     refine (HK.out _).mono ?_
     rintro e w7 ⟨rfl,h7⟩
     have HX7:Hid (Ext w w7):=HX.out.trans h7
     have HD7:=Lib.hid (h7.cell HD.out)
     clear h7 HK z3
     go_wp2_with fail
     go_roundw
     case rel=>exact ⟨j+1,by omega,by go_num,HX7.out,HD7.out,by unfold Hid;rw [List.take_add_one,HXX.out,List.all_append,HR.out];simp [HRI.out]⟩
     case measure=>simp [intOf];omega
    ·have hf:rightB x=false:=by simpa using hri
     rw [hf] at HK
     have HV2:Hid (chkX N K L=2):=by
      unfold Hid
      rw [HVR.out,if_neg]
      intro e
      exact hri (List.all_eq_true.1 e x (List.mem_of_getElem? HXX.out))
     clear hf hri
     go_wp2_with fail
     refine (HK.out _).mono ?_
     rintro e w7 ⟨rfl,h7⟩
     have HX7:Hid (Ext w w7):=HX.out.trans h7
     clear h7 HK z3
     go_wp2_with fail
     go_ret
     exact ⟨by rw [HV2.out];rfl,HX7.out⟩
   ·obtain rfl:j=m:=by omega
    have HV0:Hid (chkX N K L=0):=by
     unfold Hid
     have:=HR.out
     rw [List.take_of_length_le (by have:=HL.out;omega)] at this
     rw [HVR.out,if_pos this]
    go_wp2_with fail
    go_ret
    exact ⟨by rw [HV0.out];rfl,HX.out⟩
end Go.Proofs.YtjlkkofmojgipaaGreatDoor
