import Derived.Test.YtjlkkofmojgipaaGreatDoorXAT
import Derived.Test.YtjlkkofmojgipaaGreatDoorXAU
import Derived.Test.YtjlkkofmojgipaaGreatDoorXBP
import Derived.Test.YtjlkkofmojgipaaGreatDoorXAS
import Derived.Test.YtjlkkofmojgipaaGreatDoorXBL
namespace Go.Proofs.YtjlkkofmojgipaaGreatDoor
set_option linter.unusedVariables false
set_option linter.unusedSimpArgs false
open Go.RowKit
def canB (a:ByteArray):Bool:=!(minusB a && (magB a).toList == [48]) && canonD (magB a).data.toList
theorem rightB_can (a:ByteArray):rightB a=(canB a && decide ((magB a).size≤400)):=rfl
theorem canonD_bad {l:List UInt8} {c:UInt8} (hc:c∈l) (h:isDig c=false):canonD l=false:=by
 have:l.all isDig=false:=by
  rw [List.all_eq_false];exact ⟨c,hc,by simp [h]⟩
 unfold canonD;rw [this];rfl
set_option maxRecDepth 100000 in
set_option maxHeartbeats 1000000 in
theorem canT_minus (a m:ByteArray) (w:World) (hsz:m.size≤100000) (hp:0<a.size) (q:(((a[0]'hp).toNat:Int) == 45)=true) (t:a.extract 1 a.size=m) (hzf:(m.toList == [48])=false) (HV:Hid (canB a=canonD m.data.toList)) :
  Calls Tryz.prog 114 #[.string a] w fun e w'=>e=.returned (.bool (canB a))∧Ext w w':=by
 have hp':(0:Int)<(a.size:Int):=by omega
 have hp1:(1:Int)≤(a.size:Int):=by omega
 go_enter Tryz.func114,Tryz.ntmps114
 go_wp2_with fail
 clear t q hp' hp1 hzf
 go_loopw [4] (fun t wr=>∃ j:Nat,j≤m.size∧t=.int .i64 j∧Ext w wr∧Hid ((m.data.toList.take j).all isDig=true)) (fun t _=>m.size+1-(intOf t).toNat)
 case atStart=>exact ⟨0,by omega,rfl,by first | exact Ext.refl _ | exact Ext.drew _,rfl⟩
 case round =>
  obtain ⟨j,hj,rfl,hE,HA⟩:=hrel
  have HE:=Lib.hid hE
  by_cases hlt:j<m.size
  ·obtain ⟨c,hc⟩:∃ c,m[j]'hlt=c:=⟨_,rfl⟩
   have hb:=bytes_get m j hlt
   rw [hc] at hb
   have hc8:(c.toNat:Int)≤255:=by have:=c.toNat_lt;omega
   have HT1:Hid ((m.data.toList.take (j+1)).all isDig=(isDig c)):=by
    unfold Hid;rw [List.take_add_one,hb,List.all_append,HA.out];simp
   have HAll:Hid (isDig c=false→canonD m.data.toList=false):=fun h=>canonD_bad (List.mem_of_getElem? hb) h
   have hlt':(j:Int)<(m.size:Int):=by omega
   obtain ⟨z,hz⟩:∃ z:Nat,c.toNat=z:=⟨_,rfl⟩
   have HZ:Hid (isDig c=true↔48≤(z:Int)∧(z:Int)≤57):=by unfold Hid;rw [isDig_iffW,hz]
   have e1:((m[j]'hlt).toNat:Int)=(z:Int):=by rw [hc,hz]
   clear hb hE hz hc8 hc
   by_cases h1:(z:Int)<48
   ·have HF:Hid (canB a=false):=by unfold Hid;rw [HV.out];exact HAll.out (by rw [← Bool.not_eq_true,HZ.out];omega)
    go_wp2_with fail
    go_ret
    exact ⟨by rw [HF.out];rfl,HE.out⟩
   ·by_cases h2:57<(z:Int)
    ·have HF:Hid (canB a=false):=by unfold Hid;rw [HV.out];exact HAll.out (by rw [← Bool.not_eq_true,HZ.out];omega)
     have z1:=decide_eq_false h1;have z2:=decide_eq_true h2
     go_wp2_with fail
     go_ret
     exact ⟨by rw [HF.out];rfl,HE.out⟩
    ·have HD:Hid ((m.data.toList.take (j+1)).all isDig=true):=by
      unfold Hid;rw [HT1.out,HZ.out];omega
     have z1:=decide_eq_false h1;have z2:=decide_eq_false h2
     go_wp2_with fail
     go_roundw
     case rel=>exact ⟨j+1,by omega,by go_num,HE.out,HD⟩
     case measure=>simp [intOf];omega
  ·obtain rfl:j=m.size:=by omega
   have HL:Hid (m.data.toList.length=m.size):=(Lib.size_eq m).symm
   have HAll:Hid (m.data.toList.all isDig=true):=by
    unfold Hid
    have:=HA.out
    rwa [List.take_of_length_le (by rw [← Lib.size_eq];omega)] at this
   clear hE hlt
   by_cases h0:0<m.size
   ·have h0':(0:Int)<(m.size:Int):=by omega
    have hb:=bytes_get m 0 h0
    have HVV:Hid (canB a=(((m[0]'h0).toNat:Int) != 48 || ((m.size:Int) == 1))):=by
     unfold Hid
     rw [HV.out]
     unfold canonD
     have e1:m.data.toList.head?=some (m[0]'h0):=by rw [List.head?_eq_getElem?];exact hb
     rw [HAll.out,HL.out,e1,Bool.true_and,Bool.eq_iff_iff]
     simp only [Bool.or_eq_true,Bool.and_eq_true,bne_iff_ne,beq_iff_eq,ne_eq,Option.some.injEq,decide_eq_true_eq]
     rw [← UInt8.toNat_inj]
     show _∨(_∧¬ ((m[0]'h0).toNat=48))↔_
     omega
    clear hb
    by_cases h4:(((m[0]'h0).toNat:Int) != 48)=true
    ·have HF:Hid (canB a=true):=by unfold Hid;rw [HVV.out,h4];rfl
     go_wp2_with fail
     go_ret
     exact ⟨by rw [HF.out];rfl,HE.out⟩
    ·have h4':(((m[0]'h0).toNat:Int) != 48)=false:=by simpa using h4
     have HF:Hid (canB a=((m.size:Int) == 1)):=by unfold Hid;rw [HVV.out,h4'];rfl
     clear h4
     obtain ⟨sb,hsb⟩:∃ b,((m.size:Int) == 1)=b:=⟨_,rfl⟩
     rw [hsb] at HF
     go_wp2_with fail
     go_ret
     exact ⟨by rw [HF.out];rfl,HE.out⟩
   ·have h0':¬ (0:Int)<(m.size:Int):=by omega
    have HF:Hid (canB a=false):=by unfold Hid;rw [HV.out];unfold canonD;rw [HL.out,show m.size=0 by omega];simp
    go_wp2_with fail
    go_ret
    exact ⟨by rw [HF.out];rfl,HE.out⟩
set_option maxRecDepth 100000 in
set_option maxHeartbeats 1000000 in
theorem canT_plus (a m:ByteArray) (w:World) (hsz:m.size≤100000) (hp:0<m.size) (q:(((m[0]'hp).toNat:Int) == 45)=false) (HV:Hid (canB a=canonD m.data.toList)) :
  Calls Tryz.prog 114 #[.string m] w fun e w'=>e=.returned (.bool (canB a))∧Ext w w':=by
 have hp':(0:Int)<(m.size:Int):=by omega
 go_enter Tryz.func114,Tryz.ntmps114
 go_wp2_with fail
 clear q hp'
 go_loopw [4] (fun t wr=>∃ j:Nat,j≤m.size∧t=.int .i64 j∧Ext w wr∧Hid ((m.data.toList.take j).all isDig=true)) (fun t _=>m.size+1-(intOf t).toNat)
 case atStart=>exact ⟨0,by omega,rfl,by first | exact Ext.refl _ | exact Ext.drew _,rfl⟩
 case round =>
  obtain ⟨j,hj,rfl,hE,HA⟩:=hrel
  have HE:=Lib.hid hE
  by_cases hlt:j<m.size
  ·obtain ⟨c,hc⟩:∃ c,m[j]'hlt=c:=⟨_,rfl⟩
   have hb:=bytes_get m j hlt
   rw [hc] at hb
   have hc8:(c.toNat:Int)≤255:=by have:=c.toNat_lt;omega
   have HT1:Hid ((m.data.toList.take (j+1)).all isDig=(isDig c)):=by
    unfold Hid;rw [List.take_add_one,hb,List.all_append,HA.out];simp
   have HAll:Hid (isDig c=false→canonD m.data.toList=false):=fun h=>canonD_bad (List.mem_of_getElem? hb) h
   have hlt':(j:Int)<(m.size:Int):=by omega
   obtain ⟨z,hz⟩:∃ z:Nat,c.toNat=z:=⟨_,rfl⟩
   have HZ:Hid (isDig c=true↔48≤(z:Int)∧(z:Int)≤57):=by unfold Hid;rw [isDig_iffW,hz]
   have e1:((m[j]'hlt).toNat:Int)=(z:Int):=by rw [hc,hz]
   clear hb hE hz hc8 hc
   by_cases h1:(z:Int)<48
   ·have HF:Hid (canB a=false):=by unfold Hid;rw [HV.out];exact HAll.out (by rw [← Bool.not_eq_true,HZ.out];omega)
    go_wp2_with fail
    go_ret
    exact ⟨by rw [HF.out];rfl,HE.out⟩
   ·by_cases h2:57<(z:Int)
    ·have HF:Hid (canB a=false):=by unfold Hid;rw [HV.out];exact HAll.out (by rw [← Bool.not_eq_true,HZ.out];omega)
     have z1:=decide_eq_false h1;have z2:=decide_eq_true h2
     go_wp2_with fail
     go_ret
     exact ⟨by rw [HF.out];rfl,HE.out⟩
    ·have HD:Hid ((m.data.toList.take (j+1)).all isDig=true):=by
      unfold Hid;rw [HT1.out,HZ.out];omega
     have z1:=decide_eq_false h1;have z2:=decide_eq_false h2
     go_wp2_with fail
     go_roundw
     case rel=>exact ⟨j+1,by omega,by go_num,HE.out,HD⟩
     case measure=>simp [intOf];omega
  ·obtain rfl:j=m.size:=by omega
   have HL:Hid (m.data.toList.length=m.size):=(Lib.size_eq m).symm
   have HAll:Hid (m.data.toList.all isDig=true):=by
    unfold Hid
    have:=HA.out
    rwa [List.take_of_length_le (by rw [← Lib.size_eq];omega)] at this
   clear hE hlt
   by_cases h0:0<m.size
   ·have h0':(0:Int)<(m.size:Int):=by omega
    have hb:=bytes_get m 0 h0
    have HVV:Hid (canB a=(((m[0]'h0).toNat:Int) != 48 || ((m.size:Int) == 1))):=by
     unfold Hid
     rw [HV.out]
     unfold canonD
     have e1:m.data.toList.head?=some (m[0]'h0):=by rw [List.head?_eq_getElem?];exact hb
     rw [HAll.out,HL.out,e1,Bool.true_and,Bool.eq_iff_iff]
     simp only [Bool.or_eq_true,Bool.and_eq_true,bne_iff_ne,beq_iff_eq,ne_eq,Option.some.injEq,decide_eq_true_eq]
     rw [← UInt8.toNat_inj]
     show _∨(_∧¬ ((m[0]'h0).toNat=48))↔_
     omega
    clear hb
    by_cases h4:(((m[0]'h0).toNat:Int) != 48)=true
    ·have HF:Hid (canB a=true):=by unfold Hid;rw [HVV.out,h4];rfl
     go_wp2_with fail
     go_ret
     exact ⟨by rw [HF.out];rfl,HE.out⟩
    ·have h4':(((m[0]'h0).toNat:Int) != 48)=false:=by simpa using h4
     have HF:Hid (canB a=((m.size:Int) == 1)):=by unfold Hid;rw [HVV.out,h4'];rfl
     clear h4
     obtain ⟨sb,hsb⟩:∃ b,((m.size:Int) == 1)=b:=⟨_,rfl⟩
     rw [hsb] at HF
     go_wp2_with fail
     go_ret
     exact ⟨by rw [HF.out];rfl,HE.out⟩
   ·exact absurd hp h0
set_option maxRecDepth 100000 in
set_option maxHeartbeats 1000000 in
theorem canT_nil (a m:ByteArray) (w:World) (hsz:m.size≤100000) (hp:¬ 0<m.size) (HV:Hid (canB a=canonD m.data.toList)) :
  Calls Tryz.prog 114 #[.string m] w fun e w'=>e=.returned (.bool (canB a))∧Ext w w':=by
 have hp':¬ (0:Int)<(m.size:Int):=by omega
 have HF:Hid (canB a=false):=by unfold Hid;rw [HV.out];unfold canonD;rw [← Lib.size_eq,show m.size=0 by omega];simp
 go_enter Tryz.func114,Tryz.ntmps114
 go_wp2_with fail
 go_loopw [4] (fun t wr=>t=.int .i64 0∧Ext w wr) (fun t _=>1)
 case atStart=>exact ⟨rfl,Ext.refl _⟩
 case round =>
  obtain ⟨rfl,hE⟩:=hrel
  have HE:=Lib.hid hE
  go_wp2_with fail
  go_ret
  exact ⟨by rw [HF.out];rfl,HE.out⟩
set_option maxRecDepth 100000 in
set_option maxHeartbeats 1000000 in
theorem rCanonT_any (a:ByteArray) (w:World) (ha:a.size≤100000) :
  Calls Tryz.prog 114 #[.string a] w fun e w'=>e=.returned (.bool (canB a))∧Ext w w':=by
 by_cases hp:0<a.size
 ·have q:=minus_head hp
  by_cases h:minusB a=true
  ·have hm:magB a=a.extract 1 a.size:=if_pos h
   by_cases hz:((magB a).toList == [48])=true
   ·have HV:Hid (canB a=false):=by unfold Hid canB;rw [h,hz];rfl
    have hp':(0:Int)<(a.size:Int):=by omega
    have hp1:(1:Int)≤(a.size:Int):=by omega
    rw [h] at q
    rw [hm] at hz
    obtain ⟨m,t⟩:∃ m,a.extract 1 a.size=m:=⟨_,rfl⟩
    rw [t] at hz
    clear h hm
    go_enter Tryz.func114,Tryz.ntmps114
    go_wp2_with fail
    go_ret
    exact ⟨by first | (rw [HV.out];done) | (rw [HV.out];rfl),Ext.refl _⟩
   ·rw [h] at q
    exact canT_minus a (magB a) w (Nat.le_trans (magB_size a) ha) hp q hm.symm (by simpa using hz) (by unfold Hid canB;rw [h,show ((magB a).toList == [48])=false by simpa using hz];rfl)
  ·have hf:minusB a=false:=by simpa using h
   have hm:magB a=a:=if_neg h
   rw [hf] at q
   exact canT_plus a a w ha hp q (by unfold Hid canB;rw [hf,hm];rfl)
 ·have hf:=minus_nil hp
  have hm:magB a=a:=if_neg (by rw [hf];decide)
  exact canT_nil a a w ha hp (by unfold Hid canB;rw [hf,hm];rfl)
set_option maxRecDepth 100000 in
set_option maxHeartbeats 1000000 in
theorem rRightT_any (a:ByteArray) (w:World) (ha:a.size≤100000) :
  Calls Tryz.prog 56 #[.string a] w fun e w'=>e=.returned (.bool (rightB a))∧Ext w w':=by
 have HC:=Lib.hid (rCanonT_any a w ha)
 have HD:Hid (∀ W,Calls Tryz.prog 115 #[.string a] W fun e w'=>e=.returned (.string (magB a))∧W=w'):=fun W=>rDigitsT_any a W ha
 have HV:=Lib.hid (rightB_can a)
 obtain ⟨m,hm⟩:∃ m,magB a=m:=⟨_,rfl⟩
 rw [hm] at HD HV
 by_cases h:canB a=true
 ·rw [h] at HC HV
  have hdc:decide (m.size≤400)=decide ((m.size:Int)≤400):=by rw [Bool.eq_iff_iff,decide_eq_true_eq,decide_eq_true_eq];omega
  rw [hdc,Bool.true_and] at HV
  clear hdc hm h
  go_enter Tryz.func56,Tryz.ntmps56
  go_wp2_with fail
  refine HC.out.mono ?_
  rintro e w2 ⟨rfl,hE2⟩
  have HE2:=Lib.hid hE2
  clear hE2 HC
  go_wp2_with fail
  refine (HD.out w2).mono ?_
  rintro e w3 ⟨rfl,rfl⟩
  clear HD
  go_wp2_with fail
  go_ret
  exact ⟨by rw [HV.out];rfl,HE2.out⟩
 ·have hf:canB a=false:=by simpa using h
  rw [hf] at HC HV
  clear hf h hm
  go_enter Tryz.func56,Tryz.ntmps56
  go_wp2_with fail
  refine HC.out.mono ?_
  rintro e w2 ⟨rfl,hE2⟩
  have HE2:=Lib.hid hE2
  clear hE2 HC
  go_wp2_with fail
  go_ret
  exact ⟨by rw [HV.out];rfl,HE2.out⟩
set_option maxRecDepth 100000 in
set_option maxHeartbeats 4000000 in
theorem refChk10_any (n k:Int) (L:List ByteArray) (u:Value) (w:World) (h:TxtV w u n k L) (hs:∀ a∈L,a.size≤100000) :
  Calls Tryz.prog 22 #[u] w fun e w'=>e=.returned (.int .i64 (chkX n k L))∧Ext w w':=by
 obtain ⟨r,rfl,hr⟩:=h
 obtain ⟨a,c,rfl,h1,h2,-,hc⟩:=inCell.open hr
 unfold maxLen at h2
 obtain ⟨w1,hw1,hE1,hsz1,hb1⟩:=boxR w (.int .i64 n) (.int .i64 k) (.slice a L.length c)
 have HW:Hid (∀ x∈L,∀ W,Calls Tryz.prog 56 #[.string x] W fun e w'=>e=.returned (.bool (rightB x))∧Ext W w'):=fun x hx W=>rRightT_any x W (hs x hx)
 have HC:=Lib.hid hc
 have HB:=Lib.hid hb1
 have HE1:=Lib.hid hE1
 have k1:=block_cell hb1
 clear hb1 hE1 hr hc hs hsz1
 by_cases hn0:n<0
 ·have HV:Hid (chkX n k L=3):=if_pos (by rw [show gradeS n k=3 from if_pos (.inl hn0)];decide)
  go_enter Tryz.func22,Tryz.ntmps22
  go_wp2_with fail
  go_ret
  exact ⟨by rw [HV.out];rfl,HE1.out⟩
 by_cases hn1:n > 12
 ·have HV:Hid (chkX n k L=3):=if_pos (by rw [show gradeS n k=3 from if_pos (.inr (.inl hn1))];decide)
  go_enter Tryz.func22,Tryz.ntmps22
  go_wp2_with fail
  go_ret
  exact ⟨by rw [HV.out];rfl,HE1.out⟩
 by_cases hk0:k<0
 ·have HV:Hid (chkX n k L=3):=if_pos (by rw [show gradeS n k=3 from if_pos (.inr (.inr (.inl hk0)))];decide)
  go_enter Tryz.func22,Tryz.ntmps22
  go_wp2_with fail
  go_ret
  exact ⟨by rw [HV.out];rfl,HE1.out⟩
 by_cases hk1:k > n
 ·have HV:Hid (chkX n k L=3):=if_pos (by rw [show gradeS n k=3 from if_pos (.inr (.inr (.inr hk1)))];decide)
  go_enter Tryz.func22,Tryz.ntmps22
  go_wp2_with fail
  go_ret
  exact ⟨by rw [HV.out];rfl,HE1.out⟩
 have hg:gradeS n k=0:=if_neg (by omega)
 obtain ⟨N,K,rfl,rfl,hN,hK⟩:=gradeS_zero hg
 have HV:Hid (chkX N K L=if L.length≠(allW N K).length then 5 else if L.all rightB=true then 0 else 2):=by
  unfold Hid chkX;rw [if_neg (by rw [hg];decide),Int.toNat_natCast,Int.toNat_natCast]
 obtain ⟨m,hm⟩:∃ m,(allW N K).length=m:=⟨_,rfl⟩
 rw [hm] at HV
 have HA:Hid (∀ W,Calls Tryz.prog 33 #[.int .i64 (N:Int),.int .i64 (K:Int)] W fun e w'=>∃ a6 c6,e=.returned (.slice a6 m c6)∧Ext W w'):=fun W=>(refSets_any N K hN hK W).mono fun e w' ⟨v,h1,h2,h3⟩=>by
  obtain ⟨a6,c6,rfl,-⟩:=ListAt.open h2
  have hl:(castS (setsL N K)).length=m:=by unfold castS;rw [List.length_map,← agree_len N (by omega) K (by omega)];exact hm
  rw [hl] at h1
  exact ⟨a6,c6,h1,h3⟩
 have hm9:m≤924:=by rw [← hm];exact allW_len hN hK
 obtain ⟨l,hl⟩:∃ l,L.length=l:=⟨_,rfl⟩
 have HL:Hid (L.length=l):=hl
 rw [hl] at k1 h1 HB hw1 HV ⊢
 have hcmp:((l:Int) != (m:Int))=decide (l≠m):=by rw [Bool.eq_iff_iff,bne_iff_ne,decide_eq_true_eq];omega
 have hk1':¬ (N:Int)<(K:Int):=by omega
 clear hg hl hm
 go_enter Tryz.func22,Tryz.ntmps22
 go_wp2_with fail
 have d0:=k1 0;have d1:=k1 1;have d2:=k1 2
 simp only [List.getElem?_toArray,List.getElem?_cons_succ,List.getElem?_cons_zero] at d0 d1 d2
 have z1:w1.drew.cell? ⟨w.heap.size,0,none⟩=some (.int .i64 N):=d0
 have z2:w1.drew.cell? ⟨w.heap.size,1,none⟩=some (.int .i64 K):=d1
 have z3:w1.drew.cell? ⟨w.heap.size,2,none⟩=some (.slice a l c):=d2
 have z4:Hid (Ext w w1.drew):=HE1.out.trans (Ext.drew _)
 clear d0 d1 d2 k1
 by_cases hlm:l=m
 rotate_left
 ·have HV5:Hid (chkX N K L=5):=by unfold Hid;rw [HV.out,if_pos hlm]
  have hq:((l:Int) != (m:Int))=true:=by rw [hcmp];exact decide_eq_true hlm
  clear hcmp HV hn0 hn1 hk0 hk1 hk1' hw1
  go_region_held3 (fun w'=>w'.cell? ⟨w.heap.size,0,none⟩=some (.int .i64 N)∧w'.cell? ⟨w.heap.size,1,none⟩=some (.int .i64 K)∧w'.cell? ⟨w.heap.size,2,none⟩=some (.slice a l c)∧Hid (Ext w w'))
   (first | exact ⟨z1,z2,z3,z4⟩ | go_keep)
   (first
    | (go_at_call 33;with_reducible refine (HA.out _).mono ?_;rintro e w6 ⟨a6,c6,rfl,hE6⟩;have q1:=hE6.cell (a:=⟨w.heap.size,0,none⟩) (v:=.int .i64 N) (by assumption);have q2:=hE6.cell (a:=⟨w.heap.size,1,none⟩) (v:=.int .i64 K) (by assumption);have q3:=hE6.cell (a:=⟨w.heap.size,2,none⟩) (v:=.slice a l c) (by assumption);have q4:=Lib.hid (Ext.trans (Hid.out (p:=Ext w _) (by assumption)) hE6);(try clear z1 z2 z3 z4);have z1:=q1;have z2:=q2;have z3:=q3;have z4:=q4;clear hE6 q1 q2 q3 q4))
  all_goals
   go_wp2_with fail
   go_ret
   exact ⟨by rw [HV5.out];rfl,z4.out⟩
 have HVR:Hid (chkX N K L=if L.all rightB=true then 0 else 2):=by unfold Hid;rw [HV.out,if_neg (fun e=>e hlm)]
 have hq:((l:Int) != (m:Int))=false:=by rw [hcmp];exact decide_eq_false (fun e=>e hlm)
 clear hcmp HV hn0 hn1 hk0 hk1 hk1' hw1
 obtain rfl:=hlm.symm
 clear hlm
 go_region_held3 (fun w'=>w'.cell? ⟨w.heap.size,0,none⟩=some (.int .i64 N)∧w'.cell? ⟨w.heap.size,1,none⟩=some (.int .i64 K)∧w'.cell? ⟨w.heap.size,2,none⟩=some (.slice a m c)∧Hid (Ext w w'))
  (first | exact ⟨z1,z2,z3,z4⟩ | go_keep)
  (first
   | (go_at_call 33;with_reducible refine (HA.out _).mono ?_;rintro e w6 ⟨a6,c6,rfl,hE6⟩;have q1:=hE6.cell (a:=⟨w.heap.size,0,none⟩) (v:=.int .i64 N) (by assumption);have q2:=hE6.cell (a:=⟨w.heap.size,1,none⟩) (v:=.int .i64 K) (by assumption);have q3:=hE6.cell (a:=⟨w.heap.size,2,none⟩) (v:=.slice a m c) (by assumption);have q4:=Lib.hid (Ext.trans (Hid.out (p:=Ext w _) (by assumption)) hE6);(try clear z1 z2 z3 z4);have z1:=q1;have z2:=q2;have z3:=q3;have z4:=q4;clear hE6 q1 q2 q3 q4))
 all_goals
  go_wp2_with fail
  have Z3:=Lib.hid z3
  clear z1 z2 z3
  go_loopw [3] (fun t wr=>∃ j:Nat,j≤m∧t=.int .i64 j∧Hid (Ext w wr)∧Hid (wr.cell? ⟨w.heap.size,2,none⟩=some (.slice a m c))∧Hid ((L.take j).all rightB=true)) (fun t _=>m+1-(intOf t).toNat)
  case atStart=>exact ⟨0,by omega,rfl,z4.out,Z3.out,by first | rfl | trivial⟩
  case round =>
   obtain ⟨j,hj,rfl,HX,HD,HR⟩:=hrel
   have z3:=HD.out
   by_cases hlt:j<m
   ·obtain ⟨x,hx⟩:∃ x,L[j]?=some x:=⟨_,List.getElem?_eq_getElem (by have:=HL.out;omega)⟩
    obtain ⟨b,off,rfl,hb,hcell⟩:=HC.out (by intro e;rw [e] at hx;simp at hx)
    obtain ⟨z9,e1,g1⟩:=hcell j x hx
    obtain rfl:z9=.string x:=e1
    have g1:=HX.out.cell g1
    have q1:(j:Int)<(m:Int):=by omega
    have HK:=Lib.hid (HW.out x (List.mem_of_getElem? hx))
    have HXX:=Lib.hid hx
    clear hcell hx hb
    by_cases hri:rightB x=true
    ·rw [hri] at HK
     have HRI:=Lib.hid hri
     clear hri
     go_wp2_with fail
     refine (HK.out _).mono ?_
     rintro e w7 ⟨rfl,h7⟩
     have HX7:Hid (Ext w w7):=HX.out.trans h7
     have HD7:=Lib.hid (h7.cell HD.out)
     clear h7 HK z3
     go_wp2_with fail
     go_roundw
     case rel=>exact ⟨j+1,by omega,by go_num,HX7.out,HD7.out,by unfold Hid;rw [List.take_add_one,HXX.out,List.all_append,HR.out];simp [HRI.out]⟩
     case measure=>simp [intOf];omega
    ·have hf:rightB x=false:=by simpa using hri
     rw [hf] at HK
     have HV2:Hid (chkX N K L=2):=by
      unfold Hid
      rw [HVR.out,if_neg]
      intro e
      exact hri (List.all_eq_true.1 e x (List.mem_of_getElem? HXX.out))
     clear hf hri
     go_wp2_with fail
     refine (HK.out _).mono ?_
     rintro e w7 ⟨rfl,h7⟩
     have HX7:Hid (Ext w w7):=HX.out.trans h7
     clear h7 HK z3
     go_wp2_with fail
     go_ret
     exact ⟨by rw [HV2.out];rfl,HX7.out⟩
   ·obtain rfl:j=m:=by omega
    have HV0:Hid (chkX N K L=0):=by
     unfold Hid
     have:=HR.out
     rw [List.take_of_length_le (by have:=HL.out;omega)] at this
     rw [HVR.out,if_pos this]
    go_wp2_with fail
    go_ret
    exact ⟨by rw [HV0.out];rfl,HX.out⟩
def fewT (n:Int) (L:List ByteArray):Prop:=¬ (4<n∧n≤12)∧L.length≤8∧∀ a∈L,a.size≤13∨(398≤a.size∧a.size≤402)
def shortT (L:List ByteArray):Prop:=∀ a∈L,a.size≤13
instance (n:Int) (L:List ByteArray):Decidable (fewT n L):=by unfold fewT;exact inferInstance
instance (L:List ByteArray):Decidable (shortT L):=by unfold shortT;exact inferInstance
set_option maxRecDepth 100000 in
set_option maxHeartbeats 4000000 in
theorem few10_any (n k:Int) (L:List ByteArray) (u:Value) (w:World) (h:TxtV w u n k L) :
  Calls Tryz.prog 20 #[u] w fun e w'=>e=.returned (.bool (decide (fewT n L)))∧Ext w w':=by
 obtain ⟨r,rfl,hr⟩:=h
 obtain ⟨a,c,rfl,h1,h2,-,hc⟩:=inCell.open hr
 unfold maxLen at h2
 obtain ⟨w1,hw1,hE1,hsz1,hb1⟩:=boxM w (.int .i64 n) (.int .i64 k) (.slice a L.length c)
 have HC:=Lib.hid hc
 have HB:=Lib.hid hb1
 have HE1:=Lib.hid hE1
 obtain ⟨m,hm⟩:∃ m,L.length=m:=⟨_,rfl⟩
 have HL:Hid (L.length=m):=hm
 have k1:=block_cell hb1
 rw [hm] at h1 HB hw1 k1 ⊢
 by_cases hAB:4<n∧n≤12
 ·have HV:Hid (¬ fewT n L):=fun e=>e.1 hAB
  obtain ⟨hA,hB⟩:=hAB
  clear hb1 hE1 hr hc hm
  go_enter Tryz.func20,Tryz.ntmps20
  go_wp2_with fail
  go_ret
  exact ⟨by rw [decide_eq_false HV.out];rfl,HE1.out⟩
 have HN:=Lib.hid hAB
 by_cases hA:4<n
 case' pos=>have hB:¬ n≤12:=fun e=>hAB ⟨hA,e⟩
 all_goals
  by_cases h8:8<m
  ·have HV:Hid (¬ fewT n L):=fun e=>by have:=e.2.1;rw [HL.out] at this;omega
   have h8':(8:Int)<(m:Int):=by omega
   clear hb1 hE1 hr hc hm h8 hAB
   go_enter Tryz.func20,Tryz.ntmps20
   go_wp2_with fail
   go_ret
   exact ⟨by rw [decide_eq_false HV.out];rfl,HE1.out⟩
  have h8':¬ (8:Int)<(m:Int):=by omega
  clear hb1 hE1 hr hc hm hAB
  go_enter Tryz.func20,Tryz.ntmps20
  go_wp2_with fail
  clear hw1 k1
  go_loopw [3,4] (fun t o wr=>∃ (j:Nat) (v0:Value),j≤m∧t=.int .i64 j∧o=v0∧Hid (Ext w1 wr)∧Hid (∀ a∈L.take j,a.size≤13∨(398≤a.size∧a.size≤402))) (fun t _ _=>m+1-(intOf t).toNat)
  case atStart=>exact ⟨0,_,by omega,rfl,rfl,by first | exact Ext.refl _ | exact Ext.drew _,by simp [Hid]⟩
  case round =>
   obtain ⟨j,v9,hj,rfl,hv9,HX,HR⟩:=hrel
   obtain rfl:=hv9.symm
   have k1:=block_cell (block_ext HB.out HX.out)
   by_cases hlt:j<m
   ·obtain ⟨x,hx⟩:∃ x,L[j]?=some x:=⟨_,List.getElem?_eq_getElem (by have:=HL.out;omega)⟩
    obtain ⟨b,off,rfl,hb,hcell⟩:=HC.out (by intro e;rw [e] at hx;simp at hx)
    obtain ⟨z9,e1,g1⟩:=hcell j x hx
    obtain rfl:z9=.string x:=e1
    have g1:=HX.out.cell (HE1.out.cell g1)
    have q1:(j:Int)<(m:Int):=by omega
    have HXX:=Lib.hid hx
    obtain ⟨s,hs⟩:∃ s,x.size=s:=⟨_,rfl⟩
    have HS:=Lib.hid hs
    clear hcell hx hb
    by_cases hA1:13<s
    ·by_cases hA2:s<398
     ·have HV:Hid (¬ fewT n L):=fun e=>by
       have:=e.2.2 x (List.mem_of_getElem? HXX.out);have:=HS.out;omega
      have q3:(13:Int)<(s:Int):=by omega
      have q4:(s:Int)<398:=by omega
      clear hA1 hA2
      go_wp2_with fail
      go_ret
      exact ⟨by rw [decide_eq_false HV.out];rfl,HE1.out.trans HX.out⟩
     ·by_cases hA3:402<s
      ·have HV:Hid (¬ fewT n L):=fun e=>by
        have:=e.2.2 x (List.mem_of_getElem? HXX.out);have:=HS.out;omega
       have q3:(13:Int)<(s:Int):=by omega
       have q4:¬ (s:Int)<398:=by omega
       have q5:(402:Int)<(s:Int):=by omega
       clear hA1 hA2 hA3
       go_wp2_with fail
       go_ret
       exact ⟨by rw [decide_eq_false HV.out];rfl,HE1.out.trans HX.out⟩
      ·have HP:Hid (∀ a∈L.take (j+1),a.size≤13∨(398≤a.size∧a.size≤402)):=fun a ha=>by
        rw [List.take_add_one,HXX.out] at ha
        rcases List.mem_append.1 ha with ha | ha
        ·exact HR.out a ha
        ·simp at ha;subst ha;have:=HS.out;omega
       have q3:(13:Int)<(s:Int):=by omega
       have q4:¬ (s:Int)<398:=by omega
       have q5:¬ (402:Int)<(s:Int):=by omega
       clear hA1 hA2 hA3
       go_wp2_with fail
       go_roundw
       case rel=>exact ⟨j+1,_,by omega,by go_num,rfl,HX.out,HP.out⟩
       case measure=>simp [intOf];omega
    ·have HP:Hid (∀ a∈L.take (j+1),a.size≤13∨(398≤a.size∧a.size≤402)):=fun a ha=>by
      rw [List.take_add_one,HXX.out] at ha
      rcases List.mem_append.1 ha with ha | ha
      ·exact HR.out a ha
      ·simp at ha;subst ha;have:=HS.out;omega
     have q3:¬ (13:Int)<(s:Int):=by omega
     clear hA1
     go_wp2_with fail
     go_roundw
     case rel=>exact ⟨j+1,_,by omega,by go_num,rfl,HX.out,HP.out⟩
     case measure=>simp [intOf];omega
   ·obtain rfl:j=m:=by omega
    have HV:Hid (fewT n L):=⟨HN.out,by rw [HL.out];omega,fun a ha=>HR.out a (by rw [List.take_of_length_le (by have:=HL.out;omega)];exact ha)⟩
    go_wp2_with fail
    go_ret
    exact ⟨by rw [decide_eq_true HV.out];rfl,HE1.out.trans HX.out⟩
set_option maxRecDepth 100000 in
set_option maxHeartbeats 4000000 in
theorem short10_any (n k:Int) (L:List ByteArray) (u:Value) (w:World) (h:TxtV w u n k L) :
  Calls Tryz.prog 21 #[u] w fun e w'=>e=.returned (.bool (decide (shortT L)))∧Ext w w':=by
 obtain ⟨r,rfl,hr⟩:=h
 obtain ⟨a,c,rfl,h1,h2,-,hc⟩:=inCell.open hr
 unfold maxLen at h2
 obtain ⟨w1,hw1,hE1,hsz1,hb1⟩:=boxM w (.int .i64 n) (.int .i64 k) (.slice a L.length c)
 have HC:=Lib.hid hc
 have HB:=Lib.hid hb1
 have HE1:=Lib.hid hE1
 obtain ⟨m,hm⟩:∃ m,L.length=m:=⟨_,rfl⟩
 have HL:Hid (L.length=m):=hm
 have k1:=block_cell hb1
 rw [hm] at h1 HB hw1 k1 ⊢
 clear hb1 hE1 hr hc hm
 go_enter Tryz.func21,Tryz.ntmps21
 go_wp2_with fail
 clear hw1 k1
 go_loopw [3] (fun t wr=>∃ (j:Nat),j≤m∧t=.int .i64 j∧Hid (Ext w1 wr)∧Hid (∀ a∈L.take j,a.size≤13)) (fun t _=>m+1-(intOf t).toNat)
 case atStart=>exact ⟨0,by omega,rfl,by first | exact Ext.refl _ | exact Ext.drew _,by simp [Hid]⟩
 case round =>
  obtain ⟨j,hj,rfl,HX,HR⟩:=hrel
  have k1:=block_cell (block_ext HB.out HX.out)
  by_cases hlt:j<m
  ·obtain ⟨x,hx⟩:∃ x,L[j]?=some x:=⟨_,List.getElem?_eq_getElem (by have:=HL.out;omega)⟩
   obtain ⟨b,off,rfl,hb,hcell⟩:=HC.out (by intro e;rw [e] at hx;simp at hx)
   obtain ⟨z9,e1,g1⟩:=hcell j x hx
   obtain rfl:z9=.string x:=e1
   have g1:=HX.out.cell (HE1.out.cell g1)
   have q1:(j:Int)<(m:Int):=by omega
   have HXX:=Lib.hid hx
   obtain ⟨s,hs⟩:∃ s,x.size=s:=⟨_,rfl⟩
   have HS:=Lib.hid hs
   clear hcell hx hb
   by_cases hA1:13<s
   ·have HV:Hid (¬ shortT L):=fun e=>by
     have:=e x (List.mem_of_getElem? HXX.out);have:=HS.out;omega
    have q3:(13:Int)<(s:Int):=by omega
    clear hA1
    go_wp2_with fail
    go_ret
    exact ⟨by rw [decide_eq_false HV.out];rfl,HE1.out.trans HX.out⟩
   ·have HP:Hid (∀ a∈L.take (j+1),a.size≤13):=fun a ha=>by
     rw [List.take_add_one,HXX.out] at ha
     rcases List.mem_append.1 ha with ha | ha
     ·exact HR.out a ha
     ·simp at ha;subst ha;have:=HS.out;omega
    have q3:¬ (13:Int)<(s:Int):=by omega
    clear hA1
    go_wp2_with fail
    go_roundw
    case rel=>exact ⟨j+1,by omega,by go_num,HX.out,HP.out⟩
    case measure=>simp [intOf];omega
  ·obtain rfl:j=m:=by omega
   have HV:Hid (shortT L):=fun a ha=>HR.out a (by rw [List.take_of_length_le (by have:=HL.out;omega)];exact ha)
   go_wp2_with fail
   go_ret
   exact ⟨by rw [decide_eq_true HV.out];rfl,HE1.out.trans HX.out⟩
theorem none_yes (W:World):Calls Tryz.prog 16 #[noMulti] W fun e w'=>e=.returned (.bool true)∧Ext W w':=by
 have h9:=noneM_any 0 0 [] noMulti W (noMulti_v W)
 rw [show equalM 0 0 [] 0 0 []=true by decide] at h9
 exact h9
end Go.Proofs.YtjlkkofmojgipaaGreatDoor
