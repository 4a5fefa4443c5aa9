import Derived.Test.YtjlkkofmojgipaaGreatDoorPBN
import Derived.Test.YtjlkkofmojgipaaGreatDoorPAU
import Derived.Test.YtjlkkofmojgipaaGreatDoorPAT
namespace Go.Proofs.YtjlkkofmojgipaaGreatDoor
set_option linter.unusedVariables false
set_option linter.unusedSimpArgs false
open Go.RowKit
theorem boxR (w:World) (x y z:Value):∃ W,(w.alloc (.cells #[x,y,z] 37))=W∧Ext w W∧W.heap.size=w.heap.size+1∧W.heap[w.heap.size]?=some (.cells #[x,y,z] 37 (0,0)) :=
 ⟨_,rfl,Ext.alloc _ _,by simp,block_new _ _ _⟩
theorem store3 {w:World} {B:Nat} {x y z:Value} {T:TypeId} (h:w.heap[B]?=some (.cells #[x,y,z] T (0,0))) (a b c:Value):(((w.setCell ⟨B,0,none⟩ a).setCell ⟨B,1,none⟩ b).setCell ⟨B,2,none⟩ c).heap[B]?=some (.cells #[a,b,c] T (0,0)):=by
 have:=block_set (block_set (block_set h 0 a) 1 b) 2 c
 simpa using this
set_option maxRecDepth 100000 in
set_option maxHeartbeats 1000000 in
theorem multi10_any (n k:Int) (a:Option Addr) (l c:Nat) (w:World) :
  Calls Tryz.prog 18 #[.agg #[.int .i64 n,.int .i64 k,.slice a l c]] w fun e w'=>e=.returned (.agg #[.int .i64 n,.int .i64 k,.slice a l c])∧Ext w w':=by
 obtain ⟨w1,hw1,hE1,hs1,hb1⟩:=boxR w (.int .i64 n) (.int .i64 k) (.slice a l c)
 obtain ⟨w2,hw2,hE2,hs2,hb2⟩:=boxM w1 (.int .i64 0) (.int .i64 0) (.slice none 0 0)
 have HE2:=Lib.hid (hE1.trans hE2)
 have HB1:=Lib.hid (block_ext hb1 hE2)
 have k1:=block_cell HB1.out
 have HS1:Hid (w1.heap.size=w.heap.size+1):=hs1
 have hb3:=multi_store hb2 (.int .i64 n) (.int .i64 k) (.slice a l c)
 rw [hs1] at hb3
 have HB3:=Lib.hid hb3
 have hb2':=hb2
 rw [hs1] at hb2'
 have k2:=block_cell hb2'
 have f2:=block_free hb2'
 clear hb1 hE1 hE2 hs2 hb2 hb2' hb3
 go_enter Tryz.func18,Tryz.ntmps18
 go_wp2_with fail
 refine bodyPost_ret (results_cell_row (by rfl) _ _ (w.heap.size+1) 31 #[.int .i64 n,.int .i64 k,.slice a l c] (0,0) _ (by rfl) HB3.out Tryz.underlying31 (by rfl) (by kernel_rfl)) (by rfl) ⟨rfl,multi_ext HE2.out (by omega) _ _ _⟩
set_option maxRecDepth 100000 in
set_option maxHeartbeats 1000000 in
theorem plain10_any (n k:Int) (a:Option Addr) (l c:Nat) (w:World) :
  Calls Tryz.prog 23 #[.agg #[.int .i64 n,.int .i64 k,.slice a l c]] w fun e w'=>e=.returned (.agg #[.int .i64 n,.int .i64 k,.slice a l c])∧Ext w w':=by
 obtain ⟨w1,hw1,hE1,hs1,hb1⟩:=boxM w (.int .i64 n) (.int .i64 k) (.slice a l c)
 obtain ⟨w2,hw2,hE2,hs2,hb2⟩:=boxR w1 (.int .i64 0) (.int .i64 0) (.slice none 0 0)
 have HE2:=Lib.hid (hE1.trans hE2)
 have HB1:=Lib.hid (block_ext hb1 hE2)
 have k1:=block_cell HB1.out
 have HS1:Hid (w1.heap.size=w.heap.size+1):=hs1
 have hb3:=store3 hb2 (.int .i64 n) (.int .i64 k) (.slice a l c)
 rw [hs1] at hb3
 have HB3:=Lib.hid hb3
 have hb2':=hb2
 rw [hs1] at hb2'
 have k2:=block_cell hb2'
 have f2:=block_free hb2'
 clear hb1 hE1 hE2 hs2 hb2 hb2' hb3
 go_enter Tryz.func23,Tryz.ntmps23
 go_wp2_with fail
 refine bodyPost_ret (results_cell_row (by rfl) _ _ (w.heap.size+1) 37 #[.int .i64 n,.int .i64 k,.slice a l c] (0,0) _ (by rfl) HB3.out Tryz.underlying37 (by rfl) (by kernel_rfl)) (by rfl) ⟨rfl,multi_ext HE2.out (by omega) _ _ _⟩
theorem setsI_castM {n k:Nat} (hn:n<7) (hk:k≤n):setsI (allW n k)=castS (setsL n k):=by
 rw [← sets_map hn hk]
 unfold setsI castS natsI
 rw [List.map_map];rfl
def canB (a:ByteArray):Bool:=!(minusB a && (magB a).toList == [48]) && canonD (magB a).data.toList
theorem rightB_can (a:ByteArray):rightB a=(canB a && decide ((magB a).size≤400)):=rfl
theorem canonD_bad {l:List UInt8} {c:UInt8} (hc:c∈l) (h:isDig c=false):canonD l=false:=by
 have:l.all isDig=false:=by
  rw [List.all_eq_false];exact ⟨c,hc,by simp [h]⟩
 unfold canonD;rw [this];rfl
set_option maxRecDepth 100000 in
set_option maxHeartbeats 1000000 in
theorem canT_minus (a m:ByteArray) (w:World) (hsz:m.size≤100000) (hp:0<a.size) (q:(((a[0]'hp).toNat:Int) == 45)=true) (t:a.extract 1 a.size=m) (hzf:(m.toList == [48])=false) (HV:Hid (canB a=canonD m.data.toList)) :
  Calls Tryz.prog 114 #[.string a] w fun e w'=>e=.returned (.bool (canB a))∧Ext w w':=by
 have hp':(0:Int)<(a.size:Int):=by omega
 have hp1:(1:Int)≤(a.size:Int):=by omega
 go_enter Tryz.func114,Tryz.ntmps114
 go_wp2_with fail
 clear t q hp' hp1 hzf
 go_loopw [4] (fun t wr=>∃ j:Nat,j≤m.size∧t=.int .i64 j∧Ext w wr∧Hid ((m.data.toList.take j).all isDig=true)) (fun t _=>m.size+1-(intOf t).toNat)
 case atStart=>exact ⟨0,by omega,rfl,by first | exact Ext.refl _ | exact Ext.drew _,rfl⟩
 case round =>
  obtain ⟨j,hj,rfl,hE,HA⟩:=hrel
  have HE:=Lib.hid hE
  by_cases hlt:j<m.size
  ·obtain ⟨c,hc⟩:∃ c,m[j]'hlt=c:=⟨_,rfl⟩
   have hb:=bytes_get m j hlt
   rw [hc] at hb
   have hc8:(c.toNat:Int)≤255:=by have:=c.toNat_lt;omega
   have HT1:Hid ((m.data.toList.take (j+1)).all isDig=(isDig c)):=by
    unfold Hid;rw [List.take_add_one,hb,List.all_append,HA.out];simp
   have HAll:Hid (isDig c=false→canonD m.data.toList=false):=fun h=>canonD_bad (List.mem_of_getElem? hb) h
   have hlt':(j:Int)<(m.size:Int):=by omega
   obtain ⟨z,hz⟩:∃ z:Nat,c.toNat=z:=⟨_,rfl⟩
   have HZ:Hid (isDig c=true↔48≤(z:Int)∧(z:Int)≤57):=by unfold Hid;rw [isDig_iffW,hz]
   have e1:((m[j]'hlt).toNat:Int)=(z:Int):=by rw [hc,hz]
   clear hb hE hz hc8 hc
   by_cases h1:(z:Int)<48
   ·have HF:Hid (canB a=false):=by unfold Hid;rw [HV.out];exact HAll.out (by rw [← Bool.not_eq_true,HZ.out];omega)
    go_wp2_with fail
    go_ret
    exact ⟨by rw [HF.out];rfl,HE.out⟩
   ·by_cases h2:57<(z:Int)
    ·have HF:Hid (canB a=false):=by unfold Hid;rw [HV.out];exact HAll.out (by rw [← Bool.not_eq_true,HZ.out];omega)
     have z1:=decide_eq_false h1;have z2:=decide_eq_true h2
     go_wp2_with fail
     go_ret
     exact ⟨by rw [HF.out];rfl,HE.out⟩
    ·have HD:Hid ((m.data.toList.take (j+1)).all isDig=true):=by
      unfold Hid;rw [HT1.out,HZ.out];omega
     have z1:=decide_eq_false h1;have z2:=decide_eq_false h2
     go_wp2_with fail
     go_roundw
     case rel=>exact ⟨j+1,by omega,by go_num,HE.out,HD⟩
     case measure=>simp [intOf];omega
  ·obtain rfl:j=m.size:=by omega
   have HL:Hid (m.data.toList.length=m.size):=(Lib.size_eq m).symm
   have HAll:Hid (m.data.toList.all isDig=true):=by
    unfold Hid
    have:=HA.out
    rwa [List.take_of_length_le (by rw [← Lib.size_eq];omega)] at this
   clear hE hlt
   by_cases h0:0<m.size
   ·have h0':(0:Int)<(m.size:Int):=by omega
    have hb:=bytes_get m 0 h0
    have HVV:Hid (canB a=(((m[0]'h0).toNat:Int) != 48 || ((m.size:Int) == 1))):=by
     unfold Hid
     rw [HV.out]
     unfold canonD
     have e1:m.data.toList.head?=some (m[0]'h0):=by rw [List.head?_eq_getElem?];exact hb
     rw [HAll.out,HL.out,e1,Bool.true_and,Bool.eq_iff_iff]
     simp only [Bool.or_eq_true,Bool.and_eq_true,bne_iff_ne,beq_iff_eq,ne_eq,Option.some.injEq,decide_eq_true_eq]
     rw [← UInt8.toNat_inj]
     show _∨(_∧¬ ((m[0]'h0).toNat=48))↔_
     omega
    clear hb
    by_cases h4:(((m[0]'h0).toNat:Int) != 48)=true
    ·have HF:Hid (canB a=true):=by unfold Hid;rw [HVV.out,h4];rfl
     go_wp2_with fail
     go_ret
     exact ⟨by rw [HF.out];rfl,HE.out⟩
    ·have h4':(((m[0]'h0).toNat:Int) != 48)=false:=by simpa using h4
     have HF:Hid (canB a=((m.size:Int) == 1)):=by unfold Hid;rw [HVV.out,h4'];rfl
     clear h4
     obtain ⟨sb,hsb⟩:∃ b,((m.size:Int) == 1)=b:=⟨_,rfl⟩
     rw [hsb] at HF
     go_wp2_with fail
     go_ret
     exact ⟨by rw [HF.out];rfl,HE.out⟩
   ·have h0':¬ (0:Int)<(m.size:Int):=by omega
    have HF:Hid (canB a=false):=by unfold Hid;rw [HV.out];unfold canonD;rw [HL.out,show m.size=0 by omega];simp
    go_wp2_with fail
    go_ret
    exact ⟨by rw [HF.out];rfl,HE.out⟩
set_option maxRecDepth 100000 in
set_option maxHeartbeats 1000000 in
theorem canT_plus (a m:ByteArray) (w:World) (hsz:m.size≤100000) (hp:0<m.size) (q:(((m[0]'hp).toNat:Int) == 45)=false) (HV:Hid (canB a=canonD m.data.toList)) :
  Calls Tryz.prog 114 #[.string m] w fun e w'=>e=.returned (.bool (canB a))∧Ext w w':=by
 have hp':(0:Int)<(m.size:Int):=by omega
 go_enter Tryz.func114,Tryz.ntmps114
 go_wp2_with fail
 clear q hp'
 go_loopw [4] (fun t wr=>∃ j:Nat,j≤m.size∧t=.int .i64 j∧Ext w wr∧Hid ((m.data.toList.take j).all isDig=true)) (fun t _=>m.size+1-(intOf t).toNat)
 case atStart=>exact ⟨0,by omega,rfl,by first | exact Ext.refl _ | exact Ext.drew _,rfl⟩
 case round =>
  obtain ⟨j,hj,rfl,hE,HA⟩:=hrel
  have HE:=Lib.hid hE
  by_cases hlt:j<m.size
  ·obtain ⟨c,hc⟩:∃ c,m[j]'hlt=c:=⟨_,rfl⟩
   have hb:=bytes_get m j hlt
   rw [hc] at hb
   have hc8:(c.toNat:Int)≤255:=by have:=c.toNat_lt;omega
   have HT1:Hid ((m.data.toList.take (j+1)).all isDig=(isDig c)):=by
    unfold Hid;rw [List.take_add_one,hb,List.all_append,HA.out];simp
   have HAll:Hid (isDig c=false→canonD m.data.toList=false):=fun h=>canonD_bad (List.mem_of_getElem? hb) h
   have hlt':(j:Int)<(m.size:Int):=by omega
   obtain ⟨z,hz⟩:∃ z:Nat,c.toNat=z:=⟨_,rfl⟩
   have HZ:Hid (isDig c=true↔48≤(z:Int)∧(z:Int)≤57):=by unfold Hid;rw [isDig_iffW,hz]
   have e1:((m[j]'hlt).toNat:Int)=(z:Int):=by rw [hc,hz]
   clear hb hE hz hc8 hc
   by_cases h1:(z:Int)<48
   ·have HF:Hid (canB a=false):=by unfold Hid;rw [HV.out];exact HAll.out (by rw [← Bool.not_eq_true,HZ.out];omega)
    go_wp2_with fail
    go_ret
    exact ⟨by rw [HF.out];rfl,HE.out⟩
   ·by_cases h2:57<(z:Int)
    ·have HF:Hid (canB a=false):=by unfold Hid;rw [HV.out];exact HAll.out (by rw [← Bool.not_eq_true,HZ.out];omega)
     have z1:=decide_eq_false h1;have z2:=decide_eq_true h2
     go_wp2_with fail
     go_ret
     exact ⟨by rw [HF.out];rfl,HE.out⟩
    ·have HD:Hid ((m.data.toList.take (j+1)).all isDig=true):=by
      unfold Hid;rw [HT1.out,HZ.out];omega
     have z1:=decide_eq_false h1;have z2:=decide_eq_false h2
     go_wp2_with fail
     go_roundw
     case rel=>exact ⟨j+1,by omega,by go_num,HE.out,HD⟩
     case measure=>simp [intOf];omega
  ·obtain rfl:j=m.size:=by omega
   have HL:Hid (m.data.toList.length=m.size):=(Lib.size_eq m).symm
   have HAll:Hid (m.data.toList.all isDig=true):=by
    unfold Hid
    have:=HA.out
    rwa [List.take_of_length_le (by rw [← Lib.size_eq];omega)] at this
   clear hE hlt
   by_cases h0:0<m.size
   ·have h0':(0:Int)<(m.size:Int):=by omega
    have hb:=bytes_get m 0 h0
    have HVV:Hid (canB a=(((m[0]'h0).toNat:Int) != 48 || ((m.size:Int) == 1))):=by
     unfold Hid
     rw [HV.out]
     unfold canonD
     have e1:m.data.toList.head?=some (m[0]'h0):=by rw [List.head?_eq_getElem?];exact hb
     rw [HAll.out,HL.out,e1,Bool.true_and,Bool.eq_iff_iff]
     simp only [Bool.or_eq_true,Bool.and_eq_true,bne_iff_ne,beq_iff_eq,ne_eq,Option.some.injEq,decide_eq_true_eq]
     rw [← UInt8.toNat_inj]
     show _∨(_∧¬ ((m[0]'h0).toNat=48))↔_
     omega
    clear hb
    by_cases h4:(((m[0]'h0).toNat:Int) != 48)=true
    ·have HF:Hid (canB a=true):=by unfold Hid;rw [HVV.out,h4];rfl
     go_wp2_with fail
     go_ret
     exact ⟨by rw [HF.out];rfl,HE.out⟩
    ·have h4':(((m[0]'h0).toNat:Int) != 48)=false:=by simpa using h4
     have HF:Hid (canB a=((m.size:Int) == 1)):=by unfold Hid;rw [HVV.out,h4'];rfl
     clear h4
     obtain ⟨sb,hsb⟩:∃ b,((m.size:Int) == 1)=b:=⟨_,rfl⟩
     rw [hsb] at HF
     go_wp2_with fail
     go_ret
     exact ⟨by rw [HF.out];rfl,HE.out⟩
   ·exact absurd hp h0
set_option maxRecDepth 100000 in
set_option maxHeartbeats 1000000 in
theorem canT_nil (a m:ByteArray) (w:World) (hsz:m.size≤100000) (hp:¬ 0<m.size) (HV:Hid (canB a=canonD m.data.toList)) :
  Calls Tryz.prog 114 #[.string m] w fun e w'=>e=.returned (.bool (canB a))∧Ext w w':=by
 have hp':¬ (0:Int)<(m.size:Int):=by omega
 have HF:Hid (canB a=false):=by unfold Hid;rw [HV.out];unfold canonD;rw [← Lib.size_eq,show m.size=0 by omega];simp
 go_enter Tryz.func114,Tryz.ntmps114
 go_wp2_with fail
 go_loopw [4] (fun t wr=>t=.int .i64 0∧Ext w wr) (fun t _=>1)
 case atStart=>exact ⟨rfl,Ext.refl _⟩
 case round =>
  obtain ⟨rfl,hE⟩:=hrel
  have HE:=Lib.hid hE
  go_wp2_with fail
  go_ret
  exact ⟨by rw [HF.out];rfl,HE.out⟩
set_option maxRecDepth 100000 in
set_option maxHeartbeats 1000000 in
theorem rCanonT_any (a:ByteArray) (w:World) (ha:a.size≤100000) :
  Calls Tryz.prog 114 #[.string a] w fun e w'=>e=.returned (.bool (canB a))∧Ext w w':=by
 by_cases hp:0<a.size
 ·have q:=minus_head hp
  by_cases h:minusB a=true
  ·have hm:magB a=a.extract 1 a.size:=if_pos h
   by_cases hz:((magB a).toList == [48])=true
   ·have HV:Hid (canB a=false):=by unfold Hid canB;rw [h,hz];rfl
    have hp':(0:Int)<(a.size:Int):=by omega
    have hp1:(1:Int)≤(a.size:Int):=by omega
    rw [h] at q
    rw [hm] at hz
    obtain ⟨m,t⟩:∃ m,a.extract 1 a.size=m:=⟨_,rfl⟩
    rw [t] at hz
    clear h hm
    go_enter Tryz.func114,Tryz.ntmps114
    go_wp2_with fail
    go_ret
    exact ⟨by first | (rw [HV.out];done) | (rw [HV.out];rfl),Ext.refl _⟩
   ·rw [h] at q
    exact canT_minus a (magB a) w (Nat.le_trans (magB_size a) ha) hp q hm.symm (by simpa using hz) (by unfold Hid canB;rw [h,show ((magB a).toList == [48])=false by simpa using hz];rfl)
  ·have hf:minusB a=false:=by simpa using h
   have hm:magB a=a:=if_neg h
   rw [hf] at q
   exact canT_plus a a w ha hp q (by unfold Hid canB;rw [hf,hm];rfl)
 ·have hf:=minus_nil hp
  have hm:magB a=a:=if_neg (by rw [hf];decide)
  exact canT_nil a a w ha hp (by unfold Hid canB;rw [hf,hm];rfl)
set_option maxRecDepth 100000 in
set_option maxHeartbeats 1000000 in
theorem rRightT_any (a:ByteArray) (w:World) (ha:a.size≤100000) :
  Calls Tryz.prog 56 #[.string a] w fun e w'=>e=.returned (.bool (rightB a))∧Ext w w':=by
 have HC:=Lib.hid (rCanonT_any a w ha)
 have HD:Hid (∀ W,Calls Tryz.prog 115 #[.string a] W fun e w'=>e=.returned (.string (magB a))∧W=w'):=fun W=>rDigitsT_any a W ha
 have HV:=Lib.hid (rightB_can a)
 obtain ⟨m,hm⟩:∃ m,magB a=m:=⟨_,rfl⟩
 rw [hm] at HD HV
 by_cases h:canB a=true
 ·rw [h] at HC HV
  have hdc:decide (m.size≤400)=decide ((m.size:Int)≤400):=by rw [Bool.eq_iff_iff,decide_eq_true_eq,decide_eq_true_eq];omega
  rw [hdc,Bool.true_and] at HV
  clear hdc hm h
  go_enter Tryz.func56,Tryz.ntmps56
  go_wp2_with fail
  refine HC.out.mono ?_
  rintro e w2 ⟨rfl,hE2⟩
  have HE2:=Lib.hid hE2
  clear hE2 HC
  go_wp2_with fail
  refine (HD.out w2).mono ?_
  rintro e w3 ⟨rfl,rfl⟩
  clear HD
  go_wp2_with fail
  go_ret
  exact ⟨by rw [HV.out];rfl,HE2.out⟩
 ·have hf:canB a=false:=by simpa using h
  rw [hf] at HC HV
  clear hf h hm
  go_enter Tryz.func56,Tryz.ntmps56
  go_wp2_with fail
  refine HC.out.mono ?_
  rintro e w2 ⟨rfl,hE2⟩
  have HE2:=Lib.hid hE2
  clear hE2 HC
  go_wp2_with fail
  go_ret
  exact ⟨by rw [HV.out];rfl,HE2.out⟩
set_option maxRecDepth 100000 in
set_option maxHeartbeats 4000000 in
theorem refChk10_any (n k:Int) (L:List ByteArray) (u:Value) (w:World) (h:TxtV w u n k L) (hs:∀ a∈L,a.size≤100000) :
  Calls Tryz.prog 22 #[u] w fun e w'=>e=.returned (.int .i64 (chkX n k L))∧Ext w w':=by
 obtain ⟨r,rfl,hr⟩:=h
 obtain ⟨a,c,rfl,h1,h2,-,hc⟩:=inCell.open hr
 unfold maxLen at h2
 obtain ⟨w1,hw1,hE1,hsz1,hb1⟩:=boxR w (.int .i64 n) (.int .i64 k) (.slice a L.length c)
 have HW:Hid (∀ x∈L,∀ W,Calls Tryz.prog 56 #[.string x] W fun e w'=>e=.returned (.bool (rightB x))∧Ext W w'):=fun x hx W=>rRightT_any x W (hs x hx)
 have HC:=Lib.hid hc
 have HB:=Lib.hid hb1
 have HE1:=Lib.hid hE1
 have k1:=block_cell hb1
 clear hb1 hE1 hr hc hs hsz1
 by_cases hn0:n<0
 ·have HV:Hid (chkX n k L=3):=if_pos (by rw [show gradeS n k=3 from if_pos (.inl hn0)];decide)
  go_enter Tryz.func22,Tryz.ntmps22
  go_wp2_with fail
  go_ret
  exact ⟨by rw [HV.out];rfl,HE1.out⟩
 by_cases hn1:n > 12
 ·have HV:Hid (chkX n k L=3):=if_pos (by rw [show gradeS n k=3 from if_pos (.inr (.inl hn1))];decide)
  go_enter Tryz.func22,Tryz.ntmps22
  go_wp2_with fail
  go_ret
  exact ⟨by rw [HV.out];rfl,HE1.out⟩
 by_cases hk0:k<0
 ·have HV:Hid (chkX n k L=3):=if_pos (by rw [show gradeS n k=3 from if_pos (.inr (.inr (.inl hk0)))];decide)
  go_enter Tryz.func22,Tryz.ntmps22
  go_wp2_with fail
  go_ret
  exact ⟨by rw [HV.out];rfl,HE1.out⟩
 by_cases hk1:k > n
 ·have HV:Hid (chkX n k L=3):=if_pos (by rw [show gradeS n k=3 from if_pos (.inr (.inr (.inr hk1)))];decide)
  go_enter Tryz.func22,Tryz.ntmps22
  go_wp2_with fail
  go_ret
  exact ⟨by rw [HV.out];rfl,HE1.out⟩
 have hg:gradeS n k=0:=if_neg (by omega)
 obtain ⟨N,K,rfl,rfl,hN,hK⟩:=gradeS_zero hg
 have HV:Hid (chkX N K L=if L.length≠(allW N K).length then 5 else if L.all rightB=true then 0 else 2):=by
  unfold Hid chkX;rw [if_neg (by rw [hg];decide),Int.toNat_natCast,Int.toNat_natCast]
 obtain ⟨m,hm⟩:∃ m,(allW N K).length=m:=⟨_,rfl⟩
 rw [hm] at HV
 have HA:Hid (∀ W,Calls Tryz.prog 33 #[.int .i64 (N:Int),.int .i64 (K:Int)] W fun e w'=>∃ a6 c6,e=.returned (.slice a6 m c6)∧Ext W w'):=fun W=>(refSets_any N K hN hK W).mono fun e w' ⟨v,h1,h2,h3⟩=>by
  obtain ⟨a6,c6,rfl,-⟩:=ListAt.open h2
  have hl:(castS (setsL N K)).length=m:=by unfold castS;rw [List.length_map,← agree_len N (by omega) K (by omega)];exact hm
  rw [hl] at h1
  exact ⟨a6,c6,h1,h3⟩
 have hm9:m≤924:=by rw [← hm];exact allW_len hN hK
 obtain ⟨l,hl⟩:∃ l,L.length=l:=⟨_,rfl⟩
 have HL:Hid (L.length=l):=hl
 rw [hl] at k1 h1 HB hw1 HV ⊢
 have hcmp:((l:Int) != (m:Int))=decide (l≠m):=by rw [Bool.eq_iff_iff,bne_iff_ne,decide_eq_true_eq];omega
 have hk1':¬ (N:Int)<(K:Int):=by omega
 clear hg hl hm
 go_enter Tryz.func22,Tryz.ntmps22
 go_wp2_with fail
 have d0:=k1 0;have d1:=k1 1;have d2:=k1 2
 simp only [List.getElem?_toArray,List.getElem?_cons_succ,List.getElem?_cons_zero] at d0 d1 d2
 have z1:w1.drew.cell? ⟨w.heap.size,0,none⟩=some (.int .i64 N):=d0
 have z2:w1.drew.cell? ⟨w.heap.size,1,none⟩=some (.int .i64 K):=d1
 have z3:w1.drew.cell? ⟨w.heap.size,2,none⟩=some (.slice a l c):=d2
 have z4:Hid (Ext w w1.drew):=HE1.out.trans (Ext.drew _)
 clear d0 d1 d2 k1
 by_cases hlm:l=m
 rotate_left
 ·have HV5:Hid (chkX N K L=5):=by unfold Hid;rw [HV.out,if_pos hlm]
  have hq:((l:Int) != (m:Int))=true:=by rw [hcmp];exact decide_eq_true hlm
  clear hcmp HV hn0 hn1 hk0 hk1 hk1' hw1
  go_region_held3 (fun w'=>w'.cell? ⟨w.heap.size,0,none⟩=some (.int .i64 N)∧w'.cell? ⟨w.heap.size,1,none⟩=some (.int .i64 K)∧w'.cell? ⟨w.heap.size,2,none⟩=some (.slice a l c)∧Hid (Ext w w'))
   (first | exact ⟨z1,z2,z3,z4⟩ | go_keep)
   (first
    | (go_at_call 33;with_reducible refine (HA.out _).mono ?_;rintro e w6 ⟨a6,c6,rfl,hE6⟩;have q1:=hE6.cell (a:=⟨w.heap.size,0,none⟩) (v:=.int .i64 N) (by assumption);have q2:=hE6.cell (a:=⟨w.heap.size,1,none⟩) (v:=.int .i64 K) (by assumption);have q3:=hE6.cell (a:=⟨w.heap.size,2,none⟩) (v:=.slice a l c) (by assumption);have q4:=Lib.hid (Ext.trans (Hid.out (p:=Ext w _) (by assumption)) hE6);(try clear z1 z2 z3 z4);have z1:=q1;have z2:=q2;have z3:=q3;have z4:=q4;clear hE6 q1 q2 q3 q4))
  all_goals
   go_wp2_with fail
   go_ret
   exact ⟨by rw [HV5.out];rfl,z4.out⟩
 have HVR:Hid (chkX N K L=if L.all rightB=true then 0 else 2):=by unfold Hid;rw [HV.out,if_neg (fun e=>e hlm)]
 have hq:((l:Int) != (m:Int))=false:=by rw [hcmp];exact decide_eq_false (fun e=>e hlm)
 clear hcmp HV hn0 hn1 hk0 hk1 hk1' hw1
 obtain rfl:=hlm.symm
 clear hlm
 go_region_held3 (fun w'=>w'.cell? ⟨w.heap.size,0,none⟩=some (.int .i64 N)∧w'.cell? ⟨w.heap.size,1,none⟩=some (.int .i64 K)∧w'.cell? ⟨w.heap.size,2,none⟩=some (.slice a m c)∧Hid (Ext w w'))
  (first | exact ⟨z1,z2,z3,z4⟩ | go_keep)
  (first
   | (go_at_call 33;with_reducible refine (HA.out _).mono ?_;rintro e w6 ⟨a6,c6,rfl,hE6⟩;have q1:=hE6.cell (a:=⟨w.heap.size,0,none⟩) (v:=.int .i64 N) (by assumption);have q2:=hE6.cell (a:=⟨w.heap.size,1,none⟩) (v:=.int .i64 K) (by assumption);have q3:=hE6.cell (a:=⟨w.heap.size,2,none⟩) (v:=.slice a m c) (by assumption);have q4:=Lib.hid (Ext.trans (Hid.out (p:=Ext w _) (by assumption)) hE6);(try clear z1 z2 z3 z4);have z1:=q1;have z2:=q2;have z3:=q3;have z4:=q4;clear hE6 q1 q2 q3 q4))
 all_goals
  go_wp2_with fail
  have Z3:=Lib.hid z3
  clear z1 z2 z3
  go_loopw [3] (fun t wr=>∃ j:Nat,j≤m∧t=.int .i64 j∧Hid (Ext w wr)∧Hid (wr.cell? ⟨w.heap.size,2,none⟩=some (.slice a m c))∧Hid ((L.take j).all rightB=true)) (fun t _=>m+1-(intOf t).toNat)
  case atStart=>exact ⟨0,by omega,rfl,z4.out,Z3.out,by first | rfl | trivial⟩
  case round =>
   obtain ⟨j,hj,rfl,HX,HD,HR⟩:=hrel
   have z3:=HD.out
   by_cases hlt:j<m
   ·obtain ⟨x,hx⟩:∃ x,L[j]?=some x:=⟨_,List.getElem?_eq_getElem (by have:=HL.out;omega)⟩
    obtain ⟨b,off,rfl,hb,hcell⟩:=HC.out (by intro e;rw [e] at hx;simp at hx)
    obtain ⟨z9,e1,g1⟩:=hcell j x hx
    obtain rfl:z9=.string x:=e1
    have g1:=HX.out.cell g1
    have q1:(j:Int)<(m:Int):=by omega
    have HK:=Lib.hid (HW.out x (List.mem_of_getElem? hx))
    have HXX:=Lib.hid hx
    clear hcell hx hb
    by_cases hri:rightB x=true
    ·rw [hri] at HK
     have HRI:=Lib.hid hri
     clear hri
     go_wp2_with fail
     refine (HK.out _).mono ?_
     rintro e w7 ⟨rfl,h7⟩
     have HX7:Hid (Ext w w7):=HX.out.trans h7
     have HD7:=Lib.hid (h7.cell HD.out)
     clear h7 HK z3
     go_wp2_with fail
     go_roundw
     case rel=>exact ⟨j+1,by omega,by go_num,HX7.out,HD7.out,by unfold Hid;rw [List.take_add_one,HXX.out,List.all_append,HR.out];simp [HRI.out]⟩
     case measure=>simp [intOf];omega
    ·have hf:rightB x=false:=by simpa using hri
     rw [hf] at HK
     have HV2:Hid (chkX N K L=2):=by
      unfold Hid
      rw [HVR.out,if_neg]
      intro e
      exact hri (List.all_eq_true.1 e x (List.mem_of_getElem? HXX.out))
     clear hf hri
     go_wp2_with fail
     refine (HK.out _).mono ?_
     rintro e w7 ⟨rfl,h7⟩
     have HX7:Hid (Ext w w7):=HX.out.trans h7
     clear h7 HK z3
     go_wp2_with fail
     go_ret
     exact ⟨by rw [HV2.out];rfl,HX7.out⟩
   ·obtain rfl:j=m:=by omega
    have HV0:Hid (chkX N K L=0):=by
     unfold Hid
     have:=HR.out
     rw [List.take_of_length_le (by have:=HL.out;omega)] at this
     rw [HVR.out,if_pos this]
    go_wp2_with fail
    go_ret
    exact ⟨by rw [HV0.out];rfl,HX.out⟩
end Go.Proofs.YtjlkkofmojgipaaGreatDoor
