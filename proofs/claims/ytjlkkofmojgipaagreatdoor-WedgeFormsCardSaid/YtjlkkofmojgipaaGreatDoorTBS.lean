import Derived.Test.YtjlkkofmojgipaaGreatDoorTBR
import Derived.Test.YtjlkkofmojgipaaGreatDoorTBN
namespace Go.Proofs.YtjlkkofmojgipaaGreatDoor
set_option linter.unusedVariables false
set_option linter.unusedSimpArgs false
open Go.RowKit
def fewT (n:Int) (L:List ByteArray):Prop:=¬ (4<n∧n≤12)∧L.length≤8∧∀ a∈L,a.size≤13∨(398≤a.size∧a.size≤402)
def shortT (L:List ByteArray):Prop:=∀ a∈L,a.size≤13
instance (n:Int) (L:List ByteArray):Decidable (fewT n L):=by unfold fewT;exact inferInstance
instance (L:List ByteArray):Decidable (shortT L):=by unfold shortT;exact inferInstance
set_option maxRecDepth 100000 in
set_option maxHeartbeats 4000000 in
theorem few10_any (n k:Int) (L:List ByteArray) (u:Value) (w:World) (h:TxtV w u n k L) :
  Calls Tryz.prog 20 #[u] w fun e w'=>e=.returned (.bool (decide (fewT n L)))∧Ext w w':=by
 obtain ⟨r,rfl,hr⟩:=h
 obtain ⟨a,c,rfl,h1,h2,-,hc⟩:=inCell.open hr
 unfold maxLen at h2
 obtain ⟨w1,hw1,hE1,hsz1,hb1⟩:=boxM w (.int .i64 n) (.int .i64 k) (.slice a L.length c)
 have HC:=Lib.hid hc
 have HB:=Lib.hid hb1
 have HE1:=Lib.hid hE1
 obtain ⟨m,hm⟩:∃ m,L.length=m:=⟨_,rfl⟩
 have HL:Hid (L.length=m):=hm
 have k1:=block_cell hb1
 rw [hm] at h1 HB hw1 k1 ⊢
 by_cases hAB:4<n∧n≤12
 ·have HV:Hid (¬ fewT n L):=fun e=>e.1 hAB
  obtain ⟨hA,hB⟩:=hAB
  clear hb1 hE1 hr hc hm
  go_enter Tryz.func20,Tryz.ntmps20
  go_wp2_with fail
  go_ret
  exact ⟨by rw [decide_eq_false HV.out];rfl,HE1.out⟩
 have HN:=Lib.hid hAB
 by_cases hA:4<n
 case' pos=>have hB:¬ n≤12:=fun e=>hAB ⟨hA,e⟩
 all_goals
  by_cases h8:8<m
  ·have HV:Hid (¬ fewT n L):=fun e=>by have:=e.2.1;rw [HL.out] at this;omega
   have h8':(8:Int)<(m:Int):=by omega
   clear hb1 hE1 hr hc hm h8 hAB
   go_enter Tryz.func20,Tryz.ntmps20
   go_wp2_with fail
   go_ret
   exact ⟨by rw [decide_eq_false HV.out];rfl,HE1.out⟩
  have h8':¬ (8:Int)<(m:Int):=by omega
  clear hb1 hE1 hr hc hm hAB
  go_enter Tryz.func20,Tryz.ntmps20
  go_wp2_with fail
  clear hw1 k1
  go_loopw [3,4] (fun t o wr=>∃ (j:Nat) (v0:Value),j≤m∧t=.int .i64 j∧o=v0∧Hid (Ext w1 wr)∧Hid (∀ a∈L.take j,a.size≤13∨(398≤a.size∧a.size≤402))) (fun t _ _=>m+1-(intOf t).toNat)
  case atStart=>exact ⟨0,_,by omega,rfl,rfl,by first | exact Ext.refl _ | exact Ext.drew _,by simp [Hid]⟩
  case round =>
   obtain ⟨j,v9,hj,rfl,hv9,HX,HR⟩:=hrel
   obtain rfl:=hv9.symm
   have k1:=block_cell (block_ext HB.out HX.out)
   by_cases hlt:j<m
   ·obtain ⟨x,hx⟩:∃ x,L[j]?=some x:=⟨_,List.getElem?_eq_getElem (by have:=HL.out;omega)⟩
    obtain ⟨b,off,rfl,hb,hcell⟩:=HC.out (by intro e;rw [e] at hx;simp at hx)
    obtain ⟨z9,e1,g1⟩:=hcell j x hx
    obtain rfl:z9=.string x:=e1
    have g1:=HX.out.cell (HE1.out.cell g1)
    have q1:(j:Int)<(m:Int):=by omega
    have HXX:=Lib.hid hx
    obtain ⟨s,hs⟩:∃ s,x.size=s:=⟨_,rfl⟩
    have HS:=Lib.hid hs
    clear hcell hx hb
    by_cases hA1:13<s
    ·by_cases hA2:s<398
     ·have HV:Hid (¬ fewT n L):=fun e=>by
       have:=e.2.2 x (List.mem_of_getElem? HXX.out);have:=HS.out;omega
      have q3:(13:Int)<(s:Int):=by omega
      have q4:(s:Int)<398:=by omega
      clear hA1 hA2
      go_wp2_with fail
      go_ret
      exact ⟨by rw [decide_eq_false HV.out];rfl,HE1.out.trans HX.out⟩
     ·by_cases hA3:402<s
      ·have HV:Hid (¬ fewT n L):=fun e=>by
        have:=e.2.2 x (List.mem_of_getElem? HXX.out);have:=HS.out;omega
       have q3:(13:Int)<(s:Int):=by omega
       have q4:¬ (s:Int)<398:=by omega
       have q5:(402:Int)<(s:Int):=by omega
       clear hA1 hA2 hA3
       go_wp2_with fail
       go_ret
       exact ⟨by rw [decide_eq_false HV.out];rfl,HE1.out.trans HX.out⟩
      ·have HP:Hid (∀ a∈L.take (j+1),a.size≤13∨(398≤a.size∧a.size≤402)):=fun a ha=>by
        rw [List.take_add_one,HXX.out] at ha
        rcases List.mem_append.1 ha with ha | ha
        ·exact HR.out a ha
        ·simp at ha;subst ha;have:=HS.out;omega
       have q3:(13:Int)<(s:Int):=by omega
       have q4:¬ (s:Int)<398:=by omega
       have q5:¬ (402:Int)<(s:Int):=by omega
       clear hA1 hA2 hA3
       go_wp2_with fail
       go_roundw
       case rel=>exact ⟨j+1,_,by omega,by go_num,rfl,HX.out,HP.out⟩
       case measure=>simp [intOf];omega
    ·have HP:Hid (∀ a∈L.take (j+1),a.size≤13∨(398≤a.size∧a.size≤402)):=fun a ha=>by
      rw [List.take_add_one,HXX.out] at ha
      rcases List.mem_append.1 ha with ha | ha
      ·exact HR.out a ha
      ·simp at ha;subst ha;have:=HS.out;omega
     have q3:¬ (13:Int)<(s:Int):=by omega
     clear hA1
     go_wp2_with fail
     go_roundw
     case rel=>exact ⟨j+1,_,by omega,by go_num,rfl,HX.out,HP.out⟩
     case measure=>simp [intOf];omega
   ·obtain rfl:j=m:=by omega
    have HV:Hid (fewT n L):=⟨HN.out,by rw [HL.out];omega,fun a ha=>HR.out a (by rw [List.take_of_length_le (by have:=HL.out;omega)];exact ha)⟩
    go_wp2_with fail
    go_ret
    exact ⟨by rw [decide_eq_true HV.out];rfl,HE1.out.trans HX.out⟩
set_option maxRecDepth 100000 in
set_option maxHeartbeats 4000000 in
theorem short10_any (n k:Int) (L:List ByteArray) (u:Value) (w:World) (h:TxtV w u n k L) :
  Calls Tryz.prog 21 #[u] w fun e w'=>e=.returned (.bool (decide (shortT L)))∧Ext w w':=by
 obtain ⟨r,rfl,hr⟩:=h
 obtain ⟨a,c,rfl,h1,h2,-,hc⟩:=inCell.open hr
 unfold maxLen at h2
 obtain ⟨w1,hw1,hE1,hsz1,hb1⟩:=boxM w (.int .i64 n) (.int .i64 k) (.slice a L.length c)
 have HC:=Lib.hid hc
 have HB:=Lib.hid hb1
 have HE1:=Lib.hid hE1
 obtain ⟨m,hm⟩:∃ m,L.length=m:=⟨_,rfl⟩
 have HL:Hid (L.length=m):=hm
 have k1:=block_cell hb1
 rw [hm] at h1 HB hw1 k1 ⊢
 clear hb1 hE1 hr hc hm
 go_enter Tryz.func21,Tryz.ntmps21
 go_wp2_with fail
 clear hw1 k1
 go_loopw [3] (fun t wr=>∃ (j:Nat),j≤m∧t=.int .i64 j∧Hid (Ext w1 wr)∧Hid (∀ a∈L.take j,a.size≤13)) (fun t _=>m+1-(intOf t).toNat)
 case atStart=>exact ⟨0,by omega,rfl,by first | exact Ext.refl _ | exact Ext.drew _,by simp [Hid]⟩
 case round =>
  obtain ⟨j,hj,rfl,HX,HR⟩:=hrel
  have k1:=block_cell (block_ext HB.out HX.out)
  by_cases hlt:j<m
  ·obtain ⟨x,hx⟩:∃ x,L[j]?=some x:=⟨_,List.getElem?_eq_getElem (by have:=HL.out;omega)⟩
   obtain ⟨b,off,rfl,hb,hcell⟩:=HC.out (by intro e;rw [e] at hx;simp at hx)
   obtain ⟨z9,e1,g1⟩:=hcell j x hx
   obtain rfl:z9=.string x:=e1
   have g1:=HX.out.cell (HE1.out.cell g1)
   have q1:(j:Int)<(m:Int):=by omega
   have HXX:=Lib.hid hx
   obtain ⟨s,hs⟩:∃ s,x.size=s:=⟨_,rfl⟩
   have HS:=Lib.hid hs
   clear hcell hx hb
   by_cases hA1:13<s
   ·have HV:Hid (¬ shortT L):=fun e=>by
     have:=e x (List.mem_of_getElem? HXX.out);have:=HS.out;omega
    have q3:(13:Int)<(s:Int):=by omega
    clear hA1
    go_wp2_with fail
    go_ret
    exact ⟨by rw [decide_eq_false HV.out];rfl,HE1.out.trans HX.out⟩
   ·have HP:Hid (∀ a∈L.take (j+1),a.size≤13):=fun a ha=>by
     rw [List.take_add_one,HXX.out] at ha
     rcases List.mem_append.1 ha with ha | ha
     ·exact HR.out a ha
     ·simp at ha;subst ha;have:=HS.out;omega
    have q3:¬ (13:Int)<(s:Int):=by omega
    clear hA1
    go_wp2_with fail
    go_roundw
    case rel=>exact ⟨j+1,by omega,by go_num,HX.out,HP.out⟩
    case measure=>simp [intOf];omega
  ·obtain rfl:j=m:=by omega
   have HV:Hid (shortT L):=fun a ha=>HR.out a (by rw [List.take_of_length_le (by have:=HL.out;omega)];exact ha)
   go_wp2_with fail
   go_ret
   exact ⟨by rw [decide_eq_true HV.out];rfl,HE1.out.trans HX.out⟩
end Go.Proofs.YtjlkkofmojgipaaGreatDoor
