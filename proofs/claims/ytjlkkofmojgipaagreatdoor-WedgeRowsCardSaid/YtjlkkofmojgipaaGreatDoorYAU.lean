import Derived.Test.YtjlkkofmojgipaaGreatDoorYAT
import Derived.Test.YtjlkkofmojgipaaGreatDoorYAD
import Derived.Deep.RegionHeld3
import Derived.Test.YtjlkkofmojgipaaGreatDoorYAG
import Derived.Test.YtjlkkofmojgipaaGreatDoorYAE
import Derived.Lib.SliceRun
import Derived.WalkSpells
namespace Go.Proofs.YtjlkkofmojgipaaGreatDoor
set_option linter.unusedVariables false
set_option linter.unusedSimpArgs false
open Go.RowKit
def decE (l:List UInt8):Int:=if canonD l=true∧l.length≤400 then 0 else 2
set_option maxRecDepth 100000 in
set_option maxHeartbeats 1000000 in
theorem decCheck_any (m:ByteArray) (w:World) (hm:m.size≤100000) :
  Calls Tryz.prog 148 #[.string m] w fun e w'=>e=.returned (.int .i64 (decE m.data.toList))∧Ext w w':=by
 have HC:=Lib.hid (canonical_any m w hm)
 have HL:Hid (m.data.toList.length=m.size):=(Lib.size_eq m).symm
 by_cases h:canonD m.data.toList=true
 ·rw [h] at HC
  by_cases h4:400<m.size
  ·have HV:Hid (decE m.data.toList=2):=if_neg (by rw [HL.out];omega)
   have q1:400<(m.size:Int):=by omega
   go_enter Tryz.func148,Tryz.ntmps148
   go_wp2_with fail
   refine HC.out.mono ?_
   rintro e w2 ⟨rfl,hE2⟩
   have HE2:=Lib.hid hE2
   clear hE2 HC
   go_wp2_with fail
   go_ret
   exact ⟨by rw [HV.out];rfl,HE2.out⟩
  ·have HV:Hid (decE m.data.toList=0):=if_pos ⟨h,by rw [HL.out];omega⟩
   have q1:¬ 400<(m.size:Int):=by omega
   go_enter Tryz.func148,Tryz.ntmps148
   go_wp2_with fail
   refine HC.out.mono ?_
   rintro e w2 ⟨rfl,hE2⟩
   have HE2:=Lib.hid hE2
   clear hE2 HC
   go_wp2_with fail
   go_ret
   exact ⟨by rw [HV.out];rfl,HE2.out⟩
 ·have hf:canonD m.data.toList=false:=by simpa using h
  rw [hf] at HC
  have HV:Hid (decE m.data.toList=2):=if_neg (fun e=>h e.1)
  go_enter Tryz.func148,Tryz.ntmps148
  go_wp2_with fail
  refine HC.out.mono ?_
  rintro e w2 ⟨rfl,hE2⟩
  have HE2:=Lib.hid hE2
  clear hE2 HC
  go_wp2_with fail
  go_ret
  exact ⟨by rw [HV.out];rfl,HE2.out⟩
theorem canonD_num (n:Nat):canonD (numB n).data.toList=true:=by
 obtain ⟨h1,-,h3,h4⟩:=decDigits_dig (n+1) n (by omega)
 have e:(numB n).data.toList=Lib.decDigits n:=by rw [← Lib.toList_data,numB_list]
 unfold canonD
 rw [e,h1,Bool.true_and]
 by_cases h0:n=0
 ·subst h0
  have:Lib.decDigits 0=[48]:=by rw [Lib.decDigits_one (by omega)];rfl
  rw [this];rfl
 ·have h5:(Lib.decDigits n).head?≠some 48:=fun h=>h0 (h4 h)
  have h6:=List.length_pos_iff.2 h3
  rw [decide_eq_true h5,Bool.and_true]
  by_cases h7:(Lib.decDigits n).length=1
  ·rw [decide_eq_true h7];rfl
  ·rw [decide_eq_true (show 1<(Lib.decDigits n).length by omega),Bool.or_true]
set_option maxRecDepth 100000 in
set_option maxHeartbeats 1000000 in
theorem wholeCheck_any (x:Int) (w:World) (hx:(numB x.natAbs).size≤400) :
  Calls Tryz.prog 96 #[.string (intB x)] w fun e w'=>e=.returned (.int .i64 0)∧Ext w w':=by
 have HS:=Lib.hid (split_any x w)
 have HC:Hid (∀ W,Calls Tryz.prog 148 #[.string (numB x.natAbs)] W fun e w'=>e=.returned (.int .i64 0)∧Ext W w'):=fun W=>by
  have h:=decCheck_any (numB x.natAbs) W (by omega)
  have hv:decE (numB x.natAbs).data.toList=0:=if_pos ⟨canonD_num _,by rw [← Lib.size_eq];exact hx⟩
  rw [hv] at h;exact h
 by_cases hn:x<0
 ·have hz:((numB x.natAbs).toList == [48])=false:=by
   rw [numB_list,show ([48]:List UInt8)=Lib.decDigits 0 by rw [Lib.decDigits_one (by omega)];rfl,digits_eq]
   exact decide_eq_false (by omega)
  rw [decide_eq_true hn] at HS
  obtain ⟨d,hd⟩:∃ d,numB x.natAbs=d:=⟨_,rfl⟩
  rw [hd] at HS HC hz
  go_enter Tryz.func96,Tryz.ntmps96
  go_wp2_with fail
  refine HS.out.mono ?_
  rintro e w2 ⟨rfl,hE2⟩
  have HE2:=Lib.hid hE2
  clear hE2 HS
  go_wp2_with fail
  refine (HC.out w2).mono ?_
  rintro e w3 ⟨rfl,hE3⟩
  have HE3:Hid (Ext w w3):=HE2.out.trans hE3
  clear hE3 HC
  go_wp2_with fail
  go_ret
  exact ⟨rfl,HE3.out⟩
 ·rw [decide_eq_false hn] at HS
  obtain ⟨d,hd⟩:∃ d,numB x.natAbs=d:=⟨_,rfl⟩
  rw [hd] at HS HC
  go_enter Tryz.func96,Tryz.ntmps96
  go_wp2_with fail
  refine HS.out.mono ?_
  rintro e w2 ⟨rfl,hE2⟩
  have HE2:=Lib.hid hE2
  clear hE2 HS
  go_wp2_with fail
  refine (HC.out w2).mono ?_
  rintro e w3 ⟨rfl,hE3⟩
  have HE3:Hid (Ext w w3):=HE2.out.trans hE3
  clear hE3 HC
  go_wp2_with fail
  go_ret
  exact ⟨rfl,HE3.out⟩
set_option maxRecDepth 100000 in
set_option maxHeartbeats 4000000 in
theorem checkM_any (n k:Nat) (X:List Int) (u:Value) (w:World) (h:MultiV w u n k X) (hn:n≤12) (hk:k≤n) (hl:X.length=(allW n k).length) (hd:∀ x∈X,(numB x.natAbs).size≤400) :
  Calls Tryz.prog 47 #[u] w fun e w'=>e=.returned (.int .i64 0)∧Ext w w':=by
 obtain ⟨r,rfl,hr⟩:=h
 obtain ⟨a,c,rfl,h1,h2,-,hc⟩:=inCell.open (BigL.of_nums hr)
 unfold maxLen at h2
 obtain ⟨w1,hw1⟩:∃ w1,w.alloc (.cells #[.int .i64 n,.int .i64 k,.slice a X.length c] 31)=w1:=⟨_,rfl⟩
 have hb1:w1.heap[w.heap.size]?=some (.cells #[.int .i64 n,.int .i64 k,.slice a X.length c] 31 (0,0)):=by rw [← hw1];exact block_new w _ _
 have hE1:Ext w w1:=by rw [← hw1];exact Ext.alloc _ _
 have hG:=checkGrade_any n k w1
 rw [gradeS_ok hn hk] at hG
 have HG:=Lib.hid hG
 have HW:Hid (∀ x∈X,∀ W,Calls Tryz.prog 96 #[.string (intB x)] W fun e w'=>e=.returned (.int .i64 0)∧Ext W w'):=fun x hx W=>wholeCheck_any x W (hd x hx)
 have HC:=Lib.hid hc
 have k1:=block_cell hb1
 have HB:=Lib.hid hb1
 have HE1:=Lib.hid hE1
 obtain ⟨m,hm⟩:∃ m,(allW n k).length=m:=⟨_,rfl⟩
 rw [hm] at hl
 have HL:=Lib.hid hl;have HM:=Lib.hid hm
 have HA:Hid (∀ W,Calls Tryz.prog 60 #[.int .i64 n,.int .i64 k] W fun e w'=>∃ a6 c6,e=.returned (.slice a6 m c6)∧Ext W w'):=fun W=>(all_any n k hn hk W).mono fun e w' ⟨v,h1,h2,h3⟩=>by
  obtain ⟨a6,c6,rfl,-⟩:=h3.open
  rw [hm] at h1
  exact ⟨a6,c6,h1,h2⟩
 rw [hl] at k1 h1 HB hw1 ⊢
 clear hb1 hE1 hr hc hG hd hl hm
 go_enter Tryz.func47,Tryz.ntmps47
 go_wp2_with fail
 refine HG.out.mono ?_
 rintro e w2 ⟨rfl,hE2⟩
 have hb2:=block_ext HB.out hE2
 have d0:=block_cell hb2 0;have d1:=block_cell hb2 1;have d2:=block_cell hb2 2
 simp only [List.getElem?_toArray,List.getElem?_cons_succ,List.getElem?_cons_zero] at d0 d1 d2
 have HE2:Hid (Ext w w2):=HE1.out.trans hE2
 clear hE2 HG k1 hw1 hb2
 go_wp2_with fail
 have z1:w2.drew.cell? ⟨w.heap.size,0,none⟩=some (.int .i64 n):=d0
 have z2:w2.drew.cell? ⟨w.heap.size,1,none⟩=some (.int .i64 k):=d1
 have z3:w2.drew.cell? ⟨w.heap.size,2,none⟩=some (.slice a m c):=d2
 have z4:Hid (Ext w w2.drew):=HE2.out.trans (Ext.drew _)
 clear d0 d1 d2
 go_region_held3 (fun w'=>w'.cell? ⟨w.heap.size,0,none⟩=some (.int .i64 n)∧w'.cell? ⟨w.heap.size,1,none⟩=some (.int .i64 k)∧w'.cell? ⟨w.heap.size,2,none⟩=some (.slice a m c)∧Hid (Ext w w'))
  (first | exact ⟨z1,z2,z3,z4⟩ | go_keep)
  (first
   | (go_at_call 60;with_reducible refine (HA.out _).mono ?_;rintro e w6 ⟨a6,c6,rfl,hE6⟩;have q1:=hE6.cell (a:=⟨w.heap.size,0,none⟩) (v:=.int .i64 n) (by assumption);have q2:=hE6.cell (a:=⟨w.heap.size,1,none⟩) (v:=.int .i64 k) (by assumption);have q3:=hE6.cell (a:=⟨w.heap.size,2,none⟩) (v:=.slice a m c) (by assumption);have q4:=Lib.hid (Ext.trans (Hid.out (p:=Ext w _) (by assumption)) hE6);(try clear z1 z2 z3 z4);have z1:=q1;have z2:=q2;have z3:=q3;have z4:=q4;clear hE6 q1 q2 q3 q4))
 all_goals
  go_wp2_with fail
  have Z3:=Lib.hid z3
  clear z1 z2 z3
  go_loopw [28] (fun t wr=>∃ j:Nat,j≤m∧t=.int .i64 j∧Hid (Ext w wr)∧Hid (wr.cell? ⟨w.heap.size,2,none⟩=some (.slice a m c))) (fun t _=>m+1-(intOf t).toNat)
  case atStart=>exact ⟨0,by omega,rfl,z4.out,Z3.out⟩
  case round =>
   obtain ⟨j,hj,rfl,HX,HD⟩:=hrel
   by_cases hlt:j<m
   ·obtain ⟨x,hx⟩:∃ x,X[j]?=some x:=⟨_,List.getElem?_eq_getElem (by have:=HL.out;omega)⟩
    obtain ⟨b,off,rfl,hb,hcell⟩:=HC.out (by intro e;rw [e] at hx;simp at hx)
    obtain ⟨z9,e1,g1⟩:=hcell j x hx
    obtain rfl:z9=.string (intB x):=e1
    have g1:=HX.out.cell g1
    have q1:(j:Int)<(m:Int):=by omega
    have HK:=Lib.hid (HW.out x (List.mem_of_getElem? hx))
    clear hcell hx hb
    go_wp2_with fail
    refine (HK.out _).mono ?_
    rintro e w7 ⟨rfl,h7⟩
    have HX7:Hid (Ext w w7):=HX.out.trans h7
    have HD7:=Lib.hid (h7.cell HD.out)
    clear h7 HK
    go_wp2_with fail
    go_roundw
    case rel=>exact ⟨j+1,by omega,by go_num,HX7.out,HD7.out⟩
    case measure=>simp [intOf];omega
   ·obtain rfl:j=m:=by omega
    go_wp2_with fail
    go_ret
    exact ⟨rfl,HX.out⟩
theorem contTo_le (X : List Int) {B : Nat} (hB : ∀ x ∈ X, x.natAbs ≤ B) : ∀ i, i ≤ X.length → contTo X i ≤ B
  | 0, _ => by simp [contTo]
  | i + 1, h => by
    obtain ⟨x, hx⟩ : ∃ x, X[i]? = some x := ⟨_, List.getElem?_eq_getElem (by omega)⟩
    rw [contTo_succ hx]
    have h1 := contTo_le X hB i (by omega)
    have h2 := hB x (List.mem_of_getElem? hx)
    by_cases h0 : contTo X i = 0
    · rw [h0, Nat.gcd_zero_left]; exact h2
    · exact Nat.le_trans (Nat.gcd_le_left _ (by omega)) h1
set_option maxRecDepth 100000 in
set_option maxHeartbeats 2000000 in
theorem content_any (X:List Int) (v:Value) (w:World) (h:ListAt 1 numC w v X) (HG:Hid (∀ i x,X[i]?=some x→∀ W,Ext w W→Calls Tryz.prog 134 #[.string (intB (contTo X i:Int)),.string (intB x)] W fun e w'=>e=.returned (.string (intB (contTo X (i+1):Int)))∧Ext W w')) :
  Calls Tryz.prog 76 #[v] w fun e w'=>e=.returned (.string (intB (contL X:Int)))∧Ext w w':=by
 obtain ⟨a,c,rfl,h1,h2,-,hc⟩:=inCell.open (BigL.of_nums h)
 unfold maxLen at h2
 have HC:=Lib.hid hc
 clear h hc
 obtain ⟨m,hm⟩:∃ m,X.length=m:=⟨_,rfl⟩
 have HM:=Lib.hid hm
 have HL:Hid (contL X=contTo X m):=by unfold Hid contL;rw [hm]
 have HZ:Hid (intB (contTo X 0:Int)=⟨#[48]⟩):=by
  unfold Hid
  show intB 0=_
  decide +kernel
 rw [hm] at h1 ⊢
 clear hm
 go_enter Tryz.func76,Tryz.ntmps76
 go_wp2_with fail
 go_loopw [3,8] (fun o t wr=>∃ j:Nat,j≤m∧t=.int .i64 j∧o=.string (intB (contTo X j:Int))∧Hid (Ext w wr)) (fun _ t _=>m+1-(intOf t).toNat)
 case atStart=>exact ⟨0,by omega,rfl,by rw [HZ.out],Ext.refl _⟩
 case round =>
  obtain ⟨j,hj,rfl,rfl,HX⟩:=hrel
  by_cases hlt:j<m
  ·obtain ⟨x,hx⟩:∃ x,X[j]?=some x:=⟨_,List.getElem?_eq_getElem (by have:=HM.out;omega)⟩
   obtain ⟨b,off,rfl,hb,hcell⟩:=HC.out (by intro e;rw [e] at hx;simp at hx)
   obtain ⟨z9,e1,g1⟩:=hcell j x hx
   obtain rfl:z9=.string (intB x):=e1
   have g1:=HX.out.cell g1
   have q1:(j:Int)<(m:Int):=by omega
   have HK:=Lib.hid (HG.out j x hx wr HX.out)
   obtain ⟨s0,hs0⟩:∃ s,intB (contTo X j:Int)=s:=⟨_,rfl⟩
   obtain ⟨s1,hs1⟩:∃ s,intB (contTo X (j+1):Int)=s:=⟨_,rfl⟩
   have HS1:=Lib.hid hs1
   rw [hs0,hs1] at HK
   rw [hs0]
   clear hcell hx hb hs0 hs1
   go_wp2_with fail
   refine HK.out.mono ?_
   rintro e w7 ⟨rfl,h7⟩
   have HX7:Hid (Ext w w7):=HX.out.trans h7
   clear h7 HK
   go_wp2_with fail
   go_roundw
   case rel=>exact ⟨j+1,by omega,by go_num,by rw [HS1.out],HX7.out⟩
   case measure=>simp [intOf];omega
  ·obtain rfl:j=m:=by omega
   go_wp2_with fail
   go_ret
   exact ⟨by rw [HL.out];rfl,HX.out⟩
theorem contTo_lt {X:List Int} {B:Nat} (h0:0<B) (hB:∀ x∈X,x.natAbs<B) {i:Nat} (hi:i≤X.length):contTo X i<B:=by
 have:=contTo_le X (B:=B-1) (fun x hx=>by have:=hB x hx;omega) i hi
 omega
def Digits400 (X:List Int):Prop:=∀ x∈X,x.natAbs<10^400
theorem digits_size {x:Int} (h:x.natAbs<10^400):(numB x.natAbs).size≤400∧(intB x).size≤401:=by
 have h1:=numB_size_le x.natAbs 400 h (by decide)
 have h2:=intB_size_le x
 exact ⟨h1,by omega⟩
theorem contentI_any (X:List Int) (v:Value) (w:World) (h:ListAt 1 numC w v X) (hd:Digits400 X) (ht:Pow10 w) :
  Calls Tryz.prog 76 #[v] w fun e w'=>e=.returned (.string (intB (contL X:Int)))∧Ext w w':=by
 refine content_any X v w h fun i x hx W hW=>?_
 have h2:((contTo X i:Nat):Int).natAbs<10^400:=by
  rw [Int.natAbs_natCast]
  exact contTo_lt (Nat.pow_pos (by decide)) hd (Nat.le_of_lt (List.getElem?_eq_some_iff.1 hx).1)
 have h3:=gcdI_any (contTo X i:Int) x W (by have:=(digits_size h2).2;omega) (by have:=(digits_size (hd x (List.mem_of_getElem? hx))).2;omega) (ht.ext hW)
 rw [Int.natAbs_natCast,← contTo_succ hx,← eb] at h3
 exact h3
structure RightM (n k:Nat) (X:List Int):Prop where
 n12:n≤12
 kn:k≤n
 len:X.length=(allW n k).length
 dig:Digits400 X
theorem checkR_any {n k:Nat} {X:List Int} (hR:RightM n k X) (u:Value) (w:World) (h:MultiV w u n k X) :
  Calls Tryz.prog 47 #[u] w fun e w'=>e=.returned (.int .i64 0)∧Ext w w' :=
 checkM_any n k X u w h hR.n12 hR.kn hR.len fun x hx=>(digits_size (hR.dig x hx)).1
theorem int_zeroW (x:Int):((intB x).toList == [48])=decide (x=0):=by
 have h:=int_same x 0
 have e:(intB 0).toList=[48]:=by decide +kernel
 rw [e] at h;exact h
set_option maxRecDepth 100000 in
set_option maxHeartbeats 1000000 in
theorem zeroM_any {n k:Nat} {X:List Int} (hd:Digits400 X) (u:Value) (w:World) (h:MultiV w u n k X) (ht:Pow10 w) :
  Calls Tryz.prog 79 #[u] w fun e w'=>e=.returned (.bool (decide (contL X=0)))∧Ext w w':=by
 obtain ⟨r,rfl,hr⟩:=h
 have HN:Hid (∀ W,Ext w W→Calls Tryz.prog 76 #[r] W fun e w'=>e=.returned (.string (intB (contL X:Int)))∧Ext W w'):=fun W hW=>contentI_any X r W (ListAt.ext numC.mono' hr hW) hd (ht.ext hW)
 obtain ⟨a,c,rfl,-⟩:=ListAt.open hr
 obtain ⟨w1,hw1⟩:∃ w1,w.alloc (.cells #[.int .i64 n,.int .i64 k,.slice a X.length c] 31)=w1:=⟨_,rfl⟩
 have hb1:w1.heap[w.heap.size]?=some (.cells #[.int .i64 n,.int .i64 k,.slice a X.length c] 31 (0,0)):=by rw [← hw1];exact block_new w _ _
 have HE1:Hid (Ext w w1):=by rw [← hw1];exact Ext.alloc _ _
 have k1:=block_cell hb1
 have hz:=int_zeroW (contL X:Int)
 have HD:Hid (decide ((contL X:Int)=0)=decide (contL X=0)):=by unfold Hid;congr 1;exact propext ⟨fun h=>by omega,fun h=>by omega⟩
 obtain ⟨s,hs⟩:∃ s,intB (contL X:Int)=s:=⟨_,rfl⟩
 rw [hs] at HN hz
 clear hb1 hr hd ht hs
 go_enter Tryz.func79,Tryz.ntmps79
 go_wp2_with fail
 refine (HN.out w1 HE1.out).mono ?_
 rintro e w3 ⟨rfl,h3⟩
 have HE3:Hid (Ext w w3):=HE1.out.trans h3
 clear h3 HN
 go_wp2_with fail
 go_ret
 refine ⟨?_,HE3.out⟩
 rw [← HD.out]
 first | rfl | (rw [← hz];rfl)
end Go.Proofs.YtjlkkofmojgipaaGreatDoor
