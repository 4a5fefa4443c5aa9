import Derived.Test.YtjlkkofmojgipaaGreatDoorPBA
import Derived.Test.YtjlkkofmojgipaaGreatDoorOAAD
import Derived.Test.YtjlkkofmojgipaaGreatDoorPBO
import Derived.Test.YtjlkkofmojgipaaGreatDoorPBP
import Derived.Test.YtjlkkofmojgipaaGreatDoorPBK
import Derived.Test.YtjlkkofmojgipaaGreatDoorPAV
namespace Go.Proofs.YtjlkkofmojgipaaGreatDoor
set_option linter.unusedVariables false
set_option linter.unusedSimpArgs false
open Go.RowKit
theorem any_next {r:List Int} {i:Nat} {x:Int} (p:Int→Bool) (h:r[i]?=some x):(r.take (i+1)).any p=((r.take i).any p || p x):=by
 rw [List.take_add_one,h,List.any_append];simp
set_option maxRecDepth 100000 in
set_option maxHeartbeats 8000000 in
theorem wints_walk (n k:Int) (L:List ByteArray) (r:List Int) (u v:Value) (w:World) (h:TxtV w u n k L) (hv:Ints w v r) (hlib:LibT w) (hb:4<w.heap.size) :
  Calls Tryz.prog 4 #[u,v] w fun e w'=>e=.returned (.bool true)∧Ext w w':=by
 have HKN:Hid (∀ W,Ext w W→Calls Tryz.prog 13 #[] W fun e w'=>e=.returned (.bool true)∧Ext W w'):=fun W hW=>known10_any W (hlib.ext hW) (Nat.lt_of_lt_of_le hb hW.size)
 have HT1:=Lib.hid h
 have HV:=Lib.hid hv
 obtain ⟨av,cv,rfl,b1,b2,-,-,bc⟩:=hv.open
 unfold maxLen at b2
 have HBC:=Lib.hid bc
 obtain ⟨mr,hmr⟩:∃ m,r.length=m:=⟨_,rfl⟩
 have HMR:=Lib.hid hmr
 rw [hmr] at b1 HV ⊢
 obtain ⟨ua,rfl,hua⟩:=h
 obtain ⟨a,ca,rfl,a1,a2,-,-⟩:=inCell.open hua
 unfold maxLen at a2
 obtain ⟨ma,hma⟩:∃ m,L.length=m:=⟨_,rfl⟩
 have HMA:=Lib.hid hma
 rw [hma] at a1 HT1 ⊢
 have HLIB:=Lib.hid hlib
 obtain ⟨w1,hw1,hE1,hs1,hb1⟩:=boxM w (.int .i64 n) (.int .i64 k) (.slice a ma ca)
 have HB1:=Lib.hid hb1
 have HE_w1:Hid (Ext w w1):=hE1
 clear hv bc hmr hb1 hE1 hs1 hua hma hlib hb
 go_enter Tryz.func4,Tryz.ntmps4
 go_wp2_with fail
 refine (HKN.out w1 HE_w1.out).mono ?_
 rintro e w3 ⟨rfl,hE⟩
 have HE_w3:Hid (Ext w w3):=HE_w1.out.trans hE
 have HB1:=Lib.hid (block_ext HB1.out hE)
 clear hE hw1
 have s1:=block_cell HB1.out
 by_cases hfw4:fewT n L
 rotate_left
 ·have HC:Hid (∀ W,Ext w W→Calls Tryz.prog 20 #[.agg #[.int .i64 n,.int .i64 k,.slice a ma ca]] W fun e w'=>e=.returned (.bool false)∧Ext W w'):=fun W hW=>by
   have h9:=few10_any n k L _ W (HT1.out.ext hW)
   rw [decide_eq_false hfw4] at h9;exact h9
  clear hfw4
  go_wp2_with fail
  refine (HC.out w3 HE_w3.out).mono ?_
  rintro e v9 ⟨rfl,hE⟩
  have HE_v9:Hid (Ext w v9):=HE_w3.out.trans hE
  clear hE HC s1
  go_wp2_with fail
  refine (HKN.out v9 HE_v9.out).mono ?_
  rintro e w9 ⟨rfl,hE9⟩
  go_wp2_with fail
  go_ret
  exact ⟨rfl,HE_v9.out.trans hE9⟩
 have HC:Hid (∀ W,Ext w W→Calls Tryz.prog 20 #[.agg #[.int .i64 n,.int .i64 k,.slice a ma ca]] W fun e w'=>e=.returned (.bool true)∧Ext W w'):=fun W hW=>by
  have h9:=few10_any n k L _ W (HT1.out.ext hW)
  rw [decide_eq_true hfw4] at h9;exact h9
 have HFw4:=Lib.hid hfw4
 clear hfw4
 go_wp2_with fail
 refine (HC.out w3 HE_w3.out).mono ?_
 rintro e w4 ⟨rfl,hE⟩
 have HE_w4:Hid (Ext w w4):=HE_w3.out.trans hE
 have HB1:=Lib.hid (block_ext HB1.out hE)
 clear hE HC s1
 have s1:=block_cell HB1.out
 by_cases hfw5:shortT L
 rotate_left
 ·have HC:Hid (∀ W,Ext w W→Calls Tryz.prog 21 #[.agg #[.int .i64 n,.int .i64 k,.slice a ma ca]] W fun e w'=>e=.returned (.bool false)∧Ext W w'):=fun W hW=>by
   have h9:=short10_any n k L _ W (HT1.out.ext hW)
   rw [decide_eq_false hfw5] at h9;exact h9
  clear hfw5
  go_wp2_with fail
  refine (HC.out w4 HE_w4.out).mono ?_
  rintro e v9 ⟨rfl,hE⟩
  have HE_v9:Hid (Ext w v9):=HE_w4.out.trans hE
  clear hE HC s1
  go_wp2_with fail
  refine (HKN.out v9 HE_v9.out).mono ?_
  rintro e w9 ⟨rfl,hE9⟩
  go_wp2_with fail
  go_ret
  exact ⟨rfl,HE_v9.out.trans hE9⟩
 have HC:Hid (∀ W,Ext w W→Calls Tryz.prog 21 #[.agg #[.int .i64 n,.int .i64 k,.slice a ma ca]] W fun e w'=>e=.returned (.bool true)∧Ext W w'):=fun W hW=>by
  have h9:=short10_any n k L _ W (HT1.out.ext hW)
  rw [decide_eq_true hfw5] at h9;exact h9
 have HFw5:=Lib.hid hfw5
 clear hfw5
 go_wp2_with fail
 refine (HC.out w4 HE_w4.out).mono ?_
 rintro e w5 ⟨rfl,hE⟩
 have HE_w5:Hid (Ext w w5):=HE_w4.out.trans hE
 have HB1:=Lib.hid (block_ext HB1.out hE)
 clear hE HC s1
 have hZ1:∀ a∈L,a.size≤100000:=fun a ha=>Nat.le_trans (HFw5.out a ha) (by decide)
 have HR1:Hid (∀ W,Ext w W→Calls Tryz.prog 22 #[.agg #[.int .i64 n,.int .i64 k,.slice a ma ca]] W fun e w'=>e=.returned (.int .i64 (chkX n k L))∧Ext W w'):=fun W hW=>refChk10_any n k L _ W (HT1.out.ext hW) hZ1
 have HPE0:intErr n k L r≠0→∀ W,Ext w W→Calls Tryz.prog 25 #[.agg #[.int .i64 n,.int .i64 k,.slice a ma ca],.slice av mr cv] W fun e w'=>e=.returned (.tuple #[noMulti,.int .i64 (intErr n k L r)])∧Ext W w':=fun h0 W hW=>intE_any n k L r _ _ W (HT1.out.ext hW) (HV.out.ext hW) hZ1 h0
 clear hZ1
 by_cases h6:6<(mr:Int)
 ·clear HPE0
  have q6:decide (6<(mr:Int))=true:=decide_eq_true h6
  go_wp2_with fail
  refine (HKN.out w5 HE_w5.out).mono ?_
  rintro e w9 ⟨rfl,hE9⟩
  go_wp2_with fail
  go_ret
  exact ⟨rfl,HE_w5.out.trans hE9⟩
 have s1:=block_cell HB1.out
 have q6:decide (6<(mr:Int))=false:=decide_eq_false h6
 go_wp2_with fail
 clear s1 q6
 refine (plain10_any _ _ _ _ _ w5).mono ?_
 rintro e w6 ⟨rfl,hE⟩
 have HE_w6:Hid (Ext w w6):=HE_w5.out.trans hE
 have HB1:=Lib.hid (block_ext HB1.out hE)
 clear hE
 by_cases hA:chkX n k L=0
 rotate_left
 ·obtain ⟨E,hE⟩:∃ E,chkX n k L=E:=⟨_,rfl⟩
  rw [hE] at HR1 hA
  have q1:(E != 0)=true:=bne_iff_ne.2 hA
  clear hE hA HPE0
  go_wp2_with fail
  refine (HR1.out w6 HE_w6.out).mono ?_
  rintro e v9 ⟨rfl,hE⟩
  have HE_v9:Hid (Ext w v9):=HE_w6.out.trans hE
  clear hE
  go_wp2_with fail
  refine (HKN.out v9 HE_v9.out).mono ?_
  rintro e w9 ⟨rfl,hE9⟩
  go_wp2_with fail
  go_ret
  exact ⟨rfl,HE_v9.out.trans hE9⟩
 obtain ⟨N,K,X,rfl,rfl,hN,hK,hX,hXl,hX4,hXs⟩:=chkX_zero hA
 have hN5:N<5:=by
  have h9:=HFw4.out.1;omega
 rw [hA] at HR1
 go_wp2_with fail
 refine (HR1.out w6 HE_w6.out).mono ?_
 rintro e w7 ⟨rfl,hE⟩
 have HE_w7:Hid (Ext w w7):=HE_w6.out.trans hE
 have HB1:=Lib.hid (block_ext HB1.out hE)
 clear hE HR1 HKN HFw4 HFw5
 have d0:=block_cell HB1.out 0;have d1:=block_cell HB1.out 1
 simp only [List.getElem?_toArray,List.getElem?_cons_succ,List.getElem?_cons_zero] at d0 d1
 by_cases hk:K=0
 ·have q0:((K:Int) == 0)=true:=by rw [hk];rfl
  have HPE:Hid (∀ W,Ext w W→Calls Tryz.prog 25 #[.agg #[.int .i64 N,.int .i64 K,.slice a ma ca],.slice av mr cv] W fun e w'=>e=.returned (.tuple #[.agg #[.int .i64 0,.int .i64 0,.slice none 0 0],.int .i64 3])∧Ext W w'):=by
   have hv:intErr N K L r=3:=by unfold intErr;rw [if_neg (fun e=>e hA),if_pos (by omega)]
   rw [hv] at HPE0;exact HPE0 (by decide)
  clear HPE0
  clear hA hN hK hX hXl hX4 hXs hN5 hk h6
  go_wp2_with fail
  go_loopw [6,5] (fun t s wr=>∃ i:Nat,i≤mr∧t=.int .i64 (i:Int)∧s=.int .i64 3∧wr=w7) (fun t _ _=>mr+1-(intOf t).toNat)
  case atStart=>exact ⟨0,by omega,by simp,rfl,rfl⟩
  case round =>
   obtain ⟨i,hi,rfl,rfl,hwr⟩:=hrel
   obtain rfl:=hwr.symm
   by_cases hlt:i<mr
   ·have hin:(i:Int)<(mr:Int):=by omega
    go_wp2_with fail
    go_roundw
    case rel=>exact ⟨i+1,by omega,by go_num,rfl,by first | rfl | trivial⟩
    case measure=>simp [intOf];omega
   ·obtain rfl:i=mr:=by omega
    have s1:=block_cell HB1.out
    go_wp2_with fail
    clear s1
    refine (HPE.out w7 HE_w7.out).mono ?_
    rintro e v8 ⟨rfl,hE⟩
    have HE_v8:Hid (Ext w v8):=HE_w7.out.trans hE
    have HB1:=Lib.hid (block_ext HB1.out hE)
    clear hE HPE
    obtain ⟨V8,hV,hX,hs9,hb⟩:=boxM v8 (.int .i64 0) (.int .i64 0) (.slice none 0 0)
    have r0:=block_cell hb
    have f0:=block_free hb
    have HB5:=Lib.hid (multi_store hb (.int .i64 0) (.int .i64 0) (.slice none 0 0))
    have HXU8:=Lib.hid (multi_ext (B:=v8.heap.size) hX (Nat.le_refl _) (.int .i64 0) (.int .i64 0) (.slice none 0 0))
    obtain ⟨U8,hU⟩:∃ U,((V8.setCell ⟨v8.heap.size,0,none⟩ (.int .i64 0)).setCell ⟨v8.heap.size,1,none⟩ (.int .i64 0)).setCell ⟨v8.heap.size,2,none⟩ (.slice none 0 0)=U:=⟨_,rfl⟩
    rw [hU] at HB5 HXU8
    clear hX hs9 hb
    have HE_U8:Hid (Ext w U8):=HE_v8.out.trans HXU8.out
    have HB1:=Lib.hid (block_ext HB1.out HXU8.out)
    have s5:=block_cell HB5.out
    go_wp2_with fail
    clear s5 r0 f0 hU hV
    refine (none_yes U8).mono ?_
    rintro e vN ⟨rfl,hE⟩
    have HE_vN:Hid (Ext w vN):=HE_U8.out.trans hE
    clear hE
    go_wp2_with fail
    go_ret
    exact ⟨rfl,HE_vN.out⟩
 have q0:((K:Int) == 0)=false:=beq_eq_false_iff_ne.2 (by omega)
 by_cases hm:mr=N
 rotate_left
 ·have q1:((mr:Int) != (N:Int))=true:=bne_iff_ne.2 (by omega)
  have HPE:Hid (∀ W,Ext w W→Calls Tryz.prog 25 #[.agg #[.int .i64 N,.int .i64 K,.slice a ma ca],.slice av mr cv] W fun e w'=>e=.returned (.tuple #[.agg #[.int .i64 0,.int .i64 0,.slice none 0 0],.int .i64 5])∧Ext W w'):=by
   have hv:intErr N K L r=5:=by unfold intErr;rw [if_neg (fun e=>e hA),if_neg (by omega),HMR.out,if_pos (by omega)]
   rw [hv] at HPE0;exact HPE0 (by decide)
  clear HPE0
  clear hA hN hK hX hXl hX4 hXs hN5 hk hm h6
  go_wp2_with fail
  go_loopw [6,5] (fun t s wr=>∃ i:Nat,i≤mr∧t=.int .i64 (i:Int)∧s=.int .i64 5∧wr=w7) (fun t _ _=>mr+1-(intOf t).toNat)
  case atStart=>exact ⟨0,by omega,by simp,rfl,rfl⟩
  case round =>
   obtain ⟨i,hi,rfl,rfl,hwr⟩:=hrel
   obtain rfl:=hwr.symm
   by_cases hlt:i<mr
   ·have hin:(i:Int)<(mr:Int):=by omega
    go_wp2_with fail
    go_roundw
    case rel=>exact ⟨i+1,by omega,by go_num,rfl,by first | rfl | trivial⟩
    case measure=>simp [intOf];omega
   ·obtain rfl:i=mr:=by omega
    have s1:=block_cell HB1.out
    go_wp2_with fail
    clear s1
    refine (HPE.out w7 HE_w7.out).mono ?_
    rintro e v8 ⟨rfl,hE⟩
    have HE_v8:Hid (Ext w v8):=HE_w7.out.trans hE
    have HB1:=Lib.hid (block_ext HB1.out hE)
    clear hE HPE
    obtain ⟨V8,hV,hX,hs9,hb⟩:=boxM v8 (.int .i64 0) (.int .i64 0) (.slice none 0 0)
    have r0:=block_cell hb
    have f0:=block_free hb
    have HB5:=Lib.hid (multi_store hb (.int .i64 0) (.int .i64 0) (.slice none 0 0))
    have HXU8:=Lib.hid (multi_ext (B:=v8.heap.size) hX (Nat.le_refl _) (.int .i64 0) (.int .i64 0) (.slice none 0 0))
    obtain ⟨U8,hU⟩:∃ U,((V8.setCell ⟨v8.heap.size,0,none⟩ (.int .i64 0)).setCell ⟨v8.heap.size,1,none⟩ (.int .i64 0)).setCell ⟨v8.heap.size,2,none⟩ (.slice none 0 0)=U:=⟨_,rfl⟩
    rw [hU] at HB5 HXU8
    clear hX hs9 hb
    have HE_U8:Hid (Ext w U8):=HE_v8.out.trans HXU8.out
    have HB1:=Lib.hid (block_ext HB1.out HXU8.out)
    have s5:=block_cell HB5.out
    go_wp2_with fail
    clear s5 r0 f0 hU hV
    refine (none_yes U8).mono ?_
    rintro e vN ⟨rfl,hE⟩
    have HE_vN:Hid (Ext w vN):=HE_U8.out.trans hE
    clear hE
    go_wp2_with fail
    go_ret
    exact ⟨rfl,HE_vN.out⟩
 have q1:((mr:Int) != (N:Int))=false:=by rw [hm];exact bne_self_eq_false _
 have HRX:Hid (RightM N K X):=⟨by omega,hK,hXl,hX4⟩
 have HHX:Hid (L=X.map intB):=hX
 have HHA:Hid (chkX N K L=0):=hA
 have HHK:Hid (K≠0):=hk
 have HHN:Hid (N<5∧mr=N):=⟨hN5,hm⟩
 have HPE1:=Lib.hid HPE0
 clear hA hN hK hX hXl hX4 hXs hN5 hk hm h6 HPE0
 go_wp2_with fail
 clear d0 d1 q0 q1
 go_loopw [6,5] (fun t s wr=>∃ (i:Nat) (b:Bool) (y:Value),i≤mr∧t=.int .i64 (i:Int)∧s=y∧wr=w7∧Hid (b=(r.take i).any (fun x=>!fitB x))∧Hid (b=false∧y=.int .i64 0∨b=true∧y=.int .i64 4)) (fun t _ _=>mr+1-(intOf t).toNat)
 case atStart=>exact ⟨0,false,_,by omega,by simp,rfl,rfl,by unfold Hid;simp,.inl ⟨rfl,rfl⟩⟩
 case round =>
  obtain ⟨i,b,y,hi,rfl,hy,hwr,HBT,HY⟩:=hrel
  obtain rfl:=hwr.symm
  obtain rfl:=hy.symm
  by_cases hlt:i<mr
  ·have hin:(i:Int)<(mr:Int):=by omega
   obtain ⟨x,hx⟩:∃ x,r[i]?=some x:=⟨_,List.getElem?_eq_getElem (by rw [HMR.out];exact hlt)⟩
   have HNX:Hid ((r.take (i+1)).any (fun x=>!fitB x)=(b || !fitB x)):=by unfold Hid;rw [any_next _ hx,← HBT.out]
   obtain ⟨bb,ob,hav,-,hcb⟩:=HBC.out (by intro e;rw [e] at hx;simp at hx)
   have z1:=HE_w7.out.cell (hcb i x hx)
   subst hav
   clear hx hcb HBT
   rcases HY.out with ⟨rfl,rfl⟩ | ⟨rfl,rfl⟩
   ·rw [Bool.false_or] at HNX
    clear HY
    go_wp2_with fail
    refine (fits_any x w7).mono ?_
    rintro e w8 ⟨rfl,hw8⟩
    obtain rfl:=hw8.symm
    cases hf:fitB x with
    | true =>
     rw [hf] at HNX
     clear hf
     go_wp2_with fail
     go_roundw
     case rel=>exact ⟨i+1,false,_,by omega,by go_num,rfl,by first | rfl | trivial,HNX.out.symm,.inl ⟨rfl,rfl⟩⟩
     case measure=>simp [intOf];omega
    | false =>
     rw [hf] at HNX
     clear hf
     go_wp2_with fail
     go_roundw
     case rel=>exact ⟨i+1,true,_,by omega,by go_num,rfl,by first | rfl | trivial,HNX.out.symm,.inr ⟨rfl,rfl⟩⟩
     case measure=>simp [intOf];omega
   ·rw [Bool.true_or] at HNX
    clear HY
    go_wp2_with fail
    go_roundw
    case rel=>exact ⟨i+1,true,_,by omega,by go_num,rfl,by first | rfl | trivial,HNX.out.symm,.inr ⟨rfl,rfl⟩⟩
    case measure=>simp [intOf];omega
  ·obtain rfl:i=mr:=by omega
   have HBA:Hid (r.any (fun x=>!fitB x)=b):=by
    unfold Hid
    rw [HBT.out,List.take_of_length_le (by rw [HMR.out];omega)]
   clear HBT
   rcases HY.out with ⟨rfl,rfl⟩ | ⟨rfl,rfl⟩
   rotate_left
   ·have HPE0:=HPE1.out
    have hA:=HHA.out
    have hk:=HHK.out
    clear HY HPE1
    have HPE:Hid (∀ W,Ext w W→Calls Tryz.prog 25 #[.agg #[.int .i64 N,.int .i64 K,.slice a ma ca],.slice av i cv] W fun e w'=>e=.returned (.tuple #[.agg #[.int .i64 0,.int .i64 0,.slice none 0 0],.int .i64 4])∧Ext W w'):=by
     have hv:intErr N K L r=4:=by unfold intErr;rw [if_neg (fun e=>e hA),if_neg (by omega),HMR.out,if_neg (by have:=HHN.out.2;omega),if_pos HBA.out]
     rw [hv] at HPE0;exact HPE0 (by decide)
    clear HPE0
    clear hA hk
    have s1:=block_cell HB1.out
    go_wp2_with fail
    clear s1
    refine (HPE.out w7 HE_w7.out).mono ?_
    rintro e v8 ⟨rfl,hE⟩
    have HE_v8:Hid (Ext w v8):=HE_w7.out.trans hE
    have HB1:=Lib.hid (block_ext HB1.out hE)
    clear hE HPE
    obtain ⟨V8,hV,hX,hs9,hb⟩:=boxM v8 (.int .i64 0) (.int .i64 0) (.slice none 0 0)
    have r0:=block_cell hb
    have f0:=block_free hb
    have HB5:=Lib.hid (multi_store hb (.int .i64 0) (.int .i64 0) (.slice none 0 0))
    have HXU8:=Lib.hid (multi_ext (B:=v8.heap.size) hX (Nat.le_refl _) (.int .i64 0) (.int .i64 0) (.slice none 0 0))
    obtain ⟨U8,hU⟩:∃ U,((V8.setCell ⟨v8.heap.size,0,none⟩ (.int .i64 0)).setCell ⟨v8.heap.size,1,none⟩ (.int .i64 0)).setCell ⟨v8.heap.size,2,none⟩ (.slice none 0 0)=U:=⟨_,rfl⟩
    rw [hU] at HB5 HXU8
    clear hX hs9 hb
    have HE_U8:Hid (Ext w U8):=HE_v8.out.trans HXU8.out
    have HB1:=Lib.hid (block_ext HB1.out HXU8.out)
    have s5:=block_cell HB5.out
    go_wp2_with fail
    clear s5 r0 f0 hU hV
    refine (none_yes U8).mono ?_
    rintro e vN ⟨rfl,hE⟩
    have HE_vN:Hid (Ext w vN):=HE_U8.out.trans hE
    clear hE
    go_wp2_with fail
    go_ret
    exact ⟨rfl,HE_vN.out⟩
   clear HY HPE1 hi hlt
   obtain ⟨hN5,hm⟩:=HHN.out
   have hk1:1≤K:=by have:=HHK.out;omega
   have hrl:r.length=N:=by rw [HMR.out];exact hm
   have hfit:∀ x∈r,x.natAbs≤1000000000:=fun x hx=>by
    have h9:=List.any_eq_false.1 HBA.out x hx
    have h8:fitB x=true:=by simpa using h9
    have:=(fitB_iff x).1 h8;omega
   obtain ⟨g,hg⟩:∃ g,K-1=g:=⟨_,rfl⟩
   obtain ⟨D,hD⟩:∃ D,intL N K X r=D:=⟨_,rfl⟩
   obtain ⟨z,hz⟩:∃ z,D.length=z:=⟨_,rfl⟩
   have HM1:Hid (∀ W,Ext w W→ListAt 1 numC W (.slice a ma ca) X):=fun W hW=>txts_nums (by rw [← HHX.out];exact txt_list (HT1.out.ext hW))
   have HIO:Hid (∀ W,Ext w W→Calls Tryz.prog 25 #[.agg #[.int .i64 N,.int .i64 K,.slice a ma ca],.slice av i cv] W fun e w'=>∃ a5 c5,e=.returned (.tuple #[.agg #[.int .i64 N,.int .i64 g,.slice a5 z c5],.int .i64 0])∧ListAt 1 numC w' (.slice a5 z c5) D∧Ext W w'):=fun W hW=>by
    refine (intM_any (by omega) HRX.out hk1 hrl HBA.out _ _ W ⟨_,rfl,HM1.out W hW⟩ (HV.out.ext hW) (HLIB.out.pow.ext hW)).mono fun e w' ⟨y,h1,h2,h3⟩=>?_
    obtain ⟨a5,c5,rfl,h4⟩:=multi_open h3
    rw [hD,hz] at h4
    rw [hD,hz,hg] at h1
    exact ⟨a5,c5,h1,h4,h2⟩
   have HRO:Hid (∀ W,Ext w W→Calls Tryz.prog 26 #[.agg #[.int .i64 N,.int .i64 K,.slice a ma ca],.slice av i cv] W fun e w'=>∃ a5 c5,e=.returned (.agg #[.int .i64 N,.int .i64 g,.slice a5 z c5])∧ListAt 1 numC w' (.slice a5 z c5) D∧Ext W w'):=fun W hW=>by
    refine (refInt10_any (by omega) HRX.out hk1 hrl hfit _ _ W (HM1.out W hW) (HV.out.ext hW) (HLIB.out.pow.ext hW)).mono fun e w' ⟨y,h1,h2,h3⟩=>?_
    obtain ⟨a5,c5,rfl,h4⟩:=multi_open h3
    rw [hD,hz] at h4
    rw [hD,hz,hg] at h1
    exact ⟨a5,c5,h1,h4,h2⟩
   have HSA:Hid (∀ W a5 c5 a6 c6,ListAt 1 numC W (.slice a5 z c5) D→ListAt 1 numC W (.slice a6 z c6) D→Calls Tryz.prog 17 #[.agg #[.int .i64 N,.int .i64 g,.slice a5 z c5],.agg #[.int .i64 N,.int .i64 g,.slice a6 z c6]] W fun e w'=>e=.returned (.bool true)∧Ext W w'):=fun W a5 c5 a6 c6 h1 h2=>by
    have h9:=sameM_any N g D N g D _ _ W ⟨_,rfl,h1⟩ ⟨_,rfl,h2⟩
    rw [show equalM N g D N g D=true by unfold equalM;simp] at h9
    exact h9
   clear hN5 hm hk1 hrl hfit hg hD hz HHX HRX HHA HHK HBA HT1
   have s1:=block_cell HB1.out
   go_wp2_with fail
   clear s1
   refine (HIO.out w7 HE_w7.out).mono ?_
   rintro e v8 ⟨a5,c5,rfl,hR,hE⟩
   have HR5:=Lib.hid hR
   have HE_v8:Hid (Ext w v8):=HE_w7.out.trans hE
   have HB1:=Lib.hid (block_ext HB1.out hE)
   clear hE hR HIO
   obtain ⟨V8,hV,hX,hs9,hb⟩:=boxM v8 (.int .i64 0) (.int .i64 0) (.slice none 0 0)
   have r0:=block_cell hb
   have f0:=block_free hb
   have HB5:=Lib.hid (multi_store hb (.int .i64 N) (.int .i64 g) (.slice a5 z c5))
   have HXU8:=Lib.hid (multi_ext (B:=v8.heap.size) hX (Nat.le_refl _) (.int .i64 N) (.int .i64 g) (.slice a5 z c5))
   obtain ⟨U8,hU⟩:∃ U,((V8.setCell ⟨v8.heap.size,0,none⟩ (.int .i64 N)).setCell ⟨v8.heap.size,1,none⟩ (.int .i64 g)).setCell ⟨v8.heap.size,2,none⟩ (.slice a5 z c5)=U:=⟨_,rfl⟩
   rw [hU] at HB5 HXU8
   clear hX hs9 hb
   have HR5:=Lib.hid (ListAt.ext numC.mono' HR5.out HXU8.out)
   have HE_U8:Hid (Ext w U8):=HE_v8.out.trans HXU8.out
   have HB1:=Lib.hid (block_ext HB1.out HXU8.out)
   go_upto_region 16 with fail
   clear r0 f0 hU hV
   refine region_anyEV (fun w'=>Hid (w'.heap[v8.heap.size]?=some (.cells #[.int .i64 N,.int .i64 g,.slice a5 z c5] 31 (0,0)))∧Hid (w'.heap[w.heap.size]?=some (.cells #[.int .i64 N,.int .i64 K,.slice a ma ca] 31 (0,0)))∧Hid (Ext U8 w')) 12 12 (by kernel_rfl) (by kernel_rfl) ⟨block_ext HB5.out (Ext.drew U8),block_ext HB1.out (Ext.drew U8),Ext.drew U8⟩ (fun ops hO hHeld=>?_)
   have hi:=getopN hO 0 (by decide)
   conv at hi=>rhs;arg 1;whnf
   refine anyE_takeWV hO (v:=?_) 0 hi (by kernel_rfl) (by kernel_rfl) (by kernel_rfl) (by kernel_rfl) (fun _ _ _ h=>h) (Or.inl ⟨by rfl,?_⟩) (by assumption) ?_
   rotate_left
   ·((intro w');(try go_simp);(try with_reducible rfl))
   clear hi
   (try simp only [Act.put,List.setIfInBounds_toArray,List.set_cons_zero,List.set_cons_succ])
   have hi:=getopN hO 1 (by decide)
   conv at hi=>rhs;arg 1;whnf
   refine anyE_takeWV hO (v:=?_) 1 hi (by kernel_rfl) (by kernel_rfl) (by kernel_rfl) (by kernel_rfl) (fun _ _ _ h=>h) (Or.inl ⟨by rfl,?_⟩) (by assumption) ?_
   rotate_left
   ·((intro w');(try go_simp);(try with_reducible rfl))
   clear hi
   (try simp only [Act.put,List.setIfInBounds_toArray,List.set_cons_zero,List.set_cons_succ])
   have hi:=getopN hO 2 (by decide)
   conv at hi=>rhs;arg 1;whnf
   refine anyE_takeWV hO (v:=?_) 2 hi (by kernel_rfl) (by kernel_rfl) (by kernel_rfl) (by kernel_rfl) (fun _ _ _ h=>h) (Or.inl ⟨by rfl,?_⟩) (by assumption) ?_
   rotate_left
   ·((intro w');(try go_simp);(try with_reducible rfl))
   clear hi
   (try simp only [Act.put,List.setIfInBounds_toArray,List.set_cons_zero,List.set_cons_succ])
   have hi:=getopN hO 3 (by decide)
   conv at hi=>rhs;arg 1;whnf
   refine anyE_takeV hO (v:=?_) 3 hi (by kernel_rfl) (by kernel_rfl) (by kernel_rfl) (by kernel_rfl) (fun _ _ _ h=>h) (Or.inl ⟨by rfl,?_⟩) (by assumption) ?_
   rotate_left
   ·((intro w' hSw);(try dsimp only at hSw);have sb:=block_cell hSw.1.out;have sc:=block_cell hSw.2.1.out;(try go_simp);(try with_reducible rfl))
   clear hi
   (try simp only [Act.put,List.setIfInBounds_toArray,List.set_cons_zero,List.set_cons_succ])
   have hi:=getopN hO 4 (by decide)
   conv at hi=>rhs;arg 1;whnf
   refine anyE_takeV hO (v:=?_) 4 hi (by kernel_rfl) (by kernel_rfl) (by kernel_rfl) (by kernel_rfl) (fun _ _ _ h=>h) (Or.inl ⟨by rfl,?_⟩) (by assumption) ?_
   rotate_left
   ·((intro w' hSw);(try dsimp only at hSw);have sb:=block_cell hSw.1.out;have sc:=block_cell hSw.2.1.out;(try go_simp);(try with_reducible rfl))
   clear hi
   (try simp only [Act.put,List.setIfInBounds_toArray,List.set_cons_zero,List.set_cons_succ])
   have hi:=getopN hO 6 (by decide)
   conv at hi=>rhs;arg 1;whnf
   refine anyE_takeWV hO (v:=?_) 6 hi (by kernel_rfl) (by kernel_rfl) (by kernel_rfl) (by kernel_rfl) (fun _ _ _ h=>h) (Or.inl ⟨by rfl,?_⟩) (by assumption) ?_
   rotate_left
   ·((intro w');(try go_simp);(try with_reducible rfl))
   clear hi
   (try simp only [Act.put,List.setIfInBounds_toArray,List.set_cons_zero,List.set_cons_succ])
   have hi:=getopN hO 5 (by decide)
   conv at hi=>rhs;arg 1;whnf
   refine anyE_stepV hO 5 (by kernel_rfl) hi (fun K hK=>?_)
   go_simp
   (go_at_call 23;refine (plain10_any _ _ _ _ _ _).mono ?_)
   rintro e wz ⟨rfl,hEz⟩
   go_wp2_with fail
   refine hK.out _ _ ⟨block_ext hHeld.1.out hEz,block_ext hHeld.2.1.out hEz,Ext.trans hHeld.2.2.out hEz⟩ (fun hHeld=>?_)
   clear hK K hi
   (try simp only [Act.put,List.setIfInBounds_toArray,List.set_cons_zero,List.set_cons_succ])
   have hi:=getopN hO 7 (by decide)
   conv at hi=>rhs;arg 1;whnf
   refine anyE_stepV hO 7 (by kernel_rfl) hi (fun Kq hK=>?_)
   go_simp
   (go_at_call 26;refine (HRO.out _ (HE_U8.out.trans hHeld.2.2.out)).mono ?_)
   rintro e wr6 ⟨a6,c6,rfl,hR6,hEz⟩
   have HR6:=Lib.hid hR6
   clear hR6
   go_wp2_with fail
   refine hK.out _ _ ⟨block_ext hHeld.1.out hEz,block_ext hHeld.2.1.out hEz,Ext.trans hHeld.2.2.out hEz⟩ (fun hHeld=>?_)
   clear hK Kq hi
   (try simp only [Act.put,List.setIfInBounds_toArray,List.set_cons_zero,List.set_cons_succ])
   have hi:=getopN hO 8 (by decide)
   conv at hi=>rhs;arg 1;whnf
   refine anyE_stepV hO 8 (by kernel_rfl) hi (fun K hK=>?_)
   go_simp
   (go_at_call 18;refine (multi10_any _ _ _ _ _ _).mono ?_)
   rintro e wr7 ⟨rfl,hEz⟩
   have HR6:=Lib.hid (ListAt.ext numC.mono' HR6.out hEz)
   go_wp2_with fail
   refine hK.out _ _ ⟨block_ext hHeld.1.out hEz,block_ext hHeld.2.1.out hEz,Ext.trans hHeld.2.2.out hEz⟩ (fun hHeld=>?_)
   clear hK K hi
   (try simp only [Act.put,List.setIfInBounds_toArray,List.set_cons_zero,List.set_cons_succ])
   have hi:=getopN hO 9 (by decide)
   conv at hi=>rhs;arg 1;whnf
   refine anyE_stepV hO 9 (by kernel_rfl) hi (fun K hK=>?_)
   go_simp
   (go_at_call 17;refine (HSA.out _ a5 c5 a6 c6 (ListAt.ext numC.mono' HR5.out hHeld.2.2.out) HR6.out).mono ?_)
   rintro e wr8 ⟨rfl,hEz⟩
   go_wp2_with fail
   refine hK.out _ _ ⟨block_ext hHeld.1.out hEz,block_ext hHeld.2.1.out hEz,Ext.trans hHeld.2.2.out hEz⟩ (fun hHeld=>?_)
   clear hK K hi
   (try simp only [Act.put,List.setIfInBounds_toArray,List.set_cons_zero,List.set_cons_succ])
   have hi:=getopN hO 10 (by decide)
   conv at hi=>rhs;arg 1;whnf
   refine anyE_takeWV hO (v:=?_) 10 hi (by kernel_rfl) (by kernel_rfl) (by kernel_rfl) (by kernel_rfl) (fun _ _ _ h=>h) (Or.inl ⟨by rfl,?_⟩) (by assumption) ?_
   rotate_left
   ·((intro w');(try go_simp);(try with_reducible rfl))
   clear hi
   (try simp only [Act.put,List.setIfInBounds_toArray,List.set_cons_zero,List.set_cons_succ])
   have hi:=getopN hO 11 (by decide)
   conv at hi=>rhs;arg 1;whnf
   refine anyE_lastV hO 11 (by kernel_rfl) (by kernel_rfl) hi (fun K hK=>?_)
   go_simp
   refine hK.out _ _ hHeld ?_
   clear hK K hi hO
   go_wp2_with fail
   go_ret
   exact ⟨rfl,(HE_U8.out.trans hHeld.2.2.out)⟩
end Go.Proofs.YtjlkkofmojgipaaGreatDoor
