import Derived.Test.YtjlkkofmojgipaaGreatDoorXBA
import Derived.Test.YtjlkkofmojgipaaGreatDoorXBR
import Derived.Test.YtjlkkofmojgipaaGreatDoorXBS
import Derived.Test.YtjlkkofmojgipaaGreatDoorXAV
namespace Go.Proofs.YtjlkkofmojgipaaGreatDoor
set_option linter.unusedVariables false
set_option linter.unusedSimpArgs false
open Go.RowKit
set_option maxRecDepth 100000 in
set_option maxHeartbeats 8000000 in
theorem wprods_walk (n k:Int) (L:List ByteArray) (n' k':Int) (L':List ByteArray) (u v:Value) (w:World) (h:TxtV w u n k L) (h':TxtV w v n' k' L') (hlib:LibT w) (hb:4<w.heap.size) :
  Calls Tryz.prog 8 #[u,v] w fun e w'=>e=.returned (.bool true)∧Ext w w':=by
 have HKN:Hid (∀ W,Ext w W→Calls Tryz.prog 13 #[] W fun e w'=>e=.returned (.bool true)∧Ext W w'):=fun W hW=>known10_any W (hlib.ext hW) (Nat.lt_of_lt_of_le hb hW.size)
 have HT1:=Lib.hid h;have HT2:=Lib.hid h'
 obtain ⟨ua,rfl,hua⟩:=h
 obtain ⟨ub,rfl,hub⟩:=h'
 obtain ⟨a,ca,rfl,a1,a2,-,-⟩:=inCell.open hua
 obtain ⟨b,cb,rfl,b1,b2,-,-⟩:=inCell.open hub
 unfold maxLen at a2 b2
 obtain ⟨ma,hma⟩:∃ m,L.length=m:=⟨_,rfl⟩
 obtain ⟨mb,hmb⟩:∃ m,L'.length=m:=⟨_,rfl⟩
 have HMA:=Lib.hid hma;have HMB:=Lib.hid hmb
 rw [hma] at a1 HT1 ⊢
 rw [hmb] at b1 HT2 ⊢
 have HLIB:=Lib.hid hlib
 obtain ⟨w1,hw1,hE1,hs1,hb1⟩:=boxM w (.int .i64 n) (.int .i64 k) (.slice a ma ca)
 obtain ⟨w2,hw2,hE2,hs2,hb2⟩:=boxM w1 (.int .i64 n') (.int .i64 k') (.slice b mb cb)
 have HB1:=Lib.hid (block_ext hb1 hE2);have HB2:=Lib.hid hb2
 have HE_w2:Hid (Ext w w2):=hE1.trans hE2
 clear hb1 hb2 hE1 hE2 hs2 hs1 hua hub hma hmb hlib hb
 go_enter Tryz.func8,Tryz.ntmps8
 go_wp2_with fail
 refine (HKN.out w2 HE_w2.out).mono ?_
 rintro e w3 ⟨rfl,hE⟩
 have HE_w3:Hid (Ext w w3):=HE_w2.out.trans hE
 have HB1:=Lib.hid (block_ext HB1.out hE);have HB2:=Lib.hid (block_ext HB2.out hE)
 clear hE hw1 hw2
 have s1:=block_cell HB1.out
 by_cases hfw4:fewT n L
 rotate_left
 ·have HC:Hid (∀ W,Ext w W→Calls Tryz.prog 20 #[.agg #[.int .i64 n,.int .i64 k,.slice a ma ca]] W fun e w'=>e=.returned (.bool false)∧Ext W w'):=fun W hW=>by
   have h9:=few10_any n k L _ W (HT1.out.ext hW)
   rw [decide_eq_false hfw4] at h9;exact h9
  clear hfw4
  go_wp2_with fail
  refine (HC.out w3 HE_w3.out).mono ?_
  rintro e v9 ⟨rfl,hE⟩
  have HE_v9:Hid (Ext w v9):=HE_w3.out.trans hE
  clear hE HC s1
  go_wp2_with fail
  refine (HKN.out v9 HE_v9.out).mono ?_
  rintro e w9 ⟨rfl,hE9⟩
  go_wp2_with fail
  go_ret
  exact ⟨rfl,HE_v9.out.trans hE9⟩
 have HC:Hid (∀ W,Ext w W→Calls Tryz.prog 20 #[.agg #[.int .i64 n,.int .i64 k,.slice a ma ca]] W fun e w'=>e=.returned (.bool true)∧Ext W w'):=fun W hW=>by
  have h9:=few10_any n k L _ W (HT1.out.ext hW)
  rw [decide_eq_true hfw4] at h9;exact h9
 have HFw4:=Lib.hid hfw4
 clear hfw4
 go_wp2_with fail
 refine (HC.out w3 HE_w3.out).mono ?_
 rintro e w4 ⟨rfl,hE⟩
 have HE_w4:Hid (Ext w w4):=HE_w3.out.trans hE
 have HB1:=Lib.hid (block_ext HB1.out hE);have HB2:=Lib.hid (block_ext HB2.out hE)
 clear hE HC s1
 have s1:=block_cell HB2.out
 by_cases hfw5:fewT n' L'
 rotate_left
 ·have HC:Hid (∀ W,Ext w W→Calls Tryz.prog 20 #[.agg #[.int .i64 n',.int .i64 k',.slice b mb cb]] W fun e w'=>e=.returned (.bool false)∧Ext W w'):=fun W hW=>by
   have h9:=few10_any n' k' L' _ W (HT2.out.ext hW)
   rw [decide_eq_false hfw5] at h9;exact h9
  clear hfw5
  go_wp2_with fail
  refine (HC.out w4 HE_w4.out).mono ?_
  rintro e v9 ⟨rfl,hE⟩
  have HE_v9:Hid (Ext w v9):=HE_w4.out.trans hE
  clear hE HC s1
  go_wp2_with fail
  refine (HKN.out v9 HE_v9.out).mono ?_
  rintro e w9 ⟨rfl,hE9⟩
  go_wp2_with fail
  go_ret
  exact ⟨rfl,HE_v9.out.trans hE9⟩
 have HC:Hid (∀ W,Ext w W→Calls Tryz.prog 20 #[.agg #[.int .i64 n',.int .i64 k',.slice b mb cb]] W fun e w'=>e=.returned (.bool true)∧Ext W w'):=fun W hW=>by
  have h9:=few10_any n' k' L' _ W (HT2.out.ext hW)
  rw [decide_eq_true hfw5] at h9;exact h9
 have HFw5:=Lib.hid hfw5
 clear hfw5
 go_wp2_with fail
 refine (HC.out w4 HE_w4.out).mono ?_
 rintro e w5 ⟨rfl,hE⟩
 have HE_w5:Hid (Ext w w5):=HE_w4.out.trans hE
 have HB1:=Lib.hid (block_ext HB1.out hE);have HB2:=Lib.hid (block_ext HB2.out hE)
 clear hE HC s1
 have s1:=block_cell HB1.out
 by_cases hfw6:shortT L
 rotate_left
 ·have HC:Hid (∀ W,Ext w W→Calls Tryz.prog 21 #[.agg #[.int .i64 n,.int .i64 k,.slice a ma ca]] W fun e w'=>e=.returned (.bool false)∧Ext W w'):=fun W hW=>by
   have h9:=short10_any n k L _ W (HT1.out.ext hW)
   rw [decide_eq_false hfw6] at h9;exact h9
  clear hfw6
  go_wp2_with fail
  refine (HC.out w5 HE_w5.out).mono ?_
  rintro e v9 ⟨rfl,hE⟩
  have HE_v9:Hid (Ext w v9):=HE_w5.out.trans hE
  clear hE HC s1
  go_wp2_with fail
  refine (HKN.out v9 HE_v9.out).mono ?_
  rintro e w9 ⟨rfl,hE9⟩
  go_wp2_with fail
  go_ret
  exact ⟨rfl,HE_v9.out.trans hE9⟩
 have HC:Hid (∀ W,Ext w W→Calls Tryz.prog 21 #[.agg #[.int .i64 n,.int .i64 k,.slice a ma ca]] W fun e w'=>e=.returned (.bool true)∧Ext W w'):=fun W hW=>by
  have h9:=short10_any n k L _ W (HT1.out.ext hW)
  rw [decide_eq_true hfw6] at h9;exact h9
 have HFw6:=Lib.hid hfw6
 clear hfw6
 go_wp2_with fail
 refine (HC.out w5 HE_w5.out).mono ?_
 rintro e w6 ⟨rfl,hE⟩
 have HE_w6:Hid (Ext w w6):=HE_w5.out.trans hE
 have HB1:=Lib.hid (block_ext HB1.out hE);have HB2:=Lib.hid (block_ext HB2.out hE)
 clear hE HC s1
 have s1:=block_cell HB2.out
 by_cases hfw7:shortT L'
 rotate_left
 ·have HC:Hid (∀ W,Ext w W→Calls Tryz.prog 21 #[.agg #[.int .i64 n',.int .i64 k',.slice b mb cb]] W fun e w'=>e=.returned (.bool false)∧Ext W w'):=fun W hW=>by
   have h9:=short10_any n' k' L' _ W (HT2.out.ext hW)
   rw [decide_eq_false hfw7] at h9;exact h9
  clear hfw7
  go_wp2_with fail
  refine (HC.out w6 HE_w6.out).mono ?_
  rintro e v9 ⟨rfl,hE⟩
  have HE_v9:Hid (Ext w v9):=HE_w6.out.trans hE
  clear hE HC s1
  go_wp2_with fail
  refine (HKN.out v9 HE_v9.out).mono ?_
  rintro e w9 ⟨rfl,hE9⟩
  go_wp2_with fail
  go_ret
  exact ⟨rfl,HE_v9.out.trans hE9⟩
 have HC:Hid (∀ W,Ext w W→Calls Tryz.prog 21 #[.agg #[.int .i64 n',.int .i64 k',.slice b mb cb]] W fun e w'=>e=.returned (.bool true)∧Ext W w'):=fun W hW=>by
  have h9:=short10_any n' k' L' _ W (HT2.out.ext hW)
  rw [decide_eq_true hfw7] at h9;exact h9
 have HFw7:=Lib.hid hfw7
 clear hfw7
 go_wp2_with fail
 refine (HC.out w6 HE_w6.out).mono ?_
 rintro e w7 ⟨rfl,hE⟩
 have HE_w7:Hid (Ext w w7):=HE_w6.out.trans hE
 have HB1:=Lib.hid (block_ext HB1.out hE);have HB2:=Lib.hid (block_ext HB2.out hE)
 clear hE HC s1
 have hZ1:∀ a∈L,a.size≤100000:=fun a ha=>Nat.le_trans (HFw6.out a ha) (by decide)
 have hZ2:∀ a∈L',a.size≤100000:=fun a ha=>Nat.le_trans (HFw7.out a ha) (by decide)
 have HR1:Hid (∀ W,Ext w W→Calls Tryz.prog 22 #[.agg #[.int .i64 n,.int .i64 k,.slice a ma ca]] W fun e w'=>e=.returned (.int .i64 (chkX n k L))∧Ext W w'):=fun W hW=>refChk10_any n k L _ W (HT1.out.ext hW) hZ1
 have HR2:Hid (∀ W,Ext w W→Calls Tryz.prog 22 #[.agg #[.int .i64 n',.int .i64 k',.slice b mb cb]] W fun e w'=>e=.returned (.int .i64 (chkX n' k' L'))∧Ext W w'):=fun W hW=>refChk10_any n' k' L' _ W (HT2.out.ext hW) hZ2
 have HPE0:prodErr n k L n' k' L'≠0→∀ W,Ext w W→Calls Tryz.prog 42 #[.agg #[.int .i64 n,.int .i64 k,.slice a ma ca],.agg #[.int .i64 n',.int .i64 k',.slice b mb cb]] W fun e w'=>e=.returned (.tuple #[noMulti,.int .i64 (prodErr n k L n' k' L')])∧Ext W w':=fun h0 W hW=>prodE_any n k n' k' L L' _ _ W (HT1.out.ext hW) (HT2.out.ext hW) hZ1 hZ2 h0
 clear hZ1 hZ2
 by_cases hA:chkX n k L=0
 rotate_left
 ·have HPE:Hid (∀ W,Ext w W→Calls Tryz.prog 42 #[.agg #[.int .i64 n,.int .i64 k,.slice a ma ca],.agg #[.int .i64 n',.int .i64 k',.slice b mb cb]] W fun e w'=>e=.returned (.tuple #[.agg #[.int .i64 0,.int .i64 0,.slice none 0 0],.int .i64 (chkX n k L)])∧Ext W w'):=by
   have hv:prodErr n k L n' k' L'=chkX n k L:=if_pos hA
   rw [hv] at HPE0;exact HPE0 hA
  obtain ⟨E,hE⟩:∃ E,chkX n k L=E:=⟨_,rfl⟩
  rw [hE] at HPE HR1 hA
  have q1:(E != 0)=true:=bne_iff_ne.2 hA
  have q2:(E == 0)=false:=beq_eq_false_iff_ne.2 hA
  have q3:(E == E)=true:=beq_self_eq_true _
  clear hE HPE0
  have s1:=block_cell HB1.out;have s2:=block_cell HB2.out
  go_wp2_with fail
  clear s1 s2
  refine (HPE.out w7 HE_w7.out).mono ?_
  rintro e v8 ⟨rfl,hE⟩
  have HE_v8:Hid (Ext w v8):=HE_w7.out.trans hE
  have HB1:=Lib.hid (block_ext HB1.out hE);have HB2:=Lib.hid (block_ext HB2.out hE)
  clear hE HPE
  obtain ⟨V5,hV5,hX5,hs5,hb5⟩:=boxM v8 (.int .i64 0) (.int .i64 0) (.slice none 0 0)
  have r0:=block_cell hb5
  have f0:=block_free hb5
  have HB5:=Lib.hid (multi_store hb5 (.int .i64 0) (.int .i64 0) (.slice none 0 0))
  have HX5:=Lib.hid (multi_ext (B:=v8.heap.size) hX5 (Nat.le_refl _) (.int .i64 0) (.int .i64 0) (.slice none 0 0))
  obtain ⟨U5,hU5⟩:∃ U,((V5.setCell ⟨v8.heap.size,0,none⟩ (.int .i64 0)).setCell ⟨v8.heap.size,1,none⟩ (.int .i64 0)).setCell ⟨v8.heap.size,2,none⟩ (.slice none 0 0)=U:=⟨_,rfl⟩
  rw [hU5] at HB5 HX5
  clear hX5 hs5 hb5
  have HE_U5:Hid (Ext w U5):=HE_v8.out.trans HX5.out
  have HB1:=Lib.hid (block_ext HB1.out HX5.out);have HB2:=Lib.hid (block_ext HB2.out HX5.out)
  have s1:=block_cell HB1.out
  go_wp2_with fail
  (try clear hU5 hV5 r0 f0)
  clear s1
  refine (plain10_any _ _ _ _ _ U5).mono ?_
  rintro e vp ⟨rfl,hE⟩
  have HB5:=Lib.hid (block_ext HB5.out hE)
  have HE_vp:Hid (Ext w vp):=HE_U5.out.trans hE
  have HB1:=Lib.hid (block_ext HB1.out hE);have HB2:=Lib.hid (block_ext HB2.out hE)
  clear hE
  go_wp2_with fail
  refine (HR1.out vp HE_vp.out).mono ?_
  rintro e vq ⟨rfl,hE⟩
  have HB5:=Lib.hid (block_ext HB5.out hE)
  have HE_vq:Hid (Ext w vq):=HE_vp.out.trans hE
  have HB1:=Lib.hid (block_ext HB1.out hE);have HB2:=Lib.hid (block_ext HB2.out hE)
  clear hE
  have s5:=block_cell HB5.out
  go_wp2_with fail
  clear s5
  refine (none_yes vq).mono ?_
  rintro e vN ⟨rfl,hE⟩
  have HE_vN:Hid (Ext w vN):=HE_vq.out.trans hE
  clear hE
  go_wp2_with fail
  go_ret
  exact ⟨rfl,HE_vN.out⟩
 by_cases hB:chkX n' k' L'=0
 rotate_left
 ·have HPE:Hid (∀ W,Ext w W→Calls Tryz.prog 42 #[.agg #[.int .i64 n,.int .i64 k,.slice a ma ca],.agg #[.int .i64 n',.int .i64 k',.slice b mb cb]] W fun e w'=>e=.returned (.tuple #[.agg #[.int .i64 0,.int .i64 0,.slice none 0 0],.int .i64 (chkX n' k' L')])∧Ext W w'):=by
   have hv:prodErr n k L n' k' L'=chkX n' k' L':=by unfold prodErr;rw [if_neg (fun e=>e hA),if_pos hB]
   rw [hv] at HPE0;exact HPE0 hB
  obtain ⟨E,hE⟩:∃ E,chkX n' k' L'=E:=⟨_,rfl⟩
  rw [hE] at HPE HR2 hB
  rw [hA] at HR1
  have q1:(E != 0)=true:=bne_iff_ne.2 hB
  have q2:(E == 0)=false:=beq_eq_false_iff_ne.2 hB
  have q3:(E == E)=true:=beq_self_eq_true _
  clear hE HPE0 hA
  have s1:=block_cell HB1.out;have s2:=block_cell HB2.out
  go_wp2_with fail
  clear s1 s2
  refine (HPE.out w7 HE_w7.out).mono ?_
  rintro e v8 ⟨rfl,hE⟩
  have HE_v8:Hid (Ext w v8):=HE_w7.out.trans hE
  have HB1:=Lib.hid (block_ext HB1.out hE);have HB2:=Lib.hid (block_ext HB2.out hE)
  clear hE HPE
  obtain ⟨V5,hV5,hX5,hs5,hb5⟩:=boxM v8 (.int .i64 0) (.int .i64 0) (.slice none 0 0)
  have r0:=block_cell hb5
  have f0:=block_free hb5
  have HB5:=Lib.hid (multi_store hb5 (.int .i64 0) (.int .i64 0) (.slice none 0 0))
  have HX5:=Lib.hid (multi_ext (B:=v8.heap.size) hX5 (Nat.le_refl _) (.int .i64 0) (.int .i64 0) (.slice none 0 0))
  obtain ⟨U5,hU5⟩:∃ U,((V5.setCell ⟨v8.heap.size,0,none⟩ (.int .i64 0)).setCell ⟨v8.heap.size,1,none⟩ (.int .i64 0)).setCell ⟨v8.heap.size,2,none⟩ (.slice none 0 0)=U:=⟨_,rfl⟩
  rw [hU5] at HB5 HX5
  clear hX5 hs5 hb5
  have HE_U5:Hid (Ext w U5):=HE_v8.out.trans HX5.out
  have HB1:=Lib.hid (block_ext HB1.out HX5.out);have HB2:=Lib.hid (block_ext HB2.out HX5.out)
  have s1:=block_cell HB1.out
  go_wp2_with fail
  (try clear hU5 hV5 r0 f0)
  clear s1
  refine (plain10_any _ _ _ _ _ U5).mono ?_
  rintro e vp ⟨rfl,hE⟩
  have HB5:=Lib.hid (block_ext HB5.out hE)
  have HE_vp:Hid (Ext w vp):=HE_U5.out.trans hE
  have HB1:=Lib.hid (block_ext HB1.out hE);have HB2:=Lib.hid (block_ext HB2.out hE)
  clear hE
  go_wp2_with fail
  refine (HR1.out vp HE_vp.out).mono ?_
  rintro e vq ⟨rfl,hE⟩
  have HB5:=Lib.hid (block_ext HB5.out hE)
  have HE_vq:Hid (Ext w vq):=HE_vp.out.trans hE
  have HB1:=Lib.hid (block_ext HB1.out hE);have HB2:=Lib.hid (block_ext HB2.out hE)
  clear hE
  have s1:=block_cell HB2.out
  go_wp2_with fail
  (try clear hU5 hV5 r0 f0)
  clear s1
  refine (plain10_any _ _ _ _ _ vq).mono ?_
  rintro e vr ⟨rfl,hE⟩
  have HB5:=Lib.hid (block_ext HB5.out hE)
  have HE_vr:Hid (Ext w vr):=HE_vq.out.trans hE
  have HB1:=Lib.hid (block_ext HB1.out hE);have HB2:=Lib.hid (block_ext HB2.out hE)
  clear hE
  go_wp2_with fail
  refine (HR2.out vr HE_vr.out).mono ?_
  rintro e vs ⟨rfl,hE⟩
  have HB5:=Lib.hid (block_ext HB5.out hE)
  have HE_vs:Hid (Ext w vs):=HE_vr.out.trans hE
  have HB1:=Lib.hid (block_ext HB1.out hE);have HB2:=Lib.hid (block_ext HB2.out hE)
  clear hE
  have s5:=block_cell HB5.out
  go_wp2_with fail
  clear s5
  refine (none_yes vs).mono ?_
  rintro e vN ⟨rfl,hE⟩
  have HE_vN:Hid (Ext w vN):=HE_vs.out.trans hE
  clear hE
  go_wp2_with fail
  go_ret
  exact ⟨rfl,HE_vN.out⟩
 obtain ⟨N,K,X,rfl,rfl,hN,hK,hX,hXl,hX4,hXs⟩:=chkX_zero hA
 obtain ⟨N',K',Y,rfl,rfl,hN',hK',hY,hYl,hY4,hYs⟩:=chkX_zero hB
 have e1:IntKind.i64.wrap ((K:Int)+(K':Int))=(K:Int)+(K':Int):=by rw [IntKind.wrap_i64];omega
 by_cases hn:N'=N
 rotate_left
 ·have HPE:Hid (∀ W,Ext w W→Calls Tryz.prog 42 #[.agg #[.int .i64 N,.int .i64 K,.slice a ma ca],.agg #[.int .i64 N',.int .i64 K',.slice b mb cb]] W fun e w'=>e=.returned (.tuple #[.agg #[.int .i64 0,.int .i64 0,.slice none 0 0],.int .i64 5])∧Ext W w'):=by
   have hv:prodErr N K L N' K' L'=5:=by unfold prodErr;rw [if_neg (fun e=>e hA),if_neg (fun e=>e hB),if_pos (by omega)]
   rw [hv] at HPE0;exact HPE0 (by decide)
  rw [hA] at HR1
  rw [hB] at HR2
  have q1:((N:Int) != (N':Int))=true:=bne_iff_ne.2 (by omega)
  clear HPE0 hA hB hN hK hX hXl hX4 hXs hN' hK' hY hYl hY4 hYs hn
  have s1:=block_cell HB1.out;have s2:=block_cell HB2.out
  go_wp2_with fail
  clear s1 s2
  refine (HPE.out w7 HE_w7.out).mono ?_
  rintro e v8 ⟨rfl,hE⟩
  have HE_v8:Hid (Ext w v8):=HE_w7.out.trans hE
  have HB1:=Lib.hid (block_ext HB1.out hE);have HB2:=Lib.hid (block_ext HB2.out hE)
  clear hE HPE
  obtain ⟨V5,hV5,hX5,hs5,hb5⟩:=boxM v8 (.int .i64 0) (.int .i64 0) (.slice none 0 0)
  have r0:=block_cell hb5
  have f0:=block_free hb5
  have HB5:=Lib.hid (multi_store hb5 (.int .i64 0) (.int .i64 0) (.slice none 0 0))
  have HX5:=Lib.hid (multi_ext (B:=v8.heap.size) hX5 (Nat.le_refl _) (.int .i64 0) (.int .i64 0) (.slice none 0 0))
  obtain ⟨U5,hU5⟩:∃ U,((V5.setCell ⟨v8.heap.size,0,none⟩ (.int .i64 0)).setCell ⟨v8.heap.size,1,none⟩ (.int .i64 0)).setCell ⟨v8.heap.size,2,none⟩ (.slice none 0 0)=U:=⟨_,rfl⟩
  rw [hU5] at HB5 HX5
  clear hX5 hs5 hb5
  have HE_U5:Hid (Ext w U5):=HE_v8.out.trans HX5.out
  have HB1:=Lib.hid (block_ext HB1.out HX5.out);have HB2:=Lib.hid (block_ext HB2.out HX5.out)
  have s1:=block_cell HB1.out
  go_wp2_with fail
  (try clear hU5 hV5 r0 f0)
  clear s1
  refine (plain10_any _ _ _ _ _ U5).mono ?_
  rintro e vp ⟨rfl,hE⟩
  have HB5:=Lib.hid (block_ext HB5.out hE)
  have HE_vp:Hid (Ext w vp):=HE_U5.out.trans hE
  have HB1:=Lib.hid (block_ext HB1.out hE);have HB2:=Lib.hid (block_ext HB2.out hE)
  clear hE
  go_wp2_with fail
  refine (HR1.out vp HE_vp.out).mono ?_
  rintro e vq ⟨rfl,hE⟩
  have HB5:=Lib.hid (block_ext HB5.out hE)
  have HE_vq:Hid (Ext w vq):=HE_vp.out.trans hE
  have HB1:=Lib.hid (block_ext HB1.out hE);have HB2:=Lib.hid (block_ext HB2.out hE)
  clear hE
  have s1:=block_cell HB2.out
  go_wp2_with fail
  (try clear hU5 hV5 r0 f0)
  clear s1
  refine (plain10_any _ _ _ _ _ vq).mono ?_
  rintro e vr ⟨rfl,hE⟩
  have HB5:=Lib.hid (block_ext HB5.out hE)
  have HE_vr:Hid (Ext w vr):=HE_vq.out.trans hE
  have HB1:=Lib.hid (block_ext HB1.out hE);have HB2:=Lib.hid (block_ext HB2.out hE)
  clear hE
  go_wp2_with fail
  refine (HR2.out vr HE_vr.out).mono ?_
  rintro e vs ⟨rfl,hE⟩
  have HB5:=Lib.hid (block_ext HB5.out hE)
  have HE_vs:Hid (Ext w vs):=HE_vr.out.trans hE
  have HB1:=Lib.hid (block_ext HB1.out hE);have HB2:=Lib.hid (block_ext HB2.out hE)
  clear hE
  have d0:=block_cell HB1.out 0;have d1:=block_cell HB2.out 0;have d2:=block_cell HB1.out 1;have d3:=block_cell HB2.out 1
  simp only [List.getElem?_toArray,List.getElem?_cons_succ,List.getElem?_cons_zero] at d0 d1 d2 d3
  have s5:=block_cell HB5.out
  go_wp2_with fail
  clear s5
  refine (none_yes vs).mono ?_
  rintro e vN ⟨rfl,hE⟩
  have HE_vN:Hid (Ext w vN):=HE_vs.out.trans hE
  clear hE
  go_wp2_with fail
  go_ret
  exact ⟨rfl,HE_vN.out⟩
 obtain rfl:=hn.symm
 by_cases hk:N<K+K'
 ·have HPE:Hid (∀ W,Ext w W→Calls Tryz.prog 42 #[.agg #[.int .i64 N,.int .i64 K,.slice a ma ca],.agg #[.int .i64 N,.int .i64 K',.slice b mb cb]] W fun e w'=>e=.returned (.tuple #[.agg #[.int .i64 0,.int .i64 0,.slice none 0 0],.int .i64 3])∧Ext W w'):=by
   have hv:prodErr N K L N K' L'=3:=by unfold prodErr;rw [if_neg (fun e=>e hA),if_neg (fun e=>e hB),if_neg (fun e=>e rfl),if_pos (by omega)]
   rw [hv] at HPE0;exact HPE0 (by decide)
  rw [hA] at HR1
  rw [hB] at HR2
  have q1:((N:Int) != (N:Int))=false:=bne_self_eq_false _
  have q2:(N:Int)<(K:Int)+(K':Int):=by omega
  clear HPE0 hA hB hN hK hX hXl hX4 hXs hN' hK' hY hYl hY4 hYs hn hk
  have s1:=block_cell HB1.out;have s2:=block_cell HB2.out
  go_wp2_with fail
  clear s1 s2
  refine (HPE.out w7 HE_w7.out).mono ?_
  rintro e v8 ⟨rfl,hE⟩
  have HE_v8:Hid (Ext w v8):=HE_w7.out.trans hE
  have HB1:=Lib.hid (block_ext HB1.out hE);have HB2:=Lib.hid (block_ext HB2.out hE)
  clear hE HPE
  obtain ⟨V5,hV5,hX5,hs5,hb5⟩:=boxM v8 (.int .i64 0) (.int .i64 0) (.slice none 0 0)
  have r0:=block_cell hb5
  have f0:=block_free hb5
  have HB5:=Lib.hid (multi_store hb5 (.int .i64 0) (.int .i64 0) (.slice none 0 0))
  have HX5:=Lib.hid (multi_ext (B:=v8.heap.size) hX5 (Nat.le_refl _) (.int .i64 0) (.int .i64 0) (.slice none 0 0))
  obtain ⟨U5,hU5⟩:∃ U,((V5.setCell ⟨v8.heap.size,0,none⟩ (.int .i64 0)).setCell ⟨v8.heap.size,1,none⟩ (.int .i64 0)).setCell ⟨v8.heap.size,2,none⟩ (.slice none 0 0)=U:=⟨_,rfl⟩
  rw [hU5] at HB5 HX5
  clear hX5 hs5 hb5
  have HE_U5:Hid (Ext w U5):=HE_v8.out.trans HX5.out
  have HB1:=Lib.hid (block_ext HB1.out HX5.out);have HB2:=Lib.hid (block_ext HB2.out HX5.out)
  have s1:=block_cell HB1.out
  go_wp2_with fail
  (try clear hU5 hV5 r0 f0)
  clear s1
  refine (plain10_any _ _ _ _ _ U5).mono ?_
  rintro e vp ⟨rfl,hE⟩
  have HB5:=Lib.hid (block_ext HB5.out hE)
  have HE_vp:Hid (Ext w vp):=HE_U5.out.trans hE
  have HB1:=Lib.hid (block_ext HB1.out hE);have HB2:=Lib.hid (block_ext HB2.out hE)
  clear hE
  go_wp2_with fail
  refine (HR1.out vp HE_vp.out).mono ?_
  rintro e vq ⟨rfl,hE⟩
  have HB5:=Lib.hid (block_ext HB5.out hE)
  have HE_vq:Hid (Ext w vq):=HE_vp.out.trans hE
  have HB1:=Lib.hid (block_ext HB1.out hE);have HB2:=Lib.hid (block_ext HB2.out hE)
  clear hE
  have s1:=block_cell HB2.out
  go_wp2_with fail
  (try clear hU5 hV5 r0 f0)
  clear s1
  refine (plain10_any _ _ _ _ _ vq).mono ?_
  rintro e vr ⟨rfl,hE⟩
  have HB5:=Lib.hid (block_ext HB5.out hE)
  have HE_vr:Hid (Ext w vr):=HE_vq.out.trans hE
  have HB1:=Lib.hid (block_ext HB1.out hE);have HB2:=Lib.hid (block_ext HB2.out hE)
  clear hE
  go_wp2_with fail
  refine (HR2.out vr HE_vr.out).mono ?_
  rintro e vs ⟨rfl,hE⟩
  have HB5:=Lib.hid (block_ext HB5.out hE)
  have HE_vs:Hid (Ext w vs):=HE_vr.out.trans hE
  have HB1:=Lib.hid (block_ext HB1.out hE);have HB2:=Lib.hid (block_ext HB2.out hE)
  clear hE
  have d0:=block_cell HB1.out 0;have d1:=block_cell HB2.out 0;have d2:=block_cell HB1.out 1;have d3:=block_cell HB2.out 1
  simp only [List.getElem?_toArray,List.getElem?_cons_succ,List.getElem?_cons_zero] at d0 d1 d2 d3
  have s5:=block_cell HB5.out
  go_wp2_with fail
  clear s5
  refine (none_yes vs).mono ?_
  rintro e vN ⟨rfl,hE⟩
  have HE_vN:Hid (Ext w vN):=HE_vs.out.trans hE
  clear hE
  go_wp2_with fail
  go_ret
  exact ⟨rfl,HE_vN.out⟩
 have hN5:N<5:=by
  have h9:=HFw4.out.1;omega
 have hRX:RightM N K X:=⟨by omega,hK,hXl,hX4⟩
 have hRY:RightM N K' Y:=⟨by omega,hK',hYl,hY4⟩
 obtain ⟨g,hg⟩:∃ g,K+K'=g:=⟨_,rfl⟩
 obtain ⟨D,hD⟩:∃ D,prodL N K K' X Y=D:=⟨_,rfl⟩
 obtain ⟨z,hz⟩:∃ z,D.length=z:=⟨_,rfl⟩
 have HM1:Hid (∀ W,Ext w W→MultiV W (.agg #[.int .i64 N,.int .i64 K,.slice a ma ca]) N K X):=fun W hW=>⟨_,rfl,txts_nums (by rw [← hX];exact txt_list (HT1.out.ext hW))⟩
 have HM2:Hid (∀ W,Ext w W→MultiV W (.agg #[.int .i64 N,.int .i64 K',.slice b mb cb]) N K' Y):=fun W hW=>⟨_,rfl,txts_nums (by rw [← hY];exact txt_list (HT2.out.ext hW))⟩
 have HPO:Hid (∀ W,Ext w W→Calls Tryz.prog 42 #[.agg #[.int .i64 N,.int .i64 K,.slice a ma ca],.agg #[.int .i64 N,.int .i64 K',.slice b mb cb]] W fun e w'=>∃ a5 c5,e=.returned (.tuple #[.agg #[.int .i64 N,.int .i64 g,.slice a5 z c5],.int .i64 0])∧ListAt 1 numC w' (.slice a5 z c5) D∧Ext W w'):=fun W hW=>by
  refine (prodM_any (by omega) hRX hRY (by omega) _ _ W (HM1.out W hW) (HM2.out W hW) (HLIB.out.pow.ext hW)).mono fun e w' ⟨y,h1,h2,h3⟩=>?_
  obtain ⟨a5,c5,rfl,h4⟩:=multi_open h3
  rw [hD,hz] at h4
  rw [hD,hz,hg] at h1
  exact ⟨a5,c5,h1,h4,h2⟩
 have HRO:Hid (∀ W,Ext w W→Calls Tryz.prog 43 #[.agg #[.int .i64 N,.int .i64 K,.slice a ma ca],.agg #[.int .i64 N,.int .i64 K',.slice b mb cb]] W fun e w'=>∃ a5 c5,e=.returned (.agg #[.int .i64 N,.int .i64 g,.slice a5 z c5])∧ListAt 1 numC w' (.slice a5 z c5) D∧Ext W w'):=fun W hW=>by
  refine (refProd10_any (by omega) hRX hRY (by omega) _ _ W (HM1.out W hW) (HM2.out W hW) (HLIB.out.pow.ext hW)).mono fun e w' ⟨y,h1,h2,h3⟩=>?_
  obtain ⟨a5,c5,rfl,h4⟩:=multi_open h3
  rw [hD,hz] at h4
  rw [hD,hz,hg] at h1
  exact ⟨a5,c5,h1,h4,h2⟩
 have HSA:Hid (∀ W a5 c5 a6 c6,ListAt 1 numC W (.slice a5 z c5) D→ListAt 1 numC W (.slice a6 z c6) D→Calls Tryz.prog 17 #[.agg #[.int .i64 N,.int .i64 g,.slice a5 z c5],.agg #[.int .i64 N,.int .i64 g,.slice a6 z c6]] W fun e w'=>e=.returned (.bool true)∧Ext W w'):=fun W a5 c5 a6 c6 h1 h2=>by
  have h9:=sameM_any N g D N g D _ _ W ⟨_,rfl,h1⟩ ⟨_,rfl,h2⟩
  rw [show equalM N g D N g D=true by unfold equalM;simp] at h9
  exact h9
 rw [hA] at HR1
 rw [hB] at HR2
 have q1:((N:Int) != (N:Int))=false:=bne_self_eq_false _
 have q2:¬ (N:Int)<(K:Int)+(K':Int):=by omega
 clear HPE0 hA hB hN hK hX hXl hX4 hXs hN' hK' hY hYl hY4 hYs hn hk hRX hRY hg hD hz hN5 HFw4 HFw5 HFw6 HFw7 HKN
 have s1:=block_cell HB1.out;have s2:=block_cell HB2.out
 go_wp2_with fail
 clear s1 s2
 refine (HPO.out w7 HE_w7.out).mono ?_
 rintro e v8 ⟨a5,c5,rfl,hR,hE⟩
 have HR5:=Lib.hid hR
 have HE_v8:Hid (Ext w v8):=HE_w7.out.trans hE
 have HB1:=Lib.hid (block_ext HB1.out hE);have HB2:=Lib.hid (block_ext HB2.out hE)
 clear hE hR HPO
 obtain ⟨V5,hV5,hX5,hs5,hb5⟩:=boxM v8 (.int .i64 0) (.int .i64 0) (.slice none 0 0)
 have r0:=block_cell hb5
 have f0:=block_free hb5
 have HB5:=Lib.hid (multi_store hb5 (.int .i64 N) (.int .i64 g) (.slice a5 z c5))
 have HX5:=Lib.hid (multi_ext (B:=v8.heap.size) hX5 (Nat.le_refl _) (.int .i64 N) (.int .i64 g) (.slice a5 z c5))
 obtain ⟨U5,hU5⟩:∃ U,((V5.setCell ⟨v8.heap.size,0,none⟩ (.int .i64 N)).setCell ⟨v8.heap.size,1,none⟩ (.int .i64 g)).setCell ⟨v8.heap.size,2,none⟩ (.slice a5 z c5)=U:=⟨_,rfl⟩
 rw [hU5] at HB5 HX5
 clear hX5 hs5 hb5
 have HR5:=Lib.hid (ListAt.ext numC.mono' HR5.out HX5.out)
 have HXU:Hid (Ext U5 U5):=Ext.refl _
 have HE_U5:Hid (Ext w U5):=HE_v8.out.trans HX5.out
 have HB1:=Lib.hid (block_ext HB1.out HX5.out);have HB2:=Lib.hid (block_ext HB2.out HX5.out)
 have s1:=block_cell HB1.out
 go_wp2_with fail
 (try clear hU5 hV5 r0 f0)
 clear s1
 refine (plain10_any _ _ _ _ _ U5).mono ?_
 rintro e vp ⟨rfl,hE⟩
 have HB5:=Lib.hid (block_ext HB5.out hE)
 have HR5:=Lib.hid (ListAt.ext numC.mono' HR5.out hE)
 have HE_vp:Hid (Ext w vp):=HE_U5.out.trans hE
 have HB1:=Lib.hid (block_ext HB1.out hE);have HB2:=Lib.hid (block_ext HB2.out hE)
 clear hE
 go_wp2_with fail
 refine (HR1.out vp HE_vp.out).mono ?_
 rintro e vq ⟨rfl,hE⟩
 have HB5:=Lib.hid (block_ext HB5.out hE)
 have HR5:=Lib.hid (ListAt.ext numC.mono' HR5.out hE)
 have HE_vq:Hid (Ext w vq):=HE_vp.out.trans hE
 have HB1:=Lib.hid (block_ext HB1.out hE);have HB2:=Lib.hid (block_ext HB2.out hE)
 clear hE
 have s1:=block_cell HB2.out
 go_wp2_with fail
 (try clear hU5 hV5 r0 f0)
 clear s1
 refine (plain10_any _ _ _ _ _ vq).mono ?_
 rintro e vr ⟨rfl,hE⟩
 have HB5:=Lib.hid (block_ext HB5.out hE)
 have HR5:=Lib.hid (ListAt.ext numC.mono' HR5.out hE)
 have HE_vr:Hid (Ext w vr):=HE_vq.out.trans hE
 have HB1:=Lib.hid (block_ext HB1.out hE);have HB2:=Lib.hid (block_ext HB2.out hE)
 clear hE
 go_wp2_with fail
 refine (HR2.out vr HE_vr.out).mono ?_
 rintro e vs ⟨rfl,hE⟩
 have HB5:=Lib.hid (block_ext HB5.out hE)
 have HR5:=Lib.hid (ListAt.ext numC.mono' HR5.out hE)
 have HE_vs:Hid (Ext w vs):=HE_vr.out.trans hE
 have HB1:=Lib.hid (block_ext HB1.out hE);have HB2:=Lib.hid (block_ext HB2.out hE)
 clear hE
 have d0:=block_cell HB1.out 0;have d1:=block_cell HB2.out 0;have d2:=block_cell HB1.out 1;have d3:=block_cell HB2.out 1
 simp only [List.getElem?_toArray,List.getElem?_cons_succ,List.getElem?_cons_zero] at d0 d1 d2 d3
 go_upto_region 14 with fail
 clear d0 d1 d2 d3 HXU
 refine region_anyEV (fun w'=>Hid (w'.heap[v8.heap.size]?=some (.cells #[.int .i64 N,.int .i64 g,.slice a5 z c5] 31 (0,0)))∧Hid (w'.heap[w.heap.size]?=some (.cells #[.int .i64 N,.int .i64 K,.slice a ma ca] 31 (0,0)))∧Hid (w'.heap[w1.heap.size]?=some (.cells #[.int .i64 N,.int .i64 K',.slice b mb cb] 31 (0,0)))∧Hid (Ext vs w')) 13 13 (by kernel_rfl) (by kernel_rfl) ⟨block_ext HB5.out (Ext.drew vs),block_ext HB1.out (Ext.drew vs),block_ext HB2.out (Ext.drew vs),Ext.drew vs⟩ (fun ops hO hHeld=>?_)
 have hi:=getopN hO 0 (by decide)
 conv at hi=>rhs;arg 1;whnf
 refine tX hO (v:=?_) 0 hi (Or.inl ⟨by rfl,?_⟩) ?_
 rotate_left
 ·((intro w');(try go_simp);(try with_reducible rfl))
 clear hi
 (try simp only [Act.put,sx1,sx2,sx3])
 have hi:=getopN hO 1 (by decide)
 conv at hi=>rhs;arg 1;whnf
 refine tX hO (v:=?_) 1 hi (Or.inl ⟨by rfl,?_⟩) ?_
 rotate_left
 ·((intro w');(try go_simp);(try with_reducible rfl))
 clear hi
 (try simp only [Act.put,sx1,sx2,sx3])
 have hi:=getopN hO 2 (by decide)
 conv at hi=>rhs;arg 1;whnf
 refine tX hO (v:=?_) 2 hi (Or.inl ⟨by rfl,?_⟩) ?_
 rotate_left
 ·((intro w');(try go_simp);(try with_reducible rfl))
 clear hi
 (try simp only [Act.put,sx1,sx2,sx3])
 have hi:=getopN hO 3 (by decide)
 conv at hi=>rhs;arg 1;whnf
 refine tY hO (v:=?_) 3 hi (Or.inl ⟨by rfl,?_⟩) ?_
 rotate_left
 ·((intro w' hSw);(try dsimp only at hSw);have sb:=block_cell hSw.1.out;have sc:=block_cell hSw.2.1.out;have sd:=block_cell hSw.2.2.1.out;(try go_simp);(try with_reducible rfl))
 clear hi
 (try simp only [Act.put,sx1,sx2,sx3])
 have hi:=getopN hO 4 (by decide)
 conv at hi=>rhs;arg 1;whnf
 refine tY hO (v:=?_) 4 hi (Or.inl ⟨by rfl,?_⟩) ?_
 rotate_left
 ·((intro w' hSw);(try dsimp only at hSw);have sb:=block_cell hSw.1.out;have sc:=block_cell hSw.2.1.out;have sd:=block_cell hSw.2.2.1.out;(try go_simp);(try with_reducible rfl))
 clear hi
 (try simp only [Act.put,sx1,sx2,sx3])
 have hi:=getopN hO 6 (by decide)
 conv at hi=>rhs;arg 1;whnf
 refine tY hO (v:=?_) 6 hi (Or.inl ⟨by rfl,?_⟩) ?_
 rotate_left
 ·((intro w' hSw);(try dsimp only at hSw);have sb:=block_cell hSw.1.out;have sc:=block_cell hSw.2.1.out;have sd:=block_cell hSw.2.2.1.out;(try go_simp);(try with_reducible rfl))
 clear hi
 (try simp only [Act.put,sx1,sx2,sx3])
 have hi:=getopN hO 5 (by decide)
 conv at hi=>rhs;arg 1;whnf
 refine anyE_stepV hO 5 (by kernel_rfl) hi (fun K hK=>?_)
 go_simp
 (go_at_call 23;refine (plain10_any _ _ _ _ _ _).mono ?_)
 rintro e wz ⟨rfl,hEz⟩
 go_wp2_with fail
 refine hK.out _ _ ⟨block_ext hHeld.1.out hEz,block_ext hHeld.2.1.out hEz,block_ext hHeld.2.2.1.out hEz,Ext.trans hHeld.2.2.2.out hEz⟩ (fun hHeld=>?_)
 clear hK K hi
 (try simp only [Act.put,sx1,sx2,sx3])
 have hi:=getopN hO 7 (by decide)
 conv at hi=>rhs;arg 1;whnf
 refine anyE_stepV hO 7 (by kernel_rfl) hi (fun K hK=>?_)
 go_simp
 (go_at_call 23;refine (plain10_any _ _ _ _ _ _).mono ?_)
 rintro e wz ⟨rfl,hEz⟩
 go_wp2_with fail
 refine hK.out _ _ ⟨block_ext hHeld.1.out hEz,block_ext hHeld.2.1.out hEz,block_ext hHeld.2.2.1.out hEz,Ext.trans hHeld.2.2.2.out hEz⟩ (fun hHeld=>?_)
 clear hK K hi
 (try simp only [Act.put,sx1,sx2,sx3])
 have hi:=getopN hO 8 (by decide)
 conv at hi=>rhs;arg 1;whnf
 refine anyE_stepV hO 8 (by kernel_rfl) hi (fun K hK=>?_)
 go_simp
 (go_at_call 43;refine (HRO.out _ (HE_vs.out.trans hHeld.2.2.2.out)).mono ?_)
 rintro e wr6 ⟨a6,c6,rfl,hR6,hEz⟩
 have HR6:=Lib.hid hR6
 clear hR6
 go_wp2_with fail
 refine hK.out _ _ ⟨block_ext hHeld.1.out hEz,block_ext hHeld.2.1.out hEz,block_ext hHeld.2.2.1.out hEz,Ext.trans hHeld.2.2.2.out hEz⟩ (fun hHeld=>?_)
 clear hK K hi
 (try simp only [Act.put,sx1,sx2,sx3])
 have hi:=getopN hO 9 (by decide)
 conv at hi=>rhs;arg 1;whnf
 refine anyE_stepV hO 9 (by kernel_rfl) hi (fun K hK=>?_)
 go_simp
 (go_at_call 18;refine (multi10_any _ _ _ _ _ _).mono ?_)
 rintro e wr7 ⟨rfl,hEz⟩
 have HR6:=Lib.hid (ListAt.ext numC.mono' HR6.out hEz)
 go_wp2_with fail
 refine hK.out _ _ ⟨block_ext hHeld.1.out hEz,block_ext hHeld.2.1.out hEz,block_ext hHeld.2.2.1.out hEz,Ext.trans hHeld.2.2.2.out hEz⟩ (fun hHeld=>?_)
 clear hK K hi
 (try simp only [Act.put,sx1,sx2,sx3])
 have hi:=getopN hO 10 (by decide)
 conv at hi=>rhs;arg 1;whnf
 refine anyE_stepV hO 10 (by kernel_rfl) hi (fun K hK=>?_)
 go_simp
 (go_at_call 17;refine (HSA.out _ a5 c5 a6 c6 (ListAt.ext numC.mono' HR5.out hHeld.2.2.2.out) HR6.out).mono ?_)
 rintro e wr8 ⟨rfl,hEz⟩
 go_wp2_with fail
 refine hK.out _ _ ⟨block_ext hHeld.1.out hEz,block_ext hHeld.2.1.out hEz,block_ext hHeld.2.2.1.out hEz,Ext.trans hHeld.2.2.2.out hEz⟩ (fun hHeld=>?_)
 clear hK K hi
 (try simp only [Act.put,sx1,sx2,sx3])
 have hi:=getopN hO 11 (by decide)
 conv at hi=>rhs;arg 1;whnf
 refine tX hO (v:=?_) 11 hi (Or.inl ⟨by rfl,?_⟩) ?_
 rotate_left
 ·((intro w');(try go_simp);(try with_reducible rfl))
 clear hi
 (try simp only [Act.put,sx1,sx2,sx3])
 have hi:=getopN hO 12 (by decide)
 conv at hi=>rhs;arg 1;whnf
 refine anyE_lastV hO 12 (by kernel_rfl) (by kernel_rfl) hi (fun K hK=>?_)
 go_simp
 refine hK.out _ _ hHeld ?_
 clear hK K hi hO
 go_wp2_with fail
 go_ret
 exact ⟨rfl,(HE_vs.out.trans hHeld.2.2.2.out)⟩
end Go.Proofs.YtjlkkofmojgipaaGreatDoor
