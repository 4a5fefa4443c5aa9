import Derived.Test.YtjlkkofmojgipaaGreatDoorTBO
import Derived.Test.YtjlkkofmojgipaaGreatDoorTBP
import Derived.Test.YtjlkkofmojgipaaGreatDoorTBQ
import Derived.Test.YtjlkkofmojgipaaGreatDoorTBR
import Derived.Test.YtjlkkofmojgipaaGreatDoorTBS
import Derived.Test.YtjlkkofmojgipaaGreatDoorTBE
import Derived.Test.YtjlkkofmojgipaaGreatDoorTAV
import Derived.Test.YtjlkkofmojgipaaGreatDoorRows
import Derived.WalkKit
import Derived.ProofKit
import Derived.OpenShut
import Derived.Test.YtjlkkofmojgipaaGreatDoorTAA
import Derived.ChangeSlices
namespace Go.Proofs.YtjlkkofmojgipaaGreatDoor
set_option linter.unusedVariables false
set_option linter.unusedSimpArgs false
open Go.RowKit
set_option maxRecDepth 100000 in
set_option maxHeartbeats 8000000 in
theorem wforms_walk (n k:Int) (L:List ByteArray) (u:Value) (w:World) (h:TxtV w u n k L) (hlib:LibT w) (hb:4<w.heap.size) :
  Calls Tryz.prog 9 #[u] w fun e w'=>e=.returned (.bool true)∧Ext w w':=by
 have HKN:Hid (∀ W,Ext w W→Calls Tryz.prog 13 #[] W fun e w'=>e=.returned (.bool true)∧Ext W w'):=fun W hW=>known10_any W (hlib.ext hW) (Nat.lt_of_lt_of_le hb hW.size)
 have HT1:=Lib.hid h
 obtain ⟨ua,rfl,hua⟩:=h
 obtain ⟨a,ca,rfl,a1,a2,-,-⟩:=inCell.open hua
 unfold maxLen at a2
 obtain ⟨ma,hma⟩:∃ m,L.length=m:=⟨_,rfl⟩
 have HMA:=Lib.hid hma
 rw [hma] at a1 HT1 ⊢
 have HLIB:=Lib.hid hlib
 obtain ⟨w1,hw1,hE1,hs1,hb1⟩:=boxM w (.int .i64 n) (.int .i64 k) (.slice a ma ca)
 have HB1:=Lib.hid hb1
 have HE_w1:Hid (Ext w w1):=hE1
 clear hb1 hE1 hs1 hua hma hlib hb
 go_enter Tryz.func9,Tryz.ntmps9
 go_wp2_with fail
 refine (HKN.out w1 HE_w1.out).mono ?_
 rintro e w3 ⟨rfl,hE⟩
 have HE_w3:Hid (Ext w w3):=HE_w1.out.trans hE
 have HB1:=Lib.hid (block_ext HB1.out hE)
 clear hE hw1
 have s1:=block_cell HB1.out
 by_cases hfw4:fewT n L
 rotate_left
 ·have HC:Hid (∀ W,Ext w W→Calls Tryz.prog 20 #[.agg #[.int .i64 n,.int .i64 k,.slice a ma ca]] W fun e w'=>e=.returned (.bool false)∧Ext W w'):=fun W hW=>by
   have h9:=few10_any n k L _ W (HT1.out.ext hW)
   rw [decide_eq_false hfw4] at h9;exact h9
  clear hfw4
  go_wp2_with fail
  refine (HC.out w3 HE_w3.out).mono ?_
  rintro e v9 ⟨rfl,hE⟩
  have HE_v9:Hid (Ext w v9):=HE_w3.out.trans hE
  clear hE HC s1
  go_wp2_with fail
  refine (HKN.out v9 HE_v9.out).mono ?_
  rintro e w9 ⟨rfl,hE9⟩
  go_wp2_with fail
  go_ret
  exact ⟨rfl,HE_v9.out.trans hE9⟩
 have HC:Hid (∀ W,Ext w W→Calls Tryz.prog 20 #[.agg #[.int .i64 n,.int .i64 k,.slice a ma ca]] W fun e w'=>e=.returned (.bool true)∧Ext W w'):=fun W hW=>by
  have h9:=few10_any n k L _ W (HT1.out.ext hW)
  rw [decide_eq_true hfw4] at h9;exact h9
 have HFw4:=Lib.hid hfw4
 clear hfw4
 go_wp2_with fail
 refine (HC.out w3 HE_w3.out).mono ?_
 rintro e w4 ⟨rfl,hE⟩
 have HE_w4:Hid (Ext w w4):=HE_w3.out.trans hE
 have HB1:=Lib.hid (block_ext HB1.out hE)
 clear hE HC s1
 have s1:=block_cell HB1.out
 by_cases hfw5:shortT L
 rotate_left
 ·have HC:Hid (∀ W,Ext w W→Calls Tryz.prog 21 #[.agg #[.int .i64 n,.int .i64 k,.slice a ma ca]] W fun e w'=>e=.returned (.bool false)∧Ext W w'):=fun W hW=>by
   have h9:=short10_any n k L _ W (HT1.out.ext hW)
   rw [decide_eq_false hfw5] at h9;exact h9
  clear hfw5
  go_wp2_with fail
  refine (HC.out w4 HE_w4.out).mono ?_
  rintro e v9 ⟨rfl,hE⟩
  have HE_v9:Hid (Ext w v9):=HE_w4.out.trans hE
  clear hE HC s1
  go_wp2_with fail
  refine (HKN.out v9 HE_v9.out).mono ?_
  rintro e w9 ⟨rfl,hE9⟩
  go_wp2_with fail
  go_ret
  exact ⟨rfl,HE_v9.out.trans hE9⟩
 have HC:Hid (∀ W,Ext w W→Calls Tryz.prog 21 #[.agg #[.int .i64 n,.int .i64 k,.slice a ma ca]] W fun e w'=>e=.returned (.bool true)∧Ext W w'):=fun W hW=>by
  have h9:=short10_any n k L _ W (HT1.out.ext hW)
  rw [decide_eq_true hfw5] at h9;exact h9
 have HFw5:=Lib.hid hfw5
 clear hfw5
 go_wp2_with fail
 refine (HC.out w4 HE_w4.out).mono ?_
 rintro e w5 ⟨rfl,hE⟩
 have HE_w5:Hid (Ext w w5):=HE_w4.out.trans hE
 have HB1:=Lib.hid (block_ext HB1.out hE)
 clear hE HC s1
 have hZ1:∀ a∈L,a.size≤100000:=fun a ha=>Nat.le_trans (HFw5.out a ha) (by decide)
 have HR1:Hid (∀ W,Ext w W→Calls Tryz.prog 22 #[.agg #[.int .i64 n,.int .i64 k,.slice a ma ca]] W fun e w'=>e=.returned (.int .i64 (chkX n k L))∧Ext W w'):=fun W hW=>refChk10_any n k L _ W (HT1.out.ext hW) hZ1
 clear hZ1
 have s1:=block_cell HB1.out
 go_wp2_with fail
 clear s1
 refine (plain10_any _ _ _ _ _ w5).mono ?_
 rintro e w6 ⟨rfl,hE⟩
 have HE_w6:Hid (Ext w w6):=HE_w5.out.trans hE
 have HB1:=Lib.hid (block_ext HB1.out hE)
 clear hE
 by_cases hA:chkX n k L=0
 rotate_left
 ·obtain ⟨E,hE⟩:∃ E,chkX n k L=E:=⟨_,rfl⟩
  rw [hE] at HR1 hA
  have q1:(E != 0)=true:=bne_iff_ne.2 hA
  clear hE hA
  go_wp2_with fail
  refine (HR1.out w6 HE_w6.out).mono ?_
  rintro e v9 ⟨rfl,hE⟩
  have HE_v9:Hid (Ext w v9):=HE_w6.out.trans hE
  clear hE
  go_wp2_with fail
  refine (HKN.out v9 HE_v9.out).mono ?_
  rintro e w9 ⟨rfl,hE9⟩
  go_wp2_with fail
  go_ret
  exact ⟨rfl,HE_v9.out.trans hE9⟩
 obtain ⟨N,K,X,rfl,rfl,hN,hK,hX,hXl,hX4,hXs⟩:=chkX_zero hA
 have hN5:N<5:=by
  have h9:=HFw4.out.1;omega
 have hRX:RightM N K X:=⟨by omega,hK,hXl,hX4⟩
 rw [hA] at HR1
 have HM1:Hid (∀ W,Ext w W→ListAt 1 numC W (.slice a ma ca) X):=fun W hW=>txts_nums (by rw [← hX];exact txt_list (HT1.out.ext hW))
 have hXm:X.length=ma:=by have h9:=HMA.out;rw [hX,List.length_map] at h9;exact h9
 obtain ⟨C,hC⟩:∃ C,canW X=C:=⟨_,rfl⟩
 obtain ⟨D,hD⟩:∃ D,dualL N K X=D:=⟨_,rfl⟩
 have hCl:C.length=ma:=by rw [← hC,canW_len,hXm]
 obtain ⟨z,hz⟩:∃ z,D.length=z:=⟨_,rfl⟩
 obtain ⟨g,hg⟩:∃ g,N-K=g:=⟨_,rfl⟩
 have HCO:Hid (∀ W,Ext w W→Calls Tryz.prog 30 #[.agg #[.int .i64 N,.int .i64 K,.slice a ma ca]] W fun e w'=>e=.returned (.tuple #[.string (intB (contL X:Int)),.int .i64 0])∧Ext W w'):=fun W hW=>contentM_any hRX _ W ⟨_,rfl,HM1.out W hW⟩ (HLIB.out.pow.ext hW)
 have HCA:Hid (∀ W,Ext w W→Calls Tryz.prog 44 #[.agg #[.int .i64 N,.int .i64 K,.slice a ma ca]] W fun e w'=>∃ a5 c5,e=.returned (.tuple #[.agg #[.int .i64 N,.int .i64 K,.slice a5 ma c5],.int .i64 0])∧ListAt 1 numC w' (.slice a5 ma c5) C∧Ext W w'):=fun W hW=>by
  refine (canonM_any (by omega) hRX _ W ⟨_,rfl,HM1.out W hW⟩ (HLIB.out.pow.ext hW)).mono fun e w' ⟨y,h1,h2,h3⟩=>?_
  obtain ⟨a5,c5,rfl,h4⟩:=multi_open h3
  rw [hC,hCl] at h1 h4
  exact ⟨a5,c5,h1,h4,h2⟩
 have HDU:Hid (∀ W,Ext w W→Calls Tryz.prog 28 #[.agg #[.int .i64 N,.int .i64 K,.slice a ma ca]] W fun e w'=>∃ a5 c5,e=.returned (.tuple #[.agg #[.int .i64 N,.int .i64 g,.slice a5 z c5],.int .i64 0])∧ListAt 1 numC w' (.slice a5 z c5) D∧Ext W w'):=fun W hW=>by
  refine (dualM_any (by omega) hRX _ W ⟨_,rfl,HM1.out W hW⟩).mono fun e w' ⟨y,h1,h2,h3⟩=>?_
  obtain ⟨a5,c5,rfl,h4⟩:=multi_open h3
  rw [hD,hz] at h4
  rw [hD,hz,hg] at h1
  exact ⟨a5,c5,h1,h4,h2⟩
 have HRC:Hid (∀ W,Ext w W→Calls Tryz.prog 41 #[.agg #[.int .i64 N,.int .i64 K,.slice a ma ca]] W fun e w'=>e=.returned (.string (intB (contL X:Int)))∧Ext W w'):=fun W hW=>refCont10_any N K X _ W (HM1.out W hW) hX4 (HLIB.out.pow.ext hW)
 have HRA:Hid (∀ W,Ext w W→Calls Tryz.prog 40 #[.agg #[.int .i64 N,.int .i64 K,.slice a ma ca]] W fun e w'=>∃ a5 c5,e=.returned (.agg #[.int .i64 N,.int .i64 K,.slice a5 ma c5])∧ListAt 1 numC w' (.slice a5 ma c5) C∧Ext W w'):=fun W hW=>by
  refine (refCanon10_any (by omega) hRX _ W (HM1.out W hW) (HLIB.out.pow.ext hW)).mono fun e w' ⟨y,h1,h2,h3⟩=>?_
  obtain ⟨a5,c5,rfl,h4⟩:=multi_open h3
  rw [hC,hCl] at h1 h4
  exact ⟨a5,c5,h1,h4,h2⟩
 have HRD:Hid (∀ W,Ext w W→Calls Tryz.prog 45 #[.agg #[.int .i64 N,.int .i64 K,.slice a ma ca]] W fun e w'=>∃ a5 c5,e=.returned (.agg #[.int .i64 N,.int .i64 g,.slice a5 z c5])∧ListAt 1 numC w' (.slice a5 z c5) D∧Ext W w'):=fun W hW=>by
  refine (refDual10_any (by omega) hRX _ W (HM1.out W hW) (HLIB.out.pow.ext hW)).mono fun e w' ⟨y,h1,h2,h3⟩=>?_
  obtain ⟨a5,c5,rfl,h4⟩:=multi_open h3
  rw [hD,hz] at h4
  rw [hD,hz,hg] at h1
  exact ⟨a5,c5,h1,h4,h2⟩
 have HSA:∀ (K z:Nat) (D:List Int),Hid (∀ W a5 c5 a6 c6,ListAt 1 numC W (.slice a5 z c5) D→ListAt 1 numC W (.slice a6 z c6) D→Calls Tryz.prog 17 #[.agg #[.int .i64 N,.int .i64 K,.slice a5 z c5],.agg #[.int .i64 N,.int .i64 K,.slice a6 z c6]] W fun e w'=>e=.returned (.bool true)∧Ext W w'):=fun K z D W a5 c5 a6 c6 h1 h2=>by
  have h9:=sameM_any N K D N K D _ _ W ⟨_,rfl,h1⟩ ⟨_,rfl,h2⟩
  rw [show equalM N K D N K D=true by unfold equalM;simp] at h9
  exact h9
 have HSC:=HSA K ma C;have HSD:=HSA g z D
 obtain ⟨ud,hud⟩:∃ u,intB (contL X:Int)=u:=⟨_,rfl⟩
 rw [hud] at HCO HRC
 clear hA hN hK hX hXl hX4 hXs hXm hC hD hCl hz hg hN5 hRX HSA hud HFw4 HFw5 HKN HT1 HMA
 go_wp2_with fail
 refine (HR1.out w6 HE_w6.out).mono ?_
 rintro e w7 ⟨rfl,hE⟩
 have HE_w7:Hid (Ext w w7):=HE_w6.out.trans hE
 have HB1:=Lib.hid (block_ext HB1.out hE)
 clear hE HR1
 have s1:=block_cell HB1.out
 go_wp2_with fail
 clear s1
 refine (HCO.out w7 HE_w7.out).mono ?_
 rintro e w8 ⟨rfl,hE⟩
 have HE_w8:Hid (Ext w w8):=HE_w7.out.trans hE
 have HB1:=Lib.hid (block_ext HB1.out hE)
 clear hE HCO
 have s1:=block_cell HB1.out
 go_wp2_with fail
 clear s1
 refine (HCA.out w8 HE_w8.out).mono ?_
 rintro e vc ⟨a5,c5,rfl,hR5,hE⟩
 have HR5:=Lib.hid hR5
 have HE_vc:Hid (Ext w vc):=HE_w8.out.trans hE
 have HB1:=Lib.hid (block_ext HB1.out hE)
 clear hE hR5 HCA
 obtain ⟨Vc,hV,hX,hs9,hb⟩:=boxM vc (.int .i64 0) (.int .i64 0) (.slice none 0 0)
 have r0:=block_cell hb
 have f0:=block_free hb
 have HB5:=Lib.hid (multi_store hb (.int .i64 N) (.int .i64 K) (.slice a5 ma c5))
 have HXUc:=Lib.hid (multi_ext (B:=vc.heap.size) hX (Nat.le_refl _) (.int .i64 N) (.int .i64 K) (.slice a5 ma c5))
 obtain ⟨Uc,hU⟩:∃ U,((Vc.setCell ⟨vc.heap.size,0,none⟩ (.int .i64 N)).setCell ⟨vc.heap.size,1,none⟩ (.int .i64 K)).setCell ⟨vc.heap.size,2,none⟩ (.slice a5 ma c5)=U:=⟨_,rfl⟩
 rw [hU] at HB5 HXUc
 clear hX hs9 hb
 have HR5:=Lib.hid (ListAt.ext numC.mono' HR5.out HXUc.out)
 have HE_Uc:Hid (Ext w Uc):=HE_vc.out.trans HXUc.out
 have HB1:=Lib.hid (block_ext HB1.out HXUc.out)
 have s1:=block_cell HB1.out
 go_wp2_with fail
 clear s1 r0 f0 hU hV
 refine (HDU.out Uc HE_Uc.out).mono ?_
 rintro e vd ⟨a7,c7,rfl,hR7,hE⟩
 have HR7:=Lib.hid hR7
 have HR5:=Lib.hid (ListAt.ext numC.mono' HR5.out hE)
 have HE_vd:Hid (Ext w vd):=HE_Uc.out.trans hE
 have HB1:=Lib.hid (block_ext HB1.out hE)
 have HB5:=Lib.hid (block_ext HB5.out hE)
 clear hE hR7 HDU
 obtain ⟨Vd,hV,hX,hs9,hb⟩:=boxM vd (.int .i64 0) (.int .i64 0) (.slice none 0 0)
 have r0:=block_cell hb
 have f0:=block_free hb
 have HB7:=Lib.hid (multi_store hb (.int .i64 N) (.int .i64 g) (.slice a7 z c7))
 have HXUd:=Lib.hid (multi_ext (B:=vd.heap.size) hX (Nat.le_refl _) (.int .i64 N) (.int .i64 g) (.slice a7 z c7))
 obtain ⟨Ud,hU⟩:∃ U,((Vd.setCell ⟨vd.heap.size,0,none⟩ (.int .i64 N)).setCell ⟨vd.heap.size,1,none⟩ (.int .i64 g)).setCell ⟨vd.heap.size,2,none⟩ (.slice a7 z c7)=U:=⟨_,rfl⟩
 rw [hU] at HB7 HXUd
 clear hX hs9 hb
 have HR7:=Lib.hid (ListAt.ext numC.mono' HR7.out HXUd.out)
 have HR5:=Lib.hid (ListAt.ext numC.mono' HR5.out HXUd.out)
 have HE_Ud:Hid (Ext w Ud):=HE_vd.out.trans HXUd.out
 have HB1:=Lib.hid (block_ext HB1.out HXUd.out)
 have HB5:=Lib.hid (block_ext HB5.out HXUd.out)
 go_upto_region 6 with fail
 clear r0 f0 hU hV
 refine region_anyEV (fun w'=>Hid (w'.heap[w.heap.size]?=some (.cells #[.int .i64 N,.int .i64 K,.slice a ma ca] 31 (0,0)))∧Hid (w'.heap[vc.heap.size]?=some (.cells #[.int .i64 N,.int .i64 K,.slice a5 ma c5] 31 (0,0)))∧Hid (w'.heap[vd.heap.size]?=some (.cells #[.int .i64 N,.int .i64 g,.slice a7 z c7] 31 (0,0)))∧Hid (Ext Ud w')) 34 34 (by kernel_rfl) (by kernel_rfl) ⟨block_ext HB1.out (Ext.drew Ud),block_ext HB5.out (Ext.drew Ud),block_ext HB7.out (Ext.drew Ud),Ext.drew Ud⟩ (fun ops hO hHeld=>?_)
 have hi:=getopN hO 0 (by decide)
 conv at hi=>rhs;arg 1;whnf
 refine anyE_takeWV hO (v:=?_) 0 hi (by kernel_rfl) (by kernel_rfl) (by kernel_rfl) (by kernel_rfl) (fun _ _ _ h=>h) (Or.inl ⟨by rfl,?_⟩) (by assumption) ?_
 rotate_left
 ·((intro w');(try go_simp);(try with_reducible rfl))
 clear hi
 (try simp only [Act.put,List.setIfInBounds_toArray,List.set_cons_zero,List.set_cons_succ])
 have hi:=getopN hO 1 (by decide)
 conv at hi=>rhs;arg 1;whnf
 refine anyE_takeWV hO (v:=?_) 1 hi (by kernel_rfl) (by kernel_rfl) (by kernel_rfl) (by kernel_rfl) (fun _ _ _ h=>h) (Or.inl ⟨by rfl,?_⟩) (by assumption) ?_
 rotate_left
 ·((intro w');(try go_simp);(try with_reducible rfl))
 clear hi
 (try simp only [Act.put,List.setIfInBounds_toArray,List.set_cons_zero,List.set_cons_succ])
 have hi:=getopN hO 2 (by decide)
 conv at hi=>rhs;arg 1;whnf
 refine anyE_takeWV hO (v:=?_) 2 hi (by kernel_rfl) (by kernel_rfl) (by kernel_rfl) (by kernel_rfl) (fun _ _ _ h=>h) (Or.inl ⟨by rfl,?_⟩) (by assumption) ?_
 rotate_left
 ·((intro w');(try go_simp);(try with_reducible rfl))
 clear hi
 (try simp only [Act.put,List.setIfInBounds_toArray,List.set_cons_zero,List.set_cons_succ])
 have hi:=getopN hO 3 (by decide)
 conv at hi=>rhs;arg 1;whnf
 refine anyE_takeWV hO (v:=?_) 3 hi (by kernel_rfl) (by kernel_rfl) (by kernel_rfl) (by kernel_rfl) (fun _ _ _ h=>h) (Or.inl ⟨by rfl,?_⟩) (by assumption) ?_
 rotate_left
 ·((intro w');(try go_simp);(try with_reducible rfl))
 clear hi
 (try simp only [Act.put,List.setIfInBounds_toArray,List.set_cons_zero,List.set_cons_succ])
 have hi:=getopN hO 4 (by decide)
 conv at hi=>rhs;arg 1;whnf
 refine anyE_takeV hO (v:=?_) 4 hi (by kernel_rfl) (by kernel_rfl) (by kernel_rfl) (by kernel_rfl) (fun _ _ _ h=>h) (Or.inl ⟨by rfl,?_⟩) (by assumption) ?_
 rotate_left
 ·((intro w' hSw);(try dsimp only at hSw);have sb:=block_cell hSw.1.out;have sc:=block_cell hSw.2.1.out;have sd:=block_cell hSw.2.2.1.out;(try go_simp);(try with_reducible rfl))
 clear hi
 (try simp only [Act.put,List.setIfInBounds_toArray,List.set_cons_zero,List.set_cons_succ])
 have hi:=getopN hO 5 (by decide)
 conv at hi=>rhs;arg 1;whnf
 refine anyE_stepV hO 5 (by kernel_rfl) hi (fun K hK=>?_)
 go_simp
 (go_at_call 23;refine (plain10_any _ _ _ _ _ _).mono ?_)
 rintro e wz ⟨rfl,hEz⟩
 go_wp2_with fail
 refine hK.out _ _ ⟨block_ext hHeld.1.out hEz,block_ext hHeld.2.1.out hEz,block_ext hHeld.2.2.1.out hEz,Ext.trans hHeld.2.2.2.out hEz⟩ (fun hHeld=>?_)
 clear hK K hi
 (try simp only [Act.put,List.setIfInBounds_toArray,List.set_cons_zero,List.set_cons_succ])
 have hi:=getopN hO 6 (by decide)
 conv at hi=>rhs;arg 1;whnf
 refine anyE_stepV hO 6 (by kernel_rfl) hi (fun K hK=>?_)
 go_simp
 (go_at_call 41;refine (HRC.out _ (HE_Ud.out.trans hHeld.2.2.2.out)).mono ?_)
 rintro e wz ⟨rfl,hEz⟩
 go_wp2_with fail
 refine hK.out _ _ ⟨block_ext hHeld.1.out hEz,block_ext hHeld.2.1.out hEz,block_ext hHeld.2.2.1.out hEz,Ext.trans hHeld.2.2.2.out hEz⟩ (fun hHeld=>?_)
 clear hK K hi
 (try simp only [Act.put,List.setIfInBounds_toArray,List.set_cons_zero,List.set_cons_succ])
 have hi:=getopN hO 7 (by decide)
 conv at hi=>rhs;arg 1;whnf
 refine anyE_takeWV hO (v:=?_) 7 hi (by kernel_rfl) (by kernel_rfl) (by kernel_rfl) (by kernel_rfl) (fun _ _ _ h=>h) (Or.inl ⟨by rfl,?_⟩) (by assumption) ?_
 rotate_left
 ·((intro w');(try go_simp);(try with_reducible rfl))
 clear hi
 (try simp only [Act.put,List.setIfInBounds_toArray,List.set_cons_zero,List.set_cons_succ])
 have hi:=getopN hO 8 (by decide)
 conv at hi=>rhs;arg 1;whnf
 refine anyE_takeWV hO (v:=?_) 8 hi (by kernel_rfl) (by kernel_rfl) (by kernel_rfl) (by kernel_rfl) (fun _ _ _ h=>h) (Or.inl ⟨by rfl,?_⟩) (by assumption) ?_
 rotate_left
 ·((intro w');(try go_simp);(try with_reducible rfl))
 clear hi
 (try simp only [Act.put,List.setIfInBounds_toArray,List.set_cons_zero,List.set_cons_succ])
 have hi:=getopN hO 9 (by decide)
 conv at hi=>rhs;arg 1;whnf
 refine anyE_takeWV hO (v:=?_) 9 hi (by kernel_rfl) (by kernel_rfl) (by kernel_rfl) (by kernel_rfl) (fun _ _ _ h=>h) (Or.inl ⟨by rfl,?_⟩) (by assumption) ?_
 rotate_left
 ·((intro w');(try go_simp);(try with_reducible rfl))
 clear hi
 (try simp only [Act.put,List.setIfInBounds_toArray,List.set_cons_zero,List.set_cons_succ])
 have hi:=getopN hO 10 (by decide)
 conv at hi=>rhs;arg 1;whnf
 refine anyE_takeWV hO (v:=?_) 10 hi (by kernel_rfl) (by kernel_rfl) (by kernel_rfl) (by kernel_rfl) (fun _ _ _ h=>h) (Or.inl ⟨by rfl,?_⟩) (by assumption) ?_
 rotate_left
 ·((intro w');(try go_simp);(try with_reducible rfl))
 clear hi
 (try simp only [Act.put,List.setIfInBounds_toArray,List.set_cons_zero,List.set_cons_succ])
 have hi:=getopN hO 11 (by decide)
 conv at hi=>rhs;arg 1;whnf
 refine anyE_takeWV hO (v:=?_) 11 hi (by kernel_rfl) (by kernel_rfl) (by kernel_rfl) (by kernel_rfl) (fun _ _ _ h=>h) (Or.inl ⟨by rfl,?_⟩) (by assumption) ?_
 rotate_left
 ·((intro w');(try go_simp);(try with_reducible rfl))
 clear hi
 (try simp only [Act.put,List.setIfInBounds_toArray,List.set_cons_zero,List.set_cons_succ])
 have hi:=getopN hO 12 (by decide)
 conv at hi=>rhs;arg 1;whnf
 refine anyE_takeWV hO (v:=?_) 12 hi (by kernel_rfl) (by kernel_rfl) (by kernel_rfl) (by kernel_rfl) (fun _ _ _ h=>h) (Or.inl ⟨by rfl,?_⟩) (by assumption) ?_
 rotate_left
 ·((intro w');(try go_simp);(try with_reducible rfl))
 clear hi
 (try simp only [Act.put,List.setIfInBounds_toArray,List.set_cons_zero,List.set_cons_succ])
 have hi:=getopN hO 13 (by decide)
 conv at hi=>rhs;arg 1;whnf
 refine anyE_takeWV hO (v:=?_) 13 hi (by kernel_rfl) (by kernel_rfl) (by kernel_rfl) (by kernel_rfl) (fun _ _ _ h=>h) (Or.inl ⟨by rfl,?_⟩) (by assumption) ?_
 rotate_left
 ·((intro w');(try go_simp);(try with_reducible rfl))
 clear hi
 (try simp only [Act.put,List.setIfInBounds_toArray,List.set_cons_zero,List.set_cons_succ])
 have hi:=getopN hO 14 (by decide)
 conv at hi=>rhs;arg 1;whnf
 refine anyE_takeV hO (v:=?_) 14 hi (by kernel_rfl) (by kernel_rfl) (by kernel_rfl) (by kernel_rfl) (fun _ _ _ h=>h) (Or.inl ⟨by rfl,?_⟩) (by assumption) ?_
 rotate_left
 ·((intro w' hSw);(try dsimp only at hSw);have sb:=block_cell hSw.1.out;have sc:=block_cell hSw.2.1.out;have sd:=block_cell hSw.2.2.1.out;(try go_simp);(try with_reducible rfl))
 clear hi
 (try simp only [Act.put,List.setIfInBounds_toArray,List.set_cons_zero,List.set_cons_succ])
 have hi:=getopN hO 15 (by decide)
 conv at hi=>rhs;arg 1;whnf
 refine anyE_takeV hO (v:=?_) 15 hi (by kernel_rfl) (by kernel_rfl) (by kernel_rfl) (by kernel_rfl) (fun _ _ _ h=>h) (Or.inl ⟨by rfl,?_⟩) (by assumption) ?_
 rotate_left
 ·((intro w' hSw);(try dsimp only at hSw);have sb:=block_cell hSw.1.out;have sc:=block_cell hSw.2.1.out;have sd:=block_cell hSw.2.2.1.out;(try go_simp);(try with_reducible rfl))
 clear hi
 (try simp only [Act.put,List.setIfInBounds_toArray,List.set_cons_zero,List.set_cons_succ])
 have hi:=getopN hO 16 (by decide)
 conv at hi=>rhs;arg 1;whnf
 refine anyE_stepV hO 16 (by kernel_rfl) hi (fun K hK=>?_)
 go_simp
 (go_at_call 23;refine (plain10_any _ _ _ _ _ _).mono ?_)
 rintro e wz ⟨rfl,hEz⟩
 go_wp2_with fail
 refine hK.out _ _ ⟨block_ext hHeld.1.out hEz,block_ext hHeld.2.1.out hEz,block_ext hHeld.2.2.1.out hEz,Ext.trans hHeld.2.2.2.out hEz⟩ (fun hHeld=>?_)
 clear hK K hi
 (try simp only [Act.put,List.setIfInBounds_toArray,List.set_cons_zero,List.set_cons_succ])
 have hi:=getopN hO 17 (by decide)
 conv at hi=>rhs;arg 1;whnf
 refine anyE_stepV hO 17 (by kernel_rfl) hi (fun K hK=>?_)
 go_simp
 (go_at_call 40;refine (HRA.out _ (HE_Ud.out.trans hHeld.2.2.2.out)).mono ?_)
 rintro e wr6 ⟨a6,c6,rfl,hR6,hEz⟩
 have HR6:=Lib.hid hR6
 clear hR6
 go_wp2_with fail
 refine hK.out _ _ ⟨block_ext hHeld.1.out hEz,block_ext hHeld.2.1.out hEz,block_ext hHeld.2.2.1.out hEz,Ext.trans hHeld.2.2.2.out hEz⟩ (fun hHeld=>?_)
 clear hK K hi
 (try simp only [Act.put,List.setIfInBounds_toArray,List.set_cons_zero,List.set_cons_succ])
 have hi:=getopN hO 18 (by decide)
 conv at hi=>rhs;arg 1;whnf
 refine anyE_stepV hO 18 (by kernel_rfl) hi (fun K hK=>?_)
 go_simp
 (go_at_call 18;refine (multi10_any _ _ _ _ _ _).mono ?_)
 rintro e wr7 ⟨rfl,hEz⟩
 have HR6:=Lib.hid (ListAt.ext numC.mono' HR6.out hEz)
 go_wp2_with fail
 refine hK.out _ _ ⟨block_ext hHeld.1.out hEz,block_ext hHeld.2.1.out hEz,block_ext hHeld.2.2.1.out hEz,Ext.trans hHeld.2.2.2.out hEz⟩ (fun hHeld=>?_)
 clear hK K hi
 (try simp only [Act.put,List.setIfInBounds_toArray,List.set_cons_zero,List.set_cons_succ])
 have hi:=getopN hO 19 (by decide)
 conv at hi=>rhs;arg 1;whnf
 refine anyE_stepV hO 19 (by kernel_rfl) hi (fun K hK=>?_)
 go_simp
 (go_at_call 17;refine (HSC.out _ a5 c5 a6 c6 (ListAt.ext numC.mono' HR5.out hHeld.2.2.2.out) HR6.out).mono ?_)
 rintro e wr8 ⟨rfl,hEz⟩
 go_wp2_with fail
 refine hK.out _ _ ⟨block_ext hHeld.1.out hEz,block_ext hHeld.2.1.out hEz,block_ext hHeld.2.2.1.out hEz,Ext.trans hHeld.2.2.2.out hEz⟩ (fun hHeld=>?_)
 clear hK K hi
 (try simp only [Act.put,List.setIfInBounds_toArray,List.set_cons_zero,List.set_cons_succ])
 clear HR6
 have hi:=getopN hO 20 (by decide)
 conv at hi=>rhs;arg 1;whnf
 refine anyE_takeWV hO (v:=?_) 20 hi (by kernel_rfl) (by kernel_rfl) (by kernel_rfl) (by kernel_rfl) (fun _ _ _ h=>h) (Or.inl ⟨by rfl,?_⟩) (by assumption) ?_
 rotate_left
 ·((intro w');(try go_simp);(try with_reducible rfl))
 clear hi
 (try simp only [Act.put,List.setIfInBounds_toArray,List.set_cons_zero,List.set_cons_succ])
 have hi:=getopN hO 21 (by decide)
 conv at hi=>rhs;arg 1;whnf
 refine anyE_takeWV hO (v:=?_) 21 hi (by kernel_rfl) (by kernel_rfl) (by kernel_rfl) (by kernel_rfl) (fun _ _ _ h=>h) (Or.inl ⟨by rfl,?_⟩) (by assumption) ?_
 rotate_left
 ·((intro w');(try go_simp);(try with_reducible rfl))
 clear hi
 (try simp only [Act.put,List.setIfInBounds_toArray,List.set_cons_zero,List.set_cons_succ])
 have hi:=getopN hO 22 (by decide)
 conv at hi=>rhs;arg 1;whnf
 refine anyE_takeWV hO (v:=?_) 22 hi (by kernel_rfl) (by kernel_rfl) (by kernel_rfl) (by kernel_rfl) (fun _ _ _ h=>h) (Or.inl ⟨by rfl,?_⟩) (by assumption) ?_
 rotate_left
 ·((intro w');(try go_simp);(try with_reducible rfl))
 clear hi
 (try simp only [Act.put,List.setIfInBounds_toArray,List.set_cons_zero,List.set_cons_succ])
 have hi:=getopN hO 23 (by decide)
 conv at hi=>rhs;arg 1;whnf
 refine anyE_takeWV hO (v:=?_) 23 hi (by kernel_rfl) (by kernel_rfl) (by kernel_rfl) (by kernel_rfl) (fun _ _ _ h=>h) (Or.inl ⟨by rfl,?_⟩) (by assumption) ?_
 rotate_left
 ·((intro w');(try go_simp);(try with_reducible rfl))
 clear hi
 (try simp only [Act.put,List.setIfInBounds_toArray,List.set_cons_zero,List.set_cons_succ])
 have hi:=getopN hO 24 (by decide)
 conv at hi=>rhs;arg 1;whnf
 refine anyE_takeWV hO (v:=?_) 24 hi (by kernel_rfl) (by kernel_rfl) (by kernel_rfl) (by kernel_rfl) (fun _ _ _ h=>h) (Or.inl ⟨by rfl,?_⟩) (by assumption) ?_
 rotate_left
 ·((intro w');(try go_simp);(try with_reducible rfl))
 clear hi
 (try simp only [Act.put,List.setIfInBounds_toArray,List.set_cons_zero,List.set_cons_succ])
 have hi:=getopN hO 25 (by decide)
 conv at hi=>rhs;arg 1;whnf
 refine anyE_takeWV hO (v:=?_) 25 hi (by kernel_rfl) (by kernel_rfl) (by kernel_rfl) (by kernel_rfl) (fun _ _ _ h=>h) (Or.inl ⟨by rfl,?_⟩) (by assumption) ?_
 rotate_left
 ·((intro w');(try go_simp);(try with_reducible rfl))
 clear hi
 (try simp only [Act.put,List.setIfInBounds_toArray,List.set_cons_zero,List.set_cons_succ])
 have hi:=getopN hO 26 (by decide)
 conv at hi=>rhs;arg 1;whnf
 refine anyE_takeV hO (v:=?_) 26 hi (by kernel_rfl) (by kernel_rfl) (by kernel_rfl) (by kernel_rfl) (fun _ _ _ h=>h) (Or.inl ⟨by rfl,?_⟩) (by assumption) ?_
 rotate_left
 ·((intro w' hSw);(try dsimp only at hSw);have sb:=block_cell hSw.1.out;have sc:=block_cell hSw.2.1.out;have sd:=block_cell hSw.2.2.1.out;(try go_simp);(try with_reducible rfl))
 clear hi
 (try simp only [Act.put,List.setIfInBounds_toArray,List.set_cons_zero,List.set_cons_succ])
 have hi:=getopN hO 27 (by decide)
 conv at hi=>rhs;arg 1;whnf
 refine anyE_takeV hO (v:=?_) 27 hi (by kernel_rfl) (by kernel_rfl) (by kernel_rfl) (by kernel_rfl) (fun _ _ _ h=>h) (Or.inl ⟨by rfl,?_⟩) (by assumption) ?_
 rotate_left
 ·((intro w' hSw);(try dsimp only at hSw);have sb:=block_cell hSw.1.out;have sc:=block_cell hSw.2.1.out;have sd:=block_cell hSw.2.2.1.out;(try go_simp);(try with_reducible rfl))
 clear hi
 (try simp only [Act.put,List.setIfInBounds_toArray,List.set_cons_zero,List.set_cons_succ])
 have hi:=getopN hO 28 (by decide)
 conv at hi=>rhs;arg 1;whnf
 refine anyE_stepV hO 28 (by kernel_rfl) hi (fun K hK=>?_)
 go_simp
 (go_at_call 23;refine (plain10_any _ _ _ _ _ _).mono ?_)
 rintro e wz ⟨rfl,hEz⟩
 go_wp2_with fail
 refine hK.out _ _ ⟨block_ext hHeld.1.out hEz,block_ext hHeld.2.1.out hEz,block_ext hHeld.2.2.1.out hEz,Ext.trans hHeld.2.2.2.out hEz⟩ (fun hHeld=>?_)
 clear hK K hi
 (try simp only [Act.put,List.setIfInBounds_toArray,List.set_cons_zero,List.set_cons_succ])
 have hi:=getopN hO 29 (by decide)
 conv at hi=>rhs;arg 1;whnf
 refine anyE_stepV hO 29 (by kernel_rfl) hi (fun K hK=>?_)
 go_simp
 (go_at_call 45;refine (HRD.out _ (HE_Ud.out.trans hHeld.2.2.2.out)).mono ?_)
 rintro e wd6 ⟨a8,c8,rfl,hR8,hEz⟩
 have HR8:=Lib.hid hR8
 clear hR8
 go_wp2_with fail
 refine hK.out _ _ ⟨block_ext hHeld.1.out hEz,block_ext hHeld.2.1.out hEz,block_ext hHeld.2.2.1.out hEz,Ext.trans hHeld.2.2.2.out hEz⟩ (fun hHeld=>?_)
 clear hK K hi
 (try simp only [Act.put,List.setIfInBounds_toArray,List.set_cons_zero,List.set_cons_succ])
 have hi:=getopN hO 30 (by decide)
 conv at hi=>rhs;arg 1;whnf
 refine anyE_stepV hO 30 (by kernel_rfl) hi (fun K hK=>?_)
 go_simp
 (go_at_call 18;refine (multi10_any _ _ _ _ _ _).mono ?_)
 rintro e wd7 ⟨rfl,hEz⟩
 have HR8:=Lib.hid (ListAt.ext numC.mono' HR8.out hEz)
 go_wp2_with fail
 refine hK.out _ _ ⟨block_ext hHeld.1.out hEz,block_ext hHeld.2.1.out hEz,block_ext hHeld.2.2.1.out hEz,Ext.trans hHeld.2.2.2.out hEz⟩ (fun hHeld=>?_)
 clear hK K hi
 (try simp only [Act.put,List.setIfInBounds_toArray,List.set_cons_zero,List.set_cons_succ])
 have hi:=getopN hO 31 (by decide)
 conv at hi=>rhs;arg 1;whnf
 refine anyE_stepV hO 31 (by kernel_rfl) hi (fun K hK=>?_)
 go_simp
 (go_at_call 17;refine (HSD.out _ a7 c7 a8 c8 (ListAt.ext numC.mono' HR7.out hHeld.2.2.2.out) HR8.out).mono ?_)
 rintro e wd8 ⟨rfl,hEz⟩
 go_wp2_with fail
 refine hK.out _ _ ⟨block_ext hHeld.1.out hEz,block_ext hHeld.2.1.out hEz,block_ext hHeld.2.2.1.out hEz,Ext.trans hHeld.2.2.2.out hEz⟩ (fun hHeld=>?_)
 clear hK K hi
 (try simp only [Act.put,List.setIfInBounds_toArray,List.set_cons_zero,List.set_cons_succ])
 have hi:=getopN hO 32 (by decide)
 conv at hi=>rhs;arg 1;whnf
 refine anyE_takeWV hO (v:=?_) 32 hi (by kernel_rfl) (by kernel_rfl) (by kernel_rfl) (by kernel_rfl) (fun _ _ _ h=>h) (Or.inl ⟨by rfl,?_⟩) (by assumption) ?_
 rotate_left
 ·((intro w');(try go_simp);(try with_reducible rfl))
 clear hi
 (try simp only [Act.put,List.setIfInBounds_toArray,List.set_cons_zero,List.set_cons_succ])
 have hi:=getopN hO 33 (by decide)
 conv at hi=>rhs;arg 1;whnf
 refine anyE_lastV hO 33 (by kernel_rfl) (by kernel_rfl) hi (fun K hK=>?_)
 go_simp
 refine hK.out _ _ hHeld ?_
 clear hK K hi hO
 go_wp2_with fail
 go_ret
 exact ⟨rfl,(HE_Ud.out.trans hHeld.2.2.2.out)⟩
end Go.Proofs.YtjlkkofmojgipaaGreatDoor
namespace Go.Proofs.YtjlkkofmojgipaaGreatDoor
set_option linter.unusedVariables false
set_option linter.unusedSimpArgs false
open Go.ChangeShapes Go.WideShapes Go.ChangeAt Go.RowKit
theorem lawOwn:ownKnob Tryz.prog.godebug=none:=by kernel_rfl
theorem lawLaid:laidOutB Tryz.prog=true:=by kernel_rfl
theorem trodAll_below {H:Type} {enc:TypeId×Value→H} {P:Program} (hl:laidOutB P=true) {W W':World} (hb:Below W.heap.size W W') :
  ∀ (ts:List TypeId) (vs:List Value) (ds:List (DataW H)) (ps:List MemPlace),(∀ t∈ts,P.readableRec t=true∧t<P.types.size) →
   DataW.TrodAll enc P W 0 (fun _=>true) true ts vs ds ps→(∀ x∈ps,x.block<W.heap.size)→DataW.TrodAll enc P W' 0 (fun b=>decide (b<W.heap.size)) true ts vs ds ps
 | [],[],[],ps,_,h,_=>h
 | t::ts,v::vs,d::ds,ps,hr,h,hlt=>by
  obtain ⟨p,p',h1,h2,rfl⟩:=h
  exact ⟨p,p',Below.trod hl (hr t (by simp)).1 (hr t (by simp)).2 h1 hb (fun x hx=>hlt x (by simp [hx])),trodAll_below hl hb ts vs ds p' (fun t ht=>hr t (by simp [ht])) h2 (fun x hx=>hlt x (by simp [hx])),rfl⟩
 | [],v::vs,_,_,_,h,_=>absurd h (by simp [DataW.TrodAll])
 | [],[],d::ds,_,_,h,_=>absurd h (by simp [DataW.TrodAll])
 | t::ts,[],_,_,_,h,_=>absurd h (by simp [DataW.TrodAll])
 | t::ts,v::vs,[],_,_,h,_=>absurd h (by simp [DataW.TrodAll])
theorem lawPost {H:Type} {enc:TypeId×Value→H} {f:Func} {s:ChangeSpec} {W W':World} {args:Array Value} {ds:List (DataW H)} {before:List MemPlace}
  (hW:DataW.Whole enc Tryz.prog f.params.toList s.vars false W args.toList ds [] before) (hA:DataW.TrodAll enc Tryz.prog W 0 (fun _=>true) true f.params.toList args.toList ds before)
  (hv:s.vars=[]) (hres:f.resultTypes=#[4]) (hfn:s.fn H (ds++[])={ results:=[.lit (.bool true)],args:=ds }) (hr:∀ t∈f.params.toList,Tryz.prog.readableRec t=true∧t<Tryz.prog.types.size) (hb:Below W.heap.size W W') :
  ∃ v,Ending.returned (.bool true)=Ending.returned v∧ChangeSpec.post enc Tryz.prog f s false true false false W args v W':=by
 refine ⟨_,rfl,ds,[],before,[],before,[],hW,?_,?_,?_,?_,fun h=>by cases h⟩
 ·rw [hfn,hres]
  exact trodAll_cons_mk (shut_bool Tryz.underlying4 _) trodAll_mk0
 ·rw [hfn]
  exact trodAll_below lawLaid hb _ _ _ _ hr hA (fun x hx=>by simpa using hW.lt x hx)
 ·rw [hfn,hv];rfl
 ·exact hb.frame _
end Go.Proofs.YtjlkkofmojgipaaGreatDoor
