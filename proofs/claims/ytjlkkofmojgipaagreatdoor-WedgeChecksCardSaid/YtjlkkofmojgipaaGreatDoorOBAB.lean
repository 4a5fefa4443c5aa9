import Derived.Test.YtjlkkofmojgipaaGreatDoorPBA
import Derived.Test.YtjlkkofmojgipaaGreatDoorOBAA
import Derived.Test.YtjlkkofmojgipaaGreatDoorPBO
import Derived.Test.YtjlkkofmojgipaaGreatDoorPBP
import Derived.Test.YtjlkkofmojgipaaGreatDoorPAV
namespace Go.Proofs.YtjlkkofmojgipaaGreatDoor
set_option linter.unusedVariables false
set_option linter.unusedSimpArgs false
open Go.RowKit
theorem ints_nilW (w:World):Ints w (.slice none 0 0) []:=⟨[],rfl,by simp,⟨none,0,rfl,Nat.le_refl _,Nat.zero_le _,fun _=>rfl,fun h=>absurd rfl h⟩,by simp⟩
set_option maxRecDepth 100000 in
set_option maxHeartbeats 8000000 in
theorem wchecks_walk (n k:Int) (L:List ByteArray) (n' k':Int) (L':List ByteArray) (u v:Value) (w:World) (h:TxtV w u n k L) (h':TxtV w v n' k' L') (hlib:LibT w) (hb:4<w.heap.size) :
  Calls Tryz.prog 11 #[u,v] w fun e w'=>e=.returned (.bool true)∧Ext w w':=by
 have HKN:Hid (∀ W,Ext w W→Calls Tryz.prog 13 #[] W fun e w'=>e=.returned (.bool true)∧Ext W w'):=fun W hW=>known10_any W (hlib.ext hW) (Nat.lt_of_lt_of_le hb hW.size)
 have HT1:=Lib.hid h;have HT2:=Lib.hid h'
 obtain ⟨ua,rfl,hua⟩:=h
 obtain ⟨ub,rfl,hub⟩:=h'
 obtain ⟨a,ca,rfl,a1,a2,-,-⟩:=inCell.open hua
 obtain ⟨b,cb,rfl,b1,b2,-,-⟩:=inCell.open hub
 unfold maxLen at a2 b2
 obtain ⟨ma,hma⟩:∃ m,L.length=m:=⟨_,rfl⟩
 obtain ⟨mb,hmb⟩:∃ m,L'.length=m:=⟨_,rfl⟩
 rw [hma] at a1 HT1 ⊢
 rw [hmb] at b1 HT2 ⊢
 obtain ⟨w1,hw1,hE1,hs1,hb1⟩:=boxM w (.int .i64 n) (.int .i64 k) (.slice a ma ca)
 obtain ⟨w2,hw2,hE2,hs2,hb2⟩:=boxM w1 (.int .i64 n') (.int .i64 k') (.slice b mb cb)
 have HB1:=Lib.hid (block_ext hb1 hE2);have HB2:=Lib.hid hb2
 have HE_w2:Hid (Ext w w2):=hE1.trans hE2
 clear hb1 hb2 hE1 hE2 hs2 hs1 hua hub hma hmb hlib hb
 go_enter Tryz.func11,Tryz.ntmps11
 go_wp2_with fail
 refine (HKN.out w2 HE_w2.out).mono ?_
 rintro e w3 ⟨rfl,hE⟩
 have HE_w3:Hid (Ext w w3):=HE_w2.out.trans hE
 have HB1:=Lib.hid (block_ext HB1.out hE)
 have HB2:=Lib.hid (block_ext HB2.out hE)
 clear hE hw1 hw2
 have s1:=block_cell HB1.out
 by_cases hfw4:fewT n L
 rotate_left
 ·have HC:Hid (∀ W,Ext w W→Calls Tryz.prog 20 #[.agg #[.int .i64 n,.int .i64 k,.slice a ma ca]] W fun e w'=>e=.returned (.bool false)∧Ext W w'):=fun W hW=>by
   have h9:=few10_any n k L _ W (HT1.out.ext hW)
   rw [decide_eq_false hfw4] at h9;exact h9
  clear hfw4
  go_wp2_with fail
  refine (HC.out w3 HE_w3.out).mono ?_
  rintro e v9 ⟨rfl,hE⟩
  have HE_v9:Hid (Ext w v9):=HE_w3.out.trans hE
  clear hE HC s1
  go_wp2_with fail
  refine (HKN.out v9 HE_v9.out).mono ?_
  rintro e w9 ⟨rfl,hE9⟩
  go_wp2_with fail
  go_ret
  exact ⟨rfl,HE_v9.out.trans hE9⟩
 have HC:Hid (∀ W,Ext w W→Calls Tryz.prog 20 #[.agg #[.int .i64 n,.int .i64 k,.slice a ma ca]] W fun e w'=>e=.returned (.bool true)∧Ext W w'):=fun W hW=>by
  have h9:=few10_any n k L _ W (HT1.out.ext hW)
  rw [decide_eq_true hfw4] at h9;exact h9
 have HFw4:=Lib.hid hfw4
 clear hfw4
 go_wp2_with fail
 refine (HC.out w3 HE_w3.out).mono ?_
 rintro e w4 ⟨rfl,hE⟩
 have HE_w4:Hid (Ext w w4):=HE_w3.out.trans hE
 have HB1:=Lib.hid (block_ext HB1.out hE);have HB2:=Lib.hid (block_ext HB2.out hE)
 clear hE HC s1
 have s1:=block_cell HB2.out
 by_cases hfw5:fewT n' L'
 rotate_left
 ·have HC:Hid (∀ W,Ext w W→Calls Tryz.prog 20 #[.agg #[.int .i64 n',.int .i64 k',.slice b mb cb]] W fun e w'=>e=.returned (.bool false)∧Ext W w'):=fun W hW=>by
   have h9:=few10_any n' k' L' _ W (HT2.out.ext hW)
   rw [decide_eq_false hfw5] at h9;exact h9
  clear hfw5
  go_wp2_with fail
  refine (HC.out w4 HE_w4.out).mono ?_
  rintro e v9 ⟨rfl,hE⟩
  have HE_v9:Hid (Ext w v9):=HE_w4.out.trans hE
  clear hE HC s1
  go_wp2_with fail
  refine (HKN.out v9 HE_v9.out).mono ?_
  rintro e w9 ⟨rfl,hE9⟩
  go_wp2_with fail
  go_ret
  exact ⟨rfl,HE_v9.out.trans hE9⟩
 have HC:Hid (∀ W,Ext w W→Calls Tryz.prog 20 #[.agg #[.int .i64 n',.int .i64 k',.slice b mb cb]] W fun e w'=>e=.returned (.bool true)∧Ext W w'):=fun W hW=>by
  have h9:=few10_any n' k' L' _ W (HT2.out.ext hW)
  rw [decide_eq_true hfw5] at h9;exact h9
 have HFw5:=Lib.hid hfw5
 clear hfw5
 go_wp2_with fail
 refine (HC.out w4 HE_w4.out).mono ?_
 rintro e w5 ⟨rfl,hE⟩
 have HE_w5:Hid (Ext w w5):=HE_w4.out.trans hE
 have HB1:=Lib.hid (block_ext HB1.out hE);have HB2:=Lib.hid (block_ext HB2.out hE)
 clear hE HC s1
 have hZ1:∀ a∈L,a.size≤100000:=fun a ha=>by rcases HFw4.out.2.2 a ha with h | h <;> omega
 have hZ2:∀ a∈L',a.size≤100000:=fun a ha=>by rcases HFw5.out.2.2 a ha with h | h <;> omega
 obtain ⟨E,hE⟩:∃ E,chkX n k L=E:=⟨_,rfl⟩
 obtain ⟨q,hq⟩:∃ q,equalT n k L n' k' L'=q:=⟨_,rfl⟩
 have HR1:Hid (∀ W,Ext w W→Calls Tryz.prog 22 #[.agg #[.int .i64 n,.int .i64 k,.slice a ma ca]] W fun e w'=>e=.returned (.int .i64 E)∧Ext W w'):=fun W hW=>by
  have h9:=refChk10_any n k L _ W (HT1.out.ext hW) hZ1
  rw [hE] at h9;exact h9
 have HCK:Hid (∀ W,Ext w W→Calls Tryz.prog 47 #[.agg #[.int .i64 n,.int .i64 k,.slice a ma ca]] W fun e w'=>e=.returned (.int .i64 E)∧Ext W w'):=fun W hW=>by
  have h9:=checkT_any n k L _ W (HT1.out.ext hW) hZ1
  rw [hE] at h9;exact h9
 have HQ1:Hid (∀ W,Ext w W→Calls Tryz.prog 46 #[.agg #[.int .i64 n,.int .i64 k,.slice a ma ca],.agg #[.int .i64 n,.int .i64 k,.slice a ma ca]] W fun e w'=>e=.returned (.bool true)∧Ext W w'):=fun W hW=>by
  have h9:=equalMT_any n k L n k L _ _ W (HT1.out.ext hW) (HT1.out.ext hW)
  rw [equalT_self] at h9;exact h9
 have HQ2:Hid (∀ W,Ext w W→Calls Tryz.prog 46 #[.agg #[.int .i64 n,.int .i64 k,.slice a ma ca],.agg #[.int .i64 n',.int .i64 k',.slice b mb cb]] W fun e w'=>e=.returned (.bool q)∧Ext W w'):=fun W hW=>by
  have h9:=equalMT_any n k L n' k' L' _ _ W (HT1.out.ext hW) (HT2.out.ext hW)
  rw [hq] at h9;exact h9
 have HQ3:Hid (∀ W,Ext w W→Calls Tryz.prog 17 #[.agg #[.int .i64 n,.int .i64 k,.slice a ma ca],.agg #[.int .i64 n',.int .i64 k',.slice b mb cb]] W fun e w'=>e=.returned (.bool q)∧Ext W w'):=fun W hW=>by
  have h9:=sameMT_any n k L n' k' L' _ _ W (HT1.out.ext hW) (HT2.out.ext hW)
  rw [hq] at h9;exact h9
 have HP0:E≠0→∀ W,Ext w W→Calls Tryz.prog 42 #[.agg #[.int .i64 n,.int .i64 k,.slice a ma ca],.agg #[.int .i64 n',.int .i64 k',.slice b mb cb]] W fun e w'=>e=.returned (.tuple #[.agg #[.int .i64 0,.int .i64 0,.slice none 0 0],.int .i64 E])∧Ext W w':=fun h0 W hW=>by
  rw [← hE] at h0
  have h9:=prodE_any n k n' k' L L' _ _ W (HT1.out.ext hW) (HT2.out.ext hW) hZ1 hZ2 (by unfold prodErr;rw [if_pos h0];exact h0)
  rw [show prodErr n k L n' k' L'=chkX n k L from if_pos h0] at h9
  rw [hE] at h9;exact h9
 have HC0:E≠0→∀ W,Ext w W→Calls Tryz.prog 30 #[.agg #[.int .i64 n,.int .i64 k,.slice a ma ca]] W fun e w'=>e=.returned (.tuple #[.string ⟨#[]⟩,.int .i64 E])∧Ext W w':=fun h0 W hW=>by
  rw [← hE] at h0
  have h9:=contX_any n k L _ W (HT1.out.ext hW) hZ1 h0
  rw [hE] at h9;exact h9
 have HA0:E≠0→∀ W,Ext w W→Calls Tryz.prog 44 #[.agg #[.int .i64 n,.int .i64 k,.slice a ma ca]] W fun e w'=>e=.returned (.tuple #[.agg #[.int .i64 0,.int .i64 0,.slice none 0 0],.int .i64 E])∧Ext W w':=fun h0 W hW=>by
  rw [← hE] at h0
  have h9:=canonX_any n k L _ W (HT1.out.ext hW) hZ1 h0
  rw [hE] at h9;exact h9
 have HD0:E≠0→∀ W,Ext w W→Calls Tryz.prog 28 #[.agg #[.int .i64 n,.int .i64 k,.slice a ma ca]] W fun e w'=>e=.returned (.tuple #[.agg #[.int .i64 0,.int .i64 0,.slice none 0 0],.int .i64 E])∧Ext W w':=fun h0 W hW=>by
  rw [← hE] at h0
  have h9:=dualX_any n k L _ W (HT1.out.ext hW) hZ1 h0
  rw [hE] at h9;exact h9
 have HI0:E≠0→∀ W,Ext w W→Calls Tryz.prog 25 #[.agg #[.int .i64 n,.int .i64 k,.slice a ma ca],.slice none 0 0] W fun e w'=>e=.returned (.tuple #[.agg #[.int .i64 0,.int .i64 0,.slice none 0 0],.int .i64 E])∧Ext W w':=fun h0 W hW=>by
  rw [← hE] at h0
  have h9:=intE_any n k L [] _ _ W (HT1.out.ext hW) (ints_nilW W) hZ1 (by unfold intErr;rw [if_pos h0];exact h0)
  rw [show intErr n k L []=chkX n k L from if_pos h0] at h9
  rw [hE] at h9;exact h9
 have HM0:E≠0→∀ W,Ext w W→Calls Tryz.prog 35 #[.agg #[.int .i64 n,.int .i64 k,.slice a ma ca]] W fun e w'=>e=.returned (.tuple #[.bool false,.int .i64 E])∧Ext W w':=fun h0 W hW=>by
  rw [← hE] at h0
  have h9:=decX_any n k L _ W (HT1.out.ext hW) hZ1 h0
  rw [hE] at h9;exact h9
 have HL0:E≠0→∀ W,Ext w W→Calls Tryz.prog 36 #[.agg #[.int .i64 n,.int .i64 k,.slice a ma ca]] W fun e w'=>e=.returned (.tuple #[.slice none 0 0,.int .i64 E])∧Ext W w':=fun h0 W hW=>by
  rw [← hE] at h0
  have h9:=latX_any n k L _ W (HT1.out.ext hW) hZ1 h0
  rw [hE] at h9;exact h9
 have HP9:=Lib.hid HP0
 have HC9:=Lib.hid HC0
 have HA9:=Lib.hid HA0
 have HD9:=Lib.hid HD0
 have HI9:=Lib.hid HI0
 have HM9:=Lib.hid HM0
 have HL9:=Lib.hid HL0
 have q1:(E != E)=false:=bne_self_eq_false _
 have q3:(E == E)=true:=beq_self_eq_true _
 have q4:(q != q)=false:=bne_self_eq_false _
 clear hZ1 hZ2 hE hq HFw4 HFw5 HKN HT1 HT2 HP0 HC0 HA0 HD0 HI0 HM0 HL0
 have s1:=block_cell HB1.out
 go_wp2_with fail
 clear s1
 refine (plain10_any _ _ _ _ _ w5).mono ?_
 rintro e w6 ⟨rfl,hE⟩
 have HE_w6:Hid (Ext w w6):=HE_w5.out.trans hE
 have HB1:=Lib.hid (block_ext HB1.out hE)
 have HB2:=Lib.hid (block_ext HB2.out hE)
 clear hE
 go_wp2_with fail
 refine (HR1.out w6 HE_w6.out).mono ?_
 rintro e w7 ⟨rfl,hE⟩
 have HE_w7:Hid (Ext w w7):=HE_w6.out.trans hE
 have HB1:=Lib.hid (block_ext HB1.out hE)
 have HB2:=Lib.hid (block_ext HB2.out hE)
 clear hE HR1
 go_upto_region 4 with fail
 go_cut [54] from 36 to 54 (fun t wx=>t=.bool false∧Hid (Ext w7 wx))
 case first =>
  refine region_anyEV (fun w'=>Hid (w'.heap[w.heap.size]?=some (.cells #[.int .i64 n,.int .i64 k,.slice a ma ca] 31 (0,0)))∧Hid (w'.heap[w1.heap.size]?=some (.cells #[.int .i64 n',.int .i64 k',.slice b mb cb] 31 (0,0)))∧Hid (Ext w7 w')) 19 19 (by kernel_rfl) (by kernel_rfl) ⟨block_ext HB1.out (Ext.drew w7),block_ext HB2.out (Ext.drew w7),Ext.drew w7⟩ (fun ops hO hHeld=>?_)
  have hi:=getopN hO 0 (by decide)
  conv at hi=>rhs;arg 1;whnf
  refine anyE_takeV hO (v:=?_) 0 hi (by kernel_rfl) (by kernel_rfl) (by kernel_rfl) (by kernel_rfl) (fun _ _ _ h=>h) (Or.inl ⟨by rfl,?_⟩) (by assumption) ?_
  rotate_left
  ·((intro w' hSw);(try dsimp only at hSw);have sb:=block_cell hSw.1.out;have sc:=block_cell hSw.2.1.out;(try go_simp);(try with_reducible rfl))
  clear hi
  (try simp only [Act.put,List.setIfInBounds_toArray,List.set_cons_zero,List.set_cons_succ])
  have hi:=getopN hO 2 (by decide)
  conv at hi=>rhs;arg 1;whnf
  refine anyE_takeWV hO (v:=?_) 2 hi (by kernel_rfl) (by kernel_rfl) (by kernel_rfl) (by kernel_rfl) (fun _ _ _ h=>h) (Or.inl ⟨by rfl,?_⟩) (by assumption) ?_
  rotate_left
  ·((intro w');(try go_simp);(try with_reducible rfl))
  clear hi
  (try simp only [Act.put,List.setIfInBounds_toArray,List.set_cons_zero,List.set_cons_succ])
  have hi:=getopN hO 1 (by decide)
  conv at hi=>rhs;arg 1;whnf
  refine anyE_stepV hO 1 (by kernel_rfl) hi (fun K hK=>?_)
  go_simp
  (go_at_call 47;refine (HCK.out _ (HE_w7.out.trans hHeld.2.2.out)).mono ?_)
  rintro e wz ⟨rfl,hEz⟩
  go_wp2_with fail
  refine hK.out _ _ ⟨block_ext hHeld.1.out hEz,block_ext hHeld.2.1.out hEz,Ext.trans hHeld.2.2.out hEz⟩ (fun hHeld=>?_)
  clear hK K hi
  (try simp only [Act.put,List.setIfInBounds_toArray,List.set_cons_zero,List.set_cons_succ])
  have hi:=getopN hO 3 (by decide)
  conv at hi=>rhs;arg 1;whnf
  refine anyE_takeWV hO (v:=?_) 3 hi (by kernel_rfl) (by kernel_rfl) (by kernel_rfl) (by kernel_rfl) (fun _ _ _ h=>h) (Or.inl ⟨by rfl,?_⟩) (by assumption) ?_
  rotate_left
  ·((intro w');(try go_simp);(try with_reducible rfl))
  clear hi
  (try simp only [Act.put,List.setIfInBounds_toArray,List.set_cons_zero,List.set_cons_succ])
  have hi:=getopN hO 4 (by decide)
  conv at hi=>rhs;arg 1;whnf
  refine anyE_takeWV hO (v:=?_) 4 hi (by kernel_rfl) (by kernel_rfl) (by kernel_rfl) (by kernel_rfl) (fun _ _ _ h=>h) (Or.inl ⟨by rfl,?_⟩) (by assumption) ?_
  rotate_left
  ·((intro w');(try go_simp);(try with_reducible rfl))
  clear hi
  (try simp only [Act.put,List.setIfInBounds_toArray,List.set_cons_zero,List.set_cons_succ])
  have hi:=getopN hO 5 (by decide)
  conv at hi=>rhs;arg 1;whnf
  refine anyE_takeV hO (v:=?_) 5 hi (by kernel_rfl) (by kernel_rfl) (by kernel_rfl) (by kernel_rfl) (fun _ _ _ h=>h) (Or.inl ⟨by rfl,?_⟩) (by assumption) ?_
  rotate_left
  ·((intro w' hSw);(try dsimp only at hSw);have sb:=block_cell hSw.1.out;have sc:=block_cell hSw.2.1.out;(try go_simp);(try with_reducible rfl))
  clear hi
  (try simp only [Act.put,List.setIfInBounds_toArray,List.set_cons_zero,List.set_cons_succ])
  have hi:=getopN hO 6 (by decide)
  conv at hi=>rhs;arg 1;whnf
  refine anyE_takeV hO (v:=?_) 6 hi (by kernel_rfl) (by kernel_rfl) (by kernel_rfl) (by kernel_rfl) (fun _ _ _ h=>h) (Or.inl ⟨by rfl,?_⟩) (by assumption) ?_
  rotate_left
  ·((intro w' hSw);(try dsimp only at hSw);have sb:=block_cell hSw.1.out;have sc:=block_cell hSw.2.1.out;(try go_simp);(try with_reducible rfl))
  clear hi
  (try simp only [Act.put,List.setIfInBounds_toArray,List.set_cons_zero,List.set_cons_succ])
  have hi:=getopN hO 7 (by decide)
  conv at hi=>rhs;arg 1;whnf
  refine anyE_stepV hO 7 (by kernel_rfl) hi (fun K hK=>?_)
  go_simp
  (go_at_call 46;refine (HQ1.out _ (HE_w7.out.trans hHeld.2.2.out)).mono ?_)
  rintro e wz2 ⟨rfl,hEz⟩
  go_wp2_with fail
  refine hK.out _ _ ⟨block_ext hHeld.1.out hEz,block_ext hHeld.2.1.out hEz,Ext.trans hHeld.2.2.out hEz⟩ (fun hHeld=>?_)
  clear hK K hi
  (try simp only [Act.put,List.setIfInBounds_toArray,List.set_cons_zero,List.set_cons_succ])
  have hi:=getopN hO 8 (by decide)
  conv at hi=>rhs;arg 1;whnf
  refine anyE_takeWV hO (v:=?_) 8 hi (by kernel_rfl) (by kernel_rfl) (by kernel_rfl) (by kernel_rfl) (fun _ _ _ h=>h) (Or.inl ⟨by rfl,?_⟩) (by assumption) ?_
  rotate_left
  ·((intro w');(try go_simp);(try with_reducible rfl))
  clear hi
  (try simp only [Act.put,List.setIfInBounds_toArray,List.set_cons_zero,List.set_cons_succ])
  have hi:=getopN hO 9 (by decide)
  conv at hi=>rhs;arg 1;whnf
  refine anyE_takeWV hO (v:=?_) 9 hi (by kernel_rfl) (by kernel_rfl) (by kernel_rfl) (by kernel_rfl) (fun _ _ _ h=>h) (Or.inl ⟨by rfl,?_⟩) (by assumption) ?_
  rotate_left
  ·((intro w');(try go_simp);(try with_reducible rfl))
  clear hi
  (try simp only [Act.put,List.setIfInBounds_toArray,List.set_cons_zero,List.set_cons_succ])
  have hi:=getopN hO 10 (by decide)
  conv at hi=>rhs;arg 1;whnf
  refine anyE_takeWV hO (v:=?_) 10 hi (by kernel_rfl) (by kernel_rfl) (by kernel_rfl) (by kernel_rfl) (fun _ _ _ h=>h) (Or.inl ⟨by rfl,?_⟩) (by assumption) ?_
  rotate_left
  ·((intro w');(try go_simp);(try with_reducible rfl))
  clear hi
  (try simp only [Act.put,List.setIfInBounds_toArray,List.set_cons_zero,List.set_cons_succ])
  have hi:=getopN hO 11 (by decide)
  conv at hi=>rhs;arg 1;whnf
  refine anyE_takeV hO (v:=?_) 11 hi (by kernel_rfl) (by kernel_rfl) (by kernel_rfl) (by kernel_rfl) (fun _ _ _ h=>h) (Or.inl ⟨by rfl,?_⟩) (by assumption) ?_
  rotate_left
  ·((intro w' hSw);(try dsimp only at hSw);have sb:=block_cell hSw.1.out;have sc:=block_cell hSw.2.1.out;(try go_simp);(try with_reducible rfl))
  clear hi
  (try simp only [Act.put,List.setIfInBounds_toArray,List.set_cons_zero,List.set_cons_succ])
  have hi:=getopN hO 12 (by decide)
  conv at hi=>rhs;arg 1;whnf
  refine anyE_takeV hO (v:=?_) 12 hi (by kernel_rfl) (by kernel_rfl) (by kernel_rfl) (by kernel_rfl) (fun _ _ _ h=>h) (Or.inl ⟨by rfl,?_⟩) (by assumption) ?_
  rotate_left
  ·((intro w' hSw);(try dsimp only at hSw);have sb:=block_cell hSw.1.out;have sc:=block_cell hSw.2.1.out;(try go_simp);(try with_reducible rfl))
  clear hi
  (try simp only [Act.put,List.setIfInBounds_toArray,List.set_cons_zero,List.set_cons_succ])
  have hi:=getopN hO 14 (by decide)
  conv at hi=>rhs;arg 1;whnf
  refine anyE_takeV hO (v:=?_) 14 hi (by kernel_rfl) (by kernel_rfl) (by kernel_rfl) (by kernel_rfl) (fun _ _ _ h=>h) (Or.inl ⟨by rfl,?_⟩) (by assumption) ?_
  rotate_left
  ·((intro w' hSw);(try dsimp only at hSw);have sb:=block_cell hSw.1.out;have sc:=block_cell hSw.2.1.out;(try go_simp);(try with_reducible rfl))
  clear hi
  (try simp only [Act.put,List.setIfInBounds_toArray,List.set_cons_zero,List.set_cons_succ])
  have hi:=getopN hO 15 (by decide)
  conv at hi=>rhs;arg 1;whnf
  refine anyE_takeV hO (v:=?_) 15 hi (by kernel_rfl) (by kernel_rfl) (by kernel_rfl) (by kernel_rfl) (fun _ _ _ h=>h) (Or.inl ⟨by rfl,?_⟩) (by assumption) ?_
  rotate_left
  ·((intro w' hSw);(try dsimp only at hSw);have sb:=block_cell hSw.1.out;have sc:=block_cell hSw.2.1.out;(try go_simp);(try with_reducible rfl))
  clear hi
  (try simp only [Act.put,List.setIfInBounds_toArray,List.set_cons_zero,List.set_cons_succ])
  have hi:=getopN hO 13 (by decide)
  conv at hi=>rhs;arg 1;whnf
  refine anyE_stepV hO 13 (by kernel_rfl) hi (fun K hK=>?_)
  go_simp
  (go_at_call 46;refine (HQ2.out _ (HE_w7.out.trans hHeld.2.2.out)).mono ?_)
  rintro e wq1 ⟨rfl,hEz⟩
  go_wp2_with fail
  refine hK.out _ _ ⟨block_ext hHeld.1.out hEz,block_ext hHeld.2.1.out hEz,Ext.trans hHeld.2.2.out hEz⟩ (fun hHeld=>?_)
  clear hK K hi
  (try simp only [Act.put,List.setIfInBounds_toArray,List.set_cons_zero,List.set_cons_succ])
  have hi:=getopN hO 16 (by decide)
  conv at hi=>rhs;arg 1;whnf
  refine anyE_stepV hO 16 (by kernel_rfl) hi (fun K hK=>?_)
  go_simp
  (go_at_call 17;refine (HQ3.out _ (HE_w7.out.trans hHeld.2.2.out)).mono ?_)
  rintro e wq2 ⟨rfl,hEz⟩
  go_wp2_with fail
  refine hK.out _ _ ⟨block_ext hHeld.1.out hEz,block_ext hHeld.2.1.out hEz,Ext.trans hHeld.2.2.out hEz⟩ (fun hHeld=>?_)
  clear hK K hi
  (try simp only [Act.put,List.setIfInBounds_toArray,List.set_cons_zero,List.set_cons_succ])
  have hi:=getopN hO 17 (by decide)
  conv at hi=>rhs;arg 1;whnf
  refine anyE_takeWV hO (v:=?_) 17 hi (by kernel_rfl) (by kernel_rfl) (by kernel_rfl) (by kernel_rfl) (fun _ _ _ h=>h) (Or.inl ⟨by rfl,?_⟩) (by assumption) ?_
  rotate_left
  ·((intro w');(try go_simp);(try with_reducible rfl))
  clear hi
  (try simp only [Act.put,List.setIfInBounds_toArray,List.set_cons_zero,List.set_cons_succ])
  have hi:=getopN hO 18 (by decide)
  conv at hi=>rhs;arg 1;whnf
  refine anyE_lastV hO 18 (by kernel_rfl) (by kernel_rfl) hi (fun K hK=>?_)
  go_simp
  refine hK.out _ _ hHeld ?_
  clear hK K hi hO
  (try simp only [Act.put,List.setIfInBounds_toArray,List.set_cons_zero,List.set_cons_succ])
  go_wp2_with fail
  go_meet
  exact ⟨rfl,hHeld.2.2⟩
 case rest =>
 obtain ⟨rfl,HXc⟩:=hcut
 obtain ⟨w8,rfl⟩:∃ w8:World,w8=wc:=⟨_,rfl⟩
 have HE_w8:Hid (Ext w w8):=HE_w7.out.trans HXc.out
 have HB1:=Lib.hid (block_ext HB1.out HXc.out)
 have HB2:=Lib.hid (block_ext HB2.out HXc.out)
 clear q1 q4 HCK HQ1 HQ2 HQ3
 by_cases h0:E=0
 ·have q2:(E == 0)=true:=by rw [h0];rfl
  go_wp2_with fail
  go_ret
  exact ⟨rfl,HE_w8.out⟩
 have q2:(E == 0)=false:=beq_eq_false_iff_ne.2 h0
 have HPE:=Lib.hid (HP9.out h0)
 have HCE:=Lib.hid (HC9.out h0)
 have HAE:=Lib.hid (HA9.out h0)
 have HDE:=Lib.hid (HD9.out h0)
 have HIE:=Lib.hid (HI9.out h0)
 have HME:=Lib.hid (HM9.out h0)
 have HLE:=Lib.hid (HL9.out h0)
 clear h0 HP9 HC9 HA9 HD9 HI9 HM9 HL9
 have s1:=block_cell HB1.out
 have s2:=block_cell HB2.out
 go_wp2_with fail
 clear s1 s2
 (try clear r0 f0 hU hV)
 refine (HPE.out w8 HE_w8.out).mono ?_
 rintro e v1 ⟨rfl,hE⟩
 have HE_v1:Hid (Ext w v1):=HE_w8.out.trans hE
 have HB1:=Lib.hid (block_ext HB1.out hE)
 have HB2:=Lib.hid (block_ext HB2.out hE)
 clear hE HPE
 obtain ⟨V1,hV,hX,hs9,hb⟩:=boxM v1 (.int .i64 0) (.int .i64 0) (.slice none 0 0)
 have r0:=block_cell hb
 have f0:=block_free hb
 have HZP:=Lib.hid (multi_store hb (.int .i64 0) (.int .i64 0) (.slice none 0 0))
 have HXU1:=Lib.hid (multi_ext (B:=v1.heap.size) hX (Nat.le_refl _) (.int .i64 0) (.int .i64 0) (.slice none 0 0))
 obtain ⟨U1,hU⟩:∃ U,((V1.setCell ⟨v1.heap.size,0,none⟩ (.int .i64 0)).setCell ⟨v1.heap.size,1,none⟩ (.int .i64 0)).setCell ⟨v1.heap.size,2,none⟩ (.slice none 0 0)=U:=⟨_,rfl⟩
 rw [hU] at HZP HXU1
 clear hX hs9 hb
 have HE_U1:Hid (Ext w U1):=HE_v1.out.trans HXU1.out
 have HB1:=Lib.hid (block_ext HB1.out HXU1.out)
 have HB2:=Lib.hid (block_ext HB2.out HXU1.out)
 have s1:=block_cell HB1.out
 go_wp2_with fail
 clear s1
 (try clear r0 f0 hU hV)
 refine (HCE.out U1 HE_U1.out).mono ?_
 rintro e v2 ⟨rfl,hE⟩
 have HE_v2:Hid (Ext w v2):=HE_U1.out.trans hE
 have HB1:=Lib.hid (block_ext HB1.out hE)
 have HB2:=Lib.hid (block_ext HB2.out hE)
 have HZP:=Lib.hid (block_ext HZP.out hE)
 clear hE HCE
 have s1:=block_cell HB1.out
 go_wp2_with fail
 clear s1
 (try clear r0 f0 hU hV)
 refine (HAE.out v2 HE_v2.out).mono ?_
 rintro e v3 ⟨rfl,hE⟩
 have HE_v3:Hid (Ext w v3):=HE_v2.out.trans hE
 have HB1:=Lib.hid (block_ext HB1.out hE)
 have HB2:=Lib.hid (block_ext HB2.out hE)
 have HZP:=Lib.hid (block_ext HZP.out hE)
 clear hE HAE
 obtain ⟨V3,hV,hX,hs9,hb⟩:=boxM v3 (.int .i64 0) (.int .i64 0) (.slice none 0 0)
 have r0:=block_cell hb
 have f0:=block_free hb
 have HZA:=Lib.hid (multi_store hb (.int .i64 0) (.int .i64 0) (.slice none 0 0))
 have HXU3:=Lib.hid (multi_ext (B:=v3.heap.size) hX (Nat.le_refl _) (.int .i64 0) (.int .i64 0) (.slice none 0 0))
 obtain ⟨U3,hU⟩:∃ U,((V3.setCell ⟨v3.heap.size,0,none⟩ (.int .i64 0)).setCell ⟨v3.heap.size,1,none⟩ (.int .i64 0)).setCell ⟨v3.heap.size,2,none⟩ (.slice none 0 0)=U:=⟨_,rfl⟩
 rw [hU] at HZA HXU3
 clear hX hs9 hb
 have HE_U3:Hid (Ext w U3):=HE_v3.out.trans HXU3.out
 have HB1:=Lib.hid (block_ext HB1.out HXU3.out)
 have HB2:=Lib.hid (block_ext HB2.out HXU3.out)
 have HZP:=Lib.hid (block_ext HZP.out HXU3.out)
 have s1:=block_cell HB1.out
 go_wp2_with fail
 clear s1
 (try clear r0 f0 hU hV)
 refine (HDE.out U3 HE_U3.out).mono ?_
 rintro e v4 ⟨rfl,hE⟩
 have HE_v4:Hid (Ext w v4):=HE_U3.out.trans hE
 have HB1:=Lib.hid (block_ext HB1.out hE)
 have HB2:=Lib.hid (block_ext HB2.out hE)
 have HZP:=Lib.hid (block_ext HZP.out hE)
 have HZA:=Lib.hid (block_ext HZA.out hE)
 clear hE HDE
 obtain ⟨V4,hV,hX,hs9,hb⟩:=boxM v4 (.int .i64 0) (.int .i64 0) (.slice none 0 0)
 have r0:=block_cell hb
 have f0:=block_free hb
 have HZD:=Lib.hid (multi_store hb (.int .i64 0) (.int .i64 0) (.slice none 0 0))
 have HXU4:=Lib.hid (multi_ext (B:=v4.heap.size) hX (Nat.le_refl _) (.int .i64 0) (.int .i64 0) (.slice none 0 0))
 obtain ⟨U4,hU⟩:∃ U,((V4.setCell ⟨v4.heap.size,0,none⟩ (.int .i64 0)).setCell ⟨v4.heap.size,1,none⟩ (.int .i64 0)).setCell ⟨v4.heap.size,2,none⟩ (.slice none 0 0)=U:=⟨_,rfl⟩
 rw [hU] at HZD HXU4
 clear hX hs9 hb
 have HE_U4:Hid (Ext w U4):=HE_v4.out.trans HXU4.out
 have HB1:=Lib.hid (block_ext HB1.out HXU4.out)
 have HB2:=Lib.hid (block_ext HB2.out HXU4.out)
 have HZP:=Lib.hid (block_ext HZP.out HXU4.out)
 have HZA:=Lib.hid (block_ext HZA.out HXU4.out)
 have s1:=block_cell HB1.out
 go_wp2_with fail
 clear s1
 (try clear r0 f0 hU hV)
 refine (HIE.out U4 HE_U4.out).mono ?_
 rintro e v5 ⟨rfl,hE⟩
 have HE_v5:Hid (Ext w v5):=HE_U4.out.trans hE
 have HB1:=Lib.hid (block_ext HB1.out hE)
 have HB2:=Lib.hid (block_ext HB2.out hE)
 have HZP:=Lib.hid (block_ext HZP.out hE)
 have HZA:=Lib.hid (block_ext HZA.out hE)
 have HZD:=Lib.hid (block_ext HZD.out hE)
 clear hE HIE
 obtain ⟨V5,hV,hX,hs9,hb⟩:=boxM v5 (.int .i64 0) (.int .i64 0) (.slice none 0 0)
 have r0:=block_cell hb
 have f0:=block_free hb
 have HZI:=Lib.hid (multi_store hb (.int .i64 0) (.int .i64 0) (.slice none 0 0))
 have HXU5:=Lib.hid (multi_ext (B:=v5.heap.size) hX (Nat.le_refl _) (.int .i64 0) (.int .i64 0) (.slice none 0 0))
 obtain ⟨U5,hU⟩:∃ U,((V5.setCell ⟨v5.heap.size,0,none⟩ (.int .i64 0)).setCell ⟨v5.heap.size,1,none⟩ (.int .i64 0)).setCell ⟨v5.heap.size,2,none⟩ (.slice none 0 0)=U:=⟨_,rfl⟩
 rw [hU] at HZI HXU5
 clear hX hs9 hb
 have HE_U5:Hid (Ext w U5):=HE_v5.out.trans HXU5.out
 have HB1:=Lib.hid (block_ext HB1.out HXU5.out)
 have HB2:=Lib.hid (block_ext HB2.out HXU5.out)
 have HZP:=Lib.hid (block_ext HZP.out HXU5.out)
 have HZA:=Lib.hid (block_ext HZA.out HXU5.out)
 have HZD:=Lib.hid (block_ext HZD.out HXU5.out)
 have s1:=block_cell HB1.out
 go_wp2_with fail
 clear s1
 (try clear r0 f0 hU hV)
 refine (HME.out U5 HE_U5.out).mono ?_
 rintro e v6 ⟨rfl,hE⟩
 have HE_v6:Hid (Ext w v6):=HE_U5.out.trans hE
 have HB1:=Lib.hid (block_ext HB1.out hE)
 have HB2:=Lib.hid (block_ext HB2.out hE)
 have HZP:=Lib.hid (block_ext HZP.out hE)
 have HZA:=Lib.hid (block_ext HZA.out hE)
 have HZD:=Lib.hid (block_ext HZD.out hE)
 have HZI:=Lib.hid (block_ext HZI.out hE)
 clear hE HME
 have s1:=block_cell HB1.out
 go_wp2_with fail
 clear s1
 (try clear r0 f0 hU hV)
 refine (HLE.out v6 HE_v6.out).mono ?_
 rintro e v7 ⟨rfl,hE⟩
 have HE_v7:Hid (Ext w v7):=HE_v6.out.trans hE
 have HB1:=Lib.hid (block_ext HB1.out hE)
 have HB2:=Lib.hid (block_ext HB2.out hE)
 have HZP:=Lib.hid (block_ext HZP.out hE)
 have HZA:=Lib.hid (block_ext HZA.out hE)
 have HZD:=Lib.hid (block_ext HZD.out hE)
 have HZI:=Lib.hid (block_ext HZI.out hE)
 clear hE HLE
 have s5:=block_cell HZP.out
 go_wp2_with fail
 clear s5
 refine (none_yes v7).mono ?_
 rintro e y0 ⟨rfl,hE⟩
 have HE_y0:Hid (Ext w y0):=HE_v7.out.trans hE
 have HB1:=Lib.hid (block_ext HB1.out hE)
 have HB2:=Lib.hid (block_ext HB2.out hE)
 have HZP:=Lib.hid (block_ext HZP.out hE)
 have HZA:=Lib.hid (block_ext HZA.out hE)
 have HZD:=Lib.hid (block_ext HZD.out hE)
 have HZI:=Lib.hid (block_ext HZI.out hE)
 clear hE
 have s5:=block_cell HZA.out
 go_wp2_with fail
 clear s5
 refine (none_yes y0).mono ?_
 rintro e y1 ⟨rfl,hE⟩
 have HE_y1:Hid (Ext w y1):=HE_y0.out.trans hE
 have HB1:=Lib.hid (block_ext HB1.out hE)
 have HB2:=Lib.hid (block_ext HB2.out hE)
 have HZP:=Lib.hid (block_ext HZP.out hE)
 have HZA:=Lib.hid (block_ext HZA.out hE)
 have HZD:=Lib.hid (block_ext HZD.out hE)
 have HZI:=Lib.hid (block_ext HZI.out hE)
 clear hE
 have s5:=block_cell HZD.out
 go_wp2_with fail
 clear s5
 refine (none_yes y1).mono ?_
 rintro e y2 ⟨rfl,hE⟩
 have HE_y2:Hid (Ext w y2):=HE_y1.out.trans hE
 have HB1:=Lib.hid (block_ext HB1.out hE)
 have HB2:=Lib.hid (block_ext HB2.out hE)
 have HZP:=Lib.hid (block_ext HZP.out hE)
 have HZA:=Lib.hid (block_ext HZA.out hE)
 have HZD:=Lib.hid (block_ext HZD.out hE)
 have HZI:=Lib.hid (block_ext HZI.out hE)
 clear hE
 have s5:=block_cell HZI.out
 go_wp2_with fail
 clear s5
 refine (none_yes y2).mono ?_
 rintro e y3 ⟨rfl,hE⟩
 have HE_y3:Hid (Ext w y3):=HE_y2.out.trans hE
 have HB1:=Lib.hid (block_ext HB1.out hE)
 have HB2:=Lib.hid (block_ext HB2.out hE)
 have HZP:=Lib.hid (block_ext HZP.out hE)
 have HZA:=Lib.hid (block_ext HZA.out hE)
 have HZD:=Lib.hid (block_ext HZD.out hE)
 have HZI:=Lib.hid (block_ext HZI.out hE)
 clear hE
 go_wp2_with fail
 go_ret
 exact ⟨rfl,HE_y3.out⟩
end Go.Proofs.YtjlkkofmojgipaaGreatDoor
