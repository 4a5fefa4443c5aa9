import Derived.Test.YtjlkkofmojgipaaGreatDoorTAF
import Derived.Test.YtjlkkofmojgipaaGreatDoorTBN
import Derived.Test.YtjlkkofmojgipaaGreatDoorTBK
import Derived.Test.YtjlkkofmojgipaaGreatDoorTBF
import Derived.Test.YtjlkkofmojgipaaGreatDoorTBJ
namespace Go.Proofs.YtjlkkofmojgipaaGreatDoor
set_option linter.unusedVariables false
set_option linter.unusedSimpArgs false
open Go.RowKit
set_option maxRecDepth 100000 in
set_option maxHeartbeats 2000000 in
theorem refCont10_any (n k:Int) (X:List Int) (r:Value) (w:World) (h:ListAt 1 numC w r X) (hd:Digits400 X) (ht:Pow10 w) :
  Calls Tryz.prog 41 #[.agg #[.int .i64 n,.int .i64 k,r]] w fun e w'=>e=.returned (.string (intB (contL X:Int)))∧Ext w w':=by
 obtain ⟨a,c,rfl,h1,h2,-,hc⟩:=inCell.open (BigL.of_nums h)
 unfold maxLen at h2
 have HC:=Lib.hid hc;have HT:=Lib.hid ht;have HDG:=Lib.hid hd
 obtain ⟨m,hm⟩:∃ m,X.length=m:=⟨_,rfl⟩
 have HL:=Lib.hid hm
 rw [hm] at h1 ⊢
 obtain ⟨w1,hw1,hE1,hs1,hb1⟩:=boxR w (.int .i64 n) (.int .i64 k) (.slice a m c)
 have HB:=Lib.hid hb1;have HE1:=Lib.hid hE1
 have k1:=block_cell hb1
 have hz:intB ((contTo X 0:Nat):Int)=⟨#[48]⟩:=by
  rw [show contTo X 0=0 from rfl];decide +kernel
 have HZ:=Lib.hid hz
 clear hb1 hE1 hs1 h hc hm hd ht hz
 go_enter Tryz.func41,Tryz.ntmps41
 go_wp2_with fail
 clear k1 hw1
 go_loopw [3,4] (fun s t wr=>∃ j:Nat,j≤m∧s=.string (intB (contTo X j:Int))∧t=.int .i64 j∧Hid (Ext w1 wr)) (fun _ t _=>m+1-(intOf t).toNat)
 case atStart=>exact ⟨0,by omega,by rw [HZ.out],rfl,by first | exact Ext.refl _ | exact Ext.drew _⟩
 case round =>
  obtain ⟨j,hj,rfl,rfl,HX⟩:=hrel
  have k1:=block_cell (block_ext HB.out HX.out)
  by_cases hlt:j<m
  ·obtain ⟨x,hx⟩:∃ x,X[j]?=some x:=⟨_,List.getElem?_eq_getElem (by have:=HL.out;omega)⟩
   obtain ⟨b,off,rfl,hb,hcell⟩:=HC.out (by intro e;rw [e] at hx;simp at hx)
   obtain ⟨z9,e1,g1⟩:=hcell j x hx
   obtain rfl:z9=.string (intB x):=e1
   have g1:=HX.out.cell (HE1.out.cell g1)
   have q1:(j:Int)<(m:Int):=by omega
   have h2:((contTo X j:Nat):Int).natAbs<10^400:=by
    rw [Int.natAbs_natCast]
    exact contTo_lt (Nat.pow_pos (by decide)) HDG.out (by rw [HL.out];exact hj)
   have h9:=rGcdG_any ((contTo X j:Nat):Int) x wr (by have:=(digits_size h2).2;omega) (by have:=(digits_size (HDG.out x (List.mem_of_getElem? hx))).2;omega) (HT.out.ext (HE1.out.trans HX.out))
   rw [Int.natAbs_natCast,← contTo_succ hx] at h9
   have h8:numB (contTo X (j+1))=intB ((contTo X (j+1):Nat):Int):=by rw [intB_pos _ (by omega),Int.toNat_natCast]
   rw [h8] at h9
   have HG:=Lib.hid h9
   obtain ⟨u1,hu1⟩:∃ u,intB ((contTo X j:Nat):Int)=u:=⟨_,rfl⟩
   obtain ⟨u2,hu2⟩:∃ u,intB ((contTo X (j+1):Nat):Int)=u:=⟨_,rfl⟩
   obtain ⟨u3,hu3⟩:∃ u,intB x=u:=⟨_,rfl⟩
   have HU2:=Lib.hid hu2
   rw [hu1,hu2,hu3] at HG
   rw [hu1]
   rw [hu3] at g1
   clear hcell hx hb h2 h9 h8 hu1 hu2 hu3
   go_wp2_with fail
   refine HG.out.mono ?_
   rintro e w7 ⟨rfl,h7⟩
   have HX7:Hid (Ext w1 w7):=HX.out.trans h7
   clear h7 HG
   go_wp2_with fail
   go_roundw
   case rel=>exact ⟨j+1,by omega,by rw [HU2.out],by go_num,HX7.out⟩
   case measure=>simp [intOf];omega
  ·obtain rfl:j=m:=by omega
   have HV:Hid (contL X=contTo X j):=by unfold Hid contL;rw [HL.out]
   obtain ⟨u1,hu1⟩:∃ u,intB ((contTo X j:Nat):Int)=u:=⟨_,rfl⟩
   have HU1:=Lib.hid hu1
   rw [hu1]
   clear hu1
   go_wp2_with fail
   go_ret
   exact ⟨by rw [HV.out,HU1.out];rfl,HE1.out.trans HX.out⟩
theorem fdq_size (x d:Int) (hd:d≠0):(intB (fdq x d)).size≤(intB x).size+2:=by
 have h1:(fdq x d).natAbs≤x.natAbs+1:=by
  have h2:(x.tdiv d).natAbs≤x.natAbs:=by rw [Int.natAbs_tdiv];exact Nat.div_le_self _ _
  unfold fdq
  split <;> omega
 have h3:=intB_size_le (fdq x d)
 have h4:=num_le_mono h1
 have h5:=num_add_size x.natAbs 1
 have h6:(numB 1).size=1:=by decide +kernel
 have h7:=nat_size_le x
 have h8:1≤(numB x.natAbs).size:=by rw [numB_size];exact Lib.nDigits_pos _
 by_cases h0:0≤fdq x d
 ·rw [intB_pos _ h0]
  have e:(fdq x d).toNat=(fdq x d).natAbs:=by omega
  rw [e];omega
 ·omega
set_option maxRecDepth 100000 in
set_option maxHeartbeats 4000000 in
theorem refCanon10_zero {n k:Nat} {X:List Int} (hX:Digits400 X) (hXp:0<X.length) (hXl:X.length≤924) (hd0:contL X=0) (r:Value) (w:World) (h:ListAt 1 numC w r X) (ht:Pow10 w) :
  Calls Tryz.prog 40 #[.agg #[.int .i64 n,.int .i64 k,r]] w fun e w'=>∃ y,e=.returned y∧Ext w w'∧MultiV w' y n k (canW X):=by
 have HV:=Lib.hid h
 obtain ⟨a,c,rfl,h1,h2,-,hc⟩:=inCell.open (BigL.of_nums h)
 unfold maxLen at h2
 have HC:=Lib.hid hc;have HT:=Lib.hid ht;have HDG:=Lib.hid hX
 obtain ⟨m,hm⟩:∃ m,X.length=m:=⟨_,rfl⟩
 have HL:=Lib.hid hm
 rw [hm] at h1 hXp hXl HV ⊢
 obtain ⟨w1,hw1,hE1,hs1,hb1⟩:=boxR w (.int .i64 n) (.int .i64 k) (.slice a m c)
 obtain ⟨w2,hw2,hE2,hs2,hb2⟩:=boxR w1 (.int .i64 0) (.int .i64 0) (.slice none 0 0)
 obtain ⟨w3,hw3,hE3,hs3,hb3⟩:=boxR w2 (.int .i64 0) (.int .i64 0) (.slice none 0 0)
 have HE2:=Lib.hid (hE1.trans hE2);have HE3:=Lib.hid hE3
 have HB1:=Lib.hid (block_ext hb1 hE2);have HB2:=Lib.hid hb2;have HB3:=Lib.hid hb3
 have HSZ:Hid (w1.heap.size=w.heap.size+1∧w2.heap.size=w1.heap.size+1):=⟨hs1,hs2⟩
 have c0:=block_cell HB1.out 0;have c1:=block_cell HB1.out 1
 simp only [List.getElem?_toArray,List.getElem?_cons_succ,List.getElem?_cons_zero] at c0 c1
 have f3:=block_free hb3
 have k3:=block_cell hb3
 have HCL:Hid ((canW X).length=m):=by unfold Hid;rw [canW_len,HL.out]
 have HS0:Hid (signL (X.take 0)=0):=rfl
 clear hb1 hb2 hb3 hE1 hE2 hE3 hs1 hs2 hs3 h hc hm hX ht
 go_enter Tryz.func40,Tryz.ntmps40
 go_upto_region 2 with fail
 generalize hw9:World.setCell _ _ _=w5
 have HB5:Hid (w5.heap[w2.heap.size]?=some (.cells #[.int .i64 n,.int .i64 k,.slice none 0 0] 37 (0,0))):=by rw [← hw9];exact store3 HB3.out _ _ _
 have HX25:Hid (Ext w2 w5):=by rw [← hw9];exact multi_ext HE3.out (Nat.le_refl _) _ _ _
 have HE5:Hid (Ext w w5):=HE2.out.trans HX25.out
 have HB15:=Lib.hid (block_ext HB1.out HX25.out);have HB25:=Lib.hid (block_ext HB2.out HX25.out)
 have k1:=block_cell HB15.out
 clear hw9 hw3 k3 f3 c0 c1 hw1 hw2
 go_wp2_with fail
 refine (refCont10_any n k X _ w5 (ListAt.ext numC.mono' HV.out HE5.out) HDG.out (HT.out.ext HE5.out)).mono ?_
 rintro e w7 ⟨rfl,h7⟩
 have HE7:Hid (Ext w w7):=HE5.out.trans h7
 have HB17:=Lib.hid (block_ext HB15.out h7);have HB27:=Lib.hid (block_ext HB25.out h7);have HB7:=Lib.hid (block_ext HB5.out h7)
 have HBL:Hid (w2.heap.size<w7.heap.size):=block_lt HB7.out
 obtain ⟨d,hd⟩:∃ d,contL X=d:=⟨_,rfl⟩
 have HD:=Lib.hid hd
 rw [hd] at hd0 ⊢
 have HD0:=Lib.hid hd0
 have hdz:((intB (d:Int)).toList == [48])=true:=by rw [int_zeroW];exact decide_eq_true (by omega)
 obtain ⟨ud,hud⟩:∃ u,intB (d:Int)=u:=⟨_,rfl⟩
 have HUD:=Lib.hid hud
 rw [hud] at hdz ⊢
 obtain ⟨b3,hb3⟩:∃ b,w2.heap.size=b:=⟨_,rfl⟩
 rw [hb3] at HB7 HBL HB5
 have HSB:Hid (w.heap.size<b3∧w1.heap.size<b3∧w.heap.size≤w1.heap.size):=by have:=HSZ.out;unfold Hid;omega
 clear h7 k1 hd hud hd0
 go_wp2_with fail
 (try rw [hb3])
 clear hb3
 go_loopw [5,6,7] (fun s t o wr=>∃ (i:Nat) (v7:Value),i≤m∧s=.int .i64 (signL (X.take i))∧t=.int .i64 (i:Int)∧o=v7∧Hid (GrownS (·=b3) w7 wr)∧Hid (∃ so,wr.heap[b3]?=some (.cells #[.int .i64 n,.int .i64 k,so] 37 (0,0))∧Build wr w7.heap.size 53 1 so numC ((canW X).take i))) (fun _ t _ _=>m+1-(intOf t).toNat)
 case atStart=>exact ⟨0,_,by omega,by rw [HS0.out],by simp,rfl,GrownS.refl _ _,_,HB7.out,Build.nil _ _ _ _ _⟩
 case round =>
  obtain ⟨i,v7,hi,rfl,rfl,hv7,HG,HBB⟩:=hrel
  obtain rfl:=hv7.symm
  obtain ⟨wo,rfl⟩:∃ wo:World,wo=wr:=⟨_,rfl⟩
  have HEo:Hid (Ext w wo):=ext_grownS HE7.out HG.out (fun j hj e=>by have:=HSB.out;omega)
  have HB1o:=Lib.hid ((HG.out.block w.heap.size (block_lt HB17.out) (by have:=HSB.out;omega)).trans HB17.out)
  have z1:=block_cell HB1o.out 2
  simp only [List.getElem?_toArray,List.getElem?_cons_succ,List.getElem?_cons_zero] at z1
  by_cases hlt:i<m
  ·obtain ⟨x,hx⟩:∃ x,X[i]?=some x:=⟨_,List.getElem?_eq_getElem (by rw [HL.out];exact hlt)⟩
   have hin:(i:Int)<(m:Int):=by omega
   obtain ⟨bx,ox,rfl,-,hcell⟩:=HC.out (by intro e;rw [e] at hx;simp at hx)
   obtain ⟨z9,e9,g9⟩:=hcell i x hx
   obtain rfl:z9=.string (intB x):=e9
   have g9:=HEo.out.cell g9
   have hst:=signL_step hx
   have hcg:=canW_get hx
   rw [HD.out] at hcg
   obtain ⟨s0,hs0⟩:∃ s,signL (X.take i)=s:=⟨_,rfl⟩
   obtain ⟨s1,hs1⟩:∃ s,signL (X.take (i+1))=s:=⟨_,rfl⟩
   have HS1:=Lib.hid hs1
   rw [hs0,hs1] at hst
   rw [hs1] at hcg
   rw [hs0]
   obtain ⟨y,hy⟩:∃ y,x=y:=⟨_,rfl⟩
   have hcg2:(canW X)[i]?=some (if s1<0 then -y else y):=by rw [hcg];rw [show (if d≠0 then fdq x (d:Int) else x)=y from (if_neg (fun e=>e HD0.out)).trans hy]
   obtain ⟨z,hz⟩:∃ z,(if s1<0 then -y else y)=z:=⟨_,rfl⟩
   rw [hz] at hcg2
   have hTK:(canW X).take (i+1)=(canW X).take i++[z]:=by rw [List.take_add_one,hcg2];rfl
   have HTK:=Lib.hid hTK
   have hdx:=HDG.out x (List.mem_of_getElem? hx)
   have hysz:(intB y).size≤1000000:=by
    rw [← hy]
    have h5:=(digits_size hdx).2
    omega
   have HSG:Hid (∀ W,Calls Tryz.prog 86 #[.string (intB x)] W fun e w'=>e=.returned (.int .i64 x.sign)∧W=w'):=fun W=>rSign_any x W
   have HNG:Hid (∀ W,Calls Tryz.prog 72 #[.string (intB y)] W fun e w'=>e=.returned (.string (intB (-y)))∧W=w'):=fun W=>rNeg_any y W hysz
   obtain ⟨bz,hbz⟩:∃ b,(s0 == 0)=b:=⟨_,rfl⟩
   obtain ⟨bs,hbs⟩:∃ b,decide (s1<0)=b:=⟨_,rfl⟩
   have HZ1:Hid (bz=true→x.sign=s1):=fun e=>by rw [hst,if_pos (beq_iff_eq.1 (hbz.trans e))]
   have HZ0:Hid (bz=false→s0=s1):=fun e=>by rw [hst,if_neg (beq_eq_false_iff_ne.1 (hbz.trans e))]
   have HN1:Hid (bs=true→intB (-y)=intB z):=fun e=>by rw [← hz,if_pos (of_decide_eq_true (hbs.trans e))]
   have HN0:Hid (bs=false→intB y=intB z):=fun e=>by rw [← hz,if_neg (of_decide_eq_false (hbs.trans e))]
   obtain ⟨ux,hux⟩:∃ u,intB x=u:=⟨_,rfl⟩
   obtain ⟨uy,huy⟩:∃ u,intB y=u:=⟨_,rfl⟩
   obtain ⟨uz,huz⟩:∃ u,intB z=u:=⟨_,rfl⟩
   have HUZ:=Lib.hid huz
   obtain ⟨sx,hsx⟩:∃ s,x.sign=s:=⟨_,rfl⟩
   rw [hux] at g9 HSG
   rw [hsx] at HSG HZ1
   rw [huy] at HNG HN0
   rw [huz] at HN1 HN0
   have HXY:Hid (ux=uy):=by unfold Hid;rw [← hux,← huy,hy]
   clear hcell hst hs0 hs1 hcg hy hcg2 hz hTK hdx hysz hux huy huz hsx hx
   go_upto_if 28 with fail
   go_cut [5] from 29 to 30 (fun t wx=>t=.int .i64 s1∧wx=wo)
   case first =>
    cases bz with
    | true =>
     have e9:=HZ1.out rfl
     rw [e9] at HSG
     clear e9
     go_wp2_with fail
     refine (HSG.out wo).mono ?_
     rintro e w8 ⟨rfl,rfl⟩
     go_wp2_with fail
     go_meet
     exact ⟨rfl,rfl⟩
    | false =>
     have e9:=HZ0.out rfl
     obtain rfl:=e9
     go_wp2_with fail
     go_meet
     exact ⟨rfl,rfl⟩
   case rest =>
   obtain ⟨rfl,hwx⟩:=hcut
   obtain rfl:=hwx.symm
   clear HSG HZ1 HZ0
   go_upto_if 40 with fail
   obtain rfl:=HXY.out
   obtain ⟨wq,hwq⟩:∃ wq:World,wq=wo:=⟨_,rfl⟩
   have HQ:Hid (Ext wo wq):=by rw [hwq];exact Ext.refl _
   rw [← hwq]
   clear hwq
   go_cut [7] from 41 to 42 (fun t wx=>t=.string uz∧wx=wq)
   case first =>
    cases bs with
    | true =>
     have e9:=HN1.out rfl
     rw [e9] at HNG
     clear e9
     go_wp2_with fail
     refine (HNG.out wq).mono ?_
     rintro e w8 ⟨rfl,rfl⟩
     go_wp2_with fail
     go_meet
     exact ⟨rfl,rfl⟩
    | false =>
     have e9:=HN0.out rfl
     obtain rfl:=e9
     go_wp2_with fail
     go_meet
     exact ⟨rfl,rfl⟩
   case rest =>
   obtain ⟨rfl,hwx⟩:=hcut
   obtain rfl:=hwx.symm
   clear HNG HN1 HN0
   obtain ⟨so,hBK,hBU⟩:=HBB.out
   obtain ⟨ao,co,rfl,-⟩:=ListAt.open hBU.list
   obtain ⟨L9,hL9⟩:∃ L,(canW X).take i=L:=⟨_,rfl⟩
   have hLl:L9.length=i:=by rw [← hL9,List.length_take,HCL.out];omega
   rw [hL9] at hBK hBU HTK
   rw [hLl] at hBK hBU
   have HBK:=Lib.hid (block_ext hBK HQ.out);have HB:=Lib.hid (hBU.ext HQ.out)
   have z1:=block_cell HBK.out
   have HLL2:Hid (L9.length<1000000):=by unfold Hid;omega
   have HGq:Hid (GrownS (·=b3) w7 wq):=HG.out.ext HQ.out
   have HSZ9:Hid (w7.heap.size≤wq.heap.size):=HGq.out.size
   clear hBK hBU hL9 hLl HBB
   go_wp2_with (at_builtin;go_must (refine wpList_append_build wq rfl _ _ 29 rfl w7.heap.size 53 (.string ⟨#[]⟩) 1 16 Tryz.underlying29 infoBigI rfl (by decide) (.slice ao i co) numC L9 z #[.string uz] 53 rfl HB.out rfl rfl ?c1 ?c2 HLL2.out (by decide) HSZ9.out ?_))
   case c1=>simp [Value.oneCell']
   case c2=>exact fun _ _=>by show [Value.string uz]=[.string (intB z)];rw [HUZ.out]
   intro v' w6 hB6 hg6 hb6 hs6 _
   rw [← HTK.out] at hB6
   have HB6:=Lib.hid hB6
   have HG6:Hid (GrownS (·=b3) w7 w6):=HGq.out.thenBelow hb6 (Nat.le_refl _)
   have HK6:=Lib.hid ((Below.block hb6 b3 HBL.out).trans HBK.out)
   obtain ⟨a6,c6,rfl,-⟩:=ListAt.open hB6.list
   obtain ⟨m6,hm6⟩:∃ m,((canW X).take (i+1)).length=m:=⟨_,rfl⟩
   rw [hm6] at HB6 ⊢
   clear hm6 hB6 hg6 hb6
   have k6:=block_cell HK6.out
   have f6:=block_free HK6.out
   go_wp2_with fail
   go_roundw
   case rel=>exact ⟨i+1,_,by omega,by rw [HS1.out],by go_num,rfl,HG6.out.trans (grownBy_S (grown_setCell _ _ _ _) (fun k hk=>by cases hk;rfl)),_,block_set HK6.out 2 _,HB6.out.boxAt HBL.out 2 _⟩
   case measure=>simp [intOf];omega
  ·obtain rfl:i=m:=by omega
   obtain ⟨so,hBK,hBU⟩:=HBB.out
   rw [List.take_of_length_le (by rw [HCL.out];omega)] at hBU
   obtain ⟨ao,co,rfl,-⟩:=ListAt.open hBU.list
   rw [HCL.out] at hBK hBU
   have HF:=Lib.hid hBU.list
   have HB2o:=Lib.hid ((HG.out.block w1.heap.size (block_lt HB27.out) (by have:=HSB.out;omega)).trans HB27.out)
   have kk:=block_cell hBK
   have f9:=block_free HB2o.out
   have k9:=block_cell HB2o.out
   clear hBK hBU HBB
   go_wp2_with fail
   have hb7:=store3 HB2o.out (.int .i64 n) (.int .i64 k) (.slice ao i co)
   refine bodyPost_ret (results_cell_row (by rfl) _ _ w1.heap.size 37 #[.int .i64 n,.int .i64 k,.slice ao i co] (0,0) _ (by rfl) hb7 Tryz.underlying37 (by rfl) (by kernel_rfl)) (by rfl) ⟨_,rfl,multi_ext HEo.out HSB.out.2.2 _ _ _,_,rfl,?_⟩
   exact nums_set HF.out HB2o.out (multi_nostr 0 0) (multi_grown _ _ _ _ _)
set_option maxRecDepth 100000 in
set_option maxHeartbeats 4000000 in
theorem refCanon10_pos {n k:Nat} {X:List Int} (hX:Digits400 X) (hXp:0<X.length) (hXl:X.length≤924) (hd0:contL X≠0) (r:Value) (w:World) (h:ListAt 1 numC w r X) (ht:Pow10 w) :
  Calls Tryz.prog 40 #[.agg #[.int .i64 n,.int .i64 k,r]] w fun e w'=>∃ y,e=.returned y∧Ext w w'∧MultiV w' y n k (canW X):=by
 have HV:=Lib.hid h
 obtain ⟨a,c,rfl,h1,h2,-,hc⟩:=inCell.open (BigL.of_nums h)
 unfold maxLen at h2
 have HC:=Lib.hid hc;have HT:=Lib.hid ht;have HDG:=Lib.hid hX
 obtain ⟨m,hm⟩:∃ m,X.length=m:=⟨_,rfl⟩
 have HL:=Lib.hid hm
 rw [hm] at h1 hXp hXl HV ⊢
 obtain ⟨w1,hw1,hE1,hs1,hb1⟩:=boxR w (.int .i64 n) (.int .i64 k) (.slice a m c)
 obtain ⟨w2,hw2,hE2,hs2,hb2⟩:=boxR w1 (.int .i64 0) (.int .i64 0) (.slice none 0 0)
 obtain ⟨w3,hw3,hE3,hs3,hb3⟩:=boxR w2 (.int .i64 0) (.int .i64 0) (.slice none 0 0)
 have HE2:=Lib.hid (hE1.trans hE2);have HE3:=Lib.hid hE3
 have HB1:=Lib.hid (block_ext hb1 hE2);have HB2:=Lib.hid hb2;have HB3:=Lib.hid hb3
 have HSZ:Hid (w1.heap.size=w.heap.size+1∧w2.heap.size=w1.heap.size+1):=⟨hs1,hs2⟩
 have c0:=block_cell HB1.out 0;have c1:=block_cell HB1.out 1
 simp only [List.getElem?_toArray,List.getElem?_cons_succ,List.getElem?_cons_zero] at c0 c1
 have f3:=block_free hb3
 have k3:=block_cell hb3
 have HCL:Hid ((canW X).length=m):=by unfold Hid;rw [canW_len,HL.out]
 have HS0:Hid (signL (X.take 0)=0):=rfl
 clear hb1 hb2 hb3 hE1 hE2 hE3 hs1 hs2 hs3 h hc hm hX ht
 go_enter Tryz.func40,Tryz.ntmps40
 go_upto_region 2 with fail
 generalize hw9:World.setCell _ _ _=w5
 have HB5:Hid (w5.heap[w2.heap.size]?=some (.cells #[.int .i64 n,.int .i64 k,.slice none 0 0] 37 (0,0))):=by rw [← hw9];exact store3 HB3.out _ _ _
 have HX25:Hid (Ext w2 w5):=by rw [← hw9];exact multi_ext HE3.out (Nat.le_refl _) _ _ _
 have HE5:Hid (Ext w w5):=HE2.out.trans HX25.out
 have HB15:=Lib.hid (block_ext HB1.out HX25.out);have HB25:=Lib.hid (block_ext HB2.out HX25.out)
 have k1:=block_cell HB15.out
 clear hw9 hw3 k3 f3 c0 c1 hw1 hw2
 go_wp2_with fail
 refine (refCont10_any n k X _ w5 (ListAt.ext numC.mono' HV.out HE5.out) HDG.out (HT.out.ext HE5.out)).mono ?_
 rintro e w7 ⟨rfl,h7⟩
 have HE7:Hid (Ext w w7):=HE5.out.trans h7
 have HB17:=Lib.hid (block_ext HB15.out h7);have HB27:=Lib.hid (block_ext HB25.out h7);have HB7:=Lib.hid (block_ext HB5.out h7)
 have HBL:Hid (w2.heap.size<w7.heap.size):=block_lt HB7.out
 obtain ⟨d,hd⟩:∃ d,contL X=d:=⟨_,rfl⟩
 have HD:=Lib.hid hd
 rw [hd] at hd0 ⊢
 have HD0:=Lib.hid hd0
 have hdz:((intB (d:Int)).toList == [48])=false:=by rw [int_zeroW];exact decide_eq_false (by omega)
 obtain ⟨ud,hud⟩:∃ u,intB (d:Int)=u:=⟨_,rfl⟩
 have HUD:=Lib.hid hud
 rw [hud] at hdz ⊢
 obtain ⟨b3,hb3⟩:∃ b,w2.heap.size=b:=⟨_,rfl⟩
 rw [hb3] at HB7 HBL HB5
 have HSB:Hid (w.heap.size<b3∧w1.heap.size<b3∧w.heap.size≤w1.heap.size):=by have:=HSZ.out;unfold Hid;omega
 clear h7 k1 hd hud hd0
 go_wp2_with fail
 (try rw [hb3])
 clear hb3
 go_loopw [5,6,7] (fun s t o wr=>∃ (i:Nat) (v7:Value),i≤m∧s=.int .i64 (signL (X.take i))∧t=.int .i64 (i:Int)∧o=v7∧Hid (GrownS (·=b3) w7 wr)∧Hid (∃ so,wr.heap[b3]?=some (.cells #[.int .i64 n,.int .i64 k,so] 37 (0,0))∧Build wr w7.heap.size 53 1 so numC ((canW X).take i))) (fun _ t _ _=>m+1-(intOf t).toNat)
 case atStart=>exact ⟨0,_,by omega,by rw [HS0.out],by simp,rfl,GrownS.refl _ _,_,HB7.out,Build.nil _ _ _ _ _⟩
 case round =>
  obtain ⟨i,v7,hi,rfl,rfl,hv7,HG,HBB⟩:=hrel
  obtain rfl:=hv7.symm
  obtain ⟨wo,rfl⟩:∃ wo:World,wo=wr:=⟨_,rfl⟩
  have HEo:Hid (Ext w wo):=ext_grownS HE7.out HG.out (fun j hj e=>by have:=HSB.out;omega)
  have HB1o:=Lib.hid ((HG.out.block w.heap.size (block_lt HB17.out) (by have:=HSB.out;omega)).trans HB17.out)
  have z1:=block_cell HB1o.out 2
  simp only [List.getElem?_toArray,List.getElem?_cons_succ,List.getElem?_cons_zero] at z1
  by_cases hlt:i<m
  ·obtain ⟨x,hx⟩:∃ x,X[i]?=some x:=⟨_,List.getElem?_eq_getElem (by rw [HL.out];exact hlt)⟩
   have hin:(i:Int)<(m:Int):=by omega
   obtain ⟨bx,ox,rfl,-,hcell⟩:=HC.out (by intro e;rw [e] at hx;simp at hx)
   obtain ⟨z9,e9,g9⟩:=hcell i x hx
   obtain rfl:z9=.string (intB x):=e9
   have g9:=HEo.out.cell g9
   have hst:=signL_step hx
   have hcg:=canW_get hx
   rw [HD.out] at hcg
   obtain ⟨s0,hs0⟩:∃ s,signL (X.take i)=s:=⟨_,rfl⟩
   obtain ⟨s1,hs1⟩:∃ s,signL (X.take (i+1))=s:=⟨_,rfl⟩
   have HS1:=Lib.hid hs1
   rw [hs0,hs1] at hst
   rw [hs1] at hcg
   rw [hs0]
   obtain ⟨y,hy⟩:∃ y,fdq x (d:Int)=y:=⟨_,rfl⟩
   have hcg2:(canW X)[i]?=some (if s1<0 then -y else y):=by rw [hcg];rw [show (if d≠0 then fdq x (d:Int) else x)=y from (if_pos HD0.out).trans hy]
   obtain ⟨z,hz⟩:∃ z,(if s1<0 then -y else y)=z:=⟨_,rfl⟩
   rw [hz] at hcg2
   have hTK:(canW X).take (i+1)=(canW X).take i++[z]:=by rw [List.take_add_one,hcg2];rfl
   have HTK:=Lib.hid hTK
   have hdx:=HDG.out x (List.mem_of_getElem? hx)
   have hysz:(intB y).size≤1000000:=by
    rw [← hy]
    have h5:=(digits_size hdx).2
    have h6:=fdq_size x (d:Int) (by have:=HD0.out;omega)
    omega
   have HSG:Hid (∀ W,Calls Tryz.prog 86 #[.string (intB x)] W fun e w'=>e=.returned (.int .i64 x.sign)∧W=w'):=fun W=>rSign_any x W
   have hd9:=contL_lt HDG.out
   rw [HD.out] at hd9
   have h8:=(digits_size (x:=(d:Int)) (by rw [Int.natAbs_natCast];exact hd9)).2
   have hDM9:∀ W,Ext w W→Calls Tryz.prog 87 #[.string (intB x),.string (intB (d:Int))] W fun e w'=>e=.returned (.tuple #[.string (intB (fdq x (d:Int))),.string (intB (fdr x (d:Int)))])∧Ext W w':=fun W hW=>rDivModG_any x (d:Int) W (by have:=(digits_size hdx).2;omega) (by omega) (by have:=HD0.out;omega) (HT.out.ext hW)
   rw [hy] at hDM9
   obtain ⟨um,hum⟩:∃ u,intB (fdr x (d:Int))=u:=⟨_,rfl⟩
   have HDM:=Lib.hid hDM9
   rw [hum,HUD.out] at HDM
   clear hd9 h8 hDM9 hum
   have HNG:Hid (∀ W,Calls Tryz.prog 72 #[.string (intB y)] W fun e w'=>e=.returned (.string (intB (-y)))∧W=w'):=fun W=>rNeg_any y W hysz
   obtain ⟨bz,hbz⟩:∃ b,(s0 == 0)=b:=⟨_,rfl⟩
   obtain ⟨bs,hbs⟩:∃ b,decide (s1<0)=b:=⟨_,rfl⟩
   have HZ1:Hid (bz=true→x.sign=s1):=fun e=>by rw [hst,if_pos (beq_iff_eq.1 (hbz.trans e))]
   have HZ0:Hid (bz=false→s0=s1):=fun e=>by rw [hst,if_neg (beq_eq_false_iff_ne.1 (hbz.trans e))]
   have HN1:Hid (bs=true→intB (-y)=intB z):=fun e=>by rw [← hz,if_pos (of_decide_eq_true (hbs.trans e))]
   have HN0:Hid (bs=false→intB y=intB z):=fun e=>by rw [← hz,if_neg (of_decide_eq_false (hbs.trans e))]
   obtain ⟨ux,hux⟩:∃ u,intB x=u:=⟨_,rfl⟩
   obtain ⟨uy,huy⟩:∃ u,intB y=u:=⟨_,rfl⟩
   obtain ⟨uz,huz⟩:∃ u,intB z=u:=⟨_,rfl⟩
   have HUZ:=Lib.hid huz
   obtain ⟨sx,hsx⟩:∃ s,x.sign=s:=⟨_,rfl⟩
   rw [hux] at g9 HSG
   rw [hsx] at HSG HZ1
   rw [hux,huy] at HDM
   rw [huy] at HNG HN0
   rw [huz] at HN1 HN0
   clear hcell hst hs0 hs1 hcg hy hcg2 hz hTK hdx hysz hux huy huz hsx hx
   go_upto_if 28 with fail
   go_cut [5] from 29 to 30 (fun t wx=>t=.int .i64 s1∧wx=wo)
   case first =>
    cases bz with
    | true =>
     have e9:=HZ1.out rfl
     rw [e9] at HSG
     clear e9
     go_wp2_with fail
     refine (HSG.out wo).mono ?_
     rintro e w8 ⟨rfl,rfl⟩
     go_wp2_with fail
     go_meet
     exact ⟨rfl,rfl⟩
    | false =>
     have e9:=HZ0.out rfl
     obtain rfl:=e9
     go_wp2_with fail
     go_meet
     exact ⟨rfl,rfl⟩
   case rest =>
   obtain ⟨rfl,hwx⟩:=hcut
   obtain rfl:=hwx.symm
   clear HSG HZ1 HZ0
   go_wp2_with fail
   refine (HDM.out wo HEo.out).mono ?_
   rintro e wq ⟨rfl,hEq⟩
   have HQ:Hid (Ext wo wq):=hEq
   clear hEq HDM
   go_upto_if 40 with fail
   go_cut [7] from 41 to 42 (fun t wx=>t=.string uz∧wx=wq)
   case first =>
    cases bs with
    | true =>
     have e9:=HN1.out rfl
     rw [e9] at HNG
     clear e9
     go_wp2_with fail
     refine (HNG.out wq).mono ?_
     rintro e w8 ⟨rfl,rfl⟩
     go_wp2_with fail
     go_meet
     exact ⟨rfl,rfl⟩
    | false =>
     have e9:=HN0.out rfl
     obtain rfl:=e9
     go_wp2_with fail
     go_meet
     exact ⟨rfl,rfl⟩
   case rest =>
   obtain ⟨rfl,hwx⟩:=hcut
   obtain rfl:=hwx.symm
   clear HNG HN1 HN0
   obtain ⟨so,hBK,hBU⟩:=HBB.out
   obtain ⟨ao,co,rfl,-⟩:=ListAt.open hBU.list
   obtain ⟨L9,hL9⟩:∃ L,(canW X).take i=L:=⟨_,rfl⟩
   have hLl:L9.length=i:=by rw [← hL9,List.length_take,HCL.out];omega
   rw [hL9] at hBK hBU HTK
   rw [hLl] at hBK hBU
   have HBK:=Lib.hid (block_ext hBK HQ.out);have HB:=Lib.hid (hBU.ext HQ.out)
   have z1:=block_cell HBK.out
   have HLL2:Hid (L9.length<1000000):=by unfold Hid;omega
   have HGq:Hid (GrownS (·=b3) w7 wq):=HG.out.ext HQ.out
   have HSZ9:Hid (w7.heap.size≤wq.heap.size):=HGq.out.size
   clear hBK hBU hL9 hLl HBB
   go_wp2_with (at_builtin;go_must (refine wpList_append_build wq rfl _ _ 29 rfl w7.heap.size 53 (.string ⟨#[]⟩) 1 16 Tryz.underlying29 infoBigI rfl (by decide) (.slice ao i co) numC L9 z #[.string uz] 53 rfl HB.out rfl rfl ?c1 ?c2 HLL2.out (by decide) HSZ9.out ?_))
   case c1=>simp [Value.oneCell']
   case c2=>exact fun _ _=>by show [Value.string uz]=[.string (intB z)];rw [HUZ.out]
   intro v' w6 hB6 hg6 hb6 hs6 _
   rw [← HTK.out] at hB6
   have HB6:=Lib.hid hB6
   have HG6:Hid (GrownS (·=b3) w7 w6):=HGq.out.thenBelow hb6 (Nat.le_refl _)
   have HK6:=Lib.hid ((Below.block hb6 b3 HBL.out).trans HBK.out)
   obtain ⟨a6,c6,rfl,-⟩:=ListAt.open hB6.list
   obtain ⟨m6,hm6⟩:∃ m,((canW X).take (i+1)).length=m:=⟨_,rfl⟩
   rw [hm6] at HB6 ⊢
   clear hm6 hB6 hg6 hb6
   have k6:=block_cell HK6.out
   have f6:=block_free HK6.out
   go_wp2_with fail
   go_roundw
   case rel=>exact ⟨i+1,_,by omega,by rw [HS1.out],by go_num,rfl,HG6.out.trans (grownBy_S (grown_setCell _ _ _ _) (fun k hk=>by cases hk;rfl)),_,block_set HK6.out 2 _,HB6.out.boxAt HBL.out 2 _⟩
   case measure=>simp [intOf];omega
  ·obtain rfl:i=m:=by omega
   obtain ⟨so,hBK,hBU⟩:=HBB.out
   rw [List.take_of_length_le (by rw [HCL.out];omega)] at hBU
   obtain ⟨ao,co,rfl,-⟩:=ListAt.open hBU.list
   rw [HCL.out] at hBK hBU
   have HF:=Lib.hid hBU.list
   have HB2o:=Lib.hid ((HG.out.block w1.heap.size (block_lt HB27.out) (by have:=HSB.out;omega)).trans HB27.out)
   have kk:=block_cell hBK
   have f9:=block_free HB2o.out
   have k9:=block_cell HB2o.out
   clear hBK hBU HBB
   go_wp2_with fail
   have hb7:=store3 HB2o.out (.int .i64 n) (.int .i64 k) (.slice ao i co)
   refine bodyPost_ret (results_cell_row (by rfl) _ _ w1.heap.size 37 #[.int .i64 n,.int .i64 k,.slice ao i co] (0,0) _ (by rfl) hb7 Tryz.underlying37 (by rfl) (by kernel_rfl)) (by rfl) ⟨_,rfl,multi_ext HEo.out HSB.out.2.2 _ _ _,_,rfl,?_⟩
   exact nums_set HF.out HB2o.out (multi_nostr 0 0) (multi_grown _ _ _ _ _)
theorem refCanon10_any {n k:Nat} {X:List Int} (hn:n<7) (hR:RightM n k X) (r:Value) (w:World) (h:ListAt 1 numC w r X) (ht:Pow10 w) :
  Calls Tryz.prog 40 #[.agg #[.int .i64 n,.int .i64 k,r]] w fun e w'=>∃ y,e=.returned y∧Ext w w'∧MultiV w' y n k (canW X):=by
 have hp:0<X.length:=by rw [hR.len];exact allW_posZ n hn k (by have:=hR.kn;omega)
 have hl:X.length≤924:=by rw [hR.len];exact allW_len (by omega) hR.kn
 by_cases hd:contL X=0
 ·exact refCanon10_zero hR.dig hp hl hd r w h ht
 ·exact refCanon10_pos hR.dig hp hl hd r w h ht
theorem dualL_len (n k:Nat) (X:List Int):(dualL n k X).length=(allW n (n-k)).length:=by unfold dualL;rw [List.length_map]
end Go.Proofs.YtjlkkofmojgipaaGreatDoor
