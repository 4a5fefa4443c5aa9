import Derived.Test.YtjlkkofmojgipaaGreatDoorTAF
import Derived.Test.YtjlkkofmojgipaaGreatDoorTAT
import Derived.Test.YtjlkkofmojgipaaGreatDoorTBN
namespace Go.Proofs.YtjlkkofmojgipaaGreatDoor
set_option linter.unusedVariables false
set_option linter.unusedSimpArgs false
open Go.RowKit
structure CanP (w3:World) (n k l:Nat) (X:List Int) (g gl cl:Nat) (wx:World):Prop where
 ext:Ext w3 wx
 blk:wx.heap[g]?=some (.cells #[.int .i64 n,.int .i64 k,.slice (some ⟨gl,0,none⟩) l cl] 31 (0,0))
 row:RowN wx gl X
 ne:gl≠g
 lg:w3.heap.size≤g
 lgl:w3.heap.size≤gl
 lc:l≤cl∧cl≤9223372036854775807
set_option maxRecDepth 100000 in
set_option maxHeartbeats 4000000 in
theorem canonM_any {n k:Nat} {X:List Int} (hn:n<7) (hR:RightM n k X) (u:Value) (w:World) (h:MultiV w u n k X) (ht:Pow10 w) :
  Calls Tryz.prog 44 #[u] w fun e w'=>∃ y,e=.returned (.tuple #[y,.int .i64 0])∧Ext w w'∧MultiV w' y n k (canW X):=by
 have HCH:Hid (∀ W,Ext w W→Calls Tryz.prog 47 #[u] W fun e w'=>e=.returned (.int .i64 0)∧Ext W w'):=fun W hW=>checkR_any hR u W (h.ext hW)
 obtain ⟨r,rfl,hr⟩:=h
 have HXV:=Lib.hid hr
 obtain ⟨a,c,rfl,a1,a2,-,ac⟩:=inCell.open (BigL.of_nums hr)
 unfold maxLen at a2
 have HAC:=Lib.hid ac
 obtain ⟨l,hl⟩:∃ l,X.length=l:=⟨_,rfl⟩
 have HL:=Lib.hid hl
 have hlp:0<l:=by rw [← hl,hR.len];exact allW_posZ n hn k (by have:=hR.kn;omega)
 have hl9:l≤924:=by rw [← hl,hR.len];exact allW_len (by omega) hR.kn
 rw [hl] at a1 HCH HXV ⊢
 have HDG:=Lib.hid hR.dig
 have HT:=Lib.hid ht
 obtain ⟨w1,hw1,hE1,hs1,hb1⟩:=boxM w (.int .i64 n) (.int .i64 k) (.slice a l c)
 obtain ⟨w2,hw2,hE2,hs2,hb2⟩:=boxM w1 (.int .i64 0) (.int .i64 0) (.slice none 0 0)
 have HE2:=Lib.hid (hE1.trans hE2)
 have HB1:=Lib.hid (block_ext hb1 hE2);have HB2:=Lib.hid hb2
 have HSZ:Hid (w1.heap.size=w.heap.size+1∧w2.heap.size=w1.heap.size+1):=⟨hs1,hs2⟩
 have k1:=block_cell HB1.out
 clear hb1 hb2 hE1 hE2 hs1 hs2 hr ac hl hR ht hn
 go_enter Tryz.func44,Tryz.ntmps44
 go_wp2_with fail
 refine (HCH.out w2 HE2.out).mono ?_
 rintro e w3 ⟨rfl,hE3⟩
 have HE3:Hid (Ext w w3):=HE2.out.trans hE3
 have HB13:=Lib.hid (block_ext HB1.out hE3);have HB23:=Lib.hid (block_ext HB2.out hE3)
 have c0:=block_cell HB13.out 0;have c1:=block_cell HB13.out 1;have c2:=block_cell HB13.out 2
 simp only [List.getElem?_toArray,List.getElem?_cons_succ,List.getElem?_cons_zero] at c0 c1 c2
 have HS3:Hid (w2.heap.size≤w3.heap.size):=hE3.size
 clear hE3 HCH k1 hw1 hw2
 go_upto_region 4 with fail
 go_cut [5] from 16 to 23 (fun t wx=>∃ g gl cl,t=.pointer (some ⟨g,0,none⟩)∧Hid (CanP w3 n k l X g gl cl wx))
 case first =>
  have HCL9:Hid (∀ W,Ext w3 W→Calls Tryz.prog 90 #[.slice a l c] W fun e w'=>∃ r,e=.returned r∧Ext W w'∧Build w' W.heap.size 53 1 r numC X):=fun W hW=>cloneI_any X _ W (ListAt.ext numC.mono' HXV.out (HE3.out.trans hW)) (by rw [HL.out];omega)
  refine region_anyEV (fun w'=>w'.cell? ⟨w.heap.size,0,none⟩=some (.int .i64 n)∧w'.cell? ⟨w.heap.size,1,none⟩=some (.int .i64 k)∧w'.cell? ⟨w.heap.size,2,none⟩=some (.slice a l c)∧Hid (Ext w3 w')) 10 10 (by kernel_rfl) (by kernel_rfl) ⟨(Ext.drew w3).cell c0,(Ext.drew w3).cell c1,(Ext.drew w3).cell c2,Ext.drew w3⟩ (fun ops hO hHeld=>?_)
  have hi:=getopN hO 0 (by decide)
  conv at hi=>rhs;arg 1;whnf
  refine anyE_takeWV hO (v:=?_) 0 hi (by kernel_rfl) (by kernel_rfl) (by kernel_rfl) (by kernel_rfl) (fun _ _ _ h=>h) (Or.inl ⟨by rfl,?_⟩) (by assumption) ?_
  rotate_left
  ·((intro w');(try go_simp);(try with_reducible rfl))
  clear hi
  (try simp only [Act.put,List.setIfInBounds_toArray,List.set_cons_zero,List.set_cons_succ])
  have hi:=getopN hO 1 (by decide)
  conv at hi=>rhs;arg 1;whnf
  refine anyE_takeV hO (v:=?_) 1 hi (by kernel_rfl) (by kernel_rfl) (by kernel_rfl) (by kernel_rfl) (fun _ _ _ h=>h) (Or.inl ⟨by rfl,?_⟩) (by assumption) ?_
  rotate_left
  ·((intro w' hSw);(try dsimp only at hSw);(try go_simp);(try with_reducible rfl))
  clear hi
  (try simp only [Act.put,List.setIfInBounds_toArray,List.set_cons_zero,List.set_cons_succ])
  have hi:=getopN hO 2 (by decide)
  conv at hi=>rhs;arg 1;whnf
  refine anyE_takeWV hO (v:=?_) 2 hi (by kernel_rfl) (by kernel_rfl) (by kernel_rfl) (by kernel_rfl) (fun _ _ _ h=>h) (Or.inl ⟨by rfl,?_⟩) (by assumption) ?_
  rotate_left
  ·((intro w');(try go_simp);(try with_reducible rfl))
  clear hi
  (try simp only [Act.put,List.setIfInBounds_toArray,List.set_cons_zero,List.set_cons_succ])
  have hi:=getopN hO 3 (by decide)
  conv at hi=>rhs;arg 1;whnf
  refine anyE_takeV hO (v:=?_) 3 hi (by kernel_rfl) (by kernel_rfl) (by kernel_rfl) (by kernel_rfl) (fun _ _ _ h=>h) (Or.inl ⟨by rfl,?_⟩) (by assumption) ?_
  rotate_left
  ·((intro w' hSw);(try dsimp only at hSw);(try go_simp);(try with_reducible rfl))
  clear hi
  (try simp only [Act.put,List.setIfInBounds_toArray,List.set_cons_zero,List.set_cons_succ])
  have hi:=getopN hO 4 (by decide)
  conv at hi=>rhs;arg 1;whnf
  refine anyE_takeWV hO (v:=?_) 4 hi (by kernel_rfl) (by kernel_rfl) (by kernel_rfl) (by kernel_rfl) (fun _ _ _ h=>h) (Or.inl ⟨by rfl,?_⟩) (by assumption) ?_
  rotate_left
  ·((intro w');(try go_simp);(try with_reducible rfl))
  clear hi
  (try simp only [Act.put,List.setIfInBounds_toArray,List.set_cons_zero,List.set_cons_succ])
  have hi:=getopN hO 5 (by decide)
  conv at hi=>rhs;arg 1;whnf
  refine anyE_takeV hO (v:=?_) 5 hi (by kernel_rfl) (by kernel_rfl) (by kernel_rfl) (by kernel_rfl) (fun _ _ _ h=>h) (Or.inl ⟨by rfl,?_⟩) (by assumption) ?_
  rotate_left
  ·((intro w' hSw);(try dsimp only at hSw);(try go_simp);(try with_reducible rfl))
  clear hi
  (try simp only [Act.put,List.setIfInBounds_toArray,List.set_cons_zero,List.set_cons_succ])
  have hi6:=getopN hO 6 (by decide)
  conv at hi6=>rhs;arg 1;whnf
  have hi8:=getopN hO 8 (by decide)
  conv at hi8=>rhs;arg 1;whnf
  refine anyE_fork2X hO 6 8 (by kernel_rfl) hi6 hi8 (fun K hK=>?_) (fun K hK=>?_)
  ·clear hi6 hi8
   go_simp
   (go_at_call 90;refine (HCL9.out _ hHeld.2.2.2.out).mono ?_)
   rintro e wz ⟨rv,rfl,hEz,hBz⟩
   obtain ⟨gl,cl,rfl,hRN,hgb,hgc,hcm⟩:=RowN.of_build hBz (by rw [HL.out];exact hlp)
   rw [HL.out] at hgc ⊢
   have HXz:Hid (Ext w3 wz):=hHeld.2.2.2.out.trans hEz
   have HRZ:=Lib.hid hRN;have HGB:Hid (w3.heap.size≤gl):=hgb;have HGC:Hid (l≤cl∧cl≤9223372036854775807):=⟨hgc,hcm⟩
   have HGL:Hid (gl<wz.heap.size):=hRN.lt
   clear hEz hBz hRN hgb hgc hcm
   go_wp2_with fail
   refine hK.out _ _ ⟨HXz.out.cell c0,HXz.out.cell c1,HXz.out.cell c2,HXz.out⟩ (fun hHeld=>?_)
   clear hK K
   (try simp only [Act.put,List.setIfInBounds_toArray,List.set_cons_zero,List.set_cons_succ])
   have hi:=getopN hO 7 (by decide)
   conv at hi=>rhs;arg 1;whnf
   refine anyE_takeWV hO (v:=?_) 7 hi (by kernel_rfl) (by kernel_rfl) (by kernel_rfl) (by kernel_rfl) (fun _ _ _ h=>h) (Or.inl ⟨by rfl,?_⟩) (by assumption) ?_
   rotate_left
   ·((intro w');(try go_simp);(try with_reducible rfl))
   clear hi
   (try simp only [Act.put,List.setIfInBounds_toArray,List.set_cons_zero,List.set_cons_succ])
   have hi:=getopN hO 8 (by decide)
   conv at hi=>rhs;arg 1;whnf
   refine anyE_stepV hO 8 (by kernel_rfl) hi (fun K hK=>?_)
   go_simp
   refine (fun (h:∀ W0,W0=_→K _ W0)=>h _ rfl) (fun wA hwA=>?_)
   have HBA:Hid (wA.heap[wz.heap.size]?=some (.cells #[.int .i64 0,.int .i64 0,.slice none 0 0] 31 (0,0))):=by rw [hwA];exact block_new _ _ _
   have HXA:Hid (Ext w3 wA):=by rw [hwA];exact HXz.out.trans (Ext.alloc _ _)
   have HRA:Hid (RowN wA gl X):=by rw [hwA];exact HRZ.out.ext (Ext.alloc _ _)
   clear hwA
   refine hK.out _ _ ⟨HXA.out.cell c0,HXA.out.cell c1,HXA.out.cell c2,HXA.out⟩ (fun hHeld=>?_)
   clear hK K hi
   (try simp only [Act.put,List.setIfInBounds_toArray,List.set_cons_zero,List.set_cons_succ])
   have r9:=block_cell HBA.out
   have f9:=block_free HBA.out
   have hi:=getopN hO 9 (by decide)
   conv at hi=>rhs;arg 1;whnf
   refine anyE_lastV hO 9 (by kernel_rfl) (by kernel_rfl) hi (fun K hK=>?_)
   go_simp
   refine (fun (h:∀ W0,W0=_→K _ W0)=>h _ rfl) (fun wS hwA=>?_)
   have HXS:Hid (Ext w3 wS):=by rw [hwA];exact multi_ext HXA.out HXz.out.size _ _ _
   have HPP:Hid (CanP w3 n k l X wz.heap.size gl cl wS):=by
    rw [hwA]
    exact ⟨multi_ext HXA.out HXz.out.size _ _ _,multi_store HBA.out _ _ _,HRA.out.grown (grownBy_S (S:=(·=wz.heap.size)) (multi_grown _ _ _ _ _) (fun k hk=>by cases hk;rfl)) (fun e=>by have:=HGL.out;omega),fun e=>by have:=HGL.out;omega,HXz.out.size,HGB.out,HGC.out⟩
   clear hwA
   refine hK.out _ _ ⟨HXS.out.cell c0,HXS.out.cell c1,HXS.out.cell c2,HXS.out⟩ ?_
   clear hK K hi hO
   (try simp only [Act.put,List.setIfInBounds_toArray,List.set_cons_zero,List.set_cons_succ])
   go_wp2_with fail
   go_meet
   exact ⟨_,gl,cl,rfl,HPP.out⟩
  ·clear hi6 hi8
   go_simp
   refine (fun (h:∀ W0,W0=_→K _ W0)=>h _ rfl) (fun wA hwA=>?_)
   have HBA:Hid (wA.heap[w3.heap.size]?=some (.cells #[.int .i64 0,.int .i64 0,.slice none 0 0] 31 (0,0))):=by rw [hwA];exact block_new w3.drew _ _
   have HXA:Hid (Ext w3 wA):=by rw [hwA];exact (Ext.drew w3).trans (Ext.alloc _ _)
   clear hwA
   refine hK.out _ _ ⟨HXA.out.cell c0,HXA.out.cell c1,HXA.out.cell c2,HXA.out⟩ (fun hHeld=>?_)
   clear hK K
   (try simp only [Act.put,List.setIfInBounds_toArray,List.set_cons_zero,List.set_cons_succ])
   have hi:=getopN hO 6 (by decide)
   conv at hi=>rhs;arg 1;whnf
   refine anyE_stepV hO 6 (by kernel_rfl) hi (fun K hK=>?_)
   go_simp
   (go_at_call 90;refine (HCL9.out _ HXA.out).mono ?_)
   rintro e wz ⟨rv,rfl,hEz,hBz⟩
   obtain ⟨gl,cl,rfl,hRN,hgb,hgc,hcm⟩:=RowN.of_build hBz (by rw [HL.out];exact hlp)
   rw [HL.out] at hgc ⊢
   have HXz:Hid (Ext w3 wz):=HXA.out.trans hEz
   have HRZ:=Lib.hid hRN;have HGC:Hid (l≤cl∧cl≤9223372036854775807):=⟨hgc,hcm⟩
   have HBZ:=Lib.hid (block_ext HBA.out hEz)
   have HGB:Hid (w3.heap.size<gl):=by have h1:=block_lt HBA.out;unfold Hid;omega
   clear hEz hBz hRN hgb hgc hcm
   go_wp2_with fail
   refine hK.out _ _ ⟨HXz.out.cell c0,HXz.out.cell c1,HXz.out.cell c2,HXz.out⟩ (fun hHeld=>?_)
   clear hK K hi
   (try simp only [Act.put,List.setIfInBounds_toArray,List.set_cons_zero,List.set_cons_succ])
   have hi:=getopN hO 7 (by decide)
   conv at hi=>rhs;arg 1;whnf
   refine anyE_takeWV hO (v:=?_) 7 hi (by kernel_rfl) (by kernel_rfl) (by kernel_rfl) (by kernel_rfl) (fun _ _ _ h=>h) (Or.inl ⟨by rfl,?_⟩) (by assumption) ?_
   rotate_left
   ·((intro w');(try go_simp);(try with_reducible rfl))
   clear hi
   (try simp only [Act.put,List.setIfInBounds_toArray,List.set_cons_zero,List.set_cons_succ])
   have r9:=block_cell HBZ.out
   have f9:=block_free HBZ.out
   have hi:=getopN hO 9 (by decide)
   conv at hi=>rhs;arg 1;whnf
   refine anyE_lastV hO 9 (by kernel_rfl) (by kernel_rfl) hi (fun K hK=>?_)
   go_simp
   refine (fun (h:∀ W0,W0=_→K _ W0)=>h _ rfl) (fun wS hwA=>?_)
   have HXS:Hid (Ext w3 wS):=by rw [hwA];exact multi_ext HXz.out (Nat.le_refl _) _ _ _
   have HPP:Hid (CanP w3 n k l X w3.heap.size gl cl wS):=by
    rw [hwA]
    exact ⟨multi_ext HXz.out (Nat.le_refl _) _ _ _,multi_store HBZ.out _ _ _,HRZ.out.grown (grownBy_S (S:=(·=w3.heap.size)) (multi_grown _ _ _ _ _) (fun k hk=>by cases hk;rfl)) (fun e=>by have:=HGB.out;omega),fun e=>by have:=HGB.out;omega,Nat.le_refl _,Nat.le_of_lt HGB.out,HGC.out⟩
   clear hwA
   refine hK.out _ _ ⟨HXS.out.cell c0,HXS.out.cell c1,HXS.out.cell c2,HXS.out⟩ ?_
   clear hK K hi hO
   (try simp only [Act.put,List.setIfInBounds_toArray,List.set_cons_zero,List.set_cons_succ])
   go_wp2_with fail
   go_meet
   exact ⟨_,gl,cl,rfl,HPP.out⟩
 case rest =>
 obtain ⟨g,gl,cl,rfl,HP⟩:=hcut
 obtain ⟨w4,rfl⟩:∃ w4:World,w4=wc:=⟨_,rfl⟩
 have HE4:Hid (Ext w w4):=HE3.out.trans HP.out.ext
 have HB14:=Lib.hid (block_ext HB13.out HP.out.ext);have HB24:=Lib.hid (block_ext HB23.out HP.out.ext)
 have c2:=block_cell HB14.out 2
 simp only [List.getElem?_toArray,List.getElem?_cons_succ,List.getElem?_cons_zero] at c2
 have HGT:Hid (w.heap.size<g∧w1.heap.size<g∧w.heap.size<gl∧w1.heap.size<gl∧gl≠g∧w.heap.size≤w1.heap.size):=by have h1:=HP.out.lg;have h2:=HP.out.lgl;have h3:=HS3.out;have h4:=HSZ.out;have h5:=HP.out.ne;unfold Hid;omega
 go_wp2_with fail
 refine (contentI_any X _ w4 (ListAt.ext numC.mono' HXV.out HE4.out) HDG.out (HT.out.ext HE4.out)).mono ?_
 rintro e w5 ⟨rfl,hE5⟩
 have HX45:Hid (Ext w4 w5):=hE5
 have HE5:Hid (Ext w w5):=HE4.out.trans hE5
 have HB15:=Lib.hid (block_ext HB14.out hE5);have HB25:=Lib.hid (block_ext HB24.out hE5)
 have HBG:=Lib.hid (block_ext HP.out.blk hE5)
 have HRW:=Lib.hid (HP.out.row.ext hE5)
 clear hE5 c2
 obtain ⟨d,hd⟩:∃ d,contL X=d:=⟨_,rfl⟩
 have HD:=Lib.hid hd
 rw [hd]
 by_cases hd0:d=0
 ·have sd:((intB (d:Int)).toList == [48])=true:=by rw [int_zeroW];exact decide_eq_true (by omega)
  obtain ⟨ud,hud⟩:∃ u,intB (d:Int)=u:=⟨_,rfl⟩
  rw [hud] at sd ⊢
  have HCX:Hid (canW X=X):=if_pos (by rw [HD.out];exact hd0)
  have kk:=block_cell HBG.out
  have f9:=block_free HB25.out
  have k9:=block_cell HB25.out
  clear hud hd hd0
  go_wp2_with fail
  have hb7:=multi_store HB25.out (.int .i64 n) (.int .i64 k) (.slice (some ⟨gl,0,none⟩) l cl)
  refine bodyPost_ret (results_cell_tmp (by rfl) _ _ w1.heap.size 31 #[.int .i64 n,.int .i64 k,.slice (some ⟨gl,0,none⟩) l cl] (0,0) _ (.int .i64 0) (by rfl) (by rfl) hb7 Tryz.underlying31 (by rfl) (by kernel_rfl)) (by rfl) ⟨_,rfl,multi_ext HE5.out HGT.out.2.2.2.2.2 _ _ _,_,rfl,?_⟩
  rw [HCX.out]
  have h9:=(HRW.out.grown (grownBy_S (S:=(·=w1.heap.size)) (multi_grown w5 w1.heap.size (.int .i64 n) (.int .i64 k) (.slice (some ⟨gl,0,none⟩) l cl)) (fun k hk=>by cases hk;rfl)) (fun e=>by have:=HGT.out;omega)).numsZ (c:=cl) (by rw [HL.out];exact HP.out.lc.1) HP.out.lc.2
  rw [HL.out] at h9
  exact h9
 have sd:((intB (d:Int)).toList == [48])=false:=by rw [int_zeroW];exact decide_eq_false (by omega)
 have HD0:=Lib.hid hd0
 have hbig:=BigL.of_nums HXV.out
 obtain ⟨q,x0,hq,hx0,hqb⟩:∃ (q:Nat) (x0:Int),X[q]?=some x0∧x0≠0∧∀ (j:Nat) (y:Int),j<q→X[j]?=some y→y=0:=by
  obtain ⟨x,hx,hxn⟩:=contL_pos (X:=X) (by rw [HD.out];exact hd0)
  cases hf:X.findIdx? (·≠0) with
  | none =>
   have:=List.findIdx?_eq_none_iff.1 hf x hx
   simp at this;exact absurd this hxn
  | some q =>
   obtain ⟨h1,h2,h3⟩:=List.findIdx?_eq_some_iff_getElem.1 hf
   refine ⟨q,X[q],List.getElem?_eq_getElem h1,by simpa using h2,fun j y hj hy=>?_⟩
   have h4:=h3 j hj
   rw [← (List.getElem?_eq_some_iff.1 hy).2]
   simpa using h4
 have hidx:idxBig (fun x:Int=>decide (x≠0)) X=(q:Int):=by
  unfold idxBig
  have hf:X.findIdx? (fun x:Int=>decide (x≠0))=some q:=by
   rw [List.findIdx?_eq_some_iff_getElem]
   obtain ⟨h1,h2⟩:=List.getElem?_eq_some_iff.1 hq
   exact ⟨h1,by rw [h2];exact decide_eq_true hx0,fun j hj=>by
    have:=hqb j (X[j]'(by omega)) hj (List.getElem?_eq_getElem _)
    simp [this]⟩
  rw [hf]
 have HIX:Hid (Calls Tryz.prog 91 #[.slice a l c,.func (.func 92) #[] #[]] w5 fun e w'=>e=.returned (.int .i64 (q:Int))∧Ext w5 w'):=by
  have h9:=indexFuncBig_any (R:=strI) (fun _ _ _ _ _ h=>h) X (.slice a l c) 92 #[] (fun x=>decide (x≠0)) w5 (ListAt.ext (fun _ _ _ _ _ h=>h) hbig HE5.out) (enters_of Tryz.func92 (by kernel_rfl) rfl) (fun W x v _ _ hv=>by
   have hv:v=.string (intB x):=hv
   subst hv
   exact canon1_any x W)
  rw [hidx] at h9;exact h9
 have hsg:=signL_find hq hx0 hqb
 obtain ⟨bx,ox,rfl,-,hcell⟩:=HAC.out (by intro e;rw [e] at hq;simp at hq)
 obtain ⟨z9,e9,g9⟩:=hcell q x0 hq
 obtain rfl:z9=.string (intB x0):=e9
 have hql:q<l:=by have:=(List.getElem?_eq_some_iff.1 hq).1;rw [HL.out] at this;exact this
 have hqi:(q:Int)<(l:Int):=by omega
 have HQ9:=Lib.hid g9
 have c2:=block_cell HB15.out 2
 simp only [List.getElem?_toArray,List.getElem?_cons_succ,List.getElem?_cons_zero] at c2
 have HSD:Hid (((intB (d:Int)).toList == [48])=false):=sd
 obtain ⟨ud,hud⟩:∃ u,intB (d:Int)=u:=⟨_,rfl⟩
 have HUD:=Lib.hid hud
 rw [hud] at sd ⊢
 clear hud hd hd0 hbig hidx hq hqb hcell g9 hx0
 go_wp2_with fail
 refine HIX.out.mono ?_
 rintro e w6 ⟨rfl,hE6⟩
 have HX46:Hid (Ext w4 w6):=HX45.out.trans hE6
 have HE6:Hid (Ext w w6):=HE5.out.trans hE6
 have HB26:=Lib.hid (block_ext HB25.out hE6)
 have HBG6:=Lib.hid (block_ext HBG.out hE6)
 have HRW6:=Lib.hid (HRW.out.ext hE6)
 have c2':=hE6.cell c2
 have g9:=HE6.out.cell HQ9.out
 clear hE6 HIX c2 sd
 have HSX:Hid (∀ W,Calls Tryz.prog 93 #[.string (intB x0)] W fun e w'=>e=.returned (.int .i64 x0.sign)∧W=w'):=fun W=>sign_any x0 W
 obtain ⟨G,hG⟩:∃ G,gC X=G:=⟨_,rfl⟩
 have HG:=Lib.hid hG
 have hGn:G.natAbs=d:=by rw [← hG];unfold gC;rw [HD.out];split <;> simp
 have HGN:=Lib.hid hGn
 have HNE:Hid (∀ W,Calls Tryz.prog 29 #[.string ud] W fun e w'=>e=.returned (.string (intB (-(d:Int))))∧Ext W w'):=fun W=>by
  rw [← HUD.out]
  refine neg_any (d:Int) W ?_
  have h1:=contL_lt HDG.out
  rw [HD.out] at h1
  have h2:=(digits_size (x:=(d:Int)) (by rw [Int.natAbs_natCast];exact h1)).2
  omega
 have HGP:Hid (x0.sign<0→intB (-(d:Int))=intB G):=fun h=>by rw [← HG.out];unfold gC;rw [hsg,if_pos h,HD.out]
 have HGQ:Hid (¬ x0.sign<0→ud=intB G):=fun h=>by rw [← HUD.out,← HG.out];unfold gC;rw [hsg,if_neg h,HD.out]
 obtain ⟨sx,hsx⟩:∃ s,x0.sign=s:=⟨_,rfl⟩
 obtain ⟨ux,hux⟩:∃ u,intB x0=u:=⟨_,rfl⟩
 obtain ⟨ug,hug⟩:∃ u,intB G=u:=⟨_,rfl⟩
 have HUG:=Lib.hid hug
 rw [hsx,hux] at HSX
 rw [hux] at g9
 rw [hsx,hug] at HGP HGQ
 obtain ⟨bs,hbs⟩:∃ b,decide (sx<0)=b:=⟨_,rfl⟩
 have HGP2:Hid (bs=true→intB (-(d:Int))=ug):=fun h=>HGP.out (of_decide_eq_true (by rw [hbs];exact h))
 have HGQ2:Hid (bs=false→ud=ug):=fun h=>HGQ.out (of_decide_eq_false (by rw [hbs];exact h))
 clear HGP HGQ
 clear hsg hG hGn hsx hux hug HSD
 go_wp2_with fail
 refine (HSX.out w6).mono ?_
 rintro e w6' ⟨rfl,hw6⟩
 obtain rfl:=hw6
 clear HSX
 go_upto_if 39 with fail
 go_cut [6] from 40 to 41 (fun t wx=>t=.string ug∧Hid (Ext w6 wx))
 case first =>
  cases bs with
  | true =>
   have e9:=HGP2.out rfl
   rw [e9] at HNE
   clear e9
   go_wp2_with fail
   refine (HNE.out w6).mono ?_
   rintro e w8 ⟨rfl,hE8⟩
   have HE8:=Lib.hid hE8
   clear hE8
   go_wp2_with fail
   go_meet
   exact ⟨rfl,HE8.out⟩
  | false =>
   have e9:=HGQ2.out rfl
   obtain rfl:=e9
   go_wp2_with fail
   go_meet
   exact ⟨rfl,Ext.refl _⟩
 case rest =>
 obtain ⟨rfl,HX7⟩:=hcut
 obtain ⟨w7,rfl⟩:∃ w7:World,w7=wc:=⟨_,rfl⟩
 have HE7:Hid (Ext w w7):=HE6.out.trans HX7.out
 have HB27:=Lib.hid (block_ext HB26.out HX7.out)
 have HBG7:=Lib.hid (block_ext HBG6.out HX7.out)
 have HRW7:=Lib.hid (HRW6.out.ext HX7.out)
 have HLC:=Lib.hid HP.out.lc
 have c5:=block_cell HBG7.out 2
 simp only [List.getElem?_toArray,List.getElem?_cons_succ,List.getElem?_cons_zero] at c5
 have HCL:Hid ((canW X).length=l):=by unfold Hid;rw [canW_len,HL.out]
 have hG0:G≠0:=by have:=HGN.out;have:=HD0.out;omega
 have HDM:Hid (∀ x∈X,∀ W,Ext w W→Calls Tryz.prog 94 #[.string (intB x),.string ug] W fun e w'=>∃ m,e=.returned (.tuple #[.string (intB (fdq x G)),.string m,.int .i64 0])∧Ext W w'):=fun x hx W hW=>by
  have h1:=contL_lt HDG.out
  rw [HD.out] at h1
  have h2:=(digits_size (x:=G) (by rw [HGN.out];exact h1)).2
  have h3:=(digits_size (HDG.out x hx)).2
  have h9:=divModI_any x G W (by omega) (by omega) hG0 (HT.out.ext hW)
  rw [HUG.out] at h9
  exact h9.mono fun e w' ⟨e1,e2⟩=>⟨_,e1,e2⟩
 have HCG:Hid (∀ (i:Nat) x,X[i]?=some x→(canW X)[i]?=some (fdq x G)):=fun i x hx=>by
  unfold canW
  rw [if_neg (by rw [HD.out];exact HD0.out),List.getElem?_map,hx,HG.out];rfl
 clear c2' g9 hG0
 go_wp2_with fail
 clear c5
 go_loopw [45] (fun t wr=>∃ i:Nat,i≤l∧t=.int .i64 (i:Int)∧Hid (GrownS (·=gl) w7 wr)∧Hid (RowN wr gl ((canW X).take i++X.drop i))) (fun t _=>l+1-(intOf t).toNat)
 case atStart=>exact ⟨0,by omega,by simp,GrownS.refl _ _,HRW7.out⟩
 case round =>
  obtain ⟨i,hi,rfl,HGR,HRR⟩:=hrel
  obtain ⟨wo,rfl⟩:∃ wo:World,wo=wr:=⟨_,rfl⟩
  have HBGo:=Lib.hid ((HGR.out.block g (block_lt HBG7.out) (fun e=>HGT.out.2.2.2.2.1 e.symm)).trans HBG7.out)
  by_cases hlt:i<l
  ·obtain ⟨x,hx⟩:∃ x,X[i]?=some x:=⟨_,List.getElem?_eq_getElem (by rw [HL.out];exact hlt)⟩
   have hin:(i:Int)<(l:Int):=by omega
   have hti:((canW X).take i).length=i:=by rw [List.length_take,HCL.out];omega
   have hgx:((canW X).take i++X.drop i)[i]?=some x:=by
    rw [List.getElem?_append_right (by omega),hti,Nat.sub_self,List.getElem?_drop];exact hx
   have z1:=HRR.out.cell i x hgx
   have z2:=block_cell HBGo.out 2
   simp only [List.getElem?_toArray,List.getElem?_cons_succ,List.getElem?_cons_zero] at z2
   have HEWo:Hid (Ext w wo):=ext_grownS HE7.out HGR.out (fun j hj e=>by have:=HGT.out;omega)
   have HDX:=Lib.hid (HDM.out x (List.mem_of_getElem? hx))
   have HNX:Hid ((((canW X).take i++X.drop i).set i (fdq x G))=(canW X).take (i+1)++X.drop (i+1)):=by
    unfold Hid
    have hcx:=HCG.out i x hx
    rw [List.set_append_right _ _ (by omega),hti,Nat.sub_self,List.take_add_one,hcx]
    rw [show X.drop i=x::X.drop (i+1) from by
     obtain ⟨h1,h2⟩:=List.getElem?_eq_some_iff.1 hx
     rw [List.drop_eq_getElem_cons h1,h2]]
    simp
   have HLN:Hid (i<((canW X).take i++X.drop i).length):=by unfold Hid;rw [List.length_append,List.length_drop,HL.out,hti];omega
   obtain ⟨ux',hux⟩:∃ u,intB x=u:=⟨_,rfl⟩
   obtain ⟨uq,huq⟩:∃ u,intB (fdq x G)=u:=⟨_,rfl⟩
   have HUQ:=Lib.hid huq
   rw [hux] at z1 HDX
   rw [huq] at HDX
   obtain ⟨Y,hY⟩:∃ Y,(canW X).take i++X.drop i=Y:=⟨_,rfl⟩
   rw [hY] at HRR HNX HLN
   clear hti hgx hx hux huq hY
   go_upto_region 14 with fail
   refine region_anyEV (fun w'=>w'.cell? ⟨g,2,none⟩=some (.slice (some ⟨gl,0,none⟩) l cl)∧Hid (Ext wo w')) 11 12 (by kernel_rfl) (by kernel_rfl) ⟨(Ext.drew wo).cell z2,Ext.drew wo⟩ (fun ops hO hHeld=>?_)
   have hi:=getopN hO 0 (by decide)
   conv at hi=>rhs;arg 1;whnf
   refine anyE_takeWV hO (v:=?_) 0 hi (by kernel_rfl) (by kernel_rfl) (by kernel_rfl) (by kernel_rfl) (fun _ _ _ h=>h) (Or.inl ⟨by rfl,?_⟩) (by assumption) ?_
   rotate_left
   ·((intro w');(try go_simp);(try with_reducible rfl))
   clear hi
   (try simp only [Act.put,List.setIfInBounds_toArray,List.set_cons_zero,List.set_cons_succ])
   have hi:=getopN hO 1 (by decide)
   conv at hi=>rhs;arg 1;whnf
   refine anyE_takeP hO (v:=?_) 1 [10] hi (by kernel_rfl) (by kernel_rfl) (by kernel_rfl) (by kernel_rfl) (by kernel_rfl) (fun _ _ _ h=>h) (Or.inl ⟨by rfl,?_⟩) (by assumption) ?_
   rotate_left
   ·((intro w' hSw);(try dsimp only at hSw);(try go_simp);(try with_reducible rfl))
   clear hi
   (try simp only [Act.put,List.setIfInBounds_toArray,List.set_cons_zero,List.set_cons_succ])
   have hi:=getopN hO 2 (by decide)
   conv at hi=>rhs;arg 1;whnf
   refine anyE_takeWV hO (v:=?_) 2 hi (by kernel_rfl) (by kernel_rfl) (by kernel_rfl) (by kernel_rfl) (fun _ _ _ h=>h) (Or.inl ⟨by rfl,?_⟩) (by assumption) ?_
   rotate_left
   ·((intro w');(try go_simp);(try with_reducible rfl))
   clear hi
   (try simp only [Act.put,List.setIfInBounds_toArray,List.set_cons_zero,List.set_cons_succ])
   have hi:=getopN hO 3 (by decide)
   conv at hi=>rhs;arg 1;whnf
   refine anyE_takeWV hO (v:=?_) 3 hi (by kernel_rfl) (by kernel_rfl) (by kernel_rfl) (by kernel_rfl) (fun _ _ _ h=>h) (Or.inl ⟨by rfl,?_⟩) (by assumption) ?_
   rotate_left
   ·((intro w');(try go_simp);(try with_reducible rfl))
   clear hi
   (try simp only [Act.put,List.setIfInBounds_toArray,List.set_cons_zero,List.set_cons_succ])
   have hi:=getopN hO 4 (by decide)
   conv at hi=>rhs;arg 1;whnf
   refine anyE_takeWV hO (v:=?_) 4 hi (by kernel_rfl) (by kernel_rfl) (by kernel_rfl) (by kernel_rfl) (fun _ _ _ h=>h) (Or.inl ⟨by rfl,?_⟩) (by assumption) ?_
   rotate_left
   ·((intro w');(try go_simp);(try with_reducible rfl))
   clear hi
   (try simp only [Act.put,List.setIfInBounds_toArray,List.set_cons_zero,List.set_cons_succ])
   have hi:=getopN hO 5 (by decide)
   conv at hi=>rhs;arg 1;whnf
   refine anyE_stepV hO 5 (by kernel_rfl) hi (fun K hK=>?_)
   go_simp
   (go_at_call 94;refine (HDX.out _ (HEWo.out.trans hHeld.2.out)).mono ?_)
   rintro e wy ⟨um,rfl,hEz⟩
   go_wp2_with fail
   refine hK.out _ _ ⟨(hEz).cell hHeld.1,Ext.trans hHeld.2.out (hEz)⟩ (fun hHeld=>?_)
   clear hK K hi
   (try simp only [Act.put,List.setIfInBounds_toArray,List.set_cons_zero,List.set_cons_succ])
   have HWY:Hid (Ext wo wy):=hHeld.2
   have HRY:=Lib.hid (HRR.out.ext HWY.out)
   have kz:=HRY.out.cell i _ (List.getElem?_eq_getElem HLN.out)
   have kg:=HRY.out.free i
   have hi:=getopN hO 6 (by decide)
   conv at hi=>rhs;arg 1;whnf
   refine anyE_takeWV hO (v:=?_) 6 hi (by kernel_rfl) (by kernel_rfl) (by kernel_rfl) (by kernel_rfl) (fun _ _ _ h=>h) (Or.inl ⟨by rfl,?_⟩) (by assumption) ?_
   rotate_left
   ·((intro w');(try go_simp);(try with_reducible rfl))
   clear hi
   (try simp only [Act.put,List.setIfInBounds_toArray,List.set_cons_zero,List.set_cons_succ])
   have hi:=getopN hO 7 (by decide)
   conv at hi=>rhs;arg 1;whnf
   refine anyE_takeWV hO (v:=?_) 7 hi (by kernel_rfl) (by kernel_rfl) (by kernel_rfl) (by kernel_rfl) (fun _ _ _ h=>h) (Or.inl ⟨by rfl,?_⟩) (by assumption) ?_
   rotate_left
   ·((intro w');(try go_simp);(try with_reducible rfl))
   clear hi
   (try simp only [Act.put,List.setIfInBounds_toArray,List.set_cons_zero,List.set_cons_succ])
   have hi:=getopN hO 8 (by decide)
   conv at hi=>rhs;arg 1;whnf
   refine anyE_takeWV hO (v:=?_) 8 hi (by kernel_rfl) (by kernel_rfl) (by kernel_rfl) (by kernel_rfl) (fun _ _ _ h=>h) (Or.inl ⟨by rfl,?_⟩) (by assumption) ?_
   rotate_left
   ·((intro w');(try go_simp);(try with_reducible rfl))
   clear hi
   (try simp only [Act.put,List.setIfInBounds_toArray,List.set_cons_zero,List.set_cons_succ])
   have hi:=getopN hO 9 (by decide)
   conv at hi=>rhs;arg 1;whnf
   refine anyE_takeWV hO (v:=?_) 9 hi (by kernel_rfl) (by kernel_rfl) (by kernel_rfl) (by kernel_rfl) (fun _ _ _ h=>h) (Or.inl ⟨by rfl,?_⟩) (by assumption) ?_
   rotate_left
   ·((intro w');(try go_simp);(try with_reducible rfl))
   clear hi
   (try simp only [Act.put,List.setIfInBounds_toArray,List.set_cons_zero,List.set_cons_succ])
   have hi:=getopN hO 10 (by decide)
   conv at hi=>rhs;arg 1;whnf
   refine anyE_takeWV hO (v:=?_) 10 hi (by kernel_rfl) (by kernel_rfl) (by kernel_rfl) (by kernel_rfl) (fun _ _ _ h=>h) (Or.inl ⟨by rfl,?_⟩) (by assumption) ?_
   rotate_left
   ·((intro w');(try go_simp);(try with_reducible rfl))
   clear hi
   (try simp only [Act.put,List.setIfInBounds_toArray,List.set_cons_zero,List.set_cons_succ])
   have hi:=getopN hO 11 (by decide)
   conv at hi=>rhs;arg 1;whnf
   refine anyE_lastP hO 11 (by kernel_rfl) (by kernel_rfl) (by kernel_rfl) hi (fun K hK=>?_)
   go_simp
   refine hK.out _ _ ?_
   clear hK K hi hO
   (try simp only [Act.put,List.setIfInBounds_toArray,List.set_cons_zero,List.set_cons_succ])
   go_wp2_with fail
   go_roundw
   case rel=>exact ⟨i+1,by omega,by go_num,(HGR.out.ext HWY.out).trans (grownBy_S (grown_setCell _ _ _ _) (fun k hk=>by cases hk;rfl)),by
    have h9:=HRY.out.set i HLN.out (fdq x G)
    rw [HUQ.out,HNX.out] at h9
    exact h9⟩
   case measure=>simp [intOf];omega
  ·obtain rfl:i=l:=by omega
   have HB2o:=Lib.hid ((HGR.out.block w1.heap.size (block_lt HB27.out) (fun e=>by have:=HGT.out;omega)).trans HB27.out)
   have HEWo:Hid (Ext w wo):=ext_grownS HE7.out HGR.out (fun j hj e=>by have:=HGT.out;omega)
   have HFN:Hid (RowN wo gl (canW X)):=by
    have h9:=HRR.out
    rw [List.take_of_length_le (by rw [HCL.out];omega),List.drop_eq_nil_of_le (by rw [HL.out];omega),List.append_nil] at h9
    exact h9
   have kk:=block_cell HBGo.out
   have f9:=block_free HB2o.out
   have k9:=block_cell HB2o.out
   go_wp2_with fail
   have hb7:=multi_store HB2o.out (.int .i64 n) (.int .i64 k) (.slice (some ⟨gl,0,none⟩) i cl)
   refine bodyPost_ret (results_cell_tmp (by rfl) _ _ w1.heap.size 31 #[.int .i64 n,.int .i64 k,.slice (some ⟨gl,0,none⟩) i cl] (0,0) _ (.int .i64 0) (by rfl) (by rfl) hb7 Tryz.underlying31 (by rfl) (by kernel_rfl)) (by rfl) ⟨_,rfl,multi_ext HEWo.out HGT.out.2.2.2.2.2 _ _ _,_,rfl,?_⟩
   have h9:=(HFN.out.grown (grownBy_S (S:=(·=w1.heap.size)) (multi_grown wo w1.heap.size (.int .i64 n) (.int .i64 k) (.slice (some ⟨gl,0,none⟩) i cl)) (fun k hk=>by cases hk;rfl)) (fun e=>by have:=HGT.out;omega)).numsZ (c:=cl) (by rw [HCL.out];exact HLC.out.1) HLC.out.2
   rw [HCL.out] at h9
   exact h9
end Go.Proofs.YtjlkkofmojgipaaGreatDoor
