import Derived.Test.YtjlkkofmojgipaaGreatDoorPAQ
namespace Go.Proofs.YtjlkkofmojgipaaGreatDoor
set_option linter.unusedVariables false
set_option linter.unusedSimpArgs false
open Go.RowKit Go.Shelf
attribute [local go_sem] Oper.semAt_some
def minorOf (xss:List (List Int)) (k:Nat) (R C:List Nat):Int:=(redTo (matQ (partI xss R C)) k).det.num
def minorsS (xss:List (List Int)) (k:Nat):List Int:=(setsL xss.length k).flatMap fun R=>(setsL (colsN xss) k).map fun C=>minorOf xss k R C
def minTo (xss:List (List Int)) (k i:Nat):List Int:=((setsL xss.length k).take i).flatMap fun R=>(setsL (colsN xss) k).map fun C=>minorOf xss k R C
def minRow (xss:List (List Int)) (k:Nat) (R:List Nat) (j:Nat):List Int:=((setsL (colsN xss) k).take j).map fun C=>minorOf xss k R C
theorem minTo_succ {xss:List (List Int)} {k i:Nat} {R:List Nat} (h:(setsL xss.length k)[i]?=some R):minTo xss k (i+1)=minTo xss k i++minRow xss k R (setsL (colsN xss) k).length:=by
 unfold minTo minRow
 rw [List.take_add_one,h,List.take_length,List.flatMap_append]
 simp
theorem minRow_succ {xss:List (List Int)} {k j:Nat} {R C:List Nat} (h:(setsL (colsN xss) k)[j]?=some C):minRow xss k R (j+1)=minRow xss k R j++[minorOf xss k R C]:=by
 unfold minRow
 rw [List.take_add_one,h,List.map_append]
 simp
theorem minTo_len (xss:List (List Int)) (k i j:Nat) (R:List Nat) (h1:(setsL xss.length k).length≤1000) (h2:(setsL (colsN xss) k).length≤1000):(minTo xss k i++minRow xss k R j).length<8000000:=by
 unfold minTo minRow
 rw [List.length_append,length_flatMap_const _ (setsL (colsN xss) k).length (fun R=>by simp),List.length_map,List.length_take,List.length_take]
 have:=Nat.mul_le_mul (show min i (setsL xss.length k).length≤1000 by omega) h2
 omega
theorem minTo_all (xss:List (List Int)) (k:Nat):minTo xss k (setsL xss.length k).length=minorsS xss k:=by
 unfold minTo minorsS;rw [List.take_length]
set_option maxRecDepth 100000 in
set_option maxHeartbeats 8000000 in
theorem minors_any (xss:List (List Int)) (k:Nat) (v:Value) (w:World) (h:Rows2 w v xss) (hE:tabE xss=0) (hk1:k≤xss.length) (hk2:k≤colsN xss) (hch:chooseS xss.length k*chooseS (colsN xss) k≤1000)
  (hok:∀ R∈setsL xss.length k,∀ C∈setsL (colsN xss) k,∀ c,c<k→AllRS 2500 (redTo (matQ (partI xss R C)) c).m∧RS 9000 (redTo (matQ (partI xss R C)) c).det) (ht:Pow10 w) :
  Calls Tryz.prog 54 #[v,.int .i64 (k:Int)] w fun e w'=>∃ r,e=.returned (.tuple #[r,.int .i64 0])∧ListAt 1 numC w' r (minorsS xss k)∧Ext w w':=by
 obtain ⟨hl,hrr⟩:=tabE_zero hE
 have hcl:colsN xss≤12:=by
  unfold colsN
  cases xss with
  | nil=>simp
  | cons r l=>exact (hrr r (by simp)).2.1
 have HCH:Hid (∀ W,Ext w W→Calls Tryz.prog 53 #[v] W fun e w'=>e=.returned (.int .i64 0)∧Ext W w'):=fun W hW=>by
  have:=tabCheck_any xss v W (h.ext hW)
  rw [hE] at this;exact this
 have HCO:Hid (∀ W,Ext w W→Calls Tryz.prog 106 #[v] W fun e w'=>e=.returned (.int .i64 (colsN xss:Int))∧w'=W):=fun W hW=>(columns_any xss v W (h.ext hW)).mono fun _ _ ⟨a,b⟩=>⟨a,b.symm⟩
 have HC1:Hid (∀ W,Calls Tryz.prog 107 #[.int .i64 (xss.length:Int),.int .i64 (k:Int)] W fun e w'=>e=.returned (.int .i64 (chooseS xss.length k:Int))∧w'=W):=fun W=>(choose_any _ _ W hl hk1).mono fun _ _ ⟨a,b⟩=>⟨a,b.symm⟩
 have HC2:Hid (∀ W,Calls Tryz.prog 107 #[.int .i64 (colsN xss:Int),.int .i64 (k:Int)] W fun e w'=>e=.returned (.int .i64 (chooseS (colsN xss) k:Int))∧w'=W):=fun W=>(choose_any _ _ W hcl hk2).mono fun _ _ ⟨a,b⟩=>⟨a,b.symm⟩
 have HROWS:=Lib.hid h;have HT:=Lib.hid ht;have HOK:=Lib.hid hok;have HRR:=Lib.hid hrr
 obtain ⟨a,c,rfl,h1,h2,-,hcc⟩:=inCell.open h
 have HCELL:=Lib.hid hcc
 obtain ⟨n,hn⟩:∃ n,n=xss.length:=⟨_,rfl⟩
 obtain ⟨m,hm⟩:∃ m,m=colsN xss:=⟨_,rfl⟩
 rw [← hn] at HC1 HCO HCH h1 hk1 hch hl HROWS ⊢
 rw [← hm] at HC2 HCO hk2 hch hcl
 obtain ⟨c1,hc1⟩:∃ c,c=chooseS n k:=⟨_,rfl⟩
 obtain ⟨c2,hc2⟩:∃ c,c=chooseS m k:=⟨_,rfl⟩
 rw [← hc1] at HC1 hch
 rw [← hc2] at HC2 hch
 have HCC:=Lib.hid (And.intro hc1 hc2)
 have HNM:=Lib.hid (And.intro hn hm)
 unfold maxLen at h2
 have q0:¬ (k:Int)<0:=by omega
 have q1:¬ (n:Int)<(k:Int):=by omega
 have q2:¬ (m:Int)<(k:Int):=by omega
 have hcm:((c1*c2:Nat):Int)=(c1:Int)*(c2:Int):=Int.natCast_mul _ _
 have q3:IntKind.i64.wrap ((c1:Int)*(c2:Int))=(c1:Int)*(c2:Int):=by rw [← hcm,IntKind.wrap_i64];omega
 have q4:¬ (1000:Int)<(c1:Int)*(c2:Int):=by rw [← hcm];omega
 have z0:=decide_eq_false q0
 have z1:=decide_eq_false q1
 have z2:=decide_eq_false q2
 have z4:=decide_eq_false q4
 have z5:decide (n<k)=false:=by rw [decide_eq_false_iff_not];omega
 have z6:decide (m<k)=false:=by rw [decide_eq_false_iff_not];omega
 clear h hE hok ht hrr hcc hn hm hc1 hc2 hcm
 refine (callsIn_wide (n:=9)).1 ?_
 refine callsIn_of_wp_marks Tryz.func54 rfl trivial ?_ rfl
 simp only [Tryz.ntmps54,List.size_toArray,List.length_cons,List.length_nil,Nat.reduceAdd,Nat.reduceSub,Array.replicate_succ,Array.replicate_zero,List.push_toArray,List.append_toArray,List.nil_append,List.cons_append]
 obtain ⟨W2,hW2⟩:∃ W2,(w.alloc (.cells #[.slice a n c] 23)).alloc (.cells #[.int .i64 (k:Int)] 3)=W2:=⟨_,rfl⟩
 have hX2:Ext w W2:=by rw [← hW2];exact (Ext.alloc _ _).trans (Ext.alloc _ _)
 have hs2:W2.heap.size=w.heap.size+2:=by rw [← hW2];simp
 have hb1:Boxed W2 w.heap.size 23 (.slice a n c):=by
  rw [← hW2];exact Boxed.alloc (Boxed.new w _ _) _
 have hb2:Boxed W2 (w.heap.size+1) 3 (.int .i64 (k:Int)):=by
  rw [← hW2]
  have:=Boxed.new (w.alloc (.cells #[.slice a n c] 23)) 3 (.int .i64 (k:Int))
  simpa using this
 have HX2:=Lib.hid hX2;have HB1:=Lib.hid hb1;have HB2:=Lib.hid hb2;have HS2:=Lib.hid hs2
 have d1:=hb1.cell;have d2:=hb2.cell
 clear hX2 hs2 hb1 hb2
 refine wpIn_wide.2 ?_
 go_wp2_with fail
 refine (HCH.out _ HX2.out).mono ?_
 rintro e w1 ⟨rfl,hE1⟩
 have HX1:=Lib.hid (Ext.trans HX2.out hE1)
 have e1:=hE1.cell d1;have e2:=hE1.cell d2
 have HBX1:Hid (Boxed w1 w.heap.size 23 (.slice a n c)∧Boxed w1 (w.heap.size+1) 3 (.int .i64 (k:Int))∧w.heap.size+2≤w1.heap.size):=⟨block_ext HB1.out hE1,block_ext HB2.out hE1,by have:=hE1.size;have:=HS2.out;omega⟩
 clear hE1 d1 d2 hW2 HCH
 go_wp2_with fail
 go_quiet ((go_at_call 106;exact Calls.quiet_of_same (HCO.out _ (Ext.draws HX1.out _))))
 go_wp2_with fail
 obtain ⟨wq,hwq⟩:∃ wq,wq=w1.drewN nq:=⟨_,rfl⟩
 rw [← hwq]
 have hEQ:Ext w1 wq:=by rw [hwq];exact Ext.drewN _ _
 have HXQ:=Lib.hid (Ext.trans HX1.out hEQ)
 have b1:=hEQ.cell e1;have b2:=hEQ.cell e2
 have HBXQ:Hid (Boxed wq w.heap.size 23 (.slice a n c)∧Boxed wq (w.heap.size+1) 3 (.int .i64 (k:Int))∧w.heap.size+2≤wq.heap.size):=⟨block_ext HBX1.out.1 hEQ,block_ext HBX1.out.2.1 hEQ,by have:=hEQ.size;have:=HBX1.out.2.2;omega⟩
 clear hwq hEQ e1 e2 HBX1 HX1 HX2 HB1 HB2 HS2
 go_quiet ((first | (go_at_call 106;exact Calls.quiet_of_same (HCO.out _ (Ext.draws HXQ.out _))) | (go_at_call 107;with_reducible exact Calls.quiet_of_same (HC1.out _)) | (go_at_call 107;with_reducible exact Calls.quiet_of_same (HC2.out _))))
 obtain ⟨wz,hwr⟩:∃ wz,wz=wq.drewN nq:=⟨_,rfl⟩
 rw [← hwr]
 have hER:Ext wq wz:=by rw [hwr];exact Ext.drewN _ _
 obtain ⟨W3,hW3⟩:∃ W3,wz.alloc (.cells #[.slice none 0 0] 29)=W3:=⟨_,rfl⟩
 have hE3:Ext wz W3:=by rw [← hW3];exact Ext.alloc _ _
 have HM3:Hid (MinI w W3 w.heap.size (w.heap.size+1) wz.heap.size (.slice a n c) k (minTo xss k 0)):=by
  have hs:=hER.size
  have hz:=HBXQ.out.2.2
  refine ⟨block_ext HBXQ.out.1 (hER.trans hE3),block_ext HBXQ.out.2.1 (hER.trans hE3),⟨_,?_,World.ownsRow_nil _ _ _ _⟩,HXQ.out.trans (hER.trans hE3),by omega,Nat.le_refl _,by omega⟩
  rw [← hW3];exact Boxed.new _ _ _
 have b1:=hE3.cell (hER.cell b1);have b2:=hE3.cell (hER.cell b2)
 have HS3:Hid (W3.heap.size=wz.heap.size+1∧w.heap.size+2≤wz.heap.size):=⟨by rw [← hW3];simp,by have:=hER.size;have:=HBXQ.out.2.2;omega⟩
 clear hwr hER hE3 HBXQ HXQ
 go_wp2_with fail
 refine (sets_any _ _ _).mono ?_
 rintro e w4 ⟨rfl,hw4⟩
 have hX4:Ext W3 w4:=by rw [hw4];exact (Ext.alloc _ _).trans (Ext.alloc _ _)
 have HM4:=Lib.hid (HM3.out.ext hX4)
 have HKB:Hid (Boxed w4 (W3.heap.size+1) 3 (.int .i64 (k:Int))∧Boxed w4 W3.heap.size 3 (.int .i64 (n:Int))∧w4.heap.size=W3.heap.size+2):=by
  rw [hw4]
  refine ⟨?_,Boxed.alloc (Boxed.new _ _ _) _,by simp⟩
  have:=Boxed.new (W3.alloc (.cells #[.int .i64 (n:Int)] 3)) 3 (.int .i64 (k:Int))
  simpa using this
 clear b1 b2 hw4 hX4 hW3
 go_wp2_with fail
 refine (wpIn_wide (n:=9)).1 ?_
 have HSI:=Lib.hid (sets_ok (n:=n) (k:=k) hl hk1)
 have HSJ:=Lib.hid (sets_ok (n:=m) (k:=k) hcl hk2)
 refine wpIn_rangeSets (T:=3) (L:=setsL n k) (w0:=w4) rfl (by omega) (gf:=158) (lb:=#[.pointer (some ⟨W3.heap.size+1,0,none⟩),.pointer (some ⟨W3.heap.size,0,none⟩)]) rfl trivial (enters_of Tryz.func158 (by kernel_rfl) rfl)
  (sets1_in (9-1) (by omega) n k hk1 hl (setsL n k) HSI.out.1 _ _ w4 HKB.out.1 HKB.out.2.1) (Below.refl _ _) rfl
  (fun i W=>MinI w W w.heap.size (w.heap.size+1) wz.heap.size (.slice a n c) k (minTo xss k i)) ?ab HM4.out ?rounds ?done
 case ab =>
  rintro i W W' row hI hg hr
  have h3:=HS3.out;have h4:=HKB.out.2.2
  refine hI.grown hg (fun e=>?_) (fun e=>?_) (fun e=>?_) (fun r e=>?_)
  ·have:=(hr _ e).1;omega
  ·have:=(hr _ e).1;omega
  ·have:=(hr _ e).1;omega
  ·obtain ⟨h5,o,ho,h6⟩:=hr r e
   refine ⟨by omega,fun C fr hc=>?_⟩
   rw [hc] at ho
   cases ho
   rcases h6 with h6 | ⟨C',fr',h6⟩
   ·simp [Obj.isCells] at h6
   ·simp at h6
 case done =>
  intro W hI hD
  have hn2:minTo xss k (setsL n k).length=minorsS xss k:=by rw [HNM.out.1];exact minTo_all xss k
  rw [hn2] at hI
  obtain ⟨vo,hbo,hown⟩:=hI.out
  have c0:=hbo.cell
  have HI:=Lib.hid hI
  have HD:=Lib.hid hD
  have HOWN:=Lib.hid hown
  have hw4:w.heap.size≤w4.heap.size:=HM4.out.old.size
  clear hI hD hown hbo hn2
  go_wp2_with fail
  refine ⟨by simp,.inl ⟨_,_,rfl,run_takeDeferred HD.out,?_⟩⟩
  refine ⟨_,results_tmp2 rfl _ _ _,vo,rfl,?_,?_⟩
  ·exact numC.of_owns (ownsRow_putObj HOWN.out _ HD.out rfl)
  ·exact Below.trans HI.out.old ((belowK_b (w:=w) (n₀:=w.heap.size) (Nat.le_refl _) W w4.heap.size _ _ hw4 HD.out rfl rfl))
 case rounds =>
  rintro i R vs W hR hI hV ⟨r0,hr0⟩
  have hRk:=HSI.out.1.len R (List.mem_of_getElem? hR)
  have hRn:=HSI.out.1.lt R (List.mem_of_getElem? hR)
  obtain ⟨gR,CR,frR,hvs,hgR,hcR⟩:=hV.at_
  rw [hRk] at hvs
  subst hvs
  have HV:=Lib.hid hV;have HI:=Lib.hid hI;have HR:=Lib.hid hR;have HL0:=Lib.hid hr0;have HRK:=Lib.hid hRk;have HRN:=Lib.hid hRn;have HGR:=Lib.hid hgR;have HCR:=Lib.hid hcR
  obtain ⟨W5,hW5⟩:∃ W5,W.alloc (.cells #[.slice none 0 0] 26)=W5:=⟨_,rfl⟩
  have hb5:Boxed W5 W.heap.size 26 (.slice none 0 0):=by rw [← hW5];exact Boxed.new _ _ _
  have HE5:Hid (Ext W W5):=by rw [← hW5];exact Ext.alloc _ _
  have HB5:=Lib.hid hb5
  have c0:=hb5.cell
  have f0:=hb5.frozen
  have HE6:Hid (Ext W (W5.setCell ⟨W.heap.size,0,none⟩ (.slice (some ⟨gR,0,none⟩) k k))):=((HE5.out.grownS (·=W.heap.size)).store (S:=(·=W.heap.size)) rfl 0 _).belowE (fun b e=>by omega) (Nat.le_refl _)
  have HB6:Hid (Boxed (W5.setCell ⟨W.heap.size,0,none⟩ (.slice (some ⟨gR,0,none⟩) k k)) W.heap.size 26 (.slice (some ⟨gR,0,none⟩) k k)):=block_set hb5 0 _
  clear hV hI hR hr0 hRk hRn hgR hcR hb5
  gi_wp2_with fail
  obtain ⟨W6,hW6⟩:∃ W6,W6=W5.setCell ⟨W.heap.size,0,none⟩ (.slice (some ⟨gR,0,none⟩) k k):=⟨_,rfl⟩
  rw [← hW6] at HE6 HB6 ⊢
  have hbx:=HI.out.box
  refine ⟨(OldM.ext (n0:=w.heap.size) (Bo:=wz.heap.size) HE6.out).keepF hbx.2,(OldM.ext (n0:=w.heap.size) (Bo:=wz.heap.size) HE6.out).keepT hbx.1,?_⟩
  rintro Wb hgb ⟨r1,hr1⟩ ⟨r2,hr2⟩ hkb
  have hlw:=(Array.getElem?_eq_some_iff.1 HL0.out).1
  have HIB:Hid (MinI w Wb w.heap.size (w.heap.size+1) wz.heap.size (.slice a n c) k (minTo xss k i)):=by
   have h3:=HS3.out;have h4:=HKB.out.2.2
   refine (HI.out.ext HE6.out).grown hgb (fun e=>?_) (fun e=>?_) (fun e=>?_) (fun r e=>?_)
   ·have e:=Option.some.inj e;omega
   ·have e:=Option.some.inj e;omega
   ·have e:=Option.some.inj e;omega
   ·cases e
    exact ⟨by omega,fun C fr hc=>by rw [hr1] at hc;simp at hc⟩
  have HBB:Hid (Boxed Wb W.heap.size 26 (.slice (some ⟨gR,0,none⟩) k k)):=boxed_grown HB6.out hgb (fun e=>by have e:=Option.some.inj e;omega)
  have HVB:Hid (SetAt 3 Wb (.slice (some ⟨gR,0,none⟩) k k) R):=HV.out.keep (((OldM.ext (n0:=w.heap.size) (Bo:=wz.heap.size) HE6.out).keepT hbx.1).trans hkb)
  have HL2:=Lib.hid hr2
  have g1:=HIB.out.bm.cell
  have g2:=HIB.out.bk.cell
  have HXB:=Lib.hid HIB.out.old
  clear c0 f0 hgb hkb hr1 hr2 hbx hW6 hW5 HE6 HB6 HB5 HE5
  gi_wp2_with fail
  refine regionIn_anyE (fun u=>u=Wb.drew) 3 (by kernel_rfl) (by kernel_rfl) (by rintro ⟨_,_,h⟩;exact absurd (show Exit.outgrown=Exit.normal from h.1) (by simp)) rfl (fun hHeld=>?_)
  refine anyE_take (v:=?_) 0 rfl (by kernel_rfl) (by kernel_rfl) (by kernel_rfl) (by kernel_rfl) (by kernel_rfl) (fun _ _ _ h=>h) (Or.inl ⟨by rfl,?_⟩) (by assumption) ?_
  rotate_left
  ·((intro w' hSw);(subst hSw);(try go_simp);(try with_reducible rfl))
  (try simp only [Act.put,List.setIfInBounds_toArray,List.set_cons_zero,List.set_cons_succ])
  refine anyE_take (v:=?_) 2 rfl (by kernel_rfl) (by kernel_rfl) (by kernel_rfl) (by kernel_rfl) (by kernel_rfl) (fun _ _ _ h=>h) (Or.inl ⟨by rfl,?_⟩) (by assumption) ?_
  rotate_left
  ·((intro w' hSw);(subst hSw);(try go_simp);(try with_reducible rfl))
  (try simp only [Act.put,List.setIfInBounds_toArray,List.set_cons_zero,List.set_cons_succ])
  refine anyE_step 1 (by kernel_rfl) rfl (fun K hK=>?_)
  go_simp
  (go_at_call 106;refine (HCO.out _ (Ext.trans HXB.out (Ext.drew _))).mono ?_)
  rintro e w5 ⟨rfl,rfl⟩
  go_wp2_with fail
  refine hK.out _ _ (rfl) (fun hHeld=>?_)
  clear hK K
  (try simp only [Act.put,List.setIfInBounds_toArray,List.set_cons_zero,List.set_cons_succ])
  refine anyE_last 3 (by kernel_rfl) (by kernel_rfl) (by kernel_rfl) rfl (fun K hK=>?_)
  go_simp
  (go_at_call 108;refine (sets_any _ _ _).mono ?_)
  rintro e w5 ⟨rfl,hw5⟩
  have hX5:Ext Wb w5:=by rw [hw5];exact (Ext.drew _).trans ((Ext.alloc _ _).trans (Ext.alloc _ _))
  have HK5:Hid (Boxed w5 (Wb.heap.size+1) 3 (.int .i64 (k:Int))∧Boxed w5 Wb.heap.size 3 (.int .i64 (m:Int))∧w5.heap.size=Wb.heap.size+2):=by
   rw [hw5]
   refine ⟨?_,Boxed.alloc (Boxed.new _ _ _) _,by rw [World.size_alloc,World.size_alloc];rfl⟩
   have:=Boxed.new (Wb.drew.alloc (.cells #[.int .i64 (m:Int)] 3)) 3 (.int .i64 (k:Int))
   rw [World.size_alloc] at this
   exact this
  have HX5:=Lib.hid hX5
  clear hw5 hX5 g1 g2 hHeld
  go_wp2_with fail
  refine hK.out _ _ ?_
  clear hK K
  gi_wp2_with fail
  have HI5:Hid (MinI w w5 w.heap.size (w.heap.size+1) wz.heap.size (.slice a n c) k (minTo xss k i++minRow xss k R 0)∧OldM w.heap.size wz.heap.size Wb w5):=by
   refine ⟨?_,OldM.ext HX5.out⟩
   have e:minRow xss k R 0=[]:=rfl
   rw [e,List.append_nil]
   exact HIB.out.ext HX5.out
  have hlb:=(Array.getElem?_eq_some_iff.1 HL2.out).1
  refine wpIn_rangeSetsN (l₀:=w4.heap.size+1) (r₀:=r2) (T:=3) (L:=setsL m k) (w0:=w5) rfl (block_ext HL2.out HX5.out) (by omega) (gf:=158) (lb:=#[.pointer (some ⟨Wb.heap.size+1,0,none⟩),.pointer (some ⟨Wb.heap.size,0,none⟩)]) rfl trivial (enters_of Tryz.func158 (by kernel_rfl) rfl)
   (SetsGive.inRound _ (sets1_in _ (by omega) m k hk2 hcl (setsL m k) HSJ.out.1 _ _ w5 HK5.out.1 HK5.out.2.1)) (Below.refl _ _) rfl
   (fun j W=>MinI w W w.heap.size (w.heap.size+1) wz.heap.size (.slice a n c) k (minTo xss k i++minRow xss k R j)∧OldM w.heap.size wz.heap.size Wb W) ?ab2 HI5.out ?rounds2 ?done2
  case ab2 =>
   rintro j W' W'' row ⟨hI,hO⟩ hg hr
   have h3:=HS3.out;have h4:=HKB.out.2.2;have h5:=HK5.out.2.2
   refine ⟨hI.grown hg (fun e=>?_) (fun e=>?_) (fun e=>?_) (fun r e=>?_),hO.later hg fun r e=>?_⟩
   ·have:=(hr _ e).1;omega
   ·have:=(hr _ e).1;omega
   ·have:=(hr _ e).1;omega
   ·obtain ⟨h5,o,ho,h6⟩:=hr r e
    refine ⟨by omega,fun C fr hc=>?_⟩
    rw [hc] at ho
    cases ho
    rcases h6 with h6 | ⟨C',fr',h6⟩
    ·simp [Obj.isCells] at h6
    ·simp at h6
   ·have:=(hr _ e).1;omega
  case done2 =>
   rintro W' ⟨hI,hO⟩
   have hb:=HIB.out.box
   have hE:minTo xss k i++minRow xss k R (setsL m k).length=minTo xss k (i+1):=by
    rw [HNM.out.2,minTo_succ (R:=R) (by rw [← HNM.out.1];exact HR.out)]
   rw [hE] at hI
   have HIM:=Lib.hid hI
   clear hI
   gi_wp2_with fail
   exact ⟨hO.keepF hb.2,hO.keepT hb.1,HIM.out⟩
  case rounds2 =>
   rintro j C vc W' hC ⟨hI,hO⟩ hVc ⟨r3,hr3⟩
   have hCk:=HSJ.out.1.len C (List.mem_of_getElem? hC)
   have hCm:=HSJ.out.1.lt C (List.mem_of_getElem? hC)
   obtain ⟨gC,CC,frC,hvs,-,-⟩:=id hVc.at_
   rw [hCk] at hvs
   subst hvs
   have HVC:=Lib.hid hVc;have HIC:=Lib.hid hI;have HOC:=Lib.hid hO;have HC:=Lib.hid hC;have HCK:=Lib.hid hCk;have HCM:=Lib.hid hCm;have HL3:=Lib.hid hr3
   clear hVc hI hO hC hCk hCm hr3
   gi_wp2_with fail
   refine ⟨KeepsFrom.refl _ _,KeepT.refl _ _,?_⟩
   rintro Wc hgc ⟨r4,hr4⟩ ⟨r5,hr5⟩ hkc
   have HIW:Hid (MinI w Wc w.heap.size (w.heap.size+1) wz.heap.size (.slice a n c) k (minTo xss k i++minRow xss k R j)):=by
    have h3:=HS3.out;have h4:=HKB.out.2.2;have h5:=HK5.out.2.2
    refine HIC.out.grown hgc (fun e=>?_) (fun e=>?_) (fun e=>?_) (fun r e=>?_)
    ·have e:=Option.some.inj e;omega
    ·have e:=Option.some.inj e;omega
    ·have e:=Option.some.inj e;omega
    ·cases e
     exact ⟨by omega,fun C fr hc=>by rw [hr4] at hc;simp at hc⟩
   have HOW:Hid (OldM w.heap.size wz.heap.size Wb Wc):=HOC.out.later hgc (fun r e=>by have e:=Option.some.inj e;have:=HK5.out.2.2;omega)
   have HSC:=Lib.hid (HVC.out.keep hkc)
   have HSR:=Lib.hid (HVB.out.keep (HOW.out.keepT HIB.out.box.1))
   have hw3:=HS3.out
   have hw4:=HKB.out.2.2
   have HBR:Hid (Boxed Wc W.heap.size 26 (.slice (some ⟨gR,0,none⟩) k k)):=(HOW.out.block _ HBB.out.lt (.inr ⟨fun e=>by omega,fun C fr e=>by rw [show Wb.heap[W.heap.size]?=_ from HBB.out] at e;simp at e⟩)).trans HBB.out
   have HL5:=Lib.hid hr5
   have g1:=HIW.out.bm.cell
   have g2:=HIW.out.bk.cell
   have g3:=HBR.out.cell
   clear hgc hr4 hr5 hkc HIC HOC HVC HL3 hw3 hw4
   rw [show (Fence.wide.inRound (w4.heap.size+1)).inRound w5.heap.size=Fence.wide.inRound w5.heap.size from rfl]
   gi_wp2_with fail
   have HXC:=Lib.hid HIW.out.old
   gi_loopw [59,10] (fun t u wx=>∃ (p:Nat) (tags:List (Nat×Nat)),p≤k∧t=.int .i64 p∧Hid (Ext Wc wx)∧Hid (RowsO intK 27 wx Wc.heap.size Wc.heap.size u tags (partI xss (R.take p) C))) (fun t _ _=>k-(intOf t).toNat)
   case atStart=>exact ⟨0,[],by omega,rfl,Ext.refl _,RowsO.nil _ _ _ _ _⟩
   case round =>
    obtain ⟨p,tags,hpk,rfl,HEO,HPO⟩:=hrel
    obtain ⟨wo,rfl⟩:∃ wo:World,wo=wr:=⟨_,rfl⟩
    clear g1 g2 g3
    by_cases hlt:p<k
    ·obtain ⟨x,hx⟩:∃ x,R[p]?=some x:=⟨_,List.getElem?_eq_getElem (by rw [HRK.out];exact hlt)⟩
     have hxn:x<n:=HRN.out x (List.mem_of_getElem? hx)
     have d1:=HEO.out.cell (HSR.out.cells hx)
     have HPT:=Lib.hid (partI_take (m:=xss) (C:=C) hx)
     obtain ⟨b,off,rfl,hbw,hcell⟩:=HCELL.out (by intro e;have:=HNM.out.1;rw [e] at this;simp at this;omega)
     obtain ⟨xs,hxs⟩:∃ xs,xss[x]?=some xs:=⟨_,List.getElem?_eq_getElem (by rw [← HNM.out.1];exact hxn)⟩
     obtain ⟨ux,hux,hcx⟩:=hcell x xs hxs
     have hxl:=(HRR.out xs (List.mem_of_getElem? hxs)).1
     obtain ⟨ax,cx,rfl,l1,l2,-,lb,lc⟩:=Ints.open hux
     rw [hxl,← HNM.out.2] at hcx l1
     have HCX:=Lib.hid hcx;have HLC:=Lib.hid lc;have HLB:=Lib.hid lb
     have HXL:=Lib.hid hxl
     have HGD:Hid (xss.getD x []=xs):=by unfold Hid;rw [List.getD_eq_getElem?_getD,hxs];rfl
     unfold maxLen at l2
     clear hx hcell hux hcx lc lb hxs hxl
     gi_wp2_with fail
     clear d1
     gi_loopw [65,13] (fun t u wx=>∃ q:Nat,q≤k∧t=.int .i64 q∧Hid (Ext wo wx)∧Hid (OwnR wo.heap.size wx u (pickC xs C q))) (fun t _ _=>k-(intOf t).toNat)
     case atStart=>exact ⟨0,by omega,rfl,Ext.refl _,World.ownsRow_nil _ _ _ _⟩
     case round =>
      obtain ⟨q,hqk,rfl,HEI,HQ⟩:=hrel
      obtain ⟨wi,rfl⟩:∃ wi:World,wi=wr:=⟨_,rfl⟩
      by_cases hlq:q<k
      ·obtain ⟨y,hy⟩:∃ y,C[q]?=some y:=⟨_,List.getElem?_eq_getElem (by rw [HCK.out];exact hlq)⟩
       have hym:y<m:=HCM.out y (List.mem_of_getElem? hy)
       have hyl:y<xs.length:=by rw [HXL.out,← HNM.out.2];exact hym
       have d1:=(HEO.out.trans HEI.out).cell (HSC.out.cells hy)
       have d2:=(HEO.out.trans HEI.out).cell HIW.out.bm.cell
       have d3:=((HXC.out.trans HEO.out).trans HEI.out).cell HCX.out
       obtain ⟨z,hz⟩:∃ z,xs[y]?=some z:=⟨_,List.getElem?_eq_getElem hyl⟩
       obtain ⟨bx,offx,rfl,hbx,hcellx⟩:=HLC.out (by intro e;rw [e] at hyl;simp at hyl)
       have d4:=((HXC.out.trans HEO.out).trans HEI.out).cell (hcellx y z hz)
       have HSU:Hid ((pickC xs C (q+1))=(pickC xs C q)++[z]):=pickC_succ hy hz
       have p1:(0:Int)≤(x:Int):=by omega
       have p2:(x:Int)<(n:Int):=by omega
       have p3:(0:Int)≤(y:Int):=by omega
       have p4:(y:Int)<(m:Int):=by omega
       have HSZ:Hid (wo.heap.size≤wi.heap.size):=HEI.out.size
       have HLN:Hid ((pickC xs C q).length<1000000):=by unfold Hid;rw [pickC_len (by rw [HCK.out];omega)];omega
       clear hy hz hcellx hyl
       gi_wp2_with (gi_at_builtin;go_must (refine wpListIn_of_wp rfl (by intro c h;cases h) (fun K hK=>?_);refine wp_append_int wi _ _ 27 Tryz.underlying27 rfl wo.heap.size u13 (pickC xs C q) z #[.int .i64 z] 3 rfl HQ.out (by rfl) rfl HLN.out HSZ.out ?_))
       intro v' w2 hQ2 hb2
       rw [← HSU.out] at hQ2
       have HQ3:=Lib.hid hQ2
       have HX2:Hid (Ext wo w2):=Below.trans HEI.out hb2
       clear hQ2 hb2 d1 d2 d3 d4
       refine hK _ _ ?_
       clear hK K
       gi_wp2_with fail
       go_roundw
       case rel=>exact ⟨q+1,by omega,by go_num,HX2.out,HQ3.out⟩
       case measure=>simp [intOf];omega
      ·obtain rfl:q=k:=by omega
       have hQ:=HQ.out
       have hpl:(pickC xs C q).length=q:=pickC_len (by rw [HCK.out];exact Nat.le_refl _)
       obtain ⟨gq,cq,rfl,e1,e2,e3,e4⟩:=owns_shape hQ (by omega)
       rw [hpl] at hQ e3 ⊢
       have hRI:RowI wi gq (pickC xs C q):=RowI.ofOwn (B:=wo.heap.size) (n:=q) (c:=cq) (by have:=HQ.out;unfold OwnR at this;rw [hpl] at this;exact this)
       have HRI:=Lib.hid hRI
       have HPL:=Lib.hid hpl
       have HO2:=Lib.hid (HPO.out.ext HEI.out)
       have HV2:Hid (u10.ownBlock≠some gq):=fun e=>by have:=(HPO.out.own.lt _ e).2;omega
       have HN2:Hid (gq∉tags.map (·.1)):=fun e=>by have:=(HPO.out.fresh e).2;omega
       have HSZ:Hid (Wc.heap.size≤gq∧Wc.heap.size≤wi.heap.size):=by
        have h1:=HEO.out.size;have h2:=HEI.out.size
        exact ⟨by omega,by omega⟩
       have HLN:Hid ((partI xss (R.take p) C).length<1000000):=by unfold Hid;rw [partI_len];simp;omega
       have HCP:Hid ((pickC xs C q).length≤cq∧cq≤9223372036854775807):=⟨by rw [hpl];exact e3,e4⟩
       have HPA:=Lib.hid (pickC_all HCK.out HGD.out)
       clear hQ hpl hRI e1 e2 e3 e4
       gi_wp2_with (gi_at_builtin;go_must (refine wpListIn_of_wp rfl (by intro c h;cases h) (fun K hK=>?_);refine wp_append_rowO (K:=intK) (e:=27) Tryz.underlying23 infoRowT wi _ _ rfl Wc.heap.size Wc.heap.size u10 tags (partI xss (R.take p) C) (gq,cq) (pickC xs C q) #[.slice (some ⟨gq,0,none⟩) q cq] 27 rfl HO2.out (by rfl) (by rw [tagQ,HPL.out]) HCP.out.1 HCP.out.2 HRI.out HSZ.out.1 HV2.out HN2.out HLN.out HSZ.out.2 ?_))
       intro v' w5 hO5 hb5 _
       rw [HPA.out,← HPT.out] at hO5
       have HO5:=Lib.hid hO5
       have HX5':=Lib.hid (Below.trans (Ext.trans HEO.out HEI.out) hb5)
       clear hO5 hb5
       refine hK _ _ ?_
       clear hK K
       gi_wp2_with fail
       go_roundw
       case rel=>exact ⟨p+1,_,by omega,by go_num,HX5'.out,HO5.out⟩
       case measure=>simp [intOf];omega
    ·obtain rfl:p=k:=by omega
     rw [show R.take p=R from by rw [← HRK.out,List.take_length]] at HPO
     gi_wp2_with fail
     have HXD:=Lib.hid (Ext.trans HXC.out HEO.out)
     obtain ⟨d,hd⟩:∃ d,d=(redTo (matQ (partI xss R C)) p).det:=⟨_,rfl⟩
     have HD0:=Lib.hid hd
     have HRI2:Hid (∀ X,Ext wo X→Rows2 X u10 (partI xss R C)):=fun X hX=>(HPO.out.ext hX).rows2 (fun r hr x hx=>by have:=partI_bd (R:=R) (C:=C) (fun r hr=>(HRR.out r hr).2.2) r hr x hx;omega)
     have HROW:Hid (∀ X,Ext wo X→Calls Tryz.prog 110 #[u10,.func (.func 111) #[] #[]] X fun e X'=>∃ u tg,e=.returned u∧RowsO ratK 197 X' X.heap.size X.heap.size u tg (matQ (partI xss R C))∧Ext X X'):=fun X hX=>by
      have:=rows_any (partI xss R C) u10 111 #[] (fun _=>[]) X (HRI2.out X hX) (by rw [partI_len,HRK.out];omega) (fun r hr=>by rw [partI_row r hr,HCK.out];omega) (fun i r hr=>⟨by
       have h1:=partI_row r (List.mem_of_getElem? hr)
       have h2:=(List.getElem?_eq_some_iff.1 hr).1
       rw [partI_len,HRK.out] at h2
       rw [h1,HCK.out];simp;omega,by simp⟩) (enters_of Tryz.func111 (by kernel_rfl) rfl) (nothing_more _ _) (HT.out.ext (HXD.out.trans hX))
      rw [rowsTo_matQ] at this
      exact this
     have HRED:Hid (∀ u tg X Y,RowsO ratK 197 Y X.heap.size X.heap.size u tg (matQ (partI xss R C))→Ext wo X→Ext X Y→Calls Tryz.prog 109 #[u,.int .i64 (p:Int)] Y fun e Y'=>∃ av nv cv,e=.returned (.tuple #[.slice av nv cv,.agg #[.string (intB d.num),.string (numB d.den)]])∧Ext X Y'∧GrownS (fun b=>b∈tg.map (·.1)∨u.ownBlock=some b) Y Y'):=fun u tg X Y hO hX hY=>by
      have hc:=reduceRows_any (matQ (partI xss R C)) p p u tg X Y hO hY (by rw [← HCK.out];exact partI_rect xss R C) (Nat.le_refl _) (by omega) (by rw [matQ_len,partI_len,HRK.out];omega) (HOK.out R (List.mem_of_getElem? (by rw [← HNM.out.1];exact HR.out)) C (List.mem_of_getElem? (by rw [← HNM.out.2];exact HC.out))) (HT.out.ext (HXD.out.trans hX)) (fun e=>by
       have:=matQ_len (partI xss R C)
       rw [e,partI_len,HRK.out] at this
       simpa using this.symm)
      refine hc.mono ?_
      rintro e Y' ⟨v,rfl,hR⟩
      obtain ⟨av,cv,rfl,-,-⟩:=hR.lead.form
      exact ⟨av,_,cv,by rw [hd];rfl,hR.ext,hR.keep⟩
     have HBASE:Hid (∀ u,Ext wo u→u.cell? ⟨w.heap.size+1,0,none⟩=some (.int .i64 (p:Int))):=fun u hu=>(HEO.out.trans hu).cell HIW.out.bk.cell
     clear hd
     refine regionIn_anyE (fun u=>u.cell? ⟨w.heap.size+1,0,none⟩=some (.int .i64 (p:Int))∧Hid (Ext wo u)) 9 (by kernel_rfl) (by kernel_rfl) (by rintro ⟨_,_,h⟩;exact absurd (show Exit.outgrown=Exit.normal from h.1) (by simp)) ⟨((HEO.out.trans (Ext.drew wo)).cell HIW.out.bk.cell),Ext.drew wo⟩ (fun hHeld=>?_)
     obtain ⟨wd,hwd⟩:∃ wd,wd=wo.drew:=⟨_,rfl⟩
     rw [← hwd] at hHeld ⊢
     clear hwd
     refine anyE_takeW (v:=?_) 0 rfl (by kernel_rfl) (by kernel_rfl) (by kernel_rfl) (by decide) (fun _ _ _ h=>h) (Or.inl ⟨by rfl,?_⟩) (by assumption) ?_
     rotate_left
     ·((intro w');(try go_simp);(try with_reducible rfl))
     (try simp only [Act.put,List.setIfInBounds_toArray,List.set_cons_zero,List.set_cons_succ])
     refine anyE_take (v:=?_) 2 rfl (by kernel_rfl) (by kernel_rfl) (by kernel_rfl) (by kernel_rfl) (by kernel_rfl) (fun _ _ _ h=>h) (Or.inl ⟨by rfl,?_⟩) (by assumption) ?_
     rotate_left
     ·((intro w' hSw);(try dsimp only at hSw);(try go_simp);(try with_reducible rfl))
     (try simp only [Act.put,List.setIfInBounds_toArray,List.set_cons_zero,List.set_cons_succ])
     refine anyE_two 1 7 (by kernel_rfl) rfl rfl (fun K hK=>?pB) (fun K hK=>?pA)
     case' pB =>
      go_simp
      (go_at_call 110;refine (HROW.out _ hHeld.2.out).mono ?_)
      rintro e Y ⟨u1,tg1,rfl,hO1,hE1⟩
      have HO1:=Lib.hid hO1
      have HY1:=Lib.hid hE1
      have HXR:=Lib.hid hHeld.2.out
      have hs1:=hE1.size
      clear hE1 hO1
      go_wp2_with fail
      refine hK.out _ _ ⟨HBASE.out _ (Ext.trans HXR.out HY1.out),Ext.trans HXR.out HY1.out⟩ (fun hHeld=>?_)
      clear hK K
      (try simp only [Act.put,List.setIfInBounds_toArray,List.set_cons_zero,List.set_cons_succ])
      refine anyE_two 3 7 (by kernel_rfl) rfl rfl (fun K hK=>?pB1) (fun K hK=>?pB2)
     case' pB1 =>
      go_simp
      (go_at_call 109;refine (HRED.out _ _ wd _ (HO1.out) HXR.out (HY1.out)).mono ?_)
      rintro e Z ⟨av,nv,cv,rfl,hE2,hG2⟩
      have HZ:=Lib.hid hE2
      have HG:=Lib.hid hG2
      have HXZ:=Lib.hid (Ext.trans HXR.out hE2)
      clear hE2 hG2
      go_wp2_with fail
      refine hK.out _ _ ⟨HBASE.out _ HXZ.out,HXZ.out⟩ (fun hHeld=>?_)
      clear hK K
      (try simp only [Act.put,List.setIfInBounds_toArray,List.set_cons_zero,List.set_cons_succ])
      refine anyE_takeW (v:=?_) 4 rfl (by kernel_rfl) (by kernel_rfl) (by kernel_rfl) (by decide) (fun _ _ _ h=>h) (Or.inl ⟨by rfl,?_⟩) (by assumption) ?_
      rotate_left
      ·((intro w');(try go_simp);(try with_reducible rfl))
      (try simp only [Act.put,List.setIfInBounds_toArray,List.set_cons_zero,List.set_cons_succ])
      refine anyE_takeW (v:=?_) 5 rfl (by kernel_rfl) (by kernel_rfl) (by kernel_rfl) (by decide) (fun _ _ _ h=>h) (Or.inl ⟨by rfl,?_⟩) (by assumption) ?_
      rotate_left
      ·((intro w');(try go_simp);(try with_reducible rfl))
      (try simp only [Act.put,List.setIfInBounds_toArray,List.set_cons_zero,List.set_cons_succ])
      refine anyE_takeW (v:=?_) 6 rfl (by kernel_rfl) (by kernel_rfl) (by kernel_rfl) (by decide) (fun _ _ _ h=>h) (Or.inl ⟨by rfl,?_⟩) (by assumption) ?_
      rotate_left
      ·((intro w');(try go_simp);(try with_reducible rfl))
      (try simp only [Act.put,List.setIfInBounds_toArray,List.set_cons_zero,List.set_cons_succ])
      refine anyE_step 7 (by kernel_rfl) rfl (fun K hK=>?_)
      go_simp
      obtain ⟨B,hB⟩:∃ B,B=Z.heap.size:=⟨_,rfl⟩
      obtain ⟨X1,hX1,hE3,hs3,hb3⟩:=box2 Z (.string ⟨#[]⟩) (.string ⟨#[]⟩) 152
      rw [hX1]
      rw [← hB] at hb3
      rw [show (Z).heap.size=B from hB.symm]
      have HBX:Hid (BlkR B X1):=⟨_,_,hb3⟩
      have HBL:Hid (wo.heap.size≤B):=by unfold Hid;rw [hB];exact hHeld.2.out.size
      have HBE:Hid (B=Z.heap.size):=hB
      have HY3:=Lib.hid hE3
      have HX3:=Lib.hid (Ext.trans hHeld.2.out hE3)
      clear hX1 hE3 hs3 hb3 hB
      refine hK.out _ _ ⟨HBASE.out _ HX3.out,HX3.out⟩ (fun hHeld=>?_)
      clear hK K
      (try simp only [Act.put,List.setIfInBounds_toArray,List.set_cons_zero,List.set_cons_succ])
      refine anyE_takeW (v:=?_) 8 rfl (by kernel_rfl) (by kernel_rfl) (by kernel_rfl) (by decide) (fun _ _ _ h=>h) (Or.inl ⟨by rfl,?_⟩) (by assumption) ?_
      rotate_left
      ·((intro w');(try go_simp);(try with_reducible rfl))
      (try simp only [Act.put,List.setIfInBounds_toArray,List.set_cons_zero,List.set_cons_succ])
      have HBQ:Hid (BlkR B X1):=HBX.out
      obtain ⟨x0,x1,s0,s1,f0,f1⟩:=HBQ.out.open
      have HXF:=Lib.hid hHeld.2.out
      refine anyE_last 9 (by kernel_rfl) (by kernel_rfl) (by kernel_rfl) rfl (fun K hK=>?_)
      go_simp
      refine hK.out _ _ ?_
      clear hK K s0 s1 f0 f1
      (try simp only [Act.put,List.setIfInBounds_toArray,List.set_cons_zero,List.set_cons_succ])
      obtain ⟨F,hF⟩:∃ F,F=(X1.setCell ⟨B,0,none⟩ (.string (intB d.num))).setCell ⟨B,1,none⟩ (.string (numB d.den)):=⟨_,rfl⟩
      have HFB:Hid (BoxQ F B d):=by rw [hF];exact HBQ.out.res
      have HFX:Hid (Ext wo F):=by rw [hF];exact ext_set2 HXF.out HBL.out
      rw [← hF]
      clear hF hHeld HXF HBQ
     case' pB2 =>
      go_simp
      obtain ⟨B,hB⟩:∃ B,B=Y.heap.size:=⟨_,rfl⟩
      obtain ⟨X1,hX1,hE3,hs3,hb3⟩:=box2 Y (.string ⟨#[]⟩) (.string ⟨#[]⟩) 152
      rw [hX1]
      rw [← hB] at hb3
      rw [show (Y).heap.size=B from hB.symm]
      have HBX:Hid (BlkR B X1):=⟨_,_,hb3⟩
      have HBL:Hid (wo.heap.size≤B):=by unfold Hid;rw [hB];exact hHeld.2.out.size
      have HBE:Hid (B=Y.heap.size):=hB
      have HY3:=Lib.hid hE3
      have HX3:=Lib.hid (Ext.trans hHeld.2.out hE3)
      clear hX1 hE3 hs3 hb3 hB
      refine hK.out _ _ ⟨HBASE.out _ HX3.out,HX3.out⟩ (fun hHeld=>?_)
      clear hK K
      (try simp only [Act.put,List.setIfInBounds_toArray,List.set_cons_zero,List.set_cons_succ])
      refine anyE_step 3 (by kernel_rfl) rfl (fun K hK=>?_)
      go_simp
      (go_at_call 109;refine (HRED.out _ _ wd _ (HO1.out.ext HY3.out) HXR.out (HY1.out.trans HY3.out)).mono ?_)
      rintro e Z ⟨av,nv,cv,rfl,hE2,hG2⟩
      have HZ:=Lib.hid hE2
      have HG:=Lib.hid hG2
      have HXZ:=Lib.hid (Ext.trans HXR.out hE2)
      clear hE2 hG2
      go_wp2_with fail
      refine hK.out _ _ ⟨HBASE.out _ HXZ.out,HXZ.out⟩ (fun hHeld=>?_)
      clear hK K
      (try simp only [Act.put,List.setIfInBounds_toArray,List.set_cons_zero,List.set_cons_succ])
      refine anyE_takeW (v:=?_) 4 rfl (by kernel_rfl) (by kernel_rfl) (by kernel_rfl) (by decide) (fun _ _ _ h=>h) (Or.inl ⟨by rfl,?_⟩) (by assumption) ?_
      rotate_left
      ·((intro w');(try go_simp);(try with_reducible rfl))
      (try simp only [Act.put,List.setIfInBounds_toArray,List.set_cons_zero,List.set_cons_succ])
      refine anyE_takeW (v:=?_) 5 rfl (by kernel_rfl) (by kernel_rfl) (by kernel_rfl) (by decide) (fun _ _ _ h=>h) (Or.inl ⟨by rfl,?_⟩) (by assumption) ?_
      rotate_left
      ·((intro w');(try go_simp);(try with_reducible rfl))
      (try simp only [Act.put,List.setIfInBounds_toArray,List.set_cons_zero,List.set_cons_succ])
      refine anyE_takeW (v:=?_) 6 rfl (by kernel_rfl) (by kernel_rfl) (by kernel_rfl) (by decide) (fun _ _ _ h=>h) (Or.inl ⟨by rfl,?_⟩) (by assumption) ?_
      rotate_left
      ·((intro w');(try go_simp);(try with_reducible rfl))
      (try simp only [Act.put,List.setIfInBounds_toArray,List.set_cons_zero,List.set_cons_succ])
      refine anyE_takeW (v:=?_) 8 rfl (by kernel_rfl) (by kernel_rfl) (by kernel_rfl) (by decide) (fun _ _ _ h=>h) (Or.inl ⟨by rfl,?_⟩) (by assumption) ?_
      rotate_left
      ·((intro w');(try go_simp);(try with_reducible rfl))
      (try simp only [Act.put,List.setIfInBounds_toArray,List.set_cons_zero,List.set_cons_succ])
      have HBQ:Hid (BlkR B Z):=by
       obtain ⟨x,y,hxy⟩:=HBX.out
       refine ⟨x,y,(HG.out.block B (block_lt hxy) ?_).trans hxy⟩
       have hbe:=HBE.out
       rintro (hb | hb)
       ·have:=(HO1.out.fresh hb).2;omega
       ·have:=(HO1.out.own.lt _ hb).2;omega
      obtain ⟨x0,x1,s0,s1,f0,f1⟩:=HBQ.out.open
      have HXF:=Lib.hid hHeld.2.out
      refine anyE_last 9 (by kernel_rfl) (by kernel_rfl) (by kernel_rfl) rfl (fun K hK=>?_)
      go_simp
      refine hK.out _ _ ?_
      clear hK K s0 s1 f0 f1
      (try simp only [Act.put,List.setIfInBounds_toArray,List.set_cons_zero,List.set_cons_succ])
      obtain ⟨F,hF⟩:∃ F,F=(Z.setCell ⟨B,0,none⟩ (.string (intB d.num))).setCell ⟨B,1,none⟩ (.string (numB d.den)):=⟨_,rfl⟩
      have HFB:Hid (BoxQ F B d):=by rw [hF];exact HBQ.out.res
      have HFX:Hid (Ext wo F):=by rw [hF];exact ext_set2 HXF.out HBL.out
      rw [← hF]
      clear hF hHeld HXF HBQ
     case' pA =>
      go_simp
      obtain ⟨B,hB⟩:∃ B,B=wd.heap.size:=⟨_,rfl⟩
      obtain ⟨X1,hX1,hE3,hs3,hb3⟩:=box2 wd (.string ⟨#[]⟩) (.string ⟨#[]⟩) 152
      rw [hX1]
      rw [← hB] at hb3
      rw [show (wd).heap.size=B from hB.symm]
      have HBX:Hid (BlkR B X1):=⟨_,_,hb3⟩
      have HBL:Hid (wo.heap.size≤B):=by unfold Hid;rw [hB];exact hHeld.2.out.size
      have HBE:Hid (B=wd.heap.size):=hB
      have HY3:=Lib.hid hE3
      have HX3:=Lib.hid (Ext.trans hHeld.2.out hE3)
      clear hX1 hE3 hs3 hb3 hB
      refine hK.out _ _ ⟨HBASE.out _ HX3.out,HX3.out⟩ (fun hHeld=>?_)
      clear hK K
      (try simp only [Act.put,List.setIfInBounds_toArray,List.set_cons_zero,List.set_cons_succ])
      refine anyE_step 1 (by kernel_rfl) rfl (fun K hK=>?_)
      go_simp
      (go_at_call 110;refine (HROW.out _ hHeld.2.out).mono ?_)
      rintro e Y ⟨u1,tg1,rfl,hO1,hE1⟩
      have HO1:=Lib.hid hO1
      have HY1:=Lib.hid hE1
      have HXR:=Lib.hid hHeld.2.out
      have hs1:=hE1.size
      clear hE1 hO1
      go_wp2_with fail
      refine hK.out _ _ ⟨HBASE.out _ (Ext.trans HXR.out HY1.out),Ext.trans HXR.out HY1.out⟩ (fun hHeld=>?_)
      clear hK K
      (try simp only [Act.put,List.setIfInBounds_toArray,List.set_cons_zero,List.set_cons_succ])
      refine anyE_step 3 (by kernel_rfl) rfl (fun K hK=>?_)
      go_simp
      (go_at_call 109;refine (HRED.out _ _ X1 _ (HO1.out) HXR.out (HY1.out)).mono ?_)
      rintro e Z ⟨av,nv,cv,rfl,hE2,hG2⟩
      have HZ:=Lib.hid hE2
      have HG:=Lib.hid hG2
      have HXZ:=Lib.hid (Ext.trans HXR.out hE2)
      clear hE2 hG2
      go_wp2_with fail
      refine hK.out _ _ ⟨HBASE.out _ HXZ.out,HXZ.out⟩ (fun hHeld=>?_)
      clear hK K
      (try simp only [Act.put,List.setIfInBounds_toArray,List.set_cons_zero,List.set_cons_succ])
      refine anyE_takeW (v:=?_) 4 rfl (by kernel_rfl) (by kernel_rfl) (by kernel_rfl) (by decide) (fun _ _ _ h=>h) (Or.inl ⟨by rfl,?_⟩) (by assumption) ?_
      rotate_left
      ·((intro w');(try go_simp);(try with_reducible rfl))
      (try simp only [Act.put,List.setIfInBounds_toArray,List.set_cons_zero,List.set_cons_succ])
      refine anyE_takeW (v:=?_) 5 rfl (by kernel_rfl) (by kernel_rfl) (by kernel_rfl) (by decide) (fun _ _ _ h=>h) (Or.inl ⟨by rfl,?_⟩) (by assumption) ?_
      rotate_left
      ·((intro w');(try go_simp);(try with_reducible rfl))
      (try simp only [Act.put,List.setIfInBounds_toArray,List.set_cons_zero,List.set_cons_succ])
      refine anyE_takeW (v:=?_) 6 rfl (by kernel_rfl) (by kernel_rfl) (by kernel_rfl) (by decide) (fun _ _ _ h=>h) (Or.inl ⟨by rfl,?_⟩) (by assumption) ?_
      rotate_left
      ·((intro w');(try go_simp);(try with_reducible rfl))
      (try simp only [Act.put,List.setIfInBounds_toArray,List.set_cons_zero,List.set_cons_succ])
      refine anyE_takeW (v:=?_) 8 rfl (by kernel_rfl) (by kernel_rfl) (by kernel_rfl) (by decide) (fun _ _ _ h=>h) (Or.inl ⟨by rfl,?_⟩) (by assumption) ?_
      rotate_left
      ·((intro w');(try go_simp);(try with_reducible rfl))
      (try simp only [Act.put,List.setIfInBounds_toArray,List.set_cons_zero,List.set_cons_succ])
      have HBQ:Hid (BlkR B Z):=BlkR.ext HBX.out HZ.out
      obtain ⟨x0,x1,s0,s1,f0,f1⟩:=HBQ.out.open
      have HXF:=Lib.hid hHeld.2.out
      refine anyE_last 9 (by kernel_rfl) (by kernel_rfl) (by kernel_rfl) rfl (fun K hK=>?_)
      go_simp
      refine hK.out _ _ ?_
      clear hK K s0 s1 f0 f1
      (try simp only [Act.put,List.setIfInBounds_toArray,List.set_cons_zero,List.set_cons_succ])
      obtain ⟨F,hF⟩:∃ F,F=(Z.setCell ⟨B,0,none⟩ (.string (intB d.num))).setCell ⟨B,1,none⟩ (.string (numB d.den)):=⟨_,rfl⟩
      have HFB:Hid (BoxQ F B d):=by rw [hF];exact HBQ.out.res
      have HFX:Hid (Ext wo F):=by rw [hF];exact ext_set2 HXF.out HBL.out
      rw [← hF]
      clear hF hHeld HXF HBQ
     all_goals
      have HMF:=Lib.hid (HIW.out.ext (HEO.out.trans HFX.out))
      obtain ⟨vo,hbo,hown⟩:=HMF.out.out
      have t0:=hbo.cell
      have t1:=HFB.out.cells.1
      have HBO:=Lib.hid hbo;have HOWN:=Lib.hid hown
      have HNE:Hid (w.heap.size≠wz.heap.size∧w.heap.size+1≠wz.heap.size):=by have:=HS3.out.2;exact ⟨by omega,by omega⟩
      have HLL:Hid ((minTo xss p i++minRow xss p R j).length<8000000):=minTo_len xss p i j R (by rw [← HNM.out.1];exact HSI.out.2.2) (by rw [← HNM.out.2];exact HSJ.out.2.2)
      have HNX:Hid (minTo xss p i++minRow xss p R (j+1)=(minTo xss p i++minRow xss p R j)++[d.num]):=by
       unfold Hid
       rw [minRow_succ (C:=C) (by rw [← HNM.out.2];exact HC.out),List.append_assoc]
       unfold minorOf
       rw [← HD0.out]
      obtain ⟨L,hL⟩:∃ L,L=minTo xss p i++minRow xss p R j:=⟨_,rfl⟩
      rw [← hL] at HMF HOWN HLL HNX
      have HFS:Hid (w.heap.size≤F.heap.size):=HMF.out.old.size
      clear hbo hown hL
      gi_wp2_with (gi_at_builtin;go_must (refine wpListIn_of_wp rfl (by intro c h;cases h) (fun K hK=>?_);refine wp_append_str F _ _ rfl w.heap.size vo L d.num #[.string (intB d.num)] 53 rfl HOWN.out (by rfl) rfl HLL.out HFS.out ?_))
      intro v' w9 hown' hgrow
      obtain ⟨hpush,hold,s0,s1⟩:=HMF.out.push HBO.out HOWN.out d.num hown' hgrow HNE.out.1 HNE.out.2
      obtain ⟨gv,cv',hv'⟩:=ownsRow_succ hown'
      subst hv'
      rw [← HNX.out] at hpush
      have HPU:=Lib.hid hpush;have HOL:=Lib.hid (((OldM.ext (n0:=w.heap.size) (Bo:=wz.heap.size) (HEO.out.trans HFX.out))).trans hold)
      have HBW:=Lib.hid HIW.out.box
      clear hpush hold hown' hgrow t0 t1
      refine hK _ _ ?_
      clear hK K
      gi_wp2_with fail
      exact ⟨HOL.out.keepF HBW.out.2,HOL.out.keepT HBW.out.1,HPU.out,HOW.out.trans HOL.out⟩
end Go.Proofs.YtjlkkofmojgipaaGreatDoor
