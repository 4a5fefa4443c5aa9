import Derived.Test.YtjlkkofmojgipaaGreatDoorPAF
import Derived.Test.YtjlkkofmojgipaaGreatDoorPAI
import Derived.Test.YtjlkkofmojgipaaGreatDoorPAR
import Derived.Test.YtjlkkofmojgipaaGreatDoorPAC
import Derived.BigQuiet
import Derived.Test.YtjlkkofmojgipaaGreatDoorPAE
import Derived.Test.YtjlkkofmojgipaaGreatDoorPAD
namespace Go.Proofs.YtjlkkofmojgipaaGreatDoor
set_option linter.unusedVariables false
set_option linter.unusedSimpArgs false
open Go.RowKit
def MultiV (w:World) (v:Value) (n k:Nat) (X:List Int):Prop:=∃ r,v=.agg #[.int .i64 n,.int .i64 k,r]∧ListAt 1 numC w r X
theorem numC.mono':Mono numC:=fun _ _ _ _ _ h=>h
theorem MultiV.ext {w w':World} {v:Value} {n k:Nat} {X:List Int} (h:MultiV w v n k X) (he:Ext w w'):MultiV w' v n k X:=by
 obtain ⟨r,hv,h1⟩:=h
 exact ⟨r,hv,ListAt.ext numC.mono' h1 he⟩
theorem nums_set {w w':World} {v:Value} {X:List Int} {B:Nat} {C:Array Value} {T:TypeId} (h:ListAt 1 numC w v X) (hB:w.heap[B]?=some (.cells C T (0,0))) (hno:∀ (i:Nat) s,C[i]?≠some (.string s)) (hg:w.grownBy w' (some B)):ListAt 1 numC w' v X:=by
 obtain ⟨us,h1,h2,⟨a,cap,rfl,q1,q2,q3,q4⟩,h4⟩:=h
 refine ⟨us,h1,h2,⟨a,cap,rfl,q1,q2,q3,fun hne=>?_⟩,fun j u x hu hx=>h4 j u x hu hx⟩
 obtain ⟨b,off,ha,hb,hc⟩:=q4 hne
 refine ⟨b,off,ha,Nat.lt_of_lt_of_le hb hg.size,fun j u hu=>?_⟩
 have hcell:=hc j u hu
 have hs:∃ s,u=.string s:=by
  obtain ⟨l,hl,hul⟩:=List.mem_flatten.1 (List.mem_of_getElem? hu)
  obtain ⟨i,hi⟩:=List.getElem?_of_mem hl
  obtain ⟨x,hx⟩:∃ x,X[i]?=some x:=⟨_,List.getElem?_eq_getElem (by rw [← h1];exact (List.getElem?_eq_some_iff.1 hi).1)⟩
  have h5:l=[.string (intB x)]:=h4 i l x hi hx
  rw [h5,List.mem_singleton] at hul
  exact ⟨_,hul⟩
 obtain ⟨s,rfl⟩:=hs
 have hbB:b≠B:=by
  rintro rfl
  rw [block_cell hB] at hcell
  exact hno _ _ hcell
 rw [← hcell]
 unfold World.cell?
 rw [hg.block b hb (fun e=>by cases e;exact hbB rfl)]
theorem multi_store {w:World} {B:Nat} {x y z:Value} (h:w.heap[B]?=some (.cells #[x,y,z] 31 (0,0))) (a b c:Value):(((w.setCell ⟨B,0,none⟩ a).setCell ⟨B,1,none⟩ b).setCell ⟨B,2,none⟩ c).heap[B]?=some (.cells #[a,b,c] 31 (0,0)):=by
 have:=block_set (block_set (block_set h 0 a) 1 b) 2 c
 simpa using this
theorem multi_grown (w:World) (B:Nat) (a b c:Value):w.grownBy (((w.setCell ⟨B,0,none⟩ a).setCell ⟨B,1,none⟩ b).setCell ⟨B,2,none⟩ c) (some B) :=
 grown_trans (grown_trans (grown_setCell w B 0 a) (grown_setCell _ B 1 b)) (grown_setCell _ B 2 c)
theorem multi_ext {w W:World} {B:Nat} (hE:Ext w W) (hB:w.heap.size≤B) (a b c:Value):Ext w (((W.setCell ⟨B,0,none⟩ a).setCell ⟨B,1,none⟩ b).setCell ⟨B,2,none⟩ c) :=
 ((hE.setCell (p:=⟨B,0,none⟩) hB a).setCell (p:=⟨B,1,none⟩) hB b).setCell (p:=⟨B,2,none⟩) hB c
theorem multi_nostr (n k:Int) (i:Nat) (s:ByteArray):(#[Value.int .i64 n,Value.int .i64 k,Value.slice none 0 0]:Array Value)[i]?≠some (.string s):=by
 match i with
 | 0=>simp
 | 1=>simp
 | 2=>simp
 | i+3=>simp
def MinOk (v:Value) (k:Nat) (X:List Int) (W:World):Prop:=Calls Tryz.prog 54 #[v,.int .i64 (k:Int)] W fun e w'=>∃ r,e=.returned (.tuple #[r,.int .i64 0])∧ListAt 1 numC w' r X∧Ext W w'
set_option maxRecDepth 100000 in
set_option maxHeartbeats 2000000 in
theorem wOf_any (xss:List (List Int)) (n:Nat) (X:List Int) (v:Value) (w:World) (h:Rows2 w v xss) (hE:tabE xss=0) (hn:n≤12) (hk:xss.length≤n) (hc:∀ r∈xss,r.length=n) (hM:∀ W,Ext w W→MinOk v xss.length X W) :
  Calls Tryz.prog 15 #[v,.int .i64 n] w fun e w'=>∃ u,e=.returned (.tuple #[u,.int .i64 0])∧Ext w w'∧MultiV w' u n xss.length X:=by
 obtain ⟨w1,hw1⟩:∃ w1,w1=w.alloc (.cells #[.int .i64 0,.int .i64 0,.slice none 0 0] 31):=⟨_,rfl⟩
 have hb:w1.heap[w.heap.size]?=some (.cells #[.int .i64 0,.int .i64 0,.slice none 0 0] 31 (0,0)):=by rw [hw1];exact block_new w _ _
 have hE1:Ext w w1:=by rw [hw1];exact Ext.alloc _ _
 have HE1:=Lib.hid hE1;have HB:=Lib.hid hb
 have HCH:Hid (∀ W,Ext w W→Calls Tryz.prog 53 #[v] W fun e w'=>e=.returned (.int .i64 0)∧Ext W w'):=fun W hW=>by
  have:=tabCheck_any xss v W (h.ext hW);rw [hE] at this;exact this
 have HM:=Lib.hid hM
 have HR:=Lib.hid h
 obtain ⟨a,cap,rfl,h1,h2,-,hcc⟩:=inCell.open h
 have HCC:=Lib.hid hcc
 have HCN:=Lib.hid hc
 obtain ⟨k,hk2⟩:∃ k,xss.length=k:=⟨_,rfl⟩
 have HKL:=Lib.hid hk2
 rw [hk2] at HM HCH h1 hk ⊢
 unfold maxLen at h2
 clear hb hE1 h hE hM hcc hc hk2
 have c1:¬ ((n:Int)<0):=by omega
 have c2:¬ (12<(n:Int)):=by omega
 have c3:¬ ((n:Int)<(k:Int)):=by omega
 by_cases hz:k=0
 ·subst hz
  go_enter Tryz.func15,Tryz.ntmps15
  go_wp2_with fail
  generalize hw9:w.alloc _=w9
  obtain rfl:w9=w1:=by rw [← hw9,hw1]
  clear hw1 hw9
  refine (HCH.out w9 HE1.out).mono ?_
  rintro e w2 ⟨rfl,h2⟩
  have HE2:Hid (Ext w w2):=HE1.out.trans h2
  have HB2:=Lib.hid (block_ext HB.out h2)
  clear h2 HCH HB
  go_wp2_with fail
  refine (HM.out w2 HE2.out).mono ?_
  rintro e w3 ⟨r,rfl,hr,h3⟩
  have HE3:Hid (Ext w w3):=HE2.out.trans h3
  have HB3:=Lib.hid (block_ext HB2.out h3)
  obtain ⟨ra,rc,rfl,-⟩:=ListAt.open hr
  have HX:=Lib.hid hr
  clear h3 hr HB2 HM
  obtain ⟨m,hm⟩:∃ m,X.length=m:=⟨_,rfl⟩
  rw [hm] at HX
  have f0:=block_free HB3.out
  have k0:=block_cell HB3.out
  go_wp2_with fail
  have hb7:=multi_store HB3.out (.int .i64 (n:Int)) (.int .i64 0) (.slice ra m rc)
  refine bodyPost_ret (results_cell_tmp (by rfl) _ _ w.heap.size 31 #[.int .i64 n,.int .i64 0,.slice ra m rc] (0,0) _ (.int .i64 0) (by rfl) (by rfl) hb7 Tryz.underlying31 (by rfl) (by kernel_rfl)) (by rfl) ⟨_,rfl,multi_ext HE3.out (Nat.le_refl _) _ _ _,_,rfl,?_⟩
  exact nums_set HX.out HB3.out (multi_nostr 0 0) (multi_grown _ _ _ _ _)
 ·have hx:xss≠[]:=by intro e;rw [e] at HKL;exact hz HKL.out.symm
  obtain ⟨b,off,rfl,hb,hcell⟩:=HCC.out hx
  obtain ⟨y,hy⟩:∃ y,xss[0]?=some y:=⟨_,List.getElem?_eq_getElem (by have:=HKL.out;omega)⟩
  obtain ⟨u,hu,hcu⟩:=hcell 0 y hy
  have hyl:=HCN.out y (List.mem_of_getElem? hy)
  obtain ⟨ua,uc,rfl,-⟩:=ListAt.open hu
  rw [hyl,Nat.add_zero] at hcu
  have HCU:=Lib.hid hcu
  have c4:0<(k:Int):=by omega
  clear hcell hu hcu hb hyl hy hx
  go_enter Tryz.func15,Tryz.ntmps15
  go_wp2_with fail
  generalize hw9:w.alloc _=w9
  obtain rfl:w9=w1:=by rw [← hw9,hw1]
  clear hw1 hw9
  refine (HCH.out w9 HE1.out).mono ?_
  rintro e w2 ⟨rfl,h2⟩
  have HE2:Hid (Ext w w2):=HE1.out.trans h2
  have HB2:=Lib.hid (block_ext HB.out h2)
  have hcu2:=HE2.out.cell HCU.out
  clear h2 HCH HB
  go_wp2_with fail
  refine (HM.out w2 HE2.out).mono ?_
  rintro e w3 ⟨r,rfl,hr,h3⟩
  have HE3:Hid (Ext w w3):=HE2.out.trans h3
  have HB3:=Lib.hid (block_ext HB2.out h3)
  obtain ⟨ra,rc,rfl,-⟩:=ListAt.open hr
  have HX:=Lib.hid hr
  clear h3 hr HB2 HM hcu2
  obtain ⟨m,hm⟩:∃ m,X.length=m:=⟨_,rfl⟩
  rw [hm] at HX
  have f0:=block_free HB3.out
  have k0:=block_cell HB3.out
  go_wp2_with fail
  have hb7:=multi_store HB3.out (.int .i64 (n:Int)) (.int .i64 (k:Int)) (.slice ra m rc)
  refine bodyPost_ret (results_cell_tmp (by rfl) _ _ w.heap.size 31 #[.int .i64 n,.int .i64 k,.slice ra m rc] (0,0) _ (.int .i64 0) (by rfl) (by rfl) hb7 Tryz.underlying31 (by rfl) (by kernel_rfl)) (by rfl) ⟨_,rfl,multi_ext HE3.out (Nat.le_refl _) _ _ _,_,rfl,?_⟩
  exact nums_set HX.out HB3.out (multi_nostr 0 0) (multi_grown _ _ _ _ _)
def noMulti:Value:=.agg #[.int .i64 0,.int .i64 0,.slice none 0 0]
def strI (_:World) (v:Value) (x:Int):Prop:=v=.string (intB x)
theorem int_same (a b:Int):((intB a).toList == (intB b).toList)=decide (a=b):=by rw [intB_list,intB_list,itoa_eq]
abbrev BigL (w:World) (v:Value) (xs:List Int):Prop:=ListAt 1 (inCell strI) w v xs
theorem BigL.ext {w w':World} {v:Value} {xs:List Int} (h:BigL w v xs) (he:Ext w w'):BigL w' v xs:=ListAt.ext (fun _ _ _ _ _ h=>h) h he
theorem BigL.of_nums {w:World} {v:Value} {X:List Int} (h:ListAt 1 numC w v X):BigL w v X:=by
 obtain ⟨us,h1,h2,h3,h4⟩:=h
 exact ⟨us,h1,h2,h3,fun j u x hu hx=>⟨_,h4 j u x hu hx,rfl⟩⟩
def equalM (n k:Nat) (X:List Int) (n' k':Nat) (Y:List Int):Bool:=decide (n=n') && decide (k=k') && (X == Y)
theorem noMulti_v (w:World):MultiV w noMulti 0 0 []:=⟨_,rfl,⟨[],rfl,by simp,⟨none,0,rfl,Nat.le_refl _,Nat.zero_le _,fun _=>rfl,fun h=>absurd rfl h⟩,by simp⟩⟩
theorem equalM_no {n k:Nat} {X:List Int} {n' k':Nat} {Y:List Int} (h:n≠n'∨k≠k'∨X≠Y):equalM n k X n' k' Y=false:=by
 unfold equalM
 rcases h with h | h | h
 ·rw [decide_eq_false h];simp
 ·rw [decide_eq_false h];simp
 ·rw [beq_eq_false_iff_ne.2 h];simp
set_option maxRecDepth 100000 in
set_option maxHeartbeats 4000000 in
theorem sameM_any (n k:Nat) (X:List Int) (n' k':Nat) (Y:List Int) (u v:Value) (w:World) (h:MultiV w u n k X) (h':MultiV w v n' k' Y) :
  Calls Tryz.prog 17 #[u,v] w fun e w'=>e=.returned (.bool (equalM n k X n' k' Y))∧Ext w w':=by
 obtain ⟨r,rfl,hr⟩:=h
 obtain ⟨r',rfl,hr'⟩:=h'
 obtain ⟨a,c,rfl,h1,h2,-,hc⟩:=inCell.open (BigL.of_nums hr)
 obtain ⟨a',c',rfl,h1',h2',-,hc'⟩:=inCell.open (BigL.of_nums hr')
 unfold maxLen at h2 h2'
 obtain ⟨w1,hw1⟩:∃ w1,w.alloc (.cells #[.int .i64 n,.int .i64 k,.slice a X.length c] 31)=w1:=⟨_,rfl⟩
 obtain ⟨w2,hw2⟩:∃ w2,w1.alloc (.cells #[.int .i64 n',.int .i64 k',.slice a' Y.length c'] 31)=w2:=⟨_,rfl⟩
 have hb1:w1.heap[w.heap.size]?=some (.cells #[.int .i64 n,.int .i64 k,.slice a X.length c] 31 (0,0)):=by rw [← hw1];exact block_new w _ _
 have hb2:w2.heap[w1.heap.size]?=some (.cells #[.int .i64 n',.int .i64 k',.slice a' Y.length c'] 31 (0,0)):=by rw [← hw2];exact block_new w1 _ _
 have hE1:Ext w w1:=by rw [← hw1];exact Ext.alloc _ _
 have hE2:Ext w1 w2:=by rw [← hw2];exact Ext.alloc _ _
 have HX:Hid (Ext w w2):=hE1.trans hE2
 have k1:=block_cell (block_ext hb1 hE2)
 have k2:=block_cell hb2
 have HC:=Lib.hid hc;have HC':=Lib.hid hc'
 clear hr hr' hb1 hb2 hE1 hE2 hc hc'
 by_cases c1:n=n'
 ·subst c1
  by_cases c2:k=k'
  ·subst c2
   by_cases c3:X.length=Y.length
   ·have q3:((X.length:Int) != (Y.length:Int))=false:=by simp [c3]
    obtain ⟨m,hm⟩:∃ m,Y.length=m:=⟨_,rfl⟩
    have hm1:X.length=m:=by omega
    have HM:=Lib.hid hm;have HM1:=Lib.hid hm1
    rw [hm1,hm] at q3
    rw [hm1] at k1 h1 hw1
    rw [hm] at k2 h1' hw2
    rw [hm1,hm]
    have d0:=k1 2;have d1:=k2 2
    simp only [List.getElem?_toArray,List.getElem?_cons_succ,List.getElem?_cons_zero] at d0 d1
    have D:=Lib.hid (And.intro d0 d1)
    clear c3 hm hm1 d0 d1
    go_enter Tryz.func17,Tryz.ntmps17
    go_wp2_with fail
    go_loopw [5] (fun t wr=>∃ j:Nat,j≤m∧t=.int .i64 j∧Ext w2 wr∧Hid (X.take j=Y.take j)) (fun t _=>m+1-(intOf t).toNat)
    case atStart=>exact ⟨0,by omega,rfl,Ext.refl _,rfl⟩
    case round =>
     obtain ⟨j,hj,rfl,hE,HT⟩:=hrel
     clear k1 k2 hw1 hw2
     have d0:=hE.cell D.out.1
     have d1:=hE.cell D.out.2
     by_cases hlt:j<m
     ·obtain ⟨x,hx⟩:∃ x,X[j]?=some x:=⟨_,List.getElem?_eq_getElem (by have:=HM1.out;omega)⟩
      obtain ⟨y,hy⟩:∃ y,Y[j]?=some y:=⟨_,List.getElem?_eq_getElem (by have:=HM.out;omega)⟩
      obtain ⟨b,off,rfl,hb,hcell⟩:=HC.out (by intro e;rw [e] at hx;simp at hx)
      obtain ⟨b',off',rfl,hb',hcell'⟩:=HC'.out (by intro e;rw [e] at hy;simp at hy)
      obtain ⟨z1,e1,g1⟩:=hcell j x hx
      obtain ⟨z2,e2,g2⟩:=hcell' j y hy
      obtain rfl:z1=.string (intB x):=e1
      obtain rfl:z2=.string (intB y):=e2
      have g1:=(HX.out.trans hE).cell g1
      have g2:=(HX.out.trans hE).cell g2
      have q1:(j:Int)<(m:Int):=by omega
      have HXX:=Lib.hid hx;have HYY:=Lib.hid hy
      have hs:=int_same x y
      clear hcell hcell' hx hy
      by_cases hxy:x=y
      ·rw [decide_eq_true hxy] at hs
       have hs':((intB x).toList != (intB y).toList)=false:=by unfold bne;rw [hs];rfl
       have HT':Hid (X.take (j+1)=Y.take (j+1)):=by
        unfold Hid;rw [List.take_add_one,List.take_add_one,HXX.out,HYY.out,HT.out,hxy]
       clear hxy
       go_wp2_with fail
       go_quiet (fail)
       go_wp2_with fail
       go_roundw
       case rel=>exact ⟨j+1,by omega,by go_num,Ext.draws hE _,HT'⟩
       case measure=>simp [intOf];omega
      ·rw [decide_eq_false hxy] at hs
       have hs':((intB x).toList != (intB y).toList)=true:=by unfold bne;rw [hs];rfl
       have HF:Hid (equalM n k X n k Y=false):=equalM_no (.inr (.inr (by
        intro e
        have e1:=HXX.out;have e2:=HYY.out
        rw [e,e2] at e1
        exact hxy (by simpa using e1.symm))))
       clear hxy
       go_wp2_with fail
       go_quiet (fail)
       go_wp2_with fail
       go_ret
       exact ⟨by rw [HF.out];rfl,Ext.draws (HX.out.trans hE) _⟩
     ·obtain rfl:j=m:=by omega
      have HF:Hid (equalM n k X n k Y=true):=by
       have h9:=HT.out
       rw [List.take_of_length_le (by have:=HM1.out;omega),List.take_of_length_le (by have:=HM.out;omega)] at h9
       unfold Hid equalM;rw [h9];simp
      go_wp2_with fail
      go_ret
      exact ⟨by rw [HF.out];rfl,HX.out.trans hE⟩
   ·have q3:((X.length:Int) != (Y.length:Int))=true:=by simp;omega
    have HD:Hid (equalM n k X n k Y=false):=equalM_no (.inr (.inr fun e=>c3 (by rw [e])))
    go_enter Tryz.func17,Tryz.ntmps17
    go_wp2_with fail
    go_ret
    exact ⟨by rw [HD.out];rfl,HX.out⟩
  ·have HD:Hid (equalM n k X n k' Y=false):=equalM_no (.inr (.inl c2))
   have q2:((k:Int) != (k':Int))=true:=by simp;omega
   go_enter Tryz.func17,Tryz.ntmps17
   go_wp2_with fail
   go_ret
   exact ⟨by rw [HD.out];rfl,HX.out⟩
 ·have HD:Hid (equalM n k X n' k' Y=false):=equalM_no (.inl c1)
  have q1:((n:Int) != (n':Int))=true:=by simp;omega
  go_enter Tryz.func17,Tryz.ntmps17
  go_wp2_with fail
  go_ret
  exact ⟨by rw [HD.out];rfl,HX.out⟩
set_option maxRecDepth 100000 in
set_option maxHeartbeats 1000000 in
theorem noneM_any (n k:Nat) (X:List Int) (u:Value) (w:World) (h:MultiV w u n k X) :
  Calls Tryz.prog 16 #[u] w fun e w'=>e=.returned (.bool (equalM n k X 0 0 []))∧Ext w w':=by
 have HS:Hid (∀ W,Ext w W→Calls Tryz.prog 17 #[u,noMulti] W fun e w'=>e=.returned (.bool (equalM n k X 0 0 []))∧Ext W w'):=fun W hW=>sameM_any n k X 0 0 [] u noMulti W (h.ext hW) (noMulti_v W)
 unfold noMulti at HS
 obtain ⟨r,rfl,hr⟩:=h
 obtain ⟨a,c,rfl,-⟩:=ListAt.open hr
 obtain ⟨w1,hw1⟩:∃ w1,w.alloc (.cells #[.int .i64 n,.int .i64 k,.slice a X.length c] 31)=w1:=⟨_,rfl⟩
 have hb1:w1.heap[w.heap.size]?=some (.cells #[.int .i64 n,.int .i64 k,.slice a X.length c] 31 (0,0)):=by rw [← hw1];exact block_new w _ _
 have hE1:Hid (Ext w w1):=by rw [← hw1];exact Ext.alloc _ _
 have k1:=block_cell hb1
 clear hr hb1
 go_enter Tryz.func16,Tryz.ntmps16
 go_wp2_with fail
 refine (HS.out w1 hE1.out).mono ?_
 rintro e w3 ⟨rfl,h3⟩
 have HE3:Hid (Ext w w3):=hE1.out.trans h3
 clear h3 HS
 go_wp2_with fail
 go_ret
 exact ⟨rfl,HE3.out⟩
set_option maxRecDepth 100000 in
set_option maxHeartbeats 1000000 in
theorem signed_any (x:Int) (o:Bool) (w:World) (hx:(intB x).size≤10000000000) :
  Calls Tryz.prog 62 #[.string (intB x),.bool o] w fun e w'=>e=.returned (.string (intB (sgnI x o)))∧Ext w w':=by
 have HN:=Lib.hid (neg_any x w hx)
 cases o
 ·have HD:Hid (sgnI x false=x):=rfl
  go_enter Tryz.func62,Tryz.ntmps62
  go_wp2_with fail
  go_ret
  exact ⟨by rw [HD.out];rfl,Ext.refl _⟩
 ·have HD:Hid (sgnI x true=-x):=rfl
  go_enter Tryz.func62,Tryz.ntmps62
  go_wp2_with fail
  refine HN.out.mono ?_
  rintro e w3 ⟨rfl,h3⟩
  have HE3:=Lib.hid h3
  clear h3 HN
  go_wp2_with fail
  go_ret
  exact ⟨by rw [HD.out];rfl,HE3.out⟩
def canonD (l:List UInt8):Bool:=l.all isDig && (decide (l.length=1) || (decide (1<l.length) && decide (l.head?≠some 48)))
theorem isDig_iffW (c:UInt8):isDig c=true↔48≤(c.toNat:Int)∧(c.toNat:Int)≤57:=by
 unfold isDig;rw [decide_eq_true_eq];omega
set_option maxRecDepth 100000 in
set_option maxHeartbeats 2000000 in
theorem canonical_any (m:ByteArray) (w:World) (hm:m.size≤100000) :
  Calls Tryz.prog 195 #[.string m] w fun e w'=>e=.returned (.bool (canonD m.data.toList))∧Ext w w':=by
 obtain ⟨cap,W1,hcv,hE1,hcell⟩:=bytesOfI m w
 have HE1:=Lib.hid hE1
 have HC:=Lib.hid hcell
 clear hE1 hcell
 go_enter Tryz.func195,Tryz.ntmps195
 go_wp2_with fail
 clear hcv
 go_loopw [8] (fun t wr=>∃ j:Nat,j≤m.size∧t=.int .i64 j∧Ext w wr∧Ext W1 wr∧Hid ((m.data.toList.take j).all isDig=true)) (fun t _=>m.size+1-(intOf t).toNat)
 case atStart=>exact ⟨0,by omega,rfl,HE1.out,Ext.refl _,rfl⟩
 case round =>
  obtain ⟨j,hj,rfl,hE,hE',HA⟩:=hrel
  have HE:=Lib.hid hE
  have HE':=Lib.hid hE'
  by_cases hlt:j<m.size
  ·obtain ⟨c,hc⟩:∃ c,m.data.toList[j]?=some c:=⟨_,bytes_get m j hlt⟩
   have g1:=hE'.cell (HC.out j c hc)
   have hc8:(c.toNat:Int)≤255:=by have:=c.toNat_lt;omega
   have HT1:Hid ((m.data.toList.take (j+1)).all isDig=(isDig c)):=by
    unfold Hid;rw [List.take_add_one,hc,List.all_append,HA.out];simp
   have HAll:Hid (isDig c=false→canonD m.data.toList=false):=by
    intro h
    have:m.data.toList.all isDig=false:=by
     rw [List.all_eq_false]
     exact ⟨c,List.mem_of_getElem? hc,by simp [h]⟩
    unfold canonD;rw [this];rfl
   clear hc hE hE'
   by_cases h1:(c.toNat:Int)<48
   ·have HF:Hid (canonD m.data.toList=false):=HAll.out (by rw [← Bool.not_eq_true,isDig_iffW];omega)
    go_wp2_with fail
    go_ret
    exact ⟨by rw [HF.out];rfl,HE.out⟩
   ·by_cases h2:57<(c.toNat:Int)
    ·have HF:Hid (canonD m.data.toList=false):=HAll.out (by rw [← Bool.not_eq_true,isDig_iffW];omega)
     go_wp2_with fail
     go_ret
     exact ⟨by rw [HF.out];rfl,HE.out⟩
    ·have HD:Hid ((m.data.toList.take (j+1)).all isDig=true):=by
      unfold Hid;rw [HT1.out,isDig_iffW];omega
     go_wp2_with fail
     go_roundw
     case rel=>exact ⟨j+1,by omega,by go_num,HE.out,HE'.out,HD⟩
     case measure=>simp [intOf];omega
  ·obtain rfl:j=m.size:=by omega
   have HL:Hid (m.data.toList.length=m.size):=(Lib.size_eq m).symm
   have HAll:Hid (m.data.toList.all isDig=true):=by
    unfold Hid
    have:=HA.out
    rwa [List.take_of_length_le (by rw [← Lib.size_eq];omega)] at this
   by_cases h0:m.size=1
   ·have HV:Hid (canonD m.data.toList=true):=by unfold Hid canonD;rw [HAll.out,HL.out,decide_eq_true h0];rfl
    have q0:((m.size:Int) == 1)=true:=beq_iff_eq.2 (by omega)
    go_wp2_with fail
    go_ret
    exact ⟨by rw [HV.out];rfl,HE.out⟩
   ·have q0:((m.size:Int) == 1)=false:=beq_eq_false_iff_ne.2 (by omega)
    by_cases h1:1<m.size
    ·have q1:1<(m.size:Int):=by omega
     have hb:=bytes_get m 0 (by omega)
     have HV:Hid (canonD m.data.toList=((m[0].toNat:Int) != 48)):=by
      unfold Hid canonD
      have e1:m.data.toList.head?=some m[0]:=by rw [List.head?_eq_getElem?];exact hb
      rw [HAll.out,HL.out,decide_eq_false h0,decide_eq_true h1,e1,Bool.true_and,Bool.true_and,Bool.false_or,Bool.eq_iff_iff]
      simp only [bne_iff_ne,ne_eq,Option.some.injEq,decide_eq_true_eq]
      rw [← UInt8.toNat_inj]
      show ¬ (m[0].toNat=48)↔_
      omega
     clear hb
     go_wp2_with fail
     go_ret
     exact ⟨by rw [HV.out];rfl,HE.out⟩
    ·have q1:¬ 1<(m.size:Int):=by omega
     have HV:Hid (canonD m.data.toList=false):=by unfold Hid canonD;rw [HL.out,decide_eq_false h0,decide_eq_false h1];simp
     go_wp2_with fail
     go_ret
     exact ⟨by rw [HV.out];rfl,HE.out⟩
def decE (l:List UInt8):Int:=if canonD l=true∧l.length≤400 then 0 else 2
set_option maxRecDepth 100000 in
set_option maxHeartbeats 1000000 in
theorem decCheck_any (m:ByteArray) (w:World) (hm:m.size≤100000) :
  Calls Tryz.prog 148 #[.string m] w fun e w'=>e=.returned (.int .i64 (decE m.data.toList))∧Ext w w':=by
 have HC:=Lib.hid (canonical_any m w hm)
 have HL:Hid (m.data.toList.length=m.size):=(Lib.size_eq m).symm
 by_cases h:canonD m.data.toList=true
 ·rw [h] at HC
  by_cases h4:400<m.size
  ·have HV:Hid (decE m.data.toList=2):=if_neg (by rw [HL.out];omega)
   have q1:400<(m.size:Int):=by omega
   go_enter Tryz.func148,Tryz.ntmps148
   go_wp2_with fail
   refine HC.out.mono ?_
   rintro e w2 ⟨rfl,hE2⟩
   have HE2:=Lib.hid hE2
   clear hE2 HC
   go_wp2_with fail
   go_ret
   exact ⟨by rw [HV.out];rfl,HE2.out⟩
  ·have HV:Hid (decE m.data.toList=0):=if_pos ⟨h,by rw [HL.out];omega⟩
   have q1:¬ 400<(m.size:Int):=by omega
   go_enter Tryz.func148,Tryz.ntmps148
   go_wp2_with fail
   refine HC.out.mono ?_
   rintro e w2 ⟨rfl,hE2⟩
   have HE2:=Lib.hid hE2
   clear hE2 HC
   go_wp2_with fail
   go_ret
   exact ⟨by rw [HV.out];rfl,HE2.out⟩
 ·have hf:canonD m.data.toList=false:=by simpa using h
  rw [hf] at HC
  have HV:Hid (decE m.data.toList=2):=if_neg (fun e=>h e.1)
  go_enter Tryz.func148,Tryz.ntmps148
  go_wp2_with fail
  refine HC.out.mono ?_
  rintro e w2 ⟨rfl,hE2⟩
  have HE2:=Lib.hid hE2
  clear hE2 HC
  go_wp2_with fail
  go_ret
  exact ⟨by rw [HV.out];rfl,HE2.out⟩
theorem canonD_num (n:Nat):canonD (numB n).data.toList=true:=by
 obtain ⟨h1,-,h3,h4⟩:=decDigits_dig (n+1) n (by omega)
 have e:(numB n).data.toList=Lib.decDigits n:=by rw [← Lib.toList_data,numB_list]
 unfold canonD
 rw [e,h1,Bool.true_and]
 by_cases h0:n=0
 ·subst h0
  have:Lib.decDigits 0=[48]:=by rw [Lib.decDigits_one (by omega)];rfl
  rw [this];rfl
 ·have h5:(Lib.decDigits n).head?≠some 48:=fun h=>h0 (h4 h)
  have h6:=List.length_pos_iff.2 h3
  rw [decide_eq_true h5,Bool.and_true]
  by_cases h7:(Lib.decDigits n).length=1
  ·rw [decide_eq_true h7];rfl
  ·rw [decide_eq_true (show 1<(Lib.decDigits n).length by omega),Bool.or_true]
set_option maxRecDepth 100000 in
set_option maxHeartbeats 1000000 in
theorem wholeCheck_any (x:Int) (w:World) (hx:(numB x.natAbs).size≤400) :
  Calls Tryz.prog 96 #[.string (intB x)] w fun e w'=>e=.returned (.int .i64 0)∧Ext w w':=by
 have HS:=Lib.hid (split_any x w)
 have HC:Hid (∀ W,Calls Tryz.prog 148 #[.string (numB x.natAbs)] W fun e w'=>e=.returned (.int .i64 0)∧Ext W w'):=fun W=>by
  have h:=decCheck_any (numB x.natAbs) W (by omega)
  have hv:decE (numB x.natAbs).data.toList=0:=if_pos ⟨canonD_num _,by rw [← Lib.size_eq];exact hx⟩
  rw [hv] at h;exact h
 by_cases hn:x<0
 ·have hz:((numB x.natAbs).toList == [48])=false:=by
   rw [numB_list,show ([48]:List UInt8)=Lib.decDigits 0 by rw [Lib.decDigits_one (by omega)];rfl,digits_eq]
   exact decide_eq_false (by omega)
  rw [decide_eq_true hn] at HS
  obtain ⟨d,hd⟩:∃ d,numB x.natAbs=d:=⟨_,rfl⟩
  rw [hd] at HS HC hz
  go_enter Tryz.func96,Tryz.ntmps96
  go_wp2_with fail
  refine HS.out.mono ?_
  rintro e w2 ⟨rfl,hE2⟩
  have HE2:=Lib.hid hE2
  clear hE2 HS
  go_wp2_with fail
  refine (HC.out w2).mono ?_
  rintro e w3 ⟨rfl,hE3⟩
  have HE3:Hid (Ext w w3):=HE2.out.trans hE3
  clear hE3 HC
  go_wp2_with fail
  go_ret
  exact ⟨rfl,HE3.out⟩
 ·rw [decide_eq_false hn] at HS
  obtain ⟨d,hd⟩:∃ d,numB x.natAbs=d:=⟨_,rfl⟩
  rw [hd] at HS HC
  go_enter Tryz.func96,Tryz.ntmps96
  go_wp2_with fail
  refine HS.out.mono ?_
  rintro e w2 ⟨rfl,hE2⟩
  have HE2:=Lib.hid hE2
  clear hE2 HS
  go_wp2_with fail
  refine (HC.out w2).mono ?_
  rintro e w3 ⟨rfl,hE3⟩
  have HE3:Hid (Ext w w3):=HE2.out.trans hE3
  clear hE3 HC
  go_wp2_with fail
  go_ret
  exact ⟨rfl,HE3.out⟩
end Go.Proofs.YtjlkkofmojgipaaGreatDoor
