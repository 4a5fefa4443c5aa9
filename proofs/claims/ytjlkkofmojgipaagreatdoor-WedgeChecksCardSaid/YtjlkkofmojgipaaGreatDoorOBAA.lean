import Derived.Test.YtjlkkofmojgipaaGreatDoorPAY
import Derived.Test.YtjlkkofmojgipaaGreatDoorPAZ
import Derived.Test.YtjlkkofmojgipaaGreatDoorPAU
import Derived.Test.YtjlkkofmojgipaaGreatDoorPAS
import Derived.Test.YtjlkkofmojgipaaGreatDoorPAD
namespace Go.Proofs.YtjlkkofmojgipaaGreatDoor
set_option linter.unusedVariables false
set_option linter.unusedSimpArgs false
open Go.RowKit Go.Maps
set_option maxRecDepth 100000 in
set_option maxHeartbeats 1000000 in
theorem contX_any (n k:Int) (L:List ByteArray) (u:Value) (w:World) (h:TxtV w u n k L) (hs:∀ a∈L,a.size≤100000) (h0:chkX n k L≠0) :
  Calls Tryz.prog 30 #[u] w fun e w'=>e=.returned (.tuple #[.string ⟨#[]⟩,.int .i64 (chkX n k L)])∧Ext w w':=by
 have HCA:Hid (∀ W,Ext w W→Calls Tryz.prog 47 #[u] W fun e w'=>e=.returned (.int .i64 (chkX n k L))∧Ext W w'):=fun W hW=>checkT_any n k L u W (h.ext hW) hs
 obtain ⟨ua,rfl,hua⟩:=h
 obtain ⟨a,ca,rfl,a1,a2,-,-⟩:=inCell.open hua
 unfold maxLen at a2
 obtain ⟨ma,hma⟩:∃ m,L.length=m:=⟨_,rfl⟩
 rw [hma] at a1 HCA ⊢
 obtain ⟨E,hE⟩:∃ E,chkX n k L=E:=⟨_,rfl⟩
 rw [hE] at HCA h0 ⊢
 have q1:(E != 0)=true:=bne_iff_ne.2 h0
 obtain ⟨w1,hw1,hE1,hs1,hb1⟩:=boxM w (.int .i64 n) (.int .i64 k) (.slice a ma ca)
 have HE1:=Lib.hid hE1
 have k1:=block_cell hb1
 clear hb1 hE1 hua hs1 hs hma hE h0
 go_enter Tryz.func30,Tryz.ntmps30
 go_wp2_with fail
 refine (HCA.out w1 HE1.out).mono ?_
 rintro e w3 ⟨rfl,h3⟩
 have HE3:Hid (Ext w w3):=HE1.out.trans h3
 clear h3 k1 hw1
 go_wp2_with fail
 go_ret2
 exact ⟨rfl,HE3.out⟩
set_option maxRecDepth 100000 in
set_option maxHeartbeats 1000000 in
theorem canonX_any (n k:Int) (L:List ByteArray) (u:Value) (w:World) (h:TxtV w u n k L) (hs:∀ a∈L,a.size≤100000) (h0:chkX n k L≠0) :
  Calls Tryz.prog 44 #[u] w fun e w'=>e=.returned (.tuple #[noMulti,.int .i64 (chkX n k L)])∧Ext w w':=by
 have HCA:Hid (∀ W,Ext w W→Calls Tryz.prog 47 #[u] W fun e w'=>e=.returned (.int .i64 (chkX n k L))∧Ext W w'):=fun W hW=>checkT_any n k L u W (h.ext hW) hs
 obtain ⟨ua,rfl,hua⟩:=h
 obtain ⟨a,ca,rfl,a1,a2,-,-⟩:=inCell.open hua
 unfold maxLen at a2
 obtain ⟨ma,hma⟩:∃ m,L.length=m:=⟨_,rfl⟩
 rw [hma] at a1 HCA ⊢
 obtain ⟨E,hE⟩:∃ E,chkX n k L=E:=⟨_,rfl⟩
 rw [hE] at HCA h0 ⊢
 have q1:(E != 0)=true:=bne_iff_ne.2 h0
 obtain ⟨w1,hw1,hE1,hs1,hb1⟩:=boxM w (.int .i64 n) (.int .i64 k) (.slice a ma ca)
 obtain ⟨w2,hw2,hE2,hs2,hb2⟩:=boxM w1 (.int .i64 0) (.int .i64 0) (.slice none 0 0)
 have HE2:=Lib.hid (hE1.trans hE2)
 have HB1:=Lib.hid (block_ext hb1 hE2);have HB2:=Lib.hid hb2
 have k1:=block_cell HB1.out
 obtain ⟨x1,hx1⟩:∃ x,w1.heap.size=x:=⟨_,rfl⟩
 have HW1:Hid (w.heap.size≤x1):=by unfold Hid;omega
 rw [hx1] at HB2
 clear hb1 hb2 hE1 hE2 hua hs1 hs2 hs hma hE h0
 go_enter Tryz.func44,Tryz.ntmps44
 go_wp2_with fail
 refine (HCA.out w2 HE2.out).mono ?_
 rintro e w3 ⟨rfl,h3⟩
 have HE3:Hid (Ext w w3):=HE2.out.trans h3
 have HB23:=Lib.hid (block_ext HB2.out h3)
 have f9:=block_free HB23.out
 have r9:=block_cell HB23.out
 clear h3 k1 hw1 hw2
 (try rw [hx1])
 clear hx1
 go_wp2_with fail
 have hb7:=multi_store HB23.out (.int .i64 0) (.int .i64 0) (.slice none 0 0)
 refine bodyPost_ret (results_cell_tmp (by rfl) _ _ x1 31 #[.int .i64 0,.int .i64 0,.slice none 0 0] (0,0) _ (.int .i64 E) (by rfl) (by rfl) hb7 Tryz.underlying31 (by rfl) (by kernel_rfl)) (by rfl) ⟨?_,multi_ext HE3.out HW1.out _ _ _⟩
 rfl
set_option maxRecDepth 100000 in
set_option maxHeartbeats 1000000 in
theorem dualX_any (n k:Int) (L:List ByteArray) (u:Value) (w:World) (h:TxtV w u n k L) (hs:∀ a∈L,a.size≤100000) (h0:chkX n k L≠0) :
  Calls Tryz.prog 28 #[u] w fun e w'=>e=.returned (.tuple #[noMulti,.int .i64 (chkX n k L)])∧Ext w w':=by
 have HCA:Hid (∀ W,Ext w W→Calls Tryz.prog 47 #[u] W fun e w'=>e=.returned (.int .i64 (chkX n k L))∧Ext W w'):=fun W hW=>checkT_any n k L u W (h.ext hW) hs
 obtain ⟨ua,rfl,hua⟩:=h
 obtain ⟨a,ca,rfl,a1,a2,-,-⟩:=inCell.open hua
 unfold maxLen at a2
 obtain ⟨ma,hma⟩:∃ m,L.length=m:=⟨_,rfl⟩
 rw [hma] at a1 HCA ⊢
 obtain ⟨E,hE⟩:∃ E,chkX n k L=E:=⟨_,rfl⟩
 rw [hE] at HCA h0 ⊢
 have q1:(E != 0)=true:=bne_iff_ne.2 h0
 obtain ⟨w1,hw1,hE1,hs1,hb1⟩:=boxM w (.int .i64 n) (.int .i64 k) (.slice a ma ca)
 obtain ⟨w2,hw2,hE2,hs2,hb2⟩:=boxM w1 (.int .i64 0) (.int .i64 0) (.slice none 0 0)
 have HE2:=Lib.hid (hE1.trans hE2)
 have HB1:=Lib.hid (block_ext hb1 hE2);have HB2:=Lib.hid hb2
 have k1:=block_cell HB1.out
 obtain ⟨x1,hx1⟩:∃ x,w1.heap.size=x:=⟨_,rfl⟩
 have HW1:Hid (w.heap.size≤x1):=by unfold Hid;omega
 rw [hx1] at HB2
 clear hb1 hb2 hE1 hE2 hua hs1 hs2 hs hma hE h0
 go_enter Tryz.func28,Tryz.ntmps28
 go_wp2_with fail
 refine (HCA.out w2 HE2.out).mono ?_
 rintro e w3 ⟨rfl,h3⟩
 have HE3:Hid (Ext w w3):=HE2.out.trans h3
 have HB23:=Lib.hid (block_ext HB2.out h3)
 have f9:=block_free HB23.out
 have r9:=block_cell HB23.out
 clear h3 k1 hw1 hw2
 (try rw [hx1])
 clear hx1
 go_wp2_with fail
 have hb7:=multi_store HB23.out (.int .i64 0) (.int .i64 0) (.slice none 0 0)
 refine bodyPost_ret (results_cell_tmp (by rfl) _ _ x1 31 #[.int .i64 0,.int .i64 0,.slice none 0 0] (0,0) _ (.int .i64 E) (by rfl) (by rfl) hb7 Tryz.underlying31 (by rfl) (by kernel_rfl)) (by rfl) ⟨?_,multi_ext HE3.out HW1.out _ _ _⟩
 rfl
set_option maxRecDepth 100000 in
set_option maxHeartbeats 1000000 in
theorem decX_any (n k:Int) (L:List ByteArray) (u:Value) (w:World) (h:TxtV w u n k L) (hs:∀ a∈L,a.size≤100000) (h0:chkX n k L≠0) :
  Calls Tryz.prog 35 #[u] w fun e w'=>e=.returned (.tuple #[.bool false,.int .i64 (chkX n k L)])∧Ext w w':=by
 have HCA:Hid (∀ W,Ext w W→Calls Tryz.prog 47 #[u] W fun e w'=>e=.returned (.int .i64 (chkX n k L))∧Ext W w'):=fun W hW=>checkT_any n k L u W (h.ext hW) hs
 obtain ⟨ua,rfl,hua⟩:=h
 obtain ⟨a,ca,rfl,a1,a2,-,-⟩:=inCell.open hua
 unfold maxLen at a2
 obtain ⟨ma,hma⟩:∃ m,L.length=m:=⟨_,rfl⟩
 rw [hma] at a1 HCA ⊢
 obtain ⟨E,hE⟩:∃ E,chkX n k L=E:=⟨_,rfl⟩
 rw [hE] at HCA h0 ⊢
 have q1:(E != 0)=true:=bne_iff_ne.2 h0
 obtain ⟨w1,hw1,hE1,hs1,hb1⟩:=boxM w (.int .i64 n) (.int .i64 k) (.slice a ma ca)
 have HE1:=Lib.hid hE1
 have k1:=block_cell hb1
 clear hb1 hE1 hua hs1 hs hma hE h0
 go_enter Tryz.func35,Tryz.ntmps35
 go_wp2_with fail
 refine (HCA.out w1 HE1.out).mono ?_
 rintro e w3 ⟨rfl,h3⟩
 have HE3:Hid (Ext w w3):=HE1.out.trans h3
 clear h3 k1 hw1
 go_wp2_with fail
 go_ret2
 exact ⟨rfl,HE3.out⟩
set_option maxRecDepth 100000 in
set_option maxHeartbeats 1000000 in
theorem latX_any (n k:Int) (L:List ByteArray) (u:Value) (w:World) (h:TxtV w u n k L) (hs:∀ a∈L,a.size≤100000) (h0:chkX n k L≠0) :
  Calls Tryz.prog 36 #[u] w fun e w'=>e=.returned (.tuple #[.slice none 0 0,.int .i64 (chkX n k L)])∧Ext w w':=by
 have HCA:Hid (∀ W,Ext w W→Calls Tryz.prog 47 #[u] W fun e w'=>e=.returned (.int .i64 (chkX n k L))∧Ext W w'):=fun W hW=>checkT_any n k L u W (h.ext hW) hs
 obtain ⟨ua,rfl,hua⟩:=h
 obtain ⟨a,ca,rfl,a1,a2,-,-⟩:=inCell.open hua
 unfold maxLen at a2
 obtain ⟨ma,hma⟩:∃ m,L.length=m:=⟨_,rfl⟩
 rw [hma] at a1 HCA ⊢
 obtain ⟨E,hE⟩:∃ E,chkX n k L=E:=⟨_,rfl⟩
 rw [hE] at HCA h0 ⊢
 have q1:(E != 0)=true:=bne_iff_ne.2 h0
 obtain ⟨w1,hw1,hE1,hs1,hb1⟩:=boxM w (.int .i64 n) (.int .i64 k) (.slice a ma ca)
 have HE1:=Lib.hid hE1
 have k1:=block_cell hb1
 clear hb1 hE1 hua hs1 hs hma hE h0
 go_enter Tryz.func36,Tryz.ntmps36
 go_wp2_with fail
 refine (HCA.out w1 HE1.out).mono ?_
 rintro e w3 ⟨rfl,h3⟩
 have HE3:Hid (Ext w w3):=HE1.out.trans h3
 clear h3 k1 hw1
 go_wp2_with fail
 go_ret2
 exact ⟨rfl,HE3.out⟩
end Go.Proofs.YtjlkkofmojgipaaGreatDoor
namespace Go.Proofs.YtjlkkofmojgipaaGreatDoor
set_option linter.unusedVariables false
set_option linter.unusedSimpArgs false
open Go.RowKit
theorem text_same (a b:ByteArray):(a.toList == b.toList)=decide (a=b):=by
 have hl:∀ c:ByteArray,c.toList=c.data.toList:=fun c=>Lib.toList_data c
 rw [Bool.eq_iff_iff,beq_iff_eq,decide_eq_true_iff,hl,hl]
 exact ⟨fun h=>bytes_ext h,fun h=>by rw [h]⟩
def equalT (n k:Int) (X:List ByteArray) (n' k':Int) (Y:List ByteArray):Bool:=decide (n=n') && decide (k=k') && decide (X=Y)
theorem equalT_no {n k:Int} {X:List ByteArray} {n' k':Int} {Y:List ByteArray} (h:n≠n'∨k≠k'∨X≠Y):equalT n k X n' k' Y=false:=by
 unfold equalT
 rcases h with h | h | h
 ·rw [decide_eq_false h];simp
 ·rw [decide_eq_false h];simp
 ·rw [decide_eq_false h];simp
theorem equalT_self (n k:Int) (X:List ByteArray):equalT n k X n k X=true:=by unfold equalT;simp
set_option maxRecDepth 100000 in
set_option maxHeartbeats 800000 in
theorem equalBigT_any (xs ys:List ByteArray) (u v:Value) (w:World) (h:Txts w u xs) (k:Txts w v ys) :
  Calls Tryz.prog 95 #[u,v] w fun e w'=>e=.returned (.bool (decide (xs=ys)))∧Ext w w':=by
 obtain ⟨a,c,rfl,h1,h2,-,hc⟩:=inCell.open h
 obtain ⟨a',c',rfl,k1,k2,-,kc⟩:=inCell.open k
 have HC:=Lib.hid hc;have KC:=Lib.hid kc
 clear hc kc h k
 unfold maxLen at h2 k2
 by_cases hl:xs.length=ys.length
 ·have hn:((xs.length:Int) != (ys.length:Int))=false:=by simp [hl]
  have hle1:xs.length≤ys.length:=by omega
  have hle2:ys.length≤xs.length:=by omega
  have HL:=Lib.hid hl
  clear hl
  go_enter Tryz.func95,Tryz.ntmps95
  go_wp2
  go_loopw [13] (fun t wr=>∃ j:Nat,j≤xs.length∧t=.int .i64 j∧Ext w wr∧Hid (xs.take j=ys.take j)) (fun t _=>xs.length-(intOf t).toNat)
  case atStart=>exact ⟨0,by omega,rfl,Ext.refl _,rfl⟩
  case round =>
   obtain ⟨j,hj,rfl,hE,HT⟩:=hrel
   by_cases hlt:j<xs.length
   ·obtain ⟨b,off,rfl,hb,hcell⟩:=HC.out (by intro e;simp [e] at hlt)
    obtain ⟨b',off',rfl,hb',hcell'⟩:=KC.out (by intro e;simp [e] at hle1;simp [hle1] at hlt)
    obtain ⟨x,hx⟩:∃ x,xs[j]?=some x:=⟨xs[j],List.getElem?_eq_getElem hlt⟩
    obtain ⟨y,hy⟩:∃ y,ys[j]?=some y:=⟨ys[j]'(by omega),List.getElem?_eq_getElem _⟩
    obtain ⟨z1,e1,g1⟩:=hcell j x hx
    obtain ⟨z2,e2,g2⟩:=hcell' j y hy
    obtain rfl:z1=.string x:=e1
    obtain rfl:z2=.string y:=e2
    have g1:=hE.cell g1
    have g2:=hE.cell g2
    have q1:(j:Int)<(xs.length:Int):=by omega
    have q2:(j:Int)<(ys.length:Int):=by omega
    have HX:=Lib.hid hx;have HY:=Lib.hid hy
    have hs:=text_same x y
    clear hcell hcell' hx hy
    by_cases hxy:x=y
    ·rw [decide_eq_true hxy] at hs
     have hs':(x.toList != y.toList)=false:=by unfold bne;rw [hs];rfl
     have HT':Hid (xs.take (j+1)=ys.take (j+1)):=by
      unfold Hid;rw [List.take_add_one,List.take_add_one,HX.out,HY.out,HT.out,hxy]
     clear hxy
     go_wp2
     go_quiet (fail)
     go_wp2
     go_roundw
     case rel=>exact ⟨j+1,by omega,by go_num,Ext.draws hE _,HT'⟩
     case measure=>simp [intOf];omega
    ·rw [decide_eq_false hxy] at hs
     have hs':(x.toList != y.toList)=true:=by unfold bne;rw [hs];rfl
     have HF:Hid (decide (xs=ys)=false):=by
      unfold Hid
      rw [decide_eq_false_iff_not]
      intro e
      have e1:=HX.out;have e2:=HY.out
      rw [e,e2] at e1
      exact hxy (by simpa using e1.symm)
     clear hxy
     go_wp2
     go_quiet (fail)
     go_wp2
     go_ret
     rw [HF.out]
     exact ⟨rfl,Ext.draws hE _⟩
   ·have hge:xs.length≤j:=by omega
    have HTr:Hid (decide (xs=ys)=true):=by
     unfold Hid
     have e:=HT.out
     rw [List.take_of_length_le (by omega),List.take_of_length_le (by omega)] at e
     simp [e]
    go_wp2
    go_ret
    rw [HTr.out]
    exact ⟨rfl,hE⟩
 ·have hn:((xs.length:Int) != (ys.length:Int))=true:=by simp;omega
  have HF:Hid (decide (xs=ys)=false):=by unfold Hid;rw [decide_eq_false_iff_not];intro e;exact hl (by rw [e])
  clear hl
  go_enter Tryz.func95,Tryz.ntmps95
  go_wp2
  go_ret
  rw [HF.out]
  exact ⟨rfl,Ext.refl _⟩
set_option maxRecDepth 100000 in
set_option maxHeartbeats 2000000 in
theorem equalMT_any (n k:Int) (X:List ByteArray) (n' k':Int) (Y:List ByteArray) (u v:Value) (w:World) (h:TxtV w u n k X) (h':TxtV w v n' k' Y) :
  Calls Tryz.prog 46 #[u,v] w fun e w'=>e=.returned (.bool (equalT n k X n' k' Y))∧Ext w w':=by
 obtain ⟨r,rfl,hr⟩:=h
 obtain ⟨r',rfl,hr'⟩:=h'
 have HE:Hid (∀ W,Ext w W→Calls Tryz.prog 95 #[r,r'] W fun e w'=>e=.returned (.bool (decide (X=Y)))∧Ext W w'):=fun W hW=>equalBigT_any X Y r r' W (hr.ext hW) (hr'.ext hW)
 obtain ⟨a,c,rfl,-⟩:=ListAt.open hr
 obtain ⟨a',c',rfl,-⟩:=ListAt.open hr'
 obtain ⟨w1,hw1⟩:∃ w1,w.alloc (.cells #[.int .i64 n,.int .i64 k,.slice a X.length c] 31)=w1:=⟨_,rfl⟩
 obtain ⟨w2,hw2⟩:∃ w2,w1.alloc (.cells #[.int .i64 n',.int .i64 k',.slice a' Y.length c'] 31)=w2:=⟨_,rfl⟩
 have hb1:w1.heap[w.heap.size]?=some (.cells #[.int .i64 n,.int .i64 k,.slice a X.length c] 31 (0,0)):=by rw [← hw1];exact block_new w _ _
 have hb2:w2.heap[w1.heap.size]?=some (.cells #[.int .i64 n',.int .i64 k',.slice a' Y.length c'] 31 (0,0)):=by rw [← hw2];exact block_new w1 _ _
 have hE1:Ext w w1:=by rw [← hw1];exact Ext.alloc _ _
 have hE2:Ext w1 w2:=by rw [← hw2];exact Ext.alloc _ _
 have HX:Hid (Ext w w2):=hE1.trans hE2
 have k1:=block_cell (block_ext hb1 hE2)
 have k2:=block_cell hb2
 clear hr hr' hb1 hb2 hE1 hE2
 by_cases c1:n=n'
 ·by_cases c2:k=k'
  ·have HD:Hid (equalT n k X n' k' Y=decide (X=Y)):=by unfold Hid equalT;rw [decide_eq_true c1,decide_eq_true c2];simp
   subst c1;subst c2
   go_enter Tryz.func46,Tryz.ntmps46
   go_wp2_with fail
   refine (HE.out w2 HX.out).mono ?_
   rintro e w3 ⟨rfl,h3⟩
   have HE3:Hid (Ext w w3):=HX.out.trans h3
   clear h3 HE
   go_wp2_with fail
   go_ret
   exact ⟨by rw [HD.out];rfl,HE3.out⟩
  ·have HD:Hid (equalT n k X n' k' Y=false):=by unfold Hid equalT;rw [decide_eq_false c2];simp
   have q2:(k == k')=false:=beq_eq_false_iff_ne.2 c2
   subst c1
   go_enter Tryz.func46,Tryz.ntmps46
   go_wp2_with fail
   go_ret
   exact ⟨by rw [HD.out];rfl,HX.out⟩
 ·have HD:Hid (equalT n k X n' k' Y=false):=by unfold Hid equalT;rw [decide_eq_false c1];simp
  have q1:(n == n')=false:=beq_eq_false_iff_ne.2 c1
  go_enter Tryz.func46,Tryz.ntmps46
  go_wp2_with fail
  go_ret
  exact ⟨by rw [HD.out];rfl,HX.out⟩
set_option maxRecDepth 100000 in
set_option maxHeartbeats 4000000 in
theorem sameMT_any (n k:Int) (X:List ByteArray) (n' k':Int) (Y:List ByteArray) (u v:Value) (w:World) (h:TxtV w u n k X) (h':TxtV w v n' k' Y) :
  Calls Tryz.prog 17 #[u,v] w fun e w'=>e=.returned (.bool (equalT n k X n' k' Y))∧Ext w w':=by
 obtain ⟨r,rfl,hr⟩:=h
 obtain ⟨r',rfl,hr'⟩:=h'
 obtain ⟨a,c,rfl,h1,h2,-,hc⟩:=inCell.open hr
 obtain ⟨a',c',rfl,h1',h2',-,hc'⟩:=inCell.open hr'
 unfold maxLen at h2 h2'
 obtain ⟨w1,hw1⟩:∃ w1,w.alloc (.cells #[.int .i64 n,.int .i64 k,.slice a X.length c] 31)=w1:=⟨_,rfl⟩
 obtain ⟨w2,hw2⟩:∃ w2,w1.alloc (.cells #[.int .i64 n',.int .i64 k',.slice a' Y.length c'] 31)=w2:=⟨_,rfl⟩
 have hb1:w1.heap[w.heap.size]?=some (.cells #[.int .i64 n,.int .i64 k,.slice a X.length c] 31 (0,0)):=by rw [← hw1];exact block_new w _ _
 have hb2:w2.heap[w1.heap.size]?=some (.cells #[.int .i64 n',.int .i64 k',.slice a' Y.length c'] 31 (0,0)):=by rw [← hw2];exact block_new w1 _ _
 have hE1:Ext w w1:=by rw [← hw1];exact Ext.alloc _ _
 have hE2:Ext w1 w2:=by rw [← hw2];exact Ext.alloc _ _
 have HX:Hid (Ext w w2):=hE1.trans hE2
 have k1:=block_cell (block_ext hb1 hE2)
 have k2:=block_cell hb2
 have HC:=Lib.hid hc;have HC':=Lib.hid hc'
 clear hr hr' hb1 hb2 hE1 hE2 hc hc'
 by_cases c1:n=n'
 ·subst c1
  by_cases c2:k=k'
  ·subst c2
   by_cases c3:X.length=Y.length
   ·have q3:((X.length:Int) != (Y.length:Int))=false:=by simp [c3]
    obtain ⟨m,hm⟩:∃ m,Y.length=m:=⟨_,rfl⟩
    have hm1:X.length=m:=by omega
    have HM:=Lib.hid hm;have HM1:=Lib.hid hm1
    rw [hm1,hm] at q3
    rw [hm1] at k1 h1 hw1
    rw [hm] at k2 h1' hw2
    rw [hm1,hm]
    have d0:=k1 2;have d1:=k2 2
    simp only [List.getElem?_toArray,List.getElem?_cons_succ,List.getElem?_cons_zero] at d0 d1
    have D:=Lib.hid (And.intro d0 d1)
    clear c3 hm hm1 d0 d1
    go_enter Tryz.func17,Tryz.ntmps17
    go_wp2_with fail
    go_loopw [5] (fun t wr=>∃ j:Nat,j≤m∧t=.int .i64 j∧Ext w2 wr∧Hid (X.take j=Y.take j)) (fun t _=>m+1-(intOf t).toNat)
    case atStart=>exact ⟨0,by omega,rfl,Ext.refl _,rfl⟩
    case round =>
     obtain ⟨j,hj,rfl,hE,HT⟩:=hrel
     clear k1 k2 hw1 hw2
     have d0:=hE.cell D.out.1
     have d1:=hE.cell D.out.2
     by_cases hlt:j<m
     ·obtain ⟨x,hx⟩:∃ x,X[j]?=some x:=⟨_,List.getElem?_eq_getElem (by have:=HM1.out;omega)⟩
      obtain ⟨y,hy⟩:∃ y,Y[j]?=some y:=⟨_,List.getElem?_eq_getElem (by have:=HM.out;omega)⟩
      obtain ⟨b,off,rfl,hb,hcell⟩:=HC.out (by intro e;rw [e] at hx;simp at hx)
      obtain ⟨b',off',rfl,hb',hcell'⟩:=HC'.out (by intro e;rw [e] at hy;simp at hy)
      obtain ⟨z1,e1,g1⟩:=hcell j x hx
      obtain ⟨z2,e2,g2⟩:=hcell' j y hy
      obtain rfl:z1=.string x:=e1
      obtain rfl:z2=.string y:=e2
      have g1:=(HX.out.trans hE).cell g1
      have g2:=(HX.out.trans hE).cell g2
      have q1:(j:Int)<(m:Int):=by omega
      have HXX:=Lib.hid hx;have HYY:=Lib.hid hy
      have hs:=text_same x y
      clear hcell hcell' hx hy
      by_cases hxy:x=y
      ·rw [decide_eq_true hxy] at hs
       have hs':(x.toList != y.toList)=false:=by unfold bne;rw [hs];rfl
       have HT':Hid (X.take (j+1)=Y.take (j+1)):=by
        unfold Hid;rw [List.take_add_one,List.take_add_one,HXX.out,HYY.out,HT.out,hxy]
       clear hxy
       go_wp2_with fail
       go_quiet (fail)
       go_wp2_with fail
       go_roundw
       case rel=>exact ⟨j+1,by omega,by go_num,Ext.draws hE _,HT'⟩
       case measure=>simp [intOf];omega
      ·rw [decide_eq_false hxy] at hs
       have hs':(x.toList != y.toList)=true:=by unfold bne;rw [hs];rfl
       have HF:Hid (equalT n k X n k Y=false):=equalT_no (.inr (.inr (by
        intro e
        have e1:=HXX.out;have e2:=HYY.out
        rw [e,e2] at e1
        exact hxy (by simpa using e1.symm))))
       clear hxy
       go_wp2_with fail
       go_quiet (fail)
       go_wp2_with fail
       go_ret
       exact ⟨by rw [HF.out];rfl,Ext.draws (HX.out.trans hE) _⟩
     ·obtain rfl:j=m:=by omega
      have HF:Hid (equalT n k X n k Y=true):=by
       have h9:=HT.out
       rw [List.take_of_length_le (by have:=HM1.out;omega),List.take_of_length_le (by have:=HM.out;omega)] at h9
       unfold Hid equalT;rw [h9];simp
      go_wp2_with fail
      go_ret
      exact ⟨by rw [HF.out];rfl,HX.out.trans hE⟩
   ·have q3:((X.length:Int) != (Y.length:Int))=true:=by simp;omega
    have HD:Hid (equalT n k X n k Y=false):=equalT_no (.inr (.inr fun e=>c3 (by rw [e])))
    go_enter Tryz.func17,Tryz.ntmps17
    go_wp2_with fail
    go_ret
    exact ⟨by rw [HD.out];rfl,HX.out⟩
  ·have HD:Hid (equalT n k X n k' Y=false):=equalT_no (.inr (.inl c2))
   have q2:(k != k')=true:=bne_iff_ne.2 c2
   go_enter Tryz.func17,Tryz.ntmps17
   go_wp2_with fail
   go_ret
   exact ⟨by rw [HD.out];rfl,HX.out⟩
 ·have HD:Hid (equalT n k X n' k' Y=false):=equalT_no (.inl c1)
  have q1:(n != n')=true:=bne_iff_ne.2 c1
  go_enter Tryz.func17,Tryz.ntmps17
  go_wp2_with fail
  go_ret
  exact ⟨by rw [HD.out];rfl,HX.out⟩
end Go.Proofs.YtjlkkofmojgipaaGreatDoor
