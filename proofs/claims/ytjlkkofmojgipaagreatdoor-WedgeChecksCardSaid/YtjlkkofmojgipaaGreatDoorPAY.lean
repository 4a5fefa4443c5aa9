import Derived.Test.YtjlkkofmojgipaaGreatDoorPAU
import Derived.Test.YtjlkkofmojgipaaGreatDoorPAX
namespace Go.Proofs.YtjlkkofmojgipaaGreatDoor
set_option linter.unusedVariables false
set_option linter.unusedSimpArgs false
open Go.RowKit Go.Maps
def prodErr (n k:Int) (L:List ByteArray) (n' k':Int) (L':List ByteArray):Int :=
 if chkX n k L≠0 then chkX n k L else if chkX n' k' L'≠0 then chkX n' k' L' else if n'≠n then 5 else if n<k+k' then 3 else 0
set_option maxRecDepth 100000 in
set_option maxHeartbeats 1000000 in
theorem prodE_any (n k n' k':Int) (L L':List ByteArray) (u v:Value) (w:World) (h:TxtV w u n k L) (hv:TxtV w v n' k' L') (hs:∀ a∈L,a.size≤100000) (hs':∀ a∈L',a.size≤100000) (h0:prodErr n k L n' k' L'≠0) :
  Calls Tryz.prog 42 #[u,v] w fun e w'=>e=.returned (.tuple #[noMulti,.int .i64 (prodErr n k L n' k' L')])∧Ext w w':=by
 have HCA:Hid (∀ W,Ext w W→Calls Tryz.prog 47 #[u] W fun e w'=>e=.returned (.int .i64 (chkX n k L))∧Ext W w'):=fun W hW=>checkT_any n k L u W (h.ext hW) hs
 have HCB:Hid (∀ W,Ext w W→Calls Tryz.prog 47 #[v] W fun e w'=>e=.returned (.int .i64 (chkX n' k' L'))∧Ext W w'):=fun W hW=>checkT_any n' k' L' v W (hv.ext hW) hs'
 obtain ⟨ua,rfl,hua⟩:=h
 obtain ⟨ub,rfl,hub⟩:=hv
 obtain ⟨a,ca,rfl,a1,a2,-,-⟩:=inCell.open hua
 obtain ⟨b,cb,rfl,b1,b2,-,-⟩:=inCell.open hub
 unfold maxLen at a2 b2
 obtain ⟨ma,hma⟩:∃ m,L.length=m:=⟨_,rfl⟩
 obtain ⟨mb,hmb⟩:∃ m,L'.length=m:=⟨_,rfl⟩
 rw [hma] at a1 HCA ⊢
 rw [hmb] at b1 HCB ⊢
 obtain ⟨EA,hEA⟩:∃ E,chkX n k L=E:=⟨_,rfl⟩
 obtain ⟨EB,hEB⟩:∃ E,chkX n' k' L'=E:=⟨_,rfl⟩
 have HP:Hid (prodErr n k L n' k' L'=if EA≠0 then EA else if EB≠0 then EB else if n'≠n then 5 else if n<k+k' then 3 else 0):=by unfold Hid prodErr;rw [hEA,hEB]
 have HNA:Hid (EA=0→0≤n∧n≤12∧0≤k∧k≤n):=fun e=>by
  rw [← hEA] at e
  obtain ⟨x,y,X,h1,h2,h3,h4,-⟩:=chkX_zero e
  omega
 have HNB:Hid (EB=0→0≤n'∧n'≤12∧0≤k'∧k'≤n'):=fun e=>by
  rw [← hEB] at e
  obtain ⟨x,y,X,h1,h2,h3,h4,-⟩:=chkX_zero e
  omega
 rw [hEA] at HCA
 rw [hEB] at HCB
 obtain ⟨E,hE⟩:∃ E,prodErr n k L n' k' L'=E:=⟨_,rfl⟩
 rw [hE] at HP h0 ⊢
 have H0:=Lib.hid h0
 obtain ⟨w1,hw1,hE1,hs1,hb1⟩:=boxM w (.int .i64 n) (.int .i64 k) (.slice a ma ca)
 obtain ⟨w2,hw2,hE2,hs2,hb2⟩:=boxM w1 (.int .i64 n') (.int .i64 k') (.slice b mb cb)
 obtain ⟨w3,hw3,hE3,hs3,hb3⟩:=boxM w2 (.int .i64 0) (.int .i64 0) (.slice none 0 0)
 have HE3:=Lib.hid ((hE1.trans hE2).trans hE3)
 have HB1:=Lib.hid (block_ext hb1 (hE2.trans hE3));have HB2:=Lib.hid (block_ext hb2 hE3);have HB3:=Lib.hid hb3
 have HSZ:Hid (w1.heap.size=w.heap.size+1∧w2.heap.size=w1.heap.size+1∧w3.heap.size=w2.heap.size+1):=⟨hs1,hs2,hs3⟩
 have HW2:Hid (w.heap.size≤w2.heap.size):=by unfold Hid;omega
 have k1:=block_cell HB1.out;have k2:=block_cell HB2.out
 clear hb1 hb2 hb3 hE1 hE2 hE3 hua hub hs1 hs2 hs3 hs hs' hma hmb hE hEA hEB h0
 go_enter Tryz.func42,Tryz.ntmps42
 go_wp2_with fail
 go_loopw [21,8] (fun t s8 wr=>∃ (i:Nat) (y8:Value),i≤2∧t=.int .i64 i∧s8=y8∧Hid (Ext w3 wr)∧Hid (1≤i→EA=0)∧Hid (2≤i→EB=0)) (fun t _ _=>2-(intOf t).toNat)
 case atStart=>exact ⟨0,_,by omega,rfl,rfl,by first | exact Ext.refl _ | exact Ext.drew _,fun e=>absurd e (by omega),fun e=>absurd e (by omega)⟩
 case round =>
  obtain ⟨i,y8,hi,rfl,hy8,HX,HA0,HB0⟩:=hrel
  obtain rfl:=hy8.symm
  obtain ⟨wo,rfl⟩:∃ wo:World,wo=wr:=⟨_,rfl⟩
  by_cases hlt:i<2
  ·obtain ⟨nx,kx,bx,mx,cx,EX,HIX,HCX,HEX⟩:∃ (nx kx:Int) (bx:Option Addr) (mx cx:Nat) (EX:Int),Hid (∀ W,(Instr.index 130 (.agg #[.int .i64 n,.int .i64 k,.slice a ma ca,.int .i64 n',.int .i64 k',.slice b mb cb]) (.int .i64 (i:Int))).run Tryz.prog W=.ok (.agg #[.int .i64 nx,.int .i64 kx,.slice bx mx cx]) W)∧Hid (∀ W,Ext w W→Calls Tryz.prog 47 #[.agg #[.int .i64 nx,.int .i64 kx,.slice bx mx cx]] W fun e w'=>e=.returned (.int .i64 EX)∧Ext W w')∧Hid ((EX≠0→E=EX)∧(EX=0→(1≤i+1→EA=0)∧(2≤i+1→EB=0))):=by
    obtain ⟨inf,hinf⟩:=infoMul
    have hag:∀ w,(isAgg 31).run Tryz.prog w=.ok true w:=fun w=>by kernel_rfl
    rcases (by omega:i=0∨i=1) with rfl | rfl
    ·exact ⟨n,k,a,ma,ca,EA,fun W=>run_index_struct W _ _ 2 3 _ _ _ 0 inf Tryz.underlying130 hag hinf cellsMul rfl (by omega),HCA,fun e=>by rw [HP.out,if_pos e],fun e=>⟨fun _=>e,fun e2=>absurd e2 (by omega)⟩⟩
    ·exact ⟨n',k',b,mb,cb,EB,fun W=>run_index_struct W _ _ 2 3 _ _ _ 1 inf Tryz.underlying130 hag hinf cellsMul rfl (by omega),HCB,fun e=>by rw [HP.out,if_neg (fun e2=>e2 (HA0.out (by omega))),if_pos e],fun e=>⟨fun _=>HA0.out (by omega),fun _=>e⟩⟩
   have hix:=HIX.out wo
   obtain ⟨w4,hw4,hE4,hs4,hb4⟩:=boxM wo (.int .i64 0) (.int .i64 0) (.slice none 0 0)
   have f4:=block_free hb4
   have k4:=block_cell hb4
   have HE4:=Lib.hid hE4;have HB4:=Lib.hid hb4
   clear hE4 hs4 hb4
   go_upto_region 4 with fail
   generalize hw9:World.setCell _ _ _=w5
   have HB5:Hid (w5.heap[wo.heap.size]?=some (.cells #[.int .i64 nx,.int .i64 kx,.slice bx mx cx] 31 (0,0))):=by rw [← hw9];exact multi_store HB4.out _ _ _
   have HE5:Hid (Ext wo w5):=by rw [← hw9];exact multi_ext HE4.out (Nat.le_refl _) _ _ _
   have k5:=block_cell HB5.out
   clear hw9 hw4 k4 f4 hix
   by_cases hx0:EX=0
   ·subst hx0
    obtain ⟨hn1,hn2⟩:=HEX.out.2 rfl
    have HN1:=Lib.hid hn1;have HN2:=Lib.hid hn2
    clear hn1 hn2 HEX
    go_wp2_with fail
    refine (HCX.out w5 (HE3.out.trans (HX.out.trans HE5.out))).mono ?_
    rintro e w6 ⟨rfl,h6⟩
    have HE6:Hid (Ext w3 w6):=HX.out.trans (HE5.out.trans h6)
    clear h6 k5
    go_wp2_with fail
    go_roundw
    case rel=>exact ⟨i+1,_,by omega,by go_num,rfl,HE6.out,HN1.out,HN2.out⟩
    case measure=>simp [intOf];omega
   ·have HEE:Hid (E=EX):=HEX.out.1 hx0
    have hx1:(EX != 0)=true:=bne_iff_ne.2 hx0
    clear HEX
    go_wp2_with fail
    refine (HCX.out w5 (HE3.out.trans (HX.out.trans HE5.out))).mono ?_
    rintro e w6 ⟨rfl,h6⟩
    have HE6:Hid (Ext w3 w6):=HX.out.trans (HE5.out.trans h6)
    have HB36:=Lib.hid (block_ext HB3.out HE6.out)
    have HEW:Hid (Ext w w6):=HE3.out.trans HE6.out
    have f9:=block_free HB36.out
    have k9:=block_cell HB36.out
    clear h6 k5
    go_wp2_with fail
    have hb7:=multi_store HB36.out (.int .i64 0) (.int .i64 0) (.slice none 0 0)
    refine bodyPost_ret (results_cell_tmp (by rfl) _ _ w2.heap.size 31 #[.int .i64 0,.int .i64 0,.slice none 0 0] (0,0) _ (.int .i64 EX) (by rfl) (by rfl) hb7 Tryz.underlying31 (by rfl) (by kernel_rfl)) (by rfl) ⟨?_,multi_ext HEW.out HW2.out _ _ _⟩
    rw [HEE.out];rfl
  ·obtain rfl:i=2:=by omega
   have hA0:=HA0.out (by omega);have hB0:=HB0.out (by omega)
   obtain ⟨n1,n2,n3,n4⟩:=HNA.out hA0
   obtain ⟨n5,n6,n7,n8⟩:=HNB.out hB0
   have HPE:Hid (E=if n'≠n then 5 else if n<k+k' then 3 else 0):=by unfold Hid;rw [HP.out,if_neg (fun e=>e hA0),if_neg (fun e=>e hB0)]
   have d0:=block_cell (block_ext HB1.out HX.out) 0;have d1:=block_cell (block_ext HB1.out HX.out) 1;have d2:=block_cell (block_ext HB2.out HX.out) 0;have d3:=block_cell (block_ext HB2.out HX.out) 1
   simp only [List.getElem?_toArray,List.getElem?_cons_succ,List.getElem?_cons_zero] at d0 d1 d2 d3
   have HB39:=Lib.hid (block_ext HB3.out HX.out)
   have HEW:Hid (Ext w wo):=HE3.out.trans HX.out
   have f9:=block_free HB39.out
   have k9:=block_cell HB39.out
   have e1:IntKind.i64.wrap (k+k')=k+k':=by rw [IntKind.wrap_i64];omega
   clear k1 k2 hA0 hB0 HNA HNB HCA HCB HP
   by_cases hnn:n'=n
   ·subst hnn
    have h9:E=if n'<k+k' then 3 else 0:=by rw [HPE.out,if_neg (fun e=>e rfl)]
    by_cases hlt:n'<k+k'
    ·rw [if_pos hlt] at h9
     subst h9
     have q2:=decide_eq_true hlt
     clear HPE
     go_wp2_with fail
     have hb7:=multi_store HB39.out (.int .i64 0) (.int .i64 0) (.slice none 0 0)
     refine bodyPost_ret (results_cell_tmp (by rfl) _ _ w2.heap.size 31 #[.int .i64 0,.int .i64 0,.slice none 0 0] (0,0) _ (.int .i64 3) (by rfl) (by rfl) hb7 Tryz.underlying31 (by rfl) (by kernel_rfl)) (by rfl) ⟨?_,multi_ext HEW.out HW2.out _ _ _⟩
     rfl
    ·exact absurd (by rw [h9,if_neg hlt]) H0.out
   ·have h9:E=5:=by rw [HPE.out,if_pos hnn]
    subst h9
    have q1:(n' != n)=true:=bne_iff_ne.2 hnn
    clear HPE
    go_wp2_with fail
    have hb7:=multi_store HB39.out (.int .i64 0) (.int .i64 0) (.slice none 0 0)
    refine bodyPost_ret (results_cell_tmp (by rfl) _ _ w2.heap.size 31 #[.int .i64 0,.int .i64 0,.slice none 0 0] (0,0) _ (.int .i64 5) (by rfl) (by rfl) hb7 Tryz.underlying31 (by rfl) (by kernel_rfl)) (by rfl) ⟨?_,multi_ext HEW.out HW2.out _ _ _⟩
    rfl
end Go.Proofs.YtjlkkofmojgipaaGreatDoor
