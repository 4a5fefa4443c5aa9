import Derived.Test.YtjlkkofmojgipaaGreatDoorYBU
import Derived.Test.YtjlkkofmojgipaaGreatDoorYBW
import Derived.Test.YtjlkkofmojgipaaGreatDoorYAT
namespace Go.Proofs.YtjlkkofmojgipaaGreatDoor
set_option linter.unusedVariables false
set_option linter.unusedSimpArgs false
open Go.RowKit
theorem boxR (w:World) (x y z:Value):∃ W,(w.alloc (.cells #[x,y,z] 37))=W∧Ext w W∧W.heap.size=w.heap.size+1∧W.heap[w.heap.size]?=some (.cells #[x,y,z] 37 (0,0)) :=
 ⟨_,rfl,Ext.alloc _ _,by simp,block_new _ _ _⟩
theorem store3 {w:World} {B:Nat} {x y z:Value} {T:TypeId} (h:w.heap[B]?=some (.cells #[x,y,z] T (0,0))) (a b c:Value):(((w.setCell ⟨B,0,none⟩ a).setCell ⟨B,1,none⟩ b).setCell ⟨B,2,none⟩ c).heap[B]?=some (.cells #[a,b,c] T (0,0)):=by
 have:=block_set (block_set (block_set h 0 a) 1 b) 2 c
 simpa using this
set_option maxRecDepth 100000 in
set_option maxHeartbeats 1000000 in
theorem multi10_any (n k:Int) (a:Option Addr) (l c:Nat) (w:World) :
  Calls Tryz.prog 18 #[.agg #[.int .i64 n,.int .i64 k,.slice a l c]] w fun e w'=>e=.returned (.agg #[.int .i64 n,.int .i64 k,.slice a l c])∧Ext w w':=by
 obtain ⟨w1,hw1,hE1,hs1,hb1⟩:=boxR w (.int .i64 n) (.int .i64 k) (.slice a l c)
 obtain ⟨w2,hw2,hE2,hs2,hb2⟩:=boxM w1 (.int .i64 0) (.int .i64 0) (.slice none 0 0)
 have HE2:=Lib.hid (hE1.trans hE2)
 have HB1:=Lib.hid (block_ext hb1 hE2)
 have k1:=block_cell HB1.out
 have HS1:Hid (w1.heap.size=w.heap.size+1):=hs1
 have hb3:=multi_store hb2 (.int .i64 n) (.int .i64 k) (.slice a l c)
 rw [hs1] at hb3
 have HB3:=Lib.hid hb3
 have hb2':=hb2
 rw [hs1] at hb2'
 have k2:=block_cell hb2'
 have f2:=block_free hb2'
 clear hb1 hE1 hE2 hs2 hb2 hb2' hb3
 go_enter Tryz.func18,Tryz.ntmps18
 go_wp2_with fail
 refine bodyPost_ret (results_cell_row (by rfl) _ _ (w.heap.size+1) 31 #[.int .i64 n,.int .i64 k,.slice a l c] (0,0) _ (by rfl) HB3.out Tryz.underlying31 (by rfl) (by kernel_rfl)) (by rfl) ⟨rfl,multi_ext HE2.out (by omega) _ _ _⟩
set_option maxRecDepth 100000 in
set_option maxHeartbeats 2000000 in
theorem refOf10_any (xss:List (List Int)) (n:Nat) (v:Value) (w:World) (h:Rows2 w v xss) (hE:tabE xss=0) (hc:∀ r∈xss,r.length=n) (hk:xss.length≤n) (ht:Pow10 w) :
  Calls Tryz.prog 19 #[v,.int .i64 n] w fun e w'=>∃ a c,e=.returned (.agg #[.int .i64 n,.int .i64 xss.length,.slice a (minorsS xss xss.length).length c])∧ListAt 1 numC w' (.slice a (minorsS xss xss.length).length c) (minorsS xss xss.length)∧Ext w w':=by
 obtain ⟨w1,hw1,hE1,hs1,hb1⟩:=boxR w (.int .i64 0) (.int .i64 0) (.slice none 0 0)
 have HE1:=Lib.hid hE1;have HB1:=Lib.hid hb1
 have k1:=block_cell hb1
 have f1:=block_free hb1
 have HV:=Lib.hid h
 obtain ⟨av,cv,rfl,v1,v2,-,-⟩:=inCell.open h
 unfold maxLen at v2
 by_cases hx:xss=[]
 ·subst hx
  have HL:Hid (ListAt 1 numC (w1.alloc (.cells #[.string ⟨#[49]⟩] 53)) (.slice (some ⟨w1.heap.size,0,none⟩) 1 1) [1]):=nums_lit w1 [1] _ _ 1 (by simp [s10_1.2.1]) rfl (by decide)
  obtain ⟨w2,hw2⟩:∃ L,w1.alloc (.cells #[.string ⟨#[49]⟩] 53)=L:=⟨_,rfl⟩
  have HE2:Hid (Ext w1 w2):=by rw [← hw2];exact Ext.alloc _ _
  rw [hw2] at HL
  have HB2:=Lib.hid (block_ext HB1.out HE2.out)
  have k2:=block_cell HB2.out
  have f2:=block_free HB2.out
  have hm:minorsS [] 0=[1]:=minors_nil
  have HM:=Lib.hid hm
  rw [hs1] at HL
  have hb3:=store3 HB2.out (.int .i64 n) (.int .i64 0) (.slice (some ⟨w.heap.size+1,0,none⟩) 1 1)
  have HB3:=Lib.hid hb3
  have HS1:Hid (w1.heap.size=w.heap.size+1):=hs1
  have HE0:Hid (Ext w w2):=HE1.out.trans HE2.out
  clear hb1 hE1 hb3 hm k1 f1 h hE hc ht
  go_enter Tryz.func19,Tryz.ntmps19
  go_wp2_with fail
  rw [HM.out]
  refine bodyPost_ret (results_cell_row (by rfl) _ _ w.heap.size 37 #[.int .i64 n,.int .i64 0,.slice (some ⟨w.heap.size+1,0,none⟩) 1 1] (0,0) _ (by rfl) HB3.out Tryz.underlying37 (by rfl) (by kernel_rfl)) (by rfl) ⟨_,_,rfl,nums_set HL.out HB2.out (multi_nostr 0 0) (multi_grown _ _ _ _ _),multi_ext HE0.out (Nat.le_refl _) _ _ _⟩
 ·have hk1:xss.length≤colsN xss:=by
   cases xss with
   | nil=>exact absurd rfl hx
   | cons r l=>show _≤r.length;rw [hc r (List.mem_cons_self ..)];exact hk
  have HMI:Hid (∀ W,Ext w W→Calls Tryz.prog 55 #[.slice av xss.length cv,.int .i64 (xss.length:Int)] W fun e w'=>∃ u,e=.returned u∧ListAt 1 numC w' u (minorsS xss xss.length)∧Ext W w'):=fun W hW=>refMinors_any xss xss.length _ W (HV.out.ext hW) hE (Nat.le_refl _) hk1 (ht.ext hW)
  have hl0:((xss.length:Int) == 0)=false:=by
   have:xss.length≠0:=fun e=>hx (List.eq_nil_of_length_eq_zero e)
   simp;exact hx
  obtain ⟨MS,hMS⟩:∃ M,minorsS xss xss.length=M:=⟨_,rfl⟩
  rw [hMS] at HMI ⊢
  obtain ⟨k,hk9⟩:∃ k,xss.length=k:=⟨_,rfl⟩
  rw [hk9] at HMI hl0 ⊢
  obtain ⟨lm,hlm⟩:∃ l,MS.length=l:=⟨_,rfl⟩
  have HLM:=Lib.hid hlm
  rw [hlm]
  clear hb1 hE1 h hE hc ht hMS hk hk1 hx v1 hk9 HV hlm
  go_enter Tryz.func19,Tryz.ntmps19
  go_wp2_with fail
  refine (HMI.out _ HE1.out).mono ?_
  rintro e w3 ⟨u,rfl,hu,hE3⟩
  have HU:=Lib.hid hu
  obtain ⟨a3,c3,rfl,-⟩:=ListAt.open hu
  have HE3:Hid (Ext w w3):=HE1.out.trans hE3
  have HB3:=Lib.hid (block_ext HB1.out hE3)
  have k3:=block_cell HB3.out
  have f3:=block_free HB3.out
  rw [HLM.out] at HU ⊢
  have HB4:=Lib.hid (store3 HB3.out (.int .i64 n) (.int .i64 k) (.slice a3 lm c3))
  clear hE3 hu HMI k1 f1
  go_wp2_with fail
  refine bodyPost_ret (results_cell_row (by rfl) _ _ w.heap.size 37 #[.int .i64 n,.int .i64 k,.slice a3 lm c3] (0,0) _ (by rfl) HB4.out Tryz.underlying37 (by rfl) (by kernel_rfl)) (by rfl) ⟨_,_,rfl,nums_set HU.out HB3.out (multi_nostr 0 0) (multi_grown _ _ _ _ _),multi_ext HE3.out (Nat.le_refl _) _ _ _⟩
set_option maxRecDepth 100000 in
set_option maxHeartbeats 2000000 in
theorem wOf_tab (xss:List (List Int)) (n:Nat) (v:Value) (w:World) (h:Rows2 w v xss) (hE:tabE xss≠0) (hn:n≤12) :
  Calls Tryz.prog 15 #[v,.int .i64 n] w fun e w'=>e=.returned (.tuple #[noMulti,.int .i64 (tabE xss)])∧Ext w w':=by
 obtain ⟨w1,hw1⟩:∃ w1,w1=w.alloc (.cells #[.int .i64 0,.int .i64 0,.slice none 0 0] 31):=⟨_,rfl⟩
 have hb:w1.heap[w.heap.size]?=some (.cells #[.int .i64 0,.int .i64 0,.slice none 0 0] 31 (0,0)):=by rw [hw1];exact block_new w _ _
 have HE1:Hid (Ext w w1):=by rw [hw1];exact Ext.alloc _ _
 have HB:=Lib.hid hb
 have HCH:Hid (∀ W,Ext w W→Calls Tryz.prog 53 #[v] W fun e w'=>e=.returned (.int .i64 (tabE xss))∧Ext W w'):=fun W hW=>tabCheck_any xss v W (h.ext hW)
 have HV:=Lib.hid h
 obtain ⟨a,cap,rfl,h1,h2,-,-⟩:=inCell.open h
 unfold maxLen at h2
 obtain ⟨E,hEE⟩:∃ E,tabE xss=E:=⟨_,rfl⟩
 rw [hEE] at HCH hE ⊢
 have hE1:(E != 0)=true:=by simp [hE]
 have c1:¬ ((n:Int)<0):=by omega
 have c2:¬ (12<(n:Int)):=by omega
 clear hb h hEE hE
 go_enter Tryz.func15,Tryz.ntmps15
 go_wp2_with fail
 generalize hw9:w.alloc _=w9
 obtain rfl:w9=w1:=by rw [← hw9,hw1]
 clear hw1 hw9
 refine (HCH.out w9 HE1.out).mono ?_
 rintro e w2 ⟨rfl,h2⟩
 have HE2:Hid (Ext w w2):=HE1.out.trans h2
 have HB2:=Lib.hid (block_ext HB.out h2)
 clear h2 HCH
 have f0:=block_free HB2.out
 have k0:=block_cell HB2.out
 go_wp2_with fail
 have hb7:=multi_store HB2.out (.int .i64 0) (.int .i64 0) (.slice none 0 0)
 refine bodyPost_ret (results_cell_tmp (by rfl) _ _ w.heap.size 31 #[.int .i64 0,.int .i64 0,.slice none 0 0] (0,0) _ (.int .i64 E) (by rfl) (by rfl) hb7 Tryz.underlying31 (by rfl) (by kernel_rfl)) (by rfl) ⟨rfl,multi_ext HE2.out (Nat.le_refl _) _ _ _⟩
set_option maxRecDepth 100000 in
set_option maxHeartbeats 2000000 in
theorem wOf_size (xss:List (List Int)) (n m:Nat) (v:Value) (w:World) (h:Rows2 w v xss) (hE:tabE xss=0) (hn:n≤12) (hx:xss≠[]) (hm:∀ r∈xss,r.length=m) (hmn:m≠n) :
  Calls Tryz.prog 15 #[v,.int .i64 n] w fun e w'=>e=.returned (.tuple #[noMulti,.int .i64 5])∧Ext w w':=by
 obtain ⟨w1,hw1⟩:∃ w1,w1=w.alloc (.cells #[.int .i64 0,.int .i64 0,.slice none 0 0] 31):=⟨_,rfl⟩
 have hb:w1.heap[w.heap.size]?=some (.cells #[.int .i64 0,.int .i64 0,.slice none 0 0] 31 (0,0)):=by rw [hw1];exact block_new w _ _
 have HE1:Hid (Ext w w1):=by rw [hw1];exact Ext.alloc _ _
 have HB:=Lib.hid hb
 have HCH:Hid (∀ W,Ext w W→Calls Tryz.prog 53 #[v] W fun e w'=>e=.returned (.int .i64 0)∧Ext W w'):=fun W hW=>by
  have h9:=tabCheck_any xss v W (h.ext hW);rw [hE] at h9;exact h9
 obtain ⟨a,cap,rfl,h1,h2,-,hc⟩:=inCell.open h
 unfold maxLen at h2
 have hp:0<xss.length:=List.length_pos_iff.2 hx
 obtain ⟨b,off,rfl,hbw,hcell⟩:=hc hx
 obtain ⟨y,hy⟩:∃ y,xss[0]?=some y:=⟨xss[0],List.getElem?_eq_getElem hp⟩
 obtain ⟨u,hu,hcu⟩:=hcell 0 y hy
 have hyl:=hm y (List.mem_of_getElem? hy)
 obtain ⟨ua,uc,rfl,-⟩:=ListAt.open hu
 rw [hyl,Nat.add_zero] at hcu
 have HCU:=Lib.hid hcu
 have c1:¬ ((n:Int)<0):=by omega
 have c2:¬ (12<(n:Int)):=by omega
 have c4:(0:Int)<(xss.length:Int):=by omega
 have c5:((m:Int) != (n:Int))=true:=by simp;omega
 obtain ⟨k,hk⟩:∃ k,xss.length=k:=⟨_,rfl⟩
 rw [hk] at h1 hp c4 HCH ⊢
 clear hb h hE hc hcell hu hcu hy hyl hx hk hm hmn hbw
 go_enter Tryz.func15,Tryz.ntmps15
 go_wp2_with fail
 generalize hw9:w.alloc _=w9
 obtain rfl:w9=w1:=by rw [← hw9,hw1]
 clear hw1 hw9
 refine (HCH.out w9 HE1.out).mono ?_
 rintro e w2 ⟨rfl,h2⟩
 have HE2:Hid (Ext w w2):=HE1.out.trans h2
 have HB2:=Lib.hid (block_ext HB.out h2)
 have hcu2:=HE2.out.cell HCU.out
 clear h2 HCH
 have f0:=block_free HB2.out
 have k0:=block_cell HB2.out
 go_wp2_with fail
 have hb7:=multi_store HB2.out (.int .i64 0) (.int .i64 0) (.slice none 0 0)
 refine bodyPost_ret (results_cell_tmp (by rfl) _ _ w.heap.size 31 #[.int .i64 0,.int .i64 0,.slice none 0 0] (0,0) _ (.int .i64 5) (by rfl) (by rfl) hb7 Tryz.underlying31 (by rfl) (by kernel_rfl)) (by rfl) ⟨rfl,multi_ext HE2.out (Nat.le_refl _) _ _ _⟩
set_option maxRecDepth 100000 in
set_option maxHeartbeats 2000000 in
theorem wOf_many (xss:List (List Int)) (n:Nat) (v:Value) (w:World) (h:Rows2 w v xss) (hE:tabE xss=0) (hn:n≤12) (hm:∀ r∈xss,r.length=n) (hk:n<xss.length) :
  Calls Tryz.prog 15 #[v,.int .i64 n] w fun e w'=>e=.returned (.tuple #[noMulti,.int .i64 3])∧Ext w w':=by
 obtain ⟨w1,hw1⟩:∃ w1,w1=w.alloc (.cells #[.int .i64 0,.int .i64 0,.slice none 0 0] 31):=⟨_,rfl⟩
 have hb:w1.heap[w.heap.size]?=some (.cells #[.int .i64 0,.int .i64 0,.slice none 0 0] 31 (0,0)):=by rw [hw1];exact block_new w _ _
 have HE1:Hid (Ext w w1):=by rw [hw1];exact Ext.alloc _ _
 have HB:=Lib.hid hb
 have HCH:Hid (∀ W,Ext w W→Calls Tryz.prog 53 #[v] W fun e w'=>e=.returned (.int .i64 0)∧Ext W w'):=fun W hW=>by
  have h9:=tabCheck_any xss v W (h.ext hW);rw [hE] at h9;exact h9
 obtain ⟨a,cap,rfl,h1,h2,-,hc⟩:=inCell.open h
 unfold maxLen at h2
 have hx:xss≠[]:=by intro e;rw [e] at hk;simp at hk
 obtain ⟨b,off,rfl,hbw,hcell⟩:=hc hx
 obtain ⟨y,hy⟩:∃ y,xss[0]?=some y:=⟨xss[0]'(by omega),List.getElem?_eq_getElem _⟩
 obtain ⟨u,hu,hcu⟩:=hcell 0 y hy
 have hyl:=hm y (List.mem_of_getElem? hy)
 obtain ⟨ua,uc,rfl,-⟩:=ListAt.open hu
 rw [hyl,Nat.add_zero] at hcu
 have HCU:=Lib.hid hcu
 have c1:¬ ((n:Int)<0):=by omega
 have c2:¬ (12<(n:Int)):=by omega
 have c4:(0:Int)<(xss.length:Int):=by omega
 have c6:(n:Int)<(xss.length:Int):=by omega
 have hp:0<xss.length:=by omega
 obtain ⟨k,hk9⟩:∃ k,xss.length=k:=⟨_,rfl⟩
 rw [hk9] at h1 hp c4 c6 hk HCH ⊢
 clear hb h hE hc hcell hu hcu hy hyl hx hk9 hm hbw
 go_enter Tryz.func15,Tryz.ntmps15
 go_wp2_with fail
 generalize hw9:w.alloc _=w9
 obtain rfl:w9=w1:=by rw [← hw9,hw1]
 clear hw1 hw9
 refine (HCH.out w9 HE1.out).mono ?_
 rintro e w2 ⟨rfl,h2⟩
 have HE2:Hid (Ext w w2):=HE1.out.trans h2
 have HB2:=Lib.hid (block_ext HB.out h2)
 have hcu2:=HE2.out.cell HCU.out
 clear h2 HCH
 have f0:=block_free HB2.out
 have k0:=block_cell HB2.out
 go_wp2_with fail
 have hb7:=multi_store HB2.out (.int .i64 0) (.int .i64 0) (.slice none 0 0)
 refine bodyPost_ret (results_cell_tmp (by rfl) _ _ w.heap.size 31 #[.int .i64 0,.int .i64 0,.slice none 0 0] (0,0) _ (.int .i64 3) (by rfl) (by rfl) hb7 Tryz.underlying31 (by rfl) (by kernel_rfl)) (by rfl) ⟨rfl,multi_ext HE2.out (Nat.le_refl _) _ _ _⟩
end Go.Proofs.YtjlkkofmojgipaaGreatDoor
