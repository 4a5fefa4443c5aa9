import Derived.Test.YtjlkkofmojgipaaGreatDoorYBX
import Derived.Test.YtjlkkofmojgipaaGreatDoorYBP
namespace Go.Proofs.YtjlkkofmojgipaaGreatDoor
set_option linter.unusedVariables false
set_option linter.unusedSimpArgs false
open Go.RowKit
theorem chooseS5:∀ a,a<6→∀ b,b<6→chooseS a a*chooseS b a≤1000:=by decide +kernel
theorem none_yes (W:World):Calls Tryz.prog 16 #[noMulti] W fun e w'=>e=.returned (.bool true)∧Ext W w':=by
 have h9:=noneM_any 0 0 [] noMulti W (noMulti_v W)
 rw [show equalM 0 0 [] 0 0 []=true by decide] at h9
 exact h9
theorem tab_lens {xss:List (List Int)} (h:tabE xss=0):∀ r∈xss,r.length=colsN xss:=(fun r hr=>((tabE_zero h).2 r hr).1)
theorem wrows_out (xss:List (List Int)) (d:Int) (v:Value) (w:World) (h:Rows2 w v xss) (ho:5<xss.length∨(5<d∧d≤12)) (hlib:LibT w) (hb:4<w.heap.size) :
  Calls Tryz.prog 3 #[v,.int .i64 d] w fun e w'=>e=.returned (.bool true)∧Ext w w':=by
 have HK:Hid (∀ W,Ext w W→Calls Tryz.prog 13 #[] W fun e w'=>e=.returned (.bool true)∧Ext W w'):=fun W hW=>known10_any W (hlib.ext hW) (Nat.lt_of_lt_of_le hb hW.size)
 obtain ⟨a,cap,rfl,h1,h2,-,-⟩:=inCell.open h
 unfold maxLen at h2
 obtain ⟨k,hk⟩:∃ k,xss.length=k:=⟨_,rfl⟩
 rw [hk] at h1 ho ⊢
 clear h hk hlib hb
 rcases ho with ho | ⟨ho,ho2⟩
 ·have c1:(5:Int)<(k:Int):=by omega
  go_enter Tryz.func3,Tryz.ntmps3
  go_wp2_with fail
  refine (HK.out w (Ext.refl _)).mono ?_
  rintro e w1 ⟨rfl,hE1⟩
  have HE1:=Lib.hid hE1
  clear hE1
  go_wp2_with fail
  refine (HK.out w1 HE1.out).mono ?_
  rintro e w2 ⟨rfl,hE2⟩
  have HE2:=Lib.hid (HE1.out.trans hE2)
  clear hE2 HK
  go_wp2_with fail
  go_ret
  exact ⟨rfl,HE2.out⟩
 ·by_cases hk5:5<k
  ·have c1:(5:Int)<(k:Int):=by omega
   go_enter Tryz.func3,Tryz.ntmps3
   go_wp2_with fail
   refine (HK.out w (Ext.refl _)).mono ?_
   rintro e w1 ⟨rfl,hE1⟩
   have HE1:=Lib.hid hE1
   clear hE1
   go_wp2_with fail
   refine (HK.out w1 HE1.out).mono ?_
   rintro e w2 ⟨rfl,hE2⟩
   have HE2:=Lib.hid (HE1.out.trans hE2)
   clear hE2 HK
   go_wp2_with fail
   go_ret
   exact ⟨rfl,HE2.out⟩
  ·have c1:¬ (5:Int)<(k:Int):=by omega
   go_enter Tryz.func3,Tryz.ntmps3
   go_wp2_with fail
   refine (HK.out w (Ext.refl _)).mono ?_
   rintro e w1 ⟨rfl,hE1⟩
   have HE1:=Lib.hid hE1
   clear hE1
   go_wp2_with fail
   refine (HK.out w1 HE1.out).mono ?_
   rintro e w2 ⟨rfl,hE2⟩
   have HE2:=Lib.hid (HE1.out.trans hE2)
   clear hE2 HK
   go_wp2_with fail
   go_ret
   exact ⟨rfl,HE2.out⟩
set_option maxRecDepth 100000 in
set_option maxHeartbeats 800000 in
theorem wrows_neg (xss:List (List Int)) (d:Int) (v:Value) (w:World) (h:Rows2 w v xss) (h5:xss.length≤5) (hd:d<0) (hlib:LibT w) (hb:4<w.heap.size) :
  Calls Tryz.prog 3 #[v,.int .i64 d] w fun e w'=>e=.returned (.bool true)∧Ext w w':=by
 have HK:=Lib.hid (known10_any w hlib hb)
 have HV:=Lib.hid h
 have HT:=Lib.hid hlib
 have HNO:Hid (∀ W,Calls Tryz.prog 16 #[.agg #[.int .i64 0,.int .i64 0,.slice none 0 0]] W fun e w'=>e=.returned (.bool true)∧Ext W w'):=fun W=>none_yes W
 have HOF:Hid (∀ W,Ext w W→Calls Tryz.prog 15 #[v,.int .i64 d] W fun e w'=>e=.returned (.tuple #[.agg #[.int .i64 0,.int .i64 0,.slice none 0 0],.int .i64 (3)])∧Ext W w'):=fun W hW=>wOf_dim v d (.inl hd) W
 have c7:¬ 5<d:=by omega
 obtain ⟨a,cap,rfl,h1,h2,-,hc⟩:=inCell.open h
 unfold maxLen at h2
 have HC:=Lib.hid hc
 obtain ⟨k,hk⟩:∃ k,xss.length=k:=⟨_,rfl⟩
 have HKL:=Lib.hid hk
 rw [hk] at h1 h5 ⊢
 (try rw [hk] at HOF)
 (try rw [hk] at HCH)
 (try rw [hk] at HRO)
 have c5:¬ (5:Int)<(k:Int):=by omega
 clear h hc hk hlib hb
 go_enter Tryz.func3,Tryz.ntmps3
 go_wp2_with fail
 refine HK.out.mono ?_
 rintro e w1 ⟨rfl,hE1⟩
 have HE1:=Lib.hid hE1
 clear hE1 HK
 go_wp2_with fail
 go_loopw [6] (fun t wr=>∃ i:Nat,i≤k∧t=.int .i64 (i:Int)∧Hid (Ext w wr)∧Hid (∀ j r,j<i→xss[j]?=some r→r.length≤5)) (fun t _=>k+1-(intOf t).toNat)
 case atStart=>exact ⟨0,by omega,by simp,HE1.out,fun j r hj=>absurd hj (by omega)⟩
 case round =>
  obtain ⟨i,hi,rfl,HX,HL5⟩:=hrel
  obtain ⟨wo,rfl⟩:∃ wo:World,wo=wr:=⟨_,rfl⟩
  by_cases hlt:i<k
  ·obtain ⟨x,hx⟩:∃ x,xss[i]?=some x:=⟨xss[i]'(by rw [HKL.out];exact hlt),List.getElem?_eq_getElem _⟩
   obtain ⟨b,off,rfl,-,hcell⟩:=HC.out (by intro e;rw [e] at hx;simp at hx)
   obtain ⟨vx,hvx,g2⟩:=hcell i x hx
   have z1:=HX.out.cell g2
   obtain ⟨ax,cx,rfl,-⟩:=ListAt.open hvx
   have HXX:=Lib.hid hx
   obtain ⟨lx,hlx⟩:∃ l,x.length=l:=⟨_,rfl⟩
   rw [hlx] at z1
   have HLX:=Lib.hid hlx
   clear hx hcell hvx g2 hlx
   by_cases hl:5<lx
   ·have c6:(5:Int)<(lx:Int):=by omega
    go_wp2_with fail
    go_ret
    exact ⟨rfl,HX.out⟩
   ·have c6:¬ (5:Int)<(lx:Int):=by omega
    go_wp2_with fail
    go_roundw
    case rel=>exact ⟨i+1,by omega,by go_num,HX.out,fun j r hj hr=>by
     by_cases e:j=i
     ·subst e;rw [HXX.out] at hr;cases hr;rw [HLX.out];omega
     ·exact HL5.out j r (by omega) hr⟩
    case measure=>simp [intOf];omega
  ·obtain rfl:i=k:=by omega
   have HALL:Hid (∀ r∈xss,r.length≤5):=fun r hr=>by
    obtain ⟨j,hj⟩:=List.getElem?_of_mem hr
    exact HL5.out j r (by rw [← HKL.out];exact (List.getElem?_eq_some_iff.1 hj).1) hj
   clear HL5 HE1
   go_wp2_with fail
   go_loopw [5,7] (fun s t wr=>∃ j:Nat,j≤i∧t=.int .i64 (j:Int)∧s=.int .i64 3∧Hid (Ext w wr)) (fun _ t _=>i+1-(intOf t).toNat)
   case atStart=>exact ⟨0,by omega,by simp,rfl,HX.out⟩
   case round =>
    obtain ⟨j,hj,rfl,rfl,HY⟩:=hrel
    obtain ⟨wp,rfl⟩:∃ wp:World,wp=wr:=⟨_,rfl⟩
    by_cases hjl:j<i
    ·skip
     go_wp2_with fail
     go_roundw
     case rel=>exact ⟨j+1,by omega,by go_num,rfl,HY.out⟩
     case measure=>simp [intOf];omega
    ·obtain rfl:j=i:=by omega
     go_wp2_with fail
     refine (HOF.out wp HY.out).mono ?_
     rintro e w3 ⟨rfl,hE3⟩
     have HE3:Hid (Ext w w3):=HY.out.trans hE3
     clear hE3 HOF
     obtain ⟨V1,hV1,hX1,hs1,hb1⟩:=boxM w3 (.int .i64 0) (.int .i64 0) (.slice none 0 0)
     have r0:=block_cell hb1
     have f0:=block_free hb1
     have HB1:=Lib.hid (multi_store hb1 (.int .i64 0) (.int .i64 0) (.slice none 0 0))
     have HX1:=Lib.hid (multi_ext (B:=w3.heap.size) hX1 (Nat.le_refl _) (.int .i64 0) (.int .i64 0) (.slice none 0 0))
     obtain ⟨U1,hU1⟩:∃ U,((V1.setCell ⟨w3.heap.size,0,none⟩ (.int .i64 0)).setCell ⟨w3.heap.size,1,none⟩ (.int .i64 0)).setCell ⟨w3.heap.size,2,none⟩ (.slice none 0 0)=U:=⟨_,rfl⟩
     rw [hU1] at HB1 HX1
     clear hX1 hs1 hb1
     have HE4:Hid (Ext w U1):=HE3.out.trans HX1.out
     have s1:=block_cell HB1.out
     go_wp2_with fail
     refine (HNO.out _).mono ?_
     rintro e w5 ⟨rfl,hE5⟩
     have HE5:Hid (Ext w w5):=HE4.out.trans hE5
     clear hE5
     go_wp2_with fail
     go_ret
     exact ⟨rfl,HE5.out⟩
set_option maxRecDepth 100000 in
set_option maxHeartbeats 800000 in
theorem wrows_big (xss:List (List Int)) (d:Int) (v:Value) (w:World) (h:Rows2 w v xss) (h5:xss.length≤5) (hd:12<d) (hlib:LibT w) (hb:4<w.heap.size) :
  Calls Tryz.prog 3 #[v,.int .i64 d] w fun e w'=>e=.returned (.bool true)∧Ext w w':=by
 have HK:=Lib.hid (known10_any w hlib hb)
 have HV:=Lib.hid h
 have HT:=Lib.hid hlib
 have HNO:Hid (∀ W,Calls Tryz.prog 16 #[.agg #[.int .i64 0,.int .i64 0,.slice none 0 0]] W fun e w'=>e=.returned (.bool true)∧Ext W w'):=fun W=>none_yes W
 have HOF:Hid (∀ W,Ext w W→Calls Tryz.prog 15 #[v,.int .i64 d] W fun e w'=>e=.returned (.tuple #[.agg #[.int .i64 0,.int .i64 0,.slice none 0 0],.int .i64 (3)])∧Ext W w'):=fun W hW=>wOf_dim v d (.inr hd) W
 have c7:¬ d≤12:=by omega
 have c8:¬ d<0:=by omega
 have c9:5<d:=by omega
 obtain ⟨a,cap,rfl,h1,h2,-,hc⟩:=inCell.open h
 unfold maxLen at h2
 have HC:=Lib.hid hc
 obtain ⟨k,hk⟩:∃ k,xss.length=k:=⟨_,rfl⟩
 have HKL:=Lib.hid hk
 rw [hk] at h1 h5 ⊢
 (try rw [hk] at HOF)
 (try rw [hk] at HCH)
 (try rw [hk] at HRO)
 have c5:¬ (5:Int)<(k:Int):=by omega
 clear h hc hk hlib hb
 go_enter Tryz.func3,Tryz.ntmps3
 go_wp2_with fail
 refine HK.out.mono ?_
 rintro e w1 ⟨rfl,hE1⟩
 have HE1:=Lib.hid hE1
 clear hE1 HK
 go_wp2_with fail
 go_loopw [6] (fun t wr=>∃ i:Nat,i≤k∧t=.int .i64 (i:Int)∧Hid (Ext w wr)∧Hid (∀ j r,j<i→xss[j]?=some r→r.length≤5)) (fun t _=>k+1-(intOf t).toNat)
 case atStart=>exact ⟨0,by omega,by simp,HE1.out,fun j r hj=>absurd hj (by omega)⟩
 case round =>
  obtain ⟨i,hi,rfl,HX,HL5⟩:=hrel
  obtain ⟨wo,rfl⟩:∃ wo:World,wo=wr:=⟨_,rfl⟩
  by_cases hlt:i<k
  ·obtain ⟨x,hx⟩:∃ x,xss[i]?=some x:=⟨xss[i]'(by rw [HKL.out];exact hlt),List.getElem?_eq_getElem _⟩
   obtain ⟨b,off,rfl,-,hcell⟩:=HC.out (by intro e;rw [e] at hx;simp at hx)
   obtain ⟨vx,hvx,g2⟩:=hcell i x hx
   have z1:=HX.out.cell g2
   obtain ⟨ax,cx,rfl,-⟩:=ListAt.open hvx
   have HXX:=Lib.hid hx
   obtain ⟨lx,hlx⟩:∃ l,x.length=l:=⟨_,rfl⟩
   rw [hlx] at z1
   have HLX:=Lib.hid hlx
   clear hx hcell hvx g2 hlx
   by_cases hl:5<lx
   ·have c6:(5:Int)<(lx:Int):=by omega
    go_wp2_with fail
    go_ret
    exact ⟨rfl,HX.out⟩
   ·have c6:¬ (5:Int)<(lx:Int):=by omega
    go_wp2_with fail
    go_roundw
    case rel=>exact ⟨i+1,by omega,by go_num,HX.out,fun j r hj hr=>by
     by_cases e:j=i
     ·subst e;rw [HXX.out] at hr;cases hr;rw [HLX.out];omega
     ·exact HL5.out j r (by omega) hr⟩
    case measure=>simp [intOf];omega
  ·obtain rfl:i=k:=by omega
   have HALL:Hid (∀ r∈xss,r.length≤5):=fun r hr=>by
    obtain ⟨j,hj⟩:=List.getElem?_of_mem hr
    exact HL5.out j r (by rw [← HKL.out];exact (List.getElem?_eq_some_iff.1 hj).1) hj
   clear HL5 HE1
   go_wp2_with fail
   go_loopw [5,7] (fun s t wr=>∃ j:Nat,j≤i∧t=.int .i64 (j:Int)∧s=.int .i64 3∧Hid (Ext w wr)) (fun _ t _=>i+1-(intOf t).toNat)
   case atStart=>exact ⟨0,by omega,by simp,rfl,HX.out⟩
   case round =>
    obtain ⟨j,hj,rfl,rfl,HY⟩:=hrel
    obtain ⟨wp,rfl⟩:∃ wp:World,wp=wr:=⟨_,rfl⟩
    by_cases hjl:j<i
    ·skip
     go_wp2_with fail
     go_roundw
     case rel=>exact ⟨j+1,by omega,by go_num,rfl,HY.out⟩
     case measure=>simp [intOf];omega
    ·obtain rfl:j=i:=by omega
     go_wp2_with fail
     refine (HOF.out wp HY.out).mono ?_
     rintro e w3 ⟨rfl,hE3⟩
     have HE3:Hid (Ext w w3):=HY.out.trans hE3
     clear hE3 HOF
     obtain ⟨V1,hV1,hX1,hs1,hb1⟩:=boxM w3 (.int .i64 0) (.int .i64 0) (.slice none 0 0)
     have r0:=block_cell hb1
     have f0:=block_free hb1
     have HB1:=Lib.hid (multi_store hb1 (.int .i64 0) (.int .i64 0) (.slice none 0 0))
     have HX1:=Lib.hid (multi_ext (B:=w3.heap.size) hX1 (Nat.le_refl _) (.int .i64 0) (.int .i64 0) (.slice none 0 0))
     obtain ⟨U1,hU1⟩:∃ U,((V1.setCell ⟨w3.heap.size,0,none⟩ (.int .i64 0)).setCell ⟨w3.heap.size,1,none⟩ (.int .i64 0)).setCell ⟨w3.heap.size,2,none⟩ (.slice none 0 0)=U:=⟨_,rfl⟩
     rw [hU1] at HB1 HX1
     clear hX1 hs1 hb1
     have HE4:Hid (Ext w U1):=HE3.out.trans HX1.out
     have s1:=block_cell HB1.out
     go_wp2_with fail
     refine (HNO.out _).mono ?_
     rintro e w5 ⟨rfl,hE5⟩
     have HE5:Hid (Ext w w5):=HE4.out.trans hE5
     clear hE5
     go_wp2_with fail
     go_ret
     exact ⟨rfl,HE5.out⟩
set_option maxRecDepth 100000 in
set_option maxHeartbeats 800000 in
theorem wrows_tab (xss:List (List Int)) (n:Nat) (v:Value) (w:World) (h:Rows2 w v xss) (h5:xss.length≤5) (hn:n≤5) (hE:tabE xss≠0) (hlib:LibT w) (hb:4<w.heap.size) :
  Calls Tryz.prog 3 #[v,.int .i64 (n:Int)] w fun e w'=>e=.returned (.bool true)∧Ext w w':=by
 have HK:=Lib.hid (known10_any w hlib hb)
 have HV:=Lib.hid h
 have HT:=Lib.hid hlib
 have HNO:Hid (∀ W,Calls Tryz.prog 16 #[.agg #[.int .i64 0,.int .i64 0,.slice none 0 0]] W fun e w'=>e=.returned (.bool true)∧Ext W w'):=fun W=>none_yes W
 have HOF:Hid (∀ W,Ext w W→Calls Tryz.prog 15 #[v,.int .i64 (n:Int)] W fun e w'=>e=.returned (.tuple #[.agg #[.int .i64 0,.int .i64 0,.slice none 0 0],.int .i64 (tabE xss)])∧Ext W w'):=fun W hW=>wOf_tab xss n v W (h.ext hW) hE (by omega)
 have HCH:Hid (∀ W,Ext w W→Calls Tryz.prog 14 #[v] W fun e w'=>e=.returned (.int .i64 (tabE xss))∧Ext W w'):=fun W hW=>refCheck_any xss v W (h.ext hW)
 have c7:¬ (5:Int)<(n:Int):=by omega
 have c8:¬ (n:Int)<0:=by omega
 have c9:¬ (12:Int)<(n:Int):=by omega
 obtain ⟨E,hEE⟩:∃ E,tabE xss=E:=⟨_,rfl⟩
 rw [hEE] at HOF HCH hE
 have e0:(E == 0)=false:=by simp [hE]
 have e1:(E != 0)=true:=by simp [hE]
 clear hEE
 obtain ⟨a,cap,rfl,h1,h2,-,hc⟩:=inCell.open h
 unfold maxLen at h2
 have HC:=Lib.hid hc
 obtain ⟨k,hk⟩:∃ k,xss.length=k:=⟨_,rfl⟩
 have HKL:=Lib.hid hk
 rw [hk] at h1 h5 ⊢
 (try rw [hk] at HOF)
 (try rw [hk] at HCH)
 (try rw [hk] at HRO)
 have c5:¬ (5:Int)<(k:Int):=by omega
 clear h hc hk hlib hb
 go_enter Tryz.func3,Tryz.ntmps3
 go_wp2_with fail
 refine HK.out.mono ?_
 rintro e w1 ⟨rfl,hE1⟩
 have HE1:=Lib.hid hE1
 clear hE1 HK
 go_wp2_with fail
 go_loopw [6] (fun t wr=>∃ i:Nat,i≤k∧t=.int .i64 (i:Int)∧Hid (Ext w wr)∧Hid (∀ j r,j<i→xss[j]?=some r→r.length≤5)) (fun t _=>k+1-(intOf t).toNat)
 case atStart=>exact ⟨0,by omega,by simp,HE1.out,fun j r hj=>absurd hj (by omega)⟩
 case round =>
  obtain ⟨i,hi,rfl,HX,HL5⟩:=hrel
  obtain ⟨wo,rfl⟩:∃ wo:World,wo=wr:=⟨_,rfl⟩
  by_cases hlt:i<k
  ·obtain ⟨x,hx⟩:∃ x,xss[i]?=some x:=⟨xss[i]'(by rw [HKL.out];exact hlt),List.getElem?_eq_getElem _⟩
   obtain ⟨b,off,rfl,-,hcell⟩:=HC.out (by intro e;rw [e] at hx;simp at hx)
   obtain ⟨vx,hvx,g2⟩:=hcell i x hx
   have z1:=HX.out.cell g2
   obtain ⟨ax,cx,rfl,-⟩:=ListAt.open hvx
   have HXX:=Lib.hid hx
   obtain ⟨lx,hlx⟩:∃ l,x.length=l:=⟨_,rfl⟩
   rw [hlx] at z1
   have HLX:=Lib.hid hlx
   clear hx hcell hvx g2 hlx
   by_cases hl:5<lx
   ·have c6:(5:Int)<(lx:Int):=by omega
    go_wp2_with fail
    go_ret
    exact ⟨rfl,HX.out⟩
   ·have c6:¬ (5:Int)<(lx:Int):=by omega
    go_wp2_with fail
    go_roundw
    case rel=>exact ⟨i+1,by omega,by go_num,HX.out,fun j r hj hr=>by
     by_cases e:j=i
     ·subst e;rw [HXX.out] at hr;cases hr;rw [HLX.out];omega
     ·exact HL5.out j r (by omega) hr⟩
    case measure=>simp [intOf];omega
  ·obtain rfl:i=k:=by omega
   have HALL:Hid (∀ r∈xss,r.length≤5):=fun r hr=>by
    obtain ⟨j,hj⟩:=List.getElem?_of_mem hr
    exact HL5.out j r (by rw [← HKL.out];exact (List.getElem?_eq_some_iff.1 hj).1) hj
   clear HL5 HE1
   go_wp2_with fail
   refine (HCH.out wo HX.out).mono ?_
   rintro e w2 ⟨rfl,hE2⟩
   have HE2:=Lib.hid (HX.out.trans hE2)
   clear hE2 HCH
   go_wp2_with fail
   go_loopw [5,7] (fun s t wr=>∃ j:Nat,j≤i∧t=.int .i64 (j:Int)∧s=.int .i64 E∧Hid (Ext w wr)) (fun _ t _=>i+1-(intOf t).toNat)
   case atStart=>exact ⟨0,by omega,by simp,rfl,HE2.out⟩
   case round =>
    obtain ⟨j,hj,rfl,rfl,HY⟩:=hrel
    obtain ⟨wp,rfl⟩:∃ wp:World,wp=wr:=⟨_,rfl⟩
    by_cases hjl:j<i
    ·skip
     go_wp2_with fail
     go_roundw
     case rel=>exact ⟨j+1,by omega,by go_num,rfl,HY.out⟩
     case measure=>simp [intOf];omega
    ·obtain rfl:j=i:=by omega
     go_wp2_with fail
     refine (HOF.out wp HY.out).mono ?_
     rintro e w3 ⟨rfl,hE3⟩
     have HE3:Hid (Ext w w3):=HY.out.trans hE3
     clear hE3 HOF
     obtain ⟨V1,hV1,hX1,hs1,hb1⟩:=boxM w3 (.int .i64 0) (.int .i64 0) (.slice none 0 0)
     have r0:=block_cell hb1
     have f0:=block_free hb1
     have HB1:=Lib.hid (multi_store hb1 (.int .i64 0) (.int .i64 0) (.slice none 0 0))
     have HX1:=Lib.hid (multi_ext (B:=w3.heap.size) hX1 (Nat.le_refl _) (.int .i64 0) (.int .i64 0) (.slice none 0 0))
     obtain ⟨U1,hU1⟩:∃ U,((V1.setCell ⟨w3.heap.size,0,none⟩ (.int .i64 0)).setCell ⟨w3.heap.size,1,none⟩ (.int .i64 0)).setCell ⟨w3.heap.size,2,none⟩ (.slice none 0 0)=U:=⟨_,rfl⟩
     rw [hU1] at HB1 HX1
     clear hX1 hs1 hb1
     have HE4:Hid (Ext w U1):=HE3.out.trans HX1.out
     have s1:=block_cell HB1.out
     go_wp2_with fail
     refine (HNO.out _).mono ?_
     rintro e w5 ⟨rfl,hE5⟩
     have HE5:Hid (Ext w w5):=HE4.out.trans hE5
     clear hE5
     go_wp2_with fail
     go_ret
     exact ⟨rfl,HE5.out⟩
set_option maxRecDepth 100000 in
set_option maxHeartbeats 800000 in
theorem wrows_size (xss:List (List Int)) (n m:Nat) (v:Value) (w:World) (h:Rows2 w v xss) (h5:xss.length≤5) (hn:n≤5) (hE:tabE xss=0) (hx:xss≠[]) (hm:∀ r∈xss,r.length=m) (hmn:m≠n) (hlib:LibT w) (hb:4<w.heap.size) :
  Calls Tryz.prog 3 #[v,.int .i64 (n:Int)] w fun e w'=>e=.returned (.bool true)∧Ext w w':=by
 have HK:=Lib.hid (known10_any w hlib hb)
 have HV:=Lib.hid h
 have HT:=Lib.hid hlib
 have HNO:Hid (∀ W,Calls Tryz.prog 16 #[.agg #[.int .i64 0,.int .i64 0,.slice none 0 0]] W fun e w'=>e=.returned (.bool true)∧Ext W w'):=fun W=>none_yes W
 have HOF:Hid (∀ W,Ext w W→Calls Tryz.prog 15 #[v,.int .i64 (n:Int)] W fun e w'=>e=.returned (.tuple #[.agg #[.int .i64 0,.int .i64 0,.slice none 0 0],.int .i64 (5)])∧Ext W w'):=fun W hW=>wOf_size xss n m v W (h.ext hW) hE (by omega) hx hm hmn
 have HCH:Hid (∀ W,Ext w W→Calls Tryz.prog 14 #[v] W fun e w'=>e=.returned (.int .i64 (0))∧Ext W w'):=fun W hW=>by
  have h9:=refCheck_any xss v W (h.ext hW)
  rw [hE] at h9;exact h9
 have c7:¬ (5:Int)<(n:Int):=by omega
 have c8:¬ (n:Int)<0:=by omega
 have c9:¬ (12:Int)<(n:Int):=by omega
 have HLN:Hid (∀ r∈xss,r.length=m):=hm
 have e5:((m:Int) != (n:Int))=true:=by simp;omega
 have HXP:Hid (0<xss.length):=List.length_pos_iff.2 hx
 clear hx hm hmn hE
 obtain ⟨a,cap,rfl,h1,h2,-,hc⟩:=inCell.open h
 unfold maxLen at h2
 have HC:=Lib.hid hc
 obtain ⟨k,hk⟩:∃ k,xss.length=k:=⟨_,rfl⟩
 have HKL:=Lib.hid hk
 rw [hk] at h1 h5 ⊢
 (try rw [hk] at HOF)
 (try rw [hk] at HCH)
 (try rw [hk] at HRO)
 have c5:¬ (5:Int)<(k:Int):=by omega
 clear h hc hk hlib hb
 go_enter Tryz.func3,Tryz.ntmps3
 go_wp2_with fail
 refine HK.out.mono ?_
 rintro e w1 ⟨rfl,hE1⟩
 have HE1:=Lib.hid hE1
 clear hE1 HK
 go_wp2_with fail
 go_loopw [6] (fun t wr=>∃ i:Nat,i≤k∧t=.int .i64 (i:Int)∧Hid (Ext w wr)∧Hid (∀ j r,j<i→xss[j]?=some r→r.length≤5)) (fun t _=>k+1-(intOf t).toNat)
 case atStart=>exact ⟨0,by omega,by simp,HE1.out,fun j r hj=>absurd hj (by omega)⟩
 case round =>
  obtain ⟨i,hi,rfl,HX,HL5⟩:=hrel
  obtain ⟨wo,rfl⟩:∃ wo:World,wo=wr:=⟨_,rfl⟩
  by_cases hlt:i<k
  ·obtain ⟨x,hx⟩:∃ x,xss[i]?=some x:=⟨xss[i]'(by rw [HKL.out];exact hlt),List.getElem?_eq_getElem _⟩
   obtain ⟨b,off,rfl,-,hcell⟩:=HC.out (by intro e;rw [e] at hx;simp at hx)
   obtain ⟨vx,hvx,g2⟩:=hcell i x hx
   have z1:=HX.out.cell g2
   obtain ⟨ax,cx,rfl,-⟩:=ListAt.open hvx
   have HXX:=Lib.hid hx
   obtain ⟨lx,hlx⟩:∃ l,x.length=l:=⟨_,rfl⟩
   rw [hlx] at z1
   have HLX:=Lib.hid hlx
   clear hx hcell hvx g2 hlx
   by_cases hl:5<lx
   ·have c6:(5:Int)<(lx:Int):=by omega
    go_wp2_with fail
    go_ret
    exact ⟨rfl,HX.out⟩
   ·have c6:¬ (5:Int)<(lx:Int):=by omega
    go_wp2_with fail
    go_roundw
    case rel=>exact ⟨i+1,by omega,by go_num,HX.out,fun j r hj hr=>by
     by_cases e:j=i
     ·subst e;rw [HXX.out] at hr;cases hr;rw [HLX.out];omega
     ·exact HL5.out j r (by omega) hr⟩
    case measure=>simp [intOf];omega
  ·obtain rfl:i=k:=by omega
   have HALL:Hid (∀ r∈xss,r.length≤5):=fun r hr=>by
    obtain ⟨j,hj⟩:=List.getElem?_of_mem hr
    exact HL5.out j r (by rw [← HKL.out];exact (List.getElem?_eq_some_iff.1 hj).1) hj
   clear HL5 HE1
   go_wp2_with fail
   refine (HCH.out wo HX.out).mono ?_
   rintro e w2 ⟨rfl,hE2⟩
   have HE2:=Lib.hid (HX.out.trans hE2)
   clear hE2 HCH
   go_wp2_with fail
   go_loopw [5,7] (fun s t wr=>∃ j:Nat,j≤i∧t=.int .i64 (j:Int)∧s=.int .i64 (if j=0 then 0 else 5)∧Hid (Ext w wr)) (fun _ t _=>i+1-(intOf t).toNat)
   case atStart=>exact ⟨0,by omega,by simp,rfl,HE2.out⟩
   case round =>
    obtain ⟨j,hj,rfl,hs,HY⟩:=hrel
    obtain ⟨wp,rfl⟩:∃ wp:World,wp=wr:=⟨_,rfl⟩
    by_cases hjl:j<i
    ·by_cases hj0:j=0
     ·obtain rfl:u5=.int .i64 0:=by rw [hs,if_pos hj0]
      clear hs hj0
      obtain ⟨x,hx⟩:∃ x,xss[j]?=some x:=⟨xss[j]'(by rw [HKL.out];exact hjl),List.getElem?_eq_getElem _⟩
      obtain ⟨b,off,rfl,-,hcell⟩:=HC.out (by intro e;rw [e] at hx;simp at hx)
      obtain ⟨vx,hvx,g2⟩:=hcell j x hx
      have z1:=HY.out.cell g2
      obtain ⟨ax,cx,rfl,-⟩:=ListAt.open hvx
      have hlx:=HLN.out x (List.mem_of_getElem? hx)
      rw [hlx] at z1
      clear hx hcell hvx g2 hlx
      go_wp2_with fail
      go_roundw
      case rel=>exact ⟨j+1,by omega,by go_num,by rw [if_neg (by omega)],HY.out⟩
      case measure=>simp [intOf];omega
     ·obtain rfl:u5=.int .i64 5:=by rw [hs,if_neg hj0]
      clear hs hj0
      go_wp2_with fail
      go_roundw
      case rel=>exact ⟨j+1,by omega,by go_num,by rw [if_neg (by omega)],HY.out⟩
      case measure=>simp [intOf];omega
    ·obtain rfl:j=i:=by omega
     obtain rfl:u5=.int .i64 5:=by rw [hs,if_neg (by have:=HXP.out;have:=HKL.out;omega)]
     clear hs
     go_wp2_with fail
     refine (HOF.out wp HY.out).mono ?_
     rintro e w3 ⟨rfl,hE3⟩
     have HE3:Hid (Ext w w3):=HY.out.trans hE3
     clear hE3 HOF
     obtain ⟨V1,hV1,hX1,hs1,hb1⟩:=boxM w3 (.int .i64 0) (.int .i64 0) (.slice none 0 0)
     have r0:=block_cell hb1
     have f0:=block_free hb1
     have HB1:=Lib.hid (multi_store hb1 (.int .i64 0) (.int .i64 0) (.slice none 0 0))
     have HX1:=Lib.hid (multi_ext (B:=w3.heap.size) hX1 (Nat.le_refl _) (.int .i64 0) (.int .i64 0) (.slice none 0 0))
     obtain ⟨U1,hU1⟩:∃ U,((V1.setCell ⟨w3.heap.size,0,none⟩ (.int .i64 0)).setCell ⟨w3.heap.size,1,none⟩ (.int .i64 0)).setCell ⟨w3.heap.size,2,none⟩ (.slice none 0 0)=U:=⟨_,rfl⟩
     rw [hU1] at HB1 HX1
     clear hX1 hs1 hb1
     have HE4:Hid (Ext w U1):=HE3.out.trans HX1.out
     have s1:=block_cell HB1.out
     go_wp2_with fail
     refine (HNO.out _).mono ?_
     rintro e w5 ⟨rfl,hE5⟩
     have HE5:Hid (Ext w w5):=HE4.out.trans hE5
     clear hE5
     go_wp2_with fail
     go_ret
     exact ⟨rfl,HE5.out⟩
set_option maxRecDepth 100000 in
set_option maxHeartbeats 800000 in
theorem wrows_many (xss:List (List Int)) (n:Nat) (v:Value) (w:World) (h:Rows2 w v xss) (h5:xss.length≤5) (hn:n≤5) (hE:tabE xss=0) (hm:∀ r∈xss,r.length=n) (hk:n<xss.length) (hlib:LibT w) (hb:4<w.heap.size) :
  Calls Tryz.prog 3 #[v,.int .i64 (n:Int)] w fun e w'=>e=.returned (.bool true)∧Ext w w':=by
 have HK:=Lib.hid (known10_any w hlib hb)
 have HV:=Lib.hid h
 have HT:=Lib.hid hlib
 have HNO:Hid (∀ W,Calls Tryz.prog 16 #[.agg #[.int .i64 0,.int .i64 0,.slice none 0 0]] W fun e w'=>e=.returned (.bool true)∧Ext W w'):=fun W=>none_yes W
 have HOF:Hid (∀ W,Ext w W→Calls Tryz.prog 15 #[v,.int .i64 (n:Int)] W fun e w'=>e=.returned (.tuple #[.agg #[.int .i64 0,.int .i64 0,.slice none 0 0],.int .i64 (3)])∧Ext W w'):=fun W hW=>wOf_many xss n v W (h.ext hW) hE (by omega) hm hk
 have HCH:Hid (∀ W,Ext w W→Calls Tryz.prog 14 #[v] W fun e w'=>e=.returned (.int .i64 (0))∧Ext W w'):=fun W hW=>by
  have h9:=refCheck_any xss v W (h.ext hW)
  rw [hE] at h9;exact h9
 have c7:¬ (5:Int)<(n:Int):=by omega
 have c8:¬ (n:Int)<0:=by omega
 have c9:¬ (12:Int)<(n:Int):=by omega
 have HLN:Hid (∀ r∈xss,r.length=n):=hm
 have HNK:=Lib.hid hk
 clear hm hE hk
 obtain ⟨a,cap,rfl,h1,h2,-,hc⟩:=inCell.open h
 unfold maxLen at h2
 have HC:=Lib.hid hc
 obtain ⟨k,hk⟩:∃ k,xss.length=k:=⟨_,rfl⟩
 have HKL:=Lib.hid hk
 rw [hk] at h1 h5 ⊢
 (try rw [hk] at HOF)
 (try rw [hk] at HCH)
 (try rw [hk] at HRO)
 have c5:¬ (5:Int)<(k:Int):=by omega
 clear h hc hk hlib hb
 go_enter Tryz.func3,Tryz.ntmps3
 go_wp2_with fail
 refine HK.out.mono ?_
 rintro e w1 ⟨rfl,hE1⟩
 have HE1:=Lib.hid hE1
 clear hE1 HK
 go_wp2_with fail
 go_loopw [6] (fun t wr=>∃ i:Nat,i≤k∧t=.int .i64 (i:Int)∧Hid (Ext w wr)∧Hid (∀ j r,j<i→xss[j]?=some r→r.length≤5)) (fun t _=>k+1-(intOf t).toNat)
 case atStart=>exact ⟨0,by omega,by simp,HE1.out,fun j r hj=>absurd hj (by omega)⟩
 case round =>
  obtain ⟨i,hi,rfl,HX,HL5⟩:=hrel
  obtain ⟨wo,rfl⟩:∃ wo:World,wo=wr:=⟨_,rfl⟩
  by_cases hlt:i<k
  ·obtain ⟨x,hx⟩:∃ x,xss[i]?=some x:=⟨xss[i]'(by rw [HKL.out];exact hlt),List.getElem?_eq_getElem _⟩
   obtain ⟨b,off,rfl,-,hcell⟩:=HC.out (by intro e;rw [e] at hx;simp at hx)
   obtain ⟨vx,hvx,g2⟩:=hcell i x hx
   have z1:=HX.out.cell g2
   obtain ⟨ax,cx,rfl,-⟩:=ListAt.open hvx
   have HXX:=Lib.hid hx
   obtain ⟨lx,hlx⟩:∃ l,x.length=l:=⟨_,rfl⟩
   rw [hlx] at z1
   have HLX:=Lib.hid hlx
   clear hx hcell hvx g2 hlx
   by_cases hl:5<lx
   ·have c6:(5:Int)<(lx:Int):=by omega
    go_wp2_with fail
    go_ret
    exact ⟨rfl,HX.out⟩
   ·have c6:¬ (5:Int)<(lx:Int):=by omega
    go_wp2_with fail
    go_roundw
    case rel=>exact ⟨i+1,by omega,by go_num,HX.out,fun j r hj hr=>by
     by_cases e:j=i
     ·subst e;rw [HXX.out] at hr;cases hr;rw [HLX.out];omega
     ·exact HL5.out j r (by omega) hr⟩
    case measure=>simp [intOf];omega
  ·obtain rfl:i=k:=by omega
   have HALL:Hid (∀ r∈xss,r.length≤5):=fun r hr=>by
    obtain ⟨j,hj⟩:=List.getElem?_of_mem hr
    exact HL5.out j r (by rw [← HKL.out];exact (List.getElem?_eq_some_iff.1 hj).1) hj
   clear HL5 HE1
   go_wp2_with fail
   refine (HCH.out wo HX.out).mono ?_
   rintro e w2 ⟨rfl,hE2⟩
   have HE2:=Lib.hid (HX.out.trans hE2)
   clear hE2 HCH
   go_wp2_with fail
   go_loopw [5,7] (fun s t wr=>∃ j:Nat,j≤i∧t=.int .i64 (j:Int)∧s=.int .i64 0∧Hid (Ext w wr)) (fun _ t _=>i+1-(intOf t).toNat)
   case atStart=>exact ⟨0,by omega,by simp,rfl,HE2.out⟩
   case round =>
    obtain ⟨j,hj,rfl,rfl,HY⟩:=hrel
    obtain ⟨wp,rfl⟩:∃ wp:World,wp=wr:=⟨_,rfl⟩
    by_cases hjl:j<i
    ·skip
     obtain ⟨x,hx⟩:∃ x,xss[j]?=some x:=⟨xss[j]'(by rw [HKL.out];exact hjl),List.getElem?_eq_getElem _⟩
     obtain ⟨b,off,rfl,-,hcell⟩:=HC.out (by intro e;rw [e] at hx;simp at hx)
     obtain ⟨vx,hvx,g2⟩:=hcell j x hx
     have z1:=HY.out.cell g2
     obtain ⟨ax,cx,rfl,-⟩:=ListAt.open hvx
     have hlx:=HLN.out x (List.mem_of_getElem? hx)
     rw [hlx] at z1
     clear hx hcell hvx g2 hlx
     go_wp2_with fail
     go_roundw
     case rel=>exact ⟨j+1,by omega,by go_num,rfl,HY.out⟩
     case measure=>simp [intOf];omega
    ·obtain rfl:j=i:=by omega
     have c10:(n:Int)<(j:Int):=by have:=HNK.out;have:=HKL.out;omega
     go_wp2_with fail
     refine (HOF.out wp HY.out).mono ?_
     rintro e w3 ⟨rfl,hE3⟩
     have HE3:Hid (Ext w w3):=HY.out.trans hE3
     clear hE3 HOF
     obtain ⟨V1,hV1,hX1,hs1,hb1⟩:=boxM w3 (.int .i64 0) (.int .i64 0) (.slice none 0 0)
     have r0:=block_cell hb1
     have f0:=block_free hb1
     have HB1:=Lib.hid (multi_store hb1 (.int .i64 0) (.int .i64 0) (.slice none 0 0))
     have HX1:=Lib.hid (multi_ext (B:=w3.heap.size) hX1 (Nat.le_refl _) (.int .i64 0) (.int .i64 0) (.slice none 0 0))
     obtain ⟨U1,hU1⟩:∃ U,((V1.setCell ⟨w3.heap.size,0,none⟩ (.int .i64 0)).setCell ⟨w3.heap.size,1,none⟩ (.int .i64 0)).setCell ⟨w3.heap.size,2,none⟩ (.slice none 0 0)=U:=⟨_,rfl⟩
     rw [hU1] at HB1 HX1
     clear hX1 hs1 hb1
     have HE4:Hid (Ext w U1):=HE3.out.trans HX1.out
     have s1:=block_cell HB1.out
     go_wp2_with fail
     refine (HNO.out _).mono ?_
     rintro e w5 ⟨rfl,hE5⟩
     have HE5:Hid (Ext w w5):=HE4.out.trans hE5
     clear hE5
     go_wp2_with fail
     go_ret
     exact ⟨rfl,HE5.out⟩
set_option maxRecDepth 100000 in
set_option maxHeartbeats 800000 in
theorem wrows_ok (xss:List (List Int)) (n:Nat) (v:Value) (w:World) (h:Rows2 w v xss) (h5:xss.length≤5) (hn:n≤5) (hE:tabE xss=0) (hm:∀ r∈xss,r.length=n) (hk:xss.length≤n) (hlib:LibT w) (hb:4<w.heap.size) :
  Calls Tryz.prog 3 #[v,.int .i64 (n:Int)] w fun e w'=>e=.returned (.bool true)∧Ext w w':=by
 have HK:=Lib.hid (known10_any w hlib hb)
 have HV:=Lib.hid h
 have HT:=Lib.hid hlib
 have HOF:Hid (∀ W,Ext w W→Calls Tryz.prog 15 #[v,.int .i64 (n:Int)] W fun e w'=>∃ a c,e=.returned (.tuple #[.agg #[.int .i64 n,.int .i64 xss.length,.slice a (minorsS xss xss.length).length c],.int .i64 0])∧ListAt 1 numC w' (.slice a (minorsS xss xss.length).length c) (minorsS xss xss.length)∧Ext W w'):=fun W hW=>by
  have hcl:xss.length≤colsN xss∧colsN xss<6∨xss=[]:=by
   cases xss with
   | nil=>exact .inr rfl
   | cons r l=>exact .inl (by show _≤r.length∧r.length<6;rw [hm r (List.mem_cons_self ..)];omega)
  have hc0:xss.length≤colsN xss∧chooseS xss.length xss.length*chooseS (colsN xss) xss.length≤1000:=by
   rcases hcl with ⟨h1,h2⟩ | h1
   ·exact ⟨h1,chooseS5 _ (by omega) _ h2⟩
   ·rw [h1];exact ⟨Nat.zero_le _,by decide⟩
  refine (wOf_any xss n _ v W (h.ext hW) hE (by omega) hk hm (fun W' hW'=>minors_any xss xss.length v W' (h.ext (hW.trans hW')) hE (Nat.le_refl _) hc0.1 hc0.2 (minors_small hE (Nat.le_refl _) hc0.1) (hlib.pow.ext (hW.trans hW')))).mono fun e w' ⟨u,h1,h2,h3⟩=>?_
  obtain ⟨a,c,rfl,h4⟩:=multi_open h3
  exact ⟨a,c,h1,h4,h2⟩
 have HRO:Hid (∀ W,Ext w W→Calls Tryz.prog 19 #[v,.int .i64 (n:Int)] W fun e w'=>∃ a c,e=.returned (.agg #[.int .i64 n,.int .i64 xss.length,.slice a (minorsS xss xss.length).length c])∧ListAt 1 numC w' (.slice a (minorsS xss xss.length).length c) (minorsS xss xss.length)∧Ext W w'):=fun W hW=>refOf10_any xss n v W (h.ext hW) hE hm hk (hlib.pow.ext hW)
 have HCH:Hid (∀ W,Ext w W→Calls Tryz.prog 14 #[v] W fun e w'=>e=.returned (.int .i64 (0))∧Ext W w'):=fun W hW=>by
  have h9:=refCheck_any xss v W (h.ext hW)
  rw [hE] at h9;exact h9
 have c7:¬ (5:Int)<(n:Int):=by omega
 have c8:¬ (n:Int)<0:=by omega
 have c9:¬ (12:Int)<(n:Int):=by omega
 have HLN:Hid (∀ r∈xss,r.length=n):=hm
 have HNK:=Lib.hid hk
 obtain ⟨MS,hMS⟩:∃ M,minorsS xss xss.length=M:=⟨_,rfl⟩
 obtain ⟨lm,hlm⟩:∃ l,MS.length=l:=⟨_,rfl⟩
 rw [hMS,hlm] at HOF HRO
 obtain ⟨kk,hkk⟩:∃ l,xss.length=l:=⟨_,rfl⟩
 rw [hkk] at HOF HRO
 have HKK:=Lib.hid hkk
 have HSA:Hid (∀ (W:World) (a:Option Addr) (c:Nat) (b:Option Addr) (e:Nat),ListAt 1 numC W (.slice a lm c) MS→ListAt 1 numC W (.slice b lm e) MS→Calls Tryz.prog 17 #[.agg #[.int .i64 n,.int .i64 kk,.slice a lm c],.agg #[.int .i64 n,.int .i64 kk,.slice b lm e]] W fun e w'=>e=.returned (.bool true)∧Ext W w'):=fun W a c b e h1 h2=>by
  have h9:=sameM_any n kk MS n kk MS _ _ W ⟨_,rfl,h1⟩ ⟨_,rfl,h2⟩
  rw [show equalM n kk MS n kk MS=true by unfold equalM;simp] at h9
  exact h9
 clear hm hE hk hMS hlm hkk
 obtain ⟨a,cap,rfl,h1,h2,-,hc⟩:=inCell.open h
 unfold maxLen at h2
 have HC:=Lib.hid hc
 obtain ⟨k,hk⟩:∃ k,xss.length=k:=⟨_,rfl⟩
 have HKL:=Lib.hid hk
 rw [hk] at h1 h5 ⊢
 (try rw [hk] at HOF)
 (try rw [hk] at HCH)
 (try rw [hk] at HRO)
 have c5:¬ (5:Int)<(k:Int):=by omega
 clear h hc hk hlib hb
 go_enter Tryz.func3,Tryz.ntmps3
 go_wp2_with fail
 refine HK.out.mono ?_
 rintro e w1 ⟨rfl,hE1⟩
 have HE1:=Lib.hid hE1
 clear hE1 HK
 go_wp2_with fail
 go_loopw [6] (fun t wr=>∃ i:Nat,i≤k∧t=.int .i64 (i:Int)∧Hid (Ext w wr)∧Hid (∀ j r,j<i→xss[j]?=some r→r.length≤5)) (fun t _=>k+1-(intOf t).toNat)
 case atStart=>exact ⟨0,by omega,by simp,HE1.out,fun j r hj=>absurd hj (by omega)⟩
 case round =>
  obtain ⟨i,hi,rfl,HX,HL5⟩:=hrel
  obtain ⟨wo,rfl⟩:∃ wo:World,wo=wr:=⟨_,rfl⟩
  by_cases hlt:i<k
  ·obtain ⟨x,hx⟩:∃ x,xss[i]?=some x:=⟨xss[i]'(by rw [HKL.out];exact hlt),List.getElem?_eq_getElem _⟩
   obtain ⟨b,off,rfl,-,hcell⟩:=HC.out (by intro e;rw [e] at hx;simp at hx)
   obtain ⟨vx,hvx,g2⟩:=hcell i x hx
   have z1:=HX.out.cell g2
   obtain ⟨ax,cx,rfl,-⟩:=ListAt.open hvx
   have HXX:=Lib.hid hx
   obtain ⟨lx,hlx⟩:∃ l,x.length=l:=⟨_,rfl⟩
   rw [hlx] at z1
   have HLX:=Lib.hid hlx
   clear hx hcell hvx g2 hlx
   by_cases hl:5<lx
   ·have c6:(5:Int)<(lx:Int):=by omega
    go_wp2_with fail
    go_ret
    exact ⟨rfl,HX.out⟩
   ·have c6:¬ (5:Int)<(lx:Int):=by omega
    go_wp2_with fail
    go_roundw
    case rel=>exact ⟨i+1,by omega,by go_num,HX.out,fun j r hj hr=>by
     by_cases e:j=i
     ·subst e;rw [HXX.out] at hr;cases hr;rw [HLX.out];omega
     ·exact HL5.out j r (by omega) hr⟩
    case measure=>simp [intOf];omega
  ·obtain rfl:i=k:=by omega
   have HALL:Hid (∀ r∈xss,r.length≤5):=fun r hr=>by
    obtain ⟨j,hj⟩:=List.getElem?_of_mem hr
    exact HL5.out j r (by rw [← HKL.out];exact (List.getElem?_eq_some_iff.1 hj).1) hj
   clear HL5 HE1
   go_wp2_with fail
   refine (HCH.out wo HX.out).mono ?_
   rintro e w2 ⟨rfl,hE2⟩
   have HE2:=Lib.hid (HX.out.trans hE2)
   clear hE2 HCH
   go_wp2_with fail
   go_loopw [5,7] (fun s t wr=>∃ j:Nat,j≤i∧t=.int .i64 (j:Int)∧s=.int .i64 0∧Hid (Ext w wr)) (fun _ t _=>i+1-(intOf t).toNat)
   case atStart=>exact ⟨0,by omega,by simp,rfl,HE2.out⟩
   case round =>
    obtain ⟨j,hj,rfl,rfl,HY⟩:=hrel
    obtain ⟨wp,rfl⟩:∃ wp:World,wp=wr:=⟨_,rfl⟩
    by_cases hjl:j<i
    ·skip
     obtain ⟨x,hx⟩:∃ x,xss[j]?=some x:=⟨xss[j]'(by rw [HKL.out];exact hjl),List.getElem?_eq_getElem _⟩
     obtain ⟨b,off,rfl,-,hcell⟩:=HC.out (by intro e;rw [e] at hx;simp at hx)
     obtain ⟨vx,hvx,g2⟩:=hcell j x hx
     have z1:=HY.out.cell g2
     obtain ⟨ax,cx,rfl,-⟩:=ListAt.open hvx
     have hlx:=HLN.out x (List.mem_of_getElem? hx)
     rw [hlx] at z1
     clear hx hcell hvx g2 hlx
     go_wp2_with fail
     go_roundw
     case rel=>exact ⟨j+1,by omega,by go_num,rfl,HY.out⟩
     case measure=>simp [intOf];omega
    ·obtain rfl:j=i:=by omega
     have hkj:kk=j:=by rw [← HKK.out];exact HKL.out
     subst hkj
     have c10:¬ (n:Int)<(kk:Int):=by have:=HNK.out;have:=HKL.out;omega
     go_wp2_with fail
     refine (HOF.out wp HY.out).mono ?_
     rintro e w3 ⟨a3,c3,rfl,hR3,hE3⟩
     have HE3:Hid (Ext w w3):=HY.out.trans hE3
     have HR3:=Lib.hid hR3
     clear hE3 hR3 HOF
     obtain ⟨V1,hV1,hX1,hs1,hb1⟩:=boxM w3 (.int .i64 0) (.int .i64 0) (.slice none 0 0)
     have r0:=block_cell hb1
     have f0:=block_free hb1
     have HB1:=Lib.hid (multi_store hb1 (.int .i64 n) (.int .i64 kk) (.slice a3 lm c3))
     have HX1:=Lib.hid (multi_ext (B:=w3.heap.size) hX1 (Nat.le_refl _) (.int .i64 n) (.int .i64 kk) (.slice a3 lm c3))
     obtain ⟨U1,hU1⟩:∃ U,((V1.setCell ⟨w3.heap.size,0,none⟩ (.int .i64 n)).setCell ⟨w3.heap.size,1,none⟩ (.int .i64 kk)).setCell ⟨w3.heap.size,2,none⟩ (.slice a3 lm c3)=U:=⟨_,rfl⟩
     rw [hU1] at HB1 HX1
     clear hX1 hs1 hb1
     have HE4:Hid (Ext w U1):=HE3.out.trans HX1.out
     have HRU:=Lib.hid (ListAt.ext numC.mono' HR3.out HX1.out)
     have d0:=block_cell HB1.out 0;have d1:=block_cell HB1.out 1;have d2:=block_cell HB1.out 2
     simp only [List.getElem?_toArray,List.getElem?_cons_succ,List.getElem?_cons_zero] at d0 d1 d2
     go_upto_region 23 with fail
     clear hU1 hV1 r0 f0
     refine region_anyEV (fun w'=>w'.cell? ⟨w3.heap.size,0,none⟩=some (.int .i64 n)∧w'.cell? ⟨w3.heap.size,1,none⟩=some (.int .i64 kk)∧w'.cell? ⟨w3.heap.size,2,none⟩=some (.slice a3 lm c3)∧Hid (Ext U1 w')) 11 11 (by kernel_rfl) (by kernel_rfl) ⟨(Ext.drew U1).cell d0,(Ext.drew U1).cell d1,(Ext.drew U1).cell d2,Ext.drew U1⟩ (fun ops hO hHeld=>?_)
     have hi:=getopN hO 0 (by decide)
     conv at hi=>rhs;arg 1;whnf
     refine anyE_takeWV hO (v:=?_) 0 hi (by kernel_rfl) (by kernel_rfl) (by kernel_rfl) (by kernel_rfl) (fun _ _ _ h=>h) (Or.inl ⟨by rfl,?_⟩) (by assumption) ?_
     rotate_left
     ·((intro w');(try go_simp);(try with_reducible rfl))
     clear hi
     (try simp only [Act.put,List.setIfInBounds_toArray,List.set_cons_zero,List.set_cons_succ])
     have hi:=getopN hO 1 (by decide)
     conv at hi=>rhs;arg 1;whnf
     refine anyE_takeWV hO (v:=?_) 1 hi (by kernel_rfl) (by kernel_rfl) (by kernel_rfl) (by kernel_rfl) (fun _ _ _ h=>h) (Or.inl ⟨by rfl,?_⟩) (by assumption) ?_
     rotate_left
     ·((intro w');(try go_simp);(try with_reducible rfl))
     clear hi
     (try simp only [Act.put,List.setIfInBounds_toArray,List.set_cons_zero,List.set_cons_succ])
     have hi:=getopN hO 2 (by decide)
     conv at hi=>rhs;arg 1;whnf
     refine anyE_takeWV hO (v:=?_) 2 hi (by kernel_rfl) (by kernel_rfl) (by kernel_rfl) (by kernel_rfl) (fun _ _ _ h=>h) (Or.inl ⟨by rfl,?_⟩) (by assumption) ?_
     rotate_left
     ·((intro w');(try go_simp);(try with_reducible rfl))
     clear hi
     (try simp only [Act.put,List.setIfInBounds_toArray,List.set_cons_zero,List.set_cons_succ])
     have hi:=getopN hO 3 (by decide)
     conv at hi=>rhs;arg 1;whnf
     refine anyE_takeV hO (v:=?_) 3 hi (by kernel_rfl) (by kernel_rfl) (by kernel_rfl) (by kernel_rfl) (fun _ _ _ h=>h) (Or.inl ⟨by rfl,?_⟩) (by assumption) ?_
     rotate_left
     ·((intro w' hSw);(try dsimp only at hSw);(try go_simp);(try with_reducible rfl))
     clear hi
     (try simp only [Act.put,List.setIfInBounds_toArray,List.set_cons_zero,List.set_cons_succ])
     have hi:=getopN hO 4 (by decide)
     conv at hi=>rhs;arg 1;whnf
     refine anyE_takeWV hO (v:=?_) 4 hi (by kernel_rfl) (by kernel_rfl) (by kernel_rfl) (by kernel_rfl) (fun _ _ _ h=>h) (Or.inl ⟨by rfl,?_⟩) (by assumption) ?_
     rotate_left
     ·((intro w');(try go_simp);(try with_reducible rfl))
     clear hi
     (try simp only [Act.put,List.setIfInBounds_toArray,List.set_cons_zero,List.set_cons_succ])
     have hi:=getopN hO 5 (by decide)
     conv at hi=>rhs;arg 1;whnf
     refine anyE_takeWV hO (v:=?_) 5 hi (by kernel_rfl) (by kernel_rfl) (by kernel_rfl) (by kernel_rfl) (fun _ _ _ h=>h) (Or.inl ⟨by rfl,?_⟩) (by assumption) ?_
     rotate_left
     ·((intro w');(try go_simp);(try with_reducible rfl))
     clear hi
     (try simp only [Act.put,List.setIfInBounds_toArray,List.set_cons_zero,List.set_cons_succ])
     have hi:=getopN hO 6 (by decide)
     conv at hi=>rhs;arg 1;whnf
     refine anyE_stepV hO 6 (by kernel_rfl) hi (fun K hK=>?_)
     go_simp
     (go_at_call 19;refine (HRO.out _ (HE4.out.trans (hHeld.2.2.2.out))).mono ?_)
     rintro e wx ⟨a4,c4,rfl,hr4,hEz⟩
     have HR4:=Lib.hid hr4
     clear hr4
     go_wp2_with fail
     refine hK.out _ _ ⟨(hEz).cell hHeld.1,(hEz).cell hHeld.2.1,(hEz).cell hHeld.2.2.1,Ext.trans hHeld.2.2.2.out (hEz)⟩ (fun hHeld=>?_)
     clear hK K hi
     (try simp only [Act.put,List.setIfInBounds_toArray,List.set_cons_zero,List.set_cons_succ])
     have hi:=getopN hO 7 (by decide)
     conv at hi=>rhs;arg 1;whnf
     refine anyE_stepV hO 7 (by kernel_rfl) hi (fun K hK=>?_)
     go_simp
     (go_at_call 18;refine (multi10_any _ _ _ _ _ _).mono ?_)
     rintro e wy ⟨rfl,hEz⟩
     have HR5:=Lib.hid (ListAt.ext numC.mono' HR4.out hEz)
     go_wp2_with fail
     refine hK.out _ _ ⟨(hEz).cell hHeld.1,(hEz).cell hHeld.2.1,(hEz).cell hHeld.2.2.1,Ext.trans hHeld.2.2.2.out (hEz)⟩ (fun hHeld=>?_)
     clear hK K hi
     (try simp only [Act.put,List.setIfInBounds_toArray,List.set_cons_zero,List.set_cons_succ])
     have hi:=getopN hO 8 (by decide)
     conv at hi=>rhs;arg 1;whnf
     refine anyE_stepV hO 8 (by kernel_rfl) hi (fun K hK=>?_)
     go_simp
     (go_at_call 17;refine (HSA.out _ _ _ _ _ (ListAt.ext numC.mono' HRU.out (hHeld.2.2.2.out)) HR5.out).mono ?_)
     rintro e wz2 ⟨rfl,hEz⟩
     go_wp2_with fail
     refine hK.out _ _ ⟨(hEz).cell hHeld.1,(hEz).cell hHeld.2.1,(hEz).cell hHeld.2.2.1,Ext.trans hHeld.2.2.2.out (hEz)⟩ (fun hHeld=>?_)
     clear hK K hi
     (try simp only [Act.put,List.setIfInBounds_toArray,List.set_cons_zero,List.set_cons_succ])
     have hi:=getopN hO 9 (by decide)
     conv at hi=>rhs;arg 1;whnf
     refine anyE_takeWV hO (v:=?_) 9 hi (by kernel_rfl) (by kernel_rfl) (by kernel_rfl) (by kernel_rfl) (fun _ _ _ h=>h) (Or.inl ⟨by rfl,?_⟩) (by assumption) ?_
     rotate_left
     ·((intro w');(try go_simp);(try with_reducible rfl))
     clear hi
     (try simp only [Act.put,List.setIfInBounds_toArray,List.set_cons_zero,List.set_cons_succ])
     have HWY:Hid (Ext U1 wz2):=hHeld.2.2.2
     have hi:=getopN hO 10 (by decide)
     conv at hi=>rhs;arg 1;whnf
     refine anyE_lastV hO 10 (by kernel_rfl) (by kernel_rfl) hi (fun K hK=>?_)
     go_simp
     refine hK.out _ _ (by assumption) ?_
     clear hK K hi hO
     (try simp only [Act.put,List.setIfInBounds_toArray,List.set_cons_zero,List.set_cons_succ])
     go_wp2_with fail
     go_ret
     exact ⟨rfl,HE4.out.trans HWY.out⟩
theorem wrows_walk (xss:List (List Int)) (d:Int) (v:Value) (w:World) (h:Rows2 w v xss) (hd:-9223372036854775808≤d∧d≤9223372036854775807) (hlib:LibT w) (hb:4<w.heap.size) :
  Calls Tryz.prog 3 #[v,.int .i64 d] w fun e w'=>e=.returned (.bool true)∧Ext w w':=by
 by_cases h1:5<xss.length∨(5<d∧d≤12)
 ·exact wrows_out xss d v w h h1 hlib hb
 ·have h5:xss.length≤5:=by omega
  by_cases h2:d<0
  ·exact wrows_neg xss d v w h h5 h2 hlib hb
  ·by_cases h3:12<d
   ·exact wrows_big xss d v w h h5 h3 hlib hb
   ·obtain ⟨n,rfl⟩:∃ n:Nat,d=n:=⟨d.toNat,by omega⟩
    have hn:n≤5:=by omega
    by_cases hE:tabE xss=0
    ·have hm:=tab_lens hE
     by_cases hx:xss=[]
     ·exact wrows_ok xss n v w h h5 hn hE (by rw [hx];intro r hr;cases hr) (by rw [hx];exact Nat.zero_le _) hlib hb
     ·by_cases hmn:colsN xss=n
      ·rw [hmn] at hm
       by_cases hk:n<xss.length
       ·exact wrows_many xss n v w h h5 hn hE hm hk hlib hb
       ·exact wrows_ok xss n v w h h5 hn hE hm (by omega) hlib hb
      ·exact wrows_size xss n (colsN xss) v w h h5 hn hE hx hm hmn hlib hb
    ·exact wrows_tab xss n v w h h5 hn hE hlib hb
end Go.Proofs.YtjlkkofmojgipaaGreatDoor
