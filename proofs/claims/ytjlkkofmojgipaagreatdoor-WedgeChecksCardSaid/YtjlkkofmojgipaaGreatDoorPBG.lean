import Derived.Test.YtjlkkofmojgipaaGreatDoorPAV
import Derived.Test.YtjlkkofmojgipaaGreatDoorPAX
import Derived.Test.YtjlkkofmojgipaaGreatDoorPAK
import Derived.Test.YtjlkkofmojgipaaGreatDoorPAT
import Derived.Test.YtjlkkofmojgipaaGreatDoorPAG
namespace Go.Proofs.YtjlkkofmojgipaaGreatDoor
set_option linter.unusedVariables false
set_option linter.unusedSimpArgs false
open Go.RowKit Go.Maps
set_option maxRecDepth 100000 in
set_option maxHeartbeats 2000000 in
theorem dualM_any {n k:Nat} {X:List Int} (hn:n<7) (hR:RightM n k X) (u:Value) (w:World) (h:MultiV w u n k X) :
  Calls Tryz.prog 28 #[u] w fun e w'=>∃ r,e=.returned (.tuple #[r,.int .i64 0])∧Ext w w'∧MultiV w' r n (n-k) (dualL n k X):=by
 have HCK:Hid (∀ W,Ext w W→Calls Tryz.prog 47 #[u] W fun e w'=>e=.returned (.int .i64 0)∧Ext W w'):=fun W hW=>checkR_any hR u W (h.ext hW)
 obtain ⟨r,rfl,hr⟩:=h
 obtain ⟨a,c,rfl,h1,h2,-,hc⟩:=inCell.open (BigL.of_nums hr)
 unfold maxLen at h2
 have HC:=Lib.hid hc
 have hkn:=hR.kn
 have HLEN:=Lib.hid hR.len
 have HDG:=Lib.hid hR.dig
 obtain ⟨mx,hmx⟩:∃ m,X.length=m:=⟨_,rfl⟩
 have HMX:=Lib.hid hmx
 rw [hmx] at h1 HCK ⊢
 obtain ⟨w1,hw1,hE1,hs1,hb1⟩:=boxM w (.int .i64 n) (.int .i64 k) (.slice a mx c)
 obtain ⟨w2,hw2,hE2,hs2,hb2⟩:=boxM w1 (.int .i64 0) (.int .i64 0) (.slice none 0 0)
 have HE2:=Lib.hid (hE1.trans hE2)
 have HB1:=Lib.hid (block_ext hb1 hE2);have HB2:=Lib.hid hb2
 have HS1:Hid (w1.heap.size=w.heap.size+1):=hs1
 have HS2:Hid (w2.heap.size=w1.heap.size+1):=hs2
 have k1:=block_cell HB1.out
 have HN:=Lib.hid hn
 obtain ⟨d,hd⟩:∃ d,n-k=d:=⟨_,rfl⟩
 have HD:=Lib.hid hd
 have e1:IntKind.i64.wrap ((n:Int)-(k:Int))=(d:Int):=by rw [IntKind.wrap_i64];omega
 have hdn:d≤n:=by omega
 obtain ⟨D,hD⟩:∃ D,dualL n k X=D:=⟨_,rfl⟩
 have HDM:Hid (D=(allW n d).map fun s:Nat=>sgnI (X.getD (placeW n k (restW n s)) 0) (oddW (restW n s) s)):=by unfold Hid;rw [← hD,← hd];rfl
 rw [hD,hd]
 clear hb1 hb2 hE1 hE2 hr hc hs2 hR hmx hD hd
 go_enter Tryz.func28,Tryz.ntmps28
 go_wp2_with fail
 refine (HCK.out w2 HE2.out).mono ?_
 rintro e w3 ⟨rfl,h3⟩
 have HE3:Hid (Ext w w3):=HE2.out.trans h3
 have HB13:=Lib.hid (block_ext HB1.out h3)
 have HB23:=Lib.hid (block_ext HB2.out h3)
 have HS3:Hid (w1.heap.size<w3.heap.size∧w.heap.size<w3.heap.size∧w.heap.size<w1.heap.size):=by have:=h3.size;have:=HS2.out;have:=HS1.out;unfold Hid;omega
 obtain ⟨w4,hw4,hE4,hs4,hb4⟩:=boxM w3 (.int .i64 0) (.int .i64 0) (.slice none 0 0)
 have HE4:=Lib.hid hE4;have HB4:=Lib.hid hb4
 have d0:=block_cell HB13.out 0;have d1:=block_cell HB13.out 1
 simp only [List.getElem?_toArray,List.getElem?_cons_succ,List.getElem?_cons_zero] at d0 d1
 have f4:=block_free hb4
 have k4:=block_cell hb4
 clear h3 HCK k1 hw1 hw2 hE4 hs4 hb4
 go_upto_region 5 with fail
 generalize hw9:World.setCell _ _ _=w5
 have HB5:Hid (w5.heap[w3.heap.size]?=some (.cells #[.int .i64 n,.int .i64 d,.slice none 0 0] 31 (0,0))):=by rw [← hw9];exact multi_store HB4.out _ _ _
 have hE5:Ext w3 w5:=by rw [← hw9];exact multi_ext HE4.out (Nat.le_refl _) _ _ _
 have HE5:Hid (Ext w w5):=HE3.out.trans hE5
 have HB15:=Lib.hid (block_ext HB13.out hE5)
 have HB25:=Lib.hid (block_ext HB23.out hE5)
 clear hw9 hw4 k4 f4 d0 d1
 have d0:=block_cell HB15.out 0;have d1:=block_cell HB15.out 1
 simp only [List.getElem?_toArray,List.getElem?_cons_succ,List.getElem?_cons_zero] at d0 d1
 have HPL:Hid (∀ W,Calls Tryz.prog 59 #[.int .i64 n,.int .i64 k] W fun e w'=>∃ v,e=.returned v∧Ext W w'∧PlacesM w' v n k):=fun W=>places_any n k HN.out hkn W
 have HAL:Hid (∀ W,Calls Tryz.prog 60 #[.int .i64 n,.int .i64 d] W (UintsR (allW n d) W)):=fun W=>all_any n d (by have:=HN.out;omega) hdn W
 clear hE5
 go_wp2_with fail
 refine (HPL.out w5).mono ?_
 rintro e w6 ⟨v6,rfl,h6,hP6⟩
 obtain ⟨b6,N6,rfl,hI6⟩:=hP6
 have HP6:Hid (PlacesM w6 (.map (some b6)) n k):=⟨b6,N6,rfl,hI6⟩
 have HE6:Hid (Ext w5 w6):=h6
 have HB6:=Lib.hid (block_ext HB5.out h6)
 clear d0 d1
 have d0:=block_cell HB6.out 0;have d1:=block_cell HB6.out 1
 simp only [List.getElem?_toArray,List.getElem?_cons_succ,List.getElem?_cons_zero] at d0 d1
 clear h6 hI6 HPL
 go_wp2_with fail
 refine (HAL.out w6).mono ?_
 rintro e w7 ⟨v7,rfl,h7,hU⟩
 obtain ⟨a7,c7,rfl,hc1,hc2,hcx⟩:=hU.open
 unfold maxLen at hc2
 have HCX:=Lib.hid hcx
 have HP7:=Lib.hid (HP6.out.ext h7)
 have HB7:=Lib.hid (block_ext HB6.out h7)
 have HE7:Hid (Ext w w7):=(HE5.out.trans HE6.out).trans h7
 have HB17:=Lib.hid (block_ext HB15.out (HE6.out.trans h7))
 have HB27:=Lib.hid (block_ext HB25.out (HE6.out.trans h7))
 have HBL:Hid (w3.heap.size<w7.heap.size):=block_lt HB7.out
 have HLT:Hid (∀ s∈allW n d,s<2^n):=allW_two (by have:=HN.out;omega) hdn
 have HRG:Hid (∀ s∈allW n d,restW n s∈allW n k):=fun s hs=>(rest_get (k:=k) HN.out hkn (by rw [HD.out];exact hs)).1
 have HPG:Hid (∀ s∈allW n k,placeW n k s<mx):=fun s hs=>by rw [← HMX.out,HLEN.out];exact (place_get HN.out hkn hs).2
 obtain ⟨q,hq⟩:∃ q,2^n=q:=⟨_,rfl⟩
 have hsh:=shl_small (n:=n) (by have:=HN.out;omega)
 have HRB:Hid (∀ s:Nat,s<2^n→bits .andNot .u64 ((2^n-1:Nat):Int) (s:Int)=((restW n s:Nat):Int)):=fun s hs=>rest_bits HN.out hs
 have HR46:Hid (∀ s∈allW n k,s<4096):=allW_lt (by have:=HN.out;omega) hkn
 rw [hq] at HRB hsh HLT
 obtain ⟨qq,hqq⟩:∃ qq,q-1=qq:=⟨_,rfl⟩
 rw [hqq] at HRB
 have e2:=hsh.1
 have e3:IntKind.u64.wrap ((q:Int)-1)=(qq:Int):=by have:=hsh.2;rw [IntKind.wrap_u64];omega
 have hq46:q≤4096:=hsh.2.1
 have HQ:=Lib.hid hq46
 have c4:0≤(n:Int):=by omega
 have c5:(n:Int)≤64:=by have:=HN.out;omega
 obtain ⟨L,hL⟩:∃ L,allW n d=L:=⟨_,rfl⟩
 rw [hL] at HCX HLT HRG hc1 HDM ⊢
 obtain ⟨N,hN⟩:∃ N,L.length=N:=⟨_,rfl⟩
 have HNN:=Lib.hid hN
 have HLL:Hid (∀ i,(D.take i).length<1000000):=by
  intro i
  have h1:=allW_len (n:=n) (k:=d) (by have:=HN.out;omega) hdn
  rw [HDM.out,List.length_take,List.length_map,← hL];omega
 rw [hN] at hc1 ⊢
 clear hq hsh hqq hN hL hq46 h7 hU hcx d0 d1 HAL hkn hdn
 go_wp2_with fail
 go_loopw [35] (fun t wr=>∃ i:Nat,i≤N∧t=.int .i64 (i:Int)∧Hid (GrownS (·=w3.heap.size) w7 wr)∧Hid (∃ so,wr.heap[w3.heap.size]?=some (.cells #[.int .i64 n,.int .i64 d,so] 31 (0,0))∧Build wr w7.heap.size 53 1 so numC (D.take i))) (fun t _=>N+1-(intOf t).toNat)
 case atStart=>exact ⟨0,by omega,by simp,GrownS.refl _ _,_,HB7.out,Build.nil _ _ _ _ _⟩
 case round =>
  obtain ⟨i,hi,rfl,HG,HBB⟩:=hrel
  by_cases hlt:i<N
  ·obtain ⟨s,hs⟩:∃ s,L[i]?=some s:=by
    rw [← HNN.out] at hlt
    exact ⟨_,List.getElem?_eq_getElem hlt⟩
   have hsm:=List.mem_of_getElem? hs
   obtain ⟨b7,o7,rfl,hb7,hcell⟩:=HCX.out (by intro e;rw [e] at hs;simp at hs)
   have hc7:=hcell i s hs
   have hne7:b7≠w3.heap.size:=by
    rintro rfl
    have:=block_cell HB7.out (o7+i)
    rw [hc7] at this
    exact multi_nou64 this
   have hcs:=HG.out.cell hc7 hne7
   have hslt:=HLT.out s hsm
   have e4:=HRB.out s (by assumption)
   have hrm:=HRG.out s hsm
   have hr46:=HR46.out _ hrm
   have hpm:=HPG.out _ hrm
   have HOD:Hid (∀ W,Calls Tryz.prog 65 #[.int .u64 ((restW n s:Nat):Int),.int .u64 (s:Int)] W fun e w'=>e=.returned (.bool (oddW (restW n s) s))∧Ext W w'):=fun W=>oddE_any _ s hr46 (by have:=HQ.out;omega) W
   have HPR:=Lib.hid (HP7.out.grownS HG.out HB7.out)
   have HLK:Hid (∀ W,Ext wr W→(Instr.lookup 96 (.map (some b6)) (.int .u64 ((restW n s:Nat):Int)) false).run Tryz.prog W=.ok (.int .i64 ((placeW n k (restW n s):Nat):Int)) W):=fun W hW=>(HPR.out.ext hW).run hrm hr46
   have HZ:Hid (D.take (i+1)=D.take i++[sgnI (X.getD (placeW n k (restW n s)) 0) (oddW (restW n s) s)]):=by
    unfold Hid
    rw [List.take_add_one,HDM.out,List.getElem?_map,hs];rfl
   obtain ⟨rs,hrs⟩:∃ rs,restW n s=rs:=⟨_,rfl⟩
   rw [hrs] at e4 hpm HOD HLK HZ
   obtain ⟨p,hp⟩:∃ p,placeW n k rs=p:=⟨_,rfl⟩
   rw [hp] at hpm HLK HZ
   obtain ⟨y,hy⟩:∃ y,X[p]?=some y:=⟨_,List.getElem?_eq_getElem (by rw [HMX.out];exact hpm)⟩
   rw [show X.getD p 0=y by rw [List.getD_eq_getElem?_getD,hy];rfl] at HZ
   obtain ⟨o,ho⟩:∃ o,oddW rs s=o:=⟨_,rfl⟩
   rw [ho] at HOD HZ
   obtain ⟨bx,ox,rfl,hbx,hcx⟩:=HC.out (by intro e;rw [e] at hy;simp at hy)
   obtain ⟨z9,e9,g9⟩:=hcx p y hy
   obtain rfl:z9=.string (intB y):=e9
   have hdy:=HDG.out y (List.mem_of_getElem? hy)
   have HSG:Hid (∀ W,Calls Tryz.prog 62 #[.string (intB y),.bool o] W fun e w'=>e=.returned (.string (intB (sgnI y o)))∧Ext W w'):=fun W=>signed_any y o W (by have:=(digits_size hdy).2;omega)
   obtain ⟨z,hz⟩:∃ z,sgnI y o=z:=⟨_,rfl⟩
   rw [hz] at HSG HZ
   have HST:Hid (D.take (i+1)=D.take i++[z]):=HZ
   have hLi:=HLL.out i
   have z3:=HG.out.cell (HE7.out.cell g9) (by have:=HS3.out;omega)
   have z2:=HG.out.cell (block_cell HB17.out 2) (by have:=HS3.out;omega)
   (try simp only [List.getElem?_toArray,List.getElem?_cons_succ,List.getElem?_cons_zero] at z2)
   obtain ⟨so,hBK,hBU⟩:=HBB.out
   obtain ⟨ao,co,rfl,-⟩:=ListAt.open hBU.list
   obtain ⟨m,hm⟩:∃ m,(D.take i).length=m:=⟨_,rfl⟩
   rw [hm] at hBK hBU hLi
   have HMM:=Lib.hid hm
   have HBK:=Lib.hid hBK;have HB:=Lib.hid hBU
   have z1:=block_cell hBK 2
   simp only [List.getElem?_toArray,List.getElem?_cons_succ,List.getElem?_cons_zero] at z1
   have HLL2:Hid ((D.take i).length<1000000):=HLL.out i
   have HSZ:Hid (w7.heap.size≤wr.heap.size):=HG.out.size
   have hpx:(p:Int)<(mx:Int):=by omega
   have hd0:=block_cell HB17.out 0
   have z4:=HG.out.cell (block_cell HB17.out 0) (by have:=HS3.out;omega)
   (try simp only [List.getElem?_toArray,List.getElem?_cons_succ,List.getElem?_cons_zero] at z4)
   clear hs hsm hcell hc7 hne7 hrm hr46 hrs hp hy hcx g9 hdy hz hBK hBU hbx hb7 ho hm hLi hd0 HZ HBB
   go_upto_region 10 with fail
   refine region_anyE (fun w'=>w'.cell? ⟨w3.heap.size,2,none⟩=some (.slice ao m co)∧w'.cell? ⟨w.heap.size,2,none⟩=some (.slice (some ⟨bx,ox,none⟩) mx c)∧w'.cell? ⟨bx,ox+p,none⟩=some (.string (intB y))∧Hid (Ext wr w')) 14 (by kernel_rfl) ⟨(Ext.drew wr).cell z1,(Ext.drew wr).cell z2,(Ext.drew wr).cell z3,Ext.drew wr⟩ (fun hHeld=>?_)
   refine anyE_takeW (v:=?_) 0 rfl (by kernel_rfl) (by kernel_rfl) (by kernel_rfl) (by decide) (fun _ _ _ h=>h) (Or.inl ⟨by rfl,?_⟩) (by assumption) ?_
   rotate_left
   ·((intro w');(try go_simp);(try with_reducible rfl))
   (try simp only [Act.put,List.setIfInBounds_toArray,List.set_cons_zero,List.set_cons_succ])
   refine anyE_take (v:=?_) 1 rfl (by kernel_rfl) (by kernel_rfl) (by kernel_rfl) (by kernel_rfl) (by kernel_rfl) (fun _ _ _ h=>h) (Or.inl ⟨by rfl,?_⟩) (by assumption) ?_
   rotate_left
   ·((intro w' hSw);(try dsimp only at hSw);(try go_simp);(try with_reducible rfl))
   (try simp only [Act.put,List.setIfInBounds_toArray,List.set_cons_zero,List.set_cons_succ])
   refine anyE_takeW (v:=?_) 2 rfl (by kernel_rfl) (by kernel_rfl) (by kernel_rfl) (by decide) (fun _ _ _ h=>h) (Or.inl ⟨by rfl,?_⟩) (by assumption) ?_
   rotate_left
   ·((intro w');(try go_simp);(try with_reducible rfl))
   (try simp only [Act.put,List.setIfInBounds_toArray,List.set_cons_zero,List.set_cons_succ])
   refine anyE_take (v:=?_) 3 rfl (by kernel_rfl) (by kernel_rfl) (by kernel_rfl) (by kernel_rfl) (by kernel_rfl) (fun _ _ _ h=>h) (Or.inl ⟨by rfl,?_⟩) (by assumption) ?_
   rotate_left
   ·((intro w' hSw);(try dsimp only at hSw);(try go_simp);(try with_reducible rfl))
   (try simp only [Act.put,List.setIfInBounds_toArray,List.set_cons_zero,List.set_cons_succ])
   refine anyE_takeW (v:=?_) 4 rfl (by kernel_rfl) (by kernel_rfl) (by kernel_rfl) (by decide) (fun _ _ _ h=>h) (Or.inl ⟨by rfl,?_⟩) (by assumption) ?_
   rotate_left
   ·((intro w');(try go_simp);(try with_reducible rfl))
   (try simp only [Act.put,List.setIfInBounds_toArray,List.set_cons_zero,List.set_cons_succ])
   refine anyE_takeW (v:=?_) 5 rfl (by kernel_rfl) (by kernel_rfl) (by kernel_rfl) (by decide) (fun _ _ _ h=>h) (Or.inl ⟨by rfl,?_⟩) (by assumption) ?_
   rotate_left
   ·((intro w');(try go_simp);(try with_reducible rfl))
   (try simp only [Act.put,List.setIfInBounds_toArray,List.set_cons_zero,List.set_cons_succ])
   refine anyE_take (v:=.int .i64 (p:Int)) 6 rfl (by kernel_rfl) (by kernel_rfl) (by kernel_rfl) (by kernel_rfl) (by kernel_rfl) (fun _ _ _ h=>h) (Or.inl ⟨by rfl,?_⟩) (by assumption) ?_
   ·(intro w' hSw;(try dsimp only at hSw);have hlk:=HLK.out w' (hSw.2.2.2.out);go_simp;(try with_reducible rfl))
   (try simp only [Act.put,List.setIfInBounds_toArray,List.set_cons_zero,List.set_cons_succ])
   refine anyE_takeW (v:=?_) 7 rfl (by kernel_rfl) (by kernel_rfl) (by kernel_rfl) (by decide) (fun _ _ _ h=>h) (Or.inl ⟨by rfl,?_⟩) (by assumption) ?_
   rotate_left
   ·((intro w');(try go_simp);(try with_reducible rfl))
   (try simp only [Act.put,List.setIfInBounds_toArray,List.set_cons_zero,List.set_cons_succ])
   refine anyE_take (v:=?_) 8 rfl (by kernel_rfl) (by kernel_rfl) (by kernel_rfl) (by kernel_rfl) (by kernel_rfl) (fun _ _ _ h=>h) (Or.inl ⟨by rfl,?_⟩) (by assumption) ?_
   rotate_left
   ·((intro w' hSw);(try dsimp only at hSw);(try go_simp);(try with_reducible rfl))
   (try simp only [Act.put,List.setIfInBounds_toArray,List.set_cons_zero,List.set_cons_succ])
   refine anyE_takeW (v:=?_) 9 rfl (by kernel_rfl) (by kernel_rfl) (by kernel_rfl) (by decide) (fun _ _ _ h=>h) (Or.inl ⟨by rfl,?_⟩) (by assumption) ?_
   rotate_left
   ·((intro w');(try go_simp);(try with_reducible rfl))
   (try simp only [Act.put,List.setIfInBounds_toArray,List.set_cons_zero,List.set_cons_succ])
   refine anyE_takeW (v:=?_) 10 rfl (by kernel_rfl) (by kernel_rfl) (by kernel_rfl) (by decide) (fun _ _ _ h=>h) (Or.inl ⟨by rfl,?_⟩) (by assumption) ?_
   rotate_left
   ·((intro w');(try go_simp);(try with_reducible rfl))
   (try simp only [Act.put,List.setIfInBounds_toArray,List.set_cons_zero,List.set_cons_succ])
   refine anyE_step 11 (by kernel_rfl) rfl (fun K hK=>?_)
   go_simp
   (go_at_call 65;refine (HOD.out _).mono ?_)
   rintro e wz ⟨rfl,hEz⟩
   go_wp2_with fail
   refine hK.out _ _ ⟨(hEz).cell hHeld.1,(hEz).cell hHeld.2.1,(hEz).cell hHeld.2.2.1,Ext.trans hHeld.2.2.2.out (hEz)⟩ (fun hHeld=>?_)
   clear hK K
   (try simp only [Act.put,List.setIfInBounds_toArray,List.set_cons_zero,List.set_cons_succ])
   refine anyE_step 12 (by kernel_rfl) rfl (fun K hK=>?_)
   go_simp
   (go_at_call 62;refine (HSG.out _).mono ?_)
   rintro e wy ⟨rfl,hEz⟩
   go_wp2_with fail
   refine hK.out _ _ ⟨(hEz).cell hHeld.1,(hEz).cell hHeld.2.1,(hEz).cell hHeld.2.2.1,Ext.trans hHeld.2.2.2.out (hEz)⟩ (fun hHeld=>?_)
   clear hK K
   (try simp only [Act.put,List.setIfInBounds_toArray,List.set_cons_zero,List.set_cons_succ])
   have HWY:Hid (Ext wr wy):=hHeld.2.2.2
   refine anyE_step 13 (by kernel_rfl) rfl (fun K hK=>?_)
   go_simp
   refine hK.out _ _ ⟨(Ext.alloc _ _).cell hHeld.1,(Ext.alloc _ _).cell hHeld.2.1,(Ext.alloc _ _).cell hHeld.2.2.1,Ext.trans hHeld.2.2.2.out (Ext.alloc _ _)⟩ (fun hHeld=>?_)
   clear hK K
   (try simp only [Act.put,List.setIfInBounds_toArray,List.set_cons_zero,List.set_cons_succ])
   refine anyE_stepZ 14 (by kernel_rfl) (by kernel_rfl) rfl (fun K hK=>?_)
   refine step_append_build wy (by rfl) _ _ 29 (by rfl) w7.heap.size 53 (.string ⟨#[]⟩) 1 16 Tryz.underlying29 infoBigI (by rfl) (by decide) (.slice ao m co) numC (D.take i) z #[.string (intB z)] 53 (by rfl) (HB.out.ext (Hid.out (p:=Ext wr wy) (by assumption))) (by rfl) (by rfl) (by simp [Value.oneCell']) (fun _ _=>rfl) HLL2.out (by decide) (Nat.le_trans HSZ.out (Hid.out (p:=Ext wr wy) (by assumption)).size) ?_
   intro v' w6 hB6 hg6 hb6 hs6 _
   rw [← HST.out] at hB6
   have HB6:=Lib.hid hB6
   have HG6:Hid (GrownS (·=w3.heap.size) w7 w6):=(HG.out.ext (Hid.out (p:=Ext wr wy) (by assumption))).thenBelow hb6 (Nat.le_refl _)
   have HK6:=Lib.hid ((Below.block hb6 w3.heap.size HBL.out).trans (block_ext HBK.out (Hid.out (p:=Ext wr wy) (by assumption))))
   obtain ⟨a6,c6,rfl,-⟩:=ListAt.open hB6.list
   obtain ⟨m6,hm6⟩:∃ m,(D.take (i+1)).length=m:=⟨_,rfl⟩
   rw [hm6] at HB6 ⊢
   clear hm6 hB6 hg6 hb6
   have k6:=block_cell HK6.out
   have f6:=block_free HK6.out
   refine hK.out _ _ ?_
   clear hK K
   (try simp only [Act.put,List.setIfInBounds_toArray,List.set_cons_zero,List.set_cons_succ])
   refine anyE_stepZ 15 (by kernel_rfl) (by kernel_rfl) rfl (fun K hK=>?_)
   go_simp
   refine hK.out _ _ ?_
   clear hK K
   (try simp only [Act.put,List.setIfInBounds_toArray,List.set_cons_zero,List.set_cons_succ])
   refine anyE_last 16 (by kernel_rfl) (by kernel_rfl) (by kernel_rfl) rfl (fun K hK=>?_)
   go_simp
   refine hK.out _ _ ?_
   clear hK K
   (try simp only [Act.put,List.setIfInBounds_toArray,List.set_cons_zero,List.set_cons_succ])
   go_wp2_with fail
   go_roundw
   case rel=>exact ⟨i+1,by omega,by go_num,HG6.out.trans (grownBy_S (grown_setCell _ _ _ _) (fun k hk=>by cases hk;rfl)),_,block_set HK6.out 2 _,HB6.out.boxAt HBL.out 2 _⟩
   case measure=>simp [intOf];omega
  ·obtain rfl:i=N:=by omega
   obtain ⟨so,hBK,hBU⟩:=HBB.out
   have hTA:D.take i=D:=by
    refine List.take_of_length_le ?_
    rw [HDM.out,List.length_map,HNN.out];exact Nat.le_refl _
   rw [hTA] at hBU
   obtain ⟨ao,co,rfl,-⟩:=ListAt.open hBU.list
   have HF:=Lib.hid hBU.list
   have HE9:Hid (Ext w wr):=ext_grownS HE7.out HG.out (fun j hj e=>by have:=HS3.out;omega)
   have HB29:Hid (wr.heap[w.heap.size+1]?=some (.cells #[.int .i64 0,.int .i64 0,.slice none 0 0] 31 (0,0))):=by
    unfold Hid
    rw [← HS1.out,← HB27.out]
    exact HG.out.block _ (block_lt HB27.out) (by have:=HS3.out;omega)
   obtain ⟨m,hm⟩:∃ m,D.length=m:=⟨_,rfl⟩
   rw [hm] at hBK HF
   have kk:=block_cell hBK
   have f9:=block_free HB29.out
   have k9:=block_cell HB29.out
   clear hBK hBU HBB hTA
   go_wp2_with fail
   have hb7:=multi_store HB29.out (.int .i64 n) (.int .i64 d) (.slice ao m co)
   refine bodyPost_ret (results_cell_tmp (by rfl) _ _ (w.heap.size+1) 31 #[.int .i64 n,.int .i64 d,.slice ao m co] (0,0) _ (.int .i64 0) (by rfl) (by rfl) hb7 Tryz.underlying31 (by rfl) (by kernel_rfl)) (by rfl) ⟨_,rfl,multi_ext HE9.out (by omega) _ _ _,_,rfl,?_⟩
   exact nums_set HF.out HB29.out (multi_nostr 0 0) (multi_grown _ _ _ _ _)
end Go.Proofs.YtjlkkofmojgipaaGreatDoor
namespace Go.Proofs.YtjlkkofmojgipaaGreatDoor
set_option linter.unusedVariables false
set_option linter.unusedSimpArgs false
open Go.RowKit
structure RowN (w:World) (g:Nat) (xs:List Int):Prop where
 lt:g<w.heap.size
 cell:∀ (j:Nat) x,xs[j]?=some x→w.cell? ⟨g,j,none⟩=some (.string (intB x))
 free:∀ j,w.frozen? ⟨g,j,none⟩=false
theorem RowN.same {w w':World} {g:Nat} {xs:List Int} (h:RowN w g xs) (hs:w.heap.size≤w'.heap.size) (hg:w'.heap[g]?=w.heap[g]?):RowN w' g xs :=
 ⟨Nat.lt_of_lt_of_le h.lt hs,fun j x hx=>(cell_of_heapQ hg _).trans (h.cell j x hx),fun j=>(free_of_heapQ hg j).trans (h.free j)⟩
theorem RowN.ext {w w':World} {g:Nat} {xs:List Int} (h:RowN w g xs) (he:Ext w w'):RowN w' g xs:=h.same he.size (he.block g h.lt)
theorem RowN.grown {w w':World} {S:Nat→Prop} {g:Nat} {xs:List Int} (h:RowN w g xs) (hg:GrownS S w w') (hS:¬ S g):RowN w' g xs:=h.same hg.size (hg.block g h.lt hS)
theorem RowN.set {w:World} {g:Nat} {xs:List Int} (h:RowN w g xs) (k:Nat) (hk:k<xs.length) (y:Int):RowN (w.setCell ⟨g,k,none⟩ (.string (intB y))) g (xs.set k y):=by
 refine ⟨by rw [setCell_sizeQ];exact h.lt,fun j x hx=>?_,fun j=>by rw [frozen_set];exact h.free j⟩
 rw [List.getElem?_set] at hx
 by_cases hj:k=j
 ·subst hj
  rw [if_pos rfl,if_pos hk] at hx
  cases hx
  exact World.cell?_setCell_same w _ _ (h.cell k xs[k] (List.getElem?_eq_getElem hk))
 ·rw [if_neg hj] at hx
  rw [World.cell?_setCell_other w _ _ _ (by intro e;simp only [Addr.mk.injEq] at e;omega)]
  exact h.cell j x hx
structure MatN (w:World) (g0:Nat) (tags:List (Nat×Nat)) (m:List (List Int)):Prop where
 len:tags.length=m.length
 lt:g0<w.heap.size
 free:∀ j,w.frozen? ⟨g0,j,none⟩=false
 row:∀ (i:Nat) t r,tags[i]?=some t→m[i]?=some r→w.cell? ⟨g0,i,none⟩=some (.slice (some ⟨t.1,0,none⟩) r.length t.2)∧r.length≤t.2∧t.2≤9223372036854775807∧RowN w t.1 r
 nodup:(g0::tags.map (·.1)).Nodup
theorem MatN.same {w w':World} {g0:Nat} {tags:List (Nat×Nat)} {m:List (List Int)} (h:MatN w g0 tags m) (hs:w.heap.size≤w'.heap.size) (hb:∀ b,blocksQ g0 tags b→w'.heap[b]?=w.heap[b]?):MatN w' g0 tags m:=by
 have h0:=hb g0 (List.mem_cons_self ..)
 refine ⟨h.len,Nat.lt_of_lt_of_le h.lt hs,fun j=>(free_of_heapQ h0 j).trans (h.free j),fun i t r ht hr=>?_,h.nodup⟩
 obtain ⟨h1,h2,h3,h4⟩:=h.row i t r ht hr
 exact ⟨(cell_of_heapQ h0 i).trans h1,h2,h3,h4.same hs (hb t.1 (List.mem_cons_of_mem _ (List.mem_map.2 ⟨t,List.mem_of_getElem? ht,rfl⟩)))⟩
theorem MatN.blt {w:World} {g0:Nat} {tags:List (Nat×Nat)} {m:List (List Int)} (h:MatN w g0 tags m) {b:Nat} (hb:blocksQ g0 tags b):b<w.heap.size:=by
 rcases List.mem_cons.1 hb with rfl | hb
 ·exact h.lt
 ·obtain ⟨t,ht,rfl⟩:=List.mem_map.1 hb
  obtain ⟨i,hi⟩:=List.getElem?_of_mem ht
  have hl:i<m.length:=by rw [← h.len];exact (List.getElem?_eq_some_iff.1 hi).1
  exact (h.row i t m[i] hi (List.getElem?_eq_getElem hl)).2.2.2.lt
theorem MatN.ext {w w':World} {g0:Nat} {tags:List (Nat×Nat)} {m:List (List Int)} (h:MatN w g0 tags m) (he:Ext w w'):MatN w' g0 tags m :=
 h.same he.size fun b hb=>he.block b (h.blt hb)
theorem MatN.grown {w w':World} {S:Nat→Prop} {g0:Nat} {tags:List (Nat×Nat)} {m:List (List Int)} (h:MatN w g0 tags m) (hg:GrownS S w w') (hS:∀ b,blocksQ g0 tags b→¬ S b):MatN w' g0 tags m :=
 h.same hg.size fun b hb=>hg.block b (h.blt hb) (hS b hb)
theorem MatN.get {w:World} {g0:Nat} {tags:List (Nat×Nat)} {m:List (List Int)} (h:MatN w g0 tags m) {i:Nat} {r:List Int} (hr:m[i]?=some r) :
  ∃ t,tags[i]?=some t∧w.cell? ⟨g0,i,none⟩=some (.slice (some ⟨t.1,0,none⟩) r.length t.2)∧r.length≤t.2∧t.2≤9223372036854775807∧RowN w t.1 r∧t.1≠g0∧blocksQ g0 tags t.1:=by
 have hi:=(List.getElem?_eq_some_iff.1 hr).1
 have hl:i<tags.length:=by rw [h.len];exact hi
 have:=h.row i tags[i] r (List.getElem?_eq_getElem hl) hr
 refine ⟨tags[i],List.getElem?_eq_getElem hl,this.1,this.2.1,this.2.2.1,this.2.2.2,?_,List.mem_cons_of_mem _ (List.mem_map.2 ⟨tags[i],List.getElem_mem hl,rfl⟩)⟩
 have hn:=(List.nodup_cons.1 h.nodup).1
 intro e2
 exact hn (List.mem_map.2 ⟨tags[i],List.getElem_mem hl,e2⟩)
theorem MatN.apart {w:World} {g0:Nat} {tags:List (Nat×Nat)} {m:List (List Int)} (h:MatN w g0 tags m) {i j:Nat} {s t:Nat×Nat} (hs:tags[i]?=some s) (ht:tags[j]?=some t) (hij:i≠j):s.1≠t.1:=by
 have hn:=(List.nodup_cons.1 h.nodup).2
 intro e
 have h1:(tags.map (·.1))[i]?=some s.1:=by rw [List.getElem?_map,hs];rfl
 have h2:(tags.map (·.1))[j]?=some s.1:=by rw [List.getElem?_map,ht,e];rfl
 obtain ⟨l1,e1⟩:=List.getElem?_eq_some_iff.1 h1
 obtain ⟨l2,e2⟩:=List.getElem?_eq_some_iff.1 h2
 exact hij ((List.getElem_inj hn).1 (e1.trans e2.symm))
theorem MatN.setRow {w w':World} {g0:Nat} {tags:List (Nat×Nat)} {m:List (List Int)} (h:MatN w g0 tags m) {i:Nat} {t:Nat×Nat} {r r0:List Int} (ht:tags[i]?=some t) (hr0:m[i]?=some r0) (hr:r.length=r0.length) (hg:GrownS (·=t.1) w w') (hR:RowN w' t.1 r):MatN w' g0 tags (m.set i r):=by
 have hi:=(List.getElem?_eq_some_iff.1 hr0).1
 obtain ⟨t',ht',-,-,-,-,hne,-⟩:=h.get hr0
 obtain rfl:t'=t:=Option.some.inj (ht'.symm.trans ht)
 have h0:=hg.block g0 h.lt (fun e=>hne e.symm)
 refine ⟨by rw [List.length_set];exact h.len,Nat.lt_of_lt_of_le h.lt hg.size,fun j=>(free_of_heapQ h0 j).trans (h.free j),fun j s q hs hq=>?_,h.nodup⟩
 rw [List.getElem?_set] at hq
 by_cases hj:i=j
 ·subst hj
  rw [if_pos rfl,if_pos hi] at hq
  cases hq
  obtain rfl:s=t':=Option.some.inj (hs.symm.trans ht)
  obtain ⟨h1,h2,h3,h4⟩:=h.row i s r0 hs hr0
  rw [← hr] at h1 h2
  exact ⟨(cell_of_heapQ h0 i).trans h1,h2,h3,hR⟩
 ·rw [if_neg hj] at hq
  obtain ⟨h1,h2,h3,h4⟩:=h.row j s q hs hq
  exact ⟨(cell_of_heapQ h0 j).trans h1,h2,h3,h4.grown hg (h.apart hs ht (fun e=>hj e.symm))⟩
theorem MatN.swap {w:World} {g0:Nat} {tags:List (Nat×Nat)} {m:List (List Int)} (h:MatN w g0 tags m) {i j:Nat} {s t:Nat×Nat} {p q:List Int} (hs:tags[i]?=some s) (ht:tags[j]?=some t) (hp:m[i]?=some p) (hq:m[j]?=some q) :
  MatN ((w.setCell ⟨g0,i,none⟩ (.slice (some ⟨t.1,0,none⟩) q.length t.2)).setCell ⟨g0,j,none⟩ (.slice (some ⟨s.1,0,none⟩) p.length s.2)) g0 (swp tags i j) (swp m i j):=by
 have hgr:GrownS (·=g0) w ((w.setCell ⟨g0,i,none⟩ (.slice (some ⟨t.1,0,none⟩) q.length t.2)).setCell ⟨g0,j,none⟩ (.slice (some ⟨s.1,0,none⟩) p.length s.2)):=((GrownS.refl (·=g0) w).store (S:=(·=g0)) rfl _ _).store (S:=(·=g0)) rfl _ _
 have ci:=(h.row i s p hs hp).1
 have cj:=(h.row j t q ht hq).1
 refine ⟨by rw [swp_length,swp_length];exact h.len,by rw [setCell_sizeQ,setCell_sizeQ];exact h.lt,fun k=>by rw [frozen_set,frozen_set];exact h.free k,fun k u r hu hr=>?_,?_⟩
 ·rw [swp_get hs ht] at hu
  rw [swp_get hp hq] at hr
  have hrow:∀ (k:Nat) u r,tags[k]?=some u→m[k]?=some r→RowN ((w.setCell ⟨g0,i,none⟩ (.slice (some ⟨t.1,0,none⟩) q.length t.2)).setCell ⟨g0,j,none⟩ (.slice (some ⟨s.1,0,none⟩) p.length s.2)) u.1 r:=by
   intro k u r hu hr
   obtain ⟨u',hu',-,-,-,hR,hne,-⟩:=h.get hr
   obtain rfl:u'=u:=Option.some.inj (hu'.symm.trans hu)
   exact hR.grown hgr hne
  by_cases e1:k=j
  ·subst e1
   rw [if_pos rfl] at hu hr
   cases hu;cases hr
   obtain ⟨_,h2,h3,_⟩:=h.row i s p hs hp
   refine ⟨?_,h2,h3,hrow i s p hs hp⟩
   by_cases e2:i=k
   ·subst e2
    exact World.cell?_setCell_same _ _ _ (World.cell?_setCell_same w _ _ ci)
   ·exact World.cell?_setCell_same _ _ _ ((World.cell?_setCell_other _ _ _ _ (by intro e;simp only [Addr.mk.injEq] at e;omega)).trans cj)
  ·rw [if_neg e1] at hu hr
   by_cases e2:k=i
   ·subst e2
    rw [if_pos rfl] at hu hr
    cases hu;cases hr
    obtain ⟨_,h2,h3,_⟩:=h.row j t q ht hq
    refine ⟨?_,h2,h3,hrow j t q ht hq⟩
    rw [World.cell?_setCell_other _ _ _ _ (by intro e;simp only [Addr.mk.injEq] at e;omega)]
    exact World.cell?_setCell_same w _ _ ci
   ·rw [if_neg e2] at hu hr
    obtain ⟨h1,h2,h3,_⟩:=h.row k u r hu hr
    refine ⟨?_,h2,h3,hrow k u r hu hr⟩
    rw [World.cell?_setCell_other _ _ _ _ (by intro e;simp only [Addr.mk.injEq] at e;omega),World.cell?_setCell_other _ _ _ _ (by intro e;simp only [Addr.mk.injEq] at e;omega)]
    exact h1
 ·have hn:=List.nodup_cons.1 h.nodup
  rw [swp_map]
  refine List.nodup_cons.2 ⟨?_,swp_nodup hn.2 i j⟩
  intro hm
  refine hn.1 ?_
  obtain ⟨k,hk⟩:=List.getElem?_of_mem hm
  have a1:(tags.map (·.1))[i]?=some s.1:=by rw [List.getElem?_map,hs];rfl
  have a2:(tags.map (·.1))[j]?=some t.1:=by rw [List.getElem?_map,ht];rfl
  rw [swp_get a1 a2] at hk
  by_cases e1:k=j
  ·rw [if_pos e1] at hk;cases hk;exact List.mem_of_getElem? a1
  ·rw [if_neg e1] at hk
   by_cases e2:k=i
   ·rw [if_pos e2] at hk;cases hk;exact List.mem_of_getElem? a2
   ·rw [if_neg e2] at hk;exact List.mem_of_getElem? hk
end Go.Proofs.YtjlkkofmojgipaaGreatDoor
