import Derived.Test.YtjlkkofmojgipaaGreatDoorOAAC
import Derived.Test.YtjlkkofmojgipaaGreatDoorPAZ
import Derived.Test.YtjlkkofmojgipaaGreatDoorPAT
namespace Go.Proofs.YtjlkkofmojgipaaGreatDoor
set_option linter.unusedVariables false
set_option linter.unusedSimpArgs false
open Go.RowKit Go.Maps
theorem own_lit (w:World) (x:Int):OwnR w.heap.size (w.alloc (.cells #[.int .i64 x] 3)) (.slice (some ⟨w.heap.size,0,none⟩) 1 1) [x] :=
 World.ownsRow_lit (e:=3) (size:=1) w #[Value.int .i64 x] 1 (Nat.le_refl _) (by unfold maxLen;omega) rfl
set_option maxRecDepth 100000 in
set_option maxHeartbeats 4000000 in
theorem refInt10_any {n k:Nat} {X r:List Int} (hn:n<6) (hR:RightM n k X) (hk1:1≤k) (hrl:r.length=n) (hfit:∀ x∈r,x.natAbs≤1000000000) (u v:Value) (w:World) (h:ListAt 1 numC w u X) (hv:Ints w v r) (ht:Pow10 w) :
  Calls Tryz.prog 26 #[.agg #[.int .i64 n,.int .i64 k,u],v] w fun e w'=>∃ y,e=.returned y∧Ext w w'∧MultiV w' y n (k-1) (intL n k X r):=by
 obtain ⟨a,ca,rfl,a1,a2,-,ac⟩:=inCell.open (BigL.of_nums h)
 obtain ⟨av,cv,rfl,b1,b2,-,-,bc⟩:=hv.open
 unfold maxLen at a2 b2
 have HAC:=Lib.hid ac;have HBC:=Lib.hid bc
 have HAR:=Lib.hid hR
 have HFT:=Lib.hid hfit
 have HT:=Lib.hid ht
 have HN:=Lib.hid hn
 have HK1:=Lib.hid hk1
 obtain ⟨m,hm⟩:∃ m,X.length=m:=⟨_,rfl⟩
 have HM:=Lib.hid hm
 have HRL:=Lib.hid hrl
 rw [hm] at a1 ⊢
 rw [hrl] at b1 ⊢
 obtain ⟨w1,hw1,hE1,hs1,hb1⟩:=boxR w (.int .i64 n) (.int .i64 k) (.slice a m ca)
 obtain ⟨w2,hw2,hE2,hs2,hb2⟩:=boxR w1 (.int .i64 0) (.int .i64 0) (.slice none 0 0)
 have HE2:=Lib.hid (hE1.trans hE2)
 have HB1:=Lib.hid (block_ext hb1 hE2);have HB2:=Lib.hid hb2
 have HSZ:Hid (w1.heap.size=w.heap.size+1∧w2.heap.size=w1.heap.size+1):=⟨hs1,hs2⟩
 have k1:=block_cell HB1.out
 have hkn:=hR.kn
 have HKN:=Lib.hid hkn
 obtain ⟨d,hd⟩:∃ d,k-1=d:=⟨_,rfl⟩
 have HD:Hid (d+1=k):=by unfold Hid;omega
 have e1:IntKind.i64.wrap ((k:Int)-1)=(d:Int):=by rw [IntKind.wrap_i64];omega
 have hdn:d≤n:=by omega
 have HDN:=Lib.hid hdn
 obtain ⟨D,hD⟩:∃ D,intL n k X r=D:=⟨_,rfl⟩
 have HDM:Hid (D=(allW n d).map fun s:Nat=>intTo n k X r s n):=by unfold Hid;rw [← hD,← hd];rfl
 rw [hD,hd]
 have HSA:Hid (∀ k,k≤n→∀ W,Calls Tryz.prog 33 #[.int .i64 (n:Int),.int .i64 (k:Int)] W fun e w'=>∃ a6 c6,e=.returned (.slice a6 (allW n k).length c6)∧Rows2 w' (.slice a6 (allW n k).length c6) (castS (setsL n k))∧Ext W w'):=fun k hk W=>(refSets_any n k (by have:=HN.out;omega) hk W).mono fun e w' ⟨v,h1,h2,h3⟩=>by
  obtain ⟨a6,c6,rfl,-⟩:=ListAt.open h2
  have hl:(castS (setsL n k)).length=(allW n k).length:=by unfold castS;rw [List.length_map,← agree_len n (by have:=HN.out;omega) k (by omega)]
  rw [hl] at h1 h2
  exact ⟨a6,c6,h1,h2,h3⟩
 have HZR:Hid (∀ W,Calls Tryz.prog 66 #[.int .i64 n,.int .i64 d] W _):=fun W=>refZero10_any n d (by have:=HN.out;omega) hdn W
 obtain ⟨z,hz⟩:∃ z,(allW n d).length=z:=⟨_,rfl⟩
 have HZ:=Lib.hid hz
 have HLM:Hid ((allW n k).length=m):=by unfold Hid;rw [← hm];exact hR.len.symm
 rw [hz] at HZR
 have HS1:=Lib.hid (HSA.out k hkn);have HS2:=Lib.hid (HSA.out d hdn)
 rw [HLM.out] at HS1;rw [hz] at HS2
 clear hb1 hb2 hE1 hE2 h hv hs1 hs2 hR hm hD hd ac bc ht HSA hz hrl hfit
 go_enter Tryz.func26,Tryz.ntmps26
 go_wp2_with fail
 refine (HZR.out w2).mono ?_
 rintro e w4 ⟨g,cg,rfl,hRN,hgl,hgr,hgc,hgm,h4⟩
 have HRN4:=Lib.hid hRN;have HGC:=Lib.hid hgc;have HGM:=Lib.hid hgm;have HGL:=Lib.hid hgl;have HGR:=Lib.hid hgr
 have HE4:Hid (Ext w2 w4):=h4
 obtain ⟨w5a,hw5,hE5,hs5,hb5⟩:=boxR w4 (.int .i64 0) (.int .i64 0) (.slice none 0 0)
 have HE5:=Lib.hid hE5;have HB5:=Lib.hid hb5
 have f5:=block_free hb5
 have k5:=block_cell hb5
 clear hRN hgl hgr hgc hgm h4 HZR hE5 hs5 hb5 k1 hw1 hw2
 go_upto_region 2 with fail
 generalize hw9:World.setCell _ _ _=w5
 have HBO5:Hid (w5.heap[w4.heap.size]?=some (.cells #[.int .i64 n,.int .i64 d,.slice (some ⟨g,0,none⟩) z cg] 37 (0,0))):=by rw [← hw9];exact store3 HB5.out _ _ _
 have HX45:Hid (Ext w4 w5):=by rw [← hw9];exact multi_ext HE5.out (Nat.le_refl _) _ _ _
 have HX25:Hid (Ext w2 w5):=HE4.out.trans HX45.out
 have HB15:=Lib.hid (block_ext HB1.out HX25.out)
 have HB25:=Lib.hid (block_ext HB2.out HX25.out)
 have HR5:=Lib.hid (HRN4.out.ext HX45.out)
 clear hw9 hw5 k5 f5
 obtain ⟨x1,hx1⟩:∃ x,w1.heap.size=x:=⟨_,rfl⟩
 obtain ⟨x4,hx4⟩:∃ x,w4.heap.size=x:=⟨_,rfl⟩
 have HOO:Hid (w.heap.size<x1∧x1<g∧g<x4∧w2.heap.size≤g):=by have:=HSZ.out;have:=HGL.out;have:=HGR.out;unfold Hid;omega
 rw [hx1] at HB25
 rw [hx4] at HBO5
 (try rw [hx1]);(try rw [hx4])
 clear hx1 hx4
 have c0:=block_cell HB15.out 0;have c1:=block_cell HB15.out 1
 simp only [List.getElem?_toArray,List.getElem?_cons_succ,List.getElem?_cons_zero] at c0 c1
 refine region_anyEV (fun w'=>w'.cell? ⟨w.heap.size,0,none⟩=some (.int .i64 n)∧w'.cell? ⟨w.heap.size,1,none⟩=some (.int .i64 k)∧Hid (Ext w5 w')) 13 13 (by kernel_rfl) (by kernel_rfl) ⟨(Ext.drew w5).cell c0,(Ext.drew w5).cell c1,Ext.drew w5⟩ (fun ops hO hHeld=>?_)
 have hi:=getopN hO 0 (by decide)
 conv at hi=>rhs;arg 1;whnf
 refine anyE_takeWV hO (v:=?_) 0 hi (by kernel_rfl) (by kernel_rfl) (by kernel_rfl) (by kernel_rfl) (fun _ _ _ h=>h) (Or.inl ⟨by rfl,?_⟩) (by assumption) ?_
 rotate_left
 ·((intro w');(try go_simp);(try with_reducible rfl))
 clear hi
 (try simp only [Act.put,List.setIfInBounds_toArray,List.set_cons_zero,List.set_cons_succ])
 have hi:=getopN hO 1 (by decide)
 conv at hi=>rhs;arg 1;whnf
 refine anyE_takeV hO (v:=?_) 1 hi (by kernel_rfl) (by kernel_rfl) (by kernel_rfl) (by kernel_rfl) (fun _ _ _ h=>h) (Or.inl ⟨by rfl,?_⟩) (by assumption) ?_
 rotate_left
 ·((intro w' hSw);(try dsimp only at hSw);(try go_simp);(try with_reducible rfl))
 clear hi
 (try simp only [Act.put,List.setIfInBounds_toArray,List.set_cons_zero,List.set_cons_succ])
 have hi:=getopN hO 2 (by decide)
 conv at hi=>rhs;arg 1;whnf
 refine anyE_takeWV hO (v:=?_) 2 hi (by kernel_rfl) (by kernel_rfl) (by kernel_rfl) (by kernel_rfl) (fun _ _ _ h=>h) (Or.inl ⟨by rfl,?_⟩) (by assumption) ?_
 rotate_left
 ·((intro w');(try go_simp);(try with_reducible rfl))
 clear hi
 (try simp only [Act.put,List.setIfInBounds_toArray,List.set_cons_zero,List.set_cons_succ])
 have hi:=getopN hO 3 (by decide)
 conv at hi=>rhs;arg 1;whnf
 refine anyE_takeV hO (v:=?_) 3 hi (by kernel_rfl) (by kernel_rfl) (by kernel_rfl) (by kernel_rfl) (fun _ _ _ h=>h) (Or.inl ⟨by rfl,?_⟩) (by assumption) ?_
 rotate_left
 ·((intro w' hSw);(try dsimp only at hSw);(try go_simp);(try with_reducible rfl))
 clear hi
 (try simp only [Act.put,List.setIfInBounds_toArray,List.set_cons_zero,List.set_cons_succ])
 have hi:=getopN hO 5 (by decide)
 conv at hi=>rhs;arg 1;whnf
 refine anyE_takeWV hO (v:=?_) 5 hi (by kernel_rfl) (by kernel_rfl) (by kernel_rfl) (by kernel_rfl) (fun _ _ _ h=>h) (Or.inl ⟨by rfl,?_⟩) (by assumption) ?_
 rotate_left
 ·((intro w');(try go_simp);(try with_reducible rfl))
 clear hi
 (try simp only [Act.put,List.setIfInBounds_toArray,List.set_cons_zero,List.set_cons_succ])
 have hi:=getopN hO 6 (by decide)
 conv at hi=>rhs;arg 1;whnf
 refine anyE_takeV hO (v:=?_) 6 hi (by kernel_rfl) (by kernel_rfl) (by kernel_rfl) (by kernel_rfl) (fun _ _ _ h=>h) (Or.inl ⟨by rfl,?_⟩) (by assumption) ?_
 rotate_left
 ·((intro w' hSw);(try dsimp only at hSw);(try go_simp);(try with_reducible rfl))
 clear hi
 (try simp only [Act.put,List.setIfInBounds_toArray,List.set_cons_zero,List.set_cons_succ])
 have hi:=getopN hO 7 (by decide)
 conv at hi=>rhs;arg 1;whnf
 refine anyE_takeWV hO (v:=?_) 7 hi (by kernel_rfl) (by kernel_rfl) (by kernel_rfl) (by kernel_rfl) (fun _ _ _ h=>h) (Or.inl ⟨by rfl,?_⟩) (by assumption) ?_
 rotate_left
 ·((intro w');(try go_simp);(try with_reducible rfl))
 clear hi
 (try simp only [Act.put,List.setIfInBounds_toArray,List.set_cons_zero,List.set_cons_succ])
 have hi:=getopN hO 8 (by decide)
 conv at hi=>rhs;arg 1;whnf
 refine anyE_takeV hO (v:=?_) 8 hi (by kernel_rfl) (by kernel_rfl) (by kernel_rfl) (by kernel_rfl) (fun _ _ _ h=>h) (Or.inl ⟨by rfl,?_⟩) (by assumption) ?_
 rotate_left
 ·((intro w' hSw);(try dsimp only at hSw);(try go_simp);(try with_reducible rfl))
 clear hi
 (try simp only [Act.put,List.setIfInBounds_toArray,List.set_cons_zero,List.set_cons_succ])
 have hi:=getopN hO 9 (by decide)
 conv at hi=>rhs;arg 1;whnf
 refine anyE_takeWV hO (v:=?_) 9 hi (by kernel_rfl) (by kernel_rfl) (by kernel_rfl) (by kernel_rfl) (fun _ _ _ h=>h) (Or.inl ⟨by rfl,?_⟩) (by assumption) ?_
 rotate_left
 ·((intro w');(try go_simp);(try with_reducible rfl))
 clear hi
 (try simp only [Act.put,List.setIfInBounds_toArray,List.set_cons_zero,List.set_cons_succ])
 have hi:=getopN hO 4 (by decide)
 conv at hi=>rhs;arg 1;whnf
 refine anyE_stepV hO 4 (by kernel_rfl) hi (fun K hK=>?_)
 go_simp
 (go_at_call 33;refine (HS1.out _).mono ?_)
 rintro e wz1 ⟨s1,q1,rfl,hR1,hEz⟩
 have HR1:=Lib.hid hR1
 have HY1:Hid (Ext w5.drew wz1):=hEz
 go_wp2_with fail
 refine hK.out _ _ ⟨(hEz).cell hHeld.1,(hEz).cell hHeld.2.1,Ext.trans hHeld.2.2.out (hEz)⟩ (fun hHeld=>?_)
 clear hK K hi
 (try simp only [Act.put,List.setIfInBounds_toArray,List.set_cons_zero,List.set_cons_succ])
 have hi:=getopN hO 10 (by decide)
 conv at hi=>rhs;arg 1;whnf
 refine anyE_stepV hO 10 (by kernel_rfl) hi (fun K hK=>?_)
 go_simp
 (go_at_call 33;refine (HS2.out _).mono ?_)
 rintro e wz2 ⟨s2,q2,rfl,hR2,hEz⟩
 have HR2:=Lib.hid hR2
 have HY2:Hid (Ext wz1 wz2):=hEz
 go_wp2_with fail
 refine hK.out _ _ ⟨(hEz).cell hHeld.1,(hEz).cell hHeld.2.1,Ext.trans hHeld.2.2.out (hEz)⟩ (fun hHeld=>?_)
 clear hK K hi
 (try simp only [Act.put,List.setIfInBounds_toArray,List.set_cons_zero,List.set_cons_succ])
 have hi:=getopN hO 11 (by decide)
 conv at hi=>rhs;arg 1;whnf
 refine anyE_takeWV hO (v:=?_) 11 hi (by kernel_rfl) (by kernel_rfl) (by kernel_rfl) (by kernel_rfl) (fun _ _ _ h=>h) (Or.inl ⟨by rfl,?_⟩) (by assumption) ?_
 rotate_left
 ·((intro w');(try go_simp);(try with_reducible rfl))
 clear hi
 (try simp only [Act.put,List.setIfInBounds_toArray,List.set_cons_zero,List.set_cons_succ])
 have hi:=getopN hO 12 (by decide)
 conv at hi=>rhs;arg 1;whnf
 refine anyE_lastV hO 12 (by kernel_rfl) (by kernel_rfl) hi (fun K hK=>?_)
 go_simp
 refine hK.out _ _ (by assumption) ?_
 clear hK K hi hO
 (try simp only [Act.put,List.setIfInBounds_toArray,List.set_cons_zero,List.set_cons_succ])
 obtain ⟨c0,c1,HX52⟩:=hHeld
 obtain ⟨wS,rfl⟩:∃ wS:World,wS=wz2:=⟨_,rfl⟩
 have HX5S:Hid (Ext w5 wS):=HX52.out
 have HX2S:Hid (Ext w2 wS):=HX25.out.trans HX5S.out
 have HES:Hid (Ext w wS):=HE2.out.trans HX2S.out
 have HR1S:=Lib.hid (Rows2.ext HR1.out HY2.out);have HR2S:=Lib.hid HR2.out
 have HB1S:=Lib.hid (block_ext HB15.out HX5S.out);have HB2S:=Lib.hid (block_ext HB25.out HX5S.out);have HBOS:=Lib.hid (block_ext HBO5.out HX5S.out)
 have HRS:=Lib.hid (HR5.out.ext HX5S.out)
 clear c0 c1 HS1 HS2 HX52
 obtain ⟨av1,cv1,hv1,m1,M1,-,y1⟩:=inCell.open HR1S.out
 obtain ⟨av2,cv2,hv2,m2,M2,-,y2⟩:=inCell.open HR2S.out
 have hl1:(castS (setsL n k)).length=m:=by unfold castS;rw [List.length_map,← agree_len n (by have:=HN.out;omega) k (by have:=HKN.out;omega)];exact HLM.out
 have hl2:(castS (setsL n d)).length=z:=by unfold castS;rw [List.length_map,← agree_len n (by have:=HN.out;omega) d (by have:=HDN.out;omega)];exact HZ.out
 rw [hl1] at m1 hv1
 rw [hl2] at m2 hv2
 simp only [Value.slice.injEq] at hv1 hv2
 obtain ⟨rfl,-,rfl⟩:=hv1
 obtain ⟨rfl,-,rfl⟩:=hv2
 unfold maxLen at M1 M2
 have HY2c:=Lib.hid y2
 have HG1:Hid (∀ W,NoS wS W→∀ (i s:Nat),(allW n d)[i]?=some s→∃ b o v,s2=some ⟨b,o,none⟩∧W.cell? ⟨b,o+i,none⟩=some v∧Ints W v (natsI (membL s))):=fun W hW i s hs=>by
  have hT:(castS (setsL n d))[i]?=some (natsI (membL s)):=by unfold castS;rw [List.getElem?_map,sets_get (by have:=HN.out;omega) HDN.out hs];rfl
  obtain ⟨b,o,he,-,hc⟩:=HY2c.out (by intro e;rw [e] at hT;simp at hT)
  obtain ⟨v,hv,hcell⟩:=hc i _ hT
  obtain ⟨ag,cg',rfl,-⟩:=ListAt.open hv
  exact ⟨b,o,_,he,hW.2 _ _ hcell (fun s e=>by cases e),hv.noS hW⟩
 have HG3:Hid (∀ W,NoS wS W→Rows2 W (.slice s1 m q1) (castS (setsL n k))):=fun W hW=>rows_noS HR1S.out hW
 clear y1 y2 hl1 hl2
 have hL3:=allW_len (n:=n) (k:=d) (by have:=HN.out;omega) HDN.out
 rw [HZ.out] at hL3
 have HL3:=Lib.hid hL3
 have HPR:Hid (∀ s∈allW n d,∀ i,i<n→_):=fun s hs i hi=>in_pair (n:=n) (k:=k) (d:=d) HN.out HD.out HKN.out hs hi
 have HPZ:Hid (∀ r∈allW n k,placeW n k r=placeL (setsL n k) (membL r)∧placeW n k r<m):=fun r hr=>by
  have h9:=place_get (n:=n) (by have:=HN.out;omega) HKN.out hr
  rw [HLM.out] at h9;exact h9
 have HLP:Hid (∀ i,i≤z→(inOut n k d X r i).length=z):=fun i hi=>by rw [inOut_len (by rw [HZ.out];exact hi)];exact HZ.out
 have HP0:Hid (List.replicate z 0=inOut n k d X r 0):=by unfold Hid;rw [inOut_zero,HZ.out]
 have HPD:Hid (D=inOut n k d X r z):=by unfold Hid;rw [HDM.out,← inOut_done,HZ.out]
 rw [HP0.out] at HRS
 clear hL3
 go_wp2_with fail
 go_loopw [8] (fun t wr=>∃ i:Nat,i≤z∧t=.int .i64 (i:Int)∧Hid (GrownS (·=g) wS wr)∧Hid (NoS wS wr)∧Hid (RowN wr g (inOut n k d X r i))) (fun t _=>z+1-(intOf t).toNat)
 case atStart=>exact ⟨0,by omega,by simp,GrownS.refl _ _,NoS.refl _,HRS.out⟩
 case round =>
  obtain ⟨i,hi,rfl,HG,HNS,HGB⟩:=hrel
  obtain ⟨wi,rfl⟩:∃ wi:World,wi=wr:=⟨_,rfl⟩
  by_cases hlt:i<z
  ·obtain ⟨s,hs⟩:∃ s,(allW n d)[i]?=some s:=⟨_,List.getElem?_eq_getElem (by rw [HZ.out];exact hlt)⟩
   have HS:=Lib.hid hs
   have hin:(i:Int)<(z:Int):=by omega
   have HI:=Lib.hid hi
   clear hs
   go_wp2_with fail
   go_loopw [9] (fun t wr=>∃ kk:Nat,kk≤n∧t=.int .i64 (kk:Int)∧Hid (GrownS (·=g) wS wr)∧Hid (NoS wS wr)∧Hid (RowN wr g ((inOut n k d X r i).set i (intTo n k X r s kk)))) (fun t _=>n+1-(intOf t).toNat)
   case atStart=>exact ⟨0,by omega,by simp,HG.out,HNS.out,by rw [inOut_set0 HS.out];exact HGB.out⟩
   case round =>
    obtain ⟨j,hj,rfl,HG2',HNS2,HGB2⟩:=hrel
    obtain ⟨wp,rfl⟩:∃ wp:World,wp=wr:=⟨_,rfl⟩
    have HB1p:=Lib.hid ((HG2'.out.block w.heap.size (block_lt HB1S.out) (by have:=HOO.out;omega)).trans HB1S.out)
    have z0:=block_cell HB1p.out 0
    simp only [List.getElem?_toArray,List.getElem?_cons_succ,List.getElem?_cons_zero] at z0
    by_cases hkl:j<n
    ·have hkn:(j:Int)<(n:Int):=by omega
     obtain ⟨x,hx⟩:∃ x,r[j]?=some x:=⟨_,List.getElem?_eq_getElem (by rw [HRL.out];exact hkl)⟩
     obtain ⟨b1,o1,v1,rfl,z1,hv1⟩:=HG1.out wp HNS2.out i s HS.out
     obtain ⟨ag1,cg1,rfl,hg1,hg2,-⟩:=ListAt.open hv1
     unfold maxLen at hg2
     have HV1:=Lib.hid hv1
     have hsm:=List.mem_of_getElem? HS.out
     have hsl:=membL_len s
     have HSL:=Lib.hid hsl
     have HMT:Hid (∀ sb,sb=(mergedL [j] (membL s)).isSome→∀ u W,Ints W u (natsI [j])→Ext wp W→Calls Tryz.prog 67 #[u,.slice ag1 (natsI (membL s)).length cg1] W fun e w'=>∃ o,e=.returned (.tuple #[o,.bool sb])∧Ext W w'∧∀ M,mergedL [j] (membL s)=some M→Ints w' o (natsI M)):=fun sb hsb u W hu hW=>merged10_any [j] (membL s) (by simp) hsl (fun x hx=>by rcases hx with hx | hx;(rw [List.mem_singleton] at hx;have:=HN.out;omega);(have:=membL_all x hx;omega)) sb hsb _ _ W hu (HV1.out.ext hW)
     have HPP:=HPR.out s hsm j hkl
     have HLK:Hid (((inOut n k d X r i).set i (intTo n k X r s j)).length=z):=by unfold Hid;rw [List.length_set];exact HLP.out i HI.out
     obtain ⟨acc,hacc⟩:∃ c,intTo n k X r s j=c:=⟨_,rfl⟩
     have HACC:=Lib.hid hacc
     have hsz:=intTo_size (n:=n) (k:=k) (X:=X) (r:=r) HAR.out.dig HFT.out s j (by have:=HN.out;omega)
     rw [hacc] at hsz
     have HSZA:=Lib.hid hsz
     rw [hacc] at HGB2 HLK
     obtain ⟨lm1,hlm1⟩:∃ l,(natsI (membL s)).length=l:=⟨_,rfl⟩
     have HLM1:=Lib.hid hlm1
     rw [hlm1] at z1 hg1 HMT HV1
     obtain ⟨wA,hwA⟩:∃ W,wp.alloc (.cells #[.int .i64 (j:Int)] 3)=W:=⟨_,rfl⟩
     have HXA:Hid (Ext wp wA):=by rw [← hwA];exact Ext.alloc _ _
     have HIA:Hid (Ints wA (.slice (some ⟨wp.heap.size,0,none⟩) 1 1) (natsI [j])):=by
      have h9:=own_lit wp (j:Int)
      rw [hwA] at h9
      exact Ints.of_owns h9 (fun y hy=>by
       obtain rfl:y=(j:Int):=by simpa [natsI] using hy
       have:=HN.out;omega)
     have zA:=HXA.out.cell z1
     have HXX:=Lib.hid hx
     have HKL:=Lib.hid hkl
     clear hsz hacc hv1 hsl hlm1 hx
     rcases HPP with ⟨h0,hm,hrm,ho⟩ | ⟨h0,hm⟩
     rotate_left
     ·have HMF:=Lib.hid (HMT.out false (by rw [hm];rfl) _ wA HIA.out HXA.out)
      have HNX:Hid (intTo n k X r s (j+1)=acc):=by unfold Hid;rw [intTo_hit h0];exact HACC.out
      clear h0 hm HMT
      go_wp2_with fail
      refine HMF.out.mono ?_
      rintro e wz ⟨o9,rfl,hEz,-⟩
      have HEz:Hid (Ext wp wz):=HXA.out.trans hEz
      clear hEz
      go_wp2_with fail
      go_roundw
      case rel=>exact ⟨j+1,by omega,by go_num,HG2'.out.ext HEz.out,HNS2.out.ext HEz.out,by rw [HNX.out];exact HGB2.out.ext HEz.out⟩
      case measure=>simp [intOf];omega
     have HMS:=Lib.hid (HMT.out true (by rw [hm];rfl) _ wA HIA.out HXA.out)
     obtain ⟨q,hq⟩:∃ q,s ||| (1 <<< j)=q:=⟨_,rfl⟩
     rw [hq] at hm hrm
     obtain ⟨hp1,hp2⟩:=HPZ.out q hrm
     obtain ⟨p,hp⟩:∃ p,placeW n k q=p:=⟨_,rfl⟩
     rw [hp] at hp1 hp2
     obtain ⟨y,hy⟩:∃ y,X[p]?=some y:=⟨_,List.getElem?_eq_getElem (by rw [HM.out];exact hp2)⟩
     have HNX:Hid (intTo n k X r s (j+1)=acc+sgnI (x*y) (oddW (1 <<< j) s)):=by
      unfold Hid
      rw [intTo_miss h0 HXX.out (by rw [hq,hp];exact hy),HACC.out]
     have HMQ:=Lib.hid hm;have HRM:=Lib.hid hrm;have HOD:=Lib.hid ho;have HPQ:=Lib.hid hp1
     have hdy:=HAR.out.dig y (List.mem_of_getElem? hy)
     have hdx:=HFT.out x (List.mem_of_getElem? HXX.out)
     have HDX:=Lib.hid hdx;have HDY:=Lib.hid hdy
     obtain ⟨ba,oa,rfl,-,hca⟩:=HAC.out (by intro e;rw [e] at hy;simp at hy)
     obtain ⟨z9,e9,g9⟩:=hca p y hy
     obtain rfl:z9=.string (intB y):=e9
     obtain ⟨bb,ob,rfl,-,hcb⟩:=HBC.out (by intro e;have h9:=HXX.out;rw [e] at h9;simp at h9)
     have g8:=hcb j x HXX.out
     have hblt1:=cell_in g9;have hblt2:=cell_in g8
     have z3:=HG2'.out.cell (HES.out.cell g9) (by have:=HOO.out;omega)
     have z4:=HG2'.out.cell (HES.out.cell g8) (by have:=HOO.out;omega)
     have z2:=block_cell HB1p.out 2
     have z7:=HG2'.out.cell (block_cell HBOS.out 2) (by have:=HOO.out;omega)
     (try simp only [List.getElem?_toArray,List.getElem?_cons_succ,List.getElem?_cons_zero] at z2 z7)
     have hpm:(p:Int)<(m:Int):=by omega
     clear h0 hm hrm ho hq hp hp1 hp2 hy hdx hdy hca hcb g9 g8 hblt1 hblt2 HMT
     go_wp2_with fail
     refine HMS.out.mono ?_
     rintro e wz ⟨o9,rfl,hEz,hIz⟩
     have HI9:=Lib.hid (hIz _ HMQ.out)
     have HEz:Hid (Ext wp wz):=HXA.out.trans hEz
     have HEW:Hid (Ext w wp):=ext_grownS HES.out HG2'.out (fun j hj e=>by have:=HOO.out;omega)
     have HPL:Hid (∀ W,Ext wz W→Calls Tryz.prog 70 #[.slice s1 m q1,o9] W fun e w'=>e=.returned (.int .i64 p)∧Ext W w'):=fun W hW=>by
      have hmem:membL q∈setsL n k:=by rw [← sets_map (by have:=HN.out;omega) HKN.out];exact List.mem_map_of_mem HRM.out
      have hln:∀ T∈setsL n k,T.length=k:=fun T hT=>(sets_ok (by have:=HN.out;omega) HKN.out).1.len T hT
      have h9:=place10_any (setsL n k) (membL q) hmem (fun T hT=>by rw [hln T hT,hln _ hmem]) (sets_ok (by have:=HN.out;omega) HKN.out).2.2 (membL_len q) _ _ W (HG3.out W (HNS2.out.ext (HEz.out.trans hW))) (HI9.out.ext hW)
      rw [← HPQ.out] at h9
      exact h9
     have HOF:Hid (∀ W,Ext wz W→Calls Tryz.prog 69 #[.int .i64 x] W fun e w'=>e=.returned (.string (intB x))∧Ext W w'):=fun W hW=>rOf_any x W (by have:=HDX.out;omega) (by have:=HDX.out;omega) (HT.out.ext (HEW.out.trans (HEz.out.trans hW)))
     have hsx:(intB x).size≤15000:=Nat.le_trans (size_of_abs (K:=10) (Nat.lt_of_le_of_lt HDX.out (by decide)) (by decide)) (by decide)
     have hsy:=(digits_size HDY.out).2
     have HMU:Hid (∀ W,Ext wz W→Calls Tryz.prog 68 #[.string (intB x),.string (intB y)] W fun e w'=>e=.returned (.string (intB (x*y)))∧Ext W w'):=fun W hW=>rMul_any x y W hsx (by omega) (HT.out.ext (HEW.out.trans (HEz.out.trans hW)))
     obtain ⟨u1,hu1⟩:∃ u,intB x=u:=⟨_,rfl⟩
     obtain ⟨u2,hu2⟩:∃ u,intB y=u:=⟨_,rfl⟩
     obtain ⟨u3,hu3⟩:∃ u,intB (x*y)=u:=⟨_,rfl⟩
     have HU3:=Lib.hid hu3
     rw [hu1] at HOF HMU
     rw [hu2] at HMU z3
     rw [hu3] at HMU
     have y1:=HEz.out.cell z1;have y2:=HEz.out.cell z2;have y3:=HEz.out.cell z3;have y4:=HEz.out.cell z4;have y7:=HEz.out.cell z7
     clear hEz hIz hu1 hu2 hu3 hsx hsy z1 z2 z3 z4 z7 z0 zA hwA HMS
     go_upto_region 11 with fail
     refine region_anyEV (fun w'=>w'.cell? ⟨bb,ob+j,none⟩=some (.int .i64 x)∧w'.cell? ⟨w.heap.size,2,none⟩=some (.slice (some ⟨ba,oa,none⟩) m ca)∧w'.cell? ⟨ba,oa+p,none⟩=some (.string u2)∧Hid (Ext wz w')) 14 14 (by kernel_rfl) (by kernel_rfl) ⟨(Ext.drew wz).cell y4,(Ext.drew wz).cell y2,(Ext.drew wz).cell y3,Ext.drew wz⟩ (fun ops hO hHeld=>?_)
     have hi:=getopN hO 0 (by decide)
     conv at hi=>rhs;arg 1;whnf
     refine anyE_takeWV hO (v:=?_) 0 hi (by kernel_rfl) (by kernel_rfl) (by kernel_rfl) (by kernel_rfl) (fun _ _ _ h=>h) (Or.inl ⟨by rfl,?_⟩) (by assumption) ?_
     rotate_left
     ·((intro w');(try go_simp);(try with_reducible rfl))
     clear hi
     (try simp only [Act.put,List.setIfInBounds_toArray,List.set_cons_zero,List.set_cons_succ])
     have hi:=getopN hO 1 (by decide)
     conv at hi=>rhs;arg 1;whnf
     refine anyE_takeWV hO (v:=?_) 1 hi (by kernel_rfl) (by kernel_rfl) (by kernel_rfl) (by kernel_rfl) (fun _ _ _ h=>h) (Or.inl ⟨by rfl,?_⟩) (by assumption) ?_
     rotate_left
     ·((intro w');(try go_simp);(try with_reducible rfl))
     clear hi
     (try simp only [Act.put,List.setIfInBounds_toArray,List.set_cons_zero,List.set_cons_succ])
     have hi:=getopN hO 2 (by decide)
     conv at hi=>rhs;arg 1;whnf
     refine anyE_takeWV hO (v:=?_) 2 hi (by kernel_rfl) (by kernel_rfl) (by kernel_rfl) (by kernel_rfl) (fun _ _ _ h=>h) (Or.inl ⟨by rfl,?_⟩) (by assumption) ?_
     rotate_left
     ·((intro w');(try go_simp);(try with_reducible rfl))
     clear hi
     (try simp only [Act.put,List.setIfInBounds_toArray,List.set_cons_zero,List.set_cons_succ])
     have hi:=getopN hO 3 (by decide)
     conv at hi=>rhs;arg 1;whnf
     refine anyE_takeV hO (v:=?_) 3 hi (by kernel_rfl) (by kernel_rfl) (by kernel_rfl) (by kernel_rfl) (fun _ _ _ h=>h) (Or.inl ⟨by rfl,?_⟩) (by assumption) ?_
     rotate_left
     ·((intro w' hSw);(try dsimp only at hSw);(try go_simp);(try with_reducible rfl))
     clear hi
     (try simp only [Act.put,List.setIfInBounds_toArray,List.set_cons_zero,List.set_cons_succ])
     have hi:=getopN hO 5 (by decide)
     conv at hi=>rhs;arg 1;whnf
     refine anyE_takeWV hO (v:=?_) 5 hi (by kernel_rfl) (by kernel_rfl) (by kernel_rfl) (by kernel_rfl) (fun _ _ _ h=>h) (Or.inl ⟨by rfl,?_⟩) (by assumption) ?_
     rotate_left
     ·((intro w');(try go_simp);(try with_reducible rfl))
     clear hi
     (try simp only [Act.put,List.setIfInBounds_toArray,List.set_cons_zero,List.set_cons_succ])
     have hi:=getopN hO 6 (by decide)
     conv at hi=>rhs;arg 1;whnf
     refine anyE_takeV hO (v:=?_) 6 hi (by kernel_rfl) (by kernel_rfl) (by kernel_rfl) (by kernel_rfl) (fun _ _ _ h=>h) (Or.inl ⟨by rfl,?_⟩) (by assumption) ?_
     rotate_left
     ·((intro w' hSw);(try dsimp only at hSw);(try go_simp);(try with_reducible rfl))
     clear hi
     (try simp only [Act.put,List.setIfInBounds_toArray,List.set_cons_zero,List.set_cons_succ])
     have hi:=getopN hO 7 (by decide)
     conv at hi=>rhs;arg 1;whnf
     refine anyE_takeWV hO (v:=?_) 7 hi (by kernel_rfl) (by kernel_rfl) (by kernel_rfl) (by kernel_rfl) (fun _ _ _ h=>h) (Or.inl ⟨by rfl,?_⟩) (by assumption) ?_
     rotate_left
     ·((intro w');(try go_simp);(try with_reducible rfl))
     clear hi
     (try simp only [Act.put,List.setIfInBounds_toArray,List.set_cons_zero,List.set_cons_succ])
     have hi:=getopN hO 8 (by decide)
     conv at hi=>rhs;arg 1;whnf
     refine anyE_takeWV hO (v:=?_) 8 hi (by kernel_rfl) (by kernel_rfl) (by kernel_rfl) (by kernel_rfl) (fun _ _ _ h=>h) (Or.inl ⟨by rfl,?_⟩) (by assumption) ?_
     rotate_left
     ·((intro w');(try go_simp);(try with_reducible rfl))
     clear hi
     (try simp only [Act.put,List.setIfInBounds_toArray,List.set_cons_zero,List.set_cons_succ])
     have hi:=getopN hO 4 (by decide)
     conv at hi=>rhs;arg 1;whnf
     refine anyE_stepV hO 4 (by kernel_rfl) hi (fun K hK=>?_)
     go_simp
     (go_at_call 69;refine (HOF.out _ hHeld.2.2.2.out).mono ?_)
     rintro e wm1 ⟨rfl,hEz⟩
     go_wp2_with fail
     refine hK.out _ _ ⟨(hEz).cell hHeld.1,(hEz).cell hHeld.2.1,(hEz).cell hHeld.2.2.1,Ext.trans hHeld.2.2.2.out (hEz)⟩ (fun hHeld=>?_)
     clear hK K hi
     (try simp only [Act.put,List.setIfInBounds_toArray,List.set_cons_zero,List.set_cons_succ])
     have hi:=getopN hO 9 (by decide)
     conv at hi=>rhs;arg 1;whnf
     refine anyE_stepV hO 9 (by kernel_rfl) hi (fun K hK=>?_)
     go_simp
     (go_at_call 70;refine (HPL.out _ hHeld.2.2.2.out).mono ?_)
     rintro e wm2 ⟨rfl,hEz⟩
     go_wp2_with fail
     refine hK.out _ _ ⟨(hEz).cell hHeld.1,(hEz).cell hHeld.2.1,(hEz).cell hHeld.2.2.1,Ext.trans hHeld.2.2.2.out (hEz)⟩ (fun hHeld=>?_)
     clear hK K hi
     (try simp only [Act.put,List.setIfInBounds_toArray,List.set_cons_zero,List.set_cons_succ])
     have hi:=getopN hO 10 (by decide)
     conv at hi=>rhs;arg 1;whnf
     refine anyE_takeWV hO (v:=?_) 10 hi (by kernel_rfl) (by kernel_rfl) (by kernel_rfl) (by kernel_rfl) (fun _ _ _ h=>h) (Or.inl ⟨by rfl,?_⟩) (by assumption) ?_
     rotate_left
     ·((intro w');(try go_simp);(try with_reducible rfl))
     clear hi
     (try simp only [Act.put,List.setIfInBounds_toArray,List.set_cons_zero,List.set_cons_succ])
     have hi:=getopN hO 11 (by decide)
     conv at hi=>rhs;arg 1;whnf
     refine anyE_takeV hO (v:=?_) 11 hi (by kernel_rfl) (by kernel_rfl) (by kernel_rfl) (by kernel_rfl) (fun _ _ _ h=>h) (Or.inl ⟨by rfl,?_⟩) (by assumption) ?_
     rotate_left
     ·((intro w' hSw);(try dsimp only at hSw);(try go_simp);(try with_reducible rfl))
     clear hi
     (try simp only [Act.put,List.setIfInBounds_toArray,List.set_cons_zero,List.set_cons_succ])
     have hi:=getopN hO 12 (by decide)
     conv at hi=>rhs;arg 1;whnf
     refine anyE_stepV hO 12 (by kernel_rfl) hi (fun K hK=>?_)
     go_simp
     (go_at_call 68;refine (HMU.out _ hHeld.2.2.2.out).mono ?_)
     rintro e wm ⟨rfl,hEz⟩
     go_wp2_with fail
     refine hK.out _ _ ⟨(hEz).cell hHeld.1,(hEz).cell hHeld.2.1,(hEz).cell hHeld.2.2.1,Ext.trans hHeld.2.2.2.out (hEz)⟩ (fun hHeld=>?_)
     clear hK K hi
     (try simp only [Act.put,List.setIfInBounds_toArray,List.set_cons_zero,List.set_cons_succ])
     have hi:=getopN hO 13 (by decide)
     conv at hi=>rhs;arg 1;whnf
     refine anyE_lastV hO 13 (by kernel_rfl) (by kernel_rfl) hi (fun K hK=>?_)
     go_simp
     refine hK.out _ _ (by assumption) ?_
     clear hK K hi hO
     (try simp only [Act.put,List.setIfInBounds_toArray,List.set_cons_zero,List.set_cons_succ])
     have HEm:Hid (Ext wz wm):=hHeld.2.2.2
     have HEpm:Hid (Ext wp wm):=HEz.out.trans HEm.out
     have z1:=HEm.out.cell y1;have z7:=HEm.out.cell y7
     clear hHeld y1 y2 y3 y4 y7 HMU HOF HPL
     obtain ⟨wL,hwL⟩:∃ W,wm.alloc (.cells #[.int .i64 (j:Int)] 3)=W:=⟨_,rfl⟩
     have HXL:Hid (Ext wm wL):=by rw [← hwL];exact Ext.alloc _ _
     have HOL:Hid (OwnR wm.heap.size wL (.slice (some ⟨wm.heap.size,0,none⟩) 1 1) [(j:Int)]):=by
      have h9:=own_lit wm (j:Int)
      rw [hwL] at h9;exact h9
     have zL:=HXL.out.cell z1
     go_wp2_with (at_builtin;go_must (refine wpList_append_manyI rfl wL _ _ 26 Tryz.underlying26 rfl wm.heap.size (.slice (some ⟨wm.heap.size,0,none⟩) 1 1) [(j:Int)] (natsI (membL s)) (.slice ag1 lm1 cg1) rfl HOL.out rfl (HV1.out.ext (HEpm.out.trans HXL.out)) ?c1 HXL.out.size ?_))
     case c1 =>
      have h8:=HSL.out
      unfold natsI;rw [List.length_map,List.length_singleton];omega
     intro v6 wC hO6 hB6
     have HXC:Hid (Ext wm wC):=Below.trans HXL.out hB6
     have HI6:Hid (Ints wC v6 (natsI ([j]++membL s))):=by
      have e9:natsI ([j]++membL s)=[(j:Int)]++natsI (membL s):=by simp [natsI]
      unfold Hid
      rw [e9]
      refine Ints.of_owns hO6 (fun y hy=>?_)
      rw [← e9] at hy
      obtain ⟨q9,hq9,rfl⟩:=List.mem_map.1 hy
      have h12:q9<12:=by
       rcases List.mem_append.1 hq9 with h | h
       ·rw [List.mem_singleton] at h;have:=HN.out;have:=HKL.out;omega
       ·exact membL_all q9 h
      omega
     obtain ⟨o,ho⟩:∃ o,oddW (1 <<< j) s=o:=⟨_,rfl⟩
     have HDD9:Hid (Calls Tryz.prog 71 #[v6] wC fun e w'=>e=.returned (.bool o)∧Ext wC w'):=by
      unfold Hid
      rw [← ho,HOD.out]
      exact odd10_any ([j]++membL s) (by rw [List.length_append,List.length_singleton];have:=HSL.out;omega) v6 wC HI6.out
     rw [ho] at HNX
     clear hO6 hB6 ho hwL zL
     go_wp2_with fail
     refine HDD9.out.mono ?_
     rintro e wo ⟨rfl,hED⟩
     have HXo:Hid (Ext wm wo):=HXC.out.trans hED
     have HEpo:Hid (Ext wp wo):=HEpm.out.trans HXo.out
     have z7:=HXo.out.cell z7
     have HEwo:Hid (Ext w wo):=HEW.out.trans HEpo.out
     clear hED HDD9 z1
     obtain ⟨L,hL⟩:∃ L,(inOut n k d X r i).set i acc=L:=⟨_,rfl⟩
     have HLL:Hid (L[i]?=some acc):=by unfold Hid;rw [← hL];exact inOut_at HS.out acc
     have HL9:=Lib.hid hL
     rw [hL] at HGB2 HLK
     clear hL
     have hsz:=dig450 (mul_dig HDX.out HDY.out)
     have HRG:=Lib.hid (HGB2.out.ext HEpo.out)
     have z8:=HRG.out.cell i acc HLL.out
     have hs9:(intB (sgnI (x*y) o)).size≤1000:=dig450 (by rw [sgnI_abs];exact mul_dig HDX.out HDY.out)
     have HNG9:Hid (∀ W,Calls Tryz.prog 72 #[.string u3] W fun e w'=>e=.returned (.string (intB (-(x*y))))∧W=w'):=fun W=>by
      rw [← HU3.out];exact rNeg_any (x*y) W (by omega)
     have HAD:Hid (∀ W,Ext wo W→Calls Tryz.prog 73 #[.string (intB acc),.string (intB (sgnI (x*y) o))] W fun e w'=>e=.returned (.string (intB (acc+sgnI (x*y) o)))∧Ext W w'):=fun W hW=>rAdd_any acc (sgnI (x*y) o) W (by have:=HSZA.out;omega) (by omega) (HT.out.ext (HEwo.out.trans hW))
     have HXY:Hid (o=true→intB (sgnI (x*y) o)=intB (-(x*y))):=fun h=>by rw [h];rfl
     have HXN:Hid (o=false→intB (sgnI (x*y) o)=u3):=fun h=>by rw [h];exact HU3.out
     obtain ⟨u4,hu4⟩:∃ u,intB (sgnI (x*y) o)=u:=⟨_,rfl⟩
     obtain ⟨u5,hu5⟩:∃ u,intB acc=u:=⟨_,rfl⟩
     obtain ⟨u6,hu6⟩:∃ u,intB (acc+sgnI (x*y) o)=u:=⟨_,rfl⟩
     have HU6:=Lib.hid hu6
     rw [hu4] at HAD HXY HXN
     rw [hu5] at HAD z8
     rw [hu6] at HAD
     clear hs9 hsz hu4 hu5 hu6
     cases o with
     | true =>
      have e9:intB (-(x*y))=u4:=(HXY.out rfl).symm
      rw [e9] at HNG9
      clear e9
      go_wp2_with fail
      refine (HNG9.out wo).mono ?_
      rintro e w8 ⟨rfl,rfl⟩
      obtain ⟨wq,rfl⟩:∃ wq:World,wq=wo:=⟨_,rfl⟩
      go_upto_region 14 with fail
      refine region_anyEV (fun w'=>w'.cell? ⟨x4,2,none⟩=some (.slice (some ⟨g,0,none⟩) z cg)∧w'.cell? ⟨g,i,none⟩=some (.string u5)∧Hid (Ext wq w')) 11 12 (by kernel_rfl) (by kernel_rfl) ⟨(Ext.drew wq).cell z7,(Ext.drew wq).cell z8,Ext.drew wq⟩ (fun ops hO hHeld=>?_)
      have hi:=getopN hO 0 (by decide)
      conv at hi=>rhs;arg 1;whnf
      refine anyE_takeWV hO (v:=?_) 0 hi (by kernel_rfl) (by kernel_rfl) (by kernel_rfl) (by kernel_rfl) (fun _ _ _ h=>h) (Or.inl ⟨by rfl,?_⟩) (by assumption) ?_
      rotate_left
      ·((intro w');(try go_simp);(try with_reducible rfl))
      clear hi
      (try simp only [Act.put,List.setIfInBounds_toArray,List.set_cons_zero,List.set_cons_succ])
      have hi:=getopN hO 1 (by decide)
      conv at hi=>rhs;arg 1;whnf
      refine anyE_takeP hO (v:=?_) 1 [10] hi (by kernel_rfl) (by kernel_rfl) (by kernel_rfl) (by kernel_rfl) (by kernel_rfl) (fun _ _ _ h=>h) (Or.inl ⟨by rfl,?_⟩) (by assumption) ?_
      rotate_left
      ·((intro w' hSw);(try dsimp only at hSw);(try go_simp);(try with_reducible rfl))
      clear hi
      (try simp only [Act.put,List.setIfInBounds_toArray,List.set_cons_zero,List.set_cons_succ])
      have hi:=getopN hO 2 (by decide)
      conv at hi=>rhs;arg 1;whnf
      refine anyE_takeWV hO (v:=?_) 2 hi (by kernel_rfl) (by kernel_rfl) (by kernel_rfl) (by kernel_rfl) (fun _ _ _ h=>h) (Or.inl ⟨by rfl,?_⟩) (by assumption) ?_
      rotate_left
      ·((intro w');(try go_simp);(try with_reducible rfl))
      clear hi
      (try simp only [Act.put,List.setIfInBounds_toArray,List.set_cons_zero,List.set_cons_succ])
      have hi:=getopN hO 3 (by decide)
      conv at hi=>rhs;arg 1;whnf
      refine anyE_takeWV hO (v:=?_) 3 hi (by kernel_rfl) (by kernel_rfl) (by kernel_rfl) (by kernel_rfl) (fun _ _ _ h=>h) (Or.inl ⟨by rfl,?_⟩) (by assumption) ?_
      rotate_left
      ·((intro w');(try go_simp);(try with_reducible rfl))
      clear hi
      (try simp only [Act.put,List.setIfInBounds_toArray,List.set_cons_zero,List.set_cons_succ])
      have hi:=getopN hO 4 (by decide)
      conv at hi=>rhs;arg 1;whnf
      refine anyE_takeP hO (v:=?_) 4 [9,7,6] hi (by kernel_rfl) (by kernel_rfl) (by kernel_rfl) (by kernel_rfl) (by kernel_rfl) (fun _ _ _ h=>h) (Or.inl ⟨by rfl,?_⟩) (by assumption) ?_
      rotate_left
      ·((intro w' hSw);(try dsimp only at hSw);(try go_simp);(try with_reducible rfl))
      clear hi
      (try simp only [Act.put,List.setIfInBounds_toArray,List.set_cons_zero,List.set_cons_succ])
      have hi:=getopN hO 5 (by decide)
      conv at hi=>rhs;arg 1;whnf
      refine anyE_takeWV hO (v:=?_) 5 hi (by kernel_rfl) (by kernel_rfl) (by kernel_rfl) (by kernel_rfl) (fun _ _ _ h=>h) (Or.inl ⟨by rfl,?_⟩) (by assumption) ?_
      rotate_left
      ·((intro w');(try go_simp);(try with_reducible rfl))
      clear hi
      (try simp only [Act.put,List.setIfInBounds_toArray,List.set_cons_zero,List.set_cons_succ])
      have hi:=getopN hO 6 (by decide)
      conv at hi=>rhs;arg 1;whnf
      refine anyE_takeWV hO (v:=?_) 6 hi (by kernel_rfl) (by kernel_rfl) (by kernel_rfl) (by kernel_rfl) (fun _ _ _ h=>h) (Or.inl ⟨by rfl,?_⟩) (by assumption) ?_
      rotate_left
      ·((intro w');(try go_simp);(try with_reducible rfl))
      clear hi
      (try simp only [Act.put,List.setIfInBounds_toArray,List.set_cons_zero,List.set_cons_succ])
      have hi:=getopN hO 7 (by decide)
      conv at hi=>rhs;arg 1;whnf
      refine anyE_takeP hO (v:=?_) 7 [9] hi (by kernel_rfl) (by kernel_rfl) (by kernel_rfl) (by kernel_rfl) (by kernel_rfl) (fun _ _ _ h=>h) (Or.inl ⟨by rfl,?_⟩) (by assumption) ?_
      rotate_left
      ·((intro w' hSw);(try dsimp only at hSw);(try go_simp);(try with_reducible rfl))
      clear hi
      (try simp only [Act.put,List.setIfInBounds_toArray,List.set_cons_zero,List.set_cons_succ])
      have hi:=getopN hO 8 (by decide)
      conv at hi=>rhs;arg 1;whnf
      refine anyE_takeWV hO (v:=?_) 8 hi (by kernel_rfl) (by kernel_rfl) (by kernel_rfl) (by kernel_rfl) (fun _ _ _ h=>h) (Or.inl ⟨by rfl,?_⟩) (by assumption) ?_
      rotate_left
      ·((intro w');(try go_simp);(try with_reducible rfl))
      clear hi
      (try simp only [Act.put,List.setIfInBounds_toArray,List.set_cons_zero,List.set_cons_succ])
      have hi:=getopN hO 9 (by decide)
      conv at hi=>rhs;arg 1;whnf
      refine anyE_stepV hO 9 (by kernel_rfl) hi (fun K hK=>?_)
      go_simp
      (go_at_call 73;refine (HAD.out _ hHeld.2.2.out).mono ?_)
      rintro e wy ⟨rfl,hEz⟩
      go_wp2_with fail
      refine hK.out _ _ ⟨(hEz).cell hHeld.1,(hEz).cell hHeld.2.1,Ext.trans hHeld.2.2.out (hEz)⟩ (fun hHeld=>?_)
      clear hK K hi
      (try simp only [Act.put,List.setIfInBounds_toArray,List.set_cons_zero,List.set_cons_succ])
      have HWY:Hid (Ext wp wy):=HEpo.out.trans hHeld.2.2.out
      have HRY:=Lib.hid (HGB2.out.ext HWY.out)
      have kg:=HRY.out.free i
      have kz:=hHeld.2.1
      have hi:=getopN hO 10 (by decide)
      conv at hi=>rhs;arg 1;whnf
      refine anyE_takeWV hO (v:=?_) 10 hi (by kernel_rfl) (by kernel_rfl) (by kernel_rfl) (by kernel_rfl) (fun _ _ _ h=>h) (Or.inl ⟨by rfl,?_⟩) (by assumption) ?_
      rotate_left
      ·((intro w');(try go_simp);(try with_reducible rfl))
      clear hi
      (try simp only [Act.put,List.setIfInBounds_toArray,List.set_cons_zero,List.set_cons_succ])
      have hi:=getopN hO 11 (by decide)
      conv at hi=>rhs;arg 1;whnf
      refine anyE_lastP hO 11 (by kernel_rfl) (by kernel_rfl) (by kernel_rfl) hi (fun K hK=>?_)
      go_simp
      refine hK.out _ _ ?_
      clear hK K hi hO
      (try simp only [Act.put,List.setIfInBounds_toArray,List.set_cons_zero,List.set_cons_succ])
      go_wp2_with fail
      go_roundw
      case rel=>exact ⟨j+1,by omega,by go_num,(HG2'.out.ext HWY.out).trans (grownBy_S (grown_setCell _ _ _ _) (fun k hk=>by cases hk;rfl)),(HNS2.out.ext HWY.out).set HRY.out (by rw [HLK.out];omega),by
       have h9:=HRY.out.set i (by rw [HLK.out];omega) (acc+sgnI (x*y) true)
       rw [HU6.out] at h9
       rw [HNX.out]
       rw [← HL9.out,List.set_set] at h9
       exact h9⟩
      case measure=>simp [intOf];omega
     | false =>
      have e9:u4=u3:=HXN.out rfl
      obtain rfl:=e9.symm
      obtain ⟨wq,rfl⟩:∃ wq:World,wq=wo:=⟨_,rfl⟩
      go_upto_region 14 with fail
      refine region_anyEV (fun w'=>w'.cell? ⟨x4,2,none⟩=some (.slice (some ⟨g,0,none⟩) z cg)∧w'.cell? ⟨g,i,none⟩=some (.string u5)∧Hid (Ext wq w')) 11 12 (by kernel_rfl) (by kernel_rfl) ⟨(Ext.drew wq).cell z7,(Ext.drew wq).cell z8,Ext.drew wq⟩ (fun ops hO hHeld=>?_)
      have hi:=getopN hO 0 (by decide)
      conv at hi=>rhs;arg 1;whnf
      refine anyE_takeWV hO (v:=?_) 0 hi (by kernel_rfl) (by kernel_rfl) (by kernel_rfl) (by kernel_rfl) (fun _ _ _ h=>h) (Or.inl ⟨by rfl,?_⟩) (by assumption) ?_
      rotate_left
      ·((intro w');(try go_simp);(try with_reducible rfl))
      clear hi
      (try simp only [Act.put,List.setIfInBounds_toArray,List.set_cons_zero,List.set_cons_succ])
      have hi:=getopN hO 1 (by decide)
      conv at hi=>rhs;arg 1;whnf
      refine anyE_takeP hO (v:=?_) 1 [10] hi (by kernel_rfl) (by kernel_rfl) (by kernel_rfl) (by kernel_rfl) (by kernel_rfl) (fun _ _ _ h=>h) (Or.inl ⟨by rfl,?_⟩) (by assumption) ?_
      rotate_left
      ·((intro w' hSw);(try dsimp only at hSw);(try go_simp);(try with_reducible rfl))
      clear hi
      (try simp only [Act.put,List.setIfInBounds_toArray,List.set_cons_zero,List.set_cons_succ])
      have hi:=getopN hO 2 (by decide)
      conv at hi=>rhs;arg 1;whnf
      refine anyE_takeWV hO (v:=?_) 2 hi (by kernel_rfl) (by kernel_rfl) (by kernel_rfl) (by kernel_rfl) (fun _ _ _ h=>h) (Or.inl ⟨by rfl,?_⟩) (by assumption) ?_
      rotate_left
      ·((intro w');(try go_simp);(try with_reducible rfl))
      clear hi
      (try simp only [Act.put,List.setIfInBounds_toArray,List.set_cons_zero,List.set_cons_succ])
      have hi:=getopN hO 3 (by decide)
      conv at hi=>rhs;arg 1;whnf
      refine anyE_takeWV hO (v:=?_) 3 hi (by kernel_rfl) (by kernel_rfl) (by kernel_rfl) (by kernel_rfl) (fun _ _ _ h=>h) (Or.inl ⟨by rfl,?_⟩) (by assumption) ?_
      rotate_left
      ·((intro w');(try go_simp);(try with_reducible rfl))
      clear hi
      (try simp only [Act.put,List.setIfInBounds_toArray,List.set_cons_zero,List.set_cons_succ])
      have hi:=getopN hO 4 (by decide)
      conv at hi=>rhs;arg 1;whnf
      refine anyE_takeP hO (v:=?_) 4 [9,7,6] hi (by kernel_rfl) (by kernel_rfl) (by kernel_rfl) (by kernel_rfl) (by kernel_rfl) (fun _ _ _ h=>h) (Or.inl ⟨by rfl,?_⟩) (by assumption) ?_
      rotate_left
      ·((intro w' hSw);(try dsimp only at hSw);(try go_simp);(try with_reducible rfl))
      clear hi
      (try simp only [Act.put,List.setIfInBounds_toArray,List.set_cons_zero,List.set_cons_succ])
      have hi:=getopN hO 5 (by decide)
      conv at hi=>rhs;arg 1;whnf
      refine anyE_takeWV hO (v:=?_) 5 hi (by kernel_rfl) (by kernel_rfl) (by kernel_rfl) (by kernel_rfl) (fun _ _ _ h=>h) (Or.inl ⟨by rfl,?_⟩) (by assumption) ?_
      rotate_left
      ·((intro w');(try go_simp);(try with_reducible rfl))
      clear hi
      (try simp only [Act.put,List.setIfInBounds_toArray,List.set_cons_zero,List.set_cons_succ])
      have hi:=getopN hO 6 (by decide)
      conv at hi=>rhs;arg 1;whnf
      refine anyE_takeWV hO (v:=?_) 6 hi (by kernel_rfl) (by kernel_rfl) (by kernel_rfl) (by kernel_rfl) (fun _ _ _ h=>h) (Or.inl ⟨by rfl,?_⟩) (by assumption) ?_
      rotate_left
      ·((intro w');(try go_simp);(try with_reducible rfl))
      clear hi
      (try simp only [Act.put,List.setIfInBounds_toArray,List.set_cons_zero,List.set_cons_succ])
      have hi:=getopN hO 7 (by decide)
      conv at hi=>rhs;arg 1;whnf
      refine anyE_takeP hO (v:=?_) 7 [9] hi (by kernel_rfl) (by kernel_rfl) (by kernel_rfl) (by kernel_rfl) (by kernel_rfl) (fun _ _ _ h=>h) (Or.inl ⟨by rfl,?_⟩) (by assumption) ?_
      rotate_left
      ·((intro w' hSw);(try dsimp only at hSw);(try go_simp);(try with_reducible rfl))
      clear hi
      (try simp only [Act.put,List.setIfInBounds_toArray,List.set_cons_zero,List.set_cons_succ])
      have hi:=getopN hO 8 (by decide)
      conv at hi=>rhs;arg 1;whnf
      refine anyE_takeWV hO (v:=?_) 8 hi (by kernel_rfl) (by kernel_rfl) (by kernel_rfl) (by kernel_rfl) (fun _ _ _ h=>h) (Or.inl ⟨by rfl,?_⟩) (by assumption) ?_
      rotate_left
      ·((intro w');(try go_simp);(try with_reducible rfl))
      clear hi
      (try simp only [Act.put,List.setIfInBounds_toArray,List.set_cons_zero,List.set_cons_succ])
      have hi:=getopN hO 9 (by decide)
      conv at hi=>rhs;arg 1;whnf
      refine anyE_stepV hO 9 (by kernel_rfl) hi (fun K hK=>?_)
      go_simp
      (go_at_call 73;refine (HAD.out _ hHeld.2.2.out).mono ?_)
      rintro e wy ⟨rfl,hEz⟩
      go_wp2_with fail
      refine hK.out _ _ ⟨(hEz).cell hHeld.1,(hEz).cell hHeld.2.1,Ext.trans hHeld.2.2.out (hEz)⟩ (fun hHeld=>?_)
      clear hK K hi
      (try simp only [Act.put,List.setIfInBounds_toArray,List.set_cons_zero,List.set_cons_succ])
      have HWY:Hid (Ext wp wy):=HEpo.out.trans hHeld.2.2.out
      have HRY:=Lib.hid (HGB2.out.ext HWY.out)
      have kg:=HRY.out.free i
      have kz:=hHeld.2.1
      have hi:=getopN hO 10 (by decide)
      conv at hi=>rhs;arg 1;whnf
      refine anyE_takeWV hO (v:=?_) 10 hi (by kernel_rfl) (by kernel_rfl) (by kernel_rfl) (by kernel_rfl) (fun _ _ _ h=>h) (Or.inl ⟨by rfl,?_⟩) (by assumption) ?_
      rotate_left
      ·((intro w');(try go_simp);(try with_reducible rfl))
      clear hi
      (try simp only [Act.put,List.setIfInBounds_toArray,List.set_cons_zero,List.set_cons_succ])
      have hi:=getopN hO 11 (by decide)
      conv at hi=>rhs;arg 1;whnf
      refine anyE_lastP hO 11 (by kernel_rfl) (by kernel_rfl) (by kernel_rfl) hi (fun K hK=>?_)
      go_simp
      refine hK.out _ _ ?_
      clear hK K hi hO
      (try simp only [Act.put,List.setIfInBounds_toArray,List.set_cons_zero,List.set_cons_succ])
      go_wp2_with fail
      go_roundw
      case rel=>exact ⟨j+1,by omega,by go_num,(HG2'.out.ext HWY.out).trans (grownBy_S (grown_setCell _ _ _ _) (fun k hk=>by cases hk;rfl)),(HNS2.out.ext HWY.out).set HRY.out (by rw [HLK.out];omega),by
       have h9:=HRY.out.set i (by rw [HLK.out];omega) (acc+sgnI (x*y) false)
       rw [HU6.out] at h9
       rw [HNX.out]
       rw [← HL9.out,List.set_set] at h9
       exact h9⟩
      case measure=>simp [intOf];omega
    ·obtain rfl:j=n:=by omega
     go_wp2_with fail
     go_roundw
     case rel=>exact ⟨i+1,by omega,by go_num,HG2'.out,HNS2.out,by rw [← inOut_next HS.out];exact HGB2.out⟩
     case measure=>simp [intOf];omega
  ·obtain rfl:i=z:=by omega
   have HE9:Hid (Ext w wi):=ext_grownS HES.out HG.out (fun j hj e=>by have:=HOO.out;omega)
   have HBO9:=Lib.hid ((HG.out.block x4 (block_lt HBOS.out) (by have:=HOO.out;omega)).trans HBOS.out)
   have HB39:=Lib.hid ((HG.out.block x1 (block_lt HB2S.out) (by have:=HOO.out;omega)).trans HB2S.out)
   have HGD:Hid (RowN wi g D):=by unfold Hid;rw [HPD.out];exact HGB.out
   have HDL:Hid (D.length=i):=by unfold Hid;rw [HPD.out];exact HLP.out i (Nat.le_refl _)
   have k9:=block_cell HBO9.out
   have f9:=block_free HB39.out
   have r9:=block_cell HB39.out
   go_wp2_with fail
   have hb7:=store3 HB39.out (.int .i64 n) (.int .i64 d) (.slice (some ⟨g,0,none⟩) i cg)
   refine bodyPost_ret (results_cell_row (by rfl) _ _ x1 37 #[.int .i64 n,.int .i64 d,.slice (some ⟨g,0,none⟩) i cg] (0,0) _ (by rfl) hb7 Tryz.underlying37 (by rfl) (by kernel_rfl)) (by rfl) ⟨_,rfl,multi_ext HE9.out (by have:=HOO.out;omega) _ _ _,_,rfl,?_⟩
   have h9:=(HGD.out.grown (grownBy_S (S:=(·=x1)) (multi_grown wi x1 (.int .i64 n) (.int .i64 d) (.slice (some ⟨g,0,none⟩) i cg)) (fun k hk=>by cases hk;rfl)) (fun e=>by have:=HOO.out;omega)).numsZ (c:=cg) (by rw [HDL.out];exact HGC.out) HGM.out
   rw [HDL.out] at h9
   exact h9
end Go.Proofs.YtjlkkofmojgipaaGreatDoor
