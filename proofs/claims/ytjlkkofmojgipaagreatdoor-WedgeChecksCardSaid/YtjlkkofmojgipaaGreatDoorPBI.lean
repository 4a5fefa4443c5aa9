import Derived.Test.YtjlkkofmojgipaaGreatDoorPBH
namespace Go.Proofs.YtjlkkofmojgipaaGreatDoor
set_option linter.unusedVariables false
set_option linter.unusedSimpArgs false
open Go.RowKit
set_option maxRecDepth 100000 in
set_option maxHeartbeats 1000000 in
theorem rOrder_any (p q:List Nat) (u v:Value) (w:World) (hu:PcsJ w u p) (hv:PcsJ w v q) (hp:Can p) (hq:Can q) (hlp:p.length≤100000) (hlq:q.length≤100000) :
  Calls Tryz.prog 132 #[u,v] w fun e w'=>e=.returned (.int .i64 (cmpN (lv p) (lv q)))∧Ext w w':=by
 obtain ⟨a,ca,rfl,hla,hca,hcu⟩:=hu.open
 obtain ⟨b,cb,rfl,hlb,hcb,hcv⟩:=hv.open
 have HP:=Lib.hid hp;have HQ:=Lib.hid hq
 have HU:=Lib.hid hcu;have HV:=Lib.hid hcv
 clear hu hv hcu hcv hp hq
 by_cases hl:p.length=q.length
 ·have hl':((p.length:Int) != (q.length:Int))=false:=by simp [hl]
  have HL:=Lib.hid hl
  have hpq1:p.length≤q.length:=by omega
  have hpq2:q.length≤p.length:=by omega
  clear hl
  go_enter Tryz.func132,Tryz.ntmps132
  go_wp2_with fail
  go_loopw [5] (fun i wr=>∃ y:Int,i=.int .i64 y∧y<p.length∧-2<y∧Hid (∃ k:Nat,y+1=k∧k≤p.length∧p.drop k=q.drop k)∧Ext w wr) (fun i _=>(intOf i+1).toNat)
  case atStart=>exact ⟨_,rfl,by omega,by omega,⟨p.length,by omega,Nat.le_refl _,by rw [List.drop_length,HL.out,List.drop_length]⟩,Ext.refl _⟩
  case round =>
   obtain ⟨y,rfl,hy1,hy2,HK,hE⟩:=hrel
   obtain ⟨wo,rfl⟩:∃ wo:World,wo=wr:=⟨_,rfl⟩
   by_cases h0:0≤y
   ·obtain ⟨k,rfl⟩:∃ k:Nat,y=k:=⟨y.toNat,by omega⟩
    have hkp:k<p.length:=by omega
    have hkq:k<q.length:=by omega
    obtain ⟨x,hx⟩:∃ x,p[k]?=some x:=⟨_,List.getElem?_eq_getElem hkp⟩
    obtain ⟨z,hz⟩:∃ z,q[k]?=some z:=⟨_,List.getElem?_eq_getElem hkq⟩
    obtain ⟨ba,oa,rfl,-,hca'⟩:=HU.out (by rintro rfl;simp at hkp)
    obtain ⟨bb,ob,rfl,-,hcb'⟩:=HV.out (by rintro rfl;simp at hkq)
    have g1:=hE.cell (hca' k x hx)
    have g2:=hE.cell (hcb' k z hz)
    have HD:Hid (p.drop (k+1)=q.drop (k+1)):=by
     obtain ⟨k',e,-,h⟩:=HK.out
     have:k'=k+1:=by omega
     rw [this] at h;exact h
    have HX:=Lib.hid hx;have HZ:=Lib.hid hz
    clear hx hz hca' hcb'
    rcases Nat.lt_trichotomy x z with hxz | hxz | hxz
    ·have hb:decide (x<z)=true:=decide_eq_true (by omega)
     have HR:=Lib.hid (cmpN_lt (lv_cmp HP.out.1 HQ.out.1 HX.out HZ.out HD.out hxz))
     clear hxz
     go_wp2_with fail
     try (go_quiet (fail);go_wp2_with fail)
     go_ret
     rw [HR.out]
     exact ⟨rfl,by first | exact hE | exact Ext.draws hE _⟩
    ·subst hxz
     have hb:decide (x<x)=false:=decide_eq_false (by omega)
     have HK2:Hid (∃ k':Nat,((k:Int)-1)+1=k'∧k'≤p.length∧p.drop k'=q.drop k'):=by
      refine ⟨k,by omega,by omega,?_⟩
      show p.drop k=q.drop k
      rw [List.drop_eq_getElem_cons hkp,List.drop_eq_getElem_cons hkq,HD.out]
      congr 1
      have h1:=(List.getElem?_eq_some_iff.1 HX.out).2
      have h2:=(List.getElem?_eq_some_iff.1 HZ.out).2
      rw [h1,h2]
     go_wp2_with fail
     try (go_quiet (fail);go_wp2_with fail)
     try (go_quiet (fail);go_wp2_with fail)
     go_roundw
     case rel=>exact ⟨_,rfl,by omega,by omega,HK2.out,by first | exact Ext.draws (Ext.draws hE _) _ | exact Ext.draws hE _ | exact hE⟩
     case measure=>simp [intOf]
    ·have hb:decide (x<z)=false:=decide_eq_false (by omega)
     have hb2:decide (z<x)=true:=decide_eq_true (by omega)
     have HR:=Lib.hid (cmpN_gt (lv_cmp HQ.out.1 HP.out.1 HZ.out HX.out HD.out.symm hxz))
     clear hxz
     go_wp2_with fail
     try (go_quiet (fail);go_wp2_with fail)
     try (go_quiet (fail);go_wp2_with fail)
     go_ret
     rw [HR.out]
     exact ⟨rfl,by first | exact Ext.draws (Ext.draws hE _) _ | exact Ext.draws hE _ | exact hE⟩
   ·have HR:Hid (cmpN (lv p) (lv q)=0):=by
     obtain ⟨k,e,-,h⟩:=HK.out
     have:k=0:=by omega
     subst this
     rw [List.drop_zero,List.drop_zero] at h
     exact cmpN_eq (by rw [h])
    go_wp2_with fail
    go_ret
    rw [HR.out]
    exact ⟨rfl,hE⟩
 ·have hl':((p.length:Int) != (q.length:Int))=true:=by simp;omega
  rcases Nat.lt_or_gt_of_ne hl with h | h
  ·have HR:=Lib.hid (cmpN_lt (Can.lt_of_length HP.out.1 HQ.out h))
   have hb:decide (p.length<q.length)=true:=decide_eq_true h
   rw [HR.out]
   clear HR hl
   go_enter Tryz.func132,Tryz.ntmps132
   go_wp2_with fail
   go_ret
   exact ⟨rfl,Ext.refl _⟩
  ·have HR:=Lib.hid (cmpN_gt (Can.lt_of_length HQ.out.1 HP.out h))
   have hb:decide (p.length<q.length)=false:=decide_eq_false (by omega)
   rw [HR.out]
   clear HR hl
   go_enter Tryz.func132,Tryz.ntmps132
   go_wp2_with fail
   go_ret
   exact ⟨rfl,Ext.refl _⟩
theorem PlusJ.over {p q L:List Nat} {i c:Nat} (h:PlusJ p q i c L) (hp:Pcs p) (hq:Pcs q) (h1:p.length<i) (h2:q.length<i):c=0:=by
 have hv:=h.val
 rw [List.take_of_length_le (by omega),List.take_of_length_le (by omega)] at hv
 have a1:=lv_lt hp
 have a2:=lv_lt hq
 have a3:pB p.length≤pB (i-1):=pB_mono (by omega)
 have a4:pB q.length≤pB (i-1):=pB_mono (by omega)
 have a5:pB i=1000000000*pB (i-1):=by rw [← pB_succ];congr 1;omega
 false_or_by_contra
 have:=h.le
 have hc:c=1:=by omega
 rw [hc,a5] at hv
 omega
set_option maxRecDepth 100000 in
set_option maxHeartbeats 2000000 in
theorem rPlus_any (p q:List Nat) (u v:Value) (w:World) (hu:PcsJ w u p) (hv:PcsJ w v q) (hp:Pcs p) (hq:Pcs q) (hlp:p.length≤100000) (hlq:q.length≤100000) :
  Calls Tryz.prog 131 #[u,v] w fun e w'=>∃ r l,e=.returned r∧Hid (OwnJ w.heap.size w' r l∧Pcs l∧lv l=lv p+lv q∧l.length≤p.length+q.length+1)∧Ext w w':=by
 obtain ⟨a,ca,rfl,hla,hca,hcu⟩:=hu.open
 obtain ⟨b,cb,rfl,hlb,hcb,hcv⟩:=hv.open
 have HP:=Lib.hid hp;have HQ:=Lib.hid hq
 have HU:=Lib.hid hcu;have HV:=Lib.hid hcv
 have HB0:Hid (Build w w.heap.size 3 1 (.slice none 0 0) pcRJ []):=OwnJ.build (OwnJ.nil _ _)
 have HS0:=Lib.hid (PlusJ.start p q)
 clear hu hv hcu hcv hp hq
 go_enter Tryz.func131,Tryz.ntmps131
 go_wp2_with fail
 go_loopw [5,6,7] (fun out s t wr=>∃ (i c:Nat) (L:List Nat),t=.int .i64 i∧s=.int .i64 c∧c≤1∧i≤p.length+q.length+1∧Ext w wr∧Hid (Build wr w.heap.size 3 1 out pcRJ L)∧Hid (PlusJ p q i c L)) (fun _ _ t _=>p.length+q.length+1-(intOf t).toNat)
 case atStart=>exact ⟨0,0,[],rfl,rfl,by omega,by omega,Ext.refl _,HB0.out,HS0.out⟩
 case round =>
  obtain ⟨i,c,L,rfl,rfl,hc,hi,hEw,HB,HS⟩:=hrel
  obtain ⟨wo,rfl⟩:∃ wo:World,wo=wr:=⟨_,rfl⟩
  clear HB0 HS0
  have hszi:w.heap.size≤wo.heap.size:=hEw.size
  have HLL:Hid (L.length<1000000):=by have:=HS.out.len;unfold Hid;omega
  have hbx:=pieceJ_lt HP.out i
  have hby:=pieceJ_lt HQ.out i
  have HNS:=Lib.hid (fun s hs=>HS.out.step HP.out HQ.out (s:=s) hs)
  by_cases hend:p.length≤i∧q.length≤i∧c=0
  ·obtain ⟨h1,h2,rfl⟩:=hend
   have q1:decide (i<p.length)=false:=decide_eq_false (by omega)
   have q2:decide (i<q.length)=false:=decide_eq_false (by omega)
   have HF:=Lib.hid (HS.out.done h1 h2)
   have HO:=Lib.hid HB.out.ownJ
   have HL:=Lib.hid HS.out.len
   have HPC:=Lib.hid HS.out.pcs
   go_wp2_with fail
   go_ret
   exact ⟨_,L,rfl,⟨HO.out,HPC.out,HF.out,by rw [HL.out];exact hi⟩,hEw⟩
  ·have HIB:Hid (i+1≤p.length+q.length+1):=by
    unfold Hid
    false_or_by_contra
    have e:i=p.length+q.length+1:=by omega
    exact hend ⟨by omega,by omega,HS.out.over HP.out HQ.out (by omega) (by omega)⟩
   have hib:=HIB.out
   by_cases hA:i<p.length
   ·by_cases hB:i<q.length
    ·obtain ⟨b1,o1,rfl,-,hc1⟩:=HU.out (by rintro rfl;simp at hA)
     have g1:=hEw.cell (hc1 i _ (List.getElem?_eq_getElem hA))
     rw [← pieceJ_get (List.getElem?_eq_getElem hA)] at g1
     obtain ⟨b2,o2,rfl,-,hc2⟩:=HV.out (by rintro rfl;simp at hB)
     have g2:=hEw.cell (hc2 i _ (List.getElem?_eq_getElem hB))
     rw [← pieceJ_get (List.getElem?_eq_getElem hB)] at g2
     have q1:decide (i<p.length)=true:=decide_eq_true hA
     have q2:decide (i<q.length)=true:=decide_eq_true hB
     obtain ⟨s,hs⟩:∃ s,s=c+pieceJ p i+pieceJ q i:=⟨_,rfl⟩
     have HNX:=Lib.hid (HNS.out s hs)
     obtain ⟨x,hx⟩:∃ x,x=pieceJ p i:=⟨_,rfl⟩
     obtain ⟨y,hy⟩:∃ y,y=pieceJ q i:=⟨_,rfl⟩
     rw [← hx,← hy] at hs
     rw [← hx] at hbx g1
     rw [← hy] at hby g2
     obtain ⟨m,hm⟩:∃ m,m=s%1000000000:=⟨_,rfl⟩
     obtain ⟨d,hd⟩:∃ d,d=s / 1000000000:=⟨_,rfl⟩
     rw [← hm,← hd] at HNX
     have e3:(s:Int).tmod 1000000000=(m:Int):=by rw [Int.tmod_eq_emod_of_nonneg (by omega)];omega
     have e4:(s:Int).tdiv 1000000000=(d:Int):=by rw [Int.tdiv_eq_ediv_of_nonneg (by omega)];omega
     have hdb:d≤1:=by omega
     have hmb:m<1000000000:=by omega
     have hsb:s<2000000000:=by omega
     have e5:(c:Int)+(x:Int)+(y:Int)=(s:Int):=by omega
     clear hs hm hd hx hy hend
     go_wp2_with (at_builtin;go_must (refine wpList_append_build _ rfl _ _ 26 rfl w.heap.size 3 (.int .i64 0) 1 8 Tryz.underlying26 infoJ rfl (by decide) u5 pcRJ L m #[.int .i64 m] 3 rfl HB.out rfl rfl ?_ (fun _ _=>rfl) HLL.out (by decide) hszi ?_))
     all_goals first | (simp [Value.oneCell'];done) | skip
     intro v' w5 hB5 hg5 hb5 hs5 _
     have HB5:=Lib.hid hB5
     have HX5:=Lib.hid (Below.trans hEw hb5)
     clear hB5 hg5 hb5
     go_wp2_with fail
     go_roundw
     case rel=>exact ⟨i+1,d,_,by go_num,by first | rfl | go_num,by omega,hib,HX5.out,HB5.out,HNX.out⟩
     case measure=>simp [intOf];omega
    ·obtain ⟨b1,o1,rfl,-,hc1⟩:=HU.out (by rintro rfl;simp at hA)
     have g1:=hEw.cell (hc1 i _ (List.getElem?_eq_getElem hA))
     rw [← pieceJ_get (List.getElem?_eq_getElem hA)] at g1
     have q1:decide (i<p.length)=true:=decide_eq_true hA
     have q2:decide (i<q.length)=false:=decide_eq_false hB
     have hy0:pieceJ q i=0:=pieceJ_out (by omega)
     obtain ⟨s,hs⟩:∃ s,s=c+pieceJ p i+pieceJ q i:=⟨_,rfl⟩
     have HNX:=Lib.hid (HNS.out s hs)
     obtain ⟨x,hx⟩:∃ x,x=pieceJ p i:=⟨_,rfl⟩
     obtain ⟨y,hy⟩:∃ y,y=pieceJ q i:=⟨_,rfl⟩
     rw [← hx,← hy] at hs
     rw [← hx] at hbx g1
     rw [← hy] at hby
     obtain ⟨m,hm⟩:∃ m,m=s%1000000000:=⟨_,rfl⟩
     obtain ⟨d,hd⟩:∃ d,d=s / 1000000000:=⟨_,rfl⟩
     rw [← hm,← hd] at HNX
     have e3:(s:Int).tmod 1000000000=(m:Int):=by rw [Int.tmod_eq_emod_of_nonneg (by omega)];omega
     have e4:(s:Int).tdiv 1000000000=(d:Int):=by rw [Int.tdiv_eq_ediv_of_nonneg (by omega)];omega
     have hdb:d≤1:=by omega
     have hmb:m<1000000000:=by omega
     have hsb:s<2000000000:=by omega
     have e5:(c:Int)+(x:Int)=(s:Int):=by omega
     clear hs hm hd hx hy hend
     go_wp2_with (at_builtin;go_must (refine wpList_append_build _ rfl _ _ 26 rfl w.heap.size 3 (.int .i64 0) 1 8 Tryz.underlying26 infoJ rfl (by decide) u5 pcRJ L m #[.int .i64 m] 3 rfl HB.out rfl rfl ?_ (fun _ _=>rfl) HLL.out (by decide) hszi ?_))
     all_goals first | (simp [Value.oneCell'];done) | skip
     intro v' w5 hB5 hg5 hb5 hs5 _
     have HB5:=Lib.hid hB5
     have HX5:=Lib.hid (Below.trans hEw hb5)
     clear hB5 hg5 hb5
     go_wp2_with fail
     go_roundw
     case rel=>exact ⟨i+1,d,_,by go_num,by first | rfl | go_num,by omega,hib,HX5.out,HB5.out,HNX.out⟩
     case measure=>simp [intOf];omega
   ·by_cases hB:i<q.length
    ·obtain ⟨b2,o2,rfl,-,hc2⟩:=HV.out (by rintro rfl;simp at hB)
     have g2:=hEw.cell (hc2 i _ (List.getElem?_eq_getElem hB))
     rw [← pieceJ_get (List.getElem?_eq_getElem hB)] at g2
     have q1:decide (i<p.length)=false:=decide_eq_false hA
     have q2:decide (i<q.length)=true:=decide_eq_true hB
     have hx0:pieceJ p i=0:=pieceJ_out (by omega)
     obtain ⟨s,hs⟩:∃ s,s=c+pieceJ p i+pieceJ q i:=⟨_,rfl⟩
     have HNX:=Lib.hid (HNS.out s hs)
     obtain ⟨x,hx⟩:∃ x,x=pieceJ p i:=⟨_,rfl⟩
     obtain ⟨y,hy⟩:∃ y,y=pieceJ q i:=⟨_,rfl⟩
     rw [← hx,← hy] at hs
     rw [← hx] at hbx
     rw [← hy] at hby g2
     obtain ⟨m,hm⟩:∃ m,m=s%1000000000:=⟨_,rfl⟩
     obtain ⟨d,hd⟩:∃ d,d=s / 1000000000:=⟨_,rfl⟩
     rw [← hm,← hd] at HNX
     have e3:(s:Int).tmod 1000000000=(m:Int):=by rw [Int.tmod_eq_emod_of_nonneg (by omega)];omega
     have e4:(s:Int).tdiv 1000000000=(d:Int):=by rw [Int.tdiv_eq_ediv_of_nonneg (by omega)];omega
     have hdb:d≤1:=by omega
     have hmb:m<1000000000:=by omega
     have hsb:s<2000000000:=by omega
     have e5:(c:Int)+(y:Int)=(s:Int):=by omega
     clear hs hm hd hx hy hend
     go_wp2_with (at_builtin;go_must (refine wpList_append_build _ rfl _ _ 26 rfl w.heap.size 3 (.int .i64 0) 1 8 Tryz.underlying26 infoJ rfl (by decide) u5 pcRJ L m #[.int .i64 m] 3 rfl HB.out rfl rfl ?_ (fun _ _=>rfl) HLL.out (by decide) hszi ?_))
     all_goals first | (simp [Value.oneCell'];done) | skip
     intro v' w5 hB5 hg5 hb5 hs5 _
     have HB5:=Lib.hid hB5
     have HX5:=Lib.hid (Below.trans hEw hb5)
     clear hB5 hg5 hb5
     go_wp2_with fail
     go_roundw
     case rel=>exact ⟨i+1,d,_,by go_num,by first | rfl | go_num,by omega,hib,HX5.out,HB5.out,HNX.out⟩
     case measure=>simp [intOf];omega
    ·have q1:decide (i<p.length)=false:=decide_eq_false hA
     have q2:decide (i<q.length)=false:=decide_eq_false hB
     have hx0:pieceJ p i=0:=pieceJ_out (by omega)
     have hy0:pieceJ q i=0:=pieceJ_out (by omega)
     have hc1:c=1:=by omega
     subst hc1
     obtain ⟨s,hs⟩:∃ s,s=1+pieceJ p i+pieceJ q i:=⟨_,rfl⟩
     have HNX:=Lib.hid (HNS.out s hs)
     obtain ⟨x,hx⟩:∃ x,x=pieceJ p i:=⟨_,rfl⟩
     obtain ⟨y,hy⟩:∃ y,y=pieceJ q i:=⟨_,rfl⟩
     rw [← hx,← hy] at hs
     rw [← hx] at hbx
     rw [← hy] at hby
     obtain ⟨m,hm⟩:∃ m,m=s%1000000000:=⟨_,rfl⟩
     obtain ⟨d,hd⟩:∃ d,d=s / 1000000000:=⟨_,rfl⟩
     rw [← hm,← hd] at HNX
     have e3:(s:Int).tmod 1000000000=(m:Int):=by rw [Int.tmod_eq_emod_of_nonneg (by omega)];omega
     have e4:(s:Int).tdiv 1000000000=(d:Int):=by rw [Int.tdiv_eq_ediv_of_nonneg (by omega)];omega
     have hdb:d≤1:=by omega
     have hmb:m<1000000000:=by omega
     have hsb:s<2000000000:=by omega
     have e5:s=1:=by omega
     subst e5
     have e6:m=1:=by omega
     have e7:d=0:=by omega
     subst e6 e7
     clear hm hd hx hy hend hs
     go_wp2_with (at_builtin;go_must (refine wpList_append_build _ rfl _ _ 26 rfl w.heap.size 3 (.int .i64 0) 1 8 Tryz.underlying26 infoJ rfl (by decide) u5 pcRJ L 1 #[.int .i64 1] 3 rfl HB.out rfl rfl ?_ (fun _ _=>rfl) HLL.out (by decide) hszi ?_))
     all_goals first | (simp [Value.oneCell'];done) | skip
     intro v' w5 hB5 hg5 hb5 hs5 _
     have HB5:=Lib.hid hB5
     have HX5:=Lib.hid (Below.trans hEw hb5)
     clear hB5 hg5 hb5
     go_wp2_with fail
     go_roundw
     case rel=>exact ⟨i+1,0,_,by go_num,by first | rfl | go_num,by omega,hib,HX5.out,HB5.out,HNX.out⟩
     case measure=>simp [intOf];omega
set_option maxRecDepth 100000 in
set_option maxHeartbeats 2000000 in
theorem rMinus_any (p q:List Nat) (u v:Value) (w:World) (hu:PcsJ w u p) (hv:PcsJ w v q) (hp:Can p) (hq:Can q) (hle:lv q≤lv p) (hlp:p.length≤100000) :
  Calls Tryz.prog 133 #[u,v] w fun e w'=>∃ r l,e=.returned r∧Hid (OwnJ w.heap.size w' r l∧Can l∧lv l=lv p-lv q∧l.length≤p.length)∧Ext w w':=by
 have hlq:=Can.length_le hq hp hle
 obtain ⟨a,ca,rfl,hla,hca,hcu⟩:=hu.open
 obtain ⟨b,cb,rfl,hlb,hcb,hcv⟩:=hv.open
 have HP:=Lib.hid hp;have HQ:=Lib.hid hq
 have HU:=Lib.hid hcu;have HV:=Lib.hid hcv
 have HLE:=Lib.hid hle
 have HB0:Hid (Build w w.heap.size 3 1 (.slice none 0 0) pcRJ []):=OwnJ.build (OwnJ.nil _ _)
 have HS0:=Lib.hid (MinusJ.start p q)
 clear hu hv hcu hcv hp hq hle
 go_enter Tryz.func133,Tryz.ntmps133
 go_wp2_with fail
 go_loopw [5,6,7] (fun out s t wr=>∃ (i c:Nat) (L:List Nat),t=.int .i64 i∧s=.int .i64 c∧c≤1∧i≤p.length∧Ext w wr∧Hid (Build wr w.heap.size 3 1 out pcRJ L)∧Hid (MinusJ p q i c L)) (fun _ _ t _=>p.length-(intOf t).toNat)
 case atStart=>exact ⟨0,0,[],rfl,rfl,by omega,by omega,Ext.refl _,HB0.out,HS0.out⟩
 case round =>
  obtain ⟨i,c,L,rfl,rfl,hc,hi,hEw,HB,HS⟩:=hrel
  obtain ⟨wo,rfl⟩:∃ wo:World,wo=wr:=⟨_,rfl⟩
  clear HB0 HS0
  have hszi:w.heap.size≤wo.heap.size:=hEw.size
  have HLL:Hid (L.length<1000000):=by have:=HS.out.len;unfold Hid;omega
  by_cases hA:i<p.length
  ·have hbx:=pieceJ_lt HP.out.1 i
   have hby:=pieceJ_lt HQ.out.1 i
   have HNS:=Lib.hid (fun x b' h1 h2 h3=>HS.out.step (x:=x) (b':=b') h1 h2 h3)
   obtain ⟨b1,o1,rfl,-,hc1⟩:=HU.out (by rintro rfl;simp at hA)
   have g1:=hEw.cell (hc1 i _ (List.getElem?_eq_getElem hA))
   rw [← pieceJ_get (List.getElem?_eq_getElem hA)] at g1
   obtain ⟨x,hx⟩:∃ x,x=pieceJ p i:=⟨_,rfl⟩
   obtain ⟨y,hy⟩:∃ y,y=pieceJ q i:=⟨_,rfl⟩
   rw [← hx] at hbx g1 HNS
   rw [← hy] at hby HNS
   have HY:=Lib.hid hy
   clear hx hy hc1
   by_cases hB:i<q.length
   ·obtain ⟨b2,o2,rfl,-,hc2⟩:=HV.out (by rintro rfl;simp at hB)
    have g2:=hEw.cell (hc2 i _ (List.getElem?_eq_getElem hB))
    rw [← pieceJ_get (List.getElem?_eq_getElem hB),← HY.out] at g2
    clear hc2
    have q2:decide (i<q.length)=true:=decide_eq_true hB
    by_cases hneg:(x:Int)-(c:Int)-(y:Int)<0
    ·obtain ⟨m,hm⟩:∃ m:Nat,(x:Int)-(c:Int)-(y:Int)+1000000000=(m:Int):=⟨((x:Int)-(c:Int)-(y:Int)+1000000000).toNat,by omega⟩
     have HNX:=Lib.hid (HNS.out m 1 (by omega) (by omega) (by omega))
     have hmb:m<1000000000:=by omega
     go_wp2_with (at_builtin;go_must (refine wpList_append_build _ rfl _ _ 26 rfl w.heap.size 3 (.int .i64 0) 1 8 Tryz.underlying26 infoJ rfl (by decide) u5 pcRJ L m #[.int .i64 m] 3 rfl HB.out rfl rfl ?_ (fun _ _=>rfl) HLL.out (by decide) hszi ?_))
     all_goals first | (simp [Value.oneCell'];done) | skip
     intro v' w5 hB5 hg5 hb5 hs5 _
     have HB5:=Lib.hid hB5
     have HX5:=Lib.hid (Below.trans hEw hb5)
     clear hB5 hg5 hb5
     go_wp2_with fail
     go_roundw
     case rel=>exact ⟨i+1,1,_,by go_num,by first | rfl | go_num,by omega,by omega,HX5.out,HB5.out,HNX.out⟩
     case measure=>simp [intOf];omega
    ·obtain ⟨m,hm⟩:∃ m:Nat,(x:Int)-(c:Int)-(y:Int)=(m:Int):=⟨((x:Int)-(c:Int)-(y:Int)).toNat,by omega⟩
     have hneg2:¬ (m:Int)<0:=by omega
     have HNX:=Lib.hid (HNS.out m 0 (by omega) (by omega) (by omega))
     have hmb:m<1000000000:=by omega
     go_wp2_with (at_builtin;go_must (refine wpList_append_build _ rfl _ _ 26 rfl w.heap.size 3 (.int .i64 0) 1 8 Tryz.underlying26 infoJ rfl (by decide) u5 pcRJ L m #[.int .i64 m] 3 rfl HB.out rfl rfl ?_ (fun _ _=>rfl) HLL.out (by decide) hszi ?_))
     all_goals first | (simp [Value.oneCell'];done) | skip
     intro v' w5 hB5 hg5 hb5 hs5 _
     have HB5:=Lib.hid hB5
     have HX5:=Lib.hid (Below.trans hEw hb5)
     clear hB5 hg5 hb5
     go_wp2_with fail
     go_roundw
     case rel=>exact ⟨i+1,0,_,by go_num,by first | rfl | go_num,by omega,by omega,HX5.out,HB5.out,HNX.out⟩
     case measure=>simp [intOf];omega
   ·have hy0:y=0:=by rw [HY.out];exact pieceJ_out (by omega)
    subst hy0
    have q2:decide (i<q.length)=false:=decide_eq_false hB
    by_cases hneg:(x:Int)-(c:Int)<0
    ·obtain ⟨m,hm⟩:∃ m:Nat,(x:Int)-(c:Int)+1000000000=(m:Int):=⟨((x:Int)-(c:Int)+1000000000).toNat,by omega⟩
     have HNX:=Lib.hid (HNS.out m 1 (by omega) (by omega) (by omega))
     have hmb:m<1000000000:=by omega
     go_wp2_with (at_builtin;go_must (refine wpList_append_build _ rfl _ _ 26 rfl w.heap.size 3 (.int .i64 0) 1 8 Tryz.underlying26 infoJ rfl (by decide) u5 pcRJ L m #[.int .i64 m] 3 rfl HB.out rfl rfl ?_ (fun _ _=>rfl) HLL.out (by decide) hszi ?_))
     all_goals first | (simp [Value.oneCell'];done) | skip
     intro v' w5 hB5 hg5 hb5 hs5 _
     have HB5:=Lib.hid hB5
     have HX5:=Lib.hid (Below.trans hEw hb5)
     clear hB5 hg5 hb5
     go_wp2_with fail
     go_roundw
     case rel=>exact ⟨i+1,1,_,by go_num,by first | rfl | go_num,by omega,by omega,HX5.out,HB5.out,HNX.out⟩
     case measure=>simp [intOf];omega
    ·obtain ⟨m,hm⟩:∃ m:Nat,(x:Int)-(c:Int)=(m:Int):=⟨((x:Int)-(c:Int)).toNat,by omega⟩
     have hneg2:¬ (m:Int)<0:=by omega
     have HNX:=Lib.hid (HNS.out m 0 (by omega) (by omega) (by omega))
     have hmb:m<1000000000:=by omega
     go_wp2_with (at_builtin;go_must (refine wpList_append_build _ rfl _ _ 26 rfl w.heap.size 3 (.int .i64 0) 1 8 Tryz.underlying26 infoJ rfl (by decide) u5 pcRJ L m #[.int .i64 m] 3 rfl HB.out rfl rfl ?_ (fun _ _=>rfl) HLL.out (by decide) hszi ?_))
     all_goals first | (simp [Value.oneCell'];done) | skip
     intro v' w5 hB5 hg5 hb5 hs5 _
     have HB5:=Lib.hid hB5
     have HX5:=Lib.hid (Below.trans hEw hb5)
     clear hB5 hg5 hb5
     go_wp2_with fail
     go_roundw
     case rel=>exact ⟨i+1,0,_,by go_num,by first | rfl | go_num,by omega,by omega,HX5.out,HB5.out,HNX.out⟩
     case measure=>simp [intOf];omega
  ·obtain rfl:p.length=i:=by omega
   have HF:=Lib.hid (HS.out.done HP.out.1 hlq HLE.out)
   have HW:Hid (OwnJ w.heap.size wo u5 L):=HB.out.ownJ
   have HT:=Lib.hid (rTrim_any w.heap.size L u5 wo HW.out HS.out.pcs)
   have HL:=Lib.hid HS.out.len
   go_wp2_with fail
   refine HT.out.mono ?_
   rintro e' w' ⟨v',l',rfl,hr,kk,rfl⟩
   have HR:=Lib.hid hr
   clear hr HT
   go_wp2_with fail
   go_ret
   exact ⟨v',l',rfl,⟨HR.out.out.1,HR.out.out.2.1,HR.out.out.2.2.1.trans HF.out.1,by rw [← HL.out];exact HR.out.out.2.2.2⟩,Ext.draws hEw _⟩
end Go.Proofs.YtjlkkofmojgipaaGreatDoor
