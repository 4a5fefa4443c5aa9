import Derived.Test.YtjlkkofmojgipaaGreatDoorTBI
import Derived.Laws.AppendOwnNone
import Derived.Deep.Cut
import Derived.Test.YtjlkkofmojgipaaGreatDoorTBF
import Derived.Test.YtjlkkofmojgipaaGreatDoorTBC
import Derived.Test.YtjlkkofmojgipaaGreatDoorTAL
import Derived.Test.YtjlkkofmojgipaaGreatDoorTAM
namespace Go.Proofs.YtjlkkofmojgipaaGreatDoor
set_option linter.unusedVariables false
set_option linter.unusedSimpArgs false
open Go.RowKit
theorem wpList_append_J (w:World) {ops:Array Oper} {rest:List Oper} {o:Oper} {a:Act} {Q:Exit→Act→World→Prop} (hgd:o.guard=none)
  (s x:Operand) (ho:o.op=Op.call { callee:=Callee.builtin Builtin.append,args:=#[s,x],argTypes:=#[26,26] }) (base:Nat)
  (v y:Value) (xs ys:List Nat) (hs:a.eval s=v) (hx:a.eval x=y) (hB:OwnJ base w v xs) (hY:PcsJ w y ys) (hlen:xs.length+ys.length<1000000) (hbase:base≤w.heap.size)
  (h:∀ v' w',OwnJ base w' v' (xs++ys)→Below base w w'→wpList Tryz.prog ops Q rest (a.put o.dst v') w') :
  wpList Tryz.prog ops Q (o::rest) a w:=by
 obtain ⟨ad,c,rfl,h1,h2,h3,hc⟩:=ListAt.open hY
 obtain ⟨i0,hi,hz,hsize,hby⟩:=info_parts infoJ
 cases ad with
 | none =>
  have h0:ys=[]:=by have:=h3 rfl;exact List.eq_nil_of_length_eq_zero (by omega)
  subst h0
  obtain rfl:c=0:=h3 rfl
  refine wpList_append_own_none hgd s x 26 ho base 3 i0 1 Tryz.underlying26 hi _ xs.length (xs.map pcJ) hs hB hx (h _ _ (by rw [List.append_nil];exact hB) (Below.refl _ _))
 | some ad =>
  have hnews:∀ (j:Nat) (u:Value),(ys.map pcJ)[j]?=some u→w.cell? (ad.add j)=some u:=by
   intro j u hu
   rw [List.getElem?_map] at hu
   cases hj:ys[j]? with
   | none=>simp [hj] at hu
   | some z =>
    simp [hj] at hu;subst hu
    obtain ⟨b,off,hab,hbw,hcell⟩:=hc (by omega) (by intro e;simp [e] at hj)
    cases hab
    obtain ⟨us,_,hr,hcl⟩:=hcell j z hj
    have:=hcl 0 (by omega)
    rw [hr] at this
    rw [show (⟨b,off,none⟩:Addr).add j=⟨b,off+(j*1+0),none⟩ by unfold Addr.add;split <;> simp_all]
    simpa using this
  refine wpList_append_own _ hgd s x 26 ho base 3 i0 (.int .i64 0) 1 8 Tryz.underlying26 hi hz hsize hby rfl (by decide) _ _ _ hs hB ad ys.length c (ys.map pcJ) hx (by simp) hnews ?_ (by unfold maxLen;omega) (by omega) hbase ?_
  ·intro u hu
   obtain ⟨z,-,rfl⟩:=List.mem_map.1 hu
   rfl
  ·intro v' w' hown' hgrow _
   refine h v' w' ?_ ⟨hgrow.os,hgrow.tape,hgrow.output,hgrow.size,fun b hb=>hgrow.block b (by omega) ?_⟩
   ·unfold OwnJ;rw [List.length_append,List.map_append];exact hown'
   ·intro e
    have:=(hB.lt b e.symm).1
    omega
theorem cmpN_le {u v:Nat} (h:u≤v):cmpN u v≤0:=by
 unfold cmpN;split
 ·omega
 ·split <;> omega
theorem cmpN_nle {u v:Nat} (h:¬ u≤v):¬ cmpN u v≤0:=by rw [cmpN_gt (by omega)];omega
theorem OwnJ.lit (w:World) (m:Nat):OwnJ w.heap.size (w.alloc (.cells #[.int .i64 m] 3)) (.slice (some ⟨w.heap.size,0,none⟩) 1 1) [m]:=by
 have:=World.ownsRow_lit (e:=3) (size:=1) w #[Value.int .i64 m] 1 (Nat.le_refl _) (by unfold maxLen;omega) rfl
 exact this
set_option maxRecDepth 100000 in
set_option maxHeartbeats 2000000 in
theorem rDivide_any (p q:List Nat) (u v:Value) (w:World) (hu:PcsJ w u p) (hv:PcsJ w v q) (hp:Pcs p) (hq:Can q) (h0:0<lv q) (hlp:p.length≤20000) (hlq:q.length≤20000) :
  Calls Tryz.prog 143 #[u,v] w fun e w'=>∃ r1 r2 l1 l2,e=.returned (.tuple #[r1,r2])∧Hid (OwnJ w.heap.size w' r1 l1∧Can l1∧lv l1=lv p / lv q∧l1.length≤p.length∧OwnJ w.heap.size w' r2 l2∧Can l2∧lv l2=lv p%lv q∧l2.length≤q.length)∧Ext w w':=by
 obtain ⟨a,ca,rfl,hla,hca,hcu⟩:=hu.open
 have HP:=Lib.hid hp;have HQ:=Lib.hid hq
 have HU:=Lib.hid hcu;have HV:=Lib.hid hv
 have H0:=Lib.hid h0
 obtain ⟨i0,hi,hz0,hz1,hz2⟩:=info_parts infoJ
 have HI:=Lib.hid hi;have HZ0:=Lib.hid hz0;have HZ1:=Lib.hid hz1;have HZ2:=Lib.hid hz2
 obtain ⟨n,hn⟩:∃ n:Nat,n=p.length:=⟨_,rfl⟩
 rw [← hn] at hla hlp ⊢
 have HN:=Lib.hid hn
 clear hi hz0 hz1 hz2 hu hv hcu hp hq hn h0
 go_enter Tryz.func143,Tryz.ntmps143
 go_wp2_with (at_make;refine wpList_make_full _ rfl _ _ 26 rfl w.heap.size 3 i0 (.int .i64 0) 1 Tryz.underlying26 HI.out HZ0.out HZ1.out _ _ _ _ n rfl rfl rfl rfl ?c1 ?c2 ?c3 ?_)
 case c1=>rw [HZ2.out];omega
 case c2=>unfold maxLen;omega
 case c3=>exact Nat.le_refl _
 intro w1 hown hgrow
 have hE1:=ext_grownJ hgrow
 have HSZ1:Hid (w.heap.size+1≤w1.heap.size):=by
  rcases hown.2 with ⟨e,_⟩ | ⟨g',cap',cur,e,hb,hg,_⟩
  ·cases e
  ·simp only [Value.slice.injEq,Option.some.injEq,Addr.mk.injEq] at e
   obtain ⟨⟨rfl,-,-⟩,-,-⟩:=e
   exact (Array.getElem?_eq_some_iff.1 hg).1
 have HO0:=Lib.hid (OwnJ.made hown)
 have HS0:Hid (DivJ p q n (List.replicate n 0) (lv [])):=by unfold Hid;rw [HN.out];exact DivJ.start p q H0.out
 have HR0:Hid (OwnJ (w.heap.size+1) w1 (.slice none 0 0) []∧Can []):=⟨OwnJ.nil _ _,Can.nil⟩
 clear hown hgrow
 go_wp2_with fail
 go_loopw [8,7] (fun t v7 wr=>∃ (k:Nat) (L R:List Nat),k≤n∧t=.int .i64 ((k:Int)-1)∧Ext w wr∧w.heap.size+1≤wr.heap.size∧Hid (OwnJ w.heap.size wr (.slice (some ⟨w.heap.size,0,none⟩) n n) L)∧Hid (OwnJ (w.heap.size+1) wr v7 R∧Can R)∧Hid (DivJ p q k L (lv R))) (fun t _ _=>(intOf t+1).toNat)
 case atStart=>exact ⟨n,_,[],by omega,rfl,hE1,HSZ1.out,HO0.out,HR0.out,HS0.out⟩
 case round =>
  obtain ⟨k1,L,R,hk,rfl,hEw,hsz,HO,HR,HS⟩:=hrel
  obtain ⟨wo,rfl⟩:∃ wo:World,wo=wr:=⟨_,rfl⟩
  clear HO0 HS0 HR0
  by_cases hk0:0<k1
  ·obtain ⟨k,rfl⟩:∃ k,k1=k+1:=⟨k1-1,by omega⟩
   have e1:((k+1:Nat):Int)-1=(k:Int):=by omega
   rw [e1]
   obtain ⟨x,hx⟩:∃ x,p[k]?=some x:=⟨_,List.getElem?_eq_getElem (by have:=HN.out;omega)⟩
   obtain ⟨ba,oa,rfl,-,hca'⟩:=HU.out (by rintro rfl;simp at hx)
   have g1:=hEw.cell (hca' k x hx)
   have hxb:=HP.out.get hx
   obtain ⟨HST0,HDB0,HDM0⟩:=HS.out.step hx HP.out rfl
   obtain ⟨d,hd⟩:∃ d,d=(x+1000000000*lv R) / lv q:=⟨_,rfl⟩
   rw [← hd] at HST0 HDB0 HDM0
   have HST:=Lib.hid HST0;have HDM:=Lib.hid HDM0
   have HD:=Lib.hid hd
   have HRL:Hid (R.length≤q.length):=Can.length_le HR.out.2 HQ.out (Nat.le_of_lt HS.out.lt)
   have hrl:=HRL.out
   have hkn:k<n:=by omega
   have HLL:Hid (L.length=n):=by unfold Hid;rw [HS.out.len,HN.out]
   clear hx hca' HST0 HDM0 hd e1
   have HRP:Hid (PcsJ (wo.alloc (.cells #[.int .i64 x] 3)) u7 R):=(HR.out.1.at).ext (Ext.alloc _ _)
   have HLIT:=Lib.hid (OwnJ.lit wo x)
   go_wp2_with (at_builtin;go_must (refine wpList_append_J _ rfl _ _ rfl wo.heap.size _ u7 [x] R rfl rfl HLIT.out HRP.out (by simp;omega) (Ext.alloc _ _).size ?_))
   intro v5 w5 hO5 hb5
   have HE5:Hid (Ext wo w5):=Below.trans (Ext.alloc wo (.cells #[.int .i64 x] 3)) hb5
   have HT5:=Lib.hid (rTrim_any wo.heap.size ([x]++R) v5 w5 hO5 (Pcs.cons hxb HR.out.2.1))
   clear hO5 hb5 HLIT HRP g1
   go_wp2_with fail
   refine HT5.out.mono ?_
   rintro e w6 ⟨v6,R1,rfl,hr,kk,rfl⟩
   have HO6:=Lib.hid hr.out.1
   have HC6:=Lib.hid hr.out.2.1
   have hv6:lv R1=x+1000000000*lv R:=hr.out.2.2.1
   have HV6:=Lib.hid hv6
   have hl6:R1.length≤20001:=by have:=hr.out.2.2.2;simp at this;omega
   have HE6:Hid (Ext wo (w5.drewN kk)):=Ext.draws HE5.out _
   obtain ⟨w6,hw6⟩:∃ w6,w6=w5.drewN kk:=⟨_,rfl⟩
   rw [← hw6] at HO6 HE6 ⊢
   have HQD:Hid (∀ m,lv q*m≤lv R1↔m≤d):=by
    intro m
    rw [hv6,HD.out,Nat.le_div_iff_mul_le H0.out,Nat.mul_comm]
   clear hr HT5 hv6 hw6 HE5
   go_wp2_with fail
   have hd9:d≤999999999:=by omega
   go_loopw [9,10] (fun lo hi wr=>∃ (x1 x2:Nat),lo=.int .i64 x1∧hi=.int .i64 x2∧x1≤d∧d≤x2∧x2≤999999999∧Hid (Ext w6 wr)) (fun lo hi _=>(intOf hi-intOf lo).toNat)
   case atStart=>exact ⟨0,999999999,rfl,rfl,by omega,hd9,by omega,by first | exact Ext.refl _ | exact Ext.drew _⟩
   case round =>
    obtain ⟨x1,x2,rfl,rfl,h1,h2,h3,HEI⟩:=hrel
    obtain ⟨wi,rfl⟩:∃ wi:World,wi=wr:=⟨_,rfl⟩
    have HEWI:=Lib.hid (Ext.trans hEw (Ext.trans HE6.out HEI.out))
    by_cases hlt:x1<x2
    ·have hlt':(x1:Int)<(x2:Int):=by omega
     obtain ⟨m,hm⟩:∃ m,m=(x1+x2+1) / 2:=⟨_,rfl⟩
     have hmi:((x1:Int)+(x2:Int)+1).tdiv 2=(m:Int):=by rw [Int.tdiv_eq_ediv_of_nonneg (by omega)];omega
     have hm1:x1<m:=by omega
     have hm2:m≤x2:=by omega
     clear hm
     have HX0:Hid (Ext wi (wi.alloc (.cells #[.int .i64 m] 3))):=Ext.alloc _ _
     have HTM:=Lib.hid (rTimes_any q [m] v (.slice (some ⟨wi.heap.size,0,none⟩) 1 1) (wi.alloc (.cells #[.int .i64 m] 3)) (HV.out.ext (HEWI.out.trans HX0.out)) (OwnJ.lit wi m).at HQ.out.1 (Pcs.cons (by omega) Pcs.nil) (by omega) (by simp))
     go_wp2_with fail
     refine HTM.out.mono ?_
     rintro e w7 ⟨r7,l7,rfl,hr7,hE7⟩
     have HR7:=Lib.hid hr7
     have HX7:=Lib.hid (HX0.out.trans hE7)
     have hl7:l7.length≤40000:=by have:=hr7.out.2.2.2;simp at this;omega
     have hv7:lv l7=lv q*m:=by rw [hr7.out.2.2.1,lv_cons,lv_nil,Nat.mul_zero,Nat.add_zero]
     have HOR:=Lib.hid (rOrder_any l7 R1 r7 v6 w7 hr7.out.1.at ((HO6.out.at).ext (HEI.out.trans HX7.out)) hr7.out.2.1 HC6.out (by omega) (by omega))
     rw [hv7] at HOR
     clear hr7 hE7 hv7 HTM HX0
     go_wp2_with fail
     refine HOR.out.mono ?_
     rintro e w8 ⟨rfl,hE8⟩
     have HX8:=Lib.hid (HEI.out.trans (HX7.out.trans hE8))
     clear hE8 HOR
     by_cases hc:lv q*m≤lv R1
     ·have hmd:=(HQD.out m).1 hc
      have q1:cmpN (lv q*m) (lv R1)≤0:=cmpN_le hc
      obtain ⟨cm,hcm⟩:∃ c,c=cmpN (lv q*m) (lv R1):=⟨_,rfl⟩
      rw [← hcm] at q1 ⊢
      clear hc hcm
      go_wp2_with fail
      go_roundw
      case rel=>exact ⟨m,x2,by first | rfl | go_num,rfl,hmd,h2,h3,HX8.out⟩
      case measure=>simp [intOf];omega
     ·have hmd:d<m:=by
       false_or_by_contra
       exact hc ((HQD.out m).2 (by omega))
      have q1:¬ cmpN (lv q*m) (lv R1)≤0:=cmpN_nle hc
      obtain ⟨cm,hcm⟩:∃ c,c=cmpN (lv q*m) (lv R1):=⟨_,rfl⟩
      rw [← hcm] at q1 ⊢
      clear hc hcm
      go_wp2_with fail
      go_roundw
      case rel=>exact ⟨x1,m-1,rfl,by first | rfl | go_num | (congr 1;omega),h1,by omega,by omega,HX8.out⟩
      case measure=>simp [intOf];omega
    ·have hlt':¬ (x1:Int)<(x2:Int):=by omega
     obtain rfl:d=x1:=by omega
     obtain rfl:d=x2:=by omega
     have hszi:w.heap.size+1≤wi.heap.size:=Nat.le_trans hsz (Nat.le_trans HE6.out.size HEI.out.size)
     have HOI:=Lib.hid (HO.out.ext (HE6.out.trans HEI.out))
     obtain ⟨y,hy⟩:∃ y,L[k]?=some y:=⟨_,List.getElem?_eq_getElem (by have:=HLL.out;omega)⟩
     obtain ⟨g3,f3⟩:=HOI.out.get hy
     have HO2:=Lib.hid (HOI.out.set k d)
     have HR2:Hid (OwnJ wo.heap.size (wi.setCell ⟨w.heap.size,k,none⟩ (.int .i64 d)) v6 R1):=ownsRow_setCell_below (HO6.out.ext HEI.out) (a:=⟨w.heap.size,k,none⟩) (by show w.heap.size<wo.heap.size;omega) _
     have HX2:Hid (Ext w (wi.setCell ⟨w.heap.size,k,none⟩ (.int .i64 d))):=Below.setCell HEWI.out (p:=⟨w.heap.size,k,none⟩) (Nat.le_refl _) _
     have hsz2:w.heap.size+1≤(wi.setCell ⟨w.heap.size,k,none⟩ (.int .i64 d)).heap.size:=by simp [World.setCell];omega
     obtain ⟨w9,hw9⟩:∃ w9,w9=wi.setCell ⟨w.heap.size,k,none⟩ (.int .i64 d):=⟨_,rfl⟩
     by_cases hd0:0<d
     ·have hd0':(0:Int)<(d:Int):=by omega
      clear hy
      rw [← hw9] at HO2 HR2 HX2 hsz2
      have HW9:=Lib.hid hw9
      clear hw9
      go_upto_region 14 with fail
      rw [← HW9.out]
      have HX0:Hid (Ext w9 (w9.alloc (.cells #[.int .i64 d] 3))):=Ext.alloc _ _
      have HTM:=Lib.hid (rTimes_any q [d] v (.slice (some ⟨w9.heap.size,0,none⟩) 1 1) (w9.alloc (.cells #[.int .i64 d] 3)) (HV.out.ext (HX2.out.trans HX0.out)) (OwnJ.lit w9 d).at HQ.out.1 (Pcs.cons (by omega) Pcs.nil) (by omega) (by simp))
      clear g3 f3
      go_wp2_with fail
      refine HTM.out.mono ?_
      rintro e w7 ⟨r7,l7,rfl,hr7,hE7⟩
      have HX7:=Lib.hid (HX0.out.trans hE7)
      have hv7:lv l7=lv q*d:=by rw [hr7.out.2.2.1,lv_cons,lv_nil,Nat.mul_zero,Nat.add_zero]
      have HMI:=Lib.hid (rMinus_any R1 l7 v6 r7 w7 ((HR2.out.at).ext HX7.out) hr7.out.1.at HC6.out hr7.out.2.1 (by rw [hv7];exact (HQD.out d).2 (Nat.le_refl _)) (by omega))
      rw [hv7] at HMI
      clear hr7 hE7 hv7 HTM HX0
      go_wp2_with fail
      refine HMI.out.mono ?_
      rintro e w8 ⟨r8,l8,rfl,hr8,hE8⟩
      have HX8:=Lib.hid (HX7.out.trans hE8)
      have HF:Hid (OwnJ (w.heap.size+1) w8 r8 l8∧Can l8):=⟨hr8.out.1.base (Nat.le_trans hsz2 HX7.out.size),hr8.out.2.1⟩
      have HST2:Hid (DivJ p q k (L.set k d) (lv l8)):=by
       unfold Hid
       rw [hr8.out.2.2.1,HV6.out,Nat.mul_comm (lv q) d]
       exact HST.out
      clear hr8 hE8 HMI
      go_wp2_with fail
      go_roundw
      case rel=>exact ⟨k,_,l8,by omega,by go_num,HX2.out.trans HX8.out,Nat.le_trans hsz2 HX8.out.size,HO2.out.ext HX8.out,HF.out,HST2.out⟩
      case measure=>simp [intOf]
     ·obtain rfl:0=d:=by omega
      have HF:Hid (OwnJ (w.heap.size+1) (wi.setCell ⟨w.heap.size,k,none⟩ (.int .i64 (0:Nat))) v6 R1∧Can R1):=⟨HR2.out.base hsz,HC6.out⟩
      have HST2:Hid (DivJ p q k (L.set k 0) (lv R1)):=by
       have:=HST.out
       rw [Nat.zero_mul,Nat.sub_zero,← HV6.out] at this
       exact this
      clear hy
      go_wp2_with fail
      go_roundw
      case rel=>exact ⟨k,_,R1,by omega,by go_num,HX2.out,hsz2,HO2.out,HF.out,HST2.out⟩
      case measure=>simp [intOf]
  ·obtain rfl:k1=0:=by omega
   have HT:=Lib.hid (rTrim_any w.heap.size L _ wo HO.out HS.out.pcs)
   have HDN:=Lib.hid HS.out.done
   have HRL:Hid (R.length≤q.length):=Can.length_le HR.out.2 HQ.out (Nat.le_of_lt HS.out.lt)
   have HL:=Lib.hid HS.out.len
   go_wp2_with fail
   refine HT.out.mono ?_
   rintro e w5 ⟨r,l,rfl,hr,kk,rfl⟩
   have HRR:=Lib.hid hr
   clear hr HT
   go_wp2_with fail
   go_ret2
   exact ⟨r,u7,l,R,rfl,⟨HRR.out.out.1,HRR.out.out.2.1,HRR.out.out.2.2.1.trans HDN.out.1,by rw [HN.out,← HL.out];exact HRR.out.out.2.2.2,(HR.out.1.base (by omega)).ext (Ext.draws (Ext.refl _) _),HR.out.2,HDN.out.2,HRL.out⟩,Ext.draws hEw _⟩
def qkB (n:Int):Bool:=decide (n.natAbs<1000000000000000000)
def qkV (n:Int):Int:=if n.natAbs<1000000000000000000 then n else 0
set_option maxRecDepth 100000 in
theorem rQuickG_any (n:Int) (w:World) (hsz:(intB n).size≤1000000) :
  Calls Tryz.prog 126 #[.string (intB n)] w fun e w'=>e=.returned (.tuple #[.int .i64 (qkV n),.bool (qkB n)])∧Ext w w':=by
 by_cases h:n.natAbs<1000000000000000000
 ·unfold qkB qkV
  rw [if_pos h,decide_eq_true h]
  exact rQuick_any n w (by omega)
 ·have HD:=Lib.hid (rDigits_any n w)
  have HV:Hid (qkV n=0∧qkB n=false):=⟨by unfold qkV;rw [if_neg h],by unfold qkB;exact decide_eq_false h⟩
  have hs:18<(numB n.natAbs).size:=by
   rw [numB_size]
   false_or_by_contra
   rename_i hn
   have h1:=Lib.lt_pow_nDigits n.natAbs
   have h2:10^Lib.nDigits n.natAbs≤10^18:=Nat.pow_le_pow_right (by omega) (by omega)
   rw [show (10:Nat)^18=1000000000000000000 by decide] at h2
   omega
  have hz:(18:Int)<((numB n.natAbs).size:Int):=by omega
  clear h
  go_enter Tryz.func126,Tryz.ntmps126
  go_wp2_with fail
  refine HD.out.mono ?_
  rintro e w1 ⟨rfl,rfl⟩
  go_wp2_with fail
  go_ret2
  exact ⟨by rw [HV.out.1,HV.out.2];rfl,Ext.refl _⟩
def sdJ (n:Int):Int:=if n<0 then -1 else 1
set_option maxRecDepth 100000 in
theorem rSide_any (n:Int) (w:World) :
  Calls Tryz.prog 128 #[.string (intB n)] w fun e w'=>e=.returned (.int .i64 (sdJ n))∧w=w':=by
 have HS:=Lib.hid (rSign_any n w)
 by_cases h:n<0
 ·have HR:Hid (sdJ n=-1):=by unfold Hid sdJ;rw [if_pos h]
  rw [Int.sign_eq_neg_one_of_neg h] at HS
  clear h
  go_enter Tryz.func128,Tryz.ntmps128
  go_wp2_with fail
  refine HS.out.mono ?_
  rintro e w1 ⟨rfl,rfl⟩
  go_wp2_with fail
  go_ret
  exact ⟨by rw [HR.out];rfl,rfl⟩
 ·have HR:Hid (sdJ n=1):=by unfold Hid sdJ;rw [if_neg h]
  have h0:0≤n.sign:=Int.sign_nonneg_iff.2 (by omega)
  obtain ⟨s,hs⟩:∃ s,s=n.sign:=⟨_,rfl⟩
  rw [← hs] at HS h0
  have h1:¬ s<0:=by omega
  clear h hs
  go_enter Tryz.func128,Tryz.ntmps128
  go_wp2_with fail
  refine HS.out.mono ?_
  rintro e w1 ⟨rfl,rfl⟩
  go_wp2_with fail
  go_ret
  exact ⟨by rw [HR.out];rfl,rfl⟩
set_option maxRecDepth 100000 in
set_option maxHeartbeats 400000 in
theorem rNeg_any (n:Int) (w:World) (hsz:(intB n).size≤1000000) :
  Calls Tryz.prog 72 #[.string (intB n)] w fun e w'=>e=.returned (.string (intB (-n)))∧w=w':=by
 have HS:=Lib.hid (rSign_any n w)
 have hp0:0<(intB n).size:=intB_size_pos n
 by_cases h:n<0
 ·rw [Int.sign_eq_neg_one_of_neg h] at HS
  have HT:=Lib.hid (neg_tail n h)
  have hp1:(1:Int)≤((intB n).size:Int):=by omega
  have HR:Hid (intB (-n)=numB n.natAbs):=by unfold Hid;rw [intB_pos (-n) (by omega)];congr 1;omega
  clear h
  go_enter Tryz.func72,Tryz.ntmps72
  go_wp2_with fail
  refine HS.out.mono ?_
  rintro e w1 ⟨rfl,rfl⟩
  go_wp2_with fail
  go_ret
  exact ⟨by rw [HR.out,← HT.out];rfl,rfl⟩
 ·by_cases h0:n=0
  ·subst h0
   go_enter Tryz.func72,Tryz.ntmps72
   go_wp2_with fail
   refine HS.out.mono ?_
   rintro e w1 ⟨rfl,rfl⟩
   go_wp2_with fail
   refine (rSign_any 0 w).mono ?_
   rintro e w1 ⟨rfl,rfl⟩
   go_wp2_with fail
   go_ret
   exact ⟨rfl,rfl⟩
  ·rw [Int.sign_eq_one_of_pos (by omega)] at HS
   have HR:Hid ((⟨#[45]⟩:ByteArray)++intB n=intB (-n)):=by
    refine catJ_eq ?_
    rw [intB_neg (-n) (by omega),intB_pos n (by omega),show (-n).natAbs=n.toNat by omega];rfl
   have z1:¬ 9223372036854775807<1+(intB n).size:=by omega
   clear h h0
   go_enter Tryz.func72,Tryz.ntmps72
   go_wp2_with fail
   refine HS.out.mono ?_
   rintro e w1 ⟨rfl,rfl⟩
   go_wp2_with fail
   refine HS.out.mono ?_
   rintro e w1 ⟨rfl,rfl⟩
   go_wp2_with fail
   go_ret
   exact ⟨by first | (rw [← HR.out];rfl) | rfl | (rw [HR.out];rfl),rfl⟩
theorem rSplitI_any (u:Nat) (w:World) (hs:(numB u).size≤400000) :
  Calls Tryz.prog 130 #[.string (numB u)] w fun e w'=>∃ v l,e=.returned v∧Hid (OwnJ w.heap.size w' v l∧Can l∧lv l=u∧l.length≤(numB u).size)∧Ext w w':=by
 have h:=rSplit_any (numB u) w (by rw [numB_data];exact digits_all _) hs
 rw [numB_data,digits_val] at h
 exact h
theorem nat_size_le (n:Int):(numB n.natAbs).size≤(intB n).size:=by
 by_cases h:n<0
 ·rw [intB_size_neg n h];omega
 ·rw [intB_pos n (by omega)]
  have:n.natAbs=n.toNat:=by omega
  rw [this];exact Nat.le_refl _
set_option maxRecDepth 100000 in
set_option maxHeartbeats 4000000 in
theorem rAdd_any (x y:Int) (w:World) (hx:(intB x).size≤15000) (hy:(intB y).size≤15000) (ht:Pow10 w) :
  Calls Tryz.prog 73 #[.string (intB x),.string (intB y)] w fun e w'=>e=.returned (.string (intB (x+y)))∧Ext w w':=by
 have HT:=Lib.hid ht
 have hux:=nat_size_le x
 have huy:=nat_size_le y
 have H1:=Lib.hid (rQuickG_any x w (by omega))
 have H2:Hid (∀ W,Calls Tryz.prog 126 #[.string (intB y)] W fun e w'=>e=.returned (.tuple #[.int .i64 (qkV y),.bool (qkB y)])∧Ext W w'):=fun W=>rQuickG_any y W (by omega)
 by_cases hsm:x.natAbs<1000000000000000000∧y.natAbs<1000000000000000000
 ·have b1:qkB x=true:=decide_eq_true hsm.1
  have b2:qkB y=true:=decide_eq_true hsm.2
  have v1:qkV x=x:=if_pos hsm.1
  have v2:qkV y=y:=if_pos hsm.2
  rw [b1,v1] at H1
  rw [b2,v2] at H2
  have H3:Hid (∀ W,Ext w W→Calls Tryz.prog 69 #[.int .i64 (x+y)] W fun e w'=>e=.returned (.string (intB (x+y)))∧Ext W w'):=fun W hE=>rOf_any _ W (by omega) (by omega) (HT.out.ext hE)
  have k1:-2000000000000000000<x+y:=by omega
  have k2:x+y<2000000000000000000:=by omega
  clear b1 b2 v1 v2 hsm ht
  go_enter Tryz.func73,Tryz.ntmps73
  go_wp2_with fail
  refine H1.out.mono ?_
  rintro e w1 ⟨rfl,hE1⟩
  have HE1:=Lib.hid hE1
  clear hE1 H1
  go_wp2_with fail
  refine (H2.out _).mono ?_
  rintro e w2 ⟨rfl,hE2⟩
  have HE2:=Lib.hid (Ext.trans HE1.out hE2)
  clear hE2 H2
  go_wp2_with fail
  refine (H3.out _ HE2.out).mono ?_
  rintro e w3 ⟨rfl,hE3⟩
  have HE3:=Lib.hid (Ext.trans HE2.out hE3)
  clear hE3 H3
  go_wp2_with fail
  go_ret
  exact ⟨rfl,HE3.out⟩
 ·have hbb:qkB x=false∨(qkB x=true∧qkB y=false):=by
   unfold qkB
   by_cases h1:x.natAbs<1000000000000000000
   ·exact .inr ⟨decide_eq_true h1,decide_eq_false (fun h2=>hsm ⟨h1,h2⟩)⟩
   ·exact .inl (decide_eq_false h1)
  obtain ⟨vx,hvx⟩:∃ v,v=qkV x:=⟨_,rfl⟩
  obtain ⟨vy,hvy⟩:∃ v,v=qkV y:=⟨_,rfl⟩
  rw [← hvx] at H1
  rw [← hvy] at H2
  have HDX:Hid (∀ W,Calls Tryz.prog 115 #[.string (intB x)] W fun e w'=>e=.returned (.string (numB x.natAbs))∧W=w'):=fun W=>rDigits_any x W
  have HDY:Hid (∀ W,Calls Tryz.prog 115 #[.string (intB y)] W fun e w'=>e=.returned (.string (numB y.natAbs))∧W=w'):=fun W=>rDigits_any y W
  obtain ⟨s1,hs1⟩:∃ s,s=sdJ x:=⟨_,rfl⟩
  obtain ⟨s2,hs2⟩:∃ s,s=sdJ y:=⟨_,rfl⟩
  have HSX:Hid (∀ W,Calls Tryz.prog 128 #[.string (intB x)] W fun e w'=>e=.returned (.int .i64 s1)∧W=w'):=fun W=>by rw [hs1];exact rSide_any x W
  have HSY:Hid (∀ W,Calls Tryz.prog 128 #[.string (intB y)] W fun e w'=>e=.returned (.int .i64 s2)∧W=w'):=fun W=>by rw [hs2];exact rSide_any y W
  have HF1:Hid (s1=s2→sgJ (decide (s1<0)) (x.natAbs+y.natAbs)=x+y):=by
   intro e
   rw [hs1,hs2] at e
   rw [hs1]
   unfold sdJ at e ⊢
   unfold sgJ
   by_cases h1:x<0 <;> by_cases h2:y<0 <;> simp [h1,h2] at e ⊢ <;> omega
  have HF2:Hid (s1≠s2→y.natAbs≤x.natAbs→sgJ (decide (s1<0)) (x.natAbs-y.natAbs)=x+y):=by
   intro e
   rw [hs1,hs2] at e
   rw [hs1]
   unfold sdJ at e ⊢
   unfold sgJ
   by_cases h1:x<0 <;> by_cases h2:y<0 <;> simp [h1,h2] at e ⊢ <;> omega
  have HF3:Hid (s1≠s2→x.natAbs≤y.natAbs→sgJ (decide (s2<0)) (y.natAbs-x.natAbs)=x+y):=by
   intro e
   rw [hs1,hs2] at e
   rw [hs2]
   unfold sdJ at e ⊢
   unfold sgJ
   by_cases h1:x<0 <;> by_cases h2:y<0 <;> simp [h1,h2] at e ⊢ <;> omega
  clear hsm ht hvx hvy hs1 hs2
  rcases hbb with hb | ⟨hb,hb2⟩
  case' inl =>
   rw [hb] at H1
   obtain ⟨by',hby⟩:∃ b,b=qkB y:=⟨_,rfl⟩
   rw [← hby] at H2
   clear hb hby
  case' inr =>
   rw [hb] at H1
   rw [hb2] at H2
   clear hb hb2
  all_goals
   go_enter Tryz.func73,Tryz.ntmps73
   go_wp2_with fail
   refine H1.out.mono ?_
   rintro e w1 ⟨rfl,hE1⟩
   have HE1:=Lib.hid hE1
   clear hE1 H1
   go_wp2_with fail
   refine (H2.out _).mono ?_
   rintro e w2 ⟨rfl,hE2⟩
   have HE2:=Lib.hid (Ext.trans HE1.out hE2)
   clear hE2 H2
   go_wp2_with fail
   refine (HDX.out _).mono ?_
   rintro e w3 ⟨rfl,rfl⟩
   go_wp2_with fail
   refine (rSplitI_any _ _ (by omega)).mono ?_
   rintro e w3 ⟨r3,l3,rfl,hr3,hE3⟩
   have HR3:=Lib.hid hr3
   have HE3:=Lib.hid (Ext.trans HE2.out hE3)
   clear hr3 hE3
   go_wp2_with fail
   refine (HDY.out _).mono ?_
   rintro e w4 ⟨rfl,rfl⟩
   go_wp2_with fail
   refine (rSplitI_any _ _ (by omega)).mono ?_
   rintro e w4 ⟨r4,l4,rfl,hr4,hE4⟩
   have HR4:=Lib.hid hr4
   have HE4:=Lib.hid (Ext.trans HE3.out hE4)
   have HA3:=Lib.hid ((HR3.out.out.1.at).ext hE4)
   have hl3:l3.length≤15000:=by have:=HR3.out.out.2.2.2;omega
   have hl4:l4.length≤15000:=by have:=HR4.out.out.2.2.2;omega
   clear hr4 hE4
   go_wp2_with fail
   refine (HSX.out _).mono ?_
   rintro e w5 ⟨rfl,rfl⟩
   go_wp2_with fail
   refine (HSY.out _).mono ?_
   rintro e w5 ⟨rfl,rfl⟩
   by_cases hss:s1=s2
   ·have q1:(s1 == s2)=true:=by rw [hss];exact beq_self_eq_true _
    have HR:=Lib.hid (HF1.out hss)
    clear hss HF1 HF2 HF3
    go_wp2_with fail
    refine (HSX.out _).mono ?_
    rintro e w5 ⟨rfl,rfl⟩
    go_wp2_with fail
    refine (rPlus_any l3 l4 _ _ _ HA3.out HR4.out.out.1.at HR3.out.out.2.1.1 HR4.out.out.2.1.1 (by omega) (by omega)).mono ?_
    rintro e w5 ⟨r5,l5,rfl,hr5,hE5⟩
    have HE5:=Lib.hid (Ext.trans HE4.out hE5)
    have HSG:=Lib.hid (rSigned_any _ (decide (s1<0)) l5 r5 w5 hr5.out.1 hr5.out.2.1 (by have:=hr5.out.2.2.2;omega) (HT.out.ext HE5.out))
    rw [hr5.out.2.2.1,HR3.out.out.2.2.1,HR4.out.out.2.2.1,HR.out] at HSG
    clear hr5 hE5
    go_wp2_with fail
    refine HSG.out.mono ?_
    rintro e w6 ⟨rfl,hE6⟩
    have HE6:=Lib.hid (Ext.trans HE5.out hE6)
    clear hE6
    go_wp2_with fail
    go_ret
    exact ⟨rfl,HE6.out⟩
   ·have q1:(s1 == s2)=false:=by rw [beq_eq_false_iff_ne];exact hss
    have HR2:=Lib.hid (HF2.out hss)
    have HR3':=Lib.hid (HF3.out hss)
    clear hss HF1 HF2 HF3
    go_wp2_with fail
    refine (rOrder_any l3 l4 _ _ _ HA3.out HR4.out.out.1.at HR3.out.out.2.1 HR4.out.out.2.1 (by omega) (by omega)).mono ?_
    rintro e w5 ⟨rfl,hE5⟩
    have HE5:=Lib.hid (Ext.trans HE4.out hE5)
    have HX5:=Lib.hid hE5
    rw [HR3.out.out.2.2.1,HR4.out.out.2.2.1]
    clear hE5
    by_cases hle:y.natAbs≤x.natAbs
    ·have hc:0≤cmpN x.natAbs y.natAbs:=by
      unfold cmpN;rw [if_neg (by omega)];split <;> omega
     have HR:=Lib.hid (HR2.out hle)
     have HLE:=Lib.hid hle
     obtain ⟨c,hcc⟩:∃ c,c=cmpN x.natAbs y.natAbs:=⟨_,rfl⟩
     rw [← hcc] at hc ⊢
     clear hcc hle
     go_wp2_with fail
     refine (HSX.out _).mono ?_
     rintro e w6 ⟨rfl,rfl⟩
     go_wp2_with fail
     refine (rMinus_any l3 l4 _ _ _ (HA3.out.ext HX5.out) ((HR4.out.out.1.at).ext HX5.out) HR3.out.out.2.1 HR4.out.out.2.1 (by rw [HR3.out.out.2.2.1,HR4.out.out.2.2.1];exact HLE.out) (by omega)).mono ?_
     rintro e w6 ⟨r6,l6,rfl,hr6,hE6⟩
     have HE6:=Lib.hid (Ext.trans HE5.out hE6)
     have HSG:=Lib.hid (rSigned_any _ (decide (s1<0)) l6 r6 w6 hr6.out.1 hr6.out.2.1.1 (by have:=hr6.out.2.2.2;omega) (HT.out.ext HE6.out))
     rw [hr6.out.2.2.1,HR3.out.out.2.2.1,HR4.out.out.2.2.1,HR.out] at HSG
     clear hr6 hE6
     go_wp2_with fail
     refine HSG.out.mono ?_
     rintro e w7 ⟨rfl,hE7⟩
     have HE7:=Lib.hid (Ext.trans HE6.out hE7)
     clear hE7
     go_wp2_with fail
     go_ret
     exact ⟨rfl,HE7.out⟩
    ·have hc:¬ 0≤cmpN x.natAbs y.natAbs:=by rw [cmpN_lt (by omega)];omega
     have HR:=Lib.hid (HR3'.out (by omega))
     have HLE:Hid (x.natAbs≤y.natAbs):=by unfold Hid;omega
     obtain ⟨c,hcc⟩:∃ c,c=cmpN x.natAbs y.natAbs:=⟨_,rfl⟩
     rw [← hcc] at hc ⊢
     clear hcc hle
     go_wp2_with fail
     refine (HSY.out _).mono ?_
     rintro e w6 ⟨rfl,rfl⟩
     go_wp2_with fail
     refine (rMinus_any l4 l3 _ _ _ ((HR4.out.out.1.at).ext HX5.out) (HA3.out.ext HX5.out) HR4.out.out.2.1 HR3.out.out.2.1 (by rw [HR3.out.out.2.2.1,HR4.out.out.2.2.1];exact HLE.out) (by omega)).mono ?_
     rintro e w6 ⟨r6,l6,rfl,hr6,hE6⟩
     have HE6:=Lib.hid (Ext.trans HE5.out hE6)
     have HSG:=Lib.hid (rSigned_any _ (decide (s2<0)) l6 r6 w6 hr6.out.1 hr6.out.2.1.1 (by have:=hr6.out.2.2.2;omega) (HT.out.ext HE6.out))
     rw [hr6.out.2.2.1,HR3.out.out.2.2.1,HR4.out.out.2.2.1,HR.out] at HSG
     clear hr6 hE6
     go_wp2_with fail
     refine HSG.out.mono ?_
     rintro e w7 ⟨rfl,hE7⟩
     have HE7:=Lib.hid (Ext.trans HE6.out hE7)
     clear hE7
     go_wp2_with fail
     go_ret
     exact ⟨rfl,HE7.out⟩
set_option maxRecDepth 100000 in
theorem rSub_any (x y:Int) (w:World) (hx:(intB x).size≤15000) (hy:(intB y).size≤14000) (ht:Pow10 w) :
  Calls Tryz.prog 144 #[.string (intB x),.string (intB y)] w fun e w'=>e=.returned (.string (intB (x-y)))∧Ext w w':=by
 have HN:=Lib.hid (rNeg_any y w (by omega))
 have hny:(intB (-y)).size≤15000:=by
  have h1:=intB_size_le (-y)
  have h2:=nat_size_le y
  rw [Int.natAbs_neg] at h1
  omega
 have HA:=Lib.hid (rAdd_any x (-y) w hx hny ht)
 rw [← Int.sub_eq_add_neg] at HA
 clear ht
 go_enter Tryz.func144,Tryz.ntmps144
 go_wp2_with fail
 refine HN.out.mono ?_
 rintro e w1 ⟨rfl,rfl⟩
 go_wp2_with fail
 refine HA.out.mono ?_
 rintro e w2 ⟨rfl,hE2⟩
 have HE2:=Lib.hid hE2
 clear hE2
 go_wp2_with fail
 go_ret
 exact ⟨rfl,HE2.out⟩
def valS:Value→Nat
 | .string s=>decV 0 s.data.toList
 | _=>0
theorem valS_num (y:Nat):valS (.string (numB y))=y:=by
 show decV 0 (numB y).data.toList=y
 rw [numB_data];exact decV_digits y
theorem nat_zero (y:Nat):((numB y).toList == [48])=decide (y=0):=by
 have:=int_zero (y:Int)
 rw [eb] at this
 rw [this]
 by_cases h:y=0
 ·simp [h]
 ·rw [decide_eq_false h,decide_eq_false (by omega)]
end Go.Proofs.YtjlkkofmojgipaaGreatDoor
