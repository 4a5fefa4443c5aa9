import Derived.Test.YtjlkkofmojgipaaGreatDoorPBI
import Derived.Test.YtjlkkofmojgipaaGreatDoorPAE
import Derived.Laws.AppendOwnNone
import Derived.Deep.Cut
import Derived.Test.YtjlkkofmojgipaaGreatDoorPBG
import Derived.Test.YtjlkkofmojgipaaGreatDoorPBF
namespace Go.Proofs.YtjlkkofmojgipaaGreatDoor
set_option linter.unusedVariables false
set_option linter.unusedSimpArgs false
open Go.RowKit
theorem catJ (a b:ByteArray):(a++b).data.toList=a.data.toList++b.data.toList:=by simp [ByteArray.data_append]
theorem catJ_eq {a b c:ByteArray} (h:a.data.toList++b.data.toList=c.data.toList):a++b=c:=by
 have e:=(catJ a b).trans h
 generalize a++b=x at *
 cases x;cases c
 congr 1
 exact Array.toList_inj.1 e
theorem ext_grownJ {w w':World} (h:w.grownBy w' none):Ext w w':=⟨h.os,h.tape,h.output,h.size,fun k hk=>h.block k hk (by simp)⟩
theorem mul_pieceJ {a b:Nat} (ha:a<1000000000) (hb:b<1000000000):a*b≤999999998000000001:=by
 have:a*b≤999999999*999999999:=Nat.mul_le_mul (by omega) (by omega)
 omega
set_option maxRecDepth 100000 in
set_option maxHeartbeats 2000000 in
theorem rTimes_any (p q:List Nat) (u v:Value) (w:World) (hu:PcsJ w u p) (hv:PcsJ w v q) (hp:Pcs p) (hq:Pcs q) (hlp:p.length≤50000) (hlq:q.length≤50000) :
  Calls Tryz.prog 129 #[u,v] w fun e w'=>∃ r l,e=.returned r∧Hid (OwnJ w.heap.size w' r l∧Can l∧lv l=lv p*lv q∧l.length≤p.length+q.length+1)∧Ext w w':=by
 obtain ⟨a,ca,rfl,hla,hca,hcu⟩:=hu.open
 obtain ⟨b,cb,rfl,hlb,hcb,hcv⟩:=hv.open
 have HP:=Lib.hid hp;have HQ:=Lib.hid hq
 have HU:=Lib.hid hcu;have HV:=Lib.hid hcv
 obtain ⟨i0,hi,hz0,hz1,hz2⟩:=info_parts infoJ
 have HI:=Lib.hid hi;have HZ0:=Lib.hid hz0;have HZ1:=Lib.hid hz1;have HZ2:=Lib.hid hz2
 obtain ⟨n,hn⟩:∃ n:Nat,n=p.length+q.length+1:=⟨_,rfl⟩
 have hnn:(p.length:Int)+(q.length:Int)+1=(n:Int):=by omega
 have hn5:n≤100001:=by omega
 have hnp:p.length≤n:=by omega
 have hnq:q.length≤n:=by omega
 have HN:=Lib.hid hn
 clear hi hz0 hz1 hz2 hu hv hcu hcv hp hq hn
 go_enter Tryz.func129,Tryz.ntmps129
 go_wp2_with (at_make;refine wpList_make_full _ rfl _ _ 26 rfl w.heap.size 3 i0 (.int .i64 0) 1 Tryz.underlying26 HI.out HZ0.out HZ1.out _ _ _ _ n rfl rfl rfl rfl ?c1 ?c2 ?c3 ?_)
 case c1=>rw [HZ2.out];omega
 case c2=>unfold maxLen;omega
 case c3=>exact Nat.le_refl _
 intro w1 hown hgrow
 have hE1:=ext_grownJ hgrow
 have HO0:=Lib.hid (OwnJ.made hown)
 have HS0:Hid (TimJ p q 0 (List.replicate n 0)):=by unfold Hid;rw [HN.out];exact TimJ.start p q
 clear hown hgrow
 go_wp2_with fail
 go_loopw [6] (fun t wr=>∃ (i:Nat) (L:List Nat),i≤p.length∧t=.int .i64 i∧Ext w wr∧Hid (OwnJ w.heap.size wr (.slice (some ⟨w.heap.size,0,none⟩) n n) L)∧Hid (TimJ p q i L)) (fun t _=>p.length-(intOf t).toNat)
 case atStart=>exact ⟨0,_,by omega,rfl,hE1,HO0.out,HS0.out⟩
 case round =>
  obtain ⟨i,L,hi,rfl,hEw,HO,HS⟩:=hrel
  obtain ⟨wo,rfl⟩:∃ wo:World,wo=wr:=⟨_,rfl⟩
  clear HO0 HS0
  by_cases hlt:i<p.length
  ·obtain ⟨x,hx⟩:∃ x,p[i]?=some x:=⟨_,List.getElem?_eq_getElem hlt⟩
   obtain ⟨ba,oa,rfl,-,hca'⟩:=HU.out (by rintro rfl;simp at hlt)
   have GX:=Lib.hid (hca' i x hx)
   have hxb:=HP.out.get hx
   have HX:=Lib.hid hx
   have HK0:=Lib.hid (HS.out.enter x)
   clear hx hca'
   go_wp2_with fail
   go_loopw [8,7] (fun t c wr=>∃ (k cc:Nat) (L:List Nat),k≤n∧t=.int .i64 k∧c=.int .i64 cc∧cc<1000000000∧Ext w wr∧Hid (OwnJ w.heap.size wr (.slice (some ⟨w.heap.size,0,none⟩) n n) L)∧Hid (TimJK p q i x k cc L)) (fun t _ _=>n-(intOf t).toNat)
   case atStart=>exact ⟨0,0,L,by omega,rfl,rfl,by omega,hEw,HO.out,HK0.out⟩
   case round =>
    obtain ⟨k,cc,L',hk,rfl,rfl,hcc,hEi,HOi,HKi⟩:=hrel
    obtain ⟨wi,rfl⟩:∃ wi:World,wi=wr:=⟨_,rfl⟩
    have g1:=hEi.cell GX.out
    have hLn:Hid (L'.length=n):=by unfold Hid;rw [HKi.out.len,HN.out]
    by_cases hgo:k<q.length∨0<cc
    ·have HRM:Hid (i+k<n):=by unfold Hid;rw [HN.out];exact HKi.out.room HP.out HQ.out HX.out hgo
     have hik:=HRM.out
     obtain ⟨y,hy⟩:∃ y,L'[i+k]?=some y:=⟨_,List.getElem?_eq_getElem (by have:=hLn.out;omega)⟩
     obtain ⟨g3,f3⟩:=HOi.out.get hy
     have hyb:=HKi.out.pcs.get hy
     have hszi:w.heap.size≤wi.heap.size:=hEi.size
     by_cases hkl:k<q.length
     ·obtain ⟨z,hz⟩:∃ z,q[k]?=some z:=⟨_,List.getElem?_eq_getElem hkl⟩
      obtain ⟨bb,ob,rfl,-,hcb'⟩:=HV.out (by rintro rfl;simp at hkl)
      have g2:=hEi.cell (hcb' k z hz)
      have hzb:=HQ.out.get hz
      have hm:=mul_pieceJ hxb hzb
      obtain ⟨m,hmm⟩:∃ m,x*z=m:=⟨_,rfl⟩
      rw [hmm] at hm
      have hmi:(x:Int)*(z:Int)=(m:Int):=by rw [← hmm];exact (Int.natCast_mul _ _).symm
      obtain ⟨t1,ht1⟩:∃ t,t=y+cc:=⟨_,rfl⟩
      have hti:(y:Int)+(cc:Int)=(t1:Int):=by omega
      obtain ⟨c',hc'⟩:∃ c',c'=cc+y+m:=⟨_,rfl⟩
      have hci:(t1:Int)+(m:Int)=(c':Int):=by omega
      obtain ⟨r,hr⟩:∃ r,r=c'%1000000000:=⟨_,rfl⟩
      obtain ⟨d,hd⟩:∃ d,d=c' / 1000000000:=⟨_,rfl⟩
      have hri:(c':Int).tmod 1000000000=(r:Int):=by rw [Int.tmod_eq_emod_of_nonneg (by omega)];omega
      have hdi:(c':Int).tdiv 1000000000=(d:Int):=by rw [Int.tdiv_eq_ediv_of_nonneg (by omega)];omega
      have hdb:d<1000000000:=by omega
      have hcb2:c'<1000000000000000000:=by omega
      have hrb:r<1000000000:=by omega
      have ht1b:t1<2000000000:=by omega
      have HK2:Hid (TimJK p q i x (k+1) d (L'.set (i+k) r)):=by
       unfold Hid;rw [hd]
       exact HKi.out.step hy hxb HQ.out (by rw [hc',pieceJ_get hz,hmm]) hr
      have HO2:=Lib.hid (HOi.out.set (i+k) r)
      clear hz hy hcb' hmm hc' hr hd ht1 hgo
      go_wp2_with fail
      try (go_quiet (fail);go_wp2_with fail)
      go_roundw
      case rel=>exact ⟨k+1,d,_,by omega,by go_num,by first | rfl | go_num,hdb,by first | exact Below.setCell hEi (p:=⟨w.heap.size,i+k,none⟩) (Nat.le_refl _) _ | exact Below.setCell (Ext.draws hEi _) (p:=⟨w.heap.size,i+k,none⟩) (Nat.le_refl _) _,HO2.out,HK2.out⟩
      case measure=>simp [intOf];omega
     ·have hc0:(0:Int)<(cc:Int):=by omega
      obtain ⟨t1,ht1⟩:∃ t,t=y+cc:=⟨_,rfl⟩
      have hti:(y:Int)+(cc:Int)=(t1:Int):=by omega
      obtain ⟨r,hr⟩:∃ r,r=t1%1000000000:=⟨_,rfl⟩
      obtain ⟨d,hd⟩:∃ d,d=t1 / 1000000000:=⟨_,rfl⟩
      have hri:(t1:Int).tmod 1000000000=(r:Int):=by rw [Int.tmod_eq_emod_of_nonneg (by omega)];omega
      have hdi:(t1:Int).tdiv 1000000000=(d:Int):=by rw [Int.tdiv_eq_ediv_of_nonneg (by omega)];omega
      have hdb:d<1000000000:=by omega
      have hrb:r<1000000000:=by omega
      have ht1b:t1<2000000000:=by omega
      have HK2:Hid (TimJK p q i x (k+1) d (L'.set (i+k) r)):=by
       unfold Hid;rw [hd]
       exact HKi.out.step hy hxb HQ.out (by rw [ht1,pieceJ_out (by omega)];omega) hr
      have HO2:=Lib.hid (HOi.out.set (i+k) r)
      clear hy hr hd ht1 hgo
      go_wp2_with fail
      go_roundw
      case rel=>exact ⟨k+1,d,_,by omega,by go_num,by first | rfl | go_num,hdb,Below.setCell hEi (p:=⟨w.heap.size,i+k,none⟩) (Nat.le_refl _) _,HO2.out,HK2.out⟩
      case measure=>simp [intOf];omega
    ·have hc0:cc=0:=by omega
     subst hc0
     have hkl:¬ k<q.length:=fun h=>hgo (.inl h)
     have HS2:=Lib.hid (HKi.out.leave (by omega) HX.out)
     clear hgo
     go_wp2_with fail
     go_roundw
     case rel=>exact ⟨i+1,_,by omega,by go_num,hEi,HOi.out,HS2.out⟩
     case measure=>simp [intOf];omega
  ·obtain rfl:p.length=i:=by omega
   have HT:=Lib.hid (rTrim_any w.heap.size L _ wo HO.out HS.out.pcs)
   have HV:=HS.out.val
   rw [List.take_length] at HV
   have HV:=Lib.hid HV
   have HL:=Lib.hid HS.out.len
   go_wp2_with fail
   refine HT.out.mono ?_
   rintro e w5 ⟨r,l,rfl,hr,kk,rfl⟩
   have HR:=Lib.hid hr
   clear hr HT
   go_wp2_with fail
   go_ret
   exact ⟨r,l,rfl,⟨HR.out.out.1,HR.out.out.2.1,HR.out.out.2.2.1.trans HV.out,by rw [← HL.out];exact HR.out.out.2.2.2⟩,Ext.draws hEw _⟩
theorem lv_pow_lt {l:List Nat} (h:Pcs l):lv l<10^(9*l.length):=by rw [← pB_pow];exact lv_lt h
theorem numB_pieces {l:List Nat} (h:Pcs l) (hl:l≠[]):(numB (lv l)).size≤9*l.length:=by
 rw [numB_size]
 exact nDigits_le _ _ (lv_pow_lt h) (by have:=List.length_pos_iff.2 hl;omega)
theorem Can.drop {l:List Nat} (h:Can l) {k:Nat} (hk:k<l.length):Can (l.drop k):=by
 refine ⟨h.1.drop k,fun x hx=>?_⟩
 rw [List.length_drop,List.getElem?_drop,show k+(l.length-k-1)=l.length-1 by omega] at hx
 exact h.2 x hx
set_option maxRecDepth 100000 in
set_option maxHeartbeats 2000000 in
theorem rJoin_any (l:List Nat) (v:Value) (w:World) (h:PcsJ w v l) (hc:Can l) (hlen:l.length≤100000) (ht:Pow10 w) :
  Calls Tryz.prog 180 #[v] w fun e w'=>e=.returned (.string (numB (lv l)))∧Ext w w':=by
 obtain ⟨a,cap,rfl,hl,hcap,hcell⟩:=h.open
 have HX:=Lib.hid hcell
 have HC:=Lib.hid hc
 have HT:=Lib.hid ht
 clear h hcell hc ht
 by_cases hn:l=[]
 ·subst hn
  have HF:Hid (numB (lv [])=⟨#[48]⟩):=by unfold Hid numB;rw [lv_nil,Lib.decDigits_one (by omega)];rfl
  rw [HF.out]
  go_enter Tryz.func180,Tryz.ntmps180
  go_wp2_with fail
  go_ret
  exact ⟨rfl,Ext.refl _⟩
 ·obtain ⟨b,off,rfl,hb,hcell⟩:=HX.out hn
  have HCELL:=Lib.hid hcell
  have hpos:0<l.length:=List.length_pos_iff.2 hn
  have hnz:((l.length:Int) == 0)=false:=by rw [beq_eq_false_iff_ne];omega
  obtain ⟨x0,hx0⟩:∃ x,l[l.length-1]?=some x:=⟨_,List.getElem?_eq_getElem (by omega)⟩
  have g0:=hcell _ _ hx0
  have hx0b:=HC.out.1.get hx0
  have hi0:(0:Int)≤(l.length:Int)-1:=by omega
  have hi1:((l.length:Int)-1).toNat=l.length-1:=by omega
  have H1:=Lib.hid (itoa_int (x0:Int) w (by omega) (by omega) HT.out)
  have HD0:Hid (intB (x0:Int)=numB (lv (l.drop (l.length-1)))):=by
   unfold Hid
   rw [intB_pos _ (by omega),lv_drop_succ hx0,List.drop_eq_nil_of_le (by omega),lv_nil]
   congr 1
  clear hcell HX hx0 hn
  go_enter Tryz.func180,Tryz.ntmps180
  go_wp2_with fail
  refine H1.out.mono ?_
  rintro e w1 ⟨rfl,hE1⟩
  have HE1:=Lib.hid hE1
  rw [HD0.out]
  clear hE1 g0 H1
  go_wp2_with fail
  go_loopw [4,3] (fun t s wr=>∃ (k:Nat),t=.int .i64 ((k:Int)-1)∧k+1≤l.length∧s=.string (numB (lv (l.drop k)))∧Hid (Ext w wr)) (fun t _ _=>(intOf t+1).toNat)
  case atStart=>exact ⟨l.length-1,by congr 1;omega,by omega,rfl,by first | exact HE1.out | exact HE1.out.trans (Ext.drew _)⟩
  case round =>
   obtain ⟨k1,rfl,hk,rfl,HE⟩:=hrel
   obtain ⟨wo,rfl⟩:∃ wo:World,wo=wr:=⟨_,rfl⟩
   by_cases hk0:0<k1
   ·obtain ⟨k,rfl⟩:∃ k,k1=k+1:=⟨k1-1,by omega⟩
    have e1:((k+1:Nat):Int)-1=(k:Int):=by omega
    rw [e1]
    obtain ⟨x,hx⟩:∃ x,l[k]?=some x:=⟨_,List.getElem?_eq_getElem (by omega)⟩
    have g1:=HE.out.cell (HCELL.out k x hx)
    have hxb:=HC.out.1.get hx
    have HX:=Lib.hid hx
    have H2:=Lib.hid (itoa_int (x:Int) wo (by omega) (by omega) (HT.out.ext HE.out))
    have hkl:k<l.length:=by omega
    have HSZ:Hid ((numB (lv (l.drop (k+1)))).size≤900000):=by
     unfold Hid
     have h1:=numB_pieces (HC.out.1.drop (k+1)) (by intro e;have:=congrArg List.length e;rw [List.length_drop] at this;simp at this;omega)
     rw [List.length_drop] at h1
     omega
    have HSTEP:Hid (Lib.decDigits (lv (l.drop k))=Lib.decDigits (lv (l.drop (k+1)))++padJ x):=by
     unfold Hid
     rw [lv_drop_succ hx]
     refine digits_pad ?_ hxb
     have h1:=(HC.out.drop (k:=k+1) (by omega)).ge (by intro e;have:=congrArg List.length e;rw [List.length_drop] at this;simp at this;omega)
     have:=pB_pos ((l.drop (k+1)).length-1)
     omega
    clear hx e1
    obtain ⟨S,hS⟩:∃ S,S=numB (lv (l.drop (k+1))):=⟨_,rfl⟩
    rw [← hS] at HSZ ⊢
    have HSD:Hid (S.data.toList=Lib.decDigits (lv (l.drop (k+1)))):=by unfold Hid;rw [hS,numB_data]
    have hsz:=HSZ.out
    clear hS
    go_wp2_with fail
    refine H2.out.mono ?_
    rintro e w2 ⟨rfl,hE2⟩
    have HE2:=Lib.hid (HE.out.trans hE2)
    clear hE2 g1 H2
    go_wp2_with fail
    have HIX:Hid ((intB (x:Int)).data.toList=Lib.decDigits x):=by
     unfold Hid;rw [intB_pos _ (by omega),numB_data];rfl
    have HDL:Hid ((Lib.decDigits x).length≤9):=by
     unfold Hid
     rw [Lib.decDigits_length]
     exact nDigits_le x 9 (by rw [show (10:Nat)^9=1000000000 by decide];exact hxb) (by omega)
    go_loopw [5] (fun t wr=>∃ (j:Nat) (b5:ByteArray),t=.string b5∧j≤9∧b5.size≤9∧Hid (b5.data.toList=List.replicate j 48++Lib.decDigits x)∧Hid (Ext w2 wr)) (fun t _=>match t with | .string b=>9-b.size | _=>0)
    case atStart=>exact ⟨0,_,rfl,by omega,by rw [Lib.size_eq,HIX.out];exact HDL.out,by unfold Hid;rw [HIX.out];rfl,by first | exact Ext.refl _ | exact Ext.drew _⟩
    case round =>
     obtain ⟨j,b5,rfl,hj,hb5,HBD,HEX⟩:=hrel
     obtain ⟨wi,rfl⟩:∃ wi:World,wi=wr:=⟨_,rfl⟩
     by_cases hlt:b5.size<9
     ·have hlt':(b5.size:Int)<9:=by omega
      have z1:¬ 9223372036854775807<1+b5.size:=by omega
      have HNJ:Hid (j+1≤9):=by
       unfold Hid
       have:=congrArg List.length HBD.out
       rw [← Lib.size_eq,List.length_append,List.length_replicate] at this
       omega
      have hnj:=HNJ.out
      have HBN:Hid (((⟨#[48]⟩:ByteArray)++b5).data.toList=List.replicate (j+1) 48++Lib.decDigits x):=by
       unfold Hid
       rw [catJ,HBD.out,List.replicate_succ];rfl
      have HBS:Hid (((⟨#[48]⟩:ByteArray)++b5).size=b5.size+1):=by
       unfold Hid
       rw [Lib.size_eq,catJ,List.length_append,Lib.size_eq]
       show 1+_=_
       omega
      go_wp2_with fail
      go_roundw
      case rel=>exact ⟨j+1,_,rfl,hnj,by rw [HBS.out];omega,HBN.out,by first | exact HEX.out | exact HEX.out.trans (Ext.drew _)⟩
      case measure=>show 9-((⟨#[48]⟩:ByteArray)++b5).size<9-b5.size;rw [HBS.out];omega
     ·have hlt':¬ (b5.size:Int)<9:=by omega
      have z1:¬ 9223372036854775807<S.size+b5.size:=by omega
      have HPAD:Hid (b5.data.toList=padJ x):=by
       unfold Hid padJ
       rw [HBD.out]
       have:=congrArg List.length HBD.out
       rw [← Lib.size_eq,List.length_append,List.length_replicate] at this
       congr 2
       omega
      have HNEW:Hid (S++b5=numB (lv (l.drop k))):=by
       unfold Hid
       exact catJ_eq (by rw [numB_data,HSTEP.out,← HSD.out,← HPAD.out])
      have HEW:=Lib.hid (HE2.out.trans HEX.out)
      go_wp2_with fail
      go_roundw
      case rel=>exact ⟨k,by first | rfl | go_num,by omega,by rw [HNEW.out],HEW.out⟩
      case measure=>first | (simp [intOf];done) | (simp [intOf];omega)
   ·obtain rfl:k1=0:=by omega
    go_wp2_with fail
    go_ret
    exact ⟨by rw [List.drop_zero];rfl,HE.out⟩
def sgJ (b:Bool) (u:Nat):Int:=if b then -(u:Int) else u
set_option maxRecDepth 100000 in
set_option maxHeartbeats 1000000 in
theorem rSigned_any (B:Nat) (neg:Bool) (l:List Nat) (v:Value) (w:World) (h:OwnJ B w v l) (hp:Pcs l) (hlen:l.length≤100000) (ht:Pow10 w) :
  Calls Tryz.prog 127 #[.bool neg,v] w fun e w'=>e=.returned (.string (intB (sgJ neg (lv l))))∧Ext w w':=by
 have H1:=Lib.hid (rTrim_any B l v w h hp)
 have HT:=Lib.hid ht
 clear h ht
 cases neg with
 | false =>
  have HR:Hid (intB (sgJ false (lv l))=numB (lv l)):=by
   unfold Hid sgJ;rw [if_neg (by decide),intB_pos _ (by omega)];congr 1
  rw [HR.out]
  go_enter Tryz.func127,Tryz.ntmps127
  go_wp2_with fail
  refine H1.out.mono ?_
  rintro e w1 ⟨v',l',rfl,hr,kk,rfl⟩
  have HRR:=Lib.hid hr
  have H2:=Lib.hid (rJoin_any l' v' (w.drewN kk) hr.out.1.at hr.out.2.1 (by have:=hr.out.2.2.2;omega) (HT.out.ext (Ext.draws (Ext.refl _) _)))
  rw [hr.out.2.2.1] at H2
  clear hr H1
  go_wp2_with fail
  refine H2.out.mono ?_
  rintro e w2 ⟨rfl,hE2⟩
  have HE2:=Lib.hid (Ext.trans (Ext.draws (Ext.refl _) _) hE2)
  clear hE2 H2
  go_wp2_with fail
  go_ret
  exact ⟨rfl,HE2.out⟩
 | true =>
  have HZ:Hid (lv l=0→intB (sgJ true (lv l))=numB (lv l)):=by
   intro e;unfold sgJ;rw [if_pos rfl,e,intB_pos _ (by omega)];congr 1
  have HN:Hid (lv l≠0→(⟨#[45]⟩:ByteArray)++numB (lv l)=intB (sgJ true (lv l))):=by
   intro e
   refine catJ_eq ?_
   unfold sgJ
   rw [if_pos rfl,intB_neg _ (by omega),show (-(lv l:Int)).natAbs=lv l by omega];rfl
  have HSZ:Hid ((numB (lv l)).size≤900000):=by
   unfold Hid
   by_cases hl:l=[]
   ·subst hl;rw [lv_nil,numB_size,Lib.nDigits_small (by omega)];omega
   ·have:=numB_pieces hp hl;omega
  go_enter Tryz.func127,Tryz.ntmps127
  go_wp2_with fail
  refine H1.out.mono ?_
  rintro e w1 ⟨v',l',rfl,hr,kk,rfl⟩
  have H2:=Lib.hid (rJoin_any l' v' (w.drewN kk) hr.out.1.at hr.out.2.1 (by have:=hr.out.2.2.2;omega) (HT.out.ext (Ext.draws (Ext.refl _) _)))
  obtain ⟨a,c,rfl,h1,h2,-⟩:=hr.out.1.form
  have hv:=hr.out.2.2.1
  have hz:=hr.out.2.1.zero
  rw [hv] at H2 hz
  have HV:=Lib.hid hv
  have HL0:Hid (l'.length=0↔lv l=0):=by unfold Hid;rw [hz,List.length_eq_zero_iff]
  clear hr H1 hv hz
  by_cases h0:l'.length=0
  ·have e0:=HL0.out.1 h0
   have q:¬ (0:Int)<(l'.length:Int):=by omega
   have HZ2:=Lib.hid (HZ.out e0)
   clear e0 h0
   go_wp2_with fail
   refine H2.out.mono ?_
   rintro e w2 ⟨rfl,hE2⟩
   have HE2:=Lib.hid (Ext.trans (Ext.draws (Ext.refl _) _) hE2)
   clear hE2 H2
   go_wp2_with fail
   go_ret
   exact ⟨by first | rfl | (rw [HZ2.out];rfl) | (rw [← HZ2.out];rfl),HE2.out⟩
  ·have e0:lv l≠0:=fun e=>h0 (HL0.out.2 e)
   have q:(0:Int)<(l'.length:Int):=by omega
   have HZ2:=Lib.hid (HN.out e0)
   have hsz:=HSZ.out
   have z1:¬ 9223372036854775807<1+(numB (lv l)).size:=by omega
   clear e0 h0
   go_wp2_with fail
   refine H2.out.mono ?_
   rintro e w2 ⟨rfl,hE2⟩
   have HE2:=Lib.hid (Ext.trans (Ext.draws (Ext.refl _) _) hE2)
   clear hE2 H2
   go_wp2_with fail
   go_ret
   exact ⟨by first | rfl | (rw [HZ2.out];rfl) | (rw [← HZ2.out];rfl),HE2.out⟩
theorem OwnJ.lit (w:World) (m:Nat):OwnJ w.heap.size (w.alloc (.cells #[.int .i64 m] 3)) (.slice (some ⟨w.heap.size,0,none⟩) 1 1) [m]:=by
 have:=World.ownsRow_lit (e:=3) (size:=1) w #[Value.int .i64 m] 1 (Nat.le_refl _) (by unfold maxLen;omega) rfl
 exact this
def qkB (n:Int):Bool:=decide (n.natAbs<1000000000000000000)
def qkV (n:Int):Int:=if n.natAbs<1000000000000000000 then n else 0
set_option maxRecDepth 100000 in
theorem rQuickG_any (n:Int) (w:World) (hsz:(intB n).size≤1000000) :
  Calls Tryz.prog 126 #[.string (intB n)] w fun e w'=>e=.returned (.tuple #[.int .i64 (qkV n),.bool (qkB n)])∧Ext w w':=by
 by_cases h:n.natAbs<1000000000000000000
 ·unfold qkB qkV
  rw [if_pos h,decide_eq_true h]
  exact rQuick_any n w (by omega)
 ·have HD:=Lib.hid (rDigits_any n w)
  have HV:Hid (qkV n=0∧qkB n=false):=⟨by unfold qkV;rw [if_neg h],by unfold qkB;exact decide_eq_false h⟩
  have hs:18<(numB n.natAbs).size:=by
   rw [numB_size]
   false_or_by_contra
   rename_i hn
   have h1:=Lib.lt_pow_nDigits n.natAbs
   have h2:10^Lib.nDigits n.natAbs≤10^18:=Nat.pow_le_pow_right (by omega) (by omega)
   rw [show (10:Nat)^18=1000000000000000000 by decide] at h2
   omega
  have hz:(18:Int)<((numB n.natAbs).size:Int):=by omega
  clear h
  go_enter Tryz.func126,Tryz.ntmps126
  go_wp2_with fail
  refine HD.out.mono ?_
  rintro e w1 ⟨rfl,rfl⟩
  go_wp2_with fail
  go_ret2
  exact ⟨by rw [HV.out.1,HV.out.2];rfl,Ext.refl _⟩
def sdJ (n:Int):Int:=if n<0 then -1 else 1
set_option maxRecDepth 100000 in
theorem rSide_any (n:Int) (w:World) :
  Calls Tryz.prog 128 #[.string (intB n)] w fun e w'=>e=.returned (.int .i64 (sdJ n))∧w=w':=by
 have HS:=Lib.hid (rSign_any n w)
 by_cases h:n<0
 ·have HR:Hid (sdJ n=-1):=by unfold Hid sdJ;rw [if_pos h]
  rw [Int.sign_eq_neg_one_of_neg h] at HS
  clear h
  go_enter Tryz.func128,Tryz.ntmps128
  go_wp2_with fail
  refine HS.out.mono ?_
  rintro e w1 ⟨rfl,rfl⟩
  go_wp2_with fail
  go_ret
  exact ⟨by rw [HR.out];rfl,rfl⟩
 ·have HR:Hid (sdJ n=1):=by unfold Hid sdJ;rw [if_neg h]
  have h0:0≤n.sign:=Int.sign_nonneg_iff.2 (by omega)
  obtain ⟨s,hs⟩:∃ s,s=n.sign:=⟨_,rfl⟩
  rw [← hs] at HS h0
  have h1:¬ s<0:=by omega
  clear h hs
  go_enter Tryz.func128,Tryz.ntmps128
  go_wp2_with fail
  refine HS.out.mono ?_
  rintro e w1 ⟨rfl,rfl⟩
  go_wp2_with fail
  go_ret
  exact ⟨by rw [HR.out];rfl,rfl⟩
set_option maxRecDepth 100000 in
set_option maxHeartbeats 400000 in
theorem rNeg_any (n:Int) (w:World) (hsz:(intB n).size≤1000000) :
  Calls Tryz.prog 72 #[.string (intB n)] w fun e w'=>e=.returned (.string (intB (-n)))∧w=w':=by
 have HS:=Lib.hid (rSign_any n w)
 have hp0:0<(intB n).size:=intB_size_pos n
 by_cases h:n<0
 ·rw [Int.sign_eq_neg_one_of_neg h] at HS
  have HT:=Lib.hid (neg_tail n h)
  have hp1:(1:Int)≤((intB n).size:Int):=by omega
  have HR:Hid (intB (-n)=numB n.natAbs):=by unfold Hid;rw [intB_pos (-n) (by omega)];congr 1;omega
  clear h
  go_enter Tryz.func72,Tryz.ntmps72
  go_wp2_with fail
  refine HS.out.mono ?_
  rintro e w1 ⟨rfl,rfl⟩
  go_wp2_with fail
  go_ret
  exact ⟨by rw [HR.out,← HT.out];rfl,rfl⟩
 ·by_cases h0:n=0
  ·subst h0
   go_enter Tryz.func72,Tryz.ntmps72
   go_wp2_with fail
   refine HS.out.mono ?_
   rintro e w1 ⟨rfl,rfl⟩
   go_wp2_with fail
   refine (rSign_any 0 w).mono ?_
   rintro e w1 ⟨rfl,rfl⟩
   go_wp2_with fail
   go_ret
   exact ⟨rfl,rfl⟩
  ·rw [Int.sign_eq_one_of_pos (by omega)] at HS
   have HR:Hid ((⟨#[45]⟩:ByteArray)++intB n=intB (-n)):=by
    refine catJ_eq ?_
    rw [intB_neg (-n) (by omega),intB_pos n (by omega),show (-n).natAbs=n.toNat by omega];rfl
   have z1:¬ 9223372036854775807<1+(intB n).size:=by omega
   clear h h0
   go_enter Tryz.func72,Tryz.ntmps72
   go_wp2_with fail
   refine HS.out.mono ?_
   rintro e w1 ⟨rfl,rfl⟩
   go_wp2_with fail
   refine HS.out.mono ?_
   rintro e w1 ⟨rfl,rfl⟩
   go_wp2_with fail
   go_ret
   exact ⟨by first | (rw [← HR.out];rfl) | rfl | (rw [HR.out];rfl),rfl⟩
end Go.Proofs.YtjlkkofmojgipaaGreatDoor
