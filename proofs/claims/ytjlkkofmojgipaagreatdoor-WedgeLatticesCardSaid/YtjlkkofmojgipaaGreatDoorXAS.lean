import Derived.Test.YtjlkkofmojgipaaGreatDoorXAR
import Derived.Laws.AppendOwnNone
import Derived.Deep.Cut
import Derived.Test.YtjlkkofmojgipaaGreatDoorXAQ
import Derived.Test.YtjlkkofmojgipaaGreatDoorXAP
import Derived.Test.YtjlkkofmojgipaaGreatDoorXAG
import Derived.Test.YtjlkkofmojgipaaGreatDoorXAI
import Derived.Test.YtjlkkofmojgipaaGreatDoorXAJ
import Derived.Test.YtjlkkofmojgipaaGreatDoorXAK
set_option linter.unusedVariables false
set_option linter.unusedSimpArgs false
set_option maxRecDepth 1000000
set_option maxHeartbeats 4000000
namespace Go.Proofs.YtjlkkofmojgipaaGreatDoor
open Go.RowKit Go.Proofs.Tryz
theorem G2_ (w:World) {ops:Array Oper} {rest:List Oper} {o:Oper} {a:Act} {Q:Exit->Act->World->Prop} (pf:o.guard=none)
  (s x:Operand) (ho:o.op=Op.call { callee:=Callee.builtin Builtin.append,args:=#[s,x],argTypes:=#[26,26] }) (base:Nat)
  (v y:Value) (xs ys:List Nat) (hs:a.eval s=v) (hx:a.eval x=y) (hB:bE base w v xs) (hY:eS w y ys) (hlen:xs.length+ys.length<1000000) (ow:base<=w.heap.size)
  (h:∀ v' w',bE base w' v' (xs++ys)->Below base w w'->wpList prog ops Q rest (a.put o.dst v') w') :
  wpList prog ops Q (o::rest) a w:=by
 obtain ⟨ad,c,rfl,h1,h2,h3,hc⟩:=aI.open hY;obtain ⟨i0,hi,hz,pD,hby⟩:=info_parts iK;cases ad with
 | none =>
  have h0:ys=[]:=by have:=h3 rfl;exact List.eq_nil_of_length_eq_zero (by omega)
  subst h0;obtain rfl:c=0:=h3 rfl;refine wpList_append_own_none pf s x 26 ho base 3 i0 1 underlying26 hi _ xs.length (xs.map pcJ) hs hB hx (h _ _ (by rw [List.append_nil];exact hB) (Below.refl _ _))
 | some ad =>
  have rG:∀ (j:Nat) (u:Value),(ys.map pcJ)[j]?=some u->w.cell? (ad.add j)=some u:=by
   intro j u hu;rw [oE] at hu;cases hj:ys[j]? with
   | none=>simp [hj] at hu
   | some z =>
    simp [hj] at hu;subst hu;obtain ⟨b,off,qF,Ab,hcell⟩:=hc (by omega) (by intro e;simp [e] at hj);cases qF;obtain ⟨us,_,hr,hcl⟩:=hcell j z hj;have:=hcl 0 (by omega);rw [hr] at this;rw [show (⟨b,off,none⟩:Addr).add j=⟨b,off+(j*1+0),none⟩ by unfold Addr.add;split <;> simp_all];simpa using this
  refine wpList_append_own _ pf s x 26 ho base 3 i0 (.int .i64 0) 1 8 underlying26 hi hz pD hby rfl (by decide) _ _ _ hs hB ad ys.length c (ys.map pcJ) hx (by simp) rG ?_ (by unfold maxLen;omega) (by omega) ow ?_
  ·intro u hu;obtain ⟨z,-,rfl⟩:=List.mem_map.1 hu;rfl
  ·intro v' w' pw oe _;refine h v' w' ?_ ⟨oe.os,oe.tape,oe.output,oe.size,fun b hb=>oe.block b (by omega) ?_⟩
   ·unfold bE;rw [oU,List.map_append];exact pw
   ·intro e;have:=(hB.lt b e.symm).1;omega
theorem Z55 {u v:Nat} (h:u<=v):bj u v<=0:=by
 unfold bj;split
 ·omega
 ·split <;> omega
theorem Z3i {u v:Nat} (h:¬ u<=v):¬ bj u v<=0:=by rw [mv (by omega)];omega
theorem bE.lit (w:World) (m:Nat):bE w.heap.size (w.alloc (.cells #[.int .i64 m] 3)) (.slice (some ⟨w.heap.size,0,none⟩) 1 1) [m]:=by
 have:=World.ownsRow_lit (e:=3) (size:=1) w #[Value.int .i64 m] 1 (oJ _) (by unfold maxLen;omega) rfl;exact this
theorem j2_ (p q:List Nat) (u v:Value) (w:World) (hu:eS w u p) (hv:eS w v q) (hp:aS p) (hq:ai q) (h0:0<lv q) (tU:p.length<=20000) (hlq:q.length<=20000) :
  Calls prog 143 #[u,v] w fun e w'=>∃ r1 r2 l1 l2,e=.returned (.tuple #[r1,r2])/\Hid (bE w.heap.size w' r1 l1/\ai l1/\lv l1=lv p / lv q/\l1.length<=p.length/\bE w.heap.size w' r2 l2/\ai l2/\lv l2=lv p%lv q/\l2.length<=q.length)/\aC w w':=by
 obtain ⟨a,ca,rfl,qV,sV,qX⟩:=hu.open;have HP:=n8 hp;have HQ:=n8 hq;have HU:=n8 qX;have HV:=n8 hv;have H0:=n8 h0;obtain ⟨i0,hi,pH,hz1,hz2⟩:=info_parts iK;have HI:=n8 hi;have HZ0:=n8 pH;have HZ1:=n8 hz1;have HZ2:=n8 hz2;obtain ⟨n,hn⟩:∃ n:Nat,n=p.length:=⟨_,rfl⟩;rw [<- hn] at qV tU |-;have HN:=n8 hn;clear hi pH hz1 hz2 hu hv qX hp hq hn h0
 go_enter func143,ntmps143
 go_wp2_with (at_make;refine wpList_make_full _ rfl _ _ 26 rfl w.heap.size 3 i0 (.int .i64 0) 1 underlying26 HI HZ0 HZ1 _ _ _ _ n rfl rfl rfl rfl ?c1 ?c2 ?c3 ?_)
 case c1=>rw [HZ2.out];omega
 case c2=>unfold maxLen;omega
 case c3=>exact oJ _
 intro w1 hown oe;have hE1:=E8_ oe;have Hh:Hid (w.heap.size+1<=w1.heap.size):=by
  rcases hown.2 with ⟨e,_⟩ | ⟨g',cap',cur,e,hb,hg,_⟩
  ·cases e
  ·simp only [Value.slice.injEq,Option.some.injEq,Addr.mk.injEq] at e;obtain ⟨⟨rfl,-,-⟩,-,-⟩:=e;exact (Array.getElem?_eq_some_iff.1 hg).1
 have HO0:=n8 (bE.made hown);have HS0:Hid (iC p q n (List.replicate n 0) (lv [])):=by unfold Hid;rw [HN.out];exact iC.start p q H0
 have zi:Hid (bE (w.heap.size+1) w1 (.slice none 0 0) []/\ai []):=⟨bE.nil _ _,ai.nil⟩;clear hown oe;go_wp2_with fail
 go_loopw [8,7] (fun t v7 wr=>∃ (k:Nat) (L R:List Nat),k<=n/\t=.int .i64 ((k:Int)-1)/\aC w wr/\w.heap.size+1<=wr.heap.size/\Hid (bE w.heap.size wr (.slice (some ⟨w.heap.size,0,none⟩) n n) L)/\Hid (bE (w.heap.size+1) wr v7 R/\ai R)/\Hid (iC p q k L (lv R))) (fun t _ _=>(intOf t+1).toNat)
 case atStart=>exact ⟨n,_,[],by omega,rfl,hE1,Hh,HO0,zi,HS0⟩
 case round =>
  obtain ⟨k1,L,R,hk,rfl,pP,hsz,HO,HR,HS⟩:=hrel;obtain ⟨wo,rfl⟩:∃ wo:World,wo=wr:=⟨_,rfl⟩;clear HO0 HS0 zi;by_cases rR:0<k1
  ·obtain ⟨k,rfl⟩:∃ k,k1=k+1:=⟨k1-1,by omega⟩;have e1:((k+1:Nat):Int)-1=(k:Int):=by omega
   rw [e1];obtain ⟨x,hx⟩:∃ x,p[k]?=some x:=⟨_,n9 (by have:=HN.out;omega)⟩;obtain ⟨ba,oa,rfl,-,qA⟩:=HU (by rintro rfl;simp at hx);have g1:=pP.cell (qA k x hx);have hxb:=HP.get hx;obtain ⟨A8,IM,BN⟩:=HS.step hx HP rfl;obtain ⟨d,hd⟩:∃ d,d=(x+1000000000*lv R) / lv q:=⟨_,rfl⟩;rw [<- hd] at A8 IM BN;have HST:=n8 A8;have HDM:=n8 BN;have HD:=n8 hd;have HRL:Hid (R.length<=q.length):=ai.length_le HR.2 HQ (Nat.le_of_lt HS.lt);have hrl:=HRL.out;have hkn:k<n:=by omega
   have HLL:Hid (L.length=n):=by unfold Hid;rw [HS.out.len,HN.out]
   clear hx qA A8 BN hd e1;have Dj:Hid (eS (wo.alloc (.cells #[.int .i64 x] 3)) u7 R):=(HR.1.at).ext (aC.alloc _ _);have HLIT:=n8 (bE.lit wo x);go_wp2_with (at_builtin;go_must (refine G2_ _ rfl _ _ rfl wo.heap.size _ u7 [x] R rfl rfl HLIT Dj (by simp;omega) (aC.alloc _ _).size ?_));intro v5 w5 qG hb5;have HE5:Hid (aC wo w5):=Below.trans (aC.alloc wo (.cells #[.int .i64 x] 3)) hb5;have HT5:=n8 (mM wo.heap.size ([x]++R) v5 w5 qG (aS.cons hxb HR.2.1));clear qG hb5 HLIT Dj g1;go_wp2_with fail;refine HT5.mono ?_;rintro e w6 ⟨v6,R1,rfl,hr,kk,rfl⟩;have HO6:=n8 hr.out.1;have HC6:=n8 hr.out.2.1;have BT:lv R1=x+1000000000*lv R:=hr.out.2.2.1;have HV6:=n8 BT;have Nn:R1.length<=20001:=by have:=hr.out.2.2.2;simp at this;omega
   have HE6:Hid (aC wo (w5.drewN kk)):=aC.draws HE5 _;obtain ⟨w6,BS⟩:∃ w6,w6=w5.drewN kk:=⟨_,rfl⟩;rw [<- BS] at HO6 HE6 |-;have Dl:Hid (∀ m,lv q*m<=lv R1↔m<=d):=by
    intro m;rw [BT,HD.out,Nat.le_div_iff_mul_le H0.out,Nat.mul_comm]
   clear hr HT5 BT BS HE5;go_wp2_with fail;have hd9:d<=999999999:=by omega
   go_loopw [9,10] (fun lo hi wr=>∃ (x1 x2:Nat),lo=.int .i64 x1/\hi=.int .i64 x2/\x1<=d/\d<=x2/\x2<=999999999/\Hid (aC w6 wr)) (fun lo hi _=>(intOf hi-intOf lo).toNat)
   case atStart=>exact ⟨0,999999999,rfl,rfl,by omega,hd9,by omega,by first | exact aC.refl _ | exact aC.drew _⟩
   case round =>
    obtain ⟨x1,x2,rfl,rfl,h1,h2,h3,pU⟩:=hrel;obtain ⟨wi,rfl⟩:∃ wi:World,wi=wr:=⟨_,rfl⟩;have HEWI:=n8 (aC.trans pP (aC.trans HE6 pU));by_cases hlt:x1<x2
    ·have AM:(x1:Int)<(x2:Int):=by omega
     obtain ⟨m,hm⟩:∃ m,m=(x1+x2+1) / 2:=⟨_,rfl⟩;have xF:((x1:Int)+(x2:Int)+1).tdiv 2=(m:Int):=by rw [Int.tdiv_eq_ediv_of_nonneg (by omega)];omega
     have hm1:x1<m:=by omega
     have wH:m<=x2:=by omega
     clear hm;have HX0:Hid (aC wi (wi.alloc (.cells #[.int .i64 m] 3))):=aC.alloc _ _;have HTM:=n8 (O1_ q [m] v (.slice (some ⟨wi.heap.size,0,none⟩) 1 1) (wi.alloc (.cells #[.int .i64 m] 3)) (HV.ext (HEWI.trans HX0)) (bE.lit wi m).at HQ.1 (aS.cons (by omega) aS.nil) (by omega) (by simp));go_wp2_with fail;refine HTM.mono ?_;rintro e w7 ⟨r7,l7,rfl,wh,qS⟩;have HR7:=n8 wh;have HX7:=n8 (HX0.trans qS);have Nl:l7.length<=40000:=by have:=wh.out.2.2.2;simp at this;omega
     have tD:lv l7=lv q*m:=by rw [wh.out.2.2.1,eX,dL,Nat.mul_zero,Nat.add_zero]
     have HOR:=n8 (C4_ l7 R1 r7 v6 w7 wh.out.1.at ((HO6.at).ext (pU.trans HX7)) wh.out.2.1 HC6 (by omega) (by omega));rw [tD] at HOR;clear wh qS tD HTM HX0;go_wp2_with fail;refine HOR.mono ?_;rintro e w8 ⟨rfl,xY⟩;have HX8:=n8 (pU.trans (HX7.trans xY));clear xY HOR;by_cases hc:lv q*m<=lv R1
     ·have hmd:=(Dl m).1 hc;have q1:bj (lv q*m) (lv R1)<=0:=Z55 hc;obtain ⟨cm,hcm⟩:∃ c,c=bj (lv q*m) (lv R1):=⟨_,rfl⟩;rw [<- hcm] at q1 |-;clear hc hcm;go_wp2_with fail;go_roundw
      case rel=>exact ⟨m,x2,by first | rfl | go_num,rfl,hmd,h2,h3,HX8⟩
      case measure=>simp [intOf];omega
     ·have hmd:d<m:=by
       false_or_by_contra
       exact hc ((Dl m).2 (by omega))
      have q1:¬ bj (lv q*m) (lv R1)<=0:=Z3i hc;obtain ⟨cm,hcm⟩:∃ c,c=bj (lv q*m) (lv R1):=⟨_,rfl⟩;rw [<- hcm] at q1 |-;clear hc hcm;go_wp2_with fail;go_roundw
      case rel=>exact ⟨x1,m-1,rfl,by first | rfl | go_num | (congr 1;omega),h1,by omega,by omega,HX8⟩
      case measure=>simp [intOf];omega
    ·have AM:¬ (x1:Int)<(x2:Int):=by omega
     obtain rfl:d=x1:=by omega
     obtain rfl:d=x2:=by omega
     have qC:w.heap.size+1<=wi.heap.size:=oI hsz (oI HE6.size pU.size);have HOI:=n8 (HO.ext (HE6.trans pU));obtain ⟨y,hy⟩:∃ y,L[k]?=some y:=⟨_,n9 (by have:=HLL.out;omega)⟩;obtain ⟨g3,f3⟩:=HOI.get hy;have HO2:=n8 (HOI.set k d);have HR2:Hid (bE wo.heap.size (wi.setCell ⟨w.heap.size,k,none⟩ (.int .i64 d)) v6 R1):=ownsRow_setCell_below (HO6.ext pU) (a:=⟨w.heap.size,k,none⟩) (by show w.heap.size<wo.heap.size;omega) _;have HX2:Hid (aC w (wi.setCell ⟨w.heap.size,k,none⟩ (.int .i64 d))):=Below.setCell HEWI (p:=⟨w.heap.size,k,none⟩) (oJ _) _;have vW:w.heap.size+1<=(wi.setCell ⟨w.heap.size,k,none⟩ (.int .i64 d)).heap.size:=by simp [World.setCell];omega
     obtain ⟨w9,pO⟩:∃ w9,w9=wi.setCell ⟨w.heap.size,k,none⟩ (.int .i64 d):=⟨_,rfl⟩;by_cases hd0:0<d
     ·have Lw:(0:Int)<(d:Int):=by omega
      clear hy;rw [<- pO] at HO2 HR2 HX2 vW;have HW9:=n8 pO;clear pO
      go_upto_region 14 with fail
      rw [<- HW9.out];have HX0:Hid (aC w9 (w9.alloc (.cells #[.int .i64 d] 3))):=aC.alloc _ _;have HTM:=n8 (O1_ q [d] v (.slice (some ⟨w9.heap.size,0,none⟩) 1 1) (w9.alloc (.cells #[.int .i64 d] 3)) (HV.ext (HX2.trans HX0)) (bE.lit w9 d).at HQ.1 (aS.cons (by omega) aS.nil) (by omega) (by simp));clear g3 f3;go_wp2_with fail;refine HTM.mono ?_;rintro e w7 ⟨r7,l7,rfl,wh,qS⟩;have HX7:=n8 (HX0.trans qS);have tD:lv l7=lv q*d:=by rw [wh.out.2.2.1,eX,dL,Nat.mul_zero,Nat.add_zero]
      have HMI:=n8 (O0_ R1 l7 v6 r7 w7 ((HR2.at).ext HX7) wh.out.1.at HC6 wh.out.2.1 (by rw [tD];exact (Dl d).2 (oJ _)) (by omega));rw [tD] at HMI;clear wh qS tD HTM HX0;go_wp2_with fail;refine HMI.mono ?_;rintro e w8 ⟨r8,l8,rfl,EP,xY⟩;have HX8:=n8 (HX7.trans xY);have HF:Hid (bE (w.heap.size+1) w8 r8 l8/\ai l8):=⟨EP.out.1.base (oI vW HX7.size),EP.out.2.1⟩;have xj:Hid (iC p q k (L.set k d) (lv l8)):=by
       unfold Hid;rw [EP.out.2.2.1,HV6.out,Nat.mul_comm (lv q) d];exact HST
      clear EP xY HMI;go_wp2_with fail;go_roundw
      case rel=>exact ⟨k,_,l8,by omega,by go_num,HX2.trans HX8,oI vW HX8.size,HO2.ext HX8,HF,xj⟩
      case measure=>simp [intOf]
     ·obtain rfl:0=d:=by omega
      have HF:Hid (bE (w.heap.size+1) (wi.setCell ⟨w.heap.size,k,none⟩ (.int .i64 (0:Nat))) v6 R1/\ai R1):=⟨HR2.base hsz,HC6⟩;have xj:Hid (iC p q k (L.set k 0) (lv R1)):=by
       have:=HST.out;rw [Nat.zero_mul,Nat.sub_zero,<- HV6.out] at this;exact this
      clear hy;go_wp2_with fail;go_roundw
      case rel=>exact ⟨k,_,R1,by omega,by go_num,HX2,vW,HO2,HF,xj⟩
      case measure=>simp [intOf]
  ·obtain rfl:k1=0:=by omega
   have HT:=n8 (mM w.heap.size L _ wo HO HS.pcs);have HDN:=n8 HS.done;have HRL:Hid (R.length<=q.length):=ai.length_le HR.2 HQ (Nat.le_of_lt HS.lt);have HL:=n8 HS.len;go_wp2_with fail;refine HT.mono ?_;rintro e w5 ⟨r,l,rfl,hr,kk,rfl⟩;have HRR:=n8 hr;clear hr HT;go_wp2_with fail;go_ret2;exact ⟨r,u7,l,R,rfl,⟨HRR.out.out.1,HRR.out.out.2.1,HRR.out.out.2.2.1.trans HDN.1,by rw [HN.out,<- HL.out];exact HRR.out.out.2.2.2,(HR.1.base (by omega)).ext (aC.draws (aC.refl _) _),HR.2,HDN.2,HRL⟩,aC.draws pP _⟩
def et (n:Int):Bool:=decide (n.natAbs<1000000000000000000)
def iO (n:Int):Int:=if n.natAbs<1000000000000000000 then n else 0
theorem X4_ (n:Int) (w:World) (hsz:(aD n).size<=1000000) :
  oW 126 #[.string (aD n)] w (.tuple #[.int .i64 (iO n),.bool (et n)]):=by
 by_cases h:n.natAbs<1000000000000000000
 ·unfold et iO;rw [if_pos h,oS h];exact nX n w (by omega)
 ·have HD:=n8 (jx n w);have HV:Hid (iO n=0/\et n=false):=⟨by unfold iO;rw [if_neg h],by unfold et;exact oR h⟩;have hs:18<(aE n.natAbs).size:=by
   rw [dz]
   false_or_by_contra
   rename_i hn;have h1:=Lib.lt_pow_nDigits n.natAbs;have h2:10^Lib.nDigits n.natAbs<=10^18:=Nat.pow_le_pow_right (by omega) (by omega);rw [show (10:Nat)^18=1000000000000000000 by decide] at h2;omega
  have hz:(18:Int)<((aE n.natAbs).size:Int):=by omega
  clear h
  go_enter func126,ntmps126
  go_wp2_with fail;refine HD.mono ?_;rintro e w1 ⟨rfl,rfl⟩;go_wp2_with fail;go_ret2;exact ⟨by rw [HV.out.1,HV.out.2];rfl,aC.refl _⟩
def dD (n:Int):Int:=if n<0 then -1 else 1
theorem mJ (n:Int) (w:World) :
  Calls prog 128 #[.string (aD n)] w fun e w'=>e=.returned (.int .i64 (dD n))/\w=w':=by
 have HS:=n8 (nY n w);by_cases h:n<0
 ·have HR:Hid (dD n=-1):=by unfold Hid dD;rw [if_pos h]
  rw [Int.sign_eq_neg_one_of_neg h] at HS;clear h
  go_enter func128,ntmps128
  go_wp2_with fail;refine HS.mono ?_;rintro e w1 ⟨rfl,rfl⟩;go_wp2_with fail;go_ret;exact ⟨by rw [HR.out];rfl,rfl⟩
 ·have HR:Hid (dD n=1):=by unfold Hid dD;rw [if_neg h]
  have h0:0<=n.sign:=Int.sign_nonneg_iff.2 (by omega);obtain ⟨s,hs⟩:∃ s,s=n.sign:=⟨_,rfl⟩;rw [<- hs] at HS h0;have h1:¬ s<0:=by omega
  clear h hs
  go_enter func128,ntmps128
  go_wp2_with fail;refine HS.mono ?_;rintro e w1 ⟨rfl,rfl⟩;go_wp2_with fail;go_ret;exact ⟨by rw [HR.out];rfl,rfl⟩
theorem nW (n:Int) (w:World) (hsz:(aD n).size<=1000000) :
  Calls prog 72 #[.string (aD n)] w fun e w'=>e=.returned (.string (aD (-n)))/\w=w':=by
 have HS:=n8 (nY n w);have hp0:0<(aD n).size:=lD n;by_cases h:n<0
 ·rw [Int.sign_eq_neg_one_of_neg h] at HS;have HT:=n8 (y7_ n h);have hp1:(1:Int)<=((aD n).size:Int):=by omega
  have HR:Hid (aD (-n)=aE n.natAbs):=by unfold Hid;rw [dC (-n) (by omega)];congr 1;omega
  clear h
  go_enter func72,ntmps72
  go_wp2_with fail;refine HS.mono ?_;rintro e w1 ⟨rfl,rfl⟩;go_wp2_with fail;go_ret;exact ⟨by rw [HR.out,<- HT.out];rfl,rfl⟩
 ·by_cases h0:n=0
  ·subst h0
   go_enter func72,ntmps72
   go_wp2_with fail;refine HS.mono ?_;rintro e w1 ⟨rfl,rfl⟩;go_wp2_with fail;refine (nY 0 w).mono ?_;rintro e w1 ⟨rfl,rfl⟩;go_wp2_with fail;go_ret;exact ⟨rfl,rfl⟩
  ·rw [Int.sign_eq_one_of_pos (by omega)] at HS;have HR:Hid ((⟨#[45]⟩:ByteArray)++aD n=aD (-n)):=by
    refine m2_ ?_;rw [lC (-n) (by omega),dC n (by omega),show (-n).natAbs=n.toNat by omega];rfl
   have z1:¬ 9223372036854775807<1+(aD n).size:=by omega
   clear h h0
   go_enter func72,ntmps72
   go_wp2_with fail;refine HS.mono ?_;rintro e w1 ⟨rfl,rfl⟩;go_wp2_with fail;refine HS.mono ?_;rintro e w1 ⟨rfl,rfl⟩;go_wp2_with fail;go_ret;exact ⟨by first | (rw [<- HR.out];rfl) | rfl | (rw [HR.out];rfl),rfl⟩
theorem mL (u:Nat) (w:World) (hs:(aE u).size<=400000) :
  Calls prog 130 #[.string (aE u)] w fun e w'=>∃ v l,e=.returned v/\Hid (bE w.heap.size w' v l/\ai l/\lv l=u/\l.length<=(aE u).size)/\aC w w':=by
 have h:=Z0w (aE u) w (by rw [ep];exact gP _) hs;rw [ep,fx] at h;exact h
theorem iw (n:Int):(aE n.natAbs).size<=(aD n).size:=by
 by_cases h:n<0
 ·rw [jq n h];omega
 ·rw [dC n (by omega)];have:n.natAbs=n.toNat:=by omega
  rw [this];exact oJ _
theorem x3_ (x y:Int) (w:World) (hx:(aD x).size<=15000) (hy:(aD y).size<=15000) (ht:af w) :
  oW 73 #[.string (aD x),.string (aD y)] w (.string (aD (x+y))):=by
 have HT:=n8 ht;have hux:=iw x;have huy:=iw y;have H1:=n8 (X4_ x w (by omega));have H2:Hid (∀ W,oW 126 #[.string (aD y)] W (.tuple #[.int .i64 (iO y),.bool (et y)])):=fun W=>X4_ y W (by omega);by_cases hsm:x.natAbs<1000000000000000000/\y.natAbs<1000000000000000000
 ·have b1:et x=true:=oS hsm.1;have b2:et y=true:=oS hsm.2;have v1:iO x=x:=if_pos hsm.1;have v2:iO y=y:=if_pos hsm.2;rw [b1,v1] at H1;rw [b2,v2] at H2;have H3:Hid (∀ W,aC w W->oW 69 #[.int .i64 (x+y)] W (.string (aD (x+y)))):=fun W hE=>mI _ W (by omega) (by omega) (HT.ext hE);have k1:-2000000000000000000<x+y:=by omega
  have k2:x+y<2000000000000000000:=by omega
  clear b1 b2 v1 v2 hsm ht
  go_enter func73,ntmps73
  go_wp2_with fail;refine H1.mono ?_;rintro e w1 ⟨rfl,hE1⟩;have HE1:=n8 hE1;clear hE1 H1;go_wp2_with fail;refine (H2 _).mono ?_;rintro e w2 ⟨rfl,oY⟩;have HE2:=n8 (aC.trans HE1 oY);clear oY H2;go_wp2_with fail;refine (H3 _ HE2).mono ?_;rintro e w3 ⟨rfl,oh⟩;have HE3:=n8 (aC.trans HE2 oh);clear oh H3;go_wp2_with fail;go_ret;exact ⟨rfl,HE3⟩
 ·have hbb:et x=false\/(et x=true/\et y=false):=by
   unfold et;by_cases h1:x.natAbs<1000000000000000000
   ·exact .inr ⟨oS h1,oR (fun h2=>hsm ⟨h1,h2⟩)⟩
   ·exact .inl (oR h1)
  obtain ⟨vx,qh⟩:∃ v,v=iO x:=⟨_,rfl⟩;obtain ⟨vy,wW⟩:∃ v,v=iO y:=⟨_,rfl⟩;rw [<- qh] at H1;rw [<- wW] at H2;have HDX:Hid (∀ W,Calls prog 115 #[.string (aD x)] W fun e w'=>e=.returned (.string (aE x.natAbs))/\W=w'):=fun W=>jx x W;have HDY:Hid (∀ W,Calls prog 115 #[.string (aD y)] W fun e w'=>e=.returned (.string (aE y.natAbs))/\W=w'):=fun W=>jx y W;obtain ⟨s1,hs1⟩:∃ s,s=dD x:=⟨_,rfl⟩;obtain ⟨s2,hs2⟩:∃ s,s=dD y:=⟨_,rfl⟩;have yK:Hid (∀ W,Calls prog 128 #[.string (aD x)] W fun e w'=>e=.returned (.int .i64 s1)/\W=w'):=fun W=>by rw [hs1];exact mJ x W
  have zh:Hid (∀ W,Calls prog 128 #[.string (aD y)] W fun e w'=>e=.returned (.int .i64 s2)/\W=w'):=fun W=>by rw [hs2];exact mJ y W
  have HF1:Hid (s1=s2->dc (decide (s1<0)) (x.natAbs+y.natAbs)=x+y):=by
   intro e;rw [hs1,hs2] at e;rw [hs1];unfold dD at e |-;unfold dc;by_cases h1:x<0 <;> by_cases h2:y<0 <;> simp [h1,h2] at e |- <;> omega
  have HF2:Hid (s1≠s2->y.natAbs<=x.natAbs->dc (decide (s1<0)) (x.natAbs-y.natAbs)=x+y):=by
   intro e;rw [hs1,hs2] at e;rw [hs1];unfold dD at e |-;unfold dc;by_cases h1:x<0 <;> by_cases h2:y<0 <;> simp [h1,h2] at e |- <;> omega
  have HF3:Hid (s1≠s2->x.natAbs<=y.natAbs->dc (decide (s2<0)) (y.natAbs-x.natAbs)=x+y):=by
   intro e;rw [hs1,hs2] at e;rw [hs2];unfold dD at e |-;unfold dc;by_cases h1:x<0 <;> by_cases h2:y<0 <;> simp [h1,h2] at e |- <;> omega
  clear hsm ht qh wW hs1 hs2;rcases hbb with hb | ⟨hb,hb2⟩
  case' inl =>
   rw [hb] at H1;obtain ⟨by',hby⟩:∃ b,b=et y:=⟨_,rfl⟩;rw [<- hby] at H2;clear hb hby
  case' inr =>
   rw [hb] at H1;rw [hb2] at H2;clear hb hb2
  all_goals
   go_enter func73,ntmps73
   go_wp2_with fail;refine H1.mono ?_;rintro e w1 ⟨rfl,hE1⟩;have HE1:=n8 hE1;clear hE1 H1;go_wp2_with fail;refine (H2 _).mono ?_;rintro e w2 ⟨rfl,oY⟩;have HE2:=n8 (aC.trans HE1 oY);clear oY H2;go_wp2_with fail;refine (HDX _).mono ?_;rintro e w3 ⟨rfl,rfl⟩;go_wp2_with fail;refine (mL _ _ (by omega)).mono ?_;rintro e w3 ⟨r3,l3,rfl,wu,oh⟩;have HR3:=n8 wu;have HE3:=n8 (aC.trans HE2 oh);clear wu oh;go_wp2_with fail;refine (HDY _).mono ?_;rintro e w4 ⟨rfl,rfl⟩;go_wp2_with fail;refine (mL _ _ (by omega)).mono ?_;rintro e w4 ⟨r4,l4,rfl,vG,hE4⟩;have HR4:=n8 vG;have HE4:=n8 (aC.trans HE3 hE4);have HA3:=n8 ((HR3.out.out.1.at).ext hE4);have yY:l3.length<=15000:=by have:=HR3.out.out.2.2.2;omega
   have Fp:l4.length<=15000:=by have:=HR4.out.out.2.2.2;omega
   clear vG hE4;go_wp2_with fail;refine (yK _).mono ?_;rintro e w5 ⟨rfl,rfl⟩;go_wp2_with fail;refine (zh _).mono ?_;rintro e w5 ⟨rfl,rfl⟩;by_cases qn:s1=s2
   ·have q1:(s1 == s2)=true:=by rw [qn];exact beq_self_eq_true _
    have HR:=n8 (HF1 qn);clear qn HF1 HF2 HF3;go_wp2_with fail;refine (yK _).mono ?_;rintro e w5 ⟨rfl,rfl⟩;go_wp2_with fail;refine (Z2x l3 l4 _ _ _ HA3 HR4.out.out.1.at HR3.out.out.2.1.1 HR4.out.out.2.1.1 (by omega) (by omega)).mono ?_;rintro e w5 ⟨r5,l5,rfl,sh,ou⟩;have HE5:=n8 (aC.trans HE4 ou);have HSG:=n8 (mK _ (decide (s1<0)) l5 r5 w5 sh.out.1 sh.out.2.1 (by have:=sh.out.2.2.2;omega) (HT.ext HE5));rw [sh.out.2.2.1,HR3.out.out.2.2.1,HR4.out.out.2.2.1,HR.out] at HSG;clear sh ou;go_wp2_with fail;refine HSG.mono ?_;rintro e w6 ⟨rfl,og⟩;have HE6:=n8 (aC.trans HE5 og);clear og;go_wp2_with fail;go_ret;exact ⟨rfl,HE6⟩
   ·have q1:(s1 == s2)=false:=by rw [beq_eq_false_iff_ne];exact qn
    have HR2:=n8 (HF2 qn);have HR3':=n8 (HF3 qn);clear qn HF1 HF2 HF3;go_wp2_with fail;refine (C4_ l3 l4 _ _ _ HA3 HR4.out.out.1.at HR3.out.out.2.1 HR4.out.out.2.1 (by omega) (by omega)).mono ?_;rintro e w5 ⟨rfl,ou⟩;have HE5:=n8 (aC.trans HE4 ou);have HX5:=n8 ou;rw [HR3.out.out.2.2.1,HR4.out.out.2.2.1];clear ou;by_cases hle:y.natAbs<=x.natAbs
    ·have hc:0<=bj x.natAbs y.natAbs:=by
      unfold bj;rw [if_neg (by omega)];split <;> omega
     have HR:=n8 (HR2 hle);have HLE:=n8 hle;obtain ⟨c,pd⟩:∃ c,c=bj x.natAbs y.natAbs:=⟨_,rfl⟩;rw [<- pd] at hc |-;clear pd hle;go_wp2_with fail;refine (yK _).mono ?_;rintro e w6 ⟨rfl,rfl⟩;go_wp2_with fail;refine (O0_ l3 l4 _ _ _ (HA3.ext HX5) ((HR4.out.out.1.at).ext HX5) HR3.out.out.2.1 HR4.out.out.2.1 (by rw [HR3.out.out.2.2.1,HR4.out.out.2.2.1];exact HLE) (by omega)).mono ?_;rintro e w6 ⟨r6,l6,rfl,vF,og⟩;have HE6:=n8 (aC.trans HE5 og);have HSG:=n8 (mK _ (decide (s1<0)) l6 r6 w6 vF.out.1 vF.out.2.1.1 (by have:=vF.out.2.2.2;omega) (HT.ext HE6));rw [vF.out.2.2.1,HR3.out.out.2.2.1,HR4.out.out.2.2.1,HR.out] at HSG;clear vF og;go_wp2_with fail;refine HSG.mono ?_;rintro e w7 ⟨rfl,qS⟩;have HE7:=n8 (aC.trans HE6 qS);clear qS;go_wp2_with fail;go_ret;exact ⟨rfl,HE7⟩
    ·have hc:¬ 0<=bj x.natAbs y.natAbs:=by rw [kx (by omega)];omega
     have HR:=n8 (HR3' (by omega));have HLE:Hid (x.natAbs<=y.natAbs):=by unfold Hid;omega
     obtain ⟨c,pd⟩:∃ c,c=bj x.natAbs y.natAbs:=⟨_,rfl⟩;rw [<- pd] at hc |-;clear pd hle;go_wp2_with fail;refine (zh _).mono ?_;rintro e w6 ⟨rfl,rfl⟩;go_wp2_with fail;refine (O0_ l4 l3 _ _ _ ((HR4.out.out.1.at).ext HX5) (HA3.ext HX5) HR4.out.out.2.1 HR3.out.out.2.1 (by rw [HR3.out.out.2.2.1,HR4.out.out.2.2.1];exact HLE) (by omega)).mono ?_;rintro e w6 ⟨r6,l6,rfl,vF,og⟩;have HE6:=n8 (aC.trans HE5 og);have HSG:=n8 (mK _ (decide (s2<0)) l6 r6 w6 vF.out.1 vF.out.2.1.1 (by have:=vF.out.2.2.2;omega) (HT.ext HE6));rw [vF.out.2.2.1,HR3.out.out.2.2.1,HR4.out.out.2.2.1,HR.out] at HSG;clear vF og;go_wp2_with fail;refine HSG.mono ?_;rintro e w7 ⟨rfl,qS⟩;have HE7:=n8 (aC.trans HE6 qS);clear qS;go_wp2_with fail;go_ret;exact ⟨rfl,HE7⟩
theorem d4_ (x y:Int) (w:World) (hx:(aD x).size<=15000) (hy:(aD y).size<=14000) (ht:af w) :
  oW 144 #[.string (aD x),.string (aD y)] w (.string (aD (x-y))):=by
 have HN:=n8 (nW y w (by omega));have vZ:(aD (-y)).size<=15000:=by
  have h1:=eK (-y);have h2:=iw y;rw [Int.natAbs_neg] at h1;omega
 have HA:=n8 (x3_ x (-y) w hx vZ ht);rw [<- Int.sub_eq_add_neg] at HA;clear ht
 go_enter func144,ntmps144
 go_wp2_with fail;refine HN.mono ?_;rintro e w1 ⟨rfl,rfl⟩;go_wp2_with fail;refine HA.mono ?_;rintro e w2 ⟨rfl,oY⟩;have HE2:=n8 oY;clear oY;go_wp2_with fail;go_ret;exact ⟨rfl,HE2⟩
theorem x4_ (x y:Int) (w:World) (hx:(aD x).size<=15000) (hy:(aD y).size<=15000) (ht:af w) :
  oW 68 #[.string (aD x),.string (aD y)] w (.string (aD (x*y))):=by
 have HT:=n8 ht;have hux:=iw x;have huy:=iw y;have HDX:Hid (∀ W,Calls prog 115 #[.string (aD x)] W fun e w'=>e=.returned (.string (aE x.natAbs))/\W=w'):=fun W=>jx x W;have HDY:Hid (∀ W,Calls prog 115 #[.string (aD y)] W fun e w'=>e=.returned (.string (aE y.natAbs))/\W=w'):=fun W=>jx y W;by_cases hsm:(aE x.natAbs).size+(aE y.natAbs).size<=18
 ·have hX:=Lib.lt_pow_nDigits x.natAbs;have hY:=Lib.lt_pow_nDigits y.natAbs;have hsm':=hsm;rw [dz,dz] at hsm';have hpp:x.natAbs*y.natAbs<10^18:=by
   have h1:x.natAbs*y.natAbs<10^Lib.nDigits x.natAbs*10^Lib.nDigits y.natAbs:=Nat.mul_lt_mul'' hX hY;rw [<- Nat.pow_add] at h1;exact oH h1 (Nat.pow_le_pow_right (by omega) hsm')
  rw [show (10:Nat)^18=1000000000000000000 by decide,<- Int.natAbs_mul] at hpp;have K1:x.natAbs<1000000000000000000:=by
   have:10^Lib.nDigits x.natAbs<=10^18:=Nat.pow_le_pow_right (by omega) (by omega);rw [show (10:Nat)^18=1000000000000000000 by decide] at this;omega
  have Kx:y.natAbs<1000000000000000000:=by
   have:10^Lib.nDigits y.natAbs<=10^18:=Nat.pow_le_pow_right (by omega) (by omega);rw [show (10:Nat)^18=1000000000000000000 by decide] at this;omega
  have H1:Hid (∀ W,oW 126 #[.string (aD x)] W (.tuple #[.int .i64 x,.bool true])):=fun W=>nX x W (by omega);have H2:Hid (∀ W,oW 126 #[.string (aD y)] W (.tuple #[.int .i64 y,.bool true])):=fun W=>nX y W (by omega);obtain ⟨z,hz⟩:∃ z,x*y=z:=⟨_,rfl⟩;rw [hz] at hpp |-;have H3:Hid (∀ W,aC w W->oW 69 #[.int .i64 z] W (.string (aD z))):=fun W hE=>mI _ W (by omega) (by omega) (HT.ext hE);have hsz:((aE x.natAbs).size:Int)+((aE y.natAbs).size:Int)<=18:=by omega
  have k1:-1000000000000000000<z:=by omega
  have k2:z<1000000000000000000:=by omega
  have e1:IntKind.i64.wrap z=z:=by rw [IntKind.wrap_i64];omega
  clear hX hY hsm' hpp hsm
  go_enter func68,ntmps68
  go_wp2_with fail;refine (HDX _).mono ?_;rintro e w1 ⟨rfl,rfl⟩;go_wp2_with fail;refine (HDY _).mono ?_;rintro e w1 ⟨rfl,rfl⟩;go_wp2_with fail;refine (H1 _).mono ?_;rintro e w1 ⟨rfl,hE1⟩;have HE1:=n8 hE1;clear hE1 H1;go_wp2_with fail;refine (H2 _).mono ?_;rintro e w2 ⟨rfl,oY⟩;have HE2:=n8 (aC.trans HE1 oY);clear oY H2;go_wp2_with fail;refine (H3 _ HE2).mono ?_;rintro e w3 ⟨rfl,oh⟩;have HE3:=n8 (aC.trans HE2 oh);clear oh H3;go_wp2_with fail;go_ret;exact ⟨rfl,HE3⟩
 ·have hsz:¬ ((aE x.natAbs).size:Int)+((aE y.natAbs).size:Int)<=18:=by omega
  obtain ⟨s1,hs1⟩:∃ s,s=dD x:=⟨_,rfl⟩;obtain ⟨s2,hs2⟩:∃ s,s=dD y:=⟨_,rfl⟩;have yK:Hid (∀ W,Calls prog 128 #[.string (aD x)] W fun e w'=>e=.returned (.int .i64 s1)/\W=w'):=fun W=>by rw [hs1];exact mJ x W
  have zh:Hid (∀ W,Calls prog 128 #[.string (aD y)] W fun e w'=>e=.returned (.int .i64 s2)/\W=w'):=fun W=>by rw [hs2];exact mJ y W
  have HF:Hid (dc (s1 != s2) (x.natAbs*y.natAbs)=x*y):=by
   unfold Hid;rw [hs1,hs2];unfold dD dc;have e:((x.natAbs*y.natAbs:Nat):Int)=((x.natAbs:Int)*(y.natAbs:Int)):=Int.natCast_mul _ _;by_cases h1:x<0 <;> by_cases h2:y<0
   ·have e1:x=-(x.natAbs:Int):=by omega
    have e2:y=-(y.natAbs:Int):=by omega
    simp only [h1,h2,if_true,bne_self_eq_false,Bool.false_eq_true,if_false,e];rw (occs:=.pos [2]) [e1]
    conv=>rhs;rw [e2]
    rw [Int.neg_mul_neg]
   ·have e1:x=-(x.natAbs:Int):=by omega
    have e2:y=(y.natAbs:Int):=by omega
    have e3:((-1:Int) != 1)=true:=by decide
    simp only [h1,h2,if_true,if_false,e,e3];rw (occs:=.pos [2]) [e1]
    conv=>rhs;rw [e2]
    rw [Int.neg_mul]
   ·have e1:x=(x.natAbs:Int):=by omega
    have e2:y=-(y.natAbs:Int):=by omega
    have e3:((1:Int) != -1)=true:=by decide
    simp only [h1,h2,if_true,if_false,e,e3];rw (occs:=.pos [2]) [e1]
    conv=>rhs;rw [e2]
    rw [Int.mul_neg]
   ·have e1:x=(x.natAbs:Int):=by omega
    have e2:y=(y.natAbs:Int):=by omega
    simp only [h1,h2,if_false,bne_self_eq_false,Bool.false_eq_true,e];rw (occs:=.pos [2]) [e1]
    conv=>rhs;rw [e2]
  clear hsm hs1 hs2
  go_enter func68,ntmps68
  go_wp2_with fail;refine (HDX _).mono ?_;rintro e w1 ⟨rfl,rfl⟩;go_wp2_with fail;refine (HDY _).mono ?_;rintro e w1 ⟨rfl,rfl⟩;go_wp2_with fail;refine (yK _).mono ?_;rintro e w1 ⟨rfl,rfl⟩;go_wp2_with fail;refine (zh _).mono ?_;rintro e w1 ⟨rfl,rfl⟩;go_wp2_with fail;refine (HDX _).mono ?_;rintro e w1 ⟨rfl,rfl⟩;go_wp2_with fail;refine (mL _ _ (by omega)).mono ?_;rintro e w3 ⟨r3,l3,rfl,wu,oh⟩;have HR3:=n8 wu;have HE3:=n8 oh;clear wu oh;go_wp2_with fail;refine (HDY _).mono ?_;rintro e w1 ⟨rfl,rfl⟩;go_wp2_with fail;refine (mL _ _ (by omega)).mono ?_;rintro e w4 ⟨r4,l4,rfl,vG,hE4⟩;have HR4:=n8 vG;have HE4:=n8 (aC.trans HE3 hE4);have HA3:=n8 ((HR3.out.out.1.at).ext hE4);have yY:l3.length<=15000:=by have:=HR3.out.out.2.2.2;omega
  have Fp:l4.length<=15000:=by have:=HR4.out.out.2.2.2;omega
  clear vG hE4;go_wp2_with fail;refine (O1_ l3 l4 _ _ _ HA3 HR4.out.out.1.at HR3.out.out.2.1.1 HR4.out.out.2.1.1 (by omega) (by omega)).mono ?_;rintro e w5 ⟨r5,l5,rfl,sh,ou⟩;have HE5:=n8 (aC.trans HE4 ou);have HSG:=n8 (mK _ (s1 != s2) l5 r5 w5 sh.out.1 sh.out.2.1.1 (by have:=sh.out.2.2.2;omega) (HT.ext HE5));rw [sh.out.2.2.1,HR3.out.out.2.2.1,HR4.out.out.2.2.1,HF.out] at HSG;clear sh ou;go_wp2_with fail;refine HSG.mono ?_;rintro e w6 ⟨rfl,og⟩;have HE6:=n8 (aC.trans HE5 og);clear og;go_wp2_with fail;go_ret;exact ⟨rfl,HE6⟩
def Z6O:Value->Nat
 | .string s=>ak 0 s.data.toList
 | _=>0
theorem b2_ (y:Nat):Z6O (.string (aE y))=y:=by
 show ak 0 (aE y).data.toList=y;rw [ep];exact U3_ y
theorem Z40 (y:Nat):((aE y).toList == [48])=decide (y=0):=by
 have:=iq (y:Int);rw [eb] at this;rw [this];by_cases h:y=0
 ·simp [h]
 ·rw [oR h,oR (by omega)]
theorem w2_ (u:Nat):dD (u:Int)=1:=if_neg (by omega)
theorem w3_ {u:Nat} (h:u≠0):dD (-(u:Int))=-1:=if_pos (by omega)
theorem Z5H (x y:Int):dc (dD x != dD y) (x.natAbs / y.natAbs)=x.tdiv y:=by
 obtain ⟨u,rfl | rfl⟩:=x.eq_nat_or_neg <;> obtain ⟨v,rfl | rfl⟩:=y.eq_nat_or_neg
 ·rw [w2_,w2_,Int.natAbs_natCast,Int.natAbs_natCast,<- Int.ofNat_tdiv];rfl
 ·rw [Int.natAbs_neg,Int.natAbs_natCast,Int.natAbs_natCast,Int.tdiv_neg,<- Int.ofNat_tdiv];by_cases hv:v=0
  ·subst hv;simp [dc]
  ·rw [w2_,w3_ hv];rfl
 ·rw [Int.natAbs_neg,Int.natAbs_natCast,Int.natAbs_natCast,Int.neg_tdiv,<- Int.ofNat_tdiv];by_cases hu:u=0
  ·subst hu;simp [dc]
  ·rw [w2_,w3_ hu];rfl
 ·rw [Int.natAbs_neg,Int.natAbs_neg,Int.natAbs_natCast,Int.natAbs_natCast,Int.neg_tdiv_neg,<- Int.ofNat_tdiv];by_cases hu:u=0
  ·subst hu;simp [dc]
  ·by_cases hv:v=0
   ·subst hv;simp [dc]
   ·rw [w3_ hu,w3_ hv];rfl
theorem Z31 (x y:Int):dc (decide (dD x<0)) (x.natAbs%y.natAbs)=x.tmod y:=by
 have hy:x.tmod y=x.tmod (y.natAbs:Int):=by
  rcases Int.natAbs_eq y with h | h
  ·rw [<- h]
  ·rw [h,Int.tmod_neg,Int.natAbs_neg,Int.natAbs_natCast]
 rw [hy];generalize y.natAbs=v;obtain ⟨u,rfl | rfl⟩:=x.eq_nat_or_neg <;> unfold dc dD
 ·rw [if_neg (show ¬ (u:Int)<0 by omega),if_neg (by decide),Int.natAbs_natCast,<- Int.ofNat_tmod]
 ·rw [Int.natAbs_neg,Int.natAbs_natCast,Int.neg_tmod,<- Int.ofNat_tmod];by_cases hu:u=0
  ·subst hu;simp
  ·rw [if_pos (show -(u:Int)<0 by omega),if_pos (by decide)]
theorem Z6o (x y:Int) (h0:y≠0):(x.tmod y≠0/\dD x≠dD y->aR x y=x.tdiv y-1/\bF x y=x.tmod y+y)/\(¬ (x.tmod y≠0/\dD x≠dD y)->aR x y=x.tdiv y/\bF x y=x.tmod y):=by
 have key:x.tmod y≠0->((decide (x.tmod y<0)≠decide (y<0))↔dD x≠dD y):=by
  intro hr;have hs:=Z31 x y;unfold dc dD at hs;unfold dD;by_cases h1:x<0
  ·rw [if_pos h1,if_pos (by decide)] at hs;have h3:x.tmod y<0:=by omega
   by_cases h2:y<0 <;> simp [h1,h2,h3]
  ·rw [if_neg h1,if_neg (by decide)] at hs;have h3:¬ x.tmod y<0:=by omega
   by_cases h2:y<0 <;> simp [h1,h2,h3]
 unfold aR bF;constructor
 ·rintro ⟨h1,h2⟩;have:=(key h1).2 h2;rw [if_pos ⟨h1,this⟩,if_pos ⟨h1,this⟩];exact ⟨rfl,rfl⟩
 ·intro h;have:¬ (x.tmod y≠0/\decide (x.tmod y<0)≠decide (y<0)):=fun ⟨h1,h2⟩=>h ⟨h1,(key h1).1 h2⟩;rw [if_neg this,if_neg this];exact ⟨rfl,rfl⟩
theorem S3_ {x y:Int} (h:x.natAbs<=y.natAbs):(aD x).size<=(aD y).size+1:=by
 have h1:=eK x;have h2:=gY h;have h3:=iw y;omega
theorem W2_ (x y:Int) (w:World) (hx:(aD x).size<=13000) (hy:(aD y).size<=13000) (h0:y≠0) (ht:af w) :
  oW 87 #[.string (aD x),.string (aD y)] w (.tuple #[.string (aD (aR x y)),.string (aD (bF x y))]):=by
 by_cases hsm:x.natAbs<1000000000000000000/\y.natAbs<1000000000000000000
 ·exact Z2v x y w (by omega) (by omega) h0 ht
 have HT:=n8 ht;have hux:=iw x;have huy:=iw y;have H1:=n8 (X4_ x w (by omega));have H2:Hid (∀ W,oW 126 #[.string (aD y)] W (.tuple #[.int .i64 (iO y),.bool (et y)])):=fun W=>X4_ y W (by omega);have hbb:et x=false\/(et x=true/\et y=false):=by
  unfold et;by_cases h1:x.natAbs<1000000000000000000
  ·exact .inr ⟨oS h1,oR (fun h2=>hsm ⟨h1,h2⟩)⟩
  ·exact .inl (oR h1)
 obtain ⟨vx,qh⟩:∃ v,v=iO x:=⟨_,rfl⟩;obtain ⟨vy,wW⟩:∃ v,v=iO y:=⟨_,rfl⟩;rw [<- qh] at H1;rw [<- wW] at H2;have HDX:Hid (∀ W,Calls prog 115 #[.string (aD x)] W fun e w'=>e=.returned (.string (aE x.natAbs))/\W=w'):=fun W=>jx x W;have HDY:Hid (∀ W,Calls prog 115 #[.string (aD y)] W fun e w'=>e=.returned (.string (aE y.natAbs))/\W=w'):=fun W=>jx y W;obtain ⟨s1,hs1⟩:∃ s,s=dD x:=⟨_,rfl⟩;obtain ⟨s2,hs2⟩:∃ s,s=dD y:=⟨_,rfl⟩;have yK:Hid (∀ W,Calls prog 128 #[.string (aD x)] W fun e w'=>e=.returned (.int .i64 s1)/\W=w'):=fun W=>by rw [hs1];exact mJ x W
 have zh:Hid (∀ W,Calls prog 128 #[.string (aD y)] W fun e w'=>e=.returned (.int .i64 s2)/\W=w'):=fun W=>by rw [hs2];exact mJ y W
 have HQ:Hid (dc (s1 != s2) (x.natAbs / y.natAbs)=x.tdiv y):=by unfold Hid;rw [hs1,hs2];exact Z5H x y
 have HR:Hid (dc (decide (s1<0)) (x.natAbs%y.natAbs)=x.tmod y):=by unfold Hid;rw [hs1];exact Z31 x y
 obtain ⟨Bh,Bg⟩:=Z6o x y h0;rw [<- hs1,<- hs2] at Bh Bg;have ER:(aD (x.tdiv y)).size<=13001:=by
  have:=S3_ (v0_ x y);omega
 have qo:(aD (x.tmod y)).size<=13001:=by
  have h1:=mT x y h0;have:=S3_ (show (x.tmod y).natAbs<=y.natAbs by omega);omega
 have HZ:=n8 (iq (x.tmod y));obtain ⟨tq,Ip⟩:∃ t,t=x.tdiv y:=⟨_,rfl⟩;obtain ⟨tr,x3⟩:∃ t,t=x.tmod y:=⟨_,rfl⟩;rw [<- Ip] at HQ Bh Bg ER;rw [<- x3] at HR Bh Bg qo HZ;have HF1:=n8 Bh;have HF2:=n8 Bg;have pS:Hid (∀ W,aC w W->oW 144 #[.string (aD tq),.string ⟨#[49]⟩] W (.string (aD (tq-1)))):=fun W hW=>by
  have:=d4_ tq 1 W (by omega) (by decide +kernel) (HT.ext hW);rw [show aD 1=⟨#[49]⟩ by decide +kernel] at this;exact this
 have HADD:Hid (∀ W,aC w W->oW 73 #[.string (aD tr),.string (aD y)] W (.string (aD (tr+y)))):=fun W hW=>x3_ tr y W (by omega) (by omega) (HT.ext hW);have pR:0<y.natAbs:=by omega
 clear hsm ht qh wW hs1 hs2 Ip x3 Bh Bg h0;rcases hbb with hb | ⟨hb,hb2⟩
 case' inl =>
  rw [hb] at H1;obtain ⟨by',hby⟩:∃ b,b=et y:=⟨_,rfl⟩;rw [<- hby] at H2;clear hb hby
 case' inr =>
  rw [hb] at H1;rw [hb2] at H2;clear hb hb2
 all_goals
  go_enter func87,ntmps87
  go_wp2_with fail;refine H1.mono ?_;rintro e w1 ⟨rfl,hE1⟩;have HE1:=n8 hE1;clear hE1 H1;go_wp2_with fail;refine (H2 _).mono ?_;rintro e w2 ⟨rfl,oY⟩;have HE2:=n8 (aC.trans HE1 oY);clear oY H2;go_wp2_with fail;refine (HDX _).mono ?_;rintro e w3 ⟨rfl,rfl⟩;go_wp2_with fail;refine (mL _ _ (by omega)).mono ?_;rintro e w3 ⟨r3,l3,rfl,wu,oh⟩;have HR3:=n8 wu;have HE3:=n8 (aC.trans HE2 oh);clear wu oh;go_wp2_with fail;refine (HDY _).mono ?_;rintro e w4 ⟨rfl,rfl⟩;go_wp2_with fail;refine (mL _ _ (by omega)).mono ?_;rintro e w4 ⟨r4,l4,rfl,vG,hE4⟩;have HR4:=n8 vG;have HE4:=n8 (aC.trans HE3 hE4);have HA3:=n8 ((HR3.out.out.1.at).ext hE4);have yY:l3.length<=15000:=by have:=HR3.out.out.2.2.2;omega
  have Fp:l4.length<=15000:=by have:=HR4.out.out.2.2.2;omega
  clear vG hE4;go_wp2_with fail;refine (j2_ l3 l4 _ _ _ HA3 HR4.out.out.1.at HR3.out.out.2.1.1 HR4.out.out.2.1 (by rw [HR4.out.out.2.2.1];exact pR) (by omega) (by omega)).mono ?_;rintro e w5 ⟨r5,r6,l5,l6,rfl,sh,ou⟩;have HR5:=n8 sh.out;have HE5:=n8 (aC.trans HE4 ou);clear sh ou;go_wp2_with fail;refine (yK _).mono ?_;rintro e w6 ⟨rfl,rfl⟩;go_wp2_with fail;refine (zh _).mono ?_;rintro e w6 ⟨rfl,rfl⟩;obtain ⟨q1,q2,q3,q4,q5,q6,q7,q8⟩:=HR5.out;have HSG:=n8 (mK _ (s1 != s2) l5 r5 w5 q1 q2.1 (by omega) (HT.ext HE5));rw [q3,HR3.out.out.2.2.1,HR4.out.out.2.2.1,HQ.out] at HSG;have Hj:Hid (∀ W,aC w5 W->oW 127 #[.bool (decide (s1<0)),r6] W (.string (aD tr))):=fun W hW=>by
   have:=mK w4.heap.size (decide (s1<0)) l6 r6 W (fi q5 hW) q6.1 (by omega) (HT.ext (HE5.trans hW));rw [q7,HR3.out.out.2.2.1,HR4.out.out.2.2.1,HR.out] at this;exact this
  clear q1 q2 q3 q4 q5 q6 q7 q8;go_wp2_with fail;refine HSG.mono ?_;rintro e w6 ⟨rfl,og⟩;have HE6:=n8 og;clear og;go_wp2_with fail;refine (yK _).mono ?_;rintro e w7 ⟨rfl,rfl⟩;go_wp2_with fail;refine (Hj _ HE6).mono ?_;rintro e w7 ⟨rfl,qS⟩;have HE7:=n8 (aC.trans HE5 (aC.trans HE6 qS));have hz:=HZ.out;clear qS;by_cases hc:tr≠0/\s1≠s2
  ·have hz2:¬ (aD tr).toList=[48]:=fun e=>by rw [e] at hz;exact hc.1 (of_decide_eq_true hz.symm)
   have yM:((aD tr).toList == [48])=false:=by rw [hz];exact oR hc.1
   have hs:¬ s1=s2:=hc.2;have hs2:(s1 != s2)=true:=by rw [bne_iff_ne];exact hc.2
   obtain ⟨g1,g2⟩:=HF1 hc;have HG:=n8 (And.intro g1 g2);clear hc g1 g2 HF1 HF2 hz;go_wp2_with fail;refine (yK _).mono ?_;rintro e w8 ⟨rfl,rfl⟩;go_wp2_with fail;refine (zh _).mono ?_;rintro e w8 ⟨rfl,rfl⟩;go_wp2_with fail;refine (pS _ HE7).mono ?_;rintro e w8 ⟨rfl,xY⟩;have HE8:=n8 (aC.trans HE7 xY);clear xY;go_wp2_with fail;refine (HADD _ HE8).mono ?_;rintro e w9 ⟨rfl,xX⟩;have HE9:=n8 (aC.trans HE8 xX);clear xX;go_wp2_with fail;go_ret2;exact ⟨by rw [HG.out.1,HG.out.2];rfl,HE9⟩
  ·obtain ⟨g1,g2⟩:=HF2 hc;have HG:=n8 (And.intro g1 g2);by_cases h0:tr=0
   ·have hz2:(aD tr).toList=[48]:=by rw [oS h0] at hz;exact beq_iff_eq.1 hz
    clear hc g1 g2 HF1 HF2 hz h0;go_wp2_with fail;go_ret2;exact ⟨by rw [HG.out.1,HG.out.2];rfl,HE7⟩
   ·have hz2:¬ (aD tr).toList=[48]:=fun e=>by rw [e] at hz;exact h0 (of_decide_eq_true hz.symm)
    have hs:(s1 != s2)=false:=by
     have:s1=s2:=by
      false_or_by_contra
      rename_i h;exact hc ⟨h0,h⟩
     rw [this];simp
    clear hc g1 g2 HF1 HF2 hz h0;go_wp2_with fail;refine (yK _).mono ?_;rintro e w8 ⟨rfl,rfl⟩;go_wp2_with fail;refine (zh _).mono ?_;rintro e w8 ⟨rfl,rfl⟩;go_wp2_with fail;go_ret2;exact ⟨by rw [HG.out.1,HG.out.2];rfl,HE7⟩
theorem Z1u {d:Int} (z:Int) (hd:d≠0):aR (d*z) d=z:=by
 unfold aR;rw [Int.mul_tmod_right,if_neg (by simp)];exact Int.mul_tdiv_cancel_left z hd
theorem Z2w (a b:Int) (w:World) (ha:(aD a).size<=13000) (hb:(aD b).size<=13000) (ht:af w) :
  oW 88 #[.string (aD a),.string (aD b)] w (.string (aE (Nat.gcd a.natAbs b.natAbs))):=by
 have HA:=n8 (d3_ a w);have HB:=n8 (fun W=>d3_ b W);have HT:=n8 ht;obtain ⟨u,hu⟩:∃ u,u=a.natAbs:=⟨_,rfl⟩;obtain ⟨v,hv⟩:∃ v,v=b.natAbs:=⟨_,rfl⟩;rw [<- hu] at HA |-;rw [<- hv] at HB |-;have yR:(aE u).size<=13000:=by rw [hu];have:=iw a;omega
 have EH:(aE v).size<=13000:=by rw [hv];have:=iw b;omega
 clear ht hu hv ha hb
 go_enter func88,ntmps88
 go_wp2_with fail;refine HA.mono ?_;rintro e w1 ⟨rfl,hE1⟩;have HE1:=n8 hE1;clear hE1 HA;go_wp2_with fail;refine (HB _).mono ?_;rintro e w2 ⟨rfl,oY⟩;have HE2:=n8 (aC.trans HE1 oY);clear oY HB;go_wp2_with fail
 go_loopw [0,1] (fun s t wr=>∃ x y:Nat,s=.string (aE x)/\t=.string (aE y)/\(aE x).size<=13000/\(aE y).size<=13000/\Hid (Nat.gcd x y=Nat.gcd u v)/\Hid (aC w wr)) (fun _ t _=>Z6O t)
 case atStart=>exact ⟨u,v,rfl,rfl,yR,EH,rfl,HE2⟩
 case round =>
  obtain ⟨x,y,rfl,rfl,hx,hy,HG,HE⟩:=hrel;obtain ⟨wo,rfl⟩:∃ wo:World,wo=wr:=⟨_,rfl⟩;have hz:=Z40 y;by_cases pR:y=0
  ·have HF:Hid (x=Nat.gcd u v):=by unfold Hid;rw [<- HG.out,pR,Nat.gcd_zero_right]
   rw [oS pR] at hz;have hz2:((aE y).toList != [48])=false:=by simp only [bne,hz];rfl
   clear pR;go_wp2_with fail;go_ret;exact ⟨by rw [<- HF.out];rfl,HE⟩
  ·rw [oR pR] at hz;have hz2:((aE y).toList != [48])=true:=by simp only [bne,hz];rfl
   have HG2:Hid (Nat.gcd y (x%y)=Nat.gcd u v):=by
    unfold Hid;rw [<- HG.out,Nat.gcd_comm y (x%y),<- Nat.gcd_rec,Nat.gcd_comm]
   have hdm:=W2_ (x:Int) (y:Int) wo (by rw [eb];exact hx) (by rw [eb];exact hy) (by omega) (HT.ext HE);rw [eb,eb] at hdm;have yD:bF (x:Int) (y:Int)=((x%y:Nat):Int):=by
    unfold bF;rw [nz,if_neg];rintro ⟨-,h⟩;exact h (by rw [oR (by omega),oR (by omega)])
   rw [yD,eb] at hdm;have HDM:=n8 hdm;obtain ⟨r,hr⟩:∃ r,r=x%y:=⟨_,rfl⟩;rw [<- hr] at HG2 HDM;have Cd:r<y:=by rw [hr];exact Nat.mod_lt _ (by omega)
   have qo:(aE r).size<=13000:=oI (gY (Nat.le_of_lt Cd)) hy;have HVR:=n8 (And.intro (b2_ r) (b2_ y));clear hr hdm yD pR;go_wp2_with fail;refine HDM.mono ?_;rintro e w3 ⟨rfl,oh⟩;have HE3:=n8 (aC.trans HE oh);clear oh HDM;go_wp2_with fail;go_roundw
   case rel=>exact ⟨y,r,rfl,rfl,hy,qo,HG2,HE3⟩
   case measure =>
    have h1:=HVR.1;have h2:=HVR.2
    first | (rw [h1,h2];exact Cd) | (simp only [h1,h2];exact Cd)
theorem m4_ (a x b y d z:Int) (w:World) (ha:(aD a).size<=6000) (hx:(aD x).size<=6000) (hb:(aD b).size<=6000) (hy:(aD y).size<=6000) (hd:(aD d).size<=6000) (h0:d≠0) (hz:a*x-b*y=d*z) (tB:(aD z).size<=6000) (ht:af w) :
  oW 139 #[.string (aD a),.string (aD x),.string (aD b),.string (aD y),.string (aD d)] w (.string (aD z)):=by
 have HT:=n8 ht;have s1:=im a x;have s2:=im b y;have s3:=im d z;have H1:=n8 (x4_ a x w (by omega) (by omega) ht);have H2:Hid (∀ W,aC w W->oW 68 #[.string (aD b),.string (aD y)] W (.string (aD (b*y)))):=fun W hW=>x4_ b y W (by omega) (by omega) (HT.ext hW);have H3:Hid (∀ W,aC w W->oW 144 #[.string (aD (a*x)),.string (aD (b*y))] W (.string (aD (d*z)))):=fun W hW=>by
  have:=d4_ (a*x) (b*y) W (by omega) (by omega) (HT.ext hW);rw [hz] at this;exact this
 have H4:Hid (∀ W,aC w W->Calls prog 87 #[.string (aD (d*z)),.string (aD d)] W fun e w'=>∃ r,e=.returned (.tuple #[.string (aD z),.string r])/\aC W w'):=fun W hW=>by
  have:=W2_ (d*z) d W (by omega) (by omega) h0 (HT.ext hW);rw [Z1u z h0] at this;exact this.mono fun _ _ ⟨g1,g2⟩=>⟨_,g1,g2⟩
 obtain ⟨p,hp⟩:∃ p,p=aD (a*x):=⟨_,rfl⟩;obtain ⟨q,hq⟩:∃ q,q=aD (b*y):=⟨_,rfl⟩;obtain ⟨m,hm⟩:∃ m,m=aD (d*z):=⟨_,rfl⟩;rw [<- hp] at H1 H3;rw [<- hq] at H2 H3;rw [<- hm] at H3 H4;clear s1 s2 s3 hp hq hm hz ht ha hx hb hy hd tB h0
 go_enter func139,ntmps139
 go_wp2_with fail;refine H1.mono ?_;rintro e w1 ⟨rfl,hE1⟩;have HE1:=n8 hE1;clear hE1;go_wp2_with fail;refine (H2 _ HE1).mono ?_;rintro e w2 ⟨rfl,oY⟩;have HE2:=n8 (HE1.trans oY);clear oY;go_wp2_with fail;refine (H3 _ HE2).mono ?_;rintro e w3 ⟨rfl,oh⟩;have HE3:=n8 (HE2.trans oh);clear oh;go_wp2_with fail;refine (H4 _ HE3).mono ?_;rintro e w4 ⟨r,rfl,hE4⟩;have HE4:=n8 (HE3.trans hE4);clear hE4;go_wp2_with fail;go_ret;exact ⟨rfl,HE4⟩
theorem Z03 (n:Int) (w:World):Calls prog 24 #[.int .i64 n] w fun e w'=>e=.returned (.bool (dB n))/\w=w':=by
 by_cases h:n<=1000000000
 ·by_cases h2:-1000000000<=n
  ·go_enter func24,ntmps24
   go_wp2
   go_ret;exact ⟨by simp [dB,h,h2];try omega,rfl⟩
  ·go_enter func24,ntmps24
   go_wp2
   go_ret;exact ⟨by simp [dB,h,h2];try omega,rfl⟩
 ·go_enter func24,ntmps24
  go_wp2
  go_ret;exact ⟨by simp [dB,h];try omega,rfl⟩
def Z3Y (xss:List (List Int)):Nat:=xss.foldl (fun m r=>max m r.length) 0
def Z6S (xss:List (List Int)):Prop:=(xss.length<=4/\Z3Y xss<=5)\/(12<=xss.length/\xss.length<=14/\Z3Y xss<=2)\/(xss.length<=2/\11<=Z3Y xss/\Z3Y xss<=14)
instance (xss:List (List Int)):Decidable (Z6S xss):=inferInstanceAs (Decidable (_\/_))
theorem Z3c {xs:List Int} {k:Nat} {x:Int} (f:Int->Bool) (h:xs[k]?=some x):(xs.drop k).any f=(f x || (xs.drop (k+1)).any f):=by
 rw [K8_ h,List.any_cons]
theorem p7_ (xss:List (List Int)) (v:Value) (w:World) (h:bQ w v xss) :
  oW 14 #[v] w (.int .i64 (bw xss)):=by
 obtain ⟨a,c,rfl,h1,h2,-,hc⟩:=bT.open h;have HC:=n8 hc;unfold maxLen at h2;clear h hc;by_cases hl:12<xss.length
 ·have HT:Hid (bw xss=4):=by unfold Hid bw;rw [if_pos hl]
  have ya:(12:Int)<(xss.length:Int):=by omega
  go_enter func14,ntmps14
  go_wp2_with fail;go_ret;exact ⟨by rw [HT.out];rfl,aC.refl _⟩
 ·have HT:Hid (bw xss=gw (xss.headD []).length xss):=by unfold Hid bw;rw [if_neg hl]
  have ya:¬ (12:Int)<(xss.length:Int):=by omega
  obtain ⟨n,hn⟩:∃ n,n=(xss.headD []).length:=⟨_,rfl⟩;rw [<- hn] at HT;have HN:=n8 hn;clear hn
  go_enter func14,ntmps14
  go_wp2_with fail
  go_loopw [3] (fun t wr=>∃ j:Nat,j<=xss.length/\t=.int .i64 j/\aC w wr/\Hid (bw xss=gw n (xss.drop j))) (fun t _=>xss.length-(intOf t).toNat)
  case atStart=>exact ⟨0,by omega,rfl,aC.refl _,HT⟩
  case round =>
   obtain ⟨j,hj,rfl,hE,HD⟩:=hrel;obtain ⟨wo,rfl⟩:∃ wo:World,wo=wr:=⟨_,rfl⟩;have HE:=n8 hE;by_cases hlt:j<xss.length
   ·obtain ⟨b,off,rfl,hb,hcell⟩:=HC (by intro e;simp [e] at hlt);obtain ⟨xs,hx⟩:∃ x,xss[j]?=some x:=⟨xss[j],n9 hlt⟩;obtain ⟨ys,hy⟩:∃ y,xss[0]?=some y:=⟨xss[0]'(by omega),n9 _⟩;have vZ:ys.length=n:=by
     rw [HN.out];cases xss with
     | nil=>simp at hlt
     | cons z t=>simp at hy;rw [hy];rfl
    obtain ⟨vx,qh,pG⟩:=hcell j xs hx;obtain ⟨vy,wW,tb⟩:=hcell 0 ys hy;rw [Nat.add_zero] at tb;obtain ⟨ax,cx,rfl,-,rQ,-,-,CP⟩:=au.open qh;obtain ⟨ay,cy,rfl,-,-,-,-,-⟩:=au.open wW;rw [vZ] at tb;have HG1:Hid (∀ W,aC w W->W.cell? ⟨b,off+j,none⟩=some (.slice ax xs.length cx)):=fun W hW=>hW.cell pG;have HG2:Hid (∀ W,aC w W->W.cell? ⟨b,off,none⟩=some (.slice ay n cy)):=fun W hW=>hW.cell tb;have HXC:=n8 CP;have g1:=HG1 _ hE;have g2:=HG2 _ hE;have HDS:Hid (bw xss=if 12<xs.length then 4 else if xs.length=n then (if xs.any (fun x=>!dB x) then 4 else gw n (xss.drop (j+1))) else 5):=by
     unfold Hid;rw [HD.out,K8_ hx];rfl
    have pK:0<xss.length:=by omega
    unfold maxLen at rQ;clear hcell hx hy vZ qh wW pG tb hE CP;by_cases q1:12<xs.length
    ·have q2:(12:Int)<(xs.length:Int):=by omega
     rw [if_pos q1] at HDS;go_wp2_with fail;go_ret;exact ⟨by rw [HDS.out];rfl,HE⟩
    ·have q2:¬ (12:Int)<(xs.length:Int):=by omega
     rw [if_neg q1] at HDS;by_cases q3:xs.length=n
     ·rw [if_pos q3] at HDS;have q4:((xs.length:Int) != (n:Int))=false:=by simp [q3]
      clear q3;go_wp2_with fail
      go_quiet (fail)
      go_wp2_with fail;have hsz:∀ kk,aC w (wo.drewN kk):=fun kk=>aC.draws HE kk;clear g1 g2
      go_loopw [4] (fun t wr=>∃ k:Nat,k<=xs.length/\t=.int .i64 k/\Hid (aC w wr)/\Hid (xs.any (fun x=>!dB x)=(xs.drop k).any (fun x=>!dB x))) (fun t _=>xs.length-(intOf t).toNat)
      case atStart=>exact ⟨0,by omega,rfl,by first | exact HE | exact hsz _ | exact aC.draws HE _ | exact HE.trans (aC.drew _),rfl⟩
      case round =>
       obtain ⟨k,hk,rfl,pU,HA⟩:=hrel;obtain ⟨wi,rfl⟩:∃ wi:World,wi=wr:=⟨_,rfl⟩;have g1:=HG1 _ pU;by_cases hkl:k<xs.length
       ·obtain ⟨b2,o2,rfl,hb2,pT⟩:=HXC (by intro e;rw [e] at hkl;simp at hkl);obtain ⟨x,hx⟩:∃ x,xs[k]?=some x:=⟨xs[k],n9 hkl⟩;have g3:=pU.cell (pT k x hx);have HAD:=n8 (Z3c (fun x=>!dB x) hx);have Ev:Hid (∀ W,Calls prog 24 #[.int .i64 x] W fun e w'=>e=.returned (.bool (dB x))/\W=w'):=fun W=>Z03 x W;clear pT hx;cases hf:dB x with
        | true =>
         rw [hf] at HAD Ev;have tN:Hid (xs.any (fun x=>!dB x)=(xs.drop (k+1)).any (fun x=>!dB x)):=by unfold Hid;rw [HA.out,HAD.out];rfl
         go_wp2_with fail;refine (Ev _).mono ?_;rintro e w1 ⟨rfl,rfl⟩;go_wp2_with fail;go_roundw
         case rel=>exact ⟨k+1,by omega,by go_num,pU,tN⟩
         case measure=>simp [intOf];omega
        | false =>
         rw [hf] at HAD Ev;have tN:Hid (bw xss=4):=by unfold Hid;rw [HDS.out,if_pos (by rw [HA.out,HAD.out];rfl)]
         go_wp2_with fail;refine (Ev _).mono ?_;rintro e w1 ⟨rfl,rfl⟩;go_wp2_with fail;go_ret;exact ⟨by rw [tN.out];rfl,pU⟩
       ·obtain rfl:k=xs.length:=by omega
        have tN:Hid (bw xss=gw n (xss.drop (j+1))):=by unfold Hid;rw [HDS.out,if_neg (by rw [HA.out,List.drop_length];simp)]
        go_wp2_with fail;go_roundw
        case rel=>exact ⟨j+1,by omega,by go_num,pU,tN⟩
        case measure=>simp [intOf];omega
     ·rw [if_neg q3] at HDS;have q4:((xs.length:Int) != (n:Int))=true:=by simp;omega
      clear q3;go_wp2_with fail
      go_quiet (fail)
      go_wp2_with fail;go_ret;exact ⟨by rw [HDS.out];rfl,by first | exact HE | exact aC.draws HE _ | exact HE.trans (aC.drew _)⟩
   ·obtain rfl:j=xss.length:=by omega
    have HF:Hid (bw xss=0):=by unfold Hid;rw [HD.out,List.drop_length];rfl
    clear HD hE;go_wp2_with fail;go_ret;exact ⟨by rw [HF.out];rfl,HE⟩
theorem j6_ (xss:List (List Int)) (v:Value) (w:World) (h:bQ w v xss) :
  Calls prog 98 #[v] w fun e w'=>e=.returned (.int .i64 (bY xss:Int))/\w=w':=by
 obtain ⟨a,c,rfl,h1,h2,-,hc⟩:=bT.open h;clear h;cases xss with
 | nil =>
  go_enter func98,ntmps98
  go_wp2_with fail;go_ret;exact ⟨rfl,rfl⟩
 | cons r l =>
  obtain ⟨b,off,rfl,hb,hcell⟩:=hc (by simp);obtain ⟨vx,qh,pG⟩:=hcell 0 r rfl;rw [Nat.add_zero] at pG;obtain ⟨ax,cx,rfl,-,-,-,-,-⟩:=au.open qh;have hz:(((r::l).length:Int) == 0)=false:=by rw [beq_eq_false_iff_ne,List.length_cons];omega
  have hp:(0:Int)<((r::l).length:Int):=by rw [List.length_cons];omega
  have HCN:Hid (bY (r::l)=r.length):=rfl;obtain ⟨n,hn⟩:∃ n,n=(r::l).length:=⟨_,rfl⟩;rw [<- hn] at hz hp |-;rw [HCN.out];clear hc hcell qh h1 hn
  go_enter func98,ntmps98
  go_wp2_with fail;go_ret;exact ⟨rfl,rfl⟩
def Z6g (x:List Int):Prop:=∀ a∈x,-1000000000<=a/\a<=1000000000
theorem Z1K:(prog.info? 53).map (fun i=>(i.zero,i.size,i.bytes))=some (some (.string ⟨#[]⟩),1,16):=by kernel_rfl
theorem f6_:(prog.info? 29).map (fun i=>(i.zero,i.size,i.bytes))=some (some (.slice none 0 0),1,24):=by kernel_rfl
theorem aZ.strV {w:World} {base:Nat} {e:TypeId} {v:Value} {xs:List Int} (h:aZ w base e 1 v numC xs):w.ownsRow base e 1 v xs.length (xs.map fun x=>Value.string (aD x)):=by
 obtain ⟨us,h1,h2,h3,h4⟩:=h;have:us=xs.map fun x=>[Value.string (aD x)]:=by
  apply List.ext_getElem?;intro i;rw [oE];by_cases hi:i<xs.length
  ·have hi2:i<us.length:=by omega
   have:=(h4 i us[i] xs[i] (by simp [hi2]) (by simp [hi])).now;simp only [numC] at this;simp [hi,hi2,this]
  ·rw [oK (by omega),oK (by omega)];rfl
 rw [this,eI (fun x=>Value.string (aD x))] at h3;exact h3
theorem dJ.of_build {w:World} {base:Nat} {e:TypeId} {v:Value} {xs:List Int} (h:aZ w base e 1 v numC xs) (hne:0<xs.length) :
  ∃ g cap,v=.slice (some ⟨g,0,none⟩) xs.length cap/\dJ w g xs/\base<=g/\xs.length<=cap/\cap<=9223372036854775807:=by
 have hs:=h.strV;have hc:=fun g hg=>hs.cells (g:=g) hg;have hs0:=hs;rcases hs.2 with ⟨hv,h0⟩ | ⟨g,cap,cur,hv,hb,hg,h1,h2,h3,h4⟩
 ·omega
 ·subst hv;refine ⟨g,cap,rfl,⟨(Array.getElem?_eq_some_iff.1 hg).1,fun j x hx=>?_,fun j=>hs0.frozenAt j⟩,hb,h1,h2⟩;have:=hc g (by simp [Value.ownBlock]) j (.string (aD x)) (by rw [oE,hx];rfl);rw [show (⟨g,0,none⟩:Addr).add j=⟨g,j,none⟩ by unfold Addr.add;split <;> simp_all] at this;exact this
theorem Z15 (xss:List (List Int)) (C:Nat) (v:Value) (w:World) (h:bQ w v xss) (hr:∀ r∈xss,r.length=C) (hC:0<C) (hl:xss.length<=1000) (By:C<=1000) (hf:∀ r∈xss,Z6g r) (ht:af w) :
  Calls prog 97 #[v] w fun e w'=>∃ u tags,e=.returned u/\bO jv 29 w' w.heap.size w.heap.size u tags xss/\aC w w':=by
 have HT:=n8 ht;obtain ⟨a,c,rfl,h1,h2,-,hc⟩:=bT.open h;have HC:=n8 hc;have HRR:=n8 hr;have HFX:=n8 hf;unfold maxLen at h2;clear h hc hr hf ht
 go_enter func97,ntmps97
 go_wp2_with fail
 go_loopw [4,3] (fun t o wr=>∃ (i:Nat) (tags:List (Nat×Nat)),i<=xss.length/\t=.int .i64 i/\Hid (aC w wr)/\Hid (bO jv 29 wr w.heap.size w.heap.size o tags (xss.take i))) (fun t _ _=>xss.length-(intOf t).toNat)
 case atStart=>exact ⟨0,[],by omega,rfl,aC.refl _,bO.nil _ _ _ _ _⟩
 case round =>
  obtain ⟨i,tags,hi,rfl,HE,HO⟩:=hrel;obtain ⟨wo,rfl⟩:∃ wo:World,wo=wr:=⟨_,rfl⟩;by_cases hlt:i<xss.length
  ·obtain ⟨b,off,rfl,hb,hcell⟩:=HC (by intro e;simp [e] at hlt);obtain ⟨r,hr⟩:∃ x,xss[i]?=some x:=⟨xss[i],n9 hlt⟩;obtain ⟨vr,qu,sJ⟩:=hcell i r hr;obtain ⟨ar,cr,rfl,r1,r2,-,-,pd⟩:=qu.open;have x5:r.length=C:=HRR r (oD hr);rw [x5] at sJ r1;obtain ⟨br,or_,rfl,-,pJ⟩:=pd (by intro e;rw [e] at x5;simp at x5;omega);have HCR:=n8 sJ;have HC1:=n8 pJ;have HRN:=n8 x5;have ND:Hid (Z6g r):=HFX r (oD hr);have HTK:Hid (xss.take (i+1)=xss.take i++[r]):=by unfold Hid;rw [oG,hr];rfl
   have Lf:(i:Int)<(xss.length:Int):=by omega
   unfold maxLen at r2;clear hcell hr qu sJ pd pJ x5;go_wp2_with fail
   go_loopw [6,5] (fun t o wr=>∃ j:Nat,j<=C/\t=.int .i64 j/\Hid (aC wo wr)/\Hid (aZ wr wo.heap.size 53 1 o numC (r.take j))) (fun t _ _=>C-(intOf t).toNat)
   case atStart=>exact ⟨0,by omega,rfl,by first | exact aC.refl _ | exact aC.drew _,aZ.nil _ _ _ _ _⟩
   case round =>
    obtain ⟨j,hj,rfl,pU,HBI⟩:=hrel;obtain ⟨wi,rfl⟩:∃ wi:World,wi=wr:=⟨_,rfl⟩;have HWI:=n8 (HE.trans pU);have g1:=HWI.cell HCR;by_cases hjl:j<C
    ·obtain ⟨p,hp⟩:∃ p,r[j]?=some p:=⟨_,n9 (by rw [HRN.out];exact hjl)⟩;have g2:=HWI.cell (HC1 j p hp);have hbd:=ND p (oD hp);have HOF:Hid (oW 69 #[.int .i64 p] wi (.string (aD p))):=mI p wi (by omega) (by omega) (HT.ext HWI);have HRT:Hid (r.take (j+1)=r.take j++[p]):=by unfold Hid;rw [oG,hp];rfl
     have HLL:Hid ((r.take j).length<1000000):=Nat.lt_of_le_of_lt (by rw [oF];exact Nat.min_le_left _ _) (show j<1000000 by omega);have Cz:(j:Int)<(C:Int):=by omega
     clear hp hbd;go_wp2_with fail;refine HOF.mono ?_;rintro e w5 ⟨rfl,ou⟩;have HX5:=n8 (pU.trans ou);have HB5:=n8 (HBI.ext ou);have rB:wo.heap.size<=w5.heap.size:=HX5.size;clear ou;go_wp2_with (at_builtin;go_must (refine ee _ rfl _ _ 29 rfl wo.heap.size 53 (.string ⟨#[]⟩) 1 16 underlying29 Z1K rfl (by decide) u5 numC (r.take j) p #[.string (aD p)] 53 rfl HB5 rfl rfl ?_ (fun _ _=>rfl) HLL (by decide) rB ?_))
     all_goals first | (simp [Value.oneCell'];done) | skip
     intro v' w6 pF qW hb6 zD _;rw [<- HRT.out] at pF;have HB6:=n8 pF;have HX6:Hid (aC wo w6):=Below.trans HX5 hb6;clear pF qW hb6;go_wp2_with fail;go_roundw
     case rel=>exact ⟨j+1,by omega,by go_num,HX6,HB6⟩
     case measure=>simp [intOf];omega
    ·obtain rfl:j=C:=by omega
     have tQ:r.take j=r:=by rw [<- HRN.out,List.take_length]
     rw [tQ] at HBI;obtain ⟨g,cap,hv,hRN,JO,qb,qa⟩:=dJ.of_build HBI (by rw [HRN.out];exact hC);subst hv;have HRW:=n8 hRN;rw [HRN.out] at qb |-;have HO4:=n8 (HO.ext pU);have HV:Hid (u3.ownBlock≠some g):=fun e=>by have:=(HO.own.lt _ e).2;omega
     have HN:Hid (g∉tags.map (·.1)):=fun e=>by have:=(HO.fresh e).2;omega
     have HLL:Hid ((xss.take i).length<1000000):=Nat.lt_of_le_of_lt (by rw [oF];exact Nat.min_le_left _ _) (show i<1000000 by omega);have rB:w.heap.size<=wi.heap.size:=HWI.size;have qe:w.heap.size<=g:=by have:=HE.size;omega
     have Cz:¬ (j:Int)<(j:Int):=by omega
     clear hRN tQ;go_wp2_with (at_builtin;go_must (refine n6 (K:=jv) (e:=29) underlying122 f6_ wi rfl _ _ rfl w.heap.size w.heap.size u3 tags (xss.take i) (g,cap) r _ _ rfl HO4 rfl ?d1 ?d2 ?d3 HRW ?d4 HV HN HLL ?d5 ?_))
     case d1=>rw [HRN.out];rfl
     case d2=>rw [HRN.out];exact qb
     try (case d3=>exact qa)
     try (case d4=>exact qe)
     try (case d5=>exact rB)
     intro v' w6 tI hb6 _;rw [<- HTK.out] at tI;have HO6:=n8 tI;have HX6:Hid (aC w w6):=Below.trans HWI hb6;clear tI hb6;go_wp2_with fail;go_roundw
     case rel=>exact ⟨i+1,_,by omega,by go_num,HX6,HO6⟩
     case measure=>simp [intOf];omega
  ·obtain rfl:i=xss.length:=by omega
   rw [List.take_length] at HO;have Lf:¬ (xss.length:Int)<(xss.length:Int):=by omega
   go_wp2_with fail;go_ret;exact ⟨_,rfl,⟨_,HO⟩,HE⟩
end Go.Proofs.YtjlkkofmojgipaaGreatDoor
