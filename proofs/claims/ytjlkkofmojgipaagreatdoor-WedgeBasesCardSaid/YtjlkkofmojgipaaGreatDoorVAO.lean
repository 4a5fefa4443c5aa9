import Derived.KernelRfl
import Derived.Test.YtjlkkofmojgipaaGreatDoorVAN
import Derived.Test.YtjlkkofmojgipaaGreatDoorVAC
import Derived.BigQuiet
import Derived.Test.YtjlkkofmojgipaaGreatDoorVAE
import Derived.Test.YtjlkkofmojgipaaGreatDoorVAD
import Derived.Deep.RegionHeld3
import Derived.Test.YtjlkkofmojgipaaGreatDoorVAH
import Derived.Lib.SliceRun
import Derived.WalkSpells
import Derived.Test.YtjlkkofmojgipaaGreatDoorVAM
import Derived.Laws.AppendOwnNone
import Derived.Shelf.Spec.TrailingZeros
import Derived.Lib.LaidTab
import Derived.WalkSmall
import Derived.Maps.OwnOps
import Derived.Maps.Views
import Derived.WalkKit
import Derived.Test.YtjlkkofmojgipaaGreatDoorVAJ
import Derived.Test.YtjlkkofmojgipaaGreatDoorVAA
import Derived.Laws.BitsAllLaws
import Derived.Test.YtjlkkofmojgipaaGreatDoorVAF
import Derived.Deep.CutRange
import Derived.Deep.RegionWith
set_option linter.unusedVariables false
set_option linter.unusedSimpArgs false
set_option maxRecDepth 1000000
set_option maxHeartbeats 4000000
namespace Go.Proofs.YtjlkkofmojgipaaGreatDoor
open Go.RowKit Go.Maps Go.Proofs.Tryz
def Z7b (_:World) (v:Value) (x:Int):Prop:=v=.string (aB x)
theorem x1_ (a b:Int):((aB a).toList == (aB b).toList)=decide (a=b):=by rw [J7_,J7_,Z2n]
abbrev eO (w:World) (v:Value) (xs:og):Prop:=aH 1 (bc Z7b) w v xs
theorem eO.ext {w w':World} {v:Value} {xs:og} (h:eO w v xs) (he:aA w w'):eO w' v xs:=aH.ext (fun _ _ _ _ _ h=>h) h he
theorem r6_ (xs ys:og) (u v:Value) (w:World) (h:eO w u xs) (k:eO w v ys) :
  oX 95 #[u,v] w (.bool (xs == ys)):=by
 obtain ⟨a,c,rfl,h1,h2,-,hc⟩:=bc.open h;obtain ⟨a',c',rfl,k1,k2,-,kc⟩:=bc.open k;have HC:=oA hc;have KC:=oA kc;clear hc kc h k;unfold maxLen at h2 k2;by_cases hl:xs.length=ys.length
 ·have hn:((xs.length:Int) != (ys.length:Int))=false:=by simp [hl]
  have AS:xs.length<=ys.length:=by omega
  have E8:ys.length<=xs.length:=by omega
  have HL:=oA hl;clear hl
  go_enter func95,ntmps95
  go_wp2
  go_loopw [13] (fun t wr=>∃ j:Nat,j<=xs.length/\t=.int .i64 j/\aA w wr/\Hid (xs.take j=ys.take j)) (fun t _=>xs.length-(intOf t).toNat)
  case atStart=>exact ⟨0,by omega,rfl,aA.refl _,rfl⟩
  case round =>
   obtain ⟨j,hj,rfl,hE,HT⟩:=hrel;by_cases hlt:j<xs.length
   ·obtain ⟨b,off,rfl,hb,hcell⟩:=HC (by intro e;simp [e] at hlt);obtain ⟨b',off',rfl,qY,rp⟩:=KC.out (by intro e;simp [e] at AS;simp [AS] at hlt);obtain ⟨x,hx⟩:∃ x,xs[j]?=some x:=⟨xs[j],oB hlt⟩;obtain ⟨y,hy⟩:∃ y,ys[j]?=some y:=⟨ys[j]'(by omega),oB _⟩;obtain ⟨z1,e1,g1⟩:=hcell j x hx;obtain ⟨z2,e2,g2⟩:=rp j y hy;obtain rfl:z1=.string (aB x):=e1;obtain rfl:z2=.string (aB y):=e2;have g1:=hE.cell g1;have g2:=hE.cell g2;have q1:(j:Int)<(xs.length:Int):=(by omega);have q2:(j:Int)<(ys.length:Int):=(by omega);have HX:=oA hx;have HY:=oA hy;have hs:=x1_ x y;clear hcell rp hx hy;by_cases hxy:x=y
    ·rw [oT hxy] at hs;have sE:((aB x).toList != (aB y).toList)=false:=(by unfold bne;rw [hs];rfl);have Gc:Hid (xs.take (j+1)=ys.take (j+1)):=by
      unfold Hid;rw [oH,oH,HX.out,HY.out,HT.out,hxy]
     clear hxy
     go_wp2
     go_quiet (fail)
     go_wp2
     go_roundw
     case rel=>exact ⟨j+1,by omega,by go_num,aA.draws hE _,Gc⟩
     case measure=>simp [intOf];omega
    ·rw [oS hxy] at hs;have sE:((aB x).toList != (aB y).toList)=true:=(by unfold bne;rw [hs];rfl);have HF:Hid ((xs == ys)=false):=by
      unfold Hid;rw [beq_eq_false_iff_ne];intro e;have e1:=HX.out;have e2:=HY.out;rw [e,e2] at e1;exact hxy (by simpa using e1.symm)
     clear hxy
     go_wp2
     go_quiet (fail)
     go_wp2
     go_ret;rw [HF.out];exact ⟨rfl,aA.draws hE _⟩
   ·have hge:xs.length<=j:=(by omega);have L4:Hid ((xs == ys)=true):=by
     unfold Hid;have e:=HT.out;rw [List.take_of_length_le (by omega),List.take_of_length_le (by omega)] at e;simp [e]
    go_wp2
    go_ret;rw [L4.out];exact ⟨rfl,hE⟩
 ·have hn:((xs.length:Int) != (ys.length:Int))=true:=by simp;omega
  have HF:Hid ((xs == ys)=false):=by unfold Hid;rw [beq_eq_false_iff_ne];intro e;exact hl (by rw [e])
  clear hl
  go_enter func95,ntmps95
  go_wp2
  go_ret;rw [HF.out];exact ⟨rfl,aA.refl _⟩
theorem eO.of_nums {w:World} {v:Value} {X:og} (h:aH 1 numC w v X):eO w v X:=by
 obtain ⟨us,h1,h2,h3,h4⟩:=h;exact ⟨us,h1,h2,h3,fun j u x hu hx=>⟨_,h4 j u x hu hx,rfl⟩⟩
def eG (n k:Nat) (X:og) (n' k':Nat) (Y:og):Bool:=decide (n=n') && decide (k=k') && (X == Y)
theorem Z0y (n k:Nat) (X:og) (n' k':Nat) (Y:og) (u v:Value) (w:World) (h:dO w u n k X) (h':dO w v n' k' Y) :
  oX 46 #[u,v] w (.bool (eG n k X n' k' Y)):=by
 obtain ⟨r,rfl,hr⟩:=h;obtain ⟨r',rfl,vn⟩:=h';have HE:Hid (∀ W,aA w W->oX 95 #[r,r'] W (.bool (X == Y))):=fun W hW=>r6_ X Y r r' W ((eO.of_nums hr).ext hW) ((eO.of_nums vn).ext hW);obtain ⟨a,c,rfl,-⟩:=aH.open hr;obtain ⟨a',c',rfl,-⟩:=aH.open vn;obtain ⟨w1,pE⟩:=oZ (w.alloc (.cells #[.int .i64 n,.int .i64 k,.slice a X.length c] 31));obtain ⟨w2,qU⟩:=oZ (w1.alloc (.cells #[.int .i64 n',.int .i64 k',.slice a' Y.length c'] 31));have hb1:w1.heap[w.heap.size]?=some (.cells #[.int .i64 n,.int .i64 k,.slice a X.length c] 31 (0,0)):=by rw [<- pE];exact fC w _ _
 have hb2:w2.heap[w1.heap.size]?=some (.cells #[.int .i64 n',.int .i64 k',.slice a' Y.length c'] 31 (0,0)):=by rw [<- qU];exact fC w1 _ _
 have hE1:aA w w1:=by rw [<- pE];exact aA.alloc _ _
 have hE2:aA w1 w2:=by rw [<- qU];exact aA.alloc _ _
 have HX:Hid (aA w w2):=hE1.trans hE2;have k1:=aO (aJ hb1 hE2);have k2:=aO hb2;clear hr vn hb1 hb2 hE1 hE2;by_cases c1:n=n'
 ·by_cases c2:k=k'
  ·have HD:Hid (eG n k X n' k' Y=(X == Y)):=(by unfold Hid eG;rw [oT c1,oT c2];simp);subst c1;subst c2
   go_enter func46,ntmps46
   go_wp2_with fail;refine (HE w2 HX).mono ?_;rintro e w3 ⟨rfl,h3⟩;have HE3:Hid (aA w w3):=HX.trans h3;clear h3 HE;go_wp2_with fail;go_ret;exact ⟨by rw [HD.out];rfl,HE3⟩
  ·have HD:Hid (eG n k X n' k' Y=false):=(by unfold Hid eG;rw [oS c2];simp);have q2:((k:Int) == (k':Int))=false:=beq_eq_false_iff_ne.2 (by omega);subst c1
   go_enter func46,ntmps46
   go_wp2_with fail;go_ret;exact ⟨by rw [HD.out];rfl,HX⟩
 ·have HD:Hid (eG n k X n' k' Y=false):=by unfold Hid eG;rw [oS c1];simp
  have q1:((n:Int) == (n':Int))=false:=beq_eq_false_iff_ne.2 (by omega)
  go_enter func46,ntmps46
  go_wp2_with fail;go_ret;exact ⟨by rw [HD.out];rfl,HX⟩
theorem T4_ {n k:Nat} {X:og} {n' k':Nat} {Y:og} (h:n≠n'\/k≠k'\/X≠Y):eG n k X n' k' Y=false:=by
 unfold eG;rcases h with h | h | h;·rw [oS h];simp
 ·rw [oS h];simp
 ·rw [beq_eq_false_iff_ne.2 h];simp
theorem Z3b (n k:Nat) (X:og) (n' k':Nat) (Y:og) (u v:Value) (w:World) (h:dO w u n k X) (h':dO w v n' k' Y) :
  oX 17 #[u,v] w (.bool (eG n k X n' k' Y)):=by
 obtain ⟨r,rfl,hr⟩:=h;obtain ⟨r',rfl,vn⟩:=h';obtain ⟨a,c,rfl,h1,h2,-,hc⟩:=bc.open (eO.of_nums hr);obtain ⟨a',c',rfl,yy,zp,-,qp⟩:=bc.open (eO.of_nums vn);unfold maxLen at h2 zp;obtain ⟨w1,pE⟩:=oZ (w.alloc (.cells #[.int .i64 n,.int .i64 k,.slice a X.length c] 31));obtain ⟨w2,qU⟩:=oZ (w1.alloc (.cells #[.int .i64 n',.int .i64 k',.slice a' Y.length c'] 31));have hb1:w1.heap[w.heap.size]?=some (.cells #[.int .i64 n,.int .i64 k,.slice a X.length c] 31 (0,0)):=by rw [<- pE];exact fC w _ _
 have hb2:w2.heap[w1.heap.size]?=some (.cells #[.int .i64 n',.int .i64 k',.slice a' Y.length c'] 31 (0,0)):=by rw [<- qU];exact fC w1 _ _
 have hE1:aA w w1:=by rw [<- pE];exact aA.alloc _ _
 have hE2:aA w1 w2:=by rw [<- qU];exact aA.alloc _ _
 have HX:Hid (aA w w2):=hE1.trans hE2;have k1:=aO (aJ hb1 hE2);have k2:=aO hb2;have HC:=oA hc;have HC':=oA qp;clear hr vn hb1 hb2 hE1 hE2 hc qp;by_cases c1:n=n'
 ·subst c1;by_cases c2:k=k'
  ·subst c2;by_cases c3:X.length=Y.length
   ·have q3:((X.length:Int) != (Y.length:Int))=false:=(by simp [c3]);obtain ⟨m,hm⟩:=oZ Y.length;have hm1:X.length=m:=(by omega);have HM:=oA hm;have HM1:=oA hm1;rw [hm1,hm] at q3;rw [hm1] at k1 h1 pE;rw [hm] at k2 yy qU;rw [hm1,hm];have d0:=k1 2;have d1:=k2 2;simp only [oR,oP,oQ] at d0 d1;have D:=oA (And.intro d0 d1);clear c3 hm hm1 d0 d1
    go_enter func17,ntmps17
    go_wp2_with fail
    go_loopw [5] (fun t wr=>∃ j:Nat,j<=m/\t=.int .i64 j/\aA w2 wr/\Hid (X.take j=Y.take j)) (fun t _=>m+1-(intOf t).toNat)
    case atStart=>exact ⟨0,by omega,rfl,aA.refl _,rfl⟩
    case round =>
     obtain ⟨j,hj,rfl,hE,HT⟩:=hrel;clear k1 k2 pE qU;have d0:=hE.cell D.out.1;have d1:=hE.cell D.out.2;by_cases hlt:j<m
     ·obtain ⟨x,hx⟩:∃ x,X[j]?=some x:=⟨_,oB (by have:=HM1.out;omega)⟩;obtain ⟨y,hy⟩:∃ y,Y[j]?=some y:=⟨_,oB (by have:=HM.out;omega)⟩;obtain ⟨b,off,rfl,hb,hcell⟩:=HC (by intro e;rw [e] at hx;simp at hx);obtain ⟨b',off',rfl,qY,rp⟩:=HC' (by intro e;rw [e] at hy;simp at hy);obtain ⟨z1,e1,g1⟩:=hcell j x hx;obtain ⟨z2,e2,g2⟩:=rp j y hy;obtain rfl:z1=.string (aB x):=e1;obtain rfl:z2=.string (aB y):=e2;have g1:=(HX.trans hE).cell g1;have g2:=(HX.trans hE).cell g2;have q1:(j:Int)<(m:Int):=(by omega);have HXX:=oA hx;have HYY:=oA hy;have hs:=x1_ x y;clear hcell rp hx hy;by_cases hxy:x=y
      ·rw [oT hxy] at hs;have sE:((aB x).toList != (aB y).toList)=false:=(by unfold bne;rw [hs];rfl);have Gc:Hid (X.take (j+1)=Y.take (j+1)):=by
        unfold Hid;rw [oH,oH,HXX.out,HYY.out,HT.out,hxy]
       clear hxy;go_wp2_with fail
       go_quiet (fail)
       go_wp2_with fail;go_roundw
       case rel=>exact ⟨j+1,by omega,by go_num,aA.draws hE _,Gc⟩
       case measure=>simp [intOf];omega
      ·rw [oS hxy] at hs;have sE:((aB x).toList != (aB y).toList)=true:=by unfold bne;rw [hs];rfl
       have HF:Hid (eG n k X n k Y=false):=T4_ (.inr (.inr (by
        intro e;have e1:=HXX.out;have e2:=HYY.out;rw [e,e2] at e1
        exact hxy (by simpa using e1.symm))))
       clear hxy;go_wp2_with fail
       go_quiet (fail)
       go_wp2_with fail;go_ret;exact ⟨by rw [HF.out];rfl,aA.draws (HX.trans hE) _⟩
     ·obtain rfl:j=m:=(by omega);have HF:Hid (eG n k X n k Y=true):=by
       have h9:=HT.out;rw [List.take_of_length_le (by have:=HM1.out;omega),List.take_of_length_le (by have:=HM.out;omega)] at h9;unfold Hid eG;rw [h9];simp
      go_wp2_with fail;go_ret;exact ⟨by rw [HF.out];rfl,HX.trans hE⟩
   ·have q3:((X.length:Int) != (Y.length:Int))=true:=(by simp;omega);have HD:Hid (eG n k X n k Y=false):=T4_ (.inr (.inr fun e=>c3 (by rw [e])))
    go_enter func17,ntmps17
    go_wp2_with fail;go_ret;exact ⟨by rw [HD.out];rfl,HX⟩
  ·have HD:Hid (eG n k X n k' Y=false):=T4_ (.inr (.inl c2));have q2:((k:Int) != (k':Int))=true:=by simp;omega
   go_enter func17,ntmps17
   go_wp2_with fail;go_ret;exact ⟨by rw [HD.out];rfl,HX⟩
 ·have HD:Hid (eG n k X n' k' Y=false):=T4_ (.inl c1);have q1:((n:Int) != (n':Int))=true:=by simp;omega
  go_enter func17,ntmps17
  go_wp2_with fail;go_ret;exact ⟨by rw [HD.out];rfl,HX⟩
theorem O1_ (x:Int) (o:Bool) (w:World) (hx:(aB x).size<=10000000000) :
  oX 62 #[.string (aB x),.bool o] w (.string (aB (dc x o))):=by
 have HN:=oA (j8 x w hx);cases o
 ·have HD:Hid (dc x false=x):=rfl
  go_enter func62,ntmps62
  go_wp2_with fail;go_ret;exact ⟨by rw [HD.out];rfl,aA.refl _⟩
 ·have HD:Hid (dc x true=-x):=rfl
  go_enter func62,ntmps62
  go_wp2_with fail;refine o_ HN ?_;intro w3 HE3;clear HN;go_wp2_with fail;go_ret;exact ⟨by rw [HD.out];rfl,HE3⟩
def fT (l:List UInt8):Bool:=l.all bz && (decide (l.length=1) || (decide (1<l.length) && decide (l.head?≠some 48)))
theorem Q5_ (c:UInt8):bz c=true↔48<=(c.toNat:Int)/\(c.toNat:Int)<=57:=by
 unfold bz;rw [decide_eq_true_eq];omega
theorem z3_ (m:ByteArray) (w:World) (hm:m.size<=100000) :
  oX 195 #[.string m] w (.bool (fT m.data.toList)):=by
 obtain ⟨cap,W1,hcv,hE1,hcell⟩:=e0_ m w;have HE1:=oA hE1;have HC:=oA hcell;clear hE1 hcell
 go_enter func195,ntmps195
 go_wp2_with fail;clear hcv
 go_loopw [8] (fun t wr=>∃ j:Nat,j<=m.size/\t=.int .i64 j/\aA w wr/\aA W1 wr/\Hid ((m.data.toList.take j).all bz=true)) (fun t _=>m.size+1-(intOf t).toNat)
 case atStart=>exact ⟨0,by omega,rfl,HE1,aA.refl _,rfl⟩
 case round =>
  obtain ⟨j,hj,rfl,hE,tR,HA⟩:=hrel;have HE:=oA hE;have HE':=oA tR;by_cases hlt:j<m.size
  ·obtain ⟨c,hc⟩:∃ c,m.data.toList[j]?=some c:=⟨_,kU m j hlt⟩;have g1:=tR.cell (HC j c hc);have NF:(c.toNat:Int)<=255:=(by have:=c.toNat_lt;omega);have zt:Hid ((m.data.toList.take (j+1)).all bz=(bz c)):=by
    unfold Hid;rw [oH,hc,List.all_append,HA.out];simp
   have yH:Hid (bz c=false->fT m.data.toList=false):=by
    intro h;have:m.data.toList.all bz=false:=by
     rw [List.all_eq_false];exact ⟨c,oE hc,by simp [h]⟩
    unfold fT;rw [this];rfl
   clear hc hE tR;by_cases h1:(c.toNat:Int)<48
   ·have HF:Hid (fT m.data.toList=false):=yH (by rw [<- Bool.not_eq_true,Q5_];omega);go_wp2_with fail;go_ret;exact ⟨by rw [HF.out];rfl,HE⟩
   ·by_cases h2:57<(c.toNat:Int)
    ·have HF:Hid (fT m.data.toList=false):=yH (by rw [<- Bool.not_eq_true,Q5_];omega);go_wp2_with fail;go_ret;exact ⟨by rw [HF.out];rfl,HE⟩
    ·have HD:Hid ((m.data.toList.take (j+1)).all bz=true):=by
      unfold Hid;rw [zt.out,Q5_];omega
     go_wp2_with fail;go_roundw
     case rel=>exact ⟨j+1,by omega,by go_num,HE,HE',HD⟩
     case measure=>simp [intOf];omega
  ·obtain rfl:j=m.size:=(by omega);have HL:Hid (m.data.toList.length=m.size):=(Lib.size_eq m).symm;have yH:Hid (m.data.toList.all bz=true):=by
    unfold Hid;have:=HA.out
    rwa [List.take_of_length_le (by rw [<- Lib.size_eq];omega)] at this
   by_cases h0:m.size=1
   ·have HV:Hid (fT m.data.toList=true):=(by unfold Hid fT;rw [yH.out,HL.out,oT h0];rfl);have q0:((m.size:Int) == 1)=true:=beq_iff_eq.2 (by omega);go_wp2_with fail;go_ret;exact ⟨by rw [HV.out];rfl,HE⟩
   ·have q0:((m.size:Int) == 1)=false:=beq_eq_false_iff_ne.2 (by omega);by_cases h1:1<m.size
    ·have q1:1<(m.size:Int):=(by omega);have hb:=kU m 0 (by omega);have HV:Hid (fT m.data.toList=((m[0].toNat:Int) != 48)):=by
      unfold Hid fT;have e1:m.data.toList.head?=some m[0]:=(by rw [List.head?_eq_getElem?];exact hb);rw [yH.out,HL.out,oS h0,oT h1,e1,Bool.true_and,Bool.true_and,Bool.false_or,Bool.eq_iff_iff];simp only [bne_iff_ne,ne_eq,Option.some.injEq,decide_eq_true_eq];rw [<- UInt8.toNat_inj];show ¬ (m[0].toNat=48)↔_;omega
     clear hb;go_wp2_with fail;go_ret;exact ⟨by rw [HV.out];rfl,HE⟩
    ·have q1:¬ 1<(m.size:Int):=(by omega);have HV:Hid (fT m.data.toList=false):=(by unfold Hid fT;rw [HL.out,oS h0,oS h1];simp);go_wp2_with fail;go_ret;exact ⟨by rw [HV.out];rfl,HE⟩
def m_ (l:List UInt8):Int:=if fT l=true/\l.length<=400 then 0 else 2
theorem s6_ (m:ByteArray) (w:World) (hm:m.size<=100000) :
  oX 148 #[.string m] w (.int .i64 (m_ m.data.toList)):=by
 have HC:=oA (z3_ m w hm);have HL:Hid (m.data.toList.length=m.size):=(Lib.size_eq m).symm;by_cases h:fT m.data.toList=true
 ·rw [h] at HC;by_cases h4:400<m.size
  ·have HV:Hid (m_ m.data.toList=2):=if_neg (by rw [HL.out];omega);have q1:400<(m.size:Int):=by omega
   go_enter func148,ntmps148
   go_wp2_with fail;refine o_ HC ?_;intro w2 HE2;clear HC;go_wp2_with fail;go_ret;exact ⟨by rw [HV.out];rfl,HE2⟩
  ·have HV:Hid (m_ m.data.toList=0):=if_pos ⟨h,by rw [HL.out];omega⟩;have q1:¬ 400<(m.size:Int):=by omega
   go_enter func148,ntmps148
   go_wp2_with fail;refine o_ HC ?_;intro w2 HE2;clear HC;go_wp2_with fail;go_ret;exact ⟨by rw [HV.out];rfl,HE2⟩
 ·have hf:fT m.data.toList=false:=by simpa using h
  rw [hf] at HC;have HV:Hid (m_ m.data.toList=2):=if_neg (fun e=>h e.1)
  go_enter func148,ntmps148
  go_wp2_with fail;refine o_ HC ?_;intro w2 HE2;clear HC;go_wp2_with fail;go_ret;exact ⟨by rw [HV.out];rfl,HE2⟩
theorem Z0i (n:Nat):fT (aE n).data.toList=true:=by
 obtain ⟨h1,-,h3,h4⟩:=mz (n+1) n (by omega);have e:(aE n).data.toList=Lib.decDigits n:=by rw [<- Lib.toList_data,jA]
 unfold fT;rw [e,h1,Bool.true_and];by_cases h0:n=0
 ·subst h0;have:Lib.decDigits 0=[48]:=by rw [Lib.decDigits_one (by omega)];rfl
  rw [this];rfl
 ·have h5:(Lib.decDigits n).head?≠some 48:=fun h=>h0 (h4 h);have h6:=List.length_pos_iff.2 h3;rw [oT h5,Bool.and_true];by_cases h7:(Lib.decDigits n).length=1;·rw [oT h7];rfl
  ·rw [oT (show 1<(Lib.decDigits n).length by omega),Bool.or_true]
theorem F6_ (x:Int) (w:World) (hx:(aE x.natAbs).size<=400) :
  oX 96 #[.string (aB x)] w (.int .i64 0):=by
 have HS:=oA (kI x w);have HC:Hid (∀ W,oX 148 #[.string (aE x.natAbs)] W (.int .i64 0)):=fun W=>by
  have h:=s6_ (aE x.natAbs) W (by omega);have hv:m_ (aE x.natAbs).data.toList=0:=if_pos ⟨Z0i _,by rw [<- Lib.size_eq];exact hx⟩;rw [hv] at h;exact h
 by_cases hn:x<0
 ·have hz:((aE x.natAbs).toList == [48])=false:=by
   rw [jA,show ([48]:List UInt8)=Lib.decDigits 0 by rw [Lib.decDigits_one (by omega)];rfl,T2_];exact oS (by omega)
  rw [oT hn] at HS;obtain ⟨d,hd⟩:=oZ (aE x.natAbs);rw [hd] at HS HC hz
  go_enter func96,ntmps96
  go_wp2_with fail;refine o_ HS ?_;intro w2 HE2;clear HS;go_wp2_with fail;refine (HC w2).mono ?_;rintro e w3 ⟨rfl,oz⟩;have HE3:Hid (aA w w3):=HE2.trans oz;clear oz HC;go_wp2_with fail;go_ret;exact ⟨rfl,HE3⟩
 ·rw [oS hn] at HS;obtain ⟨d,hd⟩:=oZ (aE x.natAbs);rw [hd] at HS HC
  go_enter func96,ntmps96
  go_wp2_with fail;refine o_ HS ?_;intro w2 HE2;clear HS;go_wp2_with fail;refine (HC w2).mono ?_;rintro e w3 ⟨rfl,oz⟩;have HE3:Hid (aA w w3):=HE2.trans oz;clear oz HC;go_wp2_with fail;go_ret;exact ⟨rfl,HE3⟩
theorem Z0m (n k:Nat) (X:og) (u:Value) (w:World) (h:dO w u n k X) (hn:n<=12) (hk:k<=n) (hl:X.length=(aS n k).length) (hd:∀ x∈X,(aE x.natAbs).size<=400) :
  oX 47 #[u] w (.int .i64 0):=by
 obtain ⟨r,rfl,hr⟩:=h;obtain ⟨a,c,rfl,h1,h2,-,hc⟩:=bc.open (eO.of_nums hr);unfold maxLen at h2;obtain ⟨w1,pE⟩:=oZ (w.alloc (.cells #[.int .i64 n,.int .i64 k,.slice a X.length c] 31));have hb1:w1.heap[w.heap.size]?=some (.cells #[.int .i64 n,.int .i64 k,.slice a X.length c] 31 (0,0)):=by rw [<- pE];exact fC w _ _
 have hE1:aA w w1:=by rw [<- pE];exact aA.alloc _ _
 have hG:=G9_ n k w1;rw [Z2c hn hk] at hG;have HG:=oA hG;have HW:Hid (∀ x∈X,∀ W,oX 96 #[.string (aB x)] W (.int .i64 0)):=fun x hx W=>F6_ x W (hd x hx);have HC:=oA hc;have k1:=aO hb1;have HB:=oA hb1;have HE1:=oA hE1;obtain ⟨m,hm⟩:=oZ ((aS n k).length);rw [hm] at hl;have HL:=oA hl;have HM:=oA hm;have HA:Hid (∀ W,Calls prog 60 #[.int .i64 n,.int .i64 k] W fun e w'=>∃ a6 c6,e=.returned (.slice a6 m c6)/\aA W w'):=fun W=>(ml n k hn hk W).mono fun e w' ⟨v,h1,h2,h3⟩=>by
  obtain ⟨a6,c6,rfl,-⟩:=h3.open;rw [hm] at h1;exact ⟨a6,c6,h1,h2⟩
 rw [hl] at k1 h1 HB pE |-;clear hb1 hE1 hr hc hG hd hl hm
 go_enter func47,ntmps47
 go_wp2_with fail;refine HG.mono ?_;rintro e w2 ⟨rfl,hE2⟩;have hb2:=aJ HB hE2;have d0:=aO hb2 0;have d1:=aO hb2 1;have d2:=aO hb2 2;simp only [oR,oP,oQ] at d0 d1 d2;have HE2:Hid (aA w w2):=HE1.trans hE2;clear hE2 HG k1 pE hb2;go_wp2_with fail;have z1:w2.drew.cell? ⟨w.heap.size,0,none⟩=some (.int .i64 n):=d0;have z2:w2.drew.cell? ⟨w.heap.size,1,none⟩=some (.int .i64 k):=d1;have z3:w2.drew.cell? ⟨w.heap.size,2,none⟩=some (.slice a m c):=d2;have z4:Hid (aA w w2.drew):=HE2.trans (aA.drew _);clear d0 d1 d2
 go_region_held3 (fun w'=>w'.cell? ⟨w.heap.size,0,none⟩=some (.int .i64 n)/\w'.cell? ⟨w.heap.size,1,none⟩=some (.int .i64 k)/\w'.cell? ⟨w.heap.size,2,none⟩=some (.slice a m c)/\Hid (aA w w'))
  (first | exact ⟨z1,z2,z3,z4⟩ | go_keep)
  (first
   | (go_at_call 60;with_reducible refine (HA.out _).mono ?_;rintro e w6 ⟨a6,c6,rfl,ou⟩;have q1:=ou.cell (a:=⟨w.heap.size,0,none⟩) (v:=.int .i64 n) (by assumption);have q2:=ou.cell (a:=⟨w.heap.size,1,none⟩) (v:=.int .i64 k) (by assumption);have q3:=ou.cell (a:=⟨w.heap.size,2,none⟩) (v:=.slice a m c) (by assumption);have q4:=oA (aA.trans (Hid.out (p:=aA w _) (by assumption)) ou);(try clear z1 z2 z3 z4);have z1:=q1;have z2:=q2;have z3:=q3;have z4:=q4;clear ou q1 q2 q3 q4))
 all_goals
  go_wp2_with fail;have Z3:=oA z3;clear z1 z2 z3
  go_loopw [28] (fun t wr=>∃ j:Nat,j<=m/\t=.int .i64 j/\Hid (aA w wr)/\Hid (wr.cell? ⟨w.heap.size,2,none⟩=some (.slice a m c))) (fun t _=>m+1-(intOf t).toNat)
  case atStart=>exact ⟨0,by omega,rfl,z4.out,Z3.out⟩
  case round =>
   obtain ⟨j,hj,rfl,HX,HD⟩:=hrel;by_cases hlt:j<m
   ·obtain ⟨x,hx⟩:∃ x,X[j]?=some x:=⟨_,oB (by have:=HL.out;omega)⟩;obtain ⟨b,off,rfl,hb,hcell⟩:=HC (by intro e;rw [e] at hx;simp at hx);obtain ⟨z9,e1,g1⟩:=hcell j x hx;obtain rfl:z9=.string (aB x):=e1;have g1:=HX.cell g1;have q1:(j:Int)<(m:Int):=(by omega);have HK:=oA (HW x (oE hx));clear hcell hx hb;go_wp2_with fail;refine (HK _).mono ?_;rintro e w7 ⟨rfl,h7⟩;have HX7:Hid (aA w w7):=HX.trans h7;have HD7:=oA (h7.cell HD);clear h7 HK;go_wp2_with fail;go_roundw
    case rel=>exact ⟨j+1,by omega,by go_num,HX7,HD7⟩
    case measure=>simp [intOf];omega
   ·obtain rfl:j=m:=(by omega);go_wp2_with fail;go_ret;exact ⟨rfl,HX⟩
theorem s2_ (X:og) {B:Nat} (hB:∀ x∈X,x.natAbs<=B):∀ i,i<=X.length->dW X i<=B
 | 0,_=>by simp [dW]
 | i+1,h=>by
  obtain ⟨x,hx⟩:∃ x,X[i]?=some x:=⟨_,oB (by omega)⟩;rw [kX hx];have h1:=s2_ X hB i (by omega);have h2:=hB x (oE hx);by_cases h0:dW X i=0;·rw [h0,Nat.gcd_zero_left];exact h2
  ·exact oJ (Nat.gcd_le_left _ (by omega)) h1
theorem k1_ (X:og) (v:Value) (w:World) (h:aH 1 numC w v X) (HG:Hid (∀ i x,X[i]?=some x->∀ W,aA w W->oX 134 #[.string (aB (dW X i:Int)),.string (aB x)] W (.string (aB (dW X (i+1):Int))))) :
  oX 76 #[v] w (.string (aB (bW X:Int))):=by
 obtain ⟨a,c,rfl,h1,h2,-,hc⟩:=bc.open (eO.of_nums h);unfold maxLen at h2;have HC:=oA hc;clear h hc;obtain ⟨m,hm⟩:=oZ X.length;have HM:=oA hm;have HL:Hid (bW X=dW X m):=by unfold Hid bW;rw [hm]
 have HZ:Hid (aB (dW X 0:Int)=⟨#[48]⟩):=by
  unfold Hid;show aB 0=_;decide +kernel
 rw [hm] at h1 |-;clear hm
 go_enter func76,ntmps76
 go_wp2_with fail
 go_loopw [3,8] (fun o t wr=>∃ j:Nat,j<=m/\t=.int .i64 j/\o=.string (aB (dW X j:Int))/\Hid (aA w wr)) (fun _ t _=>m+1-(intOf t).toNat)
 case atStart=>exact ⟨0,by omega,rfl,by rw [HZ.out],aA.refl _⟩
 case round =>
  obtain ⟨j,hj,rfl,rfl,HX⟩:=hrel;by_cases hlt:j<m
  ·obtain ⟨x,hx⟩:∃ x,X[j]?=some x:=⟨_,oB (by have:=HM.out;omega)⟩;obtain ⟨b,off,rfl,hb,hcell⟩:=HC (by intro e;rw [e] at hx;simp at hx);obtain ⟨z9,e1,g1⟩:=hcell j x hx;obtain rfl:z9=.string (aB x):=e1;have g1:=HX.cell g1;have q1:(j:Int)<(m:Int):=(by omega);have HK:=oA (HG j x hx wr HX);obtain ⟨s0,hs0⟩:=oZ (aB (dW X j:Int));obtain ⟨s1,hs1⟩:=oZ (aB (dW X (j+1):Int));have HS1:=oA hs1;rw [hs0,hs1] at HK;rw [hs0];clear hcell hx hb hs0 hs1;go_wp2_with fail;refine HK.mono ?_;rintro e w7 ⟨rfl,h7⟩;have HX7:Hid (aA w w7):=HX.trans h7;clear h7 HK;go_wp2_with fail;go_roundw
   case rel=>exact ⟨j+1,by omega,by go_num,by rw [HS1.out],HX7⟩
   case measure=>simp [intOf];omega
  ·obtain rfl:j=m:=(by omega);go_wp2_with fail;go_ret;exact ⟨by rw [HL.out];rfl,HX⟩
theorem s3_ {X:og} {B:Nat} (h0:0<B) (hB:∀ x∈X,x.natAbs<B) {i:Nat} (hi:i<=X.length):dW X i<B:=by
 have:=s2_ X (B:=B-1) (fun x hx=>by have:=hB x hx;omega) i hi;omega
def lQ (X:og):Prop:=∀ x∈X,x.natAbs<10^400
theorem jS {x:Int} (h:x.natAbs<10^400):(aE x.natAbs).size<=400/\(aB x).size<=401:=by
 have h1:=jB x.natAbs 400 h (by decide);have h2:=er x;exact ⟨h1,by omega⟩
theorem W0_ (X:og) (v:Value) (w:World) (h:aH 1 numC w v X) (hd:lQ X) (ht:ae w) :
  oX 76 #[v] w (.string (aB (bW X:Int))):=by
 refine k1_ X v w h fun i x hx W hW=>?_;have h2:((dW X i:Nat):Int).natAbs<10^400:=by
  rw [Int.natAbs_natCast];exact s3_ (Nat.pow_pos (by decide)) hd (Nat.le_of_lt (oC.1 hx).1)
 have h3:=d1_ (dW X i:Int) x W (by have:=(jS h2).2;omega) (by have:=(jS (hd x (oE hx))).2;omega) (ht.ext hW);rw [Int.natAbs_natCast,<- kX hx,<- eb] at h3;exact h3
theorem e5_ {X:og} (hd:lQ X):bW X<10^400:=s3_ (Nat.pow_pos (by decide)) hd (oK _)
structure fS (n k:Nat) (X:og):Prop where
 n12:n<=12
 kn:k<=n
 len:X.length=(aS n k).length
 dig:lQ X
theorem lh {n k:Nat} {X:og} (hR:fS n k X) (u:Value) (w:World) (h:dO w u n k X) :
  oX 47 #[u] w (.int .i64 0) :=
 Z0m n k X u w h hR.n12 hR.kn hR.len fun x hx=>(jS (hR.dig x hx)).1
theorem s4_ {n k:Nat} {X:og} (hR:fS n k X) (u:Value) (w:World) (h:dO w u n k X) (ht:ae w) :
  oX 30 #[u] w (.tuple #[.string (aB (bW X:Int)),.int .i64 0]):=by
 have HK:Hid (∀ W,aA w W->oX 47 #[u] W (.int .i64 0)):=fun W hW=>lh hR u W (h.ext hW);obtain ⟨r,rfl,hr⟩:=h;have HN:Hid (∀ W,aA w W->oX 76 #[r] W (.string (aB (bW X:Int)))):=fun W hW=>W0_ X r W (aH.ext numC.mono' hr hW) hR.dig (ht.ext hW);obtain ⟨a,c,rfl,-⟩:=aH.open hr;obtain ⟨w1,pE⟩:=oZ (w.alloc (.cells #[.int .i64 n,.int .i64 k,.slice a X.length c] 31));have hb1:w1.heap[w.heap.size]?=some (.cells #[.int .i64 n,.int .i64 k,.slice a X.length c] 31 (0,0)):=by rw [<- pE];exact fC w _ _
 have HE1:Hid (aA w w1):=by rw [<- pE];exact aA.alloc _ _
 have k1:=aO hb1;have HB:=oA hb1;clear hb1 hr hR ht
 go_enter func30,ntmps30
 go_wp2_with fail;refine (HK w1 HE1).mono ?_;rintro e w2 ⟨rfl,h2⟩;have HE2:Hid (aA w w2):=HE1.trans h2;have k2:=aO (aJ HB h2);clear h2 HK k1 pE;go_wp2_with fail;refine (HN w2 HE2).mono ?_;rintro e w3 ⟨rfl,h3⟩;have HE3:Hid (aA w w3):=HE2.trans h3;clear h3 HN;go_wp2_with fail;go_ret2;exact ⟨rfl,HE3⟩
theorem l_ (x:Int):((aB x).toList == [48])=decide (x=0):=by
 have h:=x1_ x 0;have e:(aB 0).toList=[48]:=by decide +kernel
 rw [e] at h;exact h
theorem m8_ {n k:Nat} {X:og} (hd:lQ X) (u:Value) (w:World) (h:dO w u n k X) (ht:ae w) :
  oX 79 #[u] w (.bool (decide (bW X=0))):=by
 obtain ⟨r,rfl,hr⟩:=h;have HN:Hid (∀ W,aA w W->oX 76 #[r] W (.string (aB (bW X:Int)))):=fun W hW=>W0_ X r W (aH.ext numC.mono' hr hW) hd (ht.ext hW);obtain ⟨a,c,rfl,-⟩:=aH.open hr;obtain ⟨w1,pE⟩:=oZ (w.alloc (.cells #[.int .i64 n,.int .i64 k,.slice a X.length c] 31));have hb1:w1.heap[w.heap.size]?=some (.cells #[.int .i64 n,.int .i64 k,.slice a X.length c] 31 (0,0)):=by rw [<- pE];exact fC w _ _
 have HE1:Hid (aA w w1):=by rw [<- pE];exact aA.alloc _ _
 have k1:=aO hb1;have hz:=l_ (bW X:Int);have HD:Hid (decide ((bW X:Int)=0)=decide (bW X=0)):=by unfold Hid;congr 1;exact propext ⟨fun h=>by omega,fun h=>by omega⟩
 obtain ⟨s,hs⟩:=oZ (aB (bW X:Int));rw [hs] at HN hz;clear hb1 hr hd ht hs
 go_enter func79,ntmps79
 go_wp2_with fail;refine (HN w1 HE1).mono ?_;rintro e w3 ⟨rfl,h3⟩;have HE3:Hid (aA w w3):=HE1.trans h3;clear h3 HN;go_wp2_with fail;go_ret;refine ⟨?_,HE3⟩;rw [<- HD.out]
 first | rfl | (rw [<- hz];rfl)
theorem Z0h (x:Int) (w:World) :
  oX 92 #[.string (aB x)] w (.bool (decide (x≠0))):=by
 have hz:=l_ x;by_cases h:x=0
 ·have HD:Hid (decide (x≠0)=false):=oS (by simp [h]);rw [oT h] at hz;have Bu:((aB x).toList != [48])=false:=by unfold bne;rw [hz];rfl
  clear h
  go_enter func92,ntmps92
  go_wp2_with fail;go_ret;exact ⟨by rw [HD.out];rfl,aA.refl _⟩
 ·have HD:Hid (decide (x≠0)=true):=oT h;rw [oS h] at hz;have Bu:((aB x).toList != [48])=true:=by unfold bne;rw [hz];rfl
  clear h
  go_enter func92,ntmps92
  go_wp2_with fail;go_ret;exact ⟨by rw [HD.out];rfl,aA.refl _⟩
theorem r7_:∀ us:List (List Value),(∀ u∈us,u.length=1)->us.flatten.length=us.length
 | [],_=>rfl
 | u::us,h=>by
  rw [List.flatten_cons,oV,h u List.mem_cons_self,r7_ us fun x hx=>h x (List.mem_cons_of_mem _ hx),List.length_cons];omega
theorem Z0n (xs:og) (v:Value) (w:World) (h:aH 1 numC w v xs) (hlen:xs.length<=1000) :
  Calls prog 90 #[v] w fun e w'=>∃ r,e=.returned r/\aA w w'/\aU w' w.heap.size 53 1 r numC xs:=by
 obtain ⟨us,u1,u2,u3,u4⟩:=h;obtain ⟨a,c,rfl,h1,h2,h3,hc⟩:=u3;obtain ⟨i0,hi,pJ,hz1,hz2⟩:=info_parts jx;have HI:=oA hi;have HZ0:=oA pJ;have HZ1:=oA hz1;have HZ2:=oA hz2;have HC:=oA hc;have HU1:=oA u1;have HU2:=oA u2;have HU4:=oA u4;have HFL:=oA (r7_ us u2);clear hi pJ hz1 hz2 hc u1 u2 u4;unfold maxLen at h2;cases a with
 | none =>
  have h0:xs=[]:=by have:=h3 rfl;exact List.eq_nil_of_length_eq_zero (by omega)
  subst h0;obtain rfl:c=0:=h3 rfl;clear h3 h1 h2 hlen;have heq:=fun w=>Lib.run_eql_slice_nil (P:=prog) w 29 53 none 0 0 0 0 underlying29
  go_enter func90,ntmps90
  go_wp2
  go_ret;exact ⟨_,rfl,aA.refl _,aU.nil _ _ _ _ _⟩
 | some ad =>
  clear h3;obtain ⟨n,hn⟩:=oc xs.length;rw [<- hn] at h1 hlen |-;have HN:=oA hn;have heq:=fun w=>Lib.run_eql_slice_nil (P:=prog) w 29 53 (some ad) n c 0 0 underlying29;have hown:(w.alloc (.cells #[] 53)).ownsRow w.heap.size 53 1 (.slice (some ⟨w.heap.size,0,none⟩) 0 0) 0 []:=World.ownsRow_made w #[] 0 (oK _) (Nat.zero_le _) rfl;have DV:Hid (∀ (j:Nat) (u:Value),us.flatten[j]?=some u->(w.alloc (.cells #[] 53)).cell? (ad.add j)=some u):=by
   intro j u hu;obtain ⟨b,off,pZ,rP,hcell⟩:=HC (by intro e;rw [e] at hu;simp at hu);cases pZ;rw [show (⟨b,off,none⟩:Addr).add j=⟨b,off+j,none⟩ by unfold Addr.add;split <;> simp_all];exact aA.cell (aA.alloc w _) (hcell j u hu)
  have vH:Hid (∀ u∈us.flatten,u.oneCell'=true):=by
   intro u hu;obtain ⟨l,hl,Bz⟩:=List.mem_flatten.1 hu;obtain ⟨j,hj⟩:=List.getElem?_of_mem hl;have hjl:=(oC.1 hj).1;have h5:l=[.string (aB (xs[j]'(by rw [<- HU1.out];exact hjl)))]:=HU4 j l (xs[j]'(by rw [<- HU1.out];exact hjl)) hj (oB _);rw [h5,List.mem_singleton] at Bz;rw [Bz];rfl
  have HOWN:=oA hown;clear hown hn
  go_enter func90,ntmps90
  go_wp2_with (at_builtin;refine wpList_append_own _ rfl _ _ 29 rfl w.heap.size 53 i0 (.string ⟨#[]⟩) 1 16 underlying29 HI HZ0 HZ1 HZ2 rfl (by decide) _ _ _ rfl HOWN ad n c us.flatten rfl ?d1 DV ?d2 ?d3 ?d4 ?d5 ?_)
  case d1=>rw [HFL.out,HU1.out,HN.out,Nat.mul_one]
  case d2=>exact vH
  case d3=>unfold maxLen;omega
  case d4=>omega
  case d5=>simp
  intro v' w1 qO oo _;have HO:=oA qO;have HE:Hid (aA w w1):=Below.grown (aA.alloc w _) oo (by simp) (by intro k hk;simp [Value.ownBlock] at hk;omega);clear qO oo
  go_wp2
  go_ret;refine ⟨v',rfl,HE,us,HU1,HU2,?_,fun j u x hu hx _ _=>HU4 j u x hu hx⟩;have:=HO.out;rw [HN.out] at this;simpa using this
theorem O5_ {ops:Array Oper} {rest:List Oper} {o:Oper} {a:Act} {Q:Exit->Act->World->Prop} (pq:o.guard=none) (w:World) (s x:Operand) (T2:TypeId) (AD:prog.underlying T2=some (TypeDesc.slice 3)) (ho:o.op=Op.call { callee:=Callee.builtin Builtin.append,args:=#[s,x],argTypes:=#[T2,T2] }) (B:Nat)
  (v:Value) (l:og) (y:Int) (u:Array Value) (T:TypeId) (hs:a.eval s=v) (hB:fg B w v l) (hx:a.eval x=.slice (some ⟨w.heap.size,0,none⟩) 1 1) (hu:u=#[.int .i64 y]) (hlen:l.length<1000000) (o6:B<=w.heap.size)
  (h:∀ v' w',fg B w' v' (l++[y])->Below B w w'->wpList prog ops Q rest (a.put o.dst v') w'):wpList prog ops Q (o::rest) a (w.alloc (.cells u T)) :=
 wpList_plain pq fun _ hk=>R7_ w s x T2 AD ho B v l y u T hs hB hx hu hlen o6 fun v' w' a1 a2=>hk _ _ (h v' w' a1 a2)
def lN (w : World) : Prop := Lib.TabIs prog w "math/bits.deBruijn64tab" .u8 (Lib.deBruijn64tab.map fun x : Nat => (x : Int))
theorem lN.ext {w w':World} (h:lN w) (he:aA w w'):lN w':=by
 unfold lN Lib.TabIs at h |-;cases hg : prog.globalNamed "math/bits.deBruijn64tab" with
 | none=>simp [World.var?,hg] at h
 | some g =>
  refine var?_below he hg ?_ h;by_cases hlt:g<w.heap.size;·exact hlt
  ·simp [World.var?,hg,Array.getElem?_eq_none (show w.heap.size<=g by omega)] at h
theorem lN.at {w:World} (h:lN w):TabAt 1 Lib.deBruijn64tab w:=by
 intro j hj;have hg : prog.globalNamed "math/bits.deBruijn64tab" = some 1 := by kernel_rfl
 have:=World.var?_cell hg h j;rw [this];simp [oF,oB hj,oD]
theorem Z5l:∀ s,s<4096->s≠0->Lib.ctz 64 s=iS s:=by
 have h:∀ a,a<64->∀ b,b<64->64*a+b≠0->Lib.ctz 64 (64*a+b)=iS (64*a+b):=by decide +kernel
 intro s hs h0;have:=h (s / 64) (by omega) (s%64) (by omega) (by omega)
 rwa [Nat.div_add_mod] at this
theorem Z2H {s:Nat}:∀ x∈az s,x<12:=fun x hx=>List.mem_range.1 (List.mem_filter.1 hx).1
theorem p0_ (s:Nat):(az s).length<=12:=oJ (List.length_filter_le _ _) (by simp)
theorem Z0O:az 0=[]:=by decide +kernel
def Z7l (x:Int):Int:=IntKind.u64.wrap (bits BinOp.and IntKind.u64 (x / 2) 6148914691236517205+bits BinOp.and IntKind.u64 x 6148914691236517205)
def Z7m (a:Int):Int:=IntKind.u64.wrap (bits BinOp.and IntKind.u64 (a / 4) 3689348814741910323+bits BinOp.and IntKind.u64 a 3689348814741910323)
def Z7n (b:Int):Int:=bits BinOp.and IntKind.u64 (IntKind.u64.wrap (b / 16+b)) 1085102592571150095
def Z6X (k c:Int):Int:=IntKind.u64.wrap (c+c / k)
def Z6Y (x:Int):Int:=bits BinOp.and IntKind.i64 (wrap64 (Z6X 4294967296 (Z6X 65536 (Z6X 256 (Z7n (Z7m (Z7l x))))))) 127
theorem Z5W:∀ s:Nat,s<4096->Z6Y (s:Int)=((az s).length:Int):=by
 have h:∀ a:Nat,a<64->∀ b:Nat,b<64->Z6Y ((64*a+b:Nat):Int)=((az (64*a+b)).length:Int):=by decide +kernel
 intro s hs;have:=h (s / 64) (by omega) (s%64) (by omega)
 rwa [Nat.div_add_mod] at this
theorem Z0W (x:Nat) (hx:x<4096) (w:World) :
  Calls prog 177 #[.int .u64 x] w fun e w'=>e=.returned (.int .i64 ((az x).length:Int))/\w'=w:=by
 have h1:IntKind.u64.wrap (x:Int)=(x:Int):=by rw [IntKind.wrap_u64];omega
 go_enter func177,ntmps177
 go_wp2_with fail;go_ret;refine ⟨?_,rfl⟩;show Ending.returned (.int .i64 (Z6Y (x:Int)))=_;rw [Z5W x hx]
theorem Z4o (x:Nat) (hx:x<4096) (w:World) :
  Calls prog 125 #[.int .u64 x] w fun e w'=>e=.returned (.int .i64 ((az x).length:Int))/\w'=w:=by
 have HC:=oA (Z0W x hx w);have h1:IntKind.u64.wrap (x:Int)=(x:Int):=by rw [IntKind.wrap_u64];omega
 go_enter func125,ntmps125
 go_wp2_with fail;refine HC.mono ?_;rintro e w2 ⟨rfl,qU⟩;obtain rfl:=qU.symm;clear HC;go_wp2_with fail;go_ret;exact ⟨rfl,rfl⟩
theorem Z1A (t i:Nat):(az (t &&& (2^i-1))).length=iq t i:=by
 unfold iq az;rw [List.filter_filter];congr 1;refine List.filter_congr fun j _=>?_;rw [Nat.testBit_and,Nat.testBit_two_pow_sub_one,Bool.and_comm]
theorem t0_ (t i:Nat):iq t i<=12:=oJ (List.length_filter_le _ _) (p0_ t)
theorem n5_ (t:Nat):∀ l:List Nat,(l.map (iq t)).sum<=12*l.length
 | []=>by simp
 | x::l=>by
  have:=t0_ t x;have:=n5_ t l;simp only [List.map_cons,List.sum_cons,List.length_cons];omega
theorem Z5I {x:Nat} (hx:x<4096) (h0:x≠0):iS x<12:=by
 have:=C8_ x hx h0;exact Z2H (s:=x) (iS x) (by rw [this];exact List.mem_cons_self)
theorem Z5J {x:Nat} (hx:x<4096) (h0:x≠0):x &&& (18446744073709551616-x)=2^iS x:=by
 obtain ⟨vq,hk⟩:=Lib.lowest_bit 64 x h0 (by omega);rw [Z5l x hx h0] at vq;exact vq
theorem Z5N (s t:Nat) (hs:s<4096) (ht:t<4096) (w:World) :
  Calls prog 65 #[.int .u64 s,.int .u64 t] w fun e w'=>e=.returned (.bool (dz s t))/\w'=w:=by
 have HS:=oA hs;have HT:=oA ht
 go_enter func65,ntmps65
 go_wp2_with fail
 go_loopw [5,6] (fun c v wr=>∃ (x n:Nat) (l:List Nat),v=.int .u64 x/\c=.int .i64 n/\Hid (x<4096/\l++az x=az s/\n=(l.map (iq t)).sum)/\wr=w) (fun _ v _=>(intOf v).toNat)
 case atStart=>exact ⟨s,0,[],rfl,rfl,⟨HS,rfl,rfl⟩,rfl⟩
 case round =>
  obtain ⟨x,n,l,rfl,rfl,HX,Bx⟩:=hrel;subst Bx;have hn:n<=144:=by
   obtain ⟨-,h2,h3⟩:=HX.out;have h4:=n5_ t l;have h5:=congrArg List.length h2;rw [oV] at h5;have:=p0_ s;omega
  by_cases h0:x=0
  ·subst h0;have HF:Hid (dz s t=decide (n%2=1)):=by
    obtain ⟨-,h2,h3⟩:=HX.out;rw [Z0O,List.append_nil] at h2;unfold Hid dz;rw [h3,h2]
   go_wp2_with fail;go_ret;refine ⟨?_,rfl⟩;rw [HF.out];have hb:((n:Int)%2 == 1)=decide (n%2=1):=by
    by_cases h:n%2=1;·rw [oT h];exact beq_iff_eq.2 (by omega)
    ·rw [oS h];exact beq_eq_false_iff_ne.2 (by omega)
   rw [<- hb];rfl
  ·have hx:=HX.1;have hm:=C8_ x hx h0;have hlt:=l0_ x hx h0;have pG:((x:Int) == 0)=false:=beq_eq_false_iff_ne.2 (by omega);have hi:=Z5I hx h0;have hp:2^iS x<=2048:=by
    have:2^iS x<=2^11:=Nat.pow_le_pow_right (by decide) (by omega);simpa using this
   have hp1:1<=2^iS x:=Nat.one_le_two_pow;have e1:IntKind.u64.wrap ((x:Int)-1)=((x-1:Nat):Int):=(by rw [IntKind.wrap_u64];omega);have e2:=bits_and_u64_nat x (x-1) (by omega) (by omega);have e3:IntKind.u64.wrap (-(x:Int))=((18446744073709551616-x:Nat):Int):=(by rw [IntKind.wrap_u64];omega);have e4:=bits_and_u64_nat x (18446744073709551616-x) (by omega) (by omega);rw [Z5J hx h0] at e4;obtain ⟨i,pg⟩:=oZ (iS x);rw [pg] at e4 hp hp1 hm hi;have HQ:Hid ((az (t &&& (2^i-1))).length=iq t i):=Z1A t i;obtain ⟨p,hp2⟩:=oZ (2^i);rw [hp2] at e4 hp hp1 HQ;have e5:IntKind.u64.wrap ((p:Int)-1)=((p-1:Nat):Int):=(by rw [IntKind.wrap_u64];omega);have e6:=bits_and_u64_nat t (p-1) (by omega) (by omega);have hq:t &&& (p-1)<4096:=Nat.lt_of_le_of_lt Nat.and_le_left HT;obtain ⟨q,zS⟩:=oZ (t &&& (p-1));rw [zS] at e6 HQ hq;have HC:=oA (Z4o q hq wr);rw [HQ.out] at HC;have hb:=t0_ t i;have HM:Hid ((l++[i])++az (x &&& (x-1))=az s/\n+iq t i=((l++[i]).map (iq t)).sum):=by
    obtain ⟨-,h2,h3⟩:=HX.out;refine ⟨by rw [<- h2,hm,List.append_assoc];rfl,by simp [h3]⟩
   obtain ⟨bb,hbb⟩:=oZ (iq t i);rw [hbb] at HC HM hb;obtain ⟨y,hy⟩:=oZ (x &&& (x-1));rw [hy] at e2 HM hlt;have HLT:=oA hlt;have e7:wrap64 ((n:Int)+(bb:Int))=((n+bb:Nat):Int):=(by rw [wrap64];omega);clear hm hlt hy HQ zS hp2 pg hbb hq;go_wp2_with fail;refine HC.mono ?_;rintro e w2 ⟨rfl,qU⟩;obtain rfl:=qU.symm;clear HC;go_wp2_with fail;go_roundw
   case rel=>exact ⟨y,n+bb,l++[i],rfl,by go_num,⟨Nat.lt_trans HLT HX.1,HM.1,HM.2⟩,trivial⟩
   case measure=>have:=HLT.out;simp [intOf];omega
theorem Z2X:∀ n,n<7->∀ k,k<n+1->(List.range (aS n k).length).all (fun i=>decide (b8 n k ((aS n k).getD i 0)=i))=true:=by decide +kernel
theorem Z4x {n k i s:Nat} (hn:n<7) (hk:k<=n) (h:(aS n k)[i]?=some s):b8 n k s=i:=by
 have h1:=List.all_eq_true.1 (Z2X n hn k (by omega)) i (List.mem_range.2 (oC.1 h).1);rw [oD,h] at h1;exact of_decide_eq_true h1
theorem Z77:Keyed prog 100:=int_keyed underlying100
theorem Z73 (w:World):(zeroValue 3).run prog w=.ok (.int .i64 0) w:=by kernel_rfl
theorem Z6A {s:Nat} (h:s<4096):(Lit.int .u64 (s:Int)).wf=true:=by
 have h1:IntKind.u64.min=0:=by decide
 have h2:IntKind.u64.max=18446744073709551615:=by decide
 show (decide (IntKind.u64.min<=(s:Int)) && decide ((s:Int)<=IntKind.u64.max))=true;rw [h1,h2,Bool.and_eq_true,decide_eq_true_eq,decide_eq_true_eq];omega
theorem Z76 {s:Nat} (h:s<4096):keyOf prog 100 (.int .u64 (s:Int))=some (.int .u64 (s:Int)):=keyOf_int_mk underlying100 (Z6A h)
def gI (w:World) (b N n k:Nat) (L:List Nat):Prop:=∃ D:DataW Unit,w.ownsMap prog 100 (plainElem prog 3) b N D/\IsMap D/\∀ s∈L,D.atKey (.int .u64 (s:Int)) (.lit (.int .i64 0))=.lit (.int .i64 (b8 n k s:Int))
def fR (w:World) (v:Value) (n k:Nat):Prop:=∃ b N,v=.map (some b)/\gI w b N n k (aS n k)
theorem gI.kept {w w':World} {b N n k:Nat} {L:List Nat} {o:Option Nat} (h:gI w b N n k L) (hg:w.grownBy w' o) (hne:some b≠o):gI w' b N n k L:=by
 obtain ⟨D,h1,h2,h3⟩:=h;exact ⟨D,h1.kept hg hne,h2,h3⟩
theorem gI.ext {w w':World} {b N n k:Nat} {L:List Nat} (h:gI w b N n k L) (he:aA w w'):gI w' b N n k L:=h.kept (he.grown none) (by simp)
theorem fR.ext {w w':World} {v:Value} {n k:Nat} (h:fR w v n k) (he:aA w w'):fR w' v n k:=by
 obtain ⟨b,N,hv,h1⟩:=h;exact ⟨b,N,hv,h1.ext he⟩
theorem Z2m {D:DataW Unit} (h:IsMap D) (k:Lit) (d:DataW Unit):IsMap (D.put k d):=by
 obtain ⟨es,rfl⟩:=h;exact ⟨_,rfl⟩
theorem gI.made (w:World) (n k:Nat):gI (w.alloc (.map #[] 0)) w.heap.size 0 n k []:=⟨.map [],World.ownsMap_made _ _ _ _,⟨_,rfl⟩,fun s hs=>by cases hs⟩
theorem P8_ (n k:Nat) (hn:n<7) (hk:k<=n) (w:World):Calls prog 59 #[.int .i64 n,.int .i64 k] w fun e w'=>∃ v,e=.returned v/\aA w w'/\fR w' v n k:=by
 have hmm:=@run_makeMap prog;obtain ⟨w1,pE⟩:=oc (w.alloc (.map #[] 0));have HM:=oA (gI.made w n k);rw [<- pE] at HM;have HE1:Hid (aA w w1):=by rw [pE];exact aA.alloc _ _
 have hsz:w1.heap.size=w.heap.size+1:=by rw [pE];exact World.size_alloc w _
 have HSZ:=oA hsz;have HC:=oA (ml n k (by omega) hk w1);have HLT:=oA (lU (n:=n) (k:=k) (by omega) hk);have HLN:=oA (lT (n:=n) (k:=k) (by omega) hk);have HPL:Hid (∀ i s,(aS n k)[i]?=some s->b8 n k s=i):=fun i s h=>Z4x hn hk h;clear hsz;obtain ⟨L,hL⟩:=oZ (aS n k);rw [hL] at HC HLT HLN HPL;have HLL:=oA hL;clear hL
 go_enter func59,ntmps59
 go_wp2_with fail;generalize rG:w.alloc _=w9;obtain rfl:w9=w1:=by rw [<- rG,pE]
 refine HC.mono ?_;rintro e w2 ⟨v,rfl,h2,hU⟩;obtain ⟨a,cap,rfl,pK,hc2,hcx⟩:=hU.open;unfold maxLen at hc2;have HE2:Hid (aA w w2):=HE1.trans h2;have HM2:=oA (HM.ext h2);have HS2:Hid (w.heap.size<w2.heap.size):=by have:=h2.size;have:=HSZ.out;unfold Hid;omega
 have HCX:=oA hcx;clear h2 hU hcx HC HM pE rG;obtain ⟨N,hN⟩:=oZ L.length;have HNN:=oA hN;rw [hN] at pK |-;clear hN;go_wp2_with fail
 go_loopw [13] (fun t wr=>∃ i:Nat,i<=N/\t=.int .i64 (i:Int)/\Hid (aA w wr)/\Hid (w2.grownBy wr (some w.heap.size))/\Hid (gI wr w.heap.size i n k (L.take i))) (fun t _=>N+1-(intOf t).toNat)
 case atStart=>exact ⟨0,by omega,by simp,HE2,World.grownBy.refl _ _,HM2⟩
 case round =>
  obtain ⟨i,hi,rfl,HX,HG,HP⟩:=hrel;by_cases hlt:i<N
  ·obtain ⟨s,hs⟩:∃ s,L[i]?=some s:=by
    rw [<- HNN.out] at hlt;exact ⟨_,oB hlt⟩
   obtain ⟨b,off,rfl,hb,hcell⟩:=HCX (by intro e;rw [e] at hs;simp at hs);have hc:=hcell i s hs;have hslt:s<4096:=HLT s (oE hs);have hne:b≠w.heap.size:=by
    rintro rfl;obtain ⟨D,⟨es,clock,Ag,-⟩,-⟩:=HM2.out;rw [World.cell?,Ag] at hc;simp at hc
   have hcx:wr.cell? ⟨b,off+i,none⟩=some (.int .u64 (s:Int)):=by
    rw [<- hc];unfold World.cell?;rw [HG.out.block b hb (by intro e;cases e;exact hne rfl)]
   have ME:Hid (b8 n k s=i):=HPL i s hs;obtain ⟨D,hown,AQ,qF⟩:=HP.out;have HAT:=oA qF;have HMP:=oA AQ;have HS:=oA hs;have HSL:=oA hslt;clear hs hcell hc hne qF AQ HP hslt hb
   go_wp2_with (first
    | (at_mapUpdate;refine wpList_mapUpdate_own _ rfl _ _ _ 96 rfl 100 3 Z77 underlying96 _ w.heap.size i _ rfl hown (by unfold maxLen;omega) _ _ _ rfl rfl (Z76 HSL) _ [] (plainElem_int underlying3 (WalkArith.wf_i64 (by omega))) ?_;intro w5 zT vB)
    | fail)
   have HE5:Hid (aA w w5):=Below.grown HX vB (Nat.le_of_lt (by have:=HG.size;have:=HS2.out;omega)) (fun j hj=>by cases hj;exact oK _);have HG5:Hid (w2.grownBy w5 (some w.heap.size)):=gA HG vB;have MH:Hid (gI w5 w.heap.size (i+1) n k (L.take (i+1))):=by
    refine ⟨_,zT,Z2m HMP _ _,fun x hx=>?_⟩;by_cases hxs:x=s
    ·subst hxs;rw [atKey_put_same HMP.out (by exact trivial),ME.out]
    ·rw [atKey_put_other (fun e=>hxs (by injection e with _ e;exact Int.ofNat.inj e))];refine HAT x ?_;rw [oH,HS.out] at hx;simpa [hxs] using hx
   clear zT vB;go_roundw
   case rel=>exact ⟨i+1,by omega,by go_num,HE5,HG5,MH⟩
   case measure=>simp [intOf];omega
  ·obtain rfl:i=N:=(by omega);have MG:Hid (gI wr w.heap.size i n k (aS n k)):=by
    have:=HP.out;rw [<- HNN.out,List.take_length,<- HLL.out] at this;rw [<- HNN.out,<- HLL.out];exact this
   clear HP;go_wp2_with fail;go_ret;exact ⟨_,rfl,HX,_,_,rfl,MG⟩
section
variable {P:Program} {ops:Array Oper} {Q:Exit->Act->World->Prop} {md:Region.Mode} {S:World->Prop} {z:Nat}
theorem l1_ {i:Nat} {oi:Oper} {v:Value} (hi:ops[i]?=some oi) (tF:∀ (j:Nat) (o:Oper) cs b,ops[j]?=some o->o.op≠.select cs b)
  (hQ:∀ c a w,Q (.panic c) (a.put oi.dst v) w->Q (.panic c) a w) (f:Nat) :
  ∀ (l:Array Bool) (a:Act) (w:World),l.size<=z ->
   (∀ j oj,ops[j]?=some oj->j≠i->l.getD j true=false->(∀ e∈oj.after,Region.binds md e=true->e.on≠i)->oi.apart ops oj=true) ->
   i∈Region.ready md ops l->YieldsIf P ops S oi v a->S w ->
   bG P md ops Q S z f (l.setIfInBounds i true) (a.put oi.dst v) w->bG P md ops Q S z (f+1) l a w:=by
 induction f with
 | zero =>
  intro l a w _ _ hr hy hS H;refine ⟨(fun e=>by rw [e] at hr;cases hr),fun j hj=>?_⟩;by_cases e:j=i;·rw [e];exact hy.wpOp hi hS ⟨fun _=>hS,H⟩
  ·have:=ready_mono hj e;rw [H.1] at this;cases this
 | succ f ih =>
  intro l a w IT qR hr hy hS H;refine ⟨(fun e=>by rw [e] at hr;cases hr),fun j hj=>?_⟩;by_cases e:j=i;·rw [e];exact hy.wpOp hi hS ⟨fun _=>hS,H⟩
  have vu:i≠j:=fun x=>e x.symm;have un:=(mem_ready.1 hj).1;obtain ⟨oj,wM,hall⟩:=(mem_ready.1 hj).2;have ui:=(mem_ready.1 hr).1;have uf:l.getD i false=true->False:=fun hc=>by rw [P4_ ui] at hc;cases hc
  have Et:∀ l':Array Bool,l'.size<=z->l'.getD z false=false:=fun l' h=>by simp [Array.getElem?_eq_none h]
  have xG:∀ d∈oj.after,Region.binds md d=true->d.on≠i:=fun d hd hb rm=>uf (by have:=hall d hd hb;rwa [rm] at this);have step:=wpOp_putIf wM (qR j oj wM e un xG) (fun cs b=>tF i oi cs b hi) (fun cs b=>tF j oj cs b wM) hQ hy (H.2 j (ready_mono hj e));refine wpOp_mono (fun b u hb=>?_) step;obtain ⟨qz,vE,pL⟩:=hb;have zg:S u:=vE (Et _ (by simpa using IT));refine ⟨fun _=>zg,ih (l.setIfInBounds j true) b u (by simpa using IT) (fun k ok hk Cc zN hn=>?_) (ready_mono hr vu) qz zg ?_⟩
  ·refine qR k ok hk Cc ?_ hn;by_cases yQ:j=k;·rw [<- yQ];exact un
   ·rw [getD_set_ne true yQ] at zN;exact zN
  ·rw [Array.setIfInBounds_comm _ _ e];exact pL
theorem Z07 (i:Nat) {oi:Oper} {v:Value} {f:Nat} {l:Array Bool} {a:Act} {w:World} (hi:ops[i]?=some oi)
  (hs:Region.noSelect ops=true) (hf:Region.free md ops l i=true) (hr:(Region.ready md ops l).contains i=true) (hz:l.size<=z)
  (hQ:∀ c a w,Q (.panic c) (a.put oi.dst v) w->Q (.panic c) a w) (hy:YieldsIf P ops S oi v a) (hS:S w)
  (h:bG P md ops Q S z f (l.setIfInBounds i true) (a.put oi.dst v) w):bG P md ops Q S z (f+1) l a w :=
 l1_ hi (Region.noSelect_spec hs) hQ f l a w hz (Region.free_spec hi hf) (by simpa using hr) hy hS h
theorem Z05 (i:Nat) {o:Oper} {f:Nat} {l:Array Bool} {a:Act} {w:World} (hr:Region.ready md ops l=[i]) (pX:Region.ready md ops (l.setIfInBounds i true)=[]) (ho:ops[i]?=some o)
  (h:∀ K:Act->World->Prop,Shut (∀ b u,S u->Q .normal b u->K b u)->if Region.wanted o (yielded ops a.tmps)=true then Oper.wp P o a w K Q else K (a.put o.dst undef) w):bG P md ops Q S z (f+1) l a w:=by
 refine ⟨(fun e=>by rw [hr] at e;cases e),fun j hj=>?_⟩;obtain rfl:j=i:=by rw [hr] at hj;simpa using hj
 refine wpOp_step ho fun K hK=>h K fun b u hS hq=>hK b u ⟨fun _=>hS,?_⟩;cases f with
 | zero=>exact ⟨pX,hq⟩
 | succ f=>exact ⟨fun _=>hq,by rw [pX];simp⟩
end
section
variable {P:Program} {ops O:Array Oper} {Q:Exit->Act->World->Prop} {md:Region.Mode} {S:World->Prop} {z n:Nat}
theorem cM (hO:Hid (ops=O)) (i:Nat) (h:i<O.size):ops[i]?=some O[i]:=by
 have hO:ops=O:=hO;subst hO;exact Array.getElem?_eq_getElem h
end
section
variable {P:Program} {ops O:Array Oper} {Q:Exit->Act->World->Prop} {md:Region.Mode} {S:World->Prop} {z n:Nat}
theorem lF (S:World->Prop) (z:Nat) (n:Nat) {id:Nat} {a:Act} {w:World} (hm:P.follows .mixedOrders=true) (hn:O.size=n) (hS:S w.drew)
  (h:∀ ops,Hid (ops=O)->S w.drew->bG P .any ops Q S z n (Array.replicate n false) a w.drew):(Code.region id O true).wp P Q a w :=
 jE S z hm hS (fun hh=>by have:=h O rfl hh;rw [hn];exact this)
theorem K5_ (hO:Hid (ops=O)) (i:Nat) {oi:Oper} {v:Value} {f:Nat} {l:Array Bool} {a:Act} {w:World} (hi:ops[i]?=some oi)
  (hs:Region.noSelect O=true) (hf:Region.free md O l i=true) (hr:(Region.ready md O l).contains i=true) (hz:decide (i≠z)=true)
  (hQ:∀ c a w,Q (.panic c) (a.put oi.dst v) w->Q (.panic c) a w) (hy:Yields P O oi v a) (hS:S w)
  (h:bG P md ops Q S z f (l.setIfInBounds i true) (a.put oi.dst v) w):bG P md ops Q S z (f+1) l a w:=by
 have hO:ops=O:=hO;subst hO;exact Q0_ i hi hs hf hr (of_decide_eq_true hz) hQ hy hS h
theorem E0_ (hO:Hid (ops=O)) (i:Nat) {oi:Oper} {v:Value} {f:Nat} {l:Array Bool} {a:Act} {w:World} (hi:ops[i]?=some oi)
  (hs:Region.noSelect O=true) (hf:Region.free md O l i=true) (hr:(Region.ready md O l).contains i=true) (hz:decide (l.size<=z)=true)
  (hQ:∀ c a w,Q (.panic c) (a.put oi.dst v) w->Q (.panic c) a w) (hy:YieldsIf P O S oi v a) (hS:S w)
  (h:bG P md ops Q S z f (l.setIfInBounds i true) (a.put oi.dst v) w):bG P md ops Q S z (f+1) l a w:=by
 have hO:ops=O:=hO;subst hO;exact Z07 i hi hs hf hr (of_decide_eq_true hz) hQ hy hS h
theorem gK (hO:Hid (ops=O)) (i:Nat) {o:Oper} {f:Nat} {l:Array Bool} {a:Act} {w:World} (hr:Region.ready md O l=[i]) (ho:ops[i]?=some o)
  (h:∀ K:Act->World->Prop,Shut (∀ b u,S u->(S u->bG P md ops Q S z f (l.setIfInBounds i true) b u)->K b u)->if Region.wanted o (yielded O a.tmps)=true then Oper.wp P o a w K Q else K (a.put o.dst undef) w):bG P md ops Q S z (f+1) l a w:=by
 have hO:ops=O:=hO;subst hO;exact dh i hr ho h
theorem kR (hO:Hid (ops=O)) (i:Nat) {o:Oper} {f:Nat} {l:Array Bool} {a:Act} {w:World} (hr:Region.ready md O l=[i]) (pX:Region.ready md O (l.setIfInBounds i true)=[]) (ho:ops[i]?=some o)
  (h:∀ K:Act->World->Prop,Shut (∀ b u,S u->Q .normal b u->K b u)->if Region.wanted o (yielded O a.tmps)=true then Oper.wp P o a w K Q else K (a.put o.dst undef) w):bG P md ops Q S z (f+1) l a w:=by
 have hO:ops=O:=hO;subst hO;exact Z05 i hr pX ho h
end
theorem ep (w:World) (x y z:Value):∃ W,(w.alloc (.cells #[x,y,z] 31))=W/\aA w W/\W.heap.size=w.heap.size+1/\W.heap[w.heap.size]?=some (.cells #[x,y,z] 31 (0,0)) :=
 ⟨_,rfl,aA.alloc _ _,by simp,fC _ _ _⟩
theorem aU.boxAt {w:World} {base:Nat} {e:TypeId} {v:Value} {xs:og} (h:aU w base e 1 v numC xs) {g:Nat} (hg:g<base) (j:Nat) (y:Value):aU (w.setCell ⟨g,j,none⟩ y) base e 1 v numC xs:=by
 obtain ⟨us,h1,h2,h3,h4⟩:=h;refine ⟨us,h1,h2,ownsRow_setCell_other h3 (fun e=>?_) y,fun j u x hu hx w' _=>(h4 j u x hu hx).now⟩;have:=(h3.lt g e).1;omega
theorem Z5h {w:World} {b j:Nat} {v:Value} (hc:w.cell? ⟨b,j,none⟩=some v):b<w.heap.size:=by
 by_cases h:b<w.heap.size;·exact h
 ·have h0:w.heap[b]?=none:=Array.getElem?_eq_none (Nat.le_of_not_lt h);simp [World.cell?,h0] at hc
theorem aG.cell {S:Nat->Prop} {w w':World} {b j:Nat} {v:Value} (h:aG S w w') (hc:w.cell? ⟨b,j,none⟩=some v) (hb:¬ S b):w'.cell? ⟨b,j,none⟩=some v:=by
 rw [<- hc];unfold World.cell?;rw [h.block b (Z5h hc) hb]
theorem aG.thenBelow {S:Nat->Prop} {w w' w'':World} {B:Nat} (h:aG S w w') (k:Below B w' w'') (hB:w.heap.size<=B):aG S w w'' :=
 ⟨k.os.trans h.os,k.tape.trans h.tape,k.output.trans h.output,oJ h.size k.size,fun j hj hS=>(k.block j (by omega)).trans (h.block j hj hS)⟩
theorem aG.from {S:Nat->Prop} {w w' w'':World} {B:Nat} (h:Below B w w') (k:aG S w' w'') (hw:w.heap.size<=B) (hS:∀ j,j<w.heap.size->¬ S j):aA w w'' :=
 ⟨k.os.trans h.os,k.tape.trans h.tape,k.output.trans h.output,oJ h.size k.size,fun j hj=>(k.block j (oI hj h.size) (hS j hj)).trans (h.block j (by omega))⟩
theorem nN {S:Nat->Prop} {w w' w'':World} (h:aA w w') (k:aG S w' w'') (hS:∀ j,j<w.heap.size->¬ S j):aA w w'':=aG.from h k (oK _) hS
theorem fR.run {w:World} {v:Value} {n k s:Nat} (h:fR w v n k) (hs:s∈aS n k) (hlt:s<4096):(Instr.lookup 96 v (.int .u64 (s:Int)) false).run prog w=.ok (.int .i64 (b8 n k s:Int)) w:=by
 obtain ⟨b,N,rfl,D,hown,AQ,qF⟩:=h;obtain ⟨c,AH,hc,Mk⟩:=hown.lookup_int Z77 underlying96 underlying3 (Z73 w) (Z76 hlt);rw [qF s hs] at hc;cases hc;exact AH
theorem fR.grownS {w w':World} {B:Nat} {v:Value} {n k:Nat} {C:Array Value} {T:TypeId} (h:fR w v n k) (hg:aG (·=B) w w') (hB:w.heap[B]?=some (.cells C T (0,0))):fR w' v n k:=by
 obtain ⟨b,N,hv,h1⟩:=h;refine ⟨b,N,hv,?_⟩;obtain ⟨D,ho,hm,ha⟩:=h1;have hne:b≠B:=by
  rintro rfl;obtain ⟨es,clock,Ag,-⟩:=ho;rw [hB] at Ag;cases Ag
 have qP:w.grownBy w' (some B):=⟨hg.os,hg.tape,hg.output,hg.size,fun j hj xJ=>hg.block j hj (fun e=>xJ (by rw [e]))⟩;exact ⟨D,ho.kept qP (fun e=>hne (by cases e;rfl)),hm,ha⟩
theorem I6_ {i:Nat} {s:Int} {n k:Int} {a:Option Addr} {l c:Nat} (h:some (Value.int .u64 s)=(#[Value.int .i64 n,Value.int .i64 k,Value.slice a l c]:Array Value)[i]?):False:=by
 match i,h with
 | 0,h=>simp at h
 | 1,h=>simp at h
 | 2,h=>simp at h
 | i+3,h=>simp at h
theorem h9_:∀ n,n<7->∀ s,s<2^n->(2^n-1) &&& (18446744073709551615-s)=ea n s:=by decide +kernel
theorem Z36 {n s:Nat} (hn:n<7) (hs:s<2^n):bits .andNot .u64 ((2^n-1:Nat):Int) (s:Int)=((ea n s:Nat):Int):=by
 have h1:2^n<=2^6:=Nat.pow_le_pow_right (by decide) (by omega);rw [u64_andNot_nat _ _ (by omega) (by omega),h9_ n hn s hs]
theorem Z3c {n:Nat} (hn:n<13):IntKind.u64.wrap ((2:Int)^n)=((2^n:Nat):Int)/\2^n<=4096/\1<=2^n:=by
 have h:∀ m,m<13->IntKind.u64.wrap ((2:Int)^m)=((2^m:Nat):Int)/\2^m<=4096/\1<=2^m:=by decide +kernel
 exact h n hn
theorem f4_ {n k:Nat} (hn:n<=12) (hk:k<=n):∀ x∈aS n k,x<2^n:=G6_ (oK n) k 0 0 (Nat.two_pow_pos n) hk
theorem f9_ {s i:Nat} (hs:s<4096):bits .and .u64 ((s / 2^i:Nat):Int) 1=if s.testBit i=true then 1 else 0:=by
 have h1:s / 2^i<=s:=Nat.div_le_self _ _;have h2:=bits_and_u64_nat (s / 2^i) 1 (by omega) (by omega);rw [Nat.and_one_is_mod] at h2;rw [show ((1:Nat):Int)=1 from rfl] at h2;rw [h2,Nat.testBit_eq_decide_div_mod_eq];by_cases h:s / 2^i%2=1;·rw [if_pos (by rw [oT h]),h];rfl
 ·rw [if_neg (by rw [oS h];decide)];omega
theorem w3_ (s t:Nat) (hs:s<4096) (ht:t<4096) (w:World) :
  oX 65 #[.int .u64 s,.int .u64 t] w (.bool (dz s t)):=(Z5N s t hs ht w).mono fun e w' ⟨h,h2⟩=>⟨h,h2▸aA.refl _⟩
theorem a8_ (x y:Int) (w:World) (hx:(aB x).size<=2800000000) (hy:(aB y).size<=2800000000) (ht:ae w) :
  oX 185 #[.string (aB x),.string (aB y)] w (.string (aB (x-y))):=by
 have HN:=oA (j8 y w (by omega));have yO:(aB (-y)).size<=2900000000:=by
  have h1:=er (-y);have h2:=dm y;rw [Int.natAbs_neg] at h1;omega
 have HA:Hid (∀ W,aA w W->oX 61 #[.string (aB x),.string (aB (-y))] W (.string (aB (x+-y)))):=fun W hE=>L0_ x (-y) W (by omega) yO (ht.ext hE);rw [show x+-y=x-y by omega] at HA;clear ht hx hy yO
 go_enter func185,ntmps185
 go_wp2_with fail;refine HN.mono ?_;rintro e w0 ⟨rfl,tu⟩;have HE0:=oA tu;clear HN tu;go_wp2_with fail;refine p_ (HA _ HE0) (aA.trans HE0) ?_;intro w1 HE1;clear HA;go_wp2_with fail;go_ret;exact ⟨rfl,HE1⟩
def Sz (n:Int):Prop:=(aE n.natAbs).size<=1000000000
def lS (n:Int):Prop:=(aE n.natAbs).size<=400000000
theorem ec {n:Int} (h:bp n=true):Sz n:=(mQ n).1 h
theorem a5_ {n:Int} (h:iZ n=true):lS n:=(a4_ n).1 h
theorem Sz.size {n:Int} (h:Sz n):(aB n).size<=1000000001:=by
 unfold Sz at h;have:=er n;omega
theorem lS.size {n:Int} (h:lS n):(aB n).size<=400000001:=by
 unfold lS at h;have:=er n;omega
theorem Sz.natAbs {n:Int} (h:Sz n):Sz (n.natAbs:Int):=by
 unfold Sz at h |-;rw [Int.natAbs_natCast];exact h
theorem Sz.neg {n:Int} (h:Sz n):Sz (-n):=by
 unfold Sz at h |-;rw [Int.natAbs_neg];exact h
theorem c7_ (x y:Int):(aB (x*y)).size<=(aB x).size+(aB y).size+1:=by
 have h1:=er (x*y);have h2:=dm x;have h3:=dm y;have h4:=nj x.natAbs y.natAbs;rw [Int.natAbs_mul] at h1;omega
theorem Z7k (x y:Int) (w:World) (hx:lS x) (hy:lS y) (ht:ae w) :
  oX 63 #[.string (aB x),.string (aB y)] w (.string (aB (x*y))) :=
 i_ x y w (by have:=hx.size;omega) (by have:=hy.size;omega) ht
theorem Z7p (x y:Int) (w:World) (hx:Sz x) (hy:(aB y).size<=1000000001) (ht:ae w) :
  oX 185 #[.string (aB x),.string (aB y)] w (.string (aB (x-y))) :=
 a8_ x y w (by have:=hx.size;omega) (by omega) ht
theorem nI (x y:Int) (w:World) (hx:Sz x) (hy:Sz y) (h0:y≠0) (ht:ae w) :
  oX 94 #[.string (aB x),.string (aB y)] w (.tuple #[.string (aB (aN x y)),.string (aB (aq x y)),.int .i64 0]) :=
 Y8_ x y w (by have:=hx.size;omega) (by have:=hy.size;omega) h0 ht
theorem Z4H (x y:Int) (h:x.sign≠y.sign):(x.sign<y.sign↔x<y)/\x≠y:=by
 rcases Int.lt_trichotomy x 0 with hx | hx | hx <;> rcases Int.lt_trichotomy y 0 with hy | hy | hy
 all_goals first
  | (rw [Int.sign_eq_neg_one_of_neg hx] at h |-) | (rw [hx] at h |-;rw [show (0:Int).sign=0 from rfl] at h |-) | (rw [Int.sign_eq_one_of_pos hx] at h |-)
 all_goals first
  | (rw [Int.sign_eq_neg_one_of_neg hy] at h |-) | (rw [hy] at h |-;rw [show (0:Int).sign=0 from rfl] at h |-) | (rw [Int.sign_eq_one_of_pos hy] at h |-)
 all_goals first | (exact absurd rfl h) | omega
def fD (x y:Int):Int:=if x<y then -1 else if x=y then 0 else 1
theorem X2_ (n:Int) (hs:(aB n).size<=10000000000):(aE n.natAbs).size<=10000000000:=by
 by_cases h:n<0;·have:=jW n h;omega
 ·rw [c_ n (by omega)] at hs;rw [show n.natAbs=n.toNat by omega];exact hs
theorem s0_ (x y:Int) (w:World) (hx:(aB x).size<=10000000000) (hy:(aB y).size<=10000000000) :
  Calls prog 151 #[.string (aB x),.string (aB y)] w fun e w'=>e=.returned (.int .i64 (fD x y))/\∃ k,w'=w.drewN k:=by
 have H1:=oA (fun W=>lH x W);have H2:=oA (fun W=>lH y W);have H3:=oA (fun W=>v7_ x W);have H4:=oA (fun W=>v7_ y W);have H5:=oA (fun W=>Z4_ x.natAbs y.natAbs W (X2_ x hx) (X2_ y hy));have H6:=oA (fun W=>Z4_ y.natAbs x.natAbs W (X2_ y hy) (X2_ x hx));by_cases hs:x.sign=y.sign
 ·obtain ⟨s,rB⟩:=oZ x.sign;rw [rB] at H1;rw [<- hs,rB] at H2;by_cases hn:x<0
  ·have yJ:y<0:=by
    rw [Int.sign_eq_neg_one_of_neg hn] at hs;exact Int.sign_eq_neg_one_iff_neg.1 hs.symm
   have HC:Hid (bg y.natAbs x.natAbs=fD x y):=by
    unfold Hid bg fD;rcases Int.lt_trichotomy x y with h | h | h;·rw [if_pos (by omega),if_pos h]
    ·rw [if_neg (by omega),if_pos (by omega),if_neg (by omega),if_pos h]
    ·rw [if_neg (by omega),if_neg (by omega),if_neg (by omega),if_neg (by omega)]
   rw [HC.out] at H6;have hb:decide (x<0)=true:=oT hn;have hb2:decide (y<0)=true:=oT yJ;rw [hb] at H3;rw [hb2] at H4;have rH:(s != s)=false:=(by simp);clear hs rB hn yJ hb hb2 HC H5
   go_enter func151,ntmps151
   go_wp2_with fail;refine q_ (H1 _) ?_;clear H1;go_wp2_with fail;refine q_ (H2 _) ?_;clear H2;go_wp2_with fail;refine (H3 _).mono ?_;rintro e w1 ⟨rfl,k1,rfl⟩;clear H3;go_wp2_with fail;refine (H4 _).mono ?_;rintro e w2 ⟨rfl,k2,rfl⟩;clear H4;go_wp2_with fail;refine q_ (H6 _) ?_;clear H6;go_wp2_with fail;go_ret;exact ⟨rfl,_,rfl⟩
  ·have yJ:¬ y<0:=by
    intro h;rw [Int.sign_eq_neg_one_of_neg h] at hs;exact hn (Int.sign_eq_neg_one_iff_neg.1 hs)
   have HC:Hid (bg x.natAbs y.natAbs=fD x y):=by
    unfold Hid bg fD;rcases Int.lt_trichotomy x y with h | h | h;·rw [if_pos (by omega),if_pos h]
    ·rw [if_neg (by omega),if_pos (by omega),if_neg (by omega),if_pos h]
    ·rw [if_neg (by omega),if_neg (by omega),if_neg (by omega),if_neg (by omega)]
   rw [HC.out] at H5;have hb:decide (x<0)=false:=oS hn;have hb2:decide (y<0)=false:=oS yJ;rw [hb] at H3;rw [hb2] at H4;have rH:(s != s)=false:=(by simp);clear hs rB hn yJ hb hb2 HC H6
   go_enter func151,ntmps151
   go_wp2_with fail;refine q_ (H1 _) ?_;clear H1;go_wp2_with fail;refine q_ (H2 _) ?_;clear H2;go_wp2_with fail;refine (H3 _).mono ?_;rintro e w1 ⟨rfl,k1,rfl⟩;clear H3;go_wp2_with fail;refine (H4 _).mono ?_;rintro e w2 ⟨rfl,k2,rfl⟩;clear H4;go_wp2_with fail;refine q_ (H5 _) ?_;clear H5;go_wp2_with fail;go_ret;exact ⟨rfl,_,rfl⟩
 ·obtain ⟨pK,hc2⟩:=Z4H x y hs;obtain ⟨s,rB⟩:=oZ x.sign;obtain ⟨t,IC⟩:=oZ y.sign;rw [rB] at H1 hs pK;rw [IC] at H2 hs pK;have hst:(s != t)=true:=by simpa using hs
  clear H3 H4 H5 H6 rB IC hs;by_cases hlt:s<t
  ·have HC:Hid (fD x y=-1):=(by unfold Hid fD;rw [if_pos (pK.1 hlt)]);rw [HC.out];clear HC pK hc2
   go_enter func151,ntmps151
   go_wp2_with fail;refine q_ (H1 _) ?_;clear H1;go_wp2_with fail;refine q_ (H2 _) ?_;clear H2;go_wp2_with fail;go_ret;exact ⟨rfl,0,rfl⟩
  ·have HC:Hid (fD x y=1):=(by unfold Hid fD;rw [if_neg (fun h=>hlt (pK.2 h)),if_neg hc2]);rw [HC.out];clear HC pK hc2
   go_enter func151,ntmps151
   go_wp2_with fail;refine q_ (H1 _) ?_;clear H1;go_wp2_with fail;refine q_ (H2 _) ?_;clear H2;go_wp2_with fail;go_ret;exact ⟨rfl,0,rfl⟩
theorem ae.below {w w':World} {base:Nat} (h:ae w) (he:Below base w w') (hb:4<base):ae w':=by
 unfold ae Lib.TabIs at h |-;exact var?_below he (show prog.globalNamed "internal/strconv.uint64pow10" = some 4 by kernel_rfl) hb h
theorem aG.below {S:Nat->Prop} {w w':World} {base:Nat} (h:aG S w w') (hb:base<=w.heap.size) (hS:∀ k,S k->base<=k):Below base w w' :=
 ⟨h.os,h.tape,h.output,h.size,fun k hk=>h.block k (oI hk hb) (fun hs=>absurd (hS k hs) (by omega))⟩
theorem aG.setCell {S:Nat->Prop} {w w':World} (h:aG S w w') {g:Nat} (hg:S g) (i:Nat) (v:Value):aG S w (w'.setCell ⟨g,i,none⟩ v) :=
 h.trans (gj (fU w' g i v) (fun k hk=>by cases hk;exact hg))
theorem aG.ext {S:Nat->Prop} {a b c:World} (h:aG S a b) (he:aA b c):aG S a c:=h.trans (he.grownS S)
theorem aG.ofExt {S:Nat->Prop} {a b:World} (he:aA a b):aG S a b:=he.grownS S
def gD (k:Int) (r s:og) (j:Nat):List Int:=(aW k r s).take j++r.drop j
theorem Z2y (k:Int) (r s:og) (j:Nat):(gD k r s j).length=r.length:=by
 unfold gD;rw [oV,oG,List.length_drop,eU];omega
theorem Z2x (k:Int) (r s:og) (j:Nat) (a:Int) (h:r[j]?=some a):(gD k r s j)[j]?=some a:=by
 unfold gD;have hj:=(oC.1 h).1;rw [oO (by rw [oG];omega),oG,eU,oU];rw [show j+(j-min j r.length)=j by omega];exact h
theorem Z2z (k:Int) (r s:og) (j:Nat) (a b:Int) (h:r[j]?=some a) (h':s[j]?=some b):(gD k r s j).set j (a-k*b)=gD k r s (j+1):=by
 have hj:=(oC.1 h).1;have hl:=nY k r s j a b h h';unfold gD;rw [oH,hl];have hd:r.drop j=a::r.drop (j+1):=by
  rw [List.drop_eq_getElem_cons hj];congr 1;exact (oC.1 h).2
 rw [hd,List.set_append_right _ _ (by rw [oG];omega),oG,eU,show j-min j r.length=0 by omega];simp
theorem Z0I (k:Int) (r s:og):gD k r s 0=r:=by unfold gD;simp
theorem Z2w (k:Int) (r s:og) (j:Nat) (h:r.length<=j):gD k r s j=aW k r s:=by
 unfold gD;rw [List.take_of_length_le (by rw [eU];exact h),List.drop_eq_nil_of_le h,List.append_nil]
theorem x4_ (k:Int) (r s r':og) (g o c gs os cs base:Nat) (w:World) (hr:ag w g o r) (hs:ag w gs os s) (hne:gs≠g) (hk:eV k r s=some r')
  (hc:r.length<=c) (hc2:c<=maxLen) (hcs:s.length<=cs) (Fi:cs<=maxLen) (ht:ae w) (hb:4<base) (hg:base<=g) (rP:base<=w.heap.size) :
  Calls prog 153 #[.slice (some ⟨g,o,none⟩) r.length c,.string (aB k),.slice (some ⟨gs,os,none⟩) s.length cs] w fun e w'=>e=.returned (.tuple #[])/\aG (·=g) w w'/\ag w' g o r':=by
 have hz:=fV k;unfold eV at hk;by_cases h0:k=0
 ·rw [if_pos h0] at hk;obtain rfl:r=r':=oM hk;rw [oT h0] at hz;have HR:=oA hr;clear hk h0 hs hr ht
  go_enter func153,ntmps153
  go_wp2_with fail;refine bodyPost_ret (results_none rfl _ _ _) rfl ⟨rfl,aG.refl _ _,HR⟩
 ·rw [if_neg h0] at hk;rw [oS h0] at hz;by_cases xf:s.length=r.length/\(iZ k && s.all iZ && r.all bp)=true
  ·rw [if_pos xf] at hk;obtain rfl:aW k r s=r':=oM hk;obtain ⟨hlen,hsm⟩:=xf;rw [Bool.and_eq_true,Bool.and_eq_true] at hsm;have HK9:=oA (a5_ hsm.1.1);have HS9:=oA (fun x hx=>a5_ (List.all_eq_true.1 hsm.1.2 x hx));have HRS:=oA (fun x hx=>ec (List.all_eq_true.1 hsm.2 x hx));have HR:=oA hr;have HSS:=oA hs;have HT:=oA ht;have HB:=oA hb;unfold maxLen at hc2 Fi;clear hk h0 hsm hr hs ht hb;have AS:s.length<=r.length:=(by omega);have E8:r.length<=s.length:=(by omega);clear hlen
   go_enter func153,ntmps153
   go_wp2_with fail
   go_loopw [12] (fun t wr=>∃ j:Nat,j<=s.length/\t=.int .i64 j/\aG (·=g) w wr/\Hid (ag wr g o (gD k r s j))) (fun t _=>s.length-(intOf t).toNat)
   case atStart=>exact ⟨0,by omega,rfl,aG.refl _ _,by rw [Z0I];exact HR⟩
   case round =>
    obtain ⟨j,hj,rfl,hG,HP⟩:=hrel;obtain ⟨wo,rfl⟩:∃ wo:World,wo=wr:=⟨_,rfl⟩;by_cases hlt:j<s.length
    ·obtain ⟨b,xi⟩:∃ b,s[j]?=some b:=⟨s[j],oB hlt⟩;obtain ⟨a,sb⟩:∃ a,r[j]?=some a:=⟨r[j]'(by omega),oB _⟩;have E6:j<r.length:=(by omega);have g0:=(HSS.grown hG (by exact hne)).cell j b xi;have g1:=HP.cell j a (Z2x k r s j a sb);have f1:=HP.free (o+j);have HM:Hid (∀ W,ae W->oX 63 #[.string (aB k),.string (aB b)] W (.string (aB (k*b)))):=fun W hW=>Z7k k b W HK9 (HS9 b (oE xi)) hW;have HU:Hid (∀ W,ae W->oX 185 #[.string (aB a),.string (aB (k*b))] W (.string (aB (a-k*b)))):=fun W hW=>by
      have h1:=HK9.size;have h2:=(HS9 b (oE xi)).size;have h3:=c7_ k b;exact Z7p a (k*b) W (HRS a (oE sb)) (by omega) hW
     have GZ:Hid (∀ W,aA wo W->ae W):=fun W hE=>(HT.below (hG.below rP (fun q hq=>by cases hq;exact hg)) HB).ext hE;have HSET:Hid (∀ W,aA wo W->ag (W.setCell ⟨g,o+j,none⟩ (.string (aB (a-k*b)))) g o (gD k r s (j+1))):=fun W hE=>by
      rw [<- Z2z k r s j a b sb xi];exact (HP.ext hE).set j (by rw [Z2y];exact E6) _
     have DS:Hid (∀ W,aA wo W->ag W g o (gD k r s j)):=fun W hE=>HP.ext hE;have HG:=oA hG;clear xi sb hG
     go_upto_region 4 with fail
     go_region_with (first
      | (go_at_call 63;refine (HM _ (GZ _ (aA.drew _))).mono ?_;rintro e w5 ⟨rfl,o5⟩;have HE5:=oA (aA.trans (aA.drew wo) o5);have g5:=o5.cell (a:=⟨g,o+j,none⟩) g1;clear o5)
      | (go_at_call 185;refine (HU _ (GZ _ HE5)).mono ?_;rintro e w6 ⟨rfl,ou⟩;have HE6:=oA (aA.trans HE5 ou);have g6:=ou.cell (a:=⟨g,o+j,none⟩) g5;have f6:=(DS _ HE6).free (o+j);clear ou))
     all_goals
      go_wp2_with fail;go_roundw
      case rel=>exact ⟨j+1,by omega,by go_num,(HG.ext HE6).setCell rfl _ _,HSET _ HE6⟩
      case measure=>simp [intOf];omega
    ·have HF:Hid (ag wo g o (aW k r s)):=by
      unfold Hid;rw [<- Z2w k r s j (by omega)];exact HP
     have HG:=oA hG;clear hG;go_wp2_with fail;refine bodyPost_end (results_none rfl _ _ _) rfl ⟨rfl,HG,HF⟩
  ·rw [if_neg xf] at hk;cases hk
theorem q8_ (n:Nat):(madeCells #[Value.string ⟨#[]⟩] n).toList=List.replicate n (.string ⟨#[]⟩):=(toList_madeCells_one _ _).trans (by simp)
theorem j9_ {w:World} {B g n:Nat} {T:TypeId} {xs:List Value} (h:w.ownsRow B T 1 (.slice (some ⟨g,0,none⟩) n n) n xs):w.heap[g]?=some (.cells xs.toArray T (0,0))/\xs.length=n/\B<=g:=by
 obtain ⟨h0,h⟩:=h;rcases h with ⟨hv,_⟩ | ⟨g',cap',cur,hv,hb,hg,h1,h2,h3,h4⟩
 ·simp at hv
 ·simp only [Value.slice.injEq,Option.some.injEq,Addr.mk.injEq] at hv;obtain ⟨⟨rfl,-,-⟩,-,rfl⟩:=hv;rw [Nat.mul_one] at h0 h3 h4;rw [List.take_of_length_le (by simp [h3])] at h4;refine ⟨?_,h0,hb⟩;rw [hg,<- h4]
def iG (C:List Value) (n j:Nat) (xs:og):Prop:=C.length=n/\(∀ i,i<n->∃ s,C[i]?=some (.string s))/\∀ i x,i<j->xs[i]?=some x->C[i]?=some (.string (aB x))
theorem iG.start (n:Nat) (xs:og):iG (List.replicate n (.string ⟨#[]⟩)) n 0 xs:=⟨by simp,fun i hi=>⟨⟨#[]⟩,by rw [List.getElem?_replicate,if_pos hi]⟩,fun i x hi=>absurd hi (by omega)⟩
theorem iG.set {C:List Value} {n j:Nat} {xs:og} {x:Int} (h:iG C n j xs) (hj:j<n) (hx:xs[j]?=some x):iG (C.set j (.string (aB x))) n (j+1) xs:=by
 obtain ⟨h1,h2,h3⟩:=h;refine ⟨by rw [List.length_set];exact h1,fun i hi=>?_,fun i y hi hy=>?_⟩
 ·rw [oW];by_cases e:j=i;·subst e;rw [if_pos rfl,if_pos (by omega)];exact ⟨_,rfl⟩
  ·rw [if_neg e];exact h2 i hi
 ·rw [oW];by_cases e:j=i
  ·subst e;rw [if_pos rfl,if_pos (by omega)];rw [hx] at hy;cases hy;rfl
  ·rw [if_neg e];exact h3 i y (by omega) hy
theorem iG.row {w:World} {g:Nat} {C:List Value} {n:Nat} {xs:og} {T:TypeId} (h:iG C n n xs) (hl:xs.length=n) (hb:w.heap[g]?=some (.cells C.toArray T (0,0))):ag w g 0 xs :=
 ⟨dr hb,fun j x hx=>by
  rw [Nat.zero_add,aO hb j,oR]
  exact h.2.2 j x (by rw [<- hl];exact (oC.1 hx).1) hx,fun j=>cD hb j⟩
theorem g8_ (C:List Value) (j:Nat) (x:Value):C.toArray.setIfInBounds j x=(C.set j x).toArray:=by simp
theorem N7_ (k:Int) (r s:og) (gx ox cx gy oy cy:Nat) (w:World) (hr:ag w gx ox r) (hs:ag w gy oy s) (hl:s.length=r.length) (hk:(aB k).size<=2800000000)
  (rT:∀ a∈r,(aB a).size<=2800000000) (rH:∀ b∈s,(aB b).size<=2800000000/\(aB (k*b)).size<=2800000000) (hcx:r.length<=cx) (Fh:cx<=maxLen) (sY:s.length<=cy) (Fg:cy<=maxLen) (hlen:r.length<=1000000) (ht:ae w) :
  Calls prog 137 #[.slice (some ⟨gx,ox,none⟩) r.length cx,.slice (some ⟨gy,oy,none⟩) s.length cy,.string (aB k)] w fun e w'=>e=.returned (.slice (some ⟨w.heap.size,0,none⟩) r.length r.length)/\aA w w'/\ag w' w.heap.size 0 (aW k r s):=by
 obtain ⟨i0,hi,pJ,hz1,hz2⟩:=info_parts jx;have HI:=oA hi;have HZ0:=oA pJ;have HZ1:=oA hz1;have HZ2:=oA hz2;have HT:=oA ht;have HR:=oA hr;have HS:=oA hs;have HRS:=oA rT;have HSS:=oA rH;have HKK:=oA hk;have HLE:=oA hl;obtain ⟨n,hn⟩:=oZ r.length;have HN:=oA hn;rw [hl,hn] at sY;rw [hl];rw [hn] at hcx hlen |-;unfold maxLen at Fh Fg;clear hi pJ hz1 hz2 hr hs hl hk rT rH ht hn;obtain ⟨kk,sH⟩:=oZ (aB k);rw [sH];have HKE:=oA sH;clear sH
 go_enter func137,ntmps137
 go_wp2_with (at_make;refine wpList_make_full _ rfl _ _ 119 rfl w.heap.size 53 i0 (.string ⟨#[]⟩) 1 underlying119 HI HZ0 HZ1 _ _ _ _ n rfl rfl rfl rfl ?c1 ?c2 ?c3 ?_)
 case c1=>rw [HZ2.out];omega
 case c2=>unfold maxLen;omega
 case c3=>exact oK _
 intro w1 hown oo;have HE1:=oA (iO oo);have hmb:=j9_ hown
 (try rw [Nat.mul_one] at hmb)
 rw [q8_] at hmb;have HB1:=oA hmb.1;clear hown oo hmb;go_wp2_with fail
 go_loopw [14] (fun t wr=>∃ j:Nat,j<=n/\t=.int .i64 j/\Hid (aA w wr)/\Hid (∃ C,wr.heap[w.heap.size]?=some (.cells C.toArray 53 (0,0))/\iG C n j (aW k r s))) (fun t _=>n-(intOf t).toNat)
 case atStart=>exact ⟨0,by omega,rfl,HE1,_,HB1,iG.start n _⟩
 case round =>
  obtain ⟨j,hj,rfl,HX,HCC⟩:=hrel;by_cases hlt:j<n
  ·obtain ⟨b,xi⟩:∃ b,s[j]?=some b:=⟨s[j]'(by rw [HLE.out,HN.out];exact hlt),oB _⟩;obtain ⟨a,sb⟩:∃ a,r[j]?=some a:=⟨r[j]'(by rw [HN.out];exact hlt),oB _⟩;have z1:=HX.cell (HR.cell j a sb);have z2:=HX.cell (HS.cell j b xi);obtain ⟨C,qb,hST⟩:=HCC.out;have HBK:=oA qb;have HST:=oA hST;obtain ⟨v0,tZ⟩:=hST.2.1 j hlt;have L2:Hid (C.toArray[j]?=some (.string v0)):=(by unfold Hid;rw [oR];exact tZ);have HNX:Hid (iG (C.set j (.string (aB (a-k*b)))) n (j+1) (aW k r s)):=hST.set hlt (nY k r s j a b sb xi);have HM:Hid (∀ W,aA wr W->oX 63 #[.string kk,.string (aB b)] W (.string (aB (k*b)))):=fun W hW=>by
    rw [<- HKE.out];exact i_ k b W (by have:=HKK.out;omega) (by have:=(HSS b (oE xi)).1;omega) (HT.ext (HX.trans hW))
   have HU:Hid (∀ W,aA wr W->oX 185 #[.string (aB a),.string (aB (k*b))] W (.string (aB (a-k*b)))):=fun W hW =>
    a8_ a (k*b) W (HRS a (oE sb)) (HSS b (oE xi)).2 (HT.ext (HX.trans hW))
   have xT:(j:Int)<(n:Int):=(by omega);clear xi sb qb hST tZ HCC
   go_upto_region 5 with fail
   refine jE (fun w'=>w'.cell? ⟨gx,ox+j,none⟩=some (.string (aB a))/\w'.cell? ⟨gy,oy+j,none⟩=some (.string (aB b))/\Hid (aA wr w')) 14 (by kernel_rfl) ⟨(aA.drew wr).cell z1,(aA.drew wr).cell z2,aA.drew wr⟩ (fun oh=>?_);refine rA [0,1,2,3,4,5,6,7,8,9,10] ?_
   iterate 11 ((first|(refine rL (v:=?_) (by rfl) (Or.inl ⟨by rfl,?_⟩) ?_;rotate_left;·((intro w' pO);(try dsimp only at pO);(try go_simp);(try with_reducible rfl)))|(refine rW (v:=?_) (by rfl) (Or.inl ⟨by rfl,?_⟩) ?_;rotate_left;·((intro w');(try go_simp);(try with_reducible rfl))));(try simp only [Act.put,aP,aQ,aR]))
   refine rE ?_;refine dh 11 (by kernel_rfl) rfl (fun K hK=>?_);go_simp
   (go_at_call 63;refine (HM _ (oh.2.2)).mono ?_)
   rintro e wz ⟨rfl,ow⟩;go_wp2_with fail;refine hK _ _ ⟨(ow).cell oh.1,(ow).cell oh.2.1,aA.trans oh.2.2 (ow)⟩ (fun oh=>?_);clear hK K
   (try simp only [Act.put,aP,aQ,aR])
   refine dh 12 (by kernel_rfl) rfl (fun K hK=>?_);go_simp
   (go_at_call 185;refine (HU _ (oh.2.2)).mono ?_)
   rintro e wy ⟨rfl,ow⟩;go_wp2_with fail;refine hK _ _ ⟨(ow).cell oh.1,(ow).cell oh.2.1,aA.trans oh.2.2 (ow)⟩ (fun oh=>?_);clear hK K
   (try simp only [Act.put,aP,aQ,aR])
   refine tW (v:=?_) 13 rfl (Or.inl ⟨by rfl,?_⟩) ?_;rotate_left;·((intro w');(try go_simp);(try with_reducible rfl))
   (try simp only [Act.put,aP,aQ,aR])
   have yX:Hid (aA wr wy):=oh.2.2;have hb6:=aJ HBK yX;have HB6:=oA hb6;have k6:=aO hb6;have f6:=cD hb6;have k7:wy.cell? ⟨w.heap.size,j,none⟩=some (.string v0):=(by rw [k6 j];exact L2);clear hb6 k6;refine fw 14 (by kernel_rfl) (by kernel_rfl) (by kernel_rfl) rfl (fun K hK=>?_);go_simp;refine hK _ _ ?_;clear hK K
   (try simp only [Act.put,aP,aQ,aR])
   go_wp2_with fail;go_roundw
   case rel=>exact ⟨j+1,by omega,by go_num,(HX.trans yX).setCell (oK _) _,C.set j (.string (aB (a-k*b))),by rw [<- g8_];exact en HB6 j _,HNX⟩
   case measure=>simp [intOf];omega
  ·obtain rfl:j=n:=(by omega);obtain ⟨C,qb,hST⟩:=HCC.out;have HF:Hid (ag wr w.heap.size 0 (aW k r s)):=hST.row (by rw [eU];exact HN) qb;clear qb hST HCC;go_wp2_with fail;go_ret;exact ⟨rfl,HX,HF⟩
section
variable {P:Program} {ops O:Array Oper} {Q:Exit->Act->World->Prop} {md:Region.Mode} {S:World->Prop} {z n:Nat}
theorem tX (hO:Hid (ops=O)) (i:Nat) {oi:Oper} {v:Value} {f:Nat} {l:Array Bool} {a:Act} {w:World} (hi:ops[i]?=some oi) (hy:Yields P O oi v a) (h:bG P md ops Q S z f (l.setIfInBounds i true) (a.put oi.dst v) w) (hS:S w:=by assumption) (hs:Region.noSelect O=true:=by kernel_rfl) (hf:Region.free md O l i=true:=by kernel_rfl) (hr:(Region.ready md O l).contains i=true:=by kernel_rfl) (hz:decide (i≠z)=true:=by kernel_rfl) (hQ:∀ c a w,Q (.panic c) (a.put oi.dst v) w->Q (.panic c) a w:=by exact fun _ _ _ h=>h):bG P md ops Q S z (f+1) l a w:=K5_ hO i hi hs hf hr hz hQ hy hS h
theorem tY (hO:Hid (ops=O)) (i:Nat) {oi:Oper} {v:Value} {f:Nat} {l:Array Bool} {a:Act} {w:World} (hi:ops[i]?=some oi) (hy:YieldsIf P O S oi v a) (h:bG P md ops Q S z f (l.setIfInBounds i true) (a.put oi.dst v) w) (hS:S w:=by assumption) (hs:Region.noSelect O=true:=by kernel_rfl) (hf:Region.free md O l i=true:=by kernel_rfl) (hr:(Region.ready md O l).contains i=true:=by kernel_rfl) (hz:decide (l.size<=z)=true:=by kernel_rfl) (hQ:∀ c a w,Q (.panic c) (a.put oi.dst v) w->Q (.panic c) a w:=by exact fun _ _ _ h=>h):bG P md ops Q S z (f+1) l a w:=E0_ hO i hi hs hf hr hz hQ hy hS h
end
section
variable {P:Program} {ops O:Array Oper} {Q:Exit->Act->World->Prop} {md:Region.Mode} {S:World->Prop} {z n:Nat}
theorem rS (hO:Hid (ops=O)) {i:Nat} {is:List Nat} {p:Prop} (hl:i<O.size) (h:∀ oi,O[i]=oi->Z6H ops i oi is p):jO (i::is) p:=by
 have hO:ops=O:=hO;subst hO;exact h _ rfl (Array.getElem?_eq_getElem hl)
theorem rX (hO:Hid (ops=O)) {i:Nat} {is:List Nat} {oi:Oper} {v:Value} {f:Nat} {l:Array Bool} {a:Act} {w:World} (hy:Yields P O oi v a) (h:jO is (bG P md ops Q S z f (l.setIfInBounds i true) (a.put oi.dst v) w)) (hS:S w:=by assumption) (hs:Region.noSelect O=true:=by kernel_rfl) (hf:Region.free md O l i=true:=by kernel_rfl) (hr:(Region.ready md O l).contains i=true:=by kernel_rfl) (hz:decide (i≠z)=true:=by kernel_rfl) (hQ:∀ c a w,Q (.panic c) (a.put oi.dst v) w->Q (.panic c) a w:=by exact fun _ _ _ h=>h):Z6H ops i oi is (bG P md ops Q S z (f+1) l a w):=fun hi=>K5_ hO i hi hs hf hr hz hQ hy hS h
theorem rY (hO:Hid (ops=O)) {i:Nat} {is:List Nat} {oi:Oper} {v:Value} {f:Nat} {l:Array Bool} {a:Act} {w:World} (hy:YieldsIf P O S oi v a) (h:jO is (bG P md ops Q S z f (l.setIfInBounds i true) (a.put oi.dst v) w)) (hS:S w:=by assumption) (hs:Region.noSelect O=true:=by kernel_rfl) (hf:Region.free md O l i=true:=by kernel_rfl) (hr:(Region.ready md O l).contains i=true:=by kernel_rfl) (hz:decide (l.size<=z)=true:=by kernel_rfl) (hQ:∀ c a w,Q (.panic c) (a.put oi.dst v) w->Q (.panic c) a w:=by exact fun _ _ _ h=>h):Z6H ops i oi is (bG P md ops Q S z (f+1) l a w):=fun hi=>E0_ hO i hi hs hf hr hz hQ hy hS h
end
end Go.Proofs.YtjlkkofmojgipaaGreatDoor
