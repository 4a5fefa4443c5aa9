import Derived.Test.YtoonaddcfakamaaGreatDoorZAO
import Derived.Test.YtoonaddcfakamaaGreatDoorZAQ
import Derived.Test.YtoonaddcfakamaaGreatDoorZAN
import Derived.Test.YtoonaddcfakamaaGreatDoorZAJ
import Derived.Test.YtoonaddcfakamaaGreatDoorZAC
import Derived.BigQuiet
import Derived.Test.YtoonaddcfakamaaGreatDoorZAE
import Derived.Test.YtoonaddcfakamaaGreatDoorZAD
import Derived.Deep.RegionHeld3
import Derived.Test.YtoonaddcfakamaaGreatDoorZAK
import Derived.Test.YtoonaddcfakamaaGreatDoorZAL
import Derived.Lib.SliceRun
import Derived.WalkSpells
import Derived.Laws.AppendOwnNone
import Derived.Shelf.Spec.TrailingZeros
import Derived.Lib.LaidTab
import Derived.WalkSmall
import Derived.Maps.OwnOps
import Derived.Maps.Views
import Derived.WalkKit
import Derived.Laws.BitsAllLaws
import Derived.Test.YtoonaddcfakamaaGreatDoorZAH
import Derived.Test.YtoonaddcfakamaaGreatDoorZAF
set_option linter.unusedVariables false
set_option linter.unusedSimpArgs false
set_option maxRecDepth 1000000
set_option maxHeartbeats 16000000
namespace Go.Proofs.YtoonaddcfakamaaGreatDoor
open Go.RowKit Go.Maps Go.Proofs.Tryz
theorem Z7v:f_ mM 2=[1,4,4]:=by decide +kernel
theorem Z71:aB (bw [1,4,4] 3)=⟨#[57]⟩/\aB (dK [1,4,4] 3)=⟨#[52]⟩:=by decide +kernel
theorem me (k:Nat) (h:k<10):Lib.itoa (k:Int)=[UInt8.ofNat (48+k)]:=by
 unfold Lib.itoa;rw [if_neg (by omega),Int.toNat_natCast,Lib.decDigits_one h]
theorem Z72:eT mP mM 2=⟨#[50,46,51,46,53,32,60,49,32,48,32,45,52,93,32,60,48,32,49,32,52,93]⟩:=by
 have g0:Lib.itoa 0=[48]:=me 0 (by decide);have g1:Lib.itoa 1=[49]:=me 1 (by decide);have g2:Lib.itoa 2=[50]:=me 2 (by decide);have g3:Lib.itoa 3=[51]:=me 3 (by decide);have g4:Lib.itoa 4=[52]:=me 4 (by decide);have g5:Lib.itoa 5=[53]:=me 5 (by decide);have h6:Lib.itoa (-4)=[45,52]:=by
  unfold Lib.itoa;rw [if_pos (by decide),show (-4:Int).natAbs=4 from rfl,Lib.decDigits_one (by decide)];rfl
 have e1:jy mP=[50,46,51,46,53]:=by
  unfold jy;rw [show mP.map Lib.itoa=[Lib.itoa 2,Lib.itoa 3,Lib.itoa 5] from rfl,g2,g3,g5];rfl
 have t1:h_ [1,0,-4] false=[60,49,32,48,32,45,52,93]:=by
  unfold h_ ir;rw [if_neg (by decide),show ([1,0,-4]:pN).map Lib.itoa=[Lib.itoa 1,Lib.itoa 0,Lib.itoa (-4)] from rfl,g1,g0,h6];rfl
 have t2:h_ [0,1,4] false=[60,48,32,49,32,52,93]:=by
  unfold h_ ir;rw [if_neg (by decide),show ([0,1,4]:pN).map Lib.itoa=[Lib.itoa 0,Lib.itoa 1,Lib.itoa 4] from rfl,g0,g1,g4];rfl
 unfold eT eT eT;rw [show aD mM 0=[1,0,-4] from rfl,show aD mM 1=[0,1,4] from rfl,e1,t1,t2];rfl
theorem Z73:∀ i,i<=mM.length->(eT mP mM i).size<=1000000:=fun i hi=>by
 have h2:(eT mP mM 2).size=22:=by rw [Z72];rfl
 have h1:(eT mP mM 1).size<=(eT mP mM 2).size:=by rw [show eT mP mM 2=eT mP mM 1++(⟨#[32]⟩++⟨(h_ (aD mM 1) false).toArray⟩) from rfl,ByteArray.size_append];omega
 have h0:(eT mP mM 0).size<=(eT mP mM 1).size:=by rw [show eT mP mM 1=eT mP mM 0++(⟨#[32]⟩++⟨(h_ (aD mM 0) false).toArray⟩) from rfl,ByteArray.size_append];omega
 have hi:i=0\/i=1\/i=2:=by simp at hi;omega
 rcases hi with rfl | rfl | rfl <;> omega
theorem Z7B:∀ x∈([[24,38,56]]:pM),aT 1000000000 x/\x.length=3:=by unfold aT;decide +kernel
theorem Z7C:∀ x∈([[1,20,-14],[0,28,-19]]:pM),aT 1000000000 x/\x.length=3:=by unfold aT;decide +kernel
theorem Z7D:∀ x∈([[12,19,28]]:pM),aT 1000000000 x/\x.length=3:=by unfold aT;decide +kernel
theorem Z4M:fF 3 20 [[24,38,56]] [[24,38,56]] [[1,20,-14],[0,28,-19]] [[12,19,28]]:=⟨by decide,by decide,by decide +kernel,by decide +kernel,⟨by decide,Z7B⟩,by decide +kernel,by decide +kernel,by decide +kernel,by decide,by decide,Z7C,Z7D⟩
theorem Z7w:j3 3 [[8,-8,2]] [4,-4,1]=0:=by decide +kernel
theorem Z7x:fY [[8,-8,2]] [4,-4,1] 1=some ([4,-4,1],[0]):=by decide +kernel
theorem Z7y:oS (ea [[8,-8,2]]) [4,-4,1]=[1 / 2]:=by decide +kernel
theorem Z69:cL [[8,-8,2]]=0/\cL (ea [[8,-8,2]])=0/\(ea [[8,-8,2]]).length=3:=by decide +kernel
theorem Z7z:(1 / 2:Rat).den=2:=by decide +kernel
theorem Z7A:gl [[24,38,56]] 1=some 24/\gl [[12,19,28]] 1=some 12/\bU 24=true/\bU 12=true/\aL 24 12=2/\bU (aL 24 12)=true/\dX (aL 24 12)=true:=by decide +kernel
theorem g4_ (w:World) (pT:b9 w) (hp:3<w.heap.size) :
  pI 36 #[] w (.bool true):=by
 have HCX:Hid (∀ W v,aA w W->cP W v mP mC mM->pI 62 #[v] W (.tuple #[.string ⟨#[57]⟩,.string ⟨#[52]⟩,.int .i64 0])):=fun W v hW hv=>by
  have:=U2_ 3 20 mP mC mM [1,4,4] v W hv mR (by decide) (by decide) Z7v (by decide) (pT.ext hW) (ov hp hW.size);rw [show ([1,4,4]:pN).length=3 from rfl,Z71.1,Z71.2] at this;exact this
 have HNM:Hid (∀ W v,aA w W->cP W v mP mC mM->pI 71 #[v] W (.tuple #[.string ⟨#[50,46,51,46,53,32,60,49,32,48,32,45,52,93,32,60,48,32,49,32,52,93]⟩,.int .i64 0])):=fun W v hW hv=>by
  have:=Z2z 3 20 mP mC mM v W hv mR (by decide) Z73 (pT.ext hW) (ov hp hW.size);rw [show mM.length=2 from rfl,Z72] at this;exact this
 have EJ:Hid (∀ W vp v,aA w W->aM W vp mP->aw W v [[-8,8,-2]]->Calls prog 40 #[vp,v] W fun e w'=>∃ a c,e=.returned (.tuple #[.slice a 3 c,.int .i64 2,.int .i64 0])/\aM w' (.slice a 3 c) [4,-4,1]/\aA W w'):=fun W vp v hW qo hv=>by
  refine (h4_ 3 20 mP [[-8,8,-2]] [[8,-8,2]] mM mC vp v W qo hv mPr rfl mD3 (pT.ext hW) (ov hp hW.size) [4,-4,1] [] rfl [4,-4,1] [0] Z7w Z7x (by decide) 2 (fun W' u vr hW' hu hr=>?_)).mono fun e w' ⟨u,h1,h2,h3⟩=>?_
  ·have hd:∀ i,i<1->(([1 / 2]:List Rat).getD i 0).den=2:=fun i hi=>by
    obtain rfl:i=0:=(by omega);exact Z7z
   have h0:gh [1 / 2] 1=2:=by
    show Z7l 1 _=2;rw [hd 0 (by omega)];rfl
   have:=Z0S 3 [[8,-8,2]] [4,-4,1] [1 / 2] u vr W' hu hr Z69.1 Z69.2.1 Z69.2.2.symm (by unfold iD;decide) Z7y
    (fun i hi=>by
     have hi:i=0\/i=1:=(by simp at hi;omega);rcases hi with rfl | rfl;·exact ⟨by decide,by decide⟩
     ·rw [h0];exact ⟨by decide,by decide⟩)
    (fun i hi=>by rw [hd i (by simpa using hi)];exact ⟨by decide,by decide⟩) ((pT.ext hW).ext hW') (ov hp (hW.trans hW').size)
   rw [show ([1 / 2]:List Rat).length=1 from rfl,h0] at this;exact this
  ·obtain ⟨a,c,rfl,-⟩:=h2.open;exact ⟨a,c,h1,h2,h3⟩
 have HCT:Hid (∀ W vp v,aA w W->aM W vp mP->aw W v [[24,38,56]]->pI 39 #[vp,v] W (.tuple #[.int .i64 2,.int .i64 0])):=fun W vp v hW qo hv=>by
  refine E0_ 3 20 mP [[24,38,56]] [[24,38,56]] [[1,20,-14],[0,28,-19]] [[12,19,28]] vp v W qo hv mPr rfl Z4M 2 (fun W' u hW' hu=>?_) (pT.ext hW) (ov hp hW.size);obtain ⟨q1,q2,q3,q4,q5,q6,q7⟩:=Z7A;refine (Z2B 3 20 [[24,38,56]] [[1,20,-14],[0,28,-19]] [[12,19,28]] 24 12 u W' hu Z4M.chk (by decide) Z4M.kR Z4M.kA (by decide) q1 q2 q3 q4 (by decide) q6 (by decide) ((pT.ext hW).ext hW') (ov hp (hW.trans hW').size)).mono fun e w' h=>?_;unfold Z7j at h;rw [if_pos q7,q5] at h;exact h
 have HRE:Hid (∀ W u v,aM W u [4,-4,1]->aM W v [4,-4,1]->pI 45 #[u,v] W (.bool true)):=fun W u v h k=>by
  have:=N6_ [4,-4,1] [4,-4,1] u v W h k;simpa using this
 clear pT hp
 go_enter func36,ntmps36
 obtain ⟨A1,hA1,pz,Ls,sw⟩:=lR w (·<w.heap.size) (fun b h=>h) [2,3,5] (by decide) (by decide) #[.int .i64 2,.int .i64 3,.int .i64 5] rfl 3 rfl;obtain ⟨A2,hA2,rP,Lr,Bf⟩:=lR A1 (·<w.heap.size) (fun b h=>ov h pz.size) [4,-4,1] (by decide) (by decide) #[.int .i64 4,.int .i64 (-4),.int .i64 1] rfl 3 rfl;obtain ⟨A3,MO,va,Lq,zj⟩:=G8_ A2 (·<w.heap.size) (fun b h=>ov h (pz.trans rP).size) (.slice (some ⟨A1.heap.size,0,none⟩) 3 3) [4,-4,1] Bf;obtain ⟨A4,hA4,xt,Lp,DB⟩:=lR A3 (·<w.heap.size) (fun b h=>ov h ((pz.trans rP).trans va).size) [1,0,-4] (by decide) (by decide) #[.int .i64 1,.int .i64 0,.int .i64 (-4)] rfl 3 rfl;obtain ⟨A5,MN,vZ,Lo,Jg⟩:=lR A4 (·<w.heap.size) (fun b h=>ov h (((pz.trans rP).trans va).trans xt).size) [0,1,4] (by decide) (by decide) #[.int .i64 0,.int .i64 1,.int .i64 4] rfl 3 rfl;obtain ⟨A6,ML,Ac,Ln,Jf⟩:=Z3C A5 (·<w.heap.size) (fun b h=>ov h ((((pz.trans rP).trans va).trans xt).trans vZ).size) (.slice (some ⟨A3.heap.size,0,none⟩) 3 3) (.slice (some ⟨A4.heap.size,0,none⟩) 3 3) [1,0,-4] [0,1,4] (DB.ext vZ) Jg;obtain ⟨V7,Lw,JI,CH,hb7⟩:=gU A6 (.slice none 0 0) (.slice none 0 0) (.slice none 0 0);obtain ⟨r0,r1,r2,rf⟩:=cU hb7;have f0:=rf 0;have f1:=rf 1;have f2:=rf 2;have HB7:=oZ (j6 hb7 (.slice (some ⟨w.heap.size,0,none⟩) 3 3) (.slice (some ⟨A2.heap.size,0,none⟩) 1 1) (.slice (some ⟨A5.heap.size,0,none⟩) 2 2));have HXU:=oZ (jn JI (oz _) (.slice (some ⟨w.heap.size,0,none⟩) 3 3) (.slice (some ⟨A2.heap.size,0,none⟩) 1 1) (.slice (some ⟨A5.heap.size,0,none⟩) 2 2));obtain ⟨U7,JM⟩:=pK (((V7.setCell ⟨A6.heap.size,0,none⟩ (.slice (some ⟨w.heap.size,0,none⟩) 3 3)).setCell ⟨A6.heap.size,1,none⟩ (.slice (some ⟨A2.heap.size,0,none⟩) 1 1)).setCell ⟨A6.heap.size,2,none⟩ (.slice (some ⟨A5.heap.size,0,none⟩) 2 2));rw [JM] at HB7 HXU;have HI1:=oZ (sw.now.ext ((((((rP).trans va).trans xt).trans vZ).trans Ac).trans HXU));have HI3:=oZ (zj.now.ext ((((xt).trans vZ).trans Ac).trans HXU));have HI6:=oZ (Jf.now.ext HXU);have HEU:=oZ (((((((pz).trans rP).trans va).trans xt).trans vZ).trans Ac).trans HXU);have ED:Hid (cP U7 (.agg #[.slice (some ⟨w.heap.size,0,none⟩) 3 3,.slice (some ⟨A2.heap.size,0,none⟩) 1 1,.slice (some ⟨A5.heap.size,0,none⟩) 2 2]) mP mC mM):=⟨_,_,_,rfl,HI1,HI3,HI6⟩;obtain ⟨t0,t1,t2,-⟩:=cU HB7;clear sw Bf zj DB Jg Jf pz rP va xt vZ Ac Ls Lr Lq Lp Lo Ln JI CH hb7 rf HI3 HI6 HXU;go_wp2_with fail;clear hA1 hA2 MO hA4 MN ML Lw JM r0 r1 r2 f0 f1 f2;obtain ⟨b1,hb1⟩:=pK w.heap.size;obtain ⟨b2,hb2⟩:=pK A2.heap.size;obtain ⟨b5,hb5⟩:=pK A5.heap.size;obtain ⟨b6,hb6⟩:=pK A6.heap.size;rw [hb1,hb2,hb5] at HB7 ED;rw [hb6] at HB7;rw [hb1] at HI1;rw [hb1,hb2,hb5,hb6];clear hb1 hb2 hb5 hb6 t0 t1 t2;refine (HCX _ _ HEU ED).mono ?_;rintro e w1 ⟨rfl,hE⟩;have HE1:=oZ (HEU.trans hE);have HB1:=oZ (aF HB7 hE);have HT1:=oZ (ED.ext hE);have HI1:=oZ (HI1.ext hE);clear hE HEU HB7 ED HCX;obtain ⟨t0,t1,t2,-⟩:=cU HB1;go_wp2_with fail;clear t0 t1 t2;refine (HNM _ _ HE1 HT1).mono ?_;rintro e w2 ⟨rfl,hE⟩;have HE2:=oZ (HE1.trans hE);have HI2:=oZ (HI1.ext hE);clear hE HE1 HB1 HT1 HI1 HNM;obtain ⟨R1,r7,pz,-,sw⟩:=lR w2 (·<w2.heap.size) (fun b h=>h) [-8,8,-2] (by decide) (by decide) #[.int .i64 (-8),.int .i64 8,.int .i64 (-2)] rfl 3 rfl;obtain ⟨R2,hR2,rP,-,zj⟩:=G8_ R1 (·<w2.heap.size) (fun b h=>ov h pz.size) (.slice (some ⟨w2.heap.size,0,none⟩) 3 3) [-8,8,-2] sw;have HM:=oZ zj.now;have HER:=oZ (HE2.trans (pz.trans rP));have HIR:=oZ (HI2.ext (pz.trans rP));clear sw zj pz rP;go_wp2_with fail;clear r7 hR2;refine (EJ _ _ _ HER HIR HM).mono ?_;rintro e w3 ⟨a3,c3,rfl,Dz,hE⟩;have HE3:=oZ (HER.trans hE);have HI3:=oZ (HIR.ext hE);have HD3:=oZ Dz;clear hE HER HIR HM HI2 HE2 Dz EJ;obtain ⟨R1,r7,pz,-,sw⟩:=lR w3 (·<w3.heap.size) (fun b h=>h) [24,38,56] (by decide) (by decide) #[.int .i64 24,.int .i64 38,.int .i64 56] rfl 3 rfl;obtain ⟨R2,hR2,rP,-,DB⟩:=G8_ R1 (·<w3.heap.size) (fun b h=>ov h pz.size) (.slice (some ⟨w3.heap.size,0,none⟩) 3 3) [24,38,56] sw;have HM:=oZ DB.now;have HER:=oZ (HE3.trans (pz.trans rP));have HIR:=oZ (HI3.ext (pz.trans rP));have HDR:=oZ (HD3.ext (pz.trans rP));clear sw DB pz rP;go_wp2_with fail;clear r7 hR2;refine (HCT _ _ _ HER HIR HM).mono ?_;rintro e w4 ⟨rfl,hE⟩;have HE4:=oZ (HER.trans hE);have HD4:=oZ (HDR.ext hE);clear hE HER HIR HM HI3 HE3 HDR HD3 HCT;obtain ⟨R1,r7,pz,-,sw⟩:=lR w4 (·<w4.heap.size) (fun b h=>h) [4,-4,1] (by decide) (by decide) #[.int .i64 4,.int .i64 (-4),.int .i64 1] rfl 3 rfl;have HM:=oZ sw.now;have HER:=oZ (HE4.trans pz);have HDR:=oZ (HD4.ext pz);clear sw pz;go_wp2_with fail;clear r7;refine q_ (HRE _ _ _ HDR HM) (HER.trans) ?_;intro w5 HE5;go_wp2_with fail;go_ret;exact ⟨rfl,HE5⟩
def Z8b (_:World) (v:Value) (x:Int):Prop:=v=.string (aB x)
theorem b8_ (a b:Int):((aB a).toList == (aB b).toList)=decide (a=b):=by rw [H2_,H2_,Z2M]
abbrev gW (w:World) (v:Value) (xs:pN):Prop:=aN 1 (ae Z8b) w v xs
theorem gW.ext {w w':World} {v:Value} {xs:pN} (h:gW w v xs) (he:aA w w'):gW w' v xs:=aN.ext (fun _ _ _ _ _ h=>h) h he
theorem o0_ (xs ys:pN) (u v:Value) (w:World) (h:gW w u xs) (k:gW w v ys) :
  pI 99 #[u,v] w (.bool (xs == ys)):=by
 obtain ⟨a,c,rfl,h1,h2,-,hc⟩:=ae.open h;obtain ⟨a',c',rfl,k1,k2,-,kc⟩:=ae.open k;have HC:=oZ hc;have KC:=oZ kc;clear hc kc h k;unfold maxLen at h2 k2;by_cases hl:xs.length=ys.length
 ·have hn:((xs.length:Int) != (ys.length:Int))=false:=by simp [hl]
  have rq:xs.length<=ys.length:=by omega
  have yo:ys.length<=xs.length:=by omega
  have HL:=oZ hl;clear hl
  go_enter func99,ntmps99
  go_wp2
  go_loopw [13] (fun t wr=>∃ j:Nat,j<=xs.length/\t=.int .i64 j/\aA w wr/\Hid (xs.take j=ys.take j)) (fun t _=>xs.length-(intOf t).toNat)
  case atStart=>exact ⟨0,by omega,rfl,aA.refl _,rfl⟩
  case round =>
   obtain ⟨j,hj,rfl,hE,HT⟩:=hrel;by_cases hlt:j<xs.length
   ·obtain ⟨b,off,rfl,hb,pP⟩:=HC (by intro e;simp [e] at hlt);obtain ⟨b',off',rfl,ql,pq⟩:=KC.out (by intro e;simp [e] at rq;simp [rq] at hlt);obtain ⟨x,hx⟩:∃ x,xs[j]?=some x:=⟨xs[j],oc hlt⟩;obtain ⟨y,hy⟩:∃ y,ys[j]?=some y:=⟨ys[j]'(by omega),oc _⟩;obtain ⟨z1,e1,g1⟩:=pP j x hx;obtain ⟨z2,e2,g2⟩:=pq j y hy;obtain rfl:z1=.string (aB x):=e1;obtain rfl:z2=.string (aB y):=e2;have g1:=hE.cell g1;have g2:=hE.cell g2;have q1:(j:Int)<(xs.length:Int):=(by omega);have q2:(j:Int)<(ys.length:Int):=(by omega);have HX:=oZ hx;have HY:=oZ hy;have hs:=b8_ x y;clear pP pq hx hy;by_cases hxy:x=y
    ·rw [pE hxy] at hs;have sL:((aB x).toList != (aB y).toList)=false:=(by unfold bne;rw [hs];rfl);have A7:Hid (xs.take (j+1)=ys.take (j+1)):=by
      unfold Hid;rw [ou,ou,HX.out,HY.out,HT.out,hxy]
     clear hxy
     go_wp2
     go_quiet (fail)
     go_wp2
     go_roundw
     case rel=>exact ⟨j+1,by omega,by go_num,aA.draws hE _,A7⟩
     case measure=>simp [intOf];omega
    ·rw [pD hxy] at hs;have sL:((aB x).toList != (aB y).toList)=true:=(by unfold bne;rw [hs];rfl);have HF:Hid ((xs == ys)=false):=by
      unfold Hid;rw [beq_eq_false_iff_ne];intro e;have e1:=HX.out;have e2:=HY.out;rw [e,e2] at e1;exact hxy (by simpa using e1.symm)
     clear hxy
     go_wp2
     go_quiet (fail)
     go_wp2
     go_ret;rw [HF.out];exact ⟨rfl,aA.draws hE _⟩
   ·have hge:xs.length<=j:=(by omega);have A0:Hid ((xs == ys)=true):=by
     unfold Hid;have e:=HT.out;rw [List.take_of_length_le (by omega),List.take_of_length_le (by omega)] at e;simp [e]
    go_wp2
    go_ret;rw [A0.out];exact ⟨rfl,hE⟩
 ·have hn:((xs.length:Int) != (ys.length:Int))=true:=by simp;omega
  have HF:Hid ((xs == ys)=false):=by unfold Hid;rw [beq_eq_false_iff_ne];intro e;exact hl (by rw [e])
  clear hl
  go_enter func99,ntmps99
  go_wp2
  go_ret;rw [HF.out];exact ⟨rfl,aA.refl _⟩
theorem gW.of_nums {w:World} {v:Value} {X:pN} (h:aN 1 numC w v X):gW w v X:=by
 obtain ⟨us,h1,h2,h3,h4⟩:=h;exact ⟨us,h1,h2,h3,fun j u x hu hx=>⟨_,h4 j u x hu hx,rfl⟩⟩
def jl (n k:Nat) (X:pN) (n' k':Nat) (Y:pN):Bool:=decide (n=n') && decide (k=k') && (X == Y)
theorem Z0K (n k:Nat) (X:pN) (n' k':Nat) (Y:pN) (u v:Value) (w:World) (h:gX w u n k X) (h':gX w v n' k' Y) :
  pI 28 #[u,v] w (.bool (jl n k X n' k' Y)):=by
 obtain ⟨r,rfl,hr⟩:=h;obtain ⟨r',rfl,wV⟩:=h';have HE:Hid (∀ W,aA w W->pI 99 #[r,r'] W (.bool (X == Y))):=fun W hW=>o0_ X Y r r' W ((gW.of_nums hr).ext hW) ((gW.of_nums wV).ext hW);obtain ⟨a,c,rfl,-⟩:=aN.open hr;obtain ⟨a',c',rfl,-⟩:=aN.open wV;obtain ⟨w1,pt⟩:=pK (w.alloc (.cells #[.int .i64 n,.int .i64 k,.slice a X.length c] 50));obtain ⟨w2,rZ⟩:=pK (w1.alloc (.cells #[.int .i64 n',.int .i64 k',.slice a' Y.length c'] 50));have hb1:w1.heap[w.heap.size]?=some (.cells #[.int .i64 n,.int .i64 k,.slice a X.length c] 50 (0,0)):=by rw [<- pt];exact dq w _ _
 have hb2:w2.heap[w1.heap.size]?=some (.cells #[.int .i64 n',.int .i64 k',.slice a' Y.length c'] 50 (0,0)):=by rw [<- rZ];exact dq w1 _ _
 have hE1:aA w w1:=by rw [<- pt];exact aA.alloc _ _
 have hE2:aA w1 w2:=by rw [<- rZ];exact aA.alloc _ _
 have HX:Hid (aA w w2):=hE1.trans hE2;have k1:=ah (aF hb1 hE2);have k2:=ah hb2;clear hr wV hb1 hb2 hE1 hE2;by_cases c1:n=n'
 ·by_cases c2:k=k'
  ·have HD:Hid (jl n k X n' k' Y=(X == Y)):=(by unfold Hid jl;rw [pE c1,pE c2];simp);subst c1;subst c2
   go_enter func28,ntmps28
   go_wp2_with fail;refine (HE w2 HX).mono ?_;rintro e w3 ⟨rfl,h3⟩;have HE3:Hid (aA w w3):=HX.trans h3;clear h3 HE;go_wp2_with fail;go_ret;exact ⟨by rw [HD.out];rfl,HE3⟩
  ·have HD:Hid (jl n k X n' k' Y=false):=(by unfold Hid jl;rw [pD c2];simp);have q2:((k:Int) == (k':Int))=false:=beq_eq_false_iff_ne.2 (by omega);subst c1
   go_enter func28,ntmps28
   go_wp2_with fail;go_ret;exact ⟨by rw [HD.out];rfl,HX⟩
 ·have HD:Hid (jl n k X n' k' Y=false):=by unfold Hid jl;rw [pD c1];simp
  have q1:((n:Int) == (n':Int))=false:=beq_eq_false_iff_ne.2 (by omega)
  go_enter func28,ntmps28
  go_wp2_with fail;go_ret;exact ⟨by rw [HD.out];rfl,HX⟩
theorem Z1p (x:Int) (o:Bool) (w:World) (hx:(aB x).size<=10000000000) :
  pI 104 #[.string (aB x),.bool o] w (.string (aB (dZ x o))):=by
 have HN:=oZ (lf x w hx);cases o
 ·have HD:Hid (dZ x false=x):=rfl
  go_enter func104,ntmps104
  go_wp2_with fail;go_ret;exact ⟨by rw [HD.out];rfl,aA.refl _⟩
 ·have HD:Hid (dZ x true=-x):=rfl
  go_enter func104,ntmps104
  go_wp2_with fail;refine p_ HN ?_;intro w3 HE3;clear HN;go_wp2_with fail;go_ret;exact ⟨by rw [HD.out];rfl,HE3⟩
def ff (l:List UInt8):Bool:=l.all cI && (decide (l.length=1) || (decide (1<l.length) && decide (l.head?≠some 48)))
theorem Q5_ (c:UInt8):cI c=true↔48<=(c.toNat:Int)/\(c.toNat:Int)<=57:=by
 unfold cI;rw [decide_eq_true_eq];omega
theorem w1_ (m:ByteArray) (w:World) (hm:m.size<=100000) :
  pI 303 #[.string m] w (.bool (ff m.data.toList)):=by
 obtain ⟨cap,W1,hcv,hE1,pP⟩:=c4_ m w;have HE1:=oZ hE1;have HC:=oZ pP;clear hE1 pP
 go_enter func303,ntmps303
 go_wp2_with fail;clear hcv
 go_loopw [8] (fun t wr=>∃ j:Nat,j<=m.size/\t=.int .i64 j/\aA w wr/\aA W1 wr/\Hid ((m.data.toList.take j).all cI=true)) (fun t _=>m.size+1-(intOf t).toNat)
 case atStart=>exact ⟨0,by omega,rfl,HE1,aA.refl _,rfl⟩
 case round =>
  obtain ⟨j,hj,rfl,hE,sX,HA⟩:=hrel;have HE:=oZ hE;have HE':=oZ sX;by_cases hlt:j<m.size
  ·obtain ⟨c,hc⟩:∃ c,m.data.toList[j]?=some c:=⟨_,mL m j hlt⟩;have g1:=sX.cell (HC j c hc);have Np:(c.toNat:Int)<=255:=(by have:=c.toNat_lt;omega);have HT1:Hid ((m.data.toList.take (j+1)).all cI=(cI c)):=by
    unfold Hid;rw [ou,hc,List.all_append,HA.out];simp
   have yO:Hid (cI c=false->ff m.data.toList=false):=by
    intro h;have:m.data.toList.all cI=false:=by
     rw [List.all_eq_false];exact ⟨c,og hc,by simp [h]⟩
    unfold ff;rw [this];rfl
   clear hc hE sX;by_cases h1:(c.toNat:Int)<48
   ·have HF:Hid (ff m.data.toList=false):=yO (by rw [<- Bool.not_eq_true,Q5_];omega);go_wp2_with fail;go_ret;exact ⟨by rw [HF.out];rfl,HE⟩
   ·by_cases h2:57<(c.toNat:Int)
    ·have HF:Hid (ff m.data.toList=false):=yO (by rw [<- Bool.not_eq_true,Q5_];omega);go_wp2_with fail;go_ret;exact ⟨by rw [HF.out];rfl,HE⟩
    ·have HD:Hid ((m.data.toList.take (j+1)).all cI=true):=by
      unfold Hid;rw [HT1.out,Q5_];omega
     go_wp2_with fail;go_roundw
     case rel=>exact ⟨j+1,by omega,by go_num,HE,HE',HD⟩
     case measure=>simp [intOf];omega
  ·obtain rfl:j=m.size:=(by omega);have HL:Hid (m.data.toList.length=m.size):=(Lib.size_eq m).symm;have yO:Hid (m.data.toList.all cI=true):=by
    unfold Hid;have:=HA.out
    rwa [List.take_of_length_le (by rw [<- Lib.size_eq];omega)] at this
   by_cases h0:m.size=1
   ·have HV:Hid (ff m.data.toList=true):=(by unfold Hid ff;rw [yO.out,HL.out,pE h0];rfl);have q0:((m.size:Int) == 1)=true:=beq_iff_eq.2 (by omega);go_wp2_with fail;go_ret;exact ⟨by rw [HV.out];rfl,HE⟩
   ·have q0:((m.size:Int) == 1)=false:=beq_eq_false_iff_ne.2 (by omega);by_cases h1:1<m.size
    ·have q1:1<(m.size:Int):=(by omega);have hb:=mL m 0 (by omega);have HV:Hid (ff m.data.toList=((m[0].toNat:Int) != 48)):=by
      unfold Hid ff;have e1:m.data.toList.head?=some m[0]:=(by rw [List.head?_eq_getElem?];exact hb);rw [yO.out,HL.out,pD h0,pE h1,e1,Bool.true_and,Bool.true_and,Bool.false_or,Bool.eq_iff_iff];simp only [bne_iff_ne,ne_eq,Option.some.injEq,decide_eq_true_eq];rw [<- UInt8.toNat_inj];show ¬ (m[0].toNat=48)↔_;omega
     clear hb;go_wp2_with fail;go_ret;exact ⟨by rw [HV.out];rfl,HE⟩
    ·have q1:¬ 1<(m.size:Int):=(by omega);have HV:Hid (ff m.data.toList=false):=(by unfold Hid ff;rw [HL.out,pD h0,pD h1];simp);go_wp2_with fail;go_ret;exact ⟨by rw [HV.out];rfl,HE⟩
def nc (l:List UInt8):Int:=if ff l=true/\l.length<=400 then 0 else 2
theorem q9_ (m:ByteArray) (w:World) (hm:m.size<=100000) :
  pI 233 #[.string m] w (.int .i64 (nc m.data.toList)):=by
 have HC:=oZ (w1_ m w hm);have HL:Hid (m.data.toList.length=m.size):=(Lib.size_eq m).symm;by_cases h:ff m.data.toList=true
 ·rw [h] at HC;by_cases h4:400<m.size
  ·have HV:Hid (nc m.data.toList=2):=if_neg (by rw [HL.out];omega);have q1:400<(m.size:Int):=by omega
   go_enter func233,ntmps233
   go_wp2_with fail;refine p_ HC ?_;intro w2 HE2;clear HC;go_wp2_with fail;go_ret;exact ⟨by rw [HV.out];rfl,HE2⟩
  ·have HV:Hid (nc m.data.toList=0):=if_pos ⟨h,by rw [HL.out];omega⟩;have q1:¬ 400<(m.size:Int):=by omega
   go_enter func233,ntmps233
   go_wp2_with fail;refine p_ HC ?_;intro w2 HE2;clear HC;go_wp2_with fail;go_ret;exact ⟨by rw [HV.out];rfl,HE2⟩
 ·have hf:ff m.data.toList=false:=by simpa using h
  rw [hf] at HC;have HV:Hid (nc m.data.toList=2):=if_neg (fun e=>h e.1)
  go_enter func233,ntmps233
  go_wp2_with fail;refine p_ HC ?_;intro w2 HE2;clear HC;go_wp2_with fail;go_ret;exact ⟨by rw [HV.out];rfl,HE2⟩
theorem Z0z (n:Nat):ff (aE n).data.toList=true:=by
 obtain ⟨h1,-,h3,h4⟩:=na (n+1) n (by omega);have e:(aE n).data.toList=Lib.decDigits n:=by rw [<- Lib.toList_data,jP]
 unfold ff;rw [e,h1,Bool.true_and];by_cases h0:n=0
 ·subst h0;have:Lib.decDigits 0=[48]:=by rw [Lib.decDigits_one (by omega)];rfl
  rw [this];rfl
 ·have h5:(Lib.decDigits n).head?≠some 48:=fun h=>h0 (h4 h);have h6:=List.length_pos_iff.2 h3;rw [pE h5,Bool.and_true];by_cases h7:(Lib.decDigits n).length=1;·rw [pE h7];rfl
  ·rw [pE (show 1<(Lib.decDigits n).length by omega),Bool.or_true]
theorem E8_ (x:Int) (w:World) (hx:(aE x.natAbs).size<=400) :
  pI 148 #[.string (aB x)] w (.int .i64 0):=by
 have HS:=oZ (km x w);have HC:Hid (∀ W,pI 233 #[.string (aE x.natAbs)] W (.int .i64 0)):=fun W=>by
  have h:=q9_ (aE x.natAbs) W (by omega);have hv:nc (aE x.natAbs).data.toList=0:=if_pos ⟨Z0z _,by rw [<- Lib.size_eq];exact hx⟩;rw [hv] at h;exact h
 by_cases hn:x<0
 ·have hz:((aE x.natAbs).toList == [48])=false:=by
   rw [jP,show ([48]:List UInt8)=Lib.decDigits 0 by rw [Lib.decDigits_one (by omega)];rfl,T4_];exact pD (by omega)
  rw [pE hn] at HS;obtain ⟨d,hd⟩:=pK (aE x.natAbs);rw [hd] at HS HC hz
  go_enter func148,ntmps148
  go_wp2_with fail;refine p_ HS ?_;intro w2 HE2;clear HS;go_wp2_with fail;refine (HC w2).mono ?_;rintro e w3 ⟨rfl,pS⟩;have HE3:Hid (aA w w3):=HE2.trans pS;clear pS HC;go_wp2_with fail;go_ret;exact ⟨rfl,HE3⟩
 ·rw [pD hn] at HS;obtain ⟨d,hd⟩:=pK (aE x.natAbs);rw [hd] at HS HC
  go_enter func148,ntmps148
  go_wp2_with fail;refine p_ HS ?_;intro w2 HE2;clear HS;go_wp2_with fail;refine (HC w2).mono ?_;rintro e w3 ⟨rfl,pS⟩;have HE3:Hid (aA w w3):=HE2.trans pS;clear pS HC;go_wp2_with fail;go_ret;exact ⟨rfl,HE3⟩
theorem Z0D (n k:Nat) (X:pN) (u:Value) (w:World) (h:gX w u n k X) (hn:n<=12) (hk:k<=n) (hl:X.length=(aO n k).length) (hd:∀ x∈X,(aE x.natAbs).size<=400) :
  pI 58 #[u] w (.int .i64 0):=by
 obtain ⟨r,rfl,hr⟩:=h;obtain ⟨a,c,rfl,h1,h2,-,hc⟩:=ae.open (gW.of_nums hr);unfold maxLen at h2;obtain ⟨w1,pt⟩:=pK (w.alloc (.cells #[.int .i64 n,.int .i64 k,.slice a X.length c] 50));have hb1:w1.heap[w.heap.size]?=some (.cells #[.int .i64 n,.int .i64 k,.slice a X.length c] 50 (0,0)):=by rw [<- pt];exact dq w _ _
 have hE1:aA w w1:=by rw [<- pt];exact aA.alloc _ _
 have hG:=F9_ n k w1;rw [Z2v hn hk] at hG;have HG:=oZ hG;have HW:Hid (∀ x∈X,∀ W,pI 148 #[.string (aB x)] W (.int .i64 0)):=fun x hx W=>E8_ x W (hd x hx);have HC:=oZ hc;have k1:=ah hb1;have HB:=oZ hb1;have HE1:=oZ hE1;obtain ⟨m,hm⟩:=pK ((aO n k).length);rw [hm] at hl;have HL:=oZ hl;have HM:=oZ hm;have HA:Hid (∀ W,Calls prog 103 #[.int .i64 n,.int .i64 k] W fun e w'=>∃ a6 c6,e=.returned (.slice a6 m c6)/\aA W w'):=fun W=>(j8_ n k hn hk W).mono fun e w' ⟨v,h1,h2,h3⟩=>by
  obtain ⟨a6,c6,rfl,-⟩:=h3.open;rw [hm] at h1;exact ⟨a6,c6,h1,h2⟩
 rw [hl] at k1 h1 HB pt |-;clear hb1 hE1 hr hc hG hd hl hm
 go_enter func58,ntmps58
 go_wp2_with fail;refine HG.mono ?_;rintro e w2 ⟨rfl,hE2⟩;have hb2:=aF HB hE2;have d0:=ah hb2 0;have d1:=ah hb2 1;have d2:=ah hb2 2;simp only [pC,o9,o_] at d0 d1 d2;have HE2:Hid (aA w w2):=HE1.trans hE2;clear hE2 HG k1 pt hb2;go_wp2_with fail;have z1:w2.drew.cell? ⟨w.heap.size,0,none⟩=some (.int .i64 n):=d0;have z2:w2.drew.cell? ⟨w.heap.size,1,none⟩=some (.int .i64 k):=d1;have z3:w2.drew.cell? ⟨w.heap.size,2,none⟩=some (.slice a m c):=d2;have z4:Hid (aA w w2.drew):=HE2.trans (aA.drew _);clear d0 d1 d2
 go_region_held3 (fun w'=>w'.cell? ⟨w.heap.size,0,none⟩=some (.int .i64 n)/\w'.cell? ⟨w.heap.size,1,none⟩=some (.int .i64 k)/\w'.cell? ⟨w.heap.size,2,none⟩=some (.slice a m c)/\Hid (aA w w'))
  (first | exact ⟨z1,z2,z3,z4⟩ | go_keep)
  (first
   | (go_at_call 103;with_reducible refine (HA.out _).mono ?_;rintro e w6 ⟨a6,c6,rfl,pR⟩;have q1:=pR.cell (a:=⟨w.heap.size,0,none⟩) (v:=.int .i64 n) (by assumption);have q2:=pR.cell (a:=⟨w.heap.size,1,none⟩) (v:=.int .i64 k) (by assumption);have q3:=pR.cell (a:=⟨w.heap.size,2,none⟩) (v:=.slice a m c) (by assumption);have q4:=oZ (aA.trans (Hid.out (p:=aA w _) (by assumption)) pR);(try clear z1 z2 z3 z4);have z1:=q1;have z2:=q2;have z3:=q3;have z4:=q4;clear pR q1 q2 q3 q4))
 all_goals
  go_wp2_with fail;have Z3:=oZ z3;clear z1 z2 z3
  go_loopw [28] (fun t wr=>∃ j:Nat,j<=m/\t=.int .i64 j/\Hid (aA w wr)/\Hid (wr.cell? ⟨w.heap.size,2,none⟩=some (.slice a m c))) (fun t _=>m+1-(intOf t).toNat)
  case atStart=>exact ⟨0,by omega,rfl,z4.out,Z3.out⟩
  case round =>
   obtain ⟨j,hj,rfl,HX,HD⟩:=hrel;by_cases hlt:j<m
   ·obtain ⟨x,hx⟩:∃ x,X[j]?=some x:=⟨_,oc (by have:=HL.out;omega)⟩;obtain ⟨b,off,rfl,hb,pP⟩:=HC (by intro e;rw [e] at hx;simp at hx);obtain ⟨z9,e1,g1⟩:=pP j x hx;obtain rfl:z9=.string (aB x):=e1;have g1:=HX.cell g1;have q1:(j:Int)<(m:Int):=(by omega);have HK:=oZ (HW x (og hx));clear pP hx hb;go_wp2_with fail;refine (HK _).mono ?_;rintro e w7 ⟨rfl,h7⟩;have zo:Hid (aA w w7):=HX.trans h7;have HD7:=oZ (h7.cell HD);clear h7 HK;go_wp2_with fail;go_roundw
    case rel=>exact ⟨j+1,by omega,by go_num,zo,HD7⟩
    case measure=>simp [intOf];omega
   ·obtain rfl:j=m:=(by omega);go_wp2_with fail;go_ret;exact ⟨rfl,HX⟩
theorem q6_ (X:pN) {B:Nat} (hB:∀ x∈X,x.natAbs<=B):∀ i,i<=X.length->dw X i<=B
 | 0,_=>by simp [dw]
 | i+1,h=>by
  obtain ⟨x,hx⟩:∃ x,X[i]?=some x:=⟨_,oc (by omega)⟩;rw [k_ hx];have h1:=q6_ X hB i (by omega);have h2:=hB x (og hx);by_cases h0:dw X i=0;·rw [h0,Nat.gcd_zero_left];exact h2
  ·exact ow (Nat.gcd_le_left _ (by omega)) h1
theorem i9_ (X:pN) (v:Value) (w:World) (h:aN 1 numC w v X) (HG:Hid (∀ i x,X[i]?=some x->∀ W,aA w W->pI 209 #[.string (aB (dw X i:Int)),.string (aB x)] W (.string (aB (dw X (i+1):Int))))) :
  pI 107 #[v] w (.string (aB (bZ X:Int))):=by
 obtain ⟨a,c,rfl,h1,h2,-,hc⟩:=ae.open (gW.of_nums h);unfold maxLen at h2;have HC:=oZ hc;clear h hc;obtain ⟨m,hm⟩:=pK X.length;have HM:=oZ hm;have HL:Hid (bZ X=dw X m):=by unfold Hid bZ;rw [hm]
 have HZ:Hid (aB (dw X 0:Int)=⟨#[48]⟩):=by
  unfold Hid;show aB 0=_;decide +kernel
 rw [hm] at h1 |-;clear hm
 go_enter func107,ntmps107
 go_wp2_with fail
 go_loopw [3,8] (fun o t wr=>∃ j:Nat,j<=m/\t=.int .i64 j/\o=.string (aB (dw X j:Int))/\Hid (aA w wr)) (fun _ t _=>m+1-(intOf t).toNat)
 case atStart=>exact ⟨0,by omega,rfl,by rw [HZ.out],aA.refl _⟩
 case round =>
  obtain ⟨j,hj,rfl,rfl,HX⟩:=hrel;by_cases hlt:j<m
  ·obtain ⟨x,hx⟩:∃ x,X[j]?=some x:=⟨_,oc (by have:=HM.out;omega)⟩;obtain ⟨b,off,rfl,hb,pP⟩:=HC (by intro e;rw [e] at hx;simp at hx);obtain ⟨z9,e1,g1⟩:=pP j x hx;obtain rfl:z9=.string (aB x):=e1;have g1:=HX.cell g1;have q1:(j:Int)<(m:Int):=(by omega);have HK:=oZ (HG j x hx wr HX);obtain ⟨s0,hs0⟩:=pK (aB (dw X j:Int));obtain ⟨s1,hs1⟩:=pK (aB (dw X (j+1):Int));have HS1:=oZ hs1;rw [hs0,hs1] at HK;rw [hs0];clear pP hx hb hs0 hs1;go_wp2_with fail;refine HK.mono ?_;rintro e w7 ⟨rfl,h7⟩;have zo:Hid (aA w w7):=HX.trans h7;clear h7 HK;go_wp2_with fail;go_roundw
   case rel=>exact ⟨j+1,by omega,by go_num,by rw [HS1.out],zo⟩
   case measure=>simp [intOf];omega
  ·obtain rfl:j=m:=(by omega);go_wp2_with fail;go_ret;exact ⟨by rw [HL.out];rfl,HX⟩
theorem Z22 {X:pN} {B:Nat} (h0:0<B) (hB:∀ x∈X,x.natAbs<B) {i:Nat} (hi:i<=X.length):dw X i<B:=by
 have:=q6_ X (B:=B-1) (fun x hx=>by have:=hB x hx;omega) i hi;omega
def K9_ (X:pN):Prop:=∀ x∈X,x.natAbs<10^400
theorem X0_ {x:Int} (h:x.natAbs<10^400):(aE x.natAbs).size<=400/\(aB x).size<=401:=by
 have h1:=kZ x.natAbs 400 h (by decide);have h2:=fx x;exact ⟨h1,by omega⟩
theorem O7_ (X:pN) (v:Value) (w:World) (h:aN 1 numC w v X) (hd:K9_ X) (ht:ag w) :
  pI 107 #[v] w (.string (aB (bZ X:Int))):=by
 refine i9_ X v w h fun i x hx W hW=>?_;have h2:((dw X i:Nat):Int).natAbs<10^400:=by
  rw [Int.natAbs_natCast];exact Z22 (Nat.pow_pos (by decide)) hd (Nat.le_of_lt (od.1 hx).1)
 have h3:=b6_ (dw X i:Int) x W (by have:=(X0_ h2).2;omega) (by have:=(X0_ (hd x (og hx))).2;omega) (ht.ext hW);rw [Int.natAbs_natCast,<- k_ hx,<- eb] at h3;exact h3
structure mF (n k:Nat) (X:pN):Prop where
 n12:n<=12
 kn:k<=n
 len:X.length=(aO n k).length
 dig:K9_ X
theorem R9_ {n k:Nat} {X:pN} (hR:mF n k X) (u:Value) (w:World) (h:gX w u n k X) :
  pI 58 #[u] w (.int .i64 0) :=
 Z0D n k X u w h hR.n12 hR.kn hR.len fun x hx=>(X0_ (hR.dig x hx)).1
theorem q8_ {n k:Nat} {X:pN} (hR:mF n k X) (u:Value) (w:World) (h:gX w u n k X) (ht:ag w) :
  pI 61 #[u] w (.tuple #[.string (aB (bZ X:Int)),.int .i64 0]):=by
 have HK:Hid (∀ W,aA w W->pI 58 #[u] W (.int .i64 0)):=fun W hW=>R9_ hR u W (h.ext hW);obtain ⟨r,rfl,hr⟩:=h;have HN:Hid (∀ W,aA w W->pI 107 #[r] W (.string (aB (bZ X:Int)))):=fun W hW=>O7_ X r W (aN.ext numC.mono' hr hW) hR.dig (ht.ext hW);obtain ⟨a,c,rfl,-⟩:=aN.open hr;obtain ⟨w1,pt⟩:=pK (w.alloc (.cells #[.int .i64 n,.int .i64 k,.slice a X.length c] 50));have hb1:w1.heap[w.heap.size]?=some (.cells #[.int .i64 n,.int .i64 k,.slice a X.length c] 50 (0,0)):=by rw [<- pt];exact dq w _ _
 have HE1:Hid (aA w w1):=by rw [<- pt];exact aA.alloc _ _
 have k1:=ah hb1;have HB:=oZ hb1;clear hb1 hr hR ht
 go_enter func61,ntmps61
 go_wp2_with fail;refine (HK w1 HE1).mono ?_;rintro e w2 ⟨rfl,h2⟩;have HE2:Hid (aA w w2):=HE1.trans h2;have k2:=ah (aF HB h2);clear h2 HK k1 pt;go_wp2_with fail;refine (HN w2 HE2).mono ?_;rintro e w3 ⟨rfl,h3⟩;have HE3:Hid (aA w w3):=HE2.trans h3;clear h3 HN;go_wp2_with fail;go_ret2;exact ⟨rfl,HE3⟩
theorem Z2J (x:Int):((aB x).toList == [48])=decide (x=0):=by
 have h:=b8_ x 0;have e:(aB 0).toList=[48]:=by decide +kernel
 rw [e] at h;exact h
theorem Z46 {n k:Nat} {X:pN} (hd:K9_ X) (u:Value) (w:World) (h:gX w u n k X) (ht:ag w) :
  pI 149 #[u] w (.bool (decide (bZ X=0))):=by
 obtain ⟨r,rfl,hr⟩:=h;have HN:Hid (∀ W,aA w W->pI 107 #[r] W (.string (aB (bZ X:Int)))):=fun W hW=>O7_ X r W (aN.ext numC.mono' hr hW) hd (ht.ext hW);obtain ⟨a,c,rfl,-⟩:=aN.open hr;obtain ⟨w1,pt⟩:=pK (w.alloc (.cells #[.int .i64 n,.int .i64 k,.slice a X.length c] 50));have hb1:w1.heap[w.heap.size]?=some (.cells #[.int .i64 n,.int .i64 k,.slice a X.length c] 50 (0,0)):=by rw [<- pt];exact dq w _ _
 have HE1:Hid (aA w w1):=by rw [<- pt];exact aA.alloc _ _
 have k1:=ah hb1;have hz:=Z2J (bZ X:Int);have HD:Hid (decide ((bZ X:Int)=0)=decide (bZ X=0)):=by unfold Hid;congr 1;exact propext ⟨fun h=>by omega,fun h=>by omega⟩
 obtain ⟨s,hs⟩:=pK (aB (bZ X:Int));rw [hs] at HN hz;clear hb1 hr hd ht hs
 go_enter func149,ntmps149
 go_wp2_with fail;refine (HN w1 HE1).mono ?_;rintro e w3 ⟨rfl,h3⟩;have HE3:Hid (aA w w3):=HE1.trans h3;clear h3 HN;go_wp2_with fail;go_ret;refine ⟨?_,HE3⟩;rw [<- HD.out]
 first | rfl | (rw [<- hz];rfl)
theorem O1_ {ops:Array Oper} {rest:List Oper} {o:Oper} {a:Act} {Q:Exit->Act->World->Prop} (qj:o.guard=none) (w:World) (s x:Operand) (T2:TypeId) (zz:prog.underlying T2=some (TypeDesc.slice 3)) (ho:o.op=Op.call { callee:=Callee.builtin Builtin.append,args:=#[s,x],argTypes:=#[T2,T2] }) (B:Nat)
  (v:Value) (l:pN) (y:Int) (u:Array Value) (T:TypeId) (hs:a.eval s=v) (hB:fu B w v l) (hx:a.eval x=.slice (some ⟨w.heap.size,0,none⟩) 1 1) (hu:u=#[.int .i64 y]) (hlen:l.length<1000000) (pX:B<=w.heap.size)
  (h:∀ v' w',fu B w' v' (l++[y])->Below B w w'->wpList prog ops Q rest (a.put o.dst v') w'):wpList prog ops Q (o::rest) a (w.alloc (.cells u T)) :=
 wpList_plain qj fun _ hk=>R4_ w s x T2 zz ho B v l y u T hs hB hx hu hlen pX fun v' w' a1 a2=>hk _ _ (h v' w' a1 a2)
def mA (w : World) : Prop := Lib.TabIs prog w "math/bits.deBruijn64tab" .u8 (Lib.deBruijn64tab.map fun x : Nat => (x : Int))
theorem mA.ext {w w':World} (h:mA w) (he:aA w w'):mA w':=by
 unfold mA Lib.TabIs at h |-;cases hg : prog.globalNamed "math/bits.deBruijn64tab" with
 | none=>simp [World.var?,hg] at h
 | some g =>
  refine var?_below he hg ?_ h;by_cases hlt:g<w.heap.size;·exact hlt
  ·simp [World.var?,hg,Array.getElem?_eq_none (show w.heap.size<=g by omega)] at h
theorem mA.at {w:World} (h:mA w):TabAt 7 Lib.deBruijn64tab w:=by
 intro j hj;have hg : prog.globalNamed "math/bits.deBruijn64tab" = some 7 := by kernel_rfl
 have:=World.var?_cell hg h j;rw [this];simp [oh,oc hj,oe]
theorem Z5Z:∀ s,s<4096->s≠0->Lib.ctz 64 s=ij s:=by
 have h:∀ a,a<64->∀ b,b<64->64*a+b≠0->Lib.ctz 64 (64*a+b)=ij (64*a+b):=by decide +kernel
 intro s hs h0;have:=h (s / 64) (by omega) (s%64) (by omega) (by omega)
 rwa [Nat.div_add_mod] at this
theorem Z35 {s:Nat}:∀ x∈aj s,x<12:=fun x hx=>List.mem_range.1 (List.mem_filter.1 hx).1
theorem n4_ (s:Nat):(aj s).length<=12:=ow (List.length_filter_le _ _) (by simp)
theorem Z10:aj 0=[]:=by decide +kernel
def Z88 (x:Int):Int:=IntKind.u64.wrap (bits BinOp.and IntKind.u64 (x / 2) 6148914691236517205+bits BinOp.and IntKind.u64 x 6148914691236517205)
def Z89 (a:Int):Int:=IntKind.u64.wrap (bits BinOp.and IntKind.u64 (a / 4) 3689348814741910323+bits BinOp.and IntKind.u64 a 3689348814741910323)
def Z8a (b:Int):Int:=bits BinOp.and IntKind.u64 (IntKind.u64.wrap (b / 16+b)) 1085102592571150095
def Z7M (k c:Int):Int:=IntKind.u64.wrap (c+c / k)
def Z7N (x:Int):Int:=bits BinOp.and IntKind.i64 (wrap64 (Z7M 4294967296 (Z7M 65536 (Z7M 256 (Z8a (Z89 (Z88 x))))))) 127
theorem Z6v:∀ s:Nat,s<4096->Z7N (s:Int)=((aj s).length:Int):=by
 have h:∀ a:Nat,a<64->∀ b:Nat,b<64->Z7N ((64*a+b:Nat):Int)=((aj (64*a+b)).length:Int):=by decide +kernel
 intro s hs;have:=h (s / 64) (by omega) (s%64) (by omega)
 rwa [Nat.div_add_mod] at this
theorem Z18 (x:Nat) (hx:x<4096) (w:World) :
  Calls prog 282 #[.int .u64 x] w fun e w'=>e=.returned (.int .i64 ((aj x).length:Int))/\w'=w:=by
 have h1:IntKind.u64.wrap (x:Int)=(x:Int):=by rw [IntKind.wrap_u64];omega
 go_enter func282,ntmps282
 go_wp2_with fail;go_ret;refine ⟨?_,rfl⟩;show Ending.returned (.int .i64 (Z7N (x:Int)))=_;rw [Z6v x hx]
theorem Z52 (x:Nat) (hx:x<4096) (w:World) :
  Calls prog 208 #[.int .u64 x] w fun e w'=>e=.returned (.int .i64 ((aj x).length:Int))/\w'=w:=by
 have HC:=oZ (Z18 x hx w);have h1:IntKind.u64.wrap (x:Int)=(x:Int):=by rw [IntKind.wrap_u64];omega
 go_enter func208,ntmps208
 go_wp2_with fail;refine HC.mono ?_;rintro e w2 ⟨rfl,rZ⟩;obtain rfl:=rZ.symm;clear HC;go_wp2_with fail;go_ret;exact ⟨rfl,rfl⟩
theorem Z1S (t i:Nat):(aj (t &&& (2^i-1))).length=ee t i:=by
 unfold ee aj;rw [List.filter_filter];congr 1;refine List.filter_congr fun j _=>?_;rw [Nat.testBit_and,Nat.testBit_two_pow_sub_one,Bool.and_comm]
theorem r5_ (t i:Nat):ee t i<=12:=ow (List.length_filter_le _ _) (n4_ t)
theorem k5_ (t:Nat):∀ l:List Nat,(l.map (ee t)).sum<=12*l.length
 | []=>by simp
 | x::l=>by
  have:=r5_ t x;have:=k5_ t l;simp only [List.map_cons,List.sum_cons,List.length_cons];omega
theorem Z6g {x:Nat} (hx:x<4096) (h0:x≠0):ij x<12:=by
 have:=A6_ x hx h0;exact Z35 (s:=x) (ij x) (by rw [this];exact List.mem_cons_self)
theorem Z6h {x:Nat} (hx:x<4096) (h0:x≠0):x &&& (18446744073709551616-x)=2^ij x:=by
 obtain ⟨hlow,hk⟩:=Lib.lowest_bit 64 x h0 (by omega);rw [Z5Z x hx h0] at hlow;exact hlow
theorem Z6l (s t:Nat) (hs:s<4096) (ht:t<4096) (w:World) :
  Calls prog 105 #[.int .u64 s,.int .u64 t] w fun e w'=>e=.returned (.bool (ep s t))/\w'=w:=by
 have HS:=oZ hs;have HT:=oZ ht
 go_enter func105,ntmps105
 go_wp2_with fail
 go_loopw [5,6] (fun c v wr=>∃ (x n:Nat) (l:List Nat),v=.int .u64 x/\c=.int .i64 n/\Hid (x<4096/\l++aj x=aj s/\n=(l.map (ee t)).sum)/\wr=w) (fun _ v _=>(intOf v).toNat)
 case atStart=>exact ⟨s,0,[],rfl,rfl,⟨HS,rfl,rfl⟩,rfl⟩
 case round =>
  obtain ⟨x,n,l,rfl,rfl,HX,B6⟩:=hrel;subst B6;have hn:n<=144:=by
   obtain ⟨-,h2,h3⟩:=HX.out;have h4:=k5_ t l;have h5:=congrArg List.length h2;rw [pG] at h5;have:=n4_ s;omega
  by_cases h0:x=0
  ·subst h0;have HF:Hid (ep s t=decide (n%2=1)):=by
    obtain ⟨-,h2,h3⟩:=HX.out;rw [Z10,List.append_nil] at h2;unfold Hid ep;rw [h3,h2]
   go_wp2_with fail;go_ret;refine ⟨?_,rfl⟩;rw [HF.out];have hb:((n:Int)%2 == 1)=decide (n%2=1):=by
    by_cases h:n%2=1;·rw [pE h];exact beq_iff_eq.2 (by omega)
    ·rw [pD h];exact beq_eq_false_iff_ne.2 (by omega)
   rw [<- hb];rfl
  ·have hx:=HX.1;have hm:=A6_ x hx h0;have hlt:=j9_ x hx h0;have qB:((x:Int) == 0)=false:=beq_eq_false_iff_ne.2 (by omega);have hi:=Z6g hx h0;have hp:2^ij x<=2048:=by
    have:2^ij x<=2^11:=Nat.pow_le_pow_right (by decide) (by omega);simpa using this
   have hp1:1<=2^ij x:=Nat.one_le_two_pow;have e1:IntKind.u64.wrap ((x:Int)-1)=((x-1:Nat):Int):=(by rw [IntKind.wrap_u64];omega);have e2:=bits_and_u64_nat x (x-1) (by omega) (by omega);have e3:IntKind.u64.wrap (-(x:Int))=((18446744073709551616-x:Nat):Int):=(by rw [IntKind.wrap_u64];omega);have e4:=bits_and_u64_nat x (18446744073709551616-x) (by omega) (by omega);rw [Z6h hx h0] at e4;obtain ⟨i,rD⟩:=pK (ij x);rw [rD] at e4 hp hp1 hm hi;have HQ:Hid ((aj (t &&& (2^i-1))).length=ee t i):=Z1S t i;obtain ⟨p,hp2⟩:=pK (2^i);rw [hp2] at e4 hp hp1 HQ;have e5:IntKind.u64.wrap ((p:Int)-1)=((p-1:Nat):Int):=(by rw [IntKind.wrap_u64];omega);have e6:=bits_and_u64_nat t (p-1) (by omega) (by omega);have hq:t &&& (p-1)<4096:=Nat.lt_of_le_of_lt Nat.and_le_left HT;obtain ⟨q,yR⟩:=pK (t &&& (p-1));rw [yR] at e6 HQ hq;have HC:=oZ (Z52 q hq wr);rw [HQ.out] at HC;have hb:=r5_ t i;have HM:Hid ((l++[i])++aj (x &&& (x-1))=aj s/\n+ee t i=((l++[i]).map (ee t)).sum):=by
    obtain ⟨-,h2,h3⟩:=HX.out;refine ⟨by rw [<- h2,hm,List.append_assoc];rfl,by simp [h3]⟩
   obtain ⟨bb,hbb⟩:=pK (ee t i);rw [hbb] at HC HM hb;obtain ⟨y,hy⟩:=pK (x &&& (x-1));rw [hy] at e2 HM hlt;have HLT:=oZ hlt;have e7:wrap64 ((n:Int)+(bb:Int))=((n+bb:Nat):Int):=(by rw [wrap64];omega);clear hm hlt hy HQ yR hp2 rD hbb hq;go_wp2_with fail;refine HC.mono ?_;rintro e w2 ⟨rfl,rZ⟩;obtain rfl:=rZ.symm;clear HC;go_wp2_with fail;go_roundw
   case rel=>exact ⟨y,n+bb,l++[i],rfl,by go_num,⟨Nat.lt_trans HLT HX.1,HM.1,HM.2⟩,trivial⟩
   case measure=>have:=HLT.out;simp [intOf];omega
theorem Z3m:∀ n,n<7->∀ k,k<n+1->(List.range (aO n k).length).all (fun i=>decide (cl n k ((aO n k).getD i 0)=i))=true:=by decide +kernel
theorem Z59 {n k i s:Nat} (hn:n<7) (hk:k<=n) (h:(aO n k)[i]?=some s):cl n k s=i:=by
 have h1:=List.all_eq_true.1 (Z3m n hn k (by omega)) i (List.mem_range.2 (od.1 h).1);rw [oe,h] at h1;exact of_decide_eq_true h1
theorem Z7U:Keyed prog 150:=int_keyed underlying150
theorem Z7Q (w:World):(zeroValue 3).run prog w=.ok (.int .i64 0) w:=by kernel_rfl
theorem Z7h {s:Nat} (h:s<4096):(Lit.int .u64 (s:Int)).wf=true:=by
 have h1:IntKind.u64.min=0:=by decide
 have h2:IntKind.u64.max=18446744073709551615:=by decide
 show (decide (IntKind.u64.min<=(s:Int)) && decide ((s:Int)<=IntKind.u64.max))=true;rw [h1,h2,Bool.and_eq_true,decide_eq_true_eq,decide_eq_true_eq];omega
theorem Z7T {s:Nat} (h:s<4096):keyOf prog 150 (.int .u64 (s:Int))=some (.int .u64 (s:Int)):=keyOf_int_mk underlying150 (Z7h h)
def gY (w:World) (b N n k:Nat) (L:List Nat):Prop:=∃ D:DataW Unit,w.ownsMap prog 150 (plainElem prog 3) b N D/\IsMap D/\∀ s∈L,D.atKey (.int .u64 (s:Int)) (.lit (.int .i64 0))=.lit (.int .i64 (cl n k s:Int))
def iU (w:World) (v:Value) (n k:Nat):Prop:=∃ b N,v=.map (some b)/\gY w b N n k (aO n k)
theorem gY.kept {w w':World} {b N n k:Nat} {L:List Nat} {o:Option Nat} (h:gY w b N n k L) (hg:w.grownBy w' o) (hne:some b≠o):gY w' b N n k L:=by
 obtain ⟨D,h1,h2,h3⟩:=h;exact ⟨D,h1.kept hg hne,h2,h3⟩
theorem gY.ext {w w':World} {b N n k:Nat} {L:List Nat} (h:gY w b N n k L) (he:aA w w'):gY w' b N n k L:=h.kept (he.grown none) (by simp)
theorem iU.ext {w w':World} {v:Value} {n k:Nat} (h:iU w v n k) (he:aA w w'):iU w' v n k:=by
 obtain ⟨b,N,hv,h1⟩:=h;exact ⟨b,N,hv,h1.ext he⟩
theorem Z2L {D:DataW Unit} (h:IsMap D) (k:Lit) (d:DataW Unit):IsMap (D.put k d):=by
 obtain ⟨es,rfl⟩:=h;exact ⟨_,rfl⟩
theorem gY.made (w:World) (n k:Nat):gY (w.alloc (.map #[] 0)) w.heap.size 0 n k []:=⟨.map [],World.ownsMap_made _ _ _ _,⟨_,rfl⟩,fun s hs=>by cases hs⟩
theorem Z1c (n k:Nat) (hn:n<7) (hk:k<=n) (w:World):Calls prog 102 #[.int .i64 n,.int .i64 k] w fun e w'=>∃ v,e=.returned v/\aA w w'/\iU w' v n k:=by
 have hmm:=@run_makeMap prog;obtain ⟨w1,pt⟩:=pL (w.alloc (.map #[] 0));have HM:=oZ (gY.made w n k);rw [<- pt] at HM;have HE1:Hid (aA w w1):=by rw [pt];exact aA.alloc _ _
 have hsz:w1.heap.size=w.heap.size+1:=by rw [pt];exact World.size_alloc w _
 have HSZ:=oZ hsz;have HC:=oZ (j8_ n k (by omega) hk w1);have HLT:=oZ (j7_ (n:=n) (k:=k) (by omega) hk);have HLN:=oZ (x3_ (n:=n) (k:=k) (by omega) hk);have HPL:Hid (∀ i s,(aO n k)[i]?=some s->cl n k s=i):=fun i s h=>Z59 hn hk h;clear hsz;obtain ⟨L,hL⟩:=pK (aO n k);rw [hL] at HC HLT HLN HPL;have HLL:=oZ hL;clear hL
 go_enter func102,ntmps102
 go_wp2_with fail;generalize wC:w.alloc _=w9;obtain rfl:w9=w1:=by rw [<- wC,pt]
 refine HC.mono ?_;rintro e w2 ⟨v,rfl,h2,hU⟩;obtain ⟨a,cap,rfl,qU,hc2,ph⟩:=hU.open;unfold maxLen at hc2;have HE2:Hid (aA w w2):=HE1.trans h2;have HM2:=oZ (HM.ext h2);have HS2:Hid (w.heap.size<w2.heap.size):=by have:=h2.size;have:=HSZ.out;unfold Hid;omega
 have HCX:=oZ ph;clear h2 hU ph HC HM pt wC;obtain ⟨N,hN⟩:=pK L.length;have HNN:=oZ hN;rw [hN] at qU |-;clear hN;go_wp2_with fail
 go_loopw [13] (fun t wr=>∃ i:Nat,i<=N/\t=.int .i64 (i:Int)/\Hid (aA w wr)/\Hid (w2.grownBy wr (some w.heap.size))/\Hid (gY wr w.heap.size i n k (L.take i))) (fun t _=>N+1-(intOf t).toNat)
 case atStart=>exact ⟨0,by omega,by simp,HE2,World.grownBy.refl _ _,HM2⟩
 case round =>
  obtain ⟨i,hi,rfl,HX,HG,HP⟩:=hrel;by_cases hlt:i<N
  ·obtain ⟨s,hs⟩:∃ s,L[i]?=some s:=by
    rw [<- HNN.out] at hlt;exact ⟨_,oc hlt⟩
   obtain ⟨b,off,rfl,hb,pP⟩:=HCX (by intro e;rw [e] at hs;simp at hs);have hc:=pP i s hs;have CD:s<4096:=HLT s (og hs);have hne:b≠w.heap.size:=by
    rintro rfl;obtain ⟨D,⟨es,clock,AV,-⟩,-⟩:=HM2.out;rw [World.cell?,AV] at hc;simp at hc
   have ph:wr.cell? ⟨b,off+i,none⟩=some (.int .u64 (s:Int)):=by
    rw [<- hc];unfold World.cell?;rw [HG.out.block b hb (by intro e;cases e;exact hne rfl)]
   have Mf:Hid (cl n k s=i):=HPL i s hs;obtain ⟨D,hown,AK,qb⟩:=HP.out;have HAT:=oZ qb;have HMP:=oZ AK;have HS:=oZ hs;have HSL:=oZ CD;clear hs pP hc hne qb AK HP CD hb
   go_wp2_with (first
    | (at_mapUpdate;refine wpList_mapUpdate_own _ rfl _ _ _ 146 rfl 150 3 Z7U underlying146 _ w.heap.size i _ rfl hown (by unfold maxLen;omega) _ _ _ rfl rfl (Z7T HSL) _ [] (plainElem_int underlying3 (WalkArith.wf_i64 (by omega))) ?_;intro w5 zN vT)
    | fail)
   have HE5:Hid (aA w w5):=Below.grown HX vT (Nat.le_of_lt (by have:=HG.size;have:=HS2.out;omega)) (fun j hj=>by cases hj;exact oz _);have HG5:Hid (w2.grownBy w5 (some w.heap.size)):=gO HG vT;have HP5:Hid (gY w5 w.heap.size (i+1) n k (L.take (i+1))):=by
    refine ⟨_,zN,Z2L HMP _ _,fun x hx=>?_⟩;by_cases hxs:x=s
    ·subst hxs;rw [atKey_put_same HMP.out (by exact trivial),Mf.out]
    ·rw [atKey_put_other (fun e=>hxs (by injection e with _ e;exact Int.ofNat.inj e))];refine HAT x ?_;rw [ou,HS.out] at hx;simpa [hxs] using hx
   clear zN vT;go_roundw
   case rel=>exact ⟨i+1,by omega,by go_num,HE5,HG5,HP5⟩
   case measure=>simp [intOf];omega
  ·obtain rfl:i=N:=(by omega);have Mg:Hid (gY wr w.heap.size i n k (aO n k)):=by
    have:=HP.out;rw [<- HNN.out,List.take_length,<- HLL.out] at this;rw [<- HNN.out,<- HLL.out];exact this
   clear HP;go_wp2_with fail;go_ret;exact ⟨_,rfl,HX,_,_,rfl,Mg⟩
theorem Z5U {w:World} {b j:Nat} {v:Value} (hc:w.cell? ⟨b,j,none⟩=some v):b<w.heap.size:=by
 by_cases h:b<w.heap.size;·exact h
 ·have h0:w.heap[b]?=none:=Array.getElem?_eq_none (Nat.le_of_not_lt h);simp [World.cell?,h0] at hc
theorem aH.cell {S:Nat->Prop} {w w':World} {b j:Nat} {v:Value} (h:aH S w w') (hc:w.cell? ⟨b,j,none⟩=some v) (hb:¬ S b):w'.cell? ⟨b,j,none⟩=some v:=by
 rw [<- hc];unfold World.cell?;rw [h.block b (Z5U hc) hb]
theorem aH.from {S:Nat->Prop} {w w' w'':World} {B:Nat} (h:Below B w w') (k:aH S w' w'') (hw:w.heap.size<=B) (hS:∀ j,j<w.heap.size->¬ S j):aA w w'' :=
 ⟨k.os.trans h.os,k.tape.trans h.tape,k.output.trans h.output,ow h.size k.size,fun j hj=>(k.block j (ov hj h.size) (hS j hj)).trans (h.block j (by omega))⟩
theorem iU.run {w:World} {v:Value} {n k s:Nat} (h:iU w v n k) (hs:s∈aO n k) (hlt:s<4096):(Instr.lookup 146 v (.int .u64 (s:Int)) false).run prog w=.ok (.int .i64 (cl n k s:Int)) w:=by
 obtain ⟨b,N,rfl,D,hown,AK,qb⟩:=h;obtain ⟨c,AD,hc,ND⟩:=hown.lookup_int Z7U underlying146 underlying3 (Z7Q w) (Z7T hlt);rw [qb s hs] at hc;cases hc;exact AD
theorem iU.grownS {w w':World} {B:Nat} {v:Value} {n k:Nat} {C:Array Value} {T:TypeId} (h:iU w v n k) (hg:aH (·=B) w w') (hB:w.heap[B]?=some (.cells C T (0,0))):iU w' v n k:=by
 obtain ⟨b,N,hv,h1⟩:=h;refine ⟨b,N,hv,?_⟩;obtain ⟨D,ho,hm,ha⟩:=h1;have hne:b≠B:=by
  rintro rfl;obtain ⟨es,clock,AV,-⟩:=ho;rw [hB] at AV;cases AV
 have qR:w.grownBy w' (some B):=⟨hg.os,hg.tape,hg.output,hg.size,fun j hj xO=>hg.block j hj (fun e=>xO (by rw [e]))⟩;exact ⟨D,ho.kept qR (fun e=>hne (by cases e;rfl)),hm,ha⟩
theorem Z4b {n k:Nat} (hn:n<=12) (hk:k<=n):∀ x∈aO n k,x<2^n:=F7_ (oz n) k 0 0 (Nat.two_pow_pos n) hk
theorem Z4d {s i:Nat} (hs:s<4096):bits .and .u64 ((s / 2^i:Nat):Int) 1=if s.testBit i=true then 1 else 0:=by
 have h1:s / 2^i<=s:=Nat.div_le_self _ _;have h2:=bits_and_u64_nat (s / 2^i) 1 (by omega) (by omega);rw [Nat.and_one_is_mod] at h2;rw [show ((1:Nat):Int)=1 from rfl] at h2;rw [h2,Nat.testBit_eq_decide_div_mod_eq];by_cases h:s / 2^i%2=1;·rw [if_pos (by rw [pE h]),h];rfl
 ·rw [if_neg (by rw [pD h];decide)];omega
theorem Z51 (s t:Nat) (hs:s<4096) (ht:t<4096) (w:World) :
  pI 105 #[.int .u64 s,.int .u64 t] w (.bool (ep s t)):=(Z6l s t hs ht w).mono fun e w' ⟨h,h2⟩=>⟨h,h2▸aA.refl _⟩
theorem n3_ (n:Nat):(madeCells #[Value.string ⟨#[]⟩] n).toList=List.replicate n (.string ⟨#[]⟩):=(toList_madeCells_one _ _).trans (by simp)
theorem g7_ {w:World} {B g n:Nat} {T:TypeId} {xs:List Value} (h:w.ownsRow B T 1 (.slice (some ⟨g,0,none⟩) n n) n xs):w.heap[g]?=some (.cells xs.toArray T (0,0))/\xs.length=n/\B<=g:=by
 obtain ⟨h0,h⟩:=h;rcases h with ⟨hv,_⟩ | ⟨g',cap',cur,hv,hb,hg,h1,h2,h3,h4⟩
 ·simp at hv
 ·simp only [Value.slice.injEq,Option.some.injEq,Addr.mk.injEq] at hv;obtain ⟨⟨rfl,-,-⟩,-,rfl⟩:=hv;rw [Nat.mul_one] at h0 h3 h4;rw [List.take_of_length_le (by simp [h3])] at h4;refine ⟨?_,h0,hb⟩;rw [hg,<- h4]
def iW (C:List Value) (n j:Nat) (xs:pN):Prop:=C.length=n/\(∀ i,i<n->∃ s,C[i]?=some (.string s))/\∀ i x,i<j->xs[i]?=some x->C[i]?=some (.string (aB x))
theorem iW.start (n:Nat) (xs:pN):iW (List.replicate n (.string ⟨#[]⟩)) n 0 xs:=⟨by simp,fun i hi=>⟨⟨#[]⟩,by rw [List.getElem?_replicate,if_pos hi]⟩,fun i x hi=>absurd hi (by omega)⟩
theorem iW.set {C:List Value} {n j:Nat} {xs:pN} {x:Int} (h:iW C n j xs) (hj:j<n) (hx:xs[j]?=some x):iW (C.set j (.string (aB x))) n (j+1) xs:=by
 obtain ⟨h1,h2,h3⟩:=h;refine ⟨by rw [List.length_set];exact h1,fun i hi=>?_,fun i y hi hy=>?_⟩
 ·rw [pH];by_cases e:j=i;·subst e;rw [if_pos rfl,if_pos (by omega)];exact ⟨_,rfl⟩
  ·rw [if_neg e];exact h2 i hi
 ·rw [pH];by_cases e:j=i
  ·subst e;rw [if_pos rfl,if_pos (by omega)];rw [hx] at hy;cases hy;rfl
  ·rw [if_neg e];exact h3 i y (by omega) hy
theorem iW.row {w:World} {g:Nat} {C:List Value} {n:Nat} {xs:pN} {T:TypeId} (h:iW C n n xs) (hl:xs.length=n) (hb:w.heap[g]?=some (.cells C.toArray T (0,0))):aW w g 0 xs :=
 ⟨cG hb,fun j x hx=>by
  rw [Nat.zero_add,ah hb j,pC]
  exact h.2.2 j x (by rw [<- hl];exact (od.1 hx).1) hx,fun j=>cQ hb j⟩
theorem d3_ (C:List Value) (j:Nat) (x:Value):C.toArray.setIfInBounds j x=(C.set j x).toArray:=by simp
theorem N3_ (k:Int) (r s:pN) (gx ox cx gy oy cy:Nat) (w:World) (hr:aW w gx ox r) (hs:aW w gy oy s) (hl:s.length=r.length) (hk:(aB k).size<=2800000000)
  (vR:∀ a∈r,(aB a).size<=2800000000) (tV:∀ b∈s,(aB b).size<=2800000000/\(aB (k*b)).size<=2800000000) (ph:r.length<=cx) (wH:cx<=maxLen) (sE:s.length<=cy) (Fz:cy<=maxLen) (hlen:r.length<=1000000) (ht:ag w) :
  Calls prog 235 #[.slice (some ⟨gx,ox,none⟩) r.length cx,.slice (some ⟨gy,oy,none⟩) s.length cy,.string (aB k)] w fun e w'=>e=.returned (.slice (some ⟨w.heap.size,0,none⟩) r.length r.length)/\aA w w'/\aW w' w.heap.size 0 (aU k r s):=by
 obtain ⟨i0,hi,pk,hz1,hz2⟩:=info_parts nz;have HI:=oZ hi;have HZ0:=oZ pk;have HZ1:=oZ hz1;have HZ2:=oZ hz2;have HT:=oZ ht;have HR:=oZ hr;have HS:=oZ hs;have HRS:=oZ vR;have HSS:=oZ tV;have HKK:=oZ hk;have HLE:=oZ hl;obtain ⟨n,hn⟩:=pK r.length;have HN:=oZ hn;rw [hl,hn] at sE;rw [hl];rw [hn] at ph hlen |-;unfold maxLen at wH Fz;clear hi pk hz1 hz2 hr hs hl hk vR tV ht hn;obtain ⟨kk,tM⟩:=pK (aB k);rw [tM];have HKE:=oZ tM;clear tM
 go_enter func235,ntmps235
 go_wp2_with (at_make;refine wpList_make_full _ rfl _ _ 194 rfl w.heap.size 92 i0 (.string ⟨#[]⟩) 1 underlying194 HI HZ0 HZ1 _ _ _ _ n rfl rfl rfl rfl ?c1 ?c2 ?c3 ?_)
 case c1=>rw [HZ2.out];omega
 case c2=>unfold maxLen;omega
 case c3=>exact oz _
 intro w1 hown pQ;have HE1:=oZ (ic pQ);have hmb:=g7_ hown
 (try rw [Nat.mul_one] at hmb)
 rw [n3_] at hmb;have HB1:=oZ hmb.1;clear hown pQ hmb;go_wp2_with fail
 go_loopw [14] (fun t wr=>∃ j:Nat,j<=n/\t=.int .i64 j/\Hid (aA w wr)/\Hid (∃ C,wr.heap[w.heap.size]?=some (.cells C.toArray 92 (0,0))/\iW C n j (aU k r s))) (fun t _=>n-(intOf t).toNat)
 case atStart=>exact ⟨0,by omega,rfl,HE1,_,HB1,iW.start n _⟩
 case round =>
  obtain ⟨j,hj,rfl,HX,HCC⟩:=hrel;by_cases hlt:j<n
  ·obtain ⟨b,xp⟩:∃ b,s[j]?=some b:=⟨s[j]'(by rw [HLE.out,HN.out];exact hlt),oc _⟩;obtain ⟨a,tB⟩:∃ a,r[j]?=some a:=⟨r[j]'(by rw [HN.out];exact hlt),oc _⟩;have z1:=HX.cell (HR.cell j a tB);have z2:=HX.cell (HS.cell j b xp);obtain ⟨C,vh,hST⟩:=HCC.out;have HBK:=oZ vh;have HST:=oZ hST;obtain ⟨v0,vJ⟩:=hST.2.1 j hlt;have Ma:Hid (C.toArray[j]?=some (.string v0)):=(by unfold Hid;rw [pC];exact vJ);have HNX:Hid (iW (C.set j (.string (aB (a-k*b)))) n (j+1) (aU k r s)):=hST.set hlt (oC k r s j a b tB xp);have HM:Hid (∀ W,aA wr W->pI 66 #[.string kk,.string (aB b)] W (.string (aB (k*b)))):=fun W hW=>by
    rw [<- HKE.out];exact jO k b W (by have:=HKK.out;omega) (by have:=(HSS b (og xp)).1;omega) (HT.ext (HX.trans hW))
   have HU:Hid (∀ W,aA wr W->pI 301 #[.string (aB a),.string (aB (k*b))] W (.string (aB (a-k*b)))):=fun W hW =>
    Z0i a (k*b) W (HRS a (og tB)) (HSS b (og xp)).2 (HT.ext (HX.trans hW))
   have xZ:(j:Int)<(n:Int):=(by omega);clear xp tB vh hST vJ HCC
   go_upto_region 5 with fail
   refine iq (fun w'=>w'.cell? ⟨gx,ox+j,none⟩=some (.string (aB a))/\w'.cell? ⟨gy,oy+j,none⟩=some (.string (aB b))/\Hid (aA wr w')) 14 (by kernel_rfl) ⟨(aA.drew wr).cell z1,(aA.drew wr).cell z2,aA.drew wr⟩ (fun pO=>?_);refine rA [0,1,2,3,4,5,6,7,8,9,10] ?_
   iterate 11 ((first|(refine rL (v:=?_) (by rfl) (Or.inl ⟨by rfl,?_⟩) ?_;rotate_left;·((intro w' qM);(try dsimp only at qM);(try go_simp);(try with_reducible rfl)))|(refine rW (v:=?_) (by rfl) (Or.inl ⟨by rfl,?_⟩) ?_;rotate_left;·((intro w');(try go_simp);(try with_reducible rfl))));(try simp only [Act.put,aQ,aR,aS]))
   refine rE ?_;refine dH 11 (by kernel_rfl) rfl (fun K hK=>?_);go_simp
   (go_at_call 66;refine (HM _ (pO.2.2)).mono ?_)
   rintro e wz ⟨rfl,pY⟩;go_wp2_with fail;refine hK _ _ ⟨(pY).cell pO.1,(pY).cell pO.2.1,aA.trans pO.2.2 (pY)⟩ (fun pO=>?_);clear hK K
   (try simp only [Act.put,aQ,aR,aS])
   refine dH 12 (by kernel_rfl) rfl (fun K hK=>?_);go_simp
   (go_at_call 301;refine (HU _ (pO.2.2)).mono ?_)
   rintro e wy ⟨rfl,pY⟩;go_wp2_with fail;refine hK _ _ ⟨(pY).cell pO.1,(pY).cell pO.2.1,aA.trans pO.2.2 (pY)⟩ (fun pO=>?_);clear hK K
   (try simp only [Act.put,aQ,aR,aS])
   refine tW (v:=?_) 13 rfl (Or.inl ⟨by rfl,?_⟩) ?_;rotate_left;·((intro w');(try go_simp);(try with_reducible rfl))
   (try simp only [Act.put,aQ,aR,aS])
   have Ay:Hid (aA wr wy):=pO.2.2;have hb6:=aF HBK Ay;have HB6:=oZ hb6;have k6:=ah hb6;have f6:=cQ hb6;have k7:wy.cell? ⟨w.heap.size,j,none⟩=some (.string v0):=(by rw [k6 j];exact Ma);clear hb6 k6;refine fL 14 (by kernel_rfl) (by kernel_rfl) (by kernel_rfl) rfl (fun K hK=>?_);go_simp;refine hK _ _ ?_;clear hK K
   (try simp only [Act.put,aQ,aR,aS])
   go_wp2_with fail;go_roundw
   case rel=>exact ⟨j+1,by omega,by go_num,(HX.trans Ay).setCell (oz _) _,C.set j (.string (aB (a-k*b))),by rw [<- d3_];exact dr HB6 j _,HNX⟩
   case measure=>simp [intOf];omega
  ·obtain rfl:j=n:=(by omega);obtain ⟨C,vh,hST⟩:=HCC.out;have HF:Hid (aW wr w.heap.size 0 (aU k r s)):=hST.row (by rw [eX];exact HN) vh;clear vh hST HCC;go_wp2_with fail;go_ret;exact ⟨rfl,HX,HF⟩
end Go.Proofs.YtoonaddcfakamaaGreatDoor
