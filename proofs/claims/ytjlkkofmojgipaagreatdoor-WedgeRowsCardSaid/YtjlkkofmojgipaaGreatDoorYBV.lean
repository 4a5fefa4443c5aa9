import Derived.Test.YtjlkkofmojgipaaGreatDoorYBT
import Derived.Deep.Cut
namespace Go.Proofs.YtjlkkofmojgipaaGreatDoor
set_option linter.unusedVariables false
set_option linter.unusedSimpArgs false
open Go.RowKit
set_option maxRecDepth 100000 in
set_option maxHeartbeats 16000000 in
theorem elim_any (m0:List (List Int)) (g0 cap0 n C:Nat) (tags0:List (Nat×Nat)) (wb w:World) (hM:MatN w g0 tags0 m0) (hC:RectI C m0) (hn:n≤C) (hC2:C≤1000) (hl:m0.length≤1000) (hcap:m0.length≤cap0) (hcap2:cap0≤9223372036854775807)
  (hok:ElOK m0 n) (hwb:Ext wb w) (ht:Pow10 wb) (hbl:∀ b,blocksQ g0 tags0 b→wb.heap.size≤b) :
  Calls Tryz.prog 84 #[.slice (some ⟨g0,0,none⟩) m0.length cap0,.int .i64 n] w fun e w'=>∃ v tags,e=.returned (.tuple #[v,.string (intB (barTo m0 n).last),.bool (barTo m0 n).odd])∧OwnI w.heap.size w' v (barTo m0 n).lead∧MatN w' g0 tags (barTo m0 n).m∧(∀ b,blocksQ g0 tags b↔blocksQ g0 tags0 b)∧GrownS (blocksQ g0 tags0) w w':=by
 have HM:=Lib.hid hM;have HC:=Lib.hid hC;have HOK:=Lib.hid hok;have HWB:=Lib.hid hwb;have HT:=Lib.hid ht;have HBL:=Lib.hid hbl
 have HSH:=Lib.hid (barTo_shape hC)
 have HFU:Hid (∀ c,c≤n→(barTo m0 c).lead.length=m0.length→barTo m0 n=barTo m0 c):=fun c h1 h2=>by
  have:=barTo_full hC h2 (n-c)
  rw [show c+(n-c)=n by omega] at this
  exact this
 obtain ⟨L,hL⟩:∃ L,L=m0.length:=⟨_,rfl⟩
 rw [← hL] at hl hcap HSH HFU ⊢
 have HL:=Lib.hid hL
 have HBW:Hid (∀ b,blocksQ g0 tags0 b→b<w.heap.size):=fun b hb=>hM.blt hb
 have HR0:Hid (MidE w w g0 w.heap.size tags0 (barTo m0 0).m (.slice none 0 0) (barTo m0 0).lead tags0):=⟨hM,OwnI.nil _ _,fun b=>Iff.rfl,GrownS.refl _ _,Nat.le_refl _⟩
 have HI1:Hid (intB (barTo m0 0).last=⟨#[49]⟩∧(barTo m0 0).odd=false):=⟨by show intB 1=_;decide +kernel,rfl⟩
 clear hM hC hok hwb ht hbl hL
 go_enter Tryz.func84,Tryz.ntmps84
 go_wp2_with fail
 go_loopw [10,7,8,9] (fun t v la od wr=>∃ (c:Nat) (tags:List (Nat×Nat)) (b:ByteArray) (o:Bool),c≤n∧t=.int .i64 c∧la=.string b∧od=.bool o∧Hid (b=intB (barTo m0 c).last)∧Hid (o=(barTo m0 c).odd)∧Hid (MidE w wr g0 w.heap.size tags0 (barTo m0 c).m v (barTo m0 c).lead tags)) (fun t _ _ _ _=>n-(intOf t).toNat)
 case atStart=>exact ⟨0,tags0,_,_,by omega,rfl,rfl,rfl,HI1.out.1.symm,HI1.out.2.symm,HR0.out⟩
 case round =>
  obtain ⟨c,tags,lb,ob,hc,rfl,rfl,rfl,HLB,HOB,HR⟩:=hrel
  obtain ⟨wo,rfl⟩:∃ wo:World,wo=wr:=⟨_,rfl⟩
  clear HR0 HI1
  have HEB:Hid (Ext wb wo):=Below.trans HWB.out (HR.out.grown.belowE (B:=wb.heap.size) HBL.out HWB.out.size)
  obtain ⟨av,cv,hv,hv1,hv2⟩:=HR.out.lead.form
  obtain ⟨k,hk⟩:∃ k,k=(barTo m0 c).lead.length:=⟨_,rfl⟩
  rw [← hk] at hv hv1
  have HK:=Lib.hid hk
  have hkL:k≤L:=by rw [hk];exact (HSH.out c).2.2
  subst hv
  clear hk
  by_cases hlt:c<n∧k<L
  ·obtain ⟨hcn,hkl⟩:=hlt
   have z1:(c:Int)<(n:Int):=by omega
   have z2:(k:Int)<(L:Int):=by omega
   obtain ⟨S,hS⟩:∃ S,S=barTo m0 c:=⟨_,rfl⟩
   have HS:=Lib.hid hS
   rw [← hS] at HR HK HLB HOB
   have HRC:Hid (RectI C S.m∧S.m.length=L):=by unfold Hid;rw [hS];exact ⟨(HSH.out c).1,(HSH.out c).2.1⟩
   have HBG:Hid (∀ b,blocksQ g0 tags b→b<w.heap.size):=fun b hb=>HBW.out b ((HR.out.same b).1 hb)
   clear hS
   go_wp2_with fail
   go_loopw [12] (fun t wr=>∃ a:Nat,t=.int .i64 a∧k≤a∧a≤L∧Hid (∀ j,k≤j→j<a→elI S.m j c=0)∧wr=wo) (fun t _=>L-(intOf t).toNat)
   case atStart=>exact ⟨k,rfl,by omega,hkL,(fun j h1 h2=>by omega),rfl⟩
   case round =>
    obtain ⟨a,rfl,hka,haL,HZ,rfl⟩:=hrel
    obtain ⟨wo,rfl⟩:∃ wo:World,wo=wr:=⟨_,rfl⟩
    by_cases hal:a<L
    ·have hq3:(a:Int)<(L:Int):=by omega
     obtain ⟨r,hr⟩:∃ r,S.m[a]?=some r:=⟨_,List.getElem?_eq_getElem (by rw [HRC.out.2];exact hal)⟩
     obtain ⟨t,ht,c1,h1,h2,hrow,-,-⟩:=HR.out.mat.get hr
     have hrl:=HRC.out.1 r (List.mem_of_getElem? hr)
     obtain ⟨x,hx⟩:∃ x,r[c]?=some x:=⟨_,List.getElem?_eq_getElem (by omega)⟩
     have g2:=hrow.cell c x hx
     have HXE:Hid (elI S.m a c=x):=by unfold Hid elI;rw [List.getD_eq_getElem?_getD (l:=S.m),hr];show r.getD c 0=x;rw [List.getD_eq_getElem?_getD,hx];rfl
     rw [hrl] at c1 h1
     have hcC:c<C:=by omega
     have hz:=int_zero x
     clear hr ht hrow hrl hx
     by_cases hx0:x=0
     ·have HZ2:Hid (∀ j,k≤j→j<a+1→elI S.m j c=0):=fun j h1 h2=>by
       by_cases e:j=a
       ·rw [e,HXE.out,hx0]
       ·exact HZ.out j h1 (by omega)
      rw [decide_eq_true hx0] at hz
      have hz2:(intB x).toList=[48]:=beq_iff_eq.1 hz
      clear hx0
      go_wp2_with fail
      go_roundw
      case rel=>exact ⟨a+1,by go_num,by omega,by omega,HZ2.out,by first | rfl | trivial⟩
      case measure=>simp [intOf];omega
     ·have HX0:=Lib.hid hx0
      rw [decide_eq_false hx0] at hz
      have hz2:¬ (intB x).toList=[48]:=fun e=>by rw [e] at hz;exact absurd hz (by decide)
      have haL2:((a:Int) == (L:Int))=false:=by rw [beq_eq_false_iff_ne];omega
      clear hx0
      obtain ⟨bak,hbak⟩:∃ b,((a:Int) != (k:Int))=b:=⟨_,rfl⟩
      have HBK:=Lib.hid hbak
      have hkl2:k<S.m.length:=by rw [HRC.out.2];exact hkl
      have hal2:a<S.m.length:=by rw [HRC.out.2];exact hal
      go_upto_if 54 with fail
      go_cut [9] from 55 to 70 (fun s wx=>∃ ob2:Bool,s=.bool ob2∧Hid (ob2=if a=k then ob else !ob)∧Hid (∃ tags1,MidE w wx g0 w.heap.size tags0 (if a=k then S.m else swp S.m k a) (.slice av k cv) S.lead tags1)∧Hid (wo.heap.size≤wx.heap.size))
      case first =>
       by_cases hak:a=k
       ·have hb:bak=false:=by rw [← HBK.out,hak];simp
        have HF:Hid (∃ tags1,MidE w wo g0 w.heap.size tags0 (if a=k then S.m else swp S.m k a) (.slice av k cv) S.lead tags1):=by
         unfold Hid;rw [if_pos hak];exact ⟨tags,HR.out⟩
        have HO2:Hid (ob=if a=k then ob else !ob):=by unfold Hid;rw [if_pos hak]
        clear HBK hbak hak
        subst hb
        go_wp2_with fail
        go_meet
        exact ⟨ob,rfl,HO2.out,HF.out,Nat.le_refl _⟩
       ·have hb:bak=true:=by rw [← HBK.out];simp;omega
        have hka1:¬ k=a:=fun e=>hak e.symm
        obtain ⟨s,t',hs,ht',e1,e3,f1,f3,i1,i3,i2,i4,hmid,hmid2⟩:=HR.out.swap HBW.out HRC.out.1 hkl2 hal2
        have HF:Hid (∃ tags1,MidE w ((wo.setCell ⟨g0,k,none⟩ (.slice (some ⟨t'.1,0,none⟩) C t'.2)).setCell ⟨g0,a,none⟩ (.slice (some ⟨s.1,0,none⟩) C s.2)).drew g0 w.heap.size tags0 (if a=k then S.m else swp S.m k a) (.slice av k cv) S.lead tags1):=by
         unfold Hid;rw [if_neg hak];exact ⟨_,hmid.ext (Ext.drew _)⟩
        have HF2:Hid (∃ tags1,MidE w ((wo.setCell ⟨g0,a,none⟩ (.slice (some ⟨s.1,0,none⟩) C s.2)).setCell ⟨g0,k,none⟩ (.slice (some ⟨t'.1,0,none⟩) C t'.2)).drew g0 w.heap.size tags0 (if a=k then S.m else swp S.m k a) (.slice av k cv) S.lead tags1):=by
         unfold Hid;rw [if_neg hak,swp_comm];exact ⟨_,hmid2.ext (Ext.drew _)⟩
        have HO2:Hid ((!ob)=if a=k then ob else !ob):=by unfold Hid;rw [if_neg hak]
        clear hak
        have HSZ:∀ a v b u,Hid (wo.heap.size≤((wo.setCell a v).setCell b u).drew.heap.size):=fun a v b u=>by show wo.heap.size≤((wo.setCell a v).setCell b u).heap.size;rw [setCell_sizeQ,setCell_sizeQ];exact Nat.le_refl _
        clear HBK hbak hmid hmid2 hs ht' c1 g2 h1 h2
        subst hb
        go_wp2_with fail
        go_region
        all_goals
         go_wp2_with fail
         go_meet
         exact ⟨_,rfl,HO2.out,by first | exact HF.out | exact HF2.out,(HSZ _ _ _ _).out⟩
      case rest =>
       obtain ⟨ob2,rfl,HO2,HMM,HSZ2⟩:=hcut
       obtain ⟨tags1,hmid1⟩:=HMM.out
       obtain ⟨m1,hm1⟩:∃ m1,m1=if a=k then S.m else swp S.m k a:=⟨_,rfl⟩
       rw [← hm1] at hmid1
       have HM1:=Lib.hid hmid1
       have HRC1:Hid (RectI C m1∧m1.length=L):=by
        unfold Hid;rw [hm1];split
        ·exact HRC.out
        ·exact ⟨HRC.out.1.swp _ _,by rw [swp_length];exact HRC.out.2⟩
       have HE1:Hid (∀ i j,elI m1 i j=elI S.m (trJ k a i) j):=fun i j=>by
        rw [hm1]
        by_cases e:a=k
        ·rw [if_pos e,e,trJ_self]
        ·rw [if_neg e];exact elI_swp hkl2 hal2 i j
       obtain ⟨pv,hpv⟩:∃ p,p=elI m1 k c:=⟨_,rfl⟩
       obtain ⟨d,hd⟩:∃ d,d=S.last:=⟨_,rfl⟩
       have HDV:Hid (∀ i j,pv*elI m1 i j-elI m1 i c*elI m1 k j=d*((pv*elI m1 i j-elI m1 i c*elI m1 k j) / d)):=fun i j=>by
        have:=HOK.out.dvd c a hcn (by rw [← HS.out,← HK.out];exact hka) (by rw [← HL.out];exact hal) (by rw [← HS.out,HXE.out];exact HX0.out) (by rw [← HS.out,← HK.out];exact HZ.out) m1 (by rw [← HS.out,← HK.out];exact hm1) i j
        rw [← HS.out,← HK.out,← hpv,← hd] at this
        exact this
       have HNX:Hid (barTo m0 (c+1)=⟨elETo m1 c k pv d L,S.lead++[c],pv,ob2⟩):=by
        unfold Hid
        show stepE c (barTo m0 c)=_
        rw [← HS.out]
        unfold stepE
        simp only
        rw [← HK.out,findE_first hka hal2 (by rw [HXE.out];exact HX0.out) HZ.out,if_neg (by rw [HRC.out.2];omega),← hm1,← hpv,← hd,HRC1.out.2,HO2.out,HOB.out]
       have HPX:Hid (pv=x):=by unfold Hid;rw [hpv,HE1.out,show trJ k a k=a by unfold trJ;rw [if_pos rfl],HXE.out]
       have HZS:Hid (∀ c',c'≤n→∀ i j,(intB (elI (barTo m0 c').m i j)).size≤6000):=HOK.out.sz
       have HDD:Hid (d≠0∧(intB d).size≤6000∧lb=intB d):=by
        unfold Hid
        rw [hd,HS.out]
        exact ⟨HOK.out.ne c hc,HOK.out.lsz c hc,by rw [HLB.out,HS.out]⟩
       have HSM:Hid (∀ i j,(intB (elI m1 i j)).size≤6000):=fun i j=>by rw [HE1.out,HS.out];exact HOK.out.sz c hc _ _
       have HSN:Hid (∀ i j,(intB (elI (elETo m1 c k pv d L) i j)).size≤6000):=fun i j=>by
        have:=HOK.out.sz (c+1) (by omega) i j
        rw [HNX.out] at this
        exact this
       have hlb:=HDD.out.2.2
       subst hlb
       obtain ⟨rk,hrk⟩:∃ r,m1[k]?=some r:=⟨_,List.getElem?_eq_getElem (by rw [HRC1.out.2];exact hkl)⟩
       obtain ⟨tk,htk,c2,k1,k2,hrowk,-,-⟩:=HM1.out.mat.get hrk
       have hrkl:=HRC1.out.1 rk (List.mem_of_getElem? hrk)
       obtain ⟨pp,hpp⟩:∃ p,rk[c]?=some p:=⟨_,List.getElem?_eq_getElem (by omega)⟩
       have g3:=hrowk.cell c pp hpp
       have hpe:pp=pv:=by
        rw [hpv];unfold elI;rw [List.getD_eq_getElem?_getD (l:=m1),hrk];show pp=rk.getD c 0;rw [List.getD_eq_getElem?_getD,hpp];rfl
       subst hpe
       have HPV:Hid (elI m1 k c=pp):=hpv.symm
       rw [hrkl] at c2 k1
       have HRK:Hid (m1[k]?=some rk∧rk.length=C∧tags1[k]?=some tk):=⟨hrk,hrkl,htk⟩
       have hDS:=HM1.out.size
       have HBG1:Hid (∀ b,blocksQ g0 tags1 b→b<w.heap.size):=fun b hb=>HBW.out b ((HM1.out.same b).1 hb)
       clear hmid1 hm1 hpv hd hrk htk hrowk hrkl hpp HMM HR HOK HE1 HPX HXE HX0 HZ HZS hz hz2 g2 c1 h1 h2 haL2 HBK hbak HRC HSH HFU HOB
       go_wp2_with fail
       clear c2 g3
       go_loopw [14] (fun tv wr=>∃ i:Nat,tv=.int .i64 i∧i≤L∧Hid (MidE w wr g0 w.heap.size tags0 (elETo m1 c k pp d i) (.slice av k cv) S.lead tags1)) (fun tv _=>L-(intOf tv).toNat)
       case atStart=>exact ⟨0,rfl,by omega,HM1.out⟩
       case round =>
        obtain ⟨i,rfl,hiL,HMI⟩:=hrel
        obtain ⟨wi,rfl⟩:∃ wi:World,wi=wr:=⟨_,rfl⟩
        by_cases hil:i<L
        ·have q5:(i:Int)<(L:Int):=by omega
         by_cases hik:i=k
         ·have hb:((i:Int) == (k:Int))=true:=by rw [hik];exact beq_self_eq_true _
          have HREL:Hid (MidE w wi g0 w.heap.size tags0 (elETo m1 c k pp d (i+1)) (.slice av k cv) S.lead tags1):=by
           unfold Hid
           rw [show elETo m1 c k pp d (i+1)=elETo m1 c k pp d i by show (if i=k then _ else _)=_;rw [if_pos hik]]
           exact HMI.out
          clear hik
          go_wp2_with fail
          go_roundw
          case rel=>exact ⟨i+1,by go_num,by omega,HREL.out⟩
          case measure=>simp [intOf];omega
         ·have hb:((i:Int) == (k:Int))=false:=by rw [beq_eq_false_iff_ne];omega
          have HIK:=Lib.hid hik
          obtain ⟨M,hMM⟩:∃ M,M=elETo m1 c k pp d i:=⟨_,rfl⟩
          obtain ⟨ri,hri⟩:∃ r,m1[i]?=some r:=⟨_,List.getElem?_eq_getElem (by rw [HRC1.out.2];exact hil)⟩
          have hMi:M[i]?=some ri:=by rw [hMM,elETo_get m1 c k pp d i i (.inl (Nat.le_refl _))];exact hri
          have hMk:M[k]?=some rk:=by rw [hMM,elETo_get m1 c k pp d i k (.inr rfl)];exact HRK.out.1
          have hrow1:rowE m1 i=ri:=by unfold rowE;rw [List.getD_eq_getElem?_getD,hri];rfl
          have hrowk1:rowE m1 k=rk:=by unfold rowE;rw [List.getD_eq_getElem?_getD,HRK.out.1];rfl
          have hril:=HRC1.out.1 ri (List.mem_of_getElem? hri)
          obtain ⟨f,hf⟩:∃ f,ri[c]?=some f:=⟨_,List.getElem?_eq_getElem (by omega)⟩
          have hfe:elI m1 i c=f:=by unfold elI;rw [List.getD_eq_getElem?_getD (l:=m1),hri];show ri.getD c 0=f;rw [List.getD_eq_getElem?_getD,hf];rfl
          have HSTEP:Hid (elETo m1 c k pp d (i+1)=M.set i (combR pp f d ri rk)):=by
           unfold Hid
           show (if i=k then _ else _)=_
           rw [if_neg hik,← hMM,hfe,hrow1,hrowk1]
          rw [← hMM] at HMI
          obtain ⟨ti,hti,c5,hi1,hi2,hrow,-,-⟩:=HMI.out.mat.get hMi
          rw [hril] at c5 hi1
          have g5:=hrow.cell c f hf
          have HTI:Hid (tags1[i]?=some ti):=hti
          have HRI:Hid (M[i]?=some ri∧ri.length=C∧M[k]?=some rk∧m1[i]?=some ri∧elI m1 i c=f):=⟨hMi,hril,hMk,hri,hfe⟩
          have HNL:Hid ((combR pp f d ri rk).length=ri.length):=combR_len (by rw [HRK.out.2.1,hril])
          clear hMM hri hMi hMk hrow1 hrowk1 hril hf hfe hti hrow hik
          go_wp2_with fail
          clear c5 g5
          go_loopw [16] (fun tv wr=>∃ j:Nat,tv=.int .i64 j∧j≤C∧Hid (MidE w wr g0 w.heap.size tags0 (M.set i (partN (combR pp f d ri rk) ri j)) (.slice av k cv) S.lead tags1)) (fun tv _=>C-(intOf tv).toNat)
          case atStart=>exact ⟨0,rfl,by omega,by unfold Hid;rw [partN_zero,set_same HRI.out.1];exact HMI.out⟩
          case round =>
           obtain ⟨j,rfl,hjC,HMJ⟩:=hrel
           obtain ⟨wj,rfl⟩:∃ wj:World,wj=wr:=⟨_,rfl⟩
           have hP:(M.set i (partN (combR pp f d ri rk) ri j))[i]?=some (partN (combR pp f d ri rk) ri j):=set_get HRI.out.1
           have hPk:(M.set i (partN (combR pp f d ri rk) ri j))[k]?=some rk:=by rw [List.getElem?_set,if_neg HIK.out];exact HRI.out.2.2.1
           have hPL:(partN (combR pp f d ri rk) ri j).length=C:=by rw [partN_len _ _ _ HNL.out];exact HRI.out.2.1
           obtain ⟨t',ht',c5,-,-,hrow,-⟩:=HMJ.out.mat.get hP
           obtain rfl:ti=t':=Option.some.inj (HTI.out.symm.trans ht')
           obtain ⟨t',ht'',c6,-,-,hrow2,-⟩:=HMJ.out.mat.get hPk
           obtain rfl:tk=t':=Option.some.inj (HRK.out.2.2.symm.trans ht'')
           rw [hPL] at c5
           rw [HRK.out.2.1] at c6
           by_cases hj:j<C
           ·have q6:(j:Int)<(C:Int):=by omega
            obtain ⟨u,hu⟩:∃ u,ri[j]?=some u:=⟨_,List.getElem?_eq_getElem (by rw [HRI.out.2.1];exact hj)⟩
            obtain ⟨y,hy⟩:∃ y,rk[j]?=some y:=⟨_,List.getElem?_eq_getElem (by rw [HRK.out.2.1];exact hj)⟩
            have hPu:=partN_get HNL.out (Nat.le_refl j) hu
            have g5:=hrow.cell j u hPu
            have g6:=hrow2.cell j y hy
            have hue:elI m1 i j=u:=by unfold elI;rw [List.getD_eq_getElem?_getD (l:=m1),HRI.out.2.2.2.1];show ri.getD j 0=u;rw [List.getD_eq_getElem?_getD,hu];rfl
            have hye:elI m1 k j=y:=by unfold elI;rw [List.getD_eq_getElem?_getD (l:=m1),HRK.out.1];show rk.getD j 0=y;rw [List.getD_eq_getElem?_getD,hy];rfl
            have hpe:elI m1 k c=pp:=HPV.out
            obtain ⟨z,hz⟩:∃ z,z=(pp*u-f*y) / d:=⟨_,rfl⟩
            have hdv:=HDV.out i j
            rw [hue,hye,HRI.out.2.2.2.2,← hz] at hdv
            have hzs:(intB z).size≤6000:=by
             have:=HSN.out i j
             rw [elETo_el HRC1.out.1 c k pp d (by rw [HRC1.out.2];omega) j L (by rw [HRC1.out.2];exact Nat.le_refl _) i,if_pos ⟨hil,HIK.out⟩,hue,hye,HRI.out.2.2.2.2,← hz] at this
             exact this
            have hs1:=HSM.out i j
            have hs2:=HSM.out k j
            have hs3:=HSM.out i c
            have hs4:=HSM.out k c
            rw [hue] at hs1
            rw [hye] at hs2
            rw [HRI.out.2.2.2.2] at hs3
            rw [hpe] at hs4
            have HEJ:Hid (Ext wb wj):=Below.trans HWB.out (HMJ.out.grown.belowE (B:=wb.heap.size) HBL.out HWB.out.size)
            have HCB:Hid (∀ W,Ext wj W→Calls Tryz.prog 139 #[.string (intB pp),.string (intB u),.string (intB f),.string (intB y),.string (intB d)] W fun e w'=>e=.returned (.string (intB z))∧Ext W w'):=fun W hW =>
             combine_any pp u f y d z W hs4 hs1 hs3 hs2 HDD.out.2.1 HDD.out.1 hdv hzs (HT.out.ext (HEJ.out.trans hW))
            have hnz:(combR pp f d ri rk)[j]?=some z:=by
             unfold combR
             rw [List.getElem?_zipWith,hu,hy,hz]
            have HNEXT:Hid (∀ W,Ext wj W→MidE w (W.setCell ⟨ti.1,j,none⟩ (.string (intB z))) g0 w.heap.size tags0 (M.set i (partN (combR pp f d ri rk) ri (j+1))) (.slice av k cv) S.lead tags1):=fun W hW=>by
             have hn:=(HMJ.out.ext hW).setEl HBG1.out HTI.out hP (j:=j) (by rw [hPL];exact hj) z
             rw [List.set_set,partN_set HNL.out hnz] at hn
             exact hn
            have HFR:Hid (∀ W,Ext wj W→W.frozen? ⟨ti.1,j,none⟩=false):=fun W hW=>(hrow.ext hW).free _
            clear ht' ht'' hP hPk hPL hrow hrow2 hu hy hPu hue hye hpe hz hdv hzs hs1 hs2 hs3 hs4 hnz
            go_wp2_with fail
            refine region_anyE (fun w'=>w'.cell? ⟨g0,i,none⟩=some (.slice (some ⟨ti.1,0,none⟩) C ti.2)∧w'.cell? ⟨g0,k,none⟩=some (.slice (some ⟨tk.1,0,none⟩) C tk.2)∧w'.cell? ⟨ti.1,j,none⟩=some (.string (intB u))∧w'.cell? ⟨tk.1,j,none⟩=some (.string (intB y))∧Hid (Ext wj w')) 24 (by kernel_rfl) ⟨(Ext.drew wj).cell c5,(Ext.drew wj).cell c6,(Ext.drew wj).cell g5,(Ext.drew wj).cell g6,Ext.drew wj⟩ (fun hHeld=>?_)
            refine anyE_takeW (v:=?_) 0 rfl (by kernel_rfl) (by kernel_rfl) (by kernel_rfl) (by decide) (fun _ _ _ h=>h) (Or.inl ⟨by rfl,?_⟩) (by assumption) ?_
            rotate_left
            ·((intro w');(try go_simp);(try with_reducible rfl))
            (try simp only [Act.put,List.setIfInBounds_toArray,List.set_cons_zero,List.set_cons_succ])
            refine anyE_takeW (v:=?_) 1 rfl (by kernel_rfl) (by kernel_rfl) (by kernel_rfl) (by decide) (fun _ _ _ h=>h) (Or.inl ⟨by rfl,?_⟩) (by assumption) ?_
            rotate_left
            ·((intro w');(try go_simp);(try with_reducible rfl))
            (try simp only [Act.put,List.setIfInBounds_toArray,List.set_cons_zero,List.set_cons_succ])
            refine anyE_takeW (v:=?_) 2 rfl (by kernel_rfl) (by kernel_rfl) (by kernel_rfl) (by decide) (fun _ _ _ h=>h) (Or.inl ⟨by rfl,?_⟩) (by assumption) ?_
            rotate_left
            ·((intro w');(try go_simp);(try with_reducible rfl))
            (try simp only [Act.put,List.setIfInBounds_toArray,List.set_cons_zero,List.set_cons_succ])
            refine anyE_take (v:=?_) 3 rfl (by kernel_rfl) (by kernel_rfl) (by kernel_rfl) (by kernel_rfl) (by kernel_rfl) (fun _ _ _ h=>h) (Or.inl ⟨by rfl,?_⟩) (by assumption) ?_
            rotate_left
            ·((intro w' hSw);(try dsimp only at hSw);(try go_simp);(try with_reducible rfl))
            (try simp only [Act.put,List.setIfInBounds_toArray,List.set_cons_zero,List.set_cons_succ])
            refine anyE_takeW (v:=?_) 4 rfl (by kernel_rfl) (by kernel_rfl) (by kernel_rfl) (by decide) (fun _ _ _ h=>h) (Or.inl ⟨by rfl,?_⟩) (by assumption) ?_
            rotate_left
            ·((intro w');(try go_simp);(try with_reducible rfl))
            (try simp only [Act.put,List.setIfInBounds_toArray,List.set_cons_zero,List.set_cons_succ])
            refine anyE_takeW (v:=?_) 5 rfl (by kernel_rfl) (by kernel_rfl) (by kernel_rfl) (by decide) (fun _ _ _ h=>h) (Or.inl ⟨by rfl,?_⟩) (by assumption) ?_
            rotate_left
            ·((intro w');(try go_simp);(try with_reducible rfl))
            (try simp only [Act.put,List.setIfInBounds_toArray,List.set_cons_zero,List.set_cons_succ])
            refine anyE_takeW (v:=?_) 6 rfl (by kernel_rfl) (by kernel_rfl) (by kernel_rfl) (by decide) (fun _ _ _ h=>h) (Or.inl ⟨by rfl,?_⟩) (by assumption) ?_
            rotate_left
            ·((intro w');(try go_simp);(try with_reducible rfl))
            (try simp only [Act.put,List.setIfInBounds_toArray,List.set_cons_zero,List.set_cons_succ])
            refine anyE_takeW (v:=?_) 7 rfl (by kernel_rfl) (by kernel_rfl) (by kernel_rfl) (by decide) (fun _ _ _ h=>h) (Or.inl ⟨by rfl,?_⟩) (by assumption) ?_
            rotate_left
            ·((intro w');(try go_simp);(try with_reducible rfl))
            (try simp only [Act.put,List.setIfInBounds_toArray,List.set_cons_zero,List.set_cons_succ])
            refine anyE_takeW (v:=?_) 8 rfl (by kernel_rfl) (by kernel_rfl) (by kernel_rfl) (by decide) (fun _ _ _ h=>h) (Or.inl ⟨by rfl,?_⟩) (by assumption) ?_
            rotate_left
            ·((intro w');(try go_simp);(try with_reducible rfl))
            (try simp only [Act.put,List.setIfInBounds_toArray,List.set_cons_zero,List.set_cons_succ])
            refine anyE_take (v:=?_) 9 rfl (by kernel_rfl) (by kernel_rfl) (by kernel_rfl) (by kernel_rfl) (by kernel_rfl) (fun _ _ _ h=>h) (Or.inl ⟨by rfl,?_⟩) (by assumption) ?_
            rotate_left
            ·((intro w' hSw);(try dsimp only at hSw);(try go_simp);(try with_reducible rfl))
            (try simp only [Act.put,List.setIfInBounds_toArray,List.set_cons_zero,List.set_cons_succ])
            refine anyE_takeW (v:=?_) 10 rfl (by kernel_rfl) (by kernel_rfl) (by kernel_rfl) (by decide) (fun _ _ _ h=>h) (Or.inl ⟨by rfl,?_⟩) (by assumption) ?_
            rotate_left
            ·((intro w');(try go_simp);(try with_reducible rfl))
            (try simp only [Act.put,List.setIfInBounds_toArray,List.set_cons_zero,List.set_cons_succ])
            refine anyE_takeW (v:=?_) 11 rfl (by kernel_rfl) (by kernel_rfl) (by kernel_rfl) (by decide) (fun _ _ _ h=>h) (Or.inl ⟨by rfl,?_⟩) (by assumption) ?_
            rotate_left
            ·((intro w');(try go_simp);(try with_reducible rfl))
            (try simp only [Act.put,List.setIfInBounds_toArray,List.set_cons_zero,List.set_cons_succ])
            refine anyE_take (v:=?_) 12 rfl (by kernel_rfl) (by kernel_rfl) (by kernel_rfl) (by kernel_rfl) (by kernel_rfl) (fun _ _ _ h=>h) (Or.inl ⟨by rfl,?_⟩) (by assumption) ?_
            rotate_left
            ·((intro w' hSw);(try dsimp only at hSw);(try go_simp);(try with_reducible rfl))
            (try simp only [Act.put,List.setIfInBounds_toArray,List.set_cons_zero,List.set_cons_succ])
            refine anyE_takeW (v:=?_) 13 rfl (by kernel_rfl) (by kernel_rfl) (by kernel_rfl) (by decide) (fun _ _ _ h=>h) (Or.inl ⟨by rfl,?_⟩) (by assumption) ?_
            rotate_left
            ·((intro w');(try go_simp);(try with_reducible rfl))
            (try simp only [Act.put,List.setIfInBounds_toArray,List.set_cons_zero,List.set_cons_succ])
            refine anyE_takeW (v:=?_) 14 rfl (by kernel_rfl) (by kernel_rfl) (by kernel_rfl) (by decide) (fun _ _ _ h=>h) (Or.inl ⟨by rfl,?_⟩) (by assumption) ?_
            rotate_left
            ·((intro w');(try go_simp);(try with_reducible rfl))
            (try simp only [Act.put,List.setIfInBounds_toArray,List.set_cons_zero,List.set_cons_succ])
            refine anyE_takeW (v:=?_) 15 rfl (by kernel_rfl) (by kernel_rfl) (by kernel_rfl) (by decide) (fun _ _ _ h=>h) (Or.inl ⟨by rfl,?_⟩) (by assumption) ?_
            rotate_left
            ·((intro w');(try go_simp);(try with_reducible rfl))
            (try simp only [Act.put,List.setIfInBounds_toArray,List.set_cons_zero,List.set_cons_succ])
            refine anyE_takeW (v:=?_) 16 rfl (by kernel_rfl) (by kernel_rfl) (by kernel_rfl) (by decide) (fun _ _ _ h=>h) (Or.inl ⟨by rfl,?_⟩) (by assumption) ?_
            rotate_left
            ·((intro w');(try go_simp);(try with_reducible rfl))
            (try simp only [Act.put,List.setIfInBounds_toArray,List.set_cons_zero,List.set_cons_succ])
            refine anyE_take (v:=?_) 17 rfl (by kernel_rfl) (by kernel_rfl) (by kernel_rfl) (by kernel_rfl) (by kernel_rfl) (fun _ _ _ h=>h) (Or.inl ⟨by rfl,?_⟩) (by assumption) ?_
            rotate_left
            ·((intro w' hSw);(try dsimp only at hSw);(try go_simp);(try with_reducible rfl))
            (try simp only [Act.put,List.setIfInBounds_toArray,List.set_cons_zero,List.set_cons_succ])
            refine anyE_takeW (v:=?_) 18 rfl (by kernel_rfl) (by kernel_rfl) (by kernel_rfl) (by decide) (fun _ _ _ h=>h) (Or.inl ⟨by rfl,?_⟩) (by assumption) ?_
            rotate_left
            ·((intro w');(try go_simp);(try with_reducible rfl))
            (try simp only [Act.put,List.setIfInBounds_toArray,List.set_cons_zero,List.set_cons_succ])
            refine anyE_takeW (v:=?_) 19 rfl (by kernel_rfl) (by kernel_rfl) (by kernel_rfl) (by decide) (fun _ _ _ h=>h) (Or.inl ⟨by rfl,?_⟩) (by assumption) ?_
            rotate_left
            ·((intro w');(try go_simp);(try with_reducible rfl))
            (try simp only [Act.put,List.setIfInBounds_toArray,List.set_cons_zero,List.set_cons_succ])
            refine anyE_take (v:=?_) 20 rfl (by kernel_rfl) (by kernel_rfl) (by kernel_rfl) (by kernel_rfl) (by kernel_rfl) (fun _ _ _ h=>h) (Or.inl ⟨by rfl,?_⟩) (by assumption) ?_
            rotate_left
            ·((intro w' hSw);(try dsimp only at hSw);(try go_simp);(try with_reducible rfl))
            (try simp only [Act.put,List.setIfInBounds_toArray,List.set_cons_zero,List.set_cons_succ])
            refine anyE_takeW (v:=?_) 21 rfl (by kernel_rfl) (by kernel_rfl) (by kernel_rfl) (by decide) (fun _ _ _ h=>h) (Or.inl ⟨by rfl,?_⟩) (by assumption) ?_
            rotate_left
            ·((intro w');(try go_simp);(try with_reducible rfl))
            (try simp only [Act.put,List.setIfInBounds_toArray,List.set_cons_zero,List.set_cons_succ])
            refine anyE_step 22 (by kernel_rfl) rfl (fun K hK=>?_)
            go_simp
            (go_at_call 139;refine (HCB.out _ hHeld.2.2.2.2.out).mono ?_)
            rintro e wz ⟨rfl,hEz⟩
            go_wp2_with fail
            refine hK.out _ _ (⟨hEz.cell hHeld.1,hEz.cell hHeld.2.1,hEz.cell hHeld.2.2.1,hEz.cell hHeld.2.2.2.1,Ext.trans hHeld.2.2.2.2.out hEz⟩) (fun hHeld=>?_)
            clear hK K
            (try simp only [Act.put,List.setIfInBounds_toArray,List.set_cons_zero,List.set_cons_succ])
            refine anyE_takeW (v:=?_) 23 rfl (by kernel_rfl) (by kernel_rfl) (by kernel_rfl) (by decide) (fun _ _ _ h=>h) (Or.inl ⟨by rfl,?_⟩) (by assumption) ?_
            rotate_left
            ·((intro w');(try go_simp);(try with_reducible rfl))
            (try simp only [Act.put,List.setIfInBounds_toArray,List.set_cons_zero,List.set_cons_succ])
            have z1:=hHeld.2.2.1
            have z4:=HFR.out _ hHeld.2.2.2.2.out
            have HM7:=HNEXT.out _ hHeld.2.2.2.2.out
            refine anyE_last 24 (by kernel_rfl) (by kernel_rfl) (by kernel_rfl) rfl (fun K hK=>?_)
            go_simp
            refine hK.out _ _ ?_
            clear hK K
            (try simp only [Act.put,List.setIfInBounds_toArray,List.set_cons_zero,List.set_cons_succ])
            go_wp2_with fail
            go_roundw
            case rel=>exact ⟨j+1,by go_num,by omega,HM7⟩
            case measure=>simp [intOf];omega
           ·have q6:¬ (j:Int)<(C:Int):=by omega
            have HREL:Hid (MidE w wj g0 w.heap.size tags0 (elETo m1 c k pp d (i+1)) (.slice av k cv) S.lead tags1):=by
             have h8:=HMJ.out
             rw [partN_all _ _ _ HNL.out (by rw [HRI.out.2.1];omega)] at h8
             unfold Hid
             rw [HSTEP.out]
             exact h8
            clear ht' ht'' hP hPk hPL hrow hrow2
            go_wp2_with fail
            go_roundw
            case rel=>exact ⟨i+1,by go_num,by omega,HREL.out⟩
            case measure=>simp [intOf];omega
        ·have q5:¬ (i:Int)<(L:Int):=by omega
         have HM3:Hid (MidE w wi g0 w.heap.size tags0 (elETo m1 c k pp d L) (.slice av k cv) S.lead tags1):=by
          have hiL2:i=L:=by omega
          rw [← hiL2];exact HMI.out
         have HB3:=Lib.hid HM3.out.lead.build
         have HLL:Hid (S.lead.length<1000000):=by unfold Hid;rw [← HK.out];omega
         have hszr:w.heap.size≤wi.heap.size:=HM3.out.size
         go_wp2_with (at_builtin;go_must (refine wpList_append_build _ rfl _ _ 26 rfl w.heap.size 3 (.int .i64 0) 1 8 Tryz.underlying26 infoInt rfl (by decide) (.slice av k cv) idxR S.lead c #[.int .i64 c] 3 rfl HB3.out rfl rfl ?e1 (fun _ _=>rfl) HLL.out (by decide) hszr ?_))
         all_goals first | (simp [Value.oneCell'];done) | skip
         intro v' w5 hB5 hg5 hb5 hs5 _
         have HF:=Lib.hid (HM3.out.push HBG1.out (Nat.le_refl _) hb5 hB5.ownI)
         clear hB5 hg5 hb5 HB3
         go_wp2_with fail
         go_roundw
         case rel=>exact ⟨c+1,tags1,_,_,by omega,by go_num,rfl,rfl,by rw [HNX.out];exact rfl,by rw [HNX.out];exact rfl,by rw [HNX.out];exact HF.out⟩
         case measure=>simp [intOf];omega
    ·obtain rfl:a=L:=by omega
     have hq3:¬ (a:Int)<(a:Int):=by omega
     have HNX:Hid (barTo m0 (c+1)=S):=by
      unfold Hid
      show stepE c (barTo m0 c)=S
      rw [← HS.out]
      unfold stepE
      simp only
      rw [findE_none (by rw [← HK.out,HRC.out.2];exact hkL) (fun j hj=>by
       by_cases hja:j<a
       ·exact HZ.out j (by have:=HK.out;omega) hja
       ·exact elI_out (by rw [HRC.out.2];omega)),if_pos rfl]
     go_wp2_with fail
     go_roundw
     case rel=>exact ⟨c+1,tags,_,_,by omega,by go_num,rfl,rfl,by rw [HNX.out];exact HLB.out,by rw [HNX.out];exact HOB.out,by rw [HNX.out];exact HR.out⟩
     case measure=>simp [intOf];omega
  ·have HFIN:Hid (barTo m0 n=barTo m0 c):=by
    by_cases h1:c<n
    ·exact HFU.out c hc (by rw [← HK.out];omega)
    ·unfold Hid;rw [show c=n by omega]
   by_cases h1:c<n
   ·have z1:(c:Int)<(n:Int):=by omega
    have z2:¬ (k:Int)<(L:Int):=by omega
    clear hlt h1
    go_wp2_with fail
    go_ret3
    exact ⟨_,by rw [HFIN.out,← HLB.out,← HOB.out];rfl,by rw [HFIN.out];exact ⟨HR.out.lead,tags,HR.out.mat,HR.out.same,HR.out.grown⟩⟩
   ·have z1:¬ (c:Int)<(n:Int):=by omega
    clear hlt h1
    go_wp2_with fail
    go_ret3
    exact ⟨_,by rw [HFIN.out,← HLB.out,← HOB.out];rfl,by rw [HFIN.out];exact ⟨HR.out.lead,tags,HR.out.mat,HR.out.same,HR.out.grown⟩⟩
end Go.Proofs.YtjlkkofmojgipaaGreatDoor
