import Derived.Test.YtjlkkofmojgipaaGreatDoorPAX
import Derived.Test.YtjlkkofmojgipaaGreatDoorPBB
namespace Go.Proofs.YtjlkkofmojgipaaGreatDoor
set_option linter.unusedVariables false
set_option linter.unusedSimpArgs false
open Go.RowKit
def negL (r:List Int):List Int:=r.map (- ·)
def negP (r:List Int) (j:Nat):List Int:=(negL r).take j++r.drop j
theorem negP_len (r:List Int) (j:Nat):(negP r j).length=r.length:=by
 unfold negP negL;rw [List.length_append,List.length_take,List.length_drop,List.length_map];omega
theorem negP_get (r:List Int) (j:Nat) (a:Int) (h:r[j]?=some a):(negP r j)[j]?=some a:=by
 unfold negP negL
 have hj:=(List.getElem?_eq_some_iff.1 h).1
 rw [List.getElem?_append_right (by rw [List.length_take];omega),List.length_take,List.length_map,List.getElem?_drop]
 rw [show j+(j-min j r.length)=j by omega];exact h
theorem negP_set (r:List Int) (j:Nat) (a:Int) (h:r[j]?=some a):(negP r j).set j (-a)=negP r (j+1):=by
 have hj:=(List.getElem?_eq_some_iff.1 h).1
 unfold negP negL
 rw [List.take_add_one,List.getElem?_map,h]
 have hd:r.drop j=a::r.drop (j+1):=by
  rw [List.drop_eq_getElem_cons hj]
  congr 1
  exact (List.getElem?_eq_some_iff.1 h).2
 rw [hd,List.set_append_right _ _ (by rw [List.length_take];omega),List.length_take,List.length_map,show j-min j r.length=0 by omega]
 simp
theorem negP_zero (r:List Int):negP r 0=r:=by unfold negP;simp
theorem negP_all (r:List Int) (j:Nat) (h:r.length≤j):negP r j=negL r:=by
 unfold negP negL;rw [List.take_of_length_le (by rw [List.length_map];exact h),List.drop_eq_nil_of_le h,List.append_nil]
theorem sweep_some {n c d F:Nat} {m m3:List (List Int)} {p:Bool} (h:sweepO n c d F m=some (m3,p)):(p=false∧colW n c d F m=some (m3,false))∨(p=true∧∃ m2,colW n c d F m=some (m2,true)∧okM n m2=true∧upW c d m2=some m3):=by
 rw [sweep_col] at h
 cases hc:colW n c d F m with
 | none=>rw [hc] at h;cases h
 | some z =>
  obtain ⟨m2,b⟩:=z
  rw [hc] at h
  cases b with
  | false =>
   simp only [Option.some.injEq,Prod.mk.injEq] at h
   obtain ⟨rfl,rfl⟩:=h
   exact .inl ⟨rfl,rfl⟩
  | true =>
   simp only at h
   by_cases hk:okM n m2=true
   ·rw [if_pos hk] at h
    cases hu:upW c d m2 with
    | none=>rw [hu] at h;cases h
    | some m4 =>
     rw [hu] at h
     simp only [Option.some.injEq,Prod.mk.injEq] at h
     obtain ⟨rfl,rfl⟩:=h
     exact .inr ⟨rfl,m2,rfl,hk,hu⟩
   ·rw [if_neg hk] at h;cases h
theorem negW_sm {r:List Int} (h:r.all smB=true):(negL r).all smB=true:=by
 unfold negL
 rw [List.all_map,List.all_eq_true]
 rw [List.all_eq_true] at h
 intro x hx
 have:=(smB_iff x).1 (h x hx)
 show smB (-x)=true
 rw [smB_iff,Int.natAbs_neg];exact this
theorem okW_set {n:Nat} {m:List (List Int)} (h:okM n m=true) (i:Nat) (r:List Int) (h1:r.length=n) (h2:r.all smB=true):okM n (m.set i r)=true:=by
 unfold okM at h ⊢
 rw [List.all_eq_true] at h ⊢
 intro x hx
 rcases List.mem_or_eq_of_mem_set hx with hx | hx
 ·exact h x hx
 ·rw [hx,Bool.and_eq_true,decide_eq_true_iff];exact ⟨h1,h2⟩
set_option maxRecDepth 1000000 in
set_option maxHeartbeats 40000000 in
theorem formM_any (n F:Nat) (m:List (List Int)) (tags:List (Nat×Nat×Nat)) (g0 cap base:Nat) (w:World) (R:List (List Int)×Nat) (hM:MatB w g0 tags m) (hok:colsO n F n 0 0 m=some R)
  (hcap:m.length≤cap) (hcap2:cap≤maxLen) (hn:n≤1000000) (ht:Pow10 w) (hb:4<base) (hg:∀ b,blocksOf g0 tags b→base≤b) (hbw:base≤w.heap.size) :
  Calls Tryz.prog 81 #[.slice (some ⟨g0,0,none⟩) m.length cap,.int .i64 n] w fun e w'=>∃ tags',e=.returned (.tuple #[])∧MatB w' g0 tags' R.1∧R.1.length=m.length∧Below base w w':=by
 have HM:=Lib.hid hM;have HOK:=Lib.hid hok;have HT:=Lib.hid ht;have HB:=Lib.hid hb
 have HG0:Hid (base≤g0):=hg g0 (List.mem_cons_self ..)
 have HPW:Hid (∀ W,Below base w W→Pow10 W):=fun W hW=>ht.below hW hb
 have HTG0:Hid (∀ t∈tags,base≤t.1):=fun t ht=>hg t.1 (List.mem_cons_of_mem _ (List.mem_map.2 ⟨t,ht,rfl⟩))
 unfold maxLen at hcap2
 obtain ⟨L,hL⟩:∃ L,m.length=L:=⟨_,rfl⟩
 rw [hL] at hcap ⊢
 have HL:=Lib.hid hL
 clear hM hok ht hb hg hL
 go_enter Tryz.func81,Tryz.ntmps81
 go_wp2_with fail
 go_loopw [4,5] (fun sd sc wr=>∃ (c d:Nat) (m1:List (List Int)) (tags1:List (Nat×Nat×Nat)),c≤n∧d≤L∧sc=.int .i64 c∧sd=.int .i64 d∧Hid (Below base w wr)∧Hid (MatB wr g0 tags1 m1)∧Hid (m1.length=L)∧Hid (colsO n F (n-c) c d m1=some R)∧Hid (∀ t∈tags1,base≤t.1)) (fun _ sc _=>n-(intOf sc).toNat)
 case atStart=>exact ⟨0,0,m,tags,by omega,by omega,rfl,rfl,Below.refl _ _,HM.out,HL.out,HOK.out,HTG0.out⟩
 case round =>
  obtain ⟨c,d,m1,tags1,hc,hd,rfl,rfl,HG,HM1,HL1,HC,HT1⟩:=hrel
  obtain ⟨w2,rfl⟩:∃ w2:World,w2=wr:=⟨_,rfl⟩
  by_cases hlt:c<n∧d<L
  ·obtain ⟨hlc,hld⟩:=hlt
   obtain ⟨q,hq⟩:∃ q,n-c=q+1:=⟨n-c-1,by omega⟩
   have hC:=HC.out
   rw [hq] at hC
   unfold colsO at hC
   rw [if_pos (by rw [HL1.out];exact hld)] at hC
   cases hsw:sweepO n c d F m1 with
   | none=>rw [hsw] at hC;cases hC
   | some r =>
   obtain ⟨m3,p⟩:=r
   rw [hsw] at hC
   have HC2:Hid (colsO n F q (c+1) (if p then d+1 else d) m3=some R):=hC
   have HQ:Hid (n-(c+1)=q):=by unfold Hid;omega
   have hG0:g0<w2.heap.size:=HM1.out.lt
   have hpg:4<g0:=Nat.lt_of_lt_of_le HB.out HG0.out
   have hPW2:=HPW.out w2 HG.out
   rcases sweep_some hsw with ⟨rfl,hcw⟩ | ⟨rfl,m2,hcw,hok2,hup⟩
   ·have HCO:=Lib.hid (column_any n F c d m1 tags1 g0 cap w2 (m3,false) HM1.out hcw (by rw [HL1.out];exact hcap) (by unfold maxLen;exact hcap2) (by rw [HL1.out];exact hd) hlc hn hPW2 hpg)
    have hcl:=colW_len hcw (by rw [HL1.out];exact hd)
    rw [HL1.out] at HCO hcl
    have HL3:Hid (m3.length=L):=hcl.1
    clear hsw hC hq hcw hPW2 hpg hcl HC
    go_wp2_with fail
    refine HCO.out.mono ?_
    rintro e w5 ⟨tags5,rfl,hM5,hT5,hG5⟩
    have HM5:=Lib.hid hM5
    have HG5:Hid (Below base w w5):=HG.out.trans (hG5.below (base:=base) (by have:=HG0.out;omega) (fun k hk=>by rw [hk];exact HG0.out))
    have HT5:Hid (∀ t∈tags5,base≤t.1):=fun t ht=>by
     rcases hT5 t ht with e | e
     ·exact HT1.out t e
     ·have:=HG0.out;omega
    clear hM5 hG5 hT5 HCO
    go_wp2_with fail
    go_roundw
    case rel=>exact ⟨c+1,d,m3,tags5,by omega,by omega,by go_num,rfl,HG5.out,HM5.out,HL3.out,by unfold Hid;rw [HQ.out];exact HC2.out,HT5.out⟩
    case measure=>simp [intOf];omega
   ·have HCO:=Lib.hid (column_any n F c d m1 tags1 g0 cap w2 (m2,true) HM1.out hcw (by rw [HL1.out];exact hcap) (by unfold maxLen;exact hcap2) (by rw [HL1.out];exact hd) hlc hn hPW2 hpg)
    have hcl:=colW_len hcw (by rw [HL1.out];exact hd)
    rw [HL1.out] at HCO hcl
    have HL3:Hid (m2.length=L):=hcl.1
    have HOK2:=Lib.hid hok2;have HUP:=Lib.hid hup
    clear hsw hC hq hcw hPW2 hpg hcl HC hok2 hup
    go_wp2_with fail
    refine HCO.out.mono ?_
    rintro e w5 ⟨tags5,rfl,hM5,hT5,hG5⟩
    have HM5:=Lib.hid hM5
    have HG5:Hid (Below base w w5):=HG.out.trans (hG5.below (base:=base) (by have:=HG0.out;omega) (fun k hk=>by rw [hk];exact HG0.out))
    have HT5:Hid (∀ t∈tags5,base≤t.1):=fun t ht=>by
     rcases hT5 t ht with e | e
     ·exact HT1.out t e
     ·have:=HG0.out;omega
    clear hM5 hG5 hT5 HCO
    obtain ⟨tp,htp,p1,p2,p3,p6,p4,p5,hsy,hyl,hyg⟩:=HM5.out.elem HOK2.out d c (by rw [HL3.out];exact hld) hlc
    have hys:=(okM_row HOK2.out d (by rw [HL3.out];exact hld)).2
    have HSG:=Lib.hid (fun W=>sign_any (getE m2 d c) W)
    have HTP:=Lib.hid htp;have HP4:=Lib.hid p4;have HYS:=Lib.hid hys
    have HBTP:Hid (base≤tp.1):=HT5.out tp (List.mem_of_getElem? htp)
    have HTPG:Hid (tp.1≠g0):=p5
    obtain ⟨yr,hyr⟩:∃ yr,rowE_ m2 d=yr:=⟨_,rfl⟩
    obtain ⟨y0,hye⟩:∃ y,getE m2 d c=y:=⟨_,rfl⟩
    have HUPW:Hid (upO c d (if y0<0 then m2.set d (negL yr) else m2) d=some m3):=by
     have:=HUP.out
     unfold upW at this
     rw [hye,hyr] at this;exact this
    rw [hyr] at hyl HP4 HYS
    rw [hye] at p6 HSG
    have HYR:=Lib.hid hyr
    have HYL:=Lib.hid hyl
    unfold maxLen at p3
    clear htp p4 hys hyr hye hyg hsy HUP p5
    obtain ⟨mN,hmN⟩:∃ mN,(if y0<0 then m2.set d (negL yr) else m2)=mN:=⟨_,rfl⟩
    rw [hmN] at HUPW
    have HMN:=Lib.hid hmN
    clear hmN
    go_wp2_with fail
    refine (HSG.out _).mono ?_
    rintro e w' ⟨rfl,rfl⟩
    clear HSG
    go_upto_if 37 with fail
    obtain ⟨bn,hbn⟩:∃ bn,decide (y0<0)=bn:=⟨_,rfl⟩
    rw [hbn]
    have HBN:=Lib.hid hbn
    clear hbn
    go_cut [7] from 38 to 51 (fun s7 wx=>Hid (MatB wx g0 tags5 mN)∧Hid (Below base w wx))
    case first =>
     as_aux_lemma =>
     cases bn with
     | true =>
      have hneg:=of_decide_eq_true HBN.out
      have HIF:Hid (mN=m2.set d (negL yr)):=by unfold Hid;rw [← HMN.out];exact if_pos hneg
      clear hneg
      go_wp2_with fail
      go_loopw [40] (fun t wr=>∃ j:Nat,j≤n∧t=.int .i64 j∧Hid (GrownS (·=tp.1) w5 wr)∧Hid (RowB wr tp.1 tp.2.1 (negP yr j))) (fun t _=>n-(intOf t).toNat)
      case atStart=>exact ⟨0,by omega,rfl,GrownS.refl _ _,by rw [negP_zero];exact HP4.out⟩
      case round =>
       obtain ⟨j,hj,rfl,HGN,HPN⟩:=hrel
       obtain ⟨wo,rfl⟩:∃ wo:World,wo=wr:=⟨_,rfl⟩
       by_cases hjl:j<n
       ·obtain ⟨a,haj⟩:∃ a,yr[j]?=some a:=⟨yr[j]'(by rw [HYL.out];exact hjl),List.getElem?_eq_getElem _⟩
        have g1:=HPN.out.cell j a (negP_get yr j a haj)
        have HNG:Hid (∀ W,Calls Tryz.prog 29 #[.string (intB a)] W fun e w'=>e=.returned (.string (intB (-a)))∧Ext W w'):=fun W=>neg_any a W (by have:=(sm_of (List.all_eq_true.1 HYS.out a (List.mem_of_getElem? haj))).size;omega)
        have HSET:Hid (∀ W,Ext wo W→RowB (W.setCell ⟨tp.1,tp.2.1+j,none⟩ (.string (intB (-a)))) tp.1 tp.2.1 (negP yr (j+1))):=fun W hE=>by
         rw [← negP_set yr j a haj]
         exact (HPN.out.ext hE).set j (by rw [negP_len,HYL.out];exact hjl) _
        clear haj
        go_wp2_with fail
        refine (HNG.out _).mono ?_
        rintro e w6 ⟨rfl,h6⟩
        have HE6:=Lib.hid h6
        have g6:=h6.cell g1
        have f6:=(HPN.out.ext h6).free (tp.2.1+j)
        clear h6 HNG
        go_wp2_with fail
        go_roundw
        case rel=>exact ⟨j+1,by omega,by go_num,(HGN.out.ext HE6.out).setCell rfl _ _,HSET.out _ HE6.out⟩
        case measure=>simp [intOf];omega
       ·obtain rfl:j=n:=by omega
        have HF:Hid (RowB wo tp.1 tp.2.1 (negL yr)):=by
         unfold Hid;rw [← negP_all yr j (by rw [HYL.out];exact Nat.le_refl _)];exact HPN.out
        go_wp2_with fail
        go_meet
        rw [HIF.out]
        exact ⟨HM5.out.setRow d (by rw [HL3.out];exact hld) tp HTP.out (negL yr) (by rw [HYR.out];unfold negL;rw [List.length_map]) HGN.out HF.out,HG5.out.trans (HGN.out.below (base:=base) (Nat.le_trans hbw HG5.out.size) (fun k hk=>by rw [hk];exact HBTP.out))⟩
     | false =>
      have hneg:=of_decide_eq_false HBN.out
      have HIF:Hid (mN=m2):=by unfold Hid;rw [← HMN.out];exact if_neg hneg
      clear hneg
      go_wp2_with fail
      go_meet
      rw [HIF.out]
      exact ⟨HM5.out,HG5.out⟩
    case rest =>
    obtain ⟨HM6,HG6⟩:=hcut
    obtain ⟨w6,rfl⟩:∃ w6:World,w6=wc:=⟨_,rfl⟩
    have hmN:=HMN.out
    have HLN:Hid (mN.length=L):=by
     unfold Hid;rw [← hmN];split
     ·rw [List.length_set];exact HL3.out
     ·exact HL3.out
    have HOKN:Hid (okM n mN=true):=by
     unfold Hid;rw [← hmN];split
     ·exact okW_set HOK2.out d _ (by unfold negL;rw [List.length_map];exact HYL.out) (negW_sm HYS.out)
     ·exact HOK2.out
    clear hmN HMN HM5 HG5 HP4 p6 p1 HYS HYR HOK2
    go_wp2_with fail
    go_loopw [53] (fun si wr=>∃ (i4:Nat) (mj:List (List Int)) (tj:List (Nat×Nat×Nat)),i4≤d∧si=.int .i64 i4∧Hid (GrownS (·=g0) w6 wr)∧Hid (MatB wr g0 tj mj)∧Hid (upO c d mN i4=some mj)∧Hid (∀ t∈tj,base≤t.1)∧Hid (tj[d]?=some tp)) (fun si _=>d-(intOf si).toNat)
    case atStart=>exact ⟨0,mN,tags5,by omega,rfl,GrownS.refl _ _,HM6.out,rfl,HT5.out,HTP.out⟩
    case round =>
     obtain ⟨i4,mj,tj,h4b,rfl,HGJ,HMJ,HDJ,HTJ,HTD⟩:=hrel
     obtain ⟨w4,rfl⟩:∃ w4:World,w4=wr:=⟨_,rfl⟩
     obtain ⟨kl1,kl2,kl3⟩:=upO_keep HDJ.out h4b (by rw [HLN.out];omega)
     have HLJ:Hid (mj.length=L):=by unfold Hid;rw [kl1];exact HLN.out
     have HPWJ:Hid (∀ W,Ext w4 W→Pow10 W):=fun W hW=>(HPW.out w6 HG6.out |>.below (HGJ.out.below (base:=base) (Nat.le_trans hbw HG6.out.size) (fun k hk=>by rw [hk];exact HG0.out)) HB.out).ext hW
     by_cases h4l:i4<d
     ·skip
      obtain ⟨z,hz4⟩:=upO_some HUPW.out (i4+1) (by omega)
      obtain ⟨mj',nr,e1,hy0,hless,e2⟩:=upO_step hz4
      rw [HDJ.out] at e1
      obtain rfl:=Option.some.inj e1
      have hXL:(rowE_ mj i4).length=n∧(rowE_ mj i4).all smB=true:=by
       rw [kl2 i4 (by omega)];exact okM_row HOKN.out i4 (by rw [HLN.out];omega)
      have hYL:(rowE_ mj d).length=n∧(rowE_ mj d).all smB=true:=by
       rw [kl2 d (by omega)];exact okM_row HOKN.out d (by rw [HLN.out];omega)
      have HST:Hid (upO c d mN (i4+1)=some (mj.set i4 nr)):=by unfold Hid;rw [hz4,e2]
      have hzz:=lessO_sz hless (by rw [hXL.1,hYL.1]) hXL.2 hYL.2
      obtain ⟨rfl,hq8,hss8⟩:=hzz
      clear hz4 e1 e2 kl1 kl2 kl3 hless
      obtain ⟨t4,ht4,b1,b2,b3,b4,b5⟩:=HMJ.out.get i4 (by rw [HLJ.out];omega)
      obtain ⟨tp',htp,q1,q2,q3,q4,q5⟩:=HMJ.out.get d (by rw [HLJ.out];omega)
      obtain rfl:tp=tp':=Option.some.inj (HTD.out.symm.trans htp)
      have ex:(rowE_ mj i4)[c]?=some (getE mj i4 c):=by
       unfold getE;rw [List.getD_eq_getElem?_getD,List.getElem?_eq_getElem (by rw [hXL.1];exact hlc)];rfl
      have ey:(rowE_ mj d)[c]?=some (getE mj d c):=by
       unfold getE;rw [List.getD_eq_getElem?_getD,List.getElem?_eq_getElem (by rw [hYL.1];exact hlc)];rfl
      have b6:=b4.cell c _ ex
      have p6:=q4.cell c _ ey
      have hsx:Sz (getE mj i4 c):=sm_of (List.all_eq_true.1 hXL.2 _ (List.mem_of_getElem? ex))
      have hsy:Sz (getE mj d c):=sm_of (List.all_eq_true.1 hYL.2 _ (List.mem_of_getElem? ey))
      have HDM:Hid (∀ W,Ext w4 W→Calls Tryz.prog 94 #[.string (intB (getE mj i4 c)),.string (intB (getE mj d c))] W fun e w'=>e=.returned (.tuple #[.string (intB (fdq (getE mj i4 c) (getE mj d c))),.string (intB (fdr (getE mj i4 c) (getE mj d c))),.int .i64 0])∧Ext W w'):=fun W hW=>divModZ (getE mj i4 c) (getE mj d c) W hsx hsy hy0 (HPWJ.out W hW)
      have hrs8:∀ a∈rowE_ mj i4,(intB a).size≤2800000000:=fun a ha=>by have:=(sm_of (List.all_eq_true.1 hXL.2 a ha)).size;omega
      have hll:(rowE_ mj d).length=(rowE_ mj i4).length:=by rw [hXL.1,hYL.1]
      rw [hXL.1] at b1 b2
      rw [hYL.1] at q1 q2
      have HLS:Hid (∀ W,Ext w4 W→Calls Tryz.prog 137 #[.slice (some ⟨t4.1,t4.2.1,none⟩) n t4.2.2,.slice (some ⟨tp.1,tp.2.1,none⟩) n tp.2.2,.string (intB (fdq (getE mj i4 c) (getE mj d c)))] W fun e w'=>e=.returned (.slice (some ⟨W.heap.size,0,none⟩) n n)∧Ext W w'∧RowB w' W.heap.size 0 (lessL (fdq (getE mj i4 c) (getE mj d c)) (rowE_ mj i4) (rowE_ mj d))):=fun W hW=>by
       have h9:=lineLess_any (fdq (getE mj i4 c) (getE mj d c)) (rowE_ mj i4) (rowE_ mj d) t4.1 t4.2.1 t4.2.2 tp.1 tp.2.1 tp.2.2 W (b4.ext hW) (q4.ext hW) hll hq8 hrs8 hss8 (by rw [hXL.1];exact b2) b3 (by rw [hYL.1];exact q2) q3 (by rw [hXL.1];exact hn) (HPWJ.out W hW)
       rw [hXL.1,hYL.1] at h9
       exact h9
      have hNL:(lessL (fdq (getE mj i4 c) (getE mj d c)) (rowE_ mj i4) (rowE_ mj d)).length=n:=by rw [lessL_len];exact hXL.1
      unfold maxLen at b3
      obtain ⟨nr,hnr⟩:∃ nr,lessL (fdq (getE mj i4 c) (getE mj d c)) (rowE_ mj i4) (rowE_ mj d)=nr:=⟨_,rfl⟩
      rw [hnr] at HLS hNL HST
      obtain ⟨xe,hxe⟩:∃ x,getE mj i4 c=x:=⟨_,rfl⟩
      obtain ⟨ye,hye⟩:∃ y,getE mj d c=y:=⟨_,rfl⟩
      rw [hxe] at b6 HDM HLS
      rw [hye] at p6 HDM HLS
      have HNL:=Lib.hid hNL
      have HMJL:Hid (i4<mj.length):=by unfold Hid;rw [HLJ.out];omega
      have hi4L:(i4:Int)<(L:Int):=by omega
      have f1:=HMJ.out.free i4
      have HQ4:=Lib.hid q4
      have hcn9:(c:Int)<(n:Int):=by omega
      clear hnr hxe hye ex ey hsx hsy ht4 htp b4 b5 q4 q5 hy0 hXL hYL hq8 hss8 hrs8 hll hNL HUPW HOKN q1
      go_upto_region 15 with fail
      refine region_anyEV (fun w'=>w'.cell? ⟨g0,i4,none⟩=some (.slice (some ⟨t4.1,t4.2.1,none⟩) n t4.2.2)∧w'.cell? ⟨t4.1,t4.2.1+c,none⟩=some (.string (intB xe))∧w'.cell? ⟨tp.1,tp.2.1+c,none⟩=some (.string (intB ye))∧Hid (Ext w4 w')) 19 19 (by kernel_rfl) (by kernel_rfl) ⟨(Ext.drew w4).cell b1,(Ext.drew w4).cell b6,(Ext.drew w4).cell p6,Ext.drew w4⟩ (fun ops hO hHeld=>?_)
      have hi:=getopN hO 0 (by decide)
      conv at hi=>rhs;arg 1;whnf
      refine anyE_takeWV hO (v:=?_) 0 hi (by kernel_rfl) (by kernel_rfl) (by kernel_rfl) (by kernel_rfl) (fun _ _ _ h=>h) (Or.inl ⟨by rfl,?_⟩) (by assumption) ?_
      rotate_left
      ·((intro w');(try go_simp);(try with_reducible rfl))
      clear hi
      (try simp only [Act.put,List.setIfInBounds_toArray,List.set_cons_zero,List.set_cons_succ])
      have hi:=getopN hO 1 (by decide)
      conv at hi=>rhs;arg 1;whnf
      refine anyE_takeWV hO (v:=?_) 1 hi (by kernel_rfl) (by kernel_rfl) (by kernel_rfl) (by kernel_rfl) (fun _ _ _ h=>h) (Or.inl ⟨by rfl,?_⟩) (by assumption) ?_
      rotate_left
      ·((intro w');(try go_simp);(try with_reducible rfl))
      clear hi
      (try simp only [Act.put,List.setIfInBounds_toArray,List.set_cons_zero,List.set_cons_succ])
      have hi:=getopN hO 2 (by decide)
      conv at hi=>rhs;arg 1;whnf
      refine anyE_takeWV hO (v:=?_) 2 hi (by kernel_rfl) (by kernel_rfl) (by kernel_rfl) (by kernel_rfl) (fun _ _ _ h=>h) (Or.inl ⟨by rfl,?_⟩) (by assumption) ?_
      rotate_left
      ·((intro w');(try go_simp);(try with_reducible rfl))
      clear hi
      (try simp only [Act.put,List.setIfInBounds_toArray,List.set_cons_zero,List.set_cons_succ])
      have hi:=getopN hO 3 (by decide)
      conv at hi=>rhs;arg 1;whnf
      refine anyE_takeV hO (v:=?_) 3 hi (by kernel_rfl) (by kernel_rfl) (by kernel_rfl) (by kernel_rfl) (fun _ _ _ h=>h) (Or.inl ⟨by rfl,?_⟩) (by assumption) ?_
      rotate_left
      ·((intro w' hSw);(try dsimp only at hSw);(try go_simp);(try with_reducible rfl))
      clear hi
      (try simp only [Act.put,List.setIfInBounds_toArray,List.set_cons_zero,List.set_cons_succ])
      have hi:=getopN hO 4 (by decide)
      conv at hi=>rhs;arg 1;whnf
      refine anyE_takeWV hO (v:=?_) 4 hi (by kernel_rfl) (by kernel_rfl) (by kernel_rfl) (by kernel_rfl) (fun _ _ _ h=>h) (Or.inl ⟨by rfl,?_⟩) (by assumption) ?_
      rotate_left
      ·((intro w');(try go_simp);(try with_reducible rfl))
      clear hi
      (try simp only [Act.put,List.setIfInBounds_toArray,List.set_cons_zero,List.set_cons_succ])
      have hi:=getopN hO 5 (by decide)
      conv at hi=>rhs;arg 1;whnf
      refine anyE_takeWV hO (v:=?_) 5 hi (by kernel_rfl) (by kernel_rfl) (by kernel_rfl) (by kernel_rfl) (fun _ _ _ h=>h) (Or.inl ⟨by rfl,?_⟩) (by assumption) ?_
      rotate_left
      ·((intro w');(try go_simp);(try with_reducible rfl))
      clear hi
      (try simp only [Act.put,List.setIfInBounds_toArray,List.set_cons_zero,List.set_cons_succ])
      have hi:=getopN hO 6 (by decide)
      conv at hi=>rhs;arg 1;whnf
      refine anyE_takeV hO (v:=?_) 6 hi (by kernel_rfl) (by kernel_rfl) (by kernel_rfl) (by kernel_rfl) (fun _ _ _ h=>h) (Or.inl ⟨by rfl,?_⟩) (by assumption) ?_
      rotate_left
      ·((intro w' hSw);(try dsimp only at hSw);(try go_simp);(try with_reducible rfl))
      clear hi
      (try simp only [Act.put,List.setIfInBounds_toArray,List.set_cons_zero,List.set_cons_succ])
      have hi:=getopN hO 7 (by decide)
      conv at hi=>rhs;arg 1;whnf
      refine anyE_takeWV hO (v:=?_) 7 hi (by kernel_rfl) (by kernel_rfl) (by kernel_rfl) (by kernel_rfl) (fun _ _ _ h=>h) (Or.inl ⟨by rfl,?_⟩) (by assumption) ?_
      rotate_left
      ·((intro w');(try go_simp);(try with_reducible rfl))
      clear hi
      (try simp only [Act.put,List.setIfInBounds_toArray,List.set_cons_zero,List.set_cons_succ])
      have hi:=getopN hO 8 (by decide)
      conv at hi=>rhs;arg 1;whnf
      refine anyE_takeWV hO (v:=?_) 8 hi (by kernel_rfl) (by kernel_rfl) (by kernel_rfl) (by kernel_rfl) (fun _ _ _ h=>h) (Or.inl ⟨by rfl,?_⟩) (by assumption) ?_
      rotate_left
      ·((intro w');(try go_simp);(try with_reducible rfl))
      clear hi
      (try simp only [Act.put,List.setIfInBounds_toArray,List.set_cons_zero,List.set_cons_succ])
      have hi:=getopN hO 9 (by decide)
      conv at hi=>rhs;arg 1;whnf
      refine anyE_takeWV hO (v:=?_) 9 hi (by kernel_rfl) (by kernel_rfl) (by kernel_rfl) (by kernel_rfl) (fun _ _ _ h=>h) (Or.inl ⟨by rfl,?_⟩) (by assumption) ?_
      rotate_left
      ·((intro w');(try go_simp);(try with_reducible rfl))
      clear hi
      (try simp only [Act.put,List.setIfInBounds_toArray,List.set_cons_zero,List.set_cons_succ])
      have hi:=getopN hO 10 (by decide)
      conv at hi=>rhs;arg 1;whnf
      refine anyE_takeV hO (v:=?_) 10 hi (by kernel_rfl) (by kernel_rfl) (by kernel_rfl) (by kernel_rfl) (fun _ _ _ h=>h) (Or.inl ⟨by rfl,?_⟩) (by assumption) ?_
      rotate_left
      ·((intro w' hSw);(try dsimp only at hSw);(try go_simp);(try with_reducible rfl))
      clear hi
      (try simp only [Act.put,List.setIfInBounds_toArray,List.set_cons_zero,List.set_cons_succ])
      have hi:=getopN hO 11 (by decide)
      conv at hi=>rhs;arg 1;whnf
      refine anyE_stepV hO 11 (by kernel_rfl) hi (fun K hK=>?_)
      go_simp
      (go_at_call 94;refine (HDM.out _ (hHeld.2.2.2.out)).mono ?_)
      rintro e w5 ⟨rfl,hEz⟩
      go_wp2_with fail
      refine hK.out _ _ ⟨(hEz).cell hHeld.1,(hEz).cell hHeld.2.1,(hEz).cell hHeld.2.2.1,Ext.trans hHeld.2.2.2.out (hEz)⟩ (fun hHeld=>?_)
      clear hK K hi
      (try simp only [Act.put,List.setIfInBounds_toArray,List.set_cons_zero,List.set_cons_succ])
      have hi:=getopN hO 12 (by decide)
      conv at hi=>rhs;arg 1;whnf
      refine anyE_takeWV hO (v:=?_) 12 hi (by kernel_rfl) (by kernel_rfl) (by kernel_rfl) (by kernel_rfl) (fun _ _ _ h=>h) (Or.inl ⟨by rfl,?_⟩) (by assumption) ?_
      rotate_left
      ·((intro w');(try go_simp);(try with_reducible rfl))
      clear hi
      (try simp only [Act.put,List.setIfInBounds_toArray,List.set_cons_zero,List.set_cons_succ])
      have hi:=getopN hO 13 (by decide)
      conv at hi=>rhs;arg 1;whnf
      refine anyE_takeWV hO (v:=?_) 13 hi (by kernel_rfl) (by kernel_rfl) (by kernel_rfl) (by kernel_rfl) (fun _ _ _ h=>h) (Or.inl ⟨by rfl,?_⟩) (by assumption) ?_
      rotate_left
      ·((intro w');(try go_simp);(try with_reducible rfl))
      clear hi
      (try simp only [Act.put,List.setIfInBounds_toArray,List.set_cons_zero,List.set_cons_succ])
      have hi:=getopN hO 14 (by decide)
      conv at hi=>rhs;arg 1;whnf
      refine anyE_takeWV hO (v:=?_) 14 hi (by kernel_rfl) (by kernel_rfl) (by kernel_rfl) (by kernel_rfl) (fun _ _ _ h=>h) (Or.inl ⟨by rfl,?_⟩) (by assumption) ?_
      rotate_left
      ·((intro w');(try go_simp);(try with_reducible rfl))
      clear hi
      (try simp only [Act.put,List.setIfInBounds_toArray,List.set_cons_zero,List.set_cons_succ])
      have hi:=getopN hO 15 (by decide)
      conv at hi=>rhs;arg 1;whnf
      refine anyE_takeWV hO (v:=?_) 15 hi (by kernel_rfl) (by kernel_rfl) (by kernel_rfl) (by kernel_rfl) (fun _ _ _ h=>h) (Or.inl ⟨by rfl,?_⟩) (by assumption) ?_
      rotate_left
      ·((intro w');(try go_simp);(try with_reducible rfl))
      clear hi
      (try simp only [Act.put,List.setIfInBounds_toArray,List.set_cons_zero,List.set_cons_succ])
      have hi:=getopN hO 16 (by decide)
      conv at hi=>rhs;arg 1;whnf
      refine anyE_takeWV hO (v:=?_) 16 hi (by kernel_rfl) (by kernel_rfl) (by kernel_rfl) (by kernel_rfl) (fun _ _ _ h=>h) (Or.inl ⟨by rfl,?_⟩) (by assumption) ?_
      rotate_left
      ·((intro w');(try go_simp);(try with_reducible rfl))
      clear hi
      (try simp only [Act.put,List.setIfInBounds_toArray,List.set_cons_zero,List.set_cons_succ])
      have hi:=getopN hO 17 (by decide)
      conv at hi=>rhs;arg 1;whnf
      refine anyE_takeWV hO (v:=?_) 17 hi (by kernel_rfl) (by kernel_rfl) (by kernel_rfl) (by kernel_rfl) (fun _ _ _ h=>h) (Or.inl ⟨by rfl,?_⟩) (by assumption) ?_
      rotate_left
      ·((intro w');(try go_simp);(try with_reducible rfl))
      clear hi
      (try simp only [Act.put,List.setIfInBounds_toArray,List.set_cons_zero,List.set_cons_succ])
      have HE5:Hid (Ext w4 w5):=hHeld.2.2.2
      have hi:=getopN hO 18 (by decide)
      conv at hi=>rhs;arg 1;whnf
      refine anyE_lastV hO 18 (by kernel_rfl) (by kernel_rfl) hi (fun K hK=>?_)
      go_simp
      refine hK.out _ _ (by assumption) ?_
      clear hK K hi hO
      (try simp only [Act.put,List.setIfInBounds_toArray,List.set_cons_zero,List.set_cons_succ])
      have b7:=HE5.out.cell b1
      have HLS5:=Lib.hid (HLS.out w5 HE5.out)
      clear HDM HLS b1 b6 p6
      go_wp2_with fail
      refine HLS5.out.mono ?_
      rintro e w8 ⟨rfl,h8,hR8⟩
      have HE8:Hid (Ext w4 w8):=HE5.out.trans h8
      have HR8:=Lib.hid hR8
      have q8:=h8.cell b7
      have f8:=(HMJ.out.ext HE8.out).free i4
      have HM9:=Lib.hid (HMJ.out.newRow i4 HMJL.out (w5.heap.size,0,n) nr HE8.out hR8 HE5.out.size (by rw [HNL.out];exact Nat.le_refl _) (by show n≤maxLen;unfold maxLen;omega))
      rw [HNL.out] at HM9
      have HG9:=Lib.hid ((HGJ.out.ext HE8.out).setCell (g:=g0) rfl i4 (.slice (some ⟨w5.heap.size,0,none⟩) n n))
      have HT9:Hid (∀ t∈tj.set i4 (w5.heap.size,0,n),base≤t.1):=fun t ht=>by
       rcases List.mem_or_eq_of_mem_set ht with h | h
       ·exact HTJ.out t h
       ·rw [h];have h9:=HE5.out.size;have h10:=HGJ.out.size;have h11:=HG6.out.size
        show base≤w5.heap.size;omega
      have HTD9:Hid ((tj.set i4 (w5.heap.size,0,n))[d]?=some tp):=by unfold Hid;rw [List.getElem?_set,if_neg (by omega)];exact HTD.out
      clear h8 hR8 b7 HLS5
      go_wp2_with fail
      go_roundw
      case rel=>exact ⟨i4+1,mj.set i4 nr,_,by omega,by go_num,HG9.out,HM9.out,HST.out,HT9.out,HTD9.out⟩
      case measure=>simp [intOf];omega
     ·obtain rfl:i4=d:=by omega
      have hmf:mj=m3:=by
       have h9:=HDJ.out;rw [HUPW.out] at h9
       exact (Option.some.inj h9).symm
      subst hmf
      have HG7:Hid (Below base w w4):=HG6.out.trans (HGJ.out.below (base:=base) (Nat.le_trans hbw HG6.out.size) (fun k hk=>by rw [hk];exact HG0.out))
      go_wp2_with fail
      go_roundw
      case rel=>exact ⟨c+1,i4+1,mj,tj,by omega,by omega,by go_num,by go_num,HG7.out,HMJ.out,HLJ.out,by unfold Hid;rw [HQ.out];exact HC2.out,HTJ.out⟩
      case measure=>simp [intOf];omega
  ·have hR:(m1,d)=R:=by
    have hC:=HC.out
    by_cases hcn:c<n
    ·obtain ⟨q,hq⟩:∃ q,n-c=q+1:=⟨n-c-1,by omega⟩
     rw [hq] at hC
     unfold colsO at hC
     rw [if_neg (by rw [HL1.out];omega)] at hC
     exact Option.some.inj hC
    ·rw [show n-c=0 by omega] at hC
     exact Option.some.inj hC
   have HF:Hid (MatB w2 g0 tags1 R.1∧R.1.length=L):=by rw [← hR];exact ⟨HM1.out,HL1.out⟩
   clear hR HC HM1 HL1
   by_cases hcn:c<n
   ·have hdL:¬ d<L:=fun h=>hlt ⟨hcn,h⟩
    clear hlt
    go_wp2_with fail
    refine bodyPost_end (results_none rfl _ _ _) rfl ⟨tags1,rfl,HF.out.1,HF.out.2,HG.out⟩
   ·clear hlt
    go_wp2_with fail
    refine bodyPost_end (results_none rfl _ _ _) rfl ⟨tags1,rfl,HF.out.1,HF.out.2,HG.out⟩
set_option maxRecDepth 100000 in
set_option maxHeartbeats 1000000 in
theorem formM_nil (n c:Nat) (a:Option Addr) (w:World) (hn:n≤1000000):Calls Tryz.prog 81 #[.slice a 0 c,.int .i64 n] w fun e w'=>e=.returned (.tuple #[])∧Ext w w':=by
 go_enter Tryz.func81,Tryz.ntmps81
 go_wp2_with fail
 go_loopw [4,5] (fun sd sc wr=>sd=.int .i64 0∧sc=.int .i64 0∧w=wr) (fun _ _ _=>0)
 case atStart=>exact ⟨rfl,rfl,rfl⟩
 case round =>
  obtain ⟨rfl,rfl,rfl⟩:=hrel
  by_cases h0:0<n
  ·have h1:(0:Int)<(n:Int):=by omega
   go_wp2_with fail
   refine bodyPost_end (results_none rfl _ _ _) rfl ⟨rfl,Ext.refl _⟩
  ·have h1:¬ (0:Int)<(n:Int):=by omega
   go_wp2_with fail
   refine bodyPost_end (results_none rfl _ _ _) rfl ⟨rfl,Ext.refl _⟩
end Go.Proofs.YtjlkkofmojgipaaGreatDoor
