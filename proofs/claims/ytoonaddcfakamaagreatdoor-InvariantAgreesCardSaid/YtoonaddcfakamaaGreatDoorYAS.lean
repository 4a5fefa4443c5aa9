import Derived.Test.YtoonaddcfakamaaGreatDoorYAR
import Derived.Test.YtoonaddcfakamaaGreatDoorYAN
import Derived.Test.YtoonaddcfakamaaGreatDoorYAO
import Derived.Test.YtoonaddcfakamaaGreatDoorYAA
import Derived.Test.YtoonaddcfakamaaGreatDoorProg
import Derived.Test.YtoonaddcfakamaaGreatDoorYAQ
import Derived.Test.YtoonaddcfakamaaGreatDoorYAH
set_option linter.unusedVariables false
set_option linter.unusedSimpArgs false
set_option maxRecDepth 1000000
set_option maxHeartbeats 8000000
namespace Go.Proofs.YtoonaddcfakamaaGreatDoor
open Go.RowKit Go.Shelf Go.Proofs.Tryz
attribute [local go_sem] Oper.semAt_some
def kd (xss:oP) (k:Nat) (R C:List Nat):Int:=(ah (df (cI xss R C)) k).det.num
def fp (xss:oP) (k:Nat):List Int:=(bh xss.length k).flatMap fun R=>(bh (bJ xss) k).map fun C=>kd xss k R C
def eO (xss:oP) (k i:Nat):List Int:=((bh xss.length k).take i).flatMap fun R=>(bh (bJ xss) k).map fun C=>kd xss k R C
def fL (xss:oP) (k:Nat) (R:List Nat) (j:Nat):List Int:=((bh (bJ xss) k).take j).map fun C=>kd xss k R C
theorem Z04 {xss:oP} {k i:Nat} {R:List Nat} (h:(bh xss.length k)[i]?=some R):eO xss k (i+1)=eO xss k i++fL xss k R (bh (bJ xss) k).length:=by
 unfold eO fL;rw [nz,h,List.take_length,List.flatMap_append];simp
theorem k8_ {xss:oP} {k j:Nat} {R C:List Nat} (h:(bh (bJ xss) k)[j]?=some C):fL xss k R (j+1)=fL xss k R j++[kd xss k R C]:=by
 unfold fL;rw [nz,h,List.map_append];simp
theorem Z1R (xss:oP) (k i j:Nat) (R:List Nat) (h1:(bh xss.length k).length<=1000) (h2:(bh (bJ xss) k).length<=1000):(eO xss k i++fL xss k R j).length<8000000:=by
 unfold eO fL;rw [oJ,Z5_ _ (bh (bJ xss) k).length (fun R=>by simp),List.length_map,ny,ny];have:=Nat.mul_le_mul (show min i (bh xss.length k).length<=1000 by omega) h2;omega
theorem Z1Q (xss:oP) (k:Nat):eO xss k (bh xss.length k).length=fp xss k:=by
 unfold eO fp;rw [List.take_length]
theorem Z05 (xss:oP) (k:Nat) (v:Value) (w:World) (h:aV w v xss) (hE:cM xss=0) (hk1:k<=xss.length) (hk2:k<=bJ xss) (tj:eA xss.length k*eA (bJ xss) k<=1000)
  (og:∀ R∈bh xss.length k,∀ C∈bh (bJ xss) k,∀ c,c<k->fi 2500 (ah (df (cI xss R C)) c).m/\RS 9000 (ah (df (cI xss R C)) c).det) (ht:aZ w) :
  Calls prog 101 #[v,.int .i64 (k:Int)] w fun e w'=>∃ r,e=.returned (.tuple #[r,.int .i64 0])/\w'.ownsRow w.heap.size 92 1 r (fp xss k).length (fT (fp xss k))/\aA w w':=by
 obtain ⟨hl,qX⟩:=j8 hE;have o8:bJ xss<=12:=by
  unfold bJ;cases xss with
  | nil=>simp
  | cons r l=>exact (qX r (by simp)).2.1
 have HCH:Hid (∀ W,aA w W->oL 100 #[v] W (.int .i64 0)):=fun W hW=>by
  have:=mF xss v W (h.ext hW);rw [hE] at this;exact this
 have qv:Hid (∀ W,aA w W->Calls prog 200 #[v] W fun e w'=>e=.returned (.int .i64 (bJ xss:Int))/\w'=W):=fun W hW=>(Y8_ xss v W (h.ext hW)).mono fun _ _ ⟨a,b⟩=>⟨a,b.symm⟩
 have HC1:Hid (∀ W,Calls prog 201 #[.int .i64 (xss.length:Int),.int .i64 (k:Int)] W fun e w'=>e=.returned (.int .i64 (eA xss.length k:Int))/\w'=W):=fun W=>(E5_ _ _ W hl hk1).mono fun _ _ ⟨a,b⟩=>⟨a,b.symm⟩
 have HC2:Hid (∀ W,Calls prog 201 #[.int .i64 (bJ xss:Int),.int .i64 (k:Int)] W fun e w'=>e=.returned (.int .i64 (eA (bJ xss) k:Int))/\w'=W):=fun W=>(E5_ _ _ W o8 hk2).mono fun _ _ ⟨a,b⟩=>⟨a,b.symm⟩
 have HROWS:=np h;have HT:=np ht;have HOK:=np og;have HRR:=np qX;obtain ⟨a,c,rfl,h1,h2,-,qO⟩:=aP.open h;have HCELL:=np qO;obtain ⟨n,hn⟩:=oO xss.length;obtain ⟨m,hm⟩:=oO (bJ xss);rw [<- hn] at HC1 qv HCH h1 hk1 tj hl HROWS |-;rw [<- hm] at HC2 qv hk2 tj o8;obtain ⟨c1,pc⟩:=oO (eA n k);obtain ⟨c2,hc2⟩:=oO (eA m k);rw [<- pc] at HC1 tj;rw [<- hc2] at HC2 tj;have HCC:=np (And.intro pc hc2);have HNM:=np (And.intro hn hm);unfold maxLen at h2;have q0:¬ (k:Int)<0:=by omega
 have q1:¬ (n:Int)<(k:Int):=by omega
 have q2:¬ (m:Int)<(k:Int):=by omega
 have hcm:((c1*c2:Nat):Int)=(c1:Int)*(c2:Int):=Int.natCast_mul _ _;have q3:IntKind.i64.wrap ((c1:Int)*(c2:Int))=(c1:Int)*(c2:Int):=by rw [<- hcm,IntKind.wrap_i64];omega
 have q4:¬ (1000:Int)<(c1:Int)*(c2:Int):=by rw [<- hcm];omega
 have z0:=oG q0;have z1:=oG q1;have z2:=oG q2;have z4:=oG q4;have z5:decide (n<k)=false:=by rw [decide_eq_false_iff_not];omega
 have z6:decide (m<k)=false:=by rw [decide_eq_false_iff_not];omega
 clear h hE og ht qX qO hn hm pc hc2 hcm;refine (callsIn_wide (n:=9)).1 ?_;refine callsIn_of_wp_marks func101 rfl trivial ?_ rfl;simp only [ntmps101,List.size_toArray,List.length_cons,List.length_nil,Nat.reduceAdd,Nat.reduceSub,Array.replicate_succ,Array.replicate_zero,List.push_toArray,List.append_toArray,List.nil_append,List.cons_append];obtain ⟨W2,pg⟩:=oN ((w.alloc (.cells #[.slice a n c] 32)).alloc (.cells #[.int .i64 (k:Int)] 3));have qF:aA w W2:=by rw [<- pg];exact (aA.alloc _ _).trans (aA.alloc _ _)
 have hs2:W2.heap.size=w.heap.size+2:=by rw [<- pg];simp
 have hb1:Boxed W2 w.heap.size 32 (.slice a n c):=by
  rw [<- pg];exact Boxed.alloc (Boxed.new w _ _) _
 have oY:Boxed W2 (w.heap.size+1) 3 (.int .i64 (k:Int)):=by
  rw [<- pg];have:=Boxed.new (w.alloc (.cells #[.slice a n c] 32)) 3 (.int .i64 (k:Int));simpa using this
 have HX2:=np qF;have HB1:=np hb1;have HB2:=np oY;have HS2:=np hs2;have d1:=hb1.cell;have d2:=oY.cell;clear qF hs2 hb1 oY;refine wpIn_wide.2 ?_;go_wp2_with fail;refine (HCH _ HX2).mono ?_;rintro e w1 ⟨rfl,hE1⟩;have HX1:=np (aA.trans HX2 hE1);have e1:=hE1.cell d1;have e2:=hE1.cell d2;have xn:Hid (Boxed w1 w.heap.size 32 (.slice a n c)/\Boxed w1 (w.heap.size+1) 3 (.int .i64 (k:Int))/\w.heap.size+2<=w1.heap.size):=⟨aF HB1 hE1,aF HB2 hE1,by have:=hE1.size;have:=HS2.out;omega⟩;clear hE1 d1 d2 pg HCH;go_wp2_with fail
 go_quiet ((go_at_call 200;exact Calls.quiet_of_same (qv _ (aA.draws HX1 _))))
 go_wp2_with fail;obtain ⟨wq,Dm⟩:=oO (w1.drewN nq);rw [<- Dm];have zT:aA w1 wq:=by rw [Dm];exact aA.drewN _ _
 have HXQ:=np (aA.trans HX1 zT);have b1:=zT.cell e1;have b2:=zT.cell e2;have wg:Hid (Boxed wq w.heap.size 32 (.slice a n c)/\Boxed wq (w.heap.size+1) 3 (.int .i64 (k:Int))/\w.heap.size+2<=wq.heap.size):=⟨aF xn.1 zT,aF xn.2.1 zT,by have:=zT.size;have:=xn.2.2;omega⟩;clear Dm zT e1 e2 xn HX1 HX2 HB1 HB2 HS2
 go_quiet ((first | (go_at_call 200;exact Calls.quiet_of_same (qv _ (aA.draws HXQ _))) | (go_at_call 201;with_reducible exact Calls.quiet_of_same (HC1.out _)) | (go_at_call 201;with_reducible exact Calls.quiet_of_same (HC2.out _))))
 obtain ⟨wz,Dl⟩:=oO (wq.drewN nq);rw [<- Dl];have yN:aA wq wz:=by rw [Dl];exact aA.drewN _ _
 obtain ⟨W3,rO⟩:=oN (wz.alloc (.cells #[.slice none 0 0] 48));have oT:aA wz W3:=by rw [<- rO];exact aA.alloc _ _
 have HM3:Hid (er w W3 w.heap.size (w.heap.size+1) wz.heap.size (.slice a n c) k (eO xss k 0)):=by
  have hs:=yN.size;have hz:=wg.2.2;refine ⟨aF wg.1 (yN.trans oT),aF wg.2.1 (yN.trans oT),⟨_,?_,World.ownsRow_nil _ _ _ _⟩,HXQ.trans (yN.trans oT),by omega,n9 _,by omega⟩;rw [<- rO];exact Boxed.new _ _ _
 have b1:=oT.cell (yN.cell b1);have b2:=oT.cell (yN.cell b2);have rz:Hid (W3.heap.size=wz.heap.size+1/\w.heap.size+2<=wz.heap.size):=⟨by rw [<- rO];simp,by have:=yN.size;have:=wg.2.2;omega⟩;clear Dl yN oT wg HXQ;go_wp2_with fail;refine (d0_ _ _ _).mono ?_;rintro e w4 ⟨rfl,hw4⟩;have wE:aA W3 w4:=by rw [hw4];exact (aA.alloc _ _).trans (aA.alloc _ _)
 have HM4:=np (HM3.ext wE);have zj:Hid (Boxed w4 (W3.heap.size+1) 3 (.int .i64 (k:Int))/\Boxed w4 W3.heap.size 3 (.int .i64 (n:Int))/\w4.heap.size=W3.heap.size+2):=by
  rw [hw4];refine ⟨?_,Boxed.alloc (Boxed.new _ _ _) _,by simp⟩;have:=Boxed.new (W3.alloc (.cells #[.int .i64 (n:Int)] 3)) 3 (.int .i64 (k:Int));simpa using this
 clear b1 b2 hw4 wE rO;go_wp2_with fail;refine (wpIn_wide (n:=9)).1 ?_;have HSI:=np (nY (n:=n) (k:=k) hl hk1);have HSJ:=np (nY (n:=m) (k:=k) o8 hk2);refine F7_ (T:=3) (L:=bh n k) (w0:=w4) rfl (by omega) (gf:=273) (lb:=#[.pointer (some ⟨W3.heap.size+1,0,none⟩),.pointer (some ⟨W3.heap.size,0,none⟩)]) rfl trivial (enters_of func273 (by kernel_rfl) rfl)
  (e9_ (9-1) (by omega) n k hk1 hl (bh n k) HSI.1 _ _ w4 zj.1 zj.2.1) (Below.refl _ _) rfl
  (fun i W=>er w W w.heap.size (w.heap.size+1) wz.heap.size (.slice a n c) k (eO xss k i)) ?ab HM4 ?rounds ?done
 case ab =>
  rintro i W W' row hI hg hr;have h3:=rz.out;have h4:=zj.2.2;refine hI.grown hg (fun e=>?_) (fun e=>?_) (fun e=>?_) (fun r e=>?_);·have:=(hr _ e).1;omega
  ·have:=(hr _ e).1;omega
  ·have:=(hr _ e).1;omega
  ·obtain ⟨h5,o,ho,h6⟩:=hr r e;refine ⟨by omega,fun C fr hc=>?_⟩;rw [hc] at ho;cases ho;rcases h6 with h6 | ⟨C',fr',h6⟩
   ·simp [Obj.isCells] at h6
   ·simp at h6
 case done =>
  intro W hI hD;have pk:eO xss k (bh n k).length=fp xss k:=by rw [HNM.out.1];exact Z1Q xss k
  rw [pk] at hI;obtain ⟨vo,qy,hown⟩:=hI.out;have c0:=qy.cell;have HI:=np hI;have HD:=np hD;have HOWN:=np hown;have hw4:w.heap.size<=w4.heap.size:=HM4.old.size;clear hI hD hown qy pk;go_wp2_with fail;refine ⟨by simp,.inl ⟨_,_,rfl,run_takeDeferred HD,?_⟩⟩;refine ⟨_,results_tmp2 rfl _ _ _,vo,rfl,?_,?_⟩;·exact ownsRow_putObj HOWN _ HD rfl
  ·exact Below.trans HI.old ((belowK_b (w:=w) (n₀:=w.heap.size) (n9 _) W w4.heap.size _ _ hw4 HD rfl rfl))
 case rounds =>
  rintro i R vs W hR hI hV ⟨r0,vD⟩;have hRk:=HSI.1.len R (nw hR);have hRn:=HSI.1.lt R (nw hR);obtain ⟨gR,CR,frR,vR,ID,IM⟩:=hV.at_;rw [hRk] at vR;subst vR;have HV:=np hV;have HI:=np hI;have HR:=np hR;have HL0:=np vD;have HRK:=np hRk;have HRN:=np hRn;have HGR:=np ID;have HCR:=np IM;obtain ⟨W5,tm⟩:=oN (W.alloc (.cells #[.slice none 0 0] 29));have hb5:Boxed W5 W.heap.size 29 (.slice none 0 0):=by rw [<- tm];exact Boxed.new _ _ _
  have HE5:Hid (aA W W5):=by rw [<- tm];exact aA.alloc _ _
  have HB5:=np hb5;have c0:=hb5.cell;have f0:=hb5.frozen;have HE6:Hid (aA W (W5.setCell ⟨W.heap.size,0,none⟩ (.slice (some ⟨gR,0,none⟩) k k))):=((HE5.grownS (·=W.heap.size)).store (S:=(·=W.heap.size)) rfl 0 _).belowE (fun b e=>by omega) (n9 _);have HB6:Hid (Boxed (W5.setCell ⟨W.heap.size,0,none⟩ (.slice (some ⟨gR,0,none⟩) k k)) W.heap.size 29 (.slice (some ⟨gR,0,none⟩) k k)):=d_ hb5 0 _;clear hV hI hR vD hRk hRn ID IM hb5
  gi_wp2_with fail
  obtain ⟨W6,IX⟩:=oO (W5.setCell ⟨W.heap.size,0,none⟩ (.slice (some ⟨gR,0,none⟩) k k));rw [<- IX] at HE6 HB6 |-;have hbx:=HI.box;refine ⟨(cU.ext (n0:=w.heap.size) (Bo:=wz.heap.size) HE6).keepF hbx.2,(cU.ext (n0:=w.heap.size) (Bo:=wz.heap.size) HE6).keepT hbx.1,?_⟩;rintro Wb qL ⟨r1,pv⟩ ⟨r2,pF⟩ Hz;have hlw:=(Array.getElem?_eq_some_iff.1 HL0).1;have AT:Hid (er w Wb w.heap.size (w.heap.size+1) wz.heap.size (.slice a n c) k (eO xss k i)):=by
   have h3:=rz.out;have h4:=zj.2.2;refine (HI.ext HE6).grown qL (fun e=>?_) (fun e=>?_) (fun e=>?_) (fun r e=>?_);·have e:=oA e;omega
   ·have e:=oA e;omega
   ·have e:=oA e;omega
   ·cases e;exact ⟨by omega,fun C fr hc=>by rw [pv] at hc;simp at hc⟩
  have HBB:Hid (Boxed Wb W.heap.size 29 (.slice (some ⟨gR,0,none⟩) k k)):=Y6_ HB6 qL (fun e=>by have e:=oA e;omega);have LN:Hid (jB 3 Wb (.slice (some ⟨gR,0,none⟩) k k) R):=HV.keep (((cU.ext (n0:=w.heap.size) (Bo:=wz.heap.size) HE6).keepT hbx.1).trans Hz);have HL2:=np pF;have g1:=AT.bm.cell;have g2:=AT.bk.cell;have HXB:=np AT.old;clear c0 f0 qL Hz pv pF hbx IX tm HE6 HB6 HB5 HE5
  gi_wp2_with fail
  refine Y0_ (fun u=>u=Wb.drew) 3 (by kernel_rfl) (by kernel_rfl) (by rintro ⟨_,_,h⟩;exact absurd (show Exit.outgrown=Exit.normal from h.1) (by simp)) rfl (fun oR=>?_);refine tL (v:=?_) 0 rfl (Or.inl ⟨by rfl,?_⟩) ?_;rotate_left;·((intro w' qW);(subst qW);(try go_simp);(try with_reducible rfl))
  (try simp only [Act.put,ao,aq,aw])
  refine tL (v:=?_) 2 rfl (Or.inl ⟨by rfl,?_⟩) ?_;rotate_left;·((intro w' qW);(subst qW);(try go_simp);(try with_reducible rfl))
  (try simp only [Act.put,ao,aq,aw])
  refine dz 1 (by kernel_rfl) rfl (fun K hK=>?_);go_simp
  (go_at_call 200;refine (qv _ (aA.trans HXB (aA.drew _))).mono ?_)
  rintro e w5 ⟨rfl,rfl⟩;go_wp2_with fail;refine hK _ _ (rfl) (fun oR=>?_);clear hK K
  (try simp only [Act.put,ao,aq,aw])
  refine gX 3 (by kernel_rfl) (by kernel_rfl) (by kernel_rfl) rfl (fun K hK=>?_);go_simp
  (go_at_call 202;refine (d0_ _ _ _).mono ?_)
  rintro e w5 ⟨rfl,Dp⟩;have s5:aA Wb w5:=by rw [Dp];exact (aA.drew _).trans ((aA.alloc _ _).trans (aA.alloc _ _))
  have HK5:Hid (Boxed w5 (Wb.heap.size+1) 3 (.int .i64 (k:Int))/\Boxed w5 Wb.heap.size 3 (.int .i64 (m:Int))/\w5.heap.size=Wb.heap.size+2):=by
   rw [Dp];refine ⟨?_,Boxed.alloc (Boxed.new _ _ _) _,by rw [World.size_alloc,World.size_alloc];rfl⟩;have:=Boxed.new (Wb.drew.alloc (.cells #[.int .i64 (m:Int)] 3)) 3 (.int .i64 (k:Int));rw [World.size_alloc] at this;exact this
  have HX5:=np s5;clear Dp s5 g1 g2 oR;go_wp2_with fail;refine hK _ _ ?_;clear hK K
  gi_wp2_with fail
  have LW:Hid (er w w5 w.heap.size (w.heap.size+1) wz.heap.size (.slice a n c) k (eO xss k i++fL xss k R 0)/\cU w.heap.size wz.heap.size Wb w5):=by
   refine ⟨?_,cU.ext HX5⟩;have e:fL xss k R 0=[]:=rfl;rw [e,List.append_nil];exact AT.ext HX5
  have hlb:=(Array.getElem?_eq_some_iff.1 HL2).1;refine G8_ (l₀:=w4.heap.size+1) (r₀:=r2) (T:=3) (L:=bh m k) (w0:=w5) rfl (aF HL2 HX5) (by omega) (gf:=273) (lb:=#[.pointer (some ⟨Wb.heap.size+1,0,none⟩),.pointer (some ⟨Wb.heap.size,0,none⟩)]) rfl trivial (enters_of func273 (by kernel_rfl) rfl)
   (jb.inRound _ (e9_ _ (by omega) m k hk2 o8 (bh m k) HSJ.1 _ _ w5 HK5.1 HK5.2.1)) (Below.refl _ _) rfl
   (fun j W=>er w W w.heap.size (w.heap.size+1) wz.heap.size (.slice a n c) k (eO xss k i++fL xss k R j)/\cU w.heap.size wz.heap.size Wb W) ?ab2 LW ?rounds2 ?done2
  case ab2 =>
   rintro j W' W'' row ⟨hI,hO⟩ hg hr;have h3:=rz.out;have h4:=zj.2.2;have h5:=HK5.2.2;refine ⟨hI.grown hg (fun e=>?_) (fun e=>?_) (fun e=>?_) (fun r e=>?_),hO.later hg fun r e=>?_⟩;·have:=(hr _ e).1;omega
   ·have:=(hr _ e).1;omega
   ·have:=(hr _ e).1;omega
   ·obtain ⟨h5,o,ho,h6⟩:=hr r e;refine ⟨by omega,fun C fr hc=>?_⟩;rw [hc] at ho;cases ho;rcases h6 with h6 | ⟨C',fr',h6⟩
    ·simp [Obj.isCells] at h6
    ·simp at h6
   ·have:=(hr _ e).1;omega
  case done2 =>
   rintro W' ⟨hI,hO⟩;have hb:=AT.box;have hE:eO xss k i++fL xss k R (bh m k).length=eO xss k (i+1):=by
    rw [HNM.out.2,Z04 (R:=R) (by rw [<- HNM.out.1];exact HR.out)]
   rw [hE] at hI;have HIM:=np hI;clear hI
   gi_wp2_with fail
   exact ⟨hO.keepF hb.2,hO.keepT hb.1,HIM⟩
  case rounds2 =>
   rintro j C vc W' hC ⟨hI,hO⟩ FX ⟨r3,Av⟩;have hCk:=HSJ.1.len C (nw hC);have hCm:=HSJ.1.lt C (nw hC);obtain ⟨gC,CC,frC,vR,-,-⟩:=id FX.at_;rw [hCk] at vR;subst vR;have HVC:=np FX;have HIC:=np hI;have HOC:=np hO;have HC:=np hC;have HCK:=np hCk;have HCM:=np hCm;have HL3:=np Av;clear FX hI hO hC hCk hCm Av
   gi_wp2_with fail
   refine ⟨KeepsFrom.refl _ _,fU.refl _ _,?_⟩;rintro Wc Em ⟨r4,Au⟩ ⟨r5,Hg⟩ Ed;have yS:Hid (er w Wc w.heap.size (w.heap.size+1) wz.heap.size (.slice a n c) k (eO xss k i++fL xss k R j)):=by
    have h3:=rz.out;have h4:=zj.2.2;have h5:=HK5.2.2;refine HIC.grown Em (fun e=>?_) (fun e=>?_) (fun e=>?_) (fun r e=>?_);·have e:=oA e;omega
    ·have e:=oA e;omega
    ·have e:=oA e;omega
    ·cases e;exact ⟨by omega,fun C fr hc=>by rw [Au] at hc;simp at hc⟩
   have HOW:Hid (cU w.heap.size wz.heap.size Wb Wc):=HOC.later Em (fun r e=>by have e:=oA e;have:=HK5.2.2;omega);have HSC:=np (HVC.keep Ed);have HSR:=np (LN.keep (HOW.keepT AT.box.1));have hw3:=rz.out;have hw4:=zj.2.2;have Ld:Hid (Boxed Wc W.heap.size 29 (.slice (some ⟨gR,0,none⟩) k k)):=(HOW.block _ HBB.lt (.inr ⟨fun e=>by omega,fun C fr e=>by rw [show Wb.heap[W.heap.size]?=_ from HBB.out] at e;simp at e⟩)).trans HBB;have HL5:=np Hg;have g1:=yS.bm.cell;have g2:=yS.bk.cell;have g3:=Ld.cell;clear Em Au Hg Ed HIC HOC HVC HL3 hw3 hw4;rw [show (Fence.wide.inRound (w4.heap.size+1)).inRound w5.heap.size=Fence.wide.inRound w5.heap.size from rfl]
   gi_wp2_with fail
   have HXC:=np yS.old
   gi_loopw [59,10] (fun t u wx=>∃ (p:Nat) (tags:List (Nat×Nat)),p<=k/\t=.int .i64 p/\Hid (aA Wc wx)/\Hid (bp Z62 36 wx Wc.heap.size Wc.heap.size u tags (cI xss (R.take p) C))) (fun t _ _=>k-(intOf t).toNat)
   case atStart=>exact ⟨0,[],by omega,rfl,aA.refl _,bp.nil _ _ _ _ _⟩
   case round =>
    obtain ⟨p,tags,L0,rfl,vK,CT⟩:=hrel;obtain ⟨wo,rfl⟩:∃ wo:World,wo=wr:=⟨_,rfl⟩;clear g1 g2 g3;by_cases hlt:p<k
    ·obtain ⟨x,hx⟩:∃ x,R[p]?=some x:=⟨_,ns (by rw [HRK.out];exact hlt)⟩;have Cj:x<n:=HRN x (nw hx);have d1:=vK.cell (HSR.cells hx);have HPT:=np (Z09 (m:=xss) (C:=C) hx);obtain ⟨b,off,rfl,rh,hcell⟩:=HCELL (by intro e;have:=HNM.1;rw [e] at this;simp at this;omega);obtain ⟨xs,hxs⟩:∃ xs,xss[x]?=some xs:=⟨_,ns (by rw [<- HNM.out.1];exact Cj)⟩;obtain ⟨ux,G3,o7⟩:=hcell x xs hxs;have hxl:=(HRR xs (nw hxs)).1;obtain ⟨ax,cx,rfl,l1,l2,-,lb,lc⟩:=aK.open G3;rw [hxl,<- HNM.out.2] at o7 l1;have HCX:=np o7;have HLC:=np lc;have HLB:=np lb;have HXL:=np hxl;have HGD:Hid (xss.getD x []=xs):=(by unfold Hid;rw [nu,hxs];rfl);unfold maxLen at l2;clear hx hcell G3 o7 lc lb hxs hxl
     gi_wp2_with fail
     clear d1
     gi_loopw [65,13] (fun t u wx=>∃ q:Nat,q<=k/\t=.int .i64 q/\Hid (aA wo wx)/\Hid (i_ wo.heap.size wx u (fO xs C q))) (fun t _ _=>k-(intOf t).toNat)
     case atStart=>exact ⟨0,by omega,rfl,aA.refl _,World.ownsRow_nil _ _ _ _⟩
     case round =>
      obtain ⟨q,EA,rfl,rU,HQ⟩:=hrel;obtain ⟨wi,rfl⟩:∃ wi:World,wi=wr:=⟨_,rfl⟩;by_cases tJ:q<k
      ·obtain ⟨y,hy⟩:∃ y,C[q]?=some y:=⟨_,ns (by rw [HCK.out];exact tJ)⟩;have Jc:y<m:=HCM y (nw hy);have hyl:y<xs.length:=(by rw [HXL.out,<- HNM.out.2];exact Jc);have d1:=(vK.trans rU).cell (HSC.cells hy);have d2:=(vK.trans rU).cell yS.bm.cell;have d3:=((HXC.trans vK).trans rU).cell HCX;obtain ⟨z,hz⟩:∃ z,xs[y]?=some z:=⟨_,ns hyl⟩;obtain ⟨bx,offx,rfl,hbx,qp⟩:=HLC (by intro e;rw [e] at hyl;simp at hyl);have d4:=((HXC.trans vK).trans rU).cell (qp y z hz);have HSU:Hid ((fO xs C (q+1))=(fO xs C q)++[z]):=Z0a hy hz;have p1:(0:Int)<=(x:Int):=(by omega);have p2:(x:Int)<(n:Int):=(by omega);have p3:(0:Int)<=(y:Int):=(by omega);have p4:(y:Int)<(m:Int):=(by omega);have HSZ:Hid (wo.heap.size<=wi.heap.size):=rU.size;have r6:Hid ((fO xs C q).length<1000000):=(by unfold Hid;rw [p8_ (by rw [HCK.out];omega)];omega);clear hy hz qp hyl
       gi_wp2_with (gi_at_builtin;go_must (refine Z4_ rfl (by intro c h;cases h) (fun K hK=>?_);refine u6_ wi _ _ 36 underlying36 rfl wo.heap.size u13 (fO xs C q) z #[.int .i64 z] 3 rfl HQ (by rfl) rfl r6 HSZ ?_))
       intro v' w2 wH oY;rw [<- HSU.out] at wH;have HQ3:=np wH;have HX2:Hid (aA wo w2):=Below.trans rU oY;clear wH oY d1 d2 d3 d4;refine hK _ _ ?_;clear hK K
       gi_wp2_with fail
       go_roundw
       case rel=>exact ⟨q+1,by omega,by go_num,HX2,HQ3⟩
       case measure=>simp [intOf];omega
      ·obtain rfl:q=k:=(by omega);have hQ:=HQ.out;have hpl:(fO xs C q).length=q:=p8_ (by rw [HCK.out];exact n9 _);obtain ⟨gq,cq,rfl,e1,e2,e3,e4⟩:=ei hQ (by omega);rw [hpl] at hQ e3 |-;have hRI:ew wi gq (fO xs C q):=ew.ofOwn (B:=wo.heap.size) (n:=q) (c:=cq) (by have:=HQ.out;unfold i_ at this;rw [hpl] at this;exact this);have HRI:=np hRI;have HPL:=np hpl;have HO2:=np (CT.ext rU);have HV2:Hid (u10.ownBlock≠some gq):=fun e=>by have:=(CT.own.lt _ e).2;omega
       have pY:Hid (gq∉tags.map (·.1)):=fun e=>by have:=(CT.fresh e).2;omega
       have HSZ:Hid (Wc.heap.size<=gq/\Wc.heap.size<=wi.heap.size):=by
        have h1:=vK.size;have h2:=rU.size;exact ⟨by omega,by omega⟩
       have r6:Hid ((cI xss (R.take p) C).length<1000000):=(by unfold Hid;rw [km];simp;omega);have Ca:Hid ((fO xs C q).length<=cq/\cq<=9223372036854775807):=⟨by rw [hpl];exact e3,e4⟩;have HPA:=np (Z1Z HCK HGD);clear hQ hpl hRI e1 e2 e3 e4
       gi_wp2_with (gi_at_builtin;go_must (refine Z4_ rfl (by intro c h;cases h) (fun K hK=>?_);refine U6_ (K:=Z62) (e:=36) underlying32 f3_ wi _ _ rfl Wc.heap.size Wc.heap.size u10 tags (cI xss (R.take p) C) (gq,cq) (fO xs C q) #[.slice (some ⟨gq,0,none⟩) q cq] 36 rfl HO2 (by rfl) (by rw [iv,HPL.out]) Ca.1 Ca.2 HRI HSZ.1 HV2 pY r6 HSZ.2 ?_))
       intro v' w5 zO hb5 _;rw [HPA.out,<- HPT.out] at zO;have HO5:=np zO;have HX5':=np (Below.trans (aA.trans vK rU) hb5);clear zO hb5;refine hK _ _ ?_;clear hK K
       gi_wp2_with fail
       go_roundw
       case rel=>exact ⟨p+1,_,by omega,by go_num,HX5',HO5⟩
       case measure=>simp [intOf];omega
    ·obtain rfl:p=k:=(by omega);rw [show R.take p=R from by rw [<- HRK.out,List.take_length]] at CT
     gi_wp2_with fail
     have HXD:=np (aA.trans HXC vK);obtain ⟨d,hd⟩:=oO ((ah (df (cI xss R C)) p).det);have HD0:=np hd;have HRI2:Hid (∀ X,aA wo X->aV X u10 (cI xss R C)):=fun X hX=>(CT.ext hX).rows2 (fun r hr x hx=>by have:=Z3K (R:=R) (C:=C) (fun r hr=>(HRR r hr).2.2) r hr x hx;omega);have HROW:Hid (∀ X,aA wo X->Calls prog 204 #[u10,.func (.func 205) #[] #[]] X fun e X'=>∃ u tg,e=.returned u/\bp iq 267 X' X.heap.size X.heap.size u tg (df (cI xss R C))/\aA X X'):=fun X hX=>by
      have:=v6_ (cI xss R C) u10 205 #[] (fun _=>[]) X (HRI2 X hX) (by rw [km,HRK.out];omega) (fun r hr=>by rw [p3_ r hr,HCK.out];omega) (fun i r hr=>⟨by
       have h1:=p3_ r (nw hr);have h2:=(nt.1 hr).1;rw [km,HRK.out] at h2
       rw [h1,HCK.out];simp;omega,by simp⟩) (enters_of func205 (by kernel_rfl) rfl) (p0_ _ _) (HT.ext (HXD.trans hX))
      rw [i0_] at this;exact this
     have zf:Hid (∀ u tg X Y,bp iq 267 Y X.heap.size X.heap.size u tg (df (cI xss R C))->aA wo X->aA X Y->Calls prog 203 #[u,.int .i64 (p:Int)] Y fun e Y'=>∃ av nv cv,e=.returned (.tuple #[.slice av nv cv,.agg #[.string (aB d.num),.string (aE d.den)]])/\aA X Y'/\aH (fun b=>b∈tg.map (·.1)\/u.ownBlock=some b) Y Y'):=fun u tg X Y hO hX hY=>by
      have hc:=U5_ (df (cI xss R C)) p p u tg X Y hO hY (by rw [<- HCK.out];exact P5_ xss R C) (n9 _) (by omega) (by rw [L2_,km,HRK.out];omega) (HOK R (nw (by rw [<- HNM.out.1];exact HR)) C (nw (by rw [<- HNM.out.2];exact HC))) (HT.ext (HXD.trans hX)) (fun e=>by
       have:=L2_ (cI xss R C);rw [e,km,HRK.out] at this
       simpa using this.symm)
      refine hc.mono ?_;rintro e Y' ⟨v,rfl,hR⟩;obtain ⟨av,cv,rfl,-,-⟩:=hR.lead.form;exact ⟨av,_,cv,by rw [hd];rfl,hR.ext,hR.keep⟩
     have qT:Hid (∀ u,aA wo u->u.cell? ⟨w.heap.size+1,0,none⟩=some (.int .i64 (p:Int))):=fun u hu=>(vK.trans hu).cell yS.bk.cell;clear hd;refine Y0_ (fun u=>u.cell? ⟨w.heap.size+1,0,none⟩=some (.int .i64 (p:Int))/\Hid (aA wo u)) 9 (by kernel_rfl) (by kernel_rfl) (by rintro ⟨_,_,h⟩;exact absurd (show Exit.outgrown=Exit.normal from h.1) (by simp)) ⟨((vK.trans (aA.drew wo)).cell yS.bk.cell),aA.drew wo⟩ (fun oR=>?_);obtain ⟨wd,Ag⟩:=oO wo.drew;rw [<- Ag] at oR |-;clear Ag;refine rA [0,2] ?_
     iterate 2 ((first|(refine rL (v:=?_) (by rfl) (Or.inl ⟨by rfl,?_⟩) ?_;rotate_left;·((intro w' qW);(try dsimp only at qW);(try go_simp);(try with_reducible rfl)))|(refine rW (v:=?_) (by rfl) (Or.inl ⟨by rfl,?_⟩) ?_;rotate_left;·((intro w');(try go_simp);(try with_reducible rfl))));(try simp only [Act.put,ao,aq,aw]))
     refine rE ?_;refine h6_ 1 7 (by kernel_rfl) rfl rfl (fun K hK=>?pB) (fun K hK=>?pA)
     case' pB =>
      go_simp
      (go_at_call 204;refine (HROW _ oR.2).mono ?_)
      rintro e Y ⟨u1,JW,rfl,Bq,hE1⟩;have HO1:=np Bq;have HY1:=np hE1;have HXR:=np oR.2;have hs1:=hE1.size;clear hE1 Bq;go_wp2_with fail;refine hK _ _ ⟨qT _ (aA.trans HXR HY1),aA.trans HXR HY1⟩ (fun oR=>?_);clear hK K
      (try simp only [Act.put,ao,aq,aw])
      refine h6_ 3 7 (by kernel_rfl) rfl rfl (fun K hK=>?pB1) (fun K hK=>?pB2)
     case' pB1 =>
      go_simp
      (go_at_call 203;refine (zf _ _ wd _ (HO1) HXR (HY1)).mono ?_)
      rintro e Z ⟨av,nv,cv,rfl,hE2,yL⟩;have HZ:=np hE2;have HG:=np yL;have HXZ:=np (aA.trans HXR hE2);clear hE2 yL;go_wp2_with fail;refine hK _ _ ⟨qT _ HXZ,HXZ⟩ (fun oR=>?_);clear hK K
      (try simp only [Act.put,ao,aq,aw])
      refine rA [4,5,6] ?_
      iterate 3 ((refine rW (v:=?_) (by rfl) (Or.inl ⟨by rfl,?_⟩) ?_;rotate_left;·((intro w');(try go_simp);(try with_reducible rfl)));(try simp only [Act.put,ao,aq,aw]))
      refine rE ?_;refine dz 7 (by kernel_rfl) rfl (fun K hK=>?_);go_simp;obtain ⟨B,hB⟩:=oO Z.heap.size;obtain ⟨X1,ov,oT,hs3,ot⟩:=dF Z (.string ⟨#[]⟩) (.string ⟨#[]⟩) 246;rw [ov];rw [<- hB] at ot;rw [show (Z).heap.size=B from hB.symm];have HBX:Hid (aU B X1):=⟨_,_,ot⟩;have HBL:Hid (wo.heap.size<=B):=(by unfold Hid;rw [hB];exact oR.2.size);have Gr:Hid (B=Z.heap.size):=hB;have HY3:=np oT;have HX3:=np (aA.trans oR.2 oT);clear ov oT hs3 ot hB;refine hK _ _ ⟨qT _ HX3,HX3⟩ (fun oR=>?_);clear hK K
      (try simp only [Act.put,ao,aq,aw])
      refine tW (v:=?_) 8 rfl (Or.inl ⟨by rfl,?_⟩) ?_;rotate_left;·((intro w');(try go_simp);(try with_reducible rfl))
      (try simp only [Act.put,ao,aq,aw])
      have HBQ:Hid (aU B X1):=HBX.out;obtain ⟨x0,x1,s0,s1,f0,f1⟩:=HBQ.open;have HXF:=np oR.2;refine gX 9 (by kernel_rfl) (by kernel_rfl) (by kernel_rfl) rfl (fun K hK=>?_);go_simp;refine hK _ _ ?_;clear hK K s0 s1 f0 f1
      (try simp only [Act.put,ao,aq,aw])
      obtain ⟨F,hF⟩:=oO ((X1.setCell ⟨B,0,none⟩ (.string (aB d.num))).setCell ⟨B,1,none⟩ (.string (aE d.den)));have Gh:Hid (ck F B d):=(by rw [hF];exact HBQ.res);have xH:Hid (aA wo F):=(by rw [hF];exact dq HXF HBL);rw [<- hF];clear hF oR HXF HBQ
     case' pB2 =>
      go_simp;obtain ⟨B,hB⟩:=oO Y.heap.size;obtain ⟨X1,ov,oT,hs3,ot⟩:=dF Y (.string ⟨#[]⟩) (.string ⟨#[]⟩) 246;rw [ov];rw [<- hB] at ot;rw [show (Y).heap.size=B from hB.symm];have HBX:Hid (aU B X1):=⟨_,_,ot⟩;have HBL:Hid (wo.heap.size<=B):=by unfold Hid;rw [hB];exact oR.2.size
      have Gr:Hid (B=Y.heap.size):=hB;have HY3:=np oT;have HX3:=np (aA.trans oR.2 oT);clear ov oT hs3 ot hB;refine hK _ _ ⟨qT _ HX3,HX3⟩ (fun oR=>?_);clear hK K
      (try simp only [Act.put,ao,aq,aw])
      refine dz 3 (by kernel_rfl) rfl (fun K hK=>?_);go_simp
      (go_at_call 203;refine (zf _ _ wd _ (HO1.ext HY3) HXR (HY1.trans HY3)).mono ?_)
      rintro e Z ⟨av,nv,cv,rfl,hE2,yL⟩;have HZ:=np hE2;have HG:=np yL;have HXZ:=np (aA.trans HXR hE2);clear hE2 yL;go_wp2_with fail;refine hK _ _ ⟨qT _ HXZ,HXZ⟩ (fun oR=>?_);clear hK K
      (try simp only [Act.put,ao,aq,aw])
      refine rA [4,5,6,8] ?_
      iterate 4 ((refine rW (v:=?_) (by rfl) (Or.inl ⟨by rfl,?_⟩) ?_;rotate_left;·((intro w');(try go_simp);(try with_reducible rfl)));(try simp only [Act.put,ao,aq,aw]))
      refine rE ?_;have HBQ:Hid (aU B Z):=by
       obtain ⟨x,y,hxy⟩:=HBX.out;refine ⟨x,y,(HG.block B (c_ hxy) ?_).trans hxy⟩;have hbe:=Gr.out;rintro (hb | hb);·have:=(HO1.fresh hb).2;omega
       ·have:=(HO1.own.lt _ hb).2;omega
      obtain ⟨x0,x1,s0,s1,f0,f1⟩:=HBQ.open;have HXF:=np oR.2;refine gX 9 (by kernel_rfl) (by kernel_rfl) (by kernel_rfl) rfl (fun K hK=>?_);go_simp;refine hK _ _ ?_;clear hK K s0 s1 f0 f1
      (try simp only [Act.put,ao,aq,aw])
      obtain ⟨F,hF⟩:=oO ((Z.setCell ⟨B,0,none⟩ (.string (aB d.num))).setCell ⟨B,1,none⟩ (.string (aE d.den)));have Gh:Hid (ck F B d):=(by rw [hF];exact HBQ.res);have xH:Hid (aA wo F):=(by rw [hF];exact dq HXF HBL);rw [<- hF];clear hF oR HXF HBQ
     case' pA =>
      go_simp;obtain ⟨B,hB⟩:=oO wd.heap.size;obtain ⟨X1,ov,oT,hs3,ot⟩:=dF wd (.string ⟨#[]⟩) (.string ⟨#[]⟩) 246;rw [ov];rw [<- hB] at ot;rw [show (wd).heap.size=B from hB.symm];have HBX:Hid (aU B X1):=⟨_,_,ot⟩;have HBL:Hid (wo.heap.size<=B):=by unfold Hid;rw [hB];exact oR.2.size
      have Gr:Hid (B=wd.heap.size):=hB;have HY3:=np oT;have HX3:=np (aA.trans oR.2 oT);clear ov oT hs3 ot hB;refine hK _ _ ⟨qT _ HX3,HX3⟩ (fun oR=>?_);clear hK K
      (try simp only [Act.put,ao,aq,aw])
      refine dz 1 (by kernel_rfl) rfl (fun K hK=>?_);go_simp
      (go_at_call 204;refine (HROW _ oR.2).mono ?_)
      rintro e Y ⟨u1,JW,rfl,Bq,hE1⟩;have HO1:=np Bq;have HY1:=np hE1;have HXR:=np oR.2;have hs1:=hE1.size;clear hE1 Bq;go_wp2_with fail;refine hK _ _ ⟨qT _ (aA.trans HXR HY1),aA.trans HXR HY1⟩ (fun oR=>?_);clear hK K
      (try simp only [Act.put,ao,aq,aw])
      refine dz 3 (by kernel_rfl) rfl (fun K hK=>?_);go_simp
      (go_at_call 203;refine (zf _ _ X1 _ (HO1) HXR (HY1)).mono ?_)
      rintro e Z ⟨av,nv,cv,rfl,hE2,yL⟩;have HZ:=np hE2;have HG:=np yL;have HXZ:=np (aA.trans HXR hE2);clear hE2 yL;go_wp2_with fail;refine hK _ _ ⟨qT _ HXZ,HXZ⟩ (fun oR=>?_);clear hK K
      (try simp only [Act.put,ao,aq,aw])
      refine rA [4,5,6,8] ?_
      iterate 4 ((refine rW (v:=?_) (by rfl) (Or.inl ⟨by rfl,?_⟩) ?_;rotate_left;·((intro w');(try go_simp);(try with_reducible rfl)));(try simp only [Act.put,ao,aq,aw]))
      refine rE ?_;have HBQ:Hid (aU B Z):=aU.ext HBX HZ;obtain ⟨x0,x1,s0,s1,f0,f1⟩:=HBQ.open;have HXF:=np oR.2;refine gX 9 (by kernel_rfl) (by kernel_rfl) (by kernel_rfl) rfl (fun K hK=>?_);go_simp;refine hK _ _ ?_;clear hK K s0 s1 f0 f1
      (try simp only [Act.put,ao,aq,aw])
      obtain ⟨F,hF⟩:=oO ((Z.setCell ⟨B,0,none⟩ (.string (aB d.num))).setCell ⟨B,1,none⟩ (.string (aE d.den)));have Gh:Hid (ck F B d):=(by rw [hF];exact HBQ.res);have xH:Hid (aA wo F):=(by rw [hF];exact dq HXF HBL);rw [<- hF];clear hF oR HXF HBQ
     all_goals
      have HMF:=np (yS.ext (vK.trans xH));obtain ⟨vo,qy,hown⟩:=HMF.out.out;have t0:=qy.cell;have t1:=Gh.cells.1;have HBO:=np qy;have HOWN:=np hown;have AS:Hid (w.heap.size≠wz.heap.size/\w.heap.size+1≠wz.heap.size):=(by have:=rz.2;exact ⟨by omega,by omega⟩);have HLL:Hid ((eO xss p i++fL xss p R j).length<8000000):=Z1R xss p i j R (by rw [<- HNM.out.1];exact HSI.2.2) (by rw [<- HNM.out.2];exact HSJ.2.2);have HNX:Hid (eO xss p i++fL xss p R (j+1)=(eO xss p i++fL xss p R j)++[d.num]):=by
       unfold Hid;rw [k8_ (C:=C) (by rw [<- HNM.out.2];exact HC.out),List.append_assoc];unfold kd;rw [<- HD0.out]
      obtain ⟨L,hL⟩:=oO (eO xss p i++fL xss p R j);rw [<- hL] at HMF HOWN HLL HNX;have La:Hid (w.heap.size<=F.heap.size):=HMF.old.size;clear qy hown hL
      gi_wp2_with (gi_at_builtin;go_must (refine Z4_ rfl (by intro c h;cases h) (fun K hK=>?_);refine u7_ F _ _ rfl w.heap.size vo L d.num #[.string (aB d.num)] 92 rfl HOWN (by rfl) rfl HLL La ?_))
      intro v' w9 pR oV;obtain ⟨qi,hold,s0,s1⟩:=HMF.push HBO HOWN d.num pR oV AS.1 AS.2;obtain ⟨gv,cv',qg⟩:=ownsRow_succ pR;subst qg;rw [<- HNX.out] at qi;have HPU:=np qi;have HOL:=np (((cU.ext (n0:=w.heap.size) (Bo:=wz.heap.size) (vK.trans xH))).trans hold);have HBW:=np yS.box;clear qi hold pR oV t0 t1;refine hK _ _ ?_;clear hK K
      gi_wp2_with fail
      exact ⟨HOL.keepF HBW.2,HOL.keepT HBW.1,HPU,HOW.trans HOL⟩
end Go.Proofs.YtoonaddcfakamaaGreatDoor
namespace Go.Proofs.YtoonaddcfakamaaGreatDoor
open Go.RowKit Go.Proofs.Tryz
def mQ (w:World) (v:Value) (n k:Nat) (X:oQ):Prop:=∃ r,v=.agg #[.int .i64 n,.int .i64 k,r]/\aR 1 numC w r X
theorem numC.mono':gT numC:=fun _ _ _ _ _ h=>h
theorem mQ.ext {w w':World} {v:Value} {n k:Nat} {X:oQ} (h:mQ w v n k X) (he:aA w w'):mQ w' v n k X:=by
 obtain ⟨r,hv,h1⟩:=h;exact ⟨r,hv,aR.ext numC.mono' h1 he⟩
theorem kf {w:World} {B:Nat} {x y z:Value} (h:w.heap[B]?=some (.cells #[x,y,z] 50 (0,0))) (a b c:Value):(((w.setCell ⟨B,0,none⟩ a).setCell ⟨B,1,none⟩ b).setCell ⟨B,2,none⟩ c).heap[B]?=some (.cells #[a,b,c] 50 (0,0)):=by
 have:=d_ (d_ (d_ h 0 a) 1 b) 2 c;simpa using this
theorem T2_ (w:World) (B:Nat) (a b c:Value):w.grownBy (((w.setCell ⟨B,0,none⟩ a).setCell ⟨B,1,none⟩ b).setCell ⟨B,2,none⟩ c) (some B) :=
 fm (fm (eL w B 0 a) (eL _ B 1 b)) (eL _ B 2 c)
theorem ke {w W:World} {B:Nat} (hE:aA w W) (hB:w.heap.size<=B) (a b c:Value):aA w (((W.setCell ⟨B,0,none⟩ a).setCell ⟨B,1,none⟩ b).setCell ⟨B,2,none⟩ c) :=
 ((hE.setCell (p:=⟨B,0,none⟩) hB a).setCell (p:=⟨B,1,none⟩) hB b).setCell (p:=⟨B,2,none⟩) hB c
def Z6m (Q:World->Value->Prop) (v:Value) (k:Nat) (W:World):Prop:=Calls prog 101 #[v,.int .i64 (k:Int)] W fun e w'=>∃ r,e=.returned (.tuple #[r,.int .i64 0])/\Q w' r/\aA W w'
theorem B1_ {W W':World} {B base:Nat} {e:TypeId} {size:Nat} {v:Value} {n:Nat} {xs:List Value} (h:W.ownsRow base e size v n xs) (hB:B<base) (hg:W.grownBy W' (some B)):W'.ownsRow base e size v n xs:=by
 obtain ⟨h1,h2⟩:=h;refine ⟨h1,?_⟩;rcases h2 with h2 | ⟨g,cap,cur,hv,hb,hh,r⟩
 ·exact Or.inl h2
 ·exact Or.inr ⟨g,cap,cur,hv,hb,dn hh hg (fun e=>by cases e;omega),r⟩
theorem w8_ {w:World} {base base':Nat} {e:TypeId} {size:Nat} {v:Value} {n:Nat} {xs:List Value} (h:w.ownsRow base' e size v n xs) (hb:base<=base'):w.ownsRow base e size v n xs:=by
 obtain ⟨h1,h2⟩:=h;refine ⟨h1,?_⟩;rcases h2 with h2 | ⟨g,cap,cur,hv,hg,r⟩
 ·exact Or.inl h2
 ·exact Or.inr ⟨g,cap,cur,hv,n8 hb hg,r⟩
theorem Z5l (Q:World->Value->Prop) (xss:oP) (n:Nat) (X:oQ) (v:Value) (w:World) (h:aV w v xss) (hE:cM xss=0) (hn:n<=12) (hk:xss.length<=n) (hc:∀ r∈xss,r.length=n) (hS:∀ W r,Q W r->∃ a c,r=.slice a X.length c) (hQ:∀ W W' r,Q W r->W.heap[w.heap.size]?=some (.cells #[.int .i64 0,.int .i64 0,.slice none 0 0] 50 (0,0))->W.grownBy W' (some w.heap.size)->Q W' r) (hM:∀ W,aA w W->w.heap.size<W.heap.size->Z6m Q v xss.length W) :
  Calls prog 29 #[v,.int .i64 n] w fun e w'=>∃ r,e=.returned (.tuple #[.agg #[.int .i64 n,.int .i64 xss.length,r],.int .i64 0])/\aA w w'/\Q w' r:=by
 obtain ⟨w1,qc⟩:=oO (w.alloc (.cells #[.int .i64 0,.int .i64 0,.slice none 0 0] 50));have hb:w1.heap[w.heap.size]?=some (.cells #[.int .i64 0,.int .i64 0,.slice none 0 0] 50 (0,0)):=by rw [qc];exact dE w _ _
 have hE1:aA w w1:=by rw [qc];exact aA.alloc _ _
 have HE1:=np hE1;have HB:=np hb;have HCH:Hid (∀ W,aA w W->oL 100 #[v] W (.int .i64 0)):=fun W hW=>by
  have:=mF xss v W (h.ext hW);rw [hE] at this;exact this
 have HM:=np hM;have HSL:=np hS;have HQ:=np hQ;have HR:=np h;obtain ⟨a,cap,rfl,h1,h2,-,qO⟩:=aP.open h;have HCC:=np qO;have HCN:=np hc;obtain ⟨k,hk2⟩:=oN xss.length;have HKL:=np hk2;rw [hk2] at HM HCH h1 hk |-;unfold maxLen at h2;clear hb hE1 h hE hM qO hc hk2 hS hQ;have c1:¬ ((n:Int)<0):=by omega
 have c2:¬ (12<(n:Int)):=by omega
 have c3:¬ ((n:Int)<(k:Int)):=by omega
 by_cases hz:k=0
 ·subst hz
  go_enter func29,ntmps29
  go_wp2_with fail;generalize Ah:w.alloc _=w9;obtain rfl:w9=w1:=by rw [<- Ah,qc]
  clear qc Ah;refine (HCH w9 HE1).mono ?_;rintro e w2 ⟨rfl,h2⟩;have HE2:Hid (aA w w2):=HE1.trans h2;have HB2:=np (aF HB h2);clear h2 HCH HB;go_wp2_with fail;refine (HM w2 HE2 (c_ HB2)).mono ?_;rintro e w3 ⟨r,rfl,hr,h3⟩;have HE3:Hid (aA w w3):=HE2.trans h3;have HB3:=np (aF HB2 h3);obtain ⟨ra,rc,rfl⟩:=HSL _ _ hr;have HX:=np hr;clear h3 hr HB2 HM;obtain ⟨m,hm⟩:=oN X.length;rw [hm] at HX;have f0:=cO HB3;have k0:=ag HB3;go_wp2_with fail;have hb7:=kf HB3 (.int .i64 (n:Int)) (.int .i64 0) (.slice ra m rc);refine bodyPost_ret (nW (by rfl) _ _ w.heap.size 50 #[.int .i64 n,.int .i64 0,.slice ra m rc] (0,0) _ (.int .i64 0) (by rfl) (by rfl) hb7 underlying50 (by rfl) (by kernel_rfl)) (by rfl) ⟨_,rfl,ke HE3 (n9 _) _ _ _,?_⟩;exact HQ _ _ _ HX HB3 (T2_ _ _ _ _ _)
 ·have hx:xss≠[]:=by intro e;rw [e] at HKL;exact hz HKL.symm
  obtain ⟨b,off,rfl,hb,hcell⟩:=HCC hx;obtain ⟨y,hy⟩:∃ y,xss[0]?=some y:=⟨_,ns (by have:=HKL.out;omega)⟩;obtain ⟨u,hu,sK⟩:=hcell 0 y hy;have hyl:=HCN y (nw hy);obtain ⟨ua,uc,rfl,-⟩:=aR.open hu;rw [hyl,Nat.add_zero] at sK;have HCU:=np sK;have c4:0<(k:Int):=by omega
  clear hcell hu sK hb hyl hy hx
  go_enter func29,ntmps29
  go_wp2_with fail;generalize Ah:w.alloc _=w9;obtain rfl:w9=w1:=by rw [<- Ah,qc]
  clear qc Ah;refine (HCH w9 HE1).mono ?_;rintro e w2 ⟨rfl,h2⟩;have HE2:Hid (aA w w2):=HE1.trans h2;have HB2:=np (aF HB h2);have hcu2:=HE2.cell HCU;clear h2 HCH HB;go_wp2_with fail;refine (HM w2 HE2 (c_ HB2)).mono ?_;rintro e w3 ⟨r,rfl,hr,h3⟩;have HE3:Hid (aA w w3):=HE2.trans h3;have HB3:=np (aF HB2 h3);obtain ⟨ra,rc,rfl⟩:=HSL _ _ hr;have HX:=np hr;clear h3 hr HB2 HM hcu2;obtain ⟨m,hm⟩:=oN X.length;rw [hm] at HX;have f0:=cO HB3;have k0:=ag HB3;go_wp2_with fail;have hb7:=kf HB3 (.int .i64 (n:Int)) (.int .i64 (k:Int)) (.slice ra m rc);refine bodyPost_ret (nW (by rfl) _ _ w.heap.size 50 #[.int .i64 n,.int .i64 k,.slice ra m rc] (0,0) _ (.int .i64 0) (by rfl) (by rfl) hb7 underlying50 (by rfl) (by kernel_rfl)) (by rfl) ⟨_,rfl,ke HE3 (n9 _) _ _ _,?_⟩;exact HQ _ _ _ HX HB3 (T2_ _ _ _ _ _)
theorem Z5m (xss:oP) (n:Nat) (X:oQ) (v:Value) (w:World) (h:aV w v xss) (hE:cM xss=0) (hn:n<=12) (hk:xss.length<=n) (hc:∀ r∈xss,r.length=n) (hM:∀ W,aA w W->Z6m (fun W' r=>W'.ownsRow W.heap.size 92 1 r X.length (fT X)) v xss.length W) :
  Calls prog 29 #[v,.int .i64 n] w fun e w'=>∃ a c,e=.returned (.tuple #[.agg #[.int .i64 n,.int .i64 xss.length,.slice a X.length c],.int .i64 0])/\w'.ownsRow (w.heap.size+1) 92 1 (.slice a X.length c) X.length (fT X)/\aA w w':=by
 refine (Z5l (fun W r=>W.ownsRow (w.heap.size+1) 92 1 r X.length (fT X)) xss n X v w h hE hn hk hc (fun W r hr=>?_) (fun W W' r hr _ hg=>B1_ hr (Nat.lt_succ_self _) hg) fun W hW hl=>(hM W hW).mono fun e w' ⟨r,h1,h2,h3⟩=>⟨r,h1,w8_ h2 hl,h3⟩).mono fun e w' ⟨r,h1,h2,h3⟩=>?_
 ·obtain ⟨a,c,rfl,-⟩:=aR.open (numC.of_owns hr);exact ⟨a,c,rfl⟩
 ·obtain ⟨a,c,rfl,-⟩:=aR.open (numC.of_owns h3);exact ⟨a,c,h1,h3,h2⟩
theorem mb (w:World) (x y z:Value):∃ W,(w.alloc (.cells #[x,y,z] 50))=W/\aA w W/\W.heap.size=w.heap.size+1/\W.heap[w.heap.size]?=some (.cells #[x,y,z] 50 (0,0)) :=
 ⟨_,rfl,aA.alloc _ _,by simp,dE _ _ _⟩
theorem e8_ {m:List (List Rat)} {k:Nat} (r:List Rat) (hk:k<m.length) (i:Nat):cC (m.set k r) i=if i=k then r else cC m i:=by
 unfold cC;rw [nu,oK];by_cases h:i=k;·subst h;rw [if_pos rfl,if_pos rfl,if_pos hk];rfl
 ·rw [if_neg (by omega),if_neg h,nu]
theorem s9_ (r:List Rat) (q:Rat) (x:Nat):(dK r q).getD x 0=r.getD x 0 / q:=by
 unfold dK;rw [nu,nu,nx];cases r[x]? with
 | none=>show (0:Rat)=0 / q;rw [Rat.div_def,Rat.zero_mul]
 | some y=>rfl
theorem Z2v {r s:List Rat} (f:Rat) (h:s.length=r.length) (x:Nat):(fh r s f).getD x 0=r.getD x 0-f*s.getD x 0:=by
 unfold fh;rw [nu,nu,nu,List.getElem?_zipWith];by_cases hx:x<r.length;·rw [ns hx,ns (by omega:x<s.length)];rfl
 ·rw [n_ (by omega:r.length<=x),n_ (by omega:s.length<=x)];show (0:Rat)=0-f*0;grind
theorem Z36 {p:List Rat} {c k i:Nat} {r:List Rat} (h:p.length=r.length) (x:Nat):(iA p c k i r).getD x 0=if i=k then r.getD x 0 else r.getD x 0-r.getD c 0*p.getD x 0:=by
 unfold iA;by_cases hi:i=k;·rw [if_pos (.inl hi),if_pos hi]
 ·rw [if_neg hi];by_cases h0:r.getD c 0=0;·rw [if_pos (.inr h0),h0];grind
  ·rw [if_neg (by simp [hi];exact h0),Z2v _ h]
theorem r0_ {C:Nat} {m:List (List Rat)} {p:List Rat} {c k:Nat} (hR:bw C m) (hp:p.length=C) (x:Nat) :
  ∀ j,j<=m.length->∀ i,aJ (dS m p c k j) i x=if i<j/\i≠k then aJ m i x-aJ m i c*p.getD x 0 else aJ m i x
 | 0,_,i=>by rw [if_neg (by omega)];rfl
 | j+1,hj,i=>by
  have ih:=r0_ (c:=c) (k:=k) hR hp x j (by omega) i;show aJ ((dS m p c k j).set j (iA p c k j (cC (dS m p c k j) j))) i x=_;have hrow:cC (dS m p c k j) j=cC m j:=by
   unfold cC;rw [nu,V7_ m p c k j j (n9 _),<- nu]
  have hl:p.length=(cC m j).length:=by rw [hp];exact (hR.get (gZ (by omega))).symm
  unfold aJ at ih |-;rw [e8_ _ (by rw [jm];omega),hrow];by_cases e:i=j
  ·subst e;rw [if_pos rfl,Z36 hl];by_cases h:i=k;·rw [if_pos h,if_neg (by simp [h])]
   ·rw [if_neg h,if_pos ⟨by omega,h⟩]
  ·rw [if_neg e,ih];by_cases h:i<j/\i≠k;·rw [if_pos h,if_pos ⟨by omega,h.2⟩]
   ·rw [if_neg h,if_neg (by rintro ⟨h1,h2⟩;exact h ⟨by omega,h2⟩)]
theorem u4_ (r i:Nat):bD r r i=i:=by unfold bD;repeat' split <;> try omega
theorem Z3Z {C c:Nat} {s:eu} (hR:bw C s.m) (hk:s.lead.length<=s.m.length) :
  (cD c s=⟨s.m,s.lead,0⟩/\∀ i,s.lead.length<=i->aJ s.m i c=0) \/
  ∃ a,s.lead.length<=a/\a<s.m.length/\aJ s.m a c≠0/\(∀ j,s.lead.length<=j->j<a->aJ s.m j c=0) /\
   (cD c s).lead=s.lead++[c]/\(cD c s).m.length=s.m.length/\(cD c s).det=(if a=s.lead.length then s.det else -s.det)*aJ s.m a c /\
   ∀ i j,aJ (cD c s).m i j=if i=s.lead.length then aJ s.m a j / aJ s.m a c else aJ s.m (bD s.lead.length a i) j-aJ s.m (bD s.lead.length a i) c*(aJ s.m a j / aJ s.m a c):=by
 obtain ⟨h1,h2,h3,h4⟩:=D6_ s.m c (s.m.length-s.lead.length) s.lead.length;unfold cD;simp only;generalize ha:fC s.m c (s.m.length-s.lead.length) s.lead.length=a at *
 by_cases e:a=s.m.length
 ·refine .inl ⟨by rw [if_pos e],fun i hi=>?_⟩;by_cases hl:i<s.m.length;·exact h3 i hi (by omega)
  ·exact x1_ (by omega)
 ·rw [if_neg e];have pT:a<s.m.length:=by omega
  have hne:=h4 (by omega);refine .inr ⟨a,h1,pT,hne,h3,rfl,?_⟩;have ph:∀ i j,aJ (if a=s.lead.length then s.m else bu s.m s.lead.length a) i j=aJ s.m (bD s.lead.length a i) j:=by
   intro i j;by_cases hr:a=s.lead.length;·rw [if_pos hr,hr,u4_]
   ·rw [if_neg hr,l4_ (by omega) pT];congr 1;unfold bD;repeat' split <;> try omega
  have qb:bw C (if a=s.lead.length then s.m else bu s.m s.lead.length a):=by
   split
   ·exact hR
   ·exact hR.swp _ _
  have tr:(if a=s.lead.length then s.m else bu s.m s.lead.length a).length=s.m.length:=by
   split
   ·rfl
   ·exact mE _ _ _
  generalize (if a=s.lead.length then s.m else bu s.m s.lead.length a)=m1 at *
  have ht:bD s.lead.length a s.lead.length=a:=by unfold bD;rw [if_pos rfl]
  have hf:aJ m1 s.lead.length c=aJ s.m a c:=by rw [ph,ht]
  rw [hf];have hrl:=qb.get (gZ (m:=m1) (i:=s.lead.length) (by omega));have II:(dK (cC m1 s.lead.length) (aJ s.m a c)).length=C:=by rw [V5_,hrl]
  have hR2:=qb.set s.lead.length II;refine ⟨by rw [jm,List.length_set,tr],rfl,fun i j=>?_⟩;rw [r0_ hR2 II j _ (n9 _) i];have sn:∀ i j,aJ (m1.set s.lead.length (dK (cC m1 s.lead.length) (aJ s.m a c))) i j=if i=s.lead.length then aJ s.m a j / aJ s.m a c else aJ s.m (bD s.lead.length a i) j:=by
   intro i j;unfold aJ at ph |-;rw [e8_ _ (by omega)];by_cases hi:i=s.lead.length;·rw [if_pos hi,if_pos hi,s9_,ph,ht]
   ·rw [if_neg hi,if_neg hi,ph]
  have Cr:(dK (cC m1 s.lead.length) (aJ s.m a c)).getD j 0=aJ s.m a j / aJ s.m a c:=by
   rw [s9_];show aJ m1 s.lead.length j / _=_;rw [ph,ht]
  rw [Cr,sn,sn,List.length_set,tr];by_cases hi:i=s.lead.length;·rw [if_pos hi,if_neg (by rintro ⟨-,h⟩;exact h hi),if_pos hi]
  ·rw [if_neg hi,if_neg hi,if_neg hi];by_cases hil:i<s.m.length;·rw [if_pos ⟨hil,hi⟩]
   ·rw [if_neg (by rintro ⟨h,-⟩;exact hil h)];have:bD s.lead.length a i=i:=(by unfold bD;rw [if_neg hi,if_neg (by omega)]);rw [this,x1_ (by omega:s.m.length<=i),x1_ (by omega:s.m.length<=i)];grind
structure gU (R:Nat) (f:(Nat->Nat->Rat)->Rat):Prop where
 congr:∀ M N:Nat->Nat->Rat,(∀ a b,a<R->M a b=N a b)->f M=f N
 swap:∀ (M:Nat->Nat->Rat) i j,i<j->j<R->f (fun a b=>M (bD i j a) b)=- f M
 scale:∀ (M:Nat->Nat->Rat) r c,r<R->f (b_ M r fun b=>c*M r b)=c*f M
 add:∀ (M:Nat->Nat->Rat) r s c,r<R->s<R->r≠s->f (b_ M r fun b=>M r b+c*M s b)=f M
theorem gU.zero {R:Nat} {f:(Nat->Nat->Rat)->Rat} (h:gU R f) {M:Nat->Nat->Rat} {r:Nat} (hr:r<R) (h0:∀ b,M r b=0):f M=0:=by
 have h1:=h.scale M r 0 hr;have:b_ M r (fun b=>0*M r b)=M:=by
  funext a b;unfold b_;split;·rename_i e;rw [e,h0 b];grind
  ·rfl
 rw [this] at h1;rw [h1];grind
theorem gU.elim {R:Nat} {f:(Nat->Nat->Rat)->Rat} (h:gU R f) (M:Nat->Nat->Rat) {r:Nat} (hr:r<R) (g:Nat->Rat) :
  ∀ t,t<=R->f (fun a b=>if a<t/\a≠r then M a b+g a*M r b else M a b)=f M
 | 0,_=>by
  congr 1
 | t+1,ht=>by
  by_cases e:t=r
  ·rw [<- gU.elim h M hr g t (by omega)];congr 1;funext a b;have:(a<t+1/\a≠r)=(a<t/\a≠r):=propext ⟨fun h=>⟨by omega,h.2⟩,fun h=>⟨by omega,h.2⟩⟩;simp only [this]
  ·rw [<- gU.elim h M hr g t (by omega)];rw [<- h.add (fun a b=>if a<t/\a≠r then M a b+g a*M r b else M a b) t r (g t) (by omega) hr e];congr 1;funext a b;by_cases ha:a=t
   ·subst ha;simp [b_,e]
   ·have:(a<t+1/\a≠r)=(a<t/\a≠r):=propext ⟨fun h=>⟨by omega,h.2⟩,fun h=>⟨by omega,h.2⟩⟩;simp only [b_,ha,if_false,this]
theorem gU.pivot {R:Nat} {f:(Nat->Nat->Rat)->Rat} (h:gU R f) {M N:Nat->Nat->Rat} {r a c:Nat} (hr:r<=a) (ha:a<R) (hne:M a c≠0)
  (hN:∀ i j,N i j=if i=r then M a j / M a c else M (bD r a i) j-M (bD r a i) c*(M a j / M a c)):f M=(if a=r then 1 else -1)*M a c*f N:=by
 obtain ⟨q,hq⟩:=oO (M a c);have ht:bD r a r=a:=by unfold bD;rw [if_pos rfl]
 obtain ⟨M1,tq⟩:∃ M1:Nat->Nat->Rat,M1=fun i j=>M (bD r a i) j:=⟨_,rfl⟩;obtain ⟨M2,qR⟩:∃ M2:Nat->Nat->Rat,M2=b_ M1 r fun b=>q⁻¹*M1 r b:=⟨_,rfl⟩;have h1:f M=(if a=r then 1 else -1)*f M1:=by
  by_cases e:a=r
  ·subst e;rw [if_pos rfl,tq];have:(fun i j=>M (bD a a i) j)=M:=(by funext i j;rw [u4_]);rw [this];grind
  ·rw [if_neg e,tq,h.swap M r a (by omega) ha];grind
 have h2:f M2=q⁻¹*f M1:=by rw [qR];exact h.scale _ _ _ (by omega)
 have h3:=h.elim M2 (r:=r) (by omega) (fun i=>- M2 i c) R (n9 _);have h4:f N=f M2:=by
  rw [<- h3];refine h.congr _ _ fun i j hi=>?_;have e2:∀ j,M2 r j=M a j / q:=fun j=>by rw [qR];unfold b_;rw [if_pos rfl,tq];show q⁻¹*M (bD r a r) j=_;rw [ht,Rat.div_def];grind
  rw [hN];by_cases e:i=r
  ·subst e;rw [if_pos rfl,if_neg (by rintro ⟨-,h⟩;exact h rfl),e2,hq]
  ·have e3:∀ j,M2 i j=M (bD r a i) j:=fun j=>by rw [qR];unfold b_;rw [if_neg e,tq]
   rw [if_neg e,if_pos ⟨hi,e⟩,e3,e3,e2,hq];grind
 rw [h4,h2,h1,<- hq];have:q*q⁻¹=1:=Rat.mul_inv_cancel q (by rw [hq];exact hne);grind
def bR (l:List Nat) (j:Nat):Nat:=l.getD j 0
theorem Z3r {l:List Nat} {c j:Nat} (h:j<l.length):bR (l++[c]) j=bR l j:=by
 unfold bR;rw [nu,oB h,<- nu]
theorem Z3q (l:List Nat) (c:Nat):bR (l++[c]) l.length=c:=by
 unfold bR;rw [nu];simp
structure ja (R:Nat) (A:Nat->Nat->Rat) (c:Nat) (s:eu) (ρ:Nat->Nat) (sg x:Rat):Prop where
 len:s.m.length=R
 rle:s.lead.length<=R
 rlc:s.lead.length<=c
 klt:∀ l,l<s.lead.length->bR s.lead l<c
 full:s.lead.length=c->∀ l,l<c->bR s.lead l=l
 unit:∀ i l,l<s.lead.length->aJ s.m i (bR s.lead l)=if i=l then 1 else 0
 zero:∀ i j,s.lead.length<=i->j<c->aJ s.m i j=0
 rho:∀ i,i<R->ρ i<R
 sur:∀ i,i<R->∃ i',i'<R/\ρ i'=i
 span:∀ i j,i<R->A (ρ i) j=(if i<s.lead.length then 0 else aJ s.m i j)+aI s.lead.length fun l=>aJ s.m l j*A (ρ i) (bR s.lead l)
 dne:aL s.lead.length (fun a b=>A (ρ a) (bR s.lead b))≠0
 form:∀ f,gU R f->f A=x*f (aJ s.m)
 det:s.det=if s.lead.length=c then x else 0
 sgn:sg=1\/sg=-1
 sgf:∀ f,gU R f->f (fun a b=>A (ρ a) b)=sg*f A
 xD:x=sg*aL s.lead.length fun a b=>A (ρ a) (bR s.lead b)
theorem ja.big {R:Nat} {A:Nat->Nat->Rat} {c:Nat} {s:eu} {ρ:Nat->Nat} {sg x:Rat} (h:ja R A c s ρ sg x) {i j:Nat} (hi:s.lead.length<=i) (KQ:i<R) :
  aL (s.lead.length+1) (fun a b=>A (if a<s.lead.length then ρ a else ρ i) (if b<s.lead.length then bR s.lead b else j))=aJ s.m i j*aL s.lead.length fun a b=>A (ρ a) (bR s.lead b):=by
 generalize hr:s.lead.length=r at *
 have e:aL (r+1) (fun a b=>A (if a<r then ρ a else ρ i) (if b<r then bR s.lead b else j))=aL (r+1) (fun a b=>if b=r then (if a<r then 0 else aJ s.m i j)+aI r (fun l=>aJ s.m l j*A (if a<r then ρ a else ρ i) (bR s.lead l)) else A (if a<r then ρ a else ρ i) (bR s.lead b)):=by
  refine cQ fun a b ha hb=>?_;by_cases e:b=r
  ·subst e;rw [if_neg (Nat.lt_irrefl b),if_pos rfl];by_cases e2:a<b
   ·rw [if_pos e2,if_pos e2];have:=h.span a j (by have:=h.rle;omega);rw [hr,if_pos e2] at this;exact this
   ·rw [if_neg e2,if_neg e2];have:=h.span i j KQ;rw [hr,if_neg (by omega)] at this;exact this
  ·rw [if_pos (show b<r by omega),if_neg e]
 rw [e,mq _ (by omega)];have h0:aI r (fun l=>aJ s.m l j*aL (r+1) (fun a b=>if b=r then A (if a<r then ρ a else ρ i) (bR s.lead l) else A (if a<r then ρ a else ρ i) (bR s.lead b)))=0:=by
  rw [<- S8_ r];refine cd fun l hl=>?_;rw [lR (i:=l) (j:=r) (by omega) (by omega) (by omega) (fun b hb=>by rw [if_neg (by omega),if_pos rfl])];grind
 rw [h0,K8_ (fun a ha=>by rw [if_pos rfl,if_pos ha])];rw [if_pos rfl,if_neg (by omega)];have:aL r (fun a b=>if b=r then (if a<r then 0 else aJ s.m i j) else A (if a<r then ρ a else ρ i) (bR s.lead b))=aL r fun a b=>A (ρ a) (bR s.lead b):=cQ fun a b ha hb=>by rw [if_neg (by omega),if_pos ha]
 rw [this];grind
theorem ja.small {R:Nat} {A:Nat->Nat->Rat} {c:Nat} {s:eu} {ρ:Nat->Nat} {sg x:Rat} (h:ja R A c s ρ sg x) {i j:Nat} (hi:i<s.lead.length) :
  aL s.lead.length (fun a b=>A (ρ a) (if b=i then j else bR s.lead b))=aJ s.m i j*aL s.lead.length fun a b=>A (ρ a) (bR s.lead b):=by
 generalize hr:s.lead.length=r at *
 have e:aL r (fun a b=>A (ρ a) (if b=i then j else bR s.lead b))=aL r (fun a b=>if b=i then (0:Rat)+aI r (fun l=>aJ s.m l j*A (ρ a) (bR s.lead l)) else A (ρ a) (bR s.lead b)):=by
  refine cQ fun a b ha hb=>?_;by_cases e:b=i
  ·rw [if_pos e,if_pos e];have:=h.span a j (by have:=h.rle;omega);rw [hr,if_pos ha] at this;exact this
  ·rw [if_neg e,if_neg e]
 rw [e,mq _ hi (fun _=>0)];have h0:aL r (fun a b=>if b=i then (0:Rat) else A (ρ a) (bR s.lead b))=0:=by
  rw [<- eU];exact h_ hi (fun b hb=>by rw [if_pos rfl])
 rw [h0,nh hi (fun l hl hne=>by
  rw [lR (i:=l) (j:=i) hl hi hne (fun b hb=>by rw [if_neg hne,if_pos rfl])];grind)]
 have:aL r (fun a b=>if b=i then A (ρ a) (bR s.lead i) else A (ρ a) (bR s.lead b))=aL r fun a b=>A (ρ a) (bR s.lead b):=cQ fun a b ha hb=>by
  split
  ·rename_i e;rw [e]
  ·rfl
 rw [this];grind
theorem Z29 {C:Nat} (m:List (List Rat)) (hR:bw C m):ja m.length (aJ m) 0 (ah m 0) (fun i=>i) 1 1 where
 len:=rfl
 rle:=Nat.zero_le _
 rlc:=n9 _
 klt:=fun l hl=>by exact absurd hl (by show ¬ l<0;omega)
 full:=fun _ l hl=>by omega
 unit:=fun i l hl=>by exact absurd hl (by show ¬ l<0;omega)
 zero:=fun i j _ hj=>by omega
 rho:=fun i hi=>hi
 sur:=fun i hi=>⟨i,hi,rfl⟩
 span:=fun i j hi=>by
  show aJ m i j=(if i<0 then 0 else aJ m i j)+(0:Rat);rw [if_neg (by omega)];grind
 dne:=by show (1:Rat)≠0;decide
 form:=fun f hf=>by show f (aJ m)=1*f (aJ m);grind
 det:=rfl
 sgn:=.inl rfl
 sgf:=fun f hf=>by grind
 xD:=by show (1:Rat)=1*1;grind
theorem Z28 {C c:Nat} {R:Nat} {A:Nat->Nat->Rat} {s:eu} {ρ:Nat->Nat} {sg x:Rat} (h:ja R A c s ρ sg x) (hR:bw C s.m) :
  ∃ ρ' sg' x',ja R A (c+1) (cD c s) ρ' sg' x':=by
 rcases Z3Z (c:=c) hR (by rw [h.len];exact h.rle) with ⟨e,hz⟩ | ⟨a,xC,ha2,hne,Ex,hlead,hlen,E3,sn⟩
 ·rw [e];refine ⟨ρ,sg,x,h.len,h.rle,Nat.le_succ_of_le h.rlc,fun l hl=>Nat.lt_succ_of_lt (h.klt l hl),fun hc=>?_,h.unit,fun i j hi hj=>?_,h.rho,h.sur,h.span,h.dne,h.form,?_,h.sgn,h.sgf,h.xD⟩
  ·have:=h.rlc;have rM:s.lead.length=c+1:=hc;omega
  ·by_cases e:j=c;·rw [e];exact hz i hi
   ·exact h.zero i j hi (by omega)
  ·show (0:Rat)=if s.lead.length=c+1 then x else 0
   rw [if_neg (by have:=h.rlc;omega)]
 ·rw [h.len] at ha2;have hL:(cD c s).lead.length=s.lead.length+1:=by rw [hlead];simp
  have sF:∀ l,l<s.lead.length->bR (cD c s).lead l=bR s.lead l:=fun l hl=>by rw [hlead];exact Z3r hl
  have rI:bR (cD c s).lead s.lead.length=c:=by rw [hlead];exact Z3q _ _
  have hbig:=h.big (i:=a) (j:=c) xC ha2;generalize hr:s.lead.length=r at *
  have Dw:bD r a r=a:=by unfold bD;rw [if_pos rfl]
  have wm:∀ i,i<r->bD r a i=i:=fun i hi=>by unfold bD;rw [if_neg (by omega),if_neg (by omega)]
  have G9:∀ i,r<=i->r<=bD r a i:=fun i hi=>by unfold bD;repeat' split <;> try omega
  have Cm:∀ i,i<R->bD r a i<R:=fun i hi=>by unfold bD;repeat' split <;> try omega
  have yh:∀ i,bD r a (bD r a i)=i:=fun i=>by unfold bD;repeat' split <;> try omega
  have hdiv:aJ s.m a c / aJ s.m a c=1:=by rw [Rat.div_def];exact Rat.mul_inv_cancel _ hne
  have vI:∀ l,l<r->aJ s.m a (bR s.lead l)=0:=fun l hl=>by rw [h.unit a l (by omega),if_neg (by omega)]
  have xu:∀ i l,l<r+1->aJ (cD c s).m i (bR (cD c s).lead l)=if i=l then 1 else 0:=by
   intro i l hl;by_cases e:l=r
   ·subst e;rw [rI,sn];by_cases e2:i=l;·rw [if_pos e2,if_pos e2,hdiv]
    ·rw [if_neg e2,if_neg e2,hdiv];grind
   ·rw [sF l (by omega),sn,vI l (by omega)];by_cases e2:i=r;·rw [if_pos e2,if_neg (by omega),Rat.div_def,Rat.zero_mul]
    ·rw [if_neg e2,h.unit _ l (by omega),Rat.div_def,Rat.zero_mul];by_cases e3:i=l;·rw [if_pos e3,if_pos (by rw [e3];exact wm l (by omega))];grind
     ·rw [if_neg e3,if_neg (by intro e4;have h5:=yh i;rw [e4,wm l (by omega)] at h5;exact e3 h5.symm)];grind
  have hD:aL (r+1) (fun i b=>A (ρ (bD r a i)) (bR (cD c s).lead b))=aJ s.m a c*aL r fun a b=>A (ρ a) (bR s.lead b):=by
   rw [<- hbig];refine cQ fun i b hi hb=>?_;have e1:ρ (bD r a i)=if i<r then ρ i else ρ a:=by
    by_cases e:i<r;·rw [if_pos e,wm i e]
    ·rw [if_neg e,show i=r by omega,Dw]
   have e2:bR (cD c s).lead b=if b<r then bR s.lead b else c:=by
    by_cases e:b<r;·rw [if_pos e,sF b e]
    ·rw [if_neg e,show b=r by omega,rI]
   rw [e1,e2]
  refine ⟨fun i=>ρ (bD r a i),(if a=r then 1 else -1)*sg,x*((if a=r then 1 else -1)*aJ s.m a c),by rw [hlen,h.len],by rw [hL];omega,by rw [hL];have:=h.rlc;omega,?_,?_,?_,?_,?_,?_,?_,?_,?_,?_,?_,?_,?_⟩
  ·intro l hl;rw [hL] at hl;by_cases e:l=r;·rw [e,rI];omega
   ·rw [sF l (by omega)];have:=h.klt l (by omega);omega
  ·intro hc l hl;rw [hL] at hc;by_cases e:l=r;·rw [e,rI];omega
   ·rw [sF l (by omega)];exact h.full (by omega) l (by omega)
  ·rw [hL];exact xu
  ·intro i j hi hj;rw [hL] at hi;by_cases e:j=c
   ·have:=xu i r (by omega);rw [rI,if_neg (by omega)] at this;rw [e];exact this
   ·rw [sn,if_neg (by omega),h.zero (bD r a i) j (by have:=G9 i (by omega);omega) (by omega),h.zero a j (by omega) (by omega),Rat.div_def,Rat.zero_mul];grind
  ·intro i hi;exact h.rho _ (Cm i hi)
  ·intro i hi;obtain ⟨i',h1,h2⟩:=h.sur i hi;exact ⟨bD r a i',Cm i' h1,by rw [yh];exact h2⟩
  ·intro i j hi;have h1:=h.span (bD r a i) j (Cm i hi);have h2:=h.span (bD r a i) c (Cm i hi);rw [hL];show A (ρ (bD r a i)) j=_+(aI r (fun l=>aJ (cD c s).m l j*A (ρ (bD r a i)) (bR (cD c s).lead l))+aJ (cD c s).m r j*A (ρ (bD r a i)) (bR (cD c s).lead r));rw [rI];rw [hr] at h1 h2;have e1:aI r (fun l=>aJ (cD c s).m l j*A (ρ (bD r a i)) (bR (cD c s).lead l))=aI r (fun l=>aJ s.m l j*A (ρ (bD r a i)) (bR s.lead l))+- (aJ s.m a j / aJ s.m a c)*aI r (fun l=>aJ s.m l c*A (ρ (bD r a i)) (bR s.lead l)):=by
    rw [<- iL,<- ng];refine cd fun l hl=>?_;rw [sF l hl,sn,if_neg (by omega),wm l hl];grind
   rw [e1,sn r j,if_pos rfl,sn i j];have hlt:(bD r a i<r)=(i<r):=by
    apply propext;constructor
    ·intro h;by_cases e:i<r;·exact e
     ·have:=G9 i (by omega);omega
    ·intro h;rw [wm i h];exact h
   simp only [hlt] at h1 h2;by_cases e:i<r
   ·rw [if_pos e] at h1 h2;rw [if_pos (by omega),h1,h2];grind
   ·rw [if_neg e] at h1 h2;by_cases e2:i=r
    ·rw [e2,Dw] at h1 h2;rw [if_pos (by omega),e2,Dw,h1,h2];have:aJ s.m a j / aJ s.m a c*aJ s.m a c=aJ s.m a j:=(by rw [Rat.div_def,Rat.mul_assoc,Rat.inv_mul_cancel _ hne,Rat.mul_one]);grind
    ·rw [if_neg (by omega),if_neg e2,h1,h2];grind
  ·rw [hL,hD];intro h0;rcases Rat.mul_eq_zero.1 h0 with h0 | h0;·exact hne h0
   ·exact h.dne (by rw [hr];exact h0)
  ·intro f hf;rw [h.form f hf,hf.pivot xC ha2 hne sn];grind
  ·rw [E3,h.det,hL,hr];by_cases e:r=c;·rw [if_pos e,if_pos (show r+1=c+1 by omega)];split <;> grind
   ·rw [if_neg e,if_neg (show ¬ r+1=c+1 by omega)];split <;> grind
  ·rcases h.sgn with e | e <;> rw [e] <;> split <;> first | (left;grind) | (right;grind)
  ·intro f hf;by_cases e:a=r
   ·rw [if_pos e,e];have:(fun i b=>A (ρ (bD r r i)) b)=fun i b=>A (ρ i) b:=by funext i b;rw [u4_]
    rw [this,h.sgf f hf];grind
   ·rw [if_neg e,hf.swap (fun i b=>A (ρ i) b) r a (by omega) ha2,h.sgf f hf];grind
  ·rw [hL,hD,h.xD,hr];grind
theorem v3_ {C:Nat} (m:List (List Rat)) (hR:bw C m):∀ c,∃ ρ sg x,ja m.length (aJ m) c (ah m c) ρ sg x
 | 0=>⟨_,_,_,Z29 m hR⟩
 | c+1=>by
  obtain ⟨ρ,sg,x,h⟩:=v3_ m hR c;exact Z28 h (nV hR c).1
def be (K:Nat) (x:Rat):Prop:=∃ z:Int,x=(z:Rat)/\z.natAbs<=K
theorem be.mono {K L:Nat} {x:Rat} (h:be K x) (hk:K<=L):be L x:=by
 obtain ⟨z,h1,h2⟩:=h;exact ⟨z,h1,by omega⟩
theorem be.zero (K:Nat):be K 0:=⟨0,by simp,by simp⟩
theorem be.add {K L:Nat} {x y:Rat} (h:be K x) (k:be L y):be (K+L) (x+y):=by
 obtain ⟨z,rfl,h2⟩:=h;obtain ⟨z',rfl,k2⟩:=k;exact ⟨z+z',by rw [Rat.intCast_add],by omega⟩
theorem be.mul {K L:Nat} {x y:Rat} (h:be K x) (k:be L y):be (K*L) (x*y):=by
 obtain ⟨z,rfl,h2⟩:=h;obtain ⟨z',rfl,k2⟩:=k;exact ⟨z*z',by rw [Rat.intCast_mul],by rw [Int.natAbs_mul];exact Nat.mul_le_mul h2 k2⟩
theorem be.sgn (i:Nat):be 1 (dO i):=by
 unfold dO;split;·exact ⟨1,by simp,by simp⟩
 ·exact ⟨-1,by simp,by simp⟩
theorem be.sum {K n:Nat} {f:Nat->Rat} (h:∀ i,i<n->be K (f i)):be (n*K) (aI n f):=by
 induction n with
 | zero=>exact (be.zero _)
 | succ n ih =>
  have:=(ih fun i hi=>h i (by omega)).add (h n (by omega));rw [Nat.succ_mul];exact this
def e_ (K:Nat):Nat->Nat
 | 0=>1
 | n+1=>(n+1)*(K*e_ K n)
theorem Z2Z {K n:Nat} {M:Nat->Nat->Rat} (h:∀ a b,be K (M a b)):be (e_ K n) (aL n M):=by
 induction n generalizing M with
 | zero=>exact ⟨1,by simp [aL],by simp [e_]⟩
 | succ n ih =>
  show be ((n+1)*(K*e_ K n)) (aI (n+1) _);refine be.sum fun i hi=>?_;have h1:=((be.sgn i).mul (h i 0)).mul (ih (M:=fun a b=>M (sk i a) (b+1)) fun a b=>h _ _);rw [Nat.one_mul] at h1;exact h1
theorem Z0W {K : Nat} (hK : 1 <= K) {a b : Nat} (h : a <= b) : e_ K a <= e_ K b := by
  induction b with
  | zero => have : a = 0 := by omega
            subst this; exact n9 _
  | succ b ih =>
    by_cases e : a = b + 1;· subst e; exact n9 _
    · have h1 := ih (by omega)
      show _ <= (b + 1) * (K * e_ K b);have h2 : 1 * e_ K b <= K * e_ K b := Nat.mul_le_mul_right _ hK;have h3 : 1 * (K * e_ K b) <= (b + 1) * (K * e_ K b) := Nat.mul_le_mul_right _ (by omega);omega
theorem Z4H:e_ 1000000000 13<10^130:=by decide +kernel
theorem be.rs {x:Rat} (h:be (e_ 1000000000 13) x):RS 131 x:=by
 obtain ⟨z,rfl,h2⟩:=h;have h3:=Nat.lt_of_le_of_lt h2 Z4H;refine ⟨?_,?_⟩
 ·show (aB ((z:Rat)).num).size<=131;rw [show ((z:Rat)).num=z from rfl];have h4:=gB z;have h5:=lr z.natAbs 130 h3 (by omega);omega
 ·show (aE ((z:Rat)).den).size<=131;rw [show ((z:Rat)).den=1 from rfl,eh,Lib.nDigits_small (by omega)];omega
theorem o1_ {C:Nat} {m:List (List Rat)} (hR:bw C m) (hl:m.length<=12) (hm:∀ i j,be 1000000000 (aJ m i j)) (c:Nat):fi 2500 (ah m c).m/\RS 9000 (ah m c).det:=by
 obtain ⟨ρ,sg,x,h⟩:=v3_ m hR c;have Jt:(ah m c).lead.length<=12:=by have:=h.rle;omega
 have hint:∀ (k:Nat) (f g:Nat->Nat),k<=13->be (e_ 1000000000 13) (aL k fun a b=>aJ m (f a) (g b)):=fun k f g hk =>
  (Z2Z (fun a b=>hm _ _)).mono (Z0W (by omega) hk)
 have hD:be (e_ 1000000000 13) (aL (ah m c).lead.length fun a b=>aJ m (ρ a) (bR (ah m c).lead b)):=hint _ _ _ (by omega);have hne:=h.dne;have sn:∀ i j,i<m.length->RS 300 (aJ (ah m c).m i j):=by
  intro i j hi;have hN:be (e_ 1000000000 13) (aJ (ah m c).m i j*aL (ah m c).lead.length fun a b=>aJ m (ρ a) (bR (ah m c).lead b)):=by
   by_cases e:i<(ah m c).lead.length
   ·rw [<- h.small e];exact hint _ ρ (fun b=>if b=i then j else bR (ah m c).lead b) (by omega)
   ·rw [<- h.big (by omega) hi];exact hint _ (fun a=>if a<(ah m c).lead.length then ρ a else ρ i) (fun b=>if b<(ah m c).lead.length then bR (ah m c).lead b else j) (by omega)
  generalize (aL (ah m c).lead.length fun a b=>aJ m (ρ a) (bR (ah m c).lead b))=D at *
  generalize aJ (ah m c).m i j=g at *
  have e:g=(g*D) / D:=by rw [Rat.div_def,Rat.mul_assoc,Rat.mul_inv_cancel _ hne,Rat.mul_one]
  rw [e];exact (Z4c hN.rs hD.rs hne).mono (by omega)
 have hsh:=nV hR c;refine ⟨fun r hr q hq=>?_,?_⟩
 ·obtain ⟨i,hi⟩:=List.getElem?_of_mem hr;obtain ⟨j,hj⟩:=List.getElem?_of_mem hq;have hil:=(nt.1 hi).1;have:=sn i j (by omega);unfold aJ at this;rw [ku hi,nu,hj] at this;exact RS.mono this (by omega)
 ·rw [h.det]
  split
  ·rw [h.xD];rcases h.sgn with e | e
   ·rw [e,Rat.one_mul];exact hD.rs.mono (by omega)
   ·rw [e];have:be (1*e_ 1000000000 13) ((-1:Rat)*aL (ah m c).lead.length fun a b=>aJ m (ρ a) (bR (ah m c).lead b)):=be.mul ⟨-1,by simp,by simp⟩ hD;rw [Nat.one_mul] at this;exact this.rs.mono (by omega)
  ·exact (be.zero _).rs.mono (by omega)
theorem Z1O {xss:oP} (h:∀ r∈xss,∀ a∈r,-1000000000<=a/\a<=1000000000) (i j:Nat):be 1000000000 (aJ (df xss) i j):=by
 unfold aJ cC df;rw [nu (l:=xss.map cZ),nx];cases hi:xss[i]? with
 | none=>exact be.zero _
 | some r =>
  show be _ ((cZ r).getD j 0);unfold cZ;rw [nu,nx];cases hj:r[j]? with
  | none=>exact be.zero _
  | some a =>
   have:=h r (nw hi) a (nw hj);exact ⟨a,rfl,by omega⟩
def kI (xss:oP) (i j:Nat):Int:=(xss.getD i []).getD j 0
theorem w3_ (xss:oP) (i j:Nat):aJ (df xss) i j=(kI xss i j:Rat):=by
 unfold aJ cC df kI;rw [nu (l:=xss.map cZ),nx,nu (l:=xss)];cases hi:xss[i]? with
 | none=>simp
 | some r =>
  show (cZ r).getD j 0=((r.getD j 0:Int):Rat);unfold cZ;rw [nu,nx,nu];cases hj:r[j]? with
  | none=>simp
  | some a=>rfl
end Go.Proofs.YtoonaddcfakamaaGreatDoor
