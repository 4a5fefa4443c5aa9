import Derived.Test.YtjlkkofmojgipaaGreatDoorVAM
import Derived.Test.YtjlkkofmojgipaaGreatDoorVAK
import Derived.Test.YtjlkkofmojgipaaGreatDoorVAJ
import Derived.Test.YtjlkkofmojgipaaGreatDoorVAH
import Derived.Test.YtjlkkofmojgipaaGreatDoorVAF
import Derived.Test.YtjlkkofmojgipaaGreatDoorVAA
import Derived.Laws.Bits64b
import Derived.Test.YtjlkkofmojgipaaGreatDoorVAI
set_option linter.unusedVariables false
set_option linter.unusedSimpArgs false
set_option maxRecDepth 1000000
set_option maxHeartbeats 8000000
namespace Go.Proofs.YtjlkkofmojgipaaGreatDoor
open Go.RowKit Go.Shelf Go.Proofs.Tryz
attribute [local go_sem] Oper.semAt_some
def iU (xss:oe) (k:Nat) (R C:List Nat):Int:=(ai (bF (cF xss R C)) k).det.num
def cE (xss:oe) (k:Nat):List Int:=(be xss.length k).flatMap fun R=>(be (bZ xss) k).map fun C=>iU xss k R C
def eJ (xss:oe) (k i:Nat):List Int:=((be xss.length k).take i).flatMap fun R=>(be (bZ xss) k).map fun C=>iU xss k R C
def fY (xss:oe) (k:Nat) (R:List Nat) (j:Nat):List Int:=((be (bZ xss) k).take j).map fun C=>iU xss k R C
theorem Z0R {xss:oe} {k i:Nat} {R:List Nat} (h:(be xss.length k)[i]?=some R):eJ xss k (i+1)=eJ xss k i++fY xss k R (be (bZ xss) k).length:=by
 unfold eJ fY;rw [oH,h,List.take_length,List.flatMap_append];simp
theorem i3_ {xss:oe} {k j:Nat} {R C:List Nat} (h:(be (bZ xss) k)[j]?=some C):fY xss k R (j+1)=fY xss k R j++[iU xss k R C]:=by
 unfold fY;rw [oH,h,List.map_append];simp
theorem Z2L (xss:oe) (k i j:Nat) (R:List Nat) (h1:(be xss.length k).length<=1000) (h2:(be (bZ xss) k).length<=1000):(eJ xss k i++fY xss k R j).length<8000000:=by
 unfold eJ fY;rw [oV,Z5_ _ (be (bZ xss) k).length (fun R=>by simp),List.length_map,oG,oG];have:=Nat.mul_le_mul (show min i (be xss.length k).length<=1000 by omega) h2;omega
theorem Z2K (xss:oe) (k:Nat):eJ xss k (be xss.length k).length=cE xss k:=by
 unfold eJ cE;rw [List.take_length]
theorem C9_ (xss:oe) (k:Nat) (v:Value) (w:World) (h:bN w v xss) (hE:cK xss=0) (vt:k<=xss.length) (hk2:k<=bZ xss) (wF:du xss.length k*du (bZ xss) k<=1000)
  (hok:∀ R∈be xss.length k,∀ C∈be (bZ xss) k,∀ c,c<k->gV 2500 (ai (bF (cF xss R C)) c).m/\RS 9000 (ai (bF (cF xss R C)) c).det) (ht:ae w) :
  Calls prog 54 #[v,.int .i64 (k:Int)] w fun e w'=>∃ r,e=.returned (.tuple #[r,.int .i64 0])/\aH 1 numC w' r (cE xss k)/\aA w w':=by
 obtain ⟨hl,qv⟩:=jd hE;have hcl:bZ xss<=12:=by
  unfold bZ;cases xss with
  | nil=>simp
  | cons r l=>exact (qv r (by simp)).2.1
 have HCH:Hid (∀ W,aA w W->oX 53 #[v] W (.int .i64 0)):=fun W hW=>by
  have:=W4_ xss v W (h.ext hW);rw [hE] at this;exact this
 have HCO:Hid (∀ W,aA w W->Calls prog 106 #[v] W fun e w'=>e=.returned (.int .i64 (bZ xss:Int))/\w'=W):=fun W hW=>(l9_ xss v W (h.ext hW)).mono fun _ _ ⟨a,b⟩=>⟨a,b.symm⟩
 have HC1:Hid (∀ W,Calls prog 107 #[.int .i64 (xss.length:Int),.int .i64 (k:Int)] W fun e w'=>e=.returned (.int .i64 (du xss.length k:Int))/\w'=W):=fun W=>(E2_ _ _ W hl vt).mono fun _ _ ⟨a,b⟩=>⟨a,b.symm⟩
 have HC2:Hid (∀ W,Calls prog 107 #[.int .i64 (bZ xss:Int),.int .i64 (k:Int)] W fun e w'=>e=.returned (.int .i64 (du (bZ xss) k:Int))/\w'=W):=fun W=>(E2_ _ _ W hcl hk2).mono fun _ _ ⟨a,b⟩=>⟨a,b.symm⟩
 have HROWS:=oA h;have HT:=oA ht;have HOK:=oA hok;have HRR:=oA qv;obtain ⟨a,c,rfl,h1,h2,-,qX⟩:=bc.open h;have HCELL:=oA qX;obtain ⟨n,hn⟩:=oc xss.length;obtain ⟨m,hm⟩:=oc (bZ xss);rw [<- hn] at HC1 HCO HCH h1 vt wF hl HROWS |-;rw [<- hm] at HC2 HCO hk2 wF hcl;obtain ⟨c1,pK⟩:=oc (du n k);obtain ⟨c2,hc2⟩:=oc (du m k);rw [<- pK] at HC1 wF;rw [<- hc2] at HC2 wF;have HCC:=oA (And.intro pK hc2);have HNM:=oA (And.intro hn hm);unfold maxLen at h2;have q0:¬ (k:Int)<0:=by omega
 have q1:¬ (n:Int)<(k:Int):=by omega
 have q2:¬ (m:Int)<(k:Int):=by omega
 have hcm:((c1*c2:Nat):Int)=(c1:Int)*(c2:Int):=Int.natCast_mul _ _;have q3:IntKind.i64.wrap ((c1:Int)*(c2:Int))=(c1:Int)*(c2:Int):=by rw [<- hcm,IntKind.wrap_i64];omega
 have q4:¬ (1000:Int)<(c1:Int)*(c2:Int):=by rw [<- hcm];omega
 have z0:=oS q0;have z1:=oS q1;have z2:=oS q2;have z4:=oS q4;have z5:decide (n<k)=false:=by rw [decide_eq_false_iff_not];omega
 have z6:decide (m<k)=false:=by rw [decide_eq_false_iff_not];omega
 clear h hE hok ht qv qX hn hm pK hc2 hcm;refine (callsIn_wide (n:=9)).1 ?_;refine callsIn_of_wp_marks func54 rfl trivial ?_ rfl;simp only [ntmps54,List.size_toArray,List.length_cons,List.length_nil,Nat.reduceAdd,Nat.reduceSub,Array.replicate_succ,Array.replicate_zero,List.push_toArray,List.append_toArray,List.nil_append,List.cons_append];obtain ⟨W2,tl⟩:=oZ ((w.alloc (.cells #[.slice a n c] 23)).alloc (.cells #[.int .i64 (k:Int)] 3));have Cz:aA w W2:=by rw [<- tl];exact (aA.alloc _ _).trans (aA.alloc _ _)
 have hs2:W2.heap.size=w.heap.size+2:=by rw [<- tl];simp
 have hb1:Boxed W2 w.heap.size 23 (.slice a n c):=by
  rw [<- tl];exact Boxed.alloc (Boxed.new w _ _) _
 have hb2:Boxed W2 (w.heap.size+1) 3 (.int .i64 (k:Int)):=by
  rw [<- tl];have:=Boxed.new (w.alloc (.cells #[.slice a n c] 23)) 3 (.int .i64 (k:Int));simpa using this
 have HX2:=oA Cz;have HB1:=oA hb1;have HB2:=oA hb2;have HS2:=oA hs2;have d1:=hb1.cell;have d2:=hb2.cell;clear Cz hs2 hb1 hb2;refine wpIn_wide.2 ?_;go_wp2_with fail;refine (HCH _ HX2).mono ?_;rintro e w1 ⟨rfl,hE1⟩;have HX1:=oA (aA.trans HX2 hE1);have e1:=hE1.cell d1;have e2:=hE1.cell d2;have zI:Hid (Boxed w1 w.heap.size 23 (.slice a n c)/\Boxed w1 (w.heap.size+1) 3 (.int .i64 (k:Int))/\w.heap.size+2<=w1.heap.size):=⟨aJ HB1 hE1,aJ HB2 hE1,by have:=hE1.size;have:=HS2.out;omega⟩;clear hE1 d1 d2 tl HCH;go_wp2_with fail
 go_quiet ((go_at_call 106;exact Calls.quiet_of_same (HCO _ (aA.draws HX1 _))))
 go_wp2_with fail;obtain ⟨wq,EP⟩:=oc (w1.drewN nq);rw [<- EP];have At:aA w1 wq:=by rw [EP];exact aA.drewN _ _
 have HXQ:=oA (aA.trans HX1 At);have b1:=At.cell e1;have b2:=At.cell e2;have yG:Hid (Boxed wq w.heap.size 23 (.slice a n c)/\Boxed wq (w.heap.size+1) 3 (.int .i64 (k:Int))/\w.heap.size+2<=wq.heap.size):=⟨aJ zI.1 At,aJ zI.2.1 At,by have:=At.size;have:=zI.2.2;omega⟩;clear EP At e1 e2 zI HX1 HX2 HB1 HB2 HS2
 go_quiet ((first | (go_at_call 106;exact Calls.quiet_of_same (HCO _ (aA.draws HXQ _))) | (go_at_call 107;with_reducible exact Calls.quiet_of_same (HC1.out _)) | (go_at_call 107;with_reducible exact Calls.quiet_of_same (HC2.out _))))
 obtain ⟨wz,Bx⟩:=oc (wq.drewN nq);rw [<- Bx];have zm:aA wq wz:=by rw [Bx];exact aA.drewN _ _
 obtain ⟨W3,xl⟩:=oZ (wz.alloc (.cells #[.slice none 0 0] 29));have oz:aA wz W3:=by rw [<- xl];exact aA.alloc _ _
 have HM3:Hid (fB w W3 w.heap.size (w.heap.size+1) wz.heap.size (.slice a n c) k (eJ xss k 0)):=by
  have hs:=zm.size;have hz:=yG.2.2;refine ⟨aJ yG.1 (zm.trans oz),aJ yG.2.1 (zm.trans oz),⟨_,?_,World.ownsRow_nil _ _ _ _⟩,HXQ.trans (zm.trans oz),by omega,oK _,by omega⟩;rw [<- xl];exact Boxed.new _ _ _
 have b1:=oz.cell (zm.cell b1);have b2:=oz.cell (zm.cell b2);have rN:Hid (W3.heap.size=wz.heap.size+1/\w.heap.size+2<=wz.heap.size):=⟨by rw [<- xl];simp,by have:=zm.size;have:=yG.2.2;omega⟩;clear Bx zm oz yG HXQ;go_wp2_with fail;refine (a1_ _ _ _).mono ?_;rintro e w4 ⟨rfl,hw4⟩;have Is:aA W3 w4:=by rw [hw4];exact (aA.alloc _ _).trans (aA.alloc _ _)
 have HM4:=oA (HM3.ext Is);have BA:Hid (Boxed w4 (W3.heap.size+1) 3 (.int .i64 (k:Int))/\Boxed w4 W3.heap.size 3 (.int .i64 (n:Int))/\w4.heap.size=W3.heap.size+2):=by
  rw [hw4];refine ⟨?_,Boxed.alloc (Boxed.new _ _ _) _,by simp⟩;have:=Boxed.new (W3.alloc (.cells #[.int .i64 (n:Int)] 3)) 3 (.int .i64 (k:Int));simpa using this
 clear b1 b2 hw4 Is xl;go_wp2_with fail;refine (wpIn_wide (n:=9)).1 ?_;have HSI:=oA (lG (n:=n) (k:=k) hl vt);have HSJ:=oA (lG (n:=m) (k:=k) hcl hk2);refine F7_ (T:=3) (L:=be n k) (w0:=w4) rfl (by omega) (gf:=158) (lb:=#[.pointer (some ⟨W3.heap.size+1,0,none⟩),.pointer (some ⟨W3.heap.size,0,none⟩)]) rfl trivial (enters_of func158 (by kernel_rfl) rfl)
  (a0_ (9-1) (by omega) n k vt hl (be n k) HSI.1 _ _ w4 BA.1 BA.2.1) (Below.refl _ _) rfl
  (fun i W=>fB w W w.heap.size (w.heap.size+1) wz.heap.size (.slice a n c) k (eJ xss k i)) ?ab HM4 ?rounds ?done
 case ab =>
  rintro i W W' row hI hg hr;have h3:=rN.out;have h4:=BA.2.2;refine hI.grown hg (fun e=>?_) (fun e=>?_) (fun e=>?_) (fun r e=>?_);·have:=(hr _ e).1;omega
  ·have:=(hr _ e).1;omega
  ·have:=(hr _ e).1;omega
  ·obtain ⟨h5,o,ho,h6⟩:=hr r e;refine ⟨by omega,fun C fr hc=>?_⟩;rw [hc] at ho;cases ho;rcases h6 with h6 | ⟨C',fr',h6⟩
   ·simp [Obj.isCells] at h6
   ·simp at h6
 case done =>
  intro W hI hD;have qV:eJ xss k (be n k).length=cE xss k:=by rw [HNM.out.1];exact Z2K xss k
  rw [qV] at hI;obtain ⟨vo,py,hown⟩:=hI.out;have c0:=py.cell;have HI:=oA hI;have HD:=oA hD;have HOWN:=oA hown;have hw4:w.heap.size<=w4.heap.size:=HM4.old.size;clear hI hD hown py qV;go_wp2_with fail;refine ⟨by simp,.inl ⟨_,_,rfl,run_takeDeferred HD,?_⟩⟩;refine ⟨_,results_tmp2 rfl _ _ _,vo,rfl,?_,?_⟩;·exact numC.of_owns (ownsRow_putObj HOWN _ HD rfl)
  ·exact Below.trans HI.old ((belowK_b (w:=w) (n₀:=w.heap.size) (oK _) W w4.heap.size _ _ hw4 HD rfl rfl))
 case rounds =>
  rintro i R vs W hR hI hV ⟨r0,vl⟩;have hRk:=HSI.1.len R (oE hR);have hRn:=HSI.1.lt R (oE hR);obtain ⟨gR,CR,frR,vL,If,Ik⟩:=hV.at_;rw [hRk] at vL;subst vL;have HV:=oA hV;have HI:=oA hI;have HR:=oA hR;have HL0:=oA vl;have HRK:=oA hRk;have HRN:=oA hRn;have HGR:=oA If;have HCR:=oA Ik;obtain ⟨W5,Am⟩:=oZ (W.alloc (.cells #[.slice none 0 0] 26));have hb5:Boxed W5 W.heap.size 26 (.slice none 0 0):=by rw [<- Am];exact Boxed.new _ _ _
  have HE5:Hid (aA W W5):=by rw [<- Am];exact aA.alloc _ _
  have HB5:=oA hb5;have c0:=hb5.cell;have f0:=hb5.frozen;have HE6:Hid (aA W (W5.setCell ⟨W.heap.size,0,none⟩ (.slice (some ⟨gR,0,none⟩) k k))):=((HE5.grownS (·=W.heap.size)).store (S:=(·=W.heap.size)) rfl 0 _).belowE (fun b e=>by omega) (oK _);have HB6:Hid (Boxed (W5.setCell ⟨W.heap.size,0,none⟩ (.slice (some ⟨gR,0,none⟩) k k)) W.heap.size 26 (.slice (some ⟨gR,0,none⟩) k k)):=en hb5 0 _;clear hV hI hR vl hRk hRn If Ik hb5
  gi_wp2_with fail
  obtain ⟨W6,Iu⟩:=oc (W5.setCell ⟨W.heap.size,0,none⟩ (.slice (some ⟨gR,0,none⟩) k k));rw [<- Iu] at HE6 HB6 |-;have hbx:=HI.box;refine ⟨(cO.ext (n0:=w.heap.size) (Bo:=wz.heap.size) HE6).keepF hbx.2,(cO.ext (n0:=w.heap.size) (Bo:=wz.heap.size) HE6).keepT hbx.1,?_⟩;rintro Wb qP ⟨r1,qN⟩ ⟨r2,pX⟩ IW;have hlw:=(Array.getElem?_eq_some_iff.1 HL0).1;have zx:Hid (fB w Wb w.heap.size (w.heap.size+1) wz.heap.size (.slice a n c) k (eJ xss k i)):=by
   have h3:=rN.out;have h4:=BA.2.2;refine (HI.ext HE6).grown qP (fun e=>?_) (fun e=>?_) (fun e=>?_) (fun r e=>?_);·have e:=oM e;omega
   ·have e:=oM e;omega
   ·have e:=oM e;omega
   ·cases e;exact ⟨by omega,fun C fr hc=>by rw [qN] at hc;simp at hc⟩
  have HBB:Hid (Boxed Wb W.heap.size 26 (.slice (some ⟨gR,0,none⟩) k k)):=Y7_ HB6 qP (fun e=>by have e:=oM e;omega);have GY:Hid (jM 3 Wb (.slice (some ⟨gR,0,none⟩) k k) R):=HV.keep (((cO.ext (n0:=w.heap.size) (Bo:=wz.heap.size) HE6).keepT hbx.1).trans IW);have HL2:=oA pX;have g1:=zx.bm.cell;have g2:=zx.bk.cell;have HXB:=oA zx.old;clear c0 f0 qP IW qN pX hbx Iu Am HE6 HB6 HB5 HE5
  gi_wp2_with fail
  refine S5_ (fun u=>u=Wb.drew) 3 (by kernel_rfl) (by kernel_rfl) (by rintro ⟨_,_,h⟩;exact absurd (show Exit.outgrown=Exit.normal from h.1) (by simp)) rfl (fun oh=>?_);refine tL (v:=?_) 0 rfl (Or.inl ⟨by rfl,?_⟩) ?_;rotate_left;·((intro w' pO);(subst pO);(try go_simp);(try with_reducible rfl))
  (try simp only [Act.put,aP,aQ,aR])
  refine tL (v:=?_) 2 rfl (Or.inl ⟨by rfl,?_⟩) ?_;rotate_left;·((intro w' pO);(subst pO);(try go_simp);(try with_reducible rfl))
  (try simp only [Act.put,aP,aQ,aR])
  refine dh 1 (by kernel_rfl) rfl (fun K hK=>?_);go_simp
  (go_at_call 106;refine (HCO _ (aA.trans HXB (aA.drew _))).mono ?_)
  rintro e w5 ⟨rfl,rfl⟩;go_wp2_with fail;refine hK _ _ (rfl) (fun oh=>?_);clear hK K
  (try simp only [Act.put,aP,aQ,aR])
  refine fw 3 (by kernel_rfl) (by kernel_rfl) (by kernel_rfl) rfl (fun K hK=>?_);go_simp
  (go_at_call 108;refine (a1_ _ _ _).mono ?_)
  rintro e w5 ⟨rfl,z8⟩;have Ir:aA Wb w5:=by rw [z8];exact (aA.drew _).trans ((aA.alloc _ _).trans (aA.alloc _ _))
  have HK5:Hid (Boxed w5 (Wb.heap.size+1) 3 (.int .i64 (k:Int))/\Boxed w5 Wb.heap.size 3 (.int .i64 (m:Int))/\w5.heap.size=Wb.heap.size+2):=by
   rw [z8];refine ⟨?_,Boxed.alloc (Boxed.new _ _ _) _,by rw [World.size_alloc,World.size_alloc];rfl⟩;have:=Boxed.new (Wb.drew.alloc (.cells #[.int .i64 (m:Int)] 3)) 3 (.int .i64 (k:Int));rw [World.size_alloc] at this;exact this
  have HX5:=oA Ir;clear z8 Ir g1 g2 oh;go_wp2_with fail;refine hK _ _ ?_;clear hK K
  gi_wp2_with fail
  have MN:Hid (fB w w5 w.heap.size (w.heap.size+1) wz.heap.size (.slice a n c) k (eJ xss k i++fY xss k R 0)/\cO w.heap.size wz.heap.size Wb w5):=by
   refine ⟨?_,cO.ext HX5⟩;have e:fY xss k R 0=[]:=rfl;rw [e,List.append_nil];exact zx.ext HX5
  have hlb:=(Array.getElem?_eq_some_iff.1 HL2).1;refine G7_ (l₀:=w4.heap.size+1) (r₀:=r2) (T:=3) (L:=be m k) (w0:=w5) rfl (aJ HL2 HX5) (by omega) (gf:=158) (lb:=#[.pointer (some ⟨Wb.heap.size+1,0,none⟩),.pointer (some ⟨Wb.heap.size,0,none⟩)]) rfl trivial (enters_of func158 (by kernel_rfl) rfl)
   (jh.inRound _ (a0_ _ (by omega) m k hk2 hcl (be m k) HSJ.1 _ _ w5 HK5.1 HK5.2.1)) (Below.refl _ _) rfl
   (fun j W=>fB w W w.heap.size (w.heap.size+1) wz.heap.size (.slice a n c) k (eJ xss k i++fY xss k R j)/\cO w.heap.size wz.heap.size Wb W) ?ab2 MN ?rounds2 ?done2
  case ab2 =>
   rintro j W' W'' row ⟨hI,hO⟩ hg hr;have h3:=rN.out;have h4:=BA.2.2;have h5:=HK5.2.2;refine ⟨hI.grown hg (fun e=>?_) (fun e=>?_) (fun e=>?_) (fun r e=>?_),hO.later hg fun r e=>?_⟩;·have:=(hr _ e).1;omega
   ·have:=(hr _ e).1;omega
   ·have:=(hr _ e).1;omega
   ·obtain ⟨h5,o,ho,h6⟩:=hr r e;refine ⟨by omega,fun C fr hc=>?_⟩;rw [hc] at ho;cases ho;rcases h6 with h6 | ⟨C',fr',h6⟩
    ·simp [Obj.isCells] at h6
    ·simp at h6
   ·have:=(hr _ e).1;omega
  case done2 =>
   rintro W' ⟨hI,hO⟩;have hb:=zx.box;have hE:eJ xss k i++fY xss k R (be m k).length=eJ xss k (i+1):=by
    rw [HNM.out.2,Z0R (R:=R) (by rw [<- HNM.out.1];exact HR.out)]
   rw [hE] at hI;have HIM:=oA hI;clear hI
   gi_wp2_with fail
   exact ⟨hO.keepF hb.2,hO.keepT hb.1,HIM⟩
  case rounds2 =>
   rintro j C vc W' hC ⟨hI,hO⟩ Fv ⟨r3,xE⟩;have hCk:=HSJ.1.len C (oE hC);have hCm:=HSJ.1.lt C (oE hC);obtain ⟨gC,CC,frC,vL,-,-⟩:=id Fv.at_;rw [hCk] at vL;subst vL;have HVC:=oA Fv;have HIC:=oA hI;have HOC:=oA hO;have HC:=oA hC;have HCK:=oA hCk;have HCM:=oA hCm;have HL3:=oA xE;clear Fv hI hO hC hCk hCm xE
   gi_wp2_with fail
   refine ⟨KeepsFrom.refl _ _,ff.refl _ _,?_⟩;rintro Wc xX ⟨r4,vN⟩ ⟨r5,tG⟩ wP;have zw:Hid (fB w Wc w.heap.size (w.heap.size+1) wz.heap.size (.slice a n c) k (eJ xss k i++fY xss k R j)):=by
    have h3:=rN.out;have h4:=BA.2.2;have h5:=HK5.2.2;refine HIC.grown xX (fun e=>?_) (fun e=>?_) (fun e=>?_) (fun r e=>?_);·have e:=oM e;omega
    ·have e:=oM e;omega
    ·have e:=oM e;omega
    ·cases e;exact ⟨by omega,fun C fr hc=>by rw [vN] at hc;simp at hc⟩
   have Gp:Hid (cO w.heap.size wz.heap.size Wb Wc):=HOC.later xX (fun r e=>by have e:=oM e;have:=HK5.2.2;omega);have HSC:=oA (HVC.keep wP);have HSR:=oA (GY.keep (Gp.keepT zx.box.1));have hw3:=rN.out;have hw4:=BA.2.2;have MY:Hid (Boxed Wc W.heap.size 26 (.slice (some ⟨gR,0,none⟩) k k)):=(Gp.block _ HBB.lt (.inr ⟨fun e=>by omega,fun C fr e=>by rw [show Wb.heap[W.heap.size]?=_ from HBB.out] at e;simp at e⟩)).trans HBB;have HL5:=oA tG;have g1:=zw.bm.cell;have g2:=zw.bk.cell;have g3:=MY.cell;clear xX vN tG wP HIC HOC HVC HL3 hw3 hw4;rw [show (Fence.wide.inRound (w4.heap.size+1)).inRound w5.heap.size=Fence.wide.inRound w5.heap.size from rfl]
   gi_wp2_with fail
   have HXC:=oA zw.old
   gi_loopw [59,10] (fun t u wx=>∃ (p:Nat) (tags:List (Nat×Nat)),p<=k/\t=.int .i64 p/\Hid (aA Wc wx)/\Hid (bf ko 27 wx Wc.heap.size Wc.heap.size u tags (cF xss (R.take p) C))) (fun t _ _=>k-(intOf t).toNat)
   case atStart=>exact ⟨0,[],by omega,rfl,aA.refl _,bf.nil _ _ _ _ _⟩
   case round =>
    obtain ⟨p,tags,Mv,rfl,s8,DU⟩:=hrel;obtain ⟨wo,rfl⟩:∃ wo:World,wo=wr:=⟨_,rfl⟩;clear g1 g2 g3;by_cases hlt:p<k
    ·obtain ⟨x,hx⟩:∃ x,R[p]?=some x:=⟨_,oB (by rw [HRK.out];exact hlt)⟩;have EM:x<n:=HRN x (oE hx);have d1:=s8.cell (HSR.cells hx);have HPT:=oA (Z0Z (m:=xss) (C:=C) hx);obtain ⟨b,off,rfl,rP,hcell⟩:=HCELL (by intro e;have:=HNM.1;rw [e] at this;simp at this;omega);obtain ⟨xs,hxs⟩:∃ xs,xss[x]?=some xs:=⟨_,oB (by rw [<- HNM.out.1];exact EM)⟩;obtain ⟨ux,hux,hcx⟩:=hcell x xs hxs;have hxl:=(HRR xs (oE hxs)).1;obtain ⟨ax,cx,rfl,l1,l2,-,lb,lc⟩:=bL.open hux;rw [hxl,<- HNM.out.2] at hcx l1;have HCX:=oA hcx;have HLC:=oA lc;have HLB:=oA lb;have HXL:=oA hxl;have HGD:Hid (xss.getD x []=xs):=(by unfold Hid;rw [oD,hxs];rfl);unfold maxLen at l2;clear hx hcell hux hcx lc lb hxs hxl
     gi_wp2_with fail
     clear d1
     gi_loopw [65,13] (fun t u wx=>∃ q:Nat,q<=k/\t=.int .i64 q/\Hid (aA wo wx)/\Hid (fg wo.heap.size wx u (fc xs C q))) (fun t _ _=>k-(intOf t).toNat)
     case atStart=>exact ⟨0,by omega,rfl,aA.refl _,World.ownsRow_nil _ _ _ _⟩
     case round =>
      obtain ⟨q,Em,rfl,qe,HQ⟩:=hrel;obtain ⟨wi,rfl⟩:∃ wi:World,wi=wr:=⟨_,rfl⟩;by_cases hlq:q<k
      ·obtain ⟨y,hy⟩:∃ y,C[q]?=some y:=⟨_,oB (by rw [HCK.out];exact hlq)⟩;have J7:y<m:=HCM y (oE hy);have hyl:y<xs.length:=(by rw [HXL.out,<- HNM.out.2];exact J7);have d1:=(s8.trans qe).cell (HSC.cells hy);have d2:=(s8.trans qe).cell zw.bm.cell;have d3:=((HXC.trans s8).trans qe).cell HCX;obtain ⟨z,hz⟩:∃ z,xs[y]?=some z:=⟨_,oB hyl⟩;obtain ⟨bx,offx,rfl,hbx,rn⟩:=HLC (by intro e;rw [e] at hyl;simp at hyl);have d4:=((HXC.trans s8).trans qe).cell (rn y z hz);have HSU:Hid ((fc xs C (q+1))=(fc xs C q)++[z]):=Z10 hy hz;have p1:(0:Int)<=(x:Int):=(by omega);have p2:(x:Int)<(n:Int):=(by omega);have p3:(0:Int)<=(y:Int):=(by omega);have p4:(y:Int)<(m:Int):=(by omega);have HSZ:Hid (wo.heap.size<=wi.heap.size):=qe.size;have HLN:Hid ((fc xs C q).length<1000000):=(by unfold Hid;rw [o1_ (by rw [HCK.out];omega)];omega);clear hy hz rn hyl
       gi_wp2_with (gi_at_builtin;go_must (refine Y5_ rfl (by intro c h;cases h) (fun K hK=>?_);refine R7_ wi _ _ 27 underlying27 rfl wo.heap.size u13 (fc xs C q) z #[.int .i64 z] 3 rfl HQ (by rfl) rfl HLN HSZ ?_))
       intro v' w2 xn hb2;rw [<- HSU.out] at xn;have HQ3:=oA xn;have HX2:Hid (aA wo w2):=Below.trans qe hb2;clear xn hb2 d1 d2 d3 d4;refine hK _ _ ?_;clear hK K
       gi_wp2_with fail
       go_roundw
       case rel=>exact ⟨q+1,by omega,by go_num,HX2,HQ3⟩
       case measure=>simp [intOf];omega
      ·obtain rfl:q=k:=(by omega);have hQ:=HQ.out;have hpl:(fc xs C q).length=q:=o1_ (by rw [HCK.out];exact oK _);obtain ⟨gq,cq,rfl,e1,e2,e3,e4⟩:=gF hQ (by omega);rw [hpl] at hQ e3 |-;have I2:eS wi gq (fc xs C q):=eS.ofOwn (B:=wo.heap.size) (n:=q) (c:=cq) (by have:=HQ.out;unfold fg at this;rw [hpl] at this;exact this);have HRI:=oA I2;have HPL:=oA hpl;have HO2:=oA (DU.ext qe);have HV2:Hid (u10.ownBlock≠some gq):=fun e=>by have:=(DU.own.lt _ e).2;omega
       have rD:Hid (gq∉tags.map (·.1)):=fun e=>by have:=(DU.fresh e).2;omega
       have HSZ:Hid (Wc.heap.size<=gq/\Wc.heap.size<=wi.heap.size):=by
        have h1:=s8.size;have h2:=qe.size;exact ⟨by omega,by omega⟩
       have HLN:Hid ((cF xss (R.take p) C).length<1000000):=(by unfold Hid;rw [lB];simp;omega);have Dk:Hid ((fc xs C q).length<=cq/\cq<=9223372036854775807):=⟨by rw [hpl];exact e3,e4⟩;have HPA:=oA (Z2U HCK HGD);clear hQ hpl I2 e1 e2 e3 e4
       gi_wp2_with (gi_at_builtin;go_must (refine Y5_ rfl (by intro c h;cases h) (fun K hK=>?_);refine V9_ (K:=ko) (e:=27) underlying23 x0_ wi _ _ rfl Wc.heap.size Wc.heap.size u10 tags (cF xss (R.take p) C) (gq,cq) (fc xs C q) #[.slice (some ⟨gq,0,none⟩) q cq] 27 rfl HO2 (by rfl) (by rw [jH,HPL.out]) Dk.1 Dk.2 HRI HSZ.1 HV2 rD HLN HSZ.2 ?_))
       intro v' w5 vZ hb5 _;rw [HPA.out,<- HPT.out] at vZ;have HO5:=oA vZ;have HX5':=oA (Below.trans (aA.trans s8 qe) hb5);clear vZ hb5;refine hK _ _ ?_;clear hK K
       gi_wp2_with fail
       go_roundw
       case rel=>exact ⟨p+1,_,by omega,by go_num,HX5',HO5⟩
       case measure=>simp [intOf];omega
    ·obtain rfl:p=k:=(by omega);rw [show R.take p=R from by rw [<- HRK.out,List.take_length]] at DU
     gi_wp2_with fail
     have HXD:=oA (aA.trans HXC s8);obtain ⟨d,hd⟩:=oc ((ai (bF (cF xss R C)) p).det);have HD0:=oA hd;have Gj:Hid (∀ X,aA wo X->bN X u10 (cF xss R C)):=fun X hX=>(DU.ext hX).rows2 (fun r hr x hx=>by have:=Z4u (R:=R) (C:=C) (fun r hr=>(HRR r hr).2.2) r hr x hx;omega);have HROW:Hid (∀ X,aA wo X->Calls prog 110 #[u10,.func (.func 111) #[] #[]] X fun e X'=>∃ u tg,e=.returned u/\bf kF 197 X' X.heap.size X.heap.size u tg (bF (cF xss R C))/\aA X X'):=fun X hX=>by
      have:=Z4F (cF xss R C) u10 111 #[] (fun _=>[]) X (Gj X hX) (by rw [lB,HRK.out];omega) (fun r hr=>by rw [o0_ r hr,HCK.out];omega) (fun i r hr=>⟨by
       have h1:=o0_ r (oE hr);have h2:=(oC.1 hr).1;rw [lB,HRK.out] at h2
       rw [h1,HCK.out];simp;omega,by simp⟩) (enters_of func111 (by kernel_rfl) rfl) (p8_ _ _) (HT.ext (HXD.trans hX))
      rw [g2_] at this;exact this
     have A5:Hid (∀ u tg X Y,bf kF 197 Y X.heap.size X.heap.size u tg (bF (cF xss R C))->aA wo X->aA X Y->Calls prog 109 #[u,.int .i64 (p:Int)] Y fun e Y'=>∃ av nv cv,e=.returned (.tuple #[.slice av nv cv,.agg #[.string (aB d.num),.string (aE d.den)]])/\aA X Y'/\aG (fun b=>b∈tg.map (·.1)\/u.ownBlock=some b) Y Y'):=fun u tg X Y hO hX hY=>by
      have hc:=F5_ (bF (cF xss R C)) p p u tg X Y hO hY (by rw [<- HCK.out];exact P6_ xss R C) (oK _) (by omega) (by rw [j5,lB,HRK.out];omega) (HOK R (oE (by rw [<- HNM.out.1];exact HR)) C (oE (by rw [<- HNM.out.2];exact HC))) (HT.ext (HXD.trans hX)) (fun e=>by
       have:=j5 (cF xss R C);rw [e,lB,HRK.out] at this
       simpa using this.symm)
      refine hc.mono ?_;rintro e Y' ⟨v,rfl,hR⟩;obtain ⟨av,cv,rfl,-,-⟩:=hR.lead.form;exact ⟨av,_,cv,by rw [hd];rfl,hR.ext,hR.keep⟩
     have rF:Hid (∀ u,aA wo u->u.cell? ⟨w.heap.size+1,0,none⟩=some (.int .i64 (p:Int))):=fun u hu=>(s8.trans hu).cell zw.bk.cell;clear hd;refine S5_ (fun u=>u.cell? ⟨w.heap.size+1,0,none⟩=some (.int .i64 (p:Int))/\Hid (aA wo u)) 9 (by kernel_rfl) (by kernel_rfl) (by rintro ⟨_,_,h⟩;exact absurd (show Exit.outgrown=Exit.normal from h.1) (by simp)) ⟨((s8.trans (aA.drew wo)).cell zw.bk.cell),aA.drew wo⟩ (fun oh=>?_);obtain ⟨wd,By⟩:=oc wo.drew;rw [<- By] at oh |-;clear By;refine rA [0,2] ?_
     iterate 2 ((first|(refine rL (v:=?_) (by rfl) (Or.inl ⟨by rfl,?_⟩) ?_;rotate_left;·((intro w' pO);(try dsimp only at pO);(try go_simp);(try with_reducible rfl)))|(refine rW (v:=?_) (by rfl) (Or.inl ⟨by rfl,?_⟩) ?_;rotate_left;·((intro w');(try go_simp);(try with_reducible rfl))));(try simp only [Act.put,aP,aQ,aR]))
     refine rE ?_;refine f5_ 1 7 (by kernel_rfl) rfl rfl (fun K hK=>?pB) (fun K hK=>?pA)
     case' pB =>
      go_simp
      (go_at_call 110;refine (HROW _ oh.2).mono ?_)
      rintro e Y ⟨u1,Jw,rfl,C6,hE1⟩;have HO1:=oA C6;have HY1:=oA hE1;have HXR:=oA oh.2;have hs1:=hE1.size;clear hE1 C6;go_wp2_with fail;refine hK _ _ ⟨rF _ (aA.trans HXR HY1),aA.trans HXR HY1⟩ (fun oh=>?_);clear hK K
      (try simp only [Act.put,aP,aQ,aR])
      refine f5_ 3 7 (by kernel_rfl) rfl rfl (fun K hK=>?pB1) (fun K hK=>?pB2)
     case' pB1 =>
      go_simp
      (go_at_call 109;refine (A5 _ _ wd _ (HO1) HXR (HY1)).mono ?_)
      rintro e Z ⟨av,nv,cv,rfl,hE2,zl⟩;have HZ:=oA hE2;have HG:=oA zl;have HXZ:=oA (aA.trans HXR hE2);clear hE2 zl;go_wp2_with fail;refine hK _ _ ⟨rF _ HXZ,HXZ⟩ (fun oh=>?_);clear hK K
      (try simp only [Act.put,aP,aQ,aR])
      refine rA [4,5,6] ?_
      iterate 3 ((refine rW (v:=?_) (by rfl) (Or.inl ⟨by rfl,?_⟩) ?_;rotate_left;·((intro w');(try go_simp);(try with_reducible rfl)));(try simp only [Act.put,aP,aQ,aR]))
      refine rE ?_;refine dh 7 (by kernel_rfl) rfl (fun K hK=>?_);go_simp;obtain ⟨B,hB⟩:=oc Z.heap.size;obtain ⟨X1,wH,oz,hs3,pf⟩:=dU Z (.string ⟨#[]⟩) (.string ⟨#[]⟩) 152;rw [wH];rw [<- hB] at pf;rw [show (Z).heap.size=B from hB.symm];have HBX:Hid (af B X1):=⟨_,_,pf⟩;have HBL:Hid (wo.heap.size<=B):=(by unfold Hid;rw [hB];exact oh.2.size);have Hq:Hid (B=Z.heap.size):=hB;have HY3:=oA oz;have HX3:=oA (aA.trans oh.2 oz);clear wH oz hs3 pf hB;refine hK _ _ ⟨rF _ HX3,HX3⟩ (fun oh=>?_);clear hK K
      (try simp only [Act.put,aP,aQ,aR])
      refine tW (v:=?_) 8 rfl (Or.inl ⟨by rfl,?_⟩) ?_;rotate_left;·((intro w');(try go_simp);(try with_reducible rfl))
      (try simp only [Act.put,aP,aQ,aR])
      have s9:Hid (af B X1):=HBX.out;obtain ⟨x0,x1,s0,s1,f0,f1⟩:=s9.open;have HXF:=oA oh.2;refine fw 9 (by kernel_rfl) (by kernel_rfl) (by kernel_rfl) rfl (fun K hK=>?_);go_simp;refine hK _ _ ?_;clear hK K s0 s1 f0 f1
      (try simp only [Act.put,aP,aQ,aR])
      obtain ⟨F,hF⟩:=oc ((X1.setCell ⟨B,0,none⟩ (.string (aB d.num))).setCell ⟨B,1,none⟩ (.string (aE d.den)));have G8:Hid (cS F B d):=(by rw [hF];exact s9.res);have HFX:Hid (aA wo F):=(by rw [hF];exact eH HXF HBL);rw [<- hF];clear hF oh HXF s9
     case' pB2 =>
      go_simp;obtain ⟨B,hB⟩:=oc Y.heap.size;obtain ⟨X1,wH,oz,hs3,pf⟩:=dU Y (.string ⟨#[]⟩) (.string ⟨#[]⟩) 152;rw [wH];rw [<- hB] at pf;rw [show (Y).heap.size=B from hB.symm];have HBX:Hid (af B X1):=⟨_,_,pf⟩;have HBL:Hid (wo.heap.size<=B):=by unfold Hid;rw [hB];exact oh.2.size
      have Hq:Hid (B=Y.heap.size):=hB;have HY3:=oA oz;have HX3:=oA (aA.trans oh.2 oz);clear wH oz hs3 pf hB;refine hK _ _ ⟨rF _ HX3,HX3⟩ (fun oh=>?_);clear hK K
      (try simp only [Act.put,aP,aQ,aR])
      refine dh 3 (by kernel_rfl) rfl (fun K hK=>?_);go_simp
      (go_at_call 109;refine (A5 _ _ wd _ (HO1.ext HY3) HXR (HY1.trans HY3)).mono ?_)
      rintro e Z ⟨av,nv,cv,rfl,hE2,zl⟩;have HZ:=oA hE2;have HG:=oA zl;have HXZ:=oA (aA.trans HXR hE2);clear hE2 zl;go_wp2_with fail;refine hK _ _ ⟨rF _ HXZ,HXZ⟩ (fun oh=>?_);clear hK K
      (try simp only [Act.put,aP,aQ,aR])
      refine rA [4,5,6,8] ?_
      iterate 4 ((refine rW (v:=?_) (by rfl) (Or.inl ⟨by rfl,?_⟩) ?_;rotate_left;·((intro w');(try go_simp);(try with_reducible rfl)));(try simp only [Act.put,aP,aQ,aR]))
      refine rE ?_;have s9:Hid (af B Z):=by
       obtain ⟨x,y,hxy⟩:=HBX.out;refine ⟨x,y,(HG.block B (dr hxy) ?_).trans hxy⟩;have hbe:=Hq.out;rintro (hb | hb);·have:=(HO1.fresh hb).2;omega
       ·have:=(HO1.own.lt _ hb).2;omega
      obtain ⟨x0,x1,s0,s1,f0,f1⟩:=s9.open;have HXF:=oA oh.2;refine fw 9 (by kernel_rfl) (by kernel_rfl) (by kernel_rfl) rfl (fun K hK=>?_);go_simp;refine hK _ _ ?_;clear hK K s0 s1 f0 f1
      (try simp only [Act.put,aP,aQ,aR])
      obtain ⟨F,hF⟩:=oc ((Z.setCell ⟨B,0,none⟩ (.string (aB d.num))).setCell ⟨B,1,none⟩ (.string (aE d.den)));have G8:Hid (cS F B d):=(by rw [hF];exact s9.res);have HFX:Hid (aA wo F):=(by rw [hF];exact eH HXF HBL);rw [<- hF];clear hF oh HXF s9
     case' pA =>
      go_simp;obtain ⟨B,hB⟩:=oc wd.heap.size;obtain ⟨X1,wH,oz,hs3,pf⟩:=dU wd (.string ⟨#[]⟩) (.string ⟨#[]⟩) 152;rw [wH];rw [<- hB] at pf;rw [show (wd).heap.size=B from hB.symm];have HBX:Hid (af B X1):=⟨_,_,pf⟩;have HBL:Hid (wo.heap.size<=B):=by unfold Hid;rw [hB];exact oh.2.size
      have Hq:Hid (B=wd.heap.size):=hB;have HY3:=oA oz;have HX3:=oA (aA.trans oh.2 oz);clear wH oz hs3 pf hB;refine hK _ _ ⟨rF _ HX3,HX3⟩ (fun oh=>?_);clear hK K
      (try simp only [Act.put,aP,aQ,aR])
      refine dh 1 (by kernel_rfl) rfl (fun K hK=>?_);go_simp
      (go_at_call 110;refine (HROW _ oh.2).mono ?_)
      rintro e Y ⟨u1,Jw,rfl,C6,hE1⟩;have HO1:=oA C6;have HY1:=oA hE1;have HXR:=oA oh.2;have hs1:=hE1.size;clear hE1 C6;go_wp2_with fail;refine hK _ _ ⟨rF _ (aA.trans HXR HY1),aA.trans HXR HY1⟩ (fun oh=>?_);clear hK K
      (try simp only [Act.put,aP,aQ,aR])
      refine dh 3 (by kernel_rfl) rfl (fun K hK=>?_);go_simp
      (go_at_call 109;refine (A5 _ _ X1 _ (HO1) HXR (HY1)).mono ?_)
      rintro e Z ⟨av,nv,cv,rfl,hE2,zl⟩;have HZ:=oA hE2;have HG:=oA zl;have HXZ:=oA (aA.trans HXR hE2);clear hE2 zl;go_wp2_with fail;refine hK _ _ ⟨rF _ HXZ,HXZ⟩ (fun oh=>?_);clear hK K
      (try simp only [Act.put,aP,aQ,aR])
      refine rA [4,5,6,8] ?_
      iterate 4 ((refine rW (v:=?_) (by rfl) (Or.inl ⟨by rfl,?_⟩) ?_;rotate_left;·((intro w');(try go_simp);(try with_reducible rfl)));(try simp only [Act.put,aP,aQ,aR]))
      refine rE ?_;have s9:Hid (af B Z):=af.ext HBX HZ;obtain ⟨x0,x1,s0,s1,f0,f1⟩:=s9.open;have HXF:=oA oh.2;refine fw 9 (by kernel_rfl) (by kernel_rfl) (by kernel_rfl) rfl (fun K hK=>?_);go_simp;refine hK _ _ ?_;clear hK K s0 s1 f0 f1
      (try simp only [Act.put,aP,aQ,aR])
      obtain ⟨F,hF⟩:=oc ((Z.setCell ⟨B,0,none⟩ (.string (aB d.num))).setCell ⟨B,1,none⟩ (.string (aE d.den)));have G8:Hid (cS F B d):=(by rw [hF];exact s9.res);have HFX:Hid (aA wo F):=(by rw [hF];exact eH HXF HBL);rw [<- hF];clear hF oh HXF s9
     all_goals
      have HMF:=oA (zw.ext (s8.trans HFX));obtain ⟨vo,py,hown⟩:=HMF.out.out;have t0:=py.cell;have t1:=G8.cells.1;have HBO:=oA py;have HOWN:=oA hown;have vd:Hid (w.heap.size≠wz.heap.size/\w.heap.size+1≠wz.heap.size):=(by have:=rN.2;exact ⟨by omega,by omega⟩);have HLL:Hid ((eJ xss p i++fY xss p R j).length<8000000):=Z2L xss p i j R (by rw [<- HNM.out.1];exact HSI.2.2) (by rw [<- HNM.out.2];exact HSJ.2.2);have HNX:Hid (eJ xss p i++fY xss p R (j+1)=(eJ xss p i++fY xss p R j)++[d.num]):=by
       unfold Hid;rw [i3_ (C:=C) (by rw [<- HNM.out.2];exact HC.out),List.append_assoc];unfold iU;rw [<- HD0.out]
      obtain ⟨L,hL⟩:=oc (eJ xss p i++fY xss p R j);rw [<- hL] at HMF HOWN HLL HNX;have MR:Hid (w.heap.size<=F.heap.size):=HMF.old.size;clear py hown hL
      gi_wp2_with (gi_at_builtin;go_must (refine Y5_ rfl (by intro c h;cases h) (fun K hK=>?_);refine u2_ F _ _ rfl w.heap.size vo L d.num #[.string (aB d.num)] 53 rfl HOWN (by rfl) rfl HLL MR ?_))
      intro v' w9 qO oo;obtain ⟨xF,hold,s0,s1⟩:=HMF.push HBO HOWN d.num qO oo vd.1 vd.2;obtain ⟨gv,cv',tz⟩:=ownsRow_succ qO;subst tz;rw [<- HNX.out] at xF;have HPU:=oA xF;have HOL:=oA (((cO.ext (n0:=w.heap.size) (Bo:=wz.heap.size) (s8.trans HFX))).trans hold);have HBW:=oA zw.box;clear xF hold qO oo t0 t1;refine hK _ _ ?_;clear hK K
      gi_wp2_with fail
      exact ⟨HOL.keepF HBW.2,HOL.keepT HBW.1,HPU,Gp.trans HOL⟩
end Go.Proofs.YtjlkkofmojgipaaGreatDoor
namespace Go.Proofs.YtjlkkofmojgipaaGreatDoor
open Go.RowKit Go.Proofs.Tryz
theorem Z00 {n:Nat}:∀ {l:oe},(∀ r∈l,r.length=n/\n<=12/\Z6B r)->ib n l=0
 | [],_=>rfl
 | r::l,h=>by
  obtain ⟨h1,h2,h3⟩:=h r (by simp);unfold ib
  rw [if_neg (by omega),if_pos h1,if_neg (by
   rw [Bool.not_eq_true,List.any_eq_false];intro x hx;have:=(nQ x).2 (h3 x hx)
   simp [this])]
  exact Z00 fun q hq=>h q (by simp [hq])
theorem Z3q {xss:oe} {n:Nat} (hl:xss.length<=12) (h:∀ r∈xss,r.length=n/\n<=12/\Z6B r):cK xss=0:=by
 unfold cK;rw [if_neg (by omega)];cases xss with
 | nil=>rfl
 | cons r l =>
  have e:((r::l).headD []).length=n:=(h r (by simp)).1;rw [e];exact Z00 h
theorem z5_ {xss:oe} {n:Nat} (h:∀ r∈xss,r.length=n) (hne:xss≠[]):bZ xss=n:=by
 cases xss with
 | nil=>exact absurd rfl hne
 | cons r l=>exact h r (by simp)
theorem c4_ {xss:oe} (hE:cK xss=0):bY (bZ xss) (bF xss):=Z2F fun r hr=>((jd hE).2 r hr).1
theorem I4_ {xss:oe} {k:Nat} {R S:List Nat} (hR:R.length=k) (hS:S.length=k) :
  (ai (bF (cF xss R S)) k).det=aL k (fun a b=>aF (bF xss) (R.getD a 0) (S.getD b 0)):=by
 have h:=Z5Y (m:=bF (cF xss R S)) (n:=k) (by rw [<- hS];exact P6_ xss R S) (by rw [j5,lB];exact hR);rw [h];refine cA fun a b ha hb=>?_;rw [Z5U (oB (by omega:a<R.length)) (oB (by omega:b<S.length)),nf];have e1:R.getD a 0=R[a]:=by rw [oD,oB (by omega:a<R.length)];rfl
 have e2:S.getD b 0=S[b]:=by rw [oD,oB (by omega:b<S.length)];rfl
 rw [e1,e2];rfl
theorem I5_ {xss:oe} (hE:cK xss=0) {k:Nat} (vt:k<=xss.length) (hk2:k<=bZ xss):(cE xss k).any (fun z=>decide (z≠0))=decide (k<=gP xss):=by
 obtain ⟨hl,qv⟩:=jd hE;have yn:bZ xss<=12:=by
  cases xss with
  | nil=>show 0<=12;omega
  | cons r l=>exact (qv r (by simp)).2.1
 obtain ⟨s1,-,-⟩:=lG (n:=xss.length) hl vt;obtain ⟨s2,-,-⟩:=lG (n:=bZ xss) yn hk2;by_cases h:k<=gP xss
 ·rw [oT h,List.any_eq_true];obtain ⟨R,hR,S,hS,h1,h2,h3⟩:=h2_ (c4_ hE) h;rw [j5] at hR;refine ⟨iU xss k R S,?_,oT ?_⟩
  ·unfold cE;rw [List.mem_flatMap];exact ⟨R,hR,List.mem_map.2 ⟨S,hS,rfl⟩⟩
  ·unfold iU;intro e;rw [Rat.num_eq_zero,I4_ h1 h2] at e;exact h3 e
 ·rw [oS h,List.any_eq_false];intro z hz;unfold cE at hz;rw [List.mem_flatMap] at hz;obtain ⟨R,hR,hz⟩:=hz;obtain ⟨S,hS,rfl⟩:=List.mem_map.1 hz;have h1:=s1.len R hR;have h2:=s2.len S hS;have hg:∀ (L:List Nat) a,a<L.length->L.getD a 0∈L:=fun L a ha=>by
   rw [oD,oB ha];exact List.getElem_mem ha
  have h0:iU xss k R S=0:=by
   unfold iU;rw [Rat.num_eq_zero,I4_ h1 h2];exact o5_ (c4_ hE) (by show gP xss<k;omega) (ρ:=fun a=>R.getD a 0) (κ:=fun b=>S.getD b 0) (fun a ha=>by rw [j5];exact s1.lt R hR _ (hg R a (by omega))) (fun b hb=>s2.lt S hS _ (hg S b (by omega)))
  simp [h0]
theorem Z4v {xss:oe} (hE:cK xss=0) (R S:List Nat):∀ r∈cF xss R S,∀ a∈r,-1000000000<=a/\a<=1000000000:=by
 intro r hr a ha;unfold cF at hr;obtain ⟨i,-,rfl⟩:=List.mem_map.1 hr;obtain ⟨j,-,rfl⟩:=List.mem_map.1 ha;have h:=i0_ (xss:=xss) (fun r hr=>((jd hE).2 r hr).2.2) i j;obtain ⟨z,h1,h2⟩:=h;rw [nf] at h1;have h3:aV xss i j=z:=congrArg Rat.num h1;have h4:(xss.getD i []).getD j 0=z:=h3;rw [h4];omega
theorem N8_ {xss:oe} (hE:cK xss=0) {k:Nat} (vt:k<=xss.length) (hk2:k<=bZ xss) :
  ∀ R∈be xss.length k,∀ S∈be (bZ xss) k,∀ c,c<k->gV 2500 (ai (bF (cF xss R S)) c).m/\RS 9000 (ai (bF (cF xss R S)) c).det:=by
 intro R hR S hS c _;obtain ⟨hl,qv⟩:=jd hE;obtain ⟨s1,-,-⟩:=lG (n:=xss.length) hl vt;exact Z34 (P6_ xss R S) (by rw [j5,lB,s1.len R hR];omega) (i0_ (Z4v hE R S)) c
theorem t3_:∀ n,n<5->∀ m,m<5->∀ k,k<5->k<=n->k<=m->du n k*du m k<=1000:=by decide +kernel
theorem Z5R:∀ k,k<7->be k k=[List.range k]:=by decide +kernel
theorem c5_ {n k:Nat} {l:oe} (hn:n<7) (hk:k<=n) (hl:l.length=k) (hc:bZ l=n):cE l k=eK n k l:=by
 unfold cE eK;rw [hl,hc,Z5R k (by omega),<- a2_ hn hk];show (List.map _ ((aS n k).map az))++[]=_;rw [List.append_nil,List.map_map];refine List.map_congr_left fun J hJ=>?_;show iU l k (List.range k) (az J)=qZ l k J;have hlen:(az J).length=k:=by
  have h9:az J∈be n k:=by rw [<- a2_ hn hk];exact List.mem_map_of_mem hJ
  exact (lG (by omega) hk).1.len _ h9
 unfold iU qZ;rw [I4_ (by simp) hlen];congr 1;unfold qQ ak;refine cA fun a b ha hb=>?_;rw [nf];unfold bS aV aD;rw [oD (l:=List.range k),List.getElem?_range ha];rfl
theorem Z3T:∀ n,n<5->∀ k,k<=n->eN 8 ((bO n k).length+1)+1<=400000000/\(gN n (eN 8 (bO n k).length) 0).1+1<=400000000/\(gN n (eN 8 (bO n k).length) 0).2+1<=400000000:=by decide +kernel
theorem b3_:∀ n,n<7->eK n 0 []=[1]:=by decide +kernel
def dH (D:Int) (v:og):List Int:=v.map (D*·)
theorem mT (D:Int) (v:og):(dH D v).length=v.length:=by unfold dH;simp
theorem mS (D:Int) (v:og) (c:Nat):(dH D v).getD c 0=D*v.getD c 0:=by
 unfold dH;rw [oD,oD,oF];cases v[c]? with
 | none=>simp
 | some a=>rfl
theorem Z2b {v:og} {c:Nat} (h:v.length<=c):v.getD c 0=0:=by
 rw [oD,oL h];rfl
theorem J1_ (r:og) (D:Int) (v:og):∀ n,bX r (dH D v) n=D*bX r v n
 | 0=>by unfold bX;simp
 | n+1=>by
  unfold bX;rw [J1_ r D v n,mS,Int.mul_add];have e:r.getD n 0*(D*v.getD n 0)=D*(r.getD n 0*v.getD n 0):=by rw [<- Int.mul_assoc,Int.mul_comm (r.getD n 0) D,Int.mul_assoc]
  rw [e]
theorem Z5X (x:Rat):x*((x.den:Int):Rat)=(x.num:Rat):=by
 have h1:(x.num:Rat) / ((x.den:Nat):Rat)=x:=by rw [<- Rat.mkRat_eq_div];exact Rat.mkRat_self x
 have h2:((x.den:Nat):Rat)≠0:=by
  intro h;have:x.den=0:=by exact_mod_cast h
  exact x.den_nz this
 have h3:=Rat.div_mul_cancel (a:=(x.num:Rat)) h2;rw [h1] at h3;rw [Rat.intCast_natCast];exact h3
theorem t4_ (x:Nat->Rat):∀ d,∃ D:Int,D≠0/\∃ z:Nat->Int,∀ l,l<d->(D:Rat)*x l=(z l:Rat)
 | 0=>⟨1,by decide,fun _=>0,fun l hl=>by omega⟩
 | d+1=>by
  obtain ⟨D,h0,z,hz⟩:=t4_ x d;have Fe:((x d).den:Int)≠0:=by have:=(x d).den_nz;omega
  refine ⟨D*((x d).den:Int),Int.mul_ne_zero h0 Fe,fun l=>if l=d then D*(x d).num else z l*((x d).den:Int),fun l hl=>?_⟩;by_cases qw:l=d
  ·simp only [if_pos qw];rw [qw,Rat.intCast_mul,Rat.intCast_mul];have e:=Z5X (x d);grind
  ·simp only [if_neg qw];have:=hz l (by omega);rw [Rat.intCast_mul,Rat.intCast_mul];grind
theorem Z59 {n:Nat} {m:oe} (hW:bB n m) (idx:Nat->Nat) (z:Nat->Int):∀ d,(∀ l,l<d->idx l<m.length)->∃ w,Sp n (aK 0 m) w/\∀ c,((w.getD c 0:Int):Rat)=aI d fun l=>(z l:Rat)*(((aD m (idx l)).getD c 0:Int):Rat)
 | 0,_=>⟨_,.zero,fun c=>by rw [fo];rfl⟩
 | d+1,h=>by
  obtain ⟨w,h1,h2⟩:=Z59 hW idx z d fun l hl=>h l (by omega);have hm:aK 0 m (aD m (idx d)):=bA (Nat.zero_le _) (h d (by omega));refine ⟨_,.less (-(z d)) h1 (.mem hm),fun c=>?_⟩;rw [et _ (by rw [h1.len (c8 hW),c8 hW _ hm])];show _=aI d (fun l=>(z l:Rat)*(((aD m (idx l)).getD c 0:Int):Rat))+_;rw [<- h2 c,Rat.intCast_sub,Rat.intCast_mul,Rat.intCast_neg];grind
theorem Z51 {N:Nat} {S:og->Prop} {f:og->Rat} (hS:kK N S) (h0:f (List.replicate N 0)=0) (hl:∀ (q:Int) a b,b.length=a.length->f (aW q a b)=f a-(q:Rat)*f b) (h:∀ r,S r->f r=0) {w:og} (hw:Sp N S w):f w=0:=by
 induction hw with
 | zero=>exact h0
 | mem hm=>exact h _ hm
 | less q a b iha ihb=>rw [hl q _ _ (by rw [a.len hS,b.len hS]),iha,ihb];grind
def iL (d:Nat) (x:Nat->Rat) (idx:Nat->Nat) (w:og):Rat:=aI d fun l=>x l*((w.getD (idx l) 0:Int):Rat)
theorem t5_ (d:Nat) (x:Nat->Rat) (idx:Nat->Nat) (q:Int) {a b:og} (hl:b.length=a.length):iL d x idx (aW q a b)=iL d x idx a-(q:Rat)*iL d x idx b:=by
 unfold iL;have e:∀ l,l<d->x l*(((aW q a b).getD (idx l) 0:Int):Rat)=x l*((a.getD (idx l) 0:Int):Rat)+(-(q:Rat))*(x l*((b.getD (idx l) 0:Int):Rat)):=fun l _=>by
  rw [et q hl,Rat.intCast_sub,Rat.intCast_mul];grind
 rw [cG e,mV,ia];grind
theorem U8_ (d:Nat) (x:Nat->Rat) (idx:Nat->Nat) {w:og} (h:∀ l,l<d->w.getD (idx l) 0=0):iL d x idx w=0 :=
 O3_ d _ fun l hl=>by rw [h l hl];grind
theorem Z5d {h m:oe} {n d:Nat} {ps:Nat->Nat} (hw:bB n m) (hh:bP (m.length+n) h ps) (hs:bU (m.length+n) (aK 0 (bI n m)) (aK 0 h)) (hd:d<=h.length) (h1:∀ i,i<d->ps i<m.length) (h2:∀ i,d<=i->i<h.length->m.length<=ps i) {v:og} (hv:v.length=n) (hz:∀ u,ij n m u->bX u v n=0) :
  ∃ D:Int,D≠0/\Sp n (aK 0 m) (dH D v):=by
 obtain ⟨x,hx⟩:=mq (k:=d) (fun a b=>((aC h a (ps b):Int):Rat)) (fun a b pZ ha=>by
  have:aC h a (ps b)=0:=hh.2.zero a (by omega) (ps b) (hh.2.mono b a pZ (by omega))
  (try simp only);rw [this];rfl) (fun a ha e=>by
  have h4:aC h a (ps a)=0:=by exact_mod_cast e
  have:=hh.2.pos a (by omega);omega) (fun a=>((bX v ((aD h a).drop m.length) n:Int):Rat)) d (oK _)
 have hc:∀ c,c<n->((v.getD c 0:Int):Rat)=aI d fun l=>x l*(((aD m (ps l)).getD c 0:Int):Rat):=by
  intro c hc
  have hF:=Z51 (f:=fun w=>((bX v (w.drop m.length) n:Int):Rat)-iL d x ps w) (c8 (d:=0) hh.1) (by
    (try simp only)
    rw [U8_ d x ps fun l _=>fo _ _,List.drop_replicate,lq];grind) (fun q a b hl=>by
    (try simp only)
    rw [t5_ d x ps q hl,V2_,lp _ _ (by rw [List.length_drop,List.length_drop,hl]),Rat.intCast_sub,Rat.intCast_mul];grind) (by
    rintro r ⟨i,-,hi,rfl⟩
    (try simp only)
    by_cases hid:i<d
    ·have:=hx i (by omega) hid;unfold iL;rw [this];have e:(aI d fun l=>x l*(fun a b=>((aC h a (ps b):Int):Rat)) i l)=aI d fun l=>x l*(((aD h i).getD (ps l) 0:Int):Rat):=rfl;rw [e];grind
    ·rw [U8_ d x ps fun l hl=>hh.2.zero i hi (ps l) (by have:=h1 l hl;have:=h2 i (by omega) hi;omega)]
     have hA:=(Z50 hh hs hd h1 h2 ((aD h i).drop m.length)).1 (by
      have e:=gS (h:=h) (k:=m.length) (d:=d) (i:=i-d) (by omega);rw [show d+(i-d)=i by omega] at e
      rw [<- e];exact .mem (bA (Nat.zero_le _) (by simp;omega)))
     rw [jT,hz _ hA];grind)
   (hs.1 _ (bA (Nat.zero_le c) (by rw [fP];exact hc)))
  (try simp only at hF)
  rw [lL hc,List.drop_left' (by simp),J2_ _ _ _ hc,if_pos hc,<- lL hc] at hF;have e:iL d x ps (aD (bI n m) c)=aI d fun l=>x l*(((aD m (ps l)).getD c 0:Int):Rat):=cG fun l hl=>by rw [R4_ hc (h1 l hl)]
  rw [e] at hF;grind
 obtain ⟨D,hD,z,hzz⟩:=t4_ x d;obtain ⟨w,pE,qU⟩:=Z59 hw ps z d h1;refine ⟨D,hD,?_⟩;have:w=dH D v:=by
  have hwl:=pE.len (c8 hw);refine y2_ (by rw [hwl,mT,hv]) fun c=>?_;by_cases s6:c<n
  ·have e1:=qU c;have e2:(aI d fun l=>(z l:Rat)*(((aD m (ps l)).getD c 0:Int):Rat))=(D:Rat)*((v.getD c 0:Int):Rat):=by
    rw [hc c s6,<- ia];exact cG fun l hl=>by rw [<- hzz l hl];grind
   rw [e2] at e1;rw [mS]
   exact_mod_cast e1
  ·rw [Z2b (by rw [hwl];omega),Z2b (by rw [mT,hv];omega)]
 rw [<- this];exact pE
theorem Z4d {h B:oe} {n d:Nat} {ps qs:Nat->Nat} (hB:bP n B qs) (hh:bP (B.length+n) h ps) (hs:bU (B.length+n) (aK 0 (bI n B)) (aK 0 h)) (hd:d<=h.length) (h1:∀ i,i<d->ps i<B.length) (h2:∀ i,d<=i->i<h.length->B.length<=ps i):d=B.length:=by
 have hle:d<=B.length:=by
  have key:∀ i,i<d->i<=ps i:=by
   intro i
   induction i with
   | zero=>intro _;omega
   | succ i ih=>intro hi;have a1:=ih (by omega);have a2:=hh.2.mono i (i+1) (by omega) (by omega);omega
  rcases Nat.eq_zero_or_pos d with h0 | h0;·omega
  ·have a1:=key (d-1) (by omega);have a2:=h1 (d-1) (by omega);omega
 refine Classical.byContradiction fun hne=>?_;have hlt:d<B.length:=by omega
 obtain ⟨q,hq,KS⟩:∃ q,q<B.length/\∀ i,i<d->ps i≠q:=by
  refine Classical.byContradiction fun xG=>?_;have hex:∀ q,q<B.length->∃ i,i<d/\ps i=q:=fun q hq=>Classical.byContradiction fun hn=>xG ⟨q,hq,fun i hi he=>hn ⟨i,hi,he⟩⟩
  have hf:∃ f:Nat->Nat,∀ q,q<B.length->f q<d/\ps (f q)=q:=⟨fun q=>if hq:q<B.length then Classical.choose (hex q hq) else 0,fun q hq=>by
   simp only [dif_pos hq];exact Classical.choose_spec (hex q hq)⟩
  obtain ⟨f,hf⟩:=hf;rcases Nat.eq_zero_or_pos d with h0 | h0;·have:=(hf 0 (by omega)).1;omega
  ·obtain ⟨d',rfl⟩:∃ d',d=d'+1:=⟨d-1,by omega⟩;obtain ⟨a,b,a1,a2,a3⟩:=b2_ (d'+1) f fun a ha=>(hf a (by omega)).1;have e1:=(hf a (by omega)).2;have e2:=(hf b (by omega)).2;rw [a3] at e1;omega
 obtain ⟨x,hx⟩:=mq (k:=d) (fun a b=>((aC h a (ps b):Int):Rat)) (fun a b pZ ha=>by
  have:aC h a (ps b)=0:=hh.2.zero a (by omega) (ps b) (hh.2.mono b a pZ (by omega))
  (try simp only);rw [this];rfl) (fun a ha e=>by
  have h4:aC h a (ps a)=0:=by exact_mod_cast e
  have:=hh.2.pos a (by omega);omega) (fun a=>- ((aC h a q:Int):Rat)) d (oK _)
 have hc:∀ c,c<n->(((aD B q).getD c 0:Int):Rat)+(aI d fun l=>x l*(((aD B (ps l)).getD c 0:Int):Rat))=0:=by
  intro c hc
  have hF:=Z51 (f:=fun w=>((w.getD q 0:Int):Rat)+iL d x ps w) (c8 (d:=0) hh.1) (by
    (try simp only)
    rw [U8_ d x ps fun l _=>fo _ _,fo];grind) (fun r a b hl=>by
    (try simp only)
    rw [t5_ d x ps r hl,et r hl,Rat.intCast_sub,Rat.intCast_mul];grind) (by
    rintro r ⟨i,-,hi,rfl⟩
    (try simp only)
    by_cases hid:i<d
    ·have:=hx i (by omega) hid;have e:(aI d fun l=>x l*(fun a b=>((aC h a (ps b):Int):Rat)) i l)=iL d x ps (aD h i):=rfl;rw [e] at this;rw [<- this];have e2:(aD h i).getD q 0=aC h i q:=rfl;rw [e2];grind
    ·rw [U8_ d x ps fun l hl=>hh.2.zero i hi (ps l) (by have:=h1 l hl;have:=h2 i (by omega) hi;omega)];have e:(aD h i).getD q 0=0:=hh.2.zero i hi q (by have:=h2 i (by omega) hi;omega)
     rw [e];grind)
   (hs.1 _ (bA (Nat.zero_le c) (by rw [fP];exact hc)))
  (try simp only at hF)
  rw [R4_ hc hq] at hF;have e:iL d x ps (aD (bI n B) c)=aI d fun l=>x l*(((aD B (ps l)).getD c 0:Int):Rat):=cG fun l hl=>by rw [R4_ hc (h1 l hl)]
  rw [e] at hF;exact hF
 have pJ:∀ i j,i<j->j<B.length->(aD B j).getD (qs i) 0=0:=fun i j pY hj=>hB.2.zero j hj (qs i) (hB.2.mono i j pY hj);have hp0:∀ i,i<B.length->(((aD B i).getD (qs i) 0:Int):Rat)≠0:=fun i hi e=>by
  have h4:aC B i (qs i)=0:=by unfold aC;exact_mod_cast e
  have:=hB.2.pos i hi;omega
 have pG:∀ j,j<=d->∀ l,l<j->ps l<q->x l=0:=by
  intro j
  induction j with
  | zero=>intro _ l hl;omega
  | succ j ih =>
   intro hj l hl hlq;by_cases Ki:l<j;·exact ih (by omega) l Ki hlq
   ·obtain rfl:l=j:=(by omega);have e:=hc (qs (ps l)) (hB.2.lt _ (h1 l (by omega)));rw [pJ (ps l) q hlq hq,n7 (k:=l) (by omega) fun i hi hne=>?_] at e
    ·rcases Rat.mul_eq_zero.1 (by grind:x l*(((aD B (ps l)).getD (qs (ps l)) 0:Int):Rat)=0) with h0 | h0;·exact h0
     ·exact absurd h0 (hp0 _ (h1 l (by omega)))
    ·rcases Nat.lt_or_ge i l with hil | hil
     ·have:=hh.2.mono i l hil (by omega);rw [ih (by omega) i hil (by omega)];grind
     ·rw [pJ (ps l) (ps i) (hh.2.mono l i (by omega) (by omega)) (h1 i hi)];grind
 have e:=hc (qs q) (hB.2.lt q hq);rw [O3_ d _ fun l hl=>?_] at e;·exact hp0 q hq (by grind)
 ·rcases Nat.lt_trichotomy (ps l) q with sW | sW | sW;·rw [pG d (oK _) l hl sW];grind
  ·exact absurd sW (KS l hl)
  ·rw [pJ q (ps l) sW (h1 l hl)];grind
theorem G2_ {n c d:Nat}:∀ {F F':Nat} {m:oe} {r:oe×Bool},F<=F'->dI n c d F m=some r->dI n c d F' m=some r
 | 0,_,m,r,_,h=>by rw [dI] at h;cases h
 | F+1,0,m,r,hl,_=>by omega
 | F+1,F'+1,m,r,hl,h=>by
  rw [dI] at h |-;by_cases ho:bH n m=true
  ·rw [if_pos ho] at h |-;cases hb:an c d m (m.length-d) with
   | none=>rw [hb] at h;exact h
   | some a =>
    rw [hb] at h;simp only at h |-;cases pP:cB c d (a8 m d a) (m.length-(d+1)) with
    | none=>rw [pP] at h;cases h
    | some p =>
     obtain ⟨m2,rest⟩:=p;rw [pP] at h;cases rest with
     | true=>exact G2_ (by omega) h
     | false=>exact h
  ·rw [if_neg ho] at h;cases h
theorem E3_ {n F F':Nat} (hl:F<=F'):∀ {k c d:Nat} {m:oe} {r:oe×Nat},b9 n F k c d m=some r->b9 n F' k c d m=some r
 | 0,c,d,m,r,h=>by rw [b9] at h |-;exact h
 | k+1,c,d,m,r,h=>by
  rw [b9] at h |-;by_cases hd:d<m.length
  ·rw [if_pos hd] at h |-;cases hs:dI n c d F m with
   | none=>rw [hs] at h;cases h
   | some p =>
    rw [hs] at h;rw [G2_ hl hs];exact E3_ hl h
  ·rw [if_neg hd] at h |-;exact h
theorem V0_ {n F F' cols:Nat} {m R:oe} (hl:F<=F') (h:dx n F cols m=some R):dx n F' cols m=some R:=by
 unfold dx at h |-;cases hc:b9 n F cols 0 0 m with
 | none=>rw [hc] at h;cases h
 | some p=>rw [hc] at h;rw [E3_ hl hc];exact h
theorem Z2S {n:Nat} {m:oe} {b:Nat} (hw:∀ x∈m,x.length=n) (hb:∀ x∈m,bJ (10^b) x) (hs:b+1<=1000000000):bH n m=true:=by
 unfold bH;rw [List.all_eq_true];intro x hx;rw [Bool.and_eq_true,decide_eq_true_iff];refine ⟨hw x hx,?_⟩;rw [List.all_eq_true];exact fun y hy=>mR hs (by omega) (Nat.lt_of_le_of_lt (hb x hx y hy) (Nat.pow_lt_pow_right (by decide) (by omega)))
theorem Z3A {n N:Nat} {m:oe} (h1:1<=N) (hb:∀ x∈m,bJ N x):∀ x∈bI n m,bJ N x:=by
 intro x hx y hy;unfold bI at hx;obtain ⟨c,hc,rfl⟩:=List.mem_map.1 hx;rcases List.mem_append.1 hy with hy | hy
 ·obtain ⟨r,hr,rfl⟩:=List.mem_map.1 hy;exact (hb r hr).getD c
 ·rcases List.mem_or_eq_of_mem_set hy with hy | hy;·rw [(List.mem_replicate.1 hy).2];simp
  ·rw [hy];simpa using h1
theorem Z4U {n:Nat} {m:oe} (hm:bB n m) {r v:og} (hr:Sp n (aK 0 m) r) (hv:ij n m v):bX r v n=0:=by
 have hl:=c8 (d:=0) hm
 induction hr with
 | zero=>rw [jT,lq]
 | mem h=>obtain ⟨j,-,hj,rfl⟩:=h;exact hv.2 j hj
 | less q a b iha ihb=>rw [jT,lp _ _ (by rw [a.len hl,b.len hl]),jT,jT v,iha,ihb];simp
def Sat (n:Nat) (m:oe) (v:og):Prop:=v.length=n/\∃ D:Int,D≠0/\Sp n (aK 0 m) (dH D v)
theorem Z1I:gH (fun x=>x=0):=⟨rfl,fun x y q hx hy=>by rw [hx,hy];grind⟩
theorem Z2M {n k:Nat} {T m:oe} (hT:bB n T) (hk:T.length<k) (hs:∀ i,i<k->Sp n (aK 0 T) (aD m i)) (S:Nat->Nat):ak k S (aD m)=0 :=
 lV (gO n k S) Z1I (c8 hT) (fun V hV=>by
  obtain ⟨f,hf⟩:=H3_ hV;obtain ⟨a,b,pZ,hb,he⟩:=i8_ T.length k f hk fun a ha=>(hf a ha).1
  exact (gO n k S).eq V a b (by omega) hb (by omega) (by rw [<- (hf a (by omega)).2,<- (hf b hb).2,he])) k (oK _) (aD m) hs (fun a h1 h2=>by omega)
theorem Z2v (n:Nat) (q D:Int) (v:og) (hv:v.length=n):aW (-D) (List.replicate n 0) v=dH D v:=by
 apply List.ext_getElem;·rw [eU];unfold dH;simp [hv]
 ·intro i h1 h2;have e1:(aW (-D) (List.replicate n 0) v).getD i 0=(dH D v).getD i 0:=by
   rw [et (-D) (by simp [hv]),mS,oD,List.getElem?_replicate]
   split <;> simp <;> grind
  rw [oD,oD,oB h1,oB h2] at e1;exact e1
theorem Sp.smul {n:Nat} {S:og->Prop} (hS:kK n S) {v:og} (h:Sp n S v) (D:Int):Sp n S (dH D v):=by
 have:=Sp.less (-D) (.zero (n:=n) (S:=S)) h;rw [Z2v n 0 D v (h.len hS)] at this;exact this
theorem Z53 {n:Nat} {A B:oe} {ap bs:Nat->Nat} (hA:bP n A ap) (hB:bP n B bs) (hs:∀ v,Sp n (aK 0 A) v->Sp n (aK 0 B) v):∃ f:Nat->Nat,∀ i,i<A.length->f i<B.length/\bs (f i)=ap i:=by
 have h:∀ i,∃ j,i<A.length->j<B.length/\bs j=ap i:=fun i=>by
  by_cases hi:i<A.length
  ·obtain ⟨j,t,h1,h2,h3,h4⟩:=Sp.lead hB (c:=ap i) (v:=aD A i) (by have:=hA.2.pos i hi;unfold aC at this;omega) (fun c' qp=>hA.2.zero i hi c' qp) B.length 0 (by omega) (hs _ (.mem (bA (Nat.zero_le i) hi)));exact ⟨j,fun _=>⟨h2,h3⟩⟩
  ·exact ⟨0,fun h=>absurd h hi⟩
 exact ⟨fun i=>Classical.choose (h i),fun i hi=>Classical.choose_spec (h i) hi⟩
theorem i9_ {n:Nat} {A B:oe} {ap bs:Nat->Nat} (hA:bP n A ap) (hB:bP n B bs) {f:Nat->Nat} (hf:∀ i,i<A.length->f i<B.length/\bs (f i)=ap i):∀ i,i<A.length->i<=f i
 | 0,_=>Nat.zero_le _
 | i+1,hi=>by
  have h1:=i9_ hA hB hf i (by omega);have h2:=hA.2.mono i (i+1) (by omega) hi;rw [<- (hf i (by omega)).2,<- (hf (i+1) hi).2] at h2;have h3:f i<f (i+1):=by
   by_cases e:f i<f (i+1);·exact e
   ·exfalso;by_cases e2:f i=f (i+1);·rw [e2] at h2;omega
    ·have:=hB.2.mono (f (i+1)) (f i) (by omega) (hf i (by omega)).1;omega
  omega
theorem Z6p {n:Nat} {A B:oe} {ap bs:Nat->Nat} (hA:bP n A ap) (hB:bP n B bs) (hs:∀ v,Sp n (aK 0 A) v->Sp n (aK 0 B) v):A.length<=B.length:=by
 obtain ⟨f,hf⟩:=Z53 hA hB hs;by_cases h:A.length=0;·omega
 ·have h1:=i9_ hA hB hf (A.length-1) (by omega);have h2:=(hf (A.length-1) (by omega)).1;omega
theorem Z4w {n:Nat} {A B:oe} {ap bs:Nat->Nat} (hA:bP n A ap) (hB:bP n B bs) (hs:∀ v,Sp n (aK 0 A) v->Sp n (aK 0 B) v) (hl:A.length=B.length):∀ i,i<A.length->ap i=bs i:=by
 obtain ⟨f,hf⟩:=Z53 hA hB hs;have hinc:=i9_ hA hB hf;have hst:∀ i,i+1<A.length->f i<f (i+1):=fun i hi=>by
  have h2:=hA.2.mono i (i+1) (by omega) hi;rw [<- (hf i (by omega)).2,<- (hf (i+1) hi).2] at h2;by_cases e:f i<f (i+1);·exact e
  ·exfalso;by_cases e2:f i=f (i+1);·rw [e2] at h2;omega
   ·have:=hB.2.mono (f (i+1)) (f i) (by omega) (hf i (by omega)).1;omega
 have hup:∀ t i,i+t<A.length->f i+t<=f (i+t):=by
  intro t
  induction t with
  | zero=>intro i _;exact oK _
  | succ t ih =>
   intro i hi;have h1:=ih i (by omega);have h2:=hst (i+t) (by omega);rw [show i+(t+1)=i+t+1 by omega];omega
 intro i hi;have h1:=hinc i hi;have h2:=hup (A.length-1-i) i (by omega);have h3:=(hf (A.length-1) (by omega)).1;rw [show i+(A.length-1-i)=A.length-1 by omega] at h2;have h4:f i=i:=by omega
 rw [<- (hf i hi).2,h4]
theorem b7_ {n:Nat} {A B:oe} {ap bs:Nat->Nat} (hA:bP n A ap) (hB:bP n B bs) (hs:∀ v,Sp n (aK 0 A) v->Sp n (aK 0 B) v) (hl:A.length=B.length):∀ (t:Nat),t<=A.length->∀ v,Sp n (aK 0 B) v->(∀ i,i<A.length-t->v.getD (ap i) 0=0)->∃ D:Int,D≠0/\Sp n (aK 0 A) (dH D v)
 | 0,_,v,hv,hz=>by
  have hp:=Z4w hA hB hs hl;have h0:v=List.replicate n 0:=Sp.small hB B.length 0 (by omega) hv fun i _ hi=>by
   rw [<- hp i (by omega),hz i (by omega)];have:=hB.2.pos i hi;rw [<- hp i (by omega)] at this;omega
  refine ⟨1,by decide,?_⟩;rw [show dH 1 v=v by unfold dH;rw [List.map_congr_left (g:=id) (fun x _=>by simp)];simp,h0];exact .zero
 | t+1,ht,v,hv,hz=>by
  obtain ⟨i,hi⟩:=oc (A.length-(t+1));have Ci:i<A.length:=by omega
  have H7:v.length=n:=hv.len (c8 hB.1);have hAl:=hA.1 i Ci;have JS:Sp n (aK 0 A) (aD A i):=.mem (bA (Nat.zero_le i) Ci);have hp:=hA.2.pos i Ci;obtain ⟨p,hpp⟩:=oZ (aC A i (ap i));obtain ⟨q,Dw⟩:=oZ (v.getD (ap i) 0);rw [hpp] at hp;have hsl:(dH p v).length=n:=by rw [mT];exact H7
  have hw:Sp n (aK 0 B) (aW q (dH p v) (aD A i)):=.less q (hv.smul (c8 hB.1) p) (hs _ JS);have By:∀ c,(aW q (dH p v) (aD A i)).getD c 0=p*v.getD c 0-q*aC A i c:=fun c=>by
   rw [et q (by rw [hsl];exact hAl),mS];rfl
  obtain ⟨D,hD,Lk⟩:=b7_ hA hB hs hl t (by omega) _ hw fun j hj=>by
   rw [By];by_cases e:j=i;·rw [e,hpp,Dw,Int.mul_comm];omega
   ·have vu:j<i:=(by omega);rw [hz j (by omega),hA.2.zero i Ci (ap j) (hA.2.mono j i vu Ci)];simp
  refine ⟨D*p,Int.mul_ne_zero hD (by omega),?_⟩;have h9:=Sp.less (-(D*q)) Lk JS;have e:aW (-(D*q)) (dH D (aW q (dH p v) (aD A i))) (aD A i)=dH (D*p) v:=by
   have sG:(aW q (dH p v) (aD A i)).length=n:=(by rw [eU,hsl]);apply List.ext_getElem;·rw [eU,mT,mT,sG,H7]
   ·intro c h1 h2;have e1:(aW (-(D*q)) (dH D (aW q (dH p v) (aD A i))) (aD A i)).getD c 0=(dH (D*p) v).getD c 0:=by
     rw [et _ (by rw [mT,sG];exact hAl),mS,mS,By];unfold aC;grind
    rw [oD,oD,oB h1,oB h2] at e1;exact e1
  rw [e] at h9;exact h9
theorem Z5e {n k:Nat} {X:og} {l:oe} {ps:Nat->Nat} (hn:n<7) (hk:k<=n) (vt:1<=k) (hH:bP n l ps) (hA:∀ i,i<l.length->∀ r∈dj n k X,bX r (aD l i) n=0) (hX:∃ J∈aS n k,ek n k X J≠0):l.length<=k:=by
 by_cases hd:l.length<=k;·exact hd
 exfalso;have hlt:∀ i,i<k->ps i<n:=fun i hi=>hH.2.lt i (by omega);have su:∀ i j,i<j->j<k->ps i<ps j:=fun i j h1 h2=>hH.2.mono i j h1 (by omega);have hz:∀ i,i<k->∀ c,c<ps i->aC l i c=0:=fun i hi c hc=>hH.2.zero i (by omega) c hc;have hP:=kv hn hk hlt su k (oK _);have h1:=h0_ hn hk (l:=l) (ps:=ps) (X:=X) hlt su hz (fun i hi=>by have:=hH.2.pos i (by omega);omega) (fun i hi=>hA i (by omega));have hq:qZ l k (cJ ps k)≠0:=by
  intro h9;have e1:qQ l k (cJ ps k)=ak k ps (aD l):=by
   unfold qQ ak;refine cA fun a b ha hb=>?_;unfold bS;show (((aD l a).getD ((az (cJ ps k)).getD b 0) 0:Int):Rat)=_;rw [mB hn hk hlt su b hb]
  have e2:=kB hH k (by omega);have e3:=(kD hH k (by omega)).1;rw [<- ja,h9,e2] at e1;have:da l ps k=0:=by exact_mod_cast e1.symm
  omega
 obtain ⟨J,hJ,C9⟩:=hX;have F8:ek n k X (cJ ps k)≠0:=by
  intro h9;have:=h1 J hJ;rw [h9,Int.zero_mul] at this;rcases Int.mul_eq_zero.1 this.symm with h | h;·exact hq h
  ·exact C9 h
 obtain ⟨l',sW⟩:=oc (l.drop 1);have hrow:∀ i,aD l' i=aD l (i+1):=fun i=>by
  rw [sW];unfold aD;rw [oD,oD,oU,Nat.add_comm]
 have sX:∀ i c,aC l' i c=aC l (i+1) c:=fun i c=>by unfold aC;rw [hrow]
 obtain ⟨qs,vO⟩:∃ qs:Nat->Nat,qs=fun i=>ps (i+1):=⟨_,rfl⟩;have vp:∀ i,i<k->qs i<n:=fun i hi=>by rw [vO];exact hH.2.lt (i+1) (by omega)
 have CW:∀ i j,i<j->j<k->qs i<qs j:=fun i j h1 h2=>by rw [vO];exact hH.2.mono (i+1) (j+1) (by omega) (by omega)
 have h2:=h0_ hn hk (l:=l') (ps:=qs) (X:=X) vp CW (fun i hi c hc=>by rw [sX];rw [vO] at hc;exact hH.2.zero (i+1) (by omega) c hc) (fun i hi=>by rw [sX,vO];have:=hH.2.pos (i+1) (by omega);show aC l (i+1) (ps (i+1))≠0;omega) (fun i hi r hr=>by rw [hrow];exact hA (i+1) (by omega) r hr);have h3:=h2 (cJ ps k) hP;have wL:qZ l' k (cJ ps k)=0:=by
  have e1:qQ l' k (cJ ps k)=0:=by
   unfold qQ ak;obtain ⟨k',rfl⟩:∃ k',k=k'+1:=⟨k-1,by omega⟩;show aI (k'+1) _=0;rw [<- n8 (k'+1)];refine cG fun i hi=>?_;have:bS (fun b=>(az (cJ ps (k'+1))).getD b 0) (aD l') i 0=0:=by
    unfold bS;show (((aD l' i).getD ((az (cJ ps (k'+1))).getD 0 0) 0:Int):Rat)=0;rw [mB hn hk hlt su 0 (by omega)];have h9:aC l' i (ps 0)=0:=by
     rw [sX];exact hH.2.zero (i+1) (by omega) (ps 0) (hH.2.mono 0 (i+1) (by omega) (by omega))
    unfold aC at h9;rw [h9];rfl
   rw [this];grind
  rw [<- ja] at e1
  exact_mod_cast e1
 rw [wL,Int.mul_zero] at h3;have vP:qZ l' k (cJ qs k)≠0:=by
  intro h9;rw [h9,Int.zero_mul] at h3;have IY:∀ c,c<n->aC l' 0 c=aC l 1 c:=fun c _=>sX 0 c;have e1:qQ l' k (cJ qs k)=ak k qs (aD l'):=by
   unfold qQ ak;refine cA fun a b ha hb=>?_;unfold bS;show (((aD l' a).getD ((az (cJ qs k)).getD b 0) 0:Int):Rat)=_;rw [mB hn hk vp CW b hb]
  have JL:bP n l' qs:=by
   have hll:l'.length=l.length-1:=(by rw [sW];simp);refine ⟨fun i hi=>by rw [hrow];exact hH.1 (i+1) (by omega),⟨fun i hi=>by rw [vO];exact hH.2.lt (i+1) (by omega),fun i j h1 h2=>by rw [vO];exact hH.2.mono (i+1) (j+1) (by omega) (by omega),fun i hi c hc=>by rw [sX];rw [vO] at hc;exact hH.2.zero (i+1) (by omega) c hc,fun i hi=>by rw [sX,vO];exact hH.2.pos (i+1) (by omega),fun i j h1 h2=>by rw [sX,sX,vO];exact hH.2.red (i+1) (j+1) (by omega) (by omega),fun i h1 h2 c hc=>by rw [sX];exact hH.2.rest (i+1) (by omega) (by omega) c hc⟩⟩
  have hll:l'.length=l.length-1:=by rw [sW];simp
  have e2:=kB JL k (by omega);have e3:=(kD JL k (by omega)).1;rw [<- ja,h9,e2] at e1;have:da l' qs k=0:=by exact_mod_cast e1.symm
  omega
 rcases Int.mul_eq_zero.1 h3.symm with h | h;·exact vP h
 ·exact F8 h
theorem Z13:eL (bF (j0 4 0 [1])) (bO 4 0).length=4:=by decide +kernel
theorem Z5v {N:Nat} {l:oe} (hb:∀ r∈l,∀ x∈r,x.natAbs<=N) (a c:Nat):((aD l a).getD c 0).natAbs<=N:=by
 cases h:l[a]? with
 | none =>
  have e:aD l a=[]:=by unfold aD;rw [oD,h];rfl
  rw [e];simp
 | some r =>
  rw [d_ h];exact lM.getD (N:=N) (hb r (oE h)) c
theorem X9_ {m:oe} (h4:∀ r∈m,r.length=4) (hk:m.length<=3) (hb:∀ r∈m,∀ x∈r,x.natAbs<=128):cE m m.length=eK 4 m.length m:=by
 by_cases h1:m.length=0
 ·obtain rfl:=List.eq_nil_of_length_eq_zero h1;show cE [] 0=eK 4 0 [];rw [b3_ 4 (by omega)];decide +kernel
 ·refine c5_ (by omega) (by omega) rfl (z5_ h4 (fun e=>h1 (by rw [e];rfl)))
theorem Z6f:∀ k,k<=3->eC 128 k<=100000000:=by decide +kernel
theorem K6_ {m:oe} (h4:∀ r∈m,r.length=4) (hk:m.length<=3) (hb:∀ r∈m,∀ x∈r,x.natAbs<=128):∀ x∈cE m m.length,x.natAbs<=100000000:=by
 intro x hx;rw [X9_ h4 hk hb] at hx;obtain ⟨J,-,rfl⟩:=List.mem_map.1 hx;obtain ⟨z,hz,hz2⟩:=k5_ (N:=128) m.length (fun a b=>(aD m a).getD ((az J).getD b 0) 0) fun a b _ _=>Z5v hb a _;have e1:qQ m m.length J=(z:Rat):=hz;have e2:qZ m m.length J=z:=by unfold qZ;rw [e1];rfl
 rw [e2];exact oJ hz2 (Z6f m.length hk)
theorem u7_ {m:oe} (h4:∀ r∈m,r.length=4) (hk:m.length<=3) (hb:∀ r∈m,∀ x∈r,x.natAbs<=128):(cE m m.length).length=(aS 4 m.length).length:=by
 rw [X9_ h4 hk hb];unfold eK;rw [List.length_map]
theorem u8_ {m:oe} (h4:∀ r∈m,r.length=4) (hk:m.length<=3) (hb:∀ r∈m,∀ x∈r,x.natAbs<=128):cK m=0 :=
 Z3q (n:=4) (by omega) fun r hr=>⟨h4 r hr,by omega,fun x hx=>by have:=hb r hr x hx;omega⟩
theorem Z0o {X:og}:bW X=0↔X.any (fun z=>decide (z≠0))=false:=by
 rw [List.any_eq_false];constructor
 ·intro h x hx;obtain ⟨z,hz⟩:=s1_ hx;rw [h] at hz;simp at hz;simp [hz]
 ·intro h;by_cases e:bW X=0;·exact e
  ·obtain ⟨x,hx,pG⟩:=U9_ e;exact absurd (oT pG) (h x hx)
theorem Z09 {m:oe} (h4:∀ r∈m,r.length=4) (hk:m.length<=3) (hb:∀ r∈m,∀ x∈r,x.natAbs<=128):bW (cE m m.length)=0↔gP m<m.length:=by
 by_cases h1:m.length=0
 ·obtain rfl:=List.eq_nil_of_length_eq_zero h1;constructor;·intro h;exact absurd h (by decide +kernel)
  ·intro h;exact absurd h (Nat.not_lt_zero _)
 ·have hc:bZ m=4:=z5_ h4 (fun e=>h1 (by rw [e];rfl));rw [Z0o,I5_ (u8_ h4 hk hb) (oK _) (by omega)];rw [decide_eq_false_iff_not];omega
theorem l4_ {m : oe} (h4 : ∀ r ∈ m, r.length = 4) (hk : m.length <= 3) (hb : ∀ r ∈ m, ∀ x ∈ r, x.natAbs <= 128) (h0 : bW (cE m m.length) ≠ 0) {R0 l : oe} {qs ps : Nat -> Nat} (sK : bP 4 R0 qs) (hs : bU 4 (aK 0 m) (aK 0 R0)) (hl : bP 4 l ps)
    (hA : ∀ v, Sp 4 (aK 0 l) v ↔ ij 4 (dj 4 m.length (cE m m.length)) v) (hr : l.length + eL (bF (j0 4 m.length (cE m m.length))) (bO 4 m.length).length = 4) :
    l.length = m.length /\ R0.length = m.length /\ ∀ v, Sp 4 (aK 0 l) v ↔ Sat 4 R0 v := by
  obtain ⟨k, sH⟩ : ∃ k, m.length = k := ⟨_, rfl⟩;obtain ⟨X, hX⟩ : ∃ X, cE m m.length = X := ⟨_, rfl⟩;have hq : X = eK 4 k m := by rw [<- hX, X9_ h4 hk hb, sH]
  have C0 : bB 4 m := fun i hi => h4 _ (mO hi);rw [sH] at hX hk hr hA;rw [sH, hX] at h0;rw [hX] at hr hA;have qF : ∀ J ∈ aS 4 k, ek 4 k X J = qZ m k J := fun J hJ => by unfold ek; rw [hq]; unfold eK; exact H5_ (by omega) (by omega) hJ _
  have hrow : ∀ i, i < k -> ij 4 (dj 4 k X) (aD m i) := fun i hi => by
    refine ⟨C0 i (by omega), fun j hj => ?_⟩;have pX : aD (dj 4 k X) j ∈ dj 4 k X := mO hj;obtain ⟨r, qv⟩ : ∃ r, aD (dj 4 k X) j = r := ⟨_, rfl⟩;rw [qv] at pX |-;unfold dj at pX;obtain ⟨s, sE, rfl⟩ := List.mem_map.1 pX;have hs2 : s ∈ aS 4 (k + 1) := by unfold bO at sE; rw [if_neg (by omega)] at sE; exact sE
    have h9 := p2_ m (n := 4) (by omega) (by omega) hs2 hi;have h8 : ((bX ((List.range 4).map fun i => cZ 4 k X i s) (aD m i) 4 : Int) : Rat) = 0 := by
      rw [z6_, <- h9];refine cG fun c hc => ?_;have hg : ((List.range 4).map fun i => cZ 4 k X i s).getD c 0 = cZ 4 k X c s := by
        rw [oD, oF, List.getElem?_range hc]; rfl
      rw [hg];by_cases pR : s.testBit c = true
      · have h7 : X.getD (b8 4 k (s ^^^ (1 <<< c))) 0 = qZ m k (s ^^^ (1 <<< c)) := qF _ (L9_ (by omega) (by omega) hs2 hc pR)
        rw [if_pos pR, j3 pR, h7, <- ja];unfold dc aC
        split
        · rw [Rat.intCast_neg]; grind
        · grind
      · have xj : s.testBit c = false := by simpa using pR
        rw [if_neg pR, ku xj];show _ * (0 : Rat) = 0;grind
    exact Rat.intCast_eq_zero_iff.1 h8
  have hin : ∀ v, Sp 4 (aK 0 R0) v -> Sp 4 (aK 0 l) v := fun v hv =>
    ((hs.iff v).2 hv).mono fun r hr => by
      obtain ⟨i, -, hi, rfl⟩ := hr;exact (hA _).2 (hrow i (by omega))
  obtain ⟨x, hx, pG⟩ := U9_ h0;have hex : ∃ J ∈ aS 4 k, qZ m k J ≠ 0 := by
    rw [hq] at hx;obtain ⟨J, hJ, rfl⟩ := List.mem_map.1 hx;exact ⟨J, hJ, pG⟩
  have hlk : l.length <= k := by
    by_cases h1 : 1 <= k
    · obtain ⟨J, hJ, C9⟩ := hex
      refine Z5e (by omega) (by omega) h1 hl (fun i hi r hr => ?_) ⟨J, hJ, by rw [qF J hJ]; exact C9⟩;obtain ⟨j, hj⟩ := List.getElem?_of_mem hr;have := ((hA _).1 (.mem (bA (Nat.zero_le i) hi))).2 j (oC.1 hj).1;rw [d_ hj] at this; exact this
    · obtain rfl : k = 0 := by omega
      obtain rfl := List.eq_nil_of_length_eq_zero sH;have wH : X = [1] := by rw [<- hX]; decide +kernel
      rw [wH, Z13] at hr;omega
  have LW : k <= R0.length := by
    by_cases h1 : k <= R0.length;· exact h1
    exfalso;obtain ⟨J, hJ, C9⟩ := hex;have h9 := Z2M (k := k) (m := m) sK.1 (by omega) (fun i hi => (hs.iff _).1 (.mem (bA (Nat.zero_le i) (by omega)))) (fun b => (az J).getD b 0);have h8 : qQ m k J = 0 := h9;rw [<- ja] at h8;exact C9 (by exact_mod_cast h8)
  have hpl := Z6p sK hl hin;refine ⟨by omega, by omega, fun v => ⟨fun hv => ?_, fun hv => ?_⟩⟩
  · obtain ⟨D, hD, h9⟩ := b7_ sK hl hin (by omega) R0.length (oK _) v hv (fun i hi => by omega)
    exact ⟨hv.len (c8 hl.1), D, hD, h9⟩
  · obtain ⟨hv1, D, hD, h9⟩ := hv
    refine (hA v).2 ⟨hv1, fun j hj => ?_⟩;have h8 := ((hA _).1 (hin _ h9)).2 j hj;rw [J1_] at h8;rcases Int.mul_eq_zero.1 h8 with h | h;· exact absurd h hD
    · exact h
theorem Z48:(prog.info? 100).map (fun i=>(i.zero,i.size,i.bytes))=some (some (.int .u64 0),1,8):=by kernel_rfl
def u64C (_:World) (u:List Value) (x:Nat):Prop:=u=[.int .u64 (x:Int)]
theorem u64C.mono:iD u64C:=fun _ _ _ _ _ h=>h
abbrev kQ (w:World) (v:Value) (xs:List Nat):Prop:=aH 1 u64C w v xs
theorem kQ.ext {w w':World} {v:Value} {xs:List Nat} (h:kQ w v xs) (he:aA w w'):kQ w' v xs:=aH.ext u64C.mono h he
theorem kQ.open {w:World} {v:Value} {xs:List Nat} (h:kQ w v xs):∃ (a:Option Addr) (cap:Nat),v=.slice a xs.length cap/\xs.length<=cap/\cap<=maxLen /\
  (xs≠[]->∃ b off,a=some ⟨b,off,none⟩/\b<w.heap.size/\∀ (j:Nat) x,xs[j]?=some x->w.cell? ⟨b,off+j,none⟩=some (.int .u64 (x:Int))):=by
 obtain ⟨a,cap,hv,h1,h2,-,h4⟩:=aH.open h;refine ⟨a,cap,hv,h1,h2,fun hne=>?_⟩;obtain ⟨b,off,ha,hb,hc⟩:=h4 (by decide) hne;refine ⟨b,off,ha,hb,fun j x hx=>?_⟩;obtain ⟨u,hu,hr,hcell⟩:=hc j x hx;have:=hcell 0 (by decide);rw [hr] at this;simpa using this
theorem aU.box {w:World} {base:Nat} {e:TypeId} {v:Value} {xs:List Nat} (h:aU w base e 1 v u64C xs) {g:Nat} (hg:g<base) (y:Value):aU (w.setCell ⟨g,0,none⟩ y) base e 1 v u64C xs:=by
 obtain ⟨us,h1,h2,h3,h4⟩:=h;refine ⟨us,h1,h2,ownsRow_setCell_other h3 (fun e=>?_) y,fun j u x hu hx w' _=>(h4 j u x hu hx).now⟩;have:=(h3.lt g e).1;omega
def Z4T (g base:Nat) (L:List Nat) (w:World) (e:Ending) (w':World):Prop :=
 e=.returned (.tuple #[])/\Below g w w'/\∃ so,w'.heap[g]?=some (.cells #[so] 98 (0,0))/\aU w' base 100 1 so u64C L
theorem Z3F (s g base:Nat) (w:World) (so:Value) (L:List Nat) (hg:w.heap[g]?=some (.cells #[so] 98 (0,0))) (hB:aU w base 100 1 so u64C L) (qP:g<base) (o6:base<=w.heap.size) (hl:L.length<1000000) :
  Calls prog 118 #[.int .u64 (s:Int),.pointer (some ⟨g,0,none⟩)] w (Z4T g base (L++[s]) w):=by
 have k0:=aO hg 0;simp only [oR,oQ] at k0;have HB:=oA hB;have HG:=oA hg;obtain ⟨a,c,rfl,pK,hc2,-⟩:=aH.open hB.list;unfold maxLen at hc2;have HN:=oA (fun b=>hB.lt b);obtain ⟨n,hn⟩:=oZ L.length;rw [hn] at HB HG k0 pK HN hl;have sw:L.length<1000000:=by omega
 have HL2:=oA sw;clear hg hB hn sw
 go_enter func118,ntmps118
 go_wp2_with (at_builtin;go_must (refine eM _ rfl _ _ 98 rfl base 100 (.int .u64 0) 1 8 underlying98 Z48 rfl (by decide) (.slice a n c) u64C L s #[.int .u64 (s:Int)] 100 rfl HB rfl rfl ?e1 (fun _ _=>rfl) HL2 ?e3 o6 ?_))
 case e1=>simp [Value.oneCell']
 case e3=>omega
 intro v' w5 o8 pS hb5 qu _;have HB5:=oA o8;have hE:Below g w w5:=Below.mono hb5 (by omega);have hk:=(Below.block hb5 g qP).trans HG;have HE:=oA hE;have HK:=oA hk;have k1:=aO hk 0;have f1:=cD hk 0;simp only [oR,oQ] at k1;obtain ⟨a2,c2,rfl,-⟩:=aH.open o8.list;clear o8 pS hb5 hE hk k0;go_wp2_with fail;have hfin:=en HK 0 (Value.slice a2 (L++[s]).length c2);refine bodyPost_end (results_none rfl _ _ _) rfl ⟨rfl,HE.setCell (oK _) _,_,by simpa using hfin,HB5.box qP _⟩
def A7_ (n g base k:Nat):Prop:=∀ (f s:Nat) (w:World) (so:Value) (L:List Nat),f<=n->s<4096->k<=n->w.heap[g]?=some (.cells #[so] 98 (0,0))->aU w base 100 1 so u64C L->g<base->base<=w.heap.size->L.length+(fs n k f s).length<=1000 ->
 Calls prog 117 #[.int .i64 f,.int .i64 n,.int .i64 k,.int .u64 (s:Int),.func (.func 118) #[] #[.pointer (some ⟨g,0,none⟩)]] w (Z4T g base (L++fs n k f s) w)
theorem Z1r (n g base:Nat) (hn:n<=12):A7_ n g base 0:=by
 intro f s w so L hf hs hk hg hB qP o6 hl;have HA:=oA (Z3F s g base w so L hg hB qP o6 (by rw [fs] at hl;simp at hl;omega));have HW:Hid (fs n 0 f s=[s]):=rfl;rw [HW.out];clear hg hB hl
 go_enter func117,ntmps117
 go_wp2_with fail;refine HA.mono ?_;rintro e w1 ⟨rfl,h1,h2⟩;have H1:=oA h1;have H2:=oA h2;clear h1 h2 HA;go_wp2_with fail;refine bodyPost_ret (results_none rfl _ _ _) rfl ⟨rfl,H1,H2⟩
theorem i7_ (i:Nat) (hi:i<12):IntKind.u64.wrap ((2:Int)^i)=((1 <<< i:Nat):Int)/\(1 <<< i)<4096:=by
 have h:∀ j,j<12->IntKind.u64.wrap ((2:Int)^j)=((1 <<< j:Nat):Int)/\(1 <<< j)<4096:=by decide +kernel
 exact h i hi
theorem Z1q (n g base k:Nat) (hn:n<=12) (ih:A7_ n g base k):A7_ n g base (k+1):=by
 intro f s w so L hf hs hk hg hB qP o6 hl;have HIH:=oA ih;have HG:=oA hg;have HB:=oA hB;have HLN:=oA hl;have HKN:=oA hk;have HSL:=oA hs;obtain ⟨K,hK⟩:=oZ (k+1);have Jb:Hid (fs n K f s=gG n k f s (n-k-f)):=by rw [<- hK];exact f2_ n k f s
 rw [hK] at HLN hk |-;have HK:=oA hK;have zY:((K:Int) == 0)=false:=beq_eq_false_iff_ne.2 (by omega);clear hg hB hl ih hK
 go_enter func117,ntmps117
 go_wp2_with fail;clear zY
 go_loopw [10] (fun t wr=>∃ d:Nat,d<=n-k-f/\t=.int .i64 ((f+d:Nat):Int)/\Hid (Below g w wr)/\Hid (∃ so,wr.heap[g]?=some (.cells #[so] 98 (0,0))/\aU wr base 100 1 so u64C (L++gG n k f s d))) (fun t _=>(n:Int).toNat+1-(intOf t).toNat)
 case atStart=>exact ⟨0,by omega,by simp,Below.refl _ _,_,HG,by simpa [gG] using HB.out⟩
 case round =>
  obtain ⟨d,hd,rfl,HX,HBB⟩:=hrel;obtain ⟨wo,rfl⟩:∃ wo:World,wo=wr:=⟨_,rfl⟩;by_cases hlt:d<n-k-f
  ·obtain ⟨Jy,vv,zo⟩:=HBB.out;obtain ⟨i,hi⟩:=oZ (f+d);rw [hi];obtain ⟨e1,e2⟩:=i7_ i (by omega);obtain ⟨m,hm⟩:∃ m:Nat,1 <<< i=m:=⟨_,rfl⟩;rw [hm] at e1 e2;have e3:=bits_or_u64_nat s m (by have:=HSL.out;omega) (by omega);have IL:s ||| m<4096:=(by rw [<- hm];exact Z6o (m:=12) HSL (by omega));have hlen:(L++gG n k f s d).length+(fs n k (i+1) (s ||| m)).length<=1000:=by
    have h1:=HLN.out;rw [Jb.out] at h1;have h2:=M3_ n k f s d;rw [hi,hm] at h2;have h4:=congrArg List.length h2;rw [oV] at h4;have h3:(gG n k f s (d+1)).length<=(gG n k f s (n-k-f)).length:=by
     unfold gG;obtain ⟨r,hr⟩:∃ r,n-k-f=d+1+r:=⟨n-k-f-(d+1),by omega⟩;have e9:List.range (d+1+r)=List.range (d+1)++(List.range r).map (d+1+·):=List.range_add ..;rw [hr,e9,List.flatMap_append,oV];exact Nat.le_add_right _ _
    rw [oV];omega
   have HC:=oA (HIH (i+1) (s ||| m) wo Jy (L++gG n k f s d) (by omega) IL (by omega) vv zo qP (by have:=(Below.size HX);omega) hlen);have HS:Hid ((L++gG n k f s d)++fs n k (i+1) (s ||| m)=L++gG n k f s (d+1)):=by
    have h2:=M3_ n k f s d;rw [hi,hm] at h2;unfold Hid;rw [h2,List.append_assoc]
   rw [HS.out] at HC;obtain ⟨q,hq⟩:=oZ (s ||| m);rw [hq] at e3 HC;have c1:(i:Int)<=(n:Int)-(K:Int):=(by have:=HK.out;omega);have c2:IntKind.i64.wrap ((i:Int)+1)=((i+1:Nat):Int):=(by rw [IntKind.wrap_i64];omega);have c3:IntKind.i64.wrap ((K:Int)-1)=(k:Int):=(by have:=HK.out;rw [IntKind.wrap_i64];omega);have c4:0<=(i:Int):=(by omega);have c5:(i:Int)<=64:=(by omega);have HII:=oA hi;clear vv zo IL hlen hm hq HS HBB hi e2;go_wp2_with fail;refine HC.mono ?_;rintro e w6 ⟨rfl,ou,I4⟩;have HE6:=oA (HX.trans ou);have HR6:=oA I4;clear ou I4 HC;go_wp2_with fail;go_roundw
   case rel=>exact ⟨d+1,by omega,by have:=HII.out;first | (congr 1;omega) | go_num,HE6,HR6⟩
   case measure=>have:=HII.out;simp [intOf];omega
  ·obtain rfl:d=n-k-f:=(by omega);obtain ⟨i,hi⟩:=oZ (f+(n-k-f));rw [hi];have c1:¬ (i:Int)<=(n:Int)-(K:Int):=(by have:=HKN.out;have:=HK.out;omega);have hR:=HBB.out;rw [<- Jb.out] at hR;have HR:=oA hR;clear hR HBB hi;go_wp2_with fail;refine bodyPost_end (results_none rfl _ _ _) rfl ⟨rfl,HX,HR⟩
theorem m7_ (n g base:Nat) (hn:n<=12):∀ k,A7_ n g base k
 | 0=>Z1r n g base hn
 | k+1=>Z1q n g base k hn (m7_ n g base hn k)
def f3_ (L:List Nat) (w:World) (e:Ending) (w':World):Prop:=∃ v,e=.returned v/\aA w w'/\kQ w' v L
theorem ml (n k:Nat) (hn:n<=12) (hk:k<=n) (w:World):Calls prog 60 #[.int .i64 n,.int .i64 k] w (f3_ (aS n k) w):=by
 obtain ⟨w1,pE⟩:=oc (w.alloc (.cells #[.slice none 0 0] 98));have hb:w1.heap[w.heap.size]?=some (.cells #[.slice none 0 0] 98 (0,0)):=by rw [pE];exact fC w _ _
 have hsz:w1.heap.size=w.heap.size+1:=by rw [pE];exact World.size_alloc w _
 have hE1:aA w w1:=by rw [pE];exact aA.alloc _ _
 have HC:=oA (m7_ n w.heap.size (w.heap.size+1) hn k 0 0 w1 (.slice none 0 0) [] (by omega) (by decide) hk hb (aU.nil _ _ _ _ _) (by omega) (by omega) (by have:=lT hn hk;unfold aS at this;simp;omega));have HE1:=oA hE1;clear hb hsz hE1;rw [List.nil_append] at HC
 go_enter func60,ntmps60
 go_wp2_with fail;generalize rG:w.alloc _=w9;obtain rfl:w9=w1:=by rw [<- rG,pE]
 refine HC.mono ?_;rintro e w2 ⟨rfl,h2,so,vv,zo⟩;have k0:=aO vv 0;simp only [oR,oQ] at k0;have hE:aA w w2:=Below.trans HE1 h2;have HE:=oA hE;have HL:=oA zo.list;clear vv zo h2 hE;go_wp2_with fail;go_ret;exact ⟨_,rfl,HE,HL⟩
def kf (n k:Int):Int:=if n<0\/n > 12\/k<0\/k > n then 3 else 0
theorem Z2c {n k:Nat} (hn:n<=12) (hk:k<=n):kf n k=0:=if_neg (by omega)
theorem G9_ (n k:Int) (w:World):oX 77 #[.int .i64 n,.int .i64 k] w (.int .i64 (kf n k)):=by
 by_cases h1:n<0
 ·have HG:Hid (kf n k=3):=if_pos (.inl h1)
  go_enter func77,ntmps77
  go_wp2_with fail;go_ret;rw [HG.out];exact ⟨rfl,aA.refl _⟩
 ·by_cases h2:n > 12
  ·have HG:Hid (kf n k=3):=if_pos (.inr (.inl h2))
   go_enter func77,ntmps77
   go_wp2_with fail;go_ret;rw [HG.out];exact ⟨rfl,aA.refl _⟩
  ·by_cases h3:k<0
   ·have HG:Hid (kf n k=3):=if_pos (.inr (.inr (.inl h3)))
    go_enter func77,ntmps77
    go_wp2_with fail;go_ret;rw [HG.out];exact ⟨rfl,aA.refl _⟩
   ·by_cases h4:k > n
    ·have HG:Hid (kf n k=3):=if_pos (.inr (.inr (.inr h4)))
     go_enter func77,ntmps77
     go_wp2_with fail;go_ret;rw [HG.out];exact ⟨rfl,aA.refl _⟩
    ·have HG:Hid (kf n k=0):=if_neg (by omega)
     go_enter func77,ntmps77
     go_wp2_with fail;go_ret;rw [HG.out];exact ⟨rfl,aA.refl _⟩
def dO (w:World) (v:Value) (n k:Nat) (X:og):Prop:=∃ r,v=.agg #[.int .i64 n,.int .i64 k,r]/\aH 1 numC w r X
theorem numC.mono':iD numC:=fun _ _ _ _ _ h=>h
theorem dO.ext {w w':World} {v:Value} {n k:Nat} {X:og} (h:dO w v n k X) (he:aA w w'):dO w' v n k X:=by
 obtain ⟨r,hv,h1⟩:=h;exact ⟨r,hv,aH.ext numC.mono' h1 he⟩
theorem K1_ {w w':World} {v:Value} {X:og} {B:Nat} {C:Array Value} {T:TypeId} (h:aH 1 numC w v X) (hB:w.heap[B]?=some (.cells C T (0,0))) (xG:∀ (i:Nat) s,C[i]?≠some (.string s)) (hg:w.grownBy w' (some B)):aH 1 numC w' v X:=by
 obtain ⟨us,h1,h2,⟨a,cap,rfl,q1,q2,q3,q4⟩,h4⟩:=h;refine ⟨us,h1,h2,⟨a,cap,rfl,q1,q2,q3,fun hne=>?_⟩,fun j u x hu hx=>h4 j u x hu hx⟩;obtain ⟨b,off,ha,hb,hc⟩:=q4 hne;refine ⟨b,off,ha,oI hb hg.size,fun j u hu=>?_⟩;have hcell:=hc j u hu;have hs:∃ s,u=.string s:=by
  obtain ⟨l,hl,Bz⟩:=List.mem_flatten.1 (oE hu);obtain ⟨i,hi⟩:=List.getElem?_of_mem hl;obtain ⟨x,hx⟩:∃ x,X[i]?=some x:=⟨_,oB (by rw [<- h1];exact (oC.1 hi).1)⟩;have h5:l=[.string (aB x)]:=h4 i l x hi hx;rw [h5,List.mem_singleton] at Bz;exact ⟨_,Bz⟩
 obtain ⟨s,rfl⟩:=hs;have LK:b≠B:=by
  rintro rfl;rw [aO hB] at hcell;exact xG _ _ hcell
 rw [<- hcell];unfold World.cell?;rw [hg.block b hb (fun e=>by cases e;exact LK rfl)]
theorem fL {w:World} {B:Nat} {x y z:Value} (h:w.heap[B]?=some (.cells #[x,y,z] 31 (0,0))) (a b c:Value):(((w.setCell ⟨B,0,none⟩ a).setCell ⟨B,1,none⟩ b).setCell ⟨B,2,none⟩ c).heap[B]?=some (.cells #[a,b,c] 31 (0,0)):=by
 have:=en (en (en h 0 a) 1 b) 2 c;simpa using this
theorem j6 (w:World) (B:Nat) (a b c:Value):w.grownBy (((w.setCell ⟨B,0,none⟩ a).setCell ⟨B,1,none⟩ b).setCell ⟨B,2,none⟩ c) (some B) :=
 gA (gA (fU w B 0 a) (fU _ B 1 b)) (fU _ B 2 c)
theorem eY {w W:World} {B:Nat} (hE:aA w W) (hB:w.heap.size<=B) (a b c:Value):aA w (((W.setCell ⟨B,0,none⟩ a).setCell ⟨B,1,none⟩ b).setCell ⟨B,2,none⟩ c) :=
 ((hE.setCell (p:=⟨B,0,none⟩) hB a).setCell (p:=⟨B,1,none⟩) hB b).setCell (p:=⟨B,2,none⟩) hB c
theorem X1_ (n k:Int) (i:Nat) (s:ByteArray):(#[Value.int .i64 n,Value.int .i64 k,Value.slice none 0 0]:Array Value)[i]?≠some (.string s):=by
 match i with
 | 0=>simp
 | 1=>simp
 | 2=>simp
 | i+3=>simp
def Z6E (v:Value) (k:Nat) (X:og) (W:World):Prop:=Calls prog 54 #[v,.int .i64 (k:Int)] W fun e w'=>∃ r,e=.returned (.tuple #[r,.int .i64 0])/\aH 1 numC w' r X/\aA W w'
theorem Z3z (xss:oe) (n:Nat) (X:og) (v:Value) (w:World) (h:bN w v xss) (hE:cK xss=0) (hn:n<=12) (hk:xss.length<=n) (hc:∀ r∈xss,r.length=n) (hM:∀ W,aA w W->Z6E v xss.length X W) :
  Calls prog 15 #[v,.int .i64 n] w fun e w'=>∃ u,e=.returned (.tuple #[u,.int .i64 0])/\aA w w'/\dO w' u n xss.length X:=by
 obtain ⟨w1,pE⟩:=oc (w.alloc (.cells #[.int .i64 0,.int .i64 0,.slice none 0 0] 31));have hb:w1.heap[w.heap.size]?=some (.cells #[.int .i64 0,.int .i64 0,.slice none 0 0] 31 (0,0)):=by rw [pE];exact fC w _ _
 have hE1:aA w w1:=by rw [pE];exact aA.alloc _ _
 have HE1:=oA hE1;have HB:=oA hb;have HCH:Hid (∀ W,aA w W->oX 53 #[v] W (.int .i64 0)):=fun W hW=>by
  have:=W4_ xss v W (h.ext hW);rw [hE] at this;exact this
 have HM:=oA hM;have HR:=oA h;obtain ⟨a,cap,rfl,h1,h2,-,qX⟩:=bc.open h;have HCC:=oA qX;have HCN:=oA hc;obtain ⟨k,hk2⟩:=oZ xss.length;have HKL:=oA hk2;rw [hk2] at HM HCH h1 hk |-;unfold maxLen at h2;clear hb hE1 h hE hM qX hc hk2;have c1:¬ ((n:Int)<0):=by omega
 have c2:¬ (12<(n:Int)):=by omega
 have c3:¬ ((n:Int)<(k:Int)):=by omega
 by_cases hz:k=0
 ·subst hz
  go_enter func15,ntmps15
  go_wp2_with fail;generalize rG:w.alloc _=w9;obtain rfl:w9=w1:=by rw [<- rG,pE]
  clear pE rG;refine (HCH w9 HE1).mono ?_;rintro e w2 ⟨rfl,h2⟩;have HE2:Hid (aA w w2):=HE1.trans h2;have HB2:=oA (aJ HB h2);clear h2 HCH HB;go_wp2_with fail;refine (HM w2 HE2).mono ?_;rintro e w3 ⟨r,rfl,hr,h3⟩;have HE3:Hid (aA w w3):=HE2.trans h3;have HB3:=oA (aJ HB2 h3);obtain ⟨ra,rc,rfl,-⟩:=aH.open hr;have HX:=oA hr;clear h3 hr HB2 HM;obtain ⟨m,hm⟩:=oZ X.length;rw [hm] at HX;have f0:=cD HB3;have k0:=aO HB3;go_wp2_with fail;have hb7:=fL HB3 (.int .i64 (n:Int)) (.int .i64 0) (.slice ra m rc);refine bodyPost_ret (kG (by rfl) _ _ w.heap.size 31 #[.int .i64 n,.int .i64 0,.slice ra m rc] (0,0) _ (.int .i64 0) (by rfl) (by rfl) hb7 underlying31 (by rfl) (by kernel_rfl)) (by rfl) ⟨_,rfl,eY HE3 (oK _) _ _ _,_,rfl,?_⟩;exact K1_ HX HB3 (X1_ 0 0) (j6 _ _ _ _ _)
 ·have hx:xss≠[]:=by intro e;rw [e] at HKL;exact hz HKL.symm
  obtain ⟨b,off,rfl,hb,hcell⟩:=HCC hx;obtain ⟨y,hy⟩:∃ y,xss[0]?=some y:=⟨_,oB (by have:=HKL.out;omega)⟩;obtain ⟨u,hu,qS⟩:=hcell 0 y hy;have hyl:=HCN y (oE hy);obtain ⟨ua,uc,rfl,-⟩:=aH.open hu;rw [hyl,Nat.add_zero] at qS;have HCU:=oA qS;have c4:0<(k:Int):=by omega
  clear hcell hu qS hb hyl hy hx
  go_enter func15,ntmps15
  go_wp2_with fail;generalize rG:w.alloc _=w9;obtain rfl:w9=w1:=by rw [<- rG,pE]
  clear pE rG;refine (HCH w9 HE1).mono ?_;rintro e w2 ⟨rfl,h2⟩;have HE2:Hid (aA w w2):=HE1.trans h2;have HB2:=oA (aJ HB h2);have hcu2:=HE2.cell HCU;clear h2 HCH HB;go_wp2_with fail;refine (HM w2 HE2).mono ?_;rintro e w3 ⟨r,rfl,hr,h3⟩;have HE3:Hid (aA w w3):=HE2.trans h3;have HB3:=oA (aJ HB2 h3);obtain ⟨ra,rc,rfl,-⟩:=aH.open hr;have HX:=oA hr;clear h3 hr HB2 HM hcu2;obtain ⟨m,hm⟩:=oZ X.length;rw [hm] at HX;have f0:=cD HB3;have k0:=aO HB3;go_wp2_with fail;have hb7:=fL HB3 (.int .i64 (n:Int)) (.int .i64 (k:Int)) (.slice ra m rc);refine bodyPost_ret (kG (by rfl) _ _ w.heap.size 31 #[.int .i64 n,.int .i64 k,.slice ra m rc] (0,0) _ (.int .i64 0) (by rfl) (by rfl) hb7 underlying31 (by rfl) (by kernel_rfl)) (by rfl) ⟨_,rfl,eY HE3 (oK _) _ _ _,_,rfl,?_⟩;exact K1_ HX HB3 (X1_ 0 0) (j6 _ _ _ _ _)
end Go.Proofs.YtjlkkofmojgipaaGreatDoor
