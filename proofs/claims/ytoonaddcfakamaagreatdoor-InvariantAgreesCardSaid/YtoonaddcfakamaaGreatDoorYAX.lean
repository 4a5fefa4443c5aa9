import Derived.Test.YtoonaddcfakamaaGreatDoorYAN
import Derived.Test.YtoonaddcfakamaaGreatDoorYAU
import Derived.Test.YtoonaddcfakamaaGreatDoorYAW
import Derived.Test.YtoonaddcfakamaaGreatDoorYAT
import Derived.Test.YtoonaddcfakamaaGreatDoorYAF
import Derived.Test.YtoonaddcfakamaaGreatDoorRows
import Derived.WalkKit
import Derived.ProofKit
import Derived.OpenShut
import Derived.Test.YtoonaddcfakamaaGreatDoorYAA
import Derived.ChangeSlices
import Derived.Test.YtoonaddcfakamaaGreatDoorYAD
import Derived.LaidMore
import Derived.LaidLaws
import Derived.MakeChecks
import Derived.Lib.LaidTab
import Derived.Stop.Joined
import Derived.Stop.LaidErr
import Derived.Lay
import Derived.Test.YtoonaddcfakamaaGreatDoorTie
import Derived.Test.YtoonaddcfakamaaGreatDoorCards
import Derived.Test.YtoonaddcfakamaaGreatDoorYAJ
import Derived.Test.YtoonaddcfakamaaGreatDoorYAG
import Derived.Deep.Slices
import Derived.Test.YtoonaddcfakamaaGreatDoorYAM
import Derived.Laws.IdiomArrays
import Derived.SevenTiedAt
set_option linter.unusedVariables false
set_option linter.unusedSimpArgs false
set_option maxRecDepth 1000000
set_option maxHeartbeats 40000000
namespace Go.Proofs.YtoonaddcfakamaaGreatDoor
open Go.RowKit Go.Proofs.Tryz
theorem m3_ (c:Int) (sx:0<=c) (pc:c<=255) (vals:Bool) (xss:oP) (v:Value) (d:Int) (E7:0<=d) (qD:d<=255) (valt:Bool) (yss:oP) (v':Value) (w:World) (h:iR w v xss) (h':iR w v' yss) (oS:bg w) (hp:3<w.heap.size) :
  oL 7 #[.agg #[.int .u8 c,v,.bool vals],.agg #[.int .u8 d,v',.bool valt]] w (.bool true):=by
 obtain ⟨P,hP⟩:=oO (fc (c%10).toNat);obtain ⟨n,hn⟩:=oN P.length;obtain ⟨rG,o4,hn4⟩:=X3_ (c%10).toNat;rw [<- hP] at rG o4 hn4;rw [hn] at o4 hn4;have HKN:=np (fun W (hW:aA w W)=>k4_ W (oS.ext hW) (n7 hp hW.size));have HF1:=np (fun W (hW:aA w W)=>D7_ c vals xss v W (h.ext hW));have HF2:=np (fun W (hW:aA w W)=>D7_ d valt yss v' W (h'.ext hW));have key:∀ {v:Value} {xss:oP},iR w v xss->∀ x∈xss,x.length=4:=fun h x hx=>by
  obtain ⟨a,cp,rfl,k1,k2,kl,k4⟩:=aR.open h;obtain ⟨j,hj⟩:=List.getElem?_of_mem hx;obtain ⟨b,off,rfl,hb,hcell⟩:=k4 (by decide) (by intro e;rw [e] at hj;simp at hj);obtain ⟨u,hu,⟨rfl,hx4,hxb⟩,hc⟩:=hcell j x hj;exact hx4
 have hx4:=key h;have hy4:=key h';obtain ⟨ph,qm⟩:=o6_ hn4 hx4 xss.length;obtain ⟨rB,q9⟩:=o6_ hn4 hy4 yss.length;have hsh:=h;have hsk:=h';obtain ⟨a,cp,rfl,Jf,Dk,-⟩:=aR.open hsh;obtain ⟨b,cq,rfl,Jb,Di,-⟩:=aR.open hsk;unfold maxLen at Dk Di;obtain ⟨FT,B4⟩:=oN (decide (xss.length<=3));obtain ⟨GT,By⟩:=oN (decide (yss.length<=3));rw [B4] at HF1;rw [By] at HF2;cases FT with
 | false =>
  clear ph qm rB q9 hx4 hy4 hsh hsk h h' oS hp B4 By rG hP o4 key hn4;subst hn
  go_enter func7,ntmps7
  obtain ⟨W0,tO⟩:=oN (w.alloc (.cells #[.int .u8 c,.slice a xss.length cp,.bool vals] 24));obtain ⟨W9,ry⟩:=oN (W0.alloc (.cells #[.int .u8 d,.slice b yss.length cq,.bool valt] 24));have qG:aA w W0:=by rw [<- tO];exact aA.alloc _ _
  have pP:aA W0 W9:=by rw [<- ry];exact aA.alloc _ _
  have pD:W0.heap[w.heap.size]?=some (.cells #[.int .u8 c,.slice a xss.length cp,.bool vals] 24 (0,0)):=by rw [<- tO];exact dE _ _ _
  have HQ0:Hid (W9.heap[W0.heap.size]?=some (.cells #[.int .u8 d,.slice b yss.length cq,.bool valt] 24 (0,0))):=by rw [<- ry];exact dE _ _ _
  have HP0:=np (aF pD pP);have HE0:=np (qG.trans pP);have HSZ:Hid (w.heap.size<W0.heap.size):=by rw [<- tO];simp [Hid]
  clear qG pP pD;go_wp2_with fail;clear ry;refine (HKN _ HE0).mono ?_;rintro e w1 ⟨rfl,hE1⟩;have HE1:=np (HE0.trans hE1);have HP1:=np (aF HP0 hE1);have HQ1:=np (aF HQ0 hE1);obtain ⟨b0,pD⟩:=oN w.heap.size;obtain ⟨b1,hb1⟩:=oN W0.heap.size;rw [pD] at HP1 HSZ;rw [hb1] at HQ1 HSZ;rw [pD,hb1];clear hb1 tO;obtain ⟨p0,p1,p2⟩:=nS HP1;clear hE1 HE0 HP0 HQ0;go_wp2_with fail;refine (HF1 _ HE1).mono ?_;rintro e w2 ⟨rfl,hE2⟩;have HE2:=np (HE1.trans hE2);have HP2:=np (aF HP1 hE2);have HQ2:=np (aF HQ1 hE2);clear hE2 HE1 HP1 HQ1 p0 p1 p2;go_wp2_with fail;refine p_ (HKN _ HE2) (HE2.trans) ?_;intro w9 HE9;clear HKN;go_wp2_with fail;go_ret;exact ⟨rfl,HE9⟩
 | true =>
 cases GT with
 | false =>
  clear ph qm rB q9 hx4 hy4 hsh hsk h h' oS hp B4 By rG hP o4 key hn4;subst hn
  go_enter func7,ntmps7
  obtain ⟨W0,tO⟩:=oN (w.alloc (.cells #[.int .u8 c,.slice a xss.length cp,.bool vals] 24));obtain ⟨W9,ry⟩:=oN (W0.alloc (.cells #[.int .u8 d,.slice b yss.length cq,.bool valt] 24));have qG:aA w W0:=by rw [<- tO];exact aA.alloc _ _
  have pP:aA W0 W9:=by rw [<- ry];exact aA.alloc _ _
  have pD:W0.heap[w.heap.size]?=some (.cells #[.int .u8 c,.slice a xss.length cp,.bool vals] 24 (0,0)):=by rw [<- tO];exact dE _ _ _
  have HQ0:Hid (W9.heap[W0.heap.size]?=some (.cells #[.int .u8 d,.slice b yss.length cq,.bool valt] 24 (0,0))):=by rw [<- ry];exact dE _ _ _
  have HP0:=np (aF pD pP);have HE0:=np (qG.trans pP);have HSZ:Hid (w.heap.size<W0.heap.size):=by rw [<- tO];simp [Hid]
  clear qG pP pD;go_wp2_with fail;clear ry;refine (HKN _ HE0).mono ?_;rintro e w1 ⟨rfl,hE1⟩;have HE1:=np (HE0.trans hE1);have HP1:=np (aF HP0 hE1);have HQ1:=np (aF HQ0 hE1);obtain ⟨b0,pD⟩:=oN w.heap.size;obtain ⟨b1,hb1⟩:=oN W0.heap.size;rw [pD] at HP1 HSZ;rw [hb1] at HQ1 HSZ;rw [pD,hb1];clear hb1 tO;obtain ⟨p0,p1,p2⟩:=nS HP1;clear hE1 HE0 HP0 HQ0;go_wp2_with fail;refine (HF1 _ HE1).mono ?_;rintro e w2 ⟨rfl,hE2⟩;have HE2:=np (HE1.trans hE2);have HP2:=np (aF HP1 hE2);have HQ2:=np (aF HQ1 hE2);clear hE2 HE1 HP1 HQ1 p0 p1 p2;obtain ⟨q0,q1,q2⟩:=nS HQ2;go_wp2_with fail;refine (HF2 _ HE2).mono ?_;rintro e w3 ⟨rfl,oT⟩;have HE3:=np (HE2.trans oT);have HP3:=np (aF HP2 oT);have HQ3:=np (aF HQ2 oT);clear oT HE2 HP2 HQ2 q0 q1 q2;go_wp2_with fail;refine p_ (HKN _ HE3) (HE3.trans) ?_;intro w9 HE9;clear HKN;go_wp2_with fail;go_ret;exact ⟨rfl,HE9⟩
 | true =>
 have Ac:xss.length<=3:=of_decide_eq_true B4;have Je:yss.length<=3:=of_decide_eq_true By;obtain ⟨F,R,A,S,C,M,hD,hC,hM,Fz,Iw,hT⟩:=Z4m o4 hn4 (by omega) (fun x hx=>(qm x hx).1) (fun x hx=>(qm x hx).2) P rG hn vals;obtain ⟨F',R',A',S',C',M',xG,DG,xh,B7,B6,tQ⟩:=Z4m o4 hn4 (by omega) (fun x hx=>(q9 x hx).1) (fun x hx=>(q9 x hx).2) P rG hn valt;have HM1:=np (fun W (hW:aA w W)=>C8_ c sx pc n F P hP hn xss Ac vals _ W (h.ext hW) R A S hD (oS.ext hW) (n7 hp hW.size));rw [hC,hM] at HM1;have HM2:=np (fun W (hW:aA w W)=>C8_ c sx pc n F' P hP hn yss Je valt _ W (h'.ext hW) R' A' S' xG (oS.ext hW) (n7 hp hW.size));rw [DG,xh] at HM2;have hRT:=hT.right;have hRT':=tQ.right;have vZ:∀ {X:oP},(∀ x∈X,aN 629856 x/\x.length=n)->∀ x∈X,x≠[]:=fun hX x hx e=>by
  have:=(hX x hx).2;rw [e] at this;simp at this;omega
 have HN1:Hid ((∀ x∈C,x≠[])/\∀ x∈M,x≠[]):=⟨vZ hT.bC,vZ hT.bM⟩;have pY:Hid ((∀ x∈C',x≠[])/\∀ x∈M',x≠[]):=⟨vZ tQ.bC,vZ tQ.bM⟩;have HSC:Hid (∀ W vp vc vc',aA w W->aK W vp P->aV W vc C->aV W vc' C'->oL 25 #[vp,vc,vc'] W (.tuple #[.bool (C == C' && M == M'),.int .i64 0])):=fun W vp vc vc' hW h1 h2 h3 =>
  Z2h n F F' P C C M C C' C' M' C' vp vc vc' W h1 h2 h3 rG hn Fz B7 (oS.ext hW) (n7 hp hW.size)
 have GX:Hid (∀ W vp vc vc',aA w W->aK W vp P->aV W vc M->aV W vc' M'->oL 46 #[vp,vc,vc'] W (.tuple #[.bool (C == C' && M == M'),.int .i64 0])):=fun W vp vc vc' hW h1 h2 h3 =>
  Z2i n F F' P M M C M M' M' C' M' vp vc vc' W h1 h2 h3 rG hn Iw B6 (oS.ext hW) (n7 hp hW.size)
 obtain ⟨X,hX⟩:=oN (bB n M.length M);have EX:M.length<=n:=by have:=hT.rank;omega
 have JC:Hid (∀ W v,aA w W->bZ W v P C M->Calls prog 24 #[v] W fun e w'=>∃ a c,e=.returned (.tuple #[.agg #[.int .i64 n,.int .i64 M.length,.slice a X.length c],.int .i64 0])/\aR 1 numC w' (.slice a X.length c) X/\aA W w'):=fun W v hW hv =>
  Q3_ n F P C M X v W hv hRT hn4 EX (by rw [<- hX];exact I8_ hn4 (fun x hx=>(hT.bM x hx).2) EX) (fun x hx=>n8 ((G5_ hn4 (fun x hx=>(qm x hx).1) (fun x hx=>(qm x hx).2) hT).2.1 x (by rw [hX];exact hx)) (by decide)) (oS.ext hW) (n7 hp hW.size)
 obtain ⟨Y,hY⟩:=oN (bB n M'.length M');have EW:M'.length<=n:=by have:=tQ.rank;omega
 have JB:Hid (∀ W v,aA w W->bZ W v P C' M'->Calls prog 24 #[v] W fun e w'=>∃ a c,e=.returned (.tuple #[.agg #[.int .i64 n,.int .i64 M'.length,.slice a Y.length c],.int .i64 0])/\aR 1 numC w' (.slice a Y.length c) Y/\aA W w'):=fun W v hW hv =>
  Q3_ n F' P C' M' Y v W hv hRT' hn4 EW (by rw [<- hY];exact I8_ hn4 (fun x hx=>(tQ.bM x hx).2) EW) (fun x hx=>n8 ((G5_ hn4 (fun x hx=>(q9 x hx).1) (fun x hx=>(q9 x hx).2) tQ).2.1 x (by rw [hY];exact hx)) (by decide)) (oS.ext hW) (n7 hp hW.size)
 have DH:jH n M.length X n M'.length Y=(C == C' && M == M'):=by
  obtain ⟨k1,k2⟩:=Z2D hn4 (fun x hx=>(qm x hx).1) (fun x hx=>(qm x hx).2) hT (fun x hx=>(q9 x hx).1) (fun x hx=>(q9 x hx).2) tQ;rw [hX,hY] at k2;rw [Bool.eq_iff_iff];unfold jH;simp only [Bool.and_eq_true,decide_eq_true_eq,beq_iff_eq,true_and];exact ⟨fun ⟨e1,e2⟩=>⟨k1.2 (k2.2 ⟨e1,e2⟩),k2.2 ⟨e1,e2⟩⟩,fun ⟨e1,e2⟩=>k2.1 e2⟩
 have AN:Hid (∀ W u u',bZ W u P C M->bZ W u' P C' M'->oL 27 #[u,u'] W (.bool (C == C' && M == M'))):=fun W u u' k k'=>by
  have:=z2_ P P C C' M M' u u' W k k';simpa using this
 have GS:Hid (∀ W a c a' c',aR 1 numC W (.slice a X.length c) X->aR 1 numC W (.slice a' Y.length c') Y->oL 28 #[.agg #[.int .i64 n,.int .i64 M.length,.slice a X.length c],.agg #[.int .i64 n,.int .i64 M'.length,.slice a' Y.length c']] W (.bool (C == C' && M == M'))):=fun W a c a' c' h1 h2=>by
  have:=a2_ n M.length X n M'.length Y _ _ W ⟨_,rfl,h1⟩ ⟨_,rfl,h2⟩;rw [DH] at this;exact this
 have HLO:Hid (∀ W vc,aA w W->aV W vc C->Calls prog 47 #[.int .i64 n,vc] W fun e w'=>∃ a c,e=.returned (.tuple #[.agg #[.int .i64 n,.slice a C.length c],.int .i64 0])/\aV w' (.slice a C.length c) C/\aA W w'):=fun W vc hW h1=>by
  refine (nR n F C C M C vc W h1 Fz (oS.ext hW) (n7 hp hW.size)).mono fun e w' ⟨u,h1,h2,h3⟩=>?_;obtain ⟨a,c,rfl,-⟩:=aR.open h2.now;exact ⟨a,c,h1,h2.now,h3⟩
 have HWI:Hid (∀ W u u',aA w W->bj W u n C->bj W u' n C->oL 48 #[u,u'] W (.tuple #[.bool true,.int .i64 0])):=fun W u u' hW h1 h2=>by
  obtain ⟨ps,hF⟩:=hT.hC;exact Z0B n C C u u' W h1 h2 hRT.chk hRT.chk (fun x hx=>Z4N hF hT.lC hT.bC (hT.bC x hx).2 ((hT.bC x hx).1.mono (by decide)) (Z2s hx)) (oS.pow.ext hW) (n7 hp hW.size)
 obtain ⟨B,hB⟩:=oN ((C == C' && M == M'));rw [hB] at HSC GX AN GS;have MU:(B != B)=false:=by simp
 clear ph qm rB q9 hx4 hy4 hsh hsk h h' oS hp B4 By rG hP o4 key hD Fz Iw hT hRT hC hM xG B7 B6 tQ hRT' DG xh vZ hX hY EX EW DH hB hn4;subst hn
 go_enter func7,ntmps7
 obtain ⟨W0,tO⟩:=oN (w.alloc (.cells #[.int .u8 c,.slice a xss.length cp,.bool vals] 24));obtain ⟨W9,ry⟩:=oN (W0.alloc (.cells #[.int .u8 d,.slice b yss.length cq,.bool valt] 24));have qG:aA w W0:=by rw [<- tO];exact aA.alloc _ _
 have pP:aA W0 W9:=by rw [<- ry];exact aA.alloc _ _
 have pD:W0.heap[w.heap.size]?=some (.cells #[.int .u8 c,.slice a xss.length cp,.bool vals] 24 (0,0)):=by rw [<- tO];exact dE _ _ _
 have HQ0:Hid (W9.heap[W0.heap.size]?=some (.cells #[.int .u8 d,.slice b yss.length cq,.bool valt] 24 (0,0))):=by rw [<- ry];exact dE _ _ _
 have HP0:=np (aF pD pP);have HE0:=np (qG.trans pP);have HSZ:Hid (w.heap.size<W0.heap.size):=by rw [<- tO];simp [Hid]
 clear qG pP pD;go_wp2_with fail;clear ry;refine (HKN _ HE0).mono ?_;rintro e w1 ⟨rfl,hE1⟩;have HE1:=np (HE0.trans hE1);have HP1:=np (aF HP0 hE1);have HQ1:=np (aF HQ0 hE1);obtain ⟨b0,pD⟩:=oN w.heap.size;obtain ⟨b1,hb1⟩:=oN W0.heap.size;rw [pD] at HP1 HSZ;rw [hb1] at HQ1 HSZ;rw [pD,hb1];clear hb1 tO;obtain ⟨p0,p1,p2⟩:=nS HP1;clear hE1 HE0 HP0 HQ0;go_wp2_with fail;refine (HF1 _ HE1).mono ?_;rintro e w2 ⟨rfl,hE2⟩;have HE2:=np (HE1.trans hE2);have HP2:=np (aF HP1 hE2);have HQ2:=np (aF HQ1 hE2);clear hE2 HE1 HP1 HQ1 p0 p1 p2;obtain ⟨q0,q1,q2⟩:=nS HQ2;go_wp2_with fail;refine (HF2 _ HE2).mono ?_;rintro e w3 ⟨rfl,oT⟩;have HE3:=np (HE2.trans oT);have HP3:=np (aF HP2 oT);have HQ3:=np (aF HQ2 oT);clear oT HE2 HP2 HQ2 q0 q1 q2;have q0:=ag HQ3 0;have p0:=ag HP3 0;have fq:=cO HQ3 0;simp only [oF,oE] at q0 p0;obtain ⟨wC,C8⟩:=oN (w3.setCell ⟨b1,0,none⟩ (.int .u8 c));have Cb:Hid (wC.heap[b0]?=some (.cells #[.int .u8 c,.slice a xss.length cp,.bool vals] 24 (0,0))):=by
  rw [<- C8];exact dn HP3 (eL _ _ _ _) (fun e=>by have:=HSZ.out;cases e;omega)
 have Iz:wC.heap[b1]?=some (.cells #[.int .u8 c,.slice b yss.length cq,.bool valt] 24 (0,0)):=by
  have:=d_ HQ3 0 (.int .u8 c);rw [C8] at this;simpa using this
 have HBQ:=np Iz;have AW:Hid (aA w wC):=by
  rw [<- C8];exact HE3.setCell (p:=⟨b1,0,none⟩) (by have:=HSZ.out;show w.heap.size<=b1;omega) _
 go_upto_region 4 with fail
 clear Iz C8 q0 p0 fq HP3 HQ3 HE3 HSZ pD HF1 HF2 HKN;refine o2_ (fun w'=>Hid (w'.heap[b0]?=some (.cells #[.int .u8 c,.slice a xss.length cp,.bool vals] 24 (0,0)))/\Hid (w'.heap[b1]?=some (.cells #[.int .u8 c,.slice b yss.length cq,.bool valt] 24 (0,0)))/\Hid (aA wC w')) 8 8 (by kernel_rfl) (by kernel_rfl) ⟨aF Cb (aA.drew wC),aF HBQ (aA.drew wC),aA.drew wC⟩ (fun ops hO oR=>?_);have hi:=jo hO 0 (by decide)
 conv at hi=>rhs;arg 1;whnf
 refine E2_ hO (v:=?_) 0 hi (by kernel_rfl) (by kernel_rfl) (by kernel_rfl) (by kernel_rfl) (fun _ _ _ h=>h) (Or.inl ⟨by rfl,?_⟩) (by assumption) ?_;rotate_left;·((intro w' qW);(try dsimp only at qW);have sb:=ag qW.1.out;(try go_simp);(try with_reducible rfl))
 clear hi
 (try simp only [Act.put,ao,aq,aw])
 have hi:=jo hO 2 (by decide)
 conv at hi=>rhs;arg 1;whnf
 refine E2_ hO (v:=?_) 2 hi (by kernel_rfl) (by kernel_rfl) (by kernel_rfl) (by kernel_rfl) (fun _ _ _ h=>h) (Or.inl ⟨by rfl,?_⟩) (by assumption) ?_;rotate_left;·((intro w' qW);(try dsimp only at qW);have sb:=ag qW.2.1.out;(try go_simp);(try with_reducible rfl))
 clear hi
 (try simp only [Act.put,ao,aq,aw])
 have LJ:Hid (wC.heap.size<=wC.drew.heap.size):=(aA.drew wC).size;refine Z0J (fun a0 xE=>?_);have ym:a0.tmps.size=124:=by rw [xE];rfl
 have eqA:a0.eval (.tmp 33)=.agg #[.int .u8 c,.slice a xss.length cp,.bool vals]:=by rw [xE];simp [Act.eval]
 have eqB:a0.eval (.tmp 35)=.agg #[.int .u8 c,.slice b yss.length cq,.bool valt]:=by rw [xE];simp [Act.eval]
 refine c8_ hO [(1,34),(3,36),(4,5),(5,6)] [[],[0],[],[]] (fun j=>decide (2<=j)) (jg wC P C M C' M') wC 2 6 (aA.drew wC) (by rfl) (by kernel_rfl) (by decide) (by rfl) (fun u hu=>⟨aF Cb hu,aF HBQ hu,hu⟩) jg.ext jg.box ?hstep ?hend
 case hstep =>
  rintro j t o vs u ht ho hJ hd K hK;have JA:Hid (aA w u):=AW.trans hJ.1;rcases j with _ | _ | _ | _ | j
  ·obtain rfl:(1,34)=t:=oA ht;have hi:=jo hO 1 (by decide)
   conv at hi=>rhs;arg 1;whnf
   obtain rfl:=oA (ho.symm.trans hi);clear hi ho;rw [if_pos (by rfl)];refine c2_ 16 _ _ rfl (enters_of func16 (by kernel_rfl) rfl) ((K0_ _ _ _ (by decide)).trans eqA) ((HM1 u JA).mono ?_);rintro e u2 ⟨v5,rfl,Fc,hE⟩;exact ⟨_,rfl,hK _ _ Fc hE (fun h=>by cases h)⟩
  ·obtain rfl:(3,36)=t:=oA ht;have hi:=jo hO 3 (by decide)
   conv at hi=>rhs;arg 1;whnf
   obtain rfl:=oA (ho.symm.trans hi);clear hi ho;rw [if_pos (by rfl)];refine c2_ 16 _ _ rfl (enters_of func16 (by kernel_rfl) rfl) ((K0_ _ _ _ (by decide)).trans eqB) ((HM2 u JA).mono ?_);rintro e u2 ⟨v5,rfl,Fc,hE⟩;exact ⟨_,rfl,hK _ _ Fc hE (fun h=>by cases h)⟩
  ·obtain rfl:(4,5)=t:=oA ht;have hi:=jo hO 4 (by decide)
   conv at hi=>rhs;arg 1;whnf
   obtain rfl:=oA (ho.symm.trans hi);clear hi ho;rw [if_pos (by rfl)];generalize cJ a0 _ vs=b9 at hK |-;go_simp;exact hK _ _ (h9_ hJ.1.size) (aA.alloc _ _) (fun _=>rfl)
  ·obtain rfl:(5,6)=t:=oA ht;have hi:=jo hO 5 (by decide)
   conv at hi=>rhs;arg 1;whnf
   obtain rfl:=oA (ho.symm.trans hi);clear hi ho;rw [if_pos (by rfl)];generalize cJ a0 _ vs=b9 at hK |-;go_simp;exact hK _ _ (h9_ hJ.1.size) (aA.alloc _ _) (fun _=>rfl)
  ·simp at ht
 case hend =>
  rintro vs u hl hall hJ;obtain ⟨v0,v1,v2,v3,rfl⟩:=Z1f hl hall;obtain ⟨p1,c1,m1,rfl,pZ,qI,pz⟩:bZ u v0 P C M:=hJ.2.1 0 v0 rfl;have JS:Hid (bZ u (.agg #[p1,c1,m1]) P C M):=⟨_,_,_,rfl,pZ,qI,pz⟩;obtain ⟨DL,Cf,rfl,-⟩:=pZ.open;obtain ⟨DN,Ch,rfl,-⟩:=aP.open qI;obtain ⟨DM,Cg,rfl,-⟩:=aP.open pz;obtain ⟨p2,c2,m2,rfl,pZ,qI,pz⟩:bZ u v1 P C' M':=hJ.2.1 1 v1 rfl;have JR:Hid (bZ u (.agg #[p2,c2,m2]) P C' M'):=⟨_,_,_,rfl,pZ,qI,pz⟩;obtain ⟨GK,DZ,rfl,-⟩:=pZ.open;obtain ⟨GQ,Df,rfl,-⟩:=aP.open qI;obtain ⟨GN,Dc,rfl,-⟩:=aP.open pz;obtain ⟨g3,rfl,rK,B8⟩:=hJ.2.1 2 v2 rfl;obtain ⟨g4,rfl,tK,DJ⟩:=hJ.2.1 3 v3 rfl;have hne:g3≠g4:=fun e=>hJ.2.2 2 3 (by rfl) (by rfl) (by decide) _ _ rfl rfl (by rw [e]);have HU:Hid (aA wC u):=hJ.1;have HB3:=np B8;have HB4:=np DJ;have HG3:Hid (wC.heap.size<=g3):=rK;have HG4:Hid (wC.heap.size<=g4):=tK;clear hl hall hJ pZ qI pz B8 DJ rK tK;simp only [cJ];rw [xE];clear eqA eqB ym xE
  (try simp only [Act.put,ao,aq,aw])
  have kk:=ag HB3;have ff:=cO HB3;have hi:=jo hO 6 (by decide)
  conv at hi=>rhs;arg 1;whnf
  refine c6_ hO 6 (by kernel_rfl) hi (fun K hK=>?_);go_simp;generalize tU:World.setCell _ _ _=ua;have wM:Hid (aA wC ua):=by rw [<- tU];exact iB HU HG3 _ _ _
  have yW:Hid (ua.heap[g3]?=some (.cells #[.slice DL P.length Cf,.slice DN C.length Ch,.slice DM M.length Cg] 34 (0,0))):=by rw [<- tU];exact iQ HB3 _ _ _
  have rV:Hid (ua.heap[g4]?=some (.cells lW 34 (0,0))):=by rw [<- tU];exact dn HB4 (mI _ _ _ _ _) (fun e=>hne (oA e))
  have ya:Hid (bZ ua (.agg #[.slice DL P.length Cf,.slice DN C.length Ch,.slice DM M.length Cg]) P C M):=by rw [<- tU];exact R0_ JS HN1.1 HN1.2 HB3 (mI _ _ _ _ _)
  have yY:Hid (bZ ua (.agg #[.slice GK P.length DZ,.slice GQ C'.length Df,.slice GN M'.length Dc]) P C' M'):=by rw [<- tU];exact R0_ JR pY.1 pY.2 HB3 (mI _ _ _ _ _)
  clear tU kk ff;refine hK _ _ ⟨aF Cb wM,aF HBQ wM,wM⟩ (fun oR=>?_);clear hK K hi
  (try simp only [Act.put,ao,aq,aw])
  have kk:=ag rV;have ff:=cO rV;have hi:=jo hO 7 (by decide)
  conv at hi=>rhs;arg 1;whnf
  refine c5_ hO 7 (by kernel_rfl) (by kernel_rfl) hi (fun K hK=>?_);go_simp;generalize tU:World.setCell _ _ _=ub;have wL:Hid (aA wC ub):=by rw [<- tU];exact iB wM HG4 _ _ _
  have yU:Hid (ub.heap[g4]?=some (.cells #[.slice GK P.length DZ,.slice GQ C'.length Df,.slice GN M'.length Dc] 34 (0,0))):=by rw [<- tU];exact iQ rV _ _ _
  have yV:Hid (ub.heap[g3]?=some (.cells #[.slice DL P.length Cf,.slice DN C.length Ch,.slice DM M.length Cg] 34 (0,0))):=by rw [<- tU];exact dn yW (mI _ _ _ _ _) (fun e=>hne (oA e).symm)
  have yZ:Hid (bZ ub (.agg #[.slice DL P.length Cf,.slice DN C.length Ch,.slice DM M.length Cg]) P C M):=by rw [<- tU];exact R0_ ya HN1.1 HN1.2 rV (mI _ _ _ _ _)
  have yX:Hid (bZ ub (.agg #[.slice GK P.length DZ,.slice GQ C'.length Df,.slice GN M'.length Dc]) P C' M'):=by rw [<- tU];exact R0_ yY pY.1 pY.2 rV (mI _ _ _ _ _)
  clear tU kk ff;refine hK _ _ ⟨aF Cb wL,aF HBQ wL,wL⟩ ?_;clear hK K hi hO
  (try simp only [Act.put,ao,aq,aw])
  have HE:=np (AW.trans wL);have HB3:=np yV;have HB4:=np yU;have HQ1:=np (G4_ yZ);have HQ2:=np (G4_ yX);clear HU HG3 HG4 JS JR wM yW rV ya yY wL yV yU hne AW Cb HBQ oR LJ HM1 HM2 HN1 pY yZ yX;obtain ⟨s0,s1,s2,-⟩:=bc HB3;obtain ⟨t0,t1,t2,-⟩:=bc HB4;go_wp2_with fail;refine (HSC _ _ _ _ HE HQ1.1 HQ1.2.1 HQ2.2.1).mono ?_;rintro e w4 ⟨rfl,hE⟩;have HE:=np (HE.trans hE);have HB3:=np (aF HB3 hE);have HB4:=np (aF HB4 hE);have HQ1:=np (And.intro (HQ1.1.ext hE) (And.intro (HQ1.2.1.ext hE) (HQ1.2.2.ext hE)));have HQ2:=np (And.intro (HQ2.1.ext hE) (And.intro (HQ2.2.1.ext hE) (HQ2.2.2.ext hE)));clear hE s0 s1 s2 t0 t1 t2 HSC;obtain ⟨s0,s1,s2,-⟩:=bc HB3;obtain ⟨t0,t1,t2,-⟩:=bc HB4;go_wp2_with fail;refine (GX _ _ _ _ HE HQ1.1 HQ1.2.2 HQ2.2.2).mono ?_;rintro e w5 ⟨rfl,hE⟩;have HE:=np (HE.trans hE);have HB3:=np (aF HB3 hE);have HB4:=np (aF HB4 hE);have HQ1:=np (And.intro (HQ1.1.ext hE) (And.intro (HQ1.2.1.ext hE) (HQ1.2.2.ext hE)));have HQ2:=np (And.intro (HQ2.1.ext hE) (And.intro (HQ2.2.1.ext hE) (HQ2.2.2.ext hE)));clear hE s0 s1 s2 t0 t1 t2 GX;obtain ⟨s0,s1,s2,-⟩:=bc HB3;obtain ⟨t0,t1,t2,-⟩:=bc HB4;go_wp2_with fail;refine (JC _ _ HE ⟨_,_,_,rfl,HQ1.1,HQ1.2.1,HQ1.2.2⟩).mono ?_;rintro e w6 ⟨a6,c6,rfl,hL,hE⟩;obtain ⟨V6,FY,hX,hs,hb⟩:=mb w6 (.int .i64 0) (.int .i64 0) (.slice none 0 0);have r0:=ag hb;have f0:=cO hb;have HB6:=np (kf hb (.int .i64 P.length) (.int .i64 M.length) (.slice a6 X.length c6));have hX:=ke (B:=w6.heap.size) hX (n9 _) (.int .i64 P.length) (.int .i64 M.length) (.slice a6 X.length c6);obtain ⟨U6,AG⟩:=oN (((V6.setCell ⟨w6.heap.size,0,none⟩ (.int .i64 P.length)).setCell ⟨w6.heap.size,1,none⟩ (.int .i64 M.length)).setCell ⟨w6.heap.size,2,none⟩ (.slice a6 X.length c6));rw [AG] at HB6 hX;have HL6:=np (aR.ext numC.mono' hL hX);have hE:=hE.trans hX;have HE:=np (HE.trans hE);have HB3:=np (aF HB3 hE);have HB4:=np (aF HB4 hE);have HQ1:=np (And.intro (HQ1.1.ext hE) (And.intro (HQ1.2.1.ext hE) (HQ1.2.2.ext hE)));have HQ2:=np (And.intro (HQ2.1.ext hE) (And.intro (HQ2.2.1.ext hE) (HQ2.2.2.ext hE)));clear hE s0 s1 s2 t0 t1 t2 hX hs hb hL JC;obtain ⟨s0,s1,s2,-⟩:=bc HB3;obtain ⟨t0,t1,t2,-⟩:=bc HB4;have x0:=ag HB6;go_wp2_with fail;clear AG FY r0 f0 x0;refine (JB _ _ HE ⟨_,_,_,rfl,HQ2.1,HQ2.2.1,HQ2.2.2⟩).mono ?_;rintro e w7 ⟨a7,c7,rfl,hL,hE⟩;obtain ⟨V7,Bg,hX,hs,hb⟩:=mb w7 (.int .i64 0) (.int .i64 0) (.slice none 0 0);have r0:=ag hb;have f0:=cO hb;have HB7:=np (kf hb (.int .i64 P.length) (.int .i64 M'.length) (.slice a7 Y.length c7));have hX:=ke (B:=w7.heap.size) hX (n9 _) (.int .i64 P.length) (.int .i64 M'.length) (.slice a7 Y.length c7);obtain ⟨U7,yJ⟩:=oN (((V7.setCell ⟨w7.heap.size,0,none⟩ (.int .i64 P.length)).setCell ⟨w7.heap.size,1,none⟩ (.int .i64 M'.length)).setCell ⟨w7.heap.size,2,none⟩ (.slice a7 Y.length c7));rw [yJ] at HB7 hX;have HL7:=np (aR.ext numC.mono' hL hX);have hE:=hE.trans hX;have HE:=np (HE.trans hE);have HB3:=np (aF HB3 hE);have HB4:=np (aF HB4 hE);have HQ1:=np (And.intro (HQ1.1.ext hE) (And.intro (HQ1.2.1.ext hE) (HQ1.2.2.ext hE)));have HQ2:=np (And.intro (HQ2.1.ext hE) (And.intro (HQ2.2.1.ext hE) (HQ2.2.2.ext hE)));have HB6:=np (aF HB6 hE);have HL6:=np (aR.ext numC.mono' HL6 hE);clear hE s0 s1 s2 t0 t1 t2 hX hs hb hL JB;obtain ⟨s0,s1,s2,-⟩:=bc HB3;obtain ⟨t0,t1,t2,-⟩:=bc HB4;have x0:=ag HB6;have y0:=ag HB7;go_wp2_with fail;clear yJ Bg r0 f0;refine (AN _ _ _ ⟨_,_,_,rfl,HQ1.1,HQ1.2.1,HQ1.2.2⟩ ⟨_,_,_,rfl,HQ2.1,HQ2.2.1,HQ2.2.2⟩).mono ?_;rintro e w8 ⟨rfl,hE⟩;have HE:=np (HE.trans hE);have HB3:=np (aF HB3 hE);have HB4:=np (aF HB4 hE);have HQ1:=np (And.intro (HQ1.1.ext hE) (And.intro (HQ1.2.1.ext hE) (HQ1.2.2.ext hE)));have HQ2:=np (And.intro (HQ2.1.ext hE) (And.intro (HQ2.2.1.ext hE) (HQ2.2.2.ext hE)));have HB6:=np (aF HB6 hE);have HL6:=np (aR.ext numC.mono' HL6 hE);have HB7:=np (aF HB7 hE);have HL7:=np (aR.ext numC.mono' HL7 hE);clear hE s0 s1 s2 t0 t1 t2 x0 y0 AN;obtain ⟨s0,s1,s2,-⟩:=bc HB3;obtain ⟨t0,t1,t2,-⟩:=bc HB4;have x0:=ag HB6;have y0:=ag HB7;go_wp2_with fail;refine (GS _ _ _ _ _ HL6 HL7).mono ?_;rintro e w9 ⟨rfl,hE⟩;have HE:=np (HE.trans hE);have HB3:=np (aF HB3 hE);have HB4:=np (aF HB4 hE);have HQ1:=np (And.intro (HQ1.1.ext hE) (And.intro (HQ1.2.1.ext hE) (HQ1.2.2.ext hE)));have HQ2:=np (And.intro (HQ2.1.ext hE) (And.intro (HQ2.2.1.ext hE) (HQ2.2.2.ext hE)));clear hE s0 s1 s2 t0 t1 t2 x0 y0 GS HB6 HB7 HL6 HL7;obtain ⟨s0,s1,s2,-⟩:=bc HB3;obtain ⟨t0,t1,t2,-⟩:=bc HB4;go_wp2_with fail;refine (HLO _ _ HE HQ1.2.1).mono ?_;rintro e Ce ⟨a8,c8,rfl,hL,hE⟩;obtain ⟨V8,IZ,hX,hs,hb⟩:=cL Ce (.int .i64 0) (.slice none 0 0);obtain ⟨r0,r1,rf⟩:=bG hb;have f0:=rf 0;have f1:=rf 1;have HB8:=np (eE hb (.int .i64 P.length) (.slice a8 C.length c8));have hX:=db hX (n9 _) (.int .i64 P.length) (.slice a8 C.length c8);obtain ⟨U8,C9⟩:=oN ((V8.setCell ⟨Ce.heap.size,0,none⟩ (.int .i64 P.length)).setCell ⟨Ce.heap.size,1,none⟩ (.slice a8 C.length c8));rw [C9] at HB8 hX;have HL8:=np (hL.ext hX);have HE:=np (HE.trans (hE.trans hX));obtain ⟨z0,z1,-⟩:=bG HB8;clear hX hs hb rf hL hE s0 s1 s2 t0 t1 t2 HB3 HB4 HQ1 HQ2 HLO;go_wp2_with fail;clear C9 IZ r0 r1 f0 f1;refine p_ (HWI _ _ _ HE ⟨_,rfl,HL8⟩ ⟨_,rfl,HL8⟩) (HE.trans) ?_;intro Lf HE;clear z0 z1;go_wp2_with fail;go_ret;exact ⟨rfl,HE⟩
end Go.Proofs.YtoonaddcfakamaaGreatDoor
namespace Go.Proofs.YtoonaddcfakamaaGreatDoor
open Go.ChangeShapes Go.WideShapes Go.ChangeAt Go.RowKit Go.Proofs.Tryz
theorem Z5D:ownKnob prog.godebug=none:=by kernel_rfl
theorem Z4T:laidOutB prog=true:=by kernel_rfl
theorem R2_ {H:Type} {enc:TypeId×Value->H} {P:Program} (hl:laidOutB P=true) {W W':World} (hb:Below W.heap.size W W') :
  ∀ (ts:List TypeId) (vs:List Value) (ds:List (DataW H)) (ps:List MemPlace),(∀ t∈ts,P.readableRec t=true/\t<P.types.size) ->
   DataW.TrodAll enc P W 0 (fun _=>true) true ts vs ds ps->(∀ x∈ps,x.block<W.heap.size)->DataW.TrodAll enc P W' 0 (fun b=>decide (b<W.heap.size)) true ts vs ds ps
 | [],[],[],ps,_,h,_=>h
 | t::ts,v::vs,d::ds,ps,hr,h,hlt=>by
  obtain ⟨p,p',h1,h2,rfl⟩:=h;exact ⟨p,p',Below.trod hl (hr t (by simp)).1 (hr t (by simp)).2 h1 hb (fun x hx=>hlt x (by simp [hx])),R2_ hl hb ts vs ds p' (fun t ht=>hr t (by simp [ht])) h2 (fun x hx=>hlt x (by simp [hx])),rfl⟩
 | [],v::vs,_,_,_,h,_=>absurd h (by simp [DataW.TrodAll])
 | [],[],d::ds,_,_,h,_=>absurd h (by simp [DataW.TrodAll])
 | t::ts,[],_,_,_,h,_=>absurd h (by simp [DataW.TrodAll])
 | t::ts,v::vs,[],_,_,h,_=>absurd h (by simp [DataW.TrodAll])
theorem Z4U {H:Type} {enc:TypeId×Value->H} {f:Func} {s:ChangeSpec} {W W':World} {args:Array Value} {ds:List (DataW H)} {before:List MemPlace}
  (hW:DataW.Whole enc prog f.params.toList s.vars false W args.toList ds [] before) (hA:DataW.TrodAll enc prog W 0 (fun _=>true) true f.params.toList args.toList ds before)
  (hv:s.vars=[]) (D8:f.resultTypes=#[4]) (sH:s.fn H (ds++[])={ results:=[.lit (.bool true)],args:=ds }) (hr:∀ t∈f.params.toList,prog.readableRec t=true/\t<prog.types.size) (hb:Below W.heap.size W W') :
  ∃ v,Ending.returned (.bool true)=Ending.returned v/\ChangeSpec.post enc prog f s false true false false W args v W':=by
 refine ⟨_,rfl,ds,[],before,[],before,[],hW,?_,?_,?_,?_,fun h=>by cases h⟩
 ·rw [sH,D8];exact trodAll_cons_mk (shut_bool underlying4 _) trodAll_mk0
 ·rw [sH];exact R2_ Z4T hb _ _ _ _ hr hA (fun x hx=>by simpa using hW.lt x hx)
 ·rw [sH,hv];rfl
 ·exact hb.frame _
abbrev Z3u : List (String × DataW Unit) := [("math/bits.deBruijn32tab", Rows.laid_math_bits_deBruijn32tab), ("math/bits.deBruijn64tab", Rows.laid_math_bits_deBruijn64tab), ("internal/strconv.uint64pow10", Rows.laid_internal_strconv_uint64pow10), ("strconv.ErrRange", Rows.laid_strconv_ErrRange), ("strconv.ErrSyntax", Rows.laid_strconv_ErrSyntax)]
theorem v0_ {W:World} (h:laidMetH prog Z3u W):aZ W:=by
 rw [MakeChecks.laidMetH_plain _ _ _ (by kernel_rfl)] at h;have h2:=laidMet.tail (laidMet.tail h);exact Lib.tabIs_of_head (g:=3) (t:=391) (e:=197) (n:=20) (by kernel_rfl) (by kernel_rfl) (by kernel_rfl) (by kernel_rfl) (by kernel_rfl) (by kernel_rfl) h2
theorem W9_ {H:Type} {enc:TypeId×Value->H} {a:Assume} {C:Checked} {os:Os} {f:FuncId} {fn:Func} {s:ChangeSpec} {conds:List PathCond} {apart fresh handsOn again:Bool} {X:World->Array Value->Prop}
  (hX:∀ (w w':World) (args:Array Value),w.heap=w'.heap->X w args->X w' args)
  (own:ownKnob C.prog.godebug=none) (started:os.Started) (noInit:C.prog.inits.idxOf? f=none) (sH:C.prog.funcs[f]?=some fn)
  (witness:∃ (w:World) (tape:Tape) (i:Input),w.os=os/\(w.forCall tape i).Shaped C.prog/\i.vars=[]/\Input.okWide C.prog (w.forCall tape i) .any w.heap.size f i /\
   ((s.pre enc C.prog fn conds apart (w.forCall tape i).memory i.args/\X (w.forCall tape i).memory i.args)/\sizedMet enc C.prog fn (OpenSpec.ofChange s) apart (w.forCall tape i).memory i.args)/\a.holds C.prog (lone (Frame.enter C.prog f i.args .normal) [] (w.forCall tape i)))
  (contract:∀ (W:World) (base:Nat) (args:Array Value) (ds gs:List (DataW H)) (before:List MemPlace),
   (∀ (j:Nat) t v,fn.params[j]?=some t->args[j]?=some v->Value.okWide C.prog W .any base t v) ->
   DataW.Whole enc C.prog fn.params.toList s.vars apart W args.toList ds gs before ->
   conds.all (PathCond.test C.prog ⟨fn.params.toList,ds,s.plain.varTypes C.prog,gs⟩)=true ->
   (DataW.weightsEach C.prog (fn.params.toList++s.plain.varTypes C.prog) (ds++gs)).all (·<=reachBytes)=true->X W args ->
   W.ShapedOpen C.prog ->
   a.holds C.prog (lone (Frame.enter C.prog f args .normal) [] W) ->
   Calls C.prog f args W fun e W'=>∃ v,e=.returned v/\s.post enc C.prog fn apart fresh handsOn again W args v W') :
  ReturnsInHanded a C os f .any (fun w args=>(s.pre enc C.prog fn conds apart w args/\X w args)/\sizedMet enc C.prog fn (OpenSpec.ofChange s) apart w args) (s.post enc C.prog fn apart fresh handsOn again):=by
 refine returnsInHanded_of_calls own started noInit witness ?_;intro w tape i _ hsh _ og EB y5;obtain ⟨_,_,_,fn',Ev,_,_,_,_,se⟩:=og;have e:fn'=fn:=oA (Ev.symm.trans sH);subst e;obtain ⟨⟨⟨ds,gs,before,hw,hc⟩,hx⟩,hz⟩:=EB;have hw':=DataW.Whole.of_heap (w':=w.forCall tape i) (by rfl) hw;refine (contract (w.forCall tape i) w.heap.size i.args ds gs before se hw' hc (hz.weights hw) (hX _ _ _ (by rfl) hx) hsh y5).mono fun e W' ⟨v,he,hp⟩=>?_;subst he;exact ChangeSpec.post_blind hp
theorem Z0Y (os:Os) (args:Array Value):laidMetH prog Z3u ((World.laidAll prog os Z3u).forCall (fun _ _=>0) ⟨#[],args,[]⟩).memory:=by
 rw [MakeChecks.laidMetH_plain _ _ _ (by kernel_rfl)];exact laidMet_laidAll _ (by kernel_rfl) (by kernel_rfl)
theorem Z5w (u : TypeId) (h : prog.typeName? 3 u = some "*errors.errorString") : u = 394 :=
 typeName_ptr_named (nm := "errors.errorString") (by rw [show "*" ++ "errors.errorString" = "*errors.errorString" by decide]; kernel_rfl) (by kernel_rfl) (by decide) u (by rw [show "*" ++ "errors.errorString" = "*errors.errorString" by decide]; exact h)
theorem Z1L {W:World} (h:laidMetH prog Z3u W):bg W:=by
 have hp:=v0_ h;rw [MakeChecks.laidMetH_plain _ _ _ (by kernel_rfl)] at h;have h2:=laidMet.tail (laidMet.tail h);refine ⟨hp,?_⟩;have h4:=laidMet.tail h2;obtain ⟨a,s,hv,-⟩:=laid_sentinel (g:=2) (ti:=222) (tp:=394) (te:=396) (ts:=9) (ms:=_) (f:=_) h4 (by kernel_rfl) (by kernel_rfl) underlying222 Z5w underlying394 underlying396 rfl rfl underlying9 (by kernel_rfl) (by kernel_rfl);have hc := World.var?_cell (show prog.globalNamed "strconv.ErrRange" = some 2 by kernel_rfl) hv 0;exact ⟨_,_,by simpa using hc⟩
theorem Z5I {W:World} (h:aZ W):3<W.heap.size:=by
 unfold aZ Lib.TabIs at h;have hg : prog.globalNamed "internal/strconv.uint64pow10" = some 3 := by kernel_rfl
 by_cases hlt:3<W.heap.size;·exact hlt
 ·simp [World.var?,hg,Array.getElem?_eq_none (show W.heap.size<=3 by omega)] at h
theorem Z2T:prog.cellsOf 25=1:=by kernel_rfl
theorem Z2U:prog.cellsOf 5=1:=by kernel_rfl
theorem b3_:prog.cellsOf 26=4:=by kernel_rfl
theorem l0_:prog.cellsOf 22=1:=by kernel_rfl
theorem a3_ {H:Type} {enc:TypeId×Value->H} {W:World} {base:Nat} {spare:Nat->Bool} {held:Bool} {fuel:Nat} {cs:List Value} {y:DataW H×List MemPlace} (hl:cs.length=4)
  (hf:DataW.trod enc prog W base spare held fuel 26 cs=some y):∃ x:oQ,cs=x.map (Value.int .i8)/\x.length=4/\∀ a∈x,-128<=a/\a<=127:=by
 obtain ⟨a,b,c,e,rfl⟩:∃ a b c e,cs=[a,b,c,e]:=by
  match cs,hl with
  | [a,b,c,e],_=>exact ⟨a,b,c,e,rfl⟩
 obtain ⟨z0,z1,z2,z3,n,-,k0,k1,k2,k3⟩:=trod_array4 underlying26 Z2T hf;obtain ⟨y0,e0,-,w0⟩:=DataW.trod_int underlying25 k0;obtain ⟨y1,e1,-,w1⟩:=DataW.trod_int underlying25 k1;obtain ⟨y2,e2,-,w2⟩:=DataW.trod_int underlying25 k2;obtain ⟨y3,e3,-,w3⟩:=DataW.trod_int underlying25 k3;obtain rfl:a=.int .i8 y0:=by simpa using e0
 obtain rfl:b=.int .i8 y1:=by simpa using e1
 obtain rfl:c=.int .i8 y2:=by simpa using e2
 obtain rfl:e=.int .i8 y3:=by simpa using e3
 refine ⟨[y0,y1,y2,y3],rfl,rfl,fun x hx=>?_⟩;have h0:=bounds_i8 w0;have h1:=bounds_i8 w1;have h2:=bounds_i8 w2;have h3:=bounds_i8 w3;simp at hx;rcases hx with rfl | rfl | rfl | rfl <;> assumption
theorem Z3b {us:List (List Value)} (h:∀ u∈us,u.length=4) (j:Nat) (k:Nat) (hk:k<4):us.flatten[4*j+k]?=(us[j]?).bind (·[k]?):=by
 induction us generalizing j with
 | nil=>simp
 | cons u l ih =>
  have hu:=h u (by simp);rw [List.flatten_cons];cases j with
  | zero=>rw [oB (by omega)];simp
  | succ j =>
   rw [oC (by omega),show 4*(j+1)+k-u.length=4*j+k by omega,ih (fun x hx=>h x (by simp [hx])) j];simp
theorem a4_ {H:Type} {enc:TypeId×Value->H} {W:World} {base:Nat} {spare:Nat->Bool} {held:Bool} {c0:Value} {x:DataW H×List MemPlace} {fuel:Nat}
  (hf:DataW.trod enc prog W base spare held fuel 22 [c0]=some x):∃ xss,iR W c0 xss:=by
 rcases Go.Deep.open_slice underlying22 hf with ⟨th,hx⟩ | ⟨a,len,cap,m,n,D,Pl,th,_,hl,hm,hmm,hx,hV⟩
 ·obtain rfl:c0=.slice none 0 0:=by simpa using th
  exact ⟨[],[],rfl,by simp,⟨none,0,rfl,n9 _,Nat.zero_le _,fun _=>rfl,fun h=>absurd rfl h⟩,by simp⟩
 ·obtain rfl:c0=.slice (some a) len cap:=by simpa using th
  have hml:len<=m:=by rw [hmm];split <;> omega
  rw [b3_] at hV;have C6:∃ X:Nat->List Int,∀ i,i<m->(∀ k,k<4->W.cell? ((a.add (i*4)).add k)=((X i).map (Value.int .i8))[k]?)/\(X i).length=4/\∀ z∈X i,-128<=z/\z<=127:=by
   have:∀ i,i<m->∃ x:oQ,(∀ k,k<4->W.cell? ((a.add (i*4)).add k)=(x.map (Value.int .i8))[k]?)/\x.length=4/\∀ z∈x,-128<=z/\z<=127:=by
    intro i hi;obtain ⟨cs',h1,h2⟩:=hV i hi;obtain ⟨-,h3,h4⟩:=World.cells?_some h1;obtain ⟨x,h5,h6,h7⟩:=a3_ h3 h2;exact ⟨x,fun k hk=>by rw [h4 k hk,h5],h6,h7⟩
   refine ⟨fun i=>if h:i<m then Classical.choose (this i h) else [],fun i h=>?_⟩;simp only [h,↓reduceDIte];exact Classical.choose_spec (this i h)
  obtain ⟨X,hX⟩:=C6;have tY:∀ u∈(List.range len).map (fun i=>(X i).map (Value.int .i8)),u.length=4:=by
   intro u hu;obtain ⟨i,hi,rfl⟩:=List.mem_map.1 hu;rw [List.length_map];exact (hX i (by have:=List.mem_range.1 hi;omega)).2.1
  refine ⟨(List.range len).map X,(List.range len).map fun i=>(X i).map (Value.int .i8),by simp,tY,?_,?_⟩
  ·refine ⟨some a,cap,by simp,by simpa using hl,hm,(fun h=>by cases h),fun hne=>?_⟩;have hpos:0<len:=by
    rcases Nat.eq_zero_or_pos len with h0 | h0;·subst h0;simp at hne
    ·exact h0
   have h0:=(hX 0 (by omega)).1 0 (by omega);have h04:=(hX 0 (by omega)).2.1;rw [Go.Deep.add_add,nx,ns (by omega)] at h0;have CF:W.cell? a=some (.int .i8 (X 0)[0]):=(by simpa [Addr.add] using h0);have hs:a.spot=none:=by
    cases D1:a.spot with
    | none=>rfl
    | some s =>
     unfold World.cell? at CF;rw [D1] at CF
     split at CF <;> simp at CF
   refine ⟨a.block,a.off,by rw [<- hs],C5_ CF,fun j u hu=>?_⟩;have KN:j=4*(j / 4)+j%4:=(by omega);rw [KN,Z3b tY (j / 4) (j%4) (by omega)] at hu;obtain ⟨u0,h1,h2⟩:=Option.bind_eq_some_iff.1 hu;rw [nx] at h1;by_cases hj:j / 4<len
   ·rw [List.getElem?_range hj] at h1;simp at h1;subst h1;have hc2:=(hX (j / 4) (by omega)).1 (j%4) (by omega);rw [h2,Go.Deep.add_add,show j / 4*4+j%4=j by omega] at hc2;unfold Addr.add at hc2;by_cases yz:j=0
    ·subst yz;rw [if_pos rfl] at hc2;have ha:a=⟨a.block,a.off+0,none⟩:=(by cases a;simp only at hs;subst hs;rfl);rw [ha] at hc2;exact hc2
    ·rw [if_neg yz] at hc2;exact hc2
   ·rw [n_ (by simpa using hj)] at h1;cases h1
  ·intro j u x hu hx;rw [nx] at hu hx;by_cases hj:j<len
   ·rw [List.getElem?_range hj] at hu hx;simp at hu hx;subst hu;subst hx;exact ⟨rfl,(hX j (by omega)).2⟩
   ·rw [n_ (by simpa using hj)] at hu;cases hu
theorem l1_:prog.cellsOf 24=3:=by kernel_rfl
theorem m9_:prog.cellsOf 4=1:=by kernel_rfl
theorem H0_ {H:Type} {enc:TypeId×Value->H} {W:World} {r:Reach} {b0 base:Nat} {spare:Nat->Bool} {held:Bool} {v:Value} {d:DataW H} {ps:List MemPlace}
  (se:Value.okWide prog W r b0 24 v) (hd:DataW.Trod enc prog W base spare held 24 v d ps) :
  ∃ c u vals xss,v=.agg #[.int .u8 c,u,.bool vals]/\(0<=c/\c<=255)/\iR W u xss:=by
 obtain ⟨cs,rfl,hs⟩:=okWide_struct underlying24 se;obtain ⟨fuel,hf⟩:=hd;rw [l1_] at hs;obtain ⟨a,b,z,rfl⟩:∃ a b z,cs=#[a,b,z]:=by
  match cs,hs with
  | ⟨[a,b,z]⟩,_=>exact ⟨a,b,z,rfl⟩
 obtain ⟨xs,n,-,-,hl,hlen,hall⟩:=DataW.trod_struct underlying24 hf;have h0:=hall 0 _ rfl;have h1:=hall 1 _ rfl;have h2:=hall 2 _ rfl;have hx:xs.length=3:=hlen;rw [ns (by omega)] at h0 h1 h2;have k0:DataW.trod enc prog W base spare held n 5 [a]=some xs[0]:=by
  rw [<- h0];show _=DataW.trod enc prog W base spare held n 5 (([a,b,z].drop 0).take (prog.cellsOf 5));rw [Z2U];rfl
 have k1:DataW.trod enc prog W base spare held n 22 [b]=some xs[1]:=by
  rw [<- h1];show _=DataW.trod enc prog W base spare held n 22 (([a,b,z].drop 1).take (prog.cellsOf 22));rw [l0_];rfl
 have k2:DataW.trod enc prog W base spare held n 4 [z]=some xs[2]:=by
  rw [<- h2];show _=DataW.trod enc prog W base spare held n 4 (([a,b,z].drop 2).take (prog.cellsOf 4));rw [m9_];rfl
 obtain ⟨y0,e0,-,w0⟩:=DataW.trod_int underlying5 k0;obtain ⟨xss,hxs⟩:=a4_ k1;obtain ⟨bb,e2,-⟩:=DataW.trod_bool underlying4 k2;obtain rfl:a=.int .u8 y0:=by simpa using e0
 obtain rfl:z=.bool bb:=by simpa using e2
 exact ⟨y0,b,bb,xss,rfl,bounds_u8 w0,hxs⟩
theorem W1_ (os:Os) (started:os.Started) (H:Type) (enc:TypeId×Value->H) :
  ReturnsInHanded {} checked os 7 .any (fun w args=>(Rows.invariantAgreesSpec.pre enc prog f7 [] false w args/\laidMetH prog Rows.invariantAgreesRow.laid w)/\sizedMet enc prog f7 (OpenSpec.ofChange Rows.invariantAgreesSpec) false w args)
   (Rows.invariantAgreesSpec.post enc prog f7 false true false false):=by
 refine W9_ (C:=checked) (X:=fun w _=>laidMetH prog Rows.invariantAgreesRow.laid w) (fun _ _ _ hh h=>h.of_heap hh) Z5D started (by kernel_rfl) func7
  (ChangeSpec.witness_shaped (enc:=enc) (C:=checked) (os:=os) (X:=fun w _=>laidMetH prog Rows.invariantAgreesRow.laid w) false (World.laidAll prog os Rows.invariantAgreesRow.laid) #[.agg #[.int .u8 0,.slice none 0 0,.bool false],.agg #[.int .u8 0,.slice none 0 0,.bool false]] 8 (World.laidAll_os _ _ _) (World.shaped_of_ZipB (by kernel_rfl) (by kernel_rfl)) (by kernel_rfl) (by kernel_rfl) (by kernel_rfl) (Z0Y os _)) ?_
 intro W base args ds gs before xt hW _ _ hL MR _;have se:∀ (j:Nat) t v,f7.params[j]?=some t->args[j]?=some v->Value.okWide prog W .any base t v:=xt;have hW':=hW;obtain ⟨p,q,I4,hV,rfl,MF,Ct⟩:=hW;have hA:DataW.TrodAll enc prog W 0 (fun _=>true) true f7.params.toList args.toList ds p:=I4;have hAk:=hA;rw [params7] at hA se;obtain ⟨v0,Lh,d0,MX,p0,q0,IS,rfl,rfl,h0,r0⟩:=trodAll_cons hA;obtain ⟨v1,Lg,d1,MW,p1,q1,rfl,rfl,rfl,h1,r1⟩:=trodAll_cons r0;obtain ⟨rfl,rfl,rfl⟩:=trodAll_nil r1;obtain rfl:args=#[v0,v1]:=by cases args;simp_all
 obtain ⟨rfl,rfl⟩:=trodVars_none hV;obtain ⟨c0,u0,b0,DV,rfl,sx,pQ⟩:=H0_ (se 0 24 v0 rfl rfl) h0;obtain ⟨c1,u1,b1,DU,rfl,pc,pM⟩:=H0_ (se 1 24 v1 rfl rfl) h1;clear I4 xt;simp only [List.append_nil] at hW' hAk;refine (m3_ c0 sx.1 sx.2 b0 DV u0 c1 pc.1 pc.2 b1 DU u1 W pQ pM (Z1L hL) (Z5I (Z1L hL).pow)).mono fun e W' ⟨he,hg⟩=>?_;subst he;exact Z4U hW' (by simpa using hAk) rfl (by kernel_rfl) rfl (of_decide_eq_true (by kernel_rfl)) hg
theorem W6_:joinedFacts Tryz.pinned.checked.prog 7 f7 Rows.invariantAgreesSpec Rows.invariantAgreesRow=true:=by
 unfold joinedFacts
 iterate 31 refine Bool.and_eq_true_iff.mpr ⟨?_,?_⟩
 all_goals (as_aux_lemma=>kernel_rfl)
theorem U2_:Rows.InvariantAgreesSaid :=
 OpenClaim.holds_of_wide 7 f7 rfl rfl rfl rfl rfl rfl rfl ⟨rfl,rfl,rfl,rfl,rfl⟩ rfl rfl rfl rfl rfl (by kernel_rfl) func7 W6_
  (of_decide_eq_true (by kernel_rfl)) (by unfold Func.isWrapper;first | (rw [if_pos (by decide +kernel)];kernel_rfl) | (rw [if_neg (by decide +kernel)];exact ⟨rfl,rfl⟩))
  (fun os started H enc _=>W1_ os started H enc)
end Go.Proofs.YtoonaddcfakamaaGreatDoor
