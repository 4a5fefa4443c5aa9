import Derived.Test.YtoonaddcfakamaaGreatDoorYAL
import Derived.Test.YtoonaddcfakamaaGreatDoorYAA
import Derived.Test.YtoonaddcfakamaaGreatDoorYAG
import Derived.Test.YtoonaddcfakamaaGreatDoorYAI
import Derived.Lib.SliceRun
import Derived.WalkSpells
import Derived.Laws.AppendOwnNone
import Derived.RegionTactic
import Derived.Test.YtoonaddcfakamaaGreatDoorYAF
import Derived.Test.YtoonaddcfakamaaGreatDoorProg
set_option linter.unusedVariables false
set_option linter.unusedSimpArgs false
set_option maxRecDepth 1000000
set_option maxHeartbeats 4000000
namespace Go.Proofs.YtoonaddcfakamaaGreatDoor
open Go.RowKit Go.Proofs.Tryz
structure Z5W (n F:Nat) (R A S:oP):Prop where
 fA:∃ qa,aW n A qa
 fS:∃ ss,aW n S ss
 spA:∀ v,Sp n (aG 0 A) v↔cE n R v
 spS:∀ v,Sp n (aG 0 S) v↔fw n R v
 kR:eC F n R=some A
 kA:eC F n A=some S
 kS:eC F n S=some A
 rR:A.length+R.length=n
 rS:A.length+S.length=n
 bA:∀ x∈A,aN 629856 x/\x.length=n
 bS:∀ x∈S,aN 629856 x/\x.length=n
theorem nL {k:Nat} (hk:k<=4):k*eV 9 k<=629856:=by
 have hc:k=0\/k=1\/k=2\/k=3\/k=4:=by omega
 rcases hc with h | h | h | h | h <;> rw [h] <;> decide
theorem Z6c {n:Nat} (hn:n<=4):n*eV 629856 n<=10^26:=by
 have hc:n=0\/n=1\/n=2\/n=3\/n=4:=by omega
 rcases hc with h | h | h | h | h <;> rw [h] <;> decide
theorem gsz {n:Nat} (hn:n<=4):(gN n 6 0).1+1<=400000000/\(gN n 6 0).2+1<=400000000/\(gN n 26 0).1+1<=400000000/\(gN n 26 0).2+1<=400000000:=by
 have hc:n=0\/n=1\/n=2\/n=3\/n=4:=by omega
 rcases hc with h | h | h | h | h <;> rw [h] <;> decide
theorem I1_ {n:Nat} {R:oP} {ps:Nat->Nat} (h:aW n R ps):R.length<=n:=by
 have key:∀ i,i<R.length->i<=ps i:=by
  intro i
  induction i with
  | zero=>intro _;omega
  | succ i ih=>intro hi;have h1:=ih (by omega);have h2:=h.2.mono i (i+1) (by omega) hi;omega
 rcases Nat.eq_zero_or_pos R.length with h0 | h0;·omega
 ·have h1:=key (R.length-1) (by omega);have h2:=h.2.lt (R.length-1) (by omega);omega
theorem Z2o (v:oQ):bW 1 v=v:=by
 unfold bW;rw [List.map_congr_left (g:=id) (fun x _=>by simp)];simp
theorem Z4s {n:Nat} {m:oP} (hm:ae n m) {v:oQ} (h:Sp n (aG 0 m) v):fw n m v :=
 ⟨h.len (cR hm),1,by decide,by rw [Z2o];exact h⟩
theorem Z0I {n:Nat} {m:oP} (hm:ae n m) {v u:oQ} (h:fw n m v) (hu:cE n m u):a_ v u n=0:=by
 obtain ⟨-,D,hD,hs⟩:=h;have:=lN hm hs hu;rw [fV,T7_,fV] at this;rcases Int.mul_eq_zero.1 this with h | h;·exact absurd h hD
 ·exact h
theorem C0_ {n:Nat} {R T:oP} {ps qs:Nat->Nat} (hR:aW n R ps) (hT:aW n T qs) (h:∀ v,Sp n (aG 0 R) v↔Sp n (aG 0 T) v):R=T :=
 kO hR hT ⟨fun r hr=>(h r).1 (.mem hr),fun r hr=>(h r).2 (.mem hr)⟩
theorem Z23 {n:Nat} {m R:oP} {ps:Nat->Nat} (hn:n<=4) (hw:∀ x∈m,x.length=n) (h9:∀ x∈m,aN 9 x) (hR:aW n R ps) (hs:bP n (aG 0 m) (aG 0 R)):∃ F A S,Z5W n F R A S:=by
 have zI:ae n m:=fun i hi=>hw _ (eZ hi);have hg:=gsz hn;have Ke:∀ x∈R,aN 629856 x:=fun x hx=>by
  obtain ⟨i,hi,rfl⟩:=jS hx;exact (R9_ (N:=9) hR zI (fun j hj=>h9 _ (eZ hj)) hs i hi).mono (nL (by have:=I1_ hR;omega))
 have KB:∀ x∈R,x.length=n:=fun x hx=>by obtain ⟨i,hi,rfl⟩:=jS hx;exact hR.1 i hi
 obtain ⟨F1,A,qa,a1,a2,a3,-,a5,a6,a7⟩:=nI n 629856 6 26 R KB Ke (by decide) (by decide) (Z6c hn) hg.1 hg.2.1 hg.2.2.1 hg.2.2.2;obtain ⟨-,A',qa',-,b2,b3,b4,-,-,-⟩:=nI n 9 6 26 m hw h9 (by decide) (by decide) (n8 (nL hn) (by decide)) hg.1 hg.2.1 hg.2.2.1 hg.2.2.2;have GC:A=A':=C0_ a2 b2 fun v=>by rw [a3,b3];exact (Z0H zI hR.1 hs v).symm
 have FM:∀ x∈A,aN 629856 x/\x.length=n:=fun x hx=>by
  have:=b4 x (by rw [<- GC];exact hx);exact ⟨this.1.mono (nL hn),this.2⟩
 obtain ⟨F2,S,ss,c1,c2,c3,-,c5,c6,c7⟩:=nI n 629856 6 26 A (fun x hx=>(FM x hx).2) (fun x hx=>(FM x hx).1) (by decide) (by decide) (Z6c hn) hg.1 hg.2.1 hg.2.2.1 hg.2.2.2;have vT:∀ v,Sp n (aG 0 S) v↔fw n R v:=by
  intro v;rw [c3];constructor
  ·intro hv;obtain ⟨D,hD,h⟩:=a7 v hv.1 fun u hu=>lN a2.1 ((a3 u).2 hu) hv;exact ⟨hv.1,D,hD,h⟩
  ·intro hv;refine ⟨hv.1,fun i hi=>?_⟩;rw [fV];exact Z0I hR.1 hv ((a3 _).1 (.mem (ak (Nat.zero_le i) hi)))
 have FL:∀ x∈S,aN 629856 x/\x.length=n:=fun x hx=>by
  obtain ⟨i,hi,rfl⟩:=jS hx;refine ⟨(S1_ (N:=9) (m:=m) c2 (fun j hj=>h9 _ (eZ hj)) (fun r hr=>(vT r).2 (Z4s hR.1 (hs.1 r hr))) (N0_ c2 zI fun j hj=>?_) i hi).mono (nL (by omega)),c2.1 i hi⟩;obtain ⟨-,D,hD,h⟩:=(vT _).1 (.mem (ak (Nat.zero_le j) hj));exact ⟨D,hD,(hs.iff _).2 h⟩
 obtain ⟨F3,B,bs,d1,d2,d3,-,d5,d6,d7⟩:=nI n 629856 6 26 S (fun x hx=>(FL x hx).2) (fun x hx=>(FL x hx).1) (by decide) (by decide) (Z6c hn) hg.1 hg.2.1 hg.2.2.1 hg.2.2.2;have K8:B=A:=C0_ d2 a2 fun v=>by
  rw [d3,a3];constructor
  ·intro hv;refine ⟨hv.1,fun i hi=>?_⟩;have:=lN c2.1 ((vT _).2 (Z4s hR.1 (.mem (ak (Nat.zero_le i) hi)))) hv;exact this
  ·intro hv;refine ⟨hv.1,fun i hi=>?_⟩;exact Z0I hR.1 ((vT _).1 (.mem (ak (Nat.zero_le i) hi))) hv
 rw [K8] at d1 d6;exact ⟨F1+F2+F3,A,S,⟨qa,a2⟩,⟨ss,c2⟩,a3,vT,ll (by omega) a1,ll (by omega) c1,ll (by omega) d1,a6 ps hR,d6 ss c2,FM,FL⟩
end Go.Proofs.YtoonaddcfakamaaGreatDoor
namespace Go.Proofs.YtoonaddcfakamaaGreatDoor
open Go.RowKit Go.Shelf Go.Proofs.Tryz
attribute [local go_sem] Oper.semAt_some
def ko (x:oQ):Int:=x.getD (fP x) 0
def gH (m:oP):Nat->Option Int
 | 0=>some 1
 | i+1=>match gH m i with
  | none=>none
  | some p=>if 0<=bt (aC m i)/\fg p=true/\fg (ko (aC m i))=true then some (p*ko (aC m i)) else none
theorem P6_ {m:oP} {i:Nat} {y:Int} (h:gH m (i+1)=some y):∃ p,gH m i=some p/\0<=bt (aC m i)/\fg p=true/\fg (ko (aC m i))=true/\y=p*ko (aC m i):=by
 unfold gH at h;cases hp:gH m i with
 | none=>rw [hp] at h;cases h
 | some p =>
  rw [hp] at h;simp only at h;by_cases hc:0<=bt (aC m i)/\fg p=true/\fg (ko (aC m i))=true
  ·rw [if_pos hc] at h;exact ⟨p,rfl,hc.1,hc.2.1,hc.2.2,(oA h).symm⟩
  ·rw [if_neg hc] at h;cases h
theorem B8_ {m:oP} {n:Nat}:∀ {y},gH m n=some y->∀ i,i<=n->∃ z,gH m i=some z:=by
 induction n with
 | zero =>
  intro y h i hi;obtain rfl:i=0:=by omega
  exact ⟨_,h⟩
 | succ n ih =>
  intro y h i hi;by_cases hn:i=n+1;·subst hn;exact ⟨_,h⟩
  ·obtain ⟨p,hp,-⟩:=P6_ h;exact ih hp i (by omega)
def Z5r (Q:Exit->Act->World->Prop):Exit->Act->World->Prop
 | .normal,a,w=>Q .normal a w
 | _,_,_=>False
theorem Z5n {P:Program} {c:Code} {Q:Exit->Act->World->Prop} {a:Act} {w:World} (h:c.wp P (Z5r Q) a w):c.wp P Q a w :=
 wp_mono h fun e a w hh=>by
  cases e with
  | normal=>exact hh
  | _=>exact hh.elim
def Z5S (q:Int) (w:World) (e:Ending) (w':World):Prop:=(if dc q=true then e=.returned (.tuple #[.int .i64 q,.int .i64 0]) else e=.returned (.tuple #[.int .i64 0,.int .i64 4]))/\aA w w'
theorem aH.more {bO:Nat} {w5 W W':World} {row:Option Nat} (h:aH (·=bO) w5 W) (hg:W.grownBy W' row) (hr:∀ r,row=some r->w5.heap.size<=r):aH (·=bO) w5 W' :=
 ⟨hg.os.trans h.os,hg.tape.trans h.tape,hg.output.trans h.output,n8 h.size hg.size,fun k hk hn=>(hg.block k (n7 hk h.size) (fun e=>by have:=hr k e.symm;omega)).trans (h.block k hk hn)⟩
theorem cG.keep {w w6 w':World} {base:Nat} {v:Value} {R:oP} (h:cG w base v R) (he:aA w w6) (hg:aH (·=w.heap.size) w6 w'):cG w' base v R:=by
 obtain ⟨a,c,h1,h2,h3,h4⟩:=h;refine ⟨a,c,h1,h2,h3,?_⟩;rcases h4 with h4 | ⟨g,tags,h5,h6,h7⟩
 ·exact .inl h4
 ·refine .inr ⟨g,tags,h5,(h6.ext he).same hg.size (fun b pd=>hg.block b ((h6.ext he).blt pd) (fun e=>?_)),h7⟩;have:=h6.blt pd;omega
theorem Z1o (n F:Nat) (xss K R:oP) (P Q:Int) (v:Value) (w:World) (h:bj w v n xss) (hE:bz n xss=0) (hn:1<=n) (qx:eC F n xss=some K) (hk:eC F n K=some R) (Fo:K.length<=900)
  (hP:gH xss xss.length=some P) (hQ:gH R R.length=some Q) (Ih:bX P=true) (Ie:bX Q=true) (Ig:Q≠0) (hq:bX (aQ P Q)=true) (hRl:R.length<=900) (oS:bg w) (hb:3<w.heap.size) :
  Calls prog 120 #[v] w (Z5S (aQ P Q) w):=by
 obtain ⟨l1,l2,l3,l4⟩:=jP (me hE).1;have HC:=np (fun W (hW:aA w W)=>kX n xss v W (h.ext hW));rw [hE] at HC;obtain ⟨u,rfl,hu⟩:=h;have HLO:=np (fun W (hW:aA w W)=>Q8_ xss u W (hu.ext hW) (by omega) (fun xs hx=>by have:=(l4 xs hx).2;omega) (oS.pow.ext hW));have HK1:=np (fun W V base (hM:cG W base V xss) (hW:aA w W)=>nK F n xss V base W K hM qx (by omega) hn (oS.pow.ext hW) (n7 hb hW.size));have HK2:=np (fun W V base (hM:cG W base V K) (hW:aA w W)=>nK F n K V base W R hM hk (by omega) hn (oS.pow.ext hW) (n7 hb hW.size));have HPV:=np (fun W (hW:aA w W)=>B6_ n xss u W (hu.ext hW));have HU:=np hu;have HLIB:=np oS;have HP:=np hP;have HQ:=np hQ;have HPS:=np Ih;have HQS:=np Ie;have HQ0:=np Ig;have HSQ:=np hq;have HRL:=np hRl;have HB:=np hb;have HL4:=np (fun x (hx:x∈xss)=>show x.length<=1000 by have:=(l4 x hx).2;omega);obtain ⟨a,c,rfl,h1,h2,-,hc⟩:=aP.open hu;clear hu hc hE hk oS l1 l2 l3 l4 hb qx Fo hP hQ Ih Ie Ig hq hRl;refine (callsIn_wide (n:=9)).1 ?_;refine callsIn_of_wp_marks func120 rfl trivial ?_ rfl;simp only [ntmps120,List.size_toArray,List.length_cons,List.length_nil,Nat.reduceAdd,Nat.reduceSub,Array.replicate_succ,Array.replicate_zero,List.push_toArray,List.append_toArray,List.nil_append,List.cons_append];obtain ⟨W1,oZ,hE1,hs1,hb1⟩:=cL w (.int .i64 n) (.slice a xss.length c);have HB1:=np hb1;have HE1:=np hE1;obtain ⟨sU,sR,-⟩:=bG hb1;clear hE1 hs1 hb1;refine wpIn_wide.2 ?_;go_wp2_with fail;refine (HC _ HE1).mono ?_;rintro e w1 ⟨rfl,oT⟩;have HE3:=np (HE1.trans oT);have g0:=oT.cell sU;have g1:=oT.cell sR;have HB3:=np (aF HB1 oT);have rz:Hid (w.heap.size<w1.heap.size):=c_ HB3;clear oT HC sU sR HB1 oZ;go_wp2_with fail;refine Z5n ?_;refine ks (fun w'=>w'.cell? ⟨w.heap.size,0,none⟩=some (.int .i64 n)/\w'.cell? ⟨w.heap.size,1,none⟩=some (.slice a xss.length c)/\Hid (aA w1 w')) 9 (by kernel_rfl) ⟨(aA.drew w1).cell g0,(aA.drew w1).cell g1,aA.drew w1⟩ (fun oR=>?_);refine rA [0,1,3,4,6,7] ?_
 iterate 6 ((first|(refine rL (v:=?_) (by rfl) (Or.inl ⟨by rfl,?_⟩) ?_;rotate_left;·((intro w' qW);(try dsimp only at qW);(try go_simp);(try with_reducible rfl)))|(refine rW (v:=?_) (by rfl) (Or.inl ⟨by rfl,?_⟩) ?_;rotate_left;·((intro w');(try go_simp);(try with_reducible rfl))));(try simp only [Act.put,ao,aq,aw]))
 refine rE ?_;refine dz 2 (by kernel_rfl) rfl (fun K hK=>?_);go_simp
 (go_at_call 131;refine (HLO _ (HE3.trans oR.2.2)).mono ?_)
 rintro e wx ⟨a2,c2,rfl,qR,oh⟩;have HM2:=np qR;go_wp2_with fail;refine hK _ _ ⟨(oh).cell oR.1,(oh).cell oR.2.1,aA.trans oR.2.2 (oh)⟩ (fun oR=>?_);clear hK K
 (try simp only [Act.put,ao,aq,aw])
 refine dz 5 (by kernel_rfl) rfl (fun K hK=>?_);go_simp
 (go_at_call 215;refine (HK1 _ _ _ HM2 (HE3.trans oR.2.2)).mono ?_)
 rintro e wy ⟨a3,c3,rfl,wI,oh⟩;have HM3:=np wI;go_wp2_with fail;refine hK _ _ ⟨(oh).cell oR.1,(oh).cell oR.2.1,aA.trans oR.2.2 (oh)⟩ (fun oR=>?_);clear hK K
 (try simp only [Act.put,ao,aq,aw])
 refine dz 8 (by kernel_rfl) rfl (fun K hK=>?_);go_simp
 (go_at_call 215;refine (HK2 _ _ _ HM3 (HE3.trans oR.2.2)).mono ?_)
 rintro e wv ⟨a4,c4,rfl,AI,oh⟩;have HM4:=np AI;have HSY:Hid (w1.heap.size<=wy.heap.size):=Below.size oR.2.2;go_wp2_with fail;refine hK _ _ ⟨(oh).cell oR.1,(oh).cell oR.2.1,aA.trans oR.2.2 (oh)⟩ (fun oR=>?_);clear hK K
 (try simp only [Act.put,ao,aq,aw])
 have I9:Hid (aA w1 wv):=oR.2.2.out;refine gX 9 (by kernel_rfl) (by kernel_rfl) (by kernel_rfl) rfl (fun K hK=>?_);go_simp;refine hK _ _ ?_;clear hK K
 (try simp only [Act.put,ao,aq,aw])
 unfold Z5r;obtain ⟨e0,e1,-⟩:=bG (aF HB3 I9);clear g0 g1 oR;obtain ⟨W5,tm⟩:=oN (wv.alloc (.cells #[.string (aB 1)] 92));have zX:aB 1=⟨#[49]⟩:=by kernel_rfl
 have FW:wv.alloc (.cells #[.string ⟨#[49]⟩] 92)=W5:=by rw [<- tm,zX]
 have oX:aA wv W5:=by rw [<- tm];exact aA.alloc _ _
 have hb5:W5.heap[wv.heap.size]?=some (.cells #[.string (aB 1)] 92 (0,0)):=by rw [<- tm];exact dE _ _ _
 have hs5:W5.heap.size=wv.heap.size+1:=by rw [<- tm];simp
 have HB5:=np hb5;have HS5:=np hs5;have HE5:=np oX;have HXW:Hid (aA w wv):=HE3.trans I9;have d0:=oX.cell e0;have d1:=oX.cell e1;clear tm hb5 hs5 oX e0 e1 zX;go_wp2_with fail;refine (HPV _ (HXW.trans HE5)).mono ?_;rintro e w6 ⟨bL,rfl,Bt,oU⟩;have HL6:=np Bt;have HB6:=np (aF HB5 oU);have HE6:=np (HXW.trans (HE5.trans oU));have HV6:=np (HE5.trans oU);have sZ:Hid (w.heap.size<=wv.heap.size/\wv.heap.size<w6.heap.size/\w.heap.size<wy.heap.size):=⟨HXW.size,by have:=HS5.out;have:=oU.size;omega,by have:=rz.out;have:=HSY.out;omega⟩;clear Bt oU d0 d1 FW;go_wp2_with fail;refine (wpIn_wide (n:=9)).1 ?_;refine V2_ rfl (by omega) (gf:=293) (lb:=#[.pointer (some ⟨bL,0,none⟩)]) rfl trivial (enters_of func293 (by kernel_rfl) rfl)
  (B5_ (9-1) (by omega) n xss _ bL w w6 HL6 HU HL4 HLIB.pow) (fun W h=>h)
  (fun i A W args hY=>by obtain ⟨x,gx,cx,-,rfl,-⟩:=hY;rfl)
  (fun i W=>∃ p,gH xss i=some p/\aH (·=wv.heap.size) w6 W/\W.heap[wv.heap.size]?=some (.cells #[.string (aB p)] 92 (0,0))) ?ab ?ix ⟨1,rfl,aH.refl _ _,HB6⟩ ?rounds ?done
 case ab =>
  rintro i W W' row ⟨p,h1,h2,h3⟩ hg hr;exact ⟨p,h1,h2.more hg (fun r e=>(hr r e).1),dn h3 hg (fun e=>by have:=(hr _ e).1;have:=sZ.2.1;omega)⟩
 case ix =>
  rintro i A ⟨p,h1,h2,h3⟩;exact Below.trans HE6 (h2.below (n8 sZ.1 (Nat.le_of_lt sZ.2.1)) (fun k hk=>by rw [hk];exact sZ.1))
 case rounds =>
  rintro i A W args hi ⟨p,rG,hG,hbx⟩ hE ⟨x,gx,cq,hx,rfl,xf,hgx,xX,xW⟩ ⟨r0,vD⟩;have Af:aC xss i=x:=eP hx;obtain ⟨z,hz⟩:=B8_ HP (i+1) (by omega);obtain ⟨p',e1,a1,a2,a3,a4⟩:=P6_ hz;rw [rG] at e1;obtain rfl:=oA e1;rw [Af] at a1 a3 a4;obtain ⟨b1,b2,b3⟩:=x8_ x a1;unfold ko at a3 a4;obtain ⟨C,hC⟩:=oN (fP x);rw [hC] at b1 b2 b3 a3 a4;obtain ⟨xc,vA⟩:=oN (x.getD C 0);have rm:x[C]?=some xc:=by rw [<- vA,nu,ns b1];rfl
  rw [vA] at a3 a4;have HMU:=np (fun V (hV:aA w V)=>Z6g p xc V (mB a2) (mB a3) (HLIB.pow.ext hV));rw [<- a4] at HMU;have HZ:=np hz;have HGX:Hid (gx≠w6.heap.size+1):=fun e=>by
   have h1:=xf.cell C xc rm;rw [Nat.zero_add] at h1;rw [e] at h1;unfold World.cell? at h1;rw [vD] at h1;simp at h1
  have HGR:=np (hG.ext hE);have HBX:=np (aF hbx hE);have HRX:=np xf;have HXG:=np rm;have LY:Hid (gx≠wv.heap.size):=fun e=>by have:=c_ hbx;omega
  rw [b2];unfold maxLen at xW;obtain ⟨NX,tR⟩:=oN x.length;rw [tR] at b1 xX |-;clear rG hG hbx hE hx Af xf hgx vD hz a1 a2 a3 a4 b2 b3 hC vA rm hi tR e1
  gi_wp2_with fail
  refine ⟨KeepsFrom.refl _ _,?_⟩;rintro Wb qL ⟨r1,pv⟩ ⟨r2,pF⟩;have hGb:=HGR.more qL (fun r e=>by cases e;omega);have hBb:=dn HBX qL (fun e=>by have:=oA e;have:=sZ.2.1;omega);have hXb:=HRX.same qL.size (qL.block gx HRX.lt (fun e=>HGX (oA e)));have t0:=ag hBb 0;have f0:=cO hBb 0;have t2:=hXb.cell C xc HXG;rw [Nat.zero_add] at t2;simp only [oF,oE,oD] at t0;have HGB:=np hGb;have HBB:=np hBb;have GR:Hid (aA w Wb):=Below.trans HE6 (hGb.below (n8 sZ.1 (Nat.le_of_lt sZ.2.1)) (fun k hk=>by rw [hk];exact sZ.1));have q2:(C:Int)<(NX:Int):=by omega
  clear hGb hBb hXb qL pv pF HGR HBX HRX HGX HXG
  gi_wp2_with fail
  refine Y0_ (fun w'=>w'.cell? ⟨wv.heap.size,0,none⟩=some (.string (aB p))/\w'.cell? ⟨gx,C,none⟩=some (.string (aB xc))/\Hid (aA Wb w')) 6 (by kernel_rfl) (by kernel_rfl) (by rintro ⟨_,_,h⟩;exact absurd (show Exit.outgrown=Exit.normal from h.1) (by simp)) ⟨(aA.drew Wb).cell t0,(aA.drew Wb).cell t2,aA.drew Wb⟩ (fun oR=>?_);refine rA [0,1,2,3,4] ?_
  iterate 5 ((first|(refine rL (v:=?_) (by rfl) (Or.inl ⟨by rfl,?_⟩) ?_;rotate_left;·((intro w' qW);(try dsimp only at qW);(try go_simp);(try with_reducible rfl)))|(refine rW (v:=?_) (by rfl) (Or.inl ⟨by rfl,?_⟩) ?_;rotate_left;·((intro w');(try go_simp);(try with_reducible rfl))));(try simp only [Act.put,ao,aq,aw]))
  refine rE ?_;refine dz 5 (by kernel_rfl) rfl (fun K hK=>?_);go_simp
  (go_at_call 66;refine (HMU _ (GR.trans oR.2.2)).mono ?_)
  rintro e wz ⟨rfl,oh⟩;have HXZ:Hid (aA Wb wz):=aA.trans oR.2.2 oh;have hbz:=aF HBB HXZ;have t3:=ag hbz 0;have f3:=cO hbz 0;simp only [oF,oE,oD] at t3;go_wp2_with fail;refine hK _ _ ⟨(oh).cell oR.1,(oh).cell oR.2.1,aA.trans oR.2.2 (oh)⟩ (fun oR=>?_);clear hK K
  (try simp only [Act.put,ao,aq,aw])
  refine gX 6 (by kernel_rfl) (by kernel_rfl) (by kernel_rfl) rfl (fun K hK=>?_);go_simp;refine hK _ _ ?_;clear hK K
  (try simp only [Act.put,ao,aq,aw])
  gi_wp2_with fail
  have HXZ2:=np HXZ;refine ⟨⟨n8 HXZ2.size (by simp [World.setCell]),fun k o hk ho hc=>?_⟩,z,HZ,?_,?_⟩;·exact (Below.heap_setCell _ _ _ _ (fun e=>by have e':k=wv.heap.size:=e;have:=sZ.2.1;omega)).trans ((HXZ2.block k (c_ ho)).trans ho)
  ·exact (HGB.ext HXZ2).setCell rfl 0 _
  ·have:=d_ (aF HBB HXZ2) 0 (.string (aB z));simpa using this
 case done =>
  rintro W ⟨p,rG,hG,hbx⟩ hD;have e1:=HP.out;rw [rG] at e1;obtain rfl:=oA e1;have HBX:=np hbx;have HD:=np hD;have wN:Hid (aA w W):=Below.trans HE6 (hG.below (n8 sZ.1 (Nat.le_of_lt sZ.2.1)) (fun k hk=>by rw [hk];exact sZ.1));have HRW:=np (HM4.keep HV6 hG);clear rG hG hbx hD e1;obtain ⟨a5,c5,tV,k1,k2,Bn⟩:=HRW.open;simp only [Value.slice.injEq] at tV;obtain ⟨rfl,-,rfl⟩:=tV;have HRM:=np Bn;unfold maxLen at k2;have zX:(Value.string ⟨#[49]⟩)=.string (aB 1):=by kernel_rfl
  clear Bn HRW;go_wp2_with fail
  go_loopw [43,7] (fun t o wr=>∃ (j:Nat) (q:Int),j<=R.length/\t=.int .i64 j/\o=.string (aB q)/\Hid (gH R j=some q)/\aA W wr) (fun t _ _=>R.length-(intOf t).toNat)
  case atStart=>exact ⟨0,1,by omega,rfl,zX,rfl,aA.refl _⟩
  case round =>
   obtain ⟨j,q,hj,rfl,rfl,JF,hE⟩:=hrel;obtain ⟨wo,rfl⟩:∃ wo:World,wo=wr:=⟨_,rfl⟩;have HEW:=np hE;by_cases hlt:j<R.length
   ·obtain ⟨gm,tags,rfl,rk⟩:∃ g0 tags,a4=some ⟨g0,0,none⟩/\cF W g0 tags R:=by
     rcases HRM.out with h0 | h0;·rw [h0] at hlt;simp at hlt
     ·exact h0
    obtain ⟨t,xx,m1,m2,m3,m4,-⟩:=(rk.ext hE).get j hlt;obtain ⟨z,hz⟩:=B8_ HQ (j+1) (by omega);obtain ⟨q',e2,b1,b2,b3,b4⟩:=P6_ hz;rw [JF.out] at e2;obtain rfl:=oA e2;obtain ⟨x,hx⟩:=oN (aC R j);rw [hx] at m1 m2 m4 b1 b3 b4;obtain ⟨d1,d2,d3⟩:=x8_ x b1;unfold ko at b3 b4;obtain ⟨C,hC⟩:=oN (fP x);rw [hC] at d1 d2 b3 b4;obtain ⟨xc,vA⟩:=oN (x.getD C 0);have rm:x[C]?=some xc:=(by rw [<- vA,nu,ns d1];rfl);rw [vA] at b3 b4;have HMU:=np (fun V (hV:aA W V)=>Z6g q xc V (mB b2) (mB b3) (HLIB.pow.ext (wN.trans hV)));rw [<- b4] at HMU;have HZ:=np hz;have HLD:=np (M9_ x t.1 t.2.1 t.2.2 wo m4 m2 m3);rw [d2] at HLD;have g2:=m4.cell C xc rm;obtain ⟨NX,tR⟩:=oN x.length;rw [tR] at m1 m2 d1 HLD;unfold maxLen at m3;have qd:(C:Int)<(NX:Int):=(by omega);clear rk xx m4 hz e2 b1 b2 b3 b4 hx d2 d3 hC vA rm tR hE;go_wp2_with fail;refine HLD.mono ?_;rintro e w7 ⟨rfl,pK⟩;have g3:=pK.cell g2;have HE7:=np (HEW.trans pK);clear pK HLD;go_wp2_with fail;refine p_ (HMU _ HE7) (HE7.trans) ?_;intro w8 HE8;clear HMU;go_wp2_with fail;go_roundw
    case rel=>exact ⟨j+1,z,by omega,by go_num,rfl,HZ,HE8⟩
    case measure=>simp [intOf];omega
   ·obtain rfl:j=R.length:=(by omega);have e2:=HQ.out;rw [JF.out] at e2;obtain rfl:=oA e2;have HDM:=np (mv p q wo (fu HPS) (fu HQS) HQ0 (HLIB.pow.ext (wN.trans hE)));have t0:=ag (aF HBX hE) 0;simp only [oF,oE,oD] at t0;obtain ⟨qq,Aw⟩:=oN (aQ p q);rw [Aw] at HDM HSQ;have HDW:=np (aF HD hE);have HQQ:=np Aw;clear e2 hE Aw;go_wp2_with fail;refine HDM.mono ?_;rintro e w9 ⟨rfl,pP⟩;have HE9:=np (HEW.trans pP);have Hc:an (w9.alloc (.cells #[.string (aB qq)] 92)) w9.heap.size 0 [qq]:=by
     refine ⟨by simp,fun j x Ef=>?_,fun j=>?_⟩
     ·cases j with
      | zero=>simp at Ef;subst Ef;rw [Nat.zero_add,World.cell?_alloc_new];rfl
      | succ j=>simp at Ef
     ·exact cO (dE w9 #[.string (aB qq)] 92) j
    have HSH:=np (n0_ [qq] w9.heap.size 0 1 _ Hc (by simp) (by unfold maxLen;omega) (by simp) (by simp [HSQ.out]) (HLIB.ext (wN.trans (HE9.trans (aA.alloc _ _)))));have rB:([qq]:oQ).length=1:=rfl;rw [rB] at HSH;have HDQ:=np (aF HDW (pP.trans (aA.alloc w9 (.cells #[.string (aB qq)] 92))));clear pP HDM Hc rB t0;go_wp2_with fail;refine HSH.mono ?_;rintro e Ce rp;unfold jc at rp;have hall:([qq].all dc)=dc qq:=(by simp);rw [hall] at rp;by_cases hf:dc qq=true
    ·rw [if_pos hf] at rp;obtain ⟨aa,cc,rfl,hI,-,s9⟩:=rp;have HF:=np hf;obtain ⟨hl,qO,Kb,-,hcell⟩:=hI.cells;obtain ⟨bb,ob,rfl,qE,IL⟩:=hcell (by simp);have g5:=IL 0 qq rfl;rw [Nat.add_zero] at g5;have HDZ:=np (aF HDQ s9);have HEZ:=np (wN.trans (HE9.trans ((aA.alloc w9 (.cells #[.string (aB qq)] 92)).trans s9)));simp only [List.length_cons,List.length_nil] at qO;clear hI s9 hf hl hcell IL hall HSH;go_wp2_with fail;refine ⟨by simp,.inl ⟨_,_,rfl,run_takeDeferred HDZ,?_⟩⟩;refine ⟨_,results_tmp2 rfl _ _ _,?_⟩;unfold Z5S;rw [HQQ.out,if_pos HF.out];exact ⟨rfl,jJ HEZ (grownBy_putObj' _ _ _) (fun r e=>by cases e;exact n8 sZ.1 (Nat.le_of_lt sZ.2.1))⟩
    ·rw [if_neg hf] at rp;obtain ⟨rfl,s9⟩:=rp;have HF:=np hf;have HDZ:=np (aF HDQ s9);have HEZ:=np (wN.trans (HE9.trans ((aA.alloc w9 (.cells #[.string (aB qq)] 92)).trans s9)));clear s9 hf hall HSH;go_wp2_with fail;refine ⟨by simp,.inl ⟨_,_,rfl,run_takeDeferred HDZ,?_⟩⟩;refine ⟨_,results_tmp2 rfl _ _ _,?_⟩;unfold Z5S;rw [HQQ.out,if_neg HF.out];exact ⟨rfl,jJ HEZ (grownBy_putObj' _ _ _) (fun r e=>by cases e;exact n8 sZ.1 (Nat.le_of_lt sZ.2.1))⟩
end Go.Proofs.YtoonaddcfakamaaGreatDoor
namespace Go.Proofs.YtoonaddcfakamaaGreatDoor
open Go.RowKit Go.Proofs.Tryz
def Z4X (n:Int) (d:Nat):Prop:=∀ k:Nat,2<=k->k<d->n.tmod (k:Int)≠0
def mu (n:Int) (k:Nat):Bool:=decide (2<=k) && (decide ((k:Int)*(k:Int)<=n) && decide (n.tmod (k:Int)=0))
def fF (n:Int):Bool:=decide (2<=n) && (decide (n<=97) && !((List.range 98).any (mu n)))
theorem B7_ {n:Int} (h:¬ (2<=n/\n<=97)):fF n=false:=by
 unfold fF;by_cases h1:2<=n;·rw [oG (show ¬ n<=97 from fun h2=>h ⟨h1,h2⟩)];simp
 ·rw [oG h1];rfl
theorem Z0b {n:Int} {k:Nat} (h1:2<=k) (h9:k<98) (h2:(k:Int)*(k:Int)<=n) (h3:n.tmod (k:Int)=0):fF n=false:=by
 unfold fF;have:(List.range 98).any (mu n)=true:=by
  rw [List.any_eq_true];exact ⟨k,List.mem_range.2 h9,by unfold mu;rw [oH h1,oH h2,oH h3];rfl⟩
 rw [this];simp
theorem Z26 {n:Int} {d:Nat} (h1:2<=n) (h2:n<=97) (hd:Z4X n d) (tc:n<(d:Int)*(d:Int)):fF n=true:=by
 unfold fF;rw [oH h1,oH h2];have:(List.range 98).any (mu n)=false:=by
  rw [List.any_eq_false];intro k hk;unfold mu;intro hh;rw [Bool.and_eq_true,Bool.and_eq_true,decide_eq_true_iff,decide_eq_true_iff,decide_eq_true_iff] at hh;obtain ⟨k1,k2,k3⟩:=hh;by_cases KE:k<d;·exact hd k k1 KE k3
  ·have:(d:Int)*(d:Int)<=(k:Int)*(k:Int):=Int.mul_le_mul (by omega) (by omega) (by omega) (by omega);omega
 rw [this];rfl
theorem k1_ (n:Int) (w:World) :
  oM 222 #[.int .i64 n] w (.bool (fF n)):=by
 by_cases h1:n<2
 ·have HV:Hid (fF n=false):=B7_ (by omega)
  go_enter func222,ntmps222
  go_wp2_with fail;go_ret;exact ⟨by rw [HV.out];rfl,rfl⟩
 ·by_cases h2:97<n
  ·have HV:Hid (fF n=false):=B7_ (by omega)
   go_enter func222,ntmps222
   go_wp2_with fail;go_ret;exact ⟨by rw [HV.out];rfl,rfl⟩
  ·have HN:Hid (2<=n/\n<=97):=⟨by omega,by omega⟩
   go_enter func222,ntmps222
   go_wp2_with fail
   go_loopw [3] (fun t wr=>∃ d:Nat,2<=d/\d<=98/\t=.int .i64 d/\w=wr/\Hid (Z4X n d)) (fun t _=>98-(intOf t).toNat)
   case atStart=>exact ⟨2,by omega,by omega,rfl,rfl,fun k h1 h2=>by omega⟩
   case round =>
    obtain ⟨d,hd,pW,rfl,rfl,HD⟩:=hrel;have tc:(d:Int)*(d:Int)<=9604:=by
     have:(d:Int)*(d:Int)<=98*98:=Int.mul_le_mul (by omega) (by omega) (by omega) (by omega);omega
    have E6:0<=(d:Int)*(d:Int):=Int.mul_nonneg (by omega) (by omega);have E5:(d:Int)*2<=(d:Int)*(d:Int):=Int.mul_le_mul_of_nonneg_left (by omega) (by omega);have MI:(d:Int)≠0:=(by omega);obtain ⟨q,hq⟩:=oN ((d:Int)*(d:Int));have HQ:=np hq;rw [hq] at tc E6 E5;by_cases hle:q<=n
    ·have hm:(n.tmod (d:Int)).natAbs<=n.natAbs:=(by rw [Int.natAbs_tmod];exact Nat.mod_le _ _);obtain ⟨t,ht⟩:=oN (n.tmod (d:Int));have HT:=np ht;by_cases hz:t=0
     ·have HV:Hid (fF n=false):=Z0b hd (by omega) (by rw [HQ.out];exact hle) (by rw [HT.out];exact hz);subst hz;clear hm;go_wp2_with fail;go_ret;exact ⟨by rw [HV.out];rfl,rfl⟩
     ·have HD2:Hid (Z4X n (d+1)):=fun k k1 k2=>by
       by_cases hk:k=d;·rw [hk,HT.out];exact hz
       ·exact HD k k1 (by omega)
      rw [ht] at hm;go_wp2_with fail;go_roundw
      case rel=>exact ⟨d+1,by omega,by omega,by go_num,by first | rfl | trivial,HD2⟩
      case measure=>simp [intOf];omega
    ·have HV:Hid (fF n=true):=Z26 HN.1 HN.2 HD (by rw [HQ.out];omega);go_wp2_with fail;go_ret;exact ⟨by rw [HV.out];rfl,rfl⟩
def iK:Option Int->List Int->Int
 | _,[]=>0
 | none,x::l=>if fF x=true then iK (some x) l else 25
 | some y,x::l=>if fF x=true then (if x<=y then 6 else iK (some x) l) else 25
theorem A3_ (x:Int) (l:oQ):iK none (x::l)=if fF x=true then iK (some x) l else 25:=rfl
theorem A4_ (y x:Int) (l:oQ):iK (some y) (x::l)=if fF x=true then (if x<=y then 6 else iK (some x) l) else 25:=rfl
def gG (p:oQ) (j:Nat):Option Int:=if j=0 then none else p[j-1]?
def dM (p:oQ):Int:=if p.length=0 then 13 else if 6<p.length then 4 else iK none p
theorem lz (p:oQ) (v:Value) (w:World) (h:aK w v p) :
  oM 124 #[v] w (.int .i64 (dM p)):=by
 obtain ⟨a,c,rfl,h1,h2,-,-,hc⟩:=h.open;have HC:=np hc;unfold maxLen at h2;clear h hc;by_cases h0:p.length=0
 ·have HV:Hid (dM p=13):=by unfold Hid dM;rw [if_pos h0]
  rw [HV.out,h0]
  go_enter func124,ntmps124
  go_wp2_with fail;go_ret;exact ⟨rfl,rfl⟩
 by_cases h6:6<p.length
 ·have HV:Hid (dM p=4):=by unfold Hid dM;rw [if_neg h0,if_pos h6]
  rw [HV.out];have LD:(6:Int)<(p.length:Int):=by omega
  have LI:¬ (p.length:Int)=0:=by omega
  go_enter func124,ntmps124
  go_wp2_with fail;go_ret;exact ⟨rfl,rfl⟩
 have HV:Hid (dM p=iK none p):=by unfold Hid dM;rw [if_neg h0,if_neg h6]
 have LD:¬ (6:Int)<(p.length:Int):=by omega
 have LI:¬ (p.length:Int)=0:=by omega
 obtain ⟨E,hE⟩:=oN (dM p);rw [hE] at HV |-;clear hE
 go_enter func124,ntmps124
 go_wp2_with fail
 go_loopw [15] (fun t wr=>∃ j:Nat,j<=p.length/\t=.int .i64 j/\w=wr/\Hid (iK (gG p j) (p.drop j)=E)) (fun t _=>p.length-(intOf t).toNat)
 case atStart=>exact ⟨0,by omega,rfl,rfl,by unfold Hid gG;rw [if_pos rfl,List.drop_zero];exact HV.symm⟩
 case round =>
  obtain ⟨j,hj,rfl,rfl,HS⟩:=hrel;by_cases hlt:j<p.length
  ·obtain ⟨b,off,rfl,hb,hcell⟩:=HC (by intro e;simp [e] at hlt);obtain ⟨x,hx⟩:∃ x,p[j]?=some x:=⟨p[j],ns hlt⟩;have g1:=hcell j x hx;have HIP:=np (k1_ x w);have hS:=HS.out;rw [J2_ hx] at hS;by_cases hp:fF x=true
   ·rw [hp] at HIP;by_cases yz:j=0
    ·subst yz;have HS2:Hid (iK (gG p 1) (p.drop 1)=E):=by
      unfold Hid;have:gG p 1=some x:=(by unfold gG;rw [if_neg (by omega)];exact hx);have LH:gG p 0=none:=rfl;rw [this,<- hS,LH,A3_,if_pos hp]
     rw [Nat.add_zero] at g1;clear hcell hS HS hx;go_wp2_with fail;refine q_ HIP ?_;go_wp2_with fail;go_roundw
     case rel=>exact ⟨1,by omega,by go_num,by first | rfl | trivial,HS2⟩
     case measure=>simp [intOf];omega
    ·obtain ⟨y,hy⟩:∃ y,p[j-1]?=some y:=⟨p[j-1],ns (by omega)⟩;have g2:=hcell (j-1) y hy;have e1:((j:Int)-1)=((j-1:Nat):Int):=(by omega);have zs:gG p j=some y:=(by unfold gG;rw [if_neg yz];exact hy);rw [zs] at hS;rw [A4_,if_pos hp] at hS;have Cx:(0:Int)<(j:Int):=(by omega);obtain ⟨k,hk⟩:=oO (j-1);rw [<- hk] at g2 e1;have hk1:(k:Int)<(p.length:Int):=(by omega);clear hk;by_cases hxy:x<=y
     ·rw [if_pos hxy] at hS;have HS2:=np hS;clear hcell hS HS hx hy zs yz;go_wp2_with fail;refine q_ HIP ?_;go_wp2_with fail;go_ret;exact ⟨by rw [<- HS2.out];rfl,rfl⟩
     ·rw [if_neg hxy] at hS;have HS2:Hid (iK (gG p (j+1)) (p.drop (j+1))=E):=by
       unfold Hid;have:gG p (j+1)=some x:=(by unfold gG;rw [if_neg (by omega)];exact hx);rw [this];exact hS
      clear hcell hS HS hx hy zs yz;go_wp2_with fail;refine q_ HIP ?_;go_wp2_with fail;go_roundw
      case rel=>exact ⟨j+1,by omega,by go_num,by first | rfl | trivial,HS2⟩
      case measure=>simp [intOf];omega
   ·have J0:fF x=false:=(by simpa using hp);rw [J0] at HIP;have HS2:Hid (E=25):=by
     unfold Hid;rw [<- hS];cases gG p j with
     | none=>rw [A3_,if_neg hp]
     | some y=>rw [A4_,if_neg hp]
    clear hcell hS HS hx hp;go_wp2_with fail;refine q_ HIP ?_;go_wp2_with fail;go_ret;exact ⟨by rw [HS2.out];rfl,rfl⟩
  ·obtain rfl:j=p.length:=(by omega);have hS:=HS.out;rw [List.drop_length] at hS;have HS2:Hid (E=0):=by
    unfold Hid;rw [<- hS];cases gG p p.length <;> rfl
   clear hS HS;go_wp2_with fail;go_ret;exact ⟨by rw [HS2.out];rfl,rfl⟩
theorem Z0z (x y:oQ) (u v:Value) (w:World) (hx:aK w u x) (hy:aK w v y) :
  oL 198 #[u,v] w (.bool (x == y)):=by
 have HE:=np (O4_ x y u v w hx hy);clear hx hy;obtain ⟨B,hB⟩:∃ B:Bool,(x == y)=B:=⟨_,rfl⟩;rw [hB] at HE |-;clear hB
 go_enter func198,ntmps198
 go_wp2_with fail;refine o_ HE ?_;intro w1 HE1;go_wp2_with fail;go_ret;exact ⟨rfl,HE1⟩
theorem G6_ (xss yss:oP) (u v:Value) (w:World) (hu:aV w u xss) (hv:aV w v yss) :
  oL 98 #[u,v] w (.bool (xss == yss)):=by
 have HEQ:=np (X6_ (R:=aK) (fun _ _ _ _ he h=>aK.ext h he) xss yss u v 198 #[] (· == ·) w hu hv (enters_of func198 (by kernel_rfl) rfl) (fun W x y a b _ _ _ ha hb=>Z0z x y a b W ha hb));rw [x2_] at HEQ;obtain ⟨B,hB⟩:∃ B:Bool,(xss == yss)=B:=⟨_,rfl⟩;rw [hB] at HEQ |-;clear hB hu hv
 go_enter func98,ntmps98
 go_wp2_with fail;refine o_ HEQ ?_;intro w1 HE1;go_wp2_with fail;go_ret;exact ⟨rfl,HE1⟩
def bZ (w:World) (v:Value) (P:oQ) (C M:oP):Prop:=∃ p c m,v=.agg #[p,c,m]/\aK w p P/\aV w c C/\aV w m M
theorem bZ.ext {w w':World} {v:Value} {P:oQ} {C M:oP} (h:bZ w v P C M) (he:aA w w'):bZ w' v P C M:=by
 obtain ⟨p,c,m,h1,h2,h3,h4⟩:=h;exact ⟨p,c,m,h1,h2.ext he,h3.ext he,h4.ext he⟩
theorem bc {w:World} {B:Nat} {x y z:Value} (h:w.heap[B]?=some (.cells #[x,y,z] 34 (0,0))):w.cell? ⟨B,0,none⟩=some x/\w.cell? ⟨B,1,none⟩=some y/\w.cell? ⟨B,2,none⟩=some z/\∀ i,w.frozen? ⟨B,i,none⟩=false:=by
 have h0:=ag h 0;have h1:=ag h 1;have h2:=ag h 2;simp only [oF,oE,oD] at h0 h1 h2;exact ⟨h0,h1,h2,cO h⟩
theorem iQ {w:World} {B:Nat} {x y z:Value} (h:w.heap[B]?=some (.cells #[x,y,z] 34 (0,0))) (a b c:Value):(((w.setCell ⟨B,0,none⟩ a).setCell ⟨B,1,none⟩ b).setCell ⟨B,2,none⟩ c).heap[B]?=some (.cells #[a,b,c] 34 (0,0)):=by
 have:=d_ (d_ (d_ h 0 a) 1 b) 2 c;simpa using this
theorem fv (w:World) (x y z:Value):∃ W,w.alloc (.cells #[x,y,z] 34)=W/\aA w W/\W.heap.size=w.heap.size+1/\W.heap[w.heap.size]?=some (.cells #[x,y,z] 34 (0,0)):=⟨_,rfl,aA.alloc _ _,by simp,dE _ _ _⟩
theorem iB {w W:World} {B:Nat} (hE:aA w W) (hB:w.heap.size<=B) (a b c:Value):aA w (((W.setCell ⟨B,0,none⟩ a).setCell ⟨B,1,none⟩ b).setCell ⟨B,2,none⟩ c) :=
 ((hE.setCell (p:=⟨B,0,none⟩) hB a).setCell (p:=⟨B,1,none⟩) hB b).setCell (p:=⟨B,2,none⟩) hB c
theorem W2_ (xs:oQ) (v:Value) (w:World) (h:aK w v xs) (hlen:xs.length<=1000000) :
  Calls prog 145 #[v] w fun e w'=>∃ r,e=.returned r/\aA w w'/\w'.ownsRow w.heap.size 3 1 r xs.length (xs.map (Value.int .i64)):=by
 obtain ⟨a,c,rfl,h1,h2,h3,hb,hc⟩:=h.open;obtain ⟨i0,hi,oy,hz1,hz2⟩:=info_parts jK;have HI:=np hi;have HZ0:=np oy;have HZ1:=np hz1;have HZ2:=np hz2;have HB:=np hb;have HC:=np hc;clear hi oy hz1 hz2 hb hc h;unfold maxLen at h2;cases a with
 | none =>
  have h0:xs=[]:=by have:=h3 rfl;exact List.eq_nil_of_length_eq_zero (by omega)
  subst h0;obtain rfl:c=0:=h3 rfl;clear h3 h1 h2 hlen;have heq:=fun w=>Lib.run_eql_slice_nil (P:=prog) w 30 3 none 0 0 0 0 underlying30
  go_enter func145,ntmps145
  go_wp2
  go_ret;exact ⟨_,rfl,aA.refl _,World.ownsRow_nil _ _ _ _⟩
 | some ad =>
  clear h3;have heq:=fun w=>Lib.run_eql_slice_nil (P:=prog) w 30 3 (some ad) xs.length c 0 0 underlying30;have hown:(w.alloc (.cells #[] 3)).ownsRow w.heap.size 3 1 (.slice (some ⟨w.heap.size,0,none⟩) 0 0) 0 []:=World.ownsRow_made w #[] 0 (n9 _) (Nat.zero_le _) rfl;have tH:∀ (j:Nat) (u:Value),(xs.map (Value.int .i64))[j]?=some u->(w.alloc (.cells #[] 3)).cell? (ad.add j)=some u:=by
   intro j u hu;rw [nx] at hu;cases hj:xs[j]? with
   | none=>simp [hj] at hu
   | some x =>
    simp [hj] at hu;subst hu;obtain ⟨b,off,pU,rh,hcell⟩:=HC (by intro e;simp [e] at hj);cases pU;have:=hcell j x hj;rw [show (⟨b,off,none⟩:Addr).add j=⟨b,off+j,none⟩ by unfold Addr.add;split <;> simp_all];exact aA.cell (aA.alloc w _) this
  have HOWN:=np hown;have HNEWS:=np tH;clear hown tH
  go_enter func145,ntmps145
  go_wp2_with (at_builtin;refine wpList_append_own _ rfl _ _ 30 rfl w.heap.size 3 i0 (.int .i64 0) 1 8 underlying30 HI HZ0 HZ1 HZ2 rfl (by decide) _ _ _ rfl HOWN ad xs.length c (xs.map (Value.int .i64)) rfl ?d1 HNEWS ?d2 ?d3 ?d4 ?d5 ?_)
  case d1=>simp
  case d2=>exact ints_oneCell _ _
  case d3=>unfold maxLen;omega
  case d4=>omega
  case d5=>simp
  intro v' w1 pR oV _;have HO:=np pR;have HG:=np oV;clear pR oV
  go_wp2
  go_ret;refine ⟨v',rfl,?_,?_⟩;·exact Below.grown (aA.alloc w _) HG (by simp) (by intro k hk;simp [Value.ownBlock] at hk;omega)
  ·have:=HO.out;simpa using this
theorem J4_ (xs ys:oQ) (u v:Value) (w:World) (h:aK w u xs) (k:aK w v ys) :
  oL 97 #[u,v] w (.bool (xs == ys)):=by
 obtain ⟨a,c,rfl,h1,h2,-,hxb,hc⟩:=h.open;obtain ⟨a',c',rfl,k1,k2,-,hyb,kc⟩:=k.open;have HC:=np hc;have KC:=np kc;clear hc kc h k hxb hyb;unfold maxLen at h2 k2;by_cases hl:xs.length=ys.length
 ·have hn:((xs.length:Int) != (ys.length:Int))=false:=by simp [hl]
  have qU:xs.length<=ys.length:=by omega
  have xS:ys.length<=xs.length:=by omega
  have HL:=np hl;clear hl
  go_enter func97,ntmps97
  go_wp2
  go_loopw [13] (fun t wr=>∃ j:Nat,j<=xs.length/\t=.int .i64 j/\aA w wr/\Hid (xs.take j=ys.take j)) (fun t _=>xs.length-(intOf t).toNat)
  case atStart=>exact ⟨0,by omega,rfl,aA.refl _,rfl⟩
  case round =>
   obtain ⟨j,hj,rfl,hE,HT⟩:=hrel;by_cases hlt:j<xs.length
   ·obtain ⟨b,off,rfl,hb,hcell⟩:=HC (by intro e;simp [e] at hlt);obtain ⟨b',off',rfl,pd,om⟩:=KC.out (by intro e;simp [e] at qU;simp [qU] at hlt);obtain ⟨x,hx⟩:∃ x,xs[j]?=some x:=⟨xs[j],ns hlt⟩;obtain ⟨y,hy⟩:∃ y,ys[j]?=some y:=⟨ys[j]'(by omega),ns _⟩;have g1:=hE.cell (hcell j x hx);have g2:=hE.cell (om j y hy);have q1:(j:Int)<(xs.length:Int):=(by omega);have q2:(j:Int)<(ys.length:Int):=(by omega);have HX:=np hx;have HY:=np hy;clear hcell om hx hy;by_cases hxy:x=y
    ·have hb:(x != y)=false:=(by simp [hxy]);have zc:Hid (xs.take (j+1)=ys.take (j+1)):=by
      unfold Hid;rw [nz,nz,HX.out,HY.out,HT.out,hxy]
     clear hxy
     go_wp2
     go_quiet (fail)
     go_wp2
     go_roundw
     case rel=>exact ⟨j+1,by omega,by go_num,aA.draws hE _,zc⟩
     case measure=>simp [intOf];omega
    ·have hb:(x != y)=true:=(by simp [hxy]);have HF:Hid ((xs == ys)=false):=by
      unfold Hid;rw [beq_eq_false_iff_ne];intro e;have e1:=HX.out;have e2:=HY.out;rw [e,e2] at e1;exact hxy (by simpa using e1.symm)
     clear hxy
     go_wp2
     go_quiet (fail)
     go_wp2
     go_ret;rw [HF.out];exact ⟨rfl,aA.draws hE _⟩
   ·have hge:xs.length<=j:=(by omega);have zb:Hid ((xs == ys)=true):=by
     unfold Hid;have e:=HT.out;rw [List.take_of_length_le (by omega),List.take_of_length_le (by omega)] at e;simp [e]
    go_wp2
    go_ret;rw [zb.out];exact ⟨rfl,hE⟩
 ·have hn:((xs.length:Int) != (ys.length:Int))=true:=by simp;omega
  have HF:Hid ((xs == ys)=false):=by
   unfold Hid;rw [beq_eq_false_iff_ne];intro e;exact hl (by rw [e])
  clear hl
  go_enter func97,ntmps97
  go_wp2
  go_ret;rw [HF.out];exact ⟨rfl,aA.refl _⟩
theorem Z1B {R:oP} {n:Nat} (h:∀ x∈R,aN 1000000000 x/\x.length=n):(∀ r∈R,r.all bX=true)/\(R.all fun r=>r.all dc)=true:=by
 refine ⟨fun r hr=>Z4y ((h r hr).1.mono (by decide)),?_⟩;rw [List.all_eq_true];intro r hr;rw [List.all_eq_true];intro x hx;have:=(h r hr).1 x hx;unfold dc;simp;omega
theorem z9_ (n F:Nat) (R A S:oP) (v:Value) (w:World) (h:bj w v n R) (hE:bz n R=0) (hn:1<=n) (hn4:n<=6) (hk:eC F n R=some A) (hA:A.length<=6) (hb:∀ x∈A,aN 1000000000 x/\x.length=n) (oS:bg w) (hp:3<w.heap.size) :
  Calls prog 184 #[v] w fun e w'=>∃ u,e=.returned (.tuple #[.agg #[.int .i64 n,u],.int .i64 0])/\aT w' (·<w.heap.size) (fun W=>aV W u A)/\aA w w':=by
 have hs:=Z1B hb;refine (Z4B n F R A hk v w h hE hn hs.1 (fun r hr=>by have:=(hb r hr).2;omega) (by omega) oS hp).mono fun e w' he=>?_;unfold ec at he;rw [if_pos hs.2] at he;obtain ⟨⟨u,h1,h2⟩,h3⟩:=he;exact ⟨u,h1,h2,h3⟩
theorem L7_ (n F:Nat) (R A S:oP) (v:Value) (w:World) (h:bj w v n R) (hE:bz n R=0) (hn:1<=n) (hn4:n<=6) (hk:eC F n R=some A) (hk2:eC F n A=some S) (hA:A.length<=6) (hS:S.length<=6) (hb:∀ x∈S,aN 1000000000 x/\x.length=n) (oS:bg w) (hp:3<w.heap.size) :
  Calls prog 121 #[v] w fun e w'=>∃ u,e=.returned (.tuple #[.agg #[.int .i64 n,u],.int .i64 0])/\aT w' (·<w.heap.size) (fun W=>aV W u S)/\aA w w':=by
 have hs:=Z1B hb;refine (Z5a n F R A S hk hk2 (by omega) v w h hE hn hs.1 (fun r hr=>by have:=(hb r hr).2;omega) (by omega) oS hp).mono fun e w' he=>?_;unfold ec at he;rw [if_pos hs.2] at he;obtain ⟨⟨u,h1,h2⟩,h3⟩:=he;exact ⟨u,h1,h2,h3⟩
theorem aT.low {w:World} {S S':Nat->Prop} {P:World->Prop} (h:aT w S P) (hS:∀ k,S' k->S k):aT w S' P:=h.grow (aH.refl _ _) fun k hk=>.inl (hS k hk)
structure di (n F:Nat) (m R A S:oP):Prop where
 n1:1<=n
 n4:n<=6
 lat:dA n m=0
 form:dU n F n m=some R
 rows:R.length<=6/\∀ x∈R,aN 1000000000 x/\x.length=n
 chk:bz n R=0
 kR:eC F n R=some A
 kA:eC F n A=some S
 lA:A.length<=6
 lS:S.length<=6
 bA:∀ x∈A,aN 1000000000 x/\x.length=n
 bS:∀ x∈S,aN 1000000000 x/\x.length=n
theorem nR (n F:Nat) (m R A S:oP) (v:Value) (w:World) (h:aV w v m) (hD:di n F m R A S) (oS:bg w) (hp:3<w.heap.size) :
  Calls prog 47 #[.int .i64 n,v] w fun e w'=>∃ u,e=.returned (.tuple #[.agg #[.int .i64 n,u],.int .i64 0])/\aT w' (·<w.heap.size) (fun W=>aV W u R)/\aA w w':=by
 have hs:=Z1B hD.rows.2;have hn4:=hD.n4;have hRl:=hD.rows.1;refine (Z4Y n F m R v w h hD.lat hD.form hs.1 (fun r hr=>by have:=(hD.rows.2 r hr).2;omega) (by omega) oS hp).mono fun e w' he=>?_;unfold ec at he;rw [if_pos hs.2] at he;obtain ⟨⟨u,h1,h2⟩,h3⟩:=he;exact ⟨u,h1,h2,h3⟩
theorem f1_ (n F:Nat) (P:oQ) (m R A S:oP) (vp v:Value) (w:World) (hP:aK w vp P) (h:aV w v m) (hE:dM P=0) (hPl:P.length=n) (hD:di n F m R A S) (oS:bg w) (hp:3<w.heap.size) :
  Calls prog 144 #[vp,v] w fun e w'=>∃ us ua,e=.returned (.tuple #[us,ua,.int .i64 0])/\aT w' (·<w.heap.size) (fun W=>aV W us S)/\aT w' (·<w.heap.size) (fun W=>aV W ua A)/\aA w w':=by
 have HPC:=np (lz P vp w hP);rw [hE] at HPC;have HOF:=np (nR n F m R A S v w h hD oS hp);have HSA:=np (fun W (hW:aA w W) u (hu:bj W u n R)=>L7_ n F R A S u W hu hD.chk hD.n1 hD.n4 hD.kR hD.kA hD.lA hD.lS hD.bS (oS.ext hW) (n7 hp hW.size));have HAN:=np (fun W (hW:aA w W) u (hu:bj W u n R)=>z9_ n F R A S u W hu hD.chk hD.n1 hD.n4 hD.kR hD.lA hD.bA (oS.ext hW) (n7 hp hW.size));obtain ⟨ap,cp,rfl,p1,p2,-,-,-⟩:=hP.open;rw [hPl] at HPC |-;obtain ⟨a,c,rfl,-⟩:=aP.open h;clear hP h hE hPl hD oS hp p1 p2
 go_enter func144,ntmps144
 go_wp2_with fail;refine q_ HPC ?_;clear HPC;go_wp2_with fail;refine HOF.mono ?_;rintro e w1 ⟨u1,rfl,hu1,hE1⟩;obtain ⟨a1,c1,rfl,-⟩:=aR.open hu1.now;have HE1:=np hE1;have HU1:=np hu1.now;clear hE1 hu1 HOF;obtain ⟨V1,wF,ov,hs1,hb1⟩:=cL w1 (.int .i64 0) (.slice none 0 0);obtain ⟨r0,r1,rf⟩:=bG hb1;have f0:=rf 0;have f1:=rf 1;have HB1:=np (eE hb1 (.int .i64 n) (.slice a1 R.length c1));have HXU:=np (db ov (n9 _) (.int .i64 n) (.slice a1 R.length c1));clear ov hs1 hb1 rf;obtain ⟨U1,sO⟩:=oN ((V1.setCell ⟨w1.heap.size,0,none⟩ (.int .i64 n)).setCell ⟨w1.heap.size,1,none⟩ (.slice a1 R.length c1));rw [sO] at HB1 HXU;obtain ⟨s0,s1,-⟩:=bG HB1;have HEU:=np (HE1.trans HXU);have HRU:=np (HU1.ext HXU);go_wp2_with fail;clear sO wF r0 r1 f0 f1 HE1 HU1 HXU;refine (HSA _ HEU _ ⟨_,rfl,HRU⟩).mono ?_;rintro e w2 ⟨u2,rfl,hu2,hE2⟩;obtain ⟨a2,c2,rfl,-⟩:=aR.open hu2.now;have HE2:=np (HEU.trans hE2);have HU2:=np (hu2.low (S':=(·<w.heap.size)) fun k hk=>n7 hk HEU.size);have HB2:=np (aF HB1 hE2);have HR2:=np (HRU.ext hE2);clear hE2 hu2 HSA HB1 HRU HEU s0 s1;obtain ⟨V2,zJ,qF,hs2,oY⟩:=cL w2 (.int .i64 0) (.slice none 0 0);obtain ⟨r0,r1,rf⟩:=bG oY;have f0:=rf 0;have f1:=rf 1;have HB3:=np (eE oY (.int .i64 n) (.slice a2 S.length c2));have HXU:=np (db qF (n9 _) (.int .i64 n) (.slice a2 S.length c2));clear qF hs2 oY rf;obtain ⟨U2,tP⟩:=oN ((V2.setCell ⟨w2.heap.size,0,none⟩ (.int .i64 n)).setCell ⟨w2.heap.size,1,none⟩ (.slice a2 S.length c2));rw [tP] at HB3 HXU;have HB22:=np (aF HB2 HXU);obtain ⟨s0,s1,-⟩:=bG HB22;have HEU:=np (HE2.trans HXU);have HRU:=np (HR2.ext HXU);have HSU:=np (HU2.ext HXU);go_wp2_with fail;clear tP zJ r0 r1 f0 f1 HE2 HU2 HXU HB2 HR2;refine (HAN _ HEU _ ⟨_,rfl,HRU⟩).mono ?_;rintro e w3 ⟨u3,rfl,vS,oT⟩;obtain ⟨a3,c3,rfl,-⟩:=aR.open vS.now;have HE3:=np (HEU.trans oT);have HU3:=np (vS.low (S':=(·<w.heap.size)) fun k hk=>n7 hk HEU.size);have HB4:=np (aF HB3 oT);have HS4:=np (HSU.ext oT);clear oT vS HAN HB3 HRU HEU HSU HB22 s0 s1;obtain ⟨V3,Bh,s6,hs3,ot⟩:=cL w3 (.int .i64 0) (.slice none 0 0);obtain ⟨r0,r1,rf⟩:=bG ot;have f0:=rf 0;have f1:=rf 1;have HB5:=np (eE ot (.int .i64 n) (.slice a3 A.length c3));have HXU:=np (db s6 (n9 _) (.int .i64 n) (.slice a3 A.length c3));clear s6 hs3 ot rf;obtain ⟨U3,vJ⟩:=oN ((V3.setCell ⟨w3.heap.size,0,none⟩ (.int .i64 n)).setCell ⟨w3.heap.size,1,none⟩ (.slice a3 A.length c3));rw [vJ] at HB5 HXU;obtain ⟨q0,q1,-⟩:=bG HB5;obtain ⟨s0,s1,-⟩:=bG (aF HB4 HXU);have HEU:=np (HE3.trans HXU);have HSU:=np (HS4.ext HXU);have HAU:=np (HU3.ext HXU)
 go_upto_region 11 with fail
 go_region
 all_goals
  go_wp2_with fail;go_ret3;exact ⟨_,_,rfl,HSU.ext (aA.drew _),HAU.ext (aA.drew _),HEU.trans (aA.drew _)⟩
theorem U3_ (n F:Nat) (P:oQ) (m R A S:oP) (vp v:Value) (w:World) (hP:aK w vp P) (h:aV w v m) (hE:dM P=0) (hPl:P.length=n) (hD:di n F m R A S) (oS:bg w) (hp:3<w.heap.size) :
  Calls prog 55 #[vp,v] w fun e w'=>∃ u,e=.returned (.tuple #[u,.int .i64 0])/\aT w' (·<w.heap.size) (fun W=>bZ W u P S A)/\aA w w':=by
 have HFR:=np (fun W (hW:aA w W)=>f1_ n F P m R A S vp v W (hP.ext hW) (h.ext hW) hE hPl hD (oS.ext hW) (n7 hp hW.size));have Bp:P.length<=1000000:=by have:=hD.n4;omega
 have zN:∀ x∈P,-9223372036854775808<=x/\x<=9223372036854775807:=by
  obtain ⟨_,_,_,_,_,_,hb,_⟩:=hP.open;exact hb
 have HCL:Hid (∀ W,aA w W->Calls prog 145 #[vp] W fun e w'=>∃ a c,e=.returned (.slice a P.length c)/\aA W w'/\aT w' (·<W.heap.size) (fun W=>aK W (.slice a P.length c) P)):=fun W hW =>
  (W2_ P vp W (hP.ext hW) Bp).mono fun e w' ⟨r,h1,h2,h3⟩=>by
   have h4:=aK.of_owns h3 zN;obtain ⟨a,c,rfl,-⟩:=h4.open;exact ⟨a,c,h1,h2,(aT.owns h3 (fun k hk hs=>by have:=(h3.lt k hk).1;omega)).mono fun W hw=>aK.of_owns hw zN⟩
 have hP2:=hP;obtain ⟨ap,cp,rfl,-⟩:=hP2.open;obtain ⟨a,c,rfl,-⟩:=aP.open h;rw [hPl] at HFR HCL |-;clear hP hP2 h hE hPl hD oS hp Bp zN
 go_enter func55,ntmps55
 obtain ⟨W1,oZ,hE1,hs1,hb1⟩:=fv w (.slice none 0 0) (.slice none 0 0) (.slice none 0 0);have HB1:=np hb1;have HE1:=np hE1;have HS1:=np hs1;clear hE1 hs1 hb1;go_wp2_with fail;refine (HFR _ HE1).mono ?_;rintro e w2 ⟨us,ua,rfl,tY,yg,hE2⟩;obtain ⟨a1,c1,rfl,-⟩:=aR.open tY.now;obtain ⟨a2,c2,rfl,-⟩:=aR.open yg.now;have HB2:=np (aF HB1 hE2);have HE2:=np (HE1.trans hE2);have HUS:=np tY;have HUA:=np yg;have HZ2:=np hE2.size;clear hE2 tY yg HFR HB1 HE1 oZ;go_wp2_with fail;refine (HCL _ HE2).mono ?_;rintro e w3 ⟨a3,c3,rfl,oT,hown⟩;have HOW:=np (hown.low (S':=(·<W1.heap.size)) fun k hk=>n7 hk HZ2);have HB3:=np (aF HB2 oT);have HE3:=np (HE2.trans oT);have HUS3:=np (HUS.ext oT);have HUA3:=np (HUA.ext oT);clear oT hown HCL HB2;obtain ⟨b0,b1,b2,bf⟩:=bc HB3;have f0:=bf 0;have f1:=bf 1;have f2:=bf 2;clear bf;go_wp2_with fail;have hkA:=iQ HB3 (.slice a3 n c3) (.slice a1 S.length c1) (.slice a2 A.length c2);refine bodyPost_ret (ir (by rfl) _ _ w.heap.size 34 #[.slice a3 n c3,(.slice a1 S.length c1),(.slice a2 A.length c2)] (0,0) _ (by rfl) hkA underlying34 (by rfl) (by kernel_rfl)) (by rfl) ?_;have hG:∀ (x y z:Value),aH (·<W1.heap.size) w3 (((w3.setCell ⟨w.heap.size,0,none⟩ x).setCell ⟨w.heap.size,1,none⟩ y).setCell ⟨w.heap.size,2,none⟩ z):=fun x y z=>by
  have hlt:w.heap.size<W1.heap.size:=by have:=HS1.out;omega
  exact (((aH.refl _ w3).setCell (g:=w.heap.size) hlt 0 x).setCell (g:=w.heap.size) hlt 1 y).setCell (g:=w.heap.size) hlt 2 z
 have hlow:∀ k,k<w.heap.size->k<W1.heap.size\/w3.heap.size<=k:=fun k hk=>.inl (by have:=HS1.out;omega);refine ⟨_,rfl,fun W hW=>⟨_,_,_,rfl,?_,?_,?_⟩,iB HE3 (n9 _) _ _ _⟩;·exact HOW.grow (hG _ _ _) hlow W hW
 ·exact HUS3.grow (hG _ _ _) hlow W hW
 ·exact HUA3.grow (hG _ _ _) hlow W hW
theorem W5_ (n F:Nat) (P:oQ) (m R A S:oP) (vp v:Value) (w:World) (hP:aK w vp P) (h:aV w v m) (hE:dM P=0) (hPl:P.length=n) (hD:di n F m R A S) (oS:bg w) (hp:3<w.heap.size) :
  Calls prog 60 #[vp,v] w fun e w'=>∃ u,e=.returned (.tuple #[u,.int .i64 0])/\aT w' (·<w.heap.size) (fun W=>bZ W u P A S)/\aA w w':=by
 have HFR:=np (fun W (hW:aA w W)=>f1_ n F P m R A S vp v W (hP.ext hW) (h.ext hW) hE hPl hD (oS.ext hW) (n7 hp hW.size));have Bp:P.length<=1000000:=by have:=hD.n4;omega
 have zN:∀ x∈P,-9223372036854775808<=x/\x<=9223372036854775807:=by
  obtain ⟨_,_,_,_,_,_,hb,_⟩:=hP.open;exact hb
 have HCL:Hid (∀ W,aA w W->Calls prog 145 #[vp] W fun e w'=>∃ a c,e=.returned (.slice a P.length c)/\aA W w'/\aT w' (·<W.heap.size) (fun W=>aK W (.slice a P.length c) P)):=fun W hW =>
  (W2_ P vp W (hP.ext hW) Bp).mono fun e w' ⟨r,h1,h2,h3⟩=>by
   have h4:=aK.of_owns h3 zN;obtain ⟨a,c,rfl,-⟩:=h4.open;exact ⟨a,c,h1,h2,(aT.owns h3 (fun k hk hs=>by have:=(h3.lt k hk).1;omega)).mono fun W hw=>aK.of_owns hw zN⟩
 have hP2:=hP;obtain ⟨ap,cp,rfl,-⟩:=hP2.open;obtain ⟨a,c,rfl,-⟩:=aP.open h;rw [hPl] at HFR HCL |-;clear hP hP2 h hE hPl hD oS hp Bp zN
 go_enter func60,ntmps60
 obtain ⟨W1,oZ,hE1,hs1,hb1⟩:=fv w (.slice none 0 0) (.slice none 0 0) (.slice none 0 0);have HB1:=np hb1;have HE1:=np hE1;have HS1:=np hs1;clear hE1 hs1 hb1;go_wp2_with fail;refine (HFR _ HE1).mono ?_;rintro e w2 ⟨us,ua,rfl,tY,yg,hE2⟩;obtain ⟨a1,c1,rfl,-⟩:=aR.open tY.now;obtain ⟨a2,c2,rfl,-⟩:=aR.open yg.now;have HB2:=np (aF HB1 hE2);have HE2:=np (HE1.trans hE2);have HUS:=np tY;have HUA:=np yg;have HZ2:=np hE2.size;clear hE2 tY yg HFR HB1 HE1 oZ;go_wp2_with fail;refine (HCL _ HE2).mono ?_;rintro e w3 ⟨a3,c3,rfl,oT,hown⟩;have HOW:=np (hown.low (S':=(·<W1.heap.size)) fun k hk=>n7 hk HZ2);have HB3:=np (aF HB2 oT);have HE3:=np (HE2.trans oT);have HUS3:=np (HUS.ext oT);have HUA3:=np (HUA.ext oT);clear oT hown HCL HB2;obtain ⟨b0,b1,b2,bf⟩:=bc HB3;have f0:=bf 0;have f1:=bf 1;have f2:=bf 2;clear bf;go_wp2_with fail;have hkA:=iQ HB3 (.slice a3 n c3) (.slice a2 A.length c2) (.slice a1 S.length c1);refine bodyPost_ret (ir (by rfl) _ _ w.heap.size 34 #[.slice a3 n c3,(.slice a2 A.length c2),(.slice a1 S.length c1)] (0,0) _ (by rfl) hkA underlying34 (by rfl) (by kernel_rfl)) (by rfl) ?_;have hG:∀ (x y z:Value),aH (·<W1.heap.size) w3 (((w3.setCell ⟨w.heap.size,0,none⟩ x).setCell ⟨w.heap.size,1,none⟩ y).setCell ⟨w.heap.size,2,none⟩ z):=fun x y z=>by
  have hlt:w.heap.size<W1.heap.size:=by have:=HS1.out;omega
  exact (((aH.refl _ w3).setCell (g:=w.heap.size) hlt 0 x).setCell (g:=w.heap.size) hlt 1 y).setCell (g:=w.heap.size) hlt 2 z
 have hlow:∀ k,k<w.heap.size->k<W1.heap.size\/w3.heap.size<=k:=fun k hk=>.inl (by have:=HS1.out;omega);refine ⟨_,rfl,fun W hW=>⟨_,_,_,rfl,?_,?_,?_⟩,iB HE3 (n9 _) _ _ _⟩;·exact HOW.grow (hG _ _ _) hlow W hW
 ·exact HUA3.grow (hG _ _ _) hlow W hW
 ·exact HUS3.grow (hG _ _ _) hlow W hW
structure iT (n F:Nat) (P:oQ) (C M:oP):Prop where
 n1:1<=n
 n4:n<=6
 pr:dM P=0
 pl:P.length=n
 chk:bz n C=0
 kC:eC F n C=some M
 kM:eC F n M=some C
 lC:C.length<=6
 lM:M.length<=6
 bC:∀ x∈C,aN 1000000000 x/\x.length=n
 bM:∀ x∈M,aN 1000000000 x/\x.length=n
theorem z1_ (n F:Nat) (P:oQ) (C M:oP) (v:Value) (w:World) (hV:bZ w v P C M) (hR:iT n F P C M) (oS:bg w) (hp:3<w.heap.size) :
  oL 76 #[v] w (.int .i64 0):=by
 obtain ⟨vp,vc,vm,rfl,pZ,qI,pz⟩:=hV;have HPC:=np (fun W (hW:aA w W)=>lz P vp W (pZ.ext hW));rw [hR.pr] at HPC;have HCH:=np (fun W (hW:aA w W) u (hu:bj W u n C)=>kX n C u W hu);rw [hR.chk] at HCH;have HSA:=np (fun W (hW:aA w W) u (hu:bj W u n C)=>L7_ n F C M C u W hu hR.chk hR.n1 hR.n4 hR.kC hR.kM hR.lM hR.lC hR.bC (oS.ext hW) (n7 hp hW.size));have HAN:=np (fun W (hW:aA w W) u (hu:bj W u n C)=>z9_ n F C M C u W hu hR.chk hR.n1 hR.n4 hR.kC hR.lM hR.bM (oS.ext hW) (n7 hp hW.size));have HEQ:Hid (∀ W u u',bj W u n C->bj W u' n C->oL 183 #[u,u'] W (.bool true)):=fun W u u' h h'=>by
  have:=q0_ n n C C u u' W h h';simpa using this
 have HSM:Hid (∀ W u u',aV W u M->aV W u' M->oL 98 #[u,u'] W (.bool true)):=fun W u u' h h'=>by
  have:=G6_ M M u u' W h h';simpa using this
 have HVC:=np qI;have HVM:=np pz;have hPl:=hR.pl;obtain ⟨ap,cp,rfl,-⟩:=pZ.open;obtain ⟨ac,cc,rfl,-⟩:=aP.open qI;obtain ⟨am,cm,rfl,-⟩:=aP.open pz;rw [hPl] at HPC |-;clear pZ qI pz hR oS hp hPl
 go_enter func76,ntmps76
 obtain ⟨W1,oZ,hE1,hs1,hb1⟩:=fv w (.slice ap n cp) (.slice ac C.length cc) (.slice am M.length cm);have HB1:=np hb1;have HE1:=np hE1;obtain ⟨b0,b1,b2,-⟩:=bc hb1;clear hE1 hs1 hb1;go_wp2_with fail;refine q_ (HPC _ HE1) ?_;clear HPC;obtain ⟨V1,wF,ov,hs1,hb1⟩:=cL W1 (.int .i64 0) (.slice none 0 0);obtain ⟨r0,r1,rf⟩:=bG hb1;have f0:=rf 0;have f1:=rf 1;have HB2:=np (eE hb1 (.int .i64 n) (.slice ac C.length cc));have HXU:=np (db ov (n9 _) (.int .i64 n) (.slice ac C.length cc));clear ov hs1 hb1 rf;obtain ⟨U1,sO⟩:=oN ((V1.setCell ⟨W1.heap.size,0,none⟩ (.int .i64 n)).setCell ⟨W1.heap.size,1,none⟩ (.slice ac C.length cc));rw [sO] at HB2 HXU;obtain ⟨s0,s1,-⟩:=bG HB2;have HB12:=np (aF HB1 HXU);have HEU:=np (HE1.trans HXU);have HCU:=np (HVC.ext HEU);go_wp2_with fail;clear sO wF r0 r1 f0 f1 HXU HB1;refine (HCH _ HEU _ ⟨_,rfl,HCU⟩).mono ?_;rintro e w3 ⟨rfl,oT⟩;have HE3:=np (HEU.trans oT);have HB23:=np (aF HB2 oT);have HB13:=np (aF HB12 oT);have HC3:=np (HCU.ext oT);clear oT HCH HEU HB2 HB12 HCU s0 s1;obtain ⟨s0,s1,-⟩:=bG HB23;go_wp2_with fail;refine (HSA _ HE3 _ ⟨_,rfl,HC3⟩).mono ?_;rintro e w4 ⟨u4,rfl,Du,hE4⟩;obtain ⟨a4,c4,rfl,-⟩:=aR.open Du.now;have HE4:=np (HE3.trans hE4);have HU4:=np Du.now;have HB24:=np (aF HB23 hE4);have HB14:=np (aF HB13 hE4);have HC4:=np (HC3.ext hE4);clear hE4 Du HSA HE3 HB23 HB13 HC3 s0 s1;obtain ⟨V2,zJ,qF,hs2,oY⟩:=cL w4 (.int .i64 0) (.slice none 0 0);obtain ⟨r0,r1,rf⟩:=bG oY;have f0:=rf 0;have f1:=rf 1;have HB5:=np (eE oY (.int .i64 n) (.slice a4 C.length c4));have HXU:=np (db qF (n9 _) (.int .i64 n) (.slice a4 C.length c4));clear qF hs2 oY rf;obtain ⟨U2,tP⟩:=oN ((V2.setCell ⟨w4.heap.size,0,none⟩ (.int .i64 n)).setCell ⟨w4.heap.size,1,none⟩ (.slice a4 C.length c4));rw [tP] at HB5 HXU;have HB25:=np (aF HB24 HXU);have HB15:=np (aF HB14 HXU);obtain ⟨s0,s1,-⟩:=bG HB25;obtain ⟨q0,q1,-⟩:=bG HB5;have HEU:=np (HE4.trans HXU);have HCU:=np (HC4.ext HXU);have HSU:=np (HU4.ext HXU);go_wp2_with fail;clear tP zJ r0 r1 f0 f1 HE4 HU4 HXU HB24 HB14 HC4;refine (HEQ _ _ _ ⟨_,rfl,HSU⟩ ⟨_,rfl,HCU⟩).mono ?_;rintro e w6 ⟨rfl,oU⟩;have HE6:=np (HEU.trans oU);have HB26:=np (aF HB25 oU);have HB16:=np (aF HB15 oU);have HC6:=np (HCU.ext oU);clear oU HEQ HEU HB25 HB15 HCU HSU HB5 s0 s1 q0 q1;obtain ⟨s0,s1,-⟩:=bG HB26;go_wp2_with fail;refine (HAN _ HE6 _ ⟨_,rfl,HC6⟩).mono ?_;rintro e w7 ⟨u7,rfl,Ds,pK⟩;obtain ⟨a7,c7,rfl,-⟩:=aR.open Ds.now;have HE7:=np (HE6.trans pK);have HU7:=np Ds.now;have HB17:=np (aF HB16 pK);clear pK Ds HAN HE6 HB26 HB16 HC6 s0 s1;obtain ⟨V3,Bh,s6,hs3,ot⟩:=cL w7 (.int .i64 0) (.slice none 0 0);obtain ⟨r0,r1,rf⟩:=bG ot;have f0:=rf 0;have f1:=rf 1;have HB8:=np (eE ot (.int .i64 n) (.slice a7 M.length c7));have HXU:=np (db s6 (n9 _) (.int .i64 n) (.slice a7 M.length c7));clear s6 hs3 ot rf;obtain ⟨U3,vJ⟩:=oN ((V3.setCell ⟨w7.heap.size,0,none⟩ (.int .i64 n)).setCell ⟨w7.heap.size,1,none⟩ (.slice a7 M.length c7));rw [vJ] at HB8 HXU;obtain ⟨t0,t1,t2,-⟩:=bc (aF HB17 HXU);obtain ⟨q0,q1,-⟩:=bG HB8;have HEU:=np (HE7.trans HXU);have HMU:=np (HU7.ext HXU);have HVMU:=np (HVM.ext HEU);go_wp2_with fail;clear vJ Bh r0 r1 f0 f1 HE7 HU7 HXU HB17;refine p_ (HSM _ _ _ HMU HVMU) (HEU.trans) ?_;intro w9 HE9;clear HSM;go_wp2_with fail;go_ret;exact ⟨rfl,HE9⟩
theorem Q1_ {n:Int} {k:Nat} (h:n.natAbs<10^k) (hk:1<=k) (hk2:k<=1000):(aB n).size<=2000:=by
 have h1:=gB n;have h2:=lr n.natAbs k h hk;omega
def mK (w:World) (a:Option Addr) (k:Nat) (xs:oQ):Prop:=k=0\/∃ g,a=some ⟨g,0,none⟩/\an w g 0 xs
theorem mK.of {w:World} {base:Nat} {a:Option Addr} {k c:Nat} {xs:oQ} (hk:xs.length=k) (h:w.ownsRow base 92 1 (.slice a k c) k (fx xs)):mK w a k xs:=by
 rcases Nat.eq_zero_or_pos k with h0 | h0;·exact .inl h0
 ·obtain ⟨g,cap,hv,-⟩:=ei h h0;simp only [Value.slice.injEq] at hv;obtain ⟨rfl,-,-⟩:=hv;subst hk;exact .inr ⟨g,rfl,(an.of_owns (xs:=xs) h).1⟩
theorem mK.ext {w w':World} {a:Option Addr} {k:Nat} {xs:oQ} (h:mK w a k xs) (he:aA w w'):mK w' a k xs:=by
 rcases h with h | ⟨g,h1,h2⟩
 ·exact .inl h
 ·exact .inr ⟨g,h1,h2.ext he⟩
def kP {α:Type} (p:α->Bool) (xs:List α):Int:=match xs.findIdx? p with | some i=>(i:Int) | none=>-1
def Z0C {α:Type} (R:World->Value->α->Prop) (g:Nat) (lb:Array Value) (p:α->Bool) (w:World) (xs:List α):Prop :=
 ∀ W x a,x∈xs->aA w W->R W a x->Calls prog g (#[a]++lb) W fun e W'=>e=.returned (.bool (p x))/\aA W W'
theorem N6_ {α:Type} {R:World->Value->α->Prop} (hR:∀ w w' v x,aA w w'->R w v x->R w' v x) (xs:List α) (v:Value) (g:Nat) (lb:Array Value) (p:α->Bool) (w:World) (h:aR 1 (aP R) w v xs) (eg:∀ args w,(callFunc g args).run prog w=.ok (.enter g args) w) (hp:Z0C R g lb p w xs) :
  oL 108 #[v,.func (.func g) #[] lb] w (.int .i64 (kP p xs)):=by
 obtain ⟨a,c,rfl,h1,h2,-,hc⟩:=aP.open h;have HC:=np hc;have HPR:=np hp;have HR:=np hR;clear hc h hp hR;unfold maxLen at h2
 go_enter func108,ntmps108
 go_wp2
 go_loopw [8] (fun t wr=>∃ pre rest,t=.int .i64 (pre.length:Nat)/\aA w wr/\Hid (xs=pre++rest)/\Hid (∀ x∈pre,p x=false)) (fun t _=>xs.length-(intOf t).toNat)
 case atStart=>exact ⟨[],xs,rfl,aA.refl _,rfl,by intro x hx;simp at hx⟩
 case round =>
  obtain ⟨pre,rest,rfl,hE,HP,HA⟩:=hrel;obtain ⟨wo,rfl⟩:∃ wo:World,wo=wr:=⟨_,rfl⟩;have hlen:xs.length=pre.length+rest.length:=by rw [HP.out];simp
  cases rest with
  | nil =>
   have:¬ (pre.length<xs.length):=(by simp at hlen;omega);clear hlen
   go_wp2
   go_ret;have:kP p xs=-1:=by
    have:xs.findIdx? p=none:=(by rw [HP.out,List.append_nil,List.findIdx?_eq_none_iff];exact HA);unfold kP;rw [this]
   rw [this];exact ⟨rfl,hE⟩
  | cons x rest =>
   have hlt:pre.length<xs.length:=(by simp at hlen;omega);clear hlen;obtain ⟨b,off,rfl,hb,hcell⟩:=HC (by rw [HP.out];simp);obtain ⟨vx,pV,o7⟩:=hcell pre.length x (by rw [HP.out];simp);have g1:=hE.cell o7;have hcall:=HPR wo x vx (by rw [HP.out];simp) hE (HR _ _ _ _ hE pV);clear hcell pV o7;cases hq:p x with
   | true =>
    have HRR:Hid (kP p xs=pre.length):=by
     unfold Hid kP;rw [HP.out,List.findIdx?_append,(List.findIdx?_eq_none_iff (xs:=pre)).2 HA.out,List.findIdx?_cons,hq];simp
    rw [hq] at hcall;have HCALL:=np hcall;clear hcall hq;go_wp2_with (go_at_fn g;refine HCALL.mono ?_;rintro e w' ⟨rfl,rD⟩);go_ret;rw [HRR.out];exact ⟨rfl,hE.trans (by assumption)⟩
   | false =>
    have zm:Hid (∀ y∈pre++[x],p y=false):=by
     intro y hy;rcases List.mem_append.1 hy with hy | hy;·exact HA y hy
     ·rw [List.mem_singleton.1 hy];exact hq
    rw [hq] at hcall;have HCALL:=np hcall;clear hcall hq;go_wp2_with (go_at_fn g;refine HCALL.mono ?_;rintro e w' ⟨rfl,rD⟩);go_roundw
    case rel=>exact ⟨pre++[x],rest,by simp,hE.trans (by assumption),by unfold Hid;rw [HP.out];simp,zm⟩
    case measure=>simp [intOf];omega
theorem K6_ {α:Type} {R:World->Value->α->Prop} (hR:∀ w w' v x,aA w w'->R w v x->R w' v x) (xs:List α) (v:Value) (g:Nat) (lb:Array Value) (p:α->Bool) (w:World) (h:aR 1 (aP R) w v xs) (eg:∀ args w,(callFunc g args).run prog w=.ok (.enter g args) w) (hp:Z0C R g lb p w xs) :
  oL 92 #[v,.func (.func g) #[] lb] w (.bool (xs.any p)):=by
 have hcall:=N6_ hR xs v g lb p w h eg hp;cases hf:xs.findIdx? p with
 | none =>
  have HRR:Hid (xs.any p=false):=by
   unfold Hid;rw [List.findIdx?_eq_none_iff] at hf;simpa using hf
  unfold kP at hcall;rw [hf] at hcall;have HCALL:=np hcall;clear hcall hf hp h hR
  go_enter func92,ntmps92
  go_wp2_with (go_at_call 108;refine HCALL.mono ?_;rintro e w' ⟨rfl,rD⟩);go_ret;rw [HRR.out];exact ⟨rfl,by assumption⟩
 | some i =>
  have HRR:Hid (xs.any p=true):=by
   unfold Hid;rw [List.any_eq_true];obtain ⟨hi,xN,_⟩:=List.findIdx?_eq_some_iff_getElem.1 hf;exact ⟨_,List.getElem_mem hi,xN⟩
  have xU:(0:Int)<=(i:Int):=by omega
  unfold kP at hcall;rw [hf] at hcall;have HCALL:=np hcall;clear hcall hf hp h hR
  go_enter func92,ntmps92
  go_wp2_with (go_at_call 108;refine HCALL.mono ?_;rintro e w' ⟨rfl,rD⟩);go_ret;rw [HRR.out];exact ⟨rfl,by assumption⟩
def Z5Y (_:World) (v:Value) (x:Int):Prop:=v=.string (aB x)
theorem ec.fits {cols:Nat} {m:oP} {w w':World} {e:Ending} (h:ec cols m w e w') (hf:(m.all fun r=>r.all dc)=true):∃ a c,e=.returned (.tuple #[.agg #[.int .i64 cols,.slice a m.length c],.int .i64 0])/\aV w' (.slice a m.length c) m/\aA w w':=by
 obtain ⟨h1,h2⟩:=h;rw [if_pos hf] at h1;obtain ⟨v,rfl,hs⟩:=h1;obtain ⟨a,c,rfl,-,-,-,-⟩:=aP.open hs.now;exact ⟨a,c,rfl,hs.now,h2⟩
def four8 (_:World) (u:List Value) (x:oQ):Prop:=u=x.map (Value.int .i8)/\x.length=4/\∀ a∈x,-128<=a/\a<=127
theorem four8.mono:gT four8:=fun _ _ _ _ _ h=>h
abbrev iR (w:World) (v:Value) (xss:oP):Prop:=aR 4 four8 w v xss
theorem iR.ext {w w':World} {v:Value} {xss:oP} (h:iR w v xss) (he:aA w w'):iR w' v xss:=aR.ext four8.mono h he
def fG (n:Nat) (x:oQ):List Int:=(x.take n).map fun a=>a.tmod 10
theorem L6_ {n:Nat} {x:oQ} (h:n<=x.length):(fG n x).length=n:=by unfold fG;rw [List.length_map,ny];omega
theorem Z2e {k:Nat} {x:oQ} {y:Int} (h:x[k]?=some y):fG (k+1) x=fG k x++[y.tmod 10]:=by unfold fG;rw [nz,h,List.map_append];rfl
end Go.Proofs.YtoonaddcfakamaaGreatDoor
