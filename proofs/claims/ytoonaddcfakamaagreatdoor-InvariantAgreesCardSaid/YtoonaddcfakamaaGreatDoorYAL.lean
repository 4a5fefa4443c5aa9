import Derived.Test.YtoonaddcfakamaaGreatDoorYAJ
import Derived.Test.YtoonaddcfakamaaGreatDoorYAK
import Derived.Test.YtoonaddcfakamaaGreatDoorYAI
import Derived.Sort.QuietIn
import Derived.Test.YtoonaddcfakamaaGreatDoorYAF
import Derived.Test.YtoonaddcfakamaaGreatDoorYAH
set_option linter.unusedVariables false
set_option linter.unusedSimpArgs false
set_option maxRecDepth 1000000
set_option maxHeartbeats 4000000
namespace Go.Proofs.YtoonaddcfakamaaGreatDoor
open Go.RowKit Go.Proofs.Tryz
theorem cG.ext {w w':World} {base:Nat} {v:Value} {R:oP} (h:cG w base v R) (he:aA w w'):cG w' base v R:=by
 obtain ⟨a,c,h1,h2,h3,h4⟩:=h;refine ⟨a,c,h1,h2,h3,?_⟩;rcases h4 with h4 | ⟨g,tags,h5,h6,h7⟩
 ·exact .inl h4
 ·exact .inr ⟨g,tags,h5,h6.ext he,h7⟩
theorem cG.low {w:World} {base base':Nat} {v:Value} {R:oP} (h:cG w base v R) (hb:base'<=base):cG w base' v R:=by
 obtain ⟨a,c,h1,h2,h3,h4⟩:=h;refine ⟨a,c,h1,h2,h3,?_⟩;rcases h4 with h4 | ⟨g,tags,h5,h6,h7⟩
 ·exact .inl h4
 ·exact .inr ⟨g,tags,h5,h6,fun b pd=>n8 hb (h7 b pd)⟩
theorem cG.open {w:World} {base:Nat} {v:Value} {R:oP} (h:cG w base v R):∃ a c,v=.slice a R.length c/\R.length<=c/\c<=maxLen/\(R=[]\/∃ g0 tags,a=some ⟨g0,0,none⟩/\cF w g0 tags R):=by
 obtain ⟨a,c,h1,h2,h3,h4⟩:=h;refine ⟨a,c,h1,h2,h3,?_⟩;rcases h4 with h4 | ⟨g,tags,h5,h6,-⟩
 ·exact .inl h4
 ·exact .inr ⟨g,tags,h5,h6⟩
theorem C4_ (xss:oP) (v:Value) (w:World) (h:aV w v xss) (hlen:xss.length<=1000) (hrow:∀ xs∈xss,xs.length<=1000) (ht:aZ w) :
  Calls prog 131 #[v] w fun e w'=>∃ v',e=.returned v'/\cG w' w.heap.size v' xss/\aA w w':=by
 refine (k7_ xss v w h hlen hrow ht).mono fun e w' ⟨v',tags,he,hL,hv,hE⟩=>⟨v',he,?_,hE⟩
 rcases hv with ⟨rfl,rfl⟩ | ⟨g,c,rfl⟩
 ·exact ⟨none,0,rfl,n9 _,by unfold maxLen;omega,.inl rfl⟩
 ·obtain ⟨h1,h2,h3,h4⟩:=hL.mat (n9 _);exact ⟨_,c,rfl,h2,h3,.inr ⟨g,tags,rfl,h1,h4⟩⟩
theorem Z1e (cols:Nat) (a:Option Addr) (c:Nat) (w:World) :
  oM 132 #[.slice a 0 c,.int .i64 cols] w (.slice a 0 c):=by
 go_enter func132,ntmps132
 go_wp2_with fail
 go_loop [5,6] (fun sd sc=>sd=.int .i64 0/\sc=.int .i64 0) (fun _ _=>0)
 case atStart=>exact ⟨rfl,rfl⟩
 case round =>
  obtain ⟨rfl,rfl⟩:=hrel;by_cases h:0<cols
  ·go_wp2_with fail;go_ret;exact ⟨rfl,rfl⟩
  ·obtain rfl:cols=0:=(by omega);go_wp2_with fail;go_ret;exact ⟨rfl,rfl⟩
theorem Z0S (n F:Nat):∀ (k c:Nat),dG n F k c 0 []=some ([],0)
 | 0,_=>rfl
 | k+1,c=>by unfold dG;rw [if_neg (by simp)]
theorem Z1c (n F k:Nat):dU n F k []=some []:=by unfold dU;rw [Z0S];rfl
theorem Z1d (n F cols:Nat) (m:oP) (v:Value) (base:Nat) (w:World) (R:oP) (hM:cG w base v m) (og:dU n F cols m=some R)
  (yG:cols<=n) (vz:n<=1000000) (ht:aZ w) (hb:3<base) (rh:base<=w.heap.size) :
  Calls prog 132 #[v,.int .i64 cols] w fun e w'=>∃ v',e=.returned v'/\cG w' base v' R/\Below base w w':=by
 obtain ⟨a,c,rfl,h2,h3,h4⟩:=hM;rcases h4 with rfl | ⟨g,tags,rfl,h6,h7⟩
 ·rw [Z1c] at og;obtain rfl:=oA og;exact (Z1e cols a c w).mono fun e w' ⟨he,hw⟩=>⟨_,he,⟨a,c,rfl,h2,h3,.inl rfl⟩,hw▸Below.refl _ _⟩
 ·unfold dU at og;cases o8:dG n F cols 0 0 m with
  | none=>rw [o8] at og;cases og
  | some rr =>
   obtain ⟨mf,d⟩:=rr;rw [o8] at og;obtain rfl:mf.take d=R:=oA og;refine (x4_ n F cols m tags g c base w (mf,d) h6 o8 h2 h3 yG vz ht hb h7 rh).mono fun e w' ⟨tags',he,hF,hl,hd,hG⟩=>⟨_,he,?_,hG.below rh h7⟩
   have pw:(mf.take d).length=d:=by
    have h1:mf.length=m.length:=hl;have h2:d<=m.length:=hd;rw [ny];omega
   refine ⟨_,c,by rw [pw],by rw [pw];exact n8 hd h2,h3,.inr ⟨g,tags'.take d,rfl,hF.1.take d,fun b pd=>?_⟩⟩;rcases List.mem_cons.1 pd with rfl | pd;·exact h7 _ (List.mem_cons_self ..)
   ·obtain ⟨t,ht,rfl⟩:=List.mem_map.1 pd;exact h7 _ (List.mem_cons_of_mem _ (hF.2 _ (List.mem_map.2 ⟨t,List.mem_of_mem_take ht,rfl⟩)))
theorem T1_ (cols:Nat) (m:oP) (v:Value) (base:Nat) (w:World) (hM:cG w base v m) (qJ:∀ r∈m,r.all bX=true) (hl:∀ r∈m,r.length<=1000)
  (hm:m.length<=1000) (hc:cols<=1000) (oS:bg w) :
  Calls prog 133 #[v,.int .i64 cols] w (ec cols m w):=by
 obtain ⟨a,c,rfl,h2,h3,h4⟩:=hM.open;exact Z02 cols m a c w h4 qJ hl h2 h3 hm hc oS
theorem k3_ (F cols:Nat) (m:oP) (v:Value) (base:Nat) (w:World) (R:oP) (hM:cG w base v m) (hrow:bV cols m=true) (h:oP) (hF:dU (m.length+cols) F (m.length+cols) (bI cols m)=some h) (og:bV (m.length+cols) h=true) (hR:dU cols F cols (dZ m.length h)=some R)
  (hm:m.length+cols<=1000) (pc:1<=cols) (ht:aZ w) (hb:3<w.heap.size) :
  Calls prog 215 #[v,.int .i64 cols] w fun e w'=>∃ v',e=.returned v'/\cG w' w.heap.size v' R/\aA w w':=by
 obtain ⟨a,c,rfl,h2,h3,h4⟩:=hM.open;exact Z00 F cols m a c w R h4 hrow h hF og hR h2 h3 hm pc ht hb
theorem Z4Y (n:Nat) (F:Nat) (xss R:oP) (v:Value) (w:World) (h:aV w v xss) (hE:dA n xss=0) (hF:dU n F n xss=some R) (qJ:∀ r∈R,r.all bX=true) (hl:∀ r∈R,r.length<=1000) (hm:R.length<=1000) (oS:bg w) (hb:3<w.heap.size) :
  Calls prog 47 #[.int .i64 n,v] w (ec n R w):=by
 have HB:=np hb;obtain ⟨e0,e1,e2,e3⟩:=jP hE;have HC:=np (fun W (hW:aA w W)=>O6_ xss n v W (h.ext hW));rw [hE] at HC;have HLO:=np (fun W (hW:aA w W)=>C4_ xss v W (h.ext hW) (by omega) (fun xs hx=>by have:=(e3 xs hx).2;omega) (oS.pow.ext hW));have HFO:=np (fun W v base (hM:cG W base v xss) (hW:aA w W) (qE:3<base) (rh:base<=W.heap.size)=>Z1d n F n xss v base W R hM hF (n9 _) (by omega) (oS.pow.ext hW) qE rh);have HS:=np (fun W v base (hM:cG W base v R) (hW:aA w W)=>T1_ n R v base W hM qJ hl hm (by omega) (oS.ext hW));obtain ⟨a,c,rfl,h1,h2,-,hc⟩:=aP.open h;clear h hc hE hF qJ hl hm oS e0 e1 e2 e3 hb
 go_enter func47,ntmps47
 obtain ⟨W1,oZ,hE1,hs1,hb1⟩:=cL w (.int .i64 0) (.slice none 0 0);have HB1:=np hb1;have HE1:=np hE1;clear hE1 hb1;go_wp2_with fail;refine (HC _ HE1).mono ?_;rintro e w2 ⟨rfl,hE2⟩;have HE2:=np (HE1.trans hE2);have HK2:=np (aF HB1 hE2);clear hE2 HC;go_wp2_with fail;refine (HLO _ HE2).mono ?_;rintro e w3 ⟨v3,rfl,wI,oT⟩;have HM3:=np wI;have HE3:=np (HE2.trans oT);have HK3:=np (aF HK2 oT);have rz:Hid (w.heap.size+1<=w2.heap.size/\w2.heap.size<=w3.heap.size):=⟨by have:=c_ HK2;omega,oT.size⟩;clear oT HLO wI;go_wp2_with fail;refine (HFO _ _ w2.heap.size HM3 HE3 (by have:=HB.out;have:=rz.1;omega) rz.2).mono ?_;rintro e w4 ⟨v4,rfl,AI,hb4⟩;have HM4:=np AI;have HE4:Hid (aA w w4):=Below.trans HE3 (Below.mono hb4 HE2.size);have JN:Hid (w4.heap[w.heap.size]?=some (.cells #[.int .i64 0,.slice none 0 0] 76 (0,0))):=(hb4.block w.heap.size (by have:=rz.1;omega)).trans HK3;clear AI hb4 HFO;go_wp2_with fail;refine (HS _ _ _ HM4 HE4).mono ?_;rintro e w5 ⟨hr,oX⟩;have HSW:Hid (w.heap.size<w4.heap.size):=c_ JN;have HE5:=np (HE4.trans oX);have hk5:=aF JN oX;obtain ⟨r0,r1,rf⟩:=bG hk5;have f0:=rf 0;have f1:=rf 1;clear rf HS oX;by_cases hf:(R.all fun r=>r.all dc)=true
 ·rw [if_pos hf] at hr;obtain ⟨u,rfl,hu⟩:=hr;obtain ⟨au,cu,rfl,u1,u2,-,-⟩:=aP.open hu.now;have HU:=np hu;have HFF:=np hf;have hkA:=eE hk5 (.int .i64 n) (.slice au R.length cu);have HX:=np (db HE5 (n9 w.heap.size) (.int .i64 n) (.slice au R.length cu));clear hu hf;go_wp2_with fail;refine bodyPost_ret (ir (by rfl) _ _ w.heap.size 76 #[.int .i64 n,.slice au R.length cu] (0,0) _ (by rfl) hkA underlying76 (by rfl) (by kernel_rfl)) (by rfl) ?_;unfold ec;rw [if_pos HFF.out];refine ⟨⟨_,rfl,?_⟩,HX⟩;refine HU.grow (aH.setCell (aH.setCell (aH.refl _ _) ?_ 0 _) ?_ 1 _) fun k hk=>.inl ?_;·exact HSW
  ·exact HSW
  ·exact Nat.lt_trans hk HSW
 ·rw [if_neg hf] at hr;subst hr;have HFF:=np hf;have hkA:=eE hk5 (.int .i64 0) (.slice none 0 0);have HX:=np (db HE5 (n9 w.heap.size) (.int .i64 0) (.slice none 0 0));clear hf;go_wp2_with fail;refine bodyPost_ret (ir (by rfl) _ _ w.heap.size 76 #[.int .i64 0,.slice none 0 0] (0,0) _ (by rfl) hkA underlying76 (by rfl) (by kernel_rfl)) (by rfl) ?_;unfold ec;rw [if_neg HFF.out];exact ⟨rfl,HX⟩
end Go.Proofs.YtoonaddcfakamaaGreatDoor
namespace Go.Proofs.YtoonaddcfakamaaGreatDoor
open Go.RowKit Go.Shelf Go.Proofs.Tryz
attribute [local go_sem] Oper.semAt_some
def Z6r (xss:oP) (i:Nat) (A W:World) (args:Array Value):Prop :=
 ∃ x gx cx,xss[i]?=some x/\args=#[.int .i64 (bt x),.slice (some ⟨gx,0,none⟩) x.length cx]/\an W gx 0 x/\A.heap.size<=gx/\x.length<=cx/\cx<=maxLen
theorem B5_ (k:Nat) (hk:1<=k) (n:Int) (xss:oP) (v:Value) (bL:Nat) (w w6:World) (hL:w6.heap[bL]?=some (.cells #[.int .i64 n,v] 76 (0,0))) (hR:aV w v xss) (hlen:∀ x∈xss,x.length<=1000) (ht:aZ w) :
  K2_ Fence.wide k prog 293 #[.pointer (some ⟨bL,0,none⟩)] xss.length (Z6r xss) (fun W=>aA w6 W) (fun W=>aA w W):=by
 intro l J W hW hJ Io hY h0;have HJ:=np hJ;have HJX:=np Io;have HY:=np hY;have H0:=np h0;have HLEN:=np hlen;have HT:=np ht;obtain ⟨a,c,rfl,h1,h2,-,hc⟩:=aP.open hR;have HC:=np hc;obtain ⟨e0,e1,-⟩:=bG (aF hL hW);unfold maxLen at h2;clear hL hR hJ Io hY h0 hlen ht hc;refine callsIn_of_wp func293 rfl trivial ?_ rfl;simp only [ntmps293,List.size_toArray,List.length_cons,List.length_nil,Nat.reduceAdd,Nat.reduceSub,Array.replicate_succ,Array.replicate_zero,List.push_toArray,List.append_toArray,List.nil_append,List.cons_append]
 gi_wp2_with fail
 gi_loopw [9] (fun t wr=>∃ i:Nat,i<=xss.length/\t=.int .i64 i/\Hid (J i wr)) (fun t _=>xss.length-(intOf t).toNat)
 case atStart=>exact ⟨0,by omega,rfl,H0⟩
 case round =>
  obtain ⟨i,hi,rfl,Ge⟩:=hrel;obtain ⟨wo,rfl⟩:∃ wo:World,wo=wr:=⟨_,rfl⟩;clear e0 e1;by_cases hlt:i<xss.length
  ·obtain ⟨x,hx⟩:∃ x,xss[i]?=some x:=⟨_,ns hlt⟩;obtain ⟨b,off,rfl,hb,hcell⟩:=HC (by intro e;simp [e] at hlt);obtain ⟨vx,pV,o7⟩:=hcell i x hx;have HEX:=np (HJX i wo Ge);have g1:=HEX.cell o7;have HXL:=np (HLEN x (nw hx));have HLO:=np (V9_ x vx wo (pV.ext HEX) HXL (HT.ext HEX));obtain ⟨ax,cx,rfl,x1,x2,-,-,-⟩:=pV.open;have HX:=np hx;unfold maxLen at x2;clear hx hcell pV o7
   gi_wp2_with fail
   refine ⟨trivial,(callsIn_wide.2 HLO).mono ?_⟩;rintro e w1 ⟨gx,cg,rfl,qb,hgx,IK,zB,hE1⟩;have HE1:=np hE1;have HR1:=np qb;have HLD:=np (M9_ x gx 0 cg w1 qb IK zB);have HGX:=np hgx;have HCG:=np (And.intro IK zB);unfold maxLen at zB;clear hE1 qb HLO hgx
   gi_wp2_with fail
   refine ⟨trivial,(callsIn_wide.2 HLD).mono ?_⟩;rintro e w2 ⟨rfl,hE2⟩;have HE2:=np (aA.trans HE1 hE2);obtain ⟨fn,tmps,assign,body,Dj,hR⟩:=HY i wo w2 _ hlt Ge HE2 ⟨x,gx,cg,HX,rfl,HR1.ext hE2,HGX,HCG.1,HCG.2⟩;clear hE2 HLD
   gi_wp2_with fail
   refine hR.mono ?_;rintro e W3 ⟨rfl,Bv⟩;have HJ3:=np Bv;clear hR Dj Bv
   gi_wp2_with fail
   go_roundw
   case rel=>exact ⟨i+1,by omega,by go_num,HJ3⟩
   case measure=>simp [intOf];omega
  ·obtain rfl:i=xss.length:=by omega
   gi_wp2_with fail
   refine bodyPost_end (results_none rfl _ _ _) rfl ⟨⟨_,rfl⟩,Ge⟩
theorem Oper.wpIn_of_wp {P:Program} {l n:Nat} {o:Oper} {a:Act} {w:World} {K:Act->World->Prop} {Q:Exit->Act->World->Prop} (h1:∀ c,o.op≠.defer c) (h:o.wp P a w K Q):o.wpIn (Fence.wide.inRound l) n P a w K Q:=by
 unfold Oper.wp at h;unfold Oper.wpIn;refine ⟨fun _ _=>trivial,?_⟩;rw [show (Fence.wide.inRound l).round=some l from rfl,Oper.semAt_eq _ _ _ h1];generalize (execOp a.eval o).run P w=r at *
 have hd:(Fence.wide.inRound l).depth.isSome=true->1<=n:=fun e=>by simp [Fence.wide] at e
 cases r with
 | ok x w' =>
  cases x with
  | enter f args=>exact ⟨hd,CallsIn.inRound l (callsIn_wide.2 h)⟩
  | row r args =>
   refine ⟨hd,fun c cs _=>?_⟩;obtain ⟨v,w2,hr,hs⟩:=h c cs;exact ⟨v,w2,hr,stepsIn_wide.2 hs⟩
  | _=>first | exact h | exact False.elim h
 | halt x w'=>cases x <;> first | exact h | exact False.elim h
def w5_ (ops:Array Oper):Bool:=ops.all fun o=>match o.op with | .defer _=>false | _=>true
theorem q9_ {ops:Array Oper} (h:w5_ ops=true) {i:Nat} {o:Oper} (hi:ops[i]?=some o):∀ c,o.op≠.defer c:=by
 intro c hc;have:=Array.all_eq_true_iff_forall_mem.1 h o (Array.mem_of_getElem? hi);rw [hc] at this;cases this
theorem F8_ {P:Program} {l n:Nat} {ops:Array Oper} {Q:Exit->Act->World->Prop} (hn:w5_ ops=true) (hq:¬ LetsOut Q) {i:Nat} {K:Act->World->Prop} {a:Act} {w:World} (h:wpOp P ops Q i K a w):wpOpIn (Fence.wide.inRound l) n P ops Q i K a w:=by
 unfold wpOp at h;unfold wpOpIn;cases hi:ops[i]? with
 | none=>simpa [hi] using h
 | some o =>
  simp only [hi] at h |-
  split
  ·rename_i hw;simp only [hw,if_true] at h;rcases h with h | ⟨-,h⟩
   ·exact Oper.wpIn_of_wp (q9_ hn hi) h
   ·exact absurd h hq
  ·rename_i hw;simp only [hw] at h;exact ⟨fun _ _=>trivial,h⟩
theorem X9_ {P:Program} {l n:Nat} {md:Region.Mode} {ops:Array Oper} {Q:Exit->Act->World->Prop} (hn:w5_ ops=true) (hq:¬ LetsOut Q):∀ (f:Nat) (ls:Array Bool) (a:Act) (w:World),wpAny P md ops Q f ls a w->wpAnyIn (Fence.wide.inRound l) n P md ops Q f ls a w
 | 0,ls,a,w,h=>h
 | f+1,ls,a,w,h=>⟨h.1,fun i hi=>F8_ hn hq (wpOp_mono (fun a w k=>X9_ hn hq f _ a w k) (h.2 i hi))⟩
theorem h6_ {P:Program} {ops:Array Oper} {Q:Exit->Act->World->Prop} {md:Region.Mode} {S:World->Prop} {z:Nat} (i j:Nat) {o p:Oper} {f:Nat} {l:Array Bool} {a:Act} {w:World} (hr:Region.ready md ops l=[i,j]) (ho:ops[i]?=some o) (hp:ops[j]?=some p)
  (h1:∀ K:Act->World->Prop,Shut (∀ b u,S u->(S u->bU P md ops Q S z f (l.setIfInBounds i true) b u)->K b u)->if Region.wanted o (yielded ops a.tmps)=true then Oper.wp P o a w K Q else K (a.put o.dst undef) w)
  (h2:∀ K:Act->World->Prop,Shut (∀ b u,S u->(S u->bU P md ops Q S z f (l.setIfInBounds j true) b u)->K b u)->if Region.wanted p (yielded ops a.tmps)=true then Oper.wp P p a w K Q else K (a.put p.dst undef) w):bU P md ops Q S z (f+1) l a w:=by
 refine ⟨(fun e=>by rw [hr] at e;cases e),fun q hq=>?_⟩;rw [hr] at hq;rcases List.mem_cons.1 hq with rfl | hq;·exact wpOp_step ho fun K hK=>h1 K fun b u hS pE=>hK b u ⟨fun _=>hS,pE hS⟩
 ·obtain rfl:q=j:=by simpa using hq
  exact wpOp_step hp fun K hK=>h2 K fun b u hS pE=>hK b u ⟨fun _=>hS,pE hS⟩
theorem Y0_ {P:Program} {l n:Nat} {ops:Array Oper} {Q:Exit->Act->World->Prop} (S:World->Prop) (z:Nat) {id:Nat} {a:Act} {w:World} (hm:P.follows .mixedOrders=true) (hn:w5_ ops=true) (hq:¬ LetsOut Q) (hS:S w.drew)
  (h:S w.drew->bU P .any ops Q S z ops.size (Array.replicate ops.size false) a w.drew):(Code.region id ops true).wpIn (Fence.wide.inRound l) n P Q a w :=
 wpIn_region_any hm (X9_ hn hq _ _ _ _ (y0_ _ _ _ _ (h hS)))
theorem Z4_ {P:Program} {l n:Nat} {ops:Array Oper} {rest:List Oper} {o:Oper} {a:Act} {w:World} {Q:Exit->Act->World->Prop} (hg:o.guard=none) (hd:∀ c,o.op≠.defer c)
  (h:∀ K:Act->World->Prop,(∀ a w,wpListIn (Fence.wide.inRound l) n P ops Q rest a w->K a w)->o.wp P a w K Q):wpListIn (Fence.wide.inRound l) n P ops Q (o::rest) a w :=
 wpListIn_plain hg fun K hK=>Oper.wpIn_of_wp hd (h K hK)
theorem B0_ {w:World} {base:Nat} {e:TypeId} {k:Nat} {v:Value} {n:Nat} {xs:List Value} (h:w.ownsRow base e k v n xs) {g:Nat} (hg:v.ownBlock=some g) {o:Obj} (ho:w.heap[g]?=some o) (hc:o.isCells=false):False:=by
 rcases h.2 with ⟨rfl,_⟩ | ⟨g',cap,cur,rfl,_,qL,_⟩
 ·simp [Value.ownBlock] at hg
 ·simp [Value.ownBlock] at hg;subst hg;rw [qL] at ho;cases ho;simp [Obj.isCells] at hc
def fx (m:oQ):List Value:=m.map fun x=>Value.string (aB x)
structure et (w W:World) (B b4 b5 gr cr:Nat) (s m:oQ):Prop where
 old:aA w W
 h4:W.heap[b4]?=some (.cells #[.slice (some ⟨gr,0,none⟩) s.length cr] 263 (0,0))
 row:an W gr 0 s
 out:∃ vo,W.heap[b5]?=some (.cells #[vo] 263 (0,0))/\W.ownsRow w.heap.size 92 1 vo m.length (fx m)/\vo.ownBlock≠some gr
 ne:b4≠gr/\b5≠gr/\b4≠b5
 low:w.heap.size<=b4/\w.heap.size<=b5/\w.heap.size<=gr
 lt:b4<B/\b5<B/\gr<B
theorem jJ {w W W':World} {row:Option Nat} (h:aA w W) (hg:W.grownBy W' row) (hr:∀ r,row=some r->w.heap.size<=r):aA w W' :=
 Below.trans h ⟨hg.os,hg.tape,hg.output,hg.size,fun k hk=>hg.block k (n7 hk h.size) (fun e=>by have:=hr k e.symm;omega)⟩
theorem Z53 {W:World} {base:Nat} {e:TypeId} {n:Nat} {v:Value} {xs:List Value} (h:W.ownsRow base e 1 v n xs):∀ b,v.ownBlock=some b->base<=b/\b<W.heap.size:=h.lt
theorem et.grown {w W W':World} {B b4 b5 gr cr:Nat} {s m:oQ} (h:et w W B b4 b5 gr cr s m) (hB:w.heap.size<=B) {row:Option Nat} (hg:W.grownBy W' row) (hr:∀ r,row=some r->B<=r/\∃ o:Obj,W.heap[r]?=some o/\o.isCells=false):et w W' B b4 b5 gr cr s m:=by
 obtain ⟨vo,o1,o2,o3⟩:=h.out;have l:=h.lt;have hne:∀ b,b<B->row≠some b:=fun b hb e=>by have:=(hr b e).1;omega
 refine ⟨jJ h.old hg (fun r e=>n8 hB (hr r e).1),dn h.h4 hg (hne _ l.1),h.row.same hg.size (hg.block gr h.row.lt (fun e=>hne _ l.2.2 e.symm)),⟨vo,dn o1 hg (hne _ l.2.1),o2.kept hg ?_,o3⟩,h.ne,h.low,l⟩;cases hv:vo.ownBlock with
 | none=>exact .inl rfl
 | some b =>
  refine .inr fun e=>?_;obtain ⟨-,o,ho,hc⟩:=hr b e.symm;exact B0_ o2 hv ho hc
theorem et.ab {w:World} {B b4 b5 gr cr:Nat} (hB:w.heap.size<=B) (xss:oP) (r:oQ):mJ B (fun i W=>∃ s m,dx xss r i=some (s,m)/\et w W B b4 b5 gr cr s m):=by
 rintro i W W' row ⟨s,m,h1,h2⟩ hg hr;exact ⟨s,m,h1,h2.grown hB hg hr⟩
theorem et.ext {w W W':World} {B b4 b5 gr cr:Nat} {s m:oQ} (h:et w W B b4 b5 gr cr s m) (hB:w.heap.size<=B) (he:aA W W'):et w W' B b4 b5 gr cr s m :=
 h.grown hB (row:=none) ⟨he.os,he.tape,he.output,he.size,fun k hk _=>he.block k hk⟩ (fun r e=>by cases e)
theorem et.less {w W W':World} {B b4 b5 gr cr:Nat} {s m s':oQ} (h:et w W B b4 b5 gr cr s m) (hg:aH (·=gr) W W') (hR:an W' gr 0 s') (hl:s'.length=s.length):et w W' B b4 b5 gr cr s' m/\KeepsFrom B W W':=by
 obtain ⟨vo,o1,o2,o3⟩:=h.out;have sG:W.grownBy W' (some gr):=⟨hg.os,hg.tape,hg.output,hg.size,fun k hk e=>hg.block k hk (fun hh=>e (by rw [hh]))⟩;refine ⟨⟨jJ h.old sG (fun r e=>by cases e;exact h.low.2.2),by rw [hl];exact dn h.h4 sG (fun e=>h.ne.1 (oA e).symm),hR,⟨vo,dn o1 sG (fun e=>h.ne.2.1 (oA e).symm),o2.kept sG ?_,o3⟩,h.ne,h.low,h.lt⟩,⟨hg.size,fun k o hk ho _=>?_⟩⟩
 ·cases hv:vo.ownBlock with
  | none=>exact .inl rfl
  | some b=>exact .inr fun e=>o3 (hv.trans e)
 ·have:=h.lt.2.2;exact (hg.block k (c_ ho) (fun e=>by omega)).trans ho
theorem et.push {w W0 W w':World} {B b4 b5 gr cr:Nat} {s m:oQ} (h:et w W0 B b4 b5 gr cr s m) (he:aA W0 W) {vo v':Value} {q:Int} (hb:W.heap[b5]?=some (.cells #[vo] 263 (0,0))) (hown:W.ownsRow w.heap.size 92 1 vo m.length (fx m)) (hne:vo.ownBlock≠some gr)
  (hB:w.heap.size<=B) (hgr:gr<W.heap.size) (yu:w'.ownsRow w.heap.size 92 1 v' (m.length+1) (fx m++[.string (aB q)])) (hg:W.grownBy w' vo.ownBlock) (qN:v'.ownBlock=vo.ownBlock\/v'.ownBlock=some W.heap.size) :
  et w (w'.setCell ⟨b5,0,none⟩ v') B b4 b5 gr cr s (m++[q])/\KeepsFrom B W (w'.setCell ⟨b5,0,none⟩ v'):=by
 have h':=h.ext hB he;have l:=h.lt;have e4:=ki hown h'.h4 (by decide);have e5:=ki hown hb (by decide);have g1:=eL w' b5 0 v';have k4:=dn h'.h4 hg e4;have k5:=dn hb hg e5;have hrow:=h'.row.same hg.size (hg.block gr h'.row.lt (fun e=>hne e.symm));have e5':=ki yu k5 (by decide);have qg:v'.ownBlock≠some gr:=by
  rcases qN with e | e;·rw [e];exact hne
  ·rw [e];intro hh;have:=oA hh;omega
 refine ⟨⟨?_,dn k4 g1 (fun e=>h.ne.2.2 (oA e).symm),hrow.other b5 0 v' (fun e=>h.ne.2.1 e.symm),⟨v',?_,?_,qg⟩,h.ne,h.low,l⟩,?_⟩;·refine jJ (jJ h'.old hg (fun r e=>(Z53 hown r e).1)) g1 (fun r e=>by cases e;exact h.low.2.1)
 ·have:=d_ k5 0 v';simpa using this
 ·have:(fx (m++[q]))=fx m++[.string (aB q)]:=by simp [fx]
  rw [this,oJ];refine yu.kept g1 ?_;cases hv:v'.ownBlock with
  | none=>exact .inl rfl
  | some b=>exact .inr fun e=>e5' (hv.trans e)
 ·refine ⟨n8 hg.size g1.size,fun k o hk ho hc=>?_⟩;have hk5:k≠b5:=fun e=>by omega
  refine (g1.block k (n7 (c_ ho) hg.size) (fun e=>hk5 (oA e))).trans ((hg.block k (c_ ho) (fun e=>?_)).trans ho);exact B0_ hown e.symm ho hc
attribute [local go_sem] Oper.semAt_some
theorem u5_ {o:Oper} {a:Act} {K:Act->World->Prop} {Q:Exit->Act->World->Prop} (F:World) (s x:Operand) (ho:o.op=Op.call { callee:=Callee.builtin Builtin.append,args:=#[s,x],argTypes:=#[263,263] }) (B:Nat)
  (vo:Value) (L:oQ) (y:Int) (u:Array Value) (T:TypeId) (hs:a.eval s=vo) (hB:F.ownsRow B 92 1 vo L.length (fx L)) (hx:a.eval x=.slice (some ⟨F.heap.size,0,none⟩) 1 1) (hu:u=#[.string (aB y)]) (hlen:L.length<8000000) (od:B<=F.heap.size)
  (h:∀ v' w',w'.ownsRow B 92 1 v' (L.length+1) (fx L++[.string (aB y)])->(F.alloc (.cells u T)).grownBy w' vo.ownBlock->(v'.ownBlock=vo.ownBlock\/v'.ownBlock=some (F.alloc (.cells u T)).heap.size)->K (a.put o.dst v') w'):o.wp prog a (F.alloc (.cells u T)) K Q:=by
 subst hu;obtain ⟨i0,hi,hz,oe,pX⟩:=info_parts nE;have pJ:∀ j,(⟨F.heap.size,0,none⟩:Addr).add j=⟨F.heap.size,j,none⟩:=by intro j;unfold Addr.add;split <;> simp_all
 refine iw (F.alloc (.cells #[.string (aB y)] T)) s x _ ho B 92 i0 (.string ⟨#[]⟩) 1 16 underlying263 hi hz oe pX rfl (by decide) vo L.length (fx L) hs (hB.alloc _) ⟨F.heap.size,0,none⟩ 1 1 [.string (aB y)] hx rfl ?_ ?_ ?_ ?_ ?_ ?_
 ·intro j q hq;rw [pJ,World.cell?_alloc_new];simpa using hq
 ·intro u hu;rw [List.mem_singleton.1 hu];rfl
 ·unfold maxLen;omega
 ·omega
 ·simp;omega
 ·intro v' w' hown oV _ qN;exact h v' w' hown oV qN
theorem B6_ (n:Int) (xss:oP) (u:Value) (w:World) (hu:aV w u xss) :
  Calls prog 216 #[.agg #[.int .i64 n,u]] w fun e w'=>∃ bL,e=.returned (.func (.func 293) #[] #[.pointer (some ⟨bL,0,none⟩)])/\w'.heap[bL]?=some (.cells #[.int .i64 n,u] 76 (0,0))/\aA w w':=by
 obtain ⟨a,c,rfl,h1,h2,-,hc⟩:=aP.open hu;clear hu hc
 go_enter func216,ntmps216
 go_wp2_with fail;go_ret;exact ⟨w.heap.size,rfl,dE _ _ _,aA.alloc _ _⟩
theorem F6_ {P:Program} {fn:Func} {p q:Tmp} {ty:TypeId} (h:fn.results=#[.cell p ty,.cell q ty]) (tmps:Array Value) (w:World) (g k:Nat) (x y:Value)
  (hp:tmps.getD p undef=.pointer (some ⟨g,0,none⟩)) (hq:tmps.getD q undef=.pointer (some ⟨k,0,none⟩)) (hl:∀ g x,w.cell? ⟨g,0,none⟩=some x->(loadVar ty ⟨g,0,none⟩).run P w=.ok x w) (hg:w.cell? ⟨g,0,none⟩=some x) (hk:w.cell? ⟨k,0,none⟩=some y) :
  (results fn tmps).run P w=.ok (.tuple #[x,y]) w:=by
 have qj:tmps[p]?.getD undef=.pointer (some ⟨g,0,none⟩):=by simpa using hp
 have zr:tmps[q]?.getD undef=.pointer (some ⟨k,0,none⟩):=by simpa using hq
 simp [results,h,qj,zr,asAddr,hl _ _ hg,hl _ _ hk,Sem.run_bind,Result.andThen]
theorem j7_ (n:Int) (xss:oP) (r R M:oQ) (v vx:Value) (w:World) (h:bj w v n xss) (hx:aK w vx r) (hl:r.length<=1000) (hxl:xss.length<=1000) (hlen:∀ x∈xss,x.length=r.length) (hR:dx xss r xss.length=some (R,M)) (ht:aZ w) (hb:3<w.heap.size) :
  Calls prog 231 #[v,vx] w fun e w'=>∃ gr cr vm,e=.returned (.tuple #[.slice (some ⟨gr,0,none⟩) R.length cr,vm])/\an w' gr 0 R/\(R.length<=cr/\cr<=maxLen)/\w'.ownsRow w.heap.size 92 1 vm M.length (fx M)/\aA w w':=by
 have HLO:=np (fun W (hW:aA w W)=>V9_ r vx W (hx.ext hW) hl (ht.ext hW));have HLEN:=np hlen;have HT:=np ht;have HB:=np hb;have HR:=np hR;have HL:=np hl;obtain ⟨u,rfl,hu⟩:=h;have HPV:=np (fun W (hW:aA w W)=>B6_ n xss u W (hu.ext hW));have HU:=np hu;obtain ⟨a,c,rfl,h1,h2,-,hc⟩:=aP.open hu;obtain ⟨ax,cx,rfl,x1,x2,-,-,-⟩:=hx.open;clear hu hc hx hlen ht hb hR hl;refine (callsIn_wide (n:=9)).1 ?_;refine callsIn_of_wp_marks func231 rfl trivial ?_ rfl;simp only [ntmps231,List.size_toArray,List.length_cons,List.length_nil,Nat.reduceAdd,Nat.reduceSub,Array.replicate_succ,Array.replicate_zero,List.push_toArray,List.append_toArray,List.nil_append,List.cons_append];obtain ⟨W1,oZ,hE1,hs1,hb1⟩:=cL w (.int .i64 n) (.slice a xss.length c);obtain ⟨W2,pg⟩:=oN (W1.alloc (.cells #[.slice none 0 0] 263));obtain ⟨W3,rO⟩:=oN (W2.alloc (.cells #[.slice none 0 0] 263));have hE2:aA W1 W2:=by rw [<- pg];exact aA.alloc _ _
 have oT:aA W2 W3:=by rw [<- rO];exact aA.alloc _ _
 have oY:W2.heap[W1.heap.size]?=some (.cells #[.slice none 0 0] 263 (0,0)):=by rw [<- pg];exact dE _ _ _
 have ot:W3.heap[W2.heap.size]?=some (.cells #[.slice none 0 0] 263 (0,0)):=by rw [<- rO];exact dE _ _ _
 have hs2:W2.heap.size=W1.heap.size+1:=by rw [<- pg];simp
 have hs3:W3.heap.size=W2.heap.size+1:=by rw [<- rO];simp
 have z1:W1.heap.size=w.heap.size+1:=hs1;have z2:W2.heap.size=w.heap.size+1+1:=by omega
 have z3:W3.heap.size=w.heap.size+1+1+1:=by omega
 have HK1:=np (aF (aF hb1 hE2) oT);have HK2:Hid (W3.heap[w.heap.size+1]?=some (.cells #[.slice none 0 0] 263 (0,0))):=by have:=aF oY oT;rw [z1] at this;exact this
 have HK3:Hid (W3.heap[w.heap.size+1+1]?=some (.cells #[.slice none 0 0] 263 (0,0))):=by rw [z2] at ot;exact ot
 have HE3:=np (hE1.trans (hE2.trans oT));clear hE1 hE2 oT hb1 oY ot hs1 hs2 hs3;refine wpIn_wide.2 ?_;go_wp2_with fail;refine (HLO _ HE3).mono ?_;rintro e w4 ⟨g4,c4,rfl,xg,tK,AE,zu,hE4⟩;have HE4:=np (HE3.trans hE4);have hk1:=aF HK1 hE4;have hk2:=aF HK2 hE4;have hk3:=aF HK3 hE4;have n1:w.heap.size+1+1+1<=g4:=by omega
 have HX5:Hid (aA w (w4.setCell ⟨w.heap.size+1,0,none⟩ (.slice (some ⟨g4,0,none⟩) r.length c4))):=Below.setCell HE4 (show w.heap.size<=w.heap.size+1 by omega) _;have hb4:=d_ hk2 0 (.slice (some ⟨g4,0,none⟩) r.length c4);have gs:=eL w4 (w.heap.size+1) 0 (.slice (some ⟨g4,0,none⟩) r.length c4);have HB4:Hid ((w4.setCell ⟨w.heap.size+1,0,none⟩ (.slice (some ⟨g4,0,none⟩) r.length c4)).heap[w.heap.size+1]?=some (.cells #[.slice (some ⟨g4,0,none⟩) r.length c4] 263 (0,0))):=by unfold Hid;simpa using hb4
 have HB1:=np (dn hk1 gs (fun e=>by have:=oA e;omega));have HB5:=np (dn hk3 gs (fun e=>by have:=oA e;omega));have HR5:=np (xg.other (w.heap.size+1) 0 (.slice (some ⟨g4,0,none⟩) r.length c4) (by omega));have k0:=ag hk2 0;have k1:=cO hk2 0;simp only [oF,oE,oD] at k0;have HG4:=np (And.intro n1 (And.intro AE zu));have BH:g4<w4.heap.size:=xg.lt;have HLT4:=np BH;unfold maxLen at zu;clear hE4 xg tK hk1 hk2 hk3 hb4 gs n1 BH HLO;obtain ⟨sU,sR,-⟩:=bG HB1;have xL:(w4.setCell ⟨w.heap.size+1,0,none⟩ (.slice (some ⟨g4,0,none⟩) r.length c4)).heap.size=w4.heap.size:=by simp [World.setCell]
 have HSZ5:=np xL;clear xL;go_wp2_with fail;refine (HPV _ HX5).mono ?_;rintro e w6 ⟨bL,rfl,Bt,oU⟩;have HE6:=np (HX5.trans oU);have HRI:Hid (et w w6 w6.heap.size (w.heap.size+1) (w.heap.size+1+1) g4 c4 r []):=by
  have hs:=oU.size;rw [HSZ5.out] at hs;have h1:=HG4.1;have h2:=HLT4.out;exact ⟨HE6,aF HB4 oU,HR5.ext oU,⟨_,aF HB5 oU,World.ownsRow_nil _ _ _ _,by simp [Value.ownBlock]⟩,⟨by omega,by omega,by omega⟩,⟨by omega,by omega,by omega⟩,⟨by omega,by omega,by omega⟩⟩
 have HL6:=np Bt;have AM:Hid (w.heap.size<=w6.heap.size):=HE6.size;clear oU Bt sU sR HB1 HB4 HB5 HR5 HX5 HK1 HK2 HK3 oZ pg rO z1 z2 z3 k0 k1;go_wp2_with fail;refine (wpIn_wide (n:=9)).1 ?_;refine V2_ rfl (by omega) (gf:=293) (lb:=#[.pointer (some ⟨bL,0,none⟩)]) rfl trivial (enters_of func293 (by kernel_rfl) rfl)
  (B5_ (9-1) (by omega) n xss _ bL w w6 HL6 HU (fun x hx=>by rw [HLEN.out x hx];exact HL) HT) (fun W h=>h)
  (fun i A W args hY=>by obtain ⟨x,gx,cx,-,rfl,-⟩:=hY;rfl)
  (fun i W=>∃ s m,dx xss r i=some (s,m)/\et w W w6.heap.size (w.heap.size+1) (w.heap.size+1+1) g4 c4 s m) (et.ab AM xss r) (fun i A hi=>by obtain ⟨s,m,-,h⟩:=hi;exact h.old) ⟨r,[],rfl,HRI⟩ ?rounds ?done
 case rounds =>
  rintro i A W args hi ⟨s,m,qh,hRI⟩ hE ⟨x,gx,cq,hx,rfl,xf,hgx,xX,xW⟩ ⟨r0,vD⟩;have Af:aC xss i=x:=eP hx;obtain ⟨⟨z1,z2⟩,hz⟩:=Z2a HR (i+1) (by omega);obtain ⟨s',m',e1,a1,a2,a3,a4,a5,a6⟩:=H4_ hz;rw [qh] at e1;simp only [Option.some.injEq,Prod.mk.injEq] at e1;obtain ⟨rfl,rfl⟩:=e1;rw [Af] at a1 a2 a4 a5 a6;obtain ⟨b1,b2,b3⟩:=x8_ x a1;simp only at a5 a6;have hsl:=(L4_ qh).1;have hml:=(L4_ qh).2;have hil:i<xss.length:=hi;obtain ⟨C,hC⟩:=oN (fP x);rw [hC] at a2 b1 b2 b3;unfold jw at a5 a6;rw [hC] at a5 a6;obtain ⟨sc,vC⟩:=oN (s.getD C 0);obtain ⟨xc,vA⟩:=oN (x.getD C 0);have qK:s[C]?=some sc:=by rw [<- vC,nu,ns a2];rfl
  have rm:x[C]?=some xc:=by rw [<- vA,nu,ns b1];rfl
  rw [vC,vA] at a5 a6;rw [vA] at b3;have HDM:=np (fun V (hV:aA w V)=>mv sc xc V (fu (List.all_eq_true.1 a3 _ (nw qK))) (fu (List.all_eq_true.1 a4 _ (nw rm))) b3 (HT.ext hV));obtain ⟨q,hq⟩:=oN (aQ sc xc);rw [hq] at a5 a6 HDM;have HA5:=np a5;have HA6:=np a6;have HZ:=np hz;have HML:=np hml;have HSL:=np hsl;have HGX:Hid (gx≠w6.heap.size+1):=fun e=>by
   have h1:=xf.cell C xc rm;rw [Nat.zero_add] at h1;rw [e] at h1;unfold World.cell? at h1;rw [vD] at h1;simp at h1
  have HRI1:=np (hRI.ext AM hE);have HRX:=np xf;have Gf:Hid (g4≠gx):=fun e=>by have:=hRI.row.lt;omega
  have HCX:=np (And.intro xX xW);rw [b2];unfold maxLen at xW;have HSG:=np qK;have HXG:=np rm;clear qh hRI hE hx Af xf hgx vD hz a1 a3 a4 a5 a6 b2 b3 hC vC vA hq qK rm hsl hml hi
  gi_wp2_with fail
  refine ⟨KeepsFrom.refl _ _,?_⟩;rintro Wb qL ⟨r1,pv⟩ ⟨r2,pF⟩;have hRb:=HRI1.grown AM qL (fun r e=>by cases e;exact ⟨by omega,_,pv,rfl⟩);have hXb:=HRX.same qL.size (qL.block gx HRX.lt (fun e=>HGX (oA e)));have HRB:=np hRb;have HXB:=np hXb;have t0:=ag hRb.h4 0;have t1:=hRb.row.cell C sc HSG;have t2:=hXb.cell C xc HXG;rw [Nat.zero_add] at t1 t2;simp only [oF,oE,oD] at t0;have HXW:Hid (aA w Wb):=hRb.old;have q1:(C:Int)<(s.length:Int):=by omega
  have q2:(C:Int)<(x.length:Int):=by omega
  obtain ⟨NS,DC⟩:=oN s.length;obtain ⟨NX,tR⟩:=oN x.length;rw [DC] at t0 q1;rw [tR] at q2 |-;have HNS:=np DC;have HNX:=np tR;rw [DC] at a2;rw [tR] at b1;clear hRb hXb qL pv pF HRI1 HRX HGX DC tR xX
  gi_wp2_with fail
  refine Y0_ (fun w'=>w'.cell? ⟨w.heap.size+1,0,none⟩=some (.slice (some ⟨g4,0,none⟩) NS c4)/\w'.cell? ⟨g4,C,none⟩=some (.string (aB sc))/\w'.cell? ⟨gx,C,none⟩=some (.string (aB xc))/\Hid (aA Wb w')) 15 (by kernel_rfl) (by kernel_rfl) (by rintro ⟨_,_,h⟩;exact absurd (show Exit.outgrown=Exit.normal from h.1) (by simp)) ⟨(aA.drew Wb).cell t0,(aA.drew Wb).cell t1,(aA.drew Wb).cell t2,aA.drew Wb⟩ (fun oR=>?_);refine rA [0,1,2,3,4,5,6,7] ?_
  iterate 8 ((first|(refine rL (v:=?_) (by rfl) (Or.inl ⟨by rfl,?_⟩) ?_;rotate_left;·((intro w' qW);(try dsimp only at qW);(try go_simp);(try with_reducible rfl)))|(refine rW (v:=?_) (by rfl) (Or.inl ⟨by rfl,?_⟩) ?_;rotate_left;·((intro w');(try go_simp);(try with_reducible rfl))));(try simp only [Act.put,ao,aq,aw]))
  refine rE ?_;refine dz 8 (by kernel_rfl) rfl (fun K hK=>?_);go_simp
  (go_at_call 112;refine (HDM _ (aA.trans HXW oR.2.2.2)).mono ?_)
  rintro e wz ⟨rfl,oh⟩;go_wp2_with fail;refine hK _ _ ⟨(oh).cell oR.1,(oh).cell oR.2.1,(oh).cell oR.2.2.1,aA.trans oR.2.2.2 (oh)⟩ (fun oR=>?_);clear hK K
  (try simp only [Act.put,ao,aq,aw])
  refine rA [9,10,11,12,13,14] ?_
  iterate 6 ((refine rW (v:=?_) (by rfl) (Or.inl ⟨by rfl,?_⟩) ?_;rotate_left;·((intro w');(try go_simp);(try with_reducible rfl)));(try simp only [Act.put,ao,aq,aw]))
  refine rE ?_;refine gX 15 (by kernel_rfl) (by kernel_rfl) (by kernel_rfl) rfl (fun K hK=>?_);go_simp;refine hK _ _ ?_;clear hK K
  (try simp only [Act.put,ao,aq,aw])
  have HEZ:Hid (aA Wb wz):=oR.2.2.2.out;have HRZ:=np (HRB.ext AM HEZ);have HXZ:=np (HXB.ext HEZ);have u0:=oR.1;clear oR t0 t1 t2 oh HXB HRB;have HLS:Hid (Calls prog 228 #[.slice (some ⟨g4,0,none⟩) NS c4,.string (aB q),.slice (some ⟨gx,0,none⟩) NX cq] wz fun e w'=>e=.returned (.tuple #[])/\aH (·=g4) wz w'/\an w' g4 0 z1):=by
   have hh:=L1_ q s x z1 g4 0 c4 gx 0 cq w.heap.size wz HRZ.row HXZ (fun e=>Gf e.symm) HA5 (by rw [HSL.out];exact HG4.2.1) HG4.2.2 HCX.1 HCX.2 (HT.ext HRZ.old) HB HRZ.low.2.2 HRZ.old.size;rw [HNS.out,HNX.out] at hh;exact hh
  gi_wp2_with fail
  refine ⟨trivial,(CallsIn.inRound _ (callsIn_wide.2 HLS)).mono ?_⟩;rintro e w7 ⟨rfl,tS,wG⟩;have Ci:z1.length=s.length:=kY HA5;obtain ⟨zL,Bu⟩:=HRZ.less tS wG Ci;have HRI7:=np zL;have HKF7:=np (KeepsFrom.trans (⟨HEZ.size,fun k o _ ho _=>(HEZ.block k (c_ ho)).trans ho⟩:KeepsFrom w6.heap.size Wb wz) Bu);obtain ⟨vo,o1,o2,o3⟩:=zL.out;have HO1:=np o1;have HO2:=np o2;have HO3:=np o3;have u1:=ag o1 0;have u2:=cO o1 0;simp only [oF,oE,oD] at u1;clear tS wG zL Bu o1 o2 o3 u0 HLS HXZ HRZ Ci;have Gc:Hid (m.length<8000000):=by unfold Hid;rw [HML.out];omega
  have LO:Hid (w.heap.size<=w7.heap.size):=HRI7.old.size
  gi_wp2_with (gi_at_builtin;go_must (refine Z4_ rfl (by intro c h;cases h) (fun K hK=>?_);refine u5_ w7 _ _ rfl w.heap.size vo m q #[.string (aB q)] 92 (by rfl) HO2 (by rfl) rfl Gc LO ?_))
  intro v' w9 pR oV qN;obtain ⟨gv,cv',qg⟩:=ownsRow_succ pR;have e1:=aA.alloc w7 (.cells #[.string (aB q)] 92);obtain ⟨qi,Hy⟩:=HRI7.push e1 (aF HO1 e1) (HO2.alloc _) HO3 AM (n7 HRI7.row.lt e1.size) pR oV (by rw [World.size_alloc];exact qN);have hk9:=dn (aF HO1 e1) oV (ki HO2 HO1 (by decide));have u3:=ag hk9 0;have u4:=cO hk9 0;simp only [oF,oE,oD] at u3;subst qg;rw [<- HA6.out] at qi;have HPU:=np qi;have HKF:=np (KeepsFrom.trans HKF7 (KeepsFrom.trans (⟨e1.size,fun k o _ ho _=>(e1.block k (c_ ho)).trans ho⟩:KeepsFrom w6.heap.size w7 _) Hy));clear qi Hy e1 pR oV qN hk9 u1 u2;refine hK _ _ ?_;clear hK K
  gi_wp2_with fail
  exact ⟨HKF,z1,z2,HZ,HPU⟩
 case done =>
  rintro W ⟨s,m,qh,hRI⟩ hD;have hRR:=HR.out;rw [qh] at hRR;simp only [Option.some.injEq,Prod.mk.injEq] at hRR;obtain ⟨rfl,rfl⟩:=hRR;have HRI2:=np hRI;have HD:=np hD;have HSL:=np (L4_ qh).1;obtain ⟨vo,o1,o2,o3⟩:=hRI.out;obtain ⟨av,nv,cv,rfl⟩:∃ a n c,vo=.slice a n c:=by
   rcases o2.2 with ⟨hv,_⟩ | ⟨g,c,_,hv,_⟩
   ·exact ⟨_,_,_,hv⟩
   ·exact ⟨_,_,_,hv⟩
  have HO1:=np o1;have HO2:=np o2;have u0:=ag hRI.h4 0;have u1:=ag o1 0;have f0:=cO hRI.h4 0;have f1:=cO o1 0;simp only [oF,oE,oD] at u0 u1;clear qh hRI hD o1 o2 o3;go_wp2_with fail
  go_region
  obtain ⟨X,hX⟩:=oO (((W.setCell ⟨w.heap.size+1,0,none⟩ (.slice (some ⟨g4,0,none⟩) s.length c4)).setCell ⟨w.heap.size+1+1,0,none⟩ (.slice av nv cv)).drew);rw [<- hX];have l1:W.grownBy (W.setCell ⟨w.heap.size+1,0,none⟩ (.slice (some ⟨g4,0,none⟩) s.length c4)) (some (w.heap.size+1)):=eL _ _ _ _;have l2:(W.setCell ⟨w.heap.size+1,0,none⟩ (.slice (some ⟨g4,0,none⟩) s.length c4)).grownBy ((W.setCell ⟨w.heap.size+1,0,none⟩ (.slice (some ⟨g4,0,none⟩) s.length c4)).setCell ⟨w.heap.size+1+1,0,none⟩ (.slice av nv cv)) (some (w.heap.size+1+1)):=eL _ _ _ _;have hne:=HRI2.ne;have hlow:=HRI2.low;have hlt:=HRI2.lt;have Iv:X.heap[w6.heap.size]?=some (.deferred (some [])):=by
   rw [hX];exact aF (dn (dn HD l1 (fun e=>by have:=oA e;omega)) l2 (fun e=>by have:=oA e;omega)) (aA.drew _)
  have hx4:X.heap[w.heap.size+1]?=some (.cells #[.slice (some ⟨g4,0,none⟩) s.length c4] 263 (0,0)):=by
   have:=d_ HRI2.h4 0 (.slice (some ⟨g4,0,none⟩) s.length c4);rw [hX];refine aF (dn ?_ l2 (fun e=>by have:=oA e;omega)) (aA.drew _);simpa using this
  have Gy:X.heap[w.heap.size+1+1]?=some (.cells #[.slice av nv cv] 263 (0,0)):=by
   have:=d_ (dn HO1 l1 (fun e=>by have:=oA e;omega)) 0 (.slice av nv cv);rw [hX];refine aF ?_ (aA.drew _);simpa using this
  have pL:an X g4 0 s:=by
   rw [hX];exact ((HRI2.row.other _ 0 _ (fun e=>hne.1 e.symm)).other _ 0 _ (fun e=>hne.2.1 e.symm)).ext (aA.drew _)
  have Gw:X.ownsRow w.heap.size 92 1 (.slice av nv cv) m.length (fx m):=by
   have p1:(Value.slice av nv cv).ownBlock≠some (w.heap.size+1):=ki HO2 HRI2.h4 (by decide);have p2:(Value.slice av nv cv).ownBlock≠some (w.heap.size+1+1):=ki HO2 HO1 (by decide);rw [hX];refine fN ((HO2.kept l1 ?_).kept l2 ?_) (aA.drew _)
   ·cases hv:(Value.slice av nv cv).ownBlock with
    | none=>exact .inl rfl
    | some b=>exact .inr fun e=>p1 (hv.trans e)
   ·cases hv:(Value.slice av nv cv).ownBlock with
    | none=>exact .inl rfl
    | some b=>exact .inr fun e=>p2 (hv.trans e)
  have tD:aA w X:=by
   rw [hX];exact (jJ (jJ HRI2.old l1 (fun r e=>by cases e;omega)) l2 (fun r e=>by cases e;omega)).trans (aA.drew _)
  have HDX:=np Iv;have HX4:=np hx4;have HX5:=np Gy;have HXR:=np pL;have HXO:=np Gw;have HXE:=np tD;have HW:=np hlt;clear hX l1 l2 hne hlow hlt Iv hx4 Gy pL Gw tD u0 u1 f0 f1;go_wp2_with fail;refine ⟨by simp,.inl ⟨_,_,rfl,run_takeDeferred HDX,?_⟩⟩;have gp:=grownBy_putObj' X w6.heap.size (.deferred none);refine ⟨_,F6_ (ty:=263) rfl _ _ (w.heap.size+1) (w.heap.size+1+1) (.slice (some ⟨g4,0,none⟩) s.length c4) (.slice av nv cv) (by rfl) (by rfl) ?lv ?c4 ?c5,?_⟩
  case lv =>
   intro g x hg;have FO:∀ W:World,(isAgg 263).run prog W=.ok false W:=fun W=>by
    unfold isAgg;rw [Sem.run_bind,run_underlying underlying263 W];rfl
   simp [loadVar,Sem.run_bind,FO,hg,Result.andThen,go_sem]
  case c4 =>
   have:=ag (dn HX4 gp (fun e=>by have:=oA e;have:=HW.out;omega)) 0;simpa using this
  case c5 =>
   have:=ag (dn HX5 gp (fun e=>by have:=oA e;have:=HW.out;omega)) 0;simpa using this
  refine ⟨g4,c4,_,rfl,HXR.same gp.size (gp.block g4 HXR.lt (fun e=>by have:=oA e;have:=HW.out;omega)),⟨by rw [HSL.out];exact HG4.2.1,HG4.2.2⟩,ownsRow_putObj HXO _ HDX rfl,jJ HXE gp (fun r e=>by cases e;exact AM)⟩
end Go.Proofs.YtoonaddcfakamaaGreatDoor
namespace Go.Proofs.YtoonaddcfakamaaGreatDoor
open Go.RowKit Go.Proofs.Tryz
theorem Z0j {n:Int} {xss:oP} {x:oQ} (h:iI n xss x=0):bz n xss=0/\dC x=0/\(x.length:Int)=n:=by
 unfold iI at h;by_cases h1:bz n xss=0
 ·rw [if_pos h1] at h;by_cases h2:dC x=0
  ·rw [if_pos h2] at h;by_cases h3:(x.length:Int)=n;·exact ⟨h1,h2,h3⟩
   ·rw [if_neg h3] at h;cases h
  ·rw [if_neg h2] at h;exact absurd h h2
 ·rw [if_neg h1] at h;exact absurd h h1
theorem me {n:Int} {xss:oP} (h:bz n xss=0):dA n xss=0/\fW xss=true:=by
 unfold bz at h;by_cases h1:dA n xss=0
 ·rw [if_pos h1] at h;by_cases h2:fW xss=true;·exact ⟨h1,h2⟩
  ·rw [if_neg h2] at h;cases h
 ·rw [if_neg h1] at h;exact absurd h h1
theorem j6_ (n:Int) (xss:oP) (x R M:oQ) (v vx:Value) (w:World) (h:bj w v n xss) (hx:aK w vx x) (hE:iI n xss x=0) (hR:dx xss x xss.length=some (R,M)) (ht:aZ w) (hb:3<w.heap.size) :
  Calls prog 231 #[v,vx] w fun e w'=>∃ gr cr vm,e=.returned (.tuple #[.slice (some ⟨gr,0,none⟩) R.length cr,vm])/\an w' gr 0 R/\(R.length<=cr/\cr<=maxLen)/\w'.ownsRow w.heap.size 92 1 vm M.length (fx M)/\aA w w':=by
 obtain ⟨h1,h2,h3⟩:=Z0j hE;obtain ⟨l1,l2,l3,l4⟩:=jP (me h1).1;exact j7_ n xss x R M v vx w h hx (by omega) (by omega) (fun y hy=>by have:=(l4 y hy).2;omega) hR ht hb
theorem Z1k (n:Int) (xss:oP) (x R M:oQ) (v vx:Value) (w:World) (h:bj w v n xss) (hx:aK w vx x) (hE:iI n xss x=0) (hR:dx xss x xss.length=some (R,M)) (ht:aZ w) (hb:3<w.heap.size) :
  oL 137 #[v,vx] w (.bool (decide (bt R<0))):=by
 have HRE:=np (fun W (hW:aA w W)=>j6_ n xss x R M v vx W (h.ext hW) (hx.ext hW) hE hR (ht.ext hW) (n7 hb hW.size));obtain ⟨u,rfl,hu⟩:=h;obtain ⟨a,c,rfl,h1,h2,-,hc⟩:=aP.open hu;obtain ⟨ax,cx,rfl,x1,x2,-,-,-⟩:=hx.open;clear hu hc hx hE hR ht hb
 go_enter func137,ntmps137
 obtain ⟨W1,oZ,hE1,hs1,hb1⟩:=cL w (.int .i64 n) (.slice a xss.length c);have HB1:=np hb1;have HE1:=np hE1;obtain ⟨sU,sR,-⟩:=bG hb1;clear hE1 hs1 hb1;go_wp2_with fail;refine (HRE _ HE1).mono ?_;rintro e w3 ⟨gr,cr,vm,rfl,Av,wA,Hl,oT⟩;have HE3:=np (HE1.trans oT);have HLD:=np (M9_ R gr 0 cr w3 Av wA.1 wA.2);obtain ⟨av,nv,cv,rfl⟩:∃ a n c,vm=.slice a n c:=by
  rcases Hl.2 with ⟨hv,_⟩ | ⟨g,c,_,hv,_⟩
  ·exact ⟨_,_,_,hv⟩
  ·exact ⟨_,_,_,hv⟩
 clear oT HRE Av wA Hl;go_wp2_with fail;refine p_ HLD (HE3.trans) ?_;intro w4 HE4;clear HLD;go_wp2_with fail;go_ret;exact ⟨rfl,HE4⟩
theorem s3_ (n:Int) (xss:oP) (x R M:oQ) (v vx:Value) (w:World) (h:bj w v n xss) (hx:aK w vx x) (hE:iI n xss x=0) (hR:dx xss x xss.length=some (R,M)) (ht:aZ w) (hb:3<w.heap.size) :
  oL 122 #[v,vx] w (.tuple #[.bool (decide (bt R<0)),.int .i64 0]):=by
 have HC:=np (fun W (hW:aA w W)=>t5_ n xss x v vx W (h.ext hW) (hx.ext hW));rw [hE] at HC;have HH:=np (fun W (hW:aA w W)=>Z1k n xss x R M v vx W (h.ext hW) (hx.ext hW) hE hR (ht.ext hW) (n7 hb hW.size));obtain ⟨u,rfl,hu⟩:=h;obtain ⟨a,c,rfl,h1,h2,-,hc⟩:=aP.open hu;obtain ⟨ax,cx,rfl,x1,x2,-,-,-⟩:=hx.open;obtain ⟨bb,qE⟩:=oN (decide (bt R<0));rw [qE] at HH |-;clear hu hc hx hE hR ht hb qE
 go_enter func122,ntmps122
 obtain ⟨W1,oZ,hE1,hs1,hb1⟩:=cL w (.int .i64 n) (.slice a xss.length c);have HB1:=np hb1;have HE1:=np hE1;obtain ⟨sU,sR,-⟩:=bG hb1;clear hE1 hs1 hb1;go_wp2_with fail;refine (HC _ HE1).mono ?_;rintro e w2 ⟨rfl,hE2⟩;have HE2:=np (HE1.trans hE2);have d0:=hE2.cell sU;have d1:=hE2.cell sR;clear hE2 HC;go_wp2_with fail;refine p_ (HH _ HE2) (HE2.trans) ?_;intro w3 HE3;clear HH;go_wp2_with fail;go_ret2;exact ⟨rfl,HE3⟩
def eC (F cols:Nat) (m:oP):Option (oP) :=
 if bV cols m=true then
  match dU (m.length+cols) F (m.length+cols) (bI cols m) with
  | none=>none
  | some h=>if bV (m.length+cols) h=true then dU cols F cols (dZ m.length h) else none
 else none
theorem nK (F cols:Nat) (m:oP) (v:Value) (base:Nat) (w:World) (R:oP) (hM:cG w base v m) (hk:eC F cols m=some R)
  (hm:m.length+cols<=1000) (pc:1<=cols) (ht:aZ w) (hb:3<w.heap.size) :
  Calls prog 215 #[v,.int .i64 cols] w fun e w'=>∃ a c,e=.returned (.slice a R.length c)/\cG w' w.heap.size (.slice a R.length c) R/\aA w w':=by
 unfold eC at hk;by_cases h1:bV cols m=true
 ·rw [if_pos h1] at hk;cases h2:dU (m.length+cols) F (m.length+cols) (bI cols m) with
  | none=>rw [h2] at hk;cases hk
  | some h =>
   rw [h2] at hk;simp only at hk;by_cases h3:bV (m.length+cols) h=true
   ·rw [if_pos h3] at hk;refine (k3_ F cols m v base w R hM h1 h h2 h3 hk hm pc ht hb).mono fun e w' hh=>?_;obtain ⟨v',he,hR,hE⟩:=hh;obtain ⟨a,c,rfl,-,-,-⟩:=hR.open;exact ⟨a,c,he,hR,hE⟩
   ·rw [if_neg h3] at hk;cases hk
 ·rw [if_neg h1] at hk;cases hk
theorem Q8_ (xss:oP) (v:Value) (w:World) (h:aV w v xss) (hlen:xss.length<=1000) (hrow:∀ xs∈xss,xs.length<=1000) (ht:aZ w) :
  Calls prog 131 #[v] w fun e w'=>∃ a c,e=.returned (.slice a xss.length c)/\cG w' w.heap.size (.slice a xss.length c) xss/\aA w w':=by
 refine (C4_ xss v w h hlen hrow ht).mono fun e w' hh=>?_;obtain ⟨v',he,hR,hE⟩:=hh;obtain ⟨a,c,rfl,-,-,-⟩:=hR.open;exact ⟨a,c,he,hR,hE⟩
def LsF (cols:Nat) (m:oP) (w w':World) (A E:Int) (a:Option Addr) (k c:Nat):Prop :=
 (((m.all fun r=>r.all dc)=true)->A=cols/\E=0/\aT w' (·<w.heap.size) (fun W=>aV W (.slice a k c) m))/\(¬ ((m.all fun r=>r.all dc)=true)->A=0/\E=4/\a=none/\k=0/\c=0)
theorem ec.open {cols:Nat} {m:oP} {w w':World} {e:Ending} (h:ec cols m w e w'):∃ A E a k c,e=.returned (.tuple #[.agg #[.int .i64 A,.slice a k c],.int .i64 E])/\LsF cols m w w' A E a k c/\aA w w':=by
 obtain ⟨h1,h2⟩:=h;by_cases hf:(m.all fun r=>r.all dc)=true
 ·rw [if_pos hf] at h1;obtain ⟨v,rfl,hs⟩:=h1;obtain ⟨a,c,rfl,-,-,-,-⟩:=aP.open hs.now;exact ⟨_,_,a,_,c,rfl,⟨fun _=>⟨rfl,rfl,hs⟩,fun hn=>absurd hf hn⟩,h2⟩
 ·rw [if_neg hf] at h1;exact ⟨0,4,none,0,0,h1,⟨fun hn=>absurd hn hf,fun _=>⟨rfl,rfl,rfl,rfl,rfl⟩⟩,h2⟩
theorem LsF.close {cols:Nat} {m:oP} {w w1 w' W:World} {A E:Int} {a:Option Addr} {k c:Nat} (h:LsF cols m w1 w' A E a k c) (hE:aA w W) (hw:w.heap.size<=w1.heap.size) (hg:∀ S:Nat->Prop,(∀ b,b<w1.heap.size->S b)->aH S w' W):ec cols m w (.returned (.tuple #[.agg #[.int .i64 A,.slice a k c],.int .i64 E])) W:=by
 unfold ec;by_cases hf:(m.all fun r=>r.all dc)=true
 ·rw [if_pos hf];obtain ⟨rfl,rfl,hs⟩:=h.1 hf;exact ⟨⟨_,rfl,hs.grow (hg _ fun b hb=>hb) fun b hb=>.inl (n7 hb hw)⟩,hE⟩
 ·rw [if_neg hf];obtain ⟨rfl,rfl,rfl,rfl,rfl⟩:=h.2 hf;exact ⟨rfl,hE⟩
theorem Z4B (n F:Nat) (xss:oP) (R:oP) (hk:eC F n xss=some R) (v:Value) (w:World) (h:bj w v n xss) (hE:bz n xss=0) (hn:1<=n) (qJ:∀ r∈R,r.all bX=true) (hl:∀ r∈R,r.length<=1000) (hm:R.length<=1000) (oS:bg w) (hb:3<w.heap.size) :
  Calls prog 184 #[v] w (ec n R w):=by
 obtain ⟨l1,l2,l3,l4⟩:=jP (me hE).1;have HC:=np (fun W (hW:aA w W)=>kX n xss v W (h.ext hW));rw [hE] at HC;obtain ⟨u,rfl,hu⟩:=h;have HLO:=np (fun W (hW:aA w W)=>Q8_ xss u W (hu.ext hW) (by omega) (fun xs hx=>by have:=(l4 xs hx).2;omega) (oS.pow.ext hW));have HK1:=np (fun W V base (hM:cG W base V xss) (hW:aA w W)=>nK F n xss V base W R hM hk (by omega) hn (oS.pow.ext hW) (n7 hb hW.size));have HS:=np (fun W V base (hM:cG W base V R) (hW:aA w W)=>T1_ n R V base W hM qJ hl hm (by omega) (oS.ext hW));obtain ⟨a,c,rfl,h1,h2,-,hc⟩:=aP.open hu;clear hu hc hE hk qJ hl hm oS l1 l2 l3 l4 hb
 go_enter func184,ntmps184
 obtain ⟨W1,oZ,hE1,hs1,hb1⟩:=cL w (.int .i64 n) (.slice a xss.length c);obtain ⟨W2,pg,hE2,hs2,oY⟩:=cL W1 (.int .i64 0) (.slice none 0 0);have HB1:=np (aF hb1 hE2);have HE2:=np (hE1.trans hE2);have z1:W1.heap.size=w.heap.size+1:=hs1;rw [z1] at oY;have HB2:=np oY;clear hE1 hE2 hs1 hs2 hb1 oY;obtain ⟨sU,sR,-⟩:=bG HB1;go_wp2_with fail;refine (HC _ HE2).mono ?_;rintro e w1 ⟨rfl,oT⟩;have HE3:=np (HE2.trans oT);have g0:=oT.cell sU;have g1:=oT.cell sR;have HB3:=np (aF HB2 oT);have rz:Hid (w.heap.size+1<w1.heap.size):=c_ HB3;clear oT HC sU sR HB1 HB2 oZ pg z1
 go_upto_region 4 with fail
 refine ks (fun w'=>w'.cell? ⟨w.heap.size,0,none⟩=some (.int .i64 n)/\w'.cell? ⟨w.heap.size,1,none⟩=some (.slice a xss.length c)/\Hid (aA w1 w')) 11 (by kernel_rfl) ⟨(aA.drew w1).cell g0,(aA.drew w1).cell g1,aA.drew w1⟩ (fun oR=>?_);refine rA [0,1,3,4,6,7] ?_
 iterate 6 ((first|(refine rL (v:=?_) (by rfl) (Or.inl ⟨by rfl,?_⟩) ?_;rotate_left;·((intro w' qW);(try dsimp only at qW);(try go_simp);(try with_reducible rfl)))|(refine rW (v:=?_) (by rfl) (Or.inl ⟨by rfl,?_⟩) ?_;rotate_left;·((intro w');(try go_simp);(try with_reducible rfl))));(try simp only [Act.put,ao,aq,aw]))
 refine rE ?_;refine dz 2 (by kernel_rfl) rfl (fun K hK=>?_);go_simp
 (go_at_call 131;refine (HLO _ (HE3.trans oR.2.2)).mono ?_)
 rintro e wx ⟨a2,c2,rfl,qR,oh⟩;have HM2:=np qR;go_wp2_with fail;refine hK _ _ ⟨(oh).cell oR.1,(oh).cell oR.2.1,aA.trans oR.2.2 (oh)⟩ (fun oR=>?_);clear hK K
 (try simp only [Act.put,ao,aq,aw])
 refine dz 5 (by kernel_rfl) rfl (fun K hK=>?_);go_simp
 (go_at_call 215;refine (HK1 _ _ _ HM2 (HE3.trans oR.2.2)).mono ?_)
 rintro e wy ⟨a3,c3,rfl,wI,oh⟩;have HM3:=np wI;go_wp2_with fail;refine hK _ _ ⟨(oh).cell oR.1,(oh).cell oR.2.1,aA.trans oR.2.2 (oh)⟩ (fun oR=>?_);clear hK K
 (try simp only [Act.put,ao,aq,aw])
 refine dz 8 (by kernel_rfl) rfl (fun K hK=>?_);go_simp
 (go_at_call 133;refine (HS _ _ _ HM3 (HE3.trans oR.2.2)).mono ?_)
 rintro e wz rp;obtain ⟨AA,EE,ar,kr,cr,rfl,Bs,oh⟩:=rp.open;have xl:Hid (aA w1 wy):=oR.2.2.out;have HLF:=np Bs;have HXZ:=np (xl.trans oh);have HZZ:=np oh;have hr:=aF HB3 HXZ;obtain ⟨r0,r1,rf⟩:=bG hr;have f0:=rf 0;have f1:=rf 1;have HKA:=np (eE hr (.int .i64 AA) (.slice ar kr cr));clear rf hr Bs;go_wp2_with fail;refine hK _ _ ⟨(oh).cell oR.1,(oh).cell oR.2.1,aA.trans oR.2.2 (oh)⟩ (fun oR=>?_);clear hK K
 (try simp only [Act.put,ao,aq,aw])
 refine rA [9,10] ?_
 iterate 2 ((refine rW (v:=?_) (by rfl) (Or.inl ⟨by rfl,?_⟩) ?_;rotate_left;·((intro w');(try go_simp);(try with_reducible rfl)));(try simp only [Act.put,ao,aq,aw]))
 refine rE ?_;refine E1_ 11 (by kernel_rfl) (by kernel_rfl) rfl (fun K hK=>?_);go_simp;refine hK _ _ ?_;clear hK K
 (try simp only [Act.put,ao,aq,aw])
 refine gX 12 (by kernel_rfl) (by kernel_rfl) (by kernel_rfl) rfl (fun K hK=>?_);go_simp;refine hK _ _ ?_;clear hK K
 (try simp only [Act.put,ao,aq,aw])
 go_wp2_with fail;refine bodyPost_ret (ir (by rfl) _ _ (w.heap.size+1) 76 #[.int .i64 AA,.slice ar kr cr] (0,0) _ (by rfl) HKA underlying76 (by rfl) (by kernel_rfl)) (by rfl) ?_;have za:Hid (w.heap.size+1<wy.heap.size):=n7 rz xl.size;refine HLF.close (db (HE3.trans HXZ) (by omega) _ _) (n8 (by omega) (Nat.le_of_lt za)) (fun S hS=>aH.setCell (aH.setCell (aH.refl _ _) (hS _ za) 0 _) (hS _ za) 1 _)
theorem Z5a (n F:Nat) (xss:oP) (K R:oP) (qx:eC F n xss=some K) (hk:eC F n K=some R) (Fo:K.length<=900) (v:Value) (w:World) (h:bj w v n xss) (hE:bz n xss=0) (hn:1<=n) (qJ:∀ r∈R,r.all bX=true) (hl:∀ r∈R,r.length<=1000) (hm:R.length<=1000) (oS:bg w) (hb:3<w.heap.size) :
  Calls prog 121 #[v] w (ec n R w):=by
 obtain ⟨l1,l2,l3,l4⟩:=jP (me hE).1;have HC:=np (fun W (hW:aA w W)=>kX n xss v W (h.ext hW));rw [hE] at HC;obtain ⟨u,rfl,hu⟩:=h;have HLO:=np (fun W (hW:aA w W)=>Q8_ xss u W (hu.ext hW) (by omega) (fun xs hx=>by have:=(l4 xs hx).2;omega) (oS.pow.ext hW));have HK1:=np (fun W V base (hM:cG W base V xss) (hW:aA w W)=>nK F n xss V base W K hM qx (by omega) hn (oS.pow.ext hW) (n7 hb hW.size));have HK2:=np (fun W V base (hM:cG W base V K) (hW:aA w W)=>nK F n K V base W R hM hk (by omega) hn (oS.pow.ext hW) (n7 hb hW.size));have HS:=np (fun W V base (hM:cG W base V R) (hW:aA w W)=>T1_ n R V base W hM qJ hl hm (by omega) (oS.ext hW));obtain ⟨a,c,rfl,h1,h2,-,hc⟩:=aP.open hu;clear hu hc hE hk qJ hl hm oS l1 l2 l3 l4 hb qx Fo
 go_enter func121,ntmps121
 obtain ⟨W1,oZ,hE1,hs1,hb1⟩:=cL w (.int .i64 n) (.slice a xss.length c);obtain ⟨W2,pg,hE2,hs2,oY⟩:=cL W1 (.int .i64 0) (.slice none 0 0);have HB1:=np (aF hb1 hE2);have HE2:=np (hE1.trans hE2);have z1:W1.heap.size=w.heap.size+1:=hs1;rw [z1] at oY;have HB2:=np oY;clear hE1 hE2 hs1 hs2 hb1 oY;obtain ⟨sU,sR,-⟩:=bG HB1;go_wp2_with fail;refine (HC _ HE2).mono ?_;rintro e w1 ⟨rfl,oT⟩;have HE3:=np (HE2.trans oT);have g0:=oT.cell sU;have g1:=oT.cell sR;have HB3:=np (aF HB2 oT);have rz:Hid (w.heap.size+1<w1.heap.size):=c_ HB3;clear oT HC sU sR HB1 HB2 oZ pg z1
 go_upto_region 4 with fail
 refine ks (fun w'=>w'.cell? ⟨w.heap.size,0,none⟩=some (.int .i64 n)/\w'.cell? ⟨w.heap.size,1,none⟩=some (.slice a xss.length c)/\Hid (aA w1 w')) 14 (by kernel_rfl) ⟨(aA.drew w1).cell g0,(aA.drew w1).cell g1,aA.drew w1⟩ (fun oR=>?_);refine rA [0,1,3,4,6,7,9,10] ?_
 iterate 8 ((first|(refine rL (v:=?_) (by rfl) (Or.inl ⟨by rfl,?_⟩) ?_;rotate_left;·((intro w' qW);(try dsimp only at qW);(try go_simp);(try with_reducible rfl)))|(refine rW (v:=?_) (by rfl) (Or.inl ⟨by rfl,?_⟩) ?_;rotate_left;·((intro w');(try go_simp);(try with_reducible rfl))));(try simp only [Act.put,ao,aq,aw]))
 refine rE ?_;refine dz 2 (by kernel_rfl) rfl (fun K hK=>?_);go_simp
 (go_at_call 131;refine (HLO _ (HE3.trans oR.2.2)).mono ?_)
 rintro e wx ⟨a2,c2,rfl,qR,oh⟩;have HM2:=np qR;go_wp2_with fail;refine hK _ _ ⟨(oh).cell oR.1,(oh).cell oR.2.1,aA.trans oR.2.2 (oh)⟩ (fun oR=>?_);clear hK K
 (try simp only [Act.put,ao,aq,aw])
 refine dz 5 (by kernel_rfl) rfl (fun K hK=>?_);go_simp
 (go_at_call 215;refine (HK1 _ _ _ HM2 (HE3.trans oR.2.2)).mono ?_)
 rintro e wy ⟨a3,c3,rfl,wI,oh⟩;have HM3:=np wI;go_wp2_with fail;refine hK _ _ ⟨(oh).cell oR.1,(oh).cell oR.2.1,aA.trans oR.2.2 (oh)⟩ (fun oR=>?_);clear hK K
 (try simp only [Act.put,ao,aq,aw])
 refine dz 8 (by kernel_rfl) rfl (fun K hK=>?_);go_simp
 (go_at_call 215;refine (HK2 _ _ _ HM3 (HE3.trans oR.2.2)).mono ?_)
 rintro e wv ⟨a4,c4,rfl,AI,oh⟩;have HM4:=np AI;go_wp2_with fail;refine hK _ _ ⟨(oh).cell oR.1,(oh).cell oR.2.1,aA.trans oR.2.2 (oh)⟩ (fun oR=>?_);clear hK K
 (try simp only [Act.put,ao,aq,aw])
 refine dz 11 (by kernel_rfl) rfl (fun K hK=>?_);go_simp
 (go_at_call 133;refine (HS _ _ _ HM4 (HE3.trans oR.2.2)).mono ?_)
 rintro e wz rp;obtain ⟨AA,EE,ar,kr,cr,rfl,Bs,oh⟩:=rp.open;have xl:Hid (aA w1 wv):=oR.2.2.out;have HLF:=np Bs;have HXZ:=np (xl.trans oh);have HZZ:=np oh;have hr:=aF HB3 HXZ;obtain ⟨r0,r1,rf⟩:=bG hr;have f0:=rf 0;have f1:=rf 1;have HKA:=np (eE hr (.int .i64 AA) (.slice ar kr cr));clear rf hr Bs;go_wp2_with fail;refine hK _ _ ⟨(oh).cell oR.1,(oh).cell oR.2.1,aA.trans oR.2.2 (oh)⟩ (fun oR=>?_);clear hK K
 (try simp only [Act.put,ao,aq,aw])
 refine rA [12,13] ?_
 iterate 2 ((refine rW (v:=?_) (by rfl) (Or.inl ⟨by rfl,?_⟩) ?_;rotate_left;·((intro w');(try go_simp);(try with_reducible rfl)));(try simp only [Act.put,ao,aq,aw]))
 refine rE ?_;refine E1_ 14 (by kernel_rfl) (by kernel_rfl) rfl (fun K hK=>?_);go_simp;refine hK _ _ ?_;clear hK K
 (try simp only [Act.put,ao,aq,aw])
 refine gX 15 (by kernel_rfl) (by kernel_rfl) (by kernel_rfl) rfl (fun K hK=>?_);go_simp;refine hK _ _ ?_;clear hK K
 (try simp only [Act.put,ao,aq,aw])
 go_wp2_with fail;refine bodyPost_ret (ir (by rfl) _ _ (w.heap.size+1) 76 #[.int .i64 AA,.slice ar kr cr] (0,0) _ (by rfl) HKA underlying76 (by rfl) (by kernel_rfl)) (by rfl) ?_;have za:Hid (w.heap.size+1<wv.heap.size):=n7 rz xl.size;refine HLF.close (db (HE3.trans HXZ) (by omega) _ _) (n8 (by omega) (Nat.le_of_lt za)) (fun S hS=>aH.setCell (aH.setCell (aH.refl _ _) (hS _ za) 0 _) (hS _ za) 1 _)
theorem ll {F F' cols:Nat} {m R:oP} (hl:F<=F') (h:eC F cols m=some R):eC F' cols m=some R:=by
 unfold eC at h |-;by_cases h1:bV cols m=true
 ·rw [if_pos h1] at h |-;cases h2:dU (m.length+cols) F (m.length+cols) (bI cols m) with
  | none=>rw [h2] at h;cases h
  | some x =>
   rw [h2] at h;rw [kK hl h2];simp only at h |-;by_cases h3:bV (m.length+cols) x=true;·rw [if_pos h3] at h |-;exact kK hl h
   ·rw [if_neg h3] at h;cases h
 ·rw [if_neg h1] at h;cases h
theorem nI (n N b1 b2:Nat) (m:oP) (hw:∀ x∈m,x.length=n) (hN:∀ x∈m,aN N x) (h1:1<=N) (hb1:N<=10^b1) (oY:n*eV N n<=10^b2) (s1:(gN n b1 0).1+1<=400000000) (s2:(gN n b1 0).2+1<=400000000) (s3:(gN n b2 0).1+1<=400000000) (s4:(gN n b2 0).2+1<=400000000) :
  ∃ F T qs,eC F n m=some T/\aW n T qs/\(∀ v,Sp n (aG 0 T) v↔cE n m v)/\(∀ x∈T,aN (n*eV N n) x/\x.length=n)/\T.length<=n /\
   (∀ ms,aW n m ms->T.length+m.length=n)/\(∀ v,v.length=n->(∀ u,cE n m u->a_ u v n=0)->∃ D:Int,D≠0/\Sp n (aG 0 m) (bW D v)):=by
 have zI:ae n m:=fun i hi=>hw _ (eZ hi);have hb1':∀ x∈m,aN (10^b1) x:=fun x hx=>(hN x hx).mono hb1
 obtain ⟨F1,h,ps,f1,f2,f3,-,f5⟩:=nB (m.length+n) n b1 (bI n m) (fun x hx=>by
   obtain ⟨i,hi,rfl⟩:=jS hx;exact lB n m i hi) (Z2I (Nat.pos_of_ne_zero (by simp)) hb1') (.inl (by rw [gM];exact n9 _)) s1 s2
 rw [gM] at f2;have hn:=Z2J f3 f5;have Ek:h.length=n:=by omega
 have hbd:=R9_ (N:=N) f3 (lB n m) (fun i hi=>Z2I h1 hN _ (eZ hi)) f5;rw [Ek] at hbd;obtain ⟨d,d1,d2,d3⟩:=Z21 f3 m.length;have hT:=K3_ f3 d1 d2 d3;have Fa:((h.drop d).map (·.drop m.length)).length=n-d:=by simp [Ek]
 have Fb:∀ x∈(h.drop d).map (·.drop m.length),aN (n*eV N n) x/\x.length=n:=by
  intro x hx;obtain ⟨i,hi,rfl⟩:=jS hx;refine ⟨?_,hT.1 i hi⟩;rw [Fa] at hi;rw [gI (by omega)];exact fun y hy=>hbd (d+i) (by omega) y (List.mem_of_mem_drop hy)
 obtain ⟨F2,T',qs',g1,g2,g3,-,g5⟩:=nB n n b2 ((h.drop d).map (·.drop m.length)) (fun x hx=>(Fb x hx).2) (fun x hx=>(Fb x hx).1.mono oY) (.inr (n9 _)) s3 s4;have Kq:T'=(h.drop d).map (·.drop m.length):=kO g3 hT g5.symm;refine ⟨F1+F2,_,_,?_,hT,Z4g f3 f5 d1 d2 d3,Fb,by rw [Fa];omega,fun ms yx=>?_,fun v hv hz=>Z4A zI f3 f5 d1 d2 d3 hv hz⟩
 ·unfold eC;have hgl:=lg n b1 0;rw [if_pos (Z1W hw hb1' (by omega)),kK (Nat.le_add_right F1 F2) f1];simp only;have hgl2:=lg n b2 0
  rw [if_pos (Z1W (b:=b2) (fun x hx=>by obtain ⟨i,hi,rfl⟩:=jS hx;exact f3.1 i hi) (fun x hx=>by
   obtain ⟨i,hi,rfl⟩:=jS hx;exact (hbd i (by omega)).mono oY) (by omega)),m6_ f3 d2 d3,kK (Nat.le_add_left F2 F1) g1,Kq]
 ·have:=Z3s yx f3 f5 d1 d2 d3;rw [Fa];omega
end Go.Proofs.YtoonaddcfakamaaGreatDoor
