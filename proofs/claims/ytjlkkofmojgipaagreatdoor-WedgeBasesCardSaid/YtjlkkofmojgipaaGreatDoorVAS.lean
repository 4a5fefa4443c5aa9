import Derived.Test.YtjlkkofmojgipaaGreatDoorVAR
import Derived.Test.YtjlkkofmojgipaaGreatDoorVAQ
import Derived.Sort.QuietIn
import Derived.Test.YtjlkkofmojgipaaGreatDoorVAG
import Derived.Test.YtjlkkofmojgipaaGreatDoorVAM
import Derived.Test.YtjlkkofmojgipaaGreatDoorVAJ
import Derived.Test.YtjlkkofmojgipaaGreatDoorVAN
import Derived.Test.YtjlkkofmojgipaaGreatDoorVAO
import Derived.Test.YtjlkkofmojgipaaGreatDoorVAE
set_option linter.unusedVariables false
set_option linter.unusedSimpArgs false
set_option maxRecDepth 1000000
set_option maxHeartbeats 4000000
namespace Go.Proofs.YtjlkkofmojgipaaGreatDoor
open Go.RowKit Go.Maps Go.Proofs.Tryz
theorem dP.ext {w w':World} {base:Nat} {v:Value} {R:oe} (h:dP w base v R) (he:aA w w'):dP w' base v R:=by
 obtain ⟨a,c,h1,h2,h3,h4⟩:=h;refine ⟨a,c,h1,h2,h3,?_⟩;rcases h4 with h4 | ⟨g,tags,h5,h6,h7⟩
 ·exact .inl h4
 ·exact .inr ⟨g,tags,h5,h6.ext he,h7⟩
theorem dP.low {w:World} {base base':Nat} {v:Value} {R:oe} (h:dP w base v R) (hb:base'<=base):dP w base' v R:=by
 obtain ⟨a,c,h1,h2,h3,h4⟩:=h;refine ⟨a,c,h1,h2,h3,?_⟩;rcases h4 with h4 | ⟨g,tags,h5,h6,h7⟩
 ·exact .inl h4
 ·exact .inr ⟨g,tags,h5,h6,fun b qY=>oJ hb (h7 b qY)⟩
theorem dP.open {w:World} {base:Nat} {v:Value} {R:oe} (h:dP w base v R):∃ a c,v=.slice a R.length c/\R.length<=c/\c<=maxLen/\(R=[]\/∃ g0 tags,a=some ⟨g0,0,none⟩/\bM w g0 tags R):=by
 obtain ⟨a,c,h1,h2,h3,h4⟩:=h;refine ⟨a,c,h1,h2,h3,?_⟩;rcases h4 with h4 | ⟨g,tags,h5,h6,-⟩
 ·exact .inl h4
 ·exact .inr ⟨g,tags,h5,h6⟩
theorem C3_ (xss:oe) (v:Value) (w:World) (h:bN w v xss) (hlen:xss.length<=1000) (hrow:∀ xs∈xss,xs.length<=1000) (ht:ae w) :
  Calls prog 100 #[v] w fun e w'=>∃ v',e=.returned v'/\dP w' w.heap.size v' xss/\aA w w':=by
 refine (j8_ xss v w h hlen hrow ht).mono fun e w' ⟨v',tags,he,hL,hv,hE⟩=>⟨v',he,?_,hE⟩
 rcases hv with ⟨rfl,rfl⟩ | ⟨g,c,rfl⟩
 ·exact ⟨none,0,rfl,oK _,by unfold maxLen;omega,.inl rfl⟩
 ·obtain ⟨h1,h2,h3,h4⟩:=hL.mat (oK _);exact ⟨_,c,rfl,h2,h3,.inr ⟨g,tags,rfl,h1,h4⟩⟩
theorem Z2a (cols:Nat) (a:Option Addr) (c:Nat) (w:World) :
  oY 101 #[.slice a 0 c,.int .i64 cols] w (.slice a 0 c):=by
 go_enter func101,ntmps101
 go_wp2_with fail
 go_loop [5,6] (fun sd sc=>sd=.int .i64 0/\sc=.int .i64 0) (fun _ _=>0)
 case atStart=>exact ⟨rfl,rfl⟩
 case round =>
  obtain ⟨rfl,rfl⟩:=hrel;by_cases h:0<cols
  ·go_wp2_with fail;go_ret;exact ⟨rfl,rfl⟩
  ·obtain rfl:cols=0:=(by omega);go_wp2_with fail;go_ret;exact ⟨rfl,rfl⟩
theorem Z1L (n F:Nat):∀ (k c:Nat),b9 n F k c 0 []=some ([],0)
 | 0,_=>rfl
 | k+1,c=>by unfold b9;rw [if_neg (by simp)]
theorem Z28 (n F k:Nat):dx n F k []=some []:=by unfold dx;rw [Z1L];rfl
theorem Z29 (n F cols:Nat) (m:oe) (v:Value) (base:Nat) (w:World) (R:oe) (hM:dP w base v m) (hok:dx n F cols m=some R)
  (zc:cols<=n) (xg:n<=1000000) (ht:ae w) (hb:4<base) (rP:base<=w.heap.size) :
  Calls prog 101 #[v,.int .i64 cols] w fun e w'=>∃ v',e=.returned v'/\dP w' base v' R/\Below base w w':=by
 obtain ⟨a,c,rfl,h2,h3,h4⟩:=hM;rcases h4 with rfl | ⟨g,tags,rfl,h6,h7⟩
 ·rw [Z28] at hok;obtain rfl:=oM hok;exact (Z2a cols a c w).mono fun e w' ⟨he,hw⟩=>⟨_,he,⟨a,c,rfl,h2,h3,.inl rfl⟩,hw▸Below.refl _ _⟩
 ·unfold dx at hok;cases hcl:b9 n F cols 0 0 m with
  | none=>rw [hcl] at hok;cases hok
  | some rr =>
   obtain ⟨mf,d⟩:=rr;rw [hcl] at hok;obtain rfl:mf.take d=R:=oM hok;refine (y5_ n F cols m tags g c base w (mf,d) h6 hcl h2 h3 zc xg ht hb h7 rP).mono fun e w' ⟨tags',he,hF,hl,hd,hG⟩=>⟨_,he,?_,hG.below rP h7⟩
   have qj:(mf.take d).length=d:=by
    have h1:mf.length=m.length:=hl;have h2:d<=m.length:=hd;rw [oG];omega
   refine ⟨_,c,by rw [qj],by rw [qj];exact oJ hd h2,h3,.inr ⟨g,tags'.take d,rfl,hF.1.take d,fun b qY=>?_⟩⟩;rcases List.mem_cons.1 qY with rfl | qY;·exact h7 _ (List.mem_cons_self ..)
   ·obtain ⟨t,ht,rfl⟩:=List.mem_map.1 qY;exact h7 _ (List.mem_cons_of_mem _ (hF.2 _ (List.mem_map.2 ⟨t,List.mem_of_mem_take ht,rfl⟩)))
theorem I2_ (cols:Nat) (m:oe) (v:Value) (base:Nat) (w:World) (hM:dP w base v m) (hsm:∀ r∈m,r.all bp=true) (hl:∀ r∈m,r.length<=1000)
  (hm:m.length<=1000) (hc:cols<=1000) (pD:fQ w) :
  Calls prog 102 #[v,.int .i64 cols] w (fu cols m w):=by
 obtain ⟨a,c,rfl,h2,h3,h4⟩:=hM.open;exact Z0K cols m a c w h4 hsm hl h2 h3 hm hc pD
theorem j5_ (F cols:Nat) (m:oe) (v:Value) (base:Nat) (w:World) (R:oe) (hM:dP w base v m) (hrow:bH cols m=true) (h:oe) (hF:dx (m.length+cols) F (m.length+cols) (bI cols m)=some h) (hok:bH (m.length+cols) h=true) (hR:dx cols F cols (dR m.length h)=some R)
  (hm:m.length+cols<=1000) (pK:1<=cols) (ht:ae w) (hb:4<w.heap.size) :
  Calls prog 104 #[v,.int .i64 cols] w fun e w'=>∃ v',e=.returned v'/\dP w' w.heap.size v' R/\aA w w':=by
 obtain ⟨a,c,rfl,h2,h3,h4⟩:=hM.open;exact Z0G F cols m a c w R h4 hrow h hF hok hR h2 h3 hm pK ht hb
theorem Z5O (n:Nat) (F:Nat) (xss R:oe) (v:Value) (w:World) (h:bN w v xss) (hE:dy n xss=0) (hF:dx n F n xss=some R) (hsm:∀ r∈R,r.all bp=true) (hl:∀ r∈R,r.length<=1000) (hm:R.length<=1000) (pD:fQ w) (hb:4<w.heap.size) :
  Calls prog 50 #[.int .i64 n,v] w (fu n R w):=by
 have HB:=oA hb;obtain ⟨e0,e1,e2,e3⟩:=nU hE;have HC:=oA (fun W (hW:aA w W)=>N5_ xss n v W (h.ext hW));rw [hE] at HC;have HLO:=oA (fun W (hW:aA w W)=>C3_ xss v W (h.ext hW) (by omega) (fun xs hx=>by have:=(e3 xs hx).2;omega) (pD.pow.ext hW));have HFO:=oA (fun W v base (hM:dP W base v xss) (hW:aA w W) (hbb:4<base) (rP:base<=W.heap.size)=>Z29 n F n xss v base W R hM hF (oK _) (by omega) (pD.pow.ext hW) hbb rP);have HS:=oA (fun W v base (hM:dP W base v R) (hW:aA w W)=>I2_ n R v base W hM hsm hl hm (by omega) (pD.ext hW));obtain ⟨a,c,rfl,h1,h2,-,hc⟩:=bc.open h;clear h hc hE hF hsm hl hm pD e0 e1 e2 e3 hb
 go_enter func50,ntmps50
 obtain ⟨W1,qm,hE1,hs1,hb1⟩:=nW w (.int .i64 0) (.slice none 0 0);have HB1:=oA hb1;have HE1:=oA hE1;clear hE1 hb1;go_wp2_with fail;refine (HC _ HE1).mono ?_;rintro e w2 ⟨rfl,hE2⟩;have HE2:=oA (HE1.trans hE2);have HK2:=oA (aJ HB1 hE2);clear hE2 HC;go_wp2_with fail;refine (HLO _ HE2).mono ?_;rintro e w3 ⟨v3,rfl,Ap,oz⟩;have HM3:=oA Ap;have HE3:=oA (HE2.trans oz);have HK3:=oA (aJ HK2 oz);have rN:Hid (w.heap.size+1<=w2.heap.size/\w2.heap.size<=w3.heap.size):=⟨by have:=dr HK2;omega,oz.size⟩;clear oz HLO Ap;go_wp2_with fail;refine (HFO _ _ w2.heap.size HM3 HE3 (by have:=HB.out;have:=rN.1;omega) rN.2).mono ?_;rintro e w4 ⟨v4,rfl,EC,hb4⟩;have HM4:=oA EC;have HE4:Hid (aA w w4):=Below.trans HE3 (Below.mono hb4 HE2.size);have HK4:Hid (w4.heap[w.heap.size]?=some (.cells #[.int .i64 0,.slice none 0 0] 85 (0,0))):=(hb4.block w.heap.size (by have:=rN.1;omega)).trans HK3;clear EC hb4 HFO;go_wp2_with fail;refine (HS _ _ _ HM4 HE4).mono ?_;rintro e w5 ⟨hr,o5⟩;have HSW:Hid (w.heap.size<w4.heap.size):=dr HK4;have HE5:=oA (HE4.trans o5);have hk5:=aJ HK4 o5;obtain ⟨r0,r1,rf⟩:=nV hk5;have f0:=rf 0;have f1:=rf 1;clear rf HS o5;by_cases hf:(R.all fun r=>r.all eI)=true
 ·rw [if_pos hf] at hr;obtain ⟨u,rfl,hu⟩:=hr;obtain ⟨au,cu,rfl,u1,u2,-,-⟩:=bc.open hu.now;have HU:=oA hu;have HFF:=oA hf;have hkA:=nX hk5 (.int .i64 n) (.slice au R.length cu);have HX:=oA (nO HE5 (oK w.heap.size) (.int .i64 n) (.slice au R.length cu));clear hu hf;go_wp2_with fail;refine bodyPost_ret (nt (by rfl) _ _ w.heap.size 85 #[.int .i64 n,.slice au R.length cu] (0,0) _ (by rfl) hkA underlying85 (by rfl) (by kernel_rfl)) (by rfl) ?_;unfold fu;rw [if_pos HFF.out];refine ⟨⟨_,rfl,?_⟩,HX⟩;refine HU.grow (aG.setCell (aG.setCell (aG.refl _ _) ?_ 0 _) ?_ 1 _) fun k hk=>.inl ?_;·exact HSW
  ·exact HSW
  ·exact Nat.lt_trans hk HSW
 ·rw [if_neg hf] at hr;subst hr;have HFF:=oA hf;have hkA:=nX hk5 (.int .i64 0) (.slice none 0 0);have HX:=oA (nO HE5 (oK w.heap.size) (.int .i64 0) (.slice none 0 0));clear hf;go_wp2_with fail;refine bodyPost_ret (nt (by rfl) _ _ w.heap.size 85 #[.int .i64 0,.slice none 0 0] (0,0) _ (by rfl) hkA underlying85 (by rfl) (by kernel_rfl)) (by rfl) ?_;unfold fu;rw [if_neg HFF.out];exact ⟨rfl,HX⟩
end Go.Proofs.YtjlkkofmojgipaaGreatDoor
namespace Go.Proofs.YtjlkkofmojgipaaGreatDoor
open Go.RowKit Go.Shelf Go.Proofs.Tryz
attribute [local go_sem] Oper.semAt_some
theorem B1_ {w:World} {base:Nat} {e:TypeId} {k:Nat} {v:Value} {n:Nat} {xs:List Value} (h:w.ownsRow base e k v n xs) {g:Nat} (hg:v.ownBlock=some g) {o:Obj} (ho:w.heap[g]?=some o) (hc:o.isCells=false):False:=by
 rcases h.2 with ⟨rfl,_⟩ | ⟨g',cap,cur,rfl,_,qP,_⟩
 ·simp [Value.ownBlock] at hg
 ·simp [Value.ownBlock] at hg;subst hg;rw [qP] at ho;cases ho;simp [Obj.isCells] at hc
def lf (m:og):List Value:=m.map fun x=>Value.string (aB x)
structure fv (w W:World) (B b4 b5 gr cr:Nat) (s m:og):Prop where
 old:aA w W
 h4:W.heap[b4]?=some (.cells #[.slice (some ⟨gr,0,none⟩) s.length cr] 188 (0,0))
 row:ag W gr 0 s
 out:∃ vo,W.heap[b5]?=some (.cells #[vo] 188 (0,0))/\W.ownsRow w.heap.size 53 1 vo m.length (lf m)/\vo.ownBlock≠some gr
 ne:b4≠gr/\b5≠gr/\b4≠b5
 low:w.heap.size<=b4/\w.heap.size<=b5/\w.heap.size<=gr
 lt:b4<B/\b5<B/\gr<B
theorem Y0_ {w W W':World} {row:Option Nat} (h:aA w W) (hg:W.grownBy W' row) (hr:∀ r,row=some r->w.heap.size<=r):aA w W' :=
 Below.trans h ⟨hg.os,hg.tape,hg.output,hg.size,fun k hk=>hg.block k (oI hk h.size) (fun e=>by have:=hr k e.symm;omega)⟩
theorem Z5T {W:World} {base:Nat} {e:TypeId} {n:Nat} {v:Value} {xs:List Value} (h:W.ownsRow base e 1 v n xs):∀ b,v.ownBlock=some b->base<=b/\b<W.heap.size:=h.lt
theorem fv.grown {w W W':World} {B b4 b5 gr cr:Nat} {s m:og} (h:fv w W B b4 b5 gr cr s m) (hB:w.heap.size<=B) {row:Option Nat} (hg:W.grownBy W' row) (hr:∀ r,row=some r->B<=r/\∃ o:Obj,W.heap[r]?=some o/\o.isCells=false):fv w W' B b4 b5 gr cr s m:=by
 obtain ⟨vo,o1,o2,o3⟩:=h.out;have l:=h.lt;have hne:∀ b,b<B->row≠some b:=fun b hb e=>by have:=(hr b e).1;omega
 refine ⟨Y0_ h.old hg (fun r e=>oJ hB (hr r e).1),jo h.h4 hg (hne _ l.1),h.row.same hg.size (hg.block gr h.row.lt (fun e=>hne _ l.2.2 e.symm)),⟨vo,jo o1 hg (hne _ l.2.1),o2.kept hg ?_,o3⟩,h.ne,h.low,l⟩;cases hv:vo.ownBlock with
 | none=>exact .inl rfl
 | some b =>
  refine .inr fun e=>?_;obtain ⟨-,o,ho,hc⟩:=hr b e.symm;exact B1_ o2 hv ho hc
theorem fv.ab {w:World} {B b4 b5 gr cr:Nat} (hB:w.heap.size<=B) (xss:oe) (r:og):AbR B (fun i W=>∃ s m,Z7a xss r i=some (s,m)/\fv w W B b4 b5 gr cr s m):=by
 rintro i W W' row ⟨s,m,h1,h2⟩ hg hr;exact ⟨s,m,h1,h2.grown hB hg hr⟩
theorem fv.ext {w W W':World} {B b4 b5 gr cr:Nat} {s m:og} (h:fv w W B b4 b5 gr cr s m) (hB:w.heap.size<=B) (he:aA W W'):fv w W' B b4 b5 gr cr s m :=
 h.grown hB (row:=none) ⟨he.os,he.tape,he.output,he.size,fun k hk _=>he.block k hk⟩ (fun r e=>by cases e)
theorem fv.less {w W W':World} {B b4 b5 gr cr:Nat} {s m s':og} (h:fv w W B b4 b5 gr cr s m) (hg:aG (·=gr) W W') (hR:ag W' gr 0 s') (hl:s'.length=s.length):fv w W' B b4 b5 gr cr s' m/\KeepsFrom B W W':=by
 obtain ⟨vo,o1,o2,o3⟩:=h.out;have vS:W.grownBy W' (some gr):=⟨hg.os,hg.tape,hg.output,hg.size,fun k hk e=>hg.block k hk (fun hh=>e (by rw [hh]))⟩;refine ⟨⟨Y0_ h.old vS (fun r e=>by cases e;exact h.low.2.2),by rw [hl];exact jo h.h4 vS (fun e=>h.ne.1 (oM e).symm),hR,⟨vo,jo o1 vS (fun e=>h.ne.2.1 (oM e).symm),o2.kept vS ?_,o3⟩,h.ne,h.low,h.lt⟩,⟨hg.size,fun k o hk ho _=>?_⟩⟩
 ·cases hv:vo.ownBlock with
  | none=>exact .inl rfl
  | some b=>exact .inr fun e=>o3 (hv.trans e)
 ·have:=h.lt.2.2;exact (hg.block k (dr ho) (fun e=>by omega)).trans ho
theorem fv.push {w W0 W w':World} {B b4 b5 gr cr:Nat} {s m:og} (h:fv w W0 B b4 b5 gr cr s m) (he:aA W0 W) {vo v':Value} {q:Int} (hb:W.heap[b5]?=some (.cells #[vo] 188 (0,0))) (hown:W.ownsRow w.heap.size 53 1 vo m.length (lf m)) (hne:vo.ownBlock≠some gr)
  (hB:w.heap.size<=B) (hgr:gr<W.heap.size) (D0:w'.ownsRow w.heap.size 53 1 v' (m.length+1) (lf m++[.string (aB q)])) (hg:W.grownBy w' vo.ownBlock) (qF:v'.ownBlock=vo.ownBlock\/v'.ownBlock=some W.heap.size) :
  fv w (w'.setCell ⟨b5,0,none⟩ v') B b4 b5 gr cr s (m++[q])/\KeepsFrom B W (w'.setCell ⟨b5,0,none⟩ v'):=by
 have h':=h.ext hB he;have l:=h.lt;have e4:=Z7_ hown h'.h4 (by decide);have e5:=Z7_ hown hb (by decide);have g1:=fU w' b5 0 v';have k4:=jo h'.h4 hg e4;have k5:=jo hb hg e5;have hrow:=h'.row.same hg.size (hg.block gr h'.row.lt (fun e=>hne e.symm));have e5':=Z7_ D0 k5 (by decide);have tz:v'.ownBlock≠some gr:=by
  rcases qF with e | e;·rw [e];exact hne
  ·rw [e];intro hh;have:=oM hh;omega
 refine ⟨⟨?_,jo k4 g1 (fun e=>h.ne.2.2 (oM e).symm),hrow.other b5 0 v' (fun e=>h.ne.2.1 e.symm),⟨v',?_,?_,tz⟩,h.ne,h.low,l⟩,?_⟩;·refine Y0_ (Y0_ h'.old hg (fun r e=>(Z5T hown r e).1)) g1 (fun r e=>by cases e;exact h.low.2.1)
 ·have:=en k5 0 v';simpa using this
 ·have:(lf (m++[q]))=lf m++[.string (aB q)]:=by simp [lf]
  rw [this,oV];refine D0.kept g1 ?_;cases hv:v'.ownBlock with
  | none=>exact .inl rfl
  | some b=>exact .inr fun e=>e5' (hv.trans e)
 ·refine ⟨oJ hg.size g1.size,fun k o hk ho hc=>?_⟩;have hk5:k≠b5:=fun e=>by omega
  refine (g1.block k (oI (dr ho) hg.size) (fun e=>hk5 (oM e))).trans ((hg.block k (dr ho) (fun e=>?_)).trans ho);exact B1_ hown e.symm ho hc
attribute [local go_sem] Oper.semAt_some
end Go.Proofs.YtjlkkofmojgipaaGreatDoor
namespace Go.Proofs.YtjlkkofmojgipaaGreatDoor
open Go.RowKit Go.Maps Go.Proofs.Tryz
theorem Z1F {n:Int} {xss:oe} (h:iK n xss=0):dy n xss=0/\fk xss=true:=by
 unfold iK at h;by_cases h1:dy n xss=0
 ·rw [if_pos h1] at h;by_cases h2:fk xss=true;·exact ⟨h1,h2⟩
  ·rw [if_neg h2] at h;cases h
 ·rw [if_neg h1] at h;exact absurd h h1
def jX (F cols:Nat) (m:oe):Option (oe) :=
 if bH cols m=true then
  match dx (m.length+cols) F (m.length+cols) (bI cols m) with
  | none=>none
  | some h=>if bH (m.length+cols) h=true then dx cols F cols (dR m.length h) else none
 else none
theorem I1_ (F cols:Nat) (m:oe) (v:Value) (base:Nat) (w:World) (R:oe) (hM:dP w base v m) (hk:jX F cols m=some R)
  (hm:m.length+cols<=1000) (pK:1<=cols) (ht:ae w) (hb:4<w.heap.size) :
  Calls prog 104 #[v,.int .i64 cols] w fun e w'=>∃ a c,e=.returned (.slice a R.length c)/\dP w' w.heap.size (.slice a R.length c) R/\aA w w':=by
 unfold jX at hk;by_cases h1:bH cols m=true
 ·rw [if_pos h1] at hk;cases h2:dx (m.length+cols) F (m.length+cols) (bI cols m) with
  | none=>rw [h2] at hk;cases hk
  | some h =>
   rw [h2] at hk;simp only at hk;by_cases h3:bH (m.length+cols) h=true
   ·rw [if_pos h3] at hk;refine (j5_ F cols m v base w R hM h1 h h2 h3 hk hm pK ht hb).mono fun e w' hh=>?_;obtain ⟨v',he,hR,hE⟩:=hh;obtain ⟨a,c,rfl,-,-,-⟩:=hR.open;exact ⟨a,c,he,hR,hE⟩
   ·rw [if_neg h3] at hk;cases hk
 ·rw [if_neg h1] at hk;cases hk
theorem Z0J (xss:oe) (v:Value) (w:World) (h:bN w v xss) (hlen:xss.length<=1000) (hrow:∀ xs∈xss,xs.length<=1000) (ht:ae w) :
  Calls prog 100 #[v] w fun e w'=>∃ a c,e=.returned (.slice a xss.length c)/\dP w' w.heap.size (.slice a xss.length c) xss/\aA w w':=by
 refine (C3_ xss v w h hlen hrow ht).mono fun e w' hh=>?_;obtain ⟨v',he,hR,hE⟩:=hh;obtain ⟨a,c,rfl,-,-,-⟩:=hR.open;exact ⟨a,c,he,hR,hE⟩
def LsF (cols:Nat) (m:oe) (w w':World) (A E:Int) (a:Option Addr) (k c:Nat):Prop :=
 (((m.all fun r=>r.all eI)=true)->A=cols/\E=0/\bQ w' (·<w.heap.size) (fun W=>bN W (.slice a k c) m))/\(¬ ((m.all fun r=>r.all eI)=true)->A=0/\E=4/\a=none/\k=0/\c=0)
theorem fu.open {cols:Nat} {m:oe} {w w':World} {e:Ending} (h:fu cols m w e w'):∃ A E a k c,e=.returned (.tuple #[.agg #[.int .i64 A,.slice a k c],.int .i64 E])/\LsF cols m w w' A E a k c/\aA w w':=by
 obtain ⟨h1,h2⟩:=h;by_cases hf:(m.all fun r=>r.all eI)=true
 ·rw [if_pos hf] at h1;obtain ⟨v,rfl,hs⟩:=h1;obtain ⟨a,c,rfl,-,-,-,-⟩:=bc.open hs.now;exact ⟨_,_,a,_,c,rfl,⟨fun _=>⟨rfl,rfl,hs⟩,fun hn=>absurd hf hn⟩,h2⟩
 ·rw [if_neg hf] at h1;exact ⟨0,4,none,0,0,h1,⟨fun hn=>absurd hn hf,fun _=>⟨rfl,rfl,rfl,rfl,rfl⟩⟩,h2⟩
theorem LsF.close {cols:Nat} {m:oe} {w w1 w' W:World} {A E:Int} {a:Option Addr} {k c:Nat} (h:LsF cols m w1 w' A E a k c) (hE:aA w W) (hw:w.heap.size<=w1.heap.size) (hg:∀ S:Nat->Prop,(∀ b,b<w1.heap.size->S b)->aG S w' W):fu cols m w (.returned (.tuple #[.agg #[.int .i64 A,.slice a k c],.int .i64 E])) W:=by
 unfold fu;by_cases hf:(m.all fun r=>r.all eI)=true
 ·rw [if_pos hf];obtain ⟨rfl,rfl,hs⟩:=h.1 hf;exact ⟨⟨_,rfl,hs.grow (hg _ fun b hb=>hb) fun b hb=>.inl (oI hb hw)⟩,hE⟩
 ·rw [if_neg hf];obtain ⟨rfl,rfl,rfl,rfl,rfl⟩:=h.2 hf;exact ⟨rfl,hE⟩
theorem Z61 (n F:Nat) (xss:oe) (K R:oe) (rJ:jX F n xss=some K) (hk:jX F n K=some R) (Le:K.length<=900) (v:Value) (w:World) (h:ma w v n xss) (hE:iK n xss=0) (hn:1<=n) (hsm:∀ r∈R,r.all bp=true) (hl:∀ r∈R,r.length<=1000) (hm:R.length<=1000) (pD:fQ w) (hb:4<w.heap.size) :
  Calls prog 51 #[v] w (fu n R w):=by
 obtain ⟨l1,l2,l3,l4⟩:=nU (Z1F hE).1;have HC:=oA (fun W (hW:aA w W)=>Z0H n xss v W (h.ext hW));rw [hE] at HC;obtain ⟨u,rfl,hu⟩:=h;have HLO:=oA (fun W (hW:aA w W)=>Z0J xss u W (hu.ext hW) (by omega) (fun xs hx=>by have:=(l4 xs hx).2;omega) (pD.pow.ext hW));have HK1:=oA (fun W V base (hM:dP W base V xss) (hW:aA w W)=>I1_ F n xss V base W K hM rJ (by omega) hn (pD.pow.ext hW) (oI hb hW.size));have HK2:=oA (fun W V base (hM:dP W base V K) (hW:aA w W)=>I1_ F n K V base W R hM hk (by omega) hn (pD.pow.ext hW) (oI hb hW.size));have HS:=oA (fun W V base (hM:dP W base V R) (hW:aA w W)=>I2_ n R V base W hM hsm hl hm (by omega) (pD.ext hW));obtain ⟨a,c,rfl,h1,h2,-,hc⟩:=bc.open hu;clear hu hc hE hk hsm hl hm pD l1 l2 l3 l4 hb rJ Le
 go_enter func51,ntmps51
 obtain ⟨W1,qm,hE1,hs1,hb1⟩:=nW w (.int .i64 n) (.slice a xss.length c);obtain ⟨W2,tl,hE2,hs2,hb2⟩:=nW W1 (.int .i64 0) (.slice none 0 0);have HB1:=oA (aJ hb1 hE2);have HE2:=oA (hE1.trans hE2);have z1:W1.heap.size=w.heap.size+1:=hs1;rw [z1] at hb2;have HB2:=oA hb2;clear hE1 hE2 hs1 hs2 hb1 hb2;obtain ⟨JV,JU,-⟩:=nV HB1;go_wp2_with fail;refine (HC _ HE2).mono ?_;rintro e w1 ⟨rfl,oz⟩;have HE3:=oA (HE2.trans oz);have g0:=oz.cell JV;have g1:=oz.cell JU;have HB3:=oA (aJ HB2 oz);have rN:Hid (w.heap.size+1<w1.heap.size):=dr HB3;clear oz HC JV JU HB1 HB2 qm tl z1
 go_upto_region 4 with fail
 refine jE (fun w'=>w'.cell? ⟨w.heap.size,0,none⟩=some (.int .i64 n)/\w'.cell? ⟨w.heap.size,1,none⟩=some (.slice a xss.length c)/\Hid (aA w1 w')) 14 (by kernel_rfl) ⟨(aA.drew w1).cell g0,(aA.drew w1).cell g1,aA.drew w1⟩ (fun oh=>?_);refine rA [0,1,3,4,6,7,9,10] ?_
 iterate 8 ((first|(refine rL (v:=?_) (by rfl) (Or.inl ⟨by rfl,?_⟩) ?_;rotate_left;·((intro w' pO);(try dsimp only at pO);(try go_simp);(try with_reducible rfl)))|(refine rW (v:=?_) (by rfl) (Or.inl ⟨by rfl,?_⟩) ?_;rotate_left;·((intro w');(try go_simp);(try with_reducible rfl))));(try simp only [Act.put,aP,aQ,aR]))
 refine rE ?_;refine dh 2 (by kernel_rfl) rfl (fun K hK=>?_);go_simp
 (go_at_call 100;refine (HLO _ (HE3.trans oh.2.2)).mono ?_)
 rintro e wx ⟨a2,c2,rfl,sC,ow⟩;have HM2:=oA sC;go_wp2_with fail;refine hK _ _ ⟨(ow).cell oh.1,(ow).cell oh.2.1,aA.trans oh.2.2 (ow)⟩ (fun oh=>?_);clear hK K
 (try simp only [Act.put,aP,aQ,aR])
 refine dh 5 (by kernel_rfl) rfl (fun K hK=>?_);go_simp
 (go_at_call 104;refine (HK1 _ _ _ HM2 (HE3.trans oh.2.2)).mono ?_)
 rintro e wy ⟨a3,c3,rfl,Ap,ow⟩;have HM3:=oA Ap;go_wp2_with fail;refine hK _ _ ⟨(ow).cell oh.1,(ow).cell oh.2.1,aA.trans oh.2.2 (ow)⟩ (fun oh=>?_);clear hK K
 (try simp only [Act.put,aP,aQ,aR])
 refine dh 8 (by kernel_rfl) rfl (fun K hK=>?_);go_simp
 (go_at_call 104;refine (HK2 _ _ _ HM3 (HE3.trans oh.2.2)).mono ?_)
 rintro e wv ⟨a4,c4,rfl,EC,ow⟩;have HM4:=oA EC;go_wp2_with fail;refine hK _ _ ⟨(ow).cell oh.1,(ow).cell oh.2.1,aA.trans oh.2.2 (ow)⟩ (fun oh=>?_);clear hK K
 (try simp only [Act.put,aP,aQ,aR])
 refine dh 11 (by kernel_rfl) rfl (fun K hK=>?_);go_simp
 (go_at_call 102;refine (HS _ _ _ HM4 (HE3.trans oh.2.2)).mono ?_)
 rintro e wz yd;obtain ⟨AA,EE,ar,kr,cr,rfl,JG,ow⟩:=yd.open;have xu:Hid (aA w1 wv):=oh.2.2.out;have HLF:=oA JG;have HXZ:=oA (xu.trans ow);have HZZ:=oA ow;have hr:=aJ HB3 HXZ;obtain ⟨r0,r1,rf⟩:=nV hr;have f0:=rf 0;have f1:=rf 1;have HKA:=oA (nX hr (.int .i64 AA) (.slice ar kr cr));clear rf hr JG;go_wp2_with fail;refine hK _ _ ⟨(ow).cell oh.1,(ow).cell oh.2.1,aA.trans oh.2.2 (ow)⟩ (fun oh=>?_);clear hK K
 (try simp only [Act.put,aP,aQ,aR])
 refine rA [12,13] ?_
 iterate 2 ((refine rW (v:=?_) (by rfl) (Or.inl ⟨by rfl,?_⟩) ?_;rotate_left;·((intro w');(try go_simp);(try with_reducible rfl)));(try simp only [Act.put,aP,aQ,aR]))
 refine rE ?_;refine R9_ 14 (by kernel_rfl) (by kernel_rfl) rfl (fun K hK=>?_);go_simp;refine hK _ _ ?_;clear hK K
 (try simp only [Act.put,aP,aQ,aR])
 refine fw 15 (by kernel_rfl) (by kernel_rfl) (by kernel_rfl) rfl (fun K hK=>?_);go_simp;refine hK _ _ ?_;clear hK K
 (try simp only [Act.put,aP,aQ,aR])
 go_wp2_with fail;refine bodyPost_ret (nt (by rfl) _ _ (w.heap.size+1) 85 #[.int .i64 AA,.slice ar kr cr] (0,0) _ (by rfl) HKA underlying85 (by rfl) (by kernel_rfl)) (by rfl) ?_;have GW:Hid (w.heap.size+1<wv.heap.size):=oI rN xu.size;refine HLF.close (nO (HE3.trans HXZ) (by omega) _ _) (oJ (by omega) (Nat.le_of_lt GW)) (fun S hS=>aG.setCell (aG.setCell (aG.refl _ _) (hS _ GW) 0 _) (hS _ GW) 1 _)
theorem q5_ {F F' cols:Nat} {m R:oe} (hl:F<=F') (h:jX F cols m=some R):jX F' cols m=some R:=by
 unfold jX at h |-;by_cases h1:bH cols m=true
 ·rw [if_pos h1] at h |-;cases h2:dx (m.length+cols) F (m.length+cols) (bI cols m) with
  | none=>rw [h2] at h;cases h
  | some x =>
   rw [h2] at h;rw [V0_ hl h2];simp only at h |-;by_cases h3:bH (m.length+cols) x=true;·rw [if_pos h3] at h |-;exact V0_ hl h
   ·rw [if_neg h3] at h;cases h
 ·rw [if_neg h1] at h;cases h
theorem d7_ (n N b1 b2:Nat) (m:oe) (hw:∀ x∈m,x.length=n) (hN:∀ x∈m,bJ N x) (h1:1<=N) (hb1:N<=10^b1) (hb2:n*eC N n<=10^b2) (s1:(gN n b1 0).1+1<=400000000) (s2:(gN n b1 0).2+1<=400000000) (s3:(gN n b2 0).1+1<=400000000) (s4:(gN n b2 0).2+1<=400000000) :
  ∃ F T qs,jX F n m=some T/\bP n T qs/\(∀ v,Sp n (aK 0 T) v↔ij n m v)/\(∀ x∈T,bJ (n*eC N n) x/\x.length=n)/\T.length<=n /\
   (∀ ms,bP n m ms->T.length+m.length=n)/\(∀ v,v.length=n->(∀ u,ij n m u->bX u v n=0)->∃ D:Int,D≠0/\Sp n (aK 0 m) (dH D v)):=by
 have C0:bB n m:=fun i hi=>hw _ (mO hi);have hb1':∀ x∈m,bJ (10^b1) x:=fun x hx=>(hN x hx).mono hb1
 obtain ⟨F1,h,ps,f1,f2,f3,-,f5⟩:=y4_ (m.length+n) n b1 (bI n m) (fun x hx=>by
   obtain ⟨i,hi,rfl⟩:=mC hx;exact je n m i hi) (Z3A (Nat.pos_of_ne_zero (by simp)) hb1') (.inl (by rw [fP];exact oK _)) s1 s2
 rw [fP] at f2;have hn:=Z3B f3 f5;have hhl:h.length=n:=by omega
 have hbd:=D6_ (N:=N) f3 (je n m) (fun i hi=>Z3A h1 hN _ (mO hi)) f5;rw [hhl] at hbd;obtain ⟨d,d1,d2,d3⟩:=Z2V f3 m.length;have hT:=K7_ f3 d1 d2 d3;have Fw:((h.drop d).map (·.drop m.length)).length=n-d:=by simp [hhl]
 have Fx:∀ x∈(h.drop d).map (·.drop m.length),bJ (n*eC N n) x/\x.length=n:=by
  intro x hx;obtain ⟨i,hi,rfl⟩:=mC hx;refine ⟨?_,hT.1 i hi⟩;rw [Fw] at hi;rw [gS (by omega)];exact fun y hy=>hbd (d+i) (by omega) y (List.mem_of_mem_drop hy)
 obtain ⟨F2,T',qs',g1,g2,g3,-,g5⟩:=y4_ n n b2 ((h.drop d).map (·.drop m.length)) (fun x hx=>(Fx x hx).2) (fun x hx=>(Fx x hx).1.mono hb2) (.inr (oK _)) s3 s4;have C2:T'=(h.drop d).map (·.drop m.length):=N4_ g3 hT g5.symm;refine ⟨F1+F2,_,_,?_,hT,Z50 f3 f5 d1 d2 d3,Fx,by rw [Fw];omega,fun ms yP=>?_,fun v hv hz=>Z5d C0 f3 f5 d1 d2 d3 hv hz⟩
 ·unfold jX;have hgl:=l0 n b1 0;rw [if_pos (Z2S hw hb1' (by omega)),V0_ (Nat.le_add_right F1 F2) f1];simp only;have hgl2:=l0 n b2 0
  rw [if_pos (Z2S (b:=b2) (fun x hx=>by obtain ⟨i,hi,rfl⟩:=mC hx;exact f3.1 i hi) (fun x hx=>by
   obtain ⟨i,hi,rfl⟩:=mC hx;exact (hbd i (by omega)).mono hb2) (by omega)),l5_ f3 d2 d3,V0_ (Nat.le_add_left F2 F1) g1,C2]
 ·have:=Z4d yP f3 f5 d1 d2 d3;rw [Fw];omega
theorem Z5f {n:Nat} {m:oe} (hm:bB n m) {v u:og} (h:Sat n m v) (hu:ij n m u):bX v u n=0:=by
 obtain ⟨-,D,hD,hs⟩:=h;have:=Z4U hm hs hu;rw [jT,J1_,jT] at this;rcases Int.mul_eq_zero.1 this with h | h;·exact absurd h hD
 ·exact h
theorem Z0C {n:Nat} {R T:oe} {ps qs:Nat->Nat} (hR:bP n R ps) (hT:bP n T qs) (h:∀ v,Sp n (aK 0 R) v↔Sp n (aK 0 T) v):R=T :=
 N4_ hR hT ⟨fun r hr=>(h r).1 (.mem hr),fun r hr=>(h r).2 (.mem hr)⟩
theorem Z3a (n:Nat) (m:oe) (hn:n<=12) (hm:m.length<=12) (hw:∀ x∈m,x.length=n) (hb:∀ x∈m,bJ 1000000000 x) :
  ∃ F R ps,dx n F n m=some R/\bP n R ps/\R.length<=12/\(∀ x∈R,x.all bp=true/\x.length=n)/\bU n (aK 0 m) (aK 0 R):=by
 obtain ⟨F,R,ps,h1,h2,h3,h4,h5⟩:=y4_ n 12 9 m hw (fun x hx=>(hb x hx).mono (by decide)) (.inl hm) (by decide) (by decide);refine ⟨F,R,ps,h1,h3,by omega,fun x hx=>⟨?_,?_⟩,h5⟩
 ·rw [List.all_eq_true];intro y hy;have h6:=h4 x hx y hy;refine mR (K:=(gN 12 9 0).2+1) (by decide) (by omega) (Nat.lt_of_le_of_lt h6 ?_);exact Nat.pow_lt_pow_right (by decide) (by omega)
 ·obtain ⟨i,hi,rfl⟩:=mC hx;exact h3.1 i hi
theorem Z7g:4*eC 40000000 4<=10^33/\4*eC (4*eC 40000000 4) 4<=10^136:=by decide +kernel
theorem Z6i:(gN 4 8 0).1+1<=400000000/\(gN 4 8 0).2+1<=400000000/\(gN 4 33 0).1+1<=400000000/\(gN 4 33 0).2+1<=400000000/\(gN 4 136 0).1+1<=400000000/\(gN 4 136 0).2+1<=400000000:=by decide +kernel
theorem Z7f:∀ k,k<=3->k*eC 128 k<=40000000:=by decide +kernel
theorem d8_ {n:Nat} {R:oe} (hn:n<=12) (hl:R.length<=12) (h:∀ r∈R,r.length=n/\bJ 1000000000 r):dy n R=0:=by
 unfold dy;rw [if_neg (by omega),if_neg (by omega)];exact Z1w fun r hr=>⟨Z4n (by have:=(h r hr).1;omega) (h r hr).2,(h r hr).1⟩
theorem Z4R {m:oe} (h4:∀ r∈m,r.length=4) (hk:m.length<=3) (hb:∀ r∈m,∀ x∈r,x.natAbs<=128) (h0:bW (cE m m.length)≠0):∃ (R0 l:oe),
   (∀ u W,dO W u 4 m.length (cE m m.length)->fQ W->4<W.heap.size->Calls prog 36 #[u] W fun e w'=>∃ av cv,e=.returned (.tuple #[.slice av l.length cv,.int .i64 0])/\bN w' (.slice av l.length cv) l/\aA W w') /\
   (∀ v W,bN W v m->fQ W->4<W.heap.size->Calls prog 50 #[.int .i64 (4:Nat),v] W fun e w'=>∃ u,e=.returned (.tuple #[.agg #[.int .i64 (4:Nat),u],.int .i64 0])/\bN w' u R0/\aA W w') /\
   (∀ u W,bN W u R0->fQ W->4<W.heap.size->Calls prog 51 #[.agg #[.int .i64 (4:Nat),u]] W fun e w'=>∃ u',e=.returned (.tuple #[.agg #[.int .i64 (4:Nat),u'],.int .i64 0])/\bN w' u' l/\aA W w') /\
   l.length=m.length/\cK l=0/\(∀ r∈l,r.length=4)/\dC (cE m m.length)=dC (cE l m.length)/\fS 4 m.length (cE l m.length):=by
 obtain ⟨k,sH⟩:=oZ m.length;obtain ⟨X,hX⟩:=oZ (cE m k);have hXs:=K6_ h4 hk hb;have hXl:=u7_ h4 hk hb;have hpl:=fun {R0 l:oe} {qs ps:Nat->Nat}=>l4_ h4 hk hb h0 (R0:=R0) (l:=l) (qs:=qs) (ps:=ps);rw [sH,hX] at h0 hXs hXl hpl |-;rw [sH] at hk;have hR:fS 4 k X:=⟨by omega,by omega,hXl,fun x hx=>Nat.lt_of_le_of_lt (hXs x hx) (by decide +kernel)⟩;obtain ⟨b1,b2,b3⟩:=Z3T 4 (by omega) k (by omega);have Fu:∀ x∈X,x.natAbs<=10^8:=hXs;obtain ⟨F,hF⟩:∃ F,10^eN 8 (bO 4 k).length<F:=⟨_,Nat.lt_succ_self _⟩;obtain ⟨F2,xq⟩:∃ F,10^(gN 4 (eN 8 (bO 4 k).length) 0).1<F:=⟨_,Nat.lt_succ_self _⟩;obtain ⟨R,hK,C8⟩:=Z5F (n:=4) (k:=k) Fu hF b1;obtain ⟨l,ps,f1,f2,f3,-,f5⟩:=r8_ (F:=F2) C8.wid C8.bnd (.inr (oK 4)) b2 b3 xq C8.free;have hrk:=Z2q Fu hF b1 R hK;rw [<- f2] at hrk;have C0:bB 4 m:=fun i hi=>h4 _ (mO hi);obtain ⟨F0,R0,qs,g1,g2,-,g4,g5⟩:=Z3a 4 m (by omega) (by omega) h4 (fun x hx y hy=>by have:=hb x hx y hy;omega);obtain ⟨p1,p2,p3⟩:=hpl g2 g5 f3 (fun v=>by rw [<- f5.iff,C8.ann]) hrk;have hRk:R.length=k:=by rw [<- f2];exact p1
 obtain ⟨l',ps',q1,q2,q3,q4,q5,q6,q7⟩:=j7_ (B:=100000000) (by omega) (by omega) hXl Fu hXs h0 hF b1 hK C8 hRk b2 b3 xq;obtain rfl:l'=l:=oM (q1.symm.trans f1);have yi:∀ r∈l',r.length=4/\bJ 1000000000 r:=fun r hr=>by
  obtain ⟨i,hi⟩:=List.getElem?_of_mem hr;have hil:=(oC.1 hi).1;have h9:=f3.1 i hil;have h8:=q4 i hil;rw [d_ hi] at h9 h8;exact ⟨h9,h8.mono (oJ (Nat.mul_le_mul hk (oK _)) (by decide))⟩
 have hq:cE l' k=eK 4 k l':=by
  by_cases h1:1<=k;·exact c5_ (by omega) (by omega) p1 (z5_ (fun r hr=>(yi r hr).1) (fun e=>by rw [e] at p1;simp at p1;omega))
  ·obtain rfl:k=0:=(by omega);obtain rfl:=List.eq_nil_of_length_eq_zero p1;rw [b3_ 4 (by omega)];decide +kernel
 have Ld:fS 4 k (cE l' k):=by
  rw [hq];exact ⟨by omega,by omega,by unfold eK;rw [List.length_map],fun x hx=>Nat.lt_of_le_of_lt (q7 x hx) (by decide +kernel)⟩
 have yx:∀ x∈R0,x.length=4/\bJ 40000000 x:=fun x hx=>by
  obtain ⟨i,hi,rfl⟩:=mC hx;refine ⟨g2.1 i hi,(D6_ (N:=128) g2 C0 (fun j hj y hy=>hb _ (mO hj) y hy) g5 i hi).mono ?_⟩;rw [p2];exact Z7f k hk
 have yw:∀ r∈R0,r.length=4/\bJ 1000000000 r:=fun r hr=>⟨(yx r hr).1,(yx r hr).2.mono (by decide)⟩
 have Fj:iK (4:Nat) R0=0:=by
  unfold iK;rw [if_pos (d8_ (by omega) (by omega) yw),if_pos (Z0B g2)]
 obtain ⟨c1,c2⟩:=Z7g;obtain ⟨d1,d2,d3,d4,d5,d6⟩:=Z6i;obtain ⟨F1,A,qa,a1,a2,a3,a4,a5,-,a7⟩:=d7_ 4 40000000 8 33 R0 (fun x hx=>(yx x hx).1) (fun x hx=>(yx x hx).2) (by decide) (by decide) c1 d1 d2 d3 d4;obtain ⟨F3,S,ss,e1,e2,e3,-,-,-,-⟩:=d7_ 4 (4*eC 40000000 4) 33 136 A (fun x hx=>(a4 x hx).2) (fun x hx=>(a4 x hx).1) (by decide +kernel) c1 c2 d3 d4 d5 d6;have hS:S=l':=Z0C e2 f3 fun v=>by
  rw [e3,p3];constructor
  ·intro hv;obtain ⟨D,hD,h⟩:=a7 v hv.1 fun u hu=>Z4U a2.1 ((a3 u).2 hu) hv;exact ⟨hv.1,D,hD,h⟩
  ·intro hv;refine ⟨hv.1,fun i hi=>?_⟩;rw [jT];exact Z5f g2.1 hv ((a3 _).1 (.mem (bA (Nat.zero_le i) hi)))
 rw [hS] at e1;have rh:∀ {R:oe},(∀ r∈R,r.length=4/\bJ 1000000000 r)->(R.all fun r=>r.all eI)=true:=fun h=>by
  rw [List.all_eq_true];intro r hr;rw [List.all_eq_true];intro x hx;have:=(h r hr).2 x hx;unfold eI;simp;omega
 have B6:∀ {R:oe},(∀ r∈R,r.length=4/\bJ 1000000000 r)->∀ r∈R,r.all bp=true:=fun h r hr=>by
  rw [List.all_eq_true];intro x hx;exact mR (K:=10) (by decide) (by decide) (Nat.lt_of_le_of_lt ((h r hr).2 x hx) (by decide))
 refine ⟨R0,l',?_,?_,?_,p1,Z3q (n:=4) (by omega) (fun r hr=>⟨(yi r hr).1,by omega,fun x hx=>by have:=(yi r hr).2 x hx;omega⟩),fun r hr=>(yi r hr).1,by rw [hq];exact q6,Ld⟩
 ·intro u W h hl pz;refine (Z2r F F2 (by omega) (by omega) hR u W h R l' h0 hK hRk f1 (fun r hr=>⟨(yi r hr).1,List.all_eq_true.2 fun x hx=>(kY x).2 (by have:=(yi r hr).2 x hx;omega)⟩) hl pz).mono fun e w' ⟨v,g1,g2,g3⟩=>?_;obtain ⟨av,cv,rfl,-⟩:=aH.open g3;exact ⟨av,cv,g1,g3,g2⟩
 ·intro v W h hl pz;refine (Z5O 4 F0 m R0 v W h (d8_ (by omega) (by omega) fun r hr=>⟨h4 r hr,fun x hx=>by have:=hb r hr x hx;omega⟩) g1 (B6 yw) (fun r hr=>by have:=(yw r hr).1;omega) (by omega) hl pz).mono fun e w' he=>?_;unfold fu at he;rw [if_pos (rh yw)] at he;obtain ⟨⟨u,h1,h2⟩,h3⟩:=he;exact ⟨u,h1,h2.now,h3⟩
 ·intro u W h hl pz;refine (Z61 4 (F1+F3) R0 A l' (q5_ (by omega) a1) (q5_ (by omega) e1) (by omega) _ W ⟨u,rfl,h⟩ Fj (by omega) (B6 yi) (fun r hr=>by have:=(yi r hr).1;omega) (by omega) hl pz).mono fun e w' he=>?_;unfold fu at he;rw [if_pos (rh yi)] at he;obtain ⟨⟨u,h1,h2⟩,h3⟩:=he;exact ⟨u,h1,h2.now,h3⟩
theorem k2_ {n k:Nat} {X:og} (hR:fS n k X) (u:Value) (w:World) (h:dO w u n k X) (lr:Nat) (Bl:Hid (∀ W,aA w W->Calls prog 80 #[u] W fun e w'=>∃ a4 c4,e=.returned (.slice a4 lr c4)/\aA W w')) (ht:ae w) :
  oX 35 #[u] w (.tuple #[.bool (decide (bW X=0) || decide (lr=k)),.int .i64 0]):=by
 have HCK:Hid (∀ W,aA w W->oX 47 #[u] W (.int .i64 0)):=fun W hW=>lh hR u W (h.ext hW);have zq:Hid (∀ W,aA w W->oX 79 #[u] W (.bool (decide (bW X=0)))):=fun W hW=>m8_ hR.dig u W (h.ext hW) (ht.ext hW);obtain ⟨r,rfl,hr⟩:=h;obtain ⟨a,c,rfl,-⟩:=aH.open hr;obtain ⟨mx,tI⟩:=oZ X.length;rw [tI] at HCK zq Bl |-;obtain ⟨w1,pE,hE1,hs1,hb1⟩:=ep w (.int .i64 n) (.int .i64 k) (.slice a mx c);have HE1:=oA hE1;have HB1:=oA hb1;have k1:=aO hb1;have hbb:((lr:Int) == (k:Int))=decide (lr=k):=by
  by_cases e:lr=k;·subst e;simp
  ·rw [oS e];exact beq_eq_false_iff_ne.2 (by omega)
 obtain ⟨b2,hb2⟩:=oZ (decide (lr=k));obtain ⟨b1,hb1'⟩:=oZ (decide (bW X=0));rw [hb1'] at zq |-;rw [hb2] at hbb |-;clear hb1 hE1 hr hs1 tI hb2 hb1' ht hR
 go_enter func35,ntmps35
 go_wp2_with fail;refine (HCK w1 HE1).mono ?_;rintro e w2 ⟨rfl,h2⟩;have HE2:Hid (aA w w2):=HE1.trans h2;have hb2:=aJ HB1 h2;have d0:=aO hb2 0;have d1:=aO hb2 1;have d2:=aO hb2 2;simp only [oR,oP,oQ] at d0 d1 d2;clear h2 HCK k1 pE hb2
 go_upto_region 4 with fail
 cases b1 with
 | true =>
  refine lF (fun w'=>w'.cell? ⟨w.heap.size,0,none⟩=some (.int .i64 n)/\w'.cell? ⟨w.heap.size,1,none⟩=some (.int .i64 k)/\w'.cell? ⟨w.heap.size,2,none⟩=some (.slice a mx c)/\Hid (aA w2 w')) 12 12 (by kernel_rfl) (by kernel_rfl) ⟨(aA.drew w2).cell d0,(aA.drew w2).cell d1,(aA.drew w2).cell d2,aA.drew w2⟩ (fun ops hO oh=>?_);have hi:=cM hO 0 (by decide)
  conv at hi=>rhs;arg 1;whnf
  refine tY hO (v:=?_) 0 hi (Or.inl ⟨by rfl,?_⟩) ?_;rotate_left;·((intro w' pO);(try dsimp only at pO);(try go_simp);(try with_reducible rfl))
  clear hi
  (try simp only [Act.put,aP,aQ,aR])
  have hi:=cM hO 1 (by decide)
  conv at hi=>rhs;arg 1;whnf
  refine gK hO 1 (by kernel_rfl) hi (fun K hK=>?_);go_simp
  (go_at_call 79;refine (zq _ (HE2.trans oh.2.2.2)).mono ?_)
  rintro e wz ⟨rfl,ow⟩;go_wp2_with fail;refine hK _ _ ⟨(ow).cell oh.1,(ow).cell oh.2.1,(ow).cell oh.2.2.1,aA.trans oh.2.2.2 (ow)⟩ (fun oh=>?_);clear hK K hi
  (try simp only [Act.put,aP,aQ,aR])
  refine rA [2,3,4,5,6,7,8,9,10] ?_
  iterate 9 (refine rS hO (by decide) fun o h=>?_;(conv at h=>lhs;whnf);subst h;(first|(refine rX hO (v:=?_) (Or.inl ⟨by rfl,?_⟩) ?_;rotate_left;·((intro w');(try go_simp);(try with_reducible rfl)))|(refine rX hO (v:=undef) (Or.inr ⟨by rfl,rfl⟩) ?_));(try simp only [Act.put,aP,aQ,aR]))
  refine rE ?_;have z4:Hid (aA w2 _):=oh.2.2.2;have hi:=cM hO 11 (by decide)
  conv at hi=>rhs;arg 1;whnf
  refine kR hO 11 (by kernel_rfl) (by kernel_rfl) hi (fun K hK=>?_);go_simp;refine hK _ _ (by assumption) ?_;clear hK K hi hO
  (try simp only [Act.put,aP,aQ,aR])
  go_wp2_with fail;go_ret2;exact ⟨rfl,HE2.trans z4.out⟩
 | false =>
  refine lF (fun w'=>w'.cell? ⟨w.heap.size,0,none⟩=some (.int .i64 n)/\w'.cell? ⟨w.heap.size,1,none⟩=some (.int .i64 k)/\w'.cell? ⟨w.heap.size,2,none⟩=some (.slice a mx c)/\Hid (aA w2 w')) 12 12 (by kernel_rfl) (by kernel_rfl) ⟨(aA.drew w2).cell d0,(aA.drew w2).cell d1,(aA.drew w2).cell d2,aA.drew w2⟩ (fun ops hO oh=>?_);have hi:=cM hO 0 (by decide)
  conv at hi=>rhs;arg 1;whnf
  refine tY hO (v:=?_) 0 hi (Or.inl ⟨by rfl,?_⟩) ?_;rotate_left;·((intro w' pO);(try dsimp only at pO);(try go_simp);(try with_reducible rfl))
  clear hi
  (try simp only [Act.put,aP,aQ,aR])
  have hi:=cM hO 1 (by decide)
  conv at hi=>rhs;arg 1;whnf
  refine gK hO 1 (by kernel_rfl) hi (fun K hK=>?_);go_simp
  (go_at_call 79;refine (zq _ (HE2.trans oh.2.2.2)).mono ?_)
  rintro e wz ⟨rfl,ow⟩;go_wp2_with fail;refine hK _ _ ⟨(ow).cell oh.1,(ow).cell oh.2.1,(ow).cell oh.2.2.1,aA.trans oh.2.2.2 (ow)⟩ (fun oh=>?_);clear hK K hi
  (try simp only [Act.put,aP,aQ,aR])
  refine rA [2,3,6,7] ?_
  iterate 4 (refine rS hO (by decide) fun o h=>?_;(conv at h=>lhs;whnf);subst h;(refine rY hO (v:=?_) (Or.inl ⟨by rfl,?_⟩) ?_;rotate_left;·((intro w' pO);(try dsimp only at pO);(try go_simp);(try with_reducible rfl)));(try simp only [Act.put,aP,aQ,aR]))
  refine rE ?_;have hi:=cM hO 4 (by decide)
  conv at hi=>rhs;arg 1;whnf
  refine gK hO 4 (by kernel_rfl) hi (fun K hK=>?_);go_simp
  (go_at_call 80;refine (Bl _ (HE2.trans oh.2.2.2)).mono ?_)
  rintro e wy ⟨a6,c6,rfl,ow⟩;go_wp2_with fail;refine hK _ _ ⟨(ow).cell oh.1,(ow).cell oh.2.1,(ow).cell oh.2.2.1,aA.trans oh.2.2.2 (ow)⟩ (fun oh=>?_);clear hK K hi
  (try simp only [Act.put,aP,aQ,aR])
  refine rA [5,8,9,10] ?_
  iterate 4 (refine rS hO (by decide) fun o h=>?_;(conv at h=>lhs;whnf);subst h;(refine rX hO (v:=?_) (Or.inl ⟨by rfl,?_⟩) ?_;rotate_left;·((intro w');(try go_simp);(try with_reducible rfl)));(try simp only [Act.put,aP,aQ,aR]))
  refine rE ?_;have z4:Hid (aA w2 _):=oh.2.2.2;have hi:=cM hO 11 (by decide)
  conv at hi=>rhs;arg 1;whnf
  refine kR hO 11 (by kernel_rfl) (by kernel_rfl) hi (fun K hK=>?_);go_simp;refine hK _ _ (by assumption) ?_;clear hK K hi hO
  (try simp only [Act.put,aP,aQ,aR])
  go_wp2_with fail;go_ret2;refine ⟨?_,HE2.trans z4.out⟩
  first | rfl | (rw [<- hbb];rfl) | (simp [hbb])
theorem k3_ (F:Nat) {n k:Nat} {X:og} (hn:n<7) (qB:1<=n) (hR:fS n k X) (u:Value) (w:World) (h:dO w u n k X) (R:oe) (hK:fX F n k X=some R) (ht:ae w) (hb:4<w.heap.size) :
  oX 35 #[u] w (.tuple #[.bool (decide (bW X=0) || decide (R.length=k)),.int .i64 0]) :=
 k2_ hR u w h R.length (fun W hW=>(I0_ F hn qB hR u W (h.ext hW) R hK (ht.ext hW) (oI hb hW.size)).mono fun e w' ⟨v,h1,h2,h3⟩=>by
  obtain ⟨a4,c4,rfl,-⟩:=h2
  exact ⟨a4,c4,h1,h3⟩) ht
theorem Z49 (n:Int) (w:World):oY 58 #[.int .i64 n] w (.bool (!cW n)):=by
 by_cases h:n<=1000000000
 ·by_cases h2:-1000000000<=n
  ·go_enter func58,ntmps58
   go_wp2
   go_ret;exact ⟨by simp [cW,h,h2];try omega,rfl⟩
  ·go_enter func58,ntmps58
   go_wp2
   go_ret;exact ⟨by simp [cW,h,h2];try omega,rfl⟩
 ·go_enter func58,ntmps58
  go_wp2
  go_ret;exact ⟨by simp [cW,h];try omega,rfl⟩
theorem d4_ {n k:Nat} {X r:og} {M:Nat} (hX:∀ x∈X,x.natAbs<=M) (hr:∀ x∈r,x.natAbs<=1000000000) (s:Nat):∀ i,(dZ n k X r s i).natAbs<=i*(1000000000*M)
 | 0=>by simp [dZ]
 | i+1=>by
  have ih:=d4_ (n:=n) (k:=k) hX hr s i;rw [dZ,Nat.succ_mul]
  split
  ·omega
  ·have h1:=lM.getD (N:=M) hX (b8 n k (s ||| (1 <<< i)));have h2:=lM.getD (N:=1000000000) hr i;have h3:=Nat.mul_le_mul h2 h1;have h4:=v6_ (r.getD i 0*X.getD (b8 n k (s ||| (1 <<< i))) 0) (dz (1 <<< i) s);rw [Int.natAbs_mul] at h4;omega
theorem U5_ {x:Int} {K:Nat} (h:x.natAbs<10^K) (hK:1<=K):(aB x).size<=K+1:=by
 have h1:=jB x.natAbs K h hK;have h2:=er x;omega
theorem Z0D {n k:Nat} {X r:og} (hX:lQ X) (hr:∀ x∈r,x.natAbs<=1000000000) (s i:Nat) (hi:i<=7):(aB (dZ n k X r s i)).size<=500:=by
 have h9:=d4_ (n:=n) (k:=k) (M:=10^400) (fun x hx=>Nat.le_of_lt (hX x hx)) hr s i;have h11:=Nat.mul_le_mul_right (1000000000*10^400) hi;have GU:7*(1000000000*10^400)<10^450:=by decide +kernel
 exact oJ (U5_ (Nat.lt_of_le_of_lt (oJ h9 h11) GU) (by decide)) (by decide)
theorem Z5K {x y:Int} (hx:x.natAbs<=1000000000) (hy:y.natAbs<10^400):(x*y).natAbs<10^450:=by
 have GU:1000000000*10^400<10^450:=by decide +kernel
 rw [Int.natAbs_mul];exact Nat.lt_of_le_of_lt (Nat.mul_le_mul hx (Nat.le_of_lt hy)) GU
theorem Z4V {x:Int} (h:x.natAbs<10^450):(aB x).size<=1000:=oJ (U5_ h (by decide)) (by decide)
def Z7i (n k:Nat):Bool:=(aS n k).all fun s=>(List.range n).all fun i=>s.testBit i || decide ((s ||| (1 <<< i))∈aS n (k+1))
theorem Z5A:∀ n,n<7->∀ k,k<n->Z7i n k=true:=by decide +kernel
theorem Z6j {n k s i:Nat} (hn:n<7) (hk:k<n) (hs:s∈aS n k) (hi:i<n) (hb:s.testBit i=false):(s ||| (1 <<< i))∈aS n (k+1):=by
 have h:=List.all_eq_true.1 (List.all_eq_true.1 (Z5A n hn k hk) s hs) i (List.mem_range.2 hi);rw [hb,Bool.false_or,decide_eq_true_eq] at h;exact h
theorem Z4a {n k:Nat} {X r:og} (hn:n<7) (hR:fS n k X) (vt:1<=k) (hrl:r.length=n) (rh:r.any (fun x=>!cW x)=false) (u v:Value) (w:World) (h:dO w u n k X) (hv:bL w v r) (ht:ae w) :
  Calls prog 25 #[u,v] w fun e w'=>∃ y,e=.returned (.tuple #[y,.int .i64 0])/\aA w w'/\dO w' y n (k-1) (Z6L n k X r):=by
 have HCK:Hid (∀ W,aA w W->oX 47 #[u] W (.int .i64 0)):=fun W hW=>lh hR u W (h.ext hW);have HANY:Hid (∀ W,aA w W->oX 57 #[v,.func (.func 58) #[] #[]] W (.bool false)):=fun W hW=>by
  have h9:=Z8_ r v 58 #[] (fun x=>!cW x) W (hv.ext hW) (enters_of func58 (by kernel_rfl) rfl) (fun W x _ _=>(Z49 x W).mono fun _ _ ⟨he,hw⟩=>⟨he,hw▸aA.refl _⟩);rw [rh] at h9;exact h9
 have za:∀ x∈r,cW x=true:=fun x hx=>by
  have:=List.any_eq_false.1 rh x hx;simpa using this
 have HFIT:Hid (∀ x∈r,x.natAbs<=1000000000):=fun x hx=>by
  have:=(nQ x).1 (za x hx);omega
 obtain ⟨ur,rfl,hr⟩:=h;obtain ⟨a,c,rfl,h1,h2,-,hc⟩:=bc.open (eO.of_nums hr);unfold maxLen at h2;obtain ⟨av,cv,rfl,v1,v2,v3⟩:=hv.open;have HVV:=oA hv;have HV3:=oA v3;unfold maxLen at v2;have HC:=oA hc;have hkn:=hR.kn;have HLEN:=oA hR.len;have HDG:=oA hR.dig;have HT:=oA ht;obtain ⟨mx,tI⟩:=oZ X.length;have HMX:=oA tI;have HRL:=oA hrl;rw [tI] at h1 HCK |-;rw [hrl] at v1 HANY |-;obtain ⟨w1,pE,hE1,hs1,hb1⟩:=ep w (.int .i64 n) (.int .i64 k) (.slice a mx c);obtain ⟨w2,qU,hE2,hs2,hb2⟩:=ep w1 (.int .i64 0) (.int .i64 0) (.slice none 0 0);have HE2:=oA (hE1.trans hE2);have HB1:=oA (aJ hb1 hE2);have HB2:=oA hb2;have HS1:Hid (w1.heap.size=w.heap.size+1):=hs1;have HS2:Hid (w2.heap.size=w1.heap.size+1):=hs2;have k1:=aO HB1;have HN:=oA hn;have HK1:=oA vt;have rJ:((k:Int) == 0)=false:=by simp;omega
 obtain ⟨d,hd⟩:=oZ (k-1);have HD:=oA hd;have e1:IntKind.i64.wrap ((k:Int)-1)=(d:Int):=by rw [IntKind.wrap_i64];omega
 have pP:d<=n:=by omega
 obtain ⟨D,hD⟩:=oZ (Z6L n k X r);have HDM:Hid (D=(aS n d).map fun s:Nat=>dZ n k X r s n):=by unfold Hid;rw [<- hD,<- hd];rfl
 rw [hD,hd];clear hD hd;clear hb1 hb2 hE1 hE2 hr hc hs2 hR tI hv v3 ht rh za hrl
 go_enter func25,ntmps25
 go_wp2_with fail;refine (HCK w2 HE2).mono ?_;rintro e w2b ⟨rfl,DH⟩;have Di:Hid (aA w w2b):=HE2.trans DH;have HB12:=oA (aJ HB1 DH);have HB22:=oA (aJ HB2 DH);have Gi:Hid (w1.heap.size<w2b.heap.size/\w.heap.size<w2b.heap.size/\w.heap.size<w1.heap.size):=by have:=DH.size;have:=HS2.out;have:=HS1.out;unfold Hid;omega
 have d0:=aO HB12 0;have d1:=aO HB12 1;simp only [oR,oP,oQ] at d0 d1;clear DH HCK k1 pE qU;go_wp2_with fail;refine (HANY w2b Di).mono ?_;rintro e w3 ⟨rfl,h3⟩;have HE3:Hid (aA w w3):=Di.trans h3;have HB13:=oA (aJ HB12 h3);have HB23:=oA (aJ HB22 h3);have rN:Hid (w1.heap.size<w3.heap.size/\w.heap.size<w3.heap.size/\w.heap.size<w1.heap.size):=by have:=h3.size;have:=Gi.out;unfold Hid;omega
 obtain ⟨w4,hw4,hE4,hs4,hb4⟩:=ep w3 (.int .i64 0) (.int .i64 0) (.slice none 0 0);have HE4:=oA hE4;have HB4:=oA hb4;clear d0 d1;have d0:=aO HB13 0;have d1:=aO HB13 1;simp only [oR,oP,oQ] at d0 d1;have f4:=cD hb4;have k4:=aO hb4;clear h3 HANY hE4 hs4 hb4 rJ
 go_upto_region 11 with fail
 generalize rG:World.setCell _ _ _=w5;have HB5:Hid (w5.heap[w3.heap.size]?=some (.cells #[.int .i64 n,.int .i64 d,.slice none 0 0] 31 (0,0))):=by rw [<- rG];exact fL HB4 _ _ _
 have o5:aA w3 w5:=by rw [<- rG];exact eY HE4 (oK _) _ _ _
 have HE5:Hid (aA w w5):=HE3.trans o5;have HB15:=oA (aJ HB13 o5);have HB25:=oA (aJ HB23 o5);clear rG hw4 k4 f4 d0 d1;have d0:=aO HB15 0;have d1:=aO HB15 1;simp only [oR,oP,oQ] at d0 d1;have HPL:Hid (∀ W,Calls prog 59 #[.int .i64 n,.int .i64 k] W fun e w'=>∃ v,e=.returned v/\aA W w'/\fR w' v n k):=fun W=>P8_ n k HN hkn W;have z7:Hid (∀ W,Calls prog 60 #[.int .i64 n,.int .i64 d] W (f3_ (aS n d) W)):=fun W=>ml n d (by have:=HN.out;omega) pP W;clear o5;go_wp2_with fail;refine (HPL w5).mono ?_;rintro e w6 ⟨v6,rfl,h6,F7⟩;obtain ⟨b6,N6,rfl,DA⟩:=F7;have Gn:Hid (fR w6 (.map (some b6)) n k):=⟨b6,N6,rfl,DA⟩;have HE6:Hid (aA w5 w6):=h6;have HB6:=oA (aJ HB5 h6);clear d0 d1;have d0:=aO HB6 0;have d1:=aO HB6 1;simp only [oR,oP,oQ] at d0 d1;clear h6 DA HPL;go_wp2_with fail;refine (z7 w6).mono ?_;rintro e w7 ⟨v7,rfl,h7,hU⟩;obtain ⟨a7,c7,rfl,pK,hc2,hcx⟩:=hU.open;unfold maxLen at hc2;have HCX:=oA hcx;have HP7:=oA (Gn.ext h7);have HB7:=oA (aJ HB6 h7);have HE7:Hid (aA w w7):=(HE5.trans HE6).trans h7;have HB17:=oA (aJ HB15 (HE6.trans h7));have HB27:=oA (aJ HB25 (HE6.trans h7));have HBL:Hid (w3.heap.size<w7.heap.size):=dr HB7;have HLT:Hid (∀ s∈aS n d,s<4096):=lU (by have:=HN.out;omega) pP;have Dc:Hid (∀ s∈aS n d,∀ i,i<n->s.testBit i=false->(s ||| (1 <<< i))∈aS n k/\(s ||| (1 <<< i))<4096/\b8 n k (s ||| (1 <<< i))<mx):=fun s hs i hi hb=>by
  have h1:=Z6j HN (by have:=HK1.out;have:=HD.out;omega) hs hi hb;rw [show d+1=k by have:=HK1.out;have:=HD.out;omega] at h1;refine ⟨h1,lU (by have:=HN.out;omega) hkn _ h1,?_⟩;rw [<- HMX.out,HLEN.out];exact (H4_ HN hkn h1).2
 have HBD:Hid (∀ s i,i<=n->(aB (dZ n k X r s i)).size<=500):=fun s i hi=>Z0D HDG HFIT s i (by have:=HN.out;omega);obtain ⟨L,hL⟩:=oZ (aS n d);rw [hL] at HCX HLT Dc pK HDM |-;obtain ⟨N,hN⟩:=oZ L.length;have HNN:=oA hN;have HLL:Hid (∀ i,(D.take i).length<1000000):=by
  intro i;have h1:=lT (n:=n) (k:=d) (by have:=HN.out;omega) pP;rw [HDM.out,oG,List.length_map,<- hL];omega
 rw [hN] at pK |-;clear hN hL h7 hU hcx d0 d1 z7 hkn pP;go_wp2_with fail
 go_loopw [50] (fun t wr=>∃ i:Nat,i<=N/\t=.int .i64 (i:Int)/\Hid (aG (·=w3.heap.size) w7 wr)/\Hid (∃ so,wr.heap[w3.heap.size]?=some (.cells #[.int .i64 n,.int .i64 d,so] 31 (0,0))/\aU wr w7.heap.size 53 1 so numC (D.take i))) (fun t _=>N+1-(intOf t).toNat)
 case atStart=>exact ⟨0,by omega,by simp,aG.refl _ _,_,HB7,aU.nil _ _ _ _ _⟩
 case round =>
  obtain ⟨i,hi,rfl,HG,HBB⟩:=hrel;obtain ⟨wo,rfl⟩:∃ wo:World,wo=wr:=⟨_,rfl⟩;by_cases hlt:i<N
  ·obtain ⟨s,hs⟩:∃ s,L[i]?=some s:=by
    rw [<- HNN.out] at hlt;exact ⟨_,oB hlt⟩
   have hsm:=oE hs;obtain ⟨b7,o7,rfl,hb7,hcell⟩:=HCX (by intro e;rw [e] at hs;simp at hs);have hc7:=hcell i s hs;have xI:b7≠w3.heap.size:=by
    rintro rfl;have:=aO HB7 (o7+i);rw [hc7] at this;exact I6_ this
   have hcs:=HG.cell hc7 xI;have hs46:=HLT s hsm;have HINS:=oA (Dc s hsm);have HPR:=oA (HP7.grownS HG HB7);have HZ:Hid (D.take (i+1)=D.take i++[dZ n k X r s n]):=by
    unfold Hid;rw [oH,HDM.out,oF,hs];rfl
   have z2':=HG.cell (aO HB17 2) (by have:=rN.out;omega)
   (try simp only [oR,oP,oQ] at z2')
   have HZ2:=oA z2';have s8:Hid (aA w wo):=nN HE7 HG (fun j hj e=>by have:=rN.out;omega);obtain ⟨so,qb,tS⟩:=HBB.out;have HBK:=oA qb;have HBU:=oA tS;have HSB:=oA (HBD s);have Ay:aB (dZ n k X r s 0)=⟨#[48]⟩:=(by rw [dZ];decide +kernel);have HS48:=oA Ay;clear hs hsm hcell hc7 xI hb7 z2' qb tS HBB Ay;go_wp2_with fail
   go_loopw [11,56] (fun o t wr=>∃ j:Nat,j<=n/\t=.int .i64 (j:Int)/\o=.string (aB (dZ n k X r s j))/\Hid (aA wo wr)) (fun _ t _=>n+1-(intOf t).toNat)
   case atStart=>exact ⟨0,by omega,by simp,by rw [HS48.out],aA.refl _⟩
   case round =>
    obtain ⟨j,hj,rfl,rfl,HX⟩:=hrel;obtain ⟨wp,rfl⟩:∃ wp:World,wp=wr:=⟨_,rfl⟩;by_cases hjl:j<n
    ·as_aux_lemma =>
     obtain ⟨x,hx⟩:∃ x,r[j]?=some x:=⟨_,oB (by rw [HRL.out];exact hjl)⟩;obtain ⟨bv,ov,rfl,-,hcv⟩:=HV3.2.2 (by intro e;rw [e] at hx;simp at hx);have g1:=HX.cell (s8.cell (hcv j x hx));have hxm:=HFIT x (oE hx);have f1:(s:Int) / 2^j=((s / 2^j:Nat):Int):=(by rw [Int.natCast_ediv,Int.natCast_pow];rfl);have f2:=f9_ (i:=j) hs46;obtain ⟨q,hq⟩:=oZ (s / 2^j);rw [hq] at f1 f2;have EI:0<=(j:Int):=(by omega);have Lw:(j:Int)<=64:=(by have:=HN.out;omega);have Du:r.getD j 0=x:=(by rw [oD,hx];rfl);have HSJ:=HSB j (by omega);cases htb:s.testBit j with
     | true =>
      rw [htb,if_pos rfl] at f2;have HNX:Hid (dZ n k X r s (j+1)=dZ n k X r s j):=(by unfold Hid;rw [dZ,if_pos htb]);clear htb hq hcv hx Du hxm;go_wp2_with fail;go_roundw
      case rel=>exact ⟨j+1,by omega,by go_num,by rw [HNX.out],HX⟩
      case measure=>simp [intOf];omega
     | false =>
      rw [htb,if_neg (by decide)] at f2;have HNX:Hid (dZ n k X r s (j+1)=dZ n k X r s j+dc (r.getD j 0*X.getD (b8 n k (s ||| (1 <<< j))) 0) (dz (1 <<< j) s)):=(by unfold Hid;rw [dZ,if_neg (by rw [htb];decide)]);obtain ⟨hin,hr46,hpm⟩:=HINS j hjl htb;have hi64:=i7_ j (by have:=HN.out;omega);have e1:=hi64.1;have hb46:=hi64.2;obtain ⟨bi,BY⟩:=oZ (1 <<< j);rw [BY] at e1 hb46 hin hr46 hpm HNX;have e3:=bits_or_u64_nat s bi (by omega) (by omega);obtain ⟨rs,rT⟩:=oZ (s ||| bi);rw [rT] at HNX hin e3 hr46 hpm;have zB:Hid (∀ W,oX 65 #[.int .u64 (bi:Int),.int .u64 (s:Int)] W (.bool (dz bi s))):=fun W=>w3_ bi s hb46 hs46 W;have HLK:Hid (∀ W,aA wp W->(Instr.lookup 96 (.map (some b6)) (.int .u64 (rs:Int)) false).run prog W=.ok (.int .i64 ((b8 n k rs:Nat):Int)) W):=fun W hW=>((HPR.ext (HX.trans hW))).run hin hr46;obtain ⟨p,hp⟩:=oZ (b8 n k rs);rw [hp] at hpm HLK HNX;obtain ⟨y,hy⟩:∃ y,X[p]?=some y:=⟨_,oB (by rw [HMX.out];exact hpm)⟩;rw [show X.getD p 0=y by rw [oD,hy];rfl,Du] at HNX;obtain ⟨o,ho⟩:=oZ (dz bi s);rw [ho] at zB HNX;obtain ⟨bx,ox,rfl,hbx,hcx⟩:=HC (by intro e;rw [e] at hy;simp at hy);obtain ⟨z9,e9,g9⟩:=hcx p y hy;obtain rfl:z9=.string (aB y):=e9;have hdy:=HDG y (oE hy);have hdm:=Z5K hxm hdy;have hszm:=Z4V hdm;have hszs:=Z4V (x:=dc (x*y) o) (by rw [v6_];exact hdm);have hszy:=(jS hdy).2;have hszx:=U5_ (x:=x) (K:=10) (by have:(10:Nat)^10=10000000000:=(by decide);omega) (by decide);clear hdm hdy;have HOF:Hid (∀ W,aA wp W->oX 64 #[.int .i64 x] W (.string (aB x))):=fun W hW=>j_ x W (by omega) (by omega) (HT.ext (s8.trans (HX.trans hW)));have Gt:Hid (∀ W,aA wp W->oX 63 #[.string (aB x),.string (aB y)] W (.string (aB (x*y)))):=fun W hW=>i_ x y W (by omega) (by omega) (HT.ext (s8.trans (HX.trans hW)));have HSG:Hid (∀ W,oX 62 #[.string (aB (x*y)),.bool o] W (.string (aB (dc (x*y) o)))):=fun W=>O1_ (x*y) o W (by omega);have yI:Hid (∀ W,aA wp W->oX 61 #[.string (aB (dZ n k X r s j)),.string (aB (dc (x*y) o))] W (.string (aB (dZ n k X r s (j+1))))):=fun W hW=>by
       rw [HNX.out];exact L0_ _ _ W (by omega) (by omega) (HT.ext (s8.trans (HX.trans hW)))
      obtain ⟨s1,AG⟩:=oZ (aB (dZ n k X r s j));obtain ⟨s2,AF⟩:=oZ (aB (dZ n k X r s (j+1)));obtain ⟨s3,CD⟩:=oZ (aB (x*y));obtain ⟨s4,CB⟩:=oZ (aB (dc (x*y) o));obtain ⟨s5,CA⟩:=oZ (aB x);rw [CA] at HOF Gt;rw [CD] at Gt HSG;rw [CB] at HSG yI;rw [AG,AF] at yI;rw [AG];have HS2':=oA AF;have z3:=HX.cell (s8.cell g9);have z2:=HX.cell HZ2;have CI:(p:Int)<(mx:Int):=(by omega);have HX9:=HX;clear htb hin rT hp hy ho hcx g9 hbx hi64 BY hq hcv hx Du hxm hszm hszs hszy hszx AG AF CD CB CA HSJ
      go_upto_region 20 with fail
      refine lF (fun w'=>w'.cell? ⟨w.heap.size,2,none⟩=some (.slice (some ⟨bx,ox,none⟩) mx c)/\w'.cell? ⟨bx,ox+p,none⟩=some (.string (aB y))/\Hid (aA wp w')) 21 21 (by kernel_rfl) (by kernel_rfl) ⟨(aA.drew wp).cell z2,(aA.drew wp).cell z3,aA.drew wp⟩ (fun ops hO oh=>?_);refine rA [0,1,3,4,5,6,7,8,9] ?_
      iterate 9 (refine rS hO (by decide) fun o h=>?_;(conv at h=>lhs;whnf);subst h;(refine rY hO (v:=?_) (Or.inl ⟨by rfl,?_⟩) ?_;rotate_left;·((intro w' pO);(try dsimp only at pO);(try go_simp);(try with_reducible rfl)));(try simp only [Act.put,aP,aQ,aR]))
      refine rE ?_;have hi:=cM hO 10 (by decide)
      conv at hi=>rhs;arg 1;whnf
      refine tY hO (v:=.int .i64 (p:Int)) 10 hi (Or.inl ⟨by rfl,?_⟩) ?_;·(intro w' pO;(try dsimp only at pO);have hlk:=HLK w' (pO.2.2.out);go_simp;(try with_reducible rfl))
      clear hi
      (try simp only [Act.put,aP,aQ,aR])
      refine rA [11,12,14,15,16] ?_
      iterate 5 (refine rS hO (by decide) fun o h=>?_;(conv at h=>lhs;whnf);subst h;(refine rY hO (v:=?_) (Or.inl ⟨by rfl,?_⟩) ?_;rotate_left;·((intro w' pO);(try dsimp only at pO);(try go_simp);(try with_reducible rfl)));(try simp only [Act.put,aP,aQ,aR]))
      refine rE ?_;have hi:=cM hO 2 (by decide)
      conv at hi=>rhs;arg 1;whnf
      refine gK hO 2 (by kernel_rfl) hi (fun K hK=>?_);go_simp
      (go_at_call 64;refine (HOF _ (oh.2.2)).mono ?_)
      rintro e wz ⟨rfl,ow⟩;go_wp2_with fail;refine hK _ _ ⟨(ow).cell oh.1,(ow).cell oh.2.1,aA.trans oh.2.2 (ow)⟩ (fun oh=>?_);clear hK K hi
      (try simp only [Act.put,aP,aQ,aR])
      have hi:=cM hO 13 (by decide)
      conv at hi=>rhs;arg 1;whnf
      refine gK hO 13 (by kernel_rfl) hi (fun K hK=>?_);go_simp
      (go_at_call 63;refine (Gt _ (oh.2.2)).mono ?_)
      rintro e wz ⟨rfl,ow⟩;go_wp2_with fail;refine hK _ _ ⟨(ow).cell oh.1,(ow).cell oh.2.1,aA.trans oh.2.2 (ow)⟩ (fun oh=>?_);clear hK K hi
      (try simp only [Act.put,aP,aQ,aR])
      have hi:=cM hO 17 (by decide)
      conv at hi=>rhs;arg 1;whnf
      refine gK hO 17 (by kernel_rfl) hi (fun K hK=>?_);go_simp
      (go_at_call 65;refine (zB _).mono ?_)
      rintro e wz ⟨rfl,ow⟩;go_wp2_with fail;refine hK _ _ ⟨(ow).cell oh.1,(ow).cell oh.2.1,aA.trans oh.2.2 (ow)⟩ (fun oh=>?_);clear hK K hi
      (try simp only [Act.put,aP,aQ,aR])
      have hi:=cM hO 18 (by decide)
      conv at hi=>rhs;arg 1;whnf
      refine gK hO 18 (by kernel_rfl) hi (fun K hK=>?_);go_simp
      (go_at_call 62;refine (HSG _).mono ?_)
      rintro e wz ⟨rfl,ow⟩;go_wp2_with fail;refine hK _ _ ⟨(ow).cell oh.1,(ow).cell oh.2.1,aA.trans oh.2.2 (ow)⟩ (fun oh=>?_);clear hK K hi
      (try simp only [Act.put,aP,aQ,aR])
      have hi:=cM hO 19 (by decide)
      conv at hi=>rhs;arg 1;whnf
      refine gK hO 19 (by kernel_rfl) hi (fun K hK=>?_);go_simp
      (go_at_call 61;refine (yI _ (oh.2.2)).mono ?_)
      rintro e wy ⟨rfl,ow⟩;go_wp2_with fail;refine hK _ _ ⟨(ow).cell oh.1,(ow).cell oh.2.1,aA.trans oh.2.2 (ow)⟩ (fun oh=>?_);clear hK K hi
      (try simp only [Act.put,aP,aQ,aR])
      have yX:Hid (aA wp wy):=oh.2.2;have hi:=cM hO 20 (by decide)
      conv at hi=>rhs;arg 1;whnf
      refine kR hO 20 (by kernel_rfl) (by kernel_rfl) hi (fun K hK=>?_);go_simp;refine hK _ _ (by assumption) ?_;clear hK K hi hO
      (try simp only [Act.put,aP,aQ,aR])
      go_wp2_with fail;go_roundw
      case rel=>exact ⟨j+1,by omega,by go_num,by rw [HS2'.out],HX9.trans yX⟩
      case measure=>simp [intOf];omega
    ·obtain rfl:j=n:=by omega
     as_aux_lemma =>
     obtain ⟨z,hz⟩:=oZ (dZ j k X r s j);rw [hz] at HZ |-;have HST:=HZ;have HBU2:=oA (HBU.ext HX);obtain ⟨ao,co,rfl,-⟩:=aH.open HBU.list;obtain ⟨m,hm⟩:=oZ ((D.take i).length);have hBK2:=aJ HBK HX;have HLi:=oA (HLL i);rw [hm] at HBU2 hBK2;have HBK2:=oA hBK2;have z1:=aO hBK2 2;simp only [oR,oP,oQ] at z1;have HSZ:Hid (w7.heap.size<=wp.heap.size):=oJ HG.size HX.size;have MP:Hid (aG (·=w3.heap.size) w7 wp):=HG.ext HX;clear hz hm hBK2 HBU HBK;go_wp2_with (at_builtin;go_must (refine eM _ rfl _ _ 29 rfl w7.heap.size 53 (.string ⟨#[]⟩) 1 16 underlying29 jx rfl (by decide) (.slice ao m co) numC (D.take i) z #[.string (aB z)] 53 rfl HBU2 rfl rfl ?e1 (fun _ _=>rfl) HLi (by decide) HSZ ?_))
     case e1=>simp [Value.oneCell']
     intro v' w6b rC sI hb6 Dt _;rw [<- HST.out] at rC;have HB6:=oA rC;have HG6:Hid (aG (·=w3.heap.size) w7 w6b):=MP.thenBelow hb6 (oK _);have HK6:=oA ((Below.block hb6 w3.heap.size HBL).trans HBK2);obtain ⟨a6,c6,rfl,-⟩:=aH.open rC.list;obtain ⟨m6,CZ⟩:=oZ ((D.take (i+1)).length);rw [CZ] at HB6 |-;clear CZ;have k6:=aO HK6;have f6:=cD HK6;clear rC sI hb6 z1;go_wp2_with fail;go_roundw
     case rel=>exact ⟨i+1,by omega,by go_num,HG6.trans (gj (fU _ _ _ _) (fun k hk=>by cases hk;rfl)),_,en HK6 2 _,HB6.boxAt HBL 2 _⟩
     case measure=>simp [intOf];omega
  ·obtain rfl:i=N:=(by omega);obtain ⟨so,qb,tS⟩:=HBB.out;have C3:D.take i=D:=by
    refine List.take_of_length_le ?_;rw [HDM.out,List.length_map,HNN.out];exact oK _
   rw [C3] at tS;obtain ⟨ao,co,rfl,-⟩:=aH.open tS.list;have HF:=oA tS.list;have HE9:Hid (aA w wo):=nN HE7 HG (fun j hj e=>by have:=rN.out;omega);have sh:Hid (wo.heap[w.heap.size+1]?=some (.cells #[.int .i64 0,.int .i64 0,.slice none 0 0] 31 (0,0))):=by
    unfold Hid;rw [<- HS1.out,<- HB27.out];exact HG.block _ (dr HB27) (by have:=rN.out;omega)
   obtain ⟨m,hm⟩:=oZ D.length;rw [hm] at qb HF;have kk:=aO qb;have f9:=cD sh;have k9:=aO sh;clear qb tS HBB C3;go_wp2_with fail;have hb7:=fL sh (.int .i64 n) (.int .i64 d) (.slice ao m co);refine bodyPost_ret (kG (by rfl) _ _ (w.heap.size+1) 31 #[.int .i64 n,.int .i64 d,.slice ao m co] (0,0) _ (.int .i64 0) (by rfl) (by rfl) hb7 underlying31 (by rfl) (by kernel_rfl)) (by rfl) ⟨_,rfl,eY HE9 (by omega) _ _ _,_,rfl,?_⟩;exact K1_ HF sh (X1_ 0 0) (j6 _ _ _ _ _)
theorem Z1T {n k:Nat} {X:og} (hn:n<7) (hR:fS n k X) (u:Value) (w:World) (h:dO w u n k X) :
  Calls prog 28 #[u] w fun e w'=>∃ r,e=.returned (.tuple #[r,.int .i64 0])/\aA w w'/\dO w' r n (n-k) (Z5q n k X):=by
 have HCK:Hid (∀ W,aA w W->oX 47 #[u] W (.int .i64 0)):=fun W hW=>lh hR u W (h.ext hW);obtain ⟨r,rfl,hr⟩:=h;obtain ⟨a,c,rfl,h1,h2,-,hc⟩:=bc.open (eO.of_nums hr);unfold maxLen at h2;have HC:=oA hc;have hkn:=hR.kn;have HLEN:=oA hR.len;have HDG:=oA hR.dig;obtain ⟨mx,tI⟩:=oZ X.length;have HMX:=oA tI;rw [tI] at h1 HCK |-;obtain ⟨w1,pE,hE1,hs1,hb1⟩:=ep w (.int .i64 n) (.int .i64 k) (.slice a mx c);obtain ⟨w2,qU,hE2,hs2,hb2⟩:=ep w1 (.int .i64 0) (.int .i64 0) (.slice none 0 0);have HE2:=oA (hE1.trans hE2);have HB1:=oA (aJ hb1 hE2);have HB2:=oA hb2;have HS1:Hid (w1.heap.size=w.heap.size+1):=hs1;have HS2:Hid (w2.heap.size=w1.heap.size+1):=hs2;have k1:=aO HB1;have HN:=oA hn;obtain ⟨d,hd⟩:=oZ (n-k);have HD:=oA hd;have e1:IntKind.i64.wrap ((n:Int)-(k:Int))=(d:Int):=by rw [IntKind.wrap_i64];omega
 have pP:d<=n:=by omega
 obtain ⟨D,hD⟩:=oZ (Z5q n k X);have HDM:Hid (D=(aS n d).map fun s:Nat=>dc (X.getD (b8 n k (ea n s)) 0) (dz (ea n s) s)):=by unfold Hid;rw [<- hD,<- hd];rfl
 rw [hD,hd];clear hb1 hb2 hE1 hE2 hr hc hs2 hR tI hD hd
 go_enter func28,ntmps28
 go_wp2_with fail;refine (HCK w2 HE2).mono ?_;rintro e w3 ⟨rfl,h3⟩;have HE3:Hid (aA w w3):=HE2.trans h3;have HB13:=oA (aJ HB1 h3);have HB23:=oA (aJ HB2 h3);have rN:Hid (w1.heap.size<w3.heap.size/\w.heap.size<w3.heap.size/\w.heap.size<w1.heap.size):=by have:=h3.size;have:=HS2.out;have:=HS1.out;unfold Hid;omega
 obtain ⟨w4,hw4,hE4,hs4,hb4⟩:=ep w3 (.int .i64 0) (.int .i64 0) (.slice none 0 0);have HE4:=oA hE4;have HB4:=oA hb4;have d0:=aO HB13 0;have d1:=aO HB13 1;simp only [oR,oP,oQ] at d0 d1;have f4:=cD hb4;have k4:=aO hb4;clear h3 HCK k1 pE qU hE4 hs4 hb4
 go_upto_region 5 with fail
 generalize rG:World.setCell _ _ _=w5;have HB5:Hid (w5.heap[w3.heap.size]?=some (.cells #[.int .i64 n,.int .i64 d,.slice none 0 0] 31 (0,0))):=by rw [<- rG];exact fL HB4 _ _ _
 have o5:aA w3 w5:=by rw [<- rG];exact eY HE4 (oK _) _ _ _
 have HE5:Hid (aA w w5):=HE3.trans o5;have HB15:=oA (aJ HB13 o5);have HB25:=oA (aJ HB23 o5);clear rG hw4 k4 f4 d0 d1;have d0:=aO HB15 0;have d1:=aO HB15 1;simp only [oR,oP,oQ] at d0 d1;have HPL:Hid (∀ W,Calls prog 59 #[.int .i64 n,.int .i64 k] W fun e w'=>∃ v,e=.returned v/\aA W w'/\fR w' v n k):=fun W=>P8_ n k HN hkn W;have z7:Hid (∀ W,Calls prog 60 #[.int .i64 n,.int .i64 d] W (f3_ (aS n d) W)):=fun W=>ml n d (by have:=HN.out;omega) pP W;clear o5;go_wp2_with fail;refine (HPL w5).mono ?_;rintro e w6 ⟨v6,rfl,h6,F7⟩;obtain ⟨b6,N6,rfl,DA⟩:=F7;have Gn:Hid (fR w6 (.map (some b6)) n k):=⟨b6,N6,rfl,DA⟩;have HE6:Hid (aA w5 w6):=h6;have HB6:=oA (aJ HB5 h6);clear d0 d1;have d0:=aO HB6 0;have d1:=aO HB6 1;simp only [oR,oP,oQ] at d0 d1;clear h6 DA HPL;go_wp2_with fail;refine (z7 w6).mono ?_;rintro e w7 ⟨v7,rfl,h7,hU⟩;obtain ⟨a7,c7,rfl,pK,hc2,hcx⟩:=hU.open;unfold maxLen at hc2;have HCX:=oA hcx;have HP7:=oA (Gn.ext h7);have HB7:=oA (aJ HB6 h7);have HE7:Hid (aA w w7):=(HE5.trans HE6).trans h7;have HB17:=oA (aJ HB15 (HE6.trans h7));have HB27:=oA (aJ HB25 (HE6.trans h7));have HBL:Hid (w3.heap.size<w7.heap.size):=dr HB7;have HLT:Hid (∀ s∈aS n d,s<2^n):=f4_ (by have:=HN.out;omega) pP;have Jd:Hid (∀ s∈aS n d,ea n s∈aS n k):=fun s hs=>(Z4E (k:=k) HN hkn (by rw [HD.out];exact hs)).1;have MF:Hid (∀ s∈aS n k,b8 n k s<mx):=fun s hs=>by rw [<- HMX.out,HLEN.out];exact (H4_ HN hkn hs).2
 obtain ⟨q,hq⟩:=oZ (2^n);have hsh:=Z3c (n:=n) (by have:=HN.out;omega);have HRB:Hid (∀ s:Nat,s<2^n->bits .andNot .u64 ((2^n-1:Nat):Int) (s:Int)=((ea n s:Nat):Int)):=fun s hs=>Z36 HN hs;have HR46:Hid (∀ s∈aS n k,s<4096):=lU (by have:=HN.out;omega) hkn;rw [hq] at HRB hsh HLT;obtain ⟨qq,Dw⟩:=oZ (q-1);rw [Dw] at HRB;have e2:=hsh.1;have e3:IntKind.u64.wrap ((q:Int)-1)=(qq:Int):=by have:=hsh.2;rw [IntKind.wrap_u64];omega
 have CH:q<=4096:=hsh.2.1;have HQ:=oA CH;have c4:0<=(n:Int):=by omega
 have c5:(n:Int)<=64:=by have:=HN.out;omega
 obtain ⟨L,hL⟩:=oZ (aS n d);rw [hL] at HCX HLT Jd pK HDM |-;obtain ⟨N,hN⟩:=oZ L.length;have HNN:=oA hN;have HLL:Hid (∀ i,(D.take i).length<1000000):=by
  intro i;have h1:=lT (n:=n) (k:=d) (by have:=HN.out;omega) pP;rw [HDM.out,oG,List.length_map,<- hL];omega
 rw [hN] at pK |-;clear hq hsh Dw hN hL CH h7 hU hcx d0 d1 z7 hkn pP;go_wp2_with fail
 go_loopw [35] (fun t wr=>∃ i:Nat,i<=N/\t=.int .i64 (i:Int)/\Hid (aG (·=w3.heap.size) w7 wr)/\Hid (∃ so,wr.heap[w3.heap.size]?=some (.cells #[.int .i64 n,.int .i64 d,so] 31 (0,0))/\aU wr w7.heap.size 53 1 so numC (D.take i))) (fun t _=>N+1-(intOf t).toNat)
 case atStart=>exact ⟨0,by omega,by simp,aG.refl _ _,_,HB7,aU.nil _ _ _ _ _⟩
 case round =>
  obtain ⟨i,hi,rfl,HG,HBB⟩:=hrel;by_cases hlt:i<N
  ·obtain ⟨s,hs⟩:∃ s,L[i]?=some s:=by
    rw [<- HNN.out] at hlt;exact ⟨_,oB hlt⟩
   have hsm:=oE hs;obtain ⟨b7,o7,rfl,hb7,hcell⟩:=HCX (by intro e;rw [e] at hs;simp at hs);have hc7:=hcell i s hs;have xI:b7≠w3.heap.size:=by
    rintro rfl;have:=aO HB7 (o7+i);rw [hc7] at this;exact I6_ this
   have hcs:=HG.cell hc7 xI;have hslt:=HLT s hsm;have e4:=HRB s (by assumption);have hrm:=Jd s hsm;have hr46:=HR46 _ hrm;have hpm:=MF _ hrm;have zB:Hid (∀ W,oX 65 #[.int .u64 ((ea n s:Nat):Int),.int .u64 (s:Int)] W (.bool (dz (ea n s) s))):=fun W=>w3_ _ s hr46 (by have:=HQ.out;omega) W;have HPR:=oA (HP7.grownS HG HB7);have HLK:Hid (∀ W,aA wr W->(Instr.lookup 96 (.map (some b6)) (.int .u64 ((ea n s:Nat):Int)) false).run prog W=.ok (.int .i64 ((b8 n k (ea n s):Nat):Int)) W):=fun W hW=>(HPR.ext hW).run hrm hr46;have HZ:Hid (D.take (i+1)=D.take i++[dc (X.getD (b8 n k (ea n s)) 0) (dz (ea n s) s)]):=by
    unfold Hid;rw [oH,HDM.out,oF,hs];rfl
   obtain ⟨rs,rT⟩:=oZ (ea n s);rw [rT] at e4 hpm zB HLK HZ;obtain ⟨p,hp⟩:=oZ (b8 n k rs);rw [hp] at hpm HLK HZ;obtain ⟨y,hy⟩:∃ y,X[p]?=some y:=⟨_,oB (by rw [HMX.out];exact hpm)⟩;rw [show X.getD p 0=y by rw [oD,hy];rfl] at HZ;obtain ⟨o,ho⟩:=oZ (dz rs s);rw [ho] at zB HZ;obtain ⟨bx,ox,rfl,hbx,hcx⟩:=HC (by intro e;rw [e] at hy;simp at hy);obtain ⟨z9,e9,g9⟩:=hcx p y hy;obtain rfl:z9=.string (aB y):=e9;have hdy:=HDG y (oE hy);have HSG:Hid (∀ W,oX 62 #[.string (aB y),.bool o] W (.string (aB (dc y o)))):=fun W=>O1_ y o W (by have:=(jS hdy).2;omega);obtain ⟨z,hz⟩:=oZ (dc y o);rw [hz] at HSG HZ;have HST:Hid (D.take (i+1)=D.take i++[z]):=HZ;have hLi:=HLL i;have z3:=HG.cell (HE7.cell g9) (by have:=rN.out;omega);have z2:=HG.cell (aO HB17 2) (by have:=rN.out;omega)
   (try simp only [oR,oP,oQ] at z2)
   obtain ⟨so,qb,tS⟩:=HBB.out;obtain ⟨ao,co,rfl,-⟩:=aH.open tS.list;obtain ⟨m,hm⟩:=oZ ((D.take i).length);rw [hm] at qb tS hLi;have HMM:=oA hm;have HBK:=oA qb;have HB:=oA tS;have z1:=aO qb 2;simp only [oR,oP,oQ] at z1;have Gx:Hid ((D.take i).length<1000000):=HLL i;have HSZ:Hid (w7.heap.size<=wr.heap.size):=HG.size;have CI:(p:Int)<(mx:Int):=(by omega);have hd0:=aO HB17 0;have z4:=HG.cell (aO HB17 0) (by have:=rN.out;omega)
   (try simp only [oR,oP,oQ] at z4)
   clear hs hsm hcell hc7 xI hrm hr46 rT hp hy hcx g9 hdy hz qb tS hbx hb7 ho hm hLi hd0 HZ HBB
   go_upto_region 10 with fail
   refine jE (fun w'=>w'.cell? ⟨w3.heap.size,2,none⟩=some (.slice ao m co)/\w'.cell? ⟨w.heap.size,2,none⟩=some (.slice (some ⟨bx,ox,none⟩) mx c)/\w'.cell? ⟨bx,ox+p,none⟩=some (.string (aB y))/\Hid (aA wr w')) 14 (by kernel_rfl) ⟨(aA.drew wr).cell z1,(aA.drew wr).cell z2,(aA.drew wr).cell z3,aA.drew wr⟩ (fun oh=>?_);refine rA [0,1,2,3,4,5] ?_
   iterate 6 ((first|(refine rL (v:=?_) (by rfl) (Or.inl ⟨by rfl,?_⟩) ?_;rotate_left;·((intro w' pO);(try dsimp only at pO);(try go_simp);(try with_reducible rfl)))|(refine rW (v:=?_) (by rfl) (Or.inl ⟨by rfl,?_⟩) ?_;rotate_left;·((intro w');(try go_simp);(try with_reducible rfl))));(try simp only [Act.put,aP,aQ,aR]))
   refine rE ?_;refine tL (v:=.int .i64 (p:Int)) 6 rfl (Or.inl ⟨by rfl,?_⟩) ?_;·(intro w' pO;(try dsimp only at pO);have hlk:=HLK w' (pO.2.2.2.out);go_simp;(try with_reducible rfl))
   (try simp only [Act.put,aP,aQ,aR])
   refine rA [7,8,9,10] ?_
   iterate 4 ((first|(refine rL (v:=?_) (by rfl) (Or.inl ⟨by rfl,?_⟩) ?_;rotate_left;·((intro w' pO);(try dsimp only at pO);(try go_simp);(try with_reducible rfl)))|(refine rW (v:=?_) (by rfl) (Or.inl ⟨by rfl,?_⟩) ?_;rotate_left;·((intro w');(try go_simp);(try with_reducible rfl))));(try simp only [Act.put,aP,aQ,aR]))
   refine rE ?_;refine dh 11 (by kernel_rfl) rfl (fun K hK=>?_);go_simp
   (go_at_call 65;refine (zB _).mono ?_)
   rintro e wz ⟨rfl,ow⟩;go_wp2_with fail;refine hK _ _ ⟨(ow).cell oh.1,(ow).cell oh.2.1,(ow).cell oh.2.2.1,aA.trans oh.2.2.2 (ow)⟩ (fun oh=>?_);clear hK K
   (try simp only [Act.put,aP,aQ,aR])
   refine dh 12 (by kernel_rfl) rfl (fun K hK=>?_);go_simp
   (go_at_call 62;refine (HSG _).mono ?_)
   rintro e wy ⟨rfl,ow⟩;go_wp2_with fail;refine hK _ _ ⟨(ow).cell oh.1,(ow).cell oh.2.1,(ow).cell oh.2.2.1,aA.trans oh.2.2.2 (ow)⟩ (fun oh=>?_);clear hK K
   (try simp only [Act.put,aP,aQ,aR])
   have yX:Hid (aA wr wy):=oh.2.2.2;refine dh 13 (by kernel_rfl) rfl (fun K hK=>?_);go_simp;refine hK _ _ ⟨(aA.alloc _ _).cell oh.1,(aA.alloc _ _).cell oh.2.1,(aA.alloc _ _).cell oh.2.2.1,aA.trans oh.2.2.2 (aA.alloc _ _)⟩ (fun oh=>?_);clear hK K
   (try simp only [Act.put,aP,aQ,aR])
   refine R9_ 14 (by kernel_rfl) (by kernel_rfl) rfl (fun K hK=>?_);refine O2_ wy (by rfl) _ _ 29 (by rfl) w7.heap.size 53 (.string ⟨#[]⟩) 1 16 underlying29 jx (by rfl) (by decide) (.slice ao m co) numC (D.take i) z #[.string (aB z)] 53 (by rfl) (HB.ext (Hid.out (p:=aA wr wy) (by assumption))) (by rfl) (by rfl) (by simp [Value.oneCell']) (fun _ _=>rfl) Gx (by decide) (oJ HSZ (Hid.out (p:=aA wr wy) (by assumption)).size) ?_;intro v' w6 rC sI hb6 Dt _;rw [<- HST.out] at rC;have HB6:=oA rC;have HG6:Hid (aG (·=w3.heap.size) w7 w6):=(HG.ext (Hid.out (p:=aA wr wy) (by assumption))).thenBelow hb6 (oK _);have HK6:=oA ((Below.block hb6 w3.heap.size HBL).trans (aJ HBK (Hid.out (p:=aA wr wy) (by assumption))));obtain ⟨a6,c6,rfl,-⟩:=aH.open rC.list;obtain ⟨m6,CZ⟩:=oZ ((D.take (i+1)).length);rw [CZ] at HB6 |-;clear CZ rC sI hb6;have k6:=aO HK6;have f6:=cD HK6;refine hK _ _ ?_;clear hK K
   (try simp only [Act.put,aP,aQ,aR])
   refine R9_ 15 (by kernel_rfl) (by kernel_rfl) rfl (fun K hK=>?_);go_simp;refine hK _ _ ?_;clear hK K
   (try simp only [Act.put,aP,aQ,aR])
   refine fw 16 (by kernel_rfl) (by kernel_rfl) (by kernel_rfl) rfl (fun K hK=>?_);go_simp;refine hK _ _ ?_;clear hK K
   (try simp only [Act.put,aP,aQ,aR])
   go_wp2_with fail;go_roundw
   case rel=>exact ⟨i+1,by omega,by go_num,HG6.trans (gj (fU _ _ _ _) (fun k hk=>by cases hk;rfl)),_,en HK6 2 _,HB6.boxAt HBL 2 _⟩
   case measure=>simp [intOf];omega
  ·obtain rfl:i=N:=(by omega);obtain ⟨so,qb,tS⟩:=HBB.out;have C3:D.take i=D:=by
    refine List.take_of_length_le ?_;rw [HDM.out,List.length_map,HNN.out];exact oK _
   rw [C3] at tS;obtain ⟨ao,co,rfl,-⟩:=aH.open tS.list;have HF:=oA tS.list;have HE9:Hid (aA w wr):=nN HE7 HG (fun j hj e=>by have:=rN.out;omega);have sh:Hid (wr.heap[w.heap.size+1]?=some (.cells #[.int .i64 0,.int .i64 0,.slice none 0 0] 31 (0,0))):=by
    unfold Hid;rw [<- HS1.out,<- HB27.out];exact HG.block _ (dr HB27) (by have:=rN.out;omega)
   obtain ⟨m,hm⟩:=oZ D.length;rw [hm] at qb HF;have kk:=aO qb;have f9:=cD sh;have k9:=aO sh;clear qb tS HBB C3;go_wp2_with fail;have hb7:=fL sh (.int .i64 n) (.int .i64 d) (.slice ao m co);refine bodyPost_ret (kG (by rfl) _ _ (w.heap.size+1) 31 #[.int .i64 n,.int .i64 d,.slice ao m co] (0,0) _ (.int .i64 0) (by rfl) (by rfl) hb7 underlying31 (by rfl) (by kernel_rfl)) (by rfl) ⟨_,rfl,eY HE9 (by omega) _ _ _,_,rfl,?_⟩;exact K1_ HF sh (X1_ 0 0) (j6 _ _ _ _ _)
end Go.Proofs.YtjlkkofmojgipaaGreatDoor
