import Derived.Test.YtjlkkofmojgipaaGreatDoorVAG
import Derived.Test.YtjlkkofmojgipaaGreatDoorVAF
import Derived.Test.YtjlkkofmojgipaaGreatDoorVAD
import Derived.Test.YtjlkkofmojgipaaGreatDoorVAE
import Derived.Laws.Rows
import Derived.Deep.RegionHeld3
import Derived.Deep.DrawnRows
set_option linter.unusedVariables false
set_option linter.unusedSimpArgs false
set_option maxRecDepth 1000000
set_option maxHeartbeats 4000000
namespace Go.Proofs.YtjlkkofmojgipaaGreatDoor
open Go.RowKit Go.Proofs.Tryz
def bX (r s:og):Nat->Int
 | 0=>0
 | n+1=>bX r s n+r.getD n 0*s.getD n 0
theorem jT (r s:og):∀ n,bX r s n=bX s r n
 | 0=>rfl
 | n+1=>by unfold bX;rw [jT r s n,Int.mul_comm]
theorem E9_ {r s r' s':og}:∀ n,(∀ i,i<n->r.getD i 0=r'.getD i 0/\s.getD i 0=s'.getD i 0)->bX r s n=bX r' s' n
 | 0,_=>rfl
 | n+1,h=>by unfold bX;rw [E9_ n fun i hi=>h i (by omega),(h n (by omega)).1,(h n (by omega)).2]
theorem lp (r:og) (k:Int) {x y:og} (hl:y.length=x.length):∀ n,bX r (aW k x y) n=bX r x n-k*bX r y n
 | 0=>by unfold bX;omega
 | n+1=>by
  unfold bX;rw [lp r k hl n,et k hl,Int.mul_sub,Int.mul_add];have e:r.getD n 0*(k*y.getD n 0)=k*(r.getD n 0*y.getD n 0):=by rw [<- Int.mul_assoc,Int.mul_comm (r.getD n 0) k,Int.mul_assoc]
  rw [e];omega
theorem lq (r:og) (m:Nat):∀ n,bX r (List.replicate m 0) n=0
 | 0=>rfl
 | n+1=>by unfold bX;rw [lq r m n,fo];simp
theorem m3_ (n c i:Nat) (hc:c<n):((List.replicate n (0:Int)).set c 1).getD i 0=if i=c then 1 else 0:=by
 rw [oD,oW];by_cases h:c=i;·subst h;rw [if_pos rfl,if_pos rfl,if_pos (by simpa using hc)];rfl
 ·rw [if_neg h,if_neg (fun e=>h e.symm),<- oD,fo]
theorem J2_ (r:og) (n c:Nat) (hc:c<n):∀ k,bX r ((List.replicate n (0:Int)).set c 1) k=if c<k then r.getD c 0 else 0
 | 0=>by rw [if_neg (by omega)];rfl
 | k+1=>by
  unfold bX;rw [J2_ r n c hc k,m3_ n c k hc];by_cases h:c<k;·rw [if_pos h,if_neg (by omega),if_pos (by omega)];simp
  ·by_cases h2:k=c;·rw [if_neg h,if_pos h2,if_pos (by omega),h2];simp
   ·rw [if_neg h,if_neg h2,if_neg (by omega)];simp
theorem nK (k:Nat) (w:og) (c:Nat):(w.drop k).getD c 0=w.getD (k+c) 0:=by
 rw [oD,oD,oU]
theorem kS {a b:og} {i:Nat} (h:i<a.length):(a++b).getD i 0=a.getD i 0:=by
 rw [oD,oD,oN h]
theorem u6_ {a b:og} {i:Nat} (h:a.length<=i):(a++b).getD i 0=b.getD (i-a.length) 0:=by
 rw [oD,oD,oO h]
theorem fP (n:Nat) (m:oe):(bI n m).length=n:=by unfold bI;simp
theorem lL {n c:Nat} {m:oe} (hc:c<n):aD (bI n m) c=m.map (fun r=>r.getD c 0)++(List.replicate n (0:Int)).set c 1:=by
 apply d_;unfold bI;rw [oF,List.getElem?_range hc];rfl
theorem je (n:Nat) (m:oe):bB (m.length+n) (bI n m):=fun c hc=>by
 rw [fP] at hc;rw [lL hc];simp
theorem R4_ {n c i:Nat} {m:oe} (hc:c<n) (hi:i<m.length):(aD (bI n m) c).getD i 0=(aD m i).getD c 0:=by
 rw [lL hc,kS (by simpa using hi),oD,oF,eE hi];rfl
theorem V6_ {n c j:Nat} {m:oe} (hc:c<n):(aD (bI n m) c).getD (m.length+j) 0=if j=c then 1 else 0:=by
 rw [lL hc,u6_ (by simp),<- m3_ n c j hc];congr 1;simp
def Z3E (n:Nat) (m:oe) (w:og):Prop:=w.length=m.length+n/\∀ i,i<m.length->w.getD i 0=bX (aD m i) (w.drop m.length) n
theorem V2_ (q:Int):∀ (k:Nat) (x y:og),(aW q x y).drop k=aW q (x.drop k) (y.drop k)
 | 0,x,y=>rfl
 | k+1,[],[]=>by simp [aW]
 | k+1,[],_::_=>by simp [aW];cases (List.drop k ‹List Int›) <;> rfl
 | k+1,a::x,[]=>by
  have h:∀ z:og,aW q z []=z:=fun z=>by cases z <;> rfl
  simp only [List.drop_nil,h]
 | k+1,a::x,b::y=>by
  show (aW q x y).drop k=_;rw [V2_ q k x y];rfl
theorem f1_ {n:Nat} {m:oe} {w:og} (h:Sp (m.length+n) (aK 0 (bI n m)) w):Z3E n m w:=by
 have hl:=c8 (d:=0) (je n m)
 induction h with
 | zero =>
  refine ⟨by simp,fun i hi=>?_⟩;rw [fo,List.drop_replicate,lq]
 | mem h =>
  obtain ⟨c,-,hc,rfl⟩:=h;have qp:c<n:=by rw [fP] at hc;exact hc
  refine ⟨je n m c hc,fun i hi=>?_⟩;rw [R4_ qp hi,lL qp,List.drop_left' (by simp),J2_ _ _ _ qp,if_pos qp]
 | less q a b iha ihb =>
  refine ⟨by rw [eU];exact iha.1,fun i hi=>?_⟩;rw [et q (by rw [iha.1,ihb.1]),iha.2 i hi,ihb.2 i hi,V2_,lp _ _ (by rw [List.length_drop,List.length_drop,iha.1,ihb.1])]
theorem Z3k {n:Nat} {m:oe} {w:og} (h:Z3E n m w):Sp (m.length+n) (aK 0 (bI n m)) w:=by
 have hl:=c8 (d:=0) (je n m);have key:∀ j,j<=n->∃ u,Sp (m.length+n) (aK 0 (bI n m)) u/\∀ c,u.getD (m.length+c) 0=if c<j then w.getD (m.length+c) 0 else 0:=by
  intro j
  induction j with
  | zero=>intro _;exact ⟨_,.zero,fun c=>by rw [if_neg (by omega),fo]⟩
  | succ j ih =>
   intro hj;obtain ⟨u,hu,EW⟩:=ih (by omega);have rI:aK 0 (bI n m) (aD (bI n m) j):=bA (Nat.zero_le _) (by rw [fP];omega);refine ⟨_,.less (-(w.getD (m.length+j) 0)) hu (.mem rI),fun c=>?_⟩;rw [et _ (by rw [hu.len hl,hl _ rI]),EW c,V6_ (by omega)];by_cases Ij:c=j;·subst Ij;rw [if_neg (by omega),if_pos rfl,if_pos (by omega)];omega
   ·rw [if_neg Ij];by_cases h2:c<j;·rw [if_pos h2,if_pos (by omega)];simp
    ·rw [if_neg h2,if_neg (by omega)];simp
 obtain ⟨u,hu,EW⟩:=key n (oK _);have hP:=f1_ hu;have hc:∀ c,c<n->u.getD (m.length+c) 0=w.getD (m.length+c) 0:=fun c hc=>by rw [EW c,if_pos hc]
 have:u=w:=by
  refine y2_ (by rw [hP.1,h.1]) fun c=>?_;by_cases h1:c<m.length
  ·rw [hP.2 c h1,h.2 c h1];exact E9_ n fun i hi=>⟨rfl,by rw [nK,nK,hc i hi]⟩
  ·by_cases h2:c<m.length+n
   ·have:=hc (c-m.length) (by omega);rw [show m.length+(c-m.length)=c by omega] at this;exact this
   ·rw [oD,oD,oL (by rw [hP.1];omega),oL (by rw [h.1];omega)]
 rw [<- this];exact hu
def ij (n:Nat) (m:oe) (v:og):Prop:=v.length=n/\∀ i,i<m.length->bX (aD m i) v n=0
theorem Z2V {h:oe} {N:Nat} {ps:Nat->Nat} (hh:bP N h ps) (k:Nat):∃ d,d<=h.length/\(∀ i,i<d->ps i<k)/\∀ i,d<=i->i<h.length->k<=ps i:=by
 have key:∀ l,l<=h.length->∃ d,d<=l/\(∀ i,i<d->ps i<k)/\∀ i,d<=i->i<l->k<=ps i:=by
  intro l
  induction l with
  | zero=>intro _;exact ⟨0,oK _,fun i hi=>by omega,fun i _ hi=>by omega⟩
  | succ l ih =>
   intro hl;obtain ⟨d,h1,h2,h3⟩:=ih (by omega);by_cases hd:d=l
   ·by_cases hp:ps l<k
    ·exact ⟨l+1,oK _,fun i hi=>by
      by_cases hil:i=l;·rw [hil];exact hp
      ·exact h2 i (by omega),fun i _ hi=>by omega⟩
    ·exact ⟨l,by omega,fun i hi=>h2 i (by omega),fun i a b=>by
      have:i=l:=by omega
      rw [this];omega⟩
   ·refine ⟨d,by omega,h2,fun i a b=>?_⟩;by_cases hil:i=l
    ·have h4:=h3 (l-1) (by omega) (by omega);have h5:=hh.2.mono (l-1) l (by omega) (by omega);rw [hil];omega
    ·exact h3 i a (by omega)
 exact key h.length (oK _)
theorem U2_ {α:Type} (p:α->Bool):∀ (l:List α) (d:Nat),(∀ i x,i<d->l[i]?=some x->p x=false)->(∀ i x,d<=i->l[i]?=some x->p x=true)->l.filter p=l.drop d
 | [],d,_,_=>by simp
 | x::l,0,h1,h2=>by
  rw [List.filter_cons_of_pos (h2 0 x (by omega) rfl)];have:=U2_ p l 0 (fun i x hi=>by omega) fun i y _ hy=>h2 (i+1) y (by omega) hy;rw [this];rfl
 | x::l,d+1,h1,h2=>by
  rw [List.filter_cons_of_neg (by rw [h1 0 x (by omega) rfl];simp)];exact U2_ p l d (fun i y hi hy=>h1 (i+1) y (by omega) hy) fun i y hi hy=>h2 (i+1) y (by omega) hy
theorem l5_ {h:oe} {N k d:Nat} {ps:Nat->Nat} (hh:bP N h ps) (h1:∀ i,i<d->ps i<k) (h2:∀ i,d<=i->i<h.length->k<=ps i):dR k h=(h.drop d).map (·.drop k):=by
 unfold dR;congr 1;refine U2_ _ h d (fun i x hi hx=>?_) fun i x hi hx=>?_
 ·have hl:=(oC.1 hx).1;rw [<- d_ hx,D7_ hh hl];have:=h1 i hi;exact oS (by omega)
 ·have hl:=(oC.1 hx).1;rw [<- d_ hx,D7_ hh hl];have:=h2 i hi hl;exact oT (by omega)
theorem gS {h:oe} {k d i:Nat} (hi:d+i<h.length):aD ((h.drop d).map (·.drop k)) i=(aD h (d+i)).drop k:=by
 apply d_;rw [oF,oU,eE hi];rfl
theorem K7_ {h:oe} {n k d:Nat} {ps:Nat->Nat} (hh:bP (k+n) h ps) (hd:d<=h.length) (h1:∀ i,i<d->ps i<k) (h2:∀ i,d<=i->i<h.length->k<=ps i) :
  bP n ((h.drop d).map (·.drop k)) (fun i=>ps (d+i)-k):=by
 have hlen:((h.drop d).map (·.drop k)).length=h.length-d:=by simp
 have hE:∀ i c,d+i<h.length->aC ((h.drop d).map (·.drop k)) i c=aC h (d+i) (k+c):=fun i c hi=>by
  unfold aC;rw [gS hi,nK]
 refine ⟨fun i hi=>?_,?_⟩
 ·rw [hlen] at hi;rw [gS (by omega),List.length_drop,hh.1 _ (by omega)];omega
 ·rw [hlen];refine ⟨fun i hi=>?_,fun i j pY hj=>?_,fun i hi c' hc=>?_,fun i hi=>?_,fun i j pY hj=>?_,fun i a b=>by rw [hlen] at b;omega⟩;·have:=hh.2.lt (d+i) (by omega);have:=h2 (d+i) (by omega) (by omega);show ps (d+i)-k<n;omega
  ·have:=hh.2.mono (d+i) (d+j) (by omega) (by omega);have:=h2 (d+i) (by omega) (by omega);show ps (d+i)-k<ps (d+j)-k;omega
  ·rw [hE i c' (by omega)];have:=h2 (d+i) (by omega) (by omega);exact hh.2.zero (d+i) (by omega) _ (by have:c'<ps (d+i)-k:=hc;omega)
  ·have:=h2 (d+i) (by omega) (by omega);rw [hE i _ (by omega),show k+(ps (d+i)-k)=ps (d+i) by omega];exact hh.2.pos (d+i) (by omega)
  ·have:=h2 (d+j) (by omega) (by omega);rw [hE i _ (by omega),hE j _ (by omega),show k+(ps (d+j)-k)=ps (d+j) by omega];exact hh.2.red (d+i) (d+j) (by omega) (by omega)
theorem Z3j {h:oe} {N k d:Nat} {ps:Nat->Nat} (hh:bP N h ps) (hd:d<=h.length) (h1:∀ i,i<d->ps i<k) {w:og} (hz:∀ c,c<k->w.getD c 0=0):∀ j,j<=d->Sp N (aK (d-j) h) w->Sp N (aK d h) w
 | 0,_,hw=>hw
 | j+1,hj,hw=>by
  obtain ⟨t,e,ht⟩:=hw.first hh (by omega)
  rw [hz _ (h1 _ (by omega))] at e;have hp:=hh.2.pos (d-(j+1)) (by omega);have h0:t=0:=G0_ hp (by omega) (by omega);rw [h0,iy,show d-(j+1)+1=d-j by omega] at ht;exact Z3j hh hd h1 hz j (by omega) ht
theorem n2_ {h:oe} {n k d:Nat} {w:og} (hw:Sp (k+n) (aK d h) w):Sp n (aK 0 ((h.drop d).map (·.drop k))) (w.drop k):=by
 induction hw with
 | zero=>rw [List.drop_replicate,show k+n-k=n by omega];exact .zero
 | mem hm =>
  obtain ⟨i,h1,h2,rfl⟩:=hm;have:=gS (h:=h) (k:=k) (d:=d) (i:=i-d) (by omega);rw [show d+(i-d)=i by omega] at this;rw [<- this];exact .mem (bA (Nat.zero_le _) (by simp;omega))
 | less q a b iha ihb=>rw [V2_];exact .less q iha ihb
theorem Z50 {h m:oe} {n d:Nat} {ps:Nat->Nat} (hh:bP (m.length+n) h ps) (hs:bU (m.length+n) (aK 0 (bI n m)) (aK 0 h)) (hd:d<=h.length) (h1:∀ i,i<d->ps i<m.length) (h2:∀ i,d<=i->i<h.length->m.length<=ps i) (v:og) :
  Sp n (aK 0 ((h.drop d).map (·.drop m.length))) v↔ij n m v:=by
 have hW:=(K7_ hh hd h1 h2).1;constructor
 ·intro hv
  induction hv with
  | zero=>exact ⟨by simp,fun i _=>lq _ _ _⟩
  | mem hm =>
   obtain ⟨i,-,hi,rfl⟩:=hm;have yR:d+i<h.length:=(by simp at hi;omega);refine ⟨hW i hi,fun j hj=>?_⟩;have hP:=f1_ (hs.2 _ (bA (Nat.zero_le (d+i)) yR));rw [gS yR,<- hP.2 j hj];have:=h2 (d+i) (by omega) yR;exact hh.2.zero (d+i) yR j (by omega)
  | less q a b iha ihb =>
   refine ⟨by rw [eU];exact iha.1,fun i hi=>?_⟩;rw [lp _ _ (by rw [iha.1,ihb.1]),iha.2 i hi,ihb.2 i hi];simp
 ·intro hv;have hw:Z3E n m (List.replicate m.length 0++v):=by
   refine ⟨by rw [oV,List.length_replicate,hv.1],fun i hi=>?_⟩;rw [kS (by simpa using hi),fo,List.drop_left' (by simp),hv.2 i hi]
  have h3:=(hs.iff _).1 (Z3k hw);have h4:=Z3j (w:=List.replicate m.length 0++v) hh hd h1 (fun c hc=>by rw [kS (by simpa using hc),fo]) d (oK _) (by rw [Nat.sub_self];exact h3);have h5:=n2_ h4;rw [List.drop_left' (by simp)] at h5;exact h5
theorem Z3B {h m:oe} {n:Nat} {ps:Nat->Nat} (hh:bP (m.length+n) h ps) (hs:bU (m.length+n) (aK 0 (bI n m)) (aK 0 h)):n<=h.length:=by
 refine Classical.byContradiction fun hlt=>?_;have hlt:h.length<n:=by omega
 obtain ⟨R,hR⟩:=oc (h++List.replicate (n-h.length) (List.replicate (m.length+n) (0:Int)));have C5:R.length=n:=by rw [hR];simp;omega
 have xm:∀ i,i<h.length->aD R i=aD h i:=fun i hi=>by
  apply d_;rw [hR,oN hi];exact eE hi
 have hR2:∀ i,h.length<=i->i<n->aD R i=List.replicate (m.length+n) 0:=fun i hi hn=>by
  apply d_;rw [hR,oO hi,List.getElem?_replicate,if_pos (by omega)]
 have hW:bB (m.length+n) R:=fun i hi=>by
  by_cases h1:i<h.length;·rw [xm i h1];exact hh.1 i h1
  ·rw [hR2 i (by omega) (by omega)];simp
 have h0:ak R.length (fun b=>m.length+b) (aD R)=0:=by
  unfold ak;refine iM (r:=h.length) (by omega) fun b _=>?_;show (((aD R h.length).getD (m.length+b) 0:Int):Rat)=0;rw [hR2 _ (oK _) hlt,fo];rfl
 have h1:=lW (Q:=fun x=>x=0) (gO (m.length+n) R.length fun b=>m.length+b) lj hW h0 (aD (bI n m)) fun a ha=>by
  have:=hs.1 _ (bA (Nat.zero_le a) (by rw [fP];omega));refine this.mono fun r hr=>?_;obtain ⟨i,-,hi,rfl⟩:=hr;rw [<- xm i hi];exact .mem (bA (Nat.zero_le _) (by omega))
 have h2:ak R.length (fun b=>m.length+b) (aD (bI n m))=1:=by
  rw [<- L5_ R.length];unfold ak;refine cA fun a b ha hb=>?_;show (((aD (bI n m) a).getD (m.length+b) 0:Int):Rat)=_;rw [V6_ (by omega)];by_cases pZ:a=b;·rw [if_pos pZ.symm,if_pos pZ];rfl
  ·rw [if_neg (fun e=>pZ e.symm),if_neg pZ];rfl
 rw [h2] at h1;exact absurd h1 (by decide)
theorem e9_ {h:oe} {N k d:Nat} {ps:Nat->Nat} (hw:bB N h) (hh:ft h d k ps) (hd:d<=h.length) {w:og} (hz:∀ c,c<k->w.getD c 0=0):∀ j,j<=d->Sp N (aK (d-j) h) w->Sp N (aK d h) w
 | 0,_,h9=>h9
 | j+1,hj,h9=>by
  have he:d-(j+1)<d:=by omega
  obtain ⟨t,ht⟩:=h9.peel hw (by omega)
  have h0:(aW t w (aD h (d-(j+1)))).getD (ps (d-(j+1))) 0=0:=ht.zeroCol (c8 hw) (by
   rintro r ⟨i,h1,h2,rfl⟩;by_cases hid:i<d;·exact hh.zero i hid _ (hh.mono _ i (by omega) hid)
   ·exact hh.rest i (by omega) h2 _ (hh.lt _ he))
  rw [et t (by rw [h9.len (c8 hw),hw _ (by omega)]),hz _ (hh.lt _ he)] at h0;have hne:aC h (d-(j+1)) (ps (d-(j+1)))≠0:=hh.ne _ he;have B5:t=0:=by
   have h1:t*aC h (d-(j+1)) (ps (d-(j+1)))=0:=(by unfold aC;omega);rcases Int.mul_eq_zero.1 h1 with h2 | h2;·exact h2
   ·exact absurd h2 hne
  rw [B5,iy,show d-(j+1)+1=d-j by omega] at ht;exact e9_ hw hh hd hz j (by omega) ht
theorem Z5E {h m:oe} {n d:Nat} {ps:Nat->Nat} (hw:bB (m.length+n) h) (hh:ft h d m.length ps) (hs:bU (m.length+n) (aK 0 (bI n m)) (aK 0 h)) (hd:d<=h.length) (v:og) :
  Sp n (aK 0 ((h.drop d).map (·.drop m.length))) v↔ij n m v:=by
 have hlen:((h.drop d).map (·.drop m.length)).length=h.length-d:=by simp
 constructor
 ·intro hv
  induction hv with
  | zero=>exact ⟨by simp,fun i _=>lq _ _ _⟩
  | mem hm =>
   obtain ⟨i,-,hi,rfl⟩:=hm;have yR:d+i<h.length:=(by rw [hlen] at hi;omega);refine ⟨by rw [gS yR,List.length_drop,hw _ yR];omega,fun j hj=>?_⟩;have hP:=f1_ (hs.2 _ (bA (Nat.zero_le (d+i)) yR));rw [gS yR,<- hP.2 j hj];exact hh.rest (d+i) (by omega) yR j hj
  | less q a b iha ihb =>
   refine ⟨by rw [eU];exact iha.1,fun i hi=>?_⟩;rw [lp _ _ (by rw [iha.1,ihb.1]),iha.2 i hi,ihb.2 i hi];simp
 ·intro hv;have qU:Z3E n m (List.replicate m.length 0++v):=by
   refine ⟨by rw [oV,List.length_replicate,hv.1],fun i hi=>?_⟩;rw [kS (by simpa using hi),fo,List.drop_left' (by simp),hv.2 i hi]
  have h3:=(hs.iff _).1 (Z3k qU);have h4:=e9_ (w:=List.replicate m.length 0++v) hw hh hd (fun c hc=>by rw [kS (by simpa using hc),fo]) d (oK _) (by rw [Nat.sub_self];exact h3);have h5:=n2_ h4;rw [List.drop_left' (by simp)] at h5;exact h5
theorem Z1p {h m:oe} {n:Nat} (hh:bB (m.length+n) h) (hs:bU (m.length+n) (aK 0 (bI n m)) (aK 0 h)):n<=h.length:=by
 refine Classical.byContradiction fun hlt=>?_;have hlt:h.length<n:=by omega
 obtain ⟨R,hR⟩:=oc (h++List.replicate (n-h.length) (List.replicate (m.length+n) (0:Int)));have C5:R.length=n:=by rw [hR];simp;omega
 have xm:∀ i,i<h.length->aD R i=aD h i:=fun i hi=>by
  apply d_;rw [hR,oN hi];exact eE hi
 have hR2:∀ i,h.length<=i->i<n->aD R i=List.replicate (m.length+n) 0:=fun i hi hn=>by
  apply d_;rw [hR,oO hi,List.getElem?_replicate,if_pos (by omega)]
 have hW:bB (m.length+n) R:=fun i hi=>by
  by_cases h1:i<h.length;·rw [xm i h1];exact hh i h1
  ·rw [hR2 i (by omega) (by omega)];simp
 have h0:ak R.length (fun b=>m.length+b) (aD R)=0:=by
  unfold ak;refine iM (r:=h.length) (by omega) fun b _=>?_;show (((aD R h.length).getD (m.length+b) 0:Int):Rat)=0;rw [hR2 _ (oK _) hlt,fo];rfl
 have h1:=lW (Q:=fun x=>x=0) (gO (m.length+n) R.length fun b=>m.length+b) lj hW h0 (aD (bI n m)) fun a ha=>by
  have:=hs.1 _ (bA (Nat.zero_le a) (by rw [fP];omega));refine this.mono fun r hr=>?_;obtain ⟨i,-,hi,rfl⟩:=hr;rw [<- xm i hi];exact .mem (bA (Nat.zero_le _) (by omega))
 have h2:ak R.length (fun b=>m.length+b) (aD (bI n m))=1:=by
  rw [<- L5_ R.length];unfold ak;refine cA fun a b ha hb=>?_;show (((aD (bI n m) a).getD (m.length+b) 0:Int):Rat)=_;rw [V6_ (by omega)];by_cases pZ:a=b;·rw [if_pos pZ.symm,if_pos pZ];rfl
  ·rw [if_neg (fun e=>pZ e.symm),if_neg pZ];rfl
 rw [h2] at h1;exact absurd h1 (by decide)
theorem q7_ (q:Int) (a b:og):∀ K,aW q (List.replicate K 0++a) (List.replicate K 0++b)=List.replicate K 0++aW q a b
 | 0=>rfl
 | K+1=>by
  rw [List.replicate_succ,List.cons_append,List.cons_append,List.cons_append,<- q7_ q a b K];show (0-q*0)::_=_;simp
theorem Z58 {n K:Nat} {S S':og->Prop} (h:∀ v,S v->Sp (K+n) S' (List.replicate K 0++v)) {v:og} (hv:Sp n S v):Sp (K+n) S' (List.replicate K 0++v):=by
 induction hv with
 | zero=>rw [List.replicate_append_replicate];exact .zero
 | mem hm=>exact h _ hm
 | less q a b iha ihb=>rw [<- q7_];exact .less q iha ihb
theorem Z60 {r:og} {K n:Nat} (hl:r.length=K+n) (hz:∀ c,c<K->r.getD c 0=0):List.replicate K 0++r.drop K=r:=by
 refine y2_ (by rw [oV,List.length_replicate,List.length_drop];omega) fun c=>?_;by_cases h:c<K;·rw [kS (by simpa using h),fo,hz c h]
 ·rw [u6_ (by simp;omega),nK,List.length_replicate];congr 1;omega
def dj (n k:Nat) (X:og):oe:=(bO n k).map fun s=>(List.range n).map fun i=>cZ n k X i s
theorem S0_ (n k:Nat) (X:og):bu n k X=bI n (dj n k X):=by
 unfold bu bI gB dj Z4P;refine List.map_congr_left fun i hi=>?_;rw [List.mem_range] at hi;congr 1;rw [List.map_map];refine List.map_congr_left fun s _=>?_;show _=((List.range n).map fun i=>cZ n k X i s).getD i 0;rw [oD,oF,List.getElem?_range hi];rfl
theorem x2_ (n k:Nat) (X:og):(dj n k X).length=(bO n k).length:=by unfold dj;rw [List.length_map]
theorem j3_ {n k e:Nat} {X:og} (hX:∀ x∈X,x.natAbs<=10^e):∀ i,i<(bu n k X).length->bJ (10^e) (aD (bu n k X) i):=by
 intro i hi;have hM:=S0_ n k X;have hcell:∀ r∈dj n k X,∀ x∈r,x.natAbs<=10^e:=by
  intro r hr x hx;unfold dj at hr;obtain ⟨s,-,rfl⟩:=List.mem_map.1 hr;obtain ⟨i,-,rfl⟩:=List.mem_map.1 hx;show (cZ n k X i s).natAbs<=_;unfold cZ
  split
  ·rw [v6_];exact lM.getD (N:=10^e) hX _
  ·simp
 rw [hM] at hi |-;rw [fP] at hi;rw [lL hi];intro x hx;have hp:1<=10^e:=Nat.pow_pos (by decide);rcases List.mem_append.1 hx with h | h
 ·obtain ⟨r,hr,rfl⟩:=List.mem_map.1 h;rw [oD];cases hc:r[i]? with
  | none=>simp
  | some y=>exact hcell r hr y (oE hc)
 ·rcases List.mem_or_eq_of_mem_set h with h | h;·rw [List.eq_of_mem_replicate h];simp
  ·rw [h];simpa using hp
structure Z75 (n k e:Nat) (X:og) (R:oe):Prop where
 le:R.length<=n
 wid:bB n R
 bnd:∀ i,i<R.length->bJ (10^e) (aD R i)
 ann:∀ v,Sp n (aK 0 R) v↔ij n (dj n k X) v
 free:∀ T:oe,bB n T->bU n (aK 0 R) (aK 0 T)->R.length<=T.length
theorem Z5F {n k e F:Nat} {X:og} (hX:∀ x∈X,x.natAbs<=10^e) (hF:10^eN e (bO n k).length<F) (hE:eN e ((bO n k).length+1)+1<=400000000):∃ R,fX F n k X=some R/\Z75 n k (eN e (bO n k).length) X R:=by
 have hM:=S0_ n k X;have hl:=x2_ n k X;obtain ⟨K,hK⟩:=oZ ((bO n k).length);obtain ⟨M,qT⟩:=oZ (dj n k X);rw [qT] at hM hl;have hw:bB (K+n) (bu n k X):=by rw [hM,<- hK,<- hl];exact je n M
 have hb:∀ i,i<(bu n k X).length->bJ (10^e) (aD (bu n k X) i):=j3_ hX;rw [hK] at hF hE |-;obtain ⟨m',d,ps,e1,k1⟩:=V1_ (N:=K+n) (F:=F) hw hb K hE hF;have hsp:=k1.sp;rw [hM] at hsp;have D2:m'.length=n:=by rw [k1.len,hM,fP]
 have Lf:K=M.length:=by rw [hl,hK]
 subst Lf;refine ⟨(m'.drop d).map (·.drop M.length),by unfold fX;rw [hK,e1],?_⟩;have hlen:((m'.drop d).map (·.drop M.length)).length=m'.length-d:=by simp
 refine ⟨by rw [hlen];omega,fun i hi=>?_,fun i hi=>?_,fun v=>?_,fun T hT IG=>?_⟩
 ·rw [hlen] at hi;rw [gS (by omega),List.length_drop,k1.wid _ (by omega)];omega
 ·rw [hlen] at hi;rw [gS (by omega)];intro x hx;exact k1.bnd (d+i) (by omega) x (List.mem_of_mem_drop hx)
 ·rw [qT];exact Z5E k1.wid k1.ech hsp k1.le v
 ·refine Classical.byContradiction fun hlt=>?_;have hlt2:T.length<m'.length-d:=by rw [hlen] at hlt;omega
  obtain ⟨h,hh⟩:=oc (m'.take d++T.map (List.replicate M.length (0:Int)++·));have hhl:h.length=d+T.length:=by rw [hh,oV,oG,List.length_map];have:=k1.le;omega
  have qN:∀ i,i<d->aD h i=aD m' i:=fun i hi=>by
   apply d_;rw [hh,oN (by rw [oG];have:=k1.le;omega),List.getElem?_take,if_pos hi];exact eE (by have:=k1.le;omega)
  have pX:∀ i,i<T.length->aD h (d+i)=List.replicate M.length 0++aD T i:=fun i hi=>by
   apply d_;have tb:(m'.take d).length=d:=by rw [oG];have:=k1.le;omega
   rw [hh,oO (by rw [tb];omega),tb,show d+i-d=i by omega,oF,eE hi];rfl
  have LP:bB (M.length+n) h:=fun i hi=>by
   by_cases h1:i<d;·rw [qN i h1];exact k1.wid i (by have:=k1.le;omega)
   ·have:=pX (i-d) (by omega);rw [show d+(i-d)=i by omega] at this;rw [this,oV,List.length_replicate,hT _ (by omega)]
  have CJ:∀ i,d<=i->i<m'.length->List.replicate M.length 0++(aD m' i).drop M.length=aD m' i:=fun i h1 h2=>Z60 (k1.wid i h2) fun c hc=>k1.ech.rest i h1 h2 c hc;have hsm:bU (M.length+n) (aK 0 m') (aK 0 h):=by
   constructor
   ·rintro r ⟨i,-,h2,rfl⟩;by_cases h1:i<d;·rw [<- qN i h1];exact .mem (bA (Nat.zero_le _) (by omega))
    ·rw [<- CJ i (by omega) h2];have rI:aK 0 ((m'.drop d).map (·.drop M.length)) ((aD m' i).drop M.length):=by
      have:=gS (h:=m') (k:=M.length) (d:=d) (i:=i-d) (by omega);rw [show d+(i-d)=i by omega] at this;rw [<- this];exact bA (Nat.zero_le _) (by rw [hlen];omega)
     refine Z58 (S:=aK 0 T) ?_ (IG.1 _ rI);rintro v ⟨j,-,hj,rfl⟩;rw [<- pX j hj];exact .mem (bA (Nat.zero_le _) (by omega))
   ·rintro r ⟨i,-,h2,rfl⟩;by_cases h1:i<d;·rw [qN i h1];exact .mem (bA (Nat.zero_le _) (by have:=k1.le;omega))
    ·have h3:=pX (i-d) (by omega);rw [show d+(i-d)=i by omega] at h3;rw [h3];refine Z58 (S:=aK 0 ((m'.drop d).map (·.drop M.length))) ?_ (IG.2 _ (bA (Nat.zero_le _) (by omega)));rintro v ⟨j,-,hj,rfl⟩;rw [hlen] at hj;rw [gS (by omega),CJ (d+j) (by omega) (by omega)];exact .mem (bA (Nat.zero_le _) (by omega))
  have:=Z1p LP (hsp.trans hsm);omega
theorem a2_ {n k:Nat} (hn:n<7) (hk:k<=n):(aS n k).map az=be n k:=by
 have h:=u3_ n hn k (by omega);unfold Z1u at h;simp only [Bool.and_eq_true,decide_eq_true_eq] at h;exact h.1
theorem H4_ {n k s:Nat} (hn:n<7) (hk:k<=n) (h:s∈aS n k):b8 n k s=Z54 (be n k) (az s)/\b8 n k s<(aS n k).length:=by
 have h2:=u3_ n hn k (by omega);unfold Z1u at h2;simp only [Bool.and_eq_true,decide_eq_true_eq,List.all_eq_true] at h2;have h3:=h2.2 s h;have h4:=Z1v n (by omega) k (by omega);exact ⟨h3.1,by omega⟩
def Z6s (n k:Nat):Bool:=(aS n (n-k)).all fun s=>decide (ea n s∈aS n k) && decide ((List.range n).filter (fun i=>!(az s).contains i)=az (ea n s))
theorem Z4D:∀ n,n<7->∀ k,k<n+1->Z6s n k=true:=by decide +kernel
theorem Z4E {n k s:Nat} (hn:n<7) (hk:k<=n) (hs:s∈aS n (n-k)):ea n s∈aS n k/\(List.range n).filter (fun i=>!(az s).contains i)=az (ea n s):=by
 have h:=Z4D n hn k (by omega);unfold Z6s at h;have h2:=List.all_eq_true.1 h s hs;simp only [Bool.and_eq_true,decide_eq_true_eq] at h2;exact h2
theorem Z2d {n:Nat} (hn:n<7):aS n 0=[0]:=by
 have h:∀ m,m<7->aS m 0=[0]:=by decide +kernel
 exact h n hn
theorem e8_ {r s:og} {p:Nat}:∀ n,p<n->(∀ c,c<n->c≠p->r.getD c 0*s.getD c 0=0)->bX r s n=r.getD p 0*s.getD p 0
 | 0,h,_=>by omega
 | n+1,h,hz=>by
  have hall:∀ m,m<=n->(∀ c,c<m->r.getD c 0*s.getD c 0=0)->bX r s m=0:=by
   intro m
   induction m with
   | zero=>intro _ _;rfl
   | succ m ih=>intro h1 h2;rw [bX,ih (by omega) fun c hc=>h2 c (by omega),h2 m (by omega)];rfl
  rw [bX];by_cases e:p=n
  ·subst e;rw [hall p (oK _) fun c hc=>hz c (by omega) (by omega)];omega
  ·rw [e8_ n (by omega) fun c h1 h2=>hz c (by omega) h2,hz n (by omega) (fun h=>e h.symm)];omega
def Z69 (J p:Nat):Bool:=J.testBit p || (decide ((J ||| (1 <<< p)) ^^^ (1 <<< p)=J) && (J ||| (1 <<< p)).testBit p && (List.range 6).all fun c=>decide (c=p) || (((J ||| (1 <<< p)).testBit c == J.testBit c) && (decide (c<=p) || !J.testBit c || decide ((J ||| (1 <<< p)) ^^^ (1 <<< c)<J))))
theorem Z1B:(List.range 64).all (fun J=>(List.range 6).all (Z69 J))=true:=by decide +kernel
theorem Z3K {J p:Nat} (hJ:J<64) (hp:p<6) (h:J.testBit p=false):(J ||| (1 <<< p)) ^^^ (1 <<< p)=J/\(J ||| (1 <<< p)).testBit p=true/\∀ c,c<6->c≠p->(J ||| (1 <<< p)).testBit c=J.testBit c/\(p<c->J.testBit c=true->(J ||| (1 <<< p)) ^^^ (1 <<< c)<J):=by
 have h1:=List.all_eq_true.1 (List.all_eq_true.1 Z1B J (List.mem_range.2 hJ)) p (List.mem_range.2 hp);unfold Z69 at h1;rw [h,Bool.false_or,Bool.and_eq_true,Bool.and_eq_true,decide_eq_true_eq] at h1;refine ⟨h1.1.1,h1.1.2,fun c hc Ad=>?_⟩;have h2:=List.all_eq_true.1 h1.2 c (List.mem_range.2 hc);rw [oS Ad,Bool.false_or,Bool.and_eq_true,beq_iff_eq,Bool.or_eq_true,Bool.or_eq_true,decide_eq_true_eq,decide_eq_true_eq] at h2;refine ⟨h2.1,fun h3 h4=>?_⟩;rcases h2.2 with (h5 | h5) | h5;·omega
 ·rw [h4] at h5;cases h5
 ·exact h5
def Z6R (n k:Nat):Bool:=(aS n (k+1)).all fun s=>(List.range n).all fun c=>!s.testBit c || decide ((s ^^^ (1 <<< c))∈aS n k)
theorem Z2u:∀ n,n<7->∀ k,k<n->Z6R n k=true:=by decide +kernel
theorem L9_ {n k s c:Nat} (hn:n<7) (hk:k<n) (hs:s∈aS n (k+1)) (hc:c<n) (h:s.testBit c=true):(s ^^^ (1 <<< c))∈aS n k:=by
 have h1:=List.all_eq_true.1 (List.all_eq_true.1 (Z2u n hn k hk) s hs) c (List.mem_range.2 hc);rw [h,Bool.not_true,Bool.false_or,decide_eq_true_eq] at h1;exact h1
def Z6S (n k:Nat):Bool:=(aS n k).all fun s=>(List.range n).all fun i=>s.testBit i || decide ((s ||| (1 <<< i))∈aS n (k+1))
theorem Z2O:∀ n,n<7->∀ k,k<n->Z6S n k=true:=by decide +kernel
theorem c6_ {n k s i:Nat} (hn:n<7) (hk:k<n) (hs:s∈aS n k) (hi:i<n) (hb:s.testBit i=false):(s ||| (1 <<< i))∈aS n (k+1):=by
 have h:=List.all_eq_true.1 (List.all_eq_true.1 (Z2O n hn k hk) s hs) i (List.mem_range.2 hi);rw [hb,Bool.false_or,decide_eq_true_eq] at h;exact h
theorem Z41:∀ n,n<7->∀ s∈aS n n,∀ c,c<n->s.testBit c=true:=by decide +kernel
theorem c2_:∀ n,n<7->∀ k,k<n+1->∀ s∈aS n k,s<64:=by decide +kernel
def ek (n k:Nat) (Y:og) (t:Nat):Int:=Y.getD (b8 n k t) 0
theorem a3_ {x:Int} {o:Bool}:dc x o=0↔x=0:=by cases o <;> simp [dc]
theorem Z2W {n k:Nat} (hn:n<7) (hk:k<=n) {l:oe} {ps:Nat->Nat} {Y:og} (hlt:∀ i,i<k->ps i<n) (hz:∀ i,i<k->∀ c,c<ps i->aC l i c=0) (hne:∀ i,i<k->aC l i (ps i)≠0)
  (hP:∀ J∈aS n k,(∀ i,i<k->J.testBit (ps i)=true)->ek n k Y J=0) (hm:∀ i,i<k->∀ r∈dj n k Y,bX r (aD l i) n=0):∀ (b J:Nat),J<b->J∈aS n k->ek n k Y J=0
 | 0,J,h,_=>by omega
 | b+1,J,hJ,ED=>by
  by_cases hall:∀ i,i<k->J.testBit (ps i)=true;·exact hP J ED hall
  ·obtain ⟨i,hi⟩:=Classical.not_forall.1 hall;obtain ⟨hik,hb⟩:=Classical.not_imp.1 hi;have hb:J.testBit (ps i)=false:=(by simpa using hb);have hp:=hlt i hik;have hkn:k<n:=by
    refine Classical.byContradiction fun hkn=>?_;obtain rfl:k=n:=by omega
    rw [Z41 k hn J ED (ps i) hp] at hb;cases hb
   have h64:=c2_ n hn k (by omega) J ED;obtain ⟨b1,b2,b3⟩:=Z3K h64 (show ps i<6 by omega) hb;have hs:(J ||| (1 <<< ps i))∈aS n (k+1):=c6_ hn hkn ED hp hb;obtain ⟨s,KP⟩:=oZ (J ||| (1 <<< ps i));rw [KP] at hs b1 b2 b3;have FA:(List.range n).map (fun c=>cZ n k Y c s)∈dj n k Y:=by
    unfold dj bO;rw [if_neg (by omega)];exact List.mem_map.2 ⟨s,hs,rfl⟩
   have hrow:∀ c,c<n->((List.range n).map (fun c=>cZ n k Y c s)).getD c 0=cZ n k Y c s:=fun c hc=>by
    rw [oD,oF,List.getElem?_range hc];rfl
   have h0:=hm i hik _ FA;rw [e8_ n hp ?z] at h0
   case z =>
    intro c hc Ad;rw [hrow c hc];obtain ⟨b4,b5⟩:=b3 c (by omega) Ad;by_cases zP:s.testBit c=true
    ·by_cases hcl:c<ps i
     ·have:(aD l i).getD c 0=0:=hz i hik c hcl;rw [this];simp
     ·have h9:=Z2W hn hk hlt hz hne hP hm b (s ^^^ (1 <<< c)) (by have:=b5 (by omega) (by rw [<- b4];exact zP);omega) (L9_ hn hkn hs hc zP);rw [j3 zP];unfold ek at h9;rw [a3_.2 h9];simp
    ·rw [ku (by simpa using zP)];simp
   rw [hrow _ hp,j3 b2,b1] at h0;rcases Int.mul_eq_zero.1 h0 with h | h;·exact a3_.1 h
   ·exact absurd h (hne i hik)
theorem K4_ {f:Nat->Rat} {S:Nat->Nat}:∀ (n m:Nat),(∀ j,j<m->S j<n)->(∀ i j,i<j->j<m->S i<S j)->(∀ c,c<n->(∀ j,j<m->S j≠c)->f c=0)->aI n f=aI m fun j=>f (S j)
 | 0,0,_,_,_=>rfl
 | 0,m+1,h,_,_=>by have:=h 0 (by omega);omega
 | n+1,0,_,_,hz=>by
  show aI n f+f n=0;rw [hz n (by omega) (fun j hj=>by omega),K4_ (S:=S) n 0 (fun j hj=>by omega) (fun i j _ hj=>by omega) (fun c hc h=>hz c (by omega) h)];show (0:Rat)+0=0;grind
 | n+1,m+1,hl,hi,hz=>by
  by_cases e:S m=n
  ·show aI n f+f n=aI m _+f (S m)
   rw [e,K4_ (S:=S) n m (fun j hj=>by have:=hi j m hj (by omega);omega) (fun i j h1 h2=>hi i j h1 (by omega)) (fun c hc h=>hz c (by omega) fun j hj=>by
    by_cases ej:j=m;·subst ej;omega
    ·exact h j (by omega))]
  ·have hm:=hl m (by omega);have hlt:∀ j,j<m+1->S j<n:=fun j hj=>by
    by_cases ej:j=m;·subst ej;omega
    ·have:=hi j m (by omega) (by omega);omega
   show aI n f+f n=_;rw [hz n (by omega) (fun j hj=>by have:=hlt j hj;omega),K4_ (S:=S) n (m+1) hlt hi (fun c hc h=>hz c (by omega) h)];grind
def Z7j (n k:Nat):Bool:=(aS n (k+1)).all fun s=>decide ((az s).length=k+1) && ((List.range (k+1)).all fun j=>decide ((az s).getD j 0<n) && s.testBit ((az s).getD j 0) && ((List.range j).all fun i=>decide ((az s).getD i 0<(az s).getD j 0)) && (dz (1 <<< (az s).getD j 0) (s ^^^ (1 <<< (az s).getD j 0)) == decide (j%2=1)) && (List.range k).all fun a=>decide ((az (s ^^^ (1 <<< (az s).getD j 0))).getD a 0=(az s).getD (sk j a) 0))
 && (List.range n).all fun c=>!s.testBit c || (List.range (k+1)).any fun j=>decide ((az s).getD j 0=c)
theorem Z4g:∀ n,n<7->∀ k,k<n->Z7j n k=true:=by decide +kernel
structure Z7d (n k s:Nat):Prop where
 lt:∀ j,j<k+1->(az s).getD j 0<n
 bit:∀ j,j<k+1->s.testBit ((az s).getD j 0)=true
 inc:∀ i j,i<j->j<k+1->(az s).getD i 0<(az s).getD j 0
 odd:∀ j,j<k+1->dz (1 <<< (az s).getD j 0) (s ^^^ (1 <<< (az s).getD j 0))=decide (j%2=1)
 rest:∀ j,j<k+1->∀ a,a<k->(az (s ^^^ (1 <<< (az s).getD j 0))).getD a 0=(az s).getD (sk j a) 0
 has:∀ c,c<n->s.testBit c=true->∃ j,j<k+1/\(az s).getD j 0=c
theorem Z2G {n k s:Nat} (hn:n<7) (hk:k<n) (hs:s∈aS n (k+1)):Z7d n k s:=by
 have h:=List.all_eq_true.1 (Z4g n hn k hk) s hs;rw [Bool.and_eq_true,Bool.and_eq_true] at h;have h2:∀ j,j<k+1->_:=fun j hj=>List.all_eq_true.1 h.1.2 j (List.mem_range.2 hj);refine ⟨fun j hj=>?_,fun j hj=>?_,fun i j pY hj=>?_,fun j hj=>?_,fun j hj a ha=>?_,fun c hc hb=>?_⟩;·have:=h2 j hj;simp only [Bool.and_eq_true,decide_eq_true_eq] at this;exact this.1.1.1.1
 ·have:=h2 j hj;simp only [Bool.and_eq_true,decide_eq_true_eq] at this;exact this.1.1.1.2
 ·have:=h2 j hj;simp only [Bool.and_eq_true] at this;exact of_decide_eq_true (List.all_eq_true.1 this.1.1.2 i (List.mem_range.2 pY))
 ·have:=h2 j hj;simp only [Bool.and_eq_true,beq_iff_eq] at this;exact this.1.2
 ·have:=h2 j hj;simp only [Bool.and_eq_true] at this;exact of_decide_eq_true (List.all_eq_true.1 this.2 a (List.mem_range.2 ha))
 ·have:=List.all_eq_true.1 h.2 c (List.mem_range.2 hc);rw [hb,Bool.not_true,Bool.false_or,List.any_eq_true] at this;obtain ⟨j,hj,he⟩:=this;exact ⟨j,List.mem_range.1 hj,of_decide_eq_true he⟩
def qQ (l:oe) (k J:Nat):Rat:=ak k (fun b=>(az J).getD b 0) (aD l)
theorem p2_ {n k s i:Nat} (l:oe) (hn:n<7) (hk:k<n) (hs:s∈aS n (k+1)) (hi:i<k) :
  aI n (fun c=>if s.testBit c=true then ((aC l i c:Int):Rat)*((if dz (1 <<< c) (s ^^^ (1 <<< c))=true then -1 else 1)*qQ l k (s ^^^ (1 <<< c))) else 0)=0:=by
 have hM:=Z2G hn hk hs;obtain ⟨S,hS⟩:∃ S:Nat->Nat,S=fun j=>(az s).getD j 0:=⟨_,rfl⟩
 rw [K4_ (S:=S) n (k+1) (fun j hj=>by rw [hS];exact hM.lt j hj) (fun a b h1 h2=>by rw [hS];exact hM.inc a b h1 h2) (fun c hc h=>if_neg fun hb=>by
  obtain ⟨j,hj,he⟩:=hM.has c hc hb
  exact h j hj (by rw [hS];exact he))]
 have h0:aL (k+1) (fun a b=>if b=0 then ((aC l i (S a):Int):Rat) else ((aC l (b-1) (S a):Int):Rat))=0 :=
  nD (i:=0) (j:=i+1) (by omega) (by omega) (by omega) fun b _=>by rw [if_pos rfl,if_neg (by omega)];rfl
 have e:aL (k+1) (fun a b=>if b=0 then ((aC l i (S a):Int):Rat) else ((aC l (b-1) (S a):Int):Rat))=aI (k+1) fun j=>dG j*((aC l i (S j):Int):Rat)*aL k fun a b=>((aC l b (S (sk j a)):Int):Rat):=by
  show aI (k+1) _=_;rfl
 rw [e] at h0;rw [<- h0];refine cG fun j hj=>?_;have hb:s.testBit (S j)=true:=by rw [hS];exact hM.bit j hj
 have ho:dz (1 <<< S j) (s ^^^ (1 <<< S j))=decide (j%2=1):=by rw [hS];exact hM.odd j hj
 rw [if_pos hb,ho];have hq:qQ l k (s ^^^ (1 <<< S j))=aL k fun a b=>((aC l b (S (sk j a)):Int):Rat):=by
  unfold qQ ak;rw [<- dw k (bS _ _)];refine cA fun a b ha hb=>?_;unfold bS aC;have:=hM.rest j hj a ha;rw [hS];show (((aD l b).getD ((az (s ^^^ 1 <<< (az s).getD j 0)).getD a 0) 0:Int):Rat)=(((aD l b).getD ((az s).getD (sk j a) 0) 0:Int):Rat);rw [this]
 rw [hq];unfold dG;by_cases h2:j%2=0;·rw [if_pos h2,if_neg (by simp;omega)];grind
 ·rw [if_neg h2,if_pos (by simp;omega)];grind
theorem n6_ {f:Nat->Rat}:∀ {n:Nat},(∀ i,i<n->∃ z:Int,f i=(z:Rat))->∃ z:Int,aI n f=(z:Rat)
 | 0,_=>⟨0,rfl⟩
 | n+1,h=>by
  obtain ⟨z,hz⟩:=n6_ (n:=n) fun i hi=>h i (by omega);obtain ⟨y,hy⟩:=h n (by omega);exact ⟨z+y,by rw [Rat.intCast_add,<- hz,<- hy];rfl⟩
theorem r2_:∀ (k:Nat) (m:Nat->Nat->Int),∃ z:Int,aL k (fun a b=>(m a b:Rat))=(z:Rat)
 | 0,_=>⟨1,rfl⟩
 | k+1,m=>n6_ fun i _=>by
  obtain ⟨z,hz⟩:=r2_ k fun a b=>m (sk i a) (b+1);refine ⟨(if i%2=0 then 1 else -1)*m i 0*z,?_⟩;show dG i*(m i 0:Rat)*_=_;rw [hz,Rat.intCast_mul,Rat.intCast_mul];unfold dG
  split <;> rfl
def qZ (l:oe) (k J:Nat):Int:=(qQ l k J).num
theorem ja (l:oe) (k J:Nat):((qZ l k J:Int):Rat)=qQ l k J:=by
 obtain ⟨z,hz⟩:=r2_ k fun a b=>(aD l a).getD ((az J).getD b 0) 0;have:qQ l k J=(z:Rat):=hz;unfold qZ;rw [this];rfl
def Z6W (n k:Nat):Bool:=(List.range (aS n k).length).all fun i=>decide (b8 n k ((aS n k).getD i 0)=i)
theorem o2_:∀ n,n<7->∀ k,k<n+1->Z6W n k=true:=by decide +kernel
theorem H5_ {n k J:Nat} (hn:n<7) (hk:k<=n) (hJ:J∈aS n k) (f:Nat->Int):((aS n k).map f).getD (b8 n k J) 0=f J:=by
 obtain ⟨i,hi⟩:=List.getElem?_of_mem hJ;have hil:=(oC.1 hi).1;have h:=of_decide_eq_true (List.all_eq_true.1 (o2_ n hn k (by omega)) i (List.mem_range.2 hil));rw [oD,hi] at h;have h:b8 n k J=i:=h;rw [h,oD,oF,hi];rfl
def Z7o (n k:Nat):Bool:=(aS n k).all fun J=>(aS n k).all fun P=>decide (J=P) || (List.range n).any fun c=>P.testBit c && !J.testBit c
theorem Z4I:∀ n,n<7->∀ k,k<n+1->Z7o n k=true:=by decide +kernel
theorem Z6y {n k J P:Nat} (hn:n<7) (hk:k<=n) (hJ:J∈aS n k) (hP:P∈aS n k) (h:∀ c,c<n->P.testBit c=true->J.testBit c=true):J=P:=by
 have h1:=List.all_eq_true.1 (List.all_eq_true.1 (Z4I n hn k (by omega)) J hJ) P hP;rw [Bool.or_eq_true,decide_eq_true_eq,List.any_eq_true] at h1;rcases h1 with h1 | ⟨c,hc,h2⟩
 ·exact h1
 ·rw [Bool.and_eq_true] at h2;rw [h c (List.mem_range.1 hc) h2.1] at h2;exact absurd h2.2 (by decide)
def cJ (ps:Nat->Nat):Nat->Nat
 | 0=>0
 | j+1=>cJ ps j ||| (1 <<< ps j)
theorem nd {ps:Nat->Nat} {c:Nat}:∀ j,(cJ ps j).testBit c=true↔∃ i,i<j/\ps i=c
 | 0=>by unfold cJ;simp
 | j+1=>by
  unfold cJ;rw [Nat.testBit_or,Bool.or_eq_true,nd j,Nat.one_shiftLeft,Nat.testBit_two_pow];constructor
  ·rintro (⟨i,h1,h2⟩ | h);·exact ⟨i,by omega,h2⟩
   ·exact ⟨j,by omega,by simpa using h⟩
  ·rintro ⟨i,h1,h2⟩;by_cases e:i=j;·subst e;right;simpa using h2
   ·left;exact ⟨i,by omega,h2⟩
theorem kv {n k:Nat} {ps:Nat->Nat} (hn:n<7) (hk:k<=n) (hlt:∀ i,i<k->ps i<n) (su:∀ i j,i<j->j<k->ps i<ps j):∀ j,j<=k->cJ ps j∈aS n j
 | 0,_=>by rw [Z2d hn];exact List.mem_singleton.2 rfl
 | j+1,hj=>by
  refine c6_ hn (by omega) (kv hn hk hlt su j (by omega)) (hlt j (by omega)) ?_;rw [Bool.eq_false_iff];intro e;obtain ⟨i,h1,h2⟩:=(nd j).1 e;have:=su i j h1 (by omega);omega
theorem e7_ {r r1 r2 s:og} {a b:Int}:∀ n,(∀ c,c<n->r.getD c 0=a*r1.getD c 0-b*r2.getD c 0)->bX r s n=a*bX r1 s n-b*bX r2 s n
 | 0,_=>by simp [bX]
 | n+1,h=>by
  rw [bX,bX,bX,e7_ n (fun c hc=>h c (by omega)),h n (by omega)];grind
theorem z6_ {r s:og}:∀ n,((bX r s n:Int):Rat)=aI n fun c=>((s.getD c 0:Int):Rat)*((r.getD c 0:Int):Rat)
 | 0=>rfl
 | n+1=>by
  rw [bX,Rat.intCast_add,z6_ n,Rat.intCast_mul,Rat.mul_comm];rfl
theorem h0_ {n k:Nat} (hn:n<7) (hk:k<=n) {l:oe} {ps:Nat->Nat} {X:og} (hlt:∀ i,i<k->ps i<n) (su:∀ i j,i<j->j<k->ps i<ps j) (hz:∀ i,i<k->∀ c,c<ps i->aC l i c=0) (hne:∀ i,i<k->aC l i (ps i)≠0)
  (hA:∀ i,i<k->∀ r∈dj n k X,bX r (aD l i) n=0):∀ J∈aS n k,ek n k X (cJ ps k)*qZ l k J=qZ l k (cJ ps k)*ek n k X J:=by
 obtain ⟨P,F6⟩:=oZ (cJ ps k);have LY:P∈aS n k:=by rw [<- F6];exact kv hn hk hlt su k (oK _)
 obtain ⟨a,ha⟩:=oZ (ek n k X P);obtain ⟨b,hb⟩:=oZ (qZ l k P);obtain ⟨Y,hY⟩:∃ Y,Y=(aS n k).map fun J=>a*qZ l k J-b*ek n k X J:=⟨_,rfl⟩;have Ft:∀ J∈aS n k,ek n k Y J=a*qZ l k J-b*ek n k X J:=fun J hJ=>by
  unfold ek;rw [hY];exact H5_ hn hk hJ _
 rw [F6,ha,hb]
 have hall:=Z2W hn hk (l:=l) (ps:=ps) (Y:=Y) hlt hz hne (fun J hJ h=>by
  have:J=P:=Z6y hn hk hJ LY fun c hc pR=>by
   rw [<- F6] at pR;obtain ⟨i,h1,h2⟩:=(nd k).1 pR;rw [<- h2];exact h i h1
  rw [Ft J hJ,this,ha,hb,Int.mul_comm];omega) (fun i hi r hr=>by
  unfold dj at hr;obtain ⟨s,hs,rfl⟩:=List.mem_map.1 hr;have hkn:k<n:=by
   unfold bO at hs;by_cases e:k=n;·rw [if_pos e] at hs;cases hs
   ·omega
  have sE:s∈aS n (k+1):=by unfold bO at hs;rw [if_neg (by omega)] at hs;exact hs
  obtain ⟨Q,hQ⟩:∃ Q,Q=(aS n k).map fun J=>qZ l k J:=⟨_,rfl⟩;have I6:∀ J∈aS n k,Q.getD (b8 n k J) 0=qZ l k J:=fun J hJ=>by rw [hQ];exact H5_ hn hk hJ _
  have hg:∀ (Z:og) c,c<n->((List.range n).map fun i=>cZ n k Z i s).getD c 0=cZ n k Z c s:=fun Z c hc=>by
   rw [oD,oF,List.getElem?_range hc];rfl
  rw [e7_ (r1:=(List.range n).map fun i=>cZ n k Q i s) (r2:=(List.range n).map fun i=>cZ n k X i s) (a:=a) (b:=b) n fun c hc=>by
   rw [hg Y c hc,hg Q c hc,hg X c hc];by_cases pR:s.testBit c=true
   ·rw [j3 pR,j3 pR,j3 pR];have hm:=L9_ hn hkn sE hc pR;have h1:Y.getD (b8 n k (s ^^^ (1 <<< c))) 0=_:=Ft _ hm;rw [h1,I6 _ hm];unfold ek dc
    split <;> grind
   ·have pR:s.testBit c=false:=by simpa using pR
    rw [ku pR,ku pR,ku pR];simp]
  have hx:bX ((List.range n).map fun i=>cZ n k X i s) (aD l i) n=0:=hA i hi _ (by unfold dj;exact List.mem_map.2 ⟨s,hs,rfl⟩);have hq:bX ((List.range n).map fun i=>cZ n k Q i s) (aD l i) n=0:=by
   have h9:=p2_ l hn hkn sE hi;have h8:((bX ((List.range n).map fun i=>cZ n k Q i s) (aD l i) n:Int):Rat)=0:=by
    rw [z6_,<- h9];refine cG fun c hc=>?_;rw [hg Q c hc];by_cases pR:s.testBit c=true
    ·rw [if_pos pR,j3 pR,I6 _ (L9_ hn hkn sE hc pR),<- ja];unfold dc aC
     split
     ·rw [Rat.intCast_neg];grind
     ·grind
    ·have xj:s.testBit c=false:=(by simpa using pR);rw [if_neg pR,ku xj];show _*(0:Rat)=0;grind
   exact Rat.intCast_eq_zero_iff.1 h8
  rw [hx,hq];simp)
 intro J hJ;have h9:=hall 64 J (c2_ n hn k (by omega) J hJ) hJ;rw [Ft J hJ] at h9;omega
theorem Z0q (u v:Nat) (w:World) (hu:(aE u).size<=3000000000) (hv:(aE v).size<=3000000000) (ht:ae w) :
  oX 182 #[.string (aE u),.string (aE v)] w (.string (aE (Nat.gcd u v))):=by
 have HT:=oA ht;have HU:=oA hu;have HV:=oA hv;clear ht hu hv
 go_enter func182,ntmps182
 go_wp2_with fail
 go_loopw [0,1] (fun a b wr=>∃ x y:Nat,a=.string (aE x)/\b=.string (aE y)/\Hid (Nat.gcd x y=Nat.gcd u v)/\Hid ((aE x).size<=3000000000)/\Hid ((aE y).size<=3000000000)/\Hid (aA w wr)) (fun _ b _=>match b with | .string s=>aj 0 s.data.toList | _=>0)
 case atStart=>exact ⟨u,v,rfl,rfl,rfl,HU,HV,aA.refl _⟩
 case round =>
  obtain ⟨x,y,rfl,rfl,HG,HX,HY,HE⟩:=hrel;obtain ⟨wo,rfl⟩:∃ wo:World,wo=wr:=⟨_,rfl⟩;have hz:=mG y;by_cases hy:y=0
  ·rw [oT hy] at hz;have HF:Hid (x=Nat.gcd u v):=(by unfold Hid;rw [<- HG.out,hy,Nat.gcd_zero_right]);clear hy;go_wp2_with fail;go_ret;exact ⟨by rw [<- HF.out];rfl,HE⟩
  ·rw [oS hy] at hz;have HD:=oA (T0_ x y wo HX HY hy (HT.ext HE));have HG2:Hid (Nat.gcd y (x%y)=Nat.gcd u v):=by
    unfold Hid;rw [<- HG.out,Nat.gcd_comm y (x%y),<- Nat.gcd_rec,Nat.gcd_comm]
   have Lz:Hid ((aE (x%y)).size<=3000000000):=oJ (iV (Nat.le_of_lt (Nat.mod_lt _ (by omega)))) HY;have HLT:Hid (x%y<y):=Nat.mod_lt _ (by omega);have qL:Hid (∀ n,aj 0 (aE n).data.toList=n):=fun n=>by rw [fM,fy]
   clear hy;go_wp2_with fail;refine p_ HD (aA.trans HE) ?_;intro w1 HE1;clear HD;go_wp2_with fail;go_roundw
   case rel=>exact ⟨y,x%y,rfl,rfl,HG2,HY,Lz,HE1⟩
   case measure=>simp only [qL.out];exact HLT
theorem Z5u (u v:Nat) (w:World) (hu:u<1000000000000000000) (hv:v<1000000000000000000) :
  oX 181 #[.int .i64 u,.int .i64 v] w (.int .i64 (Nat.gcd u v:Nat)):=by
 go_enter func181,ntmps181
 go_wp2_with fail
 go_loopw [0,1] (fun a b wr=>∃ x y:Nat,a=.int .i64 x/\b=.int .i64 y/\x<1000000000000000000/\y<1000000000000000000/\Hid (Nat.gcd x y=Nat.gcd u v)/\Hid (aA w wr)) (fun _ b _=>(intOf b).toNat)
 case atStart=>exact ⟨u,v,rfl,rfl,hu,hv,rfl,aA.refl _⟩
 case round =>
  obtain ⟨x,y,rfl,rfl,hx,hy,HG,HE⟩:=hrel;obtain ⟨wo,rfl⟩:∃ wo:World,wo=wr:=⟨_,rfl⟩;by_cases ph:y=0
  ·have HF:Hid (x=Nat.gcd u v):=(by unfold Hid;rw [<- HG.out,ph,Nat.gcd_zero_right]);subst ph;go_wp2_with fail;go_ret;exact ⟨by rw [<- HF.out];rfl,HE⟩
  ·have HG2:Hid (Nat.gcd y (x%y)=Nat.gcd u v):=by
    unfold Hid;rw [<- HG.out,Nat.gcd_comm y (x%y),<- Nat.gcd_rec,Nat.gcd_comm]
   obtain ⟨r,hr⟩:=oc (x%y);rw [<- hr] at HG2;have KQ:r<y:=(by rw [hr];exact Nat.mod_lt _ (by omega));have xM:(x:Int)%(y:Int)=(r:Int):=(by rw [hr];exact (Int.natCast_emod _ _).symm);have E4:(x:Int).tmod (y:Int)=(r:Int):=(by rw [Int.tmod_eq_emod_of_nonneg (by omega),xM]);have J5:((y:Int) == 0)=false:=(by rw [beq_eq_false_iff_ne];omega);have EL:((y:Int) != 0)=true:=(by simp;omega);have J4:¬ (y:Int)=0:=(by omega);clear hr;go_wp2_with fail
   go_quiet (fail)
   go_wp2_with fail;go_roundw
   case rel=>exact ⟨y,r,rfl,rfl,hy,by omega,HG2,aA.draws HE _⟩
   case measure=>simp [intOf];omega
theorem d1_ (x y:Int) (w:World) (hx:(aB x).size<=2800000000) (hy:(aB y).size<=2800000000) (ht:ae w) :
  oX 134 #[.string (aB x),.string (aB y)] w (.string (aE (Nat.gcd x.natAbs y.natAbs))):=by
 have HT:=oA ht;clear ht;have hax:=dm x;have hay:=dm y;have eb:∀ n:Nat,aB (n:Int)=aE n:=fun n=>by rw [c_ _ (by omega)];rfl
 have hA1:=Z1t x w;have hA2:=fun W=>Z1t y W;rw [eb] at hA1;simp only [eb] at hA2;have HA1:=oA hA1;have yZ:Hid (∀ W,oX 152 #[.string (aB y)] W (.string (aE y.natAbs))):=hA2;obtain ⟨u,hu⟩:=oc x.natAbs;obtain ⟨v,hv⟩:=oc y.natAbs;rw [<- hu] at HA1 hax |-;rw [<- hv] at yZ hay |-;clear hA1 hA2 hu hv;by_cases hs:(aE u).size<=18/\(aE v).size<=18
 ·have hu1:=iW hs.1;have hv1:=iW hs.2;have h1:∀ W,Calls prog 119 #[.string (aB (u:Int)),.int .i64 18] W fun e w'=>e=.returned (.tuple #[.int .i64 (u:Int),.bool true])/\aA W w':=fun W=>fI (u:Int) 18 W (by omega) (by omega) (by rw [eb];exact hs.1) (by omega);have h2:∀ W,Calls prog 119 #[.string (aB (v:Int)),.int .i64 18] W fun e w'=>e=.returned (.tuple #[.int .i64 (v:Int),.bool true])/\aA W w':=fun W=>fI (v:Int) 18 W (by omega) (by omega) (by rw [eb];exact hs.2) (by omega);rw [eb] at h1 h2;have H1:=oA h1;have H2:=oA h2;have HG:=oA (fun W=>Z5u u v W hu1 hv1);have hg:Nat.gcd u v<=u+v:=by
   by_cases h0:u=0;·rw [h0,Nat.gcd_zero_left];omega
   ·have:=Nat.gcd_le_left v (Nat.pos_of_ne_zero h0);omega
  obtain ⟨gg,sM⟩:=oc (Nat.gcd u v);rw [<- sM] at HG hg |-;have hO:∀ W,aA w W->Calls prog 64 #[.int .i64 (gg:Int)] W fun e w'=>e=.returned (.string (aB (gg:Int)))/\aA W w':=fun W hE=>j_ (gg:Int) W (by omega) (by omega) (HT.ext hE);rw [eb] at hO;have HO:=oA hO;clear h1 h2 hO hs sM eb
  go_enter func134,ntmps134
  go_wp2_with fail;refine o_ HA1 ?_;intro w1 HE1;clear HA1;go_wp2_with fail;refine p_ (yZ _) (aA.trans HE1) ?_;intro w2 HE2;clear yZ;go_wp2_with fail;refine p_ (H1 _) (aA.trans HE2) ?_;intro w3 HE3;clear H1;go_wp2_with fail;refine p_ (H2 _) (aA.trans HE3) ?_;intro w4 HE4;clear H2;go_wp2_with fail;refine p_ (HG _) (aA.trans HE4) ?_;intro w5 HE5;clear HG;go_wp2_with fail;refine p_ (HO _ HE5) (aA.trans HE5) ?_;intro w6 HE6;clear HO;go_wp2_with fail;go_ret;exact ⟨rfl,HE6⟩
 ·have HG:Hid (∀ W,aA w W->oX 182 #[.string (aE u),.string (aE v)] W (.string (aE (Nat.gcd u v)))):=fun W hE=>Z0q u v W (by omega) (by omega) (HT.ext hE);have pt:((aE u).size<=18/\18<(aE v).size)\/18<(aE u).size:=by omega
  have HY:Hid ((aE u).size<=18->∀ W,oX 119 #[.string (aE u),.int .i64 18] W (.tuple #[.int .i64 (u:Int),.bool true])):=by
   intro h W;have hb:=iW h;have:=fI (u:Int) 18 W (by omega) (by omega) (by rw [eb];exact h) (by omega);rw [eb] at this;exact this
  have Ji:Hid (∀ n:Nat,18<(aE n).size->∀ W,oY 119 #[.string (aE n),.int .i64 18] W (.tuple #[.int .i64 0,.bool false])):=by
   intro n h W;have:=fH (n:Int) 18 W (by rw [eb];exact h);rw [eb] at this;exact this
  clear hs eb;rcases pt with ⟨hs1,hs2⟩ | hs1
  case' inl =>
   have H1:=oA (HY hs1);have H2:=oA (Ji v hs2);clear hs1 hs2
   go_enter func134,ntmps134
   go_wp2_with fail;refine o_ HA1 ?_;intro w1 HE1;clear HA1;go_wp2_with fail;refine p_ (yZ _) (aA.trans HE1) ?_;intro w2 HE2;clear yZ;go_wp2_with fail;refine p_ (H1 _) (aA.trans HE2) ?_;intro w3 HE3;clear H1;go_wp2_with fail;refine q_ (H2 _) ?_;clear H2
  case' inr =>
   have H1:=oA (Ji u hs1);clear hs1
   go_enter func134,ntmps134
   go_wp2_with fail;refine o_ HA1 ?_;intro w1 HE1;clear HA1;go_wp2_with fail;refine p_ (yZ _) (aA.trans HE1) ?_;intro w2 HE3;clear yZ;go_wp2_with fail;refine q_ (H1 _) ?_;clear H1
  all_goals
   go_wp2_with fail;refine p_ (HG _ HE3) (aA.trans HE3) ?_;intro w5 HE5;clear HG;go_wp2_with fail;go_ret;exact ⟨rfl,HE5⟩
def bR (q:Rat):Value:=.agg #[.string (aB q.num),.string (aE q.den)]
def RS (k:Nat) (q:Rat):Prop:=(aB q.num).size<=k/\(aE q.den).size<=k
theorem RS.mono {k m:Nat} {q:Rat} (h:RS k q) (hk:k<=m):RS m q:=⟨oJ h.1 hk,oJ h.2 hk⟩
theorem eb (n:Nat):aB (n:Int)=aE n:=by rw [c_ _ (by omega)];rfl
theorem X0_ (n:Int) (d:Nat) (hd:d≠0):(mkRat n d).num=n / (n.natAbs.gcd d:Nat)/\(mkRat n d).den=d / n.natAbs.gcd d:=by
 rw [<- Rat.normalize_eq_mkRat hd,Rat.normalize_eq hd];exact ⟨rfl,rfl⟩
theorem E8_ (n:Int) (d:Nat):Rat.divInt n (d:Int)=mkRat n d:=rfl
theorem E7_ (n:Int) (d:Nat) (hd:d≠0):Rat.divInt n (-(d:Int))=mkRat (-n) d:=by
 obtain ⟨m,rfl⟩:∃ m,d=m+1:=⟨d-1,by omega⟩;rw [<- Rat.normalize_eq_mkRat hd];rfl
theorem Z23 (x y:Int) (hy:0<y):aN x y=x / y:=by
 have h1:=lx x y;have h2:=jv x y hy;have h3:=Int.mul_ediv_add_emod x y;have h4:=Int.emod_nonneg x (show y≠0 by omega);have h5:=Int.emod_lt_of_pos x hy;generalize aN x y=q at *
 generalize aq x y=r at *
 generalize x / y=q' at *
 generalize x%y=r' at *
 have h6:y*(q-q')=r'-r:=by rw [Int.mul_sub];omega
 rcases Int.lt_trichotomy q q' with h | h | h
 ·have:y*(q-q')<=y*(-1):=Int.mul_le_mul_of_nonneg_left (by omega) (by omega);omega
 ·exact h
 ·have:y*1<=y*(q-q'):=Int.mul_le_mul_of_nonneg_left (by omega) (by omega);omega
theorem i6_ (u:Nat):((aE u).toList == [49])=decide (u=1):=by
 rw [jA,show ([49]:List UInt8)=Lib.decDigits 1 by rw [Lib.decDigits_one (by omega)];rfl,T2_]
theorem U4_ (q:Rat) (w:World) :
  oX 160 #[bR q] w (.int .i64 q.num.sign):=by
 have HS:=oA (fun W=>lH q.num W);unfold bR
 go_enter func160,ntmps160
 go_wp2_with fail;refine q_ (HS _) ?_;go_wp2_with fail;go_ret;exact ⟨rfl,aA.alloc _ _⟩
theorem dU (w:World) (x y:Value) (T:TypeId):∃ W,(w.alloc (.cells #[x,y] T))=W/\aA w W/\W.heap.size=w.heap.size+1/\W.heap[w.heap.size]?=some (.cells #[x,y] T (0,0)) :=
 ⟨_,rfl,aA.alloc _ _,by simp,fC _ _ _⟩
theorem dS {w:World} {B:Nat} {x y:Value} {T:TypeId} (h:w.heap[B]?=some (.cells #[x,y] T (0,0))):w.cell? ⟨B,0,none⟩=some x/\w.cell? ⟨B,1,none⟩=some y/\(∀ i,w.frozen? ⟨B,i,none⟩=false) :=
 ⟨aO h 0,aO h 1,cD h⟩
theorem kT {w:World} {B:Nat} {x y a b:Value} {T:TypeId} (h:w.heap[B]?=some (.cells #[x,y] T (0,0))):((w.setCell ⟨B,0,none⟩ a).setCell ⟨B,1,none⟩ b).heap[B]?=some (.cells #[a,b] T (0,0)):=by
 have h1:=en h 0 a;have h2:=en h1 1 b;simpa using h2
theorem B6_ (q:Rat) (w:World) (h:RS 28000 q) :
  oX 162 #[bR q] w (bR (-q)):=by
 have HN:Hid (∀ W,oX 29 #[.string (aB q.num)] W (.string (aB (-q).num))):=fun W=>by
  have:=j8 q.num W (by have:=h.1;omega);rw [Rat.neg_num];exact this
 have hd:(-q).den=q.den:=rfl;unfold bR;rw [hd];obtain ⟨n,hn⟩:=oc (aB q.num);obtain ⟨d,yT⟩:=oc (aE q.den);obtain ⟨m,hm⟩:=oc (aB (-q).num);rw [<- hn,<- hm] at HN;rw [<- hn,<- yT,<- hm];clear hn yT hm hd h;obtain ⟨W1,qm,hE1,hs1,hb1⟩:=dU w (.string n) (.string d) 152;obtain ⟨W2,tl,hE2,hs2,hb2⟩:=dU W1 (.string ⟨#[]⟩) (.string ⟨#[]⟩) 152;have hb1':=aJ hb1 hE2;obtain ⟨c0,c1,-⟩:=dS hb1';obtain ⟨r0,r1,rf⟩:=dS hb2;have HB2:=oA hb2;have HE:=oA (hE1.trans hE2);have HS1:=oA hs1;have HC:Hid (∀ W,aA W2.drew W->W.cell? ⟨w.heap.size,0,none⟩=some (.string n)/\W.cell? ⟨w.heap.size,1,none⟩=some (.string d)/\W.cell? ⟨W1.heap.size,0,none⟩=some (.string ⟨#[]⟩)/\W.cell? ⟨W1.heap.size,1,none⟩=some (.string ⟨#[]⟩)/\(∀ i,W.frozen? ⟨W1.heap.size,i,none⟩=false)):=fun W hW =>
  ⟨hW.cell (by simpa using c0),hW.cell (by simpa using c1),hW.cell (by simpa using r0),hW.cell (by simpa using r1),(dS (aJ (w:=W2.drew) hb2 hW)).2.2⟩
 clear hE1 hE2 hb1 hb2 hb1' hs1 hs2
 go_enter func162,ntmps162
 go_wp2_with fail
 go_region_with (go_at_call 29;refine (HN _).mono ?_;rintro e w5 ⟨rfl,o5⟩;obtain ⟨d0,d1,t0,t1,tf⟩:=HC _ o5;have tf0:=tf 0;have tf1:=tf 1;have HE5:=oA o5;clear o5 tf)
 all_goals
  have hb5:=kT (a:=.string m) (b:=.string d) (aJ (w:=W2.drew) HB2 HE5);go_wp2_with fail;refine bodyPost_ret (results_cell_row (by rfl) _ _ W1.heap.size 152 #[.string m,.string d] (0,0) _ (by rfl) hb5 underlying152 (by rfl) (by kernel_rfl)) (by rfl) ⟨rfl,?_⟩;exact Below.setCell (Below.setCell ((HE.trans (aA.drew _)).trans HE5) (p:=⟨W1.heap.size,0,none⟩) (by have:=HS1.out;show w.heap.size<=W1.heap.size;omega) _) (p:=⟨W1.heap.size,1,none⟩) (by have:=HS1.out;show w.heap.size<=W1.heap.size;omega) _
theorem Z1W (N:Int) (g:Nat):(aB (N / (g:Int))).size<=(aB N).size:=by
 by_cases h:N<0
 ·have h1:=er (N / (g:Int));have h2:=jW N h;have h3:(N / (g:Int)).natAbs<=N.natAbs:=Int.natAbs_ediv_le_natAbs N (g:Int);have:=iV h3;omega
 ·have h0:0<=N / (g:Int):=Int.ediv_nonneg (by omega) (by omega);rw [c_ _ h0,c_ N (by omega)];refine iV ?_;have h3:(N / (g:Int)).natAbs<=N.natAbs:=Int.natAbs_ediv_le_natAbs N (g:Int);omega
theorem Q8_ (n d:Int) (w:World) (hd:d≠0) (hn:(aB n).size<=27000) (NB:(aB d).size<=27000) (ht:ae w) :
  oX 200 #[.string (aB n),.string (aB d)] w (bR (Rat.divInt n d)):=by
 have HT:=oA ht;clear ht;obtain ⟨W1,qm,hE1,hs1,hb1⟩:=dU w (.string ⟨#[]⟩) (.string ⟨#[]⟩) 152;obtain ⟨r0,r1,rf⟩:=dS hb1;have HB1:=oA hb1;have HE:=oA hE1;have HC:Hid (∀ W,aA W1 W->W.cell? ⟨w.heap.size,0,none⟩=some (.string ⟨#[]⟩)/\W.cell? ⟨w.heap.size,1,none⟩=some (.string ⟨#[]⟩)/\(∀ i,W.frozen? ⟨w.heap.size,i,none⟩=false)):=fun W hW =>
  ⟨hW.cell r0,hW.cell r1,(dS (aJ hb1 hW)).2.2⟩
 have HSG:=oA (lH d W1);obtain ⟨N,D,hN,hD,Ll,Mo,Mq,hq⟩:∃ (N:Int) (D:Nat),(if d<0 then N=-n else N=n)/\(if d<0 then d=-(D:Int) else d=(D:Int))/\D≠0/\(aB N).size<=27001/\(aE D).size<=27001/\Rat.divInt n d=mkRat N D:=by
  have h1:=er (-n);have h2:=dm n;have h3:=dm d;rw [Int.natAbs_neg] at h1;by_cases h:d<0
  ·refine ⟨-n,d.natAbs,by rw [if_pos h],by rw [if_pos h];omega,by omega,by omega,by omega,?_⟩;rw [<- E7_ n d.natAbs (by omega)];congr 1;omega
  ·refine ⟨n,d.natAbs,by rw [if_neg h],by rw [if_neg h];omega,by omega,by omega,by omega,?_⟩;rw [<- E8_ n d.natAbs];congr 1;omega
 obtain ⟨hp1,hp2⟩:=X0_ N D Ll;rw [hq];unfold bR;rw [hp1,hp2];obtain ⟨g,hg⟩:=oc (N.natAbs.gcd D);rw [<- hg];have Ic:0<g:=by rw [hg];exact Nat.gcd_pos_of_pos_right _ (by omega)
 have Ig:g<=D:=by rw [hg];exact Nat.gcd_le_right _ (by omega)
 have hgs:=iV Ig;have GH:∀ W,aA w W->Calls prog 134 #[.string (aB N),.string (aB (D:Int))] W fun e w'=>e=.returned (.string (aE g))/\aA W w':=fun W hW=>by
  have:=d1_ N (D:Int) W (by omega) (by rw [eb];omega) (HT.ext hW);rw [show (D:Int).natAbs=D from rfl,<- hg] at this;exact this
 have GP:∀ W,aA w W->Calls prog 94 #[.string (aB N),.string (aB (g:Int))] W fun e w'=>e=.returned (.tuple #[.string (aB (aN N (g:Int))),.string (aB (aq N (g:Int))),.int .i64 0])/\aA W w':=fun W hW=>Y8_ N (g:Int) W (by omega) (by rw [eb];omega) (by omega) (HT.ext hW);have GO:∀ W,aA w W->Calls prog 94 #[.string (aB (D:Int)),.string (aB (g:Int))] W fun e w'=>e=.returned (.tuple #[.string (aB (aN (D:Int) (g:Int))),.string (aB (aq (D:Int) (g:Int))),.int .i64 0])/\aA W w':=fun W hW=>Y8_ (D:Int) (g:Int) W (by rw [eb];omega) (by rw [eb];omega) (by omega) (HT.ext hW);have Ck:(0:Int)<(g:Int):=by omega
 have JO:aN (D:Int) (g:Int)=((D / g:Nat):Int):=by rw [Z23 _ _ Ck];exact (Int.natCast_ediv _ _).symm
 rw [Z23 N _ Ck,eb] at GP;rw [JO,eb,eb,eb] at GO;rw [eb] at GH;have HGC:=oA GH;have HD1:=oA GP;have HD2:=oA GO;have HG1:Hid (g=1->N / (g:Int)=N/\D / g=D):=fun h=>by rw [h];exact ⟨Int.ediv_one N,Nat.div_one D⟩
 have hz:=i6_ g;obtain ⟨FN,Aq⟩:=oc (N / (g:Int));obtain ⟨FD,Ar⟩:=oc (D / g);rw [<- Aq] at HD1 HG1 |-;rw [<- Ar] at HD2 HG1 |-;clear hg Ic Ig hgs GH GP GO Ck JO hp1 hp2 hq r0 r1 rf hb1 hE1 hs1 Aq Ar;have HX:Hid (w.heap.size<=w.heap.size):=oK _;by_cases hneg:d<0
 case' pos =>
  rw [if_pos hneg] at hN hD;have hsg:d.sign<0:=by rw [Int.sign_eq_neg_one_of_neg hneg];omega
  have HN1:Hid (∀ W,oX 29 #[.string (aB n)] W (.string (aB N))):=fun W=>by rw [hN];exact j8 n W (by omega)
  have rD:Hid (∀ W,oX 29 #[.string (aB d)] W (.string (aE D))):=fun W=>by
   have:=j8 d W (by omega);rw [show -d=(D:Int) by omega,eb] at this;exact this
  obtain ⟨sg,tE⟩:=oc d.sign;rw [<- tE] at HSG hsg;clear hN hD hneg tE
  go_enter func200,ntmps200
  go_wp2_with fail;refine q_ HSG ?_;clear HSG;go_wp2_with fail;refine o_ (HN1 _) ?_;intro w2 HE2;clear HN1;go_wp2_with fail;refine p_ (rD _) (aA.trans HE2) ?_;intro w3 HE3;clear rD
 case' neg =>
  rw [if_neg hneg] at hN hD;have hsg:¬ d.sign<0:=by rw [Int.sign_eq_one_of_pos (by omega)];omega
  obtain ⟨sg,tE⟩:=oc d.sign;rw [<- tE] at HSG hsg;rw [hD,eb] at HSG |-;rw [<- hN];clear hN hD hneg tE
  go_enter func200,ntmps200
  go_wp2_with fail;refine q_ HSG ?_;clear HSG;have HE3:=oA (aA.refl W1)
 all_goals
  by_cases hg1:g=1
  ·rw [oT hg1] at hz;have HQ:=oA (HG1 hg1);clear hg1;go_wp2_with fail;refine (HGC _ (HE.trans HE3)).mono ?_;rintro e w4 ⟨rfl,hE4⟩;have HE4:=oA (aA.trans HE3 hE4);obtain ⟨t0,t1,tf⟩:=HC _ HE4;have tf0:=tf 0;have tf1:=tf 1;have hb5:=kT (a:=.string (aB N)) (b:=.string (aE D)) (aJ HB1 HE4);clear hE4 tf HGC;go_wp2_with fail;refine bodyPost_ret (results_cell_row (by rfl) _ _ w.heap.size 152 #[.string (aB N),.string (aE D)] (0,0) _ (by rfl) hb5 underlying152 (by rfl) (by kernel_rfl)) (by rfl) ⟨by rw [HQ.out.1,HQ.out.2],?_⟩;exact Below.setCell (Below.setCell (HE.trans HE4) (p:=⟨w.heap.size,0,none⟩) (oK _) _) (p:=⟨w.heap.size,1,none⟩) (oK _) _
  ·rw [oS hg1] at hz;clear hg1;go_wp2_with fail;refine p_ (HGC _ (HE.trans HE3)) (aA.trans HE3) ?_;intro w4 HE4;clear HGC;go_wp2_with fail;refine p_ (HD1 _ (HE.trans HE4)) (aA.trans HE4) ?_;intro w5 HE5;clear HD1;go_wp2_with fail;refine (HD2 _ (HE.trans HE5)).mono ?_;rintro e w6 ⟨rfl,ou⟩;have HE6:=oA (aA.trans HE5 ou);obtain ⟨t0,t1,tf⟩:=HC _ HE6;have tf0:=tf 0;have tf1:=tf 1;have hb5:=kT (a:=.string (aB FN)) (b:=.string (aE FD)) (aJ HB1 HE6);clear ou tf HD2;go_wp2_with fail;refine bodyPost_ret (results_cell_row (by rfl) _ _ w.heap.size 152 #[.string (aB FN),.string (aE FD)] (0,0) _ (by rfl) hb5 underlying152 (by rfl) (by kernel_rfl)) (by rfl) ⟨rfl,?_⟩;exact Below.setCell (Below.setCell (HE.trans HE6) (p:=⟨w.heap.size,0,none⟩) (oK _) _) (p:=⟨w.heap.size,1,none⟩) (oK _) _
theorem jV {n:Int} (h:(aB n).size<=9):-1000000000<n/\n<1000000000:=by
 have h1:=dm n;have h3:=Lib.lt_pow_nDigits n.natAbs;rw [dn] at h1;have h4:10^Lib.nDigits n.natAbs<=10^9:=Nat.pow_le_pow_right (by omega) (by omega);rw [show (10:Nat)^9=1000000000 by decide] at h4;omega
theorem J4_ (n:Int) (w:World) (hs:(aB n).size<=9) :
  oX 217 #[.string (aB n)] w (.tuple #[.int .i64 n,.bool true]):=by
 have hb:=jV hs;have sE:¬ (9:Int)<((aB n).size:Int):=by omega
 have HA:=oA (f6_ n w (by omega) (by omega) (by omega))
 go_enter func217,ntmps217
 go_wp2_with fail;refine o_ HA ?_;intro w1 HE1;clear HA;go_wp2_with fail
 go_quiet (fail)
 go_wp2_with fail;go_ret2;exact ⟨rfl,aA.draws HE1 _⟩
theorem D5_ (n:Int) (w:World) (hs:9<(aB n).size) :
  oX 217 #[.string (aB n)] w (.tuple #[.int .i64 0,.bool false]):=by
 have sE:(9:Int)<((aB n).size:Int):=by omega
 go_enter func217,ntmps217
 go_wp2_with fail;go_ret2;exact ⟨rfl,aA.refl _⟩
theorem T5_ (q:Rat) (w:World) :
  Calls prog 198 #[bR q] w fun e w'=>∃ a b,e=.returned (.tuple #[.int .i64 a,.int .i64 b,.bool (decide ((aB q.num).size<=9) && decide ((aE q.den).size<=9))])/\Hid ((aB q.num).size<=9/\(aE q.den).size<=9->a=q.num/\b=q.den)/\aA w w':=by
 have xo:∀ W,∃ a,Calls prog 217 #[.string (aB q.num)] W fun e w'=>e=.returned (.tuple #[.int .i64 a,.bool (decide ((aB q.num).size<=9))])/\(aA W w'/\((aB q.num).size<=9->a=q.num)):=by
  intro W;by_cases h:(aB q.num).size<=9
  ·refine ⟨q.num,(J4_ q.num W h).mono fun e w' ⟨h1,h2⟩=>⟨?_,h2,fun _=>rfl⟩⟩;rw [h1,oT h]
  ·refine ⟨0,(D5_ q.num W (by omega)).mono fun e w' ⟨h1,h2⟩=>⟨?_,h2,fun h'=>absurd h' h⟩⟩;rw [h1,oS h]
 have yV:∀ W,∃ a,Calls prog 217 #[.string (aE q.den)] W fun e w'=>e=.returned (.tuple #[.int .i64 a,.bool (decide ((aE q.den).size<=9))])/\(aA W w'/\((aE q.den).size<=9->a=q.den)):=by
  intro W;rw [<- eb];by_cases h:(aB (q.den:Int)).size<=9
  ·refine ⟨q.den,(J4_ q.den W h).mono fun e w' ⟨h1,h2⟩=>⟨?_,h2,fun _=>rfl⟩⟩;rw [h1,oT h]
  ·refine ⟨0,(D5_ q.den W (by omega)).mono fun e w' ⟨h1,h2⟩=>⟨?_,h2,fun h'=>absurd h' h⟩⟩;rw [h1,oS h]
 unfold bR;obtain ⟨n,hn⟩:=oc (aB q.num);obtain ⟨d,yT⟩:=oc (aE q.den);rw [<- hn] at xo;rw [<- yT] at yV;rw [<- hn,<- yT];obtain ⟨b1,hb1⟩:=oc (decide (n.size<=9));obtain ⟨b2,hb2⟩:=oc (decide (d.size<=9));rw [<- hb1] at xo |-;rw [<- hb2] at yV |-;have HL1:=oA xo;have HL2:=oA yV;clear hn yT xo yV hb1 hb2;obtain ⟨W1,qm,hE1,hs1,hbb⟩:=dU w (.string n) (.string d) 152;obtain ⟨c0,c1,-⟩:=dS hbb;have HE1:=oA hE1;have HC:Hid (∀ W,aA W1 W->W.cell? ⟨w.heap.size,0,none⟩=some (.string n)/\W.cell? ⟨w.heap.size,1,none⟩=some (.string d)):=fun W hW=>⟨hW.cell c0,hW.cell c1⟩
 clear hE1 hs1 hbb
 go_enter func198,ntmps198
 go_wp2_with fail;obtain ⟨a,hA⟩:=HL1 W1;refine hA.mono ?_;rintro e w2 ⟨rfl,hx⟩;have HX2:=oA hx;obtain ⟨d0,d1⟩:=HC _ hx.1;clear hA hx c0 c1;go_wp2_with fail;obtain ⟨b,hB⟩:=HL2 w2;refine hB.mono ?_;rintro e w3 ⟨rfl,hx⟩;have HX3:=oA hx;clear hB hx d0 d1;cases b1 <;> cases b2
 all_goals
  go_wp2_with fail;go_ret3;exact ⟨a,b,rfl,fun h=>⟨HX2.2 h.1,HX3.2 h.2⟩,(HE1.trans HX2.1).trans HX3.1⟩
theorem I7_ (a b:Int):Nat.gcd b.natAbs (a.tmod b).natAbs=Nat.gcd a.natAbs b.natAbs:=by
 rw [Int.natAbs_tmod,Nat.gcd_comm b.natAbs,<- Nat.gcd_rec,Nat.gcd_comm]
theorem Z4N (n:Int) (g:Nat) (h:(g:Int) ∣ n):n.tdiv (g:Int)=n / (g:Int):=by
 obtain ⟨k,rfl⟩:=h;by_cases hg:g=0;·subst hg;simp
 ·rw [Int.mul_tdiv_cancel_left _ (by omega),Int.mul_ediv_cancel_left _ (by omega)]
theorem Z25 (n:Int) (d:Nat) (w:World) (qB:-4000000000000000000<=n) (qV:n<=4000000000000000000) (hd0:0<d) (hd:d<=4000000000000000000) (ht:ae w) :
  oX 199 #[.int .i64 n,.int .i64 d] w (bR (mkRat n d)):=by
 have HT:=oA ht;clear ht;obtain ⟨hp1,hp2⟩:=X0_ n d (by omega);unfold bR;rw [hp1,hp2];obtain ⟨g,hg⟩:=oc (n.natAbs.gcd d);rw [<- hg];have Ic:0<g:=by rw [hg];exact Nat.gcd_pos_of_pos_right _ hd0
 have pq:g<=d:=by rw [hg];exact Nat.gcd_le_right _ hd0
 have pP:(g:Int) ∣ n:=by rw [hg];exact Int.ofNat_dvd_left.2 (Nat.gcd_dvd_left _ _)
 obtain ⟨FN,Aq⟩:=oc (n / (g:Int));obtain ⟨FD,Ar⟩:=oc (d / g);rw [<- Aq,<- Ar];have q1:n.tdiv (g:Int)=FN:=by rw [Aq,Z4N n g pP]
 have q2:(d:Int) / (g:Int)=(FD:Int):=by rw [Ar];exact (Int.natCast_ediv _ _).symm
 have Hr:(d:Int).tdiv (g:Int)=(FD:Int):=by rw [Int.tdiv_eq_ediv_of_nonneg (by omega),q2]
 have GL:-4000000000000000000<=FN/\FN<=4000000000000000000:=by
  have:FN.natAbs<=n.natAbs:=by rw [Aq];exact Int.natAbs_ediv_le_natAbs n (g:Int)
  omega
 have Lj:FD<=4000000000000000000:=by
  have:FD<=d:=by rw [Ar];exact Nat.div_le_self _ _
  omega
 obtain ⟨BX,xZ⟩:=GL;have e1:IntKind.i64.wrap FN=FN:=IntWalk.i64_in _ (by omega);have e2:IntKind.i64.wrap (FD:Int)=(FD:Int):=IntWalk.i64_in _ (by omega);have Be:∀ W,aA w W->Calls prog 124 #[.int .i64 FN] W fun e w'=>e=.returned (.string (aB FN))/\aA W w':=fun W hE=>mA FN W (by omega) (by omega) (HT.ext hE);have GG:∀ W,aA w W->Calls prog 124 #[.int .i64 (FD:Int)] W fun e w'=>e=.returned (.string (aB (FD:Int)))/\aA W w':=fun W hE=>mA (FD:Int) W (by omega) (by omega) (HT.ext hE);rw [eb] at GG;have HI1:=oA Be;have HI2:=oA GG;have HG:=oA hg;obtain ⟨W1,qm,hE1,hs1,hb1⟩:=dU w (.string ⟨#[]⟩) (.string ⟨#[]⟩) 152;obtain ⟨r0,r1,rf⟩:=dS hb1;have HB1:=oA hb1;have HE:=oA hE1;have HC:Hid (∀ W,aA W1 W->W.cell? ⟨w.heap.size,0,none⟩=some (.string ⟨#[]⟩)/\W.cell? ⟨w.heap.size,1,none⟩=some (.string ⟨#[]⟩)/\(∀ i,W.frozen? ⟨w.heap.size,i,none⟩=false)):=fun W hW =>
  ⟨hW.cell r0,hW.cell r1,(dS (aJ hb1 hW)).2.2⟩
 have HQ:Hid (n.tdiv (g:Int)=FN/\(d:Int) / (g:Int)=(FD:Int)/\(d:Int).tdiv (g:Int)=(FD:Int)/\IntKind.i64.wrap FN=FN/\IntKind.i64.wrap (FD:Int)=(FD:Int)):=⟨q1,q2,Hr,e1,e2⟩;clear hp1 hp2 hg pP Be GG Aq Ar q1 q2 Hr e1 e2 hE1 hs1 hb1 r0 r1 rf
 go_enter func199,ntmps199
 go_wp2_with fail
 go_loopw [5,6] (fun a b wr=>∃ x y:Int,a=.int .i64 x/\b=.int .i64 y/\-4000000000000000000<=x/\x<=4000000000000000000/\-4000000000000000000<=y/\y<=4000000000000000000/\Hid (Nat.gcd x.natAbs y.natAbs=g)/\Hid (aA W1 wr)) (fun _ b _=>(intOf b).natAbs)
 case atStart=>exact ⟨n,d,rfl,rfl,qB,qV,by omega,by omega,by rw [HG.out];rfl,aA.refl _⟩
 case round =>
  obtain ⟨x,y,rfl,rfl,qH,sl,tA,qz,Bn,Jl⟩:=hrel;obtain ⟨wo,rfl⟩:∃ wo:World,wo=wr:=⟨_,rfl⟩;by_cases ph:y=0
  ·have D7:x.natAbs=g:=(by have:=Bn.out;rw [ph] at this;simpa using this);subst ph;have KB:(x<0/\x=-(g:Int))\/(¬ x<0/\x=(g:Int)):=(by omega);have D6:((g:Int) == 0)=false:=(by rw [beq_eq_false_iff_ne];omega);have Cj:¬ (g:Int)=0:=(by omega);clear D7;obtain ⟨q1,q2,q3,q4,q5⟩:=HQ.out;have HEd:=oA (aA.trans Jl (aA.drew wo));rcases KB with ⟨hneg,EO⟩ | ⟨hneg,EO⟩
   case' inl =>
    have Kc:-x=(g:Int):=(by omega);clear EO
   case' inr =>
    subst EO;have Kc:True:=trivial
   all_goals
    go_wp2_with fail
    go_region_with (first
     | (go_at_call 124;with_reducible refine (HI1.out _ (HE.out.trans HEd.out)).mono ?_;rintro e w5 ⟨rfl,o5⟩;have HE2:=HEd;clear HEd;have HEd:=oA (aA.trans HE2.out o5);obtain ⟨t0,t1,tf⟩:=HC.out _ HEd.out;have tf0:=tf 0;have tf1:=tf 1;clear o5 HE2 tf)
     | (go_at_call 124;with_reducible refine (HI2.out _ (HE.out.trans HEd.out)).mono ?_;rintro e w5 ⟨rfl,o5⟩;have HE2:=HEd;clear HEd;have HEd:=oA (aA.trans HE2.out o5);obtain ⟨t0,t1,tf⟩:=HC.out _ HEd.out;have tf0:=tf 0;have tf1:=tf 1;clear o5 HE2 tf))
    all_goals
     have hb5:=kT (a:=.string (aB FN)) (b:=.string (aE FD)) (aJ HB1 HEd);go_wp2_with fail;refine bodyPost_ret (results_cell_row (by rfl) _ _ w.heap.size 152 #[.string (aB FN),.string (aE FD)] (0,0) _ (by rfl) hb5 underlying152 (by rfl) (by kernel_rfl)) (by rfl) ⟨rfl,?_⟩;exact Below.setCell (Below.setCell (HE.trans HEd) (p:=⟨w.heap.size,0,none⟩) (oK _) _) (p:=⟨w.heap.size,1,none⟩) (oK _) _
  ·obtain ⟨r,hr⟩:=oc (x.tmod y);have KQ:r.natAbs<y.natAbs:=(by rw [hr];exact mX x y ph);have HG2:Hid (Nat.gcd y.natAbs r.natAbs=g):=(by unfold Hid;rw [hr,I7_];exact Bn);have qJ:x.tmod y=r:=hr.symm;have J5:(y == 0)=false:=(by rw [beq_eq_false_iff_ne];exact ph);have EL:(y != 0)=true:=(by simpa using ph);clear hr;go_wp2_with fail
   go_quiet (fail)
   go_wp2_with fail;go_roundw
   case rel=>exact ⟨y,r,rfl,rfl,tA,qz,by omega,by omega,HG2,aA.draws Jl _⟩
   case measure=>simp [intOf];omega
theorem iR (x y:Int):(aB (x*y)).size<=(aB x).size+(aB y).size+1:=by
 have h1:=er (x*y);have h2:=dm x;have h3:=dm y;have h4:=nj x.natAbs y.natAbs;rw [<- Int.natAbs_mul] at h4;omega
theorem q1_ (x y:Int):(aB (x+y)).size<=max (aB x).size (aB y).size+2:=by
 have h1:=er (x+y);have h2:=dm x;have h3:=dm y;have h4:=W2_ x.natAbs y.natAbs;have h5:=iV (Int.natAbs_add_le x y);omega
def af (B:Nat) (w:World):Prop:=∃ a b,w.heap[B]?=some (.cells #[a,b] 152 (0,0))
theorem af.ext {B:Nat} {w w':World} (h:af B w) (he:aA w w'):af B w':=by
 obtain ⟨a,b,h⟩:=h;exact ⟨a,b,aJ h he⟩
theorem af.set2 {B:Nat} {w:World} {x y:Value} (h:af B w):af B ((w.setCell ⟨B,0,none⟩ x).setCell ⟨B,1,none⟩ y):=by
 obtain ⟨a,b,h⟩:=h;exact ⟨x,y,kT h⟩
theorem af.res {B:Nat} {w:World} {x y:Value} (h:af B w):((w.setCell ⟨B,0,none⟩ x).setCell ⟨B,1,none⟩ y).heap[B]?=some (.cells #[x,y] 152 (0,0)):=by
 obtain ⟨a,b,h⟩:=h;exact kT h
theorem af.open {B:Nat} {w:World} (h:af B w):∃ a b,w.cell? ⟨B,0,none⟩=some a/\w.cell? ⟨B,1,none⟩=some b/\w.frozen? ⟨B,0,none⟩=false/\w.frozen? ⟨B,1,none⟩=false:=by
 obtain ⟨a,b,h⟩:=h;obtain ⟨c0,c1,cf⟩:=dS h;exact ⟨a,b,c0,c1,cf 0,cf 1⟩
theorem dV {w:World} {B g i:Nat} {x y v:Value} (hne:g≠B) (h:w.cell? ⟨g,i,none⟩=some v):((w.setCell ⟨B,0,none⟩ x).setCell ⟨B,1,none⟩ y).cell? ⟨g,i,none⟩=some v:=by
 rw [World.cell?_setCell_other _ _ _ _ (by intro e;simp only [Addr.mk.injEq] at e;exact hne e.1.symm),World.cell?_setCell_other _ _ _ _ (by intro e;simp only [Addr.mk.injEq] at e;exact hne e.1.symm)];exact h
theorem eH {w W:World} {B:Nat} {x y:Value} (h:aA w W) (hB:w.heap.size<=B):aA w ((W.setCell ⟨B,0,none⟩ x).setCell ⟨B,1,none⟩ y) :=
 Below.setCell (Below.setCell h (p:=⟨B,0,none⟩) hB _) (p:=⟨B,1,none⟩) hB _
theorem Z19 (x y:Rat):Rat.divInt (x.num*y.num) ((x.den:Int)*(y.den:Int))=x*y:=by
 rw [Rat.mul_def',<- Int.natCast_mul];rfl
theorem Z18 (x y:Rat):Rat.divInt (x.num*(y.den:Int)) ((x.den:Int)*y.num)=x / y:=by
 rw [Rat.div_def,Rat.inv_def,<- Rat.divInt_mul_divInt,Rat.num_divInt_den]
theorem B5_ (x y:Rat) (w:World) (hx:RS 13000 x) (hy:RS 13000 y) (ht:ae w) :
  oX 163 #[bR x,bR y] w (bR (x*y)):=by
 have HT:=oA ht;clear ht;obtain ⟨W1,qm,hE1,hs1,hb1⟩:=dU w (.string (aB x.num)) (.string (aE x.den)) 152;obtain ⟨W2,tl,hE2,hs2,hb2⟩:=dU W1 (.string (aB y.num)) (.string (aE y.den)) 152;obtain ⟨W3,xl,oz,hs3,pf⟩:=dU W2 (.string ⟨#[]⟩) (.string ⟨#[]⟩) 152;have hb1':=aJ hb1 (hE2.trans oz);have hb2':=aJ hb2 oz;have HE:=oA ((hE1.trans hE2).trans oz);have HR:Hid (w.heap.size<=W2.heap.size):=by unfold Hid;omega
 have HN1:Hid (w.heap.size≠W2.heap.size):=by unfold Hid;omega
 have rD:Hid (W1.heap.size≠W2.heap.size):=by unfold Hid;omega
 have HC:Hid (∀ W,aA W3 W->W.cell? ⟨w.heap.size,0,none⟩=some (.string (aB x.num))/\W.cell? ⟨w.heap.size,1,none⟩=some (.string (aE x.den))/\W.cell? ⟨W1.heap.size,0,none⟩=some (.string (aB y.num))/\W.cell? ⟨W1.heap.size,1,none⟩=some (.string (aE y.den))/\W.cell? ⟨W2.heap.size,0,none⟩=some (.string ⟨#[]⟩)/\W.cell? ⟨W2.heap.size,1,none⟩=some (.string ⟨#[]⟩)/\W.frozen? ⟨W2.heap.size,0,none⟩=false/\W.frozen? ⟨W2.heap.size,1,none⟩=false/\W.heap[W2.heap.size]?=some (.cells #[.string ⟨#[]⟩,.string ⟨#[]⟩] 152 (0,0))):=fun W hW=>by
  obtain ⟨a0,a1,-⟩:=dS (aJ hb1' hW);obtain ⟨b0,b1,-⟩:=dS (aJ hb2' hW);obtain ⟨c0,c1,cf⟩:=dS (aJ pf hW);exact ⟨a0,a1,b0,b1,c0,c1,cf 0,cf 1,aJ pf hW⟩
 have HB1:Hid (∀ W,Calls prog 198 #[bR x] W fun e w'=>∃ a b,e=.returned (.tuple #[.int .i64 a,.int .i64 b,.bool (decide ((aB x.num).size<=9) && decide ((aE x.den).size<=9))])/\Hid ((aB x.num).size<=9/\(aE x.den).size<=9->a=x.num/\b=x.den)/\aA W w'):=fun W=>T5_ x W;have HB2:Hid (∀ W,Calls prog 198 #[bR y] W fun e w'=>∃ a b,e=.returned (.tuple #[.int .i64 a,.int .i64 b,.bool (decide ((aB y.num).size<=9) && decide ((aE y.den).size<=9))])/\Hid ((aB y.num).size<=9/\(aE y.den).size<=9->a=y.num/\b=y.den)/\aA W w'):=fun W=>T5_ y W;obtain ⟨bx,hbx⟩:=oc ((decide ((aB x.num).size<=9) && decide ((aE x.den).size<=9)));obtain ⟨by',hby⟩:=oc ((decide ((aB y.num).size<=9) && decide ((aE y.den).size<=9)));rw [<- hbx] at HB1;rw [<- hby] at HB2;have HBX:Hid (bx=true->(aB x.num).size<=9/\(aE x.den).size<=9):=by
  intro h;rw [hbx,Bool.and_eq_true,decide_eq_true_iff,decide_eq_true_iff] at h;exact h
 have HBY:Hid (by'=true->(aB y.num).size<=9/\(aE y.den).size<=9):=by
  intro h;rw [hby,Bool.and_eq_true,decide_eq_true_iff,decide_eq_true_iff] at h;exact h
 have wI:∀ W,aA w W->Calls prog 63 #[.string (aB x.num),.string (aB y.num)] W fun e w'=>e=.returned (.string (aB (x.num*y.num)))/\aA W w':=fun W hW=>i_ _ _ W (by have:=hx.1;omega) (by have:=hy.1;omega) (HT.ext hW);have sC:∀ W,aA w W->Calls prog 63 #[.string (aE x.den),.string (aE y.den)] W fun e w'=>e=.returned (.string (aB ((x.den:Int)*(y.den:Int))))/\aA W w':=fun W hW=>by
  have:=i_ (x.den:Int) (y.den:Int) W (by rw [eb];have:=hx.2;omega) (by rw [eb];have:=hy.2;omega) (HT.ext hW);rw [eb,eb] at this;exact this
 have hL:∀ W,aA w W->Calls prog 200 #[.string (aB (x.num*y.num)),.string (aB ((x.den:Int)*(y.den:Int)))] W fun e w'=>e=.returned (bR (x*y))/\aA W w':=fun W hW=>by
  rw [<- Z19];have h1:=iR x.num y.num;have h2:=iR (x.den:Int) (y.den:Int);rw [eb x.den,eb y.den] at h2;have h3:=hx.1;have h4:=hx.2;have h5:=hy.1;have h6:=hy.2;exact Q8_ _ _ W (by rw [<- Int.natCast_mul];have:=Nat.mul_ne_zero x.den_nz y.den_nz;omega) (by omega) (by omega) (HT.ext hW)
 have HM1:=oA wI;have HM2:=oA sC;have HL:=oA hL;have HOF:Hid ((aB x.num).size<=9/\(aE x.den).size<=9->(aB y.num).size<=9/\(aE y.den).size<=9->∃ (p:Int) (q:Int),x.num*y.num=p/\(x.den:Int)*(y.den:Int)=q/\-1000000000000000000<=p/\p<=1000000000000000000/\-1000000000000000000<=q/\q<=1000000000000000000/\∀ W,aA w W->oX 199 #[.int .i64 p,.int .i64 q] W (bR (x*y))):=by
  intro h1 h2;have a1:=jV h1.1;have a2:=jV (n:=(x.den:Int)) (by rw [eb];exact h1.2);have a3:=jV h2.1;have a4:=jV (n:=(y.den:Int)) (by rw [eb];exact h2.2);have m1:=mD a1.1 a1.2 a3.1 a3.2 (by omega) (by omega);have m2:=mD a2.1 a2.2 a4.1 a4.2 (by omega) (by omega);refine ⟨_,_,rfl,rfl,by omega,by omega,by omega,by omega,fun W hW=>?_⟩;have Fc:0<x.den*y.den:=Nat.mul_pos x.den_pos y.den_pos;rw [<- Int.natCast_mul] at m2 |-;have:=Z25 (x.num*y.num) (x.den*y.den) W (by omega) (by omega) Fc (by omega) (HT.ext hW);rw [Rat.mul_def'];exact this
 have pd:∀ q:Rat,bR q=.agg #[.string (aB q.num),.string (aE q.den)]:=fun _=>rfl;have HV:Hid (∀ q:Rat,bR q=.agg #[.string (aB q.num),.string (aE q.den)]):=pd;obtain ⟨Z,hZ⟩:=oc (x*y);rw [<- hZ] at HL HOF |-;rw [pd x] at HB1 |-;rw [pd y] at HB2 |-;rw [pd Z] at HL HOF |-;clear hE1 hE2 oz hs1 hs2 hs3 hb1 hb2 pf hb1' hb2' hbx hby wI sC hL pd hZ hx hy HV;obtain ⟨n1,qB⟩:=oc (aB x.num);obtain ⟨d1,qx⟩:=oc (aE x.den);obtain ⟨n2,qV⟩:=oc (aB y.num);obtain ⟨d2,hd2⟩:=oc (aE y.den);obtain ⟨n3,xK⟩:=oc (aB (x.num*y.num));obtain ⟨d3,xd⟩:=oc (aB ((x.den:Int)*(y.den:Int)));obtain ⟨n4,th⟩:=oc (aB Z.num);obtain ⟨d4,sO⟩:=oc (aE Z.den);rw [<- qB,<- qV,<- xK] at HM1;rw [<- qx,<- hd2,<- xd] at HM2;rw [<- xK,<- xd,<- th,<- sO] at HL;rw [<- th,<- sO] at HOF |-;rw [<- qB,<- qx,<- qV,<- hd2] at HC |-;rw [<- qB,<- qx] at qm;rw [<- qV,<- hd2] at tl;rw [<- qB,<- qx] at HB1 HBX HOF;rw [<- qV,<- hd2] at HB2 HBY HOF;clear qB qx qV hd2 xK xd th sO;obtain ⟨c0,c1,c2,c3,c4,c5,c6,c7,-⟩:=HC W3 (aA.refl _)
 go_enter func163,ntmps163
 go_wp2_with fail;refine (HB1 _).mono ?_;rintro e w4 ⟨a,b,rfl,pZ,hE4⟩;have HAB:=pZ;have HE4:=oA hE4;obtain ⟨d0,JY,JX,d3,JW,d5,d6,d7,-⟩:=HC _ hE4;clear pZ hE4 HB1 c0 c1 c2 c3 c4 c5 c6 c7;cases bx
 ·clear HB2 HOF HAB d0 JY JX d3 JW d5 d6 d7;go_wp2_with fail;have HX3:=oA (aA.trans (aA.trans HE HE4) (aA.drew _));obtain ⟨y1,y2,y3,y4,-,-,-,-,yb⟩:=HC _ (aA.trans HE4 (aA.drew _));have HB3:Hid (af W2.heap.size (w4).drew):=⟨_,_,yb⟩;clear yb
  go_region_held3 (fun w'=>w'.cell? ⟨w.heap.size,0,none⟩=some (.string n1)/\w'.cell? ⟨w.heap.size,1,none⟩=some (.string d1)/\w'.cell? ⟨W1.heap.size,0,none⟩=some (.string n2)/\w'.cell? ⟨W1.heap.size,1,none⟩=some (.string d2)/\Hid (aA w w')/\Hid (af W2.heap.size w'))
   (first | exact ⟨z1,z2,z3,z4,z5,z6⟩ | exact ⟨dV HN1 z1,dV HN1 z2,dV rD z3,dV rD z4,oA (eH z5.out HR),oA z6.out.set2⟩ | exact ⟨y1,y2,y3,y4,HX3,HB3⟩ | go_keep)
   (first
    | (go_at_call 63;have hc:=HM1 _ (Hid.out (p:=aA w _) (by assumption));with_reducible refine hc.mono ?_;clear hc;rintro e w6 ⟨rfl,ou⟩;have q1:=ou.cell (a:=⟨w.heap.size,0,none⟩) (v:=.string n1) (by assumption);have q2:=ou.cell (a:=⟨w.heap.size,1,none⟩) (v:=.string d1) (by assumption);have q3:=ou.cell (a:=⟨W1.heap.size,0,none⟩) (v:=.string n2) (by assumption);have q4:=ou.cell (a:=⟨W1.heap.size,1,none⟩) (v:=.string d2) (by assumption);have q5:=oA (aA.trans (Hid.out (p:=aA w _) (by assumption)) ou);have q6:=oA (af.ext (Hid.out (p:=af W2.heap.size _) (by assumption)) ou);(try clear z1 z2 z3 z4 z5 z6 t0 t1 f0 f1);have z1:=q1;have z2:=q2;have z3:=q3;have z4:=q4;have z5:=q5;have z6:=q6;obtain ⟨r0,r1,t0,t1,f0,f1⟩:=z6.out.open;clear ou q1 q2 q3 q4 q5 q6)
    | (go_at_call 63;have hc:=HM2 _ (Hid.out (p:=aA w _) (by assumption));with_reducible refine hc.mono ?_;clear hc;rintro e w6 ⟨rfl,ou⟩;have q1:=ou.cell (a:=⟨w.heap.size,0,none⟩) (v:=.string n1) (by assumption);have q2:=ou.cell (a:=⟨w.heap.size,1,none⟩) (v:=.string d1) (by assumption);have q3:=ou.cell (a:=⟨W1.heap.size,0,none⟩) (v:=.string n2) (by assumption);have q4:=ou.cell (a:=⟨W1.heap.size,1,none⟩) (v:=.string d2) (by assumption);have q5:=oA (aA.trans (Hid.out (p:=aA w _) (by assumption)) ou);have q6:=oA (af.ext (Hid.out (p:=af W2.heap.size _) (by assumption)) ou);(try clear z1 z2 z3 z4 z5 z6 t0 t1 f0 f1);have z1:=q1;have z2:=q2;have z3:=q3;have z4:=q4;have z5:=q5;have z6:=q6;obtain ⟨r0,r1,t0,t1,f0,f1⟩:=z6.out.open;clear ou q1 q2 q3 q4 q5 q6)
    | (go_at_call 200;have hc:=HL _ (Hid.out (p:=aA w _) (by assumption));with_reducible refine hc.mono ?_;clear hc;rintro e w6 ⟨rfl,ou⟩;have q1:=ou.cell (a:=⟨w.heap.size,0,none⟩) (v:=.string n1) (by assumption);have q2:=ou.cell (a:=⟨w.heap.size,1,none⟩) (v:=.string d1) (by assumption);have q3:=ou.cell (a:=⟨W1.heap.size,0,none⟩) (v:=.string n2) (by assumption);have q4:=ou.cell (a:=⟨W1.heap.size,1,none⟩) (v:=.string d2) (by assumption);have q5:=oA (aA.trans (Hid.out (p:=aA w _) (by assumption)) ou);have q6:=oA (af.ext (Hid.out (p:=af W2.heap.size _) (by assumption)) ou);(try clear z1 z2 z3 z4 z5 z6 t0 t1 f0 f1);have z1:=q1;have z2:=q2;have z3:=q3;have z4:=q4;have z5:=q5;have z6:=q6;obtain ⟨r0,r1,t0,t1,f0,f1⟩:=z6.out.open;clear ou q1 q2 q3 q4 q5 q6))
  all_goals
   have hb7:=af.res (x:=.string n4) (y:=.string d4) z6.out;go_wp2_with fail;refine bodyPost_ret (results_cell_row (by rfl) _ _ W2.heap.size 152 #[.string n4,.string d4] (0,0) _ (by rfl) hb7 underlying152 (by rfl) (by kernel_rfl)) (by rfl) ⟨rfl,?_⟩;exact eH z5.out HR
 ·go_wp2_with fail;refine (HB2 _).mono ?_;rintro e w5 ⟨c,d,rfl,tN,o5⟩;have HCD:=tN;have HE5:=oA (aA.trans HE4 o5);clear tN o5 HB2 d0 JY JX d3 JW d5 d6 d7;cases by'
  ·clear HOF HAB HCD;go_wp2_with fail;have HX3:=oA (aA.trans (aA.trans HE HE5) (aA.drew _));obtain ⟨y1,y2,y3,y4,-,-,-,-,yb⟩:=HC _ (aA.trans HE5 (aA.drew _));have HB3:Hid (af W2.heap.size (w5).drew):=⟨_,_,yb⟩;clear yb
   go_region_held3 (fun w'=>w'.cell? ⟨w.heap.size,0,none⟩=some (.string n1)/\w'.cell? ⟨w.heap.size,1,none⟩=some (.string d1)/\w'.cell? ⟨W1.heap.size,0,none⟩=some (.string n2)/\w'.cell? ⟨W1.heap.size,1,none⟩=some (.string d2)/\Hid (aA w w')/\Hid (af W2.heap.size w'))
    (first | exact ⟨z1,z2,z3,z4,z5,z6⟩ | exact ⟨dV HN1 z1,dV HN1 z2,dV rD z3,dV rD z4,oA (eH z5.out HR),oA z6.out.set2⟩ | exact ⟨y1,y2,y3,y4,HX3,HB3⟩ | go_keep)
    (first
     | (go_at_call 63;have hc:=HM1 _ (Hid.out (p:=aA w _) (by assumption));with_reducible refine hc.mono ?_;clear hc;rintro e w6 ⟨rfl,ou⟩;have q1:=ou.cell (a:=⟨w.heap.size,0,none⟩) (v:=.string n1) (by assumption);have q2:=ou.cell (a:=⟨w.heap.size,1,none⟩) (v:=.string d1) (by assumption);have q3:=ou.cell (a:=⟨W1.heap.size,0,none⟩) (v:=.string n2) (by assumption);have q4:=ou.cell (a:=⟨W1.heap.size,1,none⟩) (v:=.string d2) (by assumption);have q5:=oA (aA.trans (Hid.out (p:=aA w _) (by assumption)) ou);have q6:=oA (af.ext (Hid.out (p:=af W2.heap.size _) (by assumption)) ou);(try clear z1 z2 z3 z4 z5 z6 t0 t1 f0 f1);have z1:=q1;have z2:=q2;have z3:=q3;have z4:=q4;have z5:=q5;have z6:=q6;obtain ⟨r0,r1,t0,t1,f0,f1⟩:=z6.out.open;clear ou q1 q2 q3 q4 q5 q6)
     | (go_at_call 63;have hc:=HM2 _ (Hid.out (p:=aA w _) (by assumption));with_reducible refine hc.mono ?_;clear hc;rintro e w6 ⟨rfl,ou⟩;have q1:=ou.cell (a:=⟨w.heap.size,0,none⟩) (v:=.string n1) (by assumption);have q2:=ou.cell (a:=⟨w.heap.size,1,none⟩) (v:=.string d1) (by assumption);have q3:=ou.cell (a:=⟨W1.heap.size,0,none⟩) (v:=.string n2) (by assumption);have q4:=ou.cell (a:=⟨W1.heap.size,1,none⟩) (v:=.string d2) (by assumption);have q5:=oA (aA.trans (Hid.out (p:=aA w _) (by assumption)) ou);have q6:=oA (af.ext (Hid.out (p:=af W2.heap.size _) (by assumption)) ou);(try clear z1 z2 z3 z4 z5 z6 t0 t1 f0 f1);have z1:=q1;have z2:=q2;have z3:=q3;have z4:=q4;have z5:=q5;have z6:=q6;obtain ⟨r0,r1,t0,t1,f0,f1⟩:=z6.out.open;clear ou q1 q2 q3 q4 q5 q6)
     | (go_at_call 200;have hc:=HL _ (Hid.out (p:=aA w _) (by assumption));with_reducible refine hc.mono ?_;clear hc;rintro e w6 ⟨rfl,ou⟩;have q1:=ou.cell (a:=⟨w.heap.size,0,none⟩) (v:=.string n1) (by assumption);have q2:=ou.cell (a:=⟨w.heap.size,1,none⟩) (v:=.string d1) (by assumption);have q3:=ou.cell (a:=⟨W1.heap.size,0,none⟩) (v:=.string n2) (by assumption);have q4:=ou.cell (a:=⟨W1.heap.size,1,none⟩) (v:=.string d2) (by assumption);have q5:=oA (aA.trans (Hid.out (p:=aA w _) (by assumption)) ou);have q6:=oA (af.ext (Hid.out (p:=af W2.heap.size _) (by assumption)) ou);(try clear z1 z2 z3 z4 z5 z6 t0 t1 f0 f1);have z1:=q1;have z2:=q2;have z3:=q3;have z4:=q4;have z5:=q5;have z6:=q6;obtain ⟨r0,r1,t0,t1,f0,f1⟩:=z6.out.open;clear ou q1 q2 q3 q4 q5 q6))
   all_goals
    have hb7:=af.res (x:=.string n4) (y:=.string d4) z6.out;go_wp2_with fail;refine bodyPost_ret (results_cell_row (by rfl) _ _ W2.heap.size 152 #[.string n4,.string d4] (0,0) _ (by rfl) hb7 underlying152 (by rfl) (by kernel_rfl)) (by rfl) ⟨rfl,?_⟩;exact eH z5.out HR
  ·obtain ⟨ha,hb⟩:=HAB (HBX (by first | rfl | trivial));obtain ⟨hc,hd⟩:=HCD (HBY (by first | rfl | trivial));obtain ⟨p,q,hp,hq,p1,p2,q1,q2,CN⟩:=HOF (HBX (by first | rfl | trivial)) (HBY (by first | rfl | trivial));have HO:=oA CN;have rZ:a*c=p:=(by rw [ha,hc];exact hp);have KV:b*d=q:=(by rw [hb,hd];exact hq);clear ha hb hc hd hp hq CN HAB HCD HOF HM1 HM2 HL;go_wp2_with fail;refine (HO _ (HE.trans HE5)).mono ?_;rintro e w6 ⟨rfl,ou⟩;have HE6:=oA (aA.trans HE5 ou);obtain ⟨-,-,-,-,-,-,-,-,yb⟩:=HC _ HE6;have z6:Hid (af W2.heap.size w6):=⟨_,_,yb⟩;obtain ⟨r0,r1,t0,t1,f0,f1⟩:=z6.out.open;clear ou HO yb;have hb7:=af.res (x:=.string n4) (y:=.string d4) z6.out;go_wp2_with fail;refine bodyPost_ret (results_cell_row (by rfl) _ _ W2.heap.size 152 #[.string n4,.string d4] (0,0) _ (by rfl) hb7 underlying152 (by rfl) (by kernel_rfl)) (by rfl) ⟨rfl,?_⟩;exact eH (HE.trans HE6) HR
end Go.Proofs.YtjlkkofmojgipaaGreatDoor
