import Derived.Test.YtoonaddcfakamaaGreatDoorYAH
import Derived.RangeFuncNested
import Derived.RangeFuncBound
import Derived.RangeFuncCalls
import Derived.RangeFuncLeaves
import Derived.Shelf.Abstract
import Derived.Shelf.RegionOpen
import Derived.WalkKit
import Derived.OwnWalkIn
import Derived.TacticsInMore
import Derived.LoopNIn
import Derived.LoopIn
import Derived.RangeFuncBox
import Derived.Test.YtoonaddcfakamaaGreatDoorYAA
import Derived.Test.YtoonaddcfakamaaGreatDoorYAE
import Derived.Test.YtoonaddcfakamaaGreatDoorYAF
set_option linter.unusedVariables false
set_option linter.unusedSimpArgs false
set_option maxRecDepth 1000000
set_option maxHeartbeats 4000000
namespace Go.Proofs.YtoonaddcfakamaaGreatDoor
open Go.RowKit Go.Proofs.Tryz
theorem eZ {m:oP} {i:Nat} (hi:i<m.length):aC m i∈m:=nw (en hi)
theorem jS {m:oP} {x:oQ} (hx:x∈m):∃ i,i<m.length/\aC m i=x:=by
 obtain ⟨i,hi⟩:=List.getElem?_of_mem hx;exact ⟨i,(nt.1 hi).1,eP hi⟩
theorem Z2m {x:Int} (h:x.natAbs<=1000000000):bX x=true:=j5 (K:=10) (by decide) (by decide) (Nat.lt_of_le_of_lt h (by decide))
theorem Z4y {r:oQ} (h:aN 1000000000 r):r.all bX=true:=by
 rw [List.all_eq_true];exact fun x hx=>Z2m (h x hx)
theorem w7_ {r:oQ} (hl:r.length<=64) (h:aN 1000000000 r):kh r:=⟨hl,fun x hx=>by have:=h x hx;omega⟩
theorem z6_ {n:Nat}:∀ {R:oP},(∀ r∈R,kh r/\r.length=n)->ed n R=0
 | [],_=>rfl
 | r::l,h=>by
  have hr:=h r (by simp);unfold ed;rw [if_pos ((mA r).2 hr.1),if_pos (by omega)];exact z6_ fun x hx=>h x (by simp [hx])
theorem Z24 (n:Nat) (m:oP) (hn:n<=12) (hm:m.length<=4) (hw:∀ x∈m,x.length=n) (h9:∀ x∈m,aN 9 x) :
  ∃ F R ps,dU n F n m=some R/\aW n R ps/\R.length<=4/\(∀ x∈R,aN 629856 x/\x.length=n)/\bP n (aG 0 m) (aG 0 R)/\bz n R=0/\∃ F',dU n F' n R=some R:=by
 obtain ⟨F,R,ps,h1,h2,h3,-,h5⟩:=nB n 4 1 m hw (fun x hx=>(h9 x hx).mono (by decide)) (.inl hm) (by decide) (by decide);have xg:R.length<=4:=by omega
 have hb:∀ x∈R,aN 629856 x/\x.length=n:=by
  intro x hx;obtain ⟨i,hi,rfl⟩:=jS hx;refine ⟨(R9_ (N:=9) h3 (fun j hj=>hw _ (eZ hj)) (fun j hj=>h9 _ (eZ hj)) h5 i hi).mono ?_,h3.1 i hi⟩;have hc:R.length=0\/R.length=1\/R.length=2\/R.length=3\/R.length=4:=by omega
  rcases hc with h | h | h | h | h <;> rw [h] <;> decide
 have hk:bz n R=0:=by
  unfold bz;have hl:dA n R=0:=by
   unfold dA;rw [if_neg (by omega),if_neg (by omega)];exact z6_ fun r hr=>⟨w7_ (by have:=(hb r hr).2;omega) ((hb r hr).1.mono (by decide)),(hb r hr).2⟩
  rw [if_pos hl,if_pos (D9_ h3)]
 refine ⟨F,R,ps,h1,h3,xg,hb,h5,hk,?_⟩;obtain ⟨F',R',ps',g1,g2,g3,-,g5⟩:=nB n 4 6 R (fun x hx=>(hb x hx).2) (fun x hx=>(hb x hx).1.mono (by decide)) (.inl xg) (by decide) (by decide);exact ⟨F',by rw [g1,kO g3 h3 g5.symm]⟩
theorem Z3N {n:Nat} {R:oP} {ps:Nat->Nat} (hR:aW n R ps) (h4:R.length<=4) (hb:∀ x∈R,aN 629856 x/\x.length=n) {v:oQ} (hv:v.length=n) (Ck:aN 1000000000 v) :
  ∃ s ms,dx R v R.length=some (s,ms)/\s.length=n/\s.all bX=true/\Sp n (aG 0 R) (aM 1 v s)/\lG R ps R.length s:=by
 have hk:10+R.length*(6+1)+1<=100:=by omega
 obtain ⟨s,ms,e1,e2,e3,e4,e5⟩:=Z4n (K:=100) (e:=6) (a:=10) (by decide) hR (fun i hi=>(hb _ (eZ hi)).1.mono (by decide)) hv (Ck.mono (by decide)) (by decide) R.length (n9 _) hk;refine ⟨s,ms,e1,e2,?_,e4,e5⟩;rw [List.all_eq_true];exact fun x hx=>j5 (K:=100) (by decide) (by decide) (Nat.lt_of_le_of_lt (e3 x hx) (Nat.pow_lt_pow_right (by decide) (by omega)))
theorem P7_:∀ (k:Nat) (f:Nat->Rat),(∀ i,i<k->f i=0)->aI k f=0
 | 0,_,_=>rfl
 | k+1,f,h=>by
  show aI k f+f k=0;rw [P7_ k f fun i hi=>h i (by omega),h k (by omega)];grind
theorem fQ (n c:Nat):(List.replicate n (0:Int)).getD c 0=0:=by
 rw [nu];by_cases hc:c<n;·rw [ns (by simpa using hc)];simp
 ·rw [n_ (by simp;omega)];rfl
def a_ (r s:oQ):Nat->Int
 | 0=>0
 | n+1=>a_ r s n+r.getD n 0*s.getD n 0
theorem fV (r s:oQ):∀ n,a_ r s n=a_ s r n
 | 0=>rfl
 | n+1=>by unfold a_;rw [fV r s n,Int.mul_comm]
theorem D4_ {r s r' s':oQ}:∀ n,(∀ i,i<n->r.getD i 0=r'.getD i 0/\s.getD i 0=s'.getD i 0)->a_ r s n=a_ r' s' n
 | 0,_=>rfl
 | n+1,h=>by unfold a_;rw [D4_ n fun i hi=>h i (by omega),(h n (by omega)).1,(h n (by omega)).2]
theorem kG (r:oQ) (k:Int) {x y:oQ} (hl:y.length=x.length):∀ n,a_ r (aM k x y) n=a_ r x n-k*a_ r y n
 | 0=>by unfold a_;omega
 | n+1=>by
  unfold a_;rw [kG r k hl n,du k hl,Int.mul_sub,Int.mul_add];have e:r.getD n 0*(k*y.getD n 0)=k*(r.getD n 0*y.getD n 0):=by rw [<- Int.mul_assoc,Int.mul_comm (r.getD n 0) k,Int.mul_assoc]
  rw [e];omega
theorem kH (r:oQ) (m:Nat):∀ n,a_ r (List.replicate m 0) n=0
 | 0=>rfl
 | n+1=>by unfold a_;rw [kH r m n,fQ];simp
theorem n9_ (n c i:Nat) (hc:c<n):((List.replicate n (0:Int)).set c 1).getD i 0=if i=c then 1 else 0:=by
 rw [nu,oK];by_cases h:c=i;·subst h;rw [if_pos rfl,if_pos rfl,if_pos (by simpa using hc)];rfl
 ·rw [if_neg h,if_neg (fun e=>h e.symm),<- nu,fQ]
theorem J1_ (r:oQ) (n c:Nat) (hc:c<n):∀ k,a_ r ((List.replicate n (0:Int)).set c 1) k=if c<k then r.getD c 0 else 0
 | 0=>by rw [if_neg (by omega)];rfl
 | k+1=>by
  unfold a_;rw [J1_ r n c hc k,n9_ n c k hc];by_cases h:c<k;·rw [if_pos h,if_neg (by omega),if_pos (by omega)];simp
  ·by_cases h2:k=c;·rw [if_neg h,if_pos h2,if_pos (by omega),h2];simp
   ·rw [if_neg h,if_neg h2,if_neg (by omega)];simp
theorem mx (k:Nat) (w:oQ) (c:Nat):(w.drop k).getD c 0=w.getD (k+c) 0:=by
 rw [nu,nu,oI]
theorem lP {a b:oQ} {i:Nat} (h:i<a.length):(a++b).getD i 0=a.getD i 0:=by
 rw [nu,nu,oB h]
theorem t0_ {a b:oQ} {i:Nat} (h:a.length<=i):(a++b).getD i 0=b.getD (i-a.length) 0:=by
 rw [nu,nu,oC h]
theorem gM (n:Nat) (m:oP):(bI n m).length=n:=by unfold bI;simp
theorem k_ {n c:Nat} {m:oP} (hc:c<n):aC (bI n m) c=m.map (fun r=>r.getD c 0)++(List.replicate n (0:Int)).set c 1:=by
 apply eP;unfold bI;rw [nx,List.getElem?_range hc];rfl
theorem lB (n:Nat) (m:oP):ae (m.length+n) (bI n m):=fun c hc=>by
 rw [gM] at hc;rw [k_ hc];simp
theorem R3_ {n c i:Nat} {m:oP} (hc:c<n) (hi:i<m.length):(aC (bI n m) c).getD i 0=(aC m i).getD c 0:=by
 rw [k_ hc,lP (by simpa using hi),nu,nx,en hi];rfl
theorem U1_ {n c j:Nat} {m:oP} (hc:c<n):(aC (bI n m) c).getD (m.length+j) 0=if j=c then 1 else 0:=by
 rw [k_ hc,t0_ (by simp),<- n9_ n c j hc];congr 1;simp
def Z2M (n:Nat) (m:oP) (w:oQ):Prop:=w.length=m.length+n/\∀ i,i<m.length->w.getD i 0=a_ (aC m i) (w.drop m.length) n
theorem V8_ (q:Int):∀ (k:Nat) (x y:oQ),(aM q x y).drop k=aM q (x.drop k) (y.drop k)
 | 0,x,y=>rfl
 | k+1,[],[]=>by simp [aM]
 | k+1,[],_::_=>by simp [aM];cases (List.drop k ‹List Int›) <;> rfl
 | k+1,a::x,[]=>by
  have h:∀ z:oQ,aM q z []=z:=fun z=>by cases z <;> rfl
  simp only [List.drop_nil,h]
 | k+1,a::x,b::y=>by
  show (aM q x y).drop k=_;rw [V8_ q k x y];rfl
theorem h3_ {n:Nat} {m:oP} {w:oQ} (h:Sp (m.length+n) (aG 0 (bI n m)) w):Z2M n m w:=by
 have hl:=cR (d:=0) (lB n m)
 induction h with
 | zero =>
  refine ⟨by simp,fun i hi=>?_⟩;rw [fQ,List.drop_replicate,kH]
 | mem h =>
  obtain ⟨c,-,hc,rfl⟩:=h;have rM:c<n:=by rw [gM] at hc;exact hc
  refine ⟨lB n m c hc,fun i hi=>?_⟩;rw [R3_ rM hi,k_ rM,List.drop_left' (by simp),J1_ _ _ _ rM,if_pos rM]
 | less q a b iha ihb =>
  refine ⟨by rw [dW];exact iha.1,fun i hi=>?_⟩;rw [du q (by rw [iha.1,ihb.1]),iha.2 i hi,ihb.2 i hi,V8_,kG _ _ (by rw [List.length_drop,List.length_drop,iha.1,ihb.1])]
theorem Z2u {n:Nat} {m:oP} {w:oQ} (h:Z2M n m w):Sp (m.length+n) (aG 0 (bI n m)) w:=by
 have hl:=cR (d:=0) (lB n m);have key:∀ j,j<=n->∃ u,Sp (m.length+n) (aG 0 (bI n m)) u/\∀ c,u.getD (m.length+c) 0=if c<j then w.getD (m.length+c) 0 else 0:=by
  intro j
  induction j with
  | zero=>intro _;exact ⟨_,.zero,fun c=>by rw [if_neg (by omega),fQ]⟩
  | succ j ih =>
   intro hj;obtain ⟨u,hu,Dr⟩:=ih (by omega);have hmem:aG 0 (bI n m) (aC (bI n m) j):=ak (Nat.zero_le _) (by rw [gM];omega);refine ⟨_,.less (-(w.getD (m.length+j) 0)) hu (.mem hmem),fun c=>?_⟩;rw [du _ (by rw [hu.len hl,hl _ hmem]),Dr c,U1_ (by omega)];by_cases IJ:c=j;·subst IJ;rw [if_neg (by omega),if_pos rfl,if_pos (by omega)];omega
   ·rw [if_neg IJ];by_cases h2:c<j;·rw [if_pos h2,if_pos (by omega)];simp
    ·rw [if_neg h2,if_neg (by omega)];simp
 obtain ⟨u,hu,Dr⟩:=key n (n9 _);have hP:=h3_ hu;have hc:∀ c,c<n->u.getD (m.length+c) 0=w.getD (m.length+c) 0:=fun c hc=>by rw [Dr c,if_pos hc]
 have:u=w:=by
  refine kJ (by rw [hP.1,h.1]) fun c=>?_;by_cases h1:c<m.length
  ·rw [hP.2 c h1,h.2 c h1];exact D4_ n fun i hi=>⟨rfl,by rw [mx,mx,hc i hi]⟩
  ·by_cases h2:c<m.length+n
   ·have:=hc (c-m.length) (by omega);rw [show m.length+(c-m.length)=c by omega] at this;exact this
   ·rw [nu,nu,n_ (by rw [hP.1];omega),n_ (by rw [h.1];omega)]
 rw [<- this];exact hu
def cE (n:Nat) (m:oP) (v:oQ):Prop:=v.length=n/\∀ i,i<m.length->a_ (aC m i) v n=0
theorem Z21 {h:oP} {N:Nat} {ps:Nat->Nat} (hh:aW N h ps) (k:Nat):∃ d,d<=h.length/\(∀ i,i<d->ps i<k)/\∀ i,d<=i->i<h.length->k<=ps i:=by
 have key:∀ l,l<=h.length->∃ d,d<=l/\(∀ i,i<d->ps i<k)/\∀ i,d<=i->i<l->k<=ps i:=by
  intro l
  induction l with
  | zero=>intro _;exact ⟨0,n9 _,fun i hi=>by omega,fun i _ hi=>by omega⟩
  | succ l ih =>
   intro hl;obtain ⟨d,h1,h2,h3⟩:=ih (by omega);by_cases hd:d=l
   ·by_cases hp:ps l<k
    ·exact ⟨l+1,n9 _,fun i hi=>by
      by_cases hil:i=l;·rw [hil];exact hp
      ·exact h2 i (by omega),fun i _ hi=>by omega⟩
    ·exact ⟨l,by omega,fun i hi=>h2 i (by omega),fun i a b=>by
      have:i=l:=by omega
      rw [this];omega⟩
   ·refine ⟨d,by omega,h2,fun i a b=>?_⟩;by_cases hil:i=l
    ·have h4:=h3 (l-1) (by omega) (by omega);have h5:=hh.2.mono (l-1) l (by omega) (by omega);rw [hil];omega
    ·exact h3 i a (by omega)
 exact key h.length (n9 _)
theorem U9_ {α:Type} (p:α->Bool):∀ (l:List α) (d:Nat),(∀ i x,i<d->l[i]?=some x->p x=false)->(∀ i x,d<=i->l[i]?=some x->p x=true)->l.filter p=l.drop d
 | [],d,_,_=>by simp
 | x::l,0,h1,h2=>by
  rw [List.filter_cons_of_pos (h2 0 x (by omega) rfl)];have:=U9_ p l 0 (fun i x hi=>by omega) fun i y _ hy=>h2 (i+1) y (by omega) hy;rw [this];rfl
 | x::l,d+1,h1,h2=>by
  rw [List.filter_cons_of_neg (by rw [h1 0 x (by omega) rfl];simp)];exact U9_ p l d (fun i y hi hy=>h1 (i+1) y (by omega) hy) fun i y hi hy=>h2 (i+1) y (by omega) hy
theorem m6_ {h:oP} {N k d:Nat} {ps:Nat->Nat} (hh:aW N h ps) (h1:∀ i,i<d->ps i<k) (h2:∀ i,d<=i->i<h.length->k<=ps i):dZ k h=(h.drop d).map (·.drop k):=by
 unfold dZ;congr 1;refine U9_ _ h d (fun i x hi hx=>?_) fun i x hi hx=>?_
 ·have hl:=(nt.1 hx).1;rw [<- eP hx,Q0_ hh hl];have:=h1 i hi;exact oG (by omega)
 ·have hl:=(nt.1 hx).1;rw [<- eP hx,Q0_ hh hl];have:=h2 i hi hl;exact oH (by omega)
theorem gI {h:oP} {k d i:Nat} (hi:d+i<h.length):aC ((h.drop d).map (·.drop k)) i=(aC h (d+i)).drop k:=by
 apply eP;rw [nx,oI,en hi];rfl
theorem K3_ {h:oP} {n k d:Nat} {ps:Nat->Nat} (hh:aW (k+n) h ps) (hd:d<=h.length) (h1:∀ i,i<d->ps i<k) (h2:∀ i,d<=i->i<h.length->k<=ps i) :
  aW n ((h.drop d).map (·.drop k)) (fun i=>ps (d+i)-k):=by
 have hlen:((h.drop d).map (·.drop k)).length=h.length-d:=by simp
 have hE:∀ i c,d+i<h.length->aD ((h.drop d).map (·.drop k)) i c=aD h (d+i) (k+c):=fun i c hi=>by
  unfold aD;rw [gI hi,mx]
 refine ⟨fun i hi=>?_,?_⟩
 ·rw [hlen] at hi;rw [gI (by omega),List.length_drop,hh.1 _ (by omega)];omega
 ·rw [hlen];refine ⟨fun i hi=>?_,fun i j pO hj=>?_,fun i hi c' hc=>?_,fun i hi=>?_,fun i j pO hj=>?_,fun i a b=>by rw [hlen] at b;omega⟩;·have:=hh.2.lt (d+i) (by omega);have:=h2 (d+i) (by omega) (by omega);show ps (d+i)-k<n;omega
  ·have:=hh.2.mono (d+i) (d+j) (by omega) (by omega);have:=h2 (d+i) (by omega) (by omega);show ps (d+i)-k<ps (d+j)-k;omega
  ·rw [hE i c' (by omega)];have:=h2 (d+i) (by omega) (by omega);exact hh.2.zero (d+i) (by omega) _ (by have:c'<ps (d+i)-k:=hc;omega)
  ·have:=h2 (d+i) (by omega) (by omega);rw [hE i _ (by omega),show k+(ps (d+i)-k)=ps (d+i) by omega];exact hh.2.pos (d+i) (by omega)
  ·have:=h2 (d+j) (by omega) (by omega);rw [hE i _ (by omega),hE j _ (by omega),show k+(ps (d+j)-k)=ps (d+j) by omega];exact hh.2.red (d+i) (d+j) (by omega) (by omega)
theorem Z2t {h:oP} {N k d:Nat} {ps:Nat->Nat} (hh:aW N h ps) (hd:d<=h.length) (h1:∀ i,i<d->ps i<k) {w:oQ} (hz:∀ c,c<k->w.getD c 0=0):∀ j,j<=d->Sp N (aG (d-j) h) w->Sp N (aG d h) w
 | 0,_,hw=>hw
 | j+1,hj,hw=>by
  obtain ⟨t,e,ht⟩:=hw.first hh (by omega)
  rw [hz _ (h1 _ (by omega))] at e;have hp:=hh.2.pos (d-(j+1)) (by omega);have h0:t=0:=H8_ hp (by omega) (by omega);rw [h0,iE,show d-(j+1)+1=d-j by omega] at ht;exact Z2t hh hd h1 hz j (by omega) ht
theorem n2_ {h:oP} {n k d:Nat} {w:oQ} (hw:Sp (k+n) (aG d h) w):Sp n (aG 0 ((h.drop d).map (·.drop k))) (w.drop k):=by
 induction hw with
 | zero=>rw [List.drop_replicate,show k+n-k=n by omega];exact .zero
 | mem hm =>
  obtain ⟨i,h1,h2,rfl⟩:=hm;have:=gI (h:=h) (k:=k) (d:=d) (i:=i-d) (by omega);rw [show d+(i-d)=i by omega] at this;rw [<- this];exact .mem (ak (Nat.zero_le _) (by simp;omega))
 | less q a b iha ihb=>rw [V8_];exact .less q iha ihb
theorem Z4g {h m:oP} {n d:Nat} {ps:Nat->Nat} (hh:aW (m.length+n) h ps) (hs:bP (m.length+n) (aG 0 (bI n m)) (aG 0 h)) (hd:d<=h.length) (h1:∀ i,i<d->ps i<m.length) (h2:∀ i,d<=i->i<h.length->m.length<=ps i) (v:oQ) :
  Sp n (aG 0 ((h.drop d).map (·.drop m.length))) v↔cE n m v:=by
 have hW:=(K3_ hh hd h1 h2).1;constructor
 ·intro hv
  induction hv with
  | zero=>exact ⟨by simp,fun i _=>kH _ _ _⟩
  | mem hm =>
   obtain ⟨i,-,hi,rfl⟩:=hm;have xA:d+i<h.length:=(by simp at hi;omega);refine ⟨hW i hi,fun j hj=>?_⟩;have hP:=h3_ (hs.2 _ (ak (Nat.zero_le (d+i)) xA));rw [gI xA,<- hP.2 j hj];have:=h2 (d+i) (by omega) xA;exact hh.2.zero (d+i) xA j (by omega)
  | less q a b iha ihb =>
   refine ⟨by rw [dW];exact iha.1,fun i hi=>?_⟩;rw [kG _ _ (by rw [iha.1,ihb.1]),iha.2 i hi,ihb.2 i hi];simp
 ·intro hv;have hw:Z2M n m (List.replicate m.length 0++v):=by
   refine ⟨by rw [oJ,List.length_replicate,hv.1],fun i hi=>?_⟩;rw [lP (by simpa using hi),fQ,List.drop_left' (by simp),hv.2 i hi]
  have h3:=(hs.iff _).1 (Z2u hw);have h4:=Z2t (w:=List.replicate m.length 0++v) hh hd h1 (fun c hc=>by rw [lP (by simpa using hc),fQ]) d (n9 _) (by rw [Nat.sub_self];exact h3);have h5:=n2_ h4;rw [List.drop_left' (by simp)] at h5;exact h5
theorem Z2J {h m:oP} {n:Nat} {ps:Nat->Nat} (hh:aW (m.length+n) h ps) (hs:bP (m.length+n) (aG 0 (bI n m)) (aG 0 h)):n<=h.length:=by
 refine Classical.byContradiction fun hlt=>?_;have hlt:h.length<n:=by omega
 obtain ⟨R,hR⟩:=oO (h++List.replicate (n-h.length) (List.replicate (m.length+n) (0:Int)));have hRl:R.length=n:=by rw [hR];simp;omega
 have qb:∀ i,i<h.length->aC R i=aC h i:=fun i hi=>by
  apply eP;rw [hR,oB hi];exact en hi
 have hR2:∀ i,h.length<=i->i<n->aC R i=List.replicate (m.length+n) 0:=fun i hi hn=>by
  apply eP;rw [hR,oC hi,List.getElem?_replicate,if_pos (by omega)]
 have hW:ae (m.length+n) R:=fun i hi=>by
  by_cases h1:i<h.length;·rw [qb i h1];exact hh.1 i h1
  ·rw [hR2 i (by omega) (by omega)];simp
 have h0:af R.length (fun b=>m.length+b) (aC R)=0:=by
  unfold af;refine h_ (r:=h.length) (by omega) fun b _=>?_;show (((aC R h.length).getD (m.length+b) 0:Int):Rat)=0;rw [hR2 _ (n9 _) hlt,fQ];rfl
 have h1:=lL (Q:=fun x=>x=0) (ie (m.length+n) R.length fun b=>m.length+b) mg hW h0 (aC (bI n m)) fun a ha=>by
  have:=hs.1 _ (ak (Nat.zero_le a) (by rw [gM];omega));refine this.mono fun r hr=>?_;obtain ⟨i,-,hi,rfl⟩:=hr;rw [<- qb i hi];exact .mem (ak (Nat.zero_le _) (by omega))
 have h2:af R.length (fun b=>m.length+b) (aC (bI n m))=1:=by
  rw [<- M4_ R.length];unfold af;refine cQ fun a b ha hb=>?_;show (((aC (bI n m) a).getD (m.length+b) 0:Int):Rat)=_;rw [U1_ (by omega)];by_cases pU:a=b;·rw [if_pos pU.symm,if_pos pU];rfl
  ·rw [if_neg (fun e=>pU e.symm),if_neg pU];rfl
 rw [h2] at h1;exact absurd h1 (by decide)
def bW (D:Int) (v:oQ):List Int:=v.map (D*·)
theorem kx (D:Int) (v:oQ):(bW D v).length=v.length:=by unfold bW;simp
theorem kv (D:Int) (v:oQ) (c:Nat):(bW D v).getD c 0=D*v.getD c 0:=by
 unfold bW;rw [nu,nu,nx];cases v[c]? with
 | none=>simp
 | some a=>rfl
theorem Z1g {v:oQ} {c:Nat} (h:v.length<=c):v.getD c 0=0:=by
 rw [nu,n_ h];rfl
theorem T7_ (r:oQ) (D:Int) (v:oQ):∀ n,a_ r (bW D v) n=D*a_ r v n
 | 0=>by unfold a_;simp
 | n+1=>by
  unfold a_;rw [T7_ r D v n,kv,Int.mul_add];have e:r.getD n 0*(D*v.getD n 0)=D*(r.getD n 0*v.getD n 0):=by rw [<- Int.mul_assoc,Int.mul_comm (r.getD n 0) D,Int.mul_assoc]
  rw [e]
theorem Z56 (x:Rat):x*((x.den:Int):Rat)=(x.num:Rat):=by
 have h1:(x.num:Rat) / ((x.den:Nat):Rat)=x:=by rw [<- Rat.mkRat_eq_div];exact Rat.mkRat_self x
 have h2:((x.den:Nat):Rat)≠0:=by
  intro h;have:x.den=0:=by exact_mod_cast h
  exact x.den_nz this
 have h3:=Rat.div_mul_cancel (a:=(x.num:Rat)) h2;rw [h1] at h3;rw [Rat.intCast_natCast];exact h3
theorem t7_ (x:Nat->Rat):∀ d,∃ D:Int,D≠0/\∃ z:Nat->Int,∀ l,l<d->(D:Rat)*x l=(z l:Rat)
 | 0=>⟨1,by decide,fun _=>0,fun l hl=>by omega⟩
 | d+1=>by
  obtain ⟨D,h0,z,hz⟩:=t7_ x d;have E4:((x d).den:Int)≠0:=by have:=(x d).den_nz;omega
  refine ⟨D*((x d).den:Int),Int.mul_ne_zero h0 E4,fun l=>if l=d then D*(x d).num else z l*((x d).den:Int),fun l hl=>?_⟩;by_cases qn:l=d
  ·simp only [if_pos qn];rw [qn,Rat.intCast_mul,Rat.intCast_mul];have e:=Z56 (x d);grind
  ·simp only [if_neg qn];have:=hz l (by omega);rw [Rat.intCast_mul,Rat.intCast_mul];grind
theorem Z4t {n:Nat} {m:oP} (hW:ae n m) (idx:Nat->Nat) (z:Nat->Int):∀ d,(∀ l,l<d->idx l<m.length)->∃ w,Sp n (aG 0 m) w/\∀ c,((w.getD c 0:Int):Rat)=aI d fun l=>(z l:Rat)*(((aC m (idx l)).getD c 0:Int):Rat)
 | 0,_=>⟨_,.zero,fun c=>by rw [fQ];rfl⟩
 | d+1,h=>by
  obtain ⟨w,h1,h2⟩:=Z4t hW idx z d fun l hl=>h l (by omega);have hm:aG 0 m (aC m (idx d)):=ak (Nat.zero_le _) (h d (by omega));refine ⟨_,.less (-(z d)) h1 (.mem hm),fun c=>?_⟩;rw [du _ (by rw [h1.len (cR hW),cR hW _ hm])];show _=aI d (fun l=>(z l:Rat)*(((aC m (idx l)).getD c 0:Int):Rat))+_;rw [<- h2 c,Rat.intCast_sub,Rat.intCast_mul,Rat.intCast_neg];grind
theorem Z4h {N:Nat} {S:oQ->Prop} {f:oQ->Rat} (hS:j_ N S) (h0:f (List.replicate N 0)=0) (hl:∀ (q:Int) a b,b.length=a.length->f (aM q a b)=f a-(q:Rat)*f b) (h:∀ r,S r->f r=0) {w:oQ} (hw:Sp N S w):f w=0:=by
 induction hw with
 | zero=>exact h0
 | mem hm=>exact h _ hm
 | less q a b iha ihb=>rw [hl q _ _ (by rw [a.len hS,b.len hS]),iha,ihb];grind
def gy (d:Nat) (x:Nat->Rat) (idx:Nat->Nat) (w:oQ):Rat:=aI d fun l=>x l*((w.getD (idx l) 0:Int):Rat)
theorem t9_ (d:Nat) (x:Nat->Rat) (idx:Nat->Nat) (q:Int) {a b:oQ} (hl:b.length=a.length):gy d x idx (aM q a b)=gy d x idx a-(q:Rat)*gy d x idx b:=by
 unfold gy;have e:∀ l,l<d->x l*(((aM q a b).getD (idx l) 0:Int):Rat)=x l*((a.getD (idx l) 0:Int):Rat)+(-(q:Rat))*(x l*((b.getD (idx l) 0:Int):Rat)):=fun l _=>by
  rw [du q hl,Rat.intCast_sub,Rat.intCast_mul];grind
 rw [cd e,ng,iL];grind
theorem T6_ (d:Nat) (x:Nat->Rat) (idx:Nat->Nat) {w:oQ} (h:∀ l,l<d->w.getD (idx l) 0=0):gy d x idx w=0 :=
 P7_ d _ fun l hl=>by rw [h l hl];grind
theorem Z4A {h m:oP} {n d:Nat} {ps:Nat->Nat} (hw:ae n m) (hh:aW (m.length+n) h ps) (hs:bP (m.length+n) (aG 0 (bI n m)) (aG 0 h)) (hd:d<=h.length) (h1:∀ i,i<d->ps i<m.length) (h2:∀ i,d<=i->i<h.length->m.length<=ps i) {v:oQ} (hv:v.length=n) (hz:∀ u,cE n m u->a_ u v n=0) :
  ∃ D:Int,D≠0/\Sp n (aG 0 m) (bW D v):=by
 obtain ⟨x,hx⟩:=ma (k:=d) (fun a b=>((aD h a (ps b):Int):Rat)) (fun a b pU ha=>by
  have:aD h a (ps b)=0:=hh.2.zero a (by omega) (ps b) (hh.2.mono b a pU (by omega))
  (try simp only);rw [this];rfl) (fun a ha e=>by
  have h4:aD h a (ps a)=0:=by exact_mod_cast e
  have:=hh.2.pos a (by omega);omega) (fun a=>((a_ v ((aC h a).drop m.length) n:Int):Rat)) d (n9 _)
 have hc:∀ c,c<n->((v.getD c 0:Int):Rat)=aI d fun l=>x l*(((aC m (ps l)).getD c 0:Int):Rat):=by
  intro c hc
  have hF:=Z4h (f:=fun w=>((a_ v (w.drop m.length) n:Int):Rat)-gy d x ps w) (cR (d:=0) hh.1) (by
    (try simp only)
    rw [T6_ d x ps fun l _=>fQ _ _,List.drop_replicate,kH];grind) (fun q a b hl=>by
    (try simp only)
    rw [t9_ d x ps q hl,V8_,kG _ _ (by rw [List.length_drop,List.length_drop,hl]),Rat.intCast_sub,Rat.intCast_mul];grind) (by
    rintro r ⟨i,-,hi,rfl⟩
    (try simp only)
    by_cases hid:i<d
    ·have:=hx i (by omega) hid;unfold gy;rw [this];have e:(aI d fun l=>x l*(fun a b=>((aD h a (ps b):Int):Rat)) i l)=aI d fun l=>x l*(((aC h i).getD (ps l) 0:Int):Rat):=rfl;rw [e];grind
    ·rw [T6_ d x ps fun l hl=>hh.2.zero i hi (ps l) (by have:=h1 l hl;have:=h2 i (by omega) hi;omega)]
     have hA:=(Z4g hh hs hd h1 h2 ((aC h i).drop m.length)).1 (by
      have e:=gI (h:=h) (k:=m.length) (d:=d) (i:=i-d) (by omega);rw [show d+(i-d)=i by omega] at e
      rw [<- e];exact .mem (ak (Nat.zero_le _) (by simp;omega)))
     rw [fV,hz _ hA];grind)
   (hs.1 _ (ak (Nat.zero_le c) (by rw [gM];exact hc)))
  (try simp only at hF)
  rw [k_ hc,List.drop_left' (by simp),J1_ _ _ _ hc,if_pos hc,<- k_ hc] at hF;have e:gy d x ps (aC (bI n m) c)=aI d fun l=>x l*(((aC m (ps l)).getD c 0:Int):Rat):=cd fun l hl=>by rw [R3_ hc (h1 l hl)]
  rw [e] at hF;grind
 obtain ⟨D,hD,z,yc⟩:=t7_ x d;obtain ⟨w,qc,qw⟩:=Z4t hw ps z d h1;refine ⟨D,hD,?_⟩;have:w=bW D v:=by
  have hwl:=qc.len (cR hw);refine kJ (by rw [hwl,kx,hv]) fun c=>?_;by_cases yH:c<n
  ·have e1:=qw c;have e2:(aI d fun l=>(z l:Rat)*(((aC m (ps l)).getD c 0:Int):Rat))=(D:Rat)*((v.getD c 0:Int):Rat):=by
    rw [hc c yH,<- iL];exact cd fun l hl=>by rw [<- yc l hl];grind
   rw [e2] at e1;rw [kv]
   exact_mod_cast e1
  ·rw [Z1g (by rw [hwl];omega),Z1g (by rw [kx,hv];omega)]
 rw [<- this];exact qc
theorem Z3s {h B:oP} {n d:Nat} {ps qs:Nat->Nat} (hB:aW n B qs) (hh:aW (B.length+n) h ps) (hs:bP (B.length+n) (aG 0 (bI n B)) (aG 0 h)) (hd:d<=h.length) (h1:∀ i,i<d->ps i<B.length) (h2:∀ i,d<=i->i<h.length->B.length<=ps i):d=B.length:=by
 have hle:d<=B.length:=by
  have key:∀ i,i<d->i<=ps i:=by
   intro i
   induction i with
   | zero=>intro _;omega
   | succ i ih=>intro hi;have a1:=ih (by omega);have a2:=hh.2.mono i (i+1) (by omega) (by omega);omega
  rcases Nat.eq_zero_or_pos d with h0 | h0;·omega
  ·have a1:=key (d-1) (by omega);have a2:=h1 (d-1) (by omega);omega
 refine Classical.byContradiction fun hne=>?_;have hlt:d<B.length:=by omega
 obtain ⟨q,hq,Ju⟩:∃ q,q<B.length/\∀ i,i<d->ps i≠q:=by
  refine Classical.byContradiction fun tb=>?_;have hex:∀ q,q<B.length->∃ i,i<d/\ps i=q:=fun q hq=>Classical.byContradiction fun hn=>tb ⟨q,hq,fun i hi he=>hn ⟨i,hi,he⟩⟩
  have hf:∃ f:Nat->Nat,∀ q,q<B.length->f q<d/\ps (f q)=q:=⟨fun q=>if hq:q<B.length then Classical.choose (hex q hq) else 0,fun q hq=>by
   simp only [dif_pos hq];exact Classical.choose_spec (hex q hq)⟩
  obtain ⟨f,hf⟩:=hf;rcases Nat.eq_zero_or_pos d with h0 | h0;·have:=(hf 0 (by omega)).1;omega
  ·obtain ⟨d',rfl⟩:∃ d',d=d'+1:=⟨d-1,by omega⟩;obtain ⟨a,b,a1,a2,a3⟩:=Z20 (d'+1) f fun a ha=>(hf a (by omega)).1;have e1:=(hf a (by omega)).2;have e2:=(hf b (by omega)).2;rw [a3] at e1;omega
 obtain ⟨x,hx⟩:=ma (k:=d) (fun a b=>((aD h a (ps b):Int):Rat)) (fun a b pU ha=>by
  have:aD h a (ps b)=0:=hh.2.zero a (by omega) (ps b) (hh.2.mono b a pU (by omega))
  (try simp only);rw [this];rfl) (fun a ha e=>by
  have h4:aD h a (ps a)=0:=by exact_mod_cast e
  have:=hh.2.pos a (by omega);omega) (fun a=>- ((aD h a q:Int):Rat)) d (n9 _)
 have hc:∀ c,c<n->(((aC B q).getD c 0:Int):Rat)+(aI d fun l=>x l*(((aC B (ps l)).getD c 0:Int):Rat))=0:=by
  intro c hc
  have hF:=Z4h (f:=fun w=>((w.getD q 0:Int):Rat)+gy d x ps w) (cR (d:=0) hh.1) (by
    (try simp only)
    rw [T6_ d x ps fun l _=>fQ _ _,fQ];grind) (fun r a b hl=>by
    (try simp only)
    rw [t9_ d x ps r hl,du r hl,Rat.intCast_sub,Rat.intCast_mul];grind) (by
    rintro r ⟨i,-,hi,rfl⟩
    (try simp only)
    by_cases hid:i<d
    ·have:=hx i (by omega) hid;have e:(aI d fun l=>x l*(fun a b=>((aD h a (ps b):Int):Rat)) i l)=gy d x ps (aC h i):=rfl;rw [e] at this;rw [<- this];have e2:(aC h i).getD q 0=aD h i q:=rfl;rw [e2];grind
    ·rw [T6_ d x ps fun l hl=>hh.2.zero i hi (ps l) (by have:=h1 l hl;have:=h2 i (by omega) hi;omega)];have e:(aC h i).getD q 0=0:=hh.2.zero i hi q (by have:=h2 i (by omega) hi;omega)
     rw [e];grind)
   (hs.1 _ (ak (Nat.zero_le c) (by rw [gM];exact hc)))
  (try simp only at hF)
  rw [R3_ hc hq] at hF;have e:gy d x ps (aC (bI n B) c)=aI d fun l=>x l*(((aC B (ps l)).getD c 0:Int):Rat):=cd fun l hl=>by rw [R3_ hc (h1 l hl)]
  rw [e] at hF;exact hF
 have oy:∀ i j,i<j->j<B.length->(aC B j).getD (qs i) 0=0:=fun i j pO hj=>hB.2.zero j hj (qs i) (hB.2.mono i j pO hj);have hp0:∀ i,i<B.length->(((aC B i).getD (qs i) 0:Int):Rat)≠0:=fun i hi e=>by
  have h4:aD B i (qs i)=0:=by unfold aD;exact_mod_cast e
  have:=hB.2.pos i hi;omega
 have pQ:∀ j,j<=d->∀ l,l<j->ps l<q->x l=0:=by
  intro j
  induction j with
  | zero=>intro _ l hl;omega
  | succ j ih =>
   intro hj l hl tJ;by_cases J9:l<j;·exact ih (by omega) l J9 tJ
   ·obtain rfl:l=j:=(by omega);have e:=hc (qs (ps l)) (hB.2.lt _ (h1 l (by omega)));rw [oy (ps l) q tJ hq,nh (k:=l) (by omega) fun i hi hne=>?_] at e
    ·rcases Rat.mul_eq_zero.1 (by grind:x l*(((aC B (ps l)).getD (qs (ps l)) 0:Int):Rat)=0) with h0 | h0;·exact h0
     ·exact absurd h0 (hp0 _ (h1 l (by omega)))
    ·rcases Nat.lt_or_ge i l with hil | hil
     ·have:=hh.2.mono i l hil (by omega);rw [ih (by omega) i hil (by omega)];grind
     ·rw [oy (ps l) (ps i) (hh.2.mono l i (by omega) (by omega)) (h1 i hi)];grind
 have e:=hc (qs q) (hB.2.lt q hq);rw [P7_ d _ fun l hl=>?_] at e;·exact hp0 q hq (by grind)
 ·rcases Nat.lt_trichotomy (ps l) q with sE | sE | sE;·rw [pQ d (n9 _) l hl sE];grind
  ·exact absurd sE (Ju l hl)
  ·rw [oy q (ps l) sE (h1 l hl)];grind
theorem G1_ {n c d:Nat}:∀ {F F':Nat} {m:oP} {r:oP×Bool},F<=F'->eI n c d F m=some r->eI n c d F' m=some r
 | 0,_,m,r,_,h=>by rw [eI] at h;cases h
 | F+1,0,m,r,hl,_=>by omega
 | F+1,F'+1,m,r,hl,h=>by
  rw [eI] at h |-;by_cases ho:bV n m=true
  ·rw [if_pos ho] at h |-;cases hb:bQ c d m (m.length-d) with
   | none=>rw [hb] at h;exact h
   | some a =>
    rw [hb] at h;simp only at h |-;cases qC:dL c d (bF m d a) (m.length-(d+1)) with
    | none=>rw [qC] at h;cases h
    | some p =>
     obtain ⟨m2,rest⟩:=p;rw [qC] at h;cases rest with
     | true=>exact G1_ (by omega) h
     | false=>exact h
  ·rw [if_neg ho] at h;cases h
theorem E6_ {n F F':Nat} (hl:F<=F'):∀ {k c d:Nat} {m:oP} {r:oP×Nat},dG n F k c d m=some r->dG n F' k c d m=some r
 | 0,c,d,m,r,h=>by rw [dG] at h |-;exact h
 | k+1,c,d,m,r,h=>by
  rw [dG] at h |-;by_cases hd:d<m.length
  ·rw [if_pos hd] at h |-;cases hs:eI n c d F m with
   | none=>rw [hs] at h;cases h
   | some p =>
    rw [hs] at h;rw [G1_ hl hs];exact E6_ hl h
  ·rw [if_neg hd] at h |-;exact h
theorem kK {n F F' cols:Nat} {m R:oP} (hl:F<=F') (h:dU n F cols m=some R):dU n F' cols m=some R:=by
 unfold dU at h |-;cases hc:dG n F cols 0 0 m with
 | none=>rw [hc] at h;cases h
 | some p=>rw [hc] at h;rw [E6_ hl hc];exact h
theorem Z1W {n:Nat} {m:oP} {b:Nat} (hw:∀ x∈m,x.length=n) (hb:∀ x∈m,aN (10^b) x) (hs:b+1<=1000000000):bV n m=true:=by
 unfold bV;rw [List.all_eq_true];intro x hx;rw [Bool.and_eq_true,decide_eq_true_iff];refine ⟨hw x hx,?_⟩;rw [List.all_eq_true];exact fun y hy=>j5 hs (by omega) (Nat.lt_of_le_of_lt (hb x hx y hy) (Nat.pow_lt_pow_right (by decide) (by omega)))
theorem Z2I {n N:Nat} {m:oP} (h1:1<=N) (hb:∀ x∈m,aN N x):∀ x∈bI n m,aN N x:=by
 intro x hx y hy;unfold bI at hx;obtain ⟨c,hc,rfl⟩:=List.mem_map.1 hx;rcases List.mem_append.1 hy with hy | hy
 ·obtain ⟨r,hr,rfl⟩:=List.mem_map.1 hy;exact (hb r hr).getD c
 ·rcases List.mem_or_eq_of_mem_set hy with hy | hy;·rw [(List.mem_replicate.1 hy).2];simp
  ·rw [hy];simpa using h1
theorem Z0H {n:Nat} {m B:oP} (hm:ae n m) (hB:ae n B) (hs:bP n (aG 0 m) (aG 0 B)) (v:oQ):cE n m v↔cE n B v:=by
 have key:∀ {m B:oP},ae n m->ae n B->bP n (aG 0 m) (aG 0 B)->cE n m v->cE n B v:=by
  intro m B hm hB hs hv;refine ⟨hv.1,fun i hi=>?_⟩;have h:=hs.2 _ (ak (Nat.zero_le i) hi);have hl:=cR (d:=0) hm;generalize aC B i=r at h
  induction h with
  | zero=>rw [fV,kH]
  | mem h=>obtain ⟨j,-,hj,rfl⟩:=h;exact hv.2 j hj
  | less q a b iha ihb=>rw [fV,kG _ _ (by rw [a.len hl,b.len hl]),fV,fV v,iha,ihb];simp
 exact ⟨key hm hB hs,key hB hm hs.symm⟩
theorem lN {n:Nat} {m:oP} (hm:ae n m) {r v:oQ} (hr:Sp n (aG 0 m) r) (hv:cE n m v):a_ r v n=0:=by
 have hl:=cR (d:=0) hm
 induction hr with
 | zero=>rw [fV,kH]
 | mem h=>obtain ⟨j,-,hj,rfl⟩:=h;exact hv.2 j hj
 | less q a b iha ihb=>rw [fV,kG _ _ (by rw [a.len hl,b.len hl]),fV,fV v,iha,ihb];simp
def fw (n:Nat) (m:oP) (v:oQ):Prop:=v.length=n/\∃ D:Int,D≠0/\Sp n (aG 0 m) (bW D v)
theorem N0_ {n:Nat} {m S:oP} {ps:Nat->Nat} (hS:aW n S ps) (hm:ae n m) (hD:∀ i,i<S.length->∃ D:Int,D≠0/\Sp n (aG 0 m) (bW D (aC S i))):∃ V:Nat->List Int,(∀ a,a<S.length->aG 0 m (V a))/\af S.length ps V≠0:=by
 refine Classical.byContradiction fun tb=>?_;have hall:∀ V:Nat->List Int,(∀ a,a<S.length->aG 0 m (V a))->af S.length ps V=0:=fun V hV=>Classical.byContradiction fun h=>tb ⟨V,hV,h⟩
 have hf:∃ D:Nat->Int,∀ i,i<S.length->D i≠0/\Sp n (aG 0 m) (bW (D i) (aC S i)):=⟨fun i=>if h:i<S.length then Classical.choose (hD i h) else 0,fun i hi=>by
  simp only [dif_pos hi];exact Classical.choose_spec (hD i hi)⟩
 obtain ⟨D,Ix⟩:=hf;have h0:af S.length ps (fun a=>bW (D a) (aC S a))=0:=z7_ (Q:=fun x=>x=0) (ie n S.length ps) mg (cR hm) hall S.length (n9 _) _ (fun a ha=>(Ix a ha).2) fun a h1 h2=>by omega
 have hA:=ie n S.length ps;have key:∀ j,j<=S.length->af S.length ps (fun a=>if a<j then aC S a else bW (D a) (aC S a))=0:=by
  intro j
  induction j with
  | zero=>intro _;rw [<- h0];exact hA.ext _ _ fun a _=>if_neg (by omega)
  | succ j ih =>
   intro hj;have hi:=ih (by omega);have e:=hA.lin (fun a=>if a<j then aC S a else bW (D a) (aC S a)) j (List.replicate n 0) (aC S j) (-(D j)) (by omega) (by rw [hS.1 j (by omega)];simp);rw [hA.zero _ j (by omega)] at e;have e1:aM (-(D j)) (List.replicate n 0) (aC S j)=bW (D j) (aC S j):=by
    refine kJ (by rw [dW,kx,hS.1 j (by omega)];simp) fun c=>?_;rw [du _ (by rw [hS.1 j (by omega)];simp),fQ,kv,Int.neg_mul];omega
   rw [e1] at e;have e2:fH (fun a=>if a<j then aC S a else bW (D a) (aC S a)) j (bW (D j) (aC S j))=fun a=>if a<j then aC S a else bW (D a) (aC S a):=by
    funext a;unfold fH;by_cases ha:a=j;·rw [if_pos ha,if_neg (by omega),ha]
    ·rw [if_neg ha]
   rw [e2,hi] at e;have e3:fH (fun a=>if a<j then aC S a else bW (D a) (aC S a)) j (aC S j)=fun a=>if a<j+1 then aC S a else bW (D a) (aC S a):=by
    funext a;unfold fH;by_cases ha:a=j;·rw [if_pos ha,if_pos (by omega),ha]
    ·rw [if_neg ha];show (if a<j then aC S a else bW (D a) (aC S a))=_;by_cases h2:a<j;·rw [if_pos h2,if_pos (by omega)]
     ·rw [if_neg h2,if_neg (by omega)]
   rw [e3] at e;have hne:((D j:Int):Rat)≠0:=fun hz=>(Ix j (by omega)).1 (by exact_mod_cast hz);rcases Rat.mul_eq_zero.1 (by rw [Rat.intCast_neg] at e;grind:((D j:Int):Rat)*af S.length ps (fun a=>if a<j+1 then aC S a else bW (D a) (aC S a))=0) with h | h;·exact absurd h hne
   ·exact h
 have h1:=key S.length (n9 _);rw [hA.ext _ (aC S) fun a ha=>if_pos ha,ig hS _ (n9 _)] at h1;have hp:=(il hS _ (n9 S.length)).1;have:dN S ps S.length=0:=by exact_mod_cast h1
 omega
end Go.Proofs.YtoonaddcfakamaaGreatDoor
namespace Go.Proofs.YtoonaddcfakamaaGreatDoor
open Go.RowKit Go.Shelf Go.Proofs.Tryz
structure fU (T:TypeId) (A B:World):Prop where
 size:A.heap.size<=B.heap.size
 same:∀ (b:Nat) C fr,A.heap[b]?=some (.cells C T fr)->B.heap[b]?=some (.cells C T fr)
theorem fU.refl (T:TypeId) (A:World):fU T A A:=⟨n9 _,fun _ _ _ h=>h⟩
theorem fU.trans {T:TypeId} {A B C:World} (h:fU T A B) (k:fU T B C):fU T A C:=⟨n8 h.size k.size,fun b C fr hb=>k.same b C fr (h.same b C fr hb)⟩
def AbT {β:Type} (B:Nat) (T:TypeId) (J:β->World->Prop):Prop :=
 ∀ s W W' row,J s W->W.grownBy W' row->(∀ r,row=some r->B<=r/\∃ o:Obj,W.heap[r]?=some o/\(o.isCells=false\/∃ C fr,o=.cells C T fr))->J s W'
def AbC {β:Type} (B:Nat) (T:TypeId) (J:β->World->Prop):Prop :=
 ∀ s W W' row,J s W->W.grownBy W' row->(∀ r,row=some r->B<=r/\∃ C fr,W.heap[r]?=some (.cells C T fr))->J s W'
structure jB (T:TypeId) (W:World) (v:Value) (s:List Nat):Prop where
 at_:∃ g C fr,v=.slice (some ⟨g,0,none⟩) s.length s.length/\W.heap[g]?=some (.cells C T fr)/\∀ (j:Nat) x,s[j]?=some x->W.cell? ⟨g,j,none⟩=some (.int .i64 (x:Int))
theorem jB.keep {T:TypeId} {W W':World} {v:Value} {s:List Nat} (h:jB T W v s) (hk:fU T W W'):jB T W' v s:=by
 obtain ⟨g,C,fr,h1,h2,h3⟩:=h.at_;refine ⟨g,C,fr,h1,hk.same g C fr h2,fun j x hx=>?_⟩;have hb:W'.heap[g]?=W.heap[g]?:=(hk.same g C fr h2).trans h2.symm;have:=h3 j x hx;unfold World.cell? at this |-;rw [hb];exact this
def jb (F:Fence) (n:Nat) (P:Program) (g:Nat) (lb:Array Value) (T:TypeId) (L:List (List Nat)) (w:World):Prop :=
 ∀ (l:Nat) (J:Nat->World->Prop) (W:World),Below w.heap.size w W->AbC W.heap.size T J ->
  (∀ i s v W1,L[i]?=some s->J i W1->jB T W1 v s->YieldAt F (n-1) P l #[v] W1 fun e W'=>e=.returned (.bool true)/\J (i+1) W'/\fU T W1 W') ->
  J 0 W->CallsIn F n P g (#[.func (.yield l) #[] #[]]++lb) W fun e W'=>(∃ v,e=.returned v)/\J L.length W'
theorem jb.inRound {F:Fence} {n:Nat} {P:Program} {g:Nat} {lb:Array Value} {T:TypeId} {L:List (List Nat)} {w:World} (l:Nat) (h:jb F n P g lb T L w):jb (F.inRound l) n P g lb T L w:=h
def dH (fn:FuncId) (tmps:Array Value) (ps:Array Tmp) (assign body:Code) (dd:Nat) (st:LoopState):Loop:={ state:=st,pending:=none,fn:=fn,tmps:=tmps,params:=ps,assign:=assign,body:=body,defers:=dd }
theorem r9_ {B:Nat} {T:TypeId} {W:World} {l:Nat} {r:Loop} (hl:W.heap[l]?=some (.loop r)) (o:Obj):fU T W (W.putObj l o) :=
 ⟨by simp,fun b C fr hb=>by
  rw [World.putObj_heap_other];·exact hb
  ·intro e;subst e;rw [hl] at hb;simp at hb⟩
theorem I4_ {T:TypeId} {W W':World} {row:Option Nat} (hg:W.grownBy W' row) {k:Nat} {o:Obj} (hk:W.heap[k]?=some o) (ho:o.isCells=false) (hr:∀ r,row=some r->∃ C fr,W.heap[r]?=some (.cells C T fr)):W'.heap[k]?=some o:=by
 refine (hg.block k (Array.getElem?_eq_some_iff.1 hk).1 fun e=>?_).trans hk;obtain ⟨C,fr,h⟩:=hr k e.symm;rw [hk] at h;cases h;simp [Obj.isCells] at ho
def z3_ (F:Fence) (n:Nat) (P:Program) (l B:Nat) (T:TypeId) (L:List (List Nat)) (I:Nat->World->Prop) (ps:Array Tmp) (tmps:Array Value) (assign body:Code):Prop :=
 ∀ i s v W,L[i]?=some s->I i W->jB T W v s->(∃ r,W.heap[l]?=some (.loop r)) ->
  assign.wpIn (F.inRound l) n P (Exit.then (fun a' Wa=>KeepsFrom B W Wa/\fU T W Wa /\
   ∀ Wb,Wa.grownBy Wb (some l)->(∃ r,Wa.heap[l]?=some (.loop r))->(∃ r,Wb.heap[l]?=some (.loop r))->fU T Wa Wb ->
    body.wpIn (F.inRound l) n P (fun e _ W3=>e=.normal/\KeepsFrom B Wb W3/\fU T Wb W3/\I (i+1) W3) a' Wb) (fun _ _ _=>False))
   { tmps:=(ps.zip #[v]).foldl (fun t (p,u)=>t.setIfInBounds p u) tmps,defers:=[] } W
theorem H6_ {F:Fence} {n:Nat} {P:Program} {gf:Nat} {lb:Array Value} {T:TypeId} {L:List (List Nat)} {w0 W1:World} {l B dd:Nat} {fn:FuncId} {tmps:Array Value} {ps:Array Tmp} {assign body:Code} {I:Nat->World->Prop}
  (sH:F.fn fn) (rY:jb F n P gf lb T L w0) (hb1:Below w0.heap.size w0 W1) (hps:ps.size=1) (hB:B<=l) (CA:B<=W1.heap.size) (hl:W1.heap[l]?=some (.loop (dH fn tmps ps assign body dd .ready)))
  (eD:Option Nat) (hD:∀ D,eD=some D->D≠l/\B<=D/\W1.heap[D]?=some (.deferred (some []))) (hI:AbT B T I) (h0:I 0 W1)
  (pN:z3_ F (n-1) P l B T L I ps tmps assign body) :
  CallsIn F n P gf (#[.func (.yield l) #[] #[]]++lb) W1 fun e W'=>(∃ v,e=.returned v)/\I L.length W'/\W'.heap[l]?=some (.loop (dH fn tmps ps assign body dd .ready))/\∀ D,eD=some D->W'.heap[D]?=some (.deferred (some [])):=by
 refine rY l (fun i W=>I i W/\W.heap[l]?=some (.loop (dH fn tmps ps assign body dd .ready))/\∀ D,eD=some D->W.heap[D]?=some (.deferred (some []))) W1 hb1 ?_ ?_ ⟨h0,hl,fun D e=>(hD D e).2.2⟩
 ·rintro i A A' row ⟨k1,k2,k3⟩ hg hr;refine ⟨hI i A A' row k1 hg (fun r e=>?_),I4_ hg k2 rfl (fun r e=>(hr r e).2),fun D e=>I4_ hg (k3 D e) rfl (fun r e=>(hr r e).2)⟩;obtain ⟨h1,C,fr,h2⟩:=hr r e;exact ⟨n8 CA h1,_,h2,.inr ⟨C,fr,rfl⟩⟩
 ·rintro i s v W hs ⟨k1,k2,k3⟩ hv;have hy:=run_yield (P:=P) (args:=#[v]) k2 (by simp [dH,hps]);refine ⟨fn,_,assign,body,hy,roundIn_of_wpIn sH (wpIn_mono (pN i s v W hs k1 hv ⟨_,k2⟩) ?_)⟩;rintro e a' Wa hp;cases e with
  | normal =>
   obtain ⟨p1,p2,p3⟩:=hp;have m2:=p1.same _ _ hB k2 rfl;have m3:∀ D,eD=some D->Wa.heap[D]?=some (.deferred (some [])):=fun D e=>p1.same _ _ (hD D e).2.1 (k3 D e) rfl;have hlt:l<Wa.heap.size:=(Array.getElem?_eq_some_iff.1 m2).1;refine ⟨_,run_beginRound m2 rfl,?_⟩;have b2:(Wa.putObj l (.loop { dH fn tmps ps assign body dd .ready with state:=.busy })).heap[l]?=some (.loop { dH fn tmps ps assign body dd .ready with state:=.busy }):=World.putObj_heap_same hlt;have b3:∀ D,eD=some D->(Wa.putObj l (.loop { dH fn tmps ps assign body dd .ready with state:=.busy })).heap[D]?=some (.deferred (some [])):=fun D e=>(World.putObj_heap_other (hD D e).1).trans (m3 D e);have bk:=r9_ (B:=B) (T:=T) m2 (.loop { dH fn tmps ps assign body dd .ready with state:=.busy });refine wpIn_mono (p3 _ (grownBy_putObj' Wa l _) ⟨_,m2⟩ ⟨_,b2⟩ bk) ?_;rintro e a3 W3 ⟨rfl,q1,q2,q3⟩;have c2:=q1.same _ _ hB b2 rfl;have c3:∀ D,eD=some D->W3.heap[D]?=some (.deferred (some [])):=fun D e=>q1.same _ _ (hD D e).2.1 (b3 D e) rfl;have hr:=run_endRound (P:=P) none c2;have yy:l<W3.heap.size:=(Array.getElem?_eq_some_iff.1 c2).1;refine ⟨_,_,hr,rfl,⟨?_,?_,fun D e=>(World.putObj_heap_other (hD D e).1).trans (c3 D e)⟩,?_⟩;·exact hI _ _ _ _ q3 (grownBy_putObj' W3 l _) (fun r e=>by cases e;exact ⟨hB,_,c2,.inl rfl⟩)
   ·rw [World.putObj_heap_same yy];rfl
   ·exact p2.trans (bk.trans (q2.trans (r9_ (B:=B) c2 _)))
  | _=>exact hp.elim
theorem F7_ {F:Fence} {n:Nat} {P:Program} {g:Operand} {ps:Array Tmp} {assign body:Code} {Q:Exit->Act->World->Prop} {a:Act} {w:World}
  (Ar:F.round=none) (h1:1<=n) {gf:Nat} {lb:Array Value} (hg:a.eval g=.func (.func gf) #[] lb) (Bz:F.fn gf) (eg:∀ args w,(callFunc gf args).run P w=.ok (.enter gf args) w)
  {T:TypeId} {L:List (List Nat)} {w0:World} (rY:jb F (n-1) P gf lb T L w0) (pD:Below w0.heap.size w0 w) (hps:ps.size=1) (I:Nat->World->Prop) (hI:AbT w.heap.size T I) (h0:I 0 w)
  (pN:z3_ F (n-1-1) P (w.heap.size+1) w.heap.size T L I ps a.tmps assign body)
  (sJ:∀ W,I L.length W->W.heap[w.heap.size]?=some (.deferred (some []))->Q .normal { a with defers:={ target:=.collected w.heap.size,args:=#[] }::a.defers } W) :
  (Code.rangeFunc g ps assign body).wpIn F n P Q a w:=by
 refine wpIn_rangeFunc ?_;intro fn sH;rw [Ar];obtain ⟨W1,oZ⟩:=oN ((w.alloc (.deferred (some []))).alloc (.loop (dH fn a.tmps ps assign body w.heap.size .ready)));have tr:W1.heap[w.heap.size+1]?=some (.loop (dH fn a.tmps ps assign body w.heap.size .ready)):=by
  rw [<- oZ];have:=World.alloc_heap_new (w.alloc (.deferred (some []))) (.loop (dH fn a.tmps ps assign body w.heap.size .ready));rwa [World.size_alloc] at this
 have Fp:W1.heap[w.heap.size]?=some (.deferred (some [])):=by
  rw [<- oZ];exact (Below.heap_alloc _ _ _ (by simp)).trans (World.alloc_heap_new w _)
 have pM:Below w.heap.size w W1:=by
  rw [<- oZ];exact ((Below.refl _ w).alloc (n9 _) _).alloc (by simp) _
 have rQ:I 0 W1:=hI 0 w W1 none h0 ⟨pM.os,pM.tape,pM.output,pM.size,fun k hk _=>pM.block k hk⟩ (fun r e=>by cases e)
 refine ⟨w.heap.size+1,[{ target:=.collected w.heap.size,args:=#[] }],W1,{ target:=.fn (.func gf) lb,args:=#[.func (.yield (w.heap.size+1)) #[] #[]] },W1,gf,
  #[.func (.yield (w.heap.size+1)) #[] #[]]++lb,W1,?_,?_,?_,?_,fun _=>h1,?_⟩
 ·rw [<- oZ];exact run_enterLoop_outer _ _ _ _ _
 ·simp only [resolve,hg];simp [go_sem]
 ·intro f' yD;simp [Target.leads] at yD;subst yD;exact Bz
 ·simp [invoke,go_sem,eg]
 ·refine (H6_ sH rY (pD.trans (pM.mono pD.size)) hps (by omega) pM.size tr (some w.heap.size) (fun D e=>by cases e;exact ⟨by omega,n9 _,Fp⟩) hI rQ pN).mono ?_;rintro e W2 ⟨⟨v,rfl⟩,hi,hl,hk⟩;refine ⟨none,_,by have:=run_endLoop (P:=P) hl (by simp [dH]);exact this,sJ _ (hI _ _ _ _ hi (grownBy_putObj' W2 _ _) (fun r e=>by cases e;exact ⟨by omega,_,hl,.inl rfl⟩)) ((World.putObj_heap_other (by omega)).trans (hk _ rfl))⟩
theorem G8_ {F:Fence} {n:Nat} {P:Program} {g:Operand} {ps:Array Tmp} {assign body:Code} {Q:Exit->Act->World->Prop} {a:Act} {w:World}
  {l₀:Nat} {r₀:Loop} (Ar:F.round=some l₀) (hl₀:w.heap[l₀]?=some (.loop r₀)) (h1:1<=n) {gf:Nat} {lb:Array Value} (hg:a.eval g=.func (.func gf) #[] lb) (Bz:F.fn gf) (eg:∀ args w,(callFunc gf args).run P w=.ok (.enter gf args) w)
  {T:TypeId} {L:List (List Nat)} {w0:World} (rY:jb F (n-1) P gf lb T L w0) (pD:Below w0.heap.size w0 w) (hps:ps.size=1) (I:Nat->World->Prop) (hI:AbT w.heap.size T I) (h0:I 0 w)
  (pN:z3_ F (n-1-1) P w.heap.size w.heap.size T L I ps a.tmps assign body)
  (sJ:∀ W,I L.length W->Q .normal a W) :
  (Code.rangeFunc g ps assign body).wpIn F n P Q a w:=by
 refine wpIn_rangeFunc ?_;intro fn sH;rw [Ar];obtain ⟨W1,oZ⟩:=oN (w.alloc (.loop (dH fn a.tmps ps assign body r₀.defers .ready)));have tr:W1.heap[w.heap.size]?=some (.loop (dH fn a.tmps ps assign body r₀.defers .ready)):=by rw [<- oZ];exact World.alloc_heap_new w _
 have pM:Below w.heap.size w W1:=by
  rw [<- oZ];exact (Below.refl _ w).alloc (n9 _) _
 have rQ:I 0 W1:=hI 0 w W1 none h0 ⟨pM.os,pM.tape,pM.output,pM.size,fun k hk _=>pM.block k hk⟩ (fun r e=>by cases e)
 refine ⟨w.heap.size,[],W1,{ target:=.fn (.func gf) lb,args:=#[.func (.yield w.heap.size) #[] #[]] },W1,gf,
  #[.func (.yield w.heap.size) #[] #[]]++lb,W1,?_,?_,?_,?_,fun _=>h1,?_⟩
 ·rw [<- oZ];exact run_enterLoop_inner hl₀ _ _ _ _ _
 ·simp only [resolve,hg];simp [go_sem]
 ·intro f' yD;simp [Target.leads] at yD;subst yD;exact Bz
 ·simp [invoke,go_sem,eg]
 ·refine (H6_ sH rY (pD.trans (pM.mono pD.size)) hps (n9 _) pM.size tr none (fun D e=>by cases e) hI rQ pN).mono ?_;rintro e W2 ⟨⟨v,rfl⟩,hi,hl,-⟩;refine ⟨none,_,by have:=run_endLoop (P:=P) hl (by simp [dH]);exact this,sJ _ (hI _ _ _ _ hi (grownBy_putObj' W2 _ _) (fun r e=>by cases e;exact ⟨n9 _,_,hl,.inl rfl⟩))⟩
def mJ {β:Type} (B:Nat) (J:β->World->Prop):Prop :=
 ∀ s W W' row,J s W->W.grownBy W' row->(∀ r,row=some r->B<=r/\∃ o:Obj,W.heap[r]?=some o/\o.isCells=false)->J s W'
theorem mJ.ext {β:Type} {B:Nat} {J:β->World->Prop} (h:mJ B J) {s:β} {W W':World} (hj:J s W) (he:aA W W'):J s W' :=
 h s W W' none hj ⟨he.os,he.tape,he.output,he.size,fun k hk _=>he.block k hk⟩ (fun r e=>by cases e)
def K2_ (F:Fence) (n:Nat) (P:Program) (g:Nat) (lb:Array Value) (m:Nat) (Y:Nat->World->World->Array Value->Prop) (V0 V:World->Prop):Prop :=
 ∀ (l:Nat) (J:Nat->World->Prop) (W:World),V0 W->(∀ i A A',J i A->aA A A'->J i A')->(∀ i A,J i A->V A) ->
  (∀ i A W1 args,i<m->J i A->aA A W1->Y i A W1 args->YieldAt F (n-1) P l args W1 fun e W'=>e=.returned (.bool true)/\J (i+1) W') ->
  J 0 W->CallsIn F n P g (#[.func (.yield l) #[] #[]]++lb) W fun e W'=>(∃ v,e=.returned v)/\J m W'
def Z0E (F:Fence) (n:Nat) (P:Program) (l B m:Nat) (Y:Nat->World->World->Array Value->Prop) (I:Nat->World->Prop) (ps:Array Tmp) (tmps:Array Value) (assign body:Code):Prop :=
 ∀ i A W args,i<m->I i A->aA A W->Y i A W args->(∃ r,W.heap[l]?=some (.loop r)) ->
  assign.wpIn (F.inRound l) n P (Exit.then (fun a' Wa=>KeepsFrom B W Wa /\
   ∀ Wb,Wa.grownBy Wb (some l)->(∃ r,Wa.heap[l]?=some (.loop r))->(∃ r,Wb.heap[l]?=some (.loop r)) ->
    body.wpIn (F.inRound l) n P (fun e _ W3=>e=.normal/\KeepsFrom B Wb W3/\I (i+1) W3) a' Wb) (fun _ _ _=>False))
   { tmps:=(ps.zip args).foldl (fun t (p,u)=>t.setIfInBounds p u) tmps,defers:=[] } W
theorem o4_ {F:Fence} {n:Nat} {P:Program} {gf:Nat} {lb:Array Value} {m:Nat} {Y:Nat->World->World->Array Value->Prop} {V0 V:World->Prop} {W1:World} {l B dd:Nat} {fn:FuncId} {tmps:Array Value} {ps:Array Tmp} {assign body:Code} {I:Nat->World->Prop}
  (sH:F.fn fn) (rY:K2_ F n P gf lb m Y V0 V) (hb1:V0 W1) (hY:∀ i A W args,Y i A W args->args.size=ps.size) (hB:B<=l) (CA:B<=W1.heap.size) (hl:W1.heap[l]?=some (.loop (dH fn tmps ps assign body dd .ready)))
  (eD:Option Nat) (hD:∀ D,eD=some D->D≠l/\B<=D/\W1.heap[D]?=some (.deferred (some []))) (hI:mJ B I) (Fq:∀ i A,I i A->V A) (h0:I 0 W1)
  (pN:Z0E F (n-1) P l B m Y I ps tmps assign body) :
  CallsIn F n P gf (#[.func (.yield l) #[] #[]]++lb) W1 fun e W'=>(∃ v,e=.returned v)/\I m W'/\W'.heap[l]?=some (.loop (dH fn tmps ps assign body dd .ready))/\∀ D,eD=some D->W'.heap[D]?=some (.deferred (some [])):=by
 refine rY l (fun i W=>I i W/\W.heap[l]?=some (.loop (dH fn tmps ps assign body dd .ready))/\∀ D,eD=some D->W.heap[D]?=some (.deferred (some []))) W1 hb1 ?_ (fun i A h=>Fq i A h.1) ?_ ⟨h0,hl,fun D e=>(hD D e).2.2⟩
 ·rintro i A A' ⟨k1,k2,k3⟩ he;exact ⟨hI.ext k1 he,(he.block l (Array.getElem?_eq_some_iff.1 k2).1).trans k2,fun D e=>(he.block D (Array.getElem?_eq_some_iff.1 (k3 D e)).1).trans (k3 D e)⟩
 ·rintro i A W args him ⟨k1,k2,k3⟩ he hv;have DW:W.heap[l]?=some (.loop (dH fn tmps ps assign body dd .ready)):=(he.block l (Array.getElem?_eq_some_iff.1 k2).1).trans k2;have JY:∀ D,eD=some D->W.heap[D]?=some (.deferred (some [])):=fun D e=>(he.block D (Array.getElem?_eq_some_iff.1 (k3 D e)).1).trans (k3 D e);have hy:=run_yield (P:=P) (args:=args) DW (by simp [dH,hY i A W args hv]);refine ⟨fn,_,assign,body,hy,roundIn_of_wpIn sH (wpIn_mono (pN i A W args him k1 he hv ⟨_,DW⟩) ?_)⟩;rintro e a' Wa hp;cases e with
  | normal =>
   obtain ⟨p1,p3⟩:=hp;have m2:=p1.same _ _ hB DW rfl;have m3:∀ D,eD=some D->Wa.heap[D]?=some (.deferred (some [])):=fun D e=>p1.same _ _ (hD D e).2.1 (JY D e) rfl;have hlt:l<Wa.heap.size:=(Array.getElem?_eq_some_iff.1 m2).1;refine ⟨_,run_beginRound m2 rfl,?_⟩;have b2:(Wa.putObj l (.loop { dH fn tmps ps assign body dd .ready with state:=.busy })).heap[l]?=some (.loop { dH fn tmps ps assign body dd .ready with state:=.busy }):=World.putObj_heap_same hlt;have b3:∀ D,eD=some D->(Wa.putObj l (.loop { dH fn tmps ps assign body dd .ready with state:=.busy })).heap[D]?=some (.deferred (some [])):=fun D e=>(World.putObj_heap_other (hD D e).1).trans (m3 D e);refine wpIn_mono (p3 _ (grownBy_putObj' Wa l _) ⟨_,m2⟩ ⟨_,b2⟩) ?_;rintro e a3 W3 ⟨rfl,q1,q3⟩;have c2:=q1.same _ _ hB b2 rfl;have c3:∀ D,eD=some D->W3.heap[D]?=some (.deferred (some [])):=fun D e=>q1.same _ _ (hD D e).2.1 (b3 D e) rfl;have hr:=run_endRound (P:=P) none c2;have yy:l<W3.heap.size:=(Array.getElem?_eq_some_iff.1 c2).1;refine ⟨_,_,hr,rfl,?_,?_,fun D e=>(World.putObj_heap_other (hD D e).1).trans (c3 D e)⟩;·exact hI _ _ _ _ q3 (grownBy_putObj' W3 l _) (fun r e=>by cases e;exact ⟨hB,_,c2,rfl⟩)
   ·rw [World.putObj_heap_same yy];rfl
  | _=>exact hp.elim
theorem V2_ {F:Fence} {n:Nat} {P:Program} {g:Operand} {ps:Array Tmp} {assign body:Code} {Q:Exit->Act->World->Prop} {a:Act} {w:World}
  (Ar:F.round=none) (h1:1<=n) {gf:Nat} {lb:Array Value} (hg:a.eval g=.func (.func gf) #[] lb) (Bz:F.fn gf) (eg:∀ args w,(callFunc gf args).run P w=.ok (.enter gf args) w)
  {m:Nat} {Y:Nat->World->World->Array Value->Prop} {V0 V:World->Prop} (rY:K2_ F (n-1) P gf lb m Y V0 V) (pD:∀ W,aA w W->V0 W) (hY:∀ i A W args,Y i A W args->args.size=ps.size) (I:Nat->World->Prop) (hI:mJ w.heap.size I) (Fq:∀ i A,I i A->V A) (h0:I 0 w)
  (pN:Z0E F (n-1-1) P (w.heap.size+1) w.heap.size m Y I ps a.tmps assign body)
  (sJ:∀ W,I m W->W.heap[w.heap.size]?=some (.deferred (some []))->Q .normal { a with defers:={ target:=.collected w.heap.size,args:=#[] }::a.defers } W) :
  (Code.rangeFunc g ps assign body).wpIn F n P Q a w:=by
 refine wpIn_rangeFunc ?_;intro fn sH;rw [Ar];obtain ⟨W1,oZ⟩:=oN ((w.alloc (.deferred (some []))).alloc (.loop (dH fn a.tmps ps assign body w.heap.size .ready)));have tr:W1.heap[w.heap.size+1]?=some (.loop (dH fn a.tmps ps assign body w.heap.size .ready)):=by
  rw [<- oZ];have:=World.alloc_heap_new (w.alloc (.deferred (some []))) (.loop (dH fn a.tmps ps assign body w.heap.size .ready));rwa [World.size_alloc] at this
 have Fp:W1.heap[w.heap.size]?=some (.deferred (some [])):=by
  rw [<- oZ];exact (Below.heap_alloc _ _ _ (by simp)).trans (World.alloc_heap_new w _)
 have pM:Below w.heap.size w W1:=by
  rw [<- oZ];exact ((Below.refl _ w).alloc (n9 _) _).alloc (by simp) _
 have rQ:I 0 W1:=hI.ext h0 pM
 refine ⟨w.heap.size+1,[{ target:=.collected w.heap.size,args:=#[] }],W1,{ target:=.fn (.func gf) lb,args:=#[.func (.yield (w.heap.size+1)) #[] #[]] },W1,gf,
  #[.func (.yield (w.heap.size+1)) #[] #[]]++lb,W1,?_,?_,?_,?_,fun _=>h1,?_⟩
 ·rw [<- oZ];exact run_enterLoop_outer _ _ _ _ _
 ·simp only [resolve,hg];simp [go_sem]
 ·intro f' yD;simp [Target.leads] at yD;subst yD;exact Bz
 ·simp [invoke,go_sem,eg]
 ·refine (o4_ sH rY (pD _ pM) hY (by omega) pM.size tr (some w.heap.size) (fun D e=>by cases e;exact ⟨by omega,n9 _,Fp⟩) hI Fq rQ pN).mono ?_;rintro e W2 ⟨⟨v,rfl⟩,hi,hl,hk⟩;refine ⟨none,_,by have:=run_endLoop (P:=P) hl (by simp [dH]);exact this,sJ _ (hI _ _ _ _ hi (grownBy_putObj' W2 _ _) (fun r e=>by cases e;exact ⟨by omega,_,hl,rfl⟩)) ((World.putObj_heap_other (by omega)).trans (hk _ rfl))⟩
end Go.Proofs.YtoonaddcfakamaaGreatDoor
namespace Go.Proofs.YtoonaddcfakamaaGreatDoor
open Go.RowKit Go.Proofs.Tryz
theorem bG {w:World} {B:Nat} {x y:Value} (h:w.heap[B]?=some (.cells #[x,y] 76 (0,0))):w.cell? ⟨B,0,none⟩=some x/\w.cell? ⟨B,1,none⟩=some y/\∀ i,w.frozen? ⟨B,i,none⟩=false:=by
 have c0:=ag h 0;have c1:=ag h 1;simp only [oF,oE,oD] at c0 c1;exact ⟨c0,c1,fun i=>cO h i⟩
theorem eE {w:World} {B:Nat} {x y:Value} (h:w.heap[B]?=some (.cells #[x,y] 76 (0,0))) (a b:Value):((w.setCell ⟨B,0,none⟩ a).setCell ⟨B,1,none⟩ b).heap[B]?=some (.cells #[a,b] 76 (0,0)):=by
 have:=d_ (d_ h 0 a) 1 b;simpa using this
theorem cL (w:World) (x y:Value):∃ W,w.alloc (.cells #[x,y] 76)=W/\aA w W/\W.heap.size=w.heap.size+1/\W.heap[w.heap.size]?=some (.cells #[x,y] 76 (0,0)):=⟨_,rfl,aA.alloc _ _,by simp,dE _ _ _⟩
theorem db {w W:World} {B:Nat} (hE:aA w W) (hB:w.heap.size<=B) (a b:Value):aA w ((W.setCell ⟨B,0,none⟩ a).setCell ⟨B,1,none⟩ b) :=
 Below.setCell (Below.setCell hE hB _) hB _
def Z2P (n:Int) (xss:oP) (k:Int) (yss:oP):Int :=
 if bz n xss=0 then (if bz k yss=0 then (if n=k then 0 else 5) else bz k yss) else bz n xss
theorem y3_ (n k:Int) (xss yss:oP) (v u:Value) (w:World) (h:bj w v n xss) (h':bj w u k yss) :
  oL 134 #[v,u] w (.int .i64 (Z2P n xss k yss)):=by
 have HCA:=np (fun W (hW:aA w W)=>kX n xss v W (h.ext hW));have HCB:=np (fun W (hW:aA w W)=>kX k yss u W (h'.ext hW));obtain ⟨v1,rfl,hv⟩:=h;obtain ⟨u1,rfl,hu⟩:=h';obtain ⟨a,c,rfl,h1,h2,-,hc⟩:=aP.open hv;obtain ⟨a',c',rfl,k1,k2,-,kc⟩:=aP.open hu;clear hv hu hc kc;obtain ⟨NX,tR⟩:=oN xss.length;obtain ⟨NY,Fj⟩:=oN yss.length;obtain ⟨E,hE⟩:=oN (bz n xss);obtain ⟨F,hF⟩:=oN (bz k yss);obtain ⟨G,hG⟩:=oN (Z2P n xss k yss);have HV:Hid (G=if E=0 then (if F=0 then (if n=k then 0 else 5) else F) else E):=by unfold Hid;rw [<- hG,<- hE,<- hF];rfl
 rw [hE,tR] at HCA;rw [hF,Fj] at HCB;rw [hG,tR,Fj];clear hE hF hG tR Fj h1 k1
 go_enter func134,ntmps134
 obtain ⟨W1,oZ,hE1,hs1,hb1'⟩:=cL w (.int .i64 n) (.slice a NX c);obtain ⟨W2,pg,hE2,hs2,hb2'⟩:=cL W1 (.int .i64 k) (.slice a' NY c');obtain ⟨W3,rO⟩:=oN (W2.alloc (.cells #[.int .i64 n,.slice a NX c,.int .i64 k,.slice a' NY c'] 76));have oT:aA W2 W3:=by rw [<- rO];exact aA.alloc _ _
 have BX:W3.heap[W2.heap.size]?=some (.cells #[.int .i64 n,.slice a NX c,.int .i64 k,.slice a' NY c'] 76 (0,0)):=by rw [<- rO];exact dE _ _ _
 have HB1:=np (aF (aF hb1' hE2) oT);have HB2:=np (aF hb2' oT);have HB3:=np BX;have HE3:=np (hE1.trans (hE2.trans oT));obtain ⟨sU,sR,-⟩:=bG (aF hb1' hE2);obtain ⟨GH,GG,-⟩:=bG hb2';have z2:W1.heap.size=w.heap.size+1:=hs1;have z3:W2.heap.size=w.heap.size+1+1:=by omega
 rw [z2] at GH GG HB2;rw [z3] at HB3;clear hE1 hE2 oT hb1' hb2' BX hs1 hs2;go_wp2_with fail;clear oZ pg rO sU sR GH GG z2
 go_loopw [12] (fun t wr=>∃ i:Nat,i<=2/\t=.int .i64 i/\Hid (aA W3 wr)/\Hid (0<i->E=0)/\Hid (1<i->F=0)) (fun t _=>2-(intOf t).toNat)
 case atStart=>exact ⟨0,by omega,rfl,aA.refl _,fun h=>by omega,fun h=>by omega⟩
 case round =>
  obtain ⟨i,hi,rfl,HE,HI1,HI2⟩:=hrel;obtain ⟨wo,rfl⟩:∃ wo:World,wo=wr:=⟨_,rfl⟩;by_cases hlt:i<2
  ·have hB:=aF HB3 HE;obtain ⟨Wb,MQ,Fx,Jq,qE⟩:=cL wo (.int .i64 0) (.slice none 0 0);obtain ⟨r0,r1,rf⟩:=bG qE;have f0:=rf 0;have f1:=rf 1;obtain ⟨D,hD⟩:∃ D:Int,D=if i=0 then E else F:=⟨_,rfl⟩
   have HG:Hid (D≠0->G=D):=by
    intro h0;rw [hD] at h0 |-;by_cases xU:i=0;·rw [if_pos xU] at h0 |-;rw [HV.out,if_neg h0]
    ·rw [if_neg xU] at h0 |-;rw [HV.out,if_pos (HI1.out (by omega)),if_neg h0]
   have HN1:Hid (D=0->0<i+1->E=0):=by
    intro h0 _;rw [hD] at h0;by_cases xU:i=0;·rw [if_pos xU] at h0;exact h0
    ·exact HI1 (by omega)
   have pY:Hid (D=0->1<i+1->F=0):=by
    intro h0 _;rw [hD,if_neg (by omega)] at h0;exact h0
   clear HI1 HI2;rcases (by omega:i=0\/i=1) with rfl | rfl
   case' inl =>
    have d0:=ag hB 0;have d1:=ag hB 1;have HBS:=np (eE qE (.int .i64 n) (.slice a NX c));have HES:=np (db Fx (n9 _) (.int .i64 n) (.slice a NX c));obtain rfl:D=E:=hD;have HCK:=np HCA
   case' inr =>
    have d0:=ag hB 2;have d1:=ag hB 3;have HBS:=np (eE qE (.int .i64 k) (.slice a' NY c'));have HES:=np (db Fx (n9 _) (.int .i64 k) (.slice a' NY c'));obtain rfl:D=F:=hD;have HCK:=np HCB
   all_goals
    simp only [oF,oE,oD] at d0 d1;clear hB rf qE Fx Jq
    try clear hD
    by_cases xF:D=0
    ·have HN1':=np (HN1 xF);have HN2':=np (pY xF);have HD0:=np xF;clear HN1 pY HG;rw [xF] at HCK;clear xF;go_wp2_with fail;refine (HCK _ (HE3.trans (HE.trans HES))).mono ?_;rintro e w7 ⟨rfl,pK⟩;have HE7:=np (HE.trans (HES.trans pK));clear pK;go_wp2_with fail;go_roundw
     case rel=>first | exact ⟨1,by omega,by first | rfl | go_num,HE7,HN1',HN2'⟩ | exact ⟨2,by omega,by first | rfl | go_num,HE7,HN1',HN2'⟩
     case measure=>simp [intOf]
    ·have HG':=np (HG xF);clear HN1 pY HG;go_wp2_with fail;refine (HCK _ (HE3.trans (HE.trans HES))).mono ?_;rintro e w7 ⟨rfl,pK⟩;have HE7:=np (HE.trans (HES.trans pK));clear pK;go_wp2_with fail;go_ret;exact ⟨by rw [HG'.out];rfl,HE3.trans HE7⟩
  ·obtain rfl:i=2:=(by omega);have HE0:=np (HE3.trans HE);have hG:G=if n=k then 0 else 5:=by rw [HV.out,if_pos (HI1.out (by omega)),if_pos (HI2.out (by omega))]
   have e0:=ag (aF HB1 HE) 0;have e1:=ag (aF HB2 HE) 0;simp only [oF,oE,oD] at e0 e1;by_cases BB:n=k
   ·have HG2:Hid (G=0):=(by rw [if_pos BB] at hG;exact hG);clear hG;go_wp2_with fail;go_ret;exact ⟨by rw [HG2.out];rfl,HE0⟩
   ·have HG2:Hid (G=5):=(by rw [if_neg BB] at hG;exact hG);clear hG;go_wp2_with fail;go_ret;exact ⟨by rw [HG2.out];rfl,HE0⟩
theorem Z41 (x y:Int) (w:World) (hx:(aB x).size<=2800000000) (hy:(aB y).size<=2800000000) (ht:aZ w) :
  oL 301 #[.string (aB x),.string (aB y)] w (.string (aB (x-y))):=by
 have HN:=np (nP y w (by omega));have x7:(aB (-y)).size<=2900000000:=by
  have h1:=gB (-y);have h2:=dw y;rw [Int.natAbs_neg] at h1;omega
 have HA:Hid (∀ W,aA w W->oL 116 #[.string (aB x),.string (aB (-y))] W (.string (aB (x+-y)))):=fun W hE=>M1_ x (-y) W (by omega) x7 (ht.ext hE);rw [show x+-y=x-y by omega] at HA;clear ht hx hy x7
 go_enter func301,ntmps301
 go_wp2_with fail;refine HN.mono ?_;rintro e w0 ⟨rfl,qG⟩;have HE0:=np qG;clear HN qG;go_wp2_with fail;refine p_ (HA _ HE0) (aA.trans HE0) ?_;intro w1 HE1;clear HA;go_wp2_with fail;go_ret;exact ⟨rfl,HE1⟩
def Sz (n:Int):Prop:=(aE n.natAbs).size<=1000000000
def lH (n:Int):Prop:=(aE n.natAbs).size<=400000000
theorem fu {n:Int} (h:bX n=true):Sz n:=(v9_ n).1 h
theorem mB {n:Int} (h:fg n=true):lH n:=(d3_ n).1 h
theorem Sz.size {n:Int} (h:Sz n):(aB n).size<=1000000001:=by
 unfold Sz at h;have:=gB n;omega
theorem lH.size {n:Int} (h:lH n):(aB n).size<=400000001:=by
 unfold lH at h;have:=gB n;omega
theorem Sz.natAbs {n:Int} (h:Sz n):Sz (n.natAbs:Int):=by
 unfold Sz at h |-;rw [Int.natAbs_natCast];exact h
theorem Sz.neg {n:Int} (h:Sz n):Sz (-n):=by
 unfold Sz at h |-;rw [Int.natAbs_neg];exact h
theorem Z3D (x y:Int):(aB (x*y)).size<=(aB x).size+(aB y).size+1:=by
 have h1:=gB (x*y);have h2:=dw x;have h3:=dw y;have h4:=nQ x.natAbs y.natAbs;rw [Int.natAbs_mul] at h1;omega
theorem Z6g (x y:Int) (w:World) (hx:lH x) (hy:lH y) (ht:aZ w) :
  oL 66 #[.string (aB x),.string (aB y)] w (.string (aB (x*y))) :=
 jv x y w (by have:=hx.size;omega) (by have:=hy.size;omega) ht
theorem Z6B (x y:Int) (w:World) (hx:Sz x) (hy:(aB y).size<=1000000001) (ht:aZ w) :
  oL 301 #[.string (aB x),.string (aB y)] w (.string (aB (x-y))) :=
 Z41 x y w (by have:=hx.size;omega) (by omega) ht
theorem mv (x y:Int) (w:World) (hx:Sz x) (hy:Sz y) (h0:y≠0) (ht:aZ w) :
  oL 112 #[.string (aB x),.string (aB y)] w (.tuple #[.string (aB (aQ x y)),.string (aB (bK x y)),.int .i64 0]) :=
 U8_ x y w (by have:=hx.size;omega) (by have:=hy.size;omega) h0 ht
theorem Z3W (x y:Int) (h:x.sign≠y.sign):(x.sign<y.sign↔x<y)/\x≠y:=by
 rcases Int.lt_trichotomy x 0 with hx | hx | hx <;> rcases Int.lt_trichotomy y 0 with hy | hy | hy
 all_goals first
  | (rw [Int.sign_eq_neg_one_of_neg hx] at h |-) | (rw [hx] at h |-;rw [show (0:Int).sign=0 from rfl] at h |-) | (rw [Int.sign_eq_one_of_pos hx] at h |-)
 all_goals first
  | (rw [Int.sign_eq_neg_one_of_neg hy] at h |-) | (rw [hy] at h |-;rw [show (0:Int).sign=0 from rfl] at h |-) | (rw [Int.sign_eq_one_of_pos hy] at h |-)
 all_goals first | (exact absurd rfl h) | omega
def eT (x y:Int):Int:=if x<y then -1 else if x=y then 0 else 1
theorem X2_ (n:Int) (hs:(aB n).size<=10000000000):(aE n.natAbs).size<=10000000000:=by
 by_cases h:n<0;·have:=kT n h;omega
 ·rw [fX n (by omega)] at hs;rw [show n.natAbs=n.toNat by omega];exact hs
theorem s1_ (x y:Int) (w:World) (hx:(aB x).size<=10000000000) (hy:(aB y).size<=10000000000) :
  Calls prog 152 #[.string (aB x),.string (aB y)] w fun e w'=>e=.returned (.int .i64 (eT x y))/\∃ k,w'=w.drewN k:=by
 have H1:=np (fun W=>nd x W);have H2:=np (fun W=>nd y W);have H3:=np (fun W=>u0_ x W);have H4:=np (fun W=>u0_ y W);have H5:=np (fun W=>Z3_ x.natAbs y.natAbs W (X2_ x hx) (X2_ y hy));have H6:=np (fun W=>Z3_ y.natAbs x.natAbs W (X2_ y hy) (X2_ x hx));by_cases hs:x.sign=y.sign
 ·obtain ⟨s,sV⟩:=oN x.sign;rw [sV] at H1;rw [<- hs,sV] at H2;by_cases hn:x<0
  ·have wh:y<0:=by
    rw [Int.sign_eq_neg_one_of_neg hn] at hs;exact Int.sign_eq_neg_one_iff_neg.1 hs.symm
   have HC:Hid (cW y.natAbs x.natAbs=eT x y):=by
    unfold Hid cW eT;rcases Int.lt_trichotomy x y with h | h | h;·rw [if_pos (by omega),if_pos h]
    ·rw [if_neg (by omega),if_pos (by omega),if_neg (by omega),if_pos h]
    ·rw [if_neg (by omega),if_neg (by omega),if_neg (by omega),if_neg (by omega)]
   rw [HC.out] at H6;have hb:decide (x<0)=true:=oH hn;have oY:decide (y<0)=true:=oH wh;rw [hb] at H3;rw [oY] at H4;have tG:(s != s)=false:=(by simp);clear hs sV hn wh hb oY HC H5
   go_enter func152,ntmps152
   go_wp2_with fail;refine q_ (H1 _) ?_;clear H1;go_wp2_with fail;refine q_ (H2 _) ?_;clear H2;go_wp2_with fail;refine (H3 _).mono ?_;rintro e w1 ⟨rfl,k1,rfl⟩;clear H3;go_wp2_with fail;refine (H4 _).mono ?_;rintro e w2 ⟨rfl,k2,rfl⟩;clear H4;go_wp2_with fail;refine q_ (H6 _) ?_;clear H6;go_wp2_with fail;go_ret;exact ⟨rfl,_,rfl⟩
  ·have wh:¬ y<0:=by
    intro h;rw [Int.sign_eq_neg_one_of_neg h] at hs;exact hn (Int.sign_eq_neg_one_iff_neg.1 hs)
   have HC:Hid (cW x.natAbs y.natAbs=eT x y):=by
    unfold Hid cW eT;rcases Int.lt_trichotomy x y with h | h | h;·rw [if_pos (by omega),if_pos h]
    ·rw [if_neg (by omega),if_pos (by omega),if_neg (by omega),if_pos h]
    ·rw [if_neg (by omega),if_neg (by omega),if_neg (by omega),if_neg (by omega)]
   rw [HC.out] at H5;have hb:decide (x<0)=false:=oG hn;have oY:decide (y<0)=false:=oG wh;rw [hb] at H3;rw [oY] at H4;have tG:(s != s)=false:=(by simp);clear hs sV hn wh hb oY HC H6
   go_enter func152,ntmps152
   go_wp2_with fail;refine q_ (H1 _) ?_;clear H1;go_wp2_with fail;refine q_ (H2 _) ?_;clear H2;go_wp2_with fail;refine (H3 _).mono ?_;rintro e w1 ⟨rfl,k1,rfl⟩;clear H3;go_wp2_with fail;refine (H4 _).mono ?_;rintro e w2 ⟨rfl,k2,rfl⟩;clear H4;go_wp2_with fail;refine q_ (H5 _) ?_;clear H5;go_wp2_with fail;go_ret;exact ⟨rfl,_,rfl⟩
 ·obtain ⟨pc,hc2⟩:=Z3W x y hs;obtain ⟨s,sV⟩:=oN x.sign;obtain ⟨t,G7⟩:=oN y.sign;rw [sV] at H1 hs pc;rw [G7] at H2 hs pc;have hst:(s != t)=true:=by simpa using hs
  clear H3 H4 H5 H6 sV G7 hs;by_cases hlt:s<t
  ·have HC:Hid (eT x y=-1):=(by unfold Hid eT;rw [if_pos (pc.1 hlt)]);rw [HC.out];clear HC pc hc2
   go_enter func152,ntmps152
   go_wp2_with fail;refine q_ (H1 _) ?_;clear H1;go_wp2_with fail;refine q_ (H2 _) ?_;clear H2;go_wp2_with fail;go_ret;exact ⟨rfl,0,rfl⟩
  ·have HC:Hid (eT x y=1):=(by unfold Hid eT;rw [if_neg (fun h=>hlt (pc.2 h)),if_neg hc2]);rw [HC.out];clear HC pc hc2
   go_enter func152,ntmps152
   go_wp2_with fail;refine q_ (H1 _) ?_;clear H1;go_wp2_with fail;refine q_ (H2 _) ?_;clear H2;go_wp2_with fail;go_ret;exact ⟨rfl,0,rfl⟩
theorem l2_ (x y:Int) (w:World) (hx:(aB x).size<=10000000000) (hy:(aB y).size<=10000000000) :
  oL 152 #[.string (aB x),.string (aB y)] w (.int .i64 (eT x y)) :=
 (s1_ x y w hx hy).mono fun _ _ ⟨h,k,hw⟩=>⟨h,hw▸aA.drewN _ _⟩
end Go.Proofs.YtoonaddcfakamaaGreatDoor
