import Derived.Test.YtoonaddcfakamaaGreatDoorYAN
import Derived.Test.YtoonaddcfakamaaGreatDoorYAU
import Derived.Test.YtoonaddcfakamaaGreatDoorYAV
import Derived.Test.YtoonaddcfakamaaGreatDoorYAI
import Derived.Test.YtoonaddcfakamaaGreatDoorYAS
import Derived.Test.YtoonaddcfakamaaGreatDoorYAC
import Derived.Test.YtoonaddcfakamaaGreatDoorYAL
import Derived.Test.YtoonaddcfakamaaGreatDoorYAG
set_option linter.unusedVariables false
set_option linter.unusedSimpArgs false
set_option maxRecDepth 1000000
set_option maxHeartbeats 4000000
namespace Go.Proofs.YtoonaddcfakamaaGreatDoor
open Go.RowKit Go.Proofs.Tryz
theorem Z37 {l m:oQ} (h:l.length=m.length) (hg:∀ i,i<l.length->l.getD i 0=m.getD i 0):l=m:=by
 apply List.ext_getElem h;intro i h1 h2;have:=hg i h1;rw [nu,nu,ns h1,ns h2] at this;exact this
theorem Z1h (f:Nat->Int) (l:List Nat) (i:Nat) (hi:i<l.length):(l.map f).getD i 0=f (l.getD i 0):=by
 rw [nu,nu,nx,ns hi];rfl
theorem J3_ (n k:Nat) (X:oQ):(dR n k X).length=(ai n (n-k)).length:=by unfold dR;rw [List.length_map]
theorem g7_ {n k i:Nat} {X:oQ} (hi:i<(ai n (n-k)).length):(dR n k X).getD i 0=eQ (X.getD (eY n k (dX n ((ai n (n-k)).getD i 0))) 0) (gF (dX n ((ai n (n-k)).getD i 0)) ((ai n (n-k)).getD i 0)):=by
 unfold dR;exact Z1h _ _ _ hi
def Z5Z (n k:Nat):Bool:=(List.range (ai n k).length).all fun i =>
 let s:=(ai n k).getD i 0
 let j:=eY n (n-k) (dX n s)
 let t:=(ai n (n-k)).getD j 0
 decide (j<(ai n (n-k)).length) && decide (eY n k (dX n t)=i) && decide ((gF (dX n s) s ^^ gF (dX n t) t)=decide (k*(n-k)%2=1))
theorem Z33:∀ n,n<7->∀ k,k<n+1->Z5Z n k=true:=by decide +kernel
theorem Z2j (x:Int) (o p:Bool):eQ (eQ x o) p=eQ x (p ^^ o):=by cases o <;> cases p <;> simp [eQ]
theorem Z11 {n k:Nat} (hn:n<7) (hk:k<=n) (X:oQ) (hX:X.length=(ai n k).length):dR n (n-k) (dR n k X)=X.map fun x=>eQ x (decide (k*(n-k)%2=1)):=by
 have Cw:n-(n-k)=k:=by omega
 refine Z37 (by rw [J3_,Cw,List.length_map,hX]) fun i hi=>?_;rw [J3_,Cw] at hi;have h1:=Z33 n hn k (by omega);have h2:=List.all_eq_true.1 h1 i (List.mem_range.2 hi);simp only [Bool.and_eq_true,decide_eq_true_eq] at h2;obtain ⟨⟨h3,h4⟩,h5⟩:=h2;have e1:=g7_ (n:=n) (k:=n-k) (X:=dR n k X) (i:=i) (by rw [Cw];exact hi);rw [Cw] at e1;rw [e1,g7_ h3,h4,Z2j,h5];rw [nu,nu,nx];have hx:i<X.length:=by omega
 rw [ns hx];rfl
theorem Z35:∀ n,n<5->∀ k,k<=n->eN 8 ((cH n k).length+1)+1<=400000000/\(gN n (eN 8 (cH n k).length) 0).1+1<=400000000/\(gN n (eN 8 (cH n k).length) 0).2+1<=400000000:=by decide +kernel
theorem Z1G (n:Nat) (q D:Int) (v:oQ) (hv:v.length=n):aM (-D) (List.replicate n 0) v=bW D v:=by
 apply List.ext_getElem;·rw [dW];unfold bW;simp [hv]
 ·intro i h1 h2;have e1:(aM (-D) (List.replicate n 0) v).getD i 0=(bW D v).getD i 0:=by
   rw [du (-D) (by simp [hv]),kv,nu,List.getElem?_replicate]
   split <;> simp <;> grind
  rw [nu,nu,ns h1,ns h2] at e1;exact e1
theorem Sp.smul {n:Nat} {S:oQ->Prop} (hS:j_ n S) {v:oQ} (h:Sp n S v) (D:Int):Sp n S (bW D v):=by
 have:=Sp.less (-D) (.zero (n:=n) (S:=S)) h;rw [Z1G n 0 D v (h.len hS)] at this;exact this
theorem Z4l {n:Nat} {A B:oP} {ap bs:Nat->Nat} (hA:aW n A ap) (hB:aW n B bs) (hs:∀ v,Sp n (aG 0 A) v->Sp n (aG 0 B) v):∃ f:Nat->Nat,∀ i,i<A.length->f i<B.length/\bs (f i)=ap i:=by
 have h:∀ i,∃ j,i<A.length->j<B.length/\bs j=ap i:=fun i=>by
  by_cases hi:i<A.length
  ·obtain ⟨j,t,h1,h2,h3,h4⟩:=Sp.lead hB (c:=ap i) (v:=aC A i) (by have:=hA.2.pos i hi;unfold aD at this;omega) (fun c' rM=>hA.2.zero i hi c' rM) B.length 0 (by omega) (hs _ (.mem (ak (Nat.zero_le i) hi)));exact ⟨j,fun _=>⟨h2,h3⟩⟩
  ·exact ⟨0,fun h=>absurd h hi⟩
 exact ⟨fun i=>Classical.choose (h i),fun i hi=>Classical.choose_spec (h i) hi⟩
theorem j3_ {n:Nat} {A B:oP} {ap bs:Nat->Nat} (hA:aW n A ap) (hB:aW n B bs) {f:Nat->Nat} (hf:∀ i,i<A.length->f i<B.length/\bs (f i)=ap i):∀ i,i<A.length->i<=f i
 | 0,_=>Nat.zero_le _
 | i+1,hi=>by
  have h1:=j3_ hA hB hf i (by omega);have h2:=hA.2.mono i (i+1) (by omega) hi;rw [<- (hf i (by omega)).2,<- (hf (i+1) hi).2] at h2;have h3:f i<f (i+1):=by
   by_cases e:f i<f (i+1);·exact e
   ·exfalso;by_cases e2:f i=f (i+1);·rw [e2] at h2;omega
    ·have:=hB.2.mono (f (i+1)) (f i) (by omega) (hf i (by omega)).1;omega
  omega
theorem Z5F {n:Nat} {A B:oP} {ap bs:Nat->Nat} (hA:aW n A ap) (hB:aW n B bs) (hs:∀ v,Sp n (aG 0 A) v->Sp n (aG 0 B) v):A.length<=B.length:=by
 obtain ⟨f,hf⟩:=Z4l hA hB hs;by_cases h:A.length=0;·omega
 ·have h1:=j3_ hA hB hf (A.length-1) (by omega);have h2:=(hf (A.length-1) (by omega)).1;omega
theorem Z3M {n:Nat} {A B:oP} {ap bs:Nat->Nat} (hA:aW n A ap) (hB:aW n B bs) (hs:∀ v,Sp n (aG 0 A) v->Sp n (aG 0 B) v) (hl:A.length=B.length):∀ i,i<A.length->ap i=bs i:=by
 obtain ⟨f,hf⟩:=Z4l hA hB hs;have hinc:=j3_ hA hB hf;have hst:∀ i,i+1<A.length->f i<f (i+1):=fun i hi=>by
  have h2:=hA.2.mono i (i+1) (by omega) hi;rw [<- (hf i (by omega)).2,<- (hf (i+1) hi).2] at h2;by_cases e:f i<f (i+1);·exact e
  ·exfalso;by_cases e2:f i=f (i+1);·rw [e2] at h2;omega
   ·have:=hB.2.mono (f (i+1)) (f i) (by omega) (hf i (by omega)).1;omega
 have hup:∀ t i,i+t<A.length->f i+t<=f (i+t):=by
  intro t
  induction t with
  | zero=>intro i _;exact n9 _
  | succ t ih =>
   intro i hi;have h1:=ih i (by omega);have h2:=hst (i+t) (by omega);rw [show i+(t+1)=i+t+1 by omega];omega
 intro i hi;have h1:=hinc i hi;have h2:=hup (A.length-1-i) i (by omega);have h3:=(hf (A.length-1) (by omega)).1;rw [show i+(A.length-1-i)=A.length-1 by omega] at h2;have h4:f i=i:=by omega
 rw [<- (hf i hi).2,h4]
theorem e5_ {n:Nat} {A B:oP} {ap bs:Nat->Nat} (hA:aW n A ap) (hB:aW n B bs) (hs:∀ v,Sp n (aG 0 A) v->Sp n (aG 0 B) v) (hl:A.length=B.length):∀ (t:Nat),t<=A.length->∀ v,Sp n (aG 0 B) v->(∀ i,i<A.length-t->v.getD (ap i) 0=0)->∃ D:Int,D≠0/\Sp n (aG 0 A) (bW D v)
 | 0,_,v,hv,hz=>by
  have hp:=Z3M hA hB hs hl;have h0:v=List.replicate n 0:=Sp.small hB B.length 0 (by omega) hv fun i _ hi=>by
   rw [<- hp i (by omega),hz i (by omega)];have:=hB.2.pos i hi;rw [<- hp i (by omega)] at this;omega
  refine ⟨1,by decide,?_⟩;rw [show bW 1 v=v by unfold bW;rw [List.map_congr_left (g:=id) (fun x _=>by simp)];simp,h0];exact .zero
 | t+1,ht,v,hv,hz=>by
  obtain ⟨i,hi⟩:=oO (A.length-(t+1));have BP:i<A.length:=by omega
  have G0:v.length=n:=hv.len (cR hB.1);have hAl:=hA.1 i BP;have I2:Sp n (aG 0 A) (aC A i):=.mem (ak (Nat.zero_le i) BP);have hp:=hA.2.pos i BP;obtain ⟨p,hpp⟩:=oN (aD A i (ap i));obtain ⟨q,Aw⟩:=oN (v.getD (ap i) 0);rw [hpp] at hp;have hsl:(bW p v).length=n:=by rw [kx];exact G0
  have hw:Sp n (aG 0 B) (aM q (bW p v) (aC A i)):=.less q (hv.smul (cR hB.1) p) (hs _ I2);have Ag:∀ c,(aM q (bW p v) (aC A i)).getD c 0=p*v.getD c 0-q*aD A i c:=fun c=>by
   rw [du q (by rw [hsl];exact hAl),kv];rfl
  obtain ⟨D,hD,K5⟩:=e5_ hA hB hs hl t (by omega) _ hw fun j hj=>by
   rw [Ag];by_cases e:j=i;·rw [e,hpp,Aw,Int.mul_comm];omega
   ·have sh:j<i:=(by omega);rw [hz j (by omega),hA.2.zero i BP (ap j) (hA.2.mono j i sh BP)];simp
  refine ⟨D*p,Int.mul_ne_zero hD (by omega),?_⟩;have h9:=Sp.less (-(D*q)) K5 I2;have e:aM (-(D*q)) (bW D (aM q (bW p v) (aC A i))) (aC A i)=bW (D*p) v:=by
   have rB:(aM q (bW p v) (aC A i)).length=n:=(by rw [dW,hsl]);apply List.ext_getElem;·rw [dW,kx,kx,rB,G0]
   ·intro c h1 h2;have e1:(aM (-(D*q)) (bW D (aM q (bW p v) (aC A i))) (aC A i)).getD c 0=(bW (D*p) v).getD c 0:=by
     rw [du _ (by rw [kx,rB];exact hAl),kv,kv,Ag];unfold aD;grind
    rw [nu,nu,ns h1,ns h2] at e1;exact e1
  rw [e] at h9;exact h9
theorem Z4C {n k:Nat} {X:oQ} {l:oP} {ps:Nat->Nat} (hn:n<7) (hk:k<=n) (hk1:1<=k) (hH:aW n l ps) (hA:∀ i,i<l.length->∀ r∈dr n k X,a_ r (aC l i) n=0) (hX:∃ J∈ai n k,ez n k X J≠0):l.length<=k:=by
 by_cases hd:l.length<=k;·exact hd
 exfalso;have hlt:∀ i,i<k->ps i<n:=fun i hi=>hH.2.lt i (by omega);have rq:∀ i j,i<j->j<k->ps i<ps j:=fun i j h1 h2=>hH.2.mono i j h1 (by omega);have hz:∀ i,i<k->∀ c,c<ps i->aD l i c=0:=fun i hi c hc=>hH.2.zero i (by omega) c hc;have hP:=ju hn hk hlt rq k (n9 _);have h1:=j4_ hn hk (l:=l) (ps:=ps) (X:=X) hlt rq hz (fun i hi=>by have:=hH.2.pos i (by omega);omega) (fun i hi=>hA i (by omega));have hq:qZ l k (b8 ps k)≠0:=by
  intro h9;have e1:qQ l k (b8 ps k)=af k ps (aC l):=by
   unfold qQ af;refine cQ fun a b ha hb=>?_;unfold bT;show (((aC l a).getD ((bE (b8 ps k)).getD b 0) 0:Int):Rat)=_;rw [kZ hn hk hlt rq b hb]
  have e2:=ig hH k (by omega);have e3:=(il hH k (by omega)).1;rw [<- im,h9,e2] at e1;have:dN l ps k=0:=by exact_mod_cast e1.symm
  omega
 obtain ⟨J,hJ,K0⟩:=hX;have Fi:ez n k X (b8 ps k)≠0:=by
  intro h9;have:=h1 J hJ;rw [h9,Int.zero_mul] at this;rcases Int.mul_eq_zero.1 this.symm with h | h;·exact hq h
  ·exact K0 h
 obtain ⟨l',sE⟩:=oO (l.drop 1);have hrow:∀ i,aC l' i=aC l (i+1):=fun i=>by
  rw [sE];unfold aC;rw [nu,nu,oI,Nat.add_comm]
 have qV:∀ i c,aD l' i c=aD l (i+1) c:=fun i c=>by unfold aD;rw [hrow]
 obtain ⟨qs,vE⟩:∃ qs:Nat->Nat,qs=fun i=>ps (i+1):=⟨_,rfl⟩;have BI:∀ i,i<k->qs i<n:=fun i hi=>by rw [vE];exact hH.2.lt (i+1) (by omega)
 have BE:∀ i j,i<j->j<k->qs i<qs j:=fun i j h1 h2=>by rw [vE];exact hH.2.mono (i+1) (j+1) (by omega) (by omega)
 have h2:=j4_ hn hk (l:=l') (ps:=qs) (X:=X) BI BE (fun i hi c hc=>by rw [qV];rw [vE] at hc;exact hH.2.zero (i+1) (by omega) c hc) (fun i hi=>by rw [qV,vE];have:=hH.2.pos (i+1) (by omega);show aD l (i+1) (ps (i+1))≠0;omega) (fun i hi r hr=>by rw [hrow];exact hA (i+1) (by omega) r hr);have h3:=h2 (b8 ps k) hP;have vG:qZ l' k (b8 ps k)=0:=by
  have e1:qQ l' k (b8 ps k)=0:=by
   unfold qQ af;obtain ⟨k',rfl⟩:∃ k',k=k'+1:=⟨k-1,by omega⟩;show aI (k'+1) _=0;rw [<- S8_ (k'+1)];refine cd fun i hi=>?_;have:bT (fun b=>(bE (b8 ps (k'+1))).getD b 0) (aC l') i 0=0:=by
    unfold bT;show (((aC l' i).getD ((bE (b8 ps (k'+1))).getD 0 0) 0:Int):Rat)=0;rw [kZ hn hk hlt rq 0 (by omega)];have h9:aD l' i (ps 0)=0:=by
     rw [qV];exact hH.2.zero (i+1) (by omega) (ps 0) (hH.2.mono 0 (i+1) (by omega) (by omega))
    unfold aD at h9;rw [h9];rfl
   rw [this];grind
  rw [<- im] at e1
  exact_mod_cast e1
 rw [vG,Int.mul_zero] at h3;have vF:qZ l' k (b8 qs k)≠0:=by
  intro h9;rw [h9,Int.zero_mul] at h3;have L8:∀ c,c<n->aD l' 0 c=aD l 1 c:=fun c _=>qV 0 c;have e1:qQ l' k (b8 qs k)=af k qs (aC l'):=by
   unfold qQ af;refine cQ fun a b ha hb=>?_;unfold bT;show (((aC l' a).getD ((bE (b8 qs k)).getD b 0) 0:Int):Rat)=_;rw [kZ hn hk BI BE b hb]
  have Ir:aW n l' qs:=by
   have hll:l'.length=l.length-1:=(by rw [sE];simp);refine ⟨fun i hi=>by rw [hrow];exact hH.1 (i+1) (by omega),⟨fun i hi=>by rw [vE];exact hH.2.lt (i+1) (by omega),fun i j h1 h2=>by rw [vE];exact hH.2.mono (i+1) (j+1) (by omega) (by omega),fun i hi c hc=>by rw [qV];rw [vE] at hc;exact hH.2.zero (i+1) (by omega) c hc,fun i hi=>by rw [qV,vE];exact hH.2.pos (i+1) (by omega),fun i j h1 h2=>by rw [qV,qV,vE];exact hH.2.red (i+1) (j+1) (by omega) (by omega),fun i h1 h2 c hc=>by rw [qV];exact hH.2.rest (i+1) (by omega) (by omega) c hc⟩⟩
  have hll:l'.length=l.length-1:=by rw [sE];simp
  have e2:=ig Ir k (by omega);have e3:=(il Ir k (by omega)).1;rw [<- im,h9,e2] at e1;have:dN l' qs k=0:=by exact_mod_cast e1.symm
  omega
 rcases Int.mul_eq_zero.1 h3.symm with h | h;·exact vF h
 ·exact Fi h
theorem E7_ {X:oQ}:cP X=0↔X.any (fun z=>decide (z≠0))=false:=by
 rw [List.any_eq_false];constructor
 ·intro h x hx;obtain ⟨z,hz⟩:=s2_ hx;rw [h] at hz;simp at hz;simp [hz]
 ·intro h;by_cases e:cP X=0;·exact e
  ·obtain ⟨x,hx,pQ⟩:=K5_ e;exact absurd (oH pQ) (h x hx)
def ee (p b:Nat):Nat:=if b<p then b+1 else if b=p then 0 else b
theorem Z1u (p b:Nat):ee (p+1) b=ee p (az p b):=by
 unfold ee az;by_cases h1:b=p;·subst h1;simp
 ·by_cases h2:b=p+1;·subst h2;simp
  ·rw [if_neg h1,if_neg h2];split <;> split <;> (try split) <;> (try split) <;> omega
theorem Z1v {k:Nat} (M:Nat->Nat->Rat):∀ p,p<k->aL k (fun a b=>M a (ee p b))=(if p%2=0 then (1:Rat) else -1)*aL k M
 | 0,_=>by
  have e:(fun a b=>M a (ee 0 b))=M:=by
   funext a b;show M a (ee 0 b)=M a b;congr 1;unfold ee;rw [if_neg (by omega)];split <;> omega
  rw [e,if_pos rfl];grind
 | p+1,h=>by
  have h1:=Z1v (k:=k) M p (by omega);have h2:=mn (n:=k) (fun a b=>M b (ee p a)) (r:=p) h;have e:(fun a b=>M a (ee (p+1) b))=fun a b=>(fun b a=>M a (ee p (az p b))) b a:=by
   funext a b;show M a (ee (p+1) b)=M a (ee p (az p b));rw [Z1u]
  rw [e,eU k (fun b a=>M a (ee p (az p b)))];have h3:aL k (fun b a=>M a (ee p (az p b)))=- aL k (fun a b=>M b (ee p a)):=h2;rw [h3,eU k (fun a b=>M a (ee p b)),h1];by_cases h4:p%2=0;·rw [if_pos h4,if_neg (by omega)];grind
  ·rw [if_neg h4,if_pos (by omega)];grind
def Z6w (n k:Nat):Bool:=(ai n k).all fun K=>(List.range n).all fun c=>K.testBit c || (decide (iX K c<k+1) && (List.range (k+1)).all fun b=>decide ((bE (K ||| (1 <<< c))).getD b 0=(c::bE K).getD (ee (iX K c) b) 0))
theorem Z3m:∀ n,n<5->∀ k,k<n->Z6w n k=true:=by decide +kernel
def Z6v (n k:Nat):Bool:=(ai n k).all fun K=>(List.range n).all fun c=>!K.testBit c || (List.range k).any fun j=>decide ((bE K).getD j 0=c)
theorem Z3h:∀ n,n<5->∀ k,k<n->Z6v n k=true:=by decide +kernel
theorem Z2V {n k K:Nat} (l:oP) (v:oQ) (hn:n<5) (hk:k<n) (hK:K∈ai n k) :
  aI n (fun c=>if K.testBit c=true then 0 else ((v.getD c 0:Int):Rat)*((if iX K c%2=0 then (1:Rat) else -1)*qQ l (k+1) (K ||| (1 <<< c)))) =
   aL (k+1) (fun a b=>if b=0 then ((a_ (aC l a) v n:Int):Rat) else ((aD l a ((bE K).getD (b-1) 0):Int):Rat)):=by
 have h0:aL (k+1) (fun a b=>if b=0 then ((a_ (aC l a) v n:Int):Rat) else ((aD l a ((bE K).getD (b-1) 0):Int):Rat))=aL (k+1) (fun a b=>if b=0 then (0:Rat)+aI n (fun c=>((v.getD c 0:Int):Rat)*((aD l a c:Int):Rat)) else ((aD l a ((bE K).getD (b-1) 0):Int):Rat)):=by
  congr 1;funext a b
  split
  ·rw [M5_];show aI n (fun c=>((v.getD c 0:Int):Rat)*((aD l a c:Int):Rat))=_;grind
  ·rfl
 rw [h0,mq (fun a b=>((aD l a ((bE K).getD (b-1) 0):Int):Rat)) (r:=0) (by omega) (fun _=>0) n (fun c=>((v.getD c 0:Int):Rat)) (fun c a=>((aD l a c:Int):Rat))];have oy:aL (k+1) (fun a b=>if b=0 then (0:Rat) else ((aD l a ((bE K).getD (b-1) 0):Int):Rat))=0:=by
  rw [<- eU];exact h_ (r:=0) (by omega) fun b hb=>if_pos rfl
 rw [oy];rw [show ∀ x:Rat,0+x=x by intro x;grind];refine cd fun c hc=>?_;by_cases hb:K.testBit c=true
 ·rw [if_pos hb];have h1:=List.all_eq_true.1 (List.all_eq_true.1 (Z3h n hn k hk) K hK) c (List.mem_range.2 hc);rw [hb,Bool.not_true,Bool.false_or,List.any_eq_true] at h1;obtain ⟨j,hj,he⟩:=h1;have hj:=List.mem_range.1 hj;have he:=of_decide_eq_true he
  rw [lR (i:=0) (j:=j+1) (by omega) (by omega) (by omega) fun b _=>by
   rw [if_pos rfl,if_neg (by omega)];show _=((aD l b ((bE K).getD (j+1-1) 0):Int):Rat)
   rw [Nat.add_sub_cancel,he]]
  grind
 ·rw [if_neg hb];have oY:K.testBit c=false:=by simpa using hb
  have h1:=List.all_eq_true.1 (List.all_eq_true.1 (Z3m n hn k hk) K hK) c (List.mem_range.2 hc);rw [oY,Bool.false_or,Bool.and_eq_true] at h1;have hp:=of_decide_eq_true h1.1;have hq:qQ l (k+1) (K ||| (1 <<< c))=(if iX K c%2=0 then (1:Rat) else -1)*aL (k+1) (fun a b=>if b=0 then ((aD l a c:Int):Rat) else ((aD l a ((bE K).getD (b-1) 0):Int):Rat)):=by
   rw [<- Z1v (fun a b=>if b=0 then ((aD l a c:Int):Rat) else ((aD l a ((bE K).getD (b-1) 0):Int):Rat)) _ hp];unfold qQ af;refine cQ fun a b ha hb=>?_;have h2:=of_decide_eq_true (List.all_eq_true.1 h1.2 b (List.mem_range.2 hb));show (((aC l a).getD ((bE (K ||| (1 <<< c))).getD b 0) 0:Int):Rat)=_;rw [h2];obtain ⟨q,hq⟩:=oN (ee (iX K c) b);rw [hq];cases q with
   | zero=>rw [if_pos rfl];rfl
   | succ q=>rw [if_neg (by omega),Nat.add_sub_cancel];rfl
  rw [hq];by_cases h4:iX K c%2=0;·rw [if_pos h4];grind
  ·rw [if_neg h4];grind
theorem Z2W {n k K:Nat} (l:oP) (v:oQ) (hn:n<5) (hk:k<n) (hK:K∈ai n k) (hz:∀ i,i<k+1->a_ (aC l i) v n=0) :
  aI n (fun c=>if K.testBit c=true then 0 else ((v.getD c 0:Int):Rat)*((if iX K c%2=0 then (1:Rat) else -1)*qQ l (k+1) (K ||| (1 <<< c))))=0:=by
 rw [Z2V l v hn hk hK,<- eU];refine h_ (r:=0) (by omega) fun b hb=>?_;show (if (0:Nat)=0 then ((a_ (aC l b) v n:Int):Rat) else _)=0;rw [if_pos rfl,hz b hb];rfl
def Z6t (n k:Nat):Bool:=(ai n (n-k+1)).all fun s=>decide (dX n s∈ai n (k-1)) && [true,false].any fun e=>(List.range n).all fun c =>
 (decide (s.testBit c=!(dX n s).testBit c)) && (!s.testBit c || (decide (dX n (s ^^^ (1 <<< c))=dX n s ||| (1 <<< c)) && decide (dX n (s ^^^ (1 <<< c))∈ai n k) && decide ((s ^^^ (1 <<< c))∈ai n (n-k)) &&
  decide ((gF (dX n (s ^^^ (1 <<< c))) (s ^^^ (1 <<< c)) ^^ gF (1 <<< c) (s ^^^ (1 <<< c)))=(e ^^ decide (iX (dX n s) c%2=1)))))
theorem Z32:∀ n,n<5->∀ k,k<n->Z6t n (k+1)=true:=by decide +kernel
theorem Z5c (e o1 o2:Bool) (p:Nat) (x y:Int) (h:(o1 ^^ o2)=(e ^^ decide (p%2=1))):((y:Int):Rat)*((eQ (eQ x o1) o2:Int):Rat)=(if e=true then (-1:Rat) else 1)*((y:Rat)*((if p%2=0 then (1:Rat) else -1)*(x:Rat))):=by
 by_cases h5:p%2=0
 ·rw [if_pos h5];rw [show decide (p%2=1)=false from oG (by omega)] at h;cases e <;> cases o1 <;> cases o2 <;> simp at h <;> simp [eQ,Rat.intCast_neg] <;> grind
 ·rw [if_neg h5];rw [show decide (p%2=1)=true from oH (by omega)] at h;cases e <;> cases o1 <;> cases o2 <;> simp at h <;> simp [eQ,Rat.intCast_neg] <;> grind
theorem Z34 {n k:Nat} (l:oP) (v:oQ) (hn:n<5) (hk:k<=n) (hz:∀ i,i<k->a_ (aC l i) v n=0):∀ r∈dr n (n-k) (dR n k (bB n k l)),a_ r v n=0:=by
 intro r hr;unfold dr at hr;obtain ⟨s,hs,rfl⟩:=List.mem_map.1 hr;by_cases hk1:1<=k
 ·unfold cH at hs;rw [if_neg (by omega)] at hs;obtain ⟨k',rfl⟩:∃ k',k=k'+1:=⟨k-1,by omega⟩;have h1:=List.all_eq_true.1 (Z32 n hn k' (by omega)) s hs;rw [Bool.and_eq_true] at h1;have hK:=of_decide_eq_true h1.1;obtain ⟨e,-,he⟩:=List.any_eq_true.1 h1.2;rw [Nat.add_sub_cancel] at hK;have h9:=Z2W l v hn (by omega) hK hz;have h8:((a_ ((List.range n).map fun i=>dV n (n-(k'+1)) (dR n (k'+1) (bB n (k'+1) l)) i s) v n:Int):Rat)=(if e=true then (-1:Rat) else 1)*aI n (fun c=>if (dX n s).testBit c=true then 0 else ((v.getD c 0:Int):Rat)*((if iX (dX n s) c%2=0 then (1:Rat) else -1)*qQ l (k'+1) (dX n s ||| (1 <<< c)))):=by
   rw [M5_,<- iL];refine cd fun c hc=>?_;have hg:((List.range n).map fun i=>dV n (n-(k'+1)) (dR n (k'+1) (bB n (k'+1) l)) i s).getD c 0=dV n (n-(k'+1)) (dR n (k'+1) (bB n (k'+1) l)) c s:=by
    rw [nu,nx,List.getElem?_range hc];rfl
   rw [hg];have h2:=List.all_eq_true.1 he c (List.mem_range.2 hc);rw [Bool.and_eq_true] at h2;have hb:=of_decide_eq_true h2.1;by_cases o6:s.testBit c=true
   ·have h3:=h2.2;rw [o6,Bool.not_true,Bool.false_or] at h3;simp only [Bool.and_eq_true] at h3;have e1:=of_decide_eq_true h3.1.1.1;have e2:=of_decide_eq_true h3.1.1.2;have e3:=of_decide_eq_true h3.1.2;have e4:=of_decide_eq_true h3.2;have pF:(dX n s).testBit c=false:=by
     cases h:(dX n s).testBit c;·rfl
     rw [h,o6] at hb;cases hb
    rw [pF,if_neg (show ¬ (false=true) by decide),js o6];unfold dR;rw [S6_ (by omega) (by omega) e3,show (bB n (k'+1) l).getD (eY n (k'+1) (dX n (s ^^^ (1 <<< c)))) 0=qZ l (k'+1) (dX n (s ^^^ (1 <<< c))) from S6_ (by omega) (by omega) e2 _,<- e1,<- im];exact Z5c _ _ _ _ _ _ e4
   ·have tN:s.testBit c=false:=(by simpa using o6);have pF:(dX n s).testBit c=true:=by
     cases h:(dX n s).testBit c;·rw [h,tN] at hb;cases hb
     ·rfl
    rw [pF,if_pos rfl,kW tN];show _*(0:Rat)=_;grind
  rw [h9] at h8;have:((a_ ((List.range n).map fun i=>dV n (n-(k'+1)) (dR n (k'+1) (bB n (k'+1) l)) i s) v n:Int):Rat)=0:=by rw [h8];grind
  exact Rat.intCast_eq_zero_iff.1 this
 ·obtain rfl:k=0:=by omega
  unfold cH at hs;rw [if_pos (by omega)] at hs;cases hs
theorem g6_ {n k:Nat} {X:oQ} {M:Nat} (hX:∀ x∈X,x.natAbs<=M):∀ y∈dR n k X,y.natAbs<=M:=by
 intro y hy;unfold dR at hy;obtain ⟨s,-,rfl⟩:=List.mem_map.1 hy;rw [v7_];cases h:X[eY n k (dX n s)]? with
 | none=>rw [nu,h];simp
 | some x=>rw [nu,h];exact hX x (nw h)
theorem b5_ {X:oQ} (h:cP X≠0):∃ x∈X,x≠0:=K5_ h
theorem Z13 {n k:Nat} {X:oQ} (hn:n<7) (hk:k<=n) (Bd:X.length=(ai n k).length) (h0:cP X≠0):∃ y∈dR n k X,y≠0:=by
 by_cases h:∃ y∈dR n k X,y≠0;·exact h
 exfalso;have hz:∀ y∈dR n k X,y.natAbs<=0:=fun y hy=>by
  by_cases h9:y=0;·rw [h9];decide
  ·exact absurd ⟨y,hy,h9⟩ h
 have h1:=g6_ (n:=n) (k:=n-k) hz;rw [Z11 hn hk X Bd] at h1;obtain ⟨x,hx,pQ⟩:=b5_ h0;have h2:=h1 _ (List.mem_map.2 ⟨x,hx,rfl⟩);rw [v7_] at h2;omega
theorem e4_:∀ n,n<5->∀ c,c<n->(1 <<< c)∈ai n 1/\(1 <<< c ^^^ 1 <<< c)=0/\eY n 0 0=0/\ai n 0=[0]/\∀ i,i<n->(1 <<< c).testBit i=decide (i=c):=by decide +kernel
theorem Z3t {n:Nat} {D:oQ} {v:oQ} (hn:n<5) (hD:D.getD 0 0≠0) (hv:∀ r∈dr n 0 D,a_ r v n=0):∀ c,c<n->v.getD c 0=0:=by
 intro c hc;obtain ⟨h1,h2,h3,-,h4⟩:=e4_ n hn c hc
 have h5:=hv ((List.range n).map fun i=>dV n 0 D i (1 <<< c)) (by
  unfold dr cH;rw [if_neg (by omega)]
  exact List.mem_map.2 ⟨_,h1,rfl⟩)
 have h6:∀ m,m<=n->a_ ((List.range n).map fun i=>dV n 0 D i (1 <<< c)) v m=if c<m then eQ (D.getD 0 0) (gF (1 <<< c) 0)*v.getD c 0 else 0:=by
  intro m
  induction m with
  | zero=>intro _;rw [if_neg (by omega)];rfl
  | succ m ih =>
   intro hm;show a_ _ v m+_*_=_;rw [ih (by omega)];have hg:((List.range n).map fun i=>dV n 0 D i (1 <<< c)).getD m 0=dV n 0 D m (1 <<< c):=by
    rw [nu,nx,List.getElem?_range (by omega)];rfl
   rw [hg];by_cases h:m=c
   ·subst h;rw [js (by rw [h4 m (by omega)];exact oH rfl),h2,h3,if_neg (by omega),if_pos (by omega)];omega
   ·rw [kW (by rw [h4 m (by omega)];exact oG h)];by_cases h9:c<m;·rw [if_pos h9,if_pos (by omega)];omega
    ·rw [if_neg h9,if_neg (by omega)];omega
 rw [h6 n (n9 n),if_pos hc] at h5;rcases Int.mul_eq_zero.1 h5 with h | h;·exact absurd (v8_.1 h) hD
 ·exact h
theorem T8_ {n k B:Nat} {C M:oP} {ms:Nat->Nat} (hn:n<5) (hk:k<=n) (Iy:C.length=k) (hM:aW n M ms) (Br:M.length=n-k) (hA:∀ v,Sp n (aG 0 M) v↔cE n C v)
  (hB:∀ x∈bB n k C,x.natAbs<=B) (DI:B<=100000000) (h0:cP (bB n k C)≠0) :
  cP (bB n (n-k) M)=1/\e7 (dR n k (bB n k C))=e7 (bB n (n-k) M)/\(∀ x∈bB n (n-k) M,x.natAbs<=B)/\∀ v,Sp n (aG 0 M) v↔cE n (dr n (n-k) (dR n k (bB n k C))) v:=by
 have Bd:(bB n k C).length=(ai n k).length:=by unfold bB;rw [List.length_map]
 have hDl:=J3_ n k (bB n k C);have hDB:=g6_ (n:=n) (k:=k) hB;obtain ⟨y,hy,qH⟩:=Z13 (by omega) hk Bd h0;have hann:=fun v hz=>Z34 C v hn hk hz;obtain ⟨D,hD⟩:=oN (dR n k (bB n k C));rw [hD] at hDl hDB hy hann |-;have xF:cP D≠0:=by
  intro h9;have:=E7_.1 h9;rw [List.any_eq_false] at this;exact this y hy (by simpa using qH)
 obtain ⟨g,hg⟩:=oN (n-k);rw [hg] at hDl hann Br |-;obtain ⟨b1,b2,b3⟩:=Z35 n hn g (by omega);have C6:∀ x∈D,x.natAbs<=10^8:=fun x hx=>n8 (hDB x hx) DI;obtain ⟨F,hF⟩:∃ F,10^eN 8 (cH n g).length<F:=⟨_,Nat.lt_succ_self _⟩;obtain ⟨F2,wJ⟩:∃ F,10^(gN n (eN 8 (cH n g).length) 0).1<F:=⟨_,Nat.lt_succ_self _⟩;obtain ⟨R,hR,hK⟩:=Z4S (n:=n) (k:=g) C6 hF b1;obtain ⟨l,ps,f1,f2,f3,-,f5⟩:=r3_ (F:=F2) hK.wid hK.bnd (.inr (n9 n)) b2 b3 wJ hK.free;have Cu:∀ v,Sp n (aG 0 l) v↔cE n (dr n g D) v:=fun v=>(f5.iff v).symm.trans (hK.ann v);have x4:∀ i,i<l.length->∀ r∈dr n g D,a_ r (aC l i) n=0:=fun i hi r hr=>by
  obtain ⟨j,zy⟩:=List.getElem?_of_mem hr;have:=((Cu _).1 (.mem (ak (Nat.zero_le i) hi))).2 j (nt.1 zy).1;rw [eP zy] at this;exact this
 have hll:l.length<=g:=by
  by_cases h1:1<=g
  ·refine Z4C (by omega) (by omega) h1 f3 x4 ?_;obtain ⟨i,hi⟩:=List.getElem?_of_mem hy;have hil:=(nt.1 hi).1;rw [hDl] at hil;obtain ⟨J,hJ⟩:∃ J,(ai n g)[i]?=some J:=⟨_,ns hil⟩;refine ⟨J,nw hJ,?_⟩;have h:=of_decide_eq_true (List.all_eq_true.1 (H2_ n (by omega) g (by omega)) i (List.mem_range.2 hil));rw [nu,hJ] at h;have h:eY n g J=i:=h;unfold ez;rw [h,nu,hi];exact qH
  ·obtain rfl:g=0:=(by omega);by_cases h2:l.length<=0;·exact h2
   exfalso;have hlt:=f3.2.lt 0 (by omega);have hpos:=f3.2.pos 0 (by omega);have F6:D.getD 0 0≠0:=by
    obtain ⟨i,hi⟩:=List.getElem?_of_mem hy;have hil:=(nt.1 hi).1;rw [hDl,(e4_ n hn (ps 0) hlt).2.2.2.1] at hil;obtain rfl:i=0:=(by simpa using hil);rw [nu,hi];exact qH
   have:=Z3t hn F6 (x4 0 (by omega)) (ps 0) hlt;unfold aD at hpos;rw [this] at hpos;omega
 have C0:∀ v,Sp n (aG 0 M) v->Sp n (aG 0 l) v:=fun v hv=>by
  have h9:=(hA v).1 hv;refine (Cu v).2 ⟨h9.1,fun j hj=>hann v (fun i hi=>h9.2 i (by omega)) _ (eZ hj)⟩
 have hpl:=Z5F hM f3 C0;have hle:l.length=g:=by omega
 have hsp:bP n (aG 0 M) (aG 0 l):=by
  have hb:∀ v,Sp n (aG 0 l) v->Sp n (aG 0 M) v:=fun v hv=>by
   obtain ⟨q,hq,h9⟩:=e5_ hM f3 C0 (by omega) M.length (n9 _) v hv (fun i hi=>by omega);have h8:=(hA _).1 h9;refine (hA v).2 ⟨hv.len (cR f3.1),fun j hj=>?_⟩;have h7:=h8.2 j hj;rw [T7_] at h7;rcases Int.mul_eq_zero.1 h7 with h | h;·exact absurd h hq
   ·exact h
  exact ⟨fun r hr=>C0 r (.mem hr),fun r hr=>hb r (.mem hr)⟩
 have hml:=kO hM f3 hsp;obtain ⟨l2,Lj,g1,-,-,-,g5,g6,g7⟩:=k5_ (B:=B) (by omega) (by omega) hDl C6 hDB xF hF b1 hR hK (by omega) b2 b3 wJ;rw [f1] at g1;obtain rfl:=oA g1;rw [<- hml] at g5 g6 g7 Cu;exact ⟨g5,g6,g7,Cu⟩
theorem Z12 {n k B:Nat} {C M C' M':oP} {ms ms':Nat->Nat} (hn:n<5) (hk:k<=n) (Iy:C.length=k) (F7:C'.length=k) (hM:aW n M ms) (xh:aW n M' ms') (Br:M.length=n-k) (Fl:M'.length=n-k)
  (hA:∀ v,Sp n (aG 0 M) v↔cE n C v) (AK:∀ v,Sp n (aG 0 M') v↔cE n C' v) (hB:∀ x∈bB n k C,x.natAbs<=B) (DI:B<=100000000) (h0:cP (bB n k C)≠0) (he:bB n k C=bB n k C'):M=M':=by
 obtain ⟨-,-,-,h1⟩:=T8_ hn hk Iy hM Br hA hB DI h0;obtain ⟨-,-,-,h2⟩:=T8_ (C:=C') hn hk F7 xh Fl AK (by rw [<- he];exact hB) DI (by rw [<- he];exact h0);rw [<- he] at h2;refine kO hM xh ⟨fun r hr=>(h2 r).2 ((h1 r).1 (.mem hr)),fun r hr=>(h1 r).2 ((h2 r).1 (.mem hr))⟩
theorem h5_ {n:Nat} {C M M':oP} {ms ms':Nat->Nat} (hM:aW n M ms) (xh:aW n M' ms') (hA:∀ v,Sp n (aG 0 M) v↔cE n C v) (AK:∀ v,Sp n (aG 0 M') v↔cE n C v):M=M' :=
 kO hM xh ⟨fun r hr=>(AK r).2 ((hA r).1 (.mem hr)),fun r hr=>(hA r).2 ((AK r).1 (.mem hr))⟩
theorem J6_ {n:Nat} {M:oP} {ms:Nat->Nat} (hn:n<7) (hM:aW n M ms) (Fk:M.length<=n):cP (bB n M.length M)≠0:=by
 obtain ⟨k,hk⟩:=oN M.length;have hH:=hM.2;rw [hk] at hH Fk |-;have hP:=ju hn Fk hH.lt hH.mono k (n9 _);have hb:qZ M k (b8 ms k)≠0:=by
  intro h9;have e1:qQ M k (b8 ms k)=af k ms (aC M):=by
   unfold qQ af;refine cQ fun a b ha hb=>?_;unfold bT;show (((aC M a).getD ((bE (b8 ms k)).getD b 0) 0:Int):Rat)=_;rw [kZ hn Fk hH.lt hH.mono b hb]
  have e2:=ig hM k (by omega);have e3:=(il hM k (by omega)).1;rw [<- im,h9,e2] at e1;have:dN M ms k=0:=by exact_mod_cast e1.symm
  omega
 intro h9;have:=E7_.1 h9;rw [List.any_eq_false] at this;exact this (qZ M k (b8 ms k)) (List.mem_map.2 ⟨_,hP,rfl⟩) (by simpa using hb)
theorem Z3U {n N:Nat} {m S:oP} {ps:Nat->Nat} (hS:aW n S ps) (hm:ae n m) (hN:∀ i,i<m.length->aN N (aC m i)) (hs:∀ v,Sp n (aG 0 S) v↔fw n m v):∀ x∈bB n S.length S,x.natAbs<=eV N S.length:=by
 have h1:∀ r,aG 0 m r->Sp n (aG 0 S) r:=fun r hr=>by
  refine (hs r).2 ⟨cR hm r hr,1,by decide,?_⟩;rw [show bW 1 r=r by unfold bW;rw [List.map_congr_left (g:=id) (fun x _=>by simp)];simp];exact .mem hr
 have hV:=N0_ hS hm fun i hi=>((hs _).1 (.mem (ak (Nat.zero_le i) hi))).2;intro x hx;obtain ⟨J,hJ,rfl⟩:=List.mem_map.1 hx;obtain ⟨z,hz,hb⟩:=I7_ hS hN h1 hV (fun b=>(bE J).getD b 0);have e:qQ S S.length J=(z:Rat):=hz;have:qZ S S.length J=z:=by have h9:=im S S.length J;rw [e] at h9;exact_mod_cast h9
 rw [this];exact hb
theorem Z4K:∀ k,k<5->eV 9 k<=157464:=by decide +kernel
theorem p1_ {n:Nat} {m S A:oP} {ss qa:Nat->Nat} (hn:n<5) (hS:aW n S ss) (hA:aW n A qa) (hm:ae n m) (h9:∀ i,i<m.length->aN 9 (aC m i)) (spS:∀ v,Sp n (aG 0 S) v↔fw n m v)
  (DA:∀ v,Sp n (aG 0 S) v↔cE n A v) (GA:∀ v,Sp n (aG 0 A) v↔cE n S v) (hr:A.length+S.length=n) :
  (∀ x∈bB n S.length S,x.natAbs<=157464)/\(∀ x∈bB n A.length A,x.natAbs<=157464)/\cP (bB n S.length S)=1/\cP (bB n A.length A)=1 /\
   e7 (dR n S.length (bB n S.length S))=e7 (bB n A.length A)/\e7 (dR n A.length (bB n A.length A))=e7 (bB n S.length S):=by
 have hb:∀ x∈bB n S.length S,x.natAbs<=157464:=fun x hx=>n8 (Z3U hS hm h9 spS x hx) (Z4K _ (by omega));have e1:n-S.length=A.length:=by omega
 have e2:n-A.length=S.length:=by omega
 obtain ⟨a1,a2,a3,-⟩:=T8_ hn (by omega) rfl hA e1.symm GA hb (by decide) (J6_ (by omega) hS (by omega));rw [e1] at a1 a2 a3;obtain ⟨b1,b2,-,-⟩:=T8_ hn (by omega) rfl hS e2.symm DA a3 (by decide) (J6_ (by omega) hA (by omega));rw [e2] at b1 b2;exact ⟨hb,a3,b1,a1,a2,b2⟩
theorem Z1Y {n:Nat} {S A S' A':oP} {ss qa ss' qa':Nat->Nat} (hn:n<5) (hS:aW n S ss) (hA:aW n A qa) (Ia:aW n S' ss') (AK:aW n A' qa')
  (DA:∀ v,Sp n (aG 0 S) v↔cE n A v) (GA:∀ v,Sp n (aG 0 A) v↔cE n S v) (Bj:∀ v,Sp n (aG 0 S') v↔cE n A' v) (F9:∀ v,Sp n (aG 0 A') v↔cE n S' v) (hr:A.length+S.length=n) (vW:A'.length+S'.length=n)
  (hb:∀ x∈bB n A.length A,x.natAbs<=157464):(S=S'↔A=A')/\(A=A'↔A.length=A'.length/\bB n A.length A=bB n A'.length A'):=by
 have h1:S=S'->A=A':=fun h=>by subst h;exact h5_ hA AK GA F9
 have h2:A=A'->S=S':=fun h=>by subst h;exact h5_ hS Ia DA Bj
 refine ⟨⟨h1,h2⟩,⟨fun h=>by subst h;exact ⟨rfl,rfl⟩,fun ⟨hl,hq⟩=>h1 ?_⟩⟩;refine Z12 (k:=A.length) hn (by omega) rfl hl.symm hS Ia (by omega) (by omega) DA Bj hb (by decide) (J6_ (by omega) hA (by omega)) ?_;rw [hq,hl]
theorem gW.flip {n F:Nat} {P:oQ} {m C M:oP} {vals:Bool} (h:gW n F P m C M vals):gW n F P m M C (!vals) where
 right:=h.left;left:=h.right
 hC:=h.hM
 hM:=h.hC
 spC:=fun v=>by have:=h.spM v;cases vals <;> simpa using this
 spM:=fun v=>by have:=h.spC v;cases vals <;> simpa using this
 rank:=by have:=h.rank;omega
 lC:=h.lM
 lM:=h.lC
 bC:=h.bM
 bM:=h.bC
theorem mG {n F:Nat} {P:oQ} {m C M:oP} {vals:Bool} (hn:n<=4) (hm:∀ x∈m,x.length=n) (h9:∀ x∈m,aN 9 x) (hT:gW n F P m C M vals) (v:oQ):Sp n (aG 0 C) v↔cE n M v :=
 ⟨fun h=>⟨by
  have hC:ae n C:=fun i hi=>(hT.right.bC _ (eZ hi)).2
  exact Sp.len (cR hC) h,fun i hi=>Z52 hm hT h (eZ hi)⟩,Z4R hn hm h9 hT⟩
theorem G5_ {n F:Nat} {P:oQ} {m C M:oP} {vals:Bool} (hn:n<=4) (hm:∀ x∈m,x.length=n) (h9:∀ x∈m,aN 9 x) (hT:gW n F P m C M vals) :
  (∀ x∈bB n C.length C,x.natAbs<=157464)/\(∀ x∈bB n M.length M,x.natAbs<=157464)/\cP (bB n C.length C)=1/\cP (bB n M.length M)=1 /\
   e7 (dR n C.length (bB n C.length C))=e7 (bB n M.length M)/\e7 (dR n M.length (bB n M.length M))=e7 (bB n C.length C):=by
 obtain ⟨ps,hC⟩:=hT.hC;obtain ⟨qs,hM⟩:=hT.hM;have hW:ae n m:=fun i hi=>hm _ (eZ hi);have CB:∀ i,i<m.length->aN 9 (aC m i):=fun i hi=>h9 _ (eZ hi);have a1:=mG hn hm h9 hT;have a2:=mG hn hm h9 hT.flip;have hr:=hT.rank;cases vals;·exact p1_ (by omega) hC hM hW CB (fun v=>by have:=hT.spC v;simpa using this) a1 a2 hr
 ·obtain ⟨b1,b2,b3,b4,b5,b6⟩:=p1_ (by omega) hM hC hW CB (fun v=>by have:=hT.spM v;simpa using this) a2 a1 (by omega);exact ⟨b2,b1,b4,b3,b6,b5⟩
theorem Z2D {n F F':Nat} {P P':oQ} {m C M m' C' M':oP} {vals vals':Bool} (hn:n<=4) (hm:∀ x∈m,x.length=n) (h9:∀ x∈m,aN 9 x) (hT:gW n F P m C M vals)
  (Hs:∀ x∈m',x.length=n) (CB:∀ x∈m',aN 9 x) (tQ:gW n F' P' m' C' M' vals'):(C=C'↔M=M')/\(M=M'↔M.length=M'.length/\bB n M.length M=bB n M'.length M'):=by
 obtain ⟨ps,hC⟩:=hT.hC;obtain ⟨qs,hM⟩:=hT.hM;obtain ⟨ps',DG⟩:=tQ.hC;obtain ⟨qs',xh⟩:=tQ.hM;exact Z1Y (by omega) hC hM DG xh (mG hn hm h9 hT) (mG hn hm h9 hT.flip) (mG hn Hs CB tQ) (mG hn Hs CB tQ.flip) hT.rank tQ.rank (G5_ hn hm h9 hT).2.1
theorem k9_:∀ n,n<=4->fp [] 0=bB n 0 []:=by decide +kernel
theorem I8_ {n:Nat} {M:oP} (hn:n<=4) (hM:∀ x∈M,x.length=n) (hl:M.length<=n):fp M M.length=bB n M.length M:=by
 cases M with
 | nil=>exact k9_ n hn
 | cons r M=>exact Z3B (by omega) hl rfl (hM r (List.mem_cons_self ..))
def Z6z (_:World) (v:Value) (x:Int):Prop:=v=.string (aB x)
theorem Z3n (a b:Int):((aB a).toList == (aB b).toList)=decide (a=b):=by rw [I2_,I2_,Z1y]
abbrev iy (w:World) (v:Value) (xs:oQ):Prop:=aR 1 (aP Z6z) w v xs
theorem iy.ext {w w':World} {v:Value} {xs:oQ} (h:iy w v xs) (he:aA w w'):iy w' v xs:=aR.ext (fun _ _ _ _ _ h=>h) h he
theorem r2_ (xs ys:oQ) (u v:Value) (w:World) (h:iy w u xs) (k:iy w v ys) :
  oL 99 #[u,v] w (.bool (xs == ys)):=by
 obtain ⟨a,c,rfl,h1,h2,-,hc⟩:=aP.open h;obtain ⟨a',c',rfl,k1,k2,-,kc⟩:=aP.open k;have HC:=np hc;have KC:=np kc;clear hc kc h k;unfold maxLen at h2 k2;by_cases hl:xs.length=ys.length
 ·have hn:((xs.length:Int) != (ys.length:Int))=false:=by simp [hl]
  have qU:xs.length<=ys.length:=by omega
  have xS:ys.length<=xs.length:=by omega
  have HL:=np hl;clear hl
  go_enter func99,ntmps99
  go_wp2
  go_loopw [13] (fun t wr=>∃ j:Nat,j<=xs.length/\t=.int .i64 j/\aA w wr/\Hid (xs.take j=ys.take j)) (fun t _=>xs.length-(intOf t).toNat)
  case atStart=>exact ⟨0,by omega,rfl,aA.refl _,rfl⟩
  case round =>
   obtain ⟨j,hj,rfl,hE,HT⟩:=hrel;by_cases hlt:j<xs.length
   ·obtain ⟨b,off,rfl,hb,hcell⟩:=HC (by intro e;simp [e] at hlt);obtain ⟨b',off',rfl,pd,om⟩:=KC.out (by intro e;simp [e] at qU;simp [qU] at hlt);obtain ⟨x,hx⟩:∃ x,xs[j]?=some x:=⟨xs[j],ns hlt⟩;obtain ⟨y,hy⟩:∃ y,ys[j]?=some y:=⟨ys[j]'(by omega),ns _⟩;obtain ⟨z1,e1,g1⟩:=hcell j x hx;obtain ⟨z2,e2,g2⟩:=om j y hy;obtain rfl:z1=.string (aB x):=e1;obtain rfl:z2=.string (aB y):=e2;have g1:=hE.cell g1;have g2:=hE.cell g2;have q1:(j:Int)<(xs.length:Int):=(by omega);have q2:(j:Int)<(ys.length:Int):=(by omega);have HX:=np hx;have HY:=np hy;have hs:=Z3n x y;clear hcell om hx hy;by_cases hxy:x=y
    ·rw [oH hxy] at hs;have tZ:((aB x).toList != (aB y).toList)=false:=(by unfold bne;rw [hs];rfl);have zc:Hid (xs.take (j+1)=ys.take (j+1)):=by
      unfold Hid;rw [nz,nz,HX.out,HY.out,HT.out,hxy]
     clear hxy
     go_wp2
     go_quiet (fail)
     go_wp2
     go_roundw
     case rel=>exact ⟨j+1,by omega,by go_num,aA.draws hE _,zc⟩
     case measure=>simp [intOf];omega
    ·rw [oG hxy] at hs;have tZ:((aB x).toList != (aB y).toList)=true:=(by unfold bne;rw [hs];rfl);have HF:Hid ((xs == ys)=false):=by
      unfold Hid;rw [beq_eq_false_iff_ne];intro e;have e1:=HX.out;have e2:=HY.out;rw [e,e2] at e1;exact hxy (by simpa using e1.symm)
     clear hxy
     go_wp2
     go_quiet (fail)
     go_wp2
     go_ret;rw [HF.out];exact ⟨rfl,aA.draws hE _⟩
   ·have hge:xs.length<=j:=(by omega);have zb:Hid ((xs == ys)=true):=by
     unfold Hid;have e:=HT.out;rw [List.take_of_length_le (by omega),List.take_of_length_le (by omega)] at e;simp [e]
    go_wp2
    go_ret;rw [zb.out];exact ⟨rfl,hE⟩
 ·have hn:((xs.length:Int) != (ys.length:Int))=true:=by simp;omega
  have HF:Hid ((xs == ys)=false):=by unfold Hid;rw [beq_eq_false_iff_ne];intro e;exact hl (by rw [e])
  clear hl
  go_enter func99,ntmps99
  go_wp2
  go_ret;rw [HF.out];exact ⟨rfl,aA.refl _⟩
theorem iy.of_nums {w:World} {v:Value} {X:oQ} (h:aR 1 numC w v X):iy w v X:=by
 obtain ⟨us,h1,h2,h3,h4⟩:=h;exact ⟨us,h1,h2,h3,fun j u x hu hx=>⟨_,h4 j u x hu hx,rfl⟩⟩
def jH (n k:Nat) (X:oQ) (n' k':Nat) (Y:oQ):Bool:=decide (n=n') && decide (k=k') && (X == Y)
theorem a2_ (n k:Nat) (X:oQ) (n' k':Nat) (Y:oQ) (u v:Value) (w:World) (h:mQ w u n k X) (h':mQ w v n' k' Y) :
  oL 28 #[u,v] w (.bool (jH n k X n' k' Y)):=by
 obtain ⟨r,rfl,hr⟩:=h;obtain ⟨r',rfl,vW⟩:=h';have HE:Hid (∀ W,aA w W->oL 99 #[r,r'] W (.bool (X == Y))):=fun W hW=>r2_ X Y r r' W ((iy.of_nums hr).ext hW) ((iy.of_nums vW).ext hW);obtain ⟨a,c,rfl,-⟩:=aR.open hr;obtain ⟨a',c',rfl,-⟩:=aR.open vW;obtain ⟨w1,qc⟩:=oN (w.alloc (.cells #[.int .i64 n,.int .i64 k,.slice a X.length c] 50));obtain ⟨w2,qw⟩:=oN (w1.alloc (.cells #[.int .i64 n',.int .i64 k',.slice a' Y.length c'] 50));have hb1:w1.heap[w.heap.size]?=some (.cells #[.int .i64 n,.int .i64 k,.slice a X.length c] 50 (0,0)):=by rw [<- qc];exact dE w _ _
 have oY:w2.heap[w1.heap.size]?=some (.cells #[.int .i64 n',.int .i64 k',.slice a' Y.length c'] 50 (0,0)):=by rw [<- qw];exact dE w1 _ _
 have hE1:aA w w1:=by rw [<- qc];exact aA.alloc _ _
 have hE2:aA w1 w2:=by rw [<- qw];exact aA.alloc _ _
 have HX:Hid (aA w w2):=hE1.trans hE2;have k1:=ag (aF hb1 hE2);have k2:=ag oY;clear hr vW hb1 oY hE1 hE2;by_cases c1:n=n'
 ·by_cases c2:k=k'
  ·have HD:Hid (jH n k X n' k' Y=(X == Y)):=(by unfold Hid jH;rw [oH c1,oH c2];simp);subst c1;subst c2
   go_enter func28,ntmps28
   go_wp2_with fail;refine (HE w2 HX).mono ?_;rintro e w3 ⟨rfl,h3⟩;have HE3:Hid (aA w w3):=HX.trans h3;clear h3 HE;go_wp2_with fail;go_ret;exact ⟨by rw [HD.out];rfl,HE3⟩
  ·have HD:Hid (jH n k X n' k' Y=false):=(by unfold Hid jH;rw [oG c2];simp);have q2:((k:Int) == (k':Int))=false:=beq_eq_false_iff_ne.2 (by omega);subst c1
   go_enter func28,ntmps28
   go_wp2_with fail;go_ret;exact ⟨by rw [HD.out];rfl,HX⟩
 ·have HD:Hid (jH n k X n' k' Y=false):=by unfold Hid jH;rw [oG c1];simp
  have q1:((n:Int) == (n':Int))=false:=beq_eq_false_iff_ne.2 (by omega)
  go_enter func28,ntmps28
  go_wp2_with fail;go_ret;exact ⟨by rw [HD.out];rfl,HX⟩
theorem dj.res {w:World} {ob base:Nat} {v:Value} {tags:List (Nat×Nat×Nat)} {m:oP} (h:dj w ob base v tags m) (yp:base<=ob):cG w base v m:=by
 rcases h.own.2 with hv | ⟨g,cap,cur,hv,-⟩
 ·have hn:=hv.1;have h0:m=[]:=by
   rcases Nat.eq_zero_or_pos m.length with h0 | h0;·exact List.eq_nil_of_length_eq_zero h0
   ·obtain ⟨g,c,qe,-⟩:=ei h.own h0;rw [hn] at qe;cases qe
  subst h0;exact ⟨none,0,hn,n9 _,by unfold maxLen;omega,.inl rfl⟩
 ·subst hv;obtain ⟨h1,h2,h3,h4⟩:=h.mat yp;exact ⟨_,cap,rfl,h2,h3,.inr ⟨g,tags,rfl,h1,h4⟩⟩
theorem m8_ {n:Int} {xss yss:oP} (h1:bz n xss=0) (h2:bz n yss=0):Z2P n xss n yss=0:=by unfold Z2P;rw [if_pos h1,if_pos h2,if_pos rfl]
theorem h4_ (n:Nat) (yss:oP) (x s ms:oQ) (B:Nat) (vb vx:Value) (w:World) (hB:w.heap[B]?=some (.cells #[.int .i64 n,vb] 76 (0,0))) (h:aV w vb yss) (hx:aK w vx x) (hE:iI n yss x=0) (hR:dx yss x yss.length=some (s,ms)) (hs:bt s<0) (ht:aZ w) (hb:3<w.heap.size) :
  oL 136 #[vx,.pointer (some ⟨B,0,none⟩)] w (.bool false):=by
 have HH:=np (Z1k n yss x s ms (.agg #[.int .i64 n,vb]) vx w ⟨_,rfl,h⟩ hx hE hR ht hb);rw [oH hs] at HH;obtain ⟨e0,e1,-⟩:=bG hB;obtain ⟨a,c,rfl,-⟩:=aP.open h;obtain ⟨ax,cx,rfl,-⟩:=hx.open;clear h hx hE hR hs ht hb hB
 go_enter func136,ntmps136
 go_wp2_with fail;refine o_ HH ?_;intro w1 HE1;clear HH e0 e1;go_wp2_with fail;go_ret;exact ⟨rfl,HE1⟩
theorem Z0B (n:Nat) (xss yss:oP) (v u:Value) (w:World) (h:bj w v n xss) (h':bj w u n yss) (hE:bz n xss=0) (rD:bz n yss=0) (hall:∀ x∈xss,∃ s ms,dx yss x yss.length=some (s,ms)/\bt s<0) (ht:aZ w) (hb:3<w.heap.size) :
  oL 48 #[v,u] w (.tuple #[.bool true,.int .i64 0]):=by
 have HC:=np (fun W (hW:aA w W)=>y3_ n n xss yss v u W (h.ext hW) (h'.ext hW));rw [m8_ hE rD] at HC;obtain ⟨l1,l2,l3,l4⟩:=jP (me hE).1;obtain ⟨u0,rfl,hu⟩:=h;obtain ⟨u1,rfl,Ai⟩:=h';have HCT:Hid (∀ W B,aA w W->W.heap[B]?=some (.cells #[.int .i64 n,u1] 76 (0,0))->oL 135 #[u0,.func (.func 136) #[] #[.pointer (some ⟨B,0,none⟩)]] W (.bool false)):=fun W B hW hB=>by
  have:=W3_ (R:=aK) (fun _ _ _ _ he h=>aK.ext h he) xss u0 136 #[.pointer (some ⟨B,0,none⟩)] (fun _=>false) W (hu.ext hW) (enters_of func136 (by kernel_rfl) rfl) (fun W' x a hx hW' ha=>by
   obtain ⟨s,ms,h1,h2⟩:=hall x hx;refine h4_ n yss x s ms B u1 a W' (aF hB hW') (Ai.ext (hW.trans hW')) ha ?_ h1 h2 (ht.ext (hW.trans hW')) (n7 hb (hW.trans hW').size);unfold iI
   rw [if_pos rD,if_pos ((mA x).2 (l4 x hx).1),if_pos (l4 x hx).2])
  rw [show (xss.any fun _=>false)=false from List.any_eq_false.2 (fun _ _=>by decide)] at this;exact this
 obtain ⟨a,c,rfl,h1,h2,-,hc⟩:=aP.open hu;obtain ⟨a',c',rfl,k1,k2,-,kc⟩:=aP.open Ai;clear hu Ai hc kc hE rD hall ht hb l1 l2 l3 l4
 go_enter func48,ntmps48
 obtain ⟨W1,oZ,hE1,hs1,hb1⟩:=cL w (.int .i64 n) (.slice a xss.length c);obtain ⟨W2,pg,hE2,hs2,oY⟩:=cL W1 (.int .i64 n) (.slice a' yss.length c');have HB1:=np (aF hb1 hE2);have HB2:=np oY;have HE:=np (hE1.trans hE2);have z1:W1.heap.size=w.heap.size+1:=by omega
 have z2:W2.heap.size=w.heap.size+1+1:=by omega
 rw [z1] at HB2;clear hE1 hs1 hb1 hE2 hs2 oY;obtain ⟨sU,sR,-⟩:=bG HB1;obtain ⟨GH,GG,-⟩:=bG HB2;go_wp2_with fail;refine (HC _ HE).mono ?_;rintro e w5 ⟨rfl,oX⟩;have HX:=np (HE.trans oX);have HB25:=np (aF HB2 oX);obtain ⟨sU,sR,-⟩:=bG (aF HB1 oX);clear oX HC;go_wp2_with fail;refine p_ (HCT _ _ HX HB25) (HX.trans) ?_;intro w6 HX6;clear HCT;go_wp2_with fail;go_ret2;exact ⟨rfl,HX6⟩
theorem k6_ (n:Nat) {s:oQ} (hs:s.length=n):bt s<0↔s=List.replicate n 0:=by
 unfold bt;constructor
 ·intro h;cases hf:s.findIdx? (· != 0) with
  | some i=>rw [hf] at h;simp only at h;omega
  | none =>
   rw [List.findIdx?_eq_none_iff] at hf;exact List.eq_replicate_iff.2 ⟨hs,fun x hx=>by simpa using hf x hx⟩
 ·intro h;have:s.findIdx? (· != 0)=none:=by
   rw [List.findIdx?_eq_none_iff];intro x hx;rw [h] at hx;rw [(List.mem_replicate.1 hx).2];rfl
  rw [this];decide
theorem Z4N {n:Nat} {R:oP} {ps:Nat->Nat} (hR:aW n R ps) (h4:R.length<=4) (hb:∀ x∈R,aN 629856 x/\x.length=n) {x:oQ} (hx:x.length=n) (hxb:aN 1000000000 x) (hsp:Sp n (aG 0 R) x):∃ s ms,dx R x R.length=some (s,ms)/\bt s<0:=by
 obtain ⟨s,ms,e1,e2,e3,e4,e5⟩:=Z3N hR h4 hb hx hxb;exact ⟨s,ms,e1,(k6_ n e2).2 ((Z3R hR hx e2 e4 e5).2 hsp)⟩
end Go.Proofs.YtoonaddcfakamaaGreatDoor
