import Derived.KernelRfl
import Derived.Test.YtjlkkofmojgipaaGreatDoorVAI
import Derived.Test.YtjlkkofmojgipaaGreatDoorVAF
import Derived.Test.YtjlkkofmojgipaaGreatDoorVAH
import Derived.Test.YtjlkkofmojgipaaGreatDoorVAE
import Derived.Test.YtjlkkofmojgipaaGreatDoorVAA
import Derived.Laws.AppendOwnNone
import Derived.Deep.RegionHeld3
set_option linter.unusedVariables false
set_option linter.unusedSimpArgs false
namespace Go.Proofs.YtjlkkofmojgipaaGreatDoor
open Go.RowKit Go.Proofs.Tryz
theorem Z1P (n:Nat):gZ n (aL n) where
 congr:=fun M N h=>cA fun a b ha _=>h a b ha
 swap:=fun M i j h1 h2=>J0_ M h1 h2
 scale:=fun M r c hr=>Z0t M hr c
 add:=fun M r s c h1 h2 h3=>k4_ M h1 h2 h3 c
theorem Z4A {n:Nat} {m:List (List Rat)} (hR:bY n m) (hl:m.length=n) {f:(Nat->Nat->Rat)->Rat} (hf:gZ n f)
  (hz:∀ M:Nat->Nat->Rat,(∃ r,r<n/\∀ b,b<n->M r b=0)->f M=0) (hc:∀ M N:Nat->Nat->Rat,(∀ a b,a<n->b<n->M a b=N a b)->f M=f N) :
  f (aF m)=(ai m n).det*f (fun a b=>if a=b then 1 else 0):=by
 obtain ⟨ρ,sg,x,h⟩:=ns m hR n;rw [hl] at h;rw [h.form f hf,h.det];by_cases e:(ai m n).lead.length=n
 ·rw [if_pos e];congr 1;refine hc _ _ fun a b ha hb=>?_;have:=h.unit a b (by omega);rw [h.full e b hb] at this;exact this
 ·rw [if_neg e,hz _ ⟨(ai m n).lead.length,by have:=h.rle;omega,fun b hb=>h.zero _ b (oK _) hb⟩];grind
theorem Z5Y {n:Nat} {m:List (List Rat)} (hR:bY n m) (hl:m.length=n):(ai m n).det=aL n (aF m):=by
 rw [Z4A hR hl (Z1P n) (fun M ⟨r,hr,h0⟩=>iM hr h0) (fun M N h=>cA h),L5_];grind
theorem i8_:∀ (r k:Nat) (σ:Nat->Nat),r<k->(∀ a,a<k->σ a<r)->∃ a b,a<b/\b<k/\σ a=σ b
 | 0,k,σ,hk,h=>by have:=h 0 (by omega);omega
 | r+1,k,σ,hk,h=>by
  obtain ⟨k',rfl⟩:∃ k',k=k'+1:=⟨k-1,by omega⟩;by_cases hex:∃ a,a<k'/\σ a=σ k'
  ·obtain ⟨a,ha,he⟩:=hex;exact ⟨a,k',ha,by omega,he⟩
  ·obtain ⟨a,b,h1,h2,h3⟩:=i8_ r k' (fun a=>if σ a=r then σ k' else σ a) (by omega) (fun a ha=>by
    have h1:=h a (by omega);have h2:=h k' (by omega);show (if σ a=r then σ k' else σ a)<r
    split
    ·rename_i e;have:σ k'≠r:=fun e2=>hex ⟨a,ha,by rw [e,e2]⟩;omega
    ·omega)
   refine ⟨a,b,h1,by omega,?_⟩;have n1:σ a≠σ k':=fun e=>hex ⟨a,by omega,e⟩;have n2:σ b≠σ k':=fun e=>hex ⟨b,h2,e⟩
   split at h3 <;> split at h3
   ·omega
   ·exact absurd h3.symm n2
   ·exact absurd h3 n1
   ·exact h3
theorem r1_ {n:Nat} (M:Nat->Nat->Rat) {r:Nat} (hr:r<n) (m:Nat) (t:Nat->Rat) (g:Nat->Nat->Rat) :
  aL n (fun a b=>if a=r then aI m (fun l=>t l*g l b) else M a b)=aI m (fun l=>t l*aL n (fun a b=>if a=r then g l b else M a b)):=by
 have h:=nE (fun a b=>M b a) hr (fun _=>0) m t g;rw [<- dw n (fun a b=>if b=r then (0:Rat)+aI m (fun l=>t l*g l a) else M b a)] at h;have h0:aL n (fun a b=>if b=r then (0:Rat) else M b a)=0:=by
  rw [<- dw];exact iM hr (fun b hb=>by rw [if_pos rfl])
 rw [h0] at h;have e1:(fun a b=>if a=r then (0:Rat)+aI m (fun l=>t l*g l b) else M a b)=fun a b=>if a=r then aI m (fun l=>t l*g l b) else M a b:=by
  funext a b;split;·grind
  ·rfl
 rw [e1] at h;rw [h];have:∀ x:Rat,0+x=x:=fun x=>by grind
 rw [this];refine cG fun l hl=>?_;rw [<- dw]
theorem t9_ {k r:Nat} (hr:r<k) (t g:Nat->Nat->Rat):∀ p,p<=k->∀ σ:Nat->Nat,(∀ a,p<=a->a<k->σ a<r) ->
  aL k (fun a b=>if a<p then aI r (fun l=>t a l*g l b) else g (σ a) b)=0
 | 0,_,σ,h=>by
  obtain ⟨a,b,h1,h2,h3⟩:=i8_ r k σ hr (fun a ha=>h a (by omega) ha);refine lk (i:=a) (j:=b) (by omega) h2 (by omega) fun c hc=>?_;rw [if_neg (by omega),if_neg (by omega),h3]
 | p+1,hp,σ,h=>by
  have e:(fun a b=>if a<p+1 then aI r (fun l=>t a l*g l b) else g (σ a) b)=fun a b=>if a=p then aI r (fun l=>t p l*g l b) else (if a<p then aI r (fun l=>t a l*g l b) else g (σ a) b):=by
   funext a b;by_cases h1:a=p;·subst h1;rw [if_pos (by omega),if_pos rfl]
   ·rw [if_neg h1];by_cases h2:a<p;·rw [if_pos (by omega),if_pos h2]
    ·rw [if_neg (by omega),if_neg h2]
  rw [e,r1_ _ (by omega),<- n8 r];refine cG fun l hl=>?_
  have ih:=t9_ hr t g p (by omega) (fun a=>if a=p then l else σ a) (fun a h1 h2=>by
   show (if a=p then l else σ a)<r
   split
   ·exact hl
   ·exact h a (by omega) h2)
  have e2:(fun a b=>if a=p then g l b else (if a<p then aI r (fun l=>t a l*g l b) else g (σ a) b))=fun a b=>if a<p then aI r (fun l=>t a l*g l b) else g (if a=p then l else σ a) b:=by
   funext a b;by_cases h1:a=p;·subst h1;rw [if_pos rfl,if_neg (by omega),if_pos rfl]
   ·rw [if_neg h1];by_cases h2:a<p;·rw [if_pos h2,if_pos h2]
    ·rw [if_neg h2,if_neg h2,if_neg h1]
  rw [e2,ih];grind
def eL (m:List (List Rat)) (C:Nat):Nat:=(ai m C).lead.length
theorem Z2t {C:Nat} {m:List (List Rat)} (hR:bY C m) (c:Nat):eL m (c+1)=eL m c\/eL m (c+1)=eL m c+1:=by
 have hs:=lE hR c;show (bC c (ai m c)).lead.length=(ai m c).lead.length\/(bC c (ai m c)).lead.length=(ai m c).lead.length+1;rcases v8_ (c:=c) hs.1 (by rw [hs.2.1];exact hs.2.2) with ⟨e,-⟩ | ⟨a,-,-,-,-,hl,-⟩
 ·rw [e];exact .inl rfl
 ·rw [hl];exact .inr (by simp)
theorem N6_ {C:Nat} {m:List (List Rat)} (hR:bY C m) {k:Nat}:∀ c,k<=eL m c->∃ c',c'<=c/\eL m c'=k
 | 0,h=>⟨0,oK _,by have:eL m 0=0:=rfl;omega⟩
 | c+1,h=>by
  by_cases e:k<=eL m c
  ·obtain ⟨c',h1,h2⟩:=N6_ hR c e;exact ⟨c',by omega,h2⟩
  ·refine ⟨c+1,oK _,?_⟩;rcases Z2t hR c with h1 | h1 <;> omega
theorem B4_ {C:Nat} {m:List (List Rat)} (hR:bY C m) {k:Nat} (hk:k<=eL m C) :
  ∃ ρ κ:Nat->Nat,(∀ a,a<k->ρ a<m.length)/\(∀ b,b<k->κ b<C)/\aL k (fun a b=>aF m (ρ a) (κ b))≠0:=by
 obtain ⟨c,hc,he⟩:=N6_ hR C hk;obtain ⟨ρ,sg,x,h⟩:=ns m hR c;have K6:(ai m c).lead.length=k:=he;refine ⟨ρ,aw (ai m c).lead,fun a ha=>h.rho a (by have:=h.rle;omega),fun b hb=>?_,?_⟩;·have:=h.klt b (by omega);omega
 ·have:=h.dne;rw [K6] at this;exact this
theorem o5_ {C:Nat} {m:List (List Rat)} (hR:bY C m) {k:Nat} (hk:eL m C<k) {ρ κ:Nat->Nat} (hρ:∀ a,a<k->ρ a<m.length) (hκ:∀ b,b<k->κ b<C) :
  aL k (fun a b=>aF m (ρ a) (κ b))=0:=by
 obtain ⟨ρ0,sg,x,h⟩:=ns m hR C;have IY:(ai m C).lead.length<k:=hk;have hinv:∀ i,∃ i',i<m.length->(i'<m.length/\ρ0 i'=i):=fun i=>by
  by_cases hi:i<m.length
  ·obtain ⟨i',h1,h2⟩:=h.sur i hi;exact ⟨i',fun _=>⟨h1,h2⟩⟩
  ·exact ⟨0,fun h=>absurd h hi⟩
 obtain ⟨inv,hv⟩:∃ inv:Nat->Nat,∀ i,i<m.length->(inv i<m.length/\ρ0 (inv i)=i):=⟨fun i=>Classical.choose (hinv i),fun i hi=>Classical.choose_spec (hinv i) hi⟩;have e:aL k (fun a b=>aF m (ρ a) (κ b))=aL k (fun a b=>if a<k then aI (ai m C).lead.length (fun l=>(fun a l=>aF m (ρ a) (aw (ai m C).lead l)) a l*(fun l b=>aF (ai m C).m l (κ b)) l b) else (fun l b=>aF (ai m C).m l (κ b)) 0 b):=by
  refine cA fun a b ha hb=>?_;rw [if_pos ha];obtain ⟨h1,h2⟩:=hv (ρ a) (hρ a ha);have hsp:=h.span (inv (ρ a)) (κ b) h1;rw [h2] at hsp;have hz:(if inv (ρ a)<(ai m C).lead.length then (0:Rat) else aF (ai m C).m (inv (ρ a)) (κ b))=0:=by
   split
   ·rfl
   ·exact h.zero _ _ (by omega) (hκ b hb)
  rw [hz] at hsp;rw [hsp];have:∀ x:Rat,0+x=x:=fun x=>by grind
  rw [this];exact cG fun l hl=>by grind
 rw [e];exact t9_ IY _ _ k (oK _) (fun _=>0) (fun a h1 h2=>by omega)
def fZ (k:Nat) (ρ:Nat->Nat):Nat->Nat
 | 0=>0
 | a+1=>fZ k ρ a+(k-a)*ρ a
theorem p4_ {k:Nat} {ρ σ:Nat->Nat}:∀ n,(∀ a,a<n->ρ a=σ a)->fZ k ρ n=fZ k σ n
 | 0,_=>rfl
 | n+1,h=>by
  show fZ k ρ n+_=fZ k σ n+_;rw [p4_ n (fun a ha=>h a (by omega)),h n (by omega)]
theorem w0_ {k:Nat} {ρ:Nat->Nat} {i:Nat} (h:ρ (i+1)<ρ i):∀ n,i+1<n->n<=k->fZ k (fun a=>ρ (bD i a)) n<fZ k ρ n
 | 0,h1,_=>by omega
 | n+1,h1,h2=>by
  by_cases e:i+1=n
  ·subst e;show (fZ k (fun a=>ρ (bD i a)) i+(k-i)*ρ (bD i i))+(k-(i+1))*ρ (bD i (i+1))<(fZ k ρ i+(k-i)*ρ i)+(k-(i+1))*ρ (i+1);have e1:fZ k (fun a=>ρ (bD i a)) i=fZ k ρ i:=p4_ i fun a ha=>by unfold bD;rw [if_neg (by omega),if_neg (by omega)]
   have e2:bD i i=i+1:=(by unfold bD;rw [if_pos rfl]);have e3:bD i (i+1)=i:=(by unfold bD;rw [if_neg (by omega),if_pos rfl]);rw [e1,e2,e3];obtain ⟨d,hd⟩:∃ d,ρ i=ρ (i+1)+d+1:=⟨ρ i-ρ (i+1)-1,by omega⟩;obtain ⟨q,hq⟩:∃ q,k-(i+1)=q:=⟨_,rfl⟩;have zS:k-i=q+1:=(by omega);rw [hd,hq,zS];generalize ρ (i+1)=y at *
   have a1:(q+1)*y=q*y+y:=Nat.succ_mul _ _;have a2:(q+1)*(y+d+1)=q*(y+d+1)+(y+d+1):=Nat.succ_mul _ _;omega
  ·have ih:=w0_ (k:=k) (ρ:=ρ) (i:=i) h n (by omega) (by omega);show fZ k (fun a=>ρ (bD i a)) n+(k-n)*ρ (bD i n)<fZ k ρ n+(k-n)*ρ n;have e2:bD i n=n:=(by unfold bD;rw [if_neg (by omega),if_neg (by omega)]);rw [e2];omega
theorem G1_ {k R:Nat} (A:Nat->Nat->Rat):∀ (N:Nat) (ρ:Nat->Nat),fZ k ρ k<N->(∀ a,a<k->ρ a<R)->aL k (fun a b=>A (ρ a) b)≠0->∃ σ:Nat->Nat,(∀ a,a<k->σ a<R)/\(∀ a,a+1<k->σ a<σ (a+1))/\aL k (fun a b=>A (σ a) b)≠0
 | 0,ρ,h,_,_=>by omega
 | N+1,ρ,hN,hR,hd=>by
  by_cases hs:∀ a,a+1<k->ρ a<ρ (a+1);·exact ⟨ρ,hR,hs,hd⟩
  ·obtain ⟨i,hi⟩:=Classical.not_forall.1 hs;have sy:i+1<k:=by
    false_or_by_contra
    rename_i hn;exact hi (fun h=>absurd h hn)
   have pg:¬ ρ i<ρ (i+1):=fun h=>hi (fun _=>h);by_cases he:ρ i=ρ (i+1);·exact absurd (lk (M:=fun a b=>A (ρ a) b) (i:=i) (j:=i+1) (by omega) sy (by omega) (fun b _=>by rw [he])) hd
   ·refine G1_ A N (fun a=>ρ (bD i a)) (by have:=w0_ (k:=k) (ρ:=ρ) (i:=i) (by omega) k sy (oK _);omega) (fun a ha=>hR _ (by unfold bD;repeat' split <;> try omega)) ?_;have:=nC (n:=k) (fun a b=>A (ρ a) b) (r:=i) sy;rw [show (fun a b=>A (ρ (bD i a)) b)=fun a b=>(fun a b=>A (ρ a) b) (bD i a) b from rfl,this];intro h0;exact hd (by grind)
theorem v5_ {n:Nat} {σ:Nat->Nat}:∀ k,(∀ a,a<k->σ a<n)->(∀ a,a+1<k->σ a<σ (a+1))->(List.range k).map σ∈be n k
 | 0,_,_=>by show []∈[[]];simp
 | k+1,h1,h2=>by
  have ih:=v5_ k (fun a ha=>h1 a (by omega)) (fun a ha=>h2 a (by omega));show _∈Z5w n (be n k);unfold Z5w;rw [List.mem_flatMap];refine ⟨_,ih,?_⟩;rw [List.mem_map];refine ⟨σ k,?_,by rw [List.range_succ,List.map_append];rfl⟩;have hf:nR ((List.range k).map σ)<=σ k:=by
   unfold nR;cases k with
   | zero=>exact Nat.zero_le _
   | succ k =>
    rw [List.range_succ,List.map_append];simp only [List.map_cons,List.map_nil,List.getLast?_append,List.getLast?_singleton,Option.some_or];exact h2 k (by omega)
  have:=h1 k (by omega);rw [List.mem_range'];exact ⟨σ k-nR ((List.range k).map σ),by omega,by omega⟩
theorem h2_ {C:Nat} {m:List (List Rat)} (hR:bY C m) {k:Nat} (hk:k<=eL m C) :
  ∃ R∈be m.length k,∃ S∈be C k,R.length=k/\S.length=k/\aL k (fun a b=>aF m (R.getD a 0) (S.getD b 0))≠0:=by
 obtain ⟨ρ,κ,h1,h2,h3⟩:=B4_ hR hk;obtain ⟨σ,s1,s2,s3⟩:=G1_ (fun i b=>aF m i (κ b)) _ ρ (Nat.lt_succ_self _) h1 h3;rw [<- dw] at s3;obtain ⟨τ,t1,t2,t3⟩:=G1_ (fun j b=>aF m (σ b) j) _ κ (Nat.lt_succ_self _) h2 s3;rw [<- dw] at t3;have hg:∀ (f:Nat->Nat) a,a<k->((List.range k).map f).getD a 0=f a:=fun f a ha=>by
  rw [oD,oF,List.getElem?_range ha];rfl
 refine ⟨_,v5_ k s1 s2,_,v5_ k t1 t2,by simp,by simp,?_⟩;rw [cA (N:=fun a b=>aF m (σ a) (τ b)) fun a b ha hb=>by rw [hg σ a ha,hg τ b hb]];exact t3
theorem Z1V {h:oe} {d k:Nat} {ps:Nat->Nat} (hh:ft h d k ps):∀ j,j<=d->ak j ps (aD h)≠0
 | 0,_=>by show (1:Rat)≠0;decide
 | j+1,hj=>by
  have ih:=Z1V hh j (by omega);unfold ak at ih |-;rw [<- dw,T1_,dw]
  ·intro e;rcases Rat.mul_eq_zero.1 e with e | e
   ·have e2:((aC h j (ps j):Int):Rat)=0:=e;have:=hh.ne j (by omega);exact this (by exact_mod_cast e2)
   ·exact ih e
  ·intro a ha;show (((aD h j).getD (ps a) 0:Int):Rat)=0;have:(aD h j).getD (ps a) 0=0:=hh.zero j (by omega) (ps a) (hh.mono a j ha (by omega));rw [this];rfl
theorem H3_ {m:oe} {r:Nat} {V:Nat->List Int} (h:∀ a,a<r->aK 0 m (V a)):∃ f:Nat->Nat,∀ a,a<r->f a<m.length/\aD m (f a)=V a:=by
 have h2:∀ a,∃ i,a<r->i<m.length/\aD m i=V a:=fun a=>by
  by_cases ha:a<r
  ·obtain ⟨i,-,h1,h2⟩:=h a ha;exact ⟨i,fun _=>⟨h1,h2⟩⟩
  ·exact ⟨0,fun e=>absurd e ha⟩
 exact ⟨fun a=>Classical.choose (h2 a),fun a ha=>Classical.choose_spec (h2 a) ha⟩
theorem Z3U {h M A:oe} {n d:Nat} {ps:Nat->Nat} (hw:bB (M.length+n) h) (hh:ft h d M.length ps) (hs:bU (M.length+n) (aK 0 (bI n M)) (aK 0 h)) (hd:d<=h.length)
  (hA:bY M.length (bF A)) (hAl:A.length=n) (qW:∀ i j,i<n->j<M.length->aF (bF A) i j=(((aD (bI n M) i).getD j 0:Int):Rat)):d=eL (bF A) M.length:=by
 have hwl:=c8 (d:=0) (je n M);have hhl:=c8 (d:=0) hw;have h1:d<=eL (bF A) M.length:=by
  refine Classical.byContradiction fun hlt=>?_;have hlt:eL (bF A) M.length<d:=by omega
  have h0:=lV (Q:=fun x=>x=0) (gO (M.length+n) d ps) lj hwl (fun V hV=>by
   obtain ⟨f,hf⟩:=H3_ hV;have hz:=o5_ (m:=bF A) (C:=M.length) hA (k:=d) hlt (ρ:=f) (κ:=ps) (fun a ha=>by rw [j5,hAl];have:=(hf a ha).1;rw [fP] at this;exact this) (fun b hb=>hh.lt b hb);show ak d ps V=0;rw [<- hz];unfold ak;refine cA fun a b ha hb=>?_;unfold bS
   rw [qW _ _ (by have:=(hf a ha).1;rw [fP] at this;exact this) (hh.lt b hb),(hf a ha).2]) d (oK _) (aD h) (fun a ha=>hs.2 _ (bA (Nat.zero_le _) (by omega))) (fun a h2 h3=>by omega)
  exact Z1V hh d (oK _) h0
 have h2:eL (bF A) M.length<=d:=by
  refine Classical.byContradiction fun hlt=>?_;obtain ⟨r,hr⟩:=oZ (eL (bF A) M.length);rw [hr] at hlt;obtain ⟨ρ,κ,q1,q2,q3⟩:=B4_ (m:=bF A) (C:=M.length) hA (k:=r) (by omega);rw [j5,hAl] at q1
  have h0:=lV (Q:=fun x=>x=0) (gO (M.length+n) r κ) lj hhl (fun V hV=>by
   obtain ⟨f,hf⟩:=H3_ hV;by_cases hex:∃ a,a<r/\d<=f a
   ·obtain ⟨a,a1,a2⟩:=hex;show ak r κ V=0;unfold ak;refine iM a1 fun b hb=>?_;unfold bS;rw [<- (hf a a1).2];have:(aD h (f a)).getD (κ b) 0=0:=hh.rest (f a) a2 (hf a a1).1 (κ b) (q2 b hb);rw [this];rfl
   ·obtain ⟨a,b,p1,p2,p3⟩:=b2_ d f (fun a ha=>by
     refine Classical.byContradiction fun hn=>hex ⟨a,by omega,by omega⟩)
    exact (gO (M.length+n) r κ).eq V a b (by omega) (by omega) (by omega) (by rw [<- (hf a (by omega)).2,<- (hf b (by omega)).2,p3])) r (oK _) (fun a=>aD (bI n M) (ρ a)) (fun a ha=>hs.1 _ (bA (Nat.zero_le _) (by rw [fP];exact q1 a ha))) (fun a h2 h3=>by omega)
  apply q3;rw [<- h0];unfold ak;refine cA fun a b ha hb=>?_;unfold bS;exact qW _ _ (q1 a ha) (q2 b hb)
 omega
theorem Z0N {xss:oe} {C:Nat} (h:∀ r∈xss,r.length=C):bY C (bF xss):=by
 intro r hr;obtain ⟨q,hq,rfl⟩:=List.mem_map.1 hr;unfold cw;rw [List.length_map];exact h q hq
def j0 (n k:Nat) (X:og):oe:=(List.range n).map fun i=>(bO n k).map (cZ n k X i)
theorem Z2q {n k e F:Nat} {X:og} (hX:∀ x∈X,x.natAbs<=10^e) (hF:10^eN e (bO n k).length<F) (hE:eN e ((bO n k).length+1)+1<=400000000):∀ R,fX F n k X=some R->R.length+eL (bF (j0 n k X)) (bO n k).length=n:=by
 intro R hR;have hM:=S0_ n k X;have hl:=x2_ n k X;obtain ⟨M,qT⟩:=oZ (dj n k X);rw [qT] at hM hl;have hw:bB ((bO n k).length+n) (bu n k X):=by rw [hM,<- hl];exact je n M
 have hb:∀ i,i<(bu n k X).length->bJ (10^e) (aD (bu n k X) i):=j3_ hX;obtain ⟨m',d,ps,e1,k1⟩:=V1_ (N:=(bO n k).length+n) (F:=F) hw hb (bO n k).length hE hF;have hsp:=k1.sp;rw [hM] at hsp;have D2:m'.length=n:=by rw [k1.len,hM,fP]
 have hd:R.length=n-d:=by
  unfold fX at hR;rw [e1] at hR;simp only [Option.some.injEq] at hR;rw [<- hR];simp;omega
 have hrow:∀ r∈j0 n k X,r.length=M.length:=by
  intro r hr;unfold j0 at hr;obtain ⟨i,-,rfl⟩:=List.mem_map.1 hr;rw [List.length_map,hl]
 have hk:=k1.wid;have he:=k1.ech;rw [<- hl] at hk he |-;have:=Z3U (A:=j0 n k X) hk he (by rw [<- hl] at hsp;exact hsp) k1.le (Z0N hrow) (by unfold j0;simp) fun i j hi hj=>by
  rw [nf];congr 1;rw [<- hM];unfold aV j0;rw [oD (l:=List.map _ (List.range n)),oF,List.getElem?_range hi];have hr:aD (bu n k X) i=gB n k X i:=by
   apply d_;unfold bu;rw [oF,List.getElem?_range hi];rfl
  rw [hr];unfold gB;rw [kS (by rw [List.length_map,<- hl];exact hj)];rfl
 have hle:=k1.le;omega
theorem Z4Y {k:Nat} {f g:Nat->Nat} (hf:∀ i j,i<j->j<k->f i<f j) (hg:∀ i j,i<j->j<k->g i<g j) (h1:∀ i,i<k->∃ j,j<k/\g j=f i) (h2:∀ i,i<k->∃ j,j<k/\f j=g i):∀ (b j:Nat),j<b->j<k->f j=g j
 | 0,j,h,_=>by omega
 | b+1,j,hb,hj=>by
  have ih:∀ i,i<j->f i=g i:=fun i hi=>Z4Y hf hg h1 h2 b i (by omega) (by omega);obtain ⟨i,hi,e⟩:=h1 j hj;obtain ⟨i2,pg,e2⟩:=h2 j hj;have g1:¬ i<j:=fun h=>by have:=hf i j h hj;rw [ih i h] at this;omega
  have g2:¬ i2<j:=fun h=>by have:=hg i2 j h hj;rw [<- ih i2 h] at this;omega
  have a1:g j<=f j:=by
   by_cases e3:i=j;·subst e3;omega
   ·have:=hg j i (by omega) hi;omega
  have a2:f j<=g j:=by
   by_cases e3:i2=j;·subst e3;omega
   ·have:=hf j i2 (by omega) pg;omega
  omega
theorem mB {n k:Nat} {S:Nat->Nat} (hn:n<7) (hk:k<=n) (hlt:∀ i,i<k->S i<n) (su:∀ i j,i<j->j<k->S i<S j):∀ b,b<k->(az (cJ S k)).getD b 0=S b:=by
 intro b hb;have hJ:=kv hn hk hlt su k (oK _);obtain ⟨k',rfl⟩:∃ k',k=k'+1:=⟨k-1,by omega⟩;have hM:=Z2G (k:=k') hn (by omega) hJ;refine Z4Y (k:=k'+1) hM.inc su (fun i hi=>?_) (fun i hi=>?_) (k'+1) b hb hb
 ·obtain ⟨j,h1,h2⟩:=(nd (k'+1)).1 (hM.bit i hi);exact ⟨j,h1,h2⟩
 ·exact hM.has (S i) (hlt i hi) ((nd (k'+1)).2 ⟨i,hi,rfl⟩)
theorem Z3n {Q:Rat->Prop} (hQ:gH Q) {f:Nat->Rat}:∀ {n:Nat},(∀ i,i<n->Q (f i))->Q (aI n f)
 | 0,_=>hQ.zero
 | n+1,h=>by
  have h1:=hQ.add _ _ (-1) (Z3n hQ (n:=n) fun i hi=>h i (by omega)) (h n (by omega));have e:aI n f+-((-1:Int):Rat)*f n=aI (n+1) f:=by
   show _=aI n f+f n;have:((-1:Int):Rat)=-1:=rfl;rw [this];grind
  rw [e] at h1;exact h1
theorem Z1G {Q:Rat->Prop} (hQ:gH Q) {x:Rat} (h:Q x) (z:Int):Q ((z:Rat)*x):=by
 have h1:=hQ.add 0 x (-z) hQ.zero h;rw [Rat.intCast_neg] at h1;have e:(0:Rat)+-(-(z:Rat))*x=(z:Rat)*x:=by grind
 rw [e] at h1;exact h1
theorem Z6v (i:Nat) {a b:Nat} (h:a<b):sk i a<sk i b:=by unfold sk;split <;> split <;> omega
theorem Z6w {i a j:Nat} (h:a<j):sk i a<j+1:=by unfold sk;split <;> omega
theorem p3_ {Q:Rat->Prop} (hQ:gH Q) {n K:Nat} {h:oe} {k:Nat} (hk:∀ S:Nat->Nat,(∀ b,b<k->S b<n)->(∀ a b,a<b->b<k->S a<S b)->Q (aL k fun a b=>((aC h (n-k+a) (K+S b):Int):Rat))) :
  ∀ j,k+j<=n->∀ S:Nat->Nat,(∀ b,b<k+j->S b<n)->(∀ a b,a<b->b<k+j->S a<S b)->Q (aL (k+j) fun a b=>((aC h (n-(k+j)+a) (K+S b):Int):Rat))
 | 0,_,S,h1,h2=>hk S h1 h2
 | j+1,hj,S,h1,h2=>by
  show Q (aL (k+j+1) _);rw [<- dw];show Q (aI (k+j+1) _);refine Z3n hQ fun i hi=>?_;have ih:=p3_ hQ hk j (by omega) (fun b=>S (sk i b)) (fun b hb=>h1 _ (by have:=Z6w (i:=i) hb;omega)) (fun a b pZ hb=>h2 _ _ (Z6v i pZ) (by have:=Z6w (i:=i) hb;omega));have e:aL (k+j) (fun a b=>((aC h (n-(k+(j+1))+(b+1)) (K+S (sk i a)):Int):Rat))=aL (k+j) (fun a b=>((aC h (n-(k+j)+a) (K+S (sk i b)):Int):Rat)):=by
   rw [<- dw];refine cA fun a b ha hb=>?_;rw [show n-(k+(j+1))+(a+1)=n-(k+j)+a by omega]
  show Q (dG i*((aC h (n-(k+(j+1))+0) (K+S i):Int):Rat)*aL (k+j) (fun a b=>((aC h (n-(k+(j+1))+(b+1)) (K+S (sk i a)):Int):Rat)));rw [e];have h9:=Z1G hQ (Z1G hQ ih (aC h (n-(k+(j+1))+0) (K+S i))) (if i%2=0 then 1 else -1);have e2:(((if i%2=0 then 1 else -1:Int)):Rat)=dG i:=by unfold dG;split <;> rfl
  rw [e2] at h9;rw [Rat.mul_assoc];exact h9
theorem Z2p {n k e F:Nat} {X:og} (hn:n<7) (hX:∀ x∈X,x.natAbs<=10^e) (hF:10^eN e (bO n k).length<F) (hE:eN e ((bO n k).length+1)+1<=400000000) {R l:oe} (hR:fX F n k X=some R) (hl:bB n l) (hs:bU n (aK 0 R) (aK 0 l)) (hll:l.length=R.length) (p:Int)
  (hp:∀ J∈aS n l.length,∃ t:Int,qZ l l.length J=t*p):p.natAbs=1:=by
 have hM:=S0_ n k X;have hlx:=x2_ n k X;obtain ⟨M,qT⟩:=oZ (dj n k X);rw [qT] at hM hlx;have hw:bB ((bO n k).length+n) (bu n k X):=by rw [hM,<- hlx];exact je n M
 obtain ⟨m',d,ps,e1,k1⟩:=V1_ (N:=(bO n k).length+n) (F:=F) hw (j3_ hX) (bO n k).length hE hF;have hsp:=k1.sp;rw [hM] at hsp;have D2:m'.length=n:=by rw [k1.len,hM,fP]
 rw [<- hlx] at hsp;have I0:(m'.drop d).map (·.drop M.length)=R:=by
  unfold fX at hR;rw [e1] at hR;simp only [Option.some.injEq] at hR;rw [hlx];exact hR
 have C5:R.length=n-d:=by rw [<- I0];simp;omega
 obtain ⟨Q,F5⟩:∃ Q:Rat->Prop,Q=fun x=>∃ t:Int,x=(t:Rat)*(p:Rat):=⟨_,rfl⟩;have hQ:gH Q:=by rw [F5];exact Z1H (p:Rat)
 have hle:=k1.le;have o6:∀ S:Nat->Nat,(∀ b,b<l.length->S b<n)->(∀ a b,a<b->b<l.length->S a<S b)->Q (aL l.length fun a b=>((aC m' (n-l.length+a) (M.length+S b):Int):Rat)):=by
  intro S h1 h2;have hJ:=kv hn (by omega) h1 h2 l.length (oK _);obtain ⟨t,ht⟩:=hp _ hJ;have hq:Q (ak l.length S (aD l)):=by
   have e2:ak l.length S (aD l)=qQ l l.length (cJ S l.length):=by
    unfold qQ ak;refine cA fun a b ha hb=>?_;unfold bS;show _=(((aD l a).getD ((az (cJ S l.length)).getD b 0) 0:Int):Rat);rw [mB hn (by omega) h1 h2 b hb]
   rw [e2,<- ja,ht,F5];exact ⟨t,by rw [Rat.intCast_mul]⟩
  have h3:=lW (gO n l.length S) hQ hl hq (aD R) fun a ha=>hs.1 _ (bA (Nat.zero_le _) (by omega));have e3:ak l.length S (aD R)=aL l.length fun a b=>((aC m' (n-l.length+a) (M.length+S b):Int):Rat):=by
   unfold ak;refine cA fun a b ha hb=>?_;unfold bS aC;rw [<- I0,gS (by omega),nK,show n-l.length=d by omega]
  rw [e3] at h3;exact h3
 have hup:=p3_ hQ (K:=M.length) o6 (n-l.length) (by omega) (fun b=>b) (fun b hb=>by omega) (fun a b pZ _=>pZ);rw [show l.length+(n-l.length)=n by omega] at hup;have h0:Q (ak m'.length (fun b=>M.length+b) (aD m')):=by
  rw [D2];have e4:ak n (fun b=>M.length+b) (aD m')=aL n fun a b=>((aC m' (n-n+a) (M.length+b):Int):Rat):=by
   unfold ak;refine cA fun a b ha hb=>?_;unfold bS aC;rw [show n-n+a=a by omega]
  rw [e4];exact hup
 have hwid:=k1.wid;rw [<- hlx] at hwid;have h1:=lW (gO (M.length+n) m'.length fun b=>M.length+b) hQ hwid h0 (aD (bI n M)) fun a ha=>hsp.1 _ (bA (Nat.zero_le a) (by rw [fP];omega));have h2:ak m'.length (fun b=>M.length+b) (aD (bI n M))=1:=by
  rw [D2,<- L5_ n];unfold ak;refine cA fun a b ha hb=>?_;show (((aD (bI n M) a).getD (M.length+b) 0:Int):Rat)=_;rw [V6_ (by omega)];by_cases pZ:a=b;·rw [if_pos pZ.symm,if_pos pZ];rfl
  ·rw [if_neg (fun e=>pZ e.symm),if_neg pZ];rfl
 rw [h2,F5] at h1;obtain ⟨t,ht⟩:=h1;have h3:(1:Int)=t*p:=by
  have:((1:Int):Rat)=((t*p:Int):Rat):=by rw [Rat.intCast_mul];exact ht
  exact Rat.intCast_inj.1 this
 have h4:(1:Int).natAbs=t.natAbs*p.natAbs:=by rw [h3,Int.natAbs_mul]
 exact Nat.eq_one_of_mul_eq_one_left (by simpa using h4.symm)
def gC (X:og):Int:=if dp X<0 then -(bW X:Int) else (bW X:Int)
def dC (X:og):List Int:=if bW X=0 then X else X.map fun x=>aN x (gC X)
theorem E4_ {X:og}:∀ i,i<=X.length->∀ (j:Nat) x,j<i->X[j]?=some x->dW X i ∣ x.natAbs
 | 0,_,j,x,h,_=>by omega
 | i+1,hi,j,x,h,hx=>by
  obtain ⟨y,hy⟩:∃ y,X[i]?=some y:=⟨_,oB (by omega)⟩;rw [kX hy];by_cases e:j=i
  ·subst e;rw [hx] at hy;cases hy;exact Nat.gcd_dvd_right _ _
  ·exact Nat.dvd_trans (Nat.gcd_dvd_left _ _) (E4_ i (by omega) j x (by omega) hx)
theorem s1_ {X:og} {x:Int} (h:x∈X):∃ z:Int,x=(bW X:Int)*z:=by
 obtain ⟨j,hj⟩:=List.getElem?_of_mem h;have h1:=E4_ X.length (oK _) j x (oC.1 hj).1 hj;have h2:((bW X:Nat):Int) ∣ x:=Int.ofNat_dvd_left.2 h1;exact h2
theorem d0_ {d z:Int} (hd:d≠0):aN (d*z) d=z:=by
 unfold aN;rw [Int.mul_tmod_right,if_neg (by simp),Int.mul_tdiv_cancel_left _ hd]
theorem k9_ {d z:Int} (hd:d≠0):aN (d*z) (-d)=-z:=by
 have:d*z=(-d)*(-z):=by rw [Int.neg_mul_neg]
 rw [this];exact d0_ (by omega)
theorem Z3e {x:Int} (h:x≠0):x.sign≠0:=fun e=>h (Int.sign_eq_zero_iff_zero.1 e)
theorem A0_ {X:og} (h:dp X=0):∀ x∈X,x=0:=by
 intro x hx;unfold dp at h;cases hf:X.find? (·≠0) with
 | none =>
  have:=List.find?_eq_none.1 hf x hx;simpa using this
 | some y =>
  rw [hf] at h;have:=List.find?_some hf;exact absurd h (Z3e (by simpa using this))
theorem B9_ {X:og} {i:Nat} (h:dp (X.take i)≠0):dp X=dp (X.take i):=by
 have e:X.find? (·≠0)=((X.take i).find? (·≠0)).or ((X.drop i).find? (·≠0)):=by
  rw [<- List.find?_append,List.take_append_drop]
 unfold dp at h |-;cases hf:(X.take i).find? (·≠0) with
 | none=>rw [hf] at h;exact absurd rfl h
 | some y=>rw [e,hf];rfl
theorem Z1e {X:og} {i:Nat} {x:Int} (hx:X[i]?=some x):dp (X.take (i+1))=if dp (X.take i)=0 then x.sign else dp (X.take i):=by
 rw [oH,hx];by_cases h:dp (X.take i)=0
 ·rw [if_pos h];have hall:=A0_ h;have hn:(X.take i).find? (·≠0)=none:=List.find?_eq_none.2 fun y hy=>by simp [hall y hy]
  unfold dp;rw [List.find?_append,hn];by_cases h0:x=0;·subst h0;rfl
  ·simp [h0]
 ·rw [if_neg h];have:dp (X.take i++[x])=dp ((X.take i++[x]).take (X.take i).length):=B9_ (by rw [List.take_left'];exact h;rfl);have e2:(X.take i++(some x).toList)=X.take i++[x]:=rfl;rw [e2,this,List.take_left' rfl]
theorem e1_ (X:og):(dC X).length=X.length:=by unfold dC;split <;> simp
theorem Z1d {X:og} {k:Nat} {x:Int} (h:X[k]?=some x) (h0:x≠0) (hb:∀ j y,j<k->X[j]?=some y->y=0):dp X=x.sign:=by
 have hz:∀ y∈X.take k,y=0:=fun y hy=>by
  obtain ⟨j,hj⟩:=List.getElem?_of_mem hy;rw [List.getElem?_take] at hj
  split at hj
  ·rename_i yQ;exact hb j y yQ hj
  ·cases hj
 have h1:dp (X.take k)=0:=by
  have hn:(X.take k).find? (·≠0)=none:=List.find?_eq_none.2 fun y hy=>by simp [hz y hy]
  unfold dp;rw [hn]
 have h2:=Z1e h;rw [if_pos h1] at h2;rw [B9_ (by rw [h2];exact Z3e h0),h2]
theorem U9_ {X:og} (h:bW X≠0):∃ x∈X,x≠0:=by
 apply Classical.byContradiction;intro hn;have hall:∀ x∈X,x=0:=fun x hx=>Classical.byContradiction fun e=>hn ⟨x,hx,e⟩;apply h;have:∀ i,i<=X.length->dW X i=0:=by
  intro i
  induction i with
  | zero=>intro _;rfl
  | succ i ih =>
   intro hi;obtain ⟨y,hy⟩:∃ y,X[i]?=some y:=⟨_,oB (by omega)⟩;rw [kX hy,ih (by omega),hall y (oE hy)];rfl
 exact this _ (oK _)
theorem O9_ {X:og} {d:Nat} (h:∀ x∈X,d ∣ x.natAbs):∀ i,i<=X.length->d ∣ dW X i
 | 0,_=>by unfold dW;exact Nat.dvd_zero d
 | i+1,hi=>by
  obtain ⟨y,hy⟩:∃ y,X[i]?=some y:=⟨_,oB (by omega)⟩;rw [kX hy];exact Nat.dvd_gcd (O9_ h i (by omega)) (h y (oE hy))
theorem N0_ (a:Int) (X:og):∀ i,i<=X.length->dW (X.map (a*·)) i=a.natAbs*dW X i
 | 0,_=>by unfold dW;simp
 | i+1,hi=>by
  obtain ⟨y,hy⟩:∃ y,X[i]?=some y:=⟨_,oB (by omega)⟩;rw [kX hy,kX (x:=a*y) (by rw [oF,hy];rfl),N0_ a X i (by omega),Int.natAbs_mul,Nat.gcd_mul_left]
theorem U1_ (a:Int) (X:og):bW (X.map (a*·))=a.natAbs*bW X:=by
 unfold bW;rw [List.length_map];exact N0_ a X _ (oK _)
theorem g4_ {a:Int} (ha:a≠0) (X:og):dp (X.map (a*·))=a.sign*dp X:=by
 unfold dp
 induction X with
 | nil=>simp
 | cons x r ih =>
  rw [List.map_cons,List.find?_cons,List.find?_cons];by_cases hx:x=0
  ·subst hx;simp only [Int.mul_zero,ne_eq,not_true_eq_false,decide_false];exact ih
  ·have hax:a*x≠0:=Int.mul_ne_zero ha hx;simp only [ne_eq,hx,hax,not_false_eq_true,decide_true];exact Int.sign_mul a x
theorem Z2Z {X q:og} {a b:Int} (hl:X.length=q.length) (hb:b≠0) (h1:bW q=1) (hp:∀ (i:Nat) x y,X[i]?=some x->q[i]?=some y->a*y=b*x):∃ c:Int,X=q.map (c*·):=by
 have hd:b.natAbs ∣ a.natAbs:=by
  have h2:b.natAbs ∣ bW (q.map (a*·)):=O9_ (fun z hz=>by
   obtain ⟨y,hy,rfl⟩:=List.mem_map.1 hz;obtain ⟨i,hi⟩:=List.getElem?_of_mem hy;obtain ⟨x,hx⟩:∃ x,X[i]?=some x:=⟨_,oB (by rw [hl];exact (oC.1 hi).1)⟩;rw [hp i x y hx hi,Int.natAbs_mul]
   exact Nat.dvd_mul_right _ _) _ (oK _)
  rw [U1_,h1,Nat.mul_one] at h2;exact h2
 obtain ⟨c,hc⟩:=Int.natAbs_dvd_natAbs.1 hd;refine ⟨c,List.ext_getElem? fun i=>?_⟩;rw [oF];cases hx:X[i]? with
 | none =>
  rw [oL (by rw [<- hl];exact List.getElem?_eq_none_iff.1 hx)];rfl
 | some x =>
  obtain ⟨y,hy⟩:∃ y,q[i]?=some y:=⟨_,oB (by rw [<- hl];exact (oC.1 hx).1)⟩;rw [hy];have h:=hp i x y hx hy;rw [hc,Int.mul_assoc] at h;rw [<- Int.eq_of_mul_eq_mul_left hb h];rfl
theorem Z3L {q:og} {c:Int} (hc:c≠0) (h1:bW q=1):dC (q.map (c*·))=dC q:=by
 have zb:bW (q.map (c*·))=c.natAbs:=by rw [U1_,h1,Nat.mul_one]
 have hs:=g4_ hc q;have wL:dp q≠0:=by
  intro e;obtain ⟨x,hx,pG⟩:=U9_ (X:=q) (by omega);exact pG (A0_ e x hx)
 unfold dC;rw [if_neg (by rw [zb];omega),if_neg (by omega),List.map_map];refine List.map_congr_left fun x _=>?_;show aN (c*x) (gC (q.map (c*·)))=aN x (gC q);unfold gC;rw [zb,hs,h1];have sF:∀ z:Int,aN z 1=z:=fun z=>by have:=d0_ (d:=1) (z:=z) (by decide);rw [Int.one_mul] at this;exact this
 have zV:∀ z:Int,aN z (-1)=-z:=fun z=>by have:=k9_ (d:=1) (z:=z) (by decide);rw [Int.one_mul] at this;exact this
 rcases Int.lt_trichotomy c 0 with h | h | h
 ·have zP:c.sign=-1:=Int.sign_eq_neg_one_of_neg h;have hn:(c.natAbs:Int)=-c:=by omega
  rw [zP,hn];by_cases h2:dp q<0
  ·rw [if_neg (by omega),if_pos h2];show _=aN x (-1);rw [k9_ hc,zV]
  ·rw [if_pos (by omega),if_neg h2,Int.neg_neg,d0_ hc];exact (sF x).symm
 ·exact absurd h hc
 ·have zP:c.sign=1:=Int.sign_eq_one_of_pos h;have hn:(c.natAbs:Int)=c:=by omega
  rw [zP,hn,Int.one_mul];by_cases h2:dp q<0
  ·rw [if_pos h2,if_pos h2,k9_ hc];exact (zV x).symm
  ·rw [if_neg h2,if_neg h2,d0_ hc];exact (sF x).symm
theorem a7_ {k R:Nat} (A:Nat->Nat->Rat):∀ (N:Nat) (ρ:Nat->Nat),fZ k ρ k<N->(∀ a,a<k->ρ a<R)->aL k (fun a b=>A (ρ a) b)=0\/∃ σ:Nat->Nat,(∀ a,a<k->σ a<R)/\(∀ a,a+1<k->σ a<σ (a+1))/\(aL k (fun a b=>A (ρ a) b)=aL k (fun a b=>A (σ a) b)\/aL k (fun a b=>A (ρ a) b)=- aL k (fun a b=>A (σ a) b))
 | 0,ρ,h,_=>by omega
 | N+1,ρ,hN,hR=>by
  by_cases hs:∀ a,a+1<k->ρ a<ρ (a+1);·exact .inr ⟨ρ,hR,hs,.inl rfl⟩
  ·obtain ⟨i,hi⟩:=Classical.not_forall.1 hs;have sy:i+1<k:=by
    false_or_by_contra
    rename_i hn;exact hi (fun h=>absurd h hn)
   have pg:¬ ρ i<ρ (i+1):=fun h=>hi (fun _=>h);by_cases he:ρ i=ρ (i+1);·exact .inl (lk (M:=fun a b=>A (ρ a) b) (i:=i) (j:=i+1) (by omega) sy (by omega) (fun b _=>by rw [he]))
   ·have h9:=a7_ (k:=k) (R:=R) A N (fun a=>ρ (bD i a)) (by have:=w0_ (k:=k) (ρ:=ρ) (i:=i) (by omega) k sy (oK _);omega) (fun a ha=>hR _ (by unfold bD;repeat' split <;> try omega));have:=nC (n:=k) (fun a b=>A (ρ a) b) (r:=i) sy;rw [show (fun a b=>A (ρ (bD i a)) b)=fun a b=>(fun a b=>A (ρ a) b) (bD i a) b from rfl,this] at h9;rcases h9 with h | ⟨σ,h1,h2,h3⟩
    ·exact .inl (by grind)
    ·refine .inr ⟨σ,h1,h2,?_⟩;rcases h3 with h | h;·exact .inr (by grind)
     ·exact .inl (by grind)
theorem Z2h {k:Nat} {σ:Nat->Nat} (h:∀ a,a+1<k->σ a<σ (a+1)) (i:Nat):∀ j,i<j->j<k->σ i<σ j
 | 0,h1,_=>by omega
 | j+1,h1,h2=>by
  have h3:=h j h2;by_cases e:i=j;·subst e;exact h3
  ·have:=Z2h h i j (by omega) (by omega);omega
theorem Z5V {n k B:Nat} {l:oe} (hn:n<7) (hk:k<=n) (hB:∀ J∈aS n k,(qZ l k J).natAbs<=B) (S:Nat->Nat) (hS:∀ b,b<k->S b<n):∃ y:Int,ak k S (aD l)=(y:Rat)/\y.natAbs<=B:=by
 have e:ak k S (aD l)=aL k (fun a b=>(fun c r=>(((aD l r).getD c 0:Int):Rat)) (S a) b):=by
  unfold ak;rw [<- dw];rfl
 rw [e];rcases a7_ (fun c r=>(((aD l r).getD c 0:Int):Rat)) (R:=n) (fZ k S k+1) S (Nat.lt_succ_self _) hS with h | ⟨σ,h1,h2,h3⟩
 ·exact ⟨0,h,by simp⟩
 ·have su:∀ i j,i<j->j<k->σ i<σ j:=fun i j=>Z2h h2 i j;have hJ:=kv hn hk h1 su k (oK _);have e2:aL k (fun a b=>(fun c r=>(((aD l r).getD c 0:Int):Rat)) (σ a) b)=qQ l k (cJ σ k):=by
   unfold qQ ak;rw [<- dw k (bS _ _)];refine cA fun a b ha hb=>?_;unfold bS;show _=(((aD l b).getD ((az (cJ σ k)).getD a 0) 0:Int):Rat);rw [mB hn hk h1 su a ha]
  rw [e2,<- ja] at h3;rcases h3 with h | h;·exact ⟨_,h,hB _ hJ⟩
  ·exact ⟨-qZ l k (cJ σ k),by rw [h,Rat.intCast_neg],by rw [Int.natAbs_neg];exact hB _ hJ⟩
theorem j0_ {n B:Nat} {R:oe} {ps:Nat->Nat} (hn:n<7) (hR:bP n R ps) (hkn:R.length<=n) (hB:∀ J∈aS n R.length,(qZ R R.length J).natAbs<=B):∀ i,i<R.length->bJ (R.length*B) (aD R i):=by
 have hmin:=fun S hS=>Z5V (l:=R) hn hkn hB S hS;obtain ⟨k,hk⟩:=oc R.length;have hpp:=kD hR _ (oK R.length);have hP:=kB hR _ (oK R.length);rw [<- hk] at hpp hP hmin;have key:∀ i c,i<R.length->c<n->(aC R i c).natAbs<=R.length*B:=by
  intro i c hi s6;rw [<- hk] at hi |-
  obtain ⟨x,hx⟩:=mq (k:=k) (bS ps (aD R)) (fun a b pZ ha=>by
   have h:aC R a (ps b)=0:=hR.2.zero a (by omega) (ps b) (hR.2.mono b a pZ (by omega));show ((aC R a (ps b):Int):Rat)=0
   rw [h];rfl) (fun a ha h=>by
   have h1:((aC R a (ps a):Int):Rat)=0:=h;have h2:aC R a (ps a)=0:=by exact_mod_cast h1
   have:=hR.2.pos a (by omega);omega) (fun a=>((aC R a c:Int):Rat)) k (oK _)
  have sJ:∀ r,r<k->ak k (fun b=>if b=r then c else ps b) (aD R)=x r*(da R ps k:Rat):=by
   intro r hr;rw [<- hP];have e1:ak k (fun b=>if b=r then c else ps b) (aD R)=aL k (fun a b=>if b=r then (0:Rat)+aI k (fun l=>x l*bS ps (aD R) a l) else bS ps (aD R) a b):=by
    unfold ak;refine cA fun a b ha hb=>?_;by_cases ru:b=r
    ·rw [if_pos ru,<- hx a (by omega) ha];show (((aD R a).getD (if b=r then c else ps b) 0:Int):Rat)=_;rw [if_pos ru];show ((aC R a c:Int):Rat)=_;grind
    ·rw [if_neg ru];show (((aD R a).getD (if b=r then c else ps b) 0:Int):Rat)=_;rw [if_neg ru];rfl
   rw [e1,nE (bS ps (aD R)) hr (fun _=>0) k x (fun l a=>bS ps (aD R) a l)];have e2:aL k (fun a b=>if b=r then (0:Rat) else bS ps (aD R) a b)=0:=by
    rw [<- dw];exact iM (r:=r) hr fun b _=>if_pos rfl
   rw [e2,n7 (k:=r) hr fun l hl hne=>?_]
   ·have e3:aL k (fun a b=>if b=r then bS ps (aD R) a r else bS ps (aD R) a b)=ak k ps (aD R):=by
     unfold ak;refine cA fun a b _ _=>?_;by_cases ru:b=r;·rw [if_pos ru,ru]
     ·rw [if_neg ru]
    rw [e3];grind
   ·have e4:aL k (fun a b=>if b=r then bS ps (aD R) a l else bS ps (aD R) a b)=0 :=
     nD hr hl (fun h=>hne h.symm) fun b _=>by rw [if_pos rfl,if_neg hne]
    rw [e4];grind
  have hsum:((da R ps k:Int):Rat)*((aC R i c:Int):Rat)=aI k fun l=>ak k (fun b=>if b=l then c else ps b) (aD R)*bS ps (aD R) i l:=by
   have EN:((aC R i c:Int):Rat)=aI k fun l=>x l*bS ps (aD R) i l:=hx i (by omega) hi;rw [EN,<- ia];refine cG fun l hl=>?_;rw [sJ l hl];grind
  obtain ⟨z,hz1,hz2⟩:=v9_ (n:=k) (B:=B*(da R ps k).natAbs) (f:=fun l=>ak k (fun b=>if b=l then c else ps b) (aD R)*bS ps (aD R) i l) fun l hl=>by
   obtain ⟨y,tA,qz⟩:=hmin (fun b=>if b=l then c else ps b) (fun b hb=>by
    show (if b=l then c else ps b)<n
    split
    ·exact s6
    ·exact hR.2.lt b (by omega))
   refine ⟨y*aC R i (ps l),?_,?_⟩;·rw [tA,Rat.intCast_mul];rfl
   ·rw [Int.natAbs_mul];refine Nat.mul_le_mul qz ?_;have h5:=hpp.2 l hl;have h6:=hR.2.pos l (by omega);have h7:(aC R i (ps l)).natAbs<=(aC R l (ps l)).natAbs:=by
     rcases Nat.lt_trichotomy i l with h | h | h;·have:=hR.2.red i l h (by omega);omega
     ·rw [h];exact oK _
     ·rw [hR.2.zero i (by omega) (ps l) (hR.2.mono l i h (by omega))];simp
    omega
  rw [hz1] at hsum;have he:da R ps k*aC R i c=z:=by exact_mod_cast hsum
  rw [<- he,Int.natAbs_mul,<- Nat.mul_assoc,Nat.mul_comm] at hz2;exact Nat.le_of_mul_le_mul_right hz2 (by omega)
 intro i hi y hy;obtain ⟨c,hc⟩:=List.getElem?_of_mem hy;have s6:c<n:=by have:=(oC.1 hc).1;rw [hR.1 i hi] at this;exact this
 have:=key i c hi s6;unfold aC at this;rw [oD,hc] at this;exact this
theorem r8_ {n r b F:Nat} {m:oe} (ER:bB n m) (hb:∀ i,i<m.length->bJ (10^b) (aD m i)) (hr:m.length<=r\/n<=r) (h1:(gN r b 0).1+1<=400000000) (h2:(gN r b 0).2+1<=400000000) (hF:10^(gN r b 0).1<F)
  (qR:∀ T:oe,bB n T->bU n (aK 0 m) (aK 0 T)->m.length<=T.length) :
  ∃ R ps,kZ n F m=some R/\R.length=m.length/\bP n R ps/\(∀ i,i<R.length->bJ (10^(gN r b 0).2) (aD R i))/\bU n (aK 0 m) (aK 0 R):=by
 obtain ⟨m',d',ps,q1,q2,q3,q4,q5,q6,q7⟩:=L2_ (n:=n) (F:=F) (oK 400000000) n 0 0 r b 0 m (fun _=>0) (by omega) ER (fun i _ hi=>hb i hi) (fun i hi _=>by omega)
  ⟨fun i hi=>by omega,fun i j _ hj=>by omega,fun i hi=>by omega,fun i hi=>by omega,fun i j _ hj=>by omega,fun i _ _ c' hc=>by omega⟩ (by omega) h1 h2 hF
 rw [Nat.zero_add] at q6;have hlen:(m'.take d').length=d':=by rw [oG];omega
 have hW:bB n (m'.take d'):=fun i hi=>by rw [hlen] at hi;rw [jb hi];exact q4 i (by omega)
 have hsp:bU n (aK 0 m') (aK 0 (m'.take d')):=by
  constructor
  ·rintro x ⟨i,-,h2,rfl⟩;by_cases hi:i<d';·rw [<- jb (m:=m') hi];exact .mem (bA (by omega) (by omega))
   ·rw [v1_ (q4 i h2) (fun c hc=>q6.rest i (by omega) h2 c hc)];exact .zero
  ·rintro x ⟨i,-,h2,rfl⟩;rw [hlen] at h2;rw [jb h2];exact .mem (bA (by omega) (by omega))
 have hd:m.length<=d':=by rw [<- hlen];exact qR _ hW (q7.trans hsp)
 have hd2:d'=m'.length:=by omega
 refine ⟨m',ps,by unfold kZ;rw [q1];rfl,q2,⟨q4,by rw [<- hd2];exact q6⟩,fun i hi=>q5 i (by omega) hi,q7⟩
def eK (n k:Nat) (l:oe):List Int:=(aS n k).map (qZ l k)
theorem j7_ {n k e F F2 B:Nat} {X:og} (hn:n<7) (hk:k<=n) (hXl:X.length=(aS n k).length) (hX:∀ x∈X,x.natAbs<=10^e) (LO:∀ x∈X,x.natAbs<=B) (h0:bW X≠0)
  (hF:10^eN e (bO n k).length<F) (hE:eN e ((bO n k).length+1)+1<=400000000) {R:oe} (hR:fX F n k X=some R) (hK:Z75 n k (eN e (bO n k).length) X R) (hRk:R.length=k)
  (g1:(gN n (eN e (bO n k).length) 0).1+1<=400000000) (g2:(gN n (eN e (bO n k).length) 0).2+1<=400000000) (xq:10^(gN n (eN e (bO n k).length) 0).1<F2) :
  ∃ l ps,kZ n F2 R=some l/\l.length=k/\bP n l ps/\(∀ i,i<l.length->bJ (k*B) (aD l i))/\bW (eK n k l)=1/\dC X=dC (eK n k l)/\∀ x∈eK n k l,x.natAbs<=B:=by
 obtain ⟨l,ps,f1,f2,f3,-,f5⟩:=r8_ (F:=F2) hK.wid hK.bnd (.inr (oK n)) g1 g2 xq hK.free;have hlk:l.length=k:=by rw [f2,hRk]
 have hH:=f3.2;rw [hlk] at hH;have sF:bW (eK n k l)=1:=by
  have:=Z2p hn hX hF hE hR f3.1 f5 f2 (bW (eK n k l):Int) (fun J hJ=>by
   rw [hlk] at hJ |-;obtain ⟨z,hz⟩:=s1_ (X:=eK n k l) (x:=qZ l k J) (List.mem_map.2 ⟨J,hJ,rfl⟩)
   exact ⟨z,by rw [Int.mul_comm];exact hz⟩)
  simpa using this
 have hP:=kv hn hk hH.lt hH.mono k (oK _);have hb:qZ l k (cJ ps k)≠0:=by
  intro h9;have e1:qQ l k (cJ ps k)=ak k ps (aD l):=by
   unfold qQ ak;refine cA fun a b ha hb=>?_;unfold bS;show (((aD l a).getD ((az (cJ ps k)).getD b 0) 0:Int):Rat)=_;rw [mB hn hk hH.lt hH.mono b hb]
  have e2:=kB f3 k (by omega);have e3:=(kD f3 k (by omega)).1;rw [<- ja,h9,e2] at e1;have:da l ps k=0:=by exact_mod_cast e1.symm
  omega
 have hprop:=h0_ (l:=l) (X:=X) hn hk hH.lt hH.mono hH.zero (fun i hi=>by have:=hH.pos i hi;omega) (fun i hi r hr=>by
  obtain ⟨j,Cf⟩:=List.getElem?_of_mem hr;have hj:=(oC.1 Cf).1;have hjr:=d_ Cf;have:=((hK.ann _).1 ((f5.iff _).2 (.mem (bA (Nat.zero_le i) (by omega))))).2 j hj
  rw [hjr] at this;exact this)
 obtain ⟨c,hc⟩:=Z2Z (X:=X) (q:=eK n k l) (a:=ek n k X (cJ ps k)) (b:=qZ l k (cJ ps k)) (by unfold eK;rw [List.length_map,hXl]) hb sF (fun i x y hx hy=>by
  unfold eK at hy;rw [oF,Option.map_eq_some_iff] at hy;obtain ⟨J,hJ,rfl⟩:=hy;have h9:=hprop J (oE hJ);have hil:=(oC.1 hJ).1;have hpl:b8 n k J=i:=by
   have h:=of_decide_eq_true (List.all_eq_true.1 (o2_ n hn k (by omega)) i (List.mem_range.2 hil));rw [oD,hJ] at h;exact h
  have qF:ek n k X J=x:=by unfold ek;rw [hpl,oD,hx];rfl
  rw [qF] at h9;exact h9)
 have vV:c≠0:=by
  intro e9;apply h0;rw [hc,U1_,e9];simp
 have Fl:dC X=dC (eK n k l):=by rw [hc];exact Z3L vV sF
 have Em:∀ J∈aS n k,(qZ l k J).natAbs<=B:=by
  intro J hJ;have hm:c*qZ l k J∈X:=by rw [hc];exact List.mem_map.2 ⟨_,List.mem_map.2 ⟨J,hJ,rfl⟩,rfl⟩
  have h9:=LO _ hm;rw [Int.natAbs_mul] at h9;exact oJ (Nat.le_mul_of_pos_left _ (by omega)) h9
 refine ⟨l,ps,f1,hlk,f3,?_,sF,Fl,fun x hx=>by
  obtain ⟨J,hJ,rfl⟩:=List.mem_map.1 hx
  exact Em J hJ⟩
 have:=j0_ hn f3 (by omega) (B:=B) (by rw [hlk];exact Em);rw [hlk] at this |-;exact this
structure gd (α:Type) where
 R:World->Nat->List α->Prop
 lt:∀ {w g r},R w g r->g<w.heap.size
 same:∀ {w w' g r},R w g r->w.heap.size<=w'.heap.size->w'.heap[g]?=w.heap[g]?->R w' g r
def kF:gd Rat:=⟨eh,fun h=>h.lt,fun h hs hg=>h.same hs hg⟩
structure eS (w:World) (g:Nat) (xs:og):Prop where
 lt:g<w.heap.size
 cell:∀ (j:Nat) x,xs[j]?=some x->w.cell? ⟨g,j,none⟩=some (.int .i64 x)
 free:∀ j,w.frozen? ⟨g,j,none⟩=false
theorem eS.same {w w':World} {g:Nat} {xs:og} (h:eS w g xs) (hs:w.heap.size<=w'.heap.size) (hg:w'.heap[g]?=w.heap[g]?):eS w' g xs :=
 ⟨oI h.lt hs,fun j x hx=>(ir hg _).trans (h.cell j x hx),fun j=>(kd hg j).trans (h.free j)⟩
def ko:gd Int:=⟨eS,fun h=>h.lt,fun h hs hg=>h.same hs hg⟩
def jH (t:Nat×Nat) (n:Nat):Value:=.slice (some ⟨t.1,0,none⟩) n t.2
def ic {α:Type} (tags:List (Nat×Nat)) (m:List (List α)):List Value:=List.zipWith (fun t r=>jH t r.length) tags m
structure bf {α:Type} (K:gd α) (e:TypeId) (w:World) (ob base:Nat) (v:Value) (tags:List (Nat×Nat)) (m:List (List α)):Prop where
 len:tags.length=m.length
 own:w.ownsRow ob e 1 v m.length (ic tags m)
 row:∀ (i:Nat) t r,tags[i]?=some t->m[i]?=some r->r.length<=t.2/\t.2<=9223372036854775807/\K.R w t.1 r/\base<=t.1/\v.ownBlock≠some t.1
 nodup:(tags.map (·.1)).Nodup
theorem Z3s {α:Type} {tags:List (Nat×Nat)} {m:List (List α)} (h:tags.length=m.length):(ic tags m).length=m.length:=by
 unfold ic;rw [List.length_zipWith,h];omega
theorem bf.nil {α:Type} (K:gd α) (e:TypeId) (w:World) (ob base:Nat):bf K e w ob base (.slice none 0 0) [] [] :=
 ⟨rfl,World.ownsRow_nil _ _ _ _,by intro i t r h;simp at h,by simp⟩
theorem bf.ext {α:Type} {K:gd α} {e:TypeId} {w w':World} {ob base:Nat} {v:Value} {tags:List (Nat×Nat)} {m:List (List α)} (h:bf K e w ob base v tags m) (he:aA w w'):bf K e w' ob base v tags m :=
 ⟨h.len,fN h.own he,fun i t r ht hr=>by
  obtain ⟨h1,h2,h3,h4,h5⟩:=h.row i t r ht hr
  exact ⟨h1,h2,K.same h3 he.size (he.block _ (K.lt h3)),h4,h5⟩,h.nodup⟩
theorem bf.fresh {α:Type} {K:gd α} {e:TypeId} {w:World} {ob base:Nat} {v:Value} {tags:List (Nat×Nat)} {m:List (List α)} (h:bf K e w ob base v tags m) {b:Nat} (hb:b∈tags.map (·.1)):base<=b/\b<w.heap.size:=by
 obtain ⟨t,ht,rfl⟩:=List.mem_map.1 hb;obtain ⟨i,hi⟩:=List.getElem?_of_mem ht;have hl:i<m.length:=by rw [<- h.len];exact (oC.1 hi).1
 obtain ⟨h1,h2,h3,h4,h5⟩:=h.row i t m[i] hi (oB hl);exact ⟨h4,K.lt h3⟩
theorem bf.snoc {α:Type} {K:gd α} {e:TypeId} {w w':World} {ob base:Nat} {v v':Value} {tags:List (Nat×Nat)} {m:List (List α)} (h:bf K e w ob base v tags m) (t:Nat×Nat) (r:List α) (qN:r.length<=t.2) (pX:t.2<=9223372036854775807) (hR:K.R w t.1 r) (hb:base<=t.1) (hv:v.ownBlock≠some t.1) (hn:t.1∉tags.map (·.1))
  (hown:w'.ownsRow ob e 1 v' (m.length+1) (ic tags m++[jH t r.length])) (hg:w.grownBy w' v.ownBlock) (qF:v'.ownBlock=v.ownBlock\/∃ b,v'.ownBlock=some b/\w.heap.size<=b) :
  bf K e w' ob base v' (tags++[t]) (m++[r]):=by
 have pQ:∀ (s:Nat×Nat) q,K.R w s.1 q->v.ownBlock≠some s.1->K.R w' s.1 q/\v'.ownBlock≠some s.1:=fun s q hs vL=>by
  refine ⟨K.same hs hg.size (hg.block s.1 (K.lt hs) vL.symm),fun e=>?_⟩;rcases qF with e2 | ⟨b,e2,e3⟩
  ·exact vL (e2.symm.trans e)
  ·rw [e2] at e;cases e;have:=K.lt hs;omega
 refine ⟨by simp [h.len],?_,fun i s q hs hq=>?_,?_⟩
 ·have e:ic (tags++[t]) (m++[r])=ic tags m++[jH t r.length]:=by
   unfold ic;rw [List.zipWith_append h.len];rfl
  rw [e,oV];exact hown
 ·by_cases hi:i<tags.length
  ·rw [oN hi] at hs;rw [oN (by rw [<- h.len];exact hi)] at hq;obtain ⟨h1,h2,h3,h4,h5⟩:=h.row i s q hs hq;obtain ⟨k1,k2⟩:=pQ s q h3 h5;exact ⟨h1,h2,k1,h4,k2⟩
  ·rw [oO (by omega)] at hs;rw [oO (by rw [<- h.len];omega)] at hq;have e1:i-tags.length=0:=(by have:=(oC.1 hs).1;simp at this;omega);have e2:i-m.length=0:=(by rw [<- h.len];exact e1);rw [e1] at hs;rw [e2] at hq;simp only [oQ,Option.some.injEq] at hs hq;subst hs;subst hq;obtain ⟨k1,k2⟩:=pQ t r hR hv;exact ⟨qN,pX,k1,hb,k2⟩
 ·rw [List.map_append,List.nodup_append];refine ⟨h.nodup,by simp,?_⟩;intro a ha b hb2 e;simp only [List.map_cons,List.map_nil,List.mem_singleton] at hb2;subst e;subst hb2;exact hn ha
theorem bf.parts {α:Type} {K:gd α} {e:TypeId} {w:World} {ob base:Nat} {g cap:Nat} {tags:List (Nat×Nat)} {m:List (List α)} (h:bf K e w ob base (.slice (some ⟨g,0,none⟩) m.length cap) tags m) :
  ob<=g/\g<w.heap.size/\(∀ j,w.frozen? ⟨g,j,none⟩=false)/\(∀ (i:Nat) t r,tags[i]?=some t->m[i]?=some r->w.cell? ⟨g,i,none⟩=some (.slice (some ⟨t.1,0,none⟩) r.length t.2)/\r.length<=t.2/\t.2<=9223372036854775807/\K.R w t.1 r)/\(g::tags.map (·.1)).Nodup/\m.length<=cap/\cap<=9223372036854775807:=by
 have hc:=h.own.cells (g:=g) (by simp [Value.ownBlock]);have hf:=fun j=>h.own.frozenAt j;rcases h.own.2 with ⟨hv,_⟩ | ⟨g',cap',cur,hv,hb,hg,h1,h2,h3,h4⟩
 ·simp at hv
 ·simp only [Value.slice.injEq,Option.some.injEq,Addr.mk.injEq] at hv;obtain ⟨⟨rfl,-,-⟩,-,rfl⟩:=hv;refine ⟨hb,(Array.getElem?_eq_some_iff.1 hg).1,fun j=>hf j,fun i t r ht hr=>?_,?_,h1,h2⟩
  ·obtain ⟨k1,k2,k3,k4,k5⟩:=h.row i t r ht hr;refine ⟨?_,k1,k2,k3⟩;have:=hc i (jH t r.length) (by unfold ic;rw [List.getElem?_zipWith,ht,hr]);rw [show (⟨g,0,none⟩:Addr).add i=⟨g,i,none⟩ by unfold Addr.add;split <;> simp_all] at this;exact this
  ·rw [List.nodup_cons];refine ⟨fun hm=>?_,h.nodup⟩;obtain ⟨t,ht,rfl⟩:=List.mem_map.1 hm;obtain ⟨i,hi⟩:=List.getElem?_of_mem ht;have hl:i<m.length:=(by rw [<- h.len];exact (oC.1 hi).1);exact (h.row i t m[i] hi (oB hl)).2.2.2.2 rfl
theorem bf.matQ {e:TypeId} {w:World} {ob base:Nat} {g cap:Nat} {tags:List (Nat×Nat)} {m:List (List Rat)} (h:bf kF e w ob base (.slice (some ⟨g,0,none⟩) m.length cap) tags m) (hob:base<=ob) :
  cU w g tags m/\m.length<=cap/\cap<=9223372036854775807/\∀ b,bV g tags b->base<=b:=by
 obtain ⟨h1,h2,h3,h4,h5,h6,h7⟩:=h.parts;refine ⟨⟨h.len,h2,h3,h4,h5⟩,h6,h7,fun b hb=>?_⟩;rcases List.mem_cons.1 hb with rfl | hb;·exact oJ hob h1
 ·exact (h.fresh hb).1
theorem V9_ {α:Type} {K:gd α} {e:TypeId} {T2:TypeId} (AD:prog.underlying T2=some (TypeDesc.slice e)) (pM:(prog.info? e).map (fun i=>(i.zero,i.size,i.bytes))=some (some (.slice none 0 0),1,24)) (w:World) {o:Oper} {a:Act} {Q:Exit->Act->World->Prop} {L:Act->World->Prop}
  (s x:Operand) (ho:o.op=Op.call { callee:=Callee.builtin Builtin.append,args:=#[s,x],argTypes:=#[T2,T2] }) (ob base:Nat)
  (v:Value) (tags:List (Nat×Nat)) (m:List (List α)) (t:Nat×Nat) (r:List α) (u:Array Value) (T:TypeId) (hs:a.eval s=v) (hB:bf K e w ob base v tags m)
  (hx:a.eval x=.slice (some ⟨w.heap.size,0,none⟩) 1 1) (hu:u=#[jH t r.length]) (qN:r.length<=t.2) (pX:t.2<=9223372036854775807) (hR:K.R w t.1 r) (hb:base<=t.1) (hv:v.ownBlock≠some t.1) (hn:t.1∉tags.map (·.1))
  (hlen:m.length<1000000) (o6:ob<=w.heap.size)
  (h:∀ v' w',bf K e w' ob base v' (tags++[t]) (m++[r])->Below ob w w'->Hid (∃ g c,v'=.slice (some ⟨g,0,none⟩) (m.length+1) c)->L (a.put o.dst v') w') :
  Oper.wp prog o a (w.alloc (.cells u T)) L Q:=by
 subst hu;obtain ⟨i0,hi,hz,o9,hby⟩:=info_parts pM;have pU:∀ j,(⟨w.heap.size,0,none⟩:Addr).add j=⟨w.heap.size,j,none⟩:=by intro j;unfold Addr.add;split <;> simp_all
 have hE:aA w (w.alloc (.cells #[jH t r.length] T)):=aA.alloc _ _;refine ig (w.alloc (.cells #[jH t r.length] T)) s x T2 ho ob e i0 (.slice none 0 0) 1 24 AD hi hz o9 hby rfl (by decide) v m.length (ic tags m) hs (fN hB.own hE) ⟨w.heap.size,0,none⟩ 1 1 [jH t r.length] hx rfl ?_ ?_ ?_ ?_ ?_ ?_
 ·intro j q hq;rw [pU,World.cell?_alloc_new];simpa using hq
 ·intro u hu;rw [List.mem_singleton.1 hu];rfl
 ·unfold maxLen;omega
 ·omega
 ·simp;omega
 ·intro v' w' hown oo _ qF
  have hLB:=(hB.ext hE).snoc t r qN pX (K.same hR hE.size (hE.block _ (K.lt hR))) hb hv hn hown oo (by
   rcases qF with h1 | h1;·exact .inl h1
   ·exact .inr ⟨_,h1,oK _⟩)
  refine h v' w' hLB ?_ ?_
  ·have pj:w.grownBy w' v.ownBlock:=gA (hE.grown _) oo;refine ⟨pj.os,pj.tape,pj.output,pj.size,fun b hb2=>pj.block b (by omega) ?_⟩;intro e;have:=(hB.own.lt b e.symm).1;omega
  ·obtain ⟨g,c,tz,-⟩:=gF hown (by omega);exact ⟨g,c,tz⟩
theorem Z3_ {α:Type} {K:gd α} {e:TypeId} {T2:TypeId} (AD:prog.underlying T2=some (TypeDesc.slice e)) (pM:(prog.info? e).map (fun i=>(i.zero,i.size,i.bytes))=some (some (.slice none 0 0),1,24)) (w:World) {ops:Array Oper} {rest:List Oper} {o:Oper} {a:Act} {Q:Exit->Act->World->Prop} (pq:o.guard=none)
  (s x:Operand) (ho:o.op=Op.call { callee:=Callee.builtin Builtin.append,args:=#[s,x],argTypes:=#[T2,T2] }) (ob base:Nat)
  (v:Value) (tags:List (Nat×Nat)) (m:List (List α)) (t:Nat×Nat) (r:List α) (u:Array Value) (T:TypeId) (hs:a.eval s=v) (hB:bf K e w ob base v tags m)
  (hx:a.eval x=.slice (some ⟨w.heap.size,0,none⟩) 1 1) (hu:u=#[jH t r.length]) (qN:r.length<=t.2) (pX:t.2<=9223372036854775807) (hR:K.R w t.1 r) (hb:base<=t.1) (hv:v.ownBlock≠some t.1) (hn:t.1∉tags.map (·.1))
  (hlen:m.length<1000000) (o6:ob<=w.heap.size)
  (h:∀ v' w',bf K e w' ob base v' (tags++[t]) (m++[r])->Below ob w w'->Hid (∃ g c,v'=.slice (some ⟨g,0,none⟩) (m.length+1) c)->wpList prog ops Q rest (a.put o.dst v') w') :
  wpList prog ops Q (o::rest) a (w.alloc (.cells u T)) :=
 wpList_plain pq fun _ hK=>V9_ AD pM w s x ho ob base v tags m t r u T hs hB hx hu qN pX hR hb hv hn hlen o6 fun v' w' a1 a2 a3=>hK _ _ (h v' w' a1 a2 a3)
theorem Z5C:(prog.info? 152).map (fun i=>(i.zero,i.size,i.bytes))=some (some (.agg #[.string ⟨#[]⟩,.string ⟨#[]⟩]),2,32):=by kernel_rfl
theorem Z47:(prog.info? 197).map (fun i=>(i.zero,i.size,i.bytes))=some (some (.slice none 0 0),1,24):=by kernel_rfl
def ratR (_:World) (u:List Value) (q:Rat):Prop:=u=[.string (aB q.num),.string (aE q.den)]
theorem ratR.mono:iD ratR:=fun _ _ _ _ _ h=>h
abbrev gY (w:World) (v:Value) (xs:List Rat):Prop:=aH 2 ratR w v xs
theorem gY.ext {w w':World} {v:Value} {xs:List Rat} (h:gY w v xs) (he:aA w w'):gY w' v xs:=aH.ext ratR.mono h he
def fx (l:List Rat):List Value:=(l.map fun q:Rat=>[Value.string (aB q.num),Value.string (aE q.den)]).flatten
theorem z4_ (a b:List Rat):fx (a++b)=fx a++fx b:=by simp [fx]
theorem Q2_:∀ l:List Rat,(fx l).length=l.length*2
 | []=>rfl
 | q::l=>by
  have h:=Q2_ l;unfold fx at h |-;rw [List.map_cons,List.flatten_cons,oV,h];simp;omega
theorem Q1_ {l:List Rat} {j:Nat} {q:Rat} (h:l[j]?=some q):(fx l)[j*2]?=some (.string (aB q.num))/\(fx l)[j*2+1]?=some (.string (aE q.den)):=by
 have hk:∀ u∈(l.map fun q:Rat=>[Value.string (aB q.num),Value.string (aE q.den)]),u.length=2:=by
  intro u hu;obtain ⟨x,-,rfl⟩:=List.mem_map.1 hu;rfl
 have hm:(l.map fun q:Rat=>[Value.string (aB q.num),Value.string (aE q.den)])[j]?=some [Value.string (aB q.num),Value.string (aE q.den)]:=by rw [oF,h];rfl
 have h0:=Y9_ _ j 0 _ hk hm (by omega);have h1:=Y9_ _ j 1 _ hk hm (by omega);exact ⟨h0,h1⟩
def eB (B:Nat) (w:World) (v:Value) (l:List Rat):Prop:=w.ownsRow B 152 2 v l.length (fx l)
theorem eB.nil (B:Nat) (w:World):eB B w (.slice none 0 0) []:=World.ownsRow_nil w B 152 2
theorem eB.ext {B:Nat} {w w':World} {v:Value} {l:List Rat} (h:eB B w v l) (he:aA w w'):eB B w' v l:=fN h he
theorem eB.lt {B:Nat} {w:World} {v:Value} {l:List Rat} (h:eB B w v l):∀ b,v.ownBlock=some b->B<=b/\b<w.heap.size:=World.ownsRow.lt h
theorem eB.form {B:Nat} {w:World} {v:Value} {l:List Rat} (h:eB B w v l):∃ a cap,v=.slice a l.length cap/\l.length<=cap/\cap<=9223372036854775807:=by
 rcases h.2 with ⟨rfl,hn⟩ | ⟨g,cap,cur,rfl,hb,hg,h1,h2,h3,h4⟩
 ·exact ⟨none,0,by rw [hn],by omega,by omega⟩
 ·exact ⟨_,cap,rfl,h1,h2⟩
theorem eB.low {B B':Nat} {w:World} {v:Value} {l:List Rat} (h:eB B w v l) (hb:B'<=B):eB B' w v l:=by
 refine ⟨h.1,?_⟩;rcases h.2 with h' | ⟨g,cap,cur,rfl,hg,rest⟩
 ·exact .inl h'
 ·exact .inr ⟨g,cap,cur,rfl,oJ hb hg,rest⟩
theorem eB.row {B g n c:Nat} {w:World} {l:List Rat} (h:eB B w (.slice (some ⟨g,0,none⟩) n c) l):eh w g l:=by
 obtain rfl:n=l.length:=by
  obtain ⟨a,cap,hv,-⟩:=h.form;simp only [Value.slice.injEq] at hv;exact hv.2.1
 have hl:=h.lt g (by simp [Value.ownBlock]);have hc:=World.ownsRow.cells h (g:=g) (by simp [Value.ownBlock]);have pU:∀ j,(⟨g,0,none⟩:Addr).add j=⟨g,j,none⟩:=fun j=>by unfold Addr.add;split <;> simp_all
 refine ⟨hl.2,fun j x hx=>?_,fun j x hx=>?_,fun j=>World.ownsRow.frozenAt h j⟩
 ·have:=hc (j*2) _ (Q1_ hx).1;rw [pU] at this;exact this
 ·have:=hc (j*2+1) _ (Q1_ hx).2;rw [pU] at this;exact this
theorem gY.one (w:World) (q:Rat) (T:TypeId):gY (w.alloc (.cells #[.string (aB q.num),.string (aE q.den)] T)) (.slice (some ⟨w.heap.size,0,none⟩) 1 1) [q]:=by
 refine ⟨[[.string (aB q.num),.string (aE q.den)]],rfl,by simp,?_,?_⟩;·exact dQ.lit w [.string (aB q.num),.string (aE q.den)] 1 T (by unfold maxLen;omega)
 ·intro j u x hu hx;cases j with
  | zero =>
   simp only [oQ,Option.some.injEq] at hu hx;subst hu;subst hx;rfl
  | succ j=>simp at hu
theorem Y4_ (W:World) {ops:Array Oper} {rest:List Oper} {o:Oper} {a:Act} {Q:Exit->Act->World->Prop} (pq:o.guard=none)
  (s x:Operand) (ho:o.op=Op.call { callee:=Callee.builtin Builtin.append,args:=#[s,x],argTypes:=#[197,197] }) (B:Nat)
  (v u:Value) (xs ys:List Rat) (hs:a.eval s=v) (hB:eB B W v xs) (hx:a.eval x=u) (hu:gY W u ys) (hlen:xs.length+ys.length<1000000) (o6:B<=W.heap.size)
  (h:∀ v' w',eB B w' v' (xs++ys)->Below B W w'->W.grownBy w' v.ownBlock->wpList prog ops Q rest (a.put o.dst v') w') :
  wpList prog ops Q (o::rest) a W:=by
 obtain ⟨i0,hi,hz,o9,hby⟩:=info_parts Z5C;obtain ⟨ad,c,rfl,h1,h2,h3,h4⟩:=hu.open
 have Fq:∀ w',W.grownBy w' v.ownBlock->Below B W w':=fun w' hg=>⟨hg.os,hg.tape,hg.output,hg.size,fun b hb=>hg.block b (by omega) fun e=>by
  have:=(hB.lt b e.symm).1
  omega⟩
 cases ad with
 | none =>
  obtain rfl:c=0:=h3 rfl;obtain rfl:ys=[]:=List.eq_nil_of_length_eq_zero (by omega);rw [List.append_nil] at h;refine wpList_append_own_none pq s x _ ho B 152 i0 2 underlying197 hi v xs.length (fx xs) hs hB hx ?_;exact h v W hB (Below.refl _ _) (World.grownBy.refl _ _)
 | some ad =>
  refine wpList_plain pq fun K hK=>?_;refine ig W s x _ ho B 152 i0 (.agg #[.string ⟨#[]⟩,.string ⟨#[]⟩]) 2 32 underlying197 hi hz o9 hby rfl (by decide) v xs.length (fx xs) hs hB ad ys.length c (fx ys) hx (Q2_ ys) ?_ ?_ ?_ ?_ o6 ?_
  ·intro j q hq;have hj:j<(fx ys).length:=(oC.1 hq).1;rw [Q2_] at hj;obtain ⟨b,off,e,hb,hc⟩:=h4 (by omega) (by intro e;rw [e] at hj;simp at hj);cases e;obtain ⟨r,hr⟩:∃ r,ys[j / 2]?=some r:=⟨_,oB (by omega)⟩;obtain ⟨cs,-,rfl,hcs⟩:=hc _ r hr;have h0:=hcs 0 (by omega);have h1:=hcs 1 (by omega);obtain ⟨e0,e1⟩:=Q1_ hr;rw [show (⟨b,off,none⟩:Addr).add j=⟨b,off+j,none⟩ by unfold Addr.add;split <;> simp_all];by_cases hp:j%2=0
   ·rw [show j / 2*2=j by omega] at e0;rw [show off+(j / 2*2+0)=off+j by omega] at h0;rw [h0,<- hq,e0];rfl
   ·rw [show j / 2*2+1=j by omega] at e1;rw [show off+(j / 2*2+1)=off+j by omega] at h1;rw [h1,<- hq,e1];rfl
  ·intro z hz;unfold fx at hz;obtain ⟨l,hl,hz⟩:=List.mem_flatten.1 hz;obtain ⟨q,-,rfl⟩:=List.mem_map.1 hl;simp only [List.mem_cons,List.not_mem_nil,or_false] at hz;rcases hz with rfl | rfl <;> rfl
  ·unfold maxLen;omega
  ·omega
  ·intro v' w' hown oo _ qF;have qh:eB B w' v' (xs++ys):=by
    unfold eB;rw [oV,z4_];exact hown
   exact hK _ _ (h v' w' qh (Fq w' oo) oo)
section
variable {P:Program} {ops:Array Oper} {Q:Exit->Act->World->Prop} {md:Region.Mode} {S:World->Prop} {z:Nat}
def bG (P:Program) (md:Region.Mode) (ops:Array Oper) (Q:Exit->Act->World->Prop) (S:World->Prop) (z:Nat):Nat->Array Bool->Act->World->Prop
 | 0,l,a,w=>Region.ready md ops l=[]/\Q .normal a w
 | f+1,l,a,w=>(Region.ready md ops l=[]->Q .normal a w) /\
  ∀ i∈Region.ready md ops l,wpOp P ops Q i (fun b u=>((l.setIfInBounds i true).getD z false=false->S u)/\bG P md ops Q S z f (l.setIfInBounds i true) b u) a w
theorem A9_:∀ (f:Nat) (l:Array Bool) (a:Act) (w:World),bG P md ops Q S z f l a w->wpAny P md ops Q f l a w
 | 0,_,_,_,h=>h
 | f+1,l,_,_,h=>⟨h.1,fun i hi=>wpOp_mono (fun b u hb=>A9_ f (l.setIfInBounds i true) b u hb.2) (h.2 i hi)⟩
def lO (md:Region.Mode) (ops:Array Oper) (l:Array Bool):Prop:=∀ j o,ops[j]?=some o->l.getD j false=true->∀ e∈o.after,Region.binds md e=true->l.getD e.on false=true
def mv (md:Region.Mode) (ops:Array Oper) (l:Array Bool):Bool:=(List.range ops.size).all fun j=>!(l.getD j false) || match ops[j]? with
 | some o=>o.after.all fun e=>!(Region.binds md e) || l.getD e.on false
 | none=>true
theorem O8_ {l:Array Bool} (h:mv md ops l=true):lO md ops l:=by
 intro j o ho hl e he hb;have h1:=List.all_eq_true.1 h j (List.mem_range.2 (Array.getElem?_eq_some_iff.1 ho).1);simp only [ho,hl,Bool.not_true,Bool.false_or] at h1;have h2:=Array.all_eq_true_iff_forall_mem.1 h1 e he;simpa [hb] using h2
theorem lO.step {l:Array Bool} (h:lO md ops l) {j:Nat} (hj:j∈Region.ready md ops l):lO md ops (l.setIfInBounds j true):=by
 intro k o ho hl e he hb;by_cases hk:j=k
 ·subst hk;obtain ⟨-,o',D0,hall⟩:=mem_ready.1 hj;obtain rfl:o'=o:=oM (D0.symm.trans ho);exact getD_set_true (hall e he hb)
 ·rw [getD_set_ne false hk] at hl;exact getD_set_true (h k o ho hl e he hb)
def gQ (md:Region.Mode) (ops:Array Oper):Nat->Nat->Nat->Bool
 | 0,_,_=>false
 | f+1,a,i=>match ops[a]? with
  | some o=>o.after.any fun e=>Region.binds md e && (e.on == i || gQ md ops f e.on i)
  | none=>false
theorem Y1_ {l:Array Bool} (hc:lO md ops l) {i:Nat}:∀ (f a:Nat) (o:Oper),ops[a]?=some o->gQ md ops f a i=true->(∀ e∈o.after,Region.binds md e=true->l.getD e.on false=true)->l.getD i false=true
 | 0,_,_,_,h,_=>by cases h
 | f+1,a,o,ho,h,hall=>by
  simp only [gQ,ho] at h;obtain ⟨e,he,hb⟩:=Array.any_eq_true'.1 h;simp only [Bool.and_eq_true,Bool.or_eq_true,beq_iff_eq] at hb;have hl:=hall e he hb.1;rcases hb.2 with h1 | h1;·rw [<- h1];exact hl
  ·cases hq:ops[e.on]? with
   | none=>cases f with
    | zero=>cases h1
    | succ f=>simp only [gQ,hq] at h1;cases h1
   | some p=>exact Y1_ hc f e.on p hq h1 fun d hd hbd=>hc e.on p hq hl d hd hbd
theorem M0_ {l:Array Bool} {i:Nat} (h:(l.setIfInBounds i true).getD z false=false):l.getD z false=false:=by
 cases e:l.getD z false;·rfl
 ·rw [getD_set_true e] at h;cases h
theorem P4_ {l:Array Bool} {i:Nat} (ui:l.getD i true=false):l.getD i false=false:=by
 by_cases hs:i<l.size;·simp [hs] at ui |-;exact ui
 ·simp [Array.getElem?_eq_none (Nat.le_of_not_lt hs)]
theorem F9_ {i n:Nat} {oi:Oper} {v:Value} (hi:ops[i]?=some oi) (tF:∀ (j:Nat) (o:Oper) cs b,ops[j]?=some o->o.op≠.select cs b)
  (hQ:∀ c a w,Q (.panic c) (a.put oi.dst v) w->Q (.panic c) a w) (hz:gQ md ops n z i=true) (f:Nat) :
  ∀ (l:Array Bool) (a:Act) (w:World),
   (∀ j oj,ops[j]?=some oj->j≠i->l.getD j true=false->(∀ e∈oj.after,Region.binds md e=true->e.on≠i)->oi.apart ops oj=true) ->
   lO md ops l->i∈Region.ready md ops l->YieldsIf P ops S oi v a->S w ->
   bG P md ops Q S z f (l.setIfInBounds i true) (a.put oi.dst v) w->bG P md ops Q S z (f+1) l a w:=by
 induction f with
 | zero =>
  intro l a w _ _ hr hy hS H;refine ⟨(fun e=>by rw [e] at hr;cases hr),fun j hj=>?_⟩;by_cases e:j=i;·rw [e];exact hy.wpOp hi hS ⟨fun _=>hS,H⟩
  ·have:=ready_mono hj e;rw [H.1] at this;cases this
 | succ f ih =>
  intro l a w qR hcl hr hy hS H;refine ⟨(fun e=>by rw [e] at hr;cases hr),fun j hj=>?_⟩;by_cases e:j=i;·rw [e];exact hy.wpOp hi hS ⟨fun _=>hS,H⟩
  have vu:i≠j:=fun x=>e x.symm;have un:=(mem_ready.1 hj).1;obtain ⟨oj,wM,hall⟩:=(mem_ready.1 hj).2;have ui:=(mem_ready.1 hr).1;have uf:l.getD i false=true->False:=fun hc=>by rw [P4_ ui] at hc;cases hc
  have Kn:j≠z:=fun Bu=>by
   subst Bu;exact uf (Y1_ hcl n j oj wM hz hall)
  have FI:i≠z:=fun Bu=>by
   subst Bu;obtain ⟨o2,ho2,Cx⟩:=(mem_ready.1 hr).2;exact uf (Y1_ hcl n i o2 ho2 hz Cx)
  have J2:l.getD z false=false:=by
   cases e2:l.getD z false;·rfl
   ·exfalso;cases hq:ops[z]? with
    | none=>cases n with
     | zero=>cases hz
     | succ n=>simp only [gQ,hq] at hz;cases hz
    | some o3=>exact uf (Y1_ hcl n z o3 hq hz fun d hd hbd=>hcl z o3 hq e2 d hd hbd)
  have xG:∀ d∈oj.after,Region.binds md d=true->d.on≠i:=fun d hd hb rm=>uf (by have:=hall d hd hb;rwa [rm] at this);have step:=wpOp_putIf wM (qR j oj wM e un xG) (fun cs b=>tF i oi cs b hi) (fun cs b=>tF j oj cs b wM) hQ hy (H.2 j (ready_mono hj e));refine wpOp_mono (fun b u hb=>?_) step;obtain ⟨qz,vE,pL⟩:=hb;have zg:S u:=vE (by rw [getD_set_ne false Kn,getD_set_ne false FI];exact J2);refine ⟨fun _=>zg,ih (l.setIfInBounds j true) b u (fun k ok hk Cc zN hn=>?_) (hcl.step hj) (ready_mono hr vu) qz zg ?_⟩
  ·refine qR k ok hk Cc ?_ hn;by_cases yQ:j=k;·rw [<- yQ];exact un
   ·rw [getD_set_ne true yQ] at zN;exact zN
  ·rw [Array.setIfInBounds_comm _ _ e];exact pL
theorem l2_ {i:Nat} {oi:Oper} {v:Value} (hi:ops[i]?=some oi) (tF:∀ (j:Nat) (o:Oper) cs b,ops[j]?=some o->o.op≠.select cs b)
  (hQ:∀ c a w,Q (.panic c) (a.put oi.dst v) w->Q (.panic c) a w) (FI:i≠z) (f:Nat) :
  ∀ (l:Array Bool) (a:Act) (w:World),
   (∀ j oj,ops[j]?=some oj->j≠i->l.getD j true=false->(∀ e∈oj.after,Region.binds md e=true->e.on≠i)->oi.apart ops oj=true) ->
   i∈Region.ready md ops l->Yields P ops oi v a->(l.getD z false=false->S w) ->
   bG P md ops Q S z f (l.setIfInBounds i true) (a.put oi.dst v) w->bG P md ops Q S z (f+1) l a w:=by
 induction f with
 | zero =>
  intro l a w _ hr hy hS H;refine ⟨(fun e=>by rw [e] at hr;cases hr),fun j hj=>?_⟩;by_cases e:j=i;·rw [e];exact hy.wpOp hi ⟨fun h=>hS (M0_ h),H⟩
  ·have:=ready_mono hj e;rw [H.1] at this;cases this
 | succ f ih =>
  intro l a w qR hr hy hS H;refine ⟨(fun e=>by rw [e] at hr;cases hr),fun j hj=>?_⟩;by_cases e:j=i;·rw [e];exact hy.wpOp hi ⟨fun h=>hS (M0_ h),H⟩
  have vu:i≠j:=fun x=>e x.symm;have un:=(mem_ready.1 hj).1;obtain ⟨oj,wM,hall⟩:=(mem_ready.1 hj).2;have ui:=(mem_ready.1 hr).1;have uf:l.getD i false=true->False:=fun hc=>by rw [P4_ ui] at hc;cases hc
  have xG:∀ d∈oj.after,Region.binds md d=true->d.on≠i:=fun d hd hb rm=>uf (by have:=hall d hd hb;rwa [rm] at this);have step:=wpOp_put wM (qR j oj wM e un xG) (fun cs b=>tF i oi cs b hi) (fun cs b=>tF j oj cs b wM) hQ hy (H.2 j (ready_mono hj e));refine wpOp_mono (fun b u hb=>?_) step;obtain ⟨qz,vE,pL⟩:=hb;have zg:(l.setIfInBounds j true).getD z false=false->S u:=fun h=>vE (by rw [Array.setIfInBounds_comm _ _ vu,getD_set_ne false FI];exact h);refine ⟨zg,ih (l.setIfInBounds j true) b u (fun k ok hk Cc zN hn=>?_) (ready_mono hr vu) qz zg ?_⟩
  ·refine qR k ok hk Cc ?_ hn;by_cases yQ:j=k;·rw [<- yQ];exact un
   ·rw [getD_set_ne true yQ] at zN;exact zN
  ·rw [Array.setIfInBounds_comm _ _ e];exact pL
theorem u5_ (i:Nat) {oi:Oper} {v:Value} {f:Nat} {l:Array Bool} {a:Act} {w:World} (hi:ops[i]?=some oi)
  (hs:Region.noSelect ops=true) (hc:mv md ops l=true) (hf:Region.free md ops l i=true) (hr:(Region.ready md ops l).contains i=true) (hz:gQ md ops 40 z i=true)
  (hQ:∀ c a w,Q (.panic c) (a.put oi.dst v) w->Q (.panic c) a w) (hy:YieldsIf P ops S oi v a) (hS:S w)
  (h:bG P md ops Q S z f (l.setIfInBounds i true) (a.put oi.dst v) w):bG P md ops Q S z (f+1) l a w :=
 F9_ hi (Region.noSelect_spec hs) hQ hz f l a w (Region.free_spec hi hf) (O8_ hc) (by simpa using hr) hy hS h
theorem Q0_ (i:Nat) {oi:Oper} {v:Value} {f:Nat} {l:Array Bool} {a:Act} {w:World} (hi:ops[i]?=some oi)
  (hs:Region.noSelect ops=true) (hf:Region.free md ops l i=true) (hr:(Region.ready md ops l).contains i=true) (hz:i≠z)
  (hQ:∀ c a w,Q (.panic c) (a.put oi.dst v) w->Q (.panic c) a w) (hy:Yields P ops oi v a) (hS:S w)
  (h:bG P md ops Q S z f (l.setIfInBounds i true) (a.put oi.dst v) w):bG P md ops Q S z (f+1) l a w :=
 l2_ hi (Region.noSelect_spec hs) hQ hz f l a w (Region.free_spec hi hf) (by simpa using hr) hy (fun _=>hS) h
theorem dh (i:Nat) {o:Oper} {f:Nat} {l:Array Bool} {a:Act} {w:World} (hr:Region.ready md ops l=[i]) (ho:ops[i]?=some o)
  (h:∀ K:Act->World->Prop,Shut (∀ b u,S u->(S u->bG P md ops Q S z f (l.setIfInBounds i true) b u)->K b u)->if Region.wanted o (yielded ops a.tmps)=true then Oper.wp P o a w K Q else K (a.put o.dst undef) w):bG P md ops Q S z (f+1) l a w:=by
 refine ⟨(fun e=>by rw [hr] at e;cases e),fun j hj=>?_⟩;obtain rfl:j=i:=by rw [hr] at hj;simpa using hj
 exact wpOp_step ho fun K hK=>h K fun b u hS pL=>hK b u ⟨fun _=>hS,pL hS⟩
theorem R9_ (i:Nat) {o:Oper} {f:Nat} {l:Array Bool} {a:Act} {w:World} (hr:Region.ready md ops l=[i]) (hz:(l.setIfInBounds i true).getD z false=true) (ho:ops[i]?=some o)
  (h:∀ K:Act->World->Prop,Shut (∀ b u,bG P md ops Q S z f (l.setIfInBounds i true) b u->K b u)->if Region.wanted o (yielded ops a.tmps)=true then Oper.wp P o a w K Q else K (a.put o.dst undef) w):bG P md ops Q S z (f+1) l a w:=by
 refine ⟨(fun e=>by rw [hr] at e;cases e),fun j hj=>?_⟩;obtain rfl:j=i:=by rw [hr] at hj;simpa using hj
 exact wpOp_step ho fun K hK=>h K fun b u pL=>hK b u ⟨(fun e=>by rw [hz] at e;cases e),pL⟩
theorem fw (i:Nat) {o:Oper} {f:Nat} {l:Array Bool} {a:Act} {w:World} (hr:Region.ready md ops l=[i]) (pX:Region.ready md ops (l.setIfInBounds i true)=[]) (hz:(l.setIfInBounds i true).getD z false=true) (ho:ops[i]?=some o)
  (h:∀ K:Act->World->Prop,Shut (∀ b u,Q .normal b u->K b u)->if Region.wanted o (yielded ops a.tmps)=true then Oper.wp P o a w K Q else K (a.put o.dst undef) w):bG P md ops Q S z (f+1) l a w:=by
 refine ⟨(fun e=>by rw [hr] at e;cases e),fun j hj=>?_⟩;obtain rfl:j=i:=by rw [hr] at hj;simpa using hj
 refine wpOp_step ho fun K hK=>h K fun b u hq=>hK b u ⟨(fun e=>by rw [hz] at e;cases e),?_⟩;cases f with
 | zero=>exact ⟨pX,hq⟩
 | succ f=>exact ⟨fun _=>hq,by rw [pX];simp⟩
theorem jE (S:World->Prop) (z:Nat) {id:Nat} {a:Act} {w:World} (hm:P.follows .mixedOrders=true) (hS:S w.drew)
  (h:S w.drew->bG P .any ops Q S z ops.size (Array.replicate ops.size false) a w.drew):(Code.region id ops true).wp P Q a w :=
 wp_region_any hm (A9_ _ _ _ _ (h hS))
end
section
variable {P:Program} {ops O:Array Oper} {Q:Exit->Act->World->Prop} {md:Region.Mode} {S:World->Prop} {z n:Nat}
theorem tW (i:Nat) {oi:Oper} {v:Value} {f:Nat} {l:Array Bool} {a:Act} {w:World} (hi:ops[i]?=some oi) (hy:Yields P ops oi v a) (h:bG P md ops Q S z f (l.setIfInBounds i true) (a.put oi.dst v) w) (hS:S w:=by assumption) (hs:Region.noSelect ops=true:=by kernel_rfl) (hf:Region.free md ops l i=true:=by kernel_rfl) (hr:(Region.ready md ops l).contains i=true:=by kernel_rfl) (hz:i≠z:=by decide) (hQ:∀ c a w,Q (.panic c) (a.put oi.dst v) w->Q (.panic c) a w:=by exact fun _ _ _ h=>h):bG P md ops Q S z (f+1) l a w:=Q0_ i hi hs hf hr hz hQ hy hS h
theorem tL (i:Nat) {oi:Oper} {v:Value} {f:Nat} {l:Array Bool} {a:Act} {w:World} (hi:ops[i]?=some oi) (hy:YieldsIf P ops S oi v a) (h:bG P md ops Q S z f (l.setIfInBounds i true) (a.put oi.dst v) w) (hS:S w:=by assumption) (hs:Region.noSelect ops=true:=by kernel_rfl) (hc:mv md ops l=true:=by kernel_rfl) (hf:Region.free md ops l i=true:=by kernel_rfl) (hr:(Region.ready md ops l).contains i=true:=by kernel_rfl) (hz:gQ md ops 40 z i=true:=by kernel_rfl) (hQ:∀ c a w,Q (.panic c) (a.put oi.dst v) w->Q (.panic c) a w:=by exact fun _ _ _ h=>h):bG P md ops Q S z (f+1) l a w:=u5_ i hi hs hc hf hr hz hQ hy hS h
end
section
variable {P:Program} {ops O:Array Oper} {Q:Exit->Act->World->Prop} {md:Region.Mode} {S:World->Prop} {z n:Nat}
def jO (is:List Nat) (p:Prop):Prop:=p
def Z6H (ops:Array Oper) (i:Nat) (oi:Oper) (is:List Nat) (p:Prop):Prop:=ops[i]?=some oi->p
theorem rA (is:List Nat) {p:Prop} (h:jO is p):p:=h
theorem rE {p:Prop} (h:p):jO [] p:=h
theorem rW {i:Nat} {is:List Nat} {oi:Oper} {v:Value} {f:Nat} {l:Array Bool} {a:Act} {w:World} (hi:ops[i]?=some oi) (hy:Yields P ops oi v a) (h:jO is (bG P md ops Q S z f (l.setIfInBounds i true) (a.put oi.dst v) w)) (hS:S w:=by assumption) (hs:Region.noSelect ops=true:=by kernel_rfl) (hf:Region.free md ops l i=true:=by kernel_rfl) (hr:(Region.ready md ops l).contains i=true:=by kernel_rfl) (hz:i≠z:=by decide) (hQ:∀ c a w,Q (.panic c) (a.put oi.dst v) w->Q (.panic c) a w:=by exact fun _ _ _ h=>h):jO (i::is) (bG P md ops Q S z (f+1) l a w):=Q0_ i hi hs hf hr hz hQ hy hS h
theorem rL {i:Nat} {is:List Nat} {oi:Oper} {v:Value} {f:Nat} {l:Array Bool} {a:Act} {w:World} (hi:ops[i]?=some oi) (hy:YieldsIf P ops S oi v a) (h:jO is (bG P md ops Q S z f (l.setIfInBounds i true) (a.put oi.dst v) w)) (hS:S w:=by assumption) (hs:Region.noSelect ops=true:=by kernel_rfl) (hc:mv md ops l=true:=by kernel_rfl) (hf:Region.free md ops l i=true:=by kernel_rfl) (hr:(Region.ready md ops l).contains i=true:=by kernel_rfl) (hz:gQ md ops 40 z i=true:=by kernel_rfl) (hQ:∀ c a w,Q (.panic c) (a.put oi.dst v) w->Q (.panic c) a w:=by exact fun _ _ _ h=>h):jO (i::is) (bG P md ops Q S z (f+1) l a w):=u5_ i hi hs hc hf hr hz hQ hy hS h
end
end Go.Proofs.YtjlkkofmojgipaaGreatDoor
