import Derived.Test.YtoonaddcfakamaaGreatDoorZAG
import Derived.RangeFuncNested
import Derived.RangeFuncBound
import Derived.RangeFuncCalls
import Derived.RangeFuncLeaves
import Derived.Shelf.Abstract
import Derived.Shelf.RegionOpen
import Derived.WalkKit
import Derived.OwnWalkIn
import Derived.TacticsInMore
import Derived.LoopNIn
import Derived.LoopIn
import Derived.RangeFuncBox
import Derived.Test.YtoonaddcfakamaaGreatDoorZAA
import Derived.Test.YtoonaddcfakamaaGreatDoorZAE
import Derived.Test.YtoonaddcfakamaaGreatDoorZAF
import Derived.Deep.CutRange
import Derived.Deep.RegionWith
import Derived.OwnWalk
import Derived.Lib.ParseIntBTie
set_option linter.unusedVariables false
set_option linter.unusedSimpArgs false
set_option maxRecDepth 1000000
set_option maxHeartbeats 4000000
namespace Go.Proofs.YtoonaddcfakamaaGreatDoor
open Go.RowKit Go.Proofs.Tryz
def bX (D:Int) (v:pN):List Int:=v.map (D*·)
theorem lx (D:Int) (v:pN):(bX D v).length=v.length:=by unfold bX;simp
theorem lu (D:Int) (v:pN) (c:Nat):(bX D v).getD c 0=D*v.getD c 0:=by
 unfold bX;rw [oe,oe,oh];cases v[c]? with
 | none=>simp
 | some a=>rfl
theorem Z2t {v:pN} {c:Nat} (h:v.length<=c):v.getD c 0=0:=by
 rw [oe,o4 h];rfl
theorem nk (r:pN) (D:Int) (v:pN):∀ n,bD r (bX D v) n=D*bD r v n
 | 0=>by unfold bD;simp
 | n+1=>by
  unfold bD;rw [nk r D v n,lu,Int.mul_add];have e:r.getD n 0*(D*v.getD n 0)=D*(r.getD n 0*v.getD n 0):=by rw [<- Int.mul_assoc,Int.mul_comm (r.getD n 0) D,Int.mul_assoc]
  rw [e]
theorem Z6w (x:Rat):x*((x.den:Int):Rat)=(x.num:Rat):=by
 have h1:(x.num:Rat) / ((x.den:Nat):Rat)=x:=by rw [<- Rat.mkRat_eq_div];exact Rat.mkRat_self x
 have h2:((x.den:Nat):Rat)≠0:=by
  intro h;have:x.den=0:=by exact_mod_cast h
  exact x.den_nz this
 have h3:=Rat.div_mul_cancel (a:=(x.num:Rat)) h2;rw [h1] at h3;rw [Rat.intCast_natCast];exact h3
theorem q1_ (x:Nat->Rat):∀ d,∃ D:Int,D≠0/\∃ z:Nat->Int,∀ l,l<d->(D:Rat)*x l=(z l:Rat)
 | 0=>⟨1,by decide,fun _=>0,fun l hl=>by omega⟩
 | d+1=>by
  obtain ⟨D,h0,z,hz⟩:=q1_ x d;have Fv:((x d).den:Int)≠0:=by have:=(x d).den_nz;omega
  refine ⟨D*((x d).den:Int),Int.mul_ne_zero h0 Fv,fun l=>if l=d then D*(x d).num else z l*((x d).den:Int),fun l hl=>?_⟩;by_cases qy:l=d
  ·simp only [if_pos qy];rw [qy,Rat.intCast_mul,Rat.intCast_mul];have e:=Z6w (x d);grind
  ·simp only [if_neg qy];have:=hz l (by omega);rw [Rat.intCast_mul,Rat.intCast_mul];grind
theorem Z5M {n:Nat} {m:pM} (hW:ak n m) (idx:Nat->Nat) (z:Nat->Int):∀ d,(∀ l,l<d->idx l<m.length)->∃ w,Sp n (aG 0 m) w/\∀ c,((w.getD c 0:Int):Rat)=aI d fun l=>(z l:Rat)*(((aD m (idx l)).getD c 0:Int):Rat)
 | 0,_=>⟨_,.zero,fun c=>by rw [fp];rfl⟩
 | d+1,h=>by
  obtain ⟨w,h1,h2⟩:=Z5M hW idx z d fun l hl=>h l (by omega);have hm:aG 0 m (aD m (idx d)):=az (Nat.zero_le _) (h d (by omega));refine ⟨_,.less (-(z d)) h1 (.mem hm),fun c=>?_⟩;rw [en _ (by rw [h1.len (cT hW),cT hW _ hm])];show _=aI d (fun l=>(z l:Rat)*(((aD m (idx l)).getD c 0:Int):Rat))+_;rw [<- h2 c,Rat.intCast_sub,Rat.intCast_mul,Rat.intCast_neg];grind
theorem Z5A {N:Nat} {S:pN->Prop} {f:pN->Rat} (hS:kt N S) (h0:f (List.replicate N 0)=0) (hl:∀ (q:Int) a b,b.length=a.length->f (aU q a b)=f a-(q:Rat)*f b) (h:∀ r,S r->f r=0) {w:pN} (hw:Sp N S w):f w=0:=by
 induction hw with
 | zero=>exact h0
 | mem hm=>exact h _ hm
 | less q a b iha ihb=>rw [hl q _ _ (by rw [a.len hS,b.len hS]),iha,ihb];grind
def iZ (d:Nat) (x:Nat->Rat) (idx:Nat->Nat) (w:pN):Rat:=aI d fun l=>x l*((w.getD (idx l) 0:Int):Rat)
theorem q2_ (d:Nat) (x:Nat->Rat) (idx:Nat->Nat) (q:Int) {a b:pN} (hl:b.length=a.length):iZ d x idx (aU q a b)=iZ d x idx a-(q:Rat)*iZ d x idx b:=by
 unfold iZ;have e:∀ l,l<d->x l*(((aU q a b).getD (idx l) 0:Int):Rat)=x l*((a.getD (idx l) 0:Int):Rat)+(-(q:Rat))*(x l*((b.getD (idx l) 0:Int):Rat)):=fun l _=>by
  rw [en q hl,Rat.intCast_sub,Rat.intCast_mul];grind
 rw [cw e,oU,iv];grind
theorem T3_ (d:Nat) (x:Nat->Rat) (idx:Nat->Nat) {w:pN} (h:∀ l,l<d->w.getD (idx l) 0=0):iZ d x idx w=0 :=
 O0_ d _ fun l hl=>by rw [h l hl];grind
theorem Z5R {h m:pM} {n d:Nat} {ps:Nat->Nat} (hw:ak n m) (hh:a_ (m.length+n) h ps) (hs:bT (m.length+n) (aG 0 (bK n m)) (aG 0 h)) (hd:d<=h.length) (h1:∀ i,i<d->ps i<m.length) (h2:∀ i,d<=i->i<h.length->m.length<=ps i) {v:pN} (hv:v.length=n) (hz:∀ u,cV n m u->bD u v n=0) :
  ∃ D:Int,D≠0/\Sp n (aG 0 m) (bX D v):=by
 obtain ⟨x,hx⟩:=nT (k:=d) (fun a b=>((aC h a (ps b):Int):Rat)) (fun a b qL ha=>by
  have:aC h a (ps b)=0:=hh.2.zero a (by omega) (ps b) (hh.2.mono b a qL (by omega))
  (try simp only);rw [this];rfl) (fun a ha e=>by
  have h4:aC h a (ps a)=0:=by exact_mod_cast e
  have:=hh.2.pos a (by omega);omega) (fun a=>((bD v ((aD h a).drop m.length) n:Int):Rat)) d (oz _)
 have hc:∀ c,c<n->((v.getD c 0:Int):Rat)=aI d fun l=>x l*(((aD m (ps l)).getD c 0:Int):Rat):=by
  intro c hc
  have hF:=Z5A (f:=fun w=>((bD v (w.drop m.length) n:Int):Rat)-iZ d x ps w) (cT (d:=0) hh.1) (by
    (try simp only)
    rw [T3_ d x ps fun l _=>fp _ _,List.drop_replicate,lE];grind) (fun q a b hl=>by
    (try simp only)
    rw [q2_ d x ps q hl,V6_,lD _ _ (by rw [List.length_drop,List.length_drop,hl]),Rat.intCast_sub,Rat.intCast_mul];grind) (by
    rintro r ⟨i,-,hi,rfl⟩
    (try simp only)
    by_cases hid:i<d
    ·have:=hx i (by omega) hid;unfold iZ;rw [this];have e:(aI d fun l=>x l*(fun a b=>((aC h a (ps b):Int):Rat)) i l)=aI d fun l=>x l*(((aD h i).getD (ps l) 0:Int):Rat):=rfl;rw [e];grind
    ·rw [T3_ d x ps fun l hl=>hh.2.zero i hi (ps l) (by have:=h1 l hl;have:=h2 i (by omega) hi;omega)]
     have hA:=(Z5z hh hs hd h1 h2 ((aD h i).drop m.length)).1 (by
      have e:=gw (h:=h) (k:=m.length) (d:=d) (i:=i-d) (by omega);rw [show d+(i-d)=i by omega] at e
      rw [<- e];exact .mem (az (Nat.zero_le _) (by simp;omega)))
     rw [fP,hz _ hA];grind)
   (hs.1 _ (az (Nat.zero_le c) (by rw [iA];exact hc)))
  (try simp only at hF)
  rw [l9 hc,List.drop_left' (by simp),I1_ _ _ _ hc,if_pos hc,<- l9 hc] at hF;have e:iZ d x ps (aD (bK n m) c)=aI d fun l=>x l*(((aD m (ps l)).getD c 0:Int):Rat):=cw fun l hl=>by rw [R0_ hc (h1 l hl)]
  rw [e] at hF;grind
 obtain ⟨D,hD,z,hzz⟩:=q1_ x d;obtain ⟨w,pt,rZ⟩:=Z5M hw ps z d h1;refine ⟨D,hD,?_⟩;have:w=bX D v:=by
  have hwl:=pt.len (cT hw);refine L3_ (by rw [hwl,lx,hv]) fun c=>?_;by_cases vN:c<n
  ·have e1:=rZ c;have e2:(aI d fun l=>(z l:Rat)*(((aD m (ps l)).getD c 0:Int):Rat))=(D:Rat)*((v.getD c 0:Int):Rat):=by
    rw [hc c vN,<- iv];exact cw fun l hl=>by rw [<- hzz l hl];grind
   rw [e2] at e1;rw [lu]
   exact_mod_cast e1
  ·rw [Z2t (by rw [hwl];omega),Z2t (by rw [lx,hv];omega)]
 rw [<- this];exact pt
theorem Z4Q {h B:pM} {n d:Nat} {ps qs:Nat->Nat} (hB:a_ n B qs) (hh:a_ (B.length+n) h ps) (hs:bT (B.length+n) (aG 0 (bK n B)) (aG 0 h)) (hd:d<=h.length) (h1:∀ i,i<d->ps i<B.length) (h2:∀ i,d<=i->i<h.length->B.length<=ps i):d=B.length:=by
 have hle:d<=B.length:=by
  have key:∀ i,i<d->i<=ps i:=by
   intro i
   induction i with
   | zero=>intro _;omega
   | succ i ih=>intro hi;have a1:=ih (by omega);have a2:=hh.2.mono i (i+1) (by omega) (by omega);omega
  rcases Nat.eq_zero_or_pos d with h0 | h0;·omega
  ·have a1:=key (d-1) (by omega);have a2:=h1 (d-1) (by omega);omega
 refine Classical.byContradiction fun hne=>?_;have hlt:d<B.length:=by omega
 obtain ⟨q,hq,Kt⟩:∃ q,q<B.length/\∀ i,i<d->ps i≠q:=by
  refine Classical.byContradiction fun xN=>?_;have hex:∀ q,q<B.length->∃ i,i<d/\ps i=q:=fun q hq=>Classical.byContradiction fun hn=>xN ⟨q,hq,fun i hi he=>hn ⟨i,hi,he⟩⟩
  have hf:∃ f:Nat->Nat,∀ q,q<B.length->f q<d/\ps (f q)=q:=⟨fun q=>if hq:q<B.length then Classical.choose (hex q hq) else 0,fun q hq=>by
   simp only [dif_pos hq];exact Classical.choose_spec (hex q hq)⟩
  obtain ⟨f,hf⟩:=hf;rcases Nat.eq_zero_or_pos d with h0 | h0;·have:=(hf 0 (by omega)).1;omega
  ·obtain ⟨d',rfl⟩:∃ d',d=d'+1:=⟨d-1,by omega⟩;obtain ⟨a,b,a1,a2,a3⟩:=Z3j (d'+1) f fun a ha=>(hf a (by omega)).1;have e1:=(hf a (by omega)).2;have e2:=(hf b (by omega)).2;rw [a3] at e1;omega
 obtain ⟨x,hx⟩:=nT (k:=d) (fun a b=>((aC h a (ps b):Int):Rat)) (fun a b qL ha=>by
  have:aC h a (ps b)=0:=hh.2.zero a (by omega) (ps b) (hh.2.mono b a qL (by omega))
  (try simp only);rw [this];rfl) (fun a ha e=>by
  have h4:aC h a (ps a)=0:=by exact_mod_cast e
  have:=hh.2.pos a (by omega);omega) (fun a=>- ((aC h a q:Int):Rat)) d (oz _)
 have hc:∀ c,c<n->(((aD B q).getD c 0:Int):Rat)+(aI d fun l=>x l*(((aD B (ps l)).getD c 0:Int):Rat))=0:=by
  intro c hc
  have hF:=Z5A (f:=fun w=>((w.getD q 0:Int):Rat)+iZ d x ps w) (cT (d:=0) hh.1) (by
    (try simp only)
    rw [T3_ d x ps fun l _=>fp _ _,fp];grind) (fun r a b hl=>by
    (try simp only)
    rw [q2_ d x ps r hl,en r hl,Rat.intCast_sub,Rat.intCast_mul];grind) (by
    rintro r ⟨i,-,hi,rfl⟩
    (try simp only)
    by_cases hid:i<d
    ·have:=hx i (by omega) hid;have e:(aI d fun l=>x l*(fun a b=>((aC h a (ps b):Int):Rat)) i l)=iZ d x ps (aD h i):=rfl;rw [e] at this;rw [<- this];have e2:(aD h i).getD q 0=aC h i q:=rfl;rw [e2];grind
    ·rw [T3_ d x ps fun l hl=>hh.2.zero i hi (ps l) (by have:=h1 l hl;have:=h2 i (by omega) hi;omega)];have e:(aD h i).getD q 0=0:=hh.2.zero i hi q (by have:=h2 i (by omega) hi;omega)
     rw [e];grind)
   (hs.1 _ (az (Nat.zero_le c) (by rw [iA];exact hc)))
  (try simp only at hF)
  rw [R0_ hc hq] at hF;have e:iZ d x ps (aD (bK n B) c)=aI d fun l=>x l*(((aD B (ps l)).getD c 0:Int):Rat):=cw fun l hl=>by rw [R0_ hc (h1 l hl)]
  rw [e] at hF;exact hF
 have pk:∀ i j,i<j->j<B.length->(aD B j).getD (qs i) 0=0:=fun i j qH hj=>hB.2.zero j hj (qs i) (hB.2.mono i j qH hj);have hp0:∀ i,i<B.length->(((aD B i).getD (qs i) 0:Int):Rat)≠0:=fun i hi e=>by
  have h4:aC B i (qs i)=0:=by unfold aC;exact_mod_cast e
  have:=hB.2.pos i hi;omega
 have qB:∀ j,j<=d->∀ l,l<j->ps l<q->x l=0:=by
  intro j
  induction j with
  | zero=>intro _ l hl;omega
  | succ j ih =>
   intro hj l hl vn;by_cases K7:l<j;·exact ih (by omega) l K7 vn
   ·obtain rfl:l=j:=(by omega);have e:=hc (qs (ps l)) (hB.2.lt _ (h1 l (by omega)));rw [pk (ps l) q vn hq,oV (k:=l) (by omega) fun i hi hne=>?_] at e
    ·rcases Rat.mul_eq_zero.1 (by grind:x l*(((aD B (ps l)).getD (qs (ps l)) 0:Int):Rat)=0) with h0 | h0;·exact h0
     ·exact absurd h0 (hp0 _ (h1 l (by omega)))
    ·rcases Nat.lt_or_ge i l with hil | hil
     ·have:=hh.2.mono i l hil (by omega);rw [ih (by omega) i hil (by omega)];grind
     ·rw [pk (ps l) (ps i) (hh.2.mono l i (by omega) (by omega)) (h1 i hi)];grind
 have e:=hc (qs q) (hB.2.lt q hq);rw [O0_ d _ fun l hl=>?_] at e;·exact hp0 q hq (by grind)
 ·rcases Nat.lt_trichotomy (ps l) q with tr | tr | tr;·rw [qB d (oz _) l hl tr];grind
  ·exact absurd tr (Kt l hl)
  ·rw [pk q (ps l) tr (h1 l hl)];grind
theorem F1_ {n c d:Nat}:∀ {F F':Nat} {m:pM} {r:pM×Bool},F<=F'->db n c d F m=some r->db n c d F' m=some r
 | 0,_,m,r,_,h=>by rw [db] at h;cases h
 | F+1,0,m,r,hl,_=>by omega
 | F+1,F'+1,m,r,hl,h=>by
  rw [db] at h |-;by_cases ho:bH n m=true
  ·rw [if_pos ho] at h |-;cases hb:ao c d m (m.length-d) with
   | none=>rw [hb] at h;exact h
   | some a =>
    rw [hb] at h;simp only at h |-;cases qJ:cH c d (a8 m d a) (m.length-(d+1)) with
    | none=>rw [qJ] at h;cases h
    | some p =>
     obtain ⟨m2,rest⟩:=p;rw [qJ] at h;cases rest with
     | true=>exact F1_ (by omega) h
     | false=>exact h
  ·rw [if_neg ho] at h;cases h
theorem D9_ {n F F':Nat} (hl:F<=F'):∀ {k c d:Nat} {m:pM} {r:pM×Nat},cB n F k c d m=some r->cB n F' k c d m=some r
 | 0,c,d,m,r,h=>by rw [cB] at h |-;exact h
 | k+1,c,d,m,r,h=>by
  rw [cB] at h |-;by_cases hd:d<m.length
  ·rw [if_pos hd] at h |-;cases hs:db n c d F m with
   | none=>rw [hs] at h;cases h
   | some p =>
    rw [hs] at h;rw [F1_ hl hs];exact D9_ hl h
  ·rw [if_neg hd] at h |-;exact h
theorem lI {n F F' cols:Nat} {m R:pM} (hl:F<=F') (h:dj n F cols m=some R):dj n F' cols m=some R:=by
 unfold dj at h |-;cases hc:cB n F cols 0 0 m with
 | none=>rw [hc] at h;cases h
 | some p=>rw [hc] at h;rw [D9_ hl hc];exact h
theorem Z3g {n:Nat} {m:pM} {b:Nat} (hw:∀ x∈m,x.length=n) (hb:∀ x∈m,aT (10^b) x) (hs:b+1<=1000000000):bH n m=true:=by
 unfold bH;rw [List.all_eq_true];intro x hx;rw [Bool.and_eq_true,decide_eq_true_iff];refine ⟨hw x hx,?_⟩;rw [List.all_eq_true];exact fun y hy=>oR hs (by omega) (Nat.lt_of_le_of_lt (hb x hx y hy) (Nat.pow_lt_pow_right (by decide) (by omega)))
theorem Z44 {n N:Nat} {m:pM} (h1:1<=N) (hb:∀ x∈m,aT N x):∀ x∈bK n m,aT N x:=by
 intro x hx y hy;unfold bK at hx;obtain ⟨c,hc,rfl⟩:=List.mem_map.1 hx;rcases List.mem_append.1 hy with hy | hy
 ·obtain ⟨r,hr,rfl⟩:=List.mem_map.1 hy;exact (hb r hr).getD c
 ·rcases List.mem_or_eq_of_mem_set hy with hy | hy;·rw [(List.mem_replicate.1 hy).2];simp
  ·rw [hy];simpa using h1
theorem Z1Q {n:Nat} {m B:pM} (hm:ak n m) (hB:ak n B) (hs:bT n (aG 0 m) (aG 0 B)) (v:pN):cV n m v↔cV n B v:=by
 have key:∀ {m B:pM},ak n m->ak n B->bT n (aG 0 m) (aG 0 B)->cV n m v->cV n B v:=by
  intro m B hm hB hs hv;refine ⟨hv.1,fun i hi=>?_⟩;have h:=hs.2 _ (az (Nat.zero_le i) hi);have hl:=cT (d:=0) hm;generalize aD B i=r at h
  induction h with
  | zero=>rw [fP,lE]
  | mem h=>obtain ⟨j,-,hj,rfl⟩:=h;exact hv.2 j hj
  | less q a b iha ihb=>rw [fP,lD _ _ (by rw [a.len hl,b.len hl]),fP,fP v,iha,ihb];simp
 exact ⟨key hm hB hs,key hB hm hs.symm⟩
theorem mJ {n:Nat} {m:pM} (hm:ak n m) {r v:pN} (hr:Sp n (aG 0 m) r) (hv:cV n m v):bD r v n=0:=by
 have hl:=cT (d:=0) hm
 induction hr with
 | zero=>rw [fP,lE]
 | mem h=>obtain ⟨j,-,hj,rfl⟩:=h;exact hv.2 j hj
 | less q a b iha ihb=>rw [fP,lD _ _ (by rw [a.len hl,b.len hl]),fP,fP v,iha,ihb];simp
def fe (n:Nat) (m:pM) (v:pN):Prop:=v.length=n/\∃ D:Int,D≠0/\Sp n (aG 0 m) (bX D v)
theorem N7_ {n:Nat} {m S:pM} {ps:Nat->Nat} (hS:a_ n S ps) (hm:ak n m) (hD:∀ i,i<S.length->∃ D:Int,D≠0/\Sp n (aG 0 m) (bX D (aD S i))):∃ V:Nat->List Int,(∀ a,a<S.length->aG 0 m (V a))/\al S.length ps V≠0:=by
 refine Classical.byContradiction fun xN=>?_;have hall:∀ V:Nat->List Int,(∀ a,a<S.length->aG 0 m (V a))->al S.length ps V=0:=fun V hV=>Classical.byContradiction fun h=>xN ⟨V,hV,h⟩
 have hf:∃ D:Nat->Int,∀ i,i<S.length->D i≠0/\Sp n (aG 0 m) (bX (D i) (aD S i)):=⟨fun i=>if h:i<S.length then Classical.choose (hD i h) else 0,fun i hi=>by
  simp only [dif_pos hi];exact Classical.choose_spec (hD i hi)⟩
 obtain ⟨D,Jo⟩:=hf;have h0:al S.length ps (fun a=>bX (D a) (aD S a))=0:=x4_ (Q:=fun x=>x=0) (jS n S.length ps) nW (cT hm) hall S.length (oz _) _ (fun a ha=>(Jo a ha).2) fun a h1 h2=>by omega
 have hA:=jS n S.length ps;have key:∀ j,j<=S.length->al S.length ps (fun a=>if a<j then aD S a else bX (D a) (aD S a))=0:=by
  intro j
  induction j with
  | zero=>intro _;rw [<- h0];exact hA.ext _ _ fun a _=>if_neg (by omega)
  | succ j ih =>
   intro hj;have hi:=ih (by omega);have e:=hA.lin (fun a=>if a<j then aD S a else bX (D a) (aD S a)) j (List.replicate n 0) (aD S j) (-(D j)) (by omega) (by rw [hS.1 j (by omega)];simp);rw [hA.zero _ j (by omega)] at e;have e1:aU (-(D j)) (List.replicate n 0) (aD S j)=bX (D j) (aD S j):=by
    refine L3_ (by rw [eX,lx,hS.1 j (by omega)];simp) fun c=>?_;rw [en _ (by rw [hS.1 j (by omega)];simp),fp,lu,Int.neg_mul];omega
   rw [e1] at e;have e2:fc (fun a=>if a<j then aD S a else bX (D a) (aD S a)) j (bX (D j) (aD S j))=fun a=>if a<j then aD S a else bX (D a) (aD S a):=by
    funext a;unfold fc;by_cases ha:a=j;·rw [if_pos ha,if_neg (by omega),ha]
    ·rw [if_neg ha]
   rw [e2,hi] at e;have e3:fc (fun a=>if a<j then aD S a else bX (D a) (aD S a)) j (aD S j)=fun a=>if a<j+1 then aD S a else bX (D a) (aD S a):=by
    funext a;unfold fc;by_cases ha:a=j;·rw [if_pos ha,if_pos (by omega),ha]
    ·rw [if_neg ha];show (if a<j then aD S a else bX (D a) (aD S a))=_;by_cases h2:a<j;·rw [if_pos h2,if_pos (by omega)]
     ·rw [if_neg h2,if_neg (by omega)]
   rw [e3] at e;have hne:((D j:Int):Rat)≠0:=fun hz=>(Jo j (by omega)).1 (by exact_mod_cast hz);rcases Rat.mul_eq_zero.1 (by rw [Rat.intCast_neg] at e;grind:((D j:Int):Rat)*al S.length ps (fun a=>if a<j+1 then aD S a else bX (D a) (aD S a))=0) with h | h;·exact absurd h hne
   ·exact h
 have h1:=key S.length (oz _);rw [hA.ext _ (aD S) fun a ha=>if_pos ha,jT hS _ (oz _)] at h1;have hp:=(jV hS _ (oz S.length)).1;have:dY S ps S.length=0:=by exact_mod_cast h1
 omega
end Go.Proofs.YtoonaddcfakamaaGreatDoor
namespace Go.Proofs.YtoonaddcfakamaaGreatDoor
open Go.RowKit Go.Shelf Go.Proofs.Tryz
structure ft (T:TypeId) (A B:World):Prop where
 size:A.heap.size<=B.heap.size
 same:∀ (b:Nat) C fr,A.heap[b]?=some (.cells C T fr)->B.heap[b]?=some (.cells C T fr)
theorem ft.refl (T:TypeId) (A:World):ft T A A:=⟨oz _,fun _ _ _ h=>h⟩
theorem ft.trans {T:TypeId} {A B C:World} (h:ft T A B) (k:ft T B C):ft T A C:=⟨ow h.size k.size,fun b C fr hb=>k.same b C fr (h.same b C fr hb)⟩
def AbT {β:Type} (B:Nat) (T:TypeId) (J:β->World->Prop):Prop :=
 ∀ s W W' row,J s W->W.grownBy W' row->(∀ r,row=some r->B<=r/\∃ o:Obj,W.heap[r]?=some o/\(o.isCells=false\/∃ C fr,o=.cells C T fr))->J s W'
def AbC {β:Type} (B:Nat) (T:TypeId) (J:β->World->Prop):Prop :=
 ∀ s W W' row,J s W->W.grownBy W' row->(∀ r,row=some r->B<=r/\∃ C fr,W.heap[r]?=some (.cells C T fr))->J s W'
structure jd (T:TypeId) (W:World) (v:Value) (s:List Nat):Prop where
 at_:∃ g C fr,v=.slice (some ⟨g,0,none⟩) s.length s.length/\W.heap[g]?=some (.cells C T fr)/\∀ (j:Nat) x,s[j]?=some x->W.cell? ⟨g,j,none⟩=some (.int .i64 (x:Int))
theorem jd.keep {T:TypeId} {W W':World} {v:Value} {s:List Nat} (h:jd T W v s) (hk:ft T W W'):jd T W' v s:=by
 obtain ⟨g,C,fr,h1,h2,h3⟩:=h.at_;refine ⟨g,C,fr,h1,hk.same g C fr h2,fun j x hx=>?_⟩;have hb:W'.heap[g]?=W.heap[g]?:=(hk.same g C fr h2).trans h2.symm;have:=h3 j x hx;unfold World.cell? at this |-;rw [hb];exact this
def j_ (F:Fence) (n:Nat) (P:Program) (g:Nat) (lb:Array Value) (T:TypeId) (L:List (List Nat)) (w:World):Prop :=
 ∀ (l:Nat) (J:Nat->World->Prop) (W:World),Below w.heap.size w W->AbC W.heap.size T J ->
  (∀ i s v W1,L[i]?=some s->J i W1->jd T W1 v s->YieldAt F (n-1) P l #[v] W1 fun e W'=>e=.returned (.bool true)/\J (i+1) W'/\ft T W1 W') ->
  J 0 W->CallsIn F n P g (#[.func (.yield l) #[] #[]]++lb) W fun e W'=>(∃ v,e=.returned v)/\J L.length W'
theorem j_.inRound {F:Fence} {n:Nat} {P:Program} {g:Nat} {lb:Array Value} {T:TypeId} {L:List (List Nat)} {w:World} (l:Nat) (h:j_ F n P g lb T L w):j_ (F.inRound l) n P g lb T L w:=h
def dQ (fn:FuncId) (tmps:Array Value) (ps:Array Tmp) (assign body:Code) (dd:Nat) (st:LoopState):Loop:={ state:=st,pending:=none,fn:=fn,tmps:=tmps,params:=ps,assign:=assign,body:=body,defers:=dd }
theorem o6_ {B:Nat} {T:TypeId} {W:World} {l:Nat} {r:Loop} (hl:W.heap[l]?=some (.loop r)) (o:Obj):ft T W (W.putObj l o) :=
 ⟨by simp,fun b C fr hb=>by
  rw [World.putObj_heap_other];·exact hb
  ·intro e;subst e;rw [hl] at hb;simp at hb⟩
theorem H4_ {T:TypeId} {W W':World} {row:Option Nat} (hg:W.grownBy W' row) {k:Nat} {o:Obj} (hk:W.heap[k]?=some o) (ho:o.isCells=false) (hr:∀ r,row=some r->∃ C fr,W.heap[r]?=some (.cells C T fr)):W'.heap[k]?=some o:=by
 refine (hg.block k (Array.getElem?_eq_some_iff.1 hk).1 fun e=>?_).trans hk;obtain ⟨C,fr,h⟩:=hr k e.symm;rw [hk] at h;cases h;simp [Obj.isCells] at ho
def x0_ (F:Fence) (n:Nat) (P:Program) (l B:Nat) (T:TypeId) (L:List (List Nat)) (I:Nat->World->Prop) (ps:Array Tmp) (tmps:Array Value) (assign body:Code):Prop :=
 ∀ i s v W,L[i]?=some s->I i W->jd T W v s->(∃ r,W.heap[l]?=some (.loop r)) ->
  assign.wpIn (F.inRound l) n P (Exit.then (fun a' Wa=>KeepsFrom B W Wa/\ft T W Wa /\
   ∀ Wb,Wa.grownBy Wb (some l)->(∃ r,Wa.heap[l]?=some (.loop r))->(∃ r,Wb.heap[l]?=some (.loop r))->ft T Wa Wb ->
    body.wpIn (F.inRound l) n P (fun e _ W3=>e=.normal/\KeepsFrom B Wb W3/\ft T Wb W3/\I (i+1) W3) a' Wb) (fun _ _ _=>False))
   { tmps:=(ps.zip #[v]).foldl (fun t (p,u)=>t.setIfInBounds p u) tmps,defers:=[] } W
theorem G7_ {F:Fence} {n:Nat} {P:Program} {gf:Nat} {lb:Array Value} {T:TypeId} {L:List (List Nat)} {w0 W1:World} {l B dd:Nat} {fn:FuncId} {tmps:Array Value} {ps:Array Tmp} {assign body:Code} {I:Nat->World->Prop}
  (tz:F.fn fn) (s8:j_ F n P gf lb T L w0) (hb1:Below w0.heap.size w0 W1) (hps:ps.size=1) (hB:B<=l) (DF:B<=W1.heap.size) (hl:W1.heap[l]?=some (.loop (dQ fn tmps ps assign body dd .ready)))
  (eD:Option Nat) (hD:∀ D,eD=some D->D≠l/\B<=D/\W1.heap[D]?=some (.deferred (some []))) (hI:AbT B T I) (h0:I 0 W1)
  (qO:x0_ F (n-1) P l B T L I ps tmps assign body) :
  CallsIn F n P gf (#[.func (.yield l) #[] #[]]++lb) W1 fun e W'=>(∃ v,e=.returned v)/\I L.length W'/\W'.heap[l]?=some (.loop (dQ fn tmps ps assign body dd .ready))/\∀ D,eD=some D->W'.heap[D]?=some (.deferred (some [])):=by
 refine s8 l (fun i W=>I i W/\W.heap[l]?=some (.loop (dQ fn tmps ps assign body dd .ready))/\∀ D,eD=some D->W.heap[D]?=some (.deferred (some []))) W1 hb1 ?_ ?_ ⟨h0,hl,fun D e=>(hD D e).2.2⟩
 ·rintro i A A' row ⟨k1,k2,k3⟩ hg hr;refine ⟨hI i A A' row k1 hg (fun r e=>?_),H4_ hg k2 rfl (fun r e=>(hr r e).2),fun D e=>H4_ hg (k3 D e) rfl (fun r e=>(hr r e).2)⟩;obtain ⟨h1,C,fr,h2⟩:=hr r e;exact ⟨ow DF h1,_,h2,.inr ⟨C,fr,rfl⟩⟩
 ·rintro i s v W hs ⟨k1,k2,k3⟩ hv;have hy:=run_yield (P:=P) (args:=#[v]) k2 (by simp [dQ,hps]);refine ⟨fn,_,assign,body,hy,roundIn_of_wpIn tz (wpIn_mono (qO i s v W hs k1 hv ⟨_,k2⟩) ?_)⟩;rintro e a' Wa hp;cases e with
  | normal =>
   obtain ⟨p1,p2,p3⟩:=hp;have m2:=p1.same _ _ hB k2 rfl;have m3:∀ D,eD=some D->Wa.heap[D]?=some (.deferred (some [])):=fun D e=>p1.same _ _ (hD D e).2.1 (k3 D e) rfl;have hlt:l<Wa.heap.size:=(Array.getElem?_eq_some_iff.1 m2).1;refine ⟨_,run_beginRound m2 rfl,?_⟩;have b2:(Wa.putObj l (.loop { dQ fn tmps ps assign body dd .ready with state:=.busy })).heap[l]?=some (.loop { dQ fn tmps ps assign body dd .ready with state:=.busy }):=World.putObj_heap_same hlt;have b3:∀ D,eD=some D->(Wa.putObj l (.loop { dQ fn tmps ps assign body dd .ready with state:=.busy })).heap[D]?=some (.deferred (some [])):=fun D e=>(World.putObj_heap_other (hD D e).1).trans (m3 D e);have bk:=o6_ (B:=B) (T:=T) m2 (.loop { dQ fn tmps ps assign body dd .ready with state:=.busy });refine wpIn_mono (p3 _ (grownBy_putObj' Wa l _) ⟨_,m2⟩ ⟨_,b2⟩ bk) ?_;rintro e a3 W3 ⟨rfl,q1,q2,q3⟩;have c2:=q1.same _ _ hB b2 rfl;have c3:∀ D,eD=some D->W3.heap[D]?=some (.deferred (some [])):=fun D e=>q1.same _ _ (hD D e).2.1 (b3 D e) rfl;have hr:=run_endRound (P:=P) none c2;have AL:l<W3.heap.size:=(Array.getElem?_eq_some_iff.1 c2).1;refine ⟨_,_,hr,rfl,⟨?_,?_,fun D e=>(World.putObj_heap_other (hD D e).1).trans (c3 D e)⟩,?_⟩;·exact hI _ _ _ _ q3 (grownBy_putObj' W3 l _) (fun r e=>by cases e;exact ⟨hB,_,c2,.inl rfl⟩)
   ·rw [World.putObj_heap_same AL];rfl
   ·exact p2.trans (bk.trans (q2.trans (o6_ (B:=B) c2 _)))
  | _=>exact hp.elim
theorem E9_ {F:Fence} {n:Nat} {P:Program} {g:Operand} {ps:Array Tmp} {assign body:Code} {Q:Exit->Act->World->Prop} {a:Act} {w:World}
  (CJ:F.round=none) (h1:1<=n) {gf:Nat} {lb:Array Value} (hg:a.eval g=.func (.func gf) #[] lb) (DC:F.fn gf) (eg:∀ args w,(callFunc gf args).run P w=.ok (.enter gf args) w)
  {T:TypeId} {L:List (List Nat)} {w0:World} (s8:j_ F (n-1) P gf lb T L w0) (sJ:Below w0.heap.size w0 w) (hps:ps.size=1) (I:Nat->World->Prop) (hI:AbT w.heap.size T I) (h0:I 0 w)
  (qO:x0_ F (n-1-1) P (w.heap.size+1) w.heap.size T L I ps a.tmps assign body)
  (vA:∀ W,I L.length W->W.heap[w.heap.size]?=some (.deferred (some []))->Q .normal { a with defers:={ target:=.collected w.heap.size,args:=#[] }::a.defers } W) :
  (Code.rangeFunc g ps assign body).wpIn F n P Q a w:=by
 refine wpIn_rangeFunc ?_;intro fn tz;rw [CJ];obtain ⟨W1,pc⟩:=pK ((w.alloc (.deferred (some []))).alloc (.loop (dQ fn a.tmps ps assign body w.heap.size .ready)));have wM:W1.heap[w.heap.size+1]?=some (.loop (dQ fn a.tmps ps assign body w.heap.size .ready)):=by
  rw [<- pc];have:=World.alloc_heap_new (w.alloc (.deferred (some []))) (.loop (dQ fn a.tmps ps assign body w.heap.size .ready));rwa [World.size_alloc] at this
 have Gh:W1.heap[w.heap.size]?=some (.deferred (some [])):=by
  rw [<- pc];exact (Below.heap_alloc _ _ _ (by simp)).trans (World.alloc_heap_new w _)
 have qX:Below w.heap.size w W1:=by
  rw [<- pc];exact ((Below.refl _ w).alloc (oz _) _).alloc (by simp) _
 have sw:I 0 W1:=hI 0 w W1 none h0 ⟨qX.os,qX.tape,qX.output,qX.size,fun k hk _=>qX.block k hk⟩ (fun r e=>by cases e)
 refine ⟨w.heap.size+1,[{ target:=.collected w.heap.size,args:=#[] }],W1,{ target:=.fn (.func gf) lb,args:=#[.func (.yield (w.heap.size+1)) #[] #[]] },W1,gf,
  #[.func (.yield (w.heap.size+1)) #[] #[]]++lb,W1,?_,?_,?_,?_,fun _=>h1,?_⟩
 ·rw [<- pc];exact run_enterLoop_outer _ _ _ _ _
 ·simp only [resolve,hg];simp [go_sem]
 ·intro f' zX;simp [Target.leads] at zX;subst zX;exact DC
 ·simp [invoke,go_sem,eg]
 ·refine (G7_ tz s8 (sJ.trans (qX.mono sJ.size)) hps (by omega) qX.size wM (some w.heap.size) (fun D e=>by cases e;exact ⟨by omega,oz _,Gh⟩) hI sw qO).mono ?_;rintro e W2 ⟨⟨v,rfl⟩,hi,hl,hk⟩;refine ⟨none,_,by have:=run_endLoop (P:=P) hl (by simp [dQ]);exact this,vA _ (hI _ _ _ _ hi (grownBy_putObj' W2 _ _) (fun r e=>by cases e;exact ⟨by omega,_,hl,.inl rfl⟩)) ((World.putObj_heap_other (by omega)).trans (hk _ rfl))⟩
theorem F8_ {F:Fence} {n:Nat} {P:Program} {g:Operand} {ps:Array Tmp} {assign body:Code} {Q:Exit->Act->World->Prop} {a:Act} {w:World}
  {l₀:Nat} {r₀:Loop} (CJ:F.round=some l₀) (hl₀:w.heap[l₀]?=some (.loop r₀)) (h1:1<=n) {gf:Nat} {lb:Array Value} (hg:a.eval g=.func (.func gf) #[] lb) (DC:F.fn gf) (eg:∀ args w,(callFunc gf args).run P w=.ok (.enter gf args) w)
  {T:TypeId} {L:List (List Nat)} {w0:World} (s8:j_ F (n-1) P gf lb T L w0) (sJ:Below w0.heap.size w0 w) (hps:ps.size=1) (I:Nat->World->Prop) (hI:AbT w.heap.size T I) (h0:I 0 w)
  (qO:x0_ F (n-1-1) P w.heap.size w.heap.size T L I ps a.tmps assign body)
  (vA:∀ W,I L.length W->Q .normal a W) :
  (Code.rangeFunc g ps assign body).wpIn F n P Q a w:=by
 refine wpIn_rangeFunc ?_;intro fn tz;rw [CJ];obtain ⟨W1,pc⟩:=pK (w.alloc (.loop (dQ fn a.tmps ps assign body r₀.defers .ready)));have wM:W1.heap[w.heap.size]?=some (.loop (dQ fn a.tmps ps assign body r₀.defers .ready)):=by rw [<- pc];exact World.alloc_heap_new w _
 have qX:Below w.heap.size w W1:=by
  rw [<- pc];exact (Below.refl _ w).alloc (oz _) _
 have sw:I 0 W1:=hI 0 w W1 none h0 ⟨qX.os,qX.tape,qX.output,qX.size,fun k hk _=>qX.block k hk⟩ (fun r e=>by cases e)
 refine ⟨w.heap.size,[],W1,{ target:=.fn (.func gf) lb,args:=#[.func (.yield w.heap.size) #[] #[]] },W1,gf,
  #[.func (.yield w.heap.size) #[] #[]]++lb,W1,?_,?_,?_,?_,fun _=>h1,?_⟩
 ·rw [<- pc];exact run_enterLoop_inner hl₀ _ _ _ _ _
 ·simp only [resolve,hg];simp [go_sem]
 ·intro f' zX;simp [Target.leads] at zX;subst zX;exact DC
 ·simp [invoke,go_sem,eg]
 ·refine (G7_ tz s8 (sJ.trans (qX.mono sJ.size)) hps (oz _) qX.size wM none (fun D e=>by cases e) hI sw qO).mono ?_;rintro e W2 ⟨⟨v,rfl⟩,hi,hl,-⟩;refine ⟨none,_,by have:=run_endLoop (P:=P) hl (by simp [dQ]);exact this,vA _ (hI _ _ _ _ hi (grownBy_putObj' W2 _ _) (fun r e=>by cases e;exact ⟨oz _,_,hl,.inl rfl⟩))⟩
def nF {β:Type} (B:Nat) (J:β->World->Prop):Prop :=
 ∀ s W W' row,J s W->W.grownBy W' row->(∀ r,row=some r->B<=r/\∃ o:Obj,W.heap[r]?=some o/\o.isCells=false)->J s W'
theorem nF.ext {β:Type} {B:Nat} {J:β->World->Prop} (h:nF B J) {s:β} {W W':World} (hj:J s W) (he:aA W W'):J s W' :=
 h s W W' none hj ⟨he.os,he.tape,he.output,he.size,fun k hk _=>he.block k hk⟩ (fun r e=>by cases e)
def J0_ (F:Fence) (n:Nat) (P:Program) (g:Nat) (lb:Array Value) (m:Nat) (Y:Nat->World->World->Array Value->Prop) (V0 V:World->Prop):Prop :=
 ∀ (l:Nat) (J:Nat->World->Prop) (W:World),V0 W->(∀ i A A',J i A->aA A A'->J i A')->(∀ i A,J i A->V A) ->
  (∀ i A W1 args,i<m->J i A->aA A W1->Y i A W1 args->YieldAt F (n-1) P l args W1 fun e W'=>e=.returned (.bool true)/\J (i+1) W') ->
  J 0 W->CallsIn F n P g (#[.func (.yield l) #[] #[]]++lb) W fun e W'=>(∃ v,e=.returned v)/\J m W'
def Z1L (F:Fence) (n:Nat) (P:Program) (l B m:Nat) (Y:Nat->World->World->Array Value->Prop) (I:Nat->World->Prop) (ps:Array Tmp) (tmps:Array Value) (assign body:Code):Prop :=
 ∀ i A W args,i<m->I i A->aA A W->Y i A W args->(∃ r,W.heap[l]?=some (.loop r)) ->
  assign.wpIn (F.inRound l) n P (Exit.then (fun a' Wa=>KeepsFrom B W Wa /\
   ∀ Wb,Wa.grownBy Wb (some l)->(∃ r,Wa.heap[l]?=some (.loop r))->(∃ r,Wb.heap[l]?=some (.loop r)) ->
    body.wpIn (F.inRound l) n P (fun e _ W3=>e=.normal/\KeepsFrom B Wb W3/\I (i+1) W3) a' Wb) (fun _ _ _=>False))
   { tmps:=(ps.zip args).foldl (fun t (p,u)=>t.setIfInBounds p u) tmps,defers:=[] } W
theorem l7_ {F:Fence} {n:Nat} {P:Program} {gf:Nat} {lb:Array Value} {m:Nat} {Y:Nat->World->World->Array Value->Prop} {V0 V:World->Prop} {W1:World} {l B dd:Nat} {fn:FuncId} {tmps:Array Value} {ps:Array Tmp} {assign body:Code} {I:Nat->World->Prop}
  (tz:F.fn fn) (s8:J0_ F n P gf lb m Y V0 V) (hb1:V0 W1) (hY:∀ i A W args,Y i A W args->args.size=ps.size) (hB:B<=l) (DF:B<=W1.heap.size) (hl:W1.heap[l]?=some (.loop (dQ fn tmps ps assign body dd .ready)))
  (eD:Option Nat) (hD:∀ D,eD=some D->D≠l/\B<=D/\W1.heap[D]?=some (.deferred (some []))) (hI:nF B I) (Gi:∀ i A,I i A->V A) (h0:I 0 W1)
  (qO:Z1L F (n-1) P l B m Y I ps tmps assign body) :
  CallsIn F n P gf (#[.func (.yield l) #[] #[]]++lb) W1 fun e W'=>(∃ v,e=.returned v)/\I m W'/\W'.heap[l]?=some (.loop (dQ fn tmps ps assign body dd .ready))/\∀ D,eD=some D->W'.heap[D]?=some (.deferred (some [])):=by
 refine s8 l (fun i W=>I i W/\W.heap[l]?=some (.loop (dQ fn tmps ps assign body dd .ready))/\∀ D,eD=some D->W.heap[D]?=some (.deferred (some []))) W1 hb1 ?_ (fun i A h=>Gi i A h.1) ?_ ⟨h0,hl,fun D e=>(hD D e).2.2⟩
 ·rintro i A A' ⟨k1,k2,k3⟩ he;exact ⟨hI.ext k1 he,(he.block l (Array.getElem?_eq_some_iff.1 k2).1).trans k2,fun D e=>(he.block D (Array.getElem?_eq_some_iff.1 (k3 D e)).1).trans (k3 D e)⟩
 ·rintro i A W args him ⟨k1,k2,k3⟩ he hv;have EL:W.heap[l]?=some (.loop (dQ fn tmps ps assign body dd .ready)):=(he.block l (Array.getElem?_eq_some_iff.1 k2).1).trans k2;have KX:∀ D,eD=some D->W.heap[D]?=some (.deferred (some [])):=fun D e=>(he.block D (Array.getElem?_eq_some_iff.1 (k3 D e)).1).trans (k3 D e);have hy:=run_yield (P:=P) (args:=args) EL (by simp [dQ,hY i A W args hv]);refine ⟨fn,_,assign,body,hy,roundIn_of_wpIn tz (wpIn_mono (qO i A W args him k1 he hv ⟨_,EL⟩) ?_)⟩;rintro e a' Wa hp;cases e with
  | normal =>
   obtain ⟨p1,p3⟩:=hp;have m2:=p1.same _ _ hB EL rfl;have m3:∀ D,eD=some D->Wa.heap[D]?=some (.deferred (some [])):=fun D e=>p1.same _ _ (hD D e).2.1 (KX D e) rfl;have hlt:l<Wa.heap.size:=(Array.getElem?_eq_some_iff.1 m2).1;refine ⟨_,run_beginRound m2 rfl,?_⟩;have b2:(Wa.putObj l (.loop { dQ fn tmps ps assign body dd .ready with state:=.busy })).heap[l]?=some (.loop { dQ fn tmps ps assign body dd .ready with state:=.busy }):=World.putObj_heap_same hlt;have b3:∀ D,eD=some D->(Wa.putObj l (.loop { dQ fn tmps ps assign body dd .ready with state:=.busy })).heap[D]?=some (.deferred (some [])):=fun D e=>(World.putObj_heap_other (hD D e).1).trans (m3 D e);refine wpIn_mono (p3 _ (grownBy_putObj' Wa l _) ⟨_,m2⟩ ⟨_,b2⟩) ?_;rintro e a3 W3 ⟨rfl,q1,q3⟩;have c2:=q1.same _ _ hB b2 rfl;have c3:∀ D,eD=some D->W3.heap[D]?=some (.deferred (some [])):=fun D e=>q1.same _ _ (hD D e).2.1 (b3 D e) rfl;have hr:=run_endRound (P:=P) none c2;have AL:l<W3.heap.size:=(Array.getElem?_eq_some_iff.1 c2).1;refine ⟨_,_,hr,rfl,?_,?_,fun D e=>(World.putObj_heap_other (hD D e).1).trans (c3 D e)⟩;·exact hI _ _ _ _ q3 (grownBy_putObj' W3 l _) (fun r e=>by cases e;exact ⟨hB,_,c2,rfl⟩)
   ·rw [World.putObj_heap_same AL];rfl
  | _=>exact hp.elim
theorem W9_ {F:Fence} {n:Nat} {P:Program} {g:Operand} {ps:Array Tmp} {assign body:Code} {Q:Exit->Act->World->Prop} {a:Act} {w:World}
  (CJ:F.round=none) (h1:1<=n) {gf:Nat} {lb:Array Value} (hg:a.eval g=.func (.func gf) #[] lb) (DC:F.fn gf) (eg:∀ args w,(callFunc gf args).run P w=.ok (.enter gf args) w)
  {m:Nat} {Y:Nat->World->World->Array Value->Prop} {V0 V:World->Prop} (s8:J0_ F (n-1) P gf lb m Y V0 V) (sJ:∀ W,aA w W->V0 W) (hY:∀ i A W args,Y i A W args->args.size=ps.size) (I:Nat->World->Prop) (hI:nF w.heap.size I) (Gi:∀ i A,I i A->V A) (h0:I 0 w)
  (qO:Z1L F (n-1-1) P (w.heap.size+1) w.heap.size m Y I ps a.tmps assign body)
  (vA:∀ W,I m W->W.heap[w.heap.size]?=some (.deferred (some []))->Q .normal { a with defers:={ target:=.collected w.heap.size,args:=#[] }::a.defers } W) :
  (Code.rangeFunc g ps assign body).wpIn F n P Q a w:=by
 refine wpIn_rangeFunc ?_;intro fn tz;rw [CJ];obtain ⟨W1,pc⟩:=pK ((w.alloc (.deferred (some []))).alloc (.loop (dQ fn a.tmps ps assign body w.heap.size .ready)));have wM:W1.heap[w.heap.size+1]?=some (.loop (dQ fn a.tmps ps assign body w.heap.size .ready)):=by
  rw [<- pc];have:=World.alloc_heap_new (w.alloc (.deferred (some []))) (.loop (dQ fn a.tmps ps assign body w.heap.size .ready));rwa [World.size_alloc] at this
 have Gh:W1.heap[w.heap.size]?=some (.deferred (some [])):=by
  rw [<- pc];exact (Below.heap_alloc _ _ _ (by simp)).trans (World.alloc_heap_new w _)
 have qX:Below w.heap.size w W1:=by
  rw [<- pc];exact ((Below.refl _ w).alloc (oz _) _).alloc (by simp) _
 have sw:I 0 W1:=hI.ext h0 qX
 refine ⟨w.heap.size+1,[{ target:=.collected w.heap.size,args:=#[] }],W1,{ target:=.fn (.func gf) lb,args:=#[.func (.yield (w.heap.size+1)) #[] #[]] },W1,gf,
  #[.func (.yield (w.heap.size+1)) #[] #[]]++lb,W1,?_,?_,?_,?_,fun _=>h1,?_⟩
 ·rw [<- pc];exact run_enterLoop_outer _ _ _ _ _
 ·simp only [resolve,hg];simp [go_sem]
 ·intro f' zX;simp [Target.leads] at zX;subst zX;exact DC
 ·simp [invoke,go_sem,eg]
 ·refine (l7_ tz s8 (sJ _ qX) hY (by omega) qX.size wM (some w.heap.size) (fun D e=>by cases e;exact ⟨by omega,oz _,Gh⟩) hI Gi sw qO).mono ?_;rintro e W2 ⟨⟨v,rfl⟩,hi,hl,hk⟩;refine ⟨none,_,by have:=run_endLoop (P:=P) hl (by simp [dQ]);exact this,vA _ (hI _ _ _ _ hi (grownBy_putObj' W2 _ _) (fun r e=>by cases e;exact ⟨by omega,_,hl,rfl⟩)) ((World.putObj_heap_other (by omega)).trans (hk _ rfl))⟩
end Go.Proofs.YtoonaddcfakamaaGreatDoor
namespace Go.Proofs.YtoonaddcfakamaaGreatDoor
open Go.RowKit Go.Proofs.Tryz
theorem bY {w:World} {B:Nat} {x y:Value} (h:w.heap[B]?=some (.cells #[x,y] 76 (0,0))):w.cell? ⟨B,0,none⟩=some x/\w.cell? ⟨B,1,none⟩=some y/\∀ i,w.frozen? ⟨B,i,none⟩=false:=by
 have c0:=ah h 0;have c1:=ah h 1;simp only [pC,o_,o9] at c0 c1;exact ⟨c0,c1,fun i=>cQ h i⟩
theorem fU {w:World} {B:Nat} {x y:Value} (h:w.heap[B]?=some (.cells #[x,y] 76 (0,0))) (a b:Value):((w.setCell ⟨B,0,none⟩ a).setCell ⟨B,1,none⟩ b).heap[B]?=some (.cells #[a,b] 76 (0,0)):=by
 have:=dr (dr h 0 a) 1 b;simpa using this
theorem eC (w:World) (x y:Value):∃ W,w.alloc (.cells #[x,y] 76)=W/\aA w W/\W.heap.size=w.heap.size+1/\W.heap[w.heap.size]?=some (.cells #[x,y] 76 (0,0)):=⟨_,rfl,aA.alloc _ _,by simp,dq _ _ _⟩
theorem ei {w W:World} {B:Nat} (hE:aA w W) (hB:w.heap.size<=B) (a b:Value):aA w ((W.setCell ⟨B,0,none⟩ a).setCell ⟨B,1,none⟩ b) :=
 Below.setCell (Below.setCell hE hB _) hB _
theorem Z0i (x y:Int) (w:World) (hx:(aB x).size<=2800000000) (hy:(aB y).size<=2800000000) (ht:ag w) :
  pI 301 #[.string (aB x),.string (aB y)] w (.string (aB (x-y))):=by
 have HN:=oZ (lf y w (by omega));have zQ:(aB (-y)).size<=2900000000:=by
  have h1:=fx (-y);have h2:=eE y;rw [Int.natAbs_neg] at h1;omega
 have HA:Hid (∀ W,aA w W->pI 116 #[.string (aB x),.string (aB (-y))] W (.string (aB (x+-y)))):=fun W hE=>M8_ x (-y) W (by omega) zQ (ht.ext hE);rw [show x+-y=x-y by omega] at HA;clear ht hx hy zQ
 go_enter func301,ntmps301
 go_wp2_with fail;refine HN.mono ?_;rintro e w0 ⟨rfl,tD⟩;have HE0:=oZ tD;clear HN tD;go_wp2_with fail;refine q_ (HA _ HE0) (aA.trans HE0) ?_;intro w1 HE1;clear HA;go_wp2_with fail;go_ret;exact ⟨rfl,HE1⟩
def Sz (n:Int):Prop:=(aE n.natAbs).size<=1000000000
def mG (n:Int):Prop:=(aE n.natAbs).size<=400000000
theorem eG {n:Int} (h:bU n=true):Sz n:=(m_ n).1 h
theorem kh {n:Int} (h:fb n=true):mG n:=(Z0e n).1 h
theorem Sz.size {n:Int} (h:Sz n):(aB n).size<=1000000001:=by
 unfold Sz at h;have:=fx n;omega
theorem mG.size {n:Int} (h:mG n):(aB n).size<=400000001:=by
 unfold mG at h;have:=fx n;omega
theorem Sz.natAbs {n:Int} (h:Sz n):Sz (n.natAbs:Int):=by
 unfold Sz at h |-;rw [Int.natAbs_natCast];exact h
theorem Sz.neg {n:Int} (h:Sz n):Sz (-n):=by
 unfold Sz at h |-;rw [Int.natAbs_neg];exact h
theorem a9_ (x y:Int):(aB (x*y)).size<=(aB x).size+(aB y).size+1:=by
 have h1:=fx (x*y);have h2:=eE x;have h3:=eE y;have h4:=oG x.natAbs y.natAbs;rw [Int.natAbs_mul] at h1;omega
theorem Z7I (x y:Int) (w:World) (hx:mG x) (hy:mG y) (ht:ag w) :
  pI 66 #[.string (aB x),.string (aB y)] w (.string (aB (x*y))) :=
 jO x y w (by have:=hx.size;omega) (by have:=hy.size;omega) ht
theorem Z8d (x y:Int) (w:World) (hx:Sz x) (hy:(aB y).size<=1000000001) (ht:ag w) :
  pI 301 #[.string (aB x),.string (aB y)] w (.string (aB (x-y))) :=
 Z0i x y w (by have:=hx.size;omega) (by omega) ht
theorem lB (x y:Int) (w:World) (hx:Sz x) (hy:Sz y) (h0:y≠0) (ht:ag w) :
  pI 112 #[.string (aB x),.string (aB y)] w (.tuple #[.string (aB (aL x y)),.string (aB (bF x y)),.int .i64 0]) :=
 U5_ x y w (by have:=hx.size;omega) (by have:=hy.size;omega) h0 ht
theorem Z5i (x y:Int) (h:x.sign≠y.sign):(x.sign<y.sign↔x<y)/\x≠y:=by
 rcases Int.lt_trichotomy x 0 with hx | hx | hx <;> rcases Int.lt_trichotomy y 0 with hy | hy | hy
 all_goals first
  | (rw [Int.sign_eq_neg_one_of_neg hx] at h |-) | (rw [hx] at h |-;rw [show (0:Int).sign=0 from rfl] at h |-) | (rw [Int.sign_eq_one_of_pos hx] at h |-)
 all_goals first
  | (rw [Int.sign_eq_neg_one_of_neg hy] at h |-) | (rw [hy] at h |-;rw [show (0:Int).sign=0 from rfl] at h |-) | (rw [Int.sign_eq_one_of_pos hy] at h |-)
 all_goals first | (exact absurd rfl h) | omega
def eA (x y:Int):Int:=if x<y then -1 else if x=y then 0 else 1
theorem X3_ (n:Int) (hs:(aB n).size<=10000000000):(aE n.natAbs).size<=10000000000:=by
 by_cases h:n<0;·have:=lP n h;omega
 ·rw [fw n (by omega)] at hs;rw [show n.natAbs=n.toNat by omega];exact hs
theorem J5_ (x y:Int) (w:World) (hx:(aB x).size<=10000000000) (hy:(aB y).size<=10000000000) :
  Calls prog 152 #[.string (aB x),.string (aB y)] w fun e w'=>e=.returned (.int .i64 (eA x y))/\∃ k,w'=w.drewN k:=by
 have H1:=oZ (fun W=>mz x W);have H2:=oZ (fun W=>mz y W);have H3:=oZ (fun W=>s2_ x W);have H4:=oZ (fun W=>s2_ y W);have H5:=oZ (fun W=>nZ x.natAbs y.natAbs W (X3_ x hx) (X3_ y hy));have H6:=oZ (fun W=>nZ y.natAbs x.natAbs W (X3_ y hy) (X3_ x hx));by_cases hs:x.sign=y.sign
 ·obtain ⟨s,sK⟩:=pK x.sign;rw [sK] at H1;rw [<- hs,sK] at H2;by_cases hn:x<0
  ·have yP:y<0:=by
    rw [Int.sign_eq_neg_one_of_neg hn] at hs;exact Int.sign_eq_neg_one_iff_neg.1 hs.symm
   have HC:Hid (cR y.natAbs x.natAbs=eA x y):=by
    unfold Hid cR eA;rcases Int.lt_trichotomy x y with h | h | h;·rw [if_pos (by omega),if_pos h]
    ·rw [if_neg (by omega),if_pos (by omega),if_neg (by omega),if_pos h]
    ·rw [if_neg (by omega),if_neg (by omega),if_neg (by omega),if_neg (by omega)]
   rw [HC.out] at H6;have hb:decide (x<0)=true:=pE hn;have hb2:decide (y<0)=true:=pE yP;rw [hb] at H3;rw [hb2] at H4;have tV:(s != s)=false:=(by simp);clear hs sK hn yP hb hb2 HC H5
   go_enter func152,ntmps152
   go_wp2_with fail;refine r_ (H1 _) ?_;clear H1;go_wp2_with fail;refine r_ (H2 _) ?_;clear H2;go_wp2_with fail;refine (H3 _).mono ?_;rintro e w1 ⟨rfl,k1,rfl⟩;clear H3;go_wp2_with fail;refine (H4 _).mono ?_;rintro e w2 ⟨rfl,k2,rfl⟩;clear H4;go_wp2_with fail;refine r_ (H6 _) ?_;clear H6;go_wp2_with fail;go_ret;exact ⟨rfl,_,rfl⟩
  ·have yP:¬ y<0:=by
    intro h;rw [Int.sign_eq_neg_one_of_neg h] at hs;exact hn (Int.sign_eq_neg_one_iff_neg.1 hs)
   have HC:Hid (cR x.natAbs y.natAbs=eA x y):=by
    unfold Hid cR eA;rcases Int.lt_trichotomy x y with h | h | h;·rw [if_pos (by omega),if_pos h]
    ·rw [if_neg (by omega),if_pos (by omega),if_neg (by omega),if_pos h]
    ·rw [if_neg (by omega),if_neg (by omega),if_neg (by omega),if_neg (by omega)]
   rw [HC.out] at H5;have hb:decide (x<0)=false:=pD hn;have hb2:decide (y<0)=false:=pD yP;rw [hb] at H3;rw [hb2] at H4;have tV:(s != s)=false:=(by simp);clear hs sK hn yP hb hb2 HC H6
   go_enter func152,ntmps152
   go_wp2_with fail;refine r_ (H1 _) ?_;clear H1;go_wp2_with fail;refine r_ (H2 _) ?_;clear H2;go_wp2_with fail;refine (H3 _).mono ?_;rintro e w1 ⟨rfl,k1,rfl⟩;clear H3;go_wp2_with fail;refine (H4 _).mono ?_;rintro e w2 ⟨rfl,k2,rfl⟩;clear H4;go_wp2_with fail;refine r_ (H5 _) ?_;clear H5;go_wp2_with fail;go_ret;exact ⟨rfl,_,rfl⟩
 ·obtain ⟨qU,hc2⟩:=Z5i x y hs;obtain ⟨s,sK⟩:=pK x.sign;obtain ⟨t,IQ⟩:=pK y.sign;rw [sK] at H1 hs qU;rw [IQ] at H2 hs qU;have hst:(s != t)=true:=by simpa using hs
  clear H3 H4 H5 H6 sK IQ hs;by_cases hlt:s<t
  ·have HC:Hid (eA x y=-1):=(by unfold Hid eA;rw [if_pos (qU.1 hlt)]);rw [HC.out];clear HC qU hc2
   go_enter func152,ntmps152
   go_wp2_with fail;refine r_ (H1 _) ?_;clear H1;go_wp2_with fail;refine r_ (H2 _) ?_;clear H2;go_wp2_with fail;go_ret;exact ⟨rfl,0,rfl⟩
  ·have HC:Hid (eA x y=1):=(by unfold Hid eA;rw [if_neg (fun h=>hlt (qU.2 h)),if_neg hc2]);rw [HC.out];clear HC qU hc2
   go_enter func152,ntmps152
   go_wp2_with fail;refine r_ (H1 _) ?_;clear H1;go_wp2_with fail;refine r_ (H2 _) ?_;clear H2;go_wp2_with fail;go_ret;exact ⟨rfl,0,rfl⟩
theorem i8_ (x y:Int) (w:World) (hx:(aB x).size<=10000000000) (hy:(aB y).size<=10000000000) :
  pI 152 #[.string (aB x),.string (aB y)] w (.int .i64 (eA x y)) :=
 (J5_ x y w hx hy).mono fun _ _ ⟨h,k,hw⟩=>⟨h,hw▸aA.drewN _ _⟩
theorem ag.below {w w':World} {base:Nat} (h:ag w) (he:Below base w w') (hb:3<base):ag w':=by
 unfold ag Lib.TabIs at h |-;exact var?_below he (show prog.globalNamed "internal/strconv.uint64pow10" = some 3 by kernel_rfl) hb h
theorem aH.below {S:Nat->Prop} {w w':World} {base:Nat} (h:aH S w w') (hb:base<=w.heap.size) (hS:∀ k,S k->base<=k):Below base w w' :=
 ⟨h.os,h.tape,h.output,h.size,fun k hk=>h.block k (ov hk hb) (fun hs=>absurd (hS k hs) (by omega))⟩
theorem aH.setCell {S:Nat->Prop} {w w':World} (h:aH S w w') {g:Nat} (hg:S g) (i:Nat) (v:Value):aH S w (w'.setCell ⟨g,i,none⟩ v) :=
 h.trans (mZ (fT w' g i v) (fun k hk=>by cases hk;exact hg))
theorem aH.ext {S:Nat->Prop} {a b c:World} (h:aH S a b) (he:aA b c):aH S a c:=h.trans (he.grownS S)
theorem aH.ofExt {S:Nat->Prop} {a b:World} (he:aA a b):aH S a b:=he.grownS S
def gP (k:Int) (r s:pN) (j:Nat):List Int:=(aU k r s).take j++r.drop j
theorem Z2Y (k:Int) (r s:pN) (j:Nat):(gP k r s j).length=r.length:=by
 unfold gP;rw [pG,om,List.length_drop,eX];omega
theorem Z2X (k:Int) (r s:pN) (j:Nat) (a:Int) (h:r[j]?=some a):(gP k r s j)[j]?=some a:=by
 unfold gP;have hj:=(od.1 h).1;rw [o8 (by rw [om];omega),om,eX,pF];rw [show j+(j-min j r.length)=j by omega];exact h
theorem Z2Z (k:Int) (r s:pN) (j:Nat) (a b:Int) (h:r[j]?=some a) (h':s[j]?=some b):(gP k r s j).set j (a-k*b)=gP k r s (j+1):=by
 have hj:=(od.1 h).1;have hl:=oC k r s j a b h h';unfold gP;rw [ou,hl];have hd:r.drop j=a::r.drop (j+1):=by
  rw [List.drop_eq_getElem_cons hj];congr 1;exact (od.1 h).2
 rw [hd,List.set_append_right _ _ (by rw [om];omega),om,eX,show j-min j r.length=0 by omega];simp
theorem Z0X (k:Int) (r s:pN):gP k r s 0=r:=by unfold gP;simp
theorem Z2W (k:Int) (r s:pN) (j:Nat) (h:r.length<=j):gP k r s j=aU k r s:=by
 unfold gP;rw [List.take_of_length_le (by rw [eX];exact h),List.drop_eq_nil_of_le h,List.append_nil]
theorem L9_ (k:Int) (r s r':pN) (g o c gs os cs base:Nat) (w:World) (hr:aW w g o r) (hs:aW w gs os s) (hne:gs≠g) (hk:eS k r s=some r')
  (hc:r.length<=c) (hc2:c<=maxLen) (vM:s.length<=cs) (F0:cs<=maxLen) (ht:ag w) (hb:3<base) (hg:base<=g) (sG:base<=w.heap.size) :
  Calls prog 228 #[.slice (some ⟨g,o,none⟩) r.length c,.string (aB k),.slice (some ⟨gs,os,none⟩) s.length cs] w fun e w'=>e=.returned (.tuple #[])/\aH (·=g) w w'/\aW w' g o r':=by
 have hz:=iL k;unfold eS at hk;by_cases h0:k=0
 ·rw [if_pos h0] at hk;obtain rfl:r=r':=o5 hk;rw [pE h0] at hz;have HR:=oZ hr;clear hk h0 hs hr ht
  go_enter func228,ntmps228
  go_wp2_with fail;refine bodyPost_ret (results_none rfl _ _ _) rfl ⟨rfl,aH.refl _ _,HR⟩
 ·rw [if_neg h0] at hk;rw [pD h0] at hz;by_cases xk:s.length=r.length/\(fb k && s.all fb && r.all bU)=true
  ·rw [if_pos xk] at hk;obtain rfl:aU k r s=r':=o5 hk;obtain ⟨hlen,rC⟩:=xk;rw [Bool.and_eq_true,Bool.and_eq_true] at rC;have HK9:=oZ (kh rC.1.1);have HS9:=oZ (fun x hx=>kh (List.all_eq_true.1 rC.1.2 x hx));have HRS:=oZ (fun x hx=>eG (List.all_eq_true.1 rC.2 x hx));have HR:=oZ hr;have HSS:=oZ hs;have HT:=oZ ht;have HB:=oZ hb;unfold maxLen at hc2 F0;clear hk h0 rC hr hs ht hb;have rq:s.length<=r.length:=(by omega);have yo:r.length<=s.length:=(by omega);clear hlen
   go_enter func228,ntmps228
   go_wp2_with fail
   go_loopw [12] (fun t wr=>∃ j:Nat,j<=s.length/\t=.int .i64 j/\aH (·=g) w wr/\Hid (aW wr g o (gP k r s j))) (fun t _=>s.length-(intOf t).toNat)
   case atStart=>exact ⟨0,by omega,rfl,aH.refl _ _,by rw [Z0X];exact HR⟩
   case round =>
    obtain ⟨j,hj,rfl,hG,HP⟩:=hrel;obtain ⟨wo,rfl⟩:∃ wo:World,wo=wr:=⟨_,rfl⟩;by_cases hlt:j<s.length
    ·obtain ⟨b,xp⟩:∃ b,s[j]?=some b:=⟨s[j],oc hlt⟩;obtain ⟨a,tB⟩:∃ a,r[j]?=some a:=⟨r[j]'(by omega),oc _⟩;have FJ:j<r.length:=(by omega);have g0:=(HSS.grown hG (by exact hne)).cell j b xp;have g1:=HP.cell j a (Z2X k r s j a tB);have f1:=HP.free (o+j);have HM:Hid (∀ W,ag W->pI 66 #[.string (aB k),.string (aB b)] W (.string (aB (k*b)))):=fun W hW=>Z7I k b W HK9 (HS9 b (og xp)) hW;have HU:Hid (∀ W,ag W->pI 301 #[.string (aB a),.string (aB (k*b))] W (.string (aB (a-k*b)))):=fun W hW=>by
      have h1:=HK9.size;have h2:=(HS9 b (og xp)).size;have h3:=a9_ k b;exact Z8d a (k*b) W (HRS a (og tB)) (by omega) hW
     have G7:Hid (∀ W,aA wo W->ag W):=fun W hE=>(HT.below (hG.below sG (fun q hq=>by cases hq;exact hg)) HB).ext hE;have HSET:Hid (∀ W,aA wo W->aW (W.setCell ⟨g,o+j,none⟩ (.string (aB (a-k*b)))) g o (gP k r s (j+1))):=fun W hE=>by
      rw [<- Z2Z k r s j a b tB xp];exact (HP.ext hE).set j (by rw [Z2Y];exact FJ) _
     have Hc:Hid (∀ W,aA wo W->aW W g o (gP k r s j)):=fun W hE=>HP.ext hE;have HG:=oZ hG;clear xp tB hG
     go_upto_region 4 with fail
     go_region_with (first
      | (go_at_call 66;refine (HM _ (G7 _ (aA.drew _))).mono ?_;rintro e w5 ⟨rfl,pV⟩;have HE5:=oZ (aA.trans (aA.drew wo) pV);have g5:=pV.cell (a:=⟨g,o+j,none⟩) g1;clear pV)
      | (go_at_call 301;refine (HU _ (G7 _ HE5)).mono ?_;rintro e w6 ⟨rfl,pR⟩;have HE6:=oZ (aA.trans HE5 pR);have g6:=pR.cell (a:=⟨g,o+j,none⟩) g5;have f6:=(Hc _ HE6).free (o+j);clear pR))
     all_goals
      go_wp2_with fail;go_roundw
      case rel=>exact ⟨j+1,by omega,by go_num,(HG.ext HE6).setCell rfl _ _,HSET _ HE6⟩
      case measure=>simp [intOf];omega
    ·have HF:Hid (aW wo g o (aU k r s)):=by
      unfold Hid;rw [<- Z2W k r s j (by omega)];exact HP
     have HG:=oZ hG;clear hG;go_wp2_with fail;refine bodyPost_end (results_none rfl _ _ _) rfl ⟨rfl,HG,HF⟩
  ·rw [if_neg xk] at hk;cases hk
def dP (r:pN):List Int:=r.map (- ·)
def fm (r:pN) (j:Nat):List Int:=(dP r).take j++r.drop j
theorem Z02 (r:pN) (j:Nat):(fm r j).length=r.length:=by
 unfold fm dP;rw [pG,om,List.length_drop,List.length_map];omega
theorem Z01 (r:pN) (j:Nat) (a:Int) (h:r[j]?=some a):(fm r j)[j]?=some a:=by
 unfold fm dP;have hj:=(od.1 h).1;rw [o8 (by rw [om];omega),om,List.length_map,pF];rw [show j+(j-min j r.length)=j by omega];exact h
theorem Z03 (r:pN) (j:Nat) (a:Int) (h:r[j]?=some a):(fm r j).set j (-a)=fm r (j+1):=by
 have hj:=(od.1 h).1;unfold fm dP;rw [ou,oh,h];have hd:r.drop j=a::r.drop (j+1):=by
  rw [List.drop_eq_getElem_cons hj];congr 1;exact (od.1 h).2
 rw [hd,List.set_append_right _ _ (by rw [om];omega),om,List.length_map,show j-min j r.length=0 by omega];simp
theorem m1_ (r:pN):fm r 0=r:=by unfold fm;simp
theorem Z00 (r:pN) (j:Nat) (h:r.length<=j):fm r j=dP r:=by
 unfold fm dP;rw [List.take_of_length_le (by rw [List.length_map];exact h),List.drop_eq_nil_of_le h,List.append_nil]
theorem Z16 (r:pN) (g o c:Nat) (w:World) (hr:aW w g o r) (hc:r.length<=c) (hc2:c<=maxLen) (rC:r.all bU=true) :
  Calls prog 229 #[.slice (some ⟨g,o,none⟩) r.length c] w fun e w'=>e=.returned (.tuple #[])/\aH (·=g) w w'/\aW w' g o (dP r):=by
 have HR:=oZ hr;have HS:=oZ (fun x hx=>eG (List.all_eq_true.1 rC x hx));unfold maxLen at hc2;clear hr rC
 go_enter func229,ntmps229
 go_wp2_with fail
 go_loopw [6] (fun t wr=>∃ j:Nat,j<=r.length/\t=.int .i64 j/\aH (·=g) w wr/\Hid (aW wr g o (fm r j))) (fun t _=>r.length-(intOf t).toNat)
 case atStart=>exact ⟨0,by omega,rfl,aH.refl _ _,by rw [m1_];exact HR⟩
 case round =>
  obtain ⟨j,hj,rfl,hG,HP⟩:=hrel;obtain ⟨wo,rfl⟩:∃ wo:World,wo=wr:=⟨_,rfl⟩;by_cases hlt:j<r.length
  ·obtain ⟨a,tB⟩:∃ a,r[j]?=some a:=⟨r[j],oc hlt⟩;have g1:=HP.cell j a (Z01 r j a tB);have HN:Hid (∀ W,pI 111 #[.string (aB a)] W (.string (aB (-a)))):=fun W=>lf a W (by have:=(HS a (og tB)).size;omega);have HSET:Hid (∀ W,aA wo W->aW (W.setCell ⟨g,o+j,none⟩ (.string (aB (-a)))) g o (fm r (j+1))):=fun W hE=>by
    rw [<- Z03 r j a tB];exact (HP.ext hE).set j (by rw [Z02];exact hlt) _
   have Hc:Hid (∀ W,aA wo W->aW W g o (fm r j)):=fun W hE=>HP.ext hE;have HG:=oZ hG;clear tB hG;go_wp2_with fail;refine (HN _).mono ?_;rintro e w5 ⟨rfl,pV⟩;have HE5:=oZ pV;have g5:=pV.cell g1;have f5:=(Hc _ pV).free (o+j);clear pV;go_wp2_with fail;go_roundw
   case rel=>exact ⟨j+1,by omega,by go_num,(HG.ext HE5).setCell rfl _ _,HSET _ HE5⟩
   case measure=>simp [intOf];omega
  ·have HF:Hid (aW wo g o (dP r)):=by
    unfold Hid;rw [<- Z00 r j (by omega)];exact HP
   have HG:=oZ hG;clear hG;go_wp2_with fail;refine bodyPost_end (results_none rfl _ _ _) rfl ⟨rfl,HG,HF⟩
theorem Z2R (x:Int) (w:World):pJ 295 #[.string (aB x)] w (.bool (x != 0)):=by
 have hz:=iL x;by_cases h:x=0
 ·rw [pE h] at hz;have HR:Hid ((x != 0)=false):=by unfold Hid;simp [h]
  rw [HR.out];clear h HR
  go_enter func295,ntmps295
  go_wp2_with fail;go_ret;exact ⟨rfl,rfl⟩
 ·rw [pD h] at hz;have HR:Hid ((x != 0)=true):=by unfold Hid;simp [h]
  rw [HR.out];clear h HR
  go_enter func295,ntmps295
  go_wp2_with fail;go_ret;exact ⟨rfl,rfl⟩
theorem v5_ (xs:pN) (g o c:Nat) (w:World) (hr:aW w g o xs) (hc:xs.length<=c) (hc2:c<=maxLen) :
  pI 294 #[.slice (some ⟨g,o,none⟩) xs.length c,.func (.func 295) #[] #[]] w (.int .i64 (ck xs)):=by
 have HR:=oZ hr;have eg:∀ args w,(callFunc 295 args).run prog w=.ok (.enter 295 args) w:=enters_of func295 (by kernel_rfl) rfl;unfold maxLen at hc2;clear hr
 go_enter func294,ntmps294
 go_wp2
 go_loopw [8] (fun t wr=>∃ pre rest,t=.int .i64 (pre.length:Nat)/\aA w wr/\Hid (xs=pre++rest)/\Hid (∀ x∈pre,(x != 0)=false)) (fun t _=>xs.length-(intOf t).toNat)
 case atStart=>exact ⟨[],xs,rfl,aA.refl _,rfl,by intro x hx;simp at hx⟩
 case round =>
  obtain ⟨pre,rest,rfl,hE,HP,HA⟩:=hrel;have hlen:xs.length=pre.length+rest.length:=by rw [HP.out];simp
  cases rest with
  | nil =>
   have:¬ (pre.length<xs.length):=(by simp at hlen;omega);clear hlen
   go_wp2
   go_ret;have:ck xs=-1:=by
    have:xs.findIdx? (· != 0)=none:=(by rw [HP.out,List.append_nil,List.findIdx?_eq_none_iff];exact HA);unfold ck;rw [this]
   rw [this];exact ⟨rfl,hE⟩
  | cons x rest =>
   have hlt:pre.length<xs.length:=(by simp at hlen;omega);clear hlen;have g1:=hE.cell (HR.cell pre.length x (by rw [HP.out];simp));have hcall:=fun W=>Z2R x W;cases hq:(x != 0) with
   | true =>
    have HRR:Hid (ck xs=pre.length):=by
     unfold Hid ck;rw [HP.out,List.findIdx?_append,(List.findIdx?_eq_none_iff (xs:=pre)).2 HA.out,List.findIdx?_cons,hq];simp
    rw [hq] at hcall;have HCALL:=oZ hcall;clear hcall hq;go_wp2_with (go_at_fn 295;refine r_ (HCALL _) ?_);go_ret;rw [HRR.out];exact ⟨rfl,hE⟩
   | false =>
    have BK:Hid (∀ y∈pre++[x],(y != 0)=false):=by
     intro y hy;rcases List.mem_append.1 hy with hy | hy;·exact HA y hy
     ·rw [List.mem_singleton.1 hy];exact hq
    rw [hq] at hcall;have HCALL:=oZ hcall;clear hcall hq;go_wp2_with (go_at_fn 295;refine r_ (HCALL _) ?_);go_roundw
    case rel=>exact ⟨pre++[x],rest,by simp,hE,by unfold Hid;rw [HP.out];simp,BK⟩
    case measure=>simp [intOf];omega
theorem L7_ (xs:pN) (g o c:Nat) (w:World) (hr:aW w g o xs) (hc:xs.length<=c) (hc2:c<=maxLen) :
  pI 217 #[.slice (some ⟨g,o,none⟩) xs.length c] w (.int .i64 (ck xs)):=by
 have HC:=oZ (v5_ xs g o c w hr hc hc2);clear hr
 go_enter func217,ntmps217
 go_wp2_with fail;refine p_ HC ?_;intro w1 HE1;clear HC;go_wp2_with fail;go_ret;exact ⟨rfl,HE1⟩
theorem ny:(prog.info? 92).map (fun i=>(i.zero,i.size,i.bytes))=some (some (.string ⟨#[]⟩),1,16):=by kernel_rfl
def kJ (_:World) (u:List Value) (x:Int):Prop:=u=[.string (aB x)]
theorem ai.bigs {w:World} {base:Nat} {e:TypeId} {v:Value} {xs:pN} (h:ai w base e 1 v kJ xs):w.ownsRow base e 1 v xs.length (xs.map fun x=>Value.string (aB x)):=by
 obtain ⟨us,h1,h2,h3,h4⟩:=h;have:us=xs.map fun x=>[Value.string (aB x)]:=by
  apply List.ext_getElem?;intro i;rw [oh];by_cases hi:i<xs.length
  ·have rD:i<us.length:=(by omega);have:=(h4 i us[i] xs[i] (by simp [rD]) (by simp [hi])).now;simp only [kJ] at this;simp [hi,rD,this]
  ·rw [o4 (by omega),o4 (by omega)];rfl
 rw [this,eR (fun x=>Value.string (aB x))] at h3;exact h3
theorem aW.of_owns {w:World} {base:Nat} {e:TypeId} {g cap:Nat} {xs:pN} (h:w.ownsRow base e 1 (.slice (some ⟨g,0,none⟩) xs.length cap) xs.length (xs.map fun x=>Value.string (aB x))):aW w g 0 xs/\base<=g/\xs.length<=cap/\cap<=maxLen:=by
 have hc:=h.cells (g:=g) (by simp [Value.ownBlock]);have hf:=fun j=>h.frozenAt j;rcases h.2 with ⟨hv,_⟩ | ⟨g',cap',cur,hv,hb,hg,h1,h2,h3,h4⟩
 ·simp at hv
 ·simp only [Value.slice.injEq,Option.some.injEq,Addr.mk.injEq] at hv;obtain ⟨⟨rfl,-,-⟩,-,rfl⟩:=hv;refine ⟨⟨(Array.getElem?_eq_some_iff.1 hg).1,fun j x hx=>?_,fun j=>?_⟩,hb,h1,h2⟩
  ·have:=hc j (.string (aB x)) (by rw [oh,hx];rfl);rw [show (⟨g,0,none⟩:Addr).add j=⟨g,0+j,none⟩ by unfold Addr.add;split <;> simp_all] at this;exact this
  ·exact hf j
theorem V7_ (xs:pN) (v:Value) (w:World) (h:aM w v xs) (hlen:xs.length<=1000) (ht:ag w) :
  Calls prog 227 #[v] w fun e w'=>∃ g c,e=.returned (.slice (some ⟨g,0,none⟩) xs.length c)/\aW w' g 0 xs/\w.heap.size<=g/\xs.length<=c/\c<=maxLen/\aA w w':=by
 obtain ⟨a,c,rfl,h1,h2,-,hbd,hc⟩:=h.open;obtain ⟨i0,hi,pk,hz1,hz2⟩:=info_parts ny;have HI:=oZ hi;have HZ0:=oZ pk;have HZ1:=oZ hz1;have HZ2:=oZ hz2;have HC:=oZ hc;have HT:=oZ ht;have HBD:=oZ hbd;unfold maxLen at h2;clear hi pk hz1 hz2 h hc ht hbd;obtain ⟨n,hn⟩:∃ n:Nat,n=xs.length:=⟨_,rfl⟩
 go_enter func227,ntmps227
 go_wp2_with (at_make;refine wpList_make_own _ rfl _ _ 263 rfl w.heap.size 92 i0 (.string ⟨#[]⟩) 1 underlying263 HI HZ0 HZ1 _ _ _ xs.length rfl rfl rfl ?c1 ?c2 ?c3 ?_)
 case c1=>rw [HZ2.out];omega
 case c2=>unfold maxLen;omega
 case c3=>exact oz _
 intro w1 hown pQ;have HE1:=oZ (ic pQ);have HOWN:=oZ hown;clear hown pQ;go_wp2_with fail
 go_loopw [3,11] (fun out t wr=>∃ j:Nat,j<=xs.length/\t=.int .i64 j/\aA w wr/\Hid (∃ g cc,out=.slice (some ⟨g,0,none⟩) j cc)/\Hid (ai wr w.heap.size 92 1 out kJ (xs.take j))) (fun _ t _=>xs.length-(intOf t).toNat)
 case atStart=>exact ⟨0,by omega,rfl,HE1,⟨_,_,rfl⟩,⟨[],rfl,by simp,HOWN,by simp⟩⟩
 case round =>
  obtain ⟨j,hj,rfl,hE,HSL,qi⟩:=hrel;obtain ⟨wo,rfl⟩:∃ wo:World,wo=wr:=⟨_,rfl⟩;have HE:=oZ hE;by_cases hlt:j<xs.length
  ·obtain ⟨b,off,rfl,hb,pP⟩:=HC (by intro e;simp [e] at hlt);obtain ⟨x,hx⟩:∃ x,xs[j]?=some x:=⟨xs[j],oc hlt⟩;have g1:=hE.cell (pP j x hx);obtain ⟨qX,tT⟩:=HBD x (og hx);have HOF:=oZ (jx x wo qX tT (HT.ext hE));have HN:Hid (xs.take (j+1)=xs.take j++[x]):=(by unfold Hid;rw [ou,hx];rfl);have HJ:Hid ((xs.take j).length<1000000):=(by unfold Hid;rw [om];omega);have wR:Hid ((xs.take j).length=j):=(by unfold Hid;rw [om];omega);clear pP hx hE;go_wp2_with fail;refine HOF.mono ?_;rintro e w2 ⟨rfl,hE2⟩;have HB2:=oZ (qi.ext hE2);have HE2:=oZ (aA.trans HE hE2);have hszr:=HE2.size;clear hE2 HOF;go_wp2_with (at_builtin;go_must (refine iQ _ rfl _ _ 263 rfl w.heap.size 92 (.string ⟨#[]⟩) 1 16 underlying263 ny rfl (by decide) u3 kJ (xs.take j) x #[.string (aB x)] 92 rfl HB2 rfl rfl ?e1 (fun _ _=>rfl) HJ (by decide) hszr ?_))
   case e1=>simp [Value.oneCell']
   intro v' w5 pf qz hb5 hs5 _;have HV:Hid (∃ g cc,v'=.slice (some ⟨g,0,none⟩) (j+1) cc):=by
    obtain ⟨us,b1,b2,b3,b4⟩:=id pf;obtain ⟨g,cc,hv,-⟩:=eu b3 (by rw [pG];simp);refine ⟨g,cc,?_⟩;rw [hv,pG,wR.out];rfl
   rw [<- HN.out] at pf;have HB5:=oZ pf;have HX5:=oZ (Below.trans HE2 hb5);clear pf qz hb5;go_wp2_with fail;go_roundw
   case rel=>exact ⟨j+1,by omega,by go_num,HX5,HV,HB5⟩
   case measure=>simp [intOf];omega
  ·obtain rfl:j=xs.length:=(by omega);obtain ⟨g,cc,rfl⟩:=HSL.out;have hB:=qi.out;rw [List.take_length] at hB;have HR:=oZ (aW.of_owns (ai.bigs hB));clear hB qi HSL hE;go_wp2_with fail;go_ret;exact ⟨g,cc,rfl,HR.1,HR.2.1,HR.2.2.1,HR.2.2.2,HE⟩
def fh (n:Int):Prop:=-9223372036854775808<=n/\n<=9223372036854775807
instance (n:Int):Decidable (fh n):=inferInstanceAs (Decidable (_/\_))
def gH (n:Int):Int:=if fh n then n else 0
structure b9 (w:World):Prop where
 pow:ag w
 rng:∃ te pe,w.cell? ⟨2,0,none⟩=some (.iface te pe)
theorem b9.ext {w w':World} (h:b9 w) (he:aA w w'):b9 w':=by
 obtain ⟨te,pe,hr⟩:=h.rng;exact ⟨h.pow.ext he,⟨te,pe,he.cell hr⟩⟩
theorem E5_ (n:Int) (h:¬ fh n):Lib.parseIntB 64 (aB n).data.toList=.range:=by
 have:=M2_ (kU n).1 (by rw [(kU n).2];exact h);rw [Lib.parseIntB_64];exact this
theorem m5_ (n:Int) (h:fh n):Lib.parseIntB 64 (aB n).data.toList=.ok n:=by
 have:=T1_ (kU n).1 (by rw [(kU n).2];exact h);rw [(kU n).2] at this;rw [Lib.parseIntB_64];exact this
theorem P9_ (n:Int) (w:World) (hs:(aB n).size<=2000000000) (ht:b9 w) :
  pI 83 #[.string (aB n)] w (.tuple #[.int .i64 (gH n),.bool (decide (fh n))]):=by
 by_cases h:fh n
 ·have HV:Hid (gH n=n/\decide (fh n)=true):=⟨by unfold gH;rw [if_pos h],pE h⟩;have HP:Hid (pI 190 #[.string (aB n),.int .i64 10,.int .i64 64] w (.tuple #[.int .i64 n,.nilIface])) :=
   (strconv_ParseInt_10_at64_ok (aB n) (by omega) n (m5_ n h) w).mono fun e w' ⟨h1,h2⟩=>⟨h1,by
    rcases h2 with rfl | ⟨t,rfl⟩
    ·exact aA.refl _
    ·exact ⟨rfl,rfl,rfl,by rw [Lib.bytesWorld_size];omega,fun j hj=>Lib.bytesWorld_at_old w _ t j hj⟩⟩
  clear h ht
  go_enter func83,ntmps83
  go_wp2_with fail;refine p_ HP ?_;intro w1 HE1;clear HP;go_wp2_with fail;go_ret2;exact ⟨by rw [HV.out.1,HV.out.2];rfl,HE1⟩
 ·have HV:Hid (gH n=0/\decide (fh n)=false):=⟨by unfold gH;rw [if_neg h],pD h⟩;obtain ⟨te,pe,hr⟩:=ht.rng;have HP:=oZ (strconv_ParseInt_10_at64_range (aB n) (by omega) (E5_ n h) _ w hr (.inr ⟨te,pe,rfl⟩));clear h hr ht
  go_enter func83,ntmps83
  go_wp2_with fail;refine HP.mono ?_;rintro e w1 ⟨N,rfl,hN,GC,hE1⟩;have HE1:Hid (aA w w1):=hE1;clear hE1 HP GC;go_wp2_with fail;go_ret2;exact ⟨by rw [HV.out.1,HV.out.2];rfl,HE1⟩
def mc (_:World) (u:List Value) (x:Int):Prop:=u=[.int .i64 x]
theorem ai.ints {w:World} {base:Nat} {e:TypeId} {v:Value} {xs:pN} (h:ai w base e 1 v mc xs):w.ownsRow base e 1 v xs.length (xs.map (Value.int .i64)):=by
 obtain ⟨us,h1,h2,h3,h4⟩:=h;have:us=xs.map fun x=>[Value.int .i64 x]:=by
  apply List.ext_getElem?;intro i;rw [oh];by_cases hi:i<xs.length
  ·have rD:i<us.length:=(by omega);have:=(h4 i us[i] xs[i] (by simp [rD]) (by simp [hi])).now;simp only [mc] at this;simp [hi,rD,this]
  ·rw [o4 (by omega),o4 (by omega)];rfl
 rw [this,eR] at h3;exact h3
def dX (n:Int):Bool:=decide (-1000000000<=n) && decide (n<=1000000000)
theorem lH (n:Int):dX n=true↔-1000000000<=n/\n<=1000000000:=by simp [dX]
def kB (xs:pN) (w:World) (e:Ending) (w':World):Prop :=
 if xs.all dX=true then ∃ a c,e=.returned (.tuple #[.slice a xs.length c,.int .i64 0])/\aM w' (.slice a xs.length c) xs/\w'.ownsRow w.heap.size 3 1 (.slice a xs.length c) xs.length (xs.map (Value.int .i64))/\aA w w'
 else e=.returned (.tuple #[.slice none 0 0,.int .i64 4])/\aA w w'
theorem k0_ (xs:pN) (g o c:Nat) (w:World) (hr:aW w g o xs) (hc:xs.length<=c) (hc2:c<=maxLen) (hlen:xs.length<=1000) (rC:xs.all bU=true) (pT:b9 w) :
  Calls prog 218 #[.slice (some ⟨g,o,none⟩) xs.length c] w (kB xs w):=by
 obtain ⟨i0,hi,pk,hz1,hz2⟩:=info_parts jo;have HI:=oZ hi;have HZ0:=oZ pk;have HZ1:=oZ hz1;have HZ2:=oZ hz2;have HR:=oZ hr;have HLIB:=oZ pT;have HS:=oZ (fun x hx=>eG (List.all_eq_true.1 rC x hx));unfold maxLen at hc2;clear hi pk hz1 hz2 hr rC pT
 go_enter func218,ntmps218
 go_wp2_with (at_make;refine wpList_make_own _ rfl _ _ 36 rfl w.heap.size 3 i0 (.int .i64 0) 1 underlying36 HI HZ0 HZ1 _ _ _ xs.length rfl rfl rfl ?c1 ?c2 ?c3 ?_)
 case c1=>rw [HZ2.out];omega
 case c2=>unfold maxLen;omega
 case c3=>exact oz _
 intro w1 hown pQ;have HE1:=oZ (ic pQ);have HOWN:=oZ hown;clear hown pQ;go_wp2_with fail
 go_loopw [4,14] (fun out t wr=>∃ j:Nat,j<=xs.length/\t=.int .i64 j/\aA w wr/\Hid (∃ g cc,out=.slice (some ⟨g,0,none⟩) j cc)/\Hid (ai wr w.heap.size 3 1 out mc (xs.take j))/\Hid ((xs.take j).all dX=true)) (fun _ t _=>xs.length-(intOf t).toNat)
 case atStart=>exact ⟨0,by omega,rfl,HE1,⟨_,_,rfl⟩,⟨[],rfl,by simp,HOWN,by simp⟩,rfl⟩
 case round =>
  obtain ⟨j,hj,rfl,hE,HSL,qi,Br⟩:=hrel;obtain ⟨wo,rfl⟩:∃ wo:World,wo=wr:=⟨_,rfl⟩;have HE:=oZ hE;by_cases hlt:j<xs.length
  ·obtain ⟨x,hx⟩:∃ x,xs[j]?=some x:=⟨xs[j],oc hlt⟩;have g1:=(HR.ext hE).cell j x hx;have hxm:=og hx;have hxs:=HS x hxm;have HSG:=oZ (P9_ x wo (by have:=hxs.size;omega) (HLIB.ext hE));have HN:Hid (xs.take (j+1)=xs.take j++[x]):=(by unfold Hid;rw [ou,hx];rfl);have HJ:Hid ((xs.take j).length<1000000):=(by unfold Hid;rw [om];omega);have wR:Hid ((xs.take j).length=j):=(by unfold Hid;rw [om];omega);by_cases hf:dX x=true
   ·obtain ⟨f1,f2⟩:=(lH x).1 hf;have vU:fh x:=⟨by omega,by omega⟩;have HSY:=HSG;rw [show gH x=x by unfold gH;rw [if_pos vU],show decide (fh x)=true from pE vU] at HSY;clear HSG vU;have Mq:Hid ((xs.take (j+1)).all dX=true):=(by unfold Hid;rw [HN.out,List.all_append,Br.out];simp [hf]);clear hx hxm hxs hE hf;go_wp2_with fail;refine HSY.mono ?_;rintro e w2 ⟨rfl,hE2⟩;have HB2:=oZ (qi.ext hE2);have HE2:=oZ (aA.trans HE hE2);have hszr:=HE2.size;clear hE2 HSY;go_wp2_with (at_builtin;go_must (refine iQ _ rfl _ _ 36 rfl w.heap.size 3 (.int .i64 0) 1 8 underlying36 jo rfl (by decide) u4 mc (xs.take j) x #[.int .i64 x] 3 rfl HB2 rfl rfl ?e1 (fun _ _=>rfl) HJ (by decide) hszr ?_))
    case e1=>simp [Value.oneCell']
    intro v' w5 pf qz hb5 hs5 _;have HV:Hid (∃ g cc,v'=.slice (some ⟨g,0,none⟩) (j+1) cc):=by
     obtain ⟨us,b1,b2,b3,b4⟩:=id pf;obtain ⟨g,cc,hv,-⟩:=eu b3 (by rw [pG];simp);refine ⟨g,cc,?_⟩;rw [hv,pG,wR.out];rfl
    rw [<- HN.out] at pf;have HB5:=oZ pf;have HX5:=oZ (Below.trans HE2 hb5);clear pf qz hb5;go_wp2_with fail;go_roundw
    case rel=>exact ⟨j+1,by omega,by go_num,HX5,HV,HB5,Mq⟩
    case measure=>simp [intOf];omega
   ·have HA:Hid (¬ xs.all dX=true):=fun h=>hf (List.all_eq_true.1 h x hxm);have Cq:x < -1000000000\/1000000000<x:=by
     rcases Int.lt_or_le x (-1000000000) with h | h;·exact .inl h
     ·rcases Int.lt_or_le 1000000000 x with h2 | h2;·exact .inr h2
      ·exact absurd ((lH x).2 ⟨h,h2⟩) hf
    by_cases vU:fh x
    ·have HSY:=HSG;rw [show gH x=x by unfold gH;rw [if_pos vU],show decide (fh x)=true from pE vU] at HSY;clear hx hxm hxs hE hf HSG vU;rcases Cq with Cq | Cq
     ·have Nh:¬ 1000000000<x:=(by omega);go_wp2_with fail;refine q_ HSY (aA.trans HE) ?_;intro w2 HE2;clear HSY;go_wp2_with fail;go_ret2;unfold kB;rw [if_neg HA.out];exact ⟨rfl,HE2⟩
     ·go_wp2_with fail;refine q_ HSY (aA.trans HE) ?_;intro w2 HE2;clear HSY;go_wp2_with fail;go_ret2;unfold kB;rw [if_neg HA.out];exact ⟨rfl,HE2⟩
    ·have HSY:=HSG;rw [show gH x=0 by unfold gH;rw [if_neg vU],show decide (fh x)=false from pD vU] at HSY;clear hx hxm hxs hE hf HSG vU Cq;go_wp2_with fail;refine q_ HSY (aA.trans HE) ?_;intro w2 HE2;clear HSY;go_wp2_with fail;go_ret2;unfold kB;rw [if_neg HA.out];exact ⟨rfl,HE2⟩
  ·obtain rfl:j=xs.length:=(by omega);obtain ⟨gg,cc,rfl⟩:=HSL.out;have hB:=qi.out;have hF:=Br.out;rw [List.take_length] at hB hF;have HO:=oZ (ai.ints hB);have HF:=oZ hF;clear hB hF qi HSL Br hE;go_wp2_with fail;go_ret2;unfold kB;rw [if_pos HF.out];refine ⟨_,cc,rfl,aM.of_owns HO (fun x hx=>?_),HO,HE⟩;have:=(lH x).1 (List.all_eq_true.1 HF x hx);omega
theorem Z4z (cols:Nat) (w:World) :
  pJ 132 #[.slice none 0 0,.int .i64 cols] w (.slice none 0 0):=by
 go_enter func132,ntmps132
 go_wp2_with fail
 go_loop [5,6] (fun sd sc=>sd=.int .i64 0/\sc=.int .i64 0) (fun _ _=>0)
 case atStart=>exact ⟨rfl,rfl⟩
 case round =>
  obtain ⟨rfl,rfl⟩:=hrel;by_cases h:0<cols
  ·go_wp2_with fail;go_ret;exact ⟨rfl,rfl⟩
  ·obtain rfl:cols=0:=(by omega);go_wp2_with fail;go_ret;exact ⟨rfl,rfl⟩
theorem Z4H:(prog.info? 263).map (fun i=>(i.zero,i.size,i.bytes))=some (some (.slice none 0 0),1,24):=by kernel_rfl
def iO (t:Nat×Nat×Nat) (n:Nat):Value:=.slice (some ⟨t.1,t.2.1,none⟩) n t.2.2
def ly (tags:List (Nat×Nat×Nat)) (m:pM):List Value:=List.zipWith (fun t r=>iO t r.length) tags m
structure eQ (w:World) (ob base:Nat) (v:Value) (tags:List (Nat×Nat×Nat)) (m:pM):Prop where
 len:tags.length=m.length
 own:w.ownsRow ob 263 1 v m.length (ly tags m)
 row:∀ (i:Nat) t r,tags[i]?=some t->m[i]?=some r->r.length<=t.2.2/\t.2.2<=maxLen/\aW w t.1 t.2.1 r/\base<=t.1/\v.ownBlock≠some t.1
 nodup:(tags.map (·.1)).Nodup
theorem eQ.nil (w:World) (ob base:Nat):eQ w ob base (.slice none 0 0) [] [] :=
 ⟨rfl,World.ownsRow_nil _ _ _ _,by intro i t r h;simp at h,by simp⟩
theorem eQ.ext {w w':World} {ob base:Nat} {v:Value} {tags:List (Nat×Nat×Nat)} {m:pM} (h:eQ w ob base v tags m) (he:aA w w'):eQ w' ob base v tags m :=
 ⟨h.len,et h.own he,fun i t r ht hr=>by
  obtain ⟨h1,h2,h3,h4,h5⟩:=h.row i t r ht hr
  exact ⟨h1,h2,h3.ext he,h4,h5⟩,h.nodup⟩
theorem eQ.snoc {w w':World} {ob base:Nat} {v v':Value} {tags:List (Nat×Nat×Nat)} {m:pM} (h:eQ w ob base v tags m) (t:Nat×Nat×Nat) (r:pN) (qm:r.length<=t.2.2) (pn:t.2.2<=maxLen) (hR:aW w t.1 t.2.1 r) (hb:base<=t.1) (hv:v.ownBlock≠some t.1) (hn:t.1∉tags.map (·.1))
  (hown:w'.ownsRow ob 263 1 v' (m.length+1) (ly tags m++[iO t r.length])) (hg:w.grownBy w' v.ownBlock) (qb:v'.ownBlock=v.ownBlock\/∃ b,v'.ownBlock=some b/\w.heap.size<=b) :
  eQ w' ob base v' (tags++[t]) (m++[r]):=by
 have pw:∀ (s:Nat×Nat×Nat) q,aW w s.1 s.2.1 q->v.ownBlock≠some s.1->aW w' s.1 s.2.1 q/\v'.ownBlock≠some s.1:=fun s q hs vi=>by
  refine ⟨hs.same hg.size (hg.block s.1 hs.lt vi.symm),fun e=>?_⟩;rcases qb with e2 | ⟨b,e2,e3⟩
  ·exact vi (e2.symm.trans e)
  ·rw [e2] at e;cases e;have:=hs.lt;omega
 refine ⟨by simp [h.len],?_,fun i s q hs hq=>?_,?_⟩
 ·have e:ly (tags++[t]) (m++[r])=ly tags m++[iO t r.length]:=by
   unfold ly;rw [List.zipWith_append h.len];rfl
  rw [e,pG];exact hown
 ·by_cases hi:i<tags.length
  ·rw [o6 hi] at hs;rw [o6 (by rw [<- h.len];exact hi)] at hq;obtain ⟨h1,h2,h3,h4,h5⟩:=h.row i s q hs hq;obtain ⟨k1,k2⟩:=pw s q h3 h5;exact ⟨h1,h2,k1,h4,k2⟩
  ·rw [o8 (by omega)] at hs;rw [o8 (by rw [<- h.len];omega)] at hq;have e1:i-tags.length=0:=(by have:=(od.1 hs).1;simp at this;omega);have e2:i-m.length=0:=(by rw [<- h.len];exact e1);rw [e1] at hs;rw [e2] at hq;simp only [o_,Option.some.injEq] at hs hq;subst hs;subst hq;obtain ⟨k1,k2⟩:=pw t r hR hv;exact ⟨qm,pn,k1,hb,k2⟩
 ·rw [List.map_append,List.nodup_append];refine ⟨h.nodup,by simp,?_⟩;intro a ha b hb2 e;simp only [List.map_cons,List.map_nil,List.mem_singleton] at hb2;subst e;subst hb2;exact hn ha
theorem eQ.mat {w:World} {ob base:Nat} {g cap:Nat} {tags:List (Nat×Nat×Nat)} {m:pM} (h:eQ w ob base (.slice (some ⟨g,0,none⟩) m.length cap) tags m) (hob:base<=ob) :
  bI w g tags m/\m.length<=cap/\cap<=maxLen/\∀ b,dU g tags b->base<=b:=by
 have hc:=h.own.cells (g:=g) (by simp [Value.ownBlock]);have hf:=fun j=>h.own.frozenAt j;rcases h.own.2 with ⟨hv,_⟩ | ⟨g',cap',cur,hv,hb,hg,h1,h2,h3,h4⟩
 ·simp at hv
 ·simp only [Value.slice.injEq,Option.some.injEq,Addr.mk.injEq] at hv;obtain ⟨⟨rfl,-,-⟩,-,rfl⟩:=hv;refine ⟨⟨h.len,(Array.getElem?_eq_some_iff.1 hg).1,fun j=>hf j,fun i t r ht hr=>?_,?_⟩,h1,h2,fun b hb2=>?_⟩
  ·obtain ⟨k1,k2,k3,k4,k5⟩:=h.row i t r ht hr;refine ⟨?_,k1,k2,k3⟩;have:=hc i (iO t r.length) (by unfold ly;rw [List.getElem?_zipWith,ht,hr]);rw [show (⟨g,0,none⟩:Addr).add i=⟨g,i,none⟩ by unfold Addr.add;split <;> simp_all] at this;exact this
  ·rw [List.nodup_cons];refine ⟨fun hm=>?_,h.nodup⟩;obtain ⟨t,ht,rfl⟩:=List.mem_map.1 hm;obtain ⟨i,hi⟩:=List.getElem?_of_mem ht;have hl:i<m.length:=(by rw [<- h.len];exact (od.1 hi).1);exact (h.row i t m[i] hi (oc hl)).2.2.2.2 rfl
  ·rcases List.mem_cons.1 hb2 with rfl | hb2;·exact ow hob hb
   ·obtain ⟨t,ht,rfl⟩:=List.mem_map.1 hb2;obtain ⟨i,hi⟩:=List.getElem?_of_mem ht;have hl:i<m.length:=(by rw [<- h.len];exact (od.1 hi).1);exact (h.row i t m[i] hi (oc hl)).2.2.2.1
theorem Z2_ (w:World) {ops:Array Oper} {rest:List Oper} {o:Oper} {a:Act} {Q:Exit->Act->World->Prop} (qj:o.guard=none)
  (s x:Operand) (ho:o.op=Op.call { callee:=Callee.builtin Builtin.append,args:=#[s,x],argTypes:=#[174,174] }) (ob base:Nat)
  (v:Value) (tags:List (Nat×Nat×Nat)) (m:pM) (t:Nat×Nat×Nat) (r:pN) (u:Array Value) (T:TypeId) (hs:a.eval s=v) (hB:eQ w ob base v tags m)
  (hx:a.eval x=.slice (some ⟨w.heap.size,0,none⟩) 1 1) (hu:u=#[iO t r.length]) (qm:r.length<=t.2.2) (pn:t.2.2<=maxLen) (hR:aW w t.1 t.2.1 r) (hb:base<=t.1) (hv:v.ownBlock≠some t.1) (hn:t.1∉tags.map (·.1))
  (hlen:m.length<1000000) (pX:ob<=w.heap.size)
  (h:∀ v' w',eQ w' ob base v' (tags++[t]) (m++[r])->Below ob w w'->Hid (∃ g c,v'=.slice (some ⟨g,0,none⟩) (m.length+1) c)->wpList prog ops Q rest (a.put o.dst v') w') :
  wpList prog ops Q (o::rest) a (w.alloc (.cells u T)):=by
 refine wpList_plain qj fun K hK=>?_;subst hu;obtain ⟨i0,hi,hz,pZ,qK⟩:=info_parts Z4H;have py:∀ j,(⟨w.heap.size,0,none⟩:Addr).add j=⟨w.heap.size,j,none⟩:=by intro j;unfold Addr.add;split <;> simp_all
 have hE:aA w (w.alloc (.cells #[iO t r.length] T)):=aA.alloc _ _;refine iR (w.alloc (.cells #[iO t r.length] T)) s x 174 ho ob 263 i0 (.slice none 0 0) 1 24 underlying174 hi hz pZ qK rfl (by decide) v m.length (ly tags m) hs (et hB.own hE) ⟨w.heap.size,0,none⟩ 1 1 [iO t r.length] hx rfl ?_ ?_ ?_ ?_ ?_ ?_
 ·intro j q hq;rw [py,World.cell?_alloc_new];simpa using hq
 ·intro u hu;rw [List.mem_singleton.1 hu];rfl
 ·unfold maxLen;omega
 ·omega
 ·simp;omega
 ·intro v' w' hown pQ _ qb
  have hLB:=(hB.ext hE).snoc t r qm pn (hR.ext hE) hb hv hn hown pQ (by
   rcases qb with h1 | h1;·exact .inl h1
   ·exact .inr ⟨_,h1,oz _⟩)
  refine hK _ _ (h v' w' hLB ?_ ?_)
  ·have qP:w.grownBy w' v.ownBlock:=gO (hE.grown _) pQ;refine ⟨qP.os,qP.tape,qP.output,qP.size,fun b hb2=>qP.block b (by omega) ?_⟩;intro e;have:=(hB.own.lt b e.symm).1;omega
  ·obtain ⟨g,c,tU,-⟩:=eu hown (by omega);exact ⟨g,c,tU⟩
theorem g6_ (xss:pM) (v:Value) (w:World) (h:aw w v xss) (hlen:xss.length<=1000) (hrow:∀ xs∈xss,xs.length<=1000) (ht:ag w) :
  Calls prog 131 #[v] w fun e w'=>∃ v' tags,e=.returned v'/\eQ w' w.heap.size w.heap.size v' tags xss/\(v'=.slice none 0 0/\xss=[]\/∃ g c,v'=.slice (some ⟨g,0,none⟩) xss.length c)/\aA w w':=by
 obtain ⟨a,c,rfl,h1,h2,-,hc⟩:=ae.open h;have HC:=oZ hc;have HT:=oZ ht;have HROW:=oZ hrow;unfold maxLen at h2;clear h hc ht hrow
 go_enter func131,ntmps131
 go_wp2_with fail
 go_loopw [3,8] (fun out t wr=>∃ (j:Nat) (tags:List (Nat×Nat×Nat)),j<=xss.length/\t=.int .i64 j/\aA w wr/\Hid (eQ wr w.heap.size w.heap.size out tags (xss.take j))/\Hid (out=.slice none 0 0/\j=0\/∃ g c,out=.slice (some ⟨g,0,none⟩) j c)) (fun _ t _=>xss.length-(intOf t).toNat)
 case atStart=>exact ⟨0,[],by omega,rfl,aA.refl _,eQ.nil _ _ _,.inl ⟨rfl,rfl⟩⟩
 case round =>
  obtain ⟨j,tags,hj,rfl,hE,HB,HV⟩:=hrel;obtain ⟨wo,rfl⟩:∃ wo:World,wo=wr:=⟨_,rfl⟩;have HE:=oZ hE;by_cases hlt:j<xss.length
  ·obtain ⟨b,off,rfl,hb,pP⟩:=HC (by intro e;simp [e] at hlt);obtain ⟨xs,hx⟩:∃ x,xss[j]?=some x:=⟨xss[j],oc hlt⟩;obtain ⟨vr,tH,sW⟩:=pP j xs hx;have g1:=hE.cell sW;obtain ⟨ar,cr,rfl,-,-,-,-,-⟩:=aM.open tH;have HL:=oZ (V7_ xs _ wo (tH.ext hE) (HROW xs (og hx)) (HT.ext hE));have HN:Hid (xss.take (j+1)=xss.take j++[xs]):=(by unfold Hid;rw [ou,hx];rfl);have HJ:Hid ((xss.take j).length=j):=(by unfold Hid;rw [om];omega);clear pP hx tH sW hE;go_wp2_with fail;refine HL.mono ?_;rintro e w2 ⟨g,cg,rfl,hR,hg1,wY,tw,hE2⟩;have HB2:=oZ (HB.ext hE2);have HE2:=oZ (aA.trans HE hE2);have hszr:=HE2.size;have hszw:=HE.size;have HR:=oZ hR;have hv1:u3.ownBlock≠some g:=fun e=>by have:=(HB.own.lt g e).2;omega
   have pv:g∉tags.map (·.1):=fun hm=>by
    obtain ⟨t,ht,e⟩:=List.mem_map.1 hm;obtain ⟨i,hi⟩:=List.getElem?_of_mem ht;have hl:i<(xss.take j).length:=(by rw [<- HB.out.len];exact (od.1 hi).1);have:=(HB.row i t _ hi (oc hl)).2.2.1.lt;omega
   have HV1:=oZ hv1;have HN1:=oZ pv;clear hE2 HL hR hv1 pv;go_wp2_with (at_builtin;go_must (refine Z2_ _ rfl _ _ rfl w.heap.size w.heap.size u3 tags (xss.take j) (g,0,cg) xs #[.slice (some ⟨g,0,none⟩) xs.length cg] 263 rfl HB2 rfl rfl wY tw HR ?e1 HV1 HN1 ?e2 hszr ?_))
   case e1=>show w.heap.size<=g;omega
   case e2=>rw [HJ.out];omega
   intro v' w5 pf hb5 vI;rw [<- HN.out] at pf;have HB5:=oZ pf;have HV5:=vI;have HX5:=oZ (Below.trans HE2 hb5);clear pf hb5 vI;go_wp2_with fail;go_roundw
   case rel=>exact ⟨j+1,_,by omega,by go_num,HX5,HB5,.inr HV5⟩
   case measure=>simp [intOf];omega
  ·obtain rfl:j=xss.length:=(by omega);have hB:=HB.out;rw [List.take_length] at hB;have HBF:=oZ hB;have MZ:Hid (u3=.slice none 0 0/\xss=[]\/∃ g c,u3=.slice (some ⟨g,0,none⟩) xss.length c):=by
    rcases HV.out with ⟨h1,h2⟩ | h1;·exact .inl ⟨h1,List.eq_nil_of_length_eq_zero h2⟩
    ·exact .inr h1
   clear hB HB HV hE;go_wp2_with fail;go_ret;exact ⟨_,tags,rfl,HBF,MZ,HE⟩
def mw (w:World) (u:List Value) (x:pN):Prop:=∃ v,u=[v]/\aM w v x
theorem jz {P:Program} {fn:Func} {p u:Tmp} {ty:TypeId} (h:fn.results=#[.cell p ty,.tmp u]) (tmps:Array Value) (w:World) (g:Nat) (t:TypeId) (cs:Array Value) (fr:Nat×Nat) (d:TypeDesc)
  (hp:tmps.getD p undef=.pointer (some ⟨g,0,none⟩)) (hg:w.heap[g]?=some (.cells cs t fr))
  (hu:P.underlying ty=some d) (hd:(match d with | .struct _ | .array _ _=>true | _=>false)=true) (hi:(P.info? ty).map (·.size)=some cs.size) :
  (results fn tmps).run P w=.ok (.tuple #[.agg cs,tmps.getD u undef]) w:=by
 rw [Go.results_cell_tmp h,hp];simp [asAddr,run_loadVar_row w g t ty cs fr d hg hu hd hi,Result.andThen]
def ew (cols:Nat) (m:pM) (w:World) (e:Ending) (w':World):Prop :=
 (if (m.all fun r=>r.all dX)=true then ∃ v,e=.returned (.tuple #[.agg #[.int .i64 cols,v],.int .i64 0])/\aZ w' (·<w.heap.size) (fun W=>aw W v m) else e=.returned (.tuple #[.agg #[.int .i64 0,.slice none 0 0],.int .i64 4]))/\aA w w'
theorem Z0Y (cols:Nat) (m:pM) (ad:Option Addr) (cap:Nat) (w:World) (hM:m=[]\/∃ g0 tags,ad=some ⟨g0,0,none⟩/\bI w g0 tags m) (rC:∀ r∈m,r.all bU=true) (hl:∀ r∈m,r.length<=1000)
  (qY:m.length<=cap) (qD:cap<=maxLen) (hm:m.length<=1000) (hc:cols<=1000) (pT:b9 w) :
  Calls prog 133 #[.slice ad m.length cap,.int .i64 cols] w (ew cols m w):=by
 have HM:=oZ hM;have HSM:=oZ rC;have HLE:=oZ hl;have HLIB:=oZ pT;unfold maxLen at qD;clear hM rC hl pT
 go_enter func133,ntmps133
 go_wp2_with fail;have tD:aA w ((w.alloc (Obj.cells #[Value.int IntKind.i64 0,Value.slice none 0 0] 76)).alloc (Obj.cells #[Value.int IntKind.i64 cols,Value.slice none 0 0] 76)):=(aA.alloc _ _).trans (aA.alloc _ _);have hbk0:=dq (w.alloc (Obj.cells #[Value.int IntKind.i64 0,Value.slice none 0 0] 76)) #[Value.int IntKind.i64 cols,Value.slice none 0 0] 76;have hbk1:=aF (dq w #[Value.int IntKind.i64 0,Value.slice none 0 0] 76) (aA.alloc (w.alloc (Obj.cells #[Value.int IntKind.i64 0,Value.slice none 0 0] 76)) (Obj.cells #[Value.int IntKind.i64 cols,Value.slice none 0 0] 76));have Em:((w.alloc (Obj.cells #[Value.int IntKind.i64 0,Value.slice none 0 0] 76)).alloc (Obj.cells #[Value.int IntKind.i64 cols,Value.slice none 0 0] 76)).heap.size=w.heap.size+2:=by simp
 rw [show (w.alloc (Obj.cells #[Value.int IntKind.i64 0,Value.slice none 0 0] 76)).heap.size=w.heap.size+1 by simp] at hbk0;generalize ((w.alloc (Obj.cells #[Value.int IntKind.i64 0,Value.slice none 0 0] 76)).alloc (Obj.cells #[Value.int IntKind.i64 cols,Value.slice none 0 0] 76))=W0 at *
 have HB0:=oZ hbk0;have HB1:=oZ hbk1
 go_loopw [15] (fun t wr=>∃ (j:Nat) (S:Nat->Prop) (v:Value),j<=m.length/\t=.int .i64 j/\aA w wr/\Hid (jC S 0 wr)/\Hid (∀ b,b<w.heap.size+2->S b)/\Hid (bc wr S (w.heap.size+2) 36 1 v mw (m.take j))/\Hid (wr.heap[w.heap.size+1]?=some (.cells #[.int .i64 cols,v] 76 (0,0)))/\Hid (wr.heap[w.heap.size]?=some (.cells #[.int .i64 0,.slice none 0 0] 76 (0,0)))/\Hid ((m.take j).all (fun r=>r.all dX)=true)) (fun t _=>m.length-(intOf t).toNat)
 case atStart=>exact ⟨0,fun b=>b<w.heap.size+2,_,by omega,rfl,tD,fun b hb=>by rw [Em];exact ⟨Nat.zero_le _,hb⟩,fun b hb=>hb,bc.nil _ _ _ _ _ _,HB0,HB1,rfl⟩
 case round =>
  obtain ⟨j,S,v,hj,rfl,hE,HOK,HSB,qi,HK,HK1,Br⟩:=hrel;obtain ⟨wo,rfl⟩:∃ wo:World,wo=wr:=⟨_,rfl⟩;have HE:=oZ hE;by_cases hlt:j<m.length
  ·obtain ⟨g0,tags,rfl,rU⟩:∃ g0 tags,ad=some ⟨g0,0,none⟩/\bI w g0 tags m:=by
    rcases HM.out with h0 | h0;·rw [h0] at hlt;simp at hlt
    ·exact h0
   obtain ⟨t,zL,c1,c2,c3,c4,c5⟩:=(rU.ext hE).get j hlt;clear rU;have hmem:aD m j∈m:=og (eL hlt);have HSH:=oZ (k0_ (aD m j) t.1 t.2.1 t.2.2 wo c4 c2 c3 (HLE _ hmem) (HSM _ hmem) (HLIB.ext HE));have HN:Hid (m.take (j+1)=m.take j++[aD m j]):=(by unfold Hid;rw [ou,eL hlt];rfl);have HJ:Hid ((m.take j).length<1000000):=(by unfold Hid;rw [om];omega);have HME:=oZ hmem;obtain ⟨xr,qN⟩:=pK (aD m j);rw [qN] at c1 HSH HN HME;unfold maxLen at c3;clear zL c2 c4 c5 qN hE hmem;by_cases hf:xr.all dX=true
   ·go_wp2_with fail;refine HSH.mono ?_;rintro e w2 tI;unfold kB at tI;rw [if_pos hf] at tI;obtain ⟨ar,cr,rfl,hI,hO,hE2⟩:=tI;have HSF:Hid (aZ w2 S fun w=>mw w [.slice ar xr.length cr] xr):=(aZ.owns hO (fun k hk hs=>by have:=(hO.lt k hk).1;have:=(HOK k hs).2;omega)).mono (fun w h=>⟨_,rfl,aM.of_owns h (fun x hx=>by have:=(lH x).1 (List.all_eq_true.1 hf x hx);omega)⟩);have HB2:=oZ (qi.ext hE2);have HK2:=oZ (aF HK hE2);have HK12:=oZ (aF HK1 hE2);have HOK2:=oZ (HOK.grow hE2.size);have HE2:=oZ (aA.trans HE hE2);have g1:=ah HK2 1;have g2:=cQ HK2 1;simp only [pC,o_,o9] at g1;clear hI hO hE2 HSH qi HK HK1 HOK;have hs2:w.heap.size+2<=w2.heap.size:=by have:=cG HK2;omega
    go_wp2_with (at_builtin;go_must (refine Z6_ _ rfl _ _ 32 rfl S (w.heap.size+2) 36 (.slice none 0 0) 1 24 underlying32 Z2D rfl (by decide) v mw (m.take j) xr #[.slice ar xr.length cr] 36 rfl HB2 _ rfl rfl rfl ?a1 HSF HJ (by decide) hs2 0 (Nat.zero_le _) HOK2 ?_))
    case a1=>simp [Value.oneCell']
    intro v' w5 S5 CU C4 vd pf qz hb5 hs5 CG;obtain ⟨gv,cv,rfl,-,-,-,-⟩:=pf.shape (by simp);have hk5:=eV HK2 qz (HB2.neBlock HK2 (by decide));have HK15:=oZ ((hb5.block w.heap.size (by omega)).trans HK12);have g15:=ah hk5 1;have g25:=cQ hk5 1;simp only [pC,o_,o9] at g15;have HK5:=oZ hk5;have HX5:=oZ (Below.trans HE2 (Below.mono hb5 (by omega)));have HOK5:=oZ CU;have DT:Hid (∀ b,b<w.heap.size+2->S5 b):=fun b hb=>C4 _ (HSB b hb);rw [<- HN.out,show (m.take (j+1)).length=j+1 by rw [om];omega] at pf;have HB5:=oZ pf;clear CU C4 vd pf CG hk5 g1 g2;go_wp2_with fail;go_roundw
    case rel=>exact ⟨j+1,S5,.slice (some ⟨gv,0,none⟩) (j+1) cv,by omega,by go_num,HX5.setCell (p:=⟨w.heap.size+1,1,none⟩) (by simp) _,HOK5.grow (by simp [World.setCell]),DT,HB5.store (DT _ (by omega)) (HB5.neBlock HK5 (by decide)),dr HK5 1 _,(kf _ _ _ _ _ (by omega)).trans HK15,by unfold Hid;rw [HN.out,List.all_append,Br.out];simp [hf]⟩
    case measure=>simp [intOf];omega
   ·have HA:Hid (¬ (m.all fun r=>r.all dX)=true):=fun h=>hf (List.all_eq_true.1 h xr HME);have q0:=ah HK1 0;have q1:=ah HK1 1;have q2:=cQ HK1 0;have q3:=cQ HK1 1;simp only [pC,o_,o9] at q0 q1;go_wp2_with fail;refine HSH.mono ?_;rintro e w2 tI;unfold kB at tI;rw [if_neg hf] at tI;obtain ⟨rfl,hE2⟩:=tI;have hk2:=aF HK1 hE2;have q0:=ah hk2 0;have q1:=ah hk2 1;have q2:=cQ hk2 0;have q3:=cQ hk2 1;simp only [pC,o_,o9] at q0 q1;have HE2:=oZ (aA.trans HE hE2);clear hE2 HSH;go_wp2_with fail;have hkA:=dr (dr hk2 0 (.int .i64 0)) 1 (.slice none 0 0);have r0:=ah hkA 0;have r1:=ah hkA 1;simp only [pC,o_,o9,List.setIfInBounds_toArray,List.set_cons_zero,List.set_cons_succ] at r0 r1;have HX2:Hid (aA w ((w2.setCell ⟨w.heap.size,0,none⟩ (.int .i64 0)).setCell ⟨w.heap.size,1,none⟩ (.slice none 0 0))):=(HE2.setCell (p:=⟨w.heap.size,0,none⟩) (by simp) _).setCell (p:=⟨w.heap.size,1,none⟩) (by simp) _;refine bodyPost_ret (jz (by rfl) _ _ w.heap.size 76 #[.int .i64 0,.slice none 0 0] (0,0) _ (by rfl) hkA underlying76 (by rfl) (by kernel_rfl)) (by rfl) ?_;unfold ew;rw [if_neg HA.out];exact ⟨rfl,HX2⟩
  ·obtain rfl:j=m.length:=(by omega);obtain ⟨av,nv,cv,rfl⟩:∃ a n c,v=.slice a n c:=by
    obtain ⟨_,us,_,_,h3,_⟩:=qi.out;rcases h3.2 with ⟨hv,_⟩ | ⟨g,c,_,hv,_⟩
    ·exact ⟨_,_,_,hv⟩
    ·exact ⟨_,_,_,hv⟩
   have q0:=ah HK1 0;have q1:=ah HK1 1;have q2:=cQ HK1 0;have q3:=cQ HK1 1;have o0:=ah HK 0;have o1:=ah HK 1;simp only [pC,o_,o9] at q0 q1 o0 o1;clear hE;go_wp2_with fail;have hkA:=dr (dr HK1 0 (.int .i64 cols)) 1 (.slice av nv cv);simp only [List.setIfInBounds_toArray,List.set_cons_zero,List.set_cons_succ] at hkA;refine bodyPost_ret (jz (by rfl) _ _ w.heap.size 76 #[.int .i64 cols,.slice av nv cv] (0,0) _ (by rfl) hkA underlying76 (by rfl) (by kernel_rfl)) (by rfl) ?_;have hF:=Br.out;have hB:=qi.out;rw [List.take_length] at hF hB;unfold ew;rw [if_pos hF];refine ⟨⟨_,rfl,?_⟩,(HE.setCell (p:=⟨w.heap.size,0,none⟩) (by simp) _).setCell (p:=⟨w.heap.size,1,none⟩) (by simp) _⟩;have hne:=hB.neBlock HK1 (by decide);exact ((hB.store (i:=0) (x:=.int .i64 cols) (HSB _ (by omega)) hne).store (i:=1) (x:=.slice av nv cv) (HSB _ (by omega)) hne).keeps fun b hb=>⟨HSB b (by omega),by omega⟩
theorem bI.take {w:World} {g0:Nat} {tags:List (Nat×Nat×Nat)} {m:pM} (h:bI w g0 tags m) (d:Nat):bI w g0 (tags.take d) (m.take d):=by
 refine ⟨by rw [om,om,h.len],h.lt,h.free,fun i t r ht hr=>?_,?_⟩
 ·have hi:i<d:=by
   have:=(od.1 ht).1;rw [om] at this;omega
  rw [List.getElem?_take_of_lt hi] at ht hr;exact h.row i t r ht hr
 ·have hn:=List.nodup_cons.1 h.nodup;rw [List.nodup_cons];have hs:((tags.take d).map (·.1)).Sublist (tags.map (·.1)):=(List.take_sublist d tags).map _;exact ⟨fun hm=>hn.1 (hs.subset hm),hn.2.sublist hs⟩
theorem aW.drop {w:World} {g o:Nat} {xs:pN} (h:aW w g o xs) (k:Nat):aW w g (o+k) (xs.drop k) :=
 ⟨h.lt,fun j x hx=>by
  rw [pF] at hx
  rw [Nat.add_assoc];exact h.cell (k+j) x hx,h.free⟩
def ji (k:Nat) (t:Nat×Nat×Nat):Nat×Nat×Nat:=(t.1,t.2.1+k,t.2.2-k)
theorem r4_ (k:Nat) (m:pM) (r:pN):dp k (m++[r])=dp k m++(if (k:Int)<=ck r then [r.drop k] else []):=by
 unfold dp;rw [List.filter_append,List.map_append];congr 1;by_cases h:(k:Int)<=ck r <;> simp [h]
end Go.Proofs.YtoonaddcfakamaaGreatDoor
