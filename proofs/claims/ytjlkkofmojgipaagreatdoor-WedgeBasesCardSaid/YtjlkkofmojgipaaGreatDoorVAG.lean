import Derived.Test.YtjlkkofmojgipaaGreatDoorVAF
import Derived.Test.YtjlkkofmojgipaaGreatDoorVAA
import Derived.Lib.SliceRun
import Derived.WalkSpells
import Derived.Laws.AppendOwnNone
import Derived.Test.YtjlkkofmojgipaaGreatDoorProg
import Derived.Deep.Cut
set_option linter.unusedVariables false
set_option linter.unusedSimpArgs false
set_option maxRecDepth 1000000
set_option maxHeartbeats 4000000
namespace Go.Proofs.YtjlkkofmojgipaaGreatDoor
open Go.RowKit Go.Proofs.Tryz
structure CoK (n d:Nat) (m m':oe):Prop where
 len:m'.length=m.length
 wid:bB n m'
 sp:bU n (aK d m) (aK d m')
 ahead:∀ i,i<d->aD m' i=aD m i
theorem Z1K {n c d:Nat}:∀ {F:Nat} {m m':oe} {b:Bool},dD n c d F m=some (m',b)->d<m.length->bB n m->CoK n d m m'
 | 0,m,m',b,h,hd,hw=>by cases h
 | f+1,m,m',b,h,hd,hw=>by
  rw [iu] at h;by_cases hok:bH n m=true
  ·rw [if_pos hok] at h;cases ha:an c d m (m.length-d) with
   | none =>
    rw [ha] at h;simp only [Option.some.injEq,Prod.mk.injEq] at h;obtain ⟨rfl,-⟩:=h;exact ⟨rfl,hw,bU.refl _ _,fun i _=>rfl⟩
   | some a =>
    rw [ha] at h;simp only at h;obtain ⟨b1,b2,b3,b4⟩:=gh ha;have pT:a<m.length:=(by omega);have hsl:=jc m d a;have ya:bB n (a8 m d a):=by
     intro i hi;rw [mP hd pT]
     split
     ·exact hw d hd
     ·split
      ·exact hw a pT
      ·exact hw i (by omega)
    cases pP:cB c d (a8 m d a) (m.length-(d+1)) with
    | none=>rw [pP] at h;cases h
    | some y =>
     obtain ⟨m2,rest⟩:=y;rw [pP] at h;obtain ⟨l1,l2,l3⟩:=jt pP (by omega);have qU:bB n m2:=fun i hi=>by rw [l3 i];exact ya i (by omega)
     have hsp:bU n (aK d m) (aK d m2):=(Z3o hd pT b1).trans (Z1S pP (by omega));have Cy:∀ i,i<d->aD m2 i=aD m i:=fun i hi=>by
      rw [l2 i (.inl (by omega)),mP hd pT,if_neg (by omega),if_neg (by omega)]
     cases rest with
     | true =>
      simp only at h;have s:=Z1K h (by omega) qU;refine ⟨by rw [s.len,l1,hsl],s.wid,hsp.trans s.sp,fun i hi=>?_⟩;rw [s.ahead i hi,Cy i hi]
     | false =>
      simp only [Option.some.injEq,Prod.mk.injEq] at h;obtain ⟨rfl,-⟩:=h;exact ⟨by rw [l1,hsl],qU,hsp,Cy⟩
  ·rw [if_neg hok] at h;cases h
structure ft (m:oe) (d c:Nat) (ps:Nat->Nat):Prop where
 lt:∀ i,i<d->ps i<c
 mono:∀ i j,i<j->j<d->ps i<ps j
 zero:∀ i,i<d->∀ c',c'<ps i->aC m i c'=0
 ne:∀ i,i<d->aC m i (ps i)≠0
 rest:∀ i,d<=i->i<m.length->∀ c',c'<c->aC m i c'=0
theorem ft.nil (m:oe) (ps:Nat->Nat):ft m 0 0 ps:=⟨fun i h=>by omega,fun i j _ h=>by omega,fun i h=>by omega,fun i h=>by omega,fun i _ _ c' h=>by omega⟩
theorem ft.next {m:oe} {d c:Nat} {ps:Nat->Nat} (h:ft m d c ps) (hz:∀ i,d<=i->i<m.length->aC m i c=0):ft m d (c+1) ps :=
 ⟨fun i hi=>by have:=h.lt i hi;omega,h.mono,h.zero,h.ne,fun i h1 h2 c' hc=>by
  by_cases e:c'=c;·rw [e];exact hz i h1 h2
  ·exact h.rest i h1 h2 c' (by omega)⟩
theorem ft.step {n c d C U:Nat} {m m':oe} {ps:Nat->Nat} (h:ft m d c ps) (hd:d<m.length) (hw:bB n m) (s:CoR n d c C U m m') (k:CoK n d m m'):ft m' (d+1) (c+1) (fun i=>if i<d then ps i else c):=by
 have hz:∀ i,d<=i->i<m'.length->∀ c',c'<c->aC m' i c'=0:=by
  intro i h1 h2 c' hc;have hi:Sp n (aK d m) (aD m' i):=k.sp.2 _ (bA h1 h2);exact hi.zeroCol (c8 hw) (by rintro r ⟨j,j1,j2,rfl⟩;exact h.rest j j1 j2 c' hc)
 have pQ:∀ i,i<d->∀ c',aC m' i c'=aC m i c':=fun i hi c'=>by unfold aC;rw [k.ahead i hi]
 refine ⟨fun i hi=>?_,fun i j pY hj=>?_,fun i hi c' hc=>?_,fun i hi=>?_,fun i h1 h2 c' hc=>?_⟩
 ·split
  ·rename_i qj;have:=h.lt i qj;omega
  ·omega
 ·rw [if_pos (show i<d by omega)]
  split
  ·rename_i qj;exact h.mono i j pY qj
  ·exact h.lt i (by omega)
 ·split at hc
  ·rename_i qj;rw [pQ i qj c'];exact h.zero i qj c' hc
  ·obtain rfl:i=d:=(by omega);exact hz i (oK _) (by rw [s.len];exact hd) c' hc
 ·split
  ·rename_i qj;rw [pQ i qj];exact h.ne i qj
  ·obtain rfl:i=d:=(by omega);exact s.pos
 ·by_cases qX:c'=c;·rw [qX];exact s.zero i (by omega) (by rw [<- s.len];exact h2)
  ·exact hz i (by omega) h2 c' (by omega)
theorem Z6b {n d:Nat} {m m':oe} (k:CoK n d m m'):bU n (aK 0 m) (aK 0 m'):=by
 have hdm:∀ {x:oe} {r},aK d x r->aK 0 x r:=fun ⟨i,h1,h2,h3⟩=>⟨i,by omega,h2,h3⟩
 constructor
 ·rintro r ⟨i,-,h2,rfl⟩;by_cases hi:i<d
  ·rw [<- k.ahead i hi];exact .mem (bA (by omega) (by rw [k.len];exact h2))
  ·exact (k.sp.1 _ (bA (by omega) h2)).mono fun r hr=>.mem (hdm hr)
 ·rintro r ⟨i,-,h2,rfl⟩;have h3:i<m.length:=by rw [<- k.len];exact h2
  by_cases hi:i<d
  ·rw [k.ahead i hi];exact .mem (bA (by omega) h3)
  ·exact (k.sp.2 _ (bA (by omega) h2)).mono fun r hr=>.mem (hdm hr)
def eN (e:Nat):Nat->Nat
 | 0=>e
 | c+1=>4*eN e c+1
theorem Z70 (e:Nat):2*(3*(10^e*10^e*(10^e*10^e)))<=10^(4*e+1):=by
 have:10^e*10^e*(10^e*10^e)=10^(4*e):=by rw [<- Nat.pow_add,<- Nat.pow_add];congr 1;omega
 rw [this,Nat.pow_succ];omega
structure Z7c (N C e:Nat) (m m':oe) (d c:Nat) (ps:Nat->Nat):Prop where
 len:m'.length=m.length
 le:d<=m'.length
 lec:d<=c
 wid:bB N m'
 bnd:∀ i,i<m'.length->bJ (10^eN e c) (aD m' i)
 sp:bU N (aK 0 m) (aK 0 m')
 ech:ft m' d c ps
theorem V1_ {N F e:Nat} {m:oe} (hw:bB N m) (hb:∀ i,i<m.length->bJ (10^e) (aD m i)):∀ c,eN e (c+1)+1<=400000000->10^eN e c<F->∃ m' d ps,fW N F m c=some (m',d)/\Z7c N c e m m' d c ps
 | 0,_,_=>⟨m,0,fun _=>0,rfl,⟨rfl,Nat.zero_le _,oK _,hw,hb,bU.refl _ _,ft.nil m _⟩⟩
 | c+1,h1,hF=>by
  have hE:eN e (c+1)=4*eN e c+1:=rfl;have hE2:eN e (c+1+1)=4*eN e (c+1)+1:=rfl;have xq:10^eN e c<F:=Nat.lt_of_le_of_lt (Nat.pow_le_pow_right (by decide) (by omega)) hF;obtain ⟨m1,d,ps,e1,k1⟩:=V1_ hw hb c (by omega) xq;have xL:∀ r,bJ (10^eN e c) r->bJ (10^eN e (c+1)) r:=fun r hr=>hr.mono (Nat.pow_le_pow_right (by decide) (by omega));by_cases hd:d<m1.length
  ·have vq:ee d (10^eN e c) m1:=fun i _ h3=>k1.bnd i h3;have AB:eF d (10^eN e c) m1:=fun i h2 h3=>k1.bnd i (by omega);obtain ⟨x,hx⟩:=oc (eN e c);have q4:=Z70 (eN e c);have g1:10^(4*eN e c+1)+2<10^(4*eN e c+2):=by
    rw [Nat.pow_succ 10 (4*eN e c+1),Nat.pow_succ 10 (4*eN e c)];have:=Nat.pow_pos (n:=4*eN e c) (show 0<10 by decide);omega
   have g2:10^eN e c<=10^(4*eN e c+1):=Nat.pow_le_pow_right (by decide) (by omega);rcases Z6c (n:=N) (c:=c) (F:=F) (K:=4*eN e c+2) (by omega) (by omega) (Nat.lt_of_le_of_lt (Nat.add_le_add_right q4 2) g1) (Nat.lt_of_le_of_lt (Nat.add_le_add_right g2 2) g1) (Nat.lt_of_le_of_lt (Nat.add_le_add_right g2 2) g1) xq hd k1.wid vq AB with ⟨hc,hz⟩ | ⟨m2,hc,hr⟩
   ·refine ⟨m1,d,ps,by rw [j4,e1];simp only;rw [hc];rfl,⟨k1.len,k1.le,by have:=k1.lec;omega,k1.wid,fun i hi=>xL _ (k1.bnd i hi),k1.sp,k1.ech.next hz⟩⟩
   ·have hk:=Z1K hc hd k1.wid;refine ⟨m2,d+1,_,by rw [j4,e1];simp only;rw [hc];rfl,⟨by rw [hr.len,k1.len],by rw [hr.len];omega,by have:=k1.lec;omega,hr.wid,fun i hi=>?_,k1.sp.trans (Z6b hk),k1.ech.step hd k1.wid hr hk⟩⟩;by_cases pg:i<d;·exact xL _ (hr.upp i pg hi)
    ·exact (hr.low i (by omega) hi).mono (by rw [hE];exact q4)
  ·have hz:∀ i,d<=i->i<m1.length->aC m1 i c=0:=fun i h2 h3=>by omega
   have hc:dD N c d F m1=some (m1,false):=by
    have NP:0<F:=Nat.lt_of_le_of_lt (Nat.zero_le _) xq;obtain ⟨f,rfl⟩:∃ f,F=f+1:=⟨F-1,by omega⟩;have hok:bH N m1=true:=mH (K:=eN e c+1) (B:=10^eN e c) (U:=10^eN e c) (d:=0) (by omega) (by omega) k1.wid (fun i _ h3=>k1.bnd i h3) (fun i h2 _=>by omega) (by rw [Nat.pow_succ];have:=Nat.pow_pos (n:=eN e c) (show 0<10 by decide);omega) (by rw [Nat.pow_succ];have:=Nat.pow_pos (n:=eN e c) (show 0<10 by decide);omega);rw [iu,if_pos hok,show m1.length-d=0 by omega];rfl
   exact ⟨m1,d,ps,by rw [j4,e1];simp only;rw [hc];rfl,⟨k1.len,k1.le,by have:=k1.lec;omega,k1.wid,fun i hi=>xL _ (k1.bnd i hi),k1.sp,k1.ech.next hz⟩⟩
theorem D9_:∀ (r:og),aW 1 r r=List.replicate r.length 0
 | []=>rfl
 | a::r=>by
  have e:aW 1 (a::r) (a::r)=(a-1*a)::aW 1 r r:=rfl;rw [e,D9_ r,List.length_cons,List.replicate_succ];congr 1;omega
theorem C0_ (k t u:Int):∀ (r s x:og),r.length=x.length->s.length=x.length->aW (t-k*u) (aW k r s) x=aW k (aW t r x) (aW u s x)
 | [],[],[],_,_=>rfl
 | [],_::_,[],_,h2=>by simp at h2
 | _::_,_,[],h1,_=>by simp at h1
 | [],_,_::_,h1,_=>by simp at h1
 | _::_,[],_::_,_,h2=>by simp at h2
 | a::r,b::s,c::x,h1,h2=>by
  have e:aW (t-k*u) (aW k (a::r) (b::s)) (c::x)=(a-k*b-(t-k*u)*c)::aW (t-k*u) (aW k r s) x:=rfl;have e2:aW k (aW t (a::r) (c::x)) (aW u (b::s) (c::x))=(a-t*c-k*(b-u*c))::aW k (aW t r x) (aW u s x):=rfl;rw [e,e2,C0_ k t u r s x (by simpa using h1) (by simpa using h2),Int.sub_mul,Int.mul_sub,Int.mul_assoc];congr 1;omega
theorem Sp.peel {n d:Nat} {R:oe} (hW:bB n R) (hd:d<R.length) {v:og} (h:Sp n (aK d R) v):∃ t,Sp n (aK (d+1) R) (aW t v (aD R d)):=by
 induction h with
 | zero=>exact ⟨0,by rw [iy];exact .zero⟩
 | mem h =>
  obtain ⟨i,h1,h2,rfl⟩:=h;by_cases hi:i=d;·exact ⟨1,by rw [hi,D9_,hW d hd];exact .zero⟩
  ·exact ⟨0,by rw [iy];exact .mem (bA (by omega) h2)⟩
 | less k h h' ih ih' =>
  obtain ⟨t,ht⟩:=ih;obtain ⟨u,hu⟩:=ih';refine ⟨t-k*u,?_⟩;rw [C0_ k t u _ _ _ (by rw [h.len (c8 hW),hW d hd]) (by rw [h'.len (c8 hW),hW d hd])];exact .less k ht hu
theorem Sp.first {n d:Nat} {R:oe} {ps:Nat->Nat} (hR:bP n R ps) (hd:d<R.length) {v:og} (h:Sp n (aK d R) v):∃ t,v.getD (ps d) 0=t*aC R d (ps d)/\Sp n (aK (d+1) R) (aW t v (aD R d)):=by
 obtain ⟨t,ht⟩:=h.peel hR.1 hd;refine ⟨t,?_,ht⟩
 have h0:(aW t v (aD R d)).getD (ps d) 0=0:=ht.zeroCol (c8 hR.1) (by
  rintro r ⟨i,h1,h2,rfl⟩
  exact hR.2.zero i h2 (ps d) (hR.2.mono d i (by omega) h2))
 rw [et t (by rw [h.len (c8 hR.1),hR.1 d hd])] at h0;unfold aC;omega
theorem Sp.none {n d:Nat} {R:oe} (hW:bB n R) (hd:R.length<=d) {v:og} (h:Sp n (aK d R) v):v=List.replicate n 0 :=
 v1_ (h.len (c8 hW)) fun c _=>h.zeroCol (c8 hW) (by rintro r ⟨i,h1,h2,rfl⟩;omega)
theorem G0_ {t p:Int} (hp:0<p) (h1:-p<t*p) (h2:t*p<p):t=0:=by
 rcases Int.lt_trichotomy t 0 with h | h | h
 ·have:t*p<=(-1)*p:=Int.mul_le_mul_of_nonneg_right (by omega) (by omega);omega
 ·exact h
 ·have:1*p<=t*p:=Int.mul_le_mul_of_nonneg_right (by omega) (by omega);omega
theorem Sp.small {n:Nat} {R:oe} {ps:Nat->Nat} (hR:bP n R ps) {v:og}:∀ (k d:Nat),R.length-d=k->Sp n (aK d R) v->(∀ i,d<=i->i<R.length->-aC R i (ps i)<v.getD (ps i) 0/\v.getD (ps i) 0<aC R i (ps i))->v=List.replicate n 0
 | 0,d,hk,h,hs=>h.none hR.1 (by omega)
 | k+1,d,hk,h,hs=>by
  obtain ⟨t,e,ht⟩:=h.first hR (by omega)
  have hsd:=hs d (oK _) (by omega);rw [e] at hsd;have h0:t=0:=G0_ (hR.2.pos d (by omega)) hsd.1 hsd.2;rw [h0,iy] at ht;exact Sp.small hR k (d+1) (by omega) ht fun i h1 h2=>hs i (by omega) h2
theorem Sp.lead {n c:Nat} {R:oe} {ps:Nat->Nat} (hR:bP n R ps) {v:og} (hc:v.getD c 0≠0) (hz:∀ c',c'<c->v.getD c' 0=0):∀ (k d:Nat),R.length-d=k->Sp n (aK d R) v->∃ i t,d<=i/\i<R.length/\ps i=c/\v.getD c 0=t*aC R i c
 | 0,d,hk,h=>absurd (h.zeroCol (c8 hR.1) (by rintro r ⟨i,h1,h2,rfl⟩;omega)) hc
 | k+1,d,hk,h=>by
  obtain ⟨t,e,ht⟩:=h.first hR (by omega)
  rcases Nat.lt_trichotomy (ps d) c with hl | hl | hl
  ·rw [hz _ hl] at e;have hp:=hR.2.pos d (by omega);have h0:t=0:=G0_ hp (by omega) (by omega);rw [h0,iy] at ht;obtain ⟨i,t',h1,h2,h3⟩:=Sp.lead hR hc hz k (d+1) (by omega) ht;exact ⟨i,t',by omega,h2,h3⟩
  ·exact ⟨d,t,oK _,by omega,hl,by rw [<- hl];exact e⟩
  ·refine absurd (h.zeroCol (c8 hR.1) ?_) hc;rintro r ⟨i,h1,h2,rfl⟩;refine hR.2.zero i h2 c ?_;by_cases hi:i=d;·rw [hi];exact hl
   ·have:=hR.2.mono d i (by omega) h2;omega
theorem l9 {n:Nat} {R T:oe} {ps qs:Nat->Nat} (hR:bP n R ps) (hT:bP n T qs) (hs:bU n (aK 0 R) (aK 0 T)) (j:Nat) (hj:j<T.length):∃ i t,i<R.length/\ps i=qs j/\aC T j (qs j)=t*aC R i (qs j):=by
 have h:=hs.2 _ (bA (Nat.zero_le j) hj);have hp:=hT.2.pos j hj;obtain ⟨i,t,-,h2,h3,h4⟩:=Sp.lead (c:=qs j) hR (show aC T j (qs j)≠0 by omega) (fun c' hc=>hT.2.zero j hj c' hc) _ 0 rfl h;exact ⟨i,t,h2,h3,h4⟩
theorem bU.symm {n:Nat} {S T:og->Prop} (h:bU n S T):bU n T S:=⟨h.2,h.1⟩
theorem d2_ {n:Nat} {R T:oe} {ps qs:Nat->Nat} (hR:bP n R ps) (hT:bP n T qs) (hs:bU n (aK 0 R) (aK 0 T)):∀ (k i:Nat),i<=k->i<R.length->i<T.length/\ps i=qs i:=by
 intro k
 induction k with
 | zero =>
  intro i hi hl;obtain rfl:i=0:=by omega
  obtain ⟨j,t,h1,h2,-⟩:=l9 hT hR hs.symm 0 hl;obtain ⟨j',t',yy,zp,-⟩:=l9 hR hT hs 0 (by omega);refine ⟨by omega,?_⟩;by_cases hj:j=0;·rw [hj] at h2;exact h2.symm
  ·have a1:=hT.2.mono 0 j (by omega) h1;by_cases Ku:j'=0;·rw [Ku] at zp;exact zp
   ·have a2:=hR.2.mono 0 j' (by omega) yy;omega
 | succ k ih =>
  intro i hi hl;by_cases hik:i<=k;·exact ih i hik hl
  ·obtain ⟨j,t,h1,h2,-⟩:=l9 hT hR hs.symm i hl;have vu:i<=j:=by
    rcases Nat.lt_or_ge j i with h | h
    ·have a1:=ih j (by omega) (by omega);have a2:=hR.2.mono j i h hl;omega
    ·exact h
   obtain ⟨j',t',yy,zp,-⟩:=l9 hR hT hs i (by omega);have Cg:i<=j':=by
    rcases Nat.lt_or_ge j' i with h | h
    ·have a1:=ih j' (by omega) yy;have a2:=hT.2.mono j' i h (by omega);omega
    ·exact h
   refine ⟨by omega,?_⟩;have a1:qs i<=qs j:=by
    by_cases he:i=j;·rw [he];exact oK _
    ·exact Nat.le_of_lt (hT.2.mono i j (by omega) h1)
   have a2:ps i<=ps j':=by
    by_cases he:i=j';·rw [he];exact oK _
    ·exact Nat.le_of_lt (hR.2.mono i j' (by omega) yy)
   omega
theorem Z5r {a b t u:Int} (ha:0<a) (hb:0<b) (h:a=t*b) (h':b=u*a):a=b:=by
 have ht:1<=t:=by
  rcases Int.lt_or_le t 1 with h1 | h1
  ·have:t*b<=0*b:=Int.mul_le_mul_of_nonneg_right (by omega) (by omega);omega
  ·exact h1
 have hu:1<=u:=by
  rcases Int.lt_or_le u 1 with h1 | h1
  ·have:u*a<=0*a:=Int.mul_le_mul_of_nonneg_right (by omega) (by omega);omega
  ·exact h1
 have h1:1*b<=t*b:=Int.mul_le_mul_of_nonneg_right ht (by omega);have h2:1*a<=u*a:=Int.mul_le_mul_of_nonneg_right hu (by omega);omega
theorem F2_ {r s:og} (hl:r.length=s.length) (h:aW 1 r s=List.replicate r.length 0):r=s:=by
 apply List.ext_getElem hl;intro i h1 h2;have e:=et 1 hl.symm i;rw [h] at e;simp only [oD,oB h1,oB h2] at e;rw [oB (by simpa using h1)] at e;simp at e;omega
theorem N4_ {n:Nat} {R T:oe} {ps qs:Nat->Nat} (hR:bP n R ps) (hT:bP n T qs) (hs:bU n (aK 0 R) (aK 0 T)):R=T:=by
 have hp:=fun i (hi:i<R.length)=>d2_ hR hT hs i i (oK _) hi;have hq:=fun i (hi:i<T.length)=>d2_ hT hR hs.symm i i (oK _) hi;have hl:R.length=T.length:=by
  rcases Nat.lt_trichotomy R.length T.length with h | h | h;·have:=(hq _ h).1;omega
  ·exact h
  ·have:=(hp _ h).1;omega
 have yf:∀ i,i<R.length->aC R i (ps i)=aC T i (ps i):=by
  intro i hi;obtain ⟨j,t,h1,h2,h3⟩:=l9 hT hR hs.symm i hi;obtain ⟨j',t',yy,zp,EH⟩:=l9 hR hT hs i (by omega);have vu:j=i:=by
   rcases Nat.lt_trichotomy j i with h | h | h;·have:=hT.2.mono j i h (by omega);have:=(hp i hi).2;omega
   ·exact h
   ·have:=hT.2.mono i j h h1;have:=(hp i hi).2;omega
  have Cg:j'=i:=by
   rcases Nat.lt_trichotomy j' i with h | h | h;·have:=hR.2.mono j' i h hi;have:=(hp i hi).2;omega
   ·exact h
   ·have:=hR.2.mono i j' h yy;have:=(hp i hi).2;omega
  rw [vu] at h3;rw [Cg,<- (hp i hi).2] at EH;have hpos:=hT.2.pos i (by omega);rw [<- (hp i hi).2] at hpos;exact Z5r (hR.2.pos i hi) hpos h3 EH
 apply List.ext_getElem hl;intro i h1 h2;have e1:aD R i=R[i]:=d_ (oB h1);have e2:aD T i=T[i]:=d_ (oB h2);rw [<- e1,<- e2];have hlen:(aD R i).length=(aD T i).length:=by rw [hR.1 i h1,hT.1 i h2]
 refine F2_ hlen ?_;rw [hR.1 i h1];refine Sp.small hR _ 0 rfl (.less 1 (.mem (bA (Nat.zero_le _) h1)) (hs.2 _ (bA (Nat.zero_le _) h2))) fun j _ hj=>?_;rw [et 1 hlen.symm];show -aC R j (ps j)<aC R i (ps j)-1*aC T i (ps j)/\aC R i (ps j)-1*aC T i (ps j)<aC R j (ps j);have hpj:=hR.2.pos j hj;rcases Nat.lt_trichotomy i j with h | h | h
 ·have a1:=hR.2.red i j h hj;have a2:=hT.2.red i j h (by omega);rw [<- (hp j hj).2,<- yf j hj] at a2;omega
 ·subst h;rw [yf i h1] at hpj |-;omega
 ·rw [hR.2.zero i h1 (ps j) (hR.2.mono j i h h1)];have hx:=hT.2.zero i h2 (qs j) (hT.2.mono j i h h2);rw [<- (hp j hj).2] at hx;rw [hx];omega
theorem r4_ {α:Type} {xs:List α} {j:Nat} {x:α} (h:xs[j]?=some x):xs.drop j=x::xs.drop (j+1):=by
 obtain ⟨hj,rfl⟩:=oC.1 h;exact List.drop_eq_getElem_cons hj
def cW (n:Int):Bool:=decide (-1000000000<=n) && decide (n<=1000000000)
theorem nQ (n:Int):cW n=true↔-1000000000<=n/\n<=1000000000:=by simp [cW]
def gM (p:Int->Bool) (xs:og):Int:=match xs.findIdx? p with | some i=>(i:Int) | none=>-1
def Z1s (g:Nat) (lb:Array Value) (p:Int->Bool) (w:World) (xs:og):Prop :=
 ∀ W x,x∈xs->aA w W->Calls prog g (#[.int .i64 x]++lb) W fun e W'=>e=.returned (.bool (p x))/\aA W W'
theorem X4_ (xs:og) (v:Value) (g:Nat) (lb:Array Value) (p:Int->Bool) (w:World) (h:bL w v xs) (eg:∀ args w,(callFunc g args).run prog w=.ok (.enter g args) w) (hp:Z1s g lb p w xs) :
  oX 116 #[v,.func (.func g) #[] lb] w (.int .i64 (gM p xs)):=by
 obtain ⟨a,c,rfl,h1,h2,-,hxb,hc⟩:=h.open;have HC:=oA hc;have HPR:=oA hp;clear hc h hxb hp;unfold maxLen at h2
 go_enter func116,ntmps116
 go_wp2
 go_loopw [8] (fun t wr=>∃ pre rest,t=.int .i64 (pre.length:Nat)/\aA w wr/\Hid (xs=pre++rest)/\Hid (∀ x∈pre,p x=false)) (fun t _=>xs.length-(intOf t).toNat)
 case atStart=>exact ⟨[],xs,rfl,aA.refl _,rfl,by intro x hx;simp at hx⟩
 case round =>
  obtain ⟨pre,rest,rfl,hE,HP,HA⟩:=hrel;have hlen:xs.length=pre.length+rest.length:=by rw [HP.out];simp
  cases rest with
  | nil =>
   have:¬ (pre.length<xs.length):=(by simp at hlen;omega);clear hlen
   go_wp2
   go_ret;have:gM p xs=-1:=by
    have:xs.findIdx? p=none:=(by rw [HP.out,List.append_nil,List.findIdx?_eq_none_iff];exact HA);unfold gM;rw [this]
   rw [this];exact ⟨rfl,hE⟩
  | cons x rest =>
   have hlt:pre.length<xs.length:=(by simp at hlen;omega);clear hlen;obtain ⟨b,off,rfl,hb,hcell⟩:=HC (by rw [HP.out];simp);have g1:=hE.cell (hcell pre.length x (by rw [HP.out];simp));clear hcell;have hcall:=fun W he=>HPR W x (by rw [HP.out];simp) he;cases hq:p x with
   | true =>
    have HR:Hid (gM p xs=pre.length):=by
     unfold Hid gM;rw [HP.out,List.findIdx?_append,(List.findIdx?_eq_none_iff (xs:=pre)).2 HA.out,List.findIdx?_cons,hq];simp
    rw [hq] at hcall;have HCALL:=oA hcall;clear hcall hq;go_wp2_with (go_at_fn g;refine (HCALL _ hE).mono ?_;rintro e w' ⟨rfl,tR⟩);go_ret;rw [HR.out];exact ⟨rfl,hE.trans (by assumption)⟩
   | false =>
    have BL:Hid (∀ y∈pre++[x],p y=false):=by
     intro y hy;rcases List.mem_append.1 hy with hy | hy;·exact HA y hy
     ·rw [List.mem_singleton.1 hy];exact hq
    rw [hq] at hcall;have HCALL:=oA hcall;clear hcall hq;go_wp2_with (go_at_fn g;refine (HCALL _ hE).mono ?_;rintro e w' ⟨rfl,tR⟩);go_roundw
    case rel=>exact ⟨pre++[x],rest,by simp,hE.trans (by assumption),by unfold Hid;rw [HP.out];simp,BL⟩
    case measure=>simp [intOf];omega
theorem Z8_ (xs:og) (v:Value) (g:Nat) (lb:Array Value) (p:Int->Bool) (w:World) (h:bL w v xs) (eg:∀ args w,(callFunc g args).run prog w=.ok (.enter g args) w) (hp:Z1s g lb p w xs) :
  oX 57 #[v,.func (.func g) #[] lb] w (.bool (xs.any p)):=by
 have hcall:=X4_ xs v g lb p w h eg hp;cases hf:xs.findIdx? p with
 | none =>
  have HR:Hid (xs.any p=false):=by
   unfold Hid;rw [List.findIdx?_eq_none_iff] at hf;simpa using hf
  unfold gM at hcall;rw [hf] at hcall;have HCALL:=oA hcall;clear hcall hf hp h
  go_enter func57,ntmps57
  go_wp2_with (go_at_call 116;refine HCALL.mono ?_;rintro e w' ⟨rfl,tR⟩);go_ret;rw [HR.out];exact ⟨rfl,by assumption⟩
 | some i =>
  have HR:Hid (xs.any p=true):=by
   unfold Hid;rw [List.any_eq_true];obtain ⟨hi,AK,_⟩:=List.findIdx?_eq_some_iff_getElem.1 hf;exact ⟨_,List.getElem_mem hi,AK⟩
  have xV:(0:Int)<=(i:Int):=by omega
  unfold gM at hcall;rw [hf] at hcall;have HCALL:=oA hcall;clear hcall hf hp h
  go_enter func57,ntmps57
  go_wp2_with (go_at_call 116;refine HCALL.mono ?_;rintro e w' ⟨rfl,tR⟩);go_ret;rw [HR.out];exact ⟨rfl,by assumption⟩
theorem Z2e (n:Int) (w:World):oY 105 #[.int .i64 n] w (.bool (!cW n)):=by
 by_cases h:n<=1000000000
 ·by_cases h2:-1000000000<=n
  ·go_enter func105,ntmps105
   go_wp2
   go_ret;exact ⟨by simp [cW,h,h2];try omega,rfl⟩
  ·go_enter func105,ntmps105
   go_wp2
   go_ret;exact ⟨by simp [cW,h,h2];try omega,rfl⟩
 ·go_enter func105,ntmps105
  go_wp2
  go_ret;exact ⟨by simp [cW,h];try omega,rfl⟩
def ib (n:Nat):oe->Int
 | []=>0
 | r::l=>if 12<r.length then 4 else if r.length=n then (if r.any (fun x=>!cW x) then 4 else ib n l) else 5
def cK (xss:oe):Int:=if 12<xss.length then 4 else ib (xss.headD []).length xss
theorem W4_ (xss:oe) (v:Value) (w:World) (h:bN w v xss) :
  oX 53 #[v] w (.int .i64 (cK xss)):=by
 obtain ⟨a,c,rfl,h1,h2,-,hc⟩:=bc.open h;have HC:=oA hc;unfold maxLen at h2;clear h hc;by_cases hl:12<xss.length
 ·have HT:Hid (cK xss=4):=by unfold Hid cK;rw [if_pos hl]
  have sW:(12:Int)<(xss.length:Int):=by omega
  go_enter func53,ntmps53
  go_wp2_with fail;go_ret;exact ⟨by rw [HT.out];rfl,aA.refl _⟩
 ·have HT:Hid (cK xss=ib (xss.headD []).length xss):=by unfold Hid cK;rw [if_neg hl]
  have sW:¬ (12:Int)<(xss.length:Int):=by omega
  obtain ⟨n,hn⟩:=oc ((xss.headD []).length);rw [<- hn] at HT;have HN:=oA hn;clear hn
  go_enter func53,ntmps53
  go_wp2_with fail
  go_loopw [10] (fun t wr=>∃ j:Nat,j<=xss.length/\t=.int .i64 j/\aA w wr/\Hid (cK xss=ib n (xss.drop j))) (fun t _=>xss.length-(intOf t).toNat)
  case atStart=>exact ⟨0,by omega,rfl,aA.refl _,HT⟩
  case round =>
   obtain ⟨j,hj,rfl,hE,HD⟩:=hrel;obtain ⟨wo,rfl⟩:∃ wo:World,wo=wr:=⟨_,rfl⟩;have HE:=oA hE;by_cases hlt:j<xss.length
   ·obtain ⟨b,off,rfl,hb,hcell⟩:=HC (by intro e;simp [e] at hlt);obtain ⟨xs,hx⟩:∃ x,xss[j]?=some x:=⟨xss[j],oB hlt⟩;obtain ⟨ys,hy⟩:∃ y,xss[0]?=some y:=⟨xss[0]'(by omega),oB _⟩;have yO:ys.length=n:=by
     rw [HN.out];cases xss with
     | nil=>simp at hlt
     | cons z t=>simp at hy;rw [hy];rfl
    obtain ⟨vx,qg,hcx⟩:=hcell j xs hx;obtain ⟨vy,zK,sY⟩:=hcell 0 ys hy;rw [Nat.add_zero] at sY;obtain ⟨ax,cx,rfl,-,-,-,-,-⟩:=bL.open qg;obtain ⟨ay,cy,rfl,-,-,-,-,-⟩:=bL.open zK;rw [yO] at sY;have g1:=hE.cell hcx;have g2:=hE.cell sY;have HX:=oA (bL.ext qg hE);have HDS:Hid (cK xss=if 12<xs.length then 4 else if xs.length=n then (if xs.any (fun x=>!cW x) then 4 else ib n (xss.drop (j+1))) else 5):=by
     unfold Hid;rw [HD.out,r4_ hx];rfl
    have hpos:0<xss.length:=(by omega);have HANY:=oA (fun W he=>Z8_ xs _ 105 #[] (fun x=>!cW x) W (HX.ext (w':=W) he) (enters_of func105 (by kernel_rfl) rfl) (fun W x _ _=>(Z2e x W).mono fun _ _ ⟨he,hw⟩=>⟨he,hw▸aA.refl _⟩));clear hcell hx hy yO qg zK hcx sY hE;by_cases q1:12<xs.length
    ·have q2:(12:Int)<(xs.length:Int):=(by omega);rw [if_pos q1] at HDS;go_wp2_with fail;go_ret;exact ⟨by rw [HDS.out];rfl,HE⟩
    ·have q2:¬ (12:Int)<(xs.length:Int):=(by omega);rw [if_neg q1] at HDS;by_cases q3:xs.length=n
     ·rw [if_pos q3] at HDS;have q4:((xs.length:Int) != (n:Int))=false:=(by simp [q3]);cases wG:xs.any (fun x=>!cW x) with
      | true =>
       rw [wG,if_pos rfl] at HDS;rw [wG] at HANY;clear q3 wG;go_wp2_with fail;refine p_ (HANY _ (aA.refl _)) (aA.trans HE) ?_;intro w1 HE1;clear HANY;go_wp2_with fail;go_ret;exact ⟨by rw [HDS.out];rfl,HE1⟩
      | false =>
       rw [wG,if_neg Bool.false_ne_true] at HDS;rw [wG] at HANY;clear q3 wG;go_wp2_with fail;refine p_ (HANY _ (aA.refl _)) (aA.trans HE) ?_;intro w1 HE1;clear HANY;go_wp2_with fail;go_roundw
       case rel=>exact ⟨j+1,by omega,by go_num,HE1,HDS⟩
       case measure=>simp [intOf];omega
     ·rw [if_neg q3] at HDS;have q4:((xs.length:Int) != (n:Int))=true:=(by simp;omega);clear q3;go_wp2_with fail;go_ret;exact ⟨by rw [HDS.out];rfl,HE⟩
   ·obtain rfl:j=xss.length:=(by omega);have HF:Hid (cK xss=0):=(by unfold Hid;rw [HD.out,List.drop_length];rfl);clear HD hE;go_wp2_with fail;go_ret;exact ⟨by rw [HF.out];rfl,HE⟩
theorem Z3Z (n:Int) (w:World):oY 214 #[.int .i64 n] w (.bool (cW n)):=by
 by_cases h:-1000000000<=n
 ·by_cases h2:n<=1000000000
  ·go_enter func214,ntmps214
   go_wp2
   go_ret;exact ⟨by simp [cW,h,h2],rfl⟩
  ·go_enter func214,ntmps214
   go_wp2
   go_ret;exact ⟨by simp [cW,h,h2],rfl⟩
 ·go_enter func214,ntmps214
  go_wp2
  go_ret;exact ⟨by simp [cW];omega,rfl⟩
theorem Z0l (n:Int) (w:World):oY 213 #[.int .i64 n] w (.bool (!cW n)):=by
 go_enter func213,ntmps213
 go_wp2_with (go_at_call 214;refine q_ (Z3Z _ _) ?_);go_ret;exact ⟨rfl,rfl⟩
def k_ (r:og):Prop:=r.length<=64/\∀ x∈r,-1000000000<=x/\x<=1000000000
def e_ (r:og):Int:=if 64<r.length then 4 else if r.any (fun n=>!cW n) then 4 else 0
theorem H9_ (r:og):e_ r=0↔k_ r:=by
 unfold e_ k_;by_cases h:64<r.length;·simp [h];omega
 ·rw [if_neg h];by_cases h2:r.any (fun n=>!cW n)=true
  ·rw [if_pos h2];obtain ⟨x,hx,hf⟩:=List.any_eq_true.1 h2;simp only [Bool.not_eq_true',Bool.eq_false_iff,ne_eq,nQ] at hf;constructor;·intro e;simp at e
   ·intro ⟨_,h⟩;exact absurd (h x hx) hf
  ·rw [if_neg h2];simp only [true_iff];refine ⟨by omega,fun x hx=>?_⟩;have:=List.any_eq_false.1 (by simpa using h2:r.any (fun n=>!cW n)=false) x hx;simpa [nQ] using this
theorem Z39 (r:og):e_ r=0\/e_ r=4:=by
 unfold e_;split;·exact .inr rfl
 ·split
  ·exact .inr rfl
  ·exact .inl rfl
theorem o9_ (xs:og) (v:Value) (w:World) (h:bL w v xs) :
  oX 196 #[v] w (.int .i64 (e_ xs)):=by
 have HC:=oA (Z8_ xs v 213 #[] (fun n=>!cW n) w h (enters_of func213 (by kernel_rfl) rfl) (fun W x _ _=>(Z0l x W).mono fun _ _ ⟨he,hw⟩=>⟨he,hw▸aA.refl _⟩));obtain ⟨a,c,rfl,-,-,-,-,-⟩:=h.open;by_cases hl:64<xs.length
 ·have HQ:Hid (e_ xs=4):=by unfold Hid e_;rw [if_pos hl]
  have sW:(64:Int)<(xs.length:Int):=by omega
  clear h
  go_enter func196,ntmps196
  go_wp2_with (go_at_call 57;refine HC.mono ?_;rintro e w' ⟨rfl,tR⟩);go_ret;exact ⟨by rw [HQ.out];rfl,aA.refl _⟩
 ·have sW:¬ (64:Int)<(xs.length:Int):=by omega
  cases ha:xs.any (fun n=>!cW n) with
  | true =>
   have HQ:Hid (e_ xs=4):=(by unfold Hid e_;rw [if_neg hl,if_pos ha]);rw [ha] at HC;clear h ha
   go_enter func196,ntmps196
   go_wp2_with (go_at_call 57;refine HC.mono ?_;rintro e w' ⟨rfl,tR⟩);go_ret;exact ⟨by rw [HQ.out];rfl,by assumption⟩
  | false =>
   have HQ:Hid (e_ xs=0):=(by unfold Hid e_;rw [if_neg hl,if_neg (by simp [ha])]);rw [ha] at HC;clear h ha
   go_enter func196,ntmps196
   go_wp2_with (go_at_call 57;refine HC.mono ?_;rintro e w' ⟨rfl,tR⟩);go_ret;exact ⟨by rw [HQ.out];rfl,by assumption⟩
def ei (n:Int):oe->Int
 | []=>0
 | r::l=>if e_ r=0 then (if (r.length:Int)=n then ei n l else 5) else e_ r
theorem t2_ (xss:oe) (n:Int) (v:Value) (w:World) (h:bN w v xss) :
  oX 149 #[v,.int .i64 n] w (.int .i64 (ei n xss)):=by
 obtain ⟨a,c,rfl,h1,h2,-,hc⟩:=bc.open h;have HC:=oA hc;unfold maxLen at h2;clear h hc
 go_enter func149,ntmps149
 go_wp2_with fail
 go_loopw [10] (fun t wr=>∃ j:Nat,j<=xss.length/\t=.int .i64 j/\Hid (ei n (xss.drop j)=ei n xss)/\aA w wr) (fun t _=>xss.length-(intOf t).toNat)
 case atStart=>exact ⟨0,by omega,rfl,by unfold Hid;rw [List.drop_zero],aA.refl _⟩
 case round =>
  obtain ⟨j,hj,rfl,HR,hE⟩:=hrel;by_cases hlt:j<xss.length
  ·obtain ⟨b,off,rfl,hb,hcell⟩:=HC (by intro e;simp [e] at hlt);obtain ⟨x,hx⟩:∃ x,xss[j]?=some x:=⟨xss[j],oB hlt⟩;obtain ⟨u,hu,qS⟩:=hcell j x hx;have g1:=hE.cell qS;have hd:=r4_ hx;have hr:=HR.out;rw [hd] at hr;have HCK:=oA (o9_ x u wr (hu.ext hE));obtain ⟨a2,c2,rfl,k1,k2,-,-,-⟩:=hu.open;clear hcell hx hd HR hu qS;by_cases he:e_ x=0
   ·rw [he] at HCK;by_cases hl:(x.length:Int)=n
    ·have HR2:Hid (ei n (xss.drop (j+1))=ei n xss):=by
      unfold Hid;rw [<- hr];simp only [ei];rw [if_pos he,if_pos hl]
     have hb:((x.length:Int) != n)=false:=(by simp [hl]);clear hr he hl;go_wp2_with fail;refine HCK.mono ?_;rintro e w1 ⟨rfl,hE1⟩;have hE2:=aA.trans hE hE1;clear hE1 HCK;go_wp2_with fail;go_roundw
     case rel=>exact ⟨j+1,by omega,by go_num,HR2,hE2⟩
     case measure=>simp [intOf];omega
    ·have HQ:Hid (ei n xss=5):=by
      unfold Hid;rw [<- hr];simp only [ei];rw [if_pos he,if_neg hl]
     have hb:((x.length:Int) != n)=true:=(by simp [hl]);clear hr he hl;go_wp2_with fail;refine p_ HCK (aA.trans hE) ?_;intro w1 HE2;clear HCK;go_wp2_with fail;go_ret;exact ⟨by rw [HQ.out];rfl,HE2⟩
   ·have h4:e_ x=4:=(Z39 x).resolve_left he;have HQ:Hid (ei n xss=4):=by
     unfold Hid;rw [<- hr];simp only [ei];rw [if_neg he,h4]
    rw [h4] at HCK;clear hr he h4;go_wp2_with fail;refine p_ HCK (aA.trans hE) ?_;intro w1 HE2;clear HCK;go_wp2_with fail;go_ret;exact ⟨by rw [HQ.out];rfl,HE2⟩
  ·obtain rfl:j=xss.length:=(by omega);have HQ:Hid (ei n xss=0):=by
    have:=HR.out;rw [List.drop_length] at this;exact this.symm
   clear HR;go_wp2_with fail;go_ret;exact ⟨by rw [HQ.out];rfl,hE⟩
def dy (n:Int) (xss:oe):Int:=if n<0\/12<n then 3 else if 12<xss.length then 4 else ei n xss
theorem N5_ (xss:oe) (n:Int) (v:Value) (w:World) (h:bN w v xss) :
  oX 99 #[.int .i64 n,v] w (.int .i64 (dy n xss)):=by
 have HC:=oA (t2_ xss n v w h);obtain ⟨a,c,rfl,h1,h2,-,hc⟩:=bc.open h;clear h hc;by_cases q1:n<0
 ·have HL:Hid (dy n xss=3):=by unfold Hid dy;rw [if_pos (.inl q1)]
  go_enter func99,ntmps99
  go_wp2_with fail;go_ret;exact ⟨by rw [HL.out];rfl,aA.refl _⟩
 ·by_cases q2:12<n
  ·have HL:Hid (dy n xss=3):=by unfold Hid dy;rw [if_pos (.inr q2)]
   go_enter func99,ntmps99
   go_wp2_with fail;go_ret;exact ⟨by rw [HL.out];rfl,aA.refl _⟩
  ·by_cases q3:12<xss.length
   ·have HL:Hid (dy n xss=4):=(by unfold Hid dy;rw [if_neg (by omega),if_pos q3]);have q4:(12:Int)<(xss.length:Int):=by omega
    go_enter func99,ntmps99
    go_wp2_with fail;go_ret;exact ⟨by rw [HL.out];rfl,aA.refl _⟩
   ·have HL:Hid (dy n xss=ei n xss):=(by unfold Hid dy;rw [if_neg (by omega),if_neg q3]);have q4:¬ (12:Int)<(xss.length:Int):=by omega
    go_enter func99,ntmps99
    go_wp2_with fail;refine o_ HC ?_;intro w1 HE1;clear HC;go_wp2_with fail;go_ret;exact ⟨by rw [HL.out];rfl,HE1⟩
theorem F1_ (x:Int) (w:World):oY 188 #[.int .i64 x] w (.bool (x != 0)):=by
 go_enter func188,ntmps188
 go_wp2
 go_ret;exact ⟨rfl,rfl⟩
theorem y7_ (xs:og) (v:Value) (w:World) (h:bL w v xs) :
  oX 140 #[v] w (.int .i64 (gM (· != 0) xs)):=by
 have HC:=oA (X4_ xs v 188 #[] (· != 0) w h (enters_of func188 (by kernel_rfl) rfl) (fun W x _ _=>(F1_ x W).mono fun _ _ ⟨he,hw⟩=>⟨he,hw▸aA.refl _⟩));clear h
 go_enter func140,ntmps140
 go_wp2_with (go_at_call 116;refine HC.mono ?_;rintro e w' ⟨rfl,tR⟩);go_ret;exact ⟨rfl,by assumption⟩
def ki {α:Type} (p:α->Bool) (xs:List α):Int:=match xs.findIdx? p with | some i=>(i:Int) | none=>-1
def m9_ {α:Type} (R:World->Value->α->Prop) (g:Nat) (lb:Array Value) (p:α->Bool) (w:World) (xs:List α):Prop :=
 ∀ W x a,x∈xs->aA w W->R W a x->Calls prog g (#[a]++lb) W fun e W'=>e=.returned (.bool (p x))/\aA W W'
theorem M7_ {α:Type} {R:World->Value->α->Prop} (hR:∀ w w' v x,aA w w'->R w v x->R w' v x) (xs:List α) (v:Value) (g:Nat) (lb:Array Value) (p:α->Bool) (w:World) (h:aH 1 (bc R) w v xs) (eg:∀ args w,(callFunc g args).run prog w=.ok (.enter g args) w) (hp:m9_ R g lb p w xs) :
  oX 189 #[v,.func (.func g) #[] lb] w (.int .i64 (ki p xs)):=by
 obtain ⟨a,c,rfl,h1,h2,-,hc⟩:=bc.open h;have HC:=oA hc;have HPR:=oA hp;have HR:=oA hR;clear hc h hp hR;unfold maxLen at h2
 go_enter func189,ntmps189
 go_wp2
 go_loopw [8] (fun t wr=>∃ pre rest,t=.int .i64 (pre.length:Nat)/\aA w wr/\Hid (xs=pre++rest)/\Hid (∀ x∈pre,p x=false)) (fun t _=>xs.length-(intOf t).toNat)
 case atStart=>exact ⟨[],xs,rfl,aA.refl _,rfl,by intro x hx;simp at hx⟩
 case round =>
  obtain ⟨pre,rest,rfl,hE,HP,HA⟩:=hrel;obtain ⟨wo,rfl⟩:∃ wo:World,wo=wr:=⟨_,rfl⟩;have hlen:xs.length=pre.length+rest.length:=by rw [HP.out];simp
  cases rest with
  | nil =>
   have:¬ (pre.length<xs.length):=(by simp at hlen;omega);clear hlen
   go_wp2
   go_ret;have:ki p xs=-1:=by
    have:xs.findIdx? p=none:=(by rw [HP.out,List.append_nil,List.findIdx?_eq_none_iff];exact HA);unfold ki;rw [this]
   rw [this];exact ⟨rfl,hE⟩
  | cons x rest =>
   have hlt:pre.length<xs.length:=(by simp at hlen;omega);clear hlen;obtain ⟨b,off,rfl,hb,hcell⟩:=HC (by rw [HP.out];simp);obtain ⟨vx,qg,hcx⟩:=hcell pre.length x (by rw [HP.out];simp);have g1:=hE.cell hcx;have hcall:=HPR wo x vx (by rw [HP.out];simp) hE (HR _ _ _ _ hE qg);clear hcell qg hcx;cases hq:p x with
   | true =>
    have HRR:Hid (ki p xs=pre.length):=by
     unfold Hid ki;rw [HP.out,List.findIdx?_append,(List.findIdx?_eq_none_iff (xs:=pre)).2 HA.out,List.findIdx?_cons,hq];simp
    rw [hq] at hcall;have HCALL:=oA hcall;clear hcall hq;go_wp2_with (go_at_fn g;refine HCALL.mono ?_;rintro e w' ⟨rfl,tR⟩);go_ret;rw [HRR.out];exact ⟨rfl,hE.trans (by assumption)⟩
   | false =>
    have BL:Hid (∀ y∈pre++[x],p y=false):=by
     intro y hy;rcases List.mem_append.1 hy with hy | hy;·exact HA y hy
     ·rw [List.mem_singleton.1 hy];exact hq
    rw [hq] at hcall;have HCALL:=oA hcall;clear hcall hq;go_wp2_with (go_at_fn g;refine HCALL.mono ?_;rintro e w' ⟨rfl,tR⟩);go_roundw
    case rel=>exact ⟨pre++[x],rest,by simp,hE.trans (by assumption),by unfold Hid;rw [HP.out];simp,BL⟩
    case measure=>simp [intOf];omega
theorem K8_ {α:Type} {R:World->Value->α->Prop} (hR:∀ w w' v x,aA w w'->R w v x->R w' v x) (xs:List α) (v:Value) (g:Nat) (lb:Array Value) (p:α->Bool) (w:World) (h:aH 1 (bc R) w v xs) (eg:∀ args w,(callFunc g args).run prog w=.ok (.enter g args) w) (hp:m9_ R g lb p w xs) :
  oX 141 #[v,.func (.func g) #[] lb] w (.bool (xs.any p)):=by
 have hcall:=M7_ hR xs v g lb p w h eg hp;cases hf:xs.findIdx? p with
 | none =>
  have HRR:Hid (xs.any p=false):=by
   unfold Hid;rw [List.findIdx?_eq_none_iff] at hf;simpa using hf
  unfold ki at hcall;rw [hf] at hcall;have HCALL:=oA hcall;clear hcall hf hp h hR
  go_enter func141,ntmps141
  go_wp2_with (go_at_call 189;refine HCALL.mono ?_;rintro e w' ⟨rfl,tR⟩);go_ret;rw [HRR.out];exact ⟨rfl,by assumption⟩
 | some i =>
  have HRR:Hid (xs.any p=true):=by
   unfold Hid;rw [List.any_eq_true];obtain ⟨hi,AK,_⟩:=List.findIdx?_eq_some_iff_getElem.1 hf;exact ⟨_,List.getElem_mem hi,AK⟩
  have xV:(0:Int)<=(i:Int):=by omega
  unfold ki at hcall;rw [hf] at hcall;have HCALL:=oA hcall;clear hcall hf hp h hR
  go_enter func141,ntmps141
  go_wp2_with (go_at_call 189;refine HCALL.mono ?_;rintro e w' ⟨rfl,tR⟩);go_ret;rw [HRR.out];exact ⟨rfl,by assumption⟩
def gm (r:og):Int:=gM (· != 0) r
def jP (xs:oe) (i:Nat):Int:=if i=0 then -1 else gm (xs.getD (i-1) [])
def iJ (p:Nat) (r x:og):Bool:=decide (x.getD p 0<0) || decide (r.getD p 0<=x.getD p 0)
def jC (xs:oe) (i:Nat):Bool :=
 decide (jP xs i<gm (xs.getD i [])) && decide (0<=(xs.getD i []).getD (gm (xs.getD i [])).toNat 0) && !(xs.take i).any (iJ (gm (xs.getD i [])).toNat (xs.getD i []))
def fk (xs:oe):Bool:=(List.range xs.length).all (jC xs)
theorem Z5z (r:og):gm r<r.length:=by
 unfold gm gM;cases h:r.findIdx? (· != 0) with
 | none=>show (-1:Int)<_;omega
 | some i=>obtain ⟨hi,-⟩:=List.findIdx?_eq_some_iff_getElem.1 h;show (i:Int)<_;omega
theorem Z2g (r:og):-1<=gm r:=by
 unfold gm gM;cases h:r.findIdx? (· != 0) with
 | none=>show (-1:Int)<=-1;omega
 | some i=>show (-1:Int)<=i;omega
theorem aH.take1 {α:Type} {k:Nat} {R:World->List Value->α->Prop} {w:World} {b off c:Nat} {xs:List α} (h:aH k R w (.slice (some ⟨b,off,none⟩) xs.length c) xs) (j:Nat) (hj:j<=xs.length):aH k R w (.slice (some ⟨b,off,none⟩) j c) (xs.take j):=by
 obtain ⟨us,h1,h2,⟨a,cap,hv,h3,h4,h5,h6⟩,h7⟩:=h;simp only [Value.slice.injEq,true_and] at hv;obtain ⟨rfl,rfl⟩:=hv;have hlen:(xs.take j).length=j:=by rw [oG];omega
 refine ⟨us.take j,by rw [oG,oG];omega,fun u hu=>h2 u (List.mem_of_mem_take hu),?_,fun i u x hu hx=>?_⟩
 ·rw [hlen];refine ⟨_,_,rfl,by omega,h4,h5,fun hne=>?_⟩;have yl:us.flatten=(us.take j).flatten++(us.drop j).flatten:=by rw [<- List.flatten_append,List.take_append_drop]
  obtain ⟨b',off',ha,hb,hc⟩:=h6 (by rw [yl];intro e;exact hne (List.append_eq_nil_iff.1 e).1);refine ⟨b',off',ha,hb,fun i u hu=>hc i u ?_⟩;rw [yl,oN (oC.1 hu).1];exact hu
 ·rw [List.getElem?_take] at hu hx
  split at hu
  ·rw [if_pos (by assumption)] at hx;exact h7 i u x hu hx
  ·cases hu
theorem Z0a (xs:oe) (i:Nat):-1<=jP xs i:=by
 unfold jP;split;·omega
 ·exact Z2g _
theorem F4_ (f:Nat->Bool) (j:Nat):(List.range (j+1)).all f=((List.range j).all f && f j):=by
 rw [List.range_succ,List.all_append];simp
theorem Z44 {xs:oe} {j:Nat} (hj:j<xs.length) (h:jC xs j=false):fk xs=false:=by
 unfold fk;rw [List.all_eq_false];exact ⟨j,List.mem_range.2 hj,by simp [h]⟩
theorem j1_ (x r:og) (p gp gr:Nat) (vx vr:Value) (w:World) (hx:bL w vx x) (hr:bL w vr r) (cp:w.cell? ⟨gp,0,none⟩=some (.int .i64 p)) (cr:w.cell? ⟨gr,0,none⟩=some vr) (CI:p<x.length) (IJ:p<r.length) :
  oX 142 #[vx,.pointer (some ⟨gp,0,none⟩),.pointer (some ⟨gr,0,none⟩)] w (.bool (iJ p r x)):=by
 obtain ⟨ax,cx,rfl,x1,x2,-,xb,xc⟩:=hx.open;obtain ⟨ar,cr',rfl,r1,r2,-,rb,rc⟩:=hr.open;obtain ⟨bx,ox,rfl,-,xcell⟩:=xc (by intro e;simp [e] at CI);obtain ⟨br,or,rfl,-,rcell⟩:=rc (by intro e;simp [e] at IJ);obtain ⟨a,ha⟩:∃ a,x[p]?=some a:=⟨_,oB CI⟩;obtain ⟨b,hb⟩:∃ b,r[p]?=some b:=⟨_,oB IJ⟩;have ga:=xcell p a ha;have gb:=rcell p b hb;have HV:Hid (iJ p r x=(decide (a<0) || decide (b<=a))):=by
  unfold Hid iJ;rw [oD,oD,ha,hb];rfl
 rw [HV.out];unfold maxLen at x2 r2;clear ha hb xb rb xc rc xcell rcell hx hr HV;by_cases h1:a<0
 ·have d1:decide (a<0)=true:=oT h1
  go_enter func142,ntmps142
  go_wp2_with fail
  go_quiet (fail)
  go_wp2_with fail;go_ret;exact ⟨by simp [h1],aA.drewN _ _⟩
 ·have d1:decide (a<0)=false:=oS h1;by_cases h2:b<=a
  ·have d2:decide (b<=a)=true:=oT h2
   go_enter func142,ntmps142
   go_wp2_with fail
   go_quiet (fail)
   go_wp2_with fail;go_ret;exact ⟨by simp [h1,h2],aA.drewN _ _⟩
  ·have d2:decide (b<=a)=false:=oS h2
   go_enter func142,ntmps142
   go_wp2_with fail
   go_quiet (fail)
   go_wp2_with fail;go_ret;exact ⟨by simp [h1,h2],aA.drewN _ _⟩
theorem Z0E (xss:oe) (v:Value) (n:Nat) (w:World) (h:bN w v xss) (hn:∀ r∈xss,r.length=n) :
  oX 85 #[v] w (.bool (fk xss)):=by
 have HX:=oA h;have HN:=oA hn;obtain ⟨a,c,rfl,h1,h2,-,hc⟩:=bc.open h;have HC:=oA hc;unfold maxLen at h2;clear h hc hn
 go_enter func85,ntmps85
 go_wp2_with fail
 go_loopw [9,3] (fun t b wr=>∃ j:Nat,j<=xss.length/\t=.int .i64 j/\b=.int .i64 (jP xss j)/\aA w wr/\Hid ((List.range j).all (jC xss)=true)) (fun t _ _=>xss.length-(intOf t).toNat)
 case atStart=>exact ⟨0,by omega,rfl,rfl,aA.refl _,rfl⟩
 case round =>
  obtain ⟨j,hj,rfl,rfl,hE,HA⟩:=hrel;obtain ⟨wo,rfl⟩:∃ wo:World,wo=wr:=⟨_,rfl⟩;have HE:=oA hE;by_cases hlt:j<xss.length
  ·obtain ⟨r,hr⟩:∃ r,xss[j]?=some r:=⟨_,oB hlt⟩;obtain ⟨b,off,rfl,hb,hcell⟩:=HC (by intro e;simp [e] at hlt);obtain ⟨vr,sn,sJ⟩:=hcell j r hr;obtain ⟨ar,cr,rfl,r1,r2,-,rb,rc⟩:=sn.open;unfold maxLen at r2;have g1:=hE.cell sJ;have HR:=oA (bL.ext sn hE);have HRn:=oA (HN r (oE hr));have HP:=oA (fun W (hW:aA wo W)=>y7_ r _ W (bL.ext HR hW));have HG:Hid (xss.getD j []=r):=(by unfold Hid;rw [oD,hr];rfl);obtain ⟨p,hp⟩:∃ p:Int,gM (· != 0) r=p:=⟨_,rfl⟩;obtain ⟨q,hq⟩:∃ q:Int,jP xss j=q:=⟨_,rfl⟩;rw [hp] at HP;have KW:p<r.length:=(by rw [<- hp];exact Z5z r);have KX:-1<=p:=(by rw [<- hp];exact Z2g r);have HOK:Hid (jC xss j=(decide (q<p) && decide (0<=r.getD p.toNat 0) && !(xss.take j).any (iJ p.toNat r))):=by
    unfold Hid jC gm;rw [HG.out,hp,hq]
   have HQ2:Hid (jP xss (j+1)=p):=by
    unfold Hid jP;rw [if_neg (by omega),Nat.add_sub_cancel,HG.out];exact hp
   rw [hq];have HTK:Hid (∀ W,aA wo W->bN W (.slice (some ⟨b,off,none⟩) j c) (xss.take j)):=fun W hW=>aH.take1 (bN.ext HX (aA.trans hE hW)) j hj;have HPL:Hid (∀ x∈xss.take j,x.length=n):=fun x hx=>HN x (List.mem_of_mem_take hx);have vP:-1<=q:=by rw [<- hq];exact Z0a _ _
   have HHB:=oA (Z44 (xs:=xss) hlt);have HSU:Hid (jC xss j=true->(List.range (j+1)).all (jC xss)=true):=fun h=>by rw [F4_,HA.out,h];rfl
   have RC:=oA rc;clear hr hcell sn sJ hp hq hE HX rb rc;go_wp2_with fail;refine (HP _ (aA.alloc _ _)).mono ?_;rintro e w5 ⟨rfl,o5⟩;have HE5:=oA o5;have k0:=o5.cell (a:=⟨wo.heap.size,0,none⟩) (by rw [World.cell?_alloc_new];rfl);clear o5 HP;have e1:aA wo (w5.alloc (.cells #[.int .i64 p] 3)):=aA.trans (aA.alloc _ _) (aA.trans HE5 (aA.alloc _ _));have HE6:=oA e1;have k1:=(aA.alloc w5 (.cells #[.int .i64 p] 3)).cell k0;have k2:(w5.alloc (.cells #[.int .i64 p] 3)).cell? ⟨w5.heap.size,0,none⟩=some (.int .i64 p):=(by rw [World.cell?_alloc_new];rfl);clear e1;by_cases yN:p<=q
   ·have HF:Hid (fk xss=false):=HHB (by rw [HOK.out,oS (by omega)];rfl);go_wp2_with fail;go_ret;rw [HF.out];exact ⟨rfl,aA.trans HE HE6⟩
   ·obtain ⟨k,rfl⟩:∃ k:Nat,p=k:=⟨p.toNat,by omega⟩;have hkl:k<r.length:=(by omega);obtain ⟨y,hy⟩:∃ y,r[k]?=some y:=⟨_,oB hkl⟩;obtain ⟨br,obr,rfl,-,rcell⟩:=RC.out (by intro e;simp [e] at hkl);have k3:=HE6.cell (HE.cell (rcell k y hy));have HGD:Hid (r.getD ((k:Int).toNat) 0=y):=(by unfold Hid;rw [Int.toNat_natCast,oD,hy];rfl);clear rcell;by_cases ph:y<0
    ·have HF:Hid (fk xss=false):=HHB (by rw [HOK.out,HGD.out,oS (show ¬ 0<=y by omega),Bool.and_false];rfl);clear hy;go_wp2_with fail;go_ret;rw [HF.out];exact ⟨rfl,aA.trans HE HE6⟩
    ·have HPR:Hid (m9_ bL 142 #[.pointer (some ⟨w5.heap.size,0,none⟩),.pointer (some ⟨wo.heap.size,0,none⟩)] (iJ k r) (w5.alloc (.cells #[.int .i64 k] 3)) (xss.take j)):=by
      intro W x vx hx hW qg;exact j1_ x r k w5.heap.size wo.heap.size vx _ W qg (bL.ext HR (aA.trans HE6 hW)) (hW.cell k2) (hW.cell k1) (by rw [HPL.out x hx,<- HRn.out];exact hkl) hkl
     have HCT:=oA (K8_ (R:=bL) (fun _ _ _ _ he h=>bL.ext h he) (xss.take j) _ 142 _ (iJ k r) (w5.alloc (.cells #[.int .i64 k] 3)) (HTK _ HE6) (enters_of func142 (by kernel_rfl) rfl) HPR);have HOK2:Hid (jC xss j=!(xss.take j).any (iJ k r)):=by
      unfold Hid;rw [HOK.out,HGD.out,oT (show 0<=y by omega),oT (show q<(k:Int) by omega),Int.toNat_natCast];rfl
     obtain ⟨bb,hbb⟩:∃ bb:Bool,(xss.take j).any (iJ k r)=bb:=⟨_,rfl⟩;rw [hbb] at HCT HOK2;clear hy hbb HPR;cases bb with
     | true =>
      have HF:Hid (fk xss=false):=HHB (by rw [HOK2.out];rfl);go_wp2_with fail;refine p_ HCT (aA.trans HE6) ?_;intro w7 HE7;clear HCT;go_wp2_with fail;go_ret;rw [HF.out];exact ⟨rfl,aA.trans HE HE7⟩
     | false =>
      have HNX:Hid ((List.range (j+1)).all (jC xss)=true):=HSU (by rw [HOK2.out];rfl);go_wp2_with fail;refine HCT.mono ?_;rintro e w7 ⟨rfl,qy⟩;have HE7:=oA (aA.trans HE6 qy);have k4:=qy.cell k2;clear qy HCT;go_wp2_with fail;go_roundw
      case rel=>exact ⟨j+1,by omega,by go_num,by rw [HQ2.out],aA.trans HE HE7,HNX⟩
      case measure=>simp [intOf];omega
  ·have HT:Hid (fk xss=true):=by
    have:j=xss.length:=(by omega);rw [this] at HA;exact HA
   go_wp2_with fail;go_ret;rw [HT.out];exact ⟨rfl,HE⟩
def Z6V (x:og):Nat:=(fG x).toNat
def Z78 (s x:og):Int:=aN (s.getD (Z6V x) 0) (x.getD (Z6V x) 0)
def Z7a (xss:oe) (r:og):Nat->Option (og×og)
 | 0=>some (r,[])
 | i+1=>match Z7a xss r i with
  | none=>none
  | some (s,m) =>
   if 0<=fG (aD xss i)/\Z6V (aD xss i)<s.length/\s.all bp=true/\(aD xss i).all bp=true then
    match eV (Z78 s (aD xss i)) s (aD xss i) with
    | none=>none
    | some s'=>some (s',m++[Z78 s (aD xss i)])
   else none
theorem Z3Y {r:og} {p:Nat} (hz:∀ c,c<p->r.getD c 0=0) (hp:r.getD p 0≠0):r.findIdx? (· != 0)=some p:=by
 have hl:p<r.length:=by
  rcases Nat.lt_or_ge p r.length with h | h;·exact h
  ·exact absurd (by rw [oD,oL h];rfl) hp
 rw [List.findIdx?_eq_some_iff_getElem];refine ⟨hl,?_,fun j hj=>?_⟩
 ·rw [oD,oB hl] at hp;simpa using hp
 ·have:=hz j hj;rw [oD,oB (by omega)] at this;simpa using this
theorem J6_ {n:Nat} {R:oe} {ps:Nat->Nat} (hR:bP n R ps) {i:Nat} (hi:i<R.length):(aD R i).findIdx? (· != 0)=some (ps i) :=
 Z3Y (fun c hc=>hR.2.zero i hi c hc) (Int.ne_of_gt (hR.2.pos i hi))
theorem r9_ {n:Nat} {R:oe} {ps:Nat->Nat} (hR:bP n R ps) {i:Nat} (hi:i<R.length):gm (aD R i)=(ps i:Int):=by
 unfold gm gM;rw [J6_ hR hi]
theorem D7_ {n:Nat} {R:oe} {ps:Nat->Nat} (hR:bP n R ps) {i:Nat} (hi:i<R.length):fG (aD R i)=(ps i:Int):=by
 unfold fG;rw [J6_ hR hi]
theorem Z0B {n:Nat} {R:oe} {ps:Nat->Nat} (hR:bP n R ps):fk R=true:=by
 unfold fk;rw [List.all_eq_true];intro i hi;rw [List.mem_range] at hi;have e:R.getD i []=aD R i:=rfl;have e1:=r9_ hR hi;unfold jC;rw [e,e1];have hb:jP R i<(ps i:Int):=by
  unfold jP
  split
  ·omega
  ·rename_i h0;have e2:gm (R.getD (i-1) [])=(ps (i-1):Int):=r9_ hR (i:=i-1) (by omega);rw [e2];have:=hR.2.mono (i-1) i (by omega) hi;omega
 have hp:0<=(aD R i).getD ((ps i:Int)).toNat 0:=Int.le_of_lt (hR.2.pos i hi);have hn:(R.take i).any (iJ ((ps i:Int)).toNat (aD R i))=false:=by
  rw [List.any_eq_false];intro x hx;obtain ⟨j,hj⟩:=List.getElem?_of_mem hx;have hjl:=(oC.1 hj).1;rw [oG] at hjl;have Hv:aD R j=x:=by rw [<- jb (d:=i) (by omega)];exact d_ hj
  have hr:=hR.2.red j i (by omega) hi;unfold iJ;rw [<- Hv];have h1:¬ (aD R j).getD ((ps i:Int)).toNat 0<0:=Int.not_lt.2 hr.1;have h2:¬ (aD R i).getD ((ps i:Int)).toNat 0<=(aD R j).getD ((ps i:Int)).toNat 0:=Int.not_le.2 hr.2;rw [oS h1,oS h2];simp
 rw [oT hb,oT hp,hn];rfl
theorem y2_ {r s:og} (hl:r.length=s.length) (h:∀ c,r.getD c 0=s.getD c 0):r=s:=by
 apply List.ext_getElem hl;intro i h1 h2;have e:=h i;rw [oD,oD,oB h1,oB h2] at e;simpa using e
def sk (i a:Nat):Nat:=if a<i then a else a+1
def aI:Nat->(Nat->Rat)->Rat
 | 0,_=>0
 | n+1,f=>aI n f+f n
def dG (i:Nat):Rat:=if i%2=0 then 1 else -1
def aL:Nat->(Nat->Nat->Rat)->Rat
 | 0,_=>1
 | n+1,M=>aI (n+1) fun i=>dG i*M i 0*aL n fun a b=>M (sk i a) (b+1)
theorem cG {n:Nat} {f g:Nat->Rat} (h:∀ i,i<n->f i=g i):aI n f=aI n g:=by
 induction n with
 | zero=>rfl
 | succ n ih=>show aI n f+f n=aI n g+g n;rw [ih (fun i hi=>h i (by omega)),h n (by omega)]
theorem n8 (n:Nat):aI n (fun _=>0)=0:=by
 induction n with
 | zero=>rfl
 | succ n ih=>show aI n _+0=0;rw [ih];grind
theorem mV (n:Nat) (f g:Nat->Rat):aI n (fun i=>f i+g i)=aI n f+aI n g:=by
 induction n with
 | zero=>show (0:Rat)=0+0;grind
 | succ n ih=>show aI n _+(f n+g n)=(aI n f+f n)+(aI n g+g n);rw [ih];grind
theorem ia (n:Nat) (c:Rat) (f:Nat->Rat):aI n (fun i=>c*f i)=c*aI n f:=by
 induction n with
 | zero=>show (0:Rat)=c*0;grind
 | succ n ih=>show aI n _+c*f n=c*(aI n f+f n);rw [ih];grind
theorem Z4J (n:Nat) (f:Nat->Rat):aI n (fun i=>- f i)=- aI n f:=by
 have:=ia n (-1) f;rw [show (-1:Rat)*aI n f=- aI n f by grind] at this;rw [<- this];exact cG fun i _=>by grind
theorem Z3m (n m:Nat) (f:Nat->Nat->Rat):aI n (fun i=>aI m (fun j=>f i j))=aI m (fun j=>aI n (fun i=>f i j)):=by
 induction n with
 | zero=>show (0:Rat)=aI m (fun _=>0);rw [n8]
 | succ n ih =>
  show aI n _+aI m (fun j=>f n j)=aI m (fun j=>aI n (fun i=>f i j)+f n j);rw [ih,mV]
theorem n4_ (n:Nat) (f:Nat->Rat):aI (n+1) f=f 0+aI n (fun i=>f (i+1)):=by
 induction n with
 | zero=>show (0:Rat)+f 0=f 0+0;grind
 | succ n ih =>
  show aI (n+1) f+f (n+1)=f 0+(aI n (fun i=>f (i+1))+f (n+1));rw [ih];grind
theorem n7 {n k:Nat} {f:Nat->Rat} (hk:k<n) (h:∀ i,i<n->i≠k->f i=0):aI n f=f k:=by
 induction n with
 | zero=>omega
 | succ n ih =>
  show aI n f+f n=f k;by_cases e:k=n
  ·subst e;have:aI k f=aI k (fun _=>0):=cG fun i hi=>h i (by omega) (by omega);rw [this,n8];grind
  ·rw [ih (by omega) (fun i hi hn=>h i (by omega) hn),h n (by omega) (by omega)];grind
def bD (r i:Nat):Nat:=if i=r then r+1 else if i=r+1 then r else i
theorem Z64 {n r:Nat} (hr:r+1<n) (f:Nat->Rat):aI n (fun i=>f (bD r i))=aI n f:=by
 induction n with
 | zero=>omega
 | succ n ih =>
  show aI n _+f (bD r n)=aI n f+f n;by_cases e:r+1=n
  ·subst e;show (aI r _+f (bD r r))+f (bD r (r+1))=(aI r f+f r)+f (r+1);have h1:aI r (fun i=>f (bD r i))=aI r f:=cG fun i hi=>by unfold bD;rw [if_neg (by omega),if_neg (by omega)]
   have h2:bD r r=r+1:=(by unfold bD;rw [if_pos rfl]);have h3:bD r (r+1)=r:=(by unfold bD;rw [if_neg (by omega),if_pos rfl]);rw [h1,h2,h3];grind
  ·have h1:bD r n=n:=(by unfold bD;rw [if_neg (by omega),if_neg (by omega)]);rw [ih (by omega),h1]
theorem S7_ (i:Nat):dG (i+1)=- dG i:=by
 unfold dG;by_cases h:i%2=0;·rw [if_pos h,if_neg (by omega)]
 ·rw [if_neg h,if_pos (by omega)];grind
theorem cA {n:Nat} {M N:Nat->Nat->Rat} (h:∀ a b,a<n->b<n->M a b=N a b):aL n M=aL n N:=by
 induction n generalizing M N with
 | zero=>rfl
 | succ n ih =>
  show aI (n+1) _=aI (n+1) _;refine cG fun i hi=>?_;rw [h i 0 hi (by omega),ih (M:=fun a b=>M (sk i a) (b+1)) (N:=fun a b=>N (sk i a) (b+1)) (fun a b ha hb=>h _ _ (by unfold sk;split <;> omega) (by omega))]
def b_ (M:Nat->Nat->Rat) (r:Nat) (u:Nat->Rat):Nat->Nat->Rat:=fun a b=>if a=r then u b else M a b
theorem m4_ (M:Nat->Nat->Rat) (r:Nat):b_ M r (M r)=M:=by
 funext a b;unfold b_;split;·rename_i h;rw [h]
 ·rfl
theorem m5_ (M:Nat->Nat->Rat) (r:Nat) (u:Nat->Rat):(fun a b=>b_ M r u (sk r a) (b+1))=fun a b=>M (sk r a) (b+1):=by
 funext a b;unfold b_ sk;rw [if_neg (by split <;> omega)]
theorem g9_ {M:Nat->Nat->Rat} {r i:Nat} (u:Nat->Rat) (h:i≠r):(fun a b=>b_ M r u (sk i a) (b+1))=b_ (fun a b=>M (sk i a) (b+1)) (if r<i then r else r-1) (fun b=>u (b+1)):=by
 funext a b;unfold b_ sk;show (if (if a<i then a else a+1)=r then u (b+1) else M (if a<i then a else a+1) (b+1))=if a=(if r<i then r else r-1) then u (b+1) else M (if a<i then a else a+1) (b+1)
 have:((if a<i then a else a+1)=r)=(a=(if r<i then r else r-1)):=by
  apply propext;by_cases h1:r<i <;> by_cases h2:a<i <;> simp only [h1,h2,if_true,if_false] <;> omega
 simp only [this]
theorem nF {n:Nat} (M:Nat->Nat->Rat) {r:Nat} (hr:r<n) (u v:Nat->Rat) (c:Rat) :
  aL n (b_ M r fun b=>u b+c*v b)=aL n (b_ M r u)+c*aL n (b_ M r v):=by
 induction n generalizing M r u v with
 | zero=>omega
 | succ n ih =>
  show aI (n+1) _=aI (n+1) _+c*aI (n+1) _;rw [<- ia,<- mV];refine cG fun i hi=>?_;by_cases e:i=r
  ·subst e;simp only [m5_];have h:∀ u,b_ M i u i 0=u 0:=fun u=>by unfold b_;rw [if_pos rfl]
   rw [h,h,h];grind
  ·have h:∀ u,b_ M r u i 0=M i 0:=fun u=>by unfold b_;rw [if_neg e]
   rw [h,h,h,g9_ _ e,g9_ _ e,g9_ _ e,ih _ (by split <;> omega)];grind
theorem nC {n:Nat} (M:Nat->Nat->Rat) {r:Nat} (hr:r+1<n):aL n (fun a b=>M (bD r a) b)=- aL n M:=by
 induction n generalizing M r with
 | zero=>omega
 | succ n ih =>
  show aI (n+1) _=- aI (n+1) _;rw [<- Z64 hr,<- Z4J];refine cG fun i hi=>?_;have qv:bD r (bD r i)=i:=by unfold bD;repeat' split <;> try omega
  show dG (bD r i)*M (bD r (bD r i)) 0*aL n (fun a b=>M (bD r (sk (bD r i) a)) (b+1))=-(dG i*M i 0*aL n fun a b=>M (sk i a) (b+1));rw [qv];by_cases e1:i=r
  ·subst e1;have h1:bD i i=i+1:=(by unfold bD;rw [if_pos rfl]);rw [h1,S7_];have:(fun a b=>M (bD i (sk (i+1) a)) (b+1))=fun a b=>M (sk i a) (b+1):=by
    funext a b;congr 1;unfold bD sk;repeat' split <;> try omega
   rw [this];grind
  ·by_cases e2:i=r+1
   ·subst e2;have h1:bD r (r+1)=r:=(by unfold bD;rw [if_neg (by omega),if_pos rfl]);rw [h1,S7_];have:(fun a b=>M (bD r (sk r a)) (b+1))=fun a b=>M (sk (r+1) a) (b+1):=by
     funext a b;congr 1;unfold bD sk;repeat' split <;> try omega
    rw [this];grind
   ·have h1:bD r i=i:=(by unfold bD;rw [if_neg e1,if_neg e2]);rw [h1];have:(fun a b=>M (bD r (sk i a)) (b+1))=fun a b=>(fun a b=>M (sk i a) (b+1)) (bD (if r<i then r else r-1) a) b:=by
     funext a b;congr 1;unfold bD sk;repeat' split <;> try omega
    rw [this];have e:=ih (fun a b=>M (sk i a) (b+1)) (r:=if r<i then r else r-1) (by split <;> omega);rw [e];grind
def aT (i j a:Nat):Nat:=if a=i then j else if a=j then i else a
theorem J0_ {n:Nat} (M:Nat->Nat->Rat) {i j:Nat} (pY:i<j) (hj:j<n):aL n (fun a b=>M (aT i j a) b)=- aL n M:=by
 obtain ⟨d,rfl⟩:∃ d,j=i+1+d:=⟨j-i-1,by omega⟩;clear pY
 induction d generalizing M with
 | zero =>
  have:(fun a b=>M (aT i (i+1+0) a) b)=fun a b=>M (bD i a) b:=by
   funext a b;congr 1
  rw [this];exact nC M hj
 | succ d ih =>
  have:(fun a b=>M (aT i (i+1+(d+1)) a) b)=fun a b=>(fun a b=>(fun a b=>M (bD (i+1+d) a) b) (aT i (i+1+d) a) b) (bD (i+1+d) a) b:=by
   funext a b;congr 1;unfold aT bD;repeat' split <;> try omega
  rw [this];have e1:=nC (n:=n) (fun a b=>(fun a b=>M (bD (i+1+d) a) b) (aT i (i+1+d) a) b) (r:=i+1+d) (by omega);have e2:=ih (fun a b=>M (bD (i+1+d) a) b) (by omega);have e3:=nC (n:=n) M (r:=i+1+d) (by omega);rw [e1,e2,e3];grind
theorem o6_ {x:Rat} (h:x=-x):x=0:=by
 have:x+x=0:=by rw [show x+x=x-(-x) by grind,<- h];grind
 have:2*x=0:=by grind
 grind
theorem lk {n:Nat} {M:Nat->Nat->Rat} {i j:Nat} (hi:i<n) (hj:j<n) (hne:i≠j) (h:∀ b,b<n->M i b=M j b):aL n M=0:=by
 have key:∀ i j,i<j->j<n->(∀ b,b<n->M i b=M j b)->aL n M=0:=by
  intro i j pY hj h;have h1:=J0_ M pY hj;have h2:aL n (fun a b=>M (aT i j a) b)=aL n M:=cA fun a b ha hb=>by
   unfold aT
   split
   ·rename_i e;rw [e,h b hb]
   ·split
    ·rename_i e;rw [e,h b hb]
    ·rfl
  rw [h2] at h1;exact o6_ h1
 rcases Nat.lt_or_gt_of_ne hne with e | e;·exact key i j e hj h
 ·exact key j i e hi (fun b hb=>(h b hb).symm)
theorem iM {n:Nat} {M:Nat->Nat->Rat} {r:Nat} (hr:r<n) (h:∀ b,b<n->M r b=0):aL n M=0:=by
 have h1:=nF M hr (fun _=>0) (fun _=>0) (-1);have h2:aL n (b_ M r fun _=>0)=aL n M:=cA fun a b ha hb=>by
  unfold b_;split;·rename_i e;rw [e,h b hb]
  ·rfl
 rw [show (fun b:Nat=>(0:Rat)+-1*0)=fun _=>0 by funext b;grind,h2] at h1;grind
theorem Z0t {n:Nat} (M:Nat->Nat->Rat) {r:Nat} (hr:r<n) (c:Rat):aL n (b_ M r fun b=>c*M r b)=c*aL n M:=by
 have h1:=nF M hr (fun _=>0) (M r) c;rw [m4_,iM (M:=b_ M r fun _=>0) hr (fun b _=>by unfold b_;rw [if_pos rfl])] at h1;rw [show (fun b=>c*M r b)=fun b=>(0:Rat)+c*M r b by funext b;grind,h1];grind
theorem k4_ {n:Nat} (M:Nat->Nat->Rat) {r s:Nat} (hr:r<n) (hs:s<n) (hne:r≠s) (c:Rat):aL n (b_ M r fun b=>M r b+c*M s b)=aL n M:=by
 rw [nF M hr (M r) (M s) c,m4_,lk (M:=b_ M r (M s)) hr hs hne (fun b _=>by unfold b_;rw [if_pos rfl,if_neg (by omega)])];grind
def ln:Nat->(Nat->Nat->Rat)->Rat
 | 0,_=>1
 | n+1,M=>aI (n+1) fun j=>dG j*M 0 j*ln n fun a b=>M (a+1) (sk j b)
theorem Z5n (n:Nat) (M:Nat->Nat->Rat):ln n M=aL n fun a b=>M b a:=by
 induction n generalizing M with
 | zero=>rfl
 | succ n ih =>
  show aI (n+1) _=aI (n+1) _;refine cG fun i hi=>?_;rw [ih]
theorem M1_ (i:Nat):sk (i+1) 0=0:=by unfold sk;rw [if_pos (by omega)]
theorem Z3g (i a:Nat):sk (i+1) (a+1)=sk i a+1:=by
 unfold sk;by_cases h:a<i;·rw [if_pos h,if_pos (by omega)]
 ·rw [if_neg h,if_neg (by omega)]
theorem ll:∀ (n:Nat) (M:Nat->Nat->Rat),aL n M=ln n M/\aL (n+1) M=ln (n+1) M
 | 0,M=>⟨rfl,rfl⟩
 | n+1,M=>by
  refine ⟨(ll n M).2,?_⟩;have h1:aL (n+2) M=dG 0*M 0 0*aL (n+1) (fun a b=>M (a+1) (b+1))+aI (n+1) fun i=>aI (n+1) fun j=>dG (i+1)*M (i+1) 0*(dG j*M 0 (j+1)*aL n (fun a b=>M (sk i a+1) (sk j b+1))):=by
   show aI (n+2) _=_;rw [n4_];congr 1;refine cG fun i hi=>?_;rw [ia];congr 1;rw [(ll n _).2];show aI (n+1) _=aI (n+1) _;refine cG fun j hj=>?_;rw [<- (ll n _).1];simp only [Z3g,M1_]
  have h2:ln (n+2) M=dG 0*M 0 0*ln (n+1) (fun a b=>M (a+1) (b+1))+aI (n+1) fun j=>aI (n+1) fun i=>dG (j+1)*M 0 (j+1)*(dG i*M (i+1) 0*aL n (fun a b=>M (sk i a+1) (sk j b+1))):=by
   show aI (n+2) _=_;rw [n4_];congr 1;refine cG fun j hj=>?_;rw [ia];congr 1;rw [<- (ll n _).2];show aI (n+1) _=aI (n+1) _;refine cG fun i hi=>?_;simp only [Z3g,M1_]
  rw [h1,h2,<- (ll n _).2];congr 1;rw [Z3m];refine cG fun j hj=>cG fun i hi=>?_;rw [S7_,S7_];grind
theorem dw (n:Nat) (M:Nat->Nat->Rat):aL n (fun a b=>M b a)=aL n M:=by
 rw [<- Z5n,(ll n M).1]
theorem T1_ {n:Nat} {M:Nat->Nat->Rat} (h:∀ a,a<n->M a n=0):aL (n+1) M=M n n*aL n M:=by
 induction n generalizing M with
 | zero=>show (0:Rat)+dG 0*M 0 0*1=M 0 0*1;unfold dG;rw [if_pos rfl];grind
 | succ n ih =>
  show aI (n+1) _+dG (n+1)*M (n+1) 0*aL (n+1) (fun a b=>M (sk (n+1) a) (b+1))=M (n+1) (n+1)*aI (n+1) _;have h0:aL (n+1) (fun a b=>M (sk (n+1) a) (b+1))=0:=by
   rw [<- dw];refine iM (r:=n) (by omega) fun b hb=>?_;show M (sk (n+1) b) (n+1)=0;exact h _ (by unfold sk;rw [if_pos hb];exact hb)
  rw [h0,<- ia];rw [show ∀ x y:Rat,x+y*0=x by intros;grind];refine cG fun i hi=>?_;rw [ih (M:=fun a b=>M (sk i a) (b+1)) (fun a ha=>h _ (by unfold sk;split <;> omega))];have:sk i n=n+1:=by unfold sk;rw [if_neg (by omega)]
  simp only [this];grind
theorem L5_ (n:Nat):aL n (fun a b=>if a=b then 1 else 0)=1:=by
 induction n with
 | zero=>rfl
 | succ n ih =>
  rw [T1_ (fun a ha=>if_neg (by omega)),ih];simp
theorem Z3Q {n:Nat} (M:Nat->Nat->Rat) {r:Nat} (hr:r<n) (u v:Nat->Rat) (c:Rat) :
  aL n (fun a b=>if b=r then u a+c*v a else M a b)=aL n (fun a b=>if b=r then u a else M a b)+c*aL n (fun a b=>if b=r then v a else M a b):=by
 have h:=nF (fun a b=>M b a) hr u v c;rw [<- dw,<- dw n (fun a b=>if b=r then u a else M a b),<- dw n (fun a b=>if b=r then v a else M a b)];exact h
theorem nD {n:Nat} {M:Nat->Nat->Rat} {i j:Nat} (hi:i<n) (hj:j<n) (hne:i≠j) (h:∀ b,b<n->M b i=M b j):aL n M=0:=by
 rw [<- dw];exact lk hi hj hne h
theorem nE {n:Nat} (M:Nat->Nat->Rat) {r:Nat} (hr:r<n) (u:Nat->Rat) (m:Nat) (f:Nat->Rat) (v:Nat->Nat->Rat) :
  aL n (fun a b=>if b=r then u a+aI m (fun l=>f l*v l a) else M a b)=aL n (fun a b=>if b=r then u a else M a b)+aI m (fun l=>f l*aL n (fun a b=>if b=r then v l a else M a b)):=by
 induction m with
 | zero =>
  show aL n (fun a b=>if b=r then u a+0 else M a b)=_+(0:Rat);rw [show (fun a b=>if b=r then u a+0 else M a b)=fun a b=>if b=r then u a else M a b by funext a b;split <;> grind];grind
 | succ m ih =>
  show aL n (fun a b=>if b=r then u a+(aI m (fun l=>f l*v l a)+f m*v m a) else M a b)=_+(aI m _+f m*_);rw [show (fun a b=>if b=r then u a+(aI m (fun l=>f l*v l a)+f m*v m a) else M a b)=fun a b=>if b=r then (u a+aI m (fun l=>f l*v l a))+f m*v m a else M a b by funext a b;split <;> grind];rw [Z3Q M hr (fun a=>u a+aI m (fun l=>f l*v l a)) (v m) (f m),ih];grind
def gU (V:Nat->List Int) (r:Nat) (x:og):Nat->List Int:=fun a=>if a=r then x else V a
theorem Z3y (V:Nat->List Int) (r:Nat):gU V r (V r)=V:=by
 funext a;unfold gU;split;·rename_i h;rw [h]
 ·rfl
structure jf (n k:Nat) (G:(Nat->List Int)->Rat):Prop where
 lin:∀ V r x y (q:Int),r<k->x.length=y.length->G (gU V r (aW q x y))=G (gU V r x)+(-(q:Rat))*G (gU V r y)
 zero:∀ V r,r<k->G (gU V r (List.replicate n 0))=0
 eq:∀ V i j,i<k->j<k->i≠j->V i=V j->G V=0
 swap:∀ V i j,i<j->j<k->G (fun a=>V (aT i j a))=- G V
 ext:∀ V W,(∀ a,a<k->V a=W a)->G V=G W
def bS (S:Nat->Nat) (V:Nat->List Int):Nat->Nat->Rat:=fun a b=>(((V a).getD (S b) 0:Int):Rat)
def ak (k:Nat) (S:Nat->Nat) (V:Nat->List Int):Rat:=aL k (bS S V)
theorem x9_ (S:Nat->Nat) (V:Nat->List Int) (r:Nat) (x:og):bS S (gU V r x)=b_ (bS S V) r fun b=>((x.getD (S b) 0:Int):Rat):=by
 funext a b;unfold bS gU b_;split <;> rfl
theorem gO (n k:Nat) (S:Nat->Nat):jf n k (ak k S) where
 lin V r x y q hr hl:=by
  unfold ak;rw [x9_,x9_,x9_,<- nF _ hr];congr 1;funext a b;unfold b_;split
  ·simp only;rw [et q hl.symm];rw [Rat.intCast_sub,Rat.intCast_mul];grind
  ·rfl
 zero V r hr:=by
  unfold ak;refine iM hr fun b _=>?_;rw [x9_];unfold b_;rw [if_pos rfl];simp only;have:(List.replicate n (0:Int)).getD (S b) 0=0:=(Sp.zero (n:=n) (S:=fun _=>False)).zeroCol (fun _ h=>h.elim) (fun _ h=>h.elim);rw [this];rfl
 eq V i j hi hj hne h:=by
  unfold ak;exact lk hi hj hne fun b _=>by unfold bS;rw [h]
 swap V i j pY hj:=J0_ (bS S V) pY hj
 ext V W h:=cA fun a b ha _=>by unfold bS;rw [h a ha]
theorem Z3P {n k:Nat} {G H:(Nat->List Int)->Rat} (hG:jf n k G) (hH:jf n k H) (c d:Rat):jf n k (fun V=>c*G V-d*H V) where
 lin V r x y q hr hl:=by rw [hG.lin V r x y q hr hl,hH.lin V r x y q hr hl];grind
 zero V r hr:=by rw [hG.zero V r hr,hH.zero V r hr];grind
 eq V i j hi hj hne h:=by rw [hG.eq V i j hi hj hne h,hH.eq V i j hi hj hne h];grind
 swap V i j pY hj:=by rw [hG.swap V i j pY hj,hH.swap V i j pY hj];grind
 ext V W h:=by rw [hG.ext V W h,hH.ext V W h]
structure gH (Q:Rat->Prop):Prop where
 zero:Q 0
 add:∀ x y (q:Int),Q x->Q y->Q (x+(-(q:Rat))*y)
theorem gH.neg {Q:Rat->Prop} (h:gH Q) {x:Rat} (hx:Q x):Q (-x):=by
 have:=h.add 0 x 1 h.zero hx;have e:(0:Rat)+-((1:Int):Rat)*x=-x:=by grind
 rw [e] at this;exact this
theorem Z5c {n k:Nat} {G:(Nat->List Int)->Rat} {Q:Rat->Prop} (hG:jf n k G) (hQ:gH Q) {T:og->Prop} (hT:kK n T) (V:Nat->List Int) {r:Nat} (hr:r<k) (h:∀ x,T x->Q (G (gU V r x))) {v:og} (hv:Sp n T v):Q (G (gU V r v)):=by
 induction hv with
 | zero=>rw [hG.zero V r hr];exact hQ.zero
 | mem hx=>exact h _ hx
 | less q a b iha ihb=>rw [hG.lin V r _ _ q hr (by rw [a.len hT,b.len hT])];exact hQ.add _ _ q iha ihb
theorem lV {n k:Nat} {G:(Nat->List Int)->Rat} {Q:Rat->Prop} (hG:jf n k G) (hQ:gH Q) {T:og->Prop} (hT:kK n T) (h:∀ V,(∀ a,a<k->T (V a))->Q (G V)) :
  ∀ j,j<=k->∀ V,(∀ a,a<j->Sp n T (V a))->(∀ a,j<=a->a<k->T (V a))->Q (G V)
 | 0,_,V,_,h2=>h V fun a ha=>h2 a (Nat.zero_le _) ha
 | j+1,hj,V,h1,h2=>by
  rw [<- Z3y V j];refine Z5c hG hQ hT V (by omega) (fun x hx=>?_) (h1 j (by omega));refine lV hG hQ hT h j (by omega) (gU V j x) (fun a ha=>?_) fun a ha rQ=>?_;·unfold gU;rw [if_neg (by omega)];exact h1 a (by omega)
  ·unfold gU;split;·exact hx
   ·exact h2 a (by omega) rQ
theorem b2_:∀ (k:Nat) (f:Nat->Nat),(∀ a,a<=k->f a<k)->∃ a b,a<b/\b<=k/\f a=f b
 | 0,f,h=>by have:=h 0 (oK _);omega
 | k+1,f,h=>by
  by_cases hex:∃ a,a<=k/\f a=f (k+1)
  ·obtain ⟨a,h1,h2⟩:=hex;exact ⟨a,k+1,by omega,oK _,h2⟩
  ·have hne:∀ a,a<=k->f a≠f (k+1):=fun a ha he=>hex ⟨a,ha,he⟩;have hv:=h (k+1) (oK _)
   obtain ⟨a,b,h1,h2,h3⟩:=b2_ k (fun a=>if f a=k then f (k+1) else f a) (fun a ha=>by
    have h1:=h a (by omega);have h2:=hne a ha
    split <;> omega)
   refine ⟨a,b,h1,by omega,?_⟩;have ha:=hne a (by omega);have hb:=hne b h2
   split at h3 <;> split at h3 <;> omega
theorem A8_ {n k:Nat} {G:(Nat->List Int)->Rat} {Q:Rat->Prop} (hG:jf n k G) (hQ:gH Q) (R:Nat->List Int) (h:Q (G R)) :
  ∀ (j r:Nat),k-r=j->r<=k->∀ f:Nat->Nat,(∀ a,a<k->f a<k)->(∀ a,a<r->f a=a)->Q (G fun a=>R (f a))
 | 0,r,hj,hr,f,h1,h2=>by
  rw [hG.ext _ R fun a ha=>by rw [h2 a (by omega)]];exact h
 | j+1,r,hj,hr,f,h1,h2=>by
  by_cases hex:∃ a,r<=a/\a<k/\f a=r
  ·obtain ⟨a,a1,a2,a3⟩:=hex;by_cases BZ:a=r
   ·exact A8_ hG hQ R h j (r+1) (by omega) (by omega) f h1 fun b hb=>by
     by_cases ru:b=r;·rw [ru,<- BZ,a3,BZ]
     ·exact h2 b (by omega)
   ·have:=A8_ hG hQ R h j (r+1) (by omega) (by omega) (fun b=>f (aT r a b)) (fun b hb=>h1 _ (by unfold aT;split;omega;split <;> omega)) fun b hb=>by
     unfold aT;by_cases ru:b=r;·rw [if_pos ru,a3,ru]
     ·rw [if_neg ru,if_neg (by omega)];exact h2 b (by omega)
    have e:=hG.swap (fun b=>R (f b)) r a (by omega) a2;have e2:(fun b=>R (f (aT r a b)))=fun b=>(fun b=>R (f b)) (aT r a b):=rfl;rw [e2,e] at this;have:=hQ.neg this;rw [Rat.neg_neg] at this;exact this
  ·
   obtain ⟨k',rfl⟩:∃ k',k=k'+1:=⟨k-1,by omega⟩;have hne:∀ a,a<=k'->f a≠r:=fun a ha he=>by
    by_cases BZ:a<r;·rw [h2 a BZ] at he;omega
    ·exact hex ⟨a,by omega,by omega,he⟩
   obtain ⟨a,b,q1,q2,q3⟩:=b2_ k' (fun a=>if f a=k' then r else f a) (fun a ha=>by
    have g1:=h1 a (by omega);have g2:=hne a ha
    split <;> omega)
   have ha:=hne a (by omega);have hb:=hne b q2;have pZ:f a=f b:=by
    split at q3 <;> split at q3 <;> omega
   rw [hG.eq (fun a=>R (f a)) a b (by omega) (by omega) (by omega) (by rw [pZ])];exact hQ.zero
theorem lW {n:Nat} {G:(Nat->List Int)->Rat} {Q:Rat->Prop} {R:oe} (hG:jf n R.length G) (hQ:gH Q) (hW:bB n R) (h:Q (G (aD R))) (V:Nat->List Int) (hV:∀ a,a<R.length->Sp n (aK 0 R) (V a)):Q (G V):=by
 refine lV hG hQ (c8 hW) (fun V hV=>?_) R.length (oK _) V hV fun a h1 h2=>by omega
 have hf:∃ f:Nat->Nat,∀ a,a<R.length->f a<R.length/\aD R (f a)=V a:=by
  refine ⟨fun a=>if h:a<R.length then Classical.choose (hV a h) else 0,fun a ha=>?_⟩;simp only [dif_pos ha];exact (Classical.choose_spec (hV a ha)).2
 obtain ⟨f,hf⟩:=hf;rw [hG.ext V (fun a=>aD R (f a)) fun a ha=>(hf a ha).2.symm];exact A8_ hG hQ (aD R) h _ 0 rfl (Nat.zero_le _) f (fun a ha=>(hf a ha).1) fun a ha=>by omega
def eC (N:Nat):Nat->Nat
 | 0=>1
 | k+1=>(k+1)*(N*eC N k)
theorem v9_ {B:Nat} {f:Nat->Rat}:∀ {n:Nat},(∀ i,i<n->∃ z:Int,f i=(z:Rat)/\z.natAbs<=B)->∃ z:Int,aI n f=(z:Rat)/\z.natAbs<=n*B
 | 0,_=>⟨0,rfl,by omega⟩
 | n+1,h=>by
  obtain ⟨z,h1,h2⟩:=v9_ fun i (hi:i<n)=>h i (by omega);obtain ⟨y,h3,h4⟩:=h n (by omega);refine ⟨z+y,?_,?_⟩
  ·show aI n f+f n=_;rw [h1,h3,Rat.intCast_add]
  ·rw [Nat.add_mul];omega
theorem k5_ {N:Nat}:∀ (k:Nat) (m:Nat->Nat->Int),(∀ a b,a<k->b<k->(m a b).natAbs<=N)->∃ z:Int,aL k (fun a b=>(m a b:Rat))=(z:Rat)/\z.natAbs<=eC N k
 | 0,m,h=>⟨1,rfl,by unfold eC;decide⟩
 | k+1,m,h=>by
  unfold eC;refine v9_ (B:=N*eC N k) fun i hi=>?_;obtain ⟨z,h1,h2⟩:=k5_ k (fun a b=>m (sk i a) (b+1)) fun a b ha hb=>h _ _ (by unfold sk;split <;> omega) (by omega);have hb:(m i 0*z).natAbs<=N*eC N k:=by rw [Int.natAbs_mul];exact Nat.mul_le_mul (h i 0 hi (by omega)) h2
  simp only;rw [h1];unfold dG
  split
  ·exact ⟨m i 0*z,by rw [Rat.intCast_mul];grind,hb⟩
  ·exact ⟨-(m i 0*z),by rw [Rat.intCast_neg,Rat.intCast_mul];grind,by rw [Int.natAbs_neg];exact hb⟩
def da (R:oe) (ps:Nat->Nat):Nat->Int
 | 0=>1
 | j+1=>aC R j (ps j)*da R ps j
theorem kD {n:Nat} {R:oe} {ps:Nat->Nat} (hR:bP n R ps):∀ j,j<=R.length->0<da R ps j/\∀ i,i<j->aC R i (ps i)<=da R ps j
 | 0,_=>⟨by unfold da;decide,fun i hi=>by omega⟩
 | j+1,hj=>by
  obtain ⟨h1,h2⟩:=kD hR j (by omega);have hp:=hR.2.pos j (by omega);have e:da R ps (j+1)=aC R j (ps j)*da R ps j:=rfl;have a1:1*da R ps j<=aC R j (ps j)*da R ps j:=Int.mul_le_mul_of_nonneg_right (by omega) (by omega);have a2:aC R j (ps j)*1<=aC R j (ps j)*da R ps j:=Int.mul_le_mul_of_nonneg_left (by omega) (by omega);rw [e];refine ⟨by omega,fun i hi=>?_⟩;by_cases pY:i=j;·rw [pY];omega
  ·have:=h2 i (by omega);omega
theorem kB {n:Nat} {R:oe} {ps:Nat->Nat} (hR:bP n R ps):∀ j,j<=R.length->ak j ps (aD R)=(da R ps j:Rat)
 | 0,_=>rfl
 | j+1,hj=>by
  have ih:=kB hR j (by omega);unfold ak at ih |-;rw [<- dw,T1_,dw,ih]
  ·show _=((aC R j (ps j)*da R ps j:Int):Rat);rw [Rat.intCast_mul];rfl
  ·intro a ha;show (((aD R j).getD (ps a) 0:Int):Rat)=0;have:(aD R j).getD (ps a) 0=0:=hR.2.zero j (by omega) (ps a) (hR.2.mono a j ha (by omega));rw [this];rfl
theorem mq {k:Nat} (M:Nat->Nat->Rat) (hz:∀ a b,b<a->a<k->M a b=0) (hd:∀ a,a<k->M a a≠0) (y:Nat->Rat):∀ j,j<=k->∃ x:Nat->Rat,∀ a,k-j<=a->a<k->y a=aI k fun l=>x l*M a l
 | 0,_=>⟨fun _=>0,fun a h1 h2=>by omega⟩
 | j+1,hj=>by
  obtain ⟨x,hx⟩:=mq M hz hd y j (by omega);obtain ⟨r,hr⟩:=oc (k-(j+1));obtain ⟨q,hq⟩:∃ q,q=(y r-aI k fun l=>if l=r then 0 else x l*M r l) / M r r:=⟨_,rfl⟩;refine ⟨fun l=>if l=r then q else x l,fun a h1 h2=>?_⟩;by_cases BZ:a=r
  ·rw [BZ];have hf:(aI k fun l=>(if l=r then q else x l)*M r l)=aI k fun l=>(if l=r then 0 else x l*M r l)+if l=r then q*M r r else 0:=by
    refine cG fun l _=>?_;by_cases hl:l=r;·rw [if_pos hl,if_pos hl,if_pos hl,hl];grind
    ·rw [if_neg hl,if_neg hl,if_neg hl];grind
   rw [hf,mV,n7 (k:=r) (by omega) (fun i _ hi=>if_neg hi),if_pos rfl,hq];have:=hd r (by omega);rw [Rat.div_mul_cancel this];grind
  ·rw [hx a (by omega) h2];refine cG fun l _=>?_;show x l*M a l=(if l=r then q else x l)*M a l;by_cases hl:l=r;·rw [if_pos hl,hl,hz a r (by omega) h2];grind
   ·rw [if_neg hl]
theorem lj:gH fun x=>x=0:=⟨rfl,fun x y q h h'=>by rw [h,h'];grind⟩
theorem Z1H (d:Rat):gH fun x=>∃ t:Int,x=(t:Rat)*d:=⟨⟨0,by grind⟩,fun x y q ⟨t,h⟩ ⟨u,h'⟩=>⟨t-q*u,by rw [h,h',Rat.intCast_sub,Rat.intCast_mul];grind⟩⟩
theorem Z1f {n:Nat} {m R:oe} {ps:Nat->Nat} (hR:bP n R ps) (hw:bB n m) (hs:bU n (aK 0 m) (aK 0 R)):∃ V:Nat->List Int,(∀ a,a<R.length->aK 0 m (V a))/\ak R.length ps V≠0:=by
 refine Classical.byContradiction fun xG=>?_;have hall:∀ V:Nat->List Int,(∀ a,a<R.length->aK 0 m (V a))->ak R.length ps V=0:=fun V hV=>Classical.byContradiction fun h=>xG ⟨V,hV,h⟩;have h0:ak R.length ps (aD R)=0:=lV (Q:=fun x=>x=0) (gO n R.length ps) lj (c8 hw) hall R.length (oK _) (aD R) (fun a ha=>hs.2 _ (bA (Nat.zero_le _) ha)) fun a h1 h2=>by omega
 rw [kB hR _ (oK _)] at h0;have hp:=(kD hR _ (oK R.length)).1;have:da R ps R.length=0:=by exact_mod_cast h0
 omega
theorem i4_ {n N:Nat} {m R:oe} {ps:Nat->Nat} (hR:bP n R ps) (hN:∀ i,i<m.length->bJ N (aD m i)) (hs1:∀ r,aK 0 m r->Sp n (aK 0 R) r) (hV:∃ V:Nat->List Int,(∀ a,a<R.length->aK 0 m (V a))/\ak R.length ps V≠0) (S:Nat->Nat):∃ z:Int,ak R.length S (aD R)=(z:Rat)/\z.natAbs<=eC N R.length:=by
 obtain ⟨V,hV,hne⟩:=hV;have Iv:∀ a,a<R.length->Sp n (aK 0 R) (V a):=fun a ha=>hs1 _ (hV a ha);have hP:=kB hR _ (oK R.length);have hp:=(kD hR _ (oK R.length)).1;have F8:ak R.length ps (aD R)≠0:=by
  rw [hP];intro h;have:da R ps R.length=0:=by exact_mod_cast h
  omega
 obtain ⟨t,ht⟩:=lW (Q:=fun x=>∃ t:Int,x=(t:Rat)*ak R.length ps (aD R)) (gO n R.length ps) (Z1H _) hR.1 ⟨1,by grind⟩ V Iv;have hc:=lW (Q:=fun x=>x=0) (Z3P (gO n R.length S) (gO n R.length ps) (ak R.length ps (aD R)) (ak R.length S (aD R))) lj hR.1 (by grind) V Iv;rw [ht] at hc;have B5:t≠0:=by
  intro h;rw [h] at ht;exact hne (by rw [ht];grind)
 have qX:ak R.length S V=ak R.length S (aD R)*(t:Rat):=by
  have h1:ak R.length ps (aD R)*(ak R.length S V-ak R.length S (aD R)*(t:Rat))=0:=by grind
  rcases Rat.mul_eq_zero.1 h1 with h | h;·exact absurd h F8
  ·grind
 have hB:∀ (V:Nat->List Int) (N:Nat),(∀ a,a<R.length->bJ N (V a))->∃ z:Int,ak R.length S V=(z:Rat)/\z.natAbs<=eC N R.length:=fun V N h=>k5_ R.length (fun a b=>(V a).getD (S b) 0) fun a b ha _=>(h a ha).getD _;obtain ⟨z',h1,h2⟩:=hB V N fun a ha=>by obtain ⟨i,-,hi,e⟩:=hV a ha;rw [<- e];exact hN i hi
 obtain ⟨M,hM⟩:∃ M,∀ a,a<R.length->bJ M (aD R a):=by
  have:∀ k,∃ M,∀ a,a<k->bJ M (aD R a):=by
   intro k
   induction k with
   | zero=>exact ⟨0,fun a ha=>by omega⟩
   | succ k ih =>
    obtain ⟨M,hM⟩:=ih;obtain ⟨L,hL⟩:∃ L,bJ L (aD R k):=by
     have:∀ r:og,∃ L,bJ L r:=by
      intro r
      induction r with
      | nil=>exact ⟨0,fun x hx=>by cases hx⟩
      | cons x r ih =>
       obtain ⟨L,hL⟩:=ih;refine ⟨L+x.natAbs,fun y hy=>?_⟩;rcases List.mem_cons.1 hy with rfl | hy;·omega
       ·have:=hL y hy;omega
     exact this _
    refine ⟨M+L,fun a ha=>?_⟩;by_cases hk:a=k;·rw [hk];exact hL.mono (by omega)
    ·exact (hM a (by omega)).mono (by omega)
  exact this _
 obtain ⟨z,h3,-⟩:=hB (aD R) M hM;refine ⟨z,h3,?_⟩;rw [h1,h3] at qX;have hz:z'=z*t:=by exact_mod_cast qX
 rw [hz,Int.natAbs_mul] at h2;exact oJ (Nat.le_mul_of_pos_right _ (by omega)) h2
theorem y6_ {n N:Nat} {m R:oe} {ps:Nat->Nat} (hR:bP n R ps) (hN:∀ i,i<m.length->bJ N (aD m i)) (hs1:∀ r,aK 0 m r->Sp n (aK 0 R) r) (hV:∃ V:Nat->List Int,(∀ a,a<R.length->aK 0 m (V a))/\ak R.length ps V≠0):∀ i,i<R.length->bJ (R.length*eC N R.length) (aD R i):=by
 obtain ⟨k,hk⟩:=oc R.length;have hpp:=kD hR _ (oK R.length);have hP:=kB hR _ (oK R.length);rw [<- hk] at hpp hP;have key:∀ i c,i<R.length->(aC R i c).natAbs<=R.length*eC N R.length:=by
  intro i c hi;rw [<- hk] at hi |-
  obtain ⟨x,hx⟩:=mq (k:=k) (bS ps (aD R)) (fun a b pZ ha=>by
   have h:aC R a (ps b)=0:=hR.2.zero a (by omega) (ps b) (hR.2.mono b a pZ (by omega));show ((aC R a (ps b):Int):Rat)=0
   rw [h];rfl) (fun a ha h=>by
   have h1:((aC R a (ps a):Int):Rat)=0:=h;have h2:aC R a (ps a)=0:=by exact_mod_cast h1
   have:=hR.2.pos a (by omega);omega) (fun a=>((aC R a c:Int):Rat)) k (oK _)
  have sJ:∀ r,r<k->ak k (fun b=>if b=r then c else ps b) (aD R)=x r*(da R ps k:Rat):=by
   intro r hr;rw [<- hP];have e1:ak k (fun b=>if b=r then c else ps b) (aD R)=aL k (fun a b=>if b=r then (0:Rat)+aI k (fun l=>x l*bS ps (aD R) a l) else bS ps (aD R) a b):=by
    unfold ak;refine cA fun a b ha hb=>?_;by_cases ru:b=r
    ·rw [if_pos ru,<- hx a (by omega) ha];show (((aD R a).getD (if b=r then c else ps b) 0:Int):Rat)=_;rw [if_pos ru];show ((aC R a c:Int):Rat)=_;grind
    ·rw [if_neg ru];show (((aD R a).getD (if b=r then c else ps b) 0:Int):Rat)=_;rw [if_neg ru];rfl
   rw [e1,nE (bS ps (aD R)) hr (fun _=>0) k x (fun l a=>bS ps (aD R) a l)];have e2:aL k (fun a b=>if b=r then (0:Rat) else bS ps (aD R) a b)=0:=by
    rw [<- dw];exact iM (r:=r) hr fun b _=>if_pos rfl
   rw [e2,n7 (k:=r) hr fun l hl hne=>?_]
   ·have e3:aL k (fun a b=>if b=r then bS ps (aD R) a r else bS ps (aD R) a b)=ak k ps (aD R):=by
     unfold ak;refine cA fun a b _ _=>?_;by_cases ru:b=r;·rw [if_pos ru,ru]
     ·rw [if_neg ru]
    rw [e3];grind
   ·have e4:aL k (fun a b=>if b=r then bS ps (aD R) a l else bS ps (aD R) a b)=0 :=
     nD hr hl (fun h=>hne h.symm) fun b _=>by rw [if_pos rfl,if_neg hne]
    rw [e4];grind
  have hsum:((da R ps k:Int):Rat)*((aC R i c:Int):Rat)=aI k fun l=>ak k (fun b=>if b=l then c else ps b) (aD R)*bS ps (aD R) i l:=by
   have EN:((aC R i c:Int):Rat)=aI k fun l=>x l*bS ps (aD R) i l:=hx i (by omega) hi;rw [EN,<- ia];refine cG fun l hl=>?_;rw [sJ l hl];grind
  obtain ⟨z,hz1,hz2⟩:=v9_ (n:=k) (B:=eC N k*(da R ps k).natAbs) (f:=fun l=>ak k (fun b=>if b=l then c else ps b) (aD R)*bS ps (aD R) i l) fun l hl=>by
   obtain ⟨y,tA,qz⟩:=i4_ hR hN hs1 hV (fun b=>if b=l then c else ps b);rw [<- hk] at tA qz;refine ⟨y*aC R i (ps l),?_,?_⟩;·rw [tA,Rat.intCast_mul];rfl
   ·rw [Int.natAbs_mul];refine Nat.mul_le_mul qz ?_;have h5:=hpp.2 l hl;have h6:=hR.2.pos l (by omega);have h7:(aC R i (ps l)).natAbs<=(aC R l (ps l)).natAbs:=by
     rcases Nat.lt_trichotomy i l with h | h | h;·have:=hR.2.red i l h (by omega);omega
     ·rw [h];exact oK _
     ·rw [hR.2.zero i (by omega) (ps l) (hR.2.mono l i h (by omega))];simp
    omega
  rw [hz1] at hsum;have he:da R ps k*aC R i c=z:=by exact_mod_cast hsum
  rw [<- he,Int.natAbs_mul,<- Nat.mul_assoc,Nat.mul_comm] at hz2;exact Nat.le_of_mul_le_mul_right hz2 (by omega)
 intro i hi y hy;obtain ⟨c,hc⟩:=List.getElem?_of_mem hy;have:=key i c hi;unfold aC at this;rw [oD,hc] at this;exact this
theorem D6_ {n N:Nat} {m R:oe} {ps:Nat->Nat} (hR:bP n R ps) (hw:bB n m) (hN:∀ i,i<m.length->bJ N (aD m i)) (hs:bU n (aK 0 m) (aK 0 R)):∀ i,i<R.length->bJ (R.length*eC N R.length) (aD R i) :=
 y6_ hR hN hs.1 (Z1f hR hw hs)
def ma (w:World) (v:Value) (n:Int) (xss:oe):Prop:=∃ u,v=.agg #[.int .i64 n,u]/\bN w u xss
theorem ma.ext {w w':World} {v:Value} {n:Int} {xss:oe} (h:ma w v n xss) (he:aA w w'):ma w' v n xss:=by
 obtain ⟨u,h1,h2⟩:=h;exact ⟨u,h1,h2.ext he⟩
def iK (n:Int) (xss:oe):Int:=if dy n xss=0 then (if fk xss=true then 0 else 7) else dy n xss
theorem u4_ {n:Int}:∀ {xss:oe},ei n xss=0->∀ r∈xss,k_ r/\(r.length:Int)=n
 | [],_,r,h=>by simp at h
 | x::l,h,r,hr=>by
  unfold ei at h;by_cases hx:e_ x=0
  ·rw [if_pos hx] at h;by_cases hn:(x.length:Int)=n
   ·rw [if_pos hn] at h;rcases List.mem_cons.1 hr with rfl | hr;·exact ⟨(H9_ _).1 hx,hn⟩
    ·exact u4_ h r hr
   ·rw [if_neg hn] at h;cases h
  ·rw [if_neg hx] at h;exact absurd h hx
theorem nU {n:Int} {xss:oe} (h:dy n xss=0):0<=n/\n<=12/\xss.length<=12/\∀ r∈xss,k_ r/\(r.length:Int)=n:=by
 unfold dy at h;by_cases h1:n<0\/12<n;·rw [if_pos h1] at h;cases h
 ·rw [if_neg h1] at h;by_cases h2:12<xss.length;·rw [if_pos h2] at h;cases h
  ·rw [if_neg h2] at h;exact ⟨by omega,by omega,by omega,u4_ h⟩
theorem A5_ {n:Nat} (hn:n<=12):∀ {xss:oe},(∀ r∈xss,k_ r/\r.length=n)->ib n xss=0
 | [],_=>rfl
 | x::l,h=>by
  have hx:=h x (by simp);unfold ib;rw [if_neg (by omega),if_pos hx.2];have:¬ (x.any fun y=>!cW y)=true:=by
   have h0:=(H9_ x).2 hx.1;unfold e_ at h0;intro hq;rw [if_neg (by have:=hx.2;omega),if_pos hq] at h0;cases h0
  rw [if_neg this];exact A5_ hn fun r hr=>h r (by simp [hr])
theorem Z1m {n:Int} {xss:oe} (h:dy n xss=0):cK xss=0:=by
 obtain ⟨h0,h1,h2,h3⟩:=nU h;unfold cK;rw [if_neg (by omega)];cases xss with
 | nil=>rfl
 | cons x l =>
  have hx:=(h3 x (by simp)).2;exact A5_ (n:=x.length) (by omega) fun r hr=>⟨(h3 r hr).1,by have:=(h3 r hr).2;omega⟩
theorem j2_ (xss:oe) (v:Value) (n:Nat) (w:World) (h:bN w v xss) (hE:cK xss=0) (hn:∀ r∈xss,r.length=n) :
  oX 39 #[v] w (.tuple #[.bool (fk xss),.int .i64 0]):=by
 have HT:=oA (W4_ xss v w h);rw [hE] at HT;have HF:=oA (fun W (hW:aA w W)=>Z0E xss v n W (h.ext hW) hn);obtain ⟨a,c,rfl,h1,h2,-,hc⟩:=bc.open h;clear h hE hn hc
 go_enter func39,ntmps39
 go_wp2_with fail;refine o_ HT ?_;intro w1 HE1;clear HT;go_wp2_with fail;refine p_ (HF _ HE1) (aA.trans HE1) ?_;intro w2 HE2;clear HF;go_wp2_with fail;go_ret2;exact ⟨rfl,HE2⟩
theorem Z0H (n:Int) (xss:oe) (v:Value) (w:World) (h:ma w v n xss) :
  oX 103 #[v] w (.int .i64 (iK n xss)):=by
 obtain ⟨u,rfl,hu⟩:=h;have HC:=oA (fun W (hW:aA w W)=>N5_ xss n u W (hu.ext hW));have HU:=oA hu;obtain ⟨a,c,rfl,h1,h2,-,hc⟩:=bc.open hu;clear hu hc;have k0:(w.alloc (.cells #[.int .i64 n,.slice a xss.length c] 85)).cell? ⟨w.heap.size,0,none⟩=some (.int .i64 n):=by rw [World.cell?_alloc_new];rfl
 have k1:(w.alloc (.cells #[.int .i64 n,.slice a xss.length c] 85)).cell? ⟨w.heap.size,1,none⟩=some (.slice a xss.length c):=by rw [World.cell?_alloc_new];rfl
 by_cases hl:dy n xss=0
 ·have HFo:=oA (fun W (hW:aA w W)=>j2_ xss _ n.toNat W (HU.ext hW) (Z1m hl) (fun r hr=>by have h1:=((nU hl).2.2.2 r hr).2;have h2:=(nU hl).1;omega));have HV:Hid (iK n xss=if fk xss=true then 0 else 7):=by unfold Hid iK;rw [if_pos hl]
  rw [hl] at HC;obtain ⟨E,hE⟩:=oZ (iK n xss);rw [hE] at HV |-;clear hl HU hE
  go_enter func103,ntmps103
  go_wp2_with fail;refine (HC _ (aA.alloc _ _)).mono ?_;rintro e w1 ⟨rfl,hE1⟩;have g1:=hE1.cell k1;have HE1:=oA (aA.trans (aA.alloc _ _) hE1);clear hE1 HC k0 k1;cases hb:fk xss with
  | true =>
   have HV2:Hid (E=0):=(by rw [hb] at HV;exact HV);rw [hb] at HFo;go_wp2_with fail;refine p_ (HFo _ HE1) (aA.trans HE1) ?_;intro w2 HE2;clear HFo hb;go_wp2_with fail;go_ret;exact ⟨by rw [HV2.out];rfl,HE2⟩
  | false =>
   have HV2:Hid (E=7):=(by rw [hb] at HV;exact HV);rw [hb] at HFo;go_wp2_with fail;refine p_ (HFo _ HE1) (aA.trans HE1) ?_;intro w2 HE2;clear HFo hb;go_wp2_with fail;go_ret;exact ⟨by rw [HV2.out];rfl,HE2⟩
 ·have HV:Hid (iK n xss=dy n xss):=by unfold Hid iK;rw [if_neg hl]
  rw [HV.out];clear HV HU;obtain ⟨E,hE⟩:=oZ (dy n xss);rw [hE] at HC hl |-;clear hE
  go_enter func103,ntmps103
  go_wp2_with fail;refine p_ (HC _ (aA.alloc _ _)) (aA.trans (aA.alloc _ _)) ?_;intro w1 HE1;clear HC k0 k1;go_wp2_with fail;go_ret;exact ⟨rfl,HE1⟩
theorem mO {m:oe} {i:Nat} (hi:i<m.length):aD m i∈m:=oE (eE hi)
theorem mC {m:oe} {x:og} (hx:x∈m):∃ i,i<m.length/\aD m i=x:=by
 obtain ⟨i,hi⟩:=List.getElem?_of_mem hx;exact ⟨i,(oC.1 hi).1,d_ hi⟩
theorem Z4n {r:og} (hl:r.length<=64) (h:bJ 1000000000 r):k_ r:=⟨hl,fun x hx=>by have:=h x hx;omega⟩
theorem Z1w {n:Nat}:∀ {R:oe},(∀ r∈R,k_ r/\r.length=n)->ei n R=0
 | [],_=>rfl
 | r::l,h=>by
  have hr:=h r (by simp);unfold ei;rw [if_pos ((H9_ r).2 hr.1),if_pos (by omega)];exact Z1w fun x hx=>h x (by simp [hx])
theorem O3_:∀ (k:Nat) (f:Nat->Rat),(∀ i,i<k->f i=0)->aI k f=0
 | 0,_,_=>rfl
 | k+1,f,h=>by
  show aI k f+f k=0;rw [O3_ k f fun i hi=>h i (by omega),h k (by omega)];grind
theorem fo (n c:Nat):(List.replicate n (0:Int)).getD c 0=0:=by
 rw [oD];by_cases hc:c<n;·rw [oB (by simpa using hc)];simp
 ·rw [oL (by simp;omega)];rfl
end Go.Proofs.YtjlkkofmojgipaaGreatDoor
