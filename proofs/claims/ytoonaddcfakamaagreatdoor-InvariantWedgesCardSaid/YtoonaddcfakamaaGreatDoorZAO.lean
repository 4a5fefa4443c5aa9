import Derived.Test.YtoonaddcfakamaaGreatDoorZAM
import Derived.Test.YtoonaddcfakamaaGreatDoorZAG
import Derived.Test.YtoonaddcfakamaaGreatDoorZAK
import Derived.Test.YtoonaddcfakamaaGreatDoorZAE
import Derived.Test.YtoonaddcfakamaaGreatDoorZAL
import Derived.Test.YtoonaddcfakamaaGreatDoorZAB
import Derived.Test.YtoonaddcfakamaaGreatDoorZAA
import Derived.WalkSmall
import Derived.IntWalk
import Derived.OwnWalk
import Derived.Lib.ConvBytes
import Derived.Laws.AppendOwnNone
import Derived.Deep.Cut
import Derived.Test.YtoonaddcfakamaaGreatDoorZAH
import Derived.Test.YtoonaddcfakamaaGreatDoorZAN
import Derived.Test.YtoonaddcfakamaaGreatDoorZAF
set_option linter.unusedVariables false
set_option linter.unusedSimpArgs false
set_option maxRecDepth 1000000
set_option maxHeartbeats 4000000
namespace Go.Proofs.YtoonaddcfakamaaGreatDoor
open Go.RowKit Go.Proofs.Tryz
theorem Z09 {m:List (List Rat)} {k:Nat} (r:List Rat) (hk:k<m.length) (i:Nat):cE (m.set k r) i=if i=k then r else cE m i:=by
 unfold cE;rw [oe,pH];by_cases h:i=k;·subst h;rw [if_pos rfl,if_pos rfl,if_pos hk];rfl
 ·rw [if_neg (by omega),if_neg h,oe]
theorem p5_ (r:List Rat) (q:Rat) (x:Nat):(dW r q).getD x 0=r.getD x 0 / q:=by
 unfold dW;rw [oe,oe,oh];cases r[x]? with
 | none=>show (0:Rat)=0 / q;rw [Rat.div_def,Rat.zero_mul]
 | some y=>rfl
theorem Z3R {r s:List Rat} (f:Rat) (h:s.length=r.length) (x:Nat):(gI r s f).getD x 0=r.getD x 0-f*s.getD x 0:=by
 unfold gI;rw [oe,oe,oe,List.getElem?_zipWith];by_cases hx:x<r.length;·rw [oc hx,oc (by omega:x<s.length)];rfl
 ·rw [o4 (by omega:r.length<=x),o4 (by omega:s.length<=x)];show (0:Rat)=0-f*0;grind
theorem Z4t {p:List Rat} {c k i:Nat} {r:List Rat} (h:p.length=r.length) (x:Nat):(ib p c k i r).getD x 0=if i=k then r.getD x 0 else r.getD x 0-r.getD c 0*p.getD x 0:=by
 unfold ib;by_cases hi:i=k;·rw [if_pos (.inl hi),if_pos hi]
 ·rw [if_neg hi];by_cases h0:r.getD c 0=0;·rw [if_pos (.inr h0),h0];grind
  ·rw [if_neg (by simp [hi];exact h0),Z3R _ h]
theorem p8_ {C:Nat} {m:List (List Rat)} {p:List Rat} {c k:Nat} (hR:b_ C m) (hp:p.length=C) (x:Nat) :
  ∀ j,j<=m.length->∀ i,aJ (di m p c k j) i x=if i<j/\i≠k then aJ m i x-aJ m i c*p.getD x 0 else aJ m i x
 | 0,_,i=>by rw [if_neg (by omega)];rfl
 | j+1,hj,i=>by
  have ih:=p8_ (c:=c) (k:=k) hR hp x j (by omega) i;show aJ ((di m p c k j).set j (ib p c k j (cE (di m p c k j) j))) i x=_;have hrow:cE (di m p c k j) j=cE m j:=by
   unfold cE;rw [oe,V5_ m p c k j j (oz _),<- oe]
  have hl:p.length=(cE m j).length:=by rw [hp];exact (hR.get (iI (by omega))).symm
  unfold aJ at ih |-;rw [Z09 _ (by rw [kT];omega),hrow];by_cases e:i=j
  ·subst e;rw [if_pos rfl,Z4t hl];by_cases h:i=k;·rw [if_pos h,if_neg (by simp [h])]
   ·rw [if_neg h,if_pos ⟨by omega,h⟩]
  ·rw [if_neg e,ih];by_cases h:i<j/\i≠k;·rw [if_pos h,if_pos ⟨by omega,h.2⟩]
   ·rw [if_neg h,if_neg (by rintro ⟨h1,h2⟩;exact h ⟨by omega,h2⟩)]
theorem s5_ (r i:Nat):bG r r i=i:=by unfold bG;repeat' split <;> try omega
theorem Z5k {C c:Nat} {s:fI} (hR:b_ C s.m) (hk:s.lead.length<=s.m.length) :
  (cF c s=⟨s.m,s.lead,0⟩/\∀ i,s.lead.length<=i->aJ s.m i c=0) \/
  ∃ a,s.lead.length<=a/\a<s.m.length/\aJ s.m a c≠0/\(∀ j,s.lead.length<=j->j<a->aJ s.m j c=0) /\
   (cF c s).lead=s.lead++[c]/\(cF c s).m.length=s.m.length/\(cF c s).det=(if a=s.lead.length then s.det else -s.det)*aJ s.m a c /\
   ∀ i j,aJ (cF c s).m i j=if i=s.lead.length then aJ s.m a j / aJ s.m a c else aJ s.m (bG s.lead.length a i) j-aJ s.m (bG s.lead.length a i) c*(aJ s.m a j / aJ s.m a c):=by
 obtain ⟨h1,h2,h3,h4⟩:=B0_ s.m c (s.m.length-s.lead.length) s.lead.length;unfold cF;simp only;generalize ha:fR s.m c (s.m.length-s.lead.length) s.lead.length=a at *
 by_cases e:a=s.m.length
 ·refine .inl ⟨by rw [if_pos e],fun i hi=>?_⟩;by_cases hl:i<s.m.length;·exact h3 i hi (by omega)
  ·exact w9_ (by omega)
 ·rw [if_neg e];have qV:a<s.m.length:=by omega
  have hne:=h4 (by omega);refine .inr ⟨a,h1,qV,hne,h3,rfl,?_⟩;have qp:∀ i j,aJ (if a=s.lead.length then s.m else b8 s.m s.lead.length a) i j=aJ s.m (bG s.lead.length a i) j:=by
   intro i j;by_cases hr:a=s.lead.length;·rw [if_pos hr,hr,s5_]
   ·rw [if_neg hr,h1_ (by omega) qV];congr 1;unfold bG;repeat' split <;> try omega
  have r7:b_ C (if a=s.lead.length then s.m else b8 s.m s.lead.length a):=by
   split
   ·exact hR
   ·exact hR.swp _ _
  have wM:(if a=s.lead.length then s.m else b8 s.m s.lead.length a).length=s.m.length:=by
   split
   ·rfl
   ·exact nB _ _ _
  generalize (if a=s.lead.length then s.m else b8 s.m s.lead.length a)=m1 at *
  have ht:bG s.lead.length a s.lead.length=a:=by unfold bG;rw [if_pos rfl]
  have hf:aJ m1 s.lead.length c=aJ s.m a c:=by rw [qp,ht]
  rw [hf];have hrl:=r7.get (iI (m:=m1) (i:=s.lead.length) (by omega));have hdl:(dW (cE m1 s.lead.length) (aJ s.m a c)).length=C:=by rw [V4_,hrl]
  have hR2:=r7.set s.lead.length hdl;refine ⟨by rw [kT,List.length_set,wM],rfl,fun i j=>?_⟩;rw [p8_ hR2 hdl j _ (oz _) i];have vV:∀ i j,aJ (m1.set s.lead.length (dW (cE m1 s.lead.length) (aJ s.m a c))) i j=if i=s.lead.length then aJ s.m a j / aJ s.m a c else aJ s.m (bG s.lead.length a i) j:=by
   intro i j;unfold aJ at qp |-;rw [Z09 _ (by omega)];by_cases hi:i=s.lead.length;·rw [if_pos hi,if_pos hi,p5_,qp,ht]
   ·rw [if_neg hi,if_neg hi,qp]
  have Ds:(dW (cE m1 s.lead.length) (aJ s.m a c)).getD j 0=aJ s.m a j / aJ s.m a c:=by
   rw [p5_];show aJ m1 s.lead.length j / _=_;rw [qp,ht]
  rw [Ds,vV,vV,List.length_set,wM];by_cases hi:i=s.lead.length;·rw [if_pos hi,if_neg (by rintro ⟨-,h⟩;exact h hi),if_pos hi]
  ·rw [if_neg hi,if_neg hi,if_neg hi];by_cases hil:i<s.m.length;·rw [if_pos ⟨hil,hi⟩]
   ·rw [if_neg (by rintro ⟨h,-⟩;exact hil h)];have:bG s.lead.length a i=i:=(by unfold bG;rw [if_neg hi,if_neg (by omega)]);rw [this,w9_ (by omega:s.m.length<=i),w9_ (by omega:s.m.length<=i)];grind
structure iF (R:Nat) (f:(Nat->Nat->Rat)->Rat):Prop where
 congr:∀ M N:Nat->Nat->Rat,(∀ a b,a<R->M a b=N a b)->f M=f N
 swap:∀ (M:Nat->Nat->Rat) i j,i<j->j<R->f (fun a b=>M (bG i j a) b)=- f M
 scale:∀ (M:Nat->Nat->Rat) r c,r<R->f (cD M r fun b=>c*M r b)=c*f M
 add:∀ (M:Nat->Nat->Rat) r s c,r<R->s<R->r≠s->f (cD M r fun b=>M r b+c*M s b)=f M
theorem iF.zero {R:Nat} {f:(Nat->Nat->Rat)->Rat} (h:iF R f) {M:Nat->Nat->Rat} {r:Nat} (hr:r<R) (h0:∀ b,M r b=0):f M=0:=by
 have h1:=h.scale M r 0 hr;have:cD M r (fun b=>0*M r b)=M:=by
  funext a b;unfold cD;split;·rename_i e;rw [e,h0 b];grind
  ·rfl
 rw [this] at h1;rw [h1];grind
theorem iF.elim {R:Nat} {f:(Nat->Nat->Rat)->Rat} (h:iF R f) (M:Nat->Nat->Rat) {r:Nat} (hr:r<R) (g:Nat->Rat) :
  ∀ t,t<=R->f (fun a b=>if a<t/\a≠r then M a b+g a*M r b else M a b)=f M
 | 0,_=>by
  congr 1
 | t+1,ht=>by
  by_cases e:t=r
  ·rw [<- iF.elim h M hr g t (by omega)];congr 1;funext a b;have:(a<t+1/\a≠r)=(a<t/\a≠r):=propext ⟨fun h=>⟨by omega,h.2⟩,fun h=>⟨by omega,h.2⟩⟩;simp only [this]
  ·rw [<- iF.elim h M hr g t (by omega)];rw [<- h.add (fun a b=>if a<t/\a≠r then M a b+g a*M r b else M a b) t r (g t) (by omega) hr e];congr 1;funext a b;by_cases ha:a=t
   ·subst ha;simp [cD,e]
   ·have:(a<t+1/\a≠r)=(a<t/\a≠r):=propext ⟨fun h=>⟨by omega,h.2⟩,fun h=>⟨by omega,h.2⟩⟩;simp only [cD,ha,if_false,this]
theorem iF.pivot {R:Nat} {f:(Nat->Nat->Rat)->Rat} (h:iF R f) {M N:Nat->Nat->Rat} {r a c:Nat} (hr:r<=a) (ha:a<R) (hne:M a c≠0)
  (hN:∀ i j,N i j=if i=r then M a j / M a c else M (bG r a i) j-M (bG r a i) c*(M a j / M a c)):f M=(if a=r then 1 else -1)*M a c*f N:=by
 obtain ⟨q,hq⟩:=pL (M a c);have ht:bG r a r=a:=by unfold bG;rw [if_pos rfl]
 obtain ⟨M1,wL⟩:∃ M1:Nat->Nat->Rat,M1=fun i j=>M (bG r a i) j:=⟨_,rfl⟩;obtain ⟨M2,rk⟩:∃ M2:Nat->Nat->Rat,M2=cD M1 r fun b=>q⁻¹*M1 r b:=⟨_,rfl⟩;have h1:f M=(if a=r then 1 else -1)*f M1:=by
  by_cases e:a=r
  ·subst e;rw [if_pos rfl,wL];have:(fun i j=>M (bG a a i) j)=M:=(by funext i j;rw [s5_]);rw [this];grind
  ·rw [if_neg e,wL,h.swap M r a (by omega) ha];grind
 have h2:f M2=q⁻¹*f M1:=by rw [rk];exact h.scale _ _ _ (by omega)
 have h3:=h.elim M2 (r:=r) (by omega) (fun i=>- M2 i c) R (oz _);have h4:f N=f M2:=by
  rw [<- h3];refine h.congr _ _ fun i j hi=>?_;have e2:∀ j,M2 r j=M a j / q:=fun j=>by rw [rk];unfold cD;rw [if_pos rfl,wL];show q⁻¹*M (bG r a r) j=_;rw [ht,Rat.div_def];grind
  rw [hN];by_cases e:i=r
  ·subst e;rw [if_pos rfl,if_neg (by rintro ⟨-,h⟩;exact h rfl),e2,hq]
  ·have e3:∀ j,M2 i j=M (bG r a i) j:=fun j=>by rw [rk];unfold cD;rw [if_neg e,wL]
   rw [if_neg e,if_pos ⟨hi,e⟩,e3,e3,e2,hq];grind
 rw [h4,h2,h1,<- hq];have:q*q⁻¹=1:=Rat.mul_inv_cancel q (by rw [hq];exact hne);grind
def bV (l:List Nat) (j:Nat):Nat:=l.getD j 0
theorem Z4O {l:List Nat} {c j:Nat} (h:j<l.length):bV (l++[c]) j=bV l j:=by
 unfold bV;rw [oe,o6 h,<- oe]
theorem Z4N (l:List Nat) (c:Nat):bV (l++[c]) l.length=c:=by
 unfold bV;rw [oe];simp
structure j9 (R:Nat) (A:Nat->Nat->Rat) (c:Nat) (s:fI) (ρ:Nat->Nat) (sg x:Rat):Prop where
 len:s.m.length=R
 rle:s.lead.length<=R
 rlc:s.lead.length<=c
 klt:∀ l,l<s.lead.length->bV s.lead l<c
 full:s.lead.length=c->∀ l,l<c->bV s.lead l=l
 unit:∀ i l,l<s.lead.length->aJ s.m i (bV s.lead l)=if i=l then 1 else 0
 zero:∀ i j,s.lead.length<=i->j<c->aJ s.m i j=0
 rho:∀ i,i<R->ρ i<R
 sur:∀ i,i<R->∃ i',i'<R/\ρ i'=i
 span:∀ i j,i<R->A (ρ i) j=(if i<s.lead.length then 0 else aJ s.m i j)+aI s.lead.length fun l=>aJ s.m l j*A (ρ i) (bV s.lead l)
 dne:aK s.lead.length (fun a b=>A (ρ a) (bV s.lead b))≠0
 form:∀ f,iF R f->f A=x*f (aJ s.m)
 det:s.det=if s.lead.length=c then x else 0
 sgn:sg=1\/sg=-1
 sgf:∀ f,iF R f->f (fun a b=>A (ρ a) b)=sg*f A
 xD:x=sg*aK s.lead.length fun a b=>A (ρ a) (bV s.lead b)
theorem j9.big {R:Nat} {A:Nat->Nat->Rat} {c:Nat} {s:fI} {ρ:Nat->Nat} {sg x:Rat} (h:j9 R A c s ρ sg x) {i j:Nat} (hi:s.lead.length<=i) (LQ:i<R) :
  aK (s.lead.length+1) (fun a b=>A (if a<s.lead.length then ρ a else ρ i) (if b<s.lead.length then bV s.lead b else j))=aJ s.m i j*aK s.lead.length fun a b=>A (ρ a) (bV s.lead b):=by
 generalize hr:s.lead.length=r at *
 have e:aK (r+1) (fun a b=>A (if a<r then ρ a else ρ i) (if b<r then bV s.lead b else j))=aK (r+1) (fun a b=>if b=r then (if a<r then 0 else aJ s.m i j)+aI r (fun l=>aJ s.m l j*A (if a<r then ρ a else ρ i) (bV s.lead l)) else A (if a<r then ρ a else ρ i) (bV s.lead b)):=by
  refine cZ fun a b ha hb=>?_;by_cases e:b=r
  ·subst e;rw [if_neg (Nat.lt_irrefl b),if_pos rfl];by_cases e2:a<b
   ·rw [if_pos e2,if_pos e2];have:=h.span a j (by have:=h.rle;omega);rw [hr,if_pos e2] at this;exact this
   ·rw [if_neg e2,if_neg e2];have:=h.span i j LQ;rw [hr,if_neg (by omega)] at this;exact this
  ·rw [if_pos (show b<r by omega),if_neg e]
 rw [e,nh _ (by omega)];have h0:aI r (fun l=>aJ s.m l j*aK (r+1) (fun a b=>if b=r then A (if a<r then ρ a else ρ i) (bV s.lead l) else A (if a<r then ρ a else ρ i) (bV s.lead b)))=0:=by
  rw [<- S5_ r];refine cw fun l hl=>?_;rw [mQ (i:=l) (j:=r) (by omega) (by omega) (by omega) (fun b hb=>by rw [if_neg (by omega),if_pos rfl])];grind
 rw [h0,J9_ (fun a ha=>by rw [if_pos rfl,if_pos ha])];rw [if_pos rfl,if_neg (by omega)];have:aK r (fun a b=>if b=r then (if a<r then 0 else aJ s.m i j) else A (if a<r then ρ a else ρ i) (bV s.lead b))=aK r fun a b=>A (ρ a) (bV s.lead b):=cZ fun a b ha hb=>by rw [if_neg (by omega),if_pos ha]
 rw [this];grind
theorem j9.small {R:Nat} {A:Nat->Nat->Rat} {c:Nat} {s:fI} {ρ:Nat->Nat} {sg x:Rat} (h:j9 R A c s ρ sg x) {i j:Nat} (hi:i<s.lead.length) :
  aK s.lead.length (fun a b=>A (ρ a) (if b=i then j else bV s.lead b))=aJ s.m i j*aK s.lead.length fun a b=>A (ρ a) (bV s.lead b):=by
 generalize hr:s.lead.length=r at *
 have e:aK r (fun a b=>A (ρ a) (if b=i then j else bV s.lead b))=aK r (fun a b=>if b=i then (0:Rat)+aI r (fun l=>aJ s.m l j*A (ρ a) (bV s.lead l)) else A (ρ a) (bV s.lead b)):=by
  refine cZ fun a b ha hb=>?_;by_cases e:b=i
  ·rw [if_pos e,if_pos e];have:=h.span a j (by have:=h.rle;omega);rw [hr,if_pos ha] at this;exact this
  ·rw [if_neg e,if_neg e]
 rw [e,nh _ hi (fun _=>0)];have h0:aK r (fun a b=>if b=i then (0:Rat) else A (ρ a) (bV s.lead b))=0:=by
  rw [<- eh];exact ia hi (fun b hb=>by rw [if_pos rfl])
 rw [h0,oV hi (fun l hl hne=>by
  rw [mQ (i:=l) (j:=i) hl hi hne (fun b hb=>by rw [if_neg hne,if_pos rfl])];grind)]
 have:aK r (fun a b=>if b=i then A (ρ a) (bV s.lead i) else A (ρ a) (bV s.lead b))=aK r fun a b=>A (ρ a) (bV s.lead b):=cZ fun a b ha hb=>by
  split
  ·rename_i e;rw [e]
  ·rfl
 rw [this];grind
theorem Z3u {C:Nat} (m:List (List Rat)) (hR:b_ C m):j9 m.length (aJ m) 0 (aq m 0) (fun i=>i) 1 1 where
 len:=rfl
 rle:=Nat.zero_le _
 rlc:=oz _
 klt:=fun l hl=>by exact absurd hl (by show ¬ l<0;omega)
 full:=fun _ l hl=>by omega
 unit:=fun i l hl=>by exact absurd hl (by show ¬ l<0;omega)
 zero:=fun i j _ hj=>by omega
 rho:=fun i hi=>hi
 sur:=fun i hi=>⟨i,hi,rfl⟩
 span:=fun i j hi=>by
  show aJ m i j=(if i<0 then 0 else aJ m i j)+(0:Rat);rw [if_neg (by omega)];grind
 dne:=by show (1:Rat)≠0;decide
 form:=fun f hf=>by show f (aJ m)=1*f (aJ m);grind
 det:=rfl
 sgn:=.inl rfl
 sgf:=fun f hf=>by grind
 xD:=by show (1:Rat)=1*1;grind
theorem Z3t {C c:Nat} {R:Nat} {A:Nat->Nat->Rat} {s:fI} {ρ:Nat->Nat} {sg x:Rat} (h:j9 R A c s ρ sg x) (hR:b_ C s.m) :
  ∃ ρ' sg' x',j9 R A (c+1) (cF c s) ρ' sg' x':=by
 rcases Z5k (c:=c) hR (by rw [h.len];exact h.rle) with ⟨e,hz⟩ | ⟨a,wK,ha2,hne,Fm,sb,hlen,Fu,vV⟩
 ·rw [e];refine ⟨ρ,sg,x,h.len,h.rle,Nat.le_succ_of_le h.rlc,fun l hl=>Nat.lt_succ_of_lt (h.klt l hl),fun hc=>?_,h.unit,fun i j hi hj=>?_,h.rho,h.sur,h.span,h.dne,h.form,?_,h.sgn,h.sgf,h.xD⟩
  ·have:=h.rlc;have sn:s.lead.length=c+1:=hc;omega
  ·by_cases e:j=c;·rw [e];exact hz i hi
   ·exact h.zero i j hi (by omega)
  ·show (0:Rat)=if s.lead.length=c+1 then x else 0
   rw [if_neg (by have:=h.rlc;omega)]
 ·rw [h.len] at ha2;have hL:(cF c s).lead.length=s.lead.length+1:=by rw [sb];simp
  have tu:∀ l,l<s.lead.length->bV (cF c s).lead l=bV s.lead l:=fun l hl=>by rw [sb];exact Z4O hl
  have se:bV (cF c s).lead s.lead.length=c:=by rw [sb];exact Z4N _ _
  have hbig:=h.big (i:=a) (j:=c) wK ha2;generalize hr:s.lead.length=r at *
  have Ei:bG r a r=a:=by unfold bG;rw [if_pos rfl]
  have yQ:∀ i,i<r->bG r a i=i:=fun i hi=>by unfold bG;rw [if_neg (by omega),if_neg (by omega)]
  have IU:∀ i,r<=i->r<=bG r a i:=fun i hi=>by unfold bG;repeat' split <;> try omega
  have Dp:∀ i,i<R->bG r a i<R:=fun i hi=>by unfold bG;repeat' split <;> try omega
  have zy:∀ i,bG r a (bG r a i)=i:=fun i=>by unfold bG;repeat' split <;> try omega
  have hdiv:aJ s.m a c / aJ s.m a c=1:=by rw [Rat.div_def];exact Rat.mul_inv_cancel _ hne
  have wZ:∀ l,l<r->aJ s.m a (bV s.lead l)=0:=fun l hl=>by rw [h.unit a l (by omega),if_neg (by omega)]
  have zI:∀ i l,l<r+1->aJ (cF c s).m i (bV (cF c s).lead l)=if i=l then 1 else 0:=by
   intro i l hl;by_cases e:l=r
   ·subst e;rw [se,vV];by_cases e2:i=l;·rw [if_pos e2,if_pos e2,hdiv]
    ·rw [if_neg e2,if_neg e2,hdiv];grind
   ·rw [tu l (by omega),vV,wZ l (by omega)];by_cases e2:i=r;·rw [if_pos e2,if_neg (by omega),Rat.div_def,Rat.zero_mul]
    ·rw [if_neg e2,h.unit _ l (by omega),Rat.div_def,Rat.zero_mul];by_cases e3:i=l;·rw [if_pos e3,if_pos (by rw [e3];exact yQ l (by omega))];grind
     ·rw [if_neg e3,if_neg (by intro e4;have h5:=zy i;rw [e4,yQ l (by omega)] at h5;exact e3 h5.symm)];grind
  have hD:aK (r+1) (fun i b=>A (ρ (bG r a i)) (bV (cF c s).lead b))=aJ s.m a c*aK r fun a b=>A (ρ a) (bV s.lead b):=by
   rw [<- hbig];refine cZ fun i b hi hb=>?_;have e1:ρ (bG r a i)=if i<r then ρ i else ρ a:=by
    by_cases e:i<r;·rw [if_pos e,yQ i e]
    ·rw [if_neg e,show i=r by omega,Ei]
   have e2:bV (cF c s).lead b=if b<r then bV s.lead b else c:=by
    by_cases e:b<r;·rw [if_pos e,tu b e]
    ·rw [if_neg e,show b=r by omega,se]
   rw [e1,e2]
  refine ⟨fun i=>ρ (bG r a i),(if a=r then 1 else -1)*sg,x*((if a=r then 1 else -1)*aJ s.m a c),by rw [hlen,h.len],by rw [hL];omega,by rw [hL];have:=h.rlc;omega,?_,?_,?_,?_,?_,?_,?_,?_,?_,?_,?_,?_,?_⟩
  ·intro l hl;rw [hL] at hl;by_cases e:l=r;·rw [e,se];omega
   ·rw [tu l (by omega)];have:=h.klt l (by omega);omega
  ·intro hc l hl;rw [hL] at hc;by_cases e:l=r;·rw [e,se];omega
   ·rw [tu l (by omega)];exact h.full (by omega) l (by omega)
  ·rw [hL];exact zI
  ·intro i j hi hj;rw [hL] at hi;by_cases e:j=c
   ·have:=zI i r (by omega);rw [se,if_neg (by omega)] at this;rw [e];exact this
   ·rw [vV,if_neg (by omega),h.zero (bG r a i) j (by have:=IU i (by omega);omega) (by omega),h.zero a j (by omega) (by omega),Rat.div_def,Rat.zero_mul];grind
  ·intro i hi;exact h.rho _ (Dp i hi)
  ·intro i hi;obtain ⟨i',h1,h2⟩:=h.sur i hi;exact ⟨bG r a i',Dp i' h1,by rw [zy];exact h2⟩
  ·intro i j hi;have h1:=h.span (bG r a i) j (Dp i hi);have h2:=h.span (bG r a i) c (Dp i hi);rw [hL];show A (ρ (bG r a i)) j=_+(aI r (fun l=>aJ (cF c s).m l j*A (ρ (bG r a i)) (bV (cF c s).lead l))+aJ (cF c s).m r j*A (ρ (bG r a i)) (bV (cF c s).lead r));rw [se];rw [hr] at h1 h2;have e1:aI r (fun l=>aJ (cF c s).m l j*A (ρ (bG r a i)) (bV (cF c s).lead l))=aI r (fun l=>aJ s.m l j*A (ρ (bG r a i)) (bV s.lead l))+- (aJ s.m a j / aJ s.m a c)*aI r (fun l=>aJ s.m l c*A (ρ (bG r a i)) (bV s.lead l)):=by
    rw [<- iv,<- oU];refine cw fun l hl=>?_;rw [tu l hl,vV,if_neg (by omega),yQ l hl];grind
   rw [e1,vV r j,if_pos rfl,vV i j];have hlt:(bG r a i<r)=(i<r):=by
    apply propext;constructor
    ·intro h;by_cases e:i<r;·exact e
     ·have:=IU i (by omega);omega
    ·intro h;rw [yQ i h];exact h
   simp only [hlt] at h1 h2;by_cases e:i<r
   ·rw [if_pos e] at h1 h2;rw [if_pos (by omega),h1,h2];grind
   ·rw [if_neg e] at h1 h2;by_cases e2:i=r
    ·rw [e2,Ei] at h1 h2;rw [if_pos (by omega),e2,Ei,h1,h2];have:aJ s.m a j / aJ s.m a c*aJ s.m a c=aJ s.m a j:=(by rw [Rat.div_def,Rat.mul_assoc,Rat.inv_mul_cancel _ hne,Rat.mul_one]);grind
    ·rw [if_neg (by omega),if_neg e2,h1,h2];grind
  ·rw [hL,hD];intro h0;rcases Rat.mul_eq_zero.1 h0 with h0 | h0;·exact hne h0
   ·exact h.dne (by rw [hr];exact h0)
  ·intro f hf;rw [h.form f hf,hf.pivot wK ha2 hne vV];grind
  ·rw [Fu,h.det,hL,hr];by_cases e:r=c;·rw [if_pos e,if_pos (show r+1=c+1 by omega)];split <;> grind
   ·rw [if_neg e,if_neg (show ¬ r+1=c+1 by omega)];split <;> grind
  ·rcases h.sgn with e | e <;> rw [e] <;> split <;> first | (left;grind) | (right;grind)
  ·intro f hf;by_cases e:a=r
   ·rw [if_pos e,e];have:(fun i b=>A (ρ (bG r r i)) b)=fun i b=>A (ρ i) b:=by funext i b;rw [s5_]
    rw [this,h.sgf f hf];grind
   ·rw [if_neg e,hf.swap (fun i b=>A (ρ i) b) r a (by omega) ha2,h.sgf f hf];grind
  ·rw [hL,hD,h.xD,hr];grind
theorem t5_ {C:Nat} (m:List (List Rat)) (hR:b_ C m):∀ c,∃ ρ sg x,j9 m.length (aJ m) c (aq m c) ρ sg x
 | 0=>⟨_,_,_,Z3u m hR⟩
 | c+1=>by
  obtain ⟨ρ,sg,x,h⟩:=t5_ m hR c;exact Z3t h (oJ hR c).1
def bg (K:Nat) (x:Rat):Prop:=∃ z:Int,x=(z:Rat)/\z.natAbs<=K
theorem bg.mono {K L:Nat} {x:Rat} (h:bg K x) (hk:K<=L):bg L x:=by
 obtain ⟨z,h1,h2⟩:=h;exact ⟨z,h1,by omega⟩
theorem bg.zero (K:Nat):bg K 0:=⟨0,by simp,by simp⟩
theorem bg.add {K L:Nat} {x y:Rat} (h:bg K x) (k:bg L y):bg (K+L) (x+y):=by
 obtain ⟨z,rfl,h2⟩:=h;obtain ⟨z',rfl,k2⟩:=k;exact ⟨z+z',by rw [Rat.intCast_add],by omega⟩
theorem bg.mul {K L:Nat} {x y:Rat} (h:bg K x) (k:bg L y):bg (K*L) (x*y):=by
 obtain ⟨z,rfl,h2⟩:=h;obtain ⟨z',rfl,k2⟩:=k;exact ⟨z*z',by rw [Rat.intCast_mul],by rw [Int.natAbs_mul];exact Nat.mul_le_mul h2 k2⟩
theorem bg.sgn (i:Nat):bg 1 (da i):=by
 unfold da;split;·exact ⟨1,by simp,by simp⟩
 ·exact ⟨-1,by simp,by simp⟩
theorem bg.sum {K n:Nat} {f:Nat->Rat} (h:∀ i,i<n->bg K (f i)):bg (n*K) (aI n f):=by
 induction n with
 | zero=>exact (bg.zero _)
 | succ n ih =>
  have:=(ih fun i hi=>h i (by omega)).add (h n (by omega));rw [Nat.succ_mul];exact this
def fO (K:Nat):Nat->Nat
 | 0=>1
 | n+1=>(n+1)*(K*fO K n)
theorem Z4n {K n:Nat} {M:Nat->Nat->Rat} (h:∀ a b,bg K (M a b)):bg (fO K n) (aK n M):=by
 induction n generalizing M with
 | zero=>exact ⟨1,by simp [aK],by simp [fO]⟩
 | succ n ih =>
  show bg ((n+1)*(K*fO K n)) (aI (n+1) _);refine bg.sum fun i hi=>?_;have h1:=((bg.sgn i).mul (h i 0)).mul (ih (M:=fun a b=>M (sk i a) (b+1)) fun a b=>h _ _);rw [Nat.one_mul] at h1;exact h1
theorem Z28 {K : Nat} (hK : 1 <= K) {a b : Nat} (h : a <= b) : fO K a <= fO K b := by
  induction b with
  | zero => have : a = 0 := by omega
            subst this; exact oz _
  | succ b ih =>
    by_cases e : a = b + 1;· subst e; exact oz _
    · have h1 := ih (by omega)
      show _ <= (b + 1) * (K * fO K b);have h2 : 1 * fO K b <= K * fO K b := Nat.mul_le_mul_right _ hK;have h3 : 1 * (K * fO K b) <= (b + 1) * (K * fO K b) := Nat.mul_le_mul_right _ (by omega);omega
theorem Z62:fO 1000000000 13<10^130:=by decide +kernel
theorem bg.rs {x:Rat} (h:bg (fO 1000000000 13) x):RS 131 x:=by
 obtain ⟨z,rfl,h2⟩:=h;have h3:=Nat.lt_of_le_of_lt h2 Z62;refine ⟨?_,?_⟩
 ·show (aB ((z:Rat)).num).size<=131;rw [show ((z:Rat)).num=z from rfl];have h4:=fx z;have h5:=kZ z.natAbs 130 h3 (by omega);omega
 ·show (aE ((z:Rat)).den).size<=131;rw [show ((z:Rat)).den=1 from rfl,fC,Lib.nDigits_small (by omega)];omega
theorem l4_ {C:Nat} {m:List (List Rat)} (hR:b_ C m) (hl:m.length<=12) (hm:∀ i j,bg 1000000000 (aJ m i j)) (c:Nat):gK 2500 (aq m c).m/\RS 9000 (aq m c).det:=by
 obtain ⟨ρ,sg,x,h⟩:=t5_ m hR c;have Ks:(aq m c).lead.length<=12:=by have:=h.rle;omega
 have hint:∀ (k:Nat) (f g:Nat->Nat),k<=13->bg (fO 1000000000 13) (aK k fun a b=>aJ m (f a) (g b)):=fun k f g hk =>
  (Z4n (fun a b=>hm _ _)).mono (Z28 (by omega) hk)
 have hD:bg (fO 1000000000 13) (aK (aq m c).lead.length fun a b=>aJ m (ρ a) (bV (aq m c).lead b)):=hint _ _ _ (by omega);have hne:=h.dne;have vV:∀ i j,i<m.length->RS 300 (aJ (aq m c).m i j):=by
  intro i j hi;have hN:bg (fO 1000000000 13) (aJ (aq m c).m i j*aK (aq m c).lead.length fun a b=>aJ m (ρ a) (bV (aq m c).lead b)):=by
   by_cases e:i<(aq m c).lead.length
   ·rw [<- h.small e];exact hint _ ρ (fun b=>if b=i then j else bV (aq m c).lead b) (by omega)
   ·rw [<- h.big (by omega) hi];exact hint _ (fun a=>if a<(aq m c).lead.length then ρ a else ρ i) (fun b=>if b<(aq m c).lead.length then bV (aq m c).lead b else j) (by omega)
  generalize (aK (aq m c).lead.length fun a b=>aJ m (ρ a) (bV (aq m c).lead b))=D at *
  generalize aJ (aq m c).m i j=g at *
  have e:g=(g*D) / D:=by rw [Rat.div_def,Rat.mul_assoc,Rat.mul_inv_cancel _ hne,Rat.mul_one]
  rw [e];exact (Z5w hN.rs hD.rs hne).mono (by omega)
 have hsh:=oJ hR c;refine ⟨fun r hr q hq=>?_,?_⟩
 ·obtain ⟨i,hi⟩:=List.getElem?_of_mem hr;obtain ⟨j,hj⟩:=List.getElem?_of_mem hq;have hil:=(od.1 hi).1;have:=vV i j (by omega);unfold aJ at this;rw [lr hi,oe,hj] at this;exact RS.mono this (by omega)
 ·rw [h.det]
  split
  ·rw [h.xD];rcases h.sgn with e | e
   ·rw [e,Rat.one_mul];exact hD.rs.mono (by omega)
   ·rw [e];have:bg (1*fO 1000000000 13) ((-1:Rat)*aK (aq m c).lead.length fun a b=>aJ m (ρ a) (bV (aq m c).lead b)):=bg.mul ⟨-1,by simp,by simp⟩ hD;rw [Nat.one_mul] at this;exact this.rs.mono (by omega)
  ·exact (bg.zero _).rs.mono (by omega)
theorem Z33 {xss:pM} (h:∀ r∈xss,∀ a∈r,-1000000000<=a/\a<=1000000000) (i j:Nat):bg 1000000000 (aJ (dy xss) i j):=by
 unfold aJ cE dy;rw [oe (l:=xss.map dB),oh];cases hi:xss[i]? with
 | none=>exact bg.zero _
 | some r =>
  show bg _ ((dB r).getD j 0);unfold dB;rw [oe,oh];cases hj:r[j]? with
  | none=>exact bg.zero _
  | some a =>
   have:=h r (og hi) a (og hj);exact ⟨a,rfl,by omega⟩
def lF (xss:pM) (i j:Nat):Int:=(xss.getD i []).getD j 0
theorem u2_ (xss:pM) (i j:Nat):aJ (dy xss) i j=(lF xss i j:Rat):=by
 unfold aJ cE dy lF;rw [oe (l:=xss.map dB),oh,oe (l:=xss)];cases hi:xss[i]? with
 | none=>simp
 | some r =>
  show (dB r).getD j 0=((r.getD j 0:Int):Rat);unfold dB;rw [oe,oh,oe];cases hj:r[j]? with
  | none=>simp
  | some a=>rfl
theorem Z27 (n:Nat):iF n (aK n) where
 congr:=fun M N h=>cZ fun a b ha _=>h a b ha
 swap:=fun M i j h1 h2=>I0_ M h1 h2
 scale:=fun M r c hr=>Z0G M hr c
 add:=fun M r s c h1 h2 h3=>h0_ M h1 h2 h3 c
theorem Z5b {n:Nat} {m:List (List Rat)} (hR:b_ n m) (hl:m.length=n) {f:(Nat->Nat->Rat)->Rat} (hf:iF n f)
  (hz:∀ M:Nat->Nat->Rat,(∃ r,r<n/\∀ b,b<n->M r b=0)->f M=0) (hc:∀ M N:Nat->Nat->Rat,(∀ a b,a<n->b<n->M a b=N a b)->f M=f N) :
  f (aJ m)=(aq m n).det*f (fun a b=>if a=b then 1 else 0):=by
 obtain ⟨ρ,sg,x,h⟩:=t5_ m hR n;rw [hl] at h;rw [h.form f hf,h.det];by_cases e:(aq m n).lead.length=n
 ·rw [if_pos e];congr 1;refine hc _ _ fun a b ha hb=>?_;have:=h.unit a b (by omega);rw [h.full e b hb] at this;exact this
 ·rw [if_neg e,hz _ ⟨(aq m n).lead.length,by have:=h.rle;omega,fun b hb=>h.zero _ b (oz _) hb⟩];grind
theorem Z6x {n:Nat} {m:List (List Rat)} (hR:b_ n m) (hl:m.length=n):(aq m n).det=aK n (aJ m):=by
 rw [Z5b hR hl (Z27 n) (fun M ⟨r,hr,h0⟩=>ia hr h0) (fun M N h=>cZ h),L1_];grind
def gB (k:Nat) (ρ:Nat->Nat):Nat->Nat
 | 0=>0
 | a+1=>gB k ρ a+(k-a)*ρ a
theorem n8_ {k:Nat} {ρ σ:Nat->Nat}:∀ n,(∀ a,a<n->ρ a=σ a)->gB k ρ n=gB k σ n
 | 0,_=>rfl
 | n+1,h=>by
  show gB k ρ n+_=gB k σ n+_;rw [n8_ n (fun a ha=>h a (by omega)),h n (by omega)]
theorem a8_ {k:Nat} {ρ:Nat->Nat} {i:Nat} (h:ρ (i+1)<ρ i):∀ n,i+1<n->n<=k->gB k (fun a=>ρ (bE i a)) n<gB k ρ n
 | 0,h1,_=>by omega
 | n+1,h1,h2=>by
  by_cases e:i+1=n
  ·subst e;show (gB k (fun a=>ρ (bE i a)) i+(k-i)*ρ (bE i i))+(k-(i+1))*ρ (bE i (i+1))<(gB k ρ i+(k-i)*ρ i)+(k-(i+1))*ρ (i+1);have e1:gB k (fun a=>ρ (bE i a)) i=gB k ρ i:=n8_ i fun a ha=>by unfold bE;rw [if_neg (by omega),if_neg (by omega)]
   have e2:bE i i=i+1:=(by unfold bE;rw [if_pos rfl]);have e3:bE i (i+1)=i:=(by unfold bE;rw [if_neg (by omega),if_pos rfl]);rw [e1,e2,e3];obtain ⟨d,hd⟩:∃ d,ρ i=ρ (i+1)+d+1:=⟨ρ i-ρ (i+1)-1,by omega⟩;obtain ⟨q,hq⟩:∃ q,k-(i+1)=q:=⟨_,rfl⟩;have yR:k-i=q+1:=(by omega);rw [hd,hq,yR];generalize ρ (i+1)=y at *
   have a1:(q+1)*y=q*y+y:=Nat.succ_mul _ _;have a2:(q+1)*(y+d+1)=q*(y+d+1)+(y+d+1):=Nat.succ_mul _ _;omega
  ·have ih:=a8_ (k:=k) (ρ:=ρ) (i:=i) h n (by omega) (by omega);show gB k (fun a=>ρ (bE i a)) n+(k-n)*ρ (bE i n)<gB k ρ n+(k-n)*ρ n;have e2:bE i n=n:=(by unfold bE;rw [if_neg (by omega),if_neg (by omega)]);rw [e2];omega
structure mH (s:ByteArray) (i0 u:Nat):Prop where
 size:i0<=s.size
 digs:(s.data.toList.drop i0).all cI=true
 val:bB 0 (s.data.toList.drop i0)=u
def Z7m (s:ByteArray) (i0 i:Nat):Nat:=bB 0 ((s.data.toList.drop i0).take (i-i0))
theorem mH.dig {s:ByteArray} {i0 u:Nat} (h:mH s i0 u) {i:Nat} (h0:i0<=i) (hi:i<s.size):48<=s[i].toNat/\s[i].toNat<=57:=by
 have h1:(s.data.toList.drop i0)[i-i0]?=some s[i]:=by
  rw [pF,show i0+(i-i0)=i by omega];exact mL s i hi
 exact of_decide_eq_true (List.all_eq_true.1 h.digs _ (og h1))
theorem mH.le {s:ByteArray} {i0 u:Nat} (h:mH s i0 u) (i:Nat):Z7m s i0 i<=u:=by
 have hs:s.data.toList.drop i0=(s.data.toList.drop i0).take (i-i0)++(s.data.toList.drop i0).drop (i-i0):=(List.take_append_drop _ _).symm;rw [<- h.val,hs,nf];unfold Z7m;exact p3_ _ _
theorem mH.all {s:ByteArray} {i0 u:Nat} (h:mH s i0 u):Z7m s i0 s.size=u:=by
 unfold Z7m;rw [List.take_of_length_le (by rw [List.length_drop,<- Lib.size_eq];omega)];exact h.val
def gE (p:List Nat) (i:Nat):Nat:=p.getD i 0
theorem z2_ {p:List Nat} {i x:Nat} (h:p[i]?=some x):gE p i=x:=by
 unfold gE;rw [oe,h];rfl
theorem z3_ {p:List Nat} {i:Nat} (h:p.length<=i):gE p i=0:=by
 unfold gE;rw [oe,o4 h];rfl
theorem G1_ {p:List Nat} (h:aP p) (i:Nat):gE p i<1000000000:=by
 by_cases hi:i<p.length;·rw [z2_ (oc hi)];exact h _ (List.getElem_mem hi)
 ·rw [z3_ (by omega)];omega
theorem oE (p:List Nat) (i:Nat):lv (p.take (i+1))=lv (p.take i)+pB i*gE p i:=by
 by_cases hi:i<p.length
 ·have h:=oc hi;rw [ju h,z2_ h]
 ·rw [z3_ (by omega),List.take_of_length_le (by omega),List.take_of_length_le (by omega)];rfl
theorem Z32 (l:List Nat) (x:Nat):lv (l++[x])=lv l+pB l.length*x:=by
 rw [jM,fj,eJ,Nat.mul_zero,Nat.add_zero]
structure jc (p q:List Nat) (i c:Nat) (L:List Nat):Prop where
 len:L.length=i
 pcs:aP L
 le:c<=1
 val:lv L+c*pB i=lv (p.take i)+lv (q.take i)
theorem jc.start (p q:List Nat):jc p q 0 0 []:=⟨rfl,aP.nil,by omega,by simp [eJ]⟩
theorem jc.step {p q L:List Nat} {i c s:Nat} (h:jc p q i c L) (hp:aP p) (hq:aP q) (hs:s=c+gE p i+gE q i):jc p q (i+1) (s / 1000000000) (L++[s%1000000000]):=by
 have h1:=G1_ hp i;have h2:=G1_ hq i;have h3:=h.le;refine ⟨by rw [pG,h.len];rfl,h.pcs.append (aP.cons (by omega) aP.nil),by omega,?_⟩;rw [Z32,h.len,oE,oE,fD];have hv:=h.val;have e:=Nat.div_add_mod s 1000000000;generalize s / 1000000000=d at *
 generalize s%1000000000=m at *
 subst hs;generalize lv L=A at *
 generalize pB i=P at *
 grind
theorem jc.done {p q L:List Nat} {i:Nat} (h:jc p q i 0 L) (h1:p.length<=i) (h2:q.length<=i):lv L=lv p+lv q:=by
 have:=h.val;rw [List.take_of_length_le h1,List.take_of_length_le h2,Nat.zero_mul,Nat.add_zero] at this;exact this
structure kx (p q:List Nat) (i b:Nat) (L:List Nat):Prop where
 len:L.length=i
 pcs:aP L
 le:b<=1
 val:lv L+lv (q.take i)=lv (p.take i)+b*pB i
theorem kx.start (p q:List Nat):kx p q 0 0 []:=⟨rfl,aP.nil,by omega,by simp [eJ]⟩
theorem kx.step {p q L:List Nat} {i b x b':Nat} (h:kx p q i b L) (hx:x<1000000000) (hb:b'<=1) (he:x+gE q i+b=gE p i+b'*1000000000):kx p q (i+1) b' (L++[x]):=by
 refine ⟨by rw [pG,h.len];rfl,h.pcs.append (aP.cons hx aP.nil),hb,?_⟩;rw [Z32,h.len,oE,oE,fD];have hv:=h.val;have h2:pB i*(x+gE q i+b)=pB i*(gE p i+b'*1000000000):=by rw [he]
 generalize pB i=P at *
 grind
theorem kx.done {p q L:List Nat} {b:Nat} (h:kx p q p.length b L) (hp:aP p) (hq:q.length<=p.length) (hl:lv q<=lv p):lv L=lv p-lv q/\b=0:=by
 have hv:=h.val;rw [List.take_of_length_le (oz _),List.take_of_length_le hq] at hv;have h1:=fB h.pcs;rw [h.len] at h1;have h2:=h.le;have hb:b=0:=by
  false_or_by_contra
  have:b=1:=by omega
  subst this;omega
 subst hb;omega
structure nL (p q:List Nat) (i:Nat) (L:List Nat):Prop where
 len:L.length=p.length+q.length+1
 pcs:aP L
 val:lv L=lv (p.take i)*lv q
structure kE (p q:List Nat) (i x k c:Nat) (L:List Nat):Prop where
 len:L.length=p.length+q.length+1
 pcs:aP L
 lt:c<1000000000
 val:lv L+c*pB (i+k)=lv (p.take i)*lv q+x*(lv (q.take k)*pB i)
theorem nL.start (p q:List Nat):nL p q 0 (List.replicate (p.length+q.length+1) 0) :=
 ⟨by simp,aP.zeros _,by rw [u1_,List.take_zero,eJ,Nat.zero_mul]⟩
theorem nL.enter {p q L:List Nat} {i:Nat} (x:Nat) (h:nL p q i L):kE p q i x 0 0 L :=
 ⟨h.len,h.pcs,by omega,by rw [h.val,List.take_zero,eJ];simp⟩
theorem kE.room {p q L:List Nat} {i x k c:Nat} (h:kE p q i x k c L) (hp:aP p) (hq:aP q) (hx:p[i]?=some x) (hk:k<q.length\/0<c):i+k<p.length+q.length+1:=by
 have hi:=(od.1 hx).1;rcases hk with hk | hk;·omega
 ·false_or_by_contra
  rename_i hn;have h1:=fB hp;have h2:=fB hq;have h3:=A3_ p (i+1);rw [ju hx] at h3;have h4:=A3_ q k;have h5:lv (p.take i)*lv q+x*(lv (q.take k)*pB i)<=lv p*lv q:=by
   have h6:x*(lv (q.take k)*pB i)<=(pB i*x)*lv q:=by
    have:=Nat.mul_le_mul_left (pB i*x) h4;have e:x*(lv (q.take k)*pB i)=pB i*x*lv (q.take k):=(by grind);omega
   have h7:=Nat.mul_le_mul_right (lv q) h3;rw [Nat.add_mul] at h7;omega
  have h8:lv p*lv q<pB (p.length+q.length):=by rw [lj];exact Nat.mul_lt_mul'' h1 h2
  have h9:pB (p.length+q.length)<=pB (i+k):=u9_ (by omega);have h10:1*pB (i+k)<=c*pB (i+k):=Nat.mul_le_mul_right _ hk;have hv:=h.val;omega
theorem kE.step {p q L:List Nat} {i x k c a y c':Nat} (h:kE p q i x k c L) (ha:L[i+k]?=some a) (hx:x<1000000000) (hq:aP q) (hc:c'=c+a+x*gE q k) (hy:y=c'%1000000000) :
  kE p q i x (k+1) (c' / 1000000000) (L.set (i+k) y):=by
 have h1:=h.lt;have h2:=h.pcs.get ha;have h3:=G1_ hq k;have h4:x*gE q k<=999999999*999999999:=Nat.mul_le_mul (by omega) (by omega);refine ⟨by rw [List.length_set];exact h.len,h.pcs.set _ _ (by omega),by omega,?_⟩
 exact T0_ (P:=pB (i+k)) (P':=pB (i+k+1)) (c:=c) (x:=a) (y:=y) (ab:=x*gE q k) (acc2:=x*(lv (q.take (k+1))*pB i)) (fD _) h.val hc hy (oD y ha) (by
   rw [oE,lj];grind)
theorem kE.leave {p q L:List Nat} {i x k:Nat} (h:kE p q i x k 0 L) (hk:q.length<=k) (hx:p[i]?=some x):nL p q (i+1) L:=by
 refine ⟨h.len,h.pcs,?_⟩;have h2:=h.val;rw [List.take_of_length_le hk,Nat.zero_mul,Nat.add_zero] at h2;rw [h2,ju hx];grind
structure kv (p q:List Nat) (i:Nat) (L:List Nat) (R:Nat):Prop where
 len:L.length=p.length
 pcs:aP L
 low:∀ j,j<i->L[j]?=some 0\/p.length<=j
 val:lv (p.drop i)=lv (L.drop i)*lv q+R
 lt:R<lv q
theorem kv.start (p q:List Nat) (hq:0<lv q):kv p q p.length (List.replicate p.length 0) 0 :=
 ⟨by simp,aP.zeros _,fun j hj=>.inl (by rw [List.getElem?_replicate,if_pos hj]),by rw [List.drop_length,List.drop_eq_nil_of_le (by simp)];simp [eJ],hq⟩
theorem kv.step {p q L:List Nat} {i R x d:Nat} (h:kv p q (i+1) L R) (hx:p[i]?=some x) (hp:aP p) (hd:d=(x+1000000000*R) / lv q) :
  kv p q i (L.set i d) ((x+1000000000*R)-d*lv q)/\d<1000000000/\d*lv q<=x+1000000000*R:=by
 have hi:=(od.1 hx).1;have hxb:=hp.get hx;have hlt:=h.lt;have h0:0<lv q:=by omega
 have xh:d<1000000000:=by
  rw [hd,Nat.div_lt_iff_lt_mul h0];have:(R+1)*1000000000<=lv q*1000000000:=Nat.mul_le_mul_right _ hlt;omega
 have e:=Nat.div_add_mod (x+1000000000*R) (lv q);have e2:=Nat.mod_lt (x+1000000000*R) h0;rw [<- hd] at e;have e3:lv q*d=d*lv q:=Nat.mul_comm _ _;refine ⟨⟨by rw [List.length_set];exact h.len,h.pcs.set _ _ xh,fun j hj=>?_,?_,by omega⟩,xh,by omega⟩
 ·rw [pH,if_neg (by omega)];exact h.low j (by omega)
 ·have hL:(L.set i d)[i]?=some d:=by rw [pH,if_pos rfl,if_pos (by rw [h.len];exact hi)]
  rw [fk hx,fk hL,List.drop_set_of_lt (by omega),h.val,Nat.add_mul];have:1000000000*lv (L.drop (i+1))*lv q=1000000000*(lv (L.drop (i+1))*lv q):=Nat.mul_assoc _ _ _;omega
theorem kv.done {p q L:List Nat} {R:Nat} (h:kv p q 0 L R):lv L=lv p / lv q/\R=lv p%lv q:=by
 have hv:=h.val;rw [List.drop_zero,List.drop_zero] at hv;have hlt:=h.lt;rw [hv,Nat.mul_comm];constructor;·rw [Nat.mul_add_div (by omega),Nat.div_eq_of_lt hlt];rfl
 ·rw [Nat.mul_add_mod,Nat.mod_eq_of_lt hlt]
def pcJ (x:Nat):Value:=.int .i64 x
def cW (B:Nat) (w:World) (v:Value) (l:List Nat):Prop:=w.ownsRow B 3 1 v l.length (l.map pcJ)
def pcRJ (_:World) (u:List Value) (x:Nat):Prop:=u=[pcJ x]
theorem pcRJ.mono:iE pcRJ:=fun _ _ _ _ _ h=>h
abbrev mE (w:World) (v:Value) (l:List Nat):Prop:=aN 1 pcRJ w v l
theorem mE.ext {w w':World} {v:Value} {l:List Nat} (h:mE w v l) (he:aA w w'):mE w' v l:=aN.ext pcRJ.mono h he
theorem cW.at {B:Nat} {w:World} {v:Value} {l:List Nat} (h:cW B w v l):mE w v l:=by
 refine ⟨l.map fun x=>[pcJ x],by simp,by simp,?_,?_⟩
 ·have:=dN.of_owns h
  rwa [eR]
 ·intro j u x hu hx;simp only [oh,hx,Option.map_some,Option.some.injEq] at hu;exact hu.symm
theorem cW.ext {B:Nat} {w w':World} {v:Value} {l:List Nat} (h:cW B w v l) (he:aA w w'):cW B w' v l:=et h he
theorem cW.form {B:Nat} {w:World} {v:Value} {l:List Nat} (h:cW B w v l):∃ a cap,v=.slice a l.length cap/\l.length<=cap/\cap<=9223372036854775807/\(l≠[]->∃ g,a=some ⟨g,0,none⟩/\B<=g/\g<w.heap.size):=by
 rcases h.2 with ⟨rfl,hn⟩ | ⟨g,cap,cur,rfl,hb,hg,h1,h2,h3,h4⟩
 ·exact ⟨none,0,by rw [hn],by omega,by omega,fun hne=>absurd (List.length_eq_zero_iff.1 hn) hne⟩
 ·exact ⟨_,cap,rfl,h1,h2,fun _=>⟨g,rfl,hb,(Array.getElem?_eq_some_iff.1 hg).1⟩⟩
theorem cW.base {B B':Nat} {w:World} {v:Value} {l:List Nat} (h:cW B w v l) (hb:B'<=B):cW B' w v l:=by
 refine ⟨h.1,?_⟩;rcases h.2 with h' | ⟨g,cap,cur,e,hg,rest⟩
 ·exact .inl h'
 ·exact .inr ⟨g,cap,cur,e,ow hb hg,rest⟩
theorem cW.nil (B:Nat) (w:World):cW B w (.slice none 0 0) []:=World.ownsRow_nil w B 3 1
theorem cW.get {B g n cap:Nat} {w:World} {l:List Nat} (h:cW B w (.slice (some ⟨g,0,none⟩) n cap) l) {k x:Nat} (hx:l[k]?=some x) :
  w.cell? ⟨g,k,none⟩=some (.int .i64 x)/\w.frozen? ⟨g,k,none⟩=false:=by
 have hk:k<l.length:=(od.1 hx).1;have hn:n=l.length:=by
  rcases h.2 with ⟨e,_⟩ | ⟨g',cap',cur,e,_⟩
  ·cases e
  ·simp only [Value.slice.injEq] at e;exact e.2.1
 subst hn;exact ⟨(World.ownsRow.cellAt h k (by simpa using hk)).trans (by simp [hx,pcJ]),World.ownsRow.frozenAt h k⟩
theorem cW.set {B g n cap:Nat} {w:World} {l:List Nat} (h:cW B w (.slice (some ⟨g,0,none⟩) n cap) l) (k x:Nat) :
  cW B (w.setCell ⟨g,k,none⟩ (.int .i64 x)) (.slice (some ⟨g,0,none⟩) n cap) (l.set k x):=by
 have hn:n=l.length:=by
  rcases h.2 with ⟨e,_⟩ | ⟨g',cap',cur,e,_⟩
  ·cases e
  ·simp only [Value.slice.injEq] at e;exact e.2.1
 subst hn;unfold cW at h |-;rw [List.map_set,List.length_set];exact (World.ownsRow.stored h k _).1
theorem cW.take {B g n cap:Nat} {w:World} {l:List Nat} (h:cW B w (.slice (some ⟨g,0,none⟩) n cap) l) (m:Nat) (hm:m<=l.length) :
  cW B w (.slice (some ⟨g,0,none⟩) m cap) (l.take m):=by
 have hl:(l.take m).length=m:=by rw [om];omega
 refine ⟨by rw [List.length_map,Nat.mul_one],.inr ?_⟩;rcases h.2 with ⟨e,_⟩ | ⟨g',cap',cur,e,hb,hg,h1,h2,h3,h4⟩
 ·cases e
 ·simp only [Value.slice.injEq,Option.some.injEq,Addr.mk.injEq] at e;obtain ⟨⟨rfl,-,-⟩,rfl,rfl⟩:=e;refine ⟨g,cap,cur,by rw [hl],hb,hg,by omega,h2,h3,?_⟩;rw [Nat.mul_one] at h4 |-;rw [List.map_take,<- h4,List.take_take,hl,Nat.min_eq_left (by omega)]
theorem cW.len {B g n cap:Nat} {w:World} {l:List Nat} (h:cW B w (.slice (some ⟨g,0,none⟩) n cap) l):n=l.length:=by
 rcases h.2 with ⟨e,_⟩ | ⟨g',cap',cur,e,_⟩
 ·cases e
 ·simp only [Value.slice.injEq] at e;exact e.2.1
theorem mE.open {w:World} {v:Value} {l:List Nat} (h:mE w v l) :
  ∃ (a:Option Addr) (cap:Nat),v=.slice a l.length cap/\l.length<=cap/\cap<=9223372036854775807 /\
   (l≠[]->∃ b off,a=some ⟨b,off,none⟩/\b<w.heap.size/\∀ (j:Nat) x,l[j]?=some x->w.cell? ⟨b,off+j,none⟩=some (.int .i64 x)):=by
 obtain ⟨a,cap,hv,h1,h2,h3,h4⟩:=aN.open h;refine ⟨a,cap,hv,h1,h2,fun hx=>?_⟩;obtain ⟨b,off,ha,hb,hc⟩:=h4 (by omega) hx;refine ⟨b,off,ha,hb,fun j x hj=>?_⟩;obtain ⟨u,_,hr,pP⟩:=hc j x hj;have:=pP 0 (by omega);rw [hr] at this;simpa [pcJ] using this
theorem cW.made {B n:Nat} {w:World} {v:Value} (h:w.ownsRow B 3 1 v n (madeCells #[.int .i64 0] n).toList):cW B w v (List.replicate n 0):=by
 unfold cW;rw [List.length_replicate];have e:(madeCells #[Value.int .i64 0] n).toList=(List.replicate n 0).map pcJ:=(toList_madeCells_one _ _).trans (by simp [pcJ])
 rwa [e] at h
theorem cW.build {B:Nat} {w:World} {v:Value} {l:List Nat} (h:cW B w v l):ai w B 3 1 v pcRJ l:=by
 refine ⟨l.map fun x=>[pcJ x],by simp,by simp,?_,?_⟩;·rw [eR];exact h
 ·intro j u x hu hx w' _;simp only [oh,hx,Option.map_some,Option.some.injEq] at hu;exact hu.symm
theorem jc.over {p q L:List Nat} {i c:Nat} (h:jc p q i c L) (hp:aP p) (hq:aP q) (h1:p.length<i) (h2:q.length<i):c=0:=by
 have hv:=h.val;rw [List.take_of_length_le (by omega),List.take_of_length_le (by omega)] at hv;have a1:=fB hp;have a2:=fB hq;have a3:pB p.length<=pB (i-1):=u9_ (by omega);have a4:pB q.length<=pB (i-1):=u9_ (by omega);have a5:pB i=1000000000*pB (i-1):=by rw [<- fD];congr 1;omega
 false_or_by_contra
 have:=h.le;have hc:c=1:=by omega
 rw [hc,a5] at hv;omega
theorem bJ.drop {l:List Nat} (h:bJ l) {k:Nat} (hk:k<l.length):bJ (l.drop k):=by
 refine ⟨h.1.drop k,fun x hx=>?_⟩;rw [List.length_drop,pF,show k+(l.length-k-1)=l.length-1 by omega] at hx;exact h.2 x hx
theorem cW.lit (w:World) (m:Nat):cW w.heap.size (w.alloc (.cells #[.int .i64 m] 3)) (.slice (some ⟨w.heap.size,0,none⟩) 1 1) [m]:=by
 have:=World.ownsRow_lit (e:=3) (size:=1) w #[Value.int .i64 m] 1 (oz _) (by unfold maxLen;omega) rfl;exact this
def Z4Z (xss:pM):Nat:=xss.foldl (fun m r=>max m r.length) 0
def Z83 (xss:pM):Prop:=(xss.length<=4/\Z4Z xss<=5)\/(12<=xss.length/\xss.length<=14/\Z4Z xss<=2)\/(xss.length<=2/\11<=Z4Z xss/\Z4Z xss<=14)
instance (xss:pM):Decidable (Z83 xss):=inferInstanceAs (Decidable (_\/_))
def iD (x:pN):Prop:=∀ a∈x,-1000000000<=a/\a<=1000000000
theorem ai.safe_ints {w:World} {base:Nat} {v:Value} {xs:pN} {o:Option Nat} (h:ai w base 3 1 v intR xs) (ho:∀ k,o=some k->k<base):bj w o (fun w'=>aM w' v xs):=by
 intro w' hg;have hne:v.ownBlock=none\/v.ownBlock≠o:=by
  cases hv:v.ownBlock with
  | none=>exact .inl rfl
  | some b =>
   refine .inr fun e=>?_;have h1:=(h.lt b hv).1;have h2:=ho b e.symm;omega
 obtain ⟨us,h1,h2,h3,h4⟩:=h;have h3':=bj.owns h3 hne w' hg;have:ai w' base 3 1 v intR xs:=⟨us,h1,h2,h3',fun j u x hu hx w'' _=>(h4 j u x hu hx).now⟩;exact this.list
def gL (xss:pM) (c:Nat):List Int:=xss.map fun r=>r.getD c 0
def ea (xss:pM):pM:=(List.range (bP xss)).map (gL xss)
theorem Z1E (xss:pM):(ea xss).length=bP xss:=by simp [ea]
theorem d5_ {xss:pM} {c:Nat} (h:c<bP xss):(ea xss).take (c+1)=(ea xss).take c++[gL xss c]:=by
 unfold ea;rw [<- List.map_take,<- List.map_take,ou,List.getElem?_range h,List.map_append];rfl
theorem Z1Z {xss:pM} {i c:Nat} {r:pN} {p:Int} (hr:xss[i]?=some r) (hp:r[c]?=some p):(gL xss c).take (i+1)=(gL xss c).take i++[p]:=by
 unfold gL;rw [<- List.map_take,<- List.map_take,ou,hr,List.map_append];show _++[r.getD c 0]=_;rw [oe,hp];rfl
theorem Z5X {xss:pM} {c:Nat} (h:∀ r∈xss,iD r):iD (gL xss c):=by
 intro a ha;obtain ⟨r,hr,rfl⟩:=List.mem_map.1 ha;rw [oe];cases hc:r[c]? with
 | none=>simp
 | some p=>exact h r hr p (og hc)
theorem Z1z (xss:pM) (v:Value) (w:World) (h:aw w v xss) (hE:cL xss=0) :
  Calls prog 192 #[v] w fun e w'=>∃ u,e=.returned (.tuple #[u,.int .i64 0])/\ai w' w.heap.size 36 1 u rowR (ea xss)/\aA w w':=by
 obtain ⟨hl,re⟩:=ko hE;have hn:bP xss<=12:=by
  cases xss with
  | nil=>show 0<=12;omega
  | cons r l=>exact (re r (by simp)).2.1
 have HCH:Hid (∀ W,aA w W->pI 100 #[v] W (.int .i64 0)):=fun W hW=>by have:=nC xss v W (h.ext hW);rw [hE] at this;exact this
 have HCO:Hid (∀ W,aA w W->pJ 200 #[v] W (.int .i64 (bP xss:Int))):=fun W hW=>Y7_ xss v W (h.ext hW);obtain ⟨a,ca,rfl,h1,h2,-,hc⟩:=ae.open h;have HC:=oZ hc;have HRR:Hid (∀ r∈xss,r.length=bP xss):=fun r hr=>(re r hr).1;have yZ:Hid (∀ r∈xss,iD r):=fun r hr=>(re r hr).2.2;obtain ⟨n,AG⟩:=pL (bP xss);rw [<- AG] at HCO HRR hn;have HN:=oZ AG;unfold maxLen at h2;clear h hc re AG hE
 go_enter func192,ntmps192
 go_wp2_with fail;refine p_ (HCH _ (aA.refl _)) ?_;intro w1 HE1;go_wp2_with fail;refine r_ (HCO _ HE1) ?_;go_wp2_with fail
 go_loopw [17,5] (fun t o wr=>∃ c:Nat,c<=n/\t=.int .i64 c/\Hid (aA w wr)/\Hid (ai wr w.heap.size 36 1 o rowR ((ea xss).take c))) (fun t _ _=>n-(intOf t).toNat)
 case atStart=>exact ⟨0,by omega,rfl,by first | exact HE1 | exact aA.refl _,ai.nil _ _ _ _ _⟩
 case round =>
  obtain ⟨c,hc,rfl,HE,HB⟩:=hrel;obtain ⟨wo,rfl⟩:∃ wo:World,wo=wr:=⟨_,rfl⟩;by_cases hlt:c<n
  ·have HTT:=oZ (d5_ (xss:=xss) (c:=c) (by rw [<- HN.out];exact hlt));have HCL:Hid ((gL xss c).length=xss.length):=(by unfold Hid gL;simp);have HCB:=oZ (Z5X (c:=c) yZ);have zb:(c:Int)<(n:Int):=(by omega);go_wp2_with fail
   go_loopw [22,7] (fun t o wr=>∃ i:Nat,i<=xss.length/\t=.int .i64 i/\Hid (aA wo wr)/\Hid (ai wr wo.heap.size 3 1 o intR ((gL xss c).take i))) (fun t _ _=>xss.length-(intOf t).toNat)
   case atStart=>exact ⟨0,by omega,rfl,by first | exact aA.refl _ | exact aA.drew _,ai.nil _ _ _ _ _⟩
   case round =>
    obtain ⟨i,hi,rfl,sx,HBI⟩:=hrel;obtain ⟨wi,rfl⟩:∃ wi:World,wi=wr:=⟨_,rfl⟩;have HWI:=oZ (HE.trans sx);by_cases hil:i<xss.length
    ·obtain ⟨b,off,rfl,hb,pP⟩:=HC (by intro e;simp [e] at hil);obtain ⟨r,hr⟩:∃ x,xss[i]?=some x:=⟨xss[i],oc hil⟩;obtain ⟨vr,tH,sW⟩:=pP i r hr;obtain ⟨ar,cr,rfl,r1,r2,-,-,rh⟩:=tH.open;have yh:r.length=n:=HRR r (og hr);rw [yh] at sW;obtain ⟨br,or_,rfl,-,qU⟩:=rh (by intro e;rw [e] at yh;simp at yh;omega);obtain ⟨p,hp⟩:∃ p,r[c]?=some p:=⟨_,oc (by omega)⟩;have g1:=HWI.cell sW;have g2:=HWI.cell (qU c p hp);have HCT:=oZ (Z1Z hr hp);have hbd:=yZ r (og hr) p (og hp);have HBD:Hid (-9223372036854775808<=p/\p<=9223372036854775807):=(by unfold Hid;omega);have HLL:Hid (((gL xss c).take i).length<1000000):=Nat.lt_of_le_of_lt (by rw [om];exact Nat.min_le_left _ _) (show i<1000000 by omega);have hs5:wo.heap.size<=wi.heap.size:=sx.size;have Nb:(i:Int)<(xss.length:Int):=(by omega);clear pP hr tH sW rh qU hp yh hbd r1 r2;go_wp2_with (at_builtin;go_must (refine iQ _ rfl _ _ 36 rfl wo.heap.size 3 (.int .i64 0) 1 8 underlying36 jo rfl (by decide) u7 intR ((gL xss c).take i) p #[.int .i64 p] 3 rfl HBI rfl rfl ?_ (fun _ _=>⟨rfl,HBD⟩) HLL (by decide) hs5 ?_))
     all_goals first | (simp [Value.oneCell'];done) | skip
     intro v' w6 rl sU hb6 CI _;rw [<- HCT.out] at rl;have HB6:=oZ rl;have HX6:Hid (aA wo w6):=Below.trans sx hb6;clear rl sU hb6;go_wp2_with fail;go_roundw
     case rel=>exact ⟨i+1,by omega,by go_num,HX6,HB6⟩
     case measure=>simp [intOf];omega
    ·obtain rfl:i=xss.length:=(by omega);have zK:(gL xss c).take xss.length=gL xss c:=(by rw [<- HCL.out,List.take_length]);rw [zK] at HBI;obtain ⟨a5,c5,IP,-⟩:=aM.open HBI.list;rw [HCL.out] at IP;subst IP;have HOW:Hid (∀ k,u5.ownBlock=some k->k<wo.heap.size):=fun k hk=>(HB.lt k hk).2;have HBO:=oZ (HB.ext sx);have HSF:=oZ (HBI.safe_ints (o:=u5.ownBlock) HOW);have HLL:Hid (((ea xss).take c).length<1000000):=Nat.lt_of_le_of_lt (by rw [om];exact Nat.min_le_left _ _) (show c<1000000 by omega);have hs5:w.heap.size<=wi.heap.size:=HWI.size;clear zK;go_wp2_with (at_builtin;go_must (refine iQ _ rfl _ _ 32 rfl w.heap.size 36 (.slice none 0 0) 1 24 underlying32 v6_ rfl (by decide) u5 rowR ((ea xss).take c) (gL xss c) #[.slice a5 xss.length c5] 36 rfl HBO rfl rfl ?_ (HSF.mono fun w' hw=>⟨_,rfl,hw⟩) HLL (by decide) hs5 ?_))
     case refine_1=>simp [Value.oneCell']
     intro v' w6 rl sU hb6 CI _;rw [<- HTT.out] at rl;have HB6:=oZ rl;have HX6:=oZ (Below.trans HWI hb6);clear rl sU hb6;go_wp2_with fail;go_roundw
     case rel=>exact ⟨c+1,by omega,by go_num,HX6,HB6⟩
     case measure=>simp [intOf];omega
  ·obtain rfl:c=n:=(by omega);have zK:(ea xss).take c=ea xss:=List.take_of_length_le (by rw [Z1E,<- HN.out];exact oz _);rw [zK] at HB;clear zK;go_wp2_with fail;go_ret2;exact ⟨_,rfl,HB,HE⟩
theorem Z0k {n:Nat}:∀ {l:pM},(∀ r∈l,r.length=n/\n<=12/\iD r)->iy n l=0
 | [],_=>rfl
 | r::l,h=>by
  obtain ⟨h1,h2,h3⟩:=h r (by simp);unfold iy
  rw [if_neg (by omega),if_pos h1,if_neg (by
   rw [Bool.not_eq_true,List.any_eq_false];intro x hx;have:=(nu x).2 (h3 x hx)
   simp [this])]
  exact Z0k fun q hq=>h q (by simp [hq])
theorem Z6I {xss:pM} {n:Nat} (hl:xss.length<=12) (h:∀ r∈xss,r.length=n/\n<=12/\iD r):cL xss=0:=by
 unfold cL;rw [if_neg (by omega)];cases xss with
 | nil=>rfl
 | cons r l =>
  have e:((r::l).headD []).length=n:=(h r (by simp)).1;rw [e];exact Z0k h
theorem Z38 {xss:pM} {k:Nat} {R S:List Nat} (hR:R.length=k) (hS:S.length=k) :
  (aq (dy (cK xss R S)) k).det=aK k (fun a b=>aJ (dy xss) (R.getD a 0) (S.getD b 0)):=by
 have h:=Z6x (m:=dy (cK xss R S)) (n:=k) (by rw [<- hS];exact P7_ xss R S) (by rw [K0_,ll];exact hR);rw [h];refine cZ fun a b ha hb=>?_;rw [Z6t (oc (by omega:a<R.length)) (oc (by omega:b<S.length)),u2_];have e1:R.getD a 0=R[a]:=by rw [oe,oc (by omega:a<R.length)];rfl
 have e2:S.getD b 0=S[b]:=by rw [oe,oc (by omega:b<S.length)];rfl
 rw [e1,e2];rfl
theorem Z57 {xss:pM} (hE:cL xss=0) (R S:List Nat):∀ r∈cK xss R S,∀ a∈r,-1000000000<=a/\a<=1000000000:=by
 intro r hr a ha;unfold cK at hr;obtain ⟨i,-,rfl⟩:=List.mem_map.1 hr;obtain ⟨j,-,rfl⟩:=List.mem_map.1 ha;have h:=Z33 (xss:=xss) (fun r hr=>((ko hE).2 r hr).2.2) i j;obtain ⟨z,h1,h2⟩:=h;rw [u2_] at h1;have h3:lF xss i j=z:=congrArg Rat.num h1;have h4:(xss.getD i []).getD j 0=z:=h3;rw [h4];omega
theorem n6_ {xss:pM} (hE:cL xss=0) {k:Nat} (hk1:k<=xss.length) (hk2:k<=bP xss) :
  ∀ R∈be xss.length k,∀ S∈be (bP xss) k,∀ c,c<k->gK 2500 (aq (dy (cK xss R S)) c).m/\RS 9000 (aq (dy (cK xss R S)) c).det:=by
 intro R hR S hS c _;obtain ⟨hl,re⟩:=ko hE;obtain ⟨s1,-,-⟩:=oN (n:=xss.length) hl hk1;exact l4_ (P7_ xss R S) (by rw [K0_,ll,s1.len R hR];omega) (Z33 (Z57 hE R S)) c
theorem q0_:∀ n,n<5->∀ m,m<5->∀ k,k<5->k<=n->k<=m->eH n k*eH m k<=1000:=by decide +kernel
theorem J3_ {w:World} {v:Value} {X:pN} (h:aN 1 numC w v X):aN 1 (ae Z7q) w v X:=by
 obtain ⟨us,h1,h2,h3,h4⟩:=h;exact ⟨us,h1,h2,h3,fun j u x hu hx=>⟨_,h4 j u x hu hx,rfl⟩⟩
theorem Z0l {n:Nat} {M:pM} (hn:n<=12) (hl:M.length<=12) (hM:∀ x∈M,aT 1000000000 x/\x.length=n):cL M=0 :=
 Z6I hl fun r hr=>⟨(hM r hr).2,hn,fun x hx=>by have:=(hM r hr).1 x hx;omega⟩
theorem Z0p {n:Nat} {m:pM} (hn:n<=4) (hw:∀ r∈m,r.length=n) (hk:m.length<=n) (hE:cL m=0) (X:pN) (hX:f_ m m.length=X) (v:Value) (w:World) (h:aw w v m) (ht:ag w) :
  Calls prog 29 #[v,.int .i64 n] w fun e w'=>∃ a c,e=.returned (.tuple #[.agg #[.int .i64 n,.int .i64 m.length,.slice a X.length c],.int .i64 0])/\w'.ownsRow (w.heap.size+1) 92 1 (.slice a X.length c) X.length (eZ X)/\aA w w':=by
 subst hX;have hcl:m.length<=bP m/\bP m<5\/m=[]:=by
  cases m with
  | nil=>exact .inr rfl
  | cons r l=>exact .inl (by show _<=r.length/\r.length<5;rw [hw r (List.mem_cons_self ..)];exact ⟨hk,by omega⟩)
 have vO:m.length<=bP m/\eH m.length m.length*eH (bP m) m.length<=1000:=by
  rcases hcl with ⟨h1,h2⟩ | h1;·exact ⟨h1,q0_ _ (by omega) _ h2 _ (by omega) (oz _) h1⟩
  ·rw [h1];exact ⟨Nat.zero_le _,by decide⟩
 exact Z6M m n _ v w h hE (by omega) hk hw (fun W' hW'=>Z13 m m.length v W' (h.ext hW') hE (oz _) vO.1 vO.2 (n6_ hE (oz _) vO.1) (ht.ext hW'))
theorem B6_ (n F:Nat) (P:pN) (C M:pM) (X:pN) (v:Value) (w:World) (hV:cP w v P C M) (hR:jB n F P C M) (hn4:n<=4) (hml:M.length<=n) (hX:f_ M M.length=X) (hb:∀ x∈X,x.natAbs<=1000000000) (pT:b9 w) (hp:3<w.heap.size) :
  Calls prog 24 #[v] w fun e w'=>∃ a c,e=.returned (.tuple #[.agg #[.int .i64 n,.int .i64 M.length,.slice a X.length c],.int .i64 0])/\w'.ownsRow w.heap.size 92 1 (.slice a X.length c) X.length (eZ X)/\aA w w':=by
 have HCK:=oZ (fun W (hW:aA w W)=>y9_ n F P C M v W (hV.ext hW) hR (pT.ext hW) (ov hp hW.size));have hE:cL M=0:=Z0l (n:=n) (by omega) (by omega) hR.bM;have HOF:=oZ (fun W (hW:aA w W) vm (hm:aw W vm M)=>Z0p hn4 (fun r hr=>(hR.bM r hr).2) hml hE X hX vm W hm (pT.pow.ext hW));have HSH:=oZ (fun W (hW:aA w W) vx (hx:aN 1 numC W vx X)=>l9_ X vx W (J3_ hx) hb (pT.ext hW));have hPl:=hR.pl;obtain ⟨vp,vc,vm,rfl,qo,r9,rz⟩:=hV;have HVM:=oZ rz;obtain ⟨ap,cp,rfl,-⟩:=qo.open;obtain ⟨ac,cc,rfl,-⟩:=ae.open r9;obtain ⟨am,cm,rfl,-⟩:=ae.open rz;rw [hPl] at HCK |-;clear qo r9 rz hR pT hp hPl hb hX hE hml hn4
 go_enter func24,ntmps24
 obtain ⟨W1,pc,hE1,hs1,hb1⟩:=gU w (.slice ap n cp) (.slice ac C.length cc) (.slice am M.length cm);obtain ⟨W2,qv,hE2,hs2,hb2⟩:=kN W1 (.int .i64 0) (.int .i64 0) (.slice none 0 0);have HB1:=oZ (aF hb1 hE2);have HB2:=oZ hb2;have HE2:=oZ (hE1.trans hE2);obtain ⟨b0,b1,b2,-⟩:=cU HB1;have HS1:Hid (w.heap.size<=W1.heap.size):=by unfold Hid;omega
 clear hE1 hs1 hb1 hE2 hs2 hb2;go_wp2_with fail;refine (HCK _ HE2).mono ?_;rintro e w3 ⟨rfl,pS⟩;have HE3:=oZ (HE2.trans pS);have HB13:=oZ (aF HB1 pS);have HB23:=oZ (aF HB2 pS);obtain ⟨g,hg⟩:=pK W1.heap.size;have tQ:Hid (g<w3.heap.size):=by rw [<- hg];exact cG HB23
 rw [hg] at HB23 HS1 |-;clear pS HCK HB1 HB2 HE2 b0 b1 b2 qv hg;obtain ⟨b0,b1,b2,-⟩:=cU HB13;go_wp2_with fail;refine (HOF _ HE3 _ (HVM.ext HE3)).mono ?_;rintro e w4 ⟨a4,c4,rfl,s5,hE4⟩;obtain ⟨V5,C2,vZ,hs5,hb5⟩:=kN w4 (.int .i64 0) (.int .i64 0) (.slice none 0 0);have r0:=ah hb5;have f0:=cQ hb5;have HB5:=oZ (lZ hb5 (.int .i64 n) (.int .i64 M.length) (.slice a4 X.length c4));have HX5:=oZ (lW (B:=w4.heap.size) vZ (oz _) (.int .i64 n) (.int .i64 M.length) (.slice a4 X.length c4));obtain ⟨U5,ze⟩:=pK (((V5.setCell ⟨w4.heap.size,0,none⟩ (.int .i64 n)).setCell ⟨w4.heap.size,1,none⟩ (.int .i64 M.length)).setCell ⟨w4.heap.size,2,none⟩ (.slice a4 X.length c4));rw [ze] at HB5 HX5;have HEU:Hid (aA w U5):=(HE3.trans hE4).trans HX5;have HOU:=oZ (u8_ (base:=g+1) (et s5 HX5) (Nat.le_succ_of_le (Nat.succ_le_of_lt tQ)));have HRU:=oZ (numC.of_owns HOU);have HB25:=oZ (aF HB23 (hE4.trans HX5));have s1:=ah HB5;clear vZ hs5 hb5 s5 hE4 HX5 HE3 HB23 HB13 HVM HOF b0 b1 b2;go_wp2_with fail;clear ze C2 r0 f0;refine (HSH _ HEU _ HRU).mono ?_;rintro e w6 ⟨rfl,pR⟩;have HE6:=oZ (HEU.trans pR);have HR6:=oZ (et HOU pR);have HB26:=oZ (aF HB25 pR);have HB56:=oZ (aF HB5 pR);clear pR HEU HRU HOU HB25 HB5 HSH s1;have s1:=ah HB56;have f0:=cQ HB26;have k0:=ah HB26;go_wp2_with fail;have hb7:=lZ HB26 (.int .i64 (n:Int)) (.int .i64 (M.length:Int)) (.slice a4 X.length c4);refine bodyPost_ret (mv (by rfl) _ _ g 50 #[.int .i64 n,.int .i64 M.length,.slice a4 X.length c4] (0,0) _ (.int .i64 0) (by rfl) (by rfl) hb7 underlying50 (by rfl) (by kernel_rfl)) (by rfl) ⟨_,_,rfl,?_,lW HE6 HS1 _ _ _⟩;exact u8_ (A9_ HR6 (Nat.lt_succ_self _) (U9_ _ _ _ _ _)) (ow HS1 (Nat.le_succ _))
theorem Z0U (n F:Nat) (P:pN) (C M:pM) (X:pN) (v:Value) (w:World) (hV:cP w v P C M) (hR:jB n F P C M) (hn4:n<=4) (hml:M.length<=n) (hX:f_ M M.length=X) (hb:∀ x∈X,x.natAbs<=1000000000) (pT:b9 w) (hp:3<w.heap.size) :
  Calls prog 24 #[v] w fun e w'=>∃ a c,e=.returned (.tuple #[.agg #[.int .i64 n,.int .i64 M.length,.slice a X.length c],.int .i64 0])/\aN 1 numC w' (.slice a X.length c) X/\aA w w' :=
 (B6_ n F P C M X v w hV hR hn4 hml hX hb pT hp).mono fun e w' ⟨a,c,h1,h2,h3⟩=>⟨a,c,h1,numC.of_owns h2,h3⟩
def bw (X:pN):Nat->Int
 | 0=>0
 | i+1=>bw X i+((X.getD i 0).natAbs:Int)
def dK (X:pN):Nat->Int
 | 0=>0
 | i+1=>if dK X i<((X.getD i 0).natAbs:Int) then ((X.getD i 0).natAbs:Int) else dK X i
theorem kH (X:pN):∀ i,0<=bw X i
 | 0=>Int.le_refl _
 | i+1=>by have:=kH X i;unfold bw;omega
theorem nO (X:pN):∀ {i j},i<=j->bw X i<=bw X j:=by
 intro i j h
 induction h with
 | refl=>exact Int.le_refl _
 | step h ih=>refine Int.le_trans ih ?_;show _<=bw X _+_;omega
theorem H8_ (X:pN):∀ i,0<=dK X i/\dK X i<=bw X i
 | 0=>⟨Int.le_refl _,Int.le_refl _⟩
 | i+1=>by
  have:=H8_ X i;have:=kH X i;unfold dK bw
  split <;> constructor <;> omega
theorem jX {x:Int} (h:x.natAbs<=1000000000):(aB x).size<=2000 :=
 Q4_ (n:=x) (k:=10) (Nat.lt_of_le_of_lt h (by decide)) (by decide) (by decide)
theorem o4_:aB 0=⟨#[48]⟩:=by decide +kernel
theorem U2_ (n F:Nat) (P:pN) (C M:pM) (X:pN) (v:Value) (w:World) (hV:cP w v P C M) (hR:jB n F P C M) (hn4:n<=4) (hml:M.length<=n) (hX:f_ M M.length=X) (hb:bw X X.length<=1000000000) (pT:b9 w) (hp:3<w.heap.size) :
  pI 62 #[v] w (.tuple #[.string (aB (bw X X.length)),.string (aB (dK X X.length)),.int .i64 0]):=by
 have hx:∀ x∈X,x.natAbs<=1000000000:=fun x hx=>by
  obtain ⟨i,hi,rfl⟩:=List.mem_iff_getElem.1 hx;have h1:=nO X (show i+1<=X.length by omega);have h2:=kH X i;have h3:bw X (i+1)=bw X i+((X.getD i 0).natAbs:Int):=rfl;rw [oe,oc hi,Option.getD_some] at h3;omega
 have HW:=oZ (fun W (hW:aA w W)=>Z0U n F P C M X v W (hV.ext hW) hR hn4 hml hX hx (pT.ext hW) (ov hp hW.size));have wu:Hid (∀ i,i<X.length->∀ W,aA w W->pI 116 #[.string (aB (bw X i)),.string (aB ((X.getD i 0).natAbs:Int))] W (.string (aB (bw X (i+1))))):=fun i hi W hW=>by
  have h1:=nO X (show i+1<=X.length by omega);have h2:=kH X i;have h3:bw X (i+1)=bw X i+((X.getD i 0).natAbs:Int):=rfl;exact M8_ _ _ W (ow (jX (by omega)) (by decide)) (ow (jX (by omega)) (by decide)) (pT.pow.ext hW)
 have HCM:Hid (∀ i,i<X.length->∀ W,pI 152 #[.string (aB ((X.getD i 0).natAbs:Int)),.string (aB (dK X i))] W (.int .i64 (eA ((X.getD i 0).natAbs:Int) (dK X i)))):=fun i hi W=>by
  have h1:=nO X (show i+1<=X.length by omega);have h2:=kH X i;have h3:bw X (i+1)=bw X i+((X.getD i 0).natAbs:Int):=rfl;have h4:=H8_ X i;exact i8_ _ _ W (ow (jX (by omega)) (by decide)) (ow (jX (by omega)) (by decide))
 have HSH:=oZ (fun W (hW:aA w W)=>Q6_ (bw X X.length) W (by have:=kH X X.length;omega) hb (pT.ext hW));obtain ⟨vp,vc,vm,rfl,qo,r9,rz⟩:=hV;obtain ⟨ap,cp,rfl,-⟩:=qo.open;obtain ⟨ac,cc,rfl,-⟩:=ae.open r9;obtain ⟨am,cm,rfl,-⟩:=ae.open rz;have HZ:=oZ o4_;clear qo r9 rz hR pT hp hb hX hml hn4 hx
 go_enter func62,ntmps62
 obtain ⟨W1,pc,hE1,hs1,hb1⟩:=gU w (.slice ap P.length cp) (.slice ac C.length cc) (.slice am M.length cm);have HE1:=oZ hE1;obtain ⟨b0,b1,b2,-⟩:=cU hb1;clear hE1 hs1 hb1;go_wp2_with fail;refine (HW _ HE1).mono ?_;rintro e w4 ⟨a4,c4,rfl,s5,hE4⟩;clear HW b0 b1 b2 pc;obtain ⟨V5,C2,vZ,hs5,hb5⟩:=kN w4 (.int .i64 0) (.int .i64 0) (.slice none 0 0);have r0:=ah hb5;have f0:=cQ hb5;have HB5:=oZ (lZ hb5 (.int .i64 n) (.int .i64 M.length) (.slice a4 X.length c4));have HX5:=oZ (lW (B:=w4.heap.size) vZ (oz _) (.int .i64 n) (.int .i64 M.length) (.slice a4 X.length c4));obtain ⟨U5,ze⟩:=pK (((V5.setCell ⟨w4.heap.size,0,none⟩ (.int .i64 n)).setCell ⟨w4.heap.size,1,none⟩ (.int .i64 M.length)).setCell ⟨w4.heap.size,2,none⟩ (.slice a4 X.length c4));rw [ze] at HB5 HX5;have HEU:Hid (aA w U5):=(HE1.trans hE4).trans HX5;have hru:=J3_ (aN.ext numC.mono' s5 HX5);have s1:=ah HB5;obtain ⟨a,c,hsl,h1,h2,-,hc⟩:=ae.open hru;simp only [Value.slice.injEq] at hsl;obtain ⟨rfl,-,rfl⟩:=hsl;unfold maxLen at h2;have HC:=oZ hc;clear vZ hs5 hb5 s5 hE4 HX5 hru hc;go_wp2_with fail;clear ze C2 r0 f0 s1
 go_loopw [2,3,21] (fun s m t wr=>∃ i:Nat,i<=X.length/\Hid (s=.string (aB (bw X i)))/\Hid (m=.string (aB (dK X i)))/\t=.int .i64 i/\Hid (aA U5 wr)) (fun _ _ t _=>X.length-(intOf t).toNat)
 case atStart=>exact ⟨0,by omega,by unfold Hid bw;rw [HZ.out],by unfold Hid dK;rw [HZ.out],rfl,aA.refl _⟩
 case round =>
  obtain ⟨i,hi,hs,hm,rfl,HE⟩:=hrel;obtain rfl:=hs.out;obtain rfl:=hm.out;obtain ⟨wo,rfl⟩:∃ wo:World,wo=wr:=⟨_,rfl⟩;have HEo:=oZ (HEU.trans HE);clear hs hm;by_cases hlt:i<X.length
  ·obtain ⟨b,off,rfl,hb,pP⟩:=HC (by intro e;rw [e] at hlt;simp at hlt);obtain ⟨vx,qc,ph⟩:=pP i (X[i]) (oc hlt);obtain rfl:vx=.string (aB (X[i])):=qc;have Ba:X.getD i 0=X[i]:=(by rw [oe,oc hlt,Option.getD_some]);have g1:=HE.cell ph;have HAB:=oZ (fun W=>nP (X[i]) W);rw [<- Ba] at g1 HAB;have HA:=oZ (wu i hlt);have HCC:=oZ (HCM i hlt);have wQ:Hid (dK X (i+1)=if dK X i<((X.getD i 0).natAbs:Int) then ((X.getD i 0).natAbs:Int) else dK X i):=rfl;obtain ⟨x,hx⟩:=pK (X.getD i 0);obtain ⟨y,hy⟩:∃ y:Int,((X.getD i 0).natAbs:Int)=y:=⟨_,rfl⟩;obtain ⟨m0,BU⟩:=pK (dK X i);obtain ⟨m1,qp⟩:=pK (dK X (i+1));rw [hy] at HA HCC wQ HAB;rw [BU] at HCC wQ |-;rw [qp] at wQ;rw [hx] at g1 HAB;have HM1:=oZ qp;clear pP ph Ba hx hy BU qp;go_wp2_with fail;refine q_ (HAB _) (HE.trans) ?_;intro w6 HE6;clear HE HAB g1;go_wp2_with fail;refine q_ (HA _ (HEU.trans HE6)) (HE6.trans) ?_;intro w7 HE7;clear HE6 HA;go_wp2_with fail;refine q_ (HCC _) (HE7.trans) ?_;intro w8 HE8;clear HE7 HCC;by_cases wD:m0<y
   ·have zb:eA y m0=1:=(by unfold eA;rw [if_neg (by omega),if_neg (by omega)]);have hmm:=wQ.out;rw [if_pos wD] at hmm;rw [zb];have HMM:=oZ hmm;clear hmm wD wQ zb;go_wp2_with fail;go_roundw
    case rel=>exact ⟨i+1,by omega,rfl,by unfold Hid;rw [HM1.out,HMM.out],by go_num,HE8⟩
    case measure=>simp [intOf];omega
   ·have zb:¬ (0<eA y m0):=(by unfold eA;split;exact (by decide);split;exact (by decide);omega);have hmm:=wQ.out;rw [if_neg wD] at hmm;have HMM:=oZ hmm;clear hmm wD wQ;go_wp2_with fail;go_roundw
    case rel=>exact ⟨i+1,by omega,rfl,by unfold Hid;rw [HM1.out,HMM.out],by go_num,HE8⟩
    case measure=>simp [intOf];omega
  ·obtain rfl:i=X.length:=(by omega);go_wp2_with fail;refine q_ (HSH _ HEo) (HEo.trans) ?_;intro w9 HE9;clear HSH;go_wp2_with fail;go_ret3;exact ⟨rfl,HE9⟩
def gD (c:Int) (X:pN) (i:Nat):List Int:=(X.take i).map (·*c)++X.drop i
theorem Z15 (c:Int) (X:pN):gD c X 0=X:=by simp [gD]
theorem Z3b (c:Int) (X:pN):gD c X X.length=X.map (c*·):=by
 simp only [gD,List.take_length,List.drop_length,List.append_nil];exact List.map_congr_left fun x _=>Int.mul_comm _ _
theorem n9_ (X:pN) (i:Nat):gD 1 X i=X:=by
 unfold gD;rw [List.map_congr_left (g:=id) (fun x _=>Int.mul_one x),List.map_id,List.take_append_drop]
theorem Z3d (c:Int) (X:pN) (i:Nat):(gD c X i).length=X.length:=by
 unfold gD;rw [pG,List.length_map,om,List.length_drop];omega
theorem Z3c {c:Int} {X:pN} {i:Nat} {x:Int} (h:X[i]?=some x):(gD c X i)[i]?=some x:=by
 have hi:=(od.1 h).1;unfold gD;rw [o8 (by rw [List.length_map,om];omega),List.length_map,om,pF];rw [show i+(i-min i X.length)=i by omega];exact h
theorem Z14 {c:Int} {X:pN} {i:Nat} {x:Int} (h:X[i]?=some x):gD c X (i+1)=(gD c X i).set i (x*c):=by
 have hi:=(od.1 h).1;have hd:X.drop i=x::X.drop (i+1):=by
  rw [List.drop_eq_getElem_cons hi];rw [oc hi] at h;rw [o5 h]
 unfold gD;rw [ou,h,List.map_append,hd,List.set_append_right _ _ (by rw [List.length_map,om];omega),List.length_map,om,show i-min i X.length=0 by omega,List.set_cons_zero,List.append_assoc];rfl
abbrev jh (L:pN) (ex:List Value):Array Value:=(eZ L++ex).toArray
theorem D7_ {L:pN} {ex:List Value} {i:Nat} {x:Int} (h:L[i]?=some x):(jh L ex)[i]?=some (.string (aB x)):=by
 have hi:=(od.1 h).1;unfold jh eZ;rw [pC,o6 (by rw [List.length_map];exact hi),oh,h];rfl
theorem Z0B {L:pN} {ex:List Value} {i:Nat} {y:Int} (hi:i<L.length):(jh L ex).setIfInBounds i (.string (aB y))=jh (L.set i y) ex:=by
 unfold jh eZ;rw [List.setIfInBounds_toArray,List.set_append_left _ _ (by rw [List.length_map];exact hi),List.map_set]
theorem Z05 {w:World} {g cap n:Nat} {L:pN} {ex:List Value} {T:TypeId} (h:w.heap[g]?=some (.cells (jh L ex) T (0,0))) (hn:n=L.length) (hc:L.length<=cap) (hm:cap<=maxLen):aN 1 numC w (.slice (some ⟨g,0,none⟩) n cap) L:=by
 subst hn;have yv:(L.map fun x=>[Value.string (aB x)]).flatten=L.map fun x=>Value.string (aB x):=eR (fun x=>Value.string (aB x)) L;refine ⟨L.map fun x=>[.string (aB x)],by simp,by simp,⟨some ⟨g,0,none⟩,cap,by simp,hc,hm,(fun h=>by cases h),fun _=>⟨g,0,rfl,cG h,fun j u hu=>?_⟩⟩,?_⟩
 ·rw [yv,oh] at hu;cases hx:L[j]? with
  | none=>rw [hx] at hu;cases hu
  | some x =>
   rw [hx] at hu;obtain rfl:Value.string (aB x)=u:=o5 hu;rw [ah h,Nat.zero_add];exact D7_ hx
 ·intro j u x hu hx;rw [oh,hx] at hu;exact (o5 hu).symm
theorem f7_ {w:World} {base:Nat} {v:Value} {L:pN} (h:w.ownsRow base 92 1 v L.length (eZ L)) (hL:L≠[]):∃ g cap ex,v=.slice (some ⟨g,0,none⟩) L.length cap/\base<=g/\L.length<=cap/\cap<=maxLen/\w.heap[g]?=some (.cells (jh L ex) 92 (0,0)):=by
 obtain ⟨-,h2⟩:=h;rcases h2 with ⟨-,h2⟩ | ⟨g,cap,cur,hv,hg,hh,h3,h4,h5,h6⟩
 ·exact absurd (List.length_eq_zero_iff.1 h2) hL
 ·refine ⟨g,cap,cur.toList.drop (L.length*1),hv,hg,h3,h4,?_⟩;rw [hh];unfold jh;rw [<- h6,List.take_append_drop]
theorem Z0P {S:Nat->Prop} {w w':World} {B:Nat} {o:Obj} (h:aH S w w') (hb:w.heap[B]?=some o) (hS:¬ S B):w'.heap[B]?=some o:=by
 rw [<- hb];exact h.block B (cG hb) hS
theorem Z2j {S:Nat->Prop} {w w' w'':World} (h:aA w w') (k:aH S w' w'') (hS:∀ j,j<w.heap.size->¬ S j):aA w w'' :=
 ⟨k.os.trans h.os,k.tape.trans h.tape,k.output.trans h.output,ow h.size k.size,fun j hj=>(k.block j (ov hj h.size) (hS j hj)).trans (h.block j hj)⟩
theorem Z77 {n:Nat} {m:pM} (pv:1<=n) (hn:n<=4) (hm:m.length<=4) (hw:∀ x∈m,x.length=n) (h9:∀ x∈m,aT 9 x) (P:pN) (hP:eF P=0) (hPl:P.length=n) (vals:Bool) :
  ∃ F R A S C M,fF n F m R A S/\(if vals then A else S)=C/\(if vals then S else A)=M/\fF n F C C M C/\fF n F M M C M/\jE n F P m C M vals:=by
 obtain ⟨F,R,A,S,h1,h2,h3,h4,h5⟩:=Z3q pv hn hm hw h9 P hP hPl;cases vals;·exact ⟨F,R,A,S,S,A,h1,rfl,rfl,h2,h3,h4⟩
 ·exact ⟨F,R,A,S,A,S,h1,rfl,rfl,h3,h2,h5⟩
theorem f6_ {n:Nat} {m:pM} (hm:ak n m) {u v:pN} (hv:fe n m v) (hu:cV n m u):bD u v n=0:=by
 obtain ⟨hl,D,hD,hs⟩:=hv;have h:=mJ hm hs hu;rw [fP,nk] at h;rcases Int.mul_eq_zero.1 h with h | h;·exact absurd h hD
 ·exact h
theorem Z3O {n:Nat} {C:pM} {x:pN} (hx:x∈C):Sp n (aG 0 C) x:=by
 obtain ⟨i,hi,rfl⟩:=jN hx;exact .mem ⟨i,Nat.zero_le _,hi,rfl⟩
theorem G0_ {w:World} {B:Nat} {x y z:Value} (h:w.heap[B]?=some (.cells #[x,y,z] 24 (0,0))):w.cell? ⟨B,0,none⟩=some x/\w.cell? ⟨B,1,none⟩=some y/\w.cell? ⟨B,2,none⟩=some z:=by
 have h0:=ah h 0;have h1:=ah h 1;have h2:=ah h 2;simp only [pC,o_,o9] at h0 h1 h2;exact ⟨h0,h1,h2⟩
theorem Z7a {n:Nat} {m:pM} (hm:∀ x∈m,x.length=n) {x:pN} (hx:x∈m):fe n m x:=by
 refine ⟨hm x hx,1,by decide,?_⟩;have:bX 1 x=x:=by unfold bX;simp
 rw [this];exact Z3O hx
theorem Z6b {n F:Nat} {P:pN} {m C M:pM} {vals:Bool} (hn:n<=4) (hm:∀ x∈m,x.length=n) (h9:∀ x∈m,aT 9 x) (hT:jE n F P m C M vals) {v:pN} (h:cV n M v):Sp n (aG 0 C) v:=by
 have hW:ak n m:=fun i hi=>hm _ (eM hi);have D6:ak n M:=fun i hi=>(hT.right.bM _ (eM hi)).2;rw [hT.spC];cases vals
 ·simp only [Bool.false_eq_true,if_false];have hg:=gsz hn;obtain ⟨-,T,qs,-,-,-,-,-,-,b7⟩:=n9 n 9 6 26 m hm h9 (by decide) (by decide) (ow (oB hn) (by decide)) hg.1 hg.2.1 hg.2.2.1 hg.2.2.2;obtain ⟨D,hD,hs⟩:=b7 v h.1 fun u hu=>mJ D6 ((hT.spM u).2 (by simpa using hu)) h;exact ⟨h.1,D,hD,hs⟩
 ·simp only [if_true];exact ⟨h.1,fun i hi=>mJ D6 ((hT.spM _).2 (by simpa using Z7a hm (eM hi))) h⟩
theorem Z6q {n F:Nat} {P:pN} {m C M:pM} {vals:Bool} (hm:∀ x∈m,x.length=n) (hT:jE n F P m C M vals) {v:pN} (h:Sp n (aG 0 C) v) {r:pN} (hr:r∈M):bD r v n=0:=by
 have hW:ak n m:=fun i hi=>hm _ (eM hi);have h1:=(hT.spC v).1 h;have h2:=(hT.spM r).1 (Z3O hr);cases vals
 ·simp only [Bool.false_eq_true,if_false] at h1 h2;exact f6_ hW h1 h2
 ·simp only [if_true] at h1 h2;rw [fP];exact f6_ hW h2 h1
theorem c3_ {c d:Nat} {m:pM}:∀ {k a:Nat},ao c d m k=some a->d<=a
 | 0,a,h=>by cases h
 | k+1,a,h=>by
  unfold ao at h;cases hb:ao c d m k with
  | none =>
   rw [hb] at h;simp only at h
   split at h
   ·cases h
   ·cases h;omega
  | some b =>
   rw [hb] at h;simp only at h;have:=c3_ hb
   split at h
   ·cases h;omega
   ·cases h;exact this
def dV (n c d:Nat):Nat->pM->Option (pM×Bool)
 | 0,_=>none
 | f+1,m =>
  if bH n m then
   match ao c d m (m.length-d) with
   | none=>some (m,false)
   | some a=>match cH c d (a8 m d a) (m.length-(d+1)) with
    | none=>none
    | some (m2,true)=>dV n c d f m2
    | some (m2,false)=>some (m2,true)
  else none
theorem jG (n c d f:Nat) (m:pM):dV n c d (f+1) m=if bH n m then
   match ao c d m (m.length-d) with
   | none=>some (m,false)
   | some a=>match cH c d (a8 m d a) (m.length-(d+1)) with
    | none=>none
    | some (m2,true)=>dV n c d f m2
    | some (m2,false)=>some (m2,true)
  else none:=rfl
def upW (c d:Nat) (m:pM):Option (pM):=dC c d (if aC m d c<0 then m.set d ((aD m d).map (- ·)) else m) d
theorem k8_ (n c d:Nat):∀ (F:Nat) (m:pM),db n c d F m=match dV n c d F m with
  | none=>none
  | some (m',false)=>some (m',false)
  | some (m',true)=>if bH n m' then (match upW c d m' with | none=>none | some m4=>some (m4,true)) else none
 | 0,_=>rfl
 | F+1,m=>by
  rw [jG];unfold db;by_cases h:bH n m=true
  ·rw [if_pos h,if_pos h];cases ao c d m (m.length-d) with
   | none=>rfl
   | some a =>
    simp only;cases cH c d (a8 m d a) (m.length-(d+1)) with
    | none=>rfl
    | some r =>
     obtain ⟨m2,b⟩:=r;cases b;·rfl
     ·exact k8_ n c d F m2
  ·rw [if_neg h,if_neg h]
def bN (n k:Nat):List Nat:=if k=n then [] else aO n (k+1)
def bh (n k:Nat) (X:pN) (i s:Nat):Int:=if s.testBit i=true then dZ (X.getD (cl n k (s ^^^ (1 <<< i))) 0) (ep (1 <<< i) (s ^^^ (1 <<< i))) else 0
def Z5q (n i:Nat):List Int:=(List.replicate n (0:Int)).set i 1
def iM (n k:Nat) (X:pN) (i:Nat):List Int:=(bN n k).map (bh n k X i)++Z5q n i
def cJ (n k:Nat) (X:pN):pM:=(List.range n).map (iM n k X)
def fi (N F:Nat) (m:pM):Nat->Option (pM×Nat)
 | 0=>some (m,0)
 | c+1=>match fi N F m c with
  | none=>none
  | some (m1,d)=>match dV N c d F m1 with
   | none=>none
   | some (m2,p)=>some (m2,if p then d+1 else d)
theorem kW (N F:Nat) (m:pM) (c:Nat):fi N F m (c+1)=match fi N F m c with
  | none=>none
  | some (m1,d)=>match dV N c d F m1 with
   | none=>none
   | some (m2,p)=>some (m2,if p then d+1 else d):=rfl
def jK (F n k:Nat) (X:pN):Option (pM) :=
 match fi ((bN n k).length+n) F (cJ n k X) (bN n k).length with
 | none=>none
 | some (m,d)=>some ((m.drop d).map (·.drop (bN n k).length))
def lJ (n F:Nat) (m:pM):Option (pM):=(cB n F n 0 0 m).map (·.1)
theorem jJ {n k i s:Nat} {X:pN} (h:s.testBit i=true):bh n k X i s=dZ (X.getD (cl n k (s ^^^ (1 <<< i))) 0) (ep (1 <<< i) (s ^^^ (1 <<< i))):=if_pos h
theorem jt {n k i s:Nat} {X:pN} (h:s.testBit i=false):bh n k X i s=0:=if_neg (by rw [h];decide)
theorem nY {n c d:Nat}:∀ {F:Nat} {m m':pM} {p:Bool},dV n c d F m=some (m',p)->d<=m.length->m'.length=m.length/\(p=true->d<m.length)/\(∀ i,i<d->aD m' i=aD m i)
 | 0,m,m',p,h,_=>by cases h
 | F+1,m,m',p,h,hd=>by
  rw [jG] at h;by_cases hok:bH n m=true
  ·rw [if_pos hok] at h;cases hb:ao c d m (m.length-d) with
   | none =>
    rw [hb] at h;simp only [Option.some.injEq,Prod.mk.injEq] at h;obtain ⟨rfl,rfl⟩:=h;exact ⟨rfl,(fun e=>by cases e),fun _ _=>rfl⟩
   | some a =>
    rw [hb] at h;simp only at h;have hdl:d<m.length:=by
     by_cases e:d<m.length;·exact e
     ·rw [show m.length-d=0 by omega] at hb;cases hb
    cases qJ:cH c d (a8 m d a) (m.length-(d+1)) with
    | none=>rw [qJ] at h;cases h
    | some r =>
     obtain ⟨m2,b⟩:=r;rw [qJ] at h;obtain ⟨k1,k2,k3⟩:=kQ qJ (by rw [j5];omega);rw [j5] at k1;have k4:∀ i,i<d->aD m2 i=aD m i:=fun i hi=>by
      rw [k2 i (by omega)];have hsw:(a8 m d a)[i]?=m[i]?:=by
       unfold a8
       split
       ·rename_i x y hx hy;have Lm:a≠i\/¬ a<m.length:=by
         by_cases e:a=i;·exact absurd (c3_ hb) (by omega)
         ·exact .inl e
        rw [pH,pH];rw [if_neg (by rcases Lm with e | e;exact e;intro e2;omega),if_neg (by omega)]
       ·rfl
      unfold aD;rw [oe,oe,hsw]
     cases b with
     | false =>
      simp only [Option.some.injEq,Prod.mk.injEq] at h;obtain ⟨rfl,rfl⟩:=h;exact ⟨k1,fun _=>hdl,k4⟩
     | true =>
      have ih:=nY (F:=F) h (by omega);exact ⟨by rw [ih.1,k1],fun _=>hdl,fun i hi=>by rw [ih.2.2 i hi,k4 i hi]⟩
  ·rw [if_neg hok] at h;cases h
theorem o8_ {N F : Nat} {m : pM} {C : Nat} : ∀ {y}, fi N F m C = some y -> ∀ j, j <= C -> ∃ z, fi N F m j = some z := by
  induction C with
  | zero => intro y h j hj; obtain rfl : j = 0 := by omega
            exact ⟨y, h⟩
  | succ C ih =>
    intro y h j hj;by_cases he : j = C + 1;· subst he; exact ⟨y, h⟩
    · rw [kW] at h
      cases hc : fi N F m C with
      | none => rw [hc] at h; cases h
      | some z => exact ih hc j (by omega)
theorem H5_ {N F:Nat} {m:pM}:∀ (C:Nat) {m1:pM} {d:Nat},fi N F m C=some (m1,d)->m1.length=m.length/\d<=m.length
 | 0,m1,d,h=>by
  have h:some (m,0)=some (m1,d):=h;simp only [Option.some.injEq,Prod.mk.injEq] at h;obtain ⟨rfl,rfl⟩:=h;exact ⟨rfl,Nat.zero_le _⟩
 | C+1,m1,d,h=>by
  rw [kW] at h;cases hc:fi N F m C with
  | none=>rw [hc] at h;cases h
  | some z =>
   obtain ⟨m0,d0⟩:=z;rw [hc] at h;simp only at h;obtain ⟨l1,l2⟩:=H5_ C hc;cases hw:dV N C d0 F m0 with
   | none=>rw [hw] at h;cases h
   | some r =>
    obtain ⟨m2,p⟩:=r;rw [hw] at h;simp only [Option.some.injEq,Prod.mk.injEq] at h;obtain ⟨rfl,rfl⟩:=h;obtain ⟨q1,q2,-⟩:=nY hw (by omega);refine ⟨by omega,?_⟩;cases p;·exact l2
    ·have:=q2 rfl;simp;omega
structure CoR (n d c C U:Nat) (m m':pM):Prop where
 len:m'.length=m.length
 wid:ak n m'
 low:ev d C m'
 upp:eU d U m'
 pos:aC m' d c≠0
 zero:∀ i,d<i->i<m.length->aC m' i c=0
theorem c7_ {n c d a f:Nat} {m m2:pM} (hok:bH n m=true) (ha:ao c d m (m.length-d)=some a) (qJ:cH c d (a8 m d a) (m.length-(d+1))=some (m2,true)):dV n c d (f+1) m=dV n c d f m2:=by
 rw [jG,if_pos hok,ha];simp only;rw [qJ]
theorem q4_ {n c d a f K C U:Nat} {m m2:pM} (hK:K<=400000000) (h1:1<=K) (hd:d<m.length) (hok:bH n m=true) (ha:ao c d m (m.length-d)=some a) (qJ:cH c d (a8 m d a) (m.length-(d+1))=some (m2,false))
  (l2:m2.length=m.length) (hw:ak n m2) (hC:ev d C m2) (hU:eU d U m2) (hp:aC m2 d c≠0) (hz:∀ i,d<i->i<m.length->aC m2 i c=0) (x4:C<10^K) (sv:U+2<10^K) :
  ∃ m',dV n c d (f+1) m=some (m',true)/\CoR n d c C U m m' :=
 ⟨m2,by rw [jG,if_pos hok,ha];simp only;rw [qJ],⟨l2,hw,hC,hU,hp,hz⟩⟩
theorem c6_ {n c d K U Y:Nat} (hK:K<=400000000) (h1:1<=K) (Aa:2*Y+2<10^K) (sv:U+2<10^K) (pos:Bool) :
  ∀ (F:Nat) (m:pM) (B M a:Nat),d<m.length->ak n m->ev d B m->eU d U m->jb d c M m->mD d c pos m->ao c d m (m.length-d)=some a->B*(M*M*(aC m a c).natAbs)<=Y->(aC m a c).natAbs<F ->
   ∃ m',dV n c d F m=some (m',true)/\CoR n d c (2*Y) U m m'
 | 0,m,B,M,a,_,_,_,_,_,_,_,_,hF=>by omega
 | f+1,m,B,M,a,hd,hw,hB,hU,hM,hS,ha,hY,hF=>by
  obtain ⟨b1,b2,b3,b4⟩:=iH ha;have qV:a<m.length:=by omega
  obtain ⟨p,hp⟩:=pL ((aC m a c).natAbs);rw [<- hp] at hY hF;have hp1:1<=p:=by omega
  have E3:p<=M:=by rw [hp];exact hM a b1 qV
  have Gf:M*B<=Y:=by
   refine ow ?_ hY;rw [Nat.mul_comm M B];refine Nat.mul_le_mul_left _ ?_
   calc M=M*1*1:=by omega
    _<=M*M*p:=Nat.mul_le_mul (Nat.mul_le_mul_left _ (by omega)) hp1
  have MF:B<=Y:=ow (Nat.le_mul_of_pos_left B (by omega)) Gf;have tV:∀ i,d<=i->i<m.length->Z48 (aC m i c) (aC m a c):=by
   intro i h2 h3;have s1:=hS i h2 h3;have s2:=hS a b1 qV;cases pos;·exact .inr ⟨by simpa using s1,by have:aC m a c<=0:=(by simpa using s2);omega⟩
   ·exact .inl ⟨by simpa using s1,by have:0<=aC m a c:=(by simpa using s2);omega⟩
  have hQ:∀ i,d<=i->i<m.length->(aL (aC m i c) (aC m a c)).natAbs<=M / p:=by
   intro i h2 h3;rw [Nat.le_div_iff_mul_le (by omega),hp];exact ow (mX _ _ (tV i h2 h3)).1 (hM i h2 h3)
  obtain ⟨m2,rest,e1,l2,w2,xB,xA,p2,r2,c2,z2,t2⟩:=K3_ hK h1 hd hw hB hU hM ha (by omega) hQ;have At:(B+M / p*B)*p<=2*(M*B):=by
   rw [Nat.add_mul];have h5:B*p<=M*B:=(by rw [Nat.mul_comm M B];exact Nat.mul_le_mul_left _ E3);have h6:M / p*B*p<=M*B:=by
    rw [Nat.mul_right_comm];exact Nat.mul_le_mul_right _ (Nat.div_mul_le_self M p)
   omega
  have hok:bH n m=true:=mn hK h1 hw hB hU (by omega) (by omega);cases rest with
  | false =>
   have As:B+M / p*B<=2*Y:=by
    have:B+M / p*B<=(B+M / p*B)*p:=Nat.le_mul_of_pos_right _ (by omega);omega
   exact q4_ hK h1 hd hok ha e1 l2 w2 (fun i h2 h3=>(xB i h2 h3).mono As) xA (by rw [p2];exact b3) (z2 rfl) (by omega) sv
  | true =>
   obtain ⟨i,i1,i2,i3⟩:=t2 rfl;obtain ⟨k,k1,k2,k3⟩:=c2 i i1 i2;obtain ⟨a',xq⟩:∃ a',ao c d m2 (m2.length-d)=some a':=by
    cases hb:ao c d m2 (m2.length-d) with
    | none=>exact absurd (kI hb i (by omega) (by omega)) i3
    | some a'=>exact ⟨a',rfl⟩
   obtain ⟨q1,q2,q3,q4⟩:=iH xq;obtain ⟨p',sD⟩:∃ p',p'=(aC m2 a' c).natAbs:=⟨_,rfl⟩;have yj:p'<=(aC m2 i c).natAbs:=(by rw [sD];exact q4 i (by omega) (by omega) i3);have hfs:=mX _ _ (tV k k1 k2);have hlt:(aC m2 i c).natAbs<p:=(by rw [k3,hp];exact (ie _ _ b3).2);have xd:2*p'<=M:=by
    have qt:aC m k c≠0:=by
     intro h0;have h9:=hfs.2.1;rw [<- k3,h0] at h9;simp only [Int.natAbs_zero] at h9;omega
    have h7:=hfs.2.2.2 (b4 k k1 (by omega) qt);have h8:=hM k k1 k2;rw [<- k3] at h7;omega
   have rk:jb d c p m2:=by
    intro j j1 j2;by_cases hj:j=d;·rw [hj,p2,hp];exact oz _
    ·obtain ⟨k',xE,xC,sy⟩:=c2 j (by omega) (by omega);rw [sy,hp];exact Nat.le_of_lt (ie _ _ b3).2
   have vd:mD d c pos m2:=by
    intro j j1 j2;by_cases hj:j=d;·rw [hj,p2];exact hS a b1 qV
    ·obtain ⟨k',xE,xC,sy⟩:=c2 j (by omega) (by omega);rw [sy];have s2:=hS a b1 qV;have h9:=(mX _ _ (tV k' xE xC)).2.2.1;cases pos
     ·have:aC m a c<=0:=(by simpa using s2);have:bF (aC m k' c) (aC m a c)<=0:=by rcases h9 with ⟨g1,g2⟩ | ⟨g1,g2⟩ <;> omega
      simpa using this
     ·have:0<=aC m a c:=(by simpa using s2);have:0<=bF (aC m k' c) (aC m a c):=by rcases h9 with ⟨g1,g2⟩ | ⟨g1,g2⟩ <;> omega
      simpa using this
   have Ab:(B+M / p*B)*(p*p*(aC m2 a' c).natAbs)<=Y:=by
    rw [<- sD]
    calc (B+M / p*B)*(p*p*p')=(B+M / p*B)*p*(p*p'):=by simp only [Nat.mul_assoc]
     _<=2*(M*B)*(p*p'):=Nat.mul_le_mul_right _ At
     _=M*B*p*(2*p'):=by simp only [Nat.mul_assoc,Nat.mul_left_comm,Nat.mul_comm]
     _<=M*B*p*M:=Nat.mul_le_mul_left _ xd
     _=B*(M*M*p):=by simp only [Nat.mul_assoc,Nat.mul_left_comm,Nat.mul_comm]
     _<=Y:=hY
   obtain ⟨m',e',s'⟩:=c6_ hK h1 Aa sv pos f m2 (B+M / p*B) p a' (by omega) w2 xB xA rk vd xq Ab (by omega);exact ⟨m',(c7_ hok ha e1).trans e',⟨s'.len.trans l2,s'.wid,s'.low,s'.upp,s'.pos,by rw [<- l2];exact s'.zero⟩⟩
theorem Z6U {n c d K U B F:Nat} {m:pM} (hK:K<=400000000) (h1:1<=K) (Aa:2*(3*(B*B*(B*B)))+2<10^K) (vh:B+2<10^K) (sv:U+2<10^K) (hF:B<F) (hd:d<m.length) (hw:ak n m) (hB:ev d B m) (hU:eU d U m) :
  (dV n c d F m=some (m,false)/\∀ i,d<=i->i<m.length->aC m i c=0)\/∃ m',dV n c d F m=some (m',true)/\CoR n d c (2*(3*(B*B*(B*B)))) U m m':=by
 obtain ⟨f,rfl⟩:∃ f,F=f+1:=⟨F-1,by omega⟩;have hok:bH n m=true:=mn hK h1 hw hB hU (by omega) (by omega);cases ha:ao c d m (m.length-d) with
 | none=>exact .inl ⟨by rw [jG,if_pos hok,ha],fun i h2 h3=>kI ha i h2 (by omega)⟩
 | some a =>
  right;obtain ⟨b1,b2,b3,b4⟩:=iH ha;have qV:a<m.length:=by omega
  obtain ⟨p,hp⟩:∃ p,p=(aC m a c).natAbs:=⟨_,rfl⟩;have hM:jb d c B m:=fun i h2 h3=>(hB i h2 h3).getD c;have hp1:1<=p:=by omega
  have CQ:p<=B:=by rw [hp];exact hM a b1 qV
  have hQ:∀ i,d<=i->i<m.length->(aL (aC m i c) (aC m a c)).natAbs<=(2*B) / p:=by
   intro i h2 h3;rw [Nat.le_div_iff_mul_le (by omega),hp];have h5:=(ie (aC m i c) (aC m a c) b3).1;have h6:=hM i h2 h3;omega
  obtain ⟨m2,rest,e1,l2,w2,xB,xA,p2,r2,c2,z2,t2⟩:=K3_ hK h1 hd hw hB hU hM ha vh hQ;have At:(B+(2*B) / p*B)*p<=3*(B*B):=by
   rw [Nat.add_mul];have h5:B*p<=B*B:=Nat.mul_le_mul_left _ CQ;have h6:(2*B) / p*B*p<=2*B*B:=by
    rw [Nat.mul_right_comm];exact Nat.mul_le_mul_right _ (Nat.div_mul_le_self _ p)
   have h7:2*B*B=2*(B*B):=Nat.mul_assoc _ _ _;omega
  have MG:B*B<=B*B*(B*B):=Nat.le_mul_of_pos_right _ (Nat.mul_pos (by omega) (by omega));cases rest with
  | false =>
   have As:B+(2*B) / p*B<=2*(3*(B*B*(B*B))):=by
    have:B+(2*B) / p*B<=(B+(2*B) / p*B)*p:=Nat.le_mul_of_pos_right _ (by omega);omega
   exact q4_ hK h1 hd hok ha e1 l2 w2 (fun i h2 h3=>(xB i h2 h3).mono As) xA (by rw [p2];exact b3) (z2 rfl) (by omega) sv
  | true =>
   obtain ⟨i,i1,i2,i3⟩:=t2 rfl;obtain ⟨k,k1,k2,k3⟩:=c2 i i1 i2;obtain ⟨a',xq⟩:∃ a',ao c d m2 (m2.length-d)=some a':=by
    cases hb:ao c d m2 (m2.length-d) with
    | none=>exact absurd (kI hb i (by omega) (by omega)) i3
    | some a'=>exact ⟨a',rfl⟩
   obtain ⟨q1,q2,q3,q4⟩:=iH xq;obtain ⟨p',sD⟩:∃ p',p'=(aC m2 a' c).natAbs:=⟨_,rfl⟩;have yj:p'<=(aC m2 i c).natAbs:=(by rw [sD];exact q4 i (by omega) (by omega) i3);have hlt:(aC m2 i c).natAbs<p:=(by rw [k3,hp];exact (ie _ _ b3).2);have rk:jb d c p m2:=by
    intro j j1 j2;by_cases hj:j=d;·rw [hj,p2,hp];exact oz _
    ·obtain ⟨k',xE,xC,sy⟩:=c2 j (by omega) (by omega);rw [sy,hp];exact Nat.le_of_lt (ie _ _ b3).2
   have vd:mD d c (decide (0<aC m a c)) m2:=by
    intro j j1 j2;have xa:0<aC m a c->0<=aC m2 j c:=by
     intro hpos;by_cases hj:j=d;·rw [hj,p2];omega
     ·obtain ⟨k',xE,xC,sy⟩:=c2 j (by omega) (by omega);rw [sy];exact (lG _ _ hpos).1
    have FV:aC m a c<0->aC m2 j c<=0:=by
     intro hneg;by_cases hj:j=d;·rw [hj,p2];omega
     ·obtain ⟨k',xE,xC,sy⟩:=c2 j (by omega) (by omega);rw [sy];exact (nt _ _ hneg).2
    by_cases hpos:0<aC m a c;·simp only [hpos,decide_true,if_true];exact xa hpos
    ·simp only [hpos,decide_false];exact FV (by omega)
   have Ab:(B+(2*B) / p*B)*(p*p*(aC m2 a' c).natAbs)<=3*(B*B*(B*B)):=by
    rw [<- sD]
    calc (B+(2*B) / p*B)*(p*p*p')=(B+(2*B) / p*B)*p*(p*p'):=by simp only [Nat.mul_assoc]
     _<=3*(B*B)*(p*p'):=Nat.mul_le_mul_right _ At
     _<=3*(B*B)*(B*B):=Nat.mul_le_mul_left _ (Nat.mul_le_mul CQ (by omega))
     _=3*(B*B*(B*B)):=Nat.mul_assoc _ _ _
   obtain ⟨m',e',s'⟩:=c6_ hK h1 Aa sv (decide (0<aC m a c)) f m2 (B+(2*B) / p*B) p a' (by omega) w2 xB xA rk vd xq Ab (by omega);exact ⟨m',(c7_ hok ha e1).trans e',⟨s'.len.trans l2,s'.wid,s'.low,s'.upp,s'.pos,by rw [<- l2];exact s'.zero⟩⟩
end Go.Proofs.YtoonaddcfakamaaGreatDoor
