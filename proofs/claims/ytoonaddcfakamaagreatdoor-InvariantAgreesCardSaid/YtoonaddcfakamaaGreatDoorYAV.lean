import Derived.Test.YtoonaddcfakamaaGreatDoorYAG
import Derived.Test.YtoonaddcfakamaaGreatDoorYAU
import Derived.Test.YtoonaddcfakamaaGreatDoorYAI
import Derived.Test.YtoonaddcfakamaaGreatDoorYAN
import Derived.Test.YtoonaddcfakamaaGreatDoorYAH
import Derived.Test.YtoonaddcfakamaaGreatDoorYAT
import Derived.Test.YtoonaddcfakamaaGreatDoorYAE
set_option linter.unusedVariables false
set_option linter.unusedSimpArgs false
namespace Go.Proofs.YtoonaddcfakamaaGreatDoor
open Go.RowKit
structure CoR (n d c C U:Nat) (m m':oP):Prop where
 len:m'.length=m.length
 wid:ae n m'
 low:ea d C m'
 upp:eK d U m'
 pos:aD m' d c≠0
 zero:∀ i,d<i->i<m.length->aD m' i c=0
theorem g2_ {n c d a f:Nat} {m m2:oP} (og:bV n m=true) (ha:bQ c d m (m.length-d)=some a) (qC:dL c d (bF m d a) (m.length-(d+1))=some (m2,true)):fy n c d (f+1) m=fy n c d f m2:=by
 rw [mh,if_pos og,ha];simp only;rw [qC]
theorem s0_ {n c d a f K C U:Nat} {m m2:oP} (hK:K<=400000000) (h1:1<=K) (hd:d<m.length) (og:bV n m=true) (ha:bQ c d m (m.length-d)=some a) (qC:dL c d (bF m d a) (m.length-(d+1))=some (m2,false))
  (l2:m2.length=m.length) (hw:ae n m2) (hC:ea d C m2) (hU:eK d U m2) (hp:aD m2 d c≠0) (hz:∀ i,d<i->i<m.length->aD m2 i c=0) (yO:C<10^K) (rP:U+2<10^K) :
  ∃ m',fy n c d (f+1) m=some (m',true)/\CoR n d c C U m m' :=
 ⟨m2,by rw [mh,if_pos og,ha];simp only;rw [qC],⟨l2,hw,hC,hU,hp,hz⟩⟩
theorem g1_ {n c d K U Y:Nat} (hK:K<=400000000) (h1:1<=K) (zF:2*Y+2<10^K) (rP:U+2<10^K) (pos:Bool) :
  ∀ (F:Nat) (m:oP) (B M a:Nat),d<m.length->ae n m->ea d B m->eK d U m->iz d c M m->lE d c pos m->bQ c d m (m.length-d)=some a->B*(M*M*(aD m a c).natAbs)<=Y->(aD m a c).natAbs<F ->
   ∃ m',fy n c d F m=some (m',true)/\CoR n d c (2*Y) U m m'
 | 0,m,B,M,a,_,_,_,_,_,_,_,_,hF=>by omega
 | f+1,m,B,M,a,hd,hw,hB,hU,hM,hS,ha,hY,hF=>by
  obtain ⟨b1,b2,b3,b4⟩:=gY ha;have pT:a<m.length:=by omega
  obtain ⟨p,hp⟩:=oO ((aD m a c).natAbs);rw [<- hp] at hY hF;have hp1:1<=p:=by omega
  have EC:p<=M:=by rw [hp];exact hM a b1 pT
  have Fm:M*B<=Y:=by
   refine n8 ?_ hY;rw [Nat.mul_comm M B];refine Nat.mul_le_mul_left _ ?_
   calc M=M*1*1:=by omega
    _<=M*M*p:=Nat.mul_le_mul (Nat.mul_le_mul_left _ (by omega)) hp1
  have K7:B<=Y:=n8 (Nat.le_mul_of_pos_left B (by omega)) Fm;have tG:∀ i,d<=i->i<m.length->Z2L (aD m i c) (aD m a c):=by
   intro i h2 h3;have s1:=hS i h2 h3;have s2:=hS a b1 pT;cases pos;·exact .inr ⟨by simpa using s1,by have:aD m a c<=0:=(by simpa using s2);omega⟩
   ·exact .inl ⟨by simpa using s1,by have:0<=aD m a c:=(by simpa using s2);omega⟩
  have hQ:∀ i,d<=i->i<m.length->(aQ (aD m i c) (aD m a c)).natAbs<=M / p:=by
   intro i h2 h3;rw [Nat.le_div_iff_mul_le (by omega),hp];exact n8 (lf _ _ (tG i h2 h3)).1 (hM i h2 h3)
  obtain ⟨m2,rest,e1,l2,w2,vM,vL,p2,r2,c2,z2,t2⟩:=L5_ hK h1 hd hw hB hU hM ha (by omega) hQ;have zV:(B+M / p*B)*p<=2*(M*B):=by
   rw [Nat.add_mul];have h5:B*p<=M*B:=(by rw [Nat.mul_comm M B];exact Nat.mul_le_mul_left _ EC);have h6:M / p*B*p<=M*B:=by
    rw [Nat.mul_right_comm];exact Nat.mul_le_mul_right _ (Nat.div_mul_le_self M p)
   omega
  have og:bV n m=true:=lu hK h1 hw hB hU (by omega) (by omega);cases rest with
  | false =>
   have zU:B+M / p*B<=2*Y:=by
    have:B+M / p*B<=(B+M / p*B)*p:=Nat.le_mul_of_pos_right _ (by omega);omega
   exact s0_ hK h1 hd og ha e1 l2 w2 (fun i h2 h3=>(vM i h2 h3).mono zU) vL (by rw [p2];exact b3) (z2 rfl) (by omega) rP
  | true =>
   obtain ⟨i,i1,i2,i3⟩:=t2 rfl;obtain ⟨k,k1,k2,k3⟩:=c2 i i1 i2;obtain ⟨a',wD⟩:∃ a',bQ c d m2 (m2.length-d)=some a':=by
    cases hb:bQ c d m2 (m2.length-d) with
    | none=>exact absurd (jh hb i (by omega) (by omega)) i3
    | some a'=>exact ⟨a',rfl⟩
   obtain ⟨q1,q2,q3,q4⟩:=gY wD;obtain ⟨p',qj⟩:∃ p',p'=(aD m2 a' c).natAbs:=⟨_,rfl⟩;have xN:p'<=(aD m2 i c).natAbs:=(by rw [qj];exact q4 i (by omega) (by omega) i3);have hfs:=lf _ _ (tG k k1 k2);have hlt:(aD m2 i c).natAbs<p:=(by rw [k3,hp];exact (iC _ _ b3).2);have vq:2*p'<=M:=by
    have qx:aD m k c≠0:=by
     intro h0;have h9:=hfs.2.1;rw [<- k3,h0] at h9;simp only [Int.natAbs_zero] at h9;omega
    have h7:=hfs.2.2.2 (b4 k k1 (by omega) qx);have h8:=hM k k1 k2;rw [<- k3] at h7;omega
   have qR:iz d c p m2:=by
    intro j j1 j2;by_cases hj:j=d;·rw [hj,p2,hp];exact n9 _
    ·obtain ⟨k',vP,vO,rX⟩:=c2 j (by omega) (by omega);rw [rX,hp];exact Nat.le_of_lt (iC _ _ b3).2
   have s7:lE d c pos m2:=by
    intro j j1 j2;by_cases hj:j=d;·rw [hj,p2];exact hS a b1 pT
    ·obtain ⟨k',vP,vO,rX⟩:=c2 j (by omega) (by omega);rw [rX];have s2:=hS a b1 pT;have h9:=(lf _ _ (tG k' vP vO)).2.2.1;cases pos
     ·have:aD m a c<=0:=(by simpa using s2);have:bK (aD m k' c) (aD m a c)<=0:=by rcases h9 with ⟨g1,g2⟩ | ⟨g1,g2⟩ <;> omega
      simpa using this
     ·have:0<=aD m a c:=(by simpa using s2);have:0<=bK (aD m k' c) (aD m a c):=by rcases h9 with ⟨g1,g2⟩ | ⟨g1,g2⟩ <;> omega
      simpa using this
   have zG:(B+M / p*B)*(p*p*(aD m2 a' c).natAbs)<=Y:=by
    rw [<- qj]
    calc (B+M / p*B)*(p*p*p')=(B+M / p*B)*p*(p*p'):=by simp only [Nat.mul_assoc]
     _<=2*(M*B)*(p*p'):=Nat.mul_le_mul_right _ zV
     _=M*B*p*(2*p'):=by simp only [Nat.mul_assoc,Nat.mul_left_comm,Nat.mul_comm]
     _<=M*B*p*M:=Nat.mul_le_mul_left _ vq
     _=B*(M*M*p):=by simp only [Nat.mul_assoc,Nat.mul_left_comm,Nat.mul_comm]
     _<=Y:=hY
   obtain ⟨m',e',s'⟩:=g1_ hK h1 zF rP pos f m2 (B+M / p*B) p a' (by omega) w2 vM vL qR s7 wD zG (by omega);exact ⟨m',(g2_ og ha e1).trans e',⟨s'.len.trans l2,s'.wid,s'.low,s'.upp,s'.pos,by rw [<- l2];exact s'.zero⟩⟩
theorem Z5u {n c d K U B F:Nat} {m:oP} (hK:K<=400000000) (h1:1<=K) (zF:2*(3*(B*B*(B*B)))+2<10^K) (xj:B+2<10^K) (rP:U+2<10^K) (hF:B<F) (hd:d<m.length) (hw:ae n m) (hB:ea d B m) (hU:eK d U m) :
  (fy n c d F m=some (m,false)/\∀ i,d<=i->i<m.length->aD m i c=0)\/∃ m',fy n c d F m=some (m',true)/\CoR n d c (2*(3*(B*B*(B*B)))) U m m':=by
 obtain ⟨f,rfl⟩:∃ f,F=f+1:=⟨F-1,by omega⟩;have og:bV n m=true:=lu hK h1 hw hB hU (by omega) (by omega);cases ha:bQ c d m (m.length-d) with
 | none=>exact .inl ⟨by rw [mh,if_pos og,ha],fun i h2 h3=>jh ha i h2 (by omega)⟩
 | some a =>
  right;obtain ⟨b1,b2,b3,b4⟩:=gY ha;have pT:a<m.length:=by omega
  obtain ⟨p,hp⟩:∃ p,p=(aD m a c).natAbs:=⟨_,rfl⟩;have hM:iz d c B m:=fun i h2 h3=>(hB i h2 h3).getD c;have hp1:1<=p:=by omega
  have Ay:p<=B:=by rw [hp];exact hM a b1 pT
  have hQ:∀ i,d<=i->i<m.length->(aQ (aD m i c) (aD m a c)).natAbs<=(2*B) / p:=by
   intro i h2 h3;rw [Nat.le_div_iff_mul_le (by omega),hp];have h5:=(iC (aD m i c) (aD m a c) b3).1;have h6:=hM i h2 h3;omega
  obtain ⟨m2,rest,e1,l2,w2,vM,vL,p2,r2,c2,z2,t2⟩:=L5_ hK h1 hd hw hB hU hM ha xj hQ;have zV:(B+(2*B) / p*B)*p<=3*(B*B):=by
   rw [Nat.add_mul];have h5:B*p<=B*B:=Nat.mul_le_mul_left _ Ay;have h6:(2*B) / p*B*p<=2*B*B:=by
    rw [Nat.mul_right_comm];exact Nat.mul_le_mul_right _ (Nat.div_mul_le_self _ p)
   have h7:2*B*B=2*(B*B):=Nat.mul_assoc _ _ _;omega
  have DH:B*B<=B*B*(B*B):=Nat.le_mul_of_pos_right _ (Nat.mul_pos (by omega) (by omega));cases rest with
  | false =>
   have zU:B+(2*B) / p*B<=2*(3*(B*B*(B*B))):=by
    have:B+(2*B) / p*B<=(B+(2*B) / p*B)*p:=Nat.le_mul_of_pos_right _ (by omega);omega
   exact s0_ hK h1 hd og ha e1 l2 w2 (fun i h2 h3=>(vM i h2 h3).mono zU) vL (by rw [p2];exact b3) (z2 rfl) (by omega) rP
  | true =>
   obtain ⟨i,i1,i2,i3⟩:=t2 rfl;obtain ⟨k,k1,k2,k3⟩:=c2 i i1 i2;obtain ⟨a',wD⟩:∃ a',bQ c d m2 (m2.length-d)=some a':=by
    cases hb:bQ c d m2 (m2.length-d) with
    | none=>exact absurd (jh hb i (by omega) (by omega)) i3
    | some a'=>exact ⟨a',rfl⟩
   obtain ⟨q1,q2,q3,q4⟩:=gY wD;obtain ⟨p',qj⟩:∃ p',p'=(aD m2 a' c).natAbs:=⟨_,rfl⟩;have xN:p'<=(aD m2 i c).natAbs:=(by rw [qj];exact q4 i (by omega) (by omega) i3);have hlt:(aD m2 i c).natAbs<p:=(by rw [k3,hp];exact (iC _ _ b3).2);have qR:iz d c p m2:=by
    intro j j1 j2;by_cases hj:j=d;·rw [hj,p2,hp];exact n9 _
    ·obtain ⟨k',vP,vO,rX⟩:=c2 j (by omega) (by omega);rw [rX,hp];exact Nat.le_of_lt (iC _ _ b3).2
   have s7:lE d c (decide (0<aD m a c)) m2:=by
    intro j j1 j2;have vk:0<aD m a c->0<=aD m2 j c:=by
     intro hpos;by_cases hj:j=d;·rw [hj,p2];omega
     ·obtain ⟨k',vP,vO,rX⟩:=c2 j (by omega) (by omega);rw [rX];exact (jn _ _ hpos).1
    have Eg:aD m a c<0->aD m2 j c<=0:=by
     intro ou;by_cases hj:j=d;·rw [hj,p2];omega
     ·obtain ⟨k',vP,vO,rX⟩:=c2 j (by omega) (by omega);rw [rX];exact (m_ _ _ ou).2
    by_cases hpos:0<aD m a c;·simp only [hpos,decide_true,if_true];exact vk hpos
    ·simp only [hpos,decide_false];exact Eg (by omega)
   have zG:(B+(2*B) / p*B)*(p*p*(aD m2 a' c).natAbs)<=3*(B*B*(B*B)):=by
    rw [<- qj]
    calc (B+(2*B) / p*B)*(p*p*p')=(B+(2*B) / p*B)*p*(p*p'):=by simp only [Nat.mul_assoc]
     _<=3*(B*B)*(p*p'):=Nat.mul_le_mul_right _ zV
     _<=3*(B*B)*(B*B):=Nat.mul_le_mul_left _ (Nat.mul_le_mul Ay (by omega))
     _=3*(B*B*(B*B)):=Nat.mul_assoc _ _ _
   obtain ⟨m',e',s'⟩:=g1_ hK h1 zF rP (decide (0<aD m a c)) f m2 (B+(2*B) / p*B) p a' (by omega) w2 vM vL qR s7 wD zG (by omega);exact ⟨m',(g2_ og ha e1).trans e',⟨s'.len.trans l2,s'.wid,s'.low,s'.upp,s'.pos,by rw [<- l2];exact s'.zero⟩⟩
structure CoK (n d:Nat) (m m':oP):Prop where
 len:m'.length=m.length
 wid:ae n m'
 sp:bP n (aG d m) (aG d m')
 ahead:∀ i,i<d->aC m' i=aC m i
theorem Z0R {n c d:Nat}:∀ {F:Nat} {m m':oP} {b:Bool},fy n c d F m=some (m',b)->d<m.length->ae n m->CoK n d m m'
 | 0,m,m',b,h,hd,hw=>by cases h
 | f+1,m,m',b,h,hd,hw=>by
  rw [mh] at h;by_cases og:bV n m=true
  ·rw [if_pos og] at h;cases ha:bQ c d m (m.length-d) with
   | none =>
    rw [ha] at h;simp only [Option.some.injEq,Prod.mk.injEq] at h;obtain ⟨rfl,-⟩:=h;exact ⟨rfl,hw,bP.refl _ _,fun i _=>rfl⟩
   | some a =>
    rw [ha] at h;simp only at h;obtain ⟨b1,b2,b3,b4⟩:=gY ha;have pT:a<m.length:=(by omega);have hsl:=nj m d a;have xJ:ae n (bF m d a):=by
     intro i hi;rw [l_ hd pT]
     split
     ·exact hw d hd
     ·split
      ·exact hw a pT
      ·exact hw i (by omega)
    cases qC:dL c d (bF m d a) (m.length-(d+1)) with
    | none=>rw [qC] at h;cases h
    | some y =>
     obtain ⟨m2,rest⟩:=y;rw [qC] at h;obtain ⟨l1,l2,l3⟩:=mw qC (by omega);have qw:ae n m2:=fun i hi=>by rw [l3 i];exact xJ i (by omega)
     have hsp:bP n (aG d m) (aG d m2):=(Z2y hd pT b1).trans (Z10 qC (by omega));have Bb:∀ i,i<d->aC m2 i=aC m i:=fun i hi=>by
      rw [l2 i (.inl (by omega)),l_ hd pT,if_neg (by omega),if_neg (by omega)]
     cases rest with
     | true =>
      simp only at h;have s:=Z0R h (by omega) qw;refine ⟨by rw [s.len,l1,hsl],s.wid,hsp.trans s.sp,fun i hi=>?_⟩;rw [s.ahead i hi,Bb i hi]
     | false =>
      simp only [Option.some.injEq,Prod.mk.injEq] at h;obtain ⟨rfl,-⟩:=h;exact ⟨by rw [l1,hsl],qw,hsp,Bb⟩
  ·rw [if_neg og] at h;cases h
structure gP (m:oP) (d c:Nat) (ps:Nat->Nat):Prop where
 lt:∀ i,i<d->ps i<c
 mono:∀ i j,i<j->j<d->ps i<ps j
 zero:∀ i,i<d->∀ c',c'<ps i->aD m i c'=0
 ne:∀ i,i<d->aD m i (ps i)≠0
 rest:∀ i,d<=i->i<m.length->∀ c',c'<c->aD m i c'=0
theorem gP.nil (m:oP) (ps:Nat->Nat):gP m 0 0 ps:=⟨fun i h=>by omega,fun i j _ h=>by omega,fun i h=>by omega,fun i h=>by omega,fun i _ _ c' h=>by omega⟩
theorem gP.next {m:oP} {d c:Nat} {ps:Nat->Nat} (h:gP m d c ps) (hz:∀ i,d<=i->i<m.length->aD m i c=0):gP m d (c+1) ps :=
 ⟨fun i hi=>by have:=h.lt i hi;omega,h.mono,h.zero,h.ne,fun i h1 h2 c' hc=>by
  by_cases e:c'=c;·rw [e];exact hz i h1 h2
  ·exact h.rest i h1 h2 c' (by omega)⟩
theorem gP.step {n c d C U:Nat} {m m':oP} {ps:Nat->Nat} (h:gP m d c ps) (hd:d<m.length) (hw:ae n m) (s:CoR n d c C U m m') (k:CoK n d m m'):gP m' (d+1) (c+1) (fun i=>if i<d then ps i else c):=by
 have hz:∀ i,d<=i->i<m'.length->∀ c',c'<c->aD m' i c'=0:=by
  intro i h1 h2 c' hc;have hi:Sp n (aG d m) (aC m' i):=k.sp.2 _ (ak h1 h2);exact hi.zeroCol (cR hw) (by rintro r ⟨j,j1,j2,rfl⟩;exact h.rest j j1 j2 c' hc)
 have pG:∀ i,i<d->∀ c',aD m' i c'=aD m i c':=fun i hi c'=>by unfold aD;rw [k.ahead i hi]
 refine ⟨fun i hi=>?_,fun i j pO hj=>?_,fun i hi c' hc=>?_,fun i hi=>?_,fun i h1 h2 c' hc=>?_⟩
 ·split
  ·rename_i pw;have:=h.lt i pw;omega
  ·omega
 ·rw [if_pos (show i<d by omega)]
  split
  ·rename_i pw;exact h.mono i j pO pw
  ·exact h.lt i (by omega)
 ·split at hc
  ·rename_i pw;rw [pG i pw c'];exact h.zero i pw c' hc
  ·obtain rfl:i=d:=(by omega);exact hz i (n9 _) (by rw [s.len];exact hd) c' hc
 ·split
  ·rename_i pw;rw [pG i pw];exact h.ne i pw
  ·obtain rfl:i=d:=(by omega);exact s.pos
 ·by_cases qO:c'=c;·rw [qO];exact s.zero i (by omega) (by rw [<- s.len];exact h2)
  ·exact hz i (by omega) h2 c' (by omega)
theorem Z5t {n d:Nat} {m m':oP} (k:CoK n d m m'):bP n (aG 0 m) (aG 0 m'):=by
 have yE:∀ {x:oP} {r},aG d x r->aG 0 x r:=fun ⟨i,h1,h2,h3⟩=>⟨i,by omega,h2,h3⟩
 constructor
 ·rintro r ⟨i,-,h2,rfl⟩;by_cases hi:i<d
  ·rw [<- k.ahead i hi];exact .mem (ak (by omega) (by rw [k.len];exact h2))
  ·exact (k.sp.1 _ (ak (by omega) h2)).mono fun r hr=>.mem (yE hr)
 ·rintro r ⟨i,-,h2,rfl⟩;have h3:i<m.length:=by rw [<- k.len];exact h2
  by_cases hi:i<d
  ·rw [k.ahead i hi];exact .mem (ak (by omega) h3)
  ·exact (k.sp.2 _ (ak (by omega) h2)).mono fun r hr=>.mem (yE hr)
def eN (e:Nat):Nat->Nat
 | 0=>e
 | c+1=>4*eN e c+1
theorem Z6k (e:Nat):2*(3*(10^e*10^e*(10^e*10^e)))<=10^(4*e+1):=by
 have:10^e*10^e*(10^e*10^e)=10^(4*e):=by rw [<- Nat.pow_add,<- Nat.pow_add];congr 1;omega
 rw [this,Nat.pow_succ];omega
structure Z6p (N C e:Nat) (m m':oP) (d c:Nat) (ps:Nat->Nat):Prop where
 len:m'.length=m.length
 le:d<=m'.length
 lec:d<=c
 wid:ae N m'
 bnd:∀ i,i<m'.length->aN (10^eN e c) (aC m' i)
 sp:bP N (aG 0 m) (aG 0 m')
 ech:gP m' d c ps
theorem Q4_ {N F e:Nat} {m:oP} (hw:ae N m) (hb:∀ i,i<m.length->aN (10^e) (aC m i)):∀ c,eN e (c+1)+1<=400000000->10^eN e c<F->∃ m' d ps,nH N F m c=some (m',d)/\Z6p N c e m m' d c ps
 | 0,_,_=>⟨m,0,fun _=>0,rfl,⟨rfl,Nat.zero_le _,n9 _,hw,hb,bP.refl _ _,gP.nil m _⟩⟩
 | c+1,h1,hF=>by
  have hE:eN e (c+1)=4*eN e c+1:=rfl;have hE2:eN e (c+1+1)=4*eN e (c+1)+1:=rfl;have wJ:10^eN e c<F:=Nat.lt_of_le_of_lt (Nat.pow_le_pow_right (by decide) (by omega)) hF;obtain ⟨m1,d,ps,e1,k1⟩:=Q4_ hw hb c (by omega) wJ;have vd:∀ r,aN (10^eN e c) r->aN (10^eN e (c+1)) r:=fun r hr=>hr.mono (Nat.pow_le_pow_right (by decide) (by omega));by_cases hd:d<m1.length
  ·have hlow:ea d (10^eN e c) m1:=fun i _ h3=>k1.bnd i h3;have yf:eK d (10^eN e c) m1:=fun i h2 h3=>k1.bnd i (by omega);obtain ⟨x,hx⟩:=oO (eN e c);have q4:=Z6k (eN e c);have g1:10^(4*eN e c+1)+2<10^(4*eN e c+2):=by
    rw [Nat.pow_succ 10 (4*eN e c+1),Nat.pow_succ 10 (4*eN e c)];have:=Nat.pow_pos (n:=4*eN e c) (show 0<10 by decide);omega
   have g2:10^eN e c<=10^(4*eN e c+1):=Nat.pow_le_pow_right (by decide) (by omega);rcases Z5u (n:=N) (c:=c) (F:=F) (K:=4*eN e c+2) (by omega) (by omega) (Nat.lt_of_le_of_lt (Nat.add_le_add_right q4 2) g1) (Nat.lt_of_le_of_lt (Nat.add_le_add_right g2 2) g1) (Nat.lt_of_le_of_lt (Nat.add_le_add_right g2 2) g1) wJ hd k1.wid hlow yf with ⟨hc,hz⟩ | ⟨m2,hc,hr⟩
   ·refine ⟨m1,d,ps,by rw [W7_,e1];simp only;rw [hc];rfl,⟨k1.len,k1.le,by have:=k1.lec;omega,k1.wid,fun i hi=>vd _ (k1.bnd i hi),k1.sp,k1.ech.next hz⟩⟩
   ·have hk:=Z0R hc hd k1.wid;refine ⟨m2,d+1,_,by rw [W7_,e1];simp only;rw [hc];rfl,⟨by rw [hr.len,k1.len],by rw [hr.len];omega,by have:=k1.lec;omega,hr.wid,fun i hi=>?_,k1.sp.trans (Z5t hk),k1.ech.step hd k1.wid hr hk⟩⟩;by_cases qA:i<d;·exact vd _ (hr.upp i qA hi)
    ·exact (hr.low i (by omega) hi).mono (by rw [hE];exact q4)
  ·have hz:∀ i,d<=i->i<m1.length->aD m1 i c=0:=fun i h2 h3=>by omega
   have hc:fy N c d F m1=some (m1,false):=by
    have Fw:0<F:=Nat.lt_of_le_of_lt (Nat.zero_le _) wJ;obtain ⟨f,rfl⟩:∃ f,F=f+1:=⟨F-1,by omega⟩;have og:bV N m1=true:=lu (K:=eN e c+1) (B:=10^eN e c) (U:=10^eN e c) (d:=0) (by omega) (by omega) k1.wid (fun i _ h3=>k1.bnd i h3) (fun i h2 _=>by omega) (by rw [Nat.pow_succ];have:=Nat.pow_pos (n:=eN e c) (show 0<10 by decide);omega) (by rw [Nat.pow_succ];have:=Nat.pow_pos (n:=eN e c) (show 0<10 by decide);omega);rw [mh,if_pos og,show m1.length-d=0 by omega];rfl
   exact ⟨m1,d,ps,by rw [W7_,e1];simp only;rw [hc];rfl,⟨k1.len,k1.le,by have:=k1.lec;omega,k1.wid,fun i hi=>vd _ (k1.bnd i hi),k1.sp,k1.ech.next hz⟩⟩
theorem g8_ {h:oP} {N k d:Nat} {ps:Nat->Nat} (hw:ae N h) (hh:gP h d k ps) (hd:d<=h.length) {w:oQ} (hz:∀ c,c<k->w.getD c 0=0):∀ j,j<=d->Sp N (aG (d-j) h) w->Sp N (aG d h) w
 | 0,_,h9=>h9
 | j+1,hj,h9=>by
  have he:d-(j+1)<d:=by omega
  obtain ⟨t,ht⟩:=h9.peel hw (by omega)
  have h0:(aM t w (aC h (d-(j+1)))).getD (ps (d-(j+1))) 0=0:=ht.zeroCol (cR hw) (by
   rintro r ⟨i,h1,h2,rfl⟩;by_cases hid:i<d;·exact hh.zero i hid _ (hh.mono _ i (by omega) hid)
   ·exact hh.rest i (by omega) h2 _ (hh.lt _ he))
  rw [du t (by rw [h9.len (cR hw),hw _ (by omega)]),hz _ (hh.lt _ he)] at h0;have hne:aD h (d-(j+1)) (ps (d-(j+1)))≠0:=hh.ne _ he;have Cn:t=0:=by
   have h1:t*aD h (d-(j+1)) (ps (d-(j+1)))=0:=(by unfold aD;omega);rcases Int.mul_eq_zero.1 h1 with h2 | h2;·exact h2
   ·exact absurd h2 hne
  rw [Cn,iE,show d-(j+1)+1=d-j by omega] at ht;exact g8_ hw hh hd hz j (by omega) ht
theorem Z4Q {h m:oP} {n d:Nat} {ps:Nat->Nat} (hw:ae (m.length+n) h) (hh:gP h d m.length ps) (hs:bP (m.length+n) (aG 0 (bI n m)) (aG 0 h)) (hd:d<=h.length) (v:oQ) :
  Sp n (aG 0 ((h.drop d).map (·.drop m.length))) v↔cE n m v:=by
 have hlen:((h.drop d).map (·.drop m.length)).length=h.length-d:=by simp
 constructor
 ·intro hv
  induction hv with
  | zero=>exact ⟨by simp,fun i _=>kH _ _ _⟩
  | mem hm =>
   obtain ⟨i,-,hi,rfl⟩:=hm;have xA:d+i<h.length:=(by rw [hlen] at hi;omega);refine ⟨by rw [gI xA,List.length_drop,hw _ xA];omega,fun j hj=>?_⟩;have hP:=h3_ (hs.2 _ (ak (Nat.zero_le (d+i)) xA));rw [gI xA,<- hP.2 j hj];exact hh.rest (d+i) (by omega) xA j hj
  | less q a b iha ihb =>
   refine ⟨by rw [dW];exact iha.1,fun i hi=>?_⟩;rw [kG _ _ (by rw [iha.1,ihb.1]),iha.2 i hi,ihb.2 i hi];simp
 ·intro hv;have qw:Z2M n m (List.replicate m.length 0++v):=by
   refine ⟨by rw [oJ,List.length_replicate,hv.1],fun i hi=>?_⟩;rw [lP (by simpa using hi),fQ,List.drop_left' (by simp),hv.2 i hi]
  have h3:=(hs.iff _).1 (Z2u qw);have h4:=g8_ (w:=List.replicate m.length 0++v) hw hh hd (fun c hc=>by rw [lP (by simpa using hc),fQ]) d (n9 _) (by rw [Nat.sub_self];exact h3);have h5:=n2_ h4;rw [List.drop_left' (by simp)] at h5;exact h5
theorem Z0A {h m:oP} {n:Nat} (hh:ae (m.length+n) h) (hs:bP (m.length+n) (aG 0 (bI n m)) (aG 0 h)):n<=h.length:=by
 refine Classical.byContradiction fun hlt=>?_;have hlt:h.length<n:=by omega
 obtain ⟨R,hR⟩:=oO (h++List.replicate (n-h.length) (List.replicate (m.length+n) (0:Int)));have hRl:R.length=n:=by rw [hR];simp;omega
 have qb:∀ i,i<h.length->aC R i=aC h i:=fun i hi=>by
  apply eP;rw [hR,oB hi];exact en hi
 have hR2:∀ i,h.length<=i->i<n->aC R i=List.replicate (m.length+n) 0:=fun i hi hn=>by
  apply eP;rw [hR,oC hi,List.getElem?_replicate,if_pos (by omega)]
 have hW:ae (m.length+n) R:=fun i hi=>by
  by_cases h1:i<h.length;·rw [qb i h1];exact hh i h1
  ·rw [hR2 i (by omega) (by omega)];simp
 have h0:af R.length (fun b=>m.length+b) (aC R)=0:=by
  unfold af;refine h_ (r:=h.length) (by omega) fun b _=>?_;show (((aC R h.length).getD (m.length+b) 0:Int):Rat)=0;rw [hR2 _ (n9 _) hlt,fQ];rfl
 have h1:=lL (Q:=fun x=>x=0) (ie (m.length+n) R.length fun b=>m.length+b) mg hW h0 (aC (bI n m)) fun a ha=>by
  have:=hs.1 _ (ak (Nat.zero_le a) (by rw [gM];omega));refine this.mono fun r hr=>?_;obtain ⟨i,-,hi,rfl⟩:=hr;rw [<- qb i hi];exact .mem (ak (Nat.zero_le _) (by omega))
 have h2:af R.length (fun b=>m.length+b) (aC (bI n m))=1:=by
  rw [<- M4_ R.length];unfold af;refine cQ fun a b ha hb=>?_;show (((aC (bI n m) a).getD (m.length+b) 0:Int):Rat)=_;rw [U1_ (by omega)];by_cases pU:a=b;·rw [if_pos pU.symm,if_pos pU];rfl
  ·rw [if_neg (fun e=>pU e.symm),if_neg pU];rfl
 rw [h2] at h1;exact absurd h1 (by decide)
theorem q2_ (q:Int) (a b:oQ):∀ K,aM q (List.replicate K 0++a) (List.replicate K 0++b)=List.replicate K 0++aM q a b
 | 0=>rfl
 | K+1=>by
  rw [List.replicate_succ,List.cons_append,List.cons_append,List.cons_append,<- q2_ q a b K];show (0-q*0)::_=_;simp
theorem Z4r {n K:Nat} {S S':oQ->Prop} (h:∀ v,S v->Sp (K+n) S' (List.replicate K 0++v)) {v:oQ} (hv:Sp n S v):Sp (K+n) S' (List.replicate K 0++v):=by
 induction hv with
 | zero=>rw [List.replicate_append_replicate];exact .zero
 | mem hm=>exact h _ hm
 | less q a b iha ihb=>rw [<- q2_];exact .less q iha ihb
theorem Z59 {r:oQ} {K n:Nat} (hl:r.length=K+n) (hz:∀ c,c<K->r.getD c 0=0):List.replicate K 0++r.drop K=r:=by
 refine kJ (by rw [oJ,List.length_replicate,List.length_drop];omega) fun c=>?_;by_cases h:c<K;·rw [lP (by simpa using h),fQ,hz c h]
 ·rw [t0_ (by simp;omega),mx,List.length_replicate];congr 1;omega
def dr (n k:Nat) (X:oQ):oP:=(cH n k).map fun s=>(List.range n).map fun i=>dV n k X i s
theorem I5_ (n k:Nat) (X:oQ):jO n k X=bI n (dr n k X):=by
 unfold jO bI Z4f dr Z5Q;refine List.map_congr_left fun i hi=>?_;rw [List.mem_range] at hi;congr 1;rw [List.map_map];refine List.map_congr_left fun s _=>?_;show _=((List.range n).map fun i=>dV n k X i s).getD i 0;rw [nu,nx,List.getElem?_range hi];rfl
theorem f7_ (n k:Nat) (X:oQ):(dr n k X).length=(cH n k).length:=by unfold dr;rw [List.length_map]
theorem Z1z {n k e:Nat} {X:oQ} (hX:∀ x∈X,x.natAbs<=10^e):∀ i,i<(jO n k X).length->aN (10^e) (aC (jO n k X) i):=by
 intro i hi;have hM:=I5_ n k X;have hcell:∀ r∈dr n k X,∀ x∈r,x.natAbs<=10^e:=by
  intro r hr x hx;unfold dr at hr;obtain ⟨s,-,rfl⟩:=List.mem_map.1 hr;obtain ⟨i,-,rfl⟩:=List.mem_map.1 hx;show (dV n k X i s).natAbs<=_;unfold dV
  split
  ·rw [v7_];exact Z4w.getD (N:=10^e) hX _
  ·simp
 rw [hM] at hi |-;rw [gM] at hi;rw [k_ hi];intro x hx;have hp:1<=10^e:=Nat.pow_pos (by decide);rcases List.mem_append.1 hx with h | h
 ·obtain ⟨r,hr,rfl⟩:=List.mem_map.1 h;rw [nu];cases hc:r[i]? with
  | none=>simp
  | some y=>exact hcell r hr y (nw hc)
 ·rcases List.mem_or_eq_of_mem_set h with h | h;·rw [List.eq_of_mem_replicate h];simp
  ·rw [h];simpa using hp
structure Z6l (n k e:Nat) (X:oQ) (R:oP):Prop where
 le:R.length<=n
 wid:ae n R
 bnd:∀ i,i<R.length->aN (10^e) (aC R i)
 ann:∀ v,Sp n (aG 0 R) v↔cE n (dr n k X) v
 free:∀ T:oP,ae n T->bP n (aG 0 R) (aG 0 T)->R.length<=T.length
theorem Z4S {n k e F:Nat} {X:oQ} (hX:∀ x∈X,x.natAbs<=10^e) (hF:10^eN e (cH n k).length<F) (hE:eN e ((cH n k).length+1)+1<=400000000):∃ R,nJ F n k X=some R/\Z6l n k (eN e (cH n k).length) X R:=by
 have hM:=I5_ n k X;have hl:=f7_ n k X;obtain ⟨K,hK⟩:=oN ((cH n k).length);obtain ⟨M,rk⟩:=oN (dr n k X);rw [rk] at hM hl;have hw:ae (K+n) (jO n k X):=by rw [hM,<- hK,<- hl];exact lB n M
 have hb:∀ i,i<(jO n k X).length->aN (10^e) (aC (jO n k X) i):=Z1z hX;rw [hK] at hF hE |-;obtain ⟨m',d,ps,e1,k1⟩:=Q4_ (N:=K+n) (F:=F) hw hb K hE hF;have hsp:=k1.sp;rw [hM] at hsp;have x9:m'.length=n:=by rw [k1.len,hM,gM]
 have Ky:K=M.length:=by rw [hl,hK]
 subst Ky;refine ⟨(m'.drop d).map (·.drop M.length),by unfold nJ;rw [hK,e1],?_⟩;have hlen:((m'.drop d).map (·.drop M.length)).length=m'.length-d:=by simp
 refine ⟨by rw [hlen];omega,fun i hi=>?_,fun i hi=>?_,fun v=>?_,fun T hT Hb=>?_⟩
 ·rw [hlen] at hi;rw [gI (by omega),List.length_drop,k1.wid _ (by omega)];omega
 ·rw [hlen] at hi;rw [gI (by omega)];intro x hx;exact k1.bnd (d+i) (by omega) x (List.mem_of_mem_drop hx)
 ·rw [rk];exact Z4Q k1.wid k1.ech hsp k1.le v
 ·refine Classical.byContradiction fun hlt=>?_;have hlt2:T.length<m'.length-d:=by rw [hlen] at hlt;omega
  obtain ⟨h,hh⟩:=oO (m'.take d++T.map (List.replicate M.length (0:Int)++·));have Ek:h.length=d+T.length:=by rw [hh,oJ,ny,List.length_map];have:=k1.le;omega
  have pv:∀ i,i<d->aC h i=aC m' i:=fun i hi=>by
   apply eP;rw [hh,oB (by rw [ny];have:=k1.le;omega),List.getElem?_take,if_pos hi];exact en (by have:=k1.le;omega)
  have pF:∀ i,i<T.length->aC h (d+i)=List.replicate M.length 0++aC T i:=fun i hi=>by
   apply eP;have wm:(m'.take d).length=d:=by rw [ny];have:=k1.le;omega
   rw [hh,oC (by rw [wm];omega),wm,show d+i-d=i by omega,nx,en hi];rfl
  have Ko:ae (M.length+n) h:=fun i hi=>by
   by_cases h1:i<d;·rw [pv i h1];exact k1.wid i (by have:=k1.le;omega)
   ·have:=pF (i-d) (by omega);rw [show d+(i-d)=i by omega] at this;rw [this,oJ,List.length_replicate,hT _ (by omega)]
  have Ax:∀ i,d<=i->i<m'.length->List.replicate M.length 0++(aC m' i).drop M.length=aC m' i:=fun i h1 h2=>Z59 (k1.wid i h2) fun c hc=>k1.ech.rest i h1 h2 c hc;have qJ:bP (M.length+n) (aG 0 m') (aG 0 h):=by
   constructor
   ·rintro r ⟨i,-,h2,rfl⟩;by_cases h1:i<d;·rw [<- pv i h1];exact .mem (ak (Nat.zero_le _) (by omega))
    ·rw [<- Ax i (by omega) h2];have hmem:aG 0 ((m'.drop d).map (·.drop M.length)) ((aC m' i).drop M.length):=by
      have:=gI (h:=m') (k:=M.length) (d:=d) (i:=i-d) (by omega);rw [show d+(i-d)=i by omega] at this;rw [<- this];exact ak (Nat.zero_le _) (by rw [hlen];omega)
     refine Z4r (S:=aG 0 T) ?_ (Hb.1 _ hmem);rintro v ⟨j,-,hj,rfl⟩;rw [<- pF j hj];exact .mem (ak (Nat.zero_le _) (by omega))
   ·rintro r ⟨i,-,h2,rfl⟩;by_cases h1:i<d;·rw [pv i h1];exact .mem (ak (Nat.zero_le _) (by have:=k1.le;omega))
    ·have h3:=pF (i-d) (by omega);rw [show d+(i-d)=i by omega] at h3;rw [h3];refine Z4r (S:=aG 0 ((m'.drop d).map (·.drop M.length))) ?_ (Hb.2 _ (ak (Nat.zero_le _) (by omega)));rintro v ⟨j,-,hj,rfl⟩;rw [hlen] at hj;rw [gI (by omega),Ax (d+j) (by omega) (by omega)];exact .mem (ak (Nat.zero_le _) (by omega))
  have:=Z0A Ko (hsp.trans qJ);omega
theorem g5_ {r s:oQ} {p:Nat}:∀ n,p<n->(∀ c,c<n->c≠p->r.getD c 0*s.getD c 0=0)->a_ r s n=r.getD p 0*s.getD p 0
 | 0,h,_=>by omega
 | n+1,h,hz=>by
  have hall:∀ m,m<=n->(∀ c,c<m->r.getD c 0*s.getD c 0=0)->a_ r s m=0:=by
   intro m
   induction m with
   | zero=>intro _ _;rfl
   | succ m ih=>intro h1 h2;rw [a_,ih (by omega) fun c hc=>h2 c (by omega),h2 m (by omega)];rfl
  rw [a_];by_cases e:p=n
  ·subst e;rw [hall p (n9 _) fun c hc=>hz c (by omega) (by omega)];omega
  ·rw [g5_ n (by omega) fun c h1 h2=>hz c (by omega) h2,hz n (by omega) (fun h=>e h.symm)];omega
def Z5q (J p:Nat):Bool:=J.testBit p || (decide ((J ||| (1 <<< p)) ^^^ (1 <<< p)=J) && (J ||| (1 <<< p)).testBit p && (List.range 6).all fun c=>decide (c=p) || (((J ||| (1 <<< p)).testBit c == J.testBit c) && (decide (c<=p) || !J.testBit c || decide ((J ||| (1 <<< p)) ^^^ (1 <<< c)<J))))
theorem Z0K:(List.range 64).all (fun J=>(List.range 6).all (Z5q J))=true:=by decide +kernel
theorem Z2O {J p:Nat} (hJ:J<64) (hp:p<6) (h:J.testBit p=false):(J ||| (1 <<< p)) ^^^ (1 <<< p)=J/\(J ||| (1 <<< p)).testBit p=true/\∀ c,c<6->c≠p->(J ||| (1 <<< p)).testBit c=J.testBit c/\(p<c->J.testBit c=true->(J ||| (1 <<< p)) ^^^ (1 <<< c)<J):=by
 have h1:=List.all_eq_true.1 (List.all_eq_true.1 Z0K J (List.mem_range.2 hJ)) p (List.mem_range.2 hp);unfold Z5q at h1;rw [h,Bool.false_or,Bool.and_eq_true,Bool.and_eq_true,decide_eq_true_eq] at h1;refine ⟨h1.1.1,h1.1.2,fun c hc y8=>?_⟩;have h2:=List.all_eq_true.1 h1.2 c (List.mem_range.2 hc);rw [oG y8,Bool.false_or,Bool.and_eq_true,beq_iff_eq,Bool.or_eq_true,Bool.or_eq_true,decide_eq_true_eq,decide_eq_true_eq] at h2;refine ⟨h2.1,fun h3 h4=>?_⟩;rcases h2.2 with (h5 | h5) | h5;·omega
 ·rw [h4] at h5;cases h5
 ·exact h5
def Z6d (n k:Nat):Bool:=(ai n (k+1)).all fun s=>(List.range n).all fun c=>!s.testBit c || decide ((s ^^^ (1 <<< c))∈ai n k)
theorem Z1F:∀ n,n<7->∀ k,k<n->Z6d n k=true:=by decide +kernel
theorem w0_ {n k s c:Nat} (hn:n<7) (hk:k<n) (hs:s∈ai n (k+1)) (hc:c<n) (h:s.testBit c=true):(s ^^^ (1 <<< c))∈ai n k:=by
 have h1:=List.all_eq_true.1 (List.all_eq_true.1 (Z1F n hn k hk) s hs) c (List.mem_range.2 hc);rw [h,Bool.not_true,Bool.false_or,decide_eq_true_eq] at h1;exact h1
def Z6f (n k:Nat):Bool:=(ai n k).all fun s=>(List.range n).all fun i=>s.testBit i || decide ((s ||| (1 <<< i))∈ai n (k+1))
theorem Z1U:∀ n,n<7->∀ k,k<n->Z6f n k=true:=by decide +kernel
theorem e1_ {n k s i:Nat} (hn:n<7) (hk:k<n) (hs:s∈ai n k) (hi:i<n) (hb:s.testBit i=false):(s ||| (1 <<< i))∈ai n (k+1):=by
 have h:=List.all_eq_true.1 (List.all_eq_true.1 (Z1U n hn k hk) s hs) i (List.mem_range.2 hi);rw [hb,Bool.false_or,decide_eq_true_eq] at h;exact h
theorem Z3d:∀ n,n<7->∀ s∈ai n n,∀ c,c<n->s.testBit c=true:=by decide +kernel
theorem f9_:∀ n,n<7->∀ k,k<n+1->∀ s∈ai n k,s<64:=by decide +kernel
def ez (n k:Nat) (Y:oQ) (t:Nat):Int:=Y.getD (eY n k t) 0
theorem v8_ {x:Int} {o:Bool}:eQ x o=0↔x=0:=by cases o <;> simp [eQ]
theorem Z22 {n k:Nat} (hn:n<7) (hk:k<=n) {l:oP} {ps:Nat->Nat} {Y:oQ} (hlt:∀ i,i<k->ps i<n) (hz:∀ i,i<k->∀ c,c<ps i->aD l i c=0) (hne:∀ i,i<k->aD l i (ps i)≠0)
  (hP:∀ J∈ai n k,(∀ i,i<k->J.testBit (ps i)=true)->ez n k Y J=0) (hm:∀ i,i<k->∀ r∈dr n k Y,a_ r (aC l i) n=0):∀ (b J:Nat),J<b->J∈ai n k->ez n k Y J=0
 | 0,J,h,_=>by omega
 | b+1,J,hJ,DD=>by
  by_cases hall:∀ i,i<k->J.testBit (ps i)=true;·exact hP J DD hall
  ·obtain ⟨i,hi⟩:=Classical.not_forall.1 hall;obtain ⟨ru,hb⟩:=Classical.not_imp.1 hi;have hb:J.testBit (ps i)=false:=(by simpa using hb);have hp:=hlt i ru;have xT:k<n:=by
    refine Classical.byContradiction fun xT=>?_;obtain rfl:k=n:=by omega
    rw [Z3d k hn J DD (ps i) hp] at hb;cases hb
   have h64:=f9_ n hn k (by omega) J DD;obtain ⟨b1,b2,b3⟩:=Z2O h64 (show ps i<6 by omega) hb;have hs:(J ||| (1 <<< ps i))∈ai n (k+1):=e1_ hn xT DD hp hb;obtain ⟨s,Jp⟩:=oN (J ||| (1 <<< ps i));rw [Jp] at hs b1 b2 b3;have Ec:(List.range n).map (fun c=>dV n k Y c s)∈dr n k Y:=by
    unfold dr cH;rw [if_neg (by omega)];exact List.mem_map.2 ⟨s,hs,rfl⟩
   have hrow:∀ c,c<n->((List.range n).map (fun c=>dV n k Y c s)).getD c 0=dV n k Y c s:=fun c hc=>by
    rw [nu,nx,List.getElem?_range hc];rfl
   have h0:=hm i ru _ Ec;rw [g5_ n hp ?z] at h0
   case z =>
    intro c hc y8;rw [hrow c hc];obtain ⟨b4,b5⟩:=b3 c (by omega) y8;by_cases vC:s.testBit c=true
    ·by_cases o8:c<ps i
     ·have:(aC l i).getD c 0=0:=hz i ru c o8;rw [this];simp
     ·have h9:=Z22 hn hk hlt hz hne hP hm b (s ^^^ (1 <<< c)) (by have:=b5 (by omega) (by rw [<- b4];exact vC);omega) (w0_ hn xT hs hc vC);rw [js vC];unfold ez at h9;rw [v8_.2 h9];simp
    ·rw [kW (by simpa using vC)];simp
   rw [hrow _ hp,js b2,b1] at h0;rcases Int.mul_eq_zero.1 h0 with h | h;·exact v8_.1 h
   ·exact absurd h (hne i ru)
theorem L9_ {f:Nat->Rat} {S:Nat->Nat}:∀ (n m:Nat),(∀ j,j<m->S j<n)->(∀ i j,i<j->j<m->S i<S j)->(∀ c,c<n->(∀ j,j<m->S j≠c)->f c=0)->aI n f=aI m fun j=>f (S j)
 | 0,0,_,_,_=>rfl
 | 0,m+1,h,_,_=>by have:=h 0 (by omega);omega
 | n+1,0,_,_,hz=>by
  show aI n f+f n=0;rw [hz n (by omega) (fun j hj=>by omega),L9_ (S:=S) n 0 (fun j hj=>by omega) (fun i j _ hj=>by omega) (fun c hc h=>hz c (by omega) h)];show (0:Rat)+0=0;grind
 | n+1,m+1,hl,hi,hz=>by
  by_cases e:S m=n
  ·show aI n f+f n=aI m _+f (S m)
   rw [e,L9_ (S:=S) n m (fun j hj=>by have:=hi j m hj (by omega);omega) (fun i j h1 h2=>hi i j h1 (by omega)) (fun c hc h=>hz c (by omega) fun j hj=>by
    by_cases ej:j=m;·subst ej;omega
    ·exact h j (by omega))]
  ·have hm:=hl m (by omega);have hlt:∀ j,j<m+1->S j<n:=fun j hj=>by
    by_cases ej:j=m;·subst ej;omega
    ·have:=hi j m (by omega) (by omega);omega
   show aI n f+f n=_;rw [hz n (by omega) (fun j hj=>by have:=hlt j hj;omega),L9_ (S:=S) n (m+1) hlt hi (fun c hc h=>hz c (by omega) h)];grind
def Z6y (n k:Nat):Bool:=(ai n (k+1)).all fun s=>decide ((bE s).length=k+1) && ((List.range (k+1)).all fun j=>decide ((bE s).getD j 0<n) && s.testBit ((bE s).getD j 0) && ((List.range j).all fun i=>decide ((bE s).getD i 0<(bE s).getD j 0)) && (gF (1 <<< (bE s).getD j 0) (s ^^^ (1 <<< (bE s).getD j 0)) == decide (j%2=1)) && (List.range k).all fun a=>decide ((bE (s ^^^ (1 <<< (bE s).getD j 0))).getD a 0=(bE s).getD (sk j a) 0))
 && (List.range n).all fun c=>!s.testBit c || (List.range (k+1)).any fun j=>decide ((bE s).getD j 0=c)
theorem Z3v:∀ n,n<7->∀ k,k<n->Z6y n k=true:=by decide +kernel
structure Z6q (n k s:Nat):Prop where
 lt:∀ j,j<k+1->(bE s).getD j 0<n
 bit:∀ j,j<k+1->s.testBit ((bE s).getD j 0)=true
 inc:∀ i j,i<j->j<k+1->(bE s).getD i 0<(bE s).getD j 0
 odd:∀ j,j<k+1->gF (1 <<< (bE s).getD j 0) (s ^^^ (1 <<< (bE s).getD j 0))=decide (j%2=1)
 rest:∀ j,j<k+1->∀ a,a<k->(bE (s ^^^ (1 <<< (bE s).getD j 0))).getD a 0=(bE s).getD (sk j a) 0
 has:∀ c,c<n->s.testBit c=true->∃ j,j<k+1/\(bE s).getD j 0=c
theorem Z1P {n k s:Nat} (hn:n<7) (hk:k<n) (hs:s∈ai n (k+1)):Z6q n k s:=by
 have h:=List.all_eq_true.1 (Z3v n hn k hk) s hs;rw [Bool.and_eq_true,Bool.and_eq_true] at h;have h2:∀ j,j<k+1->_:=fun j hj=>List.all_eq_true.1 h.1.2 j (List.mem_range.2 hj);refine ⟨fun j hj=>?_,fun j hj=>?_,fun i j pO hj=>?_,fun j hj=>?_,fun j hj a ha=>?_,fun c hc hb=>?_⟩;·have:=h2 j hj;simp only [Bool.and_eq_true,decide_eq_true_eq] at this;exact this.1.1.1.1
 ·have:=h2 j hj;simp only [Bool.and_eq_true,decide_eq_true_eq] at this;exact this.1.1.1.2
 ·have:=h2 j hj;simp only [Bool.and_eq_true] at this;exact of_decide_eq_true (List.all_eq_true.1 this.1.1.2 i (List.mem_range.2 pO))
 ·have:=h2 j hj;simp only [Bool.and_eq_true,beq_iff_eq] at this;exact this.1.2
 ·have:=h2 j hj;simp only [Bool.and_eq_true] at this;exact of_decide_eq_true (List.all_eq_true.1 this.2 a (List.mem_range.2 ha))
 ·have:=List.all_eq_true.1 h.2 c (List.mem_range.2 hc);rw [hb,Bool.not_true,Bool.false_or,List.any_eq_true] at this;obtain ⟨j,hj,he⟩:=this;exact ⟨j,List.mem_range.1 hj,of_decide_eq_true he⟩
def qQ (l:oP) (k J:Nat):Rat:=af k (fun b=>(bE J).getD b 0) (aC l)
theorem Z1T {n k s i:Nat} (l:oP) (hn:n<7) (hk:k<n) (hs:s∈ai n (k+1)) (hi:i<k) :
  aI n (fun c=>if s.testBit c=true then ((aD l i c:Int):Rat)*((if gF (1 <<< c) (s ^^^ (1 <<< c))=true then -1 else 1)*qQ l k (s ^^^ (1 <<< c))) else 0)=0:=by
 have hM:=Z1P hn hk hs;obtain ⟨S,hS⟩:∃ S:Nat->Nat,S=fun j=>(bE s).getD j 0:=⟨_,rfl⟩
 rw [L9_ (S:=S) n (k+1) (fun j hj=>by rw [hS];exact hM.lt j hj) (fun a b h1 h2=>by rw [hS];exact hM.inc a b h1 h2) (fun c hc h=>if_neg fun hb=>by
  obtain ⟨j,hj,he⟩:=hM.has c hc hb
  exact h j hj (by rw [hS];exact he))]
 have h0:aL (k+1) (fun a b=>if b=0 then ((aD l i (S a):Int):Rat) else ((aD l (b-1) (S a):Int):Rat))=0 :=
  lR (i:=0) (j:=i+1) (by omega) (by omega) (by omega) fun b _=>by rw [if_pos rfl,if_neg (by omega)];rfl
 have e:aL (k+1) (fun a b=>if b=0 then ((aD l i (S a):Int):Rat) else ((aD l (b-1) (S a):Int):Rat))=aI (k+1) fun j=>dO j*((aD l i (S j):Int):Rat)*aL k fun a b=>((aD l b (S (sk j a)):Int):Rat):=by
  show aI (k+1) _=_;rfl
 rw [e] at h0;rw [<- h0];refine cd fun j hj=>?_;have hb:s.testBit (S j)=true:=by rw [hS];exact hM.bit j hj
 have ho:gF (1 <<< S j) (s ^^^ (1 <<< S j))=decide (j%2=1):=by rw [hS];exact hM.odd j hj
 rw [if_pos hb,ho];have hq:qQ l k (s ^^^ (1 <<< S j))=aL k fun a b=>((aD l b (S (sk j a)):Int):Rat):=by
  unfold qQ af;rw [<- eU k (bT _ _)];refine cQ fun a b ha hb=>?_;unfold bT aD;have:=hM.rest j hj a ha;rw [hS];show (((aC l b).getD ((bE (s ^^^ 1 <<< (bE s).getD j 0)).getD a 0) 0:Int):Rat)=(((aC l b).getD ((bE s).getD (sk j a) 0) 0:Int):Rat);rw [this]
 rw [hq];unfold dO;by_cases h2:j%2=0;·rw [if_pos h2,if_neg (by simp;omega)];grind
 ·rw [if_neg h2,if_pos (by simp;omega)];grind
theorem n4_ {f:Nat->Rat}:∀ {n:Nat},(∀ i,i<n->∃ z:Int,f i=(z:Rat))->∃ z:Int,aI n f=(z:Rat)
 | 0,_=>⟨0,rfl⟩
 | n+1,h=>by
  obtain ⟨z,hz⟩:=n4_ (n:=n) fun i hi=>h i (by omega);obtain ⟨y,hy⟩:=h n (by omega);exact ⟨z+y,by rw [Rat.intCast_add,<- hz,<- hy];rfl⟩
theorem s8_:∀ (k:Nat) (m:Nat->Nat->Int),∃ z:Int,aL k (fun a b=>(m a b:Rat))=(z:Rat)
 | 0,_=>⟨1,rfl⟩
 | k+1,m=>n4_ fun i _=>by
  obtain ⟨z,hz⟩:=s8_ k fun a b=>m (sk i a) (b+1);refine ⟨(if i%2=0 then 1 else -1)*m i 0*z,?_⟩;show dO i*(m i 0:Rat)*_=_;rw [hz,Rat.intCast_mul,Rat.intCast_mul];unfold dO
  split <;> rfl
def qZ (l:oP) (k J:Nat):Int:=(qQ l k J).num
theorem im (l:oP) (k J:Nat):((qZ l k J:Int):Rat)=qQ l k J:=by
 obtain ⟨z,hz⟩:=s8_ k fun a b=>(aC l a).getD ((bE J).getD b 0) 0;have:qQ l k J=(z:Rat):=hz;unfold qZ;rw [this];rfl
def Z6i (n k:Nat):Bool:=(List.range (ai n k).length).all fun i=>decide (eY n k ((ai n k).getD i 0)=i)
theorem H2_:∀ n,n<7->∀ k,k<n+1->Z6i n k=true:=by decide +kernel
theorem S6_ {n k J:Nat} (hn:n<7) (hk:k<=n) (hJ:J∈ai n k) (f:Nat->Int):((ai n k).map f).getD (eY n k J) 0=f J:=by
 obtain ⟨i,hi⟩:=List.getElem?_of_mem hJ;have hil:=(nt.1 hi).1;have h:=of_decide_eq_true (List.all_eq_true.1 (H2_ n hn k (by omega)) i (List.mem_range.2 hil));rw [nu,hi] at h;have h:eY n k J=i:=h;rw [h,nu,nx,hi];rfl
def Z6A (n k:Nat):Bool:=(ai n k).all fun J=>(ai n k).all fun P=>decide (J=P) || (List.range n).any fun c=>P.testBit c && !J.testBit c
theorem Z40:∀ n,n<7->∀ k,k<n+1->Z6A n k=true:=by decide +kernel
theorem Z5P {n k J P:Nat} (hn:n<7) (hk:k<=n) (hJ:J∈ai n k) (hP:P∈ai n k) (h:∀ c,c<n->P.testBit c=true->J.testBit c=true):J=P:=by
 have h1:=List.all_eq_true.1 (List.all_eq_true.1 (Z40 n hn k (by omega)) J hJ) P hP;rw [Bool.or_eq_true,decide_eq_true_eq,List.any_eq_true] at h1;rcases h1 with h1 | ⟨c,hc,h2⟩
 ·exact h1
 ·rw [Bool.and_eq_true] at h2;rw [h c (List.mem_range.1 hc) h2.1] at h2;exact absurd h2.2 (by decide)
def b8 (ps:Nat->Nat):Nat->Nat
 | 0=>0
 | j+1=>b8 ps j ||| (1 <<< ps j)
theorem nO {ps:Nat->Nat} {c:Nat}:∀ j,(b8 ps j).testBit c=true↔∃ i,i<j/\ps i=c
 | 0=>by unfold b8;simp
 | j+1=>by
  unfold b8;rw [Nat.testBit_or,Bool.or_eq_true,nO j,Nat.one_shiftLeft,Nat.testBit_two_pow];constructor
  ·rintro (⟨i,h1,h2⟩ | h);·exact ⟨i,by omega,h2⟩
   ·exact ⟨j,by omega,by simpa using h⟩
  ·rintro ⟨i,h1,h2⟩;by_cases e:i=j;·subst e;right;simpa using h2
   ·left;exact ⟨i,by omega,h2⟩
theorem ju {n k:Nat} {ps:Nat->Nat} (hn:n<7) (hk:k<=n) (hlt:∀ i,i<k->ps i<n) (rq:∀ i j,i<j->j<k->ps i<ps j):∀ j,j<=k->b8 ps j∈ai n j
 | 0,_=>by rw [Z1i hn];exact List.mem_singleton.2 rfl
 | j+1,hj=>by
  refine e1_ hn (by omega) (ju hn hk hlt rq j (by omega)) (hlt j (by omega)) ?_;rw [Bool.eq_false_iff];intro e;obtain ⟨i,h1,h2⟩:=(nO j).1 e;have:=rq i j h1 (by omega);omega
theorem g4_ {r r1 r2 s:oQ} {a b:Int}:∀ n,(∀ c,c<n->r.getD c 0=a*r1.getD c 0-b*r2.getD c 0)->a_ r s n=a*a_ r1 s n-b*a_ r2 s n
 | 0,_=>by simp [a_]
 | n+1,h=>by
  rw [a_,a_,a_,g4_ n (fun c hc=>h c (by omega)),h n (by omega)];grind
theorem M5_ {r s:oQ}:∀ n,((a_ r s n:Int):Rat)=aI n fun c=>((s.getD c 0:Int):Rat)*((r.getD c 0:Int):Rat)
 | 0=>rfl
 | n+1=>by
  rw [a_,Rat.intCast_add,M5_ n,Rat.intCast_mul,Rat.mul_comm];rfl
theorem j4_ {n k:Nat} (hn:n<7) (hk:k<=n) {l:oP} {ps:Nat->Nat} {X:oQ} (hlt:∀ i,i<k->ps i<n) (rq:∀ i j,i<j->j<k->ps i<ps j) (hz:∀ i,i<k->∀ c,c<ps i->aD l i c=0) (hne:∀ i,i<k->aD l i (ps i)≠0)
  (hA:∀ i,i<k->∀ r∈dr n k X,a_ r (aC l i) n=0):∀ J∈ai n k,ez n k X (b8 ps k)*qZ l k J=qZ l k (b8 ps k)*ez n k X J:=by
 obtain ⟨P,Fh⟩:=oN (b8 ps k);have Ku:P∈ai n k:=by rw [<- Fh];exact ju hn hk hlt rq k (n9 _)
 obtain ⟨a,ha⟩:=oN (ez n k X P);obtain ⟨b,hb⟩:=oN (qZ l k P);obtain ⟨Y,hY⟩:∃ Y,Y=(ai n k).map fun J=>a*qZ l k J-b*ez n k X J:=⟨_,rfl⟩;have FU:∀ J∈ai n k,ez n k Y J=a*qZ l k J-b*ez n k X J:=fun J hJ=>by
  unfold ez;rw [hY];exact S6_ hn hk hJ _
 rw [Fh,ha,hb]
 have hall:=Z22 hn hk (l:=l) (ps:=ps) (Y:=Y) hlt hz hne (fun J hJ h=>by
  have:J=P:=Z5P hn hk hJ Ku fun c hc o6=>by
   rw [<- Fh] at o6;obtain ⟨i,h1,h2⟩:=(nO k).1 o6;rw [<- h2];exact h i h1
  rw [FU J hJ,this,ha,hb,Int.mul_comm];omega) (fun i hi r hr=>by
  unfold dr at hr;obtain ⟨s,hs,rfl⟩:=List.mem_map.1 hr;have xT:k<n:=by
   unfold cH at hs;by_cases e:k=n;·rw [if_pos e] at hs;cases hs
   ·omega
  have tZ:s∈ai n (k+1):=by unfold cH at hs;rw [if_neg (by omega)] at hs;exact hs
  obtain ⟨Q,hQ⟩:∃ Q,Q=(ai n k).map fun J=>qZ l k J:=⟨_,rfl⟩;have If:∀ J∈ai n k,Q.getD (eY n k J) 0=qZ l k J:=fun J hJ=>by rw [hQ];exact S6_ hn hk hJ _
  have hg:∀ (Z:oQ) c,c<n->((List.range n).map fun i=>dV n k Z i s).getD c 0=dV n k Z c s:=fun Z c hc=>by
   rw [nu,nx,List.getElem?_range hc];rfl
  rw [g4_ (r1:=(List.range n).map fun i=>dV n k Q i s) (r2:=(List.range n).map fun i=>dV n k X i s) (a:=a) (b:=b) n fun c hc=>by
   rw [hg Y c hc,hg Q c hc,hg X c hc];by_cases o6:s.testBit c=true
   ·rw [js o6,js o6,js o6];have hm:=w0_ hn xT tZ hc o6;have h1:Y.getD (eY n k (s ^^^ (1 <<< c))) 0=_:=FU _ hm;rw [h1,If _ hm];unfold ez eQ
    split <;> grind
   ·have o6:s.testBit c=false:=by simpa using o6
    rw [kW o6,kW o6,kW o6];simp]
  have hx:a_ ((List.range n).map fun i=>dV n k X i s) (aC l i) n=0:=hA i hi _ (by unfold dr;exact List.mem_map.2 ⟨s,hs,rfl⟩);have hq:a_ ((List.range n).map fun i=>dV n k Q i s) (aC l i) n=0:=by
   have h9:=Z1T l hn xT tZ hi;have h8:((a_ ((List.range n).map fun i=>dV n k Q i s) (aC l i) n:Int):Rat)=0:=by
    rw [M5_,<- h9];refine cd fun c hc=>?_;rw [hg Q c hc];by_cases o6:s.testBit c=true
    ·rw [if_pos o6,js o6,If _ (w0_ hn xT tZ hc o6),<- im];unfold eQ aD
     split
     ·rw [Rat.intCast_neg];grind
     ·grind
    ·have tN:s.testBit c=false:=(by simpa using o6);rw [if_neg o6,kW tN];show _*(0:Rat)=0;grind
   exact Rat.intCast_eq_zero_iff.1 h8
  rw [hx,hq];simp)
 intro J hJ;have h9:=hall 64 J (f9_ n hn k (by omega) J hJ) hJ;rw [FU J hJ] at h9;omega
theorem Z4d {k:Nat} {f g:Nat->Nat} (hf:∀ i j,i<j->j<k->f i<f j) (hg:∀ i j,i<j->j<k->g i<g j) (h1:∀ i,i<k->∃ j,j<k/\g j=f i) (h2:∀ i,i<k->∃ j,j<k/\f j=g i):∀ (b j:Nat),j<b->j<k->f j=g j
 | 0,j,h,_=>by omega
 | b+1,j,hb,hj=>by
  have ih:∀ i,i<j->f i=g i:=fun i hi=>Z4d hf hg h1 h2 b i (by omega) (by omega);obtain ⟨i,hi,e⟩:=h1 j hj;obtain ⟨i2,qA,e2⟩:=h2 j hj;have g1:¬ i<j:=fun h=>by have:=hf i j h hj;rw [ih i h] at this;omega
  have g2:¬ i2<j:=fun h=>by have:=hg i2 j h hj;rw [<- ih i2 h] at this;omega
  have a1:g j<=f j:=by
   by_cases e3:i=j;·subst e3;omega
   ·have:=hg j i (by omega) hi;omega
  have a2:f j<=g j:=by
   by_cases e3:i2=j;·subst e3;omega
   ·have:=hf j i2 (by omega) qA;omega
  omega
theorem kZ {n k:Nat} {S:Nat->Nat} (hn:n<7) (hk:k<=n) (hlt:∀ i,i<k->S i<n) (rq:∀ i j,i<j->j<k->S i<S j):∀ b,b<k->(bE (b8 S k)).getD b 0=S b:=by
 intro b hb;have hJ:=ju hn hk hlt rq k (n9 _);obtain ⟨k',rfl⟩:∃ k',k=k'+1:=⟨k-1,by omega⟩;have hM:=Z1P (k:=k') hn (by omega) hJ;refine Z4d (k:=k'+1) hM.inc rq (fun i hi=>?_) (fun i hi=>?_) (k'+1) b hb hb
 ·obtain ⟨j,h1,h2⟩:=(nO (k'+1)).1 (hM.bit i hi);exact ⟨j,h1,h2⟩
 ·exact hM.has (S i) (hlt i hi) ((nO (k'+1)).2 ⟨i,hi,rfl⟩)
theorem Z2x {Q:Rat->Prop} (hQ:gO Q) {f:Nat->Rat}:∀ {n:Nat},(∀ i,i<n->Q (f i))->Q (aI n f)
 | 0,_=>hQ.zero
 | n+1,h=>by
  have h1:=hQ.add _ _ (-1) (Z2x hQ (n:=n) fun i hi=>h i (by omega)) (h n (by omega));have e:aI n f+-((-1:Int):Rat)*f n=aI (n+1) f:=by
   show _=aI n f+f n;have:((-1:Int):Rat)=-1:=rfl;rw [this];grind
  rw [e] at h1;exact h1
theorem Z0N {Q:Rat->Prop} (hQ:gO Q) {x:Rat} (h:Q x) (z:Int):Q ((z:Rat)*x):=by
 have h1:=hQ.add 0 x (-z) hQ.zero h;rw [Rat.intCast_neg] at h1;have e:(0:Rat)+-(-(z:Rat))*x=(z:Rat)*x:=by grind
 rw [e] at h1;exact h1
theorem Z5M (i:Nat) {a b:Nat} (h:a<b):sk i a<sk i b:=by unfold sk;split <;> split <;> omega
theorem Z5N {i a j:Nat} (h:a<j):sk i a<j+1:=by unfold sk;split <;> omega
theorem q5_ {Q:Rat->Prop} (hQ:gO Q) {n K:Nat} {h:oP} {k:Nat} (hk:∀ S:Nat->Nat,(∀ b,b<k->S b<n)->(∀ a b,a<b->b<k->S a<S b)->Q (aL k fun a b=>((aD h (n-k+a) (K+S b):Int):Rat))) :
  ∀ j,k+j<=n->∀ S:Nat->Nat,(∀ b,b<k+j->S b<n)->(∀ a b,a<b->b<k+j->S a<S b)->Q (aL (k+j) fun a b=>((aD h (n-(k+j)+a) (K+S b):Int):Rat))
 | 0,_,S,h1,h2=>hk S h1 h2
 | j+1,hj,S,h1,h2=>by
  show Q (aL (k+j+1) _);rw [<- eU];show Q (aI (k+j+1) _);refine Z2x hQ fun i hi=>?_;have ih:=q5_ hQ hk j (by omega) (fun b=>S (sk i b)) (fun b hb=>h1 _ (by have:=Z5N (i:=i) hb;omega)) (fun a b pU hb=>h2 _ _ (Z5M i pU) (by have:=Z5N (i:=i) hb;omega));have e:aL (k+j) (fun a b=>((aD h (n-(k+(j+1))+(b+1)) (K+S (sk i a)):Int):Rat))=aL (k+j) (fun a b=>((aD h (n-(k+j)+a) (K+S (sk i b)):Int):Rat)):=by
   rw [<- eU];refine cQ fun a b ha hb=>?_;rw [show n-(k+(j+1))+(a+1)=n-(k+j)+a by omega]
  show Q (dO i*((aD h (n-(k+(j+1))+0) (K+S i):Int):Rat)*aL (k+j) (fun a b=>((aD h (n-(k+(j+1))+(b+1)) (K+S (sk i a)):Int):Rat)));rw [e];have h9:=Z0N hQ (Z0N hQ ih (aD h (n-(k+(j+1))+0) (K+S i))) (if i%2=0 then 1 else -1);have e2:(((if i%2=0 then 1 else -1:Int)):Rat)=dO i:=by unfold dO;split <;> rfl
  rw [e2] at h9;rw [Rat.mul_assoc];exact h9
theorem Z1A {n k e F:Nat} {X:oQ} (hn:n<7) (hX:∀ x∈X,x.natAbs<=10^e) (hF:10^eN e (cH n k).length<F) (hE:eN e ((cH n k).length+1)+1<=400000000) {R l:oP} (hR:nJ F n k X=some R) (hl:ae n l) (hs:bP n (aG 0 R) (aG 0 l)) (hll:l.length=R.length) (p:Int)
  (hp:∀ J∈ai n l.length,∃ t:Int,qZ l l.length J=t*p):p.natAbs=1:=by
 have hM:=I5_ n k X;have hlx:=f7_ n k X;obtain ⟨M,rk⟩:=oN (dr n k X);rw [rk] at hM hlx;have hw:ae ((cH n k).length+n) (jO n k X):=by rw [hM,<- hlx];exact lB n M
 obtain ⟨m',d,ps,e1,k1⟩:=Q4_ (N:=(cH n k).length+n) (F:=F) hw (Z1z hX) (cH n k).length hE hF;have hsp:=k1.sp;rw [hM] at hsp;have x9:m'.length=n:=by rw [k1.len,hM,gM]
 rw [<- hlx] at hsp;have Ib:(m'.drop d).map (·.drop M.length)=R:=by
  unfold nJ at hR;rw [e1] at hR;simp only [Option.some.injEq] at hR;rw [hlx];exact hR
 have hRl:R.length=n-d:=by rw [<- Ib];simp;omega
 obtain ⟨Q,Fg⟩:∃ Q:Rat->Prop,Q=fun x=>∃ t:Int,x=(t:Rat)*(p:Rat):=⟨_,rfl⟩;have hQ:gO Q:=by rw [Fg];exact Z0O (p:Rat)
 have hle:=k1.le;have od:∀ S:Nat->Nat,(∀ b,b<l.length->S b<n)->(∀ a b,a<b->b<l.length->S a<S b)->Q (aL l.length fun a b=>((aD m' (n-l.length+a) (M.length+S b):Int):Rat)):=by
  intro S h1 h2;have hJ:=ju hn (by omega) h1 h2 l.length (n9 _);obtain ⟨t,ht⟩:=hp _ hJ;have hq:Q (af l.length S (aC l)):=by
   have e2:af l.length S (aC l)=qQ l l.length (b8 S l.length):=by
    unfold qQ af;refine cQ fun a b ha hb=>?_;unfold bT;show _=(((aC l a).getD ((bE (b8 S l.length)).getD b 0) 0:Int):Rat);rw [kZ hn (by omega) h1 h2 b hb]
   rw [e2,<- im,ht,Fg];exact ⟨t,by rw [Rat.intCast_mul]⟩
  have h3:=lL (ie n l.length S) hQ hl hq (aC R) fun a ha=>hs.1 _ (ak (Nat.zero_le _) (by omega));have e3:af l.length S (aC R)=aL l.length fun a b=>((aD m' (n-l.length+a) (M.length+S b):Int):Rat):=by
   unfold af;refine cQ fun a b ha hb=>?_;unfold bT aD;rw [<- Ib,gI (by omega),mx,show n-l.length=d by omega]
  rw [e3] at h3;exact h3
 have hup:=q5_ hQ (K:=M.length) od (n-l.length) (by omega) (fun b=>b) (fun b hb=>by omega) (fun a b pU _=>pU);rw [show l.length+(n-l.length)=n by omega] at hup;have h0:Q (af m'.length (fun b=>M.length+b) (aC m')):=by
  rw [x9];have e4:af n (fun b=>M.length+b) (aC m')=aL n fun a b=>((aD m' (n-n+a) (M.length+b):Int):Rat):=by
   unfold af;refine cQ fun a b ha hb=>?_;unfold bT aD;rw [show n-n+a=a by omega]
  rw [e4];exact hup
 have hwid:=k1.wid;rw [<- hlx] at hwid;have h1:=lL (ie (M.length+n) m'.length fun b=>M.length+b) hQ hwid h0 (aC (bI n M)) fun a ha=>hsp.1 _ (ak (Nat.zero_le a) (by rw [gM];omega));have h2:af m'.length (fun b=>M.length+b) (aC (bI n M))=1:=by
  rw [x9,<- M4_ n];unfold af;refine cQ fun a b ha hb=>?_;show (((aC (bI n M) a).getD (M.length+b) 0:Int):Rat)=_;rw [U1_ (by omega)];by_cases pU:a=b;·rw [if_pos pU.symm,if_pos pU];rfl
  ·rw [if_neg (fun e=>pU e.symm),if_neg pU];rfl
 rw [h2,Fg] at h1;obtain ⟨t,ht⟩:=h1;have h3:(1:Int)=t*p:=by
  have:((1:Int):Rat)=((t*p:Int):Rat):=by rw [Rat.intCast_mul];exact ht
  exact Rat.intCast_inj.1 this
 have h4:(1:Int).natAbs=t.natAbs*p.natAbs:=by rw [h3,Int.natAbs_mul]
 exact Nat.eq_one_of_mul_eq_one_left (by simpa using h4.symm)
def gC (X:oQ):Int:=if jX X<0 then -(cP X:Int) else (cP X:Int)
def e7 (X:oQ):List Int:=if cP X=0 then X else X.map fun x=>aQ x (gC X)
theorem E8_ {X:oQ}:∀ i,i<=X.length->∀ (j:Nat) x,j<i->X[j]?=some x->g_ X i ∣ x.natAbs
 | 0,_,j,x,h,_=>by omega
 | i+1,hi,j,x,h,hx=>by
  obtain ⟨y,hy⟩:∃ y,X[i]?=some y:=⟨_,ns (by omega)⟩;rw [mi hy];by_cases e:j=i
  ·subst e;rw [hx] at hy;cases hy;exact Nat.gcd_dvd_right _ _
  ·exact Nat.dvd_trans (Nat.gcd_dvd_left _ _) (E8_ i (by omega) j x (by omega) hx)
theorem s2_ {X:oQ} {x:Int} (h:x∈X):∃ z:Int,x=(cP X:Int)*z:=by
 obtain ⟨j,hj⟩:=List.getElem?_of_mem h;have h1:=E8_ X.length (n9 _) j x (nt.1 hj).1 hj;have h2:((cP X:Nat):Int) ∣ x:=Int.ofNat_dvd_left.2 h1;exact h2
theorem f0_ {d z:Int} (hd:d≠0):aQ (d*z) d=z:=by
 unfold aQ;rw [Int.mul_tmod_right,if_neg (by simp),Int.mul_tdiv_cancel_left _ hd]
theorem l6_ {d z:Int} (hd:d≠0):aQ (d*z) (-d)=-z:=by
 have:d*z=(-d)*(-z):=by rw [Int.neg_mul_neg]
 rw [this];exact f0_ (by omega)
theorem Z5d {x:Int} (h:x≠0):x.sign≠0:=fun e=>h (Int.sign_eq_zero_iff_zero.1 e)
theorem Z0l {X:oQ} (h:jX X=0):∀ x∈X,x=0:=by
 intro x hx;unfold jX at h;cases hf:X.find? (·≠0) with
 | none =>
  have:=List.find?_eq_none.1 hf x hx;simpa using this
 | some y =>
  rw [hf] at h;have:=List.find?_some hf;exact absurd h (Z5d (by simpa using this))
theorem K5_ {X:oQ} (h:cP X≠0):∃ x∈X,x≠0:=by
 apply Classical.byContradiction;intro hn;have hall:∀ x∈X,x=0:=fun x hx=>Classical.byContradiction fun e=>hn ⟨x,hx,e⟩;apply h;have:∀ i,i<=X.length->g_ X i=0:=by
  intro i
  induction i with
  | zero=>intro _;rfl
  | succ i ih =>
   intro hi;obtain ⟨y,hy⟩:∃ y,X[i]?=some y:=⟨_,ns (by omega)⟩;rw [mi hy,ih (by omega),hall y (nw hy)];rfl
 exact this _ (n9 _)
theorem O0_ {X:oQ} {d:Nat} (h:∀ x∈X,d ∣ x.natAbs):∀ i,i<=X.length->d ∣ g_ X i
 | 0,_=>by unfold g_;exact Nat.dvd_zero d
 | i+1,hi=>by
  obtain ⟨y,hy⟩:∃ y,X[i]?=some y:=⟨_,ns (by omega)⟩;rw [mi hy];exact Nat.dvd_gcd (O0_ h i (by omega)) (h y (nw hy))
theorem O1_ (a:Int) (X:oQ):∀ i,i<=X.length->g_ (X.map (a*·)) i=a.natAbs*g_ X i
 | 0,_=>by unfold g_;simp
 | i+1,hi=>by
  obtain ⟨y,hy⟩:∃ y,X[i]?=some y:=⟨_,ns (by omega)⟩;rw [mi hy,mi (x:=a*y) (by rw [nx,hy];rfl),O1_ a X i (by omega),Int.natAbs_mul,Nat.gcd_mul_left]
theorem U7_ (a:Int) (X:oQ):cP (X.map (a*·))=a.natAbs*cP X:=by
 unfold cP;rw [List.length_map];exact O1_ a X _ (n9 _)
theorem i3_ {a:Int} (ha:a≠0) (X:oQ):jX (X.map (a*·))=a.sign*jX X:=by
 unfold jX
 induction X with
 | nil=>simp
 | cons x r ih =>
  rw [List.map_cons,List.find?_cons,List.find?_cons];by_cases hx:x=0
  ·subst hx;simp only [Int.mul_zero,ne_eq,not_true_eq_false,decide_false];exact ih
  ·have hax:a*x≠0:=Int.mul_ne_zero ha hx;simp only [ne_eq,hx,hax,not_false_eq_true,decide_true];exact Int.sign_mul a x
theorem Z27 {X q:oQ} {a b:Int} (hl:X.length=q.length) (hb:b≠0) (h1:cP q=1) (hp:∀ (i:Nat) x y,X[i]?=some x->q[i]?=some y->a*y=b*x):∃ c:Int,X=q.map (c*·):=by
 have hd:b.natAbs ∣ a.natAbs:=by
  have h2:b.natAbs ∣ cP (q.map (a*·)):=O0_ (fun z hz=>by
   obtain ⟨y,hy,rfl⟩:=List.mem_map.1 hz;obtain ⟨i,hi⟩:=List.getElem?_of_mem hy;obtain ⟨x,hx⟩:∃ x,X[i]?=some x:=⟨_,ns (by rw [hl];exact (nt.1 hi).1)⟩;rw [hp i x y hx hi,Int.natAbs_mul]
   exact Nat.dvd_mul_right _ _) _ (n9 _)
  rw [U7_,h1,Nat.mul_one] at h2;exact h2
 obtain ⟨c,hc⟩:=Int.natAbs_dvd_natAbs.1 hd;refine ⟨c,List.ext_getElem? fun i=>?_⟩;rw [nx];cases hx:X[i]? with
 | none =>
  rw [n_ (by rw [<- hl];exact List.getElem?_eq_none_iff.1 hx)];rfl
 | some x =>
  obtain ⟨y,hy⟩:∃ y,q[i]?=some y:=⟨_,ns (by rw [<- hl];exact (nt.1 hx).1)⟩;rw [hy];have h:=hp i x y hx hy;rw [hc,Int.mul_assoc] at h;rw [<- Int.eq_of_mul_eq_mul_left hb h];rfl
theorem Z2S {q:oQ} {c:Int} (hc:c≠0) (h1:cP q=1):e7 (q.map (c*·))=e7 q:=by
 have yF:cP (q.map (c*·))=c.natAbs:=by rw [U7_,h1,Nat.mul_one]
 have hs:=i3_ hc q;have vG:jX q≠0:=by
  intro e;obtain ⟨x,hx,pQ⟩:=K5_ (X:=q) (by omega);exact pQ (Z0l e x hx)
 unfold e7;rw [if_neg (by rw [yF];omega),if_neg (by omega),List.map_map];refine List.map_congr_left fun x _=>?_;show aQ (c*x) (gC (q.map (c*·)))=aQ x (gC q);unfold gC;rw [yF,hs,h1];have q8:∀ z:Int,aQ z 1=z:=fun z=>by have:=f0_ (d:=1) (z:=z) (by decide);rw [Int.one_mul] at this;exact this
 have x8:∀ z:Int,aQ z (-1)=-z:=fun z=>by have:=l6_ (d:=1) (z:=z) (by decide);rw [Int.one_mul] at this;exact this
 rcases Int.lt_trichotomy c 0 with h | h | h
 ·have vC:c.sign=-1:=Int.sign_eq_neg_one_of_neg h;have hn:(c.natAbs:Int)=-c:=by omega
  rw [vC,hn];by_cases h2:jX q<0
  ·rw [if_neg (by omega),if_pos h2];show _=aQ x (-1);rw [l6_ hc,x8]
  ·rw [if_pos (by omega),if_neg h2,Int.neg_neg,f0_ hc];exact (q8 x).symm
 ·exact absurd h hc
 ·have vC:c.sign=1:=Int.sign_eq_one_of_pos h;have hn:(c.natAbs:Int)=c:=by omega
  rw [vC,hn,Int.one_mul];by_cases h2:jX q<0
  ·rw [if_pos h2,if_pos h2,l6_ hc];exact (x8 x).symm
  ·rw [if_neg h2,if_neg h2,f0_ hc];exact (q8 x).symm
theorem d6_ {k R:Nat} (A:Nat->Nat->Rat):∀ (N:Nat) (ρ:Nat->Nat),fZ k ρ k<N->(∀ a,a<k->ρ a<R)->aL k (fun a b=>A (ρ a) b)=0\/∃ σ:Nat->Nat,(∀ a,a<k->σ a<R)/\(∀ a,a+1<k->σ a<σ (a+1))/\(aL k (fun a b=>A (ρ a) b)=aL k (fun a b=>A (σ a) b)\/aL k (fun a b=>A (ρ a) b)=- aL k (fun a b=>A (σ a) b))
 | 0,ρ,h,_=>by omega
 | N+1,ρ,hN,hR=>by
  by_cases hs:∀ a,a+1<k->ρ a<ρ (a+1);·exact .inr ⟨ρ,hR,hs,.inl rfl⟩
  ·obtain ⟨i,hi⟩:=Classical.not_forall.1 hs;have vn:i+1<k:=by
    false_or_by_contra
    rename_i hn;exact hi (fun h=>absurd h hn)
   have qA:¬ ρ i<ρ (i+1):=fun h=>hi (fun _=>h);by_cases he:ρ i=ρ (i+1);·exact .inl (y8_ (M:=fun a b=>A (ρ a) b) (i:=i) (j:=i+1) (by omega) vn (by omega) (fun b _=>by rw [he]))
   ·have h9:=d6_ (k:=k) (R:=R) A N (fun a=>ρ (az i a)) (by have:=e2_ (k:=k) (ρ:=ρ) (i:=i) (by omega) k vn (n9 _);omega) (fun a ha=>hR _ (by unfold az;repeat' split <;> try omega));have:=mn (n:=k) (fun a b=>A (ρ a) b) (r:=i) vn;rw [show (fun a b=>A (ρ (az i a)) b)=fun a b=>(fun a b=>A (ρ a) b) (az i a) b from rfl,this] at h9;rcases h9 with h | ⟨σ,h1,h2,h3⟩
    ·exact .inl (by grind)
    ·refine .inr ⟨σ,h1,h2,?_⟩;rcases h3 with h | h;·exact .inr (by grind)
     ·exact .inl (by grind)
theorem Z1n {k:Nat} {σ:Nat->Nat} (h:∀ a,a+1<k->σ a<σ (a+1)) (i:Nat):∀ j,i<j->j<k->σ i<σ j
 | 0,h1,_=>by omega
 | j+1,h1,h2=>by
  have h3:=h j h2;by_cases e:i=j;·subst e;exact h3
  ·have:=Z1n h i j (by omega) (by omega);omega
theorem Z55 {n k B:Nat} {l:oP} (hn:n<7) (hk:k<=n) (hB:∀ J∈ai n k,(qZ l k J).natAbs<=B) (S:Nat->Nat) (hS:∀ b,b<k->S b<n):∃ y:Int,af k S (aC l)=(y:Rat)/\y.natAbs<=B:=by
 have e:af k S (aC l)=aL k (fun a b=>(fun c r=>(((aC l r).getD c 0:Int):Rat)) (S a) b):=by
  unfold af;rw [<- eU];rfl
 rw [e];rcases d6_ (fun c r=>(((aC l r).getD c 0:Int):Rat)) (R:=n) (fZ k S k+1) S (Nat.lt_succ_self _) hS with h | ⟨σ,h1,h2,h3⟩
 ·exact ⟨0,h,by simp⟩
 ·have rq:∀ i j,i<j->j<k->σ i<σ j:=fun i j=>Z1n h2 i j;have hJ:=ju hn hk h1 rq k (n9 _);have e2:aL k (fun a b=>(fun c r=>(((aC l r).getD c 0:Int):Rat)) (σ a) b)=qQ l k (b8 σ k):=by
   unfold qQ af;rw [<- eU k (bT _ _)];refine cQ fun a b ha hb=>?_;unfold bT;show _=(((aC l b).getD ((bE (b8 σ k)).getD a 0) 0:Int):Rat);rw [kZ hn hk h1 rq a ha]
  rw [e2,<- im] at h3;rcases h3 with h | h;·exact ⟨_,h,hB _ hJ⟩
  ·exact ⟨-qZ l k (b8 σ k),by rw [h,Rat.intCast_neg],by rw [Int.natAbs_neg];exact hB _ hJ⟩
theorem l7_ {n B:Nat} {R:oP} {ps:Nat->Nat} (hn:n<7) (hR:aW n R ps) (xT:R.length<=n) (hB:∀ J∈ai n R.length,(qZ R R.length J).natAbs<=B):∀ i,i<R.length->aN (R.length*B) (aC R i):=by
 have hmin:=fun S hS=>Z55 (l:=R) hn xT hB S hS;obtain ⟨k,hk⟩:=oO R.length;have hpp:=il hR _ (n9 R.length);have hP:=ig hR _ (n9 R.length);rw [<- hk] at hpp hP hmin;have key:∀ i c,i<R.length->c<n->(aD R i c).natAbs<=R.length*B:=by
  intro i c hi yH;rw [<- hk] at hi |-
  obtain ⟨x,hx⟩:=ma (k:=k) (bT ps (aC R)) (fun a b pU ha=>by
   have h:aD R a (ps b)=0:=hR.2.zero a (by omega) (ps b) (hR.2.mono b a pU (by omega));show ((aD R a (ps b):Int):Rat)=0
   rw [h];rfl) (fun a ha h=>by
   have h1:((aD R a (ps a):Int):Rat)=0:=h;have h2:aD R a (ps a)=0:=by exact_mod_cast h1
   have:=hR.2.pos a (by omega);omega) (fun a=>((aD R a c:Int):Rat)) k (n9 _)
  have sW:∀ r,r<k->af k (fun b=>if b=r then c else ps b) (aC R)=x r*(dN R ps k:Rat):=by
   intro r hr;rw [<- hP];have e1:af k (fun b=>if b=r then c else ps b) (aC R)=aL k (fun a b=>if b=r then (0:Rat)+aI k (fun l=>x l*bT ps (aC R) a l) else bT ps (aC R) a b):=by
    unfold af;refine cQ fun a b ha hb=>?_;by_cases qu:b=r
    ·rw [if_pos qu,<- hx a (by omega) ha];show (((aC R a).getD (if b=r then c else ps b) 0:Int):Rat)=_;rw [if_pos qu];show ((aD R a c:Int):Rat)=_;grind
    ·rw [if_neg qu];show (((aC R a).getD (if b=r then c else ps b) 0:Int):Rat)=_;rw [if_neg qu];rfl
   rw [e1,mq (bT ps (aC R)) hr (fun _=>0) k x (fun l a=>bT ps (aC R) a l)];have e2:aL k (fun a b=>if b=r then (0:Rat) else bT ps (aC R) a b)=0:=by
    rw [<- eU];exact h_ (r:=r) hr fun b _=>if_pos rfl
   rw [e2,nh (k:=r) hr fun l hl hne=>?_]
   ·have e3:aL k (fun a b=>if b=r then bT ps (aC R) a r else bT ps (aC R) a b)=af k ps (aC R):=by
     unfold af;refine cQ fun a b _ _=>?_;by_cases qu:b=r;·rw [if_pos qu,qu]
     ·rw [if_neg qu]
    rw [e3];grind
   ·have e4:aL k (fun a b=>if b=r then bT ps (aC R) a l else bT ps (aC R) a b)=0 :=
     lR hr hl (fun h=>hne h.symm) fun b _=>by rw [if_pos rfl,if_neg hne]
    rw [e4];grind
  have hsum:((dN R ps k:Int):Rat)*((aD R i c:Int):Rat)=aI k fun l=>af k (fun b=>if b=l then c else ps b) (aC R)*bT ps (aC R) i l:=by
   have zn:((aD R i c:Int):Rat)=aI k fun l=>x l*bT ps (aC R) i l:=hx i (by omega) hi;rw [zn,<- iL];refine cd fun l hl=>?_;rw [sW l hl];grind
  obtain ⟨z,hz1,hz2⟩:=u1_ (n:=k) (B:=B*(dN R ps k).natAbs) (f:=fun l=>af k (fun b=>if b=l then c else ps b) (aC R)*bT ps (aC R) i l) fun l hl=>by
   obtain ⟨y,tT,rF⟩:=hmin (fun b=>if b=l then c else ps b) (fun b hb=>by
    show (if b=l then c else ps b)<n
    split
    ·exact yH
    ·exact hR.2.lt b (by omega))
   refine ⟨y*aD R i (ps l),?_,?_⟩;·rw [tT,Rat.intCast_mul];rfl
   ·rw [Int.natAbs_mul];refine Nat.mul_le_mul rF ?_;have h5:=hpp.2 l hl;have h6:=hR.2.pos l (by omega);have h7:(aD R i (ps l)).natAbs<=(aD R l (ps l)).natAbs:=by
     rcases Nat.lt_trichotomy i l with h | h | h;·have:=hR.2.red i l h (by omega);omega
     ·rw [h];exact n9 _
     ·rw [hR.2.zero i (by omega) (ps l) (hR.2.mono l i h (by omega))];simp
    omega
  rw [hz1] at hsum;have he:dN R ps k*aD R i c=z:=by exact_mod_cast hsum
  rw [<- he,Int.natAbs_mul,<- Nat.mul_assoc,Nat.mul_comm] at hz2;exact Nat.le_of_mul_le_mul_right hz2 (by omega)
 intro i hi y hy;obtain ⟨c,hc⟩:=List.getElem?_of_mem hy;have yH:c<n:=by have:=(nt.1 hc).1;rw [hR.1 i hi] at this;exact this
 have:=key i c hi yH;unfold aD at this;rw [nu,hc] at this;exact this
theorem r3_ {n r b F:Nat} {m:oP} (Dn:ae n m) (hb:∀ i,i<m.length->aN (10^b) (aC m i)) (hr:m.length<=r\/n<=r) (h1:(gN r b 0).1+1<=400000000) (h2:(gN r b 0).2+1<=400000000) (hF:10^(gN r b 0).1<F)
  (pj:∀ T:oP,ae n T->bP n (aG 0 m) (aG 0 T)->m.length<=T.length) :
  ∃ R ps,Z4L n F m=some R/\R.length=m.length/\aW n R ps/\(∀ i,i<R.length->aN (10^(gN r b 0).2) (aC R i))/\bP n (aG 0 m) (aG 0 R):=by
 obtain ⟨m',d',ps,q1,q2,q3,q4,q5,q6,q7⟩:=M3_ (n:=n) (F:=F) (n9 400000000) n 0 0 r b 0 m (fun _=>0) (by omega) Dn (fun i _ hi=>hb i hi) (fun i hi _=>by omega)
  ⟨fun i hi=>by omega,fun i j _ hj=>by omega,fun i hi=>by omega,fun i hi=>by omega,fun i j _ hj=>by omega,fun i _ _ c' hc=>by omega⟩ (by omega) h1 h2 hF
 rw [Nat.zero_add] at q6;have hlen:(m'.take d').length=d':=by rw [ny];omega
 have hW:ae n (m'.take d'):=fun i hi=>by rw [hlen] at hi;rw [jW hi];exact q4 i (by omega)
 have hsp:bP n (aG 0 m') (aG 0 (m'.take d')):=by
  constructor
  ·rintro x ⟨i,-,h2,rfl⟩;by_cases hi:i<d';·rw [<- jW (m:=m') hi];exact .mem (ak (by omega) (by omega))
   ·rw [v5_ (q4 i h2) (fun c hc=>q6.rest i (by omega) h2 c hc)];exact .zero
  ·rintro x ⟨i,-,h2,rfl⟩;rw [hlen] at h2;rw [jW h2];exact .mem (ak (by omega) (by omega))
 have hd:m.length<=d':=by rw [<- hlen];exact pj _ hW (q7.trans hsp)
 have pW:d'=m'.length:=by omega
 refine ⟨m',ps,by unfold Z4L;rw [q1];rfl,q2,⟨q4,by rw [<- pW];exact q6⟩,fun i hi=>q5 i (by omega) hi,q7⟩
def bB (n k:Nat) (l:oP):List Int:=(ai n k).map (qZ l k)
theorem k5_ {n k e F F2 B:Nat} {X:oQ} (hn:n<7) (hk:k<=n) (Bd:X.length=(ai n k).length) (hX:∀ x∈X,x.natAbs<=10^e) (Kn:∀ x∈X,x.natAbs<=B) (h0:cP X≠0)
  (hF:10^eN e (cH n k).length<F) (hE:eN e ((cH n k).length+1)+1<=400000000) {R:oP} (hR:nJ F n k X=some R) (hK:Z6l n k (eN e (cH n k).length) X R) (hRk:R.length=k)
  (g1:(gN n (eN e (cH n k).length) 0).1+1<=400000000) (g2:(gN n (eN e (cH n k).length) 0).2+1<=400000000) (wJ:10^(gN n (eN e (cH n k).length) 0).1<F2) :
  ∃ l ps,Z4L n F2 R=some l/\l.length=k/\aW n l ps/\(∀ i,i<l.length->aN (k*B) (aC l i))/\cP (bB n k l)=1/\e7 X=e7 (bB n k l)/\∀ x∈bB n k l,x.natAbs<=B:=by
 obtain ⟨l,ps,f1,f2,f3,-,f5⟩:=r3_ (F:=F2) hK.wid hK.bnd (.inr (n9 n)) g1 g2 wJ hK.free;have yA:l.length=k:=by rw [f2,hRk]
 have hH:=f3.2;rw [yA] at hH;have q8:cP (bB n k l)=1:=by
  have:=Z1A hn hX hF hE hR f3.1 f5 f2 (cP (bB n k l):Int) (fun J hJ=>by
   rw [yA] at hJ |-;obtain ⟨z,hz⟩:=s2_ (X:=bB n k l) (x:=qZ l k J) (List.mem_map.2 ⟨J,hJ,rfl⟩)
   exact ⟨z,by rw [Int.mul_comm];exact hz⟩)
  simpa using this
 have hP:=ju hn hk hH.lt hH.mono k (n9 _);have hb:qZ l k (b8 ps k)≠0:=by
  intro h9;have e1:qQ l k (b8 ps k)=af k ps (aC l):=by
   unfold qQ af;refine cQ fun a b ha hb=>?_;unfold bT;show (((aC l a).getD ((bE (b8 ps k)).getD b 0) 0:Int):Rat)=_;rw [kZ hn hk hH.lt hH.mono b hb]
  have e2:=ig f3 k (by omega);have e3:=(il f3 k (by omega)).1;rw [<- im,h9,e2] at e1;have:dN l ps k=0:=by exact_mod_cast e1.symm
  omega
 have hprop:=j4_ (l:=l) (X:=X) hn hk hH.lt hH.mono hH.zero (fun i hi=>by have:=hH.pos i hi;omega) (fun i hi r hr=>by
  obtain ⟨j,zy⟩:=List.getElem?_of_mem hr;have hj:=(nt.1 zy).1;have hjr:=eP zy;have:=((hK.ann _).1 ((f5.iff _).2 (.mem (ak (Nat.zero_le i) (by omega))))).2 j hj
  rw [hjr] at this;exact this)
 obtain ⟨c,hc⟩:=Z27 (X:=X) (q:=bB n k l) (a:=ez n k X (b8 ps k)) (b:=qZ l k (b8 ps k)) (by unfold bB;rw [List.length_map,Bd]) hb q8 (fun i x y hx hy=>by
  unfold bB at hy;rw [nx,Option.map_eq_some_iff] at hy;obtain ⟨J,hJ,rfl⟩:=hy;have h9:=hprop J (nw hJ);have hil:=(nt.1 hJ).1;have hpl:eY n k J=i:=by
   have h:=of_decide_eq_true (List.all_eq_true.1 (H2_ n hn k (by omega)) i (List.mem_range.2 hil));rw [nu,hJ] at h;exact h
  have qN:ez n k X J=x:=by unfold ez;rw [hpl,nu,hx];rfl
  rw [qN] at h9;exact h9)
 have sx:c≠0:=by
  intro e9;apply h0;rw [hc,U7_,e9];simp
 have FE:e7 X=e7 (bB n k l):=by rw [hc];exact Z2S sx q8
 have EA:∀ J∈ai n k,(qZ l k J).natAbs<=B:=by
  intro J hJ;have hm:c*qZ l k J∈X:=by rw [hc];exact List.mem_map.2 ⟨_,List.mem_map.2 ⟨J,hJ,rfl⟩,rfl⟩
  have h9:=Kn _ hm;rw [Int.natAbs_mul] at h9;exact n8 (Nat.le_mul_of_pos_left _ (by omega)) h9
 refine ⟨l,ps,f1,yA,f3,?_,q8,FE,fun x hx=>by
  obtain ⟨J,hJ,rfl⟩:=List.mem_map.1 hx
  exact EA J hJ⟩
 have:=l7_ hn f3 (by omega) (B:=B) (by rw [yA];exact EA);rw [yA] at this |-;exact this
theorem Z51:∀ k,k<7->bh k k=[List.range k]:=by decide +kernel
theorem Z3B {n k:Nat} {l:oP} (hn:n<7) (hk:k<=n) (hl:l.length=k) (hc:bJ l=n):fp l k=bB n k l:=by
 unfold fp bB;rw [hl,hc,Z51 k (by omega),<- d1_ hn hk];show (List.map _ ((ai n k).map bE))++[]=_;rw [List.append_nil,List.map_map];refine List.map_congr_left fun J hJ=>?_;show kd l k (List.range k) (bE J)=qZ l k J;have hlen:(bE J).length=k:=by
  have h9:bE J∈bh n k:=by rw [<- d1_ hn hk];exact List.mem_map_of_mem hJ
  exact (nY (by omega) hk).1.len _ h9
 unfold kd qZ;rw [Z1S (by simp) hlen];congr 1;unfold qQ af;refine cQ fun a b ha hb=>?_;rw [w3_];unfold bT kI aC;rw [nu (l:=List.range k),List.getElem?_range ha];rfl
end Go.Proofs.YtoonaddcfakamaaGreatDoor
