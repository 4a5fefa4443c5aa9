import Derived.Test.YtoonaddcfakamaaGreatDoorZAO
import Derived.Test.YtoonaddcfakamaaGreatDoorZAF
import Derived.Test.YtoonaddcfakamaaGreatDoorZAG
import Derived.Test.YtoonaddcfakamaaGreatDoorZAK
import Derived.Test.YtoonaddcfakamaaGreatDoorZAE
import Derived.Test.YtoonaddcfakamaaGreatDoorZAH
set_option linter.unusedVariables false
set_option linter.unusedSimpArgs false
namespace Go.Proofs.YtoonaddcfakamaaGreatDoor
open Go.RowKit
structure CoK (n d:Nat) (m m':pM):Prop where
 len:m'.length=m.length
 wid:ak n m'
 sp:bT n (aG d m) (aG d m')
 ahead:∀ i,i<d->aD m' i=aD m i
theorem Z20 {n c d:Nat}:∀ {F:Nat} {m m':pM} {b:Bool},dV n c d F m=some (m',b)->d<m.length->ak n m->CoK n d m m'
 | 0,m,m',b,h,hd,hw=>by cases h
 | f+1,m,m',b,h,hd,hw=>by
  rw [jG] at h;by_cases hok:bH n m=true
  ·rw [if_pos hok] at h;cases ha:ao c d m (m.length-d) with
   | none =>
    rw [ha] at h;simp only [Option.some.injEq,Prod.mk.injEq] at h;obtain ⟨rfl,-⟩:=h;exact ⟨rfl,hw,bT.refl _ _,fun i _=>rfl⟩
   | some a =>
    rw [ha] at h;simp only at h;obtain ⟨b1,b2,b3,b4⟩:=iH ha;have qV:a<m.length:=(by omega);have hsl:=j5 m d a;have yc:ak n (a8 m d a):=by
     intro i hi;rw [my hd qV]
     split
     ·exact hw d hd
     ·split
      ·exact hw a qV
      ·exact hw i (by omega)
    cases qJ:cH c d (a8 m d a) (m.length-(d+1)) with
    | none=>rw [qJ] at h;cases h
    | some y =>
     obtain ⟨m2,rest⟩:=y;rw [qJ] at h;obtain ⟨l1,l2,l3⟩:=kQ qJ (by omega);have rZ:ak n m2:=fun i hi=>by rw [l3 i];exact yc i (by omega)
     have hsp:bT n (aG d m) (aG d m2):=(Z3U hd qV b1).trans (Z2c qJ (by omega));have Cx:∀ i,i<d->aD m2 i=aD m i:=fun i hi=>by
      rw [l2 i (.inl (by omega)),my hd qV,if_neg (by omega),if_neg (by omega)]
     cases rest with
     | true =>
      simp only at h;have s:=Z20 h (by omega) rZ;refine ⟨by rw [s.len,l1,hsl],s.wid,hsp.trans s.sp,fun i hi=>?_⟩;rw [s.ahead i hi,Cx i hi]
     | false =>
      simp only [Option.some.injEq,Prod.mk.injEq] at h;obtain ⟨rfl,-⟩:=h;exact ⟨by rw [l1,hsl],rZ,hsp,Cx⟩
  ·rw [if_neg hok] at h;cases h
structure iC (m:pM) (d c:Nat) (ps:Nat->Nat):Prop where
 lt:∀ i,i<d->ps i<c
 mono:∀ i j,i<j->j<d->ps i<ps j
 zero:∀ i,i<d->∀ c',c'<ps i->aC m i c'=0
 ne:∀ i,i<d->aC m i (ps i)≠0
 rest:∀ i,d<=i->i<m.length->∀ c',c'<c->aC m i c'=0
theorem iC.nil (m:pM) (ps:Nat->Nat):iC m 0 0 ps:=⟨fun i h=>by omega,fun i j _ h=>by omega,fun i h=>by omega,fun i h=>by omega,fun i _ _ c' h=>by omega⟩
theorem iC.next {m:pM} {d c:Nat} {ps:Nat->Nat} (h:iC m d c ps) (hz:∀ i,d<=i->i<m.length->aC m i c=0):iC m d (c+1) ps :=
 ⟨fun i hi=>by have:=h.lt i hi;omega,h.mono,h.zero,h.ne,fun i h1 h2 c' hc=>by
  by_cases e:c'=c;·rw [e];exact hz i h1 h2
  ·exact h.rest i h1 h2 c' (by omega)⟩
theorem iC.step {n c d C U:Nat} {m m':pM} {ps:Nat->Nat} (h:iC m d c ps) (hd:d<m.length) (hw:ak n m) (s:CoR n d c C U m m') (k:CoK n d m m'):iC m' (d+1) (c+1) (fun i=>if i<d then ps i else c):=by
 have hz:∀ i,d<=i->i<m'.length->∀ c',c'<c->aC m' i c'=0:=by
  intro i h1 h2 c' hc;have hi:Sp n (aG d m) (aD m' i):=k.sp.2 _ (az h1 h2);exact hi.zeroCol (cT hw) (by rintro r ⟨j,j1,j2,rfl⟩;exact h.rest j j1 j2 c' hc)
 have pw:∀ i,i<d->∀ c',aC m' i c'=aC m i c':=fun i hi c'=>by unfold aC;rw [k.ahead i hi]
 refine ⟨fun i hi=>?_,fun i j qH hj=>?_,fun i hi c' hc=>?_,fun i hi=>?_,fun i h1 h2 c' hc=>?_⟩
 ·split
  ·rename_i rK;have:=h.lt i rK;omega
  ·omega
 ·rw [if_pos (show i<d by omega)]
  split
  ·rename_i rK;exact h.mono i j qH rK
  ·exact h.lt i (by omega)
 ·split at hc
  ·rename_i rK;rw [pw i rK c'];exact h.zero i rK c' hc
  ·obtain rfl:i=d:=(by omega);exact hz i (oz _) (by rw [s.len];exact hd) c' hc
 ·split
  ·rename_i rK;rw [pw i rK];exact h.ne i rK
  ·obtain rfl:i=d:=(by omega);exact s.pos
 ·by_cases rh:c'=c;·rw [rh];exact s.zero i (by omega) (by rw [<- s.len];exact h2)
  ·exact hz i (by omega) h2 c' (by omega)
theorem Z6T {n d:Nat} {m m':pM} (k:CoK n d m m'):bT n (aG 0 m) (aG 0 m'):=by
 have zY:∀ {x:pM} {r},aG d x r->aG 0 x r:=fun ⟨i,h1,h2,h3⟩=>⟨i,by omega,h2,h3⟩
 constructor
 ·rintro r ⟨i,-,h2,rfl⟩;by_cases hi:i<d
  ·rw [<- k.ahead i hi];exact .mem (az (by omega) (by rw [k.len];exact h2))
  ·exact (k.sp.1 _ (az (by omega) h2)).mono fun r hr=>.mem (zY hr)
 ·rintro r ⟨i,-,h2,rfl⟩;have h3:i<m.length:=by rw [<- k.len];exact h2
  by_cases hi:i<d
  ·rw [k.ahead i hi];exact .mem (az (by omega) h3)
  ·exact (k.sp.2 _ (az (by omega) h2)).mono fun r hr=>.mem (zY hr)
def eN (e:Nat):Nat->Nat
 | 0=>e
 | c+1=>4*eN e c+1
theorem Z7P (e:Nat):2*(3*(10^e*10^e*(10^e*10^e)))<=10^(4*e+1):=by
 have:10^e*10^e*(10^e*10^e)=10^(4*e):=by rw [<- Nat.pow_add,<- Nat.pow_add];congr 1;omega
 rw [this,Nat.pow_succ];omega
structure Z7Y (N C e:Nat) (m m':pM) (d c:Nat) (ps:Nat->Nat):Prop where
 len:m'.length=m.length
 le:d<=m'.length
 lec:d<=c
 wid:ak N m'
 bnd:∀ i,i<m'.length->aT (10^eN e c) (aD m' i)
 sp:bT N (aG 0 m) (aG 0 m')
 ech:iC m' d c ps
theorem Q7_ {N F e:Nat} {m:pM} (hw:ak N m) (hb:∀ i,i<m.length->aT (10^e) (aD m i)):∀ c,eN e (c+1)+1<=400000000->10^eN e c<F->∃ m' d ps,fi N F m c=some (m',d)/\Z7Y N c e m m' d c ps
 | 0,_,_=>⟨m,0,fun _=>0,rfl,⟨rfl,Nat.zero_le _,oz _,hw,hb,bT.refl _ _,iC.nil m _⟩⟩
 | c+1,h1,hF=>by
  have hE:eN e (c+1)=4*eN e c+1:=rfl;have hE2:eN e (c+1+1)=4*eN e (c+1)+1:=rfl;have ve:10^eN e c<F:=Nat.lt_of_le_of_lt (Nat.pow_le_pow_right (by decide) (by omega)) hF;obtain ⟨m1,d,ps,e1,k1⟩:=Q7_ hw hb c (by omega) ve;have xQ:∀ r,aT (10^eN e c) r->aT (10^eN e (c+1)) r:=fun r hr=>hr.mono (Nat.pow_le_pow_right (by decide) (by omega));by_cases hd:d<m1.length
  ·have hlow:ev d (10^eN e c) m1:=fun i _ h3=>k1.bnd i h3;have zx:eU d (10^eN e c) m1:=fun i h2 h3=>k1.bnd i (by omega);obtain ⟨x,hx⟩:=pL (eN e c);have q4:=Z7P (eN e c);have g1:10^(4*eN e c+1)+2<10^(4*eN e c+2):=by
    rw [Nat.pow_succ 10 (4*eN e c+1),Nat.pow_succ 10 (4*eN e c)];have:=Nat.pow_pos (n:=4*eN e c) (show 0<10 by decide);omega
   have g2:10^eN e c<=10^(4*eN e c+1):=Nat.pow_le_pow_right (by decide) (by omega);rcases Z6U (n:=N) (c:=c) (F:=F) (K:=4*eN e c+2) (by omega) (by omega) (Nat.lt_of_le_of_lt (Nat.add_le_add_right q4 2) g1) (Nat.lt_of_le_of_lt (Nat.add_le_add_right g2 2) g1) (Nat.lt_of_le_of_lt (Nat.add_le_add_right g2 2) g1) ve hd k1.wid hlow zx with ⟨hc,hz⟩ | ⟨m2,hc,hr⟩
   ·refine ⟨m1,d,ps,by rw [kW,e1];simp only;rw [hc];rfl,⟨k1.len,k1.le,by have:=k1.lec;omega,k1.wid,fun i hi=>xQ _ (k1.bnd i hi),k1.sp,k1.ech.next hz⟩⟩
   ·have hk:=Z20 hc hd k1.wid;refine ⟨m2,d+1,_,by rw [kW,e1];simp only;rw [hc];rfl,⟨by rw [hr.len,k1.len],by rw [hr.len];omega,by have:=k1.lec;omega,hr.wid,fun i hi=>?_,k1.sp.trans (Z6T hk),k1.ech.step hd k1.wid hr hk⟩⟩;by_cases rD:i<d;·exact xQ _ (hr.upp i rD hi)
    ·exact (hr.low i (by omega) hi).mono (by rw [hE];exact q4)
  ·have hz:∀ i,d<=i->i<m1.length->aC m1 i c=0:=fun i h2 h3=>by omega
   have hc:dV N c d F m1=some (m1,false):=by
    have Gn:0<F:=Nat.lt_of_le_of_lt (Nat.zero_le _) ve;obtain ⟨f,rfl⟩:∃ f,F=f+1:=⟨F-1,by omega⟩;have hok:bH N m1=true:=mn (K:=eN e c+1) (B:=10^eN e c) (U:=10^eN e c) (d:=0) (by omega) (by omega) k1.wid (fun i _ h3=>k1.bnd i h3) (fun i h2 _=>by omega) (by rw [Nat.pow_succ];have:=Nat.pow_pos (n:=eN e c) (show 0<10 by decide);omega) (by rw [Nat.pow_succ];have:=Nat.pow_pos (n:=eN e c) (show 0<10 by decide);omega);rw [jG,if_pos hok,show m1.length-d=0 by omega];rfl
   exact ⟨m1,d,ps,by rw [kW,e1];simp only;rw [hc];rfl,⟨k1.len,k1.le,by have:=k1.lec;omega,k1.wid,fun i hi=>xQ _ (k1.bnd i hi),k1.sp,k1.ech.next hz⟩⟩
theorem b3_ {h:pM} {N k d:Nat} {ps:Nat->Nat} (hw:ak N h) (hh:iC h d k ps) (hd:d<=h.length) {w:pN} (hz:∀ c,c<k->w.getD c 0=0):∀ j,j<=d->Sp N (aG (d-j) h) w->Sp N (aG d h) w
 | 0,_,h9=>h9
 | j+1,hj,h9=>by
  have he:d-(j+1)<d:=by omega
  obtain ⟨t,ht⟩:=h9.peel hw (by omega)
  have h0:(aU t w (aD h (d-(j+1)))).getD (ps (d-(j+1))) 0=0:=ht.zeroCol (cT hw) (by
   rintro r ⟨i,h1,h2,rfl⟩;by_cases hid:i<d;·exact hh.zero i hid _ (hh.mono _ i (by omega) hid)
   ·exact hh.rest i (by omega) h2 _ (hh.lt _ he))
  rw [en t (by rw [h9.len (cT hw),hw _ (by omega)]),hz _ (hh.lt _ he)] at h0;have hne:aC h (d-(j+1)) (ps (d-(j+1)))≠0:=hh.ne _ he;have B9:t=0:=by
   have h1:t*aC h (d-(j+1)) (ps (d-(j+1)))=0:=(by unfold aC;omega);rcases Int.mul_eq_zero.1 h1 with h2 | h2;·exact h2
   ·exact absurd h2 hne
  rw [B9,jL,show d-(j+1)+1=d-j by omega] at ht;exact b3_ hw hh hd hz j (by omega) ht
theorem Z6a {h m:pM} {n d:Nat} {ps:Nat->Nat} (hw:ak (m.length+n) h) (hh:iC h d m.length ps) (hs:bT (m.length+n) (aG 0 (bK n m)) (aG 0 h)) (hd:d<=h.length) (v:pN) :
  Sp n (aG 0 ((h.drop d).map (·.drop m.length))) v↔cV n m v:=by
 have hlen:((h.drop d).map (·.drop m.length)).length=h.length-d:=by simp
 constructor
 ·intro hv
  induction hv with
  | zero=>exact ⟨by simp,fun i _=>lE _ _ _⟩
  | mem hm =>
   obtain ⟨i,-,hi,rfl⟩:=hm;have yU:d+i<h.length:=(by rw [hlen] at hi;omega);refine ⟨by rw [gw yU,List.length_drop,hw _ yU];omega,fun j hj=>?_⟩;have hP:=d8_ (hs.2 _ (az (Nat.zero_le (d+i)) yU));rw [gw yU,<- hP.2 j hj];exact hh.rest (d+i) (by omega) yU j hj
  | less q a b iha ihb =>
   refine ⟨by rw [eX];exact iha.1,fun i hi=>?_⟩;rw [lD _ _ (by rw [iha.1,ihb.1]),iha.2 i hi,ihb.2 i hi];simp
 ·intro hv;have rZ:Z49 n m (List.replicate m.length 0++v):=by
   refine ⟨by rw [pG,List.length_replicate,hv.1],fun i hi=>?_⟩;rw [mK (by simpa using hi),fp,List.drop_left' (by simp),hv.2 i hi]
  have h3:=(hs.iff _).1 (Z3Q rZ);have h4:=b3_ (w:=List.replicate m.length 0++v) hw hh hd (fun c hc=>by rw [mK (by simpa using hc),fp]) d (oz _) (by rw [Nat.sub_self];exact h3);have h5:=k2_ h4;rw [List.drop_left' (by simp)] at h5;exact h5
theorem Z1G {h m:pM} {n:Nat} (hh:ak (m.length+n) h) (hs:bT (m.length+n) (aG 0 (bK n m)) (aG 0 h)):n<=h.length:=by
 refine Classical.byContradiction fun hlt=>?_;have hlt:h.length<n:=by omega
 obtain ⟨R,hR⟩:=pL (h++List.replicate (n-h.length) (List.replicate (m.length+n) (0:Int)));have hRl:R.length=n:=by rw [hR];simp;omega
 have r7:∀ i,i<h.length->aD R i=aD h i:=fun i hi=>by
  apply eO;rw [hR,o6 hi];exact eL hi
 have hR2:∀ i,h.length<=i->i<n->aD R i=List.replicate (m.length+n) 0:=fun i hi hn=>by
  apply eO;rw [hR,o8 hi,List.getElem?_replicate,if_pos (by omega)]
 have hW:ak (m.length+n) R:=fun i hi=>by
  by_cases h1:i<h.length;·rw [r7 i h1];exact hh i h1
  ·rw [hR2 i (by omega) (by omega)];simp
 have h0:al R.length (fun b=>m.length+b) (aD R)=0:=by
  unfold al;refine ia (r:=h.length) (by omega) fun b _=>?_;show (((aD R h.length).getD (m.length+b) 0:Int):Rat)=0;rw [hR2 _ (oz _) hlt,fp];rfl
 have h1:=mI (Q:=fun x=>x=0) (jS (m.length+n) R.length fun b=>m.length+b) nW hW h0 (aD (bK n m)) fun a ha=>by
  have:=hs.1 _ (az (Nat.zero_le a) (by rw [iA];omega));refine this.mono fun r hr=>?_;obtain ⟨i,-,hi,rfl⟩:=hr;rw [<- r7 i hi];exact .mem (az (Nat.zero_le _) (by omega))
 have h2:al R.length (fun b=>m.length+b) (aD (bK n m))=1:=by
  rw [<- L1_ R.length];unfold al;refine cZ fun a b ha hb=>?_;show (((aD (bK n m) a).getD (m.length+b) 0:Int):Rat)=_;rw [U0_ (by omega)];by_cases qL:a=b;·rw [if_pos qL.symm,if_pos qL];rfl
  ·rw [if_neg (fun e=>qL e.symm),if_neg qL];rfl
 rw [h2] at h1;exact absurd h1 (by decide)
theorem n1_ (q:Int) (a b:pN):∀ K,aU q (List.replicate K 0++a) (List.replicate K 0++b)=List.replicate K 0++aU q a b
 | 0=>rfl
 | K+1=>by
  rw [List.replicate_succ,List.cons_append,List.cons_append,List.cons_append,<- n1_ q a b K];show (0-q*0)::_=_;simp
theorem Z5K {n K:Nat} {S S':pN->Prop} (h:∀ v,S v->Sp (K+n) S' (List.replicate K 0++v)) {v:pN} (hv:Sp n S v):Sp (K+n) S' (List.replicate K 0++v):=by
 induction hv with
 | zero=>rw [List.replicate_append_replicate];exact .zero
 | mem hm=>exact h _ hm
 | less q a b iha ihb=>rw [<- n1_];exact .less q iha ihb
theorem Z6z {r:pN} {K n:Nat} (hl:r.length=K+n) (hz:∀ c,c<K->r.getD c 0=0):List.replicate K 0++r.drop K=r:=by
 refine L3_ (by rw [pG,List.length_replicate,List.length_drop];omega) fun c=>?_;by_cases h:c<K;·rw [mK (by simpa using h),fp,hz c h]
 ·rw [r3_ (by simp;omega),np,List.length_replicate];congr 1;omega
def bz (n k:Nat) (X:pN):pM:=(bN n k).map fun s=>(List.range n).map fun i=>bh n k X i s
theorem H6_ (n k:Nat) (X:pN):cJ n k X=bK n (bz n k X):=by
 unfold cJ bK iM bz Z5q;refine List.map_congr_left fun i hi=>?_;rw [List.mem_range] at hi;congr 1;rw [List.map_map];refine List.map_congr_left fun s _=>?_;show _=((List.range n).map fun i=>bh n k X i s).getD i 0;rw [oe,oh,List.getElem?_range hi];rfl
theorem a1_ (n k:Nat) (X:pN):(bz n k X).length=(bN n k).length:=by unfold bz;rw [List.length_map]
theorem Z2N {n k e:Nat} {X:pN} (hX:∀ x∈X,x.natAbs<=10^e):∀ i,i<(cJ n k X).length->aT (10^e) (aD (cJ n k X) i):=by
 intro i hi;have hM:=H6_ n k X;have pP:∀ r∈bz n k X,∀ x∈r,x.natAbs<=10^e:=by
  intro r hr x hx;unfold bz at hr;obtain ⟨s,-,rfl⟩:=List.mem_map.1 hr;obtain ⟨i,-,rfl⟩:=List.mem_map.1 hx;show (bh n k X i s).natAbs<=_;unfold bh
  split
  ·rw [s0_];exact Z5O.getD (N:=10^e) hX _
  ·simp
 rw [hM] at hi |-;rw [iA] at hi;rw [l9 hi];intro x hx;have hp:1<=10^e:=Nat.pow_pos (by decide);rcases List.mem_append.1 hx with h | h
 ·obtain ⟨r,hr,rfl⟩:=List.mem_map.1 h;rw [oe];cases hc:r[i]? with
  | none=>simp
  | some y=>exact pP r hr y (og hc)
 ·rcases List.mem_or_eq_of_mem_set h with h | h;·rw [List.eq_of_mem_replicate h];simp
  ·rw [h];simpa using hp
structure Z7R (n k e:Nat) (X:pN) (R:pM):Prop where
 le:R.length<=n
 wid:ak n R
 bnd:∀ i,i<R.length->aT (10^e) (aD R i)
 ann:∀ v,Sp n (aG 0 R) v↔cV n (bz n k X) v
 free:∀ T:pM,ak n T->bT n (aG 0 R) (aG 0 T)->R.length<=T.length
theorem g1_ {n k e F:Nat} {X:pN} (hX:∀ x∈X,x.natAbs<=10^e) (hF:10^eN e (bN n k).length<F) (hE:eN e ((bN n k).length+1)+1<=400000000):∃ R,jK F n k X=some R/\Z7R n k (eN e (bN n k).length) X R:=by
 have hM:=H6_ n k X;have hl:=a1_ n k X;obtain ⟨K,hK⟩:=pK ((bN n k).length);obtain ⟨M,rU⟩:=pK (bz n k X);rw [rU] at hM hl;have hw:ak (K+n) (cJ n k X):=by rw [hM,<- hK,<- hl];exact l_ n M
 have hb:∀ i,i<(cJ n k X).length->aT (10^e) (aD (cJ n k X) i):=Z2N hX;rw [hK] at hF hE |-;obtain ⟨m',d,ps,e1,k1⟩:=Q7_ (N:=K+n) (F:=F) hw hb K hE hF;have hsp:=k1.sp;rw [hM] at hsp;have wD:m'.length=n:=by rw [k1.len,hM,iA]
 have L6:K=M.length:=by rw [hl,hK]
 subst L6;refine ⟨(m'.drop d).map (·.drop M.length),by unfold jK;rw [hK,e1],?_⟩;have hlen:((m'.drop d).map (·.drop M.length)).length=m'.length-d:=by simp
 refine ⟨by rw [hlen];omega,fun i hi=>?_,fun i hi=>?_,fun v=>?_,fun T hT IW=>?_⟩
 ·rw [hlen] at hi;rw [gw (by omega),List.length_drop,k1.wid _ (by omega)];omega
 ·rw [hlen] at hi;rw [gw (by omega)];intro x hx;exact k1.bnd (d+i) (by omega) x (List.mem_of_mem_drop hx)
 ·rw [rU];exact Z6a k1.wid k1.ech hsp k1.le v
 ·refine Classical.byContradiction fun hlt=>?_;have hlt2:T.length<m'.length-d:=by rw [hlen] at hlt;omega
  obtain ⟨h,hh⟩:=pL (m'.take d++T.map (List.replicate M.length (0:Int)++·));have FZ:h.length=d+T.length:=by rw [hh,pG,om,List.length_map];have:=k1.le;omega
  have qm:∀ i,i<d->aD h i=aD m' i:=fun i hi=>by
   apply eO;rw [hh,o6 (by rw [om];have:=k1.le;omega),List.getElem?_take,if_pos hi];exact eL (by have:=k1.le;omega)
  have pn:∀ i,i<T.length->aD h (d+i)=List.replicate M.length 0++aD T i:=fun i hi=>by
   apply eO;have yQ:(m'.take d).length=d:=by rw [om];have:=k1.le;omega
   rw [hh,o8 (by rw [yQ];omega),yQ,show d+i-d=i by omega,oh,eL hi];rfl
  have Lu:ak (M.length+n) h:=fun i hi=>by
   by_cases h1:i<d;·rw [qm i h1];exact k1.wid i (by have:=k1.le;omega)
   ·have:=pn (i-d) (by omega);rw [show d+(i-d)=i by omega] at this;rw [this,pG,List.length_replicate,hT _ (by omega)]
  have CP:∀ i,d<=i->i<m'.length->List.replicate M.length 0++(aD m' i).drop M.length=aD m' i:=fun i h1 h2=>Z6z (k1.wid i h2) fun c hc=>k1.ech.rest i h1 h2 c hc;have rC:bT (M.length+n) (aG 0 m') (aG 0 h):=by
   constructor
   ·rintro r ⟨i,-,h2,rfl⟩;by_cases h1:i<d;·rw [<- qm i h1];exact .mem (az (Nat.zero_le _) (by omega))
    ·rw [<- CP i (by omega) h2];have hmem:aG 0 ((m'.drop d).map (·.drop M.length)) ((aD m' i).drop M.length):=by
      have:=gw (h:=m') (k:=M.length) (d:=d) (i:=i-d) (by omega);rw [show d+(i-d)=i by omega] at this;rw [<- this];exact az (Nat.zero_le _) (by rw [hlen];omega)
     refine Z5K (S:=aG 0 T) ?_ (IW.1 _ hmem);rintro v ⟨j,-,hj,rfl⟩;rw [<- pn j hj];exact .mem (az (Nat.zero_le _) (by omega))
   ·rintro r ⟨i,-,h2,rfl⟩;by_cases h1:i<d;·rw [qm i h1];exact .mem (az (Nat.zero_le _) (by have:=k1.le;omega))
    ·have h3:=pn (i-d) (by omega);rw [show d+(i-d)=i by omega] at h3;rw [h3];refine Z5K (S:=aG 0 ((m'.drop d).map (·.drop M.length))) ?_ (IW.2 _ (az (Nat.zero_le _) (by omega)));rintro v ⟨j,-,hj,rfl⟩;rw [hlen] at hj;rw [gw (by omega),CP (d+j) (by omega) (by omega)];exact .mem (az (Nat.zero_le _) (by omega))
  have:=Z1G Lu (hsp.trans rC);omega
theorem b0_ {r s:pN} {p:Nat}:∀ n,p<n->(∀ c,c<n->c≠p->r.getD c 0*s.getD c 0=0)->bD r s n=r.getD p 0*s.getD p 0
 | 0,h,_=>by omega
 | n+1,h,hz=>by
  have hall:∀ m,m<=n->(∀ c,c<m->r.getD c 0*s.getD c 0=0)->bD r s m=0:=by
   intro m
   induction m with
   | zero=>intro _ _;rfl
   | succ m ih=>intro h1 h2;rw [bD,ih (by omega) fun c hc=>h2 c (by omega),h2 m (by omega)];rfl
  rw [bD];by_cases e:p=n
  ·subst e;rw [hall p (oz _) fun c hc=>hz c (by omega) (by omega)];omega
  ·rw [b0_ n (by omega) fun c h1 h2=>hz c (by omega) h2,hz n (by omega) (fun h=>e h.symm)];omega
def Z6Q (J p:Nat):Bool:=J.testBit p || (decide ((J ||| (1 <<< p)) ^^^ (1 <<< p)=J) && (J ||| (1 <<< p)).testBit p && (List.range 6).all fun c=>decide (c=p) || (((J ||| (1 <<< p)).testBit c == J.testBit c) && (decide (c<=p) || !J.testBit c || decide ((J ||| (1 <<< p)) ^^^ (1 <<< c)<J))))
theorem Z1T:(List.range 64).all (fun J=>(List.range 6).all (Z6Q J))=true:=by decide +kernel
theorem Z4e {J p:Nat} (hJ:J<64) (hp:p<6) (h:J.testBit p=false):(J ||| (1 <<< p)) ^^^ (1 <<< p)=J/\(J ||| (1 <<< p)).testBit p=true/\∀ c,c<6->c≠p->(J ||| (1 <<< p)).testBit c=J.testBit c/\(p<c->J.testBit c=true->(J ||| (1 <<< p)) ^^^ (1 <<< c)<J):=by
 have h1:=List.all_eq_true.1 (List.all_eq_true.1 Z1T J (List.mem_range.2 hJ)) p (List.mem_range.2 hp);unfold Z6Q at h1;rw [h,Bool.false_or,Bool.and_eq_true,Bool.and_eq_true,decide_eq_true_eq] at h1;refine ⟨h1.1.1,h1.1.2,fun c hc xj=>?_⟩;have h2:=List.all_eq_true.1 h1.2 c (List.mem_range.2 hc);rw [pD xj,Bool.false_or,Bool.and_eq_true,beq_iff_eq,Bool.or_eq_true,Bool.or_eq_true,decide_eq_true_eq,decide_eq_true_eq] at h2;refine ⟨h2.1,fun h3 h4=>?_⟩;rcases h2.2 with (h5 | h5) | h5;·omega
 ·rw [h4] at h5;cases h5
 ·exact h5
def Z7F (n k:Nat):Bool:=(aO n (k+1)).all fun s=>(List.range n).all fun c=>!s.testBit c || decide ((s ^^^ (1 <<< c))∈aO n k)
theorem Z2U:∀ n,n<7->∀ k,k<n->Z7F n k=true:=by decide +kernel
theorem L8_ {n k s c:Nat} (hn:n<7) (hk:k<n) (hs:s∈aO n (k+1)) (hc:c<n) (h:s.testBit c=true):(s ^^^ (1 <<< c))∈aO n k:=by
 have h1:=List.all_eq_true.1 (List.all_eq_true.1 (Z2U n hn k hk) s hs) c (List.mem_range.2 hc);rw [h,Bool.not_true,Bool.false_or,decide_eq_true_eq] at h1;exact h1
def Z7H (n k:Nat):Bool:=(aO n k).all fun s=>(List.range n).all fun i=>s.testBit i || decide ((s ||| (1 <<< i))∈aO n (k+1))
theorem Z39:∀ n,n<7->∀ k,k<n->Z7H n k=true:=by decide +kernel
theorem a7_ {n k s i:Nat} (hn:n<7) (hk:k<n) (hs:s∈aO n k) (hi:i<n) (hb:s.testBit i=false):(s ||| (1 <<< i))∈aO n (k+1):=by
 have h:=List.all_eq_true.1 (List.all_eq_true.1 (Z39 n hn k hk) s hs) i (List.mem_range.2 hi);rw [hb,Bool.false_or,decide_eq_true_eq] at h;exact h
theorem Z4B:∀ n,n<7->∀ s∈aO n n,∀ c,c<n->s.testBit c=true:=by decide +kernel
theorem a6_:∀ n,n<7->∀ k,k<n+1->∀ s∈aO n k,s<64:=by decide +kernel
def e8 (n k:Nat) (Y:pN) (t:Nat):Int:=Y.getD (cl n k t) 0
theorem s1_ {x:Int} {o:Bool}:dZ x o=0↔x=0:=by cases o <;> simp [dZ]
theorem Z3l {n k:Nat} (hn:n<7) (hk:k<=n) {l:pM} {ps:Nat->Nat} {Y:pN} (hlt:∀ i,i<k->ps i<n) (hz:∀ i,i<k->∀ c,c<ps i->aC l i c=0) (hne:∀ i,i<k->aC l i (ps i)≠0)
  (hP:∀ J∈aO n k,(∀ i,i<k->J.testBit (ps i)=true)->e8 n k Y J=0) (hm:∀ i,i<k->∀ r∈bz n k Y,bD r (aD l i) n=0):∀ (b J:Nat),J<b->J∈aO n k->e8 n k Y J=0
 | 0,J,h,_=>by omega
 | b+1,J,hJ,D9=>by
  by_cases hall:∀ i,i<k->J.testBit (ps i)=true;·exact hP J D9 hall
  ·obtain ⟨i,hi⟩:=Classical.not_forall.1 hall;obtain ⟨tN,hb⟩:=Classical.not_imp.1 hi;have hb:J.testBit (ps i)=false:=(by simpa using hb);have hp:=hlt i tN;have hkn:k<n:=by
    refine Classical.byContradiction fun hkn=>?_;obtain rfl:k=n:=by omega
    rw [Z4B k hn J D9 (ps i) hp] at hb;cases hb
   have h64:=a6_ n hn k (by omega) J D9;obtain ⟨b1,b2,b3⟩:=Z4e h64 (show ps i<6 by omega) hb;have hs:(J ||| (1 <<< ps i))∈aO n (k+1):=a7_ hn hkn D9 hp hb;obtain ⟨s,Kp⟩:=pK (J ||| (1 <<< ps i));rw [Kp] at hs b1 b2 b3;have FQ:(List.range n).map (fun c=>bh n k Y c s)∈bz n k Y:=by
    unfold bz bN;rw [if_neg (by omega)];exact List.mem_map.2 ⟨s,hs,rfl⟩
   have hrow:∀ c,c<n->((List.range n).map (fun c=>bh n k Y c s)).getD c 0=bh n k Y c s:=fun c hc=>by
    rw [oe,oh,List.getElem?_range hc];rfl
   have h0:=hm i tN _ FQ;rw [b0_ n hp ?z] at h0
   case z =>
    intro c hc xj;rw [hrow c hc];obtain ⟨b4,b5⟩:=b3 c (by omega) xj;by_cases wT:s.testBit c=true
    ·by_cases hcl:c<ps i
     ·have:(aD l i).getD c 0=0:=hz i tN c hcl;rw [this];simp
     ·have h9:=Z3l hn hk hlt hz hne hP hm b (s ^^^ (1 <<< c)) (by have:=b5 (by omega) (by rw [<- b4];exact wT);omega) (L8_ hn hkn hs hc wT);rw [jJ wT];unfold e8 at h9;rw [s1_.2 h9];simp
    ·rw [jt (by simpa using wT)];simp
   rw [hrow _ hp,jJ b2,b1] at h0;rcases Int.mul_eq_zero.1 h0 with h | h;·exact s1_.1 h
   ·exact absurd h (hne i tN)
theorem K7_ {f:Nat->Rat} {S:Nat->Nat}:∀ (n m:Nat),(∀ j,j<m->S j<n)->(∀ i j,i<j->j<m->S i<S j)->(∀ c,c<n->(∀ j,j<m->S j≠c)->f c=0)->aI n f=aI m fun j=>f (S j)
 | 0,0,_,_,_=>rfl
 | 0,m+1,h,_,_=>by have:=h 0 (by omega);omega
 | n+1,0,_,_,hz=>by
  show aI n f+f n=0;rw [hz n (by omega) (fun j hj=>by omega),K7_ (S:=S) n 0 (fun j hj=>by omega) (fun i j _ hj=>by omega) (fun c hc h=>hz c (by omega) h)];show (0:Rat)+0=0;grind
 | n+1,m+1,hl,hi,hz=>by
  by_cases e:S m=n
  ·show aI n f+f n=aI m _+f (S m)
   rw [e,K7_ (S:=S) n m (fun j hj=>by have:=hi j m hj (by omega);omega) (fun i j h1 h2=>hi i j h1 (by omega)) (fun c hc h=>hz c (by omega) fun j hj=>by
    by_cases ej:j=m;·subst ej;omega
    ·exact h j (by omega))]
  ·have hm:=hl m (by omega);have hlt:∀ j,j<m+1->S j<n:=fun j hj=>by
    by_cases ej:j=m;·subst ej;omega
    ·have:=hi j m (by omega) (by omega);omega
   show aI n f+f n=_;rw [hz n (by omega) (fun j hj=>by have:=hlt j hj;omega),K7_ (S:=S) n (m+1) hlt hi (fun c hc h=>hz c (by omega) h)];grind
def Z87 (n k:Nat):Bool:=(aO n (k+1)).all fun s=>decide ((aj s).length=k+1) && ((List.range (k+1)).all fun j=>decide ((aj s).getD j 0<n) && s.testBit ((aj s).getD j 0) && ((List.range j).all fun i=>decide ((aj s).getD i 0<(aj s).getD j 0)) && (ep (1 <<< (aj s).getD j 0) (s ^^^ (1 <<< (aj s).getD j 0)) == decide (j%2=1)) && (List.range k).all fun a=>decide ((aj (s ^^^ (1 <<< (aj s).getD j 0))).getD a 0=(aj s).getD (sk j a) 0))
 && (List.range n).all fun c=>!s.testBit c || (List.range (k+1)).any fun j=>decide ((aj s).getD j 0=c)
theorem Z4S:∀ n,n<7->∀ k,k<n->Z87 n k=true:=by decide +kernel
structure Z7Z (n k s:Nat):Prop where
 lt:∀ j,j<k+1->(aj s).getD j 0<n
 bit:∀ j,j<k+1->s.testBit ((aj s).getD j 0)=true
 inc:∀ i j,i<j->j<k+1->(aj s).getD i 0<(aj s).getD j 0
 odd:∀ j,j<k+1->ep (1 <<< (aj s).getD j 0) (s ^^^ (1 <<< (aj s).getD j 0))=decide (j%2=1)
 rest:∀ j,j<k+1->∀ a,a<k->(aj (s ^^^ (1 <<< (aj s).getD j 0))).getD a 0=(aj s).getD (sk j a) 0
 has:∀ c,c<n->s.testBit c=true->∃ j,j<k+1/\(aj s).getD j 0=c
theorem Z34 {n k s:Nat} (hn:n<7) (hk:k<n) (hs:s∈aO n (k+1)):Z7Z n k s:=by
 have h:=List.all_eq_true.1 (Z4S n hn k hk) s hs;rw [Bool.and_eq_true,Bool.and_eq_true] at h;have h2:∀ j,j<k+1->_:=fun j hj=>List.all_eq_true.1 h.1.2 j (List.mem_range.2 hj);refine ⟨fun j hj=>?_,fun j hj=>?_,fun i j qH hj=>?_,fun j hj=>?_,fun j hj a ha=>?_,fun c hc hb=>?_⟩;·have:=h2 j hj;simp only [Bool.and_eq_true,decide_eq_true_eq] at this;exact this.1.1.1.1
 ·have:=h2 j hj;simp only [Bool.and_eq_true,decide_eq_true_eq] at this;exact this.1.1.1.2
 ·have:=h2 j hj;simp only [Bool.and_eq_true] at this;exact of_decide_eq_true (List.all_eq_true.1 this.1.1.2 i (List.mem_range.2 qH))
 ·have:=h2 j hj;simp only [Bool.and_eq_true,beq_iff_eq] at this;exact this.1.2
 ·have:=h2 j hj;simp only [Bool.and_eq_true] at this;exact of_decide_eq_true (List.all_eq_true.1 this.2 a (List.mem_range.2 ha))
 ·have:=List.all_eq_true.1 h.2 c (List.mem_range.2 hc);rw [hb,Bool.not_true,Bool.false_or,List.any_eq_true] at this;obtain ⟨j,hj,he⟩:=this;exact ⟨j,List.mem_range.1 hj,of_decide_eq_true he⟩
def qQ (l:pM) (k J:Nat):Rat:=al k (fun b=>(aj J).getD b 0) (aD l)
theorem n5_ {n k s i:Nat} (l:pM) (hn:n<7) (hk:k<n) (hs:s∈aO n (k+1)) (hi:i<k) :
  aI n (fun c=>if s.testBit c=true then ((aC l i c:Int):Rat)*((if ep (1 <<< c) (s ^^^ (1 <<< c))=true then -1 else 1)*qQ l k (s ^^^ (1 <<< c))) else 0)=0:=by
 have hM:=Z34 hn hk hs;obtain ⟨S,hS⟩:∃ S:Nat->Nat,S=fun j=>(aj s).getD j 0:=⟨_,rfl⟩
 rw [K7_ (S:=S) n (k+1) (fun j hj=>by rw [hS];exact hM.lt j hj) (fun a b h1 h2=>by rw [hS];exact hM.inc a b h1 h2) (fun c hc h=>if_neg fun hb=>by
  obtain ⟨j,hj,he⟩:=hM.has c hc hb
  exact h j hj (by rw [hS];exact he))]
 have h0:aK (k+1) (fun a b=>if b=0 then ((aC l i (S a):Int):Rat) else ((aC l (b-1) (S a):Int):Rat))=0 :=
  mQ (i:=0) (j:=i+1) (by omega) (by omega) (by omega) fun b _=>by rw [if_pos rfl,if_neg (by omega)];rfl
 have e:aK (k+1) (fun a b=>if b=0 then ((aC l i (S a):Int):Rat) else ((aC l (b-1) (S a):Int):Rat))=aI (k+1) fun j=>da j*((aC l i (S j):Int):Rat)*aK k fun a b=>((aC l b (S (sk j a)):Int):Rat):=by
  show aI (k+1) _=_;rfl
 rw [e] at h0;rw [<- h0];refine cw fun j hj=>?_;have hb:s.testBit (S j)=true:=by rw [hS];exact hM.bit j hj
 have ho:ep (1 <<< S j) (s ^^^ (1 <<< S j))=decide (j%2=1):=by rw [hS];exact hM.odd j hj
 rw [if_pos hb,ho];have hq:qQ l k (s ^^^ (1 <<< S j))=aK k fun a b=>((aC l b (S (sk j a)):Int):Rat):=by
  unfold qQ al;rw [<- eh k (bW _ _)];refine cZ fun a b ha hb=>?_;unfold bW aC;have:=hM.rest j hj a ha;rw [hS];show (((aD l b).getD ((aj (s ^^^ 1 <<< (aj s).getD j 0)).getD a 0) 0:Int):Rat)=(((aD l b).getD ((aj s).getD (sk j a) 0) 0:Int):Rat);rw [this]
 rw [hq];unfold da;by_cases h2:j%2=0;·rw [if_pos h2,if_neg (by simp;omega)];grind
 ·rw [if_neg h2,if_pos (by simp;omega)];grind
theorem k6_ {f:Nat->Rat}:∀ {n:Nat},(∀ i,i<n->∃ z:Int,f i=(z:Rat))->∃ z:Int,aI n f=(z:Rat)
 | 0,_=>⟨0,rfl⟩
 | n+1,h=>by
  obtain ⟨z,hz⟩:=k6_ (n:=n) fun i hi=>h i (by omega);obtain ⟨y,hy⟩:=h n (by omega);exact ⟨z+y,by rw [Rat.intCast_add,<- hz,<- hy];rfl⟩
theorem p4_:∀ (k:Nat) (m:Nat->Nat->Int),∃ z:Int,aK k (fun a b=>(m a b:Rat))=(z:Rat)
 | 0,_=>⟨1,rfl⟩
 | k+1,m=>k6_ fun i _=>by
  obtain ⟨z,hz⟩:=p4_ k fun a b=>m (sk i a) (b+1);refine ⟨(if i%2=0 then 1 else -1)*m i 0*z,?_⟩;show da i*(m i 0:Rat)*_=_;rw [hz,Rat.intCast_mul,Rat.intCast_mul];unfold da
  split <;> rfl
def qZ (l:pM) (k J:Nat):Int:=(qQ l k J).num
theorem im (l:pM) (k J:Nat):((qZ l k J:Int):Rat)=qQ l k J:=by
 obtain ⟨z,hz⟩:=p4_ k fun a b=>(aD l a).getD ((aj J).getD b 0) 0;have:qQ l k J=(z:Rat):=hz;unfold qZ;rw [this];rfl
def Z7L (n k:Nat):Bool:=(List.range (aO n k).length).all fun i=>decide (cl n k ((aO n k).getD i 0)=i)
theorem G2_:∀ n,n<7->∀ k,k<n+1->Z7L n k=true:=by decide +kernel
theorem mr {n k J:Nat} (hn:n<7) (hk:k<=n) (hJ:J∈aO n k) (f:Nat->Int):((aO n k).map f).getD (cl n k J) 0=f J:=by
 obtain ⟨i,hi⟩:=List.getElem?_of_mem hJ;have hil:=(od.1 hi).1;have h:=of_decide_eq_true (List.all_eq_true.1 (G2_ n hn k (by omega)) i (List.mem_range.2 hil));rw [oe,hi] at h;have h:cl n k J=i:=h;rw [h,oe,oh,hi];rfl
def Z8c (n k:Nat):Bool:=(aO n k).all fun J=>(aO n k).all fun P=>decide (J=P) || (List.range n).any fun c=>P.testBit c && !J.testBit c
theorem Z5l:∀ n,n<7->∀ k,k<n+1->Z8c n k=true:=by decide +kernel
theorem Z7f {n k J P:Nat} (hn:n<7) (hk:k<=n) (hJ:J∈aO n k) (hP:P∈aO n k) (h:∀ c,c<n->P.testBit c=true->J.testBit c=true):J=P:=by
 have h1:=List.all_eq_true.1 (List.all_eq_true.1 (Z5l n hn k (by omega)) J hJ) P hP;rw [Bool.or_eq_true,decide_eq_true_eq,List.any_eq_true] at h1;rcases h1 with h1 | ⟨c,hc,h2⟩
 ·exact h1
 ·rw [Bool.and_eq_true] at h2;rw [h c (List.mem_range.1 hc) h2.1] at h2;exact absurd h2.2 (by decide)
def cC (ps:Nat->Nat):Nat->Nat
 | 0=>0
 | j+1=>cC ps j ||| (1 <<< ps j)
theorem oF {ps:Nat->Nat} {c:Nat}:∀ j,(cC ps j).testBit c=true↔∃ i,i<j/\ps i=c
 | 0=>by unfold cC;simp
 | j+1=>by
  unfold cC;rw [Nat.testBit_or,Bool.or_eq_true,oF j,Nat.one_shiftLeft,Nat.testBit_two_pow];constructor
  ·rintro (⟨i,h1,h2⟩ | h);·exact ⟨i,by omega,h2⟩
   ·exact ⟨j,by omega,by simpa using h⟩
  ·rintro ⟨i,h1,h2⟩;by_cases e:i=j;·subst e;right;simpa using h2
   ·left;exact ⟨i,by omega,h2⟩
theorem kY {n k:Nat} {ps:Nat->Nat} (hn:n<7) (hk:k<=n) (hlt:∀ i,i<k->ps i<n) (tK:∀ i j,i<j->j<k->ps i<ps j):∀ j,j<=k->cC ps j∈aO n j
 | 0,_=>by rw [Z2w hn];exact List.mem_singleton.2 rfl
 | j+1,hj=>by
  refine a7_ hn (by omega) (kY hn hk hlt tK j (by omega)) (hlt j (by omega)) ?_;rw [Bool.eq_false_iff];intro e;obtain ⟨i,h1,h2⟩:=(oF j).1 e;have:=tK i j h1 (by omega);omega
theorem c9_ {r r1 r2 s:pN} {a b:Int}:∀ n,(∀ c,c<n->r.getD c 0=a*r1.getD c 0-b*r2.getD c 0)->bD r s n=a*bD r1 s n-b*bD r2 s n
 | 0,_=>by simp [bD]
 | n+1,h=>by
  rw [bD,bD,bD,c9_ n (fun c hc=>h c (by omega)),h n (by omega)];grind
theorem nl {r s:pN}:∀ n,((bD r s n:Int):Rat)=aI n fun c=>((s.getD c 0:Int):Rat)*((r.getD c 0:Int):Rat)
 | 0=>rfl
 | n+1=>by
  rw [bD,Rat.intCast_add,nl n,Rat.intCast_mul,Rat.mul_comm];rfl
theorem f9_ {n k:Nat} (hn:n<7) (hk:k<=n) {l:pM} {ps:Nat->Nat} {X:pN} (hlt:∀ i,i<k->ps i<n) (tK:∀ i j,i<j->j<k->ps i<ps j) (hz:∀ i,i<k->∀ c,c<ps i->aC l i c=0) (hne:∀ i,i<k->aC l i (ps i)≠0)
  (hA:∀ i,i<k->∀ r∈bz n k X,bD r (aD l i) n=0):∀ J∈aO n k,e8 n k X (cC ps k)*qZ l k J=qZ l k (cC ps k)*e8 n k X J:=by
 obtain ⟨P,GZ⟩:=pK (cC ps k);have L0:P∈aO n k:=by rw [<- GZ];exact kY hn hk hlt tK k (oz _)
 obtain ⟨a,ha⟩:=pK (e8 n k X P);obtain ⟨b,hb⟩:=pK (qZ l k P);obtain ⟨Y,hY⟩:∃ Y,Y=(aO n k).map fun J=>a*qZ l k J-b*e8 n k X J:=⟨_,rfl⟩;have GL:∀ J∈aO n k,e8 n k Y J=a*qZ l k J-b*e8 n k X J:=fun J hJ=>by
  unfold e8;rw [hY];exact mr hn hk hJ _
 rw [GZ,ha,hb]
 have hall:=Z3l hn hk (l:=l) (ps:=ps) (Y:=Y) hlt hz hne (fun J hJ h=>by
  have:J=P:=Z7f hn hk hJ L0 fun c hc pj=>by
   rw [<- GZ] at pj;obtain ⟨i,h1,h2⟩:=(oF k).1 pj;rw [<- h2];exact h i h1
  rw [GL J hJ,this,ha,hb,Int.mul_comm];omega) (fun i hi r hr=>by
  unfold bz at hr;obtain ⟨s,hs,rfl⟩:=List.mem_map.1 hr;have hkn:k<n:=by
   unfold bN at hs;by_cases e:k=n;·rw [if_pos e] at hs;cases hs
   ·omega
  have sL:s∈aO n (k+1):=by unfold bN at hs;rw [if_neg (by omega)] at hs;exact hs
  obtain ⟨Q,hQ⟩:∃ Q,Q=(aO n k).map fun J=>qZ l k J:=⟨_,rfl⟩;have JT:∀ J∈aO n k,Q.getD (cl n k J) 0=qZ l k J:=fun J hJ=>by rw [hQ];exact mr hn hk hJ _
  have hg:∀ (Z:pN) c,c<n->((List.range n).map fun i=>bh n k Z i s).getD c 0=bh n k Z c s:=fun Z c hc=>by
   rw [oe,oh,List.getElem?_range hc];rfl
  rw [c9_ (r1:=(List.range n).map fun i=>bh n k Q i s) (r2:=(List.range n).map fun i=>bh n k X i s) (a:=a) (b:=b) n fun c hc=>by
   rw [hg Y c hc,hg Q c hc,hg X c hc];by_cases pj:s.testBit c=true
   ·rw [jJ pj,jJ pj,jJ pj];have hm:=L8_ hn hkn sL hc pj;have h1:Y.getD (cl n k (s ^^^ (1 <<< c))) 0=_:=GL _ hm;rw [h1,JT _ hm];unfold e8 dZ
    split <;> grind
   ·have pj:s.testBit c=false:=by simpa using pj
    rw [jt pj,jt pj,jt pj];simp]
  have hx:bD ((List.range n).map fun i=>bh n k X i s) (aD l i) n=0:=hA i hi _ (by unfold bz;exact List.mem_map.2 ⟨s,hs,rfl⟩);have hq:bD ((List.range n).map fun i=>bh n k Q i s) (aD l i) n=0:=by
   have h9:=n5_ l hn hkn sL hi;have h8:((bD ((List.range n).map fun i=>bh n k Q i s) (aD l i) n:Int):Rat)=0:=by
    rw [nl,<- h9];refine cw fun c hc=>?_;rw [hg Q c hc];by_cases pj:s.testBit c=true
    ·rw [if_pos pj,jJ pj,JT _ (L8_ hn hkn sL hc pj),<- im];unfold dZ aC
     split
     ·rw [Rat.intCast_neg];grind
     ·grind
    ·have su:s.testBit c=false:=(by simpa using pj);rw [if_neg pj,jt su];show _*(0:Rat)=0;grind
   exact Rat.intCast_eq_zero_iff.1 h8
  rw [hx,hq];simp)
 intro J hJ;have h9:=hall 64 J (a6_ n hn k (by omega) J hJ) hJ;rw [GL J hJ] at h9;omega
theorem Z5x {k:Nat} {f g:Nat->Nat} (hf:∀ i j,i<j->j<k->f i<f j) (hg:∀ i j,i<j->j<k->g i<g j) (h1:∀ i,i<k->∃ j,j<k/\g j=f i) (h2:∀ i,i<k->∃ j,j<k/\f j=g i):∀ (b j:Nat),j<b->j<k->f j=g j
 | 0,j,h,_=>by omega
 | b+1,j,hb,hj=>by
  have ih:∀ i,i<j->f i=g i:=fun i hi=>Z5x hf hg h1 h2 b i (by omega) (by omega);obtain ⟨i,hi,e⟩:=h1 j hj;obtain ⟨i2,rD,e2⟩:=h2 j hj;have g1:¬ i<j:=fun h=>by have:=hf i j h hj;rw [ih i h] at this;omega
  have g2:¬ i2<j:=fun h=>by have:=hg i2 j h hj;rw [<- ih i2 h] at this;omega
  have a1:g j<=f j:=by
   by_cases e3:i=j;·subst e3;omega
   ·have:=hg j i (by omega) hi;omega
  have a2:f j<=g j:=by
   by_cases e3:i2=j;·subst e3;omega
   ·have:=hf j i2 (by omega) rD;omega
  omega
theorem lU {n k:Nat} {S:Nat->Nat} (hn:n<7) (hk:k<=n) (hlt:∀ i,i<k->S i<n) (tK:∀ i j,i<j->j<k->S i<S j):∀ b,b<k->(aj (cC S k)).getD b 0=S b:=by
 intro b hb;have hJ:=kY hn hk hlt tK k (oz _);obtain ⟨k',rfl⟩:∃ k',k=k'+1:=⟨k-1,by omega⟩;have hM:=Z34 (k:=k') hn (by omega) hJ;refine Z5x (k:=k'+1) hM.inc tK (fun i hi=>?_) (fun i hi=>?_) (k'+1) b hb hb
 ·obtain ⟨j,h1,h2⟩:=(oF (k'+1)).1 (hM.bit i hi);exact ⟨j,h1,h2⟩
 ·exact hM.has (S i) (hlt i hi) ((oF (k'+1)).2 ⟨i,hi,rfl⟩)
theorem Z3T {Q:Rat->Prop} (hQ:iB Q) {f:Nat->Rat}:∀ {n:Nat},(∀ i,i<n->Q (f i))->Q (aI n f)
 | 0,_=>hQ.zero
 | n+1,h=>by
  have h1:=hQ.add _ _ (-1) (Z3T hQ (n:=n) fun i hi=>h i (by omega)) (h n (by omega));have e:aI n f+-((-1:Int):Rat)*f n=aI (n+1) f:=by
   show _=aI n f+f n;have:((-1:Int):Rat)=-1:=rfl;rw [this];grind
  rw [e] at h1;exact h1
theorem Z1W {Q:Rat->Prop} (hQ:iB Q) {x:Rat} (h:Q x) (z:Int):Q ((z:Rat)*x):=by
 have h1:=hQ.add 0 x (-z) hQ.zero h;rw [Rat.intCast_neg] at h1;have e:(0:Rat)+-(-(z:Rat))*x=(z:Rat)*x:=by grind
 rw [e] at h1;exact h1
theorem Z7c (i:Nat) {a b:Nat} (h:a<b):sk i a<sk i b:=by unfold sk;split <;> split <;> omega
theorem Z7d {i a j:Nat} (h:a<j):sk i a<j+1:=by unfold sk;split <;> omega
theorem n7_ {Q:Rat->Prop} (hQ:iB Q) {n K:Nat} {h:pM} {k:Nat} (hk:∀ S:Nat->Nat,(∀ b,b<k->S b<n)->(∀ a b,a<b->b<k->S a<S b)->Q (aK k fun a b=>((aC h (n-k+a) (K+S b):Int):Rat))) :
  ∀ j,k+j<=n->∀ S:Nat->Nat,(∀ b,b<k+j->S b<n)->(∀ a b,a<b->b<k+j->S a<S b)->Q (aK (k+j) fun a b=>((aC h (n-(k+j)+a) (K+S b):Int):Rat))
 | 0,_,S,h1,h2=>hk S h1 h2
 | j+1,hj,S,h1,h2=>by
  show Q (aK (k+j+1) _);rw [<- eh];show Q (aI (k+j+1) _);refine Z3T hQ fun i hi=>?_;have ih:=n7_ hQ hk j (by omega) (fun b=>S (sk i b)) (fun b hb=>h1 _ (by have:=Z7d (i:=i) hb;omega)) (fun a b qL hb=>h2 _ _ (Z7c i qL) (by have:=Z7d (i:=i) hb;omega));have e:aK (k+j) (fun a b=>((aC h (n-(k+(j+1))+(b+1)) (K+S (sk i a)):Int):Rat))=aK (k+j) (fun a b=>((aC h (n-(k+j)+a) (K+S (sk i b)):Int):Rat)):=by
   rw [<- eh];refine cZ fun a b ha hb=>?_;rw [show n-(k+(j+1))+(a+1)=n-(k+j)+a by omega]
  show Q (da i*((aC h (n-(k+(j+1))+0) (K+S i):Int):Rat)*aK (k+j) (fun a b=>((aC h (n-(k+(j+1))+(b+1)) (K+S (sk i a)):Int):Rat)));rw [e];have h9:=Z1W hQ (Z1W hQ ih (aC h (n-(k+(j+1))+0) (K+S i))) (if i%2=0 then 1 else -1);have e2:(((if i%2=0 then 1 else -1:Int)):Rat)=da i:=by unfold da;split <;> rfl
  rw [e2] at h9;rw [Rat.mul_assoc];exact h9
theorem Z2P {n k e F:Nat} {X:pN} (hn:n<7) (hX:∀ x∈X,x.natAbs<=10^e) (hF:10^eN e (bN n k).length<F) (hE:eN e ((bN n k).length+1)+1<=400000000) {R l:pM} (hR:jK F n k X=some R) (hl:ak n l) (hs:bT n (aG 0 R) (aG 0 l)) (hll:l.length=R.length) (p:Int)
  (hp:∀ J∈aO n l.length,∃ t:Int,qZ l l.length J=t*p):p.natAbs=1:=by
 have hM:=H6_ n k X;have hlx:=a1_ n k X;obtain ⟨M,rU⟩:=pK (bz n k X);rw [rU] at hM hlx;have hw:ak ((bN n k).length+n) (cJ n k X):=by rw [hM,<- hlx];exact l_ n M
 obtain ⟨m',d,ps,e1,k1⟩:=Q7_ (N:=(bN n k).length+n) (F:=F) hw (Z2N hX) (bN n k).length hE hF;have hsp:=k1.sp;rw [hM] at hsp;have wD:m'.length=n:=by rw [k1.len,hM,iA]
 rw [<- hlx] at hsp;have JO:(m'.drop d).map (·.drop M.length)=R:=by
  unfold jK at hR;rw [e1] at hR;simp only [Option.some.injEq] at hR;rw [hlx];exact hR
 have hRl:R.length=n-d:=by rw [<- JO];simp;omega
 obtain ⟨Q,GY⟩:∃ Q:Rat->Prop,Q=fun x=>∃ t:Int,x=(t:Rat)*(p:Rat):=⟨_,rfl⟩;have hQ:iB Q:=by rw [GY];exact Z1X (p:Rat)
 have hle:=k1.le;have pX:∀ S:Nat->Nat,(∀ b,b<l.length->S b<n)->(∀ a b,a<b->b<l.length->S a<S b)->Q (aK l.length fun a b=>((aC m' (n-l.length+a) (M.length+S b):Int):Rat)):=by
  intro S h1 h2;have hJ:=kY hn (by omega) h1 h2 l.length (oz _);obtain ⟨t,ht⟩:=hp _ hJ;have hq:Q (al l.length S (aD l)):=by
   have e2:al l.length S (aD l)=qQ l l.length (cC S l.length):=by
    unfold qQ al;refine cZ fun a b ha hb=>?_;unfold bW;show _=(((aD l a).getD ((aj (cC S l.length)).getD b 0) 0:Int):Rat);rw [lU hn (by omega) h1 h2 b hb]
   rw [e2,<- im,ht,GY];exact ⟨t,by rw [Rat.intCast_mul]⟩
  have h3:=mI (jS n l.length S) hQ hl hq (aD R) fun a ha=>hs.1 _ (az (Nat.zero_le _) (by omega));have e3:al l.length S (aD R)=aK l.length fun a b=>((aC m' (n-l.length+a) (M.length+S b):Int):Rat):=by
   unfold al;refine cZ fun a b ha hb=>?_;unfold bW aC;rw [<- JO,gw (by omega),np,show n-l.length=d by omega]
  rw [e3] at h3;exact h3
 have hup:=n7_ hQ (K:=M.length) pX (n-l.length) (by omega) (fun b=>b) (fun b hb=>by omega) (fun a b qL _=>qL);rw [show l.length+(n-l.length)=n by omega] at hup;have h0:Q (al m'.length (fun b=>M.length+b) (aD m')):=by
  rw [wD];have e4:al n (fun b=>M.length+b) (aD m')=aK n fun a b=>((aC m' (n-n+a) (M.length+b):Int):Rat):=by
   unfold al;refine cZ fun a b ha hb=>?_;unfold bW aC;rw [show n-n+a=a by omega]
  rw [e4];exact hup
 have hwid:=k1.wid;rw [<- hlx] at hwid;have h1:=mI (jS (M.length+n) m'.length fun b=>M.length+b) hQ hwid h0 (aD (bK n M)) fun a ha=>hsp.1 _ (az (Nat.zero_le a) (by rw [iA];omega));have h2:al m'.length (fun b=>M.length+b) (aD (bK n M))=1:=by
  rw [wD,<- L1_ n];unfold al;refine cZ fun a b ha hb=>?_;show (((aD (bK n M) a).getD (M.length+b) 0:Int):Rat)=_;rw [U0_ (by omega)];by_cases qL:a=b;·rw [if_pos qL.symm,if_pos qL];rfl
  ·rw [if_neg (fun e=>qL e.symm),if_neg qL];rfl
 rw [h2,GY] at h1;obtain ⟨t,ht⟩:=h1;have h3:(1:Int)=t*p:=by
  have:((1:Int):Rat)=((t*p:Int):Rat):=by rw [Rat.intCast_mul];exact ht
  exact Rat.intCast_inj.1 this
 have h4:(1:Int).natAbs=t.natAbs*p.natAbs:=by rw [h3,Int.natAbs_mul]
 exact Nat.eq_one_of_mul_eq_one_left (by simpa using h4.symm)
def gC (X:pN):Int:=if j4 X<0 then -(bZ X:Int) else (bZ X:Int)
def fM (X:pN):List Int:=if bZ X=0 then X else X.map fun x=>aL x (gC X)
theorem C2_ {X:pN}:∀ i,i<=X.length->∀ (j:Nat) x,j<i->X[j]?=some x->dw X i ∣ x.natAbs
 | 0,_,j,x,h,_=>by omega
 | i+1,hi,j,x,h,hx=>by
  obtain ⟨y,hy⟩:∃ y,X[i]?=some y:=⟨_,oc (by omega)⟩;rw [k_ hy];by_cases e:j=i
  ·subst e;rw [hx] at hy;cases hy;exact Nat.gcd_dvd_right _ _
  ·exact Nat.dvd_trans (Nat.gcd_dvd_left _ _) (C2_ i (by omega) j x (by omega) hx)
theorem q5_ {X:pN} {x:Int} (h:x∈X):∃ z:Int,x=(bZ X:Int)*z:=by
 obtain ⟨j,hj⟩:=List.getElem?_of_mem h;have h1:=C2_ X.length (oz _) j x (od.1 hj).1 hj;have h2:((bZ X:Nat):Int) ∣ x:=Int.ofNat_dvd_left.2 h1;exact h2
theorem b5_ {d z:Int} (hd:d≠0):aL (d*z) d=z:=by
 unfold aL;rw [Int.mul_tmod_right,if_neg (by simp),Int.mul_tdiv_cancel_left _ hd]
theorem h2_ {d z:Int} (hd:d≠0):aL (d*z) (-d)=-z:=by
 have:d*z=(-d)*(-z):=by rw [Int.neg_mul_neg]
 rw [this];exact b5_ (by omega)
theorem Z6D {x:Int} (h:x≠0):x.sign≠0:=fun e=>h (Int.sign_eq_zero_iff_zero.1 e)
theorem Z1o {X:pN} (h:j4 X=0):∀ x∈X,x=0:=by
 intro x hx;unfold j4 at h;cases hf:X.find? (·≠0) with
 | none =>
  have:=List.find?_eq_none.1 hf x hx;simpa using this
 | some y =>
  rw [hf] at h;have:=List.find?_some hf;exact absurd h (Z6D (by simpa using this))
theorem J6_ {X:pN} (h:bZ X≠0):∃ x∈X,x≠0:=by
 apply Classical.byContradiction;intro hn;have hall:∀ x∈X,x=0:=fun x hx=>Classical.byContradiction fun e=>hn ⟨x,hx,e⟩;apply h;have:∀ i,i<=X.length->dw X i=0:=by
  intro i
  induction i with
  | zero=>intro _;rfl
  | succ i ih =>
   intro hi;obtain ⟨y,hy⟩:∃ y,X[i]?=some y:=⟨_,oc (by omega)⟩;rw [k_ hy,ih (by omega),hall y (og hy)];rfl
 exact this _ (oz _)
theorem O5_ {X:pN} {d:Nat} (h:∀ x∈X,d ∣ x.natAbs):∀ i,i<=X.length->d ∣ dw X i
 | 0,_=>by unfold dw;exact Nat.dvd_zero d
 | i+1,hi=>by
  obtain ⟨y,hy⟩:∃ y,X[i]?=some y:=⟨_,oc (by omega)⟩;rw [k_ hy];exact Nat.dvd_gcd (O5_ h i (by omega)) (h y (og hy))
theorem O6_ (a:Int) (X:pN):∀ i,i<=X.length->dw (X.map (a*·)) i=a.natAbs*dw X i
 | 0,_=>by unfold dw;simp
 | i+1,hi=>by
  obtain ⟨y,hy⟩:∃ y,X[i]?=some y:=⟨_,oc (by omega)⟩;rw [k_ hy,k_ (x:=a*y) (by rw [oh,hy];rfl),O6_ a X i (by omega),Int.natAbs_mul,Nat.gcd_mul_left]
theorem Y8_ (a:Int) (X:pN):bZ (X.map (a*·))=a.natAbs*bZ X:=by
 unfold bZ;rw [List.length_map];exact O6_ a X _ (oz _)
theorem e9_ {a:Int} (ha:a≠0) (X:pN):j4 (X.map (a*·))=a.sign*j4 X:=by
 unfold j4
 induction X with
 | nil=>simp
 | cons x r ih =>
  rw [List.map_cons,List.find?_cons,List.find?_cons];by_cases hx:x=0
  ·subst hx;simp only [Int.mul_zero,ne_eq,not_true_eq_false,decide_false];exact ih
  ·have hax:a*x≠0:=Int.mul_ne_zero ha hx;simp only [ne_eq,hx,hax,not_false_eq_true,decide_true];exact Int.sign_mul a x
theorem Z3s {X q:pN} {a b:Int} (hl:X.length=q.length) (hb:b≠0) (h1:bZ q=1) (hp:∀ (i:Nat) x y,X[i]?=some x->q[i]?=some y->a*y=b*x):∃ c:Int,X=q.map (c*·):=by
 have hd:b.natAbs ∣ a.natAbs:=by
  have h2:b.natAbs ∣ bZ (q.map (a*·)):=O5_ (fun z hz=>by
   obtain ⟨y,hy,rfl⟩:=List.mem_map.1 hz;obtain ⟨i,hi⟩:=List.getElem?_of_mem hy;obtain ⟨x,hx⟩:∃ x,X[i]?=some x:=⟨_,oc (by rw [hl];exact (od.1 hi).1)⟩;rw [hp i x y hx hi,Int.natAbs_mul]
   exact Nat.dvd_mul_right _ _) _ (oz _)
  rw [Y8_,h1,Nat.mul_one] at h2;exact h2
 obtain ⟨c,hc⟩:=Int.natAbs_dvd_natAbs.1 hd;refine ⟨c,List.ext_getElem? fun i=>?_⟩;rw [oh];cases hx:X[i]? with
 | none =>
  rw [o4 (by rw [<- hl];exact List.getElem?_eq_none_iff.1 hx)];rfl
 | some x =>
  obtain ⟨y,hy⟩:∃ y,q[i]?=some y:=⟨_,oc (by rw [<- hl];exact (od.1 hx).1)⟩;rw [hy];have h:=hp i x y hx hy;rw [hc,Int.mul_assoc] at h;rw [<- Int.eq_of_mul_eq_mul_left hb h];rfl
theorem Z4g {q:pN} {c:Int} (hc:c≠0) (h1:bZ q=1):fM (q.map (c*·))=fM q:=by
 have zZ:bZ (q.map (c*·))=c.natAbs:=by rw [Y8_,h1,Nat.mul_one]
 have hs:=e9_ hc q;have tl:j4 q≠0:=by
  intro e;obtain ⟨x,hx,qB⟩:=J6_ (X:=q) (by omega);exact qB (Z1o e x hx)
 unfold fM;rw [if_neg (by rw [zZ];omega),if_neg (by omega),List.map_map];refine List.map_congr_left fun x _=>?_;show aL (c*x) (gC (q.map (c*·)))=aL x (gC q);unfold gC;rw [zZ,hs,h1];have sR:∀ z:Int,aL z 1=z:=fun z=>by have:=b5_ (d:=1) (z:=z) (by decide);rw [Int.one_mul] at this;exact this
 have zR:∀ z:Int,aL z (-1)=-z:=fun z=>by have:=h2_ (d:=1) (z:=z) (by decide);rw [Int.one_mul] at this;exact this
 rcases Int.lt_trichotomy c 0 with h | h | h
 ·have wT:c.sign=-1:=Int.sign_eq_neg_one_of_neg h;have hn:(c.natAbs:Int)=-c:=by omega
  rw [wT,hn];by_cases h2:j4 q<0
  ·rw [if_neg (by omega),if_pos h2];show _=aL x (-1);rw [h2_ hc,zR]
  ·rw [if_pos (by omega),if_neg h2,Int.neg_neg,b5_ hc];exact (sR x).symm
 ·exact absurd h hc
 ·have wT:c.sign=1:=Int.sign_eq_one_of_pos h;have hn:(c.natAbs:Int)=c:=by omega
  rw [wT,hn,Int.one_mul];by_cases h2:j4 q<0
  ·rw [if_pos h2,if_pos h2,h2_ hc];exact (zR x).symm
  ·rw [if_neg h2,if_neg h2,b5_ hc];exact (sR x).symm
theorem Z0h {k R:Nat} (A:Nat->Nat->Rat):∀ (N:Nat) (ρ:Nat->Nat),gB k ρ k<N->(∀ a,a<k->ρ a<R)->aK k (fun a b=>A (ρ a) b)=0\/∃ σ:Nat->Nat,(∀ a,a<k->σ a<R)/\(∀ a,a+1<k->σ a<σ (a+1))/\(aK k (fun a b=>A (ρ a) b)=aK k (fun a b=>A (σ a) b)\/aK k (fun a b=>A (ρ a) b)=- aK k (fun a b=>A (σ a) b))
 | 0,ρ,h,_=>by omega
 | N+1,ρ,hN,hR=>by
  by_cases hs:∀ a,a+1<k->ρ a<ρ (a+1);·exact .inr ⟨ρ,hR,hs,.inl rfl⟩
  ·obtain ⟨i,hi⟩:=Classical.not_forall.1 hs;have AO:i+1<k:=by
    false_or_by_contra
    rename_i hn;exact hi (fun h=>absurd h hn)
   have rD:¬ ρ i<ρ (i+1):=fun h=>hi (fun _=>h);by_cases he:ρ i=ρ (i+1);·exact .inl (w5_ (M:=fun a b=>A (ρ a) b) (i:=i) (j:=i+1) (by omega) AO (by omega) (fun b _=>by rw [he]))
   ·have h9:=Z0h (k:=k) (R:=R) A N (fun a=>ρ (bE i a)) (by have:=a8_ (k:=k) (ρ:=ρ) (i:=i) (by omega) k AO (oz _);omega) (fun a ha=>hR _ (by unfold bE;repeat' split <;> try omega));have:=ng (n:=k) (fun a b=>A (ρ a) b) (r:=i) AO;rw [show (fun a b=>A (ρ (bE i a)) b)=fun a b=>(fun a b=>A (ρ a) b) (bE i a) b from rfl,this] at h9;rcases h9 with h | ⟨σ,h1,h2,h3⟩
    ·exact .inl (by grind)
    ·refine .inr ⟨σ,h1,h2,?_⟩;rcases h3 with h | h;·exact .inr (by grind)
     ·exact .inl (by grind)
theorem Z2A {k:Nat} {σ:Nat->Nat} (h:∀ a,a+1<k->σ a<σ (a+1)) (i:Nat):∀ j,i<j->j<k->σ i<σ j
 | 0,h1,_=>by omega
 | j+1,h1,h2=>by
  have h3:=h j h2;by_cases e:i=j;·subst e;exact h3
  ·have:=Z2A h i j (by omega) (by omega);omega
theorem Z6u {n k B:Nat} {l:pM} (hn:n<7) (hk:k<=n) (hB:∀ J∈aO n k,(qZ l k J).natAbs<=B) (S:Nat->Nat) (hS:∀ b,b<k->S b<n):∃ y:Int,al k S (aD l)=(y:Rat)/\y.natAbs<=B:=by
 have e:al k S (aD l)=aK k (fun a b=>(fun c r=>(((aD l r).getD c 0:Int):Rat)) (S a) b):=by
  unfold al;rw [<- eh];rfl
 rw [e];rcases Z0h (fun c r=>(((aD l r).getD c 0:Int):Rat)) (R:=n) (gB k S k+1) S (Nat.lt_succ_self _) hS with h | ⟨σ,h1,h2,h3⟩
 ·exact ⟨0,h,by simp⟩
 ·have tK:∀ i j,i<j->j<k->σ i<σ j:=fun i j=>Z2A h2 i j;have hJ:=kY hn hk h1 tK k (oz _);have e2:aK k (fun a b=>(fun c r=>(((aD l r).getD c 0:Int):Rat)) (σ a) b)=qQ l k (cC σ k):=by
   unfold qQ al;rw [<- eh k (bW _ _)];refine cZ fun a b ha hb=>?_;unfold bW;show _=(((aD l b).getD ((aj (cC σ k)).getD a 0) 0:Int):Rat);rw [lU hn hk h1 tK a ha]
  rw [e2,<- im] at h3;rcases h3 with h | h;·exact ⟨_,h,hB _ hJ⟩
  ·exact ⟨-qZ l k (cC σ k),by rw [h,Rat.intCast_neg],by rw [Int.natAbs_neg];exact hB _ hJ⟩
theorem h3_ {n B:Nat} {R:pM} {ps:Nat->Nat} (hn:n<7) (hR:a_ n R ps) (hkn:R.length<=n) (hB:∀ J∈aO n R.length,(qZ R R.length J).natAbs<=B):∀ i,i<R.length->aT (R.length*B) (aD R i):=by
 have hmin:=fun S hS=>Z6u (l:=R) hn hkn hB S hS;obtain ⟨k,hk⟩:=pL R.length;have hpp:=jV hR _ (oz R.length);have hP:=jT hR _ (oz R.length);rw [<- hk] at hpp hP hmin;have key:∀ i c,i<R.length->c<n->(aC R i c).natAbs<=R.length*B:=by
  intro i c hi vN;rw [<- hk] at hi |-
  obtain ⟨x,hx⟩:=nT (k:=k) (bW ps (aD R)) (fun a b qL ha=>by
   have h:aC R a (ps b)=0:=hR.2.zero a (by omega) (ps b) (hR.2.mono b a qL (by omega));show ((aC R a (ps b):Int):Rat)=0
   rw [h];rfl) (fun a ha h=>by
   have h1:((aC R a (ps a):Int):Rat)=0:=h;have h2:aC R a (ps a)=0:=by exact_mod_cast h1
   have:=hR.2.pos a (by omega);omega) (fun a=>((aC R a c:Int):Rat)) k (oz _)
  have sW:∀ r,r<k->al k (fun b=>if b=r then c else ps b) (aD R)=x r*(dY R ps k:Rat):=by
   intro r hr;rw [<- hP];have e1:al k (fun b=>if b=r then c else ps b) (aD R)=aK k (fun a b=>if b=r then (0:Rat)+aI k (fun l=>x l*bW ps (aD R) a l) else bW ps (aD R) a b):=by
    unfold al;refine cZ fun a b ha hb=>?_;by_cases sH:b=r
    ·rw [if_pos sH,<- hx a (by omega) ha];show (((aD R a).getD (if b=r then c else ps b) 0:Int):Rat)=_;rw [if_pos sH];show ((aC R a c:Int):Rat)=_;grind
    ·rw [if_neg sH];show (((aD R a).getD (if b=r then c else ps b) 0:Int):Rat)=_;rw [if_neg sH];rfl
   rw [e1,nh (bW ps (aD R)) hr (fun _=>0) k x (fun l a=>bW ps (aD R) a l)];have e2:aK k (fun a b=>if b=r then (0:Rat) else bW ps (aD R) a b)=0:=by
    rw [<- eh];exact ia (r:=r) hr fun b _=>if_pos rfl
   rw [e2,oV (k:=r) hr fun l hl hne=>?_]
   ·have e3:aK k (fun a b=>if b=r then bW ps (aD R) a r else bW ps (aD R) a b)=al k ps (aD R):=by
     unfold al;refine cZ fun a b _ _=>?_;by_cases sH:b=r;·rw [if_pos sH,sH]
     ·rw [if_neg sH]
    rw [e3];grind
   ·have e4:aK k (fun a b=>if b=r then bW ps (aD R) a l else bW ps (aD R) a b)=0 :=
     mQ hr hl (fun h=>hne h.symm) fun b _=>by rw [if_pos rfl,if_neg hne]
    rw [e4];grind
  have hsum:((dY R ps k:Int):Rat)*((aC R i c:Int):Rat)=aI k fun l=>al k (fun b=>if b=l then c else ps b) (aD R)*bW ps (aD R) i l:=by
   have BL:((aC R i c:Int):Rat)=aI k fun l=>x l*bW ps (aD R) i l:=hx i (by omega) hi;rw [BL,<- iv];refine cw fun l hl=>?_;rw [sW l hl];grind
  obtain ⟨z,hz1,hz2⟩:=s3_ (n:=k) (B:=B*(dY R ps k).natAbs) (f:=fun l=>al k (fun b=>if b=l then c else ps b) (aD R)*bW ps (aD R) i l) fun l hl=>by
   obtain ⟨y,wB,ry⟩:=hmin (fun b=>if b=l then c else ps b) (fun b hb=>by
    show (if b=l then c else ps b)<n
    split
    ·exact vN
    ·exact hR.2.lt b (by omega))
   refine ⟨y*aC R i (ps l),?_,?_⟩;·rw [wB,Rat.intCast_mul];rfl
   ·rw [Int.natAbs_mul];refine Nat.mul_le_mul ry ?_;have h5:=hpp.2 l hl;have h6:=hR.2.pos l (by omega);have h7:(aC R i (ps l)).natAbs<=(aC R l (ps l)).natAbs:=by
     rcases Nat.lt_trichotomy i l with h | h | h;·have:=hR.2.red i l h (by omega);omega
     ·rw [h];exact oz _
     ·rw [hR.2.zero i (by omega) (ps l) (hR.2.mono l i h (by omega))];simp
    omega
  rw [hz1] at hsum;have he:dY R ps k*aC R i c=z:=by exact_mod_cast hsum
  rw [<- he,Int.natAbs_mul,<- Nat.mul_assoc,Nat.mul_comm] at hz2;exact Nat.le_of_mul_le_mul_right hz2 (by omega)
 intro i hi y hy;obtain ⟨c,hc⟩:=List.getElem?_of_mem hy;have vN:c<n:=by have:=(od.1 hc).1;rw [hR.1 i hi] at this;exact this
 have:=key i c hi vN;unfold aC at this;rw [oe,hc] at this;exact this
theorem T7_ {n r b F:Nat} {m:pM} (EY:ak n m) (hb:∀ i,i<m.length->aT (10^b) (aD m i)) (hr:m.length<=r\/n<=r) (h1:(gN r b 0).1+1<=400000000) (h2:(gN r b 0).2+1<=400000000) (hF:10^(gN r b 0).1<F)
  (qu:∀ T:pM,ak n T->bT n (aG 0 m) (aG 0 T)->m.length<=T.length) :
  ∃ R ps,lJ n F m=some R/\R.length=m.length/\a_ n R ps/\(∀ i,i<R.length->aT (10^(gN r b 0).2) (aD R i))/\bT n (aG 0 m) (aG 0 R):=by
 obtain ⟨m',d',ps,q1,q2,q3,q4,q5,q6,q7⟩:=L0_ (n:=n) (F:=F) (oz 400000000) n 0 0 r b 0 m (fun _=>0) (by omega) EY (fun i _ hi=>hb i hi) (fun i hi _=>by omega)
  ⟨fun i hi=>by omega,fun i j _ hj=>by omega,fun i hi=>by omega,fun i hi=>by omega,fun i j _ hj=>by omega,fun i _ _ c' hc=>by omega⟩ (by omega) h1 h2 hF
 rw [Nat.zero_add] at q6;have hlen:(m'.take d').length=d':=by rw [om];omega
 have hW:ak n (m'.take d'):=fun i hi=>by rw [hlen] at hi;rw [j0 hi];exact q4 i (by omega)
 have hsp:bT n (aG 0 m') (aG 0 (m'.take d')):=by
  constructor
  ·rintro x ⟨i,-,h2,rfl⟩;by_cases hi:i<d';·rw [<- j0 (m:=m') hi];exact .mem (az (by omega) (by omega))
   ·rw [t8_ (q4 i h2) (fun c hc=>q6.rest i (by omega) h2 c hc)];exact .zero
  ·rintro x ⟨i,-,h2,rfl⟩;rw [hlen] at h2;rw [j0 h2];exact .mem (az (by omega) (by omega))
 have hd:m.length<=d':=by rw [<- hlen];exact qu _ hW (q7.trans hsp)
 have hd2:d'=m'.length:=by omega
 refine ⟨m',ps,by unfold lJ;rw [q1];rfl,q2,⟨q4,by rw [<- hd2];exact q6⟩,fun i hi=>q5 i (by omega) hi,q7⟩
def an (n k:Nat) (l:pM):List Int:=(aO n k).map (qZ l k)
theorem g5_ {n k e F F2 B:Nat} {X:pN} (hn:n<7) (hk:k<=n) (wa:X.length=(aO n k).length) (hX:∀ x∈X,x.natAbs<=10^e) (Lt:∀ x∈X,x.natAbs<=B) (h0:bZ X≠0)
  (hF:10^eN e (bN n k).length<F) (hE:eN e ((bN n k).length+1)+1<=400000000) {R:pM} (hR:jK F n k X=some R) (hK:Z7R n k (eN e (bN n k).length) X R) (hRk:R.length=k)
  (g1:(gN n (eN e (bN n k).length) 0).1+1<=400000000) (g2:(gN n (eN e (bN n k).length) 0).2+1<=400000000) (ve:10^(gN n (eN e (bN n k).length) 0).1<F2) :
  ∃ l ps,lJ n F2 R=some l/\l.length=k/\a_ n l ps/\(∀ i,i<l.length->aT (k*B) (aD l i))/\bZ (an n k l)=1/\fM X=fM (an n k l)/\∀ x∈an n k l,x.natAbs<=B:=by
 obtain ⟨l,ps,f1,f2,f3,-,f5⟩:=T7_ (F:=F2) hK.wid hK.bnd (.inr (oz n)) g1 g2 ve hK.free;have hlk:l.length=k:=by rw [f2,hRk]
 have hH:=f3.2;rw [hlk] at hH;have sR:bZ (an n k l)=1:=by
  have:=Z2P hn hX hF hE hR f3.1 f5 f2 (bZ (an n k l):Int) (fun J hJ=>by
   rw [hlk] at hJ |-;obtain ⟨z,hz⟩:=q5_ (X:=an n k l) (x:=qZ l k J) (List.mem_map.2 ⟨J,hJ,rfl⟩)
   exact ⟨z,by rw [Int.mul_comm];exact hz⟩)
  simpa using this
 have hP:=kY hn hk hH.lt hH.mono k (oz _);have hb:qZ l k (cC ps k)≠0:=by
  intro h9;have e1:qQ l k (cC ps k)=al k ps (aD l):=by
   unfold qQ al;refine cZ fun a b ha hb=>?_;unfold bW;show (((aD l a).getD ((aj (cC ps k)).getD b 0) 0:Int):Rat)=_;rw [lU hn hk hH.lt hH.mono b hb]
  have e2:=jT f3 k (by omega);have e3:=(jV f3 k (by omega)).1;rw [<- im,h9,e2] at e1;have:dY l ps k=0:=by exact_mod_cast e1.symm
  omega
 have hprop:=f9_ (l:=l) (X:=X) hn hk hH.lt hH.mono hH.zero (fun i hi=>by have:=hH.pos i hi;omega) (fun i hi r hr=>by
  obtain ⟨j,yt⟩:=List.getElem?_of_mem hr;have hj:=(od.1 yt).1;have hjr:=eO yt;have:=((hK.ann _).1 ((f5.iff _).2 (.mem (az (Nat.zero_le i) (by omega))))).2 j hj
  rw [hjr] at this;exact this)
 obtain ⟨c,hc⟩:=Z3s (X:=X) (q:=an n k l) (a:=e8 n k X (cC ps k)) (b:=qZ l k (cC ps k)) (by unfold an;rw [List.length_map,wa]) hb sR (fun i x y hx hy=>by
  unfold an at hy;rw [oh,Option.map_eq_some_iff] at hy;obtain ⟨J,hJ,rfl⟩:=hy;have h9:=hprop J (og hJ);have hil:=(od.1 hJ).1;have hpl:cl n k J=i:=by
   have h:=of_decide_eq_true (List.all_eq_true.1 (G2_ n hn k (by omega)) i (List.mem_range.2 hil));rw [oe,hJ] at h;exact h
  have qb:e8 n k X J=x:=by unfold e8;rw [hpl,oe,hx];rfl
  rw [qb] at h9;exact h9)
 have vO:c≠0:=by
  intro e9;apply h0;rw [hc,Y8_,e9];simp
 have F8:fM X=fM (an n k l):=by rw [hc];exact Z4g vO sR
 have Ey:∀ J∈aO n k,(qZ l k J).natAbs<=B:=by
  intro J hJ;have hm:c*qZ l k J∈X:=by rw [hc];exact List.mem_map.2 ⟨_,List.mem_map.2 ⟨J,hJ,rfl⟩,rfl⟩
  have h9:=Lt _ hm;rw [Int.natAbs_mul] at h9;exact ow (Nat.le_mul_of_pos_left _ (by omega)) h9
 refine ⟨l,ps,f1,hlk,f3,?_,sR,F8,fun x hx=>by
  obtain ⟨J,hJ,rfl⟩:=List.mem_map.1 hx
  exact Ey J hJ⟩
 have:=h3_ hn f3 (by omega) (B:=B) (by rw [hlk];exact Ey);rw [hlk] at this |-;exact this
theorem Z6p:∀ k,k<7->be k k=[List.range k]:=by decide +kernel
theorem Z4Y {n k:Nat} {l:pM} (hn:n<7) (hk:k<=n) (hl:l.length=k) (hc:bP l=n):f_ l k=an n k l:=by
 unfold f_ an;rw [hl,hc,Z6p k (by omega),<- Z0c hn hk];show (List.map _ ((aO n k).map aj))++[]=_;rw [List.append_nil,List.map_map];refine List.map_congr_left fun J hJ=>?_;show lV l k (List.range k) (aj J)=qZ l k J;have hlen:(aj J).length=k:=by
  have h9:aj J∈be n k:=by rw [<- Z0c hn hk];exact List.mem_map_of_mem hJ
  exact (oN (by omega) hk).1.len _ h9
 unfold lV qZ;rw [Z38 (by simp) hlen];congr 1;unfold qQ al;refine cZ fun a b ha hb=>?_;rw [u2_];unfold bW lF aD;rw [oe (l:=List.range k),List.getElem?_range ha];rfl
theorem Z4u {l m:pN} (h:l.length=m.length) (hg:∀ i,i<l.length->l.getD i 0=m.getD i 0):l=m:=by
 apply List.ext_getElem h;intro i h1 h2;have:=hg i h1;rw [oe,oe,oc h1,oc h2] at this;exact this
theorem Z2u (f:Nat->Int) (l:List Nat) (i:Nat) (hi:i<l.length):(l.map f).getD i 0=f (l.getD i 0):=by
 rw [oe,oe,oh,oc hi];rfl
theorem I3_ (n k:Nat) (X:pN):(dh n k X).length=(aO n (n-k)).length:=by unfold dh;rw [List.length_map]
theorem b2_ {n k i:Nat} {X:pN} (hi:i<(aO n (n-k)).length):(dh n k X).getD i 0=dZ (X.getD (cl n k (dm n ((aO n (n-k)).getD i 0))) 0) (ep (dm n ((aO n (n-k)).getD i 0)) ((aO n (n-k)).getD i 0)):=by
 unfold dh;exact Z2u _ _ _ hi
def Z7r (n k:Nat):Bool:=(List.range (aO n k).length).all fun i =>
 let s:=(aO n k).getD i 0
 let j:=cl n (n-k) (dm n s)
 let t:=(aO n (n-k)).getD j 0
 decide (j<(aO n (n-k)).length) && decide (cl n k (dm n t)=i) && decide ((ep (dm n s) s ^^ ep (dm n t) t)=decide (k*(n-k)%2=1))
theorem Z4r:∀ n,n<7->∀ k,k<n+1->Z7r n k=true:=by decide +kernel
theorem Z3E (x:Int) (o p:Bool):dZ (dZ x o) p=dZ x (p ^^ o):=by cases o <;> cases p <;> simp [dZ]
theorem Z2d {n k:Nat} (hn:n<7) (hk:k<=n) (X:pN) (hX:X.length=(aO n k).length):dh n (n-k) (dh n k X)=X.map fun x=>dZ x (decide (k*(n-k)%2=1)):=by
 have tM:n-(n-k)=k:=by omega
 refine Z4u (by rw [I3_,tM,List.length_map,hX]) fun i hi=>?_;rw [I3_,tM] at hi;have h1:=Z4r n hn k (by omega);have h2:=List.all_eq_true.1 h1 i (List.mem_range.2 hi);simp only [Bool.and_eq_true,decide_eq_true_eq] at h2;obtain ⟨⟨h3,h4⟩,h5⟩:=h2;have e1:=b2_ (n:=n) (k:=n-k) (X:=dh n k X) (i:=i) (by rw [tM];exact hi);rw [tM] at e1;rw [e1,b2_ h3,h4,Z3E,h5];rw [oe,oe,oh];have hx:i<X.length:=by omega
 rw [oc hx];rfl
theorem w8_:∀ n,n<5->∀ k,k<=n->eN 8 ((bN n k).length+1)+1<=400000000/\(gN n (eN 8 (bN n k).length) 0).1+1<=400000000/\(gN n (eN 8 (bN n k).length) 0).2+1<=400000000:=by decide +kernel
theorem Z2V (n:Nat) (q D:Int) (v:pN) (hv:v.length=n):aU (-D) (List.replicate n 0) v=bX D v:=by
 apply List.ext_getElem;·rw [eX];unfold bX;simp [hv]
 ·intro i h1 h2;have e1:(aU (-D) (List.replicate n 0) v).getD i 0=(bX D v).getD i 0:=by
   rw [en (-D) (by simp [hv]),lu,oe,List.getElem?_replicate]
   split <;> simp <;> grind
  rw [oe,oe,oc h1,oc h2] at e1;exact e1
theorem Sp.smul {n:Nat} {S:pN->Prop} (hS:kt n S) {v:pN} (h:Sp n S v) (D:Int):Sp n S (bX D v):=by
 have:=Sp.less (-D) (.zero (n:=n) (S:=S)) h;rw [Z2V n 0 D v (h.len hS)] at this;exact this
theorem Z5E {n:Nat} {A B:pM} {ap bs:Nat->Nat} (hA:a_ n A ap) (hB:a_ n B bs) (hs:∀ v,Sp n (aG 0 A) v->Sp n (aG 0 B) v):∃ f:Nat->Nat,∀ i,i<A.length->f i<B.length/\bs (f i)=ap i:=by
 have h:∀ i,∃ j,i<A.length->j<B.length/\bs j=ap i:=fun i=>by
  by_cases hi:i<A.length
  ·obtain ⟨j,t,h1,h2,h3,h4⟩:=Sp.lead hB (c:=ap i) (v:=aD A i) (by have:=hA.2.pos i hi;unfold aC at this;omega) (fun c' sn=>hA.2.zero i hi c' sn) B.length 0 (by omega) (hs _ (.mem (az (Nat.zero_le i) hi)));exact ⟨j,fun _=>⟨h2,h3⟩⟩
  ·exact ⟨0,fun h=>absurd h hi⟩
 exact ⟨fun i=>Classical.choose (h i),fun i hi=>Classical.choose_spec (h i) hi⟩
theorem f8_ {n:Nat} {A B:pM} {ap bs:Nat->Nat} (hA:a_ n A ap) (hB:a_ n B bs) {f:Nat->Nat} (hf:∀ i,i<A.length->f i<B.length/\bs (f i)=ap i):∀ i,i<A.length->i<=f i
 | 0,_=>Nat.zero_le _
 | i+1,hi=>by
  have h1:=f8_ hA hB hf i (by omega);have h2:=hA.2.mono i (i+1) (by omega) hi;rw [<- (hf i (by omega)).2,<- (hf (i+1) hi).2] at h2;have h3:f i<f (i+1):=by
   by_cases e:f i<f (i+1);·exact e
   ·exfalso;by_cases e2:f i=f (i+1);·rw [e2] at h2;omega
    ·have:=hB.2.mono (f (i+1)) (f i) (by omega) (hf i (by omega)).1;omega
  omega
theorem Z5F {n:Nat} {A B:pM} {ap bs:Nat->Nat} (hA:a_ n A ap) (hB:a_ n B bs) (hs:∀ v,Sp n (aG 0 A) v->Sp n (aG 0 B) v):A.length<=B.length:=by
 obtain ⟨f,hf⟩:=Z5E hA hB hs;by_cases h:A.length=0;·omega
 ·have h1:=f8_ hA hB hf (A.length-1) (by omega);have h2:=(hf (A.length-1) (by omega)).1;omega
theorem Z58 {n:Nat} {A B:pM} {ap bs:Nat->Nat} (hA:a_ n A ap) (hB:a_ n B bs) (hs:∀ v,Sp n (aG 0 A) v->Sp n (aG 0 B) v) (hl:A.length=B.length):∀ i,i<A.length->ap i=bs i:=by
 obtain ⟨f,hf⟩:=Z5E hA hB hs;have hinc:=f8_ hA hB hf;have hst:∀ i,i+1<A.length->f i<f (i+1):=fun i hi=>by
  have h2:=hA.2.mono i (i+1) (by omega) hi;rw [<- (hf i (by omega)).2,<- (hf (i+1) hi).2] at h2;by_cases e:f i<f (i+1);·exact e
  ·exfalso;by_cases e2:f i=f (i+1);·rw [e2] at h2;omega
   ·have:=hB.2.mono (f (i+1)) (f i) (by omega) (hf i (by omega)).1;omega
 have hup:∀ t i,i+t<A.length->f i+t<=f (i+t):=by
  intro t
  induction t with
  | zero=>intro i _;exact oz _
  | succ t ih =>
   intro i hi;have h1:=ih i (by omega);have h2:=hst (i+t) (by omega);rw [show i+(t+1)=i+t+1 by omega];omega
 intro i hi;have h1:=hinc i hi;have h2:=hup (A.length-1-i) i (by omega);have h3:=(hf (A.length-1) (by omega)).1;rw [show i+(A.length-1-i)=A.length-1 by omega] at h2;have h4:f i=i:=by omega
 rw [<- (hf i hi).2,h4]
theorem t4_ {n:Nat} {A B:pM} {ap bs:Nat->Nat} (hA:a_ n A ap) (hB:a_ n B bs) (hs:∀ v,Sp n (aG 0 A) v->Sp n (aG 0 B) v) (hl:A.length=B.length):∀ (t:Nat),t<=A.length->∀ v,Sp n (aG 0 B) v->(∀ i,i<A.length-t->v.getD (ap i) 0=0)->∃ D:Int,D≠0/\Sp n (aG 0 A) (bX D v)
 | 0,_,v,hv,hz=>by
  have hp:=Z58 hA hB hs hl;have h0:v=List.replicate n 0:=Sp.small hB B.length 0 (by omega) hv fun i _ hi=>by
   rw [<- hp i (by omega),hz i (by omega)];have:=hB.2.pos i hi;rw [<- hp i (by omega)] at this;omega
  refine ⟨1,by decide,?_⟩;rw [show bX 1 v=v by unfold bX;rw [List.map_congr_left (g:=id) (fun x _=>by simp)];simp,h0];exact .zero
 | t+1,ht,v,hv,hz=>by
  obtain ⟨i,hi⟩:=pL (A.length-(t+1));have Cl:i<A.length:=by omega
  have IJ:v.length=n:=hv.len (cT hB.1);have hAl:=hA.1 i Cl;have Ju:Sp n (aG 0 A) (aD A i):=.mem (az (Nat.zero_le i) Cl);have hp:=hA.2.pos i Cl;obtain ⟨p,hpp⟩:=pK (aC A i (ap i));obtain ⟨q,yi⟩:=pK (v.getD (ap i) 0);rw [hpp] at hp;have hsl:(bX p v).length=n:=by rw [lx];exact IJ
  have hw:Sp n (aG 0 B) (aU q (bX p v) (aD A i)):=.less q (hv.smul (cT hB.1) p) (hs _ Ju);have B7:∀ c,(aU q (bX p v) (aD A i)).getD c 0=p*v.getD c 0-q*aC A i c:=fun c=>by
   rw [en q (by rw [hsl];exact hAl),lu];rfl
  obtain ⟨D,hD,MC⟩:=t4_ hA hB hs hl t (by omega) _ hw fun j hj=>by
   rw [B7];by_cases e:j=i;·rw [e,hpp,yi,Int.mul_comm];omega
   ·have wE:j<i:=(by omega);rw [hz j (by omega),hA.2.zero i Cl (ap j) (hA.2.mono j i wE Cl)];simp
  refine ⟨D*p,Int.mul_ne_zero hD (by omega),?_⟩;have h9:=Sp.less (-(D*q)) MC Ju;have e:aU (-(D*q)) (bX D (aU q (bX p v) (aD A i))) (aD A i)=bX (D*p) v:=by
   have tq:(aU q (bX p v) (aD A i)).length=n:=(by rw [eX,hsl]);apply List.ext_getElem;·rw [eX,lx,lx,tq,IJ]
   ·intro c h1 h2;have e1:(aU (-(D*q)) (bX D (aU q (bX p v) (aD A i))) (aD A i)).getD c 0=(bX (D*p) v).getD c 0:=by
     rw [en _ (by rw [lx,tq];exact hAl),lu,lu,B7];unfold aC;grind
    rw [oe,oe,oc h1,oc h2] at e1;exact e1
  rw [e] at h9;exact h9
theorem Z1P {n k:Nat} {X:pN} {l:pM} {ps:Nat->Nat} (hn:n<7) (hk:k<=n) (hk1:1<=k) (hH:a_ n l ps) (hA:∀ i,i<l.length->∀ r∈bz n k X,bD r (aD l i) n=0) (hX:∃ J∈aO n k,e8 n k X J≠0):l.length<=k:=by
 by_cases hd:l.length<=k;·exact hd
 exfalso;have hlt:∀ i,i<k->ps i<n:=fun i hi=>hH.2.lt i (by omega);have tK:∀ i j,i<j->j<k->ps i<ps j:=fun i j h1 h2=>hH.2.mono i j h1 (by omega);have hz:∀ i,i<k->∀ c,c<ps i->aC l i c=0:=fun i hi c hc=>hH.2.zero i (by omega) c hc;have hP:=kY hn hk hlt tK k (oz _);have h1:=f9_ hn hk (l:=l) (ps:=ps) (X:=X) hlt tK hz (fun i hi=>by have:=hH.2.pos i (by omega);omega) (fun i hi=>hA i (by omega));have hq:qZ l k (cC ps k)≠0:=by
  intro h9;have e1:qQ l k (cC ps k)=al k ps (aD l):=by
   unfold qQ al;refine cZ fun a b ha hb=>?_;unfold bW;show (((aD l a).getD ((aj (cC ps k)).getD b 0) 0:Int):Rat)=_;rw [lU hn hk hlt tK b hb]
  have e2:=jT hH k (by omega);have e3:=(jV hH k (by omega)).1;rw [<- im,h9,e2] at e1;have:dY l ps k=0:=by exact_mod_cast e1.symm
  omega
 obtain ⟨J,hJ,L8⟩:=hX;have Gb:e8 n k X (cC ps k)≠0:=by
  intro h9;have:=h1 J hJ;rw [h9,Int.zero_mul] at this;rcases Int.mul_eq_zero.1 this.symm with h | h;·exact hq h
  ·exact L8 h
 obtain ⟨l',tr⟩:=pL (l.drop 1);have hrow:∀ i,aD l' i=aD l (i+1):=fun i=>by
  rw [tr];unfold aD;rw [oe,oe,pF,Nat.add_comm]
 have tA:∀ i c,aC l' i c=aC l (i+1) c:=fun i c=>by unfold aC;rw [hrow]
 obtain ⟨qs,wW⟩:∃ qs:Nat->Nat,qs=fun i=>ps (i+1):=⟨_,rfl⟩;have Cg:∀ i,i<k->qs i<n:=fun i hi=>by rw [wW];exact hH.2.lt (i+1) (by omega)
 have Cc:∀ i j,i<j->j<k->qs i<qs j:=fun i j h1 h2=>by rw [wW];exact hH.2.mono (i+1) (j+1) (by omega) (by omega)
 have h2:=f9_ hn hk (l:=l') (ps:=qs) (X:=X) Cg Cc (fun i hi c hc=>by rw [tA];rw [wW] at hc;exact hH.2.zero (i+1) (by omega) c hc) (fun i hi=>by rw [tA,wW];have:=hH.2.pos (i+1) (by omega);show aC l (i+1) (ps (i+1))≠0;omega) (fun i hi r hr=>by rw [hrow];exact hA (i+1) (by omega) r hr);have h3:=h2 (cC ps k) hP;have tl:qZ l' k (cC ps k)=0:=by
  have e1:qQ l' k (cC ps k)=0:=by
   unfold qQ al;obtain ⟨k',rfl⟩:∃ k',k=k'+1:=⟨k-1,by omega⟩;show aI (k'+1) _=0;rw [<- S5_ (k'+1)];refine cw fun i hi=>?_;have:bW (fun b=>(aj (cC ps (k'+1))).getD b 0) (aD l') i 0=0:=by
    unfold bW;show (((aD l' i).getD ((aj (cC ps (k'+1))).getD 0 0) 0:Int):Rat)=0;rw [lU hn hk hlt tK 0 (by omega)];have h9:aC l' i (ps 0)=0:=by
     rw [tA];exact hH.2.zero (i+1) (by omega) (ps 0) (hH.2.mono 0 (i+1) (by omega) (by omega))
    unfold aC at h9;rw [h9];rfl
   rw [this];grind
  rw [<- im] at e1
  exact_mod_cast e1
 rw [tl,Int.mul_zero] at h3;have vL:qZ l' k (cC qs k)≠0:=by
  intro h9;rw [h9,Int.zero_mul] at h3;have NZ:∀ c,c<n->aC l' 0 c=aC l 1 c:=fun c _=>tA 0 c;have e1:qQ l' k (cC qs k)=al k qs (aD l'):=by
   unfold qQ al;refine cZ fun a b ha hb=>?_;unfold bW;show (((aD l' a).getD ((aj (cC qs k)).getD b 0) 0:Int):Rat)=_;rw [lU hn hk Cg Cc b hb]
  have Jh:a_ n l' qs:=by
   have hll:l'.length=l.length-1:=(by rw [tr];simp);refine ⟨fun i hi=>by rw [hrow];exact hH.1 (i+1) (by omega),⟨fun i hi=>by rw [wW];exact hH.2.lt (i+1) (by omega),fun i j h1 h2=>by rw [wW];exact hH.2.mono (i+1) (j+1) (by omega) (by omega),fun i hi c hc=>by rw [tA];rw [wW] at hc;exact hH.2.zero (i+1) (by omega) c hc,fun i hi=>by rw [tA,wW];exact hH.2.pos (i+1) (by omega),fun i j h1 h2=>by rw [tA,tA,wW];exact hH.2.red (i+1) (j+1) (by omega) (by omega),fun i h1 h2 c hc=>by rw [tA];exact hH.2.rest (i+1) (by omega) (by omega) c hc⟩⟩
  have hll:l'.length=l.length-1:=by rw [tr];simp
  have e2:=jT Jh k (by omega);have e3:=(jV Jh k (by omega)).1;rw [<- im,h9,e2] at e1;have:dY l' qs k=0:=by exact_mod_cast e1.symm
  omega
 rcases Int.mul_eq_zero.1 h3.symm with h | h;·exact vL h
 ·exact Gb h
theorem C0_ {X:pN}:bZ X=0↔X.any (fun z=>decide (z≠0))=false:=by
 rw [List.any_eq_false];constructor
 ·intro h x hx;obtain ⟨z,hz⟩:=q5_ hx;rw [h] at hz;simp at hz;simp [hz]
 ·intro h;by_cases e:bZ X=0;·exact e
  ·obtain ⟨x,hx,qB⟩:=J6_ e;exact absurd (pE qB) (h x hx)
def e_ (p b:Nat):Nat:=if b<p then b+1 else if b=p then 0 else b
theorem Z2H (p b:Nat):e_ (p+1) b=e_ p (bE p b):=by
 unfold e_ bE;by_cases h1:b=p;·subst h1;simp
 ·by_cases h2:b=p+1;·subst h2;simp
  ·rw [if_neg h1,if_neg h2];split <;> split <;> (try split) <;> (try split) <;> omega
theorem Z2I {k:Nat} (M:Nat->Nat->Rat):∀ p,p<k->aK k (fun a b=>M a (e_ p b))=(if p%2=0 then (1:Rat) else -1)*aK k M
 | 0,_=>by
  have e:(fun a b=>M a (e_ 0 b))=M:=by
   funext a b;show M a (e_ 0 b)=M a b;congr 1;unfold e_;rw [if_neg (by omega)];split <;> omega
  rw [e,if_pos rfl];grind
 | p+1,h=>by
  have h1:=Z2I (k:=k) M p (by omega);have h2:=ng (n:=k) (fun a b=>M b (e_ p a)) (r:=p) h;have e:(fun a b=>M a (e_ (p+1) b))=fun a b=>(fun b a=>M a (e_ p (bE p b))) b a:=by
   funext a b;show M a (e_ (p+1) b)=M a (e_ p (bE p b));rw [Z2H]
  rw [e,eh k (fun b a=>M a (e_ p (bE p b)))];have h3:aK k (fun b a=>M a (e_ p (bE p b)))=- aK k (fun a b=>M b (e_ p a)):=h2;rw [h3,eh k (fun a b=>M a (e_ p b)),h1];by_cases h4:p%2=0;·rw [if_pos h4,if_neg (by omega)];grind
  ·rw [if_neg h4,if_pos (by omega)];grind
def Z85 (n k:Nat):Bool:=(aO n k).all fun K=>(List.range n).all fun c=>K.testBit c || (decide (ee K c<k+1) && (List.range (k+1)).all fun b=>decide ((aj (K ||| (1 <<< c))).getD b 0=(c::aj K).getD (e_ (ee K c) b) 0))
theorem Z4K:∀ n,n<5->∀ k,k<n->Z85 n k=true:=by decide +kernel
def Z84 (n k:Nat):Bool:=(aO n k).all fun K=>(List.range n).all fun c=>!K.testBit c || (List.range k).any fun j=>decide ((aj K).getD j 0=c)
theorem Z4E:∀ n,n<5->∀ k,k<n->Z84 n k=true:=by decide +kernel
theorem Z4j {n k K:Nat} (l:pM) (v:pN) (hn:n<5) (hk:k<n) (hK:K∈aO n k) :
  aI n (fun c=>if K.testBit c=true then 0 else ((v.getD c 0:Int):Rat)*((if ee K c%2=0 then (1:Rat) else -1)*qQ l (k+1) (K ||| (1 <<< c)))) =
   aK (k+1) (fun a b=>if b=0 then ((bD (aD l a) v n:Int):Rat) else ((aC l a ((aj K).getD (b-1) 0):Int):Rat)):=by
 have h0:aK (k+1) (fun a b=>if b=0 then ((bD (aD l a) v n:Int):Rat) else ((aC l a ((aj K).getD (b-1) 0):Int):Rat))=aK (k+1) (fun a b=>if b=0 then (0:Rat)+aI n (fun c=>((v.getD c 0:Int):Rat)*((aC l a c:Int):Rat)) else ((aC l a ((aj K).getD (b-1) 0):Int):Rat)):=by
  congr 1;funext a b
  split
  ·rw [nl];show aI n (fun c=>((v.getD c 0:Int):Rat)*((aC l a c:Int):Rat))=_;grind
  ·rfl
 rw [h0,nh (fun a b=>((aC l a ((aj K).getD (b-1) 0):Int):Rat)) (r:=0) (by omega) (fun _=>0) n (fun c=>((v.getD c 0:Int):Rat)) (fun c a=>((aC l a c:Int):Rat))];have pk:aK (k+1) (fun a b=>if b=0 then (0:Rat) else ((aC l a ((aj K).getD (b-1) 0):Int):Rat))=0:=by
  rw [<- eh];exact ia (r:=0) (by omega) fun b hb=>if_pos rfl
 rw [pk];rw [show ∀ x:Rat,0+x=x by intro x;grind];refine cw fun c hc=>?_;by_cases hb:K.testBit c=true
 ·rw [if_pos hb];have h1:=List.all_eq_true.1 (List.all_eq_true.1 (Z4E n hn k hk) K hK) c (List.mem_range.2 hc);rw [hb,Bool.not_true,Bool.false_or,List.any_eq_true] at h1;obtain ⟨j,hj,he⟩:=h1;have hj:=List.mem_range.1 hj;have he:=of_decide_eq_true he
  rw [mQ (i:=0) (j:=j+1) (by omega) (by omega) (by omega) fun b _=>by
   rw [if_pos rfl,if_neg (by omega)];show _=((aC l b ((aj K).getD (j+1-1) 0):Int):Rat)
   rw [Nat.add_sub_cancel,he]]
  grind
 ·rw [if_neg hb];have hb2:K.testBit c=false:=by simpa using hb
  have h1:=List.all_eq_true.1 (List.all_eq_true.1 (Z4K n hn k hk) K hK) c (List.mem_range.2 hc);rw [hb2,Bool.false_or,Bool.and_eq_true] at h1;have hp:=of_decide_eq_true h1.1;have hq:qQ l (k+1) (K ||| (1 <<< c))=(if ee K c%2=0 then (1:Rat) else -1)*aK (k+1) (fun a b=>if b=0 then ((aC l a c:Int):Rat) else ((aC l a ((aj K).getD (b-1) 0):Int):Rat)):=by
   rw [<- Z2I (fun a b=>if b=0 then ((aC l a c:Int):Rat) else ((aC l a ((aj K).getD (b-1) 0):Int):Rat)) _ hp];unfold qQ al;refine cZ fun a b ha hb=>?_;have h2:=of_decide_eq_true (List.all_eq_true.1 h1.2 b (List.mem_range.2 hb));show (((aD l a).getD ((aj (K ||| (1 <<< c))).getD b 0) 0:Int):Rat)=_;rw [h2];obtain ⟨q,hq⟩:=pK (e_ (ee K c) b);rw [hq];cases q with
   | zero=>rw [if_pos rfl];rfl
   | succ q=>rw [if_neg (by omega),Nat.add_sub_cancel];rfl
  rw [hq];by_cases h4:ee K c%2=0;·rw [if_pos h4];grind
  ·rw [if_neg h4];grind
theorem Z4k {n k K:Nat} (l:pM) (v:pN) (hn:n<5) (hk:k<n) (hK:K∈aO n k) (hz:∀ i,i<k+1->bD (aD l i) v n=0) :
  aI n (fun c=>if K.testBit c=true then 0 else ((v.getD c 0:Int):Rat)*((if ee K c%2=0 then (1:Rat) else -1)*qQ l (k+1) (K ||| (1 <<< c))))=0:=by
 rw [Z4j l v hn hk hK,<- eh];refine ia (r:=0) (by omega) fun b hb=>?_;show (if (0:Nat)=0 then ((bD (aD l b) v n:Int):Rat) else _)=0;rw [if_pos rfl,hz b hb];rfl
def Z81 (n k:Nat):Bool:=(aO n (n-k+1)).all fun s=>decide (dm n s∈aO n (k-1)) && [true,false].any fun e=>(List.range n).all fun c =>
 (decide (s.testBit c=!(dm n s).testBit c)) && (!s.testBit c || (decide (dm n (s ^^^ (1 <<< c))=dm n s ||| (1 <<< c)) && decide (dm n (s ^^^ (1 <<< c))∈aO n k) && decide ((s ^^^ (1 <<< c))∈aO n (n-k)) &&
  decide ((ep (dm n (s ^^^ (1 <<< c))) (s ^^^ (1 <<< c)) ^^ ep (1 <<< c) (s ^^^ (1 <<< c)))=(e ^^ decide (ee (dm n s) c%2=1)))))
theorem Z4q:∀ n,n<5->∀ k,k<n->Z81 n (k+1)=true:=by decide +kernel
theorem Z6C (e o1 o2:Bool) (p:Nat) (x y:Int) (h:(o1 ^^ o2)=(e ^^ decide (p%2=1))):((y:Int):Rat)*((dZ (dZ x o1) o2:Int):Rat)=(if e=true then (-1:Rat) else 1)*((y:Rat)*((if p%2=0 then (1:Rat) else -1)*(x:Rat))):=by
 by_cases h5:p%2=0
 ·rw [if_pos h5];rw [show decide (p%2=1)=false from pD (by omega)] at h;cases e <;> cases o1 <;> cases o2 <;> simp at h <;> simp [dZ,Rat.intCast_neg] <;> grind
 ·rw [if_neg h5];rw [show decide (p%2=1)=true from pE (by omega)] at h;cases e <;> cases o1 <;> cases o2 <;> simp at h <;> simp [dZ,Rat.intCast_neg] <;> grind
theorem Z4s {n k:Nat} (l:pM) (v:pN) (hn:n<5) (hk:k<=n) (hz:∀ i,i<k->bD (aD l i) v n=0):∀ r∈bz n (n-k) (dh n k (an n k l)),bD r v n=0:=by
 intro r hr;unfold bz at hr;obtain ⟨s,hs,rfl⟩:=List.mem_map.1 hr;by_cases hk1:1<=k
 ·unfold bN at hs;rw [if_neg (by omega)] at hs;obtain ⟨k',rfl⟩:∃ k',k=k'+1:=⟨k-1,by omega⟩;have h1:=List.all_eq_true.1 (Z4q n hn k' (by omega)) s hs;rw [Bool.and_eq_true] at h1;have hK:=of_decide_eq_true h1.1;obtain ⟨e,-,he⟩:=List.any_eq_true.1 h1.2;rw [Nat.add_sub_cancel] at hK;have h9:=Z4k l v hn (by omega) hK hz;have h8:((bD ((List.range n).map fun i=>bh n (n-(k'+1)) (dh n (k'+1) (an n (k'+1) l)) i s) v n:Int):Rat)=(if e=true then (-1:Rat) else 1)*aI n (fun c=>if (dm n s).testBit c=true then 0 else ((v.getD c 0:Int):Rat)*((if ee (dm n s) c%2=0 then (1:Rat) else -1)*qQ l (k'+1) (dm n s ||| (1 <<< c)))):=by
   rw [nl,<- iv];refine cw fun c hc=>?_;have hg:((List.range n).map fun i=>bh n (n-(k'+1)) (dh n (k'+1) (an n (k'+1) l)) i s).getD c 0=bh n (n-(k'+1)) (dh n (k'+1) (an n (k'+1) l)) c s:=by
    rw [oe,oh,List.getElem?_range hc];rfl
   rw [hg];have h2:=List.all_eq_true.1 he c (List.mem_range.2 hc);rw [Bool.and_eq_true] at h2;have hb:=of_decide_eq_true h2.1;by_cases pj:s.testBit c=true
   ·have h3:=h2.2;rw [pj,Bool.not_true,Bool.false_or] at h3;simp only [Bool.and_eq_true] at h3;have e1:=of_decide_eq_true h3.1.1.1;have e2:=of_decide_eq_true h3.1.1.2;have e3:=of_decide_eq_true h3.1.2;have e4:=of_decide_eq_true h3.2;have pn:(dm n s).testBit c=false:=by
     cases h:(dm n s).testBit c;·rfl
     rw [h,pj] at hb;cases hb
    rw [pn,if_neg (show ¬ (false=true) by decide),jJ pj];unfold dh;rw [mr (by omega) (by omega) e3,show (an n (k'+1) l).getD (cl n (k'+1) (dm n (s ^^^ (1 <<< c)))) 0=qZ l (k'+1) (dm n (s ^^^ (1 <<< c))) from mr (by omega) (by omega) e2 _,<- e1,<- im];exact Z6C _ _ _ _ _ _ e4
   ·have su:s.testBit c=false:=(by simpa using pj);have pn:(dm n s).testBit c=true:=by
     cases h:(dm n s).testBit c;·rw [h,su] at hb;cases hb
     ·rfl
    rw [pn,if_pos rfl,jt su];show _*(0:Rat)=_;grind
  rw [h9] at h8;have:((bD ((List.range n).map fun i=>bh n (n-(k'+1)) (dh n (k'+1) (an n (k'+1) l)) i s) v n:Int):Rat)=0:=by rw [h8];grind
  exact Rat.intCast_eq_zero_iff.1 this
 ·obtain rfl:k=0:=by omega
  unfold bN at hs;rw [if_pos (by omega)] at hs;cases hs
theorem b1_ {n k:Nat} {X:pN} {M:Nat} (hX:∀ x∈X,x.natAbs<=M):∀ y∈dh n k X,y.natAbs<=M:=by
 intro y hy;unfold dh at hy;obtain ⟨s,-,rfl⟩:=List.mem_map.1 hy;rw [s0_];cases h:X[cl n k (dm n s)]? with
 | none=>rw [oe,h];simp
 | some x=>rw [oe,h];exact hX x (og h)
theorem C1_ {X:pN} (h:bZ X≠0):∃ x∈X,x≠0:=J6_ h
theorem Z2e {n k:Nat} {X:pN} (hn:n<7) (hk:k<=n) (wa:X.length=(aO n k).length) (h0:bZ X≠0):∃ y∈dh n k X,y≠0:=by
 by_cases h:∃ y∈dh n k X,y≠0;·exact h
 exfalso;have hz:∀ y∈dh n k X,y.natAbs<=0:=fun y hy=>by
  by_cases h9:y=0;·rw [h9];decide
  ·exact absurd ⟨y,hy,h9⟩ h
 have h1:=b1_ (n:=n) (k:=n-k) hz;rw [Z2d hn hk X wa] at h1;obtain ⟨x,hx,qB⟩:=C1_ h0;have h2:=h1 _ (List.mem_map.2 ⟨x,hx,rfl⟩);rw [s0_] at h2;omega
theorem u7_:∀ n,n<5->∀ c,c<n->(1 <<< c)∈aO n 1/\(1 <<< c ^^^ 1 <<< c)=0/\cl n 0 0=0/\aO n 0=[0]/\∀ i,i<n->(1 <<< c).testBit i=decide (i=c):=by decide +kernel
theorem a2_ {n:Nat} {D:pN} {v:pN} (hn:n<5) (hD:D.getD 0 0≠0) (hv:∀ r∈bz n 0 D,bD r v n=0):∀ c,c<n->v.getD c 0=0:=by
 intro c hc;obtain ⟨h1,h2,h3,-,h4⟩:=u7_ n hn c hc
 have h5:=hv ((List.range n).map fun i=>bh n 0 D i (1 <<< c)) (by
  unfold bz bN;rw [if_neg (by omega)]
  exact List.mem_map.2 ⟨_,h1,rfl⟩)
 have h6:∀ m,m<=n->bD ((List.range n).map fun i=>bh n 0 D i (1 <<< c)) v m=if c<m then dZ (D.getD 0 0) (ep (1 <<< c) 0)*v.getD c 0 else 0:=by
  intro m
  induction m with
  | zero=>intro _;rw [if_neg (by omega)];rfl
  | succ m ih =>
   intro hm;show bD _ v m+_*_=_;rw [ih (by omega)];have hg:((List.range n).map fun i=>bh n 0 D i (1 <<< c)).getD m 0=bh n 0 D m (1 <<< c):=by
    rw [oe,oh,List.getElem?_range (by omega)];rfl
   rw [hg];by_cases h:m=c
   ·subst h;rw [jJ (by rw [h4 m (by omega)];exact pE rfl),h2,h3,if_neg (by omega),if_pos (by omega)];omega
   ·rw [jt (by rw [h4 m (by omega)];exact pD h)];by_cases h9:c<m;·rw [if_pos h9,if_pos (by omega)];omega
    ·rw [if_neg h9,if_neg (by omega)];omega
 rw [h6 n (oz n),if_pos hc] at h5;rcases Int.mul_eq_zero.1 h5 with h | h;·exact absurd (s1_.1 h) hD
 ·exact h
theorem p7_ {n k B:Nat} {C M:pM} {ms:Nat->Nat} (hn:n<5) (hk:k<=n) (Ny:C.length=k) (hM:a_ n M ms) (zh:M.length=n-k) (hA:∀ v,Sp n (aG 0 M) v↔cV n C v)
  (hB:∀ x∈an n k C,x.natAbs<=B) (DE:B<=100000000) (h0:bZ (an n k C)≠0) :
  bZ (an n (n-k) M)=1/\fM (dh n k (an n k C))=fM (an n (n-k) M)/\(∀ x∈an n (n-k) M,x.natAbs<=B)/\∀ v,Sp n (aG 0 M) v↔cV n (bz n (n-k) (dh n k (an n k C))) v:=by
 have wa:(an n k C).length=(aO n k).length:=by unfold an;rw [List.length_map]
 have hDl:=I3_ n k (an n k C);have hDB:=b1_ (n:=n) (k:=k) hB;obtain ⟨y,hy,qW⟩:=Z2e (by omega) hk wa h0;have hann:=fun v hz=>Z4s C v hn hk hz;obtain ⟨D,hD⟩:=pK (dh n k (an n k C));rw [hD] at hDl hDB hy hann |-;have Gs:bZ D≠0:=by
  intro h9;have:=C0_.1 h9;rw [List.any_eq_false] at this;exact this y hy (by simpa using qW)
 obtain ⟨g,hg⟩:=pK (n-k);rw [hg] at hDl hann zh |-;obtain ⟨b1,b2,b3⟩:=w8_ n hn g (by omega);have zd:∀ x∈D,x.natAbs<=10^8:=fun x hx=>ow (hDB x hx) DE;obtain ⟨F,hF⟩:∃ F,10^eN 8 (bN n g).length<F:=⟨_,Nat.lt_succ_self _⟩;obtain ⟨F2,ve⟩:∃ F,10^(gN n (eN 8 (bN n g).length) 0).1<F:=⟨_,Nat.lt_succ_self _⟩;obtain ⟨R,hR,hK⟩:=g1_ (n:=n) (k:=g) zd hF b1;obtain ⟨l,ps,f1,f2,f3,-,f5⟩:=T7_ (F:=F2) hK.wid hK.bnd (.inr (oz n)) b2 b3 ve hK.free;have yq:∀ v,Sp n (aG 0 l) v↔cV n (bz n g D) v:=fun v=>(f5.iff v).symm.trans (hK.ann v);have th:∀ i,i<l.length->∀ r∈bz n g D,bD r (aD l i) n=0:=fun i hi r hr=>by
  obtain ⟨j,yt⟩:=List.getElem?_of_mem hr;have:=((yq _).1 (.mem (az (Nat.zero_le i) hi))).2 j (od.1 yt).1;rw [eO yt] at this;exact this
 have hll:l.length<=g:=by
  by_cases h1:1<=g
  ·refine Z1P (by omega) (by omega) h1 f3 th ?_;obtain ⟨i,hi⟩:=List.getElem?_of_mem hy;have hil:=(od.1 hi).1;rw [hDl] at hil;obtain ⟨J,hJ⟩:∃ J,(aO n g)[i]?=some J:=⟨_,oc hil⟩;refine ⟨J,og hJ,?_⟩;have h:=of_decide_eq_true (List.all_eq_true.1 (G2_ n (by omega) g (by omega)) i (List.mem_range.2 hil));rw [oe,hJ] at h;have h:cl n g J=i:=h;unfold e8;rw [h,oe,hi];exact qW
  ·obtain rfl:g=0:=(by omega);by_cases h2:l.length<=0;·exact h2
   exfalso;have hlt:=f3.2.lt 0 (by omega);have hpos:=f3.2.pos 0 (by omega);have Ar:D.getD 0 0≠0:=by
    obtain ⟨i,hi⟩:=List.getElem?_of_mem hy;have hil:=(od.1 hi).1;rw [hDl,(u7_ n hn (ps 0) hlt).2.2.2.1] at hil;obtain rfl:i=0:=(by simpa using hil);rw [oe,hi];exact qW
   have:=a2_ hn Ar (th 0 (by omega)) (ps 0) hlt;unfold aC at hpos;rw [this] at hpos;omega
 have hin:∀ v,Sp n (aG 0 M) v->Sp n (aG 0 l) v:=fun v hv=>by
  have h9:=(hA v).1 hv;refine (yq v).2 ⟨h9.1,fun j hj=>hann v (fun i hi=>h9.2 i (by omega)) _ (eM hj)⟩
 have hpl:=Z5F hM f3 hin;have hle:l.length=g:=by omega
 have hsp:bT n (aG 0 M) (aG 0 l):=by
  have hb:∀ v,Sp n (aG 0 l) v->Sp n (aG 0 M) v:=fun v hv=>by
   obtain ⟨q,hq,h9⟩:=t4_ hM f3 hin (by omega) M.length (oz _) v hv (fun i hi=>by omega);have h8:=(hA _).1 h9;refine (hA v).2 ⟨hv.len (cT f3.1),fun j hj=>?_⟩;have h7:=h8.2 j hj;rw [nk] at h7;rcases Int.mul_eq_zero.1 h7 with h | h;·exact absurd h hq
   ·exact h
  exact ⟨fun r hr=>hin r (.mem hr),fun r hr=>hb r (.mem hr)⟩
 have hml:=mb hM f3 hsp;obtain ⟨l2,M4,g1,-,-,-,g5,g6,g7⟩:=g5_ (B:=B) (by omega) (by omega) hDl zd hDB Gs hF b1 hR hK (by omega) b2 b3 ve;rw [f1] at g1;obtain rfl:=o5 g1;rw [<- hml] at g5 g6 g7 yq;exact ⟨g5,g6,g7,yq⟩
theorem T8_ {n:Nat} {M:pM} {ms:Nat->Nat} (hn:n<7) (hM:a_ n M ms) (Gd:M.length<=n):bZ (an n M.length M)≠0:=by
 obtain ⟨k,hk⟩:=pK M.length;have hH:=hM.2;rw [hk] at hH Gd |-;have hP:=kY hn Gd hH.lt hH.mono k (oz _);have hb:qZ M k (cC ms k)≠0:=by
  intro h9;have e1:qQ M k (cC ms k)=al k ms (aD M):=by
   unfold qQ al;refine cZ fun a b ha hb=>?_;unfold bW;show (((aD M a).getD ((aj (cC ms k)).getD b 0) 0:Int):Rat)=_;rw [lU hn Gd hH.lt hH.mono b hb]
  have e2:=jT hM k (by omega);have e3:=(jV hM k (by omega)).1;rw [<- im,h9,e2] at e1;have:dY M ms k=0:=by exact_mod_cast e1.symm
  omega
 intro h9;have:=C0_.1 h9;rw [List.any_eq_false] at this;exact this (qZ M k (cC ms k)) (List.mem_map.2 ⟨_,hP,rfl⟩) (by simpa using hb)
theorem Z5g {n N:Nat} {m S:pM} {ps:Nat->Nat} (hS:a_ n S ps) (hm:ak n m) (hN:∀ i,i<m.length->aT N (aD m i)) (hs:∀ v,Sp n (aG 0 S) v↔fe n m v):∀ x∈an n S.length S,x.natAbs<=ek N S.length:=by
 have h1:∀ r,aG 0 m r->Sp n (aG 0 S) r:=fun r hr=>by
  refine (hs r).2 ⟨cT hm r hr,1,by decide,?_⟩;rw [show bX 1 r=r by unfold bX;rw [List.map_congr_left (g:=id) (fun x _=>by simp)];simp];exact .mem hr
 have hV:=N7_ hS hm fun i hi=>((hs _).1 (.mem (az (Nat.zero_le i) hi))).2;intro x hx;obtain ⟨J,hJ,rfl⟩:=List.mem_map.1 hx;obtain ⟨z,hz,hb⟩:=H7_ hS hN h1 hV (fun b=>(aj J).getD b 0);have e:qQ S S.length J=(z:Rat):=hz;have:qZ S S.length J=z:=by have h9:=im S S.length J;rw [e] at h9;exact_mod_cast h9
 rw [this];exact hb
end Go.Proofs.YtoonaddcfakamaaGreatDoor
