import Derived.Test.YtjlkkofmojgipaaGreatDoorXAZ
import Derived.Test.YtjlkkofmojgipaaGreatDoorXAP
import Derived.Test.YtjlkkofmojgipaaGreatDoorXAU
import Derived.Test.YtjlkkofmojgipaaGreatDoorXAF
import Derived.Test.YtjlkkofmojgipaaGreatDoorXAM
import Derived.Laws.AppendOwnNone
import Derived.Test.YtjlkkofmojgipaaGreatDoorXAV
import Derived.Test.YtjlkkofmojgipaaGreatDoorXAS
import Derived.Test.YtjlkkofmojgipaaGreatDoorXAH
import Derived.Laws.Rows
import Derived.Test.YtjlkkofmojgipaaGreatDoorXAX
import Derived.Test.YtjlkkofmojgipaaGreatDoorXAJ
import Derived.Test.YtjlkkofmojgipaaGreatDoorXAL
set_option linter.unusedVariables false
set_option linter.unusedSimpArgs false
set_option maxRecDepth 1000000
set_option maxHeartbeats 8000000
namespace Go.Proofs.YtjlkkofmojgipaaGreatDoor
open Go.RowKit Go.Proofs.Tryz
theorem Z4R {k:Nat} {f g:Nat->Nat} (hf:∀ i j,i<j->j<k->f i<f j) (hg:∀ i j,i<j->j<k->g i<g j) (h1:∀ i,i<k->∃ j,j<k/\g j=f i) (h2:∀ i,i<k->∃ j,j<k/\f j=g i):∀ (b j:Nat),j<b->j<k->f j=g j
 | 0,j,h,_=>by omega
 | b+1,j,hb,hj=>by
  have ih:∀ i,i<j->f i=g i:=fun i hi=>Z4R hf hg h1 h2 b i (by omega) (by omega);obtain ⟨i,hi,e⟩:=h1 j hj;obtain ⟨i2,hi2,e2⟩:=h2 j hj;have g1:¬ i<j:=fun h=>by have:=hf i j h hj;rw [ih i h] at this;omega
  have g2:¬ i2<j:=fun h=>by have:=hg i2 j h hj;rw [<- ih i2 h] at this;omega
  have a1:g j<=f j:=by
   by_cases e3:i=j
   ·subst e3;omega
   ·have:=hg j i (by omega) hi;omega
  have a2:f j<=g j:=by
   by_cases e3:i2=j
   ·subst e3;omega
   ·have:=hf j i2 (by omega) hi2;omega
  omega
theorem J8_ {n k:Nat} {S:Nat->Nat} (hn:n<7) (hk:k<=n) (hlt:∀ i,i<k->S i<n) (va:∀ i j,i<j->j<k->S i<S j):∀ b,b<k->(aT (eZ S k)).getD b 0=S b:=by
 intro b hb;have hJ:=l_ hn hk hlt va k (oJ _);obtain ⟨k',rfl⟩:∃ k',k=k'+1:=⟨k-1,by omega⟩;have hM:=Z22 (k:=k') hn (by omega) hJ;refine Z4R (k:=k'+1) hM.inc va (fun i hi=>?_) (fun i hi=>?_) (k'+1) b hb hb
 ·obtain ⟨j,h1,h2⟩:=(nN (k'+1)).1 (hM.bit i hi);exact ⟨j,h1,h2⟩
 ·exact hM.has (S i) (hlt i hi) ((nN (k'+1)).2 ⟨i,hi,rfl⟩)
theorem Z2U {Q:Rat->Prop} (hQ:iA Q) {f:Nat->Rat}:∀ {n:Nat},(∀ i,i<n->Q (f i))->Q (aQ n f)
 | 0,_=>hQ.zero
 | n+1,h=>by
  have h1:=hQ.add _ _ (-1) (Z2U hQ (n:=n) fun i hi=>h i (by omega)) (h n (by omega));have e:aQ n f+-((-1:Int):Rat)*f n=aQ (n+1) f:=by
   show _=aQ n f+f n;have:((-1:Int):Rat)=-1:=rfl;rw [this];grind
  rw [e] at h1;exact h1
theorem Z18 {Q:Rat->Prop} (hQ:iA Q) {x:Rat} (h:Q x) (z:Int):Q ((z:Rat)*x):=by
 have h1:=hQ.add 0 x (-z) hQ.zero h;rw [Rat.intCast_neg] at h1;have e:(0:Rat)+-(-(z:Rat))*x=(z:Rat)*x:=by grind
 rw [e] at h1;exact h1
theorem Z6a (i:Nat) {a b:Nat} (h:a<b):sk i a<sk i b:=by unfold sk;split <;> split <;> omega
theorem Z6b {i a j:Nat} (h:a<j):sk i a<j+1:=by unfold sk;split <;> omega
theorem q1_ {Q:Rat->Prop} (hQ:iA Q) {n K:Nat} {h:List (List Int)} {k:Nat} (hk:∀ S:Nat->Nat,(∀ b,b<k->S b<n)->(∀ a b,a<b->b<k->S a<S b)->Q (aU k fun a b=>((aF h (n-k+a) (K+S b):Int):Rat))) :
  ∀ j,k+j<=n->∀ S:Nat->Nat,(∀ b,b<k+j->S b<n)->(∀ a b,a<b->b<k+j->S a<S b)->Q (aU (k+j) fun a b=>((aF h (n-(k+j)+a) (K+S b):Int):Rat))
 | 0,_,S,h1,h2=>hk S h1 h2
 | j+1,hj,S,h1,h2=>by
  show Q (aU (k+j+1) _);rw [<- eW];show Q (aQ (k+j+1) _);refine Z2U hQ fun i hi=>?_;have ih:=q1_ hQ hk j (by omega) (fun b=>S (sk i b)) (fun b hb=>h1 _ (by have:=Z6b (i:=i) hb;omega)) (fun a b qF hb=>h2 _ _ (Z6a i qF) (by have:=Z6b (i:=i) hb;omega));have e:aU (k+j) (fun a b=>((aF h (n-(k+(j+1))+(b+1)) (K+S (sk i a)):Int):Rat))=aU (k+j) (fun a b=>((aF h (n-(k+j)+a) (K+S (sk i b)):Int):Rat)):=by
   rw [<- eW];refine dP fun a b ha hb=>?_;rw [show n-(k+(j+1))+(a+1)=n-(k+j)+a by omega]
  show Q (de i*((aF h (n-(k+(j+1))+0) (K+S i):Int):Rat)*aU (k+j) (fun a b=>((aF h (n-(k+(j+1))+(b+1)) (K+S (sk i a)):Int):Rat)));rw [e];have h9:=Z18 hQ (Z18 hQ ih (aF h (n-(k+(j+1))+0) (K+S i))) (if i%2=0 then 1 else -1);have e2:(((if i%2=0 then 1 else -1:Int)):Rat)=de i:=by unfold de;split <;> rfl
  rw [e2] at h9;rw [Rat.mul_assoc];exact h9
theorem Z1T {n k e F:Nat} {X:List Int} (hn:n<7) (hX:∀ x∈X,x.natAbs<=10^e) (hF:10^eN e (bG n k).length<F) (hE:eN e ((bG n k).length+1)+1<=400000000) {R l:List (List Int)} (hR:ei F n k X=some R) (hl:bS n l) (hs:cH n (bD 0 R) (bD 0 l)) (hll:l.length=R.length) (p:Int)
  (hp:∀ J∈aJ n l.length,∃ t:Int,qZ l l.length J=t*p):p.natAbs=1:=by
 have hM:=S4_ n k X;have hlx:=z9_ n k X;obtain ⟨M,sB⟩:∃ M,fQ n k X=M:=⟨_,rfl⟩;rw [sB] at hM hlx;have hw:bS ((bG n k).length+n) (cE n k X):=by rw [hM,<- hlx];exact lT n M
 obtain ⟨m',d,ps,e1,k1⟩:=V2_ (N:=(bG n k).length+n) (F:=F) hw (l6_ hX) (bG n k).length hE hF;have hsp:=k1.sp;rw [hM] at hsp;have zN:m'.length=n:=by rw [k1.len,hM,iT]
 rw [<- hlx] at hsp;have JZ:(m'.drop d).map (·.drop M.length)=R:=by
  unfold ei at hR;rw [e1] at hR;simp only [Option.some.injEq] at hR;rw [hlx];exact hR
 have Ej:R.length=n-d:=by rw [<- JZ];simp;omega
 obtain ⟨Q,Gn⟩:∃ Q:Rat->Prop,Q=fun x=>∃ t:Int,x=(t:Rat)*(p:Rat):=⟨_,rfl⟩;have hQ:iA Q:=by rw [Gn];exact Z54 (p:Rat)
 have hle:=k1.le;have ow:∀ S:Nat->Nat,(∀ b,b<l.length->S b<n)->(∀ a b,a<b->b<l.length->S a<S b)->Q (aU l.length fun a b=>((aF m' (n-l.length+a) (M.length+S b):Int):Rat)):=by
  intro S h1 h2;have hJ:=l_ hn (by omega) h1 h2 l.length (oJ _);obtain ⟨t,ht⟩:=hp _ hJ;have hq:Q (bp l.length S (aG l)):=by
   have e2:bp l.length S (aG l)=qQ l l.length (eZ S l.length):=by
    unfold qQ bp;refine dP fun a b ha hb=>?_;unfold cU;show _=(((aG l a).getD ((aT (eZ S l.length)).getD b 0) 0:Int):Rat);rw [J8_ hn (by omega) h1 h2 b hb]
   rw [e2,<- Z4k,ht,Gn];exact ⟨t,by rw [Rat.intCast_mul]⟩
  have h3:=Z10 (mH n l.length S) hQ hl hq (aG R) fun a ha=>hs.1 _ (bf (Nat.zero_le _) (by omega));have e3:bp l.length S (aG R)=aU l.length fun a b=>((aF m' (n-l.length+a) (M.length+S b):Int):Rat):=by
   unfold bp;refine dP fun a b ha hb=>?_;unfold cU aF;rw [<- JZ,kW (by omega),T7_,show n-l.length=d by omega]
  rw [e3] at h3;exact h3
 have hup:=q1_ hQ (K:=M.length) ow (n-l.length) (by omega) (fun b=>b) (fun b hb=>by omega) (fun a b qF _=>qF);rw [show l.length+(n-l.length)=n by omega] at hup;have h0:Q (bp m'.length (fun b=>M.length+b) (aG m')):=by
  rw [zN];have e4:bp n (fun b=>M.length+b) (aG m')=aU n fun a b=>((aF m' (n-n+a) (M.length+b):Int):Rat):=by
   unfold bp;refine dP fun a b ha hb=>?_;unfold cU aF;rw [show n-n+a=a by omega]
  rw [e4];exact hup
 have hwid:=k1.wid;rw [<- hlx] at hwid;have h1:=Z10 (mH (M.length+n) m'.length fun b=>M.length+b) hQ hwid h0 (aG (dj n M)) fun a ha=>hsp.1 _ (bf (Nat.zero_le a) (by rw [iT];omega));have h2:bp m'.length (fun b=>M.length+b) (aG (dj n M))=1:=by
  rw [zN,<- A7_ n];unfold bp;refine dP fun a b ha hb=>?_;show (((aG (dj n M) a).getD (M.length+b) 0:Int):Rat)=_;rw [O4_ (by omega)];by_cases qF:a=b
  ·rw [if_pos qF.symm,if_pos qF];rfl
  ·rw [if_neg (fun e=>qF e.symm),if_neg qF];rfl
 rw [h2,Gn] at h1;obtain ⟨t,ht⟩:=h1;have h3:(1:Int)=t*p:=by
  have:((1:Int):Rat)=((t*p:Int):Rat):=by rw [Rat.intCast_mul];exact ht
  exact Rat.intCast_inj.1 this
 have h4:(1:Int).natAbs=t.natAbs*p.natAbs:=by rw [h3,Int.natAbs_mul]
 exact Nat.eq_one_of_mul_eq_one_left (by simpa using h4.symm)
theorem O7_ {X:List Int} {d:Nat} (h:∀ x∈X,d ∣ x.natAbs):∀ i,i<=X.length->d ∣ cM X i
 | 0,_=>by unfold cM;exact Nat.dvd_zero d
 | i+1,hi=>by
  obtain ⟨y,hy⟩:∃ y,X[i]?=some y:=⟨_,n9 (by omega)⟩;rw [kD hy];exact Nat.dvd_gcd (O7_ h i (by omega)) (h y (oD hy))
theorem O8_ (a:Int) (X:List Int):∀ i,i<=X.length->cM (X.map (a*·)) i=a.natAbs*cM X i
 | 0,_=>by unfold cM;simp
 | i+1,hi=>by
  obtain ⟨y,hy⟩:∃ y,X[i]?=some y:=⟨_,n9 (by omega)⟩;rw [kD hy,kD (x:=a*y) (by rw [oE,hy];rfl),O8_ a X i (by omega),Int.natAbs_mul,Nat.gcd_mul_left]
theorem U2_ (a:Int) (X:List Int):az (X.map (a*·))=a.natAbs*az X:=by
 unfold az;rw [List.length_map];exact O8_ a X _ (oJ _)
theorem i5_ {a:Int} (ha:a≠0) (X:List Int):cu (X.map (a*·))=a.sign*cu X:=by
 unfold cu
 induction X with
 | nil=>simp
 | cons x r ih =>
  rw [List.map_cons,List.find?_cons,List.find?_cons];by_cases hx:x=0
  ·subst hx;simp only [Int.mul_zero,ne_eq,not_true_eq_false,decide_false];exact ih
  ·have hax:a*x≠0:=Int.mul_ne_zero ha hx;simp only [ne_eq,hx,hax,not_false_eq_true,decide_true];exact Int.sign_mul a x
theorem Z2u {X q:List Int} {a b:Int} (hl:X.length=q.length) (hb:b≠0) (h1:az q=1) (hp:∀ (i:Nat) x y,X[i]?=some x->q[i]?=some y->a*y=b*x):∃ c:Int,X=q.map (c*·):=by
 have hd:b.natAbs ∣ a.natAbs:=by
  have h2:b.natAbs ∣ az (q.map (a*·)):=O7_ (fun z hz=>by
   obtain ⟨y,hy,rfl⟩:=List.mem_map.1 hz;obtain ⟨i,hi⟩:=List.getElem?_of_mem hy;obtain ⟨x,hx⟩:∃ x,X[i]?=some x:=⟨_,n9 (by rw [hl];exact (n_.1 hi).1)⟩;rw [hp i x y hx hi,Int.natAbs_mul]
   exact Nat.dvd_mul_right _ _) _ (oJ _)
  rw [U2_,h1,Nat.mul_one] at h2;exact h2
 obtain ⟨c,hc⟩:=Int.natAbs_dvd_natAbs.1 hd;refine ⟨c,List.ext_getElem? fun i=>?_⟩;rw [oE];cases hx:X[i]? with
 | none =>
  rw [oK (by rw [<- hl];exact List.getElem?_eq_none_iff.1 hx)];rfl
 | some x =>
  obtain ⟨y,hy⟩:∃ y,q[i]?=some y:=⟨_,n9 (by rw [<- hl];exact (n_.1 hx).1)⟩;rw [hy];have h:=hp i x y hx hy;rw [hc,Int.mul_assoc] at h;rw [<- Int.eq_of_mul_eq_mul_left hb h];rfl
theorem Z3g {q:List Int} {c:Int} (hc:c≠0) (h1:az q=1):cO (q.map (c*·))=cO q:=by
 have zU:az (q.map (c*·))=c.natAbs:=by rw [U2_,h1,Nat.mul_one]
 have hs:=i5_ hc q;have x7:cu q≠0:=by
  intro e;obtain ⟨x,hx,pE⟩:=Z1c (X:=q) (by omega);exact pE (O2_ e x hx)
 unfold cO;rw [if_neg (by rw [zU];omega),if_neg (by omega),List.map_map];refine List.map_congr_left fun x _=>?_;show aR (c*x) (gC (q.map (c*·)))=aR x (gC q);unfold gC;rw [zU,hs,h1];have rZ:∀ z:Int,aR z 1=z:=fun z=>by have:=lu (d:=1) (z:=z) (by decide);rw [Int.one_mul] at this;exact this
 have zL:∀ z:Int,aR z (-1)=-z:=fun z=>by have:=z3_ (d:=1) (z:=z) (by decide);rw [Int.one_mul] at this;exact this
 rcases Int.lt_trichotomy c 0 with h | h | h
 ·have zB:c.sign=-1:=Int.sign_eq_neg_one_of_neg h;have hn:(c.natAbs:Int)=-c:=by omega
  rw [zB,hn];by_cases h2:cu q<0
  ·rw [if_neg (by omega),if_pos h2];show _=aR x (-1);rw [z3_ hc,zL]
  ·rw [if_pos (by omega),if_neg h2,Int.neg_neg,lu hc];exact (rZ x).symm
 ·exact absurd h hc
 ·have zB:c.sign=1:=Int.sign_eq_one_of_pos h;have hn:(c.natAbs:Int)=c:=by omega
  rw [zB,hn,Int.one_mul];by_cases h2:cu q<0
  ·rw [if_pos h2,if_pos h2,z3_ hc];exact (zL x).symm
  ·rw [if_neg h2,if_neg h2,lu hc];exact (rZ x).symm
theorem c6_ {k R:Nat} (A:Nat->Nat->Rat):∀ (N:Nat) (ρ:Nat->Nat),fg k ρ k<N->(∀ a,a<k->ρ a<R)->aU k (fun a b=>A (ρ a) b)=0\/∃ σ:Nat->Nat,(∀ a,a<k->σ a<R)/\(∀ a,a+1<k->σ a<σ (a+1))/\(aU k (fun a b=>A (ρ a) b)=aU k (fun a b=>A (σ a) b)\/aU k (fun a b=>A (ρ a) b)=- aU k (fun a b=>A (σ a) b))
 | 0,ρ,h,_=>by omega
 | N+1,ρ,hN,hR=>by
  by_cases hs:∀ a,a+1<k->ρ a<ρ (a+1)
  ·exact .inr ⟨ρ,hR,hs,.inl rfl⟩
  ·obtain ⟨i,hi⟩:=Classical.not_forall.1 hs;have sR:i+1<k:=by
    false_or_by_contra
    rename_i hn;exact hi (fun h=>absurd h hn)
   have hi2:¬ ρ i<ρ (i+1):=fun h=>hi (fun _=>h);by_cases he:ρ i=ρ (i+1)
   ·exact .inl (nB (M:=fun a b=>A (ρ a) b) (i:=i) (j:=i+1) (by omega) sR (by omega) (fun b _=>by rw [he]))
   ·have h9:=c6_ (k:=k) (R:=R) A N (fun a=>ρ (bN i a)) (by have:=e9_ (k:=k) (ρ:=ρ) (i:=i) (by omega) k sR (oJ _);omega) (fun a ha=>hR _ (by unfold bN;repeat' split <;> try omega));have:=M5_ (n:=k) (fun a b=>A (ρ a) b) (r:=i) sR;rw [show (fun a b=>A (ρ (bN i a)) b)=fun a b=>(fun a b=>A (ρ a) b) (bN i a) b from rfl,this] at h9;rcases h9 with h | ⟨σ,h1,h2,h3⟩
    ·exact .inl (by grind)
    ·refine .inr ⟨σ,h1,h2,?_⟩;rcases h3 with h | h
     ·exact .inr (by grind)
     ·exact .inl (by grind)
theorem Z1J {k:Nat} {σ:Nat->Nat} (h:∀ a,a+1<k->σ a<σ (a+1)) (i:Nat):∀ j,i<j->j<k->σ i<σ j
 | 0,h1,_=>by omega
 | j+1,h1,h2=>by
  have h3:=h j h2;by_cases e:i=j
  ·subst e;exact h3
  ·have:=Z1J h i j (by omega) (by omega);omega
theorem Z5x {n k B:Nat} {l:List (List Int)} (hn:n<7) (hk:k<=n) (hB:∀ J∈aJ n k,(qZ l k J).natAbs<=B) (S:Nat->Nat) (hS:∀ b,b<k->S b<n):∃ y:Int,bp k S (aG l)=(y:Rat)/\y.natAbs<=B:=by
 have e:bp k S (aG l)=aU k (fun a b=>(fun c r=>(((aG l r).getD c 0:Int):Rat)) (S a) b):=by
  unfold bp;rw [<- eW];rfl
 rw [e];rcases c6_ (fun c r=>(((aG l r).getD c 0:Int):Rat)) (R:=n) (fg k S k+1) S (Nat.lt_succ_self _) hS with h | ⟨σ,h1,h2,h3⟩
 ·exact ⟨0,h,by simp⟩
 ·have va:∀ i j,i<j->j<k->σ i<σ j:=fun i j=>Z1J h2 i j;have hJ:=l_ hn hk h1 va k (oJ _);have e2:aU k (fun a b=>(fun c r=>(((aG l r).getD c 0:Int):Rat)) (σ a) b)=qQ l k (eZ σ k):=by
   unfold qQ bp;rw [<- eW k (cU _ _)];refine dP fun a b ha hb=>?_;unfold cU;show _=(((aG l b).getD ((aT (eZ σ k)).getD a 0) 0:Int):Rat);rw [J8_ hn hk h1 va a ha]
  rw [e2,<- Z4k] at h3;rcases h3 with h | h
  ·exact ⟨_,h,hB _ hJ⟩
  ·exact ⟨-qZ l k (eZ σ k),by rw [h,Rat.intCast_neg],by rw [Int.natAbs_neg];exact hB _ hJ⟩
theorem l2_ {n B:Nat} {R:List (List Int)} {ps:Nat->Nat} (hn:n<7) (hR:iD n R ps) (hkn:R.length<=n) (hB:∀ J∈aJ n R.length,(qZ R R.length J).natAbs<=B):∀ i,i<R.length->cw (R.length*B) (aG R i):=by
 have hmin:=fun S hS=>Z5x (l:=R) hn hkn hB S hS;obtain ⟨k,hk⟩:∃ k,k=R.length:=⟨_,rfl⟩;have hpp:=I8_ hR _ (oJ R.length);have hP:=j0_ hR _ (oJ R.length);rw [<- hk] at hpp hP hmin;have key:∀ i c,i<R.length->c<n->(aF R i c).natAbs<=R.length*B:=by
  intro i c hi vi;rw [<- hk] at hi |-
  obtain ⟨x,hx⟩:=g0_ (k:=k) (cU ps (aG R)) (fun a b qF ha=>by
   have h:aF R a (ps b)=0:=hR.2.zero a (by omega) (ps b) (hR.2.mono b a qF (by omega));show ((aF R a (ps b):Int):Rat)=0
   rw [h];rfl) (fun a ha h=>by
   have h1:((aF R a (ps a):Int):Rat)=0:=h;have h2:aF R a (ps a)=0:=by exact_mod_cast h1
   have:=hR.2.pos a (by omega);omega) (fun a=>((aF R a c:Int):Rat)) k (oJ _)
  have sJ:∀ r,r<k->bp k (fun b=>if b=r then c else ps b) (aG R)=x r*(fW R ps k:Rat):=by
   intro r hr;rw [<- hP];have e1:bp k (fun b=>if b=r then c else ps b) (aG R)=aU k (fun a b=>if b=r then (0:Rat)+aQ k (fun l=>x l*cU ps (aG R) a l) else cU ps (aG R) a b):=by
    unfold bp;refine dP fun a b ha hb=>?_;by_cases vM:b=r
    ·rw [if_pos vM,<- hx a (by omega) ha];show (((aG R a).getD (if b=r then c else ps b) 0:Int):Rat)=_;rw [if_pos vM];show ((aF R a c:Int):Rat)=_;grind
    ·rw [if_neg vM];show (((aG R a).getD (if b=r then c else ps b) 0:Int):Rat)=_;rw [if_neg vM];rfl
   rw [e1,Z8_ (cU ps (aG R)) hr (fun _=>0) k x (fun l a=>cU ps (aG R) a l)];have e2:aU k (fun a b=>if b=r then (0:Rat) else cU ps (aG R) a b)=0:=by
    rw [<- eW];exact jl (r:=r) hr fun b _=>if_pos rfl
   rw [e2,w8_ (k:=r) hr fun l hl hne=>?_]
   ·have e3:aU k (fun a b=>if b=r then cU ps (aG R) a r else cU ps (aG R) a b)=bp k ps (aG R):=by
     unfold bp;refine dP fun a b _ _=>?_;by_cases vM:b=r
     ·rw [if_pos vM,vM]
     ·rw [if_neg vM]
    rw [e3];grind
   ·have e4:aU k (fun a b=>if b=r then cU ps (aG R) a l else cU ps (aG R) a b)=0 :=
     X0_ hr hl (fun h=>hne h.symm) fun b _=>by rw [if_pos rfl,if_neg hne]
    rw [e4];grind
  have hsum:((fW R ps k:Int):Rat)*((aF R i c:Int):Rat)=aQ k fun l=>bp k (fun b=>if b=l then c else ps b) (aG R)*cU ps (aG R) i l:=by
   have K0:((aF R i c:Int):Rat)=aQ k fun l=>x l*cU ps (aG R) i l:=hx i (by omega) hi;rw [K0,<- kZ];refine di fun l hl=>?_;rw [sJ l hl];grind
  obtain ⟨z,hz1,hz2⟩:=Z2V (n:=k) (B:=B*(fW R ps k).natAbs) (f:=fun l=>bp k (fun b=>if b=l then c else ps b) (aG R)*cU ps (aG R) i l) fun l hl=>by
   obtain ⟨y,rm,qg⟩:=hmin (fun b=>if b=l then c else ps b) (fun b hb=>by
    show (if b=l then c else ps b)<n
    split
    ·exact vi
    ·exact hR.2.lt b (by omega))
   refine ⟨y*aF R i (ps l),?_,?_⟩
   ·rw [rm,Rat.intCast_mul];rfl
   ·rw [Int.natAbs_mul];refine Nat.mul_le_mul qg ?_;have h5:=hpp.2 l hl;have h6:=hR.2.pos l (by omega);have h7:(aF R i (ps l)).natAbs<=(aF R l (ps l)).natAbs:=by
     rcases Nat.lt_trichotomy i l with h | h | h
     ·have:=hR.2.red i l h (by omega);omega
     ·rw [h];exact oJ _
     ·rw [hR.2.zero i (by omega) (ps l) (hR.2.mono l i h (by omega))];simp
    omega
  rw [hz1] at hsum;have he:fW R ps k*aF R i c=z:=by exact_mod_cast hsum
  rw [<- he,Int.natAbs_mul,<- Nat.mul_assoc,Nat.mul_comm] at hz2;exact Nat.le_of_mul_le_mul_right hz2 (by omega)
 intro i hi y hy;obtain ⟨c,hc⟩:=List.getElem?_of_mem hy;have vi:c<n:=by have:=(n_.1 hc).1;rw [hR.1 i hi] at this;exact this
 have:=key i c hi vi;unfold aF at this;rw [oC,hc] at this;exact this
theorem Z1B {n r b F:Nat} {m:List (List Int)} (K2:bS n m) (hb:∀ i,i<m.length->cw (10^b) (aG m i)) (hr:m.length<=r\/n<=r) (h1:(gN r b 0).1+1<=400000000) (h2:(gN r b 0).2+1<=400000000) (hF:10^(gN r b 0).1<F)
  (qL:∀ T:List (List Int),bS n T->cH n (bD 0 m) (bD 0 T)->m.length<=T.length) :
  ∃ R ps,kH n F m=some R/\R.length=m.length/\iD n R ps/\(∀ i,i<R.length->cw (10^(gN r b 0).2) (aG R i))/\cH n (bD 0 m) (bD 0 R):=by
 obtain ⟨m',d',ps,q1,q2,q3,q4,q5,q6,q7⟩:=A6_ (n:=n) (F:=F) (oJ 400000000) n 0 0 r b 0 m (fun _=>0) (by omega) K2 (fun i _ hi=>hb i hi) (fun i hi _=>by omega)
  ⟨fun i hi=>by omega,fun i j _ hj=>by omega,fun i hi=>by omega,fun i hi=>by omega,fun i j _ hj=>by omega,fun i _ _ c' hc=>by omega⟩ (by omega) h1 h2 hF
 rw [Nat.zero_add] at q6;have hlen:(m'.take d').length=d':=by rw [oF];omega
 have hW:bS n (m'.take d'):=fun i hi=>by rw [hlen] at hi;rw [R1_ hi];exact q4 i (by omega)
 have hsp:cH n (bD 0 m') (bD 0 (m'.take d')):=by
  constructor
  ·rintro x ⟨i,-,h2,rfl⟩;by_cases hi:i<d'
   ·rw [<- R1_ (m:=m') hi];exact .mem (bf (by omega) (by omega))
   ·rw [d7_ (q4 i h2) (fun c hc=>q6.rest i (by omega) h2 c hc)];exact .zero
  ·rintro x ⟨i,-,h2,rfl⟩;rw [hlen] at h2;rw [R1_ h2];exact .mem (bf (by omega) (by omega))
 have hd:m.length<=d':=by rw [<- hlen];exact qL _ hW (q7.trans hsp)
 have hd2:d'=m'.length:=by omega
 refine ⟨m',ps,by unfold kH;rw [q1];rfl,q2,⟨q4,by rw [<- hd2];exact q6⟩,fun i hi=>q5 i (by omega) hi,q7⟩
def fj (n k:Nat) (l:List (List Int)):List Int:=(aJ n k).map (qZ l k)
theorem l9_ {n k e F F2 B:Nat} {X:List Int} (hn:n<7) (hk:k<=n) (tH:X.length=(aJ n k).length) (hX:∀ x∈X,x.natAbs<=10^e) (MD:∀ x∈X,x.natAbs<=B) (h0:az X≠0)
  (hF:10^eN e (bG n k).length<F) (hE:eN e ((bG n k).length+1)+1<=400000000) {R:List (List Int)} (hR:ei F n k X=some R) (hK:Z6I n k (eN e (bG n k).length) X R) (hRk:R.length=k)
  (g1:(gN n (eN e (bG n k).length) 0).1+1<=400000000) (g2:(gN n (eN e (bG n k).length) 0).2+1<=400000000) (yI:10^(gN n (eN e (bG n k).length) 0).1<F2) :
  ∃ l ps,kH n F2 R=some l/\l.length=k/\iD n l ps/\(∀ i,i<l.length->cw (k*B) (aG l i))/\az (fj n k l)=1/\cO X=cO (fj n k l)/\∀ x∈fj n k l,x.natAbs<=B:=by
 obtain ⟨l,ps,f1,f2,f3,-,f5⟩:=Z1B (F:=F2) hK.wid hK.bnd (.inr (oJ n)) g1 g2 yI hK.free;have hlk:l.length=k:=by rw [f2,hRk]
 have hH:=f3.2;rw [hlk] at hH;have rZ:az (fj n k l)=1:=by
  have:=Z1T hn hX hF hE hR f3.1 f5 f2 (az (fj n k l):Int) (fun J hJ=>by
   rw [hlk] at hJ |-;obtain ⟨z,hz⟩:=L9_ (X:=fj n k l) (x:=qZ l k J) (List.mem_map.2 ⟨J,hJ,rfl⟩)
   exact ⟨z,by rw [Int.mul_comm];exact hz⟩)
  simpa using this
 have hP:=l_ hn hk hH.lt hH.mono k (oJ _);have hb:qZ l k (eZ ps k)≠0:=by
  intro h9;have e1:qQ l k (eZ ps k)=bp k ps (aG l):=by
   unfold qQ bp;refine dP fun a b ha hb=>?_;unfold cU;show (((aG l a).getD ((aT (eZ ps k)).getD b 0) 0:Int):Rat)=_;rw [J8_ hn hk hH.lt hH.mono b hb]
  have e2:=j0_ f3 k (by omega);have e3:=(I8_ f3 k (by omega)).1;rw [<- Z4k,h9,e2] at e1;have:fW l ps k=0:=by exact_mod_cast e1.symm
  omega
 have hprop:=Z5y (l:=l) (X:=X) hn hk hH.lt hH.mono hH.zero (fun i hi=>by have:=hH.pos i hi;omega) (fun i hi r hr=>by
  obtain ⟨j,Cz⟩:=List.getElem?_of_mem hr;have hj:=(n_.1 Cz).1;have hjr:=gj Cz;have:=((hK.ann _).1 ((f5.iff _).2 (.mem (bf (Nat.zero_le i) (by omega))))).2 j hj
  rw [hjr] at this;exact this)
 obtain ⟨c,hc⟩:=Z2u (X:=X) (q:=fj n k l) (a:=ft n k X (eZ ps k)) (b:=qZ l k (eZ ps k)) (by unfold fj;rw [List.length_map,tH]) hb rZ (fun i x y hx hy=>by
  unfold fj at hy;rw [oE,Option.map_eq_some_iff] at hy;obtain ⟨J,hJ,rfl⟩:=hy;have h9:=hprop J (oD hJ);have hil:=(n_.1 hJ).1;have hpl:be n k J=i:=by
   have h:=of_decide_eq_true (List.all_eq_true.1 (p1_ n hn k (by omega)) i (List.mem_range.2 hil));rw [oC,hJ] at h;exact h
  have rN:ft n k X J=x:=by unfold ft;rw [hpl,oC,hx];rfl
  rw [rN] at h9;exact h9)
 have xR:c≠0:=by
  intro e9;apply h0;rw [hc,U2_,e9];simp
 have GP:cO X=cO (fj n k l):=by rw [hc];exact Z3g xR rZ
 have FP:∀ J∈aJ n k,(qZ l k J).natAbs<=B:=by
  intro J hJ;have hm:c*qZ l k J∈X:=by rw [hc];exact List.mem_map.2 ⟨_,List.mem_map.2 ⟨J,hJ,rfl⟩,rfl⟩
  have h9:=MD _ hm;rw [Int.natAbs_mul] at h9;exact oI (Nat.le_mul_of_pos_left _ (by omega)) h9
 refine ⟨l,ps,f1,hlk,f3,?_,rZ,GP,fun x hx=>by
  obtain ⟨J,hJ,rfl⟩:=List.mem_map.1 hx
  exact FP J hJ⟩
 have:=l2_ hn f3 (by omega) (B:=B) (by rw [hlk];exact FP);rw [hlk] at this |-;exact this
theorem Z5u:∀ k,k<7->bH k k=[List.range k]:=by decide +kernel
theorem Z3X {n k:Nat} {l:List (List Int)} (hn:n<7) (hk:k<=n) (hl:l.length=k) (hc:bY l=n):dQ l k=fj n k l:=by
 unfold dQ fj;rw [hl,hc,Z5u k (by omega),<- nj hn hk];show (List.map _ ((aJ n k).map aT))++[]=_;rw [List.append_nil,List.map_map];refine List.map_congr_left fun J hJ=>?_;show ea l k (List.range k) (aT J)=qZ l k J;have hlen:(aT J).length=k:=by
  have h9:aT J∈bH n k:=by rw [<- nj hn hk];exact List.mem_map_of_mem hJ
  exact (jY (by omega) hk).1.len _ h9
 unfold ea qZ;rw [Z29 (by simp) hlen];congr 1;unfold qQ bp;refine dP fun a b ha hb=>?_;rw [nO];unfold cU aW aG;rw [oC (l:=List.range k),List.getElem?_range ha];rfl
def sI (f:Nat->Int):Nat->Int
 | 0=>0
 | n+1=>sI f n+f n
theorem d8_ {f g:Nat->Int}:∀ {n:Nat},(∀ i,i<n->f i=g i)->sI f n=sI g n
 | 0,_=>rfl
 | n+1,h=>by rw [sI,sI,d8_ fun i hi=>h i (by omega),h n (by omega)]
theorem w1_ {f:Nat->Int}:∀ {n:Nat},(∀ i,i<n->f i=0)->sI f n=0
 | 0,_=>rfl
 | n+1,h=>by rw [sI,w1_ fun i hi=>h i (by omega),h n (by omega)];rfl
theorem Z5D {f:Nat->Int} {p:Nat}:∀ {n:Nat},p<n->(∀ i,i<n->i≠p->f i=0)->sI f n=f p
 | 0,h,_=>absurd h (by omega)
 | n+1,h,h0=>by
  rw [sI];by_cases e:p=n
  ·subst e;rw [w1_ fun i hi=>h0 i (by omega) (by omega)];omega
  ·rw [Z5D (by omega) fun i hi hne=>h0 i (by omega) hne,h0 n (by omega) (fun e2=>e e2.symm)];omega
theorem Z0X (l:List Int) (p q:Nat) (x:Int) (hq:q<l.length):(gM l p x).getD q 0=l.getD q 0+if p=q then x else 0:=by
 unfold gM;rw [oC,oV];by_cases h:p=q
 ·subst h;rw [if_pos rfl,if_pos rfl,if_pos hq];rfl
 ·rw [if_neg h,if_neg h,<- oC];omega
theorem Z3t {l m:List Int} (h:l.length=m.length) (hg:∀ i,i<l.length->l.getD i 0=m.getD i 0):l=m:=by
 apply List.ext_getElem h;intro i h1 h2;have:=hg i h1;rw [oC,oC,n9 h1,n9 h2] at this;exact this
theorem Z1D (f:Nat->Int) (l:List Nat) (i:Nat) (hi:i<l.length):(l.map f).getD i 0=f (l.getD i 0):=by
 rw [oC,oC,oE,n9 hi];rfl
def Z4V (n a b i k:Nat):Int:=if (aJ n a).getD i 0 &&& (aJ n b).getD k 0≠0 then 0 else if cK ((aJ n a).getD i 0) ((aJ n b).getD k 0)=true then -1 else 1
def Z4U (n a b i k:Nat):Nat:=be n (a+b) ((aJ n a).getD i 0 ||| (aJ n b).getD k 0)
def ll (n a b i k p:Nat):Int:=if Z4U n a b i k=p then Z4V n a b i k else 0
theorem c2_ (x:Int) (o:Bool):bu x o=(if o=true then -1 else 1)*x:=by
 unfold bu;split <;> omega
theorem Z4y {n a b:Nat} {A B acc:List Int} {i k p:Nat} (hp:p<acc.length):(jZ n a b A B i k acc).getD p 0=acc.getD p 0+ll n a b i k p*(A.getD i 0*B.getD k 0):=by
 unfold jZ ll Z4V Z4U;by_cases h:(aJ n a).getD i 0 &&& (aJ n b).getD k 0≠0
 ·rw [if_pos (.inl h),if_pos h];simp
 ·by_cases h1:A.getD i 0=0
  ·rw [if_pos (.inr (.inl h1)),h1];simp
  ·by_cases h2:B.getD k 0=0
   ·rw [if_pos (.inr (.inr h2)),h2];simp
   ·rw [if_neg (by rintro (e | e | e);exact h e;exact h1 e;exact h2 e),Z0X _ _ _ _ hp,if_neg h,c2_]
    split
    ·rfl
    ·simp
theorem Z2I {n a b:Nat} {A B acc:List Int} {i p:Nat} (hp:p<acc.length):∀ K,(db n a b A B i acc K).getD p 0=acc.getD p 0+sI (fun k=>ll n a b i k p*(A.getD i 0*B.getD k 0)) K
 | 0=>by simp [db,sI]
 | K+1=>by
  rw [db,Z4y (by rw [L3_];exact hp),Z2I hp K,sI];omega
theorem C3_ {n a b:Nat} {A B:List Int} {p:Nat} (hp:p<(aJ n (a+b)).length):∀ I,(cV n a b A B I).getD p 0=sI (fun i=>sI (fun k=>ll n a b i k p*(A.getD i 0*B.getD k 0)) (aJ n b).length) I
 | 0=>by
  rw [cV,oC,List.getElem?_replicate,if_pos hp];rfl
 | I+1=>by
  rw [cV,Z2I (by rw [V6_];exact hp),C3_ hp I,sI]
theorem Z4i {n a b:Nat} {A B:List Int} {p:Nat} (hp:p<(aJ n (a+b)).length):(gh n a b A B).getD p 0=sI (fun i=>sI (fun k=>ll n a b i k p*(A.getD i 0*B.getD k 0)) (aJ n b).length) (aJ n a).length:=C3_ hp _
theorem Z2t (n a b:Nat) (A B:List Int):(gh n a b A B).length=(aJ n (a+b)).length:=V6_ _ _ _ _ _ _
def Z5K (n k i b p:Nat):Int:=if ((aJ n (k+1)).getD p 0).testBit i=true/\b=be n k ((aJ n (k+1)).getD p 0 ^^^ (1 <<< i)) then (if cK (1 <<< i) ((aJ n (k+1)).getD p 0 ^^^ (1 <<< i))=true then -1 else 1) else 0
def Z6F (n k:Nat):Bool:=(List.range n).all fun i=>(List.range (aJ n (k+1)).length).all fun p=>((List.range (aJ n k).length).all fun b=>decide (ll n 1 k i b p=Z5K n k i b p)) && (!((aJ n (k+1)).getD p 0).testBit i || decide (be n k ((aJ n (k+1)).getD p 0 ^^^ (1 <<< i))<(aJ n k).length))
theorem Z34:∀ n,n<5->∀ k,k<n->Z6F n k=true:=by decide +kernel
theorem Z2i:∀ n,n<7->(aJ n 1).length=n:=by decide +kernel
theorem Z35 (n i c:Nat) (hi:i<n):(cW n i).getD c 0=if c=i then 1 else 0:=by
 unfold cW;rw [oC];by_cases h:c=i
 ·subst h;rw [List.getElem?_set_self (by simpa using hi),if_pos rfl];rfl
 ·rw [List.getElem?_set_ne (fun e=>h e.symm),List.getElem?_replicate,if_neg h]
  split <;> rfl
theorem Z36 {n k i:Nat} (hn:n<5) (hk:k<n) (hi:i<n) (X:List Int):gh n 1 k (cW n i) X=(aJ n (k+1)).map (cn n k X i):=by
 have hlen:(gh n 1 k (cW n i) X).length=(aJ n (k+1)).length:=by rw [Z2t,Nat.add_comm 1 k]
 refine Z3t (by rw [hlen,List.length_map]) fun p hp=>?_;rw [hlen] at hp;rw [Z4i (by rw [Nat.add_comm 1 k];exact hp),Z1D _ _ _ hp];have hB:=List.all_eq_true.1 (List.all_eq_true.1 (Z34 n hn k hk) i (List.mem_range.2 hi)) p (List.mem_range.2 hp);rw [Bool.and_eq_true] at hB
 rw [Z5D (p:=i) (by rw [Z2i n (by omega)];exact hi) (fun a ha MB=>w1_ fun b hb=>by
  rw [Z35 n i a hi,if_neg MB];simp)]
 rw [d8_ (g:=fun b=>Z5K n k i b p*X.getD b 0) fun b hb=>by
  rw [of_decide_eq_true (List.all_eq_true.1 hB.1 b (List.mem_range.2 hb)),Z35 n i i hi,if_pos rfl,Int.one_mul]]
 obtain ⟨s,hs⟩:∃ s,(aJ n (k+1)).getD p 0=s:=⟨_,rfl⟩;have hB2:=hB.2;unfold Z5K;rw [hs] at hB2 |-;by_cases hb:s.testBit i=true
 ·rw [hb,Bool.not_true,Bool.false_or,decide_eq_true_eq] at hB2;rw [Z5D (p:=be n k (s ^^^ (1 <<< i))) hB2 (fun b hb2 hne=>by rw [if_neg (fun h=>hne h.2)];simp),if_pos ⟨hb,rfl⟩,kM hb,c2_]
 ·rw [w1_ fun b _=>by rw [if_neg (fun h=>hb h.1)];simp,lG (by simpa using hb)]
theorem Z3p:∀ n,n<5->∀ k,k<=n->eN 8 ((bG n k).length+1)+1<=400000000/\(gN n (eN 8 (bG n k).length) 0).1+1<=400000000/\(gN n (eN 8 (bG n k).length) 0).2+1<=400000000:=by decide +kernel
theorem V9_:∀ n,n<5->∀ k,k<=n->(bG n k).length<=12:=by decide +kernel
theorem Z4j:∀ n,n<7->fj n 0 []=[1]:=by decide +kernel
theorem k4_:∀ n,n<5->∀ i,i<n->dQ [cW n i] 1=cW n i:=by decide +kernel
theorem z8_ {n k i:Nat} (X:List Int) (hi:i<n):(cJ n k X)[i]?=some ((bG n k).map (cn n k X i)):=by
 unfold cJ;rw [oE,List.getElem?_range hi];rfl
theorem Z4K {n k B:Nat} {X:List Int} (hn:n<5) (hk:k<=n) (tH:X.length=(aJ n k).length) (hX:∀ x∈X,x.natAbs<=B) (hB:B<=100000000) :
  ∃ F F2 R,ei F n k X=some R/\R.length+eO (bJ (cJ n k X)) (bG n k).length=n/\(az X≠0->R.length=k->∃ l ps,kH n F2 R=some l/\l.length=k/\iD n l ps/\(∀ r∈l,r.length=n/\∀ x∈r,x.natAbs<=k*B)/\az (dQ l k)=1/\cO X=cO (dQ l k)/\(dQ l k).length=(aJ n k).length/\∀ x∈dQ l k,x.natAbs<=B):=by
 obtain ⟨b1,b2,b3⟩:=Z3p n hn k hk;have Bl:∀ x∈X,x.natAbs<=10^8:=fun x hx=>oI (hX x hx) hB;obtain ⟨F,hF⟩:∃ F,10^eN 8 (bG n k).length<F:=⟨_,Nat.lt_succ_self _⟩;obtain ⟨F2,yI⟩:∃ F,10^(gN n (eN 8 (bG n k).length) 0).1<F:=⟨_,Nat.lt_succ_self _⟩;obtain ⟨R,hR,hK⟩:=Z5k (n:=n) (k:=k) Bl hF b1;refine ⟨F,F2,R,hR,Z1U Bl hF b1 R hR,fun h0 hRk=>?_⟩;obtain ⟨l,ps,f1,f2,f3,f4,f5,f6,f7⟩:=l9_ (B:=B) (by omega) hk tH Bl hX h0 hF b1 hR hK hRk b2 b3 yI;have hq:dQ l k=fj n k l:=by
  by_cases h1:1<=k
  ·refine Z3X (by omega) hk f2 ?_;cases l with
   | nil=>simp at f2;omega
   | cons r l=>exact f3.1 0 (by simp)
  ·obtain rfl:k=0:=by omega
   obtain rfl:=List.eq_nil_of_length_eq_zero f2;rw [Z4j n (by omega)];decide +kernel
 refine ⟨l,ps,f1,f2,f3,fun r hr=>⟨?_,?_⟩,by rw [hq];exact f5,by rw [hq];exact f6,by rw [hq];unfold fj;rw [List.length_map],by rw [hq];exact f7⟩
 ·obtain ⟨i,hi⟩:=List.getElem?_of_mem hr;have h9:=f3.1 i (n_.1 hi).1;rw [gj hi] at h9;exact h9
 ·obtain ⟨i,hi⟩:=List.getElem?_of_mem hr;have h9:=f4 i (n_.1 hi).1;rw [gj hi] at h9;exact h9
theorem e1_ {n k B:Nat} {X:List Int} (hn:n<5) (hk:k<n) (hX:∀ x∈X,x.natAbs<=B) (hB:B<=100000000):bw (cJ n k X)=0/\bY (cJ n k X)=(bG n k).length/\(cJ n k X).length=n:=by
 have hl:(cJ n k X).length=n:=by unfold cJ;simp
 refine ⟨w9_ (n:=(bG n k).length) (by omega) fun r hr=>?_,?_,hl⟩
 ·unfold cJ at hr;obtain ⟨i,-,rfl⟩:=List.mem_map.1 hr;refine ⟨by simp,V9_ n hn k (by omega),fun a ha=>?_⟩;obtain ⟨s,-,rfl⟩:=List.mem_map.1 ha;have h1:(cn n k X i s).natAbs<=B:=by
   unfold cn
   split
   ·rw [mQ];exact eA.getD (N:=B) hX _
   ·simp
  omega
 ·have h0:=z8_ (k:=k) X (show 0<n by omega);cases hA:cJ n k X with
  | nil=>rw [hA] at hl;simp at hl;omega
  | cons r l=>rw [hA] at h0;simp at h0;subst h0;simp [bY]
theorem g1_ {xss:List (List Int)} (hE:bw xss=0):(aw xss (bY xss)).lead.length=jy xss:=by
 rw [(kr (K:=1000000000) (by omega) (i9_ hE) (mR hE) (bY xss)).lead];rfl
section
variable {P:Program} {ops:Array Oper} {Q:Exit->Act->World->Prop} {md:Region.Mode} {S:World->Prop} {z:Nat}
end
theorem bQ.one {w:World} {b o c:Nat} {v:Value} {r:List Int} (hc:w.cell? ⟨b,o,none⟩=some v) (hv:au w v r) (h1:1<=c) (h2:c<=maxLen):bQ w (.slice (some ⟨b,o,none⟩) 1 c) [r]:=by
 have hb:=A3_ hc;refine ⟨[[v]],rfl,by simp,⟨some ⟨b,o,none⟩,c,rfl,h1,h2,(fun h=>by cases h),fun _=>⟨b,o,rfl,hb,fun j u hu=>?_⟩⟩,?_⟩
 ·have hj:j=0:=by have:=(n_.1 hu).1;simpa using this
  subst hj;simp at hu;subst hu;exact hc
 ·intro j u x hu hx;have hj:j=0:=by have:=(n_.1 hu).1;simpa using this
  subst hj;simp only [oP,Option.some.injEq] at hu hx;subst hu;subst hx;exact ⟨v,rfl,hv⟩
theorem W3_ (n k:Int) (X:List Int) (r:Value) (w:World) (h:aI 1 numC w r X) (hd:iB X) (ht:af w) :
  oW 38 #[.agg #[.int .i64 n,.int .i64 k,r]] w (.bool (decide (az X=0))):=by
 have HN:Hid (∀ W,aC w W->oW 41 #[.agg #[.int .i64 n,.int .i64 k,r]] W (.string (aD (az X:Int)))):=fun W hW=>Z6_ n k X r W (aI.ext numC.mono' h hW) hd (ht.ext hW);obtain ⟨a,c,rfl,-⟩:=aI.open h;obtain ⟨w1,o4,hE1,hs1,hb1⟩:=eT w (.int .i64 n) (.int .i64 k) (.slice a X.length c);have HE1:=n8 hE1;have k1:=aN hb1;have hz:=lz (az X:Int);have HD:Hid (decide ((az X:Int)=0)=decide (az X=0)):=by unfold Hid;congr 1;exact propext ⟨fun h=>by omega,fun h=>by omega⟩
 obtain ⟨s,hs⟩:∃ s,aD (az X:Int)=s:=⟨_,rfl⟩;rw [hs] at HN hz;clear h hd ht hs hs1 hE1
 go_enter func38,ntmps38
 go_wp2_with fail;refine (HN w1 HE1).mono ?_;rintro e w3 ⟨rfl,h3⟩;have HE3:Hid (aC w w3):=HE1.trans h3;clear h3 HN;go_wp2_with fail;go_ret;refine ⟨?_,HE3⟩;rw [<- HD.out]
 first | rfl | (rw [<- hz];rfl)
theorem H0_ {n k:Nat} {X:List Int} (hn:n<5) (hR:eB n k X) (h0:az X=0\/k=n) (u:Value) (w:World) (h:cL w u n k X) (ht:af w) :
  oW 37 #[u] w (.bool true):=by
 have qc:Hid (∀ W r,aC w W->aI 1 numC W r X->oW 38 #[.agg #[.int .i64 n,.int .i64 k,r]] W (.bool (decide (az X=0)))):=fun W r hW hr=>W3_ n k X r W hr hR.dig (ht.ext hW);have hkn:=hR.kn;obtain ⟨r,rfl,hr⟩:=h;have HR:=n8 hr;obtain ⟨a,c,rfl,-⟩:=aI.open hr;obtain ⟨mx,px⟩:∃ m,X.length=m:=⟨_,rfl⟩;rw [px] at HR |-;obtain ⟨w1,o4,hE1,hs1,hb1⟩:=eT w (.int .i64 n) (.int .i64 k) (.slice a mx c);have HE1:=n8 hE1;have HB1:=n8 hb1;have k1:=aN hb1;have HR1:=n8 (aI.ext numC.mono' HR hE1);obtain ⟨b1,hbb⟩:∃ b,decide (az X=0)=b:=⟨_,rfl⟩;rw [hbb] at qc;have HO:Hid (b1=true\/k=n):=by
  rcases h0 with h0 | h0
  ·left;rw [<- hbb];exact oS h0
  ·exact .inr h0
 clear hb1 hE1 hr hs1 px hbb ht hR h0
 go_enter func37,ntmps37
 go_wp2_with fail;refine (qc w1 _ HE1 HR1).mono ?_;rintro e w2 ⟨rfl,h2⟩;have HE2:Hid (aC w w2):=HE1.trans h2;have HB2:=n8 (aO HB1 h2);have k2:=aN HB2 0;have k3:=aN HB2 1;simp only [oQ,oO,oP] at k2 k3;clear h2 qc k1 o4;cases b1 with
 | true =>
  go_wp2_with fail;go_ret;exact ⟨rfl,HE2⟩
 | false =>
  obtain rfl:k=n:=by
   rcases HO.out with h | h
   ·cases h
   ·exact h
  go_wp2_with fail;go_ret;exact ⟨rfl,HE2⟩
theorem M1_ {α:Type} {K:gL α} {e:TypeId} {T2:TypeId} (wE:prog.underlying T2=some (TypeDesc.slice e)) (pL:(prog.info? e).map (fun i=>(i.zero,i.size,i.bytes))=some (some (.slice none 0 0),1,24)) (w:World) {ops:Array Oper} {o:Oper} {a:Act} {Q:Exit->Act->World->Prop} {L:Act->World->Prop} {E:Prop} (pf:o.guard=none)
  (s x:Operand) (ho:o.op=Op.call { callee:=Callee.builtin Builtin.append,args:=#[s,x],argTypes:=#[T2,T2] }) (ob base:Nat)
  (v:Value) (tags:List (Nat×Nat)) (m:List (List α)) (t:Nat×Nat) (r:List α) (u:Array Value) (T:TypeId) (hs:a.eval s=v) (hB:bO K e w ob base v tags m)
  (hx:a.eval x=.slice (some ⟨w.heap.size,0,none⟩) 1 1) (hu:u=#[iR t r.length]) (qU:r.length<=t.2) (ph:t.2<=9223372036854775807) (hR:K.R w t.1 r) (hb:base<=t.1) (hv:v.ownBlock≠some t.1) (hn:t.1∉tags.map (·.1))
  (hlen:m.length<1000000) (ow:ob<=w.heap.size)
  (h:∀ v' w',bO K e w' ob base v' (tags++[t]) (m++[r])->Below ob w w'->Hid (∃ g c,v'=.slice (some ⟨g,0,none⟩) (m.length+1) c)->L (a.put o.dst v') w') :
  if Region.wanted o (yielded ops a.tmps)=true then Oper.wp prog o a (w.alloc (.cells u T)) L Q else E:=by
 rw [if_pos (show Region.wanted o (yielded ops a.tmps)=true by simp [Region.wanted,pf])];exact Y5_ wE pL w s x ho ob base v tags m t r u T hs hB hx hu qU ph hR hb hv hn hlen ow h
theorem s4_ (w:World) (x y z:Value):(Instr.field 37 (.agg #[x,y,z]) 2).run prog w=.ok z w:=by kernel_rfl
theorem j7_ {n k:Nat} {X:List Int} (hn:n<5) (hR:eB n k X) (hX:∀ x∈X,x.natAbs<=100000000) (h0:az X≠0) (hk:k<n) (u:Value) (w:World) (h:cL w u n k X) (ht:af w) :
  oW 37 #[u] w (.bool (decide (n-jy (cJ n k X)=k))):=by
 obtain ⟨DP,DO,Gg⟩:=e1_ hn hk hX (oJ _);have qc:Hid (∀ W r,aC w W->aI 1 numC W r X->oW 38 #[.agg #[.int .i64 n,.int .i64 k,r]] W (.bool false)):=fun W r hW hr=>by
  have h9:=W3_ n k X r W hr hR.dig (ht.ext hW);rw [oR h0] at h9;exact h9
 have KU:Hid (∀ W,aC w W->Calls prog 83 #[.int .i64 n] W fun e w'=>∃ a c,e=.returned (.slice a n c)/\bQ w' (.slice a n c) (gD n n)/\aC W w'):=fun W hW=>(H1_ n (by omega) W).mono fun e w' ⟨v,tags,h1,h2,h3⟩=>by
  have h4:=h2.rows2 (Z5V n n);obtain ⟨a,c,rfl,-⟩:=aI.open h4;rw [z7_] at h1 h4;exact ⟨a,c,h1,h4,h3⟩
 obtain ⟨S,hS⟩:∃ S,(bG n k).length=S:=⟨_,rfl⟩;have tJ:bG n k=aJ n (k+1):=by unfold bG;rw [if_neg (by omega)]
 have FK:jy (cJ n k X)<=n:=by
  have h9:=g1_ DP;have h8:=(Y8_ (mR DP) (bY (cJ n k X))).2.2;rw [h9,Gg] at h8;exact h8
 have Aq:∀ wb,af wb->∀ u tags W,bO jv 29 W wb.heap.size wb.heap.size u tags (cJ n k X)->aC wb W->Calls prog 84 #[u,.int .i64 S] W fun e w'=>∃ b o cl al,e=.returned (.tuple #[.slice al (jy (cJ n k X)) cl,.string b,.bool o])/\jy (cJ n k X)<=cl/\cl<=9223372036854775807/\aC wb w':=fun wb LH u tags W hO hW =>
  (s2_ (cJ n k X) u tags S wb.heap.size wb W DP (by omega) (by omega) hO hW LH (oJ _)).mono fun e w' ⟨v,g1,g2,g3⟩=>by
   obtain ⟨al,cl,e1,e2,e3⟩:=g2.form;rw [show S=bY (cJ n k X) by omega,g1_ DP] at e1 e2;exact ⟨_,_,cl,al,by rw [g1,e1],e2,e3,g3⟩
 obtain ⟨rk,hrk⟩:∃ r,jy (cJ n k X)=r:=⟨_,rfl⟩;rw [hrk] at Aq FK |-;have HSL:=n8 hS;have HTR:Hid (∀ i,i<n->(cJ n k X)[i]?=some ((bG n k).map (cn n k X i))):=fun i hi=>z8_ X hi;have Es:Hid (∀ i,i<n->(cJ n k X).take (i+1)=(cJ n k X).take i++[gh n 1 k (cW n i) X]/\(gh n 1 k (cW n i) X).length=S):=fun i hi=>by
  rw [Z36 hn hk hi X,<- tJ,oG,z8_ X hi];exact ⟨rfl,by rw [List.length_map];exact hS⟩
 have hkn:=hR.kn;have HOF:Hid (∀ i,i<n->∀ v W,aC w W->bQ W v [cW n i]->Calls prog 19 #[v,.int .i64 n] W fun e w'=>∃ a c,e=.returned (.agg #[.int .i64 n,.int .i64 1,.slice a n c])/\aI 1 numC w' (.slice a n c) (cW n i)/\aC W w'):=fun i hi v W hW hv=>by
  have sZ:(cW n i).length=n:=by unfold cW;simp
  have yR:∀ x∈cW n i,x=0\/x=1:=fun x hx=>by
   unfold cW at hx;rcases List.mem_or_eq_of_mem_set hx with h | h
   ·exact .inl (List.mem_replicate.1 h).2
   ·exact .inr h
  have h9:=H2_ [cW n i] n v W hv (w9_ (n:=n) (by simp) fun r hr=>by
   rw [List.mem_singleton.1 hr]
   exact ⟨sZ,by omega,fun x hx=>by rcases yR x hx with h | h <;> omega⟩) (fun r hr=>by rw [List.mem_singleton.1 hr];exact sZ) (by simp;omega) (ht.ext hW)
  rw [show [cW n i].length=1 from rfl,k4_ n hn i hi,sZ] at h9;exact h9
 obtain ⟨k1,rq⟩:∃ k1:Nat,1+k=k1:=⟨_,rfl⟩;have HPR:Hid (∀ i,i<n->∀ a c r W,aC w W->aI 1 numC W (.slice a n c) (cW n i)->aI 1 numC W r X->Calls prog 43 #[.agg #[.int .i64 n,.int .i64 1,.slice a n c],.agg #[.int .i64 n,.int .i64 k,r]] W fun e w'=>∃ g cg,e=.returned (.agg #[.int .i64 n,.int .i64 k1,.slice (some ⟨g,0,none⟩) S cg])/\aC W w'/\W.heap.size<=g/\S<=cg/\cg<=9223372036854775807/\dJ w' g (gh n 1 k (cW n i) X)):=fun i hi a c r W hW ha hr=>by
  have sZ:(cW n i).length=n:=by unfold cW;simp
  have yR:∀ x∈cW n i,x.natAbs<=1:=fun x hx=>by
   unfold cW at hx;rcases List.mem_or_eq_of_mem_set hx with h | h
   ·rw [(List.mem_replicate.1 h).2];decide
   ·rw [h];decide
  have h9:=p8_ (n:=n) (ka:=1) (kb:=k) (A:=cW n i) (B:=X) (by omega) ⟨by omega,by omega,by rw [sZ,Z2i n (by omega)],fun x hx=>Nat.lt_of_le_of_lt (yR x hx) (by decide +kernel)⟩ hR (by omega) _ _ W ⟨_,rfl,ha⟩ ⟨_,rfl,hr⟩ (ht.ext hW);rw [(Es.out i hi).2,rq] at h9;exact h9
 obtain ⟨r,rfl,hr⟩:=h;have HR:=n8 hr;obtain ⟨a,c,rfl,-⟩:=aI.open hr;obtain ⟨mx,px⟩:∃ m,X.length=m:=⟨_,rfl⟩;rw [px] at HR |-;obtain ⟨w1,o4,hE1,hs1,hb1⟩:=eT w (.int .i64 n) (.int .i64 k) (.slice a mx c);have HE1:=n8 hE1;have HB1:=n8 hb1;have k1:=aN hb1;have HEL0:=n8 Aq;have HT:=n8 ht;have B6:Hid (w1.heap.size=w.heap.size+1):=hs1;have HR1:=n8 (aI.ext numC.mono' HR hE1);have HKL:=n8 Gg;have OT:Hid (S<=12):=by unfold Hid;rw [<- hS];exact V9_ n hn k (by omega)
 have q0:((k:Int) == (n:Int))=false:=by simp;omega
 have HN5:=n8 hn;clear hb1 hE1 hr hs1 px ht hR h0 Aq DP DO Gg hS tJ hrk hX rq
 go_enter func37,ntmps37
 go_wp2_with fail;refine (qc w1 _ HE1 HR1).mono ?_;rintro e w2 ⟨rfl,h2⟩;have HE2:Hid (aC w w2):=HE1.trans h2;have A0:Hid (aC w1 w2):=h2;have HB2:=n8 (aO HB1 h2);have k2:=aN HB2 0;have k3:=aN HB2 1;simp only [oQ,oO,oP] at k2 k3;clear h2 qc k1 o4;go_wp2_with fail;refine (KU w2 HE2).mono ?_;rintro e w3 ⟨a3,c3,rfl,DT,h3⟩;obtain ⟨a9,c9,wD,i1,i2,-,Eg⟩:=bT.open DT;rw [z7_] at wD i1;simp only [Value.slice.injEq] at wD;obtain ⟨rfl,-,rfl⟩:=wD;obtain ⟨b3,o3,rfl,-,hcell⟩:=Eg (by intro e;have:=congrArg List.length e;rw [z7_] at this;simp at this;omega);have HE3:Hid (aC w w3):=HE2.trans h3;have HEL:=n8 (HEL0 w3 (HT.ext HE3));have He:Hid (w.heap.size<w3.heap.size):=oH (dS HB1) (A0.trans h3).size;have HB3:=n8 (aO HB2 h3);have HCL:=n8 hcell;have HI1:=n8 i1;have HI2:=n8 i2;have hi2:=i2;unfold maxLen at hi2;clear h3 KU HEL0 k2 k3 DT Eg hcell i2;go_wp2_with fail
 go_loopw [3,5] (fun m t wr=>∃ (i:Nat) (v0:Value) (tags:List (Nat×Nat)),i<=n/\m=v0/\t=.int .i64 (i:Int)/\Hid (aC w3 wr)/\Hid (bO jv 29 wr w3.heap.size w3.heap.size v0 tags ((cJ n k X).take i))) (fun _ t _=>n+1-(intOf t).toNat)
 case atStart=>exact ⟨0,_,[],by omega,rfl,by simp,aC.refl _,bO.nil _ _ _ _ _⟩
 case round =>
  obtain ⟨i,vm,tags,hi,K5,rfl,HX,HO⟩:=hrel;obtain rfl:=K5.symm;obtain ⟨wo,rfl⟩:∃ wo:World,wo=wr:=⟨_,rfl⟩;have HE:Hid (aC w wo):=HE3.trans HX;have HBR:=n8 (aO HB3 HX);have z1:=aN HBR 0;have z2:=aN HBR 1;simp only [oQ,oO,oP] at z1 z2;by_cases hlt:i<n
  ·have sZ:(gD n n)[i]?=some (cW n i):=by unfold gD cW;rw [oE,List.getElem?_range hlt];rfl
   obtain ⟨vr,qu,sJ⟩:=HCL i (cW n i) sZ;have KL:Hid (∀ W cc,aC w3 W->1<=cc->cc<=maxLen->bQ W (.slice (some ⟨b3,o3+i,none⟩) 1 cc) [cW n i]):=fun W cc hW h1 h2=>bQ.one (hW.cell sJ) (qu.ext hW) h1 h2;obtain ⟨RW,Bp⟩:∃ R,gh n 1 k (cW n i) X=R:=⟨_,rfl⟩;obtain ⟨ym,Gl⟩:=Es i hlt;have HOi:=n8 (HOF i hlt);have HPi:=n8 (HPR i hlt);rw [Bp] at ym Gl HPi;have HTK:=n8 ym;have HRL:=n8 Gl;have HRX:Hid (∀ W,aC wo W->aI 1 numC W (.slice a mx c) X):=fun W hW=>aI.ext numC.mono' HR (HE.trans hW);have GU:1<=c3-i:=by have:=HI1.out;omega
   have GS:c3-i<=maxLen:=by have:=HI2.out;omega
   have HRU:=n8 (fun W (hW:aC wo W)=>KL W (c3-i) (HX.trans hW) GU GS);have HLL:Hid (((cJ n k X).take i).length<1000000):=by have:=HKL.out;unfold Hid;rw [oF];omega
   have e1:IntKind.i64.wrap ((i:Int)+1)=((i+1:Nat):Int):=by rw [IntKind.wrap_i64];omega
   have hin:(i:Int)<(n:Int):=by omega
   have qf:0<=(i:Int)+1:=by omega
   have hd2:(i:Int)+1<=(c3:Int):=by have:=HI1.out;omega
   have wK:¬ c3=i:=by have:=HI1.out;omega
   clear sZ qu sJ KL ym Gl Bp Es HOF HPR HCL
   go_upto_region 10 with fail
   refine iP (fun w'=>w'.cell? ⟨w.heap.size,0,none⟩=some (.int .i64 n)/\Hid (aC wo w')) 13 (by kernel_rfl) ⟨(aC.drew wo).cell z1,aC.drew wo⟩ (fun oX=>?_);refine rA [0,1,2,3,4,5,6,7] ?_
   iterate 8 ((first|(refine rL (v:=?_) (by rfl) (Or.inl ⟨by rfl,?_⟩) ?_;rotate_left;·((intro w' oz);(try dsimp only at oz);(try go_simp);(try with_reducible rfl)))|(refine rW (v:=?_) (by rfl) (Or.inl ⟨by rfl,?_⟩) ?_;rotate_left;·((intro w');(try go_simp);(try with_reducible rfl))));(try simp only [Act.put,aK,aL,aM]))
   refine rE ?_;refine tL (v:=?_) 9 rfl (Or.inl ⟨by rfl,?_⟩) ?_;rotate_left
   ·((intro w' oz);(try dsimp only at oz);have sb:=aN (aO HBR oz.2.out);(try go_simp);(try with_reducible rfl))
   (try simp only [Act.put,aK,aL,aM])
   refine dO 8 (by kernel_rfl) rfl (fun K hK=>?_);go_simp
   (go_at_call 19;refine (HOi _ _ (HE.trans oX.2) (HRU _ oX.2)).mono ?_)
   rintro e wz ⟨a7,c7,rfl,Jg,om⟩;have HR7:=n8 Jg;clear Jg;go_wp2_with fail;refine hK _ _ ⟨(om).cell oX.1,aC.trans oX.2 (om)⟩ (fun oX=>?_);clear hK K
   (try simp only [Act.put,aK,aL,aM])
   have De:Hid (aC wo wz):=oX.2;refine dO 10 (by kernel_rfl) rfl (fun K hK=>?_);go_simp
   (go_at_call 43;refine (HPi _ _ _ _ (HE.trans De) HR7 (HRX _ De)).mono ?_)
   rintro e wy ⟨g,cg,rfl,om,hg1,sS,qi,hRN⟩;have HRN:=n8 hRN;have HG1:=n8 hg1;have HG2:=n8 sS;have HG3:=n8 qi;clear hRN hg1 sS qi;go_wp2_with fail;refine hK _ _ ⟨(om).cell oX.1,aC.trans oX.2 (om)⟩ (fun oX=>?_);clear hK K
   (try simp only [Act.put,aK,aL,aM])
   refine tW (v:=?_) 11 rfl (Or.inl ⟨by rfl,?_⟩) ?_;rotate_left
   ·((intro w');(try go_simp);rw [s4_];rfl)
   (try simp only [Act.put,aK,aL,aM])
   have qs:Hid (aC wo wy):=oX.2;have Df:Hid (vm.ownBlock≠some g):=fun e=>by have h1:=(HO.own.lt _ e).2;have h2:=De.size;have h3:=HG1.out;omega
   have HNT:Hid (g∉tags.map (·.1)):=fun e=>by have h1:=(HO.fresh e).2;have h2:=De.size;have h3:=HG1.out;omega
   have HBS:Hid (w3.heap.size<=g):=by have h2:=De.size;have h3:=HG1.out;have h4:=HX.size;unfold Hid;omega
   have HSZ:Hid (w3.heap.size<=wy.heap.size):=oI HX.size qs.size;refine dO 12 (by kernel_rfl) rfl (fun K hK=>?_);go_simp;refine hK _ _ ⟨(aC.alloc _ _).cell oX.1,aC.trans oX.2 (aC.alloc _ _)⟩ (fun oX=>?_);clear hK K
   (try simp only [Act.put,aK,aL,aM])
   refine lh 13 (by kernel_rfl) (by kernel_rfl) rfl (fun K hK=>?_);refine M1_ (K:=jv) (e:=29) underlying122 f6_ wy (by rfl) _ _ (by rfl) w3.heap.size w3.heap.size vm tags ((cJ n k X).take i) (g,cg) RW #[.slice (some ⟨g,0,none⟩) S cg] 29 (by rfl) (HO.ext qs) (by rfl) (by rw [iR,HRL.out]) (by rw [HRL.out];exact HG2) HG3 HRN HBS Df HNT HLL HSZ ?_;intro v' w6 tI hb6 _;rw [<- HTK.out] at tI;have HO6:=n8 tI;have HX6:Hid (aC w3 w6):=Below.trans (HX.trans qs) hb6;clear tI hb6;refine hK _ _ ?_;clear hK K
   (try simp only [Act.put,aK,aL,aM])
   refine fL 14 (by kernel_rfl) (by kernel_rfl) (by kernel_rfl) rfl (fun K hK=>?_);go_simp;refine hK _ _ ?_;clear hK K
   (try simp only [Act.put,aK,aL,aM])
   go_wp2_with fail;go_roundw
   case rel=>exact ⟨i+1,_,_,by omega,rfl,by go_num,HX6,HO6⟩
   case measure=>simp [intOf];omega
  ·obtain rfl:i=n:=by omega
   rw [List.take_of_length_le (by rw [HKL.out];exact oJ _)] at HO;obtain ⟨gm,cm,e9,tl,rO⟩:∃ gm cm,vm=.slice (some ⟨gm,0,none⟩) i cm/\i<=cm/\dR wo gm tags (cJ i k X):=by
    rcases HO.out.own.2 with ⟨hv,h9⟩ | ⟨g,cap,cur,hv,-⟩
    ·rw [HKL.out] at h9;omega
    ·subst hv;have h9:=HO.matN (oJ _);rw [HKL.out] at h9 |-;exact ⟨g,cap,rfl,h9.2.1,h9.1⟩
   obtain ⟨t,ht,q1,q2,q3,q4,-⟩:=rO.get (i:=0) (HTR 0 (by omega));have yZ:((bG i k).map (cn i k X 0)).length=S:=by rw [List.length_map];exact HSL
   rw [yZ] at q1;have hEL:=HEL vm tags wo HO HX;subst e9;have hin:¬ (i:Int)<(i:Int):=by omega
   have wJ:(0:Int)<(i:Int):=by omega
   have HEL':=n8 hEL;clear hEL HEL q2 q4 tl rO ht Es HOF HPR HCL;go_wp2_with fail;refine HEL'.mono ?_;rintro e w7 ⟨b7,o7,c7,al,rfl,l1,l2,qS⟩;have HE7:=n8 qS;have HB7:=n8 (aO HB3 qS);have d0:=aN HB7 0;have d1:=aN HB7 1;simp only [oQ,oO,oP] at d0 d1;have e5:IntKind.i64.wrap ((i:Int)-(rk:Int))=((i-rk:Nat):Int):=by rw [IntKind.wrap_i64];omega
   have e6:(((i-rk:Nat):Int) == (k:Int))=decide (i-rk=k):=by
    by_cases e:i-rk=k
    ·rw [e];simp
    ·rw [oR e];exact beq_eq_false_iff_ne.2 (by omega)
   clear qS z1 z2 q1 HEL';go_wp2_with fail;go_ret;exact ⟨rfl,HE3.trans HE7⟩
theorem H5_ (w:World):bQ w (.slice none 0 0) []:=⟨[],rfl,by simp,⟨none,0,rfl,oJ _,Nat.zero_le _,fun _=>rfl,fun h=>absurd rfl h⟩,by simp⟩
def Z5M (n k:Nat) (X:List Int) (l:List (List Int)):Prop :=
 l.length=k/\bw l=0/\(∀ r∈l,r.length=n)/\ij l=true/\az (dQ l k)=1/\cO X=cO (dQ l k)/\eB n k (dQ l k)
theorem Z4J {n k B:Nat} {X:List Int} (hn:n<5) (hk:k<=n) (tH:X.length=(aJ n k).length) (hX:∀ x∈X,x.natAbs<=B) (hB:B<=100000000) :
  ∃ (is:Bool) (E:Int) (l:List (List Int)),
   (∀ u W,cL W u n k X->iV W->4<W.heap.size->Calls prog 35 #[u] W fun e w'=>e=.returned (.tuple #[.bool is,.int .i64 0])/\aC W w') /\
   (∀ u W,cL W u n k X->iV W->4<W.heap.size->Calls prog 36 #[u] W fun e w'=>∃ av cv,e=.returned (.tuple #[.slice av l.length cv,.int .i64 E])/\bQ w' (.slice av l.length cv) l/\aC W w') /\
   (∀ u W,cL W u n k X->af W->Calls prog 37 #[u] W fun e w'=>e=.returned (.bool is)/\aC W w') /\
   ((az X=0/\is=true/\E=17/\l=[])\/(az X≠0/\is=false/\E=7/\l=[])\/(az X≠0/\is=true/\E=0/\Z5M n k X l)):=by
 obtain ⟨F,F2,R,hK,hrk,hL⟩:=Z4K hn hk tH hX hB;have hR:eB n k X:=⟨by omega,hk,tH,fun x hx=>Nat.lt_of_le_of_lt (oI (hX x hx) hB) (by decide +kernel)⟩;have Bl:∀ x∈X,x.natAbs<=100000000:=fun x hx=>oI (hX x hx) hB;have zO:n=0->R.length=0:=fun h=>by omega
 obtain ⟨is,tF⟩:∃ is,(decide (az X=0) || decide (R.length=k))=is:=⟨_,rfl⟩;have Ar:∀ u W,cL W u n k X->iV W->4<W.heap.size->Calls prog 35 #[u] W fun e w'=>e=.returned (.tuple #[.bool is,.int .i64 0])/\aC W w':=by
  intro u W h hl hb;by_cases h1:1<=n
  ·have h9:=K4_ F (by omega) h1 hR u W h R hK hl.pow hb;rw [tF] at h9;exact h9
  ·obtain rfl:n=0:=by omega
   obtain rfl:k=0:=by omega
   rw [zO rfl,show decide (0=0)=true from rfl,Bool.or_true] at tF;subst tF;exact m6_ hR u W h hl.pow
 have Ai:∀ u W,cL W u n k X->af W->Calls prog 37 #[u] W fun e w'=>e=.returned (.bool is)/\aC W w':=by
  intro u W h hp;by_cases h0:az X=0
  ·rw [oS h0,Bool.true_or] at tF;subst tF;exact H0_ hn hR (.inl h0) u W h hp
  ·by_cases hkn:k=n
   ·have:R.length=k:=by
     rw [show bG n k=[] from if_pos hkn,show eO (bJ (cJ n k X)) ([]:List Nat).length=0 from rfl] at hrk;omega
    rw [oS this,Bool.or_true] at tF;subst tF;exact H0_ hn hR (.inr hkn) u W h hp
   ·have h9:=j7_ hn hR Bl h0 (by omega) u W h hp;obtain ⟨-,hc,-⟩:=e1_ hn (show k<n by omega) Bl (oJ _);have hr:jy (cJ n k X)=eO (bJ (cJ n k X)) (bG n k).length:=by unfold jy;rw [hc]
    rw [oR h0,Bool.false_or] at tF;rw [show n-jy (cJ n k X)=R.length by rw [hr];omega,tF] at h9;exact h9
 by_cases h0:az X=0
 ·rw [oS h0,Bool.true_or] at tF;subst tF;exact ⟨true,17,[],Ar,fun u W h hl hb=>(Z3Q hR u W h h0 hl.pow).mono fun e w' ⟨h1,h2⟩=>⟨none,0,h1,H5_ w',h2⟩,Ai,.inl ⟨h0,rfl,rfl,rfl⟩⟩
 ·rw [oR h0,Bool.false_or] at tF;by_cases hRk:R.length=k
  ·rw [oS hRk] at tF;subst tF;obtain ⟨l,ps,f1,f2,f3,f4,f5,f6,f7,f8⟩:=hL h0 hRk;have rI:∀ r∈l,∀ x∈r,x.natAbs<=1000000000:=fun r hr x hx=>by
    have h1:=(f4 r hr).2 x hx;have h2:=Nat.mul_le_mul (show k<=4 by omega) hB;omega
   have Gs:Z5M n k X l:=⟨f2,w9_ (n:=n) (by omega) fun r hr=>⟨(f4 r hr).1,by omega,fun x hx=>by have:=rI r hr x hx;omega⟩,fun r hr=>(f4 r hr).1,Z07 f3,f5,f6,by omega,hk,f7,fun x hx=>Nat.lt_of_le_of_lt (oI (f8 x hx) hB) (by decide +kernel)⟩;refine ⟨true,0,l,Ar,?_,Ai,.inr (.inr ⟨h0,rfl,rfl,Gs⟩)⟩;intro u W h hl hb;by_cases h1:1<=n
   ·refine (Z1V F F2 (by omega) h1 hR u W h R l h0 hK hRk f1 (fun r hr=>⟨(f4 r hr).1,List.all_eq_true.2 fun x hx=>(J0_ x).2 (by have:=rI r hr x hx;omega)⟩) hl hb).mono fun e w' ⟨v,g1,g2,g3⟩=>?_;obtain ⟨av,cv,rfl,-⟩:=aI.open g3;exact ⟨av,cv,g1,g3,g2⟩
   ·obtain rfl:n=0:=by omega
    obtain rfl:k=0:=by omega
    obtain rfl:=List.eq_nil_of_length_eq_zero f2;exact (Z3O hR h0 u W h hl.pow).mono fun e w' ⟨h1,h2⟩=>⟨none,0,h1,H5_ w',h2⟩
  ·rw [oR hRk] at tF;subst tF;refine ⟨false,7,[],Ar,fun u W h hl hb=>?_,Ai,.inr (.inl ⟨h0,rfl,rfl,rfl⟩)⟩;by_cases h1:1<=n
   ·exact (Z3P F (by omega) h1 hR u W h R h0 hK hRk hl.pow hb).mono fun e w' ⟨h1,h2⟩=>⟨none,0,h1,H5_ w',h2⟩
   ·exact absurd (zO (by omega)) (by omega)
section
variable {P:Program} {ops O:Array Oper} {Q:Exit->Act->World->Prop} {md:Region.Mode} {S:World->Prop} {z:Nat}
end
section
variable {P:Program} {ops O:Array Oper} {Q:Exit->Act->World->Prop} {md:Region.Mode} {S:World->Prop} {z:Nat}
theorem K2_ {l:Array Bool} {i f:Nat} (hi:l.getD i true=false) (h:l.toList.count false=f+1):(l.setIfInBounds i true).toList.count false=f:=by
 have hs:i<l.size:=by
  by_cases hs:i<l.size
  ·exact hs
  ·rw [Array.getD_eq_getD_getElem?,Array.getElem?_eq_none (by omega)] at hi;cases hi
 have hv:l.toList[i]'(by simpa using hs)=false:=by
  rw [Array.getD_eq_getD_getElem?,Array.getElem?_eq_getElem hs] at hi;simpa using hi
 rw [Array.toList_setIfInBounds,List.count_set (h:=by simpa using hs),hv,if_pos (by rfl),if_neg (by decide)];omega
theorem F6_ (Inv:Array Bool->Act->World->Prop) (m:Nat) (hS:∀ l b u,Inv l b u->S u)
  (hne:∀ l b u,Inv l b u->m<l.toList.count false->Region.ready md ops l≠[])
  (hstep:∀ l b u i o,Inv l b u->m<l.toList.count false->i∈Region.ready md ops l->ops[i]?=some o->∀ K:Act->World->Prop,Shut (∀ b' u',Inv (l.setIfInBounds i true) b' u'->K b' u')->if Region.wanted o (yielded ops b.tmps)=true then Oper.wp P o b u K Q else K (b.put o.dst undef) u)
  (hend:∀ l b u,Inv l b u->l.toList.count false=m->bL P md ops Q S z m l b u):∀ (f:Nat) (l:Array Bool) (a:Act) (w:World),l.toList.count false=f+m->Inv l a w->bL P md ops Q S z (f+m) l a w
 | 0,l,a,w,hf,hI=>by rw [Nat.zero_add] at hf |-;exact hend l a w hI hf
 | f+1,l,a,w,hf,hI=>by
  rw [show f+1+m=(f+m)+1 by omega] at hf |-;refine ⟨fun e=>absurd e (hne l a w hI (by omega)),fun i hi=>?_⟩;obtain ⟨h1,o,ho,-⟩:=mem_ready.1 hi;exact wpOp_step ho fun K hK=>hstep l a w i o hI (by omega) hi ho K fun b u hb=>hK b u ⟨fun _=>hS _ _ _ hb,F6_ Inv m hS hne hstep hend f _ b u (K2_ h1 hf) hb⟩
end
theorem l1_ {a:Act} {i j:Nat} {v:Value} (h:i≠j):(a.put (some i) v).eval (.tmp j)=a.eval (.tmp j) :=
 Act.eval_put fun d hd e=>by cases hd;cases e;exact h rfl
theorem Z65 (a:Act) {i j:Nat} (h:i≠j) (x y:Value):(a.put (some i) x).put (some j) y=(a.put (some j) y).put (some i) x :=
 Act.put_comm a x y fun d hd e=>by cases hd;cases e;exact h rfl
theorem Z4L {P:Program} {o:Oper} {a:Act} {w:World} {K:Act->World->Prop} {Q:Exit->Act->World->Prop} (f:Nat) (x y:Operand) (T:Array TypeId) (ho:o.op=.call { callee:=.value (.func f),args:=#[x,y],argTypes:=T }) (he:∀ args w,(callFunc f args).run P w=.ok (.enter f args) w) {vx vy:Value} (hx:a.eval x=vx) (hy:a.eval y=vy)
  (h:Calls P f #[vx,vy] w fun e w'=>∃ v,e=.returned v/\K (a.put o.dst v) w'):o.wp P a w K Q:=by
 unfold Oper.wp;have hr:(execOp a.eval o).run P w=.ok (.enter f #[vx,vy]) w:=by
  have hf:a.eval (.func f)=.func (.func f) #[] #[]:=rfl;simp [execOp,ho,resolve,hf,Deferred.ofValue,invoke,hx,hy,he]
 rw [hr,Oper.upon_enter];refine h.mono ?_;rintro e w' ⟨v,rfl,hk⟩;exact hk
theorem Z11 {P:Program} {md:Region.Mode} {ops:Array Oper} {Q:Exit->Act->World->Prop} {S:World->Prop} {z f:Nat} {l:Array Bool} {a:Act} {w:World} (h:∀ a0,a0=a->bL P md ops Q S z f l a0 w):bL P md ops Q S z f l a w:=h a rfl
end Go.Proofs.YtjlkkofmojgipaaGreatDoor
