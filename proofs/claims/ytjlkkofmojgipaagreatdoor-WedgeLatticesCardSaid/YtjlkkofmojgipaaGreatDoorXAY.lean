import Derived.Test.YtjlkkofmojgipaaGreatDoorXAM
import Derived.Test.YtjlkkofmojgipaaGreatDoorXAD
import Derived.Test.YtjlkkofmojgipaaGreatDoorXAA
import Derived.Test.YtjlkkofmojgipaaGreatDoorXAJ
import Derived.Lib.SliceRun
import Derived.WalkSpells
import Derived.Laws.AppendOwnNone
import Derived.Test.YtjlkkofmojgipaaGreatDoorXAI
set_option linter.unusedVariables false
set_option linter.unusedSimpArgs false
namespace Go.Proofs.YtjlkkofmojgipaaGreatDoor
open Go.RowKit Go.Proofs.Tryz
theorem ig (x y:Int) (hy:y≠0):(aR x y).natAbs*y.natAbs<=x.natAbs+y.natAbs/\(bF x y).natAbs<y.natAbs:=by
 have e:=lq x y;have h2:(bF x y).natAbs<y.natAbs:=by
  rcases Int.lt_or_gt_of_ne hy with h | h
  ·have:=ly x y h;omega
  ·have:=kG x y h;omega
 refine ⟨?_,h2⟩;have h3:y*aR x y=x-bF x y:=by omega
 have h4:(y*aR x y).natAbs=y.natAbs*(aR x y).natAbs:=Int.natAbs_mul _ _;rw [Nat.mul_comm,<- h4,h3];omega
def Z3a (x y:Int):Prop:=(0<=x/\0<y)\/(x<=0/\y<0)
theorem lx (x y:Int) (h:Z3a x y):(aR x y).natAbs*y.natAbs<=x.natAbs/\(bF x y).natAbs<=x.natAbs/\Z3a (bF x y) y/\(y.natAbs<=x.natAbs->2*(bF x y).natAbs<=x.natAbs):=by
 have e:=lq x y;have h4:(y*aR x y).natAbs=y.natAbs*(aR x y).natAbs:=Int.natAbs_mul _ _;have h3:y*aR x y=x-bF x y:=by omega
 rcases h with ⟨hx,hy⟩ | ⟨hx,hy⟩
 ·have hr:=kG x y hy;have hq:0<=aR x y:=by
   rcases Int.lt_or_le (aR x y) 0 with hn | hn
   ·have:y*aR x y<=y*(-1):=Int.mul_le_mul_of_nonneg_left (by omega) (by omega);omega
   ·exact hn
  have hp:0<=y*aR x y:=Int.mul_nonneg (by omega) hq;refine ⟨by rw [Nat.mul_comm,<- h4,h3];omega,by omega,.inl ⟨hr.1,hy⟩,fun hle=>?_⟩;have wF:1<=aR x y:=by
   rcases Int.lt_or_le (aR x y) 1 with hn | hn
   ·have h0:aR x y=0:=by omega
    rw [h0,Int.mul_zero] at h3;omega
   ·exact hn
  have:y*1<=y*aR x y:=Int.mul_le_mul_of_nonneg_left wF (by omega);omega
 ·have hr:=ly x y hy;have hq:0<=aR x y:=by
   rcases Int.lt_or_le (aR x y) 0 with hn | hn
   ·have:(-y)*aR x y<=(-y)*(-1):=Int.mul_le_mul_of_nonneg_left (by omega) (by omega);have e2:(-y)*aR x y=-(y*aR x y):=Int.neg_mul _ _;omega
   ·exact hn
  have hp:0<=(-y)*aR x y:=Int.mul_nonneg (by omega) hq;have e2:(-y)*aR x y=-(y*aR x y):=Int.neg_mul _ _;refine ⟨by rw [Nat.mul_comm,<- h4,h3];omega,by omega,.inr ⟨hr.2,hy⟩,fun hle=>?_⟩;have wF:1<=aR x y:=by
   rcases Int.lt_or_le (aR x y) 1 with hn | hn
   ·have h0:aR x y=0:=by omega
    rw [h0,Int.mul_zero] at h3;omega
   ·exact hn
  have:(-y)*1<=(-y)*aR x y:=Int.mul_le_mul_of_nonneg_left wF (by omega);omega
def cw (B:Nat) (r:List Int):Prop:=∀ x∈r,x.natAbs<=B
theorem cw.mono {B B':Nat} {r:List Int} (h:cw B r) (hb:B<=B'):cw B' r:=fun x hx=>oI (h x hx) hb
theorem cw.getD {B:Nat} {r:List Int} (h:cw B r) (c:Nat):(r.getD c 0).natAbs<=B:=by
 rw [oC];cases hc:r[c]? with
 | none=>simp
 | some x=>exact h x (oD hc)
theorem cw.neg {B:Nat} {r:List Int} (h:cw B r):cw B (r.map (- ·)):=by
 intro x hx;obtain ⟨y,hy,rfl⟩:=List.mem_map.1 hx;rw [Int.natAbs_neg];exact h y hy
theorem y0_ {B C:Nat} (k:Int):∀ (r s:List Int),cw B r->cw C s->cw (B+k.natAbs*C) (an k r s)
 | r,[],h,_=>by
  have:an k r []=r:=by cases r <;> rfl
  rw [this];exact h.mono (Nat.le_add_right _ _)
 | [],_::_,_,_=>fun x hx=>by simp [an] at hx
 | a::r,b::s,h,h'=>by
  intro x hx;unfold an at hx;rcases List.mem_cons.1 hx with rfl | hx
  ·have h1:=h a (by simp);have h2:=h' b (by simp);have h3:(k*b).natAbs<=k.natAbs*C:=by rw [Int.natAbs_mul];exact Nat.mul_le_mul_left _ h2
   omega
  ·exact y0_ k r s (fun y hy=>h y (by simp [hy])) (fun y hy=>h' y (by simp [hy])) x hx
theorem jr:∀ (r s:List Int),an 0 r s=r
 | r,[]=>by cases r <;> rfl
 | [],_::_=>rfl
 | a::r,b::s=>by unfold an;rw [jr r s];simp
theorem jS (k:Int) {r s:List Int} (hl:s.length=r.length) (c:Nat):(an k r s).getD c 0=r.getD c 0-k*s.getD c 0:=by
 simp only [oC];by_cases hc:c<r.length
 ·rw [S5_ k r s c r[c] (s[c]'(by omega)) (n9 hc) (n9 _),n9 hc,n9 (by omega)];rfl
 ·rw [oK (by rw [ir];omega),oK (by omega),oK (by omega)];simp
theorem Z2N {x:Int} {K:Nat} (hK:K<=1000000000) (h1:1<=K) (h:x.natAbs<10^K):eu x=true:=(w5_ x).2 (oI (ix _ K h h1) hK)
theorem Z2M {x:Int} {K:Nat} (hK:K<=400000000) (h1:1<=K) (h:x.natAbs<10^K):j0 x=true:=(c4_ x).2 (oI (ix _ K h h1) hK)
theorem e2_ {K B C:Nat} {k:Int} {r s:List Int} (hK:K<=400000000) (h1:1<=K) (hl:s.length=r.length) (hr:cw B r) (hs:cw C s) (hB:B<10^K) (hC:C<10^K) (hk:k.natAbs<10^K):fR k r s=some (an k r s):=by
 unfold fR;by_cases h0:k=0
 ·rw [if_pos h0,h0,jr]
 ·have hc:(j0 k && s.all j0 && r.all eu)=true:=by
   rw [Bool.and_eq_true,Bool.and_eq_true,List.all_eq_true,List.all_eq_true];exact ⟨⟨Z2M hK h1 hk,fun x hx=>Z2M hK h1 (Nat.lt_of_le_of_lt (hs x hx) hC)⟩,fun x hx=>Z2N (by omega) h1 (Nat.lt_of_le_of_lt (hr x hx) hB)⟩
  rw [if_neg h0,if_pos ⟨hl,hc⟩]
def ef (d B:Nat) (m:List (List Int)):Prop:=∀ i,d<=i->i<m.length->cw B (aG m i)
def eG (d U:Nat) (m:List (List Int)):Prop:=∀ i,i<d->i<m.length->cw U (aG m i)
def bS (n:Nat) (m:List (List Int)):Prop:=∀ i,i<m.length->(aG m i).length=n
theorem mF {n K B U d:Nat} {m:List (List Int)} (hK:K<=400000000) (h1:1<=K) (hw:bS n m) (hl:ef d B m) (hu:eG d U m) (hB:B<10^K) (hU:U<10^K):cF n m=true:=by
 unfold cF;rw [List.all_eq_true];intro r hr;obtain ⟨i,hi⟩:=List.getElem?_of_mem hr;have him:=(n_.1 hi).1;have hre:=gj hi;rw [Bool.and_eq_true,decide_eq_true_iff,List.all_eq_true];refine ⟨by rw [<- hre];exact hw i him,fun x hx=>?_⟩;by_cases hd:d<=i
 ·exact Z2N (by omega) h1 (Nat.lt_of_le_of_lt (hl i hd him x (by rw [hre];exact hx)) hB)
 ·exact Z2N (by omega) h1 (Nat.lt_of_le_of_lt (hu i (by omega) him x (by rw [hre];exact hx)) hU)
theorem j_ {c d:Nat} {m:List (List Int)}:∀ {k:Nat},bP c d m k=none->∀ i,d<=i->i<d+k->aF m i c=0
 | 0,_,i,h1,h2=>by omega
 | k+1,h,i,h1,h2=>by
  unfold bP at h;cases hb:bP c d m k with
  | none =>
   rw [hb] at h;simp only at h;by_cases h0:aF m (d+k) c=0
   ·by_cases hi:i=d+k
    ·rw [hi];exact h0
    ·exact j_ hb i h1 (by omega)
   ·rw [if_neg h0] at h;cases h
  | some a =>
   rw [hb] at h;simp only at h
   split at h <;> cases h
theorem iG {c d:Nat} {m:List (List Int)}:∀ {k a:Nat},bP c d m k=some a->d<=a/\a<d+k/\aF m a c≠0/\∀ i,d<=i->i<d+k->aF m i c≠0->(aF m a c).natAbs<=(aF m i c).natAbs
 | 0,a,h=>by simp [bP] at h
 | k+1,a,h=>by
  unfold bP at h;cases hb:bP c d m k with
  | none =>
   rw [hb] at h;simp only at h;by_cases h0:aF m (d+k) c=0
   ·rw [if_pos h0] at h;cases h
   ·rw [if_neg h0] at h;obtain rfl:=oL h;refine ⟨by omega,by omega,h0,fun i h1 h2 h3=>?_⟩;by_cases hi:i=d+k
    ·rw [hi];exact oJ _
    ·exact absurd (j_ hb i h1 (by omega)) h3
  | some b =>
   obtain ⟨b1,b2,b3,b4⟩:=iG hb;rw [hb] at h;simp only at h;by_cases hc:aF m (d+k) c≠0/\(aF m (d+k) c).natAbs<(aF m b c).natAbs
   ·rw [if_pos hc] at h;obtain rfl:=oL h;refine ⟨by omega,by omega,hc.1,fun i h1 h2 h3=>?_⟩;by_cases hi:i=d+k
    ·rw [hi];exact oJ _
    ·have:=b4 i h1 (by omega) h3;omega
   ·rw [if_neg hc] at h;obtain rfl:=oL h;refine ⟨b1,by omega,b3,fun i h1 h2 h3=>?_⟩;by_cases hi:i=d+k
    ·subst hi;have:¬ (aF m (d+k) c).natAbs<(aF m b c).natAbs:=fun hlt=>hc ⟨h3,hlt⟩;omega
    ·exact b4 i h1 (by omega) h3
theorem Z1j {c d n K B:Nat} {m:List (List Int)} (hK:K<=400000000) (h1:1<=K) (hd:d<m.length) (hw:bS n m) (hp:aF m d c≠0) (hB:ef d B m) (o5:B+2<10^K) :
  ∀ k,d+1+k<=m.length->∃ m' rest,dA c d m k=some (m',rest)/\m'.length=m.length/\(∀ i,i<=d\/d+1+k<=i->aG m' i=aG m i) /\
   (∀ i,d<i->i<d+1+k->aG m' i=an (aR (aF m i c) (aF m d c)) (aG m i) (aG m d))/\(rest=false->∀ i,d<i->i<d+1+k->bF (aF m i c) (aF m d c)=0)/\(rest=true->∃ i,d<i/\i<d+1+k/\bF (aF m i c) (aF m d c)≠0)
 | 0,_=>⟨m,false,rfl,rfl,fun _ _=>rfl,fun i h2 h3=>by omega,fun _ i h2 h3=>by omega,fun h=>by cases h⟩
 | k+1,hk=>by
  obtain ⟨m1,r1,e1,l1,a1,b1,f1,t1⟩:=Z1j hK h1 hd hw hp hB o5 k (by omega);have zH:aG m1 d=aG m d:=a1 d (.inl (oJ _));have qD:aG m1 (d+1+k)=aG m (d+1+k):=a1 _ (.inr (oJ _));have vH:aF m1 d c=aF m d c:=by unfold aF;rw [zH]
  have F3:aF m1 (d+1+k) c=aF m (d+1+k) c:=by unfold aF;rw [qD]
  have hil:d+1+k<m.length:=by omega
  have hq:(aR (aF m (d+1+k) c) (aF m d c)).natAbs<10^K:=by
   have h2:=(ig (aF m (d+1+k) c) (aF m d c) hp).1;have h3:(aF m (d+1+k) c).natAbs<=B:=(hB _ (by omega) hil).getD c;have h4:1<=(aF m d c).natAbs:=by omega
   have h5:(aR (aF m (d+1+k) c) (aF m d c)).natAbs<=(aF m (d+1+k) c).natAbs+1:=nH _ _;omega
  have hlo:=e2_ (k:=aR (aF m (d+1+k) c) (aF m d c)) hK h1 (show (aG m d).length=(aG m (d+1+k)).length by rw [hw d hd,hw _ hil]) (hB _ (by omega) hil) (hB d (oJ _) hd) (by omega) (by omega) hq;refine ⟨m1.set (d+1+k) (an (aR (aF m (d+1+k) c) (aF m d c)) (aG m (d+1+k)) (aG m d)),r1 || decide (bF (aF m (d+1+k) c) (aF m d c)≠0),?_,by rw [List.length_set];exact l1,fun i hi=>?_,fun i h2 h3=>?_,fun hr i h2 h3=>?_,fun hr=>?_⟩
  ·rw [E7_,e1];simp only;rw [vH,F3,zH,qD,if_neg hp,hlo]
  ·rw [fY (by omega),if_neg (by omega)];exact a1 i (by omega)
  ·rw [fY (by omega)];by_cases hi:i=d+1+k
   ·rw [if_pos hi,hi]
   ·rw [if_neg hi];exact b1 i h2 (by omega)
  ·rw [Bool.or_eq_false_iff] at hr;by_cases hi:i=d+1+k
   ·rw [hi];simpa using hr.2
   ·exact f1 hr.1 i h2 (by omega)
  ·rw [Bool.or_eq_true] at hr;rcases hr with hr | hr
   ·obtain ⟨i,h2,h3,h4⟩:=t1 hr;exact ⟨i,h2,by omega,h4⟩
   ·exact ⟨d+1+k,by omega,by omega,by simpa using hr⟩
theorem mO {m:List (List Int)} {d a:Nat} (hd:d<m.length) (ha:a<m.length) (i:Nat):aG (bR m d a) i=if i=a then aG m d else if i=d then aG m a else aG m i:=by
 rw [nw (gH hd) (gH ha),fY (by rw [List.length_set];exact ha)];by_cases h1:i=a
 ·rw [if_pos h1,if_pos h1]
 ·rw [if_neg h1,if_neg h1,fY hd]
def jd (d c M:Nat) (m:List (List Int)):Prop:=∀ i,d<=i->i<m.length->(aF m i c).natAbs<=M
def lW (d c:Nat) (pos:Bool) (m:List (List Int)):Prop:=∀ i,d<=i->i<m.length->if pos then 0<=aF m i c else aF m i c<=0
theorem L2_ {n c d K M B U a Q:Nat} {m:List (List Int)} (hK:K<=400000000) (h1:1<=K) (hd:d<m.length) (hw:bS n m) (hB:ef d B m) (hU:eG d U m) (hM:jd d c M m) (ha:bP c d m (m.length-d)=some a) (o5:B+2<10^K)
  (hQ:∀ i,d<=i->i<m.length->(aR (aF m i c) (aF m a c)).natAbs<=Q) :
  ∃ m2 rest,dA c d (bR m d a) (m.length-(d+1))=some (m2,rest)/\m2.length=m.length/\bS n m2/\ef d (B+Q*B) m2/\eG d U m2/\aF m2 d c=aF m a c/\cw B (aG m2 d) /\
   (∀ i,d<i->i<m.length->∃ k,d<=k/\k<m.length/\aF m2 i c=bF (aF m k c) (aF m a c))/\(rest=false->∀ i,d<i->i<m.length->aF m2 i c=0)/\(rest=true->∃ i,d<i/\i<m.length/\aF m2 i c≠0):=by
 obtain ⟨b1,b2,b3,b4⟩:=iG ha;have pN:a<m.length:=by omega
 have hsl:(bR m d a).length=m.length:=kd m d a;have hrow:=mO hd pN;have zS:∀ i,d<=i->i<m.length->∃ k,d<=k/\k<m.length/\aG (bR m d a) i=aG m k:=by
  intro i h2 h3;rw [hrow];by_cases e1:i=a
  ·rw [if_pos e1];exact ⟨d,oJ _,hd,rfl⟩
  ·rw [if_neg e1];by_cases e2:i=d
   ·rw [if_pos e2];exact ⟨a,b1,pN,rfl⟩
   ·rw [if_neg e2];exact ⟨i,h2,h3,rfl⟩
 have yO:bS n (bR m d a):=by
  intro i hi;rw [hsl] at hi;rw [hrow];by_cases e1:i=a
  ·rw [if_pos e1];exact hw d hd
  ·rw [if_neg e1];by_cases e2:i=d
   ·rw [if_pos e2];exact hw a pN
   ·rw [if_neg e2];exact hw i hi
 have MW:ef d B (bR m d a):=by
  intro i h2 h3;rw [hsl] at h3;obtain ⟨k,k1,k2,k3⟩:=zS i h2 h3;rw [k3];exact hB k k1 k2
 have vK:aG (bR m d a) d=aG m a:=by
  rw [hrow];by_cases e1:d=a
  ·rw [if_pos e1,e1]
  ·rw [if_neg e1,if_pos rfl]
 have EU:aF (bR m d a) d c=aF m a c:=by unfold aF;rw [vK]
 obtain ⟨m2,rest,e1,e2,e3,e4,e5,e6⟩:=Z1j (K:=K) (B:=B) hK h1 (by rw [hsl];exact hd) yO (by rw [EU];exact b3) MW o5 (m.length-(d+1)) (by rw [hsl];omega);rw [hsl] at e2;have hdm:d+1+(m.length-(d+1))=m.length:=by omega
 rw [hdm] at e3 e4 e5 e6;rw [EU] at e4 e5 e6;have ph:aG m2 d=aG m a:=(e3 d (.inl (oJ _))).trans vK;have yf:∀ i,d<i->i<m.length->∃ k,d<=k/\k<m.length/\aG (bR m d a) i=aG m k/\aF (bR m d a) i c=aF m k c/\aF m2 i c=bF (aF m k c) (aF m a c):=by
  intro i h2 h3;obtain ⟨k,k1,k2,k3⟩:=zS i (by omega) h3;have hg:aF (bR m d a) i c=aF m k c:=by unfold aF;rw [k3]
  refine ⟨k,k1,k2,k3,hg,?_⟩;show (aG m2 i).getD c 0=_;rw [e4 i h2 h3,jS _ (by rw [yO d (by rw [hsl];exact hd),yO i (by rw [hsl];exact h3)]),vK];have h5:=lq (aF m k c) (aF m a c);show aF (bR m d a) i c-aR (aF (bR m d a) i c) (aF m a c)*aF m a c=_;rw [hg,Int.mul_comm];omega
 refine ⟨m2,rest,e1,e2,fun i hi=>?_,fun i h2 h3=>?_,fun i h2 h3=>?_,?_,?_,fun i h2 h3=>?_,fun hr i h2 h3=>?_,fun hr=>?_⟩
 ·rw [e2] at hi;by_cases hid:d<i
  ·rw [e4 i hid hi,ir];exact yO i (by rw [hsl];exact hi)
  ·rw [e3 i (.inl (by omega))];exact yO i (by rw [hsl];exact hi)
 ·rw [e2] at h3;by_cases hid:d<i
  ·obtain ⟨k,k1,k2,k3,k4,-⟩:=yf i hid h3;rw [e4 i hid h3,vK,k3,k4];exact (y0_ _ _ _ (hB k k1 k2) (hB a b1 pN)).mono (Nat.add_le_add_left (Nat.mul_le_mul_right _ (hQ k k1 k2)) _)
  ·obtain rfl:i=d:=by omega
   rw [ph];exact (hB a b1 pN).mono (Nat.le_add_right _ _)
 ·rw [e2] at h3;have hne:i≠a:=by omega
  rw [e3 i (.inl (by omega)),hrow,if_neg hne,if_neg (by omega)];exact hU i h2 h3
 ·show (aG m2 d).getD c 0=_;rw [ph];rfl
 ·rw [ph];exact hB a b1 pN
 ·obtain ⟨k,k1,k2,-,-,k5⟩:=yf i h2 h3;exact ⟨k,k1,k2,k5⟩
 ·obtain ⟨k,k1,k2,-,k4,k5⟩:=yf i h2 h3;rw [k5,<- k4];exact e5 hr i h2 h3
 ·obtain ⟨i,h2,h3,h4⟩:=e6 hr;obtain ⟨k,k1,k2,-,k4,k5⟩:=yf i h2 h3;exact ⟨i,h2,h3,by rw [k5,<- k4];exact h4⟩
theorem Z6e {c d n K C U:Nat} {m:List (List Int)} (hK:K<=400000000) (h1:1<=K) (hd:d<m.length) (hw:bS n m) (hp:aF m d c≠0) (hC:cw C (aG m d)) (hU:eG d U m) (ze:C<10^K) (sA:U+2<10^K) :
  ∀ k,k<=d->∃ m',ev c d m k=some m'/\m'.length=m.length/\(∀ i,k<=i->aG m' i=aG m i)/\(∀ i,i<k->aG m' i=an (aR (aF m i c) (aF m d c)) (aG m i) (aG m d))
 | 0,_=>⟨m,rfl,rfl,fun _ _=>rfl,fun i h=>by omega⟩
 | k+1,hk=>by
  obtain ⟨m1,e1,l1,a1,b1⟩:=Z6e hK h1 hd hw hp hC hU ze sA k (by omega);have zH:aG m1 d=aG m d:=a1 d (by omega);have qD:aG m1 k=aG m k:=a1 k (oJ _);have vH:aF m1 d c=aF m d c:=by unfold aF;rw [zH]
  have F3:aF m1 k c=aF m k c:=by unfold aF;rw [qD]
  have hq:(aR (aF m k c) (aF m d c)).natAbs<10^K:=by
   have h3:(aF m k c).natAbs<=U:=(hU k (by omega) (by omega)).getD c;have h5:=nH (aF m k c) (aF m d c);omega
  have hlo:=e2_ (k:=aR (aF m k c) (aF m d c)) hK h1 (show (aG m d).length=(aG m k).length by rw [hw d hd,hw k (by omega)]) (hU k (by omega) (by omega)) hC (by omega) ze hq;refine ⟨m1.set k (an (aR (aF m k c) (aF m d c)) (aG m k) (aG m d)),?_,by rw [List.length_set];exact l1,fun i hi=>?_,fun i hi=>?_⟩
  ·rw [b1_,e1];simp only;rw [vH,F3,zH,qD,if_neg hp,hlo]
  ·rw [fY (by omega),if_neg (by omega)];exact a1 i (by omega)
  ·rw [fY (by omega)];by_cases he:i=k
   ·rw [if_pos he,he]
   ·rw [if_neg he];exact b1 i (by omega)
structure me (n d c C U:Nat) (m m':List (List Int)):Prop where
 len:m'.length=m.length
 wid:bS n m'
 low:ef d C m'
 upp:eG d (U+(U+1)*C) m'
 pos:0<aF m' d c
 zero:∀ i,d<i->i<m.length->aF m' i c=0
 red:∀ i,i<d->0<=aF m' i c/\aF m' i c<aF m' d c
theorem Z1w {n c d K C U:Nat} {m2:List (List Int)} (hK:K<=400000000) (h1:1<=K) (hd:d<m2.length) (hw:bS n m2) (hC:ef d C m2) (hU:eG d U m2) (hp:aF m2 d c≠0) (hz:∀ i,d<i->i<m2.length->aF m2 i c=0) (ze:C<10^K) (sA:U+2<10^K) :
  ∃ m4,ev c d (if aF m2 d c<0 then m2.set d ((aG m2 d).map (- ·)) else m2) d=some m4/\me n d c C U m2 m4:=by
 obtain ⟨m3,vI⟩:∃ m3,m3=(if aF m2 d c<0 then m2.set d ((aG m2 d).map (- ·)) else m2):=⟨_,rfl⟩;rw [<- vI];have hneg:∀ (r:List Int),(r.map (- ·)).getD c 0=-(r.getD c 0):=by
  intro r;simp only [oC,oE];cases r[c]? <;> simp
 have l3:m3.length=m2.length:=by rw [vI];split <;> simp
 have r3:∀ i,i≠d->aG m3 i=aG m2 i:=by
  intro i hi;rw [vI];split
  ·rw [fY hd,if_neg hi]
  ·rfl
 have d3:aG m3 d=aG m2 d/\0<aF m2 d c\/aG m3 d=(aG m2 d).map (- ·)/\aF m2 d c<0:=by
  rw [vI];by_cases hn:aF m2 d c<0
  ·rw [if_pos hn,fY hd,if_pos rfl];exact .inr ⟨rfl,hn⟩
  ·rw [if_neg hn];exact .inl ⟨rfl,by omega⟩
 have FW:0<aF m3 d c:=by
  rcases d3 with ⟨h,h'⟩ | ⟨h,h'⟩
  ·show 0<(aG m3 d).getD c 0;rw [h];exact h'
  ·show 0<(aG m3 d).getD c 0;rw [h,hneg];have:(aG m2 d).getD c 0<0:=h';omega
 have hw3:bS n m3:=by
  intro i hi;by_cases he:i=d
  ·rw [he];rcases d3 with ⟨h,-⟩ | ⟨h,-⟩
   ·rw [h];exact hw d hd
   ·rw [h,List.length_map];exact hw d hd
  ·rw [r3 i he];exact hw i (by omega)
 have G5:cw C (aG m3 d):=by
  rcases d3 with ⟨h,-⟩ | ⟨h,-⟩
  ·rw [h];exact hC d (oJ _) hd
  ·rw [h];exact (hC d (oJ _) hd).neg
 have Bn:eG d U m3:=fun i h2 h3=>by rw [r3 i (by omega)];exact hU i h2 (by omega)
 obtain ⟨m4,e1,e2,e3,e4⟩:=Z6e hK h1 (by omega) hw3 (Int.ne_of_gt FW) G5 Bn ze sA d (oJ _);have rz:aF m4 d c=aF m3 d c:=by unfold aF;rw [e3 d (oJ _)]
 refine ⟨m4,e1,by omega,fun i hi=>?_,fun i h2 h3=>?_,fun i h2 h3=>?_,by rw [rz];exact FW,fun i h2 h3=>?_,fun i h2=>?_⟩
 ·by_cases he:i<d
  ·rw [e4 i he,ir];exact hw3 i (by omega)
  ·rw [e3 i (by omega)];exact hw3 i (by omega)
 ·rw [e3 i h2];by_cases he:i=d
  ·rw [he];exact G5
  ·rw [r3 i he];exact hC i h2 (by omega)
 ·rw [e4 i h2];have hx:(aF m3 i c).natAbs<=U:=(Bn i h2 (by omega)).getD c;exact (y0_ _ _ _ (Bn i h2 (by omega)) G5).mono (Nat.add_le_add_left (Nat.mul_le_mul_right _ (oI (nH _ _) (by omega))) _)
 ·show (aG m4 i).getD c 0=0;rw [e3 i (by omega),r3 i (by omega)];exact hz i h2 h3
 ·have hg:aF m4 i c=bF (aF m3 i c) (aF m3 d c):=by
   show (aG m4 i).getD c 0=_;rw [e4 i h2,jS _ (by rw [hw3 d (by omega),hw3 i (by omega)])];have h5:=lq (aF m3 i c) (aF m3 d c);show aF m3 i c-aR (aF m3 i c) (aF m3 d c)*aF m3 d c=_;rw [Int.mul_comm];omega
  rw [hg,rz];exact kG _ _ FW
theorem B3_ {n c d a f:Nat} {m m2:List (List Int)} (hok:cF n m=true) (ha:bP c d m (m.length-d)=some a) (pI:dA c d (bR m d a) (m.length-(d+1))=some (m2,true)):fI n c d (f+1) m=fI n c d f m2:=by
 rw [fI,if_pos hok,ha];simp only;rw [pI]
theorem H8_ {n c d a f K C U:Nat} {m m2:List (List Int)} (hK:K<=400000000) (h1:1<=K) (hd:d<m.length) (hok:cF n m=true) (ha:bP c d m (m.length-d)=some a) (pI:dA c d (bR m d a) (m.length-(d+1))=some (m2,false))
  (l2:m2.length=m.length) (hw:bS n m2) (hC:ef d C m2) (hU:eG d U m2) (hp:aF m2 d c≠0) (hz:∀ i,d<i->i<m.length->aF m2 i c=0) (ze:C<10^K) (sA:U+2<10^K) :
  ∃ m',fI n c d (f+1) m=some (m',true)/\me n d c C U m m':=by
 obtain ⟨m4,e4,s4⟩:=Z1w hK h1 (by rw [l2];exact hd) hw hC hU hp (by rw [l2];exact hz) ze sA;have tS:cF n m2=true:=mF hK h1 hw hC hU ze (by omega);refine ⟨m4,?_,⟨s4.len.trans l2,s4.wid,s4.low,s4.upp,s4.pos,by rw [<- l2];exact s4.zero,s4.red⟩⟩;rw [fI,if_pos hok,ha];simp only;rw [pI];simp only;rw [if_pos tS,e4]
theorem B2_ {n c d K U Y : Nat} (hK : K <= 400000000) (h1 : 1 <= K) (Ae : 2 * Y + 2 < 10 ^ K) (sA : U + 2 < 10 ^ K) (pos : Bool) :
    ∀ (F : Nat) (m : List (List Int)) (B M a : Nat), d < m.length -> bS n m -> ef d B m -> eG d U m -> jd d c M m -> lW d c pos m -> bP c d m (m.length - d) = some a -> B * (M * M * (aF m a c).natAbs) <= Y -> (aF m a c).natAbs < F ->
      ∃ m', fI n c d F m = some (m', true) /\ me n d c (2 * Y) U m m'
  | 0, m, B, M, a, _, _, _, _, _, _, _, _, hF => by omega
  | f + 1, m, B, M, a, hd, hw, hB, hU, hM, hS, ha, hY, hF => by
    obtain ⟨b1, b2, b3, b4⟩ := iG ha;have pN : a < m.length := by omega
    obtain ⟨p, hp⟩ : ∃ p, p = (aF m a c).natAbs := ⟨_, rfl⟩;rw [<- hp] at hY hF;have hp1 : 1 <= p := by omega
    have FV : p <= M := by rw [hp]; exact hM a b1 pN
    have Gv : M * B <= Y := by
      refine oI ?_ hY;rw [Nat.mul_comm M B];refine Nat.mul_le_mul_left _ ?_
      calc M = M * 1 * 1 := by omega
        _ <= M * M * p := Nat.mul_le_mul (Nat.mul_le_mul_left _ (by omega)) hp1
    have MX : B <= Y := oI (Nat.le_mul_of_pos_left B (by omega)) Gv;have qn : ∀ i, d <= i -> i < m.length -> Z3a (aF m i c) (aF m a c) := by
      intro i h2 h3;have s1 := hS i h2 h3;have s2 := hS a b1 pN;cases pos
      · exact .inr ⟨by simpa using s1, by have : aF m a c <= 0 := by simpa using s2
                                          omega⟩
      · exact .inl ⟨by simpa using s1, by have : 0 <= aF m a c := by simpa using s2
                                          omega⟩
    have hQ : ∀ i, d <= i -> i < m.length -> (aR (aF m i c) (aF m a c)).natAbs <= M / p := by
      intro i h2 h3;rw [Nat.le_div_iff_mul_le (by omega), hp];exact oI (lx _ _ (qn i h2 h3)).1 (hM i h2 h3)
    obtain ⟨m2, rest, e1, l2, w2, wQ, wP, p2, r2, c2, z2, t2⟩ := L2_ hK h1 hd hw hB hU hM ha (by omega) hQ;have yJ : (B + M / p * B) * p <= 2 * (M * B) := by
      rw [Nat.add_mul];have h5 : B * p <= M * B := by rw [Nat.mul_comm M B]; exact Nat.mul_le_mul_left _ FV
      have h6 : M / p * B * p <= M * B := by
        rw [Nat.mul_right_comm];exact Nat.mul_le_mul_right _ (Nat.div_mul_le_self M p)
      omega
    have hok : cF n m = true := mF hK h1 hw hB hU (by omega) (by omega);cases rest with
    | false =>
      have At : B + M / p * B <= 2 * Y := by
        have : B + M / p * B <= (B + M / p * B) * p := Nat.le_mul_of_pos_right _ (by omega);omega
      exact H8_ hK h1 hd hok ha e1 l2 w2 (fun i h2 h3 => (wQ i h2 h3).mono At) wP (by rw [p2]; exact b3) (z2 rfl) (by omega) sA
    | true =>
      obtain ⟨i, i1, i2, i3⟩ := t2 rfl;obtain ⟨k, k1, k2, k3⟩ := c2 i i1 i2;obtain ⟨a', xT⟩ : ∃ a', bP c d m2 (m2.length - d) = some a' := by
        cases hb : bP c d m2 (m2.length - d) with
        | none => exact absurd (j_ hb i (by omega) (by omega)) i3
        | some a' => exact ⟨a', rfl⟩
      obtain ⟨q1, q2, q3, q4⟩ := iG xT;obtain ⟨p', rF⟩ : ∃ p', p' = (aF m2 a' c).natAbs := ⟨_, rfl⟩;have AD : p' <= (aF m2 i c).natAbs := by rw [rF]; exact q4 i (by omega) (by omega) i3
      have hfs := lx _ _ (qn k k1 k2);have hlt : (aF m2 i c).natAbs < p := by rw [k3, hp]; exact (ig _ _ b3).2
      have xN : 2 * p' <= M := by
        have rR : aF m k c ≠ 0 := by
          intro h0;have h9 := hfs.2.1;rw [<- k3, h0] at h9;simp only [Int.natAbs_zero] at h9;omega
        have h7 := hfs.2.2.2 (b4 k k1 (by omega) rR);have h8 := hM k k1 k2;rw [<- k3] at h7;omega
      have rO : jd d c p m2 := by
        intro j j1 j2;by_cases hj : j = d
        · rw [hj, p2, hp]; exact oJ _
        · obtain ⟨k', wT, wR, sE⟩ := c2 j (by omega) (by omega)
          rw [sE, hp]; exact Nat.le_of_lt (ig _ _ b3).2
      have vl : lW d c pos m2 := by
        intro j j1 j2;by_cases hj : j = d
        · rw [hj, p2]; exact hS a b1 pN
        · obtain ⟨k', wT, wR, sE⟩ := c2 j (by omega) (by omega)
          rw [sE];have s2 := hS a b1 pN;have h9 := (lx _ _ (qn k' wT wR)).2.2.1;cases pos
          · have : aF m a c <= 0 := by simpa using s2
            have : bF (aF m k' c) (aF m a c) <= 0 := by rcases h9 with ⟨g1, g2⟩ | ⟨g1, g2⟩ <;> omega
            simpa using this
          · have : 0 <= aF m a c := by simpa using s2
            have : 0 <= bF (aF m k' c) (aF m a c) := by rcases h9 with ⟨g1, g2⟩ | ⟨g1, g2⟩ <;> omega
            simpa using this
      have Af : (B + M / p * B) * (p * p * (aF m2 a' c).natAbs) <= Y := by
        rw [<- rF]
        calc (B + M / p * B) * (p * p * p') = (B + M / p * B) * p * (p * p') := by simp only [Nat.mul_assoc]
          _ <= 2 * (M * B) * (p * p') := Nat.mul_le_mul_right _ yJ
          _ = M * B * p * (2 * p') := by simp only [Nat.mul_assoc, Nat.mul_left_comm, Nat.mul_comm]
          _ <= M * B * p * M := Nat.mul_le_mul_left _ xN
          _ = B * (M * M * p) := by simp only [Nat.mul_assoc, Nat.mul_left_comm, Nat.mul_comm]
          _ <= Y := hY
      obtain ⟨m', e', s'⟩ := B2_ hK h1 Ae sA pos f m2 (B + M / p * B) p a' (by omega) w2 wQ wP rO vl xT Af (by omega);exact ⟨m', (B3_ hok ha e1).trans e', ⟨s'.len.trans l2, s'.wid, s'.low, s'.upp, s'.pos, by rw [<- l2]; exact s'.zero, s'.red⟩⟩
theorem Z4C {n c d K U B F:Nat} {m:List (List Int)} (hK:K<=400000000) (h1:1<=K) (Ae:2*(3*(B*B*(B*B)))+2<10^K) (o5:B+2<10^K) (sA:U+2<10^K) (hF:B<F) (hd:d<m.length) (hw:bS n m) (hB:ef d B m) (hU:eG d U m) :
  (fI n c d F m=some (m,false)/\∀ i,d<=i->i<m.length->aF m i c=0)\/∃ m',fI n c d F m=some (m',true)/\me n d c (2*(3*(B*B*(B*B)))) U m m':=by
 obtain ⟨f,rfl⟩:∃ f,F=f+1:=⟨F-1,by omega⟩;have hok:cF n m=true:=mF hK h1 hw hB hU (by omega) (by omega);cases ha:bP c d m (m.length-d) with
 | none=>exact .inl ⟨by rw [fI,if_pos hok,ha],fun i h2 h3=>j_ ha i h2 (by omega)⟩
 | some a =>
  right;obtain ⟨b1,b2,b3,b4⟩:=iG ha;have pN:a<m.length:=by omega
  obtain ⟨p,hp⟩:∃ p,p=(aF m a c).natAbs:=⟨_,rfl⟩;have hM:jd d c B m:=fun i h2 h3=>(hB i h2 h3).getD c;have hp1:1<=p:=by omega
  have Cj:p<=B:=by rw [hp];exact hM a b1 pN
  have hQ:∀ i,d<=i->i<m.length->(aR (aF m i c) (aF m a c)).natAbs<=(2*B) / p:=by
   intro i h2 h3;rw [Nat.le_div_iff_mul_le (by omega),hp];have h5:=(ig (aF m i c) (aF m a c) b3).1;have h6:=hM i h2 h3;omega
  obtain ⟨m2,rest,e1,l2,w2,wQ,wP,p2,r2,c2,z2,t2⟩:=L2_ hK h1 hd hw hB hU hM ha o5 hQ;have yJ:(B+(2*B) / p*B)*p<=3*(B*B):=by
   rw [Nat.add_mul];have h5:B*p<=B*B:=Nat.mul_le_mul_left _ Cj;have h6:(2*B) / p*B*p<=2*B*B:=by
    rw [Nat.mul_right_comm];exact Nat.mul_le_mul_right _ (Nat.div_mul_le_self _ p)
   have h7:2*B*B=2*(B*B):=Nat.mul_assoc _ _ _;omega
  have MY:B*B<=B*B*(B*B):=Nat.le_mul_of_pos_right _ (Nat.mul_pos (by omega) (by omega));cases rest with
  | false =>
   have At:B+(2*B) / p*B<=2*(3*(B*B*(B*B))):=by
    have:B+(2*B) / p*B<=(B+(2*B) / p*B)*p:=Nat.le_mul_of_pos_right _ (by omega);omega
   exact H8_ hK h1 hd hok ha e1 l2 w2 (fun i h2 h3=>(wQ i h2 h3).mono At) wP (by rw [p2];exact b3) (z2 rfl) (by omega) sA
  | true =>
   obtain ⟨i,i1,i2,i3⟩:=t2 rfl;obtain ⟨k,k1,k2,k3⟩:=c2 i i1 i2;obtain ⟨a',xT⟩:∃ a',bP c d m2 (m2.length-d)=some a':=by
    cases hb:bP c d m2 (m2.length-d) with
    | none=>exact absurd (j_ hb i (by omega) (by omega)) i3
    | some a'=>exact ⟨a',rfl⟩
   obtain ⟨q1,q2,q3,q4⟩:=iG xT;obtain ⟨p',rF⟩:∃ p',p'=(aF m2 a' c).natAbs:=⟨_,rfl⟩;have AD:p'<=(aF m2 i c).natAbs:=by rw [rF];exact q4 i (by omega) (by omega) i3
   have hlt:(aF m2 i c).natAbs<p:=by rw [k3,hp];exact (ig _ _ b3).2
   have rO:jd d c p m2:=by
    intro j j1 j2;by_cases hj:j=d
    ·rw [hj,p2,hp];exact oJ _
    ·obtain ⟨k',wT,wR,sE⟩:=c2 j (by omega) (by omega);rw [sE,hp];exact Nat.le_of_lt (ig _ _ b3).2
   have vl:lW d c (decide (0<aF m a c)) m2:=by
    intro j j1 j2;have xM:0<aF m a c->0<=aF m2 j c:=by
     intro pK;by_cases hj:j=d
     ·rw [hj,p2];omega
     ·obtain ⟨k',wT,wR,sE⟩:=c2 j (by omega) (by omega);rw [sE];exact (kG _ _ pK).1
    have Fz:aF m a c<0->aF m2 j c<=0:=by
     intro hneg;by_cases hj:j=d
     ·rw [hj,p2];omega
     ·obtain ⟨k',wT,wR,sE⟩:=c2 j (by omega) (by omega);rw [sE];exact (ly _ _ hneg).2
    by_cases pK:0<aF m a c
    ·simp only [pK,decide_true,if_true];exact xM pK
    ·simp only [pK,decide_false];exact Fz (by omega)
   have Af:(B+(2*B) / p*B)*(p*p*(aF m2 a' c).natAbs)<=3*(B*B*(B*B)):=by
    rw [<- rF]
    calc (B+(2*B) / p*B)*(p*p*p')=(B+(2*B) / p*B)*p*(p*p'):=by simp only [Nat.mul_assoc]
     _<=3*(B*B)*(p*p'):=Nat.mul_le_mul_right _ yJ
     _<=3*(B*B)*(B*B):=Nat.mul_le_mul_left _ (Nat.mul_le_mul Cj (by omega))
     _=3*(B*B*(B*B)):=Nat.mul_assoc _ _ _
   obtain ⟨m',e',s'⟩:=B2_ hK h1 Ae sA (decide (0<aF m a c)) f m2 (B+(2*B) / p*B) p a' (by omega) w2 wQ wP rO vl xT Af (by omega);exact ⟨m',(B3_ hok ha e1).trans e',⟨s'.len.trans l2,s'.wid,s'.low,s'.upp,s'.pos,by rw [<- l2];exact s'.zero,s'.red⟩⟩
structure CoR (n d c C U:Nat) (m m':List (List Int)):Prop where
 len:m'.length=m.length
 wid:bS n m'
 low:ef d C m'
 upp:eG d U m'
 pos:aF m' d c≠0
 zero:∀ i,d<i->i<m.length->aF m' i c=0
theorem g8_ {n c d a f:Nat} {m m2:List (List Int)} (hok:cF n m=true) (ha:bP c d m (m.length-d)=some a) (pI:dA c d (bR m d a) (m.length-(d+1))=some (m2,true)):dU n c d (f+1) m=dU n c d f m2:=by
 rw [jL,if_pos hok,ha];simp only;rw [pI]
theorem u7_ {n c d a f K C U:Nat} {m m2:List (List Int)} (hK:K<=400000000) (h1:1<=K) (hd:d<m.length) (hok:cF n m=true) (ha:bP c d m (m.length-d)=some a) (pI:dA c d (bR m d a) (m.length-(d+1))=some (m2,false))
  (l2:m2.length=m.length) (hw:bS n m2) (hC:ef d C m2) (hU:eG d U m2) (hp:aF m2 d c≠0) (hz:∀ i,d<i->i<m.length->aF m2 i c=0) (ze:C<10^K) (sA:U+2<10^K) :
  ∃ m',dU n c d (f+1) m=some (m',true)/\CoR n d c C U m m' :=
 ⟨m2,by rw [jL,if_pos hok,ha];simp only;rw [pI],⟨l2,hw,hC,hU,hp,hz⟩⟩
theorem g7_ {n c d K U Y:Nat} (hK:K<=400000000) (h1:1<=K) (Ae:2*Y+2<10^K) (sA:U+2<10^K) (pos:Bool) :
  ∀ (F:Nat) (m:List (List Int)) (B M a:Nat),d<m.length->bS n m->ef d B m->eG d U m->jd d c M m->lW d c pos m->bP c d m (m.length-d)=some a->B*(M*M*(aF m a c).natAbs)<=Y->(aF m a c).natAbs<F ->
   ∃ m',dU n c d F m=some (m',true)/\CoR n d c (2*Y) U m m'
 | 0,m,B,M,a,_,_,_,_,_,_,_,_,hF=>by omega
 | f+1,m,B,M,a,hd,hw,hB,hU,hM,hS,ha,hY,hF=>by
  obtain ⟨b1,b2,b3,b4⟩:=iG ha;have pN:a<m.length:=by omega
  obtain ⟨p,hp⟩:∃ p,p=(aF m a c).natAbs:=⟨_,rfl⟩;rw [<- hp] at hY hF;have hp1:1<=p:=by omega
  have FV:p<=M:=by rw [hp];exact hM a b1 pN
  have Gv:M*B<=Y:=by
   refine oI ?_ hY;rw [Nat.mul_comm M B];refine Nat.mul_le_mul_left _ ?_
   calc M=M*1*1:=by omega
    _<=M*M*p:=Nat.mul_le_mul (Nat.mul_le_mul_left _ (by omega)) hp1
  have MX:B<=Y:=oI (Nat.le_mul_of_pos_left B (by omega)) Gv;have qn:∀ i,d<=i->i<m.length->Z3a (aF m i c) (aF m a c):=by
   intro i h2 h3;have s1:=hS i h2 h3;have s2:=hS a b1 pN;cases pos
   ·exact .inr ⟨by simpa using s1,by have:aF m a c<=0:=(by simpa using s2);omega⟩
   ·exact .inl ⟨by simpa using s1,by have:0<=aF m a c:=(by simpa using s2);omega⟩
  have hQ:∀ i,d<=i->i<m.length->(aR (aF m i c) (aF m a c)).natAbs<=M / p:=by
   intro i h2 h3;rw [Nat.le_div_iff_mul_le (by omega),hp];exact oI (lx _ _ (qn i h2 h3)).1 (hM i h2 h3)
  obtain ⟨m2,rest,e1,l2,w2,wQ,wP,p2,r2,c2,z2,t2⟩:=L2_ hK h1 hd hw hB hU hM ha (by omega) hQ;have yJ:(B+M / p*B)*p<=2*(M*B):=by
   rw [Nat.add_mul];have h5:B*p<=M*B:=by rw [Nat.mul_comm M B];exact Nat.mul_le_mul_left _ FV
   have h6:M / p*B*p<=M*B:=by
    rw [Nat.mul_right_comm];exact Nat.mul_le_mul_right _ (Nat.div_mul_le_self M p)
   omega
  have hok:cF n m=true:=mF hK h1 hw hB hU (by omega) (by omega);cases rest with
  | false =>
   have At:B+M / p*B<=2*Y:=by
    have:B+M / p*B<=(B+M / p*B)*p:=Nat.le_mul_of_pos_right _ (by omega);omega
   exact u7_ hK h1 hd hok ha e1 l2 w2 (fun i h2 h3=>(wQ i h2 h3).mono At) wP (by rw [p2];exact b3) (z2 rfl) (by omega) sA
  | true =>
   obtain ⟨i,i1,i2,i3⟩:=t2 rfl;obtain ⟨k,k1,k2,k3⟩:=c2 i i1 i2;obtain ⟨a',xT⟩:∃ a',bP c d m2 (m2.length-d)=some a':=by
    cases hb:bP c d m2 (m2.length-d) with
    | none=>exact absurd (j_ hb i (by omega) (by omega)) i3
    | some a'=>exact ⟨a',rfl⟩
   obtain ⟨q1,q2,q3,q4⟩:=iG xT;obtain ⟨p',rF⟩:∃ p',p'=(aF m2 a' c).natAbs:=⟨_,rfl⟩;have AD:p'<=(aF m2 i c).natAbs:=by rw [rF];exact q4 i (by omega) (by omega) i3
   have hfs:=lx _ _ (qn k k1 k2);have hlt:(aF m2 i c).natAbs<p:=by rw [k3,hp];exact (ig _ _ b3).2
   have xN:2*p'<=M:=by
    have rR:aF m k c≠0:=by
     intro h0;have h9:=hfs.2.1;rw [<- k3,h0] at h9;simp only [Int.natAbs_zero] at h9;omega
    have h7:=hfs.2.2.2 (b4 k k1 (by omega) rR);have h8:=hM k k1 k2;rw [<- k3] at h7;omega
   have rO:jd d c p m2:=by
    intro j j1 j2;by_cases hj:j=d
    ·rw [hj,p2,hp];exact oJ _
    ·obtain ⟨k',wT,wR,sE⟩:=c2 j (by omega) (by omega);rw [sE,hp];exact Nat.le_of_lt (ig _ _ b3).2
   have vl:lW d c pos m2:=by
    intro j j1 j2;by_cases hj:j=d
    ·rw [hj,p2];exact hS a b1 pN
    ·obtain ⟨k',wT,wR,sE⟩:=c2 j (by omega) (by omega);rw [sE];have s2:=hS a b1 pN;have h9:=(lx _ _ (qn k' wT wR)).2.2.1;cases pos
     ·have:aF m a c<=0:=by simpa using s2
      have:bF (aF m k' c) (aF m a c)<=0:=by rcases h9 with ⟨g1,g2⟩ | ⟨g1,g2⟩ <;> omega
      simpa using this
     ·have:0<=aF m a c:=by simpa using s2
      have:0<=bF (aF m k' c) (aF m a c):=by rcases h9 with ⟨g1,g2⟩ | ⟨g1,g2⟩ <;> omega
      simpa using this
   have Af:(B+M / p*B)*(p*p*(aF m2 a' c).natAbs)<=Y:=by
    rw [<- rF]
    calc (B+M / p*B)*(p*p*p')=(B+M / p*B)*p*(p*p'):=by simp only [Nat.mul_assoc]
     _<=2*(M*B)*(p*p'):=Nat.mul_le_mul_right _ yJ
     _=M*B*p*(2*p'):=by simp only [Nat.mul_assoc,Nat.mul_left_comm,Nat.mul_comm]
     _<=M*B*p*M:=Nat.mul_le_mul_left _ xN
     _=B*(M*M*p):=by simp only [Nat.mul_assoc,Nat.mul_left_comm,Nat.mul_comm]
     _<=Y:=hY
   obtain ⟨m',e',s'⟩:=g7_ hK h1 Ae sA pos f m2 (B+M / p*B) p a' (by omega) w2 wQ wP rO vl xT Af (by omega);exact ⟨m',(g8_ hok ha e1).trans e',⟨s'.len.trans l2,s'.wid,s'.low,s'.upp,s'.pos,by rw [<- l2];exact s'.zero⟩⟩
theorem Z5Q {n c d K U B F:Nat} {m:List (List Int)} (hK:K<=400000000) (h1:1<=K) (Ae:2*(3*(B*B*(B*B)))+2<10^K) (o5:B+2<10^K) (sA:U+2<10^K) (hF:B<F) (hd:d<m.length) (hw:bS n m) (hB:ef d B m) (hU:eG d U m) :
  (dU n c d F m=some (m,false)/\∀ i,d<=i->i<m.length->aF m i c=0)\/∃ m',dU n c d F m=some (m',true)/\CoR n d c (2*(3*(B*B*(B*B)))) U m m':=by
 obtain ⟨f,rfl⟩:∃ f,F=f+1:=⟨F-1,by omega⟩;have hok:cF n m=true:=mF hK h1 hw hB hU (by omega) (by omega);cases ha:bP c d m (m.length-d) with
 | none=>exact .inl ⟨by rw [jL,if_pos hok,ha],fun i h2 h3=>j_ ha i h2 (by omega)⟩
 | some a =>
  right;obtain ⟨b1,b2,b3,b4⟩:=iG ha;have pN:a<m.length:=by omega
  obtain ⟨p,hp⟩:∃ p,p=(aF m a c).natAbs:=⟨_,rfl⟩;have hM:jd d c B m:=fun i h2 h3=>(hB i h2 h3).getD c;have hp1:1<=p:=by omega
  have Cj:p<=B:=by rw [hp];exact hM a b1 pN
  have hQ:∀ i,d<=i->i<m.length->(aR (aF m i c) (aF m a c)).natAbs<=(2*B) / p:=by
   intro i h2 h3;rw [Nat.le_div_iff_mul_le (by omega),hp];have h5:=(ig (aF m i c) (aF m a c) b3).1;have h6:=hM i h2 h3;omega
  obtain ⟨m2,rest,e1,l2,w2,wQ,wP,p2,r2,c2,z2,t2⟩:=L2_ hK h1 hd hw hB hU hM ha o5 hQ;have yJ:(B+(2*B) / p*B)*p<=3*(B*B):=by
   rw [Nat.add_mul];have h5:B*p<=B*B:=Nat.mul_le_mul_left _ Cj;have h6:(2*B) / p*B*p<=2*B*B:=by
    rw [Nat.mul_right_comm];exact Nat.mul_le_mul_right _ (Nat.div_mul_le_self _ p)
   have h7:2*B*B=2*(B*B):=Nat.mul_assoc _ _ _;omega
  have MY:B*B<=B*B*(B*B):=Nat.le_mul_of_pos_right _ (Nat.mul_pos (by omega) (by omega));cases rest with
  | false =>
   have At:B+(2*B) / p*B<=2*(3*(B*B*(B*B))):=by
    have:B+(2*B) / p*B<=(B+(2*B) / p*B)*p:=Nat.le_mul_of_pos_right _ (by omega);omega
   exact u7_ hK h1 hd hok ha e1 l2 w2 (fun i h2 h3=>(wQ i h2 h3).mono At) wP (by rw [p2];exact b3) (z2 rfl) (by omega) sA
  | true =>
   obtain ⟨i,i1,i2,i3⟩:=t2 rfl;obtain ⟨k,k1,k2,k3⟩:=c2 i i1 i2;obtain ⟨a',xT⟩:∃ a',bP c d m2 (m2.length-d)=some a':=by
    cases hb:bP c d m2 (m2.length-d) with
    | none=>exact absurd (j_ hb i (by omega) (by omega)) i3
    | some a'=>exact ⟨a',rfl⟩
   obtain ⟨q1,q2,q3,q4⟩:=iG xT;obtain ⟨p',rF⟩:∃ p',p'=(aF m2 a' c).natAbs:=⟨_,rfl⟩;have AD:p'<=(aF m2 i c).natAbs:=by rw [rF];exact q4 i (by omega) (by omega) i3
   have hlt:(aF m2 i c).natAbs<p:=by rw [k3,hp];exact (ig _ _ b3).2
   have rO:jd d c p m2:=by
    intro j j1 j2;by_cases hj:j=d
    ·rw [hj,p2,hp];exact oJ _
    ·obtain ⟨k',wT,wR,sE⟩:=c2 j (by omega) (by omega);rw [sE,hp];exact Nat.le_of_lt (ig _ _ b3).2
   have vl:lW d c (decide (0<aF m a c)) m2:=by
    intro j j1 j2;have xM:0<aF m a c->0<=aF m2 j c:=by
     intro pK;by_cases hj:j=d
     ·rw [hj,p2];omega
     ·obtain ⟨k',wT,wR,sE⟩:=c2 j (by omega) (by omega);rw [sE];exact (kG _ _ pK).1
    have Fz:aF m a c<0->aF m2 j c<=0:=by
     intro hneg;by_cases hj:j=d
     ·rw [hj,p2];omega
     ·obtain ⟨k',wT,wR,sE⟩:=c2 j (by omega) (by omega);rw [sE];exact (ly _ _ hneg).2
    by_cases pK:0<aF m a c
    ·simp only [pK,decide_true,if_true];exact xM pK
    ·simp only [pK,decide_false];exact Fz (by omega)
   have Af:(B+(2*B) / p*B)*(p*p*(aF m2 a' c).natAbs)<=3*(B*B*(B*B)):=by
    rw [<- rF]
    calc (B+(2*B) / p*B)*(p*p*p')=(B+(2*B) / p*B)*p*(p*p'):=by simp only [Nat.mul_assoc]
     _<=3*(B*B)*(p*p'):=Nat.mul_le_mul_right _ yJ
     _<=3*(B*B)*(B*B):=Nat.mul_le_mul_left _ (Nat.mul_le_mul Cj (by omega))
     _=3*(B*B*(B*B)):=Nat.mul_assoc _ _ _
   obtain ⟨m',e',s'⟩:=g7_ hK h1 Ae sA (decide (0<aF m a c)) f m2 (B+(2*B) / p*B) p a' (by omega) w2 wQ wP rO vl xT Af (by omega);exact ⟨m',(g8_ hok ha e1).trans e',⟨s'.len.trans l2,s'.wid,s'.low,s'.upp,s'.pos,by rw [<- l2];exact s'.zero⟩⟩
def gN:Nat->Nat->Nat->Nat×Nat
 | 0,b,u=>(b,u)
 | r+1,b,u=>gN r (4*b+1) (u+4*b+2)
theorem Z3A:∀ r b u,b<=(gN r b u).1/\u<=(gN r b u).2
 | 0,b,u=>⟨oJ _,oJ _⟩
 | r+1,b,u=>by
  have:=Z3A r (4*b+1) (u+4*b+2);unfold gN;omega
theorem Z6D (b:Nat):10^b*10^b*(10^b*10^b)=10^(4*b):=by
 rw [<- Nat.pow_add,<- Nat.pow_add];congr 1;omega
theorem lO {a b:Nat} (h:a<=b):10^a<=10^b:=Nat.pow_le_pow_right (by decide) h
theorem V5_ (b:Nat):10^(b+1)=10*10^b:=by rw [Nat.pow_succ,Nat.mul_comm]
theorem I7_ (b:Nat):1<=10^b:=Nat.pos_of_ne_zero (by simp)
theorem i1_ {d:Nat} {A B C:Nat} {m:List (List Int)} (hl:ef d A m) (hu:eG d B m) (hA:A<=C) (hB:B<=C) (e:Nat):eG e C m:=by
 intro i h1 h2;by_cases h:i<d
 ·exact (hu i h h2).mono hB
 ·exact (hl i (by omega) h2).mono hA
inductive Sp (n:Nat) (S:List Int->Prop):List Int->Prop
 | zero:Sp n S (List.replicate n 0)
 | mem {r} (h:S r):Sp n S r
 | less {r s} (k:Int) (h:Sp n S r) (h':Sp n S s):Sp n S (an k r s)
def mV (n:Nat) (S:List Int->Prop):Prop:=∀ r,S r->r.length=n
theorem Sp.len {n:Nat} {S:List Int->Prop} (hS:mV n S) {r:List Int} (h:Sp n S r):r.length=n:=by
 induction h with
 | zero=>simp
 | mem h=>exact hS _ h
 | less k h h' ih ih'=>rw [ir];exact ih
theorem Sp.mono {n:Nat} {S T:List Int->Prop} (hS:∀ r,S r->Sp n T r) {r:List Int} (h:Sp n S r):Sp n T r:=by
 induction h with
 | zero=>exact .zero
 | mem h=>exact hS _ h
 | less k h h' ih ih'=>exact .less k ih ih'
theorem Sp.zeroCol {n c:Nat} {S:List Int->Prop} (hS:mV n S) (hz:∀ r,S r->r.getD c 0=0) {r:List Int} (h:Sp n S r):r.getD c 0=0:=by
 induction h with
 | zero =>
  rw [oC];by_cases hc:c<n
  ·rw [n9 (by simpa using hc)];simp
  ·rw [oK (by simp;omega)];rfl
 | mem h=>exact hz _ h
 | less k h h' ih ih' =>
  rw [jS k (by rw [h.len hS,h'.len hS]),ih,ih'];simp
theorem Q8_ (k:Int):∀ (r s:List Int),an (-k) (an k r s) s=r
 | r,[]=>by
  have h1:an k r []=r:=by cases r <;> rfl
  rw [h1];cases r <;> rfl
 | [],_::_=>rfl
 | a::r,b::s=>by
  have e:an (-k) (an k (a::r) (b::s)) (b::s)=(a-k*b - -k*b)::an (-k) (an k r s) s:=rfl;rw [e,Q8_ k r s,Int.neg_mul];congr 1;omega
theorem r4_:∀ (r:List Int),an 1 (List.replicate r.length 0) r=r.map (- ·)
 | []=>rfl
 | a::r=>by
  have e:an 1 (List.replicate (a::r).length 0) (a::r)=(0-1*a)::an 1 (List.replicate r.length 0) r:=rfl;rw [e,r4_ r,List.map_cons];congr 1;omega
theorem Sp.neg {n:Nat} {S:List Int->Prop} {r:List Int} (h:Sp n S r) (hl:r.length=n):Sp n S (r.map (- ·)):=by
 rw [<- r4_,hl];exact .less 1 .zero h
theorem D5_ {k:Int} {r s r':List Int} (h:fR k r s=some r'):r'=an k r s:=by
 unfold fR at h
 split at h
 ·rename_i h0;rw [h0,jr];exact (oL h).symm
 ·split at h
  ·exact (oL h).symm
  ·cases h
def bD (d:Nat) (m:List (List Int)):List Int->Prop:=fun r=>∃ i,d<=i/\i<m.length/\aG m i=r
def cH (n:Nat) (S T:List Int->Prop):Prop:=(∀ r,S r->Sp n T r)/\(∀ r,T r->Sp n S r)
theorem cH.refl (n:Nat) (S:List Int->Prop):cH n S S:=⟨fun _ h=>.mem h,fun _ h=>.mem h⟩
theorem cH.trans {n:Nat} {S T V:List Int->Prop} (h:cH n S T) (k:cH n T V):cH n S V:=⟨fun r hr=>(h.1 r hr).mono k.1,fun r hr=>(k.2 r hr).mono h.2⟩
theorem cH.iff {n:Nat} {S T:List Int->Prop} (h:cH n S T) (r:List Int):Sp n S r↔Sp n T r:=⟨fun hr=>hr.mono h.1,fun hr=>hr.mono h.2⟩
theorem fH {n d:Nat} {m:List (List Int)} (hw:bS n m):mV n (bD d m):=by rintro r ⟨i,-,hi,rfl⟩;exact hw i hi
theorem bf {d i:Nat} {m:List (List Int)} (h1:d<=i) (h2:i<m.length):bD d m (aG m i):=⟨i,h1,h2,rfl⟩
theorem Z2X {n d a:Nat} {m:List (List Int)} (hd:d<m.length) (ha:a<m.length) (yF:d<=a):cH n (bD d m) (bD d (bR m d a)):=by
 have hr:=mO hd ha;have hl:=kd m d a;constructor
 ·rintro r ⟨i,h1,h2,rfl⟩;refine .mem ?_;by_cases e1:i=a
  ·refine ⟨d,oJ _,by omega,?_⟩;rw [hr,e1];by_cases e2:d=a
   ·rw [if_pos e2,e2]
   ·rw [if_neg e2,if_pos rfl]
  ·by_cases e2:i=d
   ·exact ⟨a,yF,by omega,by rw [hr,if_pos rfl,e2]⟩
   ·exact ⟨i,h1,by omega,by rw [hr,if_neg e1,if_neg e2]⟩
 ·rintro r ⟨i,h1,h2,rfl⟩;refine .mem ?_;rw [hr];by_cases e1:i=a
  ·rw [if_pos e1];exact bf (oJ _) hd
  ·rw [if_neg e1];by_cases e2:i=d
   ·rw [if_pos e2];exact bf yF ha
   ·rw [if_neg e2];exact bf h1 (by omega)
theorem A8_ {c d:Nat} {m:List (List Int)}:∀ {k m' rest},dA c d m k=some (m',rest)->d+1+k<=m.length->∀ i,d<i->i<d+1+k->∃ q,aG m' i=an q (aG m i) (aG m d)
 | 0,m',rest,h,hk,i,h1,h2=>by omega
 | k+1,m',rest,h,hk,i,h1,h2=>by
  obtain ⟨m1,r1,r,e1,e2,e3,e4⟩:=W9_ h;obtain ⟨l1,l2,l3⟩:=ky e1 (by omega);simp only [Prod.mk.injEq] at e4;obtain ⟨rfl,-⟩:=e4;rw [fY (by omega)];by_cases he:i=d+1+k
  ·rw [if_pos he,D5_ e3,l2 d (.inl (oJ _)),l2 (d+1+k) (.inr (oJ _)),he];exact ⟨_,rfl⟩
  ·rw [if_neg he];exact A8_ e1 (by omega) i h1 (by omega)
theorem Z50 {c d:Nat} {m:List (List Int)}:∀ {k m'},ev c d m k=some m'->k<=d->d<m.length->∀ i,i<k->∃ q,aG m' i=an q (aG m i) (aG m d)
 | 0,m',h,hk,hd,i,h1=>by omega
 | k+1,m',h,hk,hd,i,h1=>by
  obtain ⟨m1,r,e1,e2,e3,rfl⟩:=L6_ h;obtain ⟨l1,l2,l3⟩:=v4_ e1 (by omega) hd;rw [fY (by omega)];by_cases he:i=k
  ·rw [if_pos he,D5_ e3,l2 d (by omega),l2 k (oJ _),he];exact ⟨_,rfl⟩
  ·rw [if_neg he];exact Z50 e1 (by omega) hd i (by omega)
theorem Z1k {n c d k:Nat} {m m':List (List Int)} {rest:Bool} (h:dA c d m k=some (m',rest)) (hk:d+1+k<=m.length):cH n (bD d m) (bD d m'):=by
 obtain ⟨l1,l2,l3⟩:=ky h hk;have hd:aG m' d=aG m d:=l2 d (.inl (oJ _));constructor
 ·rintro r ⟨i,h1,h2,rfl⟩;by_cases he:d<i/\i<d+1+k
  ·obtain ⟨q,hq⟩:=A8_ h hk i he.1 he.2;rw [<- Q8_ q (aG m i) (aG m d),<- hq,<- hd];exact .less _ (.mem (bf h1 (by omega))) (.mem (bf (oJ _) (by omega)))
  ·rw [<- l2 i (by omega)];exact .mem (bf h1 (by omega))
 ·rintro r ⟨i,h1,h2,rfl⟩;by_cases he:d<i/\i<d+1+k
  ·obtain ⟨q,hq⟩:=A8_ h hk i he.1 he.2;rw [hq];exact .less _ (.mem (bf h1 (by omega))) (.mem (bf (oJ _) (by omega)))
  ·rw [l2 i (by omega)];exact .mem (bf h1 (by omega))
structure SwK (n d:Nat) (m m':List (List Int)):Prop where
 len:m'.length=m.length
 wid:bS n m'
 sp:cH n (bD d m) (bD d m')
 ahead:∀ i,i<d->∃ q,aG m' i=an q (aG m i) (aG m' d)
theorem o9_ {n c d:Nat}:∀ {F:Nat} {m m':List (List Int)} {b:Bool},fI n c d F m=some (m',b)->d<m.length->bS n m->SwK n d m m'
 | 0,m,m',b,h,hd,hw=>by cases h
 | f+1,m,m',b,h,hd,hw=>by
  rw [fI] at h;by_cases hok:cF n m=true
  ·rw [if_pos hok] at h;cases ha:bP c d m (m.length-d) with
   | none =>
    rw [ha] at h;simp only [Option.some.injEq,Prod.mk.injEq] at h;obtain ⟨rfl,-⟩:=h;exact ⟨rfl,hw,cH.refl _ _,fun i _=>⟨0,(jr _ _).symm⟩⟩
   | some a =>
    rw [ha] at h;simp only at h;obtain ⟨b1,b2,b3,b4⟩:=iG ha;have pN:a<m.length:=by omega
    have hsl:=kd m d a;have yO:bS n (bR m d a):=by
     intro i hi;rw [mO hd pN]
     split
     ·exact hw d hd
     ·split
      ·exact hw a pN
      ·exact hw i (by omega)
    cases pI:dA c d (bR m d a) (m.length-(d+1)) with
    | none=>rw [pI] at h;cases h
    | some y =>
     obtain ⟨m2,rest⟩:=y;rw [pI] at h;obtain ⟨l1,l2,l3⟩:=ky pI (by omega);have pZ:bS n m2:=fun i hi=>by rw [l3 i];exact yO i (by omega)
     have hsp:cH n (bD d m) (bD d m2):=(Z2X hd pN b1).trans (Z1k pI (by omega));have DI:∀ i,i<d->aG m2 i=aG m i:=fun i hi=>by
      rw [l2 i (.inl (by omega)),mO hd pN,if_neg (by omega),if_neg (by omega)]
     cases rest with
     | true =>
      simp only at h;have s:=o9_ h (by omega) pZ;refine ⟨by rw [s.len,l1,hsl],s.wid,hsp.trans s.sp,fun i hi=>?_⟩;obtain ⟨q,hq⟩:=s.ahead i hi;rw [DI i hi] at hq;exact ⟨q,hq⟩
     | false =>
      simp only at h;by_cases tS:cF n m2=true
      ·rw [if_pos tS] at h;obtain ⟨m3,vI⟩:∃ m3,m3=(if aF m2 d c<0 then m2.set d ((aG m2 d).map (- ·)) else m2):=⟨_,rfl⟩;rw [<- vI] at h;have hd2:d<m2.length:=by omega
       have NW:m3.length=m2.length:=by rw [vI];split <;> simp
       have r3:∀ i,i≠d->aG m3 i=aG m2 i:=by
        intro i hi;rw [vI];split
        ·rw [fY hd2,if_neg hi]
        ·rfl
       have d3:aG m3 d=aG m2 d\/aG m3 d=(aG m2 d).map (- ·):=by
        rw [vI];split
        ·rw [fY hd2,if_pos rfl];exact .inr rfl
        ·exact .inl rfl
       have Bb:∀ r:List Int,(r.map (- ·)).map (- ·)=r:=fun r=>by
        rw [List.map_map];have:((fun x:Int=>-x) ∘ fun x:Int=>-x)=id:=by funext x;simp
        rw [this,List.map_id]
       have Kj:cH n (bD d m2) (bD d m3):=by
        constructor
        ·rintro r ⟨i,h1,h2,rfl⟩;by_cases he:i=d
         ·rw [he];rcases d3 with e | e
          ·rw [<- e];exact .mem (bf (oJ _) (by omega))
          ·rw [<- Bb (aG m2 d),<- e];refine (Sp.mem (bf (oJ _) (by omega))).neg ?_;rw [e,List.length_map];exact pZ d hd2
         ·rw [<- r3 i he];exact .mem (bf h1 (by omega))
        ·rintro r ⟨i,h1,h2,rfl⟩;by_cases he:i=d
         ·rw [he];rcases d3 with e | e
          ·rw [e];exact .mem (bf (oJ _) hd2)
          ·rw [e];exact (Sp.mem (bf (oJ _) hd2)).neg (pZ d hd2)
         ·rw [r3 i he];exact .mem (bf h1 (by omega))
       have hw3:bS n m3:=by
        intro i hi;by_cases he:i=d
        ·rw [he];rcases d3 with e | e
         ·rw [e];exact pZ d hd2
         ·rw [e,List.length_map];exact pZ d hd2
        ·rw [r3 i he];exact pZ i (by omega)
       cases hu:ev c d m3 d with
       | none=>rw [hu] at h;cases h
       | some m4 =>
        rw [hu] at h;simp only [Option.some.injEq,Prod.mk.injEq] at h;obtain ⟨rfl,-⟩:=h;obtain ⟨u1,u2,u3⟩:=v4_ hu (oJ _) (by omega);refine ⟨by omega,fun i hi=>by rw [u3 i];exact hw3 i (by omega),(hsp.trans Kj).trans ?_,fun i hi=>?_⟩
        ·constructor
         ·rintro r ⟨i,h1,h2,rfl⟩;rw [<- u2 i h1];exact .mem (bf h1 (by omega))
         ·rintro r ⟨i,h1,h2,rfl⟩;rw [u2 i h1];exact .mem (bf h1 (by omega))
        ·obtain ⟨q,hq⟩:=Z50 hu (oJ _) (by omega) i hi;refine ⟨q,?_⟩;rw [hq,u2 d (oJ _),r3 i (by omega),DI i hi]
      ·rw [if_neg tS] at h;cases h
  ·rw [if_neg hok] at h;cases h
structure HP (m:List (List Int)) (d c:Nat) (ps:Nat->Nat):Prop where
 lt:∀ i,i<d->ps i<c
 mono:∀ i j,i<j->j<d->ps i<ps j
 zero:∀ i,i<d->∀ c',c'<ps i->aF m i c'=0
 pos:∀ i,i<d->0<aF m i (ps i)
 red:∀ i j,i<j->j<d->0<=aF m i (ps j)/\aF m i (ps j)<aF m j (ps j)
 rest:∀ i,d<=i->i<m.length->∀ c',c'<c->aF m i c'=0
theorem HP.step {n c d C U:Nat} {m m':List (List Int)} {ps:Nat->Nat} (h:HP m d c ps) (hd:d<m.length) (hw:bS n m) (s:me n d c C U m m') (k:SwK n d m m'):HP m' (d+1) (c+1) (fun i=>if i<d then ps i else c):=by
 have hz:∀ i,d<=i->i<m'.length->∀ c',c'<c->aF m' i c'=0:=by
  intro i h1 h2 c' hc;have hi:Sp n (bD d m) (aG m' i):=k.sp.2 _ (bf h1 h2);exact hi.zeroCol (fH hw) (by rintro r ⟨j,j1,j2,rfl⟩;exact h.rest j j1 j2 c' hc)
 have pX:∀ i,i<d->∀ c',c'<c->aF m' i c'=aF m i c':=by
  intro i hi c' hc;obtain ⟨q,hq⟩:=k.ahead i hi;have h0:=hz d (oJ _) (by rw [s.len];exact hd) c' hc;show (aG m' i).getD c' 0=_;rw [hq,jS q (by rw [s.wid d (by rw [s.len];exact hd),hw i (by omega)])];have h1:(aG m' d).getD c' 0=0:=h0;rw [h1];simp;rfl
 refine ⟨fun i hi=>?_,fun i j qK hj=>?_,fun i hi c' hc=>?_,fun i hi=>?_,fun i j qK hj=>?_,fun i h1 h2 c' hc=>?_⟩
 ·split
  ·rename_i qR;have:=h.lt i qR;omega
  ·omega
 ·rw [if_pos (show i<d by omega)]
  split
  ·rename_i qR;exact h.mono i j qK qR
  ·exact h.lt i (by omega)
 ·split at hc
  ·rename_i qR;rw [pX i qR c' (by have:=h.lt i qR;omega)];exact h.zero i qR c' hc
  ·obtain rfl:i=d:=by omega
   exact hz i (oJ _) (by rw [s.len];exact hd) c' hc
 ·split
  ·rename_i qR;rw [pX i qR _ (h.lt i qR)];exact h.pos i qR
  ·obtain rfl:i=d:=by omega
   exact s.pos
 ·split
  ·rename_i qR;rw [pX i (by omega) _ (h.lt j qR),pX j qR _ (h.lt j qR)];exact h.red i j qK qR
  ·obtain rfl:j=d:=by omega
   exact s.red i qK
 ·by_cases pd:c'=c
  ·rw [pd];exact s.zero i (by omega) (by rw [<- s.len];exact h2)
  ·exact hz i (by omega) h2 c' (by omega)
theorem Z6c {n d:Nat} {m m':List (List Int)} (k:SwK n d m m') (hd:d<m.length):cH n (bD 0 m) (bD 0 m'):=by
 have hdm:∀ {x:List (List Int)} {r},bD d x r->bD 0 x r:=fun ⟨i,h1,h2,h3⟩=>⟨i,by omega,h2,h3⟩
 constructor
 ·rintro r ⟨i,-,h2,rfl⟩;by_cases hi:i<d
  ·obtain ⟨q,hq⟩:=k.ahead i hi;rw [<- Q8_ q (aG m i) (aG m' d),<- hq];exact .less _ (.mem (bf (by omega) (by rw [k.len];exact h2))) (.mem (bf (by omega) (by rw [k.len];exact hd)))
  ·exact (k.sp.1 _ (bf (by omega) h2)).mono fun r hr=>.mem (hdm hr)
 ·rintro r ⟨i,-,h2,rfl⟩;by_cases hi:i<d
  ·obtain ⟨q,hq⟩:=k.ahead i hi;rw [hq];refine .less _ (.mem (bf (by omega) (by omega))) ?_;exact (k.sp.2 _ (bf (oJ _) (by rw [k.len];exact hd))).mono fun r hr=>.mem (hdm hr)
  ·exact (k.sp.2 _ (bf (by omega) h2)).mono fun r hr=>.mem (hdm hr)
theorem A6_ {n K F:Nat} (hK:K<=400000000) :
  ∀ (k c d r b u:Nat) (m:List (List Int)) (ps:Nat->Nat),d<=m.length->bS n m->ef d (10^b) m->eG d (10^u) m->HP m d c ps->(m.length-d<=r\/k<=r)->(gN r b u).1+1<=K->(gN r b u).2+1<=K->10^(gN r b u).1<F ->
   ∃ m' d' ps',fv n F k c d m=some (m',d')/\m'.length=m.length/\d'<=m'.length/\bS n m'/\eG d' (10^(gN r b u).2) m'/\HP m' d' (c+k) ps'/\cH n (bD 0 m) (bD 0 m')
 | 0,c,d,r,b,u,m,ps,hd,hw,hl,hu,hp,hr,h1,h2,hF=>⟨m,d,ps,rfl,rfl,hd,hw,fun i a1 a2=>(hu i a1 a2).mono (lO (Z3A r b u).2),hp,cH.refl _ _⟩
 | k+1,c,d,r,b,u,m,ps,hd,hw,hl,hu,hp,hr,h1,h2,hF=>by
  have hg:=Z3A r b u;by_cases hlt:d<m.length
  ·obtain ⟨r,rfl⟩:∃ r',r=r'+1:=⟨r-1,by omega⟩;have hg1:=Z3A r (4*b+1) (u+4*b+2);have e1:gN (r+1) b u=gN r (4*b+1) (u+4*b+2):=rfl;rw [e1] at hg h1 h2 hF;have p4:=I7_ (4*b);have pb:=I7_ b;have pu:=I7_ u;have hY:2*(3*(10^b*10^b*(10^b*10^b)))+2<10^K:=by
    rw [Z6D];have e2:=V5_ (4*b);have e3:10^(4*b+1)<=10^K:=lO (by omega);omega
   have o5:10^b+2<10^K:=by
    have e2:=V5_ b;have e3:10^(b+1)<=10^K:=lO (by omega);omega
   have sA:10^u+2<10^K:=by
    have e2:=V5_ u;have e3:10^(u+1)<=10^K:=lO (by omega);omega
   have MT:10^b<F:=Nat.lt_of_le_of_lt (lO hg.1) hF;have hC:2*(3*(10^b*10^b*(10^b*10^b)))<=10^(4*b+1):=by
    rw [Z6D,V5_];omega
   have By:10^(4*b+1)<=10^(u+4*b+2):=lO (by omega);have Ei:10^u+(10^u+1)*(2*(3*(10^b*10^b*(10^b*10^b))))<=10^(u+4*b+2):=by
    rw [Z6D];have e2:10^(u+4*b+2)=100*(10^u*10^(4*b)):=by rw [Nat.pow_succ,Nat.pow_succ,Nat.pow_add];omega
    have e3:10^u<=10^u*10^(4*b):=Nat.le_mul_of_pos_right _ (by omega);have e4:10^(4*b)<=10^u*10^(4*b):=Nat.le_mul_of_pos_left _ (by omega);have e5:(10^u+1)*(2*(3*10^(4*b)))=6*(10^u*10^(4*b))+6*10^(4*b):=by
     rw [Nat.add_mul,Nat.one_mul,Nat.mul_left_comm,Nat.mul_left_comm _ 3];omega
    rw [e2,e5];omega
   rcases Z4C (n:=n) (c:=c) (F:=F) hK (by omega) hY o5 sA MT hlt hw hl hu with ⟨hs,hz⟩ | ⟨m',hs,s⟩
   ·have yU:m.length-d<=r+1\/k<=r+1:=by omega
    have rF:HP m d (c+1) ps:=⟨fun i hi=>by have:=hp.lt i hi;omega,hp.mono,hp.zero,hp.pos,hp.red,fun i a1 a2 c' hc=>by
     by_cases pd:c'=c
     ·rw [pd];exact hz i a1 a2
     ·exact hp.rest i a1 a2 c' (by omega)⟩
    obtain ⟨m',d',ps',q1,q2,q3,q4,q5,q6,q7⟩:=A6_ hK k (c+1) d (r+1) b u m ps hd hw hl hu rF yU (by rw [e1];exact h1) (by rw [e1];exact h2) (by rw [e1];exact hF);refine ⟨m',d',ps',?_,q2,q3,q4,q5,by rw [Nat.add_right_comm] at q6;exact q6,q7⟩;rw [fv,if_pos hlt,hs];exact q1
   ·have hk:=o9_ hs hlt hw;have vb:ef (d+1) (10^(4*b+1)) m':=fun i a1 a2=>(s.low i (by omega) a2).mono hC;have zt:eG (d+1) (10^(u+4*b+2)) m':=i1_ s.low s.upp (oI hC By) Ei (d+1);have yU:m'.length-(d+1)<=r\/k<=r:=by have:=s.len;omega
    obtain ⟨m2,d',ps',q1,q2,q3,q4,q5,q6,q7⟩:=A6_ hK k (c+1) (d+1) r (4*b+1) (u+4*b+2) m' _ (by rw [s.len];omega) s.wid vb zt (hp.step hlt hw s hk) yU h1 h2 hF;refine ⟨m2,d',ps',?_,q2.trans s.len,q3,q4,q5,by rw [Nat.add_right_comm] at q6;exact q6,(Z6c hk hlt).trans q7⟩;rw [fv,if_pos hlt,hs];exact q1
  ·refine ⟨m,d,ps,?_,rfl,hd,hw,fun i a1 a2=>(hu i a1 a2).mono (lO hg.2),⟨fun i hi=>by have:=hp.lt i hi;omega,hp.mono,hp.zero,hp.pos,hp.red,fun i a1 a2=>by omega⟩,cH.refl _ _⟩;rw [fv,if_neg hlt]
def iD (n:Nat) (R:List (List Int)) (ps:Nat->Nat):Prop:=bS n R/\HP R R.length n ps
theorem R1_ {m:List (List Int)} {d i:Nat} (h:i<d):aG (m.take d) i=aG m i:=by
 unfold aG;rw [oC,oC,List.getElem?_take,if_pos h]
theorem d7_ {n:Nat} {r:List Int} (hl:r.length=n) (hz:∀ c,c<n->r.getD c 0=0):r=List.replicate n 0:=by
 apply List.ext_getElem (by simpa using hl);intro i h1 h2;have:=hz i (by omega);rw [oC,n9 h1] at this;simpa using this
structure CoK (n d:Nat) (m m':List (List Int)):Prop where
 len:m'.length=m.length
 wid:bS n m'
 sp:cH n (bD d m) (bD d m')
 ahead:∀ i,i<d->aG m' i=aG m i
theorem Z1a {n c d:Nat}:∀ {F:Nat} {m m':List (List Int)} {b:Bool},dU n c d F m=some (m',b)->d<m.length->bS n m->CoK n d m m'
 | 0,m,m',b,h,hd,hw=>by cases h
 | f+1,m,m',b,h,hd,hw=>by
  rw [jL] at h;by_cases hok:cF n m=true
  ·rw [if_pos hok] at h;cases ha:bP c d m (m.length-d) with
   | none =>
    rw [ha] at h;simp only [Option.some.injEq,Prod.mk.injEq] at h;obtain ⟨rfl,-⟩:=h;exact ⟨rfl,hw,cH.refl _ _,fun i _=>rfl⟩
   | some a =>
    rw [ha] at h;simp only at h;obtain ⟨b1,b2,b3,b4⟩:=iG ha;have pN:a<m.length:=by omega
    have hsl:=kd m d a;have yO:bS n (bR m d a):=by
     intro i hi;rw [mO hd pN]
     split
     ·exact hw d hd
     ·split
      ·exact hw a pN
      ·exact hw i (by omega)
    cases pI:dA c d (bR m d a) (m.length-(d+1)) with
    | none=>rw [pI] at h;cases h
    | some y =>
     obtain ⟨m2,rest⟩:=y;rw [pI] at h;obtain ⟨l1,l2,l3⟩:=ky pI (by omega);have pZ:bS n m2:=fun i hi=>by rw [l3 i];exact yO i (by omega)
     have hsp:cH n (bD d m) (bD d m2):=(Z2X hd pN b1).trans (Z1k pI (by omega));have DI:∀ i,i<d->aG m2 i=aG m i:=fun i hi=>by
      rw [l2 i (.inl (by omega)),mO hd pN,if_neg (by omega),if_neg (by omega)]
     cases rest with
     | true =>
      simp only at h;have s:=Z1a h (by omega) pZ;refine ⟨by rw [s.len,l1,hsl],s.wid,hsp.trans s.sp,fun i hi=>?_⟩;rw [s.ahead i hi,DI i hi]
     | false =>
      simp only [Option.some.injEq,Prod.mk.injEq] at h;obtain ⟨rfl,-⟩:=h;exact ⟨by rw [l1,hsl],pZ,hsp,DI⟩
  ·rw [if_neg hok] at h;cases h
structure fo (m:List (List Int)) (d c:Nat) (ps:Nat->Nat):Prop where
 lt:∀ i,i<d->ps i<c
 mono:∀ i j,i<j->j<d->ps i<ps j
 zero:∀ i,i<d->∀ c',c'<ps i->aF m i c'=0
 ne:∀ i,i<d->aF m i (ps i)≠0
 rest:∀ i,d<=i->i<m.length->∀ c',c'<c->aF m i c'=0
theorem fo.nil (m:List (List Int)) (ps:Nat->Nat):fo m 0 0 ps:=⟨fun i h=>by omega,fun i j _ h=>by omega,fun i h=>by omega,fun i h=>by omega,fun i _ _ c' h=>by omega⟩
theorem fo.next {m:List (List Int)} {d c:Nat} {ps:Nat->Nat} (h:fo m d c ps) (hz:∀ i,d<=i->i<m.length->aF m i c=0):fo m d (c+1) ps :=
 ⟨fun i hi=>by have:=h.lt i hi;omega,h.mono,h.zero,h.ne,fun i h1 h2 c' hc=>by
  by_cases e:c'=c
  ·rw [e];exact hz i h1 h2
  ·exact h.rest i h1 h2 c' (by omega)⟩
theorem fo.step {n c d C U:Nat} {m m':List (List Int)} {ps:Nat->Nat} (h:fo m d c ps) (hd:d<m.length) (hw:bS n m) (s:CoR n d c C U m m') (k:CoK n d m m'):fo m' (d+1) (c+1) (fun i=>if i<d then ps i else c):=by
 have hz:∀ i,d<=i->i<m'.length->∀ c',c'<c->aF m' i c'=0:=by
  intro i h1 h2 c' hc;have hi:Sp n (bD d m) (aG m' i):=k.sp.2 _ (bf h1 h2);exact hi.zeroCol (fH hw) (by rintro r ⟨j,j1,j2,rfl⟩;exact h.rest j j1 j2 c' hc)
 have pX:∀ i,i<d->∀ c',aF m' i c'=aF m i c':=fun i hi c'=>by unfold aF;rw [k.ahead i hi]
 refine ⟨fun i hi=>?_,fun i j qK hj=>?_,fun i hi c' hc=>?_,fun i hi=>?_,fun i h1 h2 c' hc=>?_⟩
 ·split
  ·rename_i qR;have:=h.lt i qR;omega
  ·omega
 ·rw [if_pos (show i<d by omega)]
  split
  ·rename_i qR;exact h.mono i j qK qR
  ·exact h.lt i (by omega)
 ·split at hc
  ·rename_i qR;rw [pX i qR c'];exact h.zero i qR c' hc
  ·obtain rfl:i=d:=by omega
   exact hz i (oJ _) (by rw [s.len];exact hd) c' hc
 ·split
  ·rename_i qR;rw [pX i qR];exact h.ne i qR
  ·obtain rfl:i=d:=by omega
   exact s.pos
 ·by_cases pd:c'=c
  ·rw [pd];exact s.zero i (by omega) (by rw [<- s.len];exact h2)
  ·exact hz i (by omega) h2 c' (by omega)
theorem Z5P {n d:Nat} {m m':List (List Int)} (k:CoK n d m m'):cH n (bD 0 m) (bD 0 m'):=by
 have hdm:∀ {x:List (List Int)} {r},bD d x r->bD 0 x r:=fun ⟨i,h1,h2,h3⟩=>⟨i,by omega,h2,h3⟩
 constructor
 ·rintro r ⟨i,-,h2,rfl⟩;by_cases hi:i<d
  ·rw [<- k.ahead i hi];exact .mem (bf (by omega) (by rw [k.len];exact h2))
  ·exact (k.sp.1 _ (bf (by omega) h2)).mono fun r hr=>.mem (hdm hr)
 ·rintro r ⟨i,-,h2,rfl⟩;have h3:i<m.length:=by rw [<- k.len];exact h2
  by_cases hi:i<d
  ·rw [k.ahead i hi];exact .mem (bf (by omega) h3)
  ·exact (k.sp.2 _ (bf (by omega) h2)).mono fun r hr=>.mem (hdm hr)
def eN (e:Nat):Nat->Nat
 | 0=>e
 | c+1=>4*eN e c+1
theorem Z6E (e:Nat):2*(3*(10^e*10^e*(10^e*10^e)))<=10^(4*e+1):=by
 have:10^e*10^e*(10^e*10^e)=10^(4*e):=by rw [<- Nat.pow_add,<- Nat.pow_add];congr 1;omega
 rw [this,Nat.pow_succ];omega
structure Z6P (N C e:Nat) (m m':List (List Int)) (d c:Nat) (ps:Nat->Nat):Prop where
 len:m'.length=m.length
 le:d<=m'.length
 lec:d<=c
 wid:bS N m'
 bnd:∀ i,i<m'.length->cw (10^eN e c) (aG m' i)
 sp:cH N (bD 0 m) (bD 0 m')
 ech:fo m' d c ps
theorem V2_ {N F e:Nat} {m:List (List Int)} (hw:bS N m) (hb:∀ i,i<m.length->cw (10^e) (aG m i)):∀ c,eN e (c+1)+1<=400000000->10^eN e c<F->∃ m' d ps,fP N F m c=some (m',d)/\Z6P N c e m m' d c ps
 | 0,_,_=>⟨m,0,fun _=>0,rfl,⟨rfl,Nat.zero_le _,oJ _,hw,hb,cH.refl _ _,fo.nil m _⟩⟩
 | c+1,h1,hF=>by
  have hE:eN e (c+1)=4*eN e c+1:=rfl;have oY:eN e (c+1+1)=4*eN e (c+1)+1:=rfl;have yI:10^eN e c<F:=Nat.lt_of_le_of_lt (Nat.pow_le_pow_right (by decide) (by omega)) hF;obtain ⟨m1,d,ps,e1,k1⟩:=V2_ hw hb c (by omega) yI;have xE:∀ r,cw (10^eN e c) r->cw (10^eN e (c+1)) r:=fun r hr=>hr.mono (Nat.pow_le_pow_right (by decide) (by omega));by_cases hd:d<m1.length
  ·have vb:ef d (10^eN e c) m1:=fun i _ h3=>k1.bnd i h3;have zt:eG d (10^eN e c) m1:=fun i h2 h3=>k1.bnd i (by omega);obtain ⟨x,hx⟩:∃ x,x=eN e c:=⟨_,rfl⟩;have q4:=Z6E (eN e c);have g1:10^(4*eN e c+1)+2<10^(4*eN e c+2):=by
    rw [Nat.pow_succ 10 (4*eN e c+1),Nat.pow_succ 10 (4*eN e c)];have:=Nat.pow_pos (n:=4*eN e c) (show 0<10 by decide);omega
   have g2:10^eN e c<=10^(4*eN e c+1):=Nat.pow_le_pow_right (by decide) (by omega);rcases Z5Q (n:=N) (c:=c) (F:=F) (K:=4*eN e c+2) (by omega) (by omega) (Nat.lt_of_le_of_lt (Nat.add_le_add_right q4 2) g1) (Nat.lt_of_le_of_lt (Nat.add_le_add_right g2 2) g1) (Nat.lt_of_le_of_lt (Nat.add_le_add_right g2 2) g1) yI hd k1.wid vb zt with ⟨hc,hz⟩ | ⟨m2,hc,hr⟩
   ·refine ⟨m1,d,ps,by rw [kN,e1];simp only;rw [hc];rfl,⟨k1.len,k1.le,by have:=k1.lec;omega,k1.wid,fun i hi=>xE _ (k1.bnd i hi),k1.sp,k1.ech.next hz⟩⟩
   ·have hk:=Z1a hc hd k1.wid;refine ⟨m2,d+1,_,by rw [kN,e1];simp only;rw [hc];rfl,⟨by rw [hr.len,k1.len],by rw [hr.len];omega,by have:=k1.lec;omega,hr.wid,fun i hi=>?_,k1.sp.trans (Z5P hk),k1.ech.step hd k1.wid hr hk⟩⟩;by_cases hi2:i<d
    ·exact xE _ (hr.upp i hi2 hi)
    ·exact (hr.low i (by omega) hi).mono (by rw [hE];exact q4)
  ·have hz:∀ i,d<=i->i<m1.length->aF m1 i c=0:=fun i h2 h3=>by omega
   have hc:dU N c d F m1=some (m1,false):=by
    have OE:0<F:=Nat.lt_of_le_of_lt (Nat.zero_le _) yI;obtain ⟨f,rfl⟩:∃ f,F=f+1:=⟨F-1,by omega⟩;have hok:cF N m1=true:=mF (K:=eN e c+1) (B:=10^eN e c) (U:=10^eN e c) (d:=0) (by omega) (by omega) k1.wid (fun i _ h3=>k1.bnd i h3) (fun i h2 _=>by omega) (by rw [Nat.pow_succ];have:=Nat.pow_pos (n:=eN e c) (show 0<10 by decide);omega) (by rw [Nat.pow_succ];have:=Nat.pow_pos (n:=eN e c) (show 0<10 by decide);omega);rw [jL,if_pos hok,show m1.length-d=0 by omega];rfl
   exact ⟨m1,d,ps,by rw [kN,e1];simp only;rw [hc];rfl,⟨k1.len,k1.le,by have:=k1.lec;omega,k1.wid,fun i hi=>xE _ (k1.bnd i hi),k1.sp,k1.ech.next hz⟩⟩
theorem D3_:∀ (r:List Int),an 1 r r=List.replicate r.length 0
 | []=>rfl
 | a::r=>by
  have e:an 1 (a::r) (a::r)=(a-1*a)::an 1 r r:=rfl;rw [e,D3_ r,List.length_cons,List.replicate_succ];congr 1;omega
theorem D4_ (k t u:Int):∀ (r s x:List Int),r.length=x.length->s.length=x.length->an (t-k*u) (an k r s) x=an k (an t r x) (an u s x)
 | [],[],[],_,_=>rfl
 | [],_::_,[],_,h2=>by simp at h2
 | _::_,_,[],h1,_=>by simp at h1
 | [],_,_::_,h1,_=>by simp at h1
 | _::_,[],_::_,_,h2=>by simp at h2
 | a::r,b::s,c::x,h1,h2=>by
  have e:an (t-k*u) (an k (a::r) (b::s)) (c::x)=(a-k*b-(t-k*u)*c)::an (t-k*u) (an k r s) x:=rfl;have e2:an k (an t (a::r) (c::x)) (an u (b::s) (c::x))=(a-t*c-k*(b-u*c))::an k (an t r x) (an u s x):=rfl;rw [e,e2,D4_ k t u r s x (by simpa using h1) (by simpa using h2),Int.sub_mul,Int.mul_sub,Int.mul_assoc];congr 1;omega
theorem Sp.peel {n d:Nat} {R:List (List Int)} (hW:bS n R) (hd:d<R.length) {v:List Int} (h:Sp n (bD d R) v):∃ t,Sp n (bD (d+1) R) (an t v (aG R d)):=by
 induction h with
 | zero=>exact ⟨0,by rw [jr];exact .zero⟩
 | mem h =>
  obtain ⟨i,h1,h2,rfl⟩:=h;by_cases hi:i=d
  ·exact ⟨1,by rw [hi,D3_,hW d hd];exact .zero⟩
  ·exact ⟨0,by rw [jr];exact .mem (bf (by omega) h2)⟩
 | less k h h' ih ih' =>
  obtain ⟨t,ht⟩:=ih;obtain ⟨u,hu⟩:=ih';refine ⟨t-k*u,?_⟩;rw [D4_ k t u _ _ _ (by rw [h.len (fH hW),hW d hd]) (by rw [h'.len (fH hW),hW d hd])];exact .less k ht hu
theorem Sp.first {n d:Nat} {R:List (List Int)} {ps:Nat->Nat} (hR:iD n R ps) (hd:d<R.length) {v:List Int} (h:Sp n (bD d R) v):∃ t,v.getD (ps d) 0=t*aF R d (ps d)/\Sp n (bD (d+1) R) (an t v (aG R d)):=by
 obtain ⟨t,ht⟩:=h.peel hR.1 hd;refine ⟨t,?_,ht⟩
 have h0:(an t v (aG R d)).getD (ps d) 0=0:=ht.zeroCol (fH hR.1) (by
  rintro r ⟨i,h1,h2,rfl⟩
  exact hR.2.zero i h2 (ps d) (hR.2.mono d i (by omega) h2))
 rw [jS t (by rw [h.len (fH hR.1),hR.1 d hd])] at h0;unfold aF;omega
theorem Sp.none {n d:Nat} {R:List (List Int)} (hW:bS n R) (hd:R.length<=d) {v:List Int} (h:Sp n (bD d R) v):v=List.replicate n 0 :=
 d7_ (h.len (fH hW)) fun c _=>h.zeroCol (fH hW) (by rintro r ⟨i,h1,h2,rfl⟩;omega)
theorem o3_ {t p:Int} (hp:0<p) (h1:-p<t*p) (h2:t*p<p):t=0:=by
 rcases Int.lt_trichotomy t 0 with h | h | h
 ·have:t*p<=(-1)*p:=Int.mul_le_mul_of_nonneg_right (by omega) (by omega);omega
 ·exact h
 ·have:1*p<=t*p:=Int.mul_le_mul_of_nonneg_right (by omega) (by omega);omega
theorem Sp.small {n:Nat} {R:List (List Int)} {ps:Nat->Nat} (hR:iD n R ps) {v:List Int}:∀ (k d:Nat),R.length-d=k->Sp n (bD d R) v->(∀ i,d<=i->i<R.length->-aF R i (ps i)<v.getD (ps i) 0/\v.getD (ps i) 0<aF R i (ps i))->v=List.replicate n 0
 | 0,d,hk,h,hs=>h.none hR.1 (by omega)
 | k+1,d,hk,h,hs=>by
  obtain ⟨t,e,ht⟩:=h.first hR (by omega)
  have hsd:=hs d (oJ _) (by omega);rw [e] at hsd;have h0:t=0:=o3_ (hR.2.pos d (by omega)) hsd.1 hsd.2;rw [h0,jr] at ht;exact Sp.small hR k (d+1) (by omega) ht fun i h1 h2=>hs i (by omega) h2
theorem Sp.lead {n c:Nat} {R:List (List Int)} {ps:Nat->Nat} (hR:iD n R ps) {v:List Int} (hc:v.getD c 0≠0) (hz:∀ c',c'<c->v.getD c' 0=0):∀ (k d:Nat),R.length-d=k->Sp n (bD d R) v->∃ i t,d<=i/\i<R.length/\ps i=c/\v.getD c 0=t*aF R i c
 | 0,d,hk,h=>absurd (h.zeroCol (fH hR.1) (by rintro r ⟨i,h1,h2,rfl⟩;omega)) hc
 | k+1,d,hk,h=>by
  obtain ⟨t,e,ht⟩:=h.first hR (by omega)
  rcases Nat.lt_trichotomy (ps d) c with hl | hl | hl
  ·rw [hz _ hl] at e;have hp:=hR.2.pos d (by omega);have h0:t=0:=o3_ hp (by omega) (by omega);rw [h0,jr] at ht;obtain ⟨i,t',h1,h2,h3⟩:=Sp.lead hR hc hz k (d+1) (by omega) ht;exact ⟨i,t',by omega,h2,h3⟩
  ·exact ⟨d,t,oJ _,by omega,hl,by rw [<- hl];exact e⟩
  ·refine absurd (h.zeroCol (fH hR.1) ?_) hc;rintro r ⟨i,h1,h2,rfl⟩;refine hR.2.zero i h2 c ?_;by_cases hi:i=d
   ·rw [hi];exact hl
   ·have:=hR.2.mono d i (by omega) h2;omega
theorem cH.symm {n:Nat} {S T:List Int->Prop} (h:cH n S T):cH n T S:=⟨h.2,h.1⟩
theorem G6_ (x:Int) (w:World):Calls prog 188 #[.int .i64 x] w fun e w'=>e=.returned (.bool (x != 0))/\w=w':=by
 go_enter func188,ntmps188
 go_wp2
 go_ret;exact ⟨rfl,rfl⟩
theorem z6_ (xs:List Int) (v:Value) (w:World) (h:au w v xs) :
  oW 140 #[v] w (.int .i64 (gT (· != 0) xs)):=by
 have HC:=n8 (X5_ xs v 188 #[] (· != 0) w h (enters_of func188 (by kernel_rfl) rfl) (fun W x _ _=>(G6_ x W).mono fun _ _ ⟨he,hw⟩=>⟨he,hw▸aC.refl _⟩));clear h
 go_enter func140,ntmps140
 go_wp2_with (go_at_call 116;refine HC.mono ?_;rintro e w' ⟨rfl,wM⟩);go_ret;exact ⟨rfl,by assumption⟩
end Go.Proofs.YtjlkkofmojgipaaGreatDoor
